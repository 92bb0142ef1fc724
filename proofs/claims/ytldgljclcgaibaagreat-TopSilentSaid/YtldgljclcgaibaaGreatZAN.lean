/-
  Parts of the proof: TDg TDh TWk QB N5 TLr TLs TLt
-/
import Derived.Test.YtldgljclcgaibaaGreatZAE
import Derived.Test.YtldgljclcgaibaaGreatZAG
import Derived.Test.YtldgljclcgaibaaGreatZAJ
import Derived.Test.YtldgljclcgaibaaGreatZAK
import Derived.Test.YtldgljclcgaibaaGreatZAM
open Nat renaming beq→ww,ble→wd
open Int renaming toNat→ws,ofNat→wl,tdiv→t7
open Sum renaming inl→wr,inr→wn,elim→t8
set_option linter.all false
set_option maxRecDepth 100000
set_option maxHeartbeats 4000000
namespace Go.Proofs.YtldgljclcgaibaaGreat
open Go.Ab Go.Ab.Pg
theorem G5 {α:Type}(f:Nat->α)(y j:Nat)(v:α):(bif ww j y then v else f j)=if j=y then v else f j:=by
 by_cases h:j=y
 .rw[if_pos h,h,Lv];rfl
 .rw[if_neg h];cases e:ww j y
  .rfl
  .exact absurd (nQ e) h
theorem aCU {α:Type}(i y:Nat)(a b:α):(bif ww i y then a else b)=if i=y then a else b:=by
 exact G5 (λ_=>b) y i a
def okV (d:Int):Prop:=d=17592186044416∨d=68719476736∨d=67108864∨d=4294967296∨d=17179869184
theorem okV.le {d:Int}(h:okV d):1<=d/\d<=72057594037927936:=by
 rcases h with rfl|rfl|rfl|rfl|rfl<;>decide
theorem afc (x lo hi:Int)(b:Bool)(h:lo<=x)(k:x<=hi):bc x lo hi b=some (x,b):=by
 have h1:decide (lo>hi)=false:=dm (by omega);have h2:decide (x<lo)=false:=dm (by omega);have h3:decide (x>hi)=false:=dm (by omega);unfold bc ya;rw[h1,h2,h3];rfl
theorem QN {x:Int}(h: -1152921504606846976<=x/\x<=1152921504606846976):sat x=x:=(aST h).1
theorem IZ {x:Int}(h: -1152921504606846976<=x/\x<=1152921504606846976):fU x=false:=(aST h).2
theorem aLQ (w x:Int)(b:Bool)(hw:w=0∨w=1073741824)(hx: -1152921504606846976<=x/\x<=1152921504606846976):aV w x 30 b=some (if w=0 then 0 else x,b):=by
 have h:=aOx w x 30 b (by decide);have e1:sat w=w:=QN (by omega);have e2:fU w=false:=IZ (by omega)
 have r:ND (w*x) 30=(if w=0 then 0 else x):=by
  rcases hw with rfl|rfl
  .rw[afx,if_pos rfl];rfl
  .rw[if_neg (by decide),AE];exact aOz x
 have hr: -1152921504606846976<=(if w=0 then 0 else x)/\(if w=0 then 0 else x)<=1152921504606846976:=by split<;>omega
 rw[e1,e2,QN hx,IZ hx,r,QN hr,IZ hr,Sr,Sr,Sr] at h;exact h
theorem div_zero (d:Int)(b:Bool)(h:okV d):bo 0 d 30 b=some (0,b):=by
 rcases h with rfl|rfl|rfl|rfl|rfl<;>cases b<;>kernel_rfl
theorem sub_zero (x:Int)(b:Bool)(h: -1152921504606846976<=x/\x<=1152921504606846976):bP x 0 b=some (x,b):=by
 have z:sat 0=0:=QN (by decide);have zo:fU 0=false:=IZ (by decide);simp only[bP,Il,Pg.cG,Pg.cg,qN,bL,QN h,IZ h,z,zo,Sr,Int.sub_zero];rw[eF (by omega) (by omega),QN h,IZ h,Sr]
theorem aBv {f g:Nat->Int}:∀n,(∀j,j<n->f j=g j)->As f n=As g n
 |0,_=>rfl
 |n+1,h=>by
  show As f n+f n=As g n+g n;rw[aBv n (λj hj=>h j (by omega)),h n (by omega)]
theorem aOZ {f:Nat->Bool}:∀n,(∀j,j<n->f j=false)->Gk f n=false
 |0,_=>rfl
 |n+1,h=>by
  show(Gk f n||f n)=false;rw[aOZ n (λj hj=>h j (by omega)),h n (by omega)];rfl
theorem aI0 {f:Nat->Int}(k:Nat):∀n,(∀j,j<n->j≠k->f j=0)->As f n=if k<n then f k else 0
 |0,_=>by rw[if_neg (by omega)];rfl
 |n+1,h=>by
  show As f n+f n=_;rw[aI0 k n (λj hj=>h j (by omega))];by_cases e:n=k
  .subst e;rw[if_neg (by omega),if_pos (by omega),aso]
  .rw[h n (by omega) e,Int.add_zero];by_cases c:k<n
   .rw[if_pos c,if_pos (by omega)]
   .rw[if_neg c,if_neg (by omega)]
theorem aF9 (n k:Nat)(hn:n<=100)(hk:k<n)(V:Int)(b w w':Bool)(f g:Nat->Int)(hf:∀j,j<n-> -1152921504606846976<=f j/\f j<=1152921504606846976)(hg:∀j,j<n-> -1152921504606846976<=g j/\g j<=1152921504606846976)
  (hz:∀j,j<n->j≠k->f j*g j=0)(hV:f k*g k=V*1073741824)(r: -1152921504606846976<=V/\V<=1152921504606846976):bu 30 n n b f g w w'=some (V,b):=by
 have h:=aOy 30 (by decide) n hn b f g w w'
 have e:As (λj=>sat (f j)*sat (g j)) n=V*1073741824:=by
  rw[aBv n (λj hj=>by show sat (f j)*sat (g j)=f j*g j;rw[QN (hf j hj),QN (hg j hj)]:∀j,j<n->(λj=>sat (f j)*sat (g j)) j=(λj=>f j*g j) j),aI0 k n hz,if_pos hk,hV]
 have a:Gk (λj=>fU (f j)||fU (g j)) n=false:=aOZ n λj hj=>by
  show(fU (f j)||fU (g j))=false;rw[IZ (hf j hj),IZ (hg j hj)];rfl
 rw[e,a,aOz,QN r,IZ r,Sr,Sr] at h;exact h
theorem aYY (x:Int)(b:Bool)(h:1<=x)(k:x<=72057594037927936):ot x b=some (x,b):=by
 unfold ot Jf;rw[Pg.cG,afc x 1 72057594037927936 b h k];rfl
theorem aYZ (x:Int)(b:Bool)(h:1<=x)(k:x<=72057594037927936):pM x b=some (x,b):=by
 unfold pM EG;rw[Pg.cG,afc x 1 72057594037927936 b h k];rfl
theorem a0q (x:Int)(h:0<=x)(k:x<24):yM x=some true:=by
 have h1:decide (x>=0)=true:=eT h;have h2:decide (x<24)=true:=eT k;unfold yM Rc;rw[h1,h2];rfl
theorem a0r:∀j:Nat,j<24->0<=wI (t7 (wI ((j:Int)*wI ((j:Int)-1))) 2)/\wI (t7 (wI ((j:Int)*wI ((j:Int)-1))) 2)+(j:Int)<=276+(if j=0 then 1 else 0):=by decide
theorem aUA {i j:Int}{d:UW}(h:kC i j=some d)(ok:d.2=true):0<=d.1/\d.1<276:=by
 simp only[kC,GD,cg,bS] at h;by_cases h0:0<=i
 .by_cases h1:i<j
  .simp only[Gp,h0,h1,I0,bz,je] at h;subst h;have h2:j<24:=cQ ok;obtain⟨n,rfl⟩:=Int.eq_ofNat_of_zero_le (by omega:0<=j);obtain⟨k1,k2⟩:=a0r n (by omega);rw[if_neg (by omega)] at k2;generalize wI (t7 (wI ((n:Int)*wI ((n:Int)-1))) 2)=c at*
   show 0<=wI (c+i)/\wI (c+i)<276;rw[eF (by omega) (by omega)];omega
  .simp only[Gp,h0,h1,I0,JQ,bz,bH,je] at h;subst h;cases ok
 .simp only[Gp,h0,JQ,bH,je] at h;subst h;cases ok
theorem aI1 (i j:Nat)(h:i<j)(k:j<24):∃p:Int,kC i j=some (p,true)/\0<=p/\p<276:=by
 have c1:decide ((i:Int)>=0)=true:=eT (by omega);have c2:decide ((i:Int)<(j:Int))=true:=eT (by omega);have c3:decide ((j:Int)<24)=true:=eT (by omega)
 have e:kC i j=some (wI (wI (t7 (wI ((j:Int)*wI ((j:Int)-1))) 2)+(i:Int)),true):=by
  unfold kC GD;rw[c1,c2,c3];rfl
 refine⟨_,e,?_⟩;have:=aUA e rfl;exact this
theorem aO0 (U D:Nat->Int)(hU:∀p,p<276->U p=0)(i j:Nat)(h:i<=j)(k:j<24):Fl U D i j=some (if i=j then 1073741824 else 0):=by
 unfold Fl au8;by_cases e:i=j
 .subst e;have c0:((i:Int)==(i:Int))=true:=by simp
  have c1:decide ((i:Int)>=0)=true:=eT (by omega);have c2:decide ((i:Int)<24)=true:=eT (by omega);rw[c0,c1,c2,if_pos rfl];rfl
 .have c0:((i:Int)==(j:Int))=false:=by simp;omega
  obtain⟨p,hp,p0,p1⟩:=aI1 i j (by omega) k;have c1:bb p 276=true:=by rw[bk];omega
  have c2:wd (0+ws p*1+1) 276=true:=by rw[bY];omega
  rw[c0,if_neg e,Pg.bS,bH,Pg.cG,hp,bL];simp only[JP,c1,c2,Pg.bS,bH,bz,Pg.cg];rw[hU _ (by omega)]
theorem aHx (D:Nat->Int)(i j:Nat)(h:i<j)(k:j<24):zM (λ_=>0) D i j 0=some (λ_=>0,D):=by
 obtain⟨p,hp,p0,p1⟩:=aI1 i j h k;have c1:bb p 276=true:=by rw[bk];omega
 have c2:(wd (0+ws p*1+1) 276&&wd (0+ws p*1+1) 300)=true:=by rw[cx,bY,bY];omega
 unfold zM agF;rw[Pg.cG,hp,bL];dsimp only;rw[c1,c2];simp only[Pg.bS,bz,Pg.cg];have e:(λj:Nat=>bif ww j (ws p) then(0:Int) else 0)=λ_=>0:=funext λj=>by cases ww j (ws p)<;>rfl
 exact ck some (Prod.ext e rfl)
theorem a12 (b:Bool)(D:Nat->Int)(hD:∀i,i<24->1<=D i/\D i<=72057594037927936):∀(d:gR.B) (hd:0<=d.1/\d.1<=24/\d.2.1=b/\(∀p,p<276->d.2.2.1.1 p=0)/\∀i,i<24->d.2.2.1.2 i=D i),Ok (BX d) (λx:qZ=>x.2.1=b/\(∀p,p<276->x.2.2.1.1 p=0)/\∀i,i<24->x.2.2.1.2 i=D i):=
 bp (λd:gR.B=>ws (24-d.1)) (λd hd=>by
  obtain⟨i0,i1,i2,i3,i4⟩:=hd;have hw:wI (d.1+1)=d.1+1:=aY;unfold BW;dsimp only;rw[aK];refine⟨λh=> ?_,λ_=>by rw[av];exact⟨i2,i3,i4⟩⟩;have h:=cQ h;have r0:bb d.1 24=true:=by rw[bk];omega
  have r1:(true&&wd (276+ws d.1*1+1) 300)=true:=by rw[pw,bY];omega
  have k:=i4 (ws d.1) (by omega);have hd:=hD (ws d.1) (by omega);rw[r0,aC,aYY _ _ (by omega) (by omega),bT,aC,r1,aC,av,hw];refine⟨⟨by show 0<=d.1+1;omega,by show d.1+1<=24;omega,i2,i3,λi hi=> ?_⟩,by show ws (24-(d.1+1))<_;omega⟩;show(bif ww i (ws d.1) then d.2.2.1.2 (ws d.1) else d.2.2.1.2 i)=D i;rw[G5];split
  .rename_i e;rw[e,k]
  .exact i4 i hi) (λd hd=>by omega)
theorem a13 (b:Bool)(D:Nat->Int):∀(d:gT.B) (hd:0<=d.1/\d.1<=276/\d.2.1=b/\(∀p,p<276->d.2.2.1.1 p=0)/\∀i,i<24->d.2.2.1.2 i=D i),Ok (BZ d) (λx:rb=>x.2.1=b/\(∀p,p<276->x.2.2.1.1 p=0)/\∀i,i<24->x.2.2.1.2 i=D i):=
 bp (λd:gT.B=>ws (276-d.1)) (λd hd=>by
  obtain⟨i0,i1,i2,i3,i4⟩:=hd;have hw:wI (d.1+1)=d.1+1:=aY;unfold BY;dsimp only;rw[aK];refine⟨λh=> ?_,λ_=>by rw[av];exact⟨i2,i3,i4⟩⟩;have h:=cQ h;have r0:bb d.1 276=true:=by rw[bk];omega
  have r1:wd (0+ws d.1*1+1) 276=true:=by rw[bY];omega
  have r2:wd (0+ws d.1*1+1) 300=true:=by rw[bY];omega
  rw[r0,r1,r2,i3 (ws d.1) (by omega),aC,aC,afc 0 _ _ _ (by decide) (by decide),bT,aC,pw,aC,av,hw];refine⟨⟨by show 0<=d.1+1;omega,by show d.1+1<=276;omega,i2,λi hi=> ?_,i4⟩,by show ws (276-(d.1+1))<_;omega⟩;show(bif ww i (ws d.1) then 0 else d.2.2.1.1 i)=0;rw[G5];split
  .rfl
  .exact i3 i hi) (λd hd=>by omega)
theorem aRT (U D:Nat->Int)(b:Bool)(hU:∀p,p<276->U p=0)(hD:∀i,i<24->1<=D i/\D i<=72057594037927936):Ok (jL U D b) (λr:OK=>r.2=b/\(∀p,p<276->r.1.1 p=0)/\∀i,i<24->r.1.2 i=D i):=by
 unfold jL GA;show PQ _ _;refine ay (a12 b D hD _ ⟨dg 0,(show(0:Int)<=24 by decide),rfl,hU,λ_ _=>rfl⟩) λx _ hx=> ?_;refine ay (a13 b D _ ⟨dg 0,(show(0:Int)<=276 by decide),hx⟩) λy _ hy=> ?_;rw[av];exact hy
theorem a14 (k:Nat)(hk:k<24)(w d:gU.B)(hU:∀p,p<276->w.2.2.2.1.1 p=0)(hd:0<=d.1.2.2.2/\d.1.2.2.2<=d.1.2.2.1/\d.1.2.2.1=(k:Int)+1/\d.1.1=k/\d.1.2.1=k/\d.2.1=w.2.1/\d.2.2.1=w.2.2.1/\d.2.2.2.1=w.2.2.2.1/\d.2.2.2.2.1=w.2.2.2.2.1/\∀m:Nat,m<24->d.2.2.2.2.2 m=if m=k/\(m:Int)<d.1.2.2.2 then 1073741824 else 0):Ok (B7 d) (λx:re=>x.1.1=k/\x.1.2.1=k/\x.2.1=w.2.1/\x.2.2.1=w.2.2.1/\x.2.2.2.1=w.2.2.2.1/\x.2.2.2.2.1=w.2.2.2.2.1/\∀m:Nat,m<24->x.2.2.2.2.2 m=if m=k then 1073741824 else 0):=by
 revert d
 exact bp (λd:gU.B=>ws (d.1.2.2.1-d.1.2.2.2)) (λd hd=>by
  obtain⟨i0,i1,i2,i3,i3',i4,i5,i6,i7,i8⟩:=hd;have hw:wI (d.1.2.2.2+1)=d.1.2.2.2+1:=aY;unfold B6;dsimp only;rw[aK];refine⟨λh=> ?_,λh=> ?_⟩
  .have h:=cQ h;obtain⟨m,hm⟩:∃m:Nat,d.1.2.2.2=(m:Int):=⟨ws d.1.2.2.2,by omega⟩;have r0:bb d.1.2.2.2 24=true:=by rw[bk];omega
   have r1:(true&&wd (0+ws d.1.2.2.2*1+1) 24)=true:=by rw[pw,bY];omega
   rw[r0,r1,i6,i3,hm,aO0 _ _ hU m k (by omega) hk,bT,aC,aC,av];rw[hm] at hw;rw[hw];refine⟨⟨by show 0<=(m:Int)+1;omega,by show(m:Int)+1<=d.1.2.2.1;omega,i2,rfl,i3',i4,i5,rfl,i7,λj hj=> ?_⟩,by show ws (d.1.2.2.1-((m:Int)+1))<_;omega⟩;show(bif ww j (ws (m:Int)) then(if m=k then 1073741824 else 0) else d.2.2.2.2.2 j)=if j=k/\(j:Int)<(m:Int)+1 then 1073741824 else 0
   rw[G5,i8 j hj,hm,Ls];by_cases e1:j=m
   .subst e1;rw[if_pos rfl];by_cases e2:j=k
    .rw[if_pos e2,if_pos ⟨e2,by omega⟩]
    .rw[if_neg e2,if_neg (λh=>e2 h.1)]
   .rw[if_neg e1];by_cases e2:j=k/\(j:Int)<(m:Int)
    .rw[if_pos e2,if_pos ⟨e2.1,by omega⟩]
    .rw[if_neg e2,if_neg (λh=>e2 ⟨h.1,by omega⟩)]
  .have h:=kO h;rw[av];refine⟨i3,i3',i4,i5,i6,i7,λm hm=> ?_⟩;show d.2.2.2.2.2 m=_;rw[i8 m hm];by_cases e:m=k
   .rw[if_pos e,if_pos ⟨e,by omega⟩]
   .rw[if_neg e,if_neg (λh=>e h.1)]) (λd hd=>by omega)
theorem a15 (F:Nat->Int)(hF:∀i,i<24->F i=0∨F i=1073741824)(k:Nat)(hk:k<24)(w d:gV.B)(hf:∀i k,i<24->k<24->w.2.2.1 (i*24+k)=if i=k then F i else 0)(hc:∀m:Nat,m<24->w.2.2.2.2.2 m=if m=k then 1073741824 else 0)(hd:0<=d.1.2.2/\d.1.2.2<=24/\d.1.1=k/\d.1.2.1=k/\d.2.1=w.2.1/\d.2.2.1=w.2.2.1/\d.2.2.2.1=w.2.2.2.1/\d.2.2.2.2.2=w.2.2.2.2.2/\∀i j,i<24->j<48->d.2.2.2.2.1 (i*48+j)=if i=j/\(j<k∨(j=k/\(k:Int)<d.1.2.2)) then F i else 0):Ok (B9 d) (λx:rf=>x.1.2.1=k/\x.2.1=w.2.1/\x.2.2.1=w.2.2.1/\x.2.2.2.1=w.2.2.2.1/\∀i j,i<24->j<48->x.2.2.2.2.1 (i*48+j)=if i=j/\j<k+1 then F i else 0):=by
 revert d
 exact bp (λd:gV.B=>ws (24-d.1.2.2)) (λd hd=>by
  obtain⟨i0,i1,i2,i3,i4,i5,i6,i7,i8⟩:=hd;have hw:wI (d.1.2.2+1)=d.1.2.2+1:=aY;unfold B8;dsimp only;rw[aK];refine⟨λh=> ?_,λh=> ?_⟩
  .have h:=cQ h;obtain⟨m,hm⟩:∃m:Nat,d.1.2.2=(m:Int):=⟨ws d.1.2.2,by omega⟩;have aS9:m<24:=by omega
   have r0:bb d.1.2.2 24=true:=by rw[bk];omega
   have r1:bb d.1.1 48=true:=by rw[bk];omega
   have r2:(true&&wd (0+(ws d.1.2.2*48+ws d.1.1)*1+1) 1152)=true:=by rw[pw,bY];omega
   have bF:∀j,j<24-> -1152921504606846976<=F j/\F j<=1152921504606846976:=λj hj=>by have:=hF j hj;omega
   have dot:bu 30 24 24 d.2.1 (λj=>d.2.2.1 (0+ws d.1.2.2*24+j)) d.2.2.2.2.2 false false=some (if m=k then F k else 0,d.2.1):=by
    have fj:∀j,j<24->d.2.2.1 (0+ws d.1.2.2*24+j)=if m=j then F m else 0:=λj hj=>by
     rw[i5,hm,Ls,gy];exact hf m j aS9 hj
    have gj:∀j,j<24->d.2.2.2.2.2 j=if j=k then 1073741824 else 0:=λj hj=>by rw[i7];exact hc j hj
    refine aF9 24 k (by decide) hk _ _ _ _ _ _ (λj hj=> ?_) (λj hj=> ?_) (λj hj e=> ?_) ?_ ?_
    .show -1152921504606846976<=d.2.2.1 (0+ws d.1.2.2*24+j)/\d.2.2.1 (0+ws d.1.2.2*24+j)<=1152921504606846976;rw[fj j hj];have:=bF m aS9;split<;>omega
    .rw[gj j hj];split<;>omega
    .show d.2.2.1 (0+ws d.1.2.2*24+j)*d.2.2.2.2.2 j=0;rw[gj j hj,if_neg e,Int.mul_zero]
    .show d.2.2.1 (0+ws d.1.2.2*24+k)*d.2.2.2.2.2 k=_;rw[fj k hk,gj k hk,if_pos rfl];by_cases e:m=k
     .subst e;rw[if_pos rfl]
     .rw[if_neg e,if_neg e]
    .have:=bF k hk;split<;>omega
   rw[r0,aC,dot,bT,aC,r1,aC,r2,aC,av,hw];refine⟨⟨by show 0<=d.1.2.2+1;omega,by show d.1.2.2+1<=24;omega,i2,i3,i4,i5,i6,i7,λi j hi hj=> ?_⟩,by show ws (24-(d.1.2.2+1))<_;omega⟩;show(bif ww (i*48+j) (ws d.1.2.2*48+ws d.1.1) then(if m=k then F k else 0) else d.2.2.2.2.1 (i*48+j))=if i=j/\(j<k∨(j=k/\(k:Int)<d.1.2.2+1)) then F i else 0
   rw[G5,i8 i j hi hj,hm,i2,Ls,Ls];by_cases e1:i*48+j=m*48+k
   .have ei:i=m:=by omega
    have ej:j=k:=by omega
    subst ei;subst ej;rw[if_pos e1];by_cases e2:i=j
    .subst e2;rw[if_pos rfl,if_pos ⟨rfl,Or.inr ⟨rfl,by omega⟩⟩]
    .rw[if_neg e2,if_neg (λh=>e2 h.1)]
   .rw[if_neg e1];by_cases e2:i=j/\(j<k∨(j=k/\(k:Int)<(m:Int)))
    .rw[if_pos e2,if_pos (by omega)]
    .rw[if_neg e2,if_neg (by omega)]
  .have h:=kO h;rw[av];refine⟨i3,i4,i5,i6,λi j hi hj=> ?_⟩;show d.2.2.2.2.1 (i*48+j)=_;rw[i8 i j hi hj];by_cases e:i=j/\(j<k∨(j=k/\(k:Int)<d.1.2.2))
   .rw[if_pos e,if_pos (by omega)]
   .rw[if_neg e,if_neg (by omega)]) (λd hd=>by omega)
theorem a16 (F:Nat->Int)(hF:∀i,i<24->F i=0∨F i=1073741824)(w d:gX.B)(hU:∀p,p<276->w.b.2.1.1 p=0)(hf:∀i k,i<24->k<24->w.b.1 (i*24+k)=if i=k then F i else 0)(hd:0<=d.1/\d.1<=24/\d.2.1=w.2.1/\d.b.1=w.b.1/\d.b.2.1=w.b.2.1/\∀i j,i<24->j<48->d.b.2.2 (i*48+j)=if i=j/\(j:Int)<d.1 then F i else 0):Ok (Cd d) (λx:rj=>x.2.1=w.2.1/\x.b.1=w.b.1/\∀i j,i<24->j<48->x.b.2.2 (i*48+j)=if i=j/\j<24 then F i else 0):=by
 revert d
 exact bp (λd:gX.B=>ws (24-d.1)) (λd hd=>by
  obtain⟨i0,i1,i2,i3,i4,i5⟩:=hd;unfold Cc;dsimp only;rw[aK];refine⟨λh=> ?_,λh=> ?_⟩
  .have h:=cQ h;obtain⟨k,hk⟩:∃m:Nat,d.1=(m:Int):=⟨ws d.1,by omega⟩;have a1r:k<24:=by omega
   have hw:wI (d.1+1)=(k:Int)+1:=by rw[hk];exact aY (by omega) (by omega)
   refine ay (a14 k a1r ((d.1,d.1,wI (d.1+1),0),d.2.1,d.b.1,d.b.2.1,d.b.2.2,λx=>0) _ (by show∀p,p<276->d.b.2.1.1 p=0;rw[i4];exact hU) ⟨dg 0,by show 0<=wI (d.1+1);omega,hw,hk,hk,rfl,rfl,rfl,rfl,λm hm=>by show(0:Int)=_;rw[if_neg (by show ¬(m=k/\(m:Int)<0);omega)]⟩) λx _ hx=> ?_;obtain⟨a0,a1,a2,a3,a4,a5,a6⟩:=hx;have a2:x.2.1=d.2.1:=a2;have a3:x.b.1=d.b.1:=a3;have a4:x.b.2.1=d.b.2.1:=a4;have a5:x.c.1=d.b.2.2:=a5;refine ay (a15 F hF k a1r ((x.1.1,x.1.2.1,0),x.2) _ (by show∀i k,i<24->k<24->x.b.1 (i*24+k)=_;rw[a3,i3];exact hf) a6 ⟨dg 0,(show(0:Int)<=24 by decide),a0,a1,rfl,rfl,rfl,rfl,λi j hi hj=> ?_⟩) λy _ hy=> ?_
   .show x.c.1 (i*48+j)=if i=j/\(j<k∨(j=k/\(k:Int)<0)) then F i else 0
    rw[a5,i5 i j hi hj];by_cases e:i=j/\(j:Int)<d.1
    .rw[if_pos e,if_pos (by omega)]
    .rw[if_neg e,if_neg (by omega)]
   obtain⟨b1,b2,b3,b4,b5⟩:=hy;have b2:y.2.1=x.2.1:=b2;have b3:y.b.1=x.b.1:=b3;have b4:y.b.2.1=x.b.2.1:=b4;have hw2:wI (y.1.2.1+1)=d.1+1:=by rw[b1,hk];exact aY (by omega) (by omega)
   rw[av,hw2];refine⟨⟨by show 0<=d.1+1;omega,by show d.1+1<=24;omega,b2.trans (a2.trans i2),b3.trans (a3.trans i3),b4.trans (a4.trans i4),λi j hi hj=> ?_⟩,by show ws (24-(d.1+1))<_;omega⟩;show y.c.1 (i*48+j)=if i=j/\(j:Int)<d.1+1 then F i else 0
   rw[b5 i j hi hj];by_cases e:i=j/\j<k+1
   .rw[if_pos e,if_pos (by omega)]
   .rw[if_neg e,if_neg (by omega)]
  .have h:=kO h;rw[av];refine⟨i2,i3,λi j hi hj=> ?_⟩;show d.b.2.2 (i*48+j)=_;rw[i5 i j hi hj];by_cases e:i=j/\j<24
   .rw[if_pos e,if_pos (by omega)]
   .rw[if_neg e,if_neg (by omega)]) (λd hd=>by omega)
theorem a17 (F:Nat->Int)(b:Bool):∀(d:gW.B) (hd:0<=d.1/\d.1<=24/\d.2.1=b/\∀i k:Nat,i<24->k<48->d.2.2.2 (i*48+k)=if i=k then F i else if k=24+i/\(i:Int)<d.1 then 1073741824 else 0),Ok (Cb d) (λx:ri=>x.2.1=b/\∀i k,i<24->k<48->x.2.2.2 (i*48+k)=if i=k then F i else if k=24+i then 1073741824 else 0):=
 bp (λd:gW.B=>ws (24-d.1)) (λd hd=>by
  obtain⟨i0,i1,i2,i3⟩:=hd;have hw:wI (d.1+1)=d.1+1:=aY;unfold Ca;dsimp only;rw[aK];refine⟨λh=> ?_,λh=> ?_⟩
  .have h:=cQ h;have h1:wI (24+d.1)=24+d.1:=eF;have r0:bb d.1 24=true:=by rw[bk];omega
   have r1:bb (24+d.1) 48=true:=by rw[bk];omega
   have r2:(true&&wd (0+(ws d.1*48+ws (24+d.1))*1+1) 1152)=true:=by rw[pw,bY];omega
   rw[h1,r0,r1,r2,hw,aC,aC,aC,av];refine⟨⟨by show 0<=d.1+1;omega,by show d.1+1<=24;omega,i2,λi k hi hk=> ?_⟩,by show ws (24-(d.1+1))<_;omega⟩;show(bif ww (i*48+k) (ws d.1*48+ws (24+d.1)) then 1073741824 else d.2.2.2 (i*48+k))=if i=k then F i else if k=24+i/\(i:Int)<d.1+1 then 1073741824 else 0
   rw[G5,i3 i k hi hk];by_cases e1:i*48+k=ws d.1*48+ws (24+d.1)
   .rw[if_pos e1,if_neg (by omega),if_pos (by omega)]
   .rw[if_neg e1];by_cases e2:i=k
    .rw[if_pos e2,if_pos e2]
    .rw[if_neg e2,if_neg e2];by_cases e3:k=24+i/\(i:Int)<d.1
     .rw[if_pos e3,if_pos (by omega)]
     .rw[if_neg e3,if_neg (by omega)]
  .have h:=kO h;rw[av];refine⟨i2,λi k hi hk=> ?_⟩;show d.2.2.2 (i*48+k)=_;rw[i3 i k hi hk];by_cases e2:i=k
   .rw[if_pos e2,if_pos e2]
   .rw[if_neg e2,if_neg e2];by_cases e3:k=24+i
    .rw[if_pos e3,if_pos (by omega)]
    .rw[if_neg e3,if_neg (by omega)]) (λd hd=>by omega)
theorem aRU (F U D Fm:Nat->Int)(b:Bool)(hF:∀i,i<24->F i=0∨F i=1073741824)(hU:∀p,p<276->U p=0)(hf:∀i k,i<24->k<24->Fm (i*24+k)=if i=k then F i else 0):Ok (rm U D b Fm) (λr:OP=>r.1=b/\∀i k,i<24->k<48->r.2 (i*48+k)=if i=k then F i else if k=24+i then 1073741824 else 0):=by
 unfold rm GH;show PQ _ _;refine ay (a16 F hF (0,b,Fm,(U,D),λx=>0) _ hU hf ⟨dg 0,(show(0:Int)<=24 by decide),rfl,rfl,rfl,λi j hi hj=>by show(0:Int)=_;rw[if_neg (by show ¬(i=j/\(j:Int)<0);omega)]⟩) λx _ hx=> ?_;obtain⟨a1,a2,a3⟩:=hx;refine ay (a17 F b _ ⟨dg 0,(show(0:Int)<=24 by decide),a1,λi k hi hk=> ?_⟩) λy _ hy=> ?_
 .show x.b.2.2 (i*48+k)=_;rw[a3 i k hi hk];by_cases e:i=k
  .rw[if_pos ⟨e,by omega⟩,if_pos e]
  .rw[if_neg (λh=>e h.1),if_neg e,if_neg (by show ¬(k=24+i/\(i:Int)<0);omega)]
 .rw[av];exact hy
theorem a3J (F:Nat->Int)(hF:∀i,i<24->F i=0∨F i=1073741824)(w d:gY.B)(hi:0<=w.1.1/\w.1.1<24)(hd:0<=d.1.2.2/\d.1.2.2<=24/\d.1.1=w.1.1/\d.1.2.1=w.1.2.1/\d.2.1=w.2.1/\d.b.1=w.b.1/\(∀i k,i<24->k<24->d.b.2.1 (i*24+k)=if i=k then F i else 0)/\d.b.2.2=w.b.2.2):Ok (Cf d) (λx:rq=>x.1.2.1=w.1.2.1/\x.2.1=w.2.1/\x.b.1=w.b.1/\(∀i k,i<24->k<24->x.b.2.1 (i*24+k)=if i=k then F i else 0)/\x.b.2.2=w.b.2.2):=by
 revert d
 exact bp (λd:gY.B=>ws (24-d.1.2.2)) (λd hd=>by
  obtain⟨i0,i1,i2,i3,i4,i5,i6,i7⟩:=hd;have hw:wI (d.1.2.2+1)=d.1.2.2+1:=aY;unfold Ce;dsimp only;rw[aK];refine⟨λh=> ?_,λh=>by rw[av];exact⟨i3,i4,i5,i6,i7⟩⟩;have h:=cQ h;have r0:bb d.1.1 24=true:=by rw[bk,i2];omega
  have r1:bb d.1.2.2 24=true:=by rw[bk];omega
  have r2:(true&&wd (0+(ws d.1.1*24+ws d.1.2.2)*1+1) 576)=true:=by rw[pw,bY,i2];omega
  have v:=i6 (ws d.1.1) (ws d.1.2.2) (by rw[i2];omega) (by omega);have bF:=hF (ws d.1.1) (by rw[i2];omega)
  have s:aR (d.b.2.1 (ws d.1.1*24+ws d.1.2.2)) d.2.1=some (d.b.2.1 (ws d.1.1*24+ws d.1.2.2),d.2.1):=by
   have r: -1152921504606846976<=d.b.2.1 (ws d.1.1*24+ws d.1.2.2)/\d.b.2.1 (ws d.1.1*24+ws d.1.2.2)<=1152921504606846976:=by rw[v];split<;>omega
   rw[qN,QN r,IZ r,Sr]
  rw[r0,r1,r2,aC,aC,s,bT,aC,aC,aC,av,hw];refine⟨⟨by show 0<=d.1.2.2+1;omega,by show d.1.2.2+1<=24;omega,i2,i3,i4,i5,λi k hi hk=> ?_,i7⟩,by show ws (24-(d.1.2.2+1))<_;omega⟩;show(bif ww (i*24+k) (ws d.1.1*24+ws d.1.2.2) then d.b.2.1 (ws d.1.1*24+ws d.1.2.2) else d.b.2.1 (i*24+k))=_;rw[G5];split
  .rename_i e;rw[<-e];exact i6 i k hi hk
  .exact i6 i k hi hk) (λd hd=>by omega)
theorem a3K (F D q:Nat->Int)(b:Bool)(hF:∀i,i<24->F i=0∨F i=1073741824)(w d:hO.B)(hD:∀i,i<24->w.b.1.2 i=D i)(hq:∀i,i<24->w.c.1 i=q i/\0<=q i/\q i<=72057594037927936)(hd:0<=d.1/\d.1<=24/\d.2.1=b/\d.b.1=w.b.1/\(∀i k,i<24->k<24->d.b.2.1 (i*24+k)=if i=k then F i else 0)/\d.c.1=w.c.1/\d.c.2.1=w.c.2.1/\∀i:Nat,i<24->(i:Int)<d.1->d.c.2.2 i=D i/\d.c.2.2 (24+i)=q i):Ok (Cm d) (λx:rv=>x.2.1=b/\x.b.1=w.b.1/\(∀i k,i<24->k<24->x.b.2.1 (i*24+k)=if i=k then F i else 0)/\x.c.2.1=w.c.2.1/\∀i:Nat,i<24->(i:Int)<24->x.c.2.2 i=D i/\x.c.2.2 (24+i)=q i):=by
 revert d
 exact bp (λd:hO.B=>ws (24-d.1)) (λd hd=>by
  obtain⟨i0,i1,i2,i3,i4,i5,i6,i7⟩:=hd;have hw:wI (d.1+1)=d.1+1:=aY;unfold Cl;dsimp only;rw[aK];refine⟨λh=> ?_,λh=> ?_⟩
  .have h:=cQ h;have h1:wI (24+d.1)=24+d.1:=eF;have r0:bb d.1 24=true:=by rw[bk];omega
   have r1:bb d.1 48=true:=by rw[bk];omega
   have r2:(true&&wd (0+ws d.1*1+1) 48)=true:=by rw[pw,bY];omega
   have r3:bb (24+d.1) 48=true:=by rw[bk];omega
   have r4:(true&&wd (0+ws (24+d.1)*1+1) 48)=true:=by rw[pw,bY];omega
   obtain⟨m,hm⟩:∃m:Nat,d.1=(m:Int):=⟨ws d.1,by omega⟩;have aS9:m<24:=by omega
   have vq:=hq m aS9
   have c:bc (d.c.1 (ws d.1)) 0 72057594037927936 d.2.1=some (q m,b):=by
    rw[i5,hm,Ls,vq.1,i2];exact afc _ _ _ _ vq.2.1 vq.2.2
   rw[h1,r0,r1,r2,r3,r4,aC,aC,c,bT,aC,aC,aC,aC];refine ay (a3J F hF _ _ ⟨i0,h⟩ ⟨dg 0,(show(0:Int)<=24 by decide),rfl,rfl,rfl,rfl,i4,rfl⟩) λx _ hx=> ?_;obtain⟨a0,a1,a2,a3,a4⟩:=hx;have a0:x.1.2.1=d.1:=a0;have a1:x.2.1=b:=a1;have a2:x.b.1=d.b.1:=a2;rw[av,a0,hw];refine⟨⟨by show 0<=d.1+1;omega,by show d.1+1<=24;omega,a1,a2.trans i3,a3,(ck (λz=>z.1) a4).trans i5,(ck (λz=>z.2.1) a4).trans i6,λi hi hj=> ?_⟩,by show ws (24-(d.1+1))<_;omega⟩;have a6:x.c.2.2=λj=>bif ww j (ws (24+d.1)) then q m else bif ww j (ws d.1) then d.b.1.2 (ws d.1) else d.c.2.2 j:=ck (λz=>z.2.2) a4
   show x.c.2.2 i=D i/\x.c.2.2 (24+i)=q i;have hj:(i:Int)<d.1+1:=hj;rw[a6];show(bif ww i (ws (24+d.1)) then q m else bif ww i (ws d.1) then d.b.1.2 (ws d.1) else d.c.2.2 i)=D i/\(bif ww (24+i) (ws (24+d.1)) then q m else bif ww (24+i) (ws d.1) then d.b.1.2 (ws d.1) else d.c.2.2 (24+i))=q i;rw[aCU,aCU,aCU,aCU,if_neg (by omega:¬i=ws (24+d.1)),if_neg (by omega:¬24+i=ws d.1)];by_cases e:i=m
   .subst e;rw[if_pos (by omega:i=ws d.1),if_pos (by omega:24+i=ws (24+d.1)),hm,Ls,i3];exact⟨hD i hi,rfl⟩
   .rw[if_neg (by omega:¬i=ws d.1),if_neg (by omega:¬24+i=ws (24+d.1))];exact i7 i hi (by omega)
  .have h:=kO h;rw[av];exact⟨i2,i3,i4,i6,λi hi hj=>i7 i hi (by omega)⟩) (λd hd=>by omega)
def P9 (F D q:Nat->Int):Prop:=∀i,i<24->okV (D i)/\((F i=1073741824/\q i=0)∨(F i=0/\okV (q i)))
def kept (F D q:Nat->Int)(i:Nat):Int:=if F i=0 then q i else D i
theorem P9.F {F D q:Nat->Int}(h:P9 F D q):∀i,i<24->F i=0∨F i=1073741824:=λi hi=>by
 rcases(h i hi).2 with a|a
 .exact Or.inr a.1
 .exact Or.inl a.1
theorem P9.q {F D q:Nat->Int}(h:P9 F D q):∀i,i<24->0<=q i/\q i<=72057594037927936:=λi hi=>by
 rcases(h i hi).2 with a|a
 .have:=a.2;omega
 .have:=a.2.le;omega
theorem P9.z {F D q:Nat->Int}(h:P9 F D q):∀i,i<24->¬F i=0->q i=0/\F i=1073741824:=λi hi n=>by
 rcases(h i hi).2 with a|a
 .exact⟨a.2,a.1⟩
 .exact absurd a.1 n
theorem P9.k {F D q:Nat->Int}(h:P9 F D q):∀i,i<24->okV (kept F D q i):=λi hi=>by
 unfold kept;rcases(h i hi).2 with a|a
 .rw[if_neg (by omega)];exact(h i hi).1
 .rw[if_pos a.1];exact a.2
def yv (F D q:Nat->Int)(j k:Nat):Int:=if k=j then(if F j=0 then 0 else D j) else if k=24+j then q j else 0
theorem aY0 {F D q:Nat->Int}(h:P9 F D q)(j k:Nat)(hj:j<24): -1152921504606846976<=yv F D q j k/\yv F D q j k<=1152921504606846976:=by
 have:=(h j hj).1.le;have:=h.q j hj;unfold yv;split
 .split<;>omega
 .split<;>omega
theorem a3L (F D q:Nat->Int)(hk:P9 F D q)(j:Nat)(hj:j<24)(w d:gZ.B)(he:∀i:Nat,i<24->w.b.2.1 i=D i/\w.b.2.1 (24+i)=q i)(hW:(∀i k,i<24->k<48->w.c.1 (i*48+k)=if i=k then F i else if k=24+i then 1073741824 else 0))(hd:0<=d.1.2/\d.1.2<=48/\d.1.1=(j:Int)/\d.2.1=w.2.1/\d.b.1=w.b.1/\d.b.2.1=w.b.2.1/\d.c.1=w.c.1/\d.c.2.1=w.c.2.1/\∀k:Nat,k<48->(k:Int)<d.1.2->d.c.2.2 k=yv F D q j k):Ok (Ci d) (λx:rr=>x.1.1=(j:Int)/\x.2.1=w.2.1/\x.b.1=w.b.1/\x.b.2.1=w.b.2.1/\x.c.1=w.c.1/\x.c.2.1=w.c.2.1/\∀k:Nat,k<48->x.c.2.2 k=yv F D q j k):=by
 revert d
 exact bp (λd:gZ.B=>ws (48-d.1.2)) (λd hd=>by
  obtain⟨i0,i1,i2,i3,i4,i5,i6,i7,i8⟩:=hd;have hw:wI (d.1.2+1)=d.1.2+1:=aY;unfold Cg;dsimp only;rw[aK];refine⟨λh=> ?_,λh=> ?_⟩
  .have h:=cQ h;obtain⟨m,hm⟩:∃m:Nat,d.1.2=(m:Int):=⟨ws d.1.2,by omega⟩;have a3M:m<48:=by omega
   have r0:bb d.1.1 24=true:=by rw[bk,i2];omega
   have r1:bb d.1.2 48=true:=by rw[bk];omega
   have r2:(true&&wd (0+ws d.1.2*1+1) 48)=true:=by rw[pw,bY];omega
   have wv:d.c.1 (ws d.1.1*48+ws d.1.2)=if j=m then F j else if m=24+j then 1073741824 else 0:=by
    rw[i6,i2,hm,Ls,Ls];exact hW j m hj a3M
   have e3:d.b.2.1 (ws d.1.2)=w.b.2.1 m:=by rw[i5,hm,Ls]
   have em: -1152921504606846976<=w.b.2.1 m/\w.b.2.1 m<=1152921504606846976:=by
    by_cases c:m<24
    .have:=(he m c).1;have:=(hk m c).1.le;omega
    .have e:=(he (m-24) (by omega)).2;rw[(by omega:24+(m-24)=m)] at e;have:=hk.q (m-24) (by omega);omega
   have mul:aV (d.c.1 (ws d.1.1*48+ws d.1.2)) (d.b.2.1 (ws d.1.2)) 30 d.2.1=some (yv F D q j m,d.2.1):=by
    have hF:=hk.F j hj;by_cases c1:m=j
    .have wv':d.c.1 (ws d.1.1*48+ws d.1.2)=F j:=by rw[wv,if_pos c1.symm]
     rw[wv',e3,aLQ _ _ _ hF em];refine ck (λz=>some (z,d.2.1)) ?_;unfold yv;rw[if_pos c1,c1,(he j hj).1]
    .by_cases c2:m=24+j
     .have wv':d.c.1 (ws d.1.1*48+ws d.1.2)=1073741824:=by rw[wv,if_neg (λh=>c1 h.symm),if_pos c2]
      rw[wv',e3,aLQ _ _ _ (Or.inr rfl) em,if_neg (by decide)];refine ck (λz=>some (z,d.2.1)) ?_;unfold yv;rw[if_neg c1,if_pos c2,c2,(he j hj).2]
     .have wv':d.c.1 (ws d.1.1*48+ws d.1.2)=0:=by rw[wv,if_neg (λh=>c1 h.symm),if_neg c2]
      rw[wv',e3,aLQ _ _ _ (Or.inl rfl) em,if_pos rfl];refine ck (λz=>some (z,d.2.1)) ?_;unfold yv;rw[if_neg c1,if_neg c2]
   rw[r0,r1,r2,aC,aC,aC,mul,bT,aC,aC,av,hw];refine⟨⟨by show 0<=d.1.2+1;omega,by show d.1.2+1<=48;omega,i2,i3,i4,i5,i6,i7,λk Gm hkc=> ?_⟩,by show ws (48-(d.1.2+1))<_;omega⟩;have hkc:(k:Int)<d.1.2+1:=hkc;show(bif ww k (ws d.1.2) then yv F D q j m else d.c.2.2 k)=yv F D q j k;rw[G5];split
   .rename_i e
    have:k=m:=by omega
    rw[this]
   .exact i8 k Gm (by omega)
  .have h:=kO h;rw[av];exact⟨i2,i3,i4,i5,i6,i7,λk Gm=>i8 k Gm (by omega)⟩) (λd hd=>by omega)
theorem a3N (F:Nat->Int)(hF:∀i,i<24->F i=0∨F i=1073741824)(w d:hI.B)(h0:0<=w.1.1/\w.1.1<24)(h2:0<=w.1.2.2.1/\w.1.2.2.1<24)(hd:0<=d.1.2.2.2.2.2.2/\d.1.2.2.2.2.2.2<=48/\d.1.1=w.1.1/\d.1.2.1=w.1.2.1/\d.1.2.2.1=w.1.2.2.1/\d.1.2.2.2.1=0/\d.1.2.2.2.2.1=w.1.2.2.2.2.1/\d.1.2.2.2.2.2.1=w.1.2.2.2.2.2.1/\d.2.1=w.2.1/\d.2.2.1=w.2.2.1/\d.2.2.2.1=w.2.2.2.1/\(∀i k,i<24->k<48->d.2.2.2.2.1 (i*48+k)=if i=k then F i else if k=24+i then 1073741824 else 0)/\d.2.2.2.2.2=w.2.2.2.2.2):Ok (Ck d) (λx:ru=>x.1.1=w.1.1/\x.1.2.1=w.1.2.1/\x.1.2.2.2.2.1=w.1.2.2.2.2.1/\x.1.2.2.2.2.2.1=w.1.2.2.2.2.2.1/\x.2.1=w.2.1/\x.2.2.1=w.2.2.1/\x.2.2.2.1=w.2.2.2.1/\(∀i k,i<24->k<48->x.2.2.2.2.1 (i*48+k)=if i=k then F i else if k=24+i then 1073741824 else 0)/\x.2.2.2.2.2=w.2.2.2.2.2):=by
 revert d
 exact bp (λd:hI.B=>ws (48-d.1.2.2.2.2.2.2)) (λd hd=>by
  obtain⟨i0,i1,j0,j1,j2,j3,j4,j5,i3,i4,i5,i6,i7⟩:=hd;have hw:wI (d.1.2.2.2.2.2.2+1)=d.1.2.2.2.2.2.2+1:=aY;unfold Cj;dsimp only;rw[aK];refine⟨λh=> ?_,λh=>by rw[av];exact⟨j0,j1,j4,j5,i3,i4,i5,i6,i7⟩⟩;have h:=cQ h;have r0:bb d.1.2.2.1 24=true:=by rw[bk,j2];omega
  have r1:bb d.1.2.2.2.2.2.2 48=true:=by rw[bk];omega
  have r2:bb d.1.1 24=true:=by rw[bk,j0];omega
  have r3:(true&&wd (0+(ws d.1.2.2.1*48+ws d.1.2.2.2.2.2.2)*1+1) 1152)=true:=by rw[pw,bY,j2];omega
  have bw:∀i,i<24-> -1152921504606846976<=d.2.2.2.2.1 (i*48+ws d.1.2.2.2.2.2.2)/\d.2.2.2.2.1 (i*48+ws d.1.2.2.2.2.2.2)<=1152921504606846976:=λi hi=>by
   rw[i6 i (ws d.1.2.2.2.2.2.2) hi (by omega)];have:=hF i hi;split
   .omega
   .split<;>omega
  have mul:aV d.1.2.2.2.1 (d.2.2.2.2.1 (ws d.1.1*48+ws d.1.2.2.2.2.2.2)) 30 d.2.1=some (0,d.2.1):=by
   rw[j3,aLQ 0 _ _ (Or.inl rfl) (bw (ws d.1.1) (by rw[j0];omega)),if_pos rfl]
  rw[r0,r1,r2,r3,aC,aC,aC,aC,mul,bT,sub_zero _ _ (bw (ws d.1.2.2.1) (by rw[j2];omega)),bT,aC,aC,aC,av,hw];refine⟨⟨by show 0<=d.1.2.2.2.2.2.2+1;omega,by show d.1.2.2.2.2.2.2+1<=48;omega,j0,j1,j2,j3,j4,j5,i3,i4,i5,λi k hi hk=> ?_,i7⟩,by show ws (48-(d.1.2.2.2.2.2.2+1))<_;omega⟩;show(bif ww (i*48+k) (ws d.1.2.2.1*48+ws d.1.2.2.2.2.2.2) then d.2.2.2.2.1 (ws d.1.2.2.1*48+ws d.1.2.2.2.2.2.2) else d.2.2.2.2.1 (i*48+k))=_;rw[G5];split
  .rename_i e;rw[<-e];exact i6 i k hi hk
  .exact i6 i k hi hk) (λd hd=>by omega)
theorem a3O (F D q G:Nat->Int)(hk:P9 F D q)(j:Nat)(hj:j<24)(v:Int)(hv:okV v)(w:fQ.B):∀(d:fQ.B) (hd:0<=d.1.2.2.2/\d.1.2.2.2<=d.1.2.2.1/\d.1.2.2.1=(j:Int)/\d.1.1=(j:Int)/\d.1.2.1=v/\d.2.1=w.2.1/\d.2.2.1=w.2.2.1/\d.2.2.2.1=w.2.2.2.1/\(∀i k,i<24->k<48->d.2.2.2.2.1 (i*48+k)=if i=k then F i else if k=24+i then 1073741824 else 0)/\d.2.2.2.2.2.1=(λ_=>0,G)/\∀k:Nat,k<48->d.2.2.2.2.2.2 k=yv F D q j k),Ok (Co d) (λx:ry=>x.1.1=(j:Int)/\x.2.1=w.2.1/\x.2.2.1=w.2.2.1/\x.2.2.2.1=w.2.2.2.1/\(∀i k,i<24->k<48->x.2.2.2.2.1 (i*48+k)=if i=k then F i else if k=24+i then 1073741824 else 0)/\x.2.2.2.2.2.1=(λ_=>0,G)):=
 bp (λd:fQ.B=>ws (d.1.2.2.1-d.1.2.2.2)) (λd hd=>by
  obtain⟨i0,i1,j2,j0,j1,i3,i4,i5,i6,i7,i8⟩:=hd;have hw:wI (d.1.2.2.2+1)=d.1.2.2.2+1:=aY;unfold Cn;dsimp only;rw[aK];refine⟨λh=> ?_,λh=>by rw[av];exact⟨j0,i3,i4,i5,i6,i7⟩⟩;have h:=cQ h;obtain⟨m,hm⟩:∃m:Nat,d.1.2.2.2=(m:Int):=⟨ws d.1.2.2.2,by omega⟩;have hmj:m<j:=by omega
  have r0:bb d.1.2.2.2 24=true:=by rw[bk];omega
  have wv:∀k,k<48->d.2.2.2.2.1 (0+ws d.1.2.2.2*48+k)=if m=k then F m else if k=24+m then 1073741824 else 0:=λk hk=>by
   rw[hm,Ls,gy];exact i6 m k (by omega) hk
  have dot:bu 30 48 48 d.2.1 (λk=>d.2.2.2.2.1 (0+ws d.1.2.2.2*48+k)) d.2.2.2.2.2.2 false false=some (0,d.2.1):=by
   have z:∀k,k<48->d.2.2.2.2.1 (0+ws d.1.2.2.2*48+k)*d.2.2.2.2.2.2 k=0:=λk Gm=>by
    rw[wv k Gm,i8 k Gm];unfold yv;by_cases c:m=k
    .rw[if_neg (by omega:¬k=j),if_neg (by omega:¬k=24+j),Int.mul_zero]
    .rw[if_neg c];by_cases c2:k=24+m
     .rw[if_neg (by omega:¬k=j),if_neg (by omega:¬k=24+j),Int.mul_zero]
     .rw[if_neg c2,afx]
   refine aF9 48 0 (by decide) (by decide) _ _ _ _ _ _ (λk Gm=> ?_) (λk Gm=> ?_) (λk Gm _=>z k Gm) (by rw[z 0 (by decide)];rfl) (by decide)
   .show -1152921504606846976<=d.2.2.2.2.1 (0+ws d.1.2.2.2*48+k)/\d.2.2.2.2.1 (0+ws d.1.2.2.2*48+k)<=1152921504606846976;rw[wv k Gm];have:=hk.F m (by omega);split
    .omega
    .split<;>omega
   .rw[i8 k Gm];exact aY0 hk j k hj
  have st:zM d.2.2.2.2.2.1.1 d.2.2.2.2.2.1.2 d.1.2.2.2 d.1.1 0=some (λ_=>0,G):=by
   rw[i7,hm,j0];exact aHx G m j hmj hj
  rw[r0,aC,dot,bT,j1,div_zero v _ hv,bT,st,bT];refine ay (a3N F hk.F _ _ (by show 0<=d.1.1/\d.1.1<24;omega) (by show 0<=d.1.2.2.2/\d.1.2.2.2<24;omega) ⟨dg 0,(show(0:Int)<=48 by decide),rfl,rfl,rfl,rfl,rfl,rfl,rfl,rfl,rfl,i6,rfl⟩) λx _ hx=> ?_;obtain⟨a0,a1,a4,a5,b1,b2,b3,b4,b5⟩:=hx;have a4:x.1.2.2.2.2.1=d.1.2.2.1:=a4;have a5:x.1.2.2.2.2.2.1=d.1.2.2.2:=a5;have a0:x.1.1=d.1.1:=a0;rw[av,a5,hw];refine⟨⟨by show 0<=d.1.2.2.2+1;omega,by show d.1.2.2.2+1<=x.1.2.2.2.2.1;omega,by show x.1.2.2.2.2.1=(j:Int);omega,by show x.1.1=(j:Int);omega,a1,b1.trans i3,b2.trans i4,b3.trans i5,b4,ck (λz=>z.1) b5,λk Gm=>(congrFun (ck (λz=>z.2) b5) k).trans (i8 k Gm)⟩,by show ws (x.1.2.2.2.2.1-(d.1.2.2.2+1))<_;omega⟩) (λd hd=>by omega)
theorem a3P (F D q:Nat->Int)(b:Bool)(e:Nat->Int)(hk:P9 F D q)(he:∀i:Nat,i<24->e i=D i/\e (24+i)=q i):∀(d:hX.B) (hd: -1<=d.1/\d.1<=23/\d.2.1=b/\d.b.2.1=e/\(∀i k,i<24->k<48->d.c.1 (i*48+k)=if i=k then F i else if k=24+i then 1073741824 else 0)/\d.c.2=(λ_=>0,λi:Nat=>if d.1<(i:Int)/\i<24 then kept F D q i else 0)),Ok (Cq d) (λx:rz=>x.2.1=b/\x.c.2=(λ_=>0,λi=>if i<24 then kept F D q i else 0)):=
 bp (λd:hX.B=>ws (d.1+1)) (λd hd=>by
  obtain⟨i0,i1,i2,i3,i4,i5⟩:=hd;unfold Cp;dsimp only;rw[aK];refine⟨λh=> ?_,λh=> ?_⟩
  .have h:=cQ h;obtain⟨j,hj⟩:∃m:Nat,d.1=(m:Int):=⟨ws d.1,by omega⟩;have aBw:j<24:=by omega
   refine ay (a3L F D q hk j aBw ((d.1,0),d.2.1,d.b.1,d.b.2.1,d.c.1,d.c.2,λx=>0) _ (by show∀i:Nat,i<24->d.b.2.1 i=D i/\d.b.2.1 (24+i)=q i;rw[i3];exact he) i4 ⟨dg 0,(show(0:Int)<=48 by decide),hj,rfl,rfl,rfl,rfl,rfl,λk _ hk0=>absurd hk0 (by show ¬(k:Int)<0;omega)⟩) λx _ hx=> ?_;obtain⟨a0,a1,a2,a3,a4,a5,a6⟩:=hx;have a1:x.2.1=d.2.1:=a1;have a4:x.c.1=d.c.1:=a4;have a3:x.b.2.1=d.b.2.1:=a3;have a5:x.c.2.1=d.c.2:=a5;have r0:bb x.1.1 24=true:=by rw[bk,a0];omega
   have r1:(true&&wd (276+ws x.1.1*1+1) 300)=true:=by rw[pw,bY,a0];omega
   have wv:∀k,k<48->x.c.1 (0+ws x.1.1*48+k)=if j=k then F j else if k=24+j then 1073741824 else 0:=λk Gm=>by
    rw[a4,a0,Ls,gy];exact i4 j k aBw Gm
   have K:=(hk j aBw).1.le;have kp:=(hk.k j aBw).le;have kz:=hk.z j aBw
   have dot:bu 30 48 48 x.2.1 (λk=>x.c.1 (0+ws x.1.1*48+k)) x.c.2.2 false false=some (kept F D q j,x.2.1):=by
    refine aF9 48 (if F j=0 then 24+j else j) (by decide) (by split<;>omega) _ _ _ _ _ _ (λk Gm=> ?_) (λk Gm=> ?_) (λk Gm nd=> ?_) ?_ (by omega)
    .show -1152921504606846976<=x.c.1 (0+ws x.1.1*48+k)/\x.c.1 (0+ws x.1.1*48+k)<=1152921504606846976;rw[wv k Gm];split
     .omega
     .split<;>omega
    .rw[a6 k Gm];exact aY0 hk j k aBw
    .show x.c.1 (0+ws x.1.1*48+k)*x.c.2.2 k=0;rw[wv k Gm,a6 k Gm];unfold yv;by_cases c:k=j
     .subst c;by_cases f0:F k=0
      .rw[if_pos rfl,f0,afx]
      .rw[if_neg f0] at nd;exact absurd rfl nd
     .rw[if_neg (λh=>c h.symm),if_neg c];by_cases c2:k=24+j
      .by_cases f0:F j=0
       .rw[if_pos f0] at nd;exact absurd c2 nd
       .rw[if_pos c2,if_pos c2];rw[(kz f0).1,Int.mul_zero]
      .rw[if_neg c2,if_neg c2,afx]
    .show x.c.1 (0+ws x.1.1*48+(if F j=0 then 24+j else j))*x.c.2.2 (if F j=0 then 24+j else j)=kept F D q j*1073741824;rw[wv _ (by split<;>omega),a6 _ (by split<;>omega)];unfold yv kept;by_cases f0:F j=0
     .rw[if_pos f0,if_pos f0,if_neg (by omega:¬j=24+j),if_pos rfl,if_neg (by omega:¬24+j=j),if_pos rfl,AE,if_pos f0]
     .rw[if_neg f0,if_neg f0,if_pos rfl,if_pos rfl,(kz f0).2,AE,if_neg (by decide)]
   rw[r0,aC,dot,bT,afc _ _ _ _ kp.1 kp.2,bT,aC,r1,aC];refine ay (a3O F D q (λi:Nat=>if d.1-1<(i:Int)/\i<24 then kept F D q i else 0) hk j aBw (kept F D q j) (hk.k j aBw) ((x.1.1,kept F D q j,x.1.1,0),x.2.1,x.b.1,x.b.2.1,x.c.1,(x.c.2.1.1,λi=>bif ww i (ws x.1.1) then kept F D q j else x.c.2.1.2 i),x.c.2.2) _ ⟨dg 0,by show 0<=x.1.1;omega,a0,a0,rfl,rfl,rfl,rfl,by show∀i k,i<24->k<48->x.c.1 (i*48+k)=_;rw[a4];exact i4,?_,a6⟩) λy _ hy=> ?_
   .refine Prod.ext (by show x.c.2.1.1=_;rw[a5,i5]) (funext λi=> ?_);show(bif ww i (ws x.1.1) then kept F D q j else x.c.2.1.2 i)=if d.1-1<(i:Int)/\i<24 then kept F D q i else 0
    rw[G5,a0,a5,i5,Ls];show(if i=j then kept F D q j else if d.1<(i:Int)/\i<24 then kept F D q i else 0)=_;by_cases c:i=j
    .subst c;rw[if_pos rfl,if_pos (by omega)]
    .rw[if_neg c];by_cases c2:d.1<(i:Int)/\i<24
     .rw[if_pos c2,if_pos (by omega)]
     .rw[if_neg c2,if_neg (by omega)]
   obtain⟨b0,b1,b2,b3,b4,b5⟩:=hy;have b1:y.2.1=x.2.1:=b1;have b3:y.b.2.1=x.b.2.1:=b3;have hw:wI (y.1.1-1)=d.1-1:=by rw[b0,<-hj];exact eF (by omega) (by omega)
   rw[av,hw];exact⟨⟨by show -1<=d.1-1;omega,by show d.1-1<=23;omega,b1.trans (a1.trans i2),b3.trans (a3.trans i3),b4,b5⟩,by show ws (d.1-1+1)<_;omega⟩
  .have h:=kO h;rw[av];refine⟨i2,i5.trans (Prod.ext rfl (funext λi=> ?_))⟩;show(if d.1<(i:Int)/\i<24 then kept F D q i else 0)=if i<24 then kept F D q i else 0
   by_cases c:i<24
   .rw[if_pos c,if_pos (by omega)]
   .rw[if_neg c,if_neg (by omega)]) (λd hd=>by omega)
theorem aRV (F U D Fm Q q:Nat->Int)(b:Bool)(hk:P9 F D q)(hU:∀p,p<276->U p=0)(hf:(∀i k,i<24->k<24->Fm (i*24+k)=if i=k then F i else 0))(hq:∀i,i<24->Q i=q i):lk U D Fm Q b=some ((λ_=>0,λi=>if i<24 then kept F D q i else 0),b):=by
 have h:Ok (lk U D Fm Q b) (λr:OX=>r=((λ_=>0,λi=>if i<24 then kept F D q i else 0),b)):=by
  unfold lk GL;show PQ _ _;refine ay (aRT U D b hU (λi hi=>(hk i hi).1.le)) λc _ hc=> ?_;obtain⟨c0,c1,c2⟩:=hc;refine ay (a3K F D q c.2 hk.F (0,c.2,c.1,Fm,Q,(λx=>0,λx=>0),λx=>0) _ c2 (λi hi=>⟨hq i hi,hk.q i hi⟩) ⟨dg 0,(show(0:Int)<=24 by decide),rfl,rfl,hf,rfl,rfl,λi _ hi=>absurd hi (by show ¬(i:Int)<0;omega)⟩) λx _ hx=> ?_;obtain⟨a1,a2,a3,a4,a5⟩:=hx;have a2:x.b.1=c.1:=a2;refine ay (aRU F _ _ x.b.2.1 x.2.1 hk.F (by rw[a2];exact c1) a3) λw _ hw=> ?_;refine ay (a3P F D q b x.c.2.2 hk (λi hi=>a5 i hi (by omega)) _ ⟨(show(-1:Int)<=23 by decide),(show(23:Int)<=23 by decide),hw.1.trans (a1.trans c0),rfl,hw.2,?_⟩) λy _ hy=> ?_
  .refine Prod.ext rfl (funext λi=> ?_);show(0:Int)=if (23:Int)<(i:Int)/\i<24 then kept F D q i else 0
   rw[if_neg (by omega)]
  .rw[av];exact Prod.ext hy.2 hy.1
 obtain⟨r,h1,h2⟩:=h;rw[h1,h2]
theorem a3Q:∀(d:iV.B) (hd:0<=d.1/\d.1<=24/\∀i k:Nat,i<24->k<24->d.2.2 (i*24+k)=if i=k/\(i:Int)<d.1 then 1073741824 else 0),Ok (EF d) (λx:tZ=>∀i k:Nat,i<24->k<24->x.2.2 (i*24+k)=if i=k then 1073741824 else 0):=
 bp (λd:iV.B=>ws (24-d.1)) (λd hd=>by
  obtain⟨i0,i1,i2⟩:=hd;have hw:wI (d.1+1)=d.1+1:=aY;unfold EE;dsimp only;rw[aK];refine⟨λh=> ?_,λh=> ?_⟩
  .have h:=cQ h;have r0:bb d.1 24=true:=by rw[bk];omega
   have r1:(true&&wd (0+(ws d.1*24+ws d.1)*1+1) 576)=true:=by rw[pw,bY];omega
   rw[r0,r1,aC,aC,aC,av,hw];refine⟨⟨by show 0<=d.1+1;omega,by show d.1+1<=24;omega,λi k hi hk=> ?_⟩,by show ws (24-(d.1+1))<_;omega⟩;show(bif ww (i*24+k) (ws d.1*24+ws d.1) then 1073741824 else d.2.2 (i*24+k))=if i=k/\(i:Int)<d.1+1 then 1073741824 else 0
   rw[G5,i2 i k hi hk];by_cases e:i*24+k=ws d.1*24+ws d.1
   .rw[if_pos e,if_pos (by omega)]
   .rw[if_neg e];by_cases e2:i=k/\(i:Int)<d.1
    .rw[if_pos e2,if_pos (by omega)]
    .rw[if_neg e2,if_neg (by omega)]
  .have h:=kO h;rw[av];intro i k hi hk;show d.2.2 (i*24+k)=_;rw[i2 i k hi hk];by_cases e:i=k
   .rw[if_pos e,if_pos (by omega)]
   .rw[if_neg e,if_neg (by omega)]) (λd hd=>by omega)
theorem aUB:Ok ou (λr:Dr=>∀i k:Nat,i<24->k<24->r (i*24+k)=if i=k then 1073741824 else 0):=by
 unfold ou Jg;show PQ _ _;refine ay (a3Q _ ⟨dg 0,(show(0:Int)<=24 by decide),λi k hi hk=>by show(0:Int)=_;rw[if_neg (by show ¬(i=k/\(i:Int)<0);omega)]⟩) λx _ hx=> ?_;rw[av];exact hx
theorem a3R (w d:jV.B)(hv:∀j:Nat,j<4->okV (w.2.2.1 j))(hd:0<=d.1.2.2.2/\d.1.2.2.2<=4/\d.1.1=0/\d.1.2.1.1=4/\d.1.2.2.1=4/\d.2.1=w.2.1/\d.2.2.1=w.2.2.1/\d.2.2.2.1=w.2.2.2.1/\(∀i k:Nat,i<24->k<24->d.2.2.2.2.2.1 (i*24+k)=if i=k/\¬(i:Int)<d.1.2.2.2 then 1073741824 else 0)/\∀i:Nat,i<24->d.2.2.2.2.2.2 i=if (i:Int)<d.1.2.2.2 then w.2.2.1 i else 0):Ok (GN d) (λx:we=>x.2.1=w.2.1/\x.2.2.2.1=w.2.2.2.1/\(∀i k:Nat,i<24->k<24->x.2.2.2.2.2.1 (i*24+k)=if i=k/\¬i<4 then 1073741824 else 0)/\∀i:Nat,i<24->x.2.2.2.2.2.2 i=if i<4 then w.2.2.1 i else 0):=by
 revert d
 exact bp (λd:jV.B=>ws (4-d.1.2.2.2)) (λd hd=>by
  obtain⟨i0,i1,i2,i3,i4,i5,i6,i7,i8,i9⟩:=hd;have hw:wI (d.1.2.2.2+1)=d.1.2.2.2+1:=aY;have hy:wI (d.1.1+d.1.2.2.2)=d.1.2.2.2:=by rw[i2,aso];exact eF (by omega) (by omega)
  unfold GM;dsimp only;rw[aK];refine⟨λh=> ?_,λh=> ?_⟩
  .have h:=cQ h;have r0:bb d.1.2.2.2 d.1.2.1.1=true:=by rw[bk,i3];omega
   have r1:bb d.1.2.2.2 24=true:=by rw[bk];omega
   have r2:(true&&wd (0+(ws d.1.2.2.2*24+ws d.1.2.2.2)*1+1) 576)=true:=by rw[pw,bY];omega
   have r3:(true&&wd (0+ws d.1.2.2.2*1+1) 24)=true:=by rw[pw,bY];omega
   have v:=(hv (ws d.1.2.2.2) (by omega)).le;rw[<-i6] at v;rw[hy,r0,aC,a0q _ i0 (by omega),bT,aC,aYZ _ _ v.1 v.2,bT,r1,r2,r3,aC,aC,aC,aC,aC,av,hw];refine⟨⟨by show 0<=d.1.2.2.2+1;omega,by show d.1.2.2.2+1<=4;omega,i2,i3,i4,i5,i6,i7,λi k hi hk=> ?_,λi hi=> ?_⟩,by show ws (4-(d.1.2.2.2+1))<_;omega⟩
   .show(bif ww (i*24+k) (ws d.1.2.2.2*24+ws d.1.2.2.2) then 0 else d.2.2.2.2.2.1 (i*24+k))=if i=k/\¬(i:Int)<d.1.2.2.2+1 then 1073741824 else 0
    rw[G5,i8 i k hi hk];by_cases e:i*24+k=ws d.1.2.2.2*24+ws d.1.2.2.2
    .rw[if_pos e,if_neg (by omega)]
    .rw[if_neg e];by_cases e2:i=k/\¬(i:Int)<d.1.2.2.2
     .rw[if_pos e2,if_pos (by omega)]
     .rw[if_neg e2,if_neg (by omega)]
   .show(bif ww i (ws d.1.2.2.2) then d.2.2.1 (ws d.1.2.2.2) else d.2.2.2.2.2.2 i)=if (i:Int)<d.1.2.2.2+1 then w.2.2.1 i else 0
    rw[G5,i9 i hi,i6];by_cases e:i=ws d.1.2.2.2
    .rw[if_pos e,if_pos (by omega),e]
    .rw[if_neg e];by_cases e2:(i:Int)<d.1.2.2.2
     .rw[if_pos e2,if_pos (by omega)]
     .rw[if_neg e2,if_neg (by omega)]
  .have h:=kO h;rw[av];refine⟨i5,i7,λi k hi hk=> ?_,λi hi=> ?_⟩
   .show d.2.2.2.2.2.1 (i*24+k)=_;rw[i8 i k hi hk];by_cases e:i=k/\¬i<4
    .rw[if_pos e,if_pos (by omega)]
    .rw[if_neg e,if_neg (by omega)]
   .show d.2.2.2.2.2.2 i=_;rw[i9 i hi];by_cases e:i<4
    .rw[if_pos e,if_pos (by omega)]
    .rw[if_neg e,if_neg (by omega)]) (λd hd=>by omega)
theorem aO1 (U D V:Nat->Int)(b w:Bool)(hU:∀p,p<276->U p=0)(hD:∀i,i<24->okV (D i))(hV:∀j,j<4->okV (V j)):
  dr U D 0 4 b V w=some ((λ_=>0,λi=>if i<24 then(if i<4 then V i else D i) else 0),b):=by
 have h:Ok (dr U D 0 4 b V w) (λr:Xt=>r=((λ_=>0,λi=>if i<24 then(if i<4 then V i else D i) else 0),b)):=by
  unfold dr Mz;show PQ _ _;refine ay aUB λm _ hm=> ?_;rw[aN,aC];refine ay (a3R ((0,(4,w),wl 4,0),b,V,(U,D),(λx=>0,λx=>0),m,λx=>0) _ hV ⟨dg 0,(show(0:Int)<=4 by decide),rfl,rfl,rfl,rfl,rfl,rfl,λi k hi hk=> ?_,λi hi=> ?_⟩) λx _ hx=> ?_
  .show m (i*24+k)=if i=k/\¬(i:Int)<0 then 1073741824 else 0
   rw[hm i k hi hk];by_cases e:i=k
   .rw[if_pos e,if_pos ⟨e,by omega⟩]
   .rw[if_neg e,if_neg (λh=>e h.1)]
  .show(0:Int)=if (i:Int)<0 then V i else 0
   rw[if_neg (by omega)]
  obtain⟨a1,a3,a5,a6⟩:=hx;have a1:x.2.1=b:=a1;have a3:x.b.2.1=(U,D):=a3
  have s:=aRV (λi=>if i<4 then 0 else 1073741824) U D x.c.2.1 x.c.2.2 (λi=>if i<4 then V i else 0) b (λi hi=>⟨hD i hi,by
    show((if i<4 then(0:Int) else 1073741824)=1073741824/\(if i<4 then V i else 0)=0)∨((if i<4 then(0:Int) else 1073741824)=0/\okV (if i<4 then V i else 0));by_cases c:i<4
    .rw[if_pos c,if_pos c];exact Or.inr ⟨rfl,hV i c⟩
    .rw[if_neg c,if_neg c];exact Or.inl ⟨rfl,rfl⟩⟩) hU (λi k hi hk=>by
    rw[a5 i k hi hk];by_cases c:i=k
    .subst c;by_cases c2:i<4
     .rw[if_neg (λh=>h.2 c2),if_pos rfl,if_pos c2]
     .rw[if_pos ⟨rfl,c2⟩,if_pos rfl,if_neg c2]
    .rw[if_neg (λh=>c h.1),if_neg c]) a6
  rw[a3,a1,s,bT,av];refine Prod.ext (Prod.ext rfl (funext λi=> ?_)) rfl;show(if i<24 then kept _ D _ i else 0)=if i<24 then(if i<4 then V i else D i) else 0
  unfold kept;by_cases c:i<4
  .simp[c]
  .simp[c]
 obtain⟨r,h1,h2⟩:=h;rw[h1,h2]
noncomputable section
def allM:Nat->(Nat->Bool)->Bool
 |0,_=>true
 |n+1,f=>allM n f&&f n
theorem awQ {f:Nat->Bool}:∀n,allM n f=true->∀i,i<n->f i=true
 |0,_,i,hi=>by omega
 |n+1,h,i,hi=>by
  have h:(allM n f&&f n)=true:=h;rw[cx] at h;by_cases e:i=n
  .rw[e];exact h.2
  .exact awQ n h.1 i (by omega)
def isV (d:Int):Bool:=decide (d=17592186044416)||decide (d=68719476736)||decide (d=67108864)||decide (d=4294967296)||decide (d=17179869184)
theorem aTa {d:Int}(h:isV d=true):okV d:=by
 unfold isV at h;simp only[afv,lC] at h;unfold okV;omega
def aY1 (U D:Nat->Int)(a:Int)(n:Nat)(V:Nat->Int):Bool:=
 ww n 4&&decide (a=0)&&allM 276 (λp=>decide (U p=0))&&allM 24 (λi=>isV (D i))&&allM 4 (λi=>isV (V i))
def rsQ:jM:=λU D a n b V w=>bif aY1 U D a n V then some ((λ_=>0,λi=>if i<24 then(if i<4 then V i else D i) else 0),b) else dr U D a n b V w
theorem a0s:dr=rsQ:=by
 funext U D a n b V w
 unfold rsQ;cases h:aY1 U D a n V
 .rfl
 .unfold aY1 at h;simp only[cx,lC] at h;obtain⟨⟨⟨⟨h0,h1⟩,h2⟩,h3⟩,h4⟩:=h;have h0:=nQ h0;subst h0;subst h1;refine aO1 U D V b w (λp hp=>cQ (awQ _ h2 p hp)) (λi hi=>aTa (awQ _ h3 i hi)) (λi hi=>aTa (awQ _ h4 i hi))
def aY2 (g:jM)(x:fT.B):Option pX:=(Az p6 lg aV lD K0 gQ g eJ jm x).val
def a0t (g:jM)(x:fM.B):Option oJ:=(rK (aY2 g) K7 vN dW x).val
def aY3 (g:jM):cJ.B->Option ig:=bD (lx (a0t g)) 2000
def aY4 (g:jM)(d:cK.B):Option fa:=(ly (aY3 g) d).val
def aRW (g:jM)(x:eo.B):Option gC:=(jW cX gh (aY4 g) x).val
end
end Go.Proofs.YtldgljclcgaibaaGreat
noncomputable section
namespace Go.Proofs.YtldgljclcgaibaaGreat
open Go.Ab Go.Ab.Pg Go.Ab.Rq
def awR:=qa (pu nil nil)
def adm:=qe E5
abbrev awS:=adm.B
abbrev ah4:=Option awS
def awT (g:ah4):Ct:=(11,FC awR (lf adm) (λ_=>g))
def Vy:Option awS:=some true
theorem aUC:bV=aRW rsQ:=by
 rw[<-a0s];rfl
theorem aY5 [ax]:Snd Tryz.prog (zz (aRW rsQ)):=aUC▸Ns
theorem aLR:akF Tryz.prog [anF anH,atD Al,ahO Nz,zz (aRW rsQ),aaI aaK,F9 gm] ⟨[],[],[],[],none⟩ 2000 11 awR (lf adm) λ_=>ret true:=λb=>by kernel_rfl
theorem aLS [ax]:SC (awT Vy):=s0 (.c aFA (.c aFJ (.c awB (.c aY5 (.c awt (.c RL (.nil _))))))) aLR
def pe:=qa (pl (c (aa xD) (cl aa7 nil)) nil)
def NJ:=qe E5
abbrev G6:=NJ.B
abbrev ayU:=pe.B->Option G6
def ayV (g:ayU):Ct:=(3,FC pe (lf NJ) g)
def lz:=qs (st (pr (us 1 (c aa7 (cu aCW (xs 1 (cu mW (cl ai (us 2 (xs 1 (us 5 (cu aVR (us 108 nil))))))))))) (pl (cl akD nil) nil)))
def atZ:=qs (st (pr (us 1 (c aa7 (cu aCW (xs 1 (cu mW (c ai (us 2 (xs 1 (us 5 (cu aVR (us 2 aVr))))))))))) (pl (cl akD nil) nil)))
abbrev xm:=((aRZ×Int×Bool)×Int×Int×Int×Int×Int×Int×Int×Int×Int×Int×Int×Int×Int×Int×NI×NI×Int×Int×Int×Int×Int×Int×Int)
def Y5 {ρ:Type}(x:xm)(K:AX->St->Option ρ):Option ρ:=(λd=>K (.ex 0) (atZ.em ((d.1.1,d.1.2.1,d.1.2),d.2))) x
def Ky (d:lz.B):PL lz xm:=let aT:=d.2.1;let n9:=d.1.1;let n6:=d.2.2.1;let n4:=d.1.2;let n3:=d.2.2.2;let bj:=n3.2.1;let n7:=n3.2.2.1;let n1:=n3.2.2.2;let bx:=n1.2.1;let n8:=n1.2.2.1;let n2:=n1.2.2.2;let n5:=n2.2.2;let y0:=decide (n4<6);ae y0 (ae (bb n4 6) (ae (n4==5) (ret (wr ((n9,wI (n4+1)),aT,n6,n3.1,bj,n7,n1.1,bx,n8,n2.1,n2.2.1,n5.1,n5.2.1,n5.2.2.1,10000,n5.2.2.2.2))) (ae (n4==4) (ret (wr ((n9,wI (n4+1)),aT,n6,n3.1,bj,n7,n1.1,bx,n8,n2.1,n2.2.1,n5.1,n5.2.1,10000,n5.2.2.2))) (ae (n4==3) (ret (wr ((n9,wI (n4+1)),aT,n6,n3.1,bj,n7,n1.1,bx,n8,n2.1,n2.2.1,n5.1,10000,n5.2.2))) (ae (n4==2) (ret (wr ((n9,wI (n4+1)),aT,n6,n3.1,bj,n7,n1.1,bx,n8,n2.1,n2.2.1,10000,n5.2))) (ae (n4==1) (ret (wr ((n9,wI (n4+1)),aT,n6,n3.1,bj,n7,n1.1,bx,n8,n2.1,10000,n5))) (ret (wr ((n9,wI (n4+1)),aT,n6,n3.1,bj,n7,n1.1,bx,n8,10000,n2.2)))))))) no) (ret (wn ((n9,n4,y0),d.2)))
def Kz:=bD (Ky) 2000
def il:=qs (st (pr (us 1 (c aa7 (us 1 (xs 1 (cu mW (us 1 (cu tU (cl ai (xs 1 aV7))))))))) (pl (c akv (c akD akE)) nil)))
def aki:=qs (st (pr (us 1 (c aa7 (us 1 (xs 1 (cu mW (us 1 (cu tU (c ai (xs 1 (us 5 (cu aC7 (us 16 (c ai (c aa7 (c ai (c ab (cu Ho (c ai (c ab (c ab (cu Ho (cu tU (cu tU (cu aJq (c ai (c ab aVk)))))))))))))))))))))))))) (pl (c akv (c akD akE)) nil)))
def akj:=qs (st (pr (us 1 (c aa7 (us 1 (xs 1 (cu mW (us 1 (cu tU (c ai (xs 1 (us 5 (cu aC7 (us 16 (c ai (c aa7 (c ai (c ab (cu Ho (c ai (c ab (cl ab aWg)))))))))))))))))))) (pl (c akv (c akD akE)) nil)))
def akk:=qs (st (pr (us 1 (c aa7 (us 1 (xs 1 (cu mW (us 1 (cu tU (c ai (xs 1 (us 5 (cu aC7 (us 16 (c ai (c aa7 (c ai (cl ab (cu mW (xs 2 (cu mW aWg))))))))))))))))))) (pl (c akv (c akD akE)) nil)))
abbrev rO:=((aRZ×Int×Int×Bool×Bool×Int×Bool)×(Int×Bool)×aRX×(E4×Bool×NI×(NI×NI)×(Nat×Nat)×qE×Bool×Int×lG×Bool×Bool×Bool×Int×Int×Int×D9×Nat)×(lG×Int×Int)×Lk×QO×bN×bN×bN×bN×bN×bN×Lg×tQ×E1×At×At×At×At×At×At×Nat×NI×NI×NI×NI×NI×NI×NI×NI×NI×NI×NI)⊕(((aRZ×Int×Int×Bool×Bool)×apK×aRX×(E4×Bool×NI×(NI×NI)×(Nat×Nat)×qE×Bool×Int×lG×Bool×Bool×Bool×Int×Int×Int×D9×Nat)×(lG×Int×Int)×Lk×QO×bN×bN×bN×bN×bN×bN×Lg×tQ×E1×At×At×At×At×At×At×Nat×NI×NI×NI×NI×NI×NI×NI×NI×NI×NI×NI)⊕((aRZ×Int×Int×Bool)×apK×aRX×(E4×Bool×NI×(NI×NI)×(Nat×Nat)×qE×Bool×Int×lG×Bool×Bool×Bool×Int×Int×Int×D9×Nat)×(lG×Int×Int)×Lk×QO×bN×bN×bN×bN×bN×bN×Lg×tQ×E1×At×At×At×At×At×At×Nat×NI×NI×NI×NI×NI×NI×NI×NI×NI×NI×NI))
def Y6 {ρ:Type}(x:rO)(K:AX->St->Option ρ):Option ρ:=(t8 (λd=>K (.ex 2) (aki.em ((d.1.1,d.1.2.1,d.1.2.1,d.1.1,d.1.b.1,d.1.b.2.1,d.1.2.1,d.1.c.1,d.1.c.1,d.1.c.2.1,d.1.c.b,d.1.c.b),(d.2.1.1,d.1.c.2.1,d.2.1.2),d.b))) (t8 (λd=>K (.ex 2) (akj.em ((d.1.1,d.1.2.1,d.1.2.1,d.1.1,d.1.b.1,d.1.b.2.1,d.1.2.1,d.1.c,d.1.c),d.2))) (λd=>K (.ex 2) (akk.em ((d.1.1,d.1.2.1,d.1.2.1,d.1.1,d.1.b),d.2))))) x
def KA (aaX:NB)(d:il.B):PL il rO:=let TX:=d.2.2;let n36:=d.2.1;let n25:=d.1.2;let n18:=TX.2;let n49:=n18.2.2;let bK:=d.1.1;let n26:=bK.2.2.2.2;let bj:=n18.1.2.2.2.2;let n50:=bj.1.2;let n15:=bj.2.2.2.2.2.2.2.2.2.2.2.2;let n6:=n49.2.2;let n37:=n6.1.2.2.1;let n33:=n6.2.1.2.2.1;let n31:=n6.2.2.1.2.2.1;let n5:=n26.2.2.2.2.2;let n44:=n5.2.2.2;let n20:=n44.2.2;let n46:=n20.2.2.2;let n3:=n6.2.2.2;let PC:=n3.2.2;let n38:=n3.1.2.2.1;let n34:=n3.2.1.2.2.1;let n32:=PC.1.2.2.1;let bx:=PC.2.2;let n51:=bx.2.2;let n45:=bx.1.2.2;let n19:=n51.2.2;let n52:=n19.2.2;let n4:=n52.2.2.2;let n39:=n4.2.2;let bA:=n39.2.2.2;let n35:=bA.2.2.2;let n2:=(n18.1.1,n18.1.2.1,n18.1.2.2.1,n18.1.2.2.2.1,n50,bj.2);let y0:=ws n25;let n1:=(bK.2.1 y0,bK.2.2.1 y0,bK.2.2.2.1 y0,(n26.1 y0,n26.2.1 y0,(n26.2.2.1 y0,n26.2.2.2.1 y0,n26.2.2.2.2.1 y0),n5.1 y0,n5.2.1 y0,n5.2.2.1 y0),n44.1 y0,n44.2.1 y0,n20.1 y0,n20.2.1 y0,n20.2.2.1 y0,n46.1 y0,n46.2.1 y0,n46.2.2.1 y0,n46.2.2.2 y0);let y1:=wl bK.1;let y2:=decide (n25<20);let y3:=bb n25 bK.1;let y4:=decide (n36.2.1<30);let y5:=decide (n25<y1);ae y5 (ae y2 (ae y4 (ae y3 (ae (bK.2.1 y0==1) (ae y3 (ae (decide (n44.1 y0>n36.1)) (ret (wr ((bK,wI (n25+1)),d.2))) (ae y3 (ae (ww n50 n50) (ae (ww n15 n15) (ae (ww n37 n37) (ae (ww n33 n33) (ae (ww n31 n31) (ae (ww n38 n38) (ae (ww n34 n34) (ae (ww n32 n32) (ae (ww n45 n45) (opt (aaX (n1,n36,n2,n18.2.1,n49.1,(sh8 bj.1.1 n49.2.1.2),n6.1,n6.2.1,n6.2.2.1,n3.1,n3.2.1,PC.1,PC.2.1,bx.1,(at2 0 bx.2.1.2),(vQ 0 n51.1.2),(vQ 0 n51.2.1.2),(vQ 0 n19.1.2),(vQ 0 n19.2.1.2),(vQ 0 n52.1.2),(vQ 0 n52.2.1.2),λj=>n4.1 (0+j),λj=>n4.2.1 (0+j),λj=>n39.1 (0+j),λj=>n39.2.1 (0+j),λj=>n39.2.2.1 (0+j),λj=>bA.1 (0+j),λj=>bA.2.1 (0+j),λj=>bA.2.2.1 (0+j),λj=>n35.1 (0+j),λj=>n35.2.1 (0+j),λj=>n35.2.2 (0+j))) λaj=>ae (match aj with|wr val=>true|wn val=>false) (opt (match aj with|wr a=>some a|wn val=>none) λaD=>let n27:=aD.1.2.2.2;let n23:=aD.2.2.2.2.2;let n9:=n23.2.2.2.2.2;let n28:=n9.2.2.2.2;ret (wr ((bK,wI (n25+1)),aD.1.1,TX.1,(aD.1.2.1,aD.1.2.2.1,n27.1,n27.2.1,(0,n27.2.2.1),n27.2.2.2),aD.2.1,aD.2.2.1,(n27.2.2.1,aD.2.2.2.1),aD.2.2.2.2.1,n23.1,n23.2.1,n23.2.2.1,n23.2.2.2.1,n23.2.2.2.2.1,n9.1,n9.2.1,(n27.2.2.2.2.2.2.2.2.2.2.2.2.2.2,n9.2.2.1),n9.2.2.2.1,n28.1,n28.2.1,n28.2.2.1,n28.2.2.2.1,n28.2.2.2.2.1,n9.2.1.2.2,n28.2.2.2.2.2))) (opt (match aj with|wn b=>some b|wr val=>none) λaD=>let n21:=aD.2.2.2.2.2;let n7:=n21.2.2.2;let TY:=n7.2.2;let n16:=TY.2.2.2.2;let n47:=n16.2.2.2;ret (wr ((bK,wI (n25+1)),aD.1,TX.1,aD.2.1,aD.2.2.1,aD.2.2.2.1,aD.2.2.2.2.1,n21.1,n21.2.1,n21.2.2.1,n7.1,n7.2.1,TY.1,TY.2.1,TY.2.2.1,TY.2.2.2.1,(n21.1.2.2.1,n16.1),(n21.2.1.2.2.1,n16.2.1),(n21.2.2.1.2.2.1,n16.2.2.1),(n7.1.2.2.1,n47.1),(n7.2.1.2.2.1,n47.2.1),(TY.1.2.2.1,n47.2.2.1),n47.2.2.2)))) no) no) no) no) no) no) no) no) no) no)) no) (ae y3 (ae (ww n50 n50) (ae (ww n15 n15) (ae (ww n37 n37) (ae (ww n33 n33) (ae (ww n31 n31) (ae (ww n38 n38) (ae (ww n34 n34) (ae (ww n32 n32) (ae (ww n45 n45) (opt (aaX (n1,n36,n2,n18.2.1,n49.1,(sh8 bj.1.1 n49.2.1.2),n6.1,n6.2.1,n6.2.2.1,n3.1,n3.2.1,PC.1,PC.2.1,bx.1,(at2 0 bx.2.1.2),(vQ 0 n51.1.2),(vQ 0 n51.2.1.2),(vQ 0 n19.1.2),(vQ 0 n19.2.1.2),(vQ 0 n52.1.2),(vQ 0 n52.2.1.2),λj=>n4.1 (0+j),λj=>n4.2.1 (0+j),λj=>n39.1 (0+j),λj=>n39.2.1 (0+j),λj=>n39.2.2.1 (0+j),λj=>bA.1 (0+j),λj=>bA.2.1 (0+j),λj=>bA.2.2.1 (0+j),λj=>n35.1 (0+j),λj=>n35.2.1 (0+j),λj=>n35.2.2 (0+j))) λaj=>ae (match aj with|wr val=>true|wn val=>false) (opt (match aj with|wr a=>some a|wn val=>none) λaD=>let n29:=aD.1.2.2.2;let n24:=aD.2.2.2.2.2;let aT:=n24.2.2.2.2.2;let n30:=aT.2.2.2.2;ret (wr ((bK,wI (n25+1)),aD.1.1,TX.1,(aD.1.2.1,aD.1.2.2.1,n29.1,n29.2.1,(0,n29.2.2.1),n29.2.2.2),aD.2.1,aD.2.2.1,(n29.2.2.1,aD.2.2.2.1),aD.2.2.2.2.1,n24.1,n24.2.1,n24.2.2.1,n24.2.2.2.1,n24.2.2.2.2.1,aT.1,aT.2.1,(n29.2.2.2.2.2.2.2.2.2.2.2.2.2.2,aT.2.2.1),aT.2.2.2.1,n30.1,n30.2.1,n30.2.2.1,n30.2.2.2.1,n30.2.2.2.2.1,aT.2.1.2.2,n30.2.2.2.2.2))) (opt (match aj with|wn b=>some b|wr val=>none) λaD=>let n22:=aD.2.2.2.2.2;let n8:=n22.2.2.2;let n43:=n8.2.2;let n17:=n43.2.2.2.2;let n48:=n17.2.2.2;ret (wr ((bK,wI (n25+1)),aD.1,TX.1,aD.2.1,aD.2.2.1,aD.2.2.2.1,aD.2.2.2.2.1,n22.1,n22.2.1,n22.2.2.1,n8.1,n8.2.1,n43.1,n43.2.1,n43.2.2.1,n43.2.2.2.1,(n22.1.2.2.1,n17.1),(n22.2.1.2.2.1,n17.2.1),(n22.2.2.1.2.2.1,n17.2.2.1),(n8.1.2.2.1,n48.1),(n8.2.1.2.2.1,n48.2.1),(n43.1.2.2.1,n48.2.2.1),n48.2.2.2)))) no) no) no) no) no) no) no) no) no) no)) no) (ret (wn (wr ((bK,n25,y1,y5,y2,n36.2.1,y4),(n36.1,n36.2.2),TX))))) (ret (wn (wn (wr ((bK,n25,y1,y5,y2),d.2)))))) (ret (wn (wn (wn ((bK,n25,y1,y5),d.2)))))
def KB:=bD (KA jX) 2000
def lA:=qs (st (pr (us 3 (xs 1 (us 2 (cu tU (us 1 (cl ai aV7)))))) (pl (c akv (c akD akE)) nil)))
def at1:=qs (st (pr (us 3 (xs 1 (us 2 (cu tU (us 1 (c ai (us 5 (cu aC7 (us 63 (c ai (cl ab (us 43 nil)))))))))))) (pl (c akv (c akD akE)) nil)))
abbrev rP:=((Int×Bool)×apK×aRX×(E4×Bool×NI×(NI×NI)×(Nat×Nat)×qE×Bool×Int×lG×Bool×Bool×Bool×Int×Int×Int×D9×Nat)×(lG×Int×Int)×Lk×QO×bN×bN×bN×bN×bN×bN×Lg×tQ×E1×At×At×At×At×At×At×Nat×NI×NI×NI×NI×NI×NI×NI×NI×NI×NI×NI)
def Y7 {ρ:Type}(x:rP)(K:AX->St->Option ρ):Option ρ:=(λd=>K (.ex 4) (at1.em ((d.1.1,d.1),d.2))) x
def KC (Kx:xj)(d:lA.B):PL lA rP:=let n4:=d.2.2.2;let n8:=n4.1.2.2.2.2;let bx:=n8.2.2.2.2.2.2.2.2.2.2.2.2;let n6:=n4.2.2.2.2;let n1:=n6.2.2.2;let n15:=n1.2.2;let n5:=n15.2.2;let bj:=n5.2.2.2.2;let n2:=bj.2.2.2.2.2;let n9:=n2.2.2.2.2.2;let y0:=decide (d.1<8);ae y0 (ae (ww n8.1.2 n8.1.2) (ae (ww bx bx) (ae (ww n6.1.2.2.1 n6.1.2.2.1) (ae (ww n6.2.1.2.2.1 n6.2.1.2.2.1) (ae (ww n6.2.2.1.2.2.1 n6.2.2.1.2.2.1) (ae (ww n1.1.2.2.1 n1.1.2.2.1) (ae (ww n1.2.1.2.2.1 n1.2.1.2.2.1) (ae (ww n15.1.2.2.1 n15.1.2.2.1) (ae (ww n5.1.2.2 n5.1.2.2) (opt (Kx (d.2.1,(n4.1.1,n4.1.2.1,n4.1.2.2.1,n4.1.2.2.2.1,n8.1.2,n8.2),n4.2.1,n4.2.2.1,(sh8 n8.1.1 n4.2.2.2.1.2),n6.1,n6.2.1,n6.2.2.1,n1.1,n1.2.1,n15.1,n15.2.1,n5.1,(at2 0 n5.2.1.2),(vQ 0 n5.2.2.1.2),(vQ 0 n5.2.2.2.1.2),(vQ 0 bj.1.2),(vQ 0 bj.2.1.2),(vQ 0 bj.2.2.1.2),(vQ 0 bj.2.2.2.1.2),λj=>n2.1 (0+j),λj=>n2.2.1 (0+j),λj=>n2.2.2.1 (0+j),λj=>n2.2.2.2.1 (0+j),λj=>n2.2.2.2.2.1 (0+j),λj=>n9.1 (0+j),λj=>n9.2.1 (0+j),λj=>n9.2.2.1 (0+j),λj=>n9.2.2.2.1 (0+j),λj=>n9.2.2.2.2.1 (0+j),λj=>n9.2.2.2.2.2 (0+j))) λaj=>let aT:=aj.2.2.2.2;let n3:=aT.2.2.2;let bA:=n3.2.2;let n7:=bA.2.2.2.2;let bK:=n7.2.2.2;ret (wr (wI (d.1+1),aj.1.1,d.2.2.1,aj.1.2,aj.2.1,aj.2.2.1,aj.2.2.2.1,aT.1,aT.2.1,aT.2.2.1,n3.1,n3.2.1,bA.1,bA.2.1,bA.2.2.1,bA.2.2.2.1,(aT.1.2.2.1,n7.1),(aT.2.1.2.2.1,n7.2.1),(aT.2.2.1.2.2.1,n7.2.2.1),(n3.1.2.2.1,bK.1),(n3.2.1.2.2.1,bK.2.1),(bA.1.2.2.1,bK.2.2.1),bK.2.2.2))) no) no) no) no) no) no) no) no) no) (ret (wn ((d.1,y0),d.2)))
def KD:=bD (KC c9) 2000
def jC:=qs (st (pr (us 6 (cu tU (us 2 (cu (app 1 19) (cl ai (us 112 nil)))))) (pl (c akv (c (so aQr) akE)) nil)))
def N9:=qs (st (pu (us 4 (cu mW (us 118 nil))) (pu nil nil)))
def akl:=qs (st (pr (us 6 (cu tU (us 2 (cu (app 1 19) (c ai (us 99 aPH)))))) (pl (c akv (c (so aQr) akE)) nil)))
abbrev rQ:=N9.B⊕((Int×Bool)×apK×(Int×Int×Bool×Bool×Int×Int×Int×Bool×Bool×Int×Int×Int×Int×Int×Int×Int×Int×Int×Int)×(E4×Bool×NI×(NI×NI)×(Nat×Nat)×qE×Bool×Int×lG×Bool×Bool×Bool×Int×Int×Int×D9×Nat)×(lG×Int×Int)×Lk×QO×bN×bN×bN×bN×bN×bN×Lg×tQ×E1×At×At×At×At×At×At×Nat×NI×NI×NI×NI×NI×NI×NI×NI×NI×NI×NI)
def Y8 {ρ:Type}(x:rQ)(K:AX->St->Option ρ):Option ρ:=(t8 (λd=>K .ret (N9.em d)) (λd=>K (.ex 6) (akl.em ((d.1.1,d.1),d.2)))) x
def KE (aoE:Ga)(gK:mc)(d:jC.B):PL jC rQ:=let n3:=d.2.2.2;let n6:=n3.1.2.2.2.2;let n9:=n6.2.2.2.2.2.2.2.2.2.2.2.2;let n5:=n3.2.2.2.2;let n1:=n5.2.2.2;let aT:=n1.2.2;let n4:=aT.2.2;let n8:=n4.2.2.2.2;let n2:=n8.2.2.2.2.2;let n7:=n2.2.2.2.2.2;let y0:=decide (d.1<6);ae y0 (ae (ww n6.1.2 n6.1.2) (ae (ww n9 n9) (ae (ww n5.1.2.2.1 n5.1.2.2.1) (ae (ww n5.2.1.2.2.1 n5.2.1.2.2.1) (ae (ww n5.2.2.1.2.2.1 n5.2.2.1.2.2.1) (ae (ww n1.1.2.2.1 n1.1.2.2.1) (ae (ww n1.2.1.2.2.1 n1.2.1.2.2.1) (ae (ww aT.1.2.2.1 aT.1.2.2.1) (ae (ww n4.1.2.2 n4.1.2.2) (opt (aoE (d.1,(n3.1.1,n3.1.2.1,n3.1.2.2.1,n3.1.2.2.2.1,n6.1.2,n6.2),n3.2.1,n3.2.2.1,(sh8 n6.1.1 n3.2.2.2.1.2),n5.1,n5.2.1,n5.2.2.1,n1.1,n1.2.1,aT.1,aT.2.1,n4.1,(at2 0 n4.2.1.2),(vQ 0 n4.2.2.1.2),(vQ 0 n4.2.2.2.1.2),(vQ 0 n8.1.2),(vQ 0 n8.2.1.2),(vQ 0 n8.2.2.1.2),(vQ 0 n8.2.2.2.1.2),λj=>n2.1 (0+j),λj=>n2.2.1 (0+j),λj=>n2.2.2.1 (0+j),λj=>n2.2.2.2.1 (0+j),λj=>n2.2.2.2.2.1 (0+j),λj=>n7.1 (0+j),λj=>n7.2.1 (0+j),λj=>n7.2.2.1 (0+j),λj=>n7.2.2.2.1 (0+j),λj=>n7.2.2.2.2.1 (0+j),λj=>n7.2.2.2.2.2 (0+j))) λaj=>opt (gK d.2.2.1.2.2.2.2.1 aj.1 aj.2.1 aj.2.2.1 aj.2.2.2.1 aj.2.2.2.2.1 aj.2.2.2.2.2) λaD=>ae aD (ret (wn (wr ()))) (ret (wr (wI (d.1+1),d.2)))) no) no) no) no) no) no) no) no) no) (ret (wn (wn ((d.1,y0),d.2))))
def KF:=bD (KE mO du) 2000
def Dc (tO:zk)(l_3:LT jC rQ)(d:rP):Pg G6:=let n3:=d.2.2.2;let n6:=n3.1.2.2.2.2;let n9:=n6.2.2.2.2.2.2.2.2.2.2.2.2;let n5:=n3.2.2.2.2;let n1:=n5.2.2.2;let aT:=n1.2.2;let n4:=aT.2.2;let n8:=n4.2.2.2.2;let n2:=n8.2.2.2.2.2;let n7:=n2.2.2.2.2.2;ae (ww n6.1.2 n6.1.2) (ae (ww n9 n9) (ae (ww n5.1.2.2.1 n5.1.2.2.1) (ae (ww n5.2.1.2.2.1 n5.2.1.2.2.1) (ae (ww n5.2.2.1.2.2.1 n5.2.2.1.2.2.1) (ae (ww n1.1.2.2.1 n1.1.2.2.1) (ae (ww n1.2.1.2.2.1 n1.2.1.2.2.1) (ae (ww aT.1.2.2.1 aT.1.2.2.1) (ae (ww n4.1.2.2 n4.1.2.2) (opt (tO ((n3.1.1,n3.1.2.1,n3.1.2.2.1,n3.1.2.2.2.1,n6.1.2,n6.2),n3.2.1,n3.2.2.1,(sh8 n6.1.1 n3.2.2.2.1.2),n5.1,n5.2.1,n5.2.2.1,n1.1,n1.2.1,aT.1,aT.2.1,n4.1,(at2 0 n4.2.1.2),(vQ 0 n4.2.2.1.2),(vQ 0 n4.2.2.2.1.2),(vQ 0 n8.1.2),(vQ 0 n8.2.1.2),(vQ 0 n8.2.2.1.2),(vQ 0 n8.2.2.2.1.2),λj=>n2.1 (0+j),λj=>n2.2.1 (0+j),λj=>n2.2.2.1 (0+j),λj=>n2.2.2.2.1 (0+j),λj=>n2.2.2.2.2.1 (0+j),λj=>n7.1 (0+j),λj=>n7.2.1 (0+j),λj=>n7.2.2.1 (0+j),λj=>n7.2.2.2.1 (0+j),λj=>n7.2.2.2.2.1 (0+j),λj=>n7.2.2.2.2.2 (0+j))) λbC=>ae bC.2.2.1 (ret false) (ae (bC.1==3) (ret false) (ae (decide (bC.1>=2)) (ae (!bC.2.2.2.1) (ret false) (opt (l_3 (0,d.2.1,bC,n3)) λx=>sum x (λd=>ret false) λd=>ret true)) (opt (l_3 (0,d.2.1,bC,n3)) λx=>sum x (λd=>ret false) λd=>ret true)))) no) no) no) no) no) no) no) no) no
def P' (aLT:ah4)(aO2:aoq)(aoa:Rs)(tO:zk)(eH:LT lz xm)(qG:LT il rO)(HB:LT lA rP)(l_3:LT jC rQ)(x:pe.B):Pg G6:=let n8:=x.1.2.2.2.2;let n24:=n8.1.2.2;let n20:=n8.2.1.2;opt aLT λd=>ae (!d) (ret false) (opt (eH ((x.2,0),x.1.2.2.1,x.1.2.2.2.1,n8.1.1,n8.1.2.1,n24.1,n24.2.1,n24.2.2.1,n24.2.2.2,n8.2.1.1,n20.1,n20.2.1,n20.2.2.1,n20.2.2.2.1,n20.2.2.2.2,n8.2.2.1,n8.2.2.2.1,n8.2.2.2.2.2)) λd=>let n25:=d.2.2;let bx:=n25.2.2.2;let n6:=bx.2.2.2.2.2;let bA:=n6.2.2.2.2.2;let n2:=(n25.2.1,n25.2.2.1,bx.1,bx.2.1,bx.2.2.1,bx.2.2.2.1);let n1:=(bx.2.2.2.2.1,n6.1,n6.2.1,n6.2.2.1,n6.2.2.2.1,n6.2.2.2.2.1);opt (aO2 (8000,0,d.2.1,n25.1,n2,n1,bA.1,bA.2.1,20000,bA.2.2)) λaj=>ae (match aj with|wr val=>true|wn val=>false) (opt (match aj with|wr a=>some a|wn val=>none) λaD=>opt (aoa (8000,0,d.2.1,n25.1,n2,n1,bA.1,bA.2.1,20000,bA.2.2)) λd=>ret !d) (opt (match aj with|wn b=>some b|wr val=>none) λaD=>let n21:=aD.1.2.2;let aT:=n21.2.2.2.2;let n22:=aT.2.2.2;let n7:=aD.2.2.2;let bK:=n7.2.2.2.2.2;let n4:=n22.2.2.2.2;let n23:=n4.2.2.2;let n9:=n23.2.2.2.2;let n19:=n9.2.2.2.2;let n3:=bK.2.2.2.2;let n16:=n3.2.1;let bj:=n3.2.2;let n17:=bj.2.1;let n5:=bj.2.2;let n18:=n5.2.1;let n15:=n5.2.2;opt (qG ((d.1.1,0),(0,0,false),d.2,((aD.1.1,aD.1.2.1,n21.1,n21.2.1,(n21.2.2.1,n21.2.2.2.1,aT.1,aT.2.1,aT.2.2.1,n22.1),(n22.2.1,n22.2.2.1,n22.2.2.2.1,n4.1,n4.2.1,n4.2.2.1),n23.1,n23.2.1,n23.2.2.1,n23.2.2.2.1,n9.1,n9.2.1,n9.2.2.1,n9.2.2.2.1,n19.1,n19.2.1),n19.2.2.1,n19.2.2.2.1,n19.2.2.2.2,(0,0),(0,0,false,false),false,0,(0,0,0),false,false,false,0,0,0,((1073741824,0,0,0),(0,0,0),0,0,0),0),((aD.2.1.1,aD.2.1.2.1,aD.2.1.2.2.1),aD.2.1.2.2.2),(aD.2.2.1,(0,0,(0,0,0),0,0,0),false),(0,n7.1,n7.1,n7.1,n7.1,n7.1,n7.1,n7.1,n7.1),((0,0,0,0,0),n7.2.1,0, -9223372036854775808),((0,0,0,0,0),n7.2.2.1,0, -9223372036854775808),((0,0,0,0,0),n7.2.2.2.1,0, -9223372036854775808),((0,0,0,0,0),n7.2.2.2.2.1,0, -9223372036854775808),((0,0,0,0,0),bK.1,0, -9223372036854775808),((0,0,0,0,0),bK.2.1,0, -9223372036854775808),(bK.2.2.1,0),(bK.2.2.2.1.1,bK.2.2.2.1.2,0),(0,n7.1,n7.1,n7.1,n7.1,n7.1,n7.1,n7.1,n7.1,n7.1,n7.1),(0,n3.1,n3.1,n3.1,n3.1,n3.1,n3.1,n3.1,n3.1,n3.1),(0,n16,n16,n16,n16,n16,n16,n16,n16,n16),(0,bj.1,bj.1,bj.1,bj.1,bj.1,bj.1,bj.1,bj.1,bj.1),(0,n17,n17,n17,n17,n17,n17,n17,n17,n17),(0,n5.1,n5.1,n5.1,n5.1,n5.1,n5.1,n5.1,n5.1,n5.1),(0,n18,n18,n18,n18,n18,n18,n18,n18,n18),0,n15,n15,n15,n15,n15,n15,n15,n15,n15,n15,n15)) λx=>sum x (λd=>ae (decide (d.2.1.1>562949953421312)) (ret true) (opt (HB (0,(d.2.1.1,d.1.2.2.2.2.2.1,d.2.1.2),d.2.2)) (Dc tO l_3))) λx=>sum x (λd=>ae (decide (d.2.1.1>562949953421312)) (ret true) (opt (HB (0,d.2)) (Dc tO l_3))) λd=>ae (decide (d.2.1.1>562949953421312)) (ret true) (opt (HB (0,d.2)) (Dc tO l_3))))
def wx:=λx=>(P' Vy Gj oY gm Kz KB KD KF x).val
abbrev rR:=ah4×aoq×Rs×NB×xj×zk×Ga×mc×(LT lz xm)×(LT il rO)×(LT lA rP)×(LT jC rQ)
def wy (p:rR):KK:=⟨[awT p.1,aBr p.2.1,anJ p.b.1,aaV p.b.2.1,Ku p.c.1,F9 p.c.2.1,RM p.c.b.1,ub p.c.b.2.1],⟨[⟨7,(0::6::7::rg 9 5 (rg 15 108 [])),[(0,[])]⟩,⟨14,(0::2::5::rg 9 5 (rg 15 108 [])),[(0,[])]⟩,⟨21,(0::1::2::4::5::7::rg 9 5 (rg 15 108 [])),[(0,[])]⟩,⟨28,(rg 0 6 (7::8::rg 11 112 [])),[(0,[])]⟩],[fW 7 0 lz Y5 p.d.1,fW 14 0 il Y6 p.d.2.1,fW 21 0 lA Y7 p.d.b.1,fW 28 0 jC Y8 p.d.b.2],[],[],(some ⟨0,(rg 0 4 (rg 5 118 [])),[]⟩)⟩,0,3⟩
theorem apG (p:rR):LI (wy p) 7 lz Y5 (Ky):=λ_ d c K=>by kernel_rfl
theorem apH (p:rR):LI (wy p) 14 il Y6 (KA p.b.2.1):=λ_ d c K=>by kernel_rfl
theorem apI (p:rR):LI (wy p) 21 lA Y7 (KC p.c.1):=λ_ d c K=>by kernel_rfl
theorem apJ (p:rR):LI (wy p) 28 jC Y8 (KE p.c.b.1 p.c.b.2.1):=λ_ d c K=>by kernel_rfl
theorem ayW (p:rR):D2 (wy p) pe (lf NJ) λb=>P' p.1 p.2.1 p.b.1 p.c.2.1 p.d.1 p.d.2.1 p.d.b.1 p.d.b.2 b:=λb=>by kernel_rfl
abbrev wz:rR:=(Vy,Gj,oY,jX,c9,gm,mO,du,Kz,KB,KD,KF)
theorem ayX [ax]:SC (ayV wx):=sc (kS (k:=wy wz) (.c aLS (.c aOr (.c aA9 (.c awD (.c Y2 (.c RL (.c anT (.c A7 (.nil _))))))))) [7,14,21,28] [] ⟨kL (apG wz),⟨kL (apH wz),⟨kL (apI wz),⟨kL (apJ wz),trivial⟩⟩⟩⟩ trivial (ayW wz))
end Go.Proofs.YtldgljclcgaibaaGreat
namespace Go.Proofs.YtldgljclcgaibaaGreat
open Go.Ab Go.Ab.Pg
theorem IS.mono {N:Nat}{B k l:Int}{q:Nat×Nat}{T S:Int}{a:Bool}{row:Nat->Int}{b0 b1 b2 b3 b4 b5:Bf}{p:Int×Int×Nat}(h:IS N B k q T S a row b0 b1 b2 b3 b4 b5 p)(e:k<=l):IS N B l q T S a row b0 b1 b2 b3 b4 b5 p:=⟨AF h.1 e,h.2⟩
def Js (N:Nat)(B k:Int)(d:il.B):Prop:=IS N B (k) d.b.2.1.c.1 d.b.2.1.d.c.2.1 d.c.2.1.2.1.1 d.c.2.1.2.2 d.c.b.1.2.1 d.c.b.2.1 d.d.1 d.d.2.1 d.d.b.1 d.d.b.2.1 d.d.c.1 d.d.c.b.1/\Jp d.2.1.1 d.b.2.1.1.2.1 d.b.2.1.1.d.1 d.b.2.1.d.c.1 d.b.2.1.c.1.2 d.c.2.1 d.d.c.2.1/\(∀j,j<d.c.b.2.1.b.1->d.e.1.2.1 j<=d.2.1.1)/\(∀j,j<d.d.1.b.1->d.e.2.1.2.1 j<=d.2.1.1)/\(∀j,j<d.d.2.1.b.1->d.e.b.1.2.1 j<=d.2.1.1)/\(∀j,j<d.d.b.1.b.1->d.e.b.2.1.2.1 j<=d.2.1.1)/\(∀j,j<d.d.b.2.1.b.1->d.e.c.1.2.1 j<=d.2.1.1)/\(∀j,j<d.d.c.1.b.1->d.e.c.2.1.2.1 j<=d.2.1.1)
theorem aUD (N:Nat)(h1:1<=N)(hN:N<=1999)(B:Int)(hB:B<=64)(d:il.B)(hd:0<=d.1.2/\d.1.2<=20/\Js N B (40*d.1.2) d):Ok (KB d) (λx:rO=>match x with|.inl x=>Js N B 800 (d.1,(x.2.1.1,d.2.1.2),x.2.2)|.inr (.inl x)=>Js N B 800 (d.1,(x.2.1.1,d.2.1.2),x.2.2)|.inr (.inr x)=>Js N B 800 (d.1,(x.2.1.1,d.2.1.2),x.2.2)):=
 aEA (s:=_) (λd:il.B=>0<=d.1.2/\d.1.2<=20/\Js N B (40*d.1.2) d) (λd:il.B=>ws (20-d.1.2)) (λx:rO=>match x with|.inl x=>Js N B 800 (d.1,(x.2.1.1,d.2.1.2),x.2.2)|.inr (.inl x)=>Js N B 800 (d.1,(x.2.1.1,d.2.1.2),x.2.2)|.inr (.inr x)=>Js N B 800 (d.1,(x.2.1.1,d.2.1.2),x.2.2)) (λd hd=>by
  obtain⟨i0,i1,is,hJ,c0,c1,c2,c3,c4,c5⟩:=hd;have fin:Js N B 800 d:=⟨is.mono (by omega),hJ,c0,c1,c2,c3,c4,c5⟩;unfold KA;dsimp only;rw[aK];refine⟨λk0=> ?_,λ_=>by rw[av];exact fin⟩;rw[aK];refine⟨λk1=> ?_,λ_=>by rw[av];exact fin⟩;rw[aK];refine⟨λk2=> ?_,λ_=>by rw[av];exact fin⟩;have k0:=cQ k0;rw[dO] at k0;have k1:=cQ k1;have r0:bb d.1.2 d.1.1.1=true:=by rw[bk];omega
  have hw:wI (d.1.2+1)=d.1.2+1:=aY;rw[r0,aC];simp only[aN];rw[aK];refine⟨λo1=> ?_,λo1=> ?_⟩
  .rw[aC,aK];refine⟨λ_=> ?_,λlate=> ?_⟩
   .rw[av];exact⟨⟨by show 0<=wI (d.1.2+1);rw[hw];omega,by show wI (d.1.2+1)<=20;rw[hw];omega,is.mono (by show(40*d.1.2:Int)<=40*wI (d.1.2+1);rw[hw];omega),hJ,c0,c1,c2,c3,c4,c5⟩,by show ws (20-wI (d.1.2+1))<ws (20-d.1.2);rw[hw];omega⟩
   .have late:=kO late;repeat rw[aC]
    with_reducible refine ay ((aS8 N h1 hN B hB (40*d.1.2) (by omega) d.b.2.1.c.1 d.c.b.1.2.1 _ ?_ ?_ ?_).with (aYX d.2.1.1 _ ?_ ?_ ?_ ?_)) λr _ hr=> ?_
    .rfl
    .rfl
    .exact is
    .rfl
    .exact λ_=>Int.not_lt.mp late
    .exact hJ
    .exact⟨zr c0,zr c1,zr c2,zr c3,zr c4,zr c5⟩
    cases r with
    |inl e=>
     obtain⟨h1',T,t0,_,t2,t3⟩:=hr;subst t0;simp only[aC,bT];rw[av]
     exact⟨⟨by show 0<=wI (d.1.2+1);rw[hw];omega,by show wI (d.1.2+1)<=20;rw[hw];omega,by
      have h:=h1';rw[show 40*d.1.2+40=40*wI (d.1.2+1) by rw[hw];omega] at h;exact h,t2,t3⟩,by show ws (20-wI (d.1.2+1))<ws (20-d.1.2);rw[hw];omega⟩
    |inr e=>
     obtain⟨h1',T,t0,_,t2,t3⟩:=hr;subst t0;simp only[aC,uh,bT];rw[av]
     exact⟨⟨by show 0<=wI (d.1.2+1);rw[hw];omega,by show wI (d.1.2+1)<=20;rw[hw];omega,by
      have h:=h1';rw[show 40*d.1.2+40=40*wI (d.1.2+1) by rw[hw];omega] at h;exact h,t2,t3⟩,by show ws (20-wI (d.1.2+1))<ws (20-d.1.2);rw[hw];omega⟩
  .have o1:=akI o1;repeat rw[aC]
   with_reducible refine ay ((aS8 N h1 hN B hB (40*d.1.2) (by omega) d.b.2.1.c.1 d.c.b.1.2.1 _ ?_ ?_ ?_).with (aYX d.2.1.1 _ ?_ ?_ ?_ ?_)) λr _ hr=> ?_
   .rfl
   .rfl
   .exact is
   .rfl
   .exact λq=>absurd q o1
   .exact hJ
   .exact⟨zr c0,zr c1,zr c2,zr c3,zr c4,zr c5⟩
   cases r with
   |inl e=>
    obtain⟨h1',T,t0,_,t2,t3⟩:=hr;subst t0;simp only[aC,bT];rw[av]
    exact⟨⟨by show 0<=wI (d.1.2+1);rw[hw];omega,by show wI (d.1.2+1)<=20;rw[hw];omega,by
     have h:=h1';rw[show 40*d.1.2+40=40*wI (d.1.2+1) by rw[hw];omega] at h;exact h,t2,t3⟩,by show ws (20-wI (d.1.2+1))<ws (20-d.1.2);rw[hw];omega⟩
   |inr e=>
    obtain⟨h1',T,t0,_,t2,t3⟩:=hr;subst t0;simp only[aC,uh,bT];rw[av]
    exact⟨⟨by show 0<=wI (d.1.2+1);rw[hw];omega,by show wI (d.1.2+1)<=20;rw[hw];omega,by
     have h:=h1';rw[show 40*d.1.2+40=40*wI (d.1.2+1) by rw[hw];omega] at h;exact h,t2,t3⟩,by show ws (20-wI (d.1.2+1))<ws (20-d.1.2);rw[hw];omega⟩
) 2000 d hd (by omega)
theorem aO3 (N:Nat)(h1:1<=N)(hN:N<=1999)(B:Int)(hB:B<=64)(k:Int)(hk:k<=1900)(q:Nat×Nat)(row:Nat->Int)(x:fN.B)(e1:x.2.1.c.1=q.2)(e2:x.c.1.1=λi=>row (q.1+i))(h:IS N B k q x.2.1.d.c.2.1 x.b.2.1.2.1.1 x.b.2.1.2.2 row x.c.2.1 x.c.b.1 x.c.b.2.1 x.d.1 x.d.2.1 x.d.b.1 x.d.c.1):Ok (c9 x) (λe:kI=>IS N B (k+1) e.1.c.2.1 e.1.d.c.b.1 e.b.1.2.1.1 e.b.1.2.2 e.b.2.1.2.1 e.c.1 e.c.2.1 e.c.b.1 e.c.b.2.1 e.d.1 e.d.2.1 e.d.b.2.1):=by
 obtain⟨h0,h1',p0,p1,p2,p3,p4,p5,s0,s1⟩:=h;refine(aOQ N h1 hN x (by rw[e1];omega) (p0.len hB) (p1.len hB) (p2.len hB) (p3.len hB) (p4.len hB) (p5.len hB) (by rw[s0];exact dg _) s1 (by rw[e1,e2];exact h1')).mono λe he=> ?_;obtain⟨a0,a1,a2,r0,r1,r2,r3,r4,r5,u0,u1⟩:=he;rw[e1] at a0;exact⟨by omega,a1,p0.br r0,p1.br r1,p2.br r2,p3.br r3,p4.br r4,p5.br r5,u0.trans s0,u1⟩
theorem aI2 (x:fN.B):Po (c9 x) (λe:kI=>e.1.2.1.2.1=x.2.1.1.2.1/\e.1.2.1.d.1=x.2.1.1.d.1/\e.d.b.1.1.c.1=x.d.b.2.1.1.c.1):=by
 haveI i0:Ek x.2.1.1.2.1 x.2.1.1.2.1:=⟨rfl⟩
 haveI i1:Ek x.2.1.1.d.1 x.2.1.1.d.1:=⟨rfl⟩
 haveI i2:Ek x.b.2.1.1 x.b.2.1.1:=⟨rfl⟩
 haveI i3:Ek x.d.b.2.1.1.c.1 x.d.b.2.1.1.c.1:=⟨rfl⟩
 intro e he;obtain⟨v0,v1,v2,v3⟩:=(apF x).h e he;exact⟨v1.h,v2.h,v3.h⟩
theorem aUF (N:Nat)(h1:1<=N)(hN:N<=1999)(B:Int)(hB:B<=64)(L0:Int)(l0:0<=L0)(l1:L0<=562949953421312):∀(d:lA.B) (hd:0<=d.1/\d.1<=8/\IS N B (800+d.1) d.b.2.1.c.1 d.b.2.1.d.c.2.1 d.c.2.1.2.1.1 d.c.2.1.2.2 d.c.b.1.2.1 d.c.b.2.1 d.d.1 d.d.2.1 d.d.b.1 d.d.b.2.1 d.d.c.1 d.d.c.b.1/\d.2.1.1=L0+8000*d.1/\d.b.2.1.1.2.1=0/\d.b.2.1.1.d.1=20000/\d.b.2.1.c.1.2=0/\d.c.2.1.1=8000/\d.c.2.1.2.1.1=d.2.1.1/\0<=d.c.2.1.2.1.2.1/\d.c.2.1.2.1.2.1<=100000/\(∀j,j<6->d.d.c.2.1.1.c.1 j=10000)/\(d.1=0->Jp L0 d.b.2.1.1.2.1 d.b.2.1.1.d.1 d.b.2.1.d.c.1 d.b.2.1.c.1.2 d.c.2.1 d.d.c.2.1/\(∀j,j<d.c.b.2.1.b.1->d.e.1.2.1 j<=L0)/\(∀j,j<d.d.1.b.1->d.e.2.1.2.1 j<=L0)/\(∀j,j<d.d.2.1.b.1->d.e.b.1.2.1 j<=L0)/\(∀j,j<d.d.b.1.b.1->d.e.b.2.1.2.1 j<=L0)/\(∀j,j<d.d.b.2.1.b.1->d.e.c.1.2.1 j<=L0)/\(∀j,j<d.d.c.1.b.1->d.e.c.2.1.2.1 j<=L0))/\(1<=d.1->d.c.b.2.1.b.1=0/\d.d.1.b.1=0/\d.d.2.1.b.1=0/\d.d.b.1.b.1=0/\d.d.b.2.1.b.1=0/\d.d.c.1.b.1=0/\Bd (L0+8000) d.b.2.1.d.c.1/\Lb (L0+8000) d.d.c.2.1.1.1)/\(4<=d.1->(¬d.b.2.1.c.2.1.1=3/\d.b.2.1.c.2.1.b.1=false/\(2<=d.b.2.1.c.2.1.1->d.b.2.1.c.2.1.b.2=true))/\d.b.2.1.d.c.2.1=d.2.1.1)),Ok (KD d) (λx:rP=>x.2.1.1=L0+64000/\x.b.2.1.1.2.1=0/\x.b.2.1.1.d.1=20000/\x.b.2.1.c.1.2=0/\x.c.2.1.1=8000/\x.c.2.1.2.1.1=x.2.1.1/\0<=x.c.2.1.2.1.2.1/\x.c.2.1.2.1.2.1<=100000/\(∀j,j<6->x.d.c.2.1.1.c.1 j=10000)/\x.c.b.2.1.b.1=0/\x.d.1.b.1=0/\x.d.2.1.b.1=0/\x.d.b.1.b.1=0/\x.d.b.2.1.b.1=0/\x.d.c.1.b.1=0/\Bd (L0+8000) x.b.2.1.d.c.1/\Lb (L0+8000) x.d.c.2.1.1.1/\(¬x.b.2.1.c.2.1.1=3/\x.b.2.1.c.2.1.b.1=false/\(2<=x.b.2.1.c.2.1.1->x.b.2.1.c.2.1.b.2=true))/\x.b.2.1.d.c.2.1=x.2.1.1):=
 bp (λd:lA.B=>ws (8-d.1)) (λd hd=>by
  obtain⟨i0,i1,is,el,g1,g8,gq,gt,gS,gp0,gp1,gw,hz,hl,hs⟩:=hd;unfold KC;dsimp only;rw[aK];refine⟨λc=> ?_,λc=> ?_⟩
  .have c:=cQ c;have hw:wI (d.1+1)=d.1+1:=aY;have hx:wI (d.2.1.1+8000)=L0+8000*d.1+8000:=by rw[eF (by omega) (by omega)];omega
   simp only[aN];repeat rw[aC]
   by_cases k0:d.1=0
   .obtain⟨hJ,c0,c1,c2,c3,c4,c5⟩:=hz k0;have hx0:wI (d.2.1.1+8000)=L0+8000:=by rw[hx,k0];omega
    have el0:d.2.1.1=L0:=by rw[el,k0];omega
    with_reducible refine ay ((aO3 N h1 hN B hB (800+d.1) (by omega) d.b.2.1.c.1 d.c.b.1.2.1 _ ?_ ?_ ?_).with ((aS7 L0 _ ?_ ?_ ?_).and ((aUw L0 (L0+8000) _ ?_ ?_ ?_ ?_ ?_ ?_ ?_ ?_ ?_ ?_ ?_ ?_ ?_ ?_ ?_ ?_).and (aI2 _)))) λe _ he=> ?_
    .rfl
    .rfl
    .exact is
    .exact el0
    .exact hJ
    .exact⟨zr c0,zr c1,zr c2,zr c3,zr c4,zr c5⟩
    .exact hx0
    .omega
    .omega
    .omega
    .exact gq
    .exact g1
    .exact zr c0
    .exact zr c1
    .exact zr c2
    .exact zr c3
    .exact zr c4
    .exact zr c5
    .exact λ_=>by show d.c.2.1.2.1.1<L0+8000;rw[gS,el0];omega
    .exact gp0
    .exact gp1
    .exact gt
    obtain⟨hi,⟨T,t0,_,⟨j1,j8,ja,jq,jt,jS,jp0,jp1,_,_,jl,jw⟩,_⟩,⟨sq,b0,b1,b2,b3,b4,b5,st⟩,_⟩:=he;have tT:T=L0+8000:=t0.symm.trans st;subst tT;rw[av,hw];refine⟨⟨by show 0<=d.1+1;omega,by show d.1+1<=8;omega,?_,?_,j1,j8,jq,jt,jS.trans st.symm,jp0,jp1,jw,λn=>absurd n (by show ¬d.1+1=0;omega),λ_=>⟨b0,b1,b2,b3,b4,b5,ja,jl⟩,λn=>absurd n (by show ¬4<=d.1+1;omega)⟩,by show ws (8-(d.1+1))<ws (8-d.1);omega⟩
    .have h:=hi;rw[show 800+d.1+1=800+(d.1+1) by omega] at h;exact h
    .show e.1.1.1=L0+8000*(d.1+1);rw[st,k0];omega
   .obtain⟨m0,m1,m2,m3,m4,m5,ha,hlb⟩:=hl (by omega);with_reducible refine ay ((aO3 N h1 hN B hB (800+d.1) (by omega) d.b.2.1.c.1 d.c.b.1.2.1 _ ?_ ?_ ?_).with ((aUE (L0+8000) (L0+8000*d.1+8000) _ ?_ ?_ ?_ ?_ ?_ ?_ ?_ ?_ ?_ ?_ ?_ ?_ ?_ ?_ ?_ ?_ ?_ ?_ ?_ ?_).and (aI2 _))) λe _ he=> ?_
    .rfl
    .rfl
    .exact is
    .exact hx
    .exact hlb
    .exact gw
    .omega
    .omega
    .exact gq
    .exact g1
    .exact g8
    .exact ha
    .exact m0
    .exact m1
    .exact m2
    .exact m3
    .exact m4
    .exact m5
    .omega
    .exact λ_=>by show d.c.2.1.2.1.1<L0+8000*d.1+8000;rw[gS,el];omega
    .exact gp0
    .exact gp1
    .exact gt
    obtain⟨hi,⟨s0,sa,stt,b0,b1,b2,b3,b4,b5,sm,sq,t0,t1,t2,t3,tl⟩,v1,v8,vw⟩:=he;have v1:e.1.2.1.2.1=d.b.2.1.1.2.1:=v1;have v8:e.1.2.1.d.1=d.b.2.1.1.d.1:=v8;have sm:e.d.b.1=d.d.c.2.1:=sm;rw[av,hw];refine⟨⟨by show 0<=d.1+1;omega,by show d.1+1<=8;omega,?_,?_,v1.trans g1,v8.trans g8,sq,t0,t1.trans tl.symm,(by show 0<=e.b.1.2.1.2.1;rw[t2];decide),(by show e.b.1.2.1.2.1<=100000;rw[t2];decide),?_,λn=>absurd n (by show ¬d.1+1=0;omega),λ_=>⟨b0,b1,b2,b3,b4,b5,sa,?_⟩,λn=> ?_⟩,by show ws (8-(d.1+1))<ws (8-d.1);omega⟩
    .have h:=hi;rw[show 800+d.1+1=800+(d.1+1) by omega] at h;exact h
    .show e.1.1.1=L0+8000*(d.1+1);rw[tl];omega
    .show∀j,j<6->e.d.b.1.1.c.1 j=10000;rw[sm];exact gw
    .show Lb (L0+8000) e.d.b.1.1.1;rw[sm];exact hlb
    .have n:4<=d.1+1:=n;exact⟨s0 (by omega),stt.trans tl.symm⟩
  .have c:=kO c;have e8:d.1=8:=by omega
   have hLL:=hl (by omega);rw[av];exact⟨by show d.2.1.1=L0+64000;rw[el,e8];omega,g1,g8,gq,gt,gS,gp0,gp1,gw,hLL.1,hLL.2.1,hLL.b.1,hLL.b.2.1,hLL.c.1,hLL.c.2.1,hLL.c.b.1,hLL.c.b.2,hs (by omega)⟩) (λd hd=>by omega)
theorem aO4 (x:o9.B)(h0:0<=x.1)(h6:x.1<6):Ok (mO x) (λr:F'=>r.1=x.d.b.2.1.1.1 (ws x.1)/\r.c.1=x.d.b.2.1.1.c.1 (ws x.1)):=by
 unfold mO zm;try dsimp only
 show PQ _ _;refine ay (R:=λr:Aa=>r.1=x.d.b.2.1.1.1 (ws x.1)/\r.c.1=x.d.b.2.1.1.c.1 (ws x.1)) ?_ λd _ hd=>by rw[av];exact hd
 unfold ln sr;show PQ _ _;have hk:(decide (0<=x.1)&&decide (x.1<6))=true:=by rw[eT h0,eT h6];rfl
 have r0:bb x.1 6=true:=by rw[bk];omega
 have r1:wd (0+ws x.1*6+6) 36=true:=by rw[bY];omega
 rw[QM,bT,hk,show(!true)=false from rfl,uh,r0,aC,r1,aC,av];exact⟨rfl,rfl⟩
theorem aLU (t l:Int)(f:Int)(s:Bool)(k m B:Int)(hl:Bd B l)(h:B+10000<t)(hB:t<=4000000000000000):Ok (du t l f s k 10000 m) (λr:oW=>r=false):=by
 refine(bn.Ok (ae9 t l f s k 10000 m) (Q:=λ_=>True) λ_ _=>trivial).with (R:=λr:oW=>r=false) ?_|>.mono λ_ h=>h.2
 unfold du oX;show PW _ _;refine bB (R:=λr:xp=>r=false) ?_ λd _ hd=>by rw[hd,aX];exact⟨λc=>Bool.noConfusion c,λ_=>by rw[aQ]⟩
 unfold lE qI;show PW _ _;try dsimp only
 rw[aX];refine⟨λ_=>by rw[aQ],λ_=> ?_⟩;rw[aX];refine⟨λ_=> ?_,λc=>absurd (kO c) (by omega)⟩;rw[aX];refine⟨λ_=> ?_,λ_=>by rw[aQ]⟩;rw[aQ];have e1:wU t=t:=by rw[show wU t=(t)%18446744073709551616 from wrap_u64 _];omega
 have e2:wU l=l:=by rw[show wU l=(l)%18446744073709551616 from wrap_u64 _];omega
 have e3:wU (t-l)=t-l:=by rw[show wU (t-l)=(t-l)%18446744073709551616 from wrap_u64 _];omega
 have e4:wU 10000=10000:=by rw[show wU 10000=(10000)%18446744073709551616 from wrap_u64 _];omega
 rw[e1,e2,e3,e4];exact dm (by omega)
theorem aI3 (B:Int):∀(d:jC.B) (hd:0<=d.1/\d.1<=6/\Lb B d.d.c.2.1.1.1/\(∀j,j<6->d.d.c.2.1.1.c.1 j=10000)/\B+10000<d.b.1.c.1/\d.b.1.c.1<=4000000000000000),Ok (KF d) (λx:rQ=>match x with|.inl _=>False|.inr _=>True):=
 bp (λd:jC.B=>ws (6-d.1)) (λd hd=>by
  obtain⟨i0,i1,hl,ht,h,hB⟩:=hd;unfold KE;dsimp only;rw[aK];refine⟨λc=> ?_,λ_=>by rw[av];exact trivial⟩;have c:=cQ c;have hw:wI (d.1+1)=d.1+1:=aY;simp only[aN];repeat rw[aC]
  with_reducible refine ay (aO4 _ ?_ ?_) λs _ hs=> ?_
  .exact i0
  .exact c
  obtain⟨s0,s4⟩:=hs;have s0:s.1=d.d.c.2.1.1.1 (ws d.1):=s0;have s4:s.c.1=10000:=s4.trans (ht _ (by omega));rw[s4];with_reducible refine ay (aLU _ _ _ _ _ _ B ?_ h hB) λu _ hu=> ?_
  .rw[s0];exact hl _
  rw[hu,uh,av];exact⟨⟨by show 0<=wI (d.1+1);rw[hw];omega,by show wI (d.1+1)<=6;rw[hw];omega,hl,ht,h,hB⟩,by show ws (6-wI (d.1+1))<ws (6-d.1);rw[hw];omega⟩) (λd hd=>by omega)
end Go.Proofs.YtldgljclcgaibaaGreat
