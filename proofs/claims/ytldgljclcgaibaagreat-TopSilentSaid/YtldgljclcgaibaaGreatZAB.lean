/-
  Parts of the proof: AbA AbS AbM AbO
-/
import Derived.Test.YtldgljclcgaibaaGreatZAA
import Derived.Laws.IdiomCopy
import Derived.Laws.Cells
import Derived.Laws.Entries
set_option linter.all false
namespace Go.Ab
theorem cP.aSL (c:cP)(d j:Nat):(c.shift d).at j=c.at (d+j):=by cases c<;>rfl
theorem cP.a0O (c:cP)(d j:Nat):(c.up d).at j=c.at (j-d):=by cases c<;>rfl
theorem beq_iff {a b:Nat}:Nat.beq a b=true↔a=b:=⟨oZ,λh=>h▸NL a⟩
theorem beq_false {a b:Nat}(h:a≠b):Nat.beq a b=false:=by
 rw[Bool.eq_false_iff];exact λe=>h (beq_iff.1 e)
theorem tY {a b:Nat}:Nat.blt a b=true↔a<b:=by simp[Nat.blt];omega
theorem afl {a b:Nat}(h:¬a<b):Nat.blt a b=false:=by
 rw[Bool.eq_false_iff];exact λe=>h (tY.1 e)
theorem fA {a b:Nat}:Nat.ble a b=true↔a<=b:=by rw[Nat.ble_eq]
theorem axf {α:Type}(j e:Nat)(x y:α):(cond (Nat.beq j e) x y)=if j=e then x else y:=by
 by_cases h:j=e
 .rw[if_pos h,beq_iff.2 h];rfl
 .rw[if_neg h,beq_false h];rfl
theorem cP.aWR {c c':cP}{e:Nat}{v:CV}(h:c.aRY e v=some c'):∀j,CV.f (c'.at j)=if j=e then v else .f (c.at j):=by
 intro j;unfold cP.aRY at h;split at h
 .split at h
  .cases h;rename_i hk
   subst hk;simp only[cP.at,axf];split<;>rfl
  .cases h
 .cases h;simp only[cP.at,axf];split<;>rfl
 .cases h;simp only[cP.at,axf];split<;>rfl
 .cases h
theorem cP.aYU {p:Nat->Bool}{c d e:cP}(h:cP.mrg p c d=some e):∀j,e.at j=if p j=true then c.at j else d.at j:=by
 intro j;unfold cP.mrg at h;split at h
 .split at h
  .cases h;rename_i hk
   subst hk;simp only[cP.at];cases p j<;>rfl
  .cases h
 .cases h;simp only[cP.at];cases p j<;>rfl
 .cases h;simp only[cP.at];cases p j<;>rfl
 .cases h
def iP (cols:List cP)(j:Nat):CV:=match cols[j%cols.length]? with
 |some q=>.f (q.at (j/cols.length))
 |none=>.f .u
theorem Sg.o8 (n:Sz)(cols:List cP)(j:Nat):(Sg.a n cols).get j=iP cols j:=rfl
theorem afm {p:Nat->Bool}:∀{cs ds es:List cP},atW p cs ds=some es->es.length=cs.length/\ds.length=cs.length/\
  ∀(i:Nat) c d,cs[i]? =some c->ds[i]? =some d->∃e,es[i]? =some e/\∀j,e.at j=if p j=true then c.at j else d.at j
 | [],[],es,h=>by
  simp only[atW,jY] at h;subst h;exact⟨rfl,rfl,λi c d hc=>by simp at hc⟩
 |c::cs,d::ds,es,h=>by
  simp only[atW] at h;split at h
  .rename_i e es' h1 h2
   cases h;obtain⟨a1,a2,a3⟩:=afm h2;refine⟨by simp[a1],by simp[a2],λi c' d' hc hd=> ?_⟩;cases i with
   |zero=>
    simp only[aDg,jY] at hc hd;subst hc hd;exact⟨e,rfl,cP.aYU h1⟩
   |succ i=>exact a3 i c' d' (by simpa using hc) (by simpa using hd)
  .cases h
 | [],_::_,_,h=>by simp[atW] at h
 |_::_,[],_,h=>by simp[atW] at h
theorem aDz {p:Nat->Bool}{cs ds es:List cP}(h:atW p cs ds=some es)(j:Nat):iP es j=if p (j/cs.length)=true then iP cs j else iP ds j:=by
 obtain⟨a1,a2,a3⟩:=afm h;unfold iP;rw[a1,a2];by_cases hl:j%cs.length<cs.length
 .have hc:cs[j%cs.length]? =some (cs[j%cs.length]'hl):=kE _;have hd:ds[j%cs.length]? =some (ds[j%cs.length]'(by omega)):=kE _;obtain⟨e,he,ha⟩:=a3 _ _ _ hc hd;rw[he,hc,hd];simp only[ha];split<;>rfl
 .rw[IX (by omega),IX (by omega),IX (by omega)];exact(ite_self _).symm
theorem ay5 (cols:List cP)(e j:Nat):iP (cols.map (cP.shift e)) j=iP cols (e*cols.length+j):=by
 unfold iP;rw[afb,BA,aaU,ar9];by_cases hl:cols.length=0
 .have:cols=[]:=aJy.1 hl;subst this;rfl
 .rw[Nat.mul_add_div (by omega)];cases cols[j%cols.length]? with
  |none=>rfl
  |some q=>simp only[RX,cP.aSL]
theorem aMA (cols:List cP)(d j:Nat)(h:d*cols.length<=j):iP (cols.map (cP.up d)) j=iP cols (j-d*cols.length):=by
 unfold iP;rw[afb,BA];by_cases hl:cols.length=0
 .have:cols=[]:=aJy.1 hl;subst this;rfl
 .obtain⟨m,rfl⟩:∃m,j=cols.length*d+m:=⟨j-cols.length*d,by rw[aaU] at h;omega⟩;rw[ar9,Nat.mul_add_div (by omega),aaU d,Nat.add_sub_cancel_left];cases cols[m%cols.length]? with
  |none=>rfl
  |some q=>simp only[RX,cP.a0O,Nat.add_sub_cancel_left]
theorem af.dR {s:Sg}{l:af}{j:Nat}(h:j<s.size):af.get (s::l) j=s.get j:=by simp[af.get,h]
theorem af.lx {s:Sg}{l:af}{j:Nat}(h:s.size<=j):af.get (s::l) j=af.get l (j-s.size):=by
 rw[af.get,if_neg (by omega)]
theorem af.qI {n:Nat}{cols:List cP}{l:af}{j j':Nat}(h:n*cols.length<=j)(e:j'=j-n*cols.length):af.get l j'=af.get (.a (.l n) cols::l) j:=by
 rw[af.lx (s:=.a (.l n) cols) h,e];rfl
theorem af.ku {v:CV}{l:af}{j j':Nat}(h:1<=j)(e:j'=j-1):af.get l j'=af.get (.c v::l) j:=by
 rw[af.lx (s:=.c v) h,e];rfl
theorem af.size_cons (s:Sg)(l:af):af.size (s::l)=s.size+af.size l:=rfl
theorem af.lR:af.size []=0:=rfl
theorem Sg.kt (v:CV):(Sg.c v).size=1:=rfl
theorem Sg.lU (n:Sz)(cols:List cP):(Sg.a n cols).size=n.val*cols.length:=rfl
theorem af.size_append (a b:af):af.size (a++b)=af.size a+af.size b:=by
 induction a with
 |nil=>simp[af.size]
 |cons s a ih=>simp only[List.cons_append,af.size,ih];omega
theorem af.get_append (a b:af)(j:Nat):af.get (a++b) j=if j<af.size a then af.get a j else af.get b (j-af.size a):=by
 induction a generalizing j with
 |nil=>simp[af.size]
 |cons s a ih=>
  rw[List.cons_append,af.size_cons];by_cases h:j<s.size
  .rw[af.dR h,af.dR h,if_pos (by omega)]
  .rw[af.lx (by omega),af.lx (by omega),ih];by_cases h2:j-s.size<af.size a
   .rw[if_pos h2,if_pos (by omega)]
   .rw[if_neg h2,if_neg (by omega)];congr 1;omega
theorem af.aub (k:af):k.list.length=k.size:=by simp[af.list]
theorem af.afo (k:af)(j:Nat):k.list[j]? =if j<k.size then some (k.get j) else none:=by
 simp only[af.list,BA];split
 .rename_i h;simp[h]
 .rename_i h;rw[IX (by simp;omega)];rfl
theorem Vp {α:Type}(f:α->CV)(l:List α)(j:Nat):af.size (l.map λa=>Sg.c (f a))=l.length/\∀a,l[j]? =some a->af.get (l.map λa=>Sg.c (f a)) j=f a:=by
 induction l generalizing j with
 |nil=>exact⟨rfl,λa h=>by simp at h⟩
 |cons x l ih=>
  refine⟨by simp only[List.map_cons,af.size,Sg.size,(ih 0).1,KZ];omega,λa h=> ?_⟩;cases j with
  |zero=>simp at h;subst h;rfl
  |succ j=>exact(ih j).2 a (by simpa using h)
theorem ay6 {sh:Bool}{cols:List cP}{e nQ:Nat}{cB:Sz}{z:Nat}{v:af}(h:aJB sh cols e nQ cB z=some v)(he:sh=false->e=0):
  af.size v=cB.val*z/\∀j,j<cB.val*z->af.get v j=iP cols (e*cols.length+nQ+j):=by
 unfold aJB at h;split at h
 .rename_i hc
  cases h;simp only[cy,beq_iff] at hc;obtain⟨rfl,hz⟩:=hc
  have hm:∀k,(cB.mul k).val=cB.val*k:=λk=>by
   unfold Sz.mul;split
   .rename_i hk;rw[beq_iff] at hk;subst hk;simp
   .cases cB<;>rfl
  have hlen:(shC sh e cols).length=cols.length:=by cases sh<;>simp[shC]
  have yb:(cB.mul (z/cols.length)).val*cols.length=cB.val*z:=by
   rw[hm,Nat.mul_assoc,Nat.div_mul_cancel (aDh hz)]
  refine⟨by simp only[af.size,Sg.size,hlen,yb,km],λj hj=> ?_⟩;rw[af.dR (by simp only[Sg.size,hlen,yb];exact hj),Sg.o8,km];cases sh with
  |true=>exact ay5 ..
  |false=>rw[he rfl,RY,gW];rfl
 .cases h
theorem K4 {sh:Bool}{cols:List cP}{e nQ:Nat}{cB:Sz}{z:Nat}{v:af}(h:rowsOf sh cols e nQ cB z=some v)(he:sh=false->e=0):
  af.size v=cB.val*z/\∀j,j<cB.val*z->af.get v j=iP cols (e*cols.length+nQ+j):=by
 unfold rowsOf at h;split at h
 .rename_i n
  split at h
  .rename_i hc
   cases h;simp only[cy,beq_iff,fA] at hc;obtain⟨rfl,hle⟩:=hc;have hl:((cols.drop nQ).take z).length=z:=by simp;omega
   refine⟨by rw[(Vp _ _ 0).1,hl];simp[Sz.val],λj hj=> ?_⟩;simp only[Sz.val,Uo] at hj
   have hg:((cols.drop nQ).take z)[j]? =some (cols[nQ+j]'(by omega)):=by
    rw[aaQ,if_pos hj,RW,kE]
   rw[(Vp (λq:cP=>CV.f (q.at e)) _ j).2 _ hg];unfold iP;rw[show e*cols.length+nQ+j=cols.length*e+(nQ+j) by rw[aaU];omega,ar9,Nat.mul_add_div (by omega),aw7 (by omega),Nat.div_eq_of_lt (by omega),kE (by omega)];rfl
  .exact ay6 h he
 .exact ay6 h he
theorem Zc:∀{b v:af} {m:Nat},Vl b m=some v->af.size v=m/\∀j,j<m->af.get v j=af.get b j
 | [],v,m,h=>by
  cases m with
  |zero=>simp[Vl] at h;subst h;exact⟨rfl,λj hj=>by omega⟩
  |succ m=>simp[Vl] at h
 |.c x::r,v,m,h=>by
  cases m with
  |zero=>simp[Vl] at h;subst h;exact⟨rfl,λj hj=>by omega⟩
  |succ m=>
   simp only[Vl,m6] at h;obtain⟨v',h1,rfl⟩:=h;obtain⟨e1,e2⟩:=Zc h1;refine⟨by simp only[af.size,Sg.size,e1];omega,λj hj=> ?_⟩;cases j with
   |zero=>rfl
   |succ j=>rw[af.lx (by simp[Sg.size]),af.lx (by simp[Sg.size])];exact e2 _ (by simp[Sg.size];omega)
 |.a n cols::r,v,m,h=>by
  cases m with
  |zero=>simp[Vl] at h;subst h;exact⟨rfl,λj hj=>by omega⟩
  |succ m=>
   simp only[Vl] at h;split at h
   .cases h
   .rename_i n
    split at h
    .rename_i hle
     rw[fA] at hle;simp only[m6] at h;obtain⟨v',h1,rfl⟩:=h;obtain⟨e1,e2⟩:=Zc h1;refine⟨by simp only[af.size,Sg.size,Sz.val,e1];omega,λj hj=> ?_⟩;by_cases lZ:j<n*cols.length
     .rw[af.dR (by simpa[Sg.size,Sz.val] using lZ),af.dR (by simpa[Sg.size,Sz.val] using lZ)]
     .rw[af.lx (by simp[Sg.size,Sz.val];omega),af.lx (by simp[Sg.size,Sz.val];omega)];exact e2 _ (by simp[Sg.size,Sz.val];omega)
    .rename_i hle
     have hle:¬n*cols.length<=m+1:=λhc=>by rw[fA.2 hc] at hle;cases hle
     obtain⟨e1,e2⟩:=K4 h (λ_=>rfl);simp only[Sz.val,Uo,RY,gW] at e1 e2;refine⟨e1,λj hj=> ?_⟩;rw[e2 j hj,af.dR (by simp[Sg.size,Sz.val];omega)];rfl
theorem aHJ {n:Nat}(h:nz n=false):n=0:=by cases n<;>first|rfl|cases h
theorem Uq (c l:Nat):c/l*l+c%l=c:=by rw[aaU];exact Nat.div_add_mod c l
theorem NR:∀{b v:af} {c:Nat} {cB:Sz} {z:Nat},akt b c cB z=some v->af.size v=cB.val*z/\(c+cB.val*z<=af.size b->∀j,j<cB.val*z->af.get v j=af.get b (c+j))
 | [],v,c,cB,z,h=>by
  simp only[akt] at h;split at h
  .split at h
   .rename_i n hn
    rw[beq_iff] at hn;cases h;exact⟨by simp[af.size,Sz.val,hn],λ_ j hj=>by simp only[Sz.val] at hj;omega⟩
   .cases h
  .cases h
 |.c x::r,v,c,cB,z,h=>by
  cases c with
  |zero=>
   simp only[akt] at h;split at h
   .obtain⟨e1,e2⟩:=Zc h;exact⟨e1,λ_ j hj=>by rw[gW];exact e2 j hj⟩
   .cases h
  |succ c=>
   simp only[akt] at h;obtain⟨e1,e2⟩:=NR h;refine⟨e1,λhle j hj=> ?_⟩;simp only[af.size,Sg.size] at hle;rw[e2 (by omega) j hj];exact af.ku (by omega) (by omega)
 |.a n cols::r,v,c,cB,z,h=>by
  simp only[akt] at h;split at h
  .obtain⟨e1,e2⟩:=K4 h aHJ;rw[Uq] at e2;refine⟨e1,λhle j hj=> ?_⟩;simp only[af.size,km] at hle;rw[e2 j hj,af.dR (by omega),Sg.o8]
  .split at h
   .rename_i n m
    split at h
    .rename_i hle
     rw[fA] at hle;obtain⟨e1,e2⟩:=NR h;refine⟨e1,λac6 j hj=> ?_⟩;rw[af.size_cons,Sg.lU] at ac6;simp only[Sz.val] at ac6;have e3:=e2 (by simp only[Sz.val];omega) j hj;rw[e3];exact af.qI (by omega) (by omega)
    .split at h
     .rename_i ac6
      rw[fA] at ac6;obtain⟨e1,e2⟩:=K4 h aHJ;rw[Uq] at e2;refine⟨e1,λ_ j hj=> ?_⟩;rw[e2 j hj,af.dR (by simp only[Sg.size,Sz.val] at hj ⊢;omega),Sg.o8]
     .split at h
      .obtain⟨e1,e2⟩:=Zc h;exact⟨e1,λ_ j hj=>by rw[gW];exact e2 j hj⟩
      .cases h
   .cases h
theorem afp {c i z l:Nat}(h:z%l=0):elemOf c i z l*l+c%l=c+i*z:=by
 unfold elemOf;split
 .rename_i hz
  rw[beq_iff] at hz;subst hz;have hd:=Uq c z;cases hq:c/z with
  |zero=>
   rw[hq] at hd;simp only;omega
  |succ q=>
   rw[hq] at hd;simp only;rw[p9];omega
 .have hd:=Uq c l;have hz:=Nat.div_mul_cancel (aDh h);rw[p9,Nat.mul_assoc,hz];omega
theorem asf:∀{b:af} {v:af} {c i z:Nat} {cB:Sz} {y:Nat},ay0 b c i z cB y=some (true,v)->af.size v=cB.val*y/\(c+i*z+cB.val*y<=af.size b->∀j,j<cB.val*y->af.get v j=af.get b (c+i*z+j))
 | [],v,c,i,z,cB,y,h=>by simp[ay0] at h
 |.c x::r,v,c,i,z,cB,y,h=>by
  cases c with
  |zero=>
   simp only[ay0,m6,qG,Aj] at h;obtain⟨v',h1,rfl⟩:=h;have:=NR h1;simpa using this
  |succ c=>
   simp only[ay0] at h;obtain⟨e1,e2⟩:=asf h;refine⟨e1,λhle j hj=> ?_⟩;simp only[af.size,Sg.size] at hle;rw[e2 (by omega) j hj];exact af.ku (by omega) (by omega)
 |.a n cols::r,v,c,i,z,cB,y,h=>by
  simp only[ay0] at h;split at h
  .split at h
   .rename_i hz
    rw[beq_iff] at hz;simp only[m6,qG,Aj] at h;obtain⟨v',h1,rfl⟩:=h;obtain⟨e1,e2⟩:=K4 h1 (λh=>by cases h);rw[afp hz] at e2;refine⟨e1,λhle j hj=> ?_⟩;simp only[af.size,km] at hle;rw[e2 j hj,af.dR (by omega),Sg.o8]
   .cases h
  .split at h
   .rename_i n
    split at h
    .rename_i hle
     rw[fA] at hle;obtain⟨e1,e2⟩:=asf h;refine⟨e1,λac6 j hj=> ?_⟩;rw[af.size_cons,Sg.lU] at ac6;simp only[Sz.val] at ac6;have e3:=e2 (by simp only[Sz.val];omega) j hj;rw[e3];exact af.qI (by omega) (by omega)
    .split at h
     .rename_i hz
      rw[beq_iff] at hz;simp only[m6,qG] at h;obtain⟨v',h1,hg,rfl⟩:=h;rw[fA] at hg;obtain⟨e1,e2⟩:=K4 h1 (λh=>by cases h);rw[afp hz] at e2;refine⟨e1,λ_ j hj=> ?_⟩;rw[e2 j hj,af.dR (by simp only[Sg.size,Sz.val];omega),Sg.o8]
     .cases h
   .cases h
theorem af.axg {b v:af}{o:cA}{cB:Sz}{z:Nat}(h:b.sub o cB z=some (true,v)):af.size v=cB.val*z/\(o.val+cB.val*z<=af.size b->∀j,j<cB.val*z->af.get v j=af.get b (o.val+j)):=by
 cases o with
 |k c=>
  simp only[af.sub,m6,qG,Aj] at h;obtain⟨v',h1,rfl⟩:=h;exact NR h1
 |x c i y=>exact asf h
theorem afq:∀{cols dU:List cP} {j e:Nat} {v:CV},afe cols j e v=some dU->dU.length=cols.length/\j<cols.length/\(∀k,k≠j->dU[k]? =cols[k]?)/\∃c c',cols[j]? =some c/\dU[j]? =some c'/\c.aRY e v=some c'
 | [],_,_,_,_,h=>by simp[afe] at h
 |c::cs,dU,0,e,v,h=>by
  simp only[afe,m6] at h;obtain⟨c',h1,rfl⟩:=h;refine⟨rfl,by simp,λk hk=> ?_,c,c',rfl,rfl,h1⟩;cases k with
  |zero=>omega
  |succ k=>rfl
 |c::cs,dU,j+1,e,v,h=>by
  simp only[afe,m6] at h;obtain⟨RZ,h1,rfl⟩:=h;obtain⟨a1,a2,a3,c0,c1,a4,a5,a6⟩:=afq h1;refine⟨by simp[a1],by simp;omega,λk hk=> ?_,c0,c1,by simpa using a4,by simpa using a5,a6⟩;cases k with
  |zero=>rfl
  |succ k=>simpa using a3 k (by omega)
theorem aJJ {cols dU:List cP}{j e:Nat}{v:CV}(h:afe cols j e v=some dU)(J:Nat):iP dU J=if J=e*cols.length+j then v else iP cols J:=by
 obtain⟨a1,a2,a3,c,c',a4,a5,a6⟩:=afq h;have aDA:0<cols.length:=by omega
 unfold iP;rw[a1];by_cases hm:J%cols.length=j
 .rw[hm,a4,a5];simp only[cP.aWR a6];have hd:=Uq J cols.length;rw[hm] at hd;by_cases he:J/cols.length=e
  .rw[if_pos he,if_pos (by rw[<-he];omega)]
  .rw[if_neg he,if_neg λhJ=>he (by rw[hJ,aaU,Nat.mul_add_div aDA,Nat.div_eq_of_lt a2,km])]
 .rw[a3 _ hm,if_neg λhJ=>hm (by rw[hJ,aaU,ar9,aw7 a2])]
theorem K5:∀{b:af} {cols dU:List cP} {e nQ:Nat},Di cols.length cols e nQ b=some dU->dU.length=cols.length/\
  ∀J,iP dU J=if e*cols.length+nQ<=J/\J<e*cols.length+nQ+af.size b then af.get b (J-(e*cols.length+nQ)) else iP cols J
 | [],cols,dU,e,nQ,h=>by
  simp only[Di,jY] at h;subst h;exact⟨rfl,λJ=>by rw[if_neg (by rw[af.lR];omega)]⟩
 |.a _ _::_,cols,dU,e,nQ,h=>by simp[Di] at h
 |.c v::r,cols,dU,e,nQ,h=>by
  simp only[Di] at h;split at h
  .rename_i a0P h1
   have hr:=aJJ h1;obtain⟨a1,a2,_⟩:=afq h1
   have key:∀e' aWS,e'*cols.length+aWS=e*cols.length+(nQ+1)->Di cols.length a0P e' aWS r=some dU->dU.length=cols.length/\
     ∀J,iP dU J=if e*cols.length+nQ<=J/\J<e*cols.length+nQ+af.size (.c v::r) then af.get (.c v::r) (J-(e*cols.length+nQ)) else iP cols J:=λe' aWS he h2=>by
    rw[<-a1] at h2;obtain⟨b1,b2⟩:=K5 h2;rw[a1] at b2;refine⟨b1.trans a1,λJ=> ?_⟩;rw[b2,he,hr];have hs:af.size (.c v::r)=1+af.size r:=rfl;by_cases c1:J=e*cols.length+nQ
    .subst c1;rw[if_neg (by omega),if_pos rfl,if_pos (by rw[hs];omega),Nat.sub_self];rfl
    .by_cases c2:e*cols.length+(nQ+1)<=J/\J<e*cols.length+(nQ+1)+af.size r
     .rw[if_pos c2,if_pos (by rw[hs];omega)];exact af.ku (by omega) (by omega)
     .rw[if_neg c2,if_neg c1,if_neg (by rw[hs];omega)]
   split at h
   .rename_i hc
    rw[beq_iff] at hc;refine key (e+1) 0 ?_ h;rw[p9,hc];omega
   .exact key e (nQ+1) rfl h
  .cases h
theorem asg {v:af}{cols dU:List cP}{e nQ:Nat}(h:aDn cols e nQ v=some dU):dU.length=cols.length/\
  ∀J,iP dU J=if e*cols.length+nQ<=J/\J<e*cols.length+nQ+af.size v then af.get v (J-(e*cols.length+nQ)) else iP cols J:=by
 unfold aDn at h;split at h
 .rename_i m ds
  split at h
  .rename_i hc
   simp only[cy,beq_iff] at hc;obtain⟨rfl,hl⟩:=hc;obtain⟨a1,a2,_⟩:=afm h;rw[afb] at a1 a2;refine⟨by omega,λJ=> ?_⟩;have hs:af.size [.a m ds]=m.val*cols.length:=by rw[af.size_cons,Sg.lU,af.lR,hl,km]
   have hm:=aDz h J;rw[afb,<-hl] at hm;rw[hm];clear hm
   by_cases hz:cols.length=0
   .have h1:cols=[]:=aJy.1 hz;have h2:ds=[]:=aJy.1 (hl.symm.trans hz);subst h1 h2;rw[if_neg (show ¬(e*([]:List cP).length+0<=J/\J<e*([]:List cP).length+0+af.size [.a m []]) by rw[hs];simp)];exact ite_self _
   .have hd:=Uq J cols.length;have hm:=Nat.mod_lt J (show cols.length>0 by omega);by_cases hp:e<=J/cols.length/\J/cols.length<e+m.val
    .have e1:e*cols.length<=J:=by
      have:=vV cols.length hp.1;omega
     have e2:J<e*cols.length+m.val*cols.length:=by
      have:=vV cols.length (show J/cols.length+1<=e+m.val by omega);rw[p9,p9] at this;omega
     rw[if_pos (by simp only[cy,fA,tY];exact hp),if_pos (show e*cols.length+0<=J/\J<e*cols.length+0+af.size [.a m ds] by rw[hs];exact⟨e1,e2⟩),aMA _ _ _ (by rw[<-hl];exact e1),km,af.dR (by rw[Sg.lU,<-hl];omega),Sg.o8,<-hl]
    .rw[if_neg (by simp only[cy,fA,tY];exact hp),if_neg (by
      rw[hs];rintro ⟨e1,e2⟩
      apply hp
      constructor
      .exact(Nat.le_div_iff_mul_le (by omega)).2 e1
      .refine(aw3 (by omega)).2 ?_;rw[p9];exact e2)]
  .cases h
 .exact K5 h
theorem aDB:∀{b v b':af},iM b v=some b'->af.size b'=af.size b/\∀j,af.get b' j=if j<af.size v then af.get v j else af.get b j:=by
 intro b v;induction b generalizing v with
 |nil=>
  intro b' h;cases v with
  |nil=>simp only[iM,jY] at h;subst h;exact⟨rfl,λj=>by rw[if_neg (by simp[af.size])]⟩
  |cons y vs=>cases y<;>simp[iM] at h
 |cons x r ih=>
  intro b' h;cases v with
  |nil=>simp only[iM,jY] at h;subst h;exact⟨rfl,λj=>by rw[if_neg (by simp[af.size])]⟩
  |cons y vs=>
   unfold iM at h;split at h
   .rename_i e;cases e
   .rename_i aWT aWU
    cases aWT;cases aWU
    simp only[m6] at h;obtain⟨r',h1,rfl⟩:=h;obtain⟨e1,e2⟩:=ih h1;refine⟨by simp only[af.size,e1,Sg.size],λj=> ?_⟩;cases j with
    |zero=>rw[if_pos (by simp only[af.size,Sg.size];omega)];rfl
    |succ j=>
     rw[<-af.ku (l:=r') (j':=j) (by omega) (by omega),<-af.ku (l:=vs) (j':=j) (by omega) (by omega),<-af.ku (l:=r) (j':=j) (by omega) (by omega),e2];by_cases hj:j<af.size vs
     .rw[if_pos hj,if_pos (by rw[af.size_cons,Sg.kt];omega)]
     .rw[if_neg hj,if_neg (by rw[af.size_cons,Sg.kt];omega)]
   .rename_i n cols _ m dU _ aWT aWU
    cases aWT;cases aWU
    split at h
    .rename_i hc
     simp only[cy,beq_iff] at hc;obtain⟨rfl,hl⟩:=hc;simp only[m6] at h;obtain⟨r',h1,rfl⟩:=h;obtain⟨e1,e2⟩:=ih h1;refine⟨by simp only[af.size,e1,Sg.size,hl],λj=> ?_⟩;have hs:af.size (.a (.l n) dU::vs)=n*dU.length+af.size vs:=rfl;by_cases hj:j<n*dU.length
     .rw[af.dR (by simpa[Sg.size,Sz.val] using hj),if_pos (by rw[hs];omega),af.dR (by simpa[Sg.size,Sz.val] using hj)]
     .rw[<-af.qI (l:=r') (j':=j-n*dU.length) (by omega) (by omega),<-af.qI (l:=vs) (j':=j-n*dU.length) (by omega) (by omega),<-af.qI (l:=r) (j':=j-n*dU.length) (by rw[hl];omega) (by rw[hl]),e2];by_cases lZ:j-n*dU.length<af.size vs
      .rw[if_pos lZ,if_pos (by rw[hs];omega)]
      .rw[if_neg lZ,if_neg (by rw[hs];omega)]
    .cases h
   .cases h
theorem ay7 {n:Sz}{cols:List cP}{v:af}(h:aJC n cols v=true):af.size v=(Sg.a n cols).size:=by
 unfold aJC at h;split at h
 .simp only[cy,beq_iff] at h;obtain⟨rfl,hl⟩:=h;simp[af.size,Sg.size,hl]
 .cases h
theorem NS:∀{b b':af} {c:Nat} {v:af},aku b c v=some b'->af.size b'=af.size b/\∀j,j<af.size b->af.get b' j=if c<=j/\j<c+af.size v then af.get v (j-c) else af.get b j
 | [],b',c,v,h=>by
  simp only[aku] at h;split at h
  .cases h;exact⟨rfl,λj hj=>by simp[af.size] at hj⟩
  .cases h
 |.c x::r,b',c,v,h=>by
  cases c with
  |zero=>
   simp only[aku] at h;obtain⟨e1,e2⟩:=aDB h;refine⟨e1,λj _=> ?_⟩;rw[e2];by_cases hj:j<af.size v
   .rw[if_pos hj,if_pos (by omega)];rfl
   .rw[if_neg hj,if_neg (by omega)]
  |succ c=>
   simp only[aku,m6] at h;obtain⟨r',h1,rfl⟩:=h;obtain⟨e1,e2⟩:=NS h1;refine⟨by simp only[af.size,e1],λj hj=> ?_⟩;rw[af.size_cons,Sg.kt] at hj;cases j with
   |zero=>rw[if_neg (by omega)];rfl
   |succ j=>
    rw[<-af.ku (l:=r') (j':=j) (by omega) (by omega),<-af.ku (l:=r) (j':=j) (by omega) (by omega),e2 j (by omega)];by_cases hc:c<=j/\j<c+af.size v
    .rw[if_pos hc,if_pos (by omega)];congr 1;omega
    .rw[if_neg hc,if_neg (by omega)]
 |.a n cols::r,b',c,v,h=>by
  have put:∀{dU},aDn cols (c/cols.length) (c%cols.length) v=some dU->dU.length=cols.length/\∀J,iP dU J=if c<=J/\J<c+af.size v then af.get v (J-c) else iP cols J:=λh=>by
   have:=asg h;rw[Uq] at this;exact this
  simp only[aku] at h;split at h
  .split at h
   .rename_i hc
    cases h;simp only[cy,beq_iff] at hc;obtain⟨rfl,hs⟩:=hc;have hs:=ay7 hs;refine⟨by simp only[af.size,km,hs],λj hj=> ?_⟩;simp only[af.size,km] at hj;rw[if_pos (by omega),Nat.sub_zero]
   .simp only[m6] at h;obtain⟨dU,h1,rfl⟩:=h;obtain⟨e1,e2⟩:=put h1;refine⟨by simp only[af.size,Sg.size,e1],λj hj=> ?_⟩;simp only[af.size,km] at hj;rw[af.dR (by simp only[Sg.size,e1];exact hj),af.dR hj,Sg.o8,Sg.o8,e2]
  .split at h
   .cases h
   .rename_i n
    split at h
    .rename_i hle
     rw[fA] at hle;simp only[m6] at h;obtain⟨r',h1,rfl⟩:=h;obtain⟨e1,e2⟩:=NS h1;refine⟨by rw[af.size_cons,af.size_cons,e1],λj hj=> ?_⟩;rw[af.size_cons,Sg.lU] at hj;simp only[Sz.val] at hj;by_cases lZ:j<n*cols.length
     .rw[af.dR (by simpa[Sg.size,Sz.val] using lZ),af.dR (by simpa[Sg.size,Sz.val] using lZ),if_neg (by omega)]
     .rw[<-af.qI (l:=r') (j':=j-n*cols.length) (by omega) rfl,<-af.qI (n:=n) (cols:=cols) (j':=j-n*cols.length) (by omega) rfl,e2 _ (by omega)];by_cases hc:c<=j/\j<c+af.size v
      .rw[if_pos hc,if_pos (by omega)];congr 1;omega
      .rw[if_neg hc,if_neg (by omega)]
    .split at h
     .rename_i hc
      cases h;simp only[cy,beq_iff] at hc;obtain⟨rfl,hs⟩:=hc;have hs:=ay7 hs;refine⟨by rw[af.size_append,hs];rfl,λj hj=> ?_⟩;rw[af.get_append,hs];by_cases lZ:j<(Sg.a (.l n) cols).size
      .rw[if_pos lZ,if_pos (by omega),Nat.sub_zero]
      .rw[if_neg lZ,if_neg (by omega)];exact af.qI (Nat.le_of_not_lt lZ) rfl
     .split at h
      .rename_i ac6
       rw[fA] at ac6;simp only[m6] at h;obtain⟨dU,h1,rfl⟩:=h;obtain⟨e1,e2⟩:=put h1;refine⟨by simp only[af.size,Sg.size,e1],λj hj=> ?_⟩;by_cases lZ:j<n*cols.length
       .rw[af.dR (by simpa[Sg.size,Sz.val,e1] using lZ),af.dR (by simpa[Sg.size,Sz.val] using lZ),Sg.o8,Sg.o8,e2]
       .rw[if_neg (by omega),<-af.qI (cols:=dU) (j':=j-n*cols.length) (by rw[e1];omega) (by rw[e1]),<-af.qI (n:=n) (cols:=cols) (j':=j-n*cols.length) (by omega) rfl]
      .split at h
       .obtain⟨e1,e2⟩:=aDB h;refine⟨e1,λj _=> ?_⟩;rw[e2];by_cases hj:j<af.size v
        .rw[if_pos hj,if_pos (by omega)];rfl
        .rw[if_neg hj,if_neg (by omega)]
       .cases h
theorem ash:∀{b b':af} {c i z:Nat} {v:af},ay1 b c i z v=some (true,b')->af.size b'=af.size b/\∀j,j<af.size b->af.get b' j=if c+i*z<=j/\j<c+i*z+af.size v then af.get v (j-(c+i*z)) else af.get b j
 | [],b',c,i,z,v,h=>by simp[ay1] at h
 |.c x::r,b',c,i,z,v,h=>by
  cases c with
  |zero=>
   simp only[ay1,m6,qG,Aj] at h;obtain⟨v',h1,rfl⟩:=h;simpa using NS h1
  |succ c=>
   simp only[ay1,m6,qG] at h;obtain⟨⟨g,r'⟩,h1,hg,rfl⟩:=h;simp only at hg;subst hg;obtain⟨e1,e2⟩:=ash h1;refine⟨by simp only[af.size,e1],λj hj=> ?_⟩;rw[af.size_cons,Sg.kt] at hj;cases j with
   |zero=>rw[if_neg (by omega)];rfl
   |succ j=>
    rw[<-af.ku (l:=r') (j':=j) (by omega) (by omega),<-af.ku (l:=r) (j':=j) (by omega) (by omega),e2 j (by omega)];by_cases hc:c+i*z<=j/\j<c+i*z+af.size v
    .rw[if_pos hc,if_pos (by omega)];congr 1;omega
    .rw[if_neg hc,if_neg (by omega)]
 |.a n cols::r,b',c,i,z,v,h=>by
  simp only[ay1] at h;split at h
  .split at h
   .rename_i hz
    rw[beq_iff] at hz;simp only[m6,qG,Aj] at h;obtain⟨dU,h1,rfl⟩:=h;have e:=asg h1;rw[afp hz] at e;obtain⟨e1,e2⟩:=e;refine⟨by simp only[af.size,Sg.size,e1],λj hj=> ?_⟩;simp only[af.size,km] at hj;rw[af.dR (by simp only[Sg.size,e1];exact hj),af.dR hj,Sg.o8,Sg.o8,e2]
   .cases h
  .split at h
   .rename_i n
    split at h
    .rename_i hle
     rw[fA] at hle;simp only[m6,qG] at h;obtain⟨⟨g,r'⟩,h1,hg,rfl⟩:=h;simp only at hg;subst hg;obtain⟨e1,e2⟩:=ash h1;refine⟨by rw[af.size_cons,af.size_cons,e1],λj hj=> ?_⟩;rw[af.size_cons,Sg.lU] at hj;simp only[Sz.val] at hj;by_cases lZ:j<n*cols.length
     .rw[af.dR (by simpa[Sg.size,Sz.val] using lZ),af.dR (by simpa[Sg.size,Sz.val] using lZ),if_neg (by omega)]
     .rw[<-af.qI (l:=r') (j':=j-n*cols.length) (by omega) rfl,<-af.qI (n:=n) (cols:=cols) (j':=j-n*cols.length) (by omega) rfl,e2 _ (by omega)];by_cases hc:c+i*z<=j/\j<c+i*z+af.size v
      .rw[if_pos hc,if_pos (by omega)];congr 1;omega
      .rw[if_neg hc,if_neg (by omega)]
    .split at h
     .rename_i hz
      rw[beq_iff] at hz;simp only[m6,qG] at h;obtain⟨dU,h1,hg,rfl⟩:=h;rw[fA] at hg;have e:=asg h1;rw[afp hz] at e;obtain⟨e1,e2⟩:=e;rw[e1] at hg;refine⟨by simp only[af.size,Sg.size,e1],λj hj=> ?_⟩;by_cases lZ:j<n*cols.length
      .rw[af.dR (by simpa[Sg.size,Sz.val,e1] using lZ),af.dR (by simpa[Sg.size,Sz.val] using lZ),Sg.o8,Sg.o8,e2]
      .rw[if_neg (by omega),<-af.qI (cols:=dU) (j':=j-n*cols.length) (by rw[e1];omega) (by rw[e1]),<-af.qI (n:=n) (cols:=cols) (j':=j-n*cols.length) (by omega) rfl]
     .cases h
   .cases h
theorem af.aSM {b b' v:af}{o:cA}(h:b.Ai o v=some (true,b')):af.size b'=af.size b/\∀j,j<af.size b->af.get b' j=if o.val<=j/\j<o.val+af.size v then af.get v (j-o.val) else af.get b j:=by
 cases o with
 |k c=>
  simp only[af.Ai,m6,qG,Aj] at h;obtain⟨v',h1,rfl⟩:=h;exact NS h1
 |x c i y=>exact ash h
theorem PF:∀{b:af},Vm b=true->af.size b=b.length
 | [],_=>rfl
 |.c v::r,h=>by
  have:=PF (b:=r) h;rw[af.size_cons,Sg.kt,this,KZ];omega
 |.a _ _::_,h=>by cases h
theorem auc (cols:List cP):∀l:List Nat,Vm (aff cols l)=true/\(aff cols l).length=l.length/\∀i j,l[i]? =some j->af.get (aff cols l) i=iP cols j
 | []=>⟨rfl,rfl,λi j h=>by simp at h⟩
 |k::l=>by
  obtain⟨h1,h2,h3⟩:=auc cols l;refine⟨h1,by simp[aff,h2],λi j h=> ?_⟩;cases i with
  |zero=>
   simp only[aDg,jY] at h;subst h;rfl
  |succ i=>exact(af.lx (s:=.c _) (by rw[Sg.kt];omega)).trans (h3 i j (by simpa using h))
theorem yc:∀b:af,af.size (tF b)=af.size b/\∀j,j<af.size b->af.get (tF b) j=af.get b j
 | []=>⟨rfl,λ_ _=>rfl⟩
 |.c v::r=>by
  obtain⟨h1,h2⟩:=yc r;refine⟨by rw[tF,af.size_cons,af.size_cons,h1],λj hj=> ?_⟩;rw[af.size_cons,Sg.kt] at hj;cases j with
  |zero=>rfl
  |succ j=>
   rw[tF,af.lx (by rw[Sg.kt];omega),af.lx (by rw[Sg.kt];omega)];exact h2 _ (by rw[Sg.kt];omega)
 |.a (.s n) cols::r=>by
  obtain⟨h1,h2⟩:=yc r;refine⟨by rw[tF,af.size_cons,af.size_cons,h1],λj hj=> ?_⟩;rw[af.size_cons] at hj;rw[tF];by_cases lZ:j<(Sg.a (.s n) cols).size
  .rw[af.dR lZ,af.dR lZ]
  .rw[af.lx (by omega),af.lx (by omega)];exact h2 _ (by omega)
 |.a (.l n) cols::r=>by
  obtain⟨h1,h2⟩:=yc r;obtain⟨c1,c2,c3⟩:=auc cols (List.range (n*cols.length));have hs:af.size (aff cols (List.range (n*cols.length)))=n*cols.length:=by rw[PF c1,c2,List.length_range]
  have Vq:(Sg.a (.l n) cols).size=n*cols.length:=rfl;refine⟨by rw[tF,af.size_append,af.size_cons,h1,hs,Vq],λj hj=> ?_⟩;rw[af.size_cons,Vq] at hj;rw[tF,af.get_append,hs];by_cases lZ:j<n*cols.length
  .rw[if_pos lZ,af.dR (by rw[Vq];exact lZ),Sg.o8];exact c3 j j (by simp[lZ])
  .rw[if_neg lZ,af.lx (by rw[Vq];omega),Vq];exact h2 _ (by omega)
theorem K6 (n m:Sz):(n.add m).val=n.val+m.val:=by cases n<;>cases m<;>rfl
theorem aQq {n:Sz}{cols:List cP}{b c:af}(h:aMp n cols b=some c):af.size c=af.size [.a n cols]+af.size b/\
  ∀j,j<af.size [.a n cols]+af.size b->af.get c j=if j<af.size [.a n cols] then af.get [.a n cols] j else af.get b (j-af.size [.a n cols]):=by
 have h0:af.size [.a n cols]=n.val*cols.length:=by rw[af.size_cons,af.lR,Sg.lU,km]
 unfold aMp at h;split at h
 .rename_i hc
  simp only[cy,beq_iff,fA] at hc;obtain⟨DE,aDA,aWV⟩:=hc;simp only[m6] at h;obtain⟨es,h1,rfl⟩:=h;obtain⟨a1,a2⟩:=K5 h1;have hbs:=PF DE;have hq:(b.length/cols.length)*cols.length=b.length:=Nat.div_mul_cancel (aDh aWV)
  have hr:(n.add (.l (b.length/cols.length))).val*es.length=n.val*cols.length+b.length:=by
   rw[K6,a1,p9,Sz.val,hq]
  refine⟨by rw[h0,hbs,af.size_cons,af.lR,Sg.lU,km,hr],λj hj=> ?_⟩;rw[h0] at hj;rw[af.dR (by rw[Sg.lU,hr];omega),Sg.o8,a2,km];by_cases lZ:j<n.val*cols.length
  .rw[if_neg (by omega),if_pos (show j<af.size [.a n cols] by rw[h0];exact lZ),af.dR (by rw[Sg.lU];exact lZ),Sg.o8]
  .rw[if_pos (by omega),if_neg (show ¬j<af.size [.a n cols] by rw[h0];exact lZ),h0]
 .cases h
theorem aDC {n:Sz}{cols:List cP}{b c:af}(h:aRZ n cols b=some c):af.size c=af.size [.a n cols]+af.size b/\
  ∀j,j<af.size [.a n cols]+af.size b->af.get c j=if j<af.size [.a n cols] then af.get [.a n cols] j else af.get b (j-af.size [.a n cols]):=by
 have h0:af.size [.a n cols]=n.val*cols.length:=by rw[af.size_cons,af.lR,Sg.lU,km]
 have two:aMp n cols (tF b)=some c->af.size c=af.size [.a n cols]+af.size b/\
  ∀j,j<af.size [.a n cols]+af.size b->af.get c j=if j<af.size [.a n cols] then af.get [.a n cols] j else af.get b (j-af.size [.a n cols]):=λh=>by
  obtain⟨e1,e2⟩:=aQq h;obtain⟨f1,f2⟩:=yc b;rw[f1] at e1 e2;refine⟨e1,λj hj=> ?_⟩;rw[e2 j hj];by_cases lZ:j<af.size [.a n cols]
  .rw[if_pos lZ,if_pos lZ]
  .rw[if_neg lZ,if_neg lZ,f2 _ (by omega)]
 unfold aRZ at h;split at h
 .rename_i m dU
  split at h
  .rename_i hc
   simp only[cy,beq_iff,fA] at hc;obtain⟨hl,aDA⟩:=hc;simp only[m6] at h;obtain⟨es,h1,rfl⟩:=h;obtain⟨a1,_,_⟩:=afm h1;have hb:af.size [.a m dU]=m.val*cols.length:=by rw[af.size_cons,af.lR,Sg.lU,km,hl]
   have hr:af.size [.a (n.add m) es]=n.val*cols.length+m.val*cols.length:=by
    rw[af.size_cons,af.lR,Sg.lU,km,K6,a1,p9]
   refine⟨by rw[hr,h0,hb],λj hj=> ?_⟩;rw[h0,hb] at hj;have hm:=aDz h1 j
   have e1:af.get [.a (n.add m) es] j=iP es j:=by
    rw[af.dR (by rw[Sg.lU,K6,a1,p9];exact hj),Sg.o8]
   rw[e1,hm];by_cases lZ:j<n.val*cols.length
   .rw[if_pos (by rw[tY];exact(aw3 (by omega)).2 lZ),if_pos (show j<af.size [.a n cols] by rw[h0];exact lZ),af.dR (by rw[Sg.lU];exact lZ),Sg.o8]
   .rw[if_neg (by rw[tY];exact λhh=>lZ ((aw3 (by omega)).1 hh)),if_neg (show ¬j<af.size [.a n cols] by rw[h0];exact lZ),aMA _ _ _ (by rw[<-hl];omega),h0,af.dR (by rw[Sg.lU,<-hl];omega),Sg.o8,<-hl]
  .exact two h
 .exact two h
theorem akB:∀{z:Nat} {b:af} {cols:List cP},DU z b=some cols->cols.length=z
 |0,b,cols,h=>by simp only[DU,jY] at h;subst h;rfl
 |z+1,[],cols,h=>by simp[DU] at h
 |z+1,.a _ _::_,cols,h=>by simp[DU] at h
 |z+1,.c v::r,cols,h=>by
  cases v<;>simp only[DU] at h<;>first|(cases h;done)|skip
  split at h
  .rename_i h1 h2
   cases h;simp[akB h2]
  .cases h
theorem akC {z:Nat}{b r:af}(h:rowOf z b=some r):af.size r=af.size b/\(∀j,j<af.size b->af.get r j=af.get b j):=by
 unfold rowOf at h;split at h
 .rename_i hc
  simp only[cy,beq_iff,fA] at hc;obtain⟨DE,aDA,aWV⟩:=hc;split at h
  .rename_i cols h1
   simp only[m6] at h;obtain⟨es,h2,rfl⟩:=h;have hl:=akB h1;subst hl;obtain⟨a1,a2⟩:=K5 h2;have hbs:=PF DE;have hq:(b.length/cols.length)*cols.length=b.length:=Nat.div_mul_cancel (aDh aWV);refine⟨by rw[af.size_cons,af.lR,Sg.lU,km,a1,Sz.val,hq,hbs],λj hj=> ?_⟩;rw[af.dR (by rw[Sg.lU,a1,Sz.val,hq];omega),Sg.o8,a2,if_pos (by omega)];congr 1;omega
  .cases h
 .cases h
theorem af.aSN {a b c:af}(h:a.app b=some c):af.size c=af.size a+af.size b/\
  ∀j,j<af.size a+af.size b->af.get c j=if j<af.size a then af.get a j else af.get b (j-af.size a):=by
 unfold af.app at h;split at h
 .cases h;refine⟨by rw[af.lR,gW],λj hj=>by rw[if_neg (by rw[af.lR];omega),af.lR,Nat.sub_zero]⟩
 .cases h;refine⟨by rw[af.lR,km],λj hj=> ?_⟩;rw[af.lR,km] at hj;rw[if_pos hj]
 .exact aDC h
 .split at h
  .rename_i h1
   obtain⟨e1,e2⟩:=akC h1;rw[(yc _).1] at e1 e2;have e2:=λj hj=>(e2 j hj).trans ((yc _).2 j hj)
   obtain⟨f1,f2⟩:=aDC h;refine⟨by rw[f1,e1],λj hj=> ?_⟩;rw[f2 j (by rw[e1];exact hj)];by_cases lZ:j<af.size a
   .rw[if_pos (by rw[e1];exact lZ),if_pos lZ,e2 j lZ]
   .rw[if_neg (by rw[e1];exact lZ),if_neg lZ,e1]
  .cases h
 .split at h
  .cases h;exact⟨af.size_append _ _,λj _=>af.get_append _ _ _⟩
  .cases h
theorem Zd (z:Nat)(b:af):af.size (asb z b)=af.size b/\∀j,j<af.size b->af.get (asb z b) j=af.get b j:=by
 have key:∀{r},rowOf z (tF b)=some r->af.size r=af.size b/\∀j,j<af.size b->af.get r j=af.get b j:=λh=>by
  obtain⟨e1,e2⟩:=akC h;obtain⟨g1,g2⟩:=yc b;rw[g1] at e1 e2;exact⟨e1,λj hj=>(e2 j hj).trans (g2 j hj)⟩
 unfold asb;split
 .exact⟨rfl,λ_ _=>rfl⟩
 .split
  .exact⟨rfl,λ_ _=>rfl⟩
  .split
   .rename_i h;exact key h
   .exact⟨rfl,λ_ _=>rfl⟩
 .split
  .rename_i h;exact key h
  .exact⟨rfl,λ_ _=>rfl⟩
theorem akD:∀{tm:List Tm} {b r:af},afh tm b=some r->af.size r=af.size b/\∀j,j<af.size b->af.get r j=af.get b j
 | [],[],r,h=>by cases h;exact⟨rfl,λ_ _=>rfl⟩
 | [],_::_,r,h=>by simp[afh] at h
 |.c::tm,[],r,h=>by simp[afh] at h
 |.c::tm,.a _ _::_,r,h=>by simp[afh] at h
 |.c::tm,.c v::b,r,h=>by
  simp only[afh,m6] at h;obtain⟨r',h1,rfl⟩:=h;obtain⟨e1,e2⟩:=akD h1;refine⟨by rw[af.size_cons,af.size_cons,e1],λj hj=> ?_⟩;rw[af.size_cons,Sg.kt] at hj;cases j with
  |zero=>rfl
  |succ j=>
   rw[af.lx (by rw[Sg.kt];omega),af.lx (by rw[Sg.kt];omega)];exact e2 _ (by rw[Sg.kt];omega)
 |.a n z::tm,b,r,h=>by
  simp only[afh] at h;split at h
  .split at h
   .rename_i row h1
    simp only[m6] at h;obtain⟨r',h2,rfl⟩:=h;obtain⟨e1,e2⟩:=akC h1;obtain⟨f1,f2⟩:=akD h2;have hb:af.size b=af.size (b.take (n*z))+af.size (b.drop (n*z)):=by rw[<-af.size_append,List.take_append_drop]
    have hg:∀j,af.get b j=if j<af.size (b.take (n*z)) then af.get (b.take (n*z)) j else af.get (b.drop (n*z)) (j-af.size (b.take (n*z))):=λj=>by rw[<-af.get_append,List.take_append_drop]
    refine⟨by rw[af.size_append,e1,f1,hb],λj hj=> ?_⟩;rw[af.get_append,hg,e1];by_cases lZ:j<af.size (b.take (n*z))
    .rw[if_pos lZ,if_pos lZ,e2 j lZ]
    .rw[if_neg lZ,if_neg lZ,f2 _ (by omega)]
   .cases h
  .cases h
theorem aQr (P:Program)(t:TypeId)(l:af):af.size (norm P t l)=af.size l/\∀j,j<af.size l->af.get (norm P t l) j=af.get l j:=by
 unfold norm;split
 .split
  .rename_i h;exact akD h
  .exact⟨rfl,λ_ _=>rfl⟩
 .split
  .exact⟨rfl,λ_ _=>rfl⟩
  .split
   .exact yc l
   .exact⟨rfl,λ_ _=>rfl⟩
theorem axh (b:af):af.size (toS b)=af.size b/\∀j,af.get (toS b) j=af.get b j:=by
 unfold toS;split
 .exact⟨rfl,λ_=>rfl⟩
 .exact⟨rfl,λ_=>rfl⟩
theorem IZ (f:CV->CV)(b:af):af.size (Kh f b)=af.size b:=by
 induction b with
 |nil=>rfl
 |cons s r ih=>cases s<;>simp only[Kh,af.size_cons,ih]<;>rfl
theorem aCy (cols:List cP)(j:Nat):∃x,iP cols j=.f x:=by
 unfold iP;split<;>exact⟨_,rfl⟩
theorem axi {f:CV->CV}(hf:∀x,f (.f x)=.f x)(b:af)(j:Nat)(hj:j<af.size b):af.get (Kh f b) j=f (af.get b j):=by
 induction b generalizing j with
 |nil=>rw[af.lR] at hj;omega
 |cons s r ih=>
  rw[af.size_cons] at hj;cases s with
  |c v=>
   cases j with
   |zero=>rfl
   |succ j=>
    rw[Kh,<-af.ku (l:=Kh f r) (j':=j) (by omega) (by omega),<-af.ku (l:=r) (j':=j) (by omega) (by omega)];exact ih j (by rw[Sg.kt] at hj;omega)
  |a n cols=>
   rw[Kh];by_cases h:j<(Sg.a n cols).size
   .rw[af.dR h,af.dR h,Sg.o8];obtain⟨x,hx⟩:=aCy cols j;rw[hx,hf]
   .rw[af.lx (by omega),af.lx (by omega)];exact ih _ (by omega)
theorem FV.aWW {x y:FV}(h:x.same y=true):x=y:=by
 unfold FV.same at h;split at h
 .rw[eq_of_beq h]
 .simp only[cy,lY] at h;rw[h.1,eq_of_beq h.2]
 .cases h
theorem aQs {v:FV}{c:cP}(h:aJD v=some c)(j:Nat):c.at j=v:=by
 cases v<;>simp only[aJD] at h<;>cases h<;>rfl
theorem afr:∀{z:Nat} {b:af} {cols:List cP},DU z b=some cols->∀i,i<z->∃c v,cols[i]? =some c/\b[i]? =some (.c (.f v))/\∀j,c.at j=v
 |0,b,cols,_,i,h=>by omega
 |z+1,[],cols,h,_,_=>by simp[DU] at h
 |z+1,.a _ _::_,cols,h,_,_=>by simp[DU] at h
 |z+1,.c v::r,cols,h,i,hi=>by
  cases v<;>simp only[DU] at h<;>first|(cases h;done)|skip
  split at h
  .rename_i c cs h1 h2
   cases h;cases i with
   |zero=>exact⟨c,_,rfl,rfl,aQs h1⟩
   |succ i=>simpa using afr h2 i (by omega)
  .cases h
theorem apI {z:Nat}{row:af}:∀{m:Nat} {b r:af},Vn z row m b=some r->af.size b=m+af.size r/\(∀j,j<m->∃v,row[(m-1-j)%z]? =some (.c (.f v))/\af.get b j=.f v)/\∀j,af.get b (m+j)=af.get r j
 |0,b,r,h=>by
  simp only[Vn,jY] at h;subst h;exact⟨by omega,λj hj=>by omega,λj=>by rw[gW]⟩
 |m+1,[],r,h=>by simp[Vn] at h
 |m+1,.a _ _::_,r,h=>by simp[Vn] at h
 |m+1,.c v::q,r,h=>by
  cases v<;>simp only[Vn] at h<;>first|(cases h;done)|skip
  rename_i v
  split at h
  .rename_i y hy
   split at h
   .rename_i hs
    have hs:=FV.aWW hs;subst hs;obtain⟨e1,e2,e3⟩:=apI h;refine⟨by rw[af.size_cons,Sg.kt,e1];omega,λj hj=> ?_,λj=> ?_⟩
    .cases j with
     |zero=>exact⟨v,by simpa using hy,rfl⟩
     |succ j=>
      obtain⟨v',h1,h2⟩:=e2 j (by omega);refine⟨v',by rw[show m+1-1-(j+1)=m-1-j by omega];exact h1,?_⟩;rw[<-af.ku (l:=q) (j':=j) (by omega) (by omega)];exact h2
    .rw[<-af.ku (l:=q) (j':=m+j) (by omega) (by omega)];exact e3 j
   .cases h
  .cases h
theorem akE:∀{tm:List Tm} {b r:af},aaV tm b=some r->af.size r=af.size b/\∀j,af.get r j=af.get b j
 | [],[],r,h=>by simp only[aaV,jY] at h;subst h;exact⟨rfl,λ_=>rfl⟩
 | [],_::_,r,h=>by simp[aaV] at h
 |.c::tm,[],r,h=>by simp[aaV] at h
 |.c::tm,.a _ _::_,r,h=>by simp[aaV] at h
 |.c::tm,.c v::q,r,h=>by
  simp only[aaV,m6] at h;obtain⟨r',h1,rfl⟩:=h;obtain⟨e1,e2⟩:=akE h1;refine⟨by rw[af.size_cons,af.size_cons,e1],λj=> ?_⟩;cases j with
  |zero=>rfl
  |succ j=>rw[<-af.ku (l:=r') (j':=j) (by omega) (by omega),<-af.ku (l:=q) (j':=j) (by omega) (by omega),e2]
 |.a n z::tm,b,r,h=>by
  simp only[aaV] at h;split at h
  .rename_i cols h1
   split at h
   .rename_i hz
    rw[fA] at hz;split at h
    .rename_i q h2
     simp only[m6] at h;obtain⟨r',h3,rfl⟩:=h;obtain⟨e1,e2⟩:=akE h3;obtain⟨f1,f2,f3⟩:=apI h2;have hl:=akB h1;refine⟨by rw[af.size_cons,Sg.lU,Sz.val,hl,e1,f1],λj=> ?_⟩;by_cases hj:j<n*z
     .rw[af.dR (by rw[Sg.lU,Sz.val,hl];exact hj),Sg.o8];obtain⟨v,g1,g2⟩:=f2 j hj;rw[g2];unfold iP;rw[hl];have hm:=Nat.mod_lt j (show z>0 by omega);obtain⟨c,v',k1,k2,k3⟩:=afr h1 (j%z) hm;rw[k1];simp only[k3]
      have hlen:(b.take z).length=z:=by
       have:z<=b.length:=by
        obtain⟨_,_,_,k5,_⟩:=afr h1 (z-1) (by omega);have:=(lX.1 k5).1;omega
       simp;omega
      have a2g:(n*z-1-j)%z=z-1-j%z:=by
       have hd:=Nat.div_add_mod j z;have hq:j/z<n:=(aw3 (by omega)).2 hj;obtain⟨t,ht⟩:∃t,n=j/z+1+t:=⟨n-(j/z+1),by omega⟩
       have:n*z-1-j=z*t+(z-1-j%z):=by
        have:n*z=z*(j/z)+z+z*t:=by rw[ht,aaU,Nat.mul_add,Nat.mul_add,Nat.mul_one]
        omega
       rw[this,ar9,aw7 (by omega)]
      rw[a2g,List.getElem?_reverse (by omega),hlen,show z-1-(z-1-j%z)=j%z by omega,aaQ,if_pos hm,k2] at g1;cases g1;rfl
     .have e:af.get (.a (.l n) cols::r') j=af.get r' (j-n*z):=by
       rw[<-af.qI (l:=r') (j':=j-n*z) (by rw[hl];omega) (by rw[hl])]
      rw[e,e2,<-f3];congr 1;omega
    .cases h
   .cases h
  .cases h
def bj {α β:Type}(R:α->β->Prop):List α->List β->Prop
 | [],[]=>True
 |a::l,b::m=>R a b/\bj R l m
 |_,_=>False
theorem bj.imp {α β:Type}{R S:α->β->Prop}(h:∀a b,R a b->S a b):∀{l:List α} {m:List β},bj R l m->bj S l m
 | [],[],_=>trivial
 |_::_,_::_,⟨a,b⟩=>⟨h _ _ a,bj.imp h b⟩
 | [],_::_,h=>h.elim
 |_::_,[],h=>h.elim
theorem bj.length {α β:Type}{R:α->β->Prop}:∀{l:List α} {m:List β},bj R l m->l.length=m.length
 | [],[],_=>rfl
 |_::_,_::_,⟨_,b⟩=>by simp[bj.length b]
 | [],_::_,h=>h.elim
 |_::_,[],h=>h.elim
theorem bj.append {α β:Type}{R:α->β->Prop}:∀{l:List α} {m:List β} {l':List α} {m':List β},bj R l m->bj R l' m'->bj R (l++l') (m++m')
 | [],[],_,_,_,h=>h
 |_::_,_::_,_,_,⟨a,b⟩,h=>⟨a,bj.append b h⟩
 | [],_::_,_,_,h,_=>h.elim
 |_::_,[],_,_,h,_=>h.elim
theorem bj.get {α β:Type}{R:α->β->Prop}:∀{l:List α} {m:List β},bj R l m->∀{i:Nat} {a:α},l[i]? =some a->∃b,m[i]? =some b/\R a b
 |a::l,b::m,⟨h,_⟩,0,x,e=>⟨b,rfl,by simp at e;exact e▸h⟩
 |a::l,b::m,⟨_,h⟩,i+1,x,e=>by simp at e ⊢;exact bj.get h e
 | [],_,_,i,a,e=>by simp at e
 |_::_,[],h,_,_,_=>h.elim
theorem bj.get' {α β:Type}{R:α->β->Prop}:∀{l:List α} {m:List β},bj R l m->∀{i:Nat} {b:β},m[i]? =some b->∃a,l[i]? =some a/\R a b
 |a::l,b::m,⟨h,_⟩,0,x,e=>⟨a,rfl,by simp at e;exact e▸h⟩
 |a::l,b::m,⟨_,h⟩,i+1,x,e=>by simp at e ⊢;exact bj.get' h e
 |_,[],_,i,a,e=>by simp at e
 | [],_::_,h,_,_,_=>h.elim
theorem bj.afs {α β:Type}{R:α->β->Prop}:∀{l:List α} {m:List β},l.length=m.length->(∀(i:Nat) a b,l[i]? =some a->m[i]? =some b->R a b)->bj R l m
 | [],[],_,_=>trivial
 |a::l,b::m,e,h=>⟨h 0 a b rfl rfl,bj.afs (by simpa using e) λi x y hx hy=>h (i+1) x y (by simpa using hx) (by simpa using hy)⟩
 | [],_::_,e,_=>by simp at e
 |_::_,[],e,_=>by simp at e
theorem bj.take {α β:Type}{R:α->β->Prop}:∀{l:List α} {m:List β} (n:Nat),bj R l m->bj R (l.take n) (m.take n)
 | [],[],n,_=>by simp[bj]
 |_::_,_::_,0,_=>by simp[bj]
 |_::_,_::_,n+1,⟨a,b⟩=>⟨a,bj.take n b⟩
 | [],_::_,_,h=>h.elim
 |_::_,[],_,h=>h.elim
theorem bj.drop {α β:Type}{R:α->β->Prop}:∀{l:List α} {m:List β} (n:Nat),bj R l m->bj R (l.drop n) (m.drop n)
 | [],[],n,_=>by simp[bj]
 |_::_,_::_,0,h=>h
 |_::_,_::_,n+1,⟨_,b⟩=>bj.drop n b
 | [],_::_,_,h=>h.elim
 |_::_,[],_,h=>h.elim
abbrev Pi:=Nat->Option (Nat×Nat×Nat×Nat)
def Ext (π π':Pi):Prop:=∀b p,π b=some p->π' b=some p
theorem Ext.refl (π:Pi):Ext π π:=λ_ _ h=>h
theorem Ext.trans {π π' π'':Pi}(h:Ext π π')(k:Ext π' π''):Ext π π'':=λb p e=>k b p (h b p e)
class ax where
 h0:Nat
 fs:Nat->Nat->Option Value
section
variable [ax]
def FV.rel:FV->Value->Prop
 |.u,x=>x.oneCell'=true
 |.b y,x=>x=.bool y
 |.i k n,x=>x=.int k n
 |.s y,x=>x=.string y
 |.q n g,x=>(n=0/\∃a,x=.slice a 0 0)∨∃B s cap,n<=cap/\x=.slice (some ⟨B,s,none⟩) n cap/\∀j,j<n->ax.fs B (s+j)=some (.bool (g j))
def CV.rel (π:Pi):CV->Value->Prop
 |.f v,x=>v.rel x
 |.ptr b o n,x=>∃B s q e,π b=some (B,s,q,e)/\x=.pointer (some ⟨B,s+o.val,none⟩)/\o.val+n<=q
 |.ahN,x=>x=.pointer none
 |.sl b o n z own,x=>∃B s q e,π b=some (B,s,q,e)/\o.val+n.val*z<=q/\(own=true->o.val+n.val*z=q)/\((n.val=0/\∃a,x=.slice a 0 0)∨∃cap,n.val<=cap/\x=.slice (some ⟨B,s+o.val,none⟩) n.val cap/\(own=true->s+o.val+cap*z<=e))
 |.nils,x=>x=.slice none 0 0
 |.aRW,x=>x=.nilFunc
 |.aRX,x=>x=.nilIface
 |.cl fid b o n,x=>∃B s q e,π b=some (B,s,q,e)/\x=.func (.func fid) #[] #[.pointer (some ⟨B,s+o.val,none⟩)]/\o.val+n<=q
 |.fs n z cols,x=>cols.length=z/\((n=0/\∃a,x=.slice a 0 0)∨∃B s cap,n<=cap/\x=.slice (some ⟨B,s,none⟩) n cap/\∀j,j<n*z->∃f v,iP cols j=.f f/\ax.fs B (s+j)=some v/\f.rel v)
 |.fp l,x=>∃B s,x=.pointer (some ⟨B,s,none⟩)/\∀j f,l[j]? =some f->∃v,ax.fs B (s+j)=some v/\f.rel v
def RV.rel (π:Pi):RV->Value->Prop
 |.c v,x=>v.rel π x
 |.agg cs,x=>∃a:Array Value,x=.agg a/\bj (CV.rel π) cs.list a.toList
def AV.rel (π:Pi):AV->Value->Prop
 |.r v,x=>v.rel π x
 |.tup vs,x=>∃a:Array Value,x=.tuple a/\bj (RV.rel π) vs a.toList
 |.fn f vs,x=>∃a:Array Value,x=.func (.func f) #[] a/\bj (RV.rel π) vs a.toList
 |.Vk,_=>True
theorem FV.Qy {v:FV}{x:Value}(h:v.rel x):x.oneCell'=true:=by
 cases v with
 |q n g=>
  simp only[FV.rel] at h;obtain⟨_,_,rfl⟩| ⟨_,_,_,_,rfl,_⟩:=h<;>rfl
 |_=>simp[FV.rel] at h<;>first|exact h|(subst h;rfl)
theorem CV.Qy {π:Pi}{v:CV}{x:Value}(h:v.rel π x):x.oneCell'=true:=by
 cases v<;>simp only[CV.rel] at h
 case f v=>exact FV.Qy h
 case ptr=>obtain⟨_,_,_,_,_,rfl,_⟩:=h;rfl
 case cl=>obtain⟨_,_,_,_,_,rfl,_⟩:=h;rfl
 case fs=>obtain⟨_,⟨_,_,rfl⟩| ⟨_,_,_,_,rfl,_⟩⟩:=h<;>rfl
 case fp=>obtain⟨_,_,rfl,_⟩:=h;rfl
 case sl=>obtain⟨_,_,_,_,_,_,_,⟨_,_,rfl⟩| ⟨_,_,rfl,_⟩⟩:=h<;>rfl
 all_goals (subst h;rfl)
theorem CV.dK {π π':Pi}(h:Ext π π')(v:CV)(x:Value)(r:v.rel π x):v.rel π' x:=by
 cases v<;>simp only[CV.rel] at r ⊢
 case ptr=>obtain⟨B,s,q,e,hb,hx⟩:=r;exact⟨B,s,q,e,h _ _ hb,hx⟩
 case cl=>obtain⟨B,s,q,e,hb,hx⟩:=r;exact⟨B,s,q,e,h _ _ hb,hx⟩
 case sl=>obtain⟨B,s,q,e,hb,hx⟩:=r;exact⟨B,s,q,e,h _ _ hb,hx⟩
 all_goals exact r
theorem RV.dK {π π':Pi}(h:Ext π π')(v:RV)(x:Value)(r:v.rel π x):v.rel π' x:=by
 cases v<;>simp only[RV.rel] at r ⊢
 case c=>exact CV.dK h _ _ r
 case agg=>obtain⟨a,hx,ha⟩:=r;exact⟨a,hx,ha.imp (CV.dK h)⟩
theorem AV.dK {π π':Pi}(h:Ext π π')(v:AV)(x:Value)(r:v.rel π x):v.rel π' x:=by
 cases v<;>simp only[AV.rel] at r ⊢
 case r=>exact RV.dK h _ _ r
 case tup=>obtain⟨a,hx,ha⟩:=r;exact⟨a,hx,ha.imp (RV.dK h)⟩
 case fn=>obtain⟨a,hx,ha⟩:=r;exact⟨a,hx,ha.imp (RV.dK h)⟩
omit [ax] in
theorem aQt {x:Value}(h:x.oneCell'=true):x.cells=#[x]:=by
 cases x<;>simp_all [Value.oneCell',Value.cells]
omit [ax] in
theorem aSO (v:CV):af.list [.c v]=[v]:=rfl
theorem RV.NT {π:Pi}{v:RV}{x:Value}(h:v.rel π x):bj (CV.rel π) v.bO.list x.cells.toList:=by
 cases v<;>simp only[RV.rel] at h
 case c v=>rw[aQt (CV.Qy h)];exact⟨h,trivial⟩
 case agg=>obtain⟨a,rfl,ha⟩:=h;exact ha
structure Gt where
 t:Nat->AV
 c:Nat->Nat->CV
 z:Nat->Option Nat
noncomputable def St.gt (s:St):Gt where
 t:=s.tmp
 c:=λb j=>match s.bO b with
  |some k=>if j<k.size then k.get j else .f .u
  |none=>.f .u
 z:=λb=>(s.bO b).map af.size
inductive Pt where
 |t (i:Nat)
 |c (b j:Nat)
 |z (b:Nat)
inductive PV where
 |t (v:AV)
 |c (v:CV)
 |z (v:Option Nat)
def Gt.at (g:Gt):Pt->PV
 |.t i=>.t (g.t i)
 |.c b j=>.c (g.c b j)
 |.z b=>.z (g.z b)
omit [ax] in
theorem Gt.aSf {g g':Gt}(h:∀p,g.at p=g'.at p):g=g':=by
 cases g with|mk t c z=>cases g' with|mk t' c' z'=>
 have h1:t=t':=funext λi=>by simpa[Gt.at] using h (.t i)
 have h2:c=c':=funext λb=>funext λj=>by simpa[Gt.at] using h (.c b j)
 have h3:z=z':=funext λb=>by simpa[Gt.at] using h (.z b)
 subst h1 h2 h3;rfl
def inX (r:Option (Nat×Nat))(j:Nat):Prop:=
 match r with
 |some (lo,n)=>lo<=j/\j<lo+n
 |none=>True
def Fp.has:Fp->Pt->Prop
 |.t i,.t j=>i=j
 |.c b r,.c b' j=>b=b'/\inX r j
 |.z b,.z b'=>b=b'
 |_,_=>False
def Up.GI:Up->Pt->Prop
 |.t i _,.t j=>i=j
 |.c b o v,.c b' j=>b=b'/\o.val<=j/\j<o.val+af.size v
 |.new b _,.c b' _|.kill b,.c b' _|.new b _,.z b'|.kill b,.z b'=>b=b'
 |_,_=>False
omit [ax] in
theorem aJK:∀{v:af} {n:Nat},szL v=some n->af.size v=n
 | [],n,h=>by simp only[szL,jY] at h;rw[<-h];rfl
 |.c _::r,n,h=>by
  simp only[szL,m6] at h;obtain⟨m,h1,rfl⟩:=h;rw[af.size_cons,Sg.kt,aJK h1]
 |.a (.l k) cols::r,n,h=>by
  simp only[szL,m6] at h;obtain⟨m,h1,rfl⟩:=h;rw[af.size_cons,Sg.lU,aJK h1];rfl
 |.a (.s _) _::_,n,h=>by simp[szL] at h
omit [ax] in
theorem aDD {o:cA}{v:af}{j:Nat}(h1:o.val<=j)(h2:j<o.val+af.size v):inX (aMq o v) j:=by
 unfold aMq;split
 .rename_i c
  cases hs:szL v with
  |none=>trivial
  |some n=>
   have:=aJK hs;simp only[RX,inX];simp only[cA.val] at h1 h2;omega
 .trivial
omit [ax] in
theorem aYV {o:cA}{cB:Sz}{z j:Nat}(h:j<cB.val*z):inX (ext o cB z) (o.val+j):=by
 unfold ext;split
 .simp only[inX,cA.val];simp only[Sz.val] at h;omega
 .trivial
omit [ax] in
theorem aMB {r r':Option (Nat×Nat)}{j:Nat}(h1:inX r j)(h2:inX r' j):meet r r'=true:=by
 unfold meet;split
 .simp only[inX] at h1 h2;simp only[ovl,cy,tY];omega
 .rfl
omit [ax] in
theorem Fp.aDE {fp:Fp}{u:Up}{p:Pt}(h1:fp.has p)(h2:u.GI p):fp.ay4 u=true:=by
 cases fp<;>cases u<;>cases p<;>simp only[Fp.has,Up.GI,Fp.ay4,beq_iff,cy] at* <;>first|omega|skip
 .exact⟨by omega,aMB h1.2 (aDD h2.2.1 h2.2.2)⟩
omit [ax] in
theorem Up.aDE {u u':Up}{p:Pt}(h1:u.GI p)(h2:u'.GI p):u.ay4 u'=true:=by
 cases u<;>cases u'<;>cases p<;>simp only[Up.GI,Up.ay4,beq_iff,cy] at* <;>first|omega|skip
 .exact⟨by omega,aMB (aDD h1.2.1 h1.2.2) (aDD h2.2.1 h2.2.2)⟩
def Up.hI (u:Up)(g:Gt):Gt:=
 match u with
 |.t i v=>{g with t:=λj=>if j=i then v else g.t j}
 |.c b o v=>{g with c:=λb' j=>if b'=b/\o.val<=j/\j<o.val+af.size v then af.get v (j-o.val) else g.c b' j}
 |.new b k=>{g with c:=λb' j=>if b'=b then(if j<k.size then k.get j else .f .u) else g.c b' j,z:=λb'=>if b'=b then some k.size else g.z b'}
 |.kill b=>{g with c:=λb' j=>if b'=b then .f .u else g.c b' j,z:=λb'=>if b'=b then none else g.z b'}
omit [ax] in
theorem Up.R5 {u:Up}{g:Gt}{p:Pt}(h:¬u.GI p):(u.hI g).at p=g.at p:=by
 cases u<;>cases p<;>simp_all [Up.GI,Up.hI,Gt.at]<;>first|(intro a;exact absurd a.symm (by assumption))|(intros;omega)|(intro a;subst a;simp_all)
omit [ax] in
theorem Up.aMC {u:Up}{g g':Gt}{p:Pt}(h:u.GI p):(u.hI g).at p=(u.hI g').at p:=by
 cases u<;>cases p<;>simp_all [Up.GI,Up.hI,Gt.at]
def cE (us:List Up)(g:Gt):Gt:=us.foldl (λg u=>u.hI g) g
omit [ax] in
theorem qJ:∀{us:List Up} {g:Gt} {p:Pt},(∀u∈us,¬u.GI p)->(cE us g).at p=g.at p
 | [],_,_,_=>rfl
 |u::us,g,p,h=>by
  show(cE us (u.hI g)).at p=_;rw[qJ λv hv=>h v (by simp[hv]),Up.R5 (h u (by simp))]
omit [ax] in
theorem aft:∀{us:List Up} {g g':Gt} {p:Pt},(∃u∈us,u.GI p)∨g.at p=g'.at p->(cE us g).at p=(cE us g').at p
 | [],g,g',p,h=>by
  rcases h with⟨u,hu,_⟩|h
  .simp at hu
  .exact h
 |u::us,g,g',p,h=>by
  show(cE us (u.hI g)).at p=(cE us (u.hI g')).at p;apply aft
  by_cases hu:u.GI p
  .exact .inr (Up.aMC hu)
  .rcases h with⟨v,hv,ht⟩|h
   .rcases aaT.1 hv with rfl|hv
    .exact absurd ht hu
    .exact .inl ⟨v,hv,ht⟩
   .exact .inr (by rw[Up.R5 hu,Up.R5 hu,h])
inductive aH {α:Type}:Rd α->Gt->α->List Fp->Prop where
 |ret (a:α) (g:Gt):aH (.ret a) g a []
 |tm {i:Nat} {k:AV->Rd α} {g:Gt} {a:α} {l:List Fp} (h:aH (k (g.t i)) g a l):aH (.tm i k) g a (.t i::l)
 |vw {b:Nat} {o:cA} {cB:Sz} {z:Nat} {k:af->Rd α} {g:Gt} {a:α} {l:List Fp} (q:Nat) (v:af) (hz:g.z b=some q) (hs:af.size v=cB.val*z) (hv:o.val+cB.val*z<=q->∀j,j<cB.val*z->af.get v j=g.c b (o.val+j)) (h:aH (k v) g a l):aH (.vw b o cB z k) g a (.c b (ext o cB z):: .z b::l)
 |sz {b:Nat} {k:Rd α} {g:Gt} {a:α} {l:List Fp} (q:Nat) (hz:g.z b=some q) (h:aH k g a l):aH (.sz b k) g a (.z b::l)
 |test {x:Bool} {k:Bool->Rd α} {g:Gt} {a:α} {l:List Fp} (h:aH (k x) g a l):aH (.test x k) g a l
 |opt {E:Type} {x:Option E} {k:E->Rd α} {d:E} {g:Gt} {a:α} {l:List Fp} (hx:x=some d) (h:aH (k d) g a l):aH (.opt x k) g a l
omit [ax] in
theorem aH.local {α:Type}{m:Rd α}{g g':Gt}{a:α}{l:List Fp}(h:aH m g a l):(∀fp∈l,∀p,fp.has p->g.at p=g'.at p)->aH m g' a l:=by
 induction h with
 |ret a g=>intro _;exact .ret _ _
 |@tm i k g a l h ih=>
  intro e;have e1:g.t i=g'.t i:=by simpa[Gt.at] using e (.t i) (by simp) (.t i) rfl
  exact .tm (e1▸ih λfp hf=>e fp (by simp[hf]))
 |@vw b o cB z k g a l q v hz hs hv h ih=>
  intro e;have e1:g.z b=g'.z b:=by simpa[Gt.at] using e (.z b) (by simp) (.z b) rfl
  refine .vw q v (e1▸hz) hs (λhle j hj=> ?_) (ih λfp hf=>e fp (by simp[hf]));rw[hv hle j hj];simpa[Gt.at] using e (.c b (ext o cB z)) (by simp) (.c b (o.val+j)) ⟨rfl,aYV hj⟩
 |@sz b k g a l q hz h ih=>
  intro e;have e1:g.z b=g'.z b:=by simpa[Gt.at] using e (.z b) (by simp) (.z b) rfl
  exact .sz q (e1▸hz) (ih λfp hf=>e fp (by simp[hf]))
 |test h ih=>intro e;exact .test (ih e)
 |opt hx h ih=>intro e;exact .opt hx (ih e)
omit [ax] in
theorem aH.bind {α β:Type}{m:Rd α}{f:α->Rd β}{g:Gt}{b:β}{l:List Fp}(h:aH (m.bind f) g b l):
  ∃a l1 l2,aH m g a l1/\aH (f a) g b l2/\l=l1++l2:=by
 induction m generalizing l with
 |ret a=>exact⟨a,[],l,.ret _ _,h,rfl⟩
 |fail=>cases h
 |tm i k ih=>cases h with|tm h=>obtain⟨a,l1,l2,h1,h2,e⟩:=ih _ h;exact⟨a,_,l2,.tm h1,h2,by simp[e]⟩
 |vw b o cB z k ih=>cases h with|vw q v hz hs hv h=>obtain⟨a,l1,l2,h1,h2,e⟩:=ih _ h;exact⟨a,_,l2,.vw q v hz hs hv h1,h2,by simp[e]⟩
 |sz b k ih=>cases h with|sz q hz h=>obtain⟨a,l1,l2,h1,h2,e⟩:=ih h;exact⟨a,_,l2,.sz q hz h1,h2,by simp[e]⟩
 |opt x k ih=>cases h with|opt hx h=>obtain⟨a,l1,l2,h1,h2,e⟩:=ih _ h;exact⟨a,_,l2,.opt hx h1,h2,by simp[e]⟩
 |test x k ih=>cases h with|test h=>obtain⟨a,l1,l2,h1,h2,e⟩:=ih _ h;exact⟨a,_,l2,.test h1,h2,by simp[e]⟩
omit [ax] in
theorem aH.bind' {α β:Type}{m:Rd α}{f:α->Rd β}{g:Gt}{b:β}{l:List Fp}(h:aH (m.bind f) g b l):
  ∃a,(∃l1,aH m g a l1)/\∃l2,aH (f a) g b l2:=by
 obtain⟨a,l1,l2,h1,h2,_⟩:=h.bind;exact⟨a,⟨l1,h1⟩,l2,h2⟩
omit [ax] in
theorem St.apJ {s:St}{b:Nat}{k:af}(h:s.bO b=some k):s.gt.z b=some k.size:=by simp[St.gt,h]
omit [ax] in
theorem St.aSg {s:St}{b j:Nat}{k:af}(h:s.bO b=some k)(hj:j<k.size):s.gt.c b j=k.get j:=by simp[St.gt,h,hj]
omit [ax] in
theorem Rd.aQu {α ρ:Type}{m:Rd α}{s:St}{k:α->List Fp->Option ρ}{r:ρ}:∀{l:List Fp},m.run s l k=some r->
  ∃a fp,aH m s.gt a fp/\k a (fp.reverse++l)=some r:=by
 induction m with
 |ret a=>intro l h;exact⟨a,[],.ret _ _,h⟩
 |fail=>intro l h;simp[Rd.run] at h
 |tm i f ih=>
  intro l h;obtain⟨a,fp,h1,h2⟩:=ih _ h;exact⟨a,.t i::fp,.tm h1,by simpa using h2⟩
 |vw b o cB z f ih=>
  intro l h;simp only[Rd.run] at h;split at h
  .rename_i bO hb
   split at h
   .rename_i p hp
    split at h
    .rename_i hg
     obtain⟨a,fp,h1,h2⟩:=ih _ h;obtain⟨g,v⟩:=p;simp only at hg h1;subst hg;obtain⟨e1,e2⟩:=af.axg hp;exact⟨a,.c b (ext o cB z):: .z b::fp,.vw (af.size bO) _ (St.apJ hb) e1 (λhle j hj=>(e2 hle j hj).trans (St.aSg hb (by omega)).symm) h1,by simpa using h2⟩
    .simp at h
   .simp at h
  .simp at h
 |sz b f ih=>
  intro l h;simp only[Rd.run] at h;split at h
  .rename_i bO hb
   obtain⟨a,fp,h1,h2⟩:=ih h;exact⟨a,.z b::fp,.sz (af.size bO) (St.apJ hb) h1,by simpa using h2⟩
  .simp at h
 |test x f ih=>
  intro l h;cases x
  .obtain⟨a,fp,h1,h2⟩:=ih _ h;exact⟨a,fp,.test h1,h2⟩
  .obtain⟨a,fp,h1,h2⟩:=ih _ h;exact⟨a,fp,.test h1,h2⟩
 |opt x f ih=>
  intro l h;cases x with
  |none=>cases h
  |some d=>obtain⟨a,fp,h1,h2⟩:=ih d (l:=l) h;exact⟨a,fp,.opt rfl h1,h2⟩
omit [ax] in
theorem aSP {α:Type}(l:List α)(i j:Nat)(v d:α)(h:i<l.length):(l.set i v).getD j d=if j=i then v else l.getD j d:=by
 simp only[List.getD,aDl];by_cases e:i=j
 .subst e;simp[h]
 .simp[e,Ne.symm e]
omit [ax] in
theorem Av (l:List AV)(i:Nat):akv l i=l.getD i udf:=by
 induction l generalizing i with
 |nil=>rfl
 |cons a l ih=>
  cases i with
  |zero=>rfl
  |succ i=>exact(ih i).trans (by simp[List.getD])
omit [ax] in
theorem akF {α ρ:Type}(l:List α)(i:Nat)(v:α)(k:List α->Option ρ):ay2 l i v k=if i<l.length then k (l.set i v) else none:=by
 induction l generalizing i k with
 |nil=>rfl
 |cons a l ih=>
  cases i with
  |zero=>rfl
  |succ i=>
   have:ay2 (a::l) (i+1) v k=ay2 l i v λl'=>k (a::l'):=rfl
   rw[this,ih];simp
omit [ax] in
theorem aud {l:List (Option af)}{b b':Nat}{x:Option af}(h:b<l.length):((l.set b x)[b']?).getD none=if b'=b then x else(l[b']?).getD none:=by
 simp only[aDl];by_cases e:b=b'
 .subst e;simp[h]
 .simp[e,Ne.symm e]
omit [ax] in
theorem St.aJL {s:St}{b:Nat}{k:af}(h:s.bO b=some k):b<s.heap.length:=by
 rcases o7 b s.heap.length with h'|h'
 .exact h'
 .simp[St.bO,IX h'] at h
omit [ax] in
theorem aMD {l:List (Option af)}{b':Nat}{x:Option af}:((l++[x])[b']?).getD none=if b'=l.length then x else(l[b']?).getD none:=by
 rw[List.getElem?_append];by_cases h:b'<l.length
 .simp[h,Nat.ne_of_lt h]
 .by_cases e:b'=l.length
  .subst e;simp
  .rw[if_neg h,if_neg e,IX (by simp;omega),IX (by omega)]
omit [ax] in
theorem Up.aYW {s:St}{u:Up}(k:Nat)(h:u.ok s=true):(u.app k s).gt=u.hI s.gt:=by
 apply Gt.aSf
 intro p;cases u with
 |t i v=>
  have hi:i<s.tmps.length:=by have h:=h;simp[Up.ok,Nat.blt] at h;omega
  cases p<;>simp only[Gt.at,Up.app,Up.hI,St.gt,St.tmp,St.bO,PV.t.injEq]
  rw[Av,Av];exact aSP _ _ _ _ _ hi
 |c b o v=>
  simp only[Up.ok] at h;split at h
  .rename_i bO hb
   split at h
   .rename_i p' hp
    obtain⟨g',nb⟩:=p';simp only[cy,fA] at h;obtain⟨rfl,hle⟩:=h;obtain⟨yb,akG⟩:=af.aSM hp;have nR:=St.aJL hb;have Ze:∀b',St.bO {s with heap:=s.heap.set b (some nb),dt:=mark k b s.dt} b'=if b'=b then some nb else s.bO b':=λb'=>aud nR
    cases p with
    |t j=>simp only[Gt.at,Up.app,Up.hI,St.gt,hb,St.tmp,hp]
    |c b' j=>
     simp only[Gt.at,Up.app,Up.hI,St.gt,hb,PV.c.injEq,hp,Ze];by_cases e:b'=b
     .subst e;simp only[lT,hb,yb,Aj];by_cases hj:j<af.size bO
      .simp only[hj,lT,akG j hj]
      .simp only[hj,gA];rw[if_neg (by omega)]
     .simp only[e,gA,false_and]
    |z b'=>
     simp only[Gt.at,Up.app,Up.hI,St.gt,hb,PV.z.injEq,hp,Ze];by_cases e:b'=b
     .subst e;simp[hb,yb]
     .simp[e]
   .simp at h
  .simp at h
 |new b bO=>
  have hb:b=s.heap.length:=oZ h;have Ze:∀b',St.bO {s with heap:=s.heap++[some bO]} b'=if b'=b then some bO else s.bO b':=λb'=>by rw[hb];exact aMD
  cases p with
  |t j=>simp only[Gt.at,Up.app,Up.hI,St.gt,St.tmp]
  |c b' j=>
   simp only[Gt.at,Up.app,Up.hI,St.gt,PV.c.injEq,Ze];by_cases e:b'=b<;>simp[e]
  |z b'=>
   simp only[Gt.at,Up.app,Up.hI,St.gt,PV.z.injEq,Ze];by_cases e:b'=b<;>simp[e]
 |kill b=>
  have hb:b<s.heap.length:=by have h:=h;simp[Up.ok,Nat.blt] at h;omega
  have Ze:∀b',St.bO {s with heap:=s.heap.set b none,dt:=mark k b s.dt} b'=if b'=b then none else s.bO b':=λb'=>aud hb
  cases p with
  |t j=>simp only[Gt.at,Up.app,Up.hI,St.gt,St.tmp]
  |c b' j=>
   simp only[Gt.at,Up.app,Up.hI,St.gt,PV.c.injEq,Ze];by_cases e:b'=b<;>simp[e]
  |z b'=>
   simp only[Gt.at,Up.app,Up.hI,St.gt,PV.z.injEq,Ze];by_cases e:b'=b<;>simp[e]
omit [ax] in
theorem NU {k:Nat}:∀{us:List Up} {s s':St},jZ k us s=some s'->s'.gt=cE us s.gt
 | [],s,s',h=>by simp[jZ] at h;subst h;rfl
 |u::us,s,s',h=>by
  simp only[jZ] at h;split at h
  .rename_i hu
   rw[NU h,Up.aYW k hu];rfl
  .simp at h
end
theorem Vr {α ρ:Type}(l:List α)(k:List α->ρ):afk l k=k l:=by
 induction l generalizing k with
 |nil=>rfl
 |cons a l ih=>exact ih λl=>k (a::l)
theorem aDF {ρ:Type}(o:cA)(k:cA->ρ):at2 o k=k o:=by cases o<;>rfl
theorem aDG {ρ:Type}(o:Sz)(k:Sz->ρ):aJI o k=k o:=by cases o<;>rfl
theorem aDH {ρ:Type}(o:FV)(k:FV->ρ):aCv o k=k o:=by cases o<;>rfl
theorem aJM {ρ:Type}(o:cP)(k:cP->ρ):axd o k=k o:=by cases o<;>rfl
theorem apK {ρ:Type}(l:List cP)(k:List cP->ρ):Vo l k=k l:=by
 induction l generalizing k with
 |nil=>rfl
 |cons a l ih=>
  have:Vo (a::l) k=axd a λa=>Vo l λl=>k (a::l):=rfl
  rw[this,aJM,ih]
theorem aME {ρ:Type}(l:List FV)(k:List FV->ρ):at3 l k=k l:=by
 induction l generalizing k with
 |nil=>rfl
 |cons a l ih=>
  have:at3 (a::l) k=aCv a λa=>at3 l λl=>k (a::l):=rfl
  rw[this,aDH,ih]
theorem aDI {ρ:Type}(o:CV)(k:CV->ρ):aCw o k=k o:=by
 cases o<;>simp only[aCw,aDH,aDF,aDG,apK,aME]
theorem aMF {ρ:Type}(o:Sg)(k:Sg->ρ):at4 o k=k o:=by
 cases o<;>simp only[at4,aDI,aDG,apK]
theorem afu {ρ:Type}(l:af)(k:af->ρ):Za l k=k l:=by
 induction l generalizing k with
 |nil=>rfl
 |cons a l ih=>
  have:Za (a::l) k=at4 a λa=>Za l λl=>k (a::l):=rfl
  rw[this,aMF,ih]
theorem aDJ {ρ:Type}(o:RV)(k:RV->ρ):at5 o k=k o:=by
 cases o<;>simp only[at5,aDI,afu]
theorem aMG {ρ:Type}(l:List RV)(k:List RV->ρ):aky l k=k l:=by
 induction l generalizing k with
 |nil=>rfl
 |cons a l ih=>
  have:aky (a::l) k=at5 a λa=>aky l λl=>k (a::l):=rfl
  rw[this,aDJ,ih]
theorem aDK {ρ:Type}(o:AV)(k:AV->ρ):at6 o k=k o:=by
 cases o<;>simp only[at6,aDJ,aMG]
theorem aQv {ρ:Type}(o:Up)(k:Up->ρ):aCx o k=k o:=by
 cases o<;>simp only[aCx,aDK,aDF,afu]
theorem aMH {ρ:Type}(l:List Up)(k:List Up->ρ):at7 l k=k l:=by
 induction l generalizing k with
 |nil=>rfl
 |cons a l ih=>
  have:at7 (a::l) k=aCx a λa=>at7 l λl=>k (a::l):=rfl
  rw[this,aQv,ih]
theorem aMI {ρ:Type}(l:List AV)(k:List AV->ρ):at8 l k=k l:=by
 induction l generalizing k with
 |nil=>rfl
 |cons a l ih=>
  have:at8 (a::l) k=at6 a λa=>at8 l λl=>k (a::l):=rfl
  rw[this,aDK,ih]
theorem aMJ {ρ:Type}(o:Option af)(k:Option af->ρ):at9 o k=k o:=by
 cases o<;>simp only[at9,afu]
theorem aMK {ρ:Type}(l:List (Option af))(k:List (Option af)->ρ):aua l k=k l:=by
 induction l generalizing k with
 |nil=>rfl
 |cons a l ih=>
  have:aua (a::l) k=at9 a λa=>aua l λl=>k (a::l):=rfl
  rw[this,aMJ,ih]
theorem K7 {ρ:Type}(s:St)(k:St->ρ):xO s k=k s:=by
 unfold xO;simp only[Vr,aMI,aMK]
theorem Up.aDL {ρ:Type}(k:Nat)(u:Up)(s:St)(c:St->Option ρ):u.ac5 k s c=match u.ok s with
  |true=>c (u.app k s)
  |false=>none:=by
 cases u with
 |t i v=>
  simp only[Up.ac5,akF,Up.ok,Up.app];by_cases h:i<s.tmps.length
  .rw[if_pos h,tY.2 h]
  .rw[if_neg h,afl h]
 |c b o v=>
  simp only[Up.ac5,Up.ok,Up.app,afu,Vr,akF];split
  .rename_i bO hb
   have nR:b<s.heap.length:=St.aJL hb;split
   .rename_i p hp
    split<;>rename_i hg<;>simp only[hb,hp,hg,nR,lT]
   .rename_i hp;simp only[hb,hp]
  .rename_i hb;simp only[hb]
 |new b bO=>
  simp only[Up.ac5,Up.ok,Up.app,Vr];cases Nat.beq b s.heap.length<;>rfl
 |kill b=>
  simp only[Up.ac5,akF,Up.ok,Up.app,Vr];by_cases h:b<s.heap.length
  .rw[if_pos h,tY.2 h]
  .rw[if_neg h,afl h]
theorem aDL {ρ:Type}(k:Nat)(us:List Up)(s:St)(c:St->Option ρ):ac5 k us s c=match jZ k us s with
  |some s'=>c s'
  |none=>none:=by
 induction us generalizing s with
 |nil=>rfl
 |cons u us ih=>
  have:ac5 k (u::us) s c=u.ac5 k s λs=>ac5 k us s c:=rfl
  rw[this,Up.aDL,jZ];split
  .rename_i h;simp only[h,ih]
  .rename_i h;simp only[h]
end Go.Ab
namespace Go.Ab
structure cg (w0:World)(S:Nat->Nat->Prop)(w:World):Prop where
 os:w.os=w0.os
 tape:w.tape=w0.tape
 output:w.output=w0.output
 size:w0.heap.size<=w.heap.size
 obj:∀B:Nat,B<w0.heap.size->(∀c t fz,w0.heap[B]? ≠some (.cells c t fz))->w.heap[B]? =w0.heap[B]?
 fzn:∀a,w.frozen? a=w0.frozen? a
 row:∀(B:Nat) c t fz,w0.heap[B]? =some (.cells c t fz)->∃c',w.heap[B]? =some (.cells c' t fz)/\c'.size=c.size/\∀i:Nat,¬S B i->c'[i]? =c[i]?
theorem cg.refl (w:World)(S:Nat->Nat->Prop):cg w S w:=
 ⟨rfl,rfl,rfl,eO _,λ_ _ _=>rfl,λ_=>rfl,λ_ c _ _ h=>⟨c,h,rfl,λ_ _=>rfl⟩⟩
theorem cg.mono {w0 w:World}{S S':Nat->Nat->Prop}(h:cg w0 S w)(hs:∀B i,B<w0.heap.size->S B i->S' B i):cg w0 S' w:=
 ⟨h.os,h.tape,h.output,h.size,h.obj,h.fzn,λB c t fz hb=>by
  obtain⟨c',h1,h2,h3⟩:=h.row B c t fz hb;refine⟨c',h1,h2,λi hi=>h3 i λhS=>hi (hs B i ?_ hS)⟩;rcases o7 B w0.heap.size with h'|h'
  .exact h'
  .rw[ar7 h'] at hb;cases hb⟩
theorem cg.trans {w0 w w':World}{S S':Nat->Nat->Prop}(h:cg w0 S w)(h':cg w S' w')(hs:∀B i,B<w0.heap.size->S' B i->S B i):cg w0 S w':=by
 refine⟨h'.os.trans h.os,h'.tape.trans h.tape,h'.output.trans h.output,bZ h.size h'.size,λB hB hn=> ?_,λa=>(h'.fzn a).trans (h.fzn a),λB c t fz hb=> ?_⟩
 .have e:=h.obj B hB hn;rw[<-e];exact h'.obj B (aDk hB h.size) (by rw[e];exact hn)
 .obtain⟨c1,e1,z1,k1⟩:=h.row B c t fz hb;obtain⟨c2,e2,z2,k2⟩:=h'.row B c1 t fz e1
  have hB:B<w0.heap.size:=by
   rcases o7 B w0.heap.size with h'|h'
   .exact h'
   .rw[ar7 h'] at hb;cases hb
  exact⟨c2,e2,z2.trans z1,λi hi=>(k2 i λhS=>hi (hs B i hB hS)).trans (k1 i hi)⟩
theorem cg.drew {w0 w:World}{S:Nat->Nat->Prop}(h:cg w0 S w):cg w0 S {w with drawn:=w.drawn+1}:=⟨h.os,h.tape,h.output,h.size,h.obj,h.fzn,h.row⟩
theorem Vs (w:World)(c:Array Value)(t:TypeId)(a:Addr):(w.alloc (.cells c t)).frozen? a=w.frozen? a:=by
 by_cases h:a.block=w.heap.size
 .have e1:(w.alloc (.cells c t)).heap[a.block]? =some (.cells c t):=by
   rw[h];show(w.heap.push _)[w.heap.size]? =_;simp
  have e2:w.heap[a.block]? =none:=by rw[h];simp
  simp[World.frozen?,e1,e2]
 .exact World.frozen?_alloc_old _ _ _ h
theorem cg.alloc {w0 w:World}{S:Nat->Nat->Prop}(h:cg w0 S w)(cs:Array Value)(ty:TypeId):cg w0 S (w.alloc (.cells cs ty)):=by
 generalize ho:Obj.cells cs ty=o
 have nR:∀(B:Nat),B<w0.heap.size->(w.alloc o).heap[B]? =w.heap[B]? :=λB hB=>by
  show(w.heap.push o)[B]? =_;rw[Array.getElem?_push,if_neg (by have:=h.size;omega)]
 refine⟨h.os,h.tape,h.output,by rw[World.size_alloc];have:=h.size;omega,λB hB hn=>(nR B hB).trans (h.obj B hB hn),λa=>by rw[<-ho,Vs];exact h.fzn a,λB c t fz hb=> ?_⟩
 have hB:B<w0.heap.size:=by
  rcases o7 B w0.heap.size with h'|h'
  .exact h'
  .rw[ar7 h'] at hb;cases hb
 rw[nR B hB];exact h.row B c t fz hb
theorem cg.setCell {w0 w:World}{S:Nat->Nat->Prop}(h:cg w0 S w){B i:Nat}(hs:w0.heap.size<=B∨S B i)(v:Value):cg w0 S (w.setCell ⟨B,i,none⟩ v):=by
 refine⟨h.os,h.tape,h.output,by simpa[World.setCell] using h.size,λB' hB hn=> ?_,λa=>(World.frozen?_setCell _ _ _ _).trans (h.fzn a),λB' c t fz hb=> ?_⟩
 .by_cases e:B=B'
  .subst e;have:=h.obj B hB hn;simp only[World.setCell,aJz,lT,this];cases hh:w0.heap[B]? with
   |none=>rfl
   |some x=>cases x<;>first|rfl|exact absurd hh (hn _ _ _)
  .simp only[World.setCell,aJz,e,gA];exact h.obj B' hB hn
 .have hB:B'<w0.heap.size:=by
   rcases o7 B' w0.heap.size with h'|h'
   .exact h'
   .rw[ar7 h'] at hb;cases hb
  obtain⟨c1,e1,z1,k1⟩:=h.row B' c t fz hb;by_cases e:B=B'
  .subst e;refine⟨c1.setIfInBounds i v,by simp[World.setCell,aJz,e1],by simpa using z1,λj hj=> ?_⟩;have oe:i≠j:=λe=>by subst e;rcases hs with hs|hs;omega;exact hj hs
   rw[aRV oe];exact k1 j hj
  .exact⟨c1,by simp only[World.setCell,aJz,e,gA];exact e1,z1,k1⟩
theorem cg.setCells {w0:World}{S:Nat->Nat->Prop}{B:Nat}:∀{vs:List Value} {o:Nat} {w:World},cg w0 S w->(w0.heap.size<=B∨∀j,j<vs.length->S B (o+j))->cg w0 S (w.setCells B o vs)
 | [],_,_,h,_=>h
 |v::vs,o,w,h,hs=>by
  rw[World.setCells];refine cg.setCells (h.setCell (hs.imp id λh=>by simpa using h 0 (by simp)) v) (hs.imp id λh j hj=> ?_);have:=h (j+1) (by simp;omega);rwa [show o+(j+1)=o+1+j by omega] at this
variable [ax]
def cl (w:World)(B i:Nat):Option Value:=w.cell? ⟨B,i,none⟩
def fz (w:World)(B i:Nat):Bool:=w.frozen? ⟨B,i,none⟩
omit [ax] in
theorem aaY {w:World}{B i:Nat}(h:(cl w B i).isSome=true):B<w.heap.size:=by
 rcases o7 B w.heap.size with h'|h'
 .exact h'
 .simp[cl,World.cell?,ar7 h'] at h
omit [ax] in
theorem aHK {w:World}{o:Obj}{B i:Nat}(h:B<w.heap.size):cl (w.alloc o) B i=cl w B i:=World.cell?_alloc_lt _ _ _ h
omit [ax] in
theorem aSQ {w:World}{o:Obj}{B i:Nat}(h:B<w.heap.size):fz (w.alloc o) B i=fz w B i:=World.frozen?_alloc_old _ _ _ (Nat.ne_of_lt h)
omit [ax] in
theorem cg.cl {w0 w:World}{S:Nat->Nat->Prop}(h:cg w0 S w){B i:Nat}(hB:B<w0.heap.size)(hs:¬S B i):cl w B i=cl w0 B i:=by
 simp only[Ab.cl,World.cell?];cases hh:w0.heap[B]? with
 |none=>rw[h.obj B hB (by simp[hh]),hh]
 |some x=>
  cases x with
  |cells c t f=>
   obtain⟨c',e,_,k⟩:=h.row B c t f hh;simp only[e];simpa using k i hs
  |_=>rw[h.obj B hB (by simp[hh]),hh]
omit [ax] in
theorem cg.fz {w0 w:World}{S:Nat->Nat->Prop}(h:cg w0 S w){B i:Nat}(hB:B<w0.heap.size):fz w B i=fz w0 B i:=by
 simp only[Ab.fz,World.frozen?];cases hh:w0.heap[B]? with
 |none=>rw[h.obj B hB (by simp[hh]),hh]
 |some x=>
  cases x with
  |cells c t f=>
   obtain⟨c',e,_,k⟩:=h.row B c t f hh;simp only[e]
  |_=>rw[h.obj B hB (by simp[hh]),hh]
structure Aw (w:World):Prop where
 sz:ax.h0<=w.heap.size
 fr:∀B i,ax.h0<=B->fz w B i=false
 st:∀B i v,ax.fs B i=some v->B<ax.h0/\cl w B i=some v
theorem Aw.same {w w':World}(h:Aw w)(e:w'.heap=w.heap):Aw w':=by
 refine⟨by rw[e];exact h.sz,λB i hB=> ?_,λB i v hv=> ?_⟩
 .have:=h.fr B i hB;simp only[fz,World.frozen?] at this ⊢;rw[e];exact this
 .obtain⟨h1,h2⟩:=h.st B i v hv;refine⟨h1,?_⟩;simp only[cl,World.cell?] at h2 ⊢;rw[e];exact h2
theorem Aw.alloc {w:World}(h:Aw w)(cs:Array Value)(t:TypeId):Aw (w.alloc (.cells cs t)):=by
 refine⟨by rw[World.size_alloc];have:=h.sz;omega,λB i hB=> ?_,λB i v hv=> ?_⟩
 .unfold fz;rw[Vs];exact h.fr B i hB
 .obtain⟨h1,h2⟩:=h.st B i v hv;exact⟨h1,by rw[aHK (aaY (by rw[h2];rfl))];exact h2⟩
structure rW (π:Pi)(c:Nat->Nat->CV)(z:Nat->Option Nat)(w:World):Prop where
 am:Aw w
 lb:∀b B s q e,z b≠none->π b=some (B,s,q,e)->s<e->ax.h0<=B
 hp:∀b n,z b=some n->∃B s e,π b=some (B,s,n,e)/\s+n<=e/\(∀i,s<=i->i<e->(cl w B i).isSome=true/\fz w B i=false)/\∀j,j<n->∃v,cl w B (s+j)=some v/\(c b j).rel π v
 dj:∀b b' B s q e s' q' e',b≠b'->z b≠none->z b'≠none->π b=some (B,s,q,e)->π b'=some (B,s',q',e')->∀i,s<=i->i<e->s'<=i->i<e'->False
theorem rW.aSh {π:Pi}{c:Nat->Nat->CV}{z:Nat->Option Nat}{w w':World}(h:rW π c z w)
  (ha:Aw w')(hw:∀b B s q e,z b≠none->π b=some (B,s,q,e)->∀i,s<=i->i<e->cl w' B i=cl w B i/\fz w' B i=fz w B i):rW π c z w':=by
 refine⟨ha,h.lb,λb n hz=> ?_,h.dj⟩;obtain⟨B,s,e,hb,hle,h1,h2⟩:=h.hp b n hz;refine⟨B,s,e,hb,hle,λi hi he=> ?_,λj hj=> ?_⟩
 .have:=hw b B s n e (by simp[hz]) hb i hi he;rw[this.1,this.2];exact h1 i hi he
 .have:=hw b B s n e (by simp[hz]) hb (s+j) (by omega) (by omega);rw[this.1];exact h2 j hj
theorem rW.K8 {π π':Pi}{c:Nat->Nat->CV}{z:Nat->Option Nat}{w:World}(h:rW π c z w)(hx:Ext π π'):rW π' c z w:=by
 refine⟨h.am,λb B s q e hz hb Be=> ?_,λb n hz=> ?_,λb b' B s q e s' q' e' oe hz tZ hb fw=> ?_⟩
 .cases hh:z b with
  |none=>exact absurd hh hz
  |some n=>
   obtain⟨B1,s1,e1,hb1,_⟩:=h.hp b n hh;have e2:=hx _ _ hb1;rw[hb] at e2;cases e2;exact h.lb b B s _ e (by rw[hh];simp) hb1 Be
 .obtain⟨B,s,e,hb,hle,h1,h2⟩:=h.hp b n hz;exact⟨B,s,e,hx _ _ hb,hle,h1,λj hj=>let⟨v,a,r⟩:=h2 j hj;⟨v,a,CV.dK hx _ _ r⟩⟩
 .have xt:∀b,z b≠none->∃p,π b=some p:=λb hz=>by
   cases hh:z b with
   |none=>exact absurd hh hz
   |some n=>obtain⟨B,s,e,hb,_⟩:=h.hp b n hh;exact⟨_,hb⟩
  obtain⟨p,hp⟩:=xt b hz;obtain⟨p',uk⟩:=xt b' tZ;have e1:=hx _ _ hp;rw[hb] at e1;have e2:=hx _ _ uk;rw[fw] at e2;exact h.dj b b' B s q e s' q' e' oe hz tZ (hp.trans e1.symm) (uk.trans e2.symm)
theorem rW.kill {π:Pi}{c:Nat->Nat->CV}{z:Nat->Option Nat}{w:World}(h:rW π c z w)(b:Nat):
  rW π (λb' j=>if b'=b then .f .u else c b' j) (λb'=>if b'=b then none else z b') w:=by
 refine⟨h.am,λb' B s q e hz hb Be=> ?_,λb' n hz=> ?_,λb1 b2 B s q e s' q' e' oe hz tZ=> ?_⟩
 .by_cases e:b'=b
  .simp[e] at hz
  .simp only[e,gA] at hz;exact h.lb b' B s q _ hz hb Be
 .by_cases e:b'=b
  .simp[e] at hz
  .simp only[e,gA] at hz ⊢;exact h.hp b' n hz
 .by_cases e1:b1=b
  .simp[e1] at hz
  by_cases e2:b2=b
  .simp[e2] at tZ
  simp only[e1,e2,gA] at hz tZ;exact h.dj b1 b2 B s q e s' q' e' oe hz tZ
theorem rW.new {π:Pi}{c:Nat->Nat->CV}{z:Nat->Option Nat}{w:World}(h:rW π c z w){b B s e:Nat}{k:af}(hb:π b=some (B,s,k.size,e))(hle:s+k.size<=e)
  (h1:∀i,s<=i->i<e->(cl w B i).isSome=true/\fz w B i=false)(h2:∀j,j<k.size->∃v,cl w B (s+j)=some v/\(k.get j).rel π v)
  (hd:∀b' s' q' e',b'≠b->z b'≠none->π b'=some (B,s',q',e')->∀i,s<=i->i<e->s'<=i->i<e'->False)(hlb:s<e->ax.h0<=B):
  rW π (λb' j=>if b'=b then(if j<k.size then k.get j else .f .u) else c b' j) (λb'=>if b'=b then some k.size else z b') w:=by
 refine⟨h.am,λb' B' s' q' e' hz fw Be=> ?_,λb' n hz=> ?_,λb1 b2 B' s1 q1 e1 s2 q2 e2 oe hz tZ hb1 ED i i1 i2 i3 i4=> ?_⟩
 .by_cases x:b'=b
  .subst x;rw[hb] at fw;cases fw;exact hlb Be
  .simp only[x,gA] at hz;exact h.lb b' B' s' q' e' hz fw Be
 .by_cases e':b'=b
  .subst e';simp only[lT,jY] at hz;subst hz;refine⟨B,s,e,hb,hle,h1,λj hj=> ?_⟩;simp only[lT,hj];exact h2 j hj
  .simp only[e',gA] at hz ⊢;exact h.hp b' n hz
 .by_cases x1:b1=b
  .subst x1;have x2:b2≠b1:=λx=>oe x.symm
   rw[hb] at hb1;cases hb1;simp only[x2,gA] at tZ;exact hd b2 s2 q2 e2 x2 tZ ED i i1 i2 i3 i4
  .by_cases x2:b2=b
   .subst x2;rw[hb] at ED;cases ED;simp only[x1,gA] at hz;exact hd b1 s1 q1 e1 x1 hz hb1 i i3 i4 i1 i2
   .simp only[x1,x2,gA] at hz tZ;exact h.dj b1 b2 B' s1 q1 e1 s2 q2 e2 oe hz tZ hb1 ED i i1 i2 i3 i4
omit [ax] in
theorem eP {w:World}{B o:Nat}{vs:List Value}{B' i:Nat}(h:B'=B->i<o∨o+vs.length<=i):cl (w.setCells B o vs) B' i=cl w B' i:=
 World.cell?_setCells_out B vs o w ⟨B',i,none⟩ λe _=>h e
omit [ax] in
theorem nS {w:World}{B o:Nat}{vs:List Value}(h:∀j,j<vs.length->(cl w B (o+j)).isSome=true){j:Nat}(hj:j<vs.length):cl (w.setCells B o vs) B (o+j)=some vs[j]:=
 World.cell?_setCells_in B vs o w h j hj
omit [ax] in
theorem pj {w:World}{B o:Nat}{vs:List Value}{B' i:Nat}:fz (w.setCells B o vs) B' i=fz w B' i:=World.frozen?_setCells B vs o w _
omit [ax] in
theorem akH {B:Nat}:∀{vs:List Value} {o:Nat} {w:World},(w.setCells B o vs).heap.size=w.heap.size
 | [],_,_=>rfl
 |v::vs,o,w=>by rw[World.setCells,akH];simp[World.setCell]
omit [ax] in
theorem isSome_setCells {w:World}{B o:Nat}{vs:List Value}(h:∀j,j<vs.length->(cl w B (o+j)).isSome=true){B' i:Nat}(hi:(cl w B' i).isSome=true):(cl (w.setCells B o vs) B' i).isSome=true:=by
 by_cases hc:B'=B/\o<=i/\i<o+vs.length
 .obtain⟨rfl,h1,h2⟩:=hc;have:=nS h (j:=i-o) (by omega);rw[show o+(i-o)=i by omega] at this;simp[this]
 .rw[eP];exact hi;intro e;omega
theorem jm {π:Pi}{k:af}{xs:List Value}(h:bj (CV.rel π) k.list xs):xs.length=af.size k/\∀j,j<af.size k->∃x,xs[j]? =some x/\(af.get k j).rel π x:=by
 refine⟨by rw[<-h.length,af.aub],λj hj=> ?_⟩;exact h.get (by rw[af.afo,if_pos hj])
theorem xP {π:Pi}{k:af}{xs:List Value}(hl:xs.length=af.size k)(h:∀j,j<af.size k->∃x,xs[j]? =some x/\(af.get k j).rel π x):bj (CV.rel π) k.list xs:=by
 refine bj.afs (by rw[af.aub,hl]) λi a b ha hb=> ?_;rw[af.afo] at ha;split at ha
 .rename_i hi
  cases ha;obtain⟨x,hx,hr⟩:=h i hi;rw[hb] at hx;cases hx;exact hr
 .cases ha
theorem Aw.setCells {w:World}(h:Aw w){B o:Nat}{xs:List Value}(hB:0<xs.length->ax.h0<=B):Aw (w.setCells B o xs):=by
 refine⟨by rw[akH];exact h.sz,λB' i hB'=>by rw[pj];exact h.fr B' i hB',λB' i v hv=> ?_⟩;obtain⟨h1,h2⟩:=h.st B' i v hv;refine⟨h1,?_⟩;rw[eP]
 .exact h2
 .intro e;rcases aaP xs.length with h0|h0
  .omega
  .have:=hB h0;omega
theorem rW.set {π:Pi}{c:Nat->Nat->CV}{z:Nat->Option Nat}{w:World}(h:rW π c z w){b n B s e lo:Nat}{vs:af}{xs:List Value}(hz:z b=some n)(hb:π b=some (B,s,n,e))(hn:lo+af.size vs<=n)
  (hx:bj (CV.rel π) vs.list xs):
  rW π (λb' j=>if b'=b/\lo<=j/\j<lo+af.size vs then af.get vs (j-lo) else c b' j) z (w.setCells B (s+lo) xs):=by
 obtain⟨B',s',e',fw,hle,h1,h2⟩:=h.hp b n hz;rw[hb] at fw;cases fw;obtain⟨hlen,akG⟩:=jm hx;have hin:∀j,j<xs.length->(cl w B (s+lo+j)).isSome=true:=λj hj=>(h1 _ (by omega) (by omega)).1
 refine⟨h.am.setCells λhl=>h.lb b B s n e (by rw[hz];simp) hb (by omega),h.lb,λb' n' tZ=> ?_,h.dj⟩;obtain⟨B2,s2,e2,ED,ac6,k1,k2⟩:=h.hp b' n' tZ;refine⟨B2,s2,e2,ED,ac6,λi hi he=>⟨isSome_setCells hin (k1 i hi he).1,by rw[pj];exact(k1 i hi he).2⟩,λj hj=> ?_⟩;by_cases eb:b'=b
 .subst eb;rw[hb] at ED;cases ED;by_cases hc:lo<=j/\j<lo+af.size vs
  .have hj':j-lo<xs.length:=by omega
   have:=nS hin hj';rw[show s+lo+(j-lo)=s+j by omega] at this;refine⟨_,this,?_⟩;rw[if_pos ⟨rfl,hc⟩];obtain⟨x,hx1,hx2⟩:=akG (j-lo) (by omega);rw[kE hj'] at hx1;cases hx1;exact hx2
  .rw[if_neg (by simp only[Aj];exact hc),eP (λ_=>by omega)];exact k2 j hj
 .rw[if_neg (by simp[eb]),eP]
  .exact k2 j hj
  .intro e;subst e;by_cases hc:s+lo<=s2+j/\s2+j<s+lo+xs.length
   .exact(h.dj b' b B2 s2 _ e2 s _ e eb (by simp[tZ]) (by simp[hz]) ED hb (s2+j) (by omega) (by omega) (by omega) (by omega)).elim
   .omega
structure Cx where
 w0:World
 k:Nat
 p0:Pi
 N:Nat
def CC (p0:Pi)(k:Nat)(D:Nat->Prop)(B i:Nat):Prop:=∃b s q e,b<k/\D b/\p0 b=some (B,s,q,e)/\s<=i/\i<e
structure Rel (X:Cx)(D:Nat->Prop)(π:Pi)(g:Gt)(a:Act)(w:World):Prop where
 tm:∀i,(g.t i).rel π (a.tmps.getD i undef)
 nt:a.tmps.size=X.N
 df:a.defers=[]
 hp:rW π g.c g.z w
 xt:∀b,b<X.k->π b=X.p0 b
 ft:∀b B s q e,X.k<=b->g.z b≠none->π b=some (B,s,q,e)->B<X.w0.heap.size->∀i,s<=i->i<e->CC X.p0 X.k D B i
 fr:cg X.w0 (CC X.p0 X.k D) w
theorem Rel.dst {X:Cx}{D:Nat->Prop}{π:Pi}{g:Gt}{a:Act}{w:World}(R:Rel X D π g a w){dst:Option Tmp}(hd:∀d,dst=some d->d<X.N){v:AV}{x:Value}(hv:v.rel π x):
  Rel X D π (cE (dV dst v) g) (a.put dst x) w:=by
 cases dst with
 |none=>exact R
 |some d=>
  have nR:d<a.tmps.size:=by rw[R.nt];exact hd d rfl
  refine⟨λi=> ?_,by simpa[Act.put] using R.nt,R.df,R.hp,R.xt,R.ft,R.fr⟩;show(if i=d then v else g.t i).rel π ((a.tmps.setIfInBounds d x).getD i undef);by_cases e:i=d
  .subst e;simp[nR,hv]
  .rw[if_neg e];have:=R.tm i;simpa[aRV (Ne.symm e)] using this
theorem Rel.K8 {X:Cx}{D:Nat->Prop}{π π':Pi}{g:Gt}{a:Act}{w:World}(R:Rel X D π g a w)(hx:Ext π π')(ho:∀b,b<X.k->π' b=π b):Rel X D π' g a w:=by
 refine⟨λi=>AV.dK hx _ _ (R.tm i),R.nt,R.df,R.hp.K8 hx,λb hb=>(ho b hb).trans (R.xt b hb),λb B s q e hk hz hb=> ?_,R.fr⟩
 have:∃p,π b=some p:=by
  cases hh:g.z b with
  |none=>exact absurd hh hz
  |some n=>obtain⟨B,s,e,hb,_⟩:=R.hp.hp b n hh;exact⟨_,hb⟩
 obtain⟨p,hp⟩:=this;have:=hx _ _ hp;rw[hb] at this;cases this;exact R.ft b B s q e hk hz hp
theorem Rel.aJN {X:Cx}{D D':Nat->Prop}{π:Pi}{g:Gt}{a:Act}{w:World}(R:Rel X D π g a w)(h:∀b,D b->D' b):Rel X D' π g a w:=
 ⟨R.tm,R.nt,R.df,R.hp,R.xt,λb B s q e hk hz hb hB i h1 h2=>let⟨b0,s0,q0,e0,x1,x2,x3⟩:=R.ft b B s q e hk hz hb hB i h1 h2;⟨b0,s0,q0,e0,x1,h _ x2,x3⟩,
  R.fr.mono λB i _ ⟨b0,s0,q0,e0,x1,x2,x3⟩=>⟨b0,s0,q0,e0,x1,h _ x2,x3⟩⟩
theorem Rel.drew {X:Cx}{D:Nat->Prop}{π:Pi}{g:Gt}{a:Act}{w:World}(R:Rel X D π g a w):Rel X D π g a {w with drawn:=w.drawn+1}:=
 ⟨R.tm,R.nt,R.df,R.hp.aSh (R.hp.am.same rfl) λ_ _ _ _ _ _ _ _ _ _=>⟨rfl,rfl⟩,R.xt,R.ft,R.fr.drew⟩
theorem Rel.kill {X:Cx}{D:Nat->Prop}{π:Pi}{g:Gt}{a:Act}{w:World}(R:Rel X D π g a w)(b:Nat):Rel X D π ((Up.kill b).hI g) a w:=by
 refine⟨R.tm,R.nt,R.df,R.hp.kill b,R.xt,λb' B s q e hk hz=> ?_,R.fr⟩;by_cases eb:b'=b
 .exact absurd (by simp[Up.hI,eb]) hz
 .exact R.ft b' B s q e hk (by simpa[Up.hI,eb] using hz)
def Ai (π:Pi)(b:Nat)(p:Nat×Nat×Nat×Nat):Pi:=λb'=>if b'=b then some p else π b'
omit [ax] in
theorem pI (π:Pi)(b:Nat)(p:Nat×Nat×Nat×Nat):Ai π b p b=some p:=by simp[Ai]
omit [ax] in
theorem Ax {π:Pi}{b:Nat}(h:π b=none)(p:Nat×Nat×Nat×Nat):Ext π (Ai π b p):=by
 intro b' q hq;simp only[Ai];by_cases e:b'=b
 .subst e;rw[h] at hq;cases hq
 .simp[e,hq]
theorem Rel.new {X:Cx}{D:Nat->Prop}{π:Pi}{g:Gt}{a:Act}{w:World}(R:Rel X D π g a w){b B s e:Nat}{k:af}(hb:π b=some (B,s,k.size,e))(hk:X.k<=b)(hle:s+k.size<=e)
  (h1:∀i,s<=i->i<e->(cl w B i).isSome=true/\fz w B i=false)(h2:∀j,j<k.size->∃v,cl w B (s+j)=some v/\(k.get j).rel π v)
  (hd:∀b' s' q' e',b'≠b->g.z b'≠none->π b'=some (B,s',q',e')->∀i,s<=i->i<e->s'<=i->i<e'->False)
  (hf:B<X.w0.heap.size->∀i,s<=i->i<e->CC X.p0 X.k D B i)(hlb:s<e->ax.h0<=B:=by intro h;omega):Rel X D π ((Up.new b k).hI g) a w:=by
 refine⟨R.tm,R.nt,R.df,R.hp.new hb hle h1 h2 hd hlb,R.xt,λb' B' s' q' e' KO hz fw hB i i1 i2=> ?_,R.fr⟩;by_cases eb:b'=b
 .subst eb;rw[hb] at fw;cases fw;exact hf hB i i1 i2
 .exact R.ft b' B' s' q' e' KO (by simpa[Up.hI,eb] using hz) fw hB i i1 i2
theorem Rel.alloc {X:Cx}{D:Nat->Prop}{π:Pi}{g:Gt}{a:Act}{w:World}(R:Rel X D π g a w){b e:Nat}{k:af}{cs:Array Value}{t:TypeId}(hb:π b=none)(hk:X.k<=b)(hle:k.size<=e)(he:e<=cs.size)
  (h2:∀j,j<k.size->∃v,cs[j]? =some v/\(k.get j).rel π v):
  Rel X D (Ai π b (w.heap.size,0,k.size,e)) ((Up.new b k).hI g) a (w.alloc (.cells cs t)):=by
 have hx:=Ax hb (w.heap.size,0,k.size,e)
 have live:∀b' B' s' q' e',g.z b'≠none->π b'=some (B',s',q',e')->∀i,s'<=i->i<e'->B'<w.heap.size:=λb' B' s' q' e' hz fw i i1 i2=>by
  cases hh:g.z b' with
  |none=>exact absurd hh hz
  |some n=>
   obtain⟨_,_,_,ED,_,k1,_⟩:=R.hp.hp b' n hh;rw[fw] at ED;cases ED;exact aaY (k1 i i1 i2).1
 have R1:Rel X D π g a (w.alloc (.cells cs t)):=
  ⟨R.tm,R.nt,R.df,R.hp.aSh (R.hp.am.alloc cs t) λb' B' s' q' e' hz fw i i1 i2=>⟨aHK (live b' B' s' q' e' hz fw i i1 i2),aSQ (live b' B' s' q' e' hz fw i i1 i2)⟩,R.xt,R.ft,R.fr.alloc _ _⟩
 have R2:=R1.K8 hx (λb' fw=>by simp only[Ai];rw[if_neg (by omega)]);have DE:∀i,cl (w.alloc (.cells cs t)) w.heap.size i=cs[i]? :=λi=>World.cell?_alloc_new w cs t i
 refine R2.new (s:=0) (pI _ _ _) hk (by omega) (λi _ i2=>⟨?_,World.frozen?_alloc_new w cs t i⟩) (λj hj=> ?_) (λb' s' q' e' oe hz fw i _ _ i3 i4=> ?_) (λhB=> ?_) (λ_=>R.hp.am.sz)
 .rw[DE];simp;omega
 .obtain⟨v,hv,hr⟩:=h2 j hj;exact⟨v,by rw[gW,DE];exact hv,CV.dK hx _ _ hr⟩
 .simp only[Ai,oe,gA] at fw;exact absurd (live b' _ s' q' e' hz fw i i3 i4) (Nat.lt_irrefl _)
 .have:=R.fr.size;omega
theorem Rel.set {X:Cx}{D:Nat->Prop}{π:Pi}{g:Gt}{a:Act}{w:World}(R:Rel X D π g a w){b n B s e:Nat}{o:cA}{vs:af}{xs:List Value}(hz:g.z b=some n)(hb:π b=some (B,s,n,e))(hn:o.val+af.size vs<=n)
  (hx:bj (CV.rel π) vs.list xs)(hD:b<X.k->D b):Rel X D π ((Up.c b o vs).hI g) a (w.setCells B (s+o.val) xs):=by
 refine⟨R.tm,R.nt,R.df,R.hp.set hz hb hn hx,R.xt,R.ft,R.fr.setCells ?_⟩;obtain⟨B',s',e',fw,hle,h1,h2⟩:=R.hp.hp b n hz;rw[hb] at fw;cases fw;have hlen:=(jm hx).1;rcases o7 B X.w0.heap.size with hB|hB
 .right
  intro j hj;rcases o7 b X.k with hk|hk
  .exact⟨b,s,n,e,hk,hD hk,(R.xt b hk).symm.trans hb,by omega,by omega⟩
  .exact R.ft b B s n e hk (by simp[hz]) hb hB _ (by omega) (by omega)
 .exact .inl hB
end Go.Ab
namespace Go.Ab
variable [ax]
omit [ax] in
theorem nu (B o j:Nat):(⟨B,o,none⟩:Addr).add j=⟨B,o+j,none⟩:=by
 unfold Addr.add;split<;>simp_all
theorem aML {v:Value}{c:CV}(h:ofC v=some c)(π:Pi):c.rel π v:=by
 unfold ofC at h;split at h<;>first|(cases h;rfl)|cases h
omit [ax] in
theorem aDM (v:CV)(r:af):af.list (.c v::r)=v::r.list:=by
 apply List.ext_getElem?
 intro i;rw[af.afo];cases i with
 |zero=>rw[if_pos (by rw[af.size_cons,Sg.kt];omega)];rfl
 |succ i=>
  rw[List.getElem?_cons_succ,af.afo];by_cases h:i<af.size r
  .rw[if_pos h,if_pos (by rw[af.size_cons,Sg.kt];omega),<-af.ku (l:=r) (j':=i) (by omega) (by omega)]
  .rw[if_neg h,if_neg (by rw[af.size_cons,Sg.kt];omega)]
theorem aHL:∀{vs:List Value} {cs:af},aHC vs=some cs->∀π,bj (CV.rel π) cs.list vs
 | [],cs,h,π=>by simp[aHC] at h;subst h;trivial
 |v::vs,cs,h,π=>by
  simp only[aHC] at h;split at h
  .rename_i c RZ h1 h2
   cases h;rw[aDM];exact⟨aML h1 π,aHL h2 π⟩
  .cases h
theorem aDN {v:Value}{r:RV}(h:ofR v=some r)(π:Pi):r.rel π v:=by
 have key:(ofC v).map RV.c=some r->r.rel π v:=λh=>by
  cases hc:ofC v with
  |none=>rw[hc] at h;cases h
  |some l=>rw[hc] at h;cases h;exact aML hc π
 cases v with
 |agg cs=>
  simp only[ofR] at h;cases hc:aHC cs.toList with
  |none=>rw[hc] at h;cases h
  |some l=>rw[hc] at h;cases h;exact⟨_,rfl,aHL hc π⟩
 |_=>simp only[ofR] at h;exact key h
omit [ax] in
theorem aH.ej {α:Type}{x:Option α}{g:Gt}{a:α}{l:List Fp}(h:aH (ej x) g a l):x=some a:=by
 cases x with
 |none=>cases h
 |some b=>cases h;rfl
omit [ax] in
theorem aH.cI {x:Bool}{g:Gt}{u:Unit}{l:List Fp}(h:aH (cI x) g u l):x=true:=by
 cases h with|test h=>cases x with
  |true=>rfl
  |false=>cases h
omit [ax] in
theorem aH.asR {v:AV}{g:Gt}{a:RV}{l:List Fp}(h:aH (asR v) g a l):v=.r a:=by
 unfold Ab.asR at h;split at h
 .cases h;rfl
 .cases h
omit [ax] in
theorem aH.asC {v:AV}{g:Gt}{a:CV}{l:List Fp}(h:aH (asC v) g a l):v=.r (.c a):=by
 unfold Ab.asC at h;split at h
 .cases h;rfl
 .cases h
omit [ax] in
theorem aH.asI {v:AV}{g:Gt}{a:IntKind×Int}{l:List Fp}(h:aH (asI v) g a l):v=.r (.c (.f (.i a.1 a.2))):=by
 unfold Ab.asI at h;split at h
 .cases h;rfl
 .cases h
omit [ax] in
theorem aH.asB {v:AV}{g:Gt}{a:Bool}{l:List Fp}(h:aH (asB v) g a l):v=.r (.c (.f (.b a))):=by
 unfold Ab.asB at h;split at h
 .cases h;rfl
 .cases h
omit [ax] in
theorem aH.asP {v:AV}{g:Gt}{a:Nat×cA×Nat}{l:List Fp}(h:aH (asP v) g a l):v=.r (.c (.ptr a.1 a.2.1 a.2.2)):=by
 unfold Ab.asP at h;split at h
 .cases h;rfl
 .cases h
section
variable {X:Cx} {D:Nat->Prop} {π:Pi} {g:Gt} {a:Act} {w:World}
theorem aH.DD {x:Operand}{v:AV}{l:List Fp}(h:aH (DD x) g v l)(R:Rel X D π g a w):v.rel π (a.eval x):=by
 cases x with
 |tmp t=>cases h with|tm h=>cases h;exact R.tm t
 |const c=>
  obtain⟨r,⟨_,h1⟩,_,h2⟩:=aH.bind' h;cases h2;exact aDN h1.ej π
 |func f=>cases h;exact⟨#[],rfl,trivial⟩
 |global g=>cases h
theorem aH.vX {x:Operand}{v:RV}{l:List Fp}(h:aH (vX x) g v l)(R:Rel X D π g a w):v.rel π (a.eval x):=by
 obtain⟨r,⟨_,h1⟩,_,h2⟩:=aH.bind' h;have:=h1.DD R;rw[h2.asR] at this;exact this
theorem aH.aMr {x:Operand}{v:RV}{l:List Fp}(h:aH (aMr x) g v l)(R:Rel X D π g a w):v.rel π (a.eval x):=by
 obtain⟨r,⟨_,h1⟩,_,h2⟩:=aH.bind' h;have:=h1.DD R;unfold Ab.asS at h2;split at h2
 .cases h2;exact this
 .cases h2;obtain⟨arr,hx,ha⟩:=this;obtain⟨arr⟩:=arr;match arr,ha with
  | [y],⟨hy,_⟩=>
   obtain⟨B,s,q,e,hb,rfl,hle⟩:=hy;exact⟨B,s,q,e,hb,hx,hle⟩
 .cases h2
theorem aH.Gi {x:Operand}{v:CV}{l:List Fp}(h:aH (Gi x) g v l)(R:Rel X D π g a w):v.rel π (a.eval x):=by
 obtain⟨r,⟨_,h1⟩,_,h2⟩:=aH.bind' h;have:=h1.DD R;rw[h2.asC] at this;exact this
theorem aH.Kf {x:Operand}{v:IntKind×Int}{l:List Fp}(h:aH (Kf x) g v l)(R:Rel X D π g a w):a.eval x=.int v.1 v.2:=by
 obtain⟨r,⟨_,h1⟩,_,h2⟩:=aH.bind' h;have:=h1.DD R;rw[h2.asI] at this;exact this
theorem aH.aHD {x:Operand}{v:Bool}{l:List Fp}(h:aH (aHD x) g v l)(R:Rel X D π g a w):a.eval x=.bool v:=by
 obtain⟨r,⟨_,h1⟩,_,h2⟩:=aH.bind' h;have:=h1.DD R;rw[h2.asB] at this;exact this
theorem aH.aMs {x:Operand}{v:Nat×cA×Nat}{l:List Fp}(h:aH (aMs x) g v l)(R:Rel X D π g a w):∃B s q e,π v.1=some (B,s,q,e)/\a.eval x=.pointer (some ⟨B,s+v.2.1.val,none⟩)/\v.2.1.val+v.2.2<=q:=by
 obtain⟨r,⟨_,h1⟩,_,h2⟩:=aH.bind' h;have:=h1.DD R;rw[h2.asP] at this;exact this
omit [ax] in
theorem aH.tG {α β:Type}{f:α->Rd β}{ρ:β->α->Prop}(hf:∀x v l,aH (f x) g v l->ρ v x):∀{xs:List α} {vs:List β} {l:List Fp},aH (tG f xs) g vs l->bj ρ vs xs
 | [],vs,l,h=>by cases h;trivial
 |x::xs,vs,l,h=>by
  obtain⟨v,⟨_,h1⟩,_,h2⟩:=aH.bind' h;obtain⟨kl,⟨_,h3⟩,_,h4⟩:=aH.bind' h2;cases h4;exact⟨hf x v _ h1,aH.tG hf h3⟩
omit [ax] in
theorem I0 {P:Program}{t:TypeId}{v:Bool}(h:ac3 P t=some v)(w:World):(isAgg t).run P w=.ok v w:=by
 unfold ac3 at h;unfold isAgg;cases hu:P.underlying t with
 |none=>rw[hu] at h;cases h
 |some d=>rw[hu] at h;cases d<;>simp[run_underlying hu]<;>simp_all
omit [ax] in
theorem apL {P:Program}{t:TypeId}{n:Nat}(h:iO P t=some n):∃i,P.info? t=some i/\i.size=n:=by
 unfold iO at h;cases hi:P.info? t with
 |none=>rw[hi] at h;cases h
 |some i=>rw[hi] at h;exact⟨i,rfl,by simpa using h⟩
omit [ax] in
theorem run_typeInfo {P:Program}{t:TypeId}{i:TypeInfo}(h:P.info? t=some i)(w:World):(typeInfo t).run P w=.ok i w:=by simp[typeInfo,h]
omit [ax] in
theorem run_sizeOf {P:Program}{t:TypeId}{n:Nat}(h:iO P t=some n)(w:World):(sizeOf t).run P w=.ok n w:=by
 obtain⟨i,hi,rfl⟩:=apL h;simp[sizeOf,run_typeInfo hi]
theorem ac7 {P:Program}{t:TypeId}{r:RV}(h:At P t=some r)(w:World):∃x,(zeroValue t).run P w=.ok x w/\(∃it:TypeInfo,P.info? t=some it/\it.zero=some x)/\∀π,r.rel π x:=by
 unfold At at h;cases hi:P.info? t with
 |none=>rw[hi] at h;cases h
 |some i=>
  rw[hi] at h;simp only[bN] at h;cases hz:i.zero with
  |none=>rw[hz] at h;cases h
  |some x=>
   rw[hz] at h;simp only[bN] at h;refine⟨x,by simp[zeroValue,run_typeInfo hi,hz],⟨i,rfl,hz⟩,λπ=> ?_⟩;split at h
   .rename_i b hb
    simp only[m6] at h;obtain⟨b',h1,rfl⟩:=h;obtain⟨e1,e2⟩:=akE h1;obtain⟨arr,rfl,hr⟩:=aDN hb π;obtain⟨l1,l2⟩:=jm hr;exact⟨arr,rfl,xP (by rw[l1,e1]) λj hj=>by rw[e2];exact l2 j (by omega)⟩
   .exact aDN h π
omit [ax] in
theorem aJO {P:Program}(ob:Obj)(w:World):(newObj ob).run P w=.ok w.heap.size (w.alloc ob):=rfl
omit [ax] in
theorem K9 {P:Program}(t:TypeId)(cs:Array Value)(w:World):(newRow t cs).run P w=.ok ⟨w.heap.size,0,none⟩ (w.alloc (.cells cs t)):=by
 simp only[newRow,Sem.run_bind,aJO,Result.andThen_ok,Sem.run_pure]
theorem Rel.view (R:Rel X D π g a w){b q n:Nat}{o:cA}{v:af}(hz:g.z b=some q)(hs:af.size v=n)(hv:o.val+n<=q->∀j,j<n->af.get v j=g.c b (o.val+j)){B s q' e:Nat}(hb:π b=some (B,s,q',e))(hn:o.val+n<=q'):
  q'=q/\∃xs:List Value,xs.length=n/\bj (CV.rel π) v.list xs/\∀j x,xs[j]? =some x->cl w B (s+o.val+j)=some x:=by
 obtain⟨B',s',e',fw,hle,_,h2⟩:=R.hp.hp b q hz;rw[hb] at fw;cases fw;have hv:=hv hn
 have cell:∀j,j<n->∃x,cl w B (s+o.val+j)=some x/\(af.get v j).rel π x:=λj hj=>by
  obtain⟨x,hx,hr⟩:=h2 (o.val+j) (by omega);rw[<-hv j hj] at hr;exact⟨x,by rw[show s+o.val+j=s+(o.val+j) by omega];exact hx,hr⟩
 refine⟨rfl,(List.range n).map λj=>(cl w B (s+o.val+j)).getD undef,by simp,xP (by simp[hs]) λj hj=> ?_,λj x hx=> ?_⟩
 .obtain⟨x,hx,hr⟩:=cell j (by omega);refine⟨x,?_,hr⟩;rw[BA,List.getElem?_range (by omega)];simp[hx]
 .have hjn:j<n:=by
   have:=(lX.1 hx).1;simpa using this
  obtain⟨u,hu,_⟩:=cell j hjn;simp[hjn,hu] at hx
  rw[hu,hx]
omit [ax] in
theorem Zf {P:Program}{w:World}{B o:Nat}{xs:List Value}(h:∀j v,xs[j]? =some v->cl w B (o+j)=some v):(loadCells ⟨B,o,none⟩ xs.length).run P w=.ok xs.toArray w:=
 run_loadCells_list w _ xs λj v hj=>by rw[nu];exact h j v hj
omit [ax] in
theorem aH.asc {b:af}{v:RV}{l:List Fp}(h:aH (asc b) g v l):∃c,b=[.c c]/\v=.c c:=by
 unfold Ab.asc at h;split at h
 .cases h;exact⟨_,rfl,rfl⟩
 .cases h
theorem aH.Y' {P:Program}(R:Rel X D π g a w){t:TypeId}{b m:Nat}{o:cA}{v:RV}{l:List Fp}(h:aH (Y' P t b o m) g v l){B s q' e:Nat}(hb:π b=some (B,s,q',e))(hm:o.val+m<=q'):
  ∃x,(loadVar t ⟨B,s+o.val,none⟩).run P w=.ok x w/\v.rel π x:=by
 obtain⟨ag,⟨_,h1⟩,_,h⟩:=aH.bind' h;obtain⟨n,⟨_,h2⟩,_,h⟩:=aH.bind' h;have h1:=h1.ej;have h2:=h2.ej;cases ag with
 |true=>
  obtain⟨_,⟨_,h3⟩,_,h⟩:=aH.bind' h;have h3:=fA.1 h3.cI;cases h with|vw q u hz hs hv h=>
  cases h;simp only[Sz.val,Uo] at hs hv;obtain⟨_,xs,hl,hx,hc⟩:=R.view hz hs hv hb (by omega);refine⟨.agg xs.toArray,?_,⟨_,rfl,hx⟩⟩;have:=Zf (P:=P) hc;rw[hl] at this;simp[loadVar,I0 h1,run_sizeOf h2,this]
 |false=>
  obtain⟨_,⟨_,h3⟩,_,h⟩:=aH.bind' h;have h3:=fA.1 h3.cI;cases h with|vw q u hz hs hv h=>
  simp only[Sz.val,Uo] at hs hv;obtain⟨_,xs,hl,hx,hc⟩:=R.view hz hs hv hb (by omega);obtain⟨c,rfl,rfl⟩:=h.asc;rw[aSO] at hx
  obtain⟨x,rfl⟩:∃x,xs=[x]:=by
   match xs,hl with
   | [x],_=>exact⟨x,rfl⟩
  have hcx:=hc 0 x rfl;simp only[km] at hcx;refine⟨x,?_,hx.1⟩;simp only[cl] at hcx;simp[loadVar,I0 h1,hcx]
omit [ax] in
theorem aH.aDo {b v:af}{o:cA}{cB:Sz}{z:Nat}{l:List Fp}(h:aH (aDo b o cB z) g v l):b.sub o cB z=some (true,v):=by
 unfold Ab.aDo at h;split at h
 .rename_i p hp
  cases h with|test h=>
  obtain⟨gg,u⟩:=p;cases gg with
  |true=>cases h;exact hp
  |false=>cases h
 .cases h
theorem aH.aJE {P:Program}{t:TypeId}{cs:af}{o:cA}{v:RV}{l:List Fp}(h:aH (aJE P t cs o) g v l){n:Nat}(hn:iO P t=some n)(hn1:1<=n)(hle:o.val+n<=af.size cs){xs:Array Value}(hx:bj (CV.rel π) cs.list xs.toList)(w:World):
  ∃x,(part t xs o.val).run P w=.ok x w/\v.rel π x:=by
 obtain⟨ag,⟨_,h1⟩,_,h⟩:=aH.bind' h;obtain⟨n',⟨_,h2⟩,_,h⟩:=aH.bind' h;have h1:=h1.ej;have h2:=h2.ej;rw[hn] at h2;cases h2;obtain⟨l1,l2⟩:=jm hx;cases ag with
 |true=>
  obtain⟨u,⟨_,h3⟩,_,h⟩:=aH.bind' h;cases h;obtain⟨e1,e2⟩:=af.axg h3.aDo;simp only[Sz.val,Uo] at e1 e2;have e2:=e2 hle;refine⟨.agg (xs.extract o.val (o.val+n)),by simp[part,I0 h1,run_sizeOf hn],⟨_,rfl,?_⟩⟩
  have:(xs.extract o.val (o.val+n)).toList=(xs.toList.drop o.val).take n:=by
   rw[Array.toList_extract];simp[List.extract]
  rw[this];refine xP (by rw[List.length_take,ar8,l1];omega) λj hj=> ?_;obtain⟨x,hx1,hx2⟩:=l2 (o.val+j) (by omega);refine⟨x,by rw[aaQ,if_pos (by omega),RW];exact hx1,?_⟩;rw[e2 j (by omega)];exact hx2
 |false=>
  obtain⟨u,⟨_,h3⟩,_,h⟩:=aH.bind' h;obtain⟨c,rfl,rfl⟩:=h.asc;obtain⟨_,e2⟩:=af.axg h3.aDo;have e2:=e2 (by simp only[Sz.val];omega) 0 (by simp[Sz.val]);obtain⟨x,hx1,hx2⟩:=l2 o.val (by omega);refine⟨x,?_,?_⟩
  .have:xs[o.val]? =some x:=by simpa using hx1
   simp[part,I0 h1,this]
  .rw[km] at e2;rw[<-e2] at hx2;exact hx2
theorem a0Q {n:Nat}{q:Nat->Bool}{x:Value}(h:(CV.f (.q n q)).rel π x):(CV.fs n 1 [.b q]).rel π x:=by
 refine⟨rfl,?_⟩;rcases h with h| ⟨B,s,cap,h1,h2,h3⟩
 .exact .inl h
 .refine .inr ⟨B,s,cap,h1,h2,λj hj=>⟨.b (q j),.bool (q j),?_,h3 j (by omega),rfl⟩⟩;simp[iP,Nat.mod_one,cP.at]
omit [ax] in
theorem aH.a0R {P:Program}{t:TypeId}{c c':CV}{l:List Fp}(h:aH (aHE P t c) g c' l):c'=c∨∃n q,c=.f (.q n q)/\c'=.fs n 1 [.b q]:=by
 unfold Ab.aHE at h;generalize P.underlying t=u at h
 split at h
 .cases h with|@test x _ _ _ _ h=>
  cases hx:FV.isB _<;>rw[hx] at h<;>cases h
  rename_i x;cases x<;>first|exact .inl rfl|cases hx
 .cases h with|@test x _ _ _ _ h=>
  cases hx:FV.isI _ _<;>rw[hx] at h<;>cases h
  rename_i k x;cases x<;>first|(cases hx;done)|skip
  simp only[FV.isI,lY] at hx;subst hx;exact .inl rfl
 .cases h with|@test x _ _ _ _ h=>
  cases hx:FV.isS _<;>rw[hx] at h<;>cases h
  rename_i x;cases x<;>first|exact .inl rfl|cases hx
 .cases h;exact .inr ⟨_,_,rfl,rfl⟩
 .cases h;exact .inl rfl
theorem aH.aHE {P:Program}{t:TypeId}{c c':CV}{l:List Fp}(h:aH (aHE P t c) g c' l){x:Value}(hx:c.rel π x):c'.rel π x:=by
 rcases h.a0R with rfl| ⟨n,q,rfl,rfl⟩
 .exact hx
 .exact a0Q hx
theorem aH.apF {P:Program}{t:TypeId}{c c':RV}{l:List Fp}(h:aH (apF P t c) g c' l){π:Pi}{x:Value}(hx:c.rel π x):c'.rel π x:=by
 cases c with
 |c c=>
  obtain⟨v,⟨_,h1⟩,_,h⟩:=aH.bind' h;cases h;exact h1.aHE hx
 |agg cs=>
  cases h;obtain⟨xs,rfl,hx⟩:=hx;obtain⟨l1,l2⟩:=jm hx;obtain⟨n1,n2⟩:=aQr P t cs;refine⟨xs,rfl,xP (by rw[l1,n1]) λj hj=> ?_⟩;rw[n1] at hj;rw[n2 j hj];exact l2 j hj
theorem aH.valueOf {P:Program}(R:Rel X D π g a w){t:TypeId}{b m:Nat}{o:cA}{v:RV}{l:List Fp}(h:aH (valueOf P t b o m) g v l){B s q' e:Nat}(hb:π b=some (B,s,q',e))(hm:o.val+m<=q'):
  ∃x,(loadVar t ⟨B,s+o.val,none⟩).run P w=.ok x w/\v.rel π x:=by
 obtain⟨u,⟨_,h1⟩,_,h⟩:=aH.bind' h;obtain⟨x,hx,hr⟩:=aH.Y' R h1 hb hm;exact⟨x,hx,h.apF hr⟩
theorem aH.partOf {P:Program}{t:TypeId}{cs:af}{o:cA}{v:RV}{l:List Fp}(h:aH (partOf P t cs o) g v l){n:Nat}(hn:iO P t=some n)(hn1:1<=n)(hle:o.val+n<=af.size cs){xs:Array Value}(hx:bj (CV.rel π) cs.list xs.toList)(w:World):
  ∃x,(part t xs o.val).run P w=.ok x w/\v.rel π x:=by
 obtain⟨u,⟨_,h1⟩,_,h⟩:=aH.bind' h;obtain⟨x,hx1,hr⟩:=aH.aJE h1 hn hn1 hle hx w;exact⟨x,hx1,h.apF hr⟩
theorem aH.NP {P:Program}{t:TypeId}{cs:af}{c:Nat}{v:RV}{l:List Fp}(h:aH (NP P t cs c) g v l){xs:Array Value}(hx:bj (CV.rel π) cs.list xs.toList)(w:World):
  ∃x,(part t xs c).run P w=.ok x w/\v.rel π x:=by
 obtain⟨n,⟨_,h1⟩,_,h⟩:=aH.bind' h;obtain⟨_,⟨_,h2⟩,_,h⟩:=aH.bind' h;have h2:=h2.cI;simp only[cy,fA] at h2;exact h.partOf h1.ej h2.1 h2.2 hx w
end
def cB (us:List Up):Nat:=(us.filter λ|.new _ _=>true|_=>false).length
def Up.perm (k:Nat)(D:Nat->Prop):Up->Prop
 |.c b _ _|.kill b=>b<k->D b
 |_=>True
def Ad (P:Program)(o:Oper)(X:Cx)(D:Nat->Prop)(aI:Nat)(us:List Up)(g:Gt):Prop:=
 ∀π a w (next:Act->World->Prop) (Q:Exit->Act->World->Prop),Rel X D π g a w->X.k<=aI->(∀b,aI<=b->b<aI+cB us->π b=none)->(∀d,o.dst=some d->d<X.N)->(∀u∈us,u.perm X.k D)->
  (∀a' w' π',Ext π π'->(∀b,π' b≠none->π b≠none∨(aI<=b/\b<aI+cB us))->Rel X D π' (cE us g) a' w'->next a' w')->o.wp P a w next Q
section
variable {P:Program} {o:Oper} {X:Cx} {D:Nat->Prop} {aI:Nat} {us:List Up} {g:Gt}
omit [ax] in
theorem PG {a:Act}{w w':World}{x:Value}{next:Act->World->Prop}{Q:Exit->Act->World->Prop}(h:(execOp a.eval o).run P w=.ok (.value x) w')(hn:next (a.put o.dst x) w'):o.wp P a w next Q:=by
 unfold Oper.wp;rw[h];exact hn
omit [ax] in
theorem aYX {a:Act}{w w':World}{next:Act->World->Prop}{Q:Exit->Act->World->Prop}(h:(execOp a.eval o).run P w=.ok .skip w')(hn:next (a.put o.dst undef) w'):o.wp P a w next Q:=by
 unfold Oper.wp;rw[h];exact hn
theorem iH {v:AV}(h:∀π a w,Rel X D π g a w->∃x,(execOp a.eval o).run P w=.ok (.value x) w/\v.rel π x):Ad P o X D aI (dV o.dst v) g:=by
 intro π a w next Q R hk hf hd hD hn;obtain⟨x,h1,h2⟩:=h π a w R;exact PG h1 (hn _ _ π (Ext.refl _) (λb h=>.inl h) (R.dst hd h2))
theorem asi (π:Pi):udf.rel π undef:=⟨#[],rfl,trivial⟩
theorem aDO {x:Operand}{fp:List Fp}(ho:o.op=.move x∨o.op=.assign x)(h:aH ((DD x).bind λv=>.ret (dV o.dst v)) g us fp):Ad P o X D aI us g:=by
 obtain⟨v,⟨_,h1⟩,_,h2⟩:=aH.bind' h;cases h2;refine iH λπ a w R=>⟨a.eval x,?_,h1.DD R⟩
 rcases ho with ho|ho<;>simp[execOp,ho]
theorem aQw {c x y:Operand}{fp:List Fp}(ho:o.op=.pick c x y)(h:aH ((aHD c).bind λz=>.test z λ|true=>(DD x).bind λv=>.ret (dV o.dst v)|false=>(DD y).bind λv=>.ret (dV o.dst v)) g us fp):Ad P o X D aI us g:=by
 obtain⟨z,⟨_,h1⟩,_,h2⟩:=aH.bind' h;cases h2 with|test h2=>
 cases z with
 |true=>
  obtain⟨v,⟨_,h3⟩,_,h4⟩:=aH.bind' h2;cases h4;refine iH λπ a w R=>⟨a.eval x,?_,h3.DD R⟩
  simp[execOp,ho,h1.aHD R,asBool]
 |false=>
  obtain⟨v,⟨_,h3⟩,_,h4⟩:=aH.bind' h2;cases h4;refine iH λπ a w R=>⟨a.eval y,?_,h3.DD R⟩
  simp[execOp,ho,h1.aHD R,asBool]
theorem Zg:∀(ks:List (Option (Nat×List CK))) (b:af) (aI:Nat),af.size (R4 ks b aI).1=af.size b/\(∀e∈(R4 ks b aI).2,af.size e=0)/\
  ∀π:Pi,(∀i,i<(R4 ks b aI).2.length->π (aI+i)=some (0,0,0,0))->∀j,j<af.size b->∀v,(af.get b j).rel π v->(af.get (R4 ks b aI).1 j).rel π v
 |_,[],_=>⟨rfl,λe h=>by simp[R4] at h,λ_ _ _ _ _ h=>h⟩
 |ks,.a n cols::r,b=>by
  obtain⟨h1,h2,h3⟩:=Zg (ks.drop (n.val*cols.length)) r b;refine⟨by rw[R4,af.size_cons,af.size_cons,h1],h2,λπ hp j hj v hv=> ?_⟩;rw[af.size_cons] at hj;rw[R4];by_cases lZ:j<(Sg.a n cols).size
  .rw[af.dR lZ] at hv ⊢;exact hv
  .rw[af.lx (by omega)] at hv ⊢;exact h3 π hp _ (by omega) v hv
 |ks,.c v::r,b=>by
  unfold R4;split
  .rename_i z k ks
   obtain⟨h1,h2,h3⟩:=Zg ks r (b+1);refine⟨by rw[af.size_cons,af.size_cons,h1];rfl,λe he=> ?_,λπ hp j hj v hv=> ?_⟩
   .rcases aaT.1 he with rfl|he
    .simp[af.size,Sg.size,Sz.val]
    .exact h2 e he
   .rw[af.size_cons,Sg.kt] at hj;cases j with
    |zero=>
     have hv:v=.slice none 0 0:=hv;subst hv;exact⟨0,0,0,0,by simpa using hp 0 (by simp),by simp[cA.val,Sz.val],λ_=>by simp[cA.val,Sz.val],.inl ⟨rfl,none,rfl⟩⟩
    |succ j=>
     rw[af.lx (by rw[Sg.kt];omega)] at hv ⊢;exact h3 π (λi hi=>by have:=hp (i+1) (by simpa using hi);rwa [show b+1+i=b+(i+1) by omega]) _ (by rw[Sg.kt];omega) v hv
  .obtain⟨h1,h2,h3⟩:=Zg (ks.drop 1) r b;refine⟨by rw[af.size_cons,af.size_cons,h1],h2,λπ hp j hj v hv=> ?_⟩;rw[af.size_cons,Sg.kt] at hj;cases j with
   |zero=>exact hv
   |succ j=>
    rw[af.lx (by rw[Sg.kt];omega)] at hv ⊢;exact h3 π hp _ (by rw[Sg.kt];omega) v hv
theorem aue (P:Program)(t:TypeId)(b:af)(aI:Nat):af.size (iX P t b aI).1=af.size b/\(∀e∈(iX P t b aI).2,af.size e=0)/\
  ∀π:Pi,(∀i,i<(iX P t b aI).2.length->π (aI+i)=some (0,0,0,0))->∀xs,bj (CV.rel π) b.list xs->bj (CV.rel π) (af.list (iX P t b aI).1) xs:=by
 unfold iX;split
 .obtain⟨h1,h2,h3⟩:=Zg (aJH P 30 t) b aI;refine⟨h1,h2,λπ hp xs hx=> ?_⟩;obtain⟨l1,l2⟩:=jm hx;refine xP (by rw[h1,l1]) λj hj=> ?_;rw[h1] at hj;obtain⟨x,hx1,hx2⟩:=l2 j hj;exact⟨x,hx1,h3 π hp j hj x hx2⟩
 .exact⟨rfl,λe he=>by simp at he,λ_ _ _ h=>h⟩
omit [ax] in
theorem aHM (us vs:List Up):cB (us++vs)=cB us+cB vs:=by simp[cB]
omit [ax] in
theorem asj:∀(es:List af) (aI:Nat),cB (BD es aI)=es.length
 | [],_=>rfl
 |e::es,aI=>by
  have:=asj es (aI+1);unfold cB at this ⊢;simp only[BD,List.filter_cons,lT,KZ,this]
omit [ax] in
theorem aDP (us vs:List Up)(g:Gt):cE (us++vs) g=cE vs (cE us g):=by simp[cE]
theorem Rel.aDQ {a:Act}{w:World}:∀{es:List af} {aI:Nat} {π:Pi} {g:Gt},(∀e∈es,af.size e=0)->Rel X D π g a w->X.k<=aI->(∀b,aI<=b->b<aI+es.length->π b=none)->
  ∃π',Ext π π'/\(∀b,π' b≠none->π b≠none∨(aI<=b/\b<aI+es.length))/\(∀i,i<es.length->π' (aI+i)=some (0,0,0,0))/\Rel X D π' (cE (BD es aI) g) a w
 | [],aI,π,g,_,R,_,_=>⟨π,Ext.refl _,λ_ h=>.inl h,λi hi=>by simp at hi,R⟩
 |e::es,aI,π,g,he,R,hk,hf=>by
  have h0:=hf aI (eO _) (by simp);have he0:=he e (by simp);have hx0:=Ax h0 (0,0,af.size e,0)
  have R1:=(R.K8 hx0 (λb hb=>by simp only[Ai];rw[if_neg (by omega)])).new (k:=e) (pI π aI (0,0,af.size e,0)) hk (by omega) (λi _ i2=>by omega) (λj hj=>by omega)
    (λ_ _ _ _ _ _ _ _ _ i2=>by omega) (λ_ _ _ i2=>by omega)
  obtain⟨π',e1,e2,e3,R2⟩:=Rel.aDQ (es:=es) (aI:=aI+1) (λe h=>he e (by simp[h])) R1 (by omega) (λb h1 h2=>by
   simp only[Ai];rw[if_neg (by omega)];exact hf b (by omega) (by simp only[KZ];omega))
  refine⟨π',hx0.trans e1,λb hb=> ?_,λi hi=> ?_,R2⟩
  .rcases e2 b hb with h|h
   .simp only[Ai] at h;by_cases eb:b=aI
    .right;simp only[KZ];omega
    .rw[if_neg eb] at h;exact .inl h
   .right;simp only[KZ];omega
  .cases i with
   |zero=>
    have:=e1 aI _ (pI π aI (0,0,af.size e,0));rw[he0] at this;simpa using this
   |succ i=>
    have:=e3 i (by simpa using hi);rwa [show aI+1+i=aI+(i+1) by omega] at this
theorem aDR {v:RV}{t:TypeId}(h:∀π a w,Rel X D π g a w->∃x,v.rel π x/\(execOp a.eval o).run P w=.ok (.value (.pointer (some ⟨w.heap.size,0,none⟩))) (w.alloc (.cells x.cells t))):
  Ad P o X D aI (BD (iX P t v.bO aI).2 aI++at1 o.dst (aI+(iX P t v.bO aI).2.length) (af.size (iX P t v.bO aI).1) (iX P t v.bO aI).1) g:=by
 obtain⟨n1,n2,n3⟩:=aue P t v.bO aI;generalize (iX P t v.bO aI).1=k at n1 n2 n3
 generalize (iX P t v.bO aI).2=es at n1 n2 n3
 intro π a w next Q R hk hf hd hD hn;obtain⟨x,hx,h1⟩:=h π a w R
 have hcn:cB (BD es aI++at1 o.dst (aI+es.length) (af.size k) k)=es.length+1:=by
  rw[aHM,asj];unfold at1 dV cB;cases o.dst<;>rfl
 rw[hcn] at hf hn;obtain⟨π1,e1,e2,e3,R1⟩:=R.aDQ n2 hk (λb h1 h2=>hf b h1 (by omega));obtain⟨hl,hc⟩:=jm (n3 π1 e3 _ (RV.NT (RV.dK e1 _ _ hx)));have hl':x.cells.size=af.size k:=by simpa using hl
 have h0:π1 (aI+es.length)=none:=by
  cases hh:π1 (aI+es.length) with
  |none=>rfl
  |some p=>
   rcases e2 (aI+es.length) (by rw[hh];simp) with h|h
   .exact absurd (hf _ (by omega) (by omega)) h
   .omega
 have R2:=R1.alloc (k:=k) (cs:=x.cells) (t:=t) (e:=x.cells.size) h0 (by omega) (by omega) (eO _) (λj hj=>by
  obtain⟨y,hy,hr⟩:=hc j hj;exact⟨y,by simpa using hy,hr⟩)
 refine PG h1 (hn _ _ (Ai π1 (aI+es.length) (w.heap.size,0,af.size k,x.cells.size)) (e1.trans (Ax h0 _)) (λb hb=> ?_) ?_)
 .simp only[Ai] at hb;by_cases e:b=aI+es.length
  .subst e;exact .inr ⟨by omega,by omega⟩
  .simp only[e,gA] at hb;rcases e2 b hb with h|h
   .exact .inl h
   .exact .inr ⟨h.1,by omega⟩
 .have R3:=R2.dst hd (v:=.r (.c (.ptr (aI+es.length) (.k 0) (af.size k)))) (x:=.pointer (some ⟨w.heap.size,0,none⟩)) ⟨_,_,_,_,pI _ _ _,rfl,by simp[cA.val]⟩
  have e:cE (BD es aI++at1 o.dst (aI+es.length) (af.size k) k) g=cE (dV o.dst (.r (.c (.ptr (aI+es.length) (.k 0) (af.size k))))) ((Up.new (aI+es.length) k).hI (cE (BD es aI) g)):=by
   rw[aDP];unfold at1 dV;cases o.dst<;>rfl
  rw[e];exact R3
theorem aMM {e:TypeId}{fp:List Fp}(ho:o.op=.alloc e)(h:aH ((Ab.ej (At P e)).bind λz=>.ret (BD (iX P e z.bO aI).2 aI++at1 o.dst (aI+(iX P e z.bO aI).2.length) (af.size (iX P e z.bO aI).1) (iX P e z.bO aI).1)) g us fp):Ad P o X D aI us g:=by
 obtain⟨z,⟨_,h1⟩,_,h2⟩:=aH.bind' h;cases h2;refine aDR (t:=e) λπ a w R=> ?_;obtain⟨x,hx,_,hr⟩:=ac7 h1.ej w;refine⟨x,hr π,?_⟩;simp[execOp,ho,Instr.alloc,hx,newVar,K9]
theorem aSR {t:TypeId}{x:Operand}{fp:List Fp}(ho:o.op=.box t x)(h:aH ((vX x).bind λv=>.ret (BD (iX P t v.bO aI).2 aI++at1 o.dst (aI+(iX P t v.bO aI).2.length) (af.size (iX P t v.bO aI).1) (iX P t v.bO aI).1)) g us fp):Ad P o X D aI us g:=by
 obtain⟨z,⟨_,h1⟩,_,h2⟩:=aH.bind' h;cases h2;refine aDR (t:=t) λπ a w R=>⟨_,h1.vX R,?_⟩
 simp[execOp,ho,Instr.box,newVar,K9]
theorem aSS {π:Pi}{a:Act}{w:World}(R:Rel X D π g a w){l:List FV}{B s:Nat}(h:∀j f,l[j]? =some f->∃v,ax.fs B (s+j)=some v/\f.rel v):∃xs:List Value,xs.length=l.length/\bj (CV.rel π) (af.list (aDq l)) xs/\∀j v,xs[j]? =some v->cl w B (s+j)=some v:=by
 have cell:∀j f,l[j]? =some f->∃v,cl w B (s+j)=some v/\f.rel v:=λj f hj=>by
  obtain⟨v,h1,h2⟩:=h j f hj;exact⟨v,(R.hp.am.st _ _ _ h1).2,h2⟩
 have yb:af.size (aDq l)=l.length:=(Vp (λv:FV=>CV.f v) l 0).1;refine⟨(List.range l.length).map λj=>(cl w B (s+j)).getD undef,by simp,xP (by simp[yb]) λj hj=> ?_,λj v hv=> ?_⟩
 .rw[yb] at hj;obtain⟨v,hv,hr⟩:=cell j _ (kE hj);refine⟨v,?_,?_⟩
  .rw[BA,List.getElem?_range hj];simp[hv]
  .rw[show aDq l=l.map λv=>Sg.c (.f v) from rfl,(Vp (λv:FV=>CV.f v) l j).2 _ (kE hj)];exact hr
 .have hjn:j<l.length:=by
   have:=(lX.1 hv).1;simpa using this
  obtain⟨u,hu,_⟩:=cell j _ (kE hjn);simp[hjn,hu] at hv
  rw[hu,hv]
theorem aH.aDr {P:Program}{π:Pi}{a:Act}{w:World}(R:Rel X D π g a w){t:TypeId}{fl:List FV}{v:RV}{l:List Fp}(h:aH (aDr P t fl) g v l){x:Value}(hx:(CV.fp fl).rel π x):
  ∃B s y,x=.pointer (some ⟨B,s,none⟩)/\(loadVar t ⟨B,s,none⟩).run P w=.ok y w/\v.rel π y:=by
 obtain⟨B,s,rfl,hc⟩:=hx;obtain⟨xs,hl,hx,DE⟩:=aSS R hc;obtain⟨ag,⟨_,h1⟩,_,h⟩:=aH.bind' h;obtain⟨n,⟨_,h2⟩,_,h⟩:=aH.bind' h;have h1:=h1.ej;have h2:=h2.ej;cases ag with
 |true=>
  obtain⟨_,⟨_,h3⟩,_,h⟩:=aH.bind' h;have h3:=beq_iff.1 h3.cI;refine⟨B,s,.agg xs.toArray,rfl,?_,h.apF ⟨_,rfl,hx⟩⟩;have:=Zf (P:=P) DE;rw[hl,<-h3] at this;simp[loadVar,I0 h1,run_sizeOf h2,this]
 |false=>
  cases fl with
  |nil=>cases h
  |cons f fl=>
   match xs,hl with
   |x::xs,_=>
    have hcx:=DE 0 x rfl;simp only[km] at hcx;refine⟨B,s,x,rfl,?_,?_⟩
    .simp only[cl] at hcx;simp[loadVar,I0 h1,hcx]
    .have:=(jm hx).2 0 (by rw[show aDq (f::fl)=(f::fl).map λv=>Sg.c (.f v) from rfl,(Vp (λv:FV=>CV.f v) (f::fl) 0).1];simp);obtain⟨y,hy,hr⟩:=this;cases hy;exact aH.apF (c:=.c (.f f)) h hr
theorem aQx {t:TypeId}{x:Operand}{fp:List Fp}(ho:o.op=.load t x)(h:aH ((Gi x).bind λ
  |.ptr b q n=>(valueOf P t b q n).bind λv=>.ret (dV o.dst (.r v))
  |.fp l=>(aDr P t l).bind λv=>.ret (dV o.dst (.r v))
  |_=>.fail) g us fp):Ad P o X D aI us g:=by
 obtain⟨p,⟨_,h1⟩,_,h2⟩:=aH.bind' h;split at h2
 .obtain⟨v,⟨_,h3⟩,_,h4⟩:=aH.bind' h2;cases h4;refine iH λπ a w R=> ?_;obtain⟨B,s,q,e,hb,ha,hm⟩:=h1.Gi R;obtain⟨y,hy,hr⟩:=aH.valueOf R h3 hb hm;refine⟨y,?_,hr⟩;simp[execOp,ho,Instr.loadAt,ha,Instr.sureAddr,hy]
 .obtain⟨v,⟨_,h3⟩,_,h4⟩:=aH.bind' h2;cases h4;refine iH λπ a w R=> ?_;obtain⟨B,s,y,ha,hy,hr⟩:=aH.aDr R h3 (h1.Gi R);refine⟨y,?_,hr⟩;simp[execOp,ho,Instr.loadAt,ha,Instr.sureAddr,hy]
 .cases h2
end
end Go.Ab
