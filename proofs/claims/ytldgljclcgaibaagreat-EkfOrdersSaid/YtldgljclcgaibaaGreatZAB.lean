/-
  Parts of the proof: AbA AbS AbM AbO
-/
import Derived.Test.YtldgljclcgaibaaGreatZAA
import Derived.Laws.IdiomCopy
import Derived.Laws.Cells
import Derived.Laws.Entries
set_option linter.all false
namespace Go.Ab
theorem cQ.aTV (c:cQ)(d j:Nat):(c.shift d).at j=c.at (d+j):=by cases c<;>rfl
theorem cQ.a1M (c:cQ)(d j:Nat):(c.up d).at j=c.at (j-d):=by cases c<;>rfl
theorem beq_iff {a b:Nat}:Nat.beq a b=true↔a=b:=⟨mO,λh=>h▸SO a⟩
theorem beq_false {a b:Nat}(h:a≠b):Nat.beq a b=false:=by
 rw[Bool.eq_false_iff];exact λe=>h (beq_iff.1 e)
theorem rZ {a b:Nat}:Nat.blt a b=true↔a<b:=by simp[Nat.blt];omega
theorem Wm {a b:Nat}(h:¬a<b):Nat.blt a b=false:=by
 rw[Bool.eq_false_iff];exact λe=>h (rZ.1 e)
theorem fa {a b:Nat}:Nat.ble a b=true↔a<=b:=by rw[Nat.ble_eq]
theorem ayq {α:Type}(j e:Nat)(x y:α):(cond (Nat.beq j e) x y)=if j=e then x else y:=by
 by_cases h:j=e
 .rw[if_pos h,beq_iff.2 h];rfl
 .rw[if_neg h,beq_false h];rfl
theorem cQ.aXP {c c':cQ}{e:Nat}{v:CV}(h:c.aST e v=some c'):∀j,CV.f (c'.at j)=if j=e then v else .f (c.at j):=by
 intro j;unfold cQ.aST at h;split at h
 .split at h
  .cases h;rename_i hk
   subst hk;simp only[cQ.at,ayq];split<;>rfl
  .cases h
 .cases h;simp only[cQ.at,ayq];split<;>rfl
 .cases h;simp only[cQ.at,ayq];split<;>rfl
 .cases h
theorem cQ.aZS {p:Nat->Bool}{c d e:cQ}(h:cQ.mrg p c d=some e):∀j,e.at j=if p j=true then c.at j else d.at j:=by
 intro j;unfold cQ.mrg at h;split at h
 .split at h
  .cases h;rename_i hk
   subst hk;simp only[cQ.at];cases p j<;>rfl
  .cases h
 .cases h;simp only[cQ.at];cases p j<;>rfl
 .cases h;simp only[cQ.at];cases p j<;>rfl
 .cases h
def iI (cols:List cQ)(j:Nat):CV:=match cols[j%cols.length]? with
 |some q=>.f (q.at (j/cols.length))
 |none=>.f .u
theorem Sg.oL (n:Sz)(cols:List cQ)(j:Nat):(Sg.a n cols).get j=iI cols j:=rfl
theorem agy {p:Nat->Bool}:∀{cs ds es:List cQ},auY p cs ds=some es->es.length=cs.length/\ds.length=cs.length/\
  ∀(i:Nat) c d,cs[i]? =some c->ds[i]? =some d->∃e,es[i]? =some e/\∀j,e.at j=if p j=true then c.at j else d.at j
 | [],[],es,h=>by
  simp only[auY,gS] at h;subst h;exact⟨rfl,rfl,λi c d hc=>by simp at hc⟩
 |c::cs,d::ds,es,h=>by
  simp only[auY] at h;split at h
  .rename_i e es' h1 h2
   cases h;obtain⟨a1,a2,a3⟩:=agy h2;refine⟨by simp[a1],by simp[a2],λi c' d' hc hd=> ?_⟩;cases i with
   |zero=>
    simp only[aEs,gS] at hc hd;subst hc hd;exact⟨e,rfl,cQ.aZS h1⟩
   |succ i=>exact a3 i c' d' (by simpa using hc) (by simpa using hd)
  .cases h
 | [],_::_,_,h=>by simp[auY] at h
 |_::_,[],_,h=>by simp[auY] at h
theorem aEJ {p:Nat->Bool}{cs ds es:List cQ}(h:auY p cs ds=some es)(j:Nat):iI es j=if p (j/cs.length)=true then iI cs j else iI ds j:=by
 obtain⟨a1,a2,a3⟩:=agy h;unfold iI;rw[a1,a2];by_cases hl:j%cs.length<cs.length
 .have hc:cs[j%cs.length]? =some (cs[j%cs.length]'hl):=j7 _;have hd:ds[j%cs.length]? =some (ds[j%cs.length]'(by omega)):=j7 _;obtain⟨e,he,ha⟩:=a3 _ _ _ hc hd;rw[he,hc,hd];simp only[ha];split<;>rfl
 .rw[DS (by omega),DS (by omega),DS (by omega)];exact(ite_self _).symm
theorem aAh (cols:List cQ)(e j:Nat):iI (cols.map (cQ.shift e)) j=iI cols (e*cols.length+j):=by
 unfold iI;rw[yX,Af,ab1,atd];by_cases hl:cols.length=0
 .have:cols=[]:=aKz.1 hl;subst this;rfl
 .rw[Nat.mul_add_div (by omega)];cases cols[j%cols.length]? with
  |none=>rfl
  |some q=>simp only[Lt,cQ.aTV]
theorem aM9 (cols:List cQ)(d j:Nat)(h:d*cols.length<=j):iI (cols.map (cQ.up d)) j=iI cols (j-d*cols.length):=by
 unfold iI;rw[yX,Af];by_cases hl:cols.length=0
 .have:cols=[]:=aKz.1 hl;subst this;rfl
 .obtain⟨m,rfl⟩:∃m,j=cols.length*d+m:=⟨j-cols.length*d,by rw[ab1] at h;omega⟩;rw[atd,Nat.mul_add_div (by omega),ab1 d,Nat.add_sub_cancel_left];cases cols[m%cols.length]? with
  |none=>rfl
  |some q=>simp only[Lt,cQ.a1M,Nat.add_sub_cancel_left]
theorem af.dJ {s:Sg}{l:af}{j:Nat}(h:j<s.size):af.get (s::l) j=s.get j:=by simp[af.get,h]
theorem af.kj {s:Sg}{l:af}{j:Nat}(h:s.size<=j):af.get (s::l) j=af.get l (j-s.size):=by
 rw[af.get,if_neg (by omega)]
theorem af.qu {n:Nat}{cols:List cQ}{l:af}{j j':Nat}(h:n*cols.length<=j)(e:j'=j-n*cols.length):af.get l j'=af.get (.a (.l n) cols::l) j:=by
 rw[af.kj (s:=.a (.l n) cols) h,e];rfl
theorem af.jS {v:CV}{l:af}{j j':Nat}(h:1<=j)(e:j'=j-1):af.get l j'=af.get (.c v::l) j:=by
 rw[af.kj (s:=.c v) h,e];rfl
theorem af.size_cons (s:Sg)(l:af):af.size (s::l)=s.size+af.size l:=rfl
theorem af.kO:af.size []=0:=rfl
theorem Sg.jR (v:CV):(Sg.c v).size=1:=rfl
theorem Sg.kT (n:Sz)(cols:List cQ):(Sg.a n cols).size=n.val*cols.length:=rfl
theorem af.size_append (a b:af):af.size (a++b)=af.size a+af.size b:=by
 induction a with
 |nil=>simp[af.size]
 |cons s a ih=>simp only[List.cons_append,af.size,ih];omega
theorem af.get_append (a b:af)(j:Nat):af.get (a++b) j=if j<af.size a then af.get a j else af.get b (j-af.size a):=by
 induction a generalizing j with
 |nil=>simp[af.size]
 |cons s a ih=>
  rw[List.cons_append,af.size_cons];by_cases h:j<s.size
  .rw[af.dJ h,af.dJ h,if_pos (by omega)]
  .rw[af.kj (by omega),af.kj (by omega),ih];by_cases h2:j-s.size<af.size a
   .rw[if_pos h2,if_pos (by omega)]
   .rw[if_neg h2,if_neg (by omega)];congr 1;omega
theorem af.avd (k:af):k.list.length=k.size:=by simp[af.list]
theorem af.agz (k:af)(j:Nat):k.list[j]? =if j<k.size then some (k.get j) else none:=by
 simp only[af.list,Af];split
 .rename_i h;simp[h]
 .rename_i h;rw[DS (by simp;omega)];rfl
theorem Wn {α:Type}(f:α->CV)(l:List α)(j:Nat):af.size (l.map λa=>Sg.c (f a))=l.length/\∀a,l[j]? =some a->af.get (l.map λa=>Sg.c (f a)) j=f a:=by
 induction l generalizing j with
 |nil=>exact⟨rfl,λa h=>by simp at h⟩
 |cons x l ih=>
  refine⟨by simp only[List.map_cons,af.size,Sg.size,(ih 0).1,Ls];omega,λa h=> ?_⟩;cases j with
  |zero=>simp at h;subst h;rfl
  |succ j=>exact(ih j).2 a (by simpa using h)
theorem aAi {sh:Bool}{cols:List cQ}{e m9:Nat}{cB:Sz}{z:Nat}{v:af}(h:aKC sh cols e m9 cB z=some v)(he:sh=false->e=0):
  af.size v=cB.val*z/\∀j,j<cB.val*z->af.get v j=iI cols (e*cols.length+m9+j):=by
 unfold aKC at h;split at h
 .rename_i hc
  cases h;simp only[cj,beq_iff] at hc;obtain⟨rfl,hz⟩:=hc
  have hm:∀k,(cB.mul k).val=cB.val*k:=λk=>by
   unfold Sz.mul;split
   .rename_i hk;rw[beq_iff] at hk;subst hk;simp
   .cases cB<;>rfl
  have hlen:(shC sh e cols).length=cols.length:=by cases sh<;>simp[shC]
  have xI:(cB.mul (z/cols.length)).val*cols.length=cB.val*z:=by
   rw[hm,Nat.mul_assoc,Nat.div_mul_cancel (aEt hz)]
  refine⟨by simp only[af.size,Sg.size,hlen,xI,jM],λj hj=> ?_⟩;rw[af.dJ (by simp only[Sg.size,hlen,xI];exact hj),Sg.oL,jM];cases sh with
  |true=>exact aAh ..
  |false=>rw[he rfl,SP,eX];rfl
 .cases h
theorem Lx {sh:Bool}{cols:List cQ}{e m9:Nat}{cB:Sz}{z:Nat}{v:af}(h:rowsOf sh cols e m9 cB z=some v)(he:sh=false->e=0):
  af.size v=cB.val*z/\∀j,j<cB.val*z->af.get v j=iI cols (e*cols.length+m9+j):=by
 unfold rowsOf at h;split at h
 .rename_i n
  split at h
  .rename_i hc
   cases h;simp only[cj,beq_iff,fa] at hc;obtain⟨rfl,hle⟩:=hc;have hl:((cols.drop m9).take z).length=z:=by simp;omega
   refine⟨by rw[(Wn _ _ 0).1,hl];simp[Sz.val],λj hj=> ?_⟩;simp only[Sz.val,Vd] at hj
   have hg:((cols.drop m9).take z)[j]? =some (cols[m9+j]'(by omega)):=by
    rw[Wf,if_pos hj,Lp,j7]
   rw[(Wn (λq:cQ=>CV.f (q.at e)) _ j).2 _ hg];unfold iI;rw[show e*cols.length+m9+j=cols.length*e+(m9+j) by rw[ab1];omega,atd,Nat.mul_add_div (by omega),alv (by omega),Nat.div_eq_of_lt (by omega),j7 (by omega)];rfl
  .exact aAi h he
 .exact aAi h he
theorem aah:∀{b v:af} {m:Nat},Wi b m=some v->af.size v=m/\∀j,j<m->af.get v j=af.get b j
 | [],v,m,h=>by
  cases m with
  |zero=>simp[Wi] at h;subst h;exact⟨rfl,λj hj=>by omega⟩
  |succ m=>simp[Wi] at h
 |.c x::r,v,m,h=>by
  cases m with
  |zero=>simp[Wi] at h;subst h;exact⟨rfl,λj hj=>by omega⟩
  |succ m=>
   simp only[Wi,mm] at h;obtain⟨v',h1,rfl⟩:=h;obtain⟨e1,e2⟩:=aah h1;refine⟨by simp only[af.size,Sg.size,e1];omega,λj hj=> ?_⟩;cases j with
   |zero=>rfl
   |succ j=>rw[af.kj (by simp[Sg.size]),af.kj (by simp[Sg.size])];exact e2 _ (by simp[Sg.size];omega)
 |.a n cols::r,v,m,h=>by
  cases m with
  |zero=>simp[Wi] at h;subst h;exact⟨rfl,λj hj=>by omega⟩
  |succ m=>
   simp only[Wi] at h;split at h
   .cases h
   .rename_i n
    split at h
    .rename_i hle
     rw[fa] at hle;simp only[mm] at h;obtain⟨v',h1,rfl⟩:=h;obtain⟨e1,e2⟩:=aah h1;refine⟨by simp only[af.size,Sg.size,Sz.val,e1];omega,λj hj=> ?_⟩;by_cases lg:j<n*cols.length
     .rw[af.dJ (by simpa[Sg.size,Sz.val] using lg),af.dJ (by simpa[Sg.size,Sz.val] using lg)]
     .rw[af.kj (by simp[Sg.size,Sz.val];omega),af.kj (by simp[Sg.size,Sz.val];omega)];exact e2 _ (by simp[Sg.size,Sz.val];omega)
    .rename_i hle
     have hle:¬n*cols.length<=m+1:=λhc=>by rw[fa.2 hc] at hle;cases hle
     obtain⟨e1,e2⟩:=Lx h (λ_=>rfl);simp only[Sz.val,Vd,SP,eX] at e1 e2;refine⟨e1,λj hj=> ?_⟩;rw[e2 j hj,af.dJ (by simp[Sg.size,Sz.val];omega)];rfl
theorem aIV {n:Nat}(h:nz n=false):n=0:=by cases n<;>first|rfl|cases h
theorem Ve (c l:Nat):c/l*l+c%l=c:=by rw[ab1];exact Nat.div_add_mod c l
theorem Ov:∀{b v:af} {c:Nat} {cB:Sz} {z:Nat},alx b c cB z=some v->af.size v=cB.val*z/\(c+cB.val*z<=af.size b->∀j,j<cB.val*z->af.get v j=af.get b (c+j))
 | [],v,c,cB,z,h=>by
  simp only[alx] at h;split at h
  .split at h
   .rename_i n hn
    rw[beq_iff] at hn;cases h;exact⟨by simp[af.size,Sz.val,hn],λ_ j hj=>by simp only[Sz.val] at hj;omega⟩
   .cases h
  .cases h
 |.c x::r,v,c,cB,z,h=>by
  cases c with
  |zero=>
   simp only[alx] at h;split at h
   .obtain⟨e1,e2⟩:=aah h;exact⟨e1,λ_ j hj=>by rw[eX];exact e2 j hj⟩
   .cases h
  |succ c=>
   simp only[alx] at h;obtain⟨e1,e2⟩:=Ov h;refine⟨e1,λhle j hj=> ?_⟩;simp only[af.size,Sg.size] at hle;rw[e2 (by omega) j hj];exact af.jS (by omega) (by omega)
 |.a n cols::r,v,c,cB,z,h=>by
  simp only[alx] at h;split at h
  .obtain⟨e1,e2⟩:=Lx h aIV;rw[Ve] at e2;refine⟨e1,λhle j hj=> ?_⟩;simp only[af.size,jM] at hle;rw[e2 j hj,af.dJ (by omega),Sg.oL]
  .split at h
   .rename_i n m
    split at h
    .rename_i hle
     rw[fa] at hle;obtain⟨e1,e2⟩:=Ov h;refine⟨e1,λael j hj=> ?_⟩;rw[af.size_cons,Sg.kT] at ael;simp only[Sz.val] at ael;have e3:=e2 (by simp only[Sz.val];omega) j hj;rw[e3];exact af.qu (by omega) (by omega)
    .split at h
     .rename_i ael
      rw[fa] at ael;obtain⟨e1,e2⟩:=Lx h aIV;rw[Ve] at e2;refine⟨e1,λ_ j hj=> ?_⟩;rw[e2 j hj,af.dJ (by simp only[Sg.size,Sz.val] at hj ⊢;omega),Sg.oL]
     .split at h
      .obtain⟨e1,e2⟩:=aah h;exact⟨e1,λ_ j hj=>by rw[eX];exact e2 j hj⟩
      .cases h
   .cases h
theorem agA {c i z l:Nat}(h:z%l=0):elemOf c i z l*l+c%l=c+i*z:=by
 unfold elemOf;split
 .rename_i hz
  rw[beq_iff] at hz;subst hz;have hd:=Ve c z;cases hq:c/z with
  |zero=>
   rw[hq] at hd;simp only;omega
  |succ q=>
   rw[hq] at hd;simp only;rw[pR];omega
 .have hd:=Ve c l;have hz:=Nat.div_mul_cancel (aEt h);rw[pR,Nat.mul_assoc,hz];omega
theorem atk:∀{b:af} {v:af} {c i z:Nat} {cB:Sz} {y:Nat},aAc b c i z cB y=some (true,v)->af.size v=cB.val*y/\(c+i*z+cB.val*y<=af.size b->∀j,j<cB.val*y->af.get v j=af.get b (c+i*z+j))
 | [],v,c,i,z,cB,y,h=>by simp[aAc] at h
 |.c x::r,v,c,i,z,cB,y,h=>by
  cases c with
  |zero=>
   simp only[aAc,mm,ql,zW] at h;obtain⟨v',h1,rfl⟩:=h;have:=Ov h1;simpa using this
  |succ c=>
   simp only[aAc] at h;obtain⟨e1,e2⟩:=atk h;refine⟨e1,λhle j hj=> ?_⟩;simp only[af.size,Sg.size] at hle;rw[e2 (by omega) j hj];exact af.jS (by omega) (by omega)
 |.a n cols::r,v,c,i,z,cB,y,h=>by
  simp only[aAc] at h;split at h
  .split at h
   .rename_i hz
    rw[beq_iff] at hz;simp only[mm,ql,zW] at h;obtain⟨v',h1,rfl⟩:=h;obtain⟨e1,e2⟩:=Lx h1 (λh=>by cases h);rw[agA hz] at e2;refine⟨e1,λhle j hj=> ?_⟩;simp only[af.size,jM] at hle;rw[e2 j hj,af.dJ (by omega),Sg.oL]
   .cases h
  .split at h
   .rename_i n
    split at h
    .rename_i hle
     rw[fa] at hle;obtain⟨e1,e2⟩:=atk h;refine⟨e1,λael j hj=> ?_⟩;rw[af.size_cons,Sg.kT] at ael;simp only[Sz.val] at ael;have e3:=e2 (by simp only[Sz.val];omega) j hj;rw[e3];exact af.qu (by omega) (by omega)
    .split at h
     .rename_i hz
      rw[beq_iff] at hz;simp only[mm,ql] at h;obtain⟨v',h1,hg,rfl⟩:=h;rw[fa] at hg;obtain⟨e1,e2⟩:=Lx h1 (λh=>by cases h);rw[agA hz] at e2;refine⟨e1,λ_ j hj=> ?_⟩;rw[e2 j hj,af.dJ (by simp only[Sg.size,Sz.val];omega),Sg.oL]
     .cases h
   .cases h
theorem af.ayr {b v:af}{o:cA}{cB:Sz}{z:Nat}(h:b.sub o cB z=some (true,v)):af.size v=cB.val*z/\(o.val+cB.val*z<=af.size b->∀j,j<cB.val*z->af.get v j=af.get b (o.val+j)):=by
 cases o with
 |k c=>
  simp only[af.sub,mm,ql,zW] at h;obtain⟨v',h1,rfl⟩:=h;exact Ov h1
 |x c i y=>exact atk h
theorem agB:∀{cols dN:List cQ} {j e:Nat} {v:CV},agr cols j e v=some dN->dN.length=cols.length/\j<cols.length/\(∀k,k≠j->dN[k]? =cols[k]?)/\∃c c',cols[j]? =some c/\dN[j]? =some c'/\c.aST e v=some c'
 | [],_,_,_,_,h=>by simp[agr] at h
 |c::cs,dN,0,e,v,h=>by
  simp only[agr,mm] at h;obtain⟨c',h1,rfl⟩:=h;refine⟨rfl,by simp,λk hk=> ?_,c,c',rfl,rfl,h1⟩;cases k with
  |zero=>omega
  |succ k=>rfl
 |c::cs,dN,j+1,e,v,h=>by
  simp only[agr,mm] at h;obtain⟨SQ,h1,rfl⟩:=h;obtain⟨a1,a2,a3,c0,c1,a4,a5,a6⟩:=agB h1;refine⟨by simp[a1],by simp;omega,λk hk=> ?_,c0,c1,by simpa using a4,by simpa using a5,a6⟩;cases k with
  |zero=>rfl
  |succ k=>simpa using a3 k (by omega)
theorem aKK {cols dN:List cQ}{j e:Nat}{v:CV}(h:agr cols j e v=some dN)(J:Nat):iI dN J=if J=e*cols.length+j then v else iI cols J:=by
 obtain⟨a1,a2,a3,c,c',a4,a5,a6⟩:=agB h;have aEK:0<cols.length:=by omega
 unfold iI;rw[a1];by_cases hm:J%cols.length=j
 .rw[hm,a4,a5];simp only[cQ.aXP a6];have hd:=Ve J cols.length;rw[hm] at hd;by_cases he:J/cols.length=e
  .rw[if_pos he,if_pos (by rw[<-he];omega)]
  .rw[if_neg he,if_neg λhJ=>he (by rw[hJ,ab1,Nat.mul_add_div aEK,Nat.div_eq_of_lt a2,jM])]
 .rw[a3 _ hm,if_neg λhJ=>hm (by rw[hJ,ab1,atd,alv a2])]
theorem Ly:∀{b:af} {cols dN:List cQ} {e m9:Nat},DA cols.length cols e m9 b=some dN->dN.length=cols.length/\
  ∀J,iI dN J=if e*cols.length+m9<=J/\J<e*cols.length+m9+af.size b then af.get b (J-(e*cols.length+m9)) else iI cols J
 | [],cols,dN,e,m9,h=>by
  simp only[DA,gS] at h;subst h;exact⟨rfl,λJ=>by rw[if_neg (by rw[af.kO];omega)]⟩
 |.a _ _::_,cols,dN,e,m9,h=>by simp[DA] at h
 |.c v::r,cols,dN,e,m9,h=>by
  simp only[DA] at h;split at h
  .rename_i a1N h1
   have hr:=aKK h1;obtain⟨a1,a2,_⟩:=agB h1
   have key:∀e' aXQ,e'*cols.length+aXQ=e*cols.length+(m9+1)->DA cols.length a1N e' aXQ r=some dN->dN.length=cols.length/\
     ∀J,iI dN J=if e*cols.length+m9<=J/\J<e*cols.length+m9+af.size (.c v::r) then af.get (.c v::r) (J-(e*cols.length+m9)) else iI cols J:=λe' aXQ he h2=>by
    rw[<-a1] at h2;obtain⟨b1,b2⟩:=Ly h2;rw[a1] at b2;refine⟨b1.trans a1,λJ=> ?_⟩;rw[b2,he,hr];have hs:af.size (.c v::r)=1+af.size r:=rfl;by_cases c1:J=e*cols.length+m9
    .subst c1;rw[if_neg (by omega),if_pos rfl,if_pos (by rw[hs];omega),Nat.sub_self];rfl
    .by_cases c2:e*cols.length+(m9+1)<=J/\J<e*cols.length+(m9+1)+af.size r
     .rw[if_pos c2,if_pos (by rw[hs];omega)];exact af.jS (by omega) (by omega)
     .rw[if_neg c2,if_neg c1,if_neg (by rw[hs];omega)]
   split at h
   .rename_i hc
    rw[beq_iff] at hc;refine key (e+1) 0 ?_ h;rw[pR,hc];omega
   .exact key e (m9+1) rfl h
  .cases h
theorem atl {v:af}{cols dN:List cQ}{e m9:Nat}(h:aEx cols e m9 v=some dN):dN.length=cols.length/\
  ∀J,iI dN J=if e*cols.length+m9<=J/\J<e*cols.length+m9+af.size v then af.get v (J-(e*cols.length+m9)) else iI cols J:=by
 unfold aEx at h;split at h
 .rename_i m ds
  split at h
  .rename_i hc
   simp only[cj,beq_iff] at hc;obtain⟨rfl,hl⟩:=hc;obtain⟨a1,a2,_⟩:=agy h;rw[yX] at a1 a2;refine⟨by omega,λJ=> ?_⟩;have hs:af.size [.a m ds]=m.val*cols.length:=by rw[af.size_cons,Sg.kT,af.kO,hl,jM]
   have hm:=aEJ h J;rw[yX,<-hl] at hm;rw[hm];clear hm
   by_cases hz:cols.length=0
   .have h1:cols=[]:=aKz.1 hz;have h2:ds=[]:=aKz.1 (hl.symm.trans hz);subst h1 h2;rw[if_neg (show ¬(e*([]:List cQ).length+0<=J/\J<e*([]:List cQ).length+0+af.size [.a m []]) by rw[hs];simp)];exact ite_self _
   .have hd:=Ve J cols.length;have hm:=Nat.mod_lt J (show cols.length>0 by omega);by_cases hp:e<=J/cols.length/\J/cols.length<e+m.val
    .have e1:e*cols.length<=J:=by
      have:=vL cols.length hp.1;omega
     have e2:J<e*cols.length+m.val*cols.length:=by
      have:=vL cols.length (show J/cols.length+1<=e+m.val by omega);rw[pR,pR] at this;omega
     rw[if_pos (by simp only[cj,fa,rZ];exact hp),if_pos (show e*cols.length+0<=J/\J<e*cols.length+0+af.size [.a m ds] by rw[hs];exact⟨e1,e2⟩),aM9 _ _ _ (by rw[<-hl];exact e1),jM,af.dJ (by rw[Sg.kT,<-hl];omega),Sg.oL,<-hl]
    .rw[if_neg (by simp only[cj,fa,rZ];exact hp),if_neg (by
      rw[hs];rintro ⟨e1,e2⟩
      apply hp
      constructor
      .exact(Nat.le_div_iff_mul_le (by omega)).2 e1
      .refine(aye (by omega)).2 ?_;rw[pR];exact e2)]
  .cases h
 .exact Ly h
theorem aEL:∀{b v b':af},fH b v=some b'->af.size b'=af.size b/\∀j,af.get b' j=if j<af.size v then af.get v j else af.get b j:=by
 intro b v;induction b generalizing v with
 |nil=>
  intro b' h;cases v with
  |nil=>simp only[fH,gS] at h;subst h;exact⟨rfl,λj=>by rw[if_neg (by simp[af.size])]⟩
  |cons y vs=>cases y<;>simp[fH] at h
 |cons x r ih=>
  intro b' h;cases v with
  |nil=>simp only[fH,gS] at h;subst h;exact⟨rfl,λj=>by rw[if_neg (by simp[af.size])]⟩
  |cons y vs=>
   unfold fH at h;split at h
   .rename_i e;cases e
   .rename_i aXR aXS
    cases aXR;cases aXS
    simp only[mm] at h;obtain⟨r',h1,rfl⟩:=h;obtain⟨e1,e2⟩:=ih h1;refine⟨by simp only[af.size,e1,Sg.size],λj=> ?_⟩;cases j with
    |zero=>rw[if_pos (by simp only[af.size,Sg.size];omega)];rfl
    |succ j=>
     rw[<-af.jS (l:=r') (j':=j) (by omega) (by omega),<-af.jS (l:=vs) (j':=j) (by omega) (by omega),<-af.jS (l:=r) (j':=j) (by omega) (by omega),e2];by_cases hj:j<af.size vs
     .rw[if_pos hj,if_pos (by rw[af.size_cons,Sg.jR];omega)]
     .rw[if_neg hj,if_neg (by rw[af.size_cons,Sg.jR];omega)]
   .rename_i n cols _ m dN _ aXR aXS
    cases aXR;cases aXS
    split at h
    .rename_i hc
     simp only[cj,beq_iff] at hc;obtain⟨rfl,hl⟩:=hc;simp only[mm] at h;obtain⟨r',h1,rfl⟩:=h;obtain⟨e1,e2⟩:=ih h1;refine⟨by simp only[af.size,e1,Sg.size,hl],λj=> ?_⟩;have hs:af.size (.a (.l n) dN::vs)=n*dN.length+af.size vs:=rfl;by_cases hj:j<n*dN.length
     .rw[af.dJ (by simpa[Sg.size,Sz.val] using hj),if_pos (by rw[hs];omega),af.dJ (by simpa[Sg.size,Sz.val] using hj)]
     .rw[<-af.qu (l:=r') (j':=j-n*dN.length) (by omega) (by omega),<-af.qu (l:=vs) (j':=j-n*dN.length) (by omega) (by omega),<-af.qu (l:=r) (j':=j-n*dN.length) (by rw[hl];omega) (by rw[hl]),e2];by_cases lg:j-n*dN.length<af.size vs
      .rw[if_pos lg,if_pos (by rw[hs];omega)]
      .rw[if_neg lg,if_neg (by rw[hs];omega)]
    .cases h
   .cases h
theorem aAj {n:Sz}{cols:List cQ}{v:af}(h:aKD n cols v=true):af.size v=(Sg.a n cols).size:=by
 unfold aKD at h;split at h
 .simp only[cj,beq_iff] at h;obtain⟨rfl,hl⟩:=h;simp[af.size,Sg.size,hl]
 .cases h
theorem Ow:∀{b b':af} {c:Nat} {v:af},aly b c v=some b'->af.size b'=af.size b/\∀j,j<af.size b->af.get b' j=if c<=j/\j<c+af.size v then af.get v (j-c) else af.get b j
 | [],b',c,v,h=>by
  simp only[aly] at h;split at h
  .cases h;exact⟨rfl,λj hj=>by simp[af.size] at hj⟩
  .cases h
 |.c x::r,b',c,v,h=>by
  cases c with
  |zero=>
   simp only[aly] at h;obtain⟨e1,e2⟩:=aEL h;refine⟨e1,λj _=> ?_⟩;rw[e2];by_cases hj:j<af.size v
   .rw[if_pos hj,if_pos (by omega)];rfl
   .rw[if_neg hj,if_neg (by omega)]
  |succ c=>
   simp only[aly,mm] at h;obtain⟨r',h1,rfl⟩:=h;obtain⟨e1,e2⟩:=Ow h1;refine⟨by simp only[af.size,e1],λj hj=> ?_⟩;rw[af.size_cons,Sg.jR] at hj;cases j with
   |zero=>rw[if_neg (by omega)];rfl
   |succ j=>
    rw[<-af.jS (l:=r') (j':=j) (by omega) (by omega),<-af.jS (l:=r) (j':=j) (by omega) (by omega),e2 j (by omega)];by_cases hc:c<=j/\j<c+af.size v
    .rw[if_pos hc,if_pos (by omega)];congr 1;omega
    .rw[if_neg hc,if_neg (by omega)]
 |.a n cols::r,b',c,v,h=>by
  have put:∀{dN},aEx cols (c/cols.length) (c%cols.length) v=some dN->dN.length=cols.length/\∀J,iI dN J=if c<=J/\J<c+af.size v then af.get v (J-c) else iI cols J:=λh=>by
   have:=atl h;rw[Ve] at this;exact this
  simp only[aly] at h;split at h
  .split at h
   .rename_i hc
    cases h;simp only[cj,beq_iff] at hc;obtain⟨rfl,hs⟩:=hc;have hs:=aAj hs;refine⟨by simp only[af.size,jM,hs],λj hj=> ?_⟩;simp only[af.size,jM] at hj;rw[if_pos (by omega),Nat.sub_zero]
   .simp only[mm] at h;obtain⟨dN,h1,rfl⟩:=h;obtain⟨e1,e2⟩:=put h1;refine⟨by simp only[af.size,Sg.size,e1],λj hj=> ?_⟩;simp only[af.size,jM] at hj;rw[af.dJ (by simp only[Sg.size,e1];exact hj),af.dJ hj,Sg.oL,Sg.oL,e2]
  .split at h
   .cases h
   .rename_i n
    split at h
    .rename_i hle
     rw[fa] at hle;simp only[mm] at h;obtain⟨r',h1,rfl⟩:=h;obtain⟨e1,e2⟩:=Ow h1;refine⟨by rw[af.size_cons,af.size_cons,e1],λj hj=> ?_⟩;rw[af.size_cons,Sg.kT] at hj;simp only[Sz.val] at hj;by_cases lg:j<n*cols.length
     .rw[af.dJ (by simpa[Sg.size,Sz.val] using lg),af.dJ (by simpa[Sg.size,Sz.val] using lg),if_neg (by omega)]
     .rw[<-af.qu (l:=r') (j':=j-n*cols.length) (by omega) rfl,<-af.qu (n:=n) (cols:=cols) (j':=j-n*cols.length) (by omega) rfl,e2 _ (by omega)];by_cases hc:c<=j/\j<c+af.size v
      .rw[if_pos hc,if_pos (by omega)];congr 1;omega
      .rw[if_neg hc,if_neg (by omega)]
    .split at h
     .rename_i hc
      cases h;simp only[cj,beq_iff] at hc;obtain⟨rfl,hs⟩:=hc;have hs:=aAj hs;refine⟨by rw[af.size_append,hs];rfl,λj hj=> ?_⟩;rw[af.get_append,hs];by_cases lg:j<(Sg.a (.l n) cols).size
      .rw[if_pos lg,if_pos (by omega),Nat.sub_zero]
      .rw[if_neg lg,if_neg (by omega)];exact af.qu (Nat.le_of_not_lt lg) rfl
     .split at h
      .rename_i ael
       rw[fa] at ael;simp only[mm] at h;obtain⟨dN,h1,rfl⟩:=h;obtain⟨e1,e2⟩:=put h1;refine⟨by simp only[af.size,Sg.size,e1],λj hj=> ?_⟩;by_cases lg:j<n*cols.length
       .rw[af.dJ (by simpa[Sg.size,Sz.val,e1] using lg),af.dJ (by simpa[Sg.size,Sz.val] using lg),Sg.oL,Sg.oL,e2]
       .rw[if_neg (by omega),<-af.qu (cols:=dN) (j':=j-n*cols.length) (by rw[e1];omega) (by rw[e1]),<-af.qu (n:=n) (cols:=cols) (j':=j-n*cols.length) (by omega) rfl]
      .split at h
       .obtain⟨e1,e2⟩:=aEL h;refine⟨e1,λj _=> ?_⟩;rw[e2];by_cases hj:j<af.size v
        .rw[if_pos hj,if_pos (by omega)];rfl
        .rw[if_neg hj,if_neg (by omega)]
       .cases h
theorem atm:∀{b b':af} {c i z:Nat} {v:af},aAd b c i z v=some (true,b')->af.size b'=af.size b/\∀j,j<af.size b->af.get b' j=if c+i*z<=j/\j<c+i*z+af.size v then af.get v (j-(c+i*z)) else af.get b j
 | [],b',c,i,z,v,h=>by simp[aAd] at h
 |.c x::r,b',c,i,z,v,h=>by
  cases c with
  |zero=>
   simp only[aAd,mm,ql,zW] at h;obtain⟨v',h1,rfl⟩:=h;simpa using Ow h1
  |succ c=>
   simp only[aAd,mm,ql] at h;obtain⟨⟨g,r'⟩,h1,hg,rfl⟩:=h;simp only at hg;subst hg;obtain⟨e1,e2⟩:=atm h1;refine⟨by simp only[af.size,e1],λj hj=> ?_⟩;rw[af.size_cons,Sg.jR] at hj;cases j with
   |zero=>rw[if_neg (by omega)];rfl
   |succ j=>
    rw[<-af.jS (l:=r') (j':=j) (by omega) (by omega),<-af.jS (l:=r) (j':=j) (by omega) (by omega),e2 j (by omega)];by_cases hc:c+i*z<=j/\j<c+i*z+af.size v
    .rw[if_pos hc,if_pos (by omega)];congr 1;omega
    .rw[if_neg hc,if_neg (by omega)]
 |.a n cols::r,b',c,i,z,v,h=>by
  simp only[aAd] at h;split at h
  .split at h
   .rename_i hz
    rw[beq_iff] at hz;simp only[mm,ql,zW] at h;obtain⟨dN,h1,rfl⟩:=h;have e:=atl h1;rw[agA hz] at e;obtain⟨e1,e2⟩:=e;refine⟨by simp only[af.size,Sg.size,e1],λj hj=> ?_⟩;simp only[af.size,jM] at hj;rw[af.dJ (by simp only[Sg.size,e1];exact hj),af.dJ hj,Sg.oL,Sg.oL,e2]
   .cases h
  .split at h
   .rename_i n
    split at h
    .rename_i hle
     rw[fa] at hle;simp only[mm,ql] at h;obtain⟨⟨g,r'⟩,h1,hg,rfl⟩:=h;simp only at hg;subst hg;obtain⟨e1,e2⟩:=atm h1;refine⟨by rw[af.size_cons,af.size_cons,e1],λj hj=> ?_⟩;rw[af.size_cons,Sg.kT] at hj;simp only[Sz.val] at hj;by_cases lg:j<n*cols.length
     .rw[af.dJ (by simpa[Sg.size,Sz.val] using lg),af.dJ (by simpa[Sg.size,Sz.val] using lg),if_neg (by omega)]
     .rw[<-af.qu (l:=r') (j':=j-n*cols.length) (by omega) rfl,<-af.qu (n:=n) (cols:=cols) (j':=j-n*cols.length) (by omega) rfl,e2 _ (by omega)];by_cases hc:c+i*z<=j/\j<c+i*z+af.size v
      .rw[if_pos hc,if_pos (by omega)];congr 1;omega
      .rw[if_neg hc,if_neg (by omega)]
    .split at h
     .rename_i hz
      rw[beq_iff] at hz;simp only[mm,ql] at h;obtain⟨dN,h1,hg,rfl⟩:=h;rw[fa] at hg;have e:=atl h1;rw[agA hz] at e;obtain⟨e1,e2⟩:=e;rw[e1] at hg;refine⟨by simp only[af.size,Sg.size,e1],λj hj=> ?_⟩;by_cases lg:j<n*cols.length
      .rw[af.dJ (by simpa[Sg.size,Sz.val,e1] using lg),af.dJ (by simpa[Sg.size,Sz.val] using lg),Sg.oL,Sg.oL,e2]
      .rw[if_neg (by omega),<-af.qu (cols:=dN) (j':=j-n*cols.length) (by rw[e1];omega) (by rw[e1]),<-af.qu (n:=n) (cols:=cols) (j':=j-n*cols.length) (by omega) rfl]
     .cases h
   .cases h
theorem af.aTW {b b' v:af}{o:cA}(h:b.zV o v=some (true,b')):af.size b'=af.size b/\∀j,j<af.size b->af.get b' j=if o.val<=j/\j<o.val+af.size v then af.get v (j-o.val) else af.get b j:=by
 cases o with
 |k c=>
  simp only[af.zV,mm,ql,zW] at h;obtain⟨v',h1,rfl⟩:=h;exact Ow h1
 |x c i y=>exact atm h
theorem Qn:∀{b:af},Wj b=true->af.size b=b.length
 | [],_=>rfl
 |.c v::r,h=>by
  have:=Qn (b:=r) h;rw[af.size_cons,Sg.jR,this,Ls];omega
 |.a _ _::_,h=>by cases h
theorem ave (cols:List cQ):∀l:List Nat,Wj (ags cols l)=true/\(ags cols l).length=l.length/\∀i j,l[i]? =some j->af.get (ags cols l) i=iI cols j
 | []=>⟨rfl,rfl,λi j h=>by simp at h⟩
 |k::l=>by
  obtain⟨h1,h2,h3⟩:=ave cols l;refine⟨h1,by simp[ags,h2],λi j h=> ?_⟩;cases i with
  |zero=>
   simp only[aEs,gS] at h;subst h;rfl
  |succ i=>exact(af.kj (s:=.c _) (by rw[Sg.jR];omega)).trans (h3 i j (by simpa using h))
theorem xJ:∀b:af,af.size (tG b)=af.size b/\∀j,j<af.size b->af.get (tG b) j=af.get b j
 | []=>⟨rfl,λ_ _=>rfl⟩
 |.c v::r=>by
  obtain⟨h1,h2⟩:=xJ r;refine⟨by rw[tG,af.size_cons,af.size_cons,h1],λj hj=> ?_⟩;rw[af.size_cons,Sg.jR] at hj;cases j with
  |zero=>rfl
  |succ j=>
   rw[tG,af.kj (by rw[Sg.jR];omega),af.kj (by rw[Sg.jR];omega)];exact h2 _ (by rw[Sg.jR];omega)
 |.a (.s n) cols::r=>by
  obtain⟨h1,h2⟩:=xJ r;refine⟨by rw[tG,af.size_cons,af.size_cons,h1],λj hj=> ?_⟩;rw[af.size_cons] at hj;rw[tG];by_cases lg:j<(Sg.a (.s n) cols).size
  .rw[af.dJ lg,af.dJ lg]
  .rw[af.kj (by omega),af.kj (by omega)];exact h2 _ (by omega)
 |.a (.l n) cols::r=>by
  obtain⟨h1,h2⟩:=xJ r;obtain⟨c1,c2,c3⟩:=ave cols (List.range (n*cols.length));have hs:af.size (ags cols (List.range (n*cols.length)))=n*cols.length:=by rw[Qn c1,c2,List.length_range]
  have Wo:(Sg.a (.l n) cols).size=n*cols.length:=rfl;refine⟨by rw[tG,af.size_append,af.size_cons,h1,hs,Wo],λj hj=> ?_⟩;rw[af.size_cons,Wo] at hj;rw[tG,af.get_append,hs];by_cases lg:j<n*cols.length
  .rw[if_pos lg,af.dJ (by rw[Wo];exact lg),Sg.oL];exact c3 j j (by simp[lg])
  .rw[if_neg lg,af.kj (by rw[Wo];omega),Wo];exact h2 _ (by omega)
theorem LA (n m:Sz):(n.add m).val=n.val+m.val:=by cases n<;>cases m<;>rfl
theorem aRk {n:Sz}{cols:List cQ}{b c:af}(h:aMY n cols b=some c):af.size c=af.size [.a n cols]+af.size b/\
  ∀j,j<af.size [.a n cols]+af.size b->af.get c j=if j<af.size [.a n cols] then af.get [.a n cols] j else af.get b (j-af.size [.a n cols]):=by
 have h0:af.size [.a n cols]=n.val*cols.length:=by rw[af.size_cons,af.kO,Sg.kT,jM]
 unfold aMY at h;split at h
 .rename_i hc
  simp only[cj,beq_iff,fa] at hc;obtain⟨DX,aEK,aXT⟩:=hc;simp only[mm] at h;obtain⟨es,h1,rfl⟩:=h;obtain⟨a1,a2⟩:=Ly h1;have hbs:=Qn DX;have hq:(b.length/cols.length)*cols.length=b.length:=Nat.div_mul_cancel (aEt aXT)
  have hr:(n.add (.l (b.length/cols.length))).val*es.length=n.val*cols.length+b.length:=by
   rw[LA,a1,pR,Sz.val,hq]
  refine⟨by rw[h0,hbs,af.size_cons,af.kO,Sg.kT,jM,hr],λj hj=> ?_⟩;rw[h0] at hj;rw[af.dJ (by rw[Sg.kT,hr];omega),Sg.oL,a2,jM];by_cases lg:j<n.val*cols.length
  .rw[if_neg (by omega),if_pos (show j<af.size [.a n cols] by rw[h0];exact lg),af.dJ (by rw[Sg.kT];exact lg),Sg.oL]
  .rw[if_pos (by omega),if_neg (show ¬j<af.size [.a n cols] by rw[h0];exact lg),h0]
 .cases h
theorem aEM {n:Sz}{cols:List cQ}{b c:af}(h:aSU n cols b=some c):af.size c=af.size [.a n cols]+af.size b/\
  ∀j,j<af.size [.a n cols]+af.size b->af.get c j=if j<af.size [.a n cols] then af.get [.a n cols] j else af.get b (j-af.size [.a n cols]):=by
 have h0:af.size [.a n cols]=n.val*cols.length:=by rw[af.size_cons,af.kO,Sg.kT,jM]
 have two:aMY n cols (tG b)=some c->af.size c=af.size [.a n cols]+af.size b/\
  ∀j,j<af.size [.a n cols]+af.size b->af.get c j=if j<af.size [.a n cols] then af.get [.a n cols] j else af.get b (j-af.size [.a n cols]):=λh=>by
  obtain⟨e1,e2⟩:=aRk h;obtain⟨f1,f2⟩:=xJ b;rw[f1] at e1 e2;refine⟨e1,λj hj=> ?_⟩;rw[e2 j hj];by_cases lg:j<af.size [.a n cols]
  .rw[if_pos lg,if_pos lg]
  .rw[if_neg lg,if_neg lg,f2 _ (by omega)]
 unfold aSU at h;split at h
 .rename_i m dN
  split at h
  .rename_i hc
   simp only[cj,beq_iff,fa] at hc;obtain⟨hl,aEK⟩:=hc;simp only[mm] at h;obtain⟨es,h1,rfl⟩:=h;obtain⟨a1,_,_⟩:=agy h1;have hb:af.size [.a m dN]=m.val*cols.length:=by rw[af.size_cons,af.kO,Sg.kT,jM,hl]
   have hr:af.size [.a (n.add m) es]=n.val*cols.length+m.val*cols.length:=by
    rw[af.size_cons,af.kO,Sg.kT,jM,LA,a1,pR]
   refine⟨by rw[hr,h0,hb],λj hj=> ?_⟩;rw[h0,hb] at hj;have hm:=aEJ h1 j
   have e1:af.get [.a (n.add m) es] j=iI es j:=by
    rw[af.dJ (by rw[Sg.kT,LA,a1,pR];exact hj),Sg.oL]
   rw[e1,hm];by_cases lg:j<n.val*cols.length
   .rw[if_pos (by rw[rZ];exact(aye (by omega)).2 lg),if_pos (show j<af.size [.a n cols] by rw[h0];exact lg),af.dJ (by rw[Sg.kT];exact lg),Sg.oL]
   .rw[if_neg (by rw[rZ];exact λhh=>lg ((aye (by omega)).1 hh)),if_neg (show ¬j<af.size [.a n cols] by rw[h0];exact lg),aM9 _ _ _ (by rw[<-hl];omega),h0,af.dJ (by rw[Sg.kT,<-hl];omega),Sg.oL,<-hl]
  .exact two h
 .exact two h
theorem alF:∀{z:Nat} {b:af} {cols:List cQ},El z b=some cols->cols.length=z
 |0,b,cols,h=>by simp only[El,gS] at h;subst h;rfl
 |z+1,[],cols,h=>by simp[El] at h
 |z+1,.a _ _::_,cols,h=>by simp[El] at h
 |z+1,.c v::r,cols,h=>by
  cases v<;>simp only[El] at h<;>first|(cases h;done)|skip
  split at h
  .rename_i h1 h2
   cases h;simp[alF h2]
  .cases h
theorem alG {z:Nat}{b r:af}(h:rowOf z b=some r):af.size r=af.size b/\(∀j,j<af.size b->af.get r j=af.get b j):=by
 unfold rowOf at h;split at h
 .rename_i hc
  simp only[cj,beq_iff,fa] at hc;obtain⟨DX,aEK,aXT⟩:=hc;split at h
  .rename_i cols h1
   simp only[mm] at h;obtain⟨es,h2,rfl⟩:=h;have hl:=alF h1;subst hl;obtain⟨a1,a2⟩:=Ly h2;have hbs:=Qn DX;have hq:(b.length/cols.length)*cols.length=b.length:=Nat.div_mul_cancel (aEt aXT);refine⟨by rw[af.size_cons,af.kO,Sg.kT,jM,a1,Sz.val,hq,hbs],λj hj=> ?_⟩;rw[af.dJ (by rw[Sg.kT,a1,Sz.val,hq];omega),Sg.oL,a2,if_pos (by omega)];congr 1;omega
  .cases h
 .cases h
theorem af.aTX {a b c:af}(h:a.app b=some c):af.size c=af.size a+af.size b/\
  ∀j,j<af.size a+af.size b->af.get c j=if j<af.size a then af.get a j else af.get b (j-af.size a):=by
 unfold af.app at h;split at h
 .cases h;refine⟨by rw[af.kO,eX],λj hj=>by rw[if_neg (by rw[af.kO];omega),af.kO,Nat.sub_zero]⟩
 .cases h;refine⟨by rw[af.kO,jM],λj hj=> ?_⟩;rw[af.kO,jM] at hj;rw[if_pos hj]
 .exact aEM h
 .split at h
  .rename_i h1
   obtain⟨e1,e2⟩:=alG h1;rw[(xJ _).1] at e1 e2;have e2:=λj hj=>(e2 j hj).trans ((xJ _).2 j hj)
   obtain⟨f1,f2⟩:=aEM h;refine⟨by rw[f1,e1],λj hj=> ?_⟩;rw[f2 j (by rw[e1];exact hj)];by_cases lg:j<af.size a
   .rw[if_pos (by rw[e1];exact lg),if_pos lg,e2 j lg]
   .rw[if_neg (by rw[e1];exact lg),if_neg lg,e1]
  .cases h
 .split at h
  .cases h;exact⟨af.size_append _ _,λj _=>af.get_append _ _ _⟩
  .cases h
theorem aai (z:Nat)(b:af):af.size (atg z b)=af.size b/\∀j,j<af.size b->af.get (atg z b) j=af.get b j:=by
 have key:∀{r},rowOf z (tG b)=some r->af.size r=af.size b/\∀j,j<af.size b->af.get r j=af.get b j:=λh=>by
  obtain⟨e1,e2⟩:=alG h;obtain⟨g1,g2⟩:=xJ b;rw[g1] at e1 e2;exact⟨e1,λj hj=>(e2 j hj).trans (g2 j hj)⟩
 unfold atg;split
 .exact⟨rfl,λ_ _=>rfl⟩
 .split
  .exact⟨rfl,λ_ _=>rfl⟩
  .split
   .rename_i h;exact key h
   .exact⟨rfl,λ_ _=>rfl⟩
 .split
  .rename_i h;exact key h
  .exact⟨rfl,λ_ _=>rfl⟩
theorem alH:∀{tm:List Tm} {b r:af},agu tm b=some r->af.size r=af.size b/\∀j,j<af.size b->af.get r j=af.get b j
 | [],[],r,h=>by cases h;exact⟨rfl,λ_ _=>rfl⟩
 | [],_::_,r,h=>by simp[agu] at h
 |.c::tm,[],r,h=>by simp[agu] at h
 |.c::tm,.a _ _::_,r,h=>by simp[agu] at h
 |.c::tm,.c v::b,r,h=>by
  simp only[agu,mm] at h;obtain⟨r',h1,rfl⟩:=h;obtain⟨e1,e2⟩:=alH h1;refine⟨by rw[af.size_cons,af.size_cons,e1],λj hj=> ?_⟩;rw[af.size_cons,Sg.jR] at hj;cases j with
  |zero=>rfl
  |succ j=>
   rw[af.kj (by rw[Sg.jR];omega),af.kj (by rw[Sg.jR];omega)];exact e2 _ (by rw[Sg.jR];omega)
 |.a n z::tm,b,r,h=>by
  simp only[agu] at h;split at h
  .split at h
   .rename_i row h1
    simp only[mm] at h;obtain⟨r',h2,rfl⟩:=h;obtain⟨e1,e2⟩:=alG h1;obtain⟨f1,f2⟩:=alH h2;have hb:af.size b=af.size (b.take (n*z))+af.size (b.drop (n*z)):=by rw[<-af.size_append,List.take_append_drop]
    have hg:∀j,af.get b j=if j<af.size (b.take (n*z)) then af.get (b.take (n*z)) j else af.get (b.drop (n*z)) (j-af.size (b.take (n*z))):=λj=>by rw[<-af.get_append,List.take_append_drop]
    refine⟨by rw[af.size_append,e1,f1,hb],λj hj=> ?_⟩;rw[af.get_append,hg,e1];by_cases lg:j<af.size (b.take (n*z))
    .rw[if_pos lg,if_pos lg,e2 j lg]
    .rw[if_neg lg,if_neg lg,f2 _ (by omega)]
   .cases h
  .cases h
theorem aRl (P:Program)(t:TypeId)(l:af):af.size (norm P t l)=af.size l/\∀j,j<af.size l->af.get (norm P t l) j=af.get l j:=by
 unfold norm;split
 .split
  .rename_i h;exact alH h
  .exact⟨rfl,λ_ _=>rfl⟩
 .split
  .exact⟨rfl,λ_ _=>rfl⟩
  .split
   .exact xJ l
   .exact⟨rfl,λ_ _=>rfl⟩
theorem ays (b:af):af.size (toS b)=af.size b/\∀j,af.get (toS b) j=af.get b j:=by
 unfold toS;split
 .exact⟨rfl,λ_=>rfl⟩
 .exact⟨rfl,λ_=>rfl⟩
theorem JN (f:CV->CV)(b:af):af.size (KH f b)=af.size b:=by
 induction b with
 |nil=>rfl
 |cons s r ih=>cases s<;>simp only[KH,af.size_cons,ih]<;>rfl
theorem aDS (cols:List cQ)(j:Nat):∃x,iI cols j=.f x:=by
 unfold iI;split<;>exact⟨_,rfl⟩
theorem ayt {f:CV->CV}(hf:∀x,f (.f x)=.f x)(b:af)(j:Nat)(hj:j<af.size b):af.get (KH f b) j=f (af.get b j):=by
 induction b generalizing j with
 |nil=>rw[af.kO] at hj;omega
 |cons s r ih=>
  rw[af.size_cons] at hj;cases s with
  |c v=>
   cases j with
   |zero=>rfl
   |succ j=>
    rw[KH,<-af.jS (l:=KH f r) (j':=j) (by omega) (by omega),<-af.jS (l:=r) (j':=j) (by omega) (by omega)];exact ih j (by rw[Sg.jR] at hj;omega)
  |a n cols=>
   rw[KH];by_cases h:j<(Sg.a n cols).size
   .rw[af.dJ h,af.dJ h,Sg.oL];obtain⟨x,hx⟩:=aDS cols j;rw[hx,hf]
   .rw[af.kj (by omega),af.kj (by omega)];exact ih _ (by omega)
theorem FV.aXU {x y:FV}(h:x.same y=true):x=y:=by
 unfold FV.same at h;split at h
 .rw[eq_of_beq h]
 .simp only[cj,ke] at h;rw[h.1,eq_of_beq h.2]
 .cases h
theorem aRm {v:FV}{c:cQ}(h:aKE v=some c)(j:Nat):c.at j=v:=by
 cases v<;>simp only[aKE] at h<;>cases h<;>rfl
theorem agC:∀{z:Nat} {b:af} {cols:List cQ},El z b=some cols->∀i,i<z->∃c v,cols[i]? =some c/\b[i]? =some (.c (.f v))/\∀j,c.at j=v
 |0,b,cols,_,i,h=>by omega
 |z+1,[],cols,h,_,_=>by simp[El] at h
 |z+1,.a _ _::_,cols,h,_,_=>by simp[El] at h
 |z+1,.c v::r,cols,h,i,hi=>by
  cases v<;>simp only[El] at h<;>first|(cases h;done)|skip
  split at h
  .rename_i c cs h1 h2
   cases h;cases i with
   |zero=>exact⟨c,_,rfl,rfl,aRm h1⟩
   |succ i=>simpa using agC h2 i (by omega)
  .cases h
theorem aqD {z:Nat}{row:af}:∀{m:Nat} {b r:af},Wk z row m b=some r->af.size b=m+af.size r/\(∀j,j<m->∃v,row[(m-1-j)%z]? =some (.c (.f v))/\af.get b j=.f v)/\∀j,af.get b (m+j)=af.get r j
 |0,b,r,h=>by
  simp only[Wk,gS] at h;subst h;exact⟨by omega,λj hj=>by omega,λj=>by rw[eX]⟩
 |m+1,[],r,h=>by simp[Wk] at h
 |m+1,.a _ _::_,r,h=>by simp[Wk] at h
 |m+1,.c v::q,r,h=>by
  cases v<;>simp only[Wk] at h<;>first|(cases h;done)|skip
  rename_i v
  split at h
  .rename_i y hy
   split at h
   .rename_i hs
    have hs:=FV.aXU hs;subst hs;obtain⟨e1,e2,e3⟩:=aqD h;refine⟨by rw[af.size_cons,Sg.jR,e1];omega,λj hj=> ?_,λj=> ?_⟩
    .cases j with
     |zero=>exact⟨v,by simpa using hy,rfl⟩
     |succ j=>
      obtain⟨v',h1,h2⟩:=e2 j (by omega);refine⟨v',by rw[show m+1-1-(j+1)=m-1-j by omega];exact h1,?_⟩;rw[<-af.jS (l:=q) (j':=j) (by omega) (by omega)];exact h2
    .rw[<-af.jS (l:=q) (j':=m+j) (by omega) (by omega)];exact e3 j
   .cases h
  .cases h
theorem alI:∀{tm:List Tm} {b r:af},ab2 tm b=some r->af.size r=af.size b/\∀j,af.get r j=af.get b j
 | [],[],r,h=>by simp only[ab2,gS] at h;subst h;exact⟨rfl,λ_=>rfl⟩
 | [],_::_,r,h=>by simp[ab2] at h
 |.c::tm,[],r,h=>by simp[ab2] at h
 |.c::tm,.a _ _::_,r,h=>by simp[ab2] at h
 |.c::tm,.c v::q,r,h=>by
  simp only[ab2,mm] at h;obtain⟨r',h1,rfl⟩:=h;obtain⟨e1,e2⟩:=alI h1;refine⟨by rw[af.size_cons,af.size_cons,e1],λj=> ?_⟩;cases j with
  |zero=>rfl
  |succ j=>rw[<-af.jS (l:=r') (j':=j) (by omega) (by omega),<-af.jS (l:=q) (j':=j) (by omega) (by omega),e2]
 |.a n z::tm,b,r,h=>by
  simp only[ab2] at h;split at h
  .rename_i cols h1
   split at h
   .rename_i hz
    rw[fa] at hz;split at h
    .rename_i q h2
     simp only[mm] at h;obtain⟨r',h3,rfl⟩:=h;obtain⟨e1,e2⟩:=alI h3;obtain⟨f1,f2,f3⟩:=aqD h2;have hl:=alF h1;refine⟨by rw[af.size_cons,Sg.kT,Sz.val,hl,e1,f1],λj=> ?_⟩;by_cases hj:j<n*z
     .rw[af.dJ (by rw[Sg.kT,Sz.val,hl];exact hj),Sg.oL];obtain⟨v,g1,g2⟩:=f2 j hj;rw[g2];unfold iI;rw[hl];have hm:=Nat.mod_lt j (show z>0 by omega);obtain⟨c,v',k1,k2,k3⟩:=agC h1 (j%z) hm;rw[k1];simp only[k3]
      have hlen:(b.take z).length=z:=by
       have:z<=b.length:=by
        obtain⟨_,_,_,k5,_⟩:=agC h1 (z-1) (by omega);have:=(ld.1 k5).1;omega
       simp;omega
      have a3B:(n*z-1-j)%z=z-1-j%z:=by
       have hd:=Nat.div_add_mod j z;have hq:j/z<n:=(aye (by omega)).2 hj;obtain⟨t,ht⟩:∃t,n=j/z+1+t:=⟨n-(j/z+1),by omega⟩
       have:n*z-1-j=z*t+(z-1-j%z):=by
        have:n*z=z*(j/z)+z+z*t:=by rw[ht,ab1,Nat.mul_add,Nat.mul_add,Nat.mul_one]
        omega
       rw[this,atd,alv (by omega)]
      rw[a3B,List.getElem?_reverse (by omega),hlen,show z-1-(z-1-j%z)=j%z by omega,Wf,if_pos hm,k2] at g1;cases g1;rfl
     .have e:af.get (.a (.l n) cols::r') j=af.get r' (j-n*z):=by
       rw[<-af.qu (l:=r') (j':=j-n*z) (by rw[hl];omega) (by rw[hl])]
      rw[e,e2,<-f3];congr 1;omega
    .cases h
   .cases h
  .cases h
def bl {α β:Type}(R:α->β->Prop):List α->List β->Prop
 | [],[]=>True
 |a::l,b::m=>R a b/\bl R l m
 |_,_=>False
theorem bl.imp {α β:Type}{R S:α->β->Prop}(h:∀a b,R a b->S a b):∀{l:List α} {m:List β},bl R l m->bl S l m
 | [],[],_=>trivial
 |_::_,_::_,⟨a,b⟩=>⟨h _ _ a,bl.imp h b⟩
 | [],_::_,h=>h.elim
 |_::_,[],h=>h.elim
theorem bl.length {α β:Type}{R:α->β->Prop}:∀{l:List α} {m:List β},bl R l m->l.length=m.length
 | [],[],_=>rfl
 |_::_,_::_,⟨_,b⟩=>by simp[bl.length b]
 | [],_::_,h=>h.elim
 |_::_,[],h=>h.elim
theorem bl.append {α β:Type}{R:α->β->Prop}:∀{l:List α} {m:List β} {l':List α} {m':List β},bl R l m->bl R l' m'->bl R (l++l') (m++m')
 | [],[],_,_,_,h=>h
 |_::_,_::_,_,_,⟨a,b⟩,h=>⟨a,bl.append b h⟩
 | [],_::_,_,_,h,_=>h.elim
 |_::_,[],_,_,h,_=>h.elim
theorem bl.get {α β:Type}{R:α->β->Prop}:∀{l:List α} {m:List β},bl R l m->∀{i:Nat} {a:α},l[i]? =some a->∃b,m[i]? =some b/\R a b
 |a::l,b::m,⟨h,_⟩,0,x,e=>⟨b,rfl,by simp at e;exact e▸h⟩
 |a::l,b::m,⟨_,h⟩,i+1,x,e=>by simp at e ⊢;exact bl.get h e
 | [],_,_,i,a,e=>by simp at e
 |_::_,[],h,_,_,_=>h.elim
theorem bl.get' {α β:Type}{R:α->β->Prop}:∀{l:List α} {m:List β},bl R l m->∀{i:Nat} {b:β},m[i]? =some b->∃a,l[i]? =some a/\R a b
 |a::l,b::m,⟨h,_⟩,0,x,e=>⟨a,rfl,by simp at e;exact e▸h⟩
 |a::l,b::m,⟨_,h⟩,i+1,x,e=>by simp at e ⊢;exact bl.get' h e
 |_,[],_,i,a,e=>by simp at e
 | [],_::_,h,_,_,_=>h.elim
theorem bl.agD {α β:Type}{R:α->β->Prop}:∀{l:List α} {m:List β},l.length=m.length->(∀(i:Nat) a b,l[i]? =some a->m[i]? =some b->R a b)->bl R l m
 | [],[],_,_=>trivial
 |a::l,b::m,e,h=>⟨h 0 a b rfl rfl,bl.agD (by simpa using e) λi x y hx hy=>h (i+1) x y (by simpa using hx) (by simpa using hy)⟩
 | [],_::_,e,_=>by simp at e
 |_::_,[],e,_=>by simp at e
theorem bl.take {α β:Type}{R:α->β->Prop}:∀{l:List α} {m:List β} (n:Nat),bl R l m->bl R (l.take n) (m.take n)
 | [],[],n,_=>by simp[bl]
 |_::_,_::_,0,_=>by simp[bl]
 |_::_,_::_,n+1,⟨a,b⟩=>⟨a,bl.take n b⟩
 | [],_::_,_,h=>h.elim
 |_::_,[],_,h=>h.elim
theorem bl.drop {α β:Type}{R:α->β->Prop}:∀{l:List α} {m:List β} (n:Nat),bl R l m->bl R (l.drop n) (m.drop n)
 | [],[],n,_=>by simp[bl]
 |_::_,_::_,0,h=>h
 |_::_,_::_,n+1,⟨_,b⟩=>bl.drop n b
 | [],_::_,_,h=>h.elim
 |_::_,[],_,h=>h.elim
abbrev Pi:=Nat->Option (Nat×Nat×Nat×Nat)
def Ext (π π':Pi):Prop:=∀b p,π b=some p->π' b=some p
theorem Ext.refl (π:Pi):Ext π π:=λ_ _ h=>h
theorem Ext.trans {π π' π'':Pi}(h:Ext π π')(k:Ext π' π''):Ext π π'':=λb p e=>k b p (h b p e)
class ax where
 h0:Nat
 fs:Nat->Nat->Option Value
section
variable [ax]
def FV.rel:FV->Value->Prop
 |.u,x=>x.oneCell'=true
 |.b y,x=>x=.bool y
 |.i k n,x=>x=.int k n
 |.s y,x=>x=.string y
 |.q n g,x=>(n=0/\∃a,x=.slice a 0 0)∨∃B s cap,n<=cap/\x=.slice (some ⟨B,s,none⟩) n cap/\∀j,j<n->ax.fs B (s+j)=some (.bool (g j))
def CV.rel (π:Pi):CV->Value->Prop
 |.f v,x=>v.rel x
 |.ptr b o n,x=>∃B s q e,π b=some (B,s,q,e)/\x=.pointer (some ⟨B,s+o.val,none⟩)/\o.val+n<=q
 |.ai2,x=>x=.pointer none
 |.sl b o n z own,x=>∃B s q e,π b=some (B,s,q,e)/\o.val+n.val*z<=q/\(own=true->o.val+n.val*z=q)/\((n.val=0/\∃a,x=.slice a 0 0)∨∃cap,n.val<=cap/\x=.slice (some ⟨B,s+o.val,none⟩) n.val cap/\(own=true->s+o.val+cap*z<=e))
 |.nils,x=>x=.slice none 0 0
 |.aSR,x=>x=.nilFunc
 |.aSS,x=>x=.nilIface
 |.cl fid b o n,x=>∃B s q e,π b=some (B,s,q,e)/\x=.func (.func fid) #[] #[.pointer (some ⟨B,s+o.val,none⟩)]/\o.val+n<=q
 |.fs n z cols,x=>cols.length=z/\((n=0/\∃a,x=.slice a 0 0)∨∃B s cap,n<=cap/\x=.slice (some ⟨B,s,none⟩) n cap/\∀j,j<n*z->∃f v,iI cols j=.f f/\ax.fs B (s+j)=some v/\f.rel v)
 |.fp l,x=>∃B s,x=.pointer (some ⟨B,s,none⟩)/\∀j f,l[j]? =some f->∃v,ax.fs B (s+j)=some v/\f.rel v
def RV.rel (π:Pi):RV->Value->Prop
 |.c v,x=>v.rel π x
 |.agg cs,x=>∃a:Array Value,x=.agg a/\bl (CV.rel π) cs.list a.toList
def AV.rel (π:Pi):AV->Value->Prop
 |.r v,x=>v.rel π x
 |.tup vs,x=>∃a:Array Value,x=.tuple a/\bl (RV.rel π) vs a.toList
 |.fn f vs,x=>∃a:Array Value,x=.func (.func f) #[] a/\bl (RV.rel π) vs a.toList
 |.Wh,_=>True
theorem FV.Rb {v:FV}{x:Value}(h:v.rel x):x.oneCell'=true:=by
 cases v with
 |q n g=>
  simp only[FV.rel] at h;obtain⟨_,_,rfl⟩| ⟨_,_,_,_,rfl,_⟩:=h<;>rfl
 |_=>simp[FV.rel] at h<;>first|exact h|(subst h;rfl)
theorem CV.Rb {π:Pi}{v:CV}{x:Value}(h:v.rel π x):x.oneCell'=true:=by
 cases v<;>simp only[CV.rel] at h
 case f v=>exact FV.Rb h
 case ptr=>obtain⟨_,_,_,_,_,rfl,_⟩:=h;rfl
 case cl=>obtain⟨_,_,_,_,_,rfl,_⟩:=h;rfl
 case fs=>obtain⟨_,⟨_,_,rfl⟩| ⟨_,_,_,_,rfl,_⟩⟩:=h<;>rfl
 case fp=>obtain⟨_,_,rfl,_⟩:=h;rfl
 case sl=>obtain⟨_,_,_,_,_,_,_,⟨_,_,rfl⟩| ⟨_,_,rfl,_⟩⟩:=h<;>rfl
 all_goals (subst h;rfl)
theorem CV.dC {π π':Pi}(h:Ext π π')(v:CV)(x:Value)(r:v.rel π x):v.rel π' x:=by
 cases v<;>simp only[CV.rel] at r ⊢
 case ptr=>obtain⟨B,s,q,e,hb,hx⟩:=r;exact⟨B,s,q,e,h _ _ hb,hx⟩
 case cl=>obtain⟨B,s,q,e,hb,hx⟩:=r;exact⟨B,s,q,e,h _ _ hb,hx⟩
 case sl=>obtain⟨B,s,q,e,hb,hx⟩:=r;exact⟨B,s,q,e,h _ _ hb,hx⟩
 all_goals exact r
theorem RV.dC {π π':Pi}(h:Ext π π')(v:RV)(x:Value)(r:v.rel π x):v.rel π' x:=by
 cases v<;>simp only[RV.rel] at r ⊢
 case c=>exact CV.dC h _ _ r
 case agg=>obtain⟨a,hx,ha⟩:=r;exact⟨a,hx,ha.imp (CV.dC h)⟩
theorem AV.dC {π π':Pi}(h:Ext π π')(v:AV)(x:Value)(r:v.rel π x):v.rel π' x:=by
 cases v<;>simp only[AV.rel] at r ⊢
 case r=>exact RV.dC h _ _ r
 case tup=>obtain⟨a,hx,ha⟩:=r;exact⟨a,hx,ha.imp (RV.dC h)⟩
 case fn=>obtain⟨a,hx,ha⟩:=r;exact⟨a,hx,ha.imp (RV.dC h)⟩
omit [ax] in
theorem aRn {x:Value}(h:x.oneCell'=true):x.cells=#[x]:=by
 cases x<;>simp_all [Value.oneCell',Value.cells]
omit [ax] in
theorem aTY (v:CV):af.list [.c v]=[v]:=rfl
theorem RV.Ox {π:Pi}{v:RV}{x:Value}(h:v.rel π x):bl (CV.rel π) v.bR.list x.cells.toList:=by
 cases v<;>simp only[RV.rel] at h
 case c v=>rw[aRn (CV.Rb h)];exact⟨h,trivial⟩
 case agg=>obtain⟨a,rfl,ha⟩:=h;exact ha
structure Gt where
 t:Nat->AV
 c:Nat->Nat->CV
 z:Nat->Option Nat
noncomputable def St.gt (s:St):Gt where
 t:=s.tmp
 c:=λb j=>match s.bR b with
  |some k=>if j<k.size then k.get j else .f .u
  |none=>.f .u
 z:=λb=>(s.bR b).map af.size
inductive Pt where
 |t (i:Nat)
 |c (b j:Nat)
 |z (b:Nat)
inductive PV where
 |t (v:AV)
 |c (v:CV)
 |z (v:Option Nat)
def Gt.at (g:Gt):Pt->PV
 |.t i=>.t (g.t i)
 |.c b j=>.c (g.c b j)
 |.z b=>.z (g.z b)
omit [ax] in
theorem Gt.aS9 {g g':Gt}(h:∀p,g.at p=g'.at p):g=g':=by
 cases g with|mk t c z=>cases g' with|mk t' c' z'=>
 have h1:t=t':=funext λi=>by simpa[Gt.at] using h (.t i)
 have h2:c=c':=funext λb=>funext λj=>by simpa[Gt.at] using h (.c b j)
 have h3:z=z':=funext λb=>by simpa[Gt.at] using h (.z b)
 subst h1 h2 h3;rfl
def inX (r:Option (Nat×Nat))(j:Nat):Prop:=
 match r with
 |some (lo,n)=>lo<=j/\j<lo+n
 |none=>True
def Fp.has:Fp->Pt->Prop
 |.t i,.t j=>i=j
 |.c b r,.c b' j=>b=b'/\inX r j
 |.z b,.z b'=>b=b'
 |_,_=>False
def Up.Hv:Up->Pt->Prop
 |.t i _,.t j=>i=j
 |.c b o v,.c b' j=>b=b'/\o.val<=j/\j<o.val+af.size v
 |.new b _,.c b' _|.kill b,.c b' _|.new b _,.z b'|.kill b,.z b'=>b=b'
 |_,_=>False
omit [ax] in
theorem aKL:∀{v:af} {n:Nat},szL v=some n->af.size v=n
 | [],n,h=>by simp only[szL,gS] at h;rw[<-h];rfl
 |.c _::r,n,h=>by
  simp only[szL,mm] at h;obtain⟨m,h1,rfl⟩:=h;rw[af.size_cons,Sg.jR,aKL h1]
 |.a (.l k) cols::r,n,h=>by
  simp only[szL,mm] at h;obtain⟨m,h1,rfl⟩:=h;rw[af.size_cons,Sg.kT,aKL h1];rfl
 |.a (.s _) _::_,n,h=>by simp[szL] at h
omit [ax] in
theorem aEN {o:cA}{v:af}{j:Nat}(h1:o.val<=j)(h2:j<o.val+af.size v):inX (aMZ o v) j:=by
 unfold aMZ;split
 .rename_i c
  cases hs:szL v with
  |none=>trivial
  |some n=>
   have:=aKL hs;simp only[Lt,inX];simp only[cA.val] at h1 h2;omega
 .trivial
omit [ax] in
theorem aZT {o:cA}{cB:Sz}{z j:Nat}(h:j<cB.val*z):inX (ext o cB z) (o.val+j):=by
 unfold ext;split
 .simp only[inX,cA.val];simp only[Sz.val] at h;omega
 .trivial
omit [ax] in
theorem aNa {r r':Option (Nat×Nat)}{j:Nat}(h1:inX r j)(h2:inX r' j):meet r r'=true:=by
 unfold meet;split
 .simp only[inX] at h1 h2;simp only[ovl,cj,rZ];omega
 .rfl
omit [ax] in
theorem Fp.aEO {fp:Fp}{u:Up}{p:Pt}(h1:fp.has p)(h2:u.Hv p):fp.aAg u=true:=by
 cases fp<;>cases u<;>cases p<;>simp only[Fp.has,Up.Hv,Fp.aAg,beq_iff,cj] at* <;>first|omega|skip
 .exact⟨by omega,aNa h1.2 (aEN h2.2.1 h2.2.2)⟩
omit [ax] in
theorem Up.aEO {u u':Up}{p:Pt}(h1:u.Hv p)(h2:u'.Hv p):u.aAg u'=true:=by
 cases u<;>cases u'<;>cases p<;>simp only[Up.Hv,Up.aAg,beq_iff,cj] at* <;>first|omega|skip
 .exact⟨by omega,aNa (aEN h1.2.1 h1.2.2) (aEN h2.2.1 h2.2.2)⟩
def Up.gX (u:Up)(g:Gt):Gt:=
 match u with
 |.t i v=>{g with t:=λj=>if j=i then v else g.t j}
 |.c b o v=>{g with c:=λb' j=>if b'=b/\o.val<=j/\j<o.val+af.size v then af.get v (j-o.val) else g.c b' j}
 |.new b k=>{g with c:=λb' j=>if b'=b then(if j<k.size then k.get j else .f .u) else g.c b' j,z:=λb'=>if b'=b then some k.size else g.z b'}
 |.kill b=>{g with c:=λb' j=>if b'=b then .f .u else g.c b' j,z:=λb'=>if b'=b then none else g.z b'}
omit [ax] in
theorem Up.SU {u:Up}{g:Gt}{p:Pt}(h:¬u.Hv p):(u.gX g).at p=g.at p:=by
 cases u<;>cases p<;>simp_all [Up.Hv,Up.gX,Gt.at]<;>first|(intro a;exact absurd a.symm (by assumption))|(intros;omega)|(intro a;subst a;simp_all)
omit [ax] in
theorem Up.aNb {u:Up}{g g':Gt}{p:Pt}(h:u.Hv p):(u.gX g).at p=(u.gX g').at p:=by
 cases u<;>cases p<;>simp_all [Up.Hv,Up.gX,Gt.at]
def cE (us:List Up)(g:Gt):Gt:=us.foldl (λg u=>u.gX g) g
omit [ax] in
theorem qv:∀{us:List Up} {g:Gt} {p:Pt},(∀u∈us,¬u.Hv p)->(cE us g).at p=g.at p
 | [],_,_,_=>rfl
 |u::us,g,p,h=>by
  show(cE us (u.gX g)).at p=_;rw[qv λv hv=>h v (by simp[hv]),Up.SU (h u (by simp))]
omit [ax] in
theorem agE:∀{us:List Up} {g g':Gt} {p:Pt},(∃u∈us,u.Hv p)∨g.at p=g'.at p->(cE us g).at p=(cE us g').at p
 | [],g,g',p,h=>by
  rcases h with⟨u,hu,_⟩|h
  .simp at hu
  .exact h
 |u::us,g,g',p,h=>by
  show(cE us (u.gX g)).at p=(cE us (u.gX g')).at p;apply agE
  by_cases hu:u.Hv p
  .exact .inr (Up.aNb hu)
  .rcases h with⟨v,hv,ht⟩|h
   .rcases SN.1 hv with rfl|hv
    .exact absurd ht hu
    .exact .inl ⟨v,hv,ht⟩
   .exact .inr (by rw[Up.SU hu,Up.SU hu,h])
inductive aI {α:Type}:Rd α->Gt->α->List Fp->Prop where
 |ret (a:α) (g:Gt):aI (.ret a) g a []
 |tm {i:Nat} {k:AV->Rd α} {g:Gt} {a:α} {l:List Fp} (h:aI (k (g.t i)) g a l):aI (.tm i k) g a (.t i::l)
 |vw {b:Nat} {o:cA} {cB:Sz} {z:Nat} {k:af->Rd α} {g:Gt} {a:α} {l:List Fp} (q:Nat) (v:af) (hz:g.z b=some q) (hs:af.size v=cB.val*z) (hv:o.val+cB.val*z<=q->∀j,j<cB.val*z->af.get v j=g.c b (o.val+j)) (h:aI (k v) g a l):aI (.vw b o cB z k) g a (.c b (ext o cB z):: .z b::l)
 |sz {b:Nat} {k:Rd α} {g:Gt} {a:α} {l:List Fp} (q:Nat) (hz:g.z b=some q) (h:aI k g a l):aI (.sz b k) g a (.z b::l)
 |test {x:Bool} {k:Bool->Rd α} {g:Gt} {a:α} {l:List Fp} (h:aI (k x) g a l):aI (.test x k) g a l
 |opt {E:Type} {x:Option E} {k:E->Rd α} {d:E} {g:Gt} {a:α} {l:List Fp} (hx:x=some d) (h:aI (k d) g a l):aI (.opt x k) g a l
omit [ax] in
theorem aI.local {α:Type}{m:Rd α}{g g':Gt}{a:α}{l:List Fp}(h:aI m g a l):(∀fp∈l,∀p,fp.has p->g.at p=g'.at p)->aI m g' a l:=by
 induction h with
 |ret a g=>intro _;exact .ret _ _
 |@tm i k g a l h ih=>
  intro e;have e1:g.t i=g'.t i:=by simpa[Gt.at] using e (.t i) (by simp) (.t i) rfl
  exact .tm (e1▸ih λfp hf=>e fp (by simp[hf]))
 |@vw b o cB z k g a l q v hz hs hv h ih=>
  intro e;have e1:g.z b=g'.z b:=by simpa[Gt.at] using e (.z b) (by simp) (.z b) rfl
  refine .vw q v (e1▸hz) hs (λhle j hj=> ?_) (ih λfp hf=>e fp (by simp[hf]));rw[hv hle j hj];simpa[Gt.at] using e (.c b (ext o cB z)) (by simp) (.c b (o.val+j)) ⟨rfl,aZT hj⟩
 |@sz b k g a l q hz h ih=>
  intro e;have e1:g.z b=g'.z b:=by simpa[Gt.at] using e (.z b) (by simp) (.z b) rfl
  exact .sz q (e1▸hz) (ih λfp hf=>e fp (by simp[hf]))
 |test h ih=>intro e;exact .test (ih e)
 |opt hx h ih=>intro e;exact .opt hx (ih e)
omit [ax] in
theorem aI.bind {α β:Type}{m:Rd α}{f:α->Rd β}{g:Gt}{b:β}{l:List Fp}(h:aI (m.bind f) g b l):
  ∃a l1 l2,aI m g a l1/\aI (f a) g b l2/\l=l1++l2:=by
 induction m generalizing l with
 |ret a=>exact⟨a,[],l,.ret _ _,h,rfl⟩
 |fail=>cases h
 |tm i k ih=>cases h with|tm h=>obtain⟨a,l1,l2,h1,h2,e⟩:=ih _ h;exact⟨a,_,l2,.tm h1,h2,by simp[e]⟩
 |vw b o cB z k ih=>cases h with|vw q v hz hs hv h=>obtain⟨a,l1,l2,h1,h2,e⟩:=ih _ h;exact⟨a,_,l2,.vw q v hz hs hv h1,h2,by simp[e]⟩
 |sz b k ih=>cases h with|sz q hz h=>obtain⟨a,l1,l2,h1,h2,e⟩:=ih h;exact⟨a,_,l2,.sz q hz h1,h2,by simp[e]⟩
 |opt x k ih=>cases h with|opt hx h=>obtain⟨a,l1,l2,h1,h2,e⟩:=ih _ h;exact⟨a,_,l2,.opt hx h1,h2,by simp[e]⟩
 |test x k ih=>cases h with|test h=>obtain⟨a,l1,l2,h1,h2,e⟩:=ih _ h;exact⟨a,_,l2,.test h1,h2,by simp[e]⟩
omit [ax] in
theorem aI.bind' {α β:Type}{m:Rd α}{f:α->Rd β}{g:Gt}{b:β}{l:List Fp}(h:aI (m.bind f) g b l):
  ∃a,(∃l1,aI m g a l1)/\∃l2,aI (f a) g b l2:=by
 obtain⟨a,l1,l2,h1,h2,_⟩:=h.bind;exact⟨a,⟨l1,h1⟩,l2,h2⟩
omit [ax] in
theorem St.aqE {s:St}{b:Nat}{k:af}(h:s.bR b=some k):s.gt.z b=some k.size:=by simp[St.gt,h]
omit [ax] in
theorem St.aTa {s:St}{b j:Nat}{k:af}(h:s.bR b=some k)(hj:j<k.size):s.gt.c b j=k.get j:=by simp[St.gt,h,hj]
omit [ax] in
theorem Rd.aRo {α ρ:Type}{m:Rd α}{s:St}{k:α->List Fp->Option ρ}{r:ρ}:∀{l:List Fp},m.run s l k=some r->
  ∃a fp,aI m s.gt a fp/\k a (fp.reverse++l)=some r:=by
 induction m with
 |ret a=>intro l h;exact⟨a,[],.ret _ _,h⟩
 |fail=>intro l h;simp[Rd.run] at h
 |tm i f ih=>
  intro l h;obtain⟨a,fp,h1,h2⟩:=ih _ h;exact⟨a,.t i::fp,.tm h1,by simpa using h2⟩
 |vw b o cB z f ih=>
  intro l h;simp only[Rd.run] at h;split at h
  .rename_i bR hb
   split at h
   .rename_i p hp
    split at h
    .rename_i hg
     obtain⟨a,fp,h1,h2⟩:=ih _ h;obtain⟨g,v⟩:=p;simp only at hg h1;subst hg;obtain⟨e1,e2⟩:=af.ayr hp;exact⟨a,.c b (ext o cB z):: .z b::fp,.vw (af.size bR) _ (St.aqE hb) e1 (λhle j hj=>(e2 hle j hj).trans (St.aTa hb (by omega)).symm) h1,by simpa using h2⟩
    .simp at h
   .simp at h
  .simp at h
 |sz b f ih=>
  intro l h;simp only[Rd.run] at h;split at h
  .rename_i bR hb
   obtain⟨a,fp,h1,h2⟩:=ih h;exact⟨a,.z b::fp,.sz (af.size bR) (St.aqE hb) h1,by simpa using h2⟩
  .simp at h
 |test x f ih=>
  intro l h;cases x
  .obtain⟨a,fp,h1,h2⟩:=ih _ h;exact⟨a,fp,.test h1,h2⟩
  .obtain⟨a,fp,h1,h2⟩:=ih _ h;exact⟨a,fp,.test h1,h2⟩
 |opt x f ih=>
  intro l h;cases x with
  |none=>cases h
  |some d=>obtain⟨a,fp,h1,h2⟩:=ih d (l:=l) h;exact⟨a,fp,.opt rfl h1,h2⟩
omit [ax] in
theorem aTZ {α:Type}(l:List α)(i j:Nat)(v d:α)(h:i<l.length):(l.set i v).getD j d=if j=i then v else l.getD j d:=by
 simp only[List.getD,aEw];by_cases e:i=j
 .subst e;simp[h]
 .simp[e,Ne.symm e]
omit [ax] in
theorem Aj (l:List AV)(i:Nat):alz l i=l.getD i udf:=by
 induction l generalizing i with
 |nil=>rfl
 |cons a l ih=>
  cases i with
  |zero=>rfl
  |succ i=>exact(ih i).trans (by simp[List.getD])
omit [ax] in
theorem alJ {α ρ:Type}(l:List α)(i:Nat)(v:α)(k:List α->Option ρ):aAe l i v k=if i<l.length then k (l.set i v) else none:=by
 induction l generalizing i k with
 |nil=>rfl
 |cons a l ih=>
  cases i with
  |zero=>rfl
  |succ i=>
   have:aAe (a::l) (i+1) v k=aAe l i v λl'=>k (a::l'):=rfl
   rw[this,ih];simp
omit [ax] in
theorem avf {l:List (Option af)}{b b':Nat}{x:Option af}(h:b<l.length):((l.set b x)[b']?).getD none=if b'=b then x else(l[b']?).getD none:=by
 simp only[aEw];by_cases e:b=b'
 .subst e;simp[h]
 .simp[e,Ne.symm e]
omit [ax] in
theorem St.aKM {s:St}{b:Nat}{k:af}(h:s.bR b=some k):b<s.heap.length:=by
 rcases ns b s.heap.length with h'|h'
 .exact h'
 .simp[St.bR,DS h'] at h
omit [ax] in
theorem aNc {l:List (Option af)}{b':Nat}{x:Option af}:((l++[x])[b']?).getD none=if b'=l.length then x else(l[b']?).getD none:=by
 rw[List.getElem?_append];by_cases h:b'<l.length
 .simp[h,Nat.ne_of_lt h]
 .by_cases e:b'=l.length
  .subst e;simp
  .rw[if_neg h,if_neg e,DS (by simp;omega),DS (by omega)]
omit [ax] in
theorem Up.aZU {s:St}{u:Up}(k:Nat)(h:u.ok s=true):(u.app k s).gt=u.gX s.gt:=by
 apply Gt.aS9
 intro p;cases u with
 |t i v=>
  have hi:i<s.tmps.length:=by have h:=h;simp[Up.ok,Nat.blt] at h;omega
  cases p<;>simp only[Gt.at,Up.app,Up.gX,St.gt,St.tmp,St.bR,PV.t.injEq]
  rw[Aj,Aj];exact aTZ _ _ _ _ _ hi
 |c b o v=>
  simp only[Up.ok] at h;split at h
  .rename_i bR hb
   split at h
   .rename_i p' hp
    obtain⟨g',nb⟩:=p';simp only[cj,fa] at h;obtain⟨rfl,hle⟩:=h;obtain⟨xI,alK⟩:=af.aTW hp;have mH:=St.aKM hb;have aaj:∀b',St.bR {s with heap:=s.heap.set b (some nb),dk:=mark k b s.dk} b'=if b'=b then some nb else s.bR b':=λb'=>avf mH
    cases p with
    |t j=>simp only[Gt.at,Up.app,Up.gX,St.gt,hb,St.tmp,hp]
    |c b' j=>
     simp only[Gt.at,Up.app,Up.gX,St.gt,hb,PV.c.injEq,hp,aaj];by_cases e:b'=b
     .subst e;simp only[kR,hb,xI,zW];by_cases hj:j<af.size bR
      .simp only[hj,kR,alK j hj]
      .simp only[hj,fY];rw[if_neg (by omega)]
     .simp only[e,fY,false_and]
    |z b'=>
     simp only[Gt.at,Up.app,Up.gX,St.gt,hb,PV.z.injEq,hp,aaj];by_cases e:b'=b
     .subst e;simp[hb,xI]
     .simp[e]
   .simp at h
  .simp at h
 |new b bR=>
  have hb:b=s.heap.length:=mO h;have aaj:∀b',St.bR {s with heap:=s.heap++[some bR]} b'=if b'=b then some bR else s.bR b':=λb'=>by rw[hb];exact aNc
  cases p with
  |t j=>simp only[Gt.at,Up.app,Up.gX,St.gt,St.tmp]
  |c b' j=>
   simp only[Gt.at,Up.app,Up.gX,St.gt,PV.c.injEq,aaj];by_cases e:b'=b<;>simp[e]
  |z b'=>
   simp only[Gt.at,Up.app,Up.gX,St.gt,PV.z.injEq,aaj];by_cases e:b'=b<;>simp[e]
 |kill b=>
  have hb:b<s.heap.length:=by have h:=h;simp[Up.ok,Nat.blt] at h;omega
  have aaj:∀b',St.bR {s with heap:=s.heap.set b none,dk:=mark k b s.dk} b'=if b'=b then none else s.bR b':=λb'=>avf hb
  cases p with
  |t j=>simp only[Gt.at,Up.app,Up.gX,St.gt,St.tmp]
  |c b' j=>
   simp only[Gt.at,Up.app,Up.gX,St.gt,PV.c.injEq,aaj];by_cases e:b'=b<;>simp[e]
  |z b'=>
   simp only[Gt.at,Up.app,Up.gX,St.gt,PV.z.injEq,aaj];by_cases e:b'=b<;>simp[e]
omit [ax] in
theorem Oy {k:Nat}:∀{us:List Up} {s s':St},jA k us s=some s'->s'.gt=cE us s.gt
 | [],s,s',h=>by simp[jA] at h;subst h;rfl
 |u::us,s,s',h=>by
  simp only[jA] at h;split at h
  .rename_i hu
   rw[Oy h,Up.aZU k hu];rfl
  .simp at h
end
theorem Wp {α ρ:Type}(l:List α)(k:List α->ρ):agx l k=k l:=by
 induction l generalizing k with
 |nil=>rfl
 |cons a l ih=>exact ih λl=>k (a::l)
theorem aEP {ρ:Type}(o:cA)(k:cA->ρ):au4 o k=k o:=by cases o<;>rfl
theorem aEQ {ρ:Type}(o:Sz)(k:Sz->ρ):aKJ o k=k o:=by cases o<;>rfl
theorem aER {ρ:Type}(o:FV)(k:FV->ρ):aDP o k=k o:=by cases o<;>rfl
theorem aKN {ρ:Type}(o:cQ)(k:cQ->ρ):ayo o k=k o:=by cases o<;>rfl
theorem aqF {ρ:Type}(l:List cQ)(k:List cQ->ρ):Wl l k=k l:=by
 induction l generalizing k with
 |nil=>rfl
 |cons a l ih=>
  have:Wl (a::l) k=ayo a λa=>Wl l λl=>k (a::l):=rfl
  rw[this,aKN,ih]
theorem aNd {ρ:Type}(l:List FV)(k:List FV->ρ):au5 l k=k l:=by
 induction l generalizing k with
 |nil=>rfl
 |cons a l ih=>
  have:au5 (a::l) k=aDP a λa=>au5 l λl=>k (a::l):=rfl
  rw[this,aER,ih]
theorem aES {ρ:Type}(o:CV)(k:CV->ρ):aDQ o k=k o:=by
 cases o<;>simp only[aDQ,aER,aEP,aEQ,aqF,aNd]
theorem aNe {ρ:Type}(o:Sg)(k:Sg->ρ):au6 o k=k o:=by
 cases o<;>simp only[au6,aES,aEQ,aqF]
theorem agF {ρ:Type}(l:af)(k:af->ρ):aaf l k=k l:=by
 induction l generalizing k with
 |nil=>rfl
 |cons a l ih=>
  have:aaf (a::l) k=au6 a λa=>aaf l λl=>k (a::l):=rfl
  rw[this,aNe,ih]
theorem aET {ρ:Type}(o:RV)(k:RV->ρ):au7 o k=k o:=by
 cases o<;>simp only[au7,aES,agF]
theorem aNf {ρ:Type}(l:List RV)(k:List RV->ρ):alC l k=k l:=by
 induction l generalizing k with
 |nil=>rfl
 |cons a l ih=>
  have:alC (a::l) k=au7 a λa=>alC l λl=>k (a::l):=rfl
  rw[this,aET,ih]
theorem aEU {ρ:Type}(o:AV)(k:AV->ρ):au8 o k=k o:=by
 cases o<;>simp only[au8,aET,aNf]
theorem aRp {ρ:Type}(o:Up)(k:Up->ρ):aDR o k=k o:=by
 cases o<;>simp only[aDR,aEU,aEP,agF]
theorem aNg {ρ:Type}(l:List Up)(k:List Up->ρ):au9 l k=k l:=by
 induction l generalizing k with
 |nil=>rfl
 |cons a l ih=>
  have:au9 (a::l) k=aDR a λa=>au9 l λl=>k (a::l):=rfl
  rw[this,aRp,ih]
theorem aNh {ρ:Type}(l:List AV)(k:List AV->ρ):ava l k=k l:=by
 induction l generalizing k with
 |nil=>rfl
 |cons a l ih=>
  have:ava (a::l) k=au8 a λa=>ava l λl=>k (a::l):=rfl
  rw[this,aEU,ih]
theorem aNi {ρ:Type}(o:Option af)(k:Option af->ρ):avb o k=k o:=by
 cases o<;>simp only[avb,agF]
theorem aNj {ρ:Type}(l:List (Option af))(k:List (Option af)->ρ):avc l k=k l:=by
 induction l generalizing k with
 |nil=>rfl
 |cons a l ih=>
  have:avc (a::l) k=avb a λa=>avc l λl=>k (a::l):=rfl
  rw[this,aNi,ih]
theorem LB {ρ:Type}(s:St)(k:St->ρ):xp s k=k s:=by
 unfold xp;simp only[Wp,aNh,aNj]
theorem Up.aEV {ρ:Type}(k:Nat)(u:Up)(s:St)(c:St->Option ρ):u.aek k s c=match u.ok s with
  |true=>c (u.app k s)
  |false=>none:=by
 cases u with
 |t i v=>
  simp only[Up.aek,alJ,Up.ok,Up.app];by_cases h:i<s.tmps.length
  .rw[if_pos h,rZ.2 h]
  .rw[if_neg h,Wm h]
 |c b o v=>
  simp only[Up.aek,Up.ok,Up.app,agF,Wp,alJ];split
  .rename_i bR hb
   have mH:b<s.heap.length:=St.aKM hb;split
   .rename_i p hp
    split<;>rename_i hg<;>simp only[hb,hp,hg,mH,kR]
   .rename_i hp;simp only[hb,hp]
  .rename_i hb;simp only[hb]
 |new b bR=>
  simp only[Up.aek,Up.ok,Up.app,Wp];cases Nat.beq b s.heap.length<;>rfl
 |kill b=>
  simp only[Up.aek,alJ,Up.ok,Up.app,Wp];by_cases h:b<s.heap.length
  .rw[if_pos h,rZ.2 h]
  .rw[if_neg h,Wm h]
theorem aEV {ρ:Type}(k:Nat)(us:List Up)(s:St)(c:St->Option ρ):aek k us s c=match jA k us s with
  |some s'=>c s'
  |none=>none:=by
 induction us generalizing s with
 |nil=>rfl
 |cons u us ih=>
  have:aek k (u::us) s c=u.aek k s λs=>aek k us s c:=rfl
  rw[this,Up.aEV,jA];split
  .rename_i h;simp only[h,ih]
  .rename_i h;simp only[h]
end Go.Ab
namespace Go.Ab
structure ck (w0:World)(S:Nat->Nat->Prop)(w:World):Prop where
 os:w.os=w0.os
 tape:w.tape=w0.tape
 output:w.output=w0.output
 size:w0.heap.size<=w.heap.size
 obj:∀B:Nat,B<w0.heap.size->(∀c t fz,w0.heap[B]? ≠some (.cells c t fz))->w.heap[B]? =w0.heap[B]?
 fzn:∀a,w.frozen? a=w0.frozen? a
 row:∀(B:Nat) c t fz,w0.heap[B]? =some (.cells c t fz)->∃c',w.heap[B]? =some (.cells c' t fz)/\c'.size=c.size/\∀i:Nat,¬S B i->c'[i]? =c[i]?
theorem ck.refl (w:World)(S:Nat->Nat->Prop):ck w S w:=
 ⟨rfl,rfl,rfl,cW _,λ_ _ _=>rfl,λ_=>rfl,λ_ c _ _ h=>⟨c,h,rfl,λ_ _=>rfl⟩⟩
theorem ck.mono {w0 w:World}{S S':Nat->Nat->Prop}(h:ck w0 S w)(hs:∀B i,B<w0.heap.size->S B i->S' B i):ck w0 S' w:=
 ⟨h.os,h.tape,h.output,h.size,h.obj,h.fzn,λB c t fz hb=>by
  obtain⟨c',h1,h2,h3⟩:=h.row B c t fz hb;refine⟨c',h1,h2,λi hi=>h3 i λhS=>hi (hs B i ?_ hS)⟩;rcases ns B w0.heap.size with h'|h'
  .exact h'
  .rw[ata h'] at hb;cases hb⟩
theorem ck.trans {w0 w w':World}{S S':Nat->Nat->Prop}(h:ck w0 S w)(h':ck w S' w')(hs:∀B i,B<w0.heap.size->S' B i->S B i):ck w0 S w':=by
 refine⟨h'.os.trans h.os,h'.tape.trans h.tape,h'.output.trans h.output,dw h.size h'.size,λB hB hn=> ?_,λa=>(h'.fzn a).trans (h.fzn a),λB c t fz hb=> ?_⟩
 .have e:=h.obj B hB hn;rw[<-e];exact h'.obj B (aEv hB h.size) (by rw[e];exact hn)
 .obtain⟨c1,e1,z1,k1⟩:=h.row B c t fz hb;obtain⟨c2,e2,z2,k2⟩:=h'.row B c1 t fz e1
  have hB:B<w0.heap.size:=by
   rcases ns B w0.heap.size with h'|h'
   .exact h'
   .rw[ata h'] at hb;cases hb
  exact⟨c2,e2,z2.trans z1,λi hi=>(k2 i λhS=>hi (hs B i hB hS)).trans (k1 i hi)⟩
theorem ck.drew {w0 w:World}{S:Nat->Nat->Prop}(h:ck w0 S w):ck w0 S {w with drawn:=w.drawn+1}:=⟨h.os,h.tape,h.output,h.size,h.obj,h.fzn,h.row⟩
theorem Wq (w:World)(c:Array Value)(t:TypeId)(a:Addr):(w.alloc (.cells c t)).frozen? a=w.frozen? a:=by
 by_cases h:a.block=w.heap.size
 .have e1:(w.alloc (.cells c t)).heap[a.block]? =some (.cells c t):=by
   rw[h];show(w.heap.push _)[w.heap.size]? =_;simp
  have e2:w.heap[a.block]? =none:=by rw[h];simp
  simp[World.frozen?,e1,e2]
 .exact World.frozen?_alloc_old _ _ _ h
theorem ck.alloc {w0 w:World}{S:Nat->Nat->Prop}(h:ck w0 S w)(cs:Array Value)(ty:TypeId):ck w0 S (w.alloc (.cells cs ty)):=by
 generalize ho:Obj.cells cs ty=o
 have mH:∀(B:Nat),B<w0.heap.size->(w.alloc o).heap[B]? =w.heap[B]? :=λB hB=>by
  show(w.heap.push o)[B]? =_;rw[Array.getElem?_push,if_neg (by have:=h.size;omega)]
 refine⟨h.os,h.tape,h.output,by rw[World.size_alloc];have:=h.size;omega,λB hB hn=>(mH B hB).trans (h.obj B hB hn),λa=>by rw[<-ho,Wq];exact h.fzn a,λB c t fz hb=> ?_⟩
 have hB:B<w0.heap.size:=by
  rcases ns B w0.heap.size with h'|h'
  .exact h'
  .rw[ata h'] at hb;cases hb
 rw[mH B hB];exact h.row B c t fz hb
theorem ck.setCell {w0 w:World}{S:Nat->Nat->Prop}(h:ck w0 S w){B i:Nat}(hs:w0.heap.size<=B∨S B i)(v:Value):ck w0 S (w.setCell ⟨B,i,none⟩ v):=by
 refine⟨h.os,h.tape,h.output,by simpa[World.setCell] using h.size,λB' hB hn=> ?_,λa=>(World.frozen?_setCell _ _ _ _).trans (h.fzn a),λB' c t fz hb=> ?_⟩
 .by_cases e:B=B'
  .subst e;have:=h.obj B hB hn;simp only[World.setCell,aKB,kR,this];cases hh:w0.heap[B]? with
   |none=>rfl
   |some x=>cases x<;>first|rfl|exact absurd hh (hn _ _ _)
  .simp only[World.setCell,aKB,e,fY];exact h.obj B' hB hn
 .have hB:B'<w0.heap.size:=by
   rcases ns B' w0.heap.size with h'|h'
   .exact h'
   .rw[ata h'] at hb;cases hb
  obtain⟨c1,e1,z1,k1⟩:=h.row B' c t fz hb;by_cases e:B=B'
  .subst e;refine⟨c1.setIfInBounds i v,by simp[World.setCell,aKB,e1],by simpa using z1,λj hj=> ?_⟩;have mc:i≠j:=λe=>by subst e;rcases hs with hs|hs;omega;exact hj hs
   rw[aSQ mc];exact k1 j hj
  .exact⟨c1,by simp only[World.setCell,aKB,e,fY];exact e1,z1,k1⟩
theorem ck.setCells {w0:World}{S:Nat->Nat->Prop}{B:Nat}:∀{vs:List Value} {o:Nat} {w:World},ck w0 S w->(w0.heap.size<=B∨∀j,j<vs.length->S B (o+j))->ck w0 S (w.setCells B o vs)
 | [],_,_,h,_=>h
 |v::vs,o,w,h,hs=>by
  rw[World.setCells];refine ck.setCells (h.setCell (hs.imp id λh=>by simpa using h 0 (by simp)) v) (hs.imp id λh j hj=> ?_);have:=h (j+1) (by simp;omega);rwa [show o+(j+1)=o+1+j by omega] at this
variable [ax]
def cl (w:World)(B i:Nat):Option Value:=w.cell? ⟨B,i,none⟩
def fz (w:World)(B i:Nat):Bool:=w.frozen? ⟨B,i,none⟩
omit [ax] in
theorem ab5 {w:World}{B i:Nat}(h:(cl w B i).isSome=true):B<w.heap.size:=by
 rcases ns B w.heap.size with h'|h'
 .exact h'
 .simp[cl,World.cell?,ata h'] at h
omit [ax] in
theorem aIW {w:World}{o:Obj}{B i:Nat}(h:B<w.heap.size):cl (w.alloc o) B i=cl w B i:=World.cell?_alloc_lt _ _ _ h
omit [ax] in
theorem aT0 {w:World}{o:Obj}{B i:Nat}(h:B<w.heap.size):fz (w.alloc o) B i=fz w B i:=World.frozen?_alloc_old _ _ _ (Nat.ne_of_lt h)
omit [ax] in
theorem ck.cl {w0 w:World}{S:Nat->Nat->Prop}(h:ck w0 S w){B i:Nat}(hB:B<w0.heap.size)(hs:¬S B i):cl w B i=cl w0 B i:=by
 simp only[Ab.cl,World.cell?];cases hh:w0.heap[B]? with
 |none=>rw[h.obj B hB (by simp[hh]),hh]
 |some x=>
  cases x with
  |cells c t f=>
   obtain⟨c',e,_,k⟩:=h.row B c t f hh;simp only[e];simpa using k i hs
  |_=>rw[h.obj B hB (by simp[hh]),hh]
omit [ax] in
theorem ck.fz {w0 w:World}{S:Nat->Nat->Prop}(h:ck w0 S w){B i:Nat}(hB:B<w0.heap.size):fz w B i=fz w0 B i:=by
 simp only[Ab.fz,World.frozen?];cases hh:w0.heap[B]? with
 |none=>rw[h.obj B hB (by simp[hh]),hh]
 |some x=>
  cases x with
  |cells c t f=>
   obtain⟨c',e,_,k⟩:=h.row B c t f hh;simp only[e]
  |_=>rw[h.obj B hB (by simp[hh]),hh]
structure Ak (w:World):Prop where
 sz:ax.h0<=w.heap.size
 fr:∀B i,ax.h0<=B->fz w B i=false
 st:∀B i v,ax.fs B i=some v->B<ax.h0/\cl w B i=some v
theorem Ak.same {w w':World}(h:Ak w)(e:w'.heap=w.heap):Ak w':=by
 refine⟨by rw[e];exact h.sz,λB i hB=> ?_,λB i v hv=> ?_⟩
 .have:=h.fr B i hB;simp only[fz,World.frozen?] at this ⊢;rw[e];exact this
 .obtain⟨h1,h2⟩:=h.st B i v hv;refine⟨h1,?_⟩;simp only[cl,World.cell?] at h2 ⊢;rw[e];exact h2
theorem Ak.alloc {w:World}(h:Ak w)(cs:Array Value)(t:TypeId):Ak (w.alloc (.cells cs t)):=by
 refine⟨by rw[World.size_alloc];have:=h.sz;omega,λB i hB=> ?_,λB i v hv=> ?_⟩
 .unfold fz;rw[Wq];exact h.fr B i hB
 .obtain⟨h1,h2⟩:=h.st B i v hv;exact⟨h1,by rw[aIW (ab5 (by rw[h2];rfl))];exact h2⟩
structure r9 (π:Pi)(c:Nat->Nat->CV)(z:Nat->Option Nat)(w:World):Prop where
 am:Ak w
 lb:∀b B s q e,z b≠none->π b=some (B,s,q,e)->s<e->ax.h0<=B
 hp:∀b n,z b=some n->∃B s e,π b=some (B,s,n,e)/\s+n<=e/\(∀i,s<=i->i<e->(cl w B i).isSome=true/\fz w B i=false)/\∀j,j<n->∃v,cl w B (s+j)=some v/\(c b j).rel π v
 dj:∀b b' B s q e s' q' e',b≠b'->z b≠none->z b'≠none->π b=some (B,s,q,e)->π b'=some (B,s',q',e')->∀i,s<=i->i<e->s'<=i->i<e'->False
theorem r9.aTb {π:Pi}{c:Nat->Nat->CV}{z:Nat->Option Nat}{w w':World}(h:r9 π c z w)
  (ha:Ak w')(hw:∀b B s q e,z b≠none->π b=some (B,s,q,e)->∀i,s<=i->i<e->cl w' B i=cl w B i/\fz w' B i=fz w B i):r9 π c z w':=by
 refine⟨ha,h.lb,λb n hz=> ?_,h.dj⟩;obtain⟨B,s,e,hb,hle,h1,h2⟩:=h.hp b n hz;refine⟨B,s,e,hb,hle,λi hi he=> ?_,λj hj=> ?_⟩
 .have:=hw b B s n e (by simp[hz]) hb i hi he;rw[this.1,this.2];exact h1 i hi he
 .have:=hw b B s n e (by simp[hz]) hb (s+j) (by omega) (by omega);rw[this.1];exact h2 j hj
theorem r9.LC {π π':Pi}{c:Nat->Nat->CV}{z:Nat->Option Nat}{w:World}(h:r9 π c z w)(hx:Ext π π'):r9 π' c z w:=by
 refine⟨h.am,λb B s q e hz hb A8=> ?_,λb n hz=> ?_,λb b' B s q e s' q' e' mc hz tV hb eV=> ?_⟩
 .cases hh:z b with
  |none=>exact absurd hh hz
  |some n=>
   obtain⟨B1,s1,e1,hb1,_⟩:=h.hp b n hh;have e2:=hx _ _ hb1;rw[hb] at e2;cases e2;exact h.lb b B s _ e (by rw[hh];simp) hb1 A8
 .obtain⟨B,s,e,hb,hle,h1,h2⟩:=h.hp b n hz;exact⟨B,s,e,hx _ _ hb,hle,h1,λj hj=>let⟨v,a,r⟩:=h2 j hj;⟨v,a,CV.dC hx _ _ r⟩⟩
 .have wT:∀b,z b≠none->∃p,π b=some p:=λb hz=>by
   cases hh:z b with
   |none=>exact absurd hh hz
   |some n=>obtain⟨B,s,e,hb,_⟩:=h.hp b n hh;exact⟨_,hb⟩
  obtain⟨p,hp⟩:=wT b hz;obtain⟨p',uj⟩:=wT b' tV;have e1:=hx _ _ hp;rw[hb] at e1;have e2:=hx _ _ uj;rw[eV] at e2;exact h.dj b b' B s q e s' q' e' mc hz tV (hp.trans e1.symm) (uj.trans e2.symm)
theorem r9.kill {π:Pi}{c:Nat->Nat->CV}{z:Nat->Option Nat}{w:World}(h:r9 π c z w)(b:Nat):
  r9 π (λb' j=>if b'=b then .f .u else c b' j) (λb'=>if b'=b then none else z b') w:=by
 refine⟨h.am,λb' B s q e hz hb A8=> ?_,λb' n hz=> ?_,λb1 b2 B s q e s' q' e' mc hz tV=> ?_⟩
 .by_cases e:b'=b
  .simp[e] at hz
  .simp only[e,fY] at hz;exact h.lb b' B s q _ hz hb A8
 .by_cases e:b'=b
  .simp[e] at hz
  .simp only[e,fY] at hz ⊢;exact h.hp b' n hz
 .by_cases e1:b1=b
  .simp[e1] at hz
  by_cases e2:b2=b
  .simp[e2] at tV
  simp only[e1,e2,fY] at hz tV;exact h.dj b1 b2 B s q e s' q' e' mc hz tV
theorem r9.new {π:Pi}{c:Nat->Nat->CV}{z:Nat->Option Nat}{w:World}(h:r9 π c z w){b B s e:Nat}{k:af}(hb:π b=some (B,s,k.size,e))(hle:s+k.size<=e)
  (h1:∀i,s<=i->i<e->(cl w B i).isSome=true/\fz w B i=false)(h2:∀j,j<k.size->∃v,cl w B (s+j)=some v/\(k.get j).rel π v)
  (hd:∀b' s' q' e',b'≠b->z b'≠none->π b'=some (B,s',q',e')->∀i,s<=i->i<e->s'<=i->i<e'->False)(hlb:s<e->ax.h0<=B):
  r9 π (λb' j=>if b'=b then(if j<k.size then k.get j else .f .u) else c b' j) (λb'=>if b'=b then some k.size else z b') w:=by
 refine⟨h.am,λb' B' s' q' e' hz eV A8=> ?_,λb' n hz=> ?_,λb1 b2 B' s1 q1 e1 s2 q2 e2 mc hz tV hb1 DY i i1 i2 i3 i4=> ?_⟩
 .by_cases x:b'=b
  .subst x;rw[hb] at eV;cases eV;exact hlb A8
  .simp only[x,fY] at hz;exact h.lb b' B' s' q' e' hz eV A8
 .by_cases e':b'=b
  .subst e';simp only[kR,gS] at hz;subst hz;refine⟨B,s,e,hb,hle,h1,λj hj=> ?_⟩;simp only[kR,hj];exact h2 j hj
  .simp only[e',fY] at hz ⊢;exact h.hp b' n hz
 .by_cases x1:b1=b
  .subst x1;have x2:b2≠b1:=λx=>mc x.symm
   rw[hb] at hb1;cases hb1;simp only[x2,fY] at tV;exact hd b2 s2 q2 e2 x2 tV DY i i1 i2 i3 i4
  .by_cases x2:b2=b
   .subst x2;rw[hb] at DY;cases DY;simp only[x1,fY] at hz;exact hd b1 s1 q1 e1 x1 hz hb1 i i3 i4 i1 i2
   .simp only[x1,x2,fY] at hz tV;exact h.dj b1 b2 B' s1 q1 e1 s2 q2 e2 mc hz tV hb1 DY i i1 i2 i3 i4
omit [ax] in
theorem eF {w:World}{B o:Nat}{vs:List Value}{B' i:Nat}(h:B'=B->i<o∨o+vs.length<=i):cl (w.setCells B o vs) B' i=cl w B' i:=
 World.cell?_setCells_out B vs o w ⟨B',i,none⟩ λe _=>h e
omit [ax] in
theorem na {w:World}{B o:Nat}{vs:List Value}(h:∀j,j<vs.length->(cl w B (o+j)).isSome=true){j:Nat}(hj:j<vs.length):cl (w.setCells B o vs) B (o+j)=some vs[j]:=
 World.cell?_setCells_in B vs o w h j hj
omit [ax] in
theorem oU {w:World}{B o:Nat}{vs:List Value}{B' i:Nat}:fz (w.setCells B o vs) B' i=fz w B' i:=World.frozen?_setCells B vs o w _
omit [ax] in
theorem alL {B:Nat}:∀{vs:List Value} {o:Nat} {w:World},(w.setCells B o vs).heap.size=w.heap.size
 | [],_,_=>rfl
 |v::vs,o,w=>by rw[World.setCells,alL];simp[World.setCell]
omit [ax] in
theorem isSome_setCells {w:World}{B o:Nat}{vs:List Value}(h:∀j,j<vs.length->(cl w B (o+j)).isSome=true){B' i:Nat}(hi:(cl w B' i).isSome=true):(cl (w.setCells B o vs) B' i).isSome=true:=by
 by_cases hc:B'=B/\o<=i/\i<o+vs.length
 .obtain⟨rfl,h1,h2⟩:=hc;have:=na h (j:=i-o) (by omega);rw[show o+(i-o)=i by omega] at this;simp[this]
 .rw[eF];exact hi;intro e;omega
theorem iY {π:Pi}{k:af}{xs:List Value}(h:bl (CV.rel π) k.list xs):xs.length=af.size k/\∀j,j<af.size k->∃x,xs[j]? =some x/\(af.get k j).rel π x:=by
 refine⟨by rw[<-h.length,af.avd],λj hj=> ?_⟩;exact h.get (by rw[af.agz,if_pos hj])
theorem xq {π:Pi}{k:af}{xs:List Value}(hl:xs.length=af.size k)(h:∀j,j<af.size k->∃x,xs[j]? =some x/\(af.get k j).rel π x):bl (CV.rel π) k.list xs:=by
 refine bl.agD (by rw[af.avd,hl]) λi a b ha hb=> ?_;rw[af.agz] at ha;split at ha
 .rename_i hi
  cases ha;obtain⟨x,hx,hr⟩:=h i hi;rw[hb] at hx;cases hx;exact hr
 .cases ha
theorem Ak.setCells {w:World}(h:Ak w){B o:Nat}{xs:List Value}(hB:0<xs.length->ax.h0<=B):Ak (w.setCells B o xs):=by
 refine⟨by rw[alL];exact h.sz,λB' i hB'=>by rw[oU];exact h.fr B' i hB',λB' i v hv=> ?_⟩;obtain⟨h1,h2⟩:=h.st B' i v hv;refine⟨h1,?_⟩;rw[eF]
 .exact h2
 .intro e;rcases abY xs.length with h0|h0
  .omega
  .have:=hB h0;omega
theorem r9.set {π:Pi}{c:Nat->Nat->CV}{z:Nat->Option Nat}{w:World}(h:r9 π c z w){b n B s e lo:Nat}{vs:af}{xs:List Value}(hz:z b=some n)(hb:π b=some (B,s,n,e))(hn:lo+af.size vs<=n)
  (hx:bl (CV.rel π) vs.list xs):
  r9 π (λb' j=>if b'=b/\lo<=j/\j<lo+af.size vs then af.get vs (j-lo) else c b' j) z (w.setCells B (s+lo) xs):=by
 obtain⟨B',s',e',eV,hle,h1,h2⟩:=h.hp b n hz;rw[hb] at eV;cases eV;obtain⟨hlen,alK⟩:=iY hx;have hin:∀j,j<xs.length->(cl w B (s+lo+j)).isSome=true:=λj hj=>(h1 _ (by omega) (by omega)).1
 refine⟨h.am.setCells λhl=>h.lb b B s n e (by rw[hz];simp) hb (by omega),h.lb,λb' n' tV=> ?_,h.dj⟩;obtain⟨B2,s2,e2,DY,ael,k1,k2⟩:=h.hp b' n' tV;refine⟨B2,s2,e2,DY,ael,λi hi he=>⟨isSome_setCells hin (k1 i hi he).1,by rw[oU];exact(k1 i hi he).2⟩,λj hj=> ?_⟩;by_cases eb:b'=b
 .subst eb;rw[hb] at DY;cases DY;by_cases hc:lo<=j/\j<lo+af.size vs
  .have hj':j-lo<xs.length:=by omega
   have:=na hin hj';rw[show s+lo+(j-lo)=s+j by omega] at this;refine⟨_,this,?_⟩;rw[if_pos ⟨rfl,hc⟩];obtain⟨x,hx1,hx2⟩:=alK (j-lo) (by omega);rw[j7 hj'] at hx1;cases hx1;exact hx2
  .rw[if_neg (by simp only[zW];exact hc),eF (λ_=>by omega)];exact k2 j hj
 .rw[if_neg (by simp[eb]),eF]
  .exact k2 j hj
  .intro e;subst e;by_cases hc:s+lo<=s2+j/\s2+j<s+lo+xs.length
   .exact(h.dj b' b B2 s2 _ e2 s _ e eb (by simp[tV]) (by simp[hz]) DY hb (s2+j) (by omega) (by omega) (by omega) (by omega)).elim
   .omega
structure Cx where
 w0:World
 k:Nat
 p0:Pi
 N:Nat
def CW (p0:Pi)(k:Nat)(D:Nat->Prop)(B i:Nat):Prop:=∃b s q e,b<k/\D b/\p0 b=some (B,s,q,e)/\s<=i/\i<e
structure Rel (X:Cx)(D:Nat->Prop)(π:Pi)(g:Gt)(a:Act)(w:World):Prop where
 tm:∀i,(g.t i).rel π (a.tmps.getD i undef)
 nt:a.tmps.size=X.N
 df:a.defers=[]
 hp:r9 π g.c g.z w
 wT:∀b,b<X.k->π b=X.p0 b
 ft:∀b B s q e,X.k<=b->g.z b≠none->π b=some (B,s,q,e)->B<X.w0.heap.size->∀i,s<=i->i<e->CW X.p0 X.k D B i
 fr:ck X.w0 (CW X.p0 X.k D) w
theorem Rel.dst {X:Cx}{D:Nat->Prop}{π:Pi}{g:Gt}{a:Act}{w:World}(R:Rel X D π g a w){dst:Option Tmp}(hd:∀d,dst=some d->d<X.N){v:AV}{x:Value}(hv:v.rel π x):
  Rel X D π (cE (dO dst v) g) (a.put dst x) w:=by
 cases dst with
 |none=>exact R
 |some d=>
  have mH:d<a.tmps.size:=by rw[R.nt];exact hd d rfl
  refine⟨λi=> ?_,by simpa[Act.put] using R.nt,R.df,R.hp,R.wT,R.ft,R.fr⟩;show(if i=d then v else g.t i).rel π ((a.tmps.setIfInBounds d x).getD i undef);by_cases e:i=d
  .subst e;simp[mH,hv]
  .rw[if_neg e];have:=R.tm i;simpa[aSQ (Ne.symm e)] using this
theorem Rel.LC {X:Cx}{D:Nat->Prop}{π π':Pi}{g:Gt}{a:Act}{w:World}(R:Rel X D π g a w)(hx:Ext π π')(ho:∀b,b<X.k->π' b=π b):Rel X D π' g a w:=by
 refine⟨λi=>AV.dC hx _ _ (R.tm i),R.nt,R.df,R.hp.LC hx,λb hb=>(ho b hb).trans (R.wT b hb),λb B s q e hk hz hb=> ?_,R.fr⟩
 have:∃p,π b=some p:=by
  cases hh:g.z b with
  |none=>exact absurd hh hz
  |some n=>obtain⟨B,s,e,hb,_⟩:=R.hp.hp b n hh;exact⟨_,hb⟩
 obtain⟨p,hp⟩:=this;have:=hx _ _ hp;rw[hb] at this;cases this;exact R.ft b B s q e hk hz hp
theorem Rel.aKO {X:Cx}{D D':Nat->Prop}{π:Pi}{g:Gt}{a:Act}{w:World}(R:Rel X D π g a w)(h:∀b,D b->D' b):Rel X D' π g a w:=
 ⟨R.tm,R.nt,R.df,R.hp,R.wT,λb B s q e hk hz hb hB i h1 h2=>let⟨b0,s0,q0,e0,x1,x2,x3⟩:=R.ft b B s q e hk hz hb hB i h1 h2;⟨b0,s0,q0,e0,x1,h _ x2,x3⟩,
  R.fr.mono λB i _ ⟨b0,s0,q0,e0,x1,x2,x3⟩=>⟨b0,s0,q0,e0,x1,h _ x2,x3⟩⟩
theorem Rel.drew {X:Cx}{D:Nat->Prop}{π:Pi}{g:Gt}{a:Act}{w:World}(R:Rel X D π g a w):Rel X D π g a {w with drawn:=w.drawn+1}:=
 ⟨R.tm,R.nt,R.df,R.hp.aTb (R.hp.am.same rfl) λ_ _ _ _ _ _ _ _ _ _=>⟨rfl,rfl⟩,R.wT,R.ft,R.fr.drew⟩
theorem Rel.kill {X:Cx}{D:Nat->Prop}{π:Pi}{g:Gt}{a:Act}{w:World}(R:Rel X D π g a w)(b:Nat):Rel X D π ((Up.kill b).gX g) a w:=by
 refine⟨R.tm,R.nt,R.df,R.hp.kill b,R.wT,λb' B s q e hk hz=> ?_,R.fr⟩;by_cases eb:b'=b
 .exact absurd (by simp[Up.gX,eb]) hz
 .exact R.ft b' B s q e hk (by simpa[Up.gX,eb] using hz)
def zV (π:Pi)(b:Nat)(p:Nat×Nat×Nat×Nat):Pi:=λb'=>if b'=b then some p else π b'
omit [ax] in
theorem py (π:Pi)(b:Nat)(p:Nat×Nat×Nat×Nat):zV π b p b=some p:=by simp[zV]
omit [ax] in
theorem Al {π:Pi}{b:Nat}(h:π b=none)(p:Nat×Nat×Nat×Nat):Ext π (zV π b p):=by
 intro b' q hq;simp only[zV];by_cases e:b'=b
 .subst e;rw[h] at hq;cases hq
 .simp[e,hq]
theorem Rel.new {X:Cx}{D:Nat->Prop}{π:Pi}{g:Gt}{a:Act}{w:World}(R:Rel X D π g a w){b B s e:Nat}{k:af}(hb:π b=some (B,s,k.size,e))(hk:X.k<=b)(hle:s+k.size<=e)
  (h1:∀i,s<=i->i<e->(cl w B i).isSome=true/\fz w B i=false)(h2:∀j,j<k.size->∃v,cl w B (s+j)=some v/\(k.get j).rel π v)
  (hd:∀b' s' q' e',b'≠b->g.z b'≠none->π b'=some (B,s',q',e')->∀i,s<=i->i<e->s'<=i->i<e'->False)
  (hf:B<X.w0.heap.size->∀i,s<=i->i<e->CW X.p0 X.k D B i)(hlb:s<e->ax.h0<=B:=by intro h;omega):Rel X D π ((Up.new b k).gX g) a w:=by
 refine⟨R.tm,R.nt,R.df,R.hp.new hb hle h1 h2 hd hlb,R.wT,λb' B' s' q' e' Li hz eV hB i i1 i2=> ?_,R.fr⟩;by_cases eb:b'=b
 .subst eb;rw[hb] at eV;cases eV;exact hf hB i i1 i2
 .exact R.ft b' B' s' q' e' Li (by simpa[Up.gX,eb] using hz) eV hB i i1 i2
theorem Rel.alloc {X:Cx}{D:Nat->Prop}{π:Pi}{g:Gt}{a:Act}{w:World}(R:Rel X D π g a w){b e:Nat}{k:af}{cs:Array Value}{t:TypeId}(hb:π b=none)(hk:X.k<=b)(hle:k.size<=e)(he:e<=cs.size)
  (h2:∀j,j<k.size->∃v,cs[j]? =some v/\(k.get j).rel π v):
  Rel X D (zV π b (w.heap.size,0,k.size,e)) ((Up.new b k).gX g) a (w.alloc (.cells cs t)):=by
 have hx:=Al hb (w.heap.size,0,k.size,e)
 have live:∀b' B' s' q' e',g.z b'≠none->π b'=some (B',s',q',e')->∀i,s'<=i->i<e'->B'<w.heap.size:=λb' B' s' q' e' hz eV i i1 i2=>by
  cases hh:g.z b' with
  |none=>exact absurd hh hz
  |some n=>
   obtain⟨_,_,_,DY,_,k1,_⟩:=R.hp.hp b' n hh;rw[eV] at DY;cases DY;exact ab5 (k1 i i1 i2).1
 have R1:Rel X D π g a (w.alloc (.cells cs t)):=
  ⟨R.tm,R.nt,R.df,R.hp.aTb (R.hp.am.alloc cs t) λb' B' s' q' e' hz eV i i1 i2=>⟨aIW (live b' B' s' q' e' hz eV i i1 i2),aT0 (live b' B' s' q' e' hz eV i i1 i2)⟩,R.wT,R.ft,R.fr.alloc _ _⟩
 have R2:=R1.LC hx (λb' eV=>by simp only[zV];rw[if_neg (by omega)]);have DX:∀i,cl (w.alloc (.cells cs t)) w.heap.size i=cs[i]? :=λi=>World.cell?_alloc_new w cs t i
 refine R2.new (s:=0) (py _ _ _) hk (by omega) (λi _ i2=>⟨?_,World.frozen?_alloc_new w cs t i⟩) (λj hj=> ?_) (λb' s' q' e' mc hz eV i _ _ i3 i4=> ?_) (λhB=> ?_) (λ_=>R.hp.am.sz)
 .rw[DX];simp;omega
 .obtain⟨v,hv,hr⟩:=h2 j hj;exact⟨v,by rw[eX,DX];exact hv,CV.dC hx _ _ hr⟩
 .simp only[zV,mc,fY] at eV;exact absurd (live b' _ s' q' e' hz eV i i3 i4) (Nat.lt_irrefl _)
 .have:=R.fr.size;omega
theorem Rel.set {X:Cx}{D:Nat->Prop}{π:Pi}{g:Gt}{a:Act}{w:World}(R:Rel X D π g a w){b n B s e:Nat}{o:cA}{vs:af}{xs:List Value}(hz:g.z b=some n)(hb:π b=some (B,s,n,e))(hn:o.val+af.size vs<=n)
  (hx:bl (CV.rel π) vs.list xs)(hD:b<X.k->D b):Rel X D π ((Up.c b o vs).gX g) a (w.setCells B (s+o.val) xs):=by
 refine⟨R.tm,R.nt,R.df,R.hp.set hz hb hn hx,R.wT,R.ft,R.fr.setCells ?_⟩;obtain⟨B',s',e',eV,hle,h1,h2⟩:=R.hp.hp b n hz;rw[hb] at eV;cases eV;have hlen:=(iY hx).1;rcases ns B X.w0.heap.size with hB|hB
 .right
  intro j hj;rcases ns b X.k with hk|hk
  .exact⟨b,s,n,e,hk,hD hk,(R.wT b hk).symm.trans hb,by omega,by omega⟩
  .exact R.ft b B s n e hk (by simp[hz]) hb hB _ (by omega) (by omega)
 .exact .inl hB
end Go.Ab
namespace Go.Ab
variable [ax]
omit [ax] in
theorem mI (B o j:Nat):(⟨B,o,none⟩:Addr).add j=⟨B,o+j,none⟩:=by
 unfold Addr.add;split<;>simp_all
theorem aNk {v:Value}{c:CV}(h:ofC v=some c)(π:Pi):c.rel π v:=by
 unfold ofC at h;split at h<;>first|(cases h;rfl)|cases h
omit [ax] in
theorem aEW (v:CV)(r:af):af.list (.c v::r)=v::r.list:=by
 apply List.ext_getElem?
 intro i;rw[af.agz];cases i with
 |zero=>rw[if_pos (by rw[af.size_cons,Sg.jR];omega)];rfl
 |succ i=>
  rw[List.getElem?_cons_succ,af.agz];by_cases h:i<af.size r
  .rw[if_pos h,if_pos (by rw[af.size_cons,Sg.jR];omega),<-af.jS (l:=r) (j':=i) (by omega) (by omega)]
  .rw[if_neg h,if_neg (by rw[af.size_cons,Sg.jR];omega)]
theorem aIX:∀{vs:List Value} {cs:af},aIO vs=some cs->∀π,bl (CV.rel π) cs.list vs
 | [],cs,h,π=>by simp[aIO] at h;subst h;trivial
 |v::vs,cs,h,π=>by
  simp only[aIO] at h;split at h
  .rename_i c SQ h1 h2
   cases h;rw[aEW];exact⟨aNk h1 π,aIX h2 π⟩
  .cases h
theorem aEX {v:Value}{r:RV}(h:ofR v=some r)(π:Pi):r.rel π v:=by
 have key:(ofC v).map RV.c=some r->r.rel π v:=λh=>by
  cases hc:ofC v with
  |none=>rw[hc] at h;cases h
  |some l=>rw[hc] at h;cases h;exact aNk hc π
 cases v with
 |agg cs=>
  simp only[ofR] at h;cases hc:aIO cs.toList with
  |none=>rw[hc] at h;cases h
  |some l=>rw[hc] at h;cases h;exact⟨_,rfl,aIX hc π⟩
 |_=>simp only[ofR] at h;exact key h
omit [ax] in
theorem aI.dX {α:Type}{x:Option α}{g:Gt}{a:α}{l:List Fp}(h:aI (dX x) g a l):x=some a:=by
 cases x with
 |none=>cases h
 |some b=>cases h;rfl
omit [ax] in
theorem aI.cH {x:Bool}{g:Gt}{u:Unit}{l:List Fp}(h:aI (cH x) g u l):x=true:=by
 cases h with|test h=>cases x with
  |true=>rfl
  |false=>cases h
omit [ax] in
theorem aI.asR {v:AV}{g:Gt}{a:RV}{l:List Fp}(h:aI (asR v) g a l):v=.r a:=by
 unfold Ab.asR at h;split at h
 .cases h;rfl
 .cases h
omit [ax] in
theorem aI.asC {v:AV}{g:Gt}{a:CV}{l:List Fp}(h:aI (asC v) g a l):v=.r (.c a):=by
 unfold Ab.asC at h;split at h
 .cases h;rfl
 .cases h
omit [ax] in
theorem aI.asI {v:AV}{g:Gt}{a:IntKind×Int}{l:List Fp}(h:aI (asI v) g a l):v=.r (.c (.f (.i a.1 a.2))):=by
 unfold Ab.asI at h;split at h
 .cases h;rfl
 .cases h
omit [ax] in
theorem aI.asB {v:AV}{g:Gt}{a:Bool}{l:List Fp}(h:aI (asB v) g a l):v=.r (.c (.f (.b a))):=by
 unfold Ab.asB at h;split at h
 .cases h;rfl
 .cases h
omit [ax] in
theorem aI.asP {v:AV}{g:Gt}{a:Nat×cA×Nat}{l:List Fp}(h:aI (asP v) g a l):v=.r (.c (.ptr a.1 a.2.1 a.2.2)):=by
 unfold Ab.asP at h;split at h
 .cases h;rfl
 .cases h
section
variable {X:Cx} {D:Nat->Prop} {π:Pi} {g:Gt} {a:Act} {w:World}
theorem aI.DW {x:Operand}{v:AV}{l:List Fp}(h:aI (DW x) g v l)(R:Rel X D π g a w):v.rel π (a.eval x):=by
 cases x with
 |tmp t=>cases h with|tm h=>cases h;exact R.tm t
 |const c=>
  obtain⟨r,⟨_,h1⟩,_,h2⟩:=aI.bind' h;cases h2;exact aEX h1.dX π
 |func f=>cases h;exact⟨#[],rfl,trivial⟩
 |global g=>cases h
theorem aI.vM {x:Operand}{v:RV}{l:List Fp}(h:aI (vM x) g v l)(R:Rel X D π g a w):v.rel π (a.eval x):=by
 obtain⟨r,⟨_,h1⟩,_,h2⟩:=aI.bind' h;have:=h1.DW R;rw[h2.asR] at this;exact this
theorem aI.aM0 {x:Operand}{v:RV}{l:List Fp}(h:aI (aM0 x) g v l)(R:Rel X D π g a w):v.rel π (a.eval x):=by
 obtain⟨r,⟨_,h1⟩,_,h2⟩:=aI.bind' h;have:=h1.DW R;unfold Ab.asS at h2;split at h2
 .cases h2;exact this
 .cases h2;obtain⟨arr,hx,ha⟩:=this;obtain⟨arr⟩:=arr;match arr,ha with
  | [y],⟨hy,_⟩=>
   obtain⟨B,s,q,e,hb,rfl,hle⟩:=hy;exact⟨B,s,q,e,hb,hx,hle⟩
 .cases h2
theorem aI.G9 {x:Operand}{v:CV}{l:List Fp}(h:aI (G9 x) g v l)(R:Rel X D π g a w):v.rel π (a.eval x):=by
 obtain⟨r,⟨_,h1⟩,_,h2⟩:=aI.bind' h;have:=h1.DW R;rw[h2.asC] at this;exact this
theorem aI.KF {x:Operand}{v:IntKind×Int}{l:List Fp}(h:aI (KF x) g v l)(R:Rel X D π g a w):a.eval x=.int v.1 v.2:=by
 obtain⟨r,⟨_,h1⟩,_,h2⟩:=aI.bind' h;have:=h1.DW R;rw[h2.asI] at this;exact this
theorem aI.aIP {x:Operand}{v:Bool}{l:List Fp}(h:aI (aIP x) g v l)(R:Rel X D π g a w):a.eval x=.bool v:=by
 obtain⟨r,⟨_,h1⟩,_,h2⟩:=aI.bind' h;have:=h1.DW R;rw[h2.asB] at this;exact this
theorem aI.aM1 {x:Operand}{v:Nat×cA×Nat}{l:List Fp}(h:aI (aM1 x) g v l)(R:Rel X D π g a w):∃B s q e,π v.1=some (B,s,q,e)/\a.eval x=.pointer (some ⟨B,s+v.2.1.val,none⟩)/\v.2.1.val+v.2.2<=q:=by
 obtain⟨r,⟨_,h1⟩,_,h2⟩:=aI.bind' h;have:=h1.DW R;rw[h2.asP] at this;exact this
omit [ax] in
theorem aI.tH {α β:Type}{f:α->Rd β}{ρ:β->α->Prop}(hf:∀x v l,aI (f x) g v l->ρ v x):∀{xs:List α} {vs:List β} {l:List Fp},aI (tH f xs) g vs l->bl ρ vs xs
 | [],vs,l,h=>by cases h;trivial
 |x::xs,vs,l,h=>by
  obtain⟨v,⟨_,h1⟩,_,h2⟩:=aI.bind' h;obtain⟨jL,⟨_,h3⟩,_,h4⟩:=aI.bind' h2;cases h4;exact⟨hf x v _ h1,aI.tH hf h3⟩
omit [ax] in
theorem JO {P:Program}{t:TypeId}{v:Bool}(h:aei P t=some v)(w:World):(isAgg t).run P w=.ok v w:=by
 unfold aei at h;unfold isAgg;cases hu:P.underlying t with
 |none=>rw[hu] at h;cases h
 |some d=>rw[hu] at h;cases d<;>simp[run_underlying hu]<;>simp_all
omit [ax] in
theorem aqG {P:Program}{t:TypeId}{n:Nat}(h:iH P t=some n):∃i,P.info? t=some i/\i.size=n:=by
 unfold iH at h;cases hi:P.info? t with
 |none=>rw[hi] at h;cases h
 |some i=>rw[hi] at h;exact⟨i,rfl,by simpa using h⟩
omit [ax] in
theorem run_typeInfo {P:Program}{t:TypeId}{i:TypeInfo}(h:P.info? t=some i)(w:World):(typeInfo t).run P w=.ok i w:=by simp[typeInfo,h]
omit [ax] in
theorem run_sizeOf {P:Program}{t:TypeId}{n:Nat}(h:iH P t=some n)(w:World):(sizeOf t).run P w=.ok n w:=by
 obtain⟨i,hi,rfl⟩:=aqG h;simp[sizeOf,run_typeInfo hi]
theorem aem {P:Program}{t:TypeId}{r:RV}(h:Ah P t=some r)(w:World):∃x,(zeroValue t).run P w=.ok x w/\(∃it:TypeInfo,P.info? t=some it/\it.zero=some x)/\∀π,r.rel π x:=by
 unfold Ah at h;cases hi:P.info? t with
 |none=>rw[hi] at h;cases h
 |some i=>
  rw[hi] at h;simp only[bM] at h;cases hz:i.zero with
  |none=>rw[hz] at h;cases h
  |some x=>
   rw[hz] at h;simp only[bM] at h;refine⟨x,by simp[zeroValue,run_typeInfo hi,hz],⟨i,rfl,hz⟩,λπ=> ?_⟩;split at h
   .rename_i b hb
    simp only[mm] at h;obtain⟨b',h1,rfl⟩:=h;obtain⟨e1,e2⟩:=alI h1;obtain⟨arr,rfl,hr⟩:=aEX hb π;obtain⟨l1,l2⟩:=iY hr;exact⟨arr,rfl,xq (by rw[l1,e1]) λj hj=>by rw[e2];exact l2 j (by omega)⟩
   .exact aEX h π
omit [ax] in
theorem aKP {P:Program}(ob:Obj)(w:World):(newObj ob).run P w=.ok w.heap.size (w.alloc ob):=rfl
omit [ax] in
theorem LD {P:Program}(t:TypeId)(cs:Array Value)(w:World):(newRow t cs).run P w=.ok ⟨w.heap.size,0,none⟩ (w.alloc (.cells cs t)):=by
 simp only[newRow,Sem.run_bind,aKP,Result.andThen_ok,Sem.run_pure]
theorem Rel.view (R:Rel X D π g a w){b q n:Nat}{o:cA}{v:af}(hz:g.z b=some q)(hs:af.size v=n)(hv:o.val+n<=q->∀j,j<n->af.get v j=g.c b (o.val+j)){B s q' e:Nat}(hb:π b=some (B,s,q',e))(hn:o.val+n<=q'):
  q'=q/\∃xs:List Value,xs.length=n/\bl (CV.rel π) v.list xs/\∀j x,xs[j]? =some x->cl w B (s+o.val+j)=some x:=by
 obtain⟨B',s',e',eV,hle,_,h2⟩:=R.hp.hp b q hz;rw[hb] at eV;cases eV;have hv:=hv hn
 have cell:∀j,j<n->∃x,cl w B (s+o.val+j)=some x/\(af.get v j).rel π x:=λj hj=>by
  obtain⟨x,hx,hr⟩:=h2 (o.val+j) (by omega);rw[<-hv j hj] at hr;exact⟨x,by rw[show s+o.val+j=s+(o.val+j) by omega];exact hx,hr⟩
 refine⟨rfl,(List.range n).map λj=>(cl w B (s+o.val+j)).getD undef,by simp,xq (by simp[hs]) λj hj=> ?_,λj x hx=> ?_⟩
 .obtain⟨x,hx,hr⟩:=cell j (by omega);refine⟨x,?_,hr⟩;rw[Af,List.getElem?_range (by omega)];simp[hx]
 .have hjn:j<n:=by
   have:=(ld.1 hx).1;simpa using this
  obtain⟨u,hu,_⟩:=cell j hjn;simp[hjn,hu] at hx
  rw[hu,hx]
omit [ax] in
theorem aak {P:Program}{w:World}{B o:Nat}{xs:List Value}(h:∀j v,xs[j]? =some v->cl w B (o+j)=some v):(loadCells ⟨B,o,none⟩ xs.length).run P w=.ok xs.toArray w:=
 run_loadCells_list w _ xs λj v hj=>by rw[mI];exact h j v hj
omit [ax] in
theorem aI.ath {b:af}{v:RV}{l:List Fp}(h:aI (ath b) g v l):∃c,b=[.c c]/\v=.c c:=by
 unfold Ab.ath at h;split at h
 .cases h;exact⟨_,rfl,rfl⟩
 .cases h
theorem aI.aae {P:Program}(R:Rel X D π g a w){t:TypeId}{b m:Nat}{o:cA}{v:RV}{l:List Fp}(h:aI (aae P t b o m) g v l){B s q' e:Nat}(hb:π b=some (B,s,q',e))(hm:o.val+m<=q'):
  ∃x,(loadVar t ⟨B,s+o.val,none⟩).run P w=.ok x w/\v.rel π x:=by
 obtain⟨ag,⟨_,h1⟩,_,h⟩:=aI.bind' h;obtain⟨n,⟨_,h2⟩,_,h⟩:=aI.bind' h;have h1:=h1.dX;have h2:=h2.dX;cases ag with
 |true=>
  obtain⟨_,⟨_,h3⟩,_,h⟩:=aI.bind' h;have h3:=fa.1 h3.cH;cases h with|vw q u hz hs hv h=>
  cases h;simp only[Sz.val,Vd] at hs hv;obtain⟨_,xs,hl,hx,hc⟩:=R.view hz hs hv hb (by omega);refine⟨.agg xs.toArray,?_,⟨_,rfl,hx⟩⟩;have:=aak (P:=P) hc;rw[hl] at this;simp[loadVar,JO h1,run_sizeOf h2,this]
 |false=>
  obtain⟨_,⟨_,h3⟩,_,h⟩:=aI.bind' h;have h3:=fa.1 h3.cH;cases h with|vw q u hz hs hv h=>
  simp only[Sz.val,Vd] at hs hv;obtain⟨_,xs,hl,hx,hc⟩:=R.view hz hs hv hb (by omega);obtain⟨c,rfl,rfl⟩:=h.ath;rw[aTY] at hx
  obtain⟨x,rfl⟩:∃x,xs=[x]:=by
   match xs,hl with
   | [x],_=>exact⟨x,rfl⟩
  have hcx:=hc 0 x rfl;simp only[jM] at hcx;refine⟨x,?_,hx.1⟩;simp only[cl] at hcx;simp[loadVar,JO h1,hcx]
omit [ax] in
theorem aI.aEy {b v:af}{o:cA}{cB:Sz}{z:Nat}{l:List Fp}(h:aI (aEy b o cB z) g v l):b.sub o cB z=some (true,v):=by
 unfold Ab.aEy at h;split at h
 .rename_i p hp
  cases h with|test h=>
  obtain⟨gg,u⟩:=p;cases gg with
  |true=>cases h;exact hp
  |false=>cases h
 .cases h
theorem aI.aKF {P:Program}{t:TypeId}{cs:af}{o:cA}{v:RV}{l:List Fp}(h:aI (aKF P t cs o) g v l){n:Nat}(hn:iH P t=some n)(hn1:1<=n)(hle:o.val+n<=af.size cs){xs:Array Value}(hx:bl (CV.rel π) cs.list xs.toList)(w:World):
  ∃x,(part t xs o.val).run P w=.ok x w/\v.rel π x:=by
 obtain⟨ag,⟨_,h1⟩,_,h⟩:=aI.bind' h;obtain⟨n',⟨_,h2⟩,_,h⟩:=aI.bind' h;have h1:=h1.dX;have h2:=h2.dX;rw[hn] at h2;cases h2;obtain⟨l1,l2⟩:=iY hx;cases ag with
 |true=>
  obtain⟨u,⟨_,h3⟩,_,h⟩:=aI.bind' h;cases h;obtain⟨e1,e2⟩:=af.ayr h3.aEy;simp only[Sz.val,Vd] at e1 e2;have e2:=e2 hle;refine⟨.agg (xs.extract o.val (o.val+n)),by simp[part,JO h1,run_sizeOf hn],⟨_,rfl,?_⟩⟩
  have:(xs.extract o.val (o.val+n)).toList=(xs.toList.drop o.val).take n:=by
   rw[Array.toList_extract];simp[List.extract]
  rw[this];refine xq (by rw[List.length_take,atc,l1];omega) λj hj=> ?_;obtain⟨x,hx1,hx2⟩:=l2 (o.val+j) (by omega);refine⟨x,by rw[Wf,if_pos (by omega),Lp];exact hx1,?_⟩;rw[e2 j (by omega)];exact hx2
 |false=>
  obtain⟨u,⟨_,h3⟩,_,h⟩:=aI.bind' h;obtain⟨c,rfl,rfl⟩:=h.ath;obtain⟨_,e2⟩:=af.ayr h3.aEy;have e2:=e2 (by simp only[Sz.val];omega) 0 (by simp[Sz.val]);obtain⟨x,hx1,hx2⟩:=l2 o.val (by omega);refine⟨x,?_,?_⟩
  .have:xs[o.val]? =some x:=by simpa using hx1
   simp[part,JO h1,this]
  .rw[jM] at e2;rw[<-e2] at hx2;exact hx2
theorem a1O {n:Nat}{q:Nat->Bool}{x:Value}(h:(CV.f (.q n q)).rel π x):(CV.fs n 1 [.b q]).rel π x:=by
 refine⟨rfl,?_⟩;rcases h with h| ⟨B,s,cap,h1,h2,h3⟩
 .exact .inl h
 .refine .inr ⟨B,s,cap,h1,h2,λj hj=>⟨.b (q j),.bool (q j),?_,h3 j (by omega),rfl⟩⟩;simp[iI,Nat.mod_one,cQ.at]
omit [ax] in
theorem aI.a1P {P:Program}{t:TypeId}{c c':CV}{l:List Fp}(h:aI (aIQ P t c) g c' l):c'=c∨∃n q,c=.f (.q n q)/\c'=.fs n 1 [.b q]:=by
 unfold Ab.aIQ at h;generalize P.underlying t=u at h
 split at h
 .cases h with|@test x _ _ _ _ h=>
  cases hx:FV.isB _<;>rw[hx] at h<;>cases h
  rename_i x;cases x<;>first|exact .inl rfl|cases hx
 .cases h with|@test x _ _ _ _ h=>
  cases hx:FV.isI _ _<;>rw[hx] at h<;>cases h
  rename_i k x;cases x<;>first|(cases hx;done)|skip
  simp only[FV.isI,ke] at hx;subst hx;exact .inl rfl
 .cases h with|@test x _ _ _ _ h=>
  cases hx:FV.isS _<;>rw[hx] at h<;>cases h
  rename_i x;cases x<;>first|exact .inl rfl|cases hx
 .cases h;exact .inr ⟨_,_,rfl,rfl⟩
 .cases h;exact .inl rfl
theorem aI.aIQ {P:Program}{t:TypeId}{c c':CV}{l:List Fp}(h:aI (aIQ P t c) g c' l){x:Value}(hx:c.rel π x):c'.rel π x:=by
 rcases h.a1P with rfl| ⟨n,q,rfl,rfl⟩
 .exact hx
 .exact a1O hx
theorem aI.aqA {P:Program}{t:TypeId}{c c':RV}{l:List Fp}(h:aI (aqA P t c) g c' l){π:Pi}{x:Value}(hx:c.rel π x):c'.rel π x:=by
 cases c with
 |c c=>
  obtain⟨v,⟨_,h1⟩,_,h⟩:=aI.bind' h;cases h;exact h1.aIQ hx
 |agg cs=>
  cases h;obtain⟨xs,rfl,hx⟩:=hx;obtain⟨l1,l2⟩:=iY hx;obtain⟨n1,n2⟩:=aRl P t cs;refine⟨xs,rfl,xq (by rw[l1,n1]) λj hj=> ?_⟩;rw[n1] at hj;rw[n2 j hj];exact l2 j hj
theorem aI.valueOf {P:Program}(R:Rel X D π g a w){t:TypeId}{b m:Nat}{o:cA}{v:RV}{l:List Fp}(h:aI (valueOf P t b o m) g v l){B s q' e:Nat}(hb:π b=some (B,s,q',e))(hm:o.val+m<=q'):
  ∃x,(loadVar t ⟨B,s+o.val,none⟩).run P w=.ok x w/\v.rel π x:=by
 obtain⟨u,⟨_,h1⟩,_,h⟩:=aI.bind' h;obtain⟨x,hx,hr⟩:=aI.aae R h1 hb hm;exact⟨x,hx,h.aqA hr⟩
theorem aI.partOf {P:Program}{t:TypeId}{cs:af}{o:cA}{v:RV}{l:List Fp}(h:aI (partOf P t cs o) g v l){n:Nat}(hn:iH P t=some n)(hn1:1<=n)(hle:o.val+n<=af.size cs){xs:Array Value}(hx:bl (CV.rel π) cs.list xs.toList)(w:World):
  ∃x,(part t xs o.val).run P w=.ok x w/\v.rel π x:=by
 obtain⟨u,⟨_,h1⟩,_,h⟩:=aI.bind' h;obtain⟨x,hx1,hr⟩:=aI.aKF h1 hn hn1 hle hx w;exact⟨x,hx1,h.aqA hr⟩
theorem aI.Ot {P:Program}{t:TypeId}{cs:af}{c:Nat}{v:RV}{l:List Fp}(h:aI (Ot P t cs c) g v l){xs:Array Value}(hx:bl (CV.rel π) cs.list xs.toList)(w:World):
  ∃x,(part t xs c).run P w=.ok x w/\v.rel π x:=by
 obtain⟨n,⟨_,h1⟩,_,h⟩:=aI.bind' h;obtain⟨_,⟨_,h2⟩,_,h⟩:=aI.bind' h;have h2:=h2.cH;simp only[cj,fa] at h2;exact h.partOf h1.dX h2.1 h2.2 hx w
end
def cB (us:List Up):Nat:=(us.filter λ|.new _ _=>true|_=>false).length
def Up.perm (k:Nat)(D:Nat->Prop):Up->Prop
 |.c b _ _|.kill b=>b<k->D b
 |_=>True
def zP (P:Program)(o:Oper)(X:Cx)(D:Nat->Prop)(aJ:Nat)(us:List Up)(g:Gt):Prop:=
 ∀π a w (next:Act->World->Prop) (Q:Exit->Act->World->Prop),Rel X D π g a w->X.k<=aJ->(∀b,aJ<=b->b<aJ+cB us->π b=none)->(∀d,o.dst=some d->d<X.N)->(∀u∈us,u.perm X.k D)->
  (∀a' w' π',Ext π π'->(∀b,π' b≠none->π b≠none∨(aJ<=b/\b<aJ+cB us))->Rel X D π' (cE us g) a' w'->next a' w')->o.wp P a w next Q
section
variable {P:Program} {o:Oper} {X:Cx} {D:Nat->Prop} {aJ:Nat} {us:List Up} {g:Gt}
omit [ax] in
theorem Qo {a:Act}{w w':World}{x:Value}{next:Act->World->Prop}{Q:Exit->Act->World->Prop}(h:(execOp a.eval o).run P w=.ok (.value x) w')(hn:next (a.put o.dst x) w'):o.wp P a w next Q:=by
 unfold Oper.wp;rw[h];exact hn
omit [ax] in
theorem aZV {a:Act}{w w':World}{next:Act->World->Prop}{Q:Exit->Act->World->Prop}(h:(execOp a.eval o).run P w=.ok .skip w')(hn:next (a.put o.dst undef) w'):o.wp P a w next Q:=by
 unfold Oper.wp;rw[h];exact hn
theorem iC {v:AV}(h:∀π a w,Rel X D π g a w->∃x,(execOp a.eval o).run P w=.ok (.value x) w/\v.rel π x):zP P o X D aJ (dO o.dst v) g:=by
 intro π a w next Q R hk hf hd hD hn;obtain⟨x,h1,h2⟩:=h π a w R;exact Qo h1 (hn _ _ π (Ext.refl _) (λb h=>.inl h) (R.dst hd h2))
theorem atn (π:Pi):udf.rel π undef:=⟨#[],rfl,trivial⟩
theorem aEY {x:Operand}{fp:List Fp}(ho:o.op=.move x∨o.op=.assign x)(h:aI ((DW x).bind λv=>.ret (dO o.dst v)) g us fp):zP P o X D aJ us g:=by
 obtain⟨v,⟨_,h1⟩,_,h2⟩:=aI.bind' h;cases h2;refine iC λπ a w R=>⟨a.eval x,?_,h1.DW R⟩
 rcases ho with ho|ho<;>simp[execOp,ho]
theorem aRq {c x y:Operand}{fp:List Fp}(ho:o.op=.pick c x y)(h:aI ((aIP c).bind λz=>.test z λ|true=>(DW x).bind λv=>.ret (dO o.dst v)|false=>(DW y).bind λv=>.ret (dO o.dst v)) g us fp):zP P o X D aJ us g:=by
 obtain⟨z,⟨_,h1⟩,_,h2⟩:=aI.bind' h;cases h2 with|test h2=>
 cases z with
 |true=>
  obtain⟨v,⟨_,h3⟩,_,h4⟩:=aI.bind' h2;cases h4;refine iC λπ a w R=>⟨a.eval x,?_,h3.DW R⟩
  simp[execOp,ho,h1.aIP R,asBool]
 |false=>
  obtain⟨v,⟨_,h3⟩,_,h4⟩:=aI.bind' h2;cases h4;refine iC λπ a w R=>⟨a.eval y,?_,h3.DW R⟩
  simp[execOp,ho,h1.aIP R,asBool]
theorem aal:∀(ks:List (Option (Nat×List CK))) (b:af) (aJ:Nat),af.size (SS ks b aJ).1=af.size b/\(∀e∈(SS ks b aJ).2,af.size e=0)/\
  ∀π:Pi,(∀i,i<(SS ks b aJ).2.length->π (aJ+i)=some (0,0,0,0))->∀j,j<af.size b->∀v,(af.get b j).rel π v->(af.get (SS ks b aJ).1 j).rel π v
 |_,[],_=>⟨rfl,λe h=>by simp[SS] at h,λ_ _ _ _ _ h=>h⟩
 |ks,.a n cols::r,b=>by
  obtain⟨h1,h2,h3⟩:=aal (ks.drop (n.val*cols.length)) r b;refine⟨by rw[SS,af.size_cons,af.size_cons,h1],h2,λπ hp j hj v hv=> ?_⟩;rw[af.size_cons] at hj;rw[SS];by_cases lg:j<(Sg.a n cols).size
  .rw[af.dJ lg] at hv ⊢;exact hv
  .rw[af.kj (by omega)] at hv ⊢;exact h3 π hp _ (by omega) v hv
 |ks,.c v::r,b=>by
  unfold SS;split
  .rename_i z k ks
   obtain⟨h1,h2,h3⟩:=aal ks r (b+1);refine⟨by rw[af.size_cons,af.size_cons,h1];rfl,λe he=> ?_,λπ hp j hj v hv=> ?_⟩
   .rcases SN.1 he with rfl|he
    .simp[af.size,Sg.size,Sz.val]
    .exact h2 e he
   .rw[af.size_cons,Sg.jR] at hj;cases j with
    |zero=>
     have hv:v=.slice none 0 0:=hv;subst hv;exact⟨0,0,0,0,by simpa using hp 0 (by simp),by simp[cA.val,Sz.val],λ_=>by simp[cA.val,Sz.val],.inl ⟨rfl,none,rfl⟩⟩
    |succ j=>
     rw[af.kj (by rw[Sg.jR];omega)] at hv ⊢;exact h3 π (λi hi=>by have:=hp (i+1) (by simpa using hi);rwa [show b+1+i=b+(i+1) by omega]) _ (by rw[Sg.jR];omega) v hv
  .obtain⟨h1,h2,h3⟩:=aal (ks.drop 1) r b;refine⟨by rw[af.size_cons,af.size_cons,h1],h2,λπ hp j hj v hv=> ?_⟩;rw[af.size_cons,Sg.jR] at hj;cases j with
   |zero=>exact hv
   |succ j=>
    rw[af.kj (by rw[Sg.jR];omega)] at hv ⊢;exact h3 π hp _ (by rw[Sg.jR];omega) v hv
theorem avg (P:Program)(t:TypeId)(b:af)(aJ:Nat):af.size (iN P t b aJ).1=af.size b/\(∀e∈(iN P t b aJ).2,af.size e=0)/\
  ∀π:Pi,(∀i,i<(iN P t b aJ).2.length->π (aJ+i)=some (0,0,0,0))->∀xs,bl (CV.rel π) b.list xs->bl (CV.rel π) (af.list (iN P t b aJ).1) xs:=by
 unfold iN;split
 .obtain⟨h1,h2,h3⟩:=aal (aKI P 30 t) b aJ;refine⟨h1,h2,λπ hp xs hx=> ?_⟩;obtain⟨l1,l2⟩:=iY hx;refine xq (by rw[h1,l1]) λj hj=> ?_;rw[h1] at hj;obtain⟨x,hx1,hx2⟩:=l2 j hj;exact⟨x,hx1,h3 π hp j hj x hx2⟩
 .exact⟨rfl,λe he=>by simp at he,λ_ _ _ h=>h⟩
omit [ax] in
theorem aIY (us vs:List Up):cB (us++vs)=cB us+cB vs:=by simp[cB]
omit [ax] in
theorem ato:∀(es:List af) (aJ:Nat),cB (By es aJ)=es.length
 | [],_=>rfl
 |e::es,aJ=>by
  have:=ato es (aJ+1);unfold cB at this ⊢;simp only[By,List.filter_cons,kR,Ls,this]
omit [ax] in
theorem aEZ (us vs:List Up)(g:Gt):cE (us++vs) g=cE vs (cE us g):=by simp[cE]
theorem Rel.aE0 {a:Act}{w:World}:∀{es:List af} {aJ:Nat} {π:Pi} {g:Gt},(∀e∈es,af.size e=0)->Rel X D π g a w->X.k<=aJ->(∀b,aJ<=b->b<aJ+es.length->π b=none)->
  ∃π',Ext π π'/\(∀b,π' b≠none->π b≠none∨(aJ<=b/\b<aJ+es.length))/\(∀i,i<es.length->π' (aJ+i)=some (0,0,0,0))/\Rel X D π' (cE (By es aJ) g) a w
 | [],aJ,π,g,_,R,_,_=>⟨π,Ext.refl _,λ_ h=>.inl h,λi hi=>by simp at hi,R⟩
 |e::es,aJ,π,g,he,R,hk,hf=>by
  have h0:=hf aJ (cW _) (by simp);have he0:=he e (by simp);have hx0:=Al h0 (0,0,af.size e,0)
  have R1:=(R.LC hx0 (λb hb=>by simp only[zV];rw[if_neg (by omega)])).new (k:=e) (py π aJ (0,0,af.size e,0)) hk (by omega) (λi _ i2=>by omega) (λj hj=>by omega)
    (λ_ _ _ _ _ _ _ _ _ i2=>by omega) (λ_ _ _ i2=>by omega)
  obtain⟨π',e1,e2,e3,R2⟩:=Rel.aE0 (es:=es) (aJ:=aJ+1) (λe h=>he e (by simp[h])) R1 (by omega) (λb h1 h2=>by
   simp only[zV];rw[if_neg (by omega)];exact hf b (by omega) (by simp only[Ls];omega))
  refine⟨π',hx0.trans e1,λb hb=> ?_,λi hi=> ?_,R2⟩
  .rcases e2 b hb with h|h
   .simp only[zV] at h;by_cases eb:b=aJ
    .right;simp only[Ls];omega
    .rw[if_neg eb] at h;exact .inl h
   .right;simp only[Ls];omega
  .cases i with
   |zero=>
    have:=e1 aJ _ (py π aJ (0,0,af.size e,0));rw[he0] at this;simpa using this
   |succ i=>
    have:=e3 i (by simpa using hi);rwa [show aJ+1+i=aJ+(i+1) by omega] at this
theorem aE1 {v:RV}{t:TypeId}(h:∀π a w,Rel X D π g a w->∃x,v.rel π x/\(execOp a.eval o).run P w=.ok (.value (.pointer (some ⟨w.heap.size,0,none⟩))) (w.alloc (.cells x.cells t))):
  zP P o X D aJ (By (iN P t v.bR aJ).2 aJ++au3 o.dst (aJ+(iN P t v.bR aJ).2.length) (af.size (iN P t v.bR aJ).1) (iN P t v.bR aJ).1) g:=by
 obtain⟨n1,n2,n3⟩:=avg P t v.bR aJ;generalize (iN P t v.bR aJ).1=k at n1 n2 n3
 generalize (iN P t v.bR aJ).2=es at n1 n2 n3
 intro π a w next Q R hk hf hd hD hn;obtain⟨x,hx,h1⟩:=h π a w R
 have hcn:cB (By es aJ++au3 o.dst (aJ+es.length) (af.size k) k)=es.length+1:=by
  rw[aIY,ato];unfold au3 dO cB;cases o.dst<;>rfl
 rw[hcn] at hf hn;obtain⟨π1,e1,e2,e3,R1⟩:=R.aE0 n2 hk (λb h1 h2=>hf b h1 (by omega));obtain⟨hl,hc⟩:=iY (n3 π1 e3 _ (RV.Ox (RV.dC e1 _ _ hx)));have hl':x.cells.size=af.size k:=by simpa using hl
 have h0:π1 (aJ+es.length)=none:=by
  cases hh:π1 (aJ+es.length) with
  |none=>rfl
  |some p=>
   rcases e2 (aJ+es.length) (by rw[hh];simp) with h|h
   .exact absurd (hf _ (by omega) (by omega)) h
   .omega
 have R2:=R1.alloc (k:=k) (cs:=x.cells) (t:=t) (e:=x.cells.size) h0 (by omega) (by omega) (cW _) (λj hj=>by
  obtain⟨y,hy,hr⟩:=hc j hj;exact⟨y,by simpa using hy,hr⟩)
 refine Qo h1 (hn _ _ (zV π1 (aJ+es.length) (w.heap.size,0,af.size k,x.cells.size)) (e1.trans (Al h0 _)) (λb hb=> ?_) ?_)
 .simp only[zV] at hb;by_cases e:b=aJ+es.length
  .subst e;exact .inr ⟨by omega,by omega⟩
  .simp only[e,fY] at hb;rcases e2 b hb with h|h
   .exact .inl h
   .exact .inr ⟨h.1,by omega⟩
 .have R3:=R2.dst hd (v:=.r (.c (.ptr (aJ+es.length) (.k 0) (af.size k)))) (x:=.pointer (some ⟨w.heap.size,0,none⟩)) ⟨_,_,_,_,py _ _ _,rfl,by simp[cA.val]⟩
  have e:cE (By es aJ++au3 o.dst (aJ+es.length) (af.size k) k) g=cE (dO o.dst (.r (.c (.ptr (aJ+es.length) (.k 0) (af.size k))))) ((Up.new (aJ+es.length) k).gX (cE (By es aJ) g)):=by
   rw[aEZ];unfold au3 dO;cases o.dst<;>rfl
  rw[e];exact R3
theorem aNl {e:TypeId}{fp:List Fp}(ho:o.op=.alloc e)(h:aI ((Ab.dX (Ah P e)).bind λz=>.ret (By (iN P e z.bR aJ).2 aJ++au3 o.dst (aJ+(iN P e z.bR aJ).2.length) (af.size (iN P e z.bR aJ).1) (iN P e z.bR aJ).1)) g us fp):zP P o X D aJ us g:=by
 obtain⟨z,⟨_,h1⟩,_,h2⟩:=aI.bind' h;cases h2;refine aE1 (t:=e) λπ a w R=> ?_;obtain⟨x,hx,_,hr⟩:=aem h1.dX w;refine⟨x,hr π,?_⟩;simp[execOp,ho,Instr.alloc,hx,newVar,LD]
theorem aT1 {t:TypeId}{x:Operand}{fp:List Fp}(ho:o.op=.box t x)(h:aI ((vM x).bind λv=>.ret (By (iN P t v.bR aJ).2 aJ++au3 o.dst (aJ+(iN P t v.bR aJ).2.length) (af.size (iN P t v.bR aJ).1) (iN P t v.bR aJ).1)) g us fp):zP P o X D aJ us g:=by
 obtain⟨z,⟨_,h1⟩,_,h2⟩:=aI.bind' h;cases h2;refine aE1 (t:=t) λπ a w R=>⟨_,h1.vM R,?_⟩
 simp[execOp,ho,Instr.box,newVar,LD]
theorem aT2 {π:Pi}{a:Act}{w:World}(R:Rel X D π g a w){l:List FV}{B s:Nat}(h:∀j f,l[j]? =some f->∃v,ax.fs B (s+j)=some v/\f.rel v):∃xs:List Value,xs.length=l.length/\bl (CV.rel π) (af.list (aEA l)) xs/\∀j v,xs[j]? =some v->cl w B (s+j)=some v:=by
 have cell:∀j f,l[j]? =some f->∃v,cl w B (s+j)=some v/\f.rel v:=λj f hj=>by
  obtain⟨v,h1,h2⟩:=h j f hj;exact⟨v,(R.hp.am.st _ _ _ h1).2,h2⟩
 have xI:af.size (aEA l)=l.length:=(Wn (λv:FV=>CV.f v) l 0).1;refine⟨(List.range l.length).map λj=>(cl w B (s+j)).getD undef,by simp,xq (by simp[xI]) λj hj=> ?_,λj v hv=> ?_⟩
 .rw[xI] at hj;obtain⟨v,hv,hr⟩:=cell j _ (j7 hj);refine⟨v,?_,?_⟩
  .rw[Af,List.getElem?_range hj];simp[hv]
  .rw[show aEA l=l.map λv=>Sg.c (.f v) from rfl,(Wn (λv:FV=>CV.f v) l j).2 _ (j7 hj)];exact hr
 .have hjn:j<l.length:=by
   have:=(ld.1 hv).1;simpa using this
  obtain⟨u,hu,_⟩:=cell j _ (j7 hjn);simp[hjn,hu] at hv
  rw[hu,hv]
theorem aI.aEB {P:Program}{π:Pi}{a:Act}{w:World}(R:Rel X D π g a w){t:TypeId}{fl:List FV}{v:RV}{l:List Fp}(h:aI (aEB P t fl) g v l){x:Value}(hx:(CV.fp fl).rel π x):
  ∃B s y,x=.pointer (some ⟨B,s,none⟩)/\(loadVar t ⟨B,s,none⟩).run P w=.ok y w/\v.rel π y:=by
 obtain⟨B,s,rfl,hc⟩:=hx;obtain⟨xs,hl,hx,DX⟩:=aT2 R hc;obtain⟨ag,⟨_,h1⟩,_,h⟩:=aI.bind' h;obtain⟨n,⟨_,h2⟩,_,h⟩:=aI.bind' h;have h1:=h1.dX;have h2:=h2.dX;cases ag with
 |true=>
  obtain⟨_,⟨_,h3⟩,_,h⟩:=aI.bind' h;have h3:=beq_iff.1 h3.cH;refine⟨B,s,.agg xs.toArray,rfl,?_,h.aqA ⟨_,rfl,hx⟩⟩;have:=aak (P:=P) DX;rw[hl,<-h3] at this;simp[loadVar,JO h1,run_sizeOf h2,this]
 |false=>
  cases fl with
  |nil=>cases h
  |cons f fl=>
   match xs,hl with
   |x::xs,_=>
    have hcx:=DX 0 x rfl;simp only[jM] at hcx;refine⟨B,s,x,rfl,?_,?_⟩
    .simp only[cl] at hcx;simp[loadVar,JO h1,hcx]
    .have:=(iY hx).2 0 (by rw[show aEA (f::fl)=(f::fl).map λv=>Sg.c (.f v) from rfl,(Wn (λv:FV=>CV.f v) (f::fl) 0).1];simp);obtain⟨y,hy,hr⟩:=this;cases hy;exact aI.aqA (c:=.c (.f f)) h hr
theorem aRr {t:TypeId}{x:Operand}{fp:List Fp}(ho:o.op=.load t x)(h:aI ((G9 x).bind λ
  |.ptr b q n=>(valueOf P t b q n).bind λv=>.ret (dO o.dst (.r v))
  |.fp l=>(aEB P t l).bind λv=>.ret (dO o.dst (.r v))
  |_=>.fail) g us fp):zP P o X D aJ us g:=by
 obtain⟨p,⟨_,h1⟩,_,h2⟩:=aI.bind' h;split at h2
 .obtain⟨v,⟨_,h3⟩,_,h4⟩:=aI.bind' h2;cases h4;refine iC λπ a w R=> ?_;obtain⟨B,s,q,e,hb,ha,hm⟩:=h1.G9 R;obtain⟨y,hy,hr⟩:=aI.valueOf R h3 hb hm;refine⟨y,?_,hr⟩;simp[execOp,ho,Instr.loadAt,ha,Instr.sureAddr,hy]
 .obtain⟨v,⟨_,h3⟩,_,h4⟩:=aI.bind' h2;cases h4;refine iC λπ a w R=> ?_;obtain⟨B,s,y,ha,hy,hr⟩:=aI.aEB R h3 (h1.G9 R);refine⟨y,?_,hr⟩;simp[execOp,ho,Instr.loadAt,ha,Instr.sureAddr,hy]
 .cases h2
end
end Go.Ab
