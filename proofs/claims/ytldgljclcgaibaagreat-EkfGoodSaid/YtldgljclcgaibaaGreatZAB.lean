/-
  Parts of the proof: AbA AbS AbM AbO
-/
import Derived.Test.YtldgljclcgaibaaGreatZAA
import Derived.Laws.IdiomCopy
import Derived.Laws.Cells
import Derived.Laws.Entries
set_option linter.unusedVariables false
set_option linter.unusedSimpArgs false
namespace Go.Ab
theorem c7.aTq (c:c7)(d j:Nat):(c.shift d).at j=c.at (d+j):=by cases c<;>rfl
theorem c7.a1L (c:c7)(d j:Nat):(c.up d).at j=c.at (j-d):=by cases c<;>rfl
theorem beq_iff {a b:Nat}:Nat.beq a b=true↔a=b:=⟨lE,λh=>h▸Fz a⟩
theorem beq_false {a b:Nat}(h:a≠b):Nat.beq a b=false:=by
 rw[Bool.eq_false_iff];exact λe=>h (beq_iff.1 e)
theorem uX {a b:Nat}:Nat.blt a b=true↔a<b:=by simp[Nat.blt];omega
theorem agE {a b:Nat}(h:¬a<b):Nat.blt a b=false:=by
 rw[Bool.eq_false_iff];exact λe=>h (uX.1 e)
theorem fy {a b:Nat}:Nat.ble a b=true↔a<=b:=by rw[Nat.ble_eq]
theorem ayp {α:Type}(j e:Nat)(x y:α):(cond (Nat.beq j e) x y)=if j=e then x else y:=by
 by_cases h:j=e
 .rw[if_pos h,beq_iff.2 h];rfl
 .rw[if_neg h,beq_false h];rfl
theorem c7.aXA {c c':c7}{e:Nat}{v:CV}(h:c.aSz e v=some c'):∀j,CV.f (c'.at j)=if j=e then v else .f (c.at j):=by
 intro j;unfold c7.aSz at h;split at h
 .split at h
  .cases h;rename_i hk
   subst hk;simp only[c7.at,ayp];split<;>rfl
  .cases h
 .cases h;simp only[c7.at,ayp];split<;>rfl
 .cases h;simp only[c7.at,ayp];split<;>rfl
 .cases h
theorem c7.aZx {p:Nat->Bool}{c d e:c7}(h:c7.mrg p c d=some e):∀j,e.at j=if p j=true then c.at j else d.at j:=by
 intro j;unfold c7.mrg at h;split at h
 .split at h
  .cases h;rename_i hk
   subst hk;simp only[c7.at];cases p j<;>rfl
  .cases h
 .cases h;simp only[c7.at];cases p j<;>rfl
 .cases h;simp only[c7.at];cases p j<;>rfl
 .cases h
def ja (cols:List c7)(j:Nat):CV:=match cols[j%cols.length]? with
 |some q=>.f (q.at (j/cols.length))
 |none=>.f .u
theorem Sg.pC (n:Sz)(cols:List c7)(j:Nat):(Sg.a n cols).get j=ja cols j:=rfl
theorem agF {p:Nat->Bool}:∀{cs ds es:List c7},au0 p cs ds=some es->es.length=cs.length/\ds.length=cs.length/\
  ∀(i:Nat) c d,cs[i]? =some c->ds[i]? =some d->∃e,es[i]? =some e/\∀j,e.at j=if p j=true then c.at j else d.at j
 | [],[],es,h=>by
  simp only[au0,iI] at h;subst h;exact⟨rfl,rfl,λi c d hc=>by simp at hc⟩
 |c::cs,d::ds,es,h=>by
  simp only[au0] at h;split at h
  .rename_i e es' h1 h2
   cases h;obtain⟨a1,a2,a3⟩:=agF h2;refine⟨by simp[a1],by simp[a2],λi c' d' hc hd=> ?_⟩;cases i with
   |zero=>
    simp only[aEy,iI] at hc hd;subst hc hd;exact⟨e,rfl,c7.aZx h1⟩
   |succ i=>exact a3 i c' d' (by simpa using hc) (by simpa using hd)
  .cases h
 | [],_::_,_,h=>by simp[au0] at h
 |_::_,[],_,h=>by simp[au0] at h
theorem aEP {p:Nat->Bool}{cs ds es:List c7}(h:au0 p cs ds=some es)(j:Nat):ja es j=if p (j/cs.length)=true then ja cs j else ja ds j:=by
 obtain⟨a1,a2,a3⟩:=agF h;unfold ja;rw[a1,a2];by_cases hl:j%cs.length<cs.length
 .have hc:cs[j%cs.length]? =some (cs[j%cs.length]'hl):=kR _;have hd:ds[j%cs.length]? =some (ds[j%cs.length]'(by omega)):=kR _;obtain⟨e,he,ha⟩:=a3 _ _ _ hc hd;rw[he,hc,hd];simp only[ha];split<;>rfl
 .rw[Ke (by omega),Ke (by omega),Ke (by omega)];exact(ite_self _).symm
theorem aAc (cols:List c7)(e j:Nat):ja (cols.map (c7.shift e)) j=ja cols (e*cols.length+j):=by
 unfold ja;rw[agt,Ca,ab8,atj];by_cases hl:cols.length=0
 .have:cols=[]:=aKy.1 hl;subst this;rfl
 .rw[Nat.mul_add_div (by omega)];cases cols[j%cols.length]? with
  |none=>rfl
  |some q=>simp only[Tg,c7.aTq]
theorem aMT (cols:List c7)(d j:Nat)(h:d*cols.length<=j):ja (cols.map (c7.up d)) j=ja cols (j-d*cols.length):=by
 unfold ja;rw[agt,Ca];by_cases hl:cols.length=0
 .have:cols=[]:=aKy.1 hl;subst this;rfl
 .obtain⟨m,rfl⟩:∃m,j=cols.length*d+m:=⟨j-cols.length*d,by rw[ab8] at h;omega⟩;rw[atj,Nat.mul_add_div (by omega),ab8 d,Nat.add_sub_cancel_left];cases cols[m%cols.length]? with
  |none=>rfl
  |some q=>simp only[Tg,c7.a1L,Nat.add_sub_cancel_left]
theorem aj.dR {s:Sg}{l:aj}{j:Nat}(h:j<s.size):aj.get (s::l) j=s.get j:=by simp[aj.get,h]
theorem aj.lp {s:Sg}{l:aj}{j:Nat}(h:s.size<=j):aj.get (s::l) j=aj.get l (j-s.size):=by
 rw[aj.get,if_neg (by omega)]
theorem aj.rn {n:Nat}{cols:List c7}{l:aj}{j j':Nat}(h:n*cols.length<=j)(e:j'=j-n*cols.length):aj.get l j'=aj.get (.a (.l n) cols::l) j:=by
 rw[aj.lp (s:=.a (.l n) cols) h,e];rfl
theorem aj.kG {v:CV}{l:aj}{j j':Nat}(h:1<=j)(e:j'=j-1):aj.get l j'=aj.get (.c v::l) j:=by
 rw[aj.lp (s:=.c v) h,e];rfl
theorem aj.size_cons (s:Sg)(l:aj):aj.size (s::l)=s.size+aj.size l:=rfl
theorem aj.lG:aj.size []=0:=rfl
theorem Sg.kF (v:CV):(Sg.c v).size=1:=rfl
theorem Sg.lJ (n:Sz)(cols:List c7):(Sg.a n cols).size=n.val*cols.length:=rfl
theorem aj.size_append (a b:aj):aj.size (a++b)=aj.size a+aj.size b:=by
 induction a with
 |nil=>simp[aj.size]
 |cons s a ih=>simp only[List.cons_append,aj.size,ih];omega
theorem aj.get_append (a b:aj)(j:Nat):aj.get (a++b) j=if j<aj.size a then aj.get a j else aj.get b (j-aj.size a):=by
 induction a generalizing j with
 |nil=>simp[aj.size]
 |cons s a ih=>
  rw[List.cons_append,aj.size_cons];by_cases h:j<s.size
  .rw[aj.dR h,aj.dR h,if_pos (by omega)]
  .rw[aj.lp (by omega),aj.lp (by omega),ih];by_cases h2:j-s.size<aj.size a
   .rw[if_pos h2,if_pos (by omega)]
   .rw[if_neg h2,if_neg (by omega)];congr 1;omega
theorem aj.ave (k:aj):k.list.length=k.size:=by simp[aj.list]
theorem aj.agG (k:aj)(j:Nat):k.list[j]? =if j<k.size then some (k.get j) else none:=by
 simp only[aj.list,Ca];split
 .rename_i h;simp[h]
 .rename_i h;rw[Ke (by simp;omega)];rfl
theorem WL {α:Type}(f:α->CV)(l:List α)(j:Nat):aj.size (l.map λa=>Sg.c (f a))=l.length/\∀a,l[j]? =some a->aj.get (l.map λa=>Sg.c (f a)) j=f a:=by
 induction l generalizing j with
 |nil=>exact⟨rfl,λa h=>by simp at h⟩
 |cons x l ih=>
  refine⟨by simp only[List.map_cons,aj.size,Sg.size,(ih 0).1,LV];omega,λa h=> ?_⟩;cases j with
  |zero=>simp at h;subst h;rfl
  |succ j=>exact(ih j).2 a (by simpa using h)
theorem aAd {sh:Bool}{cols:List c7}{e nK:Nat}{cF:Sz}{z:Nat}{v:aj}(h:aKA sh cols e nK cF z=some v)(he:sh=false->e=0):
  aj.size v=cF.val*z/\∀j,j<cF.val*z->aj.get v j=ja cols (e*cols.length+nK+j):=by
 unfold aKA at h;split at h
 .rename_i hc
  cases h;simp only[cB,beq_iff] at hc;obtain⟨rfl,hz⟩:=hc
  have hm:∀k,(cF.mul k).val=cF.val*k:=λk=>by
   unfold Sz.mul;split
   .rename_i hk;rw[beq_iff] at hk;subst hk;simp
   .cases cF<;>rfl
  have hlen:(shC sh e cols).length=cols.length:=by cases sh<;>simp[shC]
  have yQ:(cF.mul (z/cols.length)).val*cols.length=cF.val*z:=by
   rw[hm,Nat.mul_assoc,Nat.div_mul_cancel (aEz hz)]
  refine⟨by simp only[aj.size,Sg.size,hlen,yQ,ku],λj hj=> ?_⟩;rw[aj.dR (by simp only[Sg.size,hlen,yQ];exact hj),Sg.pC,ku];cases sh with
  |true=>exact aAc ..
  |false=>rw[he rfl,Th,dG];rfl
 .cases h
theorem L0 {sh:Bool}{cols:List c7}{e nK:Nat}{cF:Sz}{z:Nat}{v:aj}(h:rowsOf sh cols e nK cF z=some v)(he:sh=false->e=0):
  aj.size v=cF.val*z/\∀j,j<cF.val*z->aj.get v j=ja cols (e*cols.length+nK+j):=by
 unfold rowsOf at h;split at h
 .rename_i n
  split at h
  .rename_i hc
   cases h;simp only[cB,beq_iff,fy] at hc;obtain⟨rfl,hle⟩:=hc;have hl:((cols.drop nK).take z).length=z:=by simp;omega
   refine⟨by rw[(WL _ _ 0).1,hl];simp[Sz.val],λj hj=> ?_⟩;simp only[Sz.val,Vt] at hj
   have hg:((cols.drop nK).take z)[j]? =some (cols[nK+j]'(by omega)):=by
    rw[ab5,if_pos hj,Te,kR]
   rw[(WL (λq:c7=>CV.f (q.at e)) _ j).2 _ hg];unfold ja;rw[show e*cols.length+nK+j=cols.length*e+(nK+j) by rw[ab8];omega,atj,Nat.mul_add_div (by omega),ayj (by omega),Nat.div_eq_of_lt (by omega),kR (by omega)];rfl
  .exact aAd h he
 .exact aAd h he
theorem aar:∀{b v:aj} {m:Nat},WH b m=some v->aj.size v=m/\∀j,j<m->aj.get v j=aj.get b j
 | [],v,m,h=>by
  cases m with
  |zero=>simp[WH] at h;subst h;exact⟨rfl,λj hj=>by omega⟩
  |succ m=>simp[WH] at h
 |.c x::r,v,m,h=>by
  cases m with
  |zero=>simp[WH] at h;subst h;exact⟨rfl,λj hj=>by omega⟩
  |succ m=>
   simp only[WH,mL] at h;obtain⟨v',h1,rfl⟩:=h;obtain⟨e1,e2⟩:=aar h1;refine⟨by simp only[aj.size,Sg.size,e1];omega,λj hj=> ?_⟩;cases j with
   |zero=>rfl
   |succ j=>rw[aj.lp (by simp[Sg.size]),aj.lp (by simp[Sg.size])];exact e2 _ (by simp[Sg.size];omega)
 |.a n cols::r,v,m,h=>by
  cases m with
  |zero=>simp[WH] at h;subst h;exact⟨rfl,λj hj=>by omega⟩
  |succ m=>
   simp only[WH] at h;split at h
   .cases h
   .rename_i n
    split at h
    .rename_i hle
     rw[fy] at hle;simp only[mL] at h;obtain⟨v',h1,rfl⟩:=h;obtain⟨e1,e2⟩:=aar h1;refine⟨by simp only[aj.size,Sg.size,Sz.val,e1];omega,λj hj=> ?_⟩;by_cases lM:j<n*cols.length
     .rw[aj.dR (by simpa[Sg.size,Sz.val] using lM),aj.dR (by simpa[Sg.size,Sz.val] using lM)]
     .rw[aj.lp (by simp[Sg.size,Sz.val];omega),aj.lp (by simp[Sg.size,Sz.val];omega)];exact e2 _ (by simp[Sg.size,Sz.val];omega)
    .rename_i hle
     have hle:¬n*cols.length<=m+1:=λhc=>by rw[fy.2 hc] at hle;cases hle
     obtain⟨e1,e2⟩:=L0 h (λ_=>rfl);simp only[Sz.val,Vt,Th,dG] at e1 e2;refine⟨e1,λj hj=> ?_⟩;rw[e2 j hj,aj.dR (by simp[Sg.size,Sz.val];omega)];rfl
theorem aI1 {n:Nat}(h:nz n=false):n=0:=by cases n<;>first|rfl|cases h
theorem Vu (c l:Nat):c/l*l+c%l=c:=by rw[ab8];exact Nat.div_add_mod c l
theorem OM:∀{b v:aj} {c:Nat} {cF:Sz} {z:Nat},alm b c cF z=some v->aj.size v=cF.val*z/\(c+cF.val*z<=aj.size b->∀j,j<cF.val*z->aj.get v j=aj.get b (c+j))
 | [],v,c,cF,z,h=>by
  simp only[alm] at h;split at h
  .split at h
   .rename_i n hn
    rw[beq_iff] at hn;cases h;exact⟨by simp[aj.size,Sz.val,hn],λ_ j hj=>by simp only[Sz.val] at hj;omega⟩
   .cases h
  .cases h
 |.c x::r,v,c,cF,z,h=>by
  cases c with
  |zero=>
   simp only[alm] at h;split at h
   .obtain⟨e1,e2⟩:=aar h;exact⟨e1,λ_ j hj=>by rw[dG];exact e2 j hj⟩
   .cases h
  |succ c=>
   simp only[alm] at h;obtain⟨e1,e2⟩:=OM h;refine⟨e1,λhle j hj=> ?_⟩;simp only[aj.size,Sg.size] at hle;rw[e2 (by omega) j hj];exact aj.kG (by omega) (by omega)
 |.a n cols::r,v,c,cF,z,h=>by
  simp only[alm] at h;split at h
  .obtain⟨e1,e2⟩:=L0 h aI1;rw[Vu] at e2;refine⟨e1,λhle j hj=> ?_⟩;simp only[aj.size,ku] at hle;rw[e2 j hj,aj.dR (by omega),Sg.pC]
  .split at h
   .rename_i n m
    split at h
    .rename_i hle
     rw[fy] at hle;obtain⟨e1,e2⟩:=OM h;refine⟨e1,λaeo j hj=> ?_⟩;rw[aj.size_cons,Sg.lJ] at aeo;simp only[Sz.val] at aeo;have e3:=e2 (by simp only[Sz.val];omega) j hj;rw[e3];exact aj.rn (by omega) (by omega)
    .split at h
     .rename_i aeo
      rw[fy] at aeo;obtain⟨e1,e2⟩:=L0 h aI1;rw[Vu] at e2;refine⟨e1,λ_ j hj=> ?_⟩;rw[e2 j hj,aj.dR (by simp only[Sg.size,Sz.val] at hj ⊢;omega),Sg.pC]
     .split at h
      .obtain⟨e1,e2⟩:=aar h;exact⟨e1,λ_ j hj=>by rw[dG];exact e2 j hj⟩
      .cases h
   .cases h
theorem agH {c i z l:Nat}(h:z%l=0):elemOf c i z l*l+c%l=c+i*z:=by
 unfold elemOf;split
 .rename_i hz
  rw[beq_iff] at hz;subst hz;have hd:=Vu c z;cases hq:c/z with
  |zero=>
   rw[hq] at hd;simp only;omega
  |succ q=>
   rw[hq] at hd;simp only;rw[qP];omega
 .have hd:=Vu c l;have hz:=Nat.div_mul_cancel (aEz h);rw[qP,Nat.mul_assoc,hz];omega
theorem atp:∀{b:aj} {v:aj} {c i z:Nat} {cF:Sz} {y:Nat},az7 b c i z cF y=some (true,v)->aj.size v=cF.val*y/\(c+i*z+cF.val*y<=aj.size b->∀j,j<cF.val*y->aj.get v j=aj.get b (c+i*z+j))
 | [],v,c,i,z,cF,y,h=>by simp[az7] at h
 |.c x::r,v,c,i,z,cF,y,h=>by
  cases c with
  |zero=>
   simp only[az7,mL,rm,AF] at h;obtain⟨v',h1,rfl⟩:=h;have:=OM h1;simpa using this
  |succ c=>
   simp only[az7] at h;obtain⟨e1,e2⟩:=atp h;refine⟨e1,λhle j hj=> ?_⟩;simp only[aj.size,Sg.size] at hle;rw[e2 (by omega) j hj];exact aj.kG (by omega) (by omega)
 |.a n cols::r,v,c,i,z,cF,y,h=>by
  simp only[az7] at h;split at h
  .split at h
   .rename_i hz
    rw[beq_iff] at hz;simp only[mL,rm,AF] at h;obtain⟨v',h1,rfl⟩:=h;obtain⟨e1,e2⟩:=L0 h1 (λh=>by cases h);rw[agH hz] at e2;refine⟨e1,λhle j hj=> ?_⟩;simp only[aj.size,ku] at hle;rw[e2 j hj,aj.dR (by omega),Sg.pC]
   .cases h
  .split at h
   .rename_i n
    split at h
    .rename_i hle
     rw[fy] at hle;obtain⟨e1,e2⟩:=atp h;refine⟨e1,λaeo j hj=> ?_⟩;rw[aj.size_cons,Sg.lJ] at aeo;simp only[Sz.val] at aeo;have e3:=e2 (by simp only[Sz.val];omega) j hj;rw[e3];exact aj.rn (by omega) (by omega)
    .split at h
     .rename_i hz
      rw[beq_iff] at hz;simp only[mL,rm] at h;obtain⟨v',h1,hg,rfl⟩:=h;rw[fy] at hg;obtain⟨e1,e2⟩:=L0 h1 (λh=>by cases h);rw[agH hz] at e2;refine⟨e1,λ_ j hj=> ?_⟩;rw[e2 j hj,aj.dR (by simp only[Sg.size,Sz.val];omega),Sg.pC]
     .cases h
   .cases h
theorem aj.ayq {b v:aj}{o:cE}{cF:Sz}{z:Nat}(h:b.sub o cF z=some (true,v)):aj.size v=cF.val*z/\(o.val+cF.val*z<=aj.size b->∀j,j<cF.val*z->aj.get v j=aj.get b (o.val+j)):=by
 cases o with
 |k c=>
  simp only[aj.sub,mL,rm,AF] at h;obtain⟨v',h1,rfl⟩:=h;exact OM h1
 |x c i y=>exact atp h
theorem agI:∀{cols dX:List c7} {j e:Nat} {v:CV},agx cols j e v=some dX->dX.length=cols.length/\j<cols.length/\(∀k,k≠j->dX[k]? =cols[k]?)/\∃c c',cols[j]? =some c/\dX[j]? =some c'/\c.aSz e v=some c'
 | [],_,_,_,_,h=>by simp[agx] at h
 |c::cs,dX,0,e,v,h=>by
  simp only[agx,mL] at h;obtain⟨c',h1,rfl⟩:=h;refine⟨rfl,by simp,λk hk=> ?_,c,c',rfl,rfl,h1⟩;cases k with
  |zero=>omega
  |succ k=>rfl
 |c::cs,dX,j+1,e,v,h=>by
  simp only[agx,mL] at h;obtain⟨Ti,h1,rfl⟩:=h;obtain⟨a1,a2,a3,c0,c1,a4,a5,a6⟩:=agI h1;refine⟨by simp[a1],by simp;omega,λk hk=> ?_,c0,c1,by simpa using a4,by simpa using a5,a6⟩;cases k with
  |zero=>rfl
  |succ k=>simpa using a3 k (by omega)
theorem aKI {cols dX:List c7}{j e:Nat}{v:CV}(h:agx cols j e v=some dX)(J:Nat):ja dX J=if J=e*cols.length+j then v else ja cols J:=by
 obtain⟨a1,a2,a3,c,c',a4,a5,a6⟩:=agI h;have aEQ:0<cols.length:=by omega
 unfold ja;rw[a1];by_cases hm:J%cols.length=j
 .rw[hm,a4,a5];simp only[c7.aXA a6];have hd:=Vu J cols.length;rw[hm] at hd;by_cases he:J/cols.length=e
  .rw[if_pos he,if_pos (by rw[<-he];omega)]
  .rw[if_neg he,if_neg λhJ=>he (by rw[hJ,ab8,Nat.mul_add_div aEQ,Nat.div_eq_of_lt a2,ku])]
 .rw[a3 _ hm,if_neg λhJ=>hm (by rw[hJ,ab8,atj,ayj a2])]
theorem L3:∀{b:aj} {cols dX:List c7} {e nK:Nat},D3 cols.length cols e nK b=some dX->dX.length=cols.length/\
  ∀J,ja dX J=if e*cols.length+nK<=J/\J<e*cols.length+nK+aj.size b then aj.get b (J-(e*cols.length+nK)) else ja cols J
 | [],cols,dX,e,nK,h=>by
  simp only[D3,iI] at h;subst h;exact⟨rfl,λJ=>by rw[if_neg (by rw[aj.lG];omega)]⟩
 |.a _ _::_,cols,dX,e,nK,h=>by simp[D3] at h
 |.c v::r,cols,dX,e,nK,h=>by
  simp only[D3] at h;split at h
  .rename_i a1M h1
   have hr:=aKI h1;obtain⟨a1,a2,_⟩:=agI h1
   have key:∀e' aXB,e'*cols.length+aXB=e*cols.length+(nK+1)->D3 cols.length a1M e' aXB r=some dX->dX.length=cols.length/\
     ∀J,ja dX J=if e*cols.length+nK<=J/\J<e*cols.length+nK+aj.size (.c v::r) then aj.get (.c v::r) (J-(e*cols.length+nK)) else ja cols J:=λe' aXB he h2=>by
    rw[<-a1] at h2;obtain⟨b1,b2⟩:=L3 h2;rw[a1] at b2;refine⟨b1.trans a1,λJ=> ?_⟩;rw[b2,he,hr];have hs:aj.size (.c v::r)=1+aj.size r:=rfl;by_cases c1:J=e*cols.length+nK
    .subst c1;rw[if_neg (by omega),if_pos rfl,if_pos (by rw[hs];omega),Nat.sub_self];rfl
    .by_cases c2:e*cols.length+(nK+1)<=J/\J<e*cols.length+(nK+1)+aj.size r
     .rw[if_pos c2,if_pos (by rw[hs];omega)];exact aj.kG (by omega) (by omega)
     .rw[if_neg c2,if_neg c1,if_neg (by rw[hs];omega)]
   split at h
   .rename_i hc
    rw[beq_iff] at hc;refine key (e+1) 0 ?_ h;rw[qP,hc];omega
   .exact key e (nK+1) rfl h
  .cases h
theorem atq {v:aj}{cols dX:List c7}{e nK:Nat}(h:aEE cols e nK v=some dX):dX.length=cols.length/\
  ∀J,ja dX J=if e*cols.length+nK<=J/\J<e*cols.length+nK+aj.size v then aj.get v (J-(e*cols.length+nK)) else ja cols J:=by
 unfold aEE at h;split at h
 .rename_i m ds
  split at h
  .rename_i hc
   simp only[cB,beq_iff] at hc;obtain⟨rfl,hl⟩:=hc;obtain⟨a1,a2,_⟩:=agF h;rw[agt] at a1 a2;refine⟨by omega,λJ=> ?_⟩;have hs:aj.size [.a m ds]=m.val*cols.length:=by rw[aj.size_cons,Sg.lJ,aj.lG,hl,ku]
   have hm:=aEP h J;rw[agt,<-hl] at hm;rw[hm];clear hm
   by_cases hz:cols.length=0
   .have h1:cols=[]:=aKy.1 hz;have h2:ds=[]:=aKy.1 (hl.symm.trans hz);subst h1 h2;rw[if_neg (show ¬(e*([]:List c7).length+0<=J/\J<e*([]:List c7).length+0+aj.size [.a m []]) by rw[hs];simp)];exact ite_self _
   .have hd:=Vu J cols.length;have hm:=Nat.mod_lt J (show cols.length>0 by omega);by_cases hp:e<=J/cols.length/\J/cols.length<e+m.val
    .have e1:e*cols.length<=J:=by
      have:=wK cols.length hp.1;omega
     have e2:J<e*cols.length+m.val*cols.length:=by
      have:=wK cols.length (show J/cols.length+1<=e+m.val by omega);rw[qP,qP] at this;omega
     rw[if_pos (by simp only[cB,fy,uX];exact hp),if_pos (show e*cols.length+0<=J/\J<e*cols.length+0+aj.size [.a m ds] by rw[hs];exact⟨e1,e2⟩),aMT _ _ _ (by rw[<-hl];exact e1),ku,aj.dR (by rw[Sg.lJ,<-hl];omega),Sg.pC,<-hl]
    .rw[if_neg (by simp only[cB,fy,uX];exact hp),if_neg (by
      rw[hs];rintro ⟨e1,e2⟩
      apply hp
      constructor
      .exact(Nat.le_div_iff_mul_le (by omega)).2 e1
      .refine(aye (by omega)).2 ?_;rw[qP];exact e2)]
  .cases h
 .exact L3 h
theorem aER:∀{b v b':aj},eN b v=some b'->aj.size b'=aj.size b/\∀j,aj.get b' j=if j<aj.size v then aj.get v j else aj.get b j:=by
 intro b v;induction b generalizing v with
 |nil=>
  intro b' h;cases v with
  |nil=>simp only[eN,iI] at h;subst h;exact⟨rfl,λj=>by rw[if_neg (by simp[aj.size])]⟩
  |cons y vs=>cases y<;>simp[eN] at h
 |cons x r ih=>
  intro b' h;cases v with
  |nil=>simp only[eN,iI] at h;subst h;exact⟨rfl,λj=>by rw[if_neg (by simp[aj.size])]⟩
  |cons y vs=>
   unfold eN at h;split at h
   .rename_i e;cases e
   .rename_i aXC aXD
    cases aXC;cases aXD
    simp only[mL] at h;obtain⟨r',h1,rfl⟩:=h;obtain⟨e1,e2⟩:=ih h1;refine⟨by simp only[aj.size,e1,Sg.size],λj=> ?_⟩;cases j with
    |zero=>rw[if_pos (by simp only[aj.size,Sg.size];omega)];rfl
    |succ j=>
     rw[<-aj.kG (l:=r') (j':=j) (by omega) (by omega),<-aj.kG (l:=vs) (j':=j) (by omega) (by omega),<-aj.kG (l:=r) (j':=j) (by omega) (by omega),e2];by_cases hj:j<aj.size vs
     .rw[if_pos hj,if_pos (by rw[aj.size_cons,Sg.kF];omega)]
     .rw[if_neg hj,if_neg (by rw[aj.size_cons,Sg.kF];omega)]
   .rename_i n cols _ m dX _ aXC aXD
    cases aXC;cases aXD
    split at h
    .rename_i hc
     simp only[cB,beq_iff] at hc;obtain⟨rfl,hl⟩:=hc;simp only[mL] at h;obtain⟨r',h1,rfl⟩:=h;obtain⟨e1,e2⟩:=ih h1;refine⟨by simp only[aj.size,e1,Sg.size,hl],λj=> ?_⟩;have hs:aj.size (.a (.l n) dX::vs)=n*dX.length+aj.size vs:=rfl;by_cases hj:j<n*dX.length
     .rw[aj.dR (by simpa[Sg.size,Sz.val] using hj),if_pos (by rw[hs];omega),aj.dR (by simpa[Sg.size,Sz.val] using hj)]
     .rw[<-aj.rn (l:=r') (j':=j-n*dX.length) (by omega) (by omega),<-aj.rn (l:=vs) (j':=j-n*dX.length) (by omega) (by omega),<-aj.rn (l:=r) (j':=j-n*dX.length) (by rw[hl];omega) (by rw[hl]),e2];by_cases lM:j-n*dX.length<aj.size vs
      .rw[if_pos lM,if_pos (by rw[hs];omega)]
      .rw[if_neg lM,if_neg (by rw[hs];omega)]
    .cases h
   .cases h
theorem aAe {n:Sz}{cols:List c7}{v:aj}(h:aKB n cols v=true):aj.size v=(Sg.a n cols).size:=by
 unfold aKB at h;split at h
 .simp only[cB,beq_iff] at h;obtain⟨rfl,hl⟩:=h;simp[aj.size,Sg.size,hl]
 .cases h
theorem ON:∀{b b':aj} {c:Nat} {v:aj},aln b c v=some b'->aj.size b'=aj.size b/\∀j,j<aj.size b->aj.get b' j=if c<=j/\j<c+aj.size v then aj.get v (j-c) else aj.get b j
 | [],b',c,v,h=>by
  simp only[aln] at h;split at h
  .cases h;exact⟨rfl,λj hj=>by simp[aj.size] at hj⟩
  .cases h
 |.c x::r,b',c,v,h=>by
  cases c with
  |zero=>
   simp only[aln] at h;obtain⟨e1,e2⟩:=aER h;refine⟨e1,λj _=> ?_⟩;rw[e2];by_cases hj:j<aj.size v
   .rw[if_pos hj,if_pos (by omega)];rfl
   .rw[if_neg hj,if_neg (by omega)]
  |succ c=>
   simp only[aln,mL] at h;obtain⟨r',h1,rfl⟩:=h;obtain⟨e1,e2⟩:=ON h1;refine⟨by simp only[aj.size,e1],λj hj=> ?_⟩;rw[aj.size_cons,Sg.kF] at hj;cases j with
   |zero=>rw[if_neg (by omega)];rfl
   |succ j=>
    rw[<-aj.kG (l:=r') (j':=j) (by omega) (by omega),<-aj.kG (l:=r) (j':=j) (by omega) (by omega),e2 j (by omega)];by_cases hc:c<=j/\j<c+aj.size v
    .rw[if_pos hc,if_pos (by omega)];congr 1;omega
    .rw[if_neg hc,if_neg (by omega)]
 |.a n cols::r,b',c,v,h=>by
  have put:∀{dX},aEE cols (c/cols.length) (c%cols.length) v=some dX->dX.length=cols.length/\∀J,ja dX J=if c<=J/\J<c+aj.size v then aj.get v (J-c) else ja cols J:=λh=>by
   have:=atq h;rw[Vu] at this;exact this
  simp only[aln] at h;split at h
  .split at h
   .rename_i hc
    cases h;simp only[cB,beq_iff] at hc;obtain⟨rfl,hs⟩:=hc;have hs:=aAe hs;refine⟨by simp only[aj.size,ku,hs],λj hj=> ?_⟩;simp only[aj.size,ku] at hj;rw[if_pos (by omega),Nat.sub_zero]
   .simp only[mL] at h;obtain⟨dX,h1,rfl⟩:=h;obtain⟨e1,e2⟩:=put h1;refine⟨by simp only[aj.size,Sg.size,e1],λj hj=> ?_⟩;simp only[aj.size,ku] at hj;rw[aj.dR (by simp only[Sg.size,e1];exact hj),aj.dR hj,Sg.pC,Sg.pC,e2]
  .split at h
   .cases h
   .rename_i n
    split at h
    .rename_i hle
     rw[fy] at hle;simp only[mL] at h;obtain⟨r',h1,rfl⟩:=h;obtain⟨e1,e2⟩:=ON h1;refine⟨by rw[aj.size_cons,aj.size_cons,e1],λj hj=> ?_⟩;rw[aj.size_cons,Sg.lJ] at hj;simp only[Sz.val] at hj;by_cases lM:j<n*cols.length
     .rw[aj.dR (by simpa[Sg.size,Sz.val] using lM),aj.dR (by simpa[Sg.size,Sz.val] using lM),if_neg (by omega)]
     .rw[<-aj.rn (l:=r') (j':=j-n*cols.length) (by omega) rfl,<-aj.rn (n:=n) (cols:=cols) (j':=j-n*cols.length) (by omega) rfl,e2 _ (by omega)];by_cases hc:c<=j/\j<c+aj.size v
      .rw[if_pos hc,if_pos (by omega)];congr 1;omega
      .rw[if_neg hc,if_neg (by omega)]
    .split at h
     .rename_i hc
      cases h;simp only[cB,beq_iff] at hc;obtain⟨rfl,hs⟩:=hc;have hs:=aAe hs;refine⟨by rw[aj.size_append,hs];rfl,λj hj=> ?_⟩;rw[aj.get_append,hs];by_cases lM:j<(Sg.a (.l n) cols).size
      .rw[if_pos lM,if_pos (by omega),Nat.sub_zero]
      .rw[if_neg lM,if_neg (by omega)];exact aj.rn (Nat.le_of_not_lt lM) rfl
     .split at h
      .rename_i aeo
       rw[fy] at aeo;simp only[mL] at h;obtain⟨dX,h1,rfl⟩:=h;obtain⟨e1,e2⟩:=put h1;refine⟨by simp only[aj.size,Sg.size,e1],λj hj=> ?_⟩;by_cases lM:j<n*cols.length
       .rw[aj.dR (by simpa[Sg.size,Sz.val,e1] using lM),aj.dR (by simpa[Sg.size,Sz.val] using lM),Sg.pC,Sg.pC,e2]
       .rw[if_neg (by omega),<-aj.rn (cols:=dX) (j':=j-n*cols.length) (by rw[e1];omega) (by rw[e1]),<-aj.rn (n:=n) (cols:=cols) (j':=j-n*cols.length) (by omega) rfl]
      .split at h
       .obtain⟨e1,e2⟩:=aER h;refine⟨e1,λj _=> ?_⟩;rw[e2];by_cases hj:j<aj.size v
        .rw[if_pos hj,if_pos (by omega)];rfl
        .rw[if_neg hj,if_neg (by omega)]
       .cases h
theorem atr:∀{b b':aj} {c i z:Nat} {v:aj},az8 b c i z v=some (true,b')->aj.size b'=aj.size b/\∀j,j<aj.size b->aj.get b' j=if c+i*z<=j/\j<c+i*z+aj.size v then aj.get v (j-(c+i*z)) else aj.get b j
 | [],b',c,i,z,v,h=>by simp[az8] at h
 |.c x::r,b',c,i,z,v,h=>by
  cases c with
  |zero=>
   simp only[az8,mL,rm,AF] at h;obtain⟨v',h1,rfl⟩:=h;simpa using ON h1
  |succ c=>
   simp only[az8,mL,rm] at h;obtain⟨⟨g,r'⟩,h1,hg,rfl⟩:=h;simp only at hg;subst hg;obtain⟨e1,e2⟩:=atr h1;refine⟨by simp only[aj.size,e1],λj hj=> ?_⟩;rw[aj.size_cons,Sg.kF] at hj;cases j with
   |zero=>rw[if_neg (by omega)];rfl
   |succ j=>
    rw[<-aj.kG (l:=r') (j':=j) (by omega) (by omega),<-aj.kG (l:=r) (j':=j) (by omega) (by omega),e2 j (by omega)];by_cases hc:c+i*z<=j/\j<c+i*z+aj.size v
    .rw[if_pos hc,if_pos (by omega)];congr 1;omega
    .rw[if_neg hc,if_neg (by omega)]
 |.a n cols::r,b',c,i,z,v,h=>by
  simp only[az8] at h;split at h
  .split at h
   .rename_i hz
    rw[beq_iff] at hz;simp only[mL,rm,AF] at h;obtain⟨dX,h1,rfl⟩:=h;have e:=atq h1;rw[agH hz] at e;obtain⟨e1,e2⟩:=e;refine⟨by simp only[aj.size,Sg.size,e1],λj hj=> ?_⟩;simp only[aj.size,ku] at hj;rw[aj.dR (by simp only[Sg.size,e1];exact hj),aj.dR hj,Sg.pC,Sg.pC,e2]
   .cases h
  .split at h
   .rename_i n
    split at h
    .rename_i hle
     rw[fy] at hle;simp only[mL,rm] at h;obtain⟨⟨g,r'⟩,h1,hg,rfl⟩:=h;simp only at hg;subst hg;obtain⟨e1,e2⟩:=atr h1;refine⟨by rw[aj.size_cons,aj.size_cons,e1],λj hj=> ?_⟩;rw[aj.size_cons,Sg.lJ] at hj;simp only[Sz.val] at hj;by_cases lM:j<n*cols.length
     .rw[aj.dR (by simpa[Sg.size,Sz.val] using lM),aj.dR (by simpa[Sg.size,Sz.val] using lM),if_neg (by omega)]
     .rw[<-aj.rn (l:=r') (j':=j-n*cols.length) (by omega) rfl,<-aj.rn (n:=n) (cols:=cols) (j':=j-n*cols.length) (by omega) rfl,e2 _ (by omega)];by_cases hc:c+i*z<=j/\j<c+i*z+aj.size v
      .rw[if_pos hc,if_pos (by omega)];congr 1;omega
      .rw[if_neg hc,if_neg (by omega)]
    .split at h
     .rename_i hz
      rw[beq_iff] at hz;simp only[mL,rm] at h;obtain⟨dX,h1,hg,rfl⟩:=h;rw[fy] at hg;have e:=atq h1;rw[agH hz] at e;obtain⟨e1,e2⟩:=e;rw[e1] at hg;refine⟨by simp only[aj.size,Sg.size,e1],λj hj=> ?_⟩;by_cases lM:j<n*cols.length
      .rw[aj.dR (by simpa[Sg.size,Sz.val,e1] using lM),aj.dR (by simpa[Sg.size,Sz.val] using lM),Sg.pC,Sg.pC,e2]
      .rw[if_neg (by omega),<-aj.rn (cols:=dX) (j':=j-n*cols.length) (by rw[e1];omega) (by rw[e1]),<-aj.rn (n:=n) (cols:=cols) (j':=j-n*cols.length) (by omega) rfl]
     .cases h
   .cases h
theorem aj.aTr {b b' v:aj}{o:cE}(h:b.AA o v=some (true,b')):aj.size b'=aj.size b/\∀j,j<aj.size b->aj.get b' j=if o.val<=j/\j<o.val+aj.size v then aj.get v (j-o.val) else aj.get b j:=by
 cases o with
 |k c=>
  simp only[aj.AA,mL,rm,AF] at h;obtain⟨v',h1,rfl⟩:=h;exact ON h1
 |x c i y=>exact atr h
theorem QA:∀{b:aj},WI b=true->aj.size b=b.length
 | [],_=>rfl
 |.c v::r,h=>by
  have:=QA (b:=r) h;rw[aj.size_cons,Sg.kF,this,LV];omega
 |.a _ _::_,h=>by cases h
theorem avf (cols:List c7):∀l:List Nat,WI (agy cols l)=true/\(agy cols l).length=l.length/\∀i j,l[i]? =some j->aj.get (agy cols l) i=ja cols j
 | []=>⟨rfl,rfl,λi j h=>by simp at h⟩
 |k::l=>by
  obtain⟨h1,h2,h3⟩:=avf cols l;refine⟨h1,by simp[agy,h2],λi j h=> ?_⟩;cases i with
  |zero=>
   simp only[aEy,iI] at h;subst h;rfl
  |succ i=>exact(aj.lp (s:=.c _) (by rw[Sg.kF];omega)).trans (h3 i j (by simpa using h))
theorem yR:∀b:aj,aj.size (uB b)=aj.size b/\∀j,j<aj.size b->aj.get (uB b) j=aj.get b j
 | []=>⟨rfl,λ_ _=>rfl⟩
 |.c v::r=>by
  obtain⟨h1,h2⟩:=yR r;refine⟨by rw[uB,aj.size_cons,aj.size_cons,h1],λj hj=> ?_⟩;rw[aj.size_cons,Sg.kF] at hj;cases j with
  |zero=>rfl
  |succ j=>
   rw[uB,aj.lp (by rw[Sg.kF];omega),aj.lp (by rw[Sg.kF];omega)];exact h2 _ (by rw[Sg.kF];omega)
 |.a (.s n) cols::r=>by
  obtain⟨h1,h2⟩:=yR r;refine⟨by rw[uB,aj.size_cons,aj.size_cons,h1],λj hj=> ?_⟩;rw[aj.size_cons] at hj;rw[uB];by_cases lM:j<(Sg.a (.s n) cols).size
  .rw[aj.dR lM,aj.dR lM]
  .rw[aj.lp (by omega),aj.lp (by omega)];exact h2 _ (by omega)
 |.a (.l n) cols::r=>by
  obtain⟨h1,h2⟩:=yR r;obtain⟨c1,c2,c3⟩:=avf cols (List.range (n*cols.length));have hs:aj.size (agy cols (List.range (n*cols.length)))=n*cols.length:=by rw[QA c1,c2,List.length_range]
  have WM:(Sg.a (.l n) cols).size=n*cols.length:=rfl;refine⟨by rw[uB,aj.size_append,aj.size_cons,h1,hs,WM],λj hj=> ?_⟩;rw[aj.size_cons,WM] at hj;rw[uB,aj.get_append,hs];by_cases lM:j<n*cols.length
  .rw[if_pos lM,aj.dR (by rw[WM];exact lM),Sg.pC];exact c3 j j (by simp[lM])
  .rw[if_neg lM,aj.lp (by rw[WM];omega),WM];exact h2 _ (by omega)
theorem L4 (n m:Sz):(n.add m).val=n.val+m.val:=by cases n<;>cases m<;>rfl
theorem aQJ {n:Sz}{cols:List c7}{b c:aj}(h:aMI n cols b=some c):aj.size c=aj.size [.a n cols]+aj.size b/\
  ∀j,j<aj.size [.a n cols]+aj.size b->aj.get c j=if j<aj.size [.a n cols] then aj.get [.a n cols] j else aj.get b (j-aj.size [.a n cols]):=by
 have h0:aj.size [.a n cols]=n.val*cols.length:=by rw[aj.size_cons,aj.lG,Sg.lJ,ku]
 unfold aMI at h;split at h
 .rename_i hc
  simp only[cB,beq_iff,fy] at hc;obtain⟨Er,aEQ,aXE⟩:=hc;simp only[mL] at h;obtain⟨es,h1,rfl⟩:=h;obtain⟨a1,a2⟩:=L3 h1;have hbs:=QA Er;have hq:(b.length/cols.length)*cols.length=b.length:=Nat.div_mul_cancel (aEz aXE)
  have hr:(n.add (.l (b.length/cols.length))).val*es.length=n.val*cols.length+b.length:=by
   rw[L4,a1,qP,Sz.val,hq]
  refine⟨by rw[h0,hbs,aj.size_cons,aj.lG,Sg.lJ,ku,hr],λj hj=> ?_⟩;rw[h0] at hj;rw[aj.dR (by rw[Sg.lJ,hr];omega),Sg.pC,a2,ku];by_cases lM:j<n.val*cols.length
  .rw[if_neg (by omega),if_pos (show j<aj.size [.a n cols] by rw[h0];exact lM),aj.dR (by rw[Sg.lJ];exact lM),Sg.pC]
  .rw[if_pos (by omega),if_neg (show ¬j<aj.size [.a n cols] by rw[h0];exact lM),h0]
 .cases h
theorem aES {n:Sz}{cols:List c7}{b c:aj}(h:aSA n cols b=some c):aj.size c=aj.size [.a n cols]+aj.size b/\
  ∀j,j<aj.size [.a n cols]+aj.size b->aj.get c j=if j<aj.size [.a n cols] then aj.get [.a n cols] j else aj.get b (j-aj.size [.a n cols]):=by
 have h0:aj.size [.a n cols]=n.val*cols.length:=by rw[aj.size_cons,aj.lG,Sg.lJ,ku]
 have two:aMI n cols (uB b)=some c->aj.size c=aj.size [.a n cols]+aj.size b/\
  ∀j,j<aj.size [.a n cols]+aj.size b->aj.get c j=if j<aj.size [.a n cols] then aj.get [.a n cols] j else aj.get b (j-aj.size [.a n cols]):=λh=>by
  obtain⟨e1,e2⟩:=aQJ h;obtain⟨f1,f2⟩:=yR b;rw[f1] at e1 e2;refine⟨e1,λj hj=> ?_⟩;rw[e2 j hj];by_cases lM:j<aj.size [.a n cols]
  .rw[if_pos lM,if_pos lM]
  .rw[if_neg lM,if_neg lM,f2 _ (by omega)]
 unfold aSA at h;split at h
 .rename_i m dX
  split at h
  .rename_i hc
   simp only[cB,beq_iff,fy] at hc;obtain⟨hl,aEQ⟩:=hc;simp only[mL] at h;obtain⟨es,h1,rfl⟩:=h;obtain⟨a1,_,_⟩:=agF h1;have hb:aj.size [.a m dX]=m.val*cols.length:=by rw[aj.size_cons,aj.lG,Sg.lJ,ku,hl]
   have hr:aj.size [.a (n.add m) es]=n.val*cols.length+m.val*cols.length:=by
    rw[aj.size_cons,aj.lG,Sg.lJ,ku,L4,a1,qP]
   refine⟨by rw[hr,h0,hb],λj hj=> ?_⟩;rw[h0,hb] at hj;have hm:=aEP h1 j
   have e1:aj.get [.a (n.add m) es] j=ja es j:=by
    rw[aj.dR (by rw[Sg.lJ,L4,a1,qP];exact hj),Sg.pC]
   rw[e1,hm];by_cases lM:j<n.val*cols.length
   .rw[if_pos (by rw[uX];exact(aye (by omega)).2 lM),if_pos (show j<aj.size [.a n cols] by rw[h0];exact lM),aj.dR (by rw[Sg.lJ];exact lM),Sg.pC]
   .rw[if_neg (by rw[uX];exact λhh=>lM ((aye (by omega)).1 hh)),if_neg (show ¬j<aj.size [.a n cols] by rw[h0];exact lM),aMT _ _ _ (by rw[<-hl];omega),h0,aj.dR (by rw[Sg.lJ,<-hl];omega),Sg.pC,<-hl]
  .exact two h
 .exact two h
theorem alv:∀{z:Nat} {b:aj} {cols:List c7},EN z b=some cols->cols.length=z
 |0,b,cols,h=>by simp only[EN,iI] at h;subst h;rfl
 |z+1,[],cols,h=>by simp[EN] at h
 |z+1,.a _ _::_,cols,h=>by simp[EN] at h
 |z+1,.c v::r,cols,h=>by
  cases v<;>simp only[EN] at h<;>first|(cases h;done)|skip
  split at h
  .rename_i h1 h2
   cases h;simp[alv h2]
  .cases h
theorem alw {z:Nat}{b r:aj}(h:rowOf z b=some r):aj.size r=aj.size b/\(∀j,j<aj.size b->aj.get r j=aj.get b j):=by
 unfold rowOf at h;split at h
 .rename_i hc
  simp only[cB,beq_iff,fy] at hc;obtain⟨Er,aEQ,aXE⟩:=hc;split at h
  .rename_i cols h1
   simp only[mL] at h;obtain⟨es,h2,rfl⟩:=h;have hl:=alv h1;subst hl;obtain⟨a1,a2⟩:=L3 h2;have hbs:=QA Er;have hq:(b.length/cols.length)*cols.length=b.length:=Nat.div_mul_cancel (aEz aXE);refine⟨by rw[aj.size_cons,aj.lG,Sg.lJ,ku,a1,Sz.val,hq,hbs],λj hj=> ?_⟩;rw[aj.dR (by rw[Sg.lJ,a1,Sz.val,hq];omega),Sg.pC,a2,if_pos (by omega)];congr 1;omega
  .cases h
 .cases h
theorem aj.aTs {a b c:aj}(h:a.app b=some c):aj.size c=aj.size a+aj.size b/\
  ∀j,j<aj.size a+aj.size b->aj.get c j=if j<aj.size a then aj.get a j else aj.get b (j-aj.size a):=by
 unfold aj.app at h;split at h
 .cases h;refine⟨by rw[aj.lG,dG],λj hj=>by rw[if_neg (by rw[aj.lG];omega),aj.lG,Nat.sub_zero]⟩
 .cases h;refine⟨by rw[aj.lG,ku],λj hj=> ?_⟩;rw[aj.lG,ku] at hj;rw[if_pos hj]
 .exact aES h
 .split at h
  .rename_i h1
   obtain⟨e1,e2⟩:=alw h1;rw[(yR _).1] at e1 e2;have e2:=λj hj=>(e2 j hj).trans ((yR _).2 j hj)
   obtain⟨f1,f2⟩:=aES h;refine⟨by rw[f1,e1],λj hj=> ?_⟩;rw[f2 j (by rw[e1];exact hj)];by_cases lM:j<aj.size a
   .rw[if_pos (by rw[e1];exact lM),if_pos lM,e2 j lM]
   .rw[if_neg (by rw[e1];exact lM),if_neg lM,e1]
  .cases h
 .split at h
  .cases h;exact⟨aj.size_append _ _,λj _=>aj.get_append _ _ _⟩
  .cases h
theorem aas (z:Nat)(b:aj):aj.size (atl z b)=aj.size b/\∀j,j<aj.size b->aj.get (atl z b) j=aj.get b j:=by
 have key:∀{r},rowOf z (uB b)=some r->aj.size r=aj.size b/\∀j,j<aj.size b->aj.get r j=aj.get b j:=λh=>by
  obtain⟨e1,e2⟩:=alw h;obtain⟨g1,g2⟩:=yR b;rw[g1] at e1 e2;exact⟨e1,λj hj=>(e2 j hj).trans (g2 j hj)⟩
 unfold atl;split
 .exact⟨rfl,λ_ _=>rfl⟩
 .split
  .exact⟨rfl,λ_ _=>rfl⟩
  .split
   .rename_i h;exact key h
   .exact⟨rfl,λ_ _=>rfl⟩
 .split
  .rename_i h;exact key h
  .exact⟨rfl,λ_ _=>rfl⟩
theorem alx:∀{tm:List Tm} {b r:aj},agA tm b=some r->aj.size r=aj.size b/\∀j,j<aj.size b->aj.get r j=aj.get b j
 | [],[],r,h=>by cases h;exact⟨rfl,λ_ _=>rfl⟩
 | [],_::_,r,h=>by simp[agA] at h
 |.c::tm,[],r,h=>by simp[agA] at h
 |.c::tm,.a _ _::_,r,h=>by simp[agA] at h
 |.c::tm,.c v::b,r,h=>by
  simp only[agA,mL] at h;obtain⟨r',h1,rfl⟩:=h;obtain⟨e1,e2⟩:=alx h1;refine⟨by rw[aj.size_cons,aj.size_cons,e1],λj hj=> ?_⟩;rw[aj.size_cons,Sg.kF] at hj;cases j with
  |zero=>rfl
  |succ j=>
   rw[aj.lp (by rw[Sg.kF];omega),aj.lp (by rw[Sg.kF];omega)];exact e2 _ (by rw[Sg.kF];omega)
 |.a n z::tm,b,r,h=>by
  simp only[agA] at h;split at h
  .split at h
   .rename_i row h1
    simp only[mL] at h;obtain⟨r',h2,rfl⟩:=h;obtain⟨e1,e2⟩:=alw h1;obtain⟨f1,f2⟩:=alx h2;have hb:aj.size b=aj.size (b.take (n*z))+aj.size (b.drop (n*z)):=by rw[<-aj.size_append,List.take_append_drop]
    have hg:∀j,aj.get b j=if j<aj.size (b.take (n*z)) then aj.get (b.take (n*z)) j else aj.get (b.drop (n*z)) (j-aj.size (b.take (n*z))):=λj=>by rw[<-aj.get_append,List.take_append_drop]
    refine⟨by rw[aj.size_append,e1,f1,hb],λj hj=> ?_⟩;rw[aj.get_append,hg,e1];by_cases lM:j<aj.size (b.take (n*z))
    .rw[if_pos lM,if_pos lM,e2 j lM]
    .rw[if_neg lM,if_neg lM,f2 _ (by omega)]
   .cases h
  .cases h
theorem aQK (P:Program)(t:TypeId)(l:aj):aj.size (norm P t l)=aj.size l/\∀j,j<aj.size l->aj.get (norm P t l) j=aj.get l j:=by
 unfold norm;split
 .split
  .rename_i h;exact alx h
  .exact⟨rfl,λ_ _=>rfl⟩
 .split
  .exact⟨rfl,λ_ _=>rfl⟩
  .split
   .exact yR l
   .exact⟨rfl,λ_ _=>rfl⟩
theorem ayr (b:aj):aj.size (toS b)=aj.size b/\∀j,aj.get (toS b) j=aj.get b j:=by
 unfold toS;split
 .exact⟨rfl,λ_=>rfl⟩
 .exact⟨rfl,λ_=>rfl⟩
theorem Kj (f:CV->CV)(b:aj):aj.size (K8 f b)=aj.size b:=by
 induction b with
 |nil=>rfl
 |cons s r ih=>cases s<;>simp only[K8,aj.size_cons,ih]<;>rfl
theorem aDU (cols:List c7)(j:Nat):∃x,ja cols j=.f x:=by
 unfold ja;split<;>exact⟨_,rfl⟩
theorem ays {f:CV->CV}(hf:∀x,f (.f x)=.f x)(b:aj)(j:Nat)(hj:j<aj.size b):aj.get (K8 f b) j=f (aj.get b j):=by
 induction b generalizing j with
 |nil=>rw[aj.lG] at hj;omega
 |cons s r ih=>
  rw[aj.size_cons] at hj;cases s with
  |c v=>
   cases j with
   |zero=>rfl
   |succ j=>
    rw[K8,<-aj.kG (l:=K8 f r) (j':=j) (by omega) (by omega),<-aj.kG (l:=r) (j':=j) (by omega) (by omega)];exact ih j (by rw[Sg.kF] at hj;omega)
  |a n cols=>
   rw[K8];by_cases h:j<(Sg.a n cols).size
   .rw[aj.dR h,aj.dR h,Sg.pC];obtain⟨x,hx⟩:=aDU cols j;rw[hx,hf]
   .rw[aj.lp (by omega),aj.lp (by omega)];exact ih _ (by omega)
theorem FV.aXF {x y:FV}(h:x.same y=true):x=y:=by
 unfold FV.same at h;split at h
 .rw[eq_of_beq h]
 .simp only[cB,jW] at h;rw[h.1,eq_of_beq h.2]
 .cases h
theorem aQL {v:FV}{c:c7}(h:aKC v=some c)(j:Nat):c.at j=v:=by
 cases v<;>simp only[aKC] at h<;>cases h<;>rfl
theorem agJ:∀{z:Nat} {b:aj} {cols:List c7},EN z b=some cols->∀i,i<z->∃c v,cols[i]? =some c/\b[i]? =some (.c (.f v))/\∀j,c.at j=v
 |0,b,cols,_,i,h=>by omega
 |z+1,[],cols,h,_,_=>by simp[EN] at h
 |z+1,.a _ _::_,cols,h,_,_=>by simp[EN] at h
 |z+1,.c v::r,cols,h,i,hi=>by
  cases v<;>simp only[EN] at h<;>first|(cases h;done)|skip
  split at h
  .rename_i c cs h1 h2
   cases h;cases i with
   |zero=>exact⟨c,_,rfl,rfl,aQL h1⟩
   |succ i=>simpa using agJ h2 i (by omega)
  .cases h
theorem aqE {z:Nat}{row:aj}:∀{m:Nat} {b r:aj},WJ z row m b=some r->aj.size b=m+aj.size r/\(∀j,j<m->∃v,row[(m-1-j)%z]? =some (.c (.f v))/\aj.get b j=.f v)/\∀j,aj.get b (m+j)=aj.get r j
 |0,b,r,h=>by
  simp only[WJ,iI] at h;subst h;exact⟨by omega,λj hj=>by omega,λj=>by rw[dG]⟩
 |m+1,[],r,h=>by simp[WJ] at h
 |m+1,.a _ _::_,r,h=>by simp[WJ] at h
 |m+1,.c v::q,r,h=>by
  cases v<;>simp only[WJ] at h<;>first|(cases h;done)|skip
  rename_i v
  split at h
  .rename_i y hy
   split at h
   .rename_i hs
    have hs:=FV.aXF hs;subst hs;obtain⟨e1,e2,e3⟩:=aqE h;refine⟨by rw[aj.size_cons,Sg.kF,e1];omega,λj hj=> ?_,λj=> ?_⟩
    .cases j with
     |zero=>exact⟨v,by simpa using hy,rfl⟩
     |succ j=>
      obtain⟨v',h1,h2⟩:=e2 j (by omega);refine⟨v',by rw[show m+1-1-(j+1)=m-1-j by omega];exact h1,?_⟩;rw[<-aj.kG (l:=q) (j':=j) (by omega) (by omega)];exact h2
    .rw[<-aj.kG (l:=q) (j':=m+j) (by omega) (by omega)];exact e3 j
   .cases h
  .cases h
theorem aly:∀{tm:List Tm} {b r:aj},aca tm b=some r->aj.size r=aj.size b/\∀j,aj.get r j=aj.get b j
 | [],[],r,h=>by simp only[aca,iI] at h;subst h;exact⟨rfl,λ_=>rfl⟩
 | [],_::_,r,h=>by simp[aca] at h
 |.c::tm,[],r,h=>by simp[aca] at h
 |.c::tm,.a _ _::_,r,h=>by simp[aca] at h
 |.c::tm,.c v::q,r,h=>by
  simp only[aca,mL] at h;obtain⟨r',h1,rfl⟩:=h;obtain⟨e1,e2⟩:=aly h1;refine⟨by rw[aj.size_cons,aj.size_cons,e1],λj=> ?_⟩;cases j with
  |zero=>rfl
  |succ j=>rw[<-aj.kG (l:=r') (j':=j) (by omega) (by omega),<-aj.kG (l:=q) (j':=j) (by omega) (by omega),e2]
 |.a n z::tm,b,r,h=>by
  simp only[aca] at h;split at h
  .rename_i cols h1
   split at h
   .rename_i hz
    rw[fy] at hz;split at h
    .rename_i q h2
     simp only[mL] at h;obtain⟨r',h3,rfl⟩:=h;obtain⟨e1,e2⟩:=aly h3;obtain⟨f1,f2,f3⟩:=aqE h2;have hl:=alv h1;refine⟨by rw[aj.size_cons,Sg.lJ,Sz.val,hl,e1,f1],λj=> ?_⟩;by_cases hj:j<n*z
     .rw[aj.dR (by rw[Sg.lJ,Sz.val,hl];exact hj),Sg.pC];obtain⟨v,g1,g2⟩:=f2 j hj;rw[g2];unfold ja;rw[hl];have hm:=Nat.mod_lt j (show z>0 by omega);obtain⟨c,v',k1,k2,k3⟩:=agJ h1 (j%z) hm;rw[k1];simp only[k3]
      have hlen:(b.take z).length=z:=by
       have:z<=b.length:=by
        obtain⟨_,_,_,k5,_⟩:=agJ h1 (z-1) (by omega);have:=(lL.1 k5).1;omega
       simp;omega
      have a3o:(n*z-1-j)%z=z-1-j%z:=by
       have hd:=Nat.div_add_mod j z;have hq:j/z<n:=(aye (by omega)).2 hj;obtain⟨t,ht⟩:∃t,n=j/z+1+t:=⟨n-(j/z+1),by omega⟩
       have:n*z-1-j=z*t+(z-1-j%z):=by
        have:n*z=z*(j/z)+z+z*t:=by rw[ht,ab8,Nat.mul_add,Nat.mul_add,Nat.mul_one]
        omega
       rw[this,atj,ayj (by omega)]
      rw[a3o,List.getElem?_reverse (by omega),hlen,show z-1-(z-1-j%z)=j%z by omega,ab5,if_pos hm,k2] at g1;cases g1;rfl
     .have e:aj.get (.a (.l n) cols::r') j=aj.get r' (j-n*z):=by
       rw[<-aj.rn (l:=r') (j':=j-n*z) (by rw[hl];omega) (by rw[hl])]
      rw[e,e2,<-f3];congr 1;omega
    .cases h
   .cases h
  .cases h
def bu {α β:Type}(R:α->β->Prop):List α->List β->Prop
 | [],[]=>True
 |a::l,b::m=>R a b/\bu R l m
 |_,_=>False
theorem bu.imp {α β:Type}{R S:α->β->Prop}(h:∀a b,R a b->S a b):∀{l:List α} {m:List β},bu R l m->bu S l m
 | [],[],_=>trivial
 |_::_,_::_,⟨a,b⟩=>⟨h _ _ a,bu.imp h b⟩
 | [],_::_,h=>h.elim
 |_::_,[],h=>h.elim
theorem bu.length {α β:Type}{R:α->β->Prop}:∀{l:List α} {m:List β},bu R l m->l.length=m.length
 | [],[],_=>rfl
 |_::_,_::_,⟨_,b⟩=>by simp[bu.length b]
 | [],_::_,h=>h.elim
 |_::_,[],h=>h.elim
theorem bu.append {α β:Type}{R:α->β->Prop}:∀{l:List α} {m:List β} {l':List α} {m':List β},bu R l m->bu R l' m'->bu R (l++l') (m++m')
 | [],[],_,_,_,h=>h
 |_::_,_::_,_,_,⟨a,b⟩,h=>⟨a,bu.append b h⟩
 | [],_::_,_,_,h,_=>h.elim
 |_::_,[],_,_,h,_=>h.elim
theorem bu.get {α β:Type}{R:α->β->Prop}:∀{l:List α} {m:List β},bu R l m->∀{i:Nat} {a:α},l[i]? =some a->∃b,m[i]? =some b/\R a b
 |a::l,b::m,⟨h,_⟩,0,x,e=>⟨b,rfl,by simp at e;exact e▸h⟩
 |a::l,b::m,⟨_,h⟩,i+1,x,e=>by simp at e ⊢;exact bu.get h e
 | [],_,_,i,a,e=>by simp at e
 |_::_,[],h,_,_,_=>h.elim
theorem bu.get' {α β:Type}{R:α->β->Prop}:∀{l:List α} {m:List β},bu R l m->∀{i:Nat} {b:β},m[i]? =some b->∃a,l[i]? =some a/\R a b
 |a::l,b::m,⟨h,_⟩,0,x,e=>⟨a,rfl,by simp at e;exact e▸h⟩
 |a::l,b::m,⟨_,h⟩,i+1,x,e=>by simp at e ⊢;exact bu.get' h e
 |_,[],_,i,a,e=>by simp at e
 | [],_::_,h,_,_,_=>h.elim
theorem bu.agK {α β:Type}{R:α->β->Prop}:∀{l:List α} {m:List β},l.length=m.length->(∀(i:Nat) a b,l[i]? =some a->m[i]? =some b->R a b)->bu R l m
 | [],[],_,_=>trivial
 |a::l,b::m,e,h=>⟨h 0 a b rfl rfl,bu.agK (by simpa using e) λi x y hx hy=>h (i+1) x y (by simpa using hx) (by simpa using hy)⟩
 | [],_::_,e,_=>by simp at e
 |_::_,[],e,_=>by simp at e
theorem bu.take {α β:Type}{R:α->β->Prop}:∀{l:List α} {m:List β} (n:Nat),bu R l m->bu R (l.take n) (m.take n)
 | [],[],n,_=>by simp[bu]
 |_::_,_::_,0,_=>by simp[bu]
 |_::_,_::_,n+1,⟨a,b⟩=>⟨a,bu.take n b⟩
 | [],_::_,_,h=>h.elim
 |_::_,[],_,h=>h.elim
theorem bu.drop {α β:Type}{R:α->β->Prop}:∀{l:List α} {m:List β} (n:Nat),bu R l m->bu R (l.drop n) (m.drop n)
 | [],[],n,_=>by simp[bu]
 |_::_,_::_,0,h=>h
 |_::_,_::_,n+1,⟨_,b⟩=>bu.drop n b
 | [],_::_,_,h=>h.elim
 |_::_,[],_,h=>h.elim
abbrev Pi:=Nat->Option (Nat×Nat×Nat×Nat)
def Ext (π π':Pi):Prop:=∀b p,π b=some p->π' b=some p
theorem Ext.refl (π:Pi):Ext π π:=λ_ _ h=>h
theorem Ext.trans {π π' π'':Pi}(h:Ext π π')(k:Ext π' π''):Ext π π'':=λb p e=>k b p (h b p e)
class ay where
 h0:Nat
 fs:Nat->Nat->Option Value
section
variable [ay]
def FV.rel:FV->Value->Prop
 |.u,x=>x.oneCell'=true
 |.b y,x=>x=.bool y
 |.i k n,x=>x=.int k n
 |.s y,x=>x=.string y
 |.q n g,x=>(n=0/\∃a,x=.slice a 0 0)∨∃B s cap,n<=cap/\x=.slice (some ⟨B,s,none⟩) n cap/\∀j,j<n->ay.fs B (s+j)=some (.bool (g j))
def CV.rel (π:Pi):CV->Value->Prop
 |.f v,x=>v.rel x
 |.ptr b o n,x=>∃B s q e,π b=some (B,s,q,e)/\x=.pointer (some ⟨B,s+o.val,none⟩)/\o.val+n<=q
 |.aiY,x=>x=.pointer none
 |.sl b o n z own,x=>∃B s q e,π b=some (B,s,q,e)/\o.val+n.val*z<=q/\(own=true->o.val+n.val*z=q)/\((n.val=0/\∃a,x=.slice a 0 0)∨∃cap,n.val<=cap/\x=.slice (some ⟨B,s+o.val,none⟩) n.val cap/\(own=true->s+o.val+cap*z<=e))
 |.nils,x=>x=.slice none 0 0
 |.aSx,x=>x=.nilFunc
 |.aSy,x=>x=.nilIface
 |.cl fid b o n,x=>∃B s q e,π b=some (B,s,q,e)/\x=.func (.func fid) #[] #[.pointer (some ⟨B,s+o.val,none⟩)]/\o.val+n<=q
 |.fs n z cols,x=>cols.length=z/\((n=0/\∃a,x=.slice a 0 0)∨∃B s cap,n<=cap/\x=.slice (some ⟨B,s,none⟩) n cap/\∀j,j<n*z->∃f v,ja cols j=.f f/\ay.fs B (s+j)=some v/\f.rel v)
 |.fp l,x=>∃B s,x=.pointer (some ⟨B,s,none⟩)/\∀j f,l[j]? =some f->∃v,ay.fs B (s+j)=some v/\f.rel v
def RV.rel (π:Pi):RV->Value->Prop
 |.c v,x=>v.rel π x
 |.agg cs,x=>∃a:Array Value,x=.agg a/\bu (CV.rel π) cs.list a.toList
def AV.rel (π:Pi):AV->Value->Prop
 |.r v,x=>v.rel π x
 |.tup vs,x=>∃a:Array Value,x=.tuple a/\bu (RV.rel π) vs a.toList
 |.fn f vs,x=>∃a:Array Value,x=.func (.func f) #[] a/\bu (RV.rel π) vs a.toList
 |.WG,_=>True
theorem FV.Rz {v:FV}{x:Value}(h:v.rel x):x.oneCell'=true:=by
 cases v with
 |q n g=>
  simp only[FV.rel] at h;obtain⟨_,_,rfl⟩| ⟨_,_,_,_,rfl,_⟩:=h<;>rfl
 |_=>simp[FV.rel] at h<;>first|exact h|(subst h;rfl)
theorem CV.Rz {π:Pi}{v:CV}{x:Value}(h:v.rel π x):x.oneCell'=true:=by
 cases v<;>simp only[CV.rel] at h
 case f v=>exact FV.Rz h
 case ptr=>obtain⟨_,_,_,_,_,rfl,_⟩:=h;rfl
 case cl=>obtain⟨_,_,_,_,_,rfl,_⟩:=h;rfl
 case fs=>obtain⟨_,⟨_,_,rfl⟩| ⟨_,_,_,_,rfl,_⟩⟩:=h<;>rfl
 case fp=>obtain⟨_,_,rfl,_⟩:=h;rfl
 case sl=>obtain⟨_,_,_,_,_,_,_,⟨_,_,rfl⟩| ⟨_,_,rfl,_⟩⟩:=h<;>rfl
 all_goals (subst h;rfl)
theorem CV.dM {π π':Pi}(h:Ext π π')(v:CV)(x:Value)(r:v.rel π x):v.rel π' x:=by
 cases v<;>simp only[CV.rel] at r ⊢
 case ptr=>obtain⟨B,s,q,e,hb,hx⟩:=r;exact⟨B,s,q,e,h _ _ hb,hx⟩
 case cl=>obtain⟨B,s,q,e,hb,hx⟩:=r;exact⟨B,s,q,e,h _ _ hb,hx⟩
 case sl=>obtain⟨B,s,q,e,hb,hx⟩:=r;exact⟨B,s,q,e,h _ _ hb,hx⟩
 all_goals exact r
theorem RV.dM {π π':Pi}(h:Ext π π')(v:RV)(x:Value)(r:v.rel π x):v.rel π' x:=by
 cases v<;>simp only[RV.rel] at r ⊢
 case c=>exact CV.dM h _ _ r
 case agg=>obtain⟨a,hx,ha⟩:=r;exact⟨a,hx,ha.imp (CV.dM h)⟩
theorem AV.dM {π π':Pi}(h:Ext π π')(v:AV)(x:Value)(r:v.rel π x):v.rel π' x:=by
 cases v<;>simp only[AV.rel] at r ⊢
 case r=>exact RV.dM h _ _ r
 case tup=>obtain⟨a,hx,ha⟩:=r;exact⟨a,hx,ha.imp (RV.dM h)⟩
 case fn=>obtain⟨a,hx,ha⟩:=r;exact⟨a,hx,ha.imp (RV.dM h)⟩
omit [ay] in
theorem aQM {x:Value}(h:x.oneCell'=true):x.cells=#[x]:=by
 cases x<;>simp_all [Value.oneCell',Value.cells]
omit [ay] in
theorem aTt (v:CV):aj.list [.c v]=[v]:=rfl
theorem RV.OO {π:Pi}{v:RV}{x:Value}(h:v.rel π x):bu (CV.rel π) v.bU.list x.cells.toList:=by
 cases v<;>simp only[RV.rel] at h
 case c v=>rw[aQM (CV.Rz h)];exact⟨h,trivial⟩
 case agg=>obtain⟨a,rfl,ha⟩:=h;exact ha
structure Gt where
 t:Nat->AV
 c:Nat->Nat->CV
 z:Nat->Option Nat
noncomputable def St.gt (s:St):Gt where
 t:=s.tmp
 c:=λb j=>match s.bU b with
  |some k=>if j<k.size then k.get j else .f .u
  |none=>.f .u
 z:=λb=>(s.bU b).map aj.size
inductive Pt where
 |t (i:Nat)
 |c (b j:Nat)
 |z (b:Nat)
inductive PV where
 |t (v:AV)
 |c (v:CV)
 |z (v:Option Nat)
def Gt.at (g:Gt):Pt->PV
 |.t i=>.t (g.t i)
 |.c b j=>.c (g.c b j)
 |.z b=>.z (g.z b)
omit [ay] in
theorem Gt.aSQ {g g':Gt}(h:∀p,g.at p=g'.at p):g=g':=by
 cases g with|mk t c z=>cases g' with|mk t' c' z'=>
 have h1:t=t':=funext λi=>by simpa[Gt.at] using h (.t i)
 have h2:c=c':=funext λb=>funext λj=>by simpa[Gt.at] using h (.c b j)
 have h3:z=z':=funext λb=>by simpa[Gt.at] using h (.z b)
 subst h1 h2 h3;rfl
def inX (r:Option (Nat×Nat))(j:Nat):Prop:=
 match r with
 |some (lo,n)=>lo<=j/\j<lo+n
 |none=>True
def Fp.has:Fp->Pt->Prop
 |.t i,.t j=>i=j
 |.c b r,.c b' j=>b=b'/\inX r j
 |.z b,.z b'=>b=b'
 |_,_=>False
def Up.H0:Up->Pt->Prop
 |.t i _,.t j=>i=j
 |.c b o v,.c b' j=>b=b'/\o.val<=j/\j<o.val+aj.size v
 |.new b _,.c b' _|.kill b,.c b' _|.new b _,.z b'|.kill b,.z b'=>b=b'
 |_,_=>False
omit [ay] in
theorem aKJ:∀{v:aj} {n:Nat},szL v=some n->aj.size v=n
 | [],n,h=>by simp only[szL,iI] at h;rw[<-h];rfl
 |.c _::r,n,h=>by
  simp only[szL,mL] at h;obtain⟨m,h1,rfl⟩:=h;rw[aj.size_cons,Sg.kF,aKJ h1]
 |.a (.l k) cols::r,n,h=>by
  simp only[szL,mL] at h;obtain⟨m,h1,rfl⟩:=h;rw[aj.size_cons,Sg.lJ,aKJ h1];rfl
 |.a (.s _) _::_,n,h=>by simp[szL] at h
omit [ay] in
theorem aET {o:cE}{v:aj}{j:Nat}(h1:o.val<=j)(h2:j<o.val+aj.size v):inX (aMJ o v) j:=by
 unfold aMJ;split
 .rename_i c
  cases hs:szL v with
  |none=>trivial
  |some n=>
   have:=aKJ hs;simp only[Tg,inX];simp only[cE.val] at h1 h2;omega
 .trivial
omit [ay] in
theorem aZy {o:cE}{cF:Sz}{z j:Nat}(h:j<cF.val*z):inX (ext o cF z) (o.val+j):=by
 unfold ext;split
 .simp only[inX,cE.val];simp only[Sz.val] at h;omega
 .trivial
omit [ay] in
theorem aMU {r r':Option (Nat×Nat)}{j:Nat}(h1:inX r j)(h2:inX r' j):meet r r'=true:=by
 unfold meet;split
 .simp only[inX] at h1 h2;simp only[ovl,cB,uX];omega
 .rfl
omit [ay] in
theorem Fp.aEU {fp:Fp}{u:Up}{p:Pt}(h1:fp.has p)(h2:u.H0 p):fp.aAb u=true:=by
 cases fp<;>cases u<;>cases p<;>simp only[Fp.has,Up.H0,Fp.aAb,beq_iff,cB] at* <;>first|omega|skip
 .exact⟨by omega,aMU h1.2 (aET h2.2.1 h2.2.2)⟩
omit [ay] in
theorem Up.aEU {u u':Up}{p:Pt}(h1:u.H0 p)(h2:u'.H0 p):u.aAb u'=true:=by
 cases u<;>cases u'<;>cases p<;>simp only[Up.H0,Up.aAb,beq_iff,cB] at* <;>first|omega|skip
 .exact⟨by omega,aMU (aET h1.2.1 h1.2.2) (aET h2.2.1 h2.2.2)⟩
def Up.hI (u:Up)(g:Gt):Gt:=
 match u with
 |.t i v=>{g with t:=λj=>if j=i then v else g.t j}
 |.c b o v=>{g with c:=λb' j=>if b'=b/\o.val<=j/\j<o.val+aj.size v then aj.get v (j-o.val) else g.c b' j}
 |.new b k=>{g with c:=λb' j=>if b'=b then(if j<k.size then k.get j else .f .u) else g.c b' j,z:=λb'=>if b'=b then some k.size else g.z b'}
 |.kill b=>{g with c:=λb' j=>if b'=b then .f .u else g.c b' j,z:=λb'=>if b'=b then none else g.z b'}
omit [ay] in
theorem Up.Tk {u:Up}{g:Gt}{p:Pt}(h:¬u.H0 p):(u.hI g).at p=g.at p:=by
 cases u<;>cases p<;>simp_all [Up.H0,Up.hI,Gt.at]<;>first|(intro a;exact absurd a.symm (by assumption))|(intros;omega)|(intro a;subst a;simp_all)
omit [ay] in
theorem Up.aMV {u:Up}{g g':Gt}{p:Pt}(h:u.H0 p):(u.hI g).at p=(u.hI g').at p:=by
 cases u<;>cases p<;>simp_all [Up.H0,Up.hI,Gt.at]
def cH (us:List Up)(g:Gt):Gt:=us.foldl (λg u=>u.hI g) g
omit [ay] in
theorem rq:∀{us:List Up} {g:Gt} {p:Pt},(∀u∈us,¬u.H0 p)->(cH us g).at p=g.at p
 | [],_,_,_=>rfl
 |u::us,g,p,h=>by
  show(cH us (u.hI g)).at p=_;rw[rq λv hv=>h v (by simp[hv]),Up.Tk (h u (by simp))]
omit [ay] in
theorem agL:∀{us:List Up} {g g':Gt} {p:Pt},(∃u∈us,u.H0 p)∨g.at p=g'.at p->(cH us g).at p=(cH us g').at p
 | [],g,g',p,h=>by
  rcases h with⟨u,hu,_⟩|h
  .simp at hu
  .exact h
 |u::us,g,g',p,h=>by
  show(cH us (u.hI g)).at p=(cH us (u.hI g')).at p;apply agL
  by_cases hu:u.H0 p
  .exact .inr (Up.aMV hu)
  .rcases h with⟨v,hv,ht⟩|h
   .rcases ab7.1 hv with rfl|hv
    .exact absurd ht hu
    .exact .inl ⟨v,hv,ht⟩
   .exact .inr (by rw[Up.Tk hu,Up.Tk hu,h])
inductive aJ {α:Type}:Rd α->Gt->α->List Fp->Prop where
 |ret (a:α) (g:Gt):aJ (.ret a) g a []
 |tm {i:Nat} {k:AV->Rd α} {g:Gt} {a:α} {l:List Fp} (h:aJ (k (g.t i)) g a l):aJ (.tm i k) g a (.t i::l)
 |vw {b:Nat} {o:cE} {cF:Sz} {z:Nat} {k:aj->Rd α} {g:Gt} {a:α} {l:List Fp} (q:Nat) (v:aj) (hz:g.z b=some q) (hs:aj.size v=cF.val*z) (hv:o.val+cF.val*z<=q->∀j,j<cF.val*z->aj.get v j=g.c b (o.val+j)) (h:aJ (k v) g a l):aJ (.vw b o cF z k) g a (.c b (ext o cF z):: .z b::l)
 |sz {b:Nat} {k:Rd α} {g:Gt} {a:α} {l:List Fp} (q:Nat) (hz:g.z b=some q) (h:aJ k g a l):aJ (.sz b k) g a (.z b::l)
 |test {x:Bool} {k:Bool->Rd α} {g:Gt} {a:α} {l:List Fp} (h:aJ (k x) g a l):aJ (.test x k) g a l
 |opt {E:Type} {x:Option E} {k:E->Rd α} {d:E} {g:Gt} {a:α} {l:List Fp} (hx:x=some d) (h:aJ (k d) g a l):aJ (.opt x k) g a l
omit [ay] in
theorem aJ.local {α:Type}{m:Rd α}{g g':Gt}{a:α}{l:List Fp}(h:aJ m g a l):(∀fp∈l,∀p,fp.has p->g.at p=g'.at p)->aJ m g' a l:=by
 induction h with
 |ret a g=>intro _;exact .ret _ _
 |@tm i k g a l h ih=>
  intro e;have e1:g.t i=g'.t i:=by simpa[Gt.at] using e (.t i) (by simp) (.t i) rfl
  exact .tm (e1▸ih λfp hf=>e fp (by simp[hf]))
 |@vw b o cF z k g a l q v hz hs hv h ih=>
  intro e;have e1:g.z b=g'.z b:=by simpa[Gt.at] using e (.z b) (by simp) (.z b) rfl
  refine .vw q v (e1▸hz) hs (λhle j hj=> ?_) (ih λfp hf=>e fp (by simp[hf]));rw[hv hle j hj];simpa[Gt.at] using e (.c b (ext o cF z)) (by simp) (.c b (o.val+j)) ⟨rfl,aZy hj⟩
 |@sz b k g a l q hz h ih=>
  intro e;have e1:g.z b=g'.z b:=by simpa[Gt.at] using e (.z b) (by simp) (.z b) rfl
  exact .sz q (e1▸hz) (ih λfp hf=>e fp (by simp[hf]))
 |test h ih=>intro e;exact .test (ih e)
 |opt hx h ih=>intro e;exact .opt hx (ih e)
omit [ay] in
theorem aJ.bind {α β:Type}{m:Rd α}{f:α->Rd β}{g:Gt}{b:β}{l:List Fp}(h:aJ (m.bind f) g b l):
  ∃a l1 l2,aJ m g a l1/\aJ (f a) g b l2/\l=l1++l2:=by
 induction m generalizing l with
 |ret a=>exact⟨a,[],l,.ret _ _,h,rfl⟩
 |fail=>cases h
 |tm i k ih=>cases h with|tm h=>obtain⟨a,l1,l2,h1,h2,e⟩:=ih _ h;exact⟨a,_,l2,.tm h1,h2,by simp[e]⟩
 |vw b o cF z k ih=>cases h with|vw q v hz hs hv h=>obtain⟨a,l1,l2,h1,h2,e⟩:=ih _ h;exact⟨a,_,l2,.vw q v hz hs hv h1,h2,by simp[e]⟩
 |sz b k ih=>cases h with|sz q hz h=>obtain⟨a,l1,l2,h1,h2,e⟩:=ih h;exact⟨a,_,l2,.sz q hz h1,h2,by simp[e]⟩
 |opt x k ih=>cases h with|opt hx h=>obtain⟨a,l1,l2,h1,h2,e⟩:=ih _ h;exact⟨a,_,l2,.opt hx h1,h2,by simp[e]⟩
 |test x k ih=>cases h with|test h=>obtain⟨a,l1,l2,h1,h2,e⟩:=ih _ h;exact⟨a,_,l2,.test h1,h2,by simp[e]⟩
omit [ay] in
theorem aJ.bind' {α β:Type}{m:Rd α}{f:α->Rd β}{g:Gt}{b:β}{l:List Fp}(h:aJ (m.bind f) g b l):
  ∃a,(∃l1,aJ m g a l1)/\∃l2,aJ (f a) g b l2:=by
 obtain⟨a,l1,l2,h1,h2,_⟩:=h.bind;exact⟨a,⟨l1,h1⟩,l2,h2⟩
omit [ay] in
theorem St.aqF {s:St}{b:Nat}{k:aj}(h:s.bU b=some k):s.gt.z b=some k.size:=by simp[St.gt,h]
omit [ay] in
theorem St.aSR {s:St}{b j:Nat}{k:aj}(h:s.bU b=some k)(hj:j<k.size):s.gt.c b j=k.get j:=by simp[St.gt,h,hj]
omit [ay] in
theorem Rd.aQN {α ρ:Type}{m:Rd α}{s:St}{k:α->List Fp->Option ρ}{r:ρ}:∀{l:List Fp},m.run s l k=some r->
  ∃a fp,aJ m s.gt a fp/\k a (fp.reverse++l)=some r:=by
 induction m with
 |ret a=>intro l h;exact⟨a,[],.ret _ _,h⟩
 |fail=>intro l h;simp[Rd.run] at h
 |tm i f ih=>
  intro l h;obtain⟨a,fp,h1,h2⟩:=ih _ h;exact⟨a,.t i::fp,.tm h1,by simpa using h2⟩
 |vw b o cF z f ih=>
  intro l h;simp only[Rd.run] at h;split at h
  .rename_i bU hb
   split at h
   .rename_i p hp
    split at h
    .rename_i hg
     obtain⟨a,fp,h1,h2⟩:=ih _ h;obtain⟨g,v⟩:=p;simp only at hg h1;subst hg;obtain⟨e1,e2⟩:=aj.ayq hp;exact⟨a,.c b (ext o cF z):: .z b::fp,.vw (aj.size bU) _ (St.aqF hb) e1 (λhle j hj=>(e2 hle j hj).trans (St.aSR hb (by omega)).symm) h1,by simpa using h2⟩
    .simp at h
   .simp at h
  .simp at h
 |sz b f ih=>
  intro l h;simp only[Rd.run] at h;split at h
  .rename_i bU hb
   obtain⟨a,fp,h1,h2⟩:=ih h;exact⟨a,.z b::fp,.sz (aj.size bU) (St.aqF hb) h1,by simpa using h2⟩
  .simp at h
 |test x f ih=>
  intro l h;cases x
  .obtain⟨a,fp,h1,h2⟩:=ih _ h;exact⟨a,fp,.test h1,h2⟩
  .obtain⟨a,fp,h1,h2⟩:=ih _ h;exact⟨a,fp,.test h1,h2⟩
 |opt x f ih=>
  intro l h;cases x with
  |none=>cases h
  |some d=>obtain⟨a,fp,h1,h2⟩:=ih d (l:=l) h;exact⟨a,fp,.opt rfl h1,h2⟩
omit [ay] in
theorem aTu {α:Type}(l:List α)(i j:Nat)(v d:α)(h:i<l.length):(l.set i v).getD j d=if j=i then v else l.getD j d:=by
 simp only[List.getD,aED];by_cases e:i=j
 .subst e;simp[h]
 .simp[e,Ne.symm e]
omit [ay] in
theorem AZ (l:List AV)(i:Nat):alo l i=l.getD i udf:=by
 induction l generalizing i with
 |nil=>rfl
 |cons a l ih=>
  cases i with
  |zero=>rfl
  |succ i=>exact(ih i).trans (by simp[List.getD])
omit [ay] in
theorem alz {α ρ:Type}(l:List α)(i:Nat)(v:α)(k:List α->Option ρ):az9 l i v k=if i<l.length then k (l.set i v) else none:=by
 induction l generalizing i k with
 |nil=>rfl
 |cons a l ih=>
  cases i with
  |zero=>rfl
  |succ i=>
   have:az9 (a::l) (i+1) v k=az9 l i v λl'=>k (a::l'):=rfl
   rw[this,ih];simp
omit [ay] in
theorem avg {l:List (Option aj)}{b b':Nat}{x:Option aj}(h:b<l.length):((l.set b x)[b']?).getD none=if b'=b then x else(l[b']?).getD none:=by
 simp only[aED];by_cases e:b=b'
 .subst e;simp[h]
 .simp[e,Ne.symm e]
omit [ay] in
theorem St.aKK {s:St}{b:Nat}{k:aj}(h:s.bU b=some k):b<s.heap.length:=by
 rcases ni b s.heap.length with h'|h'
 .exact h'
 .simp[St.bU,Ke h'] at h
omit [ay] in
theorem aMW {l:List (Option aj)}{b':Nat}{x:Option aj}:((l++[x])[b']?).getD none=if b'=l.length then x else(l[b']?).getD none:=by
 rw[List.getElem?_append];by_cases h:b'<l.length
 .simp[h,Nat.ne_of_lt h]
 .by_cases e:b'=l.length
  .subst e;simp
  .rw[if_neg h,if_neg e,Ke (by simp;omega),Ke (by omega)]
omit [ay] in
theorem Up.aZz {s:St}{u:Up}(k:Nat)(h:u.ok s=true):(u.app k s).gt=u.hI s.gt:=by
 apply Gt.aSQ
 intro p;cases u with
 |t i v=>
  have hi:i<s.tmps.length:=by have h:=h;simp[Up.ok,Nat.blt] at h;omega
  cases p<;>simp only[Gt.at,Up.app,Up.hI,St.gt,St.tmp,St.bU,PV.t.injEq]
  rw[AZ,AZ];exact aTu _ _ _ _ _ hi
 |c b o v=>
  simp only[Up.ok] at h;split at h
  .rename_i bU hb
   split at h
   .rename_i p' hp
    obtain⟨g',nb⟩:=p';simp only[cB,fy] at h;obtain⟨rfl,hle⟩:=h;obtain⟨yQ,alA⟩:=aj.aTr hp;have nL:=St.aKK hb;have aat:∀b',St.bU {s with heap:=s.heap.set b (some nb),du:=mark k b s.du} b'=if b'=b then some nb else s.bU b':=λb'=>avg nL
    cases p with
    |t j=>simp only[Gt.at,Up.app,Up.hI,St.gt,hb,St.tmp,hp]
    |c b' j=>
     simp only[Gt.at,Up.app,Up.hI,St.gt,hb,PV.c.injEq,hp,aat];by_cases e:b'=b
     .subst e;simp only[lI,hb,yQ,AF];by_cases hj:j<aj.size bU
      .simp only[hj,lI,alA j hj]
      .simp only[hj,gA];rw[if_neg (by omega)]
     .simp only[e,gA,false_and]
    |z b'=>
     simp only[Gt.at,Up.app,Up.hI,St.gt,hb,PV.z.injEq,hp,aat];by_cases e:b'=b
     .subst e;simp[hb,yQ]
     .simp[e]
   .simp at h
  .simp at h
 |new b bU=>
  have hb:b=s.heap.length:=lE h;have aat:∀b',St.bU {s with heap:=s.heap++[some bU]} b'=if b'=b then some bU else s.bU b':=λb'=>by rw[hb];exact aMW
  cases p with
  |t j=>simp only[Gt.at,Up.app,Up.hI,St.gt,St.tmp]
  |c b' j=>
   simp only[Gt.at,Up.app,Up.hI,St.gt,PV.c.injEq,aat];by_cases e:b'=b<;>simp[e]
  |z b'=>
   simp only[Gt.at,Up.app,Up.hI,St.gt,PV.z.injEq,aat];by_cases e:b'=b<;>simp[e]
 |kill b=>
  have hb:b<s.heap.length:=by have h:=h;simp[Up.ok,Nat.blt] at h;omega
  have aat:∀b',St.bU {s with heap:=s.heap.set b none,du:=mark k b s.du} b'=if b'=b then none else s.bU b':=λb'=>avg hb
  cases p with
  |t j=>simp only[Gt.at,Up.app,Up.hI,St.gt,St.tmp]
  |c b' j=>
   simp only[Gt.at,Up.app,Up.hI,St.gt,PV.c.injEq,aat];by_cases e:b'=b<;>simp[e]
  |z b'=>
   simp only[Gt.at,Up.app,Up.hI,St.gt,PV.z.injEq,aat];by_cases e:b'=b<;>simp[e]
omit [ay] in
theorem OP {k:Nat}:∀{us:List Up} {s s':St},jX k us s=some s'->s'.gt=cH us s.gt
 | [],s,s',h=>by simp[jX] at h;subst h;rfl
 |u::us,s,s',h=>by
  simp only[jX] at h;split at h
  .rename_i hu
   rw[OP h,Up.aZz k hu];rfl
  .simp at h
end
theorem WN {α ρ:Type}(l:List α)(k:List α->ρ):agD l k=k l:=by
 induction l generalizing k with
 |nil=>rfl
 |cons a l ih=>exact ih λl=>k (a::l)
theorem aEV {ρ:Type}(o:cE)(k:cE->ρ):au5 o k=k o:=by cases o<;>rfl
theorem aEW {ρ:Type}(o:Sz)(k:Sz->ρ):aKH o k=k o:=by cases o<;>rfl
theorem aEX {ρ:Type}(o:FV)(k:FV->ρ):aDR o k=k o:=by cases o<;>rfl
theorem aKL {ρ:Type}(o:c7)(k:c7->ρ):ayn o k=k o:=by cases o<;>rfl
theorem aqG {ρ:Type}(l:List c7)(k:List c7->ρ):WK l k=k l:=by
 induction l generalizing k with
 |nil=>rfl
 |cons a l ih=>
  have:WK (a::l) k=ayn a λa=>WK l λl=>k (a::l):=rfl
  rw[this,aKL,ih]
theorem aMX {ρ:Type}(l:List FV)(k:List FV->ρ):au6 l k=k l:=by
 induction l generalizing k with
 |nil=>rfl
 |cons a l ih=>
  have:au6 (a::l) k=aDR a λa=>au6 l λl=>k (a::l):=rfl
  rw[this,aEX,ih]
theorem aEY {ρ:Type}(o:CV)(k:CV->ρ):aDS o k=k o:=by
 cases o<;>simp only[aDS,aEX,aEV,aEW,aqG,aMX]
theorem aMY {ρ:Type}(o:Sg)(k:Sg->ρ):au7 o k=k o:=by
 cases o<;>simp only[au7,aEY,aEW,aqG]
theorem agM {ρ:Type}(l:aj)(k:aj->ρ):aap l k=k l:=by
 induction l generalizing k with
 |nil=>rfl
 |cons a l ih=>
  have:aap (a::l) k=au7 a λa=>aap l λl=>k (a::l):=rfl
  rw[this,aMY,ih]
theorem aEZ {ρ:Type}(o:RV)(k:RV->ρ):au8 o k=k o:=by
 cases o<;>simp only[au8,aEY,agM]
theorem aMZ {ρ:Type}(l:List RV)(k:List RV->ρ):alr l k=k l:=by
 induction l generalizing k with
 |nil=>rfl
 |cons a l ih=>
  have:alr (a::l) k=au8 a λa=>alr l λl=>k (a::l):=rfl
  rw[this,aEZ,ih]
theorem aE0 {ρ:Type}(o:AV)(k:AV->ρ):au9 o k=k o:=by
 cases o<;>simp only[au9,aEZ,aMZ]
theorem aQO {ρ:Type}(o:Up)(k:Up->ρ):aDT o k=k o:=by
 cases o<;>simp only[aDT,aE0,aEV,agM]
theorem aM0 {ρ:Type}(l:List Up)(k:List Up->ρ):ava l k=k l:=by
 induction l generalizing k with
 |nil=>rfl
 |cons a l ih=>
  have:ava (a::l) k=aDT a λa=>ava l λl=>k (a::l):=rfl
  rw[this,aQO,ih]
theorem aM1 {ρ:Type}(l:List AV)(k:List AV->ρ):avb l k=k l:=by
 induction l generalizing k with
 |nil=>rfl
 |cons a l ih=>
  have:avb (a::l) k=au9 a λa=>avb l λl=>k (a::l):=rfl
  rw[this,aE0,ih]
theorem aM2 {ρ:Type}(o:Option aj)(k:Option aj->ρ):avc o k=k o:=by
 cases o<;>simp only[avc,agM]
theorem aM3 {ρ:Type}(l:List (Option aj))(k:List (Option aj)->ρ):avd l k=k l:=by
 induction l generalizing k with
 |nil=>rfl
 |cons a l ih=>
  have:avd (a::l) k=avc a λa=>avd l λl=>k (a::l):=rfl
  rw[this,aM2,ih]
theorem L5 {ρ:Type}(s:St)(k:St->ρ):yC s k=k s:=by
 unfold yC;simp only[WN,aM1,aM3]
theorem Up.aE1 {ρ:Type}(k:Nat)(u:Up)(s:St)(c:St->Option ρ):u.aen k s c=match u.ok s with
  |true=>c (u.app k s)
  |false=>none:=by
 cases u with
 |t i v=>
  simp only[Up.aen,alz,Up.ok,Up.app];by_cases h:i<s.tmps.length
  .rw[if_pos h,uX.2 h]
  .rw[if_neg h,agE h]
 |c b o v=>
  simp only[Up.aen,Up.ok,Up.app,agM,WN,alz];split
  .rename_i bU hb
   have nL:b<s.heap.length:=St.aKK hb;split
   .rename_i p hp
    split<;>rename_i hg<;>simp only[hb,hp,hg,nL,lI]
   .rename_i hp;simp only[hb,hp]
  .rename_i hb;simp only[hb]
 |new b bU=>
  simp only[Up.aen,Up.ok,Up.app,WN];cases Nat.beq b s.heap.length<;>rfl
 |kill b=>
  simp only[Up.aen,alz,Up.ok,Up.app,WN];by_cases h:b<s.heap.length
  .rw[if_pos h,uX.2 h]
  .rw[if_neg h,agE h]
theorem aE1 {ρ:Type}(k:Nat)(us:List Up)(s:St)(c:St->Option ρ):aen k us s c=match jX k us s with
  |some s'=>c s'
  |none=>none:=by
 induction us generalizing s with
 |nil=>rfl
 |cons u us ih=>
  have:aen k (u::us) s c=u.aen k s λs=>aen k us s c:=rfl
  rw[this,Up.aE1,jX];split
  .rename_i h;simp only[h,ih]
  .rename_i h;simp only[h]
end Go.Ab
namespace Go.Ab
structure cq (w0:World)(S:Nat->Nat->Prop)(w:World):Prop where
 os:w.os=w0.os
 tape:w.tape=w0.tape
 output:w.output=w0.output
 size:w0.heap.size<=w.heap.size
 obj:∀B:Nat,B<w0.heap.size->(∀c t fz,w0.heap[B]? ≠some (.cells c t fz))->w.heap[B]? =w0.heap[B]?
 fzn:∀a,w.frozen? a=w0.frozen? a
 row:∀(B:Nat) c t fz,w0.heap[B]? =some (.cells c t fz)->∃c',w.heap[B]? =some (.cells c' t fz)/\c'.size=c.size/\∀i:Nat,¬S B i->c'[i]? =c[i]?
theorem cq.refl (w:World)(S:Nat->Nat->Prop):cq w S w:=
 ⟨rfl,rfl,rfl,cZ _,λ_ _ _=>rfl,λ_=>rfl,λ_ c _ _ h=>⟨c,h,rfl,λ_ _=>rfl⟩⟩
theorem cq.mono {w0 w:World}{S S':Nat->Nat->Prop}(h:cq w0 S w)(hs:∀B i,B<w0.heap.size->S B i->S' B i):cq w0 S' w:=
 ⟨h.os,h.tape,h.output,h.size,h.obj,h.fzn,λB c t fz hb=>by
  obtain⟨c',h1,h2,h3⟩:=h.row B c t fz hb;refine⟨c',h1,h2,λi hi=>h3 i λhS=>hi (hs B i ?_ hS)⟩;rcases ni B w0.heap.size with h'|h'
  .exact h'
  .rw[ate h'] at hb;cases hb⟩
theorem cq.trans {w0 w w':World}{S S':Nat->Nat->Prop}(h:cq w0 S w)(h':cq w S' w')(hs:∀B i,B<w0.heap.size->S' B i->S B i):cq w0 S w':=by
 refine⟨h'.os.trans h.os,h'.tape.trans h.tape,h'.output.trans h.output,dL h.size h'.size,λB hB hn=> ?_,λa=>(h'.fzn a).trans (h.fzn a),λB c t fz hb=> ?_⟩
 .have e:=h.obj B hB hn;rw[<-e];exact h'.obj B (aEC hB h.size) (by rw[e];exact hn)
 .obtain⟨c1,e1,z1,k1⟩:=h.row B c t fz hb;obtain⟨c2,e2,z2,k2⟩:=h'.row B c1 t fz e1
  have hB:B<w0.heap.size:=by
   rcases ni B w0.heap.size with h'|h'
   .exact h'
   .rw[ate h'] at hb;cases hb
  exact⟨c2,e2,z2.trans z1,λi hi=>(k2 i λhS=>hi (hs B i hB hS)).trans (k1 i hi)⟩
theorem cq.drew {w0 w:World}{S:Nat->Nat->Prop}(h:cq w0 S w):cq w0 S {w with drawn:=w.drawn+1}:=⟨h.os,h.tape,h.output,h.size,h.obj,h.fzn,h.row⟩
theorem WO (w:World)(c:Array Value)(t:TypeId)(a:Addr):(w.alloc (.cells c t)).frozen? a=w.frozen? a:=by
 by_cases h:a.block=w.heap.size
 .have e1:(w.alloc (.cells c t)).heap[a.block]? =some (.cells c t):=by
   rw[h];show(w.heap.push _)[w.heap.size]? =_;simp
  have e2:w.heap[a.block]? =none:=by rw[h];simp
  simp[World.frozen?,e1,e2]
 .exact World.frozen?_alloc_old _ _ _ h
theorem cq.alloc {w0 w:World}{S:Nat->Nat->Prop}(h:cq w0 S w)(cs:Array Value)(ty:TypeId):cq w0 S (w.alloc (.cells cs ty)):=by
 generalize ho:Obj.cells cs ty=o
 have nL:∀(B:Nat),B<w0.heap.size->(w.alloc o).heap[B]? =w.heap[B]? :=λB hB=>by
  show(w.heap.push o)[B]? =_;rw[Array.getElem?_push,if_neg (by have:=h.size;omega)]
 refine⟨h.os,h.tape,h.output,by rw[World.size_alloc];have:=h.size;omega,λB hB hn=>(nL B hB).trans (h.obj B hB hn),λa=>by rw[<-ho,WO];exact h.fzn a,λB c t fz hb=> ?_⟩
 have hB:B<w0.heap.size:=by
  rcases ni B w0.heap.size with h'|h'
  .exact h'
  .rw[ate h'] at hb;cases hb
 rw[nL B hB];exact h.row B c t fz hb
theorem cq.setCell {w0 w:World}{S:Nat->Nat->Prop}(h:cq w0 S w){B i:Nat}(hs:w0.heap.size<=B∨S B i)(v:Value):cq w0 S (w.setCell ⟨B,i,none⟩ v):=by
 refine⟨h.os,h.tape,h.output,by simpa[World.setCell] using h.size,λB' hB hn=> ?_,λa=>(World.frozen?_setCell _ _ _ _).trans (h.fzn a),λB' c t fz hb=> ?_⟩
 .by_cases e:B=B'
  .subst e;have:=h.obj B hB hn;simp only[World.setCell,aKz,lI,this];cases hh:w0.heap[B]? with
   |none=>rfl
   |some x=>cases x<;>first|rfl|exact absurd hh (hn _ _ _)
  .simp only[World.setCell,aKz,e,gA];exact h.obj B' hB hn
 .have hB:B'<w0.heap.size:=by
   rcases ni B' w0.heap.size with h'|h'
   .exact h'
   .rw[ate h'] at hb;cases hb
  obtain⟨c1,e1,z1,k1⟩:=h.row B' c t fz hb;by_cases e:B=B'
  .subst e;refine⟨c1.setIfInBounds i v,by simp[World.setCell,aKz,e1],by simpa using z1,λj hj=> ?_⟩;have mC:i≠j:=λe=>by subst e;rcases hs with hs|hs;omega;exact hj hs
   rw[aSw mC];exact k1 j hj
  .exact⟨c1,by simp only[World.setCell,aKz,e,gA];exact e1,z1,k1⟩
theorem cq.setCells {w0:World}{S:Nat->Nat->Prop}{B:Nat}:∀{vs:List Value} {o:Nat} {w:World},cq w0 S w->(w0.heap.size<=B∨∀j,j<vs.length->S B (o+j))->cq w0 S (w.setCells B o vs)
 | [],_,_,h,_=>h
 |v::vs,o,w,h,hs=>by
  rw[World.setCells];refine cq.setCells (h.setCell (hs.imp id λh=>by simpa using h 0 (by simp)) v) (hs.imp id λh j hj=> ?_);have:=h (j+1) (by simp;omega);rwa [show o+(j+1)=o+1+j by omega] at this
variable [ay]
def cl (w:World)(B i:Nat):Option Value:=w.cell? ⟨B,i,none⟩
def fz (w:World)(B i:Nat):Bool:=w.frozen? ⟨B,i,none⟩
omit [ay] in
theorem ace {w:World}{B i:Nat}(h:(cl w B i).isSome=true):B<w.heap.size:=by
 rcases ni B w.heap.size with h'|h'
 .exact h'
 .simp[cl,World.cell?,ate h'] at h
omit [ay] in
theorem aI2 {w:World}{o:Obj}{B i:Nat}(h:B<w.heap.size):cl (w.alloc o) B i=cl w B i:=World.cell?_alloc_lt _ _ _ h
omit [ay] in
theorem aTv {w:World}{o:Obj}{B i:Nat}(h:B<w.heap.size):fz (w.alloc o) B i=fz w B i:=World.frozen?_alloc_old _ _ _ (Nat.ne_of_lt h)
omit [ay] in
theorem cq.cl {w0 w:World}{S:Nat->Nat->Prop}(h:cq w0 S w){B i:Nat}(hB:B<w0.heap.size)(hs:¬S B i):cl w B i=cl w0 B i:=by
 simp only[Ab.cl,World.cell?];cases hh:w0.heap[B]? with
 |none=>rw[h.obj B hB (by simp[hh]),hh]
 |some x=>
  cases x with
  |cells c t f=>
   obtain⟨c',e,_,k⟩:=h.row B c t f hh;simp only[e];simpa using k i hs
  |_=>rw[h.obj B hB (by simp[hh]),hh]
omit [ay] in
theorem cq.fz {w0 w:World}{S:Nat->Nat->Prop}(h:cq w0 S w){B i:Nat}(hB:B<w0.heap.size):fz w B i=fz w0 B i:=by
 simp only[Ab.fz,World.frozen?];cases hh:w0.heap[B]? with
 |none=>rw[h.obj B hB (by simp[hh]),hh]
 |some x=>
  cases x with
  |cells c t f=>
   obtain⟨c',e,_,k⟩:=h.row B c t f hh;simp only[e]
  |_=>rw[h.obj B hB (by simp[hh]),hh]
structure A4 (w:World):Prop where
 sz:ay.h0<=w.heap.size
 fr:∀B i,ay.h0<=B->fz w B i=false
 st:∀B i v,ay.fs B i=some v->B<ay.h0/\cl w B i=some v
theorem A4.same {w w':World}(h:A4 w)(e:w'.heap=w.heap):A4 w':=by
 refine⟨by rw[e];exact h.sz,λB i hB=> ?_,λB i v hv=> ?_⟩
 .have:=h.fr B i hB;simp only[fz,World.frozen?] at this ⊢;rw[e];exact this
 .obtain⟨h1,h2⟩:=h.st B i v hv;refine⟨h1,?_⟩;simp only[cl,World.cell?] at h2 ⊢;rw[e];exact h2
theorem A4.alloc {w:World}(h:A4 w)(cs:Array Value)(t:TypeId):A4 (w.alloc (.cells cs t)):=by
 refine⟨by rw[World.size_alloc];have:=h.sz;omega,λB i hB=> ?_,λB i v hv=> ?_⟩
 .unfold fz;rw[WO];exact h.fr B i hB
 .obtain⟨h1,h2⟩:=h.st B i v hv;exact⟨h1,by rw[aI2 (ace (by rw[h2];rfl))];exact h2⟩
structure sU (π:Pi)(c:Nat->Nat->CV)(z:Nat->Option Nat)(w:World):Prop where
 am:A4 w
 lb:∀b B s q e,z b≠none->π b=some (B,s,q,e)->s<e->ay.h0<=B
 hp:∀b n,z b=some n->∃B s e,π b=some (B,s,n,e)/\s+n<=e/\(∀i,s<=i->i<e->(cl w B i).isSome=true/\fz w B i=false)/\∀j,j<n->∃v,cl w B (s+j)=some v/\(c b j).rel π v
 dj:∀b b' B s q e s' q' e',b≠b'->z b≠none->z b'≠none->π b=some (B,s,q,e)->π b'=some (B,s',q',e')->∀i,s<=i->i<e->s'<=i->i<e'->False
theorem sU.aSS {π:Pi}{c:Nat->Nat->CV}{z:Nat->Option Nat}{w w':World}(h:sU π c z w)
  (ha:A4 w')(hw:∀b B s q e,z b≠none->π b=some (B,s,q,e)->∀i,s<=i->i<e->cl w' B i=cl w B i/\fz w' B i=fz w B i):sU π c z w':=by
 refine⟨ha,h.lb,λb n hz=> ?_,h.dj⟩;obtain⟨B,s,e,hb,hle,h1,h2⟩:=h.hp b n hz;refine⟨B,s,e,hb,hle,λi hi he=> ?_,λj hj=> ?_⟩
 .have:=hw b B s n e (by simp[hz]) hb i hi he;rw[this.1,this.2];exact h1 i hi he
 .have:=hw b B s n e (by simp[hz]) hb (s+j) (by omega) (by omega);rw[this.1];exact h2 j hj
theorem sU.L6 {π π':Pi}{c:Nat->Nat->CV}{z:Nat->Option Nat}{w:World}(h:sU π c z w)(hx:Ext π π'):sU π' c z w:=by
 refine⟨h.am,λb B s q e hz hb BK=> ?_,λb n hz=> ?_,λb b' B s q e s' q' e' mC hz uY hb fu=> ?_⟩
 .cases hh:z b with
  |none=>exact absurd hh hz
  |some n=>
   obtain⟨B1,s1,e1,hb1,_⟩:=h.hp b n hh;have e2:=hx _ _ hb1;rw[hb] at e2;cases e2;exact h.lb b B s _ e (by rw[hh];simp) hb1 BK
 .obtain⟨B,s,e,hb,hle,h1,h2⟩:=h.hp b n hz;exact⟨B,s,e,hx _ _ hb,hle,h1,λj hj=>let⟨v,a,r⟩:=h2 j hj;⟨v,a,CV.dM hx _ _ r⟩⟩
 .have yc:∀b,z b≠none->∃p,π b=some p:=λb hz=>by
   cases hh:z b with
   |none=>exact absurd hh hz
   |some n=>obtain⟨B,s,e,hb,_⟩:=h.hp b n hh;exact⟨_,hb⟩
  obtain⟨p,hp⟩:=yc b hz;obtain⟨p',vm⟩:=yc b' uY;have e1:=hx _ _ hp;rw[hb] at e1;have e2:=hx _ _ vm;rw[fu] at e2;exact h.dj b b' B s q e s' q' e' mC hz uY (hp.trans e1.symm) (vm.trans e2.symm)
theorem sU.kill {π:Pi}{c:Nat->Nat->CV}{z:Nat->Option Nat}{w:World}(h:sU π c z w)(b:Nat):
  sU π (λb' j=>if b'=b then .f .u else c b' j) (λb'=>if b'=b then none else z b') w:=by
 refine⟨h.am,λb' B s q e hz hb BK=> ?_,λb' n hz=> ?_,λb1 b2 B s q e s' q' e' mC hz uY=> ?_⟩
 .by_cases e:b'=b
  .simp[e] at hz
  .simp only[e,gA] at hz;exact h.lb b' B s q _ hz hb BK
 .by_cases e:b'=b
  .simp[e] at hz
  .simp only[e,gA] at hz ⊢;exact h.hp b' n hz
 .by_cases e1:b1=b
  .simp[e1] at hz
  by_cases e2:b2=b
  .simp[e2] at uY
  simp only[e1,e2,gA] at hz uY;exact h.dj b1 b2 B s q e s' q' e' mC hz uY
theorem sU.new {π:Pi}{c:Nat->Nat->CV}{z:Nat->Option Nat}{w:World}(h:sU π c z w){b B s e:Nat}{k:aj}(hb:π b=some (B,s,k.size,e))(hle:s+k.size<=e)
  (h1:∀i,s<=i->i<e->(cl w B i).isSome=true/\fz w B i=false)(h2:∀j,j<k.size->∃v,cl w B (s+j)=some v/\(k.get j).rel π v)
  (hd:∀b' s' q' e',b'≠b->z b'≠none->π b'=some (B,s',q',e')->∀i,s<=i->i<e->s'<=i->i<e'->False)(hlb:s<e->ay.h0<=B):
  sU π (λb' j=>if b'=b then(if j<k.size then k.get j else .f .u) else c b' j) (λb'=>if b'=b then some k.size else z b') w:=by
 refine⟨h.am,λb' B' s' q' e' hz fu BK=> ?_,λb' n hz=> ?_,λb1 b2 B' s1 q1 e1 s2 q2 e2 mC hz uY hb1 FA i i1 i2 i3 i4=> ?_⟩
 .by_cases x:b'=b
  .subst x;rw[hb] at fu;cases fu;exact hlb BK
  .simp only[x,gA] at hz;exact h.lb b' B' s' q' e' hz fu BK
 .by_cases e':b'=b
  .subst e';simp only[lI,iI] at hz;subst hz;refine⟨B,s,e,hb,hle,h1,λj hj=> ?_⟩;simp only[lI,hj];exact h2 j hj
  .simp only[e',gA] at hz ⊢;exact h.hp b' n hz
 .by_cases x1:b1=b
  .subst x1;have x2:b2≠b1:=λx=>mC x.symm
   rw[hb] at hb1;cases hb1;simp only[x2,gA] at uY;exact hd b2 s2 q2 e2 x2 uY FA i i1 i2 i3 i4
  .by_cases x2:b2=b
   .subst x2;rw[hb] at FA;cases FA;simp only[x1,gA] at hz;exact hd b1 s1 q1 e1 x1 hz hb1 i i3 i4 i1 i2
   .simp only[x1,x2,gA] at hz uY;exact h.dj b1 b2 B' s1 q1 e1 s2 q2 e2 mC hz uY hb1 FA i i1 i2 i3 i4
omit [ay] in
theorem eK {w:World}{B o:Nat}{vs:List Value}{B' i:Nat}(h:B'=B->i<o∨o+vs.length<=i):cl (w.setCells B o vs) B' i=cl w B' i:=
 World.cell?_setCells_out B vs o w ⟨B',i,none⟩ λe _=>h e
omit [ay] in
theorem nM {w:World}{B o:Nat}{vs:List Value}(h:∀j,j<vs.length->(cl w B (o+j)).isSome=true){j:Nat}(hj:j<vs.length):cl (w.setCells B o vs) B (o+j)=some vs[j]:=
 World.cell?_setCells_in B vs o w h j hj
omit [ay] in
theorem pL {w:World}{B o:Nat}{vs:List Value}{B' i:Nat}:fz (w.setCells B o vs) B' i=fz w B' i:=World.frozen?_setCells B vs o w _
omit [ay] in
theorem alB {B:Nat}:∀{vs:List Value} {o:Nat} {w:World},(w.setCells B o vs).heap.size=w.heap.size
 | [],_,_=>rfl
 |v::vs,o,w=>by rw[World.setCells,alB];simp[World.setCell]
omit [ay] in
theorem isSome_setCells {w:World}{B o:Nat}{vs:List Value}(h:∀j,j<vs.length->(cl w B (o+j)).isSome=true){B' i:Nat}(hi:(cl w B' i).isSome=true):(cl (w.setCells B o vs) B' i).isSome=true:=by
 by_cases hc:B'=B/\o<=i/\i<o+vs.length
 .obtain⟨rfl,h1,h2⟩:=hc;have:=nM h (j:=i-o) (by omega);rw[show o+(i-o)=i by omega] at this;simp[this]
 .rw[eK];exact hi;intro e;omega
theorem jy {π:Pi}{k:aj}{xs:List Value}(h:bu (CV.rel π) k.list xs):xs.length=aj.size k/\∀j,j<aj.size k->∃x,xs[j]? =some x/\(aj.get k j).rel π x:=by
 refine⟨by rw[<-h.length,aj.ave],λj hj=> ?_⟩;exact h.get (by rw[aj.agG,if_pos hj])
theorem yD {π:Pi}{k:aj}{xs:List Value}(hl:xs.length=aj.size k)(h:∀j,j<aj.size k->∃x,xs[j]? =some x/\(aj.get k j).rel π x):bu (CV.rel π) k.list xs:=by
 refine bu.agK (by rw[aj.ave,hl]) λi a b ha hb=> ?_;rw[aj.agG] at ha;split at ha
 .rename_i hi
  cases ha;obtain⟨x,hx,hr⟩:=h i hi;rw[hb] at hx;cases hx;exact hr
 .cases ha
theorem A4.setCells {w:World}(h:A4 w){B o:Nat}{xs:List Value}(hB:0<xs.length->ay.h0<=B):A4 (w.setCells B o xs):=by
 refine⟨by rw[alB];exact h.sz,λB' i hB'=>by rw[pL];exact h.fr B' i hB',λB' i v hv=> ?_⟩;obtain⟨h1,h2⟩:=h.st B' i v hv;refine⟨h1,?_⟩;rw[eK]
 .exact h2
 .intro e;rcases WD xs.length with h0|h0
  .omega
  .have:=hB h0;omega
theorem sU.set {π:Pi}{c:Nat->Nat->CV}{z:Nat->Option Nat}{w:World}(h:sU π c z w){b n B s e lo:Nat}{vs:aj}{xs:List Value}(hz:z b=some n)(hb:π b=some (B,s,n,e))(hn:lo+aj.size vs<=n)
  (hx:bu (CV.rel π) vs.list xs):
  sU π (λb' j=>if b'=b/\lo<=j/\j<lo+aj.size vs then aj.get vs (j-lo) else c b' j) z (w.setCells B (s+lo) xs):=by
 obtain⟨B',s',e',fu,hle,h1,h2⟩:=h.hp b n hz;rw[hb] at fu;cases fu;obtain⟨hlen,alA⟩:=jy hx;have hin:∀j,j<xs.length->(cl w B (s+lo+j)).isSome=true:=λj hj=>(h1 _ (by omega) (by omega)).1
 refine⟨h.am.setCells λhl=>h.lb b B s n e (by rw[hz];simp) hb (by omega),h.lb,λb' n' uY=> ?_,h.dj⟩;obtain⟨B2,s2,e2,FA,aeo,k1,k2⟩:=h.hp b' n' uY;refine⟨B2,s2,e2,FA,aeo,λi hi he=>⟨isSome_setCells hin (k1 i hi he).1,by rw[pL];exact(k1 i hi he).2⟩,λj hj=> ?_⟩;by_cases eb:b'=b
 .subst eb;rw[hb] at FA;cases FA;by_cases hc:lo<=j/\j<lo+aj.size vs
  .have hj':j-lo<xs.length:=by omega
   have:=nM hin hj';rw[show s+lo+(j-lo)=s+j by omega] at this;refine⟨_,this,?_⟩;rw[if_pos ⟨rfl,hc⟩];obtain⟨x,hx1,hx2⟩:=alA (j-lo) (by omega);rw[kR hj'] at hx1;cases hx1;exact hx2
  .rw[if_neg (by simp only[AF];exact hc),eK (λ_=>by omega)];exact k2 j hj
 .rw[if_neg (by simp[eb]),eK]
  .exact k2 j hj
  .intro e;subst e;by_cases hc:s+lo<=s2+j/\s2+j<s+lo+xs.length
   .exact(h.dj b' b B2 s2 _ e2 s _ e eb (by simp[uY]) (by simp[hz]) FA hb (s2+j) (by omega) (by omega) (by omega) (by omega)).elim
   .omega
structure Cx where
 w0:World
 k:Nat
 p0:Pi
 N:Nat
def Ds (p0:Pi)(k:Nat)(D:Nat->Prop)(B i:Nat):Prop:=∃b s q e,b<k/\D b/\p0 b=some (B,s,q,e)/\s<=i/\i<e
structure Rel (X:Cx)(D:Nat->Prop)(π:Pi)(g:Gt)(a:Act)(w:World):Prop where
 tm:∀i,(g.t i).rel π (a.tmps.getD i undef)
 nt:a.tmps.size=X.N
 df:a.defers=[]
 hp:sU π g.c g.z w
 yc:∀b,b<X.k->π b=X.p0 b
 ft:∀b B s q e,X.k<=b->g.z b≠none->π b=some (B,s,q,e)->B<X.w0.heap.size->∀i,s<=i->i<e->Ds X.p0 X.k D B i
 fr:cq X.w0 (Ds X.p0 X.k D) w
theorem Rel.dst {X:Cx}{D:Nat->Prop}{π:Pi}{g:Gt}{a:Act}{w:World}(R:Rel X D π g a w){dst:Option Tmp}(hd:∀d,dst=some d->d<X.N){v:AV}{x:Value}(hv:v.rel π x):
  Rel X D π (cH (dY dst v) g) (a.put dst x) w:=by
 cases dst with
 |none=>exact R
 |some d=>
  have nL:d<a.tmps.size:=by rw[R.nt];exact hd d rfl
  refine⟨λi=> ?_,by simpa[Act.put] using R.nt,R.df,R.hp,R.yc,R.ft,R.fr⟩;show(if i=d then v else g.t i).rel π ((a.tmps.setIfInBounds d x).getD i undef);by_cases e:i=d
  .subst e;simp[nL,hv]
  .rw[if_neg e];have:=R.tm i;simpa[aSw (Ne.symm e)] using this
theorem Rel.L6 {X:Cx}{D:Nat->Prop}{π π':Pi}{g:Gt}{a:Act}{w:World}(R:Rel X D π g a w)(hx:Ext π π')(ho:∀b,b<X.k->π' b=π b):Rel X D π' g a w:=by
 refine⟨λi=>AV.dM hx _ _ (R.tm i),R.nt,R.df,R.hp.L6 hx,λb hb=>(ho b hb).trans (R.yc b hb),λb B s q e hk hz hb=> ?_,R.fr⟩
 have:∃p,π b=some p:=by
  cases hh:g.z b with
  |none=>exact absurd hh hz
  |some n=>obtain⟨B,s,e,hb,_⟩:=R.hp.hp b n hh;exact⟨_,hb⟩
 obtain⟨p,hp⟩:=this;have:=hx _ _ hp;rw[hb] at this;cases this;exact R.ft b B s q e hk hz hp
theorem Rel.aKM {X:Cx}{D D':Nat->Prop}{π:Pi}{g:Gt}{a:Act}{w:World}(R:Rel X D π g a w)(h:∀b,D b->D' b):Rel X D' π g a w:=
 ⟨R.tm,R.nt,R.df,R.hp,R.yc,λb B s q e hk hz hb hB i h1 h2=>let⟨b0,s0,q0,e0,x1,x2,x3⟩:=R.ft b B s q e hk hz hb hB i h1 h2;⟨b0,s0,q0,e0,x1,h _ x2,x3⟩,
  R.fr.mono λB i _ ⟨b0,s0,q0,e0,x1,x2,x3⟩=>⟨b0,s0,q0,e0,x1,h _ x2,x3⟩⟩
theorem Rel.drew {X:Cx}{D:Nat->Prop}{π:Pi}{g:Gt}{a:Act}{w:World}(R:Rel X D π g a w):Rel X D π g a {w with drawn:=w.drawn+1}:=
 ⟨R.tm,R.nt,R.df,R.hp.aSS (R.hp.am.same rfl) λ_ _ _ _ _ _ _ _ _ _=>⟨rfl,rfl⟩,R.yc,R.ft,R.fr.drew⟩
theorem Rel.kill {X:Cx}{D:Nat->Prop}{π:Pi}{g:Gt}{a:Act}{w:World}(R:Rel X D π g a w)(b:Nat):Rel X D π ((Up.kill b).hI g) a w:=by
 refine⟨R.tm,R.nt,R.df,R.hp.kill b,R.yc,λb' B s q e hk hz=> ?_,R.fr⟩;by_cases eb:b'=b
 .exact absurd (by simp[Up.hI,eb]) hz
 .exact R.ft b' B s q e hk (by simpa[Up.hI,eb] using hz)
def AA (π:Pi)(b:Nat)(p:Nat×Nat×Nat×Nat):Pi:=λb'=>if b'=b then some p else π b'
omit [ay] in
theorem qi (π:Pi)(b:Nat)(p:Nat×Nat×Nat×Nat):AA π b p b=some p:=by simp[AA]
omit [ay] in
theorem A5 {π:Pi}{b:Nat}(h:π b=none)(p:Nat×Nat×Nat×Nat):Ext π (AA π b p):=by
 intro b' q hq;simp only[AA];by_cases e:b'=b
 .subst e;rw[h] at hq;cases hq
 .simp[e,hq]
theorem Rel.new {X:Cx}{D:Nat->Prop}{π:Pi}{g:Gt}{a:Act}{w:World}(R:Rel X D π g a w){b B s e:Nat}{k:aj}(hb:π b=some (B,s,k.size,e))(hk:X.k<=b)(hle:s+k.size<=e)
  (h1:∀i,s<=i->i<e->(cl w B i).isSome=true/\fz w B i=false)(h2:∀j,j<k.size->∃v,cl w B (s+j)=some v/\(k.get j).rel π v)
  (hd:∀b' s' q' e',b'≠b->g.z b'≠none->π b'=some (B,s',q',e')->∀i,s<=i->i<e->s'<=i->i<e'->False)
  (hf:B<X.w0.heap.size->∀i,s<=i->i<e->Ds X.p0 X.k D B i)(hlb:s<e->ay.h0<=B:=by intro h;omega):Rel X D π ((Up.new b k).hI g) a w:=by
 refine⟨R.tm,R.nt,R.df,R.hp.new hb hle h1 h2 hd hlb,R.yc,λb' B' s' q' e' LK hz fu hB i i1 i2=> ?_,R.fr⟩;by_cases eb:b'=b
 .subst eb;rw[hb] at fu;cases fu;exact hf hB i i1 i2
 .exact R.ft b' B' s' q' e' LK (by simpa[Up.hI,eb] using hz) fu hB i i1 i2
theorem Rel.alloc {X:Cx}{D:Nat->Prop}{π:Pi}{g:Gt}{a:Act}{w:World}(R:Rel X D π g a w){b e:Nat}{k:aj}{cs:Array Value}{t:TypeId}(hb:π b=none)(hk:X.k<=b)(hle:k.size<=e)(he:e<=cs.size)
  (h2:∀j,j<k.size->∃v,cs[j]? =some v/\(k.get j).rel π v):
  Rel X D (AA π b (w.heap.size,0,k.size,e)) ((Up.new b k).hI g) a (w.alloc (.cells cs t)):=by
 have hx:=A5 hb (w.heap.size,0,k.size,e)
 have live:∀b' B' s' q' e',g.z b'≠none->π b'=some (B',s',q',e')->∀i,s'<=i->i<e'->B'<w.heap.size:=λb' B' s' q' e' hz fu i i1 i2=>by
  cases hh:g.z b' with
  |none=>exact absurd hh hz
  |some n=>
   obtain⟨_,_,_,FA,_,k1,_⟩:=R.hp.hp b' n hh;rw[fu] at FA;cases FA;exact ace (k1 i i1 i2).1
 have R1:Rel X D π g a (w.alloc (.cells cs t)):=
  ⟨R.tm,R.nt,R.df,R.hp.aSS (R.hp.am.alloc cs t) λb' B' s' q' e' hz fu i i1 i2=>⟨aI2 (live b' B' s' q' e' hz fu i i1 i2),aTv (live b' B' s' q' e' hz fu i i1 i2)⟩,R.yc,R.ft,R.fr.alloc _ _⟩
 have R2:=R1.L6 hx (λb' fu=>by simp only[AA];rw[if_neg (by omega)]);have Er:∀i,cl (w.alloc (.cells cs t)) w.heap.size i=cs[i]? :=λi=>World.cell?_alloc_new w cs t i
 refine R2.new (s:=0) (qi _ _ _) hk (by omega) (λi _ i2=>⟨?_,World.frozen?_alloc_new w cs t i⟩) (λj hj=> ?_) (λb' s' q' e' mC hz fu i _ _ i3 i4=> ?_) (λhB=> ?_) (λ_=>R.hp.am.sz)
 .rw[Er];simp;omega
 .obtain⟨v,hv,hr⟩:=h2 j hj;exact⟨v,by rw[dG,Er];exact hv,CV.dM hx _ _ hr⟩
 .simp only[AA,mC,gA] at fu;exact absurd (live b' _ s' q' e' hz fu i i3 i4) (Nat.lt_irrefl _)
 .have:=R.fr.size;omega
theorem Rel.set {X:Cx}{D:Nat->Prop}{π:Pi}{g:Gt}{a:Act}{w:World}(R:Rel X D π g a w){b n B s e:Nat}{o:cE}{vs:aj}{xs:List Value}(hz:g.z b=some n)(hb:π b=some (B,s,n,e))(hn:o.val+aj.size vs<=n)
  (hx:bu (CV.rel π) vs.list xs)(hD:b<X.k->D b):Rel X D π ((Up.c b o vs).hI g) a (w.setCells B (s+o.val) xs):=by
 refine⟨R.tm,R.nt,R.df,R.hp.set hz hb hn hx,R.yc,R.ft,R.fr.setCells ?_⟩;obtain⟨B',s',e',fu,hle,h1,h2⟩:=R.hp.hp b n hz;rw[hb] at fu;cases fu;have hlen:=(jy hx).1;rcases ni B X.w0.heap.size with hB|hB
 .right
  intro j hj;rcases ni b X.k with hk|hk
  .exact⟨b,s,n,e,hk,hD hk,(R.yc b hk).symm.trans hb,by omega,by omega⟩
  .exact R.ft b B s n e hk (by simp[hz]) hb hB _ (by omega) (by omega)
 .exact .inl hB
end Go.Ab
namespace Go.Ab
variable [ay]
omit [ay] in
theorem na (B o j:Nat):(⟨B,o,none⟩:Addr).add j=⟨B,o+j,none⟩:=by
 unfold Addr.add;split<;>simp_all
theorem aM4 {v:Value}{c:CV}(h:ofC v=some c)(π:Pi):c.rel π v:=by
 unfold ofC at h;split at h<;>first|(cases h;rfl)|cases h
omit [ay] in
theorem aE2 (v:CV)(r:aj):aj.list (.c v::r)=v::r.list:=by
 apply List.ext_getElem?
 intro i;rw[aj.agG];cases i with
 |zero=>rw[if_pos (by rw[aj.size_cons,Sg.kF];omega)];rfl
 |succ i=>
  rw[List.getElem?_cons_succ,aj.agG];by_cases h:i<aj.size r
  .rw[if_pos h,if_pos (by rw[aj.size_cons,Sg.kF];omega),<-aj.kG (l:=r) (j':=i) (by omega) (by omega)]
  .rw[if_neg h,if_neg (by rw[aj.size_cons,Sg.kF];omega)]
theorem aI3:∀{vs:List Value} {cs:aj},aIU vs=some cs->∀π,bu (CV.rel π) cs.list vs
 | [],cs,h,π=>by simp[aIU] at h;subst h;trivial
 |v::vs,cs,h,π=>by
  simp only[aIU] at h;split at h
  .rename_i c Ti h1 h2
   cases h;rw[aE2];exact⟨aM4 h1 π,aI3 h2 π⟩
  .cases h
theorem aE3 {v:Value}{r:RV}(h:ofR v=some r)(π:Pi):r.rel π v:=by
 have key:(ofC v).map RV.c=some r->r.rel π v:=λh=>by
  cases hc:ofC v with
  |none=>rw[hc] at h;cases h
  |some l=>rw[hc] at h;cases h;exact aM4 hc π
 cases v with
 |agg cs=>
  simp only[ofR] at h;cases hc:aIU cs.toList with
  |none=>rw[hc] at h;cases h
  |some l=>rw[hc] at h;cases h;exact⟨_,rfl,aI3 hc π⟩
 |_=>simp only[ofR] at h;exact key h
omit [ay] in
theorem aJ.eu {α:Type}{x:Option α}{g:Gt}{a:α}{l:List Fp}(h:aJ (eu x) g a l):x=some a:=by
 cases x with
 |none=>cases h
 |some b=>cases h;rfl
omit [ay] in
theorem aJ.cR {x:Bool}{g:Gt}{u:Unit}{l:List Fp}(h:aJ (cR x) g u l):x=true:=by
 cases h with|test h=>cases x with
  |true=>rfl
  |false=>cases h
omit [ay] in
theorem aJ.asR {v:AV}{g:Gt}{a:RV}{l:List Fp}(h:aJ (asR v) g a l):v=.r a:=by
 unfold Ab.asR at h;split at h
 .cases h;rfl
 .cases h
omit [ay] in
theorem aJ.asC {v:AV}{g:Gt}{a:CV}{l:List Fp}(h:aJ (asC v) g a l):v=.r (.c a):=by
 unfold Ab.asC at h;split at h
 .cases h;rfl
 .cases h
omit [ay] in
theorem aJ.asI {v:AV}{g:Gt}{a:IntKind×Int}{l:List Fp}(h:aJ (asI v) g a l):v=.r (.c (.f (.i a.1 a.2))):=by
 unfold Ab.asI at h;split at h
 .cases h;rfl
 .cases h
omit [ay] in
theorem aJ.asB {v:AV}{g:Gt}{a:Bool}{l:List Fp}(h:aJ (asB v) g a l):v=.r (.c (.f (.b a))):=by
 unfold Ab.asB at h;split at h
 .cases h;rfl
 .cases h
omit [ay] in
theorem aJ.asP {v:AV}{g:Gt}{a:Nat×cE×Nat}{l:List Fp}(h:aJ (asP v) g a l):v=.r (.c (.ptr a.1 a.2.1 a.2.2)):=by
 unfold Ab.asP at h;split at h
 .cases h;rfl
 .cases h
section
variable {X:Cx} {D:Nat->Prop} {π:Pi} {g:Gt} {a:Act} {w:World}
theorem aJ.Ep {x:Operand}{v:AV}{l:List Fp}(h:aJ (Ep x) g v l)(R:Rel X D π g a w):v.rel π (a.eval x):=by
 cases x with
 |tmp t=>cases h with|tm h=>cases h;exact R.tm t
 |const c=>
  obtain⟨r,⟨_,h1⟩,_,h2⟩:=aJ.bind' h;cases h2;exact aE3 h1.eu π
 |func f=>cases h;exact⟨#[],rfl,trivial⟩
 |global g=>cases h
theorem aJ.wL {x:Operand}{v:RV}{l:List Fp}(h:aJ (wL x) g v l)(R:Rel X D π g a w):v.rel π (a.eval x):=by
 obtain⟨r,⟨_,h1⟩,_,h2⟩:=aJ.bind' h;have:=h1.Ep R;rw[h2.asR] at this;exact this
theorem aJ.aMK {x:Operand}{v:RV}{l:List Fp}(h:aJ (aMK x) g v l)(R:Rel X D π g a w):v.rel π (a.eval x):=by
 obtain⟨r,⟨_,h1⟩,_,h2⟩:=aJ.bind' h;have:=h1.Ep R;unfold Ab.asS at h2;split at h2
 .cases h2;exact this
 .cases h2;obtain⟨arr,hx,ha⟩:=this;obtain⟨arr⟩:=arr;match arr,ha with
  | [y],⟨hy,_⟩=>
   obtain⟨B,s,q,e,hb,rfl,hle⟩:=hy;exact⟨B,s,q,e,hb,hx,hle⟩
 .cases h2
theorem aJ.HD {x:Operand}{v:CV}{l:List Fp}(h:aJ (HD x) g v l)(R:Rel X D π g a w):v.rel π (a.eval x):=by
 obtain⟨r,⟨_,h1⟩,_,h2⟩:=aJ.bind' h;have:=h1.Ep R;rw[h2.asC] at this;exact this
theorem aJ.K7 {x:Operand}{v:IntKind×Int}{l:List Fp}(h:aJ (K7 x) g v l)(R:Rel X D π g a w):a.eval x=.int v.1 v.2:=by
 obtain⟨r,⟨_,h1⟩,_,h2⟩:=aJ.bind' h;have:=h1.Ep R;rw[h2.asI] at this;exact this
theorem aJ.aIV {x:Operand}{v:Bool}{l:List Fp}(h:aJ (aIV x) g v l)(R:Rel X D π g a w):a.eval x=.bool v:=by
 obtain⟨r,⟨_,h1⟩,_,h2⟩:=aJ.bind' h;have:=h1.Ep R;rw[h2.asB] at this;exact this
theorem aJ.aML {x:Operand}{v:Nat×cE×Nat}{l:List Fp}(h:aJ (aML x) g v l)(R:Rel X D π g a w):∃B s q e,π v.1=some (B,s,q,e)/\a.eval x=.pointer (some ⟨B,s+v.2.1.val,none⟩)/\v.2.1.val+v.2.2<=q:=by
 obtain⟨r,⟨_,h1⟩,_,h2⟩:=aJ.bind' h;have:=h1.Ep R;rw[h2.asP] at this;exact this
omit [ay] in
theorem aJ.uC {α β:Type}{f:α->Rd β}{ρ:β->α->Prop}(hf:∀x v l,aJ (f x) g v l->ρ v x):∀{xs:List α} {vs:List β} {l:List Fp},aJ (uC f xs) g vs l->bu ρ vs xs
 | [],vs,l,h=>by cases h;trivial
 |x::xs,vs,l,h=>by
  obtain⟨v,⟨_,h1⟩,_,h2⟩:=aJ.bind' h;obtain⟨kt,⟨_,h3⟩,_,h4⟩:=aJ.bind' h2;cases h4;exact⟨hf x v _ h1,aJ.uC hf h3⟩
omit [ay] in
theorem Kk {P:Program}{t:TypeId}{v:Bool}(h:ael P t=some v)(w:World):(isAgg t).run P w=.ok v w:=by
 unfold ael at h;unfold isAgg;cases hu:P.underlying t with
 |none=>rw[hu] at h;cases h
 |some d=>rw[hu] at h;cases d<;>simp[run_underlying hu]<;>simp_all
omit [ay] in
theorem aqH {P:Program}{t:TypeId}{n:Nat}(h:iZ P t=some n):∃i,P.info? t=some i/\i.size=n:=by
 unfold iZ at h;cases hi:P.info? t with
 |none=>rw[hi] at h;cases h
 |some i=>rw[hi] at h;exact⟨i,rfl,by simpa using h⟩
omit [ay] in
theorem run_typeInfo {P:Program}{t:TypeId}{i:TypeInfo}(h:P.info? t=some i)(w:World):(typeInfo t).run P w=.ok i w:=by simp[typeInfo,h]
omit [ay] in
theorem run_sizeOf {P:Program}{t:TypeId}{n:Nat}(h:iZ P t=some n)(w:World):(sizeOf t).run P w=.ok n w:=by
 obtain⟨i,hi,rfl⟩:=aqH h;simp[sizeOf,run_typeInfo hi]
theorem aep {P:Program}{t:TypeId}{r:RV}(h:AW P t=some r)(w:World):∃x,(zeroValue t).run P w=.ok x w/\(∃it:TypeInfo,P.info? t=some it/\it.zero=some x)/\∀π,r.rel π x:=by
 unfold AW at h;cases hi:P.info? t with
 |none=>rw[hi] at h;cases h
 |some i=>
  rw[hi] at h;simp only[bG] at h;cases hz:i.zero with
  |none=>rw[hz] at h;cases h
  |some x=>
   rw[hz] at h;simp only[bG] at h;refine⟨x,by simp[zeroValue,run_typeInfo hi,hz],⟨i,rfl,hz⟩,λπ=> ?_⟩;split at h
   .rename_i b hb
    simp only[mL] at h;obtain⟨b',h1,rfl⟩:=h;obtain⟨e1,e2⟩:=aly h1;obtain⟨arr,rfl,hr⟩:=aE3 hb π;obtain⟨l1,l2⟩:=jy hr;exact⟨arr,rfl,yD (by rw[l1,e1]) λj hj=>by rw[e2];exact l2 j (by omega)⟩
   .exact aE3 h π
omit [ay] in
theorem aKN {P:Program}(ob:Obj)(w:World):(newObj ob).run P w=.ok w.heap.size (w.alloc ob):=rfl
omit [ay] in
theorem L7 {P:Program}(t:TypeId)(cs:Array Value)(w:World):(newRow t cs).run P w=.ok ⟨w.heap.size,0,none⟩ (w.alloc (.cells cs t)):=by
 simp only[newRow,Sem.run_bind,aKN,Result.andThen_ok,Sem.run_pure]
theorem Rel.view (R:Rel X D π g a w){b q n:Nat}{o:cE}{v:aj}(hz:g.z b=some q)(hs:aj.size v=n)(hv:o.val+n<=q->∀j,j<n->aj.get v j=g.c b (o.val+j)){B s q' e:Nat}(hb:π b=some (B,s,q',e))(hn:o.val+n<=q'):
  q'=q/\∃xs:List Value,xs.length=n/\bu (CV.rel π) v.list xs/\∀j x,xs[j]? =some x->cl w B (s+o.val+j)=some x:=by
 obtain⟨B',s',e',fu,hle,_,h2⟩:=R.hp.hp b q hz;rw[hb] at fu;cases fu;have hv:=hv hn
 have cell:∀j,j<n->∃x,cl w B (s+o.val+j)=some x/\(aj.get v j).rel π x:=λj hj=>by
  obtain⟨x,hx,hr⟩:=h2 (o.val+j) (by omega);rw[<-hv j hj] at hr;exact⟨x,by rw[show s+o.val+j=s+(o.val+j) by omega];exact hx,hr⟩
 refine⟨rfl,(List.range n).map λj=>(cl w B (s+o.val+j)).getD undef,by simp,yD (by simp[hs]) λj hj=> ?_,λj x hx=> ?_⟩
 .obtain⟨x,hx,hr⟩:=cell j (by omega);refine⟨x,?_,hr⟩;rw[Ca,List.getElem?_range (by omega)];simp[hx]
 .have hjn:j<n:=by
   have:=(lL.1 hx).1;simpa using this
  obtain⟨u,hu,_⟩:=cell j hjn;simp[hjn,hu] at hx
  rw[hu,hx]
omit [ay] in
theorem aau {P:Program}{w:World}{B o:Nat}{xs:List Value}(h:∀j v,xs[j]? =some v->cl w B (o+j)=some v):(loadCells ⟨B,o,none⟩ xs.length).run P w=.ok xs.toArray w:=
 run_loadCells_list w _ xs λj v hj=>by rw[na];exact h j v hj
omit [ay] in
theorem aJ.atm {b:aj}{v:RV}{l:List Fp}(h:aJ (atm b) g v l):∃c,b=[.c c]/\v=.c c:=by
 unfold Ab.atm at h;split at h
 .cases h;exact⟨_,rfl,rfl⟩
 .cases h
theorem aJ.aao {P:Program}(R:Rel X D π g a w){t:TypeId}{b m:Nat}{o:cE}{v:RV}{l:List Fp}(h:aJ (aao P t b o m) g v l){B s q' e:Nat}(hb:π b=some (B,s,q',e))(hm:o.val+m<=q'):
  ∃x,(loadVar t ⟨B,s+o.val,none⟩).run P w=.ok x w/\v.rel π x:=by
 obtain⟨ag,⟨_,h1⟩,_,h⟩:=aJ.bind' h;obtain⟨n,⟨_,h2⟩,_,h⟩:=aJ.bind' h;have h1:=h1.eu;have h2:=h2.eu;cases ag with
 |true=>
  obtain⟨_,⟨_,h3⟩,_,h⟩:=aJ.bind' h;have h3:=fy.1 h3.cR;cases h with|vw q u hz hs hv h=>
  cases h;simp only[Sz.val,Vt] at hs hv;obtain⟨_,xs,hl,hx,hc⟩:=R.view hz hs hv hb (by omega);refine⟨.agg xs.toArray,?_,⟨_,rfl,hx⟩⟩;have:=aau (P:=P) hc;rw[hl] at this;simp[loadVar,Kk h1,run_sizeOf h2,this]
 |false=>
  obtain⟨_,⟨_,h3⟩,_,h⟩:=aJ.bind' h;have h3:=fy.1 h3.cR;cases h with|vw q u hz hs hv h=>
  simp only[Sz.val,Vt] at hs hv;obtain⟨_,xs,hl,hx,hc⟩:=R.view hz hs hv hb (by omega);obtain⟨c,rfl,rfl⟩:=h.atm;rw[aTt] at hx
  obtain⟨x,rfl⟩:∃x,xs=[x]:=by
   match xs,hl with
   | [x],_=>exact⟨x,rfl⟩
  have hcx:=hc 0 x rfl;simp only[ku] at hcx;refine⟨x,?_,hx.1⟩;simp only[cl] at hcx;simp[loadVar,Kk h1,hcx]
omit [ay] in
theorem aJ.aEF {b v:aj}{o:cE}{cF:Sz}{z:Nat}{l:List Fp}(h:aJ (aEF b o cF z) g v l):b.sub o cF z=some (true,v):=by
 unfold Ab.aEF at h;split at h
 .rename_i p hp
  cases h with|test h=>
  obtain⟨gg,u⟩:=p;cases gg with
  |true=>cases h;exact hp
  |false=>cases h
 .cases h
theorem aJ.aKD {P:Program}{t:TypeId}{cs:aj}{o:cE}{v:RV}{l:List Fp}(h:aJ (aKD P t cs o) g v l){n:Nat}(hn:iZ P t=some n)(hn1:1<=n)(hle:o.val+n<=aj.size cs){xs:Array Value}(hx:bu (CV.rel π) cs.list xs.toList)(w:World):
  ∃x,(part t xs o.val).run P w=.ok x w/\v.rel π x:=by
 obtain⟨ag,⟨_,h1⟩,_,h⟩:=aJ.bind' h;obtain⟨n',⟨_,h2⟩,_,h⟩:=aJ.bind' h;have h1:=h1.eu;have h2:=h2.eu;rw[hn] at h2;cases h2;obtain⟨l1,l2⟩:=jy hx;cases ag with
 |true=>
  obtain⟨u,⟨_,h3⟩,_,h⟩:=aJ.bind' h;cases h;obtain⟨e1,e2⟩:=aj.ayq h3.aEF;simp only[Sz.val,Vt] at e1 e2;have e2:=e2 hle;refine⟨.agg (xs.extract o.val (o.val+n)),by simp[part,Kk h1,run_sizeOf hn],⟨_,rfl,?_⟩⟩
  have:(xs.extract o.val (o.val+n)).toList=(xs.toList.drop o.val).take n:=by
   rw[Array.toList_extract];simp[List.extract]
  rw[this];refine yD (by rw[List.length_take,atg,l1];omega) λj hj=> ?_;obtain⟨x,hx1,hx2⟩:=l2 (o.val+j) (by omega);refine⟨x,by rw[ab5,if_pos (by omega),Te];exact hx1,?_⟩;rw[e2 j (by omega)];exact hx2
 |false=>
  obtain⟨u,⟨_,h3⟩,_,h⟩:=aJ.bind' h;obtain⟨c,rfl,rfl⟩:=h.atm;obtain⟨_,e2⟩:=aj.ayq h3.aEF;have e2:=e2 (by simp only[Sz.val];omega) 0 (by simp[Sz.val]);obtain⟨x,hx1,hx2⟩:=l2 o.val (by omega);refine⟨x,?_,?_⟩
  .have:xs[o.val]? =some x:=by simpa using hx1
   simp[part,Kk h1,this]
  .rw[ku] at e2;rw[<-e2] at hx2;exact hx2
theorem a1N {n:Nat}{q:Nat->Bool}{x:Value}(h:(CV.f (.q n q)).rel π x):(CV.fs n 1 [.b q]).rel π x:=by
 refine⟨rfl,?_⟩;rcases h with h| ⟨B,s,cap,h1,h2,h3⟩
 .exact .inl h
 .refine .inr ⟨B,s,cap,h1,h2,λj hj=>⟨.b (q j),.bool (q j),?_,h3 j (by omega),rfl⟩⟩;simp[ja,Nat.mod_one,c7.at]
omit [ay] in
theorem aJ.a1O {P:Program}{t:TypeId}{c c':CV}{l:List Fp}(h:aJ (aIW P t c) g c' l):c'=c∨∃n q,c=.f (.q n q)/\c'=.fs n 1 [.b q]:=by
 unfold Ab.aIW at h;generalize P.underlying t=u at h
 split at h
 .cases h with|@test x _ _ _ _ h=>
  cases hx:FV.isB _<;>rw[hx] at h<;>cases h
  rename_i x;cases x<;>first|exact .inl rfl|cases hx
 .cases h with|@test x _ _ _ _ h=>
  cases hx:FV.isI _ _<;>rw[hx] at h<;>cases h
  rename_i k x;cases x<;>first|(cases hx;done)|skip
  simp only[FV.isI,jW] at hx;subst hx;exact .inl rfl
 .cases h with|@test x _ _ _ _ h=>
  cases hx:FV.isS _<;>rw[hx] at h<;>cases h
  rename_i x;cases x<;>first|exact .inl rfl|cases hx
 .cases h;exact .inr ⟨_,_,rfl,rfl⟩
 .cases h;exact .inl rfl
theorem aJ.aIW {P:Program}{t:TypeId}{c c':CV}{l:List Fp}(h:aJ (aIW P t c) g c' l){x:Value}(hx:c.rel π x):c'.rel π x:=by
 rcases h.a1O with rfl| ⟨n,q,rfl,rfl⟩
 .exact hx
 .exact a1N hx
theorem aJ.aqB {P:Program}{t:TypeId}{c c':RV}{l:List Fp}(h:aJ (aqB P t c) g c' l){π:Pi}{x:Value}(hx:c.rel π x):c'.rel π x:=by
 cases c with
 |c c=>
  obtain⟨v,⟨_,h1⟩,_,h⟩:=aJ.bind' h;cases h;exact h1.aIW hx
 |agg cs=>
  cases h;obtain⟨xs,rfl,hx⟩:=hx;obtain⟨l1,l2⟩:=jy hx;obtain⟨n1,n2⟩:=aQK P t cs;refine⟨xs,rfl,yD (by rw[l1,n1]) λj hj=> ?_⟩;rw[n1] at hj;rw[n2 j hj];exact l2 j hj
theorem aJ.valueOf {P:Program}(R:Rel X D π g a w){t:TypeId}{b m:Nat}{o:cE}{v:RV}{l:List Fp}(h:aJ (valueOf P t b o m) g v l){B s q' e:Nat}(hb:π b=some (B,s,q',e))(hm:o.val+m<=q'):
  ∃x,(loadVar t ⟨B,s+o.val,none⟩).run P w=.ok x w/\v.rel π x:=by
 obtain⟨u,⟨_,h1⟩,_,h⟩:=aJ.bind' h;obtain⟨x,hx,hr⟩:=aJ.aao R h1 hb hm;exact⟨x,hx,h.aqB hr⟩
theorem aJ.partOf {P:Program}{t:TypeId}{cs:aj}{o:cE}{v:RV}{l:List Fp}(h:aJ (partOf P t cs o) g v l){n:Nat}(hn:iZ P t=some n)(hn1:1<=n)(hle:o.val+n<=aj.size cs){xs:Array Value}(hx:bu (CV.rel π) cs.list xs.toList)(w:World):
  ∃x,(part t xs o.val).run P w=.ok x w/\v.rel π x:=by
 obtain⟨u,⟨_,h1⟩,_,h⟩:=aJ.bind' h;obtain⟨x,hx1,hr⟩:=aJ.aKD h1 hn hn1 hle hx w;exact⟨x,hx1,h.aqB hr⟩
theorem aJ.OK {P:Program}{t:TypeId}{cs:aj}{c:Nat}{v:RV}{l:List Fp}(h:aJ (OK P t cs c) g v l){xs:Array Value}(hx:bu (CV.rel π) cs.list xs.toList)(w:World):
  ∃x,(part t xs c).run P w=.ok x w/\v.rel π x:=by
 obtain⟨n,⟨_,h1⟩,_,h⟩:=aJ.bind' h;obtain⟨_,⟨_,h2⟩,_,h⟩:=aJ.bind' h;have h2:=h2.cR;simp only[cB,fy] at h2;exact h.partOf h1.eu h2.1 h2.2 hx w
end
def cF (us:List Up):Nat:=(us.filter λ|.new _ _=>true|_=>false).length
def Up.perm (k:Nat)(D:Nat->Prop):Up->Prop
 |.c b _ _|.kill b=>b<k->D b
 |_=>True
def Aw (P:Program)(o:Oper)(X:Cx)(D:Nat->Prop)(aM:Nat)(us:List Up)(g:Gt):Prop:=
 ∀π a w (next:Act->World->Prop) (Q:Exit->Act->World->Prop),Rel X D π g a w->X.k<=aM->(∀b,aM<=b->b<aM+cF us->π b=none)->(∀d,o.dst=some d->d<X.N)->(∀u∈us,u.perm X.k D)->
  (∀a' w' π',Ext π π'->(∀b,π' b≠none->π b≠none∨(aM<=b/\b<aM+cF us))->Rel X D π' (cH us g) a' w'->next a' w')->o.wp P a w next Q
section
variable {P:Program} {o:Oper} {X:Cx} {D:Nat->Prop} {aM:Nat} {us:List Up} {g:Gt}
omit [ay] in
theorem QB {a:Act}{w w':World}{x:Value}{next:Act->World->Prop}{Q:Exit->Act->World->Prop}(h:(execOp a.eval o).run P w=.ok (.value x) w')(hn:next (a.put o.dst x) w'):o.wp P a w next Q:=by
 unfold Oper.wp;rw[h];exact hn
omit [ay] in
theorem aZA {a:Act}{w w':World}{next:Act->World->Prop}{Q:Exit->Act->World->Prop}(h:(execOp a.eval o).run P w=.ok .skip w')(hn:next (a.put o.dst undef) w'):o.wp P a w next Q:=by
 unfold Oper.wp;rw[h];exact hn
theorem iQ {v:AV}(h:∀π a w,Rel X D π g a w->∃x,(execOp a.eval o).run P w=.ok (.value x) w/\v.rel π x):Aw P o X D aM (dY o.dst v) g:=by
 intro π a w next Q R hk hf hd hD hn;obtain⟨x,h1,h2⟩:=h π a w R;exact QB h1 (hn _ _ π (Ext.refl _) (λb h=>.inl h) (R.dst hd h2))
theorem ats (π:Pi):udf.rel π undef:=⟨#[],rfl,trivial⟩
theorem aE4 {x:Operand}{fp:List Fp}(ho:o.op=.move x∨o.op=.assign x)(h:aJ ((Ep x).bind λv=>.ret (dY o.dst v)) g us fp):Aw P o X D aM us g:=by
 obtain⟨v,⟨_,h1⟩,_,h2⟩:=aJ.bind' h;cases h2;refine iQ λπ a w R=>⟨a.eval x,?_,h1.Ep R⟩
 rcases ho with ho|ho<;>simp[execOp,ho]
theorem aQP {c x y:Operand}{fp:List Fp}(ho:o.op=.pick c x y)(h:aJ ((aIV c).bind λz=>.test z λ|true=>(Ep x).bind λv=>.ret (dY o.dst v)|false=>(Ep y).bind λv=>.ret (dY o.dst v)) g us fp):Aw P o X D aM us g:=by
 obtain⟨z,⟨_,h1⟩,_,h2⟩:=aJ.bind' h;cases h2 with|test h2=>
 cases z with
 |true=>
  obtain⟨v,⟨_,h3⟩,_,h4⟩:=aJ.bind' h2;cases h4;refine iQ λπ a w R=>⟨a.eval x,?_,h3.Ep R⟩
  simp[execOp,ho,h1.aIV R,asBool]
 |false=>
  obtain⟨v,⟨_,h3⟩,_,h4⟩:=aJ.bind' h2;cases h4;refine iQ λπ a w R=>⟨a.eval y,?_,h3.Ep R⟩
  simp[execOp,ho,h1.aIV R,asBool]
theorem aav:∀(ks:List (Option (Nat×List CK))) (b:aj) (aM:Nat),aj.size (Tj ks b aM).1=aj.size b/\(∀e∈(Tj ks b aM).2,aj.size e=0)/\
  ∀π:Pi,(∀i,i<(Tj ks b aM).2.length->π (aM+i)=some (0,0,0,0))->∀j,j<aj.size b->∀v,(aj.get b j).rel π v->(aj.get (Tj ks b aM).1 j).rel π v
 |_,[],_=>⟨rfl,λe h=>by simp[Tj] at h,λ_ _ _ _ _ h=>h⟩
 |ks,.a n cols::r,b=>by
  obtain⟨h1,h2,h3⟩:=aav (ks.drop (n.val*cols.length)) r b;refine⟨by rw[Tj,aj.size_cons,aj.size_cons,h1],h2,λπ hp j hj v hv=> ?_⟩;rw[aj.size_cons] at hj;rw[Tj];by_cases lM:j<(Sg.a n cols).size
  .rw[aj.dR lM] at hv ⊢;exact hv
  .rw[aj.lp (by omega)] at hv ⊢;exact h3 π hp _ (by omega) v hv
 |ks,.c v::r,b=>by
  unfold Tj;split
  .rename_i z k ks
   obtain⟨h1,h2,h3⟩:=aav ks r (b+1);refine⟨by rw[aj.size_cons,aj.size_cons,h1];rfl,λe he=> ?_,λπ hp j hj v hv=> ?_⟩
   .rcases ab7.1 he with rfl|he
    .simp[aj.size,Sg.size,Sz.val]
    .exact h2 e he
   .rw[aj.size_cons,Sg.kF] at hj;cases j with
    |zero=>
     have hv:v=.slice none 0 0:=hv;subst hv;exact⟨0,0,0,0,by simpa using hp 0 (by simp),by simp[cE.val,Sz.val],λ_=>by simp[cE.val,Sz.val],.inl ⟨rfl,none,rfl⟩⟩
    |succ j=>
     rw[aj.lp (by rw[Sg.kF];omega)] at hv ⊢;exact h3 π (λi hi=>by have:=hp (i+1) (by simpa using hi);rwa [show b+1+i=b+(i+1) by omega]) _ (by rw[Sg.kF];omega) v hv
  .obtain⟨h1,h2,h3⟩:=aav (ks.drop 1) r b;refine⟨by rw[aj.size_cons,aj.size_cons,h1],h2,λπ hp j hj v hv=> ?_⟩;rw[aj.size_cons,Sg.kF] at hj;cases j with
   |zero=>exact hv
   |succ j=>
    rw[aj.lp (by rw[Sg.kF];omega)] at hv ⊢;exact h3 π hp _ (by rw[Sg.kF];omega) v hv
theorem avh (P:Program)(t:TypeId)(b:aj)(aM:Nat):aj.size (jf P t b aM).1=aj.size b/\(∀e∈(jf P t b aM).2,aj.size e=0)/\
  ∀π:Pi,(∀i,i<(jf P t b aM).2.length->π (aM+i)=some (0,0,0,0))->∀xs,bu (CV.rel π) b.list xs->bu (CV.rel π) (aj.list (jf P t b aM).1) xs:=by
 unfold jf;split
 .obtain⟨h1,h2,h3⟩:=aav (aKG P 30 t) b aM;refine⟨h1,h2,λπ hp xs hx=> ?_⟩;obtain⟨l1,l2⟩:=jy hx;refine yD (by rw[h1,l1]) λj hj=> ?_;rw[h1] at hj;obtain⟨x,hx1,hx2⟩:=l2 j hj;exact⟨x,hx1,h3 π hp j hj x hx2⟩
 .exact⟨rfl,λe he=>by simp at he,λ_ _ _ h=>h⟩
omit [ay] in
theorem aI4 (us vs:List Up):cF (us++vs)=cF us+cF vs:=by simp[cF]
omit [ay] in
theorem att:∀(es:List aj) (aM:Nat),cF (Ce es aM)=es.length
 | [],_=>rfl
 |e::es,aM=>by
  have:=att es (aM+1);unfold cF at this ⊢;simp only[Ce,List.filter_cons,lI,LV,this]
omit [ay] in
theorem aE5 (us vs:List Up)(g:Gt):cH (us++vs) g=cH vs (cH us g):=by simp[cH]
theorem Rel.aE6 {a:Act}{w:World}:∀{es:List aj} {aM:Nat} {π:Pi} {g:Gt},(∀e∈es,aj.size e=0)->Rel X D π g a w->X.k<=aM->(∀b,aM<=b->b<aM+es.length->π b=none)->
  ∃π',Ext π π'/\(∀b,π' b≠none->π b≠none∨(aM<=b/\b<aM+es.length))/\(∀i,i<es.length->π' (aM+i)=some (0,0,0,0))/\Rel X D π' (cH (Ce es aM) g) a w
 | [],aM,π,g,_,R,_,_=>⟨π,Ext.refl _,λ_ h=>.inl h,λi hi=>by simp at hi,R⟩
 |e::es,aM,π,g,he,R,hk,hf=>by
  have h0:=hf aM (cZ _) (by simp);have he0:=he e (by simp);have hx0:=A5 h0 (0,0,aj.size e,0)
  have R1:=(R.L6 hx0 (λb hb=>by simp only[AA];rw[if_neg (by omega)])).new (k:=e) (qi π aM (0,0,aj.size e,0)) hk (by omega) (λi _ i2=>by omega) (λj hj=>by omega)
    (λ_ _ _ _ _ _ _ _ _ i2=>by omega) (λ_ _ _ i2=>by omega)
  obtain⟨π',e1,e2,e3,R2⟩:=Rel.aE6 (es:=es) (aM:=aM+1) (λe h=>he e (by simp[h])) R1 (by omega) (λb h1 h2=>by
   simp only[AA];rw[if_neg (by omega)];exact hf b (by omega) (by simp only[LV];omega))
  refine⟨π',hx0.trans e1,λb hb=> ?_,λi hi=> ?_,R2⟩
  .rcases e2 b hb with h|h
   .simp only[AA] at h;by_cases eb:b=aM
    .right;simp only[LV];omega
    .rw[if_neg eb] at h;exact .inl h
   .right;simp only[LV];omega
  .cases i with
   |zero=>
    have:=e1 aM _ (qi π aM (0,0,aj.size e,0));rw[he0] at this;simpa using this
   |succ i=>
    have:=e3 i (by simpa using hi);rwa [show aM+1+i=aM+(i+1) by omega] at this
theorem aE7 {v:RV}{t:TypeId}(h:∀π a w,Rel X D π g a w->∃x,v.rel π x/\(execOp a.eval o).run P w=.ok (.value (.pointer (some ⟨w.heap.size,0,none⟩))) (w.alloc (.cells x.cells t))):
  Aw P o X D aM (Ce (jf P t v.bU aM).2 aM++au4 o.dst (aM+(jf P t v.bU aM).2.length) (aj.size (jf P t v.bU aM).1) (jf P t v.bU aM).1) g:=by
 obtain⟨n1,n2,n3⟩:=avh P t v.bU aM;generalize (jf P t v.bU aM).1=k at n1 n2 n3
 generalize (jf P t v.bU aM).2=es at n1 n2 n3
 intro π a w next Q R hk hf hd hD hn;obtain⟨x,hx,h1⟩:=h π a w R
 have hcn:cF (Ce es aM++au4 o.dst (aM+es.length) (aj.size k) k)=es.length+1:=by
  rw[aI4,att];unfold au4 dY cF;cases o.dst<;>rfl
 rw[hcn] at hf hn;obtain⟨π1,e1,e2,e3,R1⟩:=R.aE6 n2 hk (λb h1 h2=>hf b h1 (by omega));obtain⟨hl,hc⟩:=jy (n3 π1 e3 _ (RV.OO (RV.dM e1 _ _ hx)));have hl':x.cells.size=aj.size k:=by simpa using hl
 have h0:π1 (aM+es.length)=none:=by
  cases hh:π1 (aM+es.length) with
  |none=>rfl
  |some p=>
   rcases e2 (aM+es.length) (by rw[hh];simp) with h|h
   .exact absurd (hf _ (by omega) (by omega)) h
   .omega
 have R2:=R1.alloc (k:=k) (cs:=x.cells) (t:=t) (e:=x.cells.size) h0 (by omega) (by omega) (cZ _) (λj hj=>by
  obtain⟨y,hy,hr⟩:=hc j hj;exact⟨y,by simpa using hy,hr⟩)
 refine QB h1 (hn _ _ (AA π1 (aM+es.length) (w.heap.size,0,aj.size k,x.cells.size)) (e1.trans (A5 h0 _)) (λb hb=> ?_) ?_)
 .simp only[AA] at hb;by_cases e:b=aM+es.length
  .subst e;exact .inr ⟨by omega,by omega⟩
  .simp only[e,gA] at hb;rcases e2 b hb with h|h
   .exact .inl h
   .exact .inr ⟨h.1,by omega⟩
 .have R3:=R2.dst hd (v:=.r (.c (.ptr (aM+es.length) (.k 0) (aj.size k)))) (x:=.pointer (some ⟨w.heap.size,0,none⟩)) ⟨_,_,_,_,qi _ _ _,rfl,by simp[cE.val]⟩
  have e:cH (Ce es aM++au4 o.dst (aM+es.length) (aj.size k) k) g=cH (dY o.dst (.r (.c (.ptr (aM+es.length) (.k 0) (aj.size k))))) ((Up.new (aM+es.length) k).hI (cH (Ce es aM) g)):=by
   rw[aE5];unfold au4 dY;cases o.dst<;>rfl
  rw[e];exact R3
theorem aM5 {e:TypeId}{fp:List Fp}(ho:o.op=.alloc e)(h:aJ ((Ab.eu (AW P e)).bind λz=>.ret (Ce (jf P e z.bU aM).2 aM++au4 o.dst (aM+(jf P e z.bU aM).2.length) (aj.size (jf P e z.bU aM).1) (jf P e z.bU aM).1)) g us fp):Aw P o X D aM us g:=by
 obtain⟨z,⟨_,h1⟩,_,h2⟩:=aJ.bind' h;cases h2;refine aE7 (t:=e) λπ a w R=> ?_;obtain⟨x,hx,_,hr⟩:=aep h1.eu w;refine⟨x,hr π,?_⟩;simp[execOp,ho,Instr.alloc,hx,newVar,L7]
theorem aTw {t:TypeId}{x:Operand}{fp:List Fp}(ho:o.op=.box t x)(h:aJ ((wL x).bind λv=>.ret (Ce (jf P t v.bU aM).2 aM++au4 o.dst (aM+(jf P t v.bU aM).2.length) (aj.size (jf P t v.bU aM).1) (jf P t v.bU aM).1)) g us fp):Aw P o X D aM us g:=by
 obtain⟨z,⟨_,h1⟩,_,h2⟩:=aJ.bind' h;cases h2;refine aE7 (t:=t) λπ a w R=>⟨_,h1.wL R,?_⟩
 simp[execOp,ho,Instr.box,newVar,L7]
theorem aTx {π:Pi}{a:Act}{w:World}(R:Rel X D π g a w){l:List FV}{B s:Nat}(h:∀j f,l[j]? =some f->∃v,ay.fs B (s+j)=some v/\f.rel v):∃xs:List Value,xs.length=l.length/\bu (CV.rel π) (aj.list (aEH l)) xs/\∀j v,xs[j]? =some v->cl w B (s+j)=some v:=by
 have cell:∀j f,l[j]? =some f->∃v,cl w B (s+j)=some v/\f.rel v:=λj f hj=>by
  obtain⟨v,h1,h2⟩:=h j f hj;exact⟨v,(R.hp.am.st _ _ _ h1).2,h2⟩
 have yQ:aj.size (aEH l)=l.length:=(WL (λv:FV=>CV.f v) l 0).1;refine⟨(List.range l.length).map λj=>(cl w B (s+j)).getD undef,by simp,yD (by simp[yQ]) λj hj=> ?_,λj v hv=> ?_⟩
 .rw[yQ] at hj;obtain⟨v,hv,hr⟩:=cell j _ (kR hj);refine⟨v,?_,?_⟩
  .rw[Ca,List.getElem?_range hj];simp[hv]
  .rw[show aEH l=l.map λv=>Sg.c (.f v) from rfl,(WL (λv:FV=>CV.f v) l j).2 _ (kR hj)];exact hr
 .have hjn:j<l.length:=by
   have:=(lL.1 hv).1;simpa using this
  obtain⟨u,hu,_⟩:=cell j _ (kR hjn);simp[hjn,hu] at hv
  rw[hu,hv]
theorem aJ.aEI {P:Program}{π:Pi}{a:Act}{w:World}(R:Rel X D π g a w){t:TypeId}{fl:List FV}{v:RV}{l:List Fp}(h:aJ (aEI P t fl) g v l){x:Value}(hx:(CV.fp fl).rel π x):
  ∃B s y,x=.pointer (some ⟨B,s,none⟩)/\(loadVar t ⟨B,s,none⟩).run P w=.ok y w/\v.rel π y:=by
 obtain⟨B,s,rfl,hc⟩:=hx;obtain⟨xs,hl,hx,Er⟩:=aTx R hc;obtain⟨ag,⟨_,h1⟩,_,h⟩:=aJ.bind' h;obtain⟨n,⟨_,h2⟩,_,h⟩:=aJ.bind' h;have h1:=h1.eu;have h2:=h2.eu;cases ag with
 |true=>
  obtain⟨_,⟨_,h3⟩,_,h⟩:=aJ.bind' h;have h3:=beq_iff.1 h3.cR;refine⟨B,s,.agg xs.toArray,rfl,?_,h.aqB ⟨_,rfl,hx⟩⟩;have:=aau (P:=P) Er;rw[hl,<-h3] at this;simp[loadVar,Kk h1,run_sizeOf h2,this]
 |false=>
  cases fl with
  |nil=>cases h
  |cons f fl=>
   match xs,hl with
   |x::xs,_=>
    have hcx:=Er 0 x rfl;simp only[ku] at hcx;refine⟨B,s,x,rfl,?_,?_⟩
    .simp only[cl] at hcx;simp[loadVar,Kk h1,hcx]
    .have:=(jy hx).2 0 (by rw[show aEH (f::fl)=(f::fl).map λv=>Sg.c (.f v) from rfl,(WL (λv:FV=>CV.f v) (f::fl) 0).1];simp);obtain⟨y,hy,hr⟩:=this;cases hy;exact aJ.aqB (c:=.c (.f f)) h hr
theorem aQQ {t:TypeId}{x:Operand}{fp:List Fp}(ho:o.op=.load t x)(h:aJ ((HD x).bind λ
  |.ptr b q n=>(valueOf P t b q n).bind λv=>.ret (dY o.dst (.r v))
  |.fp l=>(aEI P t l).bind λv=>.ret (dY o.dst (.r v))
  |_=>.fail) g us fp):Aw P o X D aM us g:=by
 obtain⟨p,⟨_,h1⟩,_,h2⟩:=aJ.bind' h;split at h2
 .obtain⟨v,⟨_,h3⟩,_,h4⟩:=aJ.bind' h2;cases h4;refine iQ λπ a w R=> ?_;obtain⟨B,s,q,e,hb,ha,hm⟩:=h1.HD R;obtain⟨y,hy,hr⟩:=aJ.valueOf R h3 hb hm;refine⟨y,?_,hr⟩;simp[execOp,ho,Instr.loadAt,ha,Instr.sureAddr,hy]
 .obtain⟨v,⟨_,h3⟩,_,h4⟩:=aJ.bind' h2;cases h4;refine iQ λπ a w R=> ?_;obtain⟨B,s,y,ha,hy,hr⟩:=aJ.aEI R h3 (h1.HD R);refine⟨y,?_,hr⟩;simp[execOp,ho,Instr.loadAt,ha,Instr.sureAddr,hy]
 .cases h2
end
end Go.Ab
