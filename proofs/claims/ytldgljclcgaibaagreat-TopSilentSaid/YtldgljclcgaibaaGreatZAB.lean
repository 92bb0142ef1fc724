/-
  Parts of the proof: AbA AbS AbM AbO
-/
import Derived.Test.YtldgljclcgaibaaGreatZAA
import Derived.Laws.IdiomCopy
import Derived.Laws.Cells
import Derived.Laws.Entries
set_option linter.all false
namespace Go.Ab
theorem cS.aUy (c:cS)(d j:Nat):(c.shift d).at j=c.at (d+j):=by cases c<;>rfl
theorem cS.a2y (c:cS)(d j:Nat):(c.up d).at j=c.at (j-d):=by cases c<;>rfl
theorem beq_iff {a b:Nat}:Nat.beq a b=true↔a=b:=⟨oK,λh=>h▸OG a⟩
theorem beq_false {a b:Nat}(h:a≠b):Nat.beq a b=false:=by
 rw[Bool.eq_false_iff];exact λe=>h (beq_iff.1 e)
theorem uM {a b:Nat}:Nat.blt a b=true↔a<b:=by simp[Nat.blt];omega
theorem agC {a b:Nat}(h:¬a<b):Nat.blt a b=false:=by
 rw[Bool.eq_false_iff];exact λe=>h (uM.1 e)
theorem fH {a b:Nat}:Nat.ble a b=true↔a<=b:=by rw[Nat.ble_eq]
theorem ayu {α:Type}(j e:Nat)(x y:α):(cond (Nat.beq j e) x y)=if j=e then x else y:=by
 by_cases h:j=e
 .rw[if_pos h,beq_iff.2 h];rfl
 .rw[if_neg h,beq_false h];rfl
theorem cS.aYE {c c':cS}{e:Nat}{v:CV}(h:c.aTL e v=some c'):∀j,CV.f (c'.at j)=if j=e then v else .f (c.at j):=by
 intro j;unfold cS.aTL at h;split at h
 .split at h
  .cases h;rename_i hk
   subst hk;simp only[cS.at,ayu];split<;>rfl
  .cases h
 .cases h;simp only[cS.at,ayu];split<;>rfl
 .cases h;simp only[cS.at,ayu];split<;>rfl
 .cases h
theorem cS.a0D {p:Nat->Bool}{c d e:cS}(h:cS.mrg p c d=some e):∀j,e.at j=if p j=true then c.at j else d.at j:=by
 intro j;unfold cS.mrg at h;split at h
 .split at h
  .cases h;rename_i hk
   subst hk;simp only[cS.at];cases p j<;>rfl
  .cases h
 .cases h;simp only[cS.at];cases p j<;>rfl
 .cases h;simp only[cS.at];cases p j<;>rfl
 .cases h
def je (cols:List cS)(j:Nat):CV:=match cols[j%cols.length]? with
 |some q=>.f (q.at (j/cols.length))
 |none=>.f .u
theorem Sg.pR (n:Sz)(cols:List cS)(j:Nat):(Sg.a n cols).get j=je cols j:=rfl
theorem agD {p:Nat->Bool}:∀{cs ds es:List cS},avj p cs ds=some es->es.length=cs.length/\ds.length=cs.length/\
  ∀(i:Nat) c d,cs[i]? =some c->ds[i]? =some d->∃e,es[i]? =some e/\∀j,e.at j=if p j=true then c.at j else d.at j
 | [],[],es,h=>by
  simp only[avj,j9] at h;subst h;exact⟨rfl,rfl,λi c d hc=>by simp at hc⟩
 |c::cs,d::ds,es,h=>by
  simp only[avj] at h;split at h
  .rename_i e es' h1 h2
   cases h;obtain⟨a1,a2,a3⟩:=agD h2;refine⟨by simp[a1],by simp[a2],λi c' d' hc hd=> ?_⟩;cases i with
   |zero=>
    simp only[aEF,j9] at hc hd;subst hc hd;exact⟨e,rfl,cS.a0D h1⟩
   |succ i=>exact a3 i c' d' (by simpa using hc) (by simpa using hd)
  .cases h
 | [],_::_,_,h=>by simp[avj] at h
 |_::_,[],_,h=>by simp[avj] at h
theorem aEY {p:Nat->Bool}{cs ds es:List cS}(h:avj p cs ds=some es)(j:Nat):je es j=if p (j/cs.length)=true then je cs j else je ds j:=by
 obtain⟨a1,a2,a3⟩:=agD h;unfold je;rw[a1,a2];by_cases hl:j%cs.length<cs.length
 .have hc:cs[j%cs.length]? =some (cs[j%cs.length]'hl):=kT _;have hd:ds[j%cs.length]? =some (ds[j%cs.length]'(by omega)):=kT _;obtain⟨e,he,ha⟩:=a3 _ _ _ hc hd;rw[he,hc,hd];simp only[ha];split<;>rfl
 .rw[JN (by omega),JN (by omega),JN (by omega)];exact(ite_self _).symm
theorem aAq (cols:List cS)(e j:Nat):je (cols.map (cS.shift e)) j=je cols (e*cols.length+j):=by
 unfold je;rw[ags,Cb,ach,atv];by_cases hl:cols.length=0
 .have:cols=[]:=aK5.1 hl;subst this;rfl
 .rw[Nat.mul_add_div (by omega)];cases cols[j%cols.length]? with
  |none=>rfl
  |some q=>simp only[Tf,cS.aUy]
theorem aOc (cols:List cS)(d j:Nat)(h:d*cols.length<=j):je (cols.map (cS.up d)) j=je cols (j-d*cols.length):=by
 unfold je;rw[ags,Cb];by_cases hl:cols.length=0
 .have:cols=[]:=aK5.1 hl;subst this;rfl
 .obtain⟨m,rfl⟩:∃m,j=cols.length*d+m:=⟨j-cols.length*d,by rw[ach] at h;omega⟩;rw[atv,Nat.mul_add_div (by omega),ach d,Nat.add_sub_cancel_left];cases cols[m%cols.length]? with
  |none=>rfl
  |some q=>simp only[Tf,cS.a2y,Nat.add_sub_cancel_left]
theorem af.dY {s:Sg}{l:af}{j:Nat}(h:j<s.size):af.get (s::l) j=s.get j:=by simp[af.get,h]
theorem af.lH {s:Sg}{l:af}{j:Nat}(h:s.size<=j):af.get (s::l) j=af.get l (j-s.size):=by
 rw[af.get,if_neg (by omega)]
theorem af.rG {n:Nat}{cols:List cS}{l:af}{j j':Nat}(h:n*cols.length<=j)(e:j'=j-n*cols.length):af.get l j'=af.get (.a (.l n) cols::l) j:=by
 rw[af.lH (s:=.a (.l n) cols) h,e];rfl
theorem af.kK {v:CV}{l:af}{j j':Nat}(h:1<=j)(e:j'=j-1):af.get l j'=af.get (.c v::l) j:=by
 rw[af.lH (s:=.c v) h,e];rfl
theorem af.size_cons (s:Sg)(l:af):af.size (s::l)=s.size+af.size l:=rfl
theorem af.lX:af.size []=0:=rfl
theorem Sg.kI (v:CV):(Sg.c v).size=1:=rfl
theorem Sg.ma (n:Sz)(cols:List cS):(Sg.a n cols).size=n.val*cols.length:=rfl
theorem af.size_append (a b:af):af.size (a++b)=af.size a+af.size b:=by
 induction a with
 |nil=>simp[af.size]
 |cons s a ih=>simp only[List.cons_append,af.size,ih];omega
theorem af.get_append (a b:af)(j:Nat):af.get (a++b) j=if j<af.size a then af.get a j else af.get b (j-af.size a):=by
 induction a generalizing j with
 |nil=>simp[af.size]
 |cons s a ih=>
  rw[List.cons_append,af.size_cons];by_cases h:j<s.size
  .rw[af.dY h,af.dY h,if_pos (by omega)]
  .rw[af.lH (by omega),af.lH (by omega),ih];by_cases h2:j-s.size<af.size a
   .rw[if_pos h2,if_pos (by omega)]
   .rw[if_neg h2,if_neg (by omega)];congr 1;omega
theorem af.avx (k:af):k.list.length=k.size:=by simp[af.list]
theorem af.agE (k:af)(j:Nat):k.list[j]? =if j<k.size then some (k.get j) else none:=by
 simp only[af.list,Cb];split
 .rename_i h;simp[h]
 .rename_i h;rw[JN (by simp;omega)];rfl
theorem WI {α:Type}(f:α->CV)(l:List α)(j:Nat):af.size (l.map λa=>Sg.c (f a))=l.length/\∀a,l[j]? =some a->af.get (l.map λa=>Sg.c (f a)) j=f a:=by
 induction l generalizing j with
 |nil=>exact⟨rfl,λa h=>by simp at h⟩
 |cons x l ih=>
  refine⟨by simp only[List.map_cons,af.size,Sg.size,(ih 0).1,LN];omega,λa h=> ?_⟩;cases j with
  |zero=>simp at h;subst h;rfl
  |succ j=>exact(ih j).2 a (by simpa using h)
theorem aAr {sh:Bool}{cols:List cS}{e om:Nat}{cE:Sz}{z:Nat}{v:af}(h:aK8 sh cols e om cE z=some v)(he:sh=false->e=0):
  af.size v=cE.val*z/\∀j,j<cE.val*z->af.get v j=je cols (e*cols.length+om+j):=by
 unfold aK8 at h;split at h
 .rename_i hc
  cases h;simp only[cq,beq_iff] at hc;obtain⟨rfl,hz⟩:=hc
  have hm:∀k,(cE.mul k).val=cE.val*k:=λk=>by
   unfold Sz.mul;split
   .rename_i hk;rw[beq_iff] at hk;subst hk;simp
   .cases cE<;>rfl
  have hlen:(shC sh e cols).length=cols.length:=by cases sh<;>simp[shC]
  have yN:(cE.mul (z/cols.length)).val*cols.length=cE.val*z:=by
   rw[hm,Nat.mul_assoc,Nat.div_mul_cancel (aEG hz)]
  refine⟨by simp only[af.size,Sg.size,hlen,yN,kC],λj hj=> ?_⟩;rw[af.dY (by simp only[Sg.size,hlen,yN];exact hj),Sg.pR,kC];cases sh with
  |true=>exact aAq ..
  |false=>rw[he rfl,Tg,hI];rfl
 .cases h
theorem LS {sh:Bool}{cols:List cS}{e om:Nat}{cE:Sz}{z:Nat}{v:af}(h:rowsOf sh cols e om cE z=some v)(he:sh=false->e=0):
  af.size v=cE.val*z/\∀j,j<cE.val*z->af.get v j=je cols (e*cols.length+om+j):=by
 unfold rowsOf at h;split at h
 .rename_i n
  split at h
  .rename_i hc
   cases h;simp only[cq,beq_iff,fH] at hc;obtain⟨rfl,hle⟩:=hc;have hl:((cols.drop om).take z).length=z:=by simp;omega
   refine⟨by rw[(WI _ _ 0).1,hl];simp[Sz.val],λj hj=> ?_⟩;simp only[Sz.val,Vt] at hj
   have hg:((cols.drop om).take z)[j]? =some (cols[om+j]'(by omega)):=by
    rw[acd,if_pos hj,Te,kT]
   rw[(WI (λq:cS=>CV.f (q.at e)) _ j).2 _ hg];unfold je;rw[show e*cols.length+om+j=cols.length*e+(om+j) by rw[ach];omega,atv,Nat.mul_add_div (by omega),aym (by omega),Nat.div_eq_of_lt (by omega),kT (by omega)];rfl
  .exact aAr h he
 .exact aAr h he
theorem aam:∀{b v:af} {m:Nat},WD b m=some v->af.size v=m/\∀j,j<m->af.get v j=af.get b j
 | [],v,m,h=>by
  cases m with
  |zero=>simp[WD] at h;subst h;exact⟨rfl,λj hj=>by omega⟩
  |succ m=>simp[WD] at h
 |.c x::r,v,m,h=>by
  cases m with
  |zero=>simp[WD] at h;subst h;exact⟨rfl,λj hj=>by omega⟩
  |succ m=>
   simp only[WD,nj] at h;obtain⟨v',h1,rfl⟩:=h;obtain⟨e1,e2⟩:=aam h1;refine⟨by simp only[af.size,Sg.size,e1];omega,λj hj=> ?_⟩;cases j with
   |zero=>rfl
   |succ j=>rw[af.lH (by simp[Sg.size]),af.lH (by simp[Sg.size])];exact e2 _ (by simp[Sg.size];omega)
 |.a n cols::r,v,m,h=>by
  cases m with
  |zero=>simp[WD] at h;subst h;exact⟨rfl,λj hj=>by omega⟩
  |succ m=>
   simp only[WD] at h;split at h
   .cases h
   .rename_i n
    split at h
    .rename_i hle
     rw[fH] at hle;simp only[nj] at h;obtain⟨v',h1,rfl⟩:=h;obtain⟨e1,e2⟩:=aam h1;refine⟨by simp only[af.size,Sg.size,Sz.val,e1];omega,λj hj=> ?_⟩;by_cases mg:j<n*cols.length
     .rw[af.dY (by simpa[Sg.size,Sz.val] using mg),af.dY (by simpa[Sg.size,Sz.val] using mg)]
     .rw[af.lH (by simp[Sg.size,Sz.val];omega),af.lH (by simp[Sg.size,Sz.val];omega)];exact e2 _ (by simp[Sg.size,Sz.val];omega)
    .rename_i hle
     have hle:¬n*cols.length<=m+1:=λhc=>by rw[fH.2 hc] at hle;cases hle
     obtain⟨e1,e2⟩:=LS h (λ_=>rfl);simp only[Sz.val,Vt,Tg,hI] at e1 e2;refine⟨e1,λj hj=> ?_⟩;rw[e2 j hj,af.dY (by simp[Sg.size,Sz.val];omega)];rfl
theorem aJi {n:Nat}(h:nz n=false):n=0:=by cases n<;>first|rfl|cases h
theorem Vu (c l:Nat):c/l*l+c%l=c:=by rw[ach];exact Nat.div_add_mod c l
theorem ON:∀{b v:af} {c:Nat} {cE:Sz} {z:Nat},alM b c cE z=some v->af.size v=cE.val*z/\(c+cE.val*z<=af.size b->∀j,j<cE.val*z->af.get v j=af.get b (c+j))
 | [],v,c,cE,z,h=>by
  simp only[alM] at h;split at h
  .split at h
   .rename_i n hn
    rw[beq_iff] at hn;cases h;exact⟨by simp[af.size,Sz.val,hn],λ_ j hj=>by simp only[Sz.val] at hj;omega⟩
   .cases h
  .cases h
 |.c x::r,v,c,cE,z,h=>by
  cases c with
  |zero=>
   simp only[alM] at h;split at h
   .obtain⟨e1,e2⟩:=aam h;exact⟨e1,λ_ j hj=>by rw[hI];exact e2 j hj⟩
   .cases h
  |succ c=>
   simp only[alM] at h;obtain⟨e1,e2⟩:=ON h;refine⟨e1,λhle j hj=> ?_⟩;simp only[af.size,Sg.size] at hle;rw[e2 (by omega) j hj];exact af.kK (by omega) (by omega)
 |.a n cols::r,v,c,cE,z,h=>by
  simp only[alM] at h;split at h
  .obtain⟨e1,e2⟩:=LS h aJi;rw[Vu] at e2;refine⟨e1,λhle j hj=> ?_⟩;simp only[af.size,kC] at hle;rw[e2 j hj,af.dY (by omega),Sg.pR]
  .split at h
   .rename_i n m
    split at h
    .rename_i hle
     rw[fH] at hle;obtain⟨e1,e2⟩:=ON h;refine⟨e1,λaes j hj=> ?_⟩;rw[af.size_cons,Sg.ma] at aes;simp only[Sz.val] at aes;have e3:=e2 (by simp only[Sz.val];omega) j hj;rw[e3];exact af.rG (by omega) (by omega)
    .split at h
     .rename_i aes
      rw[fH] at aes;obtain⟨e1,e2⟩:=LS h aJi;rw[Vu] at e2;refine⟨e1,λ_ j hj=> ?_⟩;rw[e2 j hj,af.dY (by simp only[Sg.size,Sz.val] at hj ⊢;omega),Sg.pR]
     .split at h
      .obtain⟨e1,e2⟩:=aam h;exact⟨e1,λ_ j hj=>by rw[hI];exact e2 j hj⟩
      .cases h
   .cases h
theorem agF {c i z l:Nat}(h:z%l=0):elemOf c i z l*l+c%l=c+i*z:=by
 unfold elemOf;split
 .rename_i hz
  rw[beq_iff] at hz;subst hz;have hd:=Vu c z;cases hq:c/z with
  |zero=>
   rw[hq] at hd;simp only;omega
  |succ q=>
   rw[hq] at hd;simp only;rw[qV];omega
 .have hd:=Vu c l;have hz:=Nat.div_mul_cancel (aEG h);rw[qV,Nat.mul_assoc,hz];omega
theorem atB:∀{b:af} {v:af} {c i z:Nat} {cE:Sz} {y:Nat},aAl b c i z cE y=some (true,v)->af.size v=cE.val*y/\(c+i*z+cE.val*y<=af.size b->∀j,j<cE.val*y->af.get v j=af.get b (c+i*z+j))
 | [],v,c,i,z,cE,y,h=>by simp[aAl] at h
 |.c x::r,v,c,i,z,cE,y,h=>by
  cases c with
  |zero=>
   simp only[aAl,nj,rE,AK] at h;obtain⟨v',h1,rfl⟩:=h;have:=ON h1;simpa using this
  |succ c=>
   simp only[aAl] at h;obtain⟨e1,e2⟩:=atB h;refine⟨e1,λhle j hj=> ?_⟩;simp only[af.size,Sg.size] at hle;rw[e2 (by omega) j hj];exact af.kK (by omega) (by omega)
 |.a n cols::r,v,c,i,z,cE,y,h=>by
  simp only[aAl] at h;split at h
  .split at h
   .rename_i hz
    rw[beq_iff] at hz;simp only[nj,rE,AK] at h;obtain⟨v',h1,rfl⟩:=h;obtain⟨e1,e2⟩:=LS h1 (λh=>by cases h);rw[agF hz] at e2;refine⟨e1,λhle j hj=> ?_⟩;simp only[af.size,kC] at hle;rw[e2 j hj,af.dY (by omega),Sg.pR]
   .cases h
  .split at h
   .rename_i n
    split at h
    .rename_i hle
     rw[fH] at hle;obtain⟨e1,e2⟩:=atB h;refine⟨e1,λaes j hj=> ?_⟩;rw[af.size_cons,Sg.ma] at aes;simp only[Sz.val] at aes;have e3:=e2 (by simp only[Sz.val];omega) j hj;rw[e3];exact af.rG (by omega) (by omega)
    .split at h
     .rename_i hz
      rw[beq_iff] at hz;simp only[nj,rE] at h;obtain⟨v',h1,hg,rfl⟩:=h;rw[fH] at hg;obtain⟨e1,e2⟩:=LS h1 (λh=>by cases h);rw[agF hz] at e2;refine⟨e1,λ_ j hj=> ?_⟩;rw[e2 j hj,af.dY (by simp only[Sg.size,Sz.val];omega),Sg.pR]
     .cases h
   .cases h
theorem af.ayv {b v:af}{o:cD}{cE:Sz}{z:Nat}(h:b.sub o cE z=some (true,v)):af.size v=cE.val*z/\(o.val+cE.val*z<=af.size b->∀j,j<cE.val*z->af.get v j=af.get b (o.val+j)):=by
 cases o with
 |k c=>
  simp only[af.sub,nj,rE,AK] at h;obtain⟨v',h1,rfl⟩:=h;exact ON h1
 |x c i y=>exact atB h
theorem agG:∀{cols ec:List cS} {j e:Nat} {v:CV},agv cols j e v=some ec->ec.length=cols.length/\j<cols.length/\(∀k,k≠j->ec[k]? =cols[k]?)/\∃c c',cols[j]? =some c/\ec[j]? =some c'/\c.aTL e v=some c'
 | [],_,_,_,_,h=>by simp[agv] at h
 |c::cs,ec,0,e,v,h=>by
  simp only[agv,nj] at h;obtain⟨c',h1,rfl⟩:=h;refine⟨rfl,by simp,λk hk=> ?_,c,c',rfl,rfl,h1⟩;cases k with
  |zero=>omega
  |succ k=>rfl
 |c::cs,ec,j+1,e,v,h=>by
  simp only[agv,nj] at h;obtain⟨Th,h1,rfl⟩:=h;obtain⟨a1,a2,a3,c0,c1,a4,a5,a6⟩:=agG h1;refine⟨by simp[a1],by simp;omega,λk hk=> ?_,c0,c1,by simpa using a4,by simpa using a5,a6⟩;cases k with
  |zero=>rfl
  |succ k=>simpa using a3 k (by omega)
theorem aLg {cols ec:List cS}{j e:Nat}{v:CV}(h:agv cols j e v=some ec)(J:Nat):je ec J=if J=e*cols.length+j then v else je cols J:=by
 obtain⟨a1,a2,a3,c,c',a4,a5,a6⟩:=agG h;have aEZ:0<cols.length:=by omega
 unfold je;rw[a1];by_cases hm:J%cols.length=j
 .rw[hm,a4,a5];simp only[cS.aYE a6];have hd:=Vu J cols.length;rw[hm] at hd;by_cases he:J/cols.length=e
  .rw[if_pos he,if_pos (by rw[<-he];omega)]
  .rw[if_neg he,if_neg λhJ=>he (by rw[hJ,ach,Nat.mul_add_div aEZ,Nat.div_eq_of_lt a2,kC])]
 .rw[a3 _ hm,if_neg λhJ=>hm (by rw[hJ,ach,atv,aym a2])]
theorem LU:∀{b:af} {cols ec:List cS} {e om:Nat},DT cols.length cols e om b=some ec->ec.length=cols.length/\
  ∀J,je ec J=if e*cols.length+om<=J/\J<e*cols.length+om+af.size b then af.get b (J-(e*cols.length+om)) else je cols J
 | [],cols,ec,e,om,h=>by
  simp only[DT,j9] at h;subst h;exact⟨rfl,λJ=>by rw[if_neg (by rw[af.lX];omega)]⟩
 |.a _ _::_,cols,ec,e,om,h=>by simp[DT] at h
 |.c v::r,cols,ec,e,om,h=>by
  simp only[DT] at h;split at h
  .rename_i a2z h1
   have hr:=aLg h1;obtain⟨a1,a2,_⟩:=agG h1
   have key:∀e' aYF,e'*cols.length+aYF=e*cols.length+(om+1)->DT cols.length a2z e' aYF r=some ec->ec.length=cols.length/\
     ∀J,je ec J=if e*cols.length+om<=J/\J<e*cols.length+om+af.size (.c v::r) then af.get (.c v::r) (J-(e*cols.length+om)) else je cols J:=λe' aYF he h2=>by
    rw[<-a1] at h2;obtain⟨b1,b2⟩:=LU h2;rw[a1] at b2;refine⟨b1.trans a1,λJ=> ?_⟩;rw[b2,he,hr];have hs:af.size (.c v::r)=1+af.size r:=rfl;by_cases c1:J=e*cols.length+om
    .subst c1;rw[if_neg (by omega),if_pos rfl,if_pos (by rw[hs];omega),Nat.sub_self];rfl
    .by_cases c2:e*cols.length+(om+1)<=J/\J<e*cols.length+(om+1)+af.size r
     .rw[if_pos c2,if_pos (by rw[hs];omega)];exact af.kK (by omega) (by omega)
     .rw[if_neg c2,if_neg c1,if_neg (by rw[hs];omega)]
   split at h
   .rename_i hc
    rw[beq_iff] at hc;refine key (e+1) 0 ?_ h;rw[qV,hc];omega
   .exact key e (om+1) rfl h
  .cases h
theorem atC {v:af}{cols ec:List cS}{e om:Nat}(h:aEM cols e om v=some ec):ec.length=cols.length/\
  ∀J,je ec J=if e*cols.length+om<=J/\J<e*cols.length+om+af.size v then af.get v (J-(e*cols.length+om)) else je cols J:=by
 unfold aEM at h;split at h
 .rename_i m ds
  split at h
  .rename_i hc
   simp only[cq,beq_iff] at hc;obtain⟨rfl,hl⟩:=hc;obtain⟨a1,a2,_⟩:=agD h;rw[ags] at a1 a2;refine⟨by omega,λJ=> ?_⟩;have hs:af.size [.a m ds]=m.val*cols.length:=by rw[af.size_cons,Sg.ma,af.lX,hl,kC]
   have hm:=aEY h J;rw[ags,<-hl] at hm;rw[hm];clear hm
   by_cases hz:cols.length=0
   .have h1:cols=[]:=aK5.1 hz;have h2:ds=[]:=aK5.1 (hl.symm.trans hz);subst h1 h2;rw[if_neg (show ¬(e*([]:List cS).length+0<=J/\J<e*([]:List cS).length+0+af.size [.a m []]) by rw[hs];simp)];exact ite_self _
   .have hd:=Vu J cols.length;have hm:=Nat.mod_lt J (show cols.length>0 by omega);by_cases hp:e<=J/cols.length/\J/cols.length<e+m.val
    .have e1:e*cols.length<=J:=by
      have:=wL cols.length hp.1;omega
     have e2:J<e*cols.length+m.val*cols.length:=by
      have:=wL cols.length (show J/cols.length+1<=e+m.val by omega);rw[qV,qV] at this;omega
     rw[if_pos (by simp only[cq,fH,uM];exact hp),if_pos (show e*cols.length+0<=J/\J<e*cols.length+0+af.size [.a m ds] by rw[hs];exact⟨e1,e2⟩),aOc _ _ _ (by rw[<-hl];exact e1),kC,af.dY (by rw[Sg.ma,<-hl];omega),Sg.pR,<-hl]
    .rw[if_neg (by simp only[cq,fH,uM];exact hp),if_neg (by
      rw[hs];rintro ⟨e1,e2⟩
      apply hp
      constructor
      .exact(Nat.le_div_iff_mul_le (by omega)).2 e1
      .refine(ayi (by omega)).2 ?_;rw[qV];exact e2)]
  .cases h
 .exact LU h
theorem aE0:∀{b v b':af},fj b v=some b'->af.size b'=af.size b/\∀j,af.get b' j=if j<af.size v then af.get v j else af.get b j:=by
 intro b v;induction b generalizing v with
 |nil=>
  intro b' h;cases v with
  |nil=>simp only[fj,j9] at h;subst h;exact⟨rfl,λj=>by rw[if_neg (by simp[af.size])]⟩
  |cons y vs=>cases y<;>simp[fj] at h
 |cons x r ih=>
  intro b' h;cases v with
  |nil=>simp only[fj,j9] at h;subst h;exact⟨rfl,λj=>by rw[if_neg (by simp[af.size])]⟩
  |cons y vs=>
   unfold fj at h;split at h
   .rename_i e;cases e
   .rename_i aYG aYH
    cases aYG;cases aYH
    simp only[nj] at h;obtain⟨r',h1,rfl⟩:=h;obtain⟨e1,e2⟩:=ih h1;refine⟨by simp only[af.size,e1,Sg.size],λj=> ?_⟩;cases j with
    |zero=>rw[if_pos (by simp only[af.size,Sg.size];omega)];rfl
    |succ j=>
     rw[<-af.kK (l:=r') (j':=j) (by omega) (by omega),<-af.kK (l:=vs) (j':=j) (by omega) (by omega),<-af.kK (l:=r) (j':=j) (by omega) (by omega),e2];by_cases hj:j<af.size vs
     .rw[if_pos hj,if_pos (by rw[af.size_cons,Sg.kI];omega)]
     .rw[if_neg hj,if_neg (by rw[af.size_cons,Sg.kI];omega)]
   .rename_i n cols _ m ec _ aYG aYH
    cases aYG;cases aYH
    split at h
    .rename_i hc
     simp only[cq,beq_iff] at hc;obtain⟨rfl,hl⟩:=hc;simp only[nj] at h;obtain⟨r',h1,rfl⟩:=h;obtain⟨e1,e2⟩:=ih h1;refine⟨by simp only[af.size,e1,Sg.size,hl],λj=> ?_⟩;have hs:af.size (.a (.l n) ec::vs)=n*ec.length+af.size vs:=rfl;by_cases hj:j<n*ec.length
     .rw[af.dY (by simpa[Sg.size,Sz.val] using hj),if_pos (by rw[hs];omega),af.dY (by simpa[Sg.size,Sz.val] using hj)]
     .rw[<-af.rG (l:=r') (j':=j-n*ec.length) (by omega) (by omega),<-af.rG (l:=vs) (j':=j-n*ec.length) (by omega) (by omega),<-af.rG (l:=r) (j':=j-n*ec.length) (by rw[hl];omega) (by rw[hl]),e2];by_cases mg:j-n*ec.length<af.size vs
      .rw[if_pos mg,if_pos (by rw[hs];omega)]
      .rw[if_neg mg,if_neg (by rw[hs];omega)]
    .cases h
   .cases h
theorem aAs {n:Sz}{cols:List cS}{v:af}(h:aK9 n cols v=true):af.size v=(Sg.a n cols).size:=by
 unfold aK9 at h;split at h
 .simp only[cq,beq_iff] at h;obtain⟨rfl,hl⟩:=h;simp[af.size,Sg.size,hl]
 .cases h
theorem OO:∀{b b':af} {c:Nat} {v:af},alN b c v=some b'->af.size b'=af.size b/\∀j,j<af.size b->af.get b' j=if c<=j/\j<c+af.size v then af.get v (j-c) else af.get b j
 | [],b',c,v,h=>by
  simp only[alN] at h;split at h
  .cases h;exact⟨rfl,λj hj=>by simp[af.size] at hj⟩
  .cases h
 |.c x::r,b',c,v,h=>by
  cases c with
  |zero=>
   simp only[alN] at h;obtain⟨e1,e2⟩:=aE0 h;refine⟨e1,λj _=> ?_⟩;rw[e2];by_cases hj:j<af.size v
   .rw[if_pos hj,if_pos (by omega)];rfl
   .rw[if_neg hj,if_neg (by omega)]
  |succ c=>
   simp only[alN,nj] at h;obtain⟨r',h1,rfl⟩:=h;obtain⟨e1,e2⟩:=OO h1;refine⟨by simp only[af.size,e1],λj hj=> ?_⟩;rw[af.size_cons,Sg.kI] at hj;cases j with
   |zero=>rw[if_neg (by omega)];rfl
   |succ j=>
    rw[<-af.kK (l:=r') (j':=j) (by omega) (by omega),<-af.kK (l:=r) (j':=j) (by omega) (by omega),e2 j (by omega)];by_cases hc:c<=j/\j<c+af.size v
    .rw[if_pos hc,if_pos (by omega)];congr 1;omega
    .rw[if_neg hc,if_neg (by omega)]
 |.a n cols::r,b',c,v,h=>by
  have put:∀{ec},aEM cols (c/cols.length) (c%cols.length) v=some ec->ec.length=cols.length/\∀J,je ec J=if c<=J/\J<c+af.size v then af.get v (J-c) else je cols J:=λh=>by
   have:=atC h;rw[Vu] at this;exact this
  simp only[alN] at h;split at h
  .split at h
   .rename_i hc
    cases h;simp only[cq,beq_iff] at hc;obtain⟨rfl,hs⟩:=hc;have hs:=aAs hs;refine⟨by simp only[af.size,kC,hs],λj hj=> ?_⟩;simp only[af.size,kC] at hj;rw[if_pos (by omega),Nat.sub_zero]
   .simp only[nj] at h;obtain⟨ec,h1,rfl⟩:=h;obtain⟨e1,e2⟩:=put h1;refine⟨by simp only[af.size,Sg.size,e1],λj hj=> ?_⟩;simp only[af.size,kC] at hj;rw[af.dY (by simp only[Sg.size,e1];exact hj),af.dY hj,Sg.pR,Sg.pR,e2]
  .split at h
   .cases h
   .rename_i n
    split at h
    .rename_i hle
     rw[fH] at hle;simp only[nj] at h;obtain⟨r',h1,rfl⟩:=h;obtain⟨e1,e2⟩:=OO h1;refine⟨by rw[af.size_cons,af.size_cons,e1],λj hj=> ?_⟩;rw[af.size_cons,Sg.ma] at hj;simp only[Sz.val] at hj;by_cases mg:j<n*cols.length
     .rw[af.dY (by simpa[Sg.size,Sz.val] using mg),af.dY (by simpa[Sg.size,Sz.val] using mg),if_neg (by omega)]
     .rw[<-af.rG (l:=r') (j':=j-n*cols.length) (by omega) rfl,<-af.rG (n:=n) (cols:=cols) (j':=j-n*cols.length) (by omega) rfl,e2 _ (by omega)];by_cases hc:c<=j/\j<c+af.size v
      .rw[if_pos hc,if_pos (by omega)];congr 1;omega
      .rw[if_neg hc,if_neg (by omega)]
    .split at h
     .rename_i hc
      cases h;simp only[cq,beq_iff] at hc;obtain⟨rfl,hs⟩:=hc;have hs:=aAs hs;refine⟨by rw[af.size_append,hs];rfl,λj hj=> ?_⟩;rw[af.get_append,hs];by_cases mg:j<(Sg.a (.l n) cols).size
      .rw[if_pos mg,if_pos (by omega),Nat.sub_zero]
      .rw[if_neg mg,if_neg (by omega)];exact af.rG (Nat.le_of_not_lt mg) rfl
     .split at h
      .rename_i aes
       rw[fH] at aes;simp only[nj] at h;obtain⟨ec,h1,rfl⟩:=h;obtain⟨e1,e2⟩:=put h1;refine⟨by simp only[af.size,Sg.size,e1],λj hj=> ?_⟩;by_cases mg:j<n*cols.length
       .rw[af.dY (by simpa[Sg.size,Sz.val,e1] using mg),af.dY (by simpa[Sg.size,Sz.val] using mg),Sg.pR,Sg.pR,e2]
       .rw[if_neg (by omega),<-af.rG (cols:=ec) (j':=j-n*cols.length) (by rw[e1];omega) (by rw[e1]),<-af.rG (n:=n) (cols:=cols) (j':=j-n*cols.length) (by omega) rfl]
      .split at h
       .obtain⟨e1,e2⟩:=aE0 h;refine⟨e1,λj _=> ?_⟩;rw[e2];by_cases hj:j<af.size v
        .rw[if_pos hj,if_pos (by omega)];rfl
        .rw[if_neg hj,if_neg (by omega)]
       .cases h
theorem atD:∀{b b':af} {c i z:Nat} {v:af},aAm b c i z v=some (true,b')->af.size b'=af.size b/\∀j,j<af.size b->af.get b' j=if c+i*z<=j/\j<c+i*z+af.size v then af.get v (j-(c+i*z)) else af.get b j
 | [],b',c,i,z,v,h=>by simp[aAm] at h
 |.c x::r,b',c,i,z,v,h=>by
  cases c with
  |zero=>
   simp only[aAm,nj,rE,AK] at h;obtain⟨v',h1,rfl⟩:=h;simpa using OO h1
  |succ c=>
   simp only[aAm,nj,rE] at h;obtain⟨⟨g,r'⟩,h1,hg,rfl⟩:=h;simp only at hg;subst hg;obtain⟨e1,e2⟩:=atD h1;refine⟨by simp only[af.size,e1],λj hj=> ?_⟩;rw[af.size_cons,Sg.kI] at hj;cases j with
   |zero=>rw[if_neg (by omega)];rfl
   |succ j=>
    rw[<-af.kK (l:=r') (j':=j) (by omega) (by omega),<-af.kK (l:=r) (j':=j) (by omega) (by omega),e2 j (by omega)];by_cases hc:c+i*z<=j/\j<c+i*z+af.size v
    .rw[if_pos hc,if_pos (by omega)];congr 1;omega
    .rw[if_neg hc,if_neg (by omega)]
 |.a n cols::r,b',c,i,z,v,h=>by
  simp only[aAm] at h;split at h
  .split at h
   .rename_i hz
    rw[beq_iff] at hz;simp only[nj,rE,AK] at h;obtain⟨ec,h1,rfl⟩:=h;have e:=atC h1;rw[agF hz] at e;obtain⟨e1,e2⟩:=e;refine⟨by simp only[af.size,Sg.size,e1],λj hj=> ?_⟩;simp only[af.size,kC] at hj;rw[af.dY (by simp only[Sg.size,e1];exact hj),af.dY hj,Sg.pR,Sg.pR,e2]
   .cases h
  .split at h
   .rename_i n
    split at h
    .rename_i hle
     rw[fH] at hle;simp only[nj,rE] at h;obtain⟨⟨g,r'⟩,h1,hg,rfl⟩:=h;simp only at hg;subst hg;obtain⟨e1,e2⟩:=atD h1;refine⟨by rw[af.size_cons,af.size_cons,e1],λj hj=> ?_⟩;rw[af.size_cons,Sg.ma] at hj;simp only[Sz.val] at hj;by_cases mg:j<n*cols.length
     .rw[af.dY (by simpa[Sg.size,Sz.val] using mg),af.dY (by simpa[Sg.size,Sz.val] using mg),if_neg (by omega)]
     .rw[<-af.rG (l:=r') (j':=j-n*cols.length) (by omega) rfl,<-af.rG (n:=n) (cols:=cols) (j':=j-n*cols.length) (by omega) rfl,e2 _ (by omega)];by_cases hc:c+i*z<=j/\j<c+i*z+af.size v
      .rw[if_pos hc,if_pos (by omega)];congr 1;omega
      .rw[if_neg hc,if_neg (by omega)]
    .split at h
     .rename_i hz
      rw[beq_iff] at hz;simp only[nj,rE] at h;obtain⟨ec,h1,hg,rfl⟩:=h;rw[fH] at hg;have e:=atC h1;rw[agF hz] at e;obtain⟨e1,e2⟩:=e;rw[e1] at hg;refine⟨by simp only[af.size,Sg.size,e1],λj hj=> ?_⟩;by_cases mg:j<n*cols.length
      .rw[af.dY (by simpa[Sg.size,Sz.val,e1] using mg),af.dY (by simpa[Sg.size,Sz.val] using mg),Sg.pR,Sg.pR,e2]
      .rw[if_neg (by omega),<-af.rG (cols:=ec) (j':=j-n*cols.length) (by rw[e1];omega) (by rw[e1]),<-af.rG (n:=n) (cols:=cols) (j':=j-n*cols.length) (by omega) rfl]
     .cases h
   .cases h
theorem af.aUz {b b' v:af}{o:cD}(h:b.AJ o v=some (true,b')):af.size b'=af.size b/\∀j,j<af.size b->af.get b' j=if o.val<=j/\j<o.val+af.size v then af.get v (j-o.val) else af.get b j:=by
 cases o with
 |k c=>
  simp only[af.AJ,nj,rE,AK] at h;obtain⟨v',h1,rfl⟩:=h;exact OO h1
 |x c i y=>exact atD h
theorem QG:∀{b:af},WE b=true->af.size b=b.length
 | [],_=>rfl
 |.c v::r,h=>by
  have:=QG (b:=r) h;rw[af.size_cons,Sg.kI,this,LN];omega
 |.a _ _::_,h=>by cases h
theorem avy (cols:List cS):∀l:List Nat,WE (agw cols l)=true/\(agw cols l).length=l.length/\∀i j,l[i]? =some j->af.get (agw cols l) i=je cols j
 | []=>⟨rfl,rfl,λi j h=>by simp at h⟩
 |k::l=>by
  obtain⟨h1,h2,h3⟩:=avy cols l;refine⟨h1,by simp[agw,h2],λi j h=> ?_⟩;cases i with
  |zero=>
   simp only[aEF,j9] at h;subst h;rfl
  |succ i=>exact(af.lH (s:=.c _) (by rw[Sg.kI];omega)).trans (h3 i j (by simpa using h))
theorem yO:∀b:af,af.size (uv b)=af.size b/\∀j,j<af.size b->af.get (uv b) j=af.get b j
 | []=>⟨rfl,λ_ _=>rfl⟩
 |.c v::r=>by
  obtain⟨h1,h2⟩:=yO r;refine⟨by rw[uv,af.size_cons,af.size_cons,h1],λj hj=> ?_⟩;rw[af.size_cons,Sg.kI] at hj;cases j with
  |zero=>rfl
  |succ j=>
   rw[uv,af.lH (by rw[Sg.kI];omega),af.lH (by rw[Sg.kI];omega)];exact h2 _ (by rw[Sg.kI];omega)
 |.a (.s n) cols::r=>by
  obtain⟨h1,h2⟩:=yO r;refine⟨by rw[uv,af.size_cons,af.size_cons,h1],λj hj=> ?_⟩;rw[af.size_cons] at hj;rw[uv];by_cases mg:j<(Sg.a (.s n) cols).size
  .rw[af.dY mg,af.dY mg]
  .rw[af.lH (by omega),af.lH (by omega)];exact h2 _ (by omega)
 |.a (.l n) cols::r=>by
  obtain⟨h1,h2⟩:=yO r;obtain⟨c1,c2,c3⟩:=avy cols (List.range (n*cols.length));have hs:af.size (agw cols (List.range (n*cols.length)))=n*cols.length:=by rw[QG c1,c2,List.length_range]
  have WJ:(Sg.a (.l n) cols).size=n*cols.length:=rfl;refine⟨by rw[uv,af.size_append,af.size_cons,h1,hs,WJ],λj hj=> ?_⟩;rw[af.size_cons,WJ] at hj;rw[uv,af.get_append,hs];by_cases mg:j<n*cols.length
  .rw[if_pos mg,af.dY (by rw[WJ];exact mg),Sg.pR];exact c3 j j (by simp[mg])
  .rw[if_neg mg,af.lH (by rw[WJ];omega),WJ];exact h2 _ (by omega)
theorem LV (n m:Sz):(n.add m).val=n.val+m.val:=by cases n<;>cases m<;>rfl
theorem aSc {n:Sz}{cols:List cS}{b c:af}(h:aN1 n cols b=some c):af.size c=af.size [.a n cols]+af.size b/\
  ∀j,j<af.size [.a n cols]+af.size b->af.get c j=if j<af.size [.a n cols] then af.get [.a n cols] j else af.get b (j-af.size [.a n cols]):=by
 have h0:af.size [.a n cols]=n.val*cols.length:=by rw[af.size_cons,af.lX,Sg.ma,kC]
 unfold aN1 at h;split at h
 .rename_i hc
  simp only[cq,beq_iff,fH] at hc;obtain⟨Ej,aEZ,aYI⟩:=hc;simp only[nj] at h;obtain⟨es,h1,rfl⟩:=h;obtain⟨a1,a2⟩:=LU h1;have hbs:=QG Ej;have hq:(b.length/cols.length)*cols.length=b.length:=Nat.div_mul_cancel (aEG aYI)
  have hr:(n.add (.l (b.length/cols.length))).val*es.length=n.val*cols.length+b.length:=by
   rw[LV,a1,qV,Sz.val,hq]
  refine⟨by rw[h0,hbs,af.size_cons,af.lX,Sg.ma,kC,hr],λj hj=> ?_⟩;rw[h0] at hj;rw[af.dY (by rw[Sg.ma,hr];omega),Sg.pR,a2,kC];by_cases mg:j<n.val*cols.length
  .rw[if_neg (by omega),if_pos (show j<af.size [.a n cols] by rw[h0];exact mg),af.dY (by rw[Sg.ma];exact mg),Sg.pR]
  .rw[if_pos (by omega),if_neg (show ¬j<af.size [.a n cols] by rw[h0];exact mg),h0]
 .cases h
theorem aE1 {n:Sz}{cols:List cS}{b c:af}(h:aTM n cols b=some c):af.size c=af.size [.a n cols]+af.size b/\
  ∀j,j<af.size [.a n cols]+af.size b->af.get c j=if j<af.size [.a n cols] then af.get [.a n cols] j else af.get b (j-af.size [.a n cols]):=by
 have h0:af.size [.a n cols]=n.val*cols.length:=by rw[af.size_cons,af.lX,Sg.ma,kC]
 have two:aN1 n cols (uv b)=some c->af.size c=af.size [.a n cols]+af.size b/\
  ∀j,j<af.size [.a n cols]+af.size b->af.get c j=if j<af.size [.a n cols] then af.get [.a n cols] j else af.get b (j-af.size [.a n cols]):=λh=>by
  obtain⟨e1,e2⟩:=aSc h;obtain⟨f1,f2⟩:=yO b;rw[f1] at e1 e2;refine⟨e1,λj hj=> ?_⟩;rw[e2 j hj];by_cases mg:j<af.size [.a n cols]
  .rw[if_pos mg,if_pos mg]
  .rw[if_neg mg,if_neg mg,f2 _ (by omega)]
 unfold aTM at h;split at h
 .rename_i m ec
  split at h
  .rename_i hc
   simp only[cq,beq_iff,fH] at hc;obtain⟨hl,aEZ⟩:=hc;simp only[nj] at h;obtain⟨es,h1,rfl⟩:=h;obtain⟨a1,_,_⟩:=agD h1;have hb:af.size [.a m ec]=m.val*cols.length:=by rw[af.size_cons,af.lX,Sg.ma,kC,hl]
   have hr:af.size [.a (n.add m) es]=n.val*cols.length+m.val*cols.length:=by
    rw[af.size_cons,af.lX,Sg.ma,kC,LV,a1,qV]
   refine⟨by rw[hr,h0,hb],λj hj=> ?_⟩;rw[h0,hb] at hj;have hm:=aEY h1 j
   have e1:af.get [.a (n.add m) es] j=je es j:=by
    rw[af.dY (by rw[Sg.ma,LV,a1,qV];exact hj),Sg.pR]
   rw[e1,hm];by_cases mg:j<n.val*cols.length
   .rw[if_pos (by rw[uM];exact(ayi (by omega)).2 mg),if_pos (show j<af.size [.a n cols] by rw[h0];exact mg),af.dY (by rw[Sg.ma];exact mg),Sg.pR]
   .rw[if_neg (by rw[uM];exact λhh=>mg ((ayi (by omega)).1 hh)),if_neg (show ¬j<af.size [.a n cols] by rw[h0];exact mg),aOc _ _ _ (by rw[<-hl];omega),h0,af.dY (by rw[Sg.ma,<-hl];omega),Sg.pR,<-hl]
  .exact two h
 .exact two h
theorem alU:∀{z:Nat} {b:af} {cols:List cS},EB z b=some cols->cols.length=z
 |0,b,cols,h=>by simp only[EB,j9] at h;subst h;rfl
 |z+1,[],cols,h=>by simp[EB] at h
 |z+1,.a _ _::_,cols,h=>by simp[EB] at h
 |z+1,.c v::r,cols,h=>by
  cases v<;>simp only[EB] at h<;>first|(cases h;done)|skip
  split at h
  .rename_i h1 h2
   cases h;simp[alU h2]
  .cases h
theorem alV {z:Nat}{b r:af}(h:rowOf z b=some r):af.size r=af.size b/\(∀j,j<af.size b->af.get r j=af.get b j):=by
 unfold rowOf at h;split at h
 .rename_i hc
  simp only[cq,beq_iff,fH] at hc;obtain⟨Ej,aEZ,aYI⟩:=hc;split at h
  .rename_i cols h1
   simp only[nj] at h;obtain⟨es,h2,rfl⟩:=h;have hl:=alU h1;subst hl;obtain⟨a1,a2⟩:=LU h2;have hbs:=QG Ej;have hq:(b.length/cols.length)*cols.length=b.length:=Nat.div_mul_cancel (aEG aYI);refine⟨by rw[af.size_cons,af.lX,Sg.ma,kC,a1,Sz.val,hq,hbs],λj hj=> ?_⟩;rw[af.dY (by rw[Sg.ma,a1,Sz.val,hq];omega),Sg.pR,a2,if_pos (by omega)];congr 1;omega
  .cases h
 .cases h
theorem af.aUA {a b c:af}(h:a.app b=some c):af.size c=af.size a+af.size b/\
  ∀j,j<af.size a+af.size b->af.get c j=if j<af.size a then af.get a j else af.get b (j-af.size a):=by
 unfold af.app at h;split at h
 .cases h;refine⟨by rw[af.lX,hI],λj hj=>by rw[if_neg (by rw[af.lX];omega),af.lX,Nat.sub_zero]⟩
 .cases h;refine⟨by rw[af.lX,kC],λj hj=> ?_⟩;rw[af.lX,kC] at hj;rw[if_pos hj]
 .exact aE1 h
 .split at h
  .rename_i h1
   obtain⟨e1,e2⟩:=alV h1;rw[(yO _).1] at e1 e2;have e2:=λj hj=>(e2 j hj).trans ((yO _).2 j hj)
   obtain⟨f1,f2⟩:=aE1 h;refine⟨by rw[f1,e1],λj hj=> ?_⟩;rw[f2 j (by rw[e1];exact hj)];by_cases mg:j<af.size a
   .rw[if_pos (by rw[e1];exact mg),if_pos mg,e2 j mg]
   .rw[if_neg (by rw[e1];exact mg),if_neg mg,e1]
  .cases h
 .split at h
  .cases h;exact⟨af.size_append _ _,λj _=>af.get_append _ _ _⟩
  .cases h
theorem aan (z:Nat)(b:af):af.size (atx z b)=af.size b/\∀j,j<af.size b->af.get (atx z b) j=af.get b j:=by
 have key:∀{r},rowOf z (uv b)=some r->af.size r=af.size b/\∀j,j<af.size b->af.get r j=af.get b j:=λh=>by
  obtain⟨e1,e2⟩:=alV h;obtain⟨g1,g2⟩:=yO b;rw[g1] at e1 e2;exact⟨e1,λj hj=>(e2 j hj).trans (g2 j hj)⟩
 unfold atx;split
 .exact⟨rfl,λ_ _=>rfl⟩
 .split
  .exact⟨rfl,λ_ _=>rfl⟩
  .split
   .rename_i h;exact key h
   .exact⟨rfl,λ_ _=>rfl⟩
 .split
  .rename_i h;exact key h
  .exact⟨rfl,λ_ _=>rfl⟩
theorem alW:∀{tm:List Tm} {b r:af},agy tm b=some r->af.size r=af.size b/\∀j,j<af.size b->af.get r j=af.get b j
 | [],[],r,h=>by cases h;exact⟨rfl,λ_ _=>rfl⟩
 | [],_::_,r,h=>by simp[agy] at h
 |.c::tm,[],r,h=>by simp[agy] at h
 |.c::tm,.a _ _::_,r,h=>by simp[agy] at h
 |.c::tm,.c v::b,r,h=>by
  simp only[agy,nj] at h;obtain⟨r',h1,rfl⟩:=h;obtain⟨e1,e2⟩:=alW h1;refine⟨by rw[af.size_cons,af.size_cons,e1],λj hj=> ?_⟩;rw[af.size_cons,Sg.kI] at hj;cases j with
  |zero=>rfl
  |succ j=>
   rw[af.lH (by rw[Sg.kI];omega),af.lH (by rw[Sg.kI];omega)];exact e2 _ (by rw[Sg.kI];omega)
 |.a n z::tm,b,r,h=>by
  simp only[agy] at h;split at h
  .split at h
   .rename_i row h1
    simp only[nj] at h;obtain⟨r',h2,rfl⟩:=h;obtain⟨e1,e2⟩:=alV h1;obtain⟨f1,f2⟩:=alW h2;have hb:af.size b=af.size (b.take (n*z))+af.size (b.drop (n*z)):=by rw[<-af.size_append,List.take_append_drop]
    have hg:∀j,af.get b j=if j<af.size (b.take (n*z)) then af.get (b.take (n*z)) j else af.get (b.drop (n*z)) (j-af.size (b.take (n*z))):=λj=>by rw[<-af.get_append,List.take_append_drop]
    refine⟨by rw[af.size_append,e1,f1,hb],λj hj=> ?_⟩;rw[af.get_append,hg,e1];by_cases mg:j<af.size (b.take (n*z))
    .rw[if_pos mg,if_pos mg,e2 j mg]
    .rw[if_neg mg,if_neg mg,f2 _ (by omega)]
   .cases h
  .cases h
theorem aSd (P:Program)(t:TypeId)(l:af):af.size (norm P t l)=af.size l/\∀j,j<af.size l->af.get (norm P t l) j=af.get l j:=by
 unfold norm;split
 .split
  .rename_i h;exact alW h
  .exact⟨rfl,λ_ _=>rfl⟩
 .split
  .exact⟨rfl,λ_ _=>rfl⟩
  .split
   .exact yO l
   .exact⟨rfl,λ_ _=>rfl⟩
theorem ayw (b:af):af.size (toS b)=af.size b/\∀j,af.get (toS b) j=af.get b j:=by
 unfold toS;split
 .exact⟨rfl,λ_=>rfl⟩
 .exact⟨rfl,λ_=>rfl⟩
theorem JP (f:CV->CV)(b:af):af.size (K1 f b)=af.size b:=by
 induction b with
 |nil=>rfl
 |cons s r ih=>cases s<;>simp only[K1,af.size_cons,ih]<;>rfl
theorem aDX (cols:List cS)(j:Nat):∃x,je cols j=.f x:=by
 unfold je;split<;>exact⟨_,rfl⟩
theorem ayx {f:CV->CV}(hf:∀x,f (.f x)=.f x)(b:af)(j:Nat)(hj:j<af.size b):af.get (K1 f b) j=f (af.get b j):=by
 induction b generalizing j with
 |nil=>rw[af.lX] at hj;omega
 |cons s r ih=>
  rw[af.size_cons] at hj;cases s with
  |c v=>
   cases j with
   |zero=>rfl
   |succ j=>
    rw[K1,<-af.kK (l:=K1 f r) (j':=j) (by omega) (by omega),<-af.kK (l:=r) (j':=j) (by omega) (by omega)];exact ih j (by rw[Sg.kI] at hj;omega)
  |a n cols=>
   rw[K1];by_cases h:j<(Sg.a n cols).size
   .rw[af.dY h,af.dY h,Sg.pR];obtain⟨x,hx⟩:=aDX cols j;rw[hx,hf]
   .rw[af.lH (by omega),af.lH (by omega)];exact ih _ (by omega)
theorem FV.aYJ {x y:FV}(h:x.same y=true):x=y:=by
 unfold FV.same at h;split at h
 .rw[eq_of_beq h]
 .simp only[cq,mf] at h;rw[h.1,eq_of_beq h.2]
 .cases h
theorem aSe {v:FV}{c:cS}(h:aLa v=some c)(j:Nat):c.at j=v:=by
 cases v<;>simp only[aLa] at h<;>cases h<;>rfl
theorem agH:∀{z:Nat} {b:af} {cols:List cS},EB z b=some cols->∀i,i<z->∃c v,cols[i]? =some c/\b[i]? =some (.c (.f v))/\∀j,c.at j=v
 |0,b,cols,_,i,h=>by omega
 |z+1,[],cols,h,_,_=>by simp[EB] at h
 |z+1,.a _ _::_,cols,h,_,_=>by simp[EB] at h
 |z+1,.c v::r,cols,h,i,hi=>by
  cases v<;>simp only[EB] at h<;>first|(cases h;done)|skip
  split at h
  .rename_i c cs h1 h2
   cases h;cases i with
   |zero=>exact⟨c,_,rfl,rfl,aSe h1⟩
   |succ i=>simpa using agH h2 i (by omega)
  .cases h
theorem aq0 {z:Nat}{row:af}:∀{m:Nat} {b r:af},WG z row m b=some r->af.size b=m+af.size r/\(∀j,j<m->∃v,row[(m-1-j)%z]? =some (.c (.f v))/\af.get b j=.f v)/\∀j,af.get b (m+j)=af.get r j
 |0,b,r,h=>by
  simp only[WG,j9] at h;subst h;exact⟨by omega,λj hj=>by omega,λj=>by rw[hI]⟩
 |m+1,[],r,h=>by simp[WG] at h
 |m+1,.a _ _::_,r,h=>by simp[WG] at h
 |m+1,.c v::q,r,h=>by
  cases v<;>simp only[WG] at h<;>first|(cases h;done)|skip
  rename_i v
  split at h
  .rename_i y hy
   split at h
   .rename_i hs
    have hs:=FV.aYJ hs;subst hs;obtain⟨e1,e2,e3⟩:=aq0 h;refine⟨by rw[af.size_cons,Sg.kI,e1];omega,λj hj=> ?_,λj=> ?_⟩
    .cases j with
     |zero=>exact⟨v,by simpa using hy,rfl⟩
     |succ j=>
      obtain⟨v',h1,h2⟩:=e2 j (by omega);refine⟨v',by rw[show m+1-1-(j+1)=m-1-j by omega];exact h1,?_⟩;rw[<-af.kK (l:=q) (j':=j) (by omega) (by omega)];exact h2
    .rw[<-af.kK (l:=q) (j':=m+j) (by omega) (by omega)];exact e3 j
   .cases h
  .cases h
theorem alX:∀{tm:List Tm} {b r:af},aci tm b=some r->af.size r=af.size b/\∀j,af.get r j=af.get b j
 | [],[],r,h=>by simp only[aci,j9] at h;subst h;exact⟨rfl,λ_=>rfl⟩
 | [],_::_,r,h=>by simp[aci] at h
 |.c::tm,[],r,h=>by simp[aci] at h
 |.c::tm,.a _ _::_,r,h=>by simp[aci] at h
 |.c::tm,.c v::q,r,h=>by
  simp only[aci,nj] at h;obtain⟨r',h1,rfl⟩:=h;obtain⟨e1,e2⟩:=alX h1;refine⟨by rw[af.size_cons,af.size_cons,e1],λj=> ?_⟩;cases j with
  |zero=>rfl
  |succ j=>rw[<-af.kK (l:=r') (j':=j) (by omega) (by omega),<-af.kK (l:=q) (j':=j) (by omega) (by omega),e2]
 |.a n z::tm,b,r,h=>by
  simp only[aci] at h;split at h
  .rename_i cols h1
   split at h
   .rename_i hz
    rw[fH] at hz;split at h
    .rename_i q h2
     simp only[nj] at h;obtain⟨r',h3,rfl⟩:=h;obtain⟨e1,e2⟩:=alX h3;obtain⟨f1,f2,f3⟩:=aq0 h2;have hl:=alU h1;refine⟨by rw[af.size_cons,Sg.ma,Sz.val,hl,e1,f1],λj=> ?_⟩;by_cases hj:j<n*z
     .rw[af.dY (by rw[Sg.ma,Sz.val,hl];exact hj),Sg.pR];obtain⟨v,g1,g2⟩:=f2 j hj;rw[g2];unfold je;rw[hl];have hm:=Nat.mod_lt j (show z>0 by omega);obtain⟨c,v',k1,k2,k3⟩:=agH h1 (j%z) hm;rw[k1];simp only[k3]
      have hlen:(b.take z).length=z:=by
       have:z<=b.length:=by
        obtain⟨_,_,_,k5,_⟩:=agH h1 (z-1) (by omega);have:=(me.1 k5).1;omega
       simp;omega
      have a38:(n*z-1-j)%z=z-1-j%z:=by
       have hd:=Nat.div_add_mod j z;have hq:j/z<n:=(ayi (by omega)).2 hj;obtain⟨t,ht⟩:∃t,n=j/z+1+t:=⟨n-(j/z+1),by omega⟩
       have:n*z-1-j=z*t+(z-1-j%z):=by
        have:n*z=z*(j/z)+z+z*t:=by rw[ht,ach,Nat.mul_add,Nat.mul_add,Nat.mul_one]
        omega
       rw[this,atv,aym (by omega)]
      rw[a38,List.getElem?_reverse (by omega),hlen,show z-1-(z-1-j%z)=j%z by omega,acd,if_pos hm,k2] at g1;cases g1;rfl
     .have e:af.get (.a (.l n) cols::r') j=af.get r' (j-n*z):=by
       rw[<-af.rG (l:=r') (j':=j-n*z) (by rw[hl];omega) (by rw[hl])]
      rw[e,e2,<-f3];congr 1;omega
    .cases h
   .cases h
  .cases h
def bn {α β:Type}(R:α->β->Prop):List α->List β->Prop
 | [],[]=>True
 |a::l,b::m=>R a b/\bn R l m
 |_,_=>False
theorem bn.imp {α β:Type}{R S:α->β->Prop}(h:∀a b,R a b->S a b):∀{l:List α} {m:List β},bn R l m->bn S l m
 | [],[],_=>trivial
 |_::_,_::_,⟨a,b⟩=>⟨h _ _ a,bn.imp h b⟩
 | [],_::_,h=>h.elim
 |_::_,[],h=>h.elim
theorem bn.length {α β:Type}{R:α->β->Prop}:∀{l:List α} {m:List β},bn R l m->l.length=m.length
 | [],[],_=>rfl
 |_::_,_::_,⟨_,b⟩=>by simp[bn.length b]
 | [],_::_,h=>h.elim
 |_::_,[],h=>h.elim
theorem bn.append {α β:Type}{R:α->β->Prop}:∀{l:List α} {m:List β} {l':List α} {m':List β},bn R l m->bn R l' m'->bn R (l++l') (m++m')
 | [],[],_,_,_,h=>h
 |_::_,_::_,_,_,⟨a,b⟩,h=>⟨a,bn.append b h⟩
 | [],_::_,_,_,h,_=>h.elim
 |_::_,[],_,_,h,_=>h.elim
theorem bn.get {α β:Type}{R:α->β->Prop}:∀{l:List α} {m:List β},bn R l m->∀{i:Nat} {a:α},l[i]? =some a->∃b,m[i]? =some b/\R a b
 |a::l,b::m,⟨h,_⟩,0,x,e=>⟨b,rfl,by simp at e;exact e▸h⟩
 |a::l,b::m,⟨_,h⟩,i+1,x,e=>by simp at e ⊢;exact bn.get h e
 | [],_,_,i,a,e=>by simp at e
 |_::_,[],h,_,_,_=>h.elim
theorem bn.get' {α β:Type}{R:α->β->Prop}:∀{l:List α} {m:List β},bn R l m->∀{i:Nat} {b:β},m[i]? =some b->∃a,l[i]? =some a/\R a b
 |a::l,b::m,⟨h,_⟩,0,x,e=>⟨a,rfl,by simp at e;exact e▸h⟩
 |a::l,b::m,⟨_,h⟩,i+1,x,e=>by simp at e ⊢;exact bn.get' h e
 |_,[],_,i,a,e=>by simp at e
 | [],_::_,h,_,_,_=>h.elim
theorem bn.agI {α β:Type}{R:α->β->Prop}:∀{l:List α} {m:List β},l.length=m.length->(∀(i:Nat) a b,l[i]? =some a->m[i]? =some b->R a b)->bn R l m
 | [],[],_,_=>trivial
 |a::l,b::m,e,h=>⟨h 0 a b rfl rfl,bn.agI (by simpa using e) λi x y hx hy=>h (i+1) x y (by simpa using hx) (by simpa using hy)⟩
 | [],_::_,e,_=>by simp at e
 |_::_,[],e,_=>by simp at e
theorem bn.take {α β:Type}{R:α->β->Prop}:∀{l:List α} {m:List β} (n:Nat),bn R l m->bn R (l.take n) (m.take n)
 | [],[],n,_=>by simp[bn]
 |_::_,_::_,0,_=>by simp[bn]
 |_::_,_::_,n+1,⟨a,b⟩=>⟨a,bn.take n b⟩
 | [],_::_,_,h=>h.elim
 |_::_,[],_,h=>h.elim
theorem bn.drop {α β:Type}{R:α->β->Prop}:∀{l:List α} {m:List β} (n:Nat),bn R l m->bn R (l.drop n) (m.drop n)
 | [],[],n,_=>by simp[bn]
 |_::_,_::_,0,h=>h
 |_::_,_::_,n+1,⟨_,b⟩=>bn.drop n b
 | [],_::_,_,h=>h.elim
 |_::_,[],_,h=>h.elim
abbrev Pi:=Nat->Option (Nat×Nat×Nat×Nat)
def Ext (π π':Pi):Prop:=∀b p,π b=some p->π' b=some p
theorem Ext.refl (π:Pi):Ext π π:=λ_ _ h=>h
theorem Ext.trans {π π' π'':Pi}(h:Ext π π')(k:Ext π' π''):Ext π π'':=λb p e=>k b p (h b p e)
class ax where
 h0:Nat
 fs:Nat->Nat->Option Value
section
variable [ax]
def FV.rel:FV->Value->Prop
 |.u,x=>x.oneCell'=true
 |.b y,x=>x=.bool y
 |.i k n,x=>x=.int k n
 |.s y,x=>x=.string y
 |.q n g,x=>(n=0/\∃a,x=.slice a 0 0)∨∃B s cap,n<=cap/\x=.slice (some ⟨B,s,none⟩) n cap/\∀j,j<n->ax.fs B (s+j)=some (.bool (g j))
def CV.rel (π:Pi):CV->Value->Prop
 |.f v,x=>v.rel x
 |.ptr b o n,x=>∃B s q e,π b=some (B,s,q,e)/\x=.pointer (some ⟨B,s+o.val,none⟩)/\o.val+n<=q
 |.ai9,x=>x=.pointer none
 |.sl b o n z own,x=>∃B s q e,π b=some (B,s,q,e)/\o.val+n.val*z<=q/\(own=true->o.val+n.val*z=q)/\((n.val=0/\∃a,x=.slice a 0 0)∨∃cap,n.val<=cap/\x=.slice (some ⟨B,s+o.val,none⟩) n.val cap/\(own=true->s+o.val+cap*z<=e))
 |.nils,x=>x=.slice none 0 0
 |.aTJ,x=>x=.nilFunc
 |.aTK,x=>x=.nilIface
 |.cl fid b o n,x=>∃B s q e,π b=some (B,s,q,e)/\x=.func (.func fid) #[] #[.pointer (some ⟨B,s+o.val,none⟩)]/\o.val+n<=q
 |.fs n z cols,x=>cols.length=z/\((n=0/\∃a,x=.slice a 0 0)∨∃B s cap,n<=cap/\x=.slice (some ⟨B,s,none⟩) n cap/\∀j,j<n*z->∃f v,je cols j=.f f/\ax.fs B (s+j)=some v/\f.rel v)
 |.fp l,x=>∃B s,x=.pointer (some ⟨B,s,none⟩)/\∀j f,l[j]? =some f->∃v,ax.fs B (s+j)=some v/\f.rel v
def RV.rel (π:Pi):RV->Value->Prop
 |.c v,x=>v.rel π x
 |.agg cs,x=>∃a:Array Value,x=.agg a/\bn (CV.rel π) cs.list a.toList
def AV.rel (π:Pi):AV->Value->Prop
 |.r v,x=>v.rel π x
 |.tup vs,x=>∃a:Array Value,x=.tuple a/\bn (RV.rel π) vs a.toList
 |.fn f vs,x=>∃a:Array Value,x=.func (.func f) #[] a/\bn (RV.rel π) vs a.toList
 |.WC,_=>True
theorem FV.RI {v:FV}{x:Value}(h:v.rel x):x.oneCell'=true:=by
 cases v with
 |q n g=>
  simp only[FV.rel] at h;obtain⟨_,_,rfl⟩| ⟨_,_,_,_,rfl,_⟩:=h<;>rfl
 |_=>simp[FV.rel] at h<;>first|exact h|(subst h;rfl)
theorem CV.RI {π:Pi}{v:CV}{x:Value}(h:v.rel π x):x.oneCell'=true:=by
 cases v<;>simp only[CV.rel] at h
 case f v=>exact FV.RI h
 case ptr=>obtain⟨_,_,_,_,_,rfl,_⟩:=h;rfl
 case cl=>obtain⟨_,_,_,_,_,rfl,_⟩:=h;rfl
 case fs=>obtain⟨_,⟨_,_,rfl⟩| ⟨_,_,_,_,rfl,_⟩⟩:=h<;>rfl
 case fp=>obtain⟨_,_,rfl,_⟩:=h;rfl
 case sl=>obtain⟨_,_,_,_,_,_,_,⟨_,_,rfl⟩| ⟨_,_,rfl,_⟩⟩:=h<;>rfl
 all_goals (subst h;rfl)
theorem CV.dR {π π':Pi}(h:Ext π π')(v:CV)(x:Value)(r:v.rel π x):v.rel π' x:=by
 cases v<;>simp only[CV.rel] at r ⊢
 case ptr=>obtain⟨B,s,q,e,hb,hx⟩:=r;exact⟨B,s,q,e,h _ _ hb,hx⟩
 case cl=>obtain⟨B,s,q,e,hb,hx⟩:=r;exact⟨B,s,q,e,h _ _ hb,hx⟩
 case sl=>obtain⟨B,s,q,e,hb,hx⟩:=r;exact⟨B,s,q,e,h _ _ hb,hx⟩
 all_goals exact r
theorem RV.dR {π π':Pi}(h:Ext π π')(v:RV)(x:Value)(r:v.rel π x):v.rel π' x:=by
 cases v<;>simp only[RV.rel] at r ⊢
 case c=>exact CV.dR h _ _ r
 case agg=>obtain⟨a,hx,ha⟩:=r;exact⟨a,hx,ha.imp (CV.dR h)⟩
theorem AV.dR {π π':Pi}(h:Ext π π')(v:AV)(x:Value)(r:v.rel π x):v.rel π' x:=by
 cases v<;>simp only[AV.rel] at r ⊢
 case r=>exact RV.dR h _ _ r
 case tup=>obtain⟨a,hx,ha⟩:=r;exact⟨a,hx,ha.imp (RV.dR h)⟩
 case fn=>obtain⟨a,hx,ha⟩:=r;exact⟨a,hx,ha.imp (RV.dR h)⟩
omit [ax] in
theorem aSf {x:Value}(h:x.oneCell'=true):x.cells=#[x]:=by
 cases x<;>simp_all [Value.oneCell',Value.cells]
omit [ax] in
theorem aUB (v:CV):af.list [.c v]=[v]:=rfl
theorem RV.OP {π:Pi}{v:RV}{x:Value}(h:v.rel π x):bn (CV.rel π) v.bS.list x.cells.toList:=by
 cases v<;>simp only[RV.rel] at h
 case c v=>rw[aSf (CV.RI h)];exact⟨h,trivial⟩
 case agg=>obtain⟨a,rfl,ha⟩:=h;exact ha
structure Gt where
 t:Nat->AV
 c:Nat->Nat->CV
 z:Nat->Option Nat
noncomputable def St.gt (s:St):Gt where
 t:=s.tmp
 c:=λb j=>match s.bS b with
  |some k=>if j<k.size then k.get j else .f .u
  |none=>.f .u
 z:=λb=>(s.bS b).map af.size
inductive Pt where
 |t (i:Nat)
 |c (b j:Nat)
 |z (b:Nat)
inductive PV where
 |t (v:AV)
 |c (v:CV)
 |z (v:Option Nat)
def Gt.at (g:Gt):Pt->PV
 |.t i=>.t (g.t i)
 |.c b j=>.c (g.c b j)
 |.z b=>.z (g.z b)
omit [ax] in
theorem Gt.aT2 {g g':Gt}(h:∀p,g.at p=g'.at p):g=g':=by
 cases g with|mk t c z=>cases g' with|mk t' c' z'=>
 have h1:t=t':=funext λi=>by simpa[Gt.at] using h (.t i)
 have h2:c=c':=funext λb=>funext λj=>by simpa[Gt.at] using h (.c b j)
 have h3:z=z':=funext λb=>by simpa[Gt.at] using h (.z b)
 subst h1 h2 h3;rfl
def inX (r:Option (Nat×Nat))(j:Nat):Prop:=
 match r with
 |some (lo,n)=>lo<=j/\j<lo+n
 |none=>True
def Fp.has:Fp->Pt->Prop
 |.t i,.t j=>i=j
 |.c b r,.c b' j=>b=b'/\inX r j
 |.z b,.z b'=>b=b'
 |_,_=>False
def Up.Hw:Up->Pt->Prop
 |.t i _,.t j=>i=j
 |.c b o v,.c b' j=>b=b'/\o.val<=j/\j<o.val+af.size v
 |.new b _,.c b' _|.kill b,.c b' _|.new b _,.z b'|.kill b,.z b'=>b=b'
 |_,_=>False
omit [ax] in
theorem aLh:∀{v:af} {n:Nat},szL v=some n->af.size v=n
 | [],n,h=>by simp only[szL,j9] at h;rw[<-h];rfl
 |.c _::r,n,h=>by
  simp only[szL,nj] at h;obtain⟨m,h1,rfl⟩:=h;rw[af.size_cons,Sg.kI,aLh h1]
 |.a (.l k) cols::r,n,h=>by
  simp only[szL,nj] at h;obtain⟨m,h1,rfl⟩:=h;rw[af.size_cons,Sg.ma,aLh h1];rfl
 |.a (.s _) _::_,n,h=>by simp[szL] at h
omit [ax] in
theorem aE2 {o:cD}{v:af}{j:Nat}(h1:o.val<=j)(h2:j<o.val+af.size v):inX (aN2 o v) j:=by
 unfold aN2;split
 .rename_i c
  cases hs:szL v with
  |none=>trivial
  |some n=>
   have:=aLh hs;simp only[Tf,inX];simp only[cD.val] at h1 h2;omega
 .trivial
omit [ax] in
theorem a0E {o:cD}{cE:Sz}{z j:Nat}(h:j<cE.val*z):inX (ext o cE z) (o.val+j):=by
 unfold ext;split
 .simp only[inX,cD.val];simp only[Sz.val] at h;omega
 .trivial
omit [ax] in
theorem aOd {r r':Option (Nat×Nat)}{j:Nat}(h1:inX r j)(h2:inX r' j):meet r r'=true:=by
 unfold meet;split
 .simp only[inX] at h1 h2;simp only[ovl,cq,uM];omega
 .rfl
omit [ax] in
theorem Fp.aE3 {fp:Fp}{u:Up}{p:Pt}(h1:fp.has p)(h2:u.Hw p):fp.aAp u=true:=by
 cases fp<;>cases u<;>cases p<;>simp only[Fp.has,Up.Hw,Fp.aAp,beq_iff,cq] at* <;>first|omega|skip
 .exact⟨by omega,aOd h1.2 (aE2 h2.2.1 h2.2.2)⟩
omit [ax] in
theorem Up.aE3 {u u':Up}{p:Pt}(h1:u.Hw p)(h2:u'.Hw p):u.aAp u'=true:=by
 cases u<;>cases u'<;>cases p<;>simp only[Up.Hw,Up.aAp,beq_iff,cq] at* <;>first|omega|skip
 .exact⟨by omega,aOd (aE2 h1.2.1 h1.2.2) (aE2 h2.2.1 h2.2.2)⟩
def Up.hX (u:Up)(g:Gt):Gt:=
 match u with
 |.t i v=>{g with t:=λj=>if j=i then v else g.t j}
 |.c b o v=>{g with c:=λb' j=>if b'=b/\o.val<=j/\j<o.val+af.size v then af.get v (j-o.val) else g.c b' j}
 |.new b k=>{g with c:=λb' j=>if b'=b then(if j<k.size then k.get j else .f .u) else g.c b' j,z:=λb'=>if b'=b then some k.size else g.z b'}
 |.kill b=>{g with c:=λb' j=>if b'=b then .f .u else g.c b' j,z:=λb'=>if b'=b then none else g.z b'}
omit [ax] in
theorem Up.Tj {u:Up}{g:Gt}{p:Pt}(h:¬u.Hw p):(u.hX g).at p=g.at p:=by
 cases u<;>cases p<;>simp_all [Up.Hw,Up.hX,Gt.at]<;>first|(intro a;exact absurd a.symm (by assumption))|(intros;omega)|(intro a;subst a;simp_all)
omit [ax] in
theorem Up.aOe {u:Up}{g g':Gt}{p:Pt}(h:u.Hw p):(u.hX g).at p=(u.hX g').at p:=by
 cases u<;>cases p<;>simp_all [Up.Hw,Up.hX,Gt.at]
def cH (us:List Up)(g:Gt):Gt:=us.foldl (λg u=>u.hX g) g
omit [ax] in
theorem rH:∀{us:List Up} {g:Gt} {p:Pt},(∀u∈us,¬u.Hw p)->(cH us g).at p=g.at p
 | [],_,_,_=>rfl
 |u::us,g,p,h=>by
  show(cH us (u.hX g)).at p=_;rw[rH λv hv=>h v (by simp[hv]),Up.Tj (h u (by simp))]
omit [ax] in
theorem agJ:∀{us:List Up} {g g':Gt} {p:Pt},(∃u∈us,u.Hw p)∨g.at p=g'.at p->(cH us g).at p=(cH us g').at p
 | [],g,g',p,h=>by
  rcases h with⟨u,hu,_⟩|h
  .simp at hu
  .exact h
 |u::us,g,g',p,h=>by
  show(cH us (u.hX g)).at p=(cH us (u.hX g')).at p;apply agJ
  by_cases hu:u.Hw p
  .exact .inr (Up.aOe hu)
  .rcases h with⟨v,hv,ht⟩|h
   .rcases acg.1 hv with rfl|hv
    .exact absurd ht hu
    .exact .inl ⟨v,hv,ht⟩
   .exact .inr (by rw[Up.Tj hu,Up.Tj hu,h])
inductive aH {α:Type}:Rd α->Gt->α->List Fp->Prop where
 |ret (a:α) (g:Gt):aH (.ret a) g a []
 |tm {i:Nat} {k:AV->Rd α} {g:Gt} {a:α} {l:List Fp} (h:aH (k (g.t i)) g a l):aH (.tm i k) g a (.t i::l)
 |vw {b:Nat} {o:cD} {cE:Sz} {z:Nat} {k:af->Rd α} {g:Gt} {a:α} {l:List Fp} (q:Nat) (v:af) (hz:g.z b=some q) (hs:af.size v=cE.val*z) (hv:o.val+cE.val*z<=q->∀j,j<cE.val*z->af.get v j=g.c b (o.val+j)) (h:aH (k v) g a l):aH (.vw b o cE z k) g a (.c b (ext o cE z):: .z b::l)
 |sz {b:Nat} {k:Rd α} {g:Gt} {a:α} {l:List Fp} (q:Nat) (hz:g.z b=some q) (h:aH k g a l):aH (.sz b k) g a (.z b::l)
 |test {x:Bool} {k:Bool->Rd α} {g:Gt} {a:α} {l:List Fp} (h:aH (k x) g a l):aH (.test x k) g a l
 |opt {E:Type} {x:Option E} {k:E->Rd α} {d:E} {g:Gt} {a:α} {l:List Fp} (hx:x=some d) (h:aH (k d) g a l):aH (.opt x k) g a l
omit [ax] in
theorem aH.local {α:Type}{m:Rd α}{g g':Gt}{a:α}{l:List Fp}(h:aH m g a l):(∀fp∈l,∀p,fp.has p->g.at p=g'.at p)->aH m g' a l:=by
 induction h with
 |ret a g=>intro _;exact .ret _ _
 |@tm i k g a l h ih=>
  intro e;have e1:g.t i=g'.t i:=by simpa[Gt.at] using e (.t i) (by simp) (.t i) rfl
  exact .tm (e1▸ih λfp hf=>e fp (by simp[hf]))
 |@vw b o cE z k g a l q v hz hs hv h ih=>
  intro e;have e1:g.z b=g'.z b:=by simpa[Gt.at] using e (.z b) (by simp) (.z b) rfl
  refine .vw q v (e1▸hz) hs (λhle j hj=> ?_) (ih λfp hf=>e fp (by simp[hf]));rw[hv hle j hj];simpa[Gt.at] using e (.c b (ext o cE z)) (by simp) (.c b (o.val+j)) ⟨rfl,a0E hj⟩
 |@sz b k g a l q hz h ih=>
  intro e;have e1:g.z b=g'.z b:=by simpa[Gt.at] using e (.z b) (by simp) (.z b) rfl
  exact .sz q (e1▸hz) (ih λfp hf=>e fp (by simp[hf]))
 |test h ih=>intro e;exact .test (ih e)
 |opt hx h ih=>intro e;exact .opt hx (ih e)
omit [ax] in
theorem aH.bind {α β:Type}{m:Rd α}{f:α->Rd β}{g:Gt}{b:β}{l:List Fp}(h:aH (m.bind f) g b l):
  ∃a l1 l2,aH m g a l1/\aH (f a) g b l2/\l=l1++l2:=by
 induction m generalizing l with
 |ret a=>exact⟨a,[],l,.ret _ _,h,rfl⟩
 |fail=>cases h
 |tm i k ih=>cases h with|tm h=>obtain⟨a,l1,l2,h1,h2,e⟩:=ih _ h;exact⟨a,_,l2,.tm h1,h2,by simp[e]⟩
 |vw b o cE z k ih=>cases h with|vw q v hz hs hv h=>obtain⟨a,l1,l2,h1,h2,e⟩:=ih _ h;exact⟨a,_,l2,.vw q v hz hs hv h1,h2,by simp[e]⟩
 |sz b k ih=>cases h with|sz q hz h=>obtain⟨a,l1,l2,h1,h2,e⟩:=ih h;exact⟨a,_,l2,.sz q hz h1,h2,by simp[e]⟩
 |opt x k ih=>cases h with|opt hx h=>obtain⟨a,l1,l2,h1,h2,e⟩:=ih _ h;exact⟨a,_,l2,.opt hx h1,h2,by simp[e]⟩
 |test x k ih=>cases h with|test h=>obtain⟨a,l1,l2,h1,h2,e⟩:=ih _ h;exact⟨a,_,l2,.test h1,h2,by simp[e]⟩
omit [ax] in
theorem aH.bind' {α β:Type}{m:Rd α}{f:α->Rd β}{g:Gt}{b:β}{l:List Fp}(h:aH (m.bind f) g b l):
  ∃a,(∃l1,aH m g a l1)/\∃l2,aH (f a) g b l2:=by
 obtain⟨a,l1,l2,h1,h2,_⟩:=h.bind;exact⟨a,⟨l1,h1⟩,l2,h2⟩
omit [ax] in
theorem St.aq1 {s:St}{b:Nat}{k:af}(h:s.bS b=some k):s.gt.z b=some k.size:=by simp[St.gt,h]
omit [ax] in
theorem St.aT3 {s:St}{b j:Nat}{k:af}(h:s.bS b=some k)(hj:j<k.size):s.gt.c b j=k.get j:=by simp[St.gt,h,hj]
omit [ax] in
theorem Rd.aSg {α ρ:Type}{m:Rd α}{s:St}{k:α->List Fp->Option ρ}{r:ρ}:∀{l:List Fp},m.run s l k=some r->
  ∃a fp,aH m s.gt a fp/\k a (fp.reverse++l)=some r:=by
 induction m with
 |ret a=>intro l h;exact⟨a,[],.ret _ _,h⟩
 |fail=>intro l h;simp[Rd.run] at h
 |tm i f ih=>
  intro l h;obtain⟨a,fp,h1,h2⟩:=ih _ h;exact⟨a,.t i::fp,.tm h1,by simpa using h2⟩
 |vw b o cE z f ih=>
  intro l h;simp only[Rd.run] at h;split at h
  .rename_i bS hb
   split at h
   .rename_i p hp
    split at h
    .rename_i hg
     obtain⟨a,fp,h1,h2⟩:=ih _ h;obtain⟨g,v⟩:=p;simp only at hg h1;subst hg;obtain⟨e1,e2⟩:=af.ayv hp;exact⟨a,.c b (ext o cE z):: .z b::fp,.vw (af.size bS) _ (St.aq1 hb) e1 (λhle j hj=>(e2 hle j hj).trans (St.aT3 hb (by omega)).symm) h1,by simpa using h2⟩
    .simp at h
   .simp at h
  .simp at h
 |sz b f ih=>
  intro l h;simp only[Rd.run] at h;split at h
  .rename_i bS hb
   obtain⟨a,fp,h1,h2⟩:=ih h;exact⟨a,.z b::fp,.sz (af.size bS) (St.aq1 hb) h1,by simpa using h2⟩
  .simp at h
 |test x f ih=>
  intro l h;cases x
  .obtain⟨a,fp,h1,h2⟩:=ih _ h;exact⟨a,fp,.test h1,h2⟩
  .obtain⟨a,fp,h1,h2⟩:=ih _ h;exact⟨a,fp,.test h1,h2⟩
 |opt x f ih=>
  intro l h;cases x with
  |none=>cases h
  |some d=>obtain⟨a,fp,h1,h2⟩:=ih d (l:=l) h;exact⟨a,fp,.opt rfl h1,h2⟩
omit [ax] in
theorem aUC {α:Type}(l:List α)(i j:Nat)(v d:α)(h:i<l.length):(l.set i v).getD j d=if j=i then v else l.getD j d:=by
 simp only[List.getD,aEK];by_cases e:i=j
 .subst e;simp[h]
 .simp[e,Ne.symm e]
omit [ax] in
theorem A5 (l:List AV)(i:Nat):alO l i=l.getD i udf:=by
 induction l generalizing i with
 |nil=>rfl
 |cons a l ih=>
  cases i with
  |zero=>rfl
  |succ i=>exact(ih i).trans (by simp[List.getD])
omit [ax] in
theorem alY {α ρ:Type}(l:List α)(i:Nat)(v:α)(k:List α->Option ρ):aAn l i v k=if i<l.length then k (l.set i v) else none:=by
 induction l generalizing i k with
 |nil=>rfl
 |cons a l ih=>
  cases i with
  |zero=>rfl
  |succ i=>
   have:aAn (a::l) (i+1) v k=aAn l i v λl'=>k (a::l'):=rfl
   rw[this,ih];simp
omit [ax] in
theorem avz {l:List (Option af)}{b b':Nat}{x:Option af}(h:b<l.length):((l.set b x)[b']?).getD none=if b'=b then x else(l[b']?).getD none:=by
 simp only[aEK];by_cases e:b=b'
 .subst e;simp[h]
 .simp[e,Ne.symm e]
omit [ax] in
theorem St.aLi {s:St}{b:Nat}{k:af}(h:s.bS b=some k):b<s.heap.length:=by
 rcases pQ b s.heap.length with h'|h'
 .exact h'
 .simp[St.bS,JN h'] at h
omit [ax] in
theorem aOf {l:List (Option af)}{b':Nat}{x:Option af}:((l++[x])[b']?).getD none=if b'=l.length then x else(l[b']?).getD none:=by
 rw[List.getElem?_append];by_cases h:b'<l.length
 .simp[h,Nat.ne_of_lt h]
 .by_cases e:b'=l.length
  .subst e;simp
  .rw[if_neg h,if_neg e,JN (by simp;omega),JN (by omega)]
omit [ax] in
theorem Up.a0F {s:St}{u:Up}(k:Nat)(h:u.ok s=true):(u.app k s).gt=u.hX s.gt:=by
 apply Gt.aT2
 intro p;cases u with
 |t i v=>
  have hi:i<s.tmps.length:=by have h:=h;simp[Up.ok,Nat.blt] at h;omega
  cases p<;>simp only[Gt.at,Up.app,Up.hX,St.gt,St.tmp,St.bS,PV.t.injEq]
  rw[A5,A5];exact aUC _ _ _ _ _ hi
 |c b o v=>
  simp only[Up.ok] at h;split at h
  .rename_i bS hb
   split at h
   .rename_i p' hp
    obtain⟨g',nb⟩:=p';simp only[cq,fH] at h;obtain⟨rfl,hle⟩:=h;obtain⟨yN,alZ⟩:=af.aUz hp;have oo:=St.aLi hb;have aao:∀b',St.bS {s with heap:=s.heap.set b (some nb),dz:=mark k b s.dz} b'=if b'=b then some nb else s.bS b':=λb'=>avz oo
    cases p with
    |t j=>simp only[Gt.at,Up.app,Up.hX,St.gt,hb,St.tmp,hp]
    |c b' j=>
     simp only[Gt.at,Up.app,Up.hX,St.gt,hb,PV.c.injEq,hp,aao];by_cases e:b'=b
     .subst e;simp only[lZ,hb,yN,AK];by_cases hj:j<af.size bS
      .simp only[hj,lZ,alZ j hj]
      .simp only[hj,gG];rw[if_neg (by omega)]
     .simp only[e,gG,false_and]
    |z b'=>
     simp only[Gt.at,Up.app,Up.hX,St.gt,hb,PV.z.injEq,hp,aao];by_cases e:b'=b
     .subst e;simp[hb,yN]
     .simp[e]
   .simp at h
  .simp at h
 |new b bS=>
  have hb:b=s.heap.length:=oK h;have aao:∀b',St.bS {s with heap:=s.heap++[some bS]} b'=if b'=b then some bS else s.bS b':=λb'=>by rw[hb];exact aOf
  cases p with
  |t j=>simp only[Gt.at,Up.app,Up.hX,St.gt,St.tmp]
  |c b' j=>
   simp only[Gt.at,Up.app,Up.hX,St.gt,PV.c.injEq,aao];by_cases e:b'=b<;>simp[e]
  |z b'=>
   simp only[Gt.at,Up.app,Up.hX,St.gt,PV.z.injEq,aao];by_cases e:b'=b<;>simp[e]
 |kill b=>
  have hb:b<s.heap.length:=by have h:=h;simp[Up.ok,Nat.blt] at h;omega
  have aao:∀b',St.bS {s with heap:=s.heap.set b none,dz:=mark k b s.dz} b'=if b'=b then none else s.bS b':=λb'=>avz hb
  cases p with
  |t j=>simp only[Gt.at,Up.app,Up.hX,St.gt,St.tmp]
  |c b' j=>
   simp only[Gt.at,Up.app,Up.hX,St.gt,PV.c.injEq,aao];by_cases e:b'=b<;>simp[e]
  |z b'=>
   simp only[Gt.at,Up.app,Up.hX,St.gt,PV.z.injEq,aao];by_cases e:b'=b<;>simp[e]
omit [ax] in
theorem OQ {k:Nat}:∀{us:List Up} {s s':St},ka k us s=some s'->s'.gt=cH us s.gt
 | [],s,s',h=>by simp[ka] at h;subst h;rfl
 |u::us,s,s',h=>by
  simp only[ka] at h;split at h
  .rename_i hu
   rw[OQ h,Up.a0F k hu];rfl
  .simp at h
end
theorem WK {α ρ:Type}(l:List α)(k:List α->ρ):agB l k=k l:=by
 induction l generalizing k with
 |nil=>rfl
 |cons a l ih=>exact ih λl=>k (a::l)
theorem aE4 {ρ:Type}(o:cD)(k:cD->ρ):avo o k=k o:=by cases o<;>rfl
theorem aE5 {ρ:Type}(o:Sz)(k:Sz->ρ):aLf o k=k o:=by cases o<;>rfl
theorem aE6 {ρ:Type}(o:FV)(k:FV->ρ):aDU o k=k o:=by cases o<;>rfl
theorem aLj {ρ:Type}(o:cS)(k:cS->ρ):ays o k=k o:=by cases o<;>rfl
theorem aq2 {ρ:Type}(l:List cS)(k:List cS->ρ):WH l k=k l:=by
 induction l generalizing k with
 |nil=>rfl
 |cons a l ih=>
  have:WH (a::l) k=ays a λa=>WH l λl=>k (a::l):=rfl
  rw[this,aLj,ih]
theorem aOg {ρ:Type}(l:List FV)(k:List FV->ρ):avp l k=k l:=by
 induction l generalizing k with
 |nil=>rfl
 |cons a l ih=>
  have:avp (a::l) k=aDU a λa=>avp l λl=>k (a::l):=rfl
  rw[this,aE6,ih]
theorem aE7 {ρ:Type}(o:CV)(k:CV->ρ):aDV o k=k o:=by
 cases o<;>simp only[aDV,aE6,aE4,aE5,aq2,aOg]
theorem aOh {ρ:Type}(o:Sg)(k:Sg->ρ):avq o k=k o:=by
 cases o<;>simp only[avq,aE7,aE5,aq2]
theorem agK {ρ:Type}(l:af)(k:af->ρ):aak l k=k l:=by
 induction l generalizing k with
 |nil=>rfl
 |cons a l ih=>
  have:aak (a::l) k=avq a λa=>aak l λl=>k (a::l):=rfl
  rw[this,aOh,ih]
theorem aE8 {ρ:Type}(o:RV)(k:RV->ρ):avr o k=k o:=by
 cases o<;>simp only[avr,aE7,agK]
theorem aOi {ρ:Type}(l:List RV)(k:List RV->ρ):alR l k=k l:=by
 induction l generalizing k with
 |nil=>rfl
 |cons a l ih=>
  have:alR (a::l) k=avr a λa=>alR l λl=>k (a::l):=rfl
  rw[this,aE8,ih]
theorem aE9 {ρ:Type}(o:AV)(k:AV->ρ):avs o k=k o:=by
 cases o<;>simp only[avs,aE8,aOi]
theorem aSh {ρ:Type}(o:Up)(k:Up->ρ):aDW o k=k o:=by
 cases o<;>simp only[aDW,aE9,aE4,agK]
theorem aOj {ρ:Type}(l:List Up)(k:List Up->ρ):avt l k=k l:=by
 induction l generalizing k with
 |nil=>rfl
 |cons a l ih=>
  have:avt (a::l) k=aDW a λa=>avt l λl=>k (a::l):=rfl
  rw[this,aSh,ih]
theorem aOk {ρ:Type}(l:List AV)(k:List AV->ρ):avu l k=k l:=by
 induction l generalizing k with
 |nil=>rfl
 |cons a l ih=>
  have:avu (a::l) k=avs a λa=>avu l λl=>k (a::l):=rfl
  rw[this,aE9,ih]
theorem aOl {ρ:Type}(o:Option af)(k:Option af->ρ):avv o k=k o:=by
 cases o<;>simp only[avv,agK]
theorem aOm {ρ:Type}(l:List (Option af))(k:List (Option af)->ρ):avw l k=k l:=by
 induction l generalizing k with
 |nil=>rfl
 |cons a l ih=>
  have:avw (a::l) k=avv a λa=>avw l λl=>k (a::l):=rfl
  rw[this,aOl,ih]
theorem LW {ρ:Type}(s:St)(k:St->ρ):yB s k=k s:=by
 unfold yB;simp only[WK,aOk,aOm]
theorem Up.aFa {ρ:Type}(k:Nat)(u:Up)(s:St)(c:St->Option ρ):u.aer k s c=match u.ok s with
  |true=>c (u.app k s)
  |false=>none:=by
 cases u with
 |t i v=>
  simp only[Up.aer,alY,Up.ok,Up.app];by_cases h:i<s.tmps.length
  .rw[if_pos h,uM.2 h]
  .rw[if_neg h,agC h]
 |c b o v=>
  simp only[Up.aer,Up.ok,Up.app,agK,WK,alY];split
  .rename_i bS hb
   have oo:b<s.heap.length:=St.aLi hb;split
   .rename_i p hp
    split<;>rename_i hg<;>simp only[hb,hp,hg,oo,lZ]
   .rename_i hp;simp only[hb,hp]
  .rename_i hb;simp only[hb]
 |new b bS=>
  simp only[Up.aer,Up.ok,Up.app,WK];cases Nat.beq b s.heap.length<;>rfl
 |kill b=>
  simp only[Up.aer,alY,Up.ok,Up.app,WK];by_cases h:b<s.heap.length
  .rw[if_pos h,uM.2 h]
  .rw[if_neg h,agC h]
theorem aFa {ρ:Type}(k:Nat)(us:List Up)(s:St)(c:St->Option ρ):aer k us s c=match ka k us s with
  |some s'=>c s'
  |none=>none:=by
 induction us generalizing s with
 |nil=>rfl
 |cons u us ih=>
  have:aer k (u::us) s c=u.aer k s λs=>aer k us s c:=rfl
  rw[this,Up.aFa,ka];split
  .rename_i h;simp only[h,ih]
  .rename_i h;simp only[h]
end Go.Ab
namespace Go.Ab
structure cj (w0:World)(S:Nat->Nat->Prop)(w:World):Prop where
 os:w.os=w0.os
 tape:w.tape=w0.tape
 output:w.output=w0.output
 size:w0.heap.size<=w.heap.size
 obj:∀B:Nat,B<w0.heap.size->(∀c t fz,w0.heap[B]? ≠some (.cells c t fz))->w.heap[B]? =w0.heap[B]?
 fzn:∀a,w.frozen? a=w0.frozen? a
 row:∀(B:Nat) c t fz,w0.heap[B]? =some (.cells c t fz)->∃c',w.heap[B]? =some (.cells c' t fz)/\c'.size=c.size/\∀i:Nat,¬S B i->c'[i]? =c[i]?
theorem cj.refl (w:World)(S:Nat->Nat->Prop):cj w S w:=
 ⟨rfl,rfl,rfl,eT _,λ_ _ _=>rfl,λ_=>rfl,λ_ c _ _ h=>⟨c,h,rfl,λ_ _=>rfl⟩⟩
theorem cj.mono {w0 w:World}{S S':Nat->Nat->Prop}(h:cj w0 S w)(hs:∀B i,B<w0.heap.size->S B i->S' B i):cj w0 S' w:=
 ⟨h.os,h.tape,h.output,h.size,h.obj,h.fzn,λB c t fz hb=>by
  obtain⟨c',h1,h2,h3⟩:=h.row B c t fz hb;refine⟨c',h1,h2,λi hi=>h3 i λhS=>hi (hs B i ?_ hS)⟩;rcases pQ B w0.heap.size with h'|h'
  .exact h'
  .rw[att h'] at hb;cases hb⟩
theorem cj.trans {w0 w w':World}{S S':Nat->Nat->Prop}(h:cj w0 S w)(h':cj w S' w')(hs:∀B i,B<w0.heap.size->S' B i->S B i):cj w0 S w':=by
 refine⟨h'.os.trans h.os,h'.tape.trans h.tape,h'.output.trans h.output,ch h.size h'.size,λB hB hn=> ?_,λa=>(h'.fzn a).trans (h.fzn a),λB c t fz hb=> ?_⟩
 .have e:=h.obj B hB hn;rw[<-e];exact h'.obj B (aEJ hB h.size) (by rw[e];exact hn)
 .obtain⟨c1,e1,z1,k1⟩:=h.row B c t fz hb;obtain⟨c2,e2,z2,k2⟩:=h'.row B c1 t fz e1
  have hB:B<w0.heap.size:=by
   rcases pQ B w0.heap.size with h'|h'
   .exact h'
   .rw[att h'] at hb;cases hb
  exact⟨c2,e2,z2.trans z1,λi hi=>(k2 i λhS=>hi (hs B i hB hS)).trans (k1 i hi)⟩
theorem cj.drew {w0 w:World}{S:Nat->Nat->Prop}(h:cj w0 S w):cj w0 S {w with drawn:=w.drawn+1}:=⟨h.os,h.tape,h.output,h.size,h.obj,h.fzn,h.row⟩
theorem WL (w:World)(c:Array Value)(t:TypeId)(a:Addr):(w.alloc (.cells c t)).frozen? a=w.frozen? a:=by
 by_cases h:a.block=w.heap.size
 .have e1:(w.alloc (.cells c t)).heap[a.block]? =some (.cells c t):=by
   rw[h];show(w.heap.push _)[w.heap.size]? =_;simp
  have e2:w.heap[a.block]? =none:=by rw[h];simp
  simp[World.frozen?,e1,e2]
 .exact World.frozen?_alloc_old _ _ _ h
theorem cj.alloc {w0 w:World}{S:Nat->Nat->Prop}(h:cj w0 S w)(cs:Array Value)(ty:TypeId):cj w0 S (w.alloc (.cells cs ty)):=by
 generalize ho:Obj.cells cs ty=o
 have oo:∀(B:Nat),B<w0.heap.size->(w.alloc o).heap[B]? =w.heap[B]? :=λB hB=>by
  show(w.heap.push o)[B]? =_;rw[Array.getElem?_push,if_neg (by have:=h.size;omega)]
 refine⟨h.os,h.tape,h.output,by rw[World.size_alloc];have:=h.size;omega,λB hB hn=>(oo B hB).trans (h.obj B hB hn),λa=>by rw[<-ho,WL];exact h.fzn a,λB c t fz hb=> ?_⟩
 have hB:B<w0.heap.size:=by
  rcases pQ B w0.heap.size with h'|h'
  .exact h'
  .rw[att h'] at hb;cases hb
 rw[oo B hB];exact h.row B c t fz hb
theorem cj.setCell {w0 w:World}{S:Nat->Nat->Prop}(h:cj w0 S w){B i:Nat}(hs:w0.heap.size<=B∨S B i)(v:Value):cj w0 S (w.setCell ⟨B,i,none⟩ v):=by
 refine⟨h.os,h.tape,h.output,by simpa[World.setCell] using h.size,λB' hB hn=> ?_,λa=>(World.frozen?_setCell _ _ _ _).trans (h.fzn a),λB' c t fz hb=> ?_⟩
 .by_cases e:B=B'
  .subst e;have:=h.obj B hB hn;simp only[World.setCell,aK6,lZ,this];cases hh:w0.heap[B]? with
   |none=>rfl
   |some x=>cases x<;>first|rfl|exact absurd hh (hn _ _ _)
  .simp only[World.setCell,aK6,e,gG];exact h.obj B' hB hn
 .have hB:B'<w0.heap.size:=by
   rcases pQ B' w0.heap.size with h'|h'
   .exact h'
   .rw[att h'] at hb;cases hb
  obtain⟨c1,e1,z1,k1⟩:=h.row B' c t fz hb;by_cases e:B=B'
  .subst e;refine⟨c1.setIfInBounds i v,by simp[World.setCell,aK6,e1],by simpa using z1,λj hj=> ?_⟩;have oM:i≠j:=λe=>by subst e;rcases hs with hs|hs;omega;exact hj hs
   rw[aTI oM];exact k1 j hj
  .exact⟨c1,by simp only[World.setCell,aK6,e,gG];exact e1,z1,k1⟩
theorem cj.setCells {w0:World}{S:Nat->Nat->Prop}{B:Nat}:∀{vs:List Value} {o:Nat} {w:World},cj w0 S w->(w0.heap.size<=B∨∀j,j<vs.length->S B (o+j))->cj w0 S (w.setCells B o vs)
 | [],_,_,h,_=>h
 |v::vs,o,w,h,hs=>by
  rw[World.setCells];refine cj.setCells (h.setCell (hs.imp id λh=>by simpa using h 0 (by simp)) v) (hs.imp id λh j hj=> ?_);have:=h (j+1) (by simp;omega);rwa [show o+(j+1)=o+1+j by omega] at this
variable [ax]
def cl (w:World)(B i:Nat):Option Value:=w.cell? ⟨B,i,none⟩
def fz (w:World)(B i:Nat):Bool:=w.frozen? ⟨B,i,none⟩
omit [ax] in
theorem acm {w:World}{B i:Nat}(h:(cl w B i).isSome=true):B<w.heap.size:=by
 rcases pQ B w.heap.size with h'|h'
 .exact h'
 .simp[cl,World.cell?,att h'] at h
omit [ax] in
theorem aJj {w:World}{o:Obj}{B i:Nat}(h:B<w.heap.size):cl (w.alloc o) B i=cl w B i:=World.cell?_alloc_lt _ _ _ h
omit [ax] in
theorem aUD {w:World}{o:Obj}{B i:Nat}(h:B<w.heap.size):fz (w.alloc o) B i=fz w B i:=World.frozen?_alloc_old _ _ _ (Nat.ne_of_lt h)
omit [ax] in
theorem cj.cl {w0 w:World}{S:Nat->Nat->Prop}(h:cj w0 S w){B i:Nat}(hB:B<w0.heap.size)(hs:¬S B i):cl w B i=cl w0 B i:=by
 simp only[Ab.cl,World.cell?];cases hh:w0.heap[B]? with
 |none=>rw[h.obj B hB (by simp[hh]),hh]
 |some x=>
  cases x with
  |cells c t f=>
   obtain⟨c',e,_,k⟩:=h.row B c t f hh;simp only[e];simpa using k i hs
  |_=>rw[h.obj B hB (by simp[hh]),hh]
omit [ax] in
theorem cj.fz {w0 w:World}{S:Nat->Nat->Prop}(h:cj w0 S w){B i:Nat}(hB:B<w0.heap.size):fz w B i=fz w0 B i:=by
 simp only[Ab.fz,World.frozen?];cases hh:w0.heap[B]? with
 |none=>rw[h.obj B hB (by simp[hh]),hh]
 |some x=>
  cases x with
  |cells c t f=>
   obtain⟨c',e,_,k⟩:=h.row B c t f hh;simp only[e]
  |_=>rw[h.obj B hB (by simp[hh]),hh]
structure A6 (w:World):Prop where
 sz:ax.h0<=w.heap.size
 fr:∀B i,ax.h0<=B->fz w B i=false
 st:∀B i v,ax.fs B i=some v->B<ax.h0/\cl w B i=some v
theorem A6.same {w w':World}(h:A6 w)(e:w'.heap=w.heap):A6 w':=by
 refine⟨by rw[e];exact h.sz,λB i hB=> ?_,λB i v hv=> ?_⟩
 .have:=h.fr B i hB;simp only[fz,World.frozen?] at this ⊢;rw[e];exact this
 .obtain⟨h1,h2⟩:=h.st B i v hv;refine⟨h1,?_⟩;simp only[cl,World.cell?] at h2 ⊢;rw[e];exact h2
theorem A6.alloc {w:World}(h:A6 w)(cs:Array Value)(t:TypeId):A6 (w.alloc (.cells cs t)):=by
 refine⟨by rw[World.size_alloc];have:=h.sz;omega,λB i hB=> ?_,λB i v hv=> ?_⟩
 .unfold fz;rw[WL];exact h.fr B i hB
 .obtain⟨h1,h2⟩:=h.st B i v hv;exact⟨h1,by rw[aJj (acm (by rw[h2];rfl))];exact h2⟩
structure tf (π:Pi)(c:Nat->Nat->CV)(z:Nat->Option Nat)(w:World):Prop where
 am:A6 w
 lb:∀b B s q e,z b≠none->π b=some (B,s,q,e)->s<e->ax.h0<=B
 hp:∀b n,z b=some n->∃B s e,π b=some (B,s,n,e)/\s+n<=e/\(∀i,s<=i->i<e->(cl w B i).isSome=true/\fz w B i=false)/\∀j,j<n->∃v,cl w B (s+j)=some v/\(c b j).rel π v
 dj:∀b b' B s q e s' q' e',b≠b'->z b≠none->z b'≠none->π b=some (B,s,q,e)->π b'=some (B,s',q',e')->∀i,s<=i->i<e->s'<=i->i<e'->False
theorem tf.aT4 {π:Pi}{c:Nat->Nat->CV}{z:Nat->Option Nat}{w w':World}(h:tf π c z w)
  (ha:A6 w')(hw:∀b B s q e,z b≠none->π b=some (B,s,q,e)->∀i,s<=i->i<e->cl w' B i=cl w B i/\fz w' B i=fz w B i):tf π c z w':=by
 refine⟨ha,h.lb,λb n hz=> ?_,h.dj⟩;obtain⟨B,s,e,hb,hle,h1,h2⟩:=h.hp b n hz;refine⟨B,s,e,hb,hle,λi hi he=> ?_,λj hj=> ?_⟩
 .have:=hw b B s n e (by simp[hz]) hb i hi he;rw[this.1,this.2];exact h1 i hi he
 .have:=hw b B s n e (by simp[hz]) hb (s+j) (by omega) (by omega);rw[this.1];exact h2 j hj
theorem tf.LX {π π':Pi}{c:Nat->Nat->CV}{z:Nat->Option Nat}{w:World}(h:tf π c z w)(hx:Ext π π'):tf π' c z w:=by
 refine⟨h.am,λb B s q e hz hb BN=> ?_,λb n hz=> ?_,λb b' B s q e s' q' e' oM hz uN hb fC=> ?_⟩
 .cases hh:z b with
  |none=>exact absurd hh hz
  |some n=>
   obtain⟨B1,s1,e1,hb1,_⟩:=h.hp b n hh;have e2:=hx _ _ hb1;rw[hb] at e2;cases e2;exact h.lb b B s _ e (by rw[hh];simp) hb1 BN
 .obtain⟨B,s,e,hb,hle,h1,h2⟩:=h.hp b n hz;exact⟨B,s,e,hx _ _ hb,hle,h1,λj hj=>let⟨v,a,r⟩:=h2 j hj;⟨v,a,CV.dR hx _ _ r⟩⟩
 .have yd:∀b,z b≠none->∃p,π b=some p:=λb hz=>by
   cases hh:z b with
   |none=>exact absurd hh hz
   |some n=>obtain⟨B,s,e,hb,_⟩:=h.hp b n hh;exact⟨_,hb⟩
  obtain⟨p,hp⟩:=yd b hz;obtain⟨p',uW⟩:=yd b' uN;have e1:=hx _ _ hp;rw[hb] at e1;have e2:=hx _ _ uW;rw[fC] at e2;exact h.dj b b' B s q e s' q' e' oM hz uN (hp.trans e1.symm) (uW.trans e2.symm)
theorem tf.kill {π:Pi}{c:Nat->Nat->CV}{z:Nat->Option Nat}{w:World}(h:tf π c z w)(b:Nat):
  tf π (λb' j=>if b'=b then .f .u else c b' j) (λb'=>if b'=b then none else z b') w:=by
 refine⟨h.am,λb' B s q e hz hb BN=> ?_,λb' n hz=> ?_,λb1 b2 B s q e s' q' e' oM hz uN=> ?_⟩
 .by_cases e:b'=b
  .simp[e] at hz
  .simp only[e,gG] at hz;exact h.lb b' B s q _ hz hb BN
 .by_cases e:b'=b
  .simp[e] at hz
  .simp only[e,gG] at hz ⊢;exact h.hp b' n hz
 .by_cases e1:b1=b
  .simp[e1] at hz
  by_cases e2:b2=b
  .simp[e2] at uN
  simp only[e1,e2,gG] at hz uN;exact h.dj b1 b2 B s q e s' q' e' oM hz uN
theorem tf.new {π:Pi}{c:Nat->Nat->CV}{z:Nat->Option Nat}{w:World}(h:tf π c z w){b B s e:Nat}{k:af}(hb:π b=some (B,s,k.size,e))(hle:s+k.size<=e)
  (h1:∀i,s<=i->i<e->(cl w B i).isSome=true/\fz w B i=false)(h2:∀j,j<k.size->∃v,cl w B (s+j)=some v/\(k.get j).rel π v)
  (hd:∀b' s' q' e',b'≠b->z b'≠none->π b'=some (B,s',q',e')->∀i,s<=i->i<e->s'<=i->i<e'->False)(hlb:s<e->ax.h0<=B):
  tf π (λb' j=>if b'=b then(if j<k.size then k.get j else .f .u) else c b' j) (λb'=>if b'=b then some k.size else z b') w:=by
 refine⟨h.am,λb' B' s' q' e' hz fC BN=> ?_,λb' n hz=> ?_,λb1 b2 B' s1 q1 e1 s2 q2 e2 oM hz uN hb1 Fj i i1 i2 i3 i4=> ?_⟩
 .by_cases x:b'=b
  .subst x;rw[hb] at fC;cases fC;exact hlb BN
  .simp only[x,gG] at hz;exact h.lb b' B' s' q' e' hz fC BN
 .by_cases e':b'=b
  .subst e';simp only[lZ,j9] at hz;subst hz;refine⟨B,s,e,hb,hle,h1,λj hj=> ?_⟩;simp only[lZ,hj];exact h2 j hj
  .simp only[e',gG] at hz ⊢;exact h.hp b' n hz
 .by_cases x1:b1=b
  .subst x1;have x2:b2≠b1:=λx=>oM x.symm
   rw[hb] at hb1;cases hb1;simp only[x2,gG] at uN;exact hd b2 s2 q2 e2 x2 uN Fj i i1 i2 i3 i4
  .by_cases x2:b2=b
   .subst x2;rw[hb] at Fj;cases Fj;simp only[x1,gG] at hz;exact hd b1 s1 q1 e1 x1 hz hb1 i i3 i4 i1 i2
   .simp only[x1,x2,gG] at hz uN;exact h.dj b1 b2 B' s1 q1 e1 s2 q2 e2 oM hz uN hb1 Fj i i1 i2 i3 i4
omit [ax] in
theorem eU {w:World}{B o:Nat}{vs:List Value}{B' i:Nat}(h:B'=B->i<o∨o+vs.length<=i):cl (w.setCells B o vs) B' i=cl w B' i:=
 World.cell?_setCells_out B vs o w ⟨B',i,none⟩ λe _=>h e
omit [ax] in
theorem oq {w:World}{B o:Nat}{vs:List Value}(h:∀j,j<vs.length->(cl w B (o+j)).isSome=true){j:Nat}(hj:j<vs.length):cl (w.setCells B o vs) B (o+j)=some vs[j]:=
 World.cell?_setCells_in B vs o w h j hj
omit [ax] in
theorem pX {w:World}{B o:Nat}{vs:List Value}{B' i:Nat}:fz (w.setCells B o vs) B' i=fz w B' i:=World.frozen?_setCells B vs o w _
omit [ax] in
theorem al0 {B:Nat}:∀{vs:List Value} {o:Nat} {w:World},(w.setCells B o vs).heap.size=w.heap.size
 | [],_,_=>rfl
 |v::vs,o,w=>by rw[World.setCells,al0];simp[World.setCell]
omit [ax] in
theorem isSome_setCells {w:World}{B o:Nat}{vs:List Value}(h:∀j,j<vs.length->(cl w B (o+j)).isSome=true){B' i:Nat}(hi:(cl w B' i).isSome=true):(cl (w.setCells B o vs) B' i).isSome=true:=by
 by_cases hc:B'=B/\o<=i/\i<o+vs.length
 .obtain⟨rfl,h1,h2⟩:=hc;have:=oq h (j:=i-o) (by omega);rw[show o+(i-o)=i by omega] at this;simp[this]
 .rw[eU];exact hi;intro e;omega
theorem jF {π:Pi}{k:af}{xs:List Value}(h:bn (CV.rel π) k.list xs):xs.length=af.size k/\∀j,j<af.size k->∃x,xs[j]? =some x/\(af.get k j).rel π x:=by
 refine⟨by rw[<-h.length,af.avx],λj hj=> ?_⟩;exact h.get (by rw[af.agE,if_pos hj])
theorem yC {π:Pi}{k:af}{xs:List Value}(hl:xs.length=af.size k)(h:∀j,j<af.size k->∃x,xs[j]? =some x/\(af.get k j).rel π x):bn (CV.rel π) k.list xs:=by
 refine bn.agI (by rw[af.avx,hl]) λi a b ha hb=> ?_;rw[af.agE] at ha;split at ha
 .rename_i hi
  cases ha;obtain⟨x,hx,hr⟩:=h i hi;rw[hb] at hx;cases hx;exact hr
 .cases ha
theorem A6.setCells {w:World}(h:A6 w){B o:Nat}{xs:List Value}(hB:0<xs.length->ax.h0<=B):A6 (w.setCells B o xs):=by
 refine⟨by rw[al0];exact h.sz,λB' i hB'=>by rw[pX];exact h.fr B' i hB',λB' i v hv=> ?_⟩;obtain⟨h1,h2⟩:=h.st B' i v hv;refine⟨h1,?_⟩;rw[eU]
 .exact h2
 .intro e;rcases acb xs.length with h0|h0
  .omega
  .have:=hB h0;omega
theorem tf.set {π:Pi}{c:Nat->Nat->CV}{z:Nat->Option Nat}{w:World}(h:tf π c z w){b n B s e lo:Nat}{vs:af}{xs:List Value}(hz:z b=some n)(hb:π b=some (B,s,n,e))(hn:lo+af.size vs<=n)
  (hx:bn (CV.rel π) vs.list xs):
  tf π (λb' j=>if b'=b/\lo<=j/\j<lo+af.size vs then af.get vs (j-lo) else c b' j) z (w.setCells B (s+lo) xs):=by
 obtain⟨B',s',e',fC,hle,h1,h2⟩:=h.hp b n hz;rw[hb] at fC;cases fC;obtain⟨hlen,alZ⟩:=jF hx;have hin:∀j,j<xs.length->(cl w B (s+lo+j)).isSome=true:=λj hj=>(h1 _ (by omega) (by omega)).1
 refine⟨h.am.setCells λhl=>h.lb b B s n e (by rw[hz];simp) hb (by omega),h.lb,λb' n' uN=> ?_,h.dj⟩;obtain⟨B2,s2,e2,Fj,aes,k1,k2⟩:=h.hp b' n' uN;refine⟨B2,s2,e2,Fj,aes,λi hi he=>⟨isSome_setCells hin (k1 i hi he).1,by rw[pX];exact(k1 i hi he).2⟩,λj hj=> ?_⟩;by_cases eb:b'=b
 .subst eb;rw[hb] at Fj;cases Fj;by_cases hc:lo<=j/\j<lo+af.size vs
  .have hj':j-lo<xs.length:=by omega
   have:=oq hin hj';rw[show s+lo+(j-lo)=s+j by omega] at this;refine⟨_,this,?_⟩;rw[if_pos ⟨rfl,hc⟩];obtain⟨x,hx1,hx2⟩:=alZ (j-lo) (by omega);rw[kT hj'] at hx1;cases hx1;exact hx2
  .rw[if_neg (by simp only[AK];exact hc),eU (λ_=>by omega)];exact k2 j hj
 .rw[if_neg (by simp[eb]),eU]
  .exact k2 j hj
  .intro e;subst e;by_cases hc:s+lo<=s2+j/\s2+j<s+lo+xs.length
   .exact(h.dj b' b B2 s2 _ e2 s _ e eb (by simp[uN]) (by simp[hz]) Fj hb (s2+j) (by omega) (by omega) (by omega) (by omega)).elim
   .omega
structure Cx where
 w0:World
 k:Nat
 p0:Pi
 N:Nat
def Df (p0:Pi)(k:Nat)(D:Nat->Prop)(B i:Nat):Prop:=∃b s q e,b<k/\D b/\p0 b=some (B,s,q,e)/\s<=i/\i<e
structure Rel (X:Cx)(D:Nat->Prop)(π:Pi)(g:Gt)(a:Act)(w:World):Prop where
 tm:∀i,(g.t i).rel π (a.tmps.getD i undef)
 nt:a.tmps.size=X.N
 df:a.defers=[]
 hp:tf π g.c g.z w
 yd:∀b,b<X.k->π b=X.p0 b
 ft:∀b B s q e,X.k<=b->g.z b≠none->π b=some (B,s,q,e)->B<X.w0.heap.size->∀i,s<=i->i<e->Df X.p0 X.k D B i
 fr:cj X.w0 (Df X.p0 X.k D) w
theorem Rel.dst {X:Cx}{D:Nat->Prop}{π:Pi}{g:Gt}{a:Act}{w:World}(R:Rel X D π g a w){dst:Option Tmp}(hd:∀d,dst=some d->d<X.N){v:AV}{x:Value}(hv:v.rel π x):
  Rel X D π (cH (ee dst v) g) (a.put dst x) w:=by
 cases dst with
 |none=>exact R
 |some d=>
  have oo:d<a.tmps.size:=by rw[R.nt];exact hd d rfl
  refine⟨λi=> ?_,by simpa[Act.put] using R.nt,R.df,R.hp,R.yd,R.ft,R.fr⟩;show(if i=d then v else g.t i).rel π ((a.tmps.setIfInBounds d x).getD i undef);by_cases e:i=d
  .subst e;simp[oo,hv]
  .rw[if_neg e];have:=R.tm i;simpa[aTI (Ne.symm e)] using this
theorem Rel.LX {X:Cx}{D:Nat->Prop}{π π':Pi}{g:Gt}{a:Act}{w:World}(R:Rel X D π g a w)(hx:Ext π π')(ho:∀b,b<X.k->π' b=π b):Rel X D π' g a w:=by
 refine⟨λi=>AV.dR hx _ _ (R.tm i),R.nt,R.df,R.hp.LX hx,λb hb=>(ho b hb).trans (R.yd b hb),λb B s q e hk hz hb=> ?_,R.fr⟩
 have:∃p,π b=some p:=by
  cases hh:g.z b with
  |none=>exact absurd hh hz
  |some n=>obtain⟨B,s,e,hb,_⟩:=R.hp.hp b n hh;exact⟨_,hb⟩
 obtain⟨p,hp⟩:=this;have:=hx _ _ hp;rw[hb] at this;cases this;exact R.ft b B s q e hk hz hp
theorem Rel.aLk {X:Cx}{D D':Nat->Prop}{π:Pi}{g:Gt}{a:Act}{w:World}(R:Rel X D π g a w)(h:∀b,D b->D' b):Rel X D' π g a w:=
 ⟨R.tm,R.nt,R.df,R.hp,R.yd,λb B s q e hk hz hb hB i h1 h2=>let⟨b0,s0,q0,e0,x1,x2,x3⟩:=R.ft b B s q e hk hz hb hB i h1 h2;⟨b0,s0,q0,e0,x1,h _ x2,x3⟩,
  R.fr.mono λB i _ ⟨b0,s0,q0,e0,x1,x2,x3⟩=>⟨b0,s0,q0,e0,x1,h _ x2,x3⟩⟩
theorem Rel.drew {X:Cx}{D:Nat->Prop}{π:Pi}{g:Gt}{a:Act}{w:World}(R:Rel X D π g a w):Rel X D π g a {w with drawn:=w.drawn+1}:=
 ⟨R.tm,R.nt,R.df,R.hp.aT4 (R.hp.am.same rfl) λ_ _ _ _ _ _ _ _ _ _=>⟨rfl,rfl⟩,R.yd,R.ft,R.fr.drew⟩
theorem Rel.kill {X:Cx}{D:Nat->Prop}{π:Pi}{g:Gt}{a:Act}{w:World}(R:Rel X D π g a w)(b:Nat):Rel X D π ((Up.kill b).hX g) a w:=by
 refine⟨R.tm,R.nt,R.df,R.hp.kill b,R.yd,λb' B s q e hk hz=> ?_,R.fr⟩;by_cases eb:b'=b
 .exact absurd (by simp[Up.hX,eb]) hz
 .exact R.ft b' B s q e hk (by simpa[Up.hX,eb] using hz)
def AJ (π:Pi)(b:Nat)(p:Nat×Nat×Nat×Nat):Pi:=λb'=>if b'=b then some p else π b'
omit [ax] in
theorem qC (π:Pi)(b:Nat)(p:Nat×Nat×Nat×Nat):AJ π b p b=some p:=by simp[AJ]
omit [ax] in
theorem A7 {π:Pi}{b:Nat}(h:π b=none)(p:Nat×Nat×Nat×Nat):Ext π (AJ π b p):=by
 intro b' q hq;simp only[AJ];by_cases e:b'=b
 .subst e;rw[h] at hq;cases hq
 .simp[e,hq]
theorem Rel.new {X:Cx}{D:Nat->Prop}{π:Pi}{g:Gt}{a:Act}{w:World}(R:Rel X D π g a w){b B s e:Nat}{k:af}(hb:π b=some (B,s,k.size,e))(hk:X.k<=b)(hle:s+k.size<=e)
  (h1:∀i,s<=i->i<e->(cl w B i).isSome=true/\fz w B i=false)(h2:∀j,j<k.size->∃v,cl w B (s+j)=some v/\(k.get j).rel π v)
  (hd:∀b' s' q' e',b'≠b->g.z b'≠none->π b'=some (B,s',q',e')->∀i,s<=i->i<e->s'<=i->i<e'->False)
  (hf:B<X.w0.heap.size->∀i,s<=i->i<e->Df X.p0 X.k D B i)(hlb:s<e->ax.h0<=B:=by intro h;omega):Rel X D π ((Up.new b k).hX g) a w:=by
 refine⟨R.tm,R.nt,R.df,R.hp.new hb hle h1 h2 hd hlb,R.yd,λb' B' s' q' e' LA hz fC hB i i1 i2=> ?_,R.fr⟩;by_cases eb:b'=b
 .subst eb;rw[hb] at fC;cases fC;exact hf hB i i1 i2
 .exact R.ft b' B' s' q' e' LA (by simpa[Up.hX,eb] using hz) fC hB i i1 i2
theorem Rel.alloc {X:Cx}{D:Nat->Prop}{π:Pi}{g:Gt}{a:Act}{w:World}(R:Rel X D π g a w){b e:Nat}{k:af}{cs:Array Value}{t:TypeId}(hb:π b=none)(hk:X.k<=b)(hle:k.size<=e)(he:e<=cs.size)
  (h2:∀j,j<k.size->∃v,cs[j]? =some v/\(k.get j).rel π v):
  Rel X D (AJ π b (w.heap.size,0,k.size,e)) ((Up.new b k).hX g) a (w.alloc (.cells cs t)):=by
 have hx:=A7 hb (w.heap.size,0,k.size,e)
 have live:∀b' B' s' q' e',g.z b'≠none->π b'=some (B',s',q',e')->∀i,s'<=i->i<e'->B'<w.heap.size:=λb' B' s' q' e' hz fC i i1 i2=>by
  cases hh:g.z b' with
  |none=>exact absurd hh hz
  |some n=>
   obtain⟨_,_,_,Fj,_,k1,_⟩:=R.hp.hp b' n hh;rw[fC] at Fj;cases Fj;exact acm (k1 i i1 i2).1
 have R1:Rel X D π g a (w.alloc (.cells cs t)):=
  ⟨R.tm,R.nt,R.df,R.hp.aT4 (R.hp.am.alloc cs t) λb' B' s' q' e' hz fC i i1 i2=>⟨aJj (live b' B' s' q' e' hz fC i i1 i2),aUD (live b' B' s' q' e' hz fC i i1 i2)⟩,R.yd,R.ft,R.fr.alloc _ _⟩
 have R2:=R1.LX hx (λb' fC=>by simp only[AJ];rw[if_neg (by omega)]);have Ej:∀i,cl (w.alloc (.cells cs t)) w.heap.size i=cs[i]? :=λi=>World.cell?_alloc_new w cs t i
 refine R2.new (s:=0) (qC _ _ _) hk (by omega) (λi _ i2=>⟨?_,World.frozen?_alloc_new w cs t i⟩) (λj hj=> ?_) (λb' s' q' e' oM hz fC i _ _ i3 i4=> ?_) (λhB=> ?_) (λ_=>R.hp.am.sz)
 .rw[Ej];simp;omega
 .obtain⟨v,hv,hr⟩:=h2 j hj;exact⟨v,by rw[hI,Ej];exact hv,CV.dR hx _ _ hr⟩
 .simp only[AJ,oM,gG] at fC;exact absurd (live b' _ s' q' e' hz fC i i3 i4) (Nat.lt_irrefl _)
 .have:=R.fr.size;omega
theorem Rel.set {X:Cx}{D:Nat->Prop}{π:Pi}{g:Gt}{a:Act}{w:World}(R:Rel X D π g a w){b n B s e:Nat}{o:cD}{vs:af}{xs:List Value}(hz:g.z b=some n)(hb:π b=some (B,s,n,e))(hn:o.val+af.size vs<=n)
  (hx:bn (CV.rel π) vs.list xs)(hD:b<X.k->D b):Rel X D π ((Up.c b o vs).hX g) a (w.setCells B (s+o.val) xs):=by
 refine⟨R.tm,R.nt,R.df,R.hp.set hz hb hn hx,R.yd,R.ft,R.fr.setCells ?_⟩;obtain⟨B',s',e',fC,hle,h1,h2⟩:=R.hp.hp b n hz;rw[hb] at fC;cases fC;have hlen:=(jF hx).1;rcases pQ B X.w0.heap.size with hB|hB
 .right
  intro j hj;rcases pQ b X.k with hk|hk
  .exact⟨b,s,n,e,hk,hD hk,(R.yd b hk).symm.trans hb,by omega,by omega⟩
  .exact R.ft b B s n e hk (by simp[hz]) hb hB _ (by omega) (by omega)
 .exact .inl hB
end Go.Ab
namespace Go.Ab
variable [ax]
omit [ax] in
theorem nL (B o j:Nat):(⟨B,o,none⟩:Addr).add j=⟨B,o+j,none⟩:=by
 unfold Addr.add;split<;>simp_all
theorem aOn {v:Value}{c:CV}(h:ofC v=some c)(π:Pi):c.rel π v:=by
 unfold ofC at h;split at h<;>first|(cases h;rfl)|cases h
omit [ax] in
theorem aFb (v:CV)(r:af):af.list (.c v::r)=v::r.list:=by
 apply List.ext_getElem?
 intro i;rw[af.agE];cases i with
 |zero=>rw[if_pos (by rw[af.size_cons,Sg.kI];omega)];rfl
 |succ i=>
  rw[List.getElem?_cons_succ,af.agE];by_cases h:i<af.size r
  .rw[if_pos h,if_pos (by rw[af.size_cons,Sg.kI];omega),<-af.kK (l:=r) (j':=i) (by omega) (by omega)]
  .rw[if_neg h,if_neg (by rw[af.size_cons,Sg.kI];omega)]
theorem aJk:∀{vs:List Value} {cs:af},aJb vs=some cs->∀π,bn (CV.rel π) cs.list vs
 | [],cs,h,π=>by simp[aJb] at h;subst h;trivial
 |v::vs,cs,h,π=>by
  simp only[aJb] at h;split at h
  .rename_i c Th h1 h2
   cases h;rw[aFb];exact⟨aOn h1 π,aJk h2 π⟩
  .cases h
theorem aFc {v:Value}{r:RV}(h:ofR v=some r)(π:Pi):r.rel π v:=by
 have key:(ofC v).map RV.c=some r->r.rel π v:=λh=>by
  cases hc:ofC v with
  |none=>rw[hc] at h;cases h
  |some l=>rw[hc] at h;cases h;exact aOn hc π
 cases v with
 |agg cs=>
  simp only[ofR] at h;cases hc:aJb cs.toList with
  |none=>rw[hc] at h;cases h
  |some l=>rw[hc] at h;cases h;exact⟨_,rfl,aJk hc π⟩
 |_=>simp only[ofR] at h;exact key h
omit [ax] in
theorem aH.ey {α:Type}{x:Option α}{g:Gt}{a:α}{l:List Fp}(h:aH (ey x) g a l):x=some a:=by
 cases x with
 |none=>cases h
 |some b=>cases h;rfl
omit [ax] in
theorem aH.cL {x:Bool}{g:Gt}{u:Unit}{l:List Fp}(h:aH (cL x) g u l):x=true:=by
 cases h with|test h=>cases x with
  |true=>rfl
  |false=>cases h
omit [ax] in
theorem aH.asR {v:AV}{g:Gt}{a:RV}{l:List Fp}(h:aH (asR v) g a l):v=.r a:=by
 unfold Ab.asR at h;split at h
 .cases h;rfl
 .cases h
omit [ax] in
theorem aH.asC {v:AV}{g:Gt}{a:CV}{l:List Fp}(h:aH (asC v) g a l):v=.r (.c a):=by
 unfold Ab.asC at h;split at h
 .cases h;rfl
 .cases h
omit [ax] in
theorem aH.asI {v:AV}{g:Gt}{a:IntKind×Int}{l:List Fp}(h:aH (asI v) g a l):v=.r (.c (.f (.i a.1 a.2))):=by
 unfold Ab.asI at h;split at h
 .cases h;rfl
 .cases h
omit [ax] in
theorem aH.asB {v:AV}{g:Gt}{a:Bool}{l:List Fp}(h:aH (asB v) g a l):v=.r (.c (.f (.b a))):=by
 unfold Ab.asB at h;split at h
 .cases h;rfl
 .cases h
omit [ax] in
theorem aH.asP {v:AV}{g:Gt}{a:Nat×cD×Nat}{l:List Fp}(h:aH (asP v) g a l):v=.r (.c (.ptr a.1 a.2.1 a.2.2)):=by
 unfold Ab.asP at h;split at h
 .cases h;rfl
 .cases h
section
variable {X:Cx} {D:Nat->Prop} {π:Pi} {g:Gt} {a:Act} {w:World}
theorem aH.Ei {x:Operand}{v:AV}{l:List Fp}(h:aH (Ei x) g v l)(R:Rel X D π g a w):v.rel π (a.eval x):=by
 cases x with
 |tmp t=>cases h with|tm h=>cases h;exact R.tm t
 |const c=>
  obtain⟨r,⟨_,h1⟩,_,h2⟩:=aH.bind' h;cases h2;exact aFc h1.ey π
 |func f=>cases h;exact⟨#[],rfl,trivial⟩
 |global g=>cases h
theorem aH.wM {x:Operand}{v:RV}{l:List Fp}(h:aH (wM x) g v l)(R:Rel X D π g a w):v.rel π (a.eval x):=by
 obtain⟨r,⟨_,h1⟩,_,h2⟩:=aH.bind' h;have:=h1.Ei R;rw[h2.asR] at this;exact this
theorem aH.aN3 {x:Operand}{v:RV}{l:List Fp}(h:aH (aN3 x) g v l)(R:Rel X D π g a w):v.rel π (a.eval x):=by
 obtain⟨r,⟨_,h1⟩,_,h2⟩:=aH.bind' h;have:=h1.Ei R;unfold Ab.asS at h2;split at h2
 .cases h2;exact this
 .cases h2;obtain⟨arr,hx,ha⟩:=this;obtain⟨arr⟩:=arr;match arr,ha with
  | [y],⟨hy,_⟩=>
   obtain⟨B,s,q,e,hb,rfl,hle⟩:=hy;exact⟨B,s,q,e,hb,hx,hle⟩
 .cases h2
theorem aH.G7 {x:Operand}{v:CV}{l:List Fp}(h:aH (G7 x) g v l)(R:Rel X D π g a w):v.rel π (a.eval x):=by
 obtain⟨r,⟨_,h1⟩,_,h2⟩:=aH.bind' h;have:=h1.Ei R;rw[h2.asC] at this;exact this
theorem aH.KZ {x:Operand}{v:IntKind×Int}{l:List Fp}(h:aH (KZ x) g v l)(R:Rel X D π g a w):a.eval x=.int v.1 v.2:=by
 obtain⟨r,⟨_,h1⟩,_,h2⟩:=aH.bind' h;have:=h1.Ei R;rw[h2.asI] at this;exact this
theorem aH.aJc {x:Operand}{v:Bool}{l:List Fp}(h:aH (aJc x) g v l)(R:Rel X D π g a w):a.eval x=.bool v:=by
 obtain⟨r,⟨_,h1⟩,_,h2⟩:=aH.bind' h;have:=h1.Ei R;rw[h2.asB] at this;exact this
theorem aH.aN4 {x:Operand}{v:Nat×cD×Nat}{l:List Fp}(h:aH (aN4 x) g v l)(R:Rel X D π g a w):∃B s q e,π v.1=some (B,s,q,e)/\a.eval x=.pointer (some ⟨B,s+v.2.1.val,none⟩)/\v.2.1.val+v.2.2<=q:=by
 obtain⟨r,⟨_,h1⟩,_,h2⟩:=aH.bind' h;have:=h1.Ei R;rw[h2.asP] at this;exact this
omit [ax] in
theorem aH.uw {α β:Type}{f:α->Rd β}{ρ:β->α->Prop}(hf:∀x v l,aH (f x) g v l->ρ v x):∀{xs:List α} {vs:List β} {l:List Fp},aH (uw f xs) g vs l->bn ρ vs xs
 | [],vs,l,h=>by cases h;trivial
 |x::xs,vs,l,h=>by
  obtain⟨v,⟨_,h1⟩,_,h2⟩:=aH.bind' h;obtain⟨kz,⟨_,h3⟩,_,h4⟩:=aH.bind' h2;cases h4;exact⟨hf x v _ h1,aH.uw hf h3⟩
omit [ax] in
theorem JQ {P:Program}{t:TypeId}{v:Bool}(h:aep P t=some v)(w:World):(isAgg t).run P w=.ok v w:=by
 unfold aep at h;unfold isAgg;cases hu:P.underlying t with
 |none=>rw[hu] at h;cases h
 |some d=>rw[hu] at h;cases d<;>simp[run_underlying hu]<;>simp_all
omit [ax] in
theorem aq3 {P:Program}{t:TypeId}{n:Nat}(h:jd P t=some n):∃i,P.info? t=some i/\i.size=n:=by
 unfold jd at h;cases hi:P.info? t with
 |none=>rw[hi] at h;cases h
 |some i=>rw[hi] at h;exact⟨i,rfl,by simpa using h⟩
omit [ax] in
theorem run_typeInfo {P:Program}{t:TypeId}{i:TypeInfo}(h:P.info? t=some i)(w:World):(typeInfo t).run P w=.ok i w:=by simp[typeInfo,h]
omit [ax] in
theorem run_sizeOf {P:Program}{t:TypeId}{n:Nat}(h:jd P t=some n)(w:World):(sizeOf t).run P w=.ok n w:=by
 obtain⟨i,hi,rfl⟩:=aq3 h;simp[sizeOf,run_typeInfo hi]
theorem aet {P:Program}{t:TypeId}{r:RV}(h:A3 P t=some r)(w:World):∃x,(zeroValue t).run P w=.ok x w/\(∃it:TypeInfo,P.info? t=some it/\it.zero=some x)/\∀π,r.rel π x:=by
 unfold A3 at h;cases hi:P.info? t with
 |none=>rw[hi] at h;cases h
 |some i=>
  rw[hi] at h;simp only[bR] at h;cases hz:i.zero with
  |none=>rw[hz] at h;cases h
  |some x=>
   rw[hz] at h;simp only[bR] at h;refine⟨x,by simp[zeroValue,run_typeInfo hi,hz],⟨i,rfl,hz⟩,λπ=> ?_⟩;split at h
   .rename_i b hb
    simp only[nj] at h;obtain⟨b',h1,rfl⟩:=h;obtain⟨e1,e2⟩:=alX h1;obtain⟨arr,rfl,hr⟩:=aFc hb π;obtain⟨l1,l2⟩:=jF hr;exact⟨arr,rfl,yC (by rw[l1,e1]) λj hj=>by rw[e2];exact l2 j (by omega)⟩
   .exact aFc h π
omit [ax] in
theorem aLl {P:Program}(ob:Obj)(w:World):(newObj ob).run P w=.ok w.heap.size (w.alloc ob):=rfl
omit [ax] in
theorem LY {P:Program}(t:TypeId)(cs:Array Value)(w:World):(newRow t cs).run P w=.ok ⟨w.heap.size,0,none⟩ (w.alloc (.cells cs t)):=by
 simp only[newRow,Sem.run_bind,aLl,Result.andThen_ok,Sem.run_pure]
theorem Rel.view (R:Rel X D π g a w){b q n:Nat}{o:cD}{v:af}(hz:g.z b=some q)(hs:af.size v=n)(hv:o.val+n<=q->∀j,j<n->af.get v j=g.c b (o.val+j)){B s q' e:Nat}(hb:π b=some (B,s,q',e))(hn:o.val+n<=q'):
  q'=q/\∃xs:List Value,xs.length=n/\bn (CV.rel π) v.list xs/\∀j x,xs[j]? =some x->cl w B (s+o.val+j)=some x:=by
 obtain⟨B',s',e',fC,hle,_,h2⟩:=R.hp.hp b q hz;rw[hb] at fC;cases fC;have hv:=hv hn
 have cell:∀j,j<n->∃x,cl w B (s+o.val+j)=some x/\(af.get v j).rel π x:=λj hj=>by
  obtain⟨x,hx,hr⟩:=h2 (o.val+j) (by omega);rw[<-hv j hj] at hr;exact⟨x,by rw[show s+o.val+j=s+(o.val+j) by omega];exact hx,hr⟩
 refine⟨rfl,(List.range n).map λj=>(cl w B (s+o.val+j)).getD undef,by simp,yC (by simp[hs]) λj hj=> ?_,λj x hx=> ?_⟩
 .obtain⟨x,hx,hr⟩:=cell j (by omega);refine⟨x,?_,hr⟩;rw[Cb,List.getElem?_range (by omega)];simp[hx]
 .have hjn:j<n:=by
   have:=(me.1 hx).1;simpa using this
  obtain⟨u,hu,_⟩:=cell j hjn;simp[hjn,hu] at hx
  rw[hu,hx]
omit [ax] in
theorem aap {P:Program}{w:World}{B o:Nat}{xs:List Value}(h:∀j v,xs[j]? =some v->cl w B (o+j)=some v):(loadCells ⟨B,o,none⟩ xs.length).run P w=.ok xs.toArray w:=
 run_loadCells_list w _ xs λj v hj=>by rw[nL];exact h j v hj
omit [ax] in
theorem aH.aty {b:af}{v:RV}{l:List Fp}(h:aH (aty b) g v l):∃c,b=[.c c]/\v=.c c:=by
 unfold Ab.aty at h;split at h
 .cases h;exact⟨_,rfl,rfl⟩
 .cases h
theorem aH.aaj {P:Program}(R:Rel X D π g a w){t:TypeId}{b m:Nat}{o:cD}{v:RV}{l:List Fp}(h:aH (aaj P t b o m) g v l){B s q' e:Nat}(hb:π b=some (B,s,q',e))(hm:o.val+m<=q'):
  ∃x,(loadVar t ⟨B,s+o.val,none⟩).run P w=.ok x w/\v.rel π x:=by
 obtain⟨ag,⟨_,h1⟩,_,h⟩:=aH.bind' h;obtain⟨n,⟨_,h2⟩,_,h⟩:=aH.bind' h;have h1:=h1.ey;have h2:=h2.ey;cases ag with
 |true=>
  obtain⟨_,⟨_,h3⟩,_,h⟩:=aH.bind' h;have h3:=fH.1 h3.cL;cases h with|vw q u hz hs hv h=>
  cases h;simp only[Sz.val,Vt] at hs hv;obtain⟨_,xs,hl,hx,hc⟩:=R.view hz hs hv hb (by omega);refine⟨.agg xs.toArray,?_,⟨_,rfl,hx⟩⟩;have:=aap (P:=P) hc;rw[hl] at this;simp[loadVar,JQ h1,run_sizeOf h2,this]
 |false=>
  obtain⟨_,⟨_,h3⟩,_,h⟩:=aH.bind' h;have h3:=fH.1 h3.cL;cases h with|vw q u hz hs hv h=>
  simp only[Sz.val,Vt] at hs hv;obtain⟨_,xs,hl,hx,hc⟩:=R.view hz hs hv hb (by omega);obtain⟨c,rfl,rfl⟩:=h.aty;rw[aUB] at hx
  obtain⟨x,rfl⟩:∃x,xs=[x]:=by
   match xs,hl with
   | [x],_=>exact⟨x,rfl⟩
  have hcx:=hc 0 x rfl;simp only[kC] at hcx;refine⟨x,?_,hx.1⟩;simp only[cl] at hcx;simp[loadVar,JQ h1,hcx]
omit [ax] in
theorem aH.aEN {b v:af}{o:cD}{cE:Sz}{z:Nat}{l:List Fp}(h:aH (aEN b o cE z) g v l):b.sub o cE z=some (true,v):=by
 unfold Ab.aEN at h;split at h
 .rename_i p hp
  cases h with|test h=>
  obtain⟨gg,u⟩:=p;cases gg with
  |true=>cases h;exact hp
  |false=>cases h
 .cases h
theorem aH.aLb {P:Program}{t:TypeId}{cs:af}{o:cD}{v:RV}{l:List Fp}(h:aH (aLb P t cs o) g v l){n:Nat}(hn:jd P t=some n)(hn1:1<=n)(hle:o.val+n<=af.size cs){xs:Array Value}(hx:bn (CV.rel π) cs.list xs.toList)(w:World):
  ∃x,(part t xs o.val).run P w=.ok x w/\v.rel π x:=by
 obtain⟨ag,⟨_,h1⟩,_,h⟩:=aH.bind' h;obtain⟨n',⟨_,h2⟩,_,h⟩:=aH.bind' h;have h1:=h1.ey;have h2:=h2.ey;rw[hn] at h2;cases h2;obtain⟨l1,l2⟩:=jF hx;cases ag with
 |true=>
  obtain⟨u,⟨_,h3⟩,_,h⟩:=aH.bind' h;cases h;obtain⟨e1,e2⟩:=af.ayv h3.aEN;simp only[Sz.val,Vt] at e1 e2;have e2:=e2 hle;refine⟨.agg (xs.extract o.val (o.val+n)),by simp[part,JQ h1,run_sizeOf hn],⟨_,rfl,?_⟩⟩
  have:(xs.extract o.val (o.val+n)).toList=(xs.toList.drop o.val).take n:=by
   rw[Array.toList_extract];simp[List.extract]
  rw[this];refine yC (by rw[List.length_take,atu,l1];omega) λj hj=> ?_;obtain⟨x,hx1,hx2⟩:=l2 (o.val+j) (by omega);refine⟨x,by rw[acd,if_pos (by omega),Te];exact hx1,?_⟩;rw[e2 j (by omega)];exact hx2
 |false=>
  obtain⟨u,⟨_,h3⟩,_,h⟩:=aH.bind' h;obtain⟨c,rfl,rfl⟩:=h.aty;obtain⟨_,e2⟩:=af.ayv h3.aEN;have e2:=e2 (by simp only[Sz.val];omega) 0 (by simp[Sz.val]);obtain⟨x,hx1,hx2⟩:=l2 o.val (by omega);refine⟨x,?_,?_⟩
  .have:xs[o.val]? =some x:=by simpa using hx1
   simp[part,JQ h1,this]
  .rw[kC] at e2;rw[<-e2] at hx2;exact hx2
theorem a2A {n:Nat}{q:Nat->Bool}{x:Value}(h:(CV.f (.q n q)).rel π x):(CV.fs n 1 [.b q]).rel π x:=by
 refine⟨rfl,?_⟩;rcases h with h| ⟨B,s,cap,h1,h2,h3⟩
 .exact .inl h
 .refine .inr ⟨B,s,cap,h1,h2,λj hj=>⟨.b (q j),.bool (q j),?_,h3 j (by omega),rfl⟩⟩;simp[je,Nat.mod_one,cS.at]
omit [ax] in
theorem aH.a2B {P:Program}{t:TypeId}{c c':CV}{l:List Fp}(h:aH (aJd P t c) g c' l):c'=c∨∃n q,c=.f (.q n q)/\c'=.fs n 1 [.b q]:=by
 unfold Ab.aJd at h;generalize P.underlying t=u at h
 split at h
 .cases h with|@test x _ _ _ _ h=>
  cases hx:FV.isB _<;>rw[hx] at h<;>cases h
  rename_i x;cases x<;>first|exact .inl rfl|cases hx
 .cases h with|@test x _ _ _ _ h=>
  cases hx:FV.isI _ _<;>rw[hx] at h<;>cases h
  rename_i k x;cases x<;>first|(cases hx;done)|skip
  simp only[FV.isI,mf] at hx;subst hx;exact .inl rfl
 .cases h with|@test x _ _ _ _ h=>
  cases hx:FV.isS _<;>rw[hx] at h<;>cases h
  rename_i x;cases x<;>first|exact .inl rfl|cases hx
 .cases h;exact .inr ⟨_,_,rfl,rfl⟩
 .cases h;exact .inl rfl
theorem aH.aJd {P:Program}{t:TypeId}{c c':CV}{l:List Fp}(h:aH (aJd P t c) g c' l){x:Value}(hx:c.rel π x):c'.rel π x:=by
 rcases h.a2B with rfl| ⟨n,q,rfl,rfl⟩
 .exact hx
 .exact a2A hx
theorem aH.aqX {P:Program}{t:TypeId}{c c':RV}{l:List Fp}(h:aH (aqX P t c) g c' l){π:Pi}{x:Value}(hx:c.rel π x):c'.rel π x:=by
 cases c with
 |c c=>
  obtain⟨v,⟨_,h1⟩,_,h⟩:=aH.bind' h;cases h;exact h1.aJd hx
 |agg cs=>
  cases h;obtain⟨xs,rfl,hx⟩:=hx;obtain⟨l1,l2⟩:=jF hx;obtain⟨n1,n2⟩:=aSd P t cs;refine⟨xs,rfl,yC (by rw[l1,n1]) λj hj=> ?_⟩;rw[n1] at hj;rw[n2 j hj];exact l2 j hj
theorem aH.valueOf {P:Program}(R:Rel X D π g a w){t:TypeId}{b m:Nat}{o:cD}{v:RV}{l:List Fp}(h:aH (valueOf P t b o m) g v l){B s q' e:Nat}(hb:π b=some (B,s,q',e))(hm:o.val+m<=q'):
  ∃x,(loadVar t ⟨B,s+o.val,none⟩).run P w=.ok x w/\v.rel π x:=by
 obtain⟨u,⟨_,h1⟩,_,h⟩:=aH.bind' h;obtain⟨x,hx,hr⟩:=aH.aaj R h1 hb hm;exact⟨x,hx,h.aqX hr⟩
theorem aH.partOf {P:Program}{t:TypeId}{cs:af}{o:cD}{v:RV}{l:List Fp}(h:aH (partOf P t cs o) g v l){n:Nat}(hn:jd P t=some n)(hn1:1<=n)(hle:o.val+n<=af.size cs){xs:Array Value}(hx:bn (CV.rel π) cs.list xs.toList)(w:World):
  ∃x,(part t xs o.val).run P w=.ok x w/\v.rel π x:=by
 obtain⟨u,⟨_,h1⟩,_,h⟩:=aH.bind' h;obtain⟨x,hx1,hr⟩:=aH.aLb h1 hn hn1 hle hx w;exact⟨x,hx1,h.aqX hr⟩
theorem aH.OL {P:Program}{t:TypeId}{cs:af}{c:Nat}{v:RV}{l:List Fp}(h:aH (OL P t cs c) g v l){xs:Array Value}(hx:bn (CV.rel π) cs.list xs.toList)(w:World):
  ∃x,(part t xs c).run P w=.ok x w/\v.rel π x:=by
 obtain⟨n,⟨_,h1⟩,_,h⟩:=aH.bind' h;obtain⟨_,⟨_,h2⟩,_,h⟩:=aH.bind' h;have h2:=h2.cL;simp only[cq,fH] at h2;exact h.partOf h1.ey h2.1 h2.2 hx w
end
def cE (us:List Up):Nat:=(us.filter λ|.new _ _=>true|_=>false).length
def Up.perm (k:Nat)(D:Nat->Prop):Up->Prop
 |.c b _ _|.kill b=>b<k->D b
 |_=>True
def AE (P:Program)(o:Oper)(X:Cx)(D:Nat->Prop)(aI:Nat)(us:List Up)(g:Gt):Prop:=
 ∀π a w (next:Act->World->Prop) (Q:Exit->Act->World->Prop),Rel X D π g a w->X.k<=aI->(∀b,aI<=b->b<aI+cE us->π b=none)->(∀d,o.dst=some d->d<X.N)->(∀u∈us,u.perm X.k D)->
  (∀a' w' π',Ext π π'->(∀b,π' b≠none->π b≠none∨(aI<=b/\b<aI+cE us))->Rel X D π' (cH us g) a' w'->next a' w')->o.wp P a w next Q
section
variable {P:Program} {o:Oper} {X:Cx} {D:Nat->Prop} {aI:Nat} {us:List Up} {g:Gt}
omit [ax] in
theorem QH {a:Act}{w w':World}{x:Value}{next:Act->World->Prop}{Q:Exit->Act->World->Prop}(h:(execOp a.eval o).run P w=.ok (.value x) w')(hn:next (a.put o.dst x) w'):o.wp P a w next Q:=by
 unfold Oper.wp;rw[h];exact hn
omit [ax] in
theorem a0G {a:Act}{w w':World}{next:Act->World->Prop}{Q:Exit->Act->World->Prop}(h:(execOp a.eval o).run P w=.ok .skip w')(hn:next (a.put o.dst undef) w'):o.wp P a w next Q:=by
 unfold Oper.wp;rw[h];exact hn
theorem iR {v:AV}(h:∀π a w,Rel X D π g a w->∃x,(execOp a.eval o).run P w=.ok (.value x) w/\v.rel π x):AE P o X D aI (ee o.dst v) g:=by
 intro π a w next Q R hk hf hd hD hn;obtain⟨x,h1,h2⟩:=h π a w R;exact QH h1 (hn _ _ π (Ext.refl _) (λb h=>.inl h) (R.dst hd h2))
theorem atE (π:Pi):udf.rel π undef:=⟨#[],rfl,trivial⟩
theorem aFd {x:Operand}{fp:List Fp}(ho:o.op=.move x∨o.op=.assign x)(h:aH ((Ei x).bind λv=>.ret (ee o.dst v)) g us fp):AE P o X D aI us g:=by
 obtain⟨v,⟨_,h1⟩,_,h2⟩:=aH.bind' h;cases h2;refine iR λπ a w R=>⟨a.eval x,?_,h1.Ei R⟩
 rcases ho with ho|ho<;>simp[execOp,ho]
theorem aSi {c x y:Operand}{fp:List Fp}(ho:o.op=.pick c x y)(h:aH ((aJc c).bind λz=>.test z λ|true=>(Ei x).bind λv=>.ret (ee o.dst v)|false=>(Ei y).bind λv=>.ret (ee o.dst v)) g us fp):AE P o X D aI us g:=by
 obtain⟨z,⟨_,h1⟩,_,h2⟩:=aH.bind' h;cases h2 with|test h2=>
 cases z with
 |true=>
  obtain⟨v,⟨_,h3⟩,_,h4⟩:=aH.bind' h2;cases h4;refine iR λπ a w R=>⟨a.eval x,?_,h3.Ei R⟩
  simp[execOp,ho,h1.aJc R,asBool]
 |false=>
  obtain⟨v,⟨_,h3⟩,_,h4⟩:=aH.bind' h2;cases h4;refine iR λπ a w R=>⟨a.eval y,?_,h3.Ei R⟩
  simp[execOp,ho,h1.aJc R,asBool]
theorem aaq:∀(ks:List (Option (Nat×List CK))) (b:af) (aI:Nat),af.size (Ti ks b aI).1=af.size b/\(∀e∈(Ti ks b aI).2,af.size e=0)/\
  ∀π:Pi,(∀i,i<(Ti ks b aI).2.length->π (aI+i)=some (0,0,0,0))->∀j,j<af.size b->∀v,(af.get b j).rel π v->(af.get (Ti ks b aI).1 j).rel π v
 |_,[],_=>⟨rfl,λe h=>by simp[Ti] at h,λ_ _ _ _ _ h=>h⟩
 |ks,.a n cols::r,b=>by
  obtain⟨h1,h2,h3⟩:=aaq (ks.drop (n.val*cols.length)) r b;refine⟨by rw[Ti,af.size_cons,af.size_cons,h1],h2,λπ hp j hj v hv=> ?_⟩;rw[af.size_cons] at hj;rw[Ti];by_cases mg:j<(Sg.a n cols).size
  .rw[af.dY mg] at hv ⊢;exact hv
  .rw[af.lH (by omega)] at hv ⊢;exact h3 π hp _ (by omega) v hv
 |ks,.c v::r,b=>by
  unfold Ti;split
  .rename_i z k ks
   obtain⟨h1,h2,h3⟩:=aaq ks r (b+1);refine⟨by rw[af.size_cons,af.size_cons,h1];rfl,λe he=> ?_,λπ hp j hj v hv=> ?_⟩
   .rcases acg.1 he with rfl|he
    .simp[af.size,Sg.size,Sz.val]
    .exact h2 e he
   .rw[af.size_cons,Sg.kI] at hj;cases j with
    |zero=>
     have hv:v=.slice none 0 0:=hv;subst hv;exact⟨0,0,0,0,by simpa using hp 0 (by simp),by simp[cD.val,Sz.val],λ_=>by simp[cD.val,Sz.val],.inl ⟨rfl,none,rfl⟩⟩
    |succ j=>
     rw[af.lH (by rw[Sg.kI];omega)] at hv ⊢;exact h3 π (λi hi=>by have:=hp (i+1) (by simpa using hi);rwa [show b+1+i=b+(i+1) by omega]) _ (by rw[Sg.kI];omega) v hv
  .obtain⟨h1,h2,h3⟩:=aaq (ks.drop 1) r b;refine⟨by rw[af.size_cons,af.size_cons,h1],h2,λπ hp j hj v hv=> ?_⟩;rw[af.size_cons,Sg.kI] at hj;cases j with
   |zero=>exact hv
   |succ j=>
    rw[af.lH (by rw[Sg.kI];omega)] at hv ⊢;exact h3 π hp _ (by rw[Sg.kI];omega) v hv
theorem avA (P:Program)(t:TypeId)(b:af)(aI:Nat):af.size (jm P t b aI).1=af.size b/\(∀e∈(jm P t b aI).2,af.size e=0)/\
  ∀π:Pi,(∀i,i<(jm P t b aI).2.length->π (aI+i)=some (0,0,0,0))->∀xs,bn (CV.rel π) b.list xs->bn (CV.rel π) (af.list (jm P t b aI).1) xs:=by
 unfold jm;split
 .obtain⟨h1,h2,h3⟩:=aaq (aLe P 30 t) b aI;refine⟨h1,h2,λπ hp xs hx=> ?_⟩;obtain⟨l1,l2⟩:=jF hx;refine yC (by rw[h1,l1]) λj hj=> ?_;rw[h1] at hj;obtain⟨x,hx1,hx2⟩:=l2 j hj;exact⟨x,hx1,h3 π hp j hj x hx2⟩
 .exact⟨rfl,λe he=>by simp at he,λ_ _ _ h=>h⟩
omit [ax] in
theorem aJl (us vs:List Up):cE (us++vs)=cE us+cE vs:=by simp[cE]
omit [ax] in
theorem atF:∀(es:List af) (aI:Nat),cE (Ce es aI)=es.length
 | [],_=>rfl
 |e::es,aI=>by
  have:=atF es (aI+1);unfold cE at this ⊢;simp only[Ce,List.filter_cons,lZ,LN,this]
omit [ax] in
theorem aFe (us vs:List Up)(g:Gt):cH (us++vs) g=cH vs (cH us g):=by simp[cH]
theorem Rel.aFf {a:Act}{w:World}:∀{es:List af} {aI:Nat} {π:Pi} {g:Gt},(∀e∈es,af.size e=0)->Rel X D π g a w->X.k<=aI->(∀b,aI<=b->b<aI+es.length->π b=none)->
  ∃π',Ext π π'/\(∀b,π' b≠none->π b≠none∨(aI<=b/\b<aI+es.length))/\(∀i,i<es.length->π' (aI+i)=some (0,0,0,0))/\Rel X D π' (cH (Ce es aI) g) a w
 | [],aI,π,g,_,R,_,_=>⟨π,Ext.refl _,λ_ h=>.inl h,λi hi=>by simp at hi,R⟩
 |e::es,aI,π,g,he,R,hk,hf=>by
  have h0:=hf aI (eT _) (by simp);have he0:=he e (by simp);have hx0:=A7 h0 (0,0,af.size e,0)
  have R1:=(R.LX hx0 (λb hb=>by simp only[AJ];rw[if_neg (by omega)])).new (k:=e) (qC π aI (0,0,af.size e,0)) hk (by omega) (λi _ i2=>by omega) (λj hj=>by omega)
    (λ_ _ _ _ _ _ _ _ _ i2=>by omega) (λ_ _ _ i2=>by omega)
  obtain⟨π',e1,e2,e3,R2⟩:=Rel.aFf (es:=es) (aI:=aI+1) (λe h=>he e (by simp[h])) R1 (by omega) (λb h1 h2=>by
   simp only[AJ];rw[if_neg (by omega)];exact hf b (by omega) (by simp only[LN];omega))
  refine⟨π',hx0.trans e1,λb hb=> ?_,λi hi=> ?_,R2⟩
  .rcases e2 b hb with h|h
   .simp only[AJ] at h;by_cases eb:b=aI
    .right;simp only[LN];omega
    .rw[if_neg eb] at h;exact .inl h
   .right;simp only[LN];omega
  .cases i with
   |zero=>
    have:=e1 aI _ (qC π aI (0,0,af.size e,0));rw[he0] at this;simpa using this
   |succ i=>
    have:=e3 i (by simpa using hi);rwa [show aI+1+i=aI+(i+1) by omega] at this
theorem aFg {v:RV}{t:TypeId}(h:∀π a w,Rel X D π g a w->∃x,v.rel π x/\(execOp a.eval o).run P w=.ok (.value (.pointer (some ⟨w.heap.size,0,none⟩))) (w.alloc (.cells x.cells t))):
  AE P o X D aI (Ce (jm P t v.bS aI).2 aI++avn o.dst (aI+(jm P t v.bS aI).2.length) (af.size (jm P t v.bS aI).1) (jm P t v.bS aI).1) g:=by
 obtain⟨n1,n2,n3⟩:=avA P t v.bS aI;generalize (jm P t v.bS aI).1=k at n1 n2 n3
 generalize (jm P t v.bS aI).2=es at n1 n2 n3
 intro π a w next Q R hk hf hd hD hn;obtain⟨x,hx,h1⟩:=h π a w R
 have hcn:cE (Ce es aI++avn o.dst (aI+es.length) (af.size k) k)=es.length+1:=by
  rw[aJl,atF];unfold avn ee cE;cases o.dst<;>rfl
 rw[hcn] at hf hn;obtain⟨π1,e1,e2,e3,R1⟩:=R.aFf n2 hk (λb h1 h2=>hf b h1 (by omega));obtain⟨hl,hc⟩:=jF (n3 π1 e3 _ (RV.OP (RV.dR e1 _ _ hx)));have hl':x.cells.size=af.size k:=by simpa using hl
 have h0:π1 (aI+es.length)=none:=by
  cases hh:π1 (aI+es.length) with
  |none=>rfl
  |some p=>
   rcases e2 (aI+es.length) (by rw[hh];simp) with h|h
   .exact absurd (hf _ (by omega) (by omega)) h
   .omega
 have R2:=R1.alloc (k:=k) (cs:=x.cells) (t:=t) (e:=x.cells.size) h0 (by omega) (by omega) (eT _) (λj hj=>by
  obtain⟨y,hy,hr⟩:=hc j hj;exact⟨y,by simpa using hy,hr⟩)
 refine QH h1 (hn _ _ (AJ π1 (aI+es.length) (w.heap.size,0,af.size k,x.cells.size)) (e1.trans (A7 h0 _)) (λb hb=> ?_) ?_)
 .simp only[AJ] at hb;by_cases e:b=aI+es.length
  .subst e;exact .inr ⟨by omega,by omega⟩
  .simp only[e,gG] at hb;rcases e2 b hb with h|h
   .exact .inl h
   .exact .inr ⟨h.1,by omega⟩
 .have R3:=R2.dst hd (v:=.r (.c (.ptr (aI+es.length) (.k 0) (af.size k)))) (x:=.pointer (some ⟨w.heap.size,0,none⟩)) ⟨_,_,_,_,qC _ _ _,rfl,by simp[cD.val]⟩
  have e:cH (Ce es aI++avn o.dst (aI+es.length) (af.size k) k) g=cH (ee o.dst (.r (.c (.ptr (aI+es.length) (.k 0) (af.size k))))) ((Up.new (aI+es.length) k).hX (cH (Ce es aI) g)):=by
   rw[aFe];unfold avn ee;cases o.dst<;>rfl
  rw[e];exact R3
theorem aOo {e:TypeId}{fp:List Fp}(ho:o.op=.alloc e)(h:aH ((Ab.ey (A3 P e)).bind λz=>.ret (Ce (jm P e z.bS aI).2 aI++avn o.dst (aI+(jm P e z.bS aI).2.length) (af.size (jm P e z.bS aI).1) (jm P e z.bS aI).1)) g us fp):AE P o X D aI us g:=by
 obtain⟨z,⟨_,h1⟩,_,h2⟩:=aH.bind' h;cases h2;refine aFg (t:=e) λπ a w R=> ?_;obtain⟨x,hx,_,hr⟩:=aet h1.ey w;refine⟨x,hr π,?_⟩;simp[execOp,ho,Instr.alloc,hx,newVar,LY]
theorem aUE {t:TypeId}{x:Operand}{fp:List Fp}(ho:o.op=.box t x)(h:aH ((wM x).bind λv=>.ret (Ce (jm P t v.bS aI).2 aI++avn o.dst (aI+(jm P t v.bS aI).2.length) (af.size (jm P t v.bS aI).1) (jm P t v.bS aI).1)) g us fp):AE P o X D aI us g:=by
 obtain⟨z,⟨_,h1⟩,_,h2⟩:=aH.bind' h;cases h2;refine aFg (t:=t) λπ a w R=>⟨_,h1.wM R,?_⟩
 simp[execOp,ho,Instr.box,newVar,LY]
theorem aUF {π:Pi}{a:Act}{w:World}(R:Rel X D π g a w){l:List FV}{B s:Nat}(h:∀j f,l[j]? =some f->∃v,ax.fs B (s+j)=some v/\f.rel v):∃xs:List Value,xs.length=l.length/\bn (CV.rel π) (af.list (aEP l)) xs/\∀j v,xs[j]? =some v->cl w B (s+j)=some v:=by
 have cell:∀j f,l[j]? =some f->∃v,cl w B (s+j)=some v/\f.rel v:=λj f hj=>by
  obtain⟨v,h1,h2⟩:=h j f hj;exact⟨v,(R.hp.am.st _ _ _ h1).2,h2⟩
 have yN:af.size (aEP l)=l.length:=(WI (λv:FV=>CV.f v) l 0).1;refine⟨(List.range l.length).map λj=>(cl w B (s+j)).getD undef,by simp,yC (by simp[yN]) λj hj=> ?_,λj v hv=> ?_⟩
 .rw[yN] at hj;obtain⟨v,hv,hr⟩:=cell j _ (kT hj);refine⟨v,?_,?_⟩
  .rw[Cb,List.getElem?_range hj];simp[hv]
  .rw[show aEP l=l.map λv=>Sg.c (.f v) from rfl,(WI (λv:FV=>CV.f v) l j).2 _ (kT hj)];exact hr
 .have hjn:j<l.length:=by
   have:=(me.1 hv).1;simpa using this
  obtain⟨u,hu,_⟩:=cell j _ (kT hjn);simp[hjn,hu] at hv
  rw[hu,hv]
theorem aH.aEQ {P:Program}{π:Pi}{a:Act}{w:World}(R:Rel X D π g a w){t:TypeId}{fl:List FV}{v:RV}{l:List Fp}(h:aH (aEQ P t fl) g v l){x:Value}(hx:(CV.fp fl).rel π x):
  ∃B s y,x=.pointer (some ⟨B,s,none⟩)/\(loadVar t ⟨B,s,none⟩).run P w=.ok y w/\v.rel π y:=by
 obtain⟨B,s,rfl,hc⟩:=hx;obtain⟨xs,hl,hx,Ej⟩:=aUF R hc;obtain⟨ag,⟨_,h1⟩,_,h⟩:=aH.bind' h;obtain⟨n,⟨_,h2⟩,_,h⟩:=aH.bind' h;have h1:=h1.ey;have h2:=h2.ey;cases ag with
 |true=>
  obtain⟨_,⟨_,h3⟩,_,h⟩:=aH.bind' h;have h3:=beq_iff.1 h3.cL;refine⟨B,s,.agg xs.toArray,rfl,?_,h.aqX ⟨_,rfl,hx⟩⟩;have:=aap (P:=P) Ej;rw[hl,<-h3] at this;simp[loadVar,JQ h1,run_sizeOf h2,this]
 |false=>
  cases fl with
  |nil=>cases h
  |cons f fl=>
   match xs,hl with
   |x::xs,_=>
    have hcx:=Ej 0 x rfl;simp only[kC] at hcx;refine⟨B,s,x,rfl,?_,?_⟩
    .simp only[cl] at hcx;simp[loadVar,JQ h1,hcx]
    .have:=(jF hx).2 0 (by rw[show aEP (f::fl)=(f::fl).map λv=>Sg.c (.f v) from rfl,(WI (λv:FV=>CV.f v) (f::fl) 0).1];simp);obtain⟨y,hy,hr⟩:=this;cases hy;exact aH.aqX (c:=.c (.f f)) h hr
theorem aSj {t:TypeId}{x:Operand}{fp:List Fp}(ho:o.op=.load t x)(h:aH ((G7 x).bind λ
  |.ptr b q n=>(valueOf P t b q n).bind λv=>.ret (ee o.dst (.r v))
  |.fp l=>(aEQ P t l).bind λv=>.ret (ee o.dst (.r v))
  |_=>.fail) g us fp):AE P o X D aI us g:=by
 obtain⟨p,⟨_,h1⟩,_,h2⟩:=aH.bind' h;split at h2
 .obtain⟨v,⟨_,h3⟩,_,h4⟩:=aH.bind' h2;cases h4;refine iR λπ a w R=> ?_;obtain⟨B,s,q,e,hb,ha,hm⟩:=h1.G7 R;obtain⟨y,hy,hr⟩:=aH.valueOf R h3 hb hm;refine⟨y,?_,hr⟩;simp[execOp,ho,Instr.loadAt,ha,Instr.sureAddr,hy]
 .obtain⟨v,⟨_,h3⟩,_,h4⟩:=aH.bind' h2;cases h4;refine iR λπ a w R=> ?_;obtain⟨B,s,y,ha,hy,hr⟩:=aH.aEQ R h3 (h1.G7 R);refine⟨y,?_,hr⟩;simp[execOp,ho,Instr.loadAt,ha,Instr.sureAddr,hy]
 .cases h2
end
end Go.Ab
