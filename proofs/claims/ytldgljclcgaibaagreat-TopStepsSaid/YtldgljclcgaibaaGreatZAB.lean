/-
  Parts of the proof: AbA AbS AbM AbO
-/
import Derived.Test.YtldgljclcgaibaaGreatZAA
import Derived.Laws.IdiomCopy
import Derived.Laws.Cells
import Derived.Laws.Entries
set_option linter.unusedVariables false
set_option linter.unusedSimpArgs false
namespace Go.Ab
theorem cR.aUm (c:cR)(d j:Nat):(c.shift d).at j=c.at (d+j):=by cases c<;>rfl
theorem cR.a4r (c:cR)(d j:Nat):(c.up d).at j=c.at (j-d):=by cases c<;>rfl
theorem beq_iff {a b:Nat}:Nat.beq a b=true↔a=b:=⟨lE,λh=>h▸Ar a⟩
theorem beq_false {a b:Nat}(h:a≠b):Nat.beq a b=false:=by
 rw[Bool.eq_false_iff];exact λe=>h (beq_iff.1 e)
theorem uH {a b:Nat}:Nat.blt a b=true↔a<b:=by simp[Nat.blt];omega
theorem af6 {a b:Nat}(h:¬a<b):Nat.blt a b=false:=by
 rw[Bool.eq_false_iff];exact λe=>h (uH.1 e)
theorem fD {a b:Nat}:Nat.ble a b=true↔a<=b:=by rw[Nat.ble_eq]
theorem axQ {α:Type}(j e:Nat)(x y:α):(cond (Nat.beq j e) x y)=if j=e then x else y:=by
 by_cases h:j=e
 .rw[if_pos h,beq_iff.2 h];rfl
 .rw[if_neg h,beq_false h];rfl
theorem cR.aY8 {c c':cR}{e:Nat}{v:CV}(h:c.aTm e v=some c'):∀j,CV.f (c'.at j)=if j=e then v else .f (c.at j):=by
 intro j;unfold cR.aTm at h;split at h
 .split at h
  .cases h;rename_i hk
   subst hk;simp only[cR.at,axQ];split<;>rfl
  .cases h
 .cases h;simp only[cR.at,axQ];split<;>rfl
 .cases h;simp only[cR.at,axQ];split<;>rfl
 .cases h
theorem cR.a1C {p:Nat->Bool}{c d e:cR}(h:cR.mrg p c d=some e):∀j,e.at j=if p j=true then c.at j else d.at j:=by
 intro j;unfold cR.mrg at h;split at h
 .split at h
  .cases h;rename_i hk
   subst hk;simp only[cR.at];cases p j<;>rfl
  .cases h
 .cases h;simp only[cR.at];cases p j<;>rfl
 .cases h;simp only[cR.at];cases p j<;>rfl
 .cases h
def iS (cols:List cR)(j:Nat):CV:=match cols[j%cols.length]? with
 |some q=>.f (q.at (j/cols.length))
 |none=>.f .u
theorem Sg.pN (n:Sz)(cols:List cR)(j:Nat):(Sg.a n cols).get j=iS cols j:=rfl
theorem af7 {p:Nat->Bool}:∀{cs ds es:List cR},auu p cs ds=some es->es.length=cs.length/\ds.length=cs.length/\
  ∀(i:Nat) c d,cs[i]? =some c->ds[i]? =some d->∃e,es[i]? =some e/\∀j,e.at j=if p j=true then c.at j else d.at j
 | [],[],es,h=>by
  simp only[auu,iv] at h;subst h;exact⟨rfl,rfl,λi c d hc=>by simp at hc⟩
 |c::cs,d::ds,es,h=>by
  simp only[auu] at h;split at h
  .rename_i e es' h1 h2
   cases h;obtain⟨a1,a2,a3⟩:=af7 h2;refine⟨by simp[a1],by simp[a2],λi c' d' hc hd=> ?_⟩;cases i with
   |zero=>
    simp only[aEo,iv] at hc hd;subst hc hd;exact⟨e,rfl,cR.a1C h1⟩
   |succ i=>exact a3 i c' d' (by simpa using hc) (by simpa using hd)
  .cases h
 | [],_::_,_,h=>by simp[auu] at h
 |_::_,[],_,h=>by simp[auu] at h
theorem aEG {p:Nat->Bool}{cs ds es:List cR}(h:auu p cs ds=some es)(j:Nat):iS es j=if p (j/cs.length)=true then iS cs j else iS ds j:=by
 obtain⟨a1,a2,a3⟩:=af7 h;unfold iS;rw[a1,a2];by_cases hl:j%cs.length<cs.length
 .have hc:cs[j%cs.length]? =some (cs[j%cs.length]'hl):=kT _;have hd:ds[j%cs.length]? =some (ds[j%cs.length]'(by omega)):=kT _;obtain⟨e,he,ha⟩:=a3 _ _ _ hc hd;rw[he,hc,hd];simp only[ha];split<;>rfl
 .rw[Kc (by omega),Kc (by omega),Kc (by omega)];exact(ite_self _).symm
theorem azJ (cols:List cR)(e j:Nat):iS (cols.map (cR.shift e)) j=iS cols (e*cols.length+j):=by
 unfold iS;rw[afW,CA,abO,asL];by_cases hl:cols.length=0
 .have:cols=[]:=aKE.1 hl;subst this;rfl
 .rw[Nat.mul_add_div (by omega)];cases cols[j%cols.length]? with
  |none=>rfl
  |some q=>simp only[SS,cR.aUm]
theorem aNk (cols:List cR)(d j:Nat)(h:d*cols.length<=j):iS (cols.map (cR.up d)) j=iS cols (j-d*cols.length):=by
 unfold iS;rw[afW,CA];by_cases hl:cols.length=0
 .have:cols=[]:=aKE.1 hl;subst this;rfl
 .obtain⟨m,rfl⟩:∃m,j=cols.length*d+m:=⟨j-cols.length*d,by rw[abO] at h;omega⟩;rw[asL,Nat.mul_add_div (by omega),abO d,Nat.add_sub_cancel_left];cases cols[m%cols.length]? with
  |none=>rfl
  |some q=>simp only[SS,cR.a4r,Nat.add_sub_cancel_left]
theorem aj.dN {s:Sg}{l:aj}{j:Nat}(h:j<s.size):aj.get (s::l) j=s.get j:=by simp[aj.get,h]
theorem aj.lq {s:Sg}{l:aj}{j:Nat}(h:s.size<=j):aj.get (s::l) j=aj.get l (j-s.size):=by
 rw[aj.get,if_neg (by omega)]
theorem aj.ru {n:Nat}{cols:List cR}{l:aj}{j j':Nat}(h:n*cols.length<=j)(e:j'=j-n*cols.length):aj.get l j'=aj.get (.a (.l n) cols::l) j:=by
 rw[aj.lq (s:=.a (.l n) cols) h,e];rfl
theorem aj.kK {v:CV}{l:aj}{j j':Nat}(h:1<=j)(e:j'=j-1):aj.get l j'=aj.get (.c v::l) j:=by
 rw[aj.lq (s:=.c v) h,e];rfl
theorem aj.size_cons (s:Sg)(l:aj):aj.size (s::l)=s.size+aj.size l:=rfl
theorem aj.lH:aj.size []=0:=rfl
theorem Sg.kH (v:CV):(Sg.c v).size=1:=rfl
theorem Sg.lL (n:Sz)(cols:List cR):(Sg.a n cols).size=n.val*cols.length:=rfl
theorem aj.size_append (a b:aj):aj.size (a++b)=aj.size a+aj.size b:=by
 induction a with
 |nil=>simp[aj.size]
 |cons s a ih=>simp only[List.cons_append,aj.size,ih];omega
theorem aj.get_append (a b:aj)(j:Nat):aj.get (a++b) j=if j<aj.size a then aj.get a j else aj.get b (j-aj.size a):=by
 induction a generalizing j with
 |nil=>simp[aj.size]
 |cons s a ih=>
  rw[List.cons_append,aj.size_cons];by_cases h:j<s.size
  .rw[aj.dN h,aj.dN h,if_pos (by omega)]
  .rw[aj.lq (by omega),aj.lq (by omega),ih];by_cases h2:j-s.size<aj.size a
   .rw[if_pos h2,if_pos (by omega)]
   .rw[if_neg h2,if_neg (by omega)];congr 1;omega
theorem aj.auJ (k:aj):k.list.length=k.size:=by simp[aj.list]
theorem aj.af8 (k:aj)(j:Nat):k.list[j]? =if j<k.size then some (k.get j) else none:=by
 simp only[aj.list,CA];split
 .rename_i h;simp[h]
 .rename_i h;rw[Kc (by simp;omega)];rfl
theorem Wj {α:Type}(f:α->CV)(l:List α)(j:Nat):aj.size (l.map λa=>Sg.c (f a))=l.length/\∀a,l[j]? =some a->aj.get (l.map λa=>Sg.c (f a)) j=f a:=by
 induction l generalizing j with
 |nil=>exact⟨rfl,λa h=>by simp at h⟩
 |cons x l ih=>
  refine⟨by simp only[List.map_cons,aj.size,Sg.size,(ih 0).1,LF];omega,λa h=> ?_⟩;cases j with
  |zero=>simp at h;subst h;rfl
  |succ j=>exact(ih j).2 a (by simpa using h)
theorem azK {sh:Bool}{cols:List cR}{e oc:Nat}{cH:Sz}{z:Nat}{v:aj}(h:aKG sh cols e oc cH z=some v)(he:sh=false->e=0):
  aj.size v=cH.val*z/\∀j,j<cH.val*z->aj.get v j=iS cols (e*cols.length+oc+j):=by
 unfold aKG at h;split at h
 .rename_i hc
  cases h;simp only[cL,beq_iff] at hc;obtain⟨rfl,hz⟩:=hc
  have hm:∀k,(cH.mul k).val=cH.val*k:=λk=>by
   unfold Sz.mul;split
   .rename_i hk;rw[beq_iff] at hk;subst hk;simp
   .cases cH<;>rfl
  have hlen:(shC sh e cols).length=cols.length:=by cases sh<;>simp[shC]
  have yZ:(cH.mul (z/cols.length)).val*cols.length=cH.val*z:=by
   rw[hm,Nat.mul_assoc,Nat.div_mul_cancel (aEp hz)]
  refine⟨by simp only[aj.size,Sg.size,hlen,yZ,ky],λj hj=> ?_⟩;rw[aj.dN (by simp only[Sg.size,hlen,yZ];exact hj),Sg.pN,ky];cases sh with
  |true=>exact azJ ..
  |false=>rw[he rfl,SV,gP];rfl
 .cases h
theorem LO {sh:Bool}{cols:List cR}{e oc:Nat}{cH:Sz}{z:Nat}{v:aj}(h:rowsOf sh cols e oc cH z=some v)(he:sh=false->e=0):
  aj.size v=cH.val*z/\∀j,j<cH.val*z->aj.get v j=iS cols (e*cols.length+oc+j):=by
 unfold rowsOf at h;split at h
 .rename_i n
  split at h
  .rename_i hc
   cases h;simp only[cL,beq_iff,fD] at hc;obtain⟨rfl,hle⟩:=hc;have hl:((cols.drop oc).take z).length=z:=by simp;omega
   refine⟨by rw[(Wj _ _ 0).1,hl];simp[Sz.val],λj hj=> ?_⟩;simp only[Sz.val,Vc] at hj
   have hg:((cols.drop oc).take z)[j]? =some (cols[oc+j]'(by omega)):=by
    rw[abL,if_pos hj,SO,kT]
   rw[(Wj (λq:cR=>CV.f (q.at e)) _ j).2 _ hg];unfold iS;rw[show e*cols.length+oc+j=cols.length*e+(oc+j) by rw[abO];omega,asL,Nat.mul_add_div (by omega),axK (by omega),Nat.div_eq_of_lt (by omega),kT (by omega)];rfl
  .exact azK h he
 .exact azK h he
theorem ZR:∀{b v:aj} {m:Nat},Wf b m=some v->aj.size v=m/\∀j,j<m->aj.get v j=aj.get b j
 | [],v,m,h=>by
  cases m with
  |zero=>simp[Wf] at h;subst h;exact⟨rfl,λj hj=>by omega⟩
  |succ m=>simp[Wf] at h
 |.c x::r,v,m,h=>by
  cases m with
  |zero=>simp[Wf] at h;subst h;exact⟨rfl,λj hj=>by omega⟩
  |succ m=>
   simp only[Wf,m9] at h;obtain⟨v',h1,rfl⟩:=h;obtain⟨e1,e2⟩:=ZR h1;refine⟨by simp only[aj.size,Sg.size,e1];omega,λj hj=> ?_⟩;cases j with
   |zero=>rfl
   |succ j=>rw[aj.lq (by simp[Sg.size]),aj.lq (by simp[Sg.size])];exact e2 _ (by simp[Sg.size];omega)
 |.a n cols::r,v,m,h=>by
  cases m with
  |zero=>simp[Wf] at h;subst h;exact⟨rfl,λj hj=>by omega⟩
  |succ m=>
   simp only[Wf] at h;split at h
   .cases h
   .rename_i n
    split at h
    .rename_i hle
     rw[fD] at hle;simp only[m9] at h;obtain⟨v',h1,rfl⟩:=h;obtain⟨e1,e2⟩:=ZR h1;refine⟨by simp only[aj.size,Sg.size,Sz.val,e1];omega,λj hj=> ?_⟩;by_cases lQ:j<n*cols.length
     .rw[aj.dN (by simpa[Sg.size,Sz.val] using lQ),aj.dN (by simpa[Sg.size,Sz.val] using lQ)]
     .rw[aj.lq (by simp[Sg.size,Sz.val];omega),aj.lq (by simp[Sg.size,Sz.val];omega)];exact e2 _ (by simp[Sg.size,Sz.val];omega)
    .rename_i hle
     have hle:¬n*cols.length<=m+1:=λhc=>by rw[fD.2 hc] at hle;cases hle
     obtain⟨e1,e2⟩:=LO h (λ_=>rfl);simp only[Sz.val,Vc,SV,gP] at e1 e2;refine⟨e1,λj hj=> ?_⟩;rw[e2 j hj,aj.dN (by simp[Sg.size,Sz.val];omega)];rfl
theorem aIP {n:Nat}(h:nz n=false):n=0:=by cases n<;>first|rfl|cases h
theorem Vd (c l:Nat):c/l*l+c%l=c:=by rw[abO];exact Nat.div_add_mod c l
theorem Ou:∀{b v:aj} {c:Nat} {cH:Sz} {z:Nat},akS b c cH z=some v->aj.size v=cH.val*z/\(c+cH.val*z<=aj.size b->∀j,j<cH.val*z->aj.get v j=aj.get b (c+j))
 | [],v,c,cH,z,h=>by
  simp only[akS] at h;split at h
  .split at h
   .rename_i n hn
    rw[beq_iff] at hn;cases h;exact⟨by simp[aj.size,Sz.val,hn],λ_ j hj=>by simp only[Sz.val] at hj;omega⟩
   .cases h
  .cases h
 |.c x::r,v,c,cH,z,h=>by
  cases c with
  |zero=>
   simp only[akS] at h;split at h
   .obtain⟨e1,e2⟩:=ZR h;exact⟨e1,λ_ j hj=>by rw[gP];exact e2 j hj⟩
   .cases h
  |succ c=>
   simp only[akS] at h;obtain⟨e1,e2⟩:=Ou h;refine⟨e1,λhle j hj=> ?_⟩;simp only[aj.size,Sg.size] at hle;rw[e2 (by omega) j hj];exact aj.kK (by omega) (by omega)
 |.a n cols::r,v,c,cH,z,h=>by
  simp only[akS] at h;split at h
  .obtain⟨e1,e2⟩:=LO h aIP;rw[Vd] at e2;refine⟨e1,λhle j hj=> ?_⟩;simp only[aj.size,ky] at hle;rw[e2 j hj,aj.dN (by omega),Sg.pN]
  .split at h
   .rename_i n m
    split at h
    .rename_i hle
     rw[fD] at hle;obtain⟨e1,e2⟩:=Ou h;refine⟨e1,λadV j hj=> ?_⟩;rw[aj.size_cons,Sg.lL] at adV;simp only[Sz.val] at adV;have e3:=e2 (by simp only[Sz.val];omega) j hj;rw[e3];exact aj.ru (by omega) (by omega)
    .split at h
     .rename_i adV
      rw[fD] at adV;obtain⟨e1,e2⟩:=LO h aIP;rw[Vd] at e2;refine⟨e1,λ_ j hj=> ?_⟩;rw[e2 j hj,aj.dN (by simp only[Sg.size,Sz.val] at hj ⊢;omega),Sg.pN]
     .split at h
      .obtain⟨e1,e2⟩:=ZR h;exact⟨e1,λ_ j hj=>by rw[gP];exact e2 j hj⟩
      .cases h
   .cases h
theorem af9 {c i z l:Nat}(h:z%l=0):elemOf c i z l*l+c%l=c+i*z:=by
 unfold elemOf;split
 .rename_i hz
  rw[beq_iff] at hz;subst hz;have hd:=Vd c z;cases hq:c/z with
  |zero=>
   rw[hq] at hd;simp only;omega
  |succ q=>
   rw[hq] at hd;simp only;rw[qR];omega
 .have hd:=Vd c l;have hz:=Nat.div_mul_cancel (aEp h);rw[qR,Nat.mul_assoc,hz];omega
theorem asU:∀{b:aj} {v:aj} {c i z:Nat} {cH:Sz} {y:Nat},azE b c i z cH y=some (true,v)->aj.size v=cH.val*y/\(c+i*z+cH.val*y<=aj.size b->∀j,j<cH.val*y->aj.get v j=aj.get b (c+i*z+j))
 | [],v,c,i,z,cH,y,h=>by simp[azE] at h
 |.c x::r,v,c,i,z,cH,y,h=>by
  cases c with
  |zero=>
   simp only[azE,m9,rq,A6] at h;obtain⟨v',h1,rfl⟩:=h;have:=Ou h1;simpa using this
  |succ c=>
   simp only[azE] at h;obtain⟨e1,e2⟩:=asU h;refine⟨e1,λhle j hj=> ?_⟩;simp only[aj.size,Sg.size] at hle;rw[e2 (by omega) j hj];exact aj.kK (by omega) (by omega)
 |.a n cols::r,v,c,i,z,cH,y,h=>by
  simp only[azE] at h;split at h
  .split at h
   .rename_i hz
    rw[beq_iff] at hz;simp only[m9,rq,A6] at h;obtain⟨v',h1,rfl⟩:=h;obtain⟨e1,e2⟩:=LO h1 (λh=>by cases h);rw[af9 hz] at e2;refine⟨e1,λhle j hj=> ?_⟩;simp only[aj.size,ky] at hle;rw[e2 j hj,aj.dN (by omega),Sg.pN]
   .cases h
  .split at h
   .rename_i n
    split at h
    .rename_i hle
     rw[fD] at hle;obtain⟨e1,e2⟩:=asU h;refine⟨e1,λadV j hj=> ?_⟩;rw[aj.size_cons,Sg.lL] at adV;simp only[Sz.val] at adV;have e3:=e2 (by simp only[Sz.val];omega) j hj;rw[e3];exact aj.ru (by omega) (by omega)
    .split at h
     .rename_i hz
      rw[beq_iff] at hz;simp only[m9,rq] at h;obtain⟨v',h1,hg,rfl⟩:=h;rw[fD] at hg;obtain⟨e1,e2⟩:=LO h1 (λh=>by cases h);rw[af9 hz] at e2;refine⟨e1,λ_ j hj=> ?_⟩;rw[e2 j hj,aj.dN (by simp only[Sg.size,Sz.val];omega),Sg.pN]
     .cases h
   .cases h
theorem aj.axR {b v:aj}{o:cG}{cH:Sz}{z:Nat}(h:b.sub o cH z=some (true,v)):aj.size v=cH.val*z/\(o.val+cH.val*z<=aj.size b->∀j,j<cH.val*z->aj.get v j=aj.get b (o.val+j)):=by
 cases o with
 |k c=>
  simp only[aj.sub,m9,rq,A6] at h;obtain⟨v',h1,rfl⟩:=h;exact Ou h1
 |x c i y=>exact asU h
theorem aga:∀{cols dV:List cR} {j e:Nat} {v:CV},afZ cols j e v=some dV->dV.length=cols.length/\j<cols.length/\(∀k,k≠j->dV[k]? =cols[k]?)/\∃c c',cols[j]? =some c/\dV[j]? =some c'/\c.aTm e v=some c'
 | [],_,_,_,_,h=>by simp[afZ] at h
 |c::cs,dV,0,e,v,h=>by
  simp only[afZ,m9] at h;obtain⟨c',h1,rfl⟩:=h;refine⟨rfl,by simp,λk hk=> ?_,c,c',rfl,rfl,h1⟩;cases k with
  |zero=>omega
  |succ k=>rfl
 |c::cs,dV,j+1,e,v,h=>by
  simp only[afZ,m9] at h;obtain⟨SW,h1,rfl⟩:=h;obtain⟨a1,a2,a3,c0,c1,a4,a5,a6⟩:=aga h1;refine⟨by simp[a1],by simp;omega,λk hk=> ?_,c0,c1,by simpa using a4,by simpa using a5,a6⟩;cases k with
  |zero=>rfl
  |succ k=>simpa using a3 k (by omega)
theorem aKO {cols dV:List cR}{j e:Nat}{v:CV}(h:afZ cols j e v=some dV)(J:Nat):iS dV J=if J=e*cols.length+j then v else iS cols J:=by
 obtain⟨a1,a2,a3,c,c',a4,a5,a6⟩:=aga h;have aEH:0<cols.length:=by omega
 unfold iS;rw[a1];by_cases hm:J%cols.length=j
 .rw[hm,a4,a5];simp only[cR.aY8 a6];have hd:=Vd J cols.length;rw[hm] at hd;by_cases he:J/cols.length=e
  .rw[if_pos he,if_pos (by rw[<-he];omega)]
  .rw[if_neg he,if_neg λhJ=>he (by rw[hJ,abO,Nat.mul_add_div aEH,Nat.div_eq_of_lt a2,ky])]
 .rw[a3 _ hm,if_neg λhJ=>hm (by rw[hJ,abO,asL,axK a2])]
theorem LP:∀{b:aj} {cols dV:List cR} {e oc:Nat},Ef cols.length cols e oc b=some dV->dV.length=cols.length/\
  ∀J,iS dV J=if e*cols.length+oc<=J/\J<e*cols.length+oc+aj.size b then aj.get b (J-(e*cols.length+oc)) else iS cols J
 | [],cols,dV,e,oc,h=>by
  simp only[Ef,iv] at h;subst h;exact⟨rfl,λJ=>by rw[if_neg (by rw[aj.lH];omega)]⟩
 |.a _ _::_,cols,dV,e,oc,h=>by simp[Ef] at h
 |.c v::r,cols,dV,e,oc,h=>by
  simp only[Ef] at h;split at h
  .rename_i a4s h1
   have hr:=aKO h1;obtain⟨a1,a2,_⟩:=aga h1
   have key:∀e' aY9,e'*cols.length+aY9=e*cols.length+(oc+1)->Ef cols.length a4s e' aY9 r=some dV->dV.length=cols.length/\
     ∀J,iS dV J=if e*cols.length+oc<=J/\J<e*cols.length+oc+aj.size (.c v::r) then aj.get (.c v::r) (J-(e*cols.length+oc)) else iS cols J:=λe' aY9 he h2=>by
    rw[<-a1] at h2;obtain⟨b1,b2⟩:=LP h2;rw[a1] at b2;refine⟨b1.trans a1,λJ=> ?_⟩;rw[b2,he,hr];have hs:aj.size (.c v::r)=1+aj.size r:=rfl;by_cases c1:J=e*cols.length+oc
    .subst c1;rw[if_neg (by omega),if_pos rfl,if_pos (by rw[hs];omega),Nat.sub_self];rfl
    .by_cases c2:e*cols.length+(oc+1)<=J/\J<e*cols.length+(oc+1)+aj.size r
     .rw[if_pos c2,if_pos (by rw[hs];omega)];exact aj.kK (by omega) (by omega)
     .rw[if_neg c2,if_neg c1,if_neg (by rw[hs];omega)]
   split at h
   .rename_i hc
    rw[beq_iff] at hc;refine key (e+1) 0 ?_ h;rw[qR,hc];omega
   .exact key e (oc+1) rfl h
  .cases h
theorem asV {v:aj}{cols dV:List cR}{e oc:Nat}(h:aEv cols e oc v=some dV):dV.length=cols.length/\
  ∀J,iS dV J=if e*cols.length+oc<=J/\J<e*cols.length+oc+aj.size v then aj.get v (J-(e*cols.length+oc)) else iS cols J:=by
 unfold aEv at h;split at h
 .rename_i m ds
  split at h
  .rename_i hc
   simp only[cL,beq_iff] at hc;obtain⟨rfl,hl⟩:=hc;obtain⟨a1,a2,_⟩:=af7 h;rw[afW] at a1 a2;refine⟨by omega,λJ=> ?_⟩;have hs:aj.size [.a m ds]=m.val*cols.length:=by rw[aj.size_cons,Sg.lL,aj.lH,hl,ky]
   have hm:=aEG h J;rw[afW,<-hl] at hm;rw[hm];clear hm
   by_cases hz:cols.length=0
   .have h1:cols=[]:=aKE.1 hz;have h2:ds=[]:=aKE.1 (hl.symm.trans hz);subst h1 h2;rw[if_neg (show ¬(e*([]:List cR).length+0<=J/\J<e*([]:List cR).length+0+aj.size [.a m []]) by rw[hs];simp)];exact ite_self _
   .have hd:=Vd J cols.length;have hm:=Nat.mod_lt J (show cols.length>0 by omega);by_cases hp:e<=J/cols.length/\J/cols.length<e+m.val
    .have e1:e*cols.length<=J:=by
      have:=wR cols.length hp.1;omega
     have e2:J<e*cols.length+m.val*cols.length:=by
      have:=wR cols.length (show J/cols.length+1<=e+m.val by omega);rw[qR,qR] at this;omega
     rw[if_pos (by simp only[cL,fD,uH];exact hp),if_pos (show e*cols.length+0<=J/\J<e*cols.length+0+aj.size [.a m ds] by rw[hs];exact⟨e1,e2⟩),aNk _ _ _ (by rw[<-hl];exact e1),ky,aj.dN (by rw[Sg.lL,<-hl];omega),Sg.pN,<-hl]
    .rw[if_neg (by simp only[cL,fD,uH];exact hp),if_neg (by
      rw[hs];rintro ⟨e1,e2⟩
      apply hp
      constructor
      .exact(Nat.le_div_iff_mul_le (by omega)).2 e1
      .refine(axF (by omega)).2 ?_;rw[qR];exact e2)]
  .cases h
 .exact LP h
theorem aEI:∀{b v b':aj},dE b v=some b'->aj.size b'=aj.size b/\∀j,aj.get b' j=if j<aj.size v then aj.get v j else aj.get b j:=by
 intro b v;induction b generalizing v with
 |nil=>
  intro b' h;cases v with
  |nil=>simp only[dE,iv] at h;subst h;exact⟨rfl,λj=>by rw[if_neg (by simp[aj.size])]⟩
  |cons y vs=>cases y<;>simp[dE] at h
 |cons x r ih=>
  intro b' h;cases v with
  |nil=>simp only[dE,iv] at h;subst h;exact⟨rfl,λj=>by rw[if_neg (by simp[aj.size])]⟩
  |cons y vs=>
   unfold dE at h;split at h
   .rename_i e;cases e
   .rename_i aZa aZb
    cases aZa;cases aZb
    simp only[m9] at h;obtain⟨r',h1,rfl⟩:=h;obtain⟨e1,e2⟩:=ih h1;refine⟨by simp only[aj.size,e1,Sg.size],λj=> ?_⟩;cases j with
    |zero=>rw[if_pos (by simp only[aj.size,Sg.size];omega)];rfl
    |succ j=>
     rw[<-aj.kK (l:=r') (j':=j) (by omega) (by omega),<-aj.kK (l:=vs) (j':=j) (by omega) (by omega),<-aj.kK (l:=r) (j':=j) (by omega) (by omega),e2];by_cases hj:j<aj.size vs
     .rw[if_pos hj,if_pos (by rw[aj.size_cons,Sg.kH];omega)]
     .rw[if_neg hj,if_neg (by rw[aj.size_cons,Sg.kH];omega)]
   .rename_i n cols _ m dV _ aZa aZb
    cases aZa;cases aZb
    split at h
    .rename_i hc
     simp only[cL,beq_iff] at hc;obtain⟨rfl,hl⟩:=hc;simp only[m9] at h;obtain⟨r',h1,rfl⟩:=h;obtain⟨e1,e2⟩:=ih h1;refine⟨by simp only[aj.size,e1,Sg.size,hl],λj=> ?_⟩;have hs:aj.size (.a (.l n) dV::vs)=n*dV.length+aj.size vs:=rfl;by_cases hj:j<n*dV.length
     .rw[aj.dN (by simpa[Sg.size,Sz.val] using hj),if_pos (by rw[hs];omega),aj.dN (by simpa[Sg.size,Sz.val] using hj)]
     .rw[<-aj.ru (l:=r') (j':=j-n*dV.length) (by omega) (by omega),<-aj.ru (l:=vs) (j':=j-n*dV.length) (by omega) (by omega),<-aj.ru (l:=r) (j':=j-n*dV.length) (by rw[hl];omega) (by rw[hl]),e2];by_cases lQ:j-n*dV.length<aj.size vs
      .rw[if_pos lQ,if_pos (by rw[hs];omega)]
      .rw[if_neg lQ,if_neg (by rw[hs];omega)]
    .cases h
   .cases h
theorem azL {n:Sz}{cols:List cR}{v:aj}(h:aKH n cols v=true):aj.size v=(Sg.a n cols).size:=by
 unfold aKH at h;split at h
 .simp only[cL,beq_iff] at h;obtain⟨rfl,hl⟩:=h;simp[aj.size,Sg.size,hl]
 .cases h
theorem Ov:∀{b b':aj} {c:Nat} {v:aj},akT b c v=some b'->aj.size b'=aj.size b/\∀j,j<aj.size b->aj.get b' j=if c<=j/\j<c+aj.size v then aj.get v (j-c) else aj.get b j
 | [],b',c,v,h=>by
  simp only[akT] at h;split at h
  .cases h;exact⟨rfl,λj hj=>by simp[aj.size] at hj⟩
  .cases h
 |.c x::r,b',c,v,h=>by
  cases c with
  |zero=>
   simp only[akT] at h;obtain⟨e1,e2⟩:=aEI h;refine⟨e1,λj _=> ?_⟩;rw[e2];by_cases hj:j<aj.size v
   .rw[if_pos hj,if_pos (by omega)];rfl
   .rw[if_neg hj,if_neg (by omega)]
  |succ c=>
   simp only[akT,m9] at h;obtain⟨r',h1,rfl⟩:=h;obtain⟨e1,e2⟩:=Ov h1;refine⟨by simp only[aj.size,e1],λj hj=> ?_⟩;rw[aj.size_cons,Sg.kH] at hj;cases j with
   |zero=>rw[if_neg (by omega)];rfl
   |succ j=>
    rw[<-aj.kK (l:=r') (j':=j) (by omega) (by omega),<-aj.kK (l:=r) (j':=j) (by omega) (by omega),e2 j (by omega)];by_cases hc:c<=j/\j<c+aj.size v
    .rw[if_pos hc,if_pos (by omega)];congr 1;omega
    .rw[if_neg hc,if_neg (by omega)]
 |.a n cols::r,b',c,v,h=>by
  have put:∀{dV},aEv cols (c/cols.length) (c%cols.length) v=some dV->dV.length=cols.length/\∀J,iS dV J=if c<=J/\J<c+aj.size v then aj.get v (J-c) else iS cols J:=λh=>by
   have:=asV h;rw[Vd] at this;exact this
  simp only[akT] at h;split at h
  .split at h
   .rename_i hc
    cases h;simp only[cL,beq_iff] at hc;obtain⟨rfl,hs⟩:=hc;have hs:=azL hs;refine⟨by simp only[aj.size,ky,hs],λj hj=> ?_⟩;simp only[aj.size,ky] at hj;rw[if_pos (by omega),Nat.sub_zero]
   .simp only[m9] at h;obtain⟨dV,h1,rfl⟩:=h;obtain⟨e1,e2⟩:=put h1;refine⟨by simp only[aj.size,Sg.size,e1],λj hj=> ?_⟩;simp only[aj.size,ky] at hj;rw[aj.dN (by simp only[Sg.size,e1];exact hj),aj.dN hj,Sg.pN,Sg.pN,e2]
  .split at h
   .cases h
   .rename_i n
    split at h
    .rename_i hle
     rw[fD] at hle;simp only[m9] at h;obtain⟨r',h1,rfl⟩:=h;obtain⟨e1,e2⟩:=Ov h1;refine⟨by rw[aj.size_cons,aj.size_cons,e1],λj hj=> ?_⟩;rw[aj.size_cons,Sg.lL] at hj;simp only[Sz.val] at hj;by_cases lQ:j<n*cols.length
     .rw[aj.dN (by simpa[Sg.size,Sz.val] using lQ),aj.dN (by simpa[Sg.size,Sz.val] using lQ),if_neg (by omega)]
     .rw[<-aj.ru (l:=r') (j':=j-n*cols.length) (by omega) rfl,<-aj.ru (n:=n) (cols:=cols) (j':=j-n*cols.length) (by omega) rfl,e2 _ (by omega)];by_cases hc:c<=j/\j<c+aj.size v
      .rw[if_pos hc,if_pos (by omega)];congr 1;omega
      .rw[if_neg hc,if_neg (by omega)]
    .split at h
     .rename_i hc
      cases h;simp only[cL,beq_iff] at hc;obtain⟨rfl,hs⟩:=hc;have hs:=azL hs;refine⟨by rw[aj.size_append,hs];rfl,λj hj=> ?_⟩;rw[aj.get_append,hs];by_cases lQ:j<(Sg.a (.l n) cols).size
      .rw[if_pos lQ,if_pos (by omega),Nat.sub_zero]
      .rw[if_neg lQ,if_neg (by omega)];exact aj.ru (Nat.le_of_not_lt lQ) rfl
     .split at h
      .rename_i adV
       rw[fD] at adV;simp only[m9] at h;obtain⟨dV,h1,rfl⟩:=h;obtain⟨e1,e2⟩:=put h1;refine⟨by simp only[aj.size,Sg.size,e1],λj hj=> ?_⟩;by_cases lQ:j<n*cols.length
       .rw[aj.dN (by simpa[Sg.size,Sz.val,e1] using lQ),aj.dN (by simpa[Sg.size,Sz.val] using lQ),Sg.pN,Sg.pN,e2]
       .rw[if_neg (by omega),<-aj.ru (cols:=dV) (j':=j-n*cols.length) (by rw[e1];omega) (by rw[e1]),<-aj.ru (n:=n) (cols:=cols) (j':=j-n*cols.length) (by omega) rfl]
      .split at h
       .obtain⟨e1,e2⟩:=aEI h;refine⟨e1,λj _=> ?_⟩;rw[e2];by_cases hj:j<aj.size v
        .rw[if_pos hj,if_pos (by omega)];rfl
        .rw[if_neg hj,if_neg (by omega)]
       .cases h
theorem asW:∀{b b':aj} {c i z:Nat} {v:aj},azF b c i z v=some (true,b')->aj.size b'=aj.size b/\∀j,j<aj.size b->aj.get b' j=if c+i*z<=j/\j<c+i*z+aj.size v then aj.get v (j-(c+i*z)) else aj.get b j
 | [],b',c,i,z,v,h=>by simp[azF] at h
 |.c x::r,b',c,i,z,v,h=>by
  cases c with
  |zero=>
   simp only[azF,m9,rq,A6] at h;obtain⟨v',h1,rfl⟩:=h;simpa using Ov h1
  |succ c=>
   simp only[azF,m9,rq] at h;obtain⟨⟨g,r'⟩,h1,hg,rfl⟩:=h;simp only at hg;subst hg;obtain⟨e1,e2⟩:=asW h1;refine⟨by simp only[aj.size,e1],λj hj=> ?_⟩;rw[aj.size_cons,Sg.kH] at hj;cases j with
   |zero=>rw[if_neg (by omega)];rfl
   |succ j=>
    rw[<-aj.kK (l:=r') (j':=j) (by omega) (by omega),<-aj.kK (l:=r) (j':=j) (by omega) (by omega),e2 j (by omega)];by_cases hc:c+i*z<=j/\j<c+i*z+aj.size v
    .rw[if_pos hc,if_pos (by omega)];congr 1;omega
    .rw[if_neg hc,if_neg (by omega)]
 |.a n cols::r,b',c,i,z,v,h=>by
  simp only[azF] at h;split at h
  .split at h
   .rename_i hz
    rw[beq_iff] at hz;simp only[m9,rq,A6] at h;obtain⟨dV,h1,rfl⟩:=h;have e:=asV h1;rw[af9 hz] at e;obtain⟨e1,e2⟩:=e;refine⟨by simp only[aj.size,Sg.size,e1],λj hj=> ?_⟩;simp only[aj.size,ky] at hj;rw[aj.dN (by simp only[Sg.size,e1];exact hj),aj.dN hj,Sg.pN,Sg.pN,e2]
   .cases h
  .split at h
   .rename_i n
    split at h
    .rename_i hle
     rw[fD] at hle;simp only[m9,rq] at h;obtain⟨⟨g,r'⟩,h1,hg,rfl⟩:=h;simp only at hg;subst hg;obtain⟨e1,e2⟩:=asW h1;refine⟨by rw[aj.size_cons,aj.size_cons,e1],λj hj=> ?_⟩;rw[aj.size_cons,Sg.lL] at hj;simp only[Sz.val] at hj;by_cases lQ:j<n*cols.length
     .rw[aj.dN (by simpa[Sg.size,Sz.val] using lQ),aj.dN (by simpa[Sg.size,Sz.val] using lQ),if_neg (by omega)]
     .rw[<-aj.ru (l:=r') (j':=j-n*cols.length) (by omega) rfl,<-aj.ru (n:=n) (cols:=cols) (j':=j-n*cols.length) (by omega) rfl,e2 _ (by omega)];by_cases hc:c+i*z<=j/\j<c+i*z+aj.size v
      .rw[if_pos hc,if_pos (by omega)];congr 1;omega
      .rw[if_neg hc,if_neg (by omega)]
    .split at h
     .rename_i hz
      rw[beq_iff] at hz;simp only[m9,rq] at h;obtain⟨dV,h1,hg,rfl⟩:=h;rw[fD] at hg;have e:=asV h1;rw[af9 hz] at e;obtain⟨e1,e2⟩:=e;rw[e1] at hg;refine⟨by simp only[aj.size,Sg.size,e1],λj hj=> ?_⟩;by_cases lQ:j<n*cols.length
      .rw[aj.dN (by simpa[Sg.size,Sz.val,e1] using lQ),aj.dN (by simpa[Sg.size,Sz.val] using lQ),Sg.pN,Sg.pN,e2]
      .rw[if_neg (by omega),<-aj.ru (cols:=dV) (j':=j-n*cols.length) (by rw[e1];omega) (by rw[e1]),<-aj.ru (n:=n) (cols:=cols) (j':=j-n*cols.length) (by omega) rfl]
     .cases h
   .cases h
theorem aj.aUn {b b' v:aj}{o:cG}(h:b.A5 o v=some (true,b')):aj.size b'=aj.size b/\∀j,j<aj.size b->aj.get b' j=if o.val<=j/\j<o.val+aj.size v then aj.get v (j-o.val) else aj.get b j:=by
 cases o with
 |k c=>
  simp only[aj.A5,m9,rq,A6] at h;obtain⟨v',h1,rfl⟩:=h;exact Ov h1
 |x c i y=>exact asW h
theorem Qh:∀{b:aj},Wg b=true->aj.size b=b.length
 | [],_=>rfl
 |.c v::r,h=>by
  have:=Qh (b:=r) h;rw[aj.size_cons,Sg.kH,this,LF];omega
 |.a _ _::_,h=>by cases h
theorem auK (cols:List cR):∀l:List Nat,Wg (af0 cols l)=true/\(af0 cols l).length=l.length/\∀i j,l[i]? =some j->aj.get (af0 cols l) i=iS cols j
 | []=>⟨rfl,rfl,λi j h=>by simp at h⟩
 |k::l=>by
  obtain⟨h1,h2,h3⟩:=auK cols l;refine⟨h1,by simp[af0,h2],λi j h=> ?_⟩;cases i with
  |zero=>
   simp only[aEo,iv] at h;subst h;rfl
  |succ i=>exact(aj.lq (s:=.c _) (by rw[Sg.kH];omega)).trans (h3 i j (by simpa using h))
theorem za:∀b:aj,aj.size (uj b)=aj.size b/\∀j,j<aj.size b->aj.get (uj b) j=aj.get b j
 | []=>⟨rfl,λ_ _=>rfl⟩
 |.c v::r=>by
  obtain⟨h1,h2⟩:=za r;refine⟨by rw[uj,aj.size_cons,aj.size_cons,h1],λj hj=> ?_⟩;rw[aj.size_cons,Sg.kH] at hj;cases j with
  |zero=>rfl
  |succ j=>
   rw[uj,aj.lq (by rw[Sg.kH];omega),aj.lq (by rw[Sg.kH];omega)];exact h2 _ (by rw[Sg.kH];omega)
 |.a (.s n) cols::r=>by
  obtain⟨h1,h2⟩:=za r;refine⟨by rw[uj,aj.size_cons,aj.size_cons,h1],λj hj=> ?_⟩;rw[aj.size_cons] at hj;rw[uj];by_cases lQ:j<(Sg.a (.s n) cols).size
  .rw[aj.dN lQ,aj.dN lQ]
  .rw[aj.lq (by omega),aj.lq (by omega)];exact h2 _ (by omega)
 |.a (.l n) cols::r=>by
  obtain⟨h1,h2⟩:=za r;obtain⟨c1,c2,c3⟩:=auK cols (List.range (n*cols.length));have hs:aj.size (af0 cols (List.range (n*cols.length)))=n*cols.length:=by rw[Qh c1,c2,List.length_range]
  have Wk:(Sg.a (.l n) cols).size=n*cols.length:=rfl;refine⟨by rw[uj,aj.size_append,aj.size_cons,h1,hs,Wk],λj hj=> ?_⟩;rw[aj.size_cons,Wk] at hj;rw[uj,aj.get_append,hs];by_cases lQ:j<n*cols.length
  .rw[if_pos lQ,aj.dN (by rw[Wk];exact lQ),Sg.pN];exact c3 j j (by simp[lQ])
  .rw[if_neg lQ,aj.lq (by rw[Wk];omega),Wk];exact h2 _ (by omega)
theorem LQ (n m:Sz):(n.add m).val=n.val+m.val:=by cases n<;>cases m<;>rfl
theorem aRo {n:Sz}{cols:List cR}{b c:aj}(h:aM9 n cols b=some c):aj.size c=aj.size [.a n cols]+aj.size b/\
  ∀j,j<aj.size [.a n cols]+aj.size b->aj.get c j=if j<aj.size [.a n cols] then aj.get [.a n cols] j else aj.get b (j-aj.size [.a n cols]):=by
 have h0:aj.size [.a n cols]=n.val*cols.length:=by rw[aj.size_cons,aj.lH,Sg.lL,ky]
 unfold aM9 at h;split at h
 .rename_i hc
  simp only[cL,beq_iff,fD] at hc;obtain⟨EB,aEH,aZc⟩:=hc;simp only[m9] at h;obtain⟨es,h1,rfl⟩:=h;obtain⟨a1,a2⟩:=LP h1;have hbs:=Qh EB;have hq:(b.length/cols.length)*cols.length=b.length:=Nat.div_mul_cancel (aEp aZc)
  have hr:(n.add (.l (b.length/cols.length))).val*es.length=n.val*cols.length+b.length:=by
   rw[LQ,a1,qR,Sz.val,hq]
  refine⟨by rw[h0,hbs,aj.size_cons,aj.lH,Sg.lL,ky,hr],λj hj=> ?_⟩;rw[h0] at hj;rw[aj.dN (by rw[Sg.lL,hr];omega),Sg.pN,a2,ky];by_cases lQ:j<n.val*cols.length
  .rw[if_neg (by omega),if_pos (show j<aj.size [.a n cols] by rw[h0];exact lQ),aj.dN (by rw[Sg.lL];exact lQ),Sg.pN]
  .rw[if_pos (by omega),if_neg (show ¬j<aj.size [.a n cols] by rw[h0];exact lQ),h0]
 .cases h
theorem aEJ {n:Sz}{cols:List cR}{b c:aj}(h:aTn n cols b=some c):aj.size c=aj.size [.a n cols]+aj.size b/\
  ∀j,j<aj.size [.a n cols]+aj.size b->aj.get c j=if j<aj.size [.a n cols] then aj.get [.a n cols] j else aj.get b (j-aj.size [.a n cols]):=by
 have h0:aj.size [.a n cols]=n.val*cols.length:=by rw[aj.size_cons,aj.lH,Sg.lL,ky]
 have two:aM9 n cols (uj b)=some c->aj.size c=aj.size [.a n cols]+aj.size b/\
  ∀j,j<aj.size [.a n cols]+aj.size b->aj.get c j=if j<aj.size [.a n cols] then aj.get [.a n cols] j else aj.get b (j-aj.size [.a n cols]):=λh=>by
  obtain⟨e1,e2⟩:=aRo h;obtain⟨f1,f2⟩:=za b;rw[f1] at e1 e2;refine⟨e1,λj hj=> ?_⟩;rw[e2 j hj];by_cases lQ:j<aj.size [.a n cols]
  .rw[if_pos lQ,if_pos lQ]
  .rw[if_neg lQ,if_neg lQ,f2 _ (by omega)]
 unfold aTn at h;split at h
 .rename_i m dV
  split at h
  .rename_i hc
   simp only[cL,beq_iff,fD] at hc;obtain⟨hl,aEH⟩:=hc;simp only[m9] at h;obtain⟨es,h1,rfl⟩:=h;obtain⟨a1,_,_⟩:=af7 h1;have hb:aj.size [.a m dV]=m.val*cols.length:=by rw[aj.size_cons,aj.lH,Sg.lL,ky,hl]
   have hr:aj.size [.a (n.add m) es]=n.val*cols.length+m.val*cols.length:=by
    rw[aj.size_cons,aj.lH,Sg.lL,ky,LQ,a1,qR]
   refine⟨by rw[hr,h0,hb],λj hj=> ?_⟩;rw[h0,hb] at hj;have hm:=aEG h1 j
   have e1:aj.get [.a (n.add m) es] j=iS es j:=by
    rw[aj.dN (by rw[Sg.lL,LQ,a1,qR];exact hj),Sg.pN]
   rw[e1,hm];by_cases lQ:j<n.val*cols.length
   .rw[if_pos (by rw[uH];exact(axF (by omega)).2 lQ),if_pos (show j<aj.size [.a n cols] by rw[h0];exact lQ),aj.dN (by rw[Sg.lL];exact lQ),Sg.pN]
   .rw[if_neg (by rw[uH];exact λhh=>lQ ((axF (by omega)).1 hh)),if_neg (show ¬j<aj.size [.a n cols] by rw[h0];exact lQ),aNk _ _ _ (by rw[<-hl];omega),h0,aj.dN (by rw[Sg.lL,<-hl];omega),Sg.pN,<-hl]
  .exact two h
 .exact two h
theorem ak0:∀{z:Nat} {b:aj} {cols:List cR},ET z b=some cols->cols.length=z
 |0,b,cols,h=>by simp only[ET,iv] at h;subst h;rfl
 |z+1,[],cols,h=>by simp[ET] at h
 |z+1,.a _ _::_,cols,h=>by simp[ET] at h
 |z+1,.c v::r,cols,h=>by
  cases v<;>simp only[ET] at h<;>first|(cases h;done)|skip
  split at h
  .rename_i h1 h2
   cases h;simp[ak0 h2]
  .cases h
theorem ak1 {z:Nat}{b r:aj}(h:rowOf z b=some r):aj.size r=aj.size b/\(∀j,j<aj.size b->aj.get r j=aj.get b j):=by
 unfold rowOf at h;split at h
 .rename_i hc
  simp only[cL,beq_iff,fD] at hc;obtain⟨EB,aEH,aZc⟩:=hc;split at h
  .rename_i cols h1
   simp only[m9] at h;obtain⟨es,h2,rfl⟩:=h;have hl:=ak0 h1;subst hl;obtain⟨a1,a2⟩:=LP h2;have hbs:=Qh EB;have hq:(b.length/cols.length)*cols.length=b.length:=Nat.div_mul_cancel (aEp aZc);refine⟨by rw[aj.size_cons,aj.lH,Sg.lL,ky,a1,Sz.val,hq,hbs],λj hj=> ?_⟩;rw[aj.dN (by rw[Sg.lL,a1,Sz.val,hq];omega),Sg.pN,a2,if_pos (by omega)];congr 1;omega
  .cases h
 .cases h
theorem aj.aUo {a b c:aj}(h:a.app b=some c):aj.size c=aj.size a+aj.size b/\
  ∀j,j<aj.size a+aj.size b->aj.get c j=if j<aj.size a then aj.get a j else aj.get b (j-aj.size a):=by
 unfold aj.app at h;split at h
 .cases h;refine⟨by rw[aj.lH,gP],λj hj=>by rw[if_neg (by rw[aj.lH];omega),aj.lH,Nat.sub_zero]⟩
 .cases h;refine⟨by rw[aj.lH,ky],λj hj=> ?_⟩;rw[aj.lH,ky] at hj;rw[if_pos hj]
 .exact aEJ h
 .split at h
  .rename_i h1
   obtain⟨e1,e2⟩:=ak1 h1;rw[(za _).1] at e1 e2;have e2:=λj hj=>(e2 j hj).trans ((za _).2 j hj)
   obtain⟨f1,f2⟩:=aEJ h;refine⟨by rw[f1,e1],λj hj=> ?_⟩;rw[f2 j (by rw[e1];exact hj)];by_cases lQ:j<aj.size a
   .rw[if_pos (by rw[e1];exact lQ),if_pos lQ,e2 j lQ]
   .rw[if_neg (by rw[e1];exact lQ),if_neg lQ,e1]
  .cases h
 .split at h
  .cases h;exact⟨aj.size_append _ _,λj _=>aj.get_append _ _ _⟩
  .cases h
theorem ZS (z:Nat)(b:aj):aj.size (asN z b)=aj.size b/\∀j,j<aj.size b->aj.get (asN z b) j=aj.get b j:=by
 have key:∀{r},rowOf z (uj b)=some r->aj.size r=aj.size b/\∀j,j<aj.size b->aj.get r j=aj.get b j:=λh=>by
  obtain⟨e1,e2⟩:=ak1 h;obtain⟨g1,g2⟩:=za b;rw[g1] at e1 e2;exact⟨e1,λj hj=>(e2 j hj).trans (g2 j hj)⟩
 unfold asN;split
 .exact⟨rfl,λ_ _=>rfl⟩
 .split
  .exact⟨rfl,λ_ _=>rfl⟩
  .split
   .rename_i h;exact key h
   .exact⟨rfl,λ_ _=>rfl⟩
 .split
  .rename_i h;exact key h
  .exact⟨rfl,λ_ _=>rfl⟩
theorem ak2:∀{tm:List Tm} {b r:aj},af2 tm b=some r->aj.size r=aj.size b/\∀j,j<aj.size b->aj.get r j=aj.get b j
 | [],[],r,h=>by cases h;exact⟨rfl,λ_ _=>rfl⟩
 | [],_::_,r,h=>by simp[af2] at h
 |.c::tm,[],r,h=>by simp[af2] at h
 |.c::tm,.a _ _::_,r,h=>by simp[af2] at h
 |.c::tm,.c v::b,r,h=>by
  simp only[af2,m9] at h;obtain⟨r',h1,rfl⟩:=h;obtain⟨e1,e2⟩:=ak2 h1;refine⟨by rw[aj.size_cons,aj.size_cons,e1],λj hj=> ?_⟩;rw[aj.size_cons,Sg.kH] at hj;cases j with
  |zero=>rfl
  |succ j=>
   rw[aj.lq (by rw[Sg.kH];omega),aj.lq (by rw[Sg.kH];omega)];exact e2 _ (by rw[Sg.kH];omega)
 |.a n z::tm,b,r,h=>by
  simp only[af2] at h;split at h
  .split at h
   .rename_i row h1
    simp only[m9] at h;obtain⟨r',h2,rfl⟩:=h;obtain⟨e1,e2⟩:=ak1 h1;obtain⟨f1,f2⟩:=ak2 h2;have hb:aj.size b=aj.size (b.take (n*z))+aj.size (b.drop (n*z)):=by rw[<-aj.size_append,List.take_append_drop]
    have hg:∀j,aj.get b j=if j<aj.size (b.take (n*z)) then aj.get (b.take (n*z)) j else aj.get (b.drop (n*z)) (j-aj.size (b.take (n*z))):=λj=>by rw[<-aj.get_append,List.take_append_drop]
    refine⟨by rw[aj.size_append,e1,f1,hb],λj hj=> ?_⟩;rw[aj.get_append,hg,e1];by_cases lQ:j<aj.size (b.take (n*z))
    .rw[if_pos lQ,if_pos lQ,e2 j lQ]
    .rw[if_neg lQ,if_neg lQ,f2 _ (by omega)]
   .cases h
  .cases h
theorem aRp (P:Program)(t:TypeId)(l:aj):aj.size (norm P t l)=aj.size l/\∀j,j<aj.size l->aj.get (norm P t l) j=aj.get l j:=by
 unfold norm;split
 .split
  .rename_i h;exact ak2 h
  .exact⟨rfl,λ_ _=>rfl⟩
 .split
  .exact⟨rfl,λ_ _=>rfl⟩
  .split
   .exact za l
   .exact⟨rfl,λ_ _=>rfl⟩
theorem axS (b:aj):aj.size (toS b)=aj.size b/\∀j,aj.get (toS b) j=aj.get b j:=by
 unfold toS;split
 .exact⟨rfl,λ_=>rfl⟩
 .exact⟨rfl,λ_=>rfl⟩
theorem Kf (f:CV->CV)(b:aj):aj.size (KY f b)=aj.size b:=by
 induction b with
 |nil=>rfl
 |cons s r ih=>cases s<;>simp only[KY,aj.size_cons,ih]<;>rfl
theorem aDz (cols:List cR)(j:Nat):∃x,iS cols j=.f x:=by
 unfold iS;split<;>exact⟨_,rfl⟩
theorem axT {f:CV->CV}(hf:∀x,f (.f x)=.f x)(b:aj)(j:Nat)(hj:j<aj.size b):aj.get (KY f b) j=f (aj.get b j):=by
 induction b generalizing j with
 |nil=>rw[aj.lH] at hj;omega
 |cons s r ih=>
  rw[aj.size_cons] at hj;cases s with
  |c v=>
   cases j with
   |zero=>rfl
   |succ j=>
    rw[KY,<-aj.kK (l:=KY f r) (j':=j) (by omega) (by omega),<-aj.kK (l:=r) (j':=j) (by omega) (by omega)];exact ih j (by rw[Sg.kH] at hj;omega)
  |a n cols=>
   rw[KY];by_cases h:j<(Sg.a n cols).size
   .rw[aj.dN h,aj.dN h,Sg.pN];obtain⟨x,hx⟩:=aDz cols j;rw[hx,hf]
   .rw[aj.lq (by omega),aj.lq (by omega)];exact ih _ (by omega)
theorem FV.aZd {x y:FV}(h:x.same y=true):x=y:=by
 unfold FV.same at h;split at h
 .rw[eq_of_beq h]
 .simp only[cL,j7] at h;rw[h.1,eq_of_beq h.2]
 .cases h
theorem aRq {v:FV}{c:cR}(h:aKI v=some c)(j:Nat):c.at j=v:=by
 cases v<;>simp only[aKI] at h<;>cases h<;>rfl
theorem agb:∀{z:Nat} {b:aj} {cols:List cR},ET z b=some cols->∀i,i<z->∃c v,cols[i]? =some c/\b[i]? =some (.c (.f v))/\∀j,c.at j=v
 |0,b,cols,_,i,h=>by omega
 |z+1,[],cols,h,_,_=>by simp[ET] at h
 |z+1,.a _ _::_,cols,h,_,_=>by simp[ET] at h
 |z+1,.c v::r,cols,h,i,hi=>by
  cases v<;>simp only[ET] at h<;>first|(cases h;done)|skip
  split at h
  .rename_i c cs h1 h2
   cases h;cases i with
   |zero=>exact⟨c,_,rfl,rfl,aRq h1⟩
   |succ i=>simpa using agb h2 i (by omega)
  .cases h
theorem ap7 {z:Nat}{row:aj}:∀{m:Nat} {b r:aj},Wh z row m b=some r->aj.size b=m+aj.size r/\(∀j,j<m->∃v,row[(m-1-j)%z]? =some (.c (.f v))/\aj.get b j=.f v)/\∀j,aj.get b (m+j)=aj.get r j
 |0,b,r,h=>by
  simp only[Wh,iv] at h;subst h;exact⟨by omega,λj hj=>by omega,λj=>by rw[gP]⟩
 |m+1,[],r,h=>by simp[Wh] at h
 |m+1,.a _ _::_,r,h=>by simp[Wh] at h
 |m+1,.c v::q,r,h=>by
  cases v<;>simp only[Wh] at h<;>first|(cases h;done)|skip
  rename_i v
  split at h
  .rename_i y hy
   split at h
   .rename_i hs
    have hs:=FV.aZd hs;subst hs;obtain⟨e1,e2,e3⟩:=ap7 h;refine⟨by rw[aj.size_cons,Sg.kH,e1];omega,λj hj=> ?_,λj=> ?_⟩
    .cases j with
     |zero=>exact⟨v,by simpa using hy,rfl⟩
     |succ j=>
      obtain⟨v',h1,h2⟩:=e2 j (by omega);refine⟨v',by rw[show m+1-1-(j+1)=m-1-j by omega];exact h1,?_⟩;rw[<-aj.kK (l:=q) (j':=j) (by omega) (by omega)];exact h2
    .rw[<-aj.kK (l:=q) (j':=m+j) (by omega) (by omega)];exact e3 j
   .cases h
  .cases h
theorem ak3:∀{tm:List Tm} {b r:aj},abQ tm b=some r->aj.size r=aj.size b/\∀j,aj.get r j=aj.get b j
 | [],[],r,h=>by simp only[abQ,iv] at h;subst h;exact⟨rfl,λ_=>rfl⟩
 | [],_::_,r,h=>by simp[abQ] at h
 |.c::tm,[],r,h=>by simp[abQ] at h
 |.c::tm,.a _ _::_,r,h=>by simp[abQ] at h
 |.c::tm,.c v::q,r,h=>by
  simp only[abQ,m9] at h;obtain⟨r',h1,rfl⟩:=h;obtain⟨e1,e2⟩:=ak3 h1;refine⟨by rw[aj.size_cons,aj.size_cons,e1],λj=> ?_⟩;cases j with
  |zero=>rfl
  |succ j=>rw[<-aj.kK (l:=r') (j':=j) (by omega) (by omega),<-aj.kK (l:=q) (j':=j) (by omega) (by omega),e2]
 |.a n z::tm,b,r,h=>by
  simp only[abQ] at h;split at h
  .rename_i cols h1
   split at h
   .rename_i hz
    rw[fD] at hz;split at h
    .rename_i q h2
     simp only[m9] at h;obtain⟨r',h3,rfl⟩:=h;obtain⟨e1,e2⟩:=ak3 h3;obtain⟨f1,f2,f3⟩:=ap7 h2;have hl:=ak0 h1;refine⟨by rw[aj.size_cons,Sg.lL,Sz.val,hl,e1,f1],λj=> ?_⟩;by_cases hj:j<n*z
     .rw[aj.dN (by rw[Sg.lL,Sz.val,hl];exact hj),Sg.pN];obtain⟨v,g1,g2⟩:=f2 j hj;rw[g2];unfold iS;rw[hl];have hm:=Nat.mod_lt j (show z>0 by omega);obtain⟨c,v',k1,k2,k3⟩:=agb h1 (j%z) hm;rw[k1];simp only[k3]
      have hlen:(b.take z).length=z:=by
       have:z<=b.length:=by
        obtain⟨_,_,_,k5,_⟩:=agb h1 (z-1) (by omega);have:=(lP.1 k5).1;omega
       simp;omega
      have a59:(n*z-1-j)%z=z-1-j%z:=by
       have hd:=Nat.div_add_mod j z;have hq:j/z<n:=(axF (by omega)).2 hj;obtain⟨t,ht⟩:∃t,n=j/z+1+t:=⟨n-(j/z+1),by omega⟩
       have:n*z-1-j=z*t+(z-1-j%z):=by
        have:n*z=z*(j/z)+z+z*t:=by rw[ht,abO,Nat.mul_add,Nat.mul_add,Nat.mul_one]
        omega
       rw[this,asL,axK (by omega)]
      rw[a59,List.getElem?_reverse (by omega),hlen,show z-1-(z-1-j%z)=j%z by omega,abL,if_pos hm,k2] at g1;cases g1;rfl
     .have e:aj.get (.a (.l n) cols::r') j=aj.get r' (j-n*z):=by
       rw[<-aj.ru (l:=r') (j':=j-n*z) (by rw[hl];omega) (by rw[hl])]
      rw[e,e2,<-f3];congr 1;omega
    .cases h
   .cases h
  .cases h
def bq {α β:Type}(R:α->β->Prop):List α->List β->Prop
 | [],[]=>True
 |a::l,b::m=>R a b/\bq R l m
 |_,_=>False
theorem bq.imp {α β:Type}{R S:α->β->Prop}(h:∀a b,R a b->S a b):∀{l:List α} {m:List β},bq R l m->bq S l m
 | [],[],_=>trivial
 |_::_,_::_,⟨a,b⟩=>⟨h _ _ a,bq.imp h b⟩
 | [],_::_,h=>h.elim
 |_::_,[],h=>h.elim
theorem bq.length {α β:Type}{R:α->β->Prop}:∀{l:List α} {m:List β},bq R l m->l.length=m.length
 | [],[],_=>rfl
 |_::_,_::_,⟨_,b⟩=>by simp[bq.length b]
 | [],_::_,h=>h.elim
 |_::_,[],h=>h.elim
theorem bq.append {α β:Type}{R:α->β->Prop}:∀{l:List α} {m:List β} {l':List α} {m':List β},bq R l m->bq R l' m'->bq R (l++l') (m++m')
 | [],[],_,_,_,h=>h
 |_::_,_::_,_,_,⟨a,b⟩,h=>⟨a,bq.append b h⟩
 | [],_::_,_,_,h,_=>h.elim
 |_::_,[],_,_,h,_=>h.elim
theorem bq.get {α β:Type}{R:α->β->Prop}:∀{l:List α} {m:List β},bq R l m->∀{i:Nat} {a:α},l[i]? =some a->∃b,m[i]? =some b/\R a b
 |a::l,b::m,⟨h,_⟩,0,x,e=>⟨b,rfl,by simp at e;exact e▸h⟩
 |a::l,b::m,⟨_,h⟩,i+1,x,e=>by simp at e ⊢;exact bq.get h e
 | [],_,_,i,a,e=>by simp at e
 |_::_,[],h,_,_,_=>h.elim
theorem bq.get' {α β:Type}{R:α->β->Prop}:∀{l:List α} {m:List β},bq R l m->∀{i:Nat} {b:β},m[i]? =some b->∃a,l[i]? =some a/\R a b
 |a::l,b::m,⟨h,_⟩,0,x,e=>⟨a,rfl,by simp at e;exact e▸h⟩
 |a::l,b::m,⟨_,h⟩,i+1,x,e=>by simp at e ⊢;exact bq.get' h e
 |_,[],_,i,a,e=>by simp at e
 | [],_::_,h,_,_,_=>h.elim
theorem bq.agc {α β:Type}{R:α->β->Prop}:∀{l:List α} {m:List β},l.length=m.length->(∀(i:Nat) a b,l[i]? =some a->m[i]? =some b->R a b)->bq R l m
 | [],[],_,_=>trivial
 |a::l,b::m,e,h=>⟨h 0 a b rfl rfl,bq.agc (by simpa using e) λi x y hx hy=>h (i+1) x y (by simpa using hx) (by simpa using hy)⟩
 | [],_::_,e,_=>by simp at e
 |_::_,[],e,_=>by simp at e
theorem bq.take {α β:Type}{R:α->β->Prop}:∀{l:List α} {m:List β} (n:Nat),bq R l m->bq R (l.take n) (m.take n)
 | [],[],n,_=>by simp[bq]
 |_::_,_::_,0,_=>by simp[bq]
 |_::_,_::_,n+1,⟨a,b⟩=>⟨a,bq.take n b⟩
 | [],_::_,_,h=>h.elim
 |_::_,[],_,h=>h.elim
theorem bq.drop {α β:Type}{R:α->β->Prop}:∀{l:List α} {m:List β} (n:Nat),bq R l m->bq R (l.drop n) (m.drop n)
 | [],[],n,_=>by simp[bq]
 |_::_,_::_,0,h=>h
 |_::_,_::_,n+1,⟨_,b⟩=>bq.drop n b
 | [],_::_,_,h=>h.elim
 |_::_,[],_,h=>h.elim
abbrev Pi:=Nat->Option (Nat×Nat×Nat×Nat)
def Ext (π π':Pi):Prop:=∀b p,π b=some p->π' b=some p
theorem Ext.refl (π:Pi):Ext π π:=λ_ _ h=>h
theorem Ext.trans {π π' π'':Pi}(h:Ext π π')(k:Ext π' π''):Ext π π'':=λb p e=>k b p (h b p e)
class aA where
 h0:Nat
 fs:Nat->Nat->Option Value
section
variable [aA]
def FV.rel:FV->Value->Prop
 |.u,x=>x.oneCell'=true
 |.b y,x=>x=.bool y
 |.i k n,x=>x=.int k n
 |.s y,x=>x=.string y
 |.q n g,x=>(n=0/\∃a,x=.slice a 0 0)∨∃B s cap,n<=cap/\x=.slice (some ⟨B,s,none⟩) n cap/\∀j,j<n->aA.fs B (s+j)=some (.bool (g j))
def CV.rel (π:Pi):CV->Value->Prop
 |.f v,x=>v.rel x
 |.ptr b o n,x=>∃B s q e,π b=some (B,s,q,e)/\x=.pointer (some ⟨B,s+o.val,none⟩)/\o.val+n<=q
 |.aiq,x=>x=.pointer none
 |.sl b o n z own,x=>∃B s q e,π b=some (B,s,q,e)/\o.val+n.val*z<=q/\(own=true->o.val+n.val*z=q)/\((n.val=0/\∃a,x=.slice a 0 0)∨∃cap,n.val<=cap/\x=.slice (some ⟨B,s+o.val,none⟩) n.val cap/\(own=true->s+o.val+cap*z<=e))
 |.nils,x=>x=.slice none 0 0
 |.aTk,x=>x=.nilFunc
 |.aTl,x=>x=.nilIface
 |.cl fid b o n,x=>∃B s q e,π b=some (B,s,q,e)/\x=.func (.func fid) #[] #[.pointer (some ⟨B,s+o.val,none⟩)]/\o.val+n<=q
 |.fs n z cols,x=>cols.length=z/\((n=0/\∃a,x=.slice a 0 0)∨∃B s cap,n<=cap/\x=.slice (some ⟨B,s,none⟩) n cap/\∀j,j<n*z->∃f v,iS cols j=.f f/\aA.fs B (s+j)=some v/\f.rel v)
 |.fp l,x=>∃B s,x=.pointer (some ⟨B,s,none⟩)/\∀j f,l[j]? =some f->∃v,aA.fs B (s+j)=some v/\f.rel v
def RV.rel (π:Pi):RV->Value->Prop
 |.c v,x=>v.rel π x
 |.agg cs,x=>∃a:Array Value,x=.agg a/\bq (CV.rel π) cs.list a.toList
def AV.rel (π:Pi):AV->Value->Prop
 |.r v,x=>v.rel π x
 |.tup vs,x=>∃a:Array Value,x=.tuple a/\bq (RV.rel π) vs a.toList
 |.fn f vs,x=>∃a:Array Value,x=.func (.func f) #[] a/\bq (RV.rel π) vs a.toList
 |.We,_=>True
theorem FV.Rf {v:FV}{x:Value}(h:v.rel x):x.oneCell'=true:=by
 cases v with
 |q n g=>
  simp only[FV.rel] at h;obtain⟨_,_,rfl⟩| ⟨_,_,_,_,rfl,_⟩:=h<;>rfl
 |_=>simp[FV.rel] at h<;>first|exact h|(subst h;rfl)
theorem CV.Rf {π:Pi}{v:CV}{x:Value}(h:v.rel π x):x.oneCell'=true:=by
 cases v<;>simp only[CV.rel] at h
 case f v=>exact FV.Rf h
 case ptr=>obtain⟨_,_,_,_,_,rfl,_⟩:=h;rfl
 case cl=>obtain⟨_,_,_,_,_,rfl,_⟩:=h;rfl
 case fs=>obtain⟨_,⟨_,_,rfl⟩| ⟨_,_,_,_,rfl,_⟩⟩:=h<;>rfl
 case fp=>obtain⟨_,_,rfl,_⟩:=h;rfl
 case sl=>obtain⟨_,_,_,_,_,_,_,⟨_,_,rfl⟩| ⟨_,_,rfl,_⟩⟩:=h<;>rfl
 all_goals (subst h;rfl)
theorem CV.dH {π π':Pi}(h:Ext π π')(v:CV)(x:Value)(r:v.rel π x):v.rel π' x:=by
 cases v<;>simp only[CV.rel] at r ⊢
 case ptr=>obtain⟨B,s,q,e,hb,hx⟩:=r;exact⟨B,s,q,e,h _ _ hb,hx⟩
 case cl=>obtain⟨B,s,q,e,hb,hx⟩:=r;exact⟨B,s,q,e,h _ _ hb,hx⟩
 case sl=>obtain⟨B,s,q,e,hb,hx⟩:=r;exact⟨B,s,q,e,h _ _ hb,hx⟩
 all_goals exact r
theorem RV.dH {π π':Pi}(h:Ext π π')(v:RV)(x:Value)(r:v.rel π x):v.rel π' x:=by
 cases v<;>simp only[RV.rel] at r ⊢
 case c=>exact CV.dH h _ _ r
 case agg=>obtain⟨a,hx,ha⟩:=r;exact⟨a,hx,ha.imp (CV.dH h)⟩
theorem AV.dH {π π':Pi}(h:Ext π π')(v:AV)(x:Value)(r:v.rel π x):v.rel π' x:=by
 cases v<;>simp only[AV.rel] at r ⊢
 case r=>exact RV.dH h _ _ r
 case tup=>obtain⟨a,hx,ha⟩:=r;exact⟨a,hx,ha.imp (RV.dH h)⟩
 case fn=>obtain⟨a,hx,ha⟩:=r;exact⟨a,hx,ha.imp (RV.dH h)⟩
omit [aA] in
theorem aRr {x:Value}(h:x.oneCell'=true):x.cells=#[x]:=by
 cases x<;>simp_all [Value.oneCell',Value.cells]
omit [aA] in
theorem aUp (v:CV):aj.list [.c v]=[v]:=rfl
theorem RV.Ow {π:Pi}{v:RV}{x:Value}(h:v.rel π x):bq (CV.rel π) v.bX.list x.cells.toList:=by
 cases v<;>simp only[RV.rel] at h
 case c v=>rw[aRr (CV.Rf h)];exact⟨h,trivial⟩
 case agg=>obtain⟨a,rfl,ha⟩:=h;exact ha
structure Gt where
 t:Nat->AV
 c:Nat->Nat->CV
 z:Nat->Option Nat
noncomputable def St.gt (s:St):Gt where
 t:=s.tmp
 c:=λb j=>match s.bX b with
  |some k=>if j<k.size then k.get j else .f .u
  |none=>.f .u
 z:=λb=>(s.bX b).map aj.size
inductive Pt where
 |t (i:Nat)
 |c (b j:Nat)
 |z (b:Nat)
inductive PV where
 |t (v:AV)
 |c (v:CV)
 |z (v:Option Nat)
def Gt.at (g:Gt):Pt->PV
 |.t i=>.t (g.t i)
 |.c b j=>.c (g.c b j)
 |.z b=>.z (g.z b)
omit [aA] in
theorem Gt.aTD {g g':Gt}(h:∀p,g.at p=g'.at p):g=g':=by
 cases g with|mk t c z=>cases g' with|mk t' c' z'=>
 have h1:t=t':=funext λi=>by simpa[Gt.at] using h (.t i)
 have h2:c=c':=funext λb=>funext λj=>by simpa[Gt.at] using h (.c b j)
 have h3:z=z':=funext λb=>by simpa[Gt.at] using h (.z b)
 subst h1 h2 h3;rfl
def inX (r:Option (Nat×Nat))(j:Nat):Prop:=
 match r with
 |some (lo,n)=>lo<=j/\j<lo+n
 |none=>True
def Fp.has:Fp->Pt->Prop
 |.t i,.t j=>i=j
 |.c b r,.c b' j=>b=b'/\inX r j
 |.z b,.z b'=>b=b'
 |_,_=>False
def Up.HZ:Up->Pt->Prop
 |.t i _,.t j=>i=j
 |.c b o v,.c b' j=>b=b'/\o.val<=j/\j<o.val+aj.size v
 |.new b _,.c b' _|.kill b,.c b' _|.new b _,.z b'|.kill b,.z b'=>b=b'
 |_,_=>False
omit [aA] in
theorem aKP:∀{v:aj} {n:Nat},szL v=some n->aj.size v=n
 | [],n,h=>by simp only[szL,iv] at h;rw[<-h];rfl
 |.c _::r,n,h=>by
  simp only[szL,m9] at h;obtain⟨m,h1,rfl⟩:=h;rw[aj.size_cons,Sg.kH,aKP h1]
 |.a (.l k) cols::r,n,h=>by
  simp only[szL,m9] at h;obtain⟨m,h1,rfl⟩:=h;rw[aj.size_cons,Sg.lL,aKP h1];rfl
 |.a (.s _) _::_,n,h=>by simp[szL] at h
omit [aA] in
theorem aEK {o:cG}{v:aj}{j:Nat}(h1:o.val<=j)(h2:j<o.val+aj.size v):inX (aNa o v) j:=by
 unfold aNa;split
 .rename_i c
  cases hs:szL v with
  |none=>trivial
  |some n=>
   have:=aKP hs;simp only[SS,inX];simp only[cG.val] at h1 h2;omega
 .trivial
omit [aA] in
theorem a1D {o:cG}{cH:Sz}{z j:Nat}(h:j<cH.val*z):inX (ext o cH z) (o.val+j):=by
 unfold ext;split
 .simp only[inX,cG.val];simp only[Sz.val] at h;omega
 .trivial
omit [aA] in
theorem aNl {r r':Option (Nat×Nat)}{j:Nat}(h1:inX r j)(h2:inX r' j):meet r r'=true:=by
 unfold meet;split
 .simp only[inX] at h1 h2;simp only[ovl,cL,uH];omega
 .rfl
omit [aA] in
theorem Fp.aEL {fp:Fp}{u:Up}{p:Pt}(h1:fp.has p)(h2:u.HZ p):fp.azI u=true:=by
 cases fp<;>cases u<;>cases p<;>simp only[Fp.has,Up.HZ,Fp.azI,beq_iff,cL] at* <;>first|omega|skip
 .exact⟨by omega,aNl h1.2 (aEK h2.2.1 h2.2.2)⟩
omit [aA] in
theorem Up.aEL {u u':Up}{p:Pt}(h1:u.HZ p)(h2:u'.HZ p):u.azI u'=true:=by
 cases u<;>cases u'<;>cases p<;>simp only[Up.HZ,Up.azI,beq_iff,cL] at* <;>first|omega|skip
 .exact⟨by omega,aNl (aEK h1.2.1 h1.2.2) (aEK h2.2.1 h2.2.2)⟩
def Up.gS (u:Up)(g:Gt):Gt:=
 match u with
 |.t i v=>{g with t:=λj=>if j=i then v else g.t j}
 |.c b o v=>{g with c:=λb' j=>if b'=b/\o.val<=j/\j<o.val+aj.size v then aj.get v (j-o.val) else g.c b' j}
 |.new b k=>{g with c:=λb' j=>if b'=b then(if j<k.size then k.get j else .f .u) else g.c b' j,z:=λb'=>if b'=b then some k.size else g.z b'}
 |.kill b=>{g with c:=λb' j=>if b'=b then .f .u else g.c b' j,z:=λb'=>if b'=b then none else g.z b'}
omit [aA] in
theorem Up.SY {u:Up}{g:Gt}{p:Pt}(h:¬u.HZ p):(u.gS g).at p=g.at p:=by
 cases u<;>cases p<;>simp_all [Up.HZ,Up.gS,Gt.at]<;>first|(intro a;exact absurd a.symm (by assumption))|(intros;omega)|(intro a;subst a;simp_all)
omit [aA] in
theorem Up.aNm {u:Up}{g g':Gt}{p:Pt}(h:u.HZ p):(u.gS g).at p=(u.gS g').at p:=by
 cases u<;>cases p<;>simp_all [Up.HZ,Up.gS,Gt.at]
def cI (us:List Up)(g:Gt):Gt:=us.foldl (λg u=>u.gS g) g
omit [aA] in
theorem rv:∀{us:List Up} {g:Gt} {p:Pt},(∀u∈us,¬u.HZ p)->(cI us g).at p=g.at p
 | [],_,_,_=>rfl
 |u::us,g,p,h=>by
  show(cI us (u.gS g)).at p=_;rw[rv λv hv=>h v (by simp[hv]),Up.SY (h u (by simp))]
omit [aA] in
theorem agd:∀{us:List Up} {g g':Gt} {p:Pt},(∃u∈us,u.HZ p)∨g.at p=g'.at p->(cI us g).at p=(cI us g').at p
 | [],g,g',p,h=>by
  rcases h with⟨u,hu,_⟩|h
  .simp at hu
  .exact h
 |u::us,g,g',p,h=>by
  show(cI us (u.gS g)).at p=(cI us (u.gS g')).at p;apply agd
  by_cases hu:u.HZ p
  .exact .inr (Up.aNm hu)
  .rcases h with⟨v,hv,ht⟩|h
   .rcases abN.1 hv with rfl|hv
    .exact absurd ht hu
    .exact .inl ⟨v,hv,ht⟩
   .exact .inr (by rw[Up.SY hu,Up.SY hu,h])
inductive aH {α:Type}:Rd α->Gt->α->List Fp->Prop where
 |ret (a:α) (g:Gt):aH (.ret a) g a []
 |tm {i:Nat} {k:AV->Rd α} {g:Gt} {a:α} {l:List Fp} (h:aH (k (g.t i)) g a l):aH (.tm i k) g a (.t i::l)
 |vw {b:Nat} {o:cG} {cH:Sz} {z:Nat} {k:aj->Rd α} {g:Gt} {a:α} {l:List Fp} (q:Nat) (v:aj) (hz:g.z b=some q) (hs:aj.size v=cH.val*z) (hv:o.val+cH.val*z<=q->∀j,j<cH.val*z->aj.get v j=g.c b (o.val+j)) (h:aH (k v) g a l):aH (.vw b o cH z k) g a (.c b (ext o cH z):: .z b::l)
 |sz {b:Nat} {k:Rd α} {g:Gt} {a:α} {l:List Fp} (q:Nat) (hz:g.z b=some q) (h:aH k g a l):aH (.sz b k) g a (.z b::l)
 |test {x:Bool} {k:Bool->Rd α} {g:Gt} {a:α} {l:List Fp} (h:aH (k x) g a l):aH (.test x k) g a l
 |opt {E:Type} {x:Option E} {k:E->Rd α} {d:E} {g:Gt} {a:α} {l:List Fp} (hx:x=some d) (h:aH (k d) g a l):aH (.opt x k) g a l
omit [aA] in
theorem aH.local {α:Type}{m:Rd α}{g g':Gt}{a:α}{l:List Fp}(h:aH m g a l):(∀fp∈l,∀p,fp.has p->g.at p=g'.at p)->aH m g' a l:=by
 induction h with
 |ret a g=>intro _;exact .ret _ _
 |@tm i k g a l h ih=>
  intro e;have e1:g.t i=g'.t i:=by simpa[Gt.at] using e (.t i) (by simp) (.t i) rfl
  exact .tm (e1▸ih λfp hf=>e fp (by simp[hf]))
 |@vw b o cH z k g a l q v hz hs hv h ih=>
  intro e;have e1:g.z b=g'.z b:=by simpa[Gt.at] using e (.z b) (by simp) (.z b) rfl
  refine .vw q v (e1▸hz) hs (λhle j hj=> ?_) (ih λfp hf=>e fp (by simp[hf]));rw[hv hle j hj];simpa[Gt.at] using e (.c b (ext o cH z)) (by simp) (.c b (o.val+j)) ⟨rfl,a1D hj⟩
 |@sz b k g a l q hz h ih=>
  intro e;have e1:g.z b=g'.z b:=by simpa[Gt.at] using e (.z b) (by simp) (.z b) rfl
  exact .sz q (e1▸hz) (ih λfp hf=>e fp (by simp[hf]))
 |test h ih=>intro e;exact .test (ih e)
 |opt hx h ih=>intro e;exact .opt hx (ih e)
omit [aA] in
theorem aH.bind {α β:Type}{m:Rd α}{f:α->Rd β}{g:Gt}{b:β}{l:List Fp}(h:aH (m.bind f) g b l):
  ∃a l1 l2,aH m g a l1/\aH (f a) g b l2/\l=l1++l2:=by
 induction m generalizing l with
 |ret a=>exact⟨a,[],l,.ret _ _,h,rfl⟩
 |fail=>cases h
 |tm i k ih=>cases h with|tm h=>obtain⟨a,l1,l2,h1,h2,e⟩:=ih _ h;exact⟨a,_,l2,.tm h1,h2,by simp[e]⟩
 |vw b o cH z k ih=>cases h with|vw q v hz hs hv h=>obtain⟨a,l1,l2,h1,h2,e⟩:=ih _ h;exact⟨a,_,l2,.vw q v hz hs hv h1,h2,by simp[e]⟩
 |sz b k ih=>cases h with|sz q hz h=>obtain⟨a,l1,l2,h1,h2,e⟩:=ih h;exact⟨a,_,l2,.sz q hz h1,h2,by simp[e]⟩
 |opt x k ih=>cases h with|opt hx h=>obtain⟨a,l1,l2,h1,h2,e⟩:=ih _ h;exact⟨a,_,l2,.opt hx h1,h2,by simp[e]⟩
 |test x k ih=>cases h with|test h=>obtain⟨a,l1,l2,h1,h2,e⟩:=ih _ h;exact⟨a,_,l2,.test h1,h2,by simp[e]⟩
omit [aA] in
theorem aH.bind' {α β:Type}{m:Rd α}{f:α->Rd β}{g:Gt}{b:β}{l:List Fp}(h:aH (m.bind f) g b l):
  ∃a,(∃l1,aH m g a l1)/\∃l2,aH (f a) g b l2:=by
 obtain⟨a,l1,l2,h1,h2,_⟩:=h.bind;exact⟨a,⟨l1,h1⟩,l2,h2⟩
omit [aA] in
theorem St.ap8 {s:St}{b:Nat}{k:aj}(h:s.bX b=some k):s.gt.z b=some k.size:=by simp[St.gt,h]
omit [aA] in
theorem St.aTE {s:St}{b j:Nat}{k:aj}(h:s.bX b=some k)(hj:j<k.size):s.gt.c b j=k.get j:=by simp[St.gt,h,hj]
omit [aA] in
theorem Rd.aRs {α ρ:Type}{m:Rd α}{s:St}{k:α->List Fp->Option ρ}{r:ρ}:∀{l:List Fp},m.run s l k=some r->
  ∃a fp,aH m s.gt a fp/\k a (fp.reverse++l)=some r:=by
 induction m with
 |ret a=>intro l h;exact⟨a,[],.ret _ _,h⟩
 |fail=>intro l h;simp[Rd.run] at h
 |tm i f ih=>
  intro l h;obtain⟨a,fp,h1,h2⟩:=ih _ h;exact⟨a,.t i::fp,.tm h1,by simpa using h2⟩
 |vw b o cH z f ih=>
  intro l h;simp only[Rd.run] at h;split at h
  .rename_i bX hb
   split at h
   .rename_i p hp
    split at h
    .rename_i hg
     obtain⟨a,fp,h1,h2⟩:=ih _ h;obtain⟨g,v⟩:=p;simp only at hg h1;subst hg;obtain⟨e1,e2⟩:=aj.axR hp;exact⟨a,.c b (ext o cH z):: .z b::fp,.vw (aj.size bX) _ (St.ap8 hb) e1 (λhle j hj=>(e2 hle j hj).trans (St.aTE hb (by omega)).symm) h1,by simpa using h2⟩
    .simp at h
   .simp at h
  .simp at h
 |sz b f ih=>
  intro l h;simp only[Rd.run] at h;split at h
  .rename_i bX hb
   obtain⟨a,fp,h1,h2⟩:=ih h;exact⟨a,.z b::fp,.sz (aj.size bX) (St.ap8 hb) h1,by simpa using h2⟩
  .simp at h
 |test x f ih=>
  intro l h;cases x
  .obtain⟨a,fp,h1,h2⟩:=ih _ h;exact⟨a,fp,.test h1,h2⟩
  .obtain⟨a,fp,h1,h2⟩:=ih _ h;exact⟨a,fp,.test h1,h2⟩
 |opt x f ih=>
  intro l h;cases x with
  |none=>cases h
  |some d=>obtain⟨a,fp,h1,h2⟩:=ih d (l:=l) h;exact⟨a,fp,.opt rfl h1,h2⟩
omit [aA] in
theorem aUq {α:Type}(l:List α)(i j:Nat)(v d:α)(h:i<l.length):(l.set i v).getD j d=if j=i then v else l.getD j d:=by
 simp only[List.getD,aEt];by_cases e:i=j
 .subst e;simp[h]
 .simp[e,Ne.symm e]
omit [aA] in
theorem Bm (l:List AV)(i:Nat):akU l i=l.getD i udf:=by
 induction l generalizing i with
 |nil=>rfl
 |cons a l ih=>
  cases i with
  |zero=>rfl
  |succ i=>exact(ih i).trans (by simp[List.getD])
omit [aA] in
theorem ak4 {α ρ:Type}(l:List α)(i:Nat)(v:α)(k:List α->Option ρ):azG l i v k=if i<l.length then k (l.set i v) else none:=by
 induction l generalizing i k with
 |nil=>rfl
 |cons a l ih=>
  cases i with
  |zero=>rfl
  |succ i=>
   have:azG (a::l) (i+1) v k=azG l i v λl'=>k (a::l'):=rfl
   rw[this,ih];simp
omit [aA] in
theorem auL {l:List (Option aj)}{b b':Nat}{x:Option aj}(h:b<l.length):((l.set b x)[b']?).getD none=if b'=b then x else(l[b']?).getD none:=by
 simp only[aEt];by_cases e:b=b'
 .subst e;simp[h]
 .simp[e,Ne.symm e]
omit [aA] in
theorem St.aKQ {s:St}{b:Nat}{k:aj}(h:s.bX b=some k):b<s.heap.length:=by
 rcases mO b s.heap.length with h'|h'
 .exact h'
 .simp[St.bX,Kc h'] at h
omit [aA] in
theorem aNn {l:List (Option aj)}{b':Nat}{x:Option aj}:((l++[x])[b']?).getD none=if b'=l.length then x else(l[b']?).getD none:=by
 rw[List.getElem?_append];by_cases h:b'<l.length
 .simp[h,Nat.ne_of_lt h]
 .by_cases e:b'=l.length
  .subst e;simp
  .rw[if_neg h,if_neg e,Kc (by simp;omega),Kc (by omega)]
omit [aA] in
theorem Up.a1E {s:St}{u:Up}(k:Nat)(h:u.ok s=true):(u.app k s).gt=u.gS s.gt:=by
 apply Gt.aTD
 intro p;cases u with
 |t i v=>
  have hi:i<s.tmps.length:=by have h:=h;simp[Up.ok,Nat.blt] at h;omega
  cases p<;>simp only[Gt.at,Up.app,Up.gS,St.gt,St.tmp,St.bX,PV.t.injEq]
  rw[Bm,Bm];exact aUq _ _ _ _ _ hi
 |c b o v=>
  simp only[Up.ok] at h;split at h
  .rename_i bX hb
   split at h
   .rename_i p' hp
    obtain⟨g',nb⟩:=p';simp only[cL,fD] at h;obtain⟨rfl,hle⟩:=h;obtain⟨yZ,ak5⟩:=aj.aUn hp;have od:=St.aKQ hb;have ZT:∀b',St.bX {s with heap:=s.heap.set b (some nb),dm:=mark k b s.dm} b'=if b'=b then some nb else s.bX b':=λb'=>auL od
    cases p with
    |t j=>simp only[Gt.at,Up.app,Up.gS,St.gt,hb,St.tmp,hp]
    |c b' j=>
     simp only[Gt.at,Up.app,Up.gS,St.gt,hb,PV.c.injEq,hp,ZT];by_cases e:b'=b
     .subst e;simp only[lK,hb,yZ,A6];by_cases hj:j<aj.size bX
      .simp only[hj,lK,ak5 j hj]
      .simp only[hj,gq];rw[if_neg (by omega)]
     .simp only[e,gq,false_and]
    |z b'=>
     simp only[Gt.at,Up.app,Up.gS,St.gt,hb,PV.z.injEq,hp,ZT];by_cases e:b'=b
     .subst e;simp[hb,yZ]
     .simp[e]
   .simp at h
  .simp at h
 |new b bX=>
  have hb:b=s.heap.length:=lE h;have ZT:∀b',St.bX {s with heap:=s.heap++[some bX]} b'=if b'=b then some bX else s.bX b':=λb'=>by rw[hb];exact aNn
  cases p with
  |t j=>simp only[Gt.at,Up.app,Up.gS,St.gt,St.tmp]
  |c b' j=>
   simp only[Gt.at,Up.app,Up.gS,St.gt,PV.c.injEq,ZT];by_cases e:b'=b<;>simp[e]
  |z b'=>
   simp only[Gt.at,Up.app,Up.gS,St.gt,PV.z.injEq,ZT];by_cases e:b'=b<;>simp[e]
 |kill b=>
  have hb:b<s.heap.length:=by have h:=h;simp[Up.ok,Nat.blt] at h;omega
  have ZT:∀b',St.bX {s with heap:=s.heap.set b none,dm:=mark k b s.dm} b'=if b'=b then none else s.bX b':=λb'=>auL hb
  cases p with
  |t j=>simp only[Gt.at,Up.app,Up.gS,St.gt,St.tmp]
  |c b' j=>
   simp only[Gt.at,Up.app,Up.gS,St.gt,PV.c.injEq,ZT];by_cases e:b'=b<;>simp[e]
  |z b'=>
   simp only[Gt.at,Up.app,Up.gS,St.gt,PV.z.injEq,ZT];by_cases e:b'=b<;>simp[e]
omit [aA] in
theorem Ox {k:Nat}:∀{us:List Up} {s s':St},j9 k us s=some s'->s'.gt=cI us s.gt
 | [],s,s',h=>by simp[j9] at h;subst h;rfl
 |u::us,s,s',h=>by
  simp only[j9] at h;split at h
  .rename_i hu
   rw[Ox h,Up.a1E k hu];rfl
  .simp at h
end
theorem Wl {α ρ:Type}(l:List α)(k:List α->ρ):af5 l k=k l:=by
 induction l generalizing k with
 |nil=>rfl
 |cons a l ih=>exact ih λl=>k (a::l)
theorem aEM {ρ:Type}(o:cG)(k:cG->ρ):auA o k=k o:=by cases o<;>rfl
theorem aEN {ρ:Type}(o:Sz)(k:Sz->ρ):aKN o k=k o:=by cases o<;>rfl
theorem aEO {ρ:Type}(o:FV)(k:FV->ρ):aDw o k=k o:=by cases o<;>rfl
theorem aKR {ρ:Type}(o:cR)(k:cR->ρ):axO o k=k o:=by cases o<;>rfl
theorem ap9 {ρ:Type}(l:List cR)(k:List cR->ρ):Wi l k=k l:=by
 induction l generalizing k with
 |nil=>rfl
 |cons a l ih=>
  have:Wi (a::l) k=axO a λa=>Wi l λl=>k (a::l):=rfl
  rw[this,aKR,ih]
theorem aNo {ρ:Type}(l:List FV)(k:List FV->ρ):auB l k=k l:=by
 induction l generalizing k with
 |nil=>rfl
 |cons a l ih=>
  have:auB (a::l) k=aDw a λa=>auB l λl=>k (a::l):=rfl
  rw[this,aEO,ih]
theorem aEP {ρ:Type}(o:CV)(k:CV->ρ):aDx o k=k o:=by
 cases o<;>simp only[aDx,aEO,aEM,aEN,ap9,aNo]
theorem aNp {ρ:Type}(o:Sg)(k:Sg->ρ):auC o k=k o:=by
 cases o<;>simp only[auC,aEP,aEN,ap9]
theorem age {ρ:Type}(l:aj)(k:aj->ρ):ZP l k=k l:=by
 induction l generalizing k with
 |nil=>rfl
 |cons a l ih=>
  have:ZP (a::l) k=auC a λa=>ZP l λl=>k (a::l):=rfl
  rw[this,aNp,ih]
theorem aEQ {ρ:Type}(o:RV)(k:RV->ρ):auD o k=k o:=by
 cases o<;>simp only[auD,aEP,age]
theorem aNq {ρ:Type}(l:List RV)(k:List RV->ρ):akX l k=k l:=by
 induction l generalizing k with
 |nil=>rfl
 |cons a l ih=>
  have:akX (a::l) k=auD a λa=>akX l λl=>k (a::l):=rfl
  rw[this,aEQ,ih]
theorem aER {ρ:Type}(o:AV)(k:AV->ρ):auE o k=k o:=by
 cases o<;>simp only[auE,aEQ,aNq]
theorem aRt {ρ:Type}(o:Up)(k:Up->ρ):aDy o k=k o:=by
 cases o<;>simp only[aDy,aER,aEM,age]
theorem aNr {ρ:Type}(l:List Up)(k:List Up->ρ):auF l k=k l:=by
 induction l generalizing k with
 |nil=>rfl
 |cons a l ih=>
  have:auF (a::l) k=aDy a λa=>auF l λl=>k (a::l):=rfl
  rw[this,aRt,ih]
theorem aNs {ρ:Type}(l:List AV)(k:List AV->ρ):auG l k=k l:=by
 induction l generalizing k with
 |nil=>rfl
 |cons a l ih=>
  have:auG (a::l) k=auE a λa=>auG l λl=>k (a::l):=rfl
  rw[this,aER,ih]
theorem aNt {ρ:Type}(o:Option aj)(k:Option aj->ρ):auH o k=k o:=by
 cases o<;>simp only[auH,age]
theorem aNu {ρ:Type}(l:List (Option aj))(k:List (Option aj)->ρ):auI l k=k l:=by
 induction l generalizing k with
 |nil=>rfl
 |cons a l ih=>
  have:auI (a::l) k=auH a λa=>auI l λl=>k (a::l):=rfl
  rw[this,aNt,ih]
theorem LR {ρ:Type}(s:St)(k:St->ρ):yG s k=k s:=by
 unfold yG;simp only[Wl,aNs,aNu]
theorem Up.aES {ρ:Type}(k:Nat)(u:Up)(s:St)(c:St->Option ρ):u.adU k s c=match u.ok s with
  |true=>c (u.app k s)
  |false=>none:=by
 cases u with
 |t i v=>
  simp only[Up.adU,ak4,Up.ok,Up.app];by_cases h:i<s.tmps.length
  .rw[if_pos h,uH.2 h]
  .rw[if_neg h,af6 h]
 |c b o v=>
  simp only[Up.adU,Up.ok,Up.app,age,Wl,ak4];split
  .rename_i bX hb
   have od:b<s.heap.length:=St.aKQ hb;split
   .rename_i p hp
    split<;>rename_i hg<;>simp only[hb,hp,hg,od,lK]
   .rename_i hp;simp only[hb,hp]
  .rename_i hb;simp only[hb]
 |new b bX=>
  simp only[Up.adU,Up.ok,Up.app,Wl];cases Nat.beq b s.heap.length<;>rfl
 |kill b=>
  simp only[Up.adU,ak4,Up.ok,Up.app,Wl];by_cases h:b<s.heap.length
  .rw[if_pos h,uH.2 h]
  .rw[if_neg h,af6 h]
theorem aES {ρ:Type}(k:Nat)(us:List Up)(s:St)(c:St->Option ρ):adU k us s c=match j9 k us s with
  |some s'=>c s'
  |none=>none:=by
 induction us generalizing s with
 |nil=>rfl
 |cons u us ih=>
  have:adU k (u::us) s c=u.adU k s λs=>adU k us s c:=rfl
  rw[this,Up.aES,j9];split
  .rename_i h;simp only[h,ih]
  .rename_i h;simp only[h]
end Go.Ab
namespace Go.Ab
structure cy (w0:World)(S:Nat->Nat->Prop)(w:World):Prop where
 os:w.os=w0.os
 tape:w.tape=w0.tape
 output:w.output=w0.output
 size:w0.heap.size<=w.heap.size
 obj:∀B:Nat,B<w0.heap.size->(∀c t fz,w0.heap[B]? ≠some (.cells c t fz))->w.heap[B]? =w0.heap[B]?
 fzn:∀a,w.frozen? a=w0.frozen? a
 row:∀(B:Nat) c t fz,w0.heap[B]? =some (.cells c t fz)->∃c',w.heap[B]? =some (.cells c' t fz)/\c'.size=c.size/\∀i:Nat,¬S B i->c'[i]? =c[i]?
theorem cy.refl (w:World)(S:Nat->Nat->Prop):cy w S w:=
 ⟨rfl,rfl,rfl,cP _,λ_ _ _=>rfl,λ_=>rfl,λ_ c _ _ h=>⟨c,h,rfl,λ_ _=>rfl⟩⟩
theorem cy.mono {w0 w:World}{S S':Nat->Nat->Prop}(h:cy w0 S w)(hs:∀B i,B<w0.heap.size->S B i->S' B i):cy w0 S' w:=
 ⟨h.os,h.tape,h.output,h.size,h.obj,h.fzn,λB c t fz hb=>by
  obtain⟨c',h1,h2,h3⟩:=h.row B c t fz hb;refine⟨c',h1,h2,λi hi=>h3 i λhS=>hi (hs B i ?_ hS)⟩;rcases mO B w0.heap.size with h'|h'
  .exact h'
  .rw[asG h'] at hb;cases hb⟩
theorem cy.trans {w0 w w':World}{S S':Nat->Nat->Prop}(h:cy w0 S w)(h':cy w S' w')(hs:∀B i,B<w0.heap.size->S' B i->S B i):cy w0 S w':=by
 refine⟨h'.os.trans h.os,h'.tape.trans h.tape,h'.output.trans h.output,dx h.size h'.size,λB hB hn=> ?_,λa=>(h'.fzn a).trans (h.fzn a),λB c t fz hb=> ?_⟩
 .have e:=h.obj B hB hn;rw[<-e];exact h'.obj B (aEs hB h.size) (by rw[e];exact hn)
 .obtain⟨c1,e1,z1,k1⟩:=h.row B c t fz hb;obtain⟨c2,e2,z2,k2⟩:=h'.row B c1 t fz e1
  have hB:B<w0.heap.size:=by
   rcases mO B w0.heap.size with h'|h'
   .exact h'
   .rw[asG h'] at hb;cases hb
  exact⟨c2,e2,z2.trans z1,λi hi=>(k2 i λhS=>hi (hs B i hB hS)).trans (k1 i hi)⟩
theorem cy.drew {w0 w:World}{S:Nat->Nat->Prop}(h:cy w0 S w):cy w0 S {w with drawn:=w.drawn+1}:=⟨h.os,h.tape,h.output,h.size,h.obj,h.fzn,h.row⟩
theorem Wm (w:World)(c:Array Value)(t:TypeId)(a:Addr):(w.alloc (.cells c t)).frozen? a=w.frozen? a:=by
 by_cases h:a.block=w.heap.size
 .have e1:(w.alloc (.cells c t)).heap[a.block]? =some (.cells c t):=by
   rw[h];show(w.heap.push _)[w.heap.size]? =_;simp
  have e2:w.heap[a.block]? =none:=by rw[h];simp
  simp[World.frozen?,e1,e2]
 .exact World.frozen?_alloc_old _ _ _ h
theorem cy.alloc {w0 w:World}{S:Nat->Nat->Prop}(h:cy w0 S w)(cs:Array Value)(ty:TypeId):cy w0 S (w.alloc (.cells cs ty)):=by
 generalize ho:Obj.cells cs ty=o
 have od:∀(B:Nat),B<w0.heap.size->(w.alloc o).heap[B]? =w.heap[B]? :=λB hB=>by
  show(w.heap.push o)[B]? =_;rw[Array.getElem?_push,if_neg (by have:=h.size;omega)]
 refine⟨h.os,h.tape,h.output,by rw[World.size_alloc];have:=h.size;omega,λB hB hn=>(od B hB).trans (h.obj B hB hn),λa=>by rw[<-ho,Wm];exact h.fzn a,λB c t fz hb=> ?_⟩
 have hB:B<w0.heap.size:=by
  rcases mO B w0.heap.size with h'|h'
  .exact h'
  .rw[asG h'] at hb;cases hb
 rw[od B hB];exact h.row B c t fz hb
theorem cy.setCell {w0 w:World}{S:Nat->Nat->Prop}(h:cy w0 S w){B i:Nat}(hs:w0.heap.size<=B∨S B i)(v:Value):cy w0 S (w.setCell ⟨B,i,none⟩ v):=by
 refine⟨h.os,h.tape,h.output,by simpa[World.setCell] using h.size,λB' hB hn=> ?_,λa=>(World.frozen?_setCell _ _ _ _).trans (h.fzn a),λB' c t fz hb=> ?_⟩
 .by_cases e:B=B'
  .subst e;have:=h.obj B hB hn;simp only[World.setCell,aKF,lK,this];cases hh:w0.heap[B]? with
   |none=>rfl
   |some x=>cases x<;>first|rfl|exact absurd hh (hn _ _ _)
  .simp only[World.setCell,aKF,e,gq];exact h.obj B' hB hn
 .have hB:B'<w0.heap.size:=by
   rcases mO B' w0.heap.size with h'|h'
   .exact h'
   .rw[asG h'] at hb;cases hb
  obtain⟨c1,e1,z1,k1⟩:=h.row B' c t fz hb;by_cases e:B=B'
  .subst e;refine⟨c1.setIfInBounds i v,by simp[World.setCell,aKF,e1],by simpa using z1,λj hj=> ?_⟩;have mX:i≠j:=λe=>by subst e;rcases hs with hs|hs;omega;exact hj hs
   rw[aTj mX];exact k1 j hj
  .exact⟨c1,by simp only[World.setCell,aKF,e,gq];exact e1,z1,k1⟩
theorem cy.setCells {w0:World}{S:Nat->Nat->Prop}{B:Nat}:∀{vs:List Value} {o:Nat} {w:World},cy w0 S w->(w0.heap.size<=B∨∀j,j<vs.length->S B (o+j))->cy w0 S (w.setCells B o vs)
 | [],_,_,h,_=>h
 |v::vs,o,w,h,hs=>by
  rw[World.setCells];refine cy.setCells (h.setCell (hs.imp id λh=>by simpa using h 0 (by simp)) v) (hs.imp id λh j hj=> ?_);have:=h (j+1) (by simp;omega);rwa [show o+(j+1)=o+1+j by omega] at this
variable [aA]
def cl (w:World)(B i:Nat):Option Value:=w.cell? ⟨B,i,none⟩
def fz (w:World)(B i:Nat):Bool:=w.frozen? ⟨B,i,none⟩
omit [aA] in
theorem abT {w:World}{B i:Nat}(h:(cl w B i).isSome=true):B<w.heap.size:=by
 rcases mO B w.heap.size with h'|h'
 .exact h'
 .simp[cl,World.cell?,asG h'] at h
omit [aA] in
theorem aIQ {w:World}{o:Obj}{B i:Nat}(h:B<w.heap.size):cl (w.alloc o) B i=cl w B i:=World.cell?_alloc_lt _ _ _ h
omit [aA] in
theorem aUr {w:World}{o:Obj}{B i:Nat}(h:B<w.heap.size):fz (w.alloc o) B i=fz w B i:=World.frozen?_alloc_old _ _ _ (Nat.ne_of_lt h)
omit [aA] in
theorem cy.cl {w0 w:World}{S:Nat->Nat->Prop}(h:cy w0 S w){B i:Nat}(hB:B<w0.heap.size)(hs:¬S B i):cl w B i=cl w0 B i:=by
 simp only[Ab.cl,World.cell?];cases hh:w0.heap[B]? with
 |none=>rw[h.obj B hB (by simp[hh]),hh]
 |some x=>
  cases x with
  |cells c t f=>
   obtain⟨c',e,_,k⟩:=h.row B c t f hh;simp only[e];simpa using k i hs
  |_=>rw[h.obj B hB (by simp[hh]),hh]
omit [aA] in
theorem cy.fz {w0 w:World}{S:Nat->Nat->Prop}(h:cy w0 S w){B i:Nat}(hB:B<w0.heap.size):fz w B i=fz w0 B i:=by
 simp only[Ab.fz,World.frozen?];cases hh:w0.heap[B]? with
 |none=>rw[h.obj B hB (by simp[hh]),hh]
 |some x=>
  cases x with
  |cells c t f=>
   obtain⟨c',e,_,k⟩:=h.row B c t f hh;simp only[e]
  |_=>rw[h.obj B hB (by simp[hh]),hh]
structure Bn (w:World):Prop where
 sz:aA.h0<=w.heap.size
 fr:∀B i,aA.h0<=B->fz w B i=false
 st:∀B i v,aA.fs B i=some v->B<aA.h0/\cl w B i=some v
theorem Bn.same {w w':World}(h:Bn w)(e:w'.heap=w.heap):Bn w':=by
 refine⟨by rw[e];exact h.sz,λB i hB=> ?_,λB i v hv=> ?_⟩
 .have:=h.fr B i hB;simp only[fz,World.frozen?] at this ⊢;rw[e];exact this
 .obtain⟨h1,h2⟩:=h.st B i v hv;refine⟨h1,?_⟩;simp only[cl,World.cell?] at h2 ⊢;rw[e];exact h2
theorem Bn.alloc {w:World}(h:Bn w)(cs:Array Value)(t:TypeId):Bn (w.alloc (.cells cs t)):=by
 refine⟨by rw[World.size_alloc];have:=h.sz;omega,λB i hB=> ?_,λB i v hv=> ?_⟩
 .unfold fz;rw[Wm];exact h.fr B i hB
 .obtain⟨h1,h2⟩:=h.st B i v hv;exact⟨h1,by rw[aIQ (abT (by rw[h2];rfl))];exact h2⟩
structure sV (π:Pi)(c:Nat->Nat->CV)(z:Nat->Option Nat)(w:World):Prop where
 am:Bn w
 lb:∀b B s q e,z b≠none->π b=some (B,s,q,e)->s<e->aA.h0<=B
 hp:∀b n,z b=some n->∃B s e,π b=some (B,s,n,e)/\s+n<=e/\(∀i,s<=i->i<e->(cl w B i).isSome=true/\fz w B i=false)/\∀j,j<n->∃v,cl w B (s+j)=some v/\(c b j).rel π v
 dj:∀b b' B s q e s' q' e',b≠b'->z b≠none->z b'≠none->π b=some (B,s,q,e)->π b'=some (B,s',q',e')->∀i,s<=i->i<e->s'<=i->i<e'->False
theorem sV.aTF {π:Pi}{c:Nat->Nat->CV}{z:Nat->Option Nat}{w w':World}(h:sV π c z w)
  (ha:Bn w')(hw:∀b B s q e,z b≠none->π b=some (B,s,q,e)->∀i,s<=i->i<e->cl w' B i=cl w B i/\fz w' B i=fz w B i):sV π c z w':=by
 refine⟨ha,h.lb,λb n hz=> ?_,h.dj⟩;obtain⟨B,s,e,hb,hle,h1,h2⟩:=h.hp b n hz;refine⟨B,s,e,hb,hle,λi hi he=> ?_,λj hj=> ?_⟩
 .have:=hw b B s n e (by simp[hz]) hb i hi he;rw[this.1,this.2];exact h1 i hi he
 .have:=hw b B s n e (by simp[hz]) hb (s+j) (by omega) (by omega);rw[this.1];exact h2 j hj
theorem sV.LS {π π':Pi}{c:Nat->Nat->CV}{z:Nat->Option Nat}{w:World}(h:sV π c z w)(hx:Ext π π'):sV π' c z w:=by
 refine⟨h.am,λb B s q e hz hb B7=> ?_,λb n hz=> ?_,λb b' B s q e s' q' e' mX hz uJ hb fB=> ?_⟩
 .cases hh:z b with
  |none=>exact absurd hh hz
  |some n=>
   obtain⟨B1,s1,e1,hb1,_⟩:=h.hp b n hh;have e2:=hx _ _ hb1;rw[hb] at e2;cases e2;exact h.lb b B s _ e (by rw[hh];simp) hb1 B7
 .obtain⟨B,s,e,hb,hle,h1,h2⟩:=h.hp b n hz;exact⟨B,s,e,hx _ _ hb,hle,h1,λj hj=>let⟨v,a,r⟩:=h2 j hj;⟨v,a,CV.dH hx _ _ r⟩⟩
 .have yi:∀b,z b≠none->∃p,π b=some p:=λb hz=>by
   cases hh:z b with
   |none=>exact absurd hh hz
   |some n=>obtain⟨B,s,e,hb,_⟩:=h.hp b n hh;exact⟨_,hb⟩
  obtain⟨p,hp⟩:=yi b hz;obtain⟨p',vf⟩:=yi b' uJ;have e1:=hx _ _ hp;rw[hb] at e1;have e2:=hx _ _ vf;rw[fB] at e2;exact h.dj b b' B s q e s' q' e' mX hz uJ (hp.trans e1.symm) (vf.trans e2.symm)
theorem sV.kill {π:Pi}{c:Nat->Nat->CV}{z:Nat->Option Nat}{w:World}(h:sV π c z w)(b:Nat):
  sV π (λb' j=>if b'=b then .f .u else c b' j) (λb'=>if b'=b then none else z b') w:=by
 refine⟨h.am,λb' B s q e hz hb B7=> ?_,λb' n hz=> ?_,λb1 b2 B s q e s' q' e' mX hz uJ=> ?_⟩
 .by_cases e:b'=b
  .simp[e] at hz
  .simp only[e,gq] at hz;exact h.lb b' B s q _ hz hb B7
 .by_cases e:b'=b
  .simp[e] at hz
  .simp only[e,gq] at hz ⊢;exact h.hp b' n hz
 .by_cases e1:b1=b
  .simp[e1] at hz
  by_cases e2:b2=b
  .simp[e2] at uJ
  simp only[e1,e2,gq] at hz uJ;exact h.dj b1 b2 B s q e s' q' e' mX hz uJ
theorem sV.new {π:Pi}{c:Nat->Nat->CV}{z:Nat->Option Nat}{w:World}(h:sV π c z w){b B s e:Nat}{k:aj}(hb:π b=some (B,s,k.size,e))(hle:s+k.size<=e)
  (h1:∀i,s<=i->i<e->(cl w B i).isSome=true/\fz w B i=false)(h2:∀j,j<k.size->∃v,cl w B (s+j)=some v/\(k.get j).rel π v)
  (hd:∀b' s' q' e',b'≠b->z b'≠none->π b'=some (B,s',q',e')->∀i,s<=i->i<e->s'<=i->i<e'->False)(hlb:s<e->aA.h0<=B):
  sV π (λb' j=>if b'=b then(if j<k.size then k.get j else .f .u) else c b' j) (λb'=>if b'=b then some k.size else z b') w:=by
 refine⟨h.am,λb' B' s' q' e' hz fB B7=> ?_,λb' n hz=> ?_,λb1 b2 B' s1 q1 e1 s2 q2 e2 mX hz uJ hb1 FI i i1 i2 i3 i4=> ?_⟩
 .by_cases x:b'=b
  .subst x;rw[hb] at fB;cases fB;exact hlb B7
  .simp only[x,gq] at hz;exact h.lb b' B' s' q' e' hz fB B7
 .by_cases e':b'=b
  .subst e';simp only[lK,iv] at hz;subst hz;refine⟨B,s,e,hb,hle,h1,λj hj=> ?_⟩;simp only[lK,hj];exact h2 j hj
  .simp only[e',gq] at hz ⊢;exact h.hp b' n hz
 .by_cases x1:b1=b
  .subst x1;have x2:b2≠b1:=λx=>mX x.symm
   rw[hb] at hb1;cases hb1;simp only[x2,gq] at uJ;exact hd b2 s2 q2 e2 x2 uJ FI i i1 i2 i3 i4
  .by_cases x2:b2=b
   .subst x2;rw[hb] at FI;cases FI;simp only[x1,gq] at hz;exact hd b1 s1 q1 e1 x1 hz hb1 i i3 i4 i1 i2
   .simp only[x1,x2,gq] at hz uJ;exact h.dj b1 b2 B' s1 q1 e1 s2 q2 e2 mX hz uJ hb1 FI i i1 i2 i3 i4
omit [aA] in
theorem eR {w:World}{B o:Nat}{vs:List Value}{B' i:Nat}(h:B'=B->i<o∨o+vs.length<=i):cl (w.setCells B o vs) B' i=cl w B' i:=
 World.cell?_setCells_out B vs o w ⟨B',i,none⟩ λe _=>h e
omit [aA] in
theorem oe {w:World}{B o:Nat}{vs:List Value}(h:∀j,j<vs.length->(cl w B (o+j)).isSome=true){j:Nat}(hj:j<vs.length):cl (w.setCells B o vs) B (o+j)=some vs[j]:=
 World.cell?_setCells_in B vs o w h j hj
omit [aA] in
theorem pU {w:World}{B o:Nat}{vs:List Value}{B' i:Nat}:fz (w.setCells B o vs) B' i=fz w B' i:=World.frozen?_setCells B vs o w _
omit [aA] in
theorem ak6 {B:Nat}:∀{vs:List Value} {o:Nat} {w:World},(w.setCells B o vs).heap.size=w.heap.size
 | [],_,_=>rfl
 |v::vs,o,w=>by rw[World.setCells,ak6];simp[World.setCell]
omit [aA] in
theorem isSome_setCells {w:World}{B o:Nat}{vs:List Value}(h:∀j,j<vs.length->(cl w B (o+j)).isSome=true){B' i:Nat}(hi:(cl w B' i).isSome=true):(cl (w.setCells B o vs) B' i).isSome=true:=by
 by_cases hc:B'=B/\o<=i/\i<o+vs.length
 .obtain⟨rfl,h1,h2⟩:=hc;have:=oe h (j:=i-o) (by omega);rw[show o+(i-o)=i by omega] at this;simp[this]
 .rw[eR];exact hi;intro e;omega
theorem jr {π:Pi}{k:aj}{xs:List Value}(h:bq (CV.rel π) k.list xs):xs.length=aj.size k/\∀j,j<aj.size k->∃x,xs[j]? =some x/\(aj.get k j).rel π x:=by
 refine⟨by rw[<-h.length,aj.auJ],λj hj=> ?_⟩;exact h.get (by rw[aj.af8,if_pos hj])
theorem yH {π:Pi}{k:aj}{xs:List Value}(hl:xs.length=aj.size k)(h:∀j,j<aj.size k->∃x,xs[j]? =some x/\(aj.get k j).rel π x):bq (CV.rel π) k.list xs:=by
 refine bq.agc (by rw[aj.auJ,hl]) λi a b ha hb=> ?_;rw[aj.af8] at ha;split at ha
 .rename_i hi
  cases ha;obtain⟨x,hx,hr⟩:=h i hi;rw[hb] at hx;cases hx;exact hr
 .cases ha
theorem Bn.setCells {w:World}(h:Bn w){B o:Nat}{xs:List Value}(hB:0<xs.length->aA.h0<=B):Bn (w.setCells B o xs):=by
 refine⟨by rw[ak6];exact h.sz,λB' i hB'=>by rw[pU];exact h.fr B' i hB',λB' i v hv=> ?_⟩;obtain⟨h1,h2⟩:=h.st B' i v hv;refine⟨h1,?_⟩;rw[eR]
 .exact h2
 .intro e;rcases SQ xs.length with h0|h0
  .omega
  .have:=hB h0;omega
theorem sV.set {π:Pi}{c:Nat->Nat->CV}{z:Nat->Option Nat}{w:World}(h:sV π c z w){b n B s e lo:Nat}{vs:aj}{xs:List Value}(hz:z b=some n)(hb:π b=some (B,s,n,e))(hn:lo+aj.size vs<=n)
  (hx:bq (CV.rel π) vs.list xs):
  sV π (λb' j=>if b'=b/\lo<=j/\j<lo+aj.size vs then aj.get vs (j-lo) else c b' j) z (w.setCells B (s+lo) xs):=by
 obtain⟨B',s',e',fB,hle,h1,h2⟩:=h.hp b n hz;rw[hb] at fB;cases fB;obtain⟨hlen,ak5⟩:=jr hx;have hin:∀j,j<xs.length->(cl w B (s+lo+j)).isSome=true:=λj hj=>(h1 _ (by omega) (by omega)).1
 refine⟨h.am.setCells λhl=>h.lb b B s n e (by rw[hz];simp) hb (by omega),h.lb,λb' n' uJ=> ?_,h.dj⟩;obtain⟨B2,s2,e2,FI,adV,k1,k2⟩:=h.hp b' n' uJ;refine⟨B2,s2,e2,FI,adV,λi hi he=>⟨isSome_setCells hin (k1 i hi he).1,by rw[pU];exact(k1 i hi he).2⟩,λj hj=> ?_⟩;by_cases eb:b'=b
 .subst eb;rw[hb] at FI;cases FI;by_cases hc:lo<=j/\j<lo+aj.size vs
  .have hj':j-lo<xs.length:=by omega
   have:=oe hin hj';rw[show s+lo+(j-lo)=s+j by omega] at this;refine⟨_,this,?_⟩;rw[if_pos ⟨rfl,hc⟩];obtain⟨x,hx1,hx2⟩:=ak5 (j-lo) (by omega);rw[kT hj'] at hx1;cases hx1;exact hx2
  .rw[if_neg (by simp only[A6];exact hc),eR (λ_=>by omega)];exact k2 j hj
 .rw[if_neg (by simp[eb]),eR]
  .exact k2 j hj
  .intro e;subst e;by_cases hc:s+lo<=s2+j/\s2+j<s+lo+xs.length
   .exact(h.dj b' b B2 s2 _ e2 s _ e eb (by simp[uJ]) (by simp[hz]) FI hb (s2+j) (by omega) (by omega) (by omega) (by omega)).elim
   .omega
structure Cx where
 w0:World
 k:Nat
 p0:Pi
 N:Nat
def DH (p0:Pi)(k:Nat)(D:Nat->Prop)(B i:Nat):Prop:=∃b s q e,b<k/\D b/\p0 b=some (B,s,q,e)/\s<=i/\i<e
structure Rel (X:Cx)(D:Nat->Prop)(π:Pi)(g:Gt)(a:Act)(w:World):Prop where
 tm:∀i,(g.t i).rel π (a.tmps.getD i undef)
 nt:a.tmps.size=X.N
 df:a.defers=[]
 hp:sV π g.c g.z w
 yi:∀b,b<X.k->π b=X.p0 b
 ft:∀b B s q e,X.k<=b->g.z b≠none->π b=some (B,s,q,e)->B<X.w0.heap.size->∀i,s<=i->i<e->DH X.p0 X.k D B i
 fr:cy X.w0 (DH X.p0 X.k D) w
theorem Rel.dst {X:Cx}{D:Nat->Prop}{π:Pi}{g:Gt}{a:Act}{w:World}(R:Rel X D π g a w){dst:Option Tmp}(hd:∀d,dst=some d->d<X.N){v:AV}{x:Value}(hv:v.rel π x):
  Rel X D π (cI (dW dst v) g) (a.put dst x) w:=by
 cases dst with
 |none=>exact R
 |some d=>
  have od:d<a.tmps.size:=by rw[R.nt];exact hd d rfl
  refine⟨λi=> ?_,by simpa[Act.put] using R.nt,R.df,R.hp,R.yi,R.ft,R.fr⟩;show(if i=d then v else g.t i).rel π ((a.tmps.setIfInBounds d x).getD i undef);by_cases e:i=d
  .subst e;simp[od,hv]
  .rw[if_neg e];have:=R.tm i;simpa[aTj (Ne.symm e)] using this
theorem Rel.LS {X:Cx}{D:Nat->Prop}{π π':Pi}{g:Gt}{a:Act}{w:World}(R:Rel X D π g a w)(hx:Ext π π')(ho:∀b,b<X.k->π' b=π b):Rel X D π' g a w:=by
 refine⟨λi=>AV.dH hx _ _ (R.tm i),R.nt,R.df,R.hp.LS hx,λb hb=>(ho b hb).trans (R.yi b hb),λb B s q e hk hz hb=> ?_,R.fr⟩
 have:∃p,π b=some p:=by
  cases hh:g.z b with
  |none=>exact absurd hh hz
  |some n=>obtain⟨B,s,e,hb,_⟩:=R.hp.hp b n hh;exact⟨_,hb⟩
 obtain⟨p,hp⟩:=this;have:=hx _ _ hp;rw[hb] at this;cases this;exact R.ft b B s q e hk hz hp
theorem Rel.aKS {X:Cx}{D D':Nat->Prop}{π:Pi}{g:Gt}{a:Act}{w:World}(R:Rel X D π g a w)(h:∀b,D b->D' b):Rel X D' π g a w:=
 ⟨R.tm,R.nt,R.df,R.hp,R.yi,λb B s q e hk hz hb hB i h1 h2=>let⟨b0,s0,q0,e0,x1,x2,x3⟩:=R.ft b B s q e hk hz hb hB i h1 h2;⟨b0,s0,q0,e0,x1,h _ x2,x3⟩,
  R.fr.mono λB i _ ⟨b0,s0,q0,e0,x1,x2,x3⟩=>⟨b0,s0,q0,e0,x1,h _ x2,x3⟩⟩
theorem Rel.drew {X:Cx}{D:Nat->Prop}{π:Pi}{g:Gt}{a:Act}{w:World}(R:Rel X D π g a w):Rel X D π g a {w with drawn:=w.drawn+1}:=
 ⟨R.tm,R.nt,R.df,R.hp.aTF (R.hp.am.same rfl) λ_ _ _ _ _ _ _ _ _ _=>⟨rfl,rfl⟩,R.yi,R.ft,R.fr.drew⟩
theorem Rel.kill {X:Cx}{D:Nat->Prop}{π:Pi}{g:Gt}{a:Act}{w:World}(R:Rel X D π g a w)(b:Nat):Rel X D π ((Up.kill b).gS g) a w:=by
 refine⟨R.tm,R.nt,R.df,R.hp.kill b,R.yi,λb' B s q e hk hz=> ?_,R.fr⟩;by_cases eb:b'=b
 .exact absurd (by simp[Up.gS,eb]) hz
 .exact R.ft b' B s q e hk (by simpa[Up.gS,eb] using hz)
def A5 (π:Pi)(b:Nat)(p:Nat×Nat×Nat×Nat):Pi:=λb'=>if b'=b then some p else π b'
omit [aA] in
theorem qw (π:Pi)(b:Nat)(p:Nat×Nat×Nat×Nat):A5 π b p b=some p:=by simp[A5]
omit [aA] in
theorem Bo {π:Pi}{b:Nat}(h:π b=none)(p:Nat×Nat×Nat×Nat):Ext π (A5 π b p):=by
 intro b' q hq;simp only[A5];by_cases e:b'=b
 .subst e;rw[h] at hq;cases hq
 .simp[e,hq]
theorem Rel.new {X:Cx}{D:Nat->Prop}{π:Pi}{g:Gt}{a:Act}{w:World}(R:Rel X D π g a w){b B s e:Nat}{k:aj}(hb:π b=some (B,s,k.size,e))(hk:X.k<=b)(hle:s+k.size<=e)
  (h1:∀i,s<=i->i<e->(cl w B i).isSome=true/\fz w B i=false)(h2:∀j,j<k.size->∃v,cl w B (s+j)=some v/\(k.get j).rel π v)
  (hd:∀b' s' q' e',b'≠b->g.z b'≠none->π b'=some (B,s',q',e')->∀i,s<=i->i<e->s'<=i->i<e'->False)
  (hf:B<X.w0.heap.size->∀i,s<=i->i<e->DH X.p0 X.k D B i)(hlb:s<e->aA.h0<=B:=by intro h;omega):Rel X D π ((Up.new b k).gS g) a w:=by
 refine⟨R.tm,R.nt,R.df,R.hp.new hb hle h1 h2 hd hlb,R.yi,λb' B' s' q' e' Lt hz fB hB i i1 i2=> ?_,R.fr⟩;by_cases eb:b'=b
 .subst eb;rw[hb] at fB;cases fB;exact hf hB i i1 i2
 .exact R.ft b' B' s' q' e' Lt (by simpa[Up.gS,eb] using hz) fB hB i i1 i2
theorem Rel.alloc {X:Cx}{D:Nat->Prop}{π:Pi}{g:Gt}{a:Act}{w:World}(R:Rel X D π g a w){b e:Nat}{k:aj}{cs:Array Value}{t:TypeId}(hb:π b=none)(hk:X.k<=b)(hle:k.size<=e)(he:e<=cs.size)
  (h2:∀j,j<k.size->∃v,cs[j]? =some v/\(k.get j).rel π v):
  Rel X D (A5 π b (w.heap.size,0,k.size,e)) ((Up.new b k).gS g) a (w.alloc (.cells cs t)):=by
 have hx:=Bo hb (w.heap.size,0,k.size,e)
 have live:∀b' B' s' q' e',g.z b'≠none->π b'=some (B',s',q',e')->∀i,s'<=i->i<e'->B'<w.heap.size:=λb' B' s' q' e' hz fB i i1 i2=>by
  cases hh:g.z b' with
  |none=>exact absurd hh hz
  |some n=>
   obtain⟨_,_,_,FI,_,k1,_⟩:=R.hp.hp b' n hh;rw[fB] at FI;cases FI;exact abT (k1 i i1 i2).1
 have R1:Rel X D π g a (w.alloc (.cells cs t)):=
  ⟨R.tm,R.nt,R.df,R.hp.aTF (R.hp.am.alloc cs t) λb' B' s' q' e' hz fB i i1 i2=>⟨aIQ (live b' B' s' q' e' hz fB i i1 i2),aUr (live b' B' s' q' e' hz fB i i1 i2)⟩,R.yi,R.ft,R.fr.alloc _ _⟩
 have R2:=R1.LS hx (λb' fB=>by simp only[A5];rw[if_neg (by omega)]);have EB:∀i,cl (w.alloc (.cells cs t)) w.heap.size i=cs[i]? :=λi=>World.cell?_alloc_new w cs t i
 refine R2.new (s:=0) (qw _ _ _) hk (by omega) (λi _ i2=>⟨?_,World.frozen?_alloc_new w cs t i⟩) (λj hj=> ?_) (λb' s' q' e' mX hz fB i _ _ i3 i4=> ?_) (λhB=> ?_) (λ_=>R.hp.am.sz)
 .rw[EB];simp;omega
 .obtain⟨v,hv,hr⟩:=h2 j hj;exact⟨v,by rw[gP,EB];exact hv,CV.dH hx _ _ hr⟩
 .simp only[A5,mX,gq] at fB;exact absurd (live b' _ s' q' e' hz fB i i3 i4) (Nat.lt_irrefl _)
 .have:=R.fr.size;omega
theorem Rel.set {X:Cx}{D:Nat->Prop}{π:Pi}{g:Gt}{a:Act}{w:World}(R:Rel X D π g a w){b n B s e:Nat}{o:cG}{vs:aj}{xs:List Value}(hz:g.z b=some n)(hb:π b=some (B,s,n,e))(hn:o.val+aj.size vs<=n)
  (hx:bq (CV.rel π) vs.list xs)(hD:b<X.k->D b):Rel X D π ((Up.c b o vs).gS g) a (w.setCells B (s+o.val) xs):=by
 refine⟨R.tm,R.nt,R.df,R.hp.set hz hb hn hx,R.yi,R.ft,R.fr.setCells ?_⟩;obtain⟨B',s',e',fB,hle,h1,h2⟩:=R.hp.hp b n hz;rw[hb] at fB;cases fB;have hlen:=(jr hx).1;rcases mO B X.w0.heap.size with hB|hB
 .right
  intro j hj;rcases mO b X.k with hk|hk
  .exact⟨b,s,n,e,hk,hD hk,(R.yi b hk).symm.trans hb,by omega,by omega⟩
  .exact R.ft b B s n e hk (by simp[hz]) hb hB _ (by omega) (by omega)
 .exact .inl hB
end Go.Ab
namespace Go.Ab
variable [aA]
omit [aA] in
theorem nF (B o j:Nat):(⟨B,o,none⟩:Addr).add j=⟨B,o+j,none⟩:=by
 unfold Addr.add;split<;>simp_all
theorem aNv {v:Value}{c:CV}(h:ofC v=some c)(π:Pi):c.rel π v:=by
 unfold ofC at h;split at h<;>first|(cases h;rfl)|cases h
omit [aA] in
theorem aET (v:CV)(r:aj):aj.list (.c v::r)=v::r.list:=by
 apply List.ext_getElem?
 intro i;rw[aj.af8];cases i with
 |zero=>rw[if_pos (by rw[aj.size_cons,Sg.kH];omega)];rfl
 |succ i=>
  rw[List.getElem?_cons_succ,aj.af8];by_cases h:i<aj.size r
  .rw[if_pos h,if_pos (by rw[aj.size_cons,Sg.kH];omega),<-aj.kK (l:=r) (j':=i) (by omega) (by omega)]
  .rw[if_neg h,if_neg (by rw[aj.size_cons,Sg.kH];omega)]
theorem aIR:∀{vs:List Value} {cs:aj},aII vs=some cs->∀π,bq (CV.rel π) cs.list vs
 | [],cs,h,π=>by simp[aII] at h;subst h;trivial
 |v::vs,cs,h,π=>by
  simp only[aII] at h;split at h
  .rename_i c SW h1 h2
   cases h;rw[aET];exact⟨aNv h1 π,aIR h2 π⟩
  .cases h
theorem aEU {v:Value}{r:RV}(h:ofR v=some r)(π:Pi):r.rel π v:=by
 have key:(ofC v).map RV.c=some r->r.rel π v:=λh=>by
  cases hc:ofC v with
  |none=>rw[hc] at h;cases h
  |some l=>rw[hc] at h;cases h;exact aNv hc π
 cases v with
 |agg cs=>
  simp only[ofR] at h;cases hc:aII cs.toList with
  |none=>rw[hc] at h;cases h
  |some l=>rw[hc] at h;cases h;exact⟨_,rfl,aIR hc π⟩
 |_=>simp only[ofR] at h;exact key h
omit [aA] in
theorem aH.eE {α:Type}{x:Option α}{g:Gt}{a:α}{l:List Fp}(h:aH (eE x) g a l):x=some a:=by
 cases x with
 |none=>cases h
 |some b=>cases h;rfl
omit [aA] in
theorem aH.cM {x:Bool}{g:Gt}{u:Unit}{l:List Fp}(h:aH (cM x) g u l):x=true:=by
 cases h with|test h=>cases x with
  |true=>rfl
  |false=>cases h
omit [aA] in
theorem aH.asR {v:AV}{g:Gt}{a:RV}{l:List Fp}(h:aH (asR v) g a l):v=.r a:=by
 unfold Ab.asR at h;split at h
 .cases h;rfl
 .cases h
omit [aA] in
theorem aH.asC {v:AV}{g:Gt}{a:CV}{l:List Fp}(h:aH (asC v) g a l):v=.r (.c a):=by
 unfold Ab.asC at h;split at h
 .cases h;rfl
 .cases h
omit [aA] in
theorem aH.asI {v:AV}{g:Gt}{a:IntKind×Int}{l:List Fp}(h:aH (asI v) g a l):v=.r (.c (.f (.i a.1 a.2))):=by
 unfold Ab.asI at h;split at h
 .cases h;rfl
 .cases h
omit [aA] in
theorem aH.asB {v:AV}{g:Gt}{a:Bool}{l:List Fp}(h:aH (asB v) g a l):v=.r (.c (.f (.b a))):=by
 unfold Ab.asB at h;split at h
 .cases h;rfl
 .cases h
omit [aA] in
theorem aH.asP {v:AV}{g:Gt}{a:Nat×cG×Nat}{l:List Fp}(h:aH (asP v) g a l):v=.r (.c (.ptr a.1 a.2.1 a.2.2)):=by
 unfold Ab.asP at h;split at h
 .cases h;rfl
 .cases h
section
variable {X:Cx} {D:Nat->Prop} {π:Pi} {g:Gt} {a:Act} {w:World}
theorem aH.EA {x:Operand}{v:AV}{l:List Fp}(h:aH (EA x) g v l)(R:Rel X D π g a w):v.rel π (a.eval x):=by
 cases x with
 |tmp t=>cases h with|tm h=>cases h;exact R.tm t
 |const c=>
  obtain⟨r,⟨_,h1⟩,_,h2⟩:=aH.bind' h;cases h2;exact aEU h1.eE π
 |func f=>cases h;exact⟨#[],rfl,trivial⟩
 |global g=>cases h
theorem aH.wT {x:Operand}{v:RV}{l:List Fp}(h:aH (wT x) g v l)(R:Rel X D π g a w):v.rel π (a.eval x):=by
 obtain⟨r,⟨_,h1⟩,_,h2⟩:=aH.bind' h;have:=h1.EA R;rw[h2.asR] at this;exact this
theorem aH.aNb {x:Operand}{v:RV}{l:List Fp}(h:aH (aNb x) g v l)(R:Rel X D π g a w):v.rel π (a.eval x):=by
 obtain⟨r,⟨_,h1⟩,_,h2⟩:=aH.bind' h;have:=h1.EA R;unfold Ab.asS at h2;split at h2
 .cases h2;exact this
 .cases h2;obtain⟨arr,hx,ha⟩:=this;obtain⟨arr⟩:=arr;match arr,ha with
  | [y],⟨hy,_⟩=>
   obtain⟨B,s,q,e,hb,rfl,hle⟩:=hy;exact⟨B,s,q,e,hb,hx,hle⟩
 .cases h2
theorem aH.Hy {x:Operand}{v:CV}{l:List Fp}(h:aH (Hy x) g v l)(R:Rel X D π g a w):v.rel π (a.eval x):=by
 obtain⟨r,⟨_,h1⟩,_,h2⟩:=aH.bind' h;have:=h1.EA R;rw[h2.asC] at this;exact this
theorem aH.KX {x:Operand}{v:IntKind×Int}{l:List Fp}(h:aH (KX x) g v l)(R:Rel X D π g a w):a.eval x=.int v.1 v.2:=by
 obtain⟨r,⟨_,h1⟩,_,h2⟩:=aH.bind' h;have:=h1.EA R;rw[h2.asI] at this;exact this
theorem aH.aIJ {x:Operand}{v:Bool}{l:List Fp}(h:aH (aIJ x) g v l)(R:Rel X D π g a w):a.eval x=.bool v:=by
 obtain⟨r,⟨_,h1⟩,_,h2⟩:=aH.bind' h;have:=h1.EA R;rw[h2.asB] at this;exact this
theorem aH.aNc {x:Operand}{v:Nat×cG×Nat}{l:List Fp}(h:aH (aNc x) g v l)(R:Rel X D π g a w):∃B s q e,π v.1=some (B,s,q,e)/\a.eval x=.pointer (some ⟨B,s+v.2.1.val,none⟩)/\v.2.1.val+v.2.2<=q:=by
 obtain⟨r,⟨_,h1⟩,_,h2⟩:=aH.bind' h;have:=h1.EA R;rw[h2.asP] at this;exact this
omit [aA] in
theorem aH.uk {α β:Type}{f:α->Rd β}{ρ:β->α->Prop}(hf:∀x v l,aH (f x) g v l->ρ v x):∀{xs:List α} {vs:List β} {l:List Fp},aH (uk f xs) g vs l->bq ρ vs xs
 | [],vs,l,h=>by cases h;trivial
 |x::xs,vs,l,h=>by
  obtain⟨v,⟨_,h1⟩,_,h2⟩:=aH.bind' h;obtain⟨kt,⟨_,h3⟩,_,h4⟩:=aH.bind' h2;cases h4;exact⟨hf x v _ h1,aH.uk hf h3⟩
omit [aA] in
theorem Kg {P:Program}{t:TypeId}{v:Bool}(h:adS P t=some v)(w:World):(isAgg t).run P w=.ok v w:=by
 unfold adS at h;unfold isAgg;cases hu:P.underlying t with
 |none=>rw[hu] at h;cases h
 |some d=>rw[hu] at h;cases d<;>simp[run_underlying hu]<;>simp_all
omit [aA] in
theorem aqa {P:Program}{t:TypeId}{n:Nat}(h:iR P t=some n):∃i,P.info? t=some i/\i.size=n:=by
 unfold iR at h;cases hi:P.info? t with
 |none=>rw[hi] at h;cases h
 |some i=>rw[hi] at h;exact⟨i,rfl,by simpa using h⟩
omit [aA] in
theorem run_typeInfo {P:Program}{t:TypeId}{i:TypeInfo}(h:P.info? t=some i)(w:World):(typeInfo t).run P w=.ok i w:=by simp[typeInfo,h]
omit [aA] in
theorem run_sizeOf {P:Program}{t:TypeId}{n:Nat}(h:iR P t=some n)(w:World):(sizeOf t).run P w=.ok n w:=by
 obtain⟨i,hi,rfl⟩:=aqa h;simp[sizeOf,run_typeInfo hi]
theorem adW {P:Program}{t:TypeId}{r:RV}(h:Bk P t=some r)(w:World):∃x,(zeroValue t).run P w=.ok x w/\(∃it:TypeInfo,P.info? t=some it/\it.zero=some x)/\∀π,r.rel π x:=by
 unfold Bk at h;cases hi:P.info? t with
 |none=>rw[hi] at h;cases h
 |some i=>
  rw[hi] at h;simp only[bC] at h;cases hz:i.zero with
  |none=>rw[hz] at h;cases h
  |some x=>
   rw[hz] at h;simp only[bC] at h;refine⟨x,by simp[zeroValue,run_typeInfo hi,hz],⟨i,rfl,hz⟩,λπ=> ?_⟩;split at h
   .rename_i b hb
    simp only[m9] at h;obtain⟨b',h1,rfl⟩:=h;obtain⟨e1,e2⟩:=ak3 h1;obtain⟨arr,rfl,hr⟩:=aEU hb π;obtain⟨l1,l2⟩:=jr hr;exact⟨arr,rfl,yH (by rw[l1,e1]) λj hj=>by rw[e2];exact l2 j (by omega)⟩
   .exact aEU h π
omit [aA] in
theorem aKT {P:Program}(ob:Obj)(w:World):(newObj ob).run P w=.ok w.heap.size (w.alloc ob):=rfl
omit [aA] in
theorem LU {P:Program}(t:TypeId)(cs:Array Value)(w:World):(newRow t cs).run P w=.ok ⟨w.heap.size,0,none⟩ (w.alloc (.cells cs t)):=by
 simp only[newRow,Sem.run_bind,aKT,Result.andThen_ok,Sem.run_pure]
theorem Rel.view (R:Rel X D π g a w){b q n:Nat}{o:cG}{v:aj}(hz:g.z b=some q)(hs:aj.size v=n)(hv:o.val+n<=q->∀j,j<n->aj.get v j=g.c b (o.val+j)){B s q' e:Nat}(hb:π b=some (B,s,q',e))(hn:o.val+n<=q'):
  q'=q/\∃xs:List Value,xs.length=n/\bq (CV.rel π) v.list xs/\∀j x,xs[j]? =some x->cl w B (s+o.val+j)=some x:=by
 obtain⟨B',s',e',fB,hle,_,h2⟩:=R.hp.hp b q hz;rw[hb] at fB;cases fB;have hv:=hv hn
 have cell:∀j,j<n->∃x,cl w B (s+o.val+j)=some x/\(aj.get v j).rel π x:=λj hj=>by
  obtain⟨x,hx,hr⟩:=h2 (o.val+j) (by omega);rw[<-hv j hj] at hr;exact⟨x,by rw[show s+o.val+j=s+(o.val+j) by omega];exact hx,hr⟩
 refine⟨rfl,(List.range n).map λj=>(cl w B (s+o.val+j)).getD undef,by simp,yH (by simp[hs]) λj hj=> ?_,λj x hx=> ?_⟩
 .obtain⟨x,hx,hr⟩:=cell j (by omega);refine⟨x,?_,hr⟩;rw[CA,List.getElem?_range (by omega)];simp[hx]
 .have hjn:j<n:=by
   have:=(lP.1 hx).1;simpa using this
  obtain⟨u,hu,_⟩:=cell j hjn;simp[hjn,hu] at hx
  rw[hu,hx]
omit [aA] in
theorem ZU {P:Program}{w:World}{B o:Nat}{xs:List Value}(h:∀j v,xs[j]? =some v->cl w B (o+j)=some v):(loadCells ⟨B,o,none⟩ xs.length).run P w=.ok xs.toArray w:=
 run_loadCells_list w _ xs λj v hj=>by rw[nF];exact h j v hj
omit [aA] in
theorem aH.asO {b:aj}{v:RV}{l:List Fp}(h:aH (asO b) g v l):∃c,b=[.c c]/\v=.c c:=by
 unfold Ab.asO at h;split at h
 .cases h;exact⟨_,rfl,rfl⟩
 .cases h
theorem aH.ZO {P:Program}(R:Rel X D π g a w){t:TypeId}{b m:Nat}{o:cG}{v:RV}{l:List Fp}(h:aH (ZO P t b o m) g v l){B s q' e:Nat}(hb:π b=some (B,s,q',e))(hm:o.val+m<=q'):
  ∃x,(loadVar t ⟨B,s+o.val,none⟩).run P w=.ok x w/\v.rel π x:=by
 obtain⟨ag,⟨_,h1⟩,_,h⟩:=aH.bind' h;obtain⟨n,⟨_,h2⟩,_,h⟩:=aH.bind' h;have h1:=h1.eE;have h2:=h2.eE;cases ag with
 |true=>
  obtain⟨_,⟨_,h3⟩,_,h⟩:=aH.bind' h;have h3:=fD.1 h3.cM;cases h with|vw q u hz hs hv h=>
  cases h;simp only[Sz.val,Vc] at hs hv;obtain⟨_,xs,hl,hx,hc⟩:=R.view hz hs hv hb (by omega);refine⟨.agg xs.toArray,?_,⟨_,rfl,hx⟩⟩;have:=ZU (P:=P) hc;rw[hl] at this;simp[loadVar,Kg h1,run_sizeOf h2,this]
 |false=>
  obtain⟨_,⟨_,h3⟩,_,h⟩:=aH.bind' h;have h3:=fD.1 h3.cM;cases h with|vw q u hz hs hv h=>
  simp only[Sz.val,Vc] at hs hv;obtain⟨_,xs,hl,hx,hc⟩:=R.view hz hs hv hb (by omega);obtain⟨c,rfl,rfl⟩:=h.asO;rw[aUp] at hx
  obtain⟨x,rfl⟩:∃x,xs=[x]:=by
   match xs,hl with
   | [x],_=>exact⟨x,rfl⟩
  have hcx:=hc 0 x rfl;simp only[ky] at hcx;refine⟨x,?_,hx.1⟩;simp only[cl] at hcx;simp[loadVar,Kg h1,hcx]
omit [aA] in
theorem aH.aEw {b v:aj}{o:cG}{cH:Sz}{z:Nat}{l:List Fp}(h:aH (aEw b o cH z) g v l):b.sub o cH z=some (true,v):=by
 unfold Ab.aEw at h;split at h
 .rename_i p hp
  cases h with|test h=>
  obtain⟨gg,u⟩:=p;cases gg with
  |true=>cases h;exact hp
  |false=>cases h
 .cases h
theorem aH.aKJ {P:Program}{t:TypeId}{cs:aj}{o:cG}{v:RV}{l:List Fp}(h:aH (aKJ P t cs o) g v l){n:Nat}(hn:iR P t=some n)(hn1:1<=n)(hle:o.val+n<=aj.size cs){xs:Array Value}(hx:bq (CV.rel π) cs.list xs.toList)(w:World):
  ∃x,(part t xs o.val).run P w=.ok x w/\v.rel π x:=by
 obtain⟨ag,⟨_,h1⟩,_,h⟩:=aH.bind' h;obtain⟨n',⟨_,h2⟩,_,h⟩:=aH.bind' h;have h1:=h1.eE;have h2:=h2.eE;rw[hn] at h2;cases h2;obtain⟨l1,l2⟩:=jr hx;cases ag with
 |true=>
  obtain⟨u,⟨_,h3⟩,_,h⟩:=aH.bind' h;cases h;obtain⟨e1,e2⟩:=aj.axR h3.aEw;simp only[Sz.val,Vc] at e1 e2;have e2:=e2 hle;refine⟨.agg (xs.extract o.val (o.val+n)),by simp[part,Kg h1,run_sizeOf hn],⟨_,rfl,?_⟩⟩
  have:(xs.extract o.val (o.val+n)).toList=(xs.toList.drop o.val).take n:=by
   rw[Array.toList_extract];simp[List.extract]
  rw[this];refine yH (by rw[List.length_take,asJ,l1];omega) λj hj=> ?_;obtain⟨x,hx1,hx2⟩:=l2 (o.val+j) (by omega);refine⟨x,by rw[abL,if_pos (by omega),SO];exact hx1,?_⟩;rw[e2 j (by omega)];exact hx2
 |false=>
  obtain⟨u,⟨_,h3⟩,_,h⟩:=aH.bind' h;obtain⟨c,rfl,rfl⟩:=h.asO;obtain⟨_,e2⟩:=aj.axR h3.aEw;have e2:=e2 (by simp only[Sz.val];omega) 0 (by simp[Sz.val]);obtain⟨x,hx1,hx2⟩:=l2 o.val (by omega);refine⟨x,?_,?_⟩
  .have:xs[o.val]? =some x:=by simpa using hx1
   simp[part,Kg h1,this]
  .rw[ky] at e2;rw[<-e2] at hx2;exact hx2
theorem a4t {n:Nat}{q:Nat->Bool}{x:Value}(h:(CV.f (.q n q)).rel π x):(CV.fs n 1 [.b q]).rel π x:=by
 refine⟨rfl,?_⟩;rcases h with h| ⟨B,s,cap,h1,h2,h3⟩
 .exact .inl h
 .refine .inr ⟨B,s,cap,h1,h2,λj hj=>⟨.b (q j),.bool (q j),?_,h3 j (by omega),rfl⟩⟩;simp[iS,Nat.mod_one,cR.at]
omit [aA] in
theorem aH.a4u {P:Program}{t:TypeId}{c c':CV}{l:List Fp}(h:aH (aIK P t c) g c' l):c'=c∨∃n q,c=.f (.q n q)/\c'=.fs n 1 [.b q]:=by
 unfold Ab.aIK at h;generalize P.underlying t=u at h
 split at h
 .cases h with|@test x _ _ _ _ h=>
  cases hx:FV.isB _<;>rw[hx] at h<;>cases h
  rename_i x;cases x<;>first|exact .inl rfl|cases hx
 .cases h with|@test x _ _ _ _ h=>
  cases hx:FV.isI _ _<;>rw[hx] at h<;>cases h
  rename_i k x;cases x<;>first|(cases hx;done)|skip
  simp only[FV.isI,j7] at hx;subst hx;exact .inl rfl
 .cases h with|@test x _ _ _ _ h=>
  cases hx:FV.isS _<;>rw[hx] at h<;>cases h
  rename_i x;cases x<;>first|exact .inl rfl|cases hx
 .cases h;exact .inr ⟨_,_,rfl,rfl⟩
 .cases h;exact .inl rfl
theorem aH.aIK {P:Program}{t:TypeId}{c c':CV}{l:List Fp}(h:aH (aIK P t c) g c' l){x:Value}(hx:c.rel π x):c'.rel π x:=by
 rcases h.a4u with rfl| ⟨n,q,rfl,rfl⟩
 .exact hx
 .exact a4t hx
theorem aH.ap4 {P:Program}{t:TypeId}{c c':RV}{l:List Fp}(h:aH (ap4 P t c) g c' l){π:Pi}{x:Value}(hx:c.rel π x):c'.rel π x:=by
 cases c with
 |c c=>
  obtain⟨v,⟨_,h1⟩,_,h⟩:=aH.bind' h;cases h;exact h1.aIK hx
 |agg cs=>
  cases h;obtain⟨xs,rfl,hx⟩:=hx;obtain⟨l1,l2⟩:=jr hx;obtain⟨n1,n2⟩:=aRp P t cs;refine⟨xs,rfl,yH (by rw[l1,n1]) λj hj=> ?_⟩;rw[n1] at hj;rw[n2 j hj];exact l2 j hj
theorem aH.valueOf {P:Program}(R:Rel X D π g a w){t:TypeId}{b m:Nat}{o:cG}{v:RV}{l:List Fp}(h:aH (valueOf P t b o m) g v l){B s q' e:Nat}(hb:π b=some (B,s,q',e))(hm:o.val+m<=q'):
  ∃x,(loadVar t ⟨B,s+o.val,none⟩).run P w=.ok x w/\v.rel π x:=by
 obtain⟨u,⟨_,h1⟩,_,h⟩:=aH.bind' h;obtain⟨x,hx,hr⟩:=aH.ZO R h1 hb hm;exact⟨x,hx,h.ap4 hr⟩
theorem aH.partOf {P:Program}{t:TypeId}{cs:aj}{o:cG}{v:RV}{l:List Fp}(h:aH (partOf P t cs o) g v l){n:Nat}(hn:iR P t=some n)(hn1:1<=n)(hle:o.val+n<=aj.size cs){xs:Array Value}(hx:bq (CV.rel π) cs.list xs.toList)(w:World):
  ∃x,(part t xs o.val).run P w=.ok x w/\v.rel π x:=by
 obtain⟨u,⟨_,h1⟩,_,h⟩:=aH.bind' h;obtain⟨x,hx1,hr⟩:=aH.aKJ h1 hn hn1 hle hx w;exact⟨x,hx1,h.ap4 hr⟩
theorem aH.Oq {P:Program}{t:TypeId}{cs:aj}{c:Nat}{v:RV}{l:List Fp}(h:aH (Oq P t cs c) g v l){xs:Array Value}(hx:bq (CV.rel π) cs.list xs.toList)(w:World):
  ∃x,(part t xs c).run P w=.ok x w/\v.rel π x:=by
 obtain⟨n,⟨_,h1⟩,_,h⟩:=aH.bind' h;obtain⟨_,⟨_,h2⟩,_,h⟩:=aH.bind' h;have h2:=h2.cM;simp only[cL,fD] at h2;exact h.partOf h1.eE h2.1 h2.2 hx w
end
def cH (us:List Up):Nat:=(us.filter λ|.new _ _=>true|_=>false).length
def Up.perm (k:Nat)(D:Nat->Prop):Up->Prop
 |.c b _ _|.kill b=>b<k->D b
 |_=>True
def AU (P:Program)(o:Oper)(X:Cx)(D:Nat->Prop)(aL:Nat)(us:List Up)(g:Gt):Prop:=
 ∀π a w (next:Act->World->Prop) (Q:Exit->Act->World->Prop),Rel X D π g a w->X.k<=aL->(∀b,aL<=b->b<aL+cH us->π b=none)->(∀d,o.dst=some d->d<X.N)->(∀u∈us,u.perm X.k D)->
  (∀a' w' π',Ext π π'->(∀b,π' b≠none->π b≠none∨(aL<=b/\b<aL+cH us))->Rel X D π' (cI us g) a' w'->next a' w')->o.wp P a w next Q
section
variable {P:Program} {o:Oper} {X:Cx} {D:Nat->Prop} {aL:Nat} {us:List Up} {g:Gt}
omit [aA] in
theorem Qi {a:Act}{w w':World}{x:Value}{next:Act->World->Prop}{Q:Exit->Act->World->Prop}(h:(execOp a.eval o).run P w=.ok (.value x) w')(hn:next (a.put o.dst x) w'):o.wp P a w next Q:=by
 unfold Oper.wp;rw[h];exact hn
omit [aA] in
theorem a1F {a:Act}{w w':World}{next:Act->World->Prop}{Q:Exit->Act->World->Prop}(h:(execOp a.eval o).run P w=.ok .skip w')(hn:next (a.put o.dst undef) w'):o.wp P a w next Q:=by
 unfold Oper.wp;rw[h];exact hn
theorem iG {v:AV}(h:∀π a w,Rel X D π g a w->∃x,(execOp a.eval o).run P w=.ok (.value x) w/\v.rel π x):AU P o X D aL (dW o.dst v) g:=by
 intro π a w next Q R hk hf hd hD hn;obtain⟨x,h1,h2⟩:=h π a w R;exact Qi h1 (hn _ _ π (Ext.refl _) (λb h=>.inl h) (R.dst hd h2))
theorem asX (π:Pi):udf.rel π undef:=⟨#[],rfl,trivial⟩
theorem aEV {x:Operand}{fp:List Fp}(ho:o.op=.move x∨o.op=.assign x)(h:aH ((EA x).bind λv=>.ret (dW o.dst v)) g us fp):AU P o X D aL us g:=by
 obtain⟨v,⟨_,h1⟩,_,h2⟩:=aH.bind' h;cases h2;refine iG λπ a w R=>⟨a.eval x,?_,h1.EA R⟩
 rcases ho with ho|ho<;>simp[execOp,ho]
theorem aRu {c x y:Operand}{fp:List Fp}(ho:o.op=.pick c x y)(h:aH ((aIJ c).bind λz=>.test z λ|true=>(EA x).bind λv=>.ret (dW o.dst v)|false=>(EA y).bind λv=>.ret (dW o.dst v)) g us fp):AU P o X D aL us g:=by
 obtain⟨z,⟨_,h1⟩,_,h2⟩:=aH.bind' h;cases h2 with|test h2=>
 cases z with
 |true=>
  obtain⟨v,⟨_,h3⟩,_,h4⟩:=aH.bind' h2;cases h4;refine iG λπ a w R=>⟨a.eval x,?_,h3.EA R⟩
  simp[execOp,ho,h1.aIJ R,asBool]
 |false=>
  obtain⟨v,⟨_,h3⟩,_,h4⟩:=aH.bind' h2;cases h4;refine iG λπ a w R=>⟨a.eval y,?_,h3.EA R⟩
  simp[execOp,ho,h1.aIJ R,asBool]
theorem ZV:∀(ks:List (Option (Nat×List CK))) (b:aj) (aL:Nat),aj.size (SX ks b aL).1=aj.size b/\(∀e∈(SX ks b aL).2,aj.size e=0)/\
  ∀π:Pi,(∀i,i<(SX ks b aL).2.length->π (aL+i)=some (0,0,0,0))->∀j,j<aj.size b->∀v,(aj.get b j).rel π v->(aj.get (SX ks b aL).1 j).rel π v
 |_,[],_=>⟨rfl,λe h=>by simp[SX] at h,λ_ _ _ _ _ h=>h⟩
 |ks,.a n cols::r,b=>by
  obtain⟨h1,h2,h3⟩:=ZV (ks.drop (n.val*cols.length)) r b;refine⟨by rw[SX,aj.size_cons,aj.size_cons,h1],h2,λπ hp j hj v hv=> ?_⟩;rw[aj.size_cons] at hj;rw[SX];by_cases lQ:j<(Sg.a n cols).size
  .rw[aj.dN lQ] at hv ⊢;exact hv
  .rw[aj.lq (by omega)] at hv ⊢;exact h3 π hp _ (by omega) v hv
 |ks,.c v::r,b=>by
  unfold SX;split
  .rename_i z k ks
   obtain⟨h1,h2,h3⟩:=ZV ks r (b+1);refine⟨by rw[aj.size_cons,aj.size_cons,h1];rfl,λe he=> ?_,λπ hp j hj v hv=> ?_⟩
   .rcases abN.1 he with rfl|he
    .simp[aj.size,Sg.size,Sz.val]
    .exact h2 e he
   .rw[aj.size_cons,Sg.kH] at hj;cases j with
    |zero=>
     have hv:v=.slice none 0 0:=hv;subst hv;exact⟨0,0,0,0,by simpa using hp 0 (by simp),by simp[cG.val,Sz.val],λ_=>by simp[cG.val,Sz.val],.inl ⟨rfl,none,rfl⟩⟩
    |succ j=>
     rw[aj.lq (by rw[Sg.kH];omega)] at hv ⊢;exact h3 π (λi hi=>by have:=hp (i+1) (by simpa using hi);rwa [show b+1+i=b+(i+1) by omega]) _ (by rw[Sg.kH];omega) v hv
  .obtain⟨h1,h2,h3⟩:=ZV (ks.drop 1) r b;refine⟨by rw[aj.size_cons,aj.size_cons,h1],h2,λπ hp j hj v hv=> ?_⟩;rw[aj.size_cons,Sg.kH] at hj;cases j with
   |zero=>exact hv
   |succ j=>
    rw[aj.lq (by rw[Sg.kH];omega)] at hv ⊢;exact h3 π hp _ (by rw[Sg.kH];omega) v hv
theorem auM (P:Program)(t:TypeId)(b:aj)(aL:Nat):aj.size (iZ P t b aL).1=aj.size b/\(∀e∈(iZ P t b aL).2,aj.size e=0)/\
  ∀π:Pi,(∀i,i<(iZ P t b aL).2.length->π (aL+i)=some (0,0,0,0))->∀xs,bq (CV.rel π) b.list xs->bq (CV.rel π) (aj.list (iZ P t b aL).1) xs:=by
 unfold iZ;split
 .obtain⟨h1,h2,h3⟩:=ZV (aKM P 30 t) b aL;refine⟨h1,h2,λπ hp xs hx=> ?_⟩;obtain⟨l1,l2⟩:=jr hx;refine yH (by rw[h1,l1]) λj hj=> ?_;rw[h1] at hj;obtain⟨x,hx1,hx2⟩:=l2 j hj;exact⟨x,hx1,h3 π hp j hj x hx2⟩
 .exact⟨rfl,λe he=>by simp at he,λ_ _ _ h=>h⟩
omit [aA] in
theorem aIS (us vs:List Up):cH (us++vs)=cH us+cH vs:=by simp[cH]
omit [aA] in
theorem asY:∀(es:List aj) (aL:Nat),cH (CD es aL)=es.length
 | [],_=>rfl
 |e::es,aL=>by
  have:=asY es (aL+1);unfold cH at this ⊢;simp only[CD,List.filter_cons,lK,LF,this]
omit [aA] in
theorem aEW (us vs:List Up)(g:Gt):cI (us++vs) g=cI vs (cI us g):=by simp[cI]
theorem Rel.aEX {a:Act}{w:World}:∀{es:List aj} {aL:Nat} {π:Pi} {g:Gt},(∀e∈es,aj.size e=0)->Rel X D π g a w->X.k<=aL->(∀b,aL<=b->b<aL+es.length->π b=none)->
  ∃π',Ext π π'/\(∀b,π' b≠none->π b≠none∨(aL<=b/\b<aL+es.length))/\(∀i,i<es.length->π' (aL+i)=some (0,0,0,0))/\Rel X D π' (cI (CD es aL) g) a w
 | [],aL,π,g,_,R,_,_=>⟨π,Ext.refl _,λ_ h=>.inl h,λi hi=>by simp at hi,R⟩
 |e::es,aL,π,g,he,R,hk,hf=>by
  have h0:=hf aL (cP _) (by simp);have he0:=he e (by simp);have hx0:=Bo h0 (0,0,aj.size e,0)
  have R1:=(R.LS hx0 (λb hb=>by simp only[A5];rw[if_neg (by omega)])).new (k:=e) (qw π aL (0,0,aj.size e,0)) hk (by omega) (λi _ i2=>by omega) (λj hj=>by omega)
    (λ_ _ _ _ _ _ _ _ _ i2=>by omega) (λ_ _ _ i2=>by omega)
  obtain⟨π',e1,e2,e3,R2⟩:=Rel.aEX (es:=es) (aL:=aL+1) (λe h=>he e (by simp[h])) R1 (by omega) (λb h1 h2=>by
   simp only[A5];rw[if_neg (by omega)];exact hf b (by omega) (by simp only[LF];omega))
  refine⟨π',hx0.trans e1,λb hb=> ?_,λi hi=> ?_,R2⟩
  .rcases e2 b hb with h|h
   .simp only[A5] at h;by_cases eb:b=aL
    .right;simp only[LF];omega
    .rw[if_neg eb] at h;exact .inl h
   .right;simp only[LF];omega
  .cases i with
   |zero=>
    have:=e1 aL _ (qw π aL (0,0,aj.size e,0));rw[he0] at this;simpa using this
   |succ i=>
    have:=e3 i (by simpa using hi);rwa [show aL+1+i=aL+(i+1) by omega] at this
theorem aEY {v:RV}{t:TypeId}(h:∀π a w,Rel X D π g a w->∃x,v.rel π x/\(execOp a.eval o).run P w=.ok (.value (.pointer (some ⟨w.heap.size,0,none⟩))) (w.alloc (.cells x.cells t))):
  AU P o X D aL (CD (iZ P t v.bX aL).2 aL++auz o.dst (aL+(iZ P t v.bX aL).2.length) (aj.size (iZ P t v.bX aL).1) (iZ P t v.bX aL).1) g:=by
 obtain⟨n1,n2,n3⟩:=auM P t v.bX aL;generalize (iZ P t v.bX aL).1=k at n1 n2 n3
 generalize (iZ P t v.bX aL).2=es at n1 n2 n3
 intro π a w next Q R hk hf hd hD hn;obtain⟨x,hx,h1⟩:=h π a w R
 have hcn:cH (CD es aL++auz o.dst (aL+es.length) (aj.size k) k)=es.length+1:=by
  rw[aIS,asY];unfold auz dW cH;cases o.dst<;>rfl
 rw[hcn] at hf hn;obtain⟨π1,e1,e2,e3,R1⟩:=R.aEX n2 hk (λb h1 h2=>hf b h1 (by omega));obtain⟨hl,hc⟩:=jr (n3 π1 e3 _ (RV.Ow (RV.dH e1 _ _ hx)));have hl':x.cells.size=aj.size k:=by simpa using hl
 have h0:π1 (aL+es.length)=none:=by
  cases hh:π1 (aL+es.length) with
  |none=>rfl
  |some p=>
   rcases e2 (aL+es.length) (by rw[hh];simp) with h|h
   .exact absurd (hf _ (by omega) (by omega)) h
   .omega
 have R2:=R1.alloc (k:=k) (cs:=x.cells) (t:=t) (e:=x.cells.size) h0 (by omega) (by omega) (cP _) (λj hj=>by
  obtain⟨y,hy,hr⟩:=hc j hj;exact⟨y,by simpa using hy,hr⟩)
 refine Qi h1 (hn _ _ (A5 π1 (aL+es.length) (w.heap.size,0,aj.size k,x.cells.size)) (e1.trans (Bo h0 _)) (λb hb=> ?_) ?_)
 .simp only[A5] at hb;by_cases e:b=aL+es.length
  .subst e;exact .inr ⟨by omega,by omega⟩
  .simp only[e,gq] at hb;rcases e2 b hb with h|h
   .exact .inl h
   .exact .inr ⟨h.1,by omega⟩
 .have R3:=R2.dst hd (v:=.r (.c (.ptr (aL+es.length) (.k 0) (aj.size k)))) (x:=.pointer (some ⟨w.heap.size,0,none⟩)) ⟨_,_,_,_,qw _ _ _,rfl,by simp[cG.val]⟩
  have e:cI (CD es aL++auz o.dst (aL+es.length) (aj.size k) k) g=cI (dW o.dst (.r (.c (.ptr (aL+es.length) (.k 0) (aj.size k))))) ((Up.new (aL+es.length) k).gS (cI (CD es aL) g)):=by
   rw[aEW];unfold auz dW;cases o.dst<;>rfl
  rw[e];exact R3
theorem aNw {e:TypeId}{fp:List Fp}(ho:o.op=.alloc e)(h:aH ((Ab.eE (Bk P e)).bind λz=>.ret (CD (iZ P e z.bX aL).2 aL++auz o.dst (aL+(iZ P e z.bX aL).2.length) (aj.size (iZ P e z.bX aL).1) (iZ P e z.bX aL).1)) g us fp):AU P o X D aL us g:=by
 obtain⟨z,⟨_,h1⟩,_,h2⟩:=aH.bind' h;cases h2;refine aEY (t:=e) λπ a w R=> ?_;obtain⟨x,hx,_,hr⟩:=adW h1.eE w;refine⟨x,hr π,?_⟩;simp[execOp,ho,Instr.alloc,hx,newVar,LU]
theorem aUs {t:TypeId}{x:Operand}{fp:List Fp}(ho:o.op=.box t x)(h:aH ((wT x).bind λv=>.ret (CD (iZ P t v.bX aL).2 aL++auz o.dst (aL+(iZ P t v.bX aL).2.length) (aj.size (iZ P t v.bX aL).1) (iZ P t v.bX aL).1)) g us fp):AU P o X D aL us g:=by
 obtain⟨z,⟨_,h1⟩,_,h2⟩:=aH.bind' h;cases h2;refine aEY (t:=t) λπ a w R=>⟨_,h1.wT R,?_⟩
 simp[execOp,ho,Instr.box,newVar,LU]
theorem aUt {π:Pi}{a:Act}{w:World}(R:Rel X D π g a w){l:List FV}{B s:Nat}(h:∀j f,l[j]? =some f->∃v,aA.fs B (s+j)=some v/\f.rel v):∃xs:List Value,xs.length=l.length/\bq (CV.rel π) (aj.list (aEy l)) xs/\∀j v,xs[j]? =some v->cl w B (s+j)=some v:=by
 have cell:∀j f,l[j]? =some f->∃v,cl w B (s+j)=some v/\f.rel v:=λj f hj=>by
  obtain⟨v,h1,h2⟩:=h j f hj;exact⟨v,(R.hp.am.st _ _ _ h1).2,h2⟩
 have yZ:aj.size (aEy l)=l.length:=(Wj (λv:FV=>CV.f v) l 0).1;refine⟨(List.range l.length).map λj=>(cl w B (s+j)).getD undef,by simp,yH (by simp[yZ]) λj hj=> ?_,λj v hv=> ?_⟩
 .rw[yZ] at hj;obtain⟨v,hv,hr⟩:=cell j _ (kT hj);refine⟨v,?_,?_⟩
  .rw[CA,List.getElem?_range hj];simp[hv]
  .rw[show aEy l=l.map λv=>Sg.c (.f v) from rfl,(Wj (λv:FV=>CV.f v) l j).2 _ (kT hj)];exact hr
 .have hjn:j<l.length:=by
   have:=(lP.1 hv).1;simpa using this
  obtain⟨u,hu,_⟩:=cell j _ (kT hjn);simp[hjn,hu] at hv
  rw[hu,hv]
theorem aH.aEz {P:Program}{π:Pi}{a:Act}{w:World}(R:Rel X D π g a w){t:TypeId}{fl:List FV}{v:RV}{l:List Fp}(h:aH (aEz P t fl) g v l){x:Value}(hx:(CV.fp fl).rel π x):
  ∃B s y,x=.pointer (some ⟨B,s,none⟩)/\(loadVar t ⟨B,s,none⟩).run P w=.ok y w/\v.rel π y:=by
 obtain⟨B,s,rfl,hc⟩:=hx;obtain⟨xs,hl,hx,EB⟩:=aUt R hc;obtain⟨ag,⟨_,h1⟩,_,h⟩:=aH.bind' h;obtain⟨n,⟨_,h2⟩,_,h⟩:=aH.bind' h;have h1:=h1.eE;have h2:=h2.eE;cases ag with
 |true=>
  obtain⟨_,⟨_,h3⟩,_,h⟩:=aH.bind' h;have h3:=beq_iff.1 h3.cM;refine⟨B,s,.agg xs.toArray,rfl,?_,h.ap4 ⟨_,rfl,hx⟩⟩;have:=ZU (P:=P) EB;rw[hl,<-h3] at this;simp[loadVar,Kg h1,run_sizeOf h2,this]
 |false=>
  cases fl with
  |nil=>cases h
  |cons f fl=>
   match xs,hl with
   |x::xs,_=>
    have hcx:=EB 0 x rfl;simp only[ky] at hcx;refine⟨B,s,x,rfl,?_,?_⟩
    .simp only[cl] at hcx;simp[loadVar,Kg h1,hcx]
    .have:=(jr hx).2 0 (by rw[show aEy (f::fl)=(f::fl).map λv=>Sg.c (.f v) from rfl,(Wj (λv:FV=>CV.f v) (f::fl) 0).1];simp);obtain⟨y,hy,hr⟩:=this;cases hy;exact aH.ap4 (c:=.c (.f f)) h hr
theorem aRv {t:TypeId}{x:Operand}{fp:List Fp}(ho:o.op=.load t x)(h:aH ((Hy x).bind λ
  |.ptr b q n=>(valueOf P t b q n).bind λv=>.ret (dW o.dst (.r v))
  |.fp l=>(aEz P t l).bind λv=>.ret (dW o.dst (.r v))
  |_=>.fail) g us fp):AU P o X D aL us g:=by
 obtain⟨p,⟨_,h1⟩,_,h2⟩:=aH.bind' h;split at h2
 .obtain⟨v,⟨_,h3⟩,_,h4⟩:=aH.bind' h2;cases h4;refine iG λπ a w R=> ?_;obtain⟨B,s,q,e,hb,ha,hm⟩:=h1.Hy R;obtain⟨y,hy,hr⟩:=aH.valueOf R h3 hb hm;refine⟨y,?_,hr⟩;simp[execOp,ho,Instr.loadAt,ha,Instr.sureAddr,hy]
 .obtain⟨v,⟨_,h3⟩,_,h4⟩:=aH.bind' h2;cases h4;refine iG λπ a w R=> ?_;obtain⟨B,s,y,ha,hy,hr⟩:=aH.aEz R h3 (h1.Hy R);refine⟨y,?_,hr⟩;simp[execOp,ho,Instr.loadAt,ha,Instr.sureAddr,hy]
 .cases h2
end
end Go.Ab
