/-
  Parts of the proof: AbA AbS AbM AbO
-/
import Derived.Test.YtldgljclcgaibaaGreatZAA
import Derived.Laws.IdiomCopy
import Derived.Laws.Cells
import Derived.Laws.Entries
set_option linter.unusedVariables false
set_option linter.unusedSimpArgs false
namespace Go.Ab
theorem cS.aS5 (c:cS)(d j:Nat):(c.shift d).at j=c.at (d+j):=by cases c<;>rfl
theorem cS.a1J (c:cS)(d j:Nat):(c.up d).at j=c.at (j-d):=by cases c<;>rfl
theorem beq_iff {a b:Nat}:Nat.beq a b=true↔a=b:=⟨lB,λh=>h▸FE a⟩
theorem beq_false {a b:Nat}(h:a≠b):Nat.beq a b=false:=by
 rw[Bool.eq_false_iff];exact λe=>h (beq_iff.1 e)
theorem um {a b:Nat}:Nat.blt a b=true↔a<b:=by simp[Nat.blt];omega
theorem af8 {a b:Nat}(h:¬a<b):Nat.blt a b=false:=by
 rw[Bool.eq_false_iff];exact λe=>h (um.1 e)
theorem fm {a b:Nat}:Nat.ble a b=true↔a<=b:=by rw[Nat.ble_eq]
theorem axO {α:Type}(j e:Nat)(x y:α):(cond (Nat.beq j e) x y)=if j=e then x else y:=by
 by_cases h:j=e
 .rw[if_pos h,beq_iff.2 h];rfl
 .rw[if_neg h,beq_false h];rfl
theorem cS.aXD {c c':cS}{e:Nat}{v:CV}(h:c.aSe e v=some c'):∀j,CV.f (c'.at j)=if j=e then v else .f (c.at j):=by
 intro j;unfold cS.aSe at h;split at h
 .split at h
  .cases h;rename_i hk
   subst hk;simp only[cS.at,axO];split<;>rfl
  .cases h
 .cases h;simp only[cS.at,axO];split<;>rfl
 .cases h;simp only[cS.at,axO];split<;>rfl
 .cases h
theorem cS.aZy {p:Nat->Bool}{c d e:cS}(h:cS.mrg p c d=some e):∀j,e.at j=if p j=true then c.at j else d.at j:=by
 intro j;unfold cS.mrg at h;split at h
 .split at h
  .cases h;rename_i hk
   subst hk;simp only[cS.at];cases p j<;>rfl
  .cases h
 .cases h;simp only[cS.at];cases p j<;>rfl
 .cases h;simp only[cS.at];cases p j<;>rfl
 .cases h
def iB (cols:List cS)(j:Nat):CV:=match cols[j%cols.length]? with
 |some q=>.f (q.at (j/cols.length))
 |none=>.f .u
theorem Sg.o9 (n:Sz)(cols:List cS)(j:Nat):(Sg.a n cols).get j=iB cols j:=rfl
theorem af9 {p:Nat->Bool}:∀{cs ds es:List cS},aur p cs ds=some es->es.length=cs.length/\ds.length=cs.length/\
  ∀(i:Nat) c d,cs[i]? =some c->ds[i]? =some d->∃e,es[i]? =some e/\∀j,e.at j=if p j=true then c.at j else d.at j
 | [],[],es,h=>by
  simp only[aur,hM] at h;subst h;exact⟨rfl,rfl,λi c d hc=>by simp at hc⟩
 |c::cs,d::ds,es,h=>by
  simp only[aur] at h;split at h
  .rename_i e es' h1 h2
   cases h;obtain⟨a1,a2,a3⟩:=af9 h2;refine⟨by simp[a1],by simp[a2],λi c' d' hc hd=> ?_⟩;cases i with
   |zero=>
    simp only[aEa,hM] at hc hd;subst hc hd;exact⟨e,rfl,cS.aZy h1⟩
   |succ i=>exact a3 i c' d' (by simpa using hc) (by simpa using hd)
  .cases h
 | [],_::_,_,h=>by simp[aur] at h
 |_::_,[],_,h=>by simp[aur] at h
theorem aEt {p:Nat->Bool}{cs ds es:List cS}(h:aur p cs ds=some es)(j:Nat):iB es j=if p (j/cs.length)=true then iB cs j else iB ds j:=by
 obtain⟨a1,a2,a3⟩:=af9 h;unfold iB;rw[a1,a2];by_cases hl:j%cs.length<cs.length
 .have hc:cs[j%cs.length]? =some (cs[j%cs.length]'hl):=kt _;have hd:ds[j%cs.length]? =some (ds[j%cs.length]'(by omega)):=kt _;obtain⟨e,he,ha⟩:=a3 _ _ _ hc hd;rw[he,hc,hd];simp only[ha];split<;>rfl
 .rw[J' (by omega),J' (by omega),J' (by omega)];exact(ite_self _).symm
theorem azJ (cols:List cS)(e j:Nat):iB (cols.map (cS.shift e)) j=iB cols (e*cols.length+j):=by
 unfold iB;rw[afY,Ce,abK,asL];by_cases hl:cols.length=0
 .have:cols=[]:=aKs.1 hl;subst this;rfl
 .rw[Nat.mul_add_div (by omega)];cases cols[j%cols.length]? with
  |none=>rfl
  |some q=>simp only[SP,cS.aS5]
theorem aMS (cols:List cS)(d j:Nat)(h:d*cols.length<=j):iB (cols.map (cS.up d)) j=iB cols (j-d*cols.length):=by
 unfold iB;rw[afY,Ce];by_cases hl:cols.length=0
 .have:cols=[]:=aKs.1 hl;subst this;rfl
 .obtain⟨m,rfl⟩:∃m,j=cols.length*d+m:=⟨j-cols.length*d,by rw[abK] at h;omega⟩;rw[asL,Nat.mul_add_div (by omega),abK d,Nat.add_sub_cancel_left];cases cols[m%cols.length]? with
  |none=>rfl
  |some q=>simp only[SP,cS.a1J,Nat.add_sub_cancel_left]
theorem aj.dF {s:Sg}{l:aj}{j:Nat}(h:j<s.size):aj.get (s::l) j=s.get j:=by simp[aj.get,h]
theorem aj.kH {s:Sg}{l:aj}{j:Nat}(h:s.size<=j):aj.get (s::l) j=aj.get l (j-s.size):=by
 rw[aj.get,if_neg (by omega)]
theorem aj.qU {n:Nat}{cols:List cS}{l:aj}{j j':Nat}(h:n*cols.length<=j)(e:j'=j-n*cols.length):aj.get l j'=aj.get (.a (.l n) cols::l) j:=by
 rw[aj.kH (s:=.a (.l n) cols) h,e];rfl
theorem aj.kj {v:CV}{l:aj}{j j':Nat}(h:1<=j)(e:j'=j-1):aj.get l j'=aj.get (.c v::l) j:=by
 rw[aj.kH (s:=.c v) h,e];rfl
theorem aj.size_cons (s:Sg)(l:aj):aj.size (s::l)=s.size+aj.size l:=rfl
theorem aj.lp:aj.size []=0:=rfl
theorem Sg.kh (v:CV):(Sg.c v).size=1:=rfl
theorem Sg.lu (n:Sz)(cols:List cS):(Sg.a n cols).size=n.val*cols.length:=rfl
theorem aj.size_append (a b:aj):aj.size (a++b)=aj.size a+aj.size b:=by
 induction a with
 |nil=>simp[aj.size]
 |cons s a ih=>simp only[List.cons_append,aj.size,ih];omega
theorem aj.get_append (a b:aj)(j:Nat):aj.get (a++b) j=if j<aj.size a then aj.get a j else aj.get b (j-aj.size a):=by
 induction a generalizing j with
 |nil=>simp[aj.size]
 |cons s a ih=>
  rw[List.cons_append,aj.size_cons];by_cases h:j<s.size
  .rw[aj.dF h,aj.dF h,if_pos (by omega)]
  .rw[aj.kH (by omega),aj.kH (by omega),ih];by_cases h2:j-s.size<aj.size a
   .rw[if_pos h2,if_pos (by omega)]
   .rw[if_neg h2,if_neg (by omega)];congr 1;omega
theorem aj.auG (k:aj):k.list.length=k.size:=by simp[aj.list]
theorem aj.aga (k:aj)(j:Nat):k.list[j]? =if j<k.size then some (k.get j) else none:=by
 simp only[aj.list,Ce];split
 .rename_i h;simp[h]
 .rename_i h;rw[J' (by simp;omega)];rfl
theorem Wq {α:Type}(f:α->CV)(l:List α)(j:Nat):aj.size (l.map λa=>Sg.c (f a))=l.length/\∀a,l[j]? =some a->aj.get (l.map λa=>Sg.c (f a)) j=f a:=by
 induction l generalizing j with
 |nil=>exact⟨rfl,λa h=>by simp at h⟩
 |cons x l ih=>
  refine⟨by simp only[List.map_cons,aj.size,Sg.size,(ih 0).1,LJ];omega,λa h=> ?_⟩;cases j with
  |zero=>simp at h;subst h;rfl
  |succ j=>exact(ih j).2 a (by simpa using h)
theorem azK {sh:Bool}{cols:List cS}{e nR:Nat}{cH:Sz}{z:Nat}{v:aj}(h:aKu sh cols e nR cH z=some v)(he:sh=false->e=0):
  aj.size v=cH.val*z/\∀j,j<cH.val*z->aj.get v j=iB cols (e*cols.length+nR+j):=by
 unfold aKu at h;split at h
 .rename_i hc
  cases h;simp only[cK,beq_iff] at hc;obtain⟨rfl,hz⟩:=hc
  have hm:∀k,(cH.mul k).val=cH.val*k:=λk=>by
   unfold Sz.mul;split
   .rename_i hk;rw[beq_iff] at hk;subst hk;simp
   .cases cH<;>rfl
  have hlen:(shC sh e cols).length=cols.length:=by cases sh<;>simp[shC]
  have yG:(cH.mul (z/cols.length)).val*cols.length=cH.val*z:=by
   rw[hm,Nat.mul_assoc,Nat.div_mul_cancel (aEb hz)]
  refine⟨by simp only[aj.size,Sg.size,hlen,yG,jH],λj hj=> ?_⟩;rw[aj.dF (by simp only[Sg.size,hlen,yG];exact hj),Sg.o9,jH];cases sh with
  |true=>exact azJ ..
  |false=>rw[he rfl,SS,gD];rfl
 .cases h
theorem LP {sh:Bool}{cols:List cS}{e nR:Nat}{cH:Sz}{z:Nat}{v:aj}(h:rowsOf sh cols e nR cH z=some v)(he:sh=false->e=0):
  aj.size v=cH.val*z/\∀j,j<cH.val*z->aj.get v j=iB cols (e*cols.length+nR+j):=by
 unfold rowsOf at h;split at h
 .rename_i n
  split at h
  .rename_i hc
   cases h;simp only[cK,beq_iff,fm] at hc;obtain⟨rfl,hle⟩:=hc;have hl:((cols.drop nR).take z).length=z:=by simp;omega
   refine⟨by rw[(Wq _ _ 0).1,hl];simp[Sz.val],λj hj=> ?_⟩;simp only[Sz.val,Vc] at hj
   have hg:((cols.drop nR).take z)[j]? =some (cols[nR+j]'(by omega)):=by
    rw[abH,if_pos hj,SM,kt]
   rw[(Wq (λq:cS=>CV.f (q.at e)) _ j).2 _ hg];unfold iB;rw[show e*cols.length+nR+j=cols.length*e+(nR+j) by rw[abK];omega,asL,Nat.mul_add_div (by omega),axI (by omega),Nat.div_eq_of_lt (by omega),kt (by omega)];rfl
  .exact azK h he
 .exact azK h he
theorem ZZ:∀{b v:aj} {m:Nat},Wm b m=some v->aj.size v=m/\∀j,j<m->aj.get v j=aj.get b j
 | [],v,m,h=>by
  cases m with
  |zero=>simp[Wm] at h;subst h;exact⟨rfl,λj hj=>by omega⟩
  |succ m=>simp[Wm] at h
 |.c x::r,v,m,h=>by
  cases m with
  |zero=>simp[Wm] at h;subst h;exact⟨rfl,λj hj=>by omega⟩
  |succ m=>
   simp only[Wm,mI] at h;obtain⟨v',h1,rfl⟩:=h;obtain⟨e1,e2⟩:=ZZ h1;refine⟨by simp only[aj.size,Sg.size,e1];omega,λj hj=> ?_⟩;cases j with
   |zero=>rfl
   |succ j=>rw[aj.kH (by simp[Sg.size]),aj.kH (by simp[Sg.size])];exact e2 _ (by simp[Sg.size];omega)
 |.a n cols::r,v,m,h=>by
  cases m with
  |zero=>simp[Wm] at h;subst h;exact⟨rfl,λj hj=>by omega⟩
  |succ m=>
   simp only[Wm] at h;split at h
   .cases h
   .rename_i n
    split at h
    .rename_i hle
     rw[fm] at hle;simp only[mI] at h;obtain⟨v',h1,rfl⟩:=h;obtain⟨e1,e2⟩:=ZZ h1;refine⟨by simp only[aj.size,Sg.size,Sz.val,e1];omega,λj hj=> ?_⟩;by_cases lC:j<n*cols.length
     .rw[aj.dF (by simpa[Sg.size,Sz.val] using lC),aj.dF (by simpa[Sg.size,Sz.val] using lC)]
     .rw[aj.kH (by simp[Sg.size,Sz.val];omega),aj.kH (by simp[Sg.size,Sz.val];omega)];exact e2 _ (by simp[Sg.size,Sz.val];omega)
    .rename_i hle
     have hle:¬n*cols.length<=m+1:=λhc=>by rw[fm.2 hc] at hle;cases hle
     obtain⟨e1,e2⟩:=LP h (λ_=>rfl);simp only[Sz.val,Vc,SS,gD] at e1 e2;refine⟨e1,λj hj=> ?_⟩;rw[e2 j hj,aj.dF (by simp[Sg.size,Sz.val];omega)];rfl
theorem aIz {n:Nat}(h:nz n=false):n=0:=by cases n<;>first|rfl|cases h
theorem Ve (c l:Nat):c/l*l+c%l=c:=by rw[abK];exact Nat.div_add_mod c l
theorem Oy:∀{b v:aj} {c:Nat} {cH:Sz} {z:Nat},ak1 b c cH z=some v->aj.size v=cH.val*z/\(c+cH.val*z<=aj.size b->∀j,j<cH.val*z->aj.get v j=aj.get b (c+j))
 | [],v,c,cH,z,h=>by
  simp only[ak1] at h;split at h
  .split at h
   .rename_i n hn
    rw[beq_iff] at hn;cases h;exact⟨by simp[aj.size,Sz.val,hn],λ_ j hj=>by simp only[Sz.val] at hj;omega⟩
   .cases h
  .cases h
 |.c x::r,v,c,cH,z,h=>by
  cases c with
  |zero=>
   simp only[ak1] at h;split at h
   .obtain⟨e1,e2⟩:=ZZ h;exact⟨e1,λ_ j hj=>by rw[gD];exact e2 j hj⟩
   .cases h
  |succ c=>
   simp only[ak1] at h;obtain⟨e1,e2⟩:=Oy h;refine⟨e1,λhle j hj=> ?_⟩;simp only[aj.size,Sg.size] at hle;rw[e2 (by omega) j hj];exact aj.kj (by omega) (by omega)
 |.a n cols::r,v,c,cH,z,h=>by
  simp only[ak1] at h;split at h
  .obtain⟨e1,e2⟩:=LP h aIz;rw[Ve] at e2;refine⟨e1,λhle j hj=> ?_⟩;simp only[aj.size,jH] at hle;rw[e2 j hj,aj.dF (by omega),Sg.o9]
  .split at h
   .rename_i n m
    split at h
    .rename_i hle
     rw[fm] at hle;obtain⟨e1,e2⟩:=Oy h;refine⟨e1,λadL j hj=> ?_⟩;rw[aj.size_cons,Sg.lu] at adL;simp only[Sz.val] at adL;have e3:=e2 (by simp only[Sz.val];omega) j hj;rw[e3];exact aj.qU (by omega) (by omega)
    .split at h
     .rename_i adL
      rw[fm] at adL;obtain⟨e1,e2⟩:=LP h aIz;rw[Ve] at e2;refine⟨e1,λ_ j hj=> ?_⟩;rw[e2 j hj,aj.dF (by simp only[Sg.size,Sz.val] at hj ⊢;omega),Sg.o9]
     .split at h
      .obtain⟨e1,e2⟩:=ZZ h;exact⟨e1,λ_ j hj=>by rw[gD];exact e2 j hj⟩
      .cases h
   .cases h
theorem agb {c i z l:Nat}(h:z%l=0):elemOf c i z l*l+c%l=c+i*z:=by
 unfold elemOf;split
 .rename_i hz
  rw[beq_iff] at hz;subst hz;have hd:=Ve c z;cases hq:c/z with
  |zero=>
   rw[hq] at hd;simp only;omega
  |succ q=>
   rw[hq] at hd;simp only;rw[qz];omega
 .have hd:=Ve c l;have hz:=Nat.div_mul_cancel (aEb h);rw[qz,Nat.mul_assoc,hz];omega
theorem asU:∀{b:aj} {v:aj} {c i z:Nat} {cH:Sz} {y:Nat},azE b c i z cH y=some (true,v)->aj.size v=cH.val*y/\(c+i*z+cH.val*y<=aj.size b->∀j,j<cH.val*y->aj.get v j=aj.get b (c+i*z+j))
 | [],v,c,i,z,cH,y,h=>by simp[azE] at h
 |.c x::r,v,c,i,z,cH,y,h=>by
  cases c with
  |zero=>
   simp only[azE,mI,qT,AI] at h;obtain⟨v',h1,rfl⟩:=h;have:=Oy h1;simpa using this
  |succ c=>
   simp only[azE] at h;obtain⟨e1,e2⟩:=asU h;refine⟨e1,λhle j hj=> ?_⟩;simp only[aj.size,Sg.size] at hle;rw[e2 (by omega) j hj];exact aj.kj (by omega) (by omega)
 |.a n cols::r,v,c,i,z,cH,y,h=>by
  simp only[azE] at h;split at h
  .split at h
   .rename_i hz
    rw[beq_iff] at hz;simp only[mI,qT,AI] at h;obtain⟨v',h1,rfl⟩:=h;obtain⟨e1,e2⟩:=LP h1 (λh=>by cases h);rw[agb hz] at e2;refine⟨e1,λhle j hj=> ?_⟩;simp only[aj.size,jH] at hle;rw[e2 j hj,aj.dF (by omega),Sg.o9]
   .cases h
  .split at h
   .rename_i n
    split at h
    .rename_i hle
     rw[fm] at hle;obtain⟨e1,e2⟩:=asU h;refine⟨e1,λadL j hj=> ?_⟩;rw[aj.size_cons,Sg.lu] at adL;simp only[Sz.val] at adL;have e3:=e2 (by simp only[Sz.val];omega) j hj;rw[e3];exact aj.qU (by omega) (by omega)
    .split at h
     .rename_i hz
      rw[beq_iff] at hz;simp only[mI,qT] at h;obtain⟨v',h1,hg,rfl⟩:=h;rw[fm] at hg;obtain⟨e1,e2⟩:=LP h1 (λh=>by cases h);rw[agb hz] at e2;refine⟨e1,λ_ j hj=> ?_⟩;rw[e2 j hj,aj.dF (by simp only[Sg.size,Sz.val];omega),Sg.o9]
     .cases h
   .cases h
theorem aj.axP {b v:aj}{o:cG}{cH:Sz}{z:Nat}(h:b.sub o cH z=some (true,v)):aj.size v=cH.val*z/\(o.val+cH.val*z<=aj.size b->∀j,j<cH.val*z->aj.get v j=aj.get b (o.val+j)):=by
 cases o with
 |k c=>
  simp only[aj.sub,mI,qT,AI] at h;obtain⟨v',h1,rfl⟩:=h;exact Oy h1
 |x c i y=>exact asU h
theorem agc:∀{cols dK:List cS} {j e:Nat} {v:CV},af1 cols j e v=some dK->dK.length=cols.length/\j<cols.length/\(∀k,k≠j->dK[k]? =cols[k]?)/\∃c c',cols[j]? =some c/\dK[j]? =some c'/\c.aSe e v=some c'
 | [],_,_,_,_,h=>by simp[af1] at h
 |c::cs,dK,0,e,v,h=>by
  simp only[af1,mI] at h;obtain⟨c',h1,rfl⟩:=h;refine⟨rfl,by simp,λk hk=> ?_,c,c',rfl,rfl,h1⟩;cases k with
  |zero=>omega
  |succ k=>rfl
 |c::cs,dK,j+1,e,v,h=>by
  simp only[af1,mI] at h;obtain⟨SV,h1,rfl⟩:=h;obtain⟨a1,a2,a3,c0,c1,a4,a5,a6⟩:=agc h1;refine⟨by simp[a1],by simp;omega,λk hk=> ?_,c0,c1,by simpa using a4,by simpa using a5,a6⟩;cases k with
  |zero=>rfl
  |succ k=>simpa using a3 k (by omega)
theorem aKC {cols dK:List cS}{j e:Nat}{v:CV}(h:af1 cols j e v=some dK)(J:Nat):iB dK J=if J=e*cols.length+j then v else iB cols J:=by
 obtain⟨a1,a2,a3,c,c',a4,a5,a6⟩:=agc h;have aEu:0<cols.length:=by omega
 unfold iB;rw[a1];by_cases hm:J%cols.length=j
 .rw[hm,a4,a5];simp only[cS.aXD a6];have hd:=Ve J cols.length;rw[hm] at hd;by_cases he:J/cols.length=e
  .rw[if_pos he,if_pos (by rw[<-he];omega)]
  .rw[if_neg he,if_neg λhJ=>he (by rw[hJ,abK,Nat.mul_add_div aEu,Nat.div_eq_of_lt a2,jH])]
 .rw[a3 _ hm,if_neg λhJ=>hm (by rw[hJ,abK,asL,axI a2])]
theorem LQ:∀{b:aj} {cols dK:List cS} {e nR:Nat},D9 cols.length cols e nR b=some dK->dK.length=cols.length/\
  ∀J,iB dK J=if e*cols.length+nR<=J/\J<e*cols.length+nR+aj.size b then aj.get b (J-(e*cols.length+nR)) else iB cols J
 | [],cols,dK,e,nR,h=>by
  simp only[D9,hM] at h;subst h;exact⟨rfl,λJ=>by rw[if_neg (by rw[aj.lp];omega)]⟩
 |.a _ _::_,cols,dK,e,nR,h=>by simp[D9] at h
 |.c v::r,cols,dK,e,nR,h=>by
  simp only[D9] at h;split at h
  .rename_i a1K h1
   have hr:=aKC h1;obtain⟨a1,a2,_⟩:=agc h1
   have key:∀e' aXE,e'*cols.length+aXE=e*cols.length+(nR+1)->D9 cols.length a1K e' aXE r=some dK->dK.length=cols.length/\
     ∀J,iB dK J=if e*cols.length+nR<=J/\J<e*cols.length+nR+aj.size (.c v::r) then aj.get (.c v::r) (J-(e*cols.length+nR)) else iB cols J:=λe' aXE he h2=>by
    rw[<-a1] at h2;obtain⟨b1,b2⟩:=LQ h2;rw[a1] at b2;refine⟨b1.trans a1,λJ=> ?_⟩;rw[b2,he,hr];have hs:aj.size (.c v::r)=1+aj.size r:=rfl;by_cases c1:J=e*cols.length+nR
    .subst c1;rw[if_neg (by omega),if_pos rfl,if_pos (by rw[hs];omega),Nat.sub_self];rfl
    .by_cases c2:e*cols.length+(nR+1)<=J/\J<e*cols.length+(nR+1)+aj.size r
     .rw[if_pos c2,if_pos (by rw[hs];omega)];exact aj.kj (by omega) (by omega)
     .rw[if_neg c2,if_neg c1,if_neg (by rw[hs];omega)]
   split at h
   .rename_i hc
    rw[beq_iff] at hc;refine key (e+1) 0 ?_ h;rw[qz,hc];omega
   .exact key e (nR+1) rfl h
  .cases h
theorem asV {v:aj}{cols dK:List cS}{e nR:Nat}(h:aEh cols e nR v=some dK):dK.length=cols.length/\
  ∀J,iB dK J=if e*cols.length+nR<=J/\J<e*cols.length+nR+aj.size v then aj.get v (J-(e*cols.length+nR)) else iB cols J:=by
 unfold aEh at h;split at h
 .rename_i m ds
  split at h
  .rename_i hc
   simp only[cK,beq_iff] at hc;obtain⟨rfl,hl⟩:=hc;obtain⟨a1,a2,_⟩:=af9 h;rw[afY] at a1 a2;refine⟨by omega,λJ=> ?_⟩;have hs:aj.size [.a m ds]=m.val*cols.length:=by rw[aj.size_cons,Sg.lu,aj.lp,hl,jH]
   have hm:=aEt h J;rw[afY,<-hl] at hm;rw[hm];clear hm
   by_cases hz:cols.length=0
   .have h1:cols=[]:=aKs.1 hz;have h2:ds=[]:=aKs.1 (hl.symm.trans hz);subst h1 h2;rw[if_neg (show ¬(e*([]:List cS).length+0<=J/\J<e*([]:List cS).length+0+aj.size [.a m []]) by rw[hs];simp)];exact ite_self _
   .have hd:=Ve J cols.length;have hm:=Nat.mod_lt J (show cols.length>0 by omega);by_cases hp:e<=J/cols.length/\J/cols.length<e+m.val
    .have e1:e*cols.length<=J:=by
      have:=wh cols.length hp.1;omega
     have e2:J<e*cols.length+m.val*cols.length:=by
      have:=wh cols.length (show J/cols.length+1<=e+m.val by omega);rw[qz,qz] at this;omega
     rw[if_pos (by simp only[cK,fm,um];exact hp),if_pos (show e*cols.length+0<=J/\J<e*cols.length+0+aj.size [.a m ds] by rw[hs];exact⟨e1,e2⟩),aMS _ _ _ (by rw[<-hl];exact e1),jH,aj.dF (by rw[Sg.lu,<-hl];omega),Sg.o9,<-hl]
    .rw[if_neg (by simp only[cK,fm,um];exact hp),if_neg (by
      rw[hs];rintro ⟨e1,e2⟩
      apply hp
      constructor
      .exact(Nat.le_div_iff_mul_le (by omega)).2 e1
      .refine(axD (by omega)).2 ?_;rw[qz];exact e2)]
  .cases h
 .exact LQ h
theorem aEv:∀{b v b':aj},dq b v=some b'->aj.size b'=aj.size b/\∀j,aj.get b' j=if j<aj.size v then aj.get v j else aj.get b j:=by
 intro b v;induction b generalizing v with
 |nil=>
  intro b' h;cases v with
  |nil=>simp only[dq,hM] at h;subst h;exact⟨rfl,λj=>by rw[if_neg (by simp[aj.size])]⟩
  |cons y vs=>cases y<;>simp[dq] at h
 |cons x r ih=>
  intro b' h;cases v with
  |nil=>simp only[dq,hM] at h;subst h;exact⟨rfl,λj=>by rw[if_neg (by simp[aj.size])]⟩
  |cons y vs=>
   unfold dq at h;split at h
   .rename_i e;cases e
   .rename_i aXF aXG
    cases aXF;cases aXG
    simp only[mI] at h;obtain⟨r',h1,rfl⟩:=h;obtain⟨e1,e2⟩:=ih h1;refine⟨by simp only[aj.size,e1,Sg.size],λj=> ?_⟩;cases j with
    |zero=>rw[if_pos (by simp only[aj.size,Sg.size];omega)];rfl
    |succ j=>
     rw[<-aj.kj (l:=r') (j':=j) (by omega) (by omega),<-aj.kj (l:=vs) (j':=j) (by omega) (by omega),<-aj.kj (l:=r) (j':=j) (by omega) (by omega),e2];by_cases hj:j<aj.size vs
     .rw[if_pos hj,if_pos (by rw[aj.size_cons,Sg.kh];omega)]
     .rw[if_neg hj,if_neg (by rw[aj.size_cons,Sg.kh];omega)]
   .rename_i n cols _ m dK _ aXF aXG
    cases aXF;cases aXG
    split at h
    .rename_i hc
     simp only[cK,beq_iff] at hc;obtain⟨rfl,hl⟩:=hc;simp only[mI] at h;obtain⟨r',h1,rfl⟩:=h;obtain⟨e1,e2⟩:=ih h1;refine⟨by simp only[aj.size,e1,Sg.size,hl],λj=> ?_⟩;have hs:aj.size (.a (.l n) dK::vs)=n*dK.length+aj.size vs:=rfl;by_cases hj:j<n*dK.length
     .rw[aj.dF (by simpa[Sg.size,Sz.val] using hj),if_pos (by rw[hs];omega),aj.dF (by simpa[Sg.size,Sz.val] using hj)]
     .rw[<-aj.qU (l:=r') (j':=j-n*dK.length) (by omega) (by omega),<-aj.qU (l:=vs) (j':=j-n*dK.length) (by omega) (by omega),<-aj.qU (l:=r) (j':=j-n*dK.length) (by rw[hl];omega) (by rw[hl]),e2];by_cases lC:j-n*dK.length<aj.size vs
      .rw[if_pos lC,if_pos (by rw[hs];omega)]
      .rw[if_neg lC,if_neg (by rw[hs];omega)]
    .cases h
   .cases h
theorem azL {n:Sz}{cols:List cS}{v:aj}(h:aKv n cols v=true):aj.size v=(Sg.a n cols).size:=by
 unfold aKv at h;split at h
 .simp only[cK,beq_iff] at h;obtain⟨rfl,hl⟩:=h;simp[aj.size,Sg.size,hl]
 .cases h
theorem Oz:∀{b b':aj} {c:Nat} {v:aj},ak2 b c v=some b'->aj.size b'=aj.size b/\∀j,j<aj.size b->aj.get b' j=if c<=j/\j<c+aj.size v then aj.get v (j-c) else aj.get b j
 | [],b',c,v,h=>by
  simp only[ak2] at h;split at h
  .cases h;exact⟨rfl,λj hj=>by simp[aj.size] at hj⟩
  .cases h
 |.c x::r,b',c,v,h=>by
  cases c with
  |zero=>
   simp only[ak2] at h;obtain⟨e1,e2⟩:=aEv h;refine⟨e1,λj _=> ?_⟩;rw[e2];by_cases hj:j<aj.size v
   .rw[if_pos hj,if_pos (by omega)];rfl
   .rw[if_neg hj,if_neg (by omega)]
  |succ c=>
   simp only[ak2,mI] at h;obtain⟨r',h1,rfl⟩:=h;obtain⟨e1,e2⟩:=Oz h1;refine⟨by simp only[aj.size,e1],λj hj=> ?_⟩;rw[aj.size_cons,Sg.kh] at hj;cases j with
   |zero=>rw[if_neg (by omega)];rfl
   |succ j=>
    rw[<-aj.kj (l:=r') (j':=j) (by omega) (by omega),<-aj.kj (l:=r) (j':=j) (by omega) (by omega),e2 j (by omega)];by_cases hc:c<=j/\j<c+aj.size v
    .rw[if_pos hc,if_pos (by omega)];congr 1;omega
    .rw[if_neg hc,if_neg (by omega)]
 |.a n cols::r,b',c,v,h=>by
  have put:∀{dK},aEh cols (c/cols.length) (c%cols.length) v=some dK->dK.length=cols.length/\∀J,iB dK J=if c<=J/\J<c+aj.size v then aj.get v (J-c) else iB cols J:=λh=>by
   have:=asV h;rw[Ve] at this;exact this
  simp only[ak2] at h;split at h
  .split at h
   .rename_i hc
    cases h;simp only[cK,beq_iff] at hc;obtain⟨rfl,hs⟩:=hc;have hs:=azL hs;refine⟨by simp only[aj.size,jH,hs],λj hj=> ?_⟩;simp only[aj.size,jH] at hj;rw[if_pos (by omega),Nat.sub_zero]
   .simp only[mI] at h;obtain⟨dK,h1,rfl⟩:=h;obtain⟨e1,e2⟩:=put h1;refine⟨by simp only[aj.size,Sg.size,e1],λj hj=> ?_⟩;simp only[aj.size,jH] at hj;rw[aj.dF (by simp only[Sg.size,e1];exact hj),aj.dF hj,Sg.o9,Sg.o9,e2]
  .split at h
   .cases h
   .rename_i n
    split at h
    .rename_i hle
     rw[fm] at hle;simp only[mI] at h;obtain⟨r',h1,rfl⟩:=h;obtain⟨e1,e2⟩:=Oz h1;refine⟨by rw[aj.size_cons,aj.size_cons,e1],λj hj=> ?_⟩;rw[aj.size_cons,Sg.lu] at hj;simp only[Sz.val] at hj;by_cases lC:j<n*cols.length
     .rw[aj.dF (by simpa[Sg.size,Sz.val] using lC),aj.dF (by simpa[Sg.size,Sz.val] using lC),if_neg (by omega)]
     .rw[<-aj.qU (l:=r') (j':=j-n*cols.length) (by omega) rfl,<-aj.qU (n:=n) (cols:=cols) (j':=j-n*cols.length) (by omega) rfl,e2 _ (by omega)];by_cases hc:c<=j/\j<c+aj.size v
      .rw[if_pos hc,if_pos (by omega)];congr 1;omega
      .rw[if_neg hc,if_neg (by omega)]
    .split at h
     .rename_i hc
      cases h;simp only[cK,beq_iff] at hc;obtain⟨rfl,hs⟩:=hc;have hs:=azL hs;refine⟨by rw[aj.size_append,hs];rfl,λj hj=> ?_⟩;rw[aj.get_append,hs];by_cases lC:j<(Sg.a (.l n) cols).size
      .rw[if_pos lC,if_pos (by omega),Nat.sub_zero]
      .rw[if_neg lC,if_neg (by omega)];exact aj.qU (Nat.le_of_not_lt lC) rfl
     .split at h
      .rename_i adL
       rw[fm] at adL;simp only[mI] at h;obtain⟨dK,h1,rfl⟩:=h;obtain⟨e1,e2⟩:=put h1;refine⟨by simp only[aj.size,Sg.size,e1],λj hj=> ?_⟩;by_cases lC:j<n*cols.length
       .rw[aj.dF (by simpa[Sg.size,Sz.val,e1] using lC),aj.dF (by simpa[Sg.size,Sz.val] using lC),Sg.o9,Sg.o9,e2]
       .rw[if_neg (by omega),<-aj.qU (cols:=dK) (j':=j-n*cols.length) (by rw[e1];omega) (by rw[e1]),<-aj.qU (n:=n) (cols:=cols) (j':=j-n*cols.length) (by omega) rfl]
      .split at h
       .obtain⟨e1,e2⟩:=aEv h;refine⟨e1,λj _=> ?_⟩;rw[e2];by_cases hj:j<aj.size v
        .rw[if_pos hj,if_pos (by omega)];rfl
        .rw[if_neg hj,if_neg (by omega)]
       .cases h
theorem asW:∀{b b':aj} {c i z:Nat} {v:aj},azF b c i z v=some (true,b')->aj.size b'=aj.size b/\∀j,j<aj.size b->aj.get b' j=if c+i*z<=j/\j<c+i*z+aj.size v then aj.get v (j-(c+i*z)) else aj.get b j
 | [],b',c,i,z,v,h=>by simp[azF] at h
 |.c x::r,b',c,i,z,v,h=>by
  cases c with
  |zero=>
   simp only[azF,mI,qT,AI] at h;obtain⟨v',h1,rfl⟩:=h;simpa using Oz h1
  |succ c=>
   simp only[azF,mI,qT] at h;obtain⟨⟨g,r'⟩,h1,hg,rfl⟩:=h;simp only at hg;subst hg;obtain⟨e1,e2⟩:=asW h1;refine⟨by simp only[aj.size,e1],λj hj=> ?_⟩;rw[aj.size_cons,Sg.kh] at hj;cases j with
   |zero=>rw[if_neg (by omega)];rfl
   |succ j=>
    rw[<-aj.kj (l:=r') (j':=j) (by omega) (by omega),<-aj.kj (l:=r) (j':=j) (by omega) (by omega),e2 j (by omega)];by_cases hc:c+i*z<=j/\j<c+i*z+aj.size v
    .rw[if_pos hc,if_pos (by omega)];congr 1;omega
    .rw[if_neg hc,if_neg (by omega)]
 |.a n cols::r,b',c,i,z,v,h=>by
  simp only[azF] at h;split at h
  .split at h
   .rename_i hz
    rw[beq_iff] at hz;simp only[mI,qT,AI] at h;obtain⟨dK,h1,rfl⟩:=h;have e:=asV h1;rw[agb hz] at e;obtain⟨e1,e2⟩:=e;refine⟨by simp only[aj.size,Sg.size,e1],λj hj=> ?_⟩;simp only[aj.size,jH] at hj;rw[aj.dF (by simp only[Sg.size,e1];exact hj),aj.dF hj,Sg.o9,Sg.o9,e2]
   .cases h
  .split at h
   .rename_i n
    split at h
    .rename_i hle
     rw[fm] at hle;simp only[mI,qT] at h;obtain⟨⟨g,r'⟩,h1,hg,rfl⟩:=h;simp only at hg;subst hg;obtain⟨e1,e2⟩:=asW h1;refine⟨by rw[aj.size_cons,aj.size_cons,e1],λj hj=> ?_⟩;rw[aj.size_cons,Sg.lu] at hj;simp only[Sz.val] at hj;by_cases lC:j<n*cols.length
     .rw[aj.dF (by simpa[Sg.size,Sz.val] using lC),aj.dF (by simpa[Sg.size,Sz.val] using lC),if_neg (by omega)]
     .rw[<-aj.qU (l:=r') (j':=j-n*cols.length) (by omega) rfl,<-aj.qU (n:=n) (cols:=cols) (j':=j-n*cols.length) (by omega) rfl,e2 _ (by omega)];by_cases hc:c+i*z<=j/\j<c+i*z+aj.size v
      .rw[if_pos hc,if_pos (by omega)];congr 1;omega
      .rw[if_neg hc,if_neg (by omega)]
    .split at h
     .rename_i hz
      rw[beq_iff] at hz;simp only[mI,qT] at h;obtain⟨dK,h1,hg,rfl⟩:=h;rw[fm] at hg;have e:=asV h1;rw[agb hz] at e;obtain⟨e1,e2⟩:=e;rw[e1] at hg;refine⟨by simp only[aj.size,Sg.size,e1],λj hj=> ?_⟩;by_cases lC:j<n*cols.length
      .rw[aj.dF (by simpa[Sg.size,Sz.val,e1] using lC),aj.dF (by simpa[Sg.size,Sz.val] using lC),Sg.o9,Sg.o9,e2]
      .rw[if_neg (by omega),<-aj.qU (cols:=dK) (j':=j-n*cols.length) (by rw[e1];omega) (by rw[e1]),<-aj.qU (n:=n) (cols:=cols) (j':=j-n*cols.length) (by omega) rfl]
     .cases h
   .cases h
theorem aj.aS6 {b b' v:aj}{o:cG}(h:b.AH o v=some (true,b')):aj.size b'=aj.size b/\∀j,j<aj.size b->aj.get b' j=if o.val<=j/\j<o.val+aj.size v then aj.get v (j-o.val) else aj.get b j:=by
 cases o with
 |k c=>
  simp only[aj.AH,mI,qT,AI] at h;obtain⟨v',h1,rfl⟩:=h;exact Oz h1
 |x c i y=>exact asW h
theorem Qk:∀{b:aj},Wn b=true->aj.size b=b.length
 | [],_=>rfl
 |.c v::r,h=>by
  have:=Qk (b:=r) h;rw[aj.size_cons,Sg.kh,this,LJ];omega
 |.a _ _::_,h=>by cases h
theorem auH (cols:List cS):∀l:List Nat,Wn (af2 cols l)=true/\(af2 cols l).length=l.length/\∀i j,l[i]? =some j->aj.get (af2 cols l) i=iB cols j
 | []=>⟨rfl,rfl,λi j h=>by simp at h⟩
 |k::l=>by
  obtain⟨h1,h2,h3⟩:=auH cols l;refine⟨h1,by simp[af2,h2],λi j h=> ?_⟩;cases i with
  |zero=>
   simp only[aEa,hM] at h;subst h;rfl
  |succ i=>exact(aj.kH (s:=.c _) (by rw[Sg.kh];omega)).trans (h3 i j (by simpa using h))
theorem yH:∀b:aj,aj.size (tV b)=aj.size b/\∀j,j<aj.size b->aj.get (tV b) j=aj.get b j
 | []=>⟨rfl,λ_ _=>rfl⟩
 |.c v::r=>by
  obtain⟨h1,h2⟩:=yH r;refine⟨by rw[tV,aj.size_cons,aj.size_cons,h1],λj hj=> ?_⟩;rw[aj.size_cons,Sg.kh] at hj;cases j with
  |zero=>rfl
  |succ j=>
   rw[tV,aj.kH (by rw[Sg.kh];omega),aj.kH (by rw[Sg.kh];omega)];exact h2 _ (by rw[Sg.kh];omega)
 |.a (.s n) cols::r=>by
  obtain⟨h1,h2⟩:=yH r;refine⟨by rw[tV,aj.size_cons,aj.size_cons,h1],λj hj=> ?_⟩;rw[aj.size_cons] at hj;rw[tV];by_cases lC:j<(Sg.a (.s n) cols).size
  .rw[aj.dF lC,aj.dF lC]
  .rw[aj.kH (by omega),aj.kH (by omega)];exact h2 _ (by omega)
 |.a (.l n) cols::r=>by
  obtain⟨h1,h2⟩:=yH r;obtain⟨c1,c2,c3⟩:=auH cols (List.range (n*cols.length));have hs:aj.size (af2 cols (List.range (n*cols.length)))=n*cols.length:=by rw[Qk c1,c2,List.length_range]
  have Wr:(Sg.a (.l n) cols).size=n*cols.length:=rfl;refine⟨by rw[tV,aj.size_append,aj.size_cons,h1,hs,Wr],λj hj=> ?_⟩;rw[aj.size_cons,Wr] at hj;rw[tV,aj.get_append,hs];by_cases lC:j<n*cols.length
  .rw[if_pos lC,aj.dF (by rw[Wr];exact lC),Sg.o9];exact c3 j j (by simp[lC])
  .rw[if_neg lC,aj.kH (by rw[Wr];omega),Wr];exact h2 _ (by omega)
theorem LR (n m:Sz):(n.add m).val=n.val+m.val:=by cases n<;>cases m<;>rfl
theorem aQp {n:Sz}{cols:List cS}{b c:aj}(h:aMH n cols b=some c):aj.size c=aj.size [.a n cols]+aj.size b/\
  ∀j,j<aj.size [.a n cols]+aj.size b->aj.get c j=if j<aj.size [.a n cols] then aj.get [.a n cols] j else aj.get b (j-aj.size [.a n cols]):=by
 have h0:aj.size [.a n cols]=n.val*cols.length:=by rw[aj.size_cons,aj.lp,Sg.lu,jH]
 unfold aMH at h;split at h
 .rename_i hc
  simp only[cK,beq_iff,fm] at hc;obtain⟨Es,aEu,aXH⟩:=hc;simp only[mI] at h;obtain⟨es,h1,rfl⟩:=h;obtain⟨a1,a2⟩:=LQ h1;have hbs:=Qk Es;have hq:(b.length/cols.length)*cols.length=b.length:=Nat.div_mul_cancel (aEb aXH)
  have hr:(n.add (.l (b.length/cols.length))).val*es.length=n.val*cols.length+b.length:=by
   rw[LR,a1,qz,Sz.val,hq]
  refine⟨by rw[h0,hbs,aj.size_cons,aj.lp,Sg.lu,jH,hr],λj hj=> ?_⟩;rw[h0] at hj;rw[aj.dF (by rw[Sg.lu,hr];omega),Sg.o9,a2,jH];by_cases lC:j<n.val*cols.length
  .rw[if_neg (by omega),if_pos (show j<aj.size [.a n cols] by rw[h0];exact lC),aj.dF (by rw[Sg.lu];exact lC),Sg.o9]
  .rw[if_pos (by omega),if_neg (show ¬j<aj.size [.a n cols] by rw[h0];exact lC),h0]
 .cases h
theorem aEw {n:Sz}{cols:List cS}{b c:aj}(h:aSf n cols b=some c):aj.size c=aj.size [.a n cols]+aj.size b/\
  ∀j,j<aj.size [.a n cols]+aj.size b->aj.get c j=if j<aj.size [.a n cols] then aj.get [.a n cols] j else aj.get b (j-aj.size [.a n cols]):=by
 have h0:aj.size [.a n cols]=n.val*cols.length:=by rw[aj.size_cons,aj.lp,Sg.lu,jH]
 have two:aMH n cols (tV b)=some c->aj.size c=aj.size [.a n cols]+aj.size b/\
  ∀j,j<aj.size [.a n cols]+aj.size b->aj.get c j=if j<aj.size [.a n cols] then aj.get [.a n cols] j else aj.get b (j-aj.size [.a n cols]):=λh=>by
  obtain⟨e1,e2⟩:=aQp h;obtain⟨f1,f2⟩:=yH b;rw[f1] at e1 e2;refine⟨e1,λj hj=> ?_⟩;rw[e2 j hj];by_cases lC:j<aj.size [.a n cols]
  .rw[if_pos lC,if_pos lC]
  .rw[if_neg lC,if_neg lC,f2 _ (by omega)]
 unfold aSf at h;split at h
 .rename_i m dK
  split at h
  .rename_i hc
   simp only[cK,beq_iff,fm] at hc;obtain⟨hl,aEu⟩:=hc;simp only[mI] at h;obtain⟨es,h1,rfl⟩:=h;obtain⟨a1,_,_⟩:=af9 h1;have hb:aj.size [.a m dK]=m.val*cols.length:=by rw[aj.size_cons,aj.lp,Sg.lu,jH,hl]
   have hr:aj.size [.a (n.add m) es]=n.val*cols.length+m.val*cols.length:=by
    rw[aj.size_cons,aj.lp,Sg.lu,jH,LR,a1,qz]
   refine⟨by rw[hr,h0,hb],λj hj=> ?_⟩;rw[h0,hb] at hj;have hm:=aEt h1 j
   have e1:aj.get [.a (n.add m) es] j=iB es j:=by
    rw[aj.dF (by rw[Sg.lu,LR,a1,qz];exact hj),Sg.o9]
   rw[e1,hm];by_cases lC:j<n.val*cols.length
   .rw[if_pos (by rw[um];exact(axD (by omega)).2 lC),if_pos (show j<aj.size [.a n cols] by rw[h0];exact lC),aj.dF (by rw[Sg.lu];exact lC),Sg.o9]
   .rw[if_neg (by rw[um];exact λhh=>lC ((axD (by omega)).1 hh)),if_neg (show ¬j<aj.size [.a n cols] by rw[h0];exact lC),aMS _ _ _ (by rw[<-hl];omega),h0,aj.dF (by rw[Sg.lu,<-hl];omega),Sg.o9,<-hl]
  .exact two h
 .exact two h
theorem ak9:∀{z:Nat} {b:aj} {cols:List cS},EM z b=some cols->cols.length=z
 |0,b,cols,h=>by simp only[EM,hM] at h;subst h;rfl
 |z+1,[],cols,h=>by simp[EM] at h
 |z+1,.a _ _::_,cols,h=>by simp[EM] at h
 |z+1,.c v::r,cols,h=>by
  cases v<;>simp only[EM] at h<;>first|(cases h;done)|skip
  split at h
  .rename_i h1 h2
   cases h;simp[ak9 h2]
  .cases h
theorem ala {z:Nat}{b r:aj}(h:rowOf z b=some r):aj.size r=aj.size b/\(∀j,j<aj.size b->aj.get r j=aj.get b j):=by
 unfold rowOf at h;split at h
 .rename_i hc
  simp only[cK,beq_iff,fm] at hc;obtain⟨Es,aEu,aXH⟩:=hc;split at h
  .rename_i cols h1
   simp only[mI] at h;obtain⟨es,h2,rfl⟩:=h;have hl:=ak9 h1;subst hl;obtain⟨a1,a2⟩:=LQ h2;have hbs:=Qk Es;have hq:(b.length/cols.length)*cols.length=b.length:=Nat.div_mul_cancel (aEb aXH);refine⟨by rw[aj.size_cons,aj.lp,Sg.lu,jH,a1,Sz.val,hq,hbs],λj hj=> ?_⟩;rw[aj.dF (by rw[Sg.lu,a1,Sz.val,hq];omega),Sg.o9,a2,if_pos (by omega)];congr 1;omega
  .cases h
 .cases h
theorem aj.aS7 {a b c:aj}(h:a.app b=some c):aj.size c=aj.size a+aj.size b/\
  ∀j,j<aj.size a+aj.size b->aj.get c j=if j<aj.size a then aj.get a j else aj.get b (j-aj.size a):=by
 unfold aj.app at h;split at h
 .cases h;refine⟨by rw[aj.lp,gD],λj hj=>by rw[if_neg (by rw[aj.lp];omega),aj.lp,Nat.sub_zero]⟩
 .cases h;refine⟨by rw[aj.lp,jH],λj hj=> ?_⟩;rw[aj.lp,jH] at hj;rw[if_pos hj]
 .exact aEw h
 .split at h
  .rename_i h1
   obtain⟨e1,e2⟩:=ala h1;rw[(yH _).1] at e1 e2;have e2:=λj hj=>(e2 j hj).trans ((yH _).2 j hj)
   obtain⟨f1,f2⟩:=aEw h;refine⟨by rw[f1,e1],λj hj=> ?_⟩;rw[f2 j (by rw[e1];exact hj)];by_cases lC:j<aj.size a
   .rw[if_pos (by rw[e1];exact lC),if_pos lC,e2 j lC]
   .rw[if_neg (by rw[e1];exact lC),if_neg lC,e1]
  .cases h
 .split at h
  .cases h;exact⟨aj.size_append _ _,λj _=>aj.get_append _ _ _⟩
  .cases h
theorem Z0 (z:Nat)(b:aj):aj.size (asN z b)=aj.size b/\∀j,j<aj.size b->aj.get (asN z b) j=aj.get b j:=by
 have key:∀{r},rowOf z (tV b)=some r->aj.size r=aj.size b/\∀j,j<aj.size b->aj.get r j=aj.get b j:=λh=>by
  obtain⟨e1,e2⟩:=ala h;obtain⟨g1,g2⟩:=yH b;rw[g1] at e1 e2;exact⟨e1,λj hj=>(e2 j hj).trans (g2 j hj)⟩
 unfold asN;split
 .exact⟨rfl,λ_ _=>rfl⟩
 .split
  .exact⟨rfl,λ_ _=>rfl⟩
  .split
   .rename_i h;exact key h
   .exact⟨rfl,λ_ _=>rfl⟩
 .split
  .rename_i h;exact key h
  .exact⟨rfl,λ_ _=>rfl⟩
theorem alb:∀{tm:List Tm} {b r:aj},af4 tm b=some r->aj.size r=aj.size b/\∀j,j<aj.size b->aj.get r j=aj.get b j
 | [],[],r,h=>by cases h;exact⟨rfl,λ_ _=>rfl⟩
 | [],_::_,r,h=>by simp[af4] at h
 |.c::tm,[],r,h=>by simp[af4] at h
 |.c::tm,.a _ _::_,r,h=>by simp[af4] at h
 |.c::tm,.c v::b,r,h=>by
  simp only[af4,mI] at h;obtain⟨r',h1,rfl⟩:=h;obtain⟨e1,e2⟩:=alb h1;refine⟨by rw[aj.size_cons,aj.size_cons,e1],λj hj=> ?_⟩;rw[aj.size_cons,Sg.kh] at hj;cases j with
  |zero=>rfl
  |succ j=>
   rw[aj.kH (by rw[Sg.kh];omega),aj.kH (by rw[Sg.kh];omega)];exact e2 _ (by rw[Sg.kh];omega)
 |.a n z::tm,b,r,h=>by
  simp only[af4] at h;split at h
  .split at h
   .rename_i row h1
    simp only[mI] at h;obtain⟨r',h2,rfl⟩:=h;obtain⟨e1,e2⟩:=ala h1;obtain⟨f1,f2⟩:=alb h2;have hb:aj.size b=aj.size (b.take (n*z))+aj.size (b.drop (n*z)):=by rw[<-aj.size_append,List.take_append_drop]
    have hg:∀j,aj.get b j=if j<aj.size (b.take (n*z)) then aj.get (b.take (n*z)) j else aj.get (b.drop (n*z)) (j-aj.size (b.take (n*z))):=λj=>by rw[<-aj.get_append,List.take_append_drop]
    refine⟨by rw[aj.size_append,e1,f1,hb],λj hj=> ?_⟩;rw[aj.get_append,hg,e1];by_cases lC:j<aj.size (b.take (n*z))
    .rw[if_pos lC,if_pos lC,e2 j lC]
    .rw[if_neg lC,if_neg lC,f2 _ (by omega)]
   .cases h
  .cases h
theorem aQq (P:Program)(t:TypeId)(l:aj):aj.size (norm P t l)=aj.size l/\∀j,j<aj.size l->aj.get (norm P t l) j=aj.get l j:=by
 unfold norm;split
 .split
  .rename_i h;exact alb h
  .exact⟨rfl,λ_ _=>rfl⟩
 .split
  .exact⟨rfl,λ_ _=>rfl⟩
  .split
   .exact yH l
   .exact⟨rfl,λ_ _=>rfl⟩
theorem axQ (b:aj):aj.size (toS b)=aj.size b/\∀j,aj.get (toS b) j=aj.get b j:=by
 unfold toS;split
 .exact⟨rfl,λ_=>rfl⟩
 .exact⟨rfl,λ_=>rfl⟩
theorem Kd (f:CV->CV)(b:aj):aj.size (K0 f b)=aj.size b:=by
 induction b with
 |nil=>rfl
 |cons s r ih=>cases s<;>simp only[K0,aj.size_cons,ih]<;>rfl
theorem aDk (cols:List cS)(j:Nat):∃x,iB cols j=.f x:=by
 unfold iB;split<;>exact⟨_,rfl⟩
theorem axR {f:CV->CV}(hf:∀x,f (.f x)=.f x)(b:aj)(j:Nat)(hj:j<aj.size b):aj.get (K0 f b) j=f (aj.get b j):=by
 induction b generalizing j with
 |nil=>rw[aj.lp] at hj;omega
 |cons s r ih=>
  rw[aj.size_cons] at hj;cases s with
  |c v=>
   cases j with
   |zero=>rfl
   |succ j=>
    rw[K0,<-aj.kj (l:=K0 f r) (j':=j) (by omega) (by omega),<-aj.kj (l:=r) (j':=j) (by omega) (by omega)];exact ih j (by rw[Sg.kh] at hj;omega)
  |a n cols=>
   rw[K0];by_cases h:j<(Sg.a n cols).size
   .rw[aj.dF h,aj.dF h,Sg.o9];obtain⟨x,hx⟩:=aDk cols j;rw[hx,hf]
   .rw[aj.kH (by omega),aj.kH (by omega)];exact ih _ (by omega)
theorem FV.aXI {x y:FV}(h:x.same y=true):x=y:=by
 unfold FV.same at h;split at h
 .rw[eq_of_beq h]
 .simp only[cK,jG] at h;rw[h.1,eq_of_beq h.2]
 .cases h
theorem aQr {v:FV}{c:cS}(h:aKw v=some c)(j:Nat):c.at j=v:=by
 cases v<;>simp only[aKw] at h<;>cases h<;>rfl
theorem agd:∀{z:Nat} {b:aj} {cols:List cS},EM z b=some cols->∀i,i<z->∃c v,cols[i]? =some c/\b[i]? =some (.c (.f v))/\∀j,c.at j=v
 |0,b,cols,_,i,h=>by omega
 |z+1,[],cols,h,_,_=>by simp[EM] at h
 |z+1,.a _ _::_,cols,h,_,_=>by simp[EM] at h
 |z+1,.c v::r,cols,h,i,hi=>by
  cases v<;>simp only[EM] at h<;>first|(cases h;done)|skip
  split at h
  .rename_i c cs h1 h2
   cases h;cases i with
   |zero=>exact⟨c,_,rfl,rfl,aQr h1⟩
   |succ i=>simpa using agd h2 i (by omega)
  .cases h
theorem aqb {z:Nat}{row:aj}:∀{m:Nat} {b r:aj},Wo z row m b=some r->aj.size b=m+aj.size r/\(∀j,j<m->∃v,row[(m-1-j)%z]? =some (.c (.f v))/\aj.get b j=.f v)/\∀j,aj.get b (m+j)=aj.get r j
 |0,b,r,h=>by
  simp only[Wo,hM] at h;subst h;exact⟨by omega,λj hj=>by omega,λj=>by rw[gD]⟩
 |m+1,[],r,h=>by simp[Wo] at h
 |m+1,.a _ _::_,r,h=>by simp[Wo] at h
 |m+1,.c v::q,r,h=>by
  cases v<;>simp only[Wo] at h<;>first|(cases h;done)|skip
  rename_i v
  split at h
  .rename_i y hy
   split at h
   .rename_i hs
    have hs:=FV.aXI hs;subst hs;obtain⟨e1,e2,e3⟩:=aqb h;refine⟨by rw[aj.size_cons,Sg.kh,e1];omega,λj hj=> ?_,λj=> ?_⟩
    .cases j with
     |zero=>exact⟨v,by simpa using hy,rfl⟩
     |succ j=>
      obtain⟨v',h1,h2⟩:=e2 j (by omega);refine⟨v',by rw[show m+1-1-(j+1)=m-1-j by omega];exact h1,?_⟩;rw[<-aj.kj (l:=q) (j':=j) (by omega) (by omega)];exact h2
    .rw[<-aj.kj (l:=q) (j':=m+j) (by omega) (by omega)];exact e3 j
   .cases h
  .cases h
theorem alc:∀{tm:List Tm} {b r:aj},abL tm b=some r->aj.size r=aj.size b/\∀j,aj.get r j=aj.get b j
 | [],[],r,h=>by simp only[abL,hM] at h;subst h;exact⟨rfl,λ_=>rfl⟩
 | [],_::_,r,h=>by simp[abL] at h
 |.c::tm,[],r,h=>by simp[abL] at h
 |.c::tm,.a _ _::_,r,h=>by simp[abL] at h
 |.c::tm,.c v::q,r,h=>by
  simp only[abL,mI] at h;obtain⟨r',h1,rfl⟩:=h;obtain⟨e1,e2⟩:=alc h1;refine⟨by rw[aj.size_cons,aj.size_cons,e1],λj=> ?_⟩;cases j with
  |zero=>rfl
  |succ j=>rw[<-aj.kj (l:=r') (j':=j) (by omega) (by omega),<-aj.kj (l:=q) (j':=j) (by omega) (by omega),e2]
 |.a n z::tm,b,r,h=>by
  simp only[abL] at h;split at h
  .rename_i cols h1
   split at h
   .rename_i hz
    rw[fm] at hz;split at h
    .rename_i q h2
     simp only[mI] at h;obtain⟨r',h3,rfl⟩:=h;obtain⟨e1,e2⟩:=alc h3;obtain⟨f1,f2,f3⟩:=aqb h2;have hl:=ak9 h1;refine⟨by rw[aj.size_cons,Sg.lu,Sz.val,hl,e1,f1],λj=> ?_⟩;by_cases hj:j<n*z
     .rw[aj.dF (by rw[Sg.lu,Sz.val,hl];exact hj),Sg.o9];obtain⟨v,g1,g2⟩:=f2 j hj;rw[g2];unfold iB;rw[hl];have hm:=Nat.mod_lt j (show z>0 by omega);obtain⟨c,v',k1,k2,k3⟩:=agd h1 (j%z) hm;rw[k1];simp only[k3]
      have hlen:(b.take z).length=z:=by
       have:z<=b.length:=by
        obtain⟨_,_,_,k5,_⟩:=agd h1 (z-1) (by omega);have:=(lA.1 k5).1;omega
       simp;omega
      have a25:(n*z-1-j)%z=z-1-j%z:=by
       have hd:=Nat.div_add_mod j z;have hq:j/z<n:=(axD (by omega)).2 hj;obtain⟨t,ht⟩:∃t,n=j/z+1+t:=⟨n-(j/z+1),by omega⟩
       have:n*z-1-j=z*t+(z-1-j%z):=by
        have:n*z=z*(j/z)+z+z*t:=by rw[ht,abK,Nat.mul_add,Nat.mul_add,Nat.mul_one]
        omega
       rw[this,asL,axI (by omega)]
      rw[a25,List.getElem?_reverse (by omega),hlen,show z-1-(z-1-j%z)=j%z by omega,abH,if_pos hm,k2] at g1;cases g1;rfl
     .have e:aj.get (.a (.l n) cols::r') j=aj.get r' (j-n*z):=by
       rw[<-aj.qU (l:=r') (j':=j-n*z) (by rw[hl];omega) (by rw[hl])]
      rw[e,e2,<-f3];congr 1;omega
    .cases h
   .cases h
  .cases h
def bu {α β:Type}(R:α->β->Prop):List α->List β->Prop
 | [],[]=>True
 |a::l,b::m=>R a b/\bu R l m
 |_,_=>False
theorem bu.imp {α β:Type}{R S:α->β->Prop}(h:∀a b,R a b->S a b):∀{l:List α} {m:List β},bu R l m->bu S l m
 | [],[],_=>trivial
 |_::_,_::_,⟨a,b⟩=>⟨h _ _ a,bu.imp h b⟩
 | [],_::_,h=>h.elim
 |_::_,[],h=>h.elim
theorem bu.length {α β:Type}{R:α->β->Prop}:∀{l:List α} {m:List β},bu R l m->l.length=m.length
 | [],[],_=>rfl
 |_::_,_::_,⟨_,b⟩=>by simp[bu.length b]
 | [],_::_,h=>h.elim
 |_::_,[],h=>h.elim
theorem bu.append {α β:Type}{R:α->β->Prop}:∀{l:List α} {m:List β} {l':List α} {m':List β},bu R l m->bu R l' m'->bu R (l++l') (m++m')
 | [],[],_,_,_,h=>h
 |_::_,_::_,_,_,⟨a,b⟩,h=>⟨a,bu.append b h⟩
 | [],_::_,_,_,h,_=>h.elim
 |_::_,[],_,_,h,_=>h.elim
theorem bu.get {α β:Type}{R:α->β->Prop}:∀{l:List α} {m:List β},bu R l m->∀{i:Nat} {a:α},l[i]? =some a->∃b,m[i]? =some b/\R a b
 |a::l,b::m,⟨h,_⟩,0,x,e=>⟨b,rfl,by simp at e;exact e▸h⟩
 |a::l,b::m,⟨_,h⟩,i+1,x,e=>by simp at e ⊢;exact bu.get h e
 | [],_,_,i,a,e=>by simp at e
 |_::_,[],h,_,_,_=>h.elim
theorem bu.get' {α β:Type}{R:α->β->Prop}:∀{l:List α} {m:List β},bu R l m->∀{i:Nat} {b:β},m[i]? =some b->∃a,l[i]? =some a/\R a b
 |a::l,b::m,⟨h,_⟩,0,x,e=>⟨a,rfl,by simp at e;exact e▸h⟩
 |a::l,b::m,⟨_,h⟩,i+1,x,e=>by simp at e ⊢;exact bu.get' h e
 |_,[],_,i,a,e=>by simp at e
 | [],_::_,h,_,_,_=>h.elim
theorem bu.age {α β:Type}{R:α->β->Prop}:∀{l:List α} {m:List β},l.length=m.length->(∀(i:Nat) a b,l[i]? =some a->m[i]? =some b->R a b)->bu R l m
 | [],[],_,_=>trivial
 |a::l,b::m,e,h=>⟨h 0 a b rfl rfl,bu.age (by simpa using e) λi x y hx hy=>h (i+1) x y (by simpa using hx) (by simpa using hy)⟩
 | [],_::_,e,_=>by simp at e
 |_::_,[],e,_=>by simp at e
theorem bu.take {α β:Type}{R:α->β->Prop}:∀{l:List α} {m:List β} (n:Nat),bu R l m->bu R (l.take n) (m.take n)
 | [],[],n,_=>by simp[bu]
 |_::_,_::_,0,_=>by simp[bu]
 |_::_,_::_,n+1,⟨a,b⟩=>⟨a,bu.take n b⟩
 | [],_::_,_,h=>h.elim
 |_::_,[],_,h=>h.elim
theorem bu.drop {α β:Type}{R:α->β->Prop}:∀{l:List α} {m:List β} (n:Nat),bu R l m->bu R (l.drop n) (m.drop n)
 | [],[],n,_=>by simp[bu]
 |_::_,_::_,0,h=>h
 |_::_,_::_,n+1,⟨_,b⟩=>bu.drop n b
 | [],_::_,_,h=>h.elim
 |_::_,[],_,h=>h.elim
abbrev Pi:=Nat->Option (Nat×Nat×Nat×Nat)
def Ext (π π':Pi):Prop:=∀b p,π b=some p->π' b=some p
theorem Ext.refl (π:Pi):Ext π π:=λ_ _ h=>h
theorem Ext.trans {π π' π'':Pi}(h:Ext π π')(k:Ext π' π''):Ext π π'':=λb p e=>k b p (h b p e)
class aA where
 h0:Nat
 fs:Nat->Nat->Option Value
section
variable [aA]
def FV.rel:FV->Value->Prop
 |.u,x=>x.oneCell'=true
 |.b y,x=>x=.bool y
 |.i k n,x=>x=.int k n
 |.s y,x=>x=.string y
 |.q n g,x=>(n=0/\∃a,x=.slice a 0 0)∨∃B s cap,n<=cap/\x=.slice (some ⟨B,s,none⟩) n cap/\∀j,j<n->aA.fs B (s+j)=some (.bool (g j))
def CV.rel (π:Pi):CV->Value->Prop
 |.f v,x=>v.rel x
 |.ptr b o n,x=>∃B s q e,π b=some (B,s,q,e)/\x=.pointer (some ⟨B,s+o.val,none⟩)/\o.val+n<=q
 |.aiw,x=>x=.pointer none
 |.sl b o n z own,x=>∃B s q e,π b=some (B,s,q,e)/\o.val+n.val*z<=q/\(own=true->o.val+n.val*z=q)/\((n.val=0/\∃a,x=.slice a 0 0)∨∃cap,n.val<=cap/\x=.slice (some ⟨B,s+o.val,none⟩) n.val cap/\(own=true->s+o.val+cap*z<=e))
 |.nils,x=>x=.slice none 0 0
 |.aSc,x=>x=.nilFunc
 |.aSd,x=>x=.nilIface
 |.cl fid b o n,x=>∃B s q e,π b=some (B,s,q,e)/\x=.func (.func fid) #[] #[.pointer (some ⟨B,s+o.val,none⟩)]/\o.val+n<=q
 |.fs n z cols,x=>cols.length=z/\((n=0/\∃a,x=.slice a 0 0)∨∃B s cap,n<=cap/\x=.slice (some ⟨B,s,none⟩) n cap/\∀j,j<n*z->∃f v,iB cols j=.f f/\aA.fs B (s+j)=some v/\f.rel v)
 |.fp l,x=>∃B s,x=.pointer (some ⟨B,s,none⟩)/\∀j f,l[j]? =some f->∃v,aA.fs B (s+j)=some v/\f.rel v
def RV.rel (π:Pi):RV->Value->Prop
 |.c v,x=>v.rel π x
 |.agg cs,x=>∃a:Array Value,x=.agg a/\bu (CV.rel π) cs.list a.toList
def AV.rel (π:Pi):AV->Value->Prop
 |.r v,x=>v.rel π x
 |.tup vs,x=>∃a:Array Value,x=.tuple a/\bu (RV.rel π) vs a.toList
 |.fn f vs,x=>∃a:Array Value,x=.func (.func f) #[] a/\bu (RV.rel π) vs a.toList
 |.Wl,_=>True
theorem FV.Rf {v:FV}{x:Value}(h:v.rel x):x.oneCell'=true:=by
 cases v with
 |q n g=>
  simp only[FV.rel] at h;obtain⟨_,_,rfl⟩| ⟨_,_,_,_,rfl,_⟩:=h<;>rfl
 |_=>simp[FV.rel] at h<;>first|exact h|(subst h;rfl)
theorem CV.Rf {π:Pi}{v:CV}{x:Value}(h:v.rel π x):x.oneCell'=true:=by
 cases v<;>simp only[CV.rel] at h
 case f v=>exact FV.Rf h
 case ptr=>obtain⟨_,_,_,_,_,rfl,_⟩:=h;rfl
 case cl=>obtain⟨_,_,_,_,_,rfl,_⟩:=h;rfl
 case fs=>obtain⟨_,⟨_,_,rfl⟩| ⟨_,_,_,_,rfl,_⟩⟩:=h<;>rfl
 case fp=>obtain⟨_,_,rfl,_⟩:=h;rfl
 case sl=>obtain⟨_,_,_,_,_,_,_,⟨_,_,rfl⟩| ⟨_,_,rfl,_⟩⟩:=h<;>rfl
 all_goals (subst h;rfl)
theorem CV.dz {π π':Pi}(h:Ext π π')(v:CV)(x:Value)(r:v.rel π x):v.rel π' x:=by
 cases v<;>simp only[CV.rel] at r ⊢
 case ptr=>obtain⟨B,s,q,e,hb,hx⟩:=r;exact⟨B,s,q,e,h _ _ hb,hx⟩
 case cl=>obtain⟨B,s,q,e,hb,hx⟩:=r;exact⟨B,s,q,e,h _ _ hb,hx⟩
 case sl=>obtain⟨B,s,q,e,hb,hx⟩:=r;exact⟨B,s,q,e,h _ _ hb,hx⟩
 all_goals exact r
theorem RV.dz {π π':Pi}(h:Ext π π')(v:RV)(x:Value)(r:v.rel π x):v.rel π' x:=by
 cases v<;>simp only[RV.rel] at r ⊢
 case c=>exact CV.dz h _ _ r
 case agg=>obtain⟨a,hx,ha⟩:=r;exact⟨a,hx,ha.imp (CV.dz h)⟩
theorem AV.dz {π π':Pi}(h:Ext π π')(v:AV)(x:Value)(r:v.rel π x):v.rel π' x:=by
 cases v<;>simp only[AV.rel] at r ⊢
 case r=>exact RV.dz h _ _ r
 case tup=>obtain⟨a,hx,ha⟩:=r;exact⟨a,hx,ha.imp (RV.dz h)⟩
 case fn=>obtain⟨a,hx,ha⟩:=r;exact⟨a,hx,ha.imp (RV.dz h)⟩
omit [aA] in
theorem aQs {x:Value}(h:x.oneCell'=true):x.cells=#[x]:=by
 cases x<;>simp_all [Value.oneCell',Value.cells]
omit [aA] in
theorem aS8 (v:CV):aj.list [.c v]=[v]:=rfl
theorem RV.OA {π:Pi}{v:RV}{x:Value}(h:v.rel π x):bu (CV.rel π) v.bY.list x.cells.toList:=by
 cases v<;>simp only[RV.rel] at h
 case c v=>rw[aQs (CV.Rf h)];exact⟨h,trivial⟩
 case agg=>obtain⟨a,rfl,ha⟩:=h;exact ha
structure Gt where
 t:Nat->AV
 c:Nat->Nat->CV
 z:Nat->Option Nat
noncomputable def St.gt (s:St):Gt where
 t:=s.tmp
 c:=λb j=>match s.bY b with
  |some k=>if j<k.size then k.get j else .f .u
  |none=>.f .u
 z:=λb=>(s.bY b).map aj.size
inductive Pt where
 |t (i:Nat)
 |c (b j:Nat)
 |z (b:Nat)
inductive PV where
 |t (v:AV)
 |c (v:CV)
 |z (v:Option Nat)
def Gt.at (g:Gt):Pt->PV
 |.t i=>.t (g.t i)
 |.c b j=>.c (g.c b j)
 |.z b=>.z (g.z b)
omit [aA] in
theorem Gt.aSv {g g':Gt}(h:∀p,g.at p=g'.at p):g=g':=by
 cases g with|mk t c z=>cases g' with|mk t' c' z'=>
 have h1:t=t':=funext λi=>by simpa[Gt.at] using h (.t i)
 have h2:c=c':=funext λb=>funext λj=>by simpa[Gt.at] using h (.c b j)
 have h3:z=z':=funext λb=>by simpa[Gt.at] using h (.z b)
 subst h1 h2 h3;rfl
def inX (r:Option (Nat×Nat))(j:Nat):Prop:=
 match r with
 |some (lo,n)=>lo<=j/\j<lo+n
 |none=>True
def Fp.has:Fp->Pt->Prop
 |.t i,.t j=>i=j
 |.c b r,.c b' j=>b=b'/\inX r j
 |.z b,.z b'=>b=b'
 |_,_=>False
def Up.H4:Up->Pt->Prop
 |.t i _,.t j=>i=j
 |.c b o v,.c b' j=>b=b'/\o.val<=j/\j<o.val+aj.size v
 |.new b _,.c b' _|.kill b,.c b' _|.new b _,.z b'|.kill b,.z b'=>b=b'
 |_,_=>False
omit [aA] in
theorem aKD:∀{v:aj} {n:Nat},szL v=some n->aj.size v=n
 | [],n,h=>by simp only[szL,hM] at h;rw[<-h];rfl
 |.c _::r,n,h=>by
  simp only[szL,mI] at h;obtain⟨m,h1,rfl⟩:=h;rw[aj.size_cons,Sg.kh,aKD h1]
 |.a (.l k) cols::r,n,h=>by
  simp only[szL,mI] at h;obtain⟨m,h1,rfl⟩:=h;rw[aj.size_cons,Sg.lu,aKD h1];rfl
 |.a (.s _) _::_,n,h=>by simp[szL] at h
omit [aA] in
theorem aEx {o:cG}{v:aj}{j:Nat}(h1:o.val<=j)(h2:j<o.val+aj.size v):inX (aMI o v) j:=by
 unfold aMI;split
 .rename_i c
  cases hs:szL v with
  |none=>trivial
  |some n=>
   have:=aKD hs;simp only[SP,inX];simp only[cG.val] at h1 h2;omega
 .trivial
omit [aA] in
theorem aZz {o:cG}{cH:Sz}{z j:Nat}(h:j<cH.val*z):inX (ext o cH z) (o.val+j):=by
 unfold ext;split
 .simp only[inX,cG.val];simp only[Sz.val] at h;omega
 .trivial
omit [aA] in
theorem aMT {r r':Option (Nat×Nat)}{j:Nat}(h1:inX r j)(h2:inX r' j):meet r r'=true:=by
 unfold meet;split
 .simp only[inX] at h1 h2;simp only[ovl,cK,um];omega
 .rfl
omit [aA] in
theorem Fp.aEy {fp:Fp}{u:Up}{p:Pt}(h1:fp.has p)(h2:u.H4 p):fp.azI u=true:=by
 cases fp<;>cases u<;>cases p<;>simp only[Fp.has,Up.H4,Fp.azI,beq_iff,cK] at* <;>first|omega|skip
 .exact⟨by omega,aMT h1.2 (aEx h2.2.1 h2.2.2)⟩
omit [aA] in
theorem Up.aEy {u u':Up}{p:Pt}(h1:u.H4 p)(h2:u'.H4 p):u.azI u'=true:=by
 cases u<;>cases u'<;>cases p<;>simp only[Up.H4,Up.azI,beq_iff,cK] at* <;>first|omega|skip
 .exact⟨by omega,aMT (aEx h1.2.1 h1.2.2) (aEx h2.2.1 h2.2.2)⟩
def Up.gG (u:Up)(g:Gt):Gt:=
 match u with
 |.t i v=>{g with t:=λj=>if j=i then v else g.t j}
 |.c b o v=>{g with c:=λb' j=>if b'=b/\o.val<=j/\j<o.val+aj.size v then aj.get v (j-o.val) else g.c b' j}
 |.new b k=>{g with c:=λb' j=>if b'=b then(if j<k.size then k.get j else .f .u) else g.c b' j,z:=λb'=>if b'=b then some k.size else g.z b'}
 |.kill b=>{g with c:=λb' j=>if b'=b then .f .u else g.c b' j,z:=λb'=>if b'=b then none else g.z b'}
omit [aA] in
theorem Up.SX {u:Up}{g:Gt}{p:Pt}(h:¬u.H4 p):(u.gG g).at p=g.at p:=by
 cases u<;>cases p<;>simp_all [Up.H4,Up.gG,Gt.at]<;>first|(intro a;exact absurd a.symm (by assumption))|(intros;omega)|(intro a;subst a;simp_all)
omit [aA] in
theorem Up.aMU {u:Up}{g g':Gt}{p:Pt}(h:u.H4 p):(u.gG g).at p=(u.gG g').at p:=by
 cases u<;>cases p<;>simp_all [Up.H4,Up.gG,Gt.at]
def cI (us:List Up)(g:Gt):Gt:=us.foldl (λg u=>u.gG g) g
omit [aA] in
theorem qV:∀{us:List Up} {g:Gt} {p:Pt},(∀u∈us,¬u.H4 p)->(cI us g).at p=g.at p
 | [],_,_,_=>rfl
 |u::us,g,p,h=>by
  show(cI us (u.gG g)).at p=_;rw[qV λv hv=>h v (by simp[hv]),Up.SX (h u (by simp))]
omit [aA] in
theorem agf:∀{us:List Up} {g g':Gt} {p:Pt},(∃u∈us,u.H4 p)∨g.at p=g'.at p->(cI us g).at p=(cI us g').at p
 | [],g,g',p,h=>by
  rcases h with⟨u,hu,_⟩|h
  .simp at hu
  .exact h
 |u::us,g,g',p,h=>by
  show(cI us (u.gG g)).at p=(cI us (u.gG g')).at p;apply agf
  by_cases hu:u.H4 p
  .exact .inr (Up.aMU hu)
  .rcases h with⟨v,hv,ht⟩|h
   .rcases abJ.1 hv with rfl|hv
    .exact absurd ht hu
    .exact .inl ⟨v,hv,ht⟩
   .exact .inr (by rw[Up.SX hu,Up.SX hu,h])
inductive aI {α:Type}:Rd α->Gt->α->List Fp->Prop where
 |ret (a:α) (g:Gt):aI (.ret a) g a []
 |tm {i:Nat} {k:AV->Rd α} {g:Gt} {a:α} {l:List Fp} (h:aI (k (g.t i)) g a l):aI (.tm i k) g a (.t i::l)
 |vw {b:Nat} {o:cG} {cH:Sz} {z:Nat} {k:aj->Rd α} {g:Gt} {a:α} {l:List Fp} (q:Nat) (v:aj) (hz:g.z b=some q) (hs:aj.size v=cH.val*z) (hv:o.val+cH.val*z<=q->∀j,j<cH.val*z->aj.get v j=g.c b (o.val+j)) (h:aI (k v) g a l):aI (.vw b o cH z k) g a (.c b (ext o cH z):: .z b::l)
 |sz {b:Nat} {k:Rd α} {g:Gt} {a:α} {l:List Fp} (q:Nat) (hz:g.z b=some q) (h:aI k g a l):aI (.sz b k) g a (.z b::l)
 |test {x:Bool} {k:Bool->Rd α} {g:Gt} {a:α} {l:List Fp} (h:aI (k x) g a l):aI (.test x k) g a l
 |opt {E:Type} {x:Option E} {k:E->Rd α} {d:E} {g:Gt} {a:α} {l:List Fp} (hx:x=some d) (h:aI (k d) g a l):aI (.opt x k) g a l
omit [aA] in
theorem aI.local {α:Type}{m:Rd α}{g g':Gt}{a:α}{l:List Fp}(h:aI m g a l):(∀fp∈l,∀p,fp.has p->g.at p=g'.at p)->aI m g' a l:=by
 induction h with
 |ret a g=>intro _;exact .ret _ _
 |@tm i k g a l h ih=>
  intro e;have e1:g.t i=g'.t i:=by simpa[Gt.at] using e (.t i) (by simp) (.t i) rfl
  exact .tm (e1▸ih λfp hf=>e fp (by simp[hf]))
 |@vw b o cH z k g a l q v hz hs hv h ih=>
  intro e;have e1:g.z b=g'.z b:=by simpa[Gt.at] using e (.z b) (by simp) (.z b) rfl
  refine .vw q v (e1▸hz) hs (λhle j hj=> ?_) (ih λfp hf=>e fp (by simp[hf]));rw[hv hle j hj];simpa[Gt.at] using e (.c b (ext o cH z)) (by simp) (.c b (o.val+j)) ⟨rfl,aZz hj⟩
 |@sz b k g a l q hz h ih=>
  intro e;have e1:g.z b=g'.z b:=by simpa[Gt.at] using e (.z b) (by simp) (.z b) rfl
  exact .sz q (e1▸hz) (ih λfp hf=>e fp (by simp[hf]))
 |test h ih=>intro e;exact .test (ih e)
 |opt hx h ih=>intro e;exact .opt hx (ih e)
omit [aA] in
theorem aI.bind {α β:Type}{m:Rd α}{f:α->Rd β}{g:Gt}{b:β}{l:List Fp}(h:aI (m.bind f) g b l):
  ∃a l1 l2,aI m g a l1/\aI (f a) g b l2/\l=l1++l2:=by
 induction m generalizing l with
 |ret a=>exact⟨a,[],l,.ret _ _,h,rfl⟩
 |fail=>cases h
 |tm i k ih=>cases h with|tm h=>obtain⟨a,l1,l2,h1,h2,e⟩:=ih _ h;exact⟨a,_,l2,.tm h1,h2,by simp[e]⟩
 |vw b o cH z k ih=>cases h with|vw q v hz hs hv h=>obtain⟨a,l1,l2,h1,h2,e⟩:=ih _ h;exact⟨a,_,l2,.vw q v hz hs hv h1,h2,by simp[e]⟩
 |sz b k ih=>cases h with|sz q hz h=>obtain⟨a,l1,l2,h1,h2,e⟩:=ih h;exact⟨a,_,l2,.sz q hz h1,h2,by simp[e]⟩
 |opt x k ih=>cases h with|opt hx h=>obtain⟨a,l1,l2,h1,h2,e⟩:=ih _ h;exact⟨a,_,l2,.opt hx h1,h2,by simp[e]⟩
 |test x k ih=>cases h with|test h=>obtain⟨a,l1,l2,h1,h2,e⟩:=ih _ h;exact⟨a,_,l2,.test h1,h2,by simp[e]⟩
omit [aA] in
theorem aI.bind' {α β:Type}{m:Rd α}{f:α->Rd β}{g:Gt}{b:β}{l:List Fp}(h:aI (m.bind f) g b l):
  ∃a,(∃l1,aI m g a l1)/\∃l2,aI (f a) g b l2:=by
 obtain⟨a,l1,l2,h1,h2,_⟩:=h.bind;exact⟨a,⟨l1,h1⟩,l2,h2⟩
omit [aA] in
theorem St.aqc {s:St}{b:Nat}{k:aj}(h:s.bY b=some k):s.gt.z b=some k.size:=by simp[St.gt,h]
omit [aA] in
theorem St.aSw {s:St}{b j:Nat}{k:aj}(h:s.bY b=some k)(hj:j<k.size):s.gt.c b j=k.get j:=by simp[St.gt,h,hj]
omit [aA] in
theorem Rd.aQt {α ρ:Type}{m:Rd α}{s:St}{k:α->List Fp->Option ρ}{r:ρ}:∀{l:List Fp},m.run s l k=some r->
  ∃a fp,aI m s.gt a fp/\k a (fp.reverse++l)=some r:=by
 induction m with
 |ret a=>intro l h;exact⟨a,[],.ret _ _,h⟩
 |fail=>intro l h;simp[Rd.run] at h
 |tm i f ih=>
  intro l h;obtain⟨a,fp,h1,h2⟩:=ih _ h;exact⟨a,.t i::fp,.tm h1,by simpa using h2⟩
 |vw b o cH z f ih=>
  intro l h;simp only[Rd.run] at h;split at h
  .rename_i bY hb
   split at h
   .rename_i p hp
    split at h
    .rename_i hg
     obtain⟨a,fp,h1,h2⟩:=ih _ h;obtain⟨g,v⟩:=p;simp only at hg h1;subst hg;obtain⟨e1,e2⟩:=aj.axP hp;exact⟨a,.c b (ext o cH z):: .z b::fp,.vw (aj.size bY) _ (St.aqc hb) e1 (λhle j hj=>(e2 hle j hj).trans (St.aSw hb (by omega)).symm) h1,by simpa using h2⟩
    .simp at h
   .simp at h
  .simp at h
 |sz b f ih=>
  intro l h;simp only[Rd.run] at h;split at h
  .rename_i bY hb
   obtain⟨a,fp,h1,h2⟩:=ih h;exact⟨a,.z b::fp,.sz (aj.size bY) (St.aqc hb) h1,by simpa using h2⟩
  .simp at h
 |test x f ih=>
  intro l h;cases x
  .obtain⟨a,fp,h1,h2⟩:=ih _ h;exact⟨a,fp,.test h1,h2⟩
  .obtain⟨a,fp,h1,h2⟩:=ih _ h;exact⟨a,fp,.test h1,h2⟩
 |opt x f ih=>
  intro l h;cases x with
  |none=>cases h
  |some d=>obtain⟨a,fp,h1,h2⟩:=ih d (l:=l) h;exact⟨a,fp,.opt rfl h1,h2⟩
omit [aA] in
theorem aS9 {α:Type}(l:List α)(i j:Nat)(v d:α)(h:i<l.length):(l.set i v).getD j d=if j=i then v else l.getD j d:=by
 simp only[List.getD,aEf];by_cases e:i=j
 .subst e;simp[h]
 .simp[e,Ne.symm e]
omit [aA] in
theorem A9 (l:List AV)(i:Nat):ak3 l i=l.getD i udf:=by
 induction l generalizing i with
 |nil=>rfl
 |cons a l ih=>
  cases i with
  |zero=>rfl
  |succ i=>exact(ih i).trans (by simp[List.getD])
omit [aA] in
theorem ald {α ρ:Type}(l:List α)(i:Nat)(v:α)(k:List α->Option ρ):azG l i v k=if i<l.length then k (l.set i v) else none:=by
 induction l generalizing i k with
 |nil=>rfl
 |cons a l ih=>
  cases i with
  |zero=>rfl
  |succ i=>
   have:azG (a::l) (i+1) v k=azG l i v λl'=>k (a::l'):=rfl
   rw[this,ih];simp
omit [aA] in
theorem auI {l:List (Option aj)}{b b':Nat}{x:Option aj}(h:b<l.length):((l.set b x)[b']?).getD none=if b'=b then x else(l[b']?).getD none:=by
 simp only[aEf];by_cases e:b=b'
 .subst e;simp[h]
 .simp[e,Ne.symm e]
omit [aA] in
theorem St.aKE {s:St}{b:Nat}{k:aj}(h:s.bY b=some k):b<s.heap.length:=by
 rcases mJ b s.heap.length with h'|h'
 .exact h'
 .simp[St.bY,J' h'] at h
omit [aA] in
theorem aMV {l:List (Option aj)}{b':Nat}{x:Option aj}:((l++[x])[b']?).getD none=if b'=l.length then x else(l[b']?).getD none:=by
 rw[List.getElem?_append];by_cases h:b'<l.length
 .simp[h,Nat.ne_of_lt h]
 .by_cases e:b'=l.length
  .subst e;simp
  .rw[if_neg h,if_neg e,J' (by simp;omega),J' (by omega)]
omit [aA] in
theorem Up.aZA {s:St}{u:Up}(k:Nat)(h:u.ok s=true):(u.app k s).gt=u.gG s.gt:=by
 apply Gt.aSv
 intro p;cases u with
 |t i v=>
  have hi:i<s.tmps.length:=by have h:=h;simp[Up.ok,Nat.blt] at h;omega
  cases p<;>simp only[Gt.at,Up.app,Up.gG,St.gt,St.tmp,St.bY,PV.t.injEq]
  rw[A9,A9];exact aS9 _ _ _ _ _ hi
 |c b o v=>
  simp only[Up.ok] at h;split at h
  .rename_i bY hb
   split at h
   .rename_i p' hp
    obtain⟨g',nb⟩:=p';simp only[cK,fm] at h;obtain⟨rfl,hle⟩:=h;obtain⟨yG,ale⟩:=aj.aS6 hp;have nC:=St.aKE hb;have Z1:∀b',St.bY {s with heap:=s.heap.set b (some nb),dh:=mark k b s.dh} b'=if b'=b then some nb else s.bY b':=λb'=>auI nC
    cases p with
    |t j=>simp only[Gt.at,Up.app,Up.gG,St.gt,hb,St.tmp,hp]
    |c b' j=>
     simp only[Gt.at,Up.app,Up.gG,St.gt,hb,PV.c.injEq,hp,Z1];by_cases e:b'=b
     .subst e;simp only[lr,hb,yG,AI];by_cases hj:j<aj.size bY
      .simp only[hj,lr,ale j hj]
      .simp only[hj,fT];rw[if_neg (by omega)]
     .simp only[e,fT,false_and]
    |z b'=>
     simp only[Gt.at,Up.app,Up.gG,St.gt,hb,PV.z.injEq,hp,Z1];by_cases e:b'=b
     .subst e;simp[hb,yG]
     .simp[e]
   .simp at h
  .simp at h
 |new b bY=>
  have hb:b=s.heap.length:=lB h;have Z1:∀b',St.bY {s with heap:=s.heap++[some bY]} b'=if b'=b then some bY else s.bY b':=λb'=>by rw[hb];exact aMV
  cases p with
  |t j=>simp only[Gt.at,Up.app,Up.gG,St.gt,St.tmp]
  |c b' j=>
   simp only[Gt.at,Up.app,Up.gG,St.gt,PV.c.injEq,Z1];by_cases e:b'=b<;>simp[e]
  |z b'=>
   simp only[Gt.at,Up.app,Up.gG,St.gt,PV.z.injEq,Z1];by_cases e:b'=b<;>simp[e]
 |kill b=>
  have hb:b<s.heap.length:=by have h:=h;simp[Up.ok,Nat.blt] at h;omega
  have Z1:∀b',St.bY {s with heap:=s.heap.set b none,dh:=mark k b s.dh} b'=if b'=b then none else s.bY b':=λb'=>auI hb
  cases p with
  |t j=>simp only[Gt.at,Up.app,Up.gG,St.gt,St.tmp]
  |c b' j=>
   simp only[Gt.at,Up.app,Up.gG,St.gt,PV.c.injEq,Z1];by_cases e:b'=b<;>simp[e]
  |z b'=>
   simp only[Gt.at,Up.app,Up.gG,St.gt,PV.z.injEq,Z1];by_cases e:b'=b<;>simp[e]
omit [aA] in
theorem OB {k:Nat}:∀{us:List Up} {s s':St},jJ k us s=some s'->s'.gt=cI us s.gt
 | [],s,s',h=>by simp[jJ] at h;subst h;rfl
 |u::us,s,s',h=>by
  simp only[jJ] at h;split at h
  .rename_i hu
   rw[OB h,Up.aZA k hu];rfl
  .simp at h
end
theorem Ws {α ρ:Type}(l:List α)(k:List α->ρ):af7 l k=k l:=by
 induction l generalizing k with
 |nil=>rfl
 |cons a l ih=>exact ih λl=>k (a::l)
theorem aEz {ρ:Type}(o:cG)(k:cG->ρ):auw o k=k o:=by cases o<;>rfl
theorem aEA {ρ:Type}(o:Sz)(k:Sz->ρ):aKB o k=k o:=by cases o<;>rfl
theorem aEB {ρ:Type}(o:FV)(k:FV->ρ):aDh o k=k o:=by cases o<;>rfl
theorem aKF {ρ:Type}(o:cS)(k:cS->ρ):axM o k=k o:=by cases o<;>rfl
theorem aqd {ρ:Type}(l:List cS)(k:List cS->ρ):Wp l k=k l:=by
 induction l generalizing k with
 |nil=>rfl
 |cons a l ih=>
  have:Wp (a::l) k=axM a λa=>Wp l λl=>k (a::l):=rfl
  rw[this,aKF,ih]
theorem aMW {ρ:Type}(l:List FV)(k:List FV->ρ):auy l k=k l:=by
 induction l generalizing k with
 |nil=>rfl
 |cons a l ih=>
  have:auy (a::l) k=aDh a λa=>auy l λl=>k (a::l):=rfl
  rw[this,aEB,ih]
theorem aEC {ρ:Type}(o:CV)(k:CV->ρ):aDi o k=k o:=by
 cases o<;>simp only[aDi,aEB,aEz,aEA,aqd,aMW]
theorem aMX {ρ:Type}(o:Sg)(k:Sg->ρ):auz o k=k o:=by
 cases o<;>simp only[auz,aEC,aEA,aqd]
theorem agh {ρ:Type}(l:aj)(k:aj->ρ):ZX l k=k l:=by
 induction l generalizing k with
 |nil=>rfl
 |cons a l ih=>
  have:ZX (a::l) k=auz a λa=>ZX l λl=>k (a::l):=rfl
  rw[this,aMX,ih]
theorem aED {ρ:Type}(o:RV)(k:RV->ρ):auA o k=k o:=by
 cases o<;>simp only[auA,aEC,agh]
theorem aMY {ρ:Type}(l:List RV)(k:List RV->ρ):ak6 l k=k l:=by
 induction l generalizing k with
 |nil=>rfl
 |cons a l ih=>
  have:ak6 (a::l) k=auA a λa=>ak6 l λl=>k (a::l):=rfl
  rw[this,aED,ih]
theorem aEE {ρ:Type}(o:AV)(k:AV->ρ):auB o k=k o:=by
 cases o<;>simp only[auB,aED,aMY]
theorem aQu {ρ:Type}(o:Up)(k:Up->ρ):aDj o k=k o:=by
 cases o<;>simp only[aDj,aEE,aEz,agh]
theorem aMZ {ρ:Type}(l:List Up)(k:List Up->ρ):auC l k=k l:=by
 induction l generalizing k with
 |nil=>rfl
 |cons a l ih=>
  have:auC (a::l) k=aDj a λa=>auC l λl=>k (a::l):=rfl
  rw[this,aQu,ih]
theorem aM0 {ρ:Type}(l:List AV)(k:List AV->ρ):auD l k=k l:=by
 induction l generalizing k with
 |nil=>rfl
 |cons a l ih=>
  have:auD (a::l) k=auB a λa=>auD l λl=>k (a::l):=rfl
  rw[this,aEE,ih]
theorem aM1 {ρ:Type}(o:Option aj)(k:Option aj->ρ):auE o k=k o:=by
 cases o<;>simp only[auE,agh]
theorem aM2 {ρ:Type}(l:List (Option aj))(k:List (Option aj)->ρ):auF l k=k l:=by
 induction l generalizing k with
 |nil=>rfl
 |cons a l ih=>
  have:auF (a::l) k=auE a λa=>auF l λl=>k (a::l):=rfl
  rw[this,aM1,ih]
theorem LS {ρ:Type}(s:St)(k:St->ρ):yo s k=k s:=by
 unfold yo;simp only[Ws,aM0,aM2]
theorem Up.aEF {ρ:Type}(k:Nat)(u:Up)(s:St)(c:St->Option ρ):u.adK k s c=match u.ok s with
  |true=>c (u.app k s)
  |false=>none:=by
 cases u with
 |t i v=>
  simp only[Up.adK,ald,Up.ok,Up.app];by_cases h:i<s.tmps.length
  .rw[if_pos h,um.2 h]
  .rw[if_neg h,af8 h]
 |c b o v=>
  simp only[Up.adK,Up.ok,Up.app,agh,Ws,ald];split
  .rename_i bY hb
   have nC:b<s.heap.length:=St.aKE hb;split
   .rename_i p hp
    split<;>rename_i hg<;>simp only[hb,hp,hg,nC,lr]
   .rename_i hp;simp only[hb,hp]
  .rename_i hb;simp only[hb]
 |new b bY=>
  simp only[Up.adK,Up.ok,Up.app,Ws];cases Nat.beq b s.heap.length<;>rfl
 |kill b=>
  simp only[Up.adK,ald,Up.ok,Up.app,Ws];by_cases h:b<s.heap.length
  .rw[if_pos h,um.2 h]
  .rw[if_neg h,af8 h]
theorem aEF {ρ:Type}(k:Nat)(us:List Up)(s:St)(c:St->Option ρ):adK k us s c=match jJ k us s with
  |some s'=>c s'
  |none=>none:=by
 induction us generalizing s with
 |nil=>rfl
 |cons u us ih=>
  have:adK k (u::us) s c=u.adK k s λs=>adK k us s c:=rfl
  rw[this,Up.aEF,jJ];split
  .rename_i h;simp only[h,ih]
  .rename_i h;simp only[h]
end Go.Ab
namespace Go.Ab
structure cx (w0:World)(S:Nat->Nat->Prop)(w:World):Prop where
 os:w.os=w0.os
 tape:w.tape=w0.tape
 output:w.output=w0.output
 size:w0.heap.size<=w.heap.size
 obj:∀B:Nat,B<w0.heap.size->(∀c t fz,w0.heap[B]? ≠some (.cells c t fz))->w.heap[B]? =w0.heap[B]?
 fzn:∀a,w.frozen? a=w0.frozen? a
 row:∀(B:Nat) c t fz,w0.heap[B]? =some (.cells c t fz)->∃c',w.heap[B]? =some (.cells c' t fz)/\c'.size=c.size/\∀i:Nat,¬S B i->c'[i]? =c[i]?
theorem cx.refl (w:World)(S:Nat->Nat->Prop):cx w S w:=
 ⟨rfl,rfl,rfl,cR _,λ_ _ _=>rfl,λ_=>rfl,λ_ c _ _ h=>⟨c,h,rfl,λ_ _=>rfl⟩⟩
theorem cx.mono {w0 w:World}{S S':Nat->Nat->Prop}(h:cx w0 S w)(hs:∀B i,B<w0.heap.size->S B i->S' B i):cx w0 S' w:=
 ⟨h.os,h.tape,h.output,h.size,h.obj,h.fzn,λB c t fz hb=>by
  obtain⟨c',h1,h2,h3⟩:=h.row B c t fz hb;refine⟨c',h1,h2,λi hi=>h3 i λhS=>hi (hs B i ?_ hS)⟩;rcases mJ B w0.heap.size with h'|h'
  .exact h'
  .rw[asG h'] at hb;cases hb⟩
theorem cx.trans {w0 w w':World}{S S':Nat->Nat->Prop}(h:cx w0 S w)(h':cx w S' w')(hs:∀B i,B<w0.heap.size->S' B i->S B i):cx w0 S w':=by
 refine⟨h'.os.trans h.os,h'.tape.trans h.tape,h'.output.trans h.output,cQ h.size h'.size,λB hB hn=> ?_,λa=>(h'.fzn a).trans (h.fzn a),λB c t fz hb=> ?_⟩
 .have e:=h.obj B hB hn;rw[<-e];exact h'.obj B (aEe hB h.size) (by rw[e];exact hn)
 .obtain⟨c1,e1,z1,k1⟩:=h.row B c t fz hb;obtain⟨c2,e2,z2,k2⟩:=h'.row B c1 t fz e1
  have hB:B<w0.heap.size:=by
   rcases mJ B w0.heap.size with h'|h'
   .exact h'
   .rw[asG h'] at hb;cases hb
  exact⟨c2,e2,z2.trans z1,λi hi=>(k2 i λhS=>hi (hs B i hB hS)).trans (k1 i hi)⟩
theorem cx.drew {w0 w:World}{S:Nat->Nat->Prop}(h:cx w0 S w):cx w0 S {w with drawn:=w.drawn+1}:=⟨h.os,h.tape,h.output,h.size,h.obj,h.fzn,h.row⟩
theorem Wt (w:World)(c:Array Value)(t:TypeId)(a:Addr):(w.alloc (.cells c t)).frozen? a=w.frozen? a:=by
 by_cases h:a.block=w.heap.size
 .have e1:(w.alloc (.cells c t)).heap[a.block]? =some (.cells c t):=by
   rw[h];show(w.heap.push _)[w.heap.size]? =_;simp
  have e2:w.heap[a.block]? =none:=by rw[h];simp
  simp[World.frozen?,e1,e2]
 .exact World.frozen?_alloc_old _ _ _ h
theorem cx.alloc {w0 w:World}{S:Nat->Nat->Prop}(h:cx w0 S w)(cs:Array Value)(ty:TypeId):cx w0 S (w.alloc (.cells cs ty)):=by
 generalize ho:Obj.cells cs ty=o
 have nC:∀(B:Nat),B<w0.heap.size->(w.alloc o).heap[B]? =w.heap[B]? :=λB hB=>by
  show(w.heap.push o)[B]? =_;rw[Array.getElem?_push,if_neg (by have:=h.size;omega)]
 refine⟨h.os,h.tape,h.output,by rw[World.size_alloc];have:=h.size;omega,λB hB hn=>(nC B hB).trans (h.obj B hB hn),λa=>by rw[<-ho,Wt];exact h.fzn a,λB c t fz hb=> ?_⟩
 have hB:B<w0.heap.size:=by
  rcases mJ B w0.heap.size with h'|h'
  .exact h'
  .rw[asG h'] at hb;cases hb
 rw[nC B hB];exact h.row B c t fz hb
theorem cx.setCell {w0 w:World}{S:Nat->Nat->Prop}(h:cx w0 S w){B i:Nat}(hs:w0.heap.size<=B∨S B i)(v:Value):cx w0 S (w.setCell ⟨B,i,none⟩ v):=by
 refine⟨h.os,h.tape,h.output,by simpa[World.setCell] using h.size,λB' hB hn=> ?_,λa=>(World.frozen?_setCell _ _ _ _).trans (h.fzn a),λB' c t fz hb=> ?_⟩
 .by_cases e:B=B'
  .subst e;have:=h.obj B hB hn;simp only[World.setCell,aKt,lr,this];cases hh:w0.heap[B]? with
   |none=>rfl
   |some x=>cases x<;>first|rfl|exact absurd hh (hn _ _ _)
  .simp only[World.setCell,aKt,e,fT];exact h.obj B' hB hn
 .have hB:B'<w0.heap.size:=by
   rcases mJ B' w0.heap.size with h'|h'
   .exact h'
   .rw[asG h'] at hb;cases hb
  obtain⟨c1,e1,z1,k1⟩:=h.row B' c t fz hb;by_cases e:B=B'
  .subst e;refine⟨c1.setIfInBounds i v,by simp[World.setCell,aKt,e1],by simpa using z1,λj hj=> ?_⟩;have mz:i≠j:=λe=>by subst e;rcases hs with hs|hs;omega;exact hj hs
   rw[aSb mz];exact k1 j hj
  .exact⟨c1,by simp only[World.setCell,aKt,e,fT];exact e1,z1,k1⟩
theorem cx.setCells {w0:World}{S:Nat->Nat->Prop}{B:Nat}:∀{vs:List Value} {o:Nat} {w:World},cx w0 S w->(w0.heap.size<=B∨∀j,j<vs.length->S B (o+j))->cx w0 S (w.setCells B o vs)
 | [],_,_,h,_=>h
 |v::vs,o,w,h,hs=>by
  rw[World.setCells];refine cx.setCells (h.setCell (hs.imp id λh=>by simpa using h 0 (by simp)) v) (hs.imp id λh j hj=> ?_);have:=h (j+1) (by simp;omega);rwa [show o+(j+1)=o+1+j by omega] at this
variable [aA]
def cl (w:World)(B i:Nat):Option Value:=w.cell? ⟨B,i,none⟩
def fz (w:World)(B i:Nat):Bool:=w.frozen? ⟨B,i,none⟩
omit [aA] in
theorem abO {w:World}{B i:Nat}(h:(cl w B i).isSome=true):B<w.heap.size:=by
 rcases mJ B w.heap.size with h'|h'
 .exact h'
 .simp[cl,World.cell?,asG h'] at h
omit [aA] in
theorem aIA {w:World}{o:Obj}{B i:Nat}(h:B<w.heap.size):cl (w.alloc o) B i=cl w B i:=World.cell?_alloc_lt _ _ _ h
omit [aA] in
theorem aTa {w:World}{o:Obj}{B i:Nat}(h:B<w.heap.size):fz (w.alloc o) B i=fz w B i:=World.frozen?_alloc_old _ _ _ (Nat.ne_of_lt h)
omit [aA] in
theorem cx.cl {w0 w:World}{S:Nat->Nat->Prop}(h:cx w0 S w){B i:Nat}(hB:B<w0.heap.size)(hs:¬S B i):cl w B i=cl w0 B i:=by
 simp only[Ab.cl,World.cell?];cases hh:w0.heap[B]? with
 |none=>rw[h.obj B hB (by simp[hh]),hh]
 |some x=>
  cases x with
  |cells c t f=>
   obtain⟨c',e,_,k⟩:=h.row B c t f hh;simp only[e];simpa using k i hs
  |_=>rw[h.obj B hB (by simp[hh]),hh]
omit [aA] in
theorem cx.fz {w0 w:World}{S:Nat->Nat->Prop}(h:cx w0 S w){B i:Nat}(hB:B<w0.heap.size):fz w B i=fz w0 B i:=by
 simp only[Ab.fz,World.frozen?];cases hh:w0.heap[B]? with
 |none=>rw[h.obj B hB (by simp[hh]),hh]
 |some x=>
  cases x with
  |cells c t f=>
   obtain⟨c',e,_,k⟩:=h.row B c t f hh;simp only[e]
  |_=>rw[h.obj B hB (by simp[hh]),hh]
structure A' (w:World):Prop where
 sz:aA.h0<=w.heap.size
 fr:∀B i,aA.h0<=B->fz w B i=false
 st:∀B i v,aA.fs B i=some v->B<aA.h0/\cl w B i=some v
theorem A'.same {w w':World}(h:A' w)(e:w'.heap=w.heap):A' w':=by
 refine⟨by rw[e];exact h.sz,λB i hB=> ?_,λB i v hv=> ?_⟩
 .have:=h.fr B i hB;simp only[fz,World.frozen?] at this ⊢;rw[e];exact this
 .obtain⟨h1,h2⟩:=h.st B i v hv;refine⟨h1,?_⟩;simp only[cl,World.cell?] at h2 ⊢;rw[e];exact h2
theorem A'.alloc {w:World}(h:A' w)(cs:Array Value)(t:TypeId):A' (w.alloc (.cells cs t)):=by
 refine⟨by rw[World.size_alloc];have:=h.sz;omega,λB i hB=> ?_,λB i v hv=> ?_⟩
 .unfold fz;rw[Wt];exact h.fr B i hB
 .obtain⟨h1,h2⟩:=h.st B i v hv;exact⟨h1,by rw[aIA (abO (by rw[h2];rfl))];exact h2⟩
structure sf (π:Pi)(c:Nat->Nat->CV)(z:Nat->Option Nat)(w:World):Prop where
 am:A' w
 lb:∀b B s q e,z b≠none->π b=some (B,s,q,e)->s<e->aA.h0<=B
 hp:∀b n,z b=some n->∃B s e,π b=some (B,s,n,e)/\s+n<=e/\(∀i,s<=i->i<e->(cl w B i).isSome=true/\fz w B i=false)/\∀j,j<n->∃v,cl w B (s+j)=some v/\(c b j).rel π v
 dj:∀b b' B s q e s' q' e',b≠b'->z b≠none->z b'≠none->π b=some (B,s,q,e)->π b'=some (B,s',q',e')->∀i,s<=i->i<e->s'<=i->i<e'->False
theorem sf.aSx {π:Pi}{c:Nat->Nat->CV}{z:Nat->Option Nat}{w w':World}(h:sf π c z w)
  (ha:A' w')(hw:∀b B s q e,z b≠none->π b=some (B,s,q,e)->∀i,s<=i->i<e->cl w' B i=cl w B i/\fz w' B i=fz w B i):sf π c z w':=by
 refine⟨ha,h.lb,λb n hz=> ?_,h.dj⟩;obtain⟨B,s,e,hb,hle,h1,h2⟩:=h.hp b n hz;refine⟨B,s,e,hb,hle,λi hi he=> ?_,λj hj=> ?_⟩
 .have:=hw b B s n e (by simp[hz]) hb i hi he;rw[this.1,this.2];exact h1 i hi he
 .have:=hw b B s n e (by simp[hz]) hb (s+j) (by omega) (by omega);rw[this.1];exact h2 j hj
theorem sf.LU {π π':Pi}{c:Nat->Nat->CV}{z:Nat->Option Nat}{w:World}(h:sf π c z w)(hx:Ext π π'):sf π' c z w:=by
 refine⟨h.am,λb B s q e hz hb BP=> ?_,λb n hz=> ?_,λb b' B s q e s' q' e' mz hz uo hb fh=> ?_⟩
 .cases hh:z b with
  |none=>exact absurd hh hz
  |some n=>
   obtain⟨B1,s1,e1,hb1,_⟩:=h.hp b n hh;have e2:=hx _ _ hb1;rw[hb] at e2;cases e2;exact h.lb b B s _ e (by rw[hh];simp) hb1 BP
 .obtain⟨B,s,e,hb,hle,h1,h2⟩:=h.hp b n hz;exact⟨B,s,e,hx _ _ hb,hle,h1,λj hj=>let⟨v,a,r⟩:=h2 j hj;⟨v,a,CV.dz hx _ _ r⟩⟩
 .have xU:∀b,z b≠none->∃p,π b=some p:=λb hz=>by
   cases hh:z b with
   |none=>exact absurd hh hz
   |some n=>obtain⟨B,s,e,hb,_⟩:=h.hp b n hh;exact⟨_,hb⟩
  obtain⟨p,hp⟩:=xU b hz;obtain⟨p',uG⟩:=xU b' uo;have e1:=hx _ _ hp;rw[hb] at e1;have e2:=hx _ _ uG;rw[fh] at e2;exact h.dj b b' B s q e s' q' e' mz hz uo (hp.trans e1.symm) (uG.trans e2.symm)
theorem sf.kill {π:Pi}{c:Nat->Nat->CV}{z:Nat->Option Nat}{w:World}(h:sf π c z w)(b:Nat):
  sf π (λb' j=>if b'=b then .f .u else c b' j) (λb'=>if b'=b then none else z b') w:=by
 refine⟨h.am,λb' B s q e hz hb BP=> ?_,λb' n hz=> ?_,λb1 b2 B s q e s' q' e' mz hz uo=> ?_⟩
 .by_cases e:b'=b
  .simp[e] at hz
  .simp only[e,fT] at hz;exact h.lb b' B s q _ hz hb BP
 .by_cases e:b'=b
  .simp[e] at hz
  .simp only[e,fT] at hz ⊢;exact h.hp b' n hz
 .by_cases e1:b1=b
  .simp[e1] at hz
  by_cases e2:b2=b
  .simp[e2] at uo
  simp only[e1,e2,fT] at hz uo;exact h.dj b1 b2 B s q e s' q' e' mz hz uo
theorem sf.new {π:Pi}{c:Nat->Nat->CV}{z:Nat->Option Nat}{w:World}(h:sf π c z w){b B s e:Nat}{k:aj}(hb:π b=some (B,s,k.size,e))(hle:s+k.size<=e)
  (h1:∀i,s<=i->i<e->(cl w B i).isSome=true/\fz w B i=false)(h2:∀j,j<k.size->∃v,cl w B (s+j)=some v/\(k.get j).rel π v)
  (hd:∀b' s' q' e',b'≠b->z b'≠none->π b'=some (B,s',q',e')->∀i,s<=i->i<e->s'<=i->i<e'->False)(hlb:s<e->aA.h0<=B):
  sf π (λb' j=>if b'=b then(if j<k.size then k.get j else .f .u) else c b' j) (λb'=>if b'=b then some k.size else z b') w:=by
 refine⟨h.am,λb' B' s' q' e' hz fh BP=> ?_,λb' n hz=> ?_,λb1 b2 B' s1 q1 e1 s2 q2 e2 mz hz uo hb1 FF i i1 i2 i3 i4=> ?_⟩
 .by_cases x:b'=b
  .subst x;rw[hb] at fh;cases fh;exact hlb BP
  .simp only[x,fT] at hz;exact h.lb b' B' s' q' e' hz fh BP
 .by_cases e':b'=b
  .subst e';simp only[lr,hM] at hz;subst hz;refine⟨B,s,e,hb,hle,h1,λj hj=> ?_⟩;simp only[lr,hj];exact h2 j hj
  .simp only[e',fT] at hz ⊢;exact h.hp b' n hz
 .by_cases x1:b1=b
  .subst x1;have x2:b2≠b1:=λx=>mz x.symm
   rw[hb] at hb1;cases hb1;simp only[x2,fT] at uo;exact hd b2 s2 q2 e2 x2 uo FF i i1 i2 i3 i4
  .by_cases x2:b2=b
   .subst x2;rw[hb] at FF;cases FF;simp only[x1,fT] at hz;exact hd b1 s1 q1 e1 x1 hz hb1 i i3 i4 i1 i2
   .simp only[x1,x2,fT] at hz uo;exact h.dj b1 b2 B' s1 q1 e1 s2 q2 e2 mz hz uo hb1 FF i i1 i2 i3 i4
omit [aA] in
theorem eL {w:World}{B o:Nat}{vs:List Value}{B' i:Nat}(h:B'=B->i<o∨o+vs.length<=i):cl (w.setCells B o vs) B' i=cl w B' i:=
 World.cell?_setCells_out B vs o w ⟨B',i,none⟩ λe _=>h e
omit [aA] in
theorem nD {w:World}{B o:Nat}{vs:List Value}(h:∀j,j<vs.length->(cl w B (o+j)).isSome=true){j:Nat}(hj:j<vs.length):cl (w.setCells B o vs) B (o+j)=some vs[j]:=
 World.cell?_setCells_in B vs o w h j hj
omit [aA] in
theorem pw {w:World}{B o:Nat}{vs:List Value}{B' i:Nat}:fz (w.setCells B o vs) B' i=fz w B' i:=World.frozen?_setCells B vs o w _
omit [aA] in
theorem alf {B:Nat}:∀{vs:List Value} {o:Nat} {w:World},(w.setCells B o vs).heap.size=w.heap.size
 | [],_,_=>rfl
 |v::vs,o,w=>by rw[World.setCells,alf];simp[World.setCell]
omit [aA] in
theorem isSome_setCells {w:World}{B o:Nat}{vs:List Value}(h:∀j,j<vs.length->(cl w B (o+j)).isSome=true){B' i:Nat}(hi:(cl w B' i).isSome=true):(cl (w.setCells B o vs) B' i).isSome=true:=by
 by_cases hc:B'=B/\o<=i/\i<o+vs.length
 .obtain⟨rfl,h1,h2⟩:=hc;have:=nD h (j:=i-o) (by omega);rw[show o+(i-o)=i by omega] at this;simp[this]
 .rw[eL];exact hi;intro e;omega
theorem iX {π:Pi}{k:aj}{xs:List Value}(h:bu (CV.rel π) k.list xs):xs.length=aj.size k/\∀j,j<aj.size k->∃x,xs[j]? =some x/\(aj.get k j).rel π x:=by
 refine⟨by rw[<-h.length,aj.auG],λj hj=> ?_⟩;exact h.get (by rw[aj.aga,if_pos hj])
theorem yp {π:Pi}{k:aj}{xs:List Value}(hl:xs.length=aj.size k)(h:∀j,j<aj.size k->∃x,xs[j]? =some x/\(aj.get k j).rel π x):bu (CV.rel π) k.list xs:=by
 refine bu.age (by rw[aj.auG,hl]) λi a b ha hb=> ?_;rw[aj.aga] at ha;split at ha
 .rename_i hi
  cases ha;obtain⟨x,hx,hr⟩:=h i hi;rw[hb] at hx;cases hx;exact hr
 .cases ha
theorem A'.setCells {w:World}(h:A' w){B o:Nat}{xs:List Value}(hB:0<xs.length->aA.h0<=B):A' (w.setCells B o xs):=by
 refine⟨by rw[alf];exact h.sz,λB' i hB'=>by rw[pw];exact h.fr B' i hB',λB' i v hv=> ?_⟩;obtain⟨h1,h2⟩:=h.st B' i v hv;refine⟨h1,?_⟩;rw[eL]
 .exact h2
 .intro e;rcases SO xs.length with h0|h0
  .omega
  .have:=hB h0;omega
theorem sf.set {π:Pi}{c:Nat->Nat->CV}{z:Nat->Option Nat}{w:World}(h:sf π c z w){b n B s e lo:Nat}{vs:aj}{xs:List Value}(hz:z b=some n)(hb:π b=some (B,s,n,e))(hn:lo+aj.size vs<=n)
  (hx:bu (CV.rel π) vs.list xs):
  sf π (λb' j=>if b'=b/\lo<=j/\j<lo+aj.size vs then aj.get vs (j-lo) else c b' j) z (w.setCells B (s+lo) xs):=by
 obtain⟨B',s',e',fh,hle,h1,h2⟩:=h.hp b n hz;rw[hb] at fh;cases fh;obtain⟨hlen,ale⟩:=iX hx;have hin:∀j,j<xs.length->(cl w B (s+lo+j)).isSome=true:=λj hj=>(h1 _ (by omega) (by omega)).1
 refine⟨h.am.setCells λhl=>h.lb b B s n e (by rw[hz];simp) hb (by omega),h.lb,λb' n' uo=> ?_,h.dj⟩;obtain⟨B2,s2,e2,FF,adL,k1,k2⟩:=h.hp b' n' uo;refine⟨B2,s2,e2,FF,adL,λi hi he=>⟨isSome_setCells hin (k1 i hi he).1,by rw[pw];exact(k1 i hi he).2⟩,λj hj=> ?_⟩;by_cases eb:b'=b
 .subst eb;rw[hb] at FF;cases FF;by_cases hc:lo<=j/\j<lo+aj.size vs
  .have hj':j-lo<xs.length:=by omega
   have:=nD hin hj';rw[show s+lo+(j-lo)=s+j by omega] at this;refine⟨_,this,?_⟩;rw[if_pos ⟨rfl,hc⟩];obtain⟨x,hx1,hx2⟩:=ale (j-lo) (by omega);rw[kt hj'] at hx1;cases hx1;exact hx2
  .rw[if_neg (by simp only[AI];exact hc),eL (λ_=>by omega)];exact k2 j hj
 .rw[if_neg (by simp[eb]),eL]
  .exact k2 j hj
  .intro e;subst e;by_cases hc:s+lo<=s2+j/\s2+j<s+lo+xs.length
   .exact(h.dj b' b B2 s2 _ e2 s _ e eb (by simp[uo]) (by simp[hz]) FF hb (s2+j) (by omega) (by omega) (by omega) (by omega)).elim
   .omega
structure Cx where
 w0:World
 k:Nat
 p0:Pi
 N:Nat
def Dz (p0:Pi)(k:Nat)(D:Nat->Prop)(B i:Nat):Prop:=∃b s q e,b<k/\D b/\p0 b=some (B,s,q,e)/\s<=i/\i<e
structure Rel (X:Cx)(D:Nat->Prop)(π:Pi)(g:Gt)(a:Act)(w:World):Prop where
 tm:∀i,(g.t i).rel π (a.tmps.getD i undef)
 nt:a.tmps.size=X.N
 df:a.defers=[]
 hp:sf π g.c g.z w
 xU:∀b,b<X.k->π b=X.p0 b
 ft:∀b B s q e,X.k<=b->g.z b≠none->π b=some (B,s,q,e)->B<X.w0.heap.size->∀i,s<=i->i<e->Dz X.p0 X.k D B i
 fr:cx X.w0 (Dz X.p0 X.k D) w
theorem Rel.dst {X:Cx}{D:Nat->Prop}{π:Pi}{g:Gt}{a:Act}{w:World}(R:Rel X D π g a w){dst:Option Tmp}(hd:∀d,dst=some d->d<X.N){v:AV}{x:Value}(hv:v.rel π x):
  Rel X D π (cI (dL dst v) g) (a.put dst x) w:=by
 cases dst with
 |none=>exact R
 |some d=>
  have nC:d<a.tmps.size:=by rw[R.nt];exact hd d rfl
  refine⟨λi=> ?_,by simpa[Act.put] using R.nt,R.df,R.hp,R.xU,R.ft,R.fr⟩;show(if i=d then v else g.t i).rel π ((a.tmps.setIfInBounds d x).getD i undef);by_cases e:i=d
  .subst e;simp[nC,hv]
  .rw[if_neg e];have:=R.tm i;simpa[aSb (Ne.symm e)] using this
theorem Rel.LU {X:Cx}{D:Nat->Prop}{π π':Pi}{g:Gt}{a:Act}{w:World}(R:Rel X D π g a w)(hx:Ext π π')(ho:∀b,b<X.k->π' b=π b):Rel X D π' g a w:=by
 refine⟨λi=>AV.dz hx _ _ (R.tm i),R.nt,R.df,R.hp.LU hx,λb hb=>(ho b hb).trans (R.xU b hb),λb B s q e hk hz hb=> ?_,R.fr⟩
 have:∃p,π b=some p:=by
  cases hh:g.z b with
  |none=>exact absurd hh hz
  |some n=>obtain⟨B,s,e,hb,_⟩:=R.hp.hp b n hh;exact⟨_,hb⟩
 obtain⟨p,hp⟩:=this;have:=hx _ _ hp;rw[hb] at this;cases this;exact R.ft b B s q e hk hz hp
theorem Rel.aKG {X:Cx}{D D':Nat->Prop}{π:Pi}{g:Gt}{a:Act}{w:World}(R:Rel X D π g a w)(h:∀b,D b->D' b):Rel X D' π g a w:=
 ⟨R.tm,R.nt,R.df,R.hp,R.xU,λb B s q e hk hz hb hB i h1 h2=>let⟨b0,s0,q0,e0,x1,x2,x3⟩:=R.ft b B s q e hk hz hb hB i h1 h2;⟨b0,s0,q0,e0,x1,h _ x2,x3⟩,
  R.fr.mono λB i _ ⟨b0,s0,q0,e0,x1,x2,x3⟩=>⟨b0,s0,q0,e0,x1,h _ x2,x3⟩⟩
theorem Rel.drew {X:Cx}{D:Nat->Prop}{π:Pi}{g:Gt}{a:Act}{w:World}(R:Rel X D π g a w):Rel X D π g a {w with drawn:=w.drawn+1}:=
 ⟨R.tm,R.nt,R.df,R.hp.aSx (R.hp.am.same rfl) λ_ _ _ _ _ _ _ _ _ _=>⟨rfl,rfl⟩,R.xU,R.ft,R.fr.drew⟩
theorem Rel.kill {X:Cx}{D:Nat->Prop}{π:Pi}{g:Gt}{a:Act}{w:World}(R:Rel X D π g a w)(b:Nat):Rel X D π ((Up.kill b).gG g) a w:=by
 refine⟨R.tm,R.nt,R.df,R.hp.kill b,R.xU,λb' B s q e hk hz=> ?_,R.fr⟩;by_cases eb:b'=b
 .exact absurd (by simp[Up.gG,eb]) hz
 .exact R.ft b' B s q e hk (by simpa[Up.gG,eb] using hz)
def AH (π:Pi)(b:Nat)(p:Nat×Nat×Nat×Nat):Pi:=λb'=>if b'=b then some p else π b'
omit [aA] in
theorem pU (π:Pi)(b:Nat)(p:Nat×Nat×Nat×Nat):AH π b p b=some p:=by simp[AH]
omit [aA] in
theorem Ba {π:Pi}{b:Nat}(h:π b=none)(p:Nat×Nat×Nat×Nat):Ext π (AH π b p):=by
 intro b' q hq;simp only[AH];by_cases e:b'=b
 .subst e;rw[h] at hq;cases hq
 .simp[e,hq]
theorem Rel.new {X:Cx}{D:Nat->Prop}{π:Pi}{g:Gt}{a:Act}{w:World}(R:Rel X D π g a w){b B s e:Nat}{k:aj}(hb:π b=some (B,s,k.size,e))(hk:X.k<=b)(hle:s+k.size<=e)
  (h1:∀i,s<=i->i<e->(cl w B i).isSome=true/\fz w B i=false)(h2:∀j,j<k.size->∃v,cl w B (s+j)=some v/\(k.get j).rel π v)
  (hd:∀b' s' q' e',b'≠b->g.z b'≠none->π b'=some (B,s',q',e')->∀i,s<=i->i<e->s'<=i->i<e'->False)
  (hf:B<X.w0.heap.size->∀i,s<=i->i<e->Dz X.p0 X.k D B i)(hlb:s<e->aA.h0<=B:=by intro h;omega):Rel X D π ((Up.new b k).gG g) a w:=by
 refine⟨R.tm,R.nt,R.df,R.hp.new hb hle h1 h2 hd hlb,R.xU,λb' B' s' q' e' Lv hz fh hB i i1 i2=> ?_,R.fr⟩;by_cases eb:b'=b
 .subst eb;rw[hb] at fh;cases fh;exact hf hB i i1 i2
 .exact R.ft b' B' s' q' e' Lv (by simpa[Up.gG,eb] using hz) fh hB i i1 i2
theorem Rel.alloc {X:Cx}{D:Nat->Prop}{π:Pi}{g:Gt}{a:Act}{w:World}(R:Rel X D π g a w){b e:Nat}{k:aj}{cs:Array Value}{t:TypeId}(hb:π b=none)(hk:X.k<=b)(hle:k.size<=e)(he:e<=cs.size)
  (h2:∀j,j<k.size->∃v,cs[j]? =some v/\(k.get j).rel π v):
  Rel X D (AH π b (w.heap.size,0,k.size,e)) ((Up.new b k).gG g) a (w.alloc (.cells cs t)):=by
 have hx:=Ba hb (w.heap.size,0,k.size,e)
 have live:∀b' B' s' q' e',g.z b'≠none->π b'=some (B',s',q',e')->∀i,s'<=i->i<e'->B'<w.heap.size:=λb' B' s' q' e' hz fh i i1 i2=>by
  cases hh:g.z b' with
  |none=>exact absurd hh hz
  |some n=>
   obtain⟨_,_,_,FF,_,k1,_⟩:=R.hp.hp b' n hh;rw[fh] at FF;cases FF;exact abO (k1 i i1 i2).1
 have R1:Rel X D π g a (w.alloc (.cells cs t)):=
  ⟨R.tm,R.nt,R.df,R.hp.aSx (R.hp.am.alloc cs t) λb' B' s' q' e' hz fh i i1 i2=>⟨aIA (live b' B' s' q' e' hz fh i i1 i2),aTa (live b' B' s' q' e' hz fh i i1 i2)⟩,R.xU,R.ft,R.fr.alloc _ _⟩
 have R2:=R1.LU hx (λb' fh=>by simp only[AH];rw[if_neg (by omega)]);have Es:∀i,cl (w.alloc (.cells cs t)) w.heap.size i=cs[i]? :=λi=>World.cell?_alloc_new w cs t i
 refine R2.new (s:=0) (pU _ _ _) hk (by omega) (λi _ i2=>⟨?_,World.frozen?_alloc_new w cs t i⟩) (λj hj=> ?_) (λb' s' q' e' mz hz fh i _ _ i3 i4=> ?_) (λhB=> ?_) (λ_=>R.hp.am.sz)
 .rw[Es];simp;omega
 .obtain⟨v,hv,hr⟩:=h2 j hj;exact⟨v,by rw[gD,Es];exact hv,CV.dz hx _ _ hr⟩
 .simp only[AH,mz,fT] at fh;exact absurd (live b' _ s' q' e' hz fh i i3 i4) (Nat.lt_irrefl _)
 .have:=R.fr.size;omega
theorem Rel.set {X:Cx}{D:Nat->Prop}{π:Pi}{g:Gt}{a:Act}{w:World}(R:Rel X D π g a w){b n B s e:Nat}{o:cG}{vs:aj}{xs:List Value}(hz:g.z b=some n)(hb:π b=some (B,s,n,e))(hn:o.val+aj.size vs<=n)
  (hx:bu (CV.rel π) vs.list xs)(hD:b<X.k->D b):Rel X D π ((Up.c b o vs).gG g) a (w.setCells B (s+o.val) xs):=by
 refine⟨R.tm,R.nt,R.df,R.hp.set hz hb hn hx,R.xU,R.ft,R.fr.setCells ?_⟩;obtain⟨B',s',e',fh,hle,h1,h2⟩:=R.hp.hp b n hz;rw[hb] at fh;cases fh;have hlen:=(iX hx).1;rcases mJ B X.w0.heap.size with hB|hB
 .right
  intro j hj;rcases mJ b X.k with hk|hk
  .exact⟨b,s,n,e,hk,hD hk,(R.xU b hk).symm.trans hb,by omega,by omega⟩
  .exact R.ft b B s n e hk (by simp[hz]) hb hB _ (by omega) (by omega)
 .exact .inl hB
end Go.Ab
namespace Go.Ab
variable [aA]
omit [aA] in
theorem m4 (B o j:Nat):(⟨B,o,none⟩:Addr).add j=⟨B,o+j,none⟩:=by
 unfold Addr.add;split<;>simp_all
theorem aM3 {v:Value}{c:CV}(h:ofC v=some c)(π:Pi):c.rel π v:=by
 unfold ofC at h;split at h<;>first|(cases h;rfl)|cases h
omit [aA] in
theorem aEG (v:CV)(r:aj):aj.list (.c v::r)=v::r.list:=by
 apply List.ext_getElem?
 intro i;rw[aj.aga];cases i with
 |zero=>rw[if_pos (by rw[aj.size_cons,Sg.kh];omega)];rfl
 |succ i=>
  rw[List.getElem?_cons_succ,aj.aga];by_cases h:i<aj.size r
  .rw[if_pos h,if_pos (by rw[aj.size_cons,Sg.kh];omega),<-aj.kj (l:=r) (j':=i) (by omega) (by omega)]
  .rw[if_neg h,if_neg (by rw[aj.size_cons,Sg.kh];omega)]
theorem aIB:∀{vs:List Value} {cs:aj},aIs vs=some cs->∀π,bu (CV.rel π) cs.list vs
 | [],cs,h,π=>by simp[aIs] at h;subst h;trivial
 |v::vs,cs,h,π=>by
  simp only[aIs] at h;split at h
  .rename_i c SV h1 h2
   cases h;rw[aEG];exact⟨aM3 h1 π,aIB h2 π⟩
  .cases h
theorem aEH {v:Value}{r:RV}(h:ofR v=some r)(π:Pi):r.rel π v:=by
 have key:(ofC v).map RV.c=some r->r.rel π v:=λh=>by
  cases hc:ofC v with
  |none=>rw[hc] at h;cases h
  |some l=>rw[hc] at h;cases h;exact aM3 hc π
 cases v with
 |agg cs=>
  simp only[ofR] at h;cases hc:aIs cs.toList with
  |none=>rw[hc] at h;cases h
  |some l=>rw[hc] at h;cases h;exact⟨_,rfl,aIB hc π⟩
 |_=>simp only[ofR] at h;exact key h
omit [aA] in
theorem aI.dY {α:Type}{x:Option α}{g:Gt}{a:α}{l:List Fp}(h:aI (dY x) g a l):x=some a:=by
 cases x with
 |none=>cases h
 |some b=>cases h;rfl
omit [aA] in
theorem aI.cL {x:Bool}{g:Gt}{u:Unit}{l:List Fp}(h:aI (cL x) g u l):x=true:=by
 cases h with|test h=>cases x with
  |true=>rfl
  |false=>cases h
omit [aA] in
theorem aI.asR {v:AV}{g:Gt}{a:RV}{l:List Fp}(h:aI (asR v) g a l):v=.r a:=by
 unfold Ab.asR at h;split at h
 .cases h;rfl
 .cases h
omit [aA] in
theorem aI.asC {v:AV}{g:Gt}{a:CV}{l:List Fp}(h:aI (asC v) g a l):v=.r (.c a):=by
 unfold Ab.asC at h;split at h
 .cases h;rfl
 .cases h
omit [aA] in
theorem aI.asI {v:AV}{g:Gt}{a:IntKind×Int}{l:List Fp}(h:aI (asI v) g a l):v=.r (.c (.f (.i a.1 a.2))):=by
 unfold Ab.asI at h;split at h
 .cases h;rfl
 .cases h
omit [aA] in
theorem aI.asB {v:AV}{g:Gt}{a:Bool}{l:List Fp}(h:aI (asB v) g a l):v=.r (.c (.f (.b a))):=by
 unfold Ab.asB at h;split at h
 .cases h;rfl
 .cases h
omit [aA] in
theorem aI.asP {v:AV}{g:Gt}{a:Nat×cG×Nat}{l:List Fp}(h:aI (asP v) g a l):v=.r (.c (.ptr a.1 a.2.1 a.2.2)):=by
 unfold Ab.asP at h;split at h
 .cases h;rfl
 .cases h
section
variable {X:Cx} {D:Nat->Prop} {π:Pi} {g:Gt} {a:Act} {w:World}
theorem aI.Er {x:Operand}{v:AV}{l:List Fp}(h:aI (Er x) g v l)(R:Rel X D π g a w):v.rel π (a.eval x):=by
 cases x with
 |tmp t=>cases h with|tm h=>cases h;exact R.tm t
 |const c=>
  obtain⟨r,⟨_,h1⟩,_,h2⟩:=aI.bind' h;cases h2;exact aEH h1.dY π
 |func f=>cases h;exact⟨#[],rfl,trivial⟩
 |global g=>cases h
theorem aI.wi {x:Operand}{v:RV}{l:List Fp}(h:aI (wi x) g v l)(R:Rel X D π g a w):v.rel π (a.eval x):=by
 obtain⟨r,⟨_,h1⟩,_,h2⟩:=aI.bind' h;have:=h1.Er R;rw[h2.asR] at this;exact this
theorem aI.aMJ {x:Operand}{v:RV}{l:List Fp}(h:aI (aMJ x) g v l)(R:Rel X D π g a w):v.rel π (a.eval x):=by
 obtain⟨r,⟨_,h1⟩,_,h2⟩:=aI.bind' h;have:=h1.Er R;unfold Ab.asS at h2;split at h2
 .cases h2;exact this
 .cases h2;obtain⟨arr,hx,ha⟩:=this;obtain⟨arr⟩:=arr;match arr,ha with
  | [y],⟨hy,_⟩=>
   obtain⟨B,s,q,e,hb,rfl,hle⟩:=hy;exact⟨B,s,q,e,hb,hx,hle⟩
 .cases h2
theorem aI.HE {x:Operand}{v:CV}{l:List Fp}(h:aI (HE x) g v l)(R:Rel X D π g a w):v.rel π (a.eval x):=by
 obtain⟨r,⟨_,h1⟩,_,h2⟩:=aI.bind' h;have:=h1.Er R;rw[h2.asC] at this;exact this
theorem aI.KZ {x:Operand}{v:IntKind×Int}{l:List Fp}(h:aI (KZ x) g v l)(R:Rel X D π g a w):a.eval x=.int v.1 v.2:=by
 obtain⟨r,⟨_,h1⟩,_,h2⟩:=aI.bind' h;have:=h1.Er R;rw[h2.asI] at this;exact this
theorem aI.aIt {x:Operand}{v:Bool}{l:List Fp}(h:aI (aIt x) g v l)(R:Rel X D π g a w):a.eval x=.bool v:=by
 obtain⟨r,⟨_,h1⟩,_,h2⟩:=aI.bind' h;have:=h1.Er R;rw[h2.asB] at this;exact this
theorem aI.aMK {x:Operand}{v:Nat×cG×Nat}{l:List Fp}(h:aI (aMK x) g v l)(R:Rel X D π g a w):∃B s q e,π v.1=some (B,s,q,e)/\a.eval x=.pointer (some ⟨B,s+v.2.1.val,none⟩)/\v.2.1.val+v.2.2<=q:=by
 obtain⟨r,⟨_,h1⟩,_,h2⟩:=aI.bind' h;have:=h1.Er R;rw[h2.asP] at this;exact this
omit [aA] in
theorem aI.tW {α β:Type}{f:α->Rd β}{ρ:β->α->Prop}(hf:∀x v l,aI (f x) g v l->ρ v x):∀{xs:List α} {vs:List β} {l:List Fp},aI (tW f xs) g vs l->bu ρ vs xs
 | [],vs,l,h=>by cases h;trivial
 |x::xs,vs,l,h=>by
  obtain⟨v,⟨_,h1⟩,_,h2⟩:=aI.bind' h;obtain⟨j6,⟨_,h3⟩,_,h4⟩:=aI.bind' h2;cases h4;exact⟨hf x v _ h1,aI.tW hf h3⟩
omit [aA] in
theorem Ke {P:Program}{t:TypeId}{v:Bool}(h:adI P t=some v)(w:World):(isAgg t).run P w=.ok v w:=by
 unfold adI at h;unfold isAgg;cases hu:P.underlying t with
 |none=>rw[hu] at h;cases h
 |some d=>rw[hu] at h;cases d<;>simp[run_underlying hu]<;>simp_all
omit [aA] in
theorem aqe {P:Program}{t:TypeId}{n:Nat}(h:iz P t=some n):∃i,P.info? t=some i/\i.size=n:=by
 unfold iz at h;cases hi:P.info? t with
 |none=>rw[hi] at h;cases h
 |some i=>rw[hi] at h;exact⟨i,rfl,by simpa using h⟩
omit [aA] in
theorem run_typeInfo {P:Program}{t:TypeId}{i:TypeInfo}(h:P.info? t=some i)(w:World):(typeInfo t).run P w=.ok i w:=by simp[typeInfo,h]
omit [aA] in
theorem run_sizeOf {P:Program}{t:TypeId}{n:Nat}(h:iz P t=some n)(w:World):(sizeOf t).run P w=.ok n w:=by
 obtain⟨i,hi,rfl⟩:=aqe h;simp[sizeOf,run_typeInfo hi]
theorem adM {P:Program}{t:TypeId}{r:RV}(h:A7 P t=some r)(w:World):∃x,(zeroValue t).run P w=.ok x w/\(∃it:TypeInfo,P.info? t=some it/\it.zero=some x)/\∀π,r.rel π x:=by
 unfold A7 at h;cases hi:P.info? t with
 |none=>rw[hi] at h;cases h
 |some i=>
  rw[hi] at h;simp only[bG] at h;cases hz:i.zero with
  |none=>rw[hz] at h;cases h
  |some x=>
   rw[hz] at h;simp only[bG] at h;refine⟨x,by simp[zeroValue,run_typeInfo hi,hz],⟨i,rfl,hz⟩,λπ=> ?_⟩;split at h
   .rename_i b hb
    simp only[mI] at h;obtain⟨b',h1,rfl⟩:=h;obtain⟨e1,e2⟩:=alc h1;obtain⟨arr,rfl,hr⟩:=aEH hb π;obtain⟨l1,l2⟩:=iX hr;exact⟨arr,rfl,yp (by rw[l1,e1]) λj hj=>by rw[e2];exact l2 j (by omega)⟩
   .exact aEH h π
omit [aA] in
theorem aKH {P:Program}(ob:Obj)(w:World):(newObj ob).run P w=.ok w.heap.size (w.alloc ob):=rfl
omit [aA] in
theorem LV {P:Program}(t:TypeId)(cs:Array Value)(w:World):(newRow t cs).run P w=.ok ⟨w.heap.size,0,none⟩ (w.alloc (.cells cs t)):=by
 simp only[newRow,Sem.run_bind,aKH,Result.andThen_ok,Sem.run_pure]
theorem Rel.view (R:Rel X D π g a w){b q n:Nat}{o:cG}{v:aj}(hz:g.z b=some q)(hs:aj.size v=n)(hv:o.val+n<=q->∀j,j<n->aj.get v j=g.c b (o.val+j)){B s q' e:Nat}(hb:π b=some (B,s,q',e))(hn:o.val+n<=q'):
  q'=q/\∃xs:List Value,xs.length=n/\bu (CV.rel π) v.list xs/\∀j x,xs[j]? =some x->cl w B (s+o.val+j)=some x:=by
 obtain⟨B',s',e',fh,hle,_,h2⟩:=R.hp.hp b q hz;rw[hb] at fh;cases fh;have hv:=hv hn
 have cell:∀j,j<n->∃x,cl w B (s+o.val+j)=some x/\(aj.get v j).rel π x:=λj hj=>by
  obtain⟨x,hx,hr⟩:=h2 (o.val+j) (by omega);rw[<-hv j hj] at hr;exact⟨x,by rw[show s+o.val+j=s+(o.val+j) by omega];exact hx,hr⟩
 refine⟨rfl,(List.range n).map λj=>(cl w B (s+o.val+j)).getD undef,by simp,yp (by simp[hs]) λj hj=> ?_,λj x hx=> ?_⟩
 .obtain⟨x,hx,hr⟩:=cell j (by omega);refine⟨x,?_,hr⟩;rw[Ce,List.getElem?_range (by omega)];simp[hx]
 .have hjn:j<n:=by
   have:=(lA.1 hx).1;simpa using this
  obtain⟨u,hu,_⟩:=cell j hjn;simp[hjn,hu] at hx
  rw[hu,hx]
omit [aA] in
theorem Z2 {P:Program}{w:World}{B o:Nat}{xs:List Value}(h:∀j v,xs[j]? =some v->cl w B (o+j)=some v):(loadCells ⟨B,o,none⟩ xs.length).run P w=.ok xs.toArray w:=
 run_loadCells_list w _ xs λj v hj=>by rw[m4];exact h j v hj
omit [aA] in
theorem aI.asO {b:aj}{v:RV}{l:List Fp}(h:aI (asO b) g v l):∃c,b=[.c c]/\v=.c c:=by
 unfold Ab.asO at h;split at h
 .cases h;exact⟨_,rfl,rfl⟩
 .cases h
theorem aI.ZW {P:Program}(R:Rel X D π g a w){t:TypeId}{b m:Nat}{o:cG}{v:RV}{l:List Fp}(h:aI (ZW P t b o m) g v l){B s q' e:Nat}(hb:π b=some (B,s,q',e))(hm:o.val+m<=q'):
  ∃x,(loadVar t ⟨B,s+o.val,none⟩).run P w=.ok x w/\v.rel π x:=by
 obtain⟨ag,⟨_,h1⟩,_,h⟩:=aI.bind' h;obtain⟨n,⟨_,h2⟩,_,h⟩:=aI.bind' h;have h1:=h1.dY;have h2:=h2.dY;cases ag with
 |true=>
  obtain⟨_,⟨_,h3⟩,_,h⟩:=aI.bind' h;have h3:=fm.1 h3.cL;cases h with|vw q u hz hs hv h=>
  cases h;simp only[Sz.val,Vc] at hs hv;obtain⟨_,xs,hl,hx,hc⟩:=R.view hz hs hv hb (by omega);refine⟨.agg xs.toArray,?_,⟨_,rfl,hx⟩⟩;have:=Z2 (P:=P) hc;rw[hl] at this;simp[loadVar,Ke h1,run_sizeOf h2,this]
 |false=>
  obtain⟨_,⟨_,h3⟩,_,h⟩:=aI.bind' h;have h3:=fm.1 h3.cL;cases h with|vw q u hz hs hv h=>
  simp only[Sz.val,Vc] at hs hv;obtain⟨_,xs,hl,hx,hc⟩:=R.view hz hs hv hb (by omega);obtain⟨c,rfl,rfl⟩:=h.asO;rw[aS8] at hx
  obtain⟨x,rfl⟩:∃x,xs=[x]:=by
   match xs,hl with
   | [x],_=>exact⟨x,rfl⟩
  have hcx:=hc 0 x rfl;simp only[jH] at hcx;refine⟨x,?_,hx.1⟩;simp only[cl] at hcx;simp[loadVar,Ke h1,hcx]
omit [aA] in
theorem aI.aEi {b v:aj}{o:cG}{cH:Sz}{z:Nat}{l:List Fp}(h:aI (aEi b o cH z) g v l):b.sub o cH z=some (true,v):=by
 unfold Ab.aEi at h;split at h
 .rename_i p hp
  cases h with|test h=>
  obtain⟨gg,u⟩:=p;cases gg with
  |true=>cases h;exact hp
  |false=>cases h
 .cases h
theorem aI.aKx {P:Program}{t:TypeId}{cs:aj}{o:cG}{v:RV}{l:List Fp}(h:aI (aKx P t cs o) g v l){n:Nat}(hn:iz P t=some n)(hn1:1<=n)(hle:o.val+n<=aj.size cs){xs:Array Value}(hx:bu (CV.rel π) cs.list xs.toList)(w:World):
  ∃x,(part t xs o.val).run P w=.ok x w/\v.rel π x:=by
 obtain⟨ag,⟨_,h1⟩,_,h⟩:=aI.bind' h;obtain⟨n',⟨_,h2⟩,_,h⟩:=aI.bind' h;have h1:=h1.dY;have h2:=h2.dY;rw[hn] at h2;cases h2;obtain⟨l1,l2⟩:=iX hx;cases ag with
 |true=>
  obtain⟨u,⟨_,h3⟩,_,h⟩:=aI.bind' h;cases h;obtain⟨e1,e2⟩:=aj.axP h3.aEi;simp only[Sz.val,Vc] at e1 e2;have e2:=e2 hle;refine⟨.agg (xs.extract o.val (o.val+n)),by simp[part,Ke h1,run_sizeOf hn],⟨_,rfl,?_⟩⟩
  have:(xs.extract o.val (o.val+n)).toList=(xs.toList.drop o.val).take n:=by
   rw[Array.toList_extract];simp[List.extract]
  rw[this];refine yp (by rw[List.length_take,asJ,l1];omega) λj hj=> ?_;obtain⟨x,hx1,hx2⟩:=l2 (o.val+j) (by omega);refine⟨x,by rw[abH,if_pos (by omega),SM];exact hx1,?_⟩;rw[e2 j (by omega)];exact hx2
 |false=>
  obtain⟨u,⟨_,h3⟩,_,h⟩:=aI.bind' h;obtain⟨c,rfl,rfl⟩:=h.asO;obtain⟨_,e2⟩:=aj.axP h3.aEi;have e2:=e2 (by simp only[Sz.val];omega) 0 (by simp[Sz.val]);obtain⟨x,hx1,hx2⟩:=l2 o.val (by omega);refine⟨x,?_,?_⟩
  .have:xs[o.val]? =some x:=by simpa using hx1
   simp[part,Ke h1,this]
  .rw[jH] at e2;rw[<-e2] at hx2;exact hx2
theorem a1L {n:Nat}{q:Nat->Bool}{x:Value}(h:(CV.f (.q n q)).rel π x):(CV.fs n 1 [.b q]).rel π x:=by
 refine⟨rfl,?_⟩;rcases h with h| ⟨B,s,cap,h1,h2,h3⟩
 .exact .inl h
 .refine .inr ⟨B,s,cap,h1,h2,λj hj=>⟨.b (q j),.bool (q j),?_,h3 j (by omega),rfl⟩⟩;simp[iB,Nat.mod_one,cS.at]
omit [aA] in
theorem aI.a1M {P:Program}{t:TypeId}{c c':CV}{l:List Fp}(h:aI (aIu P t c) g c' l):c'=c∨∃n q,c=.f (.q n q)/\c'=.fs n 1 [.b q]:=by
 unfold Ab.aIu at h;generalize P.underlying t=u at h
 split at h
 .cases h with|@test x _ _ _ _ h=>
  cases hx:FV.isB _<;>rw[hx] at h<;>cases h
  rename_i x;cases x<;>first|exact .inl rfl|cases hx
 .cases h with|@test x _ _ _ _ h=>
  cases hx:FV.isI _ _<;>rw[hx] at h<;>cases h
  rename_i k x;cases x<;>first|(cases hx;done)|skip
  simp only[FV.isI,jG] at hx;subst hx;exact .inl rfl
 .cases h with|@test x _ _ _ _ h=>
  cases hx:FV.isS _<;>rw[hx] at h<;>cases h
  rename_i x;cases x<;>first|exact .inl rfl|cases hx
 .cases h;exact .inr ⟨_,_,rfl,rfl⟩
 .cases h;exact .inl rfl
theorem aI.aIu {P:Program}{t:TypeId}{c c':CV}{l:List Fp}(h:aI (aIu P t c) g c' l){x:Value}(hx:c.rel π x):c'.rel π x:=by
 rcases h.a1M with rfl| ⟨n,q,rfl,rfl⟩
 .exact hx
 .exact a1L hx
theorem aI.ap8 {P:Program}{t:TypeId}{c c':RV}{l:List Fp}(h:aI (ap8 P t c) g c' l){π:Pi}{x:Value}(hx:c.rel π x):c'.rel π x:=by
 cases c with
 |c c=>
  obtain⟨v,⟨_,h1⟩,_,h⟩:=aI.bind' h;cases h;exact h1.aIu hx
 |agg cs=>
  cases h;obtain⟨xs,rfl,hx⟩:=hx;obtain⟨l1,l2⟩:=iX hx;obtain⟨n1,n2⟩:=aQq P t cs;refine⟨xs,rfl,yp (by rw[l1,n1]) λj hj=> ?_⟩;rw[n1] at hj;rw[n2 j hj];exact l2 j hj
theorem aI.valueOf {P:Program}(R:Rel X D π g a w){t:TypeId}{b m:Nat}{o:cG}{v:RV}{l:List Fp}(h:aI (valueOf P t b o m) g v l){B s q' e:Nat}(hb:π b=some (B,s,q',e))(hm:o.val+m<=q'):
  ∃x,(loadVar t ⟨B,s+o.val,none⟩).run P w=.ok x w/\v.rel π x:=by
 obtain⟨u,⟨_,h1⟩,_,h⟩:=aI.bind' h;obtain⟨x,hx,hr⟩:=aI.ZW R h1 hb hm;exact⟨x,hx,h.ap8 hr⟩
theorem aI.partOf {P:Program}{t:TypeId}{cs:aj}{o:cG}{v:RV}{l:List Fp}(h:aI (partOf P t cs o) g v l){n:Nat}(hn:iz P t=some n)(hn1:1<=n)(hle:o.val+n<=aj.size cs){xs:Array Value}(hx:bu (CV.rel π) cs.list xs.toList)(w:World):
  ∃x,(part t xs o.val).run P w=.ok x w/\v.rel π x:=by
 obtain⟨u,⟨_,h1⟩,_,h⟩:=aI.bind' h;obtain⟨x,hx1,hr⟩:=aI.aKx h1 hn hn1 hle hx w;exact⟨x,hx1,h.ap8 hr⟩
theorem aI.Ow {P:Program}{t:TypeId}{cs:aj}{c:Nat}{v:RV}{l:List Fp}(h:aI (Ow P t cs c) g v l){xs:Array Value}(hx:bu (CV.rel π) cs.list xs.toList)(w:World):
  ∃x,(part t xs c).run P w=.ok x w/\v.rel π x:=by
 obtain⟨n,⟨_,h1⟩,_,h⟩:=aI.bind' h;obtain⟨_,⟨_,h2⟩,_,h⟩:=aI.bind' h;have h2:=h2.cL;simp only[cK,fm] at h2;exact h.partOf h1.dY h2.1 h2.2 hx w
end
def cH (us:List Up):Nat:=(us.filter λ|.new _ _=>true|_=>false).length
def Up.perm (k:Nat)(D:Nat->Prop):Up->Prop
 |.c b _ _|.kill b=>b<k->D b
 |_=>True
def AB (P:Program)(o:Oper)(X:Cx)(D:Nat->Prop)(aM:Nat)(us:List Up)(g:Gt):Prop:=
 ∀π a w (next:Act->World->Prop) (Q:Exit->Act->World->Prop),Rel X D π g a w->X.k<=aM->(∀b,aM<=b->b<aM+cH us->π b=none)->(∀d,o.dst=some d->d<X.N)->(∀u∈us,u.perm X.k D)->
  (∀a' w' π',Ext π π'->(∀b,π' b≠none->π b≠none∨(aM<=b/\b<aM+cH us))->Rel X D π' (cI us g) a' w'->next a' w')->o.wp P a w next Q
section
variable {P:Program} {o:Oper} {X:Cx} {D:Nat->Prop} {aM:Nat} {us:List Up} {g:Gt}
omit [aA] in
theorem Ql {a:Act}{w w':World}{x:Value}{next:Act->World->Prop}{Q:Exit->Act->World->Prop}(h:(execOp a.eval o).run P w=.ok (.value x) w')(hn:next (a.put o.dst x) w'):o.wp P a w next Q:=by
 unfold Oper.wp;rw[h];exact hn
omit [aA] in
theorem aZB {a:Act}{w w':World}{next:Act->World->Prop}{Q:Exit->Act->World->Prop}(h:(execOp a.eval o).run P w=.ok .skip w')(hn:next (a.put o.dst undef) w'):o.wp P a w next Q:=by
 unfold Oper.wp;rw[h];exact hn
theorem il {v:AV}(h:∀π a w,Rel X D π g a w->∃x,(execOp a.eval o).run P w=.ok (.value x) w/\v.rel π x):AB P o X D aM (dL o.dst v) g:=by
 intro π a w next Q R hk hf hd hD hn;obtain⟨x,h1,h2⟩:=h π a w R;exact Ql h1 (hn _ _ π (Ext.refl _) (λb h=>.inl h) (R.dst hd h2))
theorem asX (π:Pi):udf.rel π undef:=⟨#[],rfl,trivial⟩
theorem aEI {x:Operand}{fp:List Fp}(ho:o.op=.move x∨o.op=.assign x)(h:aI ((Er x).bind λv=>.ret (dL o.dst v)) g us fp):AB P o X D aM us g:=by
 obtain⟨v,⟨_,h1⟩,_,h2⟩:=aI.bind' h;cases h2;refine il λπ a w R=>⟨a.eval x,?_,h1.Er R⟩
 rcases ho with ho|ho<;>simp[execOp,ho]
theorem aQv {c x y:Operand}{fp:List Fp}(ho:o.op=.pick c x y)(h:aI ((aIt c).bind λz=>.test z λ|true=>(Er x).bind λv=>.ret (dL o.dst v)|false=>(Er y).bind λv=>.ret (dL o.dst v)) g us fp):AB P o X D aM us g:=by
 obtain⟨z,⟨_,h1⟩,_,h2⟩:=aI.bind' h;cases h2 with|test h2=>
 cases z with
 |true=>
  obtain⟨v,⟨_,h3⟩,_,h4⟩:=aI.bind' h2;cases h4;refine il λπ a w R=>⟨a.eval x,?_,h3.Er R⟩
  simp[execOp,ho,h1.aIt R,asBool]
 |false=>
  obtain⟨v,⟨_,h3⟩,_,h4⟩:=aI.bind' h2;cases h4;refine il λπ a w R=>⟨a.eval y,?_,h3.Er R⟩
  simp[execOp,ho,h1.aIt R,asBool]
theorem Z3:∀(ks:List (Option (Nat×List CK))) (b:aj) (aM:Nat),aj.size (SW ks b aM).1=aj.size b/\(∀e∈(SW ks b aM).2,aj.size e=0)/\
  ∀π:Pi,(∀i,i<(SW ks b aM).2.length->π (aM+i)=some (0,0,0,0))->∀j,j<aj.size b->∀v,(aj.get b j).rel π v->(aj.get (SW ks b aM).1 j).rel π v
 |_,[],_=>⟨rfl,λe h=>by simp[SW] at h,λ_ _ _ _ _ h=>h⟩
 |ks,.a n cols::r,b=>by
  obtain⟨h1,h2,h3⟩:=Z3 (ks.drop (n.val*cols.length)) r b;refine⟨by rw[SW,aj.size_cons,aj.size_cons,h1],h2,λπ hp j hj v hv=> ?_⟩;rw[aj.size_cons] at hj;rw[SW];by_cases lC:j<(Sg.a n cols).size
  .rw[aj.dF lC] at hv ⊢;exact hv
  .rw[aj.kH (by omega)] at hv ⊢;exact h3 π hp _ (by omega) v hv
 |ks,.c v::r,b=>by
  unfold SW;split
  .rename_i z k ks
   obtain⟨h1,h2,h3⟩:=Z3 ks r (b+1);refine⟨by rw[aj.size_cons,aj.size_cons,h1];rfl,λe he=> ?_,λπ hp j hj v hv=> ?_⟩
   .rcases abJ.1 he with rfl|he
    .simp[aj.size,Sg.size,Sz.val]
    .exact h2 e he
   .rw[aj.size_cons,Sg.kh] at hj;cases j with
    |zero=>
     have hv:v=.slice none 0 0:=hv;subst hv;exact⟨0,0,0,0,by simpa using hp 0 (by simp),by simp[cG.val,Sz.val],λ_=>by simp[cG.val,Sz.val],.inl ⟨rfl,none,rfl⟩⟩
    |succ j=>
     rw[aj.kH (by rw[Sg.kh];omega)] at hv ⊢;exact h3 π (λi hi=>by have:=hp (i+1) (by simpa using hi);rwa [show b+1+i=b+(i+1) by omega]) _ (by rw[Sg.kh];omega) v hv
  .obtain⟨h1,h2,h3⟩:=Z3 (ks.drop 1) r b;refine⟨by rw[aj.size_cons,aj.size_cons,h1],h2,λπ hp j hj v hv=> ?_⟩;rw[aj.size_cons,Sg.kh] at hj;cases j with
   |zero=>exact hv
   |succ j=>
    rw[aj.kH (by rw[Sg.kh];omega)] at hv ⊢;exact h3 π hp _ (by rw[Sg.kh];omega) v hv
theorem auJ (P:Program)(t:TypeId)(b:aj)(aM:Nat):aj.size (iL P t b aM).1=aj.size b/\(∀e∈(iL P t b aM).2,aj.size e=0)/\
  ∀π:Pi,(∀i,i<(iL P t b aM).2.length->π (aM+i)=some (0,0,0,0))->∀xs,bu (CV.rel π) b.list xs->bu (CV.rel π) (aj.list (iL P t b aM).1) xs:=by
 unfold iL;split
 .obtain⟨h1,h2,h3⟩:=Z3 (aKA P 30 t) b aM;refine⟨h1,h2,λπ hp xs hx=> ?_⟩;obtain⟨l1,l2⟩:=iX hx;refine yp (by rw[h1,l1]) λj hj=> ?_;rw[h1] at hj;obtain⟨x,hx1,hx2⟩:=l2 j hj;exact⟨x,hx1,h3 π hp j hj x hx2⟩
 .exact⟨rfl,λe he=>by simp at he,λ_ _ _ h=>h⟩
omit [aA] in
theorem aIC (us vs:List Up):cH (us++vs)=cH us+cH vs:=by simp[cH]
omit [aA] in
theorem asY:∀(es:List aj) (aM:Nat),cH (Cg es aM)=es.length
 | [],_=>rfl
 |e::es,aM=>by
  have:=asY es (aM+1);unfold cH at this ⊢;simp only[Cg,List.filter_cons,lr,LJ,this]
omit [aA] in
theorem aEJ (us vs:List Up)(g:Gt):cI (us++vs) g=cI vs (cI us g):=by simp[cI]
theorem Rel.aEK {a:Act}{w:World}:∀{es:List aj} {aM:Nat} {π:Pi} {g:Gt},(∀e∈es,aj.size e=0)->Rel X D π g a w->X.k<=aM->(∀b,aM<=b->b<aM+es.length->π b=none)->
  ∃π',Ext π π'/\(∀b,π' b≠none->π b≠none∨(aM<=b/\b<aM+es.length))/\(∀i,i<es.length->π' (aM+i)=some (0,0,0,0))/\Rel X D π' (cI (Cg es aM) g) a w
 | [],aM,π,g,_,R,_,_=>⟨π,Ext.refl _,λ_ h=>.inl h,λi hi=>by simp at hi,R⟩
 |e::es,aM,π,g,he,R,hk,hf=>by
  have h0:=hf aM (cR _) (by simp);have he0:=he e (by simp);have hx0:=Ba h0 (0,0,aj.size e,0)
  have R1:=(R.LU hx0 (λb hb=>by simp only[AH];rw[if_neg (by omega)])).new (k:=e) (pU π aM (0,0,aj.size e,0)) hk (by omega) (λi _ i2=>by omega) (λj hj=>by omega)
    (λ_ _ _ _ _ _ _ _ _ i2=>by omega) (λ_ _ _ i2=>by omega)
  obtain⟨π',e1,e2,e3,R2⟩:=Rel.aEK (es:=es) (aM:=aM+1) (λe h=>he e (by simp[h])) R1 (by omega) (λb h1 h2=>by
   simp only[AH];rw[if_neg (by omega)];exact hf b (by omega) (by simp only[LJ];omega))
  refine⟨π',hx0.trans e1,λb hb=> ?_,λi hi=> ?_,R2⟩
  .rcases e2 b hb with h|h
   .simp only[AH] at h;by_cases eb:b=aM
    .right;simp only[LJ];omega
    .rw[if_neg eb] at h;exact .inl h
   .right;simp only[LJ];omega
  .cases i with
   |zero=>
    have:=e1 aM _ (pU π aM (0,0,aj.size e,0));rw[he0] at this;simpa using this
   |succ i=>
    have:=e3 i (by simpa using hi);rwa [show aM+1+i=aM+(i+1) by omega] at this
theorem aEL {v:RV}{t:TypeId}(h:∀π a w,Rel X D π g a w->∃x,v.rel π x/\(execOp a.eval o).run P w=.ok (.value (.pointer (some ⟨w.heap.size,0,none⟩))) (w.alloc (.cells x.cells t))):
  AB P o X D aM (Cg (iL P t v.bY aM).2 aM++auv o.dst (aM+(iL P t v.bY aM).2.length) (aj.size (iL P t v.bY aM).1) (iL P t v.bY aM).1) g:=by
 obtain⟨n1,n2,n3⟩:=auJ P t v.bY aM;generalize (iL P t v.bY aM).1=k at n1 n2 n3
 generalize (iL P t v.bY aM).2=es at n1 n2 n3
 intro π a w next Q R hk hf hd hD hn;obtain⟨x,hx,h1⟩:=h π a w R
 have hcn:cH (Cg es aM++auv o.dst (aM+es.length) (aj.size k) k)=es.length+1:=by
  rw[aIC,asY];unfold auv dL cH;cases o.dst<;>rfl
 rw[hcn] at hf hn;obtain⟨π1,e1,e2,e3,R1⟩:=R.aEK n2 hk (λb h1 h2=>hf b h1 (by omega));obtain⟨hl,hc⟩:=iX (n3 π1 e3 _ (RV.OA (RV.dz e1 _ _ hx)));have hl':x.cells.size=aj.size k:=by simpa using hl
 have h0:π1 (aM+es.length)=none:=by
  cases hh:π1 (aM+es.length) with
  |none=>rfl
  |some p=>
   rcases e2 (aM+es.length) (by rw[hh];simp) with h|h
   .exact absurd (hf _ (by omega) (by omega)) h
   .omega
 have R2:=R1.alloc (k:=k) (cs:=x.cells) (t:=t) (e:=x.cells.size) h0 (by omega) (by omega) (cR _) (λj hj=>by
  obtain⟨y,hy,hr⟩:=hc j hj;exact⟨y,by simpa using hy,hr⟩)
 refine Ql h1 (hn _ _ (AH π1 (aM+es.length) (w.heap.size,0,aj.size k,x.cells.size)) (e1.trans (Ba h0 _)) (λb hb=> ?_) ?_)
 .simp only[AH] at hb;by_cases e:b=aM+es.length
  .subst e;exact .inr ⟨by omega,by omega⟩
  .simp only[e,fT] at hb;rcases e2 b hb with h|h
   .exact .inl h
   .exact .inr ⟨h.1,by omega⟩
 .have R3:=R2.dst hd (v:=.r (.c (.ptr (aM+es.length) (.k 0) (aj.size k)))) (x:=.pointer (some ⟨w.heap.size,0,none⟩)) ⟨_,_,_,_,pU _ _ _,rfl,by simp[cG.val]⟩
  have e:cI (Cg es aM++auv o.dst (aM+es.length) (aj.size k) k) g=cI (dL o.dst (.r (.c (.ptr (aM+es.length) (.k 0) (aj.size k))))) ((Up.new (aM+es.length) k).gG (cI (Cg es aM) g)):=by
   rw[aEJ];unfold auv dL;cases o.dst<;>rfl
  rw[e];exact R3
theorem aM4 {e:TypeId}{fp:List Fp}(ho:o.op=.alloc e)(h:aI ((Ab.dY (A7 P e)).bind λz=>.ret (Cg (iL P e z.bY aM).2 aM++auv o.dst (aM+(iL P e z.bY aM).2.length) (aj.size (iL P e z.bY aM).1) (iL P e z.bY aM).1)) g us fp):AB P o X D aM us g:=by
 obtain⟨z,⟨_,h1⟩,_,h2⟩:=aI.bind' h;cases h2;refine aEL (t:=e) λπ a w R=> ?_;obtain⟨x,hx,_,hr⟩:=adM h1.dY w;refine⟨x,hr π,?_⟩;simp[execOp,ho,Instr.alloc,hx,newVar,LV]
theorem aTb {t:TypeId}{x:Operand}{fp:List Fp}(ho:o.op=.box t x)(h:aI ((wi x).bind λv=>.ret (Cg (iL P t v.bY aM).2 aM++auv o.dst (aM+(iL P t v.bY aM).2.length) (aj.size (iL P t v.bY aM).1) (iL P t v.bY aM).1)) g us fp):AB P o X D aM us g:=by
 obtain⟨z,⟨_,h1⟩,_,h2⟩:=aI.bind' h;cases h2;refine aEL (t:=t) λπ a w R=>⟨_,h1.wi R,?_⟩
 simp[execOp,ho,Instr.box,newVar,LV]
theorem aTc {π:Pi}{a:Act}{w:World}(R:Rel X D π g a w){l:List FV}{B s:Nat}(h:∀j f,l[j]? =some f->∃v,aA.fs B (s+j)=some v/\f.rel v):∃xs:List Value,xs.length=l.length/\bu (CV.rel π) (aj.list (aEk l)) xs/\∀j v,xs[j]? =some v->cl w B (s+j)=some v:=by
 have cell:∀j f,l[j]? =some f->∃v,cl w B (s+j)=some v/\f.rel v:=λj f hj=>by
  obtain⟨v,h1,h2⟩:=h j f hj;exact⟨v,(R.hp.am.st _ _ _ h1).2,h2⟩
 have yG:aj.size (aEk l)=l.length:=(Wq (λv:FV=>CV.f v) l 0).1;refine⟨(List.range l.length).map λj=>(cl w B (s+j)).getD undef,by simp,yp (by simp[yG]) λj hj=> ?_,λj v hv=> ?_⟩
 .rw[yG] at hj;obtain⟨v,hv,hr⟩:=cell j _ (kt hj);refine⟨v,?_,?_⟩
  .rw[Ce,List.getElem?_range hj];simp[hv]
  .rw[show aEk l=l.map λv=>Sg.c (.f v) from rfl,(Wq (λv:FV=>CV.f v) l j).2 _ (kt hj)];exact hr
 .have hjn:j<l.length:=by
   have:=(lA.1 hv).1;simpa using this
  obtain⟨u,hu,_⟩:=cell j _ (kt hjn);simp[hjn,hu] at hv
  rw[hu,hv]
theorem aI.aEl {P:Program}{π:Pi}{a:Act}{w:World}(R:Rel X D π g a w){t:TypeId}{fl:List FV}{v:RV}{l:List Fp}(h:aI (aEl P t fl) g v l){x:Value}(hx:(CV.fp fl).rel π x):
  ∃B s y,x=.pointer (some ⟨B,s,none⟩)/\(loadVar t ⟨B,s,none⟩).run P w=.ok y w/\v.rel π y:=by
 obtain⟨B,s,rfl,hc⟩:=hx;obtain⟨xs,hl,hx,Es⟩:=aTc R hc;obtain⟨ag,⟨_,h1⟩,_,h⟩:=aI.bind' h;obtain⟨n,⟨_,h2⟩,_,h⟩:=aI.bind' h;have h1:=h1.dY;have h2:=h2.dY;cases ag with
 |true=>
  obtain⟨_,⟨_,h3⟩,_,h⟩:=aI.bind' h;have h3:=beq_iff.1 h3.cL;refine⟨B,s,.agg xs.toArray,rfl,?_,h.ap8 ⟨_,rfl,hx⟩⟩;have:=Z2 (P:=P) Es;rw[hl,<-h3] at this;simp[loadVar,Ke h1,run_sizeOf h2,this]
 |false=>
  cases fl with
  |nil=>cases h
  |cons f fl=>
   match xs,hl with
   |x::xs,_=>
    have hcx:=Es 0 x rfl;simp only[jH] at hcx;refine⟨B,s,x,rfl,?_,?_⟩
    .simp only[cl] at hcx;simp[loadVar,Ke h1,hcx]
    .have:=(iX hx).2 0 (by rw[show aEk (f::fl)=(f::fl).map λv=>Sg.c (.f v) from rfl,(Wq (λv:FV=>CV.f v) (f::fl) 0).1];simp);obtain⟨y,hy,hr⟩:=this;cases hy;exact aI.ap8 (c:=.c (.f f)) h hr
theorem aQw {t:TypeId}{x:Operand}{fp:List Fp}(ho:o.op=.load t x)(h:aI ((HE x).bind λ
  |.ptr b q n=>(valueOf P t b q n).bind λv=>.ret (dL o.dst (.r v))
  |.fp l=>(aEl P t l).bind λv=>.ret (dL o.dst (.r v))
  |_=>.fail) g us fp):AB P o X D aM us g:=by
 obtain⟨p,⟨_,h1⟩,_,h2⟩:=aI.bind' h;split at h2
 .obtain⟨v,⟨_,h3⟩,_,h4⟩:=aI.bind' h2;cases h4;refine il λπ a w R=> ?_;obtain⟨B,s,q,e,hb,ha,hm⟩:=h1.HE R;obtain⟨y,hy,hr⟩:=aI.valueOf R h3 hb hm;refine⟨y,?_,hr⟩;simp[execOp,ho,Instr.loadAt,ha,Instr.sureAddr,hy]
 .obtain⟨v,⟨_,h3⟩,_,h4⟩:=aI.bind' h2;cases h4;refine il λπ a w R=> ?_;obtain⟨B,s,y,ha,hy,hr⟩:=aI.aEl R h3 (h1.HE R);refine⟨y,?_,hr⟩;simp[execOp,ho,Instr.loadAt,ha,Instr.sureAddr,hy]
 .cases h2
end
end Go.Ab
