/-
  Parts of the proof: AbA AbS AbM AbO
-/
import Derived.Test.YtldgljclcgaibaaGreatZAA
import Derived.Laws.IdiomCopy
import Derived.Laws.Cells
import Derived.Laws.Entries
set_option linter.unusedVariables false
set_option linter.unusedSimpArgs false
namespace Go.Ab
theorem cI.aNB (c:cI)(d j:Nat):(c.shift d).at j=c.at (d+j):=by cases c<;>rfl
theorem cI.aVd (c:cI)(d j:Nat):(c.up d).at j=c.at (j-d):=by cases c<;>rfl
theorem beq_iff {a b:Nat}:Nat.beq a b=true↔a=b:=⟨Nat.eq_of_beq_eq_true,λh=>h▸Nat.beq_refl a⟩
theorem beq_false {a b:Nat}(h:a≠b):Nat.beq a b=false:=by
 rw[Bool.eq_false_iff];exact λe=>h (beq_iff.1 e)
theorem rr {a b:Nat}:Nat.blt a b=true↔a<b:=by simp[Nat.blt];omega
theorem adg {a b:Nat}(h:¬a<b):Nat.blt a b=false:=by
 rw[Bool.eq_false_iff];exact λe=>h (rr.1 e)
theorem eA {a b:Nat}:Nat.ble a b=true↔a<=b:=by rw[Nat.ble_eq]
theorem auq {α:Type}(j e:Nat)(x y:α):(cond (Nat.beq j e) x y)=if j=e then x else y:=by
 by_cases h:j=e
 ·rw[if_pos h,beq_iff.2 h];rfl
 ·rw[if_neg h,beq_false h];rfl
theorem cI.aRA {c c':cI}{e:Nat}{v:CV}(h:c.aMR e v=some c'):∀j,CV.f (c'.at j)=if j=e then v else .f (c.at j):=by
 intro j
 unfold cI.aMR at h
 split at h
 ·split at h
  ·cases h
   rename_i hk
   subst hk
   simp only[cI.at,auq]
   split<;>rfl
  ·cases h
 ·cases h
  simp only[cI.at,auq]
  split<;>rfl
 ·cases h
  simp only[cI.at,auq]
  split<;>rfl
 ·cases h
theorem cI.aTl {p:Nat->Bool}{c d e:cI}(h:cI.mrg p c d=some e):∀j,e.at j=if p j=true then c.at j else d.at j:=by
 intro j
 unfold cI.mrg at h
 split at h
 ·split at h
  ·cases h
   rename_i hk
   subst hk
   simp only[cI.at]
   cases p j<;>rfl
  ·cases h
 ·cases h
  simp only[cI.at]
  cases p j<;>rfl
 ·cases h
  simp only[cI.at]
  cases p j<;>rfl
 ·cases h
def gK (cols:List cI)(j:Nat):CV:=match cols[j%cols.length]? with
 |some q=>.f (q.at (j/cols.length))
 |none=>.f .u
theorem Sg.mZ (n:Sz)(cols:List cI)(j:Nat):(Sg.a n cols).get j=gK cols j:=rfl
theorem adh {p:Nat->Bool}:∀{cs ds es:List cI},aq0 p cs ds=some es->es.length=cs.length∧ds.length=cs.length∧
  ∀(i:Nat) c d,cs[i]? =some c->ds[i]? =some d->∃e,es[i]? =some e∧∀j,e.at j=if p j=true then c.at j else d.at j
 | [],[],es,h=>by
  simp only[aq0,Option.some.injEq] at h
  subst h
  exact⟨rfl,rfl,λi c d hc=>by simp at hc⟩
 |c::cs,d::ds,es,h=>by
  simp only[aq0] at h
  split at h
  ·rename_i e es' h1 h2
   cases h
   obtain⟨a1,a2,a3⟩:=adh h2
   refine⟨by simp[a1],by simp[a2],λi c' d' hc hd=> ?_⟩
   cases i with
   |zero=>
    simp only[List.getElem?_cons_zero,Option.some.injEq] at hc hd
    subst hc hd
    exact⟨e,rfl,cI.aTl h1⟩
   |succ i=>exact a3 i c' d' (by simpa using hc) (by simpa using hd)
  ·cases h
 | [],_::_,_,h=>by simp[aq0] at h
 |_::_,[],_,h=>by simp[aq0] at h
theorem aAr {p:Nat->Bool}{cs ds es:List cI}(h:aq0 p cs ds=some es)(j:Nat):gK es j=if p (j/cs.length)=true then gK cs j else gK ds j:=by
 obtain⟨a1,a2,a3⟩:=adh h
 unfold gK
 rw[a1,a2]
 by_cases hl:j%cs.length<cs.length
 ·have hc:cs[j%cs.length]? =some (cs[j%cs.length]'hl):=List.getElem?_eq_getElem _
  have hd:ds[j%cs.length]? =some (ds[j%cs.length]'(by omega)):=List.getElem?_eq_getElem _
  obtain⟨e,he,ha⟩:=a3 _ _ _ hc hd
  rw[he,hc,hd]
  simp only[ha]
  split<;>rfl
 ·rw[List.getElem?_eq_none (by omega),List.getElem?_eq_none (by omega),List.getElem?_eq_none (by omega)]
  exact(ite_self _).symm
theorem awi (cols:List cI)(e j:Nat):gK (cols.map (cI.shift e)) j=gK cols (e*cols.length+j):=by
 unfold gK
 rw[List.length_map,List.getElem?_map,Nat.mul_comm,Nat.mul_add_mod]
 by_cases hl:cols.length=0
 ·have:cols=[]:=List.length_eq_zero_iff.1 hl
  subst this;rfl
 ·rw[Nat.mul_add_div (by omega)]
  cases cols[j%cols.length]? with
  |none=>rfl
  |some q=>simp only[Option.map_some,cI.aNB]
theorem aH2 (cols:List cI)(d j:Nat)(h:d*cols.length<=j):gK (cols.map (cI.up d)) j=gK cols (j-d*cols.length):=by
 unfold gK
 rw[List.length_map,List.getElem?_map]
 by_cases hl:cols.length=0
 ·have:cols=[]:=List.length_eq_zero_iff.1 hl
  subst this;rfl
 ·obtain⟨m,rfl⟩:∃m,j=cols.length*d+m:=⟨j-cols.length*d,by rw[Nat.mul_comm] at h;omega⟩
  rw[Nat.mul_add_mod,Nat.mul_add_div (by omega),Nat.mul_comm d,Nat.add_sub_cancel_left]
  cases cols[m%cols.length]? with
  |none=>rfl
  |some q=>simp only[Option.map_some,cI.aVd,Nat.add_sub_cancel_left]
theorem af.c9 {s:Sg}{l:af}{j:Nat}(h:j<s.size):af.get (s::l) j=s.get j:=by simp[af.get,h]
theorem af.jw {s:Sg}{l:af}{j:Nat}(h:s.size<=j):af.get (s::l) j=af.get l (j-s.size):=by
 rw[af.get,if_neg (by omega)]
theorem af.oI {n:Nat}{cols:List cI}{l:af}{j j':Nat}(h:n*cols.length<=j)(e:j'=j-n*cols.length):af.get l j'=af.get (.a (.l n) cols::l) j:=by
 rw[af.jw (s:=.a (.l n) cols) h,e];rfl
theorem af.jf {v:CV}{l:af}{j j':Nat}(h:1<=j)(e:j'=j-1):af.get l j'=af.get (.c v::l) j:=by
 rw[af.jw (s:=.c v) h,e];rfl
theorem af.size_cons (s:Sg)(l:af):af.size (s::l)=s.size+af.size l:=rfl
theorem af.jS:af.size []=0:=rfl
theorem Sg.jd (v:CV):(Sg.c v).size=1:=rfl
theorem Sg.jU (n:Sz)(cols:List cI):(Sg.a n cols).size=n.val*cols.length:=rfl
theorem af.size_append (a b:af):af.size (a++b)=af.size a+af.size b:=by
 induction a with
 |nil=>simp[af.size]
 |cons s a ih=>simp only[List.cons_append,af.size,ih];omega
theorem af.get_append (a b:af)(j:Nat):af.get (a++b) j=if j<af.size a then af.get a j else af.get b (j-af.size a):=by
 induction a generalizing j with
 |nil=>simp[af.size]
 |cons s a ih=>
  rw[List.cons_append,af.size_cons]
  by_cases h:j<s.size
  ·rw[af.c9 h,af.c9 h,if_pos (by omega)]
  ·rw[af.jw (by omega),af.jw (by omega),ih]
   by_cases h2:j-s.size<af.size a
   ·rw[if_pos h2,if_pos (by omega)]
   ·rw[if_neg h2,if_neg (by omega)];congr 1;omega
theorem af.arf (k:af):k.list.length=k.size:=by simp[af.list]
theorem af.adi (k:af)(j:Nat):k.list[j]? =if j<k.size then some (k.get j) else none:=by
 simp only[af.list,List.getElem?_map]
 split
 ·rename_i h;simp[h]
 ·rename_i h;rw[List.getElem?_eq_none (by simp;omega)];rfl
theorem Tq {α:Type}(f:α->CV)(l:List α)(j:Nat):af.size (l.map λa=>Sg.c (f a))=l.length∧∀a,l[j]? =some a->af.get (l.map λa=>Sg.c (f a)) j=f a:=by
 induction l generalizing j with
 |nil=>exact⟨rfl,λa h=>by simp at h⟩
 |cons x l ih=>
  refine⟨by simp only[List.map_cons,af.size,Sg.size,(ih 0).1,List.length_cons];omega,λa h=> ?_⟩
  cases j with
  |zero=>simp at h;subst h;rfl
  |succ j=>exact(ih j).2 a (by simpa using h)
theorem awj {sh:Bool}{cols:List cI}{e mx:Nat}{bY:Sz}{z:Nat}{v:af}(h:aFS sh cols e mx bY z=some v)(he:sh=false->e=0):
  af.size v=bY.val*z∧∀j,j<bY.val*z->af.get v j=gK cols (e*cols.length+mx+j):=by
 unfold aFS at h
 split at h
 ·rename_i hc
  cases h
  simp only[Bool.and_eq_true,beq_iff] at hc
  obtain⟨rfl,hz⟩:=hc
  have hm:∀k,(bY.mul k).val=bY.val*k:=λk=>by
   unfold Sz.mul
   split
   ·rename_i hk;rw[beq_iff] at hk;subst hk;simp
   ·cases bY<;>rfl
  have hlen:(shC sh e cols).length=cols.length:=by cases sh<;>simp[shC]
  have vx:(bY.mul (z/cols.length)).val*cols.length=bY.val*z:=by
   rw[hm,Nat.mul_assoc,Nat.div_mul_cancel (Nat.dvd_of_mod_eq_zero hz)]
  refine⟨by simp only[af.size,Sg.size,hlen,vx,Nat.add_zero],λj hj=> ?_⟩
  rw[af.c9 (by simp only[Sg.size,hlen,vx];exact hj),Sg.mZ,Nat.add_zero]
  cases sh with
  |true=>exact awi ..
  |false=>rw[he rfl,Nat.zero_mul,Nat.zero_add];rfl
 ·cases h
theorem Jg {sh:Bool}{cols:List cI}{e mx:Nat}{bY:Sz}{z:Nat}{v:af}(h:rowsOf sh cols e mx bY z=some v)(he:sh=false->e=0):
  af.size v=bY.val*z∧∀j,j<bY.val*z->af.get v j=gK cols (e*cols.length+mx+j):=by
 unfold rowsOf at h
 split at h
 ·rename_i n
  split at h
  ·rename_i hc
   cases h
   simp only[Bool.and_eq_true,beq_iff,eA] at hc
   obtain⟨rfl,hle⟩:=hc
   have hl:((cols.drop mx).take z).length=z:=by simp;omega
   refine⟨by rw[(Tq _ _ 0).1,hl];simp[Sz.val],λj hj=> ?_⟩
   simp only[Sz.val,Nat.one_mul] at hj
   have hg:((cols.drop mx).take z)[j]? =some (cols[mx+j]'(by omega)):=by
    rw[List.getElem?_take,if_pos hj,List.getElem?_drop,List.getElem?_eq_getElem]
   rw[(Tq (λq:cI=>CV.f (q.at e)) _ j).2 _ hg]
   unfold gK
   rw[show e*cols.length+mx+j=cols.length*e+(mx+j) by rw[Nat.mul_comm];omega,Nat.mul_add_mod,Nat.mul_add_div (by omega),Nat.mod_eq_of_lt (by omega),Nat.div_eq_of_lt (by omega),List.getElem?_eq_getElem (by omega)]
   rfl
  ·exact awj h he
 ·exact awj h he
theorem Xm:∀{b v:af} {m:Nat},Tl b m=some v->af.size v=m∧∀j,j<m->af.get v j=af.get b j
 | [],v,m,h=>by
  cases m with
  |zero=>simp[Tl] at h;subst h;exact⟨rfl,λj hj=>by omega⟩
  |succ m=>simp[Tl] at h
 |.c x::r,v,m,h=>by
  cases m with
  |zero=>simp[Tl] at h;subst h;exact⟨rfl,λj hj=>by omega⟩
  |succ m=>
   simp only[Tl,Option.map_eq_some_iff] at h
   obtain⟨v',h1,rfl⟩:=h
   obtain⟨e1,e2⟩:=Xm h1
   refine⟨by simp only[af.size,Sg.size,e1];omega,λj hj=> ?_⟩
   cases j with
   |zero=>rfl
   |succ j=>rw[af.jw (by simp[Sg.size]),af.jw (by simp[Sg.size])];exact e2 _ (by simp[Sg.size];omega)
 |.a n cols::r,v,m,h=>by
  cases m with
  |zero=>simp[Tl] at h;subst h;exact⟨rfl,λj hj=>by omega⟩
  |succ m=>
   simp only[Tl] at h
   split at h
   ·cases h
   ·rename_i n
    split at h
    ·rename_i hle
     rw[eA] at hle
     simp only[Option.map_eq_some_iff] at h
     obtain⟨v',h1,rfl⟩:=h
     obtain⟨e1,e2⟩:=Xm h1
     refine⟨by simp only[af.size,Sg.size,Sz.val,e1];omega,λj hj=> ?_⟩
     by_cases jX:j<n*cols.length
     ·rw[af.c9 (by simpa[Sg.size,Sz.val] using jX),af.c9 (by simpa[Sg.size,Sz.val] using jX)]
     ·rw[af.jw (by simp[Sg.size,Sz.val];omega),af.jw (by simp[Sg.size,Sz.val];omega)]
      exact e2 _ (by simp[Sg.size,Sz.val];omega)
    ·rename_i hle
     have hle:¬n*cols.length<=m+1:=λhc=>by rw[eA.2 hc] at hle;cases hle
     obtain⟨e1,e2⟩:=Jg h (λ_=>rfl)
     simp only[Sz.val,Nat.one_mul,Nat.zero_mul,Nat.zero_add] at e1 e2
     refine⟨e1,λj hj=> ?_⟩
     rw[e2 j hj,af.c9 (by simp[Sg.size,Sz.val];omega)]
     rfl
theorem aEn {n:Nat}(h:nz n=false):n=0:=by cases n<;>first|rfl|cases h
theorem Sh (c l:Nat):c/l*l+c%l=c:=by rw[Nat.mul_comm];exact Nat.div_add_mod c l
theorem LS:∀{b v:af} {c:Nat} {bY:Sz} {z:Nat},ah2 b c bY z=some v->af.size v=bY.val*z∧(c+bY.val*z<=af.size b->∀j,j<bY.val*z->af.get v j=af.get b (c+j))
 | [],v,c,bY,z,h=>by
  simp only[ah2] at h
  split at h
  ·split at h
   ·rename_i n hn
    rw[beq_iff] at hn
    cases h
    exact⟨by simp[af.size,Sz.val,hn],λ_ j hj=>by simp only[Sz.val] at hj;omega⟩
   ·cases h
  ·cases h
 |.c x::r,v,c,bY,z,h=>by
  cases c with
  |zero=>
   simp only[ah2] at h
   split at h
   ·obtain⟨e1,e2⟩:=Xm h
    exact⟨e1,λ_ j hj=>by rw[Nat.zero_add];exact e2 j hj⟩
   ·cases h
  |succ c=>
   simp only[ah2] at h
   obtain⟨e1,e2⟩:=LS h
   refine⟨e1,λhle j hj=> ?_⟩
   simp only[af.size,Sg.size] at hle
   rw[e2 (by omega) j hj]
   exact af.jf (by omega) (by omega)
 |.a n cols::r,v,c,bY,z,h=>by
  simp only[ah2] at h
  split at h
  ·obtain⟨e1,e2⟩:=Jg h aEn
   rw[Sh] at e2
   refine⟨e1,λhle j hj=> ?_⟩
   simp only[af.size,Nat.add_zero] at hle
   rw[e2 j hj,af.c9 (by omega),Sg.mZ]
  ·split at h
   ·rename_i n m
    split at h
    ·rename_i hle
     rw[eA] at hle
     obtain⟨e1,e2⟩:=LS h
     refine⟨e1,λaa5 j hj=> ?_⟩
     rw[af.size_cons,Sg.jU] at aa5
     simp only[Sz.val] at aa5
     have e3:=e2 (by simp only[Sz.val];omega) j hj
     rw[e3]
     exact af.oI (by omega) (by omega)
    ·split at h
     ·rename_i aa5
      rw[eA] at aa5
      obtain⟨e1,e2⟩:=Jg h aEn
      rw[Sh] at e2
      refine⟨e1,λ_ j hj=> ?_⟩
      rw[e2 j hj,af.c9 (by simp only[Sg.size,Sz.val] at hj ⊢;omega),Sg.mZ]
     ·split at h
      ·obtain⟨e1,e2⟩:=Xm h
       exact⟨e1,λ_ j hj=>by rw[Nat.zero_add];exact e2 j hj⟩
      ·cases h
   ·cases h
theorem adj {c i z l:Nat}(h:z%l=0):elemOf c i z l*l+c%l=c+i*z:=by
 unfold elemOf
 split
 ·rename_i hz
  rw[beq_iff] at hz
  subst hz
  have hd:=Sh c z
  cases hq:c/z with
  |zero=>
   rw[hq] at hd
   simp only
   omega
  |succ q=>
   rw[hq] at hd
   simp only
   rw[Nat.add_mul];omega
 ·have hd:=Sh c l
  have hz:=Nat.div_mul_cancel (Nat.dvd_of_mod_eq_zero h)
  rw[Nat.add_mul,Nat.mul_assoc,hz];omega
theorem apx:∀{b:af} {v:af} {c i z:Nat} {bY:Sz} {y:Nat},awd b c i z bY y=some (true,v)->af.size v=bY.val*y∧(c+i*z+bY.val*y<=af.size b->∀j,j<bY.val*y->af.get v j=af.get b (c+i*z+j))
 | [],v,c,i,z,bY,y,h=>by simp[awd] at h
 |.c x::r,v,c,i,z,bY,y,h=>by
  cases c with
  |zero=>
   simp only[awd,Option.map_eq_some_iff,Prod.mk.injEq,true_and] at h
   obtain⟨v',h1,rfl⟩:=h
   have:=LS h1
   simpa using this
  |succ c=>
   simp only[awd] at h
   obtain⟨e1,e2⟩:=apx h
   refine⟨e1,λhle j hj=> ?_⟩
   simp only[af.size,Sg.size] at hle
   rw[e2 (by omega) j hj]
   exact af.jf (by omega) (by omega)
 |.a n cols::r,v,c,i,z,bY,y,h=>by
  simp only[awd] at h
  split at h
  ·split at h
   ·rename_i hz
    rw[beq_iff] at hz
    simp only[Option.map_eq_some_iff,Prod.mk.injEq,true_and] at h
    obtain⟨v',h1,rfl⟩:=h
    obtain⟨e1,e2⟩:=Jg h1 (λh=>by cases h)
    rw[adj hz] at e2
    refine⟨e1,λhle j hj=> ?_⟩
    simp only[af.size,Nat.add_zero] at hle
    rw[e2 j hj,af.c9 (by omega),Sg.mZ]
   ·cases h
  ·split at h
   ·rename_i n
    split at h
    ·rename_i hle
     rw[eA] at hle
     obtain⟨e1,e2⟩:=apx h
     refine⟨e1,λaa5 j hj=> ?_⟩
     rw[af.size_cons,Sg.jU] at aa5
     simp only[Sz.val] at aa5
     have e3:=e2 (by simp only[Sz.val];omega) j hj
     rw[e3]
     exact af.oI (by omega) (by omega)
    ·split at h
     ·rename_i hz
      rw[beq_iff] at hz
      simp only[Option.map_eq_some_iff,Prod.mk.injEq] at h
      obtain⟨v',h1,hg,rfl⟩:=h
      rw[eA] at hg
      obtain⟨e1,e2⟩:=Jg h1 (λh=>by cases h)
      rw[adj hz] at e2
      refine⟨e1,λ_ j hj=> ?_⟩
      rw[e2 j hj,af.c9 (by simp only[Sg.size,Sz.val];omega),Sg.mZ]
     ·cases h
   ·cases h
theorem af.aur {b v:af}{o:bX}{bY:Sz}{z:Nat}(h:b.sub o bY z=some (true,v)):af.size v=bY.val*z∧(o.val+bY.val*z<=af.size b->∀j,j<bY.val*z->af.get v j=af.get b (o.val+j)):=by
 cases o with
 |k c=>
  simp only[af.sub,Option.map_eq_some_iff,Prod.mk.injEq,true_and] at h
  obtain⟨v',h1,rfl⟩:=h
  exact LS h1
 |x c i y=>exact apx h
theorem adk:∀{cols dk:List cI} {j e:Nat} {v:CV},ac7 cols j e v=some dk->dk.length=cols.length∧j<cols.length∧(∀k,k≠j->dk[k]? =cols[k]?)∧∃c c',cols[j]? =some c∧dk[j]? =some c'∧c.aMR e v=some c'
 | [],_,_,_,_,h=>by simp[ac7] at h
 |c::cs,dk,0,e,v,h=>by
  simp only[ac7,Option.map_eq_some_iff] at h
  obtain⟨c',h1,rfl⟩:=h
  refine⟨rfl,by simp,λk hk=> ?_,c,c',rfl,rfl,h1⟩
  cases k with
  |zero=>omega
  |succ k=>rfl
 |c::cs,dk,j+1,e,v,h=>by
  simp only[ac7,Option.map_eq_some_iff] at h
  obtain⟨PY,h1,rfl⟩:=h
  obtain⟨a1,a2,a3,c0,c1,a4,a5,a6⟩:=adk h1
  refine⟨by simp[a1],by simp;omega,λk hk=> ?_,c0,c1,by simpa using a4,by simpa using a5,a6⟩
  cases k with
  |zero=>rfl
  |succ k=>simpa using a3 k (by omega)
theorem aF0 {cols dk:List cI}{j e:Nat}{v:CV}(h:ac7 cols j e v=some dk)(J:Nat):gK dk J=if J=e*cols.length+j then v else gK cols J:=by
 obtain⟨a1,a2,a3,c,c',a4,a5,a6⟩:=adk h
 have aAs:0<cols.length:=by omega
 unfold gK
 rw[a1]
 by_cases hm:J%cols.length=j
 ·rw[hm,a4,a5]
  simp only[cI.aRA a6]
  have hd:=Sh J cols.length
  rw[hm] at hd
  by_cases he:J/cols.length=e
  ·rw[if_pos he,if_pos (by rw[<-he];omega)]
  ·rw[if_neg he,if_neg λhJ=>he (by rw[hJ,Nat.mul_comm,Nat.mul_add_div aAs,Nat.div_eq_of_lt a2,Nat.add_zero])]
 ·rw[a3 _ hm,if_neg λhJ=>hm (by rw[hJ,Nat.mul_comm,Nat.mul_add_mod,Nat.mod_eq_of_lt a2])]
theorem Jh:∀{b:af} {cols dk:List cI} {e mx:Nat},Bj cols.length cols e mx b=some dk->dk.length=cols.length∧
  ∀J,gK dk J=if e*cols.length+mx<=J∧J<e*cols.length+mx+af.size b then af.get b (J-(e*cols.length+mx)) else gK cols J
 | [],cols,dk,e,mx,h=>by
  simp only[Bj,Option.some.injEq] at h
  subst h
  exact⟨rfl,λJ=>by rw[if_neg (by rw[af.jS];omega)]⟩
 |.a _ _::_,cols,dk,e,mx,h=>by simp[Bj] at h
 |.c v::r,cols,dk,e,mx,h=>by
  simp only[Bj] at h
  split at h
  ·rename_i aVe h1
   have hr:=aF0 h1
   obtain⟨a1,a2,_⟩:=adk h1
   have key:∀e' aRB,e'*cols.length+aRB=e*cols.length+(mx+1)->Bj cols.length aVe e' aRB r=some dk->dk.length=cols.length∧
     ∀J,gK dk J=if e*cols.length+mx<=J∧J<e*cols.length+mx+af.size (.c v::r) then af.get (.c v::r) (J-(e*cols.length+mx)) else gK cols J:=λe' aRB he h2=>by
    rw[<-a1] at h2
    obtain⟨b1,b2⟩:=Jh h2
    rw[a1] at b2
    refine⟨b1.trans a1,λJ=> ?_⟩
    rw[b2,he,hr]
    have hs:af.size (.c v::r)=1+af.size r:=rfl
    by_cases c1:J=e*cols.length+mx
    ·subst c1
     rw[if_neg (by omega),if_pos rfl,if_pos (by rw[hs];omega),Nat.sub_self]
     rfl
    ·by_cases c2:e*cols.length+(mx+1)<=J∧J<e*cols.length+(mx+1)+af.size r
     ·rw[if_pos c2,if_pos (by rw[hs];omega)]
      exact af.jf (by omega) (by omega)
     ·rw[if_neg c2,if_neg c1,if_neg (by rw[hs];omega)]
   split at h
   ·rename_i hc
    rw[beq_iff] at hc
    refine key (e+1) 0 ?_ h
    rw[Nat.add_mul,hc];omega
   ·exact key e (mx+1) rfl h
  ·cases h
theorem apy {v:af}{cols dk:List cI}{e mx:Nat}(h:aAf cols e mx v=some dk):dk.length=cols.length∧
  ∀J,gK dk J=if e*cols.length+mx<=J∧J<e*cols.length+mx+af.size v then af.get v (J-(e*cols.length+mx)) else gK cols J:=by
 unfold aAf at h
 split at h
 ·rename_i m ds
  split at h
  ·rename_i hc
   simp only[Bool.and_eq_true,beq_iff] at hc
   obtain⟨rfl,hl⟩:=hc
   obtain⟨a1,a2,_⟩:=adh h
   rw[List.length_map] at a1 a2
   refine⟨by omega,λJ=> ?_⟩
   have hs:af.size [.a m ds]=m.val*cols.length:=by rw[af.size_cons,Sg.jU,af.jS,hl,Nat.add_zero]
   have hm:=aAr h J
   rw[List.length_map,<-hl] at hm
   rw[hm]
   clear hm
   by_cases hz:cols.length=0
   ·have h1:cols=[]:=List.length_eq_zero_iff.1 hz
    have h2:ds=[]:=List.length_eq_zero_iff.1 (hl.symm.trans hz)
    subst h1 h2
    rw[if_neg (show ¬(e*([]:List cI).length+0<=J∧J<e*([]:List cI).length+0+af.size [.a m []]) by rw[hs];simp)]
    exact ite_self _
   ·have hd:=Sh J cols.length
    have hm:=Nat.mod_lt J (show cols.length>0 by omega)
    by_cases hp:e<=J/cols.length∧J/cols.length<e+m.val
    ·have e1:e*cols.length<=J:=by
      have:=Nat.mul_le_mul_right cols.length hp.1
      omega
     have e2:J<e*cols.length+m.val*cols.length:=by
      have:=Nat.mul_le_mul_right cols.length (show J/cols.length+1<=e+m.val by omega)
      rw[Nat.add_mul,Nat.add_mul] at this
      omega
     rw[if_pos (by simp only[Bool.and_eq_true,eA,rr];exact hp),if_pos (show e*cols.length+0<=J∧J<e*cols.length+0+af.size [.a m ds] by rw[hs];exact⟨e1,e2⟩),aH2 _ _ _ (by rw[<-hl];exact e1),Nat.add_zero,af.c9 (by rw[Sg.jU,<-hl];omega),Sg.mZ,<-hl]
    ·rw[if_neg (by simp only[Bool.and_eq_true,eA,rr];exact hp),if_neg (by
      rw[hs]
      rintro ⟨e1,e2⟩
      apply hp
      constructor
      ·exact(Nat.le_div_iff_mul_le (by omega)).2 e1
      ·refine(Nat.div_lt_iff_lt_mul (by omega)).2 ?_
       rw[Nat.add_mul];exact e2)]
  ·cases h
 ·exact Jh h
theorem aAt:∀{b v b':af},eS b v=some b'->af.size b'=af.size b∧∀j,af.get b' j=if j<af.size v then af.get v j else af.get b j:=by
 intro b v
 induction b generalizing v with
 |nil=>
  intro b' h
  cases v with
  |nil=>simp only[eS,Option.some.injEq] at h;subst h;exact⟨rfl,λj=>by rw[if_neg (by simp[af.size])]⟩
  |cons y vs=>cases y<;>simp[eS] at h
 |cons x r ih=>
  intro b' h
  cases v with
  |nil=>simp only[eS,Option.some.injEq] at h;subst h;exact⟨rfl,λj=>by rw[if_neg (by simp[af.size])]⟩
  |cons y vs=>
   unfold eS at h
   split at h
   ·rename_i e;cases e
   ·rename_i aRC aRD
    cases aRC;cases aRD
    simp only[Option.map_eq_some_iff] at h
    obtain⟨r',h1,rfl⟩:=h
    obtain⟨e1,e2⟩:=ih h1
    refine⟨by simp only[af.size,e1,Sg.size],λj=> ?_⟩
    cases j with
    |zero=>rw[if_pos (by simp only[af.size,Sg.size];omega)];rfl
    |succ j=>
     rw[<-af.jf (l:=r') (j':=j) (by omega) (by omega),<-af.jf (l:=vs) (j':=j) (by omega) (by omega),<-af.jf (l:=r) (j':=j) (by omega) (by omega),e2]
     by_cases hj:j<af.size vs
     ·rw[if_pos hj,if_pos (by rw[af.size_cons,Sg.jd];omega)]
     ·rw[if_neg hj,if_neg (by rw[af.size_cons,Sg.jd];omega)]
   ·rename_i n cols _ m dk _ aRC aRD
    cases aRC;cases aRD
    split at h
    ·rename_i hc
     simp only[Bool.and_eq_true,beq_iff] at hc
     obtain⟨rfl,hl⟩:=hc
     simp only[Option.map_eq_some_iff] at h
     obtain⟨r',h1,rfl⟩:=h
     obtain⟨e1,e2⟩:=ih h1
     refine⟨by simp only[af.size,e1,Sg.size,hl],λj=> ?_⟩
     have hs:af.size (.a (.l n) dk::vs)=n*dk.length+af.size vs:=rfl
     by_cases hj:j<n*dk.length
     ·rw[af.c9 (by simpa[Sg.size,Sz.val] using hj),if_pos (by rw[hs];omega),af.c9 (by simpa[Sg.size,Sz.val] using hj)]
     ·rw[<-af.oI (l:=r') (j':=j-n*dk.length) (by omega) (by omega),<-af.oI (l:=vs) (j':=j-n*dk.length) (by omega) (by omega),<-af.oI (l:=r) (j':=j-n*dk.length) (by rw[hl];omega) (by rw[hl]),e2]
      by_cases jX:j-n*dk.length<af.size vs
      ·rw[if_pos jX,if_pos (by rw[hs];omega)]
      ·rw[if_neg jX,if_neg (by rw[hs];omega)]
    ·cases h
   ·cases h
theorem awk {n:Sz}{cols:List cI}{v:af}(h:aFT n cols v=true):af.size v=(Sg.a n cols).size:=by
 unfold aFT at h
 split at h
 ·simp only[Bool.and_eq_true,beq_iff] at h
  obtain⟨rfl,hl⟩:=h
  simp[af.size,Sg.size,hl]
 ·cases h
theorem LU:∀{b b':af} {c:Nat} {v:af},ah3 b c v=some b'->af.size b'=af.size b∧∀j,j<af.size b->af.get b' j=if c<=j∧j<c+af.size v then af.get v (j-c) else af.get b j
 | [],b',c,v,h=>by
  simp only[ah3] at h
  split at h
  ·cases h;exact⟨rfl,λj hj=>by simp[af.size] at hj⟩
  ·cases h
 |.c x::r,b',c,v,h=>by
  cases c with
  |zero=>
   simp only[ah3] at h
   obtain⟨e1,e2⟩:=aAt h
   refine⟨e1,λj _=> ?_⟩
   rw[e2]
   by_cases hj:j<af.size v
   ·rw[if_pos hj,if_pos (by omega)];rfl
   ·rw[if_neg hj,if_neg (by omega)]
  |succ c=>
   simp only[ah3,Option.map_eq_some_iff] at h
   obtain⟨r',h1,rfl⟩:=h
   obtain⟨e1,e2⟩:=LU h1
   refine⟨by simp only[af.size,e1],λj hj=> ?_⟩
   rw[af.size_cons,Sg.jd] at hj
   cases j with
   |zero=>rw[if_neg (by omega)];rfl
   |succ j=>
    rw[<-af.jf (l:=r') (j':=j) (by omega) (by omega),<-af.jf (l:=r) (j':=j) (by omega) (by omega),e2 j (by omega)]
    by_cases hc:c<=j∧j<c+af.size v
    ·rw[if_pos hc,if_pos (by omega)];congr 1;omega
    ·rw[if_neg hc,if_neg (by omega)]
 |.a n cols::r,b',c,v,h=>by
  have put:∀{dk},aAf cols (c/cols.length) (c%cols.length) v=some dk->dk.length=cols.length∧∀J,gK dk J=if c<=J∧J<c+af.size v then af.get v (J-c) else gK cols J:=λh=>by
   have:=apy h
   rw[Sh] at this
   exact this
  simp only[ah3] at h
  split at h
  ·split at h
   ·rename_i hc
    cases h
    simp only[Bool.and_eq_true,beq_iff] at hc
    obtain⟨rfl,hs⟩:=hc
    have hs:=awk hs
    refine⟨by simp only[af.size,Nat.add_zero,hs],λj hj=> ?_⟩
    simp only[af.size,Nat.add_zero] at hj
    rw[if_pos (by omega),Nat.sub_zero]
   ·simp only[Option.map_eq_some_iff] at h
    obtain⟨dk,h1,rfl⟩:=h
    obtain⟨e1,e2⟩:=put h1
    refine⟨by simp only[af.size,Sg.size,e1],λj hj=> ?_⟩
    simp only[af.size,Nat.add_zero] at hj
    rw[af.c9 (by simp only[Sg.size,e1];exact hj),af.c9 hj,Sg.mZ,Sg.mZ,e2]
  ·split at h
   ·cases h
   ·rename_i n
    split at h
    ·rename_i hle
     rw[eA] at hle
     simp only[Option.map_eq_some_iff] at h
     obtain⟨r',h1,rfl⟩:=h
     obtain⟨e1,e2⟩:=LU h1
     refine⟨by rw[af.size_cons,af.size_cons,e1],λj hj=> ?_⟩
     rw[af.size_cons,Sg.jU] at hj
     simp only[Sz.val] at hj
     by_cases jX:j<n*cols.length
     ·rw[af.c9 (by simpa[Sg.size,Sz.val] using jX),af.c9 (by simpa[Sg.size,Sz.val] using jX),if_neg (by omega)]
     ·rw[<-af.oI (l:=r') (j':=j-n*cols.length) (by omega) rfl,<-af.oI (n:=n) (cols:=cols) (j':=j-n*cols.length) (by omega) rfl,e2 _ (by omega)]
      by_cases hc:c<=j∧j<c+af.size v
      ·rw[if_pos hc,if_pos (by omega)];congr 1;omega
      ·rw[if_neg hc,if_neg (by omega)]
    ·split at h
     ·rename_i hc
      cases h
      simp only[Bool.and_eq_true,beq_iff] at hc
      obtain⟨rfl,hs⟩:=hc
      have hs:=awk hs
      refine⟨by rw[af.size_append,hs];rfl,λj hj=> ?_⟩
      rw[af.get_append,hs]
      by_cases jX:j<(Sg.a (.l n) cols).size
      ·rw[if_pos jX,if_pos (by omega),Nat.sub_zero]
      ·rw[if_neg jX,if_neg (by omega)]
       exact af.oI (Nat.le_of_not_lt jX) rfl
     ·split at h
      ·rename_i aa5
       rw[eA] at aa5
       simp only[Option.map_eq_some_iff] at h
       obtain⟨dk,h1,rfl⟩:=h
       obtain⟨e1,e2⟩:=put h1
       refine⟨by simp only[af.size,Sg.size,e1],λj hj=> ?_⟩
       by_cases jX:j<n*cols.length
       ·rw[af.c9 (by simpa[Sg.size,Sz.val,e1] using jX),af.c9 (by simpa[Sg.size,Sz.val] using jX),Sg.mZ,Sg.mZ,e2]
       ·rw[if_neg (by omega),<-af.oI (cols:=dk) (j':=j-n*cols.length) (by rw[e1];omega) (by rw[e1]),<-af.oI (n:=n) (cols:=cols) (j':=j-n*cols.length) (by omega) rfl]
      ·split at h
       ·obtain⟨e1,e2⟩:=aAt h
        refine⟨e1,λj _=> ?_⟩
        rw[e2]
        by_cases hj:j<af.size v
        ·rw[if_pos hj,if_pos (by omega)];rfl
        ·rw[if_neg hj,if_neg (by omega)]
       ·cases h
theorem apz:∀{b b':af} {c i z:Nat} {v:af},awe b c i z v=some (true,b')->af.size b'=af.size b∧∀j,j<af.size b->af.get b' j=if c+i*z<=j∧j<c+i*z+af.size v then af.get v (j-(c+i*z)) else af.get b j
 | [],b',c,i,z,v,h=>by simp[awe] at h
 |.c x::r,b',c,i,z,v,h=>by
  cases c with
  |zero=>
   simp only[awe,Option.map_eq_some_iff,Prod.mk.injEq,true_and] at h
   obtain⟨v',h1,rfl⟩:=h
   simpa using LU h1
  |succ c=>
   simp only[awe,Option.map_eq_some_iff,Prod.mk.injEq] at h
   obtain⟨⟨g,r'⟩,h1,hg,rfl⟩:=h
   simp only at hg
   subst hg
   obtain⟨e1,e2⟩:=apz h1
   refine⟨by simp only[af.size,e1],λj hj=> ?_⟩
   rw[af.size_cons,Sg.jd] at hj
   cases j with
   |zero=>rw[if_neg (by omega)];rfl
   |succ j=>
    rw[<-af.jf (l:=r') (j':=j) (by omega) (by omega),<-af.jf (l:=r) (j':=j) (by omega) (by omega),e2 j (by omega)]
    by_cases hc:c+i*z<=j∧j<c+i*z+af.size v
    ·rw[if_pos hc,if_pos (by omega)];congr 1;omega
    ·rw[if_neg hc,if_neg (by omega)]
 |.a n cols::r,b',c,i,z,v,h=>by
  simp only[awe] at h
  split at h
  ·split at h
   ·rename_i hz
    rw[beq_iff] at hz
    simp only[Option.map_eq_some_iff,Prod.mk.injEq,true_and] at h
    obtain⟨dk,h1,rfl⟩:=h
    have e:=apy h1
    rw[adj hz] at e
    obtain⟨e1,e2⟩:=e
    refine⟨by simp only[af.size,Sg.size,e1],λj hj=> ?_⟩
    simp only[af.size,Nat.add_zero] at hj
    rw[af.c9 (by simp only[Sg.size,e1];exact hj),af.c9 hj,Sg.mZ,Sg.mZ,e2]
   ·cases h
  ·split at h
   ·rename_i n
    split at h
    ·rename_i hle
     rw[eA] at hle
     simp only[Option.map_eq_some_iff,Prod.mk.injEq] at h
     obtain⟨⟨g,r'⟩,h1,hg,rfl⟩:=h
     simp only at hg
     subst hg
     obtain⟨e1,e2⟩:=apz h1
     refine⟨by rw[af.size_cons,af.size_cons,e1],λj hj=> ?_⟩
     rw[af.size_cons,Sg.jU] at hj
     simp only[Sz.val] at hj
     by_cases jX:j<n*cols.length
     ·rw[af.c9 (by simpa[Sg.size,Sz.val] using jX),af.c9 (by simpa[Sg.size,Sz.val] using jX),if_neg (by omega)]
     ·rw[<-af.oI (l:=r') (j':=j-n*cols.length) (by omega) rfl,<-af.oI (n:=n) (cols:=cols) (j':=j-n*cols.length) (by omega) rfl,e2 _ (by omega)]
      by_cases hc:c+i*z<=j∧j<c+i*z+af.size v
      ·rw[if_pos hc,if_pos (by omega)];congr 1;omega
      ·rw[if_neg hc,if_neg (by omega)]
    ·split at h
     ·rename_i hz
      rw[beq_iff] at hz
      simp only[Option.map_eq_some_iff,Prod.mk.injEq] at h
      obtain⟨dk,h1,hg,rfl⟩:=h
      rw[eA] at hg
      have e:=apy h1
      rw[adj hz] at e
      obtain⟨e1,e2⟩:=e
      rw[e1] at hg
      refine⟨by simp only[af.size,Sg.size,e1],λj hj=> ?_⟩
      by_cases jX:j<n*cols.length
      ·rw[af.c9 (by simpa[Sg.size,Sz.val,e1] using jX),af.c9 (by simpa[Sg.size,Sz.val] using jX),Sg.mZ,Sg.mZ,e2]
      ·rw[if_neg (by omega),<-af.oI (cols:=dk) (j':=j-n*cols.length) (by rw[e1];omega) (by rw[e1]),<-af.oI (n:=n) (cols:=cols) (j':=j-n*cols.length) (by omega) rfl]
     ·cases h
   ·cases h
theorem af.aNC {b b' v:af}{o:bX}(h:b.xw o v=some (true,b')):af.size b'=af.size b∧∀j,j<af.size b->af.get b' j=if o.val<=j∧j<o.val+af.size v then af.get v (j-o.val) else af.get b j:=by
 cases o with
 |k c=>
  simp only[af.xw,Option.map_eq_some_iff,Prod.mk.injEq,true_and] at h
  obtain⟨v',h1,rfl⟩:=h
  exact LU h1
 |x c i y=>exact apz h
theorem Nx:∀{b:af},Tn b=true->af.size b=b.length
 | [],_=>rfl
 |.c v::r,h=>by
  have:=Nx (b:=r) h
  rw[af.size_cons,Sg.jd,this,List.length_cons];omega
 |.a _ _::_,h=>by cases h
theorem arh (cols:List cI):∀l:List Nat,Tn (ac8 cols l)=true∧(ac8 cols l).length=l.length∧∀i j,l[i]? =some j->af.get (ac8 cols l) i=gK cols j
 | []=>⟨rfl,rfl,λi j h=>by simp at h⟩
 |k::l=>by
  obtain⟨h1,h2,h3⟩:=arh cols l
  refine⟨h1,by simp[ac8,h2],λi j h=> ?_⟩
  cases i with
  |zero=>
   simp only[List.getElem?_cons_zero,Option.some.injEq] at h
   subst h;rfl
  |succ i=>exact(af.jw (s:=.c _) (by rw[Sg.jd];omega)).trans (h3 i j (by simpa using h))
theorem vy:∀b:af,af.size (qV b)=af.size b∧∀j,j<af.size b->af.get (qV b) j=af.get b j
 | []=>⟨rfl,λ_ _=>rfl⟩
 |.c v::r=>by
  obtain⟨h1,h2⟩:=vy r
  refine⟨by rw[qV,af.size_cons,af.size_cons,h1],λj hj=> ?_⟩
  rw[af.size_cons,Sg.jd] at hj
  cases j with
  |zero=>rfl
  |succ j=>
   rw[qV,af.jw (by rw[Sg.jd];omega),af.jw (by rw[Sg.jd];omega)]
   exact h2 _ (by rw[Sg.jd];omega)
 |.a (.s n) cols::r=>by
  obtain⟨h1,h2⟩:=vy r
  refine⟨by rw[qV,af.size_cons,af.size_cons,h1],λj hj=> ?_⟩
  rw[af.size_cons] at hj
  rw[qV]
  by_cases jX:j<(Sg.a (.s n) cols).size
  ·rw[af.c9 jX,af.c9 jX]
  ·rw[af.jw (by omega),af.jw (by omega)]
   exact h2 _ (by omega)
 |.a (.l n) cols::r=>by
  obtain⟨h1,h2⟩:=vy r
  obtain⟨c1,c2,c3⟩:=arh cols (List.range (n*cols.length))
  have hs:af.size (ac8 cols (List.range (n*cols.length)))=n*cols.length:=by rw[Nx c1,c2,List.length_range]
  have Ts:(Sg.a (.l n) cols).size=n*cols.length:=rfl
  refine⟨by rw[qV,af.size_append,af.size_cons,h1,hs,Ts],λj hj=> ?_⟩
  rw[af.size_cons,Ts] at hj
  rw[qV,af.get_append,hs]
  by_cases jX:j<n*cols.length
  ·rw[if_pos jX,af.c9 (by rw[Ts];exact jX),Sg.mZ]
   exact c3 j j (by simp[jX])
  ·rw[if_neg jX,af.jw (by rw[Ts];omega),Ts]
   exact h2 _ (by omega)
theorem Ji (n m:Sz):(n.add m).val=n.val+m.val:=by cases n<;>cases m<;>rfl
theorem aLw {n:Sz}{cols:List cI}{b c:af}(h:aHR n cols b=some c):af.size c=af.size [.a n cols]+af.size b∧
  ∀j,j<af.size [.a n cols]+af.size b->af.get c j=if j<af.size [.a n cols] then af.get [.a n cols] j else af.get b (j-af.size [.a n cols]):=by
 have h0:af.size [.a n cols]=n.val*cols.length:=by rw[af.size_cons,af.jS,Sg.jU,Nat.add_zero]
 unfold aHR at h
 split at h
 ·rename_i hc
  simp only[Bool.and_eq_true,beq_iff,eA] at hc
  obtain⟨BE,aAs,aRE⟩:=hc
  simp only[Option.map_eq_some_iff] at h
  obtain⟨es,h1,rfl⟩:=h
  obtain⟨a1,a2⟩:=Jh h1
  have hbs:=Nx BE
  have hq:(b.length/cols.length)*cols.length=b.length:=Nat.div_mul_cancel (Nat.dvd_of_mod_eq_zero aRE)
  have hr:(n.add (.l (b.length/cols.length))).val*es.length=n.val*cols.length+b.length:=by
   rw[Ji,a1,Nat.add_mul,Sz.val,hq]
  refine⟨by rw[h0,hbs,af.size_cons,af.jS,Sg.jU,Nat.add_zero,hr],λj hj=> ?_⟩
  rw[h0] at hj
  rw[af.c9 (by rw[Sg.jU,hr];omega),Sg.mZ,a2,Nat.add_zero]
  by_cases jX:j<n.val*cols.length
  ·rw[if_neg (by omega),if_pos (show j<af.size [.a n cols] by rw[h0];exact jX),af.c9 (by rw[Sg.jU];exact jX),Sg.mZ]
  ·rw[if_pos (by omega),if_neg (show ¬j<af.size [.a n cols] by rw[h0];exact jX),h0]
 ·cases h
theorem aAu {n:Sz}{cols:List cI}{b c:af}(h:aMS n cols b=some c):af.size c=af.size [.a n cols]+af.size b∧
  ∀j,j<af.size [.a n cols]+af.size b->af.get c j=if j<af.size [.a n cols] then af.get [.a n cols] j else af.get b (j-af.size [.a n cols]):=by
 have h0:af.size [.a n cols]=n.val*cols.length:=by rw[af.size_cons,af.jS,Sg.jU,Nat.add_zero]
 have two:aHR n cols (qV b)=some c->af.size c=af.size [.a n cols]+af.size b∧
  ∀j,j<af.size [.a n cols]+af.size b->af.get c j=if j<af.size [.a n cols] then af.get [.a n cols] j else af.get b (j-af.size [.a n cols]):=λh=>by
  obtain⟨e1,e2⟩:=aLw h
  obtain⟨f1,f2⟩:=vy b
  rw[f1] at e1 e2
  refine⟨e1,λj hj=> ?_⟩
  rw[e2 j hj]
  by_cases jX:j<af.size [.a n cols]
  ·rw[if_pos jX,if_pos jX]
  ·rw[if_neg jX,if_neg jX,f2 _ (by omega)]
 unfold aMS at h
 split at h
 ·rename_i m dk
  split at h
  ·rename_i hc
   simp only[Bool.and_eq_true,beq_iff,eA] at hc
   obtain⟨hl,aAs⟩:=hc
   simp only[Option.map_eq_some_iff] at h
   obtain⟨es,h1,rfl⟩:=h
   obtain⟨a1,_,_⟩:=adh h1
   have hb:af.size [.a m dk]=m.val*cols.length:=by rw[af.size_cons,af.jS,Sg.jU,Nat.add_zero,hl]
   have hr:af.size [.a (n.add m) es]=n.val*cols.length+m.val*cols.length:=by
    rw[af.size_cons,af.jS,Sg.jU,Nat.add_zero,Ji,a1,Nat.add_mul]
   refine⟨by rw[hr,h0,hb],λj hj=> ?_⟩
   rw[h0,hb] at hj
   have hm:=aAr h1 j
   have e1:af.get [.a (n.add m) es] j=gK es j:=by
    rw[af.c9 (by rw[Sg.jU,Ji,a1,Nat.add_mul];exact hj),Sg.mZ]
   rw[e1,hm]
   by_cases jX:j<n.val*cols.length
   ·rw[if_pos (by rw[rr];exact(Nat.div_lt_iff_lt_mul (by omega)).2 jX),if_pos (show j<af.size [.a n cols] by rw[h0];exact jX),af.c9 (by rw[Sg.jU];exact jX),Sg.mZ]
   ·rw[if_neg (by rw[rr];exact λhh=>jX ((Nat.div_lt_iff_lt_mul (by omega)).1 hh)),if_neg (show ¬j<af.size [.a n cols] by rw[h0];exact jX),aH2 _ _ _ (by rw[<-hl];omega),h0,af.c9 (by rw[Sg.jU,<-hl];omega),Sg.mZ,<-hl]
  ·exact two h
 ·exact two h
theorem aia:∀{z:Nat} {b:af} {cols:List cI},B3 z b=some cols->cols.length=z
 |0,b,cols,h=>by simp only[B3,Option.some.injEq] at h;subst h;rfl
 |z+1,[],cols,h=>by simp[B3] at h
 |z+1,.a _ _::_,cols,h=>by simp[B3] at h
 |z+1,.c v::r,cols,h=>by
  cases v<;>simp only[B3] at h<;>first|(cases h;done)|skip
  split at h
  ·rename_i h1 h2
   cases h
   simp[aia h2]
  ·cases h
theorem aib {z:Nat}{b r:af}(h:rowOf z b=some r):af.size r=af.size b∧(∀j,j<af.size b->af.get r j=af.get b j):=by
 unfold rowOf at h
 split at h
 ·rename_i hc
  simp only[Bool.and_eq_true,beq_iff,eA] at hc
  obtain⟨BE,aAs,aRE⟩:=hc
  split at h
  ·rename_i cols h1
   simp only[Option.map_eq_some_iff] at h
   obtain⟨es,h2,rfl⟩:=h
   have hl:=aia h1
   subst hl
   obtain⟨a1,a2⟩:=Jh h2
   have hbs:=Nx BE
   have hq:(b.length/cols.length)*cols.length=b.length:=Nat.div_mul_cancel (Nat.dvd_of_mod_eq_zero aRE)
   refine⟨by rw[af.size_cons,af.jS,Sg.jU,Nat.add_zero,a1,Sz.val,hq,hbs],λj hj=> ?_⟩
   rw[af.c9 (by rw[Sg.jU,a1,Sz.val,hq];omega),Sg.mZ,a2,if_pos (by omega)]
   congr 1;omega
  ·cases h
 ·cases h
theorem af.aND {a b c:af}(h:a.app b=some c):af.size c=af.size a+af.size b∧
  ∀j,j<af.size a+af.size b->af.get c j=if j<af.size a then af.get a j else af.get b (j-af.size a):=by
 unfold af.app at h
 split at h
 ·cases h
  refine⟨by rw[af.jS,Nat.zero_add],λj hj=>by rw[if_neg (by rw[af.jS];omega),af.jS,Nat.sub_zero]⟩
 ·cases h
  refine⟨by rw[af.jS,Nat.add_zero],λj hj=> ?_⟩
  rw[af.jS,Nat.add_zero] at hj
  rw[if_pos hj]
 ·exact aAu h
 ·split at h
  ·rename_i h1
   obtain⟨e1,e2⟩:=aib h1
   rw[(vy _).1] at e1 e2
   have e2:=λj hj=>(e2 j hj).trans ((vy _).2 j hj)
   obtain⟨f1,f2⟩:=aAu h
   refine⟨by rw[f1,e1],λj hj=> ?_⟩
   rw[f2 j (by rw[e1];exact hj)]
   by_cases jX:j<af.size a
   ·rw[if_pos (by rw[e1];exact jX),if_pos jX,e2 j jX]
   ·rw[if_neg (by rw[e1];exact jX),if_neg jX,e1]
  ·cases h
 ·split at h
  ·cases h
   exact⟨af.size_append _ _,λj _=>af.get_append _ _ _⟩
  ·cases h
theorem Xn (z:Nat)(b:af):af.size (apt z b)=af.size b∧∀j,j<af.size b->af.get (apt z b) j=af.get b j:=by
 have key:∀{r},rowOf z (qV b)=some r->af.size r=af.size b∧∀j,j<af.size b->af.get r j=af.get b j:=λh=>by
  obtain⟨e1,e2⟩:=aib h
  obtain⟨g1,g2⟩:=vy b
  rw[g1] at e1 e2
  exact⟨e1,λj hj=>(e2 j hj).trans (g2 j hj)⟩
 unfold apt
 split
 ·exact⟨rfl,λ_ _=>rfl⟩
 ·split
  ·exact⟨rfl,λ_ _=>rfl⟩
  ·split
   ·rename_i h;exact key h
   ·exact⟨rfl,λ_ _=>rfl⟩
 ·split
  ·rename_i h;exact key h
  ·exact⟨rfl,λ_ _=>rfl⟩
theorem aic:∀{tm:List Tm} {b r:af},ada tm b=some r->af.size r=af.size b∧∀j,j<af.size b->af.get r j=af.get b j
 | [],[],r,h=>by cases h;exact⟨rfl,λ_ _=>rfl⟩
 | [],_::_,r,h=>by simp[ada] at h
 |.c::tm,[],r,h=>by simp[ada] at h
 |.c::tm,.a _ _::_,r,h=>by simp[ada] at h
 |.c::tm,.c v::b,r,h=>by
  simp only[ada,Option.map_eq_some_iff] at h
  obtain⟨r',h1,rfl⟩:=h
  obtain⟨e1,e2⟩:=aic h1
  refine⟨by rw[af.size_cons,af.size_cons,e1],λj hj=> ?_⟩
  rw[af.size_cons,Sg.jd] at hj
  cases j with
  |zero=>rfl
  |succ j=>
   rw[af.jw (by rw[Sg.jd];omega),af.jw (by rw[Sg.jd];omega)]
   exact e2 _ (by rw[Sg.jd];omega)
 |.a n z::tm,b,r,h=>by
  simp only[ada] at h
  split at h
  ·split at h
   ·rename_i row h1
    simp only[Option.map_eq_some_iff] at h
    obtain⟨r',h2,rfl⟩:=h
    obtain⟨e1,e2⟩:=aib h1
    obtain⟨f1,f2⟩:=aic h2
    have hb:af.size b=af.size (b.take (n*z))+af.size (b.drop (n*z)):=by rw[<-af.size_append,List.take_append_drop]
    have hg:∀j,af.get b j=if j<af.size (b.take (n*z)) then af.get (b.take (n*z)) j else af.get (b.drop (n*z)) (j-af.size (b.take (n*z))):=λj=>by rw[<-af.get_append,List.take_append_drop]
    refine⟨by rw[af.size_append,e1,f1,hb],λj hj=> ?_⟩
    rw[af.get_append,hg,e1]
    by_cases jX:j<af.size (b.take (n*z))
    ·rw[if_pos jX,if_pos jX,e2 j jX]
    ·rw[if_neg jX,if_neg jX,f2 _ (by omega)]
   ·cases h
  ·cases h
theorem aLx (P:Program)(t:TypeId)(l:af):af.size (norm P t l)=af.size l∧∀j,j<af.size l->af.get (norm P t l) j=af.get l j:=by
 unfold norm
 split
 ·split
  ·rename_i h;exact aic h
  ·exact⟨rfl,λ_ _=>rfl⟩
 ·split
  ·exact⟨rfl,λ_ _=>rfl⟩
  ·split
   ·exact vy l
   ·exact⟨rfl,λ_ _=>rfl⟩
theorem aus (b:af):af.size (toS b)=af.size b∧∀j,af.get (toS b) j=af.get b j:=by
 unfold toS
 split
 ·exact⟨rfl,λ_=>rfl⟩
 ·exact⟨rfl,λ_=>rfl⟩
theorem Hw (f:CV->CV)(b:af):af.size (Is f b)=af.size b:=by
 induction b with
 |nil=>rfl
 |cons s r ih=>cases s<;>simp only[Is,af.size_cons,ih]<;>rfl
theorem azL (cols:List cI)(j:Nat):∃x,gK cols j=.f x:=by
 unfold gK;split<;>exact⟨_,rfl⟩
theorem aut {f:CV->CV}(hf:∀x,f (.f x)=.f x)(b:af)(j:Nat)(hj:j<af.size b):af.get (Is f b) j=f (af.get b j):=by
 induction b generalizing j with
 |nil=>rw[af.jS] at hj;omega
 |cons s r ih=>
  rw[af.size_cons] at hj
  cases s with
  |c v=>
   cases j with
   |zero=>rfl
   |succ j=>
    rw[Is,<-af.jf (l:=Is f r) (j':=j) (by omega) (by omega),<-af.jf (l:=r) (j':=j) (by omega) (by omega)]
    exact ih j (by rw[Sg.jd] at hj;omega)
  |a n cols=>
   rw[Is]
   by_cases h:j<(Sg.a n cols).size
   ·rw[af.c9 h,af.c9 h,Sg.mZ]
    obtain⟨x,hx⟩:=azL cols j
    rw[hx,hf]
   ·rw[af.jw (by omega),af.jw (by omega)]
    exact ih _ (by omega)
theorem FV.aRF {x y:FV}(h:x.same y=true):x=y:=by
 unfold FV.same at h
 split at h
 ·rw[eq_of_beq h]
 ·simp only[Bool.and_eq_true,decide_eq_true_eq] at h
  rw[h.1,eq_of_beq h.2]
 ·cases h
theorem aLy {v:FV}{c:cI}(h:aFU v=some c)(j:Nat):c.at j=v:=by
 cases v<;>simp only[aFU] at h<;>cases h<;>rfl
theorem adl:∀{z:Nat} {b:af} {cols:List cI},B3 z b=some cols->∀i,i<z->∃c v,cols[i]? =some c∧b[i]? =some (.c (.f v))∧∀j,c.at j=v
 |0,b,cols,_,i,h=>by omega
 |z+1,[],cols,h,_,_=>by simp[B3] at h
 |z+1,.a _ _::_,cols,h,_,_=>by simp[B3] at h
 |z+1,.c v::r,cols,h,i,hi=>by
  cases v<;>simp only[B3] at h<;>first|(cases h;done)|skip
  split at h
  ·rename_i c cs h1 h2
   cases h
   cases i with
   |zero=>exact⟨c,_,rfl,rfl,aLy h1⟩
   |succ i=>simpa using adl h2 i (by omega)
  ·cases h
theorem am0 {z:Nat}{row:af}:∀{m:Nat} {b r:af},To z row m b=some r->af.size b=m+af.size r∧(∀j,j<m->∃v,row[(m-1-j)%z]? =some (.c (.f v))∧af.get b j=.f v)∧∀j,af.get b (m+j)=af.get r j
 |0,b,r,h=>by
  simp only[To,Option.some.injEq] at h
  subst h
  exact⟨by omega,λj hj=>by omega,λj=>by rw[Nat.zero_add]⟩
 |m+1,[],r,h=>by simp[To] at h
 |m+1,.a _ _::_,r,h=>by simp[To] at h
 |m+1,.c v::q,r,h=>by
  cases v<;>simp only[To] at h<;>first|(cases h;done)|skip
  rename_i v
  split at h
  ·rename_i y hy
   split at h
   ·rename_i hs
    have hs:=FV.aRF hs
    subst hs
    obtain⟨e1,e2,e3⟩:=am0 h
    refine⟨by rw[af.size_cons,Sg.jd,e1];omega,λj hj=> ?_,λj=> ?_⟩
    ·cases j with
     |zero=>exact⟨v,by simpa using hy,rfl⟩
     |succ j=>
      obtain⟨v',h1,h2⟩:=e2 j (by omega)
      refine⟨v',by rw[show m+1-1-(j+1)=m-1-j by omega];exact h1,?_⟩
      rw[<-af.jf (l:=q) (j':=j) (by omega) (by omega)];exact h2
    ·rw[<-af.jf (l:=q) (j':=m+j) (by omega) (by omega)];exact e3 j
   ·cases h
  ·cases h
theorem aid:∀{tm:List Tm} {b r:af},YX tm b=some r->af.size r=af.size b∧∀j,af.get r j=af.get b j
 | [],[],r,h=>by simp only[YX,Option.some.injEq] at h;subst h;exact⟨rfl,λ_=>rfl⟩
 | [],_::_,r,h=>by simp[YX] at h
 |.c::tm,[],r,h=>by simp[YX] at h
 |.c::tm,.a _ _::_,r,h=>by simp[YX] at h
 |.c::tm,.c v::q,r,h=>by
  simp only[YX,Option.map_eq_some_iff] at h
  obtain⟨r',h1,rfl⟩:=h
  obtain⟨e1,e2⟩:=aid h1
  refine⟨by rw[af.size_cons,af.size_cons,e1],λj=> ?_⟩
  cases j with
  |zero=>rfl
  |succ j=>rw[<-af.jf (l:=r') (j':=j) (by omega) (by omega),<-af.jf (l:=q) (j':=j) (by omega) (by omega),e2]
 |.a n z::tm,b,r,h=>by
  simp only[YX] at h
  split at h
  ·rename_i cols h1
   split at h
   ·rename_i hz
    rw[eA] at hz
    split at h
    ·rename_i q h2
     simp only[Option.map_eq_some_iff] at h
     obtain⟨r',h3,rfl⟩:=h
     obtain⟨e1,e2⟩:=aid h3
     obtain⟨f1,f2,f3⟩:=am0 h2
     have hl:=aia h1
     refine⟨by rw[af.size_cons,Sg.jU,Sz.val,hl,e1,f1],λj=> ?_⟩
     by_cases hj:j<n*z
     ·rw[af.c9 (by rw[Sg.jU,Sz.val,hl];exact hj),Sg.mZ]
      obtain⟨v,g1,g2⟩:=f2 j hj
      rw[g2]
      unfold gK
      rw[hl]
      have hm:=Nat.mod_lt j (show z>0 by omega)
      obtain⟨c,v',k1,k2,k3⟩:=adl h1 (j%z) hm
      rw[k1]
      simp only[k3]
      have hlen:(b.take z).length=z:=by
       have:z<=b.length:=by
        obtain⟨_,_,_,k5,_⟩:=adl h1 (z-1) (by omega)
        have:=(List.getElem?_eq_some_iff.1 k5).1
        omega
       simp;omega
      have aWs:(n*z-1-j)%z=z-1-j%z:=by
       have hd:=Nat.div_add_mod j z
       have hq:j/z<n:=(Nat.div_lt_iff_lt_mul (by omega)).2 hj
       obtain⟨t,ht⟩:∃t,n=j/z+1+t:=⟨n-(j/z+1),by omega⟩
       have:n*z-1-j=z*t+(z-1-j%z):=by
        have:n*z=z*(j/z)+z+z*t:=by rw[ht,Nat.mul_comm,Nat.mul_add,Nat.mul_add,Nat.mul_one]
        omega
       rw[this,Nat.mul_add_mod,Nat.mod_eq_of_lt (by omega)]
      rw[aWs,List.getElem?_reverse (by omega),hlen,show z-1-(z-1-j%z)=j%z by omega,List.getElem?_take,if_pos hm,k2] at g1
      cases g1
      rfl
     ·have e:af.get (.a (.l n) cols::r') j=af.get r' (j-n*z):=by
       rw[<-af.oI (l:=r') (j':=j-n*z) (by rw[hl];omega) (by rw[hl])]
      rw[e,e2,<-f3]
      congr 1;omega
    ·cases h
   ·cases h
  ·cases h
end Go.Ab
namespace Go.Ab
def bh {α β:Type}(R:α->β->Prop):List α->List β->Prop
 | [],[]=>True
 |a::l,b::m=>R a b∧bh R l m
 |_,_=>False
theorem bh.imp {α β:Type}{R S:α->β->Prop}(h:∀a b,R a b->S a b):∀{l:List α} {m:List β},bh R l m->bh S l m
 | [],[],_=>trivial
 |_::_,_::_,⟨a,b⟩=>⟨h _ _ a,bh.imp h b⟩
 | [],_::_,h=>h.elim
 |_::_,[],h=>h.elim
theorem bh.length {α β:Type}{R:α->β->Prop}:∀{l:List α} {m:List β},bh R l m->l.length=m.length
 | [],[],_=>rfl
 |_::_,_::_,⟨_,b⟩=>by simp[bh.length b]
 | [],_::_,h=>h.elim
 |_::_,[],h=>h.elim
theorem bh.append {α β:Type}{R:α->β->Prop}:∀{l:List α} {m:List β} {l':List α} {m':List β},bh R l m->bh R l' m'->bh R (l++l') (m++m')
 | [],[],_,_,_,h=>h
 |_::_,_::_,_,_,⟨a,b⟩,h=>⟨a,bh.append b h⟩
 | [],_::_,_,_,h,_=>h.elim
 |_::_,[],_,_,h,_=>h.elim
theorem bh.get {α β:Type}{R:α->β->Prop}:∀{l:List α} {m:List β},bh R l m->∀{i:Nat} {a:α},l[i]? =some a->∃b,m[i]? =some b∧R a b
 |a::l,b::m,⟨h,_⟩,0,x,e=>⟨b,rfl,by simp at e;exact e▸h⟩
 |a::l,b::m,⟨_,h⟩,i+1,x,e=>by simp at e ⊢;exact bh.get h e
 | [],_,_,i,a,e=>by simp at e
 |_::_,[],h,_,_,_=>h.elim
theorem bh.get' {α β:Type}{R:α->β->Prop}:∀{l:List α} {m:List β},bh R l m->∀{i:Nat} {b:β},m[i]? =some b->∃a,l[i]? =some a∧R a b
 |a::l,b::m,⟨h,_⟩,0,x,e=>⟨a,rfl,by simp at e;exact e▸h⟩
 |a::l,b::m,⟨_,h⟩,i+1,x,e=>by simp at e ⊢;exact bh.get' h e
 |_,[],_,i,a,e=>by simp at e
 | [],_::_,h,_,_,_=>h.elim
theorem bh.adm {α β:Type}{R:α->β->Prop}:∀{l:List α} {m:List β},l.length=m.length->(∀(i:Nat) a b,l[i]? =some a->m[i]? =some b->R a b)->bh R l m
 | [],[],_,_=>trivial
 |a::l,b::m,e,h=>⟨h 0 a b rfl rfl,bh.adm (by simpa using e) λi x y hx hy=>h (i+1) x y (by simpa using hx) (by simpa using hy)⟩
 | [],_::_,e,_=>by simp at e
 |_::_,[],e,_=>by simp at e
theorem bh.take {α β:Type}{R:α->β->Prop}:∀{l:List α} {m:List β} (n:Nat),bh R l m->bh R (l.take n) (m.take n)
 | [],[],n,_=>by simp[bh]
 |_::_,_::_,0,_=>by simp[bh]
 |_::_,_::_,n+1,⟨a,b⟩=>⟨a,bh.take n b⟩
 | [],_::_,_,h=>h.elim
 |_::_,[],_,h=>h.elim
theorem bh.drop {α β:Type}{R:α->β->Prop}:∀{l:List α} {m:List β} (n:Nat),bh R l m->bh R (l.drop n) (m.drop n)
 | [],[],n,_=>by simp[bh]
 |_::_,_::_,0,h=>h
 |_::_,_::_,n+1,⟨_,b⟩=>bh.drop n b
 | [],_::_,_,h=>h.elim
 |_::_,[],_,h=>h.elim
abbrev Pi:=Nat->Option (Nat×Nat×Nat×Nat)
def Ext (π π':Pi):Prop:=∀b p,π b=some p->π' b=some p
theorem Ext.refl (π:Pi):Ext π π:=λ_ _ h=>h
theorem Ext.trans {π π' π'':Pi}(h:Ext π π')(k:Ext π' π''):Ext π π'':=λb p e=>k b p (h b p e)
class ax where
 h0:Nat
 fs:Nat->Nat->Option Value
section
variable [ax]
def FV.rel:FV->Value->Prop
 |.u,x=>x.oneCell'=true
 |.b y,x=>x=.bool y
 |.i k n,x=>x=.int k n
 |.s y,x=>x=.string y
 |.q n g,x=>(n=0∧∃a,x=.slice a 0 0)∨∃B s cap,n<=cap∧x=.slice (some ⟨B,s,none⟩) n cap∧∀j,j<n->ax.fs B (s+j)=some (.bool (g j))
def CV.rel (π:Pi):CV->Value->Prop
 |.f v,x=>v.rel x
 |.ptr b o n,x=>∃B s q e,π b=some (B,s,q,e)∧x=.pointer (some ⟨B,s+o.val,none⟩)∧o.val+n<=q
 |.afJ,x=>x=.pointer none
 |.sl b o n z own,x=>∃B s q e,π b=some (B,s,q,e)∧o.val+n.val*z<=q∧(own=true->o.val+n.val*z=q)∧((n.val=0∧∃a,x=.slice a 0 0)∨∃cap,n.val<=cap∧x=.slice (some ⟨B,s+o.val,none⟩) n.val cap∧(own=true->s+o.val+cap*z<=e))
 |.nils,x=>x=.slice none 0 0
 |.aMP,x=>x=.nilFunc
 |.aMQ,x=>x=.nilIface
 |.cl fid b o n,x=>∃B s q e,π b=some (B,s,q,e)∧x=.func (.func fid) #[] #[.pointer (some ⟨B,s+o.val,none⟩)]∧o.val+n<=q
 |.fs n z cols,x=>cols.length=z∧((n=0∧∃a,x=.slice a 0 0)∨∃B s cap,n<=cap∧x=.slice (some ⟨B,s,none⟩) n cap∧∀j,j<n*z->∃f v,gK cols j=.f f∧ax.fs B (s+j)=some v∧f.rel v)
 |.fp l,x=>∃B s,x=.pointer (some ⟨B,s,none⟩)∧∀j f,l[j]? =some f->∃v,ax.fs B (s+j)=some v∧f.rel v
def RV.rel (π:Pi):RV->Value->Prop
 |.c v,x=>v.rel π x
 |.agg cs,x=>∃a:Array Value,x=.agg a∧bh (CV.rel π) cs.list a.toList
def AV.rel (π:Pi):AV->Value->Prop
 |.r v,x=>v.rel π x
 |.tup vs,x=>∃a:Array Value,x=.tuple a∧bh (RV.rel π) vs a.toList
 |.fn f vs,x=>∃a:Array Value,x=.func (.func f) #[] a∧bh (RV.rel π) vs a.toList
 |.Tk,_=>True
theorem FV.Oq {v:FV}{x:Value}(h:v.rel x):x.oneCell'=true:=by
 cases v with
 |q n g=>
  simp only[FV.rel] at h
  obtain⟨_,_,rfl⟩| ⟨_,_,_,_,rfl,_⟩:=h<;>rfl
 |_=>simp[FV.rel] at h<;>first|exact h|(subst h;rfl)
theorem CV.Oq {π:Pi}{v:CV}{x:Value}(h:v.rel π x):x.oneCell'=true:=by
 cases v<;>simp only[CV.rel] at h
 case f v=>exact FV.Oq h
 case ptr=>obtain⟨_,_,_,_,_,rfl,_⟩:=h;rfl
 case cl=>obtain⟨_,_,_,_,_,rfl,_⟩:=h;rfl
 case fs=>obtain⟨_,⟨_,_,rfl⟩| ⟨_,_,_,_,rfl,_⟩⟩:=h<;>rfl
 case fp=>obtain⟨_,_,rfl,_⟩:=h;rfl
 case sl=>obtain⟨_,_,_,_,_,_,_,⟨_,_,rfl⟩| ⟨_,_,rfl,_⟩⟩:=h<;>rfl
 all_goals (subst h;rfl)
theorem CV.cZ {π π':Pi}(h:Ext π π')(v:CV)(x:Value)(r:v.rel π x):v.rel π' x:=by
 cases v<;>simp only[CV.rel] at r ⊢
 case ptr=>obtain⟨B,s,q,e,hb,hx⟩:=r;exact⟨B,s,q,e,h _ _ hb,hx⟩
 case cl=>obtain⟨B,s,q,e,hb,hx⟩:=r;exact⟨B,s,q,e,h _ _ hb,hx⟩
 case sl=>obtain⟨B,s,q,e,hb,hx⟩:=r;exact⟨B,s,q,e,h _ _ hb,hx⟩
 all_goals exact r
theorem RV.cZ {π π':Pi}(h:Ext π π')(v:RV)(x:Value)(r:v.rel π x):v.rel π' x:=by
 cases v<;>simp only[RV.rel] at r ⊢
 case c=>exact CV.cZ h _ _ r
 case agg=>obtain⟨a,hx,ha⟩:=r;exact⟨a,hx,ha.imp (CV.cZ h)⟩
theorem AV.cZ {π π':Pi}(h:Ext π π')(v:AV)(x:Value)(r:v.rel π x):v.rel π' x:=by
 cases v<;>simp only[AV.rel] at r ⊢
 case r=>exact RV.cZ h _ _ r
 case tup=>obtain⟨a,hx,ha⟩:=r;exact⟨a,hx,ha.imp (RV.cZ h)⟩
 case fn=>obtain⟨a,hx,ha⟩:=r;exact⟨a,hx,ha.imp (RV.cZ h)⟩
omit [ax] in
theorem aLz {x:Value}(h:x.oneCell'=true):x.cells=#[x]:=by
 cases x<;>simp_all [Value.oneCell',Value.cells]
omit [ax] in
theorem aNE (v:CV):af.list [.c v]=[v]:=rfl
theorem RV.LV {π:Pi}{v:RV}{x:Value}(h:v.rel π x):bh (CV.rel π) v.bE.list x.cells.toList:=by
 cases v<;>simp only[RV.rel] at h
 case c v=>rw[aLz (CV.Oq h)];exact⟨h,trivial⟩
 case agg=>obtain⟨a,rfl,ha⟩:=h;exact ha
structure Gt where
 t:Nat->AV
 c:Nat->Nat->CV
 z:Nat->Option Nat
noncomputable def St.gt (s:St):Gt where
 t:=s.tmp
 c:=λb j=>match s.bE b with
  |some k=>if j<k.size then k.get j else .f .u
  |none=>.f .u
 z:=λb=>(s.bE b).map af.size
inductive Pt where
 |t (i:Nat)
 |c (b j:Nat)
 |z (b:Nat)
inductive PV where
 |t (v:AV)
 |c (v:CV)
 |z (v:Option Nat)
def Gt.at (g:Gt):Pt->PV
 |.t i=>.t (g.t i)
 |.c b j=>.c (g.c b j)
 |.z b=>.z (g.z b)
omit [ax] in
theorem Gt.aM7 {g g':Gt}(h:∀p,g.at p=g'.at p):g=g':=by
 cases g with|mk t c z=>cases g' with|mk t' c' z'=>
 have h1:t=t':=funext λi=>by simpa[Gt.at] using h (.t i)
 have h2:c=c':=funext λb=>funext λj=>by simpa[Gt.at] using h (.c b j)
 have h3:z=z':=funext λb=>by simpa[Gt.at] using h (.z b)
 subst h1 h2 h3;rfl
def inX (r:Option (Nat×Nat))(j:Nat):Prop:=
 match r with
 |some (lo,n)=>lo<=j∧j<lo+n
 |none=>True
def Fp.has:Fp->Pt->Prop
 |.t i,.t j=>i=j
 |.c b r,.c b' j=>b=b'∧inX r j
 |.z b,.z b'=>b=b'
 |_,_=>False
def Up.E':Up->Pt->Prop
 |.t i _,.t j=>i=j
 |.c b o v,.c b' j=>b=b'∧o.val<=j∧j<o.val+af.size v
 |.new b _,.c b' _|.kill b,.c b' _|.new b _,.z b'|.kill b,.z b'=>b=b'
 |_,_=>False
omit [ax] in
theorem aF1:∀{v:af} {n:Nat},szL v=some n->af.size v=n
 | [],n,h=>by simp only[szL,Option.some.injEq] at h;rw[<-h];rfl
 |.c _::r,n,h=>by
  simp only[szL,Option.map_eq_some_iff] at h
  obtain⟨m,h1,rfl⟩:=h
  rw[af.size_cons,Sg.jd,aF1 h1]
 |.a (.l k) cols::r,n,h=>by
  simp only[szL,Option.map_eq_some_iff] at h
  obtain⟨m,h1,rfl⟩:=h
  rw[af.size_cons,Sg.jU,aF1 h1];rfl
 |.a (.s _) _::_,n,h=>by simp[szL] at h
omit [ax] in
theorem aAv {o:bX}{v:af}{j:Nat}(h1:o.val<=j)(h2:j<o.val+af.size v):inX (aHS o v) j:=by
 unfold aHS
 split
 ·rename_i c
  cases hs:szL v with
  |none=>trivial
  |some n=>
   have:=aF1 hs
   simp only[Option.map_some,inX]
   simp only[bX.val] at h1 h2
   omega
 ·trivial
omit [ax] in
theorem aTm {o:bX}{bY:Sz}{z j:Nat}(h:j<bY.val*z):inX (ext o bY z) (o.val+j):=by
 unfold ext
 split
 ·simp only[inX,bX.val]
  simp only[Sz.val] at h
  omega
 ·trivial
omit [ax] in
theorem aH3 {r r':Option (Nat×Nat)}{j:Nat}(h1:inX r j)(h2:inX r' j):meet r r'=true:=by
 unfold meet
 split
 ·simp only[inX] at h1 h2
  simp only[ovl,Bool.and_eq_true,rr];omega
 ·rfl
omit [ax] in
theorem Fp.aAw {fp:Fp}{u:Up}{p:Pt}(h1:fp.has p)(h2:u.E' p):fp.awh u=true:=by
 cases fp<;>cases u<;>cases p<;>simp only[Fp.has,Up.E',Fp.awh,beq_iff,Bool.and_eq_true] at* <;>first|omega|skip
 ·exact⟨by omega,aH3 h1.2 (aAv h2.2.1 h2.2.2)⟩
omit [ax] in
theorem Up.aAw {u u':Up}{p:Pt}(h1:u.E' p)(h2:u'.E' p):u.awh u'=true:=by
 cases u<;>cases u'<;>cases p<;>simp only[Up.E',Up.awh,beq_iff,Bool.and_eq_true] at* <;>first|omega|skip
 ·exact⟨by omega,aH3 (aAv h1.2.1 h1.2.2) (aAv h2.2.1 h2.2.2)⟩
def Up.fP (u:Up)(g:Gt):Gt:=
 match u with
 |.t i v=>{g with t:=λj=>if j=i then v else g.t j}
 |.c b o v=>{g with c:=λb' j=>if b'=b∧o.val<=j∧j<o.val+af.size v then af.get v (j-o.val) else g.c b' j}
 |.new b k=>{g with c:=λb' j=>if b'=b then(if j<k.size then k.get j else .f .u) else g.c b' j,z:=λb'=>if b'=b then some k.size else g.z b'}
 |.kill b=>{g with c:=λb' j=>if b'=b then .f .u else g.c b' j,z:=λb'=>if b'=b then none else g.z b'}
omit [ax] in
theorem Up.P1 {u:Up}{g:Gt}{p:Pt}(h:¬u.E' p):(u.fP g).at p=g.at p:=by
 cases u<;>cases p<;>simp_all [Up.E',Up.fP,Gt.at]<;>first|(intro a;exact absurd a.symm (by assumption))|(intros;omega)|(intro a;subst a;simp_all)
omit [ax] in
theorem Up.aH4 {u:Up}{g g':Gt}{p:Pt}(h:u.E' p):(u.fP g).at p=(u.fP g').at p:=by
 cases u<;>cases p<;>simp_all [Up.E',Up.fP,Gt.at]
def cj (us:List Up)(g:Gt):Gt:=us.foldl (λg u=>u.fP g) g
omit [ax] in
theorem oJ:∀{us:List Up} {g:Gt} {p:Pt},(∀u∈us,¬u.E' p)->(cj us g).at p=g.at p
 | [],_,_,_=>rfl
 |u::us,g,p,h=>by
  show(cj us (u.fP g)).at p=_
  rw[oJ λv hv=>h v (by simp[hv]),Up.P1 (h u (by simp))]
omit [ax] in
theorem adn:∀{us:List Up} {g g':Gt} {p:Pt},(∃u∈us,u.E' p)∨g.at p=g'.at p->(cj us g).at p=(cj us g').at p
 | [],g,g',p,h=>by
  rcases h with⟨u,hu,_⟩|h
  ·simp at hu
  ·exact h
 |u::us,g,g',p,h=>by
  show(cj us (u.fP g)).at p=(cj us (u.fP g')).at p
  apply adn
  by_cases hu:u.E' p
  ·exact .inr (Up.aH4 hu)
  ·rcases h with⟨v,hv,ht⟩|h
   ·rcases List.mem_cons.1 hv with rfl|hv
    ·exact absurd ht hu
    ·exact .inl ⟨v,hv,ht⟩
   ·exact .inr (by rw[Up.P1 hu,Up.P1 hu,h])
inductive aH {α:Type}:Rd α->Gt->α->List Fp->Prop where
 |ret (a:α) (g:Gt):aH (.ret a) g a []
 |tm {i:Nat} {k:AV->Rd α} {g:Gt} {a:α} {l:List Fp} (h:aH (k (g.t i)) g a l):aH (.tm i k) g a (.t i::l)
 |vw {b:Nat} {o:bX} {bY:Sz} {z:Nat} {k:af->Rd α} {g:Gt} {a:α} {l:List Fp} (q:Nat) (v:af) (hz:g.z b=some q) (hs:af.size v=bY.val*z) (hv:o.val+bY.val*z<=q->∀j,j<bY.val*z->af.get v j=g.c b (o.val+j)) (h:aH (k v) g a l):aH (.vw b o bY z k) g a (.c b (ext o bY z):: .z b::l)
 |sz {b:Nat} {k:Rd α} {g:Gt} {a:α} {l:List Fp} (q:Nat) (hz:g.z b=some q) (h:aH k g a l):aH (.sz b k) g a (.z b::l)
 |test {x:Bool} {k:Bool->Rd α} {g:Gt} {a:α} {l:List Fp} (h:aH (k x) g a l):aH (.test x k) g a l
 |opt {E:Type} {x:Option E} {k:E->Rd α} {d:E} {g:Gt} {a:α} {l:List Fp} (hx:x=some d) (h:aH (k d) g a l):aH (.opt x k) g a l
omit [ax] in
theorem aH.local {α:Type}{m:Rd α}{g g':Gt}{a:α}{l:List Fp}(h:aH m g a l):(∀fp∈l,∀p,fp.has p->g.at p=g'.at p)->aH m g' a l:=by
 induction h with
 |ret a g=>intro _;exact .ret _ _
 |@tm i k g a l h ih=>
  intro e
  have e1:g.t i=g'.t i:=by simpa[Gt.at] using e (.t i) (by simp) (.t i) rfl
  exact .tm (e1▸ih λfp hf=>e fp (by simp[hf]))
 |@vw b o bY z k g a l q v hz hs hv h ih=>
  intro e
  have e1:g.z b=g'.z b:=by simpa[Gt.at] using e (.z b) (by simp) (.z b) rfl
  refine .vw q v (e1▸hz) hs (λhle j hj=> ?_) (ih λfp hf=>e fp (by simp[hf]))
  rw[hv hle j hj]
  simpa[Gt.at] using e (.c b (ext o bY z)) (by simp) (.c b (o.val+j)) ⟨rfl,aTm hj⟩
 |@sz b k g a l q hz h ih=>
  intro e
  have e1:g.z b=g'.z b:=by simpa[Gt.at] using e (.z b) (by simp) (.z b) rfl
  exact .sz q (e1▸hz) (ih λfp hf=>e fp (by simp[hf]))
 |test h ih=>intro e;exact .test (ih e)
 |opt hx h ih=>intro e;exact .opt hx (ih e)
omit [ax] in
theorem aH.bind {α β:Type}{m:Rd α}{f:α->Rd β}{g:Gt}{b:β}{l:List Fp}(h:aH (m.bind f) g b l):
  ∃a l1 l2,aH m g a l1∧aH (f a) g b l2∧l=l1++l2:=by
 induction m generalizing l with
 |ret a=>exact⟨a,[],l,.ret _ _,h,rfl⟩
 |fail=>cases h
 |tm i k ih=>cases h with|tm h=>obtain⟨a,l1,l2,h1,h2,e⟩:=ih _ h;exact⟨a,_,l2,.tm h1,h2,by simp[e]⟩
 |vw b o bY z k ih=>cases h with|vw q v hz hs hv h=>obtain⟨a,l1,l2,h1,h2,e⟩:=ih _ h;exact⟨a,_,l2,.vw q v hz hs hv h1,h2,by simp[e]⟩
 |sz b k ih=>cases h with|sz q hz h=>obtain⟨a,l1,l2,h1,h2,e⟩:=ih h;exact⟨a,_,l2,.sz q hz h1,h2,by simp[e]⟩
 |opt x k ih=>cases h with|opt hx h=>obtain⟨a,l1,l2,h1,h2,e⟩:=ih _ h;exact⟨a,_,l2,.opt hx h1,h2,by simp[e]⟩
 |test x k ih=>cases h with|test h=>obtain⟨a,l1,l2,h1,h2,e⟩:=ih _ h;exact⟨a,_,l2,.test h1,h2,by simp[e]⟩
omit [ax] in
theorem aH.bind' {α β:Type}{m:Rd α}{f:α->Rd β}{g:Gt}{b:β}{l:List Fp}(h:aH (m.bind f) g b l):
  ∃a,(∃l1,aH m g a l1)∧∃l2,aH (f a) g b l2:=by
 obtain⟨a,l1,l2,h1,h2,_⟩:=h.bind
 exact⟨a,⟨l1,h1⟩,l2,h2⟩
omit [ax] in
theorem St.am3 {s:St}{b:Nat}{k:af}(h:s.bE b=some k):s.gt.z b=some k.size:=by simp[St.gt,h]
omit [ax] in
theorem St.aM8 {s:St}{b j:Nat}{k:af}(h:s.bE b=some k)(hj:j<k.size):s.gt.c b j=k.get j:=by simp[St.gt,h,hj]
omit [ax] in
theorem Rd.aLA {α ρ:Type}{m:Rd α}{s:St}{k:α->List Fp->Option ρ}{r:ρ}:∀{l:List Fp},m.run s l k=some r->
  ∃a fp,aH m s.gt a fp∧k a (fp.reverse++l)=some r:=by
 induction m with
 |ret a=>intro l h;exact⟨a,[],.ret _ _,h⟩
 |fail=>intro l h;simp[Rd.run] at h
 |tm i f ih=>
  intro l h
  obtain⟨a,fp,h1,h2⟩:=ih _ h
  exact⟨a,.t i::fp,.tm h1,by simpa using h2⟩
 |vw b o bY z f ih=>
  intro l h
  simp only[Rd.run] at h
  split at h
  ·rename_i bE hb
   split at h
   ·rename_i p hp
    split at h
    ·rename_i hg
     obtain⟨a,fp,h1,h2⟩:=ih _ h
     obtain⟨g,v⟩:=p
     simp only at hg h1
     subst hg
     obtain⟨e1,e2⟩:=af.aur hp
     exact⟨a,.c b (ext o bY z):: .z b::fp,.vw (af.size bE) _ (St.am3 hb) e1 (λhle j hj=>(e2 hle j hj).trans (St.aM8 hb (by omega)).symm) h1,by simpa using h2⟩
    ·simp at h
   ·simp at h
  ·simp at h
 |sz b f ih=>
  intro l h
  simp only[Rd.run] at h
  split at h
  ·rename_i bE hb
   obtain⟨a,fp,h1,h2⟩:=ih h
   exact⟨a,.z b::fp,.sz (af.size bE) (St.am3 hb) h1,by simpa using h2⟩
  ·simp at h
 |test x f ih=>
  intro l h
  cases x
  ·obtain⟨a,fp,h1,h2⟩:=ih _ h;exact⟨a,fp,.test h1,h2⟩
  ·obtain⟨a,fp,h1,h2⟩:=ih _ h;exact⟨a,fp,.test h1,h2⟩
 |opt x f ih=>
  intro l h
  cases x with
  |none=>cases h
  |some d=>obtain⟨a,fp,h1,h2⟩:=ih d (l:=l) h;exact⟨a,fp,.opt rfl h1,h2⟩
omit [ax] in
theorem aNF {α:Type}(l:List α)(i j:Nat)(v d:α)(h:i<l.length):(l.set i v).getD j d=if j=i then v else l.getD j d:=by
 simp only[List.getD,List.getElem?_set]
 by_cases e:i=j
 ·subst e;simp[h]
 ·simp[e,Ne.symm e]
omit [ax] in
theorem xJ (l:List AV)(i:Nat):ah4 l i=l.getD i YW:=by
 induction l generalizing i with
 |nil=>rfl
 |cons a l ih=>
  cases i with
  |zero=>rfl
  |succ i=>exact(ih i).trans (by simp[List.getD])
omit [ax] in
theorem aie {α ρ:Type}(l:List α)(i:Nat)(v:α)(k:List α->Option ρ):awf l i v k=if i<l.length then k (l.set i v) else none:=by
 induction l generalizing i k with
 |nil=>rfl
 |cons a l ih=>
  cases i with
  |zero=>rfl
  |succ i=>
   have:awf (a::l) (i+1) v k=awf l i v λl'=>k (a::l'):=rfl
   rw[this,ih]
   simp
omit [ax] in
theorem ari {l:List (Option af)}{b b':Nat}{x:Option af}(h:b<l.length):((l.set b x)[b']?).getD none=if b'=b then x else(l[b']?).getD none:=by
 simp only[List.getElem?_set]
 by_cases e:b=b'
 ·subst e;simp[h]
 ·simp[e,Ne.symm e]
omit [ax] in
theorem St.aF2 {s:St}{b:Nat}{k:af}(h:s.bE b=some k):b<s.heap.length:=by
 rcases Nat.lt_or_ge b s.heap.length with h'|h'
 ·exact h'
 ·simp[St.bE,List.getElem?_eq_none h'] at h
omit [ax] in
theorem aH5 {l:List (Option af)}{b':Nat}{x:Option af}:((l++[x])[b']?).getD none=if b'=l.length then x else(l[b']?).getD none:=by
 rw[List.getElem?_append]
 by_cases h:b'<l.length
 ·simp[h,Nat.ne_of_lt h]
 ·by_cases e:b'=l.length
  ·subst e;simp
  ·rw[if_neg h,if_neg e,List.getElem?_eq_none (by simp;omega),List.getElem?_eq_none (by omega)]
omit [ax] in
theorem Up.aTn {s:St}{u:Up}(k:Nat)(h:u.ok s=true):(u.app k s).gt=u.fP s.gt:=by
 apply Gt.aM7
 intro p
 cases u with
 |t i v=>
  have hi:i<s.tmps.length:=by have h:=h;simp[Up.ok,Nat.blt] at h;omega
  cases p<;>simp only[Gt.at,Up.app,Up.fP,St.gt,St.tmp,St.bE,PV.t.injEq]
  rw[xJ,xJ]
  exact aNF _ _ _ _ _ hi
 |c b o v=>
  simp only[Up.ok] at h
  split at h
  ·rename_i bE hb
   split at h
   ·rename_i p' hp
    obtain⟨g',nb⟩:=p'
    simp only[Bool.and_eq_true,eA] at h
    obtain⟨rfl,hle⟩:=h
    obtain⟨vx,aif⟩:=af.aNC hp
    have lY:=St.aF2 hb
    have Xo:∀b',St.bE {s with heap:=s.heap.set b (some nb),cQ:=mark k b s.cQ} b'=if b'=b then some nb else s.bE b':=λb'=>ari lY
    cases p with
    |t j=>simp only[Gt.at,Up.app,Up.fP,St.gt,hb,St.tmp,hp]
    |c b' j=>
     simp only[Gt.at,Up.app,Up.fP,St.gt,hb,PV.c.injEq,hp,Xo]
     by_cases e:b'=b
     ·subst e
      simp only[if_true,hb,vx,true_and]
      by_cases hj:j<af.size bE
      ·simp only[hj,if_true,aif j hj]
      ·simp only[hj,if_false]
       rw[if_neg (by omega)]
     ·simp only[e,if_false,false_and]
    |z b'=>
     simp only[Gt.at,Up.app,Up.fP,St.gt,hb,PV.z.injEq,hp,Xo]
     by_cases e:b'=b
     ·subst e;simp[hb,vx]
     ·simp[e]
   ·simp at h
  ·simp at h
 |new b bE=>
  have hb:b=s.heap.length:=Nat.eq_of_beq_eq_true h
  have Xo:∀b',St.bE {s with heap:=s.heap++[some bE]} b'=if b'=b then some bE else s.bE b':=λb'=>by rw[hb];exact aH5
  cases p with
  |t j=>simp only[Gt.at,Up.app,Up.fP,St.gt,St.tmp]
  |c b' j=>
   simp only[Gt.at,Up.app,Up.fP,St.gt,PV.c.injEq,Xo]
   by_cases e:b'=b<;>simp[e]
  |z b'=>
   simp only[Gt.at,Up.app,Up.fP,St.gt,PV.z.injEq,Xo]
   by_cases e:b'=b<;>simp[e]
 |kill b=>
  have hb:b<s.heap.length:=by have h:=h;simp[Up.ok,Nat.blt] at h;omega
  have Xo:∀b',St.bE {s with heap:=s.heap.set b none,cQ:=mark k b s.cQ} b'=if b'=b then none else s.bE b':=λb'=>ari hb
  cases p with
  |t j=>simp only[Gt.at,Up.app,Up.fP,St.gt,St.tmp]
  |c b' j=>
   simp only[Gt.at,Up.app,Up.fP,St.gt,PV.c.injEq,Xo]
   by_cases e:b'=b<;>simp[e]
  |z b'=>
   simp only[Gt.at,Up.app,Up.fP,St.gt,PV.z.injEq,Xo]
   by_cases e:b'=b<;>simp[e]
omit [ax] in
theorem LW {k:Nat}:∀{us:List Up} {s s':St},iD k us s=some s'->s'.gt=cj us s.gt
 | [],s,s',h=>by simp[iD] at h;subst h;rfl
 |u::us,s,s',h=>by
  simp only[iD] at h
  split at h
  ·rename_i hu
   rw[LW h,Up.aTn k hu];rfl
  ·simp at h
end
theorem Tt {α ρ:Type}(l:List α)(k:List α->ρ):adf l k=k l:=by
 induction l generalizing k with
 |nil=>rfl
 |cons a l ih=>exact ih λl=>k (a::l)
theorem aAx {ρ:Type}(o:bX)(k:bX->ρ):aq6 o k=k o:=by cases o<;>rfl
theorem aAy {ρ:Type}(o:Sz)(k:Sz->ρ):aFZ o k=k o:=by cases o<;>rfl
theorem aAz {ρ:Type}(o:FV)(k:FV->ρ):azI o k=k o:=by cases o<;>rfl
theorem aF3 {ρ:Type}(o:cI)(k:cI->ρ):auo o k=k o:=by cases o<;>rfl
theorem am4 {ρ:Type}(l:List cI)(k:List cI->ρ):Tp l k=k l:=by
 induction l generalizing k with
 |nil=>rfl
 |cons a l ih=>
  have:Tp (a::l) k=auo a λa=>Tp l λl=>k (a::l):=rfl
  rw[this,aF3,ih]
theorem aH6 {ρ:Type}(l:List FV)(k:List FV->ρ):aq7 l k=k l:=by
 induction l generalizing k with
 |nil=>rfl
 |cons a l ih=>
  have:aq7 (a::l) k=azI a λa=>aq7 l λl=>k (a::l):=rfl
  rw[this,aAz,ih]
theorem aAA {ρ:Type}(o:CV)(k:CV->ρ):azJ o k=k o:=by
 cases o<;>simp only[azJ,aAz,aAx,aAy,am4,aH6]
theorem aH7 {ρ:Type}(o:Sg)(k:Sg->ρ):aq8 o k=k o:=by
 cases o<;>simp only[aq8,aAA,aAy,am4]
theorem ado {ρ:Type}(l:af)(k:af->ρ):Xk l k=k l:=by
 induction l generalizing k with
 |nil=>rfl
 |cons a l ih=>
  have:Xk (a::l) k=aq8 a λa=>Xk l λl=>k (a::l):=rfl
  rw[this,aH7,ih]
theorem aAB {ρ:Type}(o:RV)(k:RV->ρ):aq9 o k=k o:=by
 cases o<;>simp only[aq9,aAA,ado]
theorem aH8 {ρ:Type}(l:List RV)(k:List RV->ρ):ah7 l k=k l:=by
 induction l generalizing k with
 |nil=>rfl
 |cons a l ih=>
  have:ah7 (a::l) k=aq9 a λa=>ah7 l λl=>k (a::l):=rfl
  rw[this,aAB,ih]
theorem aAC {ρ:Type}(o:AV)(k:AV->ρ):ara o k=k o:=by
 cases o<;>simp only[ara,aAB,aH8]
theorem aLB {ρ:Type}(o:Up)(k:Up->ρ):azK o k=k o:=by
 cases o<;>simp only[azK,aAC,aAx,ado]
theorem aH9 {ρ:Type}(l:List Up)(k:List Up->ρ):arb l k=k l:=by
 induction l generalizing k with
 |nil=>rfl
 |cons a l ih=>
  have:arb (a::l) k=azK a λa=>arb l λl=>k (a::l):=rfl
  rw[this,aLB,ih]
theorem aIa {ρ:Type}(l:List AV)(k:List AV->ρ):arc l k=k l:=by
 induction l generalizing k with
 |nil=>rfl
 |cons a l ih=>
  have:arc (a::l) k=ara a λa=>arc l λl=>k (a::l):=rfl
  rw[this,aAC,ih]
theorem aIb {ρ:Type}(o:Option af)(k:Option af->ρ):ard o k=k o:=by
 cases o<;>simp only[ard,ado]
theorem aIc {ρ:Type}(l:List (Option af))(k:List (Option af)->ρ):are l k=k l:=by
 induction l generalizing k with
 |nil=>rfl
 |cons a l ih=>
  have:are (a::l) k=ard a λa=>are l λl=>k (a::l):=rfl
  rw[this,aIb,ih]
theorem Jj {ρ:Type}(s:St)(k:St->ρ):uZ s k=k s:=by
 unfold uZ;simp only[Tt,aIa,aIc]
theorem Up.aAD {ρ:Type}(k:Nat)(u:Up)(s:St)(c:St->Option ρ):u.aa4 k s c=match u.ok s with
  |true=>c (u.app k s)
  |false=>none:=by
 cases u with
 |t i v=>
  simp only[Up.aa4,aie,Up.ok,Up.app]
  by_cases h:i<s.tmps.length
  ·rw[if_pos h,rr.2 h]
  ·rw[if_neg h,adg h]
 |c b o v=>
  simp only[Up.aa4,Up.ok,Up.app,ado,Tt,aie]
  split
  ·rename_i bE hb
   have lY:b<s.heap.length:=St.aF2 hb
   split
   ·rename_i p hp
    split<;>rename_i hg<;>simp only[hb,hp,hg,lY,if_true]
   ·rename_i hp;simp only[hb,hp]
  ·rename_i hb;simp only[hb]
 |new b bE=>
  simp only[Up.aa4,Up.ok,Up.app,Tt]
  cases Nat.beq b s.heap.length<;>rfl
 |kill b=>
  simp only[Up.aa4,aie,Up.ok,Up.app,Tt]
  by_cases h:b<s.heap.length
  ·rw[if_pos h,rr.2 h]
  ·rw[if_neg h,adg h]
theorem aAD {ρ:Type}(k:Nat)(us:List Up)(s:St)(c:St->Option ρ):aa4 k us s c=match iD k us s with
  |some s'=>c s'
  |none=>none:=by
 induction us generalizing s with
 |nil=>rfl
 |cons u us ih=>
  have:aa4 k (u::us) s c=u.aa4 k s λs=>aa4 k us s c:=rfl
  rw[this,Up.aAD,iD]
  split
  ·rename_i h;simp only[h,ih]
  ·rename_i h;simp only[h]
end Go.Ab
namespace Go.Ab
structure bN (w0:World)(S:Nat->Nat->Prop)(w:World):Prop where
 os:w.os=w0.os
 tape:w.tape=w0.tape
 output:w.output=w0.output
 size:w0.heap.size<=w.heap.size
 obj:∀B:Nat,B<w0.heap.size->(∀c t fz,w0.heap[B]? ≠some (.cells c t fz))->w.heap[B]? =w0.heap[B]?
 fzn:∀a,w.frozen? a=w0.frozen? a
 row:∀(B:Nat) c t fz,w0.heap[B]? =some (.cells c t fz)->∃c',w.heap[B]? =some (.cells c' t fz)∧c'.size=c.size∧∀i:Nat,¬S B i->c'[i]? =c[i]?
theorem bN.refl (w:World)(S:Nat->Nat->Prop):bN w S w:=
 ⟨rfl,rfl,rfl,Nat.le_refl _,λ_ _ _=>rfl,λ_=>rfl,λ_ c _ _ h=>⟨c,h,rfl,λ_ _=>rfl⟩⟩
theorem bN.mono {w0 w:World}{S S':Nat->Nat->Prop}(h:bN w0 S w)(hs:∀B i,B<w0.heap.size->S B i->S' B i):bN w0 S' w:=
 ⟨h.os,h.tape,h.output,h.size,h.obj,h.fzn,λB c t fz hb=>by
  obtain⟨c',h1,h2,h3⟩:=h.row B c t fz hb
  refine⟨c',h1,h2,λi hi=>h3 i λhS=>hi (hs B i ?_ hS)⟩
  rcases Nat.lt_or_ge B w0.heap.size with h'|h'
  ·exact h'
  ·rw[Array.getElem?_eq_none h'] at hb;cases hb⟩
theorem bN.trans {w0 w w':World}{S S':Nat->Nat->Prop}(h:bN w0 S w)(h':bN w S' w')(hs:∀B i,B<w0.heap.size->S' B i->S B i):bN w0 S w':=by
 refine⟨h'.os.trans h.os,h'.tape.trans h.tape,h'.output.trans h.output,Nat.le_trans h.size h'.size,λB hB hn=> ?_,λa=>(h'.fzn a).trans (h.fzn a),λB c t fz hb=> ?_⟩
 ·have e:=h.obj B hB hn
  rw[<-e]
  exact h'.obj B (Nat.lt_of_lt_of_le hB h.size) (by rw[e];exact hn)
 ·obtain⟨c1,e1,z1,k1⟩:=h.row B c t fz hb
  obtain⟨c2,e2,z2,k2⟩:=h'.row B c1 t fz e1
  have hB:B<w0.heap.size:=by
   rcases Nat.lt_or_ge B w0.heap.size with h'|h'
   ·exact h'
   ·rw[Array.getElem?_eq_none h'] at hb;cases hb
  exact⟨c2,e2,z2.trans z1,λi hi=>(k2 i λhS=>hi (hs B i hB hS)).trans (k1 i hi)⟩
theorem bN.drew {w0 w:World}{S:Nat->Nat->Prop}(h:bN w0 S w):bN w0 S {w with drawn:=w.drawn+1}:=⟨h.os,h.tape,h.output,h.size,h.obj,h.fzn,h.row⟩
theorem Tu (w:World)(c:Array Value)(t:TypeId)(a:Addr):(w.alloc (.cells c t)).frozen? a=w.frozen? a:=by
 by_cases h:a.block=w.heap.size
 ·have e1:(w.alloc (.cells c t)).heap[a.block]? =some (.cells c t):=by
   rw[h];show(w.heap.push _)[w.heap.size]? =_
   simp
  have e2:w.heap[a.block]? =none:=by rw[h];simp
  simp[World.frozen?,e1,e2]
 ·exact World.frozen?_alloc_old _ _ _ h
theorem bN.alloc {w0 w:World}{S:Nat->Nat->Prop}(h:bN w0 S w)(cs:Array Value)(ty:TypeId):bN w0 S (w.alloc (.cells cs ty)):=by
 generalize ho:Obj.cells cs ty=o
 have lY:∀(B:Nat),B<w0.heap.size->(w.alloc o).heap[B]? =w.heap[B]? :=λB hB=>by
  show(w.heap.push o)[B]? =_
  rw[Array.getElem?_push,if_neg (by have:=h.size;omega)]
 refine⟨h.os,h.tape,h.output,by rw[World.size_alloc];have:=h.size;omega,λB hB hn=>(lY B hB).trans (h.obj B hB hn),λa=>by rw[<-ho,Tu];exact h.fzn a,λB c t fz hb=> ?_⟩
 have hB:B<w0.heap.size:=by
  rcases Nat.lt_or_ge B w0.heap.size with h'|h'
  ·exact h'
  ·rw[Array.getElem?_eq_none h'] at hb;cases hb
 rw[lY B hB]
 exact h.row B c t fz hb
theorem bN.setCell {w0 w:World}{S:Nat->Nat->Prop}(h:bN w0 S w){B i:Nat}(hs:w0.heap.size<=B∨S B i)(v:Value):bN w0 S (w.setCell ⟨B,i,none⟩ v):=by
 refine⟨h.os,h.tape,h.output,by simpa[World.setCell] using h.size,λB' hB hn=> ?_,λa=>(World.frozen?_setCell _ _ _ _).trans (h.fzn a),λB' c t fz hb=> ?_⟩
 ·by_cases e:B=B'
  ·subst e
   have:=h.obj B hB hn
   simp only[World.setCell,Array.getElem?_modify,if_true,this]
   cases hh:w0.heap[B]? with
   |none=>rfl
   |some x=>cases x<;>first|rfl|exact absurd hh (hn _ _ _)
  ·simp only[World.setCell,Array.getElem?_modify,e,if_false];exact h.obj B' hB hn
 ·have hB:B'<w0.heap.size:=by
   rcases Nat.lt_or_ge B' w0.heap.size with h'|h'
   ·exact h'
   ·rw[Array.getElem?_eq_none h'] at hb;cases hb
  obtain⟨c1,e1,z1,k1⟩:=h.row B' c t fz hb
  by_cases e:B=B'
  ·subst e
   refine⟨c1.setIfInBounds i v,by simp[World.setCell,Array.getElem?_modify,e1],by simpa using z1,λj hj=> ?_⟩
   have kV:i≠j:=λe=>by subst e;rcases hs with hs|hs;omega;exact hj hs
   rw[Array.getElem?_setIfInBounds_ne kV]
   exact k1 j hj
  ·exact⟨c1,by simp only[World.setCell,Array.getElem?_modify,e,if_false];exact e1,z1,k1⟩
theorem bN.setCells {w0:World}{S:Nat->Nat->Prop}{B:Nat}:∀{vs:List Value} {o:Nat} {w:World},bN w0 S w->(w0.heap.size<=B∨∀j,j<vs.length->S B (o+j))->bN w0 S (w.setCells B o vs)
 | [],_,_,h,_=>h
 |v::vs,o,w,h,hs=>by
  rw[World.setCells]
  refine bN.setCells (h.setCell (hs.imp id λh=>by simpa using h 0 (by simp)) v) (hs.imp id λh j hj=> ?_)
  have:=h (j+1) (by simp;omega)
  rwa [show o+(j+1)=o+1+j by omega] at this
variable [ax]
def cl (w:World)(B i:Nat):Option Value:=w.cell? ⟨B,i,none⟩
def fz (w:World)(B i:Nat):Bool:=w.frozen? ⟨B,i,none⟩
omit [ax] in
theorem Y0 {w:World}{B i:Nat}(h:(cl w B i).isSome=true):B<w.heap.size:=by
 rcases Nat.lt_or_ge B w.heap.size with h'|h'
 ·exact h'
 ·simp[cl,World.cell?,Array.getElem?_eq_none h'] at h
omit [ax] in
theorem aEo {w:World}{o:Obj}{B i:Nat}(h:B<w.heap.size):cl (w.alloc o) B i=cl w B i:=World.cell?_alloc_lt _ _ _ h
omit [ax] in
theorem aNG {w:World}{o:Obj}{B i:Nat}(h:B<w.heap.size):fz (w.alloc o) B i=fz w B i:=World.frozen?_alloc_old _ _ _ (Nat.ne_of_lt h)
omit [ax] in
theorem bN.cl {w0 w:World}{S:Nat->Nat->Prop}(h:bN w0 S w){B i:Nat}(hB:B<w0.heap.size)(hs:¬S B i):cl w B i=cl w0 B i:=by
 simp only[Ab.cl,World.cell?]
 cases hh:w0.heap[B]? with
 |none=>rw[h.obj B hB (by simp[hh]),hh]
 |some x=>
  cases x with
  |cells c t f=>
   obtain⟨c',e,_,k⟩:=h.row B c t f hh
   simp only[e]
   simpa using k i hs
  |_=>rw[h.obj B hB (by simp[hh]),hh]
omit [ax] in
theorem bN.fz {w0 w:World}{S:Nat->Nat->Prop}(h:bN w0 S w){B i:Nat}(hB:B<w0.heap.size):fz w B i=fz w0 B i:=by
 simp only[Ab.fz,World.frozen?]
 cases hh:w0.heap[B]? with
 |none=>rw[h.obj B hB (by simp[hh]),hh]
 |some x=>
  cases x with
  |cells c t f=>
   obtain⟨c',e,_,k⟩:=h.row B c t f hh
   simp only[e]
  |_=>rw[h.obj B hB (by simp[hh]),hh]
structure xK (w:World):Prop where
 sz:ax.h0<=w.heap.size
 fr:∀B i,ax.h0<=B->fz w B i=false
 st:∀B i v,ax.fs B i=some v->B<ax.h0∧cl w B i=some v
theorem xK.same {w w':World}(h:xK w)(e:w'.heap=w.heap):xK w':=by
 refine⟨by rw[e];exact h.sz,λB i hB=> ?_,λB i v hv=> ?_⟩
 ·have:=h.fr B i hB
  simp only[fz,World.frozen?] at this ⊢
  rw[e];exact this
 ·obtain⟨h1,h2⟩:=h.st B i v hv
  refine⟨h1,?_⟩
  simp only[cl,World.cell?] at h2 ⊢
  rw[e];exact h2
theorem xK.alloc {w:World}(h:xK w)(cs:Array Value)(t:TypeId):xK (w.alloc (.cells cs t)):=by
 refine⟨by rw[World.size_alloc];have:=h.sz;omega,λB i hB=> ?_,λB i v hv=> ?_⟩
 ·unfold fz
  rw[Tu];exact h.fr B i hB
 ·obtain⟨h1,h2⟩:=h.st B i v hv
  exact⟨h1,by rw[aEo (Y0 (by rw[h2];rfl))];exact h2⟩
structure pM (π:Pi)(c:Nat->Nat->CV)(z:Nat->Option Nat)(w:World):Prop where
 am:xK w
 lb:∀b B s q e,z b≠none->π b=some (B,s,q,e)->s<e->ax.h0<=B
 hp:∀b n,z b=some n->∃B s e,π b=some (B,s,n,e)∧s+n<=e∧(∀i,s<=i->i<e->(cl w B i).isSome=true∧fz w B i=false)∧∀j,j<n->∃v,cl w B (s+j)=some v∧(c b j).rel π v
 dj:∀b b' B s q e s' q' e',b≠b'->z b≠none->z b'≠none->π b=some (B,s,q,e)->π b'=some (B,s',q',e')->∀i,s<=i->i<e->s'<=i->i<e'->False
theorem pM.aM9 {π:Pi}{c:Nat->Nat->CV}{z:Nat->Option Nat}{w w':World}(h:pM π c z w)
  (ha:xK w')(hw:∀b B s q e,z b≠none->π b=some (B,s,q,e)->∀i,s<=i->i<e->cl w' B i=cl w B i∧fz w' B i=fz w B i):pM π c z w':=by
 refine⟨ha,h.lb,λb n hz=> ?_,h.dj⟩
 obtain⟨B,s,e,hb,hle,h1,h2⟩:=h.hp b n hz
 refine⟨B,s,e,hb,hle,λi hi he=> ?_,λj hj=> ?_⟩
 ·have:=hw b B s n e (by simp[hz]) hb i hi he
  rw[this.1,this.2];exact h1 i hi he
 ·have:=hw b B s n e (by simp[hz]) hb (s+j) (by omega) (by omega)
  rw[this.1];exact h2 j hj
theorem pM.Jk {π π':Pi}{c:Nat->Nat->CV}{z:Nat->Option Nat}{w:World}(h:pM π c z w)(hx:Ext π π'):pM π' c z w:=by
 refine⟨h.am,λb B s q e hz hb yI=> ?_,λb n hz=> ?_,λb b' B s q e s' q' e' kV hz ru hb ew=> ?_⟩
 ·cases hh:z b with
  |none=>exact absurd hh hz
  |some n=>
   obtain⟨B1,s1,e1,hb1,_⟩:=h.hp b n hh
   have e2:=hx _ _ hb1
   rw[hb] at e2;cases e2
   exact h.lb b B s _ e (by rw[hh];simp) hb1 yI
 ·obtain⟨B,s,e,hb,hle,h1,h2⟩:=h.hp b n hz
  exact⟨B,s,e,hx _ _ hb,hle,h1,λj hj=>let⟨v,a,r⟩:=h2 j hj;⟨v,a,CV.cZ hx _ _ r⟩⟩
 ·have uG:∀b,z b≠none->∃p,π b=some p:=λb hz=>by
   cases hh:z b with
   |none=>exact absurd hh hz
   |some n=>obtain⟨B,s,e,hb,_⟩:=h.hp b n hh;exact⟨_,hb⟩
  obtain⟨p,hp⟩:=uG b hz
  obtain⟨p',rH⟩:=uG b' ru
  have e1:=hx _ _ hp;rw[hb] at e1
  have e2:=hx _ _ rH;rw[ew] at e2
  exact h.dj b b' B s q e s' q' e' kV hz ru (hp.trans e1.symm) (rH.trans e2.symm)
theorem pM.kill {π:Pi}{c:Nat->Nat->CV}{z:Nat->Option Nat}{w:World}(h:pM π c z w)(b:Nat):
  pM π (λb' j=>if b'=b then .f .u else c b' j) (λb'=>if b'=b then none else z b') w:=by
 refine⟨h.am,λb' B s q e hz hb yI=> ?_,λb' n hz=> ?_,λb1 b2 B s q e s' q' e' kV hz ru=> ?_⟩
 ·by_cases e:b'=b
  ·simp[e] at hz
  ·simp only[e,if_false] at hz
   exact h.lb b' B s q _ hz hb yI
 ·by_cases e:b'=b
  ·simp[e] at hz
  ·simp only[e,if_false] at hz ⊢
   exact h.hp b' n hz
 ·by_cases e1:b1=b
  ·simp[e1] at hz
  by_cases e2:b2=b
  ·simp[e2] at ru
  simp only[e1,e2,if_false] at hz ru
  exact h.dj b1 b2 B s q e s' q' e' kV hz ru
theorem pM.new {π:Pi}{c:Nat->Nat->CV}{z:Nat->Option Nat}{w:World}(h:pM π c z w){b B s e:Nat}{k:af}(hb:π b=some (B,s,k.size,e))(hle:s+k.size<=e)
  (h1:∀i,s<=i->i<e->(cl w B i).isSome=true∧fz w B i=false)(h2:∀j,j<k.size->∃v,cl w B (s+j)=some v∧(k.get j).rel π v)
  (hd:∀b' s' q' e',b'≠b->z b'≠none->π b'=some (B,s',q',e')->∀i,s<=i->i<e->s'<=i->i<e'->False)(hlb:s<e->ax.h0<=B):
  pM π (λb' j=>if b'=b then(if j<k.size then k.get j else .f .u) else c b' j) (λb'=>if b'=b then some k.size else z b') w:=by
 refine⟨h.am,λb' B' s' q' e' hz ew yI=> ?_,λb' n hz=> ?_,λb1 b2 B' s1 q1 e1 s2 q2 e2 kV hz ru hb1 CF i i1 i2 i3 i4=> ?_⟩
 ·by_cases x:b'=b
  ·subst x
   rw[hb] at ew;cases ew
   exact hlb yI
  ·simp only[x,if_false] at hz
   exact h.lb b' B' s' q' e' hz ew yI
 ·by_cases e':b'=b
  ·subst e'
   simp only[if_true,Option.some.injEq] at hz
   subst hz
   refine⟨B,s,e,hb,hle,h1,λj hj=> ?_⟩
   simp only[if_true,hj]
   exact h2 j hj
  ·simp only[e',if_false] at hz ⊢
   exact h.hp b' n hz
 ·by_cases x1:b1=b
  ·subst x1
   have x2:b2≠b1:=λx=>kV x.symm
   rw[hb] at hb1;cases hb1
   simp only[x2,if_false] at ru
   exact hd b2 s2 q2 e2 x2 ru CF i i1 i2 i3 i4
  ·by_cases x2:b2=b
   ·subst x2
    rw[hb] at CF;cases CF
    simp only[x1,if_false] at hz
    exact hd b1 s1 q1 e1 x1 hz hb1 i i3 i4 i1 i2
   ·simp only[x1,x2,if_false] at hz ru
    exact h.dj b1 b2 B' s1 q1 e1 s2 q2 e2 kV hz ru hb1 CF i i1 i2 i3 i4
omit [ax] in
theorem dH {w:World}{B o:Nat}{vs:List Value}{B' i:Nat}(h:B'=B->i<o∨o+vs.length<=i):cl (w.setCells B o vs) B' i=cl w B' i:=
 World.cell?_setCells_out B vs o w ⟨B',i,none⟩ λe _=>h e
omit [ax] in
theorem lZ {w:World}{B o:Nat}{vs:List Value}(h:∀j,j<vs.length->(cl w B (o+j)).isSome=true){j:Nat}(hj:j<vs.length):cl (w.setCells B o vs) B (o+j)=some vs[j]:=
 World.cell?_setCells_in B vs o w h j hj
omit [ax] in
theorem ni {w:World}{B o:Nat}{vs:List Value}{B' i:Nat}:fz (w.setCells B o vs) B' i=fz w B' i:=World.frozen?_setCells B vs o w _
omit [ax] in
theorem aih {B:Nat}:∀{vs:List Value} {o:Nat} {w:World},(w.setCells B o vs).heap.size=w.heap.size
 | [],_,_=>rfl
 |v::vs,o,w=>by rw[World.setCells,aih];simp[World.setCell]
omit [ax] in
theorem isSome_setCells {w:World}{B o:Nat}{vs:List Value}(h:∀j,j<vs.length->(cl w B (o+j)).isSome=true){B' i:Nat}(hi:(cl w B' i).isSome=true):(cl (w.setCells B o vs) B' i).isSome=true:=by
 by_cases hc:B'=B∧o<=i∧i<o+vs.length
 ·obtain⟨rfl,h1,h2⟩:=hc
  have:=lZ h (j:=i-o) (by omega)
  rw[show o+(i-o)=i by omega] at this
  simp[this]
 ·rw[dH];exact hi
  intro e;omega
theorem ia {π:Pi}{k:af}{xs:List Value}(h:bh (CV.rel π) k.list xs):xs.length=af.size k∧∀j,j<af.size k->∃x,xs[j]? =some x∧(af.get k j).rel π x:=by
 refine⟨by rw[<-h.length,af.arf],λj hj=> ?_⟩
 exact h.get (by rw[af.adi,if_pos hj])
theorem vd {π:Pi}{k:af}{xs:List Value}(hl:xs.length=af.size k)(h:∀j,j<af.size k->∃x,xs[j]? =some x∧(af.get k j).rel π x):bh (CV.rel π) k.list xs:=by
 refine bh.adm (by rw[af.arf,hl]) λi a b ha hb=> ?_
 rw[af.adi] at ha
 split at ha
 ·rename_i hi
  cases ha
  obtain⟨x,hx,hr⟩:=h i hi
  rw[hb] at hx;cases hx
  exact hr
 ·cases ha
theorem xK.setCells {w:World}(h:xK w){B o:Nat}{xs:List Value}(hB:0<xs.length->ax.h0<=B):xK (w.setCells B o xs):=by
 refine⟨by rw[aih];exact h.sz,λB' i hB'=>by rw[ni];exact h.fr B' i hB',λB' i v hv=> ?_⟩
 obtain⟨h1,h2⟩:=h.st B' i v hv
 refine⟨h1,?_⟩
 rw[dH]
 ·exact h2
 ·intro e
  rcases Nat.eq_zero_or_pos xs.length with h0|h0
  ·omega
  ·have:=hB h0;omega
theorem pM.set {π:Pi}{c:Nat->Nat->CV}{z:Nat->Option Nat}{w:World}(h:pM π c z w){b n B s e lo:Nat}{vs:af}{xs:List Value}(hz:z b=some n)(hb:π b=some (B,s,n,e))(hn:lo+af.size vs<=n)
  (hx:bh (CV.rel π) vs.list xs):
  pM π (λb' j=>if b'=b∧lo<=j∧j<lo+af.size vs then af.get vs (j-lo) else c b' j) z (w.setCells B (s+lo) xs):=by
 obtain⟨B',s',e',ew,hle,h1,h2⟩:=h.hp b n hz
 rw[hb] at ew;cases ew
 obtain⟨hlen,aif⟩:=ia hx
 have hin:∀j,j<xs.length->(cl w B (s+lo+j)).isSome=true:=λj hj=>(h1 _ (by omega) (by omega)).1
 refine⟨h.am.setCells λhl=>h.lb b B s n e (by rw[hz];simp) hb (by omega),h.lb,λb' n' ru=> ?_,h.dj⟩
 obtain⟨B2,s2,e2,CF,aa5,k1,k2⟩:=h.hp b' n' ru
 refine⟨B2,s2,e2,CF,aa5,λi hi he=>⟨isSome_setCells hin (k1 i hi he).1,by rw[ni];exact(k1 i hi he).2⟩,λj hj=> ?_⟩
 by_cases eb:b'=b
 ·subst eb
  rw[hb] at CF;cases CF
  by_cases hc:lo<=j∧j<lo+af.size vs
  ·have hj':j-lo<xs.length:=by omega
   have:=lZ hin hj'
   rw[show s+lo+(j-lo)=s+j by omega] at this
   refine⟨_,this,?_⟩
   rw[if_pos ⟨rfl,hc⟩]
   obtain⟨x,hx1,hx2⟩:=aif (j-lo) (by omega)
   rw[List.getElem?_eq_getElem hj'] at hx1
   cases hx1
   exact hx2
  ·rw[if_neg (by simp only[true_and];exact hc),dH (λ_=>by omega)]
   exact k2 j hj
 ·rw[if_neg (by simp[eb]),dH]
  ·exact k2 j hj
  ·intro e;subst e
   by_cases hc:s+lo<=s2+j∧s2+j<s+lo+xs.length
   ·exact(h.dj b' b B2 s2 _ e2 s _ e eb (by simp[ru]) (by simp[hz]) CF hb (s2+j) (by omega) (by omega) (by omega) (by omega)).elim
   ·omega
structure Cx where
 w0:World
 k:Nat
 p0:Pi
 N:Nat
def AG (p0:Pi)(k:Nat)(D:Nat->Prop)(B i:Nat):Prop:=∃b s q e,b<k∧D b∧p0 b=some (B,s,q,e)∧s<=i∧i<e
structure Rel (X:Cx)(D:Nat->Prop)(π:Pi)(g:Gt)(a:Act)(w:World):Prop where
 tm:∀i,(g.t i).rel π (a.tmps.getD i undef)
 nt:a.tmps.size=X.N
 df:a.defers=[]
 hp:pM π g.c g.z w
 uG:∀b,b<X.k->π b=X.p0 b
 ft:∀b B s q e,X.k<=b->g.z b≠none->π b=some (B,s,q,e)->B<X.w0.heap.size->∀i,s<=i->i<e->AG X.p0 X.k D B i
 fr:bN X.w0 (AG X.p0 X.k D) w
theorem Rel.dst {X:Cx}{D:Nat->Prop}{π:Pi}{g:Gt}{a:Act}{w:World}(R:Rel X D π g a w){dst:Option Tmp}(hd:∀d,dst=some d->d<X.N){v:AV}{x:Value}(hv:v.rel π x):
  Rel X D π (cj (dm dst v) g) (a.put dst x) w:=by
 cases dst with
 |none=>exact R
 |some d=>
  have lY:d<a.tmps.size:=by rw[R.nt];exact hd d rfl
  refine⟨λi=> ?_,by simpa[Act.put] using R.nt,R.df,R.hp,R.uG,R.ft,R.fr⟩
  show(if i=d then v else g.t i).rel π ((a.tmps.setIfInBounds d x).getD i undef)
  by_cases e:i=d
  ·subst e;simp[lY,hv]
  ·rw[if_neg e]
   have:=R.tm i
   simpa[Array.getElem?_setIfInBounds_ne (Ne.symm e)] using this
theorem Rel.Jk {X:Cx}{D:Nat->Prop}{π π':Pi}{g:Gt}{a:Act}{w:World}(R:Rel X D π g a w)(hx:Ext π π')(ho:∀b,b<X.k->π' b=π b):Rel X D π' g a w:=by
 refine⟨λi=>AV.cZ hx _ _ (R.tm i),R.nt,R.df,R.hp.Jk hx,λb hb=>(ho b hb).trans (R.uG b hb),λb B s q e hk hz hb=> ?_,R.fr⟩
 have:∃p,π b=some p:=by
  cases hh:g.z b with
  |none=>exact absurd hh hz
  |some n=>obtain⟨B,s,e,hb,_⟩:=R.hp.hp b n hh;exact⟨_,hb⟩
 obtain⟨p,hp⟩:=this
 have:=hx _ _ hp
 rw[hb] at this;cases this
 exact R.ft b B s q e hk hz hp
theorem Rel.aF4 {X:Cx}{D D':Nat->Prop}{π:Pi}{g:Gt}{a:Act}{w:World}(R:Rel X D π g a w)(h:∀b,D b->D' b):Rel X D' π g a w:=
 ⟨R.tm,R.nt,R.df,R.hp,R.uG,λb B s q e hk hz hb hB i h1 h2=>let⟨b0,s0,q0,e0,x1,x2,x3⟩:=R.ft b B s q e hk hz hb hB i h1 h2;⟨b0,s0,q0,e0,x1,h _ x2,x3⟩,
  R.fr.mono λB i _ ⟨b0,s0,q0,e0,x1,x2,x3⟩=>⟨b0,s0,q0,e0,x1,h _ x2,x3⟩⟩
theorem Rel.drew {X:Cx}{D:Nat->Prop}{π:Pi}{g:Gt}{a:Act}{w:World}(R:Rel X D π g a w):Rel X D π g a {w with drawn:=w.drawn+1}:=
 ⟨R.tm,R.nt,R.df,R.hp.aM9 (R.hp.am.same rfl) λ_ _ _ _ _ _ _ _ _ _=>⟨rfl,rfl⟩,R.uG,R.ft,R.fr.drew⟩
theorem Rel.kill {X:Cx}{D:Nat->Prop}{π:Pi}{g:Gt}{a:Act}{w:World}(R:Rel X D π g a w)(b:Nat):Rel X D π ((Up.kill b).fP g) a w:=by
 refine⟨R.tm,R.nt,R.df,R.hp.kill b,R.uG,λb' B s q e hk hz=> ?_,R.fr⟩
 by_cases eb:b'=b
 ·exact absurd (by simp[Up.fP,eb]) hz
 ·exact R.ft b' B s q e hk (by simpa[Up.fP,eb] using hz)
def xw (π:Pi)(b:Nat)(p:Nat×Nat×Nat×Nat):Pi:=λb'=>if b'=b then some p else π b'
omit [ax] in
theorem nM (π:Pi)(b:Nat)(p:Nat×Nat×Nat×Nat):xw π b p b=some p:=by simp[xw]
omit [ax] in
theorem xL {π:Pi}{b:Nat}(h:π b=none)(p:Nat×Nat×Nat×Nat):Ext π (xw π b p):=by
 intro b' q hq
 simp only[xw]
 by_cases e:b'=b
 ·subst e;rw[h] at hq;cases hq
 ·simp[e,hq]
theorem Rel.new {X:Cx}{D:Nat->Prop}{π:Pi}{g:Gt}{a:Act}{w:World}(R:Rel X D π g a w){b B s e:Nat}{k:af}(hb:π b=some (B,s,k.size,e))(hk:X.k<=b)(hle:s+k.size<=e)
  (h1:∀i,s<=i->i<e->(cl w B i).isSome=true∧fz w B i=false)(h2:∀j,j<k.size->∃v,cl w B (s+j)=some v∧(k.get j).rel π v)
  (hd:∀b' s' q' e',b'≠b->g.z b'≠none->π b'=some (B,s',q',e')->∀i,s<=i->i<e->s'<=i->i<e'->False)
  (hf:B<X.w0.heap.size->∀i,s<=i->i<e->AG X.p0 X.k D B i)(hlb:s<e->ax.h0<=B:=by intro h;omega):Rel X D π ((Up.new b k).fP g) a w:=by
 refine⟨R.tm,R.nt,R.df,R.hp.new hb hle h1 h2 hd hlb,R.uG,λb' B' s' q' e' I8 hz ew hB i i1 i2=> ?_,R.fr⟩
 by_cases eb:b'=b
 ·subst eb;rw[hb] at ew;cases ew;exact hf hB i i1 i2
 ·exact R.ft b' B' s' q' e' I8 (by simpa[Up.fP,eb] using hz) ew hB i i1 i2
theorem Rel.alloc {X:Cx}{D:Nat->Prop}{π:Pi}{g:Gt}{a:Act}{w:World}(R:Rel X D π g a w){b e:Nat}{k:af}{cs:Array Value}{t:TypeId}(hb:π b=none)(hk:X.k<=b)(hle:k.size<=e)(he:e<=cs.size)
  (h2:∀j,j<k.size->∃v,cs[j]? =some v∧(k.get j).rel π v):
  Rel X D (xw π b (w.heap.size,0,k.size,e)) ((Up.new b k).fP g) a (w.alloc (.cells cs t)):=by
 have hx:=xL hb (w.heap.size,0,k.size,e)
 have live:∀b' B' s' q' e',g.z b'≠none->π b'=some (B',s',q',e')->∀i,s'<=i->i<e'->B'<w.heap.size:=λb' B' s' q' e' hz ew i i1 i2=>by
  cases hh:g.z b' with
  |none=>exact absurd hh hz
  |some n=>
   obtain⟨_,_,_,CF,_,k1,_⟩:=R.hp.hp b' n hh
   rw[ew] at CF;cases CF
   exact Y0 (k1 i i1 i2).1
 have R1:Rel X D π g a (w.alloc (.cells cs t)):=
  ⟨R.tm,R.nt,R.df,R.hp.aM9 (R.hp.am.alloc cs t) λb' B' s' q' e' hz ew i i1 i2=>⟨aEo (live b' B' s' q' e' hz ew i i1 i2),aNG (live b' B' s' q' e' hz ew i i1 i2)⟩,R.uG,R.ft,R.fr.alloc _ _⟩
 have R2:=R1.Jk hx (λb' ew=>by simp only[xw];rw[if_neg (by omega)])
 have BE:∀i,cl (w.alloc (.cells cs t)) w.heap.size i=cs[i]? :=λi=>World.cell?_alloc_new w cs t i
 refine R2.new (s:=0) (nM _ _ _) hk (by omega) (λi _ i2=>⟨?_,World.frozen?_alloc_new w cs t i⟩) (λj hj=> ?_) (λb' s' q' e' kV hz ew i _ _ i3 i4=> ?_) (λhB=> ?_) (λ_=>R.hp.am.sz)
 ·rw[BE];simp;omega
 ·obtain⟨v,hv,hr⟩:=h2 j hj
  exact⟨v,by rw[Nat.zero_add,BE];exact hv,CV.cZ hx _ _ hr⟩
 ·simp only[xw,kV,if_false] at ew
  exact absurd (live b' _ s' q' e' hz ew i i3 i4) (Nat.lt_irrefl _)
 ·have:=R.fr.size;omega
theorem Rel.set {X:Cx}{D:Nat->Prop}{π:Pi}{g:Gt}{a:Act}{w:World}(R:Rel X D π g a w){b n B s e:Nat}{o:bX}{vs:af}{xs:List Value}(hz:g.z b=some n)(hb:π b=some (B,s,n,e))(hn:o.val+af.size vs<=n)
  (hx:bh (CV.rel π) vs.list xs)(hD:b<X.k->D b):Rel X D π ((Up.c b o vs).fP g) a (w.setCells B (s+o.val) xs):=by
 refine⟨R.tm,R.nt,R.df,R.hp.set hz hb hn hx,R.uG,R.ft,R.fr.setCells ?_⟩
 obtain⟨B',s',e',ew,hle,h1,h2⟩:=R.hp.hp b n hz
 rw[hb] at ew;cases ew
 have hlen:=(ia hx).1
 rcases Nat.lt_or_ge B X.w0.heap.size with hB|hB
 ·right
  intro j hj
  rcases Nat.lt_or_ge b X.k with hk|hk
  ·exact⟨b,s,n,e,hk,hD hk,(R.uG b hk).symm.trans hb,by omega,by omega⟩
  ·exact R.ft b B s n e hk (by simp[hz]) hb hB _ (by omega) (by omega)
 ·exact .inl hB
end Go.Ab
namespace Go.Ab
variable [ax]
omit [ax] in
theorem lC (B o j:Nat):(⟨B,o,none⟩:Addr).add j=⟨B,o+j,none⟩:=by
 unfold Addr.add;split<;>simp_all
theorem aId {v:Value}{c:CV}(h:ofC v=some c)(π:Pi):c.rel π v:=by
 unfold ofC at h
 split at h<;>first|(cases h;rfl)|cases h
omit [ax] in
theorem aAE (v:CV)(r:af):af.list (.c v::r)=v::r.list:=by
 apply List.ext_getElem?
 intro i
 rw[af.adi]
 cases i with
 |zero=>rw[if_pos (by rw[af.size_cons,Sg.jd];omega)];rfl
 |succ i=>
  rw[List.getElem?_cons_succ,af.adi]
  by_cases h:i<af.size r
  ·rw[if_pos h,if_pos (by rw[af.size_cons,Sg.jd];omega),<-af.jf (l:=r) (j':=i) (by omega) (by omega)]
  ·rw[if_neg h,if_neg (by rw[af.size_cons,Sg.jd];omega)]
theorem aEp:∀{vs:List Value} {cs:af},aEg vs=some cs->∀π,bh (CV.rel π) cs.list vs
 | [],cs,h,π=>by simp[aEg] at h;subst h;trivial
 |v::vs,cs,h,π=>by
  simp only[aEg] at h
  split at h
  ·rename_i c PY h1 h2
   cases h
   rw[aAE]
   exact⟨aId h1 π,aEp h2 π⟩
  ·cases h
theorem aAF {v:Value}{r:RV}(h:ofR v=some r)(π:Pi):r.rel π v:=by
 have key:(ofC v).map RV.c=some r->r.rel π v:=λh=>by
  cases hc:ofC v with
  |none=>rw[hc] at h;cases h
  |some l=>rw[hc] at h;cases h;exact aId hc π
 cases v with
 |agg cs=>
  simp only[ofR] at h
  cases hc:aEg cs.toList with
  |none=>rw[hc] at h;cases h
  |some l=>rw[hc] at h;cases h;exact⟨_,rfl,aEp hc π⟩
 |_=>simp only[ofR] at h;exact key h
omit [ax] in
theorem aH.du {α:Type}{x:Option α}{g:Gt}{a:α}{l:List Fp}(h:aH (du x) g a l):x=some a:=by
 cases x with
 |none=>cases h
 |some b=>cases h;rfl
omit [ax] in
theorem aH.ck {x:Bool}{g:Gt}{u:Unit}{l:List Fp}(h:aH (ck x) g u l):x=true:=by
 cases h with|test h=>cases x with
  |true=>rfl
  |false=>cases h
omit [ax] in
theorem aH.asR {v:AV}{g:Gt}{a:RV}{l:List Fp}(h:aH (asR v) g a l):v=.r a:=by
 unfold Ab.asR at h;split at h
 ·cases h;rfl
 ·cases h
omit [ax] in
theorem aH.asC {v:AV}{g:Gt}{a:CV}{l:List Fp}(h:aH (asC v) g a l):v=.r (.c a):=by
 unfold Ab.asC at h;split at h
 ·cases h;rfl
 ·cases h
omit [ax] in
theorem aH.asI {v:AV}{g:Gt}{a:IntKind×Int}{l:List Fp}(h:aH (asI v) g a l):v=.r (.c (.f (.i a.1 a.2))):=by
 unfold Ab.asI at h;split at h
 ·cases h;rfl
 ·cases h
omit [ax] in
theorem aH.asB {v:AV}{g:Gt}{a:Bool}{l:List Fp}(h:aH (asB v) g a l):v=.r (.c (.f (.b a))):=by
 unfold Ab.asB at h;split at h
 ·cases h;rfl
 ·cases h
omit [ax] in
theorem aH.asP {v:AV}{g:Gt}{a:Nat×bX×Nat}{l:List Fp}(h:aH (asP v) g a l):v=.r (.c (.ptr a.1 a.2.1 a.2.2)):=by
 unfold Ab.asP at h;split at h
 ·cases h;rfl
 ·cases h
section
variable {X:Cx} {D:Nat->Prop} {π:Pi} {g:Gt} {a:Act} {w:World}
theorem aH.BD {x:Operand}{v:AV}{l:List Fp}(h:aH (BD x) g v l)(R:Rel X D π g a w):v.rel π (a.eval x):=by
 cases x with
 |tmp t=>cases h with|tm h=>cases h;exact R.tm t
 |const c=>
  obtain⟨r,⟨_,h1⟩,_,h2⟩:=aH.bind' h
  cases h2
  exact aAF h1.du π
 |func f=>cases h;exact⟨#[],rfl,trivial⟩
 |global g=>cases h
theorem aH.tt {x:Operand}{v:RV}{l:List Fp}(h:aH (tt x) g v l)(R:Rel X D π g a w):v.rel π (a.eval x):=by
 obtain⟨r,⟨_,h1⟩,_,h2⟩:=aH.bind' h
 have:=h1.BD R
 rw[h2.asR] at this;exact this
theorem aH.aHT {x:Operand}{v:RV}{l:List Fp}(h:aH (aHT x) g v l)(R:Rel X D π g a w):v.rel π (a.eval x):=by
 obtain⟨r,⟨_,h1⟩,_,h2⟩:=aH.bind' h
 have:=h1.BD R
 unfold Ab.asS at h2
 split at h2
 ·cases h2;exact this
 ·cases h2
  obtain⟨arr,hx,ha⟩:=this
  obtain⟨arr⟩:=arr
  match arr,ha with
  | [y],⟨hy,_⟩=>
   obtain⟨B,s,q,e,hb,rfl,hle⟩:=hy
   exact⟨B,s,q,e,hb,hx,hle⟩
 ·cases h2
theorem aH.EF {x:Operand}{v:CV}{l:List Fp}(h:aH (EF x) g v l)(R:Rel X D π g a w):v.rel π (a.eval x):=by
 obtain⟨r,⟨_,h1⟩,_,h2⟩:=aH.bind' h
 have:=h1.BD R
 rw[h2.asC] at this;exact this
theorem aH.Iq {x:Operand}{v:IntKind×Int}{l:List Fp}(h:aH (Iq x) g v l)(R:Rel X D π g a w):a.eval x=.int v.1 v.2:=by
 obtain⟨r,⟨_,h1⟩,_,h2⟩:=aH.bind' h
 have:=h1.BD R
 rw[h2.asI] at this;exact this
theorem aH.aEh {x:Operand}{v:Bool}{l:List Fp}(h:aH (aEh x) g v l)(R:Rel X D π g a w):a.eval x=.bool v:=by
 obtain⟨r,⟨_,h1⟩,_,h2⟩:=aH.bind' h
 have:=h1.BD R
 rw[h2.asB] at this;exact this
theorem aH.aHU {x:Operand}{v:Nat×bX×Nat}{l:List Fp}(h:aH (aHU x) g v l)(R:Rel X D π g a w):∃B s q e,π v.1=some (B,s,q,e)∧a.eval x=.pointer (some ⟨B,s+v.2.1.val,none⟩)∧v.2.1.val+v.2.2<=q:=by
 obtain⟨r,⟨_,h1⟩,_,h2⟩:=aH.bind' h
 have:=h1.BD R
 rw[h2.asP] at this;exact this
omit [ax] in
theorem aH.qW {α β:Type}{f:α->Rd β}{ρ:β->α->Prop}(hf:∀x v l,aH (f x) g v l->ρ v x):∀{xs:List α} {vs:List β} {l:List Fp},aH (qW f xs) g vs l->bh ρ vs xs
 | [],vs,l,h=>by cases h;trivial
 |x::xs,vs,l,h=>by
  obtain⟨v,⟨_,h1⟩,_,h2⟩:=aH.bind' h
  obtain⟨iU,⟨_,h3⟩,_,h4⟩:=aH.bind' h2
  cases h4
  exact⟨hf x v _ h1,aH.qW hf h3⟩
omit [ax] in
theorem Hy {P:Program}{t:TypeId}{v:Bool}(h:aa2 P t=some v)(w:World):(isAgg t).run P w=.ok v w:=by
 unfold aa2 at h
 unfold isAgg
 cases hu:P.underlying t with
 |none=>rw[hu] at h;cases h
 |some d=>rw[hu] at h;cases d<;>simp[run_underlying hu]<;>simp_all
omit [ax] in
theorem am5 {P:Program}{t:TypeId}{n:Nat}(h:gJ P t=some n):∃i,P.info? t=some i∧i.size=n:=by
 unfold gJ at h
 cases hi:P.info? t with
 |none=>rw[hi] at h;cases h
 |some i=>rw[hi] at h;exact⟨i,rfl,by simpa using h⟩
omit [ax] in
theorem run_typeInfo {P:Program}{t:TypeId}{i:TypeInfo}(h:P.info? t=some i)(w:World):(typeInfo t).run P w=.ok i w:=by simp[typeInfo,h]
omit [ax] in
theorem run_sizeOf {P:Program}{t:TypeId}{n:Nat}(h:gJ P t=some n)(w:World):(sizeOf t).run P w=.ok n w:=by
 obtain⟨i,hi,rfl⟩:=am5 h
 simp[sizeOf,run_typeInfo hi]
theorem aa6 {P:Program}{t:TypeId}{r:RV}(h:xH P t=some r)(w:World):∃x,(zeroValue t).run P w=.ok x w∧(∃it:TypeInfo,P.info? t=some it∧it.zero=some x)∧∀π,r.rel π x:=by
 unfold xH at h
 cases hi:P.info? t with
 |none=>rw[hi] at h;cases h
 |some i=>
  rw[hi] at h
  simp only[Option.bind_some] at h
  cases hz:i.zero with
  |none=>rw[hz] at h;cases h
  |some x=>
   rw[hz] at h
   simp only[Option.bind_some] at h
   refine⟨x,by simp[zeroValue,run_typeInfo hi,hz],⟨i,rfl,hz⟩,λπ=> ?_⟩
   split at h
   ·rename_i b hb
    simp only[Option.map_eq_some_iff] at h
    obtain⟨b',h1,rfl⟩:=h
    obtain⟨e1,e2⟩:=aid h1
    obtain⟨arr,rfl,hr⟩:=aAF hb π
    obtain⟨l1,l2⟩:=ia hr
    exact⟨arr,rfl,vd (by rw[l1,e1]) λj hj=>by rw[e2];exact l2 j (by omega)⟩
   ·exact aAF h π
omit [ax] in
theorem aF5 {P:Program}(ob:Obj)(w:World):(newObj ob).run P w=.ok w.heap.size (w.alloc ob):=rfl
omit [ax] in
theorem Jl {P:Program}(t:TypeId)(cs:Array Value)(w:World):(newRow t cs).run P w=.ok ⟨w.heap.size,0,none⟩ (w.alloc (.cells cs t)):=by
 simp only[newRow,Sem.run_bind,aF5,Result.andThen_ok,Sem.run_pure]
theorem Rel.view (R:Rel X D π g a w){b q n:Nat}{o:bX}{v:af}(hz:g.z b=some q)(hs:af.size v=n)(hv:o.val+n<=q->∀j,j<n->af.get v j=g.c b (o.val+j)){B s q' e:Nat}(hb:π b=some (B,s,q',e))(hn:o.val+n<=q'):
  q'=q∧∃xs:List Value,xs.length=n∧bh (CV.rel π) v.list xs∧∀j x,xs[j]? =some x->cl w B (s+o.val+j)=some x:=by
 obtain⟨B',s',e',ew,hle,_,h2⟩:=R.hp.hp b q hz
 rw[hb] at ew;cases ew
 have hv:=hv hn
 have cell:∀j,j<n->∃x,cl w B (s+o.val+j)=some x∧(af.get v j).rel π x:=λj hj=>by
  obtain⟨x,hx,hr⟩:=h2 (o.val+j) (by omega)
  rw[<-hv j hj] at hr
  exact⟨x,by rw[show s+o.val+j=s+(o.val+j) by omega];exact hx,hr⟩
 refine⟨rfl,(List.range n).map λj=>(cl w B (s+o.val+j)).getD undef,by simp,vd (by simp[hs]) λj hj=> ?_,λj x hx=> ?_⟩
 ·obtain⟨x,hx,hr⟩:=cell j (by omega)
  refine⟨x,?_,hr⟩
  rw[List.getElem?_map,List.getElem?_range (by omega)]
  simp[hx]
 ·have hjn:j<n:=by
   have:=(List.getElem?_eq_some_iff.1 hx).1;simpa using this
  obtain⟨u,hu,_⟩:=cell j hjn
  simp[hjn,hu] at hx
  rw[hu,hx]
omit [ax] in
theorem Xp {P:Program}{w:World}{B o:Nat}{xs:List Value}(h:∀j v,xs[j]? =some v->cl w B (o+j)=some v):(loadCells ⟨B,o,none⟩ xs.length).run P w=.ok xs.toArray w:=
 run_loadCells_list w _ xs λj v hj=>by rw[lC];exact h j v hj
omit [ax] in
theorem aH.apu {b:af}{v:RV}{l:List Fp}(h:aH (apu b) g v l):∃c,b=[.c c]∧v=.c c:=by
 unfold Ab.apu at h
 split at h
 ·cases h;exact⟨_,rfl,rfl⟩
 ·cases h
theorem aH.Xj {P:Program}(R:Rel X D π g a w){t:TypeId}{b m:Nat}{o:bX}{v:RV}{l:List Fp}(h:aH (Xj P t b o m) g v l){B s q' e:Nat}(hb:π b=some (B,s,q',e))(hm:o.val+m<=q'):
  ∃x,(loadVar t ⟨B,s+o.val,none⟩).run P w=.ok x w∧v.rel π x:=by
 obtain⟨ag,⟨_,h1⟩,_,h⟩:=aH.bind' h
 obtain⟨n,⟨_,h2⟩,_,h⟩:=aH.bind' h
 have h1:=h1.du
 have h2:=h2.du
 cases ag with
 |true=>
  obtain⟨_,⟨_,h3⟩,_,h⟩:=aH.bind' h
  have h3:=eA.1 h3.ck
  cases h with|vw q u hz hs hv h=>
  cases h
  simp only[Sz.val,Nat.one_mul] at hs hv
  obtain⟨_,xs,hl,hx,hc⟩:=R.view hz hs hv hb (by omega)
  refine⟨.agg xs.toArray,?_,⟨_,rfl,hx⟩⟩
  have:=Xp (P:=P) hc
  rw[hl] at this
  simp[loadVar,Hy h1,run_sizeOf h2,this]
 |false=>
  obtain⟨_,⟨_,h3⟩,_,h⟩:=aH.bind' h
  have h3:=eA.1 h3.ck
  cases h with|vw q u hz hs hv h=>
  simp only[Sz.val,Nat.one_mul] at hs hv
  obtain⟨_,xs,hl,hx,hc⟩:=R.view hz hs hv hb (by omega)
  obtain⟨c,rfl,rfl⟩:=h.apu
  rw[aNE] at hx
  obtain⟨x,rfl⟩:∃x,xs=[x]:=by
   match xs,hl with
   | [x],_=>exact⟨x,rfl⟩
  have hcx:=hc 0 x rfl
  simp only[Nat.add_zero] at hcx
  refine⟨x,?_,hx.1⟩
  simp only[cl] at hcx
  simp[loadVar,Hy h1,hcx]
omit [ax] in
theorem aH.aAg {b v:af}{o:bX}{bY:Sz}{z:Nat}{l:List Fp}(h:aH (aAg b o bY z) g v l):b.sub o bY z=some (true,v):=by
 unfold Ab.aAg at h
 split at h
 ·rename_i p hp
  cases h with|test h=>
  obtain⟨gg,u⟩:=p
  cases gg with
  |true=>cases h;exact hp
  |false=>cases h
 ·cases h
theorem aH.aFV {P:Program}{t:TypeId}{cs:af}{o:bX}{v:RV}{l:List Fp}(h:aH (aFV P t cs o) g v l){n:Nat}(hn:gJ P t=some n)(hn1:1<=n)(hle:o.val+n<=af.size cs){xs:Array Value}(hx:bh (CV.rel π) cs.list xs.toList)(w:World):
  ∃x,(part t xs o.val).run P w=.ok x w∧v.rel π x:=by
 obtain⟨ag,⟨_,h1⟩,_,h⟩:=aH.bind' h
 obtain⟨n',⟨_,h2⟩,_,h⟩:=aH.bind' h
 have h1:=h1.du
 have h2:=h2.du
 rw[hn] at h2;cases h2
 obtain⟨l1,l2⟩:=ia hx
 cases ag with
 |true=>
  obtain⟨u,⟨_,h3⟩,_,h⟩:=aH.bind' h
  cases h
  obtain⟨e1,e2⟩:=af.aur h3.aAg
  simp only[Sz.val,Nat.one_mul] at e1 e2
  have e2:=e2 hle
  refine⟨.agg (xs.extract o.val (o.val+n)),by simp[part,Hy h1,run_sizeOf hn],⟨_,rfl,?_⟩⟩
  have:(xs.extract o.val (o.val+n)).toList=(xs.toList.drop o.val).take n:=by
   rw[Array.toList_extract];simp[List.extract]
  rw[this]
  refine vd (by rw[List.length_take,List.length_drop,l1];omega) λj hj=> ?_
  obtain⟨x,hx1,hx2⟩:=l2 (o.val+j) (by omega)
  refine⟨x,by rw[List.getElem?_take,if_pos (by omega),List.getElem?_drop];exact hx1,?_⟩
  rw[e2 j (by omega)];exact hx2
 |false=>
  obtain⟨u,⟨_,h3⟩,_,h⟩:=aH.bind' h
  obtain⟨c,rfl,rfl⟩:=h.apu
  obtain⟨_,e2⟩:=af.aur h3.aAg
  have e2:=e2 (by simp only[Sz.val];omega) 0 (by simp[Sz.val])
  obtain⟨x,hx1,hx2⟩:=l2 o.val (by omega)
  refine⟨x,?_,?_⟩
  ·have:xs[o.val]? =some x:=by simpa using hx1
   simp[part,Hy h1,this]
  ·rw[Nat.add_zero] at e2
   rw[<-e2] at hx2;exact hx2
theorem aVf {n:Nat}{q:Nat->Bool}{x:Value}(h:(CV.f (.q n q)).rel π x):(CV.fs n 1 [.b q]).rel π x:=by
 refine⟨rfl,?_⟩
 rcases h with h| ⟨B,s,cap,h1,h2,h3⟩
 ·exact .inl h
 ·refine .inr ⟨B,s,cap,h1,h2,λj hj=>⟨.b (q j),.bool (q j),?_,h3 j (by omega),rfl⟩⟩
  simp[gK,Nat.mod_one,cI.at]
omit [ax] in
theorem aH.aVg {P:Program}{t:TypeId}{c c':CV}{l:List Fp}(h:aH (aEi P t c) g c' l):c'=c∨∃n q,c=.f (.q n q)∧c'=.fs n 1 [.b q]:=by
 unfold Ab.aEi at h
 generalize P.underlying t=u at h
 split at h
 ·cases h with|@test x _ _ _ _ h=>
  cases hx:FV.isB _<;>rw[hx] at h<;>cases h
  rename_i x;cases x<;>first|exact .inl rfl|cases hx
 ·cases h with|@test x _ _ _ _ h=>
  cases hx:FV.isI _ _<;>rw[hx] at h<;>cases h
  rename_i k x;cases x<;>first|(cases hx;done)|skip
  simp only[FV.isI,decide_eq_true_eq] at hx
  subst hx;exact .inl rfl
 ·cases h with|@test x _ _ _ _ h=>
  cases hx:FV.isS _<;>rw[hx] at h<;>cases h
  rename_i x;cases x<;>first|exact .inl rfl|cases hx
 ·cases h;exact .inr ⟨_,_,rfl,rfl⟩
 ·cases h;exact .inl rfl
theorem aH.aEi {P:Program}{t:TypeId}{c c':CV}{l:List Fp}(h:aH (aEi P t c) g c' l){x:Value}(hx:c.rel π x):c'.rel π x:=by
 rcases h.aVg with rfl| ⟨n,q,rfl,rfl⟩
 ·exact hx
 ·exact aVf hx
theorem aH.amX {P:Program}{t:TypeId}{c c':RV}{l:List Fp}(h:aH (amX P t c) g c' l){π:Pi}{x:Value}(hx:c.rel π x):c'.rel π x:=by
 cases c with
 |c c=>
  obtain⟨v,⟨_,h1⟩,_,h⟩:=aH.bind' h
  cases h
  exact h1.aEi hx
 |agg cs=>
  cases h
  obtain⟨xs,rfl,hx⟩:=hx
  obtain⟨l1,l2⟩:=ia hx
  obtain⟨n1,n2⟩:=aLx P t cs
  refine⟨xs,rfl,vd (by rw[l1,n1]) λj hj=> ?_⟩
  rw[n1] at hj
  rw[n2 j hj]
  exact l2 j hj
theorem aH.valueOf {P:Program}(R:Rel X D π g a w){t:TypeId}{b m:Nat}{o:bX}{v:RV}{l:List Fp}(h:aH (valueOf P t b o m) g v l){B s q' e:Nat}(hb:π b=some (B,s,q',e))(hm:o.val+m<=q'):
  ∃x,(loadVar t ⟨B,s+o.val,none⟩).run P w=.ok x w∧v.rel π x:=by
 obtain⟨u,⟨_,h1⟩,_,h⟩:=aH.bind' h
 obtain⟨x,hx,hr⟩:=aH.Xj R h1 hb hm
 exact⟨x,hx,h.amX hr⟩
theorem aH.partOf {P:Program}{t:TypeId}{cs:af}{o:bX}{v:RV}{l:List Fp}(h:aH (partOf P t cs o) g v l){n:Nat}(hn:gJ P t=some n)(hn1:1<=n)(hle:o.val+n<=af.size cs){xs:Array Value}(hx:bh (CV.rel π) cs.list xs.toList)(w:World):
  ∃x,(part t xs o.val).run P w=.ok x w∧v.rel π x:=by
 obtain⟨u,⟨_,h1⟩,_,h⟩:=aH.bind' h
 obtain⟨x,hx1,hr⟩:=aH.aFV h1 hn hn1 hle hx w
 exact⟨x,hx1,h.amX hr⟩
theorem aH.LQ {P:Program}{t:TypeId}{cs:af}{c:Nat}{v:RV}{l:List Fp}(h:aH (LQ P t cs c) g v l){xs:Array Value}(hx:bh (CV.rel π) cs.list xs.toList)(w:World):
  ∃x,(part t xs c).run P w=.ok x w∧v.rel π x:=by
 obtain⟨n,⟨_,h1⟩,_,h⟩:=aH.bind' h
 obtain⟨_,⟨_,h2⟩,_,h⟩:=aH.bind' h
 have h2:=h2.ck
 simp only[Bool.and_eq_true,eA] at h2
 exact h.partOf h1.du h2.1 h2.2 hx w
end
def bY (us:List Up):Nat:=(us.filter λ|.new _ _=>true|_=>false).length
def Up.perm (k:Nat)(D:Nat->Prop):Up->Prop
 |.c b _ _|.kill b=>b<k->D b
 |_=>True
def xp (P:Program)(o:Oper)(X:Cx)(D:Nat->Prop)(aJ:Nat)(us:List Up)(g:Gt):Prop:=
 ∀π a w (next:Act->World->Prop) (Q:Exit->Act->World->Prop),Rel X D π g a w->X.k<=aJ->(∀b,aJ<=b->b<aJ+bY us->π b=none)->(∀d,o.dst=some d->d<X.N)->(∀u∈us,u.perm X.k D)->
  (∀a' w' π',Ext π π'->(∀b,π' b≠none->π b≠none∨(aJ<=b∧b<aJ+bY us))->Rel X D π' (cj us g) a' w'->next a' w')->o.wp P a w next Q
section
variable {P:Program} {o:Oper} {X:Cx} {D:Nat->Prop} {aJ:Nat} {us:List Up} {g:Gt}
omit [ax] in
theorem Ny {a:Act}{w w':World}{x:Value}{next:Act->World->Prop}{Q:Exit->Act->World->Prop}(h:(execOp a.eval o).run P w=.ok (.value x) w')(hn:next (a.put o.dst x) w'):o.wp P a w next Q:=by
 unfold Oper.wp;rw[h];exact hn
omit [ax] in
theorem aTo {a:Act}{w w':World}{next:Act->World->Prop}{Q:Exit->Act->World->Prop}(h:(execOp a.eval o).run P w=.ok .skip w')(hn:next (a.put o.dst undef) w'):o.wp P a w next Q:=by
 unfold Oper.wp;rw[h];exact hn
theorem gE {v:AV}(h:∀π a w,Rel X D π g a w->∃x,(execOp a.eval o).run P w=.ok (.value x) w∧v.rel π x):xp P o X D aJ (dm o.dst v) g:=by
 intro π a w next Q R hk hf hd hD hn
 obtain⟨x,h1,h2⟩:=h π a w R
 exact Ny h1 (hn _ _ π (Ext.refl _) (λb h=>.inl h) (R.dst hd h2))
theorem apA (π:Pi):YW.rel π undef:=⟨#[],rfl,trivial⟩
theorem aAG {x:Operand}{fp:List Fp}(ho:o.op=.move x∨o.op=.assign x)(h:aH ((BD x).bind λv=>.ret (dm o.dst v)) g us fp):xp P o X D aJ us g:=by
 obtain⟨v,⟨_,h1⟩,_,h2⟩:=aH.bind' h
 cases h2
 refine gE λπ a w R=>⟨a.eval x,?_,h1.BD R⟩
 rcases ho with ho|ho<;>simp[execOp,ho]
theorem aLC {c x y:Operand}{fp:List Fp}(ho:o.op=.pick c x y)(h:aH ((aEh c).bind λz=>.test z λ|true=>(BD x).bind λv=>.ret (dm o.dst v)|false=>(BD y).bind λv=>.ret (dm o.dst v)) g us fp):xp P o X D aJ us g:=by
 obtain⟨z,⟨_,h1⟩,_,h2⟩:=aH.bind' h
 cases h2 with|test h2=>
 cases z with
 |true=>
  obtain⟨v,⟨_,h3⟩,_,h4⟩:=aH.bind' h2
  cases h4
  refine gE λπ a w R=>⟨a.eval x,?_,h3.BD R⟩
  simp[execOp,ho,h1.aEh R,asBool]
 |false=>
  obtain⟨v,⟨_,h3⟩,_,h4⟩:=aH.bind' h2
  cases h4
  refine gE λπ a w R=>⟨a.eval y,?_,h3.BD R⟩
  simp[execOp,ho,h1.aEh R,asBool]
theorem Xq:∀(ks:List (Option (Nat×List CK))) (b:af) (aJ:Nat),af.size (PZ ks b aJ).1=af.size b∧(∀e∈(PZ ks b aJ).2,af.size e=0)∧
  ∀π:Pi,(∀i,i<(PZ ks b aJ).2.length->π (aJ+i)=some (0,0,0,0))->∀j,j<af.size b->∀v,(af.get b j).rel π v->(af.get (PZ ks b aJ).1 j).rel π v
 |_,[],_=>⟨rfl,λe h=>by simp[PZ] at h,λ_ _ _ _ _ h=>h⟩
 |ks,.a n cols::r,b=>by
  obtain⟨h1,h2,h3⟩:=Xq (ks.drop (n.val*cols.length)) r b
  refine⟨by rw[PZ,af.size_cons,af.size_cons,h1],h2,λπ hp j hj v hv=> ?_⟩
  rw[af.size_cons] at hj
  rw[PZ]
  by_cases jX:j<(Sg.a n cols).size
  ·rw[af.c9 jX] at hv ⊢;exact hv
  ·rw[af.jw (by omega)] at hv ⊢
   exact h3 π hp _ (by omega) v hv
 |ks,.c v::r,b=>by
  unfold PZ
  split
  ·rename_i z k ks
   obtain⟨h1,h2,h3⟩:=Xq ks r (b+1)
   refine⟨by rw[af.size_cons,af.size_cons,h1];rfl,λe he=> ?_,λπ hp j hj v hv=> ?_⟩
   ·rcases List.mem_cons.1 he with rfl|he
    ·simp[af.size,Sg.size,Sz.val]
    ·exact h2 e he
   ·rw[af.size_cons,Sg.jd] at hj
    cases j with
    |zero=>
     have hv:v=.slice none 0 0:=hv
     subst hv
     exact⟨0,0,0,0,by simpa using hp 0 (by simp),by simp[bX.val,Sz.val],λ_=>by simp[bX.val,Sz.val],.inl ⟨rfl,none,rfl⟩⟩
    |succ j=>
     rw[af.jw (by rw[Sg.jd];omega)] at hv ⊢
     exact h3 π (λi hi=>by have:=hp (i+1) (by simpa using hi);rwa [show b+1+i=b+(i+1) by omega]) _ (by rw[Sg.jd];omega) v hv
  ·obtain⟨h1,h2,h3⟩:=Xq (ks.drop 1) r b
   refine⟨by rw[af.size_cons,af.size_cons,h1],h2,λπ hp j hj v hv=> ?_⟩
   rw[af.size_cons,Sg.jd] at hj
   cases j with
   |zero=>exact hv
   |succ j=>
    rw[af.jw (by rw[Sg.jd];omega)] at hv ⊢
    exact h3 π hp _ (by rw[Sg.jd];omega) v hv
theorem arj (P:Program)(t:TypeId)(b:af)(aJ:Nat):af.size (gQ P t b aJ).1=af.size b∧(∀e∈(gQ P t b aJ).2,af.size e=0)∧
  ∀π:Pi,(∀i,i<(gQ P t b aJ).2.length->π (aJ+i)=some (0,0,0,0))->∀xs,bh (CV.rel π) b.list xs->bh (CV.rel π) (af.list (gQ P t b aJ).1) xs:=by
 unfold gQ
 split
 ·obtain⟨h1,h2,h3⟩:=Xq (aFY P 30 t) b aJ
  refine⟨h1,h2,λπ hp xs hx=> ?_⟩
  obtain⟨l1,l2⟩:=ia hx
  refine vd (by rw[h1,l1]) λj hj=> ?_
  rw[h1] at hj
  obtain⟨x,hx1,hx2⟩:=l2 j hj
  exact⟨x,hx1,h3 π hp j hj x hx2⟩
 ·exact⟨rfl,λe he=>by simp at he,λ_ _ _ h=>h⟩
omit [ax] in
theorem aEq (us vs:List Up):bY (us++vs)=bY us+bY vs:=by simp[bY]
omit [ax] in
theorem apB:∀(es:List af) (aJ:Nat),bY (ze es aJ)=es.length
 | [],_=>rfl
 |e::es,aJ=>by
  have:=apB es (aJ+1)
  unfold bY at this ⊢
  simp only[ze,List.filter_cons,if_true,List.length_cons,this]
omit [ax] in
theorem aAH (us vs:List Up)(g:Gt):cj (us++vs) g=cj vs (cj us g):=by simp[cj]
theorem Rel.aAI {a:Act}{w:World}:∀{es:List af} {aJ:Nat} {π:Pi} {g:Gt},(∀e∈es,af.size e=0)->Rel X D π g a w->X.k<=aJ->(∀b,aJ<=b->b<aJ+es.length->π b=none)->
  ∃π',Ext π π'∧(∀b,π' b≠none->π b≠none∨(aJ<=b∧b<aJ+es.length))∧(∀i,i<es.length->π' (aJ+i)=some (0,0,0,0))∧Rel X D π' (cj (ze es aJ) g) a w
 | [],aJ,π,g,_,R,_,_=>⟨π,Ext.refl _,λ_ h=>.inl h,λi hi=>by simp at hi,R⟩
 |e::es,aJ,π,g,he,R,hk,hf=>by
  have h0:=hf aJ (Nat.le_refl _) (by simp)
  have he0:=he e (by simp)
  have hx0:=xL h0 (0,0,af.size e,0)
  have R1:=(R.Jk hx0 (λb hb=>by simp only[xw];rw[if_neg (by omega)])).new (k:=e) (nM π aJ (0,0,af.size e,0)) hk (by omega) (λi _ i2=>by omega) (λj hj=>by omega)
    (λ_ _ _ _ _ _ _ _ _ i2=>by omega) (λ_ _ _ i2=>by omega)
  obtain⟨π',e1,e2,e3,R2⟩:=Rel.aAI (es:=es) (aJ:=aJ+1) (λe h=>he e (by simp[h])) R1 (by omega) (λb h1 h2=>by
   simp only[xw]
   rw[if_neg (by omega)]
   exact hf b (by omega) (by simp only[List.length_cons];omega))
  refine⟨π',hx0.trans e1,λb hb=> ?_,λi hi=> ?_,R2⟩
  ·rcases e2 b hb with h|h
   ·simp only[xw] at h
    by_cases eb:b=aJ
    ·right;simp only[List.length_cons];omega
    ·rw[if_neg eb] at h;exact .inl h
   ·right;simp only[List.length_cons];omega
  ·cases i with
   |zero=>
    have:=e1 aJ _ (nM π aJ (0,0,af.size e,0))
    rw[he0] at this
    simpa using this
   |succ i=>
    have:=e3 i (by simpa using hi)
    rwa [show aJ+1+i=aJ+(i+1) by omega] at this
theorem aAJ {v:RV}{t:TypeId}(h:∀π a w,Rel X D π g a w->∃x,v.rel π x∧(execOp a.eval o).run P w=.ok (.value (.pointer (some ⟨w.heap.size,0,none⟩))) (w.alloc (.cells x.cells t))):
  xp P o X D aJ (ze (gQ P t v.bE aJ).2 aJ++aq5 o.dst (aJ+(gQ P t v.bE aJ).2.length) (af.size (gQ P t v.bE aJ).1) (gQ P t v.bE aJ).1) g:=by
 obtain⟨n1,n2,n3⟩:=arj P t v.bE aJ
 generalize (gQ P t v.bE aJ).1=k at n1 n2 n3
 generalize (gQ P t v.bE aJ).2=es at n1 n2 n3
 intro π a w next Q R hk hf hd hD hn
 obtain⟨x,hx,h1⟩:=h π a w R
 have hcn:bY (ze es aJ++aq5 o.dst (aJ+es.length) (af.size k) k)=es.length+1:=by
  rw[aEq,apB];unfold aq5 dm bY;cases o.dst<;>rfl
 rw[hcn] at hf hn
 obtain⟨π1,e1,e2,e3,R1⟩:=R.aAI n2 hk (λb h1 h2=>hf b h1 (by omega))
 obtain⟨hl,hc⟩:=ia (n3 π1 e3 _ (RV.LV (RV.cZ e1 _ _ hx)))
 have hl':x.cells.size=af.size k:=by simpa using hl
 have h0:π1 (aJ+es.length)=none:=by
  cases hh:π1 (aJ+es.length) with
  |none=>rfl
  |some p=>
   rcases e2 (aJ+es.length) (by rw[hh];simp) with h|h
   ·exact absurd (hf _ (by omega) (by omega)) h
   ·omega
 have R2:=R1.alloc (k:=k) (cs:=x.cells) (t:=t) (e:=x.cells.size) h0 (by omega) (by omega) (Nat.le_refl _) (λj hj=>by
  obtain⟨y,hy,hr⟩:=hc j hj
  exact⟨y,by simpa using hy,hr⟩)
 refine Ny h1 (hn _ _ (xw π1 (aJ+es.length) (w.heap.size,0,af.size k,x.cells.size)) (e1.trans (xL h0 _)) (λb hb=> ?_) ?_)
 ·simp only[xw] at hb
  by_cases e:b=aJ+es.length
  ·subst e;exact .inr ⟨by omega,by omega⟩
  ·simp only[e,if_false] at hb
   rcases e2 b hb with h|h
   ·exact .inl h
   ·exact .inr ⟨h.1,by omega⟩
 ·have R3:=R2.dst hd (v:=.r (.c (.ptr (aJ+es.length) (.k 0) (af.size k)))) (x:=.pointer (some ⟨w.heap.size,0,none⟩)) ⟨_,_,_,_,nM _ _ _,rfl,by simp[bX.val]⟩
  have e:cj (ze es aJ++aq5 o.dst (aJ+es.length) (af.size k) k) g=cj (dm o.dst (.r (.c (.ptr (aJ+es.length) (.k 0) (af.size k))))) ((Up.new (aJ+es.length) k).fP (cj (ze es aJ) g)):=by
   rw[aAH];unfold aq5 dm;cases o.dst<;>rfl
  rw[e];exact R3
theorem aIe {e:TypeId}{fp:List Fp}(ho:o.op=.alloc e)(h:aH ((Ab.du (xH P e)).bind λz=>.ret (ze (gQ P e z.bE aJ).2 aJ++aq5 o.dst (aJ+(gQ P e z.bE aJ).2.length) (af.size (gQ P e z.bE aJ).1) (gQ P e z.bE aJ).1)) g us fp):xp P o X D aJ us g:=by
 obtain⟨z,⟨_,h1⟩,_,h2⟩:=aH.bind' h
 cases h2
 refine aAJ (t:=e) λπ a w R=> ?_
 obtain⟨x,hx,_,hr⟩:=aa6 h1.du w
 refine⟨x,hr π,?_⟩
 simp[execOp,ho,Instr.alloc,hx,newVar,Jl]
theorem aNH {t:TypeId}{x:Operand}{fp:List Fp}(ho:o.op=.box t x)(h:aH ((tt x).bind λv=>.ret (ze (gQ P t v.bE aJ).2 aJ++aq5 o.dst (aJ+(gQ P t v.bE aJ).2.length) (af.size (gQ P t v.bE aJ).1) (gQ P t v.bE aJ).1)) g us fp):xp P o X D aJ us g:=by
 obtain⟨z,⟨_,h1⟩,_,h2⟩:=aH.bind' h
 cases h2
 refine aAJ (t:=t) λπ a w R=>⟨_,h1.tt R,?_⟩
 simp[execOp,ho,Instr.box,newVar,Jl]
theorem aNI {π:Pi}{a:Act}{w:World}(R:Rel X D π g a w){l:List FV}{B s:Nat}(h:∀j f,l[j]? =some f->∃v,ax.fs B (s+j)=some v∧f.rel v):∃xs:List Value,xs.length=l.length∧bh (CV.rel π) (af.list (aAi l)) xs∧∀j v,xs[j]? =some v->cl w B (s+j)=some v:=by
 have cell:∀j f,l[j]? =some f->∃v,cl w B (s+j)=some v∧f.rel v:=λj f hj=>by
  obtain⟨v,h1,h2⟩:=h j f hj
  exact⟨v,(R.hp.am.st _ _ _ h1).2,h2⟩
 have vx:af.size (aAi l)=l.length:=(Tq (λv:FV=>CV.f v) l 0).1
 refine⟨(List.range l.length).map λj=>(cl w B (s+j)).getD undef,by simp,vd (by simp[vx]) λj hj=> ?_,λj v hv=> ?_⟩
 ·rw[vx] at hj
  obtain⟨v,hv,hr⟩:=cell j _ (List.getElem?_eq_getElem hj)
  refine⟨v,?_,?_⟩
  ·rw[List.getElem?_map,List.getElem?_range hj];simp[hv]
  ·rw[show aAi l=l.map λv=>Sg.c (.f v) from rfl,(Tq (λv:FV=>CV.f v) l j).2 _ (List.getElem?_eq_getElem hj)];exact hr
 ·have hjn:j<l.length:=by
   have:=(List.getElem?_eq_some_iff.1 hv).1;simpa using this
  obtain⟨u,hu,_⟩:=cell j _ (List.getElem?_eq_getElem hjn)
  simp[hjn,hu] at hv
  rw[hu,hv]
theorem aH.aAj {P:Program}{π:Pi}{a:Act}{w:World}(R:Rel X D π g a w){t:TypeId}{fl:List FV}{v:RV}{l:List Fp}(h:aH (aAj P t fl) g v l){x:Value}(hx:(CV.fp fl).rel π x):
  ∃B s y,x=.pointer (some ⟨B,s,none⟩)∧(loadVar t ⟨B,s,none⟩).run P w=.ok y w∧v.rel π y:=by
 obtain⟨B,s,rfl,hc⟩:=hx
 obtain⟨xs,hl,hx,BE⟩:=aNI R hc
 obtain⟨ag,⟨_,h1⟩,_,h⟩:=aH.bind' h
 obtain⟨n,⟨_,h2⟩,_,h⟩:=aH.bind' h
 have h1:=h1.du
 have h2:=h2.du
 cases ag with
 |true=>
  obtain⟨_,⟨_,h3⟩,_,h⟩:=aH.bind' h
  have h3:=beq_iff.1 h3.ck
  refine⟨B,s,.agg xs.toArray,rfl,?_,h.amX ⟨_,rfl,hx⟩⟩
  have:=Xp (P:=P) BE
  rw[hl,<-h3] at this
  simp[loadVar,Hy h1,run_sizeOf h2,this]
 |false=>
  cases fl with
  |nil=>cases h
  |cons f fl=>
   match xs,hl with
   |x::xs,_=>
    have hcx:=BE 0 x rfl
    simp only[Nat.add_zero] at hcx
    refine⟨B,s,x,rfl,?_,?_⟩
    ·simp only[cl] at hcx
     simp[loadVar,Hy h1,hcx]
    ·have:=(ia hx).2 0 (by rw[show aAi (f::fl)=(f::fl).map λv=>Sg.c (.f v) from rfl,(Tq (λv:FV=>CV.f v) (f::fl) 0).1];simp)
     obtain⟨y,hy,hr⟩:=this
     cases hy
     exact aH.amX (c:=.c (.f f)) h hr
theorem aLD {t:TypeId}{x:Operand}{fp:List Fp}(ho:o.op=.load t x)(h:aH ((EF x).bind λ
  |.ptr b q n=>(valueOf P t b q n).bind λv=>.ret (dm o.dst (.r v))
  |.fp l=>(aAj P t l).bind λv=>.ret (dm o.dst (.r v))
  |_=>.fail) g us fp):xp P o X D aJ us g:=by
 obtain⟨p,⟨_,h1⟩,_,h2⟩:=aH.bind' h
 split at h2
 ·obtain⟨v,⟨_,h3⟩,_,h4⟩:=aH.bind' h2
  cases h4
  refine gE λπ a w R=> ?_
  obtain⟨B,s,q,e,hb,ha,hm⟩:=h1.EF R
  obtain⟨y,hy,hr⟩:=aH.valueOf R h3 hb hm
  refine⟨y,?_,hr⟩
  simp[execOp,ho,Instr.loadAt,ha,Instr.sureAddr,hy]
 ·obtain⟨v,⟨_,h3⟩,_,h4⟩:=aH.bind' h2
  cases h4
  refine gE λπ a w R=> ?_
  obtain⟨B,s,y,ha,hy,hr⟩:=aH.aAj R h3 (h1.EF R)
  refine⟨y,?_,hr⟩
  simp[execOp,ho,Instr.loadAt,ha,Instr.sureAddr,hy]
 ·cases h2
end
end Go.Ab
