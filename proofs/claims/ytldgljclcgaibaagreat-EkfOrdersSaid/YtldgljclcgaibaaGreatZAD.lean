/-
  Parts of the proof: AbG AbH AbI AbJ AbK AbL AbN AbR AbT AbU AbV
-/
import Derived.Test.YtldgljclcgaibaaGreatZAC
import Derived.ProofKit
import Derived.OpenShut
open Nat renaming beq→ww,blt→v9
open List renaming range→rx
set_option linter.all false
namespace Go.Ab
variable [ax]
section
variable {P:Program} {g:Gt}
theorem ayA {ai3:TypeId->RV->RV->Rd Bool}{D:Nat}(aI2:∀t x y r l,aI (ai3 t x y) g r l->∀(π:Pi) a b (w:World),x.rel π a->y.rel π b->(Op.equalIn D t a b).run P w=.ok r w){xs ys:af}:∀{fs:List Field} {r:Bool} {l:List Fp},aI (aM2 P ai3 xs ys fs) g r l->
  ∀(π:Pi) (as bs:Array Value) (w:World),bl (CV.rel π) xs.list as.toList->bl (CV.rel π) ys.list bs.toList->(Op.eqFields D as bs fs).run P w=.ok r w
 | [],r,l,h,π,as,bs,w,_,_=>by cases h;simp[Op.eqFields]
 |f::fs,r,l,h,π,as,bs,w,ha,hb=>by
  simp only[aM2] at h;split at h
  .rename_i hn
   obtain⟨x,⟨_,h1⟩,_,h⟩:=aI.bind' h;obtain⟨y,⟨_,h2⟩,_,h⟩:=aI.bind' h;obtain⟨r1,⟨_,h3⟩,_,h⟩:=aI.bind' h;obtain⟨r2,⟨_,h4⟩,_,h⟩:=aI.bind' h;cases h;obtain⟨u,hu,hru⟩:=h1.Ot ha w;obtain⟨v,hv,hrv⟩:=h2.Ot hb w;have e3:=aI2 _ _ _ _ _ h3 π u v w hru hrv;have e4:=ayA aI2 h4 π as bs w ha hb;simp only[Op.eqFields,if_pos hn,Sem.run_bind,hu,hv,e3,Result.andThen_ok];cases r1<;>simp[e4]
  .rename_i hn
   have e4:=ayA aI2 h π as bs w ha hb;simp only[Op.eqFields,if_neg hn];exact e4
theorem aI3 {ai3:TypeId->RV->RV->Rd Bool}{D:Nat}{e:TypeId}{z:Nat}(aI2:∀t x y r l,aI (ai3 t x y) g r l->∀(π:Pi) a b (w:World),x.rel π a->y.rel π b->(Op.equalIn D t a b).run P w=.ok r w){xs ys:af}:∀{is:List Nat} {r:Bool} {l:List Fp},aI (aXF P ai3 e z xs ys is) g r l->
  ∀(π:Pi) (as bs:Array Value) (w:World),bl (CV.rel π) xs.list as.toList->bl (CV.rel π) ys.list bs.toList->
   (forIn is ((none,()):Option Bool×Unit) (λi (_:Option Bool×Unit)=>(do
    let a<-part e as (i*z)
    let b<-part e bs (i*z)
    let c<-Op.equalIn D e a b
    if (!c)=true then pure (ForInStep.done (some false,())) else pure (ForInStep.yield (none,())):Sem (ForInStep (Option Bool×Unit))))).run P w=.ok (if r then(none,()) else(some false,())) w
 | [],r,l,h,π,as,bs,w,_,_=>by cases h;simp
 |i::is,r,l,h,π,as,bs,w,ha,hb=>by
  obtain⟨x,⟨_,h1⟩,_,h⟩:=aI.bind' h;obtain⟨y,⟨_,h2⟩,_,h⟩:=aI.bind' h;obtain⟨r1,⟨_,h3⟩,_,h⟩:=aI.bind' h;obtain⟨r2,⟨_,h4⟩,_,h⟩:=aI.bind' h;cases h;obtain⟨u,hu,hru⟩:=h1.Ot ha w;obtain⟨v,hv,hrv⟩:=h2.Ot hb w;have e3:=aI2 _ _ _ _ _ h3 π u v w hru hrv;have e4:=aI3 aI2 h4 π as bs w ha hb;rw[List.forIn_cons];simp only[Sem.run_bind,hu,hv,e3,Result.andThen_ok];cases r1
  .simp
  .simp only[DV,wS,fY,Sem.run_pure,Result.andThen_ok,oK];exact e4
omit [ax] in
theorem aT9 (c:cQ)(j:Nat):iI [c] j=.f (c.at j):=by
 unfold iI;simp[Nat.mod_one]
theorem aNC {e:TypeId}{c c':cQ}{n:Nat}{r:Bool}(hs:aej P e [c]=true)(hc:aEz n [c] [c']=some r){D D2:Nat}(hD:D=D2+1)(w:World):∃q:Nat->Bool,r=auZ n q/\
  ∀i a b,(c.at i).rel a->(c'.at i).rel b->(Op.equalIn D e a b).run P w=.ok (q i) w:=by
 subst hD;unfold aej at hs;split at hs
 .rename_i g1 hu hcc
  cases hcc;unfold aEz at hc;split at hc
  .rename_i h1 h2;cases h1
  .rename_i g h h1 h2
   cases h1;cases h2
   cases hc;refine⟨_,rfl,λi a b ha hb=> ?_⟩;have ha:a=.bool (g1 i):=ha;have hb:b=.bool (h i):=hb;subst ha hb;exact run_equalIn_bool w D2 e _ _ hu
  .cases hc
 .rename_i k0 k1 g1 hu hcc
  cases hcc;unfold aEz at hc;split at hc
  .rename_i k g k' h h1 h2
   cases h1;cases h2
   split at hc
   .rename_i hk
    subst hk;cases hc;refine⟨_,rfl,λi a b ha hb=> ?_⟩;have ha:a=.int k1 (g1 i):=ha;have hb:b=.int k1 (h i):=hb;subst ha hb;exact run_equalIn_int w D2 e k1 k0 _ _ hu
   .cases hc
  .rename_i h1 h2;cases h1
  .cases hc
 .cases hs
omit [ax] in
theorem aND {e:TypeId}{c:cQ}(hs:aej P e [c]=true):aei P e=some false:=by
 unfold aej at hs;unfold aei;split at hs
 .rename_i hu _;rw[hu]
 .rename_i hu _;rw[hu]
 .cases hs
theorem aAo {e:TypeId}{D n:Nat}{c c':cQ}{q:Nat->Bool}{w:World}(aTh:aei P e=some false)(hq:∀i a b,(c.at i).rel a->(c'.at i).rel b->(Op.equalIn D e a b).run P w=.ok (q i) w){π:Pi}{as bs:Array Value}
  (ha:bl (CV.rel π) (af.list [.a (.l n) [c]]) as.toList)(hb:bl (CV.rel π) (af.list [.a (.l n) [c']]) bs.toList):∀{is:List Nat},(∀i∈is,i<n)->
   (forIn is ((none,()):Option Bool×Unit) (λi (_:Option Bool×Unit)=>(do
    let a<-part e as (i*1)
    let b<-part e bs (i*1)
    let c<-Op.equalIn D e a b
    if (!c)=true then pure (ForInStep.done (some false,())) else pure (ForInStep.yield (none,())):Sem (ForInStep (Option Bool×Unit))))).run P w=.ok (if is.all q then(none,()) else(some false,())) w
 | [],_=>by simp
 |i::is,hi=>by
  have cell:∀{c:cQ} {as:Array Value},bl (CV.rel π) (af.list [.a (.l n) [c]]) as.toList->∃x,(part e as (i*1)).run P w=.ok x w/\(c.at i).rel x:=λ{c as} ha=>by
   have hs:af.size [.a (.l n) [c]]=n:=by simp[af.size,Sg.size,Sz.val]
   have hin:=hi i (by simp);obtain⟨x,hx,hr⟩:=(iY ha).2 i (by rw[hs];exact hin);rw[af.dJ (by simp[Sg.size,Sz.val];exact hin),Sg.oL,aT9] at hr;refine⟨x,?_,hr⟩;have:as[i]? =some x:=by simpa using hx
   simp[part,JO aTh,this]
  obtain⟨u,hu,hru⟩:=cell ha;obtain⟨v,hv,hrv⟩:=cell hb;have e3:=hq i u v hru hrv;have e4:=aAo aTh hq ha hb (is:=is) λj hj=>hi j (by simp[hj])
  rw[List.forIn_cons];simp only[Sem.run_bind,hu,hv,e3,Result.andThen_ok];cases hqi:q i
  .simp[hqi]
  .simp only[DV,wS,fY,Sem.run_pure,Result.andThen_ok,List.all_cons,hqi,oK];exact e4
theorem aFf:∀{d:Nat} {t:TypeId} {x y:RV} {r:Bool} {l:List Fp},aI (eqT P d t x y) g r l->∀(D:Nat),d<=D->∀(π:Pi) a b (w:World),x.rel π a->y.rel π b->(Op.equalIn D t a b).run P w=.ok r w
 |0,_,_,_,_,_,h,_,_,_,_,_,_,_,_=>by cases h
 |d+1,t,x,y,r,l,h,D,hD,π,a,b,w,hx,hy=>by
  obtain⟨D',rfl⟩:∃D',D=D'+1:=⟨D-1,by omega⟩;have ih:∀t x y r l,aI (eqT P d t x y) g r l->∀(π:Pi) a b (w:World),x.rel π a->y.rel π b->(Op.equalIn D' t a b).run P w=.ok r w:=λt x y r l h π a b w hx hy=>aFf h D' (by omega) π a b w hx hy
  unfold eqT at h;split at h
  .rename_i p q hu
   cases h;have hx:a=_:=hx;have hy:b=_:=hy;subst hx hy;exact run_equalIn_bool w D' t p q hu
  .rename_i k0 k p k' q hu
   have hx:a=_:=hx;have hy:b=_:=hy;subst hx hy;split at h
   .rename_i hk
    subst hk;cases h;exact run_equalIn_int w D' t k k0 p q hu
   .cases h
  .rename_i p q hu
   cases h;have hx:a=_:=hx;have hy:b=_:=hy;subst hx hy;rw[run_equalIn_string w D' t p q hu,beq_toListBytes]
  .rename_i e hu
   cases h;have hx:a=_:=hx;have hy:b=_:=hy;subst hx hy;simp[Op.equalIn,run_underlying hu]
  .rename_i e p1 p2 p3 hu
   cases h;obtain⟨B,s,q',e',_,hx,_⟩:=hx;have hy:b=_:=hy;subst hx hy;simp[Op.equalIn,run_underlying hu]
  .rename_i e p1 p2 p3 hu
   cases h;obtain⟨B,s,q',e',_,hy,_⟩:=hy;have hx:a=_:=hx;subst hx hy;simp[Op.equalIn,run_underlying hu]
  .rename_i fs xs ys hu
   split at h
   .cases h
   .rename_i hst
    obtain⟨as,rfl,has⟩:=hx;obtain⟨bs,rfl,hbs⟩:=hy;have hf:P.fieldsOf t=fs:=by simp[Program.fieldsOf,hu]
    rw[run_equalIn_struct w D' t as bs (by rw[hf];exact hu) hst,hf];exact ayA ih h π as bs w has hbs
  .rename_i n e xs ys hu
   obtain⟨z,⟨_,h1⟩,_,h⟩:=aI.bind' h;obtain⟨as,rfl,has⟩:=hx;obtain⟨bs,rfl,hbs⟩:=hy
   have e1:List.range' 0 [:n].size=rx n:=by
    rw[List.range_eq_range'];simp[Std.Legacy.Range.size]
   split at h
   .rename_i r' alM
    cases h;unfold aXG at alM;split at alM
    .rename_i m c m' c'
     split at alM
     .rename_i hc
      simp only[cj,beq_iff,fa] at hc;obtain⟨hd1,rfl,rfl,rfl,hsc⟩:=hc
      obtain⟨c0,rfl⟩:∃c0,c=[c0]:=by
       unfold aej at hsc;split at hsc
       .exact⟨_,rfl⟩
       .exact⟨_,rfl⟩
       .cases hsc
      obtain⟨c1,rfl⟩:∃c1,c'=[c1]:=by
       unfold aEz at alM;split at alM
       .exact⟨_,rfl⟩
       .exact⟨_,rfl⟩
       .cases alM
      obtain⟨q,hq1,hq2⟩:=aNC hsc alM (show D'=D'-1+1 by omega) w;have key:=aAo (P:=P) (aND hsc) hq2 has hbs (is:=rx m') (λi hi=>List.mem_range.1 hi);simp only[Op.equalIn,Sem.run_bind,run_underlying hu,Result.andThen_ok,run_sizeOf h1.dX,Std.Legacy.Range.forIn_eq_forIn_range'];rw[e1,key,hq1];unfold auZ;cases(rx m').all q<;>simp
     .cases alM
    .cases alM
   .have key:=aI3 ih h π as bs w has hbs;simp only[Op.equalIn,Sem.run_bind,run_underlying hu,Result.andThen_ok,run_sizeOf h1.dX,Std.Legacy.Range.forIn_eq_forIn_range'];rw[e1,key];cases r<;>simp
  .cases h
theorem aX8 {t:TypeId}{x y:RV}{r:Bool}{l:List Fp}(h:aI (eqV P t x y) g r l)(π:Pi)(a b:Value)(w:World)(hx:x.rel π a)(hy:y.rel π b):
  (∀(op:BinOp) (p q:Operand),(eqGuard op t p q a b).run P w=.ok () w)/\(binOp .eql t a b).run P w=.ok (.bool r) w/\(binOp .neq t a b).run P w=.ok (.bool (!r)) w:=by
 unfold eqV at h;split at h
 .rename_i xs ys
  split at h
  .cases h
  .rename_i hg
   obtain⟨as,rfl,has⟩:=hx;obtain⟨bs,rfl,hbs⟩:=hy;have e:=aFf (x:=.agg xs) (y:=.agg ys) h 10000 (by omega) π (.agg as) (.agg bs) w ⟨as,rfl,has⟩ ⟨bs,rfl,hbs⟩;refine⟨λop p q=>run_eqGuard_agg w op t p q as bs hg,?_,?_⟩
   .rw[run_eql_struct,e];rfl
   .rw[run_neq_struct,e];rfl
 .cases h
 .cases h
 .cases h
 .cases h
 .have e:=aFf h 10000 (by omega) π a b w hx hy;have e':(Op.equal t a b).run P w=.ok r w:=e;unfold eqT at h;split at h
  .have hx:a=_:=hx;have hy:b=_:=hy;subst hx hy;have:=avh (by intros;simp) (by intros;simp) (by intros;simp) (by intros;simp) e';exact⟨λop p q=>aHl op t p q _ _ w,this⟩
  .exfalso;simp_all
  .exfalso;simp_all
  .have hx:a=_:=hx;have hy:b=_:=hy;subst hx hy;have:=avh (by intros;simp) (by intros;simp) (by intros;simp) (by intros;simp) e';exact⟨λop p q=>agH op t p q _ _ w,this⟩
  .obtain⟨B,s,q',e',_,hx,_⟩:=hx;have hy:b=_:=hy;subst hx hy;have:=avh (by intros;simp) (by intros;simp) (by intros;simp) (by intros;simp) e;exact⟨λop p q=>agH op t p q _ _ w,this⟩
  .obtain⟨B,s,q',e',_,hy,_⟩:=hy;have hx:a=_:=hx;subst hx hy;have:=avh (by intros;simp) (by intros;simp) (by intros;simp) (by intros;simp) e;exact⟨λop p q=>agH op t p q _ _ w,this⟩
  .exfalso;simp_all
  .exfalso;simp_all
  .cases h
end
end Go.Ab
namespace Go.Ab
variable [ax]
section
variable {P:Program} {E:Env} {X:Cx} {D:Nat->Prop} {g:Gt}
theorem aI4 (hE:∀f F,E f=some F->Sound P f F){o:Oper}{aJ:Nat}{us:List Up}{fp:List Fp}(h:aI (aop P E o aJ) g us fp):zP P o X D aJ us g:=by
 unfold aop at h;simp only[] at h;split at h
 .rename_i x pQ;exact aEY (.inl pQ) h
 .rename_i x pQ;exact aEY (.inr pQ) h
 .rename_i c x y pQ;exact aRq pQ h
 .rename_i e pQ;exact aNl pQ h
 .rename_i e x pQ;exact aT1 pQ h
 .rename_i t n c pQ;exact aCE pQ h
 .rename_i t ps pQ;exact aNt pQ h
 .rename_i t n ps pQ;exact ayw pQ h
 .rename_i t x pQ;exact aRr pQ h
 .rename_i t x y pQ;exact aNm pQ h
 .rename_i x pQ;exact aE2 pQ h
 .rename_i op t x y yt pQ
  obtain⟨r1,⟨_,h1⟩,_,h⟩:=aI.bind' h;obtain⟨r2,⟨_,h2⟩,_,h⟩:=aI.bind' h;obtain⟨v,⟨_,h3⟩,_,h⟩:=aI.bind' h;cases h;refine iC λπ a w R=> ?_;obtain⟨z,hz,hr⟩:=aT4 h3 (λr l hr π a b w hx hy=>aX8 hr π a b w hx hy) (h1.vM R) (h2.vM R) x y w;refine⟨z,?_,hr⟩;simp only[execOp,pQ];rw[Sem.run_bind,hz];rfl
 .rename_i op t x pQ;exact aRs pQ h
 .rename_i s d x pQ;exact aHm pQ h
 .rename_i t x pQ;exact aE3 pQ h
 .rename_i f fs aeh pQ;exact aE4 pQ h
 .rename_i t x lo hi pQ;exact aNq pQ h
 .rename_i t x i pQ;exact aCC pQ h
 .rename_i t x i pQ;exact aNn pQ h
 .rename_i t x i pQ;exact aCD pQ h
 .rename_i t x i pQ;exact aNp pQ h
 .rename_i x i pQ;exact aHn pQ h
 .rename_i c pQ
  obtain⟨args,⟨l0,h1⟩,_,h⟩:=aI.bind' h;split at h
  .rename_i b hc
   unfold biV at h;split at h
   .exact aT6 pQ hc h1 rfl h
   .rename_i s x
    obtain⟨t,⟨_,h2⟩,_,h⟩:=aI.bind' h;obtain⟨_,⟨_,h3⟩,_,h⟩:=aI.bind' h;obtain⟨s',⟨_,h4⟩,_,h⟩:=aI.bind' h;obtain⟨x',⟨_,h5⟩,_,h⟩:=aI.bind' h;have h2:=h2.dX;have h3:=h3.cH
    have hts:c.argTypes=#[t,t]:=by
     split at h3
     .rename_i t1 t2 he
      have e:=mO h3;subst e;have e2:=a3E he;rw[e2] at h2;simp at h2
      rw[e2,h2]
     .cases h3
    exact aKQ pQ hc h1 rfl hts h4.asC h5.asC h
   .rename_i d x
    obtain⟨t,⟨_,h2⟩,_,h⟩:=aI.bind' h;obtain⟨d',⟨_,h4⟩,_,h⟩:=aI.bind' h;obtain⟨x',⟨_,h5⟩,_,h⟩:=aI.bind' h;exact aRv pQ hc h1 rfl h2.dX h4.asC h5.asC h
   .exact aNv (λx y v l h=>aT7 h) pQ hc (aZW c.argTypes) h1 rfl h
   .exact aNv (λx y v l h=>aT8 h) pQ hc (aZX c.argTypes) h1 rfl h
   .cases h
  .rename_i fo hc
   obtain⟨fv,⟨_,h2⟩,_,h⟩:=aI.bind' h;obtain⟨fc,⟨_,h3⟩,_,h⟩:=aI.bind' h
   have aX6:∀(π:Pi) (x:Value),fv.rel π x->∃arr:Array Value,x=.func (.func fc.1) #[] arr/\bl (RV.rel π) fc.2 arr.toList:=by
    unfold a0T at h3;split at h3
    .cases h3;exact λπ x hx=>hx
    .cases h3;rintro π x ⟨B,s,q,e,hb,hx,hle⟩
     exact⟨_,hx,⟨⟨B,s,q,e,hb,rfl,hle⟩,trivial⟩⟩
    .cases h3
   exact aRx hE pQ hc h1 h2 aX6 h
  .cases h
 .cases h
end
end Go.Ab
namespace Go.Ab
variable [ax]
inductive ab7 (P:Program) (E:Env) (ops:List Oper) (o:Oper) (aJ:Nat) (g:Gt):List Up->List Fp->Prop
 |run {us fp} (hg:o.guard=none) (h:aI (aop P E o aJ) g us fp):ab7 P E ops o aJ g us fp
 |aTi {us fp} (j:Nat) (want:Bool) (t:Tmp) (hg:o.guard=some (j,want)) (ht:Ou ops j=some t) (hx:g.t t=.r (.c (.f (.b want)))) (h:aI (aop P E o aJ) g us fp):ab7 P E ops o aJ g us (.t t::fp)
 |skip (j:Nat) (want:Bool) (t:Tmp) (hg:o.guard=some (j,want)) (ht:Ou ops j=some t) (hx:g.t t=.r (.c (.f (.b (!want))))∨g.t t=.tup []):ab7 P E ops o aJ g (dO o.dst udf) [.t t]
omit [ax] in
theorem ab7.local {P:Program}{E:Env}{ops:List Oper}{o:Oper}{aJ:Nat}{g g':Gt}{us:List Up}{fp:List Fp}(h:ab7 P E ops o aJ g us fp)(e:∀f∈fp,∀p,f.has p->g.at p=g'.at p):ab7 P E ops o aJ g' us fp:=by
 cases h with
 |run hg h=>exact .run hg (h.local e)
 |aTi j want t hg ht hx h=>
  have e1:g.t t=g'.t t:=by simpa[Gt.at] using e (.t t) (by simp) (.t t) rfl
  exact .aTi j want t hg ht (e1▸hx) (h.local λf hf=>e f (by simp[hf]))
 |skip j want t hg ht hx=>
  have e1:g.t t=g'.t t:=by simpa[Gt.at] using e (.t t) (by simp) (.t t) rfl
  exact .skip j want t hg ht (e1▸hx)
inductive En (P:Program) (E:Env) (ops:List Oper) (k:Nat):List Oper->St->List Tr->St->Prop
 |nil (s:St):En P E ops k [] s [] s
 |cons {o rest s s1 s2 us fp tr dK} (hd:∀d,o.dst=some d->d<s.tmps.length) (h:ab7 P E ops o s.heap.length s.gt us fp) (hus:tr.us=us) (hfp:∀f∈fp,f∈tr.fp) (ha:jA k us s=some s1) (ht:En P E ops k rest s1 dK s2):En P E ops k (o::rest) s (tr::dK) s2
omit [ax] in
theorem apr {s:St}{t:Nat}{v:AV}(h:s.tmp t=v):{s with tmps:=s.tmps.set t v}=s:=by
 have:s.tmps.set t v=s.tmps:=by
  apply List.ext_getElem?
  intro i;rw[aEw];by_cases e:t=i
  .subst e;by_cases hl:t<s.tmps.length
   .rw[if_pos rfl,if_pos hl];rw[j7 hl];unfold St.tmp at h;rw[Aj] at h;simp only[List.getD,j7 hl,Lq] at h;rw[h]
   .rw[if_pos rfl,if_neg hl,DS (by omega)]
  .rw[if_neg e]
 rw[this]
omit [ax] in
theorem alO {k:Nat}:∀{us:List Up} {s s':St},jA k us s=some s'->s'.tmps.length=s.tmps.length
 | [],s,s',h=>by simp[jA] at h;subst h;rfl
 |u::us,s,s',h=>by
  simp only[jA] at h;split at h
  .rw[alO h];cases u with
   |t i v=>simp[Up.app]
   |c b o v=>simp only[Up.app];split<;>first|rfl|(split<;>rfl)
   |_=>rfl
  .cases h
omit [ax] in
theorem LH {P:Program}{E:Env}{nt k:Nat}{ops:List Oper}{ρ:Type}:∀{rest:List Oper} {s:St} {l:List Tr} {c:St->List Tr->Option ρ} {r:ρ},nt<=s.tmps.length->Lw P E nt k ops rest s l c=some r->
  ∃s' dK,En P E ops k rest s dK s'/\c s' (l++dK)=some r
 | [],s,l,c,r,_,h=>⟨s,[],.nil s,by simpa[Lw] using h⟩
 |o::rest,s,l,c,r,ZV,h=>by
  have go:∀(l0:List Fp) (hd:∀d,o.dst=some d->d<s.tmps.length),(∀us fp,aI (aop P E o s.heap.length) s.gt us fp->∃fp',ab7 P E ops o s.heap.length s.gt us fp'/\∀f∈fp',f∈fp.reverse++l0)->
    ((aop P E o s.heap.length).run s l0 λus fp=>match jA k us s with
     |some s'=>Lw P E nt k ops rest s' (l++[⟨fp,us⟩]) c
     |none=>none)=some r->∃s' dK,En P E ops k (o::rest) s dK s'/\c s' (l++dK)=some r:=by
   intro l0 hd pQ nq;obtain⟨us,fp,h1,h2⟩:=Rd.aRo nq;cases ha:jA k us s with
   |none=>rw[ha] at h2;cases h2
   |some s1=>
    rw[ha] at h2;obtain⟨s2,dK,t1,t2⟩:=LH (by rw[alO ha];exact ZV) h2;obtain⟨fp',o1,o2⟩:=pQ us fp h1;exact⟨s2,⟨fp.reverse++l0,us⟩::dK,.cons hd o1 rfl o2 ha t1,by simpa using t2⟩
  have skip:∀(j:Nat) (want:Bool) (t:Tmp) (hd:∀d,o.dst=some d->d<s.tmps.length),o.guard=some (j,want)->Ou ops j=some t->(s.gt.t t=.r (.c (.f (.b (!want))))∨s.gt.t t=.tup [])->
    (match jA k (dO o.dst udf) s with
     |some s'=>Lw P E nt k ops rest s' (l++[⟨[.t t],dO o.dst udf⟩]) c
     |none=>none)=some r->∃s' dK,En P E ops k (o::rest) s dK s'/\c s' (l++dK)=some r:=by
   intro j want t hd hg ht hx nq;cases ha:jA k (dO o.dst udf) s with
   |none=>rw[ha] at nq;cases nq
   |some s1=>
    rw[ha] at nq;obtain⟨s2,dK,t1,t2⟩:=LH (by rw[alO ha];exact ZV) nq;exact⟨s2,⟨[.t t],dO o.dst udf⟩::dK,.cons hd (.skip j want t hg ht hx) rfl (by simp) ha t1,by simpa using t2⟩
  simp only[Lw,aNg,aEV,Wp] at h;split at h
  .cases h
  .rename_i hdk
   have hd:∀d,o.dst=some d->d<s.tmps.length:=λd hd=>by
    unfold aXM at hdk;rw[hd] at hdk;have h2:v9 d nt=true:=hdk;exact aEv (rZ.1 h2) ZV
   split at h
   .rename_i hg
    exact go [] hd (λus fp h=>⟨fp,.run hg h,by simp⟩) h
   .rename_i j want hg
    split at h
    .cases h
    .rename_i t ht
     split at h
     .rename_i x hx
      have goG:s.tmp t=.r (.c (.f (.b want)))->_:=λhx=>go [.t t] hd (λus fp h=>⟨.t t::fp,.aTi j want t hg ht hx h,by simp;intro a ha;exact .inl ha⟩)
      cases x with
      |true=>
       simp only[alJ] at h;split at h
       .cases want with
        |true=>
         simp only at h;rw[apr hx] at h;exact goG hx h
        |false=>
         simp only at h;rw[apr hx] at h;exact skip j false t hd hg ht (.inl hx) h
       .cases h
      |false=>
       simp only[alJ] at h;split at h
       .cases want with
        |true=>
         simp only at h;rw[apr hx] at h;exact skip j true t hd hg ht (.inl hx) h
        |false=>
         simp only at h;rw[apr hx] at h;exact goG hx h
       .cases h
     .rename_i hx
      exact skip j want t hd hg ht (.inr hx) h
     .cases h
omit [ax] in
theorem Am {k b:Nat}{d:List Nat}{x:Nat}:x∈mark k b d↔x∈d∨(x=b/\b<k):=by
 unfold mark;split
 .rename_i h
  simp only[cj,Nat.blt_eq] at h;simp only[SN];constructor
  .rintro (rfl|h1)
   .exact .inr ⟨rfl,h.1⟩
   .exact .inl h1
  .rintro (h1| ⟨rfl,_⟩)
   .exact .inr h1
   .exact .inl rfl
 .rename_i h
  constructor
  .exact .inl
  .rintro (h1| ⟨rfl,hk⟩)
   .exact h1
   .have Li:v9 x k=true:=by simpa using hk
    have:d.any (ww x)=true:=by
     by_cases ha:d.any (ww x)=true
     .exact ha
     .rw[Li] at h;simp_all
    obtain⟨y,hy,he⟩:=abZ.1 this;rw[mO he];exact hy
structure aKT (k:Nat)(us:List Up)(s s':St):Prop where
 heap:s'.heap.length=s.heap.length+cB us
 tmps:s'.tmps.length=s.tmps.length
 sub:∀b,b∈s.dk->b∈s'.dk
 perm:∀u∈us,u.perm k (·∈s'.dk)
 mb:∀b,b<k->b<s.heap.length->b∉s'.dk->s'.bR b=s.bR b
omit [ax] in
theorem Up.aZ0 {k:Nat}{u:Up}{s:St}(h:u.ok s=true):aKT k [u] s (u.app k s):=by
 cases u with
 |t i v=>exact⟨rfl,by simp[Up.app],λ_ h=>h,λu hu=>by simp at hu;subst hu;trivial,λ_ _ _ _=>rfl⟩
 |c b lo vs=>
  simp only[Up.ok] at h;split at h
  .rename_i bR hb
   split at h
   case h_2=>cases h
   rename_i p hp
   have e:(Up.c b lo vs).app k s={s with heap:=s.heap.set b (some p.2),dk:=mark k b s.dk}:=by simp[Up.app,hb,hp]
   rw[e];refine⟨by simp[cB],rfl,λx hx=>Am.2 (.inl hx),λu hu=> ?_,λb' eV hl hn=> ?_⟩
   .simp at hu;subst hu;exact λhk=>Am.2 (.inr ⟨rfl,hk⟩)
   .have mc:b'≠b:=λe=>hn (Am.2 (.inr ⟨e,e▸eV⟩))
    show((s.heap.set b _)[b']?).getD none=_;rw[avf (St.aKM hb),if_neg mc];rfl
  .cases h
 |new b bR=>
  have hb:b=s.heap.length:=mO h;refine⟨by simp[Up.app,cB],rfl,λ_ h=>h,λu hu=>by simp at hu;subst hu;trivial,λb' _ hl _=> ?_⟩;show((s.heap++[some bR])[b']?).getD none=_;rw[aNc,if_neg (by omega)];rfl
 |kill b=>
  have hb:b<s.heap.length:=by have h:=h;simp[Up.ok,v9] at h;omega
  refine⟨by simp[Up.app,cB],rfl,λx hx=>Am.2 (.inl hx),λu hu=> ?_,λb' eV hl hn=> ?_⟩
  .simp at hu;subst hu;exact λhk=>Am.2 (.inr ⟨rfl,hk⟩)
  .have mc:b'≠b:=λe=>hn (Am.2 (.inr ⟨e,e▸eV⟩))
   show((s.heap.set b none)[b']?).getD none=_;rw[avf hb,if_neg mc];rfl
omit [ax] in
theorem Up.aRz {k:Nat}{D D':Nat->Prop}(h:∀b,D b->D' b){u:Up}(p:u.perm k D):u.perm k D':=by
 cases u<;>first|trivial|exact λhk=>h _ (p hk)
omit [ax] in
theorem JP {k:Nat}:∀{us:List Up} {s s':St},jA k us s=some s'->aKT k us s s'
 | [],s,s',h=>by
  simp[jA] at h;subst h
  exact⟨rfl,rfl,λ_ h=>h,λu hu=>by simp at hu,λ_ _ _ _=>rfl⟩
 |u::us,s,s',h=>by
  simp only[jA] at h;split at h
  .rename_i hu
   have A:=Up.aZ0 (k:=k) hu;have B:=JP h;refine⟨?_,B.tmps.trans A.tmps,λb hb=>B.sub _ (A.sub b hb),λv hv=> ?_,λb hb hl hn=> ?_⟩
   .rw[B.heap,A.heap,show cB (u::us)=cB [u]+cB us from E1 [u] us];omega
   .rcases SN.1 hv with rfl|hv
    .exact Up.aRz B.sub (A.perm v (by simp))
    .exact B.perm v hv
   .have h1:=A.heap;rw[B.mb b hb (by omega) hn,A.mb b hb hl (λhx=>hn (B.sub b hx))]
  .cases h
end Go.Ab
namespace Go.Ab
variable [ax]
section
variable {P:Program} {E:Env} {X:Cx} {D:Nat->Prop}
theorem aFg {ops:Array Oper}{o:Oper}{j:Nat}{want:Bool}{t:Tmp}{g:Gt}{π:Pi}{a:Act}{w:World}(R:Rel X D π g a w)(hg:o.guard=some (j,want))(ht:Ou ops.toList j=some t):
  (g.t t=.r (.c (.f (.b want)))->Region.wanted o (yielded ops a.tmps)=true)/\((g.t t=.r (.c (.f (.b (!want))))∨g.t t=.tup [])->Region.wanted o (yielded ops a.tmps)=false):=by
 have hs:(ops[j]?).bind (·.dst)=some t:=by
  unfold Ou at ht;rw[<-Wc];exact ht
 have hr:=R.tm t
 have hy:∀b:Bool,a.tmps.getD t undef=.bool b->yielded ops a.tmps j=some b:=λb hb=>by
  unfold yielded;rw[hs];simp only[bM];rw[aqz] at hb;cases hx:a.tmps[t]? with
  |none=>rw[hx] at hb;simp[undef] at hb
  |some x=>rw[hx] at hb;simp at hb;subst hb;rfl
 refine⟨λh=> ?_,λh=> ?_⟩
 .rw[h] at hr;have:=hy want hr;simp[Region.wanted,hg,this]
 .rcases h with h|h
  .rw[h] at hr;have:=hy (!want) hr;simp only[Region.wanted,hg,this];cases want<;>rfl
  .rw[h] at hr;obtain⟨arr,hx,aNE⟩:=hr
   have:yielded ops a.tmps j=none:=by
    unfold yielded;rw[hs];simp only[bM];rw[aqz] at hx;cases hy:a.tmps[t]? with
    |none=>rfl
    |some x=>rw[hy] at hx;simp at hx;subst hx;rfl
   simp only[Region.wanted,hg,this];rfl
theorem aAp (hE:∀f F,E f=some F->Sound P f F){ops:Array Oper}{i:Nat}{o:Oper}(hi:ops[i]? =some o){aJ:Nat}{us:List Up}{fp:List Fp}{g:Gt}(h:ab7 P E ops.toList o aJ g us fp)
  {π:Pi}{a:Act}{w:World}(R:Rel X D π g a w)(hk:X.k<=aJ)(hfr:∀b,aJ<=b->b<aJ+cB us->π b=none)(hd:∀d,o.dst=some d->d<X.N)(hp:∀u∈us,u.perm X.k D){K:Act->World->Prop}{Q:Exit->Act->World->Prop}
  (hn:∀a' w' π',Ext π π'->(∀b,π' b≠none->π b≠none∨(aJ<=b/\b<aJ+cB us))->Rel X D π' (cE us g) a' w'->K a' w'):wpOp P ops Q i K a w:=by
 unfold wpOp;rw[hi];simp only[];cases h with
 |run hg h=>
  have:Region.wanted o (yielded ops a.tmps)=true:=by simp[Region.wanted,hg]
  rw[if_pos this];exact .inl (aI4 hE h π a w K Q R hk hfr hd hp hn)
 |aTi j want t hg ht hx h=>
  rw[if_pos ((aFg R hg ht).1 hx)];exact .inl (aI4 hE h π a w K Q R hk hfr hd hp hn)
 |skip j want t hg ht hx=>
  rw[if_neg (by rw[(aFg R hg ht).2 hx];simp)];exact hn _ _ π (Ext.refl _) (λb h=>.inl h) (R.dst hd (atn π))
structure iu (X:Cx)(h0:List af)(π:Pi)(s:St)(a:Act)(w:World):Prop where
 rel:Rel X (·∈s.dk) π s.gt a w
 len:s.tmps.length=X.N
 dom:∀b,π b≠none->b<s.heap.length
 drt:∀b,b<X.k->b∉s.dk->s.bR b=h0[b]?
 hk:X.k<=s.heap.length
 dlt:∀b,b∈s.dk->b<X.k
theorem aKT.aX9 {X:Cx}{h0:List af}{π π':Pi}{s s':St}{us:List Up}{a a':Act}{w w':World}(A:aKT X.k us s s')(R:iu X h0 π s a w)(hg:s'.gt=cE us s.gt)(hR:Rel X (·∈s'.dk) π' (cE us s.gt) a' w')
  (jK:∀b,π' b≠none->π b≠none∨(s.heap.length<=b/\b<s.heap.length+cB us))(hdl:∀b,b∈s'.dk->b<X.k):iu X h0 π' s' a' w':=by
 refine⟨hg▸hR,A.tmps.trans R.len,λb hb=> ?_,λb hb hn=> ?_,?_,hdl⟩
 .rw[A.heap];rcases jK b hb with h|h
  .have:=R.dom b h;omega
  .omega
 .rw[A.mb b hb (aEv hb R.hk) hn];exact R.drt b hb (λh=>hn (A.sub b h))
 .rw[A.heap];have:=R.hk;omega
omit [ax] in
theorem alP {k:Nat}:∀{us:List Up} {s s':St},jA k us s=some s'->(∀b,b∈s.dk->b<k)->∀b,b∈s'.dk->b<k
 | [],s,s',h,hd,b,hb=>by simp[jA] at h;subst h;exact hd b hb
 |u::us,s,s',h,hd,b,hb=>by
  simp only[jA] at h;split at h
  .refine alP h (λb hb=> ?_) b hb;cases u with
   |t i v=>exact hd b hb
   |c b' lo vs=>
    simp only[Up.app] at hb;split at hb
    .split at hb
     .rcases Am.1 hb with h| ⟨rfl,h⟩
      .exact hd b h
      .exact h
     .exact hd b hb
    .exact hd b hb
   |new b' bR=>exact hd b hb
   |kill b'=>
    rcases Am.1 hb with h| ⟨rfl,h⟩
    .exact hd b h
    .exact h
  .cases h
theorem aAq (hE:∀f F,E f=some F->Sound P f F){h0:List af}{ops:Array Oper}{Q:Exit->Act->World->Prop}{s':St}(hQ:∀a' w' π',iu X h0 π' s' a' w'->Q .normal a' w'):
  ∀{rest:List Oper} {i:Nat} {s:St} {dK:List Tr} {π:Pi} {a:Act} {w:World},En P E ops.toList X.k rest s dK s'->(∀j,rest[j]? =ops[i+j]?)->iu X h0 π s a w->wpOps P ops Q (List.range' i rest.length) a w
 | [],i,s,dK,π,a,w,h,_,R=>by
  cases h;exact hQ a w π R
 |o::rest,i,s,dK,π,a,w,h,hr,R=>by
  cases h with|@cons _ _ _ s1 _ us fp tr dK hd h hus hfp ha ht=>
  have A:=JP ha;have hg:=Oy ha;have hio:ops[i]? =some o:=by simpa using(hr 0).symm
  rw[Ls,List.range'_succ,wpOps_cons];refine aAp hE hio h (R.rel.aKO λb hb=>A.sub b hb) R.hk (λb h1 _=> ?_) (λd h=>by rw[<-R.len];exact hd d h) A.perm (λa' w' π' hx jK hR=> ?_)
  .cases hb:π b with
   |none=>rfl
   |some p=>have:=R.dom b (by simp[hb]);omega
  .exact aAq hE hQ ht (λj=>by have:=hr (j+1);rw[show i+1+j=i+(j+1) by omega,<-this];simp) (A.aX9 R hg hR jK (alP ha R.dlt))
end
end Go.Ab
namespace Go.Ab
variable [ax]
def tch (us:List Up)(p:Pt):Prop:=∃u∈us,u.Hv p
def gl:List Tr->(Nat->Bool)->Nat->Gt->Gt
 | [],_,_,g=>g
 |tr::dK,L,i,g=>gl dK L (i+1) (if L i=true then cE tr.us g else g)
omit [ax] in
theorem aKU {p:Pt}:∀{dK:List Tr} {L L':Nat->Bool} {i:Nat} {g g':Gt},(∀(j:Nat) tr,dK[j]? =some tr->L (i+j)≠L' (i+j)->¬tch tr.us p)->g.at p=g'.at p->(gl dK L i g).at p=(gl dK L' i g').at p
 | [],_,_,_,_,_,_,h=>h
 |tr::dK,L,L',i,g,g',hd,h=>by
  simp only[gl];refine aKU (λj OA hj mc=>hd (j+1) OA (by simpa using hj) (by rw[show i+(j+1)=i+1+j by omega];exact mc)) ?_;have h0:=hd 0 tr rfl;rw[jM] at h0;by_cases h1:L i=true<;>by_cases h2:L' i=true
  .rw[if_pos h1,if_pos h2];exact agE (.inr h)
  .rw[if_pos h1,if_neg h2];have:=h0 (by rw[h1];exact λe=>h2 e.symm);rw[qv λu hu ht=>this ⟨u,hu,ht⟩];exact h
  .rw[if_neg h1,if_pos h2];have:=h0 (by rw[h2];exact h1);rw[qv λu hu ht=>this ⟨u,hu,ht⟩];exact h
  .rw[if_neg h1,if_neg h2];exact h
omit [ax] in
theorem aFh:∀(a b:List Tr) (L:Nat->Bool) (i:Nat) (g:Gt),gl (a++b) L i g=gl b L (i+a.length) (gl a L i g)
 | [],b,L,i,g=>by simp[gl]
 |x::a,b,L,i,g=>by
  simp only[List.cons_append,gl,Ls];rw[aFh a b,show i+1+a.length=i+(a.length+1) by omega]
omit [ax] in
theorem aps:∀{dK:List Tr} {L L':Nat->Bool} {i:Nat} {g:Gt},(∀j,j<dK.length->L (i+j)=L' (i+j))->gl dK L i g=gl dK L' i g
 | [],_,_,_,_,_=>rfl
 |tr::dK,L,L',i,g,h=>by
  simp only[gl];have:=h 0 (by simp);rw[jM] at this;rw[this];exact aps λj hj=>by have:=h (j+1) (by simp;omega);rwa [show i+(j+1)=i+1+j by omega] at this
omit [ax] in
theorem avk:∀{dK:List Tr} {L:Nat->Bool} {i:Nat} {g:Gt},(∀j,j<dK.length->L (i+j)=false)->gl dK L i g=g
 | [],_,_,_,_=>rfl
 |tr::dK,L,i,g,h=>by
  simp only[gl];have:=h 0 (by simp);rw[jM] at this;rw[this];exact avk λj hj=>by have:=h (j+1) (by simp;omega);rwa [show i+(j+1)=i+1+j by omega] at this
omit [ax] in
theorem aYa {dK:List Tr}{L L':Nat->Bool}{i:Nat}{tr:Tr}{g:Gt}(hi:dK[i]? =some tr)(h0:L i=false)(h1:L' i=true)(hL:∀j,j≠i->L' j=L j)
  (hap:∀(j:Nat) OA,i<j->dK[j]? =some OA->L j=true->∀p,tch tr.us p->¬tch OA.us p):gl dK L' 0 g=cE tr.us (gl dK L 0 g):=by
 have mH:=(ld.1 hi).1
 have aZ1:dK=dK.take i++(tr::dK.drop (i+1)):=by
  have e:dK[i]=tr:=(ld.1 hi).2;rw[<-e,List.getElem_cons_drop,List.take_append_drop]
 have hlen:(dK.take i).length=i:=by simp;omega
 have key:∀M:Nat->Bool,gl dK M 0 g=gl (dK.drop (i+1)) M (i+1) (if M i=true then cE tr.us (gl (dK.take i) M 0 g) else gl (dK.take i) M 0 g):=λM=>by
  conv=>lhs;rw[aZ1]
  rw[aFh,hlen,eX];rfl
 rw[key L',key L,if_pos h1,if_neg (by rw[h0];simp)];have e1:gl (dK.take i) L' 0 g=gl (dK.take i) L 0 g:=aps λj hj=>by rw[hlen] at hj;exact hL _ (by omega)
 rw[e1];have e2:∀h,gl (dK.drop (i+1)) L' (i+1) h=gl (dK.drop (i+1)) L (i+1) h:=λh=>aps λj _=>hL _ (by omega)
 rw[e2];apply Gt.aS9
 intro p
 have a1W:∀(j:Nat) OA,(dK.drop (i+1))[j]? =some OA->L (i+1+j)=true->∀p,tch tr.us p->¬tch OA.us p:=λj OA hj hl p hp=>by
  rw[Lp] at hj;exact hap (i+1+j) OA (by omega) hj hl p hp
 by_cases hp:tch tr.us p
 .have a1:=aKU (p:=p) (dK:=dK.drop (i+1)) (L:=L) (L':=λ_=>false) (i:=i+1) (g:=cE tr.us (gl (dK.take i) L 0 g)) (g':=cE tr.us (gl (dK.take i) L 0 g)) (λj OA hj mc=>a1W j OA hj (by simpa using mc) p hp) rfl;rw[avk (L:=λ_=>false) (λ_ _=>rfl)] at a1;rw[a1];exact agE (.inl hp)
 .have ZV:∀u∈tr.us,¬u.Hv p:=λu hu ht=>hp ⟨u,hu,ht⟩
  rw[qv ZV];exact aKU (λj OA _ mc=>absurd rfl mc) (qv ZV)
omit [ax] in
theorem aFi (acc:List Nat)(i:Nat):∀(l:List Edge) (m:Nat),Nat.testBit (l.foldl (aRi acc) m) i=true->
  Nat.testBit m i=true∨∃e∈l,Region.binds .any e=true/\(e.on=i∨Nat.testBit (acc.getD e.on 0) i=true)
 | [],m,h=>.inl h
 |e::l,m,h=>by
  rw[List.foldl_cons] at h;rcases aFi acc i l _ h with h1| ⟨e',he',h1⟩
  .unfold aRi at h1;cases hb:Region.binds .any e with
   |false=>rw[hb] at h1;exact .inl h1
   |true=>
    rw[hb] at h1;simp only[Nat.testBit_or,agn,Nat.testBit_two_pow,ke] at h1;rcases h1 with(h1|h1)|h1
    .exact .inl h1
    .exact .inr ⟨e,by simp,hb,.inl h1⟩
    .exact .inr ⟨e,by simp,hb,.inr h1⟩
  .exact .inr ⟨e',by simp[he'],h1⟩
omit [ax] in
theorem aFj:∀(l:List Oper) (acc:List Nat),∃t,Lv l acc=acc++t
 | [],acc=>⟨[],by simp[Lv]⟩
 |o::l,acc=>by
  obtain⟨t,ht⟩:=aFj l (acc++[mask acc o]);exact⟨_,by rw[Lv,ht,atb]⟩
omit [ax] in
theorem aFk {i:Nat}:∀(l:List Oper) (acc:List Nat) (j:Nat) (o:Oper),l[j]? =some o->(∀e∈o.after.toList,Region.binds .any e=true->e.on<acc.length+j)->Nat.testBit ((Lv l acc).getD (acc.length+j) 0) i=true->
  ∃e∈o.after.toList,Region.binds .any e=true/\(e.on=i∨(e.on<acc.length+j/\Nat.testBit ((Lv l acc).getD e.on 0) i=true))
 | [],_,j,o,h,_,_=>by simp at h
 |o0::l,acc,0,o,h,he,hb=>by
  simp at h;subst h
  obtain⟨t,ht⟩:=aFj l (acc++[mask acc o0]);have hm:Lv (o0::l) acc=acc++[mask acc o0]++t:=by rw[Lv,ht]
  rw[hm] at hb ⊢;simp only[jM,atb,List.getD,aeg (cW _),Nat.sub_self] at hb;simp only[List.singleton_append,aEs,Lq] at hb;rcases aFi acc i _ 0 hb with h0| ⟨e,he',hbd,h1⟩
  .simp at h0
  .have mH:=he e he' hbd;rw[jM] at mH;refine⟨e,he',hbd,h1.imp id λh2=>⟨by omega,?_⟩⟩;rw[atb];simp only[List.getD] at h2 ⊢;rw[UC mH];exact h2
 |o0::l,acc,j+1,o,h,he,hb=>by
  have e1:acc.length+(j+1)=(acc++[mask acc o0]).length+j:=by simp;omega
  rw[Lv] at hb ⊢;rw[e1] at hb he ⊢;exact aFk l _ j o (by simpa using h) he hb
omit [ax] in
theorem ab8:∀{l:List Oper} {i0:Nat},Q' l i0=true->∀(j:Nat) o,l[j]? =some o->∀e∈o.after.toList,Region.binds .any e=true->e.on<i0+j
 | [],_,_,j,o,h,_,_,_=>by simp at h
 |o0::l,i0,hk,0,o,h,e,he,hb=>by
  simp at h;subst h
  simp only[Q',cj] at hk;have:=ayi.1 hk.1 e he;rw[hb] at this;simp only[DV,Bool.false_or,Nat.blt_eq] at this;omega
 |o0::l,i0,hk,j+1,o,h,e,he,hb=>by
  simp only[Q',cj] at hk;have:=ab8 hk.2 j o (by simpa using h) e he hb;omega
omit [ax] in
theorem ab9 {ms:List Nat}:∀{l:List Tr} {j0:Nat},Q9 ms l j0=true->∀(i j:Nat) x y,i<j->l[i]? =some x->l[j]? =some y->Nat.testBit (ms.getD (j0+j) 0) (j0+i)=true∨x.agw y=false
 | [],_,_,i,j,x,y,_,h,_=>by simp at h
 |x0::l,j0,hk,0,j,x,y,hij,hx,hy=>by
  simp at hx;subst hx
  simp only[Q9,cj] at hk;obtain⟨j',rfl⟩:∃j',j=j'+1:=⟨j-1,by omega⟩;have hy':l[j']? =some y:=by simpa using hy
  have hm:(y,j')∈l.zipIdx:=by
   rw[ayf];exact⟨j',by simp[aEu,hy']⟩
  have:=ayi.1 hk.1 (y,j') hm;simp only[agn,oJ] at this;rw[show j0+(j'+1)=j0+1+j' by omega];exact this
 |x0::l,j0,hk,i+1,j,x,y,hij,hx,hy=>by
  simp only[Q9,cj] at hk;obtain⟨j',rfl⟩:∃j',j=j'+1:=⟨j-1,by omega⟩;have:=ab9 hk.2 i j' x y (by omega) (by simpa using hx) (by simpa using hy);rw[show j0+(j'+1)=j0+1+j' by omega,show j0+(i+1)=j0+1+i by omega];exact this
omit [ax] in
theorem aUa {x y:Tr}{p:Pt}{f:Fp}(hf:f∈y.fp)(hp:f.has p)(ht:tch x.us p):x.agw y=true/\y.agw x=true:=by
 obtain⟨u,hu,ht⟩:=ht;have h:=Fp.aEO hp ht;constructor
 .unfold Tr.agw;rw[agn];left;refine abZ.2 ⟨u,hu,?_⟩;rw[agn];left;exact abZ.2 ⟨f,hf,h⟩
 .unfold Tr.agw;rw[agn];right;refine abZ.2 ⟨u,hu,?_⟩;exact abZ.2 ⟨f,hf,h⟩
omit [ax] in
theorem aUb {x y:Tr}{p:Pt}(h1:tch x.us p)(h2:tch y.us p):x.agw y=true:=by
 obtain⟨u,hu,ht⟩:=h1;obtain⟨v,hv,hs⟩:=h2;unfold Tr.agw;rw[agn];left;refine abZ.2 ⟨u,hu,?_⟩;rw[agn];right;exact abZ.2 ⟨v,hv,Up.aEO hs ht⟩
def zQ (dK:List Tr):List Up:=dK.flatMap Tr.us
omit [ax] in
theorem aRA:∀(dK:List Tr) (i j0:Nat) (g:Gt),gl dK (λj=>decide (j<j0+i)) j0 g=cE (zQ (dK.take i)) g
 | [],i,j0,g=>by simp[gl,zQ,cE]
 |tr::dK,0,j0,g=>by
  rw[avk (λj _=>by simp)];simp[zQ,cE]
 |tr::dK,i+1,j0,g=>by
  simp only[gl];rw[if_pos (by simp)];have:=aRA dK i (j0+1) (cE tr.us g);rw[show j0+1+i=j0+(i+1) by omega] at this;rw[this];simp[zQ,cE]
omit [ax] in
theorem aZ2 {dK:List Tr}{L:Nat->Bool}{g:Gt}(h:∀i,i<dK.length->L i=true):gl dK L 0 g=cE (zQ dK) g:=by
 have:=aRA dK dK.length 0 g;rw[List.take_length] at this;rw[<-this];exact aps λj hj=>by simp[h j hj];omega
omit [ax] in
theorem alQ {k:Nat}:∀{us vs:List Up} {s s1 s2:St},jA k us s=some s1->jA k vs s1=some s2->jA k (us++vs) s=some s2
 | [],vs,s,s1,s2,h,h'=>by simp[jA] at h;subst h;exact h'
 |u::us,vs,s,s1,s2,h,h'=>by
  simp only[jA,List.cons_append] at h ⊢;split at h
  .rename_i hu;exact alQ h h'
  .cases h
omit [ax] in
theorem En.app {P:Program}{E:Env}{ops:List Oper}{k:Nat}:∀{rest:List Oper} {s s':St} {dK:List Tr},En P E ops k rest s dK s'->jA k (zQ dK) s=some s'/\dK.length=rest.length
 | [],s,s',dK,h=>by cases h;exact⟨rfl,rfl⟩
 |o::rest,s,s',dK,h=>by
  cases h with|@cons _ _ _ s1 _ us fp tr dK hd h hus hfp ha ht=>
  obtain⟨h1,h2⟩:=ht.app;refine⟨?_,by simp[h2]⟩;subst hus;show jA k (tr.us++zQ dK) s=some s';exact alQ ha h1
omit [ax] in
theorem En.at {P:Program}{E:Env}{ops:List Oper}{k:Nat}:∀{rest:List Oper} {s s':St} {dK:List Tr},En P E ops k rest s dK s'->∀(i:Nat) o,rest[i]? =some o->∃tr fp,dK[i]? =some tr/\(∀f∈fp,f∈tr.fp)/\
   ab7 P E ops o (s.heap.length+cB (zQ (dK.take i))) (cE (zQ (dK.take i)) s.gt) tr.us fp/\(∀d,o.dst=some d->d<s.tmps.length)
 | [],_,_,_,_,i,o,h=>by simp at h
 |o0::rest,s,s',dK,h,i,o,ho=>by
  cases h with|@cons _ _ _ s1 _ us fp tr dK hd h hus hfp ha ht=>
  subst hus;cases i with
  |zero=>
   simp at ho;subst ho
   exact⟨tr,fp,rfl,hfp,by simpa[zQ,cB,cE] using h,hd⟩
  |succ i=>
   obtain⟨OA,fp',e1,e2,e3,e4⟩:=ht.at i o (by simpa using ho);have A:=JP ha;refine⟨OA,fp',by simpa using e1,e2,?_,λd h=>by rw[<-A.tmps];exact e4 d h⟩
   have hc:cB (zQ (List.take (i+1) (tr::dK)))=cB tr.us+cB (zQ (dK.take i)):=by
    simp only[List.take_succ_cons,zQ,List.flatMap_cons,E1]
   have hg:cE (zQ (List.take (i+1) (tr::dK))) s.gt=cE (zQ (dK.take i)) s1.gt:=by
    simp only[List.take_succ_cons,zQ,List.flatMap_cons,Qp];rw[Oy ha]
   rw[hc,hg,<-Bw,<-A.heap];exact e3
end Go.Ab
namespace Go.Ab
variable [ax]
section
variable {P:Program} {E:Env} {X:Cx}
omit [ax] in
theorem ayB (dK:List Tr){i j:Nat}(h:i<=j):cB (zQ (dK.take i))<=cB (zQ (dK.take j)):=by
 obtain⟨d,rfl⟩:∃d,j=i+d:=⟨j-i,by omega⟩;rw[List.take_add,zQ,zQ,List.flatMap_append,E1];omega
omit [ax] in
theorem Wu {dK:List Tr}{i:Nat}{tr:Tr}(h:dK[i]? =some tr):cB (zQ (dK.take (i+1)))=cB (zQ (dK.take i))+cB tr.us:=by
 have mH:=(ld.1 h).1;have he:=(ld.1 h).2;rw[List.take_succ_eq_append_getElem mH,he,zQ,zQ,List.flatMap_append,E1];simp
omit [ax] in
theorem aqH {f f':Nat->Bool}{i:Nat}(h1:f i=true)(h2:f' i=false)(h:∀j,j≠i->f' j=f j):∀n,i<n->(rx n).countP f=(rx n).countP f'+1
 |0,hn=>by omega
 |n+1,hn=>by
  rw[List.range_succ,List.countP_append,List.countP_append];by_cases e:i=n
  .subst e
   have:(rx i).countP f=(rx i).countP f':=by
    apply List.countP_congr
    intro j hj;rw[h j (by have:=List.mem_range.1 hj;omega)]
   rw[this];simp[h1,h2]
  .rw[aqH h1 h2 h n (by omega),List.countP_singleton,List.countP_singleton,h n (Ne.symm e)];omega
theorem wpAny_all (hE:∀f F,E f=some F->Sound P f F){h0:List af}{ops:Array Oper}{Q:Exit->Act->World->Prop}{s s':St}{dK:List Tr}(hT:En P E ops.toList X.k ops.toList s dK s')
  (he:Q' ops.toList 0=true)(hp:Q9 (Lv ops.toList []) dK 0=true)(hlen:s.tmps.length=X.N)(hsk:X.k<=s.heap.length)(hdl:∀b,b∈s.dk->b<X.k)(hdr:∀b,b<X.k->b∉s.dk->s.bR b=h0[b]?)
  (hQ:∀a' w' π',iu X h0 π' s' a' w'->Q .normal a' w'):
  ∀(fuel:Nat) (eU:Array Bool) (π:Pi) (a:Act) (w:World),eU.size=ops.size->(rx ops.size).countP (λi=> !eU.getD i false)=fuel->
   (∀(j:Nat) o,ops[j]? =some o->eU.getD j false=true->∀e∈o.after,Region.binds .any e=true->eU.getD e.on false=true)->
   Rel X (·∈s'.dk) π (gl dK (λi=>eU.getD i false) 0 s.gt) a w->
   (∀b,π b≠none->b<s.heap.length∨∃(i:Nat) (tr:Tr),dK[i]? =some tr/\eU.getD i false=true/\s.heap.length+cB (zQ (dK.take i))<=b/\b<s.heap.length+cB (zQ (dK.take i))+cB tr.us)->
   wpAny P .any ops Q fuel eU a w:=by
 obtain⟨aam,htl⟩:=hT.app;have A:=JP aam;have hn:dK.length=ops.size:=by rw[htl];simp
 have bef:∀(eU:Array Bool),(∀(j:Nat) o,ops[j]? =some o->eU.getD j false=true->∀e∈o.after,Region.binds .any e=true->eU.getD e.on false=true)->
   ∀(j:Nat) (o:Oper) (i:Nat),ops[j]? =some o->(∀e∈o.after,Region.binds .any e=true->eU.getD e.on false=true)->Nat.testBit ((Lv ops.toList []).getD j 0) i=true->eU.getD i false=true:=by
  intro eU DX j;induction j using Nat.strongRecOn with
  |_ j ih=>
   intro o i ho aTj hb;have ho':ops.toList[j]? =some o:=by rw[Wc];exact ho
   obtain⟨e,he1,he2,h1⟩:=aFk ops.toList [] j o ho' (λe h1 h2=>by have:=ab8 he j o ho' e h1 h2;simpa using this) (by simpa using hb);have hl:=aTj e (Array.mem_toList_iff.1 he1) he2;rcases h1 with rfl| ⟨mH,h1⟩
   .exact hl
   .simp only[List.length_nil,eX] at mH;have hjs:j<ops.size:=(Array.getElem?_eq_some_iff.1 ho).1;have hoe:ops[e.on]? =some (ops[e.on]'(by omega)):=ai1 _;exact ih e.on mH _ i hoe (DX e.on _ hoe hl) h1
 intro fuel;induction fuel with
 |zero=>
  intro eU π a w xI aTf DX R jK
  have aNE:∀i,i<ops.size->eU.getD i false=true:=λi hi=>by
   have:=List.countP_eq_zero.1 aTf i (List.mem_range.2 hi);simpa using this
  refine⟨?_,hQ a w π ?_⟩
  .unfold Region.ready;rw[List.filter_eq_nil_iff];intro i hi;have hi:=List.mem_range.1 hi;have:=aNE i hi
   have e:eU.getD i true=true:=by
    simp only[aqz,ai1 (show i<eU.size by omega),Lq] at this ⊢;exact this
   rw[e];simp
  .rw[aZ2 (λi hi=>aNE i (by omega))] at R;refine⟨(Oy aam)▸R,A.tmps.trans hlen,λb hb=> ?_,λb hb hn'=> ?_,?_,alP aam hdl⟩
   .rw[A.heap];rcases jK b hb with h| ⟨i,tr,htr,_,_,h2⟩
    .omega
    .have h3:=Wu htr;have h4:=ayB dK (show i+1<=dK.length from(ld.1 htr).1);rw[List.take_length] at h4;omega
   .rw[A.mb b hb (by omega) hn'];exact hdr b hb (λh=>hn' (A.sub b h))
   .rw[A.heap];omega
 |succ fuel ih=>
  intro eU π a w xI aTf DX R jK
  have a02:∀i,i<ops.size->eU.getD i true=eU.getD i false:=λi hi=>by
   simp only[aqz,ai1 (show i<eU.size by omega),Lq]
  refine⟨λhr=> ?_,λi hi=> ?_⟩
  .exfalso
   have aNE:∀i,i<ops.size->eU.getD i false=true:=by
    intro i;induction i using Nat.strongRecOn with
    |_ i ihi=>
     intro hi;cases hl:eU.getD i false with
     |true=>rfl
     |false=>
      have ho:ops[i]? =some (ops[i]'hi):=ai1 _
      have a03:i∈Region.ready .any ops eU:=mem_ready.2 ⟨by rw[a02 i hi];exact hl,_,ho,λe he1 he2=>by
       have mH:=ab8 he i _ (by rw[Wc];exact ho) e (Array.mem_toList_iff.2 he1) he2;exact ihi e.on (by omega) (by omega)⟩
      rw[hr] at a03;cases a03
   have:(rx ops.size).countP (λi=> !eU.getD i false)=0:=List.countP_eq_zero.2 λi hi=>by rw[aNE i (List.mem_range.1 hi)];simp
   omega
  .obtain⟨hun,o,ho,aTj⟩:=mem_ready.1 hi;have his:i<ops.size:=(Array.getElem?_eq_some_iff.1 ho).1;have aNF:eU.getD i false=false:=by rw[<-a02 i his];exact hun
   obtain⟨tr,fp,htr,hfp,pQ,hd⟩:=hT.at i o (by rw[Wc];exact ho)
   have hG:cE (zQ (dK.take i)) s.gt=gl dK (λj=>decide (j<i)) 0 s.gt:=by
    have:=aRA dK i 0 s.gt;simp only[eX] at this;exact this.symm
   rw[hG] at pQ
   have aYb:∀(j:Nat) OA,i<j->dK[j]? =some OA->eU.getD j false=true->tr.agw OA=true->False:=λj OA hij hj hl hc=>by
    rcases ab9 hp i j tr OA hij htr hj with h|h
    .simp only[eX] at h;have hjs:j<ops.size:=by rw[<-hn];exact(ld.1 hj).1
     have hoj:ops[j]? =some (ops[j]'hjs):=ai1 _;have:=bef eU DX j _ i hoj (DX j _ hoj hl) h;rw[aNF] at this;cases this
    .rw[hc] at h;cases h
   have a3K:=pQ.local (g':=gl dK (λj=>eU.getD j false) 0 s.gt) (λf hf p a3L=>by
    refine aKU (λj OA hj mc=> ?_) rfl;simp only[eX] at mc;intro ht;have hc:=aUa (hfp f hf) a3L ht;rcases agm j i with hji|hji|hji
    .have hlj:eU.getD j false=false:=by
      cases h:eU.getD j false with
      |false=>rfl
      |true=>exact absurd (by rw[h];simp[hji]) mc
     rcases ab9 hp j i OA tr hji hj htr with h|h
     .simp only[eX] at h;have:=bef eU DX i o j ho aTj h;rw[hlj] at this;cases this
     .rw[hc.1] at h;cases h
    .subst hji;exact mc (by rw[aNF];simp)
    .have hlj:eU.getD j false=true:=by
      cases h:eU.getD j false with
      |true=>rfl
      |false=>exact absurd (by rw[h];simp;omega) mc
     exact aYb j OA hji hj hlj hc.2)
   have a1X:∀u∈tr.us,u∈zQ dK:=λu hu=>List.mem_flatMap.2 ⟨tr,List.mem_of_getElem? htr,hu⟩
   refine aAp hE ho a3K R (by omega) (λb h1 h2=> ?_) (λd h=>by rw[<-hlen];exact hd d h) (λu hu=>A.perm u (a1X u hu)) (λa' w' π' hx a1Y hR=> ?_)
   .cases hb:π b with
    |none=>rfl
    |some p=>
     exfalso
     rcases jK b (by simp[hb]) with h| ⟨i',OA,aYc,hl',h3,h4⟩
     .omega
     .rcases agm i' i with hii|hii|hii
      .have e1:=Wu aYc;have e2:=ayB dK (show i'+1<=i from hii);omega
      .subst hii;rw[aNF] at hl';cases hl'
      .have e1:=Wu htr;have e2:=ayB dK (show i+1<=i' from hii);omega
   .have aFl:∀j,(eU.setIfInBounds i true).getD j false=if j=i then true else eU.getD j false:=λj=>by
     simp only[aqz];by_cases e:j=i
     .subst e;simp[show j<eU.size by omega]
     .rw[if_neg e,aSQ (Ne.symm e)]
    refine ih (eU.setIfInBounds i true) π' a' w' (by simp[xI]) ?_ (λj oj hoj hl e he1 he2=> ?_) ?_ (λb hb=> ?_)
    .have:=aqH (f:=λi=> !eU.getD i false) (f':=λj=> !(eU.setIfInBounds i true).getD j false) (i:=i) (by simp[aNF]) (by simp only[aFl];simp) (λj hj=>by simp only[aFl,if_neg hj]) ops.size his;omega
    .rw[aFl] at hl ⊢;by_cases e1:e.on=i
     .rw[if_pos e1]
     .rw[if_neg e1];by_cases e2:j=i
      .subst e2;rw[ho] at hoj;cases hoj;exact aTj e he1 he2
      .rw[if_neg e2] at hl;exact DX j oj hoj hl e he1 he2
    .rw[aYa (L:=λj=>eU.getD j false) (L':=λj=>(eU.setIfInBounds i true).getD j false) htr aNF (by simp only[aFl];simp) (λj hj=>by simp only[aFl,if_neg hj])
      (λj OA hij hj hl p Hw hp2=>aYb j OA hij hj hl (aUb Hw hp2))]
     exact hR
    .rcases a1Y b hb with h| ⟨h1,h2⟩
     .rcases jK b h with h| ⟨i',OA,aYc,hl',h3,h4⟩
      .exact .inl h
      .refine .inr ⟨i',OA,aYc,?_,h3,h4⟩;rw[aFl];split<;>first|rfl|exact hl'
     .exact .inr ⟨i,tr,htr,by rw[aFl,if_pos rfl],h1,h2⟩
theorem aKV (hE:∀f F,E f=some F->Sound P f F)(hm:P.follows .mixedOrders=true){h0:List af}{id:Nat}{ops:Array Oper}{Q:Exit->Act->World->Prop}{s s':St}{dK:List Tr}(hT:En P E ops.toList X.k ops.toList s dK s')
  (he:Q' ops.toList 0=true)(hp:Q9 (Lv ops.toList []) dK 0=true){π:Pi}{a:Act}{w:World}(R:iu X h0 π s a w)(hQ:∀a' w' π',iu X h0 π' s' a' w'->Q .normal a' w'):(Code.region id ops true).wp P Q a w:=by
 refine wp_region_any hm ?_
 have hf:∀i,(Array.replicate ops.size false).getD i false=false:=λi=>by
  simp only[aqz,Array.getElem?_replicate];split<;>rfl
 have A:=JP hT.app.1;refine wpAny_all hE hT he hp R.len R.hk R.dlt R.drt hQ ops.size _ π a _ (by simp) ?_ (λj o _ hl=>by rw[hf] at hl;cases hl) ?_ (λb hb=>.inl (R.dom b hb))
 .rw[List.countP_eq_length.2 λi _=>by rw[hf];rfl];simp
 .rw[avk (λj _=>hf _)];exact(R.rel.aKO λb hb=>A.sub b hb).drew
theorem aKW (hE:∀f F,E f=some F->Sound P f F){h0:List af}{id:Nat}{ops:Array Oper}{Q:Exit->Act->World->Prop}{s s':St}{dK:List Tr}(hT:En P E ops.toList X.k ops.toList s dK s')
  {π:Pi}{a:Act}{w:World}(R:iu X h0 π s a w)(hQ:∀a' w' π',iu X h0 π' s' a' w'->Q .normal a' w'):(Code.region id ops false).wp P Q a w:=by
 refine wp_region ?_;have:=aAq hE hQ hT (i:=0) (λj=>by simp) R;rw[List.range_eq_range'];simpa using this
end
end Go.Ab
namespace Go.Ab
variable [ax]
def LJ (π:Pi)(H:Nat)(m:List Nat):Pi:=λb=>if b<H then π b else match m[b-H]? with
 |some b0=>π b0
 |none=>none
def zR (m m':List Nat):Prop:=∃t,m'=m++t
omit [ax] in
theorem zR.refl (m:List Nat):zR m m:=⟨[],by simp⟩
omit [ax] in
theorem zR.trans {a b c:List Nat}(h:zR a b)(k:zR b c):zR a c:=by
 obtain⟨t,rfl⟩:=h;obtain⟨u,rfl⟩:=k;exact⟨t++u,by simp⟩
omit [ax] in
theorem zR.get {m m':List Nat}(h:zR m m'){j b:Nat}(hj:m[j]? =some b):m'[j]? =some b:=by
 obtain⟨t,rfl⟩:=h;rw[UC (ld.1 hj).1,hj]
omit [ax] in
theorem zR.ext {π:Pi}{H:Nat}{m m':List Nat}(h:zR m m'):Ext (LJ π H m) (LJ π H m'):=by
 intro b p hp;unfold LJ at hp ⊢;split
 .rename_i hb;rw[if_pos hb] at hp;exact hp
 .rename_i hb
  rw[if_neg hb] at hp;cases hj:m[b-H]? with
  |none=>rw[hj] at hp;cases hp
  |some b0=>rw[h.get hj];rw[hj] at hp;exact hp
def MOk (H:Nat)(m:List Nat):Prop:=m.Nodup/\∀b∈m,H<=b
omit [ax] in
theorem aI5 {b:Nat}:∀{m:List Nat} {i0 i:Nat},idx b m i0=some i->∃k,i=i0+k/\m[k]? =some b
 | [],_,_,h=>by simp[idx] at h
 |x::m,i0,i,h=>by
  simp only[idx] at h;split at h
  .rename_i hx
   cases h;exact⟨0,rfl,by simp[mO hx]⟩
  .obtain⟨k,h1,h2⟩:=aI5 h;exact⟨k+1,by omega,by simpa using h2⟩
omit [ax] in
theorem aI6 {b:Nat}:∀{m:List Nat} {i0:Nat},idx b m i0=none->b∉m
 | [],_,_=>by simp
 |x::m,i0,h=>by
  simp only[idx] at h;split at h
  .cases h
  .rename_i hx
   have:=aI6 h;simp only[SN,not_or];exact⟨λe=>by subst e;simp at hx,this⟩
omit [ax] in
theorem alR {H b:Nat}{m:List Nat}:zR m (alD H b m).2/\(MOk H m->MOk H (alD H b m).2)/\∀π,LJ π H (alD H b m).2 (alD H b m).1=π b:=by
 unfold alD;split
 .rename_i hb
  have hb:=JK hb;split
  .rename_i i hi
   obtain⟨k,h1,h2⟩:=aI5 hi;refine⟨zR.refl _,id,λπ=> ?_⟩;unfold LJ;rw[if_neg (by omega),show H+i-H=k by omega,h2]
  .rename_i hi
   have hnm:=aI6 hi;refine⟨⟨_,rfl⟩,λok=>⟨?_,λx hx=> ?_⟩,λπ=> ?_⟩
   .rw[List.nodup_append];exact⟨ok.1,by simp,λx hx y hy e=>by simp at hy;subst hy;subst e;exact hnm hx⟩
   .rcases List.mem_append.1 hx with h|h
    .exact ok.2 x h
    .simp at h;omega
   .unfold LJ;rw[if_neg (by omega),show H+m.length-H=m.length by omega];simp
 .rename_i hb
  have hb:b<H:=by
   rcases ns b H with h|h
   .exact h
   .have:=aKA h;simp[this] at hb
  exact⟨zR.refl _,id,λπ=>by unfold LJ;rw[if_pos hb]⟩
structure Gc {α:Type}(R:Pi->α->Value->Prop)(H:Nat)(a:α)(m:List Nat)(r:α×List Nat):Prop where
 pre:zR m r.2
 ok:MOk H m->MOk H r.2
 rel:∀π x,R π a x->R (LJ π H r.2) r.1 x
theorem aI7 (H:Nat)(c:CV)(m:List Nat):Gc CV.rel H c m (gcC H c m):=by
 cases c<;>simp only[gcC]
 case ptr b o n=>
  obtain⟨h1,h2,h3⟩:=alR (H:=H) (b:=b) (m:=m);refine⟨h1,h2,λπ x ⟨B,s,q,e,hp,hx⟩=>⟨B,s,q,e,?_,hx⟩⟩;rw[h3];exact hp
 case cl f b o n=>
  obtain⟨h1,h2,h3⟩:=alR (H:=H) (b:=b) (m:=m);refine⟨h1,h2,λπ x ⟨B,s,q,e,hp,hx⟩=>⟨B,s,q,e,?_,hx⟩⟩;rw[h3];exact hp
 case sl b o l z w=>
  obtain⟨h1,h2,h3⟩:=alR (H:=H) (b:=b) (m:=m);exact⟨h1,h2,λπ x ⟨B,s,q,e,hp,hx⟩=>⟨B,s,q,e,by rw[h3];exact hp,hx⟩⟩
 all_goals exact⟨zR.refl _,id,λπ x hx=>hx⟩
omit [ax] in
theorem aNG {α:Type}{R R':α->Value->Prop}{as as':List α}{xs:List Value}(hl:as'.length=as.length)(h:∀(j:Nat) a a',as[j]? =some a->as'[j]? =some a'->∀x,R a x->R' a' x)(hx:bl R as xs):bl R' as' xs:=by
 refine bl.agD (by rw[hl];exact hx.length) λi a' x ha' hxi=> ?_;obtain⟨a,ha,hr⟩:=hx.get' hxi;exact h i a a' ha ha' x hr
omit [ax] in
theorem aen {α:Type}{R:Pi->α->Value->Prop}(mono:∀{π π':Pi},Ext π π'->∀a x,R π a x->R π' a x){f:α->List Nat->α×List Nat}{H:Nat}(hf:∀a m,Gc R H a m (f a m)):
  ∀(l:List α) (m:List Nat),zR m (Hu f l m).2/\(MOk H m->MOk H (Hu f l m).2)/\(Hu f l m).1.length=l.length/\∀(j:Nat) a a',l[j]? =some a->(Hu f l m).1[j]? =some a'->∀π x,R π a x->R (LJ π H (Hu f l m).2) a' x
 | [],m=>⟨zR.refl _,id,rfl,λj a a' h=>by simp at h⟩
 |a::l,m=>by
  have G:=hf a m;obtain⟨p1,p2,p3,p4⟩:=aen mono hf l (f a m).2;refine⟨G.pre.trans p1,λok=>p2 (G.ok ok),by simp[Hu,p3],λj b b' hb eV π x hx=> ?_⟩;cases j with
  |zero=>
   simp[Hu] at hb eV
   subst hb eV;exact mono p1.ext _ _ (G.rel π x hx)
  |succ j=>exact p4 j b b' (by simpa using hb) (by simpa[Hu] using eV) π x hx
omit [ax] in
theorem aI8 {α:Type}{R:Pi->α->Value->Prop}(mono:∀{π π':Pi},Ext π π'->∀a x,R π a x->R π' a x){f:α->List Nat->α×List Nat}{H:Nat}(hf:∀a m,Gc R H a m (f a m))(l:List α)(m:List Nat)(π:Pi)(xs:List Value)(h:bl (R π) l xs):bl (R (LJ π H (Hu f l m).2)) (Hu f l m).1 xs:=by
 obtain⟨_,_,p3,p4⟩:=aen mono hf l m;exact aNG p3 (λj a a' ha ha' x hr=>p4 j a a' ha ha' π x hr) h
theorem aas (H:Nat):∀(cs:af) (m:List Nat),zR m (Hu (gcS H) cs m).2/\(MOk H m->MOk H (Hu (gcS H) cs m).2)/\af.size (Hu (gcS H) cs m).1=af.size cs/\
  ∀π j x,j<af.size cs->(af.get cs j).rel π x->(af.get (Hu (gcS H) cs m).1 j).rel (LJ π H (Hu (gcS H) cs m).2) x
 | [],m=>⟨zR.refl _,id,rfl,λπ j x hj=>by rw[af.kO] at hj;omega⟩
 |.c v::r,m=>by
  have G:=aI7 H v m;obtain⟨p1,p2,p3,p4⟩:=aas H r (gcC H v m).2;have e:Hu (gcS H) (.c v::r) m=(.c (gcC H v m).1::(Hu (gcS H) r (gcC H v m).2).1,(Hu (gcS H) r (gcC H v m).2).2):=rfl;rw[e];refine⟨G.pre.trans p1,λok=>p2 (G.ok ok),by rw[af.size_cons,af.size_cons,p3];rfl,λπ j x hj hx=> ?_⟩;cases j with
  |zero=>exact CV.dC p1.ext _ _ (G.rel π x hx)
  |succ j=>
   rw[<-af.jS (l:=r) (j':=j) (by omega) (by omega)] at hx;rw[<-af.jS (l:=(Hu (gcS H) r (gcC H v m).2).1) (j':=j) (by omega) (by omega)];exact p4 π j x (by rw[af.size_cons,Sg.jR] at hj;omega) hx
 |.a n cols::r,m=>by
  obtain⟨p1,p2,p3,p4⟩:=aas H r m;have e:Hu (gcS H) (.a n cols::r) m=(.a n cols::(Hu (gcS H) r m).1,(Hu (gcS H) r m).2):=rfl;rw[e];refine⟨p1,p2,by rw[af.size_cons,af.size_cons,p3],λπ j x hj hx=> ?_⟩;rw[af.size_cons] at hj;by_cases lg:j<(Sg.a n cols).size
  .rw[af.dJ lg,Sg.oL] at hx ⊢;obtain⟨v,hv⟩:=aDS cols j;rw[hv] at hx ⊢;exact hx
  .rw[af.kj (by omega)] at hx ⊢;exact p4 π _ x (by omega) hx
theorem aeo (H:Nat)(r:RV)(m:List Nat):Gc RV.rel H r m (gcR H r m):=by
 cases r with
 |c c=>have G:=aI7 H c m;exact⟨G.pre,G.ok,G.rel⟩
 |agg cs=>
  obtain⟨p1,p2,p3,p4⟩:=aas H cs m;refine⟨p1,p2,λπ x ⟨a,hx,ha⟩=>⟨a,hx,?_⟩⟩;obtain⟨l1,l2⟩:=iY ha;refine xq (by rw[p3,l1]) λj hj=> ?_;rw[p3] at hj;obtain⟨y,hy,hr⟩:=l2 j hj;exact⟨y,hy,p4 π j y hj hr⟩
theorem ayC (H:Nat)(r:AV)(m:List Nat):Gc AV.rel H r m (gcA H r m):=by
 cases r with
 |r c=>have G:=aeo H c m;exact⟨G.pre,G.ok,G.rel⟩
 |tup cs=>
  obtain⟨p1,p2,_,_⟩:=aen (R:=RV.rel) (λh a x r=>RV.dC h a x r) (aeo H) cs m;exact⟨p1,p2,λπ x ⟨a,hx,ha⟩=>⟨a,hx,aI8 (R:=RV.rel) (λh a x r=>RV.dC h a x r) (aeo H) cs m π _ ha⟩⟩
 |fn f cs=>
  obtain⟨p1,p2,_,_⟩:=aen (R:=RV.rel) (λh a x r=>RV.dC h a x r) (aeo H) cs m;exact⟨p1,p2,λπ x ⟨a,hx,ha⟩=>⟨a,hx,aI8 (R:=RV.rel) (λh a x r=>RV.dC h a x r) (aeo H) cs m π _ ha⟩⟩
 |Wh=>exact⟨zR.refl _,id,λ_ _ _=>trivial⟩
structure GcB (H:Nat)(b b':Option af)(m':List Nat):Prop where
 size:b'.map af.size=b.map af.size
 rel:∀k k',b=some k->b'=some k'->∀π (j:Nat) x,j<af.size k->(af.get k j).rel π x->(af.get k' j).rel (LJ π H m') x
theorem GcB.pre {H:Nat}{b b':Option af}{m m':List Nat}(h:GcB H b b' m)(p:zR m m'):GcB H b b' m':=
 ⟨h.size,λk k' e e' π j x hj hx=>CV.dC p.ext _ _ (h.rel k k' e e' π j x hj hx)⟩
theorem aI9 (H:Nat)(b:Option af)(m:List Nat):zR m (gcB H b m).2/\(MOk H m->MOk H (gcB H b m).2)/\GcB H b (gcB H b m).1 (gcB H b m).2:=by
 cases b with
 |none=>exact⟨zR.refl _,id,rfl,λk k' e=>by cases e⟩
 |some k=>
  obtain⟨p1,p2,p3,p4⟩:=aas H k m;refine⟨p1,p2,⟨by simp only[gcB,Lt,p3],λk1 k' e e' π j x hj hx=> ?_⟩⟩;cases e;cases e'
  exact p4 π j x hj hx
theorem apt (k:Nat)(d:List Nat)(H:Nat):∀(l:List (Option af)) (j0:Nat) (m:List Nat),zR m (gcO k d H l j0 m).2/\(MOk H m->MOk H (gcO k d H l j0 m).2)/\(gcO k d H l j0 m).1.length=l.length/\
  ∀(j:Nat) b b',l[j]? =some b->(gcO k d H l j0 m).1[j]? =some b'->(j0+j<k/\j0+j∉d/\b'=b)∨((j0+j<k->j0+j∉d->False)/\GcB H b b' (gcO k d H l j0 m).2)
 | [],j0,m=>⟨zR.refl _,id,rfl,λj b b' h=>by simp at h⟩
 |b0::l,j0,m=>by
  simp only[gcO];split
  .rename_i hc
   simp only[cj,Nat.blt_eq,oJ] at hc;obtain⟨p1,p2,p3,p4⟩:=apt k d H l (j0+1) m;refine⟨p1,p2,by simp[p3],λj b b' hb eV=> ?_⟩;cases j with
   |zero=>
    simp at hb eV
    subst hb eV;refine .inl ⟨hc.1,λhm=> ?_,rfl⟩;have:=List.any_eq_false.1 hc.2 _ hm;simp at this
   |succ j=>
    have:=p4 j b b' (by simpa using hb) (by simpa using eV);rw[show j0+1+j=j0+(j+1) by omega] at this;exact this
  .rename_i hc
   obtain⟨q1,q2,q3⟩:=aI9 H b0 m;obtain⟨p1,p2,p3,p4⟩:=apt k d H l (j0+1) (gcB H b0 m).2;refine⟨q1.trans p1,λok=>p2 (q2 ok),by simp[p3],λj b b' hb eV=> ?_⟩;cases j with
   |zero=>
    simp at hb eV
    subst hb eV;refine .inr ⟨λh1 h2=> ?_,q3.pre p1⟩;have e1:v9 j0 k=true:=by simpa using h1
    have e2:d.any (ww j0)=false:=by
     rw[List.any_eq_false];intro y hy he;have:=mO he;subst this;exact h2 hy
    rw[e1,e2] at hc;cases hc
   |succ j=>
    have:=p4 j b b' (by simpa using hb) (by simpa using eV);rw[show j0+1+j=j0+(j+1) by omega] at this;exact this
theorem aJa (H:Nat)(heap:List (Option af)):∀(fuel i:Nat) (m:List Nat) (acc:List (Option af)) (z:List (Option af)×List Nat),gcN H heap fuel i m acc=some z->acc.length=i->i<=m.length->
  (∀(j:Nat) b b',m[j]? =some b->acc[j]? =some b'->GcB H ((heap[b]?).getD none) b' m)->
  zR m z.2/\(MOk H m->MOk H z.2)/\z.1.length=z.2.length/\∀(j:Nat) b b',z.2[j]? =some b->z.1[j]? =some b'->GcB H ((heap[b]?).getD none) b' z.2
 |0,_,_,_,_,h,_,_,_=>by simp[gcN] at h
 |fuel+1,i,m,acc,z,h,hi,hi2,aNA=>by
  simp only[gcN] at h;split at h
  .rename_i hn
   cases h;have:m.length<=i:=List.getElem?_eq_none_iff.1 hn;exact⟨zR.refl _,id,by simp;omega,aNA⟩
  .rename_i b hb
   obtain⟨q1,q2,q3⟩:=aI9 H ((heap[b]?).getD none) m;have mH:i<m.length:=(ld.1 hb).1;have hlen:m.length<=(gcB H ((heap[b]?).getD none) m).2.length:=by obtain⟨t,ht⟩:=q1;rw[ht];simp
   obtain⟨p1,p2,p3,p4⟩:=aJa H heap fuel (i+1) _ _ z h (by simp[hi]) (by omega) (λj b1 b1' h1 h1'=>by
    rcases aFb h1' with h1'| ⟨hj,rfl⟩
    .have hj:j<acc.length:=(ld.1 h1').1
     have hm:m[j]? =some b1:=by
      have e:m[j]? =some (m[j]'(by omega)):=j7 _;rw[e];have:=q1.get e;rw[h1] at this;exact this.symm
     exact(aNA j b1 b1' hm h1').pre q1
    .have:b1=b:=by
      rw[hj,hi] at h1;have:=q1.get hb;rw[h1] at this;exact Om this
     subst this;exact q3)
   exact⟨q1.trans p1,λok=>p2 (q2 ok),p3,p4⟩
end Go.Ab
namespace Go.Ab
variable [ax]
section
variable {P:Program} {E:Env} {X:Cx}
structure In (X:Cx)(h0:List af):Prop where
 k:X.k=h0.length
 h:r9 X.p0 (hC (h0.map some)) (hZ (h0.map some)) X.w0
 d:∀b,X.p0 b≠none->b<X.k
theorem iu.same {h0:List af}{π:Pi}{s:St}{a:Act}{w:World}(I:In X h0)(R:iu X h0 π s a w){b:Nat}(hb:b<X.k)(hn:b∉s.dk){k:af}(hk:s.bR b=some k){B:Nat}{s0 q e:Nat}(hp:π b=some (B,s0,q,e)){j:Nat}(hj:j<af.size k):
  ∃v,cl w B (s0+j)=some v/\(af.get k j).rel X.p0 v:=by
 have h1:=R.drt b hb hn;rw[hk] at h1;have hz:hZ (h0.map some) b=some (af.size k):=by rw[Qq,<-h1];rfl
 obtain⟨B',s',e',uj,hle,k1,k2⟩:=I.h.hp b _ hz;rw[R.rel.wT b hb,uj] at hp;cases hp;obtain⟨v,hv,hr⟩:=k2 j hj;rw[aDU h1.symm hj] at hr;refine⟨v,?_,hr⟩;rw[R.rel.fr.cl (ab5 (by rw[hv];rfl)),hv];rintro ⟨b2,s2,q2,e2,DY,hd2,hp2,i1,i2⟩
 have mc:b2≠b:=λe=>hn (e▸hd2)
 have Vg:hZ (h0.map some) b2≠none:=by
  rw[Qq];have:b2<h0.length:=by rw[<-I.k];exact DY
  rw[j7 this];simp
 exact I.h.dj b2 b B s2 q2 e2 s0 _ e mc Vg (by rw[hz];simp) hp2 uj (s0+j) i1 i2 (by omega) (by omega)
omit [ax] in
theorem aFm {l:List (Option af)}{b:Nat}(h:b<l.length):l[b]? =some ((l[b]?).getD none):=by
 rw[j7 h];rfl
theorem aNH {h0:List af}{π:Pi}{s:St}{a:Act}{w:World}(I:In X h0)(R:iu X h0 π s a w){H:Nat}(hH:X.k<=H)(hHl:H<=s.heap.length){m0:List Nat}(ok0:MOk H m0){z:List (Option af)×List Nat}
  (hz:gcN H s.heap 1000 0 (gcO X.k s.dk H (s.heap.take H) 0 m0).2 []=some z):
  zR m0 z.2/\r9 (LJ π H z.2) (hC ((gcO X.k s.dk H (s.heap.take H) 0 m0).1++z.1)) (hZ ((gcO X.k s.dk H (s.heap.take H) 0 m0).1++z.1)) w/\
  ((gcO X.k s.dk H (s.heap.take H) 0 m0).1++z.1).length=H+z.2.length/\
  (∀b,b<H->b<X.k->b∉s.dk->(((gcO X.k s.dk H (s.heap.take H) 0 m0).1++z.1)[b]?).getD none=s.bR b)/\
  (∀b,hZ ((gcO X.k s.dk H (s.heap.take H) 0 m0).1++z.1) b≠none->(b<H/\s.gt.z b≠none)∨∃b0,H<=b/\z.2[b-H]? =some b0/\H<=b0/\s.gt.z b0≠none):=by
 obtain⟨o1,o2,o3,o4⟩:=apt X.k s.dk H (s.heap.take H) 0 m0;generalize hy:gcO X.k s.dk H (s.heap.take H) 0 m0=y at*
 obtain⟨n1,n2,n3,n4⟩:=aJa H s.heap 1000 0 y.2 [] z hz rfl (Nat.zero_le _) (λj b b' _ h=>by simp at h);have hyl:y.1.length=H:=by rw[o3];simp;omega
 have ok:=n2 (o2 ok0)
 have wT:∀b,b<H->∃x,y.1[b]? =some x/\(y.1++z.1)[b]? =some x/\(x=s.bR b/\b<X.k/\b∉s.dk∨(b<X.k->b∉s.dk->False)/\GcB H (s.bR b) x z.2):=λb hb=>by
  have h1:y.1[b]? =some (y.1[b]'(by omega)):=j7 _
  have h2:(s.heap.take H)[b]? =some (s.bR b):=by
   rw[Wf,if_pos hb];exact aFm (by omega)
  refine⟨_,h1,by rw[UC (by omega)];exact h1,?_⟩;have o5:=o4 b _ _ h2 h1;simp only[eX] at o5;rcases o5 with⟨q1,q2,q3⟩| ⟨q0,q⟩
  .exact .inl ⟨q3,q1,q2⟩
  .exact .inr ⟨q0,q.pre n1⟩
 have new:∀b,H<=b->b<H+z.2.length->∃b0 x,z.2[b-H]? =some b0/\H<=b0/\(y.1++z.1)[b]? =some x/\GcB H (s.bR b0) x z.2:=λb h1 h2=>by
  have e1:z.2[b-H]? =some (z.2[b-H]'(by omega)):=j7 _;have e2:z.1[b-H]? =some (z.1[b-H]'(by omega)):=j7 _;refine⟨_,_,e1,ok.2 _ (List.mem_of_getElem? e1),?_,n4 _ _ _ e1 e2⟩;rw[aeg (by omega),hyl];exact e2
 have len:(y.1++z.1).length=H+z.2.length:=by simp;omega
 have src:∀b n,hZ (y.1++z.1) b=some n->∃b0 k0 k,s.bR b0=some k0/\af.size k0=n/\(y.1++z.1)[b]? =some (some k)/\af.size k=n/\LJ π H z.2 b=π b0/\((b<H/\b0=b)∨(H<=b/\z.2[b-H]? =some b0/\H<=b0))/\
   (k=k0/\b<X.k/\b∉s.dk/\b0=b∨∀(j:Nat) x,j<af.size k0->(af.get k0 j).rel π x->(af.get k j).rel (LJ π H z.2) x):=λb n hn=>by
  have hbl:b<H+z.2.length:=by
   rw[<-len];rcases ns b (y.1++z.1).length with h|h
   .exact h
   .simp only[hZ,DS h] at hn;cases hn
  rcases ns b H with hb|hb
  .obtain⟨x,h1,h2,h3⟩:=wT b hb;simp only[hZ,h2,Lq] at hn;cases x with
   |none=>cases hn
   |some k=>
    have hkn:af.size k=n:=by simpa using hn
    have hpi:LJ π H z.2 b=π b:=by unfold LJ;rw[if_pos hb]
    rcases h3 with⟨q1,q2,q3⟩| ⟨_,q⟩
    .exact⟨b,k,k,q1.symm,hkn,h2,hkn,hpi,.inl ⟨hb,rfl⟩,.inl ⟨rfl,q2,q3,rfl⟩⟩
    .have hs:=q.size;cases NJ:s.bR b with
     |none=>rw[NJ] at hs;cases hs
     |some k0=>
      rw[NJ] at hs q;have:af.size k=af.size k0:=by simpa using hs
      exact⟨b,k0,k,NJ,by omega,h2,hkn,hpi,.inl ⟨hb,rfl⟩,.inr λj x hj hx=>q.rel k0 k rfl rfl π j x hj hx⟩
  .obtain⟨b0,x,h1,h2,h3,q⟩:=new b hb hbl;simp only[hZ,h3,Lq] at hn;cases x with
   |none=>cases hn
   |some k=>
    have hkn:af.size k=n:=by simpa using hn
    have hpi:LJ π H z.2 b=π b0:=by unfold LJ;rw[if_neg (by omega),h1]
    have hs:=q.size;cases NJ:s.bR b0 with
    |none=>rw[NJ] at hs;cases hs
    |some k0=>
     rw[NJ] at hs q;have:af.size k=af.size k0:=by simpa using hs
     exact⟨b0,k0,k,NJ,by omega,h3,hkn,hpi,.inr ⟨hb,h1,h2⟩,.inr λj x hj hx=>q.rel k0 k rfl rfl π j x hj hx⟩
 refine⟨o1.trans n1,⟨R.rel.hp.am,λb B s1 q1 e1 Vf Hw A8=> ?_,λb n hn=> ?_,λb b' B s1 q1 e1 s2 q2 e2 mc Vf Vg Hw hp2 i i1 i2 i3 i4=> ?_⟩,len,λb hb hbk hnd=> ?_,λb hb=> ?_⟩
 .cases hn1:hZ (y.1++z.1) b with
  |none=>exact absurd hn1 Vf
  |some n=>
   obtain⟨b0,k0,k,h1,h2,h3,h4,h5,h6,h7⟩:=src b n hn1;have NK:s.gt.z b0=some (af.size k0):=St.aqE h1;rw[h5] at Hw;exact R.rel.hp.lb b0 B s1 q1 e1 (by rw[NK];simp) Hw A8
 .obtain⟨b0,k0,k,h1,h2,h3,h4,h5,h6,h7⟩:=src b n hn;have NK:s.gt.z b0=some (af.size k0):=St.aqE h1;obtain⟨B,s1,e1,hp,hle,m1,m2⟩:=R.rel.hp.hp b0 _ NK;refine⟨B,s1,e1,by rw[h5,<-h2];exact hp,by omega,m1,λj hj=> ?_⟩;rw[agQ h3 (by omega)];rcases h7 with⟨rfl,q1,q2,rfl⟩|q
  .obtain⟨v,hv,hr⟩:=R.same I q1 q2 h1 hp (j:=j) (by omega);refine⟨v,hv,CV.dC (λb p hbp=> ?_) _ _ hr⟩;have hbk:=I.d b (by rw[hbp];simp);unfold LJ;rw[if_pos (by omega),R.rel.wT b hbk];exact hbp
  .obtain⟨v,hv,hr⟩:=m2 j (by omega);rw[St.aTa h1 (by omega)] at hr;exact⟨v,hv,q j v (by omega) hr⟩
 .cases hn1:hZ (y.1++z.1) b with
  |none=>exact Vf hn1
  |some n=>
  cases hn2:hZ (y.1++z.1) b' with
  |none=>exact Vg hn2
  |some n'=>
  obtain⟨b0,k0,k,h1,_,_,_,h5,h6,_⟩:=src b n hn1;obtain⟨b0',k0',k',h1',_,_,_,h5',h6',_⟩:=src b' n' hn2;rw[h5] at Hw;rw[h5'] at hp2
  have a3M:b0≠b0':=by
   intro e;subst e;rcases h6 with⟨q1,q2⟩| ⟨q1,q2,q3⟩<;>rcases h6' with⟨r1,r2⟩| ⟨r1,r2,r3⟩
   .exact mc (q2.symm.trans r2)
   .omega
   .omega
   .obtain⟨l1,g1⟩:=ld.1 q2;obtain⟨l2,g2⟩:=ld.1 r2;have:=List.pairwise_iff_getElem.1 ok.1;rcases agm (b-H) (b'-H) with h|h|h
    .exact this _ _ l1 l2 h (g1.trans g2.symm)
    .omega
    .exact this _ _ l2 l1 h (g2.trans g1.symm)
  exact R.rel.hp.dj b0 b0' B s1 q1 e1 s2 q2 e2 a3M (by rw[St.aqE h1];simp) (by rw[St.aqE h1'];simp) Hw hp2 i i1 i2 i3 i4
 .obtain⟨x,h1,h2,h3⟩:=wT b hb;rw[h2];rcases h3 with⟨q1,_⟩| ⟨q0,_⟩
  .exact q1
  .exact(q0 hbk hnd).elim
 .cases hn:hZ (y.1++z.1) b with
  |none=>exact absurd hn hb
  |some n=>
   obtain⟨b0,k0,k,h1,_,_,_,_,h6,_⟩:=src b n hn;rcases h6 with⟨q1,rfl⟩| ⟨q1,q2,q3⟩
   .exact .inl ⟨q1,by rw[St.aqE h1];simp⟩
   .exact .inr ⟨b0,q1,q2,q3,by rw[St.aqE h1];simp⟩
end
end Go.Ab
namespace Go.Ab
variable [ax]
section
variable {P:Program} {E:Env} {X:Cx} {h0:List af} {π:Pi} {s s':St} {a:Act} {w:World}
theorem iu.gc (I:In X h0)(R:iu X h0 π s a w){H:Nat}(hH:X.k<=H)(h:s.gc X.k H=some s'):∃π',iu X h0 π' s' a w:=by
 unfold St.gc at h;split at h
 .cases h
 rename_i hb
 have hHl:H<=s.heap.length:=JK hb;simp only at h;split at h
 .rename_i z hz
  obtain⟨p1,p2,p3,p4⟩:=aen (R:=AV.rel) (λh a x r=>AV.dC h a x r) (ayC H) s.tmps [];have ok0:MOk H (Hu (gcA H) s.tmps []).2:=p2 ⟨List.nodup_nil,λ_ h=>by cases h⟩;obtain⟨q1,q2,q3,q4,q5⟩:=aNH I R hH hHl ok0 hz;cases h;refine⟨LJ π H z.2,⟨⟨λi=> ?_,R.rel.nt,R.rel.df,q2,λb hb=> ?_,λb B s1 qq e hkb hzb hp hB i i1 i2=> ?_,R.rel.fr⟩,p3.trans R.len,λb hb=> ?_,λb hb hn=> ?_,?_,R.dlt⟩⟩
  .show(alz (Hu (gcA H) s.tmps []).1 i).rel _ _;rw[Aj];have hr:(alz s.tmps i).rel π (a.tmps.getD i undef):=R.rel.tm i;rw[Aj] at hr;rcases ns i s.tmps.length with hi|hi
   .have e1:s.tmps[i]? =some (s.tmps[i]'hi):=j7 _;have e2:(Hu (gcA H) s.tmps []).1[i]? =some ((Hu (gcA H) s.tmps []).1[i]'(by omega)):=j7 _;have hr:(s.tmps.getD i udf).rel π (a.tmps.getD i undef):=hr;simp only[List.getD,e1,Lq] at hr;simp only[List.getD,e2,Lq];exact AV.dC q1.ext _ _ (p4 i _ _ e1 e2 π _ hr)
   .have hr:(s.tmps.getD i udf).rel π (a.tmps.getD i undef):=hr;simp only[List.getD,DS hi,Option.getD_none] at hr;simp only[List.getD,DS (show(Hu (gcA H) s.tmps []).1.length<=i by omega),Option.getD_none];exact(ayC H udf z.2).rel π _ hr
  .unfold LJ;rw[if_pos (by omega)];exact R.rel.wT b hb
  .rcases q5 b hzb with⟨hbH,NK⟩| ⟨b0,hbH,hm,NJ,NK⟩
   .unfold LJ at hp;rw[if_pos hbH] at hp;exact R.rel.ft b B s1 qq e hkb NK hp hB i i1 i2
   .unfold LJ at hp;rw[if_neg (by omega),hm] at hp;exact R.rel.ft b0 B s1 qq e (by omega) NK hp hB i i1 i2
  .show b<(_++_:List (Option af)).length;rw[q3];unfold LJ at hb;split at hb
   .omega
   .cases hm:z.2[b-H]? with
    |none=>rw[hm] at hb;exact absurd rfl hb
    |some b0=>have:=(ld.1 hm).1;omega
  .exact(q4 b (by omega) hb hn).trans (R.drt b hb hn)
  .show X.k<=(_++_:List (Option af)).length;rw[q3];omega
 .cases h
theorem iu.a1Z (R:iu X h0 π s a w)(t:Nat):iu X h0 π {s with tmps:=s.tmps.set t Wh} a w:=by
 refine⟨⟨λi=> ?_,R.rel.nt,R.rel.df,R.rel.hp,R.rel.wT,R.rel.ft,R.rel.fr⟩,by simpa using R.len,R.dom,R.drt,R.hk,R.dlt⟩;show(alz (s.tmps.set t Wh) i).rel π _;rw[Aj];simp only[List.getD,aEw];have hr:(alz s.tmps i).rel π (a.tmps.getD i undef):=R.rel.tm i;rw[Aj] at hr;split
 .split
  .trivial
  .rename_i h1 h2
   subst h1;simpa only[List.getD,DS (show s.tmps.length<=t by omega)] using hr
 .exact hr
theorem iu.aEE:∀(l:List Nat) {s:St},iu X h0 π s a w->iu X h0 π {s with tmps:=l.foldl (λl t=>l.set t Wh) s.tmps} a w
 | [],_,R=>R
 |t::l,_,R=>iu.aEE l (R.a1Z t)
omit [ax] in
theorem aZ3 {i:Nat}{c:CV}(h:s.tmp i=.r (.c c)):i<s.tmps.length:=by
 rcases ns i s.tmps.length with hi|hi
 .exact hi
 .simp only[St.tmp,Aj,List.getD,DS hi,Option.getD_none,udf] at h;cases h
omit [ax] in
theorem ayD [ax]{π:Pi}{c:CV}{v:Value}(h:c.rel π v):(aIS c).rel π v:=by
 unfold aIS;split
 .split
  .rename_i b len z own c0
   simpa[CV.rel,cA.val] using h
  .exact h
 .exact h
omit [ax] in
theorem agR (g:CV->CV)(s:Sg):(aEF g s).size=s.size:=by
 cases s<;>rfl
omit [ax] in
theorem ayE (g:CV->CV):∀b:af,af.size (b.map (aEF g))=af.size b
 | []=>rfl
 |s::l=>by
  rw[List.map_cons,af.size_cons,af.size_cons,agR,ayE g l]
theorem aUc {g:CV->CV}{π:Pi}(hg:∀c v,CV.rel π c v->CV.rel π (g c) v){s:Sg}{j:Nat}{v:Value}(h:(s.get j).rel π v):((aEF g s).get j).rel π v:=by
 cases s with
 |c x=>
  cases j with
  |zero=>exact hg _ _ h
  |succ j=>exact h
 |a n cols=>exact h
theorem aNI {g:CV->CV}{π:Pi}(hg:∀c v,CV.rel π c v->CV.rel π (g c) v){v:Value}:∀(b:af) (j:Nat),(af.get b j).rel π v->(af.get (b.map (aEF g)) j).rel π v
 | [],_,h=>h
 |s::l,j,h=>by
  rw[List.map_cons];by_cases hj:j<s.size
  .rw[af.dJ hj] at h;rw[af.dJ (by rw[agR];exact hj)];exact aUc hg h
  .rw[af.kj (by omega)] at h;rw[af.kj (by rw[agR];omega),agR];exact aNI hg l _ h
theorem aUd {g:CV->CV}{π:Pi}(hg:∀c v,CV.rel π c v->CV.rel π (g c) v){a:AV}{v:Value}(h:a.rel π v):(mapA g a).rel π v:=by
 unfold mapA;split
 .exact hg _ _ h
 .exact h
omit [ax] in
theorem avl (g:CV->CV)(k:Nat)(d:List Nat):∀(l:List (Option af)) (j:Nat),(ai4 g k d l j).length=l.length
 | [],_=>rfl
 |b::l,j=>by simp[ai4,avl g k d l (j+1)]
omit [ax] in
theorem aJb (g:CV->CV)(k:Nat)(d:List Nat):∀(l:List (Option af)) (j i:Nat),((ai4 g k d l j)[i]?).getD none=(l[i]?).getD none∨(¬(j+i<k/\j+i∉d)/\∃b,(l[i]?).getD none=some b/\((ai4 g k d l j)[i]?).getD none=some (b.map (aEF g)))
 | [],_,_=>.inl rfl
 |b::l,j,0=>by
  unfold ai4;cases hc:v9 j k&& !d.any (ww j) with
  |true=>exact .inl rfl
  |false=>
   cases b with
   |none=>exact .inl rfl
   |some b=>
    refine .inr ⟨λh=> ?_,b,rfl,rfl⟩;have h1:v9 j k=true:=rZ.2 h.1
    have h2:d.any (ww j)=false:=by
     cases hd:d.any (ww j) with
     |false=>rfl
     |true=>
      obtain⟨x,hx,he⟩:=abZ.1 hd;have:=mO he;subst this;exact absurd hx h.2
    rw[h1,h2] at hc;cases hc
 |b::l,j,i+1=>by
  have:=aJb g k d l (j+1) i;rw[show j+1+i=j+(i+1) by omega] at this;exact this
theorem iu.a04 (R:iu X h0 π s a w)(g:CV->CV)(hg:∀c v,CV.rel π c v->CV.rel π (g c) v):iu X h0 π {s with tmps:=s.tmps.map (mapA g),heap:=ai4 g X.k s.dk s.heap 0} a w:=by
 have hb:∀b,St.bR {s with tmps:=s.tmps.map (mapA g),heap:=ai4 g X.k s.dk s.heap 0} b=s.bR b∨(¬(b<X.k/\b∉s.dk)/\∃k,s.bR b=some k/\St.bR {s with tmps:=s.tmps.map (mapA g),heap:=ai4 g X.k s.dk s.heap 0} b=some (k.map (aEF g))):=λb=>by
  have:=aJb g X.k s.dk s.heap 0 b;rw[eX] at this;exact this
 generalize Wo:({s with tmps:=s.tmps.map (mapA g),heap:=ai4 g X.k s.dk s.heap 0}:St)=s2 at hb
 have hz:s2.gt.z=s.gt.z:=by
  funext b
  show(s2.bR b).map af.size=(s.bR b).map af.size;rcases hb b with h| ⟨_,k,h1,h2⟩
  .rw[h]
  .rw[h1,h2];simp[ayE]
 have hc:∀b j v,(s.gt.c b j).rel π v->(s2.gt.c b j).rel π v:=λb j v h=>by
  rcases hb b with e| ⟨_,k,h1,h2⟩
  .show(match s2.bR b with|some k=>if j<k.size then k.get j else .f .u|none=>.f .u:CV).rel π v;rw[e];exact h
  .have h:(match s.bR b with|some k=>if j<k.size then k.get j else .f .u|none=>.f .u:CV).rel π v:=h;show(match s2.bR b with|some k=>if j<k.size then k.get j else .f .u|none=>.f .u:CV).rel π v;rw[h1] at h;rw[h2];simp only[ayE] at h ⊢;split
   .rename_i hj
    rw[if_pos hj] at h;exact aNI hg k j h
   .rename_i hj
    rw[if_neg hj] at h;exact h
 have hd2:s2.dk=s.dk:=by rw[<-Wo]
 have hl2:s2.heap.length=s.heap.length:=by rw[<-Wo];exact avl _ _ _ _ _
 refine⟨⟨λi=> ?_,R.rel.nt,R.rel.df,⟨R.rel.hp.am,?_,λb n hn=> ?_,?_⟩,R.rel.wT,?_,?_⟩,?_,λb eV=> ?_,λb hbk hn=> ?_,?_,?_⟩
 .have hr:(alz s.tmps i).rel π (a.tmps.getD i undef):=R.rel.tm i;show(alz s2.tmps i).rel π _;rw[<-Wo];rw[Aj] at hr;rw[Aj];simp only[List.getD,Af] at hr ⊢;cases he:s.tmps[i]? with
  |none=>rw[he] at hr;exact hr
  |some x=>rw[he] at hr;exact aUd hg hr
 .rw[hz];exact R.rel.hp.lb
 .rw[hz] at hn;obtain⟨B,s1,e,h1,h2,h3,h4⟩:=R.rel.hp.hp b n hn;exact⟨B,s1,e,h1,h2,h3,λj hj=>let⟨v,hv,hr⟩:=h4 j hj;⟨v,hv,hc b j v hr⟩⟩
 .rw[hz];exact R.rel.hp.dj
 .rw[hz];intro b B s1 q e;rw[hd2];exact R.rel.ft b B s1 q e
 .rw[hd2];exact R.rel.fr
 .rw[<-Wo];simpa using R.len
 .rw[hl2];exact R.dom b eV
 .rw[hd2] at hn;rcases hb b with e| ⟨h,_⟩
  .exact e.trans (R.drt b hbk hn)
  .exact absurd ⟨hbk,hn⟩ h
 .rw[hl2];exact R.hk
 .rw[hd2];exact R.dlt
theorem aJc {π:Pi}{c:CV}{v:Value}(h:c.rel π v):(aXN c).rel π v:=by
 unfold aXN;split
 .simpa[CV.rel,Sz.val] using h
 .exact h
theorem aUe {π:Pi}{a:AV}{v:Value}(h:a.rel π v):(aEG a).rel π v:=by
 unfold aEG;split
 .exact aJc (ayD h)
 .exact h
omit [ax] in
theorem agS (s:Sg):(aIT s).size=s.size:=by
 cases s<;>rfl
omit [ax] in
theorem aat:∀b:af,af.size (b.map aIT)=af.size b
 | []=>rfl
 |s::l=>by
  rw[List.map_cons,af.size_cons,af.size_cons,agS,aat l]
theorem aUf {π:Pi}{s:Sg}{j:Nat}{v:Value}(h:(s.get j).rel π v):((aIT s).get j).rel π v:=by
 cases s with
 |c x=>
  cases j with
  |zero=>exact aJc (ayD h)
  |succ j=>exact h
 |a n cols=>exact h
theorem att {π:Pi}{v:Value}:∀(b:af) (j:Nat),(af.get b j).rel π v->(af.get (b.map aIT) j).rel π v
 | [],_,h=>h
 |s::l,j,h=>by
  rw[List.map_cons];by_cases hj:j<s.size
  .rw[af.dJ hj] at h;rw[af.dJ (by rw[agS];exact hj)];exact aUf h
  .rw[af.kj (by omega)] at h;rw[af.kj (by rw[agS];omega),agS];exact att l _ h
omit [ax] in
theorem aFn (l:List (Nat×Nat))(j:Nat)(b:af):af.size (aEH l j b)=af.size b:=by
 unfold aEH;split
 .rw[(ays _).1,(aai _ _).1,aat]
 .rw[aat]
theorem aUg {π:Pi}{v:Value}(l:List (Nat×Nat))(j:Nat)(b:af)(i:Nat)(hi:i<af.size b)(h:(af.get b i).rel π v):(af.get (aEH l j b) i).rel π v:=by
 unfold aEH;split
 .rw[(ays _).2,(aai _ _).2 i (by rw[aat];exact hi)];exact att b i h
 .exact att b i h
omit [ax] in
theorem avm (k:Nat)(d:List Nat)(sl:List (Nat×Nat)):∀(l:List (Option af)) (j:Nat),(alE k d sl l j).length=l.length
 | [],_=>rfl
 |b::l,j=>by simp[alE,avm k d sl l (j+1)]
omit [ax] in
theorem aJd (k:Nat)(d:List Nat)(sl:List (Nat×Nat)):∀(l:List (Option af)) (j i:Nat),((alE k d sl l j)[i]?).getD none=(l[i]?).getD none∨(¬(j+i<k/\j+i∉d)/\∃b,(l[i]?).getD none=some b/\((alE k d sl l j)[i]?).getD none=some (aEH sl (j+i) b))
 | [],_,_=>.inl rfl
 |b::l,j,0=>by
  unfold alE;cases hc:v9 j k&& !d.any (ww j) with
  |true=>exact .inl rfl
  |false=>
   cases b with
   |none=>exact .inl rfl
   |some b=>
    refine .inr ⟨λh=> ?_,b,rfl,rfl⟩;have h1:v9 j k=true:=rZ.2 h.1
    have h2:d.any (ww j)=false:=by
     cases hd:d.any (ww j) with
     |false=>rfl
     |true=>
      obtain⟨x,hx,he⟩:=abZ.1 hd;have:=mO he;subst this;exact absurd hx h.2
    rw[h1,h2] at hc;cases hc
 |b::l,j,i+1=>by
  have:=aJd k d sl l (j+1) i;rw[show j+1+i=j+(i+1) by omega] at this;exact this
theorem iu.rows (R:iu X h0 π s a w):iu X h0 π {s with tmps:=s.tmps.map aEG,heap:=alE X.k s.dk (sls s) s.heap 0} a w:=by
 have hb:∀b,St.bR {s with tmps:=s.tmps.map aEG,heap:=alE X.k s.dk (sls s) s.heap 0} b=s.bR b∨(¬(b<X.k/\b∉s.dk)/\∃k,s.bR b=some k/\St.bR {s with tmps:=s.tmps.map aEG,heap:=alE X.k s.dk (sls s) s.heap 0} b=some (aEH (sls s) b k)):=λb=>by
  have:=aJd X.k s.dk (sls s) s.heap 0 b;rw[eX] at this;exact this
 generalize sls s=sl at hb ⊢
 generalize Wo:({s with tmps:=s.tmps.map aEG,heap:=alE X.k s.dk sl s.heap 0}:St)=s2 at hb
 have hz:s2.gt.z=s.gt.z:=by
  funext b
  show(s2.bR b).map af.size=(s.bR b).map af.size;rcases hb b with h| ⟨_,k,h1,h2⟩
  .rw[h]
  .rw[h1,h2];simp[aFn]
 have hc:∀b j v,(s.gt.c b j).rel π v->(s2.gt.c b j).rel π v:=λb j v h=>by
  rcases hb b with e| ⟨_,k,h1,h2⟩
  .show(match s2.bR b with|some k=>if j<k.size then k.get j else .f .u|none=>.f .u:CV).rel π v;rw[e];exact h
  .have h:(match s.bR b with|some k=>if j<k.size then k.get j else .f .u|none=>.f .u:CV).rel π v:=h;show(match s2.bR b with|some k=>if j<k.size then k.get j else .f .u|none=>.f .u:CV).rel π v;rw[h1] at h;rw[h2];simp only[aFn] at h ⊢;split
   .rename_i hj
    rw[if_pos hj] at h;exact aUg sl b k j hj h
   .rename_i hj
    rw[if_neg hj] at h;exact h
 have hd2:s2.dk=s.dk:=by rw[<-Wo]
 have hl2:s2.heap.length=s.heap.length:=by rw[<-Wo];exact avm _ _ _ _ _
 refine⟨⟨λi=> ?_,R.rel.nt,R.rel.df,⟨R.rel.hp.am,?_,λb n hn=> ?_,?_⟩,R.rel.wT,?_,?_⟩,?_,λb eV=> ?_,λb hbk hn=> ?_,?_,?_⟩
 .have hr:(alz s.tmps i).rel π (a.tmps.getD i undef):=R.rel.tm i;show(alz s2.tmps i).rel π _;rw[<-Wo];rw[Aj] at hr;rw[Aj];simp only[List.getD,Af] at hr ⊢;cases he:s.tmps[i]? with
  |none=>rw[he] at hr;exact hr
  |some x=>rw[he] at hr;exact aUe hr
 .rw[hz];exact R.rel.hp.lb
 .rw[hz] at hn;obtain⟨B,s1,e,h1,h2,h3,h4⟩:=R.rel.hp.hp b n hn;exact⟨B,s1,e,h1,h2,h3,λj hj=>let⟨v,hv,hr⟩:=h4 j hj;⟨v,hv,hc b j v hr⟩⟩
 .rw[hz];exact R.rel.hp.dj
 .rw[hz];intro b B s1 q e;rw[hd2];exact R.rel.ft b B s1 q e
 .rw[hd2];exact R.rel.fr
 .rw[<-Wo];simpa using R.len
 .rw[hl2];exact R.dom b eV
 .rw[hd2] at hn;rcases hb b with e| ⟨h,_⟩
  .exact e.trans (R.drt b hbk hn)
  .exact absurd ⟨hbk,hn⟩ h
 .rw[hl2];exact R.hk
 .rw[hd2];exact R.dlt
omit [ax] in
theorem aUh [ax]{π:Pi}{b n:Nat}(hb:π n=π b){c:CV}{v:Value}(h:c.rel π v):(aM8 b n c).rel π v:=by
 have e:∀x,π (aM7 b n x)=π x:=λx=>by
  unfold aM7;split
  .rename_i hx;rw[mO hx];exact hb
  .rfl
 unfold aM8;split
 .simpa only[CV.rel,e] using h
 .simpa only[CV.rel,e] using h
 .simpa only[CV.rel,e] using h
 .exact h
theorem iu.move (R:iu X h0 π s a w)(b:Nat):∃π',iu X h0 π' (aRj X.k b s) a w:=by
 unfold aRj;split
 case h_2=>exact⟨π,R⟩
 rename_i bR aaj
 split
 case h_2=>exact⟨π,R⟩
 rename_i mH
 have mH:=rZ.1 mH;have hbl:b<s.heap.length:=aEv mH R.hk;generalize hn:s.heap.length=n
 generalize hs1:({s with heap:=s.heap.set b none++[some bR],dk:=mark X.k b s.dk}:St)=s1
 have aam:jA X.k [.kill b,.new n bR] s=some s1:=by
  have h1:v9 b s.heap.length=true:=rZ.2 hbl;have h2:ww n s.heap.length=true:=by rw[hn];exact SO _
  simp[jA,Up.ok,Up.app,h1,h2,<-hs1]
 have A:=JP aam;have hg:=Oy aam;have hz:s.gt.z b=some (af.size bR):=by show(s.bR b).map af.size=_;rw[aaj];rfl
 obtain⟨B,s0,e,hp,hle,k1,k2⟩:=R.rel.hp.hp b _ hz
 have aRB:π n=none:=by
  cases hb:π n with
  |none=>rfl
  |some q=>have:=R.dom n (by rw[hb];simp);omega
 have avj:=Al aRB (B,s0,af.size bR,e);have hD:b∈s1.dk:=by rw[<-hs1];exact Am.2 (.inr ⟨rfl,mH⟩)
 have a3N:∀x,x∈s.dk->x∈s1.dk:=λx hx=>by rw[<-hs1];exact Am.2 (.inl hx)
 have R0:=(R.rel.LC avj (λb' eV=>by simp only[zV];rw[if_neg (by have:=R.hk;omega)])).aKO a3N;have NJ:zV π n (B,s0,af.size bR,e) b=some (B,s0,af.size bR,e):=avj _ _ hp;have hp0:X.p0 b=some (B,s0,af.size bR,e):=by rw[<-R.rel.wT b mH];exact hp
 have R2:=(R0.kill b).new (k:=bR) (b:=n) (py π n (B,s0,af.size bR,e)) (by have:=R.hk;omega) hle k1
  (λj hj=>by
   obtain⟨v,hv,hr⟩:=k2 j hj;have hc:s.gt.c b j=af.get bR j:=by show(match s.bR b with|some k=>if j<k.size then k.get j else .f .u|none=>.f .u:CV)=_;rw[aaj];simp only[hj,kR]
   rw[hc] at hr;exact⟨v,hv,CV.dC avj _ _ hr⟩)
  (λb' s' q' e' mc tV eV i i1 i2 i3 i4=>by
   by_cases eb:b'=b
   .subst eb;simp[Up.gX] at tV
   .exact R0.hp.dj b b' B s0 _ e s' q' e' (λh=>eb h.symm) (by rw[hz];simp) (by simpa[Up.gX,eb] using tV) NJ eV i i1 i2 i3 i4)
  (λ_ i i1 i2=>⟨b,s0,_,e,mH,hD,hp0,i1,i2⟩) (λh=>R.rel.hp.lb b B s0 _ e (by rw[hz];simp) hp h)
 have RS:iu X h0 (zV π n (B,s0,af.size bR,e)) s1 a w:=A.aX9 R hg R2 (λb' eV=>by
   by_cases e':b'=n
   .exact .inr ⟨by omega,by simp[cB];omega⟩
   .simp only[zV,e',fY] at eV;exact .inl eV) (λx hx=>by
   rw[<-hs1] at hx;rcases Am.1 hx with h| ⟨rfl,h⟩
   .exact R.dlt x h
   .exact h)
 have M:=RS.a04 (aM8 b n) λc v h=>aUh (by rw[py,NJ]) h
 rw[<-hs1] at M;exact⟨_,M⟩
theorem iu.aIU (R:iu X h0 π s a w)(p:Nat×List CK):∃π',iu X h0 π' (aIU X.k s p) a w:=by
 unfold Ab.aIU;split
 .split
  .exact⟨π,R.a04 aIS λc v h=>ayD h⟩
  .exact⟨π,R.rows⟩
  .exact R.move _
 split
 .rename_i hx
  have mH:=aZ3 hx;generalize hv:AV.r (.c (.sl s.heap.length (.k 0) (.s 0) p.2.length true))=v
  generalize hk:([.a (.s 0) (p.2.map CK.m9)]:af)=k
  have hk0:af.size k=0:=by rw[<-hk];simp[af.size,Sg.size,Sz.val]
  have aam:jA X.k [.t p.1 v,.new s.heap.length k] s=some {s with tmps:=s.tmps.set p.1 v,heap:=s.heap++[some k]}:=by
   have h1:v9 p.1 s.tmps.length=true:=by simpa using mH
   have h2:ww s.heap.length s.heap.length=true:=SO _;simp[jA,Up.ok,Up.app,h1,h2]
  have A:=JP aam;have hg:=Oy aam
  have aRB:π s.heap.length=none:=by
   cases hb:π s.heap.length with
   |none=>rfl
   |some q=>have:=R.dom _ (by rw[hb];simp:π s.heap.length≠none);omega
  have avj:=Al aRB (0,0,af.size k,0);have hr:(RV.c CV.nils).rel π (a.tmps.getD p.1 undef):=by have:=R.rel.tm p.1;rwa [show s.gt.t p.1=_ from hx] at this
  have R0:=R.rel.LC avj (λb hb=>by simp only[zV];rw[if_neg (by have:=R.hk;omega)])
  have R1:Rel X (·∈s.dk) (zV π s.heap.length (0,0,af.size k,0)) ((Up.t p.1 v).gX s.gt) a w:=by
   refine⟨λi=> ?_,R0.nt,R0.df,R0.hp,R0.wT,R0.ft,R0.fr⟩;show(if i=p.1 then v else s.gt.t i).rel _ _;split
   .rename_i e;subst e;subst hv
    exact⟨_,_,_,_,py _ _ _,by simp[cA.val,Sz.val],λ_=>by simp[cA.val,Sz.val,hk0],.inl ⟨rfl,none,hr⟩⟩
   .exact R0.tm i
  have R2:=R1.new (k:=k) (py π s.heap.length (0,0,af.size k,0)) R.hk (by omega) (λi h1 h2=>by omega) (λj hj=>by omega) (λb' s' q' e' _ _ _ i h1 h2=>by omega) (λ_ i h1 h2=>by omega)
  exact⟨_,A.aX9 R hg R2 (λb hb=>by
   by_cases e:b=s.heap.length
   .exact .inr ⟨by omega,by simp[cB];omega⟩
   .simp only[zV,e,fY] at hb;exact .inl hb) R.dlt⟩
 .exact⟨π,R⟩
theorem iu.nils:∀(l:List (Nat×List CK)) {s:St} {π:Pi},iu X h0 π s a w->∃π',iu X h0 π' (l.foldl (Ab.aIU X.k) s) a w
 | [],_,π,R=>⟨π,R⟩
 |p::l,_,_,R=>let⟨_,R'⟩:=R.aIU p;iu.nils l R'
theorem iu.ab4 (I:In X h0)(R:iu X h0 π s a w){h:Hd}(hh:s.ab4 X.k h=some s'):∃π',iu X h0 π' s' a w:=by
 obtain⟨π1,R1⟩:=iu.nils h.nils (iu.aEE h.aEE R);exact R1.gc I (cW _) hh
theorem iu.head (I:In X h0)(R:iu X h0 π s a w){hs:Hs}{c:Code}(h:s.head X.k hs c=some s'):∃π',iu X h0 π' s' a w:=by
 unfold St.head at h;split at h
 .exact R.gc I (cW _) h
 .split at h
  .exact R.gc I (cW _) h
  .exact R.ab4 I h
def a05:AX->Exit
 |.nrm=>.normal
 |.ex id=>.exit id
 |.ret=>.ret
def aYd (X:Cx)(h0:List af){ρ:Type}(K:AX->St->Option ρ)(r:ρ)(Q:Exit->Act->World->Prop):Prop:=
 ∀e s π a w,iu X h0 π s a w->K e s=some r->Q (a05 e) a w
theorem aAr {c:Code}{hd:St->Option St}{ρ:Type}{body:St->(AX->St->Option ρ)->Option ρ}{K:AX->St->Option ρ}{r:ρ}{Q:Exit->Act->World->Prop}
  (hb:∀{s:St} {K:AX->St->Option ρ} {Q:Exit->Act->World->Prop} {π:Pi} {a:Act} {w:World},iu X h0 π s a w->body s K=some r->aYd X h0 K r Q->c.wp P Q a w)
  (hh:∀{s s':St} {π:Pi} {a:Act} {w:World},iu X h0 π s a w->hd s=some s'->∃π',iu X h0 π' s' a w)(hQ:aYd X h0 K r Q):
  ∀(n:Nat) {s:St} {π:Pi} {a:Act} {w:World},iu X h0 π s a w->iter hd body K n s=some r->Code.rounds P c Q n a w
 |0,_,_,_,_,_,h=>by cases h
 |n+1,s,π,a,w,R,h=>by
  have h:(body s λe s=>match e with
    |.nrm=>match hd s with
     |none=>none
     |some s=>xp s (iter hd body K n)
    |e=>K e s)=some r:=h
  simp only[LB] at h;rw[rounds_succ];refine hb R h λe s2 π2 a2 w2 R2 hK=> ?_;cases e with
  |nrm=>
   simp only at hK;split at hK
   .cases hK
   .rename_i s3 hs3
    obtain⟨π3,R3⟩:=hh R2 hs3;exact aAr hb hh hQ n R3 hK
  |ex id=>exact hQ _ _ _ _ _ R2 hK
  |ret=>exact hQ _ _ _ _ _ R2 hK
def Ol (P:Program)(E:Env)(hs:Hs)(nt kk lf:Nat)(a:Code):Prop:=
 ∀σ,aqx hs a=some σ->σ.kk=kk->∀{ρ:Type} (s:St) (K:AX->St->Option ρ) (r:ρ),σ.run s K=some r->∃n,iter (λt=>t.head kk hs a) (G' P E hs nt kk lf a) K n s=some r
def auX (P:Program)(E:Env)(hs:Hs)(nt kk lf:Nat)(b:Code):Prop:=
 ∀j,aAa hs b=some j->j.sm.kk=kk->∀{ρ:Type} (s:St) (K:AX->St->Option ρ) (r:ρ),j.sm.run s K=some r->G' P E hs nt kk lf b s K=some r
def Ln (P:Program)(E:Env)(hs:Hs)(nt kk lf:Nat):Code->Prop
 |.seq a b=>auX P E hs nt kk lf b/\Ln P E hs nt kk lf a/\Ln P E hs nt kk lf b
 |.cond _ a b=>Ln P E hs nt kk lf a/\Ln P E hs nt kk lf b
 |.block _ a=>Ln P E hs nt kk lf a
 |.loop a=>Ol P E hs nt kk lf a/\Ln P E hs nt kk lf a
 |_=>True
omit [ax] in
theorem aUi {hd:List Hd}{d0:List Nat}{jn:List Jn}{rk:Option Hd}(a:Code):aqx ⟨hd,[],d0,jn,rk⟩ a=none:=by
 unfold aqx;split<;>rfl
omit [ax] in
theorem aUj {hd:List Hd}{sm:List Sm}{d0:List Nat}{rk:Option Hd}(a:Code):aAa ⟨hd,sm,d0,[],rk⟩ a=none:=rfl
omit [ax] in
theorem Ln.nil (P:Program)(E:Env)(hd:List Hd)(d0:List Nat)(nt kk lf:Nat)(c:Code):Ln P E ⟨hd,[],d0,[],none⟩ nt kk lf c:=by
 induction c with
 |seq a b iha ihb=>exact⟨(λj h=>by rw[aUj] at h;cases h),iha,ihb⟩
 |cond x a b iha ihb=>exact⟨iha,ihb⟩
 |block id a iha=>exact iha
 |loop a iha=>exact⟨(λσ h=>by rw[aUi] at h;cases h),iha⟩
 |_=>trivial
def A9 {α:Type}(p:α->Prop):List α->Prop
 | []=>True
 |a::l=>p a/\A9 p l
omit [ax] in
theorem A9.append {α:Type}{p:α->Prop}:∀{l m:List α},A9 p (l++m)->A9 p l/\A9 p m
 | [],_,h=>⟨trivial,h⟩
 |_::_,_,⟨h1,h2⟩=>⟨⟨h1,(A9.append h2).1⟩,(A9.append h2).2⟩
omit [ax] in
theorem Ln.of {P:Program}{E:Env}{hs:Hs}{nt kk lf:Nat}{c:Code}(h:A9 (Ol P E hs nt kk lf) (Ll c))(hj:A9 (auX P E hs nt kk lf) (Lm hs c)):Ln P E hs nt kk lf c:=by
 induction c with
 |seq a b iha ihb=>
  obtain⟨j1,j2⟩:=A9.append hj;refine⟨λj hjn=> ?_,iha (A9.append h).1 (A9.append j2).1,ihb (A9.append h).2 (A9.append j2).2⟩;rw[hjn] at j1;exact j1.1 j hjn
 |cond x a b iha ihb=>exact⟨iha (A9.append h).1 (A9.append hj).1,ihb (A9.append h).2 (A9.append hj).2⟩
 |block id a iha=>exact iha h hj
 |loop a iha=>exact⟨h.1,iha h.2 hj⟩
 |_=>trivial
def SY {D X ρ:Type}(step:D->(D->Option ρ)->(X->Option ρ)->Option ρ)(n:Nat):D->(X->Option ρ)->Option ρ:=
 Nat.rec (motive:=λ_=>D->(X->Option ρ)->Option ρ) (λ_ _=>none) (λ_ ih d x=>step d (λd=>ih d x) x) n
theorem A' (hE:∀f F,E f=some F->Sound P f F)(hm:P.follows .mixedOrders=true)(I:In X h0){hs:Hs}{nt lf:Nat}(ZV:nt<=X.N){ρ:Type}{r:ρ}:
  ∀(c:Code),Ln P E hs nt X.k lf c->∀{s:St} {K:AX->St->Option ρ} {Q:Exit->Act->World->Prop} {π:Pi} {a:Act} {w:World},iu X h0 π s a w->G' P E hs nt X.k lf c s K=some r->aYd X h0 K r Q->c.wp P Q a w
 |.skip,hS,s,K,Q,π,a,w,R,h,hQ=>wp_skip (hQ .nrm _ _ _ _ R h)
 |.region id ops false,hS,s,K,Q,π,a,w,R,h,hQ=>by
  obtain⟨s1,dK,hT,hK⟩:=LH (by rw[R.len];exact ZV) (show Lw P E nt X.k ops.toList ops.toList s [] (λs _=>K .nrm s)=some r from h);exact aKW hE hT R λa' w' π' R'=>hQ .nrm _ _ _ _ R' hK
 |.region id ops true,hS,s,K,Q,π,a,w,R,h,hQ=>by
  obtain⟨s1,dK,hT,hK⟩:=LH (by rw[R.len];exact ZV) (show Lw P E nt X.k ops.toList ops.toList s [] (λs l=>match Q' ops.toList 0&&Q9 (Lv ops.toList []) l 0 with
   |true=>K .nrm s
   |false=>none)=some r from h)
  split at hK
  .rename_i hok
   simp only[cj,List.nil_append] at hok;exact aKV hE hm hT hok.1 hok.2 R λa' w' π' R'=>hQ .nrm _ _ _ _ R' hK
  .cases hK
 |.seq x y,hS,s,K,Q,π,a,w,R,h,hQ=>by
  refine wp_seq (A' hE hm I ZV x hS.2.1 R (show G' P E hs nt X.k lf x s (λe s=>match e with
   |.nrm=>match aAa hs y with
    |none=>G' P E hs nt X.k lf y s K
    |some j=>match s.ab4 X.k j.hd with
     |none=>none
     |some s=>xp s λs=>match ww j.sm.kk X.k with
      |true=>j.sm.run s K
      |false=>none
   |e=>K e s)=some r from h) λe s1 π1 a1 w1 R1 hK=> ?_)
  cases e with
  |nrm=>
   simp only at hK;split at hK
   .exact A' hE hm I ZV y hS.2.2 R1 hK hQ
   .rename_i j hj
    simp only[LB] at hK;split at hK
    .cases hK
    .rename_i s2 Wo
     split at hK
     .rename_i hk
      obtain⟨π2,R2⟩:=R1.ab4 I Wo;exact A' hE hm I ZV y hS.2.2 R2 (hS.1 j hj (beq_iff.1 hk) s2 K r hK) hQ
     .cases hK
  |ex id=>exact hQ _ _ _ _ _ R1 hK
  |ret=>exact hQ _ _ _ _ _ R1 hK
 |.cond (.tmp t) x y,hS,s,K,Q,π,a,w,R,h,hQ=>by
  have h:(match s.tmp t with
   |.r (.c (.f (.b z)))=>match z with
    |true=>G' P E hs nt X.k lf x s K
    |false=>G' P E hs nt X.k lf y s K
   |_=>none)=some r:=h
  split at h
  .rename_i z hz
   have hr:=R.rel.tm t;rw[show s.gt.t t=_ from hz] at hr;have hc:a.eval (.tmp t)=.bool z:=hr;cases z with
   |true=>exact wp_cond_true hc (A' hE hm I ZV x hS.1 R h hQ)
   |false=>exact wp_cond_false hc (A' hE hm I ZV y hS.2 R h hQ)
  .cases h
 |.block id x,hS,s,K,Q,π,a,w,R,h,hQ=>by
  refine wp_block (A' hE hm I ZV x hS R (show G' P E hs nt X.k lf x s (λe s=>match e with
   |.ex j=>match ww j id with
    |true=>K .nrm s
    |false=>K (.ex j) s
   |e=>K e s)=some r from h) λe s1 π1 a1 w1 R1 hK=> ?_)
  cases e with
  |nrm=>exact hQ _ _ _ _ _ R1 hK
  |ret=>exact hQ _ _ _ _ _ R1 hK
  |ex j=>
   simp only at hK;show if j=id then Q .normal a1 w1 else Q (.exit j) a1 w1
   split at hK
   .rename_i hj
    rw[if_pos (mO hj)];exact hQ .nrm _ _ _ _ R1 hK
   .rename_i hj
    rw[if_neg (λe=>by subst e;simp at hj)];exact hQ (.ex j) _ _ _ _ R1 hK
 |.loop x,hS,s,K,Q,π,a,w,R,h,hQ=>by
  have h:(match s.head X.k hs x with
   |none=>none
   |some s=>xp s λs=>match aqx hs x with
    |some σ=>match ww σ.kk X.k with
     |true=>σ.run s K
     |false=>none
    |none=>iter (λt=>t.head X.k hs x) (G' P E hs nt X.k lf x) K lf s)=some r:=h
  simp only[LB] at h;split at h
  .cases h
  .rename_i s1 hs1
   obtain⟨π1,R1⟩:=R.head I hs1
   obtain⟨n,hn⟩:∃n,iter (λt=>t.head X.k hs x) (G' P E hs nt X.k lf x) K n s1=some r:=by
    split at h
    .rename_i σ hσ
     split at h
     .rename_i hk
      exact hS.1 σ hσ (beq_iff.1 hk) s1 K r h
     .cases h
    .exact⟨lf,h⟩
   exact wp_loop_rounds n (aAr (hd:=λt=>t.head X.k hs x) (body:=G' P E hs nt X.k lf x) (λR h hQ=>A' hE hm I ZV x hS.2 R h hQ) (λR' h'=>R'.head I h') hQ n R1 hn)
 |.exit id,hS,s,K,Q,π,a,w,R,h,hQ=>wp_exit (hQ (.ex id) _ _ _ _ R h)
 |.ret,hS,s,K,Q,π,a,w,R,h,hQ=>by
  have h:(match hs.rk with
   |none=>K .ret s
   |some hd=>match s.ab4 X.k hd with
    |none=>none
    |some s=>xp s λs=>K .ret s)=some r:=h
  split at h
  .exact wp_ret (hQ .ret _ _ _ _ R h)
  .simp only[LB] at h;split at h
   .cases h
   .rename_i s2 Wo
    obtain⟨π2,R2⟩:=R.ab4 I Wo;exact wp_ret (hQ .ret _ _ _ _ R2 h)
 |.cond (.const _) _ _,_,_,_,_,_,_,_,_,h,_=>by cases h
 |.cond (.func _) _ _,_,_,_,_,_,_,_,_,h,_=>by cases h
 |.cond (.global _) _ _,_,_,_,_,_,_,_,_,h,_=>by cases h
 |.goto _,_,_,_,_,_,_,_,_,h,_=>by cases h
 |.label _,_,_,_,_,_,_,_,_,h,_=>by cases h
end
end Go.Ab
namespace Go.Ab
variable [ax]
section
variable {P:Program} {E:Env} {X:Cx} {h0:List af} {π:Pi} {s s':St} {a:Act} {w:World}
def aTk (tmps:Array Value):ResultVar->Sem Value
 |.tmp t=>pure (tmps.getD t undef)
 |.cell a t=>do loadVar t (<-asAddr (tmps.getD a undef))
omit [ax] in
theorem aNJ (fn:Func)(tmps:Array Value):results fn tmps=(do
  let vs<-fn.results.mapM (aTk tmps)
  pure (if h:vs.size=1 then vs[0] else .tuple vs)):=by
 unfold results;rfl
theorem aUk (R:iu X h0 π s a w){r:ResultVar}{v:RV}(h:aS8 P s r=some v):∃x,(aTk a.tmps r).run P w=.ok x w/\v.rel π x:=by
 cases r with
 |tmp t=>
  simp only[aS8] at h;split at h
  .rename_i u hu
   cases h;have:=R.rel.tm t;rw[show s.gt.t t=_ from hu] at this;exact⟨_,rfl,this⟩
  .cases h
 |cell q t=>
  simp only[aS8] at h;split at h
  .rename_i b o m hu
   have hp:=R.rel.tm q;rw[show s.gt.t q=_ from hu] at hp;obtain⟨B,s1,q1,e,hb,hx,hm⟩:=hp
   have key:∀v l,aI (aae P t b o m) s.gt v l->∃x,(aTk a.tmps (.cell q t)).run P w=.ok x w/\v.rel π x:=λv l hv=>by
    obtain⟨x,hx1,hx2⟩:=aI.aae R.rel hv hb hm;refine⟨x,?_,hx2⟩;show(do loadVar t (<-asAddr (a.tmps.getD q undef))).run P w=_;rw[hx];simpa[asAddr] using hx1
   split at h
   .rename_i n' bR c h1 h2 h3
    split at h
    .rename_i hle
     simp only[mm] at h;obtain⟨k,hk,rfl⟩:=h;obtain⟨k1,k2⟩:=Ov hk;refine key _ (.c b (ext (.k c) (.l 1) n'):: .z b::[]) ?_;unfold Ab.aae;rw[h1,h2];show aI ((cH (Nat.ble n' m)).bind _) _ _ _;unfold cH;rw[hle];refine aI.test (aI.vw _ _ (St.aqE h3) k1 (λhle j hj=> ?_) (.ret _ _));rw[k2 hle j hj];exact(St.aTa h3 (by simp only[cA.val] at hle;omega)).symm
    .cases h
   .rename_i n' bR c h1 h2 h3
    split at h
    .rename_i hle
     split at h
     .rename_i v0 hk
      cases h;obtain⟨k1,k2⟩:=Ov hk;refine key _ (.c b (ext (.k c) (.l 1) 1):: .z b::[]) ?_;unfold Ab.aae;rw[h1,h2];show aI ((cH (Nat.ble 1 m)).bind _) _ _ _;unfold cH;rw[hle];refine aI.test (aI.vw _ _ (St.aqE h3) k1 (λhle j hj=> ?_) (.ret _ _));rw[k2 hle j hj];exact(St.aTa h3 (by simp only[cA.val] at hle;omega)).symm
     .cases h
    .cases h
   .cases h
  .cases h
theorem aFo (R:iu X h0 π s a w):∀{l:List ResultVar} {vs:List RV},ayp P s l=some vs->∃xs,(l.mapM (aTk a.tmps)).run P w=.ok xs w/\bl (RV.rel π) vs xs
 | [],vs,h=>by cases h;exact⟨[],by simp,trivial⟩
 |r::l,vs,h=>by
  simp only[ayp] at h;split at h
  .rename_i v jL h1 h2
   cases h;obtain⟨x,e1,r1⟩:=aUk R h1;obtain⟨xs,e2,r2⟩:=aFo R h2;exact⟨x::xs,by simp[List.mapM_cons,e1,e2],r1,r2⟩
  .cases h
theorem aKX (R:iu X h0 π s a w){fn:Func}{vs:List RV}(h:ayp P s fn.results.toList=some vs):∃x,(results fn a.tmps).run P w=.ok x w/\(one vs).rel π x:=by
 obtain⟨xs,e,r⟩:=aFo R h;have hlen:=r.length;rw[aNJ];simp only[Array.mapM_eq_mapM_toList,Sem.run_bind,Sem.run_map,e,Result.andThen_ok,Sem.run_pure];match vs,xs,r with
 | [],[],r=>exact⟨_,rfl,#[],by simp,trivial⟩
 | [v],[x],r=>exact⟨x,by simp,r.1⟩
 |v::v'::vs,x::x'::xs,r=>exact⟨_,by simp,(x::x'::xs).toArray,rfl,r⟩
omit [ax] in
theorem aJe {α:Type}:∀{l:List (Option α)} {m:List α},aEI l=some m->l=m.map some
 | [],m,h=>by cases h;rfl
 |some x::l,m,h=>by
  simp only[aEI,mm] at h;obtain⟨m',h1,rfl⟩:=h;rw[aJe h1];rfl
 |none::l,m,h=>by cases h
omit [ax] in
theorem aJf (d:List Nat):∀(l:List (Option af)) (j0 j:Nat),(ai5 d l j0)[j]? =(l[j]?).map λb=>match d.any (ww (j0+j)) with
  |false=>Ch.mb
  |true=>match b with
   |some b=>.set b
   |none=>.kill
 | [],_,_=>by simp[ai5]
 |b::l,j0,0=>by simp[ai5];rfl
 |b::l,j0,j+1=>by
  simp only[ai5,List.getElem?_cons_succ];rw[aJf d l (j0+1) j,show j0+1+j=j0+(j+1) by omega]
omit [ax] in
theorem any_beq {d:List Nat}{j:Nat}:d.any (ww j)=true↔j∈d:=by
 rw[abZ];constructor
 .rintro ⟨y,hy,he⟩;rw[mO he];exact hy
 .exact λh=>⟨j,h,SO j⟩
omit [ax] in
theorem aAs (d:List Nat):∀(h:List af) (l:List (Option af)) (j0:Nat),l.length=h.length->(∀j b,j0+j∉d->l[j]? =some b->b=h[j]?)->after h (ai5 d l j0)=l
 | [],[],_,_,_=>rfl
 |b::bs,o::l,j0,hl,hk=>by
  have ih:=aAs d bs l (j0+1) (by simpa using hl) λj b h1 h2=>by
   have:=hk (j+1) b (by rwa [show j0+(j+1)=j0+1+j by omega]) (by simpa using h2);simpa using this
  simp only[ai5];cases hd:d.any (ww j0) with
  |false=>
   have hn:j0∉d:=λh=>by rw[any_beq.2 h] at hd;cases hd
   have:=hk 0 o (by simpa using hn) rfl;simp only[aEs] at this;subst this;simp[after,ih]
  |true=>
   cases o with
   |none=>simp[after,ih]
   |some b'=>simp[after,ih]
abbrev aJg (_:Program)(π:Pi)(w0:World)(h:List af)(res:oO):Ending->World->Prop:=tg π w0 h res
theorem aRC (I:In X h0)(R:iu X h0 π s a w){fn:Func}{e:AX}{res:oO}(h:fin P fn X.k e s=some res):bodyPost P fn (aJg P X.p0 X.w0 h0 res) (a05 e) a w:=by
 have main:(match ayp P s fn.results.toList with
  |none=>none
  |some vs=>
   let x:=gcA X.k (one vs) []
   let y:=gcO X.k s.dk X.k (s.heap.take X.k) 0 x.2
   match gcN X.k s.heap 1000 0 y.2 [] with
   |some z=>match aEI z.1 with
    |some news=>some {val:=x.1,xH:=ai5 s.dk y.1 0,news}
    |none=>none
   |none=>none)=some res->a.defers=[]/\∃v,(results fn a.tmps).run P w=.ok v w/\aJg P X.p0 X.w0 h0 res (.returned v) w:=by
  intro h;split at h
  .cases h
  rename_i vs hvs
  simp only at h;split at h
  .rename_i z hz
   split at h
   .rename_i news a10
    cases h;obtain⟨v,nq,hv⟩:=aKX R hvs;have G:=ayC X.k (one vs) [];have ok0:=G.ok ⟨List.nodup_nil,λ_ h=>by cases h⟩;obtain⟨q1,q2,q3,q4,q5⟩:=aNH I R (cW _) R.hk ok0 hz;have Vf:=aJe a10;obtain⟨o1,o2,o3,o4⟩:=apt X.k s.dk X.k (s.heap.take X.k) 0 (gcA X.k (one vs) []).2;generalize hy:gcO X.k s.dk X.k (s.heap.take X.k) 0 (gcA X.k (one vs) []).2=y at*
    have hyl:y.1.length=X.k:=by rw[o3];have:=R.hk;simp;omega
    have hhl:=I.k
    have hnl:z.2.length=news.length:=by
     have e1:(y.1++z.1).length=y.1.length+z.1.length:=by simp
     have e2:z.1.length=news.length:=by rw[Vf];simp
     omega
    have aZ4:after h0 (ai5 s.dk y.1 0)=y.1:=aAs s.dk h0 y.1 0 (by omega) λj b h1 h2=>by
     have hj:j<y.1.length:=(ld.1 h2).1;have h3:=q4 j (by omega) (by omega) (by simpa using h1);rw[UC hj,h2] at h3;have h4:=R.drt j (by omega) (by simpa using h1);rw[<-h4,<-h3];rfl
    have a12:(⟨(gcA X.k (one vs) []).1,ai5 s.dk y.1 0,news⟩:oO).heap h0=y.1++z.1:=by
     unfold oO.heap;simp only;rw[aZ4,Vf]
    have aFp:∀B i,CW X.p0 X.k (·∈s.dk) B i->CW X.p0 h0.length (SW (ai5 s.dk y.1 0)) B i:=by
     rintro B i ⟨b,s1,qq,e1,hb,hd,hp,i1,i2⟩
     refine⟨b,s1,qq,e1,by omega,?_,hp,i1,i2⟩;unfold SW;rw[aJf,eX,any_beq.2 hd];have:y.1[b]? =some (y.1[b]'(by omega)):=j7 _;rw[this];cases y.1[b]'(by omega)<;>simp
    refine⟨R.rel.df,v,nq,LJ π X.k z.2,v,rfl,λb p hp=> ?_,?_,?_,R.rel.fr.mono λB i _ h=>aFp B i h,λb hb=> ?_,λb B s1 qq e1 hb hp hB i i1 i2=> ?_⟩
    .have hb:=I.d b (by rw[hp];simp);unfold LJ;rw[if_pos hb,R.rel.wT b hb];exact hp
    .exact AV.dC q1.ext _ _ (G.rel π v hv)
    .rw[a12];exact q2
    .unfold LJ at hb;split at hb
     .simp only;omega
     .cases hm:z.2[b-X.k]? with
      |none=>rw[hm] at hb;exact absurd rfl hb
      |some b0=>have:=(ld.1 hm).1;simp only;omega
    .have uj:=hp;unfold LJ at uj;rw[if_neg (by omega)] at uj;cases hm:z.2[b-X.k]? with
     |none=>rw[hm] at uj;cases uj
     |some b0=>
      rw[hm] at uj;have mH:=(ld.1 hm).1
      have hzb:hZ (y.1++z.1) b≠none:=by
       unfold hZ;rw[aeg (by omega),hyl,Vf,Af,j7 (show b-X.k<news.length by omega)];simp
      rcases q5 b hzb with⟨h1,_⟩| ⟨b1,h1,h2,h3,h4⟩
      .omega
      .rw[hm] at h2;cases h2;exact aFp B i (R.rel.ft b0 B s1 qq e1 h3 h4 uj hB i i1 i2)
   .cases h
  .cases h
 cases e with
 |nrm=>exact main h
 |ret=>exact main h
 |ex id=>cases h
def tOf:Option oO->T
 |some r=>.leaf r
 |none=>.fail
theorem aRD (hE:∀f F,E f=some F->Sound P f F)(hm:P.follows .mixedOrders=true){hs:Hs}{lf:Nat}{f:FuncId}(aNK:∀fn c kk,P.funcs[f]? =some fn->fn.body=some c->Ln P E hs fn.ntmps kk lf c)(hc:∀args w,(callFunc f args).run P w=.ok (.enter f args) w):Sound P f λargs h=>tOf (den P E hs lf f args h):=by
 intro args h res th w π vs kI hH jK;refine .inl ⟨hc _ _,?_⟩
 have th:den P E hs lf f args h=some res:=by
  have th:(tOf (den P E hs lf f args h)).eval=some res:=th;cases hd:den P E hs lf f args h with
  |none=>rw[hd] at th;cases th
  |some r=>rw[hd] at th;exact th
 unfold den at th;split at th
 .cases th
 rename_i fn hf
 split at th
 .cases th
 rename_i c hb
 split at th
 case h_1=>cases th
 rename_i aRE
 have aRE:∀b,b∈hs.dk->b<h.length:=λb hb=>rZ.1 (ayi.1 aRE b hb)
 rw[LB] at th;have hlen:=kI.length;refine calls_of_wp hf hb ?_;let X:Cx:={w0:=w,k:=h.length,p0:=π,N:=(start fn args h hs.dk).tmps.length}
 have I:In X h:=⟨rfl,hH,jK⟩
 have R:iu X h π (start fn args h hs.dk) {tmps:=vs++Array.replicate (fn.ntmps-vs.size) undef,defers:=[]} w:=by
  refine⟨⟨λi=> ?_,by simp[X,start];simp at hlen;omega,rfl,hH,λ_ _=>rfl,λb B s q e hk hz hp=> ?_,ck.refl _ _⟩,rfl,λb hb=>by simpa[start] using jK b hb,λb hb _=> ?_,by simp[start,X],λb hb=>aRE b hb⟩
  .show(alz (args++List.replicate (fn.ntmps-args.length) udf) i).rel π ((vs++Array.replicate (fn.ntmps-vs.size) undef).getD i undef);rw[Aj];simp only[Wd] at hlen;rw[aqz];simp only[List.getD];rcases ns i args.length with hi|hi
   .have e1:args[i]? =some (args[i]'hi):=j7 _;obtain⟨x,hx,hr⟩:=kI.get e1;rw[UC hi,e1,Array.getElem?_append_left (by omega),<-Wc,hx];exact hr
   .rw[aeg hi,Array.getElem?_append_right (by omega),List.getElem?_replicate,Array.getElem?_replicate,hlen];split<;>exact atn π
  .exact absurd (jK b (by rw[hp];simp)) (by simp only[X] at hk;omega)
  .show((h.map some)[b]?).getD none=h[b]?;rw[Af];cases h[b]? <;>rfl
 exact A' hE hm I (nt:=fn.ntmps) (by simp[X,start];omega) c (aNK fn c h.length hf hb) R th λe s π a w R hK=>aRC I R hK
structure oO.wk (h:List af)(r r':oO):Prop where
 val:r.val=r'.val
 news:r.news=r'.news
 xH:∀(j:Nat) (b:af),(after h r.xH)[j]? =some (some b)->∃b':af,(after h r'.xH)[j]? =some (some b')/\af.size b'=af.size b/\∀i,i<af.size b->af.get b i=af.get b' i
 mb:∀j:Nat,r.xH[j]? =some .mb->r'.xH[j]? =some .mb
omit [ax] in
theorem oO.wk.refl (h:List af)(r:oO):r.wk h r:=⟨rfl,rfl,λj b hb=>⟨b,hb,rfl,λ_ _=>rfl⟩,λ_ h=>h⟩
theorem Sound.weaken {f:FuncId}{F F0:EY}(S:Sound P f F0)(hw:∀args h r,(F args h).eval=some r->∃r',(F0 args h).eval=some r'/\r.wk h r'):Sound P f F:=by
 intro args h res th w π vs kI hH jK;obtain⟨r',hr',W⟩:=hw args h res th
 suffices key:∀e w',tg π w h r' e w'->tg π w h res e w' by
  rcases S args h r' hr' w π vs kI hH jK with⟨S1,S2⟩| ⟨v,S1,S2⟩
  .exact .inl ⟨S1,Calls.mono S2 key⟩
  .exact .inr ⟨v,S1,key _ _ S2⟩
 rintro e w' ⟨π',v,rfl,hx,hv,hH',hF,hd,hi⟩
 have aFp:∀B i,CW π h.length (SW r'.xH) B i->CW π h.length (SW res.xH) B i:=by
  rintro B i ⟨b,s1,qq,e1,hb,hD,hp,i1,i2⟩
  exact⟨b,s1,qq,e1,hb,λhk=>hD (W.mb b hk),hp,i1,i2⟩
 have src:∀b n,hZ (res.heap h) b=some n->∃k k',(res.heap h)[b]? =some (some k)/\af.size k=n/\(r'.heap h)[b]? =some (some k')/\af.size k'=n/\∀i,i<n->af.get k i=af.get k' i:=λb n hn=>by
  unfold hZ at hn;cases hg:(res.heap h)[b]? with
  |none=>rw[hg] at hn;cases hn
  |some o=>
   rw[hg] at hn;cases o with
   |none=>cases hn
   |some k=>
    have hkn:af.size k=n:=by simpa using hn
    rcases ns b h.length with hb|hb
    .rw[DB hb] at hg;obtain⟨k',h1,h2,h3⟩:=W.xH b k hg;exact⟨k,k',rfl,hkn,by rw[DB hb];exact h1,by omega,λi hi=>h3 i (by omega)⟩
    .refine⟨k,k,rfl,hkn,?_,hkn,λ_ _=>rfl⟩;unfold oO.heap at hg ⊢;rw[aeg (by rw[mP];exact hb),mP] at hg ⊢;rw[<-W.news];exact hg
 refine⟨π',v,rfl,hx,by rw[W.val];exact hv,⟨hH'.am,λb B s1 q1 e1 hz hp A8=> ?_,λb n hn=> ?_,λb b' B s1 q1 e1 s2 q2 e2 mc hz tV=> ?_⟩,hF.mono λB i _ h=>aFp B i h,by rw[W.news];exact hd,λb B s1 qq e1 hb hp hB i i1 i2=>aFp B i (hi b B s1 qq e1 hb hp hB i i1 i2)⟩
 .cases hn:hZ (res.heap h) b with
  |none=>exact absurd hn hz
  |some n=>
   obtain⟨k,k',_,_,h3,_⟩:=src b n hn;exact hH'.lb b B s1 q1 e1 (by rw[aar h3];simp) hp A8
 .obtain⟨k,k',h1,h2,h3,h4,h5⟩:=src b n hn;have hz:hZ (r'.heap h) b=some n:=by rw[<-h4];exact aar h3
  obtain⟨B,s1,e1,hp,hle,m1,m2⟩:=hH'.hp b n hz;refine⟨B,s1,e1,hp,hle,m1,λj hj=> ?_⟩;obtain⟨x,hx1,hx2⟩:=m2 j hj;rw[agQ h3 (by omega)] at hx2;exact⟨x,hx1,by rw[agQ h1 (by omega),h5 j hj];exact hx2⟩
 .have nn:∀b,hZ (res.heap h) b≠none->hZ (r'.heap h) b≠none:=λb hb=>by
   cases hn:hZ (res.heap h) b with
   |none=>exact absurd hn hb
   |some n=>obtain⟨k,k',_,_,h3,_⟩:=src b n hn;rw[aar h3];simp
  exact hH'.dj b b' B s1 q1 e1 s2 q2 e2 mc (nn b hz) (nn b' tV)
end
end Go.Ab
namespace Go.Ab
variable [ax]
open Go.ChangeShapes Go.WideShapes Go.ChangeAt Go.RowKit
def Gr (P:Program)(f:FuncId):Bool:=match P.funcs[f]? with
 |some fn=> !(fn.name=="runtime.NumGoroutine")&&fn.body.isSome
 |none=>false
omit [ax] in
theorem Ic {P:Program}{f:FuncId}(h:Gr P f=true)(args:Array Value)(w:World):(callFunc f args).run P w=.ok (.enter f args) w:=by
 unfold Gr at h;split at h
 .rename_i fn hf
  simp only[cj,oJ] at h;cases hb:fn.body with
  |none=>rw[hb] at h;cases h.2
  |some c=>
   have h1:fn.name≠"runtime.NumGoroutine":=by simpa using h.1
   simp[callFunc,hf,h1,hb]
 .cases h
def EZ:List (Nat×EY)->Env
 | [],_=>none
 |p::l,f=>match ww p.1 f with
  |true=>some p.2
  |false=>EZ l f
def JJ (P:Program)(l:List (Nat×EY)):Prop:=∀f F,EZ l f=some F->Sound P f F
theorem JJ.nil (P:Program):JJ P []:=λ_ _ h=>by cases h
theorem JJ.cons {P:Program}{l:List (Nat×EY)}{f:Nat}{F:EY}(S:Sound P f F)(h:JJ P l):JJ P ((f,F)::l):=λg G hg=>by
 simp only[EZ] at hg;split at hg
 .rename_i hb
  cases hg;rw[<-mO hb];exact S
 .exact h g G hg
noncomputable def inl (P:Program) (l:List (Nat×EY)) (hs:Hs) (lf:Nat) (f:FuncId):EY:=λargs h=>tOf (den P (EZ l) hs lf f args h)
theorem aUl {P:Program}{l:List (Nat×EY)}(hl:JJ P l)(hm:P.follows .mixedOrders=true){hs:Hs}{lf:Nat}{f:FuncId}(aNK:∀fn c kk,P.funcs[f]? =some fn->fn.body=some c->Ln P (EZ l) hs fn.ntmps kk lf c)(hc:Gr P f=true):Sound P f (inl P l hs lf f):=
 aRD hl hm aNK (Ic hc)
omit [ax] in
theorem aUm {P:Program}{l:List (Nat×EY)}{hs:Hs}{lf:Nat}{f:FuncId}{args:List AV}{h:List af}{r:oO}(hd:den P (EZ l) hs lf f args h=some r):(inl P l hs lf f args h).eval=some r:=by
 unfold inl;rw[hd];rfl
theorem Sound.by {P:Program}{f:FuncId}{F F0:EY}(S:Sound P f F0)(h:∀args b r,(F args b).eval=some r->(F0 args b).eval=some r):Sound P f F:=
 S.weaken λargs b r hr=>⟨r,h args b r hr,.refl _ _⟩
omit [ax] in
theorem ck.kept {w w':World}(h:ck w (λ_ _=>False) w'):w.keptBut w' (λ_=>False):=by
 refine⟨h.os,h.output,λi hi=> ?_⟩;cases hh:w.heap[i]? with
 |none=>rw[h.obj i hi (by rw[hh];intro c t fz e;cases e),hh]
 |some x=>
  cases x with
  |cells c t fr=>
   obtain⟨c',e1,e2,e3⟩:=h.row i c t fr hh;rw[e1];exact⟨rfl,rfl,e2,λj _=>e3 j (λf=>f)⟩
  |map es clock=>
   rw[h.obj i hi (by rw[hh];intro c t fz e;cases e),hh];exact .inr ⟨rfl,rfl⟩
  |_=>rw[h.obj i hi (by rw[hh];intro c t fz e;cases e),hh]
omit [ax] in
theorem ck.sameAt {w w':World}(h:ck w (λ_ _=>False) w'){p:MemPlace}(hp:p.block<w.heap.size):w.sameAt w' p:=by
 cases p with
 |cell b off=>exact h.cl hp (λf=>f)
 |map b=>
  show w'.heap[b]? =w.heap[b]?;have hp:b<w.heap.size:=hp;cases hh:w.heap[b]? with
  |none=>rw[h.obj b hp (by rw[hh];intro c t fz e;cases e),hh]
  |some x=>
   cases x with
   |cells c t fr=>
    obtain⟨c',e1,e2,e3⟩:=h.row b c t fr hh;rw[e1];have:c'=c:=Array.ext_getElem? λj=>e3 j (λf=>f)
    rw[this]
   |_=>rw[h.obj b hp (by rw[hh];intro c t fz e;cases e),hh]
section
variable {H:Type} {enc:TypeId×Value->H}
omit [ax] in
theorem alS {P:Program}(hl:laidOutB P=true){W W':World}(hf:ck W (λ_ _=>False) W'){sp:Nat->Bool}:∀{ts:List TypeId} {vs:List Value} {ds:List (DataW H)} {ps:List MemPlace},(∀t∈ts,P.readableRec t=true/\t<P.types.size)->
  DataW.TrodAll enc P W 0 (λ_=>true) true ts vs ds ps->(∀p∈ps,p.block<W.heap.size)->(∀p∈ps,sp p.block=true)->DataW.TrodAll enc P W' 0 sp true ts vs ds ps
 | [],vs,ds,ps,_,h,_,_=>by
  obtain⟨rfl,rfl,rfl⟩:=trodAll_nil h;rfl
 |t::ts,vs,ds,ps,ht,h,h1,h2=>by
  obtain⟨v,vs1,d,ds1,a,b,rfl,rfl,rfl,h3,h4⟩:=trodAll_cons h;refine⟨a,b,WideElems.Trod_stays hl (ht t (by simp)).1 (ht t (by simp)).2 h3 (λp hp=>hf.sameAt (h1 p (by simp[hp]))) (λp hp=>h2 p (by simp[hp])),?_,rfl⟩;exact alS hl hf (λt ht'=>ht t (by simp[ht'])) h4 (λp hp=>h1 p (by simp[hp])) (λp hp=>h2 p (by simp[hp]))
omit [ax] in
theorem aUn {C:Checked}{os:Os}{f:FuncId}{fn:Func}{s:ChangeSpec}{conds:List PathCond}{tb:TypeId}
  (own:ownKnob C.prog.godebug=none)(started:os.Started)(aZ5:C.prog.inits.idxOf? f=none)(hfn:C.prog.funcs[f]? =some fn)
  (hl:laidOutB C.prog=true)(th:fn.resultTypes=#[tb])(htb:C.prog.underlying tb=some .bool)(a06:fn.params.all (λt=>C.prog.readableRec t&&decide (t<C.prog.types.size))=true)(aYe:s.vars=[])
  (a13:∀(ds:List (DataW H)),ds.length=fn.params.size->s.fn H ds={results:=[.lit (.bool true)],args:=ds})
  (witness:∃(w:World) (tape:Tape) (i:Input),w.os=os/\(w.forCall tape i).Shaped C.prog/\i.vars=[]/\Input.okWide C.prog (w.forCall tape i) .any w.heap.size f i/\
   s.pre6 enc C.prog fn conds false (w.forCall tape i).memory i.args/\({}:Assume).holds C.prog (lone (Frame.enter C.prog f i.args .normal) [] (w.forCall tape i)))
  (aUo:∀(W:World) (base:Nat) (args:Array Value) (ds:List (DataW H)) (ps:List MemPlace),args.size=fn.params.toList.length->
   (∀(j:Nat) t v,fn.params.toList[j]? =some t->args[j]? =some v->Value.okWide C.prog W .any base t v)->
   DataW.TrodAll enc C.prog W 0 (λ_=>true) true fn.params.toList args.toList ds ps->W.noneFrozen ps->(∀p∈ps,p.block<W.heap.size)->
   conds.all (PathCond.test C.prog ⟨fn.params.toList,ds,s.plain.varTypes C.prog,[]⟩)=true->
   Calls C.prog f args W λe W'=>e=.returned (.bool true)/\ck W (λ_ _=>False) W'):
  ReturnsInHanded {} C os f .any (s.pre6 enc C.prog fn conds false) (s.post enc C.prog fn false true false false):=by
 refine returnsInHanded_of_change own started aZ5 hfn witness ?_;intro W base args ds gs before aFe hW a3O _;have hW':=hW;obtain⟨p,q,hA,hV,hpq,hfz,hnd⟩:=hW;rw[aYe] at hV;obtain⟨rfl,rfl⟩:=trodVars_none hV;simp only[List.append_nil] at hpq;subst hpq
 have hlen:∀{ts:List TypeId} {vs:List Value} {ds:List (DataW H)} {ps:List MemPlace},DataW.TrodAll enc C.prog W 0 (λ_=>true) true ts vs ds ps->vs.length=ts.length/\ds.length=ts.length:=by
  intro ts;induction ts with
  |nil=>intro vs ds ps h;obtain⟨rfl,rfl,rfl⟩:=trodAll_nil h;exact⟨rfl,rfl⟩
  |cons t ts ih=>intro vs ds ps h;obtain⟨v,vs1,d,ds1,a,b,rfl,rfl,rfl,_,h4⟩:=trodAll_cons h;have:=ih h4;exact⟨by simp[this.1],by simp[this.2]⟩
 obtain⟨l1,l2⟩:=hlen hA;have mH:∀x∈before,x.block<W.heap.size:=λx hx=>hW'.lt x hx
 refine(aUo W base args ds before (by simpa using l1) (λj t v hj hv=>aFe j t v (by rw[<-Wc];exact hj) hv) hA hfz mH (by simpa using a3O)).mono λe W' ⟨he,hg⟩=> ?_;subst he;have hs:=a13 ds (by simpa using l2)
 have hr:∀t∈fn.params.toList,C.prog.readableRec t=true/\t<C.prog.types.size:=λt ht=>by
  rw[Array.all_eq_true_iff_forall_mem] at a06;have:=a06 t (by simpa using ht);simpa using this
 refine⟨_,rfl,post_of_same (pa:=before) (pv:=[]) hW' (λb sp hd=> ?_) (λsp hsp=> ?_) (λsp _=> ?_) (by simp) (World.keptBut_mono (λ_ f=>f.elim) hg.kept) hg.fzn (ok_one th rfl (okWide_bool_mk htb _))⟩
 .rw[List.append_nil,hs,th];exact trodAll_cons_mk (shut_bool htb _) trodAll_mk0
 .rw[List.append_nil,hs];exact alS hl hg hr hA mH hsp
 .rw[List.append_nil,hs,aYe];rfl
end
end Go.Ab
