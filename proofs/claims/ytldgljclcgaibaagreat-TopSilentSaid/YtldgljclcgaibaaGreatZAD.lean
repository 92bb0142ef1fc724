/-
  Parts of the proof: AbG AbH AbI AbJ AbK AbL AbN AbR AbT AbU AbV
-/
import Derived.Test.YtldgljclcgaibaaGreatZAC
import Derived.ProofKit
import Derived.OpenShut
open Nat renaming beq→ww,blt→v6
open List renaming range→rx
set_option linter.all false
namespace Go.Ab
variable [ax]
section
variable {P:Program} {g:Gt}
theorem ayE {aja:TypeId->RV->RV->Rd Bool}{D:Nat}(aJp:∀t x y r l,aH (aja t x y) g r l->∀(π:Pi) a b (w:World),x.rel π a->y.rel π b->(Op.equalIn D t a b).run P w=.ok r w){xs ys:af}:∀{fs:List Field} {r:Bool} {l:List Fp},aH (aN5 P aja xs ys fs) g r l->
  ∀(π:Pi) (as bs:Array Value) (w:World),bn (CV.rel π) xs.list as.toList->bn (CV.rel π) ys.list bs.toList->(Op.eqFields D as bs fs).run P w=.ok r w
 | [],r,l,h,π,as,bs,w,_,_=>by cases h;simp[Op.eqFields]
 |f::fs,r,l,h,π,as,bs,w,ha,hb=>by
  simp only[aN5] at h;split at h
  .rename_i hn
   obtain⟨x,⟨_,h1⟩,_,h⟩:=aH.bind' h;obtain⟨y,⟨_,h2⟩,_,h⟩:=aH.bind' h;obtain⟨r1,⟨_,h3⟩,_,h⟩:=aH.bind' h;obtain⟨r2,⟨_,h4⟩,_,h⟩:=aH.bind' h;cases h;obtain⟨u,hu,hru⟩:=h1.OL ha w;obtain⟨v,hv,hrv⟩:=h2.OL hb w;have e3:=aJp _ _ _ _ _ h3 π u v w hru hrv;have e4:=ayE aJp h4 π as bs w ha hb;simp only[Op.eqFields,if_pos hn,Sem.run_bind,hu,hv,e3,Result.andThen_ok];cases r1<;>simp[e4]
  .rename_i hn
   have e4:=ayE aJp h π as bs w ha hb;simp only[Op.eqFields,if_neg hn];exact e4
theorem aJq {aja:TypeId->RV->RV->Rd Bool}{D:Nat}{e:TypeId}{z:Nat}(aJp:∀t x y r l,aH (aja t x y) g r l->∀(π:Pi) a b (w:World),x.rel π a->y.rel π b->(Op.equalIn D t a b).run P w=.ok r w){xs ys:af}:∀{is:List Nat} {r:Bool} {l:List Fp},aH (aYu P aja e z xs ys is) g r l->
  ∀(π:Pi) (as bs:Array Value) (w:World),bn (CV.rel π) xs.list as.toList->bn (CV.rel π) ys.list bs.toList->
   (forIn is ((none,()):Option Bool×Unit) (λi (_:Option Bool×Unit)=>(do
    let a<-part e as (i*z)
    let b<-part e bs (i*z)
    let c<-Op.equalIn D e a b
    if (!c)=true then pure (ForInStep.done (some false,())) else pure (ForInStep.yield (none,())):Sem (ForInStep (Option Bool×Unit))))).run P w=.ok (if r then(none,()) else(some false,())) w
 | [],r,l,h,π,as,bs,w,_,_=>by cases h;simp
 |i::is,r,l,h,π,as,bs,w,ha,hb=>by
  obtain⟨x,⟨_,h1⟩,_,h⟩:=aH.bind' h;obtain⟨y,⟨_,h2⟩,_,h⟩:=aH.bind' h;obtain⟨r1,⟨_,h3⟩,_,h⟩:=aH.bind' h;obtain⟨r2,⟨_,h4⟩,_,h⟩:=aH.bind' h;cases h;obtain⟨u,hu,hru⟩:=h1.OL ha w;obtain⟨v,hv,hrv⟩:=h2.OL hb w;have e3:=aJp _ _ _ _ _ h3 π u v w hru hrv;have e4:=aJq aJp h4 π as bs w ha hb;rw[List.forIn_cons];simp only[Sem.run_bind,hu,hv,e3,Result.andThen_ok];cases r1
  .simp
  .simp only[LO,yc,gG,Sem.run_pure,Result.andThen_ok,Ht];exact e4
omit [ax] in
theorem aUM (c:cS)(j:Nat):je [c] j=.f (c.at j):=by
 unfold je;simp[Nat.mod_one]
theorem aOF {e:TypeId}{c c':cS}{n:Nat}{r:Bool}(hs:aeq P e [c]=true)(hc:aEO n [c] [c']=some r){D D2:Nat}(hD:D=D2+1)(w:World):∃q:Nat->Bool,r=aTR n q/\
  ∀i a b,(c.at i).rel a->(c'.at i).rel b->(Op.equalIn D e a b).run P w=.ok (q i) w:=by
 subst hD;unfold aeq at hs;split at hs
 .rename_i g1 hu hcc
  cases hcc;unfold aEO at hc;split at hc
  .rename_i h1 h2;cases h1
  .rename_i g h h1 h2
   cases h1;cases h2
   cases hc;refine⟨_,rfl,λi a b ha hb=> ?_⟩;have ha:a=.bool (g1 i):=ha;have hb:b=.bool (h i):=hb;subst ha hb;exact run_equalIn_bool w D2 e _ _ hu
  .cases hc
 .rename_i k0 k1 g1 hu hcc
  cases hcc;unfold aEO at hc;split at hc
  .rename_i k g k' h h1 h2
   cases h1;cases h2
   split at hc
   .rename_i hk
    subst hk;cases hc;refine⟨_,rfl,λi a b ha hb=> ?_⟩;have ha:a=.int k1 (g1 i):=ha;have hb:b=.int k1 (h i):=hb;subst ha hb;exact run_equalIn_int w D2 e k1 k0 _ _ hu
   .cases hc
  .rename_i h1 h2;cases h1
  .cases hc
 .cases hs
omit [ax] in
theorem aOG {e:TypeId}{c:cS}(hs:aeq P e [c]=true):aep P e=some false:=by
 unfold aeq at hs;unfold aep;split at hs
 .rename_i hu _;rw[hu]
 .rename_i hu _;rw[hu]
 .cases hs
theorem aAx {e:TypeId}{D n:Nat}{c c':cS}{q:Nat->Bool}{w:World}(aUa:aep P e=some false)(hq:∀i a b,(c.at i).rel a->(c'.at i).rel b->(Op.equalIn D e a b).run P w=.ok (q i) w){π:Pi}{as bs:Array Value}
  (ha:bn (CV.rel π) (af.list [.a (.l n) [c]]) as.toList)(hb:bn (CV.rel π) (af.list [.a (.l n) [c']]) bs.toList):∀{is:List Nat},(∀i∈is,i<n)->
   (forIn is ((none,()):Option Bool×Unit) (λi (_:Option Bool×Unit)=>(do
    let a<-part e as (i*1)
    let b<-part e bs (i*1)
    let c<-Op.equalIn D e a b
    if (!c)=true then pure (ForInStep.done (some false,())) else pure (ForInStep.yield (none,())):Sem (ForInStep (Option Bool×Unit))))).run P w=.ok (if is.all q then(none,()) else(some false,())) w
 | [],_=>by simp
 |i::is,hi=>by
  have cell:∀{c:cS} {as:Array Value},bn (CV.rel π) (af.list [.a (.l n) [c]]) as.toList->∃x,(part e as (i*1)).run P w=.ok x w/\(c.at i).rel x:=λ{c as} ha=>by
   have hs:af.size [.a (.l n) [c]]=n:=by simp[af.size,Sg.size,Sz.val]
   have hin:=hi i (by simp);obtain⟨x,hx,hr⟩:=(jF ha).2 i (by rw[hs];exact hin);rw[af.dY (by simp[Sg.size,Sz.val];exact hin),Sg.pR,aUM] at hr;refine⟨x,?_,hr⟩;have:as[i]? =some x:=by simpa using hx
   simp[part,JQ aUa,this]
  obtain⟨u,hu,hru⟩:=cell ha;obtain⟨v,hv,hrv⟩:=cell hb;have e3:=hq i u v hru hrv;have e4:=aAx aUa hq ha hb (is:=is) λj hj=>hi j (by simp[hj])
  rw[List.forIn_cons];simp only[Sem.run_bind,hu,hv,e3,Result.andThen_ok];cases hqi:q i
  .simp[hqi]
  .simp only[LO,yc,gG,Sem.run_pure,Result.andThen_ok,List.all_cons,hqi,Ht];exact e4
theorem aFu:∀{d:Nat} {t:TypeId} {x y:RV} {r:Bool} {l:List Fp},aH (eqT P d t x y) g r l->∀(D:Nat),d<=D->∀(π:Pi) a b (w:World),x.rel π a->y.rel π b->(Op.equalIn D t a b).run P w=.ok r w
 |0,_,_,_,_,_,h,_,_,_,_,_,_,_,_=>by cases h
 |d+1,t,x,y,r,l,h,D,hD,π,a,b,w,hx,hy=>by
  obtain⟨D',rfl⟩:∃D',D=D'+1:=⟨D-1,by omega⟩;have ih:∀t x y r l,aH (eqT P d t x y) g r l->∀(π:Pi) a b (w:World),x.rel π a->y.rel π b->(Op.equalIn D' t a b).run P w=.ok r w:=λt x y r l h π a b w hx hy=>aFu h D' (by omega) π a b w hx hy
  unfold eqT at h;split at h
  .rename_i p q hu
   cases h;have hx:a=_:=hx;have hy:b=_:=hy;subst hx hy;exact run_equalIn_bool w D' t p q hu
  .rename_i k0 k p k' q hu
   have hx:a=_:=hx;have hy:b=_:=hy;subst hx hy;split at h
   .rename_i hk
    subst hk;cases h;exact run_equalIn_int w D' t k k0 p q hu
   .cases h
  .rename_i p q hu
   cases h;have hx:a=_:=hx;have hy:b=_:=hy;subst hx hy;rw[run_equalIn_string w D' t p q hu,beq_toListBytes]
  .rename_i e hu
   cases h;have hx:a=_:=hx;have hy:b=_:=hy;subst hx hy;simp[Op.equalIn,run_underlying hu]
  .rename_i e p1 p2 p3 hu
   cases h;obtain⟨B,s,q',e',_,hx,_⟩:=hx;have hy:b=_:=hy;subst hx hy;simp[Op.equalIn,run_underlying hu]
  .rename_i e p1 p2 p3 hu
   cases h;obtain⟨B,s,q',e',_,hy,_⟩:=hy;have hx:a=_:=hx;subst hx hy;simp[Op.equalIn,run_underlying hu]
  .rename_i fs xs ys hu
   split at h
   .cases h
   .rename_i hst
    obtain⟨as,rfl,has⟩:=hx;obtain⟨bs,rfl,hbs⟩:=hy;have hf:P.fieldsOf t=fs:=by simp[Program.fieldsOf,hu]
    rw[run_equalIn_struct w D' t as bs (by rw[hf];exact hu) hst,hf];exact ayE ih h π as bs w has hbs
  .rename_i n e xs ys hu
   obtain⟨z,⟨_,h1⟩,_,h⟩:=aH.bind' h;obtain⟨as,rfl,has⟩:=hx;obtain⟨bs,rfl,hbs⟩:=hy
   have e1:List.range' 0 [:n].size=rx n:=by
    rw[List.range_eq_range'];simp[Std.Legacy.Range.size]
   split at h
   .rename_i r' al1
    cases h;unfold aYv at al1;split at al1
    .rename_i m c m' c'
     split at al1
     .rename_i hc
      simp only[cq,beq_iff,fH] at hc;obtain⟨hd1,rfl,rfl,rfl,hsc⟩:=hc
      obtain⟨c0,rfl⟩:∃c0,c=[c0]:=by
       unfold aeq at hsc;split at hsc
       .exact⟨_,rfl⟩
       .exact⟨_,rfl⟩
       .cases hsc
      obtain⟨c1,rfl⟩:∃c1,c'=[c1]:=by
       unfold aEO at al1;split at al1
       .exact⟨_,rfl⟩
       .exact⟨_,rfl⟩
       .cases al1
      obtain⟨q,hq1,hq2⟩:=aOF hsc al1 (show D'=D'-1+1 by omega) w;have key:=aAx (P:=P) (aOG hsc) hq2 has hbs (is:=rx m') (λi hi=>List.mem_range.1 hi);simp only[Op.equalIn,Sem.run_bind,run_underlying hu,Result.andThen_ok,run_sizeOf h1.ey,Std.Legacy.Range.forIn_eq_forIn_range'];rw[e1,key,hq1];unfold aTR;cases(rx m').all q<;>simp
     .cases al1
    .cases al1
   .have key:=aJq ih h π as bs w has hbs;simp only[Op.equalIn,Sem.run_bind,run_underlying hu,Result.andThen_ok,run_sizeOf h1.ey,Std.Legacy.Range.forIn_eq_forIn_range'];rw[e1,key];cases r<;>simp
  .cases h
theorem aYX {t:TypeId}{x y:RV}{r:Bool}{l:List Fp}(h:aH (eqV P t x y) g r l)(π:Pi)(a b:Value)(w:World)(hx:x.rel π a)(hy:y.rel π b):
  (∀(op:BinOp) (p q:Operand),(eqGuard op t p q a b).run P w=.ok () w)/\(binOp .eql t a b).run P w=.ok (.bool r) w/\(binOp .neq t a b).run P w=.ok (.bool (!r)) w:=by
 unfold eqV at h;split at h
 .rename_i xs ys
  split at h
  .cases h
  .rename_i hg
   obtain⟨as,rfl,has⟩:=hx;obtain⟨bs,rfl,hbs⟩:=hy;have e:=aFu (x:=.agg xs) (y:=.agg ys) h 10000 (by omega) π (.agg as) (.agg bs) w ⟨as,rfl,has⟩ ⟨bs,rfl,hbs⟩;refine⟨λop p q=>run_eqGuard_agg w op t p q as bs hg,?_,?_⟩
   .rw[run_eql_struct,e];rfl
   .rw[run_neq_struct,e];rfl
 .cases h
 .cases h
 .cases h
 .cases h
 .have e:=aFu h 10000 (by omega) π a b w hx hy;have e':(Op.equal t a b).run P w=.ok r w:=e;unfold eqT at h;split at h
  .have hx:a=_:=hx;have hy:b=_:=hy;subst hx hy;have:=avB (by intros;simp) (by intros;simp) (by intros;simp) (by intros;simp) e';exact⟨λop p q=>aHD op t p q _ _ w,this⟩
  .exfalso;simp_all
  .exfalso;simp_all
  .have hx:a=_:=hx;have hy:b=_:=hy;subst hx hy;have:=avB (by intros;simp) (by intros;simp) (by intros;simp) (by intros;simp) e';exact⟨λop p q=>agM op t p q _ _ w,this⟩
  .obtain⟨B,s,q',e',_,hx,_⟩:=hx;have hy:b=_:=hy;subst hx hy;have:=avB (by intros;simp) (by intros;simp) (by intros;simp) (by intros;simp) e;exact⟨λop p q=>agM op t p q _ _ w,this⟩
  .obtain⟨B,s,q',e',_,hy,_⟩:=hy;have hx:a=_:=hx;subst hx hy;have:=avB (by intros;simp) (by intros;simp) (by intros;simp) (by intros;simp) e;exact⟨λop p q=>agM op t p q _ _ w,this⟩
  .exfalso;simp_all
  .exfalso;simp_all
  .cases h
end
end Go.Ab
namespace Go.Ab
variable [ax]
section
variable {P:Program} {E:Env} {X:Cx} {D:Nat->Prop} {g:Gt}
theorem aJr (hE:∀f F,E f=some F->Sound P f F){o:Oper}{aI:Nat}{us:List Up}{fp:List Fp}(h:aH (aop P E o aI) g us fp):AE P o X D aI us g:=by
 unfold aop at h;simp only[] at h;split at h
 .rename_i x pY;exact aFd (.inl pY) h
 .rename_i x pY;exact aFd (.inr pY) h
 .rename_i c x y pY;exact aSi pY h
 .rename_i e pY;exact aOo pY h
 .rename_i e x pY;exact aUE pY h
 .rename_i t n c pY;exact aCB pY h
 .rename_i t ps pY;exact aOw pY h
 .rename_i t n ps pY;exact ayA pY h
 .rename_i t x pY;exact aSj pY h
 .rename_i t x y pY;exact aOp pY h
 .rename_i x pY;exact aFh pY h
 .rename_i op t x y yt pY
  obtain⟨r1,⟨_,h1⟩,_,h⟩:=aH.bind' h;obtain⟨r2,⟨_,h2⟩,_,h⟩:=aH.bind' h;obtain⟨v,⟨_,h3⟩,_,h⟩:=aH.bind' h;cases h;refine iR λπ a w R=> ?_;obtain⟨z,hz,hr⟩:=aUH h3 (λr l hr π a b w hx hy=>aYX hr π a b w hx hy) (h1.wM R) (h2.wM R) x y w;refine⟨z,?_,hr⟩;simp only[execOp,pY];rw[Sem.run_bind,hz];rfl
 .rename_i op t x pY;exact aSk pY h
 .rename_i s d x pY;exact aHE pY h
 .rename_i t x pY;exact aFi pY h
 .rename_i f fs aeo pY;exact aFj pY h
 .rename_i t x lo hi pY;exact aOt pY h
 .rename_i t x i pY;exact aCz pY h
 .rename_i t x i pY;exact aOq pY h
 .rename_i t x i pY;exact aCA pY h
 .rename_i t x i pY;exact aOs pY h
 .rename_i x i pY;exact aHF pY h
 .rename_i c pY
  obtain⟨args,⟨l0,h1⟩,_,h⟩:=aH.bind' h;split at h
  .rename_i b hc
   unfold biV at h;split at h
   .exact aUJ pY hc h1 rfl h
   .rename_i s x
    obtain⟨t,⟨_,h2⟩,_,h⟩:=aH.bind' h;obtain⟨_,⟨_,h3⟩,_,h⟩:=aH.bind' h;obtain⟨s',⟨_,h4⟩,_,h⟩:=aH.bind' h;obtain⟨x',⟨_,h5⟩,_,h⟩:=aH.bind' h;have h2:=h2.ey;have h3:=h3.cL
    have hts:c.argTypes=#[t,t]:=by
     split at h3
     .rename_i t1 t2 he
      have e:=oK h3;subst e;have e2:=a4b he;rw[e2] at h2;simp at h2
      rw[e2,h2]
     .cases h3
    exact aLm pY hc h1 rfl hts h4.asC h5.asC h
   .rename_i d x
    obtain⟨t,⟨_,h2⟩,_,h⟩:=aH.bind' h;obtain⟨d',⟨_,h4⟩,_,h⟩:=aH.bind' h;obtain⟨x',⟨_,h5⟩,_,h⟩:=aH.bind' h;exact aSn pY hc h1 rfl h2.ey h4.asC h5.asC h
   .exact aOy (λx y v l h=>aUK h) pY hc (a0H c.argTypes) h1 rfl h
   .exact aOy (λx y v l h=>aUL h) pY hc (a0I c.argTypes) h1 rfl h
   .cases h
  .rename_i fo hc
   obtain⟨fv,⟨_,h2⟩,_,h⟩:=aH.bind' h;obtain⟨fc,⟨_,h3⟩,_,h⟩:=aH.bind' h
   have aYV:∀(π:Pi) (x:Value),fv.rel π x->∃arr:Array Value,x=.func (.func fc.1) #[] arr/\bn (RV.rel π) fc.2 arr.toList:=by
    unfold a1H at h3;split at h3
    .cases h3;exact λπ x hx=>hx
    .cases h3;rintro π x ⟨B,s,q,e,hb,hx,hle⟩
     exact⟨_,hx,⟨⟨B,s,q,e,hb,rfl,hle⟩,trivial⟩⟩
    .cases h3
   exact aSp hE pY hc h1 h2 aYV h
  .cases h
 .cases h
end
end Go.Ab
namespace Go.Ab
variable [ax]
inductive aco (P:Program) (E:Env) (ops:List Oper) (o:Oper) (aI:Nat) (g:Gt):List Up->List Fp->Prop
 |run {us fp} (hg:o.guard=none) (h:aH (aop P E o aI) g us fp):aco P E ops o aI g us fp
 |aUb {us fp} (j:Nat) (want:Bool) (t:Tmp) (hg:o.guard=some (j,want)) (ht:OM ops j=some t) (hx:g.t t=.r (.c (.f (.b want)))) (h:aH (aop P E o aI) g us fp):aco P E ops o aI g us (.t t::fp)
 |skip (j:Nat) (want:Bool) (t:Tmp) (hg:o.guard=some (j,want)) (ht:OM ops j=some t) (hx:g.t t=.r (.c (.f (.b (!want))))∨g.t t=.tup []):aco P E ops o aI g (ee o.dst udf) [.t t]
omit [ax] in
theorem aco.local {P:Program}{E:Env}{ops:List Oper}{o:Oper}{aI:Nat}{g g':Gt}{us:List Up}{fp:List Fp}(h:aco P E ops o aI g us fp)(e:∀f∈fp,∀p,f.has p->g.at p=g'.at p):aco P E ops o aI g' us fp:=by
 cases h with
 |run hg h=>exact .run hg (h.local e)
 |aUb j want t hg ht hx h=>
  have e1:g.t t=g'.t t:=by simpa[Gt.at] using e (.t t) (by simp) (.t t) rfl
  exact .aUb j want t hg ht (e1▸hx) (h.local λf hf=>e f (by simp[hf]))
 |skip j want t hg ht hx=>
  have e1:g.t t=g'.t t:=by simpa[Gt.at] using e (.t t) (by simp) (.t t) rfl
  exact .skip j want t hg ht (e1▸hx)
inductive ED (P:Program) (E:Env) (ops:List Oper) (k:Nat):List Oper->St->List Tr->St->Prop
 |nil (s:St):ED P E ops k [] s [] s
 |cons {o rest s s1 s2 us fp tr dZ} (hd:∀d,o.dst=some d->d<s.tmps.length) (h:aco P E ops o s.heap.length s.gt us fp) (hus:tr.us=us) (hfp:∀f∈fp,f∈tr.fp) (ha:ka k us s=some s1) (ht:ED P E ops k rest s1 dZ s2):ED P E ops k (o::rest) s (tr::dZ) s2
omit [ax] in
theorem apK {s:St}{t:Nat}{v:AV}(h:s.tmp t=v):{s with tmps:=s.tmps.set t v}=s:=by
 have:s.tmps.set t v=s.tmps:=by
  apply List.ext_getElem?
  intro i;rw[aEK];by_cases e:t=i
  .subst e;by_cases hl:t<s.tmps.length
   .rw[if_pos rfl,if_pos hl];rw[kT hl];unfold St.tmp at h;rw[A5] at h;simp only[List.getD,kT hl,LM] at h;rw[h]
   .rw[if_pos rfl,if_neg hl,JN (by omega)]
  .rw[if_neg e]
 rw[this]
omit [ax] in
theorem al3 {k:Nat}:∀{us:List Up} {s s':St},ka k us s=some s'->s'.tmps.length=s.tmps.length
 | [],s,s',h=>by simp[ka] at h;subst h;rfl
 |u::us,s,s',h=>by
  simp only[ka] at h;split at h
  .rw[al3 h];cases u with
   |t i v=>simp[Up.app]
   |c b o v=>simp only[Up.app];split<;>first|rfl|(split<;>rfl)
   |_=>rfl
  .cases h
omit [ax] in
theorem L4 {P:Program}{E:Env}{nt k:Nat}{ops:List Oper}{ρ:Type}:∀{rest:List Oper} {s:St} {l:List Tr} {c:St->List Tr->Option ρ} {r:ρ},nt<=s.tmps.length->LR P E nt k ops rest s l c=some r->
  ∃s' dZ,ED P E ops k rest s dZ s'/\c s' (l++dZ)=some r
 | [],s,l,c,r,_,h=>⟨s,[],.nil s,by simpa[LR] using h⟩
 |o::rest,s,l,c,r,ZW,h=>by
  have go:∀(l0:List Fp) (hd:∀d,o.dst=some d->d<s.tmps.length),(∀us fp,aH (aop P E o s.heap.length) s.gt us fp->∃fp',aco P E ops o s.heap.length s.gt us fp'/\∀f∈fp',f∈fp.reverse++l0)->
    ((aop P E o s.heap.length).run s l0 λus fp=>match ka k us s with
     |some s'=>LR P E nt k ops rest s' (l++[⟨fp,us⟩]) c
     |none=>none)=some r->∃s' dZ,ED P E ops k (o::rest) s dZ s'/\c s' (l++dZ)=some r:=by
   intro l0 hd pY oH;obtain⟨us,fp,h1,h2⟩:=Rd.aSg oH;cases ha:ka k us s with
   |none=>rw[ha] at h2;cases h2
   |some s1=>
    rw[ha] at h2;obtain⟨s2,dZ,t1,t2⟩:=L4 (by rw[al3 ha];exact ZW) h2;obtain⟨fp',o1,o2⟩:=pY us fp h1;exact⟨s2,⟨fp.reverse++l0,us⟩::dZ,.cons hd o1 rfl o2 ha t1,by simpa using t2⟩
  have skip:∀(j:Nat) (want:Bool) (t:Tmp) (hd:∀d,o.dst=some d->d<s.tmps.length),o.guard=some (j,want)->OM ops j=some t->(s.gt.t t=.r (.c (.f (.b (!want))))∨s.gt.t t=.tup [])->
    (match ka k (ee o.dst udf) s with
     |some s'=>LR P E nt k ops rest s' (l++[⟨[.t t],ee o.dst udf⟩]) c
     |none=>none)=some r->∃s' dZ,ED P E ops k (o::rest) s dZ s'/\c s' (l++dZ)=some r:=by
   intro j want t hd hg ht hx oH;cases ha:ka k (ee o.dst udf) s with
   |none=>rw[ha] at oH;cases oH
   |some s1=>
    rw[ha] at oH;obtain⟨s2,dZ,t1,t2⟩:=L4 (by rw[al3 ha];exact ZW) oH;exact⟨s2,⟨[.t t],ee o.dst udf⟩::dZ,.cons hd (.skip j want t hg ht hx) rfl (by simp) ha t1,by simpa using t2⟩
  simp only[LR,aOj,aFa,WK] at h;split at h
  .cases h
  .rename_i hdk
   have hd:∀d,o.dst=some d->d<s.tmps.length:=λd hd=>by
    unfold aYB at hdk;rw[hd] at hdk;have h2:v6 d nt=true:=hdk;exact aEJ (uM.1 h2) ZW
   split at h
   .rename_i hg
    exact go [] hd (λus fp h=>⟨fp,.run hg h,by simp⟩) h
   .rename_i j want hg
    split at h
    .cases h
    .rename_i t ht
     split at h
     .rename_i x hx
      have goG:s.tmp t=.r (.c (.f (.b want)))->_:=λhx=>go [.t t] hd (λus fp h=>⟨.t t::fp,.aUb j want t hg ht hx h,by simp;intro a ha;exact .inl ha⟩)
      cases x with
      |true=>
       simp only[alY] at h;split at h
       .cases want with
        |true=>
         simp only at h;rw[apK hx] at h;exact goG hx h
        |false=>
         simp only at h;rw[apK hx] at h;exact skip j false t hd hg ht (.inl hx) h
       .cases h
      |false=>
       simp only[alY] at h;split at h
       .cases want with
        |true=>
         simp only at h;rw[apK hx] at h;exact skip j true t hd hg ht (.inl hx) h
        |false=>
         simp only at h;rw[apK hx] at h;exact goG hx h
       .cases h
     .rename_i hx
      exact skip j want t hd hg ht (.inr hx) h
     .cases h
omit [ax] in
theorem A8 {k b:Nat}{d:List Nat}{x:Nat}:x∈mark k b d↔x∈d∨(x=b/\b<k):=by
 unfold mark;split
 .rename_i h
  simp only[cq,Nat.blt_eq] at h;simp only[acg];constructor
  .rintro (rfl|h1)
   .exact .inr ⟨rfl,h.1⟩
   .exact .inl h1
  .rintro (h1| ⟨rfl,_⟩)
   .exact .inr h1
   .exact .inl rfl
 .rename_i h
  constructor
  .exact .inl
  .rintro (h1| ⟨rfl,hk⟩)
   .exact h1
   .have LA:v6 x k=true:=by simpa using hk
    have:d.any (ww x)=true:=by
     by_cases ha:d.any (ww x)=true
     .exact ha
     .rw[LA] at h;simp_all
    obtain⟨y,hy,he⟩:=ace.1 this;rw[oK he];exact hy
structure aLp (k:Nat)(us:List Up)(s s':St):Prop where
 heap:s'.heap.length=s.heap.length+cE us
 tmps:s'.tmps.length=s.tmps.length
 sub:∀b,b∈s.dz->b∈s'.dz
 perm:∀u∈us,u.perm k (·∈s'.dz)
 m7:∀b,b<k->b<s.heap.length->b∉s'.dz->s'.bS b=s.bS b
omit [ax] in
theorem Up.a0L {k:Nat}{u:Up}{s:St}(h:u.ok s=true):aLp k [u] s (u.app k s):=by
 cases u with
 |t i v=>exact⟨rfl,by simp[Up.app],λ_ h=>h,λu hu=>by simp at hu;subst hu;trivial,λ_ _ _ _=>rfl⟩
 |c b lo vs=>
  simp only[Up.ok] at h;split at h
  .rename_i bS hb
   split at h
   case h_2=>cases h
   rename_i p hp
   have e:(Up.c b lo vs).app k s={s with heap:=s.heap.set b (some p.2),dz:=mark k b s.dz}:=by simp[Up.app,hb,hp]
   rw[e];refine⟨by simp[cE],rfl,λx hx=>A8.2 (.inl hx),λu hu=> ?_,λb' fC hl hn=> ?_⟩
   .simp at hu;subst hu;exact λhk=>A8.2 (.inr ⟨rfl,hk⟩)
   .have oM:b'≠b:=λe=>hn (A8.2 (.inr ⟨e,e▸fC⟩))
    show((s.heap.set b _)[b']?).getD none=_;rw[avz (St.aLi hb),if_neg oM];rfl
  .cases h
 |new b bS=>
  have hb:b=s.heap.length:=oK h;refine⟨by simp[Up.app,cE],rfl,λ_ h=>h,λu hu=>by simp at hu;subst hu;trivial,λb' _ hl _=> ?_⟩;show((s.heap++[some bS])[b']?).getD none=_;rw[aOf,if_neg (by omega)];rfl
 |kill b=>
  have hb:b<s.heap.length:=by have h:=h;simp[Up.ok,v6] at h;omega
  refine⟨by simp[Up.app,cE],rfl,λx hx=>A8.2 (.inl hx),λu hu=> ?_,λb' fC hl hn=> ?_⟩
  .simp at hu;subst hu;exact λhk=>A8.2 (.inr ⟨rfl,hk⟩)
  .have oM:b'≠b:=λe=>hn (A8.2 (.inr ⟨e,e▸fC⟩))
   show((s.heap.set b none)[b']?).getD none=_;rw[avz hb,if_neg oM];rfl
omit [ax] in
theorem Up.aSr {k:Nat}{D D':Nat->Prop}(h:∀b,D b->D' b){u:Up}(p:u.perm k D):u.perm k D':=by
 cases u<;>first|trivial|exact λhk=>h _ (p hk)
omit [ax] in
theorem JR {k:Nat}:∀{us:List Up} {s s':St},ka k us s=some s'->aLp k us s s'
 | [],s,s',h=>by
  simp[ka] at h;subst h
  exact⟨rfl,rfl,λ_ h=>h,λu hu=>by simp at hu,λ_ _ _ _=>rfl⟩
 |u::us,s,s',h=>by
  simp only[ka] at h;split at h
  .rename_i hu
   have A:=Up.a0L (k:=k) hu;have B:=JR h;refine⟨?_,B.tmps.trans A.tmps,λb hb=>B.sub _ (A.sub b hb),λv hv=> ?_,λb hb hl hn=> ?_⟩
   .rw[B.heap,A.heap,show cE (u::us)=cE [u]+cE us from Fk [u] us];omega
   .rcases acg.1 hv with rfl|hv
    .exact Up.aSr B.sub (A.perm v (by simp))
    .exact B.perm v hv
   .have h1:=A.heap;rw[B.m7 b hb (by omega) hn,A.m7 b hb hl (λhx=>hn (B.sub b hx))]
  .cases h
end Go.Ab
namespace Go.Ab
variable [ax]
section
variable {P:Program} {E:Env} {X:Cx} {D:Nat->Prop}
theorem aFv {ops:Array Oper}{o:Oper}{j:Nat}{want:Bool}{t:Tmp}{g:Gt}{π:Pi}{a:Act}{w:World}(R:Rel X D π g a w)(hg:o.guard=some (j,want))(ht:OM ops.toList j=some t):
  (g.t t=.r (.c (.f (.b want)))->Region.wanted o (yielded ops a.tmps)=true)/\((g.t t=.r (.c (.f (.b (!want))))∨g.t t=.tup [])->Region.wanted o (yielded ops a.tmps)=false):=by
 have hs:(ops[j]?).bind (·.dst)=some t:=by
  unfold OM at ht;rw[<-Wz];exact ht
 have hr:=R.tm t
 have hy:∀b:Bool,a.tmps.getD t undef=.bool b->yielded ops a.tmps j=some b:=λb hb=>by
  unfold yielded;rw[hs];simp only[bR];rw[aqW] at hb;cases hx:a.tmps[t]? with
  |none=>rw[hx] at hb;simp[undef] at hb
  |some x=>rw[hx] at hb;simp at hb;subst hb;rfl
 refine⟨λh=> ?_,λh=> ?_⟩
 .rw[h] at hr;have:=hy want hr;simp[Region.wanted,hg,this]
 .rcases h with h|h
  .rw[h] at hr;have:=hy (!want) hr;simp only[Region.wanted,hg,this];cases want<;>rfl
  .rw[h] at hr;obtain⟨arr,hx,aOH⟩:=hr
   have:yielded ops a.tmps j=none:=by
    unfold yielded;rw[hs];simp only[bR];rw[aqW] at hx;cases hy:a.tmps[t]? with
    |none=>rfl
    |some x=>rw[hy] at hx;simp at hx;subst hx;rfl
   simp only[Region.wanted,hg,this];rfl
theorem aAy (hE:∀f F,E f=some F->Sound P f F){ops:Array Oper}{i:Nat}{o:Oper}(hi:ops[i]? =some o){aI:Nat}{us:List Up}{fp:List Fp}{g:Gt}(h:aco P E ops.toList o aI g us fp)
  {π:Pi}{a:Act}{w:World}(R:Rel X D π g a w)(hk:X.k<=aI)(hfr:∀b,aI<=b->b<aI+cE us->π b=none)(hd:∀d,o.dst=some d->d<X.N)(hp:∀u∈us,u.perm X.k D){K:Act->World->Prop}{Q:Exit->Act->World->Prop}
  (hn:∀a' w' π',Ext π π'->(∀b,π' b≠none->π b≠none∨(aI<=b/\b<aI+cE us))->Rel X D π' (cH us g) a' w'->K a' w'):wpOp P ops Q i K a w:=by
 unfold wpOp;rw[hi];simp only[];cases h with
 |run hg h=>
  have:Region.wanted o (yielded ops a.tmps)=true:=by simp[Region.wanted,hg]
  rw[if_pos this];exact .inl (aJr hE h π a w K Q R hk hfr hd hp hn)
 |aUb j want t hg ht hx h=>
  rw[if_pos ((aFv R hg ht).1 hx)];exact .inl (aJr hE h π a w K Q R hk hfr hd hp hn)
 |skip j want t hg ht hx=>
  rw[if_neg (by rw[(aFv R hg ht).2 hx];simp)];exact hn _ _ π (Ext.refl _) (λb h=>.inl h) (R.dst hd (atE π))
structure iK (X:Cx)(h0:List af)(π:Pi)(s:St)(a:Act)(w:World):Prop where
 rel:Rel X (·∈s.dz) π s.gt a w
 len:s.tmps.length=X.N
 dom:∀b,π b≠none->b<s.heap.length
 drt:∀b,b<X.k->b∉s.dz->s.bS b=h0[b]?
 hk:X.k<=s.heap.length
 dlt:∀b,b∈s.dz->b<X.k
theorem aLp.aYY {X:Cx}{h0:List af}{π π':Pi}{s s':St}{us:List Up}{a a':Act}{w w':World}(A:aLp X.k us s s')(R:iK X h0 π s a w)(hg:s'.gt=cH us s.gt)(hR:Rel X (·∈s'.dz) π' (cH us s.gt) a' w')
  (ky:∀b,π' b≠none->π b≠none∨(s.heap.length<=b/\b<s.heap.length+cE us))(hdl:∀b,b∈s'.dz->b<X.k):iK X h0 π' s' a' w':=by
 refine⟨hg▸hR,A.tmps.trans R.len,λb hb=> ?_,λb hb hn=> ?_,?_,hdl⟩
 .rw[A.heap];rcases ky b hb with h|h
  .have:=R.dom b h;omega
  .omega
 .rw[A.m7 b hb (aEJ hb R.hk) hn];exact R.drt b hb (λh=>hn (A.sub b h))
 .rw[A.heap];have:=R.hk;omega
omit [ax] in
theorem al4 {k:Nat}:∀{us:List Up} {s s':St},ka k us s=some s'->(∀b,b∈s.dz->b<k)->∀b,b∈s'.dz->b<k
 | [],s,s',h,hd,b,hb=>by simp[ka] at h;subst h;exact hd b hb
 |u::us,s,s',h,hd,b,hb=>by
  simp only[ka] at h;split at h
  .refine al4 h (λb hb=> ?_) b hb;cases u with
   |t i v=>exact hd b hb
   |c b' lo vs=>
    simp only[Up.app] at hb;split at hb
    .split at hb
     .rcases A8.1 hb with h| ⟨rfl,h⟩
      .exact hd b h
      .exact h
     .exact hd b hb
    .exact hd b hb
   |new b' bS=>exact hd b hb
   |kill b'=>
    rcases A8.1 hb with h| ⟨rfl,h⟩
    .exact hd b h
    .exact h
  .cases h
theorem aAz (hE:∀f F,E f=some F->Sound P f F){h0:List af}{ops:Array Oper}{Q:Exit->Act->World->Prop}{s':St}(hQ:∀a' w' π',iK X h0 π' s' a' w'->Q .normal a' w'):
  ∀{rest:List Oper} {i:Nat} {s:St} {dZ:List Tr} {π:Pi} {a:Act} {w:World},ED P E ops.toList X.k rest s dZ s'->(∀j,rest[j]? =ops[i+j]?)->iK X h0 π s a w->wpOps P ops Q (List.range' i rest.length) a w
 | [],i,s,dZ,π,a,w,h,_,R=>by
  cases h;exact hQ a w π R
 |o::rest,i,s,dZ,π,a,w,h,hr,R=>by
  cases h with|@cons _ _ _ s1 _ us fp tr dZ hd h hus hfp ha ht=>
  have A:=JR ha;have hg:=OQ ha;have hio:ops[i]? =some o:=by simpa using(hr 0).symm
  rw[LN,List.range'_succ,wpOps_cons];refine aAy hE hio h (R.rel.aLk λb hb=>A.sub b hb) R.hk (λb h1 _=> ?_) (λd h=>by rw[<-R.len];exact hd d h) A.perm (λa' w' π' hx ky hR=> ?_)
  .cases hb:π b with
   |none=>rfl
   |some p=>have:=R.dom b (by simp[hb]);omega
  .exact aAz hE hQ ht (λj=>by have:=hr (j+1);rw[show i+1+j=i+(j+1) by omega,<-this];simp) (A.aYY R hg hR ky (al4 ha R.dlt))
end
end Go.Ab
namespace Go.Ab
variable [ax]
def tch (us:List Up)(p:Pt):Prop:=∃u∈us,u.Hw p
def gl:List Tr->(Nat->Bool)->Nat->Gt->Gt
 | [],_,_,g=>g
 |tr::dZ,L,i,g=>gl dZ L (i+1) (if L i=true then cH tr.us g else g)
omit [ax] in
theorem aLq {p:Pt}:∀{dZ:List Tr} {L L':Nat->Bool} {i:Nat} {g g':Gt},(∀(j:Nat) tr,dZ[j]? =some tr->L (i+j)≠L' (i+j)->¬tch tr.us p)->g.at p=g'.at p->(gl dZ L i g).at p=(gl dZ L' i g').at p
 | [],_,_,_,_,_,_,h=>h
 |tr::dZ,L,L',i,g,g',hd,h=>by
  simp only[gl];refine aLq (λj OS hj oM=>hd (j+1) OS (by simpa using hj) (by rw[show i+(j+1)=i+1+j by omega];exact oM)) ?_;have h0:=hd 0 tr rfl;rw[kC] at h0;by_cases h1:L i=true<;>by_cases h2:L' i=true
  .rw[if_pos h1,if_pos h2];exact agJ (.inr h)
  .rw[if_pos h1,if_neg h2];have:=h0 (by rw[h1];exact λe=>h2 e.symm);rw[rH λu hu ht=>this ⟨u,hu,ht⟩];exact h
  .rw[if_neg h1,if_pos h2];have:=h0 (by rw[h2];exact h1);rw[rH λu hu ht=>this ⟨u,hu,ht⟩];exact h
  .rw[if_neg h1,if_neg h2];exact h
omit [ax] in
theorem aFw:∀(a b:List Tr) (L:Nat->Bool) (i:Nat) (g:Gt),gl (a++b) L i g=gl b L (i+a.length) (gl a L i g)
 | [],b,L,i,g=>by simp[gl]
 |x::a,b,L,i,g=>by
  simp only[List.cons_append,gl,LN];rw[aFw a b,show i+1+a.length=i+(a.length+1) by omega]
omit [ax] in
theorem apL:∀{dZ:List Tr} {L L':Nat->Bool} {i:Nat} {g:Gt},(∀j,j<dZ.length->L (i+j)=L' (i+j))->gl dZ L i g=gl dZ L' i g
 | [],_,_,_,_,_=>rfl
 |tr::dZ,L,L',i,g,h=>by
  simp only[gl];have:=h 0 (by simp);rw[kC] at this;rw[this];exact apL λj hj=>by have:=h (j+1) (by simp;omega);rwa [show i+(j+1)=i+1+j by omega] at this
omit [ax] in
theorem avE:∀{dZ:List Tr} {L:Nat->Bool} {i:Nat} {g:Gt},(∀j,j<dZ.length->L (i+j)=false)->gl dZ L i g=g
 | [],_,_,_,_=>rfl
 |tr::dZ,L,i,g,h=>by
  simp only[gl];have:=h 0 (by simp);rw[kC] at this;rw[this];exact avE λj hj=>by have:=h (j+1) (by simp;omega);rwa [show i+(j+1)=i+1+j by omega] at this
omit [ax] in
theorem aYZ {dZ:List Tr}{L L':Nat->Bool}{i:Nat}{tr:Tr}{g:Gt}(hi:dZ[i]? =some tr)(h0:L i=false)(h1:L' i=true)(hL:∀j,j≠i->L' j=L j)
  (hap:∀(j:Nat) OS,i<j->dZ[j]? =some OS->L j=true->∀p,tch tr.us p->¬tch OS.us p):gl dZ L' 0 g=cH tr.us (gl dZ L 0 g):=by
 have oo:=(me.1 hi).1
 have a0M:dZ=dZ.take i++(tr::dZ.drop (i+1)):=by
  have e:dZ[i]=tr:=(me.1 hi).2;rw[<-e,List.getElem_cons_drop,List.take_append_drop]
 have hlen:(dZ.take i).length=i:=by simp;omega
 have key:∀M:Nat->Bool,gl dZ M 0 g=gl (dZ.drop (i+1)) M (i+1) (if M i=true then cH tr.us (gl (dZ.take i) M 0 g) else gl (dZ.take i) M 0 g):=λM=>by
  conv=>lhs;rw[a0M]
  rw[aFw,hlen,hI];rfl
 rw[key L',key L,if_pos h1,if_neg (by rw[h0];simp)];have e1:gl (dZ.take i) L' 0 g=gl (dZ.take i) L 0 g:=apL λj hj=>by rw[hlen] at hj;exact hL _ (by omega)
 rw[e1];have e2:∀h,gl (dZ.drop (i+1)) L' (i+1) h=gl (dZ.drop (i+1)) L (i+1) h:=λh=>apL λj _=>hL _ (by omega)
 rw[e2];apply Gt.aT2
 intro p
 have a2I:∀(j:Nat) OS,(dZ.drop (i+1))[j]? =some OS->L (i+1+j)=true->∀p,tch tr.us p->¬tch OS.us p:=λj OS hj hl p hp=>by
  rw[Te] at hj;exact hap (i+1+j) OS (by omega) hj hl p hp
 by_cases hp:tch tr.us p
 .have a1:=aLq (p:=p) (dZ:=dZ.drop (i+1)) (L:=L) (L':=λ_=>false) (i:=i+1) (g:=cH tr.us (gl (dZ.take i) L 0 g)) (g':=cH tr.us (gl (dZ.take i) L 0 g)) (λj OS hj oM=>a2I j OS hj (by simpa using oM) p hp) rfl;rw[avE (L:=λ_=>false) (λ_ _=>rfl)] at a1;rw[a1];exact agJ (.inl hp)
 .have ZW:∀u∈tr.us,¬u.Hw p:=λu hu ht=>hp ⟨u,hu,ht⟩
  rw[rH ZW];exact aLq (λj OS _ oM=>absurd rfl oM) (rH ZW)
omit [ax] in
theorem aFx (acc:List Nat)(i:Nat):∀(l:List Edge) (m:Nat),Nat.testBit (l.foldl (aSa acc) m) i=true->
  Nat.testBit m i=true∨∃e∈l,Region.binds .any e=true/\(e.on=i∨Nat.testBit (acc.getD e.on 0) i=true)
 | [],m,h=>.inl h
 |e::l,m,h=>by
  rw[List.foldl_cons] at h;rcases aFx acc i l _ h with h1| ⟨e',he',h1⟩
  .unfold aSa at h1;cases hb:Region.binds .any e with
   |false=>rw[hb] at h1;exact .inl h1
   |true=>
    rw[hb] at h1;simp only[Nat.testBit_or,alJ,Nat.testBit_two_pow,mf] at h1;rcases h1 with(h1|h1)|h1
    .exact .inl h1
    .exact .inr ⟨e,by simp,hb,.inl h1⟩
    .exact .inr ⟨e,by simp,hb,.inr h1⟩
  .exact .inr ⟨e',by simp[he'],h1⟩
omit [ax] in
theorem aFy:∀(l:List Oper) (acc:List Nat),∃t,LQ l acc=acc++t
 | [],acc=>⟨[],by simp[LQ]⟩
 |o::l,acc=>by
  obtain⟨t,ht⟩:=aFy l (acc++[mask acc o]);exact⟨_,by rw[LQ,ht,ayl]⟩
omit [ax] in
theorem aFz {i:Nat}:∀(l:List Oper) (acc:List Nat) (j:Nat) (o:Oper),l[j]? =some o->(∀e∈o.after.toList,Region.binds .any e=true->e.on<acc.length+j)->Nat.testBit ((LQ l acc).getD (acc.length+j) 0) i=true->
  ∃e∈o.after.toList,Region.binds .any e=true/\(e.on=i∨(e.on<acc.length+j/\Nat.testBit ((LQ l acc).getD e.on 0) i=true))
 | [],_,j,o,h,_,_=>by simp at h
 |o0::l,acc,0,o,h,he,hb=>by
  simp at h;subst h
  obtain⟨t,ht⟩:=aFy l (acc++[mask acc o0]);have hm:LQ (o0::l) acc=acc++[mask acc o0]++t:=by rw[LQ,ht]
  rw[hm] at hb ⊢;simp only[kC,ayl,List.getD,aen (eT _),Nat.sub_self] at hb;simp only[List.singleton_append,aEF,LM] at hb;rcases aFx acc i _ 0 hb with h0| ⟨e,he',hbd,h1⟩
  .simp at h0
  .have oo:=he e he' hbd;rw[kC] at oo;refine⟨e,he',hbd,h1.imp id λh2=>⟨by omega,?_⟩⟩;rw[ayl];simp only[List.getD] at h2 ⊢;rw[UT oo];exact h2
 |o0::l,acc,j+1,o,h,he,hb=>by
  have e1:acc.length+(j+1)=(acc++[mask acc o0]).length+j:=by simp;omega
  rw[LQ] at hb ⊢;rw[e1] at hb he ⊢;exact aFz l _ j o (by simpa using h) he hb
omit [ax] in
theorem acp:∀{l:List Oper} {i0:Nat},RG l i0=true->∀(j:Nat) o,l[j]? =some o->∀e∈o.after.toList,Region.binds .any e=true->e.on<i0+j
 | [],_,_,j,o,h,_,_,_=>by simp at h
 |o0::l,i0,hk,0,o,h,e,he,hb=>by
  simp at h;subst h
  simp only[RG,cq] at hk;have:=ayn.1 hk.1 e he;rw[hb] at this;simp only[LO,Bool.false_or,Nat.blt_eq] at this;omega
 |o0::l,i0,hk,j+1,o,h,e,he,hb=>by
  simp only[RG,cq] at hk;have:=acp hk.2 j o (by simpa using h) e he hb;omega
omit [ax] in
theorem acq {ms:List Nat}:∀{l:List Tr} {j0:Nat},RF ms l j0=true->∀(i j:Nat) x y,i<j->l[i]? =some x->l[j]? =some y->Nat.testBit (ms.getD (j0+j) 0) (j0+i)=true∨x.agA y=false
 | [],_,_,i,j,x,y,_,h,_=>by simp at h
 |x0::l,j0,hk,0,j,x,y,hij,hx,hy=>by
  simp at hx;subst hx
  simp only[RF,cq] at hk;obtain⟨j',rfl⟩:∃j',j=j'+1:=⟨j-1,by omega⟩;have hy':l[j']? =some y:=by simpa using hy
  have hm:(y,j')∈l.zipIdx:=by
   rw[ayj];exact⟨j',by simp[aEI,hy']⟩
  have:=ayn.1 hk.1 (y,j') hm;simp only[alJ,oL] at this;rw[show j0+(j'+1)=j0+1+j' by omega];exact this
 |x0::l,j0,hk,i+1,j,x,y,hij,hx,hy=>by
  simp only[RF,cq] at hk;obtain⟨j',rfl⟩:∃j',j=j'+1:=⟨j-1,by omega⟩;have:=acq hk.2 i j' x y (by omega) (by simpa using hx) (by simpa using hy);rw[show j0+(j'+1)=j0+1+j' by omega,show j0+(i+1)=j0+1+i by omega];exact this
omit [ax] in
theorem aUN {x y:Tr}{p:Pt}{f:Fp}(hf:f∈y.fp)(hp:f.has p)(ht:tch x.us p):x.agA y=true/\y.agA x=true:=by
 obtain⟨u,hu,ht⟩:=ht;have h:=Fp.aE3 hp ht;constructor
 .unfold Tr.agA;rw[alJ];left;refine ace.2 ⟨u,hu,?_⟩;rw[alJ];left;exact ace.2 ⟨f,hf,h⟩
 .unfold Tr.agA;rw[alJ];right;refine ace.2 ⟨u,hu,?_⟩;exact ace.2 ⟨f,hf,h⟩
omit [ax] in
theorem aUO {x y:Tr}{p:Pt}(h1:tch x.us p)(h2:tch y.us p):x.agA y=true:=by
 obtain⟨u,hu,ht⟩:=h1;obtain⟨v,hv,hs⟩:=h2;unfold Tr.agA;rw[alJ];left;refine ace.2 ⟨u,hu,?_⟩;rw[alJ];right;exact ace.2 ⟨v,hv,Up.aE3 hs ht⟩
def AF (dZ:List Tr):List Up:=dZ.flatMap Tr.us
omit [ax] in
theorem aSs:∀(dZ:List Tr) (i j0:Nat) (g:Gt),gl dZ (λj=>decide (j<j0+i)) j0 g=cH (AF (dZ.take i)) g
 | [],i,j0,g=>by simp[gl,AF,cH]
 |tr::dZ,0,j0,g=>by
  rw[avE (λj _=>by simp)];simp[AF,cH]
 |tr::dZ,i+1,j0,g=>by
  simp only[gl];rw[if_pos (by simp)];have:=aSs dZ i (j0+1) (cH tr.us g);rw[show j0+1+i=j0+(i+1) by omega] at this;rw[this];simp[AF,cH]
omit [ax] in
theorem a0N {dZ:List Tr}{L:Nat->Bool}{g:Gt}(h:∀i,i<dZ.length->L i=true):gl dZ L 0 g=cH (AF dZ) g:=by
 have:=aSs dZ dZ.length 0 g;rw[List.take_length] at this;rw[<-this];exact apL λj hj=>by simp[h j hj];omega
omit [ax] in
theorem al5 {k:Nat}:∀{us vs:List Up} {s s1 s2:St},ka k us s=some s1->ka k vs s1=some s2->ka k (us++vs) s=some s2
 | [],vs,s,s1,s2,h,h'=>by simp[ka] at h;subst h;exact h'
 |u::us,vs,s,s1,s2,h,h'=>by
  simp only[ka,List.cons_append] at h ⊢;split at h
  .rename_i hu;exact al5 h h'
  .cases h
omit [ax] in
theorem ED.app {P:Program}{E:Env}{ops:List Oper}{k:Nat}:∀{rest:List Oper} {s s':St} {dZ:List Tr},ED P E ops k rest s dZ s'->ka k (AF dZ) s=some s'/\dZ.length=rest.length
 | [],s,s',dZ,h=>by cases h;exact⟨rfl,rfl⟩
 |o::rest,s,s',dZ,h=>by
  cases h with|@cons _ _ _ s1 _ us fp tr dZ hd h hus hfp ha ht=>
  obtain⟨h1,h2⟩:=ht.app;refine⟨?_,by simp[h2]⟩;subst hus;show ka k (tr.us++AF dZ) s=some s';exact al5 ha h1
omit [ax] in
theorem ED.at {P:Program}{E:Env}{ops:List Oper}{k:Nat}:∀{rest:List Oper} {s s':St} {dZ:List Tr},ED P E ops k rest s dZ s'->∀(i:Nat) o,rest[i]? =some o->∃tr fp,dZ[i]? =some tr/\(∀f∈fp,f∈tr.fp)/\
   aco P E ops o (s.heap.length+cE (AF (dZ.take i))) (cH (AF (dZ.take i)) s.gt) tr.us fp/\(∀d,o.dst=some d->d<s.tmps.length)
 | [],_,_,_,_,i,o,h=>by simp at h
 |o0::rest,s,s',dZ,h,i,o,ho=>by
  cases h with|@cons _ _ _ s1 _ us fp tr dZ hd h hus hfp ha ht=>
  subst hus;cases i with
  |zero=>
   simp at ho;subst ho
   exact⟨tr,fp,rfl,hfp,by simpa[AF,cE,cH] using h,hd⟩
  |succ i=>
   obtain⟨OS,fp',e1,e2,e3,e4⟩:=ht.at i o (by simpa using ho);have A:=JR ha;refine⟨OS,fp',by simpa using e1,e2,?_,λd h=>by rw[<-A.tmps];exact e4 d h⟩
   have hc:cE (AF (List.take (i+1) (tr::dZ)))=cE tr.us+cE (AF (dZ.take i)):=by
    simp only[List.take_succ_cons,AF,List.flatMap_cons,Fk]
   have hg:cH (AF (List.take (i+1) (tr::dZ))) s.gt=cH (AF (dZ.take i)) s1.gt:=by
    simp only[List.take_succ_cons,AF,List.flatMap_cons,QI];rw[OQ ha]
   rw[hc,hg,<-Cc,<-A.heap];exact e3
end Go.Ab
namespace Go.Ab
variable [ax]
section
variable {P:Program} {E:Env} {X:Cx}
omit [ax] in
theorem ayF (dZ:List Tr){i j:Nat}(h:i<=j):cE (AF (dZ.take i))<=cE (AF (dZ.take j)):=by
 obtain⟨d,rfl⟩:∃d,j=i+d:=⟨j-i,by omega⟩;rw[List.take_add,AF,AF,List.flatMap_append,Fk];omega
omit [ax] in
theorem WQ {dZ:List Tr}{i:Nat}{tr:Tr}(h:dZ[i]? =some tr):cE (AF (dZ.take (i+1)))=cE (AF (dZ.take i))+cE tr.us:=by
 have oo:=(me.1 h).1;have he:=(me.1 h).2;rw[List.take_succ_eq_append_getElem oo,he,AF,AF,List.flatMap_append,Fk];simp
omit [ax] in
theorem aq4 {f f':Nat->Bool}{i:Nat}(h1:f i=true)(h2:f' i=false)(h:∀j,j≠i->f' j=f j):∀n,i<n->(rx n).countP f=(rx n).countP f'+1
 |0,hn=>by omega
 |n+1,hn=>by
  rw[List.range_succ,List.countP_append,List.countP_append];by_cases e:i=n
  .subst e
   have:(rx i).countP f=(rx i).countP f':=by
    apply List.countP_congr
    intro j hj;rw[h j (by have:=List.mem_range.1 hj;omega)]
   rw[this];simp[h1,h2]
  .rw[aq4 h1 h2 h n (by omega),List.countP_singleton,List.countP_singleton,h n (Ne.symm e)];omega
theorem wpAny_all (hE:∀f F,E f=some F->Sound P f F){h0:List af}{ops:Array Oper}{Q:Exit->Act->World->Prop}{s s':St}{dZ:List Tr}(hT:ED P E ops.toList X.k ops.toList s dZ s')
  (he:RG ops.toList 0=true)(hp:RF (LQ ops.toList []) dZ 0=true)(hlen:s.tmps.length=X.N)(hsk:X.k<=s.heap.length)(hdl:∀b,b∈s.dz->b<X.k)(hdr:∀b,b<X.k->b∉s.dz->s.bS b=h0[b]?)
  (hQ:∀a' w' π',iK X h0 π' s' a' w'->Q .normal a' w'):
  ∀(fuel:Nat) (fB:Array Bool) (π:Pi) (a:Act) (w:World),fB.size=ops.size->(rx ops.size).countP (λi=> !fB.getD i false)=fuel->
   (∀(j:Nat) o,ops[j]? =some o->fB.getD j false=true->∀e∈o.after,Region.binds .any e=true->fB.getD e.on false=true)->
   Rel X (·∈s'.dz) π (gl dZ (λi=>fB.getD i false) 0 s.gt) a w->
   (∀b,π b≠none->b<s.heap.length∨∃(i:Nat) (tr:Tr),dZ[i]? =some tr/\fB.getD i false=true/\s.heap.length+cE (AF (dZ.take i))<=b/\b<s.heap.length+cE (AF (dZ.take i))+cE tr.us)->
   wpAny P .any ops Q fuel fB a w:=by
 obtain⟨aar,htl⟩:=hT.app;have A:=JR aar;have hn:dZ.length=ops.size:=by rw[htl];simp
 have bef:∀(fB:Array Bool),(∀(j:Nat) o,ops[j]? =some o->fB.getD j false=true->∀e∈o.after,Region.binds .any e=true->fB.getD e.on false=true)->
   ∀(j:Nat) (o:Oper) (i:Nat),ops[j]? =some o->(∀e∈o.after,Region.binds .any e=true->fB.getD e.on false=true)->Nat.testBit ((LQ ops.toList []).getD j 0) i=true->fB.getD i false=true:=by
  intro fB Ej j;induction j using Nat.strongRecOn with
  |_ j ih=>
   intro o i ho aUc hb;have ho':ops.toList[j]? =some o:=by rw[Wz];exact ho
   obtain⟨e,he1,he2,h1⟩:=aFz ops.toList [] j o ho' (λe h1 h2=>by have:=acp he j o ho' e h1 h2;simpa using this) (by simpa using hb);have hl:=aUc e (Array.mem_toList_iff.1 he1) he2;rcases h1 with rfl| ⟨oo,h1⟩
   .exact hl
   .simp only[List.length_nil,hI] at oo;have hjs:j<ops.size:=(Array.getElem?_eq_some_iff.1 ho).1;have hoe:ops[e.on]? =some (ops[e.on]'(by omega)):=ai8 _;exact ih e.on oo _ i hoe (Ej e.on _ hoe hl) h1
 intro fuel;induction fuel with
 |zero=>
  intro fB π a w yN aT8 Ej R ky
  have aOH:∀i,i<ops.size->fB.getD i false=true:=λi hi=>by
   have:=List.countP_eq_zero.1 aT8 i (List.mem_range.2 hi);simpa using this
  refine⟨?_,hQ a w π ?_⟩
  .unfold Region.ready;rw[List.filter_eq_nil_iff];intro i hi;have hi:=List.mem_range.1 hi;have:=aOH i hi
   have e:fB.getD i true=true:=by
    simp only[aqW,ai8 (show i<fB.size by omega),LM] at this ⊢;exact this
   rw[e];simp
  .rw[a0N (λi hi=>aOH i (by omega))] at R;refine⟨(OQ aar)▸R,A.tmps.trans hlen,λb hb=> ?_,λb hb hn'=> ?_,?_,al4 aar hdl⟩
   .rw[A.heap];rcases ky b hb with h| ⟨i,tr,htr,_,_,h2⟩
    .omega
    .have h3:=WQ htr;have h4:=ayF dZ (show i+1<=dZ.length from(me.1 htr).1);rw[List.take_length] at h4;omega
   .rw[A.m7 b hb (by omega) hn'];exact hdr b hb (λh=>hn' (A.sub b h))
   .rw[A.heap];omega
 |succ fuel ih=>
  intro fB π a w yN aT8 Ej R ky
  have a1Q:∀i,i<ops.size->fB.getD i true=fB.getD i false:=λi hi=>by
   simp only[aqW,ai8 (show i<fB.size by omega),LM]
  refine⟨λhr=> ?_,λi hi=> ?_⟩
  .exfalso
   have aOH:∀i,i<ops.size->fB.getD i false=true:=by
    intro i;induction i using Nat.strongRecOn with
    |_ i ihi=>
     intro hi;cases hl:fB.getD i false with
     |true=>rfl
     |false=>
      have ho:ops[i]? =some (ops[i]'hi):=ai8 _
      have a1R:i∈Region.ready .any ops fB:=mem_ready.2 ⟨by rw[a1Q i hi];exact hl,_,ho,λe he1 he2=>by
       have oo:=acp he i _ (by rw[Wz];exact ho) e (Array.mem_toList_iff.2 he1) he2;exact ihi e.on (by omega) (by omega)⟩
      rw[hr] at a1R;cases a1R
   have:(rx ops.size).countP (λi=> !fB.getD i false)=0:=List.countP_eq_zero.2 λi hi=>by rw[aOH i (List.mem_range.1 hi)];simp
   omega
  .obtain⟨hun,o,ho,aUc⟩:=mem_ready.1 hi;have his:i<ops.size:=(Array.getElem?_eq_some_iff.1 ho).1;have aOI:fB.getD i false=false:=by rw[<-a1Q i his];exact hun
   obtain⟨tr,fp,htr,hfp,pY,hd⟩:=hT.at i o (by rw[Wz];exact ho)
   have hG:cH (AF (dZ.take i)) s.gt=gl dZ (λj=>decide (j<i)) 0 s.gt:=by
    have:=aSs dZ i 0 s.gt;simp only[hI] at this;exact this.symm
   rw[hG] at pY
   have aY0:∀(j:Nat) OS,i<j->dZ[j]? =some OS->fB.getD j false=true->tr.agA OS=true->False:=λj OS hij hj hl hc=>by
    rcases acq hp i j tr OS hij htr hj with h|h
    .simp only[hI] at h;have hjs:j<ops.size:=by rw[<-hn];exact(me.1 hj).1
     have hoj:ops[j]? =some (ops[j]'hjs):=ai8 _;have:=bef fB Ej j _ i hoj (Ej j _ hoj hl) h;rw[aOI] at this;cases this
    .rw[hc] at h;cases h
   have a4h:=pY.local (g':=gl dZ (λj=>fB.getD j false) 0 s.gt) (λf hf p a4i=>by
    refine aLq (λj OS hj oM=> ?_) rfl;simp only[hI] at oM;intro ht;have hc:=aUN (hfp f hf) a4i ht;rcases agr j i with hji|hji|hji
    .have hlj:fB.getD j false=false:=by
      cases h:fB.getD j false with
      |false=>rfl
      |true=>exact absurd (by rw[h];simp[hji]) oM
     rcases acq hp j i OS tr hji hj htr with h|h
     .simp only[hI] at h;have:=bef fB Ej i o j ho aUc h;rw[hlj] at this;cases this
     .rw[hc.1] at h;cases h
    .subst hji;exact oM (by rw[aOI];simp)
    .have hlj:fB.getD j false=true:=by
      cases h:fB.getD j false with
      |true=>rfl
      |false=>exact absurd (by rw[h];simp;omega) oM
     exact aY0 j OS hji hj hlj hc.2)
   have a2J:∀u∈tr.us,u∈AF dZ:=λu hu=>List.mem_flatMap.2 ⟨tr,List.mem_of_getElem? htr,hu⟩
   refine aAy hE ho a4h R (by omega) (λb h1 h2=> ?_) (λd h=>by rw[<-hlen];exact hd d h) (λu hu=>A.perm u (a2J u hu)) (λa' w' π' hx a2K hR=> ?_)
   .cases hb:π b with
    |none=>rfl
    |some p=>
     exfalso
     rcases ky b (by simp[hb]) with h| ⟨i',OS,aY1,hl',h3,h4⟩
     .omega
     .rcases agr i' i with hii|hii|hii
      .have e1:=WQ aY1;have e2:=ayF dZ (show i'+1<=i from hii);omega
      .subst hii;rw[aOI] at hl';cases hl'
      .have e1:=WQ htr;have e2:=ayF dZ (show i+1<=i' from hii);omega
   .have aFA:∀j,(fB.setIfInBounds i true).getD j false=if j=i then true else fB.getD j false:=λj=>by
     simp only[aqW];by_cases e:j=i
     .subst e;simp[show j<fB.size by omega]
     .rw[if_neg e,aTI (Ne.symm e)]
    refine ih (fB.setIfInBounds i true) π' a' w' (by simp[yN]) ?_ (λj oj hoj hl e he1 he2=> ?_) ?_ (λb hb=> ?_)
    .have:=aq4 (f:=λi=> !fB.getD i false) (f':=λj=> !(fB.setIfInBounds i true).getD j false) (i:=i) (by simp[aOI]) (by simp only[aFA];simp) (λj hj=>by simp only[aFA,if_neg hj]) ops.size his;omega
    .rw[aFA] at hl ⊢;by_cases e1:e.on=i
     .rw[if_pos e1]
     .rw[if_neg e1];by_cases e2:j=i
      .subst e2;rw[ho] at hoj;cases hoj;exact aUc e he1 he2
      .rw[if_neg e2] at hl;exact Ej j oj hoj hl e he1 he2
    .rw[aYZ (L:=λj=>fB.getD j false) (L':=λj=>(fB.setIfInBounds i true).getD j false) htr aOI (by simp only[aFA];simp) (λj hj=>by simp only[aFA,if_neg hj])
      (λj OS hij hj hl p Hy hp2=>aY0 j OS hij hj hl (aUO Hy hp2))]
     exact hR
    .rcases a2K b hb with h| ⟨h1,h2⟩
     .rcases ky b h with h| ⟨i',OS,aY1,hl',h3,h4⟩
      .exact .inl h
      .refine .inr ⟨i',OS,aY1,?_,h3,h4⟩;rw[aFA];split<;>first|rfl|exact hl'
     .exact .inr ⟨i,tr,htr,by rw[aFA,if_pos rfl],h1,h2⟩
theorem aLr (hE:∀f F,E f=some F->Sound P f F)(hm:P.follows .mixedOrders=true){h0:List af}{id:Nat}{ops:Array Oper}{Q:Exit->Act->World->Prop}{s s':St}{dZ:List Tr}(hT:ED P E ops.toList X.k ops.toList s dZ s')
  (he:RG ops.toList 0=true)(hp:RF (LQ ops.toList []) dZ 0=true){π:Pi}{a:Act}{w:World}(R:iK X h0 π s a w)(hQ:∀a' w' π',iK X h0 π' s' a' w'->Q .normal a' w'):(Code.region id ops true).wp P Q a w:=by
 refine wp_region_any hm ?_
 have hf:∀i,(Array.replicate ops.size false).getD i false=false:=λi=>by
  simp only[aqW,Array.getElem?_replicate];split<;>rfl
 have A:=JR hT.app.1;refine wpAny_all hE hT he hp R.len R.hk R.dlt R.drt hQ ops.size _ π a _ (by simp) ?_ (λj o _ hl=>by rw[hf] at hl;cases hl) ?_ (λb hb=>.inl (R.dom b hb))
 .rw[List.countP_eq_length.2 λi _=>by rw[hf];rfl];simp
 .rw[avE (λj _=>hf _)];exact(R.rel.aLk λb hb=>A.sub b hb).drew
theorem aLs (hE:∀f F,E f=some F->Sound P f F){h0:List af}{id:Nat}{ops:Array Oper}{Q:Exit->Act->World->Prop}{s s':St}{dZ:List Tr}(hT:ED P E ops.toList X.k ops.toList s dZ s')
  {π:Pi}{a:Act}{w:World}(R:iK X h0 π s a w)(hQ:∀a' w' π',iK X h0 π' s' a' w'->Q .normal a' w'):(Code.region id ops false).wp P Q a w:=by
 refine wp_region ?_;have:=aAz hE hQ hT (i:=0) (λj=>by simp) R;rw[List.range_eq_range'];simpa using this
end
end Go.Ab
namespace Go.Ab
variable [ax]
def L5 (π:Pi)(H:Nat)(m:List Nat):Pi:=λb=>if b<H then π b else match m[b-H]? with
 |some b0=>π b0
 |none=>none
def AG (m m':List Nat):Prop:=∃t,m'=m++t
omit [ax] in
theorem AG.refl (m:List Nat):AG m m:=⟨[],by simp⟩
omit [ax] in
theorem AG.trans {a b c:List Nat}(h:AG a b)(k:AG b c):AG a c:=by
 obtain⟨t,rfl⟩:=h;obtain⟨u,rfl⟩:=k;exact⟨t++u,by simp⟩
omit [ax] in
theorem AG.get {m m':List Nat}(h:AG m m'){j b:Nat}(hj:m[j]? =some b):m'[j]? =some b:=by
 obtain⟨t,rfl⟩:=h;rw[UT (me.1 hj).1,hj]
omit [ax] in
theorem AG.ext {π:Pi}{H:Nat}{m m':List Nat}(h:AG m m'):Ext (L5 π H m) (L5 π H m'):=by
 intro b p hp;unfold L5 at hp ⊢;split
 .rename_i hb;rw[if_pos hb] at hp;exact hp
 .rename_i hb
  rw[if_neg hb] at hp;cases hj:m[b-H]? with
  |none=>rw[hj] at hp;cases hp
  |some b0=>rw[h.get hj];rw[hj] at hp;exact hp
def MOk (H:Nat)(m:List Nat):Prop:=m.Nodup/\∀b∈m,H<=b
omit [ax] in
theorem aJs {b:Nat}:∀{m:List Nat} {i0 i:Nat},idx b m i0=some i->∃k,i=i0+k/\m[k]? =some b
 | [],_,_,h=>by simp[idx] at h
 |x::m,i0,i,h=>by
  simp only[idx] at h;split at h
  .rename_i hx
   cases h;exact⟨0,rfl,by simp[oK hx]⟩
  .obtain⟨k,h1,h2⟩:=aJs h;exact⟨k+1,by omega,by simpa using h2⟩
omit [ax] in
theorem aJt {b:Nat}:∀{m:List Nat} {i0:Nat},idx b m i0=none->b∉m
 | [],_,_=>by simp
 |x::m,i0,h=>by
  simp only[idx] at h;split at h
  .cases h
  .rename_i hx
   have:=aJt h;simp only[acg,not_or];exact⟨λe=>by subst e;simp at hx,this⟩
omit [ax] in
theorem al6 {H b:Nat}{m:List Nat}:AG m (alS H b m).2/\(MOk H m->MOk H (alS H b m).2)/\∀π,L5 π H (alS H b m).2 (alS H b m).1=π b:=by
 unfold alS;split
 .rename_i hb
  have hb:=yb hb;split
  .rename_i i hi
   obtain⟨k,h1,h2⟩:=aJs hi;refine⟨AG.refl _,id,λπ=> ?_⟩;unfold L5;rw[if_neg (by omega),show H+i-H=k by omega,h2]
  .rename_i hi
   have hnm:=aJt hi;refine⟨⟨_,rfl⟩,λok=>⟨?_,λx hx=> ?_⟩,λπ=> ?_⟩
   .rw[List.nodup_append];exact⟨ok.1,by simp,λx hx y hy e=>by simp at hy;subst hy;subst e;exact hnm hx⟩
   .rcases List.mem_append.1 hx with h|h
    .exact ok.2 x h
    .simp at h;omega
   .unfold L5;rw[if_neg (by omega),show H+m.length-H=m.length by omega];simp
 .rename_i hb
  have hb:b<H:=by
   rcases pQ b H with h|h
   .exact h
   .have:=aEH h;simp[this] at hb
  exact⟨AG.refl _,id,λπ=>by unfold L5;rw[if_pos hb]⟩
structure Gc {α:Type}(R:Pi->α->Value->Prop)(H:Nat)(a:α)(m:List Nat)(r:α×List Nat):Prop where
 pre:AG m r.2
 ok:MOk H m->MOk H r.2
 rel:∀π x,R π a x->R (L5 π H r.2) r.1 x
theorem aJu (H:Nat)(c:CV)(m:List Nat):Gc CV.rel H c m (gcC H c m):=by
 cases c<;>simp only[gcC]
 case ptr b o n=>
  obtain⟨h1,h2,h3⟩:=al6 (H:=H) (b:=b) (m:=m);refine⟨h1,h2,λπ x ⟨B,s,q,e,hp,hx⟩=>⟨B,s,q,e,?_,hx⟩⟩;rw[h3];exact hp
 case cl f b o n=>
  obtain⟨h1,h2,h3⟩:=al6 (H:=H) (b:=b) (m:=m);refine⟨h1,h2,λπ x ⟨B,s,q,e,hp,hx⟩=>⟨B,s,q,e,?_,hx⟩⟩;rw[h3];exact hp
 case sl b o l z w=>
  obtain⟨h1,h2,h3⟩:=al6 (H:=H) (b:=b) (m:=m);exact⟨h1,h2,λπ x ⟨B,s,q,e,hp,hx⟩=>⟨B,s,q,e,by rw[h3];exact hp,hx⟩⟩
 all_goals exact⟨AG.refl _,id,λπ x hx=>hx⟩
omit [ax] in
theorem aOJ {α:Type}{R R':α->Value->Prop}{as as':List α}{xs:List Value}(hl:as'.length=as.length)(h:∀(j:Nat) a a',as[j]? =some a->as'[j]? =some a'->∀x,R a x->R' a' x)(hx:bn R as xs):bn R' as' xs:=by
 refine bn.agI (by rw[hl];exact hx.length) λi a' x ha' hxi=> ?_;obtain⟨a,ha,hr⟩:=hx.get' hxi;exact h i a a' ha ha' x hr
omit [ax] in
theorem aeu {α:Type}{R:Pi->α->Value->Prop}(mono:∀{π π':Pi},Ext π π'->∀a x,R π a x->R π' a x){f:α->List Nat->α×List Nat}{H:Nat}(hf:∀a m,Gc R H a m (f a m)):
  ∀(l:List α) (m:List Nat),AG m (Hv f l m).2/\(MOk H m->MOk H (Hv f l m).2)/\(Hv f l m).1.length=l.length/\∀(j:Nat) a a',l[j]? =some a->(Hv f l m).1[j]? =some a'->∀π x,R π a x->R (L5 π H (Hv f l m).2) a' x
 | [],m=>⟨AG.refl _,id,rfl,λj a a' h=>by simp at h⟩
 |a::l,m=>by
  have G:=hf a m;obtain⟨p1,p2,p3,p4⟩:=aeu mono hf l (f a m).2;refine⟨G.pre.trans p1,λok=>p2 (G.ok ok),by simp[Hv,p3],λj b b' hb fC π x hx=> ?_⟩;cases j with
  |zero=>
   simp[Hv] at hb fC
   subst hb fC;exact mono p1.ext _ _ (G.rel π x hx)
  |succ j=>exact p4 j b b' (by simpa using hb) (by simpa[Hv] using fC) π x hx
omit [ax] in
theorem aJv {α:Type}{R:Pi->α->Value->Prop}(mono:∀{π π':Pi},Ext π π'->∀a x,R π a x->R π' a x){f:α->List Nat->α×List Nat}{H:Nat}(hf:∀a m,Gc R H a m (f a m))(l:List α)(m:List Nat)(π:Pi)(xs:List Value)(h:bn (R π) l xs):bn (R (L5 π H (Hv f l m).2)) (Hv f l m).1 xs:=by
 obtain⟨_,_,p3,p4⟩:=aeu mono hf l m;exact aOJ p3 (λj a a' ha ha' x hr=>p4 j a a' ha ha' π x hr) h
theorem aax (H:Nat):∀(cs:af) (m:List Nat),AG m (Hv (gcS H) cs m).2/\(MOk H m->MOk H (Hv (gcS H) cs m).2)/\af.size (Hv (gcS H) cs m).1=af.size cs/\
  ∀π j x,j<af.size cs->(af.get cs j).rel π x->(af.get (Hv (gcS H) cs m).1 j).rel (L5 π H (Hv (gcS H) cs m).2) x
 | [],m=>⟨AG.refl _,id,rfl,λπ j x hj=>by rw[af.lX] at hj;omega⟩
 |.c v::r,m=>by
  have G:=aJu H v m;obtain⟨p1,p2,p3,p4⟩:=aax H r (gcC H v m).2;have e:Hv (gcS H) (.c v::r) m=(.c (gcC H v m).1::(Hv (gcS H) r (gcC H v m).2).1,(Hv (gcS H) r (gcC H v m).2).2):=rfl;rw[e];refine⟨G.pre.trans p1,λok=>p2 (G.ok ok),by rw[af.size_cons,af.size_cons,p3];rfl,λπ j x hj hx=> ?_⟩;cases j with
  |zero=>exact CV.dR p1.ext _ _ (G.rel π x hx)
  |succ j=>
   rw[<-af.kK (l:=r) (j':=j) (by omega) (by omega)] at hx;rw[<-af.kK (l:=(Hv (gcS H) r (gcC H v m).2).1) (j':=j) (by omega) (by omega)];exact p4 π j x (by rw[af.size_cons,Sg.kI] at hj;omega) hx
 |.a n cols::r,m=>by
  obtain⟨p1,p2,p3,p4⟩:=aax H r m;have e:Hv (gcS H) (.a n cols::r) m=(.a n cols::(Hv (gcS H) r m).1,(Hv (gcS H) r m).2):=rfl;rw[e];refine⟨p1,p2,by rw[af.size_cons,af.size_cons,p3],λπ j x hj hx=> ?_⟩;rw[af.size_cons] at hj;by_cases mg:j<(Sg.a n cols).size
  .rw[af.dY mg,Sg.pR] at hx ⊢;obtain⟨v,hv⟩:=aDX cols j;rw[hv] at hx ⊢;exact hx
  .rw[af.lH (by omega)] at hx ⊢;exact p4 π _ x (by omega) hx
theorem aev (H:Nat)(r:RV)(m:List Nat):Gc RV.rel H r m (gcR H r m):=by
 cases r with
 |c c=>have G:=aJu H c m;exact⟨G.pre,G.ok,G.rel⟩
 |agg cs=>
  obtain⟨p1,p2,p3,p4⟩:=aax H cs m;refine⟨p1,p2,λπ x ⟨a,hx,ha⟩=>⟨a,hx,?_⟩⟩;obtain⟨l1,l2⟩:=jF ha;refine yC (by rw[p3,l1]) λj hj=> ?_;rw[p3] at hj;obtain⟨y,hy,hr⟩:=l2 j hj;exact⟨y,hy,p4 π j y hj hr⟩
theorem ayG (H:Nat)(r:AV)(m:List Nat):Gc AV.rel H r m (gcA H r m):=by
 cases r with
 |r c=>have G:=aev H c m;exact⟨G.pre,G.ok,G.rel⟩
 |tup cs=>
  obtain⟨p1,p2,_,_⟩:=aeu (R:=RV.rel) (λh a x r=>RV.dR h a x r) (aev H) cs m;exact⟨p1,p2,λπ x ⟨a,hx,ha⟩=>⟨a,hx,aJv (R:=RV.rel) (λh a x r=>RV.dR h a x r) (aev H) cs m π _ ha⟩⟩
 |fn f cs=>
  obtain⟨p1,p2,_,_⟩:=aeu (R:=RV.rel) (λh a x r=>RV.dR h a x r) (aev H) cs m;exact⟨p1,p2,λπ x ⟨a,hx,ha⟩=>⟨a,hx,aJv (R:=RV.rel) (λh a x r=>RV.dR h a x r) (aev H) cs m π _ ha⟩⟩
 |WC=>exact⟨AG.refl _,id,λ_ _ _=>trivial⟩
structure GcB (H:Nat)(b b':Option af)(m':List Nat):Prop where
 size:b'.map af.size=b.map af.size
 rel:∀k k',b=some k->b'=some k'->∀π (j:Nat) x,j<af.size k->(af.get k j).rel π x->(af.get k' j).rel (L5 π H m') x
theorem GcB.pre {H:Nat}{b b':Option af}{m m':List Nat}(h:GcB H b b' m)(p:AG m m'):GcB H b b' m':=
 ⟨h.size,λk k' e e' π j x hj hx=>CV.dR p.ext _ _ (h.rel k k' e e' π j x hj hx)⟩
theorem aJw (H:Nat)(b:Option af)(m:List Nat):AG m (gcB H b m).2/\(MOk H m->MOk H (gcB H b m).2)/\GcB H b (gcB H b m).1 (gcB H b m).2:=by
 cases b with
 |none=>exact⟨AG.refl _,id,rfl,λk k' e=>by cases e⟩
 |some k=>
  obtain⟨p1,p2,p3,p4⟩:=aax H k m;refine⟨p1,p2,⟨by simp only[gcB,Tf,p3],λk1 k' e e' π j x hj hx=> ?_⟩⟩;cases e;cases e'
  exact p4 π j x hj hx
theorem apM (k:Nat)(d:List Nat)(H:Nat):∀(l:List (Option af)) (j0:Nat) (m:List Nat),AG m (gcO k d H l j0 m).2/\(MOk H m->MOk H (gcO k d H l j0 m).2)/\(gcO k d H l j0 m).1.length=l.length/\
  ∀(j:Nat) b b',l[j]? =some b->(gcO k d H l j0 m).1[j]? =some b'->(j0+j<k/\j0+j∉d/\b'=b)∨((j0+j<k->j0+j∉d->False)/\GcB H b b' (gcO k d H l j0 m).2)
 | [],j0,m=>⟨AG.refl _,id,rfl,λj b b' h=>by simp at h⟩
 |b0::l,j0,m=>by
  simp only[gcO];split
  .rename_i hc
   simp only[cq,Nat.blt_eq,oL] at hc;obtain⟨p1,p2,p3,p4⟩:=apM k d H l (j0+1) m;refine⟨p1,p2,by simp[p3],λj b b' hb fC=> ?_⟩;cases j with
   |zero=>
    simp at hb fC
    subst hb fC;refine .inl ⟨hc.1,λhm=> ?_,rfl⟩;have:=List.any_eq_false.1 hc.2 _ hm;simp at this
   |succ j=>
    have:=p4 j b b' (by simpa using hb) (by simpa using fC);rw[show j0+1+j=j0+(j+1) by omega] at this;exact this
  .rename_i hc
   obtain⟨q1,q2,q3⟩:=aJw H b0 m;obtain⟨p1,p2,p3,p4⟩:=apM k d H l (j0+1) (gcB H b0 m).2;refine⟨q1.trans p1,λok=>p2 (q2 ok),by simp[p3],λj b b' hb fC=> ?_⟩;cases j with
   |zero=>
    simp at hb fC
    subst hb fC;refine .inr ⟨λh1 h2=> ?_,q3.pre p1⟩;have e1:v6 j0 k=true:=by simpa using h1
    have e2:d.any (ww j0)=false:=by
     rw[List.any_eq_false];intro y hy he;have:=oK he;subst this;exact h2 hy
    rw[e1,e2] at hc;cases hc
   |succ j=>
    have:=p4 j b b' (by simpa using hb) (by simpa using fC);rw[show j0+1+j=j0+(j+1) by omega] at this;exact this
theorem aJx (H:Nat)(heap:List (Option af)):∀(fuel i:Nat) (m:List Nat) (acc:List (Option af)) (z:List (Option af)×List Nat),gcN H heap fuel i m acc=some z->acc.length=i->i<=m.length->
  (∀(j:Nat) b b',m[j]? =some b->acc[j]? =some b'->GcB H ((heap[b]?).getD none) b' m)->
  AG m z.2/\(MOk H m->MOk H z.2)/\z.1.length=z.2.length/\∀(j:Nat) b b',z.2[j]? =some b->z.1[j]? =some b'->GcB H ((heap[b]?).getD none) b' z.2
 |0,_,_,_,_,h,_,_,_=>by simp[gcN] at h
 |fuel+1,i,m,acc,z,h,hi,hi2,aOD=>by
  simp only[gcN] at h;split at h
  .rename_i hn
   cases h;have:m.length<=i:=List.getElem?_eq_none_iff.1 hn;exact⟨AG.refl _,id,by simp;omega,aOD⟩
  .rename_i b hb
   obtain⟨q1,q2,q3⟩:=aJw H ((heap[b]?).getD none) m;have oo:i<m.length:=(me.1 hb).1;have hlen:m.length<=(gcB H ((heap[b]?).getD none) m).2.length:=by obtain⟨t,ht⟩:=q1;rw[ht];simp
   obtain⟨p1,p2,p3,p4⟩:=aJx H heap fuel (i+1) _ _ z h (by simp[hi]) (by omega) (λj b1 b1' h1 h1'=>by
    rcases aFq h1' with h1'| ⟨hj,rfl⟩
    .have hj:j<acc.length:=(me.1 h1').1
     have hm:m[j]? =some b1:=by
      have e:m[j]? =some (m[j]'(by omega)):=kT _;rw[e];have:=q1.get e;rw[h1] at this;exact this.symm
     exact(aOD j b1 b1' hm h1').pre q1
    .have:b1=b:=by
      rw[hj,hi] at h1;have:=q1.get hb;rw[h1] at this;exact OE this
     subst this;exact q3)
   exact⟨q1.trans p1,λok=>p2 (q2 ok),p3,p4⟩
end Go.Ab
namespace Go.Ab
variable [ax]
section
variable {P:Program} {E:Env} {X:Cx}
structure In (X:Cx)(h0:List af):Prop where
 k:X.k=h0.length
 h:tf X.p0 (hC (h0.map some)) (hZ (h0.map some)) X.w0
 d:∀b,X.p0 b≠none->b<X.k
theorem iK.same {h0:List af}{π:Pi}{s:St}{a:Act}{w:World}(I:In X h0)(R:iK X h0 π s a w){b:Nat}(hb:b<X.k)(hn:b∉s.dz){k:af}(hk:s.bS b=some k){B:Nat}{s0 q e:Nat}(hp:π b=some (B,s0,q,e)){j:Nat}(hj:j<af.size k):
  ∃v,cl w B (s0+j)=some v/\(af.get k j).rel X.p0 v:=by
 have h1:=R.drt b hb hn;rw[hk] at h1;have hz:hZ (h0.map some) b=some (af.size k):=by rw[QJ,<-h1];rfl
 obtain⟨B',s',e',uW,hle,k1,k2⟩:=I.h.hp b _ hz;rw[R.rel.yd b hb,uW] at hp;cases hp;obtain⟨v,hv,hr⟩:=k2 j hj;rw[aDZ h1.symm hj] at hr;refine⟨v,?_,hr⟩;rw[R.rel.fr.cl (acm (by rw[hv];rfl)),hv];rintro ⟨b2,s2,q2,e2,Fj,hd2,hp2,i1,i2⟩
 have oM:b2≠b:=λe=>hn (e▸hd2)
 have hz2:hZ (h0.map some) b2≠none:=by
  rw[QJ];have:b2<h0.length:=by rw[<-I.k];exact Fj
  rw[kT this];simp
 exact I.h.dj b2 b B s2 q2 e2 s0 _ e oM hz2 (by rw[hz];simp) hp2 uW (s0+j) i1 i2 (by omega) (by omega)
omit [ax] in
theorem aFB {l:List (Option af)}{b:Nat}(h:b<l.length):l[b]? =some ((l[b]?).getD none):=by
 rw[kT h];rfl
theorem aOK {h0:List af}{π:Pi}{s:St}{a:Act}{w:World}(I:In X h0)(R:iK X h0 π s a w){H:Nat}(hH:X.k<=H)(hHl:H<=s.heap.length){m0:List Nat}(ok0:MOk H m0){z:List (Option af)×List Nat}
  (hz:gcN H s.heap 1000 0 (gcO X.k s.dz H (s.heap.take H) 0 m0).2 []=some z):
  AG m0 z.2/\tf (L5 π H z.2) (hC ((gcO X.k s.dz H (s.heap.take H) 0 m0).1++z.1)) (hZ ((gcO X.k s.dz H (s.heap.take H) 0 m0).1++z.1)) w/\
  ((gcO X.k s.dz H (s.heap.take H) 0 m0).1++z.1).length=H+z.2.length/\
  (∀b,b<H->b<X.k->b∉s.dz->(((gcO X.k s.dz H (s.heap.take H) 0 m0).1++z.1)[b]?).getD none=s.bS b)/\
  (∀b,hZ ((gcO X.k s.dz H (s.heap.take H) 0 m0).1++z.1) b≠none->(b<H/\s.gt.z b≠none)∨∃b0,H<=b/\z.2[b-H]? =some b0/\H<=b0/\s.gt.z b0≠none):=by
 obtain⟨o1,o2,o3,o4⟩:=apM X.k s.dz H (s.heap.take H) 0 m0;generalize hy:gcO X.k s.dz H (s.heap.take H) 0 m0=y at*
 obtain⟨n1,n2,n3,n4⟩:=aJx H s.heap 1000 0 y.2 [] z hz rfl (Nat.zero_le _) (λj b b' _ h=>by simp at h);have hyl:y.1.length=H:=by rw[o3];simp;omega
 have ok:=n2 (o2 ok0)
 have yd:∀b,b<H->∃x,y.1[b]? =some x/\(y.1++z.1)[b]? =some x/\(x=s.bS b/\b<X.k/\b∉s.dz∨(b<X.k->b∉s.dz->False)/\GcB H (s.bS b) x z.2):=λb hb=>by
  have h1:y.1[b]? =some (y.1[b]'(by omega)):=kT _
  have h2:(s.heap.take H)[b]? =some (s.bS b):=by
   rw[acd,if_pos hb];exact aFB (by omega)
  refine⟨_,h1,by rw[UT (by omega)];exact h1,?_⟩;have o5:=o4 b _ _ h2 h1;simp only[hI] at o5;rcases o5 with⟨q1,q2,q3⟩| ⟨q0,q⟩
  .exact .inl ⟨q3,q1,q2⟩
  .exact .inr ⟨q0,q.pre n1⟩
 have new:∀b,H<=b->b<H+z.2.length->∃b0 x,z.2[b-H]? =some b0/\H<=b0/\(y.1++z.1)[b]? =some x/\GcB H (s.bS b0) x z.2:=λb h1 h2=>by
  have e1:z.2[b-H]? =some (z.2[b-H]'(by omega)):=kT _;have e2:z.1[b-H]? =some (z.1[b-H]'(by omega)):=kT _;refine⟨_,_,e1,ok.2 _ (List.mem_of_getElem? e1),?_,n4 _ _ _ e1 e2⟩;rw[aen (by omega),hyl];exact e2
 have len:(y.1++z.1).length=H+z.2.length:=by simp;omega
 have src:∀b n,hZ (y.1++z.1) b=some n->∃b0 k0 k,s.bS b0=some k0/\af.size k0=n/\(y.1++z.1)[b]? =some (some k)/\af.size k=n/\L5 π H z.2 b=π b0/\((b<H/\b0=b)∨(H<=b/\z.2[b-H]? =some b0/\H<=b0))/\
   (k=k0/\b<X.k/\b∉s.dz/\b0=b∨∀(j:Nat) x,j<af.size k0->(af.get k0 j).rel π x->(af.get k j).rel (L5 π H z.2) x):=λb n hn=>by
  have hbl:b<H+z.2.length:=by
   rw[<-len];rcases pQ b (y.1++z.1).length with h|h
   .exact h
   .simp only[hZ,JN h] at hn;cases hn
  rcases pQ b H with hb|hb
  .obtain⟨x,h1,h2,h3⟩:=yd b hb;simp only[hZ,h2,LM] at hn;cases x with
   |none=>cases hn
   |some k=>
    have hkn:af.size k=n:=by simpa using hn
    have hpi:L5 π H z.2 b=π b:=by unfold L5;rw[if_pos hb]
    rcases h3 with⟨q1,q2,q3⟩| ⟨_,q⟩
    .exact⟨b,k,k,q1.symm,hkn,h2,hkn,hpi,.inl ⟨hb,rfl⟩,.inl ⟨rfl,q2,q3,rfl⟩⟩
    .have hs:=q.size;cases RJ:s.bS b with
     |none=>rw[RJ] at hs;cases hs
     |some k0=>
      rw[RJ] at hs q;have:af.size k=af.size k0:=by simpa using hs
      exact⟨b,k0,k,RJ,by omega,h2,hkn,hpi,.inl ⟨hb,rfl⟩,.inr λj x hj hx=>q.rel k0 k rfl rfl π j x hj hx⟩
  .obtain⟨b0,x,h1,h2,h3,q⟩:=new b hb hbl;simp only[hZ,h3,LM] at hn;cases x with
   |none=>cases hn
   |some k=>
    have hkn:af.size k=n:=by simpa using hn
    have hpi:L5 π H z.2 b=π b0:=by unfold L5;rw[if_neg (by omega),h1]
    have hs:=q.size;cases RJ:s.bS b0 with
    |none=>rw[RJ] at hs;cases hs
    |some k0=>
     rw[RJ] at hs q;have:af.size k=af.size k0:=by simpa using hs
     exact⟨b0,k0,k,RJ,by omega,h3,hkn,hpi,.inr ⟨hb,h1,h2⟩,.inr λj x hj hx=>q.rel k0 k rfl rfl π j x hj hx⟩
 refine⟨o1.trans n1,⟨R.rel.hp.am,λb B s1 q1 e1 hz1 Hy BN=> ?_,λb n hn=> ?_,λb b' B s1 q1 e1 s2 q2 e2 oM hz1 hz2 Hy hp2 i i1 i2 i3 i4=> ?_⟩,len,λb hb hbk hnd=> ?_,λb hb=> ?_⟩
 .cases hn1:hZ (y.1++z.1) b with
  |none=>exact absurd hn1 hz1
  |some n=>
   obtain⟨b0,k0,k,h1,h2,h3,h4,h5,h6,h7⟩:=src b n hn1;have Ob:s.gt.z b0=some (af.size k0):=St.aq1 h1;rw[h5] at Hy;exact R.rel.hp.lb b0 B s1 q1 e1 (by rw[Ob];simp) Hy BN
 .obtain⟨b0,k0,k,h1,h2,h3,h4,h5,h6,h7⟩:=src b n hn;have Ob:s.gt.z b0=some (af.size k0):=St.aq1 h1;obtain⟨B,s1,e1,hp,hle,m1,m2⟩:=R.rel.hp.hp b0 _ Ob;refine⟨B,s1,e1,by rw[h5,<-h2];exact hp,by omega,m1,λj hj=> ?_⟩;rw[agV h3 (by omega)];rcases h7 with⟨rfl,q1,q2,rfl⟩|q
  .obtain⟨v,hv,hr⟩:=R.same I q1 q2 h1 hp (j:=j) (by omega);refine⟨v,hv,CV.dR (λb p hbp=> ?_) _ _ hr⟩;have hbk:=I.d b (by rw[hbp];simp);unfold L5;rw[if_pos (by omega),R.rel.yd b hbk];exact hbp
  .obtain⟨v,hv,hr⟩:=m2 j (by omega);rw[St.aT3 h1 (by omega)] at hr;exact⟨v,hv,q j v (by omega) hr⟩
 .cases hn1:hZ (y.1++z.1) b with
  |none=>exact hz1 hn1
  |some n=>
  cases hn2:hZ (y.1++z.1) b' with
  |none=>exact hz2 hn2
  |some n'=>
  obtain⟨b0,k0,k,h1,_,_,_,h5,h6,_⟩:=src b n hn1;obtain⟨b0',k0',k',h1',_,_,_,h5',h6',_⟩:=src b' n' hn2;rw[h5] at Hy;rw[h5'] at hp2
  have a4j:b0≠b0':=by
   intro e;subst e;rcases h6 with⟨q1,q2⟩| ⟨q1,q2,q3⟩<;>rcases h6' with⟨r1,r2⟩| ⟨r1,r2,r3⟩
   .exact oM (q2.symm.trans r2)
   .omega
   .omega
   .obtain⟨l1,g1⟩:=me.1 q2;obtain⟨l2,g2⟩:=me.1 r2;have:=List.pairwise_iff_getElem.1 ok.1;rcases agr (b-H) (b'-H) with h|h|h
    .exact this _ _ l1 l2 h (g1.trans g2.symm)
    .omega
    .exact this _ _ l2 l1 h (g2.trans g1.symm)
  exact R.rel.hp.dj b0 b0' B s1 q1 e1 s2 q2 e2 a4j (by rw[St.aq1 h1];simp) (by rw[St.aq1 h1'];simp) Hy hp2 i i1 i2 i3 i4
 .obtain⟨x,h1,h2,h3⟩:=yd b hb;rw[h2];rcases h3 with⟨q1,_⟩| ⟨q0,_⟩
  .exact q1
  .exact(q0 hbk hnd).elim
 .cases hn:hZ (y.1++z.1) b with
  |none=>exact absurd hn hb
  |some n=>
   obtain⟨b0,k0,k,h1,_,_,_,_,h6,_⟩:=src b n hn;rcases h6 with⟨q1,rfl⟩| ⟨q1,q2,q3⟩
   .exact .inl ⟨q1,by rw[St.aq1 h1];simp⟩
   .exact .inr ⟨b0,q1,q2,q3,by rw[St.aq1 h1];simp⟩
end
end Go.Ab
namespace Go.Ab
variable [ax]
section
variable {P:Program} {E:Env} {X:Cx} {h0:List af} {π:Pi} {s s':St} {a:Act} {w:World}
theorem iK.gc (I:In X h0)(R:iK X h0 π s a w){H:Nat}(hH:X.k<=H)(h:s.gc X.k H=some s'):∃π',iK X h0 π' s' a w:=by
 unfold St.gc at h;split at h
 .cases h
 rename_i hb
 have hHl:H<=s.heap.length:=yb hb;simp only at h;split at h
 .rename_i z hz
  obtain⟨p1,p2,p3,p4⟩:=aeu (R:=AV.rel) (λh a x r=>AV.dR h a x r) (ayG H) s.tmps [];have ok0:MOk H (Hv (gcA H) s.tmps []).2:=p2 ⟨List.nodup_nil,λ_ h=>by cases h⟩;obtain⟨q1,q2,q3,q4,q5⟩:=aOK I R hH hHl ok0 hz;cases h;refine⟨L5 π H z.2,⟨⟨λi=> ?_,R.rel.nt,R.rel.df,q2,λb hb=> ?_,λb B s1 qq e hkb hzb hp hB i i1 i2=> ?_,R.rel.fr⟩,p3.trans R.len,λb hb=> ?_,λb hb hn=> ?_,?_,R.dlt⟩⟩
  .show(alO (Hv (gcA H) s.tmps []).1 i).rel _ _;rw[A5];have hr:(alO s.tmps i).rel π (a.tmps.getD i undef):=R.rel.tm i;rw[A5] at hr;rcases pQ i s.tmps.length with hi|hi
   .have e1:s.tmps[i]? =some (s.tmps[i]'hi):=kT _;have e2:(Hv (gcA H) s.tmps []).1[i]? =some ((Hv (gcA H) s.tmps []).1[i]'(by omega)):=kT _;have hr:(s.tmps.getD i udf).rel π (a.tmps.getD i undef):=hr;simp only[List.getD,e1,LM] at hr;simp only[List.getD,e2,LM];exact AV.dR q1.ext _ _ (p4 i _ _ e1 e2 π _ hr)
   .have hr:(s.tmps.getD i udf).rel π (a.tmps.getD i undef):=hr;simp only[List.getD,JN hi,Option.getD_none] at hr;simp only[List.getD,JN (show(Hv (gcA H) s.tmps []).1.length<=i by omega),Option.getD_none];exact(ayG H udf z.2).rel π _ hr
  .unfold L5;rw[if_pos (by omega)];exact R.rel.yd b hb
  .rcases q5 b hzb with⟨hbH,Ob⟩| ⟨b0,hbH,hm,RJ,Ob⟩
   .unfold L5 at hp;rw[if_pos hbH] at hp;exact R.rel.ft b B s1 qq e hkb Ob hp hB i i1 i2
   .unfold L5 at hp;rw[if_neg (by omega),hm] at hp;exact R.rel.ft b0 B s1 qq e (by omega) Ob hp hB i i1 i2
  .show b<(_++_:List (Option af)).length;rw[q3];unfold L5 at hb;split at hb
   .omega
   .cases hm:z.2[b-H]? with
    |none=>rw[hm] at hb;exact absurd rfl hb
    |some b0=>have:=(me.1 hm).1;omega
  .exact(q4 b (by omega) hb hn).trans (R.drt b hb hn)
  .show X.k<=(_++_:List (Option af)).length;rw[q3];omega
 .cases h
theorem iK.a2L (R:iK X h0 π s a w)(t:Nat):iK X h0 π {s with tmps:=s.tmps.set t WC} a w:=by
 refine⟨⟨λi=> ?_,R.rel.nt,R.rel.df,R.rel.hp,R.rel.yd,R.rel.ft,R.rel.fr⟩,by simpa using R.len,R.dom,R.drt,R.hk,R.dlt⟩;show(alO (s.tmps.set t WC) i).rel π _;rw[A5];simp only[List.getD,aEK];have hr:(alO s.tmps i).rel π (a.tmps.getD i undef):=R.rel.tm i;rw[A5] at hr;split
 .split
  .trivial
  .rename_i h1 h2
   subst h1;simpa only[List.getD,JN (show s.tmps.length<=t by omega)] using hr
 .exact hr
theorem iK.aET:∀(l:List Nat) {s:St},iK X h0 π s a w->iK X h0 π {s with tmps:=l.foldl (λl t=>l.set t WC) s.tmps} a w
 | [],_,R=>R
 |t::l,_,R=>iK.aET l (R.a2L t)
omit [ax] in
theorem a0O {i:Nat}{c:CV}(h:s.tmp i=.r (.c c)):i<s.tmps.length:=by
 rcases pQ i s.tmps.length with hi|hi
 .exact hi
 .simp only[St.tmp,A5,List.getD,JN hi,Option.getD_none,udf] at h;cases h
omit [ax] in
theorem ayH [ax]{π:Pi}{c:CV}{v:Value}(h:c.rel π v):(aJf c).rel π v:=by
 unfold aJf;split
 .split
  .rename_i b len z own c0
   simpa[CV.rel,cD.val] using h
  .exact h
 .exact h
omit [ax] in
theorem agW (g:CV->CV)(s:Sg):(aEU g s).size=s.size:=by
 cases s<;>rfl
omit [ax] in
theorem ayI (g:CV->CV):∀b:af,af.size (b.map (aEU g))=af.size b
 | []=>rfl
 |s::l=>by
  rw[List.map_cons,af.size_cons,af.size_cons,agW,ayI g l]
theorem aUP {g:CV->CV}{π:Pi}(hg:∀c v,CV.rel π c v->CV.rel π (g c) v){s:Sg}{j:Nat}{v:Value}(h:(s.get j).rel π v):((aEU g s).get j).rel π v:=by
 cases s with
 |c x=>
  cases j with
  |zero=>exact hg _ _ h
  |succ j=>exact h
 |a n cols=>exact h
theorem aOL {g:CV->CV}{π:Pi}(hg:∀c v,CV.rel π c v->CV.rel π (g c) v){v:Value}:∀(b:af) (j:Nat),(af.get b j).rel π v->(af.get (b.map (aEU g)) j).rel π v
 | [],_,h=>h
 |s::l,j,h=>by
  rw[List.map_cons];by_cases hj:j<s.size
  .rw[af.dY hj] at h;rw[af.dY (by rw[agW];exact hj)];exact aUP hg h
  .rw[af.lH (by omega)] at h;rw[af.lH (by rw[agW];omega),agW];exact aOL hg l _ h
theorem aUQ {g:CV->CV}{π:Pi}(hg:∀c v,CV.rel π c v->CV.rel π (g c) v){a:AV}{v:Value}(h:a.rel π v):(mapA g a).rel π v:=by
 unfold mapA;split
 .exact hg _ _ h
 .exact h
omit [ax] in
theorem avF (g:CV->CV)(k:Nat)(d:List Nat):∀(l:List (Option af)) (j:Nat),(ajb g k d l j).length=l.length
 | [],_=>rfl
 |b::l,j=>by simp[ajb,avF g k d l (j+1)]
omit [ax] in
theorem aJy (g:CV->CV)(k:Nat)(d:List Nat):∀(l:List (Option af)) (j i:Nat),((ajb g k d l j)[i]?).getD none=(l[i]?).getD none∨(¬(j+i<k/\j+i∉d)/\∃b,(l[i]?).getD none=some b/\((ajb g k d l j)[i]?).getD none=some (b.map (aEU g)))
 | [],_,_=>.inl rfl
 |b::l,j,0=>by
  unfold ajb;cases hc:v6 j k&& !d.any (ww j) with
  |true=>exact .inl rfl
  |false=>
   cases b with
   |none=>exact .inl rfl
   |some b=>
    refine .inr ⟨λh=> ?_,b,rfl,rfl⟩;have h1:v6 j k=true:=uM.2 h.1
    have h2:d.any (ww j)=false:=by
     cases hd:d.any (ww j) with
     |false=>rfl
     |true=>
      obtain⟨x,hx,he⟩:=ace.1 hd;have:=oK he;subst this;exact absurd hx h.2
    rw[h1,h2] at hc;cases hc
 |b::l,j,i+1=>by
  have:=aJy g k d l (j+1) i;rw[show j+1+i=j+(i+1) by omega] at this;exact this
theorem iK.a1S (R:iK X h0 π s a w)(g:CV->CV)(hg:∀c v,CV.rel π c v->CV.rel π (g c) v):iK X h0 π {s with tmps:=s.tmps.map (mapA g),heap:=ajb g X.k s.dz s.heap 0} a w:=by
 have hb:∀b,St.bS {s with tmps:=s.tmps.map (mapA g),heap:=ajb g X.k s.dz s.heap 0} b=s.bS b∨(¬(b<X.k/\b∉s.dz)/\∃k,s.bS b=some k/\St.bS {s with tmps:=s.tmps.map (mapA g),heap:=ajb g X.k s.dz s.heap 0} b=some (k.map (aEU g))):=λb=>by
  have:=aJy g X.k s.dz s.heap 0 b;rw[hI] at this;exact this
 generalize WJ:({s with tmps:=s.tmps.map (mapA g),heap:=ajb g X.k s.dz s.heap 0}:St)=s2 at hb
 have hz:s2.gt.z=s.gt.z:=by
  funext b
  show(s2.bS b).map af.size=(s.bS b).map af.size;rcases hb b with h| ⟨_,k,h1,h2⟩
  .rw[h]
  .rw[h1,h2];simp[ayI]
 have hc:∀b j v,(s.gt.c b j).rel π v->(s2.gt.c b j).rel π v:=λb j v h=>by
  rcases hb b with e| ⟨_,k,h1,h2⟩
  .show(match s2.bS b with|some k=>if j<k.size then k.get j else .f .u|none=>.f .u:CV).rel π v;rw[e];exact h
  .have h:(match s.bS b with|some k=>if j<k.size then k.get j else .f .u|none=>.f .u:CV).rel π v:=h;show(match s2.bS b with|some k=>if j<k.size then k.get j else .f .u|none=>.f .u:CV).rel π v;rw[h1] at h;rw[h2];simp only[ayI] at h ⊢;split
   .rename_i hj
    rw[if_pos hj] at h;exact aOL hg k j h
   .rename_i hj
    rw[if_neg hj] at h;exact h
 have hd2:s2.dz=s.dz:=by rw[<-WJ]
 have hl2:s2.heap.length=s.heap.length:=by rw[<-WJ];exact avF _ _ _ _ _
 refine⟨⟨λi=> ?_,R.rel.nt,R.rel.df,⟨R.rel.hp.am,?_,λb n hn=> ?_,?_⟩,R.rel.yd,?_,?_⟩,?_,λb fC=> ?_,λb hbk hn=> ?_,?_,?_⟩
 .have hr:(alO s.tmps i).rel π (a.tmps.getD i undef):=R.rel.tm i;show(alO s2.tmps i).rel π _;rw[<-WJ];rw[A5] at hr;rw[A5];simp only[List.getD,Cb] at hr ⊢;cases he:s.tmps[i]? with
  |none=>rw[he] at hr;exact hr
  |some x=>rw[he] at hr;exact aUQ hg hr
 .rw[hz];exact R.rel.hp.lb
 .rw[hz] at hn;obtain⟨B,s1,e,h1,h2,h3,h4⟩:=R.rel.hp.hp b n hn;exact⟨B,s1,e,h1,h2,h3,λj hj=>let⟨v,hv,hr⟩:=h4 j hj;⟨v,hv,hc b j v hr⟩⟩
 .rw[hz];exact R.rel.hp.dj
 .rw[hz];intro b B s1 q e;rw[hd2];exact R.rel.ft b B s1 q e
 .rw[hd2];exact R.rel.fr
 .rw[<-WJ];simpa using R.len
 .rw[hl2];exact R.dom b fC
 .rw[hd2] at hn;rcases hb b with e| ⟨h,_⟩
  .exact e.trans (R.drt b hbk hn)
  .exact absurd ⟨hbk,hn⟩ h
 .rw[hl2];exact R.hk
 .rw[hd2];exact R.dlt
theorem aJz {π:Pi}{c:CV}{v:Value}(h:c.rel π v):(aYC c).rel π v:=by
 unfold aYC;split
 .simpa[CV.rel,Sz.val] using h
 .exact h
theorem aUR {π:Pi}{a:AV}{v:Value}(h:a.rel π v):(aEV a).rel π v:=by
 unfold aEV;split
 .exact aJz (ayH h)
 .exact h
omit [ax] in
theorem agX (s:Sg):(aJg s).size=s.size:=by
 cases s<;>rfl
omit [ax] in
theorem aay:∀b:af,af.size (b.map aJg)=af.size b
 | []=>rfl
 |s::l=>by
  rw[List.map_cons,af.size_cons,af.size_cons,agX,aay l]
theorem aUS {π:Pi}{s:Sg}{j:Nat}{v:Value}(h:(s.get j).rel π v):((aJg s).get j).rel π v:=by
 cases s with
 |c x=>
  cases j with
  |zero=>exact aJz (ayH h)
  |succ j=>exact h
 |a n cols=>exact h
theorem atK {π:Pi}{v:Value}:∀(b:af) (j:Nat),(af.get b j).rel π v->(af.get (b.map aJg) j).rel π v
 | [],_,h=>h
 |s::l,j,h=>by
  rw[List.map_cons];by_cases hj:j<s.size
  .rw[af.dY hj] at h;rw[af.dY (by rw[agX];exact hj)];exact aUS h
  .rw[af.lH (by omega)] at h;rw[af.lH (by rw[agX];omega),agX];exact atK l _ h
omit [ax] in
theorem aFC (l:List (Nat×Nat))(j:Nat)(b:af):af.size (aEW l j b)=af.size b:=by
 unfold aEW;split
 .rw[(ayw _).1,(aan _ _).1,aay]
 .rw[aay]
theorem aUT {π:Pi}{v:Value}(l:List (Nat×Nat))(j:Nat)(b:af)(i:Nat)(hi:i<af.size b)(h:(af.get b i).rel π v):(af.get (aEW l j b) i).rel π v:=by
 unfold aEW;split
 .rw[(ayw _).2,(aan _ _).2 i (by rw[aay];exact hi)];exact atK b i h
 .exact atK b i h
omit [ax] in
theorem avG (k:Nat)(d:List Nat)(sl:List (Nat×Nat)):∀(l:List (Option af)) (j:Nat),(alT k d sl l j).length=l.length
 | [],_=>rfl
 |b::l,j=>by simp[alT,avG k d sl l (j+1)]
omit [ax] in
theorem aJA (k:Nat)(d:List Nat)(sl:List (Nat×Nat)):∀(l:List (Option af)) (j i:Nat),((alT k d sl l j)[i]?).getD none=(l[i]?).getD none∨(¬(j+i<k/\j+i∉d)/\∃b,(l[i]?).getD none=some b/\((alT k d sl l j)[i]?).getD none=some (aEW sl (j+i) b))
 | [],_,_=>.inl rfl
 |b::l,j,0=>by
  unfold alT;cases hc:v6 j k&& !d.any (ww j) with
  |true=>exact .inl rfl
  |false=>
   cases b with
   |none=>exact .inl rfl
   |some b=>
    refine .inr ⟨λh=> ?_,b,rfl,rfl⟩;have h1:v6 j k=true:=uM.2 h.1
    have h2:d.any (ww j)=false:=by
     cases hd:d.any (ww j) with
     |false=>rfl
     |true=>
      obtain⟨x,hx,he⟩:=ace.1 hd;have:=oK he;subst this;exact absurd hx h.2
    rw[h1,h2] at hc;cases hc
 |b::l,j,i+1=>by
  have:=aJA k d sl l (j+1) i;rw[show j+1+i=j+(i+1) by omega] at this;exact this
theorem iK.rows (R:iK X h0 π s a w):iK X h0 π {s with tmps:=s.tmps.map aEV,heap:=alT X.k s.dz (sls s) s.heap 0} a w:=by
 have hb:∀b,St.bS {s with tmps:=s.tmps.map aEV,heap:=alT X.k s.dz (sls s) s.heap 0} b=s.bS b∨(¬(b<X.k/\b∉s.dz)/\∃k,s.bS b=some k/\St.bS {s with tmps:=s.tmps.map aEV,heap:=alT X.k s.dz (sls s) s.heap 0} b=some (aEW (sls s) b k)):=λb=>by
  have:=aJA X.k s.dz (sls s) s.heap 0 b;rw[hI] at this;exact this
 generalize sls s=sl at hb ⊢
 generalize WJ:({s with tmps:=s.tmps.map aEV,heap:=alT X.k s.dz sl s.heap 0}:St)=s2 at hb
 have hz:s2.gt.z=s.gt.z:=by
  funext b
  show(s2.bS b).map af.size=(s.bS b).map af.size;rcases hb b with h| ⟨_,k,h1,h2⟩
  .rw[h]
  .rw[h1,h2];simp[aFC]
 have hc:∀b j v,(s.gt.c b j).rel π v->(s2.gt.c b j).rel π v:=λb j v h=>by
  rcases hb b with e| ⟨_,k,h1,h2⟩
  .show(match s2.bS b with|some k=>if j<k.size then k.get j else .f .u|none=>.f .u:CV).rel π v;rw[e];exact h
  .have h:(match s.bS b with|some k=>if j<k.size then k.get j else .f .u|none=>.f .u:CV).rel π v:=h;show(match s2.bS b with|some k=>if j<k.size then k.get j else .f .u|none=>.f .u:CV).rel π v;rw[h1] at h;rw[h2];simp only[aFC] at h ⊢;split
   .rename_i hj
    rw[if_pos hj] at h;exact aUT sl b k j hj h
   .rename_i hj
    rw[if_neg hj] at h;exact h
 have hd2:s2.dz=s.dz:=by rw[<-WJ]
 have hl2:s2.heap.length=s.heap.length:=by rw[<-WJ];exact avG _ _ _ _ _
 refine⟨⟨λi=> ?_,R.rel.nt,R.rel.df,⟨R.rel.hp.am,?_,λb n hn=> ?_,?_⟩,R.rel.yd,?_,?_⟩,?_,λb fC=> ?_,λb hbk hn=> ?_,?_,?_⟩
 .have hr:(alO s.tmps i).rel π (a.tmps.getD i undef):=R.rel.tm i;show(alO s2.tmps i).rel π _;rw[<-WJ];rw[A5] at hr;rw[A5];simp only[List.getD,Cb] at hr ⊢;cases he:s.tmps[i]? with
  |none=>rw[he] at hr;exact hr
  |some x=>rw[he] at hr;exact aUR hr
 .rw[hz];exact R.rel.hp.lb
 .rw[hz] at hn;obtain⟨B,s1,e,h1,h2,h3,h4⟩:=R.rel.hp.hp b n hn;exact⟨B,s1,e,h1,h2,h3,λj hj=>let⟨v,hv,hr⟩:=h4 j hj;⟨v,hv,hc b j v hr⟩⟩
 .rw[hz];exact R.rel.hp.dj
 .rw[hz];intro b B s1 q e;rw[hd2];exact R.rel.ft b B s1 q e
 .rw[hd2];exact R.rel.fr
 .rw[<-WJ];simpa using R.len
 .rw[hl2];exact R.dom b fC
 .rw[hd2] at hn;rcases hb b with e| ⟨h,_⟩
  .exact e.trans (R.drt b hbk hn)
  .exact absurd ⟨hbk,hn⟩ h
 .rw[hl2];exact R.hk
 .rw[hd2];exact R.dlt
omit [ax] in
theorem aUU [ax]{π:Pi}{b n:Nat}(hb:π n=π b){c:CV}{v:Value}(h:c.rel π v):(aOb b n c).rel π v:=by
 have e:∀x,π (aOa b n x)=π x:=λx=>by
  unfold aOa;split
  .rename_i hx;rw[oK hx];exact hb
  .rfl
 unfold aOb;split
 .simpa only[CV.rel,e] using h
 .simpa only[CV.rel,e] using h
 .simpa only[CV.rel,e] using h
 .exact h
theorem iK.move (R:iK X h0 π s a w)(b:Nat):∃π',iK X h0 π' (aSb X.k b s) a w:=by
 unfold aSb;split
 case h_2=>exact⟨π,R⟩
 rename_i bS aao
 split
 case h_2=>exact⟨π,R⟩
 rename_i oo
 have oo:=uM.1 oo;have hbl:b<s.heap.length:=aEJ oo R.hk;generalize hn:s.heap.length=n
 generalize hs1:({s with heap:=s.heap.set b none++[some bS],dz:=mark X.k b s.dz}:St)=s1
 have aar:ka X.k [.kill b,.new n bS] s=some s1:=by
  have h1:v6 b s.heap.length=true:=uM.2 hbl;have h2:ww n s.heap.length=true:=by rw[hn];exact OG _
  simp[ka,Up.ok,Up.app,h1,h2,<-hs1]
 have A:=JR aar;have hg:=OQ aar;have hz:s.gt.z b=some (af.size bS):=by show(s.bS b).map af.size=_;rw[aao];rfl
 obtain⟨B,s0,e,hp,hle,k1,k2⟩:=R.rel.hp.hp b _ hz
 have aSt:π n=none:=by
  cases hb:π n with
  |none=>rfl
  |some q=>have:=R.dom n (by rw[hb];simp);omega
 have avD:=A7 aSt (B,s0,af.size bS,e);have hD:b∈s1.dz:=by rw[<-hs1];exact A8.2 (.inr ⟨rfl,oo⟩)
 have a4k:∀x,x∈s.dz->x∈s1.dz:=λx hx=>by rw[<-hs1];exact A8.2 (.inl hx)
 have R0:=(R.rel.LX avD (λb' fC=>by simp only[AJ];rw[if_neg (by have:=R.hk;omega)])).aLk a4k;have RJ:AJ π n (B,s0,af.size bS,e) b=some (B,s0,af.size bS,e):=avD _ _ hp;have hp0:X.p0 b=some (B,s0,af.size bS,e):=by rw[<-R.rel.yd b oo];exact hp
 have R2:=(R0.kill b).new (k:=bS) (b:=n) (qC π n (B,s0,af.size bS,e)) (by have:=R.hk;omega) hle k1
  (λj hj=>by
   obtain⟨v,hv,hr⟩:=k2 j hj;have hc:s.gt.c b j=af.get bS j:=by show(match s.bS b with|some k=>if j<k.size then k.get j else .f .u|none=>.f .u:CV)=_;rw[aao];simp only[hj,lZ]
   rw[hc] at hr;exact⟨v,hv,CV.dR avD _ _ hr⟩)
  (λb' s' q' e' oM uN fC i i1 i2 i3 i4=>by
   by_cases eb:b'=b
   .subst eb;simp[Up.hX] at uN
   .exact R0.hp.dj b b' B s0 _ e s' q' e' (λh=>eb h.symm) (by rw[hz];simp) (by simpa[Up.hX,eb] using uN) RJ fC i i1 i2 i3 i4)
  (λ_ i i1 i2=>⟨b,s0,_,e,oo,hD,hp0,i1,i2⟩) (λh=>R.rel.hp.lb b B s0 _ e (by rw[hz];simp) hp h)
 have RS:iK X h0 (AJ π n (B,s0,af.size bS,e)) s1 a w:=A.aYY R hg R2 (λb' fC=>by
   by_cases e':b'=n
   .exact .inr ⟨by omega,by simp[cE];omega⟩
   .simp only[AJ,e',gG] at fC;exact .inl fC) (λx hx=>by
   rw[<-hs1] at hx;rcases A8.1 hx with h| ⟨rfl,h⟩
   .exact R.dlt x h
   .exact h)
 have M:=RS.a1S (aOb b n) λc v h=>aUU (by rw[qC,RJ]) h
 rw[<-hs1] at M;exact⟨_,M⟩
theorem iK.aJh (R:iK X h0 π s a w)(p:Nat×List CK):∃π',iK X h0 π' (aJh X.k s p) a w:=by
 unfold Ab.aJh;split
 .split
  .exact⟨π,R.a1S aJf λc v h=>ayH h⟩
  .exact⟨π,R.rows⟩
  .exact R.move _
 split
 .rename_i hx
  have oo:=a0O hx;generalize hv:AV.r (.c (.sl s.heap.length (.k 0) (.s 0) p.2.length true))=v
  generalize hk:([.a (.s 0) (p.2.map CK.om)]:af)=k
  have hk0:af.size k=0:=by rw[<-hk];simp[af.size,Sg.size,Sz.val]
  have aar:ka X.k [.t p.1 v,.new s.heap.length k] s=some {s with tmps:=s.tmps.set p.1 v,heap:=s.heap++[some k]}:=by
   have h1:v6 p.1 s.tmps.length=true:=by simpa using oo
   have h2:ww s.heap.length s.heap.length=true:=OG _;simp[ka,Up.ok,Up.app,h1,h2]
  have A:=JR aar;have hg:=OQ aar
  have aSt:π s.heap.length=none:=by
   cases hb:π s.heap.length with
   |none=>rfl
   |some q=>have:=R.dom _ (by rw[hb];simp:π s.heap.length≠none);omega
  have avD:=A7 aSt (0,0,af.size k,0);have hr:(RV.c CV.nils).rel π (a.tmps.getD p.1 undef):=by have:=R.rel.tm p.1;rwa [show s.gt.t p.1=_ from hx] at this
  have R0:=R.rel.LX avD (λb hb=>by simp only[AJ];rw[if_neg (by have:=R.hk;omega)])
  have R1:Rel X (·∈s.dz) (AJ π s.heap.length (0,0,af.size k,0)) ((Up.t p.1 v).hX s.gt) a w:=by
   refine⟨λi=> ?_,R0.nt,R0.df,R0.hp,R0.yd,R0.ft,R0.fr⟩;show(if i=p.1 then v else s.gt.t i).rel _ _;split
   .rename_i e;subst e;subst hv
    exact⟨_,_,_,_,qC _ _ _,by simp[cD.val,Sz.val],λ_=>by simp[cD.val,Sz.val,hk0],.inl ⟨rfl,none,hr⟩⟩
   .exact R0.tm i
  have R2:=R1.new (k:=k) (qC π s.heap.length (0,0,af.size k,0)) R.hk (by omega) (λi h1 h2=>by omega) (λj hj=>by omega) (λb' s' q' e' _ _ _ i h1 h2=>by omega) (λ_ i h1 h2=>by omega)
  exact⟨_,A.aYY R hg R2 (λb hb=>by
   by_cases e:b=s.heap.length
   .exact .inr ⟨by omega,by simp[cE];omega⟩
   .simp only[AJ,e,gG] at hb;exact .inl hb) R.dlt⟩
 .exact⟨π,R⟩
theorem iK.nils:∀(l:List (Nat×List CK)) {s:St} {π:Pi},iK X h0 π s a w->∃π',iK X h0 π' (l.foldl (Ab.aJh X.k) s) a w
 | [],_,π,R=>⟨π,R⟩
 |p::l,_,_,R=>let⟨_,R'⟩:=R.aJh p;iK.nils l R'
theorem iK.ack (I:In X h0)(R:iK X h0 π s a w){h:Hd}(hh:s.ack X.k h=some s'):∃π',iK X h0 π' s' a w:=by
 obtain⟨π1,R1⟩:=iK.nils h.nils (iK.aET h.aET R);exact R1.gc I (eT _) hh
theorem iK.head (I:In X h0)(R:iK X h0 π s a w){hs:Hs}{c:Code}(h:s.head X.k hs c=some s'):∃π',iK X h0 π' s' a w:=by
 unfold St.head at h;split at h
 .exact R.gc I (eT _) h
 .split at h
  .exact R.gc I (eT _) h
  .exact R.ack I h
def a1T:AX->Exit
 |.nrm=>.normal
 |.ex id=>.exit id
 |.ret=>.ret
def aY2 (X:Cx)(h0:List af){ρ:Type}(K:AX->St->Option ρ)(r:ρ)(Q:Exit->Act->World->Prop):Prop:=
 ∀e s π a w,iK X h0 π s a w->K e s=some r->Q (a1T e) a w
theorem aAA {c:Code}{hd:St->Option St}{ρ:Type}{body:St->(AX->St->Option ρ)->Option ρ}{K:AX->St->Option ρ}{r:ρ}{Q:Exit->Act->World->Prop}
  (hb:∀{s:St} {K:AX->St->Option ρ} {Q:Exit->Act->World->Prop} {π:Pi} {a:Act} {w:World},iK X h0 π s a w->body s K=some r->aY2 X h0 K r Q->c.wp P Q a w)
  (hh:∀{s s':St} {π:Pi} {a:Act} {w:World},iK X h0 π s a w->hd s=some s'->∃π',iK X h0 π' s' a w)(hQ:aY2 X h0 K r Q):
  ∀(n:Nat) {s:St} {π:Pi} {a:Act} {w:World},iK X h0 π s a w->iter hd body K n s=some r->Code.rounds P c Q n a w
 |0,_,_,_,_,_,h=>by cases h
 |n+1,s,π,a,w,R,h=>by
  have h:(body s λe s=>match e with
    |.nrm=>match hd s with
     |none=>none
     |some s=>yB s (iter hd body K n)
    |e=>K e s)=some r:=h
  simp only[LW] at h;rw[rounds_succ];refine hb R h λe s2 π2 a2 w2 R2 hK=> ?_;cases e with
  |nrm=>
   simp only at hK;split at hK
   .cases hK
   .rename_i s3 hs3
    obtain⟨π3,R3⟩:=hh R2 hs3;exact aAA hb hh hQ n R3 hK
  |ex id=>exact hQ _ _ _ _ _ R2 hK
  |ret=>exact hQ _ _ _ _ _ R2 hK
def OD (P:Program)(E:Env)(hs:Hs)(nt kk lf:Nat)(a:Code):Prop:=
 ∀σ,aqU hs a=some σ->σ.kk=kk->∀{ρ:Type} (s:St) (K:AX->St->Option ρ) (r:ρ),σ.run s K=some r->∃n,iter (λt=>t.head kk hs a) (G8 P E hs nt kk lf a) K n s=some r
def avi (P:Program)(E:Env)(hs:Hs)(nt kk lf:Nat)(b:Code):Prop:=
 ∀j,aAj hs b=some j->j.sm.kk=kk->∀{ρ:Type} (s:St) (K:AX->St->Option ρ) (r:ρ),j.sm.run s K=some r->G8 P E hs nt kk lf b s K=some r
def LK (P:Program)(E:Env)(hs:Hs)(nt kk lf:Nat):Code->Prop
 |.seq a b=>avi P E hs nt kk lf b/\LK P E hs nt kk lf a/\LK P E hs nt kk lf b
 |.cond _ a b=>LK P E hs nt kk lf a/\LK P E hs nt kk lf b
 |.block _ a=>LK P E hs nt kk lf a
 |.loop a=>OD P E hs nt kk lf a/\LK P E hs nt kk lf a
 |_=>True
omit [ax] in
theorem aUV {hd:List Hd}{d0:List Nat}{jn:List Jn}{rk:Option Hd}(a:Code):aqU ⟨hd,[],d0,jn,rk⟩ a=none:=by
 unfold aqU;split<;>rfl
omit [ax] in
theorem aUW {hd:List Hd}{sm:List Sm}{d0:List Nat}{rk:Option Hd}(a:Code):aAj ⟨hd,sm,d0,[],rk⟩ a=none:=rfl
omit [ax] in
theorem LK.nil (P:Program)(E:Env)(hd:List Hd)(d0:List Nat)(nt kk lf:Nat)(c:Code):LK P E ⟨hd,[],d0,[],none⟩ nt kk lf c:=by
 induction c with
 |seq a b iha ihb=>exact⟨(λj h=>by rw[aUW] at h;cases h),iha,ihb⟩
 |cond x a b iha ihb=>exact⟨iha,ihb⟩
 |block id a iha=>exact iha
 |loop a iha=>exact⟨(λσ h=>by rw[aUV] at h;cases h),iha⟩
 |_=>trivial
def BP {α:Type}(p:α->Prop):List α->Prop
 | []=>True
 |a::l=>p a/\BP p l
omit [ax] in
theorem BP.append {α:Type}{p:α->Prop}:∀{l m:List α},BP p (l++m)->BP p l/\BP p m
 | [],_,h=>⟨trivial,h⟩
 |_::_,_,⟨h1,h2⟩=>⟨⟨h1,(BP.append h2).1⟩,(BP.append h2).2⟩
omit [ax] in
theorem LK.of {P:Program}{E:Env}{hs:Hs}{nt kk lf:Nat}{c:Code}(h:BP (OD P E hs nt kk lf) (LH c))(hj:BP (avi P E hs nt kk lf) (LJ hs c)):LK P E hs nt kk lf c:=by
 induction c with
 |seq a b iha ihb=>
  obtain⟨j1,j2⟩:=BP.append hj;refine⟨λj hjn=> ?_,iha (BP.append h).1 (BP.append j2).1,ihb (BP.append h).2 (BP.append j2).2⟩;rw[hjn] at j1;exact j1.1 j hjn
 |cond x a b iha ihb=>exact⟨iha (BP.append h).1 (BP.append hj).1,ihb (BP.append h).2 (BP.append hj).2⟩
 |block id a iha=>exact iha h hj
 |loop a iha=>exact⟨h.1,iha h.2 hj⟩
 |_=>trivial
def To {D X ρ:Type}(step:D->(D->Option ρ)->(X->Option ρ)->Option ρ)(n:Nat):D->(X->Option ρ)->Option ρ:=
 Nat.rec (motive:=λ_=>D->(X->Option ρ)->Option ρ) (λ_ _=>none) (λ_ ih d x=>step d (λd=>ih d x) x) n
theorem BQ (hE:∀f F,E f=some F->Sound P f F)(hm:P.follows .mixedOrders=true)(I:In X h0){hs:Hs}{nt lf:Nat}(ZW:nt<=X.N){ρ:Type}{r:ρ}:
  ∀(c:Code),LK P E hs nt X.k lf c->∀{s:St} {K:AX->St->Option ρ} {Q:Exit->Act->World->Prop} {π:Pi} {a:Act} {w:World},iK X h0 π s a w->G8 P E hs nt X.k lf c s K=some r->aY2 X h0 K r Q->c.wp P Q a w
 |.skip,hS,s,K,Q,π,a,w,R,h,hQ=>wp_skip (hQ .nrm _ _ _ _ R h)
 |.region id ops false,hS,s,K,Q,π,a,w,R,h,hQ=>by
  obtain⟨s1,dZ,hT,hK⟩:=L4 (by rw[R.len];exact ZW) (show LR P E nt X.k ops.toList ops.toList s [] (λs _=>K .nrm s)=some r from h);exact aLs hE hT R λa' w' π' R'=>hQ .nrm _ _ _ _ R' hK
 |.region id ops true,hS,s,K,Q,π,a,w,R,h,hQ=>by
  obtain⟨s1,dZ,hT,hK⟩:=L4 (by rw[R.len];exact ZW) (show LR P E nt X.k ops.toList ops.toList s [] (λs l=>match RG ops.toList 0&&RF (LQ ops.toList []) l 0 with
   |true=>K .nrm s
   |false=>none)=some r from h)
  split at hK
  .rename_i hok
   simp only[cq,List.nil_append] at hok;exact aLr hE hm hT hok.1 hok.2 R λa' w' π' R'=>hQ .nrm _ _ _ _ R' hK
  .cases hK
 |.seq x y,hS,s,K,Q,π,a,w,R,h,hQ=>by
  refine wp_seq (BQ hE hm I ZW x hS.2.1 R (show G8 P E hs nt X.k lf x s (λe s=>match e with
   |.nrm=>match aAj hs y with
    |none=>G8 P E hs nt X.k lf y s K
    |some j=>match s.ack X.k j.hd with
     |none=>none
     |some s=>yB s λs=>match ww j.sm.kk X.k with
      |true=>j.sm.run s K
      |false=>none
   |e=>K e s)=some r from h) λe s1 π1 a1 w1 R1 hK=> ?_)
  cases e with
  |nrm=>
   simp only at hK;split at hK
   .exact BQ hE hm I ZW y hS.2.2 R1 hK hQ
   .rename_i j hj
    simp only[LW] at hK;split at hK
    .cases hK
    .rename_i s2 WJ
     split at hK
     .rename_i hk
      obtain⟨π2,R2⟩:=R1.ack I WJ;exact BQ hE hm I ZW y hS.2.2 R2 (hS.1 j hj (beq_iff.1 hk) s2 K r hK) hQ
     .cases hK
  |ex id=>exact hQ _ _ _ _ _ R1 hK
  |ret=>exact hQ _ _ _ _ _ R1 hK
 |.cond (.tmp t) x y,hS,s,K,Q,π,a,w,R,h,hQ=>by
  have h:(match s.tmp t with
   |.r (.c (.f (.b z)))=>match z with
    |true=>G8 P E hs nt X.k lf x s K
    |false=>G8 P E hs nt X.k lf y s K
   |_=>none)=some r:=h
  split at h
  .rename_i z hz
   have hr:=R.rel.tm t;rw[show s.gt.t t=_ from hz] at hr;have hc:a.eval (.tmp t)=.bool z:=hr;cases z with
   |true=>exact wp_cond_true hc (BQ hE hm I ZW x hS.1 R h hQ)
   |false=>exact wp_cond_false hc (BQ hE hm I ZW y hS.2 R h hQ)
  .cases h
 |.block id x,hS,s,K,Q,π,a,w,R,h,hQ=>by
  refine wp_block (BQ hE hm I ZW x hS R (show G8 P E hs nt X.k lf x s (λe s=>match e with
   |.ex j=>match ww j id with
    |true=>K .nrm s
    |false=>K (.ex j) s
   |e=>K e s)=some r from h) λe s1 π1 a1 w1 R1 hK=> ?_)
  cases e with
  |nrm=>exact hQ _ _ _ _ _ R1 hK
  |ret=>exact hQ _ _ _ _ _ R1 hK
  |ex j=>
   simp only at hK;show if j=id then Q .normal a1 w1 else Q (.exit j) a1 w1
   split at hK
   .rename_i hj
    rw[if_pos (oK hj)];exact hQ .nrm _ _ _ _ R1 hK
   .rename_i hj
    rw[if_neg (λe=>by subst e;simp at hj)];exact hQ (.ex j) _ _ _ _ R1 hK
 |.loop x,hS,s,K,Q,π,a,w,R,h,hQ=>by
  have h:(match s.head X.k hs x with
   |none=>none
   |some s=>yB s λs=>match aqU hs x with
    |some σ=>match ww σ.kk X.k with
     |true=>σ.run s K
     |false=>none
    |none=>iter (λt=>t.head X.k hs x) (G8 P E hs nt X.k lf x) K lf s)=some r:=h
  simp only[LW] at h;split at h
  .cases h
  .rename_i s1 hs1
   obtain⟨π1,R1⟩:=R.head I hs1
   obtain⟨n,hn⟩:∃n,iter (λt=>t.head X.k hs x) (G8 P E hs nt X.k lf x) K n s1=some r:=by
    split at h
    .rename_i σ hσ
     split at h
     .rename_i hk
      exact hS.1 σ hσ (beq_iff.1 hk) s1 K r h
     .cases h
    .exact⟨lf,h⟩
   exact wp_loop_rounds n (aAA (hd:=λt=>t.head X.k hs x) (body:=G8 P E hs nt X.k lf x) (λR h hQ=>BQ hE hm I ZW x hS.2 R h hQ) (λR' h'=>R'.head I h') hQ n R1 hn)
 |.exit id,hS,s,K,Q,π,a,w,R,h,hQ=>wp_exit (hQ (.ex id) _ _ _ _ R h)
 |.ret,hS,s,K,Q,π,a,w,R,h,hQ=>by
  have h:(match hs.rk with
   |none=>K .ret s
   |some hd=>match s.ack X.k hd with
    |none=>none
    |some s=>yB s λs=>K .ret s)=some r:=h
  split at h
  .exact wp_ret (hQ .ret _ _ _ _ R h)
  .simp only[LW] at h;split at h
   .cases h
   .rename_i s2 WJ
    obtain⟨π2,R2⟩:=R.ack I WJ;exact wp_ret (hQ .ret _ _ _ _ R2 h)
 |.cond (.const _) _ _,_,_,_,_,_,_,_,_,h,_=>by cases h
 |.cond (.func _) _ _,_,_,_,_,_,_,_,_,h,_=>by cases h
 |.cond (.global _) _ _,_,_,_,_,_,_,_,_,h,_=>by cases h
 |.goto _,_,_,_,_,_,_,_,_,h,_=>by cases h
 |.label _,_,_,_,_,_,_,_,_,h,_=>by cases h
end
end Go.Ab
namespace Go.Ab
variable [ax]
section
variable {P:Program} {E:Env} {X:Cx} {h0:List af} {π:Pi} {s s':St} {a:Act} {w:World}
def aUd (tmps:Array Value):ResultVar->Sem Value
 |.tmp t=>pure (tmps.getD t undef)
 |.cell a t=>do loadVar t (<-asAddr (tmps.getD a undef))
omit [ax] in
theorem aOM (fn:Func)(tmps:Array Value):results fn tmps=(do
  let vs<-fn.results.mapM (aUd tmps)
  pure (if h:vs.size=1 then vs[0] else .tuple vs)):=by
 unfold results;rfl
theorem aUX (R:iK X h0 π s a w){r:ResultVar}{v:RV}(h:aT1 P s r=some v):∃x,(aUd a.tmps r).run P w=.ok x w/\v.rel π x:=by
 cases r with
 |tmp t=>
  simp only[aT1] at h;split at h
  .rename_i u hu
   cases h;have:=R.rel.tm t;rw[show s.gt.t t=_ from hu] at this;exact⟨_,rfl,this⟩
  .cases h
 |cell q t=>
  simp only[aT1] at h;split at h
  .rename_i b o m hu
   have hp:=R.rel.tm q;rw[show s.gt.t q=_ from hu] at hp;obtain⟨B,s1,q1,e,hb,hx,hm⟩:=hp
   have key:∀v l,aH (aaj P t b o m) s.gt v l->∃x,(aUd a.tmps (.cell q t)).run P w=.ok x w/\v.rel π x:=λv l hv=>by
    obtain⟨x,hx1,hx2⟩:=aH.aaj R.rel hv hb hm;refine⟨x,?_,hx2⟩;show(do loadVar t (<-asAddr (a.tmps.getD q undef))).run P w=_;rw[hx];simpa[asAddr] using hx1
   split at h
   .rename_i n' bS c h1 h2 h3
    split at h
    .rename_i hle
     simp only[nj] at h;obtain⟨k,hk,rfl⟩:=h;obtain⟨k1,k2⟩:=ON hk;refine key _ (.c b (ext (.k c) (.l 1) n'):: .z b::[]) ?_;unfold Ab.aaj;rw[h1,h2];show aH ((cL (Nat.ble n' m)).bind _) _ _ _;unfold cL;rw[hle];refine aH.test (aH.vw _ _ (St.aq1 h3) k1 (λhle j hj=> ?_) (.ret _ _));rw[k2 hle j hj];exact(St.aT3 h3 (by simp only[cD.val] at hle;omega)).symm
    .cases h
   .rename_i n' bS c h1 h2 h3
    split at h
    .rename_i hle
     split at h
     .rename_i v0 hk
      cases h;obtain⟨k1,k2⟩:=ON hk;refine key _ (.c b (ext (.k c) (.l 1) 1):: .z b::[]) ?_;unfold Ab.aaj;rw[h1,h2];show aH ((cL (Nat.ble 1 m)).bind _) _ _ _;unfold cL;rw[hle];refine aH.test (aH.vw _ _ (St.aq1 h3) k1 (λhle j hj=> ?_) (.ret _ _));rw[k2 hle j hj];exact(St.aT3 h3 (by simp only[cD.val] at hle;omega)).symm
     .cases h
    .cases h
   .cases h
  .cases h
theorem aFD (R:iK X h0 π s a w):∀{l:List ResultVar} {vs:List RV},ayt P s l=some vs->∃xs,(l.mapM (aUd a.tmps)).run P w=.ok xs w/\bn (RV.rel π) vs xs
 | [],vs,h=>by cases h;exact⟨[],by simp,trivial⟩
 |r::l,vs,h=>by
  simp only[ayt] at h;split at h
  .rename_i v kz h1 h2
   cases h;obtain⟨x,e1,r1⟩:=aUX R h1;obtain⟨xs,e2,r2⟩:=aFD R h2;exact⟨x::xs,by simp[List.mapM_cons,e1,e2],r1,r2⟩
  .cases h
theorem aLt (R:iK X h0 π s a w){fn:Func}{vs:List RV}(h:ayt P s fn.results.toList=some vs):∃x,(results fn a.tmps).run P w=.ok x w/\(one vs).rel π x:=by
 obtain⟨xs,e,r⟩:=aFD R h;have hlen:=r.length;rw[aOM];simp only[Array.mapM_eq_mapM_toList,Sem.run_bind,Sem.run_map,e,Result.andThen_ok,Sem.run_pure];match vs,xs,r with
 | [],[],r=>exact⟨_,rfl,#[],by simp,trivial⟩
 | [v],[x],r=>exact⟨x,by simp,r.1⟩
 |v::v'::vs,x::x'::xs,r=>exact⟨_,by simp,(x::x'::xs).toArray,rfl,r⟩
omit [ax] in
theorem aJB {α:Type}:∀{l:List (Option α)} {m:List α},aEX l=some m->l=m.map some
 | [],m,h=>by cases h;rfl
 |some x::l,m,h=>by
  simp only[aEX,nj] at h;obtain⟨m',h1,rfl⟩:=h;rw[aJB h1];rfl
 |none::l,m,h=>by cases h
omit [ax] in
theorem aJC (d:List Nat):∀(l:List (Option af)) (j0 j:Nat),(ajc d l j0)[j]? =(l[j]?).map λb=>match d.any (ww (j0+j)) with
  |false=>Ch.m7
  |true=>match b with
   |some b=>.set b
   |none=>.kill
 | [],_,_=>by simp[ajc]
 |b::l,j0,0=>by simp[ajc];rfl
 |b::l,j0,j+1=>by
  simp only[ajc,List.getElem?_cons_succ];rw[aJC d l (j0+1) j,show j0+1+j=j0+(j+1) by omega]
omit [ax] in
theorem any_beq {d:List Nat}{j:Nat}:d.any (ww j)=true↔j∈d:=by
 rw[ace];constructor
 .rintro ⟨y,hy,he⟩;rw[oK he];exact hy
 .exact λh=>⟨j,h,OG j⟩
omit [ax] in
theorem aAB (d:List Nat):∀(h:List af) (l:List (Option af)) (j0:Nat),l.length=h.length->(∀j b,j0+j∉d->l[j]? =some b->b=h[j]?)->after h (ajc d l j0)=l
 | [],[],_,_,_=>rfl
 |b::bs,o::l,j0,hl,hk=>by
  have ih:=aAB d bs l (j0+1) (by simpa using hl) λj b h1 h2=>by
   have:=hk (j+1) b (by rwa [show j0+(j+1)=j0+1+j by omega]) (by simpa using h2);simpa using this
  simp only[ajc];cases hd:d.any (ww j0) with
  |false=>
   have hn:j0∉d:=λh=>by rw[any_beq.2 h] at hd;cases hd
   have:=hk 0 o (by simpa using hn) rfl;simp only[aEF] at this;subst this;simp[after,ih]
  |true=>
   cases o with
   |none=>simp[after,ih]
   |some b'=>simp[after,ih]
abbrev aJD (_:Program)(π:Pi)(w0:World)(h:List af)(res:pS):Ending->World->Prop:=ub π w0 h res
theorem aSu (I:In X h0)(R:iK X h0 π s a w){fn:Func}{e:AX}{res:pS}(h:fin P fn X.k e s=some res):bodyPost P fn (aJD P X.p0 X.w0 h0 res) (a1T e) a w:=by
 have main:(match ayt P s fn.results.toList with
  |none=>none
  |some vs=>
   let x:=gcA X.k (one vs) []
   let y:=gcO X.k s.dz X.k (s.heap.take X.k) 0 x.2
   match gcN X.k s.heap 1000 0 y.2 [] with
   |some z=>match aEX z.1 with
    |some news=>some {val:=x.1,yM:=ajc s.dz y.1 0,news}
    |none=>none
   |none=>none)=some res->a.defers=[]/\∃v,(results fn a.tmps).run P w=.ok v w/\aJD P X.p0 X.w0 h0 res (.returned v) w:=by
  intro h;split at h
  .cases h
  rename_i vs hvs
  simp only at h;split at h
  .rename_i z hz
   split at h
   .rename_i news a2M
    cases h;obtain⟨v,oH,hv⟩:=aLt R hvs;have G:=ayG X.k (one vs) [];have ok0:=G.ok ⟨List.nodup_nil,λ_ h=>by cases h⟩;obtain⟨q1,q2,q3,q4,q5⟩:=aOK I R (eT _) R.hk ok0 hz;have hz1:=aJB a2M;obtain⟨o1,o2,o3,o4⟩:=apM X.k s.dz X.k (s.heap.take X.k) 0 (gcA X.k (one vs) []).2;generalize hy:gcO X.k s.dz X.k (s.heap.take X.k) 0 (gcA X.k (one vs) []).2=y at*
    have hyl:y.1.length=X.k:=by rw[o3];have:=R.hk;simp;omega
    have hhl:=I.k
    have hnl:z.2.length=news.length:=by
     have e1:(y.1++z.1).length=y.1.length+z.1.length:=by simp
     have e2:z.1.length=news.length:=by rw[hz1];simp
     omega
    have a0P:after h0 (ajc s.dz y.1 0)=y.1:=aAB s.dz h0 y.1 0 (by omega) λj b h1 h2=>by
     have hj:j<y.1.length:=(me.1 h2).1;have h3:=q4 j (by omega) (by omega) (by simpa using h1);rw[UT hj,h2] at h3;have h4:=R.drt j (by omega) (by simpa using h1);rw[<-h4,<-h3];rfl
    have a2N:(⟨(gcA X.k (one vs) []).1,ajc s.dz y.1 0,news⟩:pS).heap h0=y.1++z.1:=by
     unfold pS.heap;simp only;rw[a0P,hz1]
    have aFE:∀B i,Df X.p0 X.k (·∈s.dz) B i->Df X.p0 h0.length (Tl (ajc s.dz y.1 0)) B i:=by
     rintro B i ⟨b,s1,qq,e1,hb,hd,hp,i1,i2⟩
     refine⟨b,s1,qq,e1,by omega,?_,hp,i1,i2⟩;unfold Tl;rw[aJC,hI,any_beq.2 hd];have:y.1[b]? =some (y.1[b]'(by omega)):=kT _;rw[this];cases y.1[b]'(by omega)<;>simp
    refine⟨R.rel.df,v,oH,L5 π X.k z.2,v,rfl,λb p hp=> ?_,?_,?_,R.rel.fr.mono λB i _ h=>aFE B i h,λb hb=> ?_,λb B s1 qq e1 hb hp hB i i1 i2=> ?_⟩
    .have hb:=I.d b (by rw[hp];simp);unfold L5;rw[if_pos hb,R.rel.yd b hb];exact hp
    .exact AV.dR q1.ext _ _ (G.rel π v hv)
    .rw[a2N];exact q2
    .unfold L5 at hb;split at hb
     .simp only;omega
     .cases hm:z.2[b-X.k]? with
      |none=>rw[hm] at hb;exact absurd rfl hb
      |some b0=>have:=(me.1 hm).1;simp only;omega
    .have uW:=hp;unfold L5 at uW;rw[if_neg (by omega)] at uW;cases hm:z.2[b-X.k]? with
     |none=>rw[hm] at uW;cases uW
     |some b0=>
      rw[hm] at uW;have oo:=(me.1 hm).1
      have hzb:hZ (y.1++z.1) b≠none:=by
       unfold hZ;rw[aen (by omega),hyl,hz1,Cb,kT (show b-X.k<news.length by omega)];simp
      rcases q5 b hzb with⟨h1,_⟩| ⟨b1,h1,h2,h3,h4⟩
      .omega
      .rw[hm] at h2;cases h2;exact aFE B i (R.rel.ft b0 B s1 qq e1 h3 h4 uW hB i i1 i2)
   .cases h
  .cases h
 cases e with
 |nrm=>exact main h
 |ret=>exact main h
 |ex id=>cases h
def tOf:Option pS->T
 |some r=>.leaf r
 |none=>.fail
theorem aSv (hE:∀f F,E f=some F->Sound P f F)(hm:P.follows .mixedOrders=true){hs:Hs}{lf:Nat}{f:FuncId}(aON:∀fn c kk,P.funcs[f]? =some fn->fn.body=some c->LK P E hs fn.ntmps kk lf c)(hc:∀args w,(callFunc f args).run P w=.ok (.enter f args) w):Sound P f λargs h=>tOf (den P E hs lf f args h):=by
 intro args h res uc w π vs lV hH ky;refine .inl ⟨hc _ _,?_⟩
 have uc:den P E hs lf f args h=some res:=by
  have uc:(tOf (den P E hs lf f args h)).eval=some res:=uc;cases hd:den P E hs lf f args h with
  |none=>rw[hd] at uc;cases uc
  |some r=>rw[hd] at uc;exact uc
 unfold den at uc;split at uc
 .cases uc
 rename_i fn hf
 split at uc
 .cases uc
 rename_i c hb
 split at uc
 case h_1=>cases uc
 rename_i aSw
 have aSw:∀b,b∈hs.dz->b<h.length:=λb hb=>uM.1 (ayn.1 aSw b hb)
 rw[LW] at uc;have hlen:=lV.length;refine calls_of_wp hf hb ?_;let X:Cx:={w0:=w,k:=h.length,p0:=π,N:=(start fn args h hs.dz).tmps.length}
 have I:In X h:=⟨rfl,hH,ky⟩
 have R:iK X h π (start fn args h hs.dz) {tmps:=vs++Array.replicate (fn.ntmps-vs.size) undef,defers:=[]} w:=by
  refine⟨⟨λi=> ?_,by simp[X,start];simp at hlen;omega,rfl,hH,λ_ _=>rfl,λb B s q e hk hz hp=> ?_,cj.refl _ _⟩,rfl,λb hb=>by simpa[start] using ky b hb,λb hb _=> ?_,by simp[start,X],λb hb=>aSw b hb⟩
  .show(alO (args++List.replicate (fn.ntmps-args.length) udf) i).rel π ((vs++Array.replicate (fn.ntmps-vs.size) undef).getD i undef);rw[A5];simp only[WA] at hlen;rw[aqW];simp only[List.getD];rcases pQ i args.length with hi|hi
   .have e1:args[i]? =some (args[i]'hi):=kT _;obtain⟨x,hx,hr⟩:=lV.get e1;rw[UT hi,e1,Array.getElem?_append_left (by omega),<-Wz,hx];exact hr
   .rw[aen hi,Array.getElem?_append_right (by omega),List.getElem?_replicate,Array.getElem?_replicate,hlen];split<;>exact atE π
  .exact absurd (ky b (by rw[hp];simp)) (by simp only[X] at hk;omega)
  .show((h.map some)[b]?).getD none=h[b]?;rw[Cb];cases h[b]? <;>rfl
 exact BQ hE hm I (nt:=fn.ntmps) (by simp[X,start];omega) c (aON fn c h.length hf hb) R uc λe s π a w R hK=>aSu I R hK
structure pS.wk (h:List af)(r r':pS):Prop where
 val:r.val=r'.val
 news:r.news=r'.news
 yM:∀(j:Nat) (b:af),(after h r.yM)[j]? =some (some b)->∃b':af,(after h r'.yM)[j]? =some (some b')/\af.size b'=af.size b/\∀i,i<af.size b->af.get b i=af.get b' i
 m7:∀j:Nat,r.yM[j]? =some .m7->r'.yM[j]? =some .m7
omit [ax] in
theorem pS.wk.refl (h:List af)(r:pS):r.wk h r:=⟨rfl,rfl,λj b hb=>⟨b,hb,rfl,λ_ _=>rfl⟩,λ_ h=>h⟩
theorem Sound.weaken {f:FuncId}{F F0:Ff}(S:Sound P f F0)(hw:∀args h r,(F args h).eval=some r->∃r',(F0 args h).eval=some r'/\r.wk h r'):Sound P f F:=by
 intro args h res uc w π vs lV hH ky;obtain⟨r',hr',W⟩:=hw args h res uc
 suffices key:∀e w',ub π w h r' e w'->ub π w h res e w' by
  rcases S args h r' hr' w π vs lV hH ky with⟨S1,S2⟩| ⟨v,S1,S2⟩
  .exact .inl ⟨S1,Calls.mono S2 key⟩
  .exact .inr ⟨v,S1,key _ _ S2⟩
 rintro e w' ⟨π',v,rfl,hx,hv,hH',hF,hd,hi⟩
 have aFE:∀B i,Df π h.length (Tl r'.yM) B i->Df π h.length (Tl res.yM) B i:=by
  rintro B i ⟨b,s1,qq,e1,hb,hD,hp,i1,i2⟩
  exact⟨b,s1,qq,e1,hb,λhk=>hD (W.m7 b hk),hp,i1,i2⟩
 have src:∀b n,hZ (res.heap h) b=some n->∃k k',(res.heap h)[b]? =some (some k)/\af.size k=n/\(r'.heap h)[b]? =some (some k')/\af.size k'=n/\∀i,i<n->af.get k i=af.get k' i:=λb n hn=>by
  unfold hZ at hn;cases hg:(res.heap h)[b]? with
  |none=>rw[hg] at hn;cases hn
  |some o=>
   rw[hg] at hn;cases o with
   |none=>cases hn
   |some k=>
    have hkn:af.size k=n:=by simpa using hn
    rcases pQ b h.length with hb|hb
    .rw[DU hb] at hg;obtain⟨k',h1,h2,h3⟩:=W.yM b k hg;exact⟨k,k',rfl,hkn,by rw[DU hb];exact h1,by omega,λi hi=>h3 i (by omega)⟩
    .refine⟨k,k,rfl,hkn,?_,hkn,λ_ _=>rfl⟩;unfold pS.heap at hg ⊢;rw[aen (by rw[nR];exact hb),nR] at hg ⊢;rw[<-W.news];exact hg
 refine⟨π',v,rfl,hx,by rw[W.val];exact hv,⟨hH'.am,λb B s1 q1 e1 hz hp BN=> ?_,λb n hn=> ?_,λb b' B s1 q1 e1 s2 q2 e2 oM hz uN=> ?_⟩,hF.mono λB i _ h=>aFE B i h,by rw[W.news];exact hd,λb B s1 qq e1 hb hp hB i i1 i2=>aFE B i (hi b B s1 qq e1 hb hp hB i i1 i2)⟩
 .cases hn:hZ (res.heap h) b with
  |none=>exact absurd hn hz
  |some n=>
   obtain⟨k,k',_,_,h3,_⟩:=src b n hn;exact hH'.lb b B s1 q1 e1 (by rw[aaw h3];simp) hp BN
 .obtain⟨k,k',h1,h2,h3,h4,h5⟩:=src b n hn;have hz:hZ (r'.heap h) b=some n:=by rw[<-h4];exact aaw h3
  obtain⟨B,s1,e1,hp,hle,m1,m2⟩:=hH'.hp b n hz;refine⟨B,s1,e1,hp,hle,m1,λj hj=> ?_⟩;obtain⟨x,hx1,hx2⟩:=m2 j hj;rw[agV h3 (by omega)] at hx2;exact⟨x,hx1,by rw[agV h1 (by omega),h5 j hj];exact hx2⟩
 .have nn:∀b,hZ (res.heap h) b≠none->hZ (r'.heap h) b≠none:=λb hb=>by
   cases hn:hZ (res.heap h) b with
   |none=>exact absurd hn hb
   |some n=>obtain⟨k,k',_,_,h3,_⟩:=src b n hn;rw[aaw h3];simp
  exact hH'.dj b b' B s1 q1 e1 s2 q2 e2 oM (nn b hz) (nn b' uN)
end
end Go.Ab
namespace Go.Ab
variable [ax]
open Go.ChangeShapes Go.WideShapes Go.ChangeAt Go.RowKit
def Gj (P:Program)(f:FuncId):Bool:=match P.funcs[f]? with
 |some fn=> !(fn.name=="runtime.NumGoroutine")&&fn.body.isSome
 |none=>false
omit [ax] in
theorem H8 {P:Program}{f:FuncId}(h:Gj P f=true)(args:Array Value)(w:World):(callFunc f args).run P w=.ok (.enter f args) w:=by
 unfold Gj at h;split at h
 .rename_i fn hf
  simp only[cq,oL] at h;cases hb:fn.body with
  |none=>rw[hb] at h;cases h.2
  |some c=>
   have h1:fn.name≠"runtime.NumGoroutine":=by simpa using h.1
   simp[callFunc,hf,h1,hb]
 .cases h
def Fg:List (Nat×Ff)->Env
 | [],_=>none
 |p::l,f=>match ww p.1 f with
  |true=>some p.2
  |false=>Fg l f
def JM (P:Program)(l:List (Nat×Ff)):Prop:=∀f F,Fg l f=some F->Sound P f F
theorem JM.nil (P:Program):JM P []:=λ_ _ h=>by cases h
theorem JM.cons {P:Program}{l:List (Nat×Ff)}{f:Nat}{F:Ff}(S:Sound P f F)(h:JM P l):JM P ((f,F)::l):=λg G hg=>by
 simp only[Fg] at hg;split at hg
 .rename_i hb
  cases hg;rw[<-oK hb];exact S
 .exact h g G hg
noncomputable def inl (P:Program) (l:List (Nat×Ff)) (hs:Hs) (lf:Nat) (f:FuncId):Ff:=λargs h=>tOf (den P (Fg l) hs lf f args h)
theorem aUY {P:Program}{l:List (Nat×Ff)}(hl:JM P l)(hm:P.follows .mixedOrders=true){hs:Hs}{lf:Nat}{f:FuncId}(aON:∀fn c kk,P.funcs[f]? =some fn->fn.body=some c->LK P (Fg l) hs fn.ntmps kk lf c)(hc:Gj P f=true):Sound P f (inl P l hs lf f):=
 aSv hl hm aON (H8 hc)
omit [ax] in
theorem aUZ {P:Program}{l:List (Nat×Ff)}{hs:Hs}{lf:Nat}{f:FuncId}{args:List AV}{h:List af}{r:pS}(hd:den P (Fg l) hs lf f args h=some r):(inl P l hs lf f args h).eval=some r:=by
 unfold inl;rw[hd];rfl
theorem Sound.by {P:Program}{f:FuncId}{F F0:Ff}(S:Sound P f F0)(h:∀args b r,(F args b).eval=some r->(F0 args b).eval=some r):Sound P f F:=
 S.weaken λargs b r hr=>⟨r,h args b r hr,.refl _ _⟩
omit [ax] in
theorem cj.kept {w w':World}(h:cj w (λ_ _=>False) w'):w.keptBut w' (λ_=>False):=by
 refine⟨h.os,h.output,λi hi=> ?_⟩;cases hh:w.heap[i]? with
 |none=>rw[h.obj i hi (by rw[hh];intro c t fz e;cases e),hh]
 |some x=>
  cases x with
  |cells c t fr=>
   obtain⟨c',e1,e2,e3⟩:=h.row i c t fr hh;rw[e1];exact⟨rfl,rfl,e2,λj _=>e3 j (λf=>f)⟩
  |map es clock=>
   rw[h.obj i hi (by rw[hh];intro c t fz e;cases e),hh];exact .inr ⟨rfl,rfl⟩
  |_=>rw[h.obj i hi (by rw[hh];intro c t fz e;cases e),hh]
omit [ax] in
theorem cj.sameAt {w w':World}(h:cj w (λ_ _=>False) w'){p:MemPlace}(hp:p.block<w.heap.size):w.sameAt w' p:=by
 cases p with
 |cell b off=>exact h.cl hp (λf=>f)
 |map b=>
  show w'.heap[b]? =w.heap[b]?;have hp:b<w.heap.size:=hp;cases hh:w.heap[b]? with
  |none=>rw[h.obj b hp (by rw[hh];intro c t fz e;cases e),hh]
  |some x=>
   cases x with
   |cells c t fr=>
    obtain⟨c',e1,e2,e3⟩:=h.row b c t fr hh;rw[e1];have:c'=c:=Array.ext_getElem? λj=>e3 j (λf=>f)
    rw[this]
   |_=>rw[h.obj b hp (by rw[hh];intro c t fz e;cases e),hh]
section
variable {H:Type} {enc:TypeId×Value->H}
omit [ax] in
theorem al7 {P:Program}(hl:laidOutB P=true){W W':World}(hf:cj W (λ_ _=>False) W'){sp:Nat->Bool}:∀{ts:List TypeId} {vs:List Value} {ds:List (DataW H)} {ps:List MemPlace},(∀t∈ts,P.readableRec t=true/\t<P.types.size)->
  DataW.TrodAll enc P W 0 (λ_=>true) true ts vs ds ps->(∀p∈ps,p.block<W.heap.size)->(∀p∈ps,sp p.block=true)->DataW.TrodAll enc P W' 0 sp true ts vs ds ps
 | [],vs,ds,ps,_,h,_,_=>by
  obtain⟨rfl,rfl,rfl⟩:=trodAll_nil h;rfl
 |t::ts,vs,ds,ps,ht,h,h1,h2=>by
  obtain⟨v,vs1,d,ds1,a,b,rfl,rfl,rfl,h3,h4⟩:=trodAll_cons h;refine⟨a,b,WideElems.Trod_stays hl (ht t (by simp)).1 (ht t (by simp)).2 h3 (λp hp=>hf.sameAt (h1 p (by simp[hp]))) (λp hp=>h2 p (by simp[hp])),?_,rfl⟩;exact al7 hl hf (λt ht'=>ht t (by simp[ht'])) h4 (λp hp=>h1 p (by simp[hp])) (λp hp=>h2 p (by simp[hp]))
omit [ax] in
theorem aU0 {C:Checked}{os:Os}{f:FuncId}{fn:Func}{s:ChangeSpec}{conds:List PathCond}{tb:TypeId}
  (own:ownKnob C.prog.godebug=none)(started:os.Started)(a0Q:C.prog.inits.idxOf? f=none)(hfn:C.prog.funcs[f]? =some fn)
  (hl:laidOutB C.prog=true)(uc:fn.resultTypes=#[tb])(htb:C.prog.underlying tb=some .bool)(a1U:fn.params.all (λt=>C.prog.readableRec t&&decide (t<C.prog.types.size))=true)(aY3:s.vars=[])
  (a2O:∀(ds:List (DataW H)),ds.length=fn.params.size->s.fn H ds={results:=[.lit (.bool true)],args:=ds})
  (witness:∃(w:World) (tape:Tape) (i:Input),w.os=os/\(w.forCall tape i).Shaped C.prog/\i.vars=[]/\Input.okWide C.prog (w.forCall tape i) .any w.heap.size f i/\
   s.pre6 enc C.prog fn conds false (w.forCall tape i).memory i.args/\({}:Assume).holds C.prog (lone (Frame.enter C.prog f i.args .normal) [] (w.forCall tape i)))
  (aU1:∀(W:World) (base:Nat) (args:Array Value) (ds:List (DataW H)) (ps:List MemPlace),args.size=fn.params.toList.length->
   (∀(j:Nat) t v,fn.params.toList[j]? =some t->args[j]? =some v->Value.okWide C.prog W .any base t v)->
   DataW.TrodAll enc C.prog W 0 (λ_=>true) true fn.params.toList args.toList ds ps->W.noneFrozen ps->(∀p∈ps,p.block<W.heap.size)->
   conds.all (PathCond.test C.prog ⟨fn.params.toList,ds,s.plain.varTypes C.prog,[]⟩)=true->
   Calls C.prog f args W λe W'=>e=.returned (.bool true)/\cj W (λ_ _=>False) W'):
  ReturnsInHanded {} C os f .any (s.pre6 enc C.prog fn conds false) (s.post enc C.prog fn false true false false):=by
 refine returnsInHanded_of_change own started a0Q hfn witness ?_;intro W base args ds gs before aFt hW a4l _;have hW':=hW;obtain⟨p,q,hA,hV,hpq,hfz,hnd⟩:=hW;rw[aY3] at hV;obtain⟨rfl,rfl⟩:=trodVars_none hV;simp only[List.append_nil] at hpq;subst hpq
 have hlen:∀{ts:List TypeId} {vs:List Value} {ds:List (DataW H)} {ps:List MemPlace},DataW.TrodAll enc C.prog W 0 (λ_=>true) true ts vs ds ps->vs.length=ts.length/\ds.length=ts.length:=by
  intro ts;induction ts with
  |nil=>intro vs ds ps h;obtain⟨rfl,rfl,rfl⟩:=trodAll_nil h;exact⟨rfl,rfl⟩
  |cons t ts ih=>intro vs ds ps h;obtain⟨v,vs1,d,ds1,a,b,rfl,rfl,rfl,_,h4⟩:=trodAll_cons h;have:=ih h4;exact⟨by simp[this.1],by simp[this.2]⟩
 obtain⟨l1,l2⟩:=hlen hA;have oo:∀x∈before,x.block<W.heap.size:=λx hx=>hW'.lt x hx
 refine(aU1 W base args ds before (by simpa using l1) (λj t v hj hv=>aFt j t v (by rw[<-Wz];exact hj) hv) hA hfz oo (by simpa using a4l)).mono λe W' ⟨he,hg⟩=> ?_;subst he;have hs:=a2O ds (by simpa using l2)
 have hr:∀t∈fn.params.toList,C.prog.readableRec t=true/\t<C.prog.types.size:=λt ht=>by
  rw[Array.all_eq_true_iff_forall_mem] at a1U;have:=a1U t (by simpa using ht);simpa using this
 refine⟨_,rfl,post_of_same (pa:=before) (pv:=[]) hW' (λb sp hd=> ?_) (λsp hsp=> ?_) (λsp _=> ?_) (by simp) (World.keptBut_mono (λ_ f=>f.elim) hg.kept) hg.fzn (ok_one uc rfl (okWide_bool_mk htb _))⟩
 .rw[List.append_nil,hs,uc];exact trodAll_cons_mk (shut_bool htb _) trodAll_mk0
 .rw[List.append_nil,hs];exact al7 hl hg hr hA oo hsp
 .rw[List.append_nil,hs,aY3];rfl
end
end Go.Ab
