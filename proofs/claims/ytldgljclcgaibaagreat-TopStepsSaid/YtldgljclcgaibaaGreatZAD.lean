/-
  Parts of the proof: AbG AbH AbI AbJ AbK AbL AbN AbR AbT AbU AbV
-/
import Derived.Test.YtldgljclcgaibaaGreatZAC
import Derived.ProofKit
import Derived.OpenShut
open Nat renaming beq→z9,blt→wl
open List renaming range→t7
set_option linter.unusedVariables false
set_option linter.unusedSimpArgs false
namespace Go.Ab
variable [aA]
section
variable {P:Program} {g:Gt}
theorem ax0 {air:TypeId->RV->RV->Rd Bool}{D:Nat}(aIW:∀t x y r l,aH (air t x y) g r l->∀(π:Pi) a b (w:World),x.rel π a->y.rel π b->(Op.equalIn D t a b).run P w=.ok r w){xs ys:aj}:∀{fs:List Field} {r:Bool} {l:List Fp},aH (aNd P air xs ys fs) g r l->
  ∀(π:Pi) (as bs:Array Value) (w:World),bq (CV.rel π) xs.list as.toList->bq (CV.rel π) ys.list bs.toList->(Op.eqFields D as bs fs).run P w=.ok r w
 | [],r,l,h,π,as,bs,w,_,_=>by cases h;simp[Op.eqFields]
 |f::fs,r,l,h,π,as,bs,w,ha,hb=>by
  simp only[aNd] at h;split at h
  .rename_i hn
   obtain⟨x,⟨_,h1⟩,_,h⟩:=aH.bind' h;obtain⟨y,⟨_,h2⟩,_,h⟩:=aH.bind' h;obtain⟨r1,⟨_,h3⟩,_,h⟩:=aH.bind' h;obtain⟨r2,⟨_,h4⟩,_,h⟩:=aH.bind' h;cases h;obtain⟨u,hu,hru⟩:=h1.Oq ha w;obtain⟨v,hv,hrv⟩:=h2.Oq hb w;have e3:=aIW _ _ _ _ _ h3 π u v w hru hrv;have e4:=ax0 aIW h4 π as bs w ha hb;simp only[Op.eqFields,if_pos hn,Sem.run_bind,hu,hv,e3,Result.andThen_ok];cases r1<;>simp[e4]
  .rename_i hn
   have e4:=ax0 aIW h π as bs w ha hb;simp only[Op.eqFields,if_neg hn];exact e4
theorem aIX {air:TypeId->RV->RV->Rd Bool}{D:Nat}{e:TypeId}{z:Nat}(aIW:∀t x y r l,aH (air t x y) g r l->∀(π:Pi) a b (w:World),x.rel π a->y.rel π b->(Op.equalIn D t a b).run P w=.ok r w){xs ys:aj}:∀{is:List Nat} {r:Bool} {l:List Fp},aH (aYY P air e z xs ys is) g r l->
  ∀(π:Pi) (as bs:Array Value) (w:World),bq (CV.rel π) xs.list as.toList->bq (CV.rel π) ys.list bs.toList->
   (forIn is ((none,()):Option Bool×Unit) (λi (_:Option Bool×Unit)=>(do
    let a<-part e as (i*z)
    let b<-part e bs (i*z)
    let c<-Op.equalIn D e a b
    if (!c)=true then pure (ForInStep.done (some false,())) else pure (ForInStep.yield (none,())):Sem (ForInStep (Option Bool×Unit))))).run P w=.ok (if r then(none,()) else(some false,())) w
 | [],r,l,h,π,as,bs,w,_,_=>by cases h;simp
 |i::is,r,l,h,π,as,bs,w,ha,hb=>by
  obtain⟨x,⟨_,h1⟩,_,h⟩:=aH.bind' h;obtain⟨y,⟨_,h2⟩,_,h⟩:=aH.bind' h;obtain⟨r1,⟨_,h3⟩,_,h⟩:=aH.bind' h;obtain⟨r2,⟨_,h4⟩,_,h⟩:=aH.bind' h;cases h;obtain⟨u,hu,hru⟩:=h1.Oq ha w;obtain⟨v,hv,hrv⟩:=h2.Oq hb w;have e3:=aIW _ _ _ _ _ h3 π u v w hru hrv;have e4:=aIX aIW h4 π as bs w ha hb;rw[List.forIn_cons];simp only[Sem.run_bind,hu,hv,e3,Result.andThen_ok];cases r1
  .simp
  .simp only[HW,yf,gq,Sem.run_pure,Result.andThen_ok,pM];exact e4
omit [aA] in
theorem aUA (c:cR)(j:Nat):iS [c] j=.f (c.at j):=by
 unfold iS;simp[Nat.mod_one]
theorem aNN {e:TypeId}{c c':cR}{n:Nat}{r:Bool}(hs:adT P e [c]=true)(hc:aEx n [c] [c']=some r){D D2:Nat}(hD:D=D2+1)(w:World):∃q:Nat->Bool,r=aTs n q/\
  ∀i a b,(c.at i).rel a->(c'.at i).rel b->(Op.equalIn D e a b).run P w=.ok (q i) w:=by
 subst hD;unfold adT at hs;split at hs
 .rename_i g1 hu hcc
  cases hcc;unfold aEx at hc;split at hc
  .rename_i h1 h2;cases h1
  .rename_i g h h1 h2
   cases h1;cases h2
   cases hc;refine⟨_,rfl,λi a b ha hb=> ?_⟩;have ha:a=.bool (g1 i):=ha;have hb:b=.bool (h i):=hb;subst ha hb;exact run_equalIn_bool w D2 e _ _ hu
  .cases hc
 .rename_i k0 k1 g1 hu hcc
  cases hcc;unfold aEx at hc;split at hc
  .rename_i k g k' h h1 h2
   cases h1;cases h2
   split at hc
   .rename_i hk
    subst hk;cases hc;refine⟨_,rfl,λi a b ha hb=> ?_⟩;have ha:a=.int k1 (g1 i):=ha;have hb:b=.int k1 (h i):=hb;subst ha hb;exact run_equalIn_int w D2 e k1 k0 _ _ hu
   .cases hc
  .rename_i h1 h2;cases h1
  .cases hc
 .cases hs
omit [aA] in
theorem aNO {e:TypeId}{c:cR}(hs:adT P e [c]=true):adS P e=some false:=by
 unfold adT at hs;unfold adS;split at hs
 .rename_i hu _;rw[hu]
 .rename_i hu _;rw[hu]
 .cases hs
theorem azQ {e:TypeId}{D n:Nat}{c c':cR}{q:Nat->Bool}{w:World}(aTL:adS P e=some false)(hq:∀i a b,(c.at i).rel a->(c'.at i).rel b->(Op.equalIn D e a b).run P w=.ok (q i) w){π:Pi}{as bs:Array Value}
  (ha:bq (CV.rel π) (aj.list [.a (.l n) [c]]) as.toList)(hb:bq (CV.rel π) (aj.list [.a (.l n) [c']]) bs.toList):∀{is:List Nat},(∀i∈is,i<n)->
   (forIn is ((none,()):Option Bool×Unit) (λi (_:Option Bool×Unit)=>(do
    let a<-part e as (i*1)
    let b<-part e bs (i*1)
    let c<-Op.equalIn D e a b
    if (!c)=true then pure (ForInStep.done (some false,())) else pure (ForInStep.yield (none,())):Sem (ForInStep (Option Bool×Unit))))).run P w=.ok (if is.all q then(none,()) else(some false,())) w
 | [],_=>by simp
 |i::is,hi=>by
  have cell:∀{c:cR} {as:Array Value},bq (CV.rel π) (aj.list [.a (.l n) [c]]) as.toList->∃x,(part e as (i*1)).run P w=.ok x w/\(c.at i).rel x:=λ{c as} ha=>by
   have hs:aj.size [.a (.l n) [c]]=n:=by simp[aj.size,Sg.size,Sz.val]
   have hin:=hi i (by simp);obtain⟨x,hx,hr⟩:=(jr ha).2 i (by rw[hs];exact hin);rw[aj.dN (by simp[Sg.size,Sz.val];exact hin),Sg.pN,aUA] at hr;refine⟨x,?_,hr⟩;have:as[i]? =some x:=by simpa using hx
   simp[part,Kg aTL,this]
  obtain⟨u,hu,hru⟩:=cell ha;obtain⟨v,hv,hrv⟩:=cell hb;have e3:=hq i u v hru hrv;have e4:=azQ aTL hq ha hb (is:=is) λj hj=>hi j (by simp[hj])
  rw[List.forIn_cons];simp only[Sem.run_bind,hu,hv,e3,Result.andThen_ok];cases hqi:q i
  .simp[hqi]
  .simp only[HW,yf,gq,Sem.run_pure,Result.andThen_ok,List.all_cons,hqi,pM];exact e4
theorem aFc:∀{d:Nat} {t:TypeId} {x y:RV} {r:Bool} {l:List Fp},aH (eqT P d t x y) g r l->∀(D:Nat),d<=D->∀(π:Pi) a b (w:World),x.rel π a->y.rel π b->(Op.equalIn D t a b).run P w=.ok r w
 |0,_,_,_,_,_,h,_,_,_,_,_,_,_,_=>by cases h
 |d+1,t,x,y,r,l,h,D,hD,π,a,b,w,hx,hy=>by
  obtain⟨D',rfl⟩:∃D',D=D'+1:=⟨D-1,by omega⟩;have ih:∀t x y r l,aH (eqT P d t x y) g r l->∀(π:Pi) a b (w:World),x.rel π a->y.rel π b->(Op.equalIn D' t a b).run P w=.ok r w:=λt x y r l h π a b w hx hy=>aFc h D' (by omega) π a b w hx hy
  unfold eqT at h;split at h
  .rename_i p q hu
   cases h;have hx:a=_:=hx;have hy:b=_:=hy;subst hx hy;exact run_equalIn_bool w D' t p q hu
  .rename_i k0 k p k' q hu
   have hx:a=_:=hx;have hy:b=_:=hy;subst hx hy;split at h
   .rename_i hk
    subst hk;cases h;exact run_equalIn_int w D' t k k0 p q hu
   .cases h
  .rename_i p q hu
   cases h;have hx:a=_:=hx;have hy:b=_:=hy;subst hx hy;rw[run_equalIn_string w D' t p q hu,beq_toListBytes]
  .rename_i e hu
   cases h;have hx:a=_:=hx;have hy:b=_:=hy;subst hx hy;simp[Op.equalIn,run_underlying hu]
  .rename_i e p1 p2 p3 hu
   cases h;obtain⟨B,s,q',e',_,hx,_⟩:=hx;have hy:b=_:=hy;subst hx hy;simp[Op.equalIn,run_underlying hu]
  .rename_i e p1 p2 p3 hu
   cases h;obtain⟨B,s,q',e',_,hy,_⟩:=hy;have hx:a=_:=hx;subst hx hy;simp[Op.equalIn,run_underlying hu]
  .rename_i fs xs ys hu
   split at h
   .cases h
   .rename_i hst
    obtain⟨as,rfl,has⟩:=hx;obtain⟨bs,rfl,hbs⟩:=hy;have hf:P.fieldsOf t=fs:=by simp[Program.fieldsOf,hu]
    rw[run_equalIn_struct w D' t as bs (by rw[hf];exact hu) hst,hf];exact ax0 ih h π as bs w has hbs
  .rename_i n e xs ys hu
   obtain⟨z,⟨_,h1⟩,_,h⟩:=aH.bind' h;obtain⟨as,rfl,has⟩:=hx;obtain⟨bs,rfl,hbs⟩:=hy
   have e1:List.range' 0 [:n].size=t7 n:=by
    rw[List.range_eq_range'];simp[Std.Legacy.Range.size]
   split at h
   .rename_i r' ak7
    cases h;unfold aYZ at ak7;split at ak7
    .rename_i m c m' c'
     split at ak7
     .rename_i hc
      simp only[cL,beq_iff,fD] at hc;obtain⟨hd1,rfl,rfl,rfl,hsc⟩:=hc
      obtain⟨c0,rfl⟩:∃c0,c=[c0]:=by
       unfold adT at hsc;split at hsc
       .exact⟨_,rfl⟩
       .exact⟨_,rfl⟩
       .cases hsc
      obtain⟨c1,rfl⟩:∃c1,c'=[c1]:=by
       unfold aEx at ak7;split at ak7
       .exact⟨_,rfl⟩
       .exact⟨_,rfl⟩
       .cases ak7
      obtain⟨q,hq1,hq2⟩:=aNN hsc ak7 (show D'=D'-1+1 by omega) w;have key:=azQ (P:=P) (aNO hsc) hq2 has hbs (is:=t7 m') (λi hi=>List.mem_range.1 hi);simp only[Op.equalIn,Sem.run_bind,run_underlying hu,Result.andThen_ok,run_sizeOf h1.eE,Std.Legacy.Range.forIn_eq_forIn_range'];rw[e1,key,hq1];unfold aTs;cases(t7 m').all q<;>simp
     .cases ak7
    .cases ak7
   .have key:=aIX ih h π as bs w has hbs;simp only[Op.equalIn,Sem.run_bind,run_underlying hu,Result.andThen_ok,run_sizeOf h1.eE,Std.Legacy.Range.forIn_eq_forIn_range'];rw[e1,key];cases r<;>simp
  .cases h
theorem aZr {t:TypeId}{x y:RV}{r:Bool}{l:List Fp}(h:aH (eqV P t x y) g r l)(π:Pi)(a b:Value)(w:World)(hx:x.rel π a)(hy:y.rel π b):
  (∀(op:BinOp) (p q:Operand),(eqGuard op t p q a b).run P w=.ok () w)/\(binOp .eql t a b).run P w=.ok (.bool r) w/\(binOp .neq t a b).run P w=.ok (.bool (!r)) w:=by
 unfold eqV at h;split at h
 .rename_i xs ys
  split at h
  .cases h
  .rename_i hg
   obtain⟨as,rfl,has⟩:=hx;obtain⟨bs,rfl,hbs⟩:=hy;have e:=aFc (x:=.agg xs) (y:=.agg ys) h 10000 (by omega) π (.agg as) (.agg bs) w ⟨as,rfl,has⟩ ⟨bs,rfl,hbs⟩;refine⟨λop p q=>run_eqGuard_agg w op t p q as bs hg,?_,?_⟩
   .rw[run_eql_struct,e];rfl
   .rw[run_neq_struct,e];rfl
 .cases h
 .cases h
 .cases h
 .cases h
 .have e:=aFc h 10000 (by omega) π a b w hx hy;have e':(Op.equal t a b).run P w=.ok r w:=e;unfold eqT at h;split at h
  .have hx:a=_:=hx;have hy:b=_:=hy;subst hx hy;have:=auN (by intros;simp) (by intros;simp) (by intros;simp) (by intros;simp) e';exact⟨λop p q=>aHj op t p q _ _ w,this⟩
  .exfalso;simp_all
  .exfalso;simp_all
  .have hx:a=_:=hx;have hy:b=_:=hy;subst hx hy;have:=auN (by intros;simp) (by intros;simp) (by intros;simp) (by intros;simp) e';exact⟨λop p q=>agh op t p q _ _ w,this⟩
  .obtain⟨B,s,q',e',_,hx,_⟩:=hx;have hy:b=_:=hy;subst hx hy;have:=auN (by intros;simp) (by intros;simp) (by intros;simp) (by intros;simp) e;exact⟨λop p q=>agh op t p q _ _ w,this⟩
  .obtain⟨B,s,q',e',_,hy,_⟩:=hy;have hx:a=_:=hx;subst hx hy;have:=auN (by intros;simp) (by intros;simp) (by intros;simp) (by intros;simp) e;exact⟨λop p q=>agh op t p q _ _ w,this⟩
  .exfalso;simp_all
  .exfalso;simp_all
  .cases h
end
end Go.Ab
namespace Go.Ab
variable [aA]
section
variable {P:Program} {E:Env} {X:Cx} {D:Nat->Prop} {g:Gt}
theorem aIY (hE:∀f F,E f=some F->Sound P f F){o:Oper}{aL:Nat}{us:List Up}{fp:List Fp}(h:aH (aop P E o aL) g us fp):AU P o X D aL us g:=by
 unfold aop at h;simp only[] at h;split at h
 .rename_i x qO;exact aEV (.inl qO) h
 .rename_i x qO;exact aEV (.inr qO) h
 .rename_i c x y qO;exact aRu qO h
 .rename_i e qO;exact aNw qO h
 .rename_i e x qO;exact aUs qO h
 .rename_i t n c qO;exact aCf qO h
 .rename_i t ps qO;exact aNE qO h
 .rename_i t n ps qO;exact axW qO h
 .rename_i t x qO;exact aRv qO h
 .rename_i t x y qO;exact aNx qO h
 .rename_i x qO;exact aEZ qO h
 .rename_i op t x y yt qO
  obtain⟨r1,⟨_,h1⟩,_,h⟩:=aH.bind' h;obtain⟨r2,⟨_,h2⟩,_,h⟩:=aH.bind' h;obtain⟨v,⟨_,h3⟩,_,h⟩:=aH.bind' h;cases h;refine iG λπ a w R=> ?_;obtain⟨z,hz,hr⟩:=aUv h3 (λr l hr π a b w hx hy=>aZr hr π a b w hx hy) (h1.wT R) (h2.wT R) x y w;refine⟨z,?_,hr⟩;simp only[execOp,qO];rw[Sem.run_bind,hz];rfl
 .rename_i op t x qO;exact aRw qO h
 .rename_i s d x qO;exact aHk qO h
 .rename_i t x qO;exact aE0 qO h
 .rename_i f fs adR qO;exact aE1 qO h
 .rename_i t x lo hi qO;exact aNB qO h
 .rename_i t x i qO;exact aCd qO h
 .rename_i t x i qO;exact aNy qO h
 .rename_i t x i qO;exact aCe qO h
 .rename_i t x i qO;exact aNA qO h
 .rename_i x i qO;exact aHl qO h
 .rename_i c qO
  obtain⟨args,⟨l0,h1⟩,_,h⟩:=aH.bind' h;split at h
  .rename_i b hc
   unfold biV at h;split at h
   .exact aUx qO hc h1 rfl h
   .rename_i s x
    obtain⟨t,⟨_,h2⟩,_,h⟩:=aH.bind' h;obtain⟨_,⟨_,h3⟩,_,h⟩:=aH.bind' h;obtain⟨s',⟨_,h4⟩,_,h⟩:=aH.bind' h;obtain⟨x',⟨_,h5⟩,_,h⟩:=aH.bind' h;have h2:=h2.eE;have h3:=h3.cM
    have hts:c.argTypes=#[t,t]:=by
     split at h3
     .rename_i t1 t2 he
      have e:=lE h3;subst e;have e2:=a6c he;rw[e2] at h2;simp at h2
      rw[e2,h2]
     .cases h3
    exact aKU qO hc h1 rfl hts h4.asC h5.asC h
   .rename_i d x
    obtain⟨t,⟨_,h2⟩,_,h⟩:=aH.bind' h;obtain⟨d',⟨_,h4⟩,_,h⟩:=aH.bind' h;obtain⟨x',⟨_,h5⟩,_,h⟩:=aH.bind' h;exact aRz qO hc h1 rfl h2.eE h4.asC h5.asC h
   .exact aNG (λx y v l h=>aUy h) qO hc (a1G c.argTypes) h1 rfl h
   .exact aNG (λx y v l h=>aUz h) qO hc (a1H c.argTypes) h1 rfl h
   .cases h
  .rename_i fo hc
   obtain⟨fv,⟨_,h2⟩,_,h⟩:=aH.bind' h;obtain⟨fc,⟨_,h3⟩,_,h⟩:=aH.bind' h
   have aZp:∀(π:Pi) (x:Value),fv.rel π x->∃arr:Array Value,x=.func (.func fc.1) #[] arr/\bq (RV.rel π) fc.2 arr.toList:=by
    unfold a3h at h3;split at h3
    .cases h3;exact λπ x hx=>hx
    .cases h3;rintro π x ⟨B,s,q,e,hb,hx,hle⟩
     exact⟨_,hx,⟨⟨B,s,q,e,hb,rfl,hle⟩,trivial⟩⟩
    .cases h3
   exact aRB hE qO hc h1 h2 aZp h
  .cases h
 .cases h
end
end Go.Ab
namespace Go.Ab
variable [aA]
inductive abV (P:Program) (E:Env) (ops:List Oper) (o:Oper) (aL:Nat) (g:Gt):List Up->List Fp->Prop
 |run {us fp} (hg:o.guard=none) (h:aH (aop P E o aL) g us fp):abV P E ops o aL g us fp
 |aTM {us fp} (j:Nat) (want:Bool) (t:Tmp) (hg:o.guard=some (j,want)) (ht:Ot ops j=some t) (hx:g.t t=.r (.c (.f (.b want)))) (h:aH (aop P E o aL) g us fp):abV P E ops o aL g us (.t t::fp)
 |skip (j:Nat) (want:Bool) (t:Tmp) (hg:o.guard=some (j,want)) (ht:Ot ops j=some t) (hx:g.t t=.r (.c (.f (.b (!want))))∨g.t t=.tup []):abV P E ops o aL g (dW o.dst udf) [.t t]
omit [aA] in
theorem abV.local {P:Program}{E:Env}{ops:List Oper}{o:Oper}{aL:Nat}{g g':Gt}{us:List Up}{fp:List Fp}(h:abV P E ops o aL g us fp)(e:∀f∈fp,∀p,f.has p->g.at p=g'.at p):abV P E ops o aL g' us fp:=by
 cases h with
 |run hg h=>exact .run hg (h.local e)
 |aTM j want t hg ht hx h=>
  have e1:g.t t=g'.t t:=by simpa[Gt.at] using e (.t t) (by simp) (.t t) rfl
  exact .aTM j want t hg ht (e1▸hx) (h.local λf hf=>e f (by simp[hf]))
 |skip j want t hg ht hx=>
  have e1:g.t t=g'.t t:=by simpa[Gt.at] using e (.t t) (by simp) (.t t) rfl
  exact .skip j want t hg ht (e1▸hx)
inductive EV (P:Program) (E:Env) (ops:List Oper) (k:Nat):List Oper->St->List Tr->St->Prop
 |nil (s:St):EV P E ops k [] s [] s
 |cons {o rest s s1 s2 us fp tr dO} (hd:∀d,o.dst=some d->d<s.tmps.length) (h:abV P E ops o s.heap.length s.gt us fp) (hus:tr.us=us) (hfp:∀f∈fp,f∈tr.fp) (ha:j9 k us s=some s1) (ht:EV P E ops k rest s1 dO s2):EV P E ops k (o::rest) s (tr::dO) s2
omit [aA] in
theorem aoR {s:St}{t:Nat}{v:AV}(h:s.tmp t=v):{s with tmps:=s.tmps.set t v}=s:=by
 have:s.tmps.set t v=s.tmps:=by
  apply List.ext_getElem?
  intro i;rw[aEt];by_cases e:t=i
  .subst e;by_cases hl:t<s.tmps.length
   .rw[if_pos rfl,if_pos hl];rw[kT hl];unfold St.tmp at h;rw[Bm] at h;simp only[List.getD,kT hl,LD] at h;rw[h]
   .rw[if_pos rfl,if_neg hl,Kc (by omega)]
  .rw[if_neg e]
 rw[this]
omit [aA] in
theorem ak9 {k:Nat}:∀{us:List Up} {s s':St},j9 k us s=some s'->s'.tmps.length=s.tmps.length
 | [],s,s',h=>by simp[j9] at h;subst h;rfl
 |u::us,s,s',h=>by
  simp only[j9] at h;split at h
  .rw[ak9 h];cases u with
   |t i v=>simp[Up.app]
   |c b o v=>simp only[Up.app];split<;>first|rfl|(split<;>rfl)
   |_=>rfl
  .cases h
omit [aA] in
theorem LX {P:Program}{E:Env}{nt k:Nat}{ops:List Oper}{ρ:Type}:∀{rest:List Oper} {s:St} {l:List Tr} {c:St->List Tr->Option ρ} {r:ρ},nt<=s.tmps.length->LN P E nt k ops rest s l c=some r->
  ∃s' dO,EV P E ops k rest s dO s'/\c s' (l++dO)=some r
 | [],s,l,c,r,_,h=>⟨s,[],.nil s,by simpa[LN] using h⟩
 |o::rest,s,l,c,r,Zq,h=>by
  have go:∀(l0:List Fp) (hd:∀d,o.dst=some d->d<s.tmps.length),(∀us fp,aH (aop P E o s.heap.length) s.gt us fp->∃fp',abV P E ops o s.heap.length s.gt us fp'/\∀f∈fp',f∈fp.reverse++l0)->
    ((aop P E o s.heap.length).run s l0 λus fp=>match j9 k us s with
     |some s'=>LN P E nt k ops rest s' (l++[⟨fp,us⟩]) c
     |none=>none)=some r->∃s' dO,EV P E ops k (o::rest) s dO s'/\c s' (l++dO)=some r:=by
   intro l0 hd qO oD;obtain⟨us,fp,h1,h2⟩:=Rd.aRs oD;cases ha:j9 k us s with
   |none=>rw[ha] at h2;cases h2
   |some s1=>
    rw[ha] at h2;obtain⟨s2,dO,t1,t2⟩:=LX (by rw[ak9 ha];exact Zq) h2;obtain⟨fp',o1,o2⟩:=qO us fp h1;exact⟨s2,⟨fp.reverse++l0,us⟩::dO,.cons hd o1 rfl o2 ha t1,by simpa using t2⟩
  have skip:∀(j:Nat) (want:Bool) (t:Tmp) (hd:∀d,o.dst=some d->d<s.tmps.length),o.guard=some (j,want)->Ot ops j=some t->(s.gt.t t=.r (.c (.f (.b (!want))))∨s.gt.t t=.tup [])->
    (match j9 k (dW o.dst udf) s with
     |some s'=>LN P E nt k ops rest s' (l++[⟨[.t t],dW o.dst udf⟩]) c
     |none=>none)=some r->∃s' dO,EV P E ops k (o::rest) s dO s'/\c s' (l++dO)=some r:=by
   intro j want t hd hg ht hx oD;cases ha:j9 k (dW o.dst udf) s with
   |none=>rw[ha] at oD;cases oD
   |some s1=>
    rw[ha] at oD;obtain⟨s2,dO,t1,t2⟩:=LX (by rw[ak9 ha];exact Zq) oD;exact⟨s2,⟨[.t t],dW o.dst udf⟩::dO,.cons hd (.skip j want t hg ht hx) rfl (by simp) ha t1,by simpa using t2⟩
  simp only[LN,aNr,aES,Wl] at h;split at h
  .cases h
  .rename_i hdk
   have hd:∀d,o.dst=some d->d<s.tmps.length:=λd hd=>by
    unfold aY5 at hdk;rw[hd] at hdk;have h2:wl d nt=true:=hdk;exact aEs (uH.1 h2) Zq
   split at h
   .rename_i hg
    exact go [] hd (λus fp h=>⟨fp,.run hg h,by simp⟩) h
   .rename_i j want hg
    split at h
    .cases h
    .rename_i t ht
     split at h
     .rename_i x hx
      have goG:s.tmp t=.r (.c (.f (.b want)))->_:=λhx=>go [.t t] hd (λus fp h=>⟨.t t::fp,.aTM j want t hg ht hx h,by simp;intro a ha;exact .inl ha⟩)
      cases x with
      |true=>
       simp only[ak4] at h;split at h
       .cases want with
        |true=>
         simp only at h;rw[aoR hx] at h;exact goG hx h
        |false=>
         simp only at h;rw[aoR hx] at h;exact skip j false t hd hg ht (.inl hx) h
       .cases h
      |false=>
       simp only[ak4] at h;split at h
       .cases want with
        |true=>
         simp only at h;rw[aoR hx] at h;exact skip j true t hd hg ht (.inl hx) h
        |false=>
         simp only at h;rw[aoR hx] at h;exact goG hx h
       .cases h
     .rename_i hx
      exact skip j want t hd hg ht (.inr hx) h
     .cases h
omit [aA] in
theorem Bp {k b:Nat}{d:List Nat}{x:Nat}:x∈mark k b d↔x∈d∨(x=b/\b<k):=by
 unfold mark;split
 .rename_i h
  simp only[cL,Nat.blt_eq] at h;simp only[abN];constructor
  .rintro (rfl|h1)
   .exact .inr ⟨rfl,h.1⟩
   .exact .inl h1
  .rintro (h1| ⟨rfl,_⟩)
   .exact .inr h1
   .exact .inl rfl
 .rename_i h
  constructor
  .exact .inl
  .rintro (h1| ⟨rfl,hk⟩)
   .exact h1
   .have Lt:wl x k=true:=by simpa using hk
    have:d.any (z9 x)=true:=by
     by_cases ha:d.any (z9 x)=true
     .exact ha
     .rw[Lt] at h;simp_all
    obtain⟨y,hy,he⟩:=abM.1 this;rw[lE he];exact hy
structure aKX (k:Nat)(us:List Up)(s s':St):Prop where
 heap:s'.heap.length=s.heap.length+cH us
 tmps:s'.tmps.length=s.tmps.length
 sub:∀b,b∈s.dm->b∈s'.dm
 perm:∀u∈us,u.perm k (·∈s'.dm)
 mW:∀b,b<k->b<s.heap.length->b∉s'.dm->s'.bX b=s.bX b
omit [aA] in
theorem Up.a1K {k:Nat}{u:Up}{s:St}(h:u.ok s=true):aKX k [u] s (u.app k s):=by
 cases u with
 |t i v=>exact⟨rfl,by simp[Up.app],λ_ h=>h,λu hu=>by simp at hu;subst hu;trivial,λ_ _ _ _=>rfl⟩
 |c b lo vs=>
  simp only[Up.ok] at h;split at h
  .rename_i bX hb
   split at h
   case h_2=>cases h
   rename_i p hp
   have e:(Up.c b lo vs).app k s={s with heap:=s.heap.set b (some p.2),dm:=mark k b s.dm}:=by simp[Up.app,hb,hp]
   rw[e];refine⟨by simp[cH],rfl,λx hx=>Bp.2 (.inl hx),λu hu=> ?_,λb' fB hl hn=> ?_⟩
   .simp at hu;subst hu;exact λhk=>Bp.2 (.inr ⟨rfl,hk⟩)
   .have mX:b'≠b:=λe=>hn (Bp.2 (.inr ⟨e,e▸fB⟩))
    show((s.heap.set b _)[b']?).getD none=_;rw[auL (St.aKQ hb),if_neg mX];rfl
  .cases h
 |new b bX=>
  have hb:b=s.heap.length:=lE h;refine⟨by simp[Up.app,cH],rfl,λ_ h=>h,λu hu=>by simp at hu;subst hu;trivial,λb' _ hl _=> ?_⟩;show((s.heap++[some bX])[b']?).getD none=_;rw[aNn,if_neg (by omega)];rfl
 |kill b=>
  have hb:b<s.heap.length:=by have h:=h;simp[Up.ok,wl] at h;omega
  refine⟨by simp[Up.app,cH],rfl,λx hx=>Bp.2 (.inl hx),λu hu=> ?_,λb' fB hl hn=> ?_⟩
  .simp at hu;subst hu;exact λhk=>Bp.2 (.inr ⟨rfl,hk⟩)
  .have mX:b'≠b:=λe=>hn (Bp.2 (.inr ⟨e,e▸fB⟩))
   show((s.heap.set b none)[b']?).getD none=_;rw[auL hb,if_neg mX];rfl
omit [aA] in
theorem Up.aRD {k:Nat}{D D':Nat->Prop}(h:∀b,D b->D' b){u:Up}(p:u.perm k D):u.perm k D':=by
 cases u<;>first|trivial|exact λhk=>h _ (p hk)
omit [aA] in
theorem Kh {k:Nat}:∀{us:List Up} {s s':St},j9 k us s=some s'->aKX k us s s'
 | [],s,s',h=>by
  simp[j9] at h;subst h
  exact⟨rfl,rfl,λ_ h=>h,λu hu=>by simp at hu,λ_ _ _ _=>rfl⟩
 |u::us,s,s',h=>by
  simp only[j9] at h;split at h
  .rename_i hu
   have A:=Up.a1K (k:=k) hu;have B:=Kh h;refine⟨?_,B.tmps.trans A.tmps,λb hb=>B.sub _ (A.sub b hb),λv hv=> ?_,λb hb hl hn=> ?_⟩
   .rw[B.heap,A.heap,show cH (u::us)=cH [u]+cH us from FJ [u] us];omega
   .rcases abN.1 hv with rfl|hv
    .exact Up.aRD B.sub (A.perm v (by simp))
    .exact B.perm v hv
   .have h1:=A.heap;rw[B.mW b hb (by omega) hn,A.mW b hb hl (λhx=>hn (B.sub b hx))]
  .cases h
end Go.Ab
namespace Go.Ab
variable [aA]
section
variable {P:Program} {E:Env} {X:Cx} {D:Nat->Prop}
theorem aFd {ops:Array Oper}{o:Oper}{j:Nat}{want:Bool}{t:Tmp}{g:Gt}{π:Pi}{a:Act}{w:World}(R:Rel X D π g a w)(hg:o.guard=some (j,want))(ht:Ot ops.toList j=some t):
  (g.t t=.r (.c (.f (.b want)))->Region.wanted o (yielded ops a.tmps)=true)/\((g.t t=.r (.c (.f (.b (!want))))∨g.t t=.tup [])->Region.wanted o (yielded ops a.tmps)=false):=by
 have hs:(ops[j]?).bind (·.dst)=some t:=by
  unfold Ot at ht;rw[<-Wb];exact ht
 have hr:=R.tm t
 have hy:∀b:Bool,a.tmps.getD t undef=.bool b->yielded ops a.tmps j=some b:=λb hb=>by
  unfold yielded;rw[hs];simp only[bC];rw[ap3] at hb;cases hx:a.tmps[t]? with
  |none=>rw[hx] at hb;simp[undef] at hb
  |some x=>rw[hx] at hb;simp at hb;subst hb;rfl
 refine⟨λh=> ?_,λh=> ?_⟩
 .rw[h] at hr;have:=hy want hr;simp[Region.wanted,hg,this]
 .rcases h with h|h
  .rw[h] at hr;have:=hy (!want) hr;simp only[Region.wanted,hg,this];cases want<;>rfl
  .rw[h] at hr;obtain⟨arr,hx,aNP⟩:=hr
   have:yielded ops a.tmps j=none:=by
    unfold yielded;rw[hs];simp only[bC];rw[ap3] at hx;cases hy:a.tmps[t]? with
    |none=>rfl
    |some x=>rw[hy] at hx;simp at hx;subst hx;rfl
   simp only[Region.wanted,hg,this];rfl
theorem azR (hE:∀f F,E f=some F->Sound P f F){ops:Array Oper}{i:Nat}{o:Oper}(hi:ops[i]? =some o){aL:Nat}{us:List Up}{fp:List Fp}{g:Gt}(h:abV P E ops.toList o aL g us fp)
  {π:Pi}{a:Act}{w:World}(R:Rel X D π g a w)(hk:X.k<=aL)(hfr:∀b,aL<=b->b<aL+cH us->π b=none)(hd:∀d,o.dst=some d->d<X.N)(hp:∀u∈us,u.perm X.k D){K:Act->World->Prop}{Q:Exit->Act->World->Prop}
  (hn:∀a' w' π',Ext π π'->(∀b,π' b≠none->π b≠none∨(aL<=b/\b<aL+cH us))->Rel X D π' (cI us g) a' w'->K a' w'):wpOp P ops Q i K a w:=by
 unfold wpOp;rw[hi];simp only[];cases h with
 |run hg h=>
  have:Region.wanted o (yielded ops a.tmps)=true:=by simp[Region.wanted,hg]
  rw[if_pos this];exact .inl (aIY hE h π a w K Q R hk hfr hd hp hn)
 |aTM j want t hg ht hx h=>
  rw[if_pos ((aFd R hg ht).1 hx)];exact .inl (aIY hE h π a w K Q R hk hfr hd hp hn)
 |skip j want t hg ht hx=>
  rw[if_neg (by rw[(aFd R hg ht).2 hx];simp)];exact hn _ _ π (Ext.refl _) (λb h=>.inl h) (R.dst hd (asX π))
structure im (X:Cx)(h0:List aj)(π:Pi)(s:St)(a:Act)(w:World):Prop where
 rel:Rel X (·∈s.dm) π s.gt a w
 len:s.tmps.length=X.N
 dom:∀b,π b≠none->b<s.heap.length
 drt:∀b,b<X.k->b∉s.dm->s.bX b=h0[b]?
 hk:X.k<=s.heap.length
 dlt:∀b,b∈s.dm->b<X.k
theorem aKX.aZs {X:Cx}{h0:List aj}{π π':Pi}{s s':St}{us:List Up}{a a':Act}{w w':World}(A:aKX X.k us s s')(R:im X h0 π s a w)(hg:s'.gt=cI us s.gt)(hR:Rel X (·∈s'.dm) π' (cI us s.gt) a' w')
  (kr:∀b,π' b≠none->π b≠none∨(s.heap.length<=b/\b<s.heap.length+cH us))(hdl:∀b,b∈s'.dm->b<X.k):im X h0 π' s' a' w':=by
 refine⟨hg▸hR,A.tmps.trans R.len,λb hb=> ?_,λb hb hn=> ?_,?_,hdl⟩
 .rw[A.heap];rcases kr b hb with h|h
  .have:=R.dom b h;omega
  .omega
 .rw[A.mW b hb (aEs hb R.hk) hn];exact R.drt b hb (λh=>hn (A.sub b h))
 .rw[A.heap];have:=R.hk;omega
omit [aA] in
theorem ala {k:Nat}:∀{us:List Up} {s s':St},j9 k us s=some s'->(∀b,b∈s.dm->b<k)->∀b,b∈s'.dm->b<k
 | [],s,s',h,hd,b,hb=>by simp[j9] at h;subst h;exact hd b hb
 |u::us,s,s',h,hd,b,hb=>by
  simp only[j9] at h;split at h
  .refine ala h (λb hb=> ?_) b hb;cases u with
   |t i v=>exact hd b hb
   |c b' lo vs=>
    simp only[Up.app] at hb;split at hb
    .split at hb
     .rcases Bp.1 hb with h| ⟨rfl,h⟩
      .exact hd b h
      .exact h
     .exact hd b hb
    .exact hd b hb
   |new b' bX=>exact hd b hb
   |kill b'=>
    rcases Bp.1 hb with h| ⟨rfl,h⟩
    .exact hd b h
    .exact h
  .cases h
theorem azS (hE:∀f F,E f=some F->Sound P f F){h0:List aj}{ops:Array Oper}{Q:Exit->Act->World->Prop}{s':St}(hQ:∀a' w' π',im X h0 π' s' a' w'->Q .normal a' w'):
  ∀{rest:List Oper} {i:Nat} {s:St} {dO:List Tr} {π:Pi} {a:Act} {w:World},EV P E ops.toList X.k rest s dO s'->(∀j,rest[j]? =ops[i+j]?)->im X h0 π s a w->wpOps P ops Q (List.range' i rest.length) a w
 | [],i,s,dO,π,a,w,h,_,R=>by
  cases h;exact hQ a w π R
 |o::rest,i,s,dO,π,a,w,h,hr,R=>by
  cases h with|@cons _ _ _ s1 _ us fp tr dO hd h hus hfp ha ht=>
  have A:=Kh ha;have hg:=Ox ha;have hio:ops[i]? =some o:=by simpa using(hr 0).symm
  rw[LF,List.range'_succ,wpOps_cons];refine azR hE hio h (R.rel.aKS λb hb=>A.sub b hb) R.hk (λb h1 _=> ?_) (λd h=>by rw[<-R.len];exact hd d h) A.perm (λa' w' π' hx kr hR=> ?_)
  .cases hb:π b with
   |none=>rfl
   |some p=>have:=R.dom b (by simp[hb]);omega
  .exact azS hE hQ ht (λj=>by have:=hr (j+1);rw[show i+1+j=i+(j+1) by omega,<-this];simp) (A.aZs R hg hR kr (ala ha R.dlt))
end
end Go.Ab
namespace Go.Ab
variable [aA]
def tch (us:List Up)(p:Pt):Prop:=∃u∈us,u.HZ p
def gl:List Tr->(Nat->Bool)->Nat->Gt->Gt
 | [],_,_,g=>g
 |tr::dO,L,i,g=>gl dO L (i+1) (if L i=true then cI tr.us g else g)
omit [aA] in
theorem aKY {p:Pt}:∀{dO:List Tr} {L L':Nat->Bool} {i:Nat} {g g':Gt},(∀(j:Nat) tr,dO[j]? =some tr->L (i+j)≠L' (i+j)->¬tch tr.us p)->g.at p=g'.at p->(gl dO L i g).at p=(gl dO L' i g').at p
 | [],_,_,_,_,_,_,h=>h
 |tr::dO,L,L',i,g,g',hd,h=>by
  simp only[gl];refine aKY (λj Oz hj mX=>hd (j+1) Oz (by simpa using hj) (by rw[show i+(j+1)=i+1+j by omega];exact mX)) ?_;have h0:=hd 0 tr rfl;rw[ky] at h0;by_cases h1:L i=true<;>by_cases h2:L' i=true
  .rw[if_pos h1,if_pos h2];exact agd (.inr h)
  .rw[if_pos h1,if_neg h2];have:=h0 (by rw[h1];exact λe=>h2 e.symm);rw[rv λu hu ht=>this ⟨u,hu,ht⟩];exact h
  .rw[if_neg h1,if_pos h2];have:=h0 (by rw[h2];exact h1);rw[rv λu hu ht=>this ⟨u,hu,ht⟩];exact h
  .rw[if_neg h1,if_neg h2];exact h
omit [aA] in
theorem aFe:∀(a b:List Tr) (L:Nat->Bool) (i:Nat) (g:Gt),gl (a++b) L i g=gl b L (i+a.length) (gl a L i g)
 | [],b,L,i,g=>by simp[gl]
 |x::a,b,L,i,g=>by
  simp only[List.cons_append,gl,LF];rw[aFe a b,show i+1+a.length=i+(a.length+1) by omega]
omit [aA] in
theorem aoS:∀{dO:List Tr} {L L':Nat->Bool} {i:Nat} {g:Gt},(∀j,j<dO.length->L (i+j)=L' (i+j))->gl dO L i g=gl dO L' i g
 | [],_,_,_,_,_=>rfl
 |tr::dO,L,L',i,g,h=>by
  simp only[gl];have:=h 0 (by simp);rw[ky] at this;rw[this];exact aoS λj hj=>by have:=h (j+1) (by simp;omega);rwa [show i+(j+1)=i+1+j by omega] at this
omit [aA] in
theorem auQ:∀{dO:List Tr} {L:Nat->Bool} {i:Nat} {g:Gt},(∀j,j<dO.length->L (i+j)=false)->gl dO L i g=g
 | [],_,_,_,_=>rfl
 |tr::dO,L,i,g,h=>by
  simp only[gl];have:=h 0 (by simp);rw[ky] at this;rw[this];exact auQ λj hj=>by have:=h (j+1) (by simp;omega);rwa [show i+(j+1)=i+1+j by omega] at this
omit [aA] in
theorem aZt {dO:List Tr}{L L':Nat->Bool}{i:Nat}{tr:Tr}{g:Gt}(hi:dO[i]? =some tr)(h0:L i=false)(h1:L' i=true)(hL:∀j,j≠i->L' j=L j)
  (hap:∀(j:Nat) Oz,i<j->dO[j]? =some Oz->L j=true->∀p,tch tr.us p->¬tch Oz.us p):gl dO L' 0 g=cI tr.us (gl dO L 0 g):=by
 have od:=(lP.1 hi).1
 have a1L:dO=dO.take i++(tr::dO.drop (i+1)):=by
  have e:dO[i]=tr:=(lP.1 hi).2;rw[<-e,List.getElem_cons_drop,List.take_append_drop]
 have hlen:(dO.take i).length=i:=by simp;omega
 have key:∀M:Nat->Bool,gl dO M 0 g=gl (dO.drop (i+1)) M (i+1) (if M i=true then cI tr.us (gl (dO.take i) M 0 g) else gl (dO.take i) M 0 g):=λM=>by
  conv=>lhs;rw[a1L]
  rw[aFe,hlen,gP];rfl
 rw[key L',key L,if_pos h1,if_neg (by rw[h0];simp)];have e1:gl (dO.take i) L' 0 g=gl (dO.take i) L 0 g:=aoS λj hj=>by rw[hlen] at hj;exact hL _ (by omega)
 rw[e1];have e2:∀h,gl (dO.drop (i+1)) L' (i+1) h=gl (dO.drop (i+1)) L (i+1) h:=λh=>aoS λj _=>hL _ (by omega)
 rw[e2];apply Gt.aTD
 intro p
 have a4B:∀(j:Nat) Oz,(dO.drop (i+1))[j]? =some Oz->L (i+1+j)=true->∀p,tch tr.us p->¬tch Oz.us p:=λj Oz hj hl p hp=>by
  rw[SO] at hj;exact hap (i+1+j) Oz (by omega) hj hl p hp
 by_cases hp:tch tr.us p
 .have a1:=aKY (p:=p) (dO:=dO.drop (i+1)) (L:=L) (L':=λ_=>false) (i:=i+1) (g:=cI tr.us (gl (dO.take i) L 0 g)) (g':=cI tr.us (gl (dO.take i) L 0 g)) (λj Oz hj mX=>a4B j Oz hj (by simpa using mX) p hp) rfl;rw[auQ (L:=λ_=>false) (λ_ _=>rfl)] at a1;rw[a1];exact agd (.inl hp)
 .have Zq:∀u∈tr.us,¬u.HZ p:=λu hu ht=>hp ⟨u,hu,ht⟩
  rw[rv Zq];exact aKY (λj Oz _ mX=>absurd rfl mX) (rv Zq)
omit [aA] in
theorem aFf (acc:List Nat)(i:Nat):∀(l:List Edge) (m:Nat),Nat.testBit (l.foldl (aRm acc) m) i=true->
  Nat.testBit m i=true∨∃e∈l,Region.binds .any e=true/\(e.on=i∨Nat.testBit (acc.getD e.on 0) i=true)
 | [],m,h=>.inl h
 |e::l,m,h=>by
  rw[List.foldl_cons] at h;rcases aFf acc i l _ h with h1| ⟨e',he',h1⟩
  .unfold aRm at h1;cases hb:Region.binds .any e with
   |false=>rw[hb] at h1;exact .inl h1
   |true=>
    rw[hb] at h1;simp only[Nat.testBit_or,afX,Nat.testBit_two_pow,j7] at h1;rcases h1 with(h1|h1)|h1
    .exact .inl h1
    .exact .inr ⟨e,by simp,hb,.inl h1⟩
    .exact .inr ⟨e,by simp,hb,.inr h1⟩
  .exact .inr ⟨e',by simp[he'],h1⟩
omit [aA] in
theorem aFg:∀(l:List Oper) (acc:List Nat),∃t,LM l acc=acc++t
 | [],acc=>⟨[],by simp[LM]⟩
 |o::l,acc=>by
  obtain⟨t,ht⟩:=aFg l (acc++[mask acc o]);exact⟨_,by rw[LM,ht,axJ]⟩
omit [aA] in
theorem aFh {i:Nat}:∀(l:List Oper) (acc:List Nat) (j:Nat) (o:Oper),l[j]? =some o->(∀e∈o.after.toList,Region.binds .any e=true->e.on<acc.length+j)->Nat.testBit ((LM l acc).getD (acc.length+j) 0) i=true->
  ∃e∈o.after.toList,Region.binds .any e=true/\(e.on=i∨(e.on<acc.length+j/\Nat.testBit ((LM l acc).getD e.on 0) i=true))
 | [],_,j,o,h,_,_=>by simp at h
 |o0::l,acc,0,o,h,he,hb=>by
  simp at h;subst h
  obtain⟨t,ht⟩:=aFg l (acc++[mask acc o0]);have hm:LM (o0::l) acc=acc++[mask acc o0]++t:=by rw[LM,ht]
  rw[hm] at hb ⊢;simp only[ky,axJ,List.getD,adQ (cP _),Nat.sub_self] at hb;simp only[List.singleton_append,aEo,LD] at hb;rcases aFf acc i _ 0 hb with h0| ⟨e,he',hbd,h1⟩
  .simp at h0
  .have od:=he e he' hbd;rw[ky] at od;refine⟨e,he',hbd,h1.imp id λh2=>⟨by omega,?_⟩⟩;rw[axJ];simp only[List.getD] at h2 ⊢;rw[Uu od];exact h2
 |o0::l,acc,j+1,o,h,he,hb=>by
  have e1:acc.length+(j+1)=(acc++[mask acc o0]).length+j:=by simp;omega
  rw[LM] at hb ⊢;rw[e1] at hb he ⊢;exact aFh l _ j o (by simpa using h) he hb
omit [aA] in
theorem abW:∀{l:List Oper} {i0:Nat},Rb l i0=true->∀(j:Nat) o,l[j]? =some o->∀e∈o.after.toList,Region.binds .any e=true->e.on<i0+j
 | [],_,_,j,o,h,_,_,_=>by simp at h
 |o0::l,i0,hk,0,o,h,e,he,hb=>by
  simp at h;subst h
  simp only[Rb,cL] at hk;have:=asK.1 hk.1 e he;rw[hb] at this;simp only[HW,Bool.false_or,Nat.blt_eq] at this;omega
 |o0::l,i0,hk,j+1,o,h,e,he,hb=>by
  simp only[Rb,cL] at hk;have:=abW hk.2 j o (by simpa using h) e he hb;omega
omit [aA] in
theorem abX {ms:List Nat}:∀{l:List Tr} {j0:Nat},Ra ms l j0=true->∀(i j:Nat) x y,i<j->l[i]? =some x->l[j]? =some y->Nat.testBit (ms.getD (j0+j) 0) (j0+i)=true∨x.af4 y=false
 | [],_,_,i,j,x,y,_,h,_=>by simp at h
 |x0::l,j0,hk,0,j,x,y,hij,hx,hy=>by
  simp at hx;subst hx
  simp only[Ra,cL] at hk;obtain⟨j',rfl⟩:∃j',j=j'+1:=⟨j-1,by omega⟩;have hy':l[j']? =some y:=by simpa using hy
  have hm:(y,j')∈l.zipIdx:=by
   rw[axG];exact⟨j',by simp[aEq,hy']⟩
  have:=asK.1 hk.1 (y,j') hm;simp only[afX,pL] at this;rw[show j0+(j'+1)=j0+1+j' by omega];exact this
 |x0::l,j0,hk,i+1,j,x,y,hij,hx,hy=>by
  simp only[Ra,cL] at hk;obtain⟨j',rfl⟩:∃j',j=j'+1:=⟨j-1,by omega⟩;have:=abX hk.2 i j' x y (by omega) (by simpa using hx) (by simpa using hy);rw[show j0+(j'+1)=j0+1+j' by omega,show j0+(i+1)=j0+1+i by omega];exact this
omit [aA] in
theorem aUB {x y:Tr}{p:Pt}{f:Fp}(hf:f∈y.fp)(hp:f.has p)(ht:tch x.us p):x.af4 y=true/\y.af4 x=true:=by
 obtain⟨u,hu,ht⟩:=ht;have h:=Fp.aEL hp ht;constructor
 .unfold Tr.af4;rw[afX];left;refine abM.2 ⟨u,hu,?_⟩;rw[afX];left;exact abM.2 ⟨f,hf,h⟩
 .unfold Tr.af4;rw[afX];right;refine abM.2 ⟨u,hu,?_⟩;exact abM.2 ⟨f,hf,h⟩
omit [aA] in
theorem aUC {x y:Tr}{p:Pt}(h1:tch x.us p)(h2:tch y.us p):x.af4 y=true:=by
 obtain⟨u,hu,ht⟩:=h1;obtain⟨v,hv,hs⟩:=h2;unfold Tr.af4;rw[afX];left;refine abM.2 ⟨u,hu,?_⟩;rw[afX];right;exact abM.2 ⟨v,hv,Up.aEL hs ht⟩
def AW (dO:List Tr):List Up:=dO.flatMap Tr.us
omit [aA] in
theorem aRE:∀(dO:List Tr) (i j0:Nat) (g:Gt),gl dO (λj=>decide (j<j0+i)) j0 g=cI (AW (dO.take i)) g
 | [],i,j0,g=>by simp[gl,AW,cI]
 |tr::dO,0,j0,g=>by
  rw[auQ (λj _=>by simp)];simp[AW,cI]
 |tr::dO,i+1,j0,g=>by
  simp only[gl];rw[if_pos (by simp)];have:=aRE dO i (j0+1) (cI tr.us g);rw[show j0+1+i=j0+(i+1) by omega] at this;rw[this];simp[AW,cI]
omit [aA] in
theorem a1M {dO:List Tr}{L:Nat->Bool}{g:Gt}(h:∀i,i<dO.length->L i=true):gl dO L 0 g=cI (AW dO) g:=by
 have:=aRE dO dO.length 0 g;rw[List.take_length] at this;rw[<-this];exact aoS λj hj=>by simp[h j hj];omega
omit [aA] in
theorem alb {k:Nat}:∀{us vs:List Up} {s s1 s2:St},j9 k us s=some s1->j9 k vs s1=some s2->j9 k (us++vs) s=some s2
 | [],vs,s,s1,s2,h,h'=>by simp[j9] at h;subst h;exact h'
 |u::us,vs,s,s1,s2,h,h'=>by
  simp only[j9,List.cons_append] at h ⊢;split at h
  .rename_i hu;exact alb h h'
  .cases h
omit [aA] in
theorem EV.app {P:Program}{E:Env}{ops:List Oper}{k:Nat}:∀{rest:List Oper} {s s':St} {dO:List Tr},EV P E ops k rest s dO s'->j9 k (AW dO) s=some s'/\dO.length=rest.length
 | [],s,s',dO,h=>by cases h;exact⟨rfl,rfl⟩
 |o::rest,s,s',dO,h=>by
  cases h with|@cons _ _ _ s1 _ us fp tr dO hd h hus hfp ha ht=>
  obtain⟨h1,h2⟩:=ht.app;refine⟨?_,by simp[h2]⟩;subst hus;show j9 k (tr.us++AW dO) s=some s';exact alb ha h1
omit [aA] in
theorem EV.at {P:Program}{E:Env}{ops:List Oper}{k:Nat}:∀{rest:List Oper} {s s':St} {dO:List Tr},EV P E ops k rest s dO s'->∀(i:Nat) o,rest[i]? =some o->∃tr fp,dO[i]? =some tr/\(∀f∈fp,f∈tr.fp)/\
   abV P E ops o (s.heap.length+cH (AW (dO.take i))) (cI (AW (dO.take i)) s.gt) tr.us fp/\(∀d,o.dst=some d->d<s.tmps.length)
 | [],_,_,_,_,i,o,h=>by simp at h
 |o0::rest,s,s',dO,h,i,o,ho=>by
  cases h with|@cons _ _ _ s1 _ us fp tr dO hd h hus hfp ha ht=>
  subst hus;cases i with
  |zero=>
   simp at ho;subst ho
   exact⟨tr,fp,rfl,hfp,by simpa[AW,cH,cI] using h,hd⟩
  |succ i=>
   obtain⟨Oz,fp',e1,e2,e3,e4⟩:=ht.at i o (by simpa using ho);have A:=Kh ha;refine⟨Oz,fp',by simpa using e1,e2,?_,λd h=>by rw[<-A.tmps];exact e4 d h⟩
   have hc:cH (AW (List.take (i+1) (tr::dO)))=cH tr.us+cH (AW (dO.take i)):=by
    simp only[List.take_succ_cons,AW,List.flatMap_cons,FJ]
   have hg:cI (AW (List.take (i+1) (tr::dO))) s.gt=cI (AW (dO.take i)) s1.gt:=by
    simp only[List.take_succ_cons,AW,List.flatMap_cons,Qj];rw[Ox ha]
   rw[hc,hg,<-CB,<-A.heap];exact e3
end Go.Ab
namespace Go.Ab
variable [aA]
section
variable {P:Program} {E:Env} {X:Cx}
omit [aA] in
theorem ax1 (dO:List Tr){i j:Nat}(h:i<=j):cH (AW (dO.take i))<=cH (AW (dO.take j)):=by
 obtain⟨d,rfl⟩:∃d,j=i+d:=⟨j-i,by omega⟩;rw[List.take_add,AW,AW,List.flatMap_append,FJ];omega
omit [aA] in
theorem Wq {dO:List Tr}{i:Nat}{tr:Tr}(h:dO[i]? =some tr):cH (AW (dO.take (i+1)))=cH (AW (dO.take i))+cH tr.us:=by
 have od:=(lP.1 h).1;have he:=(lP.1 h).2;rw[List.take_succ_eq_append_getElem od,he,AW,AW,List.flatMap_append,FJ];simp
omit [aA] in
theorem aqb {f f':Nat->Bool}{i:Nat}(h1:f i=true)(h2:f' i=false)(h:∀j,j≠i->f' j=f j):∀n,i<n->(t7 n).countP f=(t7 n).countP f'+1
 |0,hn=>by omega
 |n+1,hn=>by
  rw[List.range_succ,List.countP_append,List.countP_append];by_cases e:i=n
  .subst e
   have:(t7 i).countP f=(t7 i).countP f':=by
    apply List.countP_congr
    intro j hj;rw[h j (by have:=List.mem_range.1 hj;omega)]
   rw[this];simp[h1,h2]
  .rw[aqb h1 h2 h n (by omega),List.countP_singleton,List.countP_singleton,h n (Ne.symm e)];omega
theorem wpAny_all (hE:∀f F,E f=some F->Sound P f F){h0:List aj}{ops:Array Oper}{Q:Exit->Act->World->Prop}{s s':St}{dO:List Tr}(hT:EV P E ops.toList X.k ops.toList s dO s')
  (he:Rb ops.toList 0=true)(hp:Ra (LM ops.toList []) dO 0=true)(hlen:s.tmps.length=X.N)(hsk:X.k<=s.heap.length)(hdl:∀b,b∈s.dm->b<X.k)(hdr:∀b,b<X.k->b∉s.dm->s.bX b=h0[b]?)
  (hQ:∀a' w' π',im X h0 π' s' a' w'->Q .normal a' w'):
  ∀(fuel:Nat) (fA:Array Bool) (π:Pi) (a:Act) (w:World),fA.size=ops.size->(t7 ops.size).countP (λi=> !fA.getD i false)=fuel->
   (∀(j:Nat) o,ops[j]? =some o->fA.getD j false=true->∀e∈o.after,Region.binds .any e=true->fA.getD e.on false=true)->
   Rel X (·∈s'.dm) π (gl dO (λi=>fA.getD i false) 0 s.gt) a w->
   (∀b,π b≠none->b<s.heap.length∨∃(i:Nat) (tr:Tr),dO[i]? =some tr/\fA.getD i false=true/\s.heap.length+cH (AW (dO.take i))<=b/\b<s.heap.length+cH (AW (dO.take i))+cH tr.us)->
   wpAny P .any ops Q fuel fA a w:=by
 obtain⟨ZW,htl⟩:=hT.app;have A:=Kh ZW;have hn:dO.length=ops.size:=by rw[htl];simp
 have bef:∀(fA:Array Bool),(∀(j:Nat) o,ops[j]? =some o->fA.getD j false=true->∀e∈o.after,Region.binds .any e=true->fA.getD e.on false=true)->
   ∀(j:Nat) (o:Oper) (i:Nat),ops[j]? =some o->(∀e∈o.after,Region.binds .any e=true->fA.getD e.on false=true)->Nat.testBit ((LM ops.toList []).getD j 0) i=true->fA.getD i false=true:=by
  intro fA EB j;induction j using Nat.strongRecOn with
  |_ j ih=>
   intro o i ho aTN hb;have ho':ops.toList[j]? =some o:=by rw[Wb];exact ho
   obtain⟨e,he1,he2,h1⟩:=aFh ops.toList [] j o ho' (λe h1 h2=>by have:=abW he j o ho' e h1 h2;simpa using this) (by simpa using hb);have hl:=aTN e (Array.mem_toList_iff.1 he1) he2;rcases h1 with rfl| ⟨od,h1⟩
   .exact hl
   .simp only[List.length_nil,gP] at od;have hjs:j<ops.size:=(Array.getElem?_eq_some_iff.1 ho).1;have hoe:ops[e.on]? =some (ops[e.on]'(by omega)):=aip _;exact ih e.on od _ i hoe (EB e.on _ hoe hl) h1
 intro fuel;induction fuel with
 |zero=>
  intro fA π a w yZ aTJ EB R kr
  have aNP:∀i,i<ops.size->fA.getD i false=true:=λi hi=>by
   have:=List.countP_eq_zero.1 aTJ i (List.mem_range.2 hi);simpa using this
  refine⟨?_,hQ a w π ?_⟩
  .unfold Region.ready;rw[List.filter_eq_nil_iff];intro i hi;have hi:=List.mem_range.1 hi;have:=aNP i hi
   have e:fA.getD i true=true:=by
    simp only[ap3,aip (show i<fA.size by omega),LD] at this ⊢;exact this
   rw[e];simp
  .rw[a1M (λi hi=>aNP i (by omega))] at R;refine⟨(Ox ZW)▸R,A.tmps.trans hlen,λb hb=> ?_,λb hb hn'=> ?_,?_,ala ZW hdl⟩
   .rw[A.heap];rcases kr b hb with h| ⟨i,tr,htr,_,_,h2⟩
    .omega
    .have h3:=Wq htr;have h4:=ax1 dO (show i+1<=dO.length from(lP.1 htr).1);rw[List.take_length] at h4;omega
   .rw[A.mW b hb (by omega) hn'];exact hdr b hb (λh=>hn' (A.sub b h))
   .rw[A.heap];omega
 |succ fuel ih=>
  intro fA π a w yZ aTJ EB R kr
  have a3q:∀i,i<ops.size->fA.getD i true=fA.getD i false:=λi hi=>by
   simp only[ap3,aip (show i<fA.size by omega),LD]
  refine⟨λhr=> ?_,λi hi=> ?_⟩
  .exfalso
   have aNP:∀i,i<ops.size->fA.getD i false=true:=by
    intro i;induction i using Nat.strongRecOn with
    |_ i ihi=>
     intro hi;cases hl:fA.getD i false with
     |true=>rfl
     |false=>
      have ho:ops[i]? =some (ops[i]'hi):=aip _
      have a3r:i∈Region.ready .any ops fA:=mem_ready.2 ⟨by rw[a3q i hi];exact hl,_,ho,λe he1 he2=>by
       have od:=abW he i _ (by rw[Wb];exact ho) e (Array.mem_toList_iff.2 he1) he2;exact ihi e.on (by omega) (by omega)⟩
      rw[hr] at a3r;cases a3r
   have:(t7 ops.size).countP (λi=> !fA.getD i false)=0:=List.countP_eq_zero.2 λi hi=>by rw[aNP i (List.mem_range.1 hi)];simp
   omega
  .obtain⟨hun,o,ho,aTN⟩:=mem_ready.1 hi;have his:i<ops.size:=(Array.getElem?_eq_some_iff.1 ho).1;have aNQ:fA.getD i false=false:=by rw[<-a3q i his];exact hun
   obtain⟨tr,fp,htr,hfp,qO,hd⟩:=hT.at i o (by rw[Wb];exact ho)
   have hG:cI (AW (dO.take i)) s.gt=gl dO (λj=>decide (j<i)) 0 s.gt:=by
    have:=aRE dO i 0 s.gt;simp only[gP] at this;exact this.symm
   rw[hG] at qO
   have aZu:∀(j:Nat) Oz,i<j->dO[j]? =some Oz->fA.getD j false=true->tr.af4 Oz=true->False:=λj Oz hij hj hl hc=>by
    rcases abX hp i j tr Oz hij htr hj with h|h
    .simp only[gP] at h;have hjs:j<ops.size:=by rw[<-hn];exact(lP.1 hj).1
     have hoj:ops[j]? =some (ops[j]'hjs):=aip _;have:=bef fA EB j _ i hoj (EB j _ hoj hl) h;rw[aNQ] at this;cases this
    .rw[hc] at h;cases h
   have a6i:=qO.local (g':=gl dO (λj=>fA.getD j false) 0 s.gt) (λf hf p a6j=>by
    refine aKY (λj Oz hj mX=> ?_) rfl;simp only[gP] at mX;intro ht;have hc:=aUB (hfp f hf) a6j ht;rcases afV j i with hji|hji|hji
    .have hlj:fA.getD j false=false:=by
      cases h:fA.getD j false with
      |false=>rfl
      |true=>exact absurd (by rw[h];simp[hji]) mX
     rcases abX hp j i Oz tr hji hj htr with h|h
     .simp only[gP] at h;have:=bef fA EB i o j ho aTN h;rw[hlj] at this;cases this
     .rw[hc.1] at h;cases h
    .subst hji;exact mX (by rw[aNQ];simp)
    .have hlj:fA.getD j false=true:=by
      cases h:fA.getD j false with
      |true=>rfl
      |false=>exact absurd (by rw[h];simp;omega) mX
     exact aZu j Oz hji hj hlj hc.2)
   have a4C:∀u∈tr.us,u∈AW dO:=λu hu=>List.mem_flatMap.2 ⟨tr,List.mem_of_getElem? htr,hu⟩
   refine azR hE ho a6i R (by omega) (λb h1 h2=> ?_) (λd h=>by rw[<-hlen];exact hd d h) (λu hu=>A.perm u (a4C u hu)) (λa' w' π' hx a4D hR=> ?_)
   .cases hb:π b with
    |none=>rfl
    |some p=>
     exfalso
     rcases kr b (by simp[hb]) with h| ⟨i',Oz,aZv,hl',h3,h4⟩
     .omega
     .rcases afV i' i with hii|hii|hii
      .have e1:=Wq aZv;have e2:=ax1 dO (show i'+1<=i from hii);omega
      .subst hii;rw[aNQ] at hl';cases hl'
      .have e1:=Wq htr;have e2:=ax1 dO (show i+1<=i' from hii);omega
   .have aFi:∀j,(fA.setIfInBounds i true).getD j false=if j=i then true else fA.getD j false:=λj=>by
     simp only[ap3];by_cases e:j=i
     .subst e;simp[show j<fA.size by omega]
     .rw[if_neg e,aTj (Ne.symm e)]
    refine ih (fA.setIfInBounds i true) π' a' w' (by simp[yZ]) ?_ (λj oj hoj hl e he1 he2=> ?_) ?_ (λb hb=> ?_)
    .have:=aqb (f:=λi=> !fA.getD i false) (f':=λj=> !(fA.setIfInBounds i true).getD j false) (i:=i) (by simp[aNQ]) (by simp only[aFi];simp) (λj hj=>by simp only[aFi,if_neg hj]) ops.size his;omega
    .rw[aFi] at hl ⊢;by_cases e1:e.on=i
     .rw[if_pos e1]
     .rw[if_neg e1];by_cases e2:j=i
      .subst e2;rw[ho] at hoj;cases hoj;exact aTN e he1 he2
      .rw[if_neg e2] at hl;exact EB j oj hoj hl e he1 he2
    .rw[aZt (L:=λj=>fA.getD j false) (L':=λj=>(fA.setIfInBounds i true).getD j false) htr aNQ (by simp only[aFi];simp) (λj hj=>by simp only[aFi,if_neg hj])
      (λj Oz hij hj hl p H0 hp2=>aZu j Oz hij hj hl (aUC H0 hp2))]
     exact hR
    .rcases a4D b hb with h| ⟨h1,h2⟩
     .rcases kr b h with h| ⟨i',Oz,aZv,hl',h3,h4⟩
      .exact .inl h
      .refine .inr ⟨i',Oz,aZv,?_,h3,h4⟩;rw[aFi];split<;>first|rfl|exact hl'
     .exact .inr ⟨i,tr,htr,by rw[aFi,if_pos rfl],h1,h2⟩
theorem aKZ (hE:∀f F,E f=some F->Sound P f F)(hm:P.follows .mixedOrders=true){h0:List aj}{id:Nat}{ops:Array Oper}{Q:Exit->Act->World->Prop}{s s':St}{dO:List Tr}(hT:EV P E ops.toList X.k ops.toList s dO s')
  (he:Rb ops.toList 0=true)(hp:Ra (LM ops.toList []) dO 0=true){π:Pi}{a:Act}{w:World}(R:im X h0 π s a w)(hQ:∀a' w' π',im X h0 π' s' a' w'->Q .normal a' w'):(Code.region id ops true).wp P Q a w:=by
 refine wp_region_any hm ?_
 have hf:∀i,(Array.replicate ops.size false).getD i false=false:=λi=>by
  simp only[ap3,Array.getElem?_replicate];split<;>rfl
 have A:=Kh hT.app.1;refine wpAny_all hE hT he hp R.len R.hk R.dlt R.drt hQ ops.size _ π a _ (by simp) ?_ (λj o _ hl=>by rw[hf] at hl;cases hl) ?_ (λb hb=>.inl (R.dom b hb))
 .rw[List.countP_eq_length.2 λi _=>by rw[hf];rfl];simp
 .rw[auQ (λj _=>hf _)];exact(R.rel.aKS λb hb=>A.sub b hb).drew
theorem aK0 (hE:∀f F,E f=some F->Sound P f F){h0:List aj}{id:Nat}{ops:Array Oper}{Q:Exit->Act->World->Prop}{s s':St}{dO:List Tr}(hT:EV P E ops.toList X.k ops.toList s dO s')
  {π:Pi}{a:Act}{w:World}(R:im X h0 π s a w)(hQ:∀a' w' π',im X h0 π' s' a' w'->Q .normal a' w'):(Code.region id ops false).wp P Q a w:=by
 refine wp_region ?_;have:=azS hE hQ hT (i:=0) (λj=>by simp) R;rw[List.range_eq_range'];simpa using this
end
end Go.Ab
namespace Go.Ab
variable [aA]
def LY (π:Pi)(H:Nat)(m:List Nat):Pi:=λb=>if b<H then π b else match m[b-H]? with
 |some b0=>π b0
 |none=>none
def AY (m m':List Nat):Prop:=∃t,m'=m++t
omit [aA] in
theorem AY.refl (m:List Nat):AY m m:=⟨[],by simp⟩
omit [aA] in
theorem AY.trans {a b c:List Nat}(h:AY a b)(k:AY b c):AY a c:=by
 obtain⟨t,rfl⟩:=h;obtain⟨u,rfl⟩:=k;exact⟨t++u,by simp⟩
omit [aA] in
theorem AY.get {m m':List Nat}(h:AY m m'){j b:Nat}(hj:m[j]? =some b):m'[j]? =some b:=by
 obtain⟨t,rfl⟩:=h;rw[Uu (lP.1 hj).1,hj]
omit [aA] in
theorem AY.ext {π:Pi}{H:Nat}{m m':List Nat}(h:AY m m'):Ext (LY π H m) (LY π H m'):=by
 intro b p hp;unfold LY at hp ⊢;split
 .rename_i hb;rw[if_pos hb] at hp;exact hp
 .rename_i hb
  rw[if_neg hb] at hp;cases hj:m[b-H]? with
  |none=>rw[hj] at hp;cases hp
  |some b0=>rw[h.get hj];rw[hj] at hp;exact hp
def MOk (H:Nat)(m:List Nat):Prop:=m.Nodup/\∀b∈m,H<=b
omit [aA] in
theorem aIZ {b:Nat}:∀{m:List Nat} {i0 i:Nat},idx b m i0=some i->∃k,i=i0+k/\m[k]? =some b
 | [],_,_,h=>by simp[idx] at h
 |x::m,i0,i,h=>by
  simp only[idx] at h;split at h
  .rename_i hx
   cases h;exact⟨0,rfl,by simp[lE hx]⟩
  .obtain⟨k,h1,h2⟩:=aIZ h;exact⟨k+1,by omega,by simpa using h2⟩
omit [aA] in
theorem aI0 {b:Nat}:∀{m:List Nat} {i0:Nat},idx b m i0=none->b∉m
 | [],_,_=>by simp
 |x::m,i0,h=>by
  simp only[idx] at h;split at h
  .cases h
  .rename_i hx
   have:=aI0 h;simp only[abN,not_or];exact⟨λe=>by subst e;simp at hx,this⟩
omit [aA] in
theorem alc {H b:Nat}{m:List Nat}:AY m (akY H b m).2/\(MOk H m->MOk H (akY H b m).2)/\∀π,LY π H (akY H b m).2 (akY H b m).1=π b:=by
 unfold akY;split
 .rename_i hb
  have hb:=Wa hb;split
  .rename_i i hi
   obtain⟨k,h1,h2⟩:=aIZ hi;refine⟨AY.refl _,id,λπ=> ?_⟩;unfold LY;rw[if_neg (by omega),show H+i-H=k by omega,h2]
  .rename_i hi
   have hnm:=aI0 hi;refine⟨⟨_,rfl⟩,λok=>⟨?_,λx hx=> ?_⟩,λπ=> ?_⟩
   .rw[List.nodup_append];exact⟨ok.1,by simp,λx hx y hy e=>by simp at hy;subst hy;subst e;exact hnm hx⟩
   .rcases List.mem_append.1 hx with h|h
    .exact ok.2 x h
    .simp at h;omega
   .unfold LY;rw[if_neg (by omega),show H+m.length-H=m.length by omega];simp
 .rename_i hb
  have hb:b<H:=by
   rcases mO b H with h|h
   .exact h
   .have:=axH h;simp[this] at hb
  exact⟨AY.refl _,id,λπ=>by unfold LY;rw[if_pos hb]⟩
structure Gc {α:Type}(R:Pi->α->Value->Prop)(H:Nat)(a:α)(m:List Nat)(r:α×List Nat):Prop where
 pre:AY m r.2
 ok:MOk H m->MOk H r.2
 rel:∀π x,R π a x->R (LY π H r.2) r.1 x
theorem aI1 (H:Nat)(c:CV)(m:List Nat):Gc CV.rel H c m (gcC H c m):=by
 cases c<;>simp only[gcC]
 case ptr b o n=>
  obtain⟨h1,h2,h3⟩:=alc (H:=H) (b:=b) (m:=m);refine⟨h1,h2,λπ x ⟨B,s,q,e,hp,hx⟩=>⟨B,s,q,e,?_,hx⟩⟩;rw[h3];exact hp
 case cl f b o n=>
  obtain⟨h1,h2,h3⟩:=alc (H:=H) (b:=b) (m:=m);refine⟨h1,h2,λπ x ⟨B,s,q,e,hp,hx⟩=>⟨B,s,q,e,?_,hx⟩⟩;rw[h3];exact hp
 case sl b o l z w=>
  obtain⟨h1,h2,h3⟩:=alc (H:=H) (b:=b) (m:=m);exact⟨h1,h2,λπ x ⟨B,s,q,e,hp,hx⟩=>⟨B,s,q,e,by rw[h3];exact hp,hx⟩⟩
 all_goals exact⟨AY.refl _,id,λπ x hx=>hx⟩
omit [aA] in
theorem aNR {α:Type}{R R':α->Value->Prop}{as as':List α}{xs:List Value}(hl:as'.length=as.length)(h:∀(j:Nat) a a',as[j]? =some a->as'[j]? =some a'->∀x,R a x->R' a' x)(hx:bq R as xs):bq R' as' xs:=by
 refine bq.agc (by rw[hl];exact hx.length) λi a' x ha' hxi=> ?_;obtain⟨a,ha,hr⟩:=hx.get' hxi;exact h i a a' ha ha' x hr
omit [aA] in
theorem adX {α:Type}{R:Pi->α->Value->Prop}(mono:∀{π π':Pi},Ext π π'->∀a x,R π a x->R π' a x){f:α->List Nat->α×List Nat}{H:Nat}(hf:∀a m,Gc R H a m (f a m)):
  ∀(l:List α) (m:List Nat),AY m (HY f l m).2/\(MOk H m->MOk H (HY f l m).2)/\(HY f l m).1.length=l.length/\∀(j:Nat) a a',l[j]? =some a->(HY f l m).1[j]? =some a'->∀π x,R π a x->R (LY π H (HY f l m).2) a' x
 | [],m=>⟨AY.refl _,id,rfl,λj a a' h=>by simp at h⟩
 |a::l,m=>by
  have G:=hf a m;obtain⟨p1,p2,p3,p4⟩:=adX mono hf l (f a m).2;refine⟨G.pre.trans p1,λok=>p2 (G.ok ok),by simp[HY,p3],λj b b' hb fB π x hx=> ?_⟩;cases j with
  |zero=>
   simp[HY] at hb fB
   subst hb fB;exact mono p1.ext _ _ (G.rel π x hx)
  |succ j=>exact p4 j b b' (by simpa using hb) (by simpa[HY] using fB) π x hx
omit [aA] in
theorem aI2 {α:Type}{R:Pi->α->Value->Prop}(mono:∀{π π':Pi},Ext π π'->∀a x,R π a x->R π' a x){f:α->List Nat->α×List Nat}{H:Nat}(hf:∀a m,Gc R H a m (f a m))(l:List α)(m:List Nat)(π:Pi)(xs:List Value)(h:bq (R π) l xs):bq (R (LY π H (HY f l m).2)) (HY f l m).1 xs:=by
 obtain⟨_,_,p3,p4⟩:=adX mono hf l m;exact aNR p3 (λj a a' ha ha' x hr=>p4 j a a' ha ha' π x hr) h
theorem Z2 (H:Nat):∀(cs:aj) (m:List Nat),AY m (HY (gcS H) cs m).2/\(MOk H m->MOk H (HY (gcS H) cs m).2)/\aj.size (HY (gcS H) cs m).1=aj.size cs/\
  ∀π j x,j<aj.size cs->(aj.get cs j).rel π x->(aj.get (HY (gcS H) cs m).1 j).rel (LY π H (HY (gcS H) cs m).2) x
 | [],m=>⟨AY.refl _,id,rfl,λπ j x hj=>by rw[aj.lH] at hj;omega⟩
 |.c v::r,m=>by
  have G:=aI1 H v m;obtain⟨p1,p2,p3,p4⟩:=Z2 H r (gcC H v m).2;have e:HY (gcS H) (.c v::r) m=(.c (gcC H v m).1::(HY (gcS H) r (gcC H v m).2).1,(HY (gcS H) r (gcC H v m).2).2):=rfl;rw[e];refine⟨G.pre.trans p1,λok=>p2 (G.ok ok),by rw[aj.size_cons,aj.size_cons,p3];rfl,λπ j x hj hx=> ?_⟩;cases j with
  |zero=>exact CV.dH p1.ext _ _ (G.rel π x hx)
  |succ j=>
   rw[<-aj.kK (l:=r) (j':=j) (by omega) (by omega)] at hx;rw[<-aj.kK (l:=(HY (gcS H) r (gcC H v m).2).1) (j':=j) (by omega) (by omega)];exact p4 π j x (by rw[aj.size_cons,Sg.kH] at hj;omega) hx
 |.a n cols::r,m=>by
  obtain⟨p1,p2,p3,p4⟩:=Z2 H r m;have e:HY (gcS H) (.a n cols::r) m=(.a n cols::(HY (gcS H) r m).1,(HY (gcS H) r m).2):=rfl;rw[e];refine⟨p1,p2,by rw[aj.size_cons,aj.size_cons,p3],λπ j x hj hx=> ?_⟩;rw[aj.size_cons] at hj;by_cases lQ:j<(Sg.a n cols).size
  .rw[aj.dN lQ,Sg.pN] at hx ⊢;obtain⟨v,hv⟩:=aDz cols j;rw[hv] at hx ⊢;exact hx
  .rw[aj.lq (by omega)] at hx ⊢;exact p4 π _ x (by omega) hx
theorem adY (H:Nat)(r:RV)(m:List Nat):Gc RV.rel H r m (gcR H r m):=by
 cases r with
 |c c=>have G:=aI1 H c m;exact⟨G.pre,G.ok,G.rel⟩
 |agg cs=>
  obtain⟨p1,p2,p3,p4⟩:=Z2 H cs m;refine⟨p1,p2,λπ x ⟨a,hx,ha⟩=>⟨a,hx,?_⟩⟩;obtain⟨l1,l2⟩:=jr ha;refine yH (by rw[p3,l1]) λj hj=> ?_;rw[p3] at hj;obtain⟨y,hy,hr⟩:=l2 j hj;exact⟨y,hy,p4 π j y hj hr⟩
theorem ax2 (H:Nat)(r:AV)(m:List Nat):Gc AV.rel H r m (gcA H r m):=by
 cases r with
 |r c=>have G:=adY H c m;exact⟨G.pre,G.ok,G.rel⟩
 |tup cs=>
  obtain⟨p1,p2,_,_⟩:=adX (R:=RV.rel) (λh a x r=>RV.dH h a x r) (adY H) cs m;exact⟨p1,p2,λπ x ⟨a,hx,ha⟩=>⟨a,hx,aI2 (R:=RV.rel) (λh a x r=>RV.dH h a x r) (adY H) cs m π _ ha⟩⟩
 |fn f cs=>
  obtain⟨p1,p2,_,_⟩:=adX (R:=RV.rel) (λh a x r=>RV.dH h a x r) (adY H) cs m;exact⟨p1,p2,λπ x ⟨a,hx,ha⟩=>⟨a,hx,aI2 (R:=RV.rel) (λh a x r=>RV.dH h a x r) (adY H) cs m π _ ha⟩⟩
 |We=>exact⟨AY.refl _,id,λ_ _ _=>trivial⟩
structure GcB (H:Nat)(b b':Option aj)(m':List Nat):Prop where
 size:b'.map aj.size=b.map aj.size
 rel:∀k k',b=some k->b'=some k'->∀π (j:Nat) x,j<aj.size k->(aj.get k j).rel π x->(aj.get k' j).rel (LY π H m') x
theorem GcB.pre {H:Nat}{b b':Option aj}{m m':List Nat}(h:GcB H b b' m)(p:AY m m'):GcB H b b' m':=
 ⟨h.size,λk k' e e' π j x hj hx=>CV.dH p.ext _ _ (h.rel k k' e e' π j x hj hx)⟩
theorem aI3 (H:Nat)(b:Option aj)(m:List Nat):AY m (gcB H b m).2/\(MOk H m->MOk H (gcB H b m).2)/\GcB H b (gcB H b m).1 (gcB H b m).2:=by
 cases b with
 |none=>exact⟨AY.refl _,id,rfl,λk k' e=>by cases e⟩
 |some k=>
  obtain⟨p1,p2,p3,p4⟩:=Z2 H k m;refine⟨p1,p2,⟨by simp only[gcB,SS,p3],λk1 k' e e' π j x hj hx=> ?_⟩⟩;cases e;cases e'
  exact p4 π j x hj hx
theorem aoT (k:Nat)(d:List Nat)(H:Nat):∀(l:List (Option aj)) (j0:Nat) (m:List Nat),AY m (gcO k d H l j0 m).2/\(MOk H m->MOk H (gcO k d H l j0 m).2)/\(gcO k d H l j0 m).1.length=l.length/\
  ∀(j:Nat) b b',l[j]? =some b->(gcO k d H l j0 m).1[j]? =some b'->(j0+j<k/\j0+j∉d/\b'=b)∨((j0+j<k->j0+j∉d->False)/\GcB H b b' (gcO k d H l j0 m).2)
 | [],j0,m=>⟨AY.refl _,id,rfl,λj b b' h=>by simp at h⟩
 |b0::l,j0,m=>by
  simp only[gcO];split
  .rename_i hc
   simp only[cL,Nat.blt_eq,pL] at hc;obtain⟨p1,p2,p3,p4⟩:=aoT k d H l (j0+1) m;refine⟨p1,p2,by simp[p3],λj b b' hb fB=> ?_⟩;cases j with
   |zero=>
    simp at hb fB
    subst hb fB;refine .inl ⟨hc.1,λhm=> ?_,rfl⟩;have:=List.any_eq_false.1 hc.2 _ hm;simp at this
   |succ j=>
    have:=p4 j b b' (by simpa using hb) (by simpa using fB);rw[show j0+1+j=j0+(j+1) by omega] at this;exact this
  .rename_i hc
   obtain⟨q1,q2,q3⟩:=aI3 H b0 m;obtain⟨p1,p2,p3,p4⟩:=aoT k d H l (j0+1) (gcB H b0 m).2;refine⟨q1.trans p1,λok=>p2 (q2 ok),by simp[p3],λj b b' hb fB=> ?_⟩;cases j with
   |zero=>
    simp at hb fB
    subst hb fB;refine .inr ⟨λh1 h2=> ?_,q3.pre p1⟩;have e1:wl j0 k=true:=by simpa using h1
    have e2:d.any (z9 j0)=false:=by
     rw[List.any_eq_false];intro y hy he;have:=lE he;subst this;exact h2 hy
    rw[e1,e2] at hc;cases hc
   |succ j=>
    have:=p4 j b b' (by simpa using hb) (by simpa using fB);rw[show j0+1+j=j0+(j+1) by omega] at this;exact this
theorem aI4 (H:Nat)(heap:List (Option aj)):∀(fuel i:Nat) (m:List Nat) (acc:List (Option aj)) (z:List (Option aj)×List Nat),gcN H heap fuel i m acc=some z->acc.length=i->i<=m.length->
  (∀(j:Nat) b b',m[j]? =some b->acc[j]? =some b'->GcB H ((heap[b]?).getD none) b' m)->
  AY m z.2/\(MOk H m->MOk H z.2)/\z.1.length=z.2.length/\∀(j:Nat) b b',z.2[j]? =some b->z.1[j]? =some b'->GcB H ((heap[b]?).getD none) b' z.2
 |0,_,_,_,_,h,_,_,_=>by simp[gcN] at h
 |fuel+1,i,m,acc,z,h,hi,hi2,aNL=>by
  simp only[gcN] at h;split at h
  .rename_i hn
   cases h;have:m.length<=i:=List.getElem?_eq_none_iff.1 hn;exact⟨AY.refl _,id,by simp;omega,aNL⟩
  .rename_i b hb
   obtain⟨q1,q2,q3⟩:=aI3 H ((heap[b]?).getD none) m;have od:i<m.length:=(lP.1 hb).1;have hlen:m.length<=(gcB H ((heap[b]?).getD none) m).2.length:=by obtain⟨t,ht⟩:=q1;rw[ht];simp
   obtain⟨p1,p2,p3,p4⟩:=aI4 H heap fuel (i+1) _ _ z h (by simp[hi]) (by omega) (λj b1 b1' h1 h1'=>by
    rcases aE8 h1' with h1'| ⟨hj,rfl⟩
    .have hj:j<acc.length:=(lP.1 h1').1
     have hm:m[j]? =some b1:=by
      have e:m[j]? =some (m[j]'(by omega)):=kT _;rw[e];have:=q1.get e;rw[h1] at this;exact this.symm
     exact(aNL j b1 b1' hm h1').pre q1
    .have:b1=b:=by
      rw[hj,hi] at h1;have:=q1.get hb;rw[h1] at this;exact LG this
     subst this;exact q3)
   exact⟨q1.trans p1,λok=>p2 (q2 ok),p3,p4⟩
end Go.Ab
namespace Go.Ab
variable [aA]
section
variable {P:Program} {E:Env} {X:Cx}
structure In (X:Cx)(h0:List aj):Prop where
 k:X.k=h0.length
 h:sV X.p0 (hC (h0.map some)) (hZ (h0.map some)) X.w0
 d:∀b,X.p0 b≠none->b<X.k
theorem im.same {h0:List aj}{π:Pi}{s:St}{a:Act}{w:World}(I:In X h0)(R:im X h0 π s a w){b:Nat}(hb:b<X.k)(hn:b∉s.dm){k:aj}(hk:s.bX b=some k){B:Nat}{s0 q e:Nat}(hp:π b=some (B,s0,q,e)){j:Nat}(hj:j<aj.size k):
  ∃v,cl w B (s0+j)=some v/\(aj.get k j).rel X.p0 v:=by
 have h1:=R.drt b hb hn;rw[hk] at h1;have hz:hZ (h0.map some) b=some (aj.size k):=by rw[Qk,<-h1];rfl
 obtain⟨B',s',e',vf,hle,k1,k2⟩:=I.h.hp b _ hz;rw[R.rel.yi b hb,vf] at hp;cases hp;obtain⟨v,hv,hr⟩:=k2 j hj;rw[aDB h1.symm hj] at hr;refine⟨v,?_,hr⟩;rw[R.rel.fr.cl (abT (by rw[hv];rfl)),hv];rintro ⟨b2,s2,q2,e2,FI,hd2,hp2,i1,i2⟩
 have mX:b2≠b:=λe=>hn (e▸hd2)
 have hz2:hZ (h0.map some) b2≠none:=by
  rw[Qk];have:b2<h0.length:=by rw[<-I.k];exact FI
  rw[kT this];simp
 exact I.h.dj b2 b B s2 q2 e2 s0 _ e mX hz2 (by rw[hz];simp) hp2 vf (s0+j) i1 i2 (by omega) (by omega)
omit [aA] in
theorem aFj {l:List (Option aj)}{b:Nat}(h:b<l.length):l[b]? =some ((l[b]?).getD none):=by
 rw[kT h];rfl
theorem aNS {h0:List aj}{π:Pi}{s:St}{a:Act}{w:World}(I:In X h0)(R:im X h0 π s a w){H:Nat}(hH:X.k<=H)(hHl:H<=s.heap.length){m0:List Nat}(ok0:MOk H m0){z:List (Option aj)×List Nat}
  (hz:gcN H s.heap 1000 0 (gcO X.k s.dm H (s.heap.take H) 0 m0).2 []=some z):
  AY m0 z.2/\sV (LY π H z.2) (hC ((gcO X.k s.dm H (s.heap.take H) 0 m0).1++z.1)) (hZ ((gcO X.k s.dm H (s.heap.take H) 0 m0).1++z.1)) w/\
  ((gcO X.k s.dm H (s.heap.take H) 0 m0).1++z.1).length=H+z.2.length/\
  (∀b,b<H->b<X.k->b∉s.dm->(((gcO X.k s.dm H (s.heap.take H) 0 m0).1++z.1)[b]?).getD none=s.bX b)/\
  (∀b,hZ ((gcO X.k s.dm H (s.heap.take H) 0 m0).1++z.1) b≠none->(b<H/\s.gt.z b≠none)∨∃b0,H<=b/\z.2[b-H]? =some b0/\H<=b0/\s.gt.z b0≠none):=by
 obtain⟨o1,o2,o3,o4⟩:=aoT X.k s.dm H (s.heap.take H) 0 m0;generalize hy:gcO X.k s.dm H (s.heap.take H) 0 m0=y at*
 obtain⟨n1,n2,n3,n4⟩:=aI4 H s.heap 1000 0 y.2 [] z hz rfl (Nat.zero_le _) (λj b b' _ h=>by simp at h);have hyl:y.1.length=H:=by rw[o3];simp;omega
 have ok:=n2 (o2 ok0)
 have yi:∀b,b<H->∃x,y.1[b]? =some x/\(y.1++z.1)[b]? =some x/\(x=s.bX b/\b<X.k/\b∉s.dm∨(b<X.k->b∉s.dm->False)/\GcB H (s.bX b) x z.2):=λb hb=>by
  have h1:y.1[b]? =some (y.1[b]'(by omega)):=kT _
  have h2:(s.heap.take H)[b]? =some (s.bX b):=by
   rw[abL,if_pos hb];exact aFj (by omega)
  refine⟨_,h1,by rw[Uu (by omega)];exact h1,?_⟩;have o5:=o4 b _ _ h2 h1;simp only[gP] at o5;rcases o5 with⟨q1,q2,q3⟩| ⟨q0,q⟩
  .exact .inl ⟨q3,q1,q2⟩
  .exact .inr ⟨q0,q.pre n1⟩
 have new:∀b,H<=b->b<H+z.2.length->∃b0 x,z.2[b-H]? =some b0/\H<=b0/\(y.1++z.1)[b]? =some x/\GcB H (s.bX b0) x z.2:=λb h1 h2=>by
  have e1:z.2[b-H]? =some (z.2[b-H]'(by omega)):=kT _;have e2:z.1[b-H]? =some (z.1[b-H]'(by omega)):=kT _;refine⟨_,_,e1,ok.2 _ (List.mem_of_getElem? e1),?_,n4 _ _ _ e1 e2⟩;rw[adQ (by omega),hyl];exact e2
 have len:(y.1++z.1).length=H+z.2.length:=by simp;omega
 have src:∀b n,hZ (y.1++z.1) b=some n->∃b0 k0 k,s.bX b0=some k0/\aj.size k0=n/\(y.1++z.1)[b]? =some (some k)/\aj.size k=n/\LY π H z.2 b=π b0/\((b<H/\b0=b)∨(H<=b/\z.2[b-H]? =some b0/\H<=b0))/\
   (k=k0/\b<X.k/\b∉s.dm/\b0=b∨∀(j:Nat) x,j<aj.size k0->(aj.get k0 j).rel π x->(aj.get k j).rel (LY π H z.2) x):=λb n hn=>by
  have hbl:b<H+z.2.length:=by
   rw[<-len];rcases mO b (y.1++z.1).length with h|h
   .exact h
   .simp only[hZ,Kc h] at hn;cases hn
  rcases mO b H with hb|hb
  .obtain⟨x,h1,h2,h3⟩:=yi b hb;simp only[hZ,h2,LD] at hn;cases x with
   |none=>cases hn
   |some k=>
    have hkn:aj.size k=n:=by simpa using hn
    have hpi:LY π H z.2 b=π b:=by unfold LY;rw[if_pos hb]
    rcases h3 with⟨q1,q2,q3⟩| ⟨_,q⟩
    .exact⟨b,k,k,q1.symm,hkn,h2,hkn,hpi,.inl ⟨hb,rfl⟩,.inl ⟨rfl,q2,q3,rfl⟩⟩
    .have hs:=q.size;cases Rg:s.bX b with
     |none=>rw[Rg] at hs;cases hs
     |some k0=>
      rw[Rg] at hs q;have:aj.size k=aj.size k0:=by simpa using hs
      exact⟨b,k0,k,Rg,by omega,h2,hkn,hpi,.inl ⟨hb,rfl⟩,.inr λj x hj hx=>q.rel k0 k rfl rfl π j x hj hx⟩
  .obtain⟨b0,x,h1,h2,h3,q⟩:=new b hb hbl;simp only[hZ,h3,LD] at hn;cases x with
   |none=>cases hn
   |some k=>
    have hkn:aj.size k=n:=by simpa using hn
    have hpi:LY π H z.2 b=π b0:=by unfold LY;rw[if_neg (by omega),h1]
    have hs:=q.size;cases Rg:s.bX b0 with
    |none=>rw[Rg] at hs;cases hs
    |some k0=>
     rw[Rg] at hs q;have:aj.size k=aj.size k0:=by simpa using hs
     exact⟨b0,k0,k,Rg,by omega,h3,hkn,hpi,.inr ⟨hb,h1,h2⟩,.inr λj x hj hx=>q.rel k0 k rfl rfl π j x hj hx⟩
 refine⟨o1.trans n1,⟨R.rel.hp.am,λb B s1 q1 e1 hz1 H0 B7=> ?_,λb n hn=> ?_,λb b' B s1 q1 e1 s2 q2 e2 mX hz1 hz2 H0 hp2 i i1 i2 i3 i4=> ?_⟩,len,λb hb hbk hnd=> ?_,λb hb=> ?_⟩
 .cases hn1:hZ (y.1++z.1) b with
  |none=>exact absurd hn1 hz1
  |some n=>
   obtain⟨b0,k0,k,h1,h2,h3,h4,h5,h6,h7⟩:=src b n hn1;have NS:s.gt.z b0=some (aj.size k0):=St.ap8 h1;rw[h5] at H0;exact R.rel.hp.lb b0 B s1 q1 e1 (by rw[NS];simp) H0 B7
 .obtain⟨b0,k0,k,h1,h2,h3,h4,h5,h6,h7⟩:=src b n hn;have NS:s.gt.z b0=some (aj.size k0):=St.ap8 h1;obtain⟨B,s1,e1,hp,hle,m1,m2⟩:=R.rel.hp.hp b0 _ NS;refine⟨B,s1,e1,by rw[h5,<-h2];exact hp,by omega,m1,λj hj=> ?_⟩;rw[agq h3 (by omega)];rcases h7 with⟨rfl,q1,q2,rfl⟩|q
  .obtain⟨v,hv,hr⟩:=R.same I q1 q2 h1 hp (j:=j) (by omega);refine⟨v,hv,CV.dH (λb p hbp=> ?_) _ _ hr⟩;have hbk:=I.d b (by rw[hbp];simp);unfold LY;rw[if_pos (by omega),R.rel.yi b hbk];exact hbp
  .obtain⟨v,hv,hr⟩:=m2 j (by omega);rw[St.aTE h1 (by omega)] at hr;exact⟨v,hv,q j v (by omega) hr⟩
 .cases hn1:hZ (y.1++z.1) b with
  |none=>exact hz1 hn1
  |some n=>
  cases hn2:hZ (y.1++z.1) b' with
  |none=>exact hz2 hn2
  |some n'=>
  obtain⟨b0,k0,k,h1,_,_,_,h5,h6,_⟩:=src b n hn1;obtain⟨b0',k0',k',h1',_,_,_,h5',h6',_⟩:=src b' n' hn2;rw[h5] at H0;rw[h5'] at hp2
  have a6k:b0≠b0':=by
   intro e;subst e;rcases h6 with⟨q1,q2⟩| ⟨q1,q2,q3⟩<;>rcases h6' with⟨r1,r2⟩| ⟨r1,r2,r3⟩
   .exact mX (q2.symm.trans r2)
   .omega
   .omega
   .obtain⟨l1,g1⟩:=lP.1 q2;obtain⟨l2,g2⟩:=lP.1 r2;have:=List.pairwise_iff_getElem.1 ok.1;rcases afV (b-H) (b'-H) with h|h|h
    .exact this _ _ l1 l2 h (g1.trans g2.symm)
    .omega
    .exact this _ _ l2 l1 h (g2.trans g1.symm)
  exact R.rel.hp.dj b0 b0' B s1 q1 e1 s2 q2 e2 a6k (by rw[St.ap8 h1];simp) (by rw[St.ap8 h1'];simp) H0 hp2 i i1 i2 i3 i4
 .obtain⟨x,h1,h2,h3⟩:=yi b hb;rw[h2];rcases h3 with⟨q1,_⟩| ⟨q0,_⟩
  .exact q1
  .exact(q0 hbk hnd).elim
 .cases hn:hZ (y.1++z.1) b with
  |none=>exact absurd hn hb
  |some n=>
   obtain⟨b0,k0,k,h1,_,_,_,_,h6,_⟩:=src b n hn;rcases h6 with⟨q1,rfl⟩| ⟨q1,q2,q3⟩
   .exact .inl ⟨q1,by rw[St.ap8 h1];simp⟩
   .exact .inr ⟨b0,q1,q2,q3,by rw[St.ap8 h1];simp⟩
end
end Go.Ab
namespace Go.Ab
variable [aA]
section
variable {P:Program} {E:Env} {X:Cx} {h0:List aj} {π:Pi} {s s':St} {a:Act} {w:World}
theorem im.gc (I:In X h0)(R:im X h0 π s a w){H:Nat}(hH:X.k<=H)(h:s.gc X.k H=some s'):∃π',im X h0 π' s' a w:=by
 unfold St.gc at h;split at h
 .cases h
 rename_i hb
 have hHl:H<=s.heap.length:=Wa hb;simp only at h;split at h
 .rename_i z hz
  obtain⟨p1,p2,p3,p4⟩:=adX (R:=AV.rel) (λh a x r=>AV.dH h a x r) (ax2 H) s.tmps [];have ok0:MOk H (HY (gcA H) s.tmps []).2:=p2 ⟨List.nodup_nil,λ_ h=>by cases h⟩;obtain⟨q1,q2,q3,q4,q5⟩:=aNS I R hH hHl ok0 hz;cases h;refine⟨LY π H z.2,⟨⟨λi=> ?_,R.rel.nt,R.rel.df,q2,λb hb=> ?_,λb B s1 qq e hkb hzb hp hB i i1 i2=> ?_,R.rel.fr⟩,p3.trans R.len,λb hb=> ?_,λb hb hn=> ?_,?_,R.dlt⟩⟩
  .show(akU (HY (gcA H) s.tmps []).1 i).rel _ _;rw[Bm];have hr:(akU s.tmps i).rel π (a.tmps.getD i undef):=R.rel.tm i;rw[Bm] at hr;rcases mO i s.tmps.length with hi|hi
   .have e1:s.tmps[i]? =some (s.tmps[i]'hi):=kT _;have e2:(HY (gcA H) s.tmps []).1[i]? =some ((HY (gcA H) s.tmps []).1[i]'(by omega)):=kT _;have hr:(s.tmps.getD i udf).rel π (a.tmps.getD i undef):=hr;simp only[List.getD,e1,LD] at hr;simp only[List.getD,e2,LD];exact AV.dH q1.ext _ _ (p4 i _ _ e1 e2 π _ hr)
   .have hr:(s.tmps.getD i udf).rel π (a.tmps.getD i undef):=hr;simp only[List.getD,Kc hi,Option.getD_none] at hr;simp only[List.getD,Kc (show(HY (gcA H) s.tmps []).1.length<=i by omega),Option.getD_none];exact(ax2 H udf z.2).rel π _ hr
  .unfold LY;rw[if_pos (by omega)];exact R.rel.yi b hb
  .rcases q5 b hzb with⟨hbH,NS⟩| ⟨b0,hbH,hm,Rg,NS⟩
   .unfold LY at hp;rw[if_pos hbH] at hp;exact R.rel.ft b B s1 qq e hkb NS hp hB i i1 i2
   .unfold LY at hp;rw[if_neg (by omega),hm] at hp;exact R.rel.ft b0 B s1 qq e (by omega) NS hp hB i i1 i2
  .show b<(_++_:List (Option aj)).length;rw[q3];unfold LY at hb;split at hb
   .omega
   .cases hm:z.2[b-H]? with
    |none=>rw[hm] at hb;exact absurd rfl hb
    |some b0=>have:=(lP.1 hm).1;omega
  .exact(q4 b (by omega) hb hn).trans (R.drt b hb hn)
  .show X.k<=(_++_:List (Option aj)).length;rw[q3];omega
 .cases h
theorem im.a4E (R:im X h0 π s a w)(t:Nat):im X h0 π {s with tmps:=s.tmps.set t We} a w:=by
 refine⟨⟨λi=> ?_,R.rel.nt,R.rel.df,R.rel.hp,R.rel.yi,R.rel.ft,R.rel.fr⟩,by simpa using R.len,R.dom,R.drt,R.hk,R.dlt⟩;show(akU (s.tmps.set t We) i).rel π _;rw[Bm];simp only[List.getD,aEt];have hr:(akU s.tmps i).rel π (a.tmps.getD i undef):=R.rel.tm i;rw[Bm] at hr;split
 .split
  .trivial
  .rename_i h1 h2
   subst h1;simpa only[List.getD,Kc (show s.tmps.length<=t by omega)] using hr
 .exact hr
theorem im.aEC:∀(l:List Nat) {s:St},im X h0 π s a w->im X h0 π {s with tmps:=l.foldl (λl t=>l.set t We) s.tmps} a w
 | [],_,R=>R
 |t::l,_,R=>im.aEC l (R.a4E t)
omit [aA] in
theorem a1N {i:Nat}{c:CV}(h:s.tmp i=.r (.c c)):i<s.tmps.length:=by
 rcases mO i s.tmps.length with hi|hi
 .exact hi
 .simp only[St.tmp,Bm,List.getD,Kc hi,Option.getD_none,udf] at h;cases h
omit [aA] in
theorem ax3 [aA]{π:Pi}{c:CV}{v:Value}(h:c.rel π v):(aIM c).rel π v:=by
 unfold aIM;split
 .split
  .rename_i b len z own c0
   simpa[CV.rel,cG.val] using h
  .exact h
 .exact h
omit [aA] in
theorem agr (g:CV->CV)(s:Sg):(aED g s).size=s.size:=by
 cases s<;>rfl
omit [aA] in
theorem ax4 (g:CV->CV):∀b:aj,aj.size (b.map (aED g))=aj.size b
 | []=>rfl
 |s::l=>by
  rw[List.map_cons,aj.size_cons,aj.size_cons,agr,ax4 g l]
theorem aUD {g:CV->CV}{π:Pi}(hg:∀c v,CV.rel π c v->CV.rel π (g c) v){s:Sg}{j:Nat}{v:Value}(h:(s.get j).rel π v):((aED g s).get j).rel π v:=by
 cases s with
 |c x=>
  cases j with
  |zero=>exact hg _ _ h
  |succ j=>exact h
 |a n cols=>exact h
theorem aNT {g:CV->CV}{π:Pi}(hg:∀c v,CV.rel π c v->CV.rel π (g c) v){v:Value}:∀(b:aj) (j:Nat),(aj.get b j).rel π v->(aj.get (b.map (aED g)) j).rel π v
 | [],_,h=>h
 |s::l,j,h=>by
  rw[List.map_cons];by_cases hj:j<s.size
  .rw[aj.dN hj] at h;rw[aj.dN (by rw[agr];exact hj)];exact aUD hg h
  .rw[aj.lq (by omega)] at h;rw[aj.lq (by rw[agr];omega),agr];exact aNT hg l _ h
theorem aUE {g:CV->CV}{π:Pi}(hg:∀c v,CV.rel π c v->CV.rel π (g c) v){a:AV}{v:Value}(h:a.rel π v):(mapA g a).rel π v:=by
 unfold mapA;split
 .exact hg _ _ h
 .exact h
omit [aA] in
theorem auR (g:CV->CV)(k:Nat)(d:List Nat):∀(l:List (Option aj)) (j:Nat),(ais g k d l j).length=l.length
 | [],_=>rfl
 |b::l,j=>by simp[ais,auR g k d l (j+1)]
omit [aA] in
theorem aI5 (g:CV->CV)(k:Nat)(d:List Nat):∀(l:List (Option aj)) (j i:Nat),((ais g k d l j)[i]?).getD none=(l[i]?).getD none∨(¬(j+i<k/\j+i∉d)/\∃b,(l[i]?).getD none=some b/\((ais g k d l j)[i]?).getD none=some (b.map (aED g)))
 | [],_,_=>.inl rfl
 |b::l,j,0=>by
  unfold ais;cases hc:wl j k&& !d.any (z9 j) with
  |true=>exact .inl rfl
  |false=>
   cases b with
   |none=>exact .inl rfl
   |some b=>
    refine .inr ⟨λh=> ?_,b,rfl,rfl⟩;have h1:wl j k=true:=uH.2 h.1
    have h2:d.any (z9 j)=false:=by
     cases hd:d.any (z9 j) with
     |false=>rfl
     |true=>
      obtain⟨x,hx,he⟩:=abM.1 hd;have:=lE he;subst this;exact absurd hx h.2
    rw[h1,h2] at hc;cases hc
 |b::l,j,i+1=>by
  have:=aI5 g k d l (j+1) i;rw[show j+1+i=j+(i+1) by omega] at this;exact this
theorem im.a3s (R:im X h0 π s a w)(g:CV->CV)(hg:∀c v,CV.rel π c v->CV.rel π (g c) v):im X h0 π {s with tmps:=s.tmps.map (mapA g),heap:=ais g X.k s.dm s.heap 0} a w:=by
 have hb:∀b,St.bX {s with tmps:=s.tmps.map (mapA g),heap:=ais g X.k s.dm s.heap 0} b=s.bX b∨(¬(b<X.k/\b∉s.dm)/\∃k,s.bX b=some k/\St.bX {s with tmps:=s.tmps.map (mapA g),heap:=ais g X.k s.dm s.heap 0} b=some (k.map (aED g))):=λb=>by
  have:=aI5 g X.k s.dm s.heap 0 b;rw[gP] at this;exact this
 generalize Wk:({s with tmps:=s.tmps.map (mapA g),heap:=ais g X.k s.dm s.heap 0}:St)=s2 at hb
 have hz:s2.gt.z=s.gt.z:=by
  funext b
  show(s2.bX b).map aj.size=(s.bX b).map aj.size;rcases hb b with h| ⟨_,k,h1,h2⟩
  .rw[h]
  .rw[h1,h2];simp[ax4]
 have hc:∀b j v,(s.gt.c b j).rel π v->(s2.gt.c b j).rel π v:=λb j v h=>by
  rcases hb b with e| ⟨_,k,h1,h2⟩
  .show(match s2.bX b with|some k=>if j<k.size then k.get j else .f .u|none=>.f .u:CV).rel π v;rw[e];exact h
  .have h:(match s.bX b with|some k=>if j<k.size then k.get j else .f .u|none=>.f .u:CV).rel π v:=h;show(match s2.bX b with|some k=>if j<k.size then k.get j else .f .u|none=>.f .u:CV).rel π v;rw[h1] at h;rw[h2];simp only[ax4] at h ⊢;split
   .rename_i hj
    rw[if_pos hj] at h;exact aNT hg k j h
   .rename_i hj
    rw[if_neg hj] at h;exact h
 have hd2:s2.dm=s.dm:=by rw[<-Wk]
 have hl2:s2.heap.length=s.heap.length:=by rw[<-Wk];exact auR _ _ _ _ _
 refine⟨⟨λi=> ?_,R.rel.nt,R.rel.df,⟨R.rel.hp.am,?_,λb n hn=> ?_,?_⟩,R.rel.yi,?_,?_⟩,?_,λb fB=> ?_,λb hbk hn=> ?_,?_,?_⟩
 .have hr:(akU s.tmps i).rel π (a.tmps.getD i undef):=R.rel.tm i;show(akU s2.tmps i).rel π _;rw[<-Wk];rw[Bm] at hr;rw[Bm];simp only[List.getD,CA] at hr ⊢;cases he:s.tmps[i]? with
  |none=>rw[he] at hr;exact hr
  |some x=>rw[he] at hr;exact aUE hg hr
 .rw[hz];exact R.rel.hp.lb
 .rw[hz] at hn;obtain⟨B,s1,e,h1,h2,h3,h4⟩:=R.rel.hp.hp b n hn;exact⟨B,s1,e,h1,h2,h3,λj hj=>let⟨v,hv,hr⟩:=h4 j hj;⟨v,hv,hc b j v hr⟩⟩
 .rw[hz];exact R.rel.hp.dj
 .rw[hz];intro b B s1 q e;rw[hd2];exact R.rel.ft b B s1 q e
 .rw[hd2];exact R.rel.fr
 .rw[<-Wk];simpa using R.len
 .rw[hl2];exact R.dom b fB
 .rw[hd2] at hn;rcases hb b with e| ⟨h,_⟩
  .exact e.trans (R.drt b hbk hn)
  .exact absurd ⟨hbk,hn⟩ h
 .rw[hl2];exact R.hk
 .rw[hd2];exact R.dlt
theorem aI6 {π:Pi}{c:CV}{v:Value}(h:c.rel π v):(aY6 c).rel π v:=by
 unfold aY6;split
 .simpa[CV.rel,Sz.val] using h
 .exact h
theorem aUF {π:Pi}{a:AV}{v:Value}(h:a.rel π v):(Re a).rel π v:=by
 unfold Re;split
 .exact aI6 (ax3 h)
 .exact h
omit [aA] in
theorem ags (s:Sg):(aIN s).size=s.size:=by
 cases s<;>rfl
omit [aA] in
theorem Z3:∀b:aj,aj.size (b.map aIN)=aj.size b
 | []=>rfl
 |s::l=>by
  rw[List.map_cons,aj.size_cons,aj.size_cons,ags,Z3 l]
theorem aUG {π:Pi}{s:Sg}{j:Nat}{v:Value}(h:(s.get j).rel π v):((aIN s).get j).rel π v:=by
 cases s with
 |c x=>
  cases j with
  |zero=>exact aI6 (ax3 h)
  |succ j=>exact h
 |a n cols=>exact h
theorem as3 {π:Pi}{v:Value}:∀(b:aj) (j:Nat),(aj.get b j).rel π v->(aj.get (b.map aIN) j).rel π v
 | [],_,h=>h
 |s::l,j,h=>by
  rw[List.map_cons];by_cases hj:j<s.size
  .rw[aj.dN hj] at h;rw[aj.dN (by rw[ags];exact hj)];exact aUG h
  .rw[aj.lq (by omega)] at h;rw[aj.lq (by rw[ags];omega),ags];exact as3 l _ h
omit [aA] in
theorem aFk (l:List (Nat×Nat))(j:Nat)(b:aj):aj.size (aEE l j b)=aj.size b:=by
 unfold aEE;split
 .rw[(axS _).1,(ZS _ _).1,Z3]
 .rw[Z3]
theorem aUH {π:Pi}{v:Value}(l:List (Nat×Nat))(j:Nat)(b:aj)(i:Nat)(hi:i<aj.size b)(h:(aj.get b i).rel π v):(aj.get (aEE l j b) i).rel π v:=by
 unfold aEE;split
 .rw[(axS _).2,(ZS _ _).2 i (by rw[Z3];exact hi)];exact as3 b i h
 .exact as3 b i h
omit [aA] in
theorem auS (k:Nat)(d:List Nat)(sl:List (Nat×Nat)):∀(l:List (Option aj)) (j:Nat),(akZ k d sl l j).length=l.length
 | [],_=>rfl
 |b::l,j=>by simp[akZ,auS k d sl l (j+1)]
omit [aA] in
theorem aI7 (k:Nat)(d:List Nat)(sl:List (Nat×Nat)):∀(l:List (Option aj)) (j i:Nat),((akZ k d sl l j)[i]?).getD none=(l[i]?).getD none∨(¬(j+i<k/\j+i∉d)/\∃b,(l[i]?).getD none=some b/\((akZ k d sl l j)[i]?).getD none=some (aEE sl (j+i) b))
 | [],_,_=>.inl rfl
 |b::l,j,0=>by
  unfold akZ;cases hc:wl j k&& !d.any (z9 j) with
  |true=>exact .inl rfl
  |false=>
   cases b with
   |none=>exact .inl rfl
   |some b=>
    refine .inr ⟨λh=> ?_,b,rfl,rfl⟩;have h1:wl j k=true:=uH.2 h.1
    have h2:d.any (z9 j)=false:=by
     cases hd:d.any (z9 j) with
     |false=>rfl
     |true=>
      obtain⟨x,hx,he⟩:=abM.1 hd;have:=lE he;subst this;exact absurd hx h.2
    rw[h1,h2] at hc;cases hc
 |b::l,j,i+1=>by
  have:=aI7 k d sl l (j+1) i;rw[show j+1+i=j+(i+1) by omega] at this;exact this
theorem im.rows (R:im X h0 π s a w):im X h0 π {s with tmps:=s.tmps.map Re,heap:=akZ X.k s.dm (sls s) s.heap 0} a w:=by
 have hb:∀b,St.bX {s with tmps:=s.tmps.map Re,heap:=akZ X.k s.dm (sls s) s.heap 0} b=s.bX b∨(¬(b<X.k/\b∉s.dm)/\∃k,s.bX b=some k/\St.bX {s with tmps:=s.tmps.map Re,heap:=akZ X.k s.dm (sls s) s.heap 0} b=some (aEE (sls s) b k)):=λb=>by
  have:=aI7 X.k s.dm (sls s) s.heap 0 b;rw[gP] at this;exact this
 generalize sls s=sl at hb ⊢
 generalize Wk:({s with tmps:=s.tmps.map Re,heap:=akZ X.k s.dm sl s.heap 0}:St)=s2 at hb
 have hz:s2.gt.z=s.gt.z:=by
  funext b
  show(s2.bX b).map aj.size=(s.bX b).map aj.size;rcases hb b with h| ⟨_,k,h1,h2⟩
  .rw[h]
  .rw[h1,h2];simp[aFk]
 have hc:∀b j v,(s.gt.c b j).rel π v->(s2.gt.c b j).rel π v:=λb j v h=>by
  rcases hb b with e| ⟨_,k,h1,h2⟩
  .show(match s2.bX b with|some k=>if j<k.size then k.get j else .f .u|none=>.f .u:CV).rel π v;rw[e];exact h
  .have h:(match s.bX b with|some k=>if j<k.size then k.get j else .f .u|none=>.f .u:CV).rel π v:=h;show(match s2.bX b with|some k=>if j<k.size then k.get j else .f .u|none=>.f .u:CV).rel π v;rw[h1] at h;rw[h2];simp only[aFk] at h ⊢;split
   .rename_i hj
    rw[if_pos hj] at h;exact aUH sl b k j hj h
   .rename_i hj
    rw[if_neg hj] at h;exact h
 have hd2:s2.dm=s.dm:=by rw[<-Wk]
 have hl2:s2.heap.length=s.heap.length:=by rw[<-Wk];exact auS _ _ _ _ _
 refine⟨⟨λi=> ?_,R.rel.nt,R.rel.df,⟨R.rel.hp.am,?_,λb n hn=> ?_,?_⟩,R.rel.yi,?_,?_⟩,?_,λb fB=> ?_,λb hbk hn=> ?_,?_,?_⟩
 .have hr:(akU s.tmps i).rel π (a.tmps.getD i undef):=R.rel.tm i;show(akU s2.tmps i).rel π _;rw[<-Wk];rw[Bm] at hr;rw[Bm];simp only[List.getD,CA] at hr ⊢;cases he:s.tmps[i]? with
  |none=>rw[he] at hr;exact hr
  |some x=>rw[he] at hr;exact aUF hr
 .rw[hz];exact R.rel.hp.lb
 .rw[hz] at hn;obtain⟨B,s1,e,h1,h2,h3,h4⟩:=R.rel.hp.hp b n hn;exact⟨B,s1,e,h1,h2,h3,λj hj=>let⟨v,hv,hr⟩:=h4 j hj;⟨v,hv,hc b j v hr⟩⟩
 .rw[hz];exact R.rel.hp.dj
 .rw[hz];intro b B s1 q e;rw[hd2];exact R.rel.ft b B s1 q e
 .rw[hd2];exact R.rel.fr
 .rw[<-Wk];simpa using R.len
 .rw[hl2];exact R.dom b fB
 .rw[hd2] at hn;rcases hb b with e| ⟨h,_⟩
  .exact e.trans (R.drt b hbk hn)
  .exact absurd ⟨hbk,hn⟩ h
 .rw[hl2];exact R.hk
 .rw[hd2];exact R.dlt
omit [aA] in
theorem aUI [aA]{π:Pi}{b n:Nat}(hb:π n=π b){c:CV}{v:Value}(h:c.rel π v):(aNj b n c).rel π v:=by
 have e:∀x,π (aNi b n x)=π x:=λx=>by
  unfold aNi;split
  .rename_i hx;rw[lE hx];exact hb
  .rfl
 unfold aNj;split
 .simpa only[CV.rel,e] using h
 .simpa only[CV.rel,e] using h
 .simpa only[CV.rel,e] using h
 .exact h
theorem im.move (R:im X h0 π s a w)(b:Nat):∃π',im X h0 π' (aRn X.k b s) a w:=by
 unfold aRn;split
 case h_2=>exact⟨π,R⟩
 rename_i bX ZT
 split
 case h_2=>exact⟨π,R⟩
 rename_i od
 have od:=uH.1 od;have hbl:b<s.heap.length:=aEs od R.hk;generalize hn:s.heap.length=n
 generalize hs1:({s with heap:=s.heap.set b none++[some bX],dm:=mark X.k b s.dm}:St)=s1
 have ZW:j9 X.k [.kill b,.new n bX] s=some s1:=by
  have h1:wl b s.heap.length=true:=uH.2 hbl;have h2:z9 n s.heap.length=true:=by rw[hn];exact Ar _
  simp[j9,Up.ok,Up.app,h1,h2,<-hs1]
 have A:=Kh ZW;have hg:=Ox ZW;have hz:s.gt.z b=some (aj.size bX):=by show(s.bX b).map aj.size=_;rw[ZT];rfl
 obtain⟨B,s0,e,hp,hle,k1,k2⟩:=R.rel.hp.hp b _ hz
 have aRF:π n=none:=by
  cases hb:π n with
  |none=>rfl
  |some q=>have:=R.dom n (by rw[hb];simp);omega
 have auP:=Bo aRF (B,s0,aj.size bX,e);have hD:b∈s1.dm:=by rw[<-hs1];exact Bp.2 (.inr ⟨rfl,od⟩)
 have a6l:∀x,x∈s.dm->x∈s1.dm:=λx hx=>by rw[<-hs1];exact Bp.2 (.inl hx)
 have R0:=(R.rel.LS auP (λb' fB=>by simp only[A5];rw[if_neg (by have:=R.hk;omega)])).aKS a6l;have Rg:A5 π n (B,s0,aj.size bX,e) b=some (B,s0,aj.size bX,e):=auP _ _ hp;have hp0:X.p0 b=some (B,s0,aj.size bX,e):=by rw[<-R.rel.yi b od];exact hp
 have R2:=(R0.kill b).new (k:=bX) (b:=n) (qw π n (B,s0,aj.size bX,e)) (by have:=R.hk;omega) hle k1
  (λj hj=>by
   obtain⟨v,hv,hr⟩:=k2 j hj;have hc:s.gt.c b j=aj.get bX j:=by show(match s.bX b with|some k=>if j<k.size then k.get j else .f .u|none=>.f .u:CV)=_;rw[ZT];simp only[hj,lK]
   rw[hc] at hr;exact⟨v,hv,CV.dH auP _ _ hr⟩)
  (λb' s' q' e' mX uJ fB i i1 i2 i3 i4=>by
   by_cases eb:b'=b
   .subst eb;simp[Up.gS] at uJ
   .exact R0.hp.dj b b' B s0 _ e s' q' e' (λh=>eb h.symm) (by rw[hz];simp) (by simpa[Up.gS,eb] using uJ) Rg fB i i1 i2 i3 i4)
  (λ_ i i1 i2=>⟨b,s0,_,e,od,hD,hp0,i1,i2⟩) (λh=>R.rel.hp.lb b B s0 _ e (by rw[hz];simp) hp h)
 have RS:im X h0 (A5 π n (B,s0,aj.size bX,e)) s1 a w:=A.aZs R hg R2 (λb' fB=>by
   by_cases e':b'=n
   .exact .inr ⟨by omega,by simp[cH];omega⟩
   .simp only[A5,e',gq] at fB;exact .inl fB) (λx hx=>by
   rw[<-hs1] at hx;rcases Bp.1 hx with h| ⟨rfl,h⟩
   .exact R.dlt x h
   .exact h)
 have M:=RS.a3s (aNj b n) λc v h=>aUI (by rw[qw,Rg]) h
 rw[<-hs1] at M;exact⟨_,M⟩
theorem im.aIO (R:im X h0 π s a w)(p:Nat×List CK):∃π',im X h0 π' (aIO X.k s p) a w:=by
 unfold Ab.aIO;split
 .split
  .exact⟨π,R.a3s aIM λc v h=>ax3 h⟩
  .exact⟨π,R.rows⟩
  .exact R.move _
 split
 .rename_i hx
  have od:=a1N hx;generalize hv:AV.r (.c (.sl s.heap.length (.k 0) (.s 0) p.2.length true))=v
  generalize hk:([.a (.s 0) (p.2.map CK.oc)]:aj)=k
  have hk0:aj.size k=0:=by rw[<-hk];simp[aj.size,Sg.size,Sz.val]
  have ZW:j9 X.k [.t p.1 v,.new s.heap.length k] s=some {s with tmps:=s.tmps.set p.1 v,heap:=s.heap++[some k]}:=by
   have h1:wl p.1 s.tmps.length=true:=by simpa using od
   have h2:z9 s.heap.length s.heap.length=true:=Ar _;simp[j9,Up.ok,Up.app,h1,h2]
  have A:=Kh ZW;have hg:=Ox ZW
  have aRF:π s.heap.length=none:=by
   cases hb:π s.heap.length with
   |none=>rfl
   |some q=>have:=R.dom _ (by rw[hb];simp:π s.heap.length≠none);omega
  have auP:=Bo aRF (0,0,aj.size k,0);have hr:(RV.c CV.nils).rel π (a.tmps.getD p.1 undef):=by have:=R.rel.tm p.1;rwa [show s.gt.t p.1=_ from hx] at this
  have R0:=R.rel.LS auP (λb hb=>by simp only[A5];rw[if_neg (by have:=R.hk;omega)])
  have R1:Rel X (·∈s.dm) (A5 π s.heap.length (0,0,aj.size k,0)) ((Up.t p.1 v).gS s.gt) a w:=by
   refine⟨λi=> ?_,R0.nt,R0.df,R0.hp,R0.yi,R0.ft,R0.fr⟩;show(if i=p.1 then v else s.gt.t i).rel _ _;split
   .rename_i e;subst e;subst hv
    exact⟨_,_,_,_,qw _ _ _,by simp[cG.val,Sz.val],λ_=>by simp[cG.val,Sz.val,hk0],.inl ⟨rfl,none,hr⟩⟩
   .exact R0.tm i
  have R2:=R1.new (k:=k) (qw π s.heap.length (0,0,aj.size k,0)) R.hk (by omega) (λi h1 h2=>by omega) (λj hj=>by omega) (λb' s' q' e' _ _ _ i h1 h2=>by omega) (λ_ i h1 h2=>by omega)
  exact⟨_,A.aZs R hg R2 (λb hb=>by
   by_cases e:b=s.heap.length
   .exact .inr ⟨by omega,by simp[cH];omega⟩
   .simp only[A5,e,gq] at hb;exact .inl hb) R.dlt⟩
 .exact⟨π,R⟩
theorem im.nils:∀(l:List (Nat×List CK)) {s:St} {π:Pi},im X h0 π s a w->∃π',im X h0 π' (l.foldl (Ab.aIO X.k) s) a w
 | [],_,π,R=>⟨π,R⟩
 |p::l,_,_,R=>let⟨_,R'⟩:=R.aIO p;im.nils l R'
theorem im.abS (I:In X h0)(R:im X h0 π s a w){h:Hd}(hh:s.abS X.k h=some s'):∃π',im X h0 π' s' a w:=by
 obtain⟨π1,R1⟩:=im.nils h.nils (im.aEC h.aEC R);exact R1.gc I (cP _) hh
theorem im.head (I:In X h0)(R:im X h0 π s a w){hs:Hs}{c:Code}(h:s.head X.k hs c=some s'):∃π',im X h0 π' s' a w:=by
 unfold St.head at h;split at h
 .exact R.gc I (cP _) h
 .split at h
  .exact R.gc I (cP _) h
  .exact R.abS I h
def a3t:AX->Exit
 |.nrm=>.normal
 |.ex id=>.exit id
 |.ret=>.ret
def aZw (X:Cx)(h0:List aj){ρ:Type}(K:AX->St->Option ρ)(r:ρ)(Q:Exit->Act->World->Prop):Prop:=
 ∀e s π a w,im X h0 π s a w->K e s=some r->Q (a3t e) a w
theorem azT {c:Code}{hd:St->Option St}{ρ:Type}{body:St->(AX->St->Option ρ)->Option ρ}{K:AX->St->Option ρ}{r:ρ}{Q:Exit->Act->World->Prop}
  (hb:∀{s:St} {K:AX->St->Option ρ} {Q:Exit->Act->World->Prop} {π:Pi} {a:Act} {w:World},im X h0 π s a w->body s K=some r->aZw X h0 K r Q->c.wp P Q a w)
  (hh:∀{s s':St} {π:Pi} {a:Act} {w:World},im X h0 π s a w->hd s=some s'->∃π',im X h0 π' s' a w)(hQ:aZw X h0 K r Q):
  ∀(n:Nat) {s:St} {π:Pi} {a:Act} {w:World},im X h0 π s a w->iter hd body K n s=some r->Code.rounds P c Q n a w
 |0,_,_,_,_,_,h=>by cases h
 |n+1,s,π,a,w,R,h=>by
  have h:(body s λe s=>match e with
    |.nrm=>match hd s with
     |none=>none
     |some s=>yG s (iter hd body K n)
    |e=>K e s)=some r:=h
  simp only[LR] at h;rw[rounds_succ];refine hb R h λe s2 π2 a2 w2 R2 hK=> ?_;cases e with
  |nrm=>
   simp only at hK;split at hK
   .cases hK
   .rename_i s3 hs3
    obtain⟨π3,R3⟩:=hh R2 hs3;exact azT hb hh hQ n R3 hK
  |ex id=>exact hQ _ _ _ _ _ R2 hK
  |ret=>exact hQ _ _ _ _ _ R2 hK
def Ol (P:Program)(E:Env)(hs:Hs)(nt kk lf:Nat)(a:Code):Prop:=
 ∀σ,ap2 hs a=some σ->σ.kk=kk->∀{ρ:Type} (s:St) (K:AX->St->Option ρ) (r:ρ),σ.run s K=some r->∃n,iter (λt=>t.head kk hs a) (HB P E hs nt kk lf a) K n s=some r
def aut (P:Program)(E:Env)(hs:Hs)(nt kk lf:Nat)(b:Code):Prop:=
 ∀j,azC hs b=some j->j.sm.kk=kk->∀{ρ:Type} (s:St) (K:AX->St->Option ρ) (r:ρ),j.sm.run s K=some r->HB P E hs nt kk lf b s K=some r
def LC (P:Program)(E:Env)(hs:Hs)(nt kk lf:Nat):Code->Prop
 |.seq a b=>aut P E hs nt kk lf b/\LC P E hs nt kk lf a/\LC P E hs nt kk lf b
 |.cond _ a b=>LC P E hs nt kk lf a/\LC P E hs nt kk lf b
 |.block _ a=>LC P E hs nt kk lf a
 |.loop a=>Ol P E hs nt kk lf a/\LC P E hs nt kk lf a
 |_=>True
omit [aA] in
theorem aUJ {hd:List Hd}{d0:List Nat}{jn:List Jn}{rk:Option Hd}(a:Code):ap2 ⟨hd,[],d0,jn,rk⟩ a=none:=by
 unfold ap2;split<;>rfl
omit [aA] in
theorem aUK {hd:List Hd}{sm:List Sm}{d0:List Nat}{rk:Option Hd}(a:Code):azC ⟨hd,sm,d0,[],rk⟩ a=none:=rfl
omit [aA] in
theorem LC.nil (P:Program)(E:Env)(hd:List Hd)(d0:List Nat)(nt kk lf:Nat)(c:Code):LC P E ⟨hd,[],d0,[],none⟩ nt kk lf c:=by
 induction c with
 |seq a b iha ihb=>exact⟨(λj h=>by rw[aUK] at h;cases h),iha,ihb⟩
 |cond x a b iha ihb=>exact⟨iha,ihb⟩
 |block id a iha=>exact iha
 |loop a iha=>exact⟨(λσ h=>by rw[aUJ] at h;cases h),iha⟩
 |_=>trivial
def B9 {α:Type}(p:α->Prop):List α->Prop
 | []=>True
 |a::l=>p a/\B9 p l
omit [aA] in
theorem B9.append {α:Type}{p:α->Prop}:∀{l m:List α},B9 p (l++m)->B9 p l/\B9 p m
 | [],_,h=>⟨trivial,h⟩
 |_::_,_,⟨h1,h2⟩=>⟨⟨h1,(B9.append h2).1⟩,(B9.append h2).2⟩
omit [aA] in
theorem LC.of {P:Program}{E:Env}{hs:Hs}{nt kk lf:Nat}{c:Code}(h:B9 (Ol P E hs nt kk lf) (LA c))(hj:B9 (aut P E hs nt kk lf) (LB hs c)):LC P E hs nt kk lf c:=by
 induction c with
 |seq a b iha ihb=>
  obtain⟨j1,j2⟩:=B9.append hj;refine⟨λj hjn=> ?_,iha (B9.append h).1 (B9.append j2).1,ihb (B9.append h).2 (B9.append j2).2⟩;rw[hjn] at j1;exact j1.1 j hjn
 |cond x a b iha ihb=>exact⟨iha (B9.append h).1 (B9.append hj).1,ihb (B9.append h).2 (B9.append hj).2⟩
 |block id a iha=>exact iha h hj
 |loop a iha=>exact⟨h.1,iha h.2 hj⟩
 |_=>trivial
def S5 {D X ρ:Type}(step:D->(D->Option ρ)->(X->Option ρ)->Option ρ)(n:Nat):D->(X->Option ρ)->Option ρ:=
 Nat.rec (motive:=λ_=>D->(X->Option ρ)->Option ρ) (λ_ _=>none) (λ_ ih d x=>step d (λd=>ih d x) x) n
theorem Ca (hE:∀f F,E f=some F->Sound P f F)(hm:P.follows .mixedOrders=true)(I:In X h0){hs:Hs}{nt lf:Nat}(Zq:nt<=X.N){ρ:Type}{r:ρ}:
  ∀(c:Code),LC P E hs nt X.k lf c->∀{s:St} {K:AX->St->Option ρ} {Q:Exit->Act->World->Prop} {π:Pi} {a:Act} {w:World},im X h0 π s a w->HB P E hs nt X.k lf c s K=some r->aZw X h0 K r Q->c.wp P Q a w
 |.skip,hS,s,K,Q,π,a,w,R,h,hQ=>wp_skip (hQ .nrm _ _ _ _ R h)
 |.region id ops false,hS,s,K,Q,π,a,w,R,h,hQ=>by
  obtain⟨s1,dO,hT,hK⟩:=LX (by rw[R.len];exact Zq) (show LN P E nt X.k ops.toList ops.toList s [] (λs _=>K .nrm s)=some r from h);exact aK0 hE hT R λa' w' π' R'=>hQ .nrm _ _ _ _ R' hK
 |.region id ops true,hS,s,K,Q,π,a,w,R,h,hQ=>by
  obtain⟨s1,dO,hT,hK⟩:=LX (by rw[R.len];exact Zq) (show LN P E nt X.k ops.toList ops.toList s [] (λs l=>match Rb ops.toList 0&&Ra (LM ops.toList []) l 0 with
   |true=>K .nrm s
   |false=>none)=some r from h)
  split at hK
  .rename_i hok
   simp only[cL,List.nil_append] at hok;exact aKZ hE hm hT hok.1 hok.2 R λa' w' π' R'=>hQ .nrm _ _ _ _ R' hK
  .cases hK
 |.seq x y,hS,s,K,Q,π,a,w,R,h,hQ=>by
  refine wp_seq (Ca hE hm I Zq x hS.2.1 R (show HB P E hs nt X.k lf x s (λe s=>match e with
   |.nrm=>match azC hs y with
    |none=>HB P E hs nt X.k lf y s K
    |some j=>match s.abS X.k j.hd with
     |none=>none
     |some s=>yG s λs=>match z9 j.sm.kk X.k with
      |true=>j.sm.run s K
      |false=>none
   |e=>K e s)=some r from h) λe s1 π1 a1 w1 R1 hK=> ?_)
  cases e with
  |nrm=>
   simp only at hK;split at hK
   .exact Ca hE hm I Zq y hS.2.2 R1 hK hQ
   .rename_i j hj
    simp only[LR] at hK;split at hK
    .cases hK
    .rename_i s2 Wk
     split at hK
     .rename_i hk
      obtain⟨π2,R2⟩:=R1.abS I Wk;exact Ca hE hm I Zq y hS.2.2 R2 (hS.1 j hj (beq_iff.1 hk) s2 K r hK) hQ
     .cases hK
  |ex id=>exact hQ _ _ _ _ _ R1 hK
  |ret=>exact hQ _ _ _ _ _ R1 hK
 |.cond (.tmp t) x y,hS,s,K,Q,π,a,w,R,h,hQ=>by
  have h:(match s.tmp t with
   |.r (.c (.f (.b z)))=>match z with
    |true=>HB P E hs nt X.k lf x s K
    |false=>HB P E hs nt X.k lf y s K
   |_=>none)=some r:=h
  split at h
  .rename_i z hz
   have hr:=R.rel.tm t;rw[show s.gt.t t=_ from hz] at hr;have hc:a.eval (.tmp t)=.bool z:=hr;cases z with
   |true=>exact wp_cond_true hc (Ca hE hm I Zq x hS.1 R h hQ)
   |false=>exact wp_cond_false hc (Ca hE hm I Zq y hS.2 R h hQ)
  .cases h
 |.block id x,hS,s,K,Q,π,a,w,R,h,hQ=>by
  refine wp_block (Ca hE hm I Zq x hS R (show HB P E hs nt X.k lf x s (λe s=>match e with
   |.ex j=>match z9 j id with
    |true=>K .nrm s
    |false=>K (.ex j) s
   |e=>K e s)=some r from h) λe s1 π1 a1 w1 R1 hK=> ?_)
  cases e with
  |nrm=>exact hQ _ _ _ _ _ R1 hK
  |ret=>exact hQ _ _ _ _ _ R1 hK
  |ex j=>
   simp only at hK;show if j=id then Q .normal a1 w1 else Q (.exit j) a1 w1
   split at hK
   .rename_i hj
    rw[if_pos (lE hj)];exact hQ .nrm _ _ _ _ R1 hK
   .rename_i hj
    rw[if_neg (λe=>by subst e;simp at hj)];exact hQ (.ex j) _ _ _ _ R1 hK
 |.loop x,hS,s,K,Q,π,a,w,R,h,hQ=>by
  have h:(match s.head X.k hs x with
   |none=>none
   |some s=>yG s λs=>match ap2 hs x with
    |some σ=>match z9 σ.kk X.k with
     |true=>σ.run s K
     |false=>none
    |none=>iter (λt=>t.head X.k hs x) (HB P E hs nt X.k lf x) K lf s)=some r:=h
  simp only[LR] at h;split at h
  .cases h
  .rename_i s1 hs1
   obtain⟨π1,R1⟩:=R.head I hs1
   obtain⟨n,hn⟩:∃n,iter (λt=>t.head X.k hs x) (HB P E hs nt X.k lf x) K n s1=some r:=by
    split at h
    .rename_i σ hσ
     split at h
     .rename_i hk
      exact hS.1 σ hσ (beq_iff.1 hk) s1 K r h
     .cases h
    .exact⟨lf,h⟩
   exact wp_loop_rounds n (azT (hd:=λt=>t.head X.k hs x) (body:=HB P E hs nt X.k lf x) (λR h hQ=>Ca hE hm I Zq x hS.2 R h hQ) (λR' h'=>R'.head I h') hQ n R1 hn)
 |.exit id,hS,s,K,Q,π,a,w,R,h,hQ=>wp_exit (hQ (.ex id) _ _ _ _ R h)
 |.ret,hS,s,K,Q,π,a,w,R,h,hQ=>by
  have h:(match hs.rk with
   |none=>K .ret s
   |some hd=>match s.abS X.k hd with
    |none=>none
    |some s=>yG s λs=>K .ret s)=some r:=h
  split at h
  .exact wp_ret (hQ .ret _ _ _ _ R h)
  .simp only[LR] at h;split at h
   .cases h
   .rename_i s2 Wk
    obtain⟨π2,R2⟩:=R.abS I Wk;exact wp_ret (hQ .ret _ _ _ _ R2 h)
 |.cond (.const _) _ _,_,_,_,_,_,_,_,_,h,_=>by cases h
 |.cond (.func _) _ _,_,_,_,_,_,_,_,_,h,_=>by cases h
 |.cond (.global _) _ _,_,_,_,_,_,_,_,_,h,_=>by cases h
 |.goto _,_,_,_,_,_,_,_,_,h,_=>by cases h
 |.label _,_,_,_,_,_,_,_,_,h,_=>by cases h
end
end Go.Ab
namespace Go.Ab
variable [aA]
section
variable {P:Program} {E:Env} {X:Cx} {h0:List aj} {π:Pi} {s s':St} {a:Act} {w:World}
def aTO (tmps:Array Value):ResultVar->Sem Value
 |.tmp t=>pure (tmps.getD t undef)
 |.cell a t=>do loadVar t (<-asAddr (tmps.getD a undef))
omit [aA] in
theorem aNU (fn:Func)(tmps:Array Value):results fn tmps=(do
  let vs<-fn.results.mapM (aTO tmps)
  pure (if h:vs.size=1 then vs[0] else .tuple vs)):=by
 unfold results;rfl
theorem aUL (R:im X h0 π s a w){r:ResultVar}{v:RV}(h:aTC P s r=some v):∃x,(aTO a.tmps r).run P w=.ok x w/\v.rel π x:=by
 cases r with
 |tmp t=>
  simp only[aTC] at h;split at h
  .rename_i u hu
   cases h;have:=R.rel.tm t;rw[show s.gt.t t=_ from hu] at this;exact⟨_,rfl,this⟩
  .cases h
 |cell q t=>
  simp only[aTC] at h;split at h
  .rename_i b o m hu
   have hp:=R.rel.tm q;rw[show s.gt.t q=_ from hu] at hp;obtain⟨B,s1,q1,e,hb,hx,hm⟩:=hp
   have key:∀v l,aH (ZO P t b o m) s.gt v l->∃x,(aTO a.tmps (.cell q t)).run P w=.ok x w/\v.rel π x:=λv l hv=>by
    obtain⟨x,hx1,hx2⟩:=aH.ZO R.rel hv hb hm;refine⟨x,?_,hx2⟩;show(do loadVar t (<-asAddr (a.tmps.getD q undef))).run P w=_;rw[hx];simpa[asAddr] using hx1
   split at h
   .rename_i n' bX c h1 h2 h3
    split at h
    .rename_i hle
     simp only[m9] at h;obtain⟨k,hk,rfl⟩:=h;obtain⟨k1,k2⟩:=Ou hk;refine key _ (.c b (ext (.k c) (.l 1) n'):: .z b::[]) ?_;unfold Ab.ZO;rw[h1,h2];show aH ((cM (Nat.ble n' m)).bind _) _ _ _;unfold cM;rw[hle];refine aH.test (aH.vw _ _ (St.ap8 h3) k1 (λhle j hj=> ?_) (.ret _ _));rw[k2 hle j hj];exact(St.aTE h3 (by simp only[cG.val] at hle;omega)).symm
    .cases h
   .rename_i n' bX c h1 h2 h3
    split at h
    .rename_i hle
     split at h
     .rename_i v0 hk
      cases h;obtain⟨k1,k2⟩:=Ou hk;refine key _ (.c b (ext (.k c) (.l 1) 1):: .z b::[]) ?_;unfold Ab.ZO;rw[h1,h2];show aH ((cM (Nat.ble 1 m)).bind _) _ _ _;unfold cM;rw[hle];refine aH.test (aH.vw _ _ (St.ap8 h3) k1 (λhle j hj=> ?_) (.ret _ _));rw[k2 hle j hj];exact(St.aTE h3 (by simp only[cG.val] at hle;omega)).symm
     .cases h
    .cases h
   .cases h
  .cases h
theorem aFl (R:im X h0 π s a w):∀{l:List ResultVar} {vs:List RV},axP P s l=some vs->∃xs,(l.mapM (aTO a.tmps)).run P w=.ok xs w/\bq (RV.rel π) vs xs
 | [],vs,h=>by cases h;exact⟨[],by simp,trivial⟩
 |r::l,vs,h=>by
  simp only[axP] at h;split at h
  .rename_i v kt h1 h2
   cases h;obtain⟨x,e1,r1⟩:=aUL R h1;obtain⟨xs,e2,r2⟩:=aFl R h2;exact⟨x::xs,by simp[List.mapM_cons,e1,e2],r1,r2⟩
  .cases h
theorem aK1 (R:im X h0 π s a w){fn:Func}{vs:List RV}(h:axP P s fn.results.toList=some vs):∃x,(results fn a.tmps).run P w=.ok x w/\(one vs).rel π x:=by
 obtain⟨xs,e,r⟩:=aFl R h;have hlen:=r.length;rw[aNU];simp only[Array.mapM_eq_mapM_toList,Sem.run_bind,Sem.run_map,e,Result.andThen_ok,Sem.run_pure];match vs,xs,r with
 | [],[],r=>exact⟨_,rfl,#[],by simp,trivial⟩
 | [v],[x],r=>exact⟨x,by simp,r.1⟩
 |v::v'::vs,x::x'::xs,r=>exact⟨_,by simp,(x::x'::xs).toArray,rfl,r⟩
omit [aA] in
theorem aI8 {α:Type}:∀{l:List (Option α)} {m:List α},aEF l=some m->l=m.map some
 | [],m,h=>by cases h;rfl
 |some x::l,m,h=>by
  simp only[aEF,m9] at h;obtain⟨m',h1,rfl⟩:=h;rw[aI8 h1];rfl
 |none::l,m,h=>by cases h
omit [aA] in
theorem aI9 (d:List Nat):∀(l:List (Option aj)) (j0 j:Nat),(ait d l j0)[j]? =(l[j]?).map λb=>match d.any (z9 (j0+j)) with
  |false=>Ch.mW
  |true=>match b with
   |some b=>.set b
   |none=>.kill
 | [],_,_=>by simp[ait]
 |b::l,j0,0=>by simp[ait];rfl
 |b::l,j0,j+1=>by
  simp only[ait,List.getElem?_cons_succ];rw[aI9 d l (j0+1) j,show j0+1+j=j0+(j+1) by omega]
omit [aA] in
theorem any_beq {d:List Nat}{j:Nat}:d.any (z9 j)=true↔j∈d:=by
 rw[abM];constructor
 .rintro ⟨y,hy,he⟩;rw[lE he];exact hy
 .exact λh=>⟨j,h,Ar j⟩
omit [aA] in
theorem azU (d:List Nat):∀(h:List aj) (l:List (Option aj)) (j0:Nat),l.length=h.length->(∀j b,j0+j∉d->l[j]? =some b->b=h[j]?)->after h (ait d l j0)=l
 | [],[],_,_,_=>rfl
 |b::bs,o::l,j0,hl,hk=>by
  have ih:=azU d bs l (j0+1) (by simpa using hl) λj b h1 h2=>by
   have:=hk (j+1) b (by rwa [show j0+(j+1)=j0+1+j by omega]) (by simpa using h2);simpa using this
  simp only[ait];cases hd:d.any (z9 j0) with
  |false=>
   have hn:j0∉d:=λh=>by rw[any_beq.2 h] at hd;cases hd
   have:=hk 0 o (by simpa using hn) rfl;simp only[aEo] at this;subst this;simp[after,ih]
  |true=>
   cases o with
   |none=>simp[after,ih]
   |some b'=>simp[after,ih]
abbrev aJa (_:Program)(π:Pi)(w0:World)(h:List aj)(res:pP):Ending->World->Prop:=tQ π w0 h res
theorem aRG (I:In X h0)(R:im X h0 π s a w){fn:Func}{e:AX}{res:pP}(h:fin P fn X.k e s=some res):bodyPost P fn (aJa P X.p0 X.w0 h0 res) (a3t e) a w:=by
 have main:(match axP P s fn.results.toList with
  |none=>none
  |some vs=>
   let x:=gcA X.k (one vs) []
   let y:=gcO X.k s.dm X.k (s.heap.take X.k) 0 x.2
   match gcN X.k s.heap 1000 0 y.2 [] with
   |some z=>match aEF z.1 with
    |some news=>some {val:=x.1,yY:=ait s.dm y.1 0,news}
    |none=>none
   |none=>none)=some res->a.defers=[]/\∃v,(results fn a.tmps).run P w=.ok v w/\aJa P X.p0 X.w0 h0 res (.returned v) w:=by
  intro h;split at h
  .cases h
  rename_i vs hvs
  simp only at h;split at h
  .rename_i z hz
   split at h
   .rename_i news a4F
    cases h;obtain⟨v,oD,hv⟩:=aK1 R hvs;have G:=ax2 X.k (one vs) [];have ok0:=G.ok ⟨List.nodup_nil,λ_ h=>by cases h⟩;obtain⟨q1,q2,q3,q4,q5⟩:=aNS I R (cP _) R.hk ok0 hz;have hz1:=aI8 a4F;obtain⟨o1,o2,o3,o4⟩:=aoT X.k s.dm X.k (s.heap.take X.k) 0 (gcA X.k (one vs) []).2;generalize hy:gcO X.k s.dm X.k (s.heap.take X.k) 0 (gcA X.k (one vs) []).2=y at*
    have hyl:y.1.length=X.k:=by rw[o3];have:=R.hk;simp;omega
    have hhl:=I.k
    have hnl:z.2.length=news.length:=by
     have e1:(y.1++z.1).length=y.1.length+z.1.length:=by simp
     have e2:z.1.length=news.length:=by rw[hz1];simp
     omega
    have a1O:after h0 (ait s.dm y.1 0)=y.1:=azU s.dm h0 y.1 0 (by omega) λj b h1 h2=>by
     have hj:j<y.1.length:=(lP.1 h2).1;have h3:=q4 j (by omega) (by omega) (by simpa using h1);rw[Uu hj,h2] at h3;have h4:=R.drt j (by omega) (by simpa using h1);rw[<-h4,<-h3];rfl
    have a4G:(⟨(gcA X.k (one vs) []).1,ait s.dm y.1 0,news⟩:pP).heap h0=y.1++z.1:=by
     unfold pP.heap;simp only;rw[a1O,hz1]
    have aFm:∀B i,DH X.p0 X.k (·∈s.dm) B i->DH X.p0 h0.length (S3 (ait s.dm y.1 0)) B i:=by
     rintro B i ⟨b,s1,qq,e1,hb,hd,hp,i1,i2⟩
     refine⟨b,s1,qq,e1,by omega,?_,hp,i1,i2⟩;unfold S3;rw[aI9,gP,any_beq.2 hd];have:y.1[b]? =some (y.1[b]'(by omega)):=kT _;rw[this];cases y.1[b]'(by omega)<;>simp
    refine⟨R.rel.df,v,oD,LY π X.k z.2,v,rfl,λb p hp=> ?_,?_,?_,R.rel.fr.mono λB i _ h=>aFm B i h,λb hb=> ?_,λb B s1 qq e1 hb hp hB i i1 i2=> ?_⟩
    .have hb:=I.d b (by rw[hp];simp);unfold LY;rw[if_pos hb,R.rel.yi b hb];exact hp
    .exact AV.dH q1.ext _ _ (G.rel π v hv)
    .rw[a4G];exact q2
    .unfold LY at hb;split at hb
     .simp only;omega
     .cases hm:z.2[b-X.k]? with
      |none=>rw[hm] at hb;exact absurd rfl hb
      |some b0=>have:=(lP.1 hm).1;simp only;omega
    .have vf:=hp;unfold LY at vf;rw[if_neg (by omega)] at vf;cases hm:z.2[b-X.k]? with
     |none=>rw[hm] at vf;cases vf
     |some b0=>
      rw[hm] at vf;have od:=(lP.1 hm).1
      have hzb:hZ (y.1++z.1) b≠none:=by
       unfold hZ;rw[adQ (by omega),hyl,hz1,CA,kT (show b-X.k<news.length by omega)];simp
      rcases q5 b hzb with⟨h1,_⟩| ⟨b1,h1,h2,h3,h4⟩
      .omega
      .rw[hm] at h2;cases h2;exact aFm B i (R.rel.ft b0 B s1 qq e1 h3 h4 vf hB i i1 i2)
   .cases h
  .cases h
 cases e with
 |nrm=>exact main h
 |ret=>exact main h
 |ex id=>cases h
def tOf:Option pP->T
 |some r=>.leaf r
 |none=>.fail
theorem aRH (hE:∀f F,E f=some F->Sound P f F)(hm:P.follows .mixedOrders=true){hs:Hs}{lf:Nat}{f:FuncId}(aNV:∀fn c kk,P.funcs[f]? =some fn->fn.body=some c->LC P E hs fn.ntmps kk lf c)(hc:∀args w,(callFunc f args).run P w=.ok (.enter f args) w):Sound P f λargs h=>tOf (den P E hs lf f args h):=by
 intro args h res tT w π vs lF hH kr;refine .inl ⟨hc _ _,?_⟩
 have tT:den P E hs lf f args h=some res:=by
  have tT:(tOf (den P E hs lf f args h)).eval=some res:=tT;cases hd:den P E hs lf f args h with
  |none=>rw[hd] at tT;cases tT
  |some r=>rw[hd] at tT;exact tT
 unfold den at tT;split at tT
 .cases tT
 rename_i fn hf
 split at tT
 .cases tT
 rename_i c hb
 split at tT
 case h_1=>cases tT
 rename_i aRI
 have aRI:∀b,b∈hs.dm->b<h.length:=λb hb=>uH.1 (asK.1 aRI b hb)
 rw[LR] at tT;have hlen:=lF.length;refine calls_of_wp hf hb ?_;let X:Cx:={w0:=w,k:=h.length,p0:=π,N:=(start fn args h hs.dm).tmps.length}
 have I:In X h:=⟨rfl,hH,kr⟩
 have R:im X h π (start fn args h hs.dm) {tmps:=vs++Array.replicate (fn.ntmps-vs.size) undef,defers:=[]} w:=by
  refine⟨⟨λi=> ?_,by simp[X,start];simp at hlen;omega,rfl,hH,λ_ _=>rfl,λb B s q e hk hz hp=> ?_,cy.refl _ _⟩,rfl,λb hb=>by simpa[start] using kr b hb,λb hb _=> ?_,by simp[start,X],λb hb=>aRI b hb⟩
  .show(akU (args++List.replicate (fn.ntmps-args.length) udf) i).rel π ((vs++Array.replicate (fn.ntmps-vs.size) undef).getD i undef);rw[Bm];simp only[Wc] at hlen;rw[ap3];simp only[List.getD];rcases mO i args.length with hi|hi
   .have e1:args[i]? =some (args[i]'hi):=kT _;obtain⟨x,hx,hr⟩:=lF.get e1;rw[Uu hi,e1,Array.getElem?_append_left (by omega),<-Wb,hx];exact hr
   .rw[adQ hi,Array.getElem?_append_right (by omega),List.getElem?_replicate,Array.getElem?_replicate,hlen];split<;>exact asX π
  .exact absurd (kr b (by rw[hp];simp)) (by simp only[X] at hk;omega)
  .show((h.map some)[b]?).getD none=h[b]?;rw[CA];cases h[b]? <;>rfl
 exact Ca hE hm I (nt:=fn.ntmps) (by simp[X,start];omega) c (aNV fn c h.length hf hb) R tT λe s π a w R hK=>aRG I R hK
structure pP.wk (h:List aj)(r r':pP):Prop where
 val:r.val=r'.val
 news:r.news=r'.news
 yY:∀(j:Nat) (b:aj),(after h r.yY)[j]? =some (some b)->∃b':aj,(after h r'.yY)[j]? =some (some b')/\aj.size b'=aj.size b/\∀i,i<aj.size b->aj.get b i=aj.get b' i
 mW:∀j:Nat,r.yY[j]? =some .mW->r'.yY[j]? =some .mW
omit [aA] in
theorem pP.wk.refl (h:List aj)(r:pP):r.wk h r:=⟨rfl,rfl,λj b hb=>⟨b,hb,rfl,λ_ _=>rfl⟩,λ_ h=>h⟩
theorem Sound.weaken {f:FuncId}{F F0:FE}(S:Sound P f F0)(hw:∀args h r,(F args h).eval=some r->∃r',(F0 args h).eval=some r'/\r.wk h r'):Sound P f F:=by
 intro args h res tT w π vs lF hH kr;obtain⟨r',hr',W⟩:=hw args h res tT
 suffices key:∀e w',tQ π w h r' e w'->tQ π w h res e w' by
  rcases S args h r' hr' w π vs lF hH kr with⟨S1,S2⟩| ⟨v,S1,S2⟩
  .exact .inl ⟨S1,Calls.mono S2 key⟩
  .exact .inr ⟨v,S1,key _ _ S2⟩
 rintro e w' ⟨π',v,rfl,hx,hv,hH',hF,hd,hi⟩
 have aFm:∀B i,DH π h.length (S3 r'.yY) B i->DH π h.length (S3 res.yY) B i:=by
  rintro B i ⟨b,s1,qq,e1,hb,hD,hp,i1,i2⟩
  exact⟨b,s1,qq,e1,hb,λhk=>hD (W.mW b hk),hp,i1,i2⟩
 have src:∀b n,hZ (res.heap h) b=some n->∃k k',(res.heap h)[b]? =some (some k)/\aj.size k=n/\(r'.heap h)[b]? =some (some k')/\aj.size k'=n/\∀i,i<n->aj.get k i=aj.get k' i:=λb n hn=>by
  unfold hZ at hn;cases hg:(res.heap h)[b]? with
  |none=>rw[hg] at hn;cases hn
  |some o=>
   rw[hg] at hn;cases o with
   |none=>cases hn
   |some k=>
    have hkn:aj.size k=n:=by simpa using hn
    rcases mO b h.length with hb|hb
    .rw[Eg hb] at hg;obtain⟨k',h1,h2,h3⟩:=W.yY b k hg;exact⟨k,k',rfl,hkn,by rw[Eg hb];exact h1,by omega,λi hi=>h3 i (by omega)⟩
    .refine⟨k,k,rfl,hkn,?_,hkn,λ_ _=>rfl⟩;unfold pP.heap at hg ⊢;rw[adQ (by rw[nL];exact hb),nL] at hg ⊢;rw[<-W.news];exact hg
 refine⟨π',v,rfl,hx,by rw[W.val];exact hv,⟨hH'.am,λb B s1 q1 e1 hz hp B7=> ?_,λb n hn=> ?_,λb b' B s1 q1 e1 s2 q2 e2 mX hz uJ=> ?_⟩,hF.mono λB i _ h=>aFm B i h,by rw[W.news];exact hd,λb B s1 qq e1 hb hp hB i i1 i2=>aFm B i (hi b B s1 qq e1 hb hp hB i i1 i2)⟩
 .cases hn:hZ (res.heap h) b with
  |none=>exact absurd hn hz
  |some n=>
   obtain⟨k,k',_,_,h3,_⟩:=src b n hn;exact hH'.lb b B s1 q1 e1 (by rw[Z1 h3];simp) hp B7
 .obtain⟨k,k',h1,h2,h3,h4,h5⟩:=src b n hn;have hz:hZ (r'.heap h) b=some n:=by rw[<-h4];exact Z1 h3
  obtain⟨B,s1,e1,hp,hle,m1,m2⟩:=hH'.hp b n hz;refine⟨B,s1,e1,hp,hle,m1,λj hj=> ?_⟩;obtain⟨x,hx1,hx2⟩:=m2 j hj;rw[agq h3 (by omega)] at hx2;exact⟨x,hx1,by rw[agq h1 (by omega),h5 j hj];exact hx2⟩
 .have nn:∀b,hZ (res.heap h) b≠none->hZ (r'.heap h) b≠none:=λb hb=>by
   cases hn:hZ (res.heap h) b with
   |none=>exact absurd hn hb
   |some n=>obtain⟨k,k',_,_,h3,_⟩:=src b n hn;rw[Z1 h3];simp
  exact hH'.dj b b' B s1 q1 e1 s2 q2 e2 mX (nn b hz) (nn b' uJ)
end
end Go.Ab
namespace Go.Ab
variable [aA]
open Go.ChangeShapes Go.WideShapes Go.ChangeAt Go.RowKit
def GK (P:Program)(f:FuncId):Bool:=match P.funcs[f]? with
 |some fn=> !(fn.name=="runtime.NumGoroutine")&&fn.body.isSome
 |none=>false
omit [aA] in
theorem Iy {P:Program}{f:FuncId}(h:GK P f=true)(args:Array Value)(w:World):(callFunc f args).run P w=.ok (.enter f args) w:=by
 unfold GK at h;split at h
 .rename_i fn hf
  simp only[cL,pL] at h;cases hb:fn.body with
  |none=>rw[hb] at h;cases h.2
  |some c=>
   have h1:fn.name≠"runtime.NumGoroutine":=by simpa using h.1
   simp[callFunc,hf,h1,hb]
 .cases h
def FF:List (Nat×FE)->Env
 | [],_=>none
 |p::l,f=>match z9 p.1 f with
  |true=>some p.2
  |false=>FF l f
def Kb (P:Program)(l:List (Nat×FE)):Prop:=∀f F,FF l f=some F->Sound P f F
theorem Kb.nil (P:Program):Kb P []:=λ_ _ h=>by cases h
theorem Kb.cons {P:Program}{l:List (Nat×FE)}{f:Nat}{F:FE}(S:Sound P f F)(h:Kb P l):Kb P ((f,F)::l):=λg G hg=>by
 simp only[FF] at hg;split at hg
 .rename_i hb
  cases hg;rw[<-lE hb];exact S
 .exact h g G hg
noncomputable def inl (P:Program) (l:List (Nat×FE)) (hs:Hs) (lf:Nat) (f:FuncId):FE:=λargs h=>tOf (den P (FF l) hs lf f args h)
theorem aUM {P:Program}{l:List (Nat×FE)}(hl:Kb P l)(hm:P.follows .mixedOrders=true){hs:Hs}{lf:Nat}{f:FuncId}(aNV:∀fn c kk,P.funcs[f]? =some fn->fn.body=some c->LC P (FF l) hs fn.ntmps kk lf c)(hc:GK P f=true):Sound P f (inl P l hs lf f):=
 aRH hl hm aNV (Iy hc)
omit [aA] in
theorem aUN {P:Program}{l:List (Nat×FE)}{hs:Hs}{lf:Nat}{f:FuncId}{args:List AV}{h:List aj}{r:pP}(hd:den P (FF l) hs lf f args h=some r):(inl P l hs lf f args h).eval=some r:=by
 unfold inl;rw[hd];rfl
theorem Sound.by {P:Program}{f:FuncId}{F F0:FE}(S:Sound P f F0)(h:∀args b r,(F args b).eval=some r->(F0 args b).eval=some r):Sound P f F:=
 S.weaken λargs b r hr=>⟨r,h args b r hr,.refl _ _⟩
omit [aA] in
theorem cy.kept {w w':World}(h:cy w (λ_ _=>False) w'):w.keptBut w' (λ_=>False):=by
 refine⟨h.os,h.output,λi hi=> ?_⟩;cases hh:w.heap[i]? with
 |none=>rw[h.obj i hi (by rw[hh];intro c t fz e;cases e),hh]
 |some x=>
  cases x with
  |cells c t fr=>
   obtain⟨c',e1,e2,e3⟩:=h.row i c t fr hh;rw[e1];exact⟨rfl,rfl,e2,λj _=>e3 j (λf=>f)⟩
  |map es clock=>
   rw[h.obj i hi (by rw[hh];intro c t fz e;cases e),hh];exact .inr ⟨rfl,rfl⟩
  |_=>rw[h.obj i hi (by rw[hh];intro c t fz e;cases e),hh]
omit [aA] in
theorem cy.sameAt {w w':World}(h:cy w (λ_ _=>False) w'){p:MemPlace}(hp:p.block<w.heap.size):w.sameAt w' p:=by
 cases p with
 |cell b off=>exact h.cl hp (λf=>f)
 |map b=>
  show w'.heap[b]? =w.heap[b]?;have hp:b<w.heap.size:=hp;cases hh:w.heap[b]? with
  |none=>rw[h.obj b hp (by rw[hh];intro c t fz e;cases e),hh]
  |some x=>
   cases x with
   |cells c t fr=>
    obtain⟨c',e1,e2,e3⟩:=h.row b c t fr hh;rw[e1];have:c'=c:=Array.ext_getElem? λj=>e3 j (λf=>f)
    rw[this]
   |_=>rw[h.obj b hp (by rw[hh];intro c t fz e;cases e),hh]
section
variable {H:Type} {enc:TypeId×Value->H}
omit [aA] in
theorem ald {P:Program}(hl:laidOutB P=true){W W':World}(hf:cy W (λ_ _=>False) W'){sp:Nat->Bool}:∀{ts:List TypeId} {vs:List Value} {ds:List (DataW H)} {ps:List MemPlace},(∀t∈ts,P.readableRec t=true/\t<P.types.size)->
  DataW.TrodAll enc P W 0 (λ_=>true) true ts vs ds ps->(∀p∈ps,p.block<W.heap.size)->(∀p∈ps,sp p.block=true)->DataW.TrodAll enc P W' 0 sp true ts vs ds ps
 | [],vs,ds,ps,_,h,_,_=>by
  obtain⟨rfl,rfl,rfl⟩:=trodAll_nil h;rfl
 |t::ts,vs,ds,ps,ht,h,h1,h2=>by
  obtain⟨v,vs1,d,ds1,a,b,rfl,rfl,rfl,h3,h4⟩:=trodAll_cons h;refine⟨a,b,WideElems.Trod_stays hl (ht t (by simp)).1 (ht t (by simp)).2 h3 (λp hp=>hf.sameAt (h1 p (by simp[hp]))) (λp hp=>h2 p (by simp[hp])),?_,rfl⟩;exact ald hl hf (λt ht'=>ht t (by simp[ht'])) h4 (λp hp=>h1 p (by simp[hp])) (λp hp=>h2 p (by simp[hp]))
omit [aA] in
theorem aUO {C:Checked}{os:Os}{f:FuncId}{fn:Func}{s:ChangeSpec}{conds:List PathCond}{tb:TypeId}
  (own:ownKnob C.prog.godebug=none)(started:os.Started)(a1P:C.prog.inits.idxOf? f=none)(hfn:C.prog.funcs[f]? =some fn)
  (hl:laidOutB C.prog=true)(tT:fn.resultTypes=#[tb])(htb:C.prog.underlying tb=some .bool)(a3u:fn.params.all (λt=>C.prog.readableRec t&&decide (t<C.prog.types.size))=true)(aZx:s.vars=[])
  (a4H:∀(ds:List (DataW H)),ds.length=fn.params.size->s.fn H ds={results:=[.lit (.bool true)],args:=ds})
  (witness:∃(w:World) (tape:Tape) (i:Input),w.os=os/\(w.forCall tape i).Shaped C.prog/\i.vars=[]/\Input.okWide C.prog (w.forCall tape i) .any w.heap.size f i/\
   s.pre6 enc C.prog fn conds false (w.forCall tape i).memory i.args/\({}:Assume).holds C.prog (lone (Frame.enter C.prog f i.args .normal) [] (w.forCall tape i)))
  (aUP:∀(W:World) (base:Nat) (args:Array Value) (ds:List (DataW H)) (ps:List MemPlace),args.size=fn.params.toList.length->
   (∀(j:Nat) t v,fn.params.toList[j]? =some t->args[j]? =some v->Value.okWide C.prog W .any base t v)->
   DataW.TrodAll enc C.prog W 0 (λ_=>true) true fn.params.toList args.toList ds ps->W.noneFrozen ps->(∀p∈ps,p.block<W.heap.size)->
   conds.all (PathCond.test C.prog ⟨fn.params.toList,ds,s.plain.varTypes C.prog,[]⟩)=true->
   Calls C.prog f args W λe W'=>e=.returned (.bool true)/\cy W (λ_ _=>False) W'):
  ReturnsInHanded {} C os f .any (s.pre6 enc C.prog fn conds false) (s.post enc C.prog fn false true false false):=by
 refine returnsInHanded_of_change own started a1P hfn witness ?_;intro W base args ds gs before aFb hW a6m _;have hW':=hW;obtain⟨p,q,hA,hV,hpq,hfz,hnd⟩:=hW;rw[aZx] at hV;obtain⟨rfl,rfl⟩:=trodVars_none hV;simp only[List.append_nil] at hpq;subst hpq
 have hlen:∀{ts:List TypeId} {vs:List Value} {ds:List (DataW H)} {ps:List MemPlace},DataW.TrodAll enc C.prog W 0 (λ_=>true) true ts vs ds ps->vs.length=ts.length/\ds.length=ts.length:=by
  intro ts;induction ts with
  |nil=>intro vs ds ps h;obtain⟨rfl,rfl,rfl⟩:=trodAll_nil h;exact⟨rfl,rfl⟩
  |cons t ts ih=>intro vs ds ps h;obtain⟨v,vs1,d,ds1,a,b,rfl,rfl,rfl,_,h4⟩:=trodAll_cons h;have:=ih h4;exact⟨by simp[this.1],by simp[this.2]⟩
 obtain⟨l1,l2⟩:=hlen hA;have od:∀x∈before,x.block<W.heap.size:=λx hx=>hW'.lt x hx
 refine(aUP W base args ds before (by simpa using l1) (λj t v hj hv=>aFb j t v (by rw[<-Wb];exact hj) hv) hA hfz od (by simpa using a6m)).mono λe W' ⟨he,hg⟩=> ?_;subst he;have hs:=a4H ds (by simpa using l2)
 have hr:∀t∈fn.params.toList,C.prog.readableRec t=true/\t<C.prog.types.size:=λt ht=>by
  rw[Array.all_eq_true_iff_forall_mem] at a3u;have:=a3u t (by simpa using ht);simpa using this
 refine⟨_,rfl,post_of_same (pa:=before) (pv:=[]) hW' (λb sp hd=> ?_) (λsp hsp=> ?_) (λsp _=> ?_) (by simp) (World.keptBut_mono (λ_ f=>f.elim) hg.kept) hg.fzn (ok_one tT rfl (okWide_bool_mk htb _))⟩
 .rw[List.append_nil,hs,tT];exact trodAll_cons_mk (shut_bool htb _) trodAll_mk0
 .rw[List.append_nil,hs];exact ald hl hg hr hA od hsp
 .rw[List.append_nil,hs,aZx];rfl
end
end Go.Ab
