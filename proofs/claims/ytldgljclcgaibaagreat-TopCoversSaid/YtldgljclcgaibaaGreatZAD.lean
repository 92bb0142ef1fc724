/-
  Parts of the proof: AbG AbH AbI AbJ AbK AbL AbN AbR AbT AbU AbV
-/
import Derived.Test.YtldgljclcgaibaaGreatZAC
import Derived.ProofKit
import Derived.OpenShut
open Nat renaming beq→z9,blt→v9
open List renaming range→t5
set_option linter.unusedVariables false
set_option linter.unusedSimpArgs false
namespace Go.Ab
variable [aA]
section
variable {P:Program} {g:Gt}
theorem axY {aix:TypeId->RV->RV->Rd Bool}{D:Nat}(aIG:∀t x y r l,aI (aix t x y) g r l->∀(π:Pi) a b (w:World),x.rel π a->y.rel π b->(Op.equalIn D t a b).run P w=.ok r w){xs ys:aj}:∀{fs:List Field} {r:Bool} {l:List Fp},aI (aML P aix xs ys fs) g r l->
  ∀(π:Pi) (as bs:Array Value) (w:World),bu (CV.rel π) xs.list as.toList->bu (CV.rel π) ys.list bs.toList->(Op.eqFields D as bs fs).run P w=.ok r w
 | [],r,l,h,π,as,bs,w,_,_=>by cases h;simp[Op.eqFields]
 |f::fs,r,l,h,π,as,bs,w,ha,hb=>by
  simp only[aML] at h;split at h
  .rename_i hn
   obtain⟨x,⟨_,h1⟩,_,h⟩:=aI.bind' h;obtain⟨y,⟨_,h2⟩,_,h⟩:=aI.bind' h;obtain⟨r1,⟨_,h3⟩,_,h⟩:=aI.bind' h;obtain⟨r2,⟨_,h4⟩,_,h⟩:=aI.bind' h;cases h;obtain⟨u,hu,hru⟩:=h1.Ow ha w;obtain⟨v,hv,hrv⟩:=h2.Ow hb w;have e3:=aIG _ _ _ _ _ h3 π u v w hru hrv;have e4:=axY aIG h4 π as bs w ha hb;simp only[Op.eqFields,if_pos hn,Sem.run_bind,hu,hv,e3,Result.andThen_ok];cases r1<;>simp[e4]
  .rename_i hn
   have e4:=axY aIG h π as bs w ha hb;simp only[Op.eqFields,if_neg hn];exact e4
theorem aIH {aix:TypeId->RV->RV->Rd Bool}{D:Nat}{e:TypeId}{z:Nat}(aIG:∀t x y r l,aI (aix t x y) g r l->∀(π:Pi) a b (w:World),x.rel π a->y.rel π b->(Op.equalIn D t a b).run P w=.ok r w){xs ys:aj}:∀{is:List Nat} {r:Bool} {l:List Fp},aI (aXt P aix e z xs ys is) g r l->
  ∀(π:Pi) (as bs:Array Value) (w:World),bu (CV.rel π) xs.list as.toList->bu (CV.rel π) ys.list bs.toList->
   (forIn is ((none,()):Option Bool×Unit) (λi (_:Option Bool×Unit)=>(do
    let a<-part e as (i*z)
    let b<-part e bs (i*z)
    let c<-Op.equalIn D e a b
    if (!c)=true then pure (ForInStep.done (some false,())) else pure (ForInStep.yield (none,())):Sem (ForInStep (Option Bool×Unit))))).run P w=.ok (if r then(none,()) else(some false,())) w
 | [],r,l,h,π,as,bs,w,_,_=>by cases h;simp
 |i::is,r,l,h,π,as,bs,w,ha,hb=>by
  obtain⟨x,⟨_,h1⟩,_,h⟩:=aI.bind' h;obtain⟨y,⟨_,h2⟩,_,h⟩:=aI.bind' h;obtain⟨r1,⟨_,h3⟩,_,h⟩:=aI.bind' h;obtain⟨r2,⟨_,h4⟩,_,h⟩:=aI.bind' h;cases h;obtain⟨u,hu,hru⟩:=h1.Ow ha w;obtain⟨v,hv,hrv⟩:=h2.Ow hb w;have e3:=aIG _ _ _ _ _ h3 π u v w hru hrv;have e4:=aIH aIG h4 π as bs w ha hb;rw[List.forIn_cons];simp only[Sem.run_bind,hu,hv,e3,Result.andThen_ok];cases r1
  .simp
  .simp only[HZ,xS,fT,Sem.run_pure,Result.andThen_ok,o8];exact e4
omit [aA] in
theorem aTj (c:cS)(j:Nat):iB [c] j=.f (c.at j):=by
 unfold iB;simp[Nat.mod_one]
theorem aNl {e:TypeId}{c c':cS}{n:Nat}{r:Bool}(hs:adJ P e [c]=true)(hc:aEj n [c] [c']=some r){D D2:Nat}(hD:D=D2+1)(w:World):∃q:Nat->Bool,r=aSk n q/\
  ∀i a b,(c.at i).rel a->(c'.at i).rel b->(Op.equalIn D e a b).run P w=.ok (q i) w:=by
 subst hD;unfold adJ at hs;split at hs
 .rename_i g1 hu hcc
  cases hcc;unfold aEj at hc;split at hc
  .rename_i h1 h2;cases h1
  .rename_i g h h1 h2
   cases h1;cases h2
   cases hc;refine⟨_,rfl,λi a b ha hb=> ?_⟩;have ha:a=.bool (g1 i):=ha;have hb:b=.bool (h i):=hb;subst ha hb;exact run_equalIn_bool w D2 e _ _ hu
  .cases hc
 .rename_i k0 k1 g1 hu hcc
  cases hcc;unfold aEj at hc;split at hc
  .rename_i k g k' h h1 h2
   cases h1;cases h2
   split at hc
   .rename_i hk
    subst hk;cases hc;refine⟨_,rfl,λi a b ha hb=> ?_⟩;have ha:a=.int k1 (g1 i):=ha;have hb:b=.int k1 (h i):=hb;subst ha hb;exact run_equalIn_int w D2 e k1 k0 _ _ hu
   .cases hc
  .rename_i h1 h2;cases h1
  .cases hc
 .cases hs
omit [aA] in
theorem aNm {e:TypeId}{c:cS}(hs:adJ P e [c]=true):adI P e=some false:=by
 unfold adJ at hs;unfold adI;split at hs
 .rename_i hu _;rw[hu]
 .rename_i hu _;rw[hu]
 .cases hs
theorem azQ {e:TypeId}{D n:Nat}{c c':cS}{q:Nat->Bool}{w:World}(aSD:adI P e=some false)(hq:∀i a b,(c.at i).rel a->(c'.at i).rel b->(Op.equalIn D e a b).run P w=.ok (q i) w){π:Pi}{as bs:Array Value}
  (ha:bu (CV.rel π) (aj.list [.a (.l n) [c]]) as.toList)(hb:bu (CV.rel π) (aj.list [.a (.l n) [c']]) bs.toList):∀{is:List Nat},(∀i∈is,i<n)->
   (forIn is ((none,()):Option Bool×Unit) (λi (_:Option Bool×Unit)=>(do
    let a<-part e as (i*1)
    let b<-part e bs (i*1)
    let c<-Op.equalIn D e a b
    if (!c)=true then pure (ForInStep.done (some false,())) else pure (ForInStep.yield (none,())):Sem (ForInStep (Option Bool×Unit))))).run P w=.ok (if is.all q then(none,()) else(some false,())) w
 | [],_=>by simp
 |i::is,hi=>by
  have cell:∀{c:cS} {as:Array Value},bu (CV.rel π) (aj.list [.a (.l n) [c]]) as.toList->∃x,(part e as (i*1)).run P w=.ok x w/\(c.at i).rel x:=λ{c as} ha=>by
   have hs:aj.size [.a (.l n) [c]]=n:=by simp[aj.size,Sg.size,Sz.val]
   have hin:=hi i (by simp);obtain⟨x,hx,hr⟩:=(iX ha).2 i (by rw[hs];exact hin);rw[aj.dF (by simp[Sg.size,Sz.val];exact hin),Sg.o9,aTj] at hr;refine⟨x,?_,hr⟩;have:as[i]? =some x:=by simpa using hx
   simp[part,Ke aSD,this]
  obtain⟨u,hu,hru⟩:=cell ha;obtain⟨v,hv,hrv⟩:=cell hb;have e3:=hq i u v hru hrv;have e4:=azQ aSD hq ha hb (is:=is) λj hj=>hi j (by simp[hj])
  rw[List.forIn_cons];simp only[Sem.run_bind,hu,hv,e3,Result.andThen_ok];cases hqi:q i
  .simp[hqi]
  .simp only[HZ,xS,fT,Sem.run_pure,Result.andThen_ok,List.all_cons,hqi,o8];exact e4
theorem aEZ:∀{d:Nat} {t:TypeId} {x y:RV} {r:Bool} {l:List Fp},aI (eqT P d t x y) g r l->∀(D:Nat),d<=D->∀(π:Pi) a b (w:World),x.rel π a->y.rel π b->(Op.equalIn D t a b).run P w=.ok r w
 |0,_,_,_,_,_,h,_,_,_,_,_,_,_,_=>by cases h
 |d+1,t,x,y,r,l,h,D,hD,π,a,b,w,hx,hy=>by
  obtain⟨D',rfl⟩:∃D',D=D'+1:=⟨D-1,by omega⟩;have ih:∀t x y r l,aI (eqT P d t x y) g r l->∀(π:Pi) a b (w:World),x.rel π a->y.rel π b->(Op.equalIn D' t a b).run P w=.ok r w:=λt x y r l h π a b w hx hy=>aEZ h D' (by omega) π a b w hx hy
  unfold eqT at h;split at h
  .rename_i p q hu
   cases h;have hx:a=_:=hx;have hy:b=_:=hy;subst hx hy;exact run_equalIn_bool w D' t p q hu
  .rename_i k0 k p k' q hu
   have hx:a=_:=hx;have hy:b=_:=hy;subst hx hy;split at h
   .rename_i hk
    subst hk;cases h;exact run_equalIn_int w D' t k k0 p q hu
   .cases h
  .rename_i p q hu
   cases h;have hx:a=_:=hx;have hy:b=_:=hy;subst hx hy;rw[run_equalIn_string w D' t p q hu,beq_toListBytes]
  .rename_i e hu
   cases h;have hx:a=_:=hx;have hy:b=_:=hy;subst hx hy;simp[Op.equalIn,run_underlying hu]
  .rename_i e p1 p2 p3 hu
   cases h;obtain⟨B,s,q',e',_,hx,_⟩:=hx;have hy:b=_:=hy;subst hx hy;simp[Op.equalIn,run_underlying hu]
  .rename_i e p1 p2 p3 hu
   cases h;obtain⟨B,s,q',e',_,hy,_⟩:=hy;have hx:a=_:=hx;subst hx hy;simp[Op.equalIn,run_underlying hu]
  .rename_i fs xs ys hu
   split at h
   .cases h
   .rename_i hst
    obtain⟨as,rfl,has⟩:=hx;obtain⟨bs,rfl,hbs⟩:=hy;have hf:P.fieldsOf t=fs:=by simp[Program.fieldsOf,hu]
    rw[run_equalIn_struct w D' t as bs (by rw[hf];exact hu) hst,hf];exact axY ih h π as bs w has hbs
  .rename_i n e xs ys hu
   obtain⟨z,⟨_,h1⟩,_,h⟩:=aI.bind' h;obtain⟨as,rfl,has⟩:=hx;obtain⟨bs,rfl,hbs⟩:=hy
   have e1:List.range' 0 [:n].size=t5 n:=by
    rw[List.range_eq_range'];simp[Std.Legacy.Range.size]
   split at h
   .rename_i r' alg
    cases h;unfold aXu at alg;split at alg
    .rename_i m c m' c'
     split at alg
     .rename_i hc
      simp only[cK,beq_iff,fm] at hc;obtain⟨hd1,rfl,rfl,rfl,hsc⟩:=hc
      obtain⟨c0,rfl⟩:∃c0,c=[c0]:=by
       unfold adJ at hsc;split at hsc
       .exact⟨_,rfl⟩
       .exact⟨_,rfl⟩
       .cases hsc
      obtain⟨c1,rfl⟩:∃c1,c'=[c1]:=by
       unfold aEj at alg;split at alg
       .exact⟨_,rfl⟩
       .exact⟨_,rfl⟩
       .cases alg
      obtain⟨q,hq1,hq2⟩:=aNl hsc alg (show D'=D'-1+1 by omega) w;have key:=azQ (P:=P) (aNm hsc) hq2 has hbs (is:=t5 m') (λi hi=>List.mem_range.1 hi);simp only[Op.equalIn,Sem.run_bind,run_underlying hu,Result.andThen_ok,run_sizeOf h1.dY,Std.Legacy.Range.forIn_eq_forIn_range'];rw[e1,key,hq1];unfold aSk;cases(t5 m').all q<;>simp
     .cases alg
    .cases alg
   .have key:=aIH ih h π as bs w has hbs;simp only[Op.equalIn,Sem.run_bind,run_underlying hu,Result.andThen_ok,run_sizeOf h1.dY,Std.Legacy.Range.forIn_eq_forIn_range'];rw[e1,key];cases r<;>simp
  .cases h
theorem aXW {t:TypeId}{x y:RV}{r:Bool}{l:List Fp}(h:aI (eqV P t x y) g r l)(π:Pi)(a b:Value)(w:World)(hx:x.rel π a)(hy:y.rel π b):
  (∀(op:BinOp) (p q:Operand),(eqGuard op t p q a b).run P w=.ok () w)/\(binOp .eql t a b).run P w=.ok (.bool r) w/\(binOp .neq t a b).run P w=.ok (.bool (!r)) w:=by
 unfold eqV at h;split at h
 .rename_i xs ys
  split at h
  .cases h
  .rename_i hg
   obtain⟨as,rfl,has⟩:=hx;obtain⟨bs,rfl,hbs⟩:=hy;have e:=aEZ (x:=.agg xs) (y:=.agg ys) h 10000 (by omega) π (.agg as) (.agg bs) w ⟨as,rfl,has⟩ ⟨bs,rfl,hbs⟩;refine⟨λop p q=>run_eqGuard_agg w op t p q as bs hg,?_,?_⟩
   .rw[run_eql_struct,e];rfl
   .rw[run_neq_struct,e];rfl
 .cases h
 .cases h
 .cases h
 .cases h
 .have e:=aEZ h 10000 (by omega) π a b w hx hy;have e':(Op.equal t a b).run P w=.ok r w:=e;unfold eqT at h;split at h
  .have hx:a=_:=hx;have hy:b=_:=hy;subst hx hy;have:=auK (by intros;simp) (by intros;simp) (by intros;simp) (by intros;simp) e';exact⟨λop p q=>aG0 op t p q _ _ w,this⟩
  .exfalso;simp_all
  .exfalso;simp_all
  .have hx:a=_:=hx;have hy:b=_:=hy;subst hx hy;have:=auK (by intros;simp) (by intros;simp) (by intros;simp) (by intros;simp) e';exact⟨λop p q=>agj op t p q _ _ w,this⟩
  .obtain⟨B,s,q',e',_,hx,_⟩:=hx;have hy:b=_:=hy;subst hx hy;have:=auK (by intros;simp) (by intros;simp) (by intros;simp) (by intros;simp) e;exact⟨λop p q=>agj op t p q _ _ w,this⟩
  .obtain⟨B,s,q',e',_,hy,_⟩:=hy;have hx:a=_:=hx;subst hx hy;have:=auK (by intros;simp) (by intros;simp) (by intros;simp) (by intros;simp) e;exact⟨λop p q=>agj op t p q _ _ w,this⟩
  .exfalso;simp_all
  .exfalso;simp_all
  .cases h
end
end Go.Ab
namespace Go.Ab
variable [aA]
section
variable {P:Program} {E:Env} {X:Cx} {D:Nat->Prop} {g:Gt}
theorem aII (hE:∀f F,E f=some F->Sound P f F){o:Oper}{aM:Nat}{us:List Up}{fp:List Fp}(h:aI (aop P E o aM) g us fp):AB P o X D aM us g:=by
 unfold aop at h;simp only[] at h;split at h
 .rename_i x qv;exact aEI (.inl qv) h
 .rename_i x qv;exact aEI (.inr qv) h
 .rename_i c x y qv;exact aQv qv h
 .rename_i e qv;exact aM4 qv h
 .rename_i e x qv;exact aTb qv h
 .rename_i t n c qv;exact aB6 qv h
 .rename_i t ps qv;exact aNc qv h
 .rename_i t n ps qv;exact axU qv h
 .rename_i t x qv;exact aQw qv h
 .rename_i t x y qv;exact aM5 qv h
 .rename_i x qv;exact aEM qv h
 .rename_i op t x y yt qv
  obtain⟨r1,⟨_,h1⟩,_,h⟩:=aI.bind' h;obtain⟨r2,⟨_,h2⟩,_,h⟩:=aI.bind' h;obtain⟨v,⟨_,h3⟩,_,h⟩:=aI.bind' h;cases h;refine il λπ a w R=> ?_;obtain⟨z,hz,hr⟩:=aTe h3 (λr l hr π a b w hx hy=>aXW hr π a b w hx hy) (h1.wi R) (h2.wi R) x y w;refine⟨z,?_,hr⟩;simp only[execOp,qv];rw[Sem.run_bind,hz];rfl
 .rename_i op t x qv;exact aQx qv h
 .rename_i s d x qv;exact aG1 qv h
 .rename_i t x qv;exact aEN qv h
 .rename_i f fs adH qv;exact aEO qv h
 .rename_i t x lo hi qv;exact aM9 qv h
 .rename_i t x i qv;exact aB4 qv h
 .rename_i t x i qv;exact aM6 qv h
 .rename_i t x i qv;exact aB5 qv h
 .rename_i t x i qv;exact aM8 qv h
 .rename_i x i qv;exact aG2 qv h
 .rename_i c qv
  obtain⟨args,⟨l0,h1⟩,_,h⟩:=aI.bind' h;split at h
  .rename_i b hc
   unfold biV at h;split at h
   .exact aTg qv hc h1 rfl h
   .rename_i s x
    obtain⟨t,⟨_,h2⟩,_,h⟩:=aI.bind' h;obtain⟨_,⟨_,h3⟩,_,h⟩:=aI.bind' h;obtain⟨s',⟨_,h4⟩,_,h⟩:=aI.bind' h;obtain⟨x',⟨_,h5⟩,_,h⟩:=aI.bind' h;have h2:=h2.dY;have h3:=h3.cL
    have hts:c.argTypes=#[t,t]:=by
     split at h3
     .rename_i t1 t2 he
      have e:=lB h3;subst e;have e2:=a28 he;rw[e2] at h2;simp at h2
      rw[e2,h2]
     .cases h3
    exact aKI qv hc h1 rfl hts h4.asC h5.asC h
   .rename_i d x
    obtain⟨t,⟨_,h2⟩,_,h⟩:=aI.bind' h;obtain⟨d',⟨_,h4⟩,_,h⟩:=aI.bind' h;obtain⟨x',⟨_,h5⟩,_,h⟩:=aI.bind' h;exact aQA qv hc h1 rfl h2.dY h4.asC h5.asC h
   .exact aNe (λx y v l h=>aTh h) qv hc (aZC c.argTypes) h1 rfl h
   .exact aNe (λx y v l h=>aTi h) qv hc (aZD c.argTypes) h1 rfl h
   .cases h
  .rename_i fo hc
   obtain⟨fv,⟨_,h2⟩,_,h⟩:=aI.bind' h;obtain⟨fc,⟨_,h3⟩,_,h⟩:=aI.bind' h
   have aXU:∀(π:Pi) (x:Value),fv.rel π x->∃arr:Array Value,x=.func (.func fc.1) #[] arr/\bu (RV.rel π) fc.2 arr.toList:=by
    unfold a0Q at h3;split at h3
    .cases h3;exact λπ x hx=>hx
    .cases h3;rintro π x ⟨B,s,q,e,hb,hx,hle⟩
     exact⟨_,hx,⟨⟨B,s,q,e,hb,rfl,hle⟩,trivial⟩⟩
    .cases h3
   exact aQC hE qv hc h1 h2 aXU h
  .cases h
 .cases h
end
end Go.Ab
namespace Go.Ab
variable [aA]
inductive abQ (P:Program) (E:Env) (ops:List Oper) (o:Oper) (aM:Nat) (g:Gt):List Up->List Fp->Prop
 |run {us fp} (hg:o.guard=none) (h:aI (aop P E o aM) g us fp):abQ P E ops o aM g us fp
 |aSE {us fp} (j:Nat) (want:Bool) (t:Tmp) (hg:o.guard=some (j,want)) (ht:Ox ops j=some t) (hx:g.t t=.r (.c (.f (.b want)))) (h:aI (aop P E o aM) g us fp):abQ P E ops o aM g us (.t t::fp)
 |skip (j:Nat) (want:Bool) (t:Tmp) (hg:o.guard=some (j,want)) (ht:Ox ops j=some t) (hx:g.t t=.r (.c (.f (.b (!want))))∨g.t t=.tup []):abQ P E ops o aM g (dL o.dst udf) [.t t]
omit [aA] in
theorem abQ.local {P:Program}{E:Env}{ops:List Oper}{o:Oper}{aM:Nat}{g g':Gt}{us:List Up}{fp:List Fp}(h:abQ P E ops o aM g us fp)(e:∀f∈fp,∀p,f.has p->g.at p=g'.at p):abQ P E ops o aM g' us fp:=by
 cases h with
 |run hg h=>exact .run hg (h.local e)
 |aSE j want t hg ht hx h=>
  have e1:g.t t=g'.t t:=by simpa[Gt.at] using e (.t t) (by simp) (.t t) rfl
  exact .aSE j want t hg ht (e1▸hx) (h.local λf hf=>e f (by simp[hf]))
 |skip j want t hg ht hx=>
  have e1:g.t t=g'.t t:=by simpa[Gt.at] using e (.t t) (by simp) (.t t) rfl
  exact .skip j want t hg ht (e1▸hx)
inductive EO (P:Program) (E:Env) (ops:List Oper) (k:Nat):List Oper->St->List Tr->St->Prop
 |nil (s:St):EO P E ops k [] s [] s
 |cons {o rest s s1 s2 us fp tr dG} (hd:∀d,o.dst=some d->d<s.tmps.length) (h:abQ P E ops o s.heap.length s.gt us fp) (hus:tr.us=us) (hfp:∀f∈fp,f∈tr.fp) (ha:jJ k us s=some s1) (ht:EO P E ops k rest s1 dG s2):EO P E ops k (o::rest) s (tr::dG) s2
omit [aA] in
theorem aoY {s:St}{t:Nat}{v:AV}(h:s.tmp t=v):{s with tmps:=s.tmps.set t v}=s:=by
 have:s.tmps.set t v=s.tmps:=by
  apply List.ext_getElem?
  intro i;rw[aEf];by_cases e:t=i
  .subst e;by_cases hl:t<s.tmps.length
   .rw[if_pos rfl,if_pos hl];rw[kt hl];unfold St.tmp at h;rw[A9] at h;simp only[List.getD,kt hl,LH] at h;rw[h]
   .rw[if_pos rfl,if_neg hl,J' (by omega)]
  .rw[if_neg e]
 rw[this]
omit [aA] in
theorem ali {k:Nat}:∀{us:List Up} {s s':St},jJ k us s=some s'->s'.tmps.length=s.tmps.length
 | [],s,s',h=>by simp[jJ] at h;subst h;rfl
 |u::us,s,s',h=>by
  simp only[jJ] at h;split at h
  .rw[ali h];cases u with
   |t i v=>simp[Up.app]
   |c b o v=>simp only[Up.app];split<;>first|rfl|(split<;>rfl)
   |_=>rfl
  .cases h
omit [aA] in
theorem LY {P:Program}{E:Env}{nt k:Nat}{ops:List Oper}{ρ:Type}:∀{rest:List Oper} {s:St} {l:List Tr} {c:St->List Tr->Option ρ} {r:ρ},nt<=s.tmps.length->LO P E nt k ops rest s l c=some r->
  ∃s' dG,EO P E ops k rest s dG s'/\c s' (l++dG)=some r
 | [],s,l,c,r,_,h=>⟨s,[],.nil s,by simpa[LO] using h⟩
 |o::rest,s,l,c,r,ZD,h=>by
  have go:∀(l0:List Fp) (hd:∀d,o.dst=some d->d<s.tmps.length),(∀us fp,aI (aop P E o s.heap.length) s.gt us fp->∃fp',abQ P E ops o s.heap.length s.gt us fp'/\∀f∈fp',f∈fp.reverse++l0)->
    ((aop P E o s.heap.length).run s l0 λus fp=>match jJ k us s with
     |some s'=>LO P E nt k ops rest s' (l++[⟨fp,us⟩]) c
     |none=>none)=some r->∃s' dG,EO P E ops k (o::rest) s dG s'/\c s' (l++dG)=some r:=by
   intro l0 hd qv nP;obtain⟨us,fp,h1,h2⟩:=Rd.aQt nP;cases ha:jJ k us s with
   |none=>rw[ha] at h2;cases h2
   |some s1=>
    rw[ha] at h2;obtain⟨s2,dG,t1,t2⟩:=LY (by rw[ali ha];exact ZD) h2;obtain⟨fp',o1,o2⟩:=qv us fp h1;exact⟨s2,⟨fp.reverse++l0,us⟩::dG,.cons hd o1 rfl o2 ha t1,by simpa using t2⟩
  have skip:∀(j:Nat) (want:Bool) (t:Tmp) (hd:∀d,o.dst=some d->d<s.tmps.length),o.guard=some (j,want)->Ox ops j=some t->(s.gt.t t=.r (.c (.f (.b (!want))))∨s.gt.t t=.tup [])->
    (match jJ k (dL o.dst udf) s with
     |some s'=>LO P E nt k ops rest s' (l++[⟨[.t t],dL o.dst udf⟩]) c
     |none=>none)=some r->∃s' dG,EO P E ops k (o::rest) s dG s'/\c s' (l++dG)=some r:=by
   intro j want t hd hg ht hx nP;cases ha:jJ k (dL o.dst udf) s with
   |none=>rw[ha] at nP;cases nP
   |some s1=>
    rw[ha] at nP;obtain⟨s2,dG,t1,t2⟩:=LY (by rw[ali ha];exact ZD) nP;exact⟨s2,⟨[.t t],dL o.dst udf⟩::dG,.cons hd (.skip j want t hg ht hx) rfl (by simp) ha t1,by simpa using t2⟩
  simp only[LO,aMZ,aEF,Ws] at h;split at h
  .cases h
  .rename_i hdk
   have hd:∀d,o.dst=some d->d<s.tmps.length:=λd hd=>by
    unfold aXA at hdk;rw[hd] at hdk;have h2:v9 d nt=true:=hdk;exact aEe (um.1 h2) ZD
   split at h
   .rename_i hg
    exact go [] hd (λus fp h=>⟨fp,.run hg h,by simp⟩) h
   .rename_i j want hg
    split at h
    .cases h
    .rename_i t ht
     split at h
     .rename_i x hx
      have goG:s.tmp t=.r (.c (.f (.b want)))->_:=λhx=>go [.t t] hd (λus fp h=>⟨.t t::fp,.aSE j want t hg ht hx h,by simp;intro a ha;exact .inl ha⟩)
      cases x with
      |true=>
       simp only[ald] at h;split at h
       .cases want with
        |true=>
         simp only at h;rw[aoY hx] at h;exact goG hx h
        |false=>
         simp only at h;rw[aoY hx] at h;exact skip j false t hd hg ht (.inl hx) h
       .cases h
      |false=>
       simp only[ald] at h;split at h
       .cases want with
        |true=>
         simp only at h;rw[aoY hx] at h;exact skip j true t hd hg ht (.inl hx) h
        |false=>
         simp only at h;rw[aoY hx] at h;exact goG hx h
       .cases h
     .rename_i hx
      exact skip j want t hd hg ht (.inr hx) h
     .cases h
omit [aA] in
theorem Bc {k b:Nat}{d:List Nat}{x:Nat}:x∈mark k b d↔x∈d∨(x=b/\b<k):=by
 unfold mark;split
 .rename_i h
  simp only[cK,Nat.blt_eq] at h;simp only[abJ];constructor
  .rintro (rfl|h1)
   .exact .inr ⟨rfl,h.1⟩
   .exact .inl h1
  .rintro (h1| ⟨rfl,_⟩)
   .exact .inr h1
   .exact .inl rfl
 .rename_i h
  constructor
  .exact .inl
  .rintro (h1| ⟨rfl,hk⟩)
   .exact h1
   .have Lv:v9 x k=true:=by simpa using hk
    have:d.any (z9 x)=true:=by
     by_cases ha:d.any (z9 x)=true
     .exact ha
     .rw[Lv] at h;simp_all
    obtain⟨y,hy,he⟩:=abI.1 this;rw[lB he];exact hy
structure aKL (k:Nat)(us:List Up)(s s':St):Prop where
 heap:s'.heap.length=s.heap.length+cH us
 tmps:s'.tmps.length=s.tmps.length
 sub:∀b,b∈s.dh->b∈s'.dh
 perm:∀u∈us,u.perm k (·∈s'.dh)
 my:∀b,b<k->b<s.heap.length->b∉s'.dh->s'.bY b=s.bY b
omit [aA] in
theorem Up.aZG {k:Nat}{u:Up}{s:St}(h:u.ok s=true):aKL k [u] s (u.app k s):=by
 cases u with
 |t i v=>exact⟨rfl,by simp[Up.app],λ_ h=>h,λu hu=>by simp at hu;subst hu;trivial,λ_ _ _ _=>rfl⟩
 |c b lo vs=>
  simp only[Up.ok] at h;split at h
  .rename_i bY hb
   split at h
   case h_2=>cases h
   rename_i p hp
   have e:(Up.c b lo vs).app k s={s with heap:=s.heap.set b (some p.2),dh:=mark k b s.dh}:=by simp[Up.app,hb,hp]
   rw[e];refine⟨by simp[cH],rfl,λx hx=>Bc.2 (.inl hx),λu hu=> ?_,λb' fh hl hn=> ?_⟩
   .simp at hu;subst hu;exact λhk=>Bc.2 (.inr ⟨rfl,hk⟩)
   .have mz:b'≠b:=λe=>hn (Bc.2 (.inr ⟨e,e▸fh⟩))
    show((s.heap.set b _)[b']?).getD none=_;rw[auI (St.aKE hb),if_neg mz];rfl
  .cases h
 |new b bY=>
  have hb:b=s.heap.length:=lB h;refine⟨by simp[Up.app,cH],rfl,λ_ h=>h,λu hu=>by simp at hu;subst hu;trivial,λb' _ hl _=> ?_⟩;show((s.heap++[some bY])[b']?).getD none=_;rw[aMV,if_neg (by omega)];rfl
 |kill b=>
  have hb:b<s.heap.length:=by have h:=h;simp[Up.ok,v9] at h;omega
  refine⟨by simp[Up.app,cH],rfl,λx hx=>Bc.2 (.inl hx),λu hu=> ?_,λb' fh hl hn=> ?_⟩
  .simp at hu;subst hu;exact λhk=>Bc.2 (.inr ⟨rfl,hk⟩)
  .have mz:b'≠b:=λe=>hn (Bc.2 (.inr ⟨e,e▸fh⟩))
   show((s.heap.set b none)[b']?).getD none=_;rw[auI hb,if_neg mz];rfl
omit [aA] in
theorem Up.aQE {k:Nat}{D D':Nat->Prop}(h:∀b,D b->D' b){u:Up}(p:u.perm k D):u.perm k D':=by
 cases u<;>first|trivial|exact λhk=>h _ (p hk)
omit [aA] in
theorem Kf {k:Nat}:∀{us:List Up} {s s':St},jJ k us s=some s'->aKL k us s s'
 | [],s,s',h=>by
  simp[jJ] at h;subst h
  exact⟨rfl,rfl,λ_ h=>h,λu hu=>by simp at hu,λ_ _ _ _=>rfl⟩
 |u::us,s,s',h=>by
  simp only[jJ] at h;split at h
  .rename_i hu
   have A:=Up.aZG (k:=k) hu;have B:=Kf h;refine⟨?_,B.tmps.trans A.tmps,λb hb=>B.sub _ (A.sub b hb),λv hv=> ?_,λb hb hl hn=> ?_⟩
   .rw[B.heap,A.heap,show cH (u::us)=cH [u]+cH us from FG [u] us];omega
   .rcases abJ.1 hv with rfl|hv
    .exact Up.aQE B.sub (A.perm v (by simp))
    .exact B.perm v hv
   .have h1:=A.heap;rw[B.my b hb (by omega) hn,A.my b hb hl (λhx=>hn (B.sub b hx))]
  .cases h
end Go.Ab
namespace Go.Ab
variable [aA]
section
variable {P:Program} {E:Env} {X:Cx} {D:Nat->Prop}
theorem aE0 {ops:Array Oper}{o:Oper}{j:Nat}{want:Bool}{t:Tmp}{g:Gt}{π:Pi}{a:Act}{w:World}(R:Rel X D π g a w)(hg:o.guard=some (j,want))(ht:Ox ops.toList j=some t):
  (g.t t=.r (.c (.f (.b want)))->Region.wanted o (yielded ops a.tmps)=true)/\((g.t t=.r (.c (.f (.b (!want))))∨g.t t=.tup [])->Region.wanted o (yielded ops a.tmps)=false):=by
 have hs:(ops[j]?).bind (·.dst)=some t:=by
  unfold Ox at ht;rw[<-Wh];exact ht
 have hr:=R.tm t
 have hy:∀b:Bool,a.tmps.getD t undef=.bool b->yielded ops a.tmps j=some b:=λb hb=>by
  unfold yielded;rw[hs];simp only[bG];rw[ap7] at hb;cases hx:a.tmps[t]? with
  |none=>rw[hx] at hb;simp[undef] at hb
  |some x=>rw[hx] at hb;simp at hb;subst hb;rfl
 refine⟨λh=> ?_,λh=> ?_⟩
 .rw[h] at hr;have:=hy want hr;simp[Region.wanted,hg,this]
 .rcases h with h|h
  .rw[h] at hr;have:=hy (!want) hr;simp only[Region.wanted,hg,this];cases want<;>rfl
  .rw[h] at hr;obtain⟨arr,hx,aNn⟩:=hr
   have:yielded ops a.tmps j=none:=by
    unfold yielded;rw[hs];simp only[bG];rw[ap7] at hx;cases hy:a.tmps[t]? with
    |none=>rfl
    |some x=>rw[hy] at hx;simp at hx;subst hx;rfl
   simp only[Region.wanted,hg,this];rfl
theorem azR (hE:∀f F,E f=some F->Sound P f F){ops:Array Oper}{i:Nat}{o:Oper}(hi:ops[i]? =some o){aM:Nat}{us:List Up}{fp:List Fp}{g:Gt}(h:abQ P E ops.toList o aM g us fp)
  {π:Pi}{a:Act}{w:World}(R:Rel X D π g a w)(hk:X.k<=aM)(hfr:∀b,aM<=b->b<aM+cH us->π b=none)(hd:∀d,o.dst=some d->d<X.N)(hp:∀u∈us,u.perm X.k D){K:Act->World->Prop}{Q:Exit->Act->World->Prop}
  (hn:∀a' w' π',Ext π π'->(∀b,π' b≠none->π b≠none∨(aM<=b/\b<aM+cH us))->Rel X D π' (cI us g) a' w'->K a' w'):wpOp P ops Q i K a w:=by
 unfold wpOp;rw[hi];simp only[];cases h with
 |run hg h=>
  have:Region.wanted o (yielded ops a.tmps)=true:=by simp[Region.wanted,hg]
  rw[if_pos this];exact .inl (aII hE h π a w K Q R hk hfr hd hp hn)
 |aSE j want t hg ht hx h=>
  rw[if_pos ((aE0 R hg ht).1 hx)];exact .inl (aII hE h π a w K Q R hk hfr hd hp hn)
 |skip j want t hg ht hx=>
  rw[if_neg (by rw[(aE0 R hg ht).2 hx];simp)];exact hn _ _ π (Ext.refl _) (λb h=>.inl h) (R.dst hd (asX π))
structure gZ (X:Cx)(h0:List aj)(π:Pi)(s:St)(a:Act)(w:World):Prop where
 rel:Rel X (·∈s.dh) π s.gt a w
 len:s.tmps.length=X.N
 dom:∀b,π b≠none->b<s.heap.length
 drt:∀b,b<X.k->b∉s.dh->s.bY b=h0[b]?
 hk:X.k<=s.heap.length
 dlt:∀b,b∈s.dh->b<X.k
theorem aKL.aXX {X:Cx}{h0:List aj}{π π':Pi}{s s':St}{us:List Up}{a a':Act}{w w':World}(A:aKL X.k us s s')(R:gZ X h0 π s a w)(hg:s'.gt=cI us s.gt)(hR:Rel X (·∈s'.dh) π' (cI us s.gt) a' w')
  (jZ:∀b,π' b≠none->π b≠none∨(s.heap.length<=b/\b<s.heap.length+cH us))(hdl:∀b,b∈s'.dh->b<X.k):gZ X h0 π' s' a' w':=by
 refine⟨hg▸hR,A.tmps.trans R.len,λb hb=> ?_,λb hb hn=> ?_,?_,hdl⟩
 .rw[A.heap];rcases jZ b hb with h|h
  .have:=R.dom b h;omega
  .omega
 .rw[A.my b hb (aEe hb R.hk) hn];exact R.drt b hb (λh=>hn (A.sub b h))
 .rw[A.heap];have:=R.hk;omega
omit [aA] in
theorem alj {k:Nat}:∀{us:List Up} {s s':St},jJ k us s=some s'->(∀b,b∈s.dh->b<k)->∀b,b∈s'.dh->b<k
 | [],s,s',h,hd,b,hb=>by simp[jJ] at h;subst h;exact hd b hb
 |u::us,s,s',h,hd,b,hb=>by
  simp only[jJ] at h;split at h
  .refine alj h (λb hb=> ?_) b hb;cases u with
   |t i v=>exact hd b hb
   |c b' lo vs=>
    simp only[Up.app] at hb;split at hb
    .split at hb
     .rcases Bc.1 hb with h| ⟨rfl,h⟩
      .exact hd b h
      .exact h
     .exact hd b hb
    .exact hd b hb
   |new b' bY=>exact hd b hb
   |kill b'=>
    rcases Bc.1 hb with h| ⟨rfl,h⟩
    .exact hd b h
    .exact h
  .cases h
theorem azS (hE:∀f F,E f=some F->Sound P f F){h0:List aj}{ops:Array Oper}{Q:Exit->Act->World->Prop}{s':St}(hQ:∀a' w' π',gZ X h0 π' s' a' w'->Q .normal a' w'):
  ∀{rest:List Oper} {i:Nat} {s:St} {dG:List Tr} {π:Pi} {a:Act} {w:World},EO P E ops.toList X.k rest s dG s'->(∀j,rest[j]? =ops[i+j]?)->gZ X h0 π s a w->wpOps P ops Q (List.range' i rest.length) a w
 | [],i,s,dG,π,a,w,h,_,R=>by
  cases h;exact hQ a w π R
 |o::rest,i,s,dG,π,a,w,h,hr,R=>by
  cases h with|@cons _ _ _ s1 _ us fp tr dG hd h hus hfp ha ht=>
  have A:=Kf ha;have hg:=OB ha;have hio:ops[i]? =some o:=by simpa using(hr 0).symm
  rw[LJ,List.range'_succ,wpOps_cons];refine azR hE hio h (R.rel.aKG λb hb=>A.sub b hb) R.hk (λb h1 _=> ?_) (λd h=>by rw[<-R.len];exact hd d h) A.perm (λa' w' π' hx jZ hR=> ?_)
  .cases hb:π b with
   |none=>rfl
   |some p=>have:=R.dom b (by simp[hb]);omega
  .exact azS hE hQ ht (λj=>by have:=hr (j+1);rw[show i+1+j=i+(j+1) by omega,<-this];simp) (A.aXX R hg hR jZ (alj ha R.dlt))
end
end Go.Ab
namespace Go.Ab
variable [aA]
def tch (us:List Up)(p:Pt):Prop:=∃u∈us,u.H4 p
def gl:List Tr->(Nat->Bool)->Nat->Gt->Gt
 | [],_,_,g=>g
 |tr::dG,L,i,g=>gl dG L (i+1) (if L i=true then cI tr.us g else g)
omit [aA] in
theorem aKM {p:Pt}:∀{dG:List Tr} {L L':Nat->Bool} {i:Nat} {g g':Gt},(∀(j:Nat) tr,dG[j]? =some tr->L (i+j)≠L' (i+j)->¬tch tr.us p)->g.at p=g'.at p->(gl dG L i g).at p=(gl dG L' i g').at p
 | [],_,_,_,_,_,_,h=>h
 |tr::dG,L,L',i,g,g',hd,h=>by
  simp only[gl];refine aKM (λj OD hj mz=>hd (j+1) OD (by simpa using hj) (by rw[show i+(j+1)=i+1+j by omega];exact mz)) ?_;have h0:=hd 0 tr rfl;rw[jH] at h0;by_cases h1:L i=true<;>by_cases h2:L' i=true
  .rw[if_pos h1,if_pos h2];exact agf (.inr h)
  .rw[if_pos h1,if_neg h2];have:=h0 (by rw[h1];exact λe=>h2 e.symm);rw[qV λu hu ht=>this ⟨u,hu,ht⟩];exact h
  .rw[if_neg h1,if_pos h2];have:=h0 (by rw[h2];exact h1);rw[qV λu hu ht=>this ⟨u,hu,ht⟩];exact h
  .rw[if_neg h1,if_neg h2];exact h
omit [aA] in
theorem aE1:∀(a b:List Tr) (L:Nat->Bool) (i:Nat) (g:Gt),gl (a++b) L i g=gl b L (i+a.length) (gl a L i g)
 | [],b,L,i,g=>by simp[gl]
 |x::a,b,L,i,g=>by
  simp only[List.cons_append,gl,LJ];rw[aE1 a b,show i+1+a.length=i+(a.length+1) by omega]
omit [aA] in
theorem aoZ:∀{dG:List Tr} {L L':Nat->Bool} {i:Nat} {g:Gt},(∀j,j<dG.length->L (i+j)=L' (i+j))->gl dG L i g=gl dG L' i g
 | [],_,_,_,_,_=>rfl
 |tr::dG,L,L',i,g,h=>by
  simp only[gl];have:=h 0 (by simp);rw[jH] at this;rw[this];exact aoZ λj hj=>by have:=h (j+1) (by simp;omega);rwa [show i+(j+1)=i+1+j by omega] at this
omit [aA] in
theorem auN:∀{dG:List Tr} {L:Nat->Bool} {i:Nat} {g:Gt},(∀j,j<dG.length->L (i+j)=false)->gl dG L i g=g
 | [],_,_,_,_=>rfl
 |tr::dG,L,i,g,h=>by
  simp only[gl];have:=h 0 (by simp);rw[jH] at this;rw[this];exact auN λj hj=>by have:=h (j+1) (by simp;omega);rwa [show i+(j+1)=i+1+j by omega] at this
omit [aA] in
theorem aXY {dG:List Tr}{L L':Nat->Bool}{i:Nat}{tr:Tr}{g:Gt}(hi:dG[i]? =some tr)(h0:L i=false)(h1:L' i=true)(hL:∀j,j≠i->L' j=L j)
  (hap:∀(j:Nat) OD,i<j->dG[j]? =some OD->L j=true->∀p,tch tr.us p->¬tch OD.us p):gl dG L' 0 g=cI tr.us (gl dG L 0 g):=by
 have nC:=(lA.1 hi).1
 have aZH:dG=dG.take i++(tr::dG.drop (i+1)):=by
  have e:dG[i]=tr:=(lA.1 hi).2;rw[<-e,List.getElem_cons_drop,List.take_append_drop]
 have hlen:(dG.take i).length=i:=by simp;omega
 have key:∀M:Nat->Bool,gl dG M 0 g=gl (dG.drop (i+1)) M (i+1) (if M i=true then cI tr.us (gl (dG.take i) M 0 g) else gl (dG.take i) M 0 g):=λM=>by
  conv=>lhs;rw[aZH]
  rw[aE1,hlen,gD];rfl
 rw[key L',key L,if_pos h1,if_neg (by rw[h0];simp)];have e1:gl (dG.take i) L' 0 g=gl (dG.take i) L 0 g:=aoZ λj hj=>by rw[hlen] at hj;exact hL _ (by omega)
 rw[e1];have e2:∀h,gl (dG.drop (i+1)) L' (i+1) h=gl (dG.drop (i+1)) L (i+1) h:=λh=>aoZ λj _=>hL _ (by omega)
 rw[e2];apply Gt.aSv
 intro p
 have a1T:∀(j:Nat) OD,(dG.drop (i+1))[j]? =some OD->L (i+1+j)=true->∀p,tch tr.us p->¬tch OD.us p:=λj OD hj hl p hp=>by
  rw[SM] at hj;exact hap (i+1+j) OD (by omega) hj hl p hp
 by_cases hp:tch tr.us p
 .have a1:=aKM (p:=p) (dG:=dG.drop (i+1)) (L:=L) (L':=λ_=>false) (i:=i+1) (g:=cI tr.us (gl (dG.take i) L 0 g)) (g':=cI tr.us (gl (dG.take i) L 0 g)) (λj OD hj mz=>a1T j OD hj (by simpa using mz) p hp) rfl;rw[auN (L:=λ_=>false) (λ_ _=>rfl)] at a1;rw[a1];exact agf (.inl hp)
 .have ZD:∀u∈tr.us,¬u.H4 p:=λu hu ht=>hp ⟨u,hu,ht⟩
  rw[qV ZD];exact aKM (λj OD _ mz=>absurd rfl mz) (qV ZD)
omit [aA] in
theorem aE2 (acc:List Nat)(i:Nat):∀(l:List Edge) (m:Nat),Nat.testBit (l.foldl (aQn acc) m) i=true->
  Nat.testBit m i=true∨∃e∈l,Region.binds .any e=true/\(e.on=i∨Nat.testBit (acc.getD e.on 0) i=true)
 | [],m,h=>.inl h
 |e::l,m,h=>by
  rw[List.foldl_cons] at h;rcases aE2 acc i l _ h with h1| ⟨e',he',h1⟩
  .unfold aQn at h1;cases hb:Region.binds .any e with
   |false=>rw[hb] at h1;exact .inl h1
   |true=>
    rw[hb] at h1;simp only[Nat.testBit_or,afZ,Nat.testBit_two_pow,jG] at h1;rcases h1 with(h1|h1)|h1
    .exact .inl h1
    .exact .inr ⟨e,by simp,hb,.inl h1⟩
    .exact .inr ⟨e,by simp,hb,.inr h1⟩
  .exact .inr ⟨e',by simp[he'],h1⟩
omit [aA] in
theorem aE3:∀(l:List Oper) (acc:List Nat),∃t,LN l acc=acc++t
 | [],acc=>⟨[],by simp[LN]⟩
 |o::l,acc=>by
  obtain⟨t,ht⟩:=aE3 l (acc++[mask acc o]);exact⟨_,by rw[LN,ht,axH]⟩
omit [aA] in
theorem aE4 {i:Nat}:∀(l:List Oper) (acc:List Nat) (j:Nat) (o:Oper),l[j]? =some o->(∀e∈o.after.toList,Region.binds .any e=true->e.on<acc.length+j)->Nat.testBit ((LN l acc).getD (acc.length+j) 0) i=true->
  ∃e∈o.after.toList,Region.binds .any e=true/\(e.on=i∨(e.on<acc.length+j/\Nat.testBit ((LN l acc).getD e.on 0) i=true))
 | [],_,j,o,h,_,_=>by simp at h
 |o0::l,acc,0,o,h,he,hb=>by
  simp at h;subst h
  obtain⟨t,ht⟩:=aE3 l (acc++[mask acc o0]);have hm:LN (o0::l) acc=acc++[mask acc o0]++t:=by rw[LN,ht]
  rw[hm] at hb ⊢;simp only[jH,axH,List.getD,adG (cR _),Nat.sub_self] at hb;simp only[List.singleton_append,aEa,LH] at hb;rcases aE2 acc i _ 0 hb with h0| ⟨e,he',hbd,h1⟩
  .simp at h0
  .have nC:=he e he' hbd;rw[jH] at nC;refine⟨e,he',hbd,h1.imp id λh2=>⟨by omega,?_⟩⟩;rw[axH];simp only[List.getD] at h2 ⊢;rw[Uw nC];exact h2
 |o0::l,acc,j+1,o,h,he,hb=>by
  have e1:acc.length+(j+1)=(acc++[mask acc o0]).length+j:=by simp;omega
  rw[LN] at hb ⊢;rw[e1] at hb he ⊢;exact aE4 l _ j o (by simpa using h) he hb
omit [aA] in
theorem abR:∀{l:List Oper} {i0:Nat},Rc l i0=true->∀(j:Nat) o,l[j]? =some o->∀e∈o.after.toList,Region.binds .any e=true->e.on<i0+j
 | [],_,_,j,o,h,_,_,_=>by simp at h
 |o0::l,i0,hk,0,o,h,e,he,hb=>by
  simp at h;subst h
  simp only[Rc,cK] at hk;have:=asK.1 hk.1 e he;rw[hb] at this;simp only[HZ,Bool.false_or,Nat.blt_eq] at this;omega
 |o0::l,i0,hk,j+1,o,h,e,he,hb=>by
  simp only[Rc,cK] at hk;have:=abR hk.2 j o (by simpa using h) e he hb;omega
omit [aA] in
theorem abS {ms:List Nat}:∀{l:List Tr} {j0:Nat},Rb ms l j0=true->∀(i j:Nat) x y,i<j->l[i]? =some x->l[j]? =some y->Nat.testBit (ms.getD (j0+j) 0) (j0+i)=true∨x.af6 y=false
 | [],_,_,i,j,x,y,_,h,_=>by simp at h
 |x0::l,j0,hk,0,j,x,y,hij,hx,hy=>by
  simp at hx;subst hx
  simp only[Rb,cK] at hk;obtain⟨j',rfl⟩:∃j',j=j'+1:=⟨j-1,by omega⟩;have hy':l[j']? =some y:=by simpa using hy
  have hm:(y,j')∈l.zipIdx:=by
   rw[axE];exact⟨j',by simp[aEc,hy']⟩
  have:=asK.1 hk.1 (y,j') hm;simp only[afZ,o7] at this;rw[show j0+(j'+1)=j0+1+j' by omega];exact this
 |x0::l,j0,hk,i+1,j,x,y,hij,hx,hy=>by
  simp only[Rb,cK] at hk;obtain⟨j',rfl⟩:∃j',j=j'+1:=⟨j-1,by omega⟩;have:=abS hk.2 i j' x y (by omega) (by simpa using hx) (by simpa using hy);rw[show j0+(j'+1)=j0+1+j' by omega,show j0+(i+1)=j0+1+i by omega];exact this
omit [aA] in
theorem aTk {x y:Tr}{p:Pt}{f:Fp}(hf:f∈y.fp)(hp:f.has p)(ht:tch x.us p):x.af6 y=true/\y.af6 x=true:=by
 obtain⟨u,hu,ht⟩:=ht;have h:=Fp.aEy hp ht;constructor
 .unfold Tr.af6;rw[afZ];left;refine abI.2 ⟨u,hu,?_⟩;rw[afZ];left;exact abI.2 ⟨f,hf,h⟩
 .unfold Tr.af6;rw[afZ];right;refine abI.2 ⟨u,hu,?_⟩;exact abI.2 ⟨f,hf,h⟩
omit [aA] in
theorem aTl {x y:Tr}{p:Pt}(h1:tch x.us p)(h2:tch y.us p):x.af6 y=true:=by
 obtain⟨u,hu,ht⟩:=h1;obtain⟨v,hv,hs⟩:=h2;unfold Tr.af6;rw[afZ];left;refine abI.2 ⟨u,hu,?_⟩;rw[afZ];right;exact abI.2 ⟨v,hv,Up.aEy hs ht⟩
def AD (dG:List Tr):List Up:=dG.flatMap Tr.us
omit [aA] in
theorem aQF:∀(dG:List Tr) (i j0:Nat) (g:Gt),gl dG (λj=>decide (j<j0+i)) j0 g=cI (AD (dG.take i)) g
 | [],i,j0,g=>by simp[gl,AD,cI]
 |tr::dG,0,j0,g=>by
  rw[auN (λj _=>by simp)];simp[AD,cI]
 |tr::dG,i+1,j0,g=>by
  simp only[gl];rw[if_pos (by simp)];have:=aQF dG i (j0+1) (cI tr.us g);rw[show j0+1+i=j0+(i+1) by omega] at this;rw[this];simp[AD,cI]
omit [aA] in
theorem aZI {dG:List Tr}{L:Nat->Bool}{g:Gt}(h:∀i,i<dG.length->L i=true):gl dG L 0 g=cI (AD dG) g:=by
 have:=aQF dG dG.length 0 g;rw[List.take_length] at this;rw[<-this];exact aoZ λj hj=>by simp[h j hj];omega
omit [aA] in
theorem alk {k:Nat}:∀{us vs:List Up} {s s1 s2:St},jJ k us s=some s1->jJ k vs s1=some s2->jJ k (us++vs) s=some s2
 | [],vs,s,s1,s2,h,h'=>by simp[jJ] at h;subst h;exact h'
 |u::us,vs,s,s1,s2,h,h'=>by
  simp only[jJ,List.cons_append] at h ⊢;split at h
  .rename_i hu;exact alk h h'
  .cases h
omit [aA] in
theorem EO.app {P:Program}{E:Env}{ops:List Oper}{k:Nat}:∀{rest:List Oper} {s s':St} {dG:List Tr},EO P E ops k rest s dG s'->jJ k (AD dG) s=some s'/\dG.length=rest.length
 | [],s,s',dG,h=>by cases h;exact⟨rfl,rfl⟩
 |o::rest,s,s',dG,h=>by
  cases h with|@cons _ _ _ s1 _ us fp tr dG hd h hus hfp ha ht=>
  obtain⟨h1,h2⟩:=ht.app;refine⟨?_,by simp[h2]⟩;subst hus;show jJ k (tr.us++AD dG) s=some s';exact alk ha h1
omit [aA] in
theorem EO.at {P:Program}{E:Env}{ops:List Oper}{k:Nat}:∀{rest:List Oper} {s s':St} {dG:List Tr},EO P E ops k rest s dG s'->∀(i:Nat) o,rest[i]? =some o->∃tr fp,dG[i]? =some tr/\(∀f∈fp,f∈tr.fp)/\
   abQ P E ops o (s.heap.length+cH (AD (dG.take i))) (cI (AD (dG.take i)) s.gt) tr.us fp/\(∀d,o.dst=some d->d<s.tmps.length)
 | [],_,_,_,_,i,o,h=>by simp at h
 |o0::rest,s,s',dG,h,i,o,ho=>by
  cases h with|@cons _ _ _ s1 _ us fp tr dG hd h hus hfp ha ht=>
  subst hus;cases i with
  |zero=>
   simp at ho;subst ho
   exact⟨tr,fp,rfl,hfp,by simpa[AD,cH,cI] using h,hd⟩
  |succ i=>
   obtain⟨OD,fp',e1,e2,e3,e4⟩:=ht.at i o (by simpa using ho);have A:=Kf ha;refine⟨OD,fp',by simpa using e1,e2,?_,λd h=>by rw[<-A.tmps];exact e4 d h⟩
   have hc:cH (AD (List.take (i+1) (tr::dG)))=cH tr.us+cH (AD (dG.take i)):=by
    simp only[List.take_succ_cons,AD,List.flatMap_cons,FG]
   have hg:cI (AD (List.take (i+1) (tr::dG))) s.gt=cI (AD (dG.take i)) s1.gt:=by
    simp only[List.take_succ_cons,AD,List.flatMap_cons,Qm];rw[OB ha]
   rw[hc,hg,<-A6,<-A.heap];exact e3
end Go.Ab
namespace Go.Ab
variable [aA]
section
variable {P:Program} {E:Env} {X:Cx}
omit [aA] in
theorem axZ (dG:List Tr){i j:Nat}(h:i<=j):cH (AD (dG.take i))<=cH (AD (dG.take j)):=by
 obtain⟨d,rfl⟩:∃d,j=i+d:=⟨j-i,by omega⟩;rw[List.take_add,AD,AD,List.flatMap_append,FG];omega
omit [aA] in
theorem Wx {dG:List Tr}{i:Nat}{tr:Tr}(h:dG[i]? =some tr):cH (AD (dG.take (i+1)))=cH (AD (dG.take i))+cH tr.us:=by
 have nC:=(lA.1 h).1;have he:=(lA.1 h).2;rw[List.take_succ_eq_append_getElem nC,he,AD,AD,List.flatMap_append,FG];simp
omit [aA] in
theorem aqf {f f':Nat->Bool}{i:Nat}(h1:f i=true)(h2:f' i=false)(h:∀j,j≠i->f' j=f j):∀n,i<n->(t5 n).countP f=(t5 n).countP f'+1
 |0,hn=>by omega
 |n+1,hn=>by
  rw[List.range_succ,List.countP_append,List.countP_append];by_cases e:i=n
  .subst e
   have:(t5 i).countP f=(t5 i).countP f':=by
    apply List.countP_congr
    intro j hj;rw[h j (by have:=List.mem_range.1 hj;omega)]
   rw[this];simp[h1,h2]
  .rw[aqf h1 h2 h n (by omega),List.countP_singleton,List.countP_singleton,h n (Ne.symm e)];omega
theorem wpAny_all (hE:∀f F,E f=some F->Sound P f F){h0:List aj}{ops:Array Oper}{Q:Exit->Act->World->Prop}{s s':St}{dG:List Tr}(hT:EO P E ops.toList X.k ops.toList s dG s')
  (he:Rc ops.toList 0=true)(hp:Rb (LN ops.toList []) dG 0=true)(hlen:s.tmps.length=X.N)(hsk:X.k<=s.heap.length)(hdl:∀b,b∈s.dh->b<X.k)(hdr:∀b,b<X.k->b∉s.dh->s.bY b=h0[b]?)
  (hQ:∀a' w' π',gZ X h0 π' s' a' w'->Q .normal a' w'):
  ∀(fuel:Nat) (fg:Array Bool) (π:Pi) (a:Act) (w:World),fg.size=ops.size->(t5 ops.size).countP (λi=> !fg.getD i false)=fuel->
   (∀(j:Nat) o,ops[j]? =some o->fg.getD j false=true->∀e∈o.after,Region.binds .any e=true->fg.getD e.on false=true)->
   Rel X (·∈s'.dh) π (gl dG (λi=>fg.getD i false) 0 s.gt) a w->
   (∀b,π b≠none->b<s.heap.length∨∃(i:Nat) (tr:Tr),dG[i]? =some tr/\fg.getD i false=true/\s.heap.length+cH (AD (dG.take i))<=b/\b<s.heap.length+cH (AD (dG.take i))+cH tr.us)->
   wpAny P .any ops Q fuel fg a w:=by
 obtain⟨Z4,htl⟩:=hT.app;have A:=Kf Z4;have hn:dG.length=ops.size:=by rw[htl];simp
 have bef:∀(fg:Array Bool),(∀(j:Nat) o,ops[j]? =some o->fg.getD j false=true->∀e∈o.after,Region.binds .any e=true->fg.getD e.on false=true)->
   ∀(j:Nat) (o:Oper) (i:Nat),ops[j]? =some o->(∀e∈o.after,Region.binds .any e=true->fg.getD e.on false=true)->Nat.testBit ((LN ops.toList []).getD j 0) i=true->fg.getD i false=true:=by
  intro fg Es j;induction j using Nat.strongRecOn with
  |_ j ih=>
   intro o i ho aSF hb;have ho':ops.toList[j]? =some o:=by rw[Wh];exact ho
   obtain⟨e,he1,he2,h1⟩:=aE4 ops.toList [] j o ho' (λe h1 h2=>by have:=abR he j o ho' e h1 h2;simpa using this) (by simpa using hb);have hl:=aSF e (Array.mem_toList_iff.1 he1) he2;rcases h1 with rfl| ⟨nC,h1⟩
   .exact hl
   .simp only[List.length_nil,gD] at nC;have hjs:j<ops.size:=(Array.getElem?_eq_some_iff.1 ho).1;have hoe:ops[e.on]? =some (ops[e.on]'(by omega)):=aiv _;exact ih e.on nC _ i hoe (Es e.on _ hoe hl) h1
 intro fuel;induction fuel with
 |zero=>
  intro fg π a w yG aSB Es R jZ
  have aNn:∀i,i<ops.size->fg.getD i false=true:=λi hi=>by
   have:=List.countP_eq_zero.1 aSB i (List.mem_range.2 hi);simpa using this
  refine⟨?_,hQ a w π ?_⟩
  .unfold Region.ready;rw[List.filter_eq_nil_iff];intro i hi;have hi:=List.mem_range.1 hi;have:=aNn i hi
   have e:fg.getD i true=true:=by
    simp only[ap7,aiv (show i<fg.size by omega),LH] at this ⊢;exact this
   rw[e];simp
  .rw[aZI (λi hi=>aNn i (by omega))] at R;refine⟨(OB Z4)▸R,A.tmps.trans hlen,λb hb=> ?_,λb hb hn'=> ?_,?_,alj Z4 hdl⟩
   .rw[A.heap];rcases jZ b hb with h| ⟨i,tr,htr,_,_,h2⟩
    .omega
    .have h3:=Wx htr;have h4:=axZ dG (show i+1<=dG.length from(lA.1 htr).1);rw[List.take_length] at h4;omega
   .rw[A.my b hb (by omega) hn'];exact hdr b hb (λh=>hn' (A.sub b h))
   .rw[A.heap];omega
 |succ fuel ih=>
  intro fg π a w yG aSB Es R jZ
  have a0Z:∀i,i<ops.size->fg.getD i true=fg.getD i false:=λi hi=>by
   simp only[ap7,aiv (show i<fg.size by omega),LH]
  refine⟨λhr=> ?_,λi hi=> ?_⟩
  .exfalso
   have aNn:∀i,i<ops.size->fg.getD i false=true:=by
    intro i;induction i using Nat.strongRecOn with
    |_ i ihi=>
     intro hi;cases hl:fg.getD i false with
     |true=>rfl
     |false=>
      have ho:ops[i]? =some (ops[i]'hi):=aiv _
      have a00:i∈Region.ready .any ops fg:=mem_ready.2 ⟨by rw[a0Z i hi];exact hl,_,ho,λe he1 he2=>by
       have nC:=abR he i _ (by rw[Wh];exact ho) e (Array.mem_toList_iff.2 he1) he2;exact ihi e.on (by omega) (by omega)⟩
      rw[hr] at a00;cases a00
   have:(t5 ops.size).countP (λi=> !fg.getD i false)=0:=List.countP_eq_zero.2 λi hi=>by rw[aNn i (List.mem_range.1 hi)];simp
   omega
  .obtain⟨hun,o,ho,aSF⟩:=mem_ready.1 hi;have his:i<ops.size:=(Array.getElem?_eq_some_iff.1 ho).1;have aNo:fg.getD i false=false:=by rw[<-a0Z i his];exact hun
   obtain⟨tr,fp,htr,hfp,qv,hd⟩:=hT.at i o (by rw[Wh];exact ho)
   have hG:cI (AD (dG.take i)) s.gt=gl dG (λj=>decide (j<i)) 0 s.gt:=by
    have:=aQF dG i 0 s.gt;simp only[gD] at this;exact this.symm
   rw[hG] at qv
   have aXZ:∀(j:Nat) OD,i<j->dG[j]? =some OD->fg.getD j false=true->tr.af6 OD=true->False:=λj OD hij hj hl hc=>by
    rcases abS hp i j tr OD hij htr hj with h|h
    .simp only[gD] at h;have hjs:j<ops.size:=by rw[<-hn];exact(lA.1 hj).1
     have hoj:ops[j]? =some (ops[j]'hjs):=aiv _;have:=bef fg Es j _ i hoj (Es j _ hoj hl) h;rw[aNo] at this;cases this
    .rw[hc] at h;cases h
   have a3e:=qv.local (g':=gl dG (λj=>fg.getD j false) 0 s.gt) (λf hf p a3f=>by
    refine aKM (λj OD hj mz=> ?_) rfl;simp only[gD] at mz;intro ht;have hc:=aTk (hfp f hf) a3f ht;rcases afX j i with hji|hji|hji
    .have hlj:fg.getD j false=false:=by
      cases h:fg.getD j false with
      |false=>rfl
      |true=>exact absurd (by rw[h];simp[hji]) mz
     rcases abS hp j i OD tr hji hj htr with h|h
     .simp only[gD] at h;have:=bef fg Es i o j ho aSF h;rw[hlj] at this;cases this
     .rw[hc.1] at h;cases h
    .subst hji;exact mz (by rw[aNo];simp)
    .have hlj:fg.getD j false=true:=by
      cases h:fg.getD j false with
      |true=>rfl
      |false=>exact absurd (by rw[h];simp;omega) mz
     exact aXZ j OD hji hj hlj hc.2)
   have a1U:∀u∈tr.us,u∈AD dG:=λu hu=>List.mem_flatMap.2 ⟨tr,List.mem_of_getElem? htr,hu⟩
   refine azR hE ho a3e R (by omega) (λb h1 h2=> ?_) (λd h=>by rw[<-hlen];exact hd d h) (λu hu=>A.perm u (a1U u hu)) (λa' w' π' hx a1V hR=> ?_)
   .cases hb:π b with
    |none=>rfl
    |some p=>
     exfalso
     rcases jZ b (by simp[hb]) with h| ⟨i',OD,aX0,hl',h3,h4⟩
     .omega
     .rcases afX i' i with hii|hii|hii
      .have e1:=Wx aX0;have e2:=axZ dG (show i'+1<=i from hii);omega
      .subst hii;rw[aNo] at hl';cases hl'
      .have e1:=Wx htr;have e2:=axZ dG (show i+1<=i' from hii);omega
   .have aE5:∀j,(fg.setIfInBounds i true).getD j false=if j=i then true else fg.getD j false:=λj=>by
     simp only[ap7];by_cases e:j=i
     .subst e;simp[show j<fg.size by omega]
     .rw[if_neg e,aSb (Ne.symm e)]
    refine ih (fg.setIfInBounds i true) π' a' w' (by simp[yG]) ?_ (λj oj hoj hl e he1 he2=> ?_) ?_ (λb hb=> ?_)
    .have:=aqf (f:=λi=> !fg.getD i false) (f':=λj=> !(fg.setIfInBounds i true).getD j false) (i:=i) (by simp[aNo]) (by simp only[aE5];simp) (λj hj=>by simp only[aE5,if_neg hj]) ops.size his;omega
    .rw[aE5] at hl ⊢;by_cases e1:e.on=i
     .rw[if_pos e1]
     .rw[if_neg e1];by_cases e2:j=i
      .subst e2;rw[ho] at hoj;cases hoj;exact aSF e he1 he2
      .rw[if_neg e2] at hl;exact Es j oj hoj hl e he1 he2
    .rw[aXY (L:=λj=>fg.getD j false) (L':=λj=>(fg.setIfInBounds i true).getD j false) htr aNo (by simp only[aE5];simp) (λj hj=>by simp only[aE5,if_neg hj])
      (λj OD hij hj hl p H5 hp2=>aXZ j OD hij hj hl (aTl H5 hp2))]
     exact hR
    .rcases a1V b hb with h| ⟨h1,h2⟩
     .rcases jZ b h with h| ⟨i',OD,aX0,hl',h3,h4⟩
      .exact .inl h
      .refine .inr ⟨i',OD,aX0,?_,h3,h4⟩;rw[aE5];split<;>first|rfl|exact hl'
     .exact .inr ⟨i,tr,htr,by rw[aE5,if_pos rfl],h1,h2⟩
theorem aKN (hE:∀f F,E f=some F->Sound P f F)(hm:P.follows .mixedOrders=true){h0:List aj}{id:Nat}{ops:Array Oper}{Q:Exit->Act->World->Prop}{s s':St}{dG:List Tr}(hT:EO P E ops.toList X.k ops.toList s dG s')
  (he:Rc ops.toList 0=true)(hp:Rb (LN ops.toList []) dG 0=true){π:Pi}{a:Act}{w:World}(R:gZ X h0 π s a w)(hQ:∀a' w' π',gZ X h0 π' s' a' w'->Q .normal a' w'):(Code.region id ops true).wp P Q a w:=by
 refine wp_region_any hm ?_
 have hf:∀i,(Array.replicate ops.size false).getD i false=false:=λi=>by
  simp only[ap7,Array.getElem?_replicate];split<;>rfl
 have A:=Kf hT.app.1;refine wpAny_all hE hT he hp R.len R.hk R.dlt R.drt hQ ops.size _ π a _ (by simp) ?_ (λj o _ hl=>by rw[hf] at hl;cases hl) ?_ (λb hb=>.inl (R.dom b hb))
 .rw[List.countP_eq_length.2 λi _=>by rw[hf];rfl];simp
 .rw[auN (λj _=>hf _)];exact(R.rel.aKG λb hb=>A.sub b hb).drew
theorem aKO (hE:∀f F,E f=some F->Sound P f F){h0:List aj}{id:Nat}{ops:Array Oper}{Q:Exit->Act->World->Prop}{s s':St}{dG:List Tr}(hT:EO P E ops.toList X.k ops.toList s dG s')
  {π:Pi}{a:Act}{w:World}(R:gZ X h0 π s a w)(hQ:∀a' w' π',gZ X h0 π' s' a' w'->Q .normal a' w'):(Code.region id ops false).wp P Q a w:=by
 refine wp_region ?_;have:=azS hE hQ hT (i:=0) (λj=>by simp) R;rw[List.range_eq_range'];simpa using this
end
end Go.Ab
namespace Go.Ab
variable [aA]
def LZ (π:Pi)(H:Nat)(m:List Nat):Pi:=λb=>if b<H then π b else match m[b-H]? with
 |some b0=>π b0
 |none=>none
def AE (m m':List Nat):Prop:=∃t,m'=m++t
omit [aA] in
theorem AE.refl (m:List Nat):AE m m:=⟨[],by simp⟩
omit [aA] in
theorem AE.trans {a b c:List Nat}(h:AE a b)(k:AE b c):AE a c:=by
 obtain⟨t,rfl⟩:=h;obtain⟨u,rfl⟩:=k;exact⟨t++u,by simp⟩
omit [aA] in
theorem AE.get {m m':List Nat}(h:AE m m'){j b:Nat}(hj:m[j]? =some b):m'[j]? =some b:=by
 obtain⟨t,rfl⟩:=h;rw[Uw (lA.1 hj).1,hj]
omit [aA] in
theorem AE.ext {π:Pi}{H:Nat}{m m':List Nat}(h:AE m m'):Ext (LZ π H m) (LZ π H m'):=by
 intro b p hp;unfold LZ at hp ⊢;split
 .rename_i hb;rw[if_pos hb] at hp;exact hp
 .rename_i hb
  rw[if_neg hb] at hp;cases hj:m[b-H]? with
  |none=>rw[hj] at hp;cases hp
  |some b0=>rw[h.get hj];rw[hj] at hp;exact hp
def MOk (H:Nat)(m:List Nat):Prop:=m.Nodup/\∀b∈m,H<=b
omit [aA] in
theorem aIJ {b:Nat}:∀{m:List Nat} {i0 i:Nat},idx b m i0=some i->∃k,i=i0+k/\m[k]? =some b
 | [],_,_,h=>by simp[idx] at h
 |x::m,i0,i,h=>by
  simp only[idx] at h;split at h
  .rename_i hx
   cases h;exact⟨0,rfl,by simp[lB hx]⟩
  .obtain⟨k,h1,h2⟩:=aIJ h;exact⟨k+1,by omega,by simpa using h2⟩
omit [aA] in
theorem aIK {b:Nat}:∀{m:List Nat} {i0:Nat},idx b m i0=none->b∉m
 | [],_,_=>by simp
 |x::m,i0,h=>by
  simp only[idx] at h;split at h
  .cases h
  .rename_i hx
   have:=aIK h;simp only[abJ,not_or];exact⟨λe=>by subst e;simp at hx,this⟩
omit [aA] in
theorem alm {H b:Nat}{m:List Nat}:AE m (ak7 H b m).2/\(MOk H m->MOk H (ak7 H b m).2)/\∀π,LZ π H (ak7 H b m).2 (ak7 H b m).1=π b:=by
 unfold ak7;split
 .rename_i hb
  have hb:=Wg hb;split
  .rename_i i hi
   obtain⟨k,h1,h2⟩:=aIJ hi;refine⟨AE.refl _,id,λπ=> ?_⟩;unfold LZ;rw[if_neg (by omega),show H+i-H=k by omega,h2]
  .rename_i hi
   have hnm:=aIK hi;refine⟨⟨_,rfl⟩,λok=>⟨?_,λx hx=> ?_⟩,λπ=> ?_⟩
   .rw[List.nodup_append];exact⟨ok.1,by simp,λx hx y hy e=>by simp at hy;subst hy;subst e;exact hnm hx⟩
   .rcases List.mem_append.1 hx with h|h
    .exact ok.2 x h
    .simp at h;omega
   .unfold LZ;rw[if_neg (by omega),show H+m.length-H=m.length by omega];simp
 .rename_i hb
  have hb:b<H:=by
   rcases mJ b H with h|h
   .exact h
   .have:=axF h;simp[this] at hb
  exact⟨AE.refl _,id,λπ=>by unfold LZ;rw[if_pos hb]⟩
structure Gc {α:Type}(R:Pi->α->Value->Prop)(H:Nat)(a:α)(m:List Nat)(r:α×List Nat):Prop where
 pre:AE m r.2
 ok:MOk H m->MOk H r.2
 rel:∀π x,R π a x->R (LZ π H r.2) r.1 x
theorem aIL (H:Nat)(c:CV)(m:List Nat):Gc CV.rel H c m (gcC H c m):=by
 cases c<;>simp only[gcC]
 case ptr b o n=>
  obtain⟨h1,h2,h3⟩:=alm (H:=H) (b:=b) (m:=m);refine⟨h1,h2,λπ x ⟨B,s,q,e,hp,hx⟩=>⟨B,s,q,e,?_,hx⟩⟩;rw[h3];exact hp
 case cl f b o n=>
  obtain⟨h1,h2,h3⟩:=alm (H:=H) (b:=b) (m:=m);refine⟨h1,h2,λπ x ⟨B,s,q,e,hp,hx⟩=>⟨B,s,q,e,?_,hx⟩⟩;rw[h3];exact hp
 case sl b o l z w=>
  obtain⟨h1,h2,h3⟩:=alm (H:=H) (b:=b) (m:=m);exact⟨h1,h2,λπ x ⟨B,s,q,e,hp,hx⟩=>⟨B,s,q,e,by rw[h3];exact hp,hx⟩⟩
 all_goals exact⟨AE.refl _,id,λπ x hx=>hx⟩
omit [aA] in
theorem aNp {α:Type}{R R':α->Value->Prop}{as as':List α}{xs:List Value}(hl:as'.length=as.length)(h:∀(j:Nat) a a',as[j]? =some a->as'[j]? =some a'->∀x,R a x->R' a' x)(hx:bu R as xs):bu R' as' xs:=by
 refine bu.age (by rw[hl];exact hx.length) λi a' x ha' hxi=> ?_;obtain⟨a,ha,hr⟩:=hx.get' hxi;exact h i a a' ha ha' x hr
omit [aA] in
theorem adN {α:Type}{R:Pi->α->Value->Prop}(mono:∀{π π':Pi},Ext π π'->∀a x,R π a x->R π' a x){f:α->List Nat->α×List Nat}{H:Nat}(hf:∀a m,Gc R H a m (f a m)):
  ∀(l:List α) (m:List Nat),AE m (H2 f l m).2/\(MOk H m->MOk H (H2 f l m).2)/\(H2 f l m).1.length=l.length/\∀(j:Nat) a a',l[j]? =some a->(H2 f l m).1[j]? =some a'->∀π x,R π a x->R (LZ π H (H2 f l m).2) a' x
 | [],m=>⟨AE.refl _,id,rfl,λj a a' h=>by simp at h⟩
 |a::l,m=>by
  have G:=hf a m;obtain⟨p1,p2,p3,p4⟩:=adN mono hf l (f a m).2;refine⟨G.pre.trans p1,λok=>p2 (G.ok ok),by simp[H2,p3],λj b b' hb fh π x hx=> ?_⟩;cases j with
  |zero=>
   simp[H2] at hb fh
   subst hb fh;exact mono p1.ext _ _ (G.rel π x hx)
  |succ j=>exact p4 j b b' (by simpa using hb) (by simpa[H2] using fh) π x hx
omit [aA] in
theorem aIM {α:Type}{R:Pi->α->Value->Prop}(mono:∀{π π':Pi},Ext π π'->∀a x,R π a x->R π' a x){f:α->List Nat->α×List Nat}{H:Nat}(hf:∀a m,Gc R H a m (f a m))(l:List α)(m:List Nat)(π:Pi)(xs:List Value)(h:bu (R π) l xs):bu (R (LZ π H (H2 f l m).2)) (H2 f l m).1 xs:=by
 obtain⟨_,_,p3,p4⟩:=adN mono hf l m;exact aNp p3 (λj a a' ha ha' x hr=>p4 j a a' ha ha' π x hr) h
theorem Z' (H:Nat):∀(cs:aj) (m:List Nat),AE m (H2 (gcS H) cs m).2/\(MOk H m->MOk H (H2 (gcS H) cs m).2)/\aj.size (H2 (gcS H) cs m).1=aj.size cs/\
  ∀π j x,j<aj.size cs->(aj.get cs j).rel π x->(aj.get (H2 (gcS H) cs m).1 j).rel (LZ π H (H2 (gcS H) cs m).2) x
 | [],m=>⟨AE.refl _,id,rfl,λπ j x hj=>by rw[aj.lp] at hj;omega⟩
 |.c v::r,m=>by
  have G:=aIL H v m;obtain⟨p1,p2,p3,p4⟩:=Z' H r (gcC H v m).2;have e:H2 (gcS H) (.c v::r) m=(.c (gcC H v m).1::(H2 (gcS H) r (gcC H v m).2).1,(H2 (gcS H) r (gcC H v m).2).2):=rfl;rw[e];refine⟨G.pre.trans p1,λok=>p2 (G.ok ok),by rw[aj.size_cons,aj.size_cons,p3];rfl,λπ j x hj hx=> ?_⟩;cases j with
  |zero=>exact CV.dz p1.ext _ _ (G.rel π x hx)
  |succ j=>
   rw[<-aj.kj (l:=r) (j':=j) (by omega) (by omega)] at hx;rw[<-aj.kj (l:=(H2 (gcS H) r (gcC H v m).2).1) (j':=j) (by omega) (by omega)];exact p4 π j x (by rw[aj.size_cons,Sg.kh] at hj;omega) hx
 |.a n cols::r,m=>by
  obtain⟨p1,p2,p3,p4⟩:=Z' H r m;have e:H2 (gcS H) (.a n cols::r) m=(.a n cols::(H2 (gcS H) r m).1,(H2 (gcS H) r m).2):=rfl;rw[e];refine⟨p1,p2,by rw[aj.size_cons,aj.size_cons,p3],λπ j x hj hx=> ?_⟩;rw[aj.size_cons] at hj;by_cases lC:j<(Sg.a n cols).size
  .rw[aj.dF lC,Sg.o9] at hx ⊢;obtain⟨v,hv⟩:=aDk cols j;rw[hv] at hx ⊢;exact hx
  .rw[aj.kH (by omega)] at hx ⊢;exact p4 π _ x (by omega) hx
theorem adO (H:Nat)(r:RV)(m:List Nat):Gc RV.rel H r m (gcR H r m):=by
 cases r with
 |c c=>have G:=aIL H c m;exact⟨G.pre,G.ok,G.rel⟩
 |agg cs=>
  obtain⟨p1,p2,p3,p4⟩:=Z' H cs m;refine⟨p1,p2,λπ x ⟨a,hx,ha⟩=>⟨a,hx,?_⟩⟩;obtain⟨l1,l2⟩:=iX ha;refine yp (by rw[p3,l1]) λj hj=> ?_;rw[p3] at hj;obtain⟨y,hy,hr⟩:=l2 j hj;exact⟨y,hy,p4 π j y hj hr⟩
theorem ax0 (H:Nat)(r:AV)(m:List Nat):Gc AV.rel H r m (gcA H r m):=by
 cases r with
 |r c=>have G:=adO H c m;exact⟨G.pre,G.ok,G.rel⟩
 |tup cs=>
  obtain⟨p1,p2,_,_⟩:=adN (R:=RV.rel) (λh a x r=>RV.dz h a x r) (adO H) cs m;exact⟨p1,p2,λπ x ⟨a,hx,ha⟩=>⟨a,hx,aIM (R:=RV.rel) (λh a x r=>RV.dz h a x r) (adO H) cs m π _ ha⟩⟩
 |fn f cs=>
  obtain⟨p1,p2,_,_⟩:=adN (R:=RV.rel) (λh a x r=>RV.dz h a x r) (adO H) cs m;exact⟨p1,p2,λπ x ⟨a,hx,ha⟩=>⟨a,hx,aIM (R:=RV.rel) (λh a x r=>RV.dz h a x r) (adO H) cs m π _ ha⟩⟩
 |Wl=>exact⟨AE.refl _,id,λ_ _ _=>trivial⟩
structure GcB (H:Nat)(b b':Option aj)(m':List Nat):Prop where
 size:b'.map aj.size=b.map aj.size
 rel:∀k k',b=some k->b'=some k'->∀π (j:Nat) x,j<aj.size k->(aj.get k j).rel π x->(aj.get k' j).rel (LZ π H m') x
theorem GcB.pre {H:Nat}{b b':Option aj}{m m':List Nat}(h:GcB H b b' m)(p:AE m m'):GcB H b b' m':=
 ⟨h.size,λk k' e e' π j x hj hx=>CV.dz p.ext _ _ (h.rel k k' e e' π j x hj hx)⟩
theorem aIN (H:Nat)(b:Option aj)(m:List Nat):AE m (gcB H b m).2/\(MOk H m->MOk H (gcB H b m).2)/\GcB H b (gcB H b m).1 (gcB H b m).2:=by
 cases b with
 |none=>exact⟨AE.refl _,id,rfl,λk k' e=>by cases e⟩
 |some k=>
  obtain⟨p1,p2,p3,p4⟩:=Z' H k m;refine⟨p1,p2,⟨by simp only[gcB,SP,p3],λk1 k' e e' π j x hj hx=> ?_⟩⟩;cases e;cases e'
  exact p4 π j x hj hx
theorem ao0 (k:Nat)(d:List Nat)(H:Nat):∀(l:List (Option aj)) (j0:Nat) (m:List Nat),AE m (gcO k d H l j0 m).2/\(MOk H m->MOk H (gcO k d H l j0 m).2)/\(gcO k d H l j0 m).1.length=l.length/\
  ∀(j:Nat) b b',l[j]? =some b->(gcO k d H l j0 m).1[j]? =some b'->(j0+j<k/\j0+j∉d/\b'=b)∨((j0+j<k->j0+j∉d->False)/\GcB H b b' (gcO k d H l j0 m).2)
 | [],j0,m=>⟨AE.refl _,id,rfl,λj b b' h=>by simp at h⟩
 |b0::l,j0,m=>by
  simp only[gcO];split
  .rename_i hc
   simp only[cK,Nat.blt_eq,o7] at hc;obtain⟨p1,p2,p3,p4⟩:=ao0 k d H l (j0+1) m;refine⟨p1,p2,by simp[p3],λj b b' hb fh=> ?_⟩;cases j with
   |zero=>
    simp at hb fh
    subst hb fh;refine .inl ⟨hc.1,λhm=> ?_,rfl⟩;have:=List.any_eq_false.1 hc.2 _ hm;simp at this
   |succ j=>
    have:=p4 j b b' (by simpa using hb) (by simpa using fh);rw[show j0+1+j=j0+(j+1) by omega] at this;exact this
  .rename_i hc
   obtain⟨q1,q2,q3⟩:=aIN H b0 m;obtain⟨p1,p2,p3,p4⟩:=ao0 k d H l (j0+1) (gcB H b0 m).2;refine⟨q1.trans p1,λok=>p2 (q2 ok),by simp[p3],λj b b' hb fh=> ?_⟩;cases j with
   |zero=>
    simp at hb fh
    subst hb fh;refine .inr ⟨λh1 h2=> ?_,q3.pre p1⟩;have e1:v9 j0 k=true:=by simpa using h1
    have e2:d.any (z9 j0)=false:=by
     rw[List.any_eq_false];intro y hy he;have:=lB he;subst this;exact h2 hy
    rw[e1,e2] at hc;cases hc
   |succ j=>
    have:=p4 j b b' (by simpa using hb) (by simpa using fh);rw[show j0+1+j=j0+(j+1) by omega] at this;exact this
theorem aIO (H:Nat)(heap:List (Option aj)):∀(fuel i:Nat) (m:List Nat) (acc:List (Option aj)) (z:List (Option aj)×List Nat),gcN H heap fuel i m acc=some z->acc.length=i->i<=m.length->
  (∀(j:Nat) b b',m[j]? =some b->acc[j]? =some b'->GcB H ((heap[b]?).getD none) b' m)->
  AE m z.2/\(MOk H m->MOk H z.2)/\z.1.length=z.2.length/\∀(j:Nat) b b',z.2[j]? =some b->z.1[j]? =some b'->GcB H ((heap[b]?).getD none) b' z.2
 |0,_,_,_,_,h,_,_,_=>by simp[gcN] at h
 |fuel+1,i,m,acc,z,h,hi,hi2,aNj=>by
  simp only[gcN] at h;split at h
  .rename_i hn
   cases h;have:m.length<=i:=List.getElem?_eq_none_iff.1 hn;exact⟨AE.refl _,id,by simp;omega,aNj⟩
  .rename_i b hb
   obtain⟨q1,q2,q3⟩:=aIN H ((heap[b]?).getD none) m;have nC:i<m.length:=(lA.1 hb).1;have hlen:m.length<=(gcB H ((heap[b]?).getD none) m).2.length:=by obtain⟨t,ht⟩:=q1;rw[ht];simp
   obtain⟨p1,p2,p3,p4⟩:=aIO H heap fuel (i+1) _ _ z h (by simp[hi]) (by omega) (λj b1 b1' h1 h1'=>by
    rcases aEV h1' with h1'| ⟨hj,rfl⟩
    .have hj:j<acc.length:=(lA.1 h1').1
     have hm:m[j]? =some b1:=by
      have e:m[j]? =some (m[j]'(by omega)):=kt _;rw[e];have:=q1.get e;rw[h1] at this;exact this.symm
     exact(aNj j b1 b1' hm h1').pre q1
    .have:b1=b:=by
      rw[hj,hi] at h1;have:=q1.get hb;rw[h1] at this;exact Ka this
     subst this;exact q3)
   exact⟨q1.trans p1,λok=>p2 (q2 ok),p3,p4⟩
end Go.Ab
namespace Go.Ab
variable [aA]
section
variable {P:Program} {E:Env} {X:Cx}
structure In (X:Cx)(h0:List aj):Prop where
 k:X.k=h0.length
 h:sf X.p0 (hC (h0.map some)) (hZ (h0.map some)) X.w0
 d:∀b,X.p0 b≠none->b<X.k
theorem gZ.same {h0:List aj}{π:Pi}{s:St}{a:Act}{w:World}(I:In X h0)(R:gZ X h0 π s a w){b:Nat}(hb:b<X.k)(hn:b∉s.dh){k:aj}(hk:s.bY b=some k){B:Nat}{s0 q e:Nat}(hp:π b=some (B,s0,q,e)){j:Nat}(hj:j<aj.size k):
  ∃v,cl w B (s0+j)=some v/\(aj.get k j).rel X.p0 v:=by
 have h1:=R.drt b hb hn;rw[hk] at h1;have hz:hZ (h0.map some) b=some (aj.size k):=by rw[Qn,<-h1];rfl
 obtain⟨B',s',e',uG,hle,k1,k2⟩:=I.h.hp b _ hz;rw[R.rel.xU b hb,uG] at hp;cases hp;obtain⟨v,hv,hr⟩:=k2 j hj;rw[aDm h1.symm hj] at hr;refine⟨v,?_,hr⟩;rw[R.rel.fr.cl (abO (by rw[hv];rfl)),hv];rintro ⟨b2,s2,q2,e2,FF,hd2,hp2,i1,i2⟩
 have mz:b2≠b:=λe=>hn (e▸hd2)
 have hz2:hZ (h0.map some) b2≠none:=by
  rw[Qn];have:b2<h0.length:=by rw[<-I.k];exact FF
  rw[kt this];simp
 exact I.h.dj b2 b B s2 q2 e2 s0 _ e mz hz2 (by rw[hz];simp) hp2 uG (s0+j) i1 i2 (by omega) (by omega)
omit [aA] in
theorem aE6 {l:List (Option aj)}{b:Nat}(h:b<l.length):l[b]? =some ((l[b]?).getD none):=by
 rw[kt h];rfl
theorem aNq {h0:List aj}{π:Pi}{s:St}{a:Act}{w:World}(I:In X h0)(R:gZ X h0 π s a w){H:Nat}(hH:X.k<=H)(hHl:H<=s.heap.length){m0:List Nat}(ok0:MOk H m0){z:List (Option aj)×List Nat}
  (hz:gcN H s.heap 1000 0 (gcO X.k s.dh H (s.heap.take H) 0 m0).2 []=some z):
  AE m0 z.2/\sf (LZ π H z.2) (hC ((gcO X.k s.dh H (s.heap.take H) 0 m0).1++z.1)) (hZ ((gcO X.k s.dh H (s.heap.take H) 0 m0).1++z.1)) w/\
  ((gcO X.k s.dh H (s.heap.take H) 0 m0).1++z.1).length=H+z.2.length/\
  (∀b,b<H->b<X.k->b∉s.dh->(((gcO X.k s.dh H (s.heap.take H) 0 m0).1++z.1)[b]?).getD none=s.bY b)/\
  (∀b,hZ ((gcO X.k s.dh H (s.heap.take H) 0 m0).1++z.1) b≠none->(b<H/\s.gt.z b≠none)∨∃b0,H<=b/\z.2[b-H]? =some b0/\H<=b0/\s.gt.z b0≠none):=by
 obtain⟨o1,o2,o3,o4⟩:=ao0 X.k s.dh H (s.heap.take H) 0 m0;generalize hy:gcO X.k s.dh H (s.heap.take H) 0 m0=y at*
 obtain⟨n1,n2,n3,n4⟩:=aIO H s.heap 1000 0 y.2 [] z hz rfl (Nat.zero_le _) (λj b b' _ h=>by simp at h);have hyl:y.1.length=H:=by rw[o3];simp;omega
 have ok:=n2 (o2 ok0)
 have xU:∀b,b<H->∃x,y.1[b]? =some x/\(y.1++z.1)[b]? =some x/\(x=s.bY b/\b<X.k/\b∉s.dh∨(b<X.k->b∉s.dh->False)/\GcB H (s.bY b) x z.2):=λb hb=>by
  have h1:y.1[b]? =some (y.1[b]'(by omega)):=kt _
  have h2:(s.heap.take H)[b]? =some (s.bY b):=by
   rw[abH,if_pos hb];exact aE6 (by omega)
  refine⟨_,h1,by rw[Uw (by omega)];exact h1,?_⟩;have o5:=o4 b _ _ h2 h1;simp only[gD] at o5;rcases o5 with⟨q1,q2,q3⟩| ⟨q0,q⟩
  .exact .inl ⟨q3,q1,q2⟩
  .exact .inr ⟨q0,q.pre n1⟩
 have new:∀b,H<=b->b<H+z.2.length->∃b0 x,z.2[b-H]? =some b0/\H<=b0/\(y.1++z.1)[b]? =some x/\GcB H (s.bY b0) x z.2:=λb h1 h2=>by
  have e1:z.2[b-H]? =some (z.2[b-H]'(by omega)):=kt _;have e2:z.1[b-H]? =some (z.1[b-H]'(by omega)):=kt _;refine⟨_,_,e1,ok.2 _ (List.mem_of_getElem? e1),?_,n4 _ _ _ e1 e2⟩;rw[adG (by omega),hyl];exact e2
 have len:(y.1++z.1).length=H+z.2.length:=by simp;omega
 have src:∀b n,hZ (y.1++z.1) b=some n->∃b0 k0 k,s.bY b0=some k0/\aj.size k0=n/\(y.1++z.1)[b]? =some (some k)/\aj.size k=n/\LZ π H z.2 b=π b0/\((b<H/\b0=b)∨(H<=b/\z.2[b-H]? =some b0/\H<=b0))/\
   (k=k0/\b<X.k/\b∉s.dh/\b0=b∨∀(j:Nat) x,j<aj.size k0->(aj.get k0 j).rel π x->(aj.get k j).rel (LZ π H z.2) x):=λb n hn=>by
  have hbl:b<H+z.2.length:=by
   rw[<-len];rcases mJ b (y.1++z.1).length with h|h
   .exact h
   .simp only[hZ,J' h] at hn;cases hn
  rcases mJ b H with hb|hb
  .obtain⟨x,h1,h2,h3⟩:=xU b hb;simp only[hZ,h2,LH] at hn;cases x with
   |none=>cases hn
   |some k=>
    have hkn:aj.size k=n:=by simpa using hn
    have hpi:LZ π H z.2 b=π b:=by unfold LZ;rw[if_pos hb]
    rcases h3 with⟨q1,q2,q3⟩| ⟨_,q⟩
    .exact⟨b,k,k,q1.symm,hkn,h2,hkn,hpi,.inl ⟨hb,rfl⟩,.inl ⟨rfl,q2,q3,rfl⟩⟩
    .have hs:=q.size;cases Rg:s.bY b with
     |none=>rw[Rg] at hs;cases hs
     |some k0=>
      rw[Rg] at hs q;have:aj.size k=aj.size k0:=by simpa using hs
      exact⟨b,k0,k,Rg,by omega,h2,hkn,hpi,.inl ⟨hb,rfl⟩,.inr λj x hj hx=>q.rel k0 k rfl rfl π j x hj hx⟩
  .obtain⟨b0,x,h1,h2,h3,q⟩:=new b hb hbl;simp only[hZ,h3,LH] at hn;cases x with
   |none=>cases hn
   |some k=>
    have hkn:aj.size k=n:=by simpa using hn
    have hpi:LZ π H z.2 b=π b0:=by unfold LZ;rw[if_neg (by omega),h1]
    have hs:=q.size;cases Rg:s.bY b0 with
    |none=>rw[Rg] at hs;cases hs
    |some k0=>
     rw[Rg] at hs q;have:aj.size k=aj.size k0:=by simpa using hs
     exact⟨b0,k0,k,Rg,by omega,h3,hkn,hpi,.inr ⟨hb,h1,h2⟩,.inr λj x hj hx=>q.rel k0 k rfl rfl π j x hj hx⟩
 refine⟨o1.trans n1,⟨R.rel.hp.am,λb B s1 q1 e1 hz1 H5 BP=> ?_,λb n hn=> ?_,λb b' B s1 q1 e1 s2 q2 e2 mz hz1 hz2 H5 hp2 i i1 i2 i3 i4=> ?_⟩,len,λb hb hbk hnd=> ?_,λb hb=> ?_⟩
 .cases hn1:hZ (y.1++z.1) b with
  |none=>exact absurd hn1 hz1
  |some n=>
   obtain⟨b0,k0,k,h1,h2,h3,h4,h5,h6,h7⟩:=src b n hn1;have NV:s.gt.z b0=some (aj.size k0):=St.aqc h1;rw[h5] at H5;exact R.rel.hp.lb b0 B s1 q1 e1 (by rw[NV];simp) H5 BP
 .obtain⟨b0,k0,k,h1,h2,h3,h4,h5,h6,h7⟩:=src b n hn;have NV:s.gt.z b0=some (aj.size k0):=St.aqc h1;obtain⟨B,s1,e1,hp,hle,m1,m2⟩:=R.rel.hp.hp b0 _ NV;refine⟨B,s1,e1,by rw[h5,<-h2];exact hp,by omega,m1,λj hj=> ?_⟩;rw[ags h3 (by omega)];rcases h7 with⟨rfl,q1,q2,rfl⟩|q
  .obtain⟨v,hv,hr⟩:=R.same I q1 q2 h1 hp (j:=j) (by omega);refine⟨v,hv,CV.dz (λb p hbp=> ?_) _ _ hr⟩;have hbk:=I.d b (by rw[hbp];simp);unfold LZ;rw[if_pos (by omega),R.rel.xU b hbk];exact hbp
  .obtain⟨v,hv,hr⟩:=m2 j (by omega);rw[St.aSw h1 (by omega)] at hr;exact⟨v,hv,q j v (by omega) hr⟩
 .cases hn1:hZ (y.1++z.1) b with
  |none=>exact hz1 hn1
  |some n=>
  cases hn2:hZ (y.1++z.1) b' with
  |none=>exact hz2 hn2
  |some n'=>
  obtain⟨b0,k0,k,h1,_,_,_,h5,h6,_⟩:=src b n hn1;obtain⟨b0',k0',k',h1',_,_,_,h5',h6',_⟩:=src b' n' hn2;rw[h5] at H5;rw[h5'] at hp2
  have a3g:b0≠b0':=by
   intro e;subst e;rcases h6 with⟨q1,q2⟩| ⟨q1,q2,q3⟩<;>rcases h6' with⟨r1,r2⟩| ⟨r1,r2,r3⟩
   .exact mz (q2.symm.trans r2)
   .omega
   .omega
   .obtain⟨l1,g1⟩:=lA.1 q2;obtain⟨l2,g2⟩:=lA.1 r2;have:=List.pairwise_iff_getElem.1 ok.1;rcases afX (b-H) (b'-H) with h|h|h
    .exact this _ _ l1 l2 h (g1.trans g2.symm)
    .omega
    .exact this _ _ l2 l1 h (g2.trans g1.symm)
  exact R.rel.hp.dj b0 b0' B s1 q1 e1 s2 q2 e2 a3g (by rw[St.aqc h1];simp) (by rw[St.aqc h1'];simp) H5 hp2 i i1 i2 i3 i4
 .obtain⟨x,h1,h2,h3⟩:=xU b hb;rw[h2];rcases h3 with⟨q1,_⟩| ⟨q0,_⟩
  .exact q1
  .exact(q0 hbk hnd).elim
 .cases hn:hZ (y.1++z.1) b with
  |none=>exact absurd hn hb
  |some n=>
   obtain⟨b0,k0,k,h1,_,_,_,_,h6,_⟩:=src b n hn;rcases h6 with⟨q1,rfl⟩| ⟨q1,q2,q3⟩
   .exact .inl ⟨q1,by rw[St.aqc h1];simp⟩
   .exact .inr ⟨b0,q1,q2,q3,by rw[St.aqc h1];simp⟩
end
end Go.Ab
namespace Go.Ab
variable [aA]
section
variable {P:Program} {E:Env} {X:Cx} {h0:List aj} {π:Pi} {s s':St} {a:Act} {w:World}
theorem gZ.gc (I:In X h0)(R:gZ X h0 π s a w){H:Nat}(hH:X.k<=H)(h:s.gc X.k H=some s'):∃π',gZ X h0 π' s' a w:=by
 unfold St.gc at h;split at h
 .cases h
 rename_i hb
 have hHl:H<=s.heap.length:=Wg hb;simp only at h;split at h
 .rename_i z hz
  obtain⟨p1,p2,p3,p4⟩:=adN (R:=AV.rel) (λh a x r=>AV.dz h a x r) (ax0 H) s.tmps [];have ok0:MOk H (H2 (gcA H) s.tmps []).2:=p2 ⟨List.nodup_nil,λ_ h=>by cases h⟩;obtain⟨q1,q2,q3,q4,q5⟩:=aNq I R hH hHl ok0 hz;cases h;refine⟨LZ π H z.2,⟨⟨λi=> ?_,R.rel.nt,R.rel.df,q2,λb hb=> ?_,λb B s1 qq e hkb hzb hp hB i i1 i2=> ?_,R.rel.fr⟩,p3.trans R.len,λb hb=> ?_,λb hb hn=> ?_,?_,R.dlt⟩⟩
  .show(ak3 (H2 (gcA H) s.tmps []).1 i).rel _ _;rw[A9];have hr:(ak3 s.tmps i).rel π (a.tmps.getD i undef):=R.rel.tm i;rw[A9] at hr;rcases mJ i s.tmps.length with hi|hi
   .have e1:s.tmps[i]? =some (s.tmps[i]'hi):=kt _;have e2:(H2 (gcA H) s.tmps []).1[i]? =some ((H2 (gcA H) s.tmps []).1[i]'(by omega)):=kt _;have hr:(s.tmps.getD i udf).rel π (a.tmps.getD i undef):=hr;simp only[List.getD,e1,LH] at hr;simp only[List.getD,e2,LH];exact AV.dz q1.ext _ _ (p4 i _ _ e1 e2 π _ hr)
   .have hr:(s.tmps.getD i udf).rel π (a.tmps.getD i undef):=hr;simp only[List.getD,J' hi,Option.getD_none] at hr;simp only[List.getD,J' (show(H2 (gcA H) s.tmps []).1.length<=i by omega),Option.getD_none];exact(ax0 H udf z.2).rel π _ hr
  .unfold LZ;rw[if_pos (by omega)];exact R.rel.xU b hb
  .rcases q5 b hzb with⟨hbH,NV⟩| ⟨b0,hbH,hm,Rg,NV⟩
   .unfold LZ at hp;rw[if_pos hbH] at hp;exact R.rel.ft b B s1 qq e hkb NV hp hB i i1 i2
   .unfold LZ at hp;rw[if_neg (by omega),hm] at hp;exact R.rel.ft b0 B s1 qq e (by omega) NV hp hB i i1 i2
  .show b<(_++_:List (Option aj)).length;rw[q3];unfold LZ at hb;split at hb
   .omega
   .cases hm:z.2[b-H]? with
    |none=>rw[hm] at hb;exact absurd rfl hb
    |some b0=>have:=(lA.1 hm).1;omega
  .exact(q4 b (by omega) hb hn).trans (R.drt b hb hn)
  .show X.k<=(_++_:List (Option aj)).length;rw[q3];omega
 .cases h
theorem gZ.a1W (R:gZ X h0 π s a w)(t:Nat):gZ X h0 π {s with tmps:=s.tmps.set t Wl} a w:=by
 refine⟨⟨λi=> ?_,R.rel.nt,R.rel.df,R.rel.hp,R.rel.xU,R.rel.ft,R.rel.fr⟩,by simpa using R.len,R.dom,R.drt,R.hk,R.dlt⟩;show(ak3 (s.tmps.set t Wl) i).rel π _;rw[A9];simp only[List.getD,aEf];have hr:(ak3 s.tmps i).rel π (a.tmps.getD i undef):=R.rel.tm i;rw[A9] at hr;split
 .split
  .trivial
  .rename_i h1 h2
   subst h1;simpa only[List.getD,J' (show s.tmps.length<=t by omega)] using hr
 .exact hr
theorem gZ.aEo:∀(l:List Nat) {s:St},gZ X h0 π s a w->gZ X h0 π {s with tmps:=l.foldl (λl t=>l.set t Wl) s.tmps} a w
 | [],_,R=>R
 |t::l,_,R=>gZ.aEo l (R.a1W t)
omit [aA] in
theorem aZJ {i:Nat}{c:CV}(h:s.tmp i=.r (.c c)):i<s.tmps.length:=by
 rcases mJ i s.tmps.length with hi|hi
 .exact hi
 .simp only[St.tmp,A9,List.getD,J' hi,Option.getD_none,udf] at h;cases h
omit [aA] in
theorem ax1 [aA]{π:Pi}{c:CV}{v:Value}(h:c.rel π v):(aIw c).rel π v:=by
 unfold aIw;split
 .split
  .rename_i b len z own c0
   simpa[CV.rel,cG.val] using h
  .exact h
 .exact h
omit [aA] in
theorem agt (g:CV->CV)(s:Sg):(aEp g s).size=s.size:=by
 cases s<;>rfl
omit [aA] in
theorem ax2 (g:CV->CV):∀b:aj,aj.size (b.map (aEp g))=aj.size b
 | []=>rfl
 |s::l=>by
  rw[List.map_cons,aj.size_cons,aj.size_cons,agt,ax2 g l]
theorem aTm {g:CV->CV}{π:Pi}(hg:∀c v,CV.rel π c v->CV.rel π (g c) v){s:Sg}{j:Nat}{v:Value}(h:(s.get j).rel π v):((aEp g s).get j).rel π v:=by
 cases s with
 |c x=>
  cases j with
  |zero=>exact hg _ _ h
  |succ j=>exact h
 |a n cols=>exact h
theorem aNr {g:CV->CV}{π:Pi}(hg:∀c v,CV.rel π c v->CV.rel π (g c) v){v:Value}:∀(b:aj) (j:Nat),(aj.get b j).rel π v->(aj.get (b.map (aEp g)) j).rel π v
 | [],_,h=>h
 |s::l,j,h=>by
  rw[List.map_cons];by_cases hj:j<s.size
  .rw[aj.dF hj] at h;rw[aj.dF (by rw[agt];exact hj)];exact aTm hg h
  .rw[aj.kH (by omega)] at h;rw[aj.kH (by rw[agt];omega),agt];exact aNr hg l _ h
theorem aTn {g:CV->CV}{π:Pi}(hg:∀c v,CV.rel π c v->CV.rel π (g c) v){a:AV}{v:Value}(h:a.rel π v):(mapA g a).rel π v:=by
 unfold mapA;split
 .exact hg _ _ h
 .exact h
omit [aA] in
theorem auO (g:CV->CV)(k:Nat)(d:List Nat):∀(l:List (Option aj)) (j:Nat),(aiy g k d l j).length=l.length
 | [],_=>rfl
 |b::l,j=>by simp[aiy,auO g k d l (j+1)]
omit [aA] in
theorem aIP (g:CV->CV)(k:Nat)(d:List Nat):∀(l:List (Option aj)) (j i:Nat),((aiy g k d l j)[i]?).getD none=(l[i]?).getD none∨(¬(j+i<k/\j+i∉d)/\∃b,(l[i]?).getD none=some b/\((aiy g k d l j)[i]?).getD none=some (b.map (aEp g)))
 | [],_,_=>.inl rfl
 |b::l,j,0=>by
  unfold aiy;cases hc:v9 j k&& !d.any (z9 j) with
  |true=>exact .inl rfl
  |false=>
   cases b with
   |none=>exact .inl rfl
   |some b=>
    refine .inr ⟨λh=> ?_,b,rfl,rfl⟩;have h1:v9 j k=true:=um.2 h.1
    have h2:d.any (z9 j)=false:=by
     cases hd:d.any (z9 j) with
     |false=>rfl
     |true=>
      obtain⟨x,hx,he⟩:=abI.1 hd;have:=lB he;subst this;exact absurd hx h.2
    rw[h1,h2] at hc;cases hc
 |b::l,j,i+1=>by
  have:=aIP g k d l (j+1) i;rw[show j+1+i=j+(i+1) by omega] at this;exact this
theorem gZ.a01 (R:gZ X h0 π s a w)(g:CV->CV)(hg:∀c v,CV.rel π c v->CV.rel π (g c) v):gZ X h0 π {s with tmps:=s.tmps.map (mapA g),heap:=aiy g X.k s.dh s.heap 0} a w:=by
 have hb:∀b,St.bY {s with tmps:=s.tmps.map (mapA g),heap:=aiy g X.k s.dh s.heap 0} b=s.bY b∨(¬(b<X.k/\b∉s.dh)/\∃k,s.bY b=some k/\St.bY {s with tmps:=s.tmps.map (mapA g),heap:=aiy g X.k s.dh s.heap 0} b=some (k.map (aEp g))):=λb=>by
  have:=aIP g X.k s.dh s.heap 0 b;rw[gD] at this;exact this
 generalize Wr:({s with tmps:=s.tmps.map (mapA g),heap:=aiy g X.k s.dh s.heap 0}:St)=s2 at hb
 have hz:s2.gt.z=s.gt.z:=by
  funext b
  show(s2.bY b).map aj.size=(s.bY b).map aj.size;rcases hb b with h| ⟨_,k,h1,h2⟩
  .rw[h]
  .rw[h1,h2];simp[ax2]
 have hc:∀b j v,(s.gt.c b j).rel π v->(s2.gt.c b j).rel π v:=λb j v h=>by
  rcases hb b with e| ⟨_,k,h1,h2⟩
  .show(match s2.bY b with|some k=>if j<k.size then k.get j else .f .u|none=>.f .u:CV).rel π v;rw[e];exact h
  .have h:(match s.bY b with|some k=>if j<k.size then k.get j else .f .u|none=>.f .u:CV).rel π v:=h;show(match s2.bY b with|some k=>if j<k.size then k.get j else .f .u|none=>.f .u:CV).rel π v;rw[h1] at h;rw[h2];simp only[ax2] at h ⊢;split
   .rename_i hj
    rw[if_pos hj] at h;exact aNr hg k j h
   .rename_i hj
    rw[if_neg hj] at h;exact h
 have hd2:s2.dh=s.dh:=by rw[<-Wr]
 have hl2:s2.heap.length=s.heap.length:=by rw[<-Wr];exact auO _ _ _ _ _
 refine⟨⟨λi=> ?_,R.rel.nt,R.rel.df,⟨R.rel.hp.am,?_,λb n hn=> ?_,?_⟩,R.rel.xU,?_,?_⟩,?_,λb fh=> ?_,λb hbk hn=> ?_,?_,?_⟩
 .have hr:(ak3 s.tmps i).rel π (a.tmps.getD i undef):=R.rel.tm i;show(ak3 s2.tmps i).rel π _;rw[<-Wr];rw[A9] at hr;rw[A9];simp only[List.getD,Ce] at hr ⊢;cases he:s.tmps[i]? with
  |none=>rw[he] at hr;exact hr
  |some x=>rw[he] at hr;exact aTn hg hr
 .rw[hz];exact R.rel.hp.lb
 .rw[hz] at hn;obtain⟨B,s1,e,h1,h2,h3,h4⟩:=R.rel.hp.hp b n hn;exact⟨B,s1,e,h1,h2,h3,λj hj=>let⟨v,hv,hr⟩:=h4 j hj;⟨v,hv,hc b j v hr⟩⟩
 .rw[hz];exact R.rel.hp.dj
 .rw[hz];intro b B s1 q e;rw[hd2];exact R.rel.ft b B s1 q e
 .rw[hd2];exact R.rel.fr
 .rw[<-Wr];simpa using R.len
 .rw[hl2];exact R.dom b fh
 .rw[hd2] at hn;rcases hb b with e| ⟨h,_⟩
  .exact e.trans (R.drt b hbk hn)
  .exact absurd ⟨hbk,hn⟩ h
 .rw[hl2];exact R.hk
 .rw[hd2];exact R.dlt
theorem aIQ {π:Pi}{c:CV}{v:Value}(h:c.rel π v):(aXB c).rel π v:=by
 unfold aXB;split
 .simpa[CV.rel,Sz.val] using h
 .exact h
theorem aTo {π:Pi}{a:AV}{v:Value}(h:a.rel π v):(aEq a).rel π v:=by
 unfold aEq;split
 .exact aIQ (ax1 h)
 .exact h
omit [aA] in
theorem agu (s:Sg):(aIx s).size=s.size:=by
 cases s<;>rfl
omit [aA] in
theorem aaa:∀b:aj,aj.size (b.map aIx)=aj.size b
 | []=>rfl
 |s::l=>by
  rw[List.map_cons,aj.size_cons,aj.size_cons,agu,aaa l]
theorem aTp {π:Pi}{s:Sg}{j:Nat}{v:Value}(h:(s.get j).rel π v):((aIx s).get j).rel π v:=by
 cases s with
 |c x=>
  cases j with
  |zero=>exact aIQ (ax1 h)
  |succ j=>exact h
 |a n cols=>exact h
theorem as3 {π:Pi}{v:Value}:∀(b:aj) (j:Nat),(aj.get b j).rel π v->(aj.get (b.map aIx) j).rel π v
 | [],_,h=>h
 |s::l,j,h=>by
  rw[List.map_cons];by_cases hj:j<s.size
  .rw[aj.dF hj] at h;rw[aj.dF (by rw[agu];exact hj)];exact aTp h
  .rw[aj.kH (by omega)] at h;rw[aj.kH (by rw[agu];omega),agu];exact as3 l _ h
omit [aA] in
theorem aE7 (l:List (Nat×Nat))(j:Nat)(b:aj):aj.size (aEr l j b)=aj.size b:=by
 unfold aEr;split
 .rw[(axQ _).1,(Z0 _ _).1,aaa]
 .rw[aaa]
theorem aTq {π:Pi}{v:Value}(l:List (Nat×Nat))(j:Nat)(b:aj)(i:Nat)(hi:i<aj.size b)(h:(aj.get b i).rel π v):(aj.get (aEr l j b) i).rel π v:=by
 unfold aEr;split
 .rw[(axQ _).2,(Z0 _ _).2 i (by rw[aaa];exact hi)];exact as3 b i h
 .exact as3 b i h
omit [aA] in
theorem auP (k:Nat)(d:List Nat)(sl:List (Nat×Nat)):∀(l:List (Option aj)) (j:Nat),(ak8 k d sl l j).length=l.length
 | [],_=>rfl
 |b::l,j=>by simp[ak8,auP k d sl l (j+1)]
omit [aA] in
theorem aIR (k:Nat)(d:List Nat)(sl:List (Nat×Nat)):∀(l:List (Option aj)) (j i:Nat),((ak8 k d sl l j)[i]?).getD none=(l[i]?).getD none∨(¬(j+i<k/\j+i∉d)/\∃b,(l[i]?).getD none=some b/\((ak8 k d sl l j)[i]?).getD none=some (aEr sl (j+i) b))
 | [],_,_=>.inl rfl
 |b::l,j,0=>by
  unfold ak8;cases hc:v9 j k&& !d.any (z9 j) with
  |true=>exact .inl rfl
  |false=>
   cases b with
   |none=>exact .inl rfl
   |some b=>
    refine .inr ⟨λh=> ?_,b,rfl,rfl⟩;have h1:v9 j k=true:=um.2 h.1
    have h2:d.any (z9 j)=false:=by
     cases hd:d.any (z9 j) with
     |false=>rfl
     |true=>
      obtain⟨x,hx,he⟩:=abI.1 hd;have:=lB he;subst this;exact absurd hx h.2
    rw[h1,h2] at hc;cases hc
 |b::l,j,i+1=>by
  have:=aIR k d sl l (j+1) i;rw[show j+1+i=j+(i+1) by omega] at this;exact this
theorem gZ.rows (R:gZ X h0 π s a w):gZ X h0 π {s with tmps:=s.tmps.map aEq,heap:=ak8 X.k s.dh (sls s) s.heap 0} a w:=by
 have hb:∀b,St.bY {s with tmps:=s.tmps.map aEq,heap:=ak8 X.k s.dh (sls s) s.heap 0} b=s.bY b∨(¬(b<X.k/\b∉s.dh)/\∃k,s.bY b=some k/\St.bY {s with tmps:=s.tmps.map aEq,heap:=ak8 X.k s.dh (sls s) s.heap 0} b=some (aEr (sls s) b k)):=λb=>by
  have:=aIR X.k s.dh (sls s) s.heap 0 b;rw[gD] at this;exact this
 generalize sls s=sl at hb ⊢
 generalize Wr:({s with tmps:=s.tmps.map aEq,heap:=ak8 X.k s.dh sl s.heap 0}:St)=s2 at hb
 have hz:s2.gt.z=s.gt.z:=by
  funext b
  show(s2.bY b).map aj.size=(s.bY b).map aj.size;rcases hb b with h| ⟨_,k,h1,h2⟩
  .rw[h]
  .rw[h1,h2];simp[aE7]
 have hc:∀b j v,(s.gt.c b j).rel π v->(s2.gt.c b j).rel π v:=λb j v h=>by
  rcases hb b with e| ⟨_,k,h1,h2⟩
  .show(match s2.bY b with|some k=>if j<k.size then k.get j else .f .u|none=>.f .u:CV).rel π v;rw[e];exact h
  .have h:(match s.bY b with|some k=>if j<k.size then k.get j else .f .u|none=>.f .u:CV).rel π v:=h;show(match s2.bY b with|some k=>if j<k.size then k.get j else .f .u|none=>.f .u:CV).rel π v;rw[h1] at h;rw[h2];simp only[aE7] at h ⊢;split
   .rename_i hj
    rw[if_pos hj] at h;exact aTq sl b k j hj h
   .rename_i hj
    rw[if_neg hj] at h;exact h
 have hd2:s2.dh=s.dh:=by rw[<-Wr]
 have hl2:s2.heap.length=s.heap.length:=by rw[<-Wr];exact auP _ _ _ _ _
 refine⟨⟨λi=> ?_,R.rel.nt,R.rel.df,⟨R.rel.hp.am,?_,λb n hn=> ?_,?_⟩,R.rel.xU,?_,?_⟩,?_,λb fh=> ?_,λb hbk hn=> ?_,?_,?_⟩
 .have hr:(ak3 s.tmps i).rel π (a.tmps.getD i undef):=R.rel.tm i;show(ak3 s2.tmps i).rel π _;rw[<-Wr];rw[A9] at hr;rw[A9];simp only[List.getD,Ce] at hr ⊢;cases he:s.tmps[i]? with
  |none=>rw[he] at hr;exact hr
  |some x=>rw[he] at hr;exact aTo hr
 .rw[hz];exact R.rel.hp.lb
 .rw[hz] at hn;obtain⟨B,s1,e,h1,h2,h3,h4⟩:=R.rel.hp.hp b n hn;exact⟨B,s1,e,h1,h2,h3,λj hj=>let⟨v,hv,hr⟩:=h4 j hj;⟨v,hv,hc b j v hr⟩⟩
 .rw[hz];exact R.rel.hp.dj
 .rw[hz];intro b B s1 q e;rw[hd2];exact R.rel.ft b B s1 q e
 .rw[hd2];exact R.rel.fr
 .rw[<-Wr];simpa using R.len
 .rw[hl2];exact R.dom b fh
 .rw[hd2] at hn;rcases hb b with e| ⟨h,_⟩
  .exact e.trans (R.drt b hbk hn)
  .exact absurd ⟨hbk,hn⟩ h
 .rw[hl2];exact R.hk
 .rw[hd2];exact R.dlt
omit [aA] in
theorem aTr [aA]{π:Pi}{b n:Nat}(hb:π n=π b){c:CV}{v:Value}(h:c.rel π v):(aMR b n c).rel π v:=by
 have e:∀x,π (aMQ b n x)=π x:=λx=>by
  unfold aMQ;split
  .rename_i hx;rw[lB hx];exact hb
  .rfl
 unfold aMR;split
 .simpa only[CV.rel,e] using h
 .simpa only[CV.rel,e] using h
 .simpa only[CV.rel,e] using h
 .exact h
theorem gZ.move (R:gZ X h0 π s a w)(b:Nat):∃π',gZ X h0 π' (aQo X.k b s) a w:=by
 unfold aQo;split
 case h_2=>exact⟨π,R⟩
 rename_i bY Z1
 split
 case h_2=>exact⟨π,R⟩
 rename_i nC
 have nC:=um.1 nC;have hbl:b<s.heap.length:=aEe nC R.hk;generalize hn:s.heap.length=n
 generalize hs1:({s with heap:=s.heap.set b none++[some bY],dh:=mark X.k b s.dh}:St)=s1
 have Z4:jJ X.k [.kill b,.new n bY] s=some s1:=by
  have h1:v9 b s.heap.length=true:=um.2 hbl;have h2:z9 n s.heap.length=true:=by rw[hn];exact FE _
  simp[jJ,Up.ok,Up.app,h1,h2,<-hs1]
 have A:=Kf Z4;have hg:=OB Z4;have hz:s.gt.z b=some (aj.size bY):=by show(s.bY b).map aj.size=_;rw[Z1];rfl
 obtain⟨B,s0,e,hp,hle,k1,k2⟩:=R.rel.hp.hp b _ hz
 have aQG:π n=none:=by
  cases hb:π n with
  |none=>rfl
  |some q=>have:=R.dom n (by rw[hb];simp);omega
 have auM:=Ba aQG (B,s0,aj.size bY,e);have hD:b∈s1.dh:=by rw[<-hs1];exact Bc.2 (.inr ⟨rfl,nC⟩)
 have a3h:∀x,x∈s.dh->x∈s1.dh:=λx hx=>by rw[<-hs1];exact Bc.2 (.inl hx)
 have R0:=(R.rel.LU auM (λb' fh=>by simp only[AH];rw[if_neg (by have:=R.hk;omega)])).aKG a3h;have Rg:AH π n (B,s0,aj.size bY,e) b=some (B,s0,aj.size bY,e):=auM _ _ hp;have hp0:X.p0 b=some (B,s0,aj.size bY,e):=by rw[<-R.rel.xU b nC];exact hp
 have R2:=(R0.kill b).new (k:=bY) (b:=n) (pU π n (B,s0,aj.size bY,e)) (by have:=R.hk;omega) hle k1
  (λj hj=>by
   obtain⟨v,hv,hr⟩:=k2 j hj;have hc:s.gt.c b j=aj.get bY j:=by show(match s.bY b with|some k=>if j<k.size then k.get j else .f .u|none=>.f .u:CV)=_;rw[Z1];simp only[hj,lr]
   rw[hc] at hr;exact⟨v,hv,CV.dz auM _ _ hr⟩)
  (λb' s' q' e' mz uo fh i i1 i2 i3 i4=>by
   by_cases eb:b'=b
   .subst eb;simp[Up.gG] at uo
   .exact R0.hp.dj b b' B s0 _ e s' q' e' (λh=>eb h.symm) (by rw[hz];simp) (by simpa[Up.gG,eb] using uo) Rg fh i i1 i2 i3 i4)
  (λ_ i i1 i2=>⟨b,s0,_,e,nC,hD,hp0,i1,i2⟩) (λh=>R.rel.hp.lb b B s0 _ e (by rw[hz];simp) hp h)
 have RS:gZ X h0 (AH π n (B,s0,aj.size bY,e)) s1 a w:=A.aXX R hg R2 (λb' fh=>by
   by_cases e':b'=n
   .exact .inr ⟨by omega,by simp[cH];omega⟩
   .simp only[AH,e',fT] at fh;exact .inl fh) (λx hx=>by
   rw[<-hs1] at hx;rcases Bc.1 hx with h| ⟨rfl,h⟩
   .exact R.dlt x h
   .exact h)
 have M:=RS.a01 (aMR b n) λc v h=>aTr (by rw[pU,Rg]) h
 rw[<-hs1] at M;exact⟨_,M⟩
theorem gZ.aIy (R:gZ X h0 π s a w)(p:Nat×List CK):∃π',gZ X h0 π' (aIy X.k s p) a w:=by
 unfold Ab.aIy;split
 .split
  .exact⟨π,R.a01 aIw λc v h=>ax1 h⟩
  .exact⟨π,R.rows⟩
  .exact R.move _
 split
 .rename_i hx
  have nC:=aZJ hx;generalize hv:AV.r (.c (.sl s.heap.length (.k 0) (.s 0) p.2.length true))=v
  generalize hk:([.a (.s 0) (p.2.map CK.nR)]:aj)=k
  have hk0:aj.size k=0:=by rw[<-hk];simp[aj.size,Sg.size,Sz.val]
  have Z4:jJ X.k [.t p.1 v,.new s.heap.length k] s=some {s with tmps:=s.tmps.set p.1 v,heap:=s.heap++[some k]}:=by
   have h1:v9 p.1 s.tmps.length=true:=by simpa using nC
   have h2:z9 s.heap.length s.heap.length=true:=FE _;simp[jJ,Up.ok,Up.app,h1,h2]
  have A:=Kf Z4;have hg:=OB Z4
  have aQG:π s.heap.length=none:=by
   cases hb:π s.heap.length with
   |none=>rfl
   |some q=>have:=R.dom _ (by rw[hb];simp:π s.heap.length≠none);omega
  have auM:=Ba aQG (0,0,aj.size k,0);have hr:(RV.c CV.nils).rel π (a.tmps.getD p.1 undef):=by have:=R.rel.tm p.1;rwa [show s.gt.t p.1=_ from hx] at this
  have R0:=R.rel.LU auM (λb hb=>by simp only[AH];rw[if_neg (by have:=R.hk;omega)])
  have R1:Rel X (·∈s.dh) (AH π s.heap.length (0,0,aj.size k,0)) ((Up.t p.1 v).gG s.gt) a w:=by
   refine⟨λi=> ?_,R0.nt,R0.df,R0.hp,R0.xU,R0.ft,R0.fr⟩;show(if i=p.1 then v else s.gt.t i).rel _ _;split
   .rename_i e;subst e;subst hv
    exact⟨_,_,_,_,pU _ _ _,by simp[cG.val,Sz.val],λ_=>by simp[cG.val,Sz.val,hk0],.inl ⟨rfl,none,hr⟩⟩
   .exact R0.tm i
  have R2:=R1.new (k:=k) (pU π s.heap.length (0,0,aj.size k,0)) R.hk (by omega) (λi h1 h2=>by omega) (λj hj=>by omega) (λb' s' q' e' _ _ _ i h1 h2=>by omega) (λ_ i h1 h2=>by omega)
  exact⟨_,A.aXX R hg R2 (λb hb=>by
   by_cases e:b=s.heap.length
   .exact .inr ⟨by omega,by simp[cH];omega⟩
   .simp only[AH,e,fT] at hb;exact .inl hb) R.dlt⟩
 .exact⟨π,R⟩
theorem gZ.nils:∀(l:List (Nat×List CK)) {s:St} {π:Pi},gZ X h0 π s a w->∃π',gZ X h0 π' (l.foldl (Ab.aIy X.k) s) a w
 | [],_,π,R=>⟨π,R⟩
 |p::l,_,_,R=>let⟨_,R'⟩:=R.aIy p;gZ.nils l R'
theorem gZ.abN (I:In X h0)(R:gZ X h0 π s a w){h:Hd}(hh:s.abN X.k h=some s'):∃π',gZ X h0 π' s' a w:=by
 obtain⟨π1,R1⟩:=gZ.nils h.nils (gZ.aEo h.aEo R);exact R1.gc I (cR _) hh
theorem gZ.head (I:In X h0)(R:gZ X h0 π s a w){hs:Hs}{c:Code}(h:s.head X.k hs c=some s'):∃π',gZ X h0 π' s' a w:=by
 unfold St.head at h;split at h
 .exact R.gc I (cR _) h
 .split at h
  .exact R.gc I (cR _) h
  .exact R.abN I h
def a02:AX->Exit
 |.nrm=>.normal
 |.ex id=>.exit id
 |.ret=>.ret
def aX1 (X:Cx)(h0:List aj){ρ:Type}(K:AX->St->Option ρ)(r:ρ)(Q:Exit->Act->World->Prop):Prop:=
 ∀e s π a w,gZ X h0 π s a w->K e s=some r->Q (a02 e) a w
theorem azT {c:Code}{hd:St->Option St}{ρ:Type}{body:St->(AX->St->Option ρ)->Option ρ}{K:AX->St->Option ρ}{r:ρ}{Q:Exit->Act->World->Prop}
  (hb:∀{s:St} {K:AX->St->Option ρ} {Q:Exit->Act->World->Prop} {π:Pi} {a:Act} {w:World},gZ X h0 π s a w->body s K=some r->aX1 X h0 K r Q->c.wp P Q a w)
  (hh:∀{s s':St} {π:Pi} {a:Act} {w:World},gZ X h0 π s a w->hd s=some s'->∃π',gZ X h0 π' s' a w)(hQ:aX1 X h0 K r Q):
  ∀(n:Nat) {s:St} {π:Pi} {a:Act} {w:World},gZ X h0 π s a w->iter hd body K n s=some r->Code.rounds P c Q n a w
 |0,_,_,_,_,_,h=>by cases h
 |n+1,s,π,a,w,R,h=>by
  have h:(body s λe s=>match e with
    |.nrm=>match hd s with
     |none=>none
     |some s=>yo s (iter hd body K n)
    |e=>K e s)=some r:=h
  simp only[LS] at h;rw[rounds_succ];refine hb R h λe s2 π2 a2 w2 R2 hK=> ?_;cases e with
  |nrm=>
   simp only at hK;split at hK
   .cases hK
   .rename_i s3 hs3
    obtain⟨π3,R3⟩:=hh R2 hs3;exact azT hb hh hQ n R3 hK
  |ex id=>exact hQ _ _ _ _ _ R2 hK
  |ret=>exact hQ _ _ _ _ _ R2 hK
def Oq (P:Program)(E:Env)(hs:Hs)(nt kk lf:Nat)(a:Code):Prop:=
 ∀σ,ap6 hs a=some σ->σ.kk=kk->∀{ρ:Type} (s:St) (K:AX->St->Option ρ) (r:ρ),σ.run s K=some r->∃n,iter (λt=>t.head kk hs a) (HG P E hs nt kk lf a) K n s=some r
def auq (P:Program)(E:Env)(hs:Hs)(nt kk lf:Nat)(b:Code):Prop:=
 ∀j,azC hs b=some j->j.sm.kk=kk->∀{ρ:Type} (s:St) (K:AX->St->Option ρ) (r:ρ),j.sm.run s K=some r->HG P E hs nt kk lf b s K=some r
def LG (P:Program)(E:Env)(hs:Hs)(nt kk lf:Nat):Code->Prop
 |.seq a b=>auq P E hs nt kk lf b/\LG P E hs nt kk lf a/\LG P E hs nt kk lf b
 |.cond _ a b=>LG P E hs nt kk lf a/\LG P E hs nt kk lf b
 |.block _ a=>LG P E hs nt kk lf a
 |.loop a=>Oq P E hs nt kk lf a/\LG P E hs nt kk lf a
 |_=>True
omit [aA] in
theorem aTs {hd:List Hd}{d0:List Nat}{jn:List Jn}{rk:Option Hd}(a:Code):ap6 ⟨hd,[],d0,jn,rk⟩ a=none:=by
 unfold ap6;split<;>rfl
omit [aA] in
theorem aTt {hd:List Hd}{sm:List Sm}{d0:List Nat}{rk:Option Hd}(a:Code):azC ⟨hd,sm,d0,[],rk⟩ a=none:=rfl
omit [aA] in
theorem LG.nil (P:Program)(E:Env)(hd:List Hd)(d0:List Nat)(nt kk lf:Nat)(c:Code):LG P E ⟨hd,[],d0,[],none⟩ nt kk lf c:=by
 induction c with
 |seq a b iha ihb=>exact⟨(λj h=>by rw[aTt] at h;cases h),iha,ihb⟩
 |cond x a b iha ihb=>exact⟨iha,ihb⟩
 |block id a iha=>exact iha
 |loop a iha=>exact⟨(λσ h=>by rw[aTs] at h;cases h),iha⟩
 |_=>trivial
def BQ {α:Type}(p:α->Prop):List α->Prop
 | []=>True
 |a::l=>p a/\BQ p l
omit [aA] in
theorem BQ.append {α:Type}{p:α->Prop}:∀{l m:List α},BQ p (l++m)->BQ p l/\BQ p m
 | [],_,h=>⟨trivial,h⟩
 |_::_,_,⟨h1,h2⟩=>⟨⟨h1,(BQ.append h2).1⟩,(BQ.append h2).2⟩
omit [aA] in
theorem LG.of {P:Program}{E:Env}{hs:Hs}{nt kk lf:Nat}{c:Code}(h:BQ (Oq P E hs nt kk lf) (LD c))(hj:BQ (auq P E hs nt kk lf) (LF hs c)):LG P E hs nt kk lf c:=by
 induction c with
 |seq a b iha ihb=>
  obtain⟨j1,j2⟩:=BQ.append hj;refine⟨λj hjn=> ?_,iha (BQ.append h).1 (BQ.append j2).1,ihb (BQ.append h).2 (BQ.append j2).2⟩;rw[hjn] at j1;exact j1.1 j hjn
 |cond x a b iha ihb=>exact⟨iha (BQ.append h).1 (BQ.append hj).1,ihb (BQ.append h).2 (BQ.append hj).2⟩
 |block id a iha=>exact iha h hj
 |loop a iha=>exact⟨h.1,iha h.2 hj⟩
 |_=>trivial
def S5 {D X ρ:Type}(step:D->(D->Option ρ)->(X->Option ρ)->Option ρ)(n:Nat):D->(X->Option ρ)->Option ρ:=
 Nat.rec (motive:=λ_=>D->(X->Option ρ)->Option ρ) (λ_ _=>none) (λ_ ih d x=>step d (λd=>ih d x) x) n
theorem BS (hE:∀f F,E f=some F->Sound P f F)(hm:P.follows .mixedOrders=true)(I:In X h0){hs:Hs}{nt lf:Nat}(ZD:nt<=X.N){ρ:Type}{r:ρ}:
  ∀(c:Code),LG P E hs nt X.k lf c->∀{s:St} {K:AX->St->Option ρ} {Q:Exit->Act->World->Prop} {π:Pi} {a:Act} {w:World},gZ X h0 π s a w->HG P E hs nt X.k lf c s K=some r->aX1 X h0 K r Q->c.wp P Q a w
 |.skip,hS,s,K,Q,π,a,w,R,h,hQ=>wp_skip (hQ .nrm _ _ _ _ R h)
 |.region id ops false,hS,s,K,Q,π,a,w,R,h,hQ=>by
  obtain⟨s1,dG,hT,hK⟩:=LY (by rw[R.len];exact ZD) (show LO P E nt X.k ops.toList ops.toList s [] (λs _=>K .nrm s)=some r from h);exact aKO hE hT R λa' w' π' R'=>hQ .nrm _ _ _ _ R' hK
 |.region id ops true,hS,s,K,Q,π,a,w,R,h,hQ=>by
  obtain⟨s1,dG,hT,hK⟩:=LY (by rw[R.len];exact ZD) (show LO P E nt X.k ops.toList ops.toList s [] (λs l=>match Rc ops.toList 0&&Rb (LN ops.toList []) l 0 with
   |true=>K .nrm s
   |false=>none)=some r from h)
  split at hK
  .rename_i hok
   simp only[cK,List.nil_append] at hok;exact aKN hE hm hT hok.1 hok.2 R λa' w' π' R'=>hQ .nrm _ _ _ _ R' hK
  .cases hK
 |.seq x y,hS,s,K,Q,π,a,w,R,h,hQ=>by
  refine wp_seq (BS hE hm I ZD x hS.2.1 R (show HG P E hs nt X.k lf x s (λe s=>match e with
   |.nrm=>match azC hs y with
    |none=>HG P E hs nt X.k lf y s K
    |some j=>match s.abN X.k j.hd with
     |none=>none
     |some s=>yo s λs=>match z9 j.sm.kk X.k with
      |true=>j.sm.run s K
      |false=>none
   |e=>K e s)=some r from h) λe s1 π1 a1 w1 R1 hK=> ?_)
  cases e with
  |nrm=>
   simp only at hK;split at hK
   .exact BS hE hm I ZD y hS.2.2 R1 hK hQ
   .rename_i j hj
    simp only[LS] at hK;split at hK
    .cases hK
    .rename_i s2 Wr
     split at hK
     .rename_i hk
      obtain⟨π2,R2⟩:=R1.abN I Wr;exact BS hE hm I ZD y hS.2.2 R2 (hS.1 j hj (beq_iff.1 hk) s2 K r hK) hQ
     .cases hK
  |ex id=>exact hQ _ _ _ _ _ R1 hK
  |ret=>exact hQ _ _ _ _ _ R1 hK
 |.cond (.tmp t) x y,hS,s,K,Q,π,a,w,R,h,hQ=>by
  have h:(match s.tmp t with
   |.r (.c (.f (.b z)))=>match z with
    |true=>HG P E hs nt X.k lf x s K
    |false=>HG P E hs nt X.k lf y s K
   |_=>none)=some r:=h
  split at h
  .rename_i z hz
   have hr:=R.rel.tm t;rw[show s.gt.t t=_ from hz] at hr;have hc:a.eval (.tmp t)=.bool z:=hr;cases z with
   |true=>exact wp_cond_true hc (BS hE hm I ZD x hS.1 R h hQ)
   |false=>exact wp_cond_false hc (BS hE hm I ZD y hS.2 R h hQ)
  .cases h
 |.block id x,hS,s,K,Q,π,a,w,R,h,hQ=>by
  refine wp_block (BS hE hm I ZD x hS R (show HG P E hs nt X.k lf x s (λe s=>match e with
   |.ex j=>match z9 j id with
    |true=>K .nrm s
    |false=>K (.ex j) s
   |e=>K e s)=some r from h) λe s1 π1 a1 w1 R1 hK=> ?_)
  cases e with
  |nrm=>exact hQ _ _ _ _ _ R1 hK
  |ret=>exact hQ _ _ _ _ _ R1 hK
  |ex j=>
   simp only at hK;show if j=id then Q .normal a1 w1 else Q (.exit j) a1 w1
   split at hK
   .rename_i hj
    rw[if_pos (lB hj)];exact hQ .nrm _ _ _ _ R1 hK
   .rename_i hj
    rw[if_neg (λe=>by subst e;simp at hj)];exact hQ (.ex j) _ _ _ _ R1 hK
 |.loop x,hS,s,K,Q,π,a,w,R,h,hQ=>by
  have h:(match s.head X.k hs x with
   |none=>none
   |some s=>yo s λs=>match ap6 hs x with
    |some σ=>match z9 σ.kk X.k with
     |true=>σ.run s K
     |false=>none
    |none=>iter (λt=>t.head X.k hs x) (HG P E hs nt X.k lf x) K lf s)=some r:=h
  simp only[LS] at h;split at h
  .cases h
  .rename_i s1 hs1
   obtain⟨π1,R1⟩:=R.head I hs1
   obtain⟨n,hn⟩:∃n,iter (λt=>t.head X.k hs x) (HG P E hs nt X.k lf x) K n s1=some r:=by
    split at h
    .rename_i σ hσ
     split at h
     .rename_i hk
      exact hS.1 σ hσ (beq_iff.1 hk) s1 K r h
     .cases h
    .exact⟨lf,h⟩
   exact wp_loop_rounds n (azT (hd:=λt=>t.head X.k hs x) (body:=HG P E hs nt X.k lf x) (λR h hQ=>BS hE hm I ZD x hS.2 R h hQ) (λR' h'=>R'.head I h') hQ n R1 hn)
 |.exit id,hS,s,K,Q,π,a,w,R,h,hQ=>wp_exit (hQ (.ex id) _ _ _ _ R h)
 |.ret,hS,s,K,Q,π,a,w,R,h,hQ=>by
  have h:(match hs.rk with
   |none=>K .ret s
   |some hd=>match s.abN X.k hd with
    |none=>none
    |some s=>yo s λs=>K .ret s)=some r:=h
  split at h
  .exact wp_ret (hQ .ret _ _ _ _ R h)
  .simp only[LS] at h;split at h
   .cases h
   .rename_i s2 Wr
    obtain⟨π2,R2⟩:=R.abN I Wr;exact wp_ret (hQ .ret _ _ _ _ R2 h)
 |.cond (.const _) _ _,_,_,_,_,_,_,_,_,h,_=>by cases h
 |.cond (.func _) _ _,_,_,_,_,_,_,_,_,h,_=>by cases h
 |.cond (.global _) _ _,_,_,_,_,_,_,_,_,h,_=>by cases h
 |.goto _,_,_,_,_,_,_,_,_,h,_=>by cases h
 |.label _,_,_,_,_,_,_,_,_,h,_=>by cases h
end
end Go.Ab
namespace Go.Ab
variable [aA]
section
variable {P:Program} {E:Env} {X:Cx} {h0:List aj} {π:Pi} {s s':St} {a:Act} {w:World}
def aSG (tmps:Array Value):ResultVar->Sem Value
 |.tmp t=>pure (tmps.getD t undef)
 |.cell a t=>do loadVar t (<-asAddr (tmps.getD a undef))
omit [aA] in
theorem aNs (fn:Func)(tmps:Array Value):results fn tmps=(do
  let vs<-fn.results.mapM (aSG tmps)
  pure (if h:vs.size=1 then vs[0] else .tuple vs)):=by
 unfold results;rfl
theorem aTu (R:gZ X h0 π s a w){r:ResultVar}{v:RV}(h:aSu P s r=some v):∃x,(aSG a.tmps r).run P w=.ok x w/\v.rel π x:=by
 cases r with
 |tmp t=>
  simp only[aSu] at h;split at h
  .rename_i u hu
   cases h;have:=R.rel.tm t;rw[show s.gt.t t=_ from hu] at this;exact⟨_,rfl,this⟩
  .cases h
 |cell q t=>
  simp only[aSu] at h;split at h
  .rename_i b o m hu
   have hp:=R.rel.tm q;rw[show s.gt.t q=_ from hu] at hp;obtain⟨B,s1,q1,e,hb,hx,hm⟩:=hp
   have key:∀v l,aI (ZW P t b o m) s.gt v l->∃x,(aSG a.tmps (.cell q t)).run P w=.ok x w/\v.rel π x:=λv l hv=>by
    obtain⟨x,hx1,hx2⟩:=aI.ZW R.rel hv hb hm;refine⟨x,?_,hx2⟩;show(do loadVar t (<-asAddr (a.tmps.getD q undef))).run P w=_;rw[hx];simpa[asAddr] using hx1
   split at h
   .rename_i n' bY c h1 h2 h3
    split at h
    .rename_i hle
     simp only[mI] at h;obtain⟨k,hk,rfl⟩:=h;obtain⟨k1,k2⟩:=Oy hk;refine key _ (.c b (ext (.k c) (.l 1) n'):: .z b::[]) ?_;unfold Ab.ZW;rw[h1,h2];show aI ((cL (Nat.ble n' m)).bind _) _ _ _;unfold cL;rw[hle];refine aI.test (aI.vw _ _ (St.aqc h3) k1 (λhle j hj=> ?_) (.ret _ _));rw[k2 hle j hj];exact(St.aSw h3 (by simp only[cG.val] at hle;omega)).symm
    .cases h
   .rename_i n' bY c h1 h2 h3
    split at h
    .rename_i hle
     split at h
     .rename_i v0 hk
      cases h;obtain⟨k1,k2⟩:=Oy hk;refine key _ (.c b (ext (.k c) (.l 1) 1):: .z b::[]) ?_;unfold Ab.ZW;rw[h1,h2];show aI ((cL (Nat.ble 1 m)).bind _) _ _ _;unfold cL;rw[hle];refine aI.test (aI.vw _ _ (St.aqc h3) k1 (λhle j hj=> ?_) (.ret _ _));rw[k2 hle j hj];exact(St.aSw h3 (by simp only[cG.val] at hle;omega)).symm
     .cases h
    .cases h
   .cases h
  .cases h
theorem aE8 (R:gZ X h0 π s a w):∀{l:List ResultVar} {vs:List RV},axN P s l=some vs->∃xs,(l.mapM (aSG a.tmps)).run P w=.ok xs w/\bu (RV.rel π) vs xs
 | [],vs,h=>by cases h;exact⟨[],by simp,trivial⟩
 |r::l,vs,h=>by
  simp only[axN] at h;split at h
  .rename_i v j6 h1 h2
   cases h;obtain⟨x,e1,r1⟩:=aTu R h1;obtain⟨xs,e2,r2⟩:=aE8 R h2;exact⟨x::xs,by simp[List.mapM_cons,e1,e2],r1,r2⟩
  .cases h
theorem aKP (R:gZ X h0 π s a w){fn:Func}{vs:List RV}(h:axN P s fn.results.toList=some vs):∃x,(results fn a.tmps).run P w=.ok x w/\(one vs).rel π x:=by
 obtain⟨xs,e,r⟩:=aE8 R h;have hlen:=r.length;rw[aNs];simp only[Array.mapM_eq_mapM_toList,Sem.run_bind,Sem.run_map,e,Result.andThen_ok,Sem.run_pure];match vs,xs,r with
 | [],[],r=>exact⟨_,rfl,#[],by simp,trivial⟩
 | [v],[x],r=>exact⟨x,by simp,r.1⟩
 |v::v'::vs,x::x'::xs,r=>exact⟨_,by simp,(x::x'::xs).toArray,rfl,r⟩
omit [aA] in
theorem aIS {α:Type}:∀{l:List (Option α)} {m:List α},aEs l=some m->l=m.map some
 | [],m,h=>by cases h;rfl
 |some x::l,m,h=>by
  simp only[aEs,mI] at h;obtain⟨m',h1,rfl⟩:=h;rw[aIS h1];rfl
 |none::l,m,h=>by cases h
omit [aA] in
theorem aIT (d:List Nat):∀(l:List (Option aj)) (j0 j:Nat),(aiz d l j0)[j]? =(l[j]?).map λb=>match d.any (z9 (j0+j)) with
  |false=>Ch.my
  |true=>match b with
   |some b=>.set b
   |none=>.kill
 | [],_,_=>by simp[aiz]
 |b::l,j0,0=>by simp[aiz];rfl
 |b::l,j0,j+1=>by
  simp only[aiz,List.getElem?_cons_succ];rw[aIT d l (j0+1) j,show j0+1+j=j0+(j+1) by omega]
omit [aA] in
theorem any_beq {d:List Nat}{j:Nat}:d.any (z9 j)=true↔j∈d:=by
 rw[abI];constructor
 .rintro ⟨y,hy,he⟩;rw[lB he];exact hy
 .exact λh=>⟨j,h,FE j⟩
omit [aA] in
theorem azU (d:List Nat):∀(h:List aj) (l:List (Option aj)) (j0:Nat),l.length=h.length->(∀j b,j0+j∉d->l[j]? =some b->b=h[j]?)->after h (aiz d l j0)=l
 | [],[],_,_,_=>rfl
 |b::bs,o::l,j0,hl,hk=>by
  have ih:=azU d bs l (j0+1) (by simpa using hl) λj b h1 h2=>by
   have:=hk (j+1) b (by rwa [show j0+(j+1)=j0+1+j by omega]) (by simpa using h2);simpa using this
  simp only[aiz];cases hd:d.any (z9 j0) with
  |false=>
   have hn:j0∉d:=λh=>by rw[any_beq.2 h] at hd;cases hd
   have:=hk 0 o (by simpa using hn) rfl;simp only[aEa] at this;subst this;simp[after,ih]
  |true=>
   cases o with
   |none=>simp[after,ih]
   |some b'=>simp[after,ih]
abbrev aIU (_:Program)(π:Pi)(w0:World)(h:List aj)(res:pe):Ending->World->Prop:=tu π w0 h res
theorem aQH (I:In X h0)(R:gZ X h0 π s a w){fn:Func}{e:AX}{res:pe}(h:fin P fn X.k e s=some res):bodyPost P fn (aIU P X.p0 X.w0 h0 res) (a02 e) a w:=by
 have main:(match axN P s fn.results.toList with
  |none=>none
  |some vs=>
   let x:=gcA X.k (one vs) []
   let y:=gcO X.k s.dh X.k (s.heap.take X.k) 0 x.2
   match gcN X.k s.heap 1000 0 y.2 [] with
   |some z=>match aEs z.1 with
    |some news=>some {val:=x.1,yF:=aiz s.dh y.1 0,news}
    |none=>none
   |none=>none)=some res->a.defers=[]/\∃v,(results fn a.tmps).run P w=.ok v w/\aIU P X.p0 X.w0 h0 res (.returned v) w:=by
  intro h;split at h
  .cases h
  rename_i vs hvs
  simp only at h;split at h
  .rename_i z hz
   split at h
   .rename_i news a1X
    cases h;obtain⟨v,nP,hv⟩:=aKP R hvs;have G:=ax0 X.k (one vs) [];have ok0:=G.ok ⟨List.nodup_nil,λ_ h=>by cases h⟩;obtain⟨q1,q2,q3,q4,q5⟩:=aNq I R (cR _) R.hk ok0 hz;have hz1:=aIS a1X;obtain⟨o1,o2,o3,o4⟩:=ao0 X.k s.dh X.k (s.heap.take X.k) 0 (gcA X.k (one vs) []).2;generalize hy:gcO X.k s.dh X.k (s.heap.take X.k) 0 (gcA X.k (one vs) []).2=y at*
    have hyl:y.1.length=X.k:=by rw[o3];have:=R.hk;simp;omega
    have hhl:=I.k
    have hnl:z.2.length=news.length:=by
     have e1:(y.1++z.1).length=y.1.length+z.1.length:=by simp
     have e2:z.1.length=news.length:=by rw[hz1];simp
     omega
    have aZK:after h0 (aiz s.dh y.1 0)=y.1:=azU s.dh h0 y.1 0 (by omega) λj b h1 h2=>by
     have hj:j<y.1.length:=(lA.1 h2).1;have h3:=q4 j (by omega) (by omega) (by simpa using h1);rw[Uw hj,h2] at h3;have h4:=R.drt j (by omega) (by simpa using h1);rw[<-h4,<-h3];rfl
    have a1Y:(⟨(gcA X.k (one vs) []).1,aiz s.dh y.1 0,news⟩:pe).heap h0=y.1++z.1:=by
     unfold pe.heap;simp only;rw[aZK,hz1]
    have aE9:∀B i,Dz X.p0 X.k (·∈s.dh) B i->Dz X.p0 h0.length (SZ (aiz s.dh y.1 0)) B i:=by
     rintro B i ⟨b,s1,qq,e1,hb,hd,hp,i1,i2⟩
     refine⟨b,s1,qq,e1,by omega,?_,hp,i1,i2⟩;unfold SZ;rw[aIT,gD,any_beq.2 hd];have:y.1[b]? =some (y.1[b]'(by omega)):=kt _;rw[this];cases y.1[b]'(by omega)<;>simp
    refine⟨R.rel.df,v,nP,LZ π X.k z.2,v,rfl,λb p hp=> ?_,?_,?_,R.rel.fr.mono λB i _ h=>aE9 B i h,λb hb=> ?_,λb B s1 qq e1 hb hp hB i i1 i2=> ?_⟩
    .have hb:=I.d b (by rw[hp];simp);unfold LZ;rw[if_pos hb,R.rel.xU b hb];exact hp
    .exact AV.dz q1.ext _ _ (G.rel π v hv)
    .rw[a1Y];exact q2
    .unfold LZ at hb;split at hb
     .simp only;omega
     .cases hm:z.2[b-X.k]? with
      |none=>rw[hm] at hb;exact absurd rfl hb
      |some b0=>have:=(lA.1 hm).1;simp only;omega
    .have uG:=hp;unfold LZ at uG;rw[if_neg (by omega)] at uG;cases hm:z.2[b-X.k]? with
     |none=>rw[hm] at uG;cases uG
     |some b0=>
      rw[hm] at uG;have nC:=(lA.1 hm).1
      have hzb:hZ (y.1++z.1) b≠none:=by
       unfold hZ;rw[adG (by omega),hyl,hz1,Ce,kt (show b-X.k<news.length by omega)];simp
      rcases q5 b hzb with⟨h1,_⟩| ⟨b1,h1,h2,h3,h4⟩
      .omega
      .rw[hm] at h2;cases h2;exact aE9 B i (R.rel.ft b0 B s1 qq e1 h3 h4 uG hB i i1 i2)
   .cases h
  .cases h
 cases e with
 |nrm=>exact main h
 |ret=>exact main h
 |ex id=>cases h
def tOf:Option pe->T
 |some r=>.leaf r
 |none=>.fail
theorem aQI (hE:∀f F,E f=some F->Sound P f F)(hm:P.follows .mixedOrders=true){hs:Hs}{lf:Nat}{f:FuncId}(aNt:∀fn c kk,P.funcs[f]? =some fn->fn.body=some c->LG P E hs fn.ntmps kk lf c)(hc:∀args w,(callFunc f args).run P w=.ok (.enter f args) w):Sound P f λargs h=>tOf (den P E hs lf f args h):=by
 intro args h res tv w π vs ln hH jZ;refine .inl ⟨hc _ _,?_⟩
 have tv:den P E hs lf f args h=some res:=by
  have tv:(tOf (den P E hs lf f args h)).eval=some res:=tv;cases hd:den P E hs lf f args h with
  |none=>rw[hd] at tv;cases tv
  |some r=>rw[hd] at tv;exact tv
 unfold den at tv;split at tv
 .cases tv
 rename_i fn hf
 split at tv
 .cases tv
 rename_i c hb
 split at tv
 case h_1=>cases tv
 rename_i aQJ
 have aQJ:∀b,b∈hs.dh->b<h.length:=λb hb=>um.1 (asK.1 aQJ b hb)
 rw[LS] at tv;have hlen:=ln.length;refine calls_of_wp hf hb ?_;let X:Cx:={w0:=w,k:=h.length,p0:=π,N:=(start fn args h hs.dh).tmps.length}
 have I:In X h:=⟨rfl,hH,jZ⟩
 have R:gZ X h π (start fn args h hs.dh) {tmps:=vs++Array.replicate (fn.ntmps-vs.size) undef,defers:=[]} w:=by
  refine⟨⟨λi=> ?_,by simp[X,start];simp at hlen;omega,rfl,hH,λ_ _=>rfl,λb B s q e hk hz hp=> ?_,cx.refl _ _⟩,rfl,λb hb=>by simpa[start] using jZ b hb,λb hb _=> ?_,by simp[start,X],λb hb=>aQJ b hb⟩
  .show(ak3 (args++List.replicate (fn.ntmps-args.length) udf) i).rel π ((vs++Array.replicate (fn.ntmps-vs.size) undef).getD i undef);rw[A9];simp only[Wi] at hlen;rw[ap7];simp only[List.getD];rcases mJ i args.length with hi|hi
   .have e1:args[i]? =some (args[i]'hi):=kt _;obtain⟨x,hx,hr⟩:=ln.get e1;rw[Uw hi,e1,Array.getElem?_append_left (by omega),<-Wh,hx];exact hr
   .rw[adG hi,Array.getElem?_append_right (by omega),List.getElem?_replicate,Array.getElem?_replicate,hlen];split<;>exact asX π
  .exact absurd (jZ b (by rw[hp];simp)) (by simp only[X] at hk;omega)
  .show((h.map some)[b]?).getD none=h[b]?;rw[Ce];cases h[b]? <;>rfl
 exact BS hE hm I (nt:=fn.ntmps) (by simp[X,start];omega) c (aNt fn c h.length hf hb) R tv λe s π a w R hK=>aQH I R hK
structure pe.wk (h:List aj)(r r':pe):Prop where
 val:r.val=r'.val
 news:r.news=r'.news
 yF:∀(j:Nat) (b:aj),(after h r.yF)[j]? =some (some b)->∃b':aj,(after h r'.yF)[j]? =some (some b')/\aj.size b'=aj.size b/\∀i,i<aj.size b->aj.get b i=aj.get b' i
 my:∀j:Nat,r.yF[j]? =some .my->r'.yF[j]? =some .my
omit [aA] in
theorem pe.wk.refl (h:List aj)(r:pe):r.wk h r:=⟨rfl,rfl,λj b hb=>⟨b,hb,rfl,λ_ _=>rfl⟩,λ_ h=>h⟩
theorem Sound.weaken {f:FuncId}{F F0:Fz}(S:Sound P f F0)(hw:∀args h r,(F args h).eval=some r->∃r',(F0 args h).eval=some r'/\r.wk h r'):Sound P f F:=by
 intro args h res tv w π vs ln hH jZ;obtain⟨r',hr',W⟩:=hw args h res tv
 suffices key:∀e w',tu π w h r' e w'->tu π w h res e w' by
  rcases S args h r' hr' w π vs ln hH jZ with⟨S1,S2⟩| ⟨v,S1,S2⟩
  .exact .inl ⟨S1,Calls.mono S2 key⟩
  .exact .inr ⟨v,S1,key _ _ S2⟩
 rintro e w' ⟨π',v,rfl,hx,hv,hH',hF,hd,hi⟩
 have aE9:∀B i,Dz π h.length (SZ r'.yF) B i->Dz π h.length (SZ res.yF) B i:=by
  rintro B i ⟨b,s1,qq,e1,hb,hD,hp,i1,i2⟩
  exact⟨b,s1,qq,e1,hb,λhk=>hD (W.my b hk),hp,i1,i2⟩
 have src:∀b n,hZ (res.heap h) b=some n->∃k k',(res.heap h)[b]? =some (some k)/\aj.size k=n/\(r'.heap h)[b]? =some (some k')/\aj.size k'=n/\∀i,i<n->aj.get k i=aj.get k' i:=λb n hn=>by
  unfold hZ at hn;cases hg:(res.heap h)[b]? with
  |none=>rw[hg] at hn;cases hn
  |some o=>
   rw[hg] at hn;cases o with
   |none=>cases hn
   |some k=>
    have hkn:aj.size k=n:=by simpa using hn
    rcases mJ b h.length with hb|hb
    .rw[Ea hb] at hg;obtain⟨k',h1,h2,h3⟩:=W.yF b k hg;exact⟨k,k',rfl,hkn,by rw[Ea hb];exact h1,by omega,λi hi=>h3 i (by omega)⟩
    .refine⟨k,k,rfl,hkn,?_,hkn,λ_ _=>rfl⟩;unfold pe.heap at hg ⊢;rw[adG (by rw[m9];exact hb),m9] at hg ⊢;rw[<-W.news];exact hg
 refine⟨π',v,rfl,hx,by rw[W.val];exact hv,⟨hH'.am,λb B s1 q1 e1 hz hp BP=> ?_,λb n hn=> ?_,λb b' B s1 q1 e1 s2 q2 e2 mz hz uo=> ?_⟩,hF.mono λB i _ h=>aE9 B i h,by rw[W.news];exact hd,λb B s1 qq e1 hb hp hB i i1 i2=>aE9 B i (hi b B s1 qq e1 hb hp hB i i1 i2)⟩
 .cases hn:hZ (res.heap h) b with
  |none=>exact absurd hn hz
  |some n=>
   obtain⟨k,k',_,_,h3,_⟩:=src b n hn;exact hH'.lb b B s1 q1 e1 (by rw[Z9 h3];simp) hp BP
 .obtain⟨k,k',h1,h2,h3,h4,h5⟩:=src b n hn;have hz:hZ (r'.heap h) b=some n:=by rw[<-h4];exact Z9 h3
  obtain⟨B,s1,e1,hp,hle,m1,m2⟩:=hH'.hp b n hz;refine⟨B,s1,e1,hp,hle,m1,λj hj=> ?_⟩;obtain⟨x,hx1,hx2⟩:=m2 j hj;rw[ags h3 (by omega)] at hx2;exact⟨x,hx1,by rw[ags h1 (by omega),h5 j hj];exact hx2⟩
 .have nn:∀b,hZ (res.heap h) b≠none->hZ (r'.heap h) b≠none:=λb hb=>by
   cases hn:hZ (res.heap h) b with
   |none=>exact absurd hn hb
   |some n=>obtain⟨k,k',_,_,h3,_⟩:=src b n hn;rw[Z9 h3];simp
  exact hH'.dj b b' B s1 q1 e1 s2 q2 e2 mz (nn b hz) (nn b' uo)
end
end Go.Ab
namespace Go.Ab
variable [aA]
open Go.ChangeShapes Go.WideShapes Go.ChangeAt Go.RowKit
def GN (P:Program)(f:FuncId):Bool:=match P.funcs[f]? with
 |some fn=> !(fn.name=="runtime.NumGoroutine")&&fn.body.isSome
 |none=>false
omit [aA] in
theorem IB {P:Program}{f:FuncId}(h:GN P f=true)(args:Array Value)(w:World):(callFunc f args).run P w=.ok (.enter f args) w:=by
 unfold GN at h;split at h
 .rename_i fn hf
  simp only[cK,o7] at h;cases hb:fn.body with
  |none=>rw[hb] at h;cases h.2
  |some c=>
   have h1:fn.name≠"runtime.NumGoroutine":=by simpa using h.1
   simp[callFunc,hf,h1,hb]
 .cases h
def FA:List (Nat×Fz)->Env
 | [],_=>none
 |p::l,f=>match z9 p.1 f with
  |true=>some p.2
  |false=>FA l f
def J9 (P:Program)(l:List (Nat×Fz)):Prop:=∀f F,FA l f=some F->Sound P f F
theorem J9.nil (P:Program):J9 P []:=λ_ _ h=>by cases h
theorem J9.cons {P:Program}{l:List (Nat×Fz)}{f:Nat}{F:Fz}(S:Sound P f F)(h:J9 P l):J9 P ((f,F)::l):=λg G hg=>by
 simp only[FA] at hg;split at hg
 .rename_i hb
  cases hg;rw[<-lB hb];exact S
 .exact h g G hg
noncomputable def inl (P:Program) (l:List (Nat×Fz)) (hs:Hs) (lf:Nat) (f:FuncId):Fz:=λargs h=>tOf (den P (FA l) hs lf f args h)
theorem aTv {P:Program}{l:List (Nat×Fz)}(hl:J9 P l)(hm:P.follows .mixedOrders=true){hs:Hs}{lf:Nat}{f:FuncId}(aNt:∀fn c kk,P.funcs[f]? =some fn->fn.body=some c->LG P (FA l) hs fn.ntmps kk lf c)(hc:GN P f=true):Sound P f (inl P l hs lf f):=
 aQI hl hm aNt (IB hc)
omit [aA] in
theorem aTw {P:Program}{l:List (Nat×Fz)}{hs:Hs}{lf:Nat}{f:FuncId}{args:List AV}{h:List aj}{r:pe}(hd:den P (FA l) hs lf f args h=some r):(inl P l hs lf f args h).eval=some r:=by
 unfold inl;rw[hd];rfl
theorem Sound.by {P:Program}{f:FuncId}{F F0:Fz}(S:Sound P f F0)(h:∀args b r,(F args b).eval=some r->(F0 args b).eval=some r):Sound P f F:=
 S.weaken λargs b r hr=>⟨r,h args b r hr,.refl _ _⟩
omit [aA] in
theorem cx.kept {w w':World}(h:cx w (λ_ _=>False) w'):w.keptBut w' (λ_=>False):=by
 refine⟨h.os,h.output,λi hi=> ?_⟩;cases hh:w.heap[i]? with
 |none=>rw[h.obj i hi (by rw[hh];intro c t fz e;cases e),hh]
 |some x=>
  cases x with
  |cells c t fr=>
   obtain⟨c',e1,e2,e3⟩:=h.row i c t fr hh;rw[e1];exact⟨rfl,rfl,e2,λj _=>e3 j (λf=>f)⟩
  |map es clock=>
   rw[h.obj i hi (by rw[hh];intro c t fz e;cases e),hh];exact .inr ⟨rfl,rfl⟩
  |_=>rw[h.obj i hi (by rw[hh];intro c t fz e;cases e),hh]
omit [aA] in
theorem cx.sameAt {w w':World}(h:cx w (λ_ _=>False) w'){p:MemPlace}(hp:p.block<w.heap.size):w.sameAt w' p:=by
 cases p with
 |cell b off=>exact h.cl hp (λf=>f)
 |map b=>
  show w'.heap[b]? =w.heap[b]?;have hp:b<w.heap.size:=hp;cases hh:w.heap[b]? with
  |none=>rw[h.obj b hp (by rw[hh];intro c t fz e;cases e),hh]
  |some x=>
   cases x with
   |cells c t fr=>
    obtain⟨c',e1,e2,e3⟩:=h.row b c t fr hh;rw[e1];have:c'=c:=Array.ext_getElem? λj=>e3 j (λf=>f)
    rw[this]
   |_=>rw[h.obj b hp (by rw[hh];intro c t fz e;cases e),hh]
section
variable {H:Type} {enc:TypeId×Value->H}
omit [aA] in
theorem aln {P:Program}(hl:laidOutB P=true){W W':World}(hf:cx W (λ_ _=>False) W'){sp:Nat->Bool}:∀{ts:List TypeId} {vs:List Value} {ds:List (DataW H)} {ps:List MemPlace},(∀t∈ts,P.readableRec t=true/\t<P.types.size)->
  DataW.TrodAll enc P W 0 (λ_=>true) true ts vs ds ps->(∀p∈ps,p.block<W.heap.size)->(∀p∈ps,sp p.block=true)->DataW.TrodAll enc P W' 0 sp true ts vs ds ps
 | [],vs,ds,ps,_,h,_,_=>by
  obtain⟨rfl,rfl,rfl⟩:=trodAll_nil h;rfl
 |t::ts,vs,ds,ps,ht,h,h1,h2=>by
  obtain⟨v,vs1,d,ds1,a,b,rfl,rfl,rfl,h3,h4⟩:=trodAll_cons h;refine⟨a,b,WideElems.Trod_stays hl (ht t (by simp)).1 (ht t (by simp)).2 h3 (λp hp=>hf.sameAt (h1 p (by simp[hp]))) (λp hp=>h2 p (by simp[hp])),?_,rfl⟩;exact aln hl hf (λt ht'=>ht t (by simp[ht'])) h4 (λp hp=>h1 p (by simp[hp])) (λp hp=>h2 p (by simp[hp]))
omit [aA] in
theorem aTx {C:Checked}{os:Os}{f:FuncId}{fn:Func}{s:ChangeSpec}{conds:List PathCond}{tb:TypeId}
  (own:ownKnob C.prog.godebug=none)(started:os.Started)(aZL:C.prog.inits.idxOf? f=none)(hfn:C.prog.funcs[f]? =some fn)
  (hl:laidOutB C.prog=true)(tv:fn.resultTypes=#[tb])(htb:C.prog.underlying tb=some .bool)(a03:fn.params.all (λt=>C.prog.readableRec t&&decide (t<C.prog.types.size))=true)(aX2:s.vars=[])
  (a1Z:∀(ds:List (DataW H)),ds.length=fn.params.size->s.fn H ds={results:=[.lit (.bool true)],args:=ds})
  (witness:∃(w:World) (tape:Tape) (i:Input),w.os=os/\(w.forCall tape i).Shaped C.prog/\i.vars=[]/\Input.okWide C.prog (w.forCall tape i) .any w.heap.size f i/\
   s.pre6 enc C.prog fn conds false (w.forCall tape i).memory i.args/\({}:Assume).holds C.prog (lone (Frame.enter C.prog f i.args .normal) [] (w.forCall tape i)))
  (aTy:∀(W:World) (base:Nat) (args:Array Value) (ds:List (DataW H)) (ps:List MemPlace),args.size=fn.params.toList.length->
   (∀(j:Nat) t v,fn.params.toList[j]? =some t->args[j]? =some v->Value.okWide C.prog W .any base t v)->
   DataW.TrodAll enc C.prog W 0 (λ_=>true) true fn.params.toList args.toList ds ps->W.noneFrozen ps->(∀p∈ps,p.block<W.heap.size)->
   conds.all (PathCond.test C.prog ⟨fn.params.toList,ds,s.plain.varTypes C.prog,[]⟩)=true->
   Calls C.prog f args W λe W'=>e=.returned (.bool true)/\cx W (λ_ _=>False) W'):
  ReturnsInHanded {} C os f .any (s.pre6 enc C.prog fn conds false) (s.post enc C.prog fn false true false false):=by
 refine returnsInHanded_of_change own started aZL hfn witness ?_;intro W base args ds gs before aEY hW a3i _;have hW':=hW;obtain⟨p,q,hA,hV,hpq,hfz,hnd⟩:=hW;rw[aX2] at hV;obtain⟨rfl,rfl⟩:=trodVars_none hV;simp only[List.append_nil] at hpq;subst hpq
 have hlen:∀{ts:List TypeId} {vs:List Value} {ds:List (DataW H)} {ps:List MemPlace},DataW.TrodAll enc C.prog W 0 (λ_=>true) true ts vs ds ps->vs.length=ts.length/\ds.length=ts.length:=by
  intro ts;induction ts with
  |nil=>intro vs ds ps h;obtain⟨rfl,rfl,rfl⟩:=trodAll_nil h;exact⟨rfl,rfl⟩
  |cons t ts ih=>intro vs ds ps h;obtain⟨v,vs1,d,ds1,a,b,rfl,rfl,rfl,_,h4⟩:=trodAll_cons h;have:=ih h4;exact⟨by simp[this.1],by simp[this.2]⟩
 obtain⟨l1,l2⟩:=hlen hA;have nC:∀x∈before,x.block<W.heap.size:=λx hx=>hW'.lt x hx
 refine(aTy W base args ds before (by simpa using l1) (λj t v hj hv=>aEY j t v (by rw[<-Wh];exact hj) hv) hA hfz nC (by simpa using a3i)).mono λe W' ⟨he,hg⟩=> ?_;subst he;have hs:=a1Z ds (by simpa using l2)
 have hr:∀t∈fn.params.toList,C.prog.readableRec t=true/\t<C.prog.types.size:=λt ht=>by
  rw[Array.all_eq_true_iff_forall_mem] at a03;have:=a03 t (by simpa using ht);simpa using this
 refine⟨_,rfl,post_of_same (pa:=before) (pv:=[]) hW' (λb sp hd=> ?_) (λsp hsp=> ?_) (λsp _=> ?_) (by simp) (World.keptBut_mono (λ_ f=>f.elim) hg.kept) hg.fzn (ok_one tv rfl (okWide_bool_mk htb _))⟩
 .rw[List.append_nil,hs,tv];exact trodAll_cons_mk (shut_bool htb _) trodAll_mk0
 .rw[List.append_nil,hs];exact aln hl hg hr hA nC hsp
 .rw[List.append_nil,hs,aX2];rfl
end
end Go.Ab
