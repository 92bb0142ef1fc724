/-
  Parts of the proof: AbG AbH AbI AbJ AbK AbL AbN AbR AbT AbU AbV
-/
import Derived.Test.YtldgljclcgaibaaGreatZAC
import Derived.ProofKit
import Derived.OpenShut
open Nat renaming beq→ww,blt→v6
open List renaming range→rx
set_option linter.all false
namespace Go.Ab
variable [ax]
section
variable {P:Program} {g:Gt}
theorem axp {ahO:TypeId->RV->RV->Rd Bool}{D:Nat}(aHQ:∀t x y r l,aH (ahO t x y) g r l->∀(π:Pi) a b (w:World),x.rel π a->y.rel π b->(Op.equalIn D t a b).run P w=.ok r w){xs ys:af}:∀{fs:List Field} {r:Bool} {l:List Fp},aH (aMt P ahO xs ys fs) g r l->
  ∀(π:Pi) (as bs:Array Value) (w:World),bj (CV.rel π) xs.list as.toList->bj (CV.rel π) ys.list bs.toList->(Op.eqFields D as bs fs).run P w=.ok r w
 | [],r,l,h,π,as,bs,w,_,_=>by cases h;simp[Op.eqFields]
 |f::fs,r,l,h,π,as,bs,w,ha,hb=>by
  simp only[aMt] at h;split at h
  .rename_i hn
   obtain⟨x,⟨_,h1⟩,_,h⟩:=aH.bind' h;obtain⟨y,⟨_,h2⟩,_,h⟩:=aH.bind' h;obtain⟨r1,⟨_,h3⟩,_,h⟩:=aH.bind' h;obtain⟨r2,⟨_,h4⟩,_,h⟩:=aH.bind' h;cases h;obtain⟨u,hu,hru⟩:=h1.NP ha w;obtain⟨v,hv,hrv⟩:=h2.NP hb w;have e3:=aHQ _ _ _ _ _ h3 π u v w hru hrv;have e4:=axp aHQ h4 π as bs w ha hb;simp only[Op.eqFields,if_pos hn,Sem.run_bind,hu,hv,e3,Result.andThen_ok];cases r1<;>simp[e4]
  .rename_i hn
   have e4:=axp aHQ h π as bs w ha hb;simp only[Op.eqFields,if_neg hn];exact e4
theorem aHR {ahO:TypeId->RV->RV->Rd Bool}{D:Nat}{e:TypeId}{z:Nat}(aHQ:∀t x y r l,aH (ahO t x y) g r l->∀(π:Pi) a b (w:World),x.rel π a->y.rel π b->(Op.equalIn D t a b).run P w=.ok r w){xs ys:af}:∀{is:List Nat} {r:Bool} {l:List Fp},aH (aWH P ahO e z xs ys is) g r l->
  ∀(π:Pi) (as bs:Array Value) (w:World),bj (CV.rel π) xs.list as.toList->bj (CV.rel π) ys.list bs.toList->
   (forIn is ((none,()):Option Bool×Unit) (λi (_:Option Bool×Unit)=>(do
    let a<-part e as (i*z)
    let b<-part e bs (i*z)
    let c<-Op.equalIn D e a b
    if (!c)=true then pure (ForInStep.done (some false,())) else pure (ForInStep.yield (none,())):Sem (ForInStep (Option Bool×Unit))))).run P w=.ok (if r then(none,()) else(some false,())) w
 | [],r,l,h,π,as,bs,w,_,_=>by cases h;simp
 |i::is,r,l,h,π,as,bs,w,ha,hb=>by
  obtain⟨x,⟨_,h1⟩,_,h⟩:=aH.bind' h;obtain⟨y,⟨_,h2⟩,_,h⟩:=aH.bind' h;obtain⟨r1,⟨_,h3⟩,_,h⟩:=aH.bind' h;obtain⟨r2,⟨_,h4⟩,_,h⟩:=aH.bind' h;cases h;obtain⟨u,hu,hru⟩:=h1.NP ha w;obtain⟨v,hv,hrv⟩:=h2.NP hb w;have e3:=aHQ _ _ _ _ _ h3 π u v w hru hrv;have e4:=aHR aHQ h4 π as bs w ha hb;rw[List.forIn_cons];simp only[Sem.run_bind,hu,hv,e3,Result.andThen_ok];cases r1
  .simp
  .simp only[K0,xr,gA,Sem.run_pure,Result.andThen_ok,GF];exact e4
omit [ax] in
theorem aSZ (c:cP)(j:Nat):iP [c] j=.f (c.at j):=by
 unfold iP;simp[Nat.mod_one]
theorem aM3 {e:TypeId}{c c':cP}{n:Nat}{r:Bool}(hs:ac4 P e [c]=true)(hc:aDp n [c] [c']=some r){D D2:Nat}(hD:D=D2+1)(w:World):∃q:Nat->Bool,r=aR4 n q/\
  ∀i a b,(c.at i).rel a->(c'.at i).rel b->(Op.equalIn D e a b).run P w=.ok (q i) w:=by
 subst hD;unfold ac4 at hs;split at hs
 .rename_i g1 hu hcc
  cases hcc;unfold aDp at hc;split at hc
  .rename_i h1 h2;cases h1
  .rename_i g h h1 h2
   cases h1;cases h2
   cases hc;refine⟨_,rfl,λi a b ha hb=> ?_⟩;have ha:a=.bool (g1 i):=ha;have hb:b=.bool (h i):=hb;subst ha hb;exact run_equalIn_bool w D2 e _ _ hu
  .cases hc
 .rename_i k0 k1 g1 hu hcc
  cases hcc;unfold aDp at hc;split at hc
  .rename_i k g k' h h1 h2
   cases h1;cases h2
   split at hc
   .rename_i hk
    subst hk;cases hc;refine⟨_,rfl,λi a b ha hb=> ?_⟩;have ha:a=.int k1 (g1 i):=ha;have hb:b=.int k1 (h i):=hb;subst ha hb;exact run_equalIn_int w D2 e k1 k0 _ _ hu
   .cases hc
  .rename_i h1 h2;cases h1
  .cases hc
 .cases hs
omit [ax] in
theorem aM4 {e:TypeId}{c:cP}(hs:ac4 P e [c]=true):ac3 P e=some false:=by
 unfold ac4 at hs;unfold ac3;split at hs
 .rename_i hu _;rw[hu]
 .rename_i hu _;rw[hu]
 .cases hs
theorem azc {e:TypeId}{D n:Nat}{c c':cP}{q:Nat->Bool}{w:World}(aSn:ac3 P e=some false)(hq:∀i a b,(c.at i).rel a->(c'.at i).rel b->(Op.equalIn D e a b).run P w=.ok (q i) w){π:Pi}{as bs:Array Value}
  (ha:bj (CV.rel π) (af.list [.a (.l n) [c]]) as.toList)(hb:bj (CV.rel π) (af.list [.a (.l n) [c']]) bs.toList):∀{is:List Nat},(∀i∈is,i<n)->
   (forIn is ((none,()):Option Bool×Unit) (λi (_:Option Bool×Unit)=>(do
    let a<-part e as (i*1)
    let b<-part e bs (i*1)
    let c<-Op.equalIn D e a b
    if (!c)=true then pure (ForInStep.done (some false,())) else pure (ForInStep.yield (none,())):Sem (ForInStep (Option Bool×Unit))))).run P w=.ok (if is.all q then(none,()) else(some false,())) w
 | [],_=>by simp
 |i::is,hi=>by
  have cell:∀{c:cP} {as:Array Value},bj (CV.rel π) (af.list [.a (.l n) [c]]) as.toList->∃x,(part e as (i*1)).run P w=.ok x w/\(c.at i).rel x:=λ{c as} ha=>by
   have hs:af.size [.a (.l n) [c]]=n:=by simp[af.size,Sg.size,Sz.val]
   have hin:=hi i (by simp);obtain⟨x,hx,hr⟩:=(jm ha).2 i (by rw[hs];exact hin);rw[af.dR (by simp[Sg.size,Sz.val];exact hin),Sg.o8,aSZ] at hr;refine⟨x,?_,hr⟩;have:as[i]? =some x:=by simpa using hx
   simp[part,I0 aSn,this]
  obtain⟨u,hu,hru⟩:=cell ha;obtain⟨v,hv,hrv⟩:=cell hb;have e3:=hq i u v hru hrv;have e4:=azc aSn hq ha hb (is:=is) λj hj=>hi j (by simp[hj])
  rw[List.forIn_cons];simp only[Sem.run_bind,hu,hv,e3,Result.andThen_ok];cases hqi:q i
  .simp[hqi]
  .simp only[K0,xr,gA,Sem.run_pure,Result.andThen_ok,List.all_cons,hqi,GF];exact e4
theorem aD5:∀{d:Nat} {t:TypeId} {x y:RV} {r:Bool} {l:List Fp},aH (eqT P d t x y) g r l->∀(D:Nat),d<=D->∀(π:Pi) a b (w:World),x.rel π a->y.rel π b->(Op.equalIn D t a b).run P w=.ok r w
 |0,_,_,_,_,_,h,_,_,_,_,_,_,_,_=>by cases h
 |d+1,t,x,y,r,l,h,D,hD,π,a,b,w,hx,hy=>by
  obtain⟨D',rfl⟩:∃D',D=D'+1:=⟨D-1,by omega⟩;have ih:∀t x y r l,aH (eqT P d t x y) g r l->∀(π:Pi) a b (w:World),x.rel π a->y.rel π b->(Op.equalIn D' t a b).run P w=.ok r w:=λt x y r l h π a b w hx hy=>aD5 h D' (by omega) π a b w hx hy
  unfold eqT at h;split at h
  .rename_i p q hu
   cases h;have hx:a=_:=hx;have hy:b=_:=hy;subst hx hy;exact run_equalIn_bool w D' t p q hu
  .rename_i k0 k p k' q hu
   have hx:a=_:=hx;have hy:b=_:=hy;subst hx hy;split at h
   .rename_i hk
    subst hk;cases h;exact run_equalIn_int w D' t k k0 p q hu
   .cases h
  .rename_i p q hu
   cases h;have hx:a=_:=hx;have hy:b=_:=hy;subst hx hy;rw[run_equalIn_string w D' t p q hu,beq_toListBytes]
  .rename_i e hu
   cases h;have hx:a=_:=hx;have hy:b=_:=hy;subst hx hy;simp[Op.equalIn,run_underlying hu]
  .rename_i e p1 p2 p3 hu
   cases h;obtain⟨B,s,q',e',_,hx,_⟩:=hx;have hy:b=_:=hy;subst hx hy;simp[Op.equalIn,run_underlying hu]
  .rename_i e p1 p2 p3 hu
   cases h;obtain⟨B,s,q',e',_,hy,_⟩:=hy;have hx:a=_:=hx;subst hx hy;simp[Op.equalIn,run_underlying hu]
  .rename_i fs xs ys hu
   split at h
   .cases h
   .rename_i hst
    obtain⟨as,rfl,has⟩:=hx;obtain⟨bs,rfl,hbs⟩:=hy;have hf:P.fieldsOf t=fs:=by simp[Program.fieldsOf,hu]
    rw[run_equalIn_struct w D' t as bs (by rw[hf];exact hu) hst,hf];exact axp ih h π as bs w has hbs
  .rename_i n e xs ys hu
   obtain⟨z,⟨_,h1⟩,_,h⟩:=aH.bind' h;obtain⟨as,rfl,has⟩:=hx;obtain⟨bs,rfl,hbs⟩:=hy
   have e1:List.range' 0 [:n].size=rx n:=by
    rw[List.range_eq_range'];simp[Std.Legacy.Range.size]
   split at h
   .rename_i r' akI
    cases h;unfold aWI at akI;split at akI
    .rename_i m c m' c'
     split at akI
     .rename_i hc
      simp only[cy,beq_iff,fA] at hc;obtain⟨hd1,rfl,rfl,rfl,hsc⟩:=hc
      obtain⟨c0,rfl⟩:∃c0,c=[c0]:=by
       unfold ac4 at hsc;split at hsc
       .exact⟨_,rfl⟩
       .exact⟨_,rfl⟩
       .cases hsc
      obtain⟨c1,rfl⟩:∃c1,c'=[c1]:=by
       unfold aDp at akI;split at akI
       .exact⟨_,rfl⟩
       .exact⟨_,rfl⟩
       .cases akI
      obtain⟨q,hq1,hq2⟩:=aM3 hsc akI (show D'=D'-1+1 by omega) w;have key:=azc (P:=P) (aM4 hsc) hq2 has hbs (is:=rx m') (λi hi=>List.mem_range.1 hi);simp only[Op.equalIn,Sem.run_bind,run_underlying hu,Result.andThen_ok,run_sizeOf h1.ej,Std.Legacy.Range.forIn_eq_forIn_range'];rw[e1,key,hq1];unfold aR4;cases(rx m').all q<;>simp
     .cases akI
    .cases akI
   .have key:=aHR ih h π as bs w has hbs;simp only[Op.equalIn,Sem.run_bind,run_underlying hu,Result.andThen_ok,run_sizeOf h1.ej,Std.Legacy.Range.forIn_eq_forIn_range'];rw[e1,key];cases r<;>simp
  .cases h
theorem aXa {t:TypeId}{x y:RV}{r:Bool}{l:List Fp}(h:aH (eqV P t x y) g r l)(π:Pi)(a b:Value)(w:World)(hx:x.rel π a)(hy:y.rel π b):
  (∀(op:BinOp) (p q:Operand),(eqGuard op t p q a b).run P w=.ok () w)/\(binOp .eql t a b).run P w=.ok (.bool r) w/\(binOp .neq t a b).run P w=.ok (.bool (!r)) w:=by
 unfold eqV at h;split at h
 .rename_i xs ys
  split at h
  .cases h
  .rename_i hg
   obtain⟨as,rfl,has⟩:=hx;obtain⟨bs,rfl,hbs⟩:=hy;have e:=aD5 (x:=.agg xs) (y:=.agg ys) h 10000 (by omega) π (.agg as) (.agg bs) w ⟨as,rfl,has⟩ ⟨bs,rfl,hbs⟩;refine⟨λop p q=>run_eqGuard_agg w op t p q as bs hg,?_,?_⟩
   .rw[run_eql_struct,e];rfl
   .rw[run_neq_struct,e];rfl
 .cases h
 .cases h
 .cases h
 .cases h
 .have e:=aD5 h 10000 (by omega) π a b w hx hy;have e':(Op.equal t a b).run P w=.ok r w:=e;unfold eqT at h;split at h
  .have hx:a=_:=hx;have hy:b=_:=hy;subst hx hy;have:=auf (by intros;simp) (by intros;simp) (by intros;simp) (by intros;simp) e';exact⟨λop p q=>aF9 op t p q _ _ w,this⟩
  .exfalso;simp_all
  .exfalso;simp_all
  .have hx:a=_:=hx;have hy:b=_:=hy;subst hx hy;have:=auf (by intros;simp) (by intros;simp) (by intros;simp) (by intros;simp) e';exact⟨λop p q=>afw op t p q _ _ w,this⟩
  .obtain⟨B,s,q',e',_,hx,_⟩:=hx;have hy:b=_:=hy;subst hx hy;have:=auf (by intros;simp) (by intros;simp) (by intros;simp) (by intros;simp) e;exact⟨λop p q=>afw op t p q _ _ w,this⟩
  .obtain⟨B,s,q',e',_,hy,_⟩:=hy;have hx:a=_:=hx;subst hx hy;have:=auf (by intros;simp) (by intros;simp) (by intros;simp) (by intros;simp) e;exact⟨λop p q=>afw op t p q _ _ w,this⟩
  .exfalso;simp_all
  .exfalso;simp_all
  .cases h
end
end Go.Ab
namespace Go.Ab
variable [ax]
section
variable {P:Program} {E:Env} {X:Cx} {D:Nat->Prop} {g:Gt}
theorem aHS (hE:∀f F,E f=some F->Sound P f F){o:Oper}{aI:Nat}{us:List Up}{fp:List Fp}(h:aH (aop P E o aI) g us fp):Ad P o X D aI us g:=by
 unfold aop at h;simp only[] at h;split at h
 .rename_i x pk;exact aDO (.inl pk) h
 .rename_i x pk;exact aDO (.inr pk) h
 .rename_i c x y pk;exact aQw pk h
 .rename_i e pk;exact aMM pk h
 .rename_i e x pk;exact aSR pk h
 .rename_i t n c pk;exact aBn pk h
 .rename_i t ps pk;exact aMU pk h
 .rename_i t n ps pk;exact axl pk h
 .rename_i t x pk;exact aQx pk h
 .rename_i t x y pk;exact aMN pk h
 .rename_i x pk;exact aDS pk h
 .rename_i op t x y yt pk
  obtain⟨r1,⟨_,h1⟩,_,h⟩:=aH.bind' h;obtain⟨r2,⟨_,h2⟩,_,h⟩:=aH.bind' h;obtain⟨v,⟨_,h3⟩,_,h⟩:=aH.bind' h;cases h;refine iH λπ a w R=> ?_;obtain⟨z,hz,hr⟩:=aSU h3 (λr l hr π a b w hx hy=>aXa hr π a b w hx hy) (h1.vX R) (h2.vX R) x y w;refine⟨z,?_,hr⟩;simp only[execOp,pk];rw[Sem.run_bind,hz];rfl
 .rename_i op t x pk;exact aQy pk h
 .rename_i s d x pk;exact aGa pk h
 .rename_i t x pk;exact aDT pk h
 .rename_i f fs ac2 pk;exact aDU pk h
 .rename_i t x lo hi pk;exact aMR pk h
 .rename_i t x i pk;exact aBl pk h
 .rename_i t x i pk;exact aMO pk h
 .rename_i t x i pk;exact aBm pk h
 .rename_i t x i pk;exact aMQ pk h
 .rename_i x i pk;exact aGb pk h
 .rename_i c pk
  obtain⟨args,⟨l0,h1⟩,_,h⟩:=aH.bind' h;split at h
  .rename_i b hc
   unfold biV at h;split at h
   .exact aSW pk hc h1 rfl h
   .rename_i s x
    obtain⟨t,⟨_,h2⟩,_,h⟩:=aH.bind' h;obtain⟨_,⟨_,h3⟩,_,h⟩:=aH.bind' h;obtain⟨s',⟨_,h4⟩,_,h⟩:=aH.bind' h;obtain⟨x',⟨_,h5⟩,_,h⟩:=aH.bind' h;have h2:=h2.ej;have h3:=h3.cI
    have hts:c.argTypes=#[t,t]:=by
     split at h3
     .rename_i t1 t2 he
      have e:=oZ h3;subst e;have e2:=a2j he;rw[e2] at h2;simp at h2
      rw[e2,h2]
     .cases h3
    exact aJP pk hc h1 rfl hts h4.asC h5.asC h
   .rename_i d x
    obtain⟨t,⟨_,h2⟩,_,h⟩:=aH.bind' h;obtain⟨d',⟨_,h4⟩,_,h⟩:=aH.bind' h;obtain⟨x',⟨_,h5⟩,_,h⟩:=aH.bind' h;exact aQB pk hc h1 rfl h2.ej h4.asC h5.asC h
   .exact aMW (λx y v l h=>aSX h) pk hc (aYY c.argTypes) h1 rfl h
   .exact aMW (λx y v l h=>aSY h) pk hc (aYZ c.argTypes) h1 rfl h
   .cases h
  .rename_i fo hc
   obtain⟨fv,⟨_,h2⟩,_,h⟩:=aH.bind' h;obtain⟨fc,⟨_,h3⟩,_,h⟩:=aH.bind' h
   have aW8:∀(π:Pi) (x:Value),fv.rel π x->∃arr:Array Value,x=.func (.func fc.1) #[] arr/\bj (RV.rel π) fc.2 arr.toList:=by
    unfold aZY at h3;split at h3
    .cases h3;exact λπ x hx=>hx
    .cases h3;rintro π x ⟨B,s,q,e,hb,hx,hle⟩
     exact⟨_,hx,⟨⟨B,s,q,e,hb,rfl,hle⟩,trivial⟩⟩
    .cases h3
   exact aQD hE pk hc h1 h2 aW8 h
  .cases h
 .cases h
end
end Go.Ab
namespace Go.Ab
variable [ax]
inductive aa0 (P:Program) (E:Env) (ops:List Oper) (o:Oper) (aI:Nat) (g:Gt):List Up->List Fp->Prop
 |run {us fp} (hg:o.guard=none) (h:aH (aop P E o aI) g us fp):aa0 P E ops o aI g us fp
 |aSo {us fp} (j:Nat) (want:Bool) (t:Tmp) (hg:o.guard=some (j,want)) (ht:NQ ops j=some t) (hx:g.t t=.r (.c (.f (.b want)))) (h:aH (aop P E o aI) g us fp):aa0 P E ops o aI g us (.t t::fp)
 |skip (j:Nat) (want:Bool) (t:Tmp) (hg:o.guard=some (j,want)) (ht:NQ ops j=some t) (hx:g.t t=.r (.c (.f (.b (!want))))∨g.t t=.tup []):aa0 P E ops o aI g (dV o.dst udf) [.t t]
omit [ax] in
theorem aa0.local {P:Program}{E:Env}{ops:List Oper}{o:Oper}{aI:Nat}{g g':Gt}{us:List Up}{fp:List Fp}(h:aa0 P E ops o aI g us fp)(e:∀f∈fp,∀p,f.has p->g.at p=g'.at p):aa0 P E ops o aI g' us fp:=by
 cases h with
 |run hg h=>exact .run hg (h.local e)
 |aSo j want t hg ht hx h=>
  have e1:g.t t=g'.t t:=by simpa[Gt.at] using e (.t t) (by simp) (.t t) rfl
  exact .aSo j want t hg ht (e1▸hx) (h.local λf hf=>e f (by simp[hf]))
 |skip j want t hg ht hx=>
  have e1:g.t t=g'.t t:=by simpa[Gt.at] using e (.t t) (by simp) (.t t) rfl
  exact .skip j want t hg ht (e1▸hx)
inductive DW (P:Program) (E:Env) (ops:List Oper) (k:Nat):List Oper->St->List Tr->St->Prop
 |nil (s:St):DW P E ops k [] s [] s
 |cons {o rest s s1 s2 us fp tr dS} (hd:∀d,o.dst=some d->d<s.tmps.length) (h:aa0 P E ops o s.heap.length s.gt us fp) (hus:tr.us=us) (hfp:∀f∈fp,f∈tr.fp) (ha:jZ k us s=some s1) (ht:DW P E ops k rest s1 dS s2):DW P E ops k (o::rest) s (tr::dS) s2
omit [ax] in
theorem aos {s:St}{t:Nat}{v:AV}(h:s.tmp t=v):{s with tmps:=s.tmps.set t v}=s:=by
 have:s.tmps.set t v=s.tmps:=by
  apply List.ext_getElem?
  intro i;rw[aDl];by_cases e:t=i
  .subst e;by_cases hl:t<s.tmps.length
   .rw[if_pos rfl,if_pos hl];rw[kE hl];unfold St.tmp at h;rw[Av] at h;simp only[List.getD,kE hl,KY] at h;rw[h]
   .rw[if_pos rfl,if_neg hl,IX (by omega)]
  .rw[if_neg e]
 rw[this]
omit [ax] in
theorem akK {k:Nat}:∀{us:List Up} {s s':St},jZ k us s=some s'->s'.tmps.length=s.tmps.length
 | [],s,s',h=>by simp[jZ] at h;subst h;rfl
 |u::us,s,s',h=>by
  simp only[jZ] at h;split at h
  .rw[akK h];cases u with
   |t i v=>simp[Up.app]
   |c b o v=>simp only[Up.app];split<;>first|rfl|(split<;>rfl)
   |_=>rfl
  .cases h
omit [ax] in
theorem Lc {P:Program}{E:Env}{nt k:Nat}{ops:List Oper}{ρ:Type}:∀{rest:List Oper} {s:St} {l:List Tr} {c:St->List Tr->Option ρ} {r:ρ},nt<=s.tmps.length->K3 P E nt k ops rest s l c=some r->
  ∃s' dS,DW P E ops k rest s dS s'/\c s' (l++dS)=some r
 | [],s,l,c,r,_,h=>⟨s,[],.nil s,by simpa[K3] using h⟩
 |o::rest,s,l,c,r,YP,h=>by
  have go:∀(l0:List Fp) (hd:∀d,o.dst=some d->d<s.tmps.length),(∀us fp,aH (aop P E o s.heap.length) s.gt us fp->∃fp',aa0 P E ops o s.heap.length s.gt us fp'/\∀f∈fp',f∈fp.reverse++l0)->
    ((aop P E o s.heap.length).run s l0 λus fp=>match jZ k us s with
     |some s'=>K3 P E nt k ops rest s' (l++[⟨fp,us⟩]) c
     |none=>none)=some r->∃s' dS,DW P E ops k (o::rest) s dS s'/\c s' (l++dS)=some r:=by
   intro l0 hd pk nZ;obtain⟨us,fp,h1,h2⟩:=Rd.aQu nZ;cases ha:jZ k us s with
   |none=>rw[ha] at h2;cases h2
   |some s1=>
    rw[ha] at h2;obtain⟨s2,dS,t1,t2⟩:=Lc (by rw[akK ha];exact YP) h2;obtain⟨fp',o1,o2⟩:=pk us fp h1;exact⟨s2,⟨fp.reverse++l0,us⟩::dS,.cons hd o1 rfl o2 ha t1,by simpa using t2⟩
  have skip:∀(j:Nat) (want:Bool) (t:Tmp) (hd:∀d,o.dst=some d->d<s.tmps.length),o.guard=some (j,want)->NQ ops j=some t->(s.gt.t t=.r (.c (.f (.b (!want))))∨s.gt.t t=.tup [])->
    (match jZ k (dV o.dst udf) s with
     |some s'=>K3 P E nt k ops rest s' (l++[⟨[.t t],dV o.dst udf⟩]) c
     |none=>none)=some r->∃s' dS,DW P E ops k (o::rest) s dS s'/\c s' (l++dS)=some r:=by
   intro j want t hd hg ht hx nZ;cases ha:jZ k (dV o.dst udf) s with
   |none=>rw[ha] at nZ;cases nZ
   |some s1=>
    rw[ha] at nZ;obtain⟨s2,dS,t1,t2⟩:=Lc (by rw[akK ha];exact YP) nZ;exact⟨s2,⟨[.t t],dV o.dst udf⟩::dS,.cons hd (.skip j want t hg ht hx) rfl (by simp) ha t1,by simpa using t2⟩
  simp only[K3,aMH,aDL,Vr] at h;split at h
  .cases h
  .rename_i hdk
   have hd:∀d,o.dst=some d->d<s.tmps.length:=λd hd=>by
    unfold aWO at hdk;rw[hd] at hdk;have h2:v6 d nt=true:=hdk;exact aDk (tY.1 h2) YP
   split at h
   .rename_i hg
    exact go [] hd (λus fp h=>⟨fp,.run hg h,by simp⟩) h
   .rename_i j want hg
    split at h
    .cases h
    .rename_i t ht
     split at h
     .rename_i x hx
      have goG:s.tmp t=.r (.c (.f (.b want)))->_:=λhx=>go [.t t] hd (λus fp h=>⟨.t t::fp,.aSo j want t hg ht hx h,by simp;intro a ha;exact .inl ha⟩)
      cases x with
      |true=>
       simp only[akF] at h;split at h
       .cases want with
        |true=>
         simp only at h;rw[aos hx] at h;exact goG hx h
        |false=>
         simp only at h;rw[aos hx] at h;exact skip j false t hd hg ht (.inl hx) h
       .cases h
      |false=>
       simp only[akF] at h;split at h
       .cases want with
        |true=>
         simp only at h;rw[aos hx] at h;exact skip j true t hd hg ht (.inl hx) h
        |false=>
         simp only at h;rw[aos hx] at h;exact goG hx h
       .cases h
     .rename_i hx
      exact skip j want t hd hg ht (.inr hx) h
     .cases h
omit [ax] in
theorem Ay {k b:Nat}{d:List Nat}{x:Nat}:x∈mark k b d↔x∈d∨(x=b/\b<k):=by
 unfold mark;split
 .rename_i h
  simp only[cy,Nat.blt_eq] at h;simp only[aaT];constructor
  .rintro (rfl|h1)
   .exact .inr ⟨rfl,h.1⟩
   .exact .inl h1
  .rintro (h1| ⟨rfl,_⟩)
   .exact .inr h1
   .exact .inl rfl
 .rename_i h
  constructor
  .exact .inl
  .rintro (h1| ⟨rfl,hk⟩)
   .exact h1
   .have KO:v6 x k=true:=by simpa using hk
    have:d.any (ww x)=true:=by
     by_cases ha:d.any (ww x)=true
     .exact ha
     .rw[KO] at h;simp_all
    obtain⟨y,hy,he⟩:=aaR.1 this;rw[oZ he];exact hy
structure aJS (k:Nat)(us:List Up)(s s':St):Prop where
 heap:s'.heap.length=s.heap.length+cB us
 tmps:s'.tmps.length=s.tmps.length
 sub:∀b,b∈s.dt->b∈s'.dt
 perm:∀u∈us,u.perm k (·∈s'.dt)
 mT:∀b,b<k->b<s.heap.length->b∉s'.dt->s'.bO b=s.bO b
omit [ax] in
theorem Up.aY2 {k:Nat}{u:Up}{s:St}(h:u.ok s=true):aJS k [u] s (u.app k s):=by
 cases u with
 |t i v=>exact⟨rfl,by simp[Up.app],λ_ h=>h,λu hu=>by simp at hu;subst hu;trivial,λ_ _ _ _=>rfl⟩
 |c b lo vs=>
  simp only[Up.ok] at h;split at h
  .rename_i bO hb
   split at h
   case h_2=>cases h
   rename_i p hp
   have e:(Up.c b lo vs).app k s={s with heap:=s.heap.set b (some p.2),dt:=mark k b s.dt}:=by simp[Up.app,hb,hp]
   rw[e];refine⟨by simp[cB],rfl,λx hx=>Ay.2 (.inl hx),λu hu=> ?_,λb' fw hl hn=> ?_⟩
   .simp at hu;subst hu;exact λhk=>Ay.2 (.inr ⟨rfl,hk⟩)
   .have oe:b'≠b:=λe=>hn (Ay.2 (.inr ⟨e,e▸fw⟩))
    show((s.heap.set b _)[b']?).getD none=_;rw[aud (St.aJL hb),if_neg oe];rfl
  .cases h
 |new b bO=>
  have hb:b=s.heap.length:=oZ h;refine⟨by simp[Up.app,cB],rfl,λ_ h=>h,λu hu=>by simp at hu;subst hu;trivial,λb' _ hl _=> ?_⟩;show((s.heap++[some bO])[b']?).getD none=_;rw[aMD,if_neg (by omega)];rfl
 |kill b=>
  have hb:b<s.heap.length:=by have h:=h;simp[Up.ok,v6] at h;omega
  refine⟨by simp[Up.app,cB],rfl,λx hx=>Ay.2 (.inl hx),λu hu=> ?_,λb' fw hl hn=> ?_⟩
  .simp at hu;subst hu;exact λhk=>Ay.2 (.inr ⟨rfl,hk⟩)
  .have oe:b'≠b:=λe=>hn (Ay.2 (.inr ⟨e,e▸fw⟩))
   show((s.heap.set b none)[b']?).getD none=_;rw[aud hb,if_neg oe];rfl
omit [ax] in
theorem Up.aQF {k:Nat}{D D':Nat->Prop}(h:∀b,D b->D' b){u:Up}(p:u.perm k D):u.perm k D':=by
 cases u<;>first|trivial|exact λhk=>h _ (p hk)
omit [ax] in
theorem I1 {k:Nat}:∀{us:List Up} {s s':St},jZ k us s=some s'->aJS k us s s'
 | [],s,s',h=>by
  simp[jZ] at h;subst h
  exact⟨rfl,rfl,λ_ h=>h,λu hu=>by simp at hu,λ_ _ _ _=>rfl⟩
 |u::us,s,s',h=>by
  simp only[jZ] at h;split at h
  .rename_i hu
   have A:=Up.aY2 (k:=k) hu;have B:=I1 h;refine⟨?_,B.tmps.trans A.tmps,λb hb=>B.sub _ (A.sub b hb),λv hv=> ?_,λb hb hl hn=> ?_⟩
   .rw[B.heap,A.heap,show cB (u::us)=cB [u]+cB us from EE [u] us];omega
   .rcases aaT.1 hv with rfl|hv
    .exact Up.aQF B.sub (A.perm v (by simp))
    .exact B.perm v hv
   .have h1:=A.heap;rw[B.mT b hb (by omega) hn,A.mT b hb hl (λhx=>hn (B.sub b hx))]
  .cases h
end Go.Ab
namespace Go.Ab
variable [ax]
section
variable {P:Program} {E:Env} {X:Cx} {D:Nat->Prop}
theorem aD6 {ops:Array Oper}{o:Oper}{j:Nat}{want:Bool}{t:Tmp}{g:Gt}{π:Pi}{a:Act}{w:World}(R:Rel X D π g a w)(hg:o.guard=some (j,want))(ht:NQ ops.toList j=some t):
  (g.t t=.r (.c (.f (.b want)))->Region.wanted o (yielded ops a.tmps)=true)/\((g.t t=.r (.c (.f (.b (!want))))∨g.t t=.tup [])->Region.wanted o (yielded ops a.tmps)=false):=by
 have hs:(ops[j]?).bind (·.dst)=some t:=by
  unfold NQ at ht;rw[<-Vh];exact ht
 have hr:=R.tm t
 have hy:∀b:Bool,a.tmps.getD t undef=.bool b->yielded ops a.tmps j=some b:=λb hb=>by
  unfold yielded;rw[hs];simp only[bN];rw[apE] at hb;cases hx:a.tmps[t]? with
  |none=>rw[hx] at hb;simp[undef] at hb
  |some x=>rw[hx] at hb;simp at hb;subst hb;rfl
 refine⟨λh=> ?_,λh=> ?_⟩
 .rw[h] at hr;have:=hy want hr;simp[Region.wanted,hg,this]
 .rcases h with h|h
  .rw[h] at hr;have:=hy (!want) hr;simp only[Region.wanted,hg,this];cases want<;>rfl
  .rw[h] at hr;obtain⟨arr,hx,aM5⟩:=hr
   have:yielded ops a.tmps j=none:=by
    unfold yielded;rw[hs];simp only[bN];rw[apE] at hx;cases hy:a.tmps[t]? with
    |none=>rfl
    |some x=>rw[hy] at hx;simp at hx;subst hx;rfl
   simp only[Region.wanted,hg,this];rfl
theorem azd (hE:∀f F,E f=some F->Sound P f F){ops:Array Oper}{i:Nat}{o:Oper}(hi:ops[i]? =some o){aI:Nat}{us:List Up}{fp:List Fp}{g:Gt}(h:aa0 P E ops.toList o aI g us fp)
  {π:Pi}{a:Act}{w:World}(R:Rel X D π g a w)(hk:X.k<=aI)(hfr:∀b,aI<=b->b<aI+cB us->π b=none)(hd:∀d,o.dst=some d->d<X.N)(hp:∀u∈us,u.perm X.k D){K:Act->World->Prop}{Q:Exit->Act->World->Prop}
  (hn:∀a' w' π',Ext π π'->(∀b,π' b≠none->π b≠none∨(aI<=b/\b<aI+cB us))->Rel X D π' (cE us g) a' w'->K a' w'):wpOp P ops Q i K a w:=by
 unfold wpOp;rw[hi];simp only[];cases h with
 |run hg h=>
  have:Region.wanted o (yielded ops a.tmps)=true:=by simp[Region.wanted,hg]
  rw[if_pos this];exact .inl (aHS hE h π a w K Q R hk hfr hd hp hn)
 |aSo j want t hg ht hx h=>
  rw[if_pos ((aD6 R hg ht).1 hx)];exact .inl (aHS hE h π a w K Q R hk hfr hd hp hn)
 |skip j want t hg ht hx=>
  rw[if_neg (by rw[(aD6 R hg ht).2 hx];simp)];exact hn _ _ π (Ext.refl _) (λb h=>.inl h) (R.dst hd (asi π))
structure iA (X:Cx)(h0:List af)(π:Pi)(s:St)(a:Act)(w:World):Prop where
 rel:Rel X (·∈s.dt) π s.gt a w
 len:s.tmps.length=X.N
 dom:∀b,π b≠none->b<s.heap.length
 drt:∀b,b<X.k->b∉s.dt->s.bO b=h0[b]?
 hk:X.k<=s.heap.length
 dlt:∀b,b∈s.dt->b<X.k
theorem aJS.aXb {X:Cx}{h0:List af}{π π':Pi}{s s':St}{us:List Up}{a a':Act}{w w':World}(A:aJS X.k us s s')(R:iA X h0 π s a w)(hg:s'.gt=cE us s.gt)(hR:Rel X (·∈s'.dt) π' (cE us s.gt) a' w')
  (kj:∀b,π' b≠none->π b≠none∨(s.heap.length<=b/\b<s.heap.length+cB us))(hdl:∀b,b∈s'.dt->b<X.k):iA X h0 π' s' a' w':=by
 refine⟨hg▸hR,A.tmps.trans R.len,λb hb=> ?_,λb hb hn=> ?_,?_,hdl⟩
 .rw[A.heap];rcases kj b hb with h|h
  .have:=R.dom b h;omega
  .omega
 .rw[A.mT b hb (aDk hb R.hk) hn];exact R.drt b hb (λh=>hn (A.sub b h))
 .rw[A.heap];have:=R.hk;omega
omit [ax] in
theorem akL {k:Nat}:∀{us:List Up} {s s':St},jZ k us s=some s'->(∀b,b∈s.dt->b<k)->∀b,b∈s'.dt->b<k
 | [],s,s',h,hd,b,hb=>by simp[jZ] at h;subst h;exact hd b hb
 |u::us,s,s',h,hd,b,hb=>by
  simp only[jZ] at h;split at h
  .refine akL h (λb hb=> ?_) b hb;cases u with
   |t i v=>exact hd b hb
   |c b' lo vs=>
    simp only[Up.app] at hb;split at hb
    .split at hb
     .rcases Ay.1 hb with h| ⟨rfl,h⟩
      .exact hd b h
      .exact h
     .exact hd b hb
    .exact hd b hb
   |new b' bO=>exact hd b hb
   |kill b'=>
    rcases Ay.1 hb with h| ⟨rfl,h⟩
    .exact hd b h
    .exact h
  .cases h
theorem aze (hE:∀f F,E f=some F->Sound P f F){h0:List af}{ops:Array Oper}{Q:Exit->Act->World->Prop}{s':St}(hQ:∀a' w' π',iA X h0 π' s' a' w'->Q .normal a' w'):
  ∀{rest:List Oper} {i:Nat} {s:St} {dS:List Tr} {π:Pi} {a:Act} {w:World},DW P E ops.toList X.k rest s dS s'->(∀j,rest[j]? =ops[i+j]?)->iA X h0 π s a w->wpOps P ops Q (List.range' i rest.length) a w
 | [],i,s,dS,π,a,w,h,_,R=>by
  cases h;exact hQ a w π R
 |o::rest,i,s,dS,π,a,w,h,hr,R=>by
  cases h with|@cons _ _ _ s1 _ us fp tr dS hd h hus hfp ha ht=>
  have A:=I1 ha;have hg:=NU ha;have hio:ops[i]? =some o:=by simpa using(hr 0).symm
  rw[KZ,List.range'_succ,wpOps_cons];refine azd hE hio h (R.rel.aJN λb hb=>A.sub b hb) R.hk (λb h1 _=> ?_) (λd h=>by rw[<-R.len];exact hd d h) A.perm (λa' w' π' hx kj hR=> ?_)
  .cases hb:π b with
   |none=>rfl
   |some p=>have:=R.dom b (by simp[hb]);omega
  .exact aze hE hQ ht (λj=>by have:=hr (j+1);rw[show i+1+j=i+(j+1) by omega,<-this];simp) (A.aXb R hg hR kj (akL ha R.dlt))
end
end Go.Ab
namespace Go.Ab
variable [ax]
def tch (us:List Up)(p:Pt):Prop:=∃u∈us,u.GI p
def gl:List Tr->(Nat->Bool)->Nat->Gt->Gt
 | [],_,_,g=>g
 |tr::dS,L,i,g=>gl dS L (i+1) (if L i=true then cE tr.us g else g)
omit [ax] in
theorem aJT {p:Pt}:∀{dS:List Tr} {L L':Nat->Bool} {i:Nat} {g g':Gt},(∀(j:Nat) tr,dS[j]? =some tr->L (i+j)≠L' (i+j)->¬tch tr.us p)->g.at p=g'.at p->(gl dS L i g).at p=(gl dS L' i g').at p
 | [],_,_,_,_,_,_,h=>h
 |tr::dS,L,L',i,g,g',hd,h=>by
  simp only[gl];refine aJT (λj NW hj oe=>hd (j+1) NW (by simpa using hj) (by rw[show i+(j+1)=i+1+j by omega];exact oe)) ?_;have h0:=hd 0 tr rfl;rw[km] at h0;by_cases h1:L i=true<;>by_cases h2:L' i=true
  .rw[if_pos h1,if_pos h2];exact aft (.inr h)
  .rw[if_pos h1,if_neg h2];have:=h0 (by rw[h1];exact λe=>h2 e.symm);rw[qJ λu hu ht=>this ⟨u,hu,ht⟩];exact h
  .rw[if_neg h1,if_pos h2];have:=h0 (by rw[h2];exact h1);rw[qJ λu hu ht=>this ⟨u,hu,ht⟩];exact h
  .rw[if_neg h1,if_neg h2];exact h
omit [ax] in
theorem aD7:∀(a b:List Tr) (L:Nat->Bool) (i:Nat) (g:Gt),gl (a++b) L i g=gl b L (i+a.length) (gl a L i g)
 | [],b,L,i,g=>by simp[gl]
 |x::a,b,L,i,g=>by
  simp only[List.cons_append,gl,KZ];rw[aD7 a b,show i+1+a.length=i+(a.length+1) by omega]
omit [ax] in
theorem aot:∀{dS:List Tr} {L L':Nat->Bool} {i:Nat} {g:Gt},(∀j,j<dS.length->L (i+j)=L' (i+j))->gl dS L i g=gl dS L' i g
 | [],_,_,_,_,_=>rfl
 |tr::dS,L,L',i,g,h=>by
  simp only[gl];have:=h 0 (by simp);rw[km] at this;rw[this];exact aot λj hj=>by have:=h (j+1) (by simp;omega);rwa [show i+(j+1)=i+1+j by omega] at this
omit [ax] in
theorem aui:∀{dS:List Tr} {L:Nat->Bool} {i:Nat} {g:Gt},(∀j,j<dS.length->L (i+j)=false)->gl dS L i g=g
 | [],_,_,_,_=>rfl
 |tr::dS,L,i,g,h=>by
  simp only[gl];have:=h 0 (by simp);rw[km] at this;rw[this];exact aui λj hj=>by have:=h (j+1) (by simp;omega);rwa [show i+(j+1)=i+1+j by omega] at this
omit [ax] in
theorem aXc {dS:List Tr}{L L':Nat->Bool}{i:Nat}{tr:Tr}{g:Gt}(hi:dS[i]? =some tr)(h0:L i=false)(h1:L' i=true)(hL:∀j,j≠i->L' j=L j)
  (hap:∀(j:Nat) NW,i<j->dS[j]? =some NW->L j=true->∀p,tch tr.us p->¬tch NW.us p):gl dS L' 0 g=cE tr.us (gl dS L 0 g):=by
 have nR:=(lX.1 hi).1
 have aY3:dS=dS.take i++(tr::dS.drop (i+1)):=by
  have e:dS[i]=tr:=(lX.1 hi).2;rw[<-e,List.getElem_cons_drop,List.take_append_drop]
 have hlen:(dS.take i).length=i:=by simp;omega
 have key:∀M:Nat->Bool,gl dS M 0 g=gl (dS.drop (i+1)) M (i+1) (if M i=true then cE tr.us (gl (dS.take i) M 0 g) else gl (dS.take i) M 0 g):=λM=>by
  conv=>lhs;rw[aY3]
  rw[aD7,hlen,gW];rfl
 rw[key L',key L,if_pos h1,if_neg (by rw[h0];simp)];have e1:gl (dS.take i) L' 0 g=gl (dS.take i) L 0 g:=aot λj hj=>by rw[hlen] at hj;exact hL _ (by omega)
 rw[e1];have e2:∀h,gl (dS.drop (i+1)) L' (i+1) h=gl (dS.drop (i+1)) L (i+1) h:=λh=>aot λj _=>hL _ (by omega)
 rw[e2];apply Gt.aSf
 intro p
 have a0Y:∀(j:Nat) NW,(dS.drop (i+1))[j]? =some NW->L (i+1+j)=true->∀p,tch tr.us p->¬tch NW.us p:=λj NW hj hl p hp=>by
  rw[RW] at hj;exact hap (i+1+j) NW (by omega) hj hl p hp
 by_cases hp:tch tr.us p
 .have a1:=aJT (p:=p) (dS:=dS.drop (i+1)) (L:=L) (L':=λ_=>false) (i:=i+1) (g:=cE tr.us (gl (dS.take i) L 0 g)) (g':=cE tr.us (gl (dS.take i) L 0 g)) (λj NW hj oe=>a0Y j NW hj (by simpa using oe) p hp) rfl;rw[aui (L:=λ_=>false) (λ_ _=>rfl)] at a1;rw[a1];exact aft (.inl hp)
 .have YP:∀u∈tr.us,¬u.GI p:=λu hu ht=>hp ⟨u,hu,ht⟩
  rw[qJ YP];exact aJT (λj NW _ oe=>absurd rfl oe) (qJ YP)
omit [ax] in
theorem aD8 (acc:List Nat)(i:Nat):∀(l:List Edge) (m:Nat),Nat.testBit (l.foldl (aQo acc) m) i=true->
  Nat.testBit m i=true∨∃e∈l,Region.binds .any e=true/\(e.on=i∨Nat.testBit (acc.getD e.on 0) i=true)
 | [],m,h=>.inl h
 |e::l,m,h=>by
  rw[List.foldl_cons] at h;rcases aD8 acc i l _ h with h1| ⟨e',he',h1⟩
  .unfold aQo at h1;cases hb:Region.binds .any e with
   |false=>rw[hb] at h1;exact .inl h1
   |true=>
    rw[hb] at h1;simp only[Nat.testBit_or,akq,Nat.testBit_two_pow,lY] at h1;rcases h1 with(h1|h1)|h1
    .exact .inl h1
    .exact .inr ⟨e,by simp,hb,.inl h1⟩
    .exact .inr ⟨e,by simp,hb,.inr h1⟩
  .exact .inr ⟨e',by simp[he'],h1⟩
omit [ax] in
theorem aD9:∀(l:List Oper) (acc:List Nat),∃t,K2 l acc=acc++t
 | [],acc=>⟨[],by simp[K2]⟩
 |o::l,acc=>by
  obtain⟨t,ht⟩:=aD9 l (acc++[mask acc o]);exact⟨_,by rw[K2,ht,aw6]⟩
omit [ax] in
theorem aEa {i:Nat}:∀(l:List Oper) (acc:List Nat) (j:Nat) (o:Oper),l[j]? =some o->(∀e∈o.after.toList,Region.binds .any e=true->e.on<acc.length+j)->Nat.testBit ((K2 l acc).getD (acc.length+j) 0) i=true->
  ∃e∈o.after.toList,Region.binds .any e=true/\(e.on=i∨(e.on<acc.length+j/\Nat.testBit ((K2 l acc).getD e.on 0) i=true))
 | [],_,j,o,h,_,_=>by simp at h
 |o0::l,acc,0,o,h,he,hb=>by
  simp at h;subst h
  obtain⟨t,ht⟩:=aD9 l (acc++[mask acc o0]);have hm:K2 (o0::l) acc=acc++[mask acc o0]++t:=by rw[K2,ht]
  rw[hm] at hb ⊢;simp only[km,aw6,List.getD,ac1 (eO _),Nat.sub_self] at hb;simp only[List.singleton_append,aDg,KY] at hb;rcases aD8 acc i _ 0 hb with h0| ⟨e,he',hbd,h1⟩
  .simp at h0
  .have nR:=he e he' hbd;rw[km] at nR;refine⟨e,he',hbd,h1.imp id λh2=>⟨by omega,?_⟩⟩;rw[aw6];simp only[List.getD] at h2 ⊢;rw[TO nR];exact h2
 |o0::l,acc,j+1,o,h,he,hb=>by
  have e1:acc.length+(j+1)=(acc++[mask acc o0]).length+j:=by simp;omega
  rw[K2] at hb ⊢;rw[e1] at hb he ⊢;exact aEa l _ j o (by simpa using h) he hb
omit [ax] in
theorem aa1:∀{l:List Oper} {i0:Nat},Qw l i0=true->∀(j:Nat) o,l[j]? =some o->∀e∈o.after.toList,Region.binds .any e=true->e.on<i0+j
 | [],_,_,j,o,h,_,_,_=>by simp at h
 |o0::l,i0,hk,0,o,h,e,he,hb=>by
  simp at h;subst h
  simp only[Qw,cy] at hk;have:=aw8.1 hk.1 e he;rw[hb] at this;simp only[K0,Bool.false_or,Nat.blt_eq] at this;omega
 |o0::l,i0,hk,j+1,o,h,e,he,hb=>by
  simp only[Qw,cy] at hk;have:=aa1 hk.2 j o (by simpa using h) e he hb;omega
omit [ax] in
theorem aa2 {ms:List Nat}:∀{l:List Tr} {j0:Nat},Qv ms l j0=true->∀(i j:Nat) x y,i<j->l[i]? =some x->l[j]? =some y->Nat.testBit (ms.getD (j0+j) 0) (j0+i)=true∨x.afj y=false
 | [],_,_,i,j,x,y,_,h,_=>by simp at h
 |x0::l,j0,hk,0,j,x,y,hij,hx,hy=>by
  simp at hx;subst hx
  simp only[Qv,cy] at hk;obtain⟨j',rfl⟩:∃j',j=j'+1:=⟨j-1,by omega⟩;have hy':l[j']? =some y:=by simpa using hy
  have hm:(y,j')∈l.zipIdx:=by
   rw[aw4];exact⟨j',by simp[aDj,hy']⟩
  have:=aw8.1 hk.1 (y,j') hm;simp only[akq,o6] at this;rw[show j0+(j'+1)=j0+1+j' by omega];exact this
 |x0::l,j0,hk,i+1,j,x,y,hij,hx,hy=>by
  simp only[Qv,cy] at hk;obtain⟨j',rfl⟩:∃j',j=j'+1:=⟨j-1,by omega⟩;have:=aa2 hk.2 i j' x y (by omega) (by simpa using hx) (by simpa using hy);rw[show j0+(j'+1)=j0+1+j' by omega,show j0+(i+1)=j0+1+i by omega];exact this
omit [ax] in
theorem aS0 {x y:Tr}{p:Pt}{f:Fp}(hf:f∈y.fp)(hp:f.has p)(ht:tch x.us p):x.afj y=true/\y.afj x=true:=by
 obtain⟨u,hu,ht⟩:=ht;have h:=Fp.aDE hp ht;constructor
 .unfold Tr.afj;rw[akq];left;refine aaR.2 ⟨u,hu,?_⟩;rw[akq];left;exact aaR.2 ⟨f,hf,h⟩
 .unfold Tr.afj;rw[akq];right;refine aaR.2 ⟨u,hu,?_⟩;exact aaR.2 ⟨f,hf,h⟩
omit [ax] in
theorem aS1 {x y:Tr}{p:Pt}(h1:tch x.us p)(h2:tch y.us p):x.afj y=true:=by
 obtain⟨u,hu,ht⟩:=h1;obtain⟨v,hv,hs⟩:=h2;unfold Tr.afj;rw[akq];left;refine aaR.2 ⟨u,hu,?_⟩;rw[akq];right;exact aaR.2 ⟨v,hv,Up.aDE hs ht⟩
def Ae (dS:List Tr):List Up:=dS.flatMap Tr.us
omit [ax] in
theorem aQG:∀(dS:List Tr) (i j0:Nat) (g:Gt),gl dS (λj=>decide (j<j0+i)) j0 g=cE (Ae (dS.take i)) g
 | [],i,j0,g=>by simp[gl,Ae,cE]
 |tr::dS,0,j0,g=>by
  rw[aui (λj _=>by simp)];simp[Ae,cE]
 |tr::dS,i+1,j0,g=>by
  simp only[gl];rw[if_pos (by simp)];have:=aQG dS i (j0+1) (cE tr.us g);rw[show j0+1+i=j0+(i+1) by omega] at this;rw[this];simp[Ae,cE]
omit [ax] in
theorem aY4 {dS:List Tr}{L:Nat->Bool}{g:Gt}(h:∀i,i<dS.length->L i=true):gl dS L 0 g=cE (Ae dS) g:=by
 have:=aQG dS dS.length 0 g;rw[List.take_length] at this;rw[<-this];exact aot λj hj=>by simp[h j hj];omega
omit [ax] in
theorem akM {k:Nat}:∀{us vs:List Up} {s s1 s2:St},jZ k us s=some s1->jZ k vs s1=some s2->jZ k (us++vs) s=some s2
 | [],vs,s,s1,s2,h,h'=>by simp[jZ] at h;subst h;exact h'
 |u::us,vs,s,s1,s2,h,h'=>by
  simp only[jZ,List.cons_append] at h ⊢;split at h
  .rename_i hu;exact akM h h'
  .cases h
omit [ax] in
theorem DW.app {P:Program}{E:Env}{ops:List Oper}{k:Nat}:∀{rest:List Oper} {s s':St} {dS:List Tr},DW P E ops k rest s dS s'->jZ k (Ae dS) s=some s'/\dS.length=rest.length
 | [],s,s',dS,h=>by cases h;exact⟨rfl,rfl⟩
 |o::rest,s,s',dS,h=>by
  cases h with|@cons _ _ _ s1 _ us fp tr dS hd h hus hfp ha ht=>
  obtain⟨h1,h2⟩:=ht.app;refine⟨?_,by simp[h2]⟩;subst hus;show jZ k (tr.us++Ae dS) s=some s';exact akM ha h1
omit [ax] in
theorem DW.at {P:Program}{E:Env}{ops:List Oper}{k:Nat}:∀{rest:List Oper} {s s':St} {dS:List Tr},DW P E ops k rest s dS s'->∀(i:Nat) o,rest[i]? =some o->∃tr fp,dS[i]? =some tr/\(∀f∈fp,f∈tr.fp)/\
   aa0 P E ops o (s.heap.length+cB (Ae (dS.take i))) (cE (Ae (dS.take i)) s.gt) tr.us fp/\(∀d,o.dst=some d->d<s.tmps.length)
 | [],_,_,_,_,i,o,h=>by simp at h
 |o0::rest,s,s',dS,h,i,o,ho=>by
  cases h with|@cons _ _ _ s1 _ us fp tr dS hd h hus hfp ha ht=>
  subst hus;cases i with
  |zero=>
   simp at ho;subst ho
   exact⟨tr,fp,rfl,hfp,by simpa[Ae,cB,cE] using h,hd⟩
  |succ i=>
   obtain⟨NW,fp',e1,e2,e3,e4⟩:=ht.at i o (by simpa using ho);have A:=I1 ha;refine⟨NW,fp',by simpa using e1,e2,?_,λd h=>by rw[<-A.tmps];exact e4 d h⟩
   have hc:cB (Ae (List.take (i+1) (tr::dS)))=cB tr.us+cB (Ae (dS.take i)):=by
    simp only[List.take_succ_cons,Ae,List.flatMap_cons,EE]
   have hg:cE (Ae (List.take (i+1) (tr::dS))) s.gt=cE (Ae (dS.take i)) s1.gt:=by
    simp only[List.take_succ_cons,Ae,List.flatMap_cons,PH];rw[NU ha]
   rw[hc,hg,<-BB,<-A.heap];exact e3
end Go.Ab
namespace Go.Ab
variable [ax]
section
variable {P:Program} {E:Env} {X:Cx}
omit [ax] in
theorem axq (dS:List Tr){i j:Nat}(h:i<=j):cB (Ae (dS.take i))<=cB (Ae (dS.take j)):=by
 obtain⟨d,rfl⟩:∃d,j=i+d:=⟨j-i,by omega⟩;rw[List.take_add,Ae,Ae,List.flatMap_append,EE];omega
omit [ax] in
theorem Vx {dS:List Tr}{i:Nat}{tr:Tr}(h:dS[i]? =some tr):cB (Ae (dS.take (i+1)))=cB (Ae (dS.take i))+cB tr.us:=by
 have nR:=(lX.1 h).1;have he:=(lX.1 h).2;rw[List.take_succ_eq_append_getElem nR,he,Ae,Ae,List.flatMap_append,EE];simp
omit [ax] in
theorem apM {f f':Nat->Bool}{i:Nat}(h1:f i=true)(h2:f' i=false)(h:∀j,j≠i->f' j=f j):∀n,i<n->(rx n).countP f=(rx n).countP f'+1
 |0,hn=>by omega
 |n+1,hn=>by
  rw[List.range_succ,List.countP_append,List.countP_append];by_cases e:i=n
  .subst e
   have:(rx i).countP f=(rx i).countP f':=by
    apply List.countP_congr
    intro j hj;rw[h j (by have:=List.mem_range.1 hj;omega)]
   rw[this];simp[h1,h2]
  .rw[apM h1 h2 h n (by omega),List.countP_singleton,List.countP_singleton,h n (Ne.symm e)];omega
theorem wpAny_all (hE:∀f F,E f=some F->Sound P f F){h0:List af}{ops:Array Oper}{Q:Exit->Act->World->Prop}{s s':St}{dS:List Tr}(hT:DW P E ops.toList X.k ops.toList s dS s')
  (he:Qw ops.toList 0=true)(hp:Qv (K2 ops.toList []) dS 0=true)(hlen:s.tmps.length=X.N)(hsk:X.k<=s.heap.length)(hdl:∀b,b∈s.dt->b<X.k)(hdr:∀b,b<X.k->b∉s.dt->s.bO b=h0[b]?)
  (hQ:∀a' w' π',iA X h0 π' s' a' w'->Q .normal a' w'):
  ∀(fuel:Nat) (fu:Array Bool) (π:Pi) (a:Act) (w:World),fu.size=ops.size->(rx ops.size).countP (λi=> !fu.getD i false)=fuel->
   (∀(j:Nat) o,ops[j]? =some o->fu.getD j false=true->∀e∈o.after,Region.binds .any e=true->fu.getD e.on false=true)->
   Rel X (·∈s'.dt) π (gl dS (λi=>fu.getD i false) 0 s.gt) a w->
   (∀b,π b≠none->b<s.heap.length∨∃(i:Nat) (tr:Tr),dS[i]? =some tr/\fu.getD i false=true/\s.heap.length+cB (Ae (dS.take i))<=b/\b<s.heap.length+cB (Ae (dS.take i))+cB tr.us)->
   wpAny P .any ops Q fuel fu a w:=by
 obtain⟨Zh,htl⟩:=hT.app;have A:=I1 Zh;have hn:dS.length=ops.size:=by rw[htl];simp
 have bef:∀(fu:Array Bool),(∀(j:Nat) o,ops[j]? =some o->fu.getD j false=true->∀e∈o.after,Region.binds .any e=true->fu.getD e.on false=true)->
   ∀(j:Nat) (o:Oper) (i:Nat),ops[j]? =some o->(∀e∈o.after,Region.binds .any e=true->fu.getD e.on false=true)->Nat.testBit ((K2 ops.toList []).getD j 0) i=true->fu.getD i false=true:=by
  intro fu DE j;induction j using Nat.strongRecOn with
  |_ j ih=>
   intro o i ho aSp hb;have ho':ops.toList[j]? =some o:=by rw[Vh];exact ho
   obtain⟨e,he1,he2,h1⟩:=aEa ops.toList [] j o ho' (λe h1 h2=>by have:=aa1 he j o ho' e h1 h2;simpa using this) (by simpa using hb);have hl:=aSp e (Array.mem_toList_iff.1 he1) he2;rcases h1 with rfl| ⟨nR,h1⟩
   .exact hl
   .simp only[List.length_nil,gW] at nR;have hjs:j<ops.size:=(Array.getElem?_eq_some_iff.1 ho).1;have hoe:ops[e.on]? =some (ops[e.on]'(by omega)):=ahM _;exact ih e.on nR _ i hoe (DE e.on _ hoe hl) h1
 intro fuel;induction fuel with
 |zero=>
  intro fu π a w yb aSl DE R kj
  have aM5:∀i,i<ops.size->fu.getD i false=true:=λi hi=>by
   have:=List.countP_eq_zero.1 aSl i (List.mem_range.2 hi);simpa using this
  refine⟨?_,hQ a w π ?_⟩
  .unfold Region.ready;rw[List.filter_eq_nil_iff];intro i hi;have hi:=List.mem_range.1 hi;have:=aM5 i hi
   have e:fu.getD i true=true:=by
    simp only[apE,ahM (show i<fu.size by omega),KY] at this ⊢;exact this
   rw[e];simp
  .rw[aY4 (λi hi=>aM5 i (by omega))] at R;refine⟨(NU Zh)▸R,A.tmps.trans hlen,λb hb=> ?_,λb hb hn'=> ?_,?_,akL Zh hdl⟩
   .rw[A.heap];rcases kj b hb with h| ⟨i,tr,htr,_,_,h2⟩
    .omega
    .have h3:=Vx htr;have h4:=axq dS (show i+1<=dS.length from(lX.1 htr).1);rw[List.take_length] at h4;omega
   .rw[A.mT b hb (by omega) hn'];exact hdr b hb (λh=>hn' (A.sub b h))
   .rw[A.heap];omega
 |succ fuel ih=>
  intro fu π a w yb aSl DE R kj
  have aZ7:∀i,i<ops.size->fu.getD i true=fu.getD i false:=λi hi=>by
   simp only[apE,ahM (show i<fu.size by omega),KY]
  refine⟨λhr=> ?_,λi hi=> ?_⟩
  .exfalso
   have aM5:∀i,i<ops.size->fu.getD i false=true:=by
    intro i;induction i using Nat.strongRecOn with
    |_ i ihi=>
     intro hi;cases hl:fu.getD i false with
     |true=>rfl
     |false=>
      have ho:ops[i]? =some (ops[i]'hi):=ahM _
      have aZ8:i∈Region.ready .any ops fu:=mem_ready.2 ⟨by rw[aZ7 i hi];exact hl,_,ho,λe he1 he2=>by
       have nR:=aa1 he i _ (by rw[Vh];exact ho) e (Array.mem_toList_iff.2 he1) he2;exact ihi e.on (by omega) (by omega)⟩
      rw[hr] at aZ8;cases aZ8
   have:(rx ops.size).countP (λi=> !fu.getD i false)=0:=List.countP_eq_zero.2 λi hi=>by rw[aM5 i (List.mem_range.1 hi)];simp
   omega
  .obtain⟨hun,o,ho,aSp⟩:=mem_ready.1 hi;have his:i<ops.size:=(Array.getElem?_eq_some_iff.1 ho).1;have aM6:fu.getD i false=false:=by rw[<-aZ7 i his];exact hun
   obtain⟨tr,fp,htr,hfp,pk,hd⟩:=hT.at i o (by rw[Vh];exact ho)
   have hG:cE (Ae (dS.take i)) s.gt=gl dS (λj=>decide (j<i)) 0 s.gt:=by
    have:=aQG dS i 0 s.gt;simp only[gW] at this;exact this.symm
   rw[hG] at pk
   have aXd:∀(j:Nat) NW,i<j->dS[j]? =some NW->fu.getD j false=true->tr.afj NW=true->False:=λj NW hij hj hl hc=>by
    rcases aa2 hp i j tr NW hij htr hj with h|h
    .simp only[gW] at h;have hjs:j<ops.size:=by rw[<-hn];exact(lX.1 hj).1
     have hoj:ops[j]? =some (ops[j]'hjs):=ahM _;have:=bef fu DE j _ i hoj (DE j _ hoj hl) h;rw[aM6] at this;cases this
    .rw[hc] at h;cases h
   have a2p:=pk.local (g':=gl dS (λj=>fu.getD j false) 0 s.gt) (λf hf p a2q=>by
    refine aJT (λj NW hj oe=> ?_) rfl;simp only[gW] at oe;intro ht;have hc:=aS0 (hfp f hf) a2q ht;rcases afa j i with hji|hji|hji
    .have hlj:fu.getD j false=false:=by
      cases h:fu.getD j false with
      |false=>rfl
      |true=>exact absurd (by rw[h];simp[hji]) oe
     rcases aa2 hp j i NW tr hji hj htr with h|h
     .simp only[gW] at h;have:=bef fu DE i o j ho aSp h;rw[hlj] at this;cases this
     .rw[hc.1] at h;cases h
    .subst hji;exact oe (by rw[aM6];simp)
    .have hlj:fu.getD j false=true:=by
      cases h:fu.getD j false with
      |true=>rfl
      |false=>exact absurd (by rw[h];simp;omega) oe
     exact aXd j NW hji hj hlj hc.2)
   have a0Z:∀u∈tr.us,u∈Ae dS:=λu hu=>List.mem_flatMap.2 ⟨tr,List.mem_of_getElem? htr,hu⟩
   refine azd hE ho a2p R (by omega) (λb h1 h2=> ?_) (λd h=>by rw[<-hlen];exact hd d h) (λu hu=>A.perm u (a0Z u hu)) (λa' w' π' hx a00 hR=> ?_)
   .cases hb:π b with
    |none=>rfl
    |some p=>
     exfalso
     rcases kj b (by simp[hb]) with h| ⟨i',NW,aXe,hl',h3,h4⟩
     .omega
     .rcases afa i' i with hii|hii|hii
      .have e1:=Vx aXe;have e2:=axq dS (show i'+1<=i from hii);omega
      .subst hii;rw[aM6] at hl';cases hl'
      .have e1:=Vx htr;have e2:=axq dS (show i+1<=i' from hii);omega
   .have aEb:∀j,(fu.setIfInBounds i true).getD j false=if j=i then true else fu.getD j false:=λj=>by
     simp only[apE];by_cases e:j=i
     .subst e;simp[show j<fu.size by omega]
     .rw[if_neg e,aRV (Ne.symm e)]
    refine ih (fu.setIfInBounds i true) π' a' w' (by simp[yb]) ?_ (λj oj hoj hl e he1 he2=> ?_) ?_ (λb hb=> ?_)
    .have:=apM (f:=λi=> !fu.getD i false) (f':=λj=> !(fu.setIfInBounds i true).getD j false) (i:=i) (by simp[aM6]) (by simp only[aEb];simp) (λj hj=>by simp only[aEb,if_neg hj]) ops.size his;omega
    .rw[aEb] at hl ⊢;by_cases e1:e.on=i
     .rw[if_pos e1]
     .rw[if_neg e1];by_cases e2:j=i
      .subst e2;rw[ho] at hoj;cases hoj;exact aSp e he1 he2
      .rw[if_neg e2] at hl;exact DE j oj hoj hl e he1 he2
    .rw[aXc (L:=λj=>fu.getD j false) (L':=λj=>(fu.setIfInBounds i true).getD j false) htr aM6 (by simp only[aEb];simp) (λj hj=>by simp only[aEb,if_neg hj])
      (λj NW hij hj hl p GJ hp2=>aXd j NW hij hj hl (aS1 GJ hp2))]
     exact hR
    .rcases a00 b hb with h| ⟨h1,h2⟩
     .rcases kj b h with h| ⟨i',NW,aXe,hl',h3,h4⟩
      .exact .inl h
      .refine .inr ⟨i',NW,aXe,?_,h3,h4⟩;rw[aEb];split<;>first|rfl|exact hl'
     .exact .inr ⟨i,tr,htr,by rw[aEb,if_pos rfl],h1,h2⟩
theorem aJU (hE:∀f F,E f=some F->Sound P f F)(hm:P.follows .mixedOrders=true){h0:List af}{id:Nat}{ops:Array Oper}{Q:Exit->Act->World->Prop}{s s':St}{dS:List Tr}(hT:DW P E ops.toList X.k ops.toList s dS s')
  (he:Qw ops.toList 0=true)(hp:Qv (K2 ops.toList []) dS 0=true){π:Pi}{a:Act}{w:World}(R:iA X h0 π s a w)(hQ:∀a' w' π',iA X h0 π' s' a' w'->Q .normal a' w'):(Code.region id ops true).wp P Q a w:=by
 refine wp_region_any hm ?_
 have hf:∀i,(Array.replicate ops.size false).getD i false=false:=λi=>by
  simp only[apE,Array.getElem?_replicate];split<;>rfl
 have A:=I1 hT.app.1;refine wpAny_all hE hT he hp R.len R.hk R.dlt R.drt hQ ops.size _ π a _ (by simp) ?_ (λj o _ hl=>by rw[hf] at hl;cases hl) ?_ (λb hb=>.inl (R.dom b hb))
 .rw[List.countP_eq_length.2 λi _=>by rw[hf];rfl];simp
 .rw[aui (λj _=>hf _)];exact(R.rel.aJN λb hb=>A.sub b hb).drew
theorem aJV (hE:∀f F,E f=some F->Sound P f F){h0:List af}{id:Nat}{ops:Array Oper}{Q:Exit->Act->World->Prop}{s s':St}{dS:List Tr}(hT:DW P E ops.toList X.k ops.toList s dS s')
  {π:Pi}{a:Act}{w:World}(R:iA X h0 π s a w)(hQ:∀a' w' π',iA X h0 π' s' a' w'->Q .normal a' w'):(Code.region id ops false).wp P Q a w:=by
 refine wp_region ?_;have:=aze hE hQ hT (i:=0) (λj=>by simp) R;rw[List.range_eq_range'];simpa using this
end
end Go.Ab
namespace Go.Ab
variable [ax]
def Ld (π:Pi)(H:Nat)(m:List Nat):Pi:=λb=>if b<H then π b else match m[b-H]? with
 |some b0=>π b0
 |none=>none
def Af (m m':List Nat):Prop:=∃t,m'=m++t
omit [ax] in
theorem Af.refl (m:List Nat):Af m m:=⟨[],by simp⟩
omit [ax] in
theorem Af.trans {a b c:List Nat}(h:Af a b)(k:Af b c):Af a c:=by
 obtain⟨t,rfl⟩:=h;obtain⟨u,rfl⟩:=k;exact⟨t++u,by simp⟩
omit [ax] in
theorem Af.get {m m':List Nat}(h:Af m m'){j b:Nat}(hj:m[j]? =some b):m'[j]? =some b:=by
 obtain⟨t,rfl⟩:=h;rw[TO (lX.1 hj).1,hj]
omit [ax] in
theorem Af.ext {π:Pi}{H:Nat}{m m':List Nat}(h:Af m m'):Ext (Ld π H m) (Ld π H m'):=by
 intro b p hp;unfold Ld at hp ⊢;split
 .rename_i hb;rw[if_pos hb] at hp;exact hp
 .rename_i hb
  rw[if_neg hb] at hp;cases hj:m[b-H]? with
  |none=>rw[hj] at hp;cases hp
  |some b0=>rw[h.get hj];rw[hj] at hp;exact hp
def MOk (H:Nat)(m:List Nat):Prop:=m.Nodup/\∀b∈m,H<=b
omit [ax] in
theorem aHT {b:Nat}:∀{m:List Nat} {i0 i:Nat},idx b m i0=some i->∃k,i=i0+k/\m[k]? =some b
 | [],_,_,h=>by simp[idx] at h
 |x::m,i0,i,h=>by
  simp only[idx] at h;split at h
  .rename_i hx
   cases h;exact⟨0,rfl,by simp[oZ hx]⟩
  .obtain⟨k,h1,h2⟩:=aHT h;exact⟨k+1,by omega,by simpa using h2⟩
omit [ax] in
theorem aHU {b:Nat}:∀{m:List Nat} {i0:Nat},idx b m i0=none->b∉m
 | [],_,_=>by simp
 |x::m,i0,h=>by
  simp only[idx] at h;split at h
  .cases h
  .rename_i hx
   have:=aHU h;simp only[aaT,not_or];exact⟨λe=>by subst e;simp at hx,this⟩
omit [ax] in
theorem akN {H b:Nat}{m:List Nat}:Af m (akz H b m).2/\(MOk H m->MOk H (akz H b m).2)/\∀π,Ld π H (akz H b m).2 (akz H b m).1=π b:=by
 unfold akz;split
 .rename_i hb
  have hb:=EA hb;split
  .rename_i i hi
   obtain⟨k,h1,h2⟩:=aHT hi;refine⟨Af.refl _,id,λπ=> ?_⟩;unfold Ld;rw[if_neg (by omega),show H+i-H=k by omega,h2]
  .rename_i hi
   have hnm:=aHU hi;refine⟨⟨_,rfl⟩,λok=>⟨?_,λx hx=> ?_⟩,λπ=> ?_⟩
   .rw[List.nodup_append];exact⟨ok.1,by simp,λx hx y hy e=>by simp at hy;subst hy;subst e;exact hnm hx⟩
   .rcases List.mem_append.1 hx with h|h
    .exact ok.2 x h
    .simp at h;omega
   .unfold Ld;rw[if_neg (by omega),show H+m.length-H=m.length by omega];simp
 .rename_i hb
  have hb:b<H:=by
   rcases o7 b H with h|h
   .exact h
   .have:=aDi h;simp[this] at hb
  exact⟨Af.refl _,id,λπ=>by unfold Ld;rw[if_pos hb]⟩
structure Gc {α:Type}(R:Pi->α->Value->Prop)(H:Nat)(a:α)(m:List Nat)(r:α×List Nat):Prop where
 pre:Af m r.2
 ok:MOk H m->MOk H r.2
 rel:∀π x,R π a x->R (Ld π H r.2) r.1 x
theorem aHV (H:Nat)(c:CV)(m:List Nat):Gc CV.rel H c m (gcC H c m):=by
 cases c<;>simp only[gcC]
 case ptr b o n=>
  obtain⟨h1,h2,h3⟩:=akN (H:=H) (b:=b) (m:=m);refine⟨h1,h2,λπ x ⟨B,s,q,e,hp,hx⟩=>⟨B,s,q,e,?_,hx⟩⟩;rw[h3];exact hp
 case cl f b o n=>
  obtain⟨h1,h2,h3⟩:=akN (H:=H) (b:=b) (m:=m);refine⟨h1,h2,λπ x ⟨B,s,q,e,hp,hx⟩=>⟨B,s,q,e,?_,hx⟩⟩;rw[h3];exact hp
 case sl b o l z w=>
  obtain⟨h1,h2,h3⟩:=akN (H:=H) (b:=b) (m:=m);exact⟨h1,h2,λπ x ⟨B,s,q,e,hp,hx⟩=>⟨B,s,q,e,by rw[h3];exact hp,hx⟩⟩
 all_goals exact⟨Af.refl _,id,λπ x hx=>hx⟩
omit [ax] in
theorem aM7 {α:Type}{R R':α->Value->Prop}{as as':List α}{xs:List Value}(hl:as'.length=as.length)(h:∀(j:Nat) a a',as[j]? =some a->as'[j]? =some a'->∀x,R a x->R' a' x)(hx:bj R as xs):bj R' as' xs:=by
 refine bj.afs (by rw[hl];exact hx.length) λi a' x ha' hxi=> ?_;obtain⟨a,ha,hr⟩:=hx.get' hxi;exact h i a a' ha ha' x hr
omit [ax] in
theorem ac8 {α:Type}{R:Pi->α->Value->Prop}(mono:∀{π π':Pi},Ext π π'->∀a x,R π a x->R π' a x){f:α->List Nat->α×List Nat}{H:Nat}(hf:∀a m,Gc R H a m (f a m)):
  ∀(l:List α) (m:List Nat),Af m (GH f l m).2/\(MOk H m->MOk H (GH f l m).2)/\(GH f l m).1.length=l.length/\∀(j:Nat) a a',l[j]? =some a->(GH f l m).1[j]? =some a'->∀π x,R π a x->R (Ld π H (GH f l m).2) a' x
 | [],m=>⟨Af.refl _,id,rfl,λj a a' h=>by simp at h⟩
 |a::l,m=>by
  have G:=hf a m;obtain⟨p1,p2,p3,p4⟩:=ac8 mono hf l (f a m).2;refine⟨G.pre.trans p1,λok=>p2 (G.ok ok),by simp[GH,p3],λj b b' hb fw π x hx=> ?_⟩;cases j with
  |zero=>
   simp[GH] at hb fw
   subst hb fw;exact mono p1.ext _ _ (G.rel π x hx)
  |succ j=>exact p4 j b b' (by simpa using hb) (by simpa[GH] using fw) π x hx
omit [ax] in
theorem aHW {α:Type}{R:Pi->α->Value->Prop}(mono:∀{π π':Pi},Ext π π'->∀a x,R π a x->R π' a x){f:α->List Nat->α×List Nat}{H:Nat}(hf:∀a m,Gc R H a m (f a m))(l:List α)(m:List Nat)(π:Pi)(xs:List Value)(h:bj (R π) l xs):bj (R (Ld π H (GH f l m).2)) (GH f l m).1 xs:=by
 obtain⟨_,_,p3,p4⟩:=ac8 mono hf l m;exact aM7 p3 (λj a a' ha ha' x hr=>p4 j a a' ha ha' π x hr) h
theorem Zn (H:Nat):∀(cs:af) (m:List Nat),Af m (GH (gcS H) cs m).2/\(MOk H m->MOk H (GH (gcS H) cs m).2)/\af.size (GH (gcS H) cs m).1=af.size cs/\
  ∀π j x,j<af.size cs->(af.get cs j).rel π x->(af.get (GH (gcS H) cs m).1 j).rel (Ld π H (GH (gcS H) cs m).2) x
 | [],m=>⟨Af.refl _,id,rfl,λπ j x hj=>by rw[af.lR] at hj;omega⟩
 |.c v::r,m=>by
  have G:=aHV H v m;obtain⟨p1,p2,p3,p4⟩:=Zn H r (gcC H v m).2;have e:GH (gcS H) (.c v::r) m=(.c (gcC H v m).1::(GH (gcS H) r (gcC H v m).2).1,(GH (gcS H) r (gcC H v m).2).2):=rfl;rw[e];refine⟨G.pre.trans p1,λok=>p2 (G.ok ok),by rw[af.size_cons,af.size_cons,p3];rfl,λπ j x hj hx=> ?_⟩;cases j with
  |zero=>exact CV.dK p1.ext _ _ (G.rel π x hx)
  |succ j=>
   rw[<-af.ku (l:=r) (j':=j) (by omega) (by omega)] at hx;rw[<-af.ku (l:=(GH (gcS H) r (gcC H v m).2).1) (j':=j) (by omega) (by omega)];exact p4 π j x (by rw[af.size_cons,Sg.kt] at hj;omega) hx
 |.a n cols::r,m=>by
  obtain⟨p1,p2,p3,p4⟩:=Zn H r m;have e:GH (gcS H) (.a n cols::r) m=(.a n cols::(GH (gcS H) r m).1,(GH (gcS H) r m).2):=rfl;rw[e];refine⟨p1,p2,by rw[af.size_cons,af.size_cons,p3],λπ j x hj hx=> ?_⟩;rw[af.size_cons] at hj;by_cases lZ:j<(Sg.a n cols).size
  .rw[af.dR lZ,Sg.o8] at hx ⊢;obtain⟨v,hv⟩:=aCy cols j;rw[hv] at hx ⊢;exact hx
  .rw[af.lx (by omega)] at hx ⊢;exact p4 π _ x (by omega) hx
theorem ac9 (H:Nat)(r:RV)(m:List Nat):Gc RV.rel H r m (gcR H r m):=by
 cases r with
 |c c=>have G:=aHV H c m;exact⟨G.pre,G.ok,G.rel⟩
 |agg cs=>
  obtain⟨p1,p2,p3,p4⟩:=Zn H cs m;refine⟨p1,p2,λπ x ⟨a,hx,ha⟩=>⟨a,hx,?_⟩⟩;obtain⟨l1,l2⟩:=jm ha;refine xP (by rw[p3,l1]) λj hj=> ?_;rw[p3] at hj;obtain⟨y,hy,hr⟩:=l2 j hj;exact⟨y,hy,p4 π j y hj hr⟩
theorem axr (H:Nat)(r:AV)(m:List Nat):Gc AV.rel H r m (gcA H r m):=by
 cases r with
 |r c=>have G:=ac9 H c m;exact⟨G.pre,G.ok,G.rel⟩
 |tup cs=>
  obtain⟨p1,p2,_,_⟩:=ac8 (R:=RV.rel) (λh a x r=>RV.dK h a x r) (ac9 H) cs m;exact⟨p1,p2,λπ x ⟨a,hx,ha⟩=>⟨a,hx,aHW (R:=RV.rel) (λh a x r=>RV.dK h a x r) (ac9 H) cs m π _ ha⟩⟩
 |fn f cs=>
  obtain⟨p1,p2,_,_⟩:=ac8 (R:=RV.rel) (λh a x r=>RV.dK h a x r) (ac9 H) cs m;exact⟨p1,p2,λπ x ⟨a,hx,ha⟩=>⟨a,hx,aHW (R:=RV.rel) (λh a x r=>RV.dK h a x r) (ac9 H) cs m π _ ha⟩⟩
 |Vk=>exact⟨Af.refl _,id,λ_ _ _=>trivial⟩
structure GcB (H:Nat)(b b':Option af)(m':List Nat):Prop where
 size:b'.map af.size=b.map af.size
 rel:∀k k',b=some k->b'=some k'->∀π (j:Nat) x,j<af.size k->(af.get k j).rel π x->(af.get k' j).rel (Ld π H m') x
theorem GcB.pre {H:Nat}{b b':Option af}{m m':List Nat}(h:GcB H b b' m)(p:Af m m'):GcB H b b' m':=
 ⟨h.size,λk k' e e' π j x hj hx=>CV.dK p.ext _ _ (h.rel k k' e e' π j x hj hx)⟩
theorem aHX (H:Nat)(b:Option af)(m:List Nat):Af m (gcB H b m).2/\(MOk H m->MOk H (gcB H b m).2)/\GcB H b (gcB H b m).1 (gcB H b m).2:=by
 cases b with
 |none=>exact⟨Af.refl _,id,rfl,λk k' e=>by cases e⟩
 |some k=>
  obtain⟨p1,p2,p3,p4⟩:=Zn H k m;refine⟨p1,p2,⟨by simp only[gcB,RX,p3],λk1 k' e e' π j x hj hx=> ?_⟩⟩;cases e;cases e'
  exact p4 π j x hj hx
theorem aou (k:Nat)(d:List Nat)(H:Nat):∀(l:List (Option af)) (j0:Nat) (m:List Nat),Af m (gcO k d H l j0 m).2/\(MOk H m->MOk H (gcO k d H l j0 m).2)/\(gcO k d H l j0 m).1.length=l.length/\
  ∀(j:Nat) b b',l[j]? =some b->(gcO k d H l j0 m).1[j]? =some b'->(j0+j<k/\j0+j∉d/\b'=b)∨((j0+j<k->j0+j∉d->False)/\GcB H b b' (gcO k d H l j0 m).2)
 | [],j0,m=>⟨Af.refl _,id,rfl,λj b b' h=>by simp at h⟩
 |b0::l,j0,m=>by
  simp only[gcO];split
  .rename_i hc
   simp only[cy,Nat.blt_eq,o6] at hc;obtain⟨p1,p2,p3,p4⟩:=aou k d H l (j0+1) m;refine⟨p1,p2,by simp[p3],λj b b' hb fw=> ?_⟩;cases j with
   |zero=>
    simp at hb fw
    subst hb fw;refine .inl ⟨hc.1,λhm=> ?_,rfl⟩;have:=List.any_eq_false.1 hc.2 _ hm;simp at this
   |succ j=>
    have:=p4 j b b' (by simpa using hb) (by simpa using fw);rw[show j0+1+j=j0+(j+1) by omega] at this;exact this
  .rename_i hc
   obtain⟨q1,q2,q3⟩:=aHX H b0 m;obtain⟨p1,p2,p3,p4⟩:=aou k d H l (j0+1) (gcB H b0 m).2;refine⟨q1.trans p1,λok=>p2 (q2 ok),by simp[p3],λj b b' hb fw=> ?_⟩;cases j with
   |zero=>
    simp at hb fw
    subst hb fw;refine .inr ⟨λh1 h2=> ?_,q3.pre p1⟩;have e1:v6 j0 k=true:=by simpa using h1
    have e2:d.any (ww j0)=false:=by
     rw[List.any_eq_false];intro y hy he;have:=oZ he;subst this;exact h2 hy
    rw[e1,e2] at hc;cases hc
   |succ j=>
    have:=p4 j b b' (by simpa using hb) (by simpa using fw);rw[show j0+1+j=j0+(j+1) by omega] at this;exact this
theorem aHY (H:Nat)(heap:List (Option af)):∀(fuel i:Nat) (m:List Nat) (acc:List (Option af)) (z:List (Option af)×List Nat),gcN H heap fuel i m acc=some z->acc.length=i->i<=m.length->
  (∀(j:Nat) b b',m[j]? =some b->acc[j]? =some b'->GcB H ((heap[b]?).getD none) b' m)->
  Af m z.2/\(MOk H m->MOk H z.2)/\z.1.length=z.2.length/\∀(j:Nat) b b',z.2[j]? =some b->z.1[j]? =some b'->GcB H ((heap[b]?).getD none) b' z.2
 |0,_,_,_,_,h,_,_,_=>by simp[gcN] at h
 |fuel+1,i,m,acc,z,h,hi,hi2,aM1=>by
  simp only[gcN] at h;split at h
  .rename_i hn
   cases h;have:m.length<=i:=List.getElem?_eq_none_iff.1 hn;exact⟨Af.refl _,id,by simp;omega,aM1⟩
  .rename_i b hb
   obtain⟨q1,q2,q3⟩:=aHX H ((heap[b]?).getD none) m;have nR:i<m.length:=(lX.1 hb).1;have hlen:m.length<=(gcB H ((heap[b]?).getD none) m).2.length:=by obtain⟨t,ht⟩:=q1;rw[ht];simp
   obtain⟨p1,p2,p3,p4⟩:=aHY H heap fuel (i+1) _ _ z h (by simp[hi]) (by omega) (λj b1 b1' h1 h1'=>by
    rcases aD1 h1' with h1'| ⟨hj,rfl⟩
    .have hj:j<acc.length:=(lX.1 h1').1
     have hm:m[j]? =some b1:=by
      have e:m[j]? =some (m[j]'(by omega)):=kE _;rw[e];have:=q1.get e;rw[h1] at this;exact this.symm
     exact(aM1 j b1 b1' hm h1').pre q1
    .have:b1=b:=by
      rw[hj,hi] at h1;have:=q1.get hb;rw[h1] at this;exact NJ this
     subst this;exact q3)
   exact⟨q1.trans p1,λok=>p2 (q2 ok),p3,p4⟩
end Go.Ab
namespace Go.Ab
variable [ax]
section
variable {P:Program} {E:Env} {X:Cx}
structure In (X:Cx)(h0:List af):Prop where
 k:X.k=h0.length
 h:rW X.p0 (hC (h0.map some)) (hZ (h0.map some)) X.w0
 d:∀b,X.p0 b≠none->b<X.k
theorem iA.same {h0:List af}{π:Pi}{s:St}{a:Act}{w:World}(I:In X h0)(R:iA X h0 π s a w){b:Nat}(hb:b<X.k)(hn:b∉s.dt){k:af}(hk:s.bO b=some k){B:Nat}{s0 q e:Nat}(hp:π b=some (B,s0,q,e)){j:Nat}(hj:j<af.size k):
  ∃v,cl w B (s0+j)=some v/\(af.get k j).rel X.p0 v:=by
 have h1:=R.drt b hb hn;rw[hk] at h1;have hz:hZ (h0.map some) b=some (af.size k):=by rw[PI,<-h1];rfl
 obtain⟨B',s',e',uk,hle,k1,k2⟩:=I.h.hp b _ hz;rw[R.rel.xt b hb,uk] at hp;cases hp;obtain⟨v,hv,hr⟩:=k2 j hj;rw[aCA h1.symm hj] at hr;refine⟨v,?_,hr⟩;rw[R.rel.fr.cl (aaY (by rw[hv];rfl)),hv];rintro ⟨b2,s2,q2,e2,ED,hd2,hp2,i1,i2⟩
 have oe:b2≠b:=λe=>hn (e▸hd2)
 have hz2:hZ (h0.map some) b2≠none:=by
  rw[PI];have:b2<h0.length:=by rw[<-I.k];exact ED
  rw[kE this];simp
 exact I.h.dj b2 b B s2 q2 e2 s0 _ e oe hz2 (by rw[hz];simp) hp2 uk (s0+j) i1 i2 (by omega) (by omega)
omit [ax] in
theorem aEc {l:List (Option af)}{b:Nat}(h:b<l.length):l[b]? =some ((l[b]?).getD none):=by
 rw[kE h];rfl
theorem aM8 {h0:List af}{π:Pi}{s:St}{a:Act}{w:World}(I:In X h0)(R:iA X h0 π s a w){H:Nat}(hH:X.k<=H)(hHl:H<=s.heap.length){m0:List Nat}(ok0:MOk H m0){z:List (Option af)×List Nat}
  (hz:gcN H s.heap 1000 0 (gcO X.k s.dt H (s.heap.take H) 0 m0).2 []=some z):
  Af m0 z.2/\rW (Ld π H z.2) (hC ((gcO X.k s.dt H (s.heap.take H) 0 m0).1++z.1)) (hZ ((gcO X.k s.dt H (s.heap.take H) 0 m0).1++z.1)) w/\
  ((gcO X.k s.dt H (s.heap.take H) 0 m0).1++z.1).length=H+z.2.length/\
  (∀b,b<H->b<X.k->b∉s.dt->(((gcO X.k s.dt H (s.heap.take H) 0 m0).1++z.1)[b]?).getD none=s.bO b)/\
  (∀b,hZ ((gcO X.k s.dt H (s.heap.take H) 0 m0).1++z.1) b≠none->(b<H/\s.gt.z b≠none)∨∃b0,H<=b/\z.2[b-H]? =some b0/\H<=b0/\s.gt.z b0≠none):=by
 obtain⟨o1,o2,o3,o4⟩:=aou X.k s.dt H (s.heap.take H) 0 m0;generalize hy:gcO X.k s.dt H (s.heap.take H) 0 m0=y at*
 obtain⟨n1,n2,n3,n4⟩:=aHY H s.heap 1000 0 y.2 [] z hz rfl (Nat.zero_le _) (λj b b' _ h=>by simp at h);have hyl:y.1.length=H:=by rw[o3];simp;omega
 have ok:=n2 (o2 ok0)
 have xt:∀b,b<H->∃x,y.1[b]? =some x/\(y.1++z.1)[b]? =some x/\(x=s.bO b/\b<X.k/\b∉s.dt∨(b<X.k->b∉s.dt->False)/\GcB H (s.bO b) x z.2):=λb hb=>by
  have h1:y.1[b]? =some (y.1[b]'(by omega)):=kE _
  have h2:(s.heap.take H)[b]? =some (s.bO b):=by
   rw[aaQ,if_pos hb];exact aEc (by omega)
  refine⟨_,h1,by rw[TO (by omega)];exact h1,?_⟩;have o5:=o4 b _ _ h2 h1;simp only[gW] at o5;rcases o5 with⟨q1,q2,q3⟩| ⟨q0,q⟩
  .exact .inl ⟨q3,q1,q2⟩
  .exact .inr ⟨q0,q.pre n1⟩
 have new:∀b,H<=b->b<H+z.2.length->∃b0 x,z.2[b-H]? =some b0/\H<=b0/\(y.1++z.1)[b]? =some x/\GcB H (s.bO b0) x z.2:=λb h1 h2=>by
  have e1:z.2[b-H]? =some (z.2[b-H]'(by omega)):=kE _;have e2:z.1[b-H]? =some (z.1[b-H]'(by omega)):=kE _;refine⟨_,_,e1,ok.2 _ (List.mem_of_getElem? e1),?_,n4 _ _ _ e1 e2⟩;rw[ac1 (by omega),hyl];exact e2
 have len:(y.1++z.1).length=H+z.2.length:=by simp;omega
 have src:∀b n,hZ (y.1++z.1) b=some n->∃b0 k0 k,s.bO b0=some k0/\af.size k0=n/\(y.1++z.1)[b]? =some (some k)/\af.size k=n/\Ld π H z.2 b=π b0/\((b<H/\b0=b)∨(H<=b/\z.2[b-H]? =some b0/\H<=b0))/\
   (k=k0/\b<X.k/\b∉s.dt/\b0=b∨∀(j:Nat) x,j<af.size k0->(af.get k0 j).rel π x->(af.get k j).rel (Ld π H z.2) x):=λb n hn=>by
  have hbl:b<H+z.2.length:=by
   rw[<-len];rcases o7 b (y.1++z.1).length with h|h
   .exact h
   .simp only[hZ,IX h] at hn;cases hn
  rcases o7 b H with hb|hb
  .obtain⟨x,h1,h2,h3⟩:=xt b hb;simp only[hZ,h2,KY] at hn;cases x with
   |none=>cases hn
   |some k=>
    have hkn:af.size k=n:=by simpa using hn
    have hpi:Ld π H z.2 b=π b:=by unfold Ld;rw[if_pos hb]
    rcases h3 with⟨q1,q2,q3⟩| ⟨_,q⟩
    .exact⟨b,k,k,q1.symm,hkn,h2,hkn,hpi,.inl ⟨hb,rfl⟩,.inl ⟨rfl,q2,q3,rfl⟩⟩
    .have hs:=q.size;cases Qz:s.bO b with
     |none=>rw[Qz] at hs;cases hs
     |some k0=>
      rw[Qz] at hs q;have:af.size k=af.size k0:=by simpa using hs
      exact⟨b,k0,k,Qz,by omega,h2,hkn,hpi,.inl ⟨hb,rfl⟩,.inr λj x hj hx=>q.rel k0 k rfl rfl π j x hj hx⟩
  .obtain⟨b0,x,h1,h2,h3,q⟩:=new b hb hbl;simp only[hZ,h3,KY] at hn;cases x with
   |none=>cases hn
   |some k=>
    have hkn:af.size k=n:=by simpa using hn
    have hpi:Ld π H z.2 b=π b0:=by unfold Ld;rw[if_neg (by omega),h1]
    have hs:=q.size;cases Qz:s.bO b0 with
    |none=>rw[Qz] at hs;cases hs
    |some k0=>
     rw[Qz] at hs q;have:af.size k=af.size k0:=by simpa using hs
     exact⟨b0,k0,k,Qz,by omega,h3,hkn,hpi,.inr ⟨hb,h1,h2⟩,.inr λj x hj hx=>q.rel k0 k rfl rfl π j x hj hx⟩
 refine⟨o1.trans n1,⟨R.rel.hp.am,λb B s1 q1 e1 hz1 GJ Be=> ?_,λb n hn=> ?_,λb b' B s1 q1 e1 s2 q2 e2 oe hz1 hz2 GJ hp2 i i1 i2 i3 i4=> ?_⟩,len,λb hb hbk hnd=> ?_,λb hb=> ?_⟩
 .cases hn1:hZ (y.1++z.1) b with
  |none=>exact absurd hn1 hz1
  |some n=>
   obtain⟨b0,k0,k,h1,h2,h3,h4,h5,h6,h7⟩:=src b n hn1;have Ng:s.gt.z b0=some (af.size k0):=St.apJ h1;rw[h5] at GJ;exact R.rel.hp.lb b0 B s1 q1 e1 (by rw[Ng];simp) GJ Be
 .obtain⟨b0,k0,k,h1,h2,h3,h4,h5,h6,h7⟩:=src b n hn;have Ng:s.gt.z b0=some (af.size k0):=St.apJ h1;obtain⟨B,s1,e1,hp,hle,m1,m2⟩:=R.rel.hp.hp b0 _ Ng;refine⟨B,s1,e1,by rw[h5,<-h2];exact hp,by omega,m1,λj hj=> ?_⟩;rw[afF h3 (by omega)];rcases h7 with⟨rfl,q1,q2,rfl⟩|q
  .obtain⟨v,hv,hr⟩:=R.same I q1 q2 h1 hp (j:=j) (by omega);refine⟨v,hv,CV.dK (λb p hbp=> ?_) _ _ hr⟩;have hbk:=I.d b (by rw[hbp];simp);unfold Ld;rw[if_pos (by omega),R.rel.xt b hbk];exact hbp
  .obtain⟨v,hv,hr⟩:=m2 j (by omega);rw[St.aSg h1 (by omega)] at hr;exact⟨v,hv,q j v (by omega) hr⟩
 .cases hn1:hZ (y.1++z.1) b with
  |none=>exact hz1 hn1
  |some n=>
  cases hn2:hZ (y.1++z.1) b' with
  |none=>exact hz2 hn2
  |some n'=>
  obtain⟨b0,k0,k,h1,_,_,_,h5,h6,_⟩:=src b n hn1;obtain⟨b0',k0',k',h1',_,_,_,h5',h6',_⟩:=src b' n' hn2;rw[h5] at GJ;rw[h5'] at hp2
  have a2r:b0≠b0':=by
   intro e;subst e;rcases h6 with⟨q1,q2⟩| ⟨q1,q2,q3⟩<;>rcases h6' with⟨r1,r2⟩| ⟨r1,r2,r3⟩
   .exact oe (q2.symm.trans r2)
   .omega
   .omega
   .obtain⟨l1,g1⟩:=lX.1 q2;obtain⟨l2,g2⟩:=lX.1 r2;have:=List.pairwise_iff_getElem.1 ok.1;rcases afa (b-H) (b'-H) with h|h|h
    .exact this _ _ l1 l2 h (g1.trans g2.symm)
    .omega
    .exact this _ _ l2 l1 h (g2.trans g1.symm)
  exact R.rel.hp.dj b0 b0' B s1 q1 e1 s2 q2 e2 a2r (by rw[St.apJ h1];simp) (by rw[St.apJ h1'];simp) GJ hp2 i i1 i2 i3 i4
 .obtain⟨x,h1,h2,h3⟩:=xt b hb;rw[h2];rcases h3 with⟨q1,_⟩| ⟨q0,_⟩
  .exact q1
  .exact(q0 hbk hnd).elim
 .cases hn:hZ (y.1++z.1) b with
  |none=>exact absurd hn hb
  |some n=>
   obtain⟨b0,k0,k,h1,_,_,_,_,h6,_⟩:=src b n hn;rcases h6 with⟨q1,rfl⟩| ⟨q1,q2,q3⟩
   .exact .inl ⟨q1,by rw[St.apJ h1];simp⟩
   .exact .inr ⟨b0,q1,q2,q3,by rw[St.apJ h1];simp⟩
end
end Go.Ab
namespace Go.Ab
variable [ax]
section
variable {P:Program} {E:Env} {X:Cx} {h0:List af} {π:Pi} {s s':St} {a:Act} {w:World}
theorem iA.gc (I:In X h0)(R:iA X h0 π s a w){H:Nat}(hH:X.k<=H)(h:s.gc X.k H=some s'):∃π',iA X h0 π' s' a w:=by
 unfold St.gc at h;split at h
 .cases h
 rename_i hb
 have hHl:H<=s.heap.length:=EA hb;simp only at h;split at h
 .rename_i z hz
  obtain⟨p1,p2,p3,p4⟩:=ac8 (R:=AV.rel) (λh a x r=>AV.dK h a x r) (axr H) s.tmps [];have ok0:MOk H (GH (gcA H) s.tmps []).2:=p2 ⟨List.nodup_nil,λ_ h=>by cases h⟩;obtain⟨q1,q2,q3,q4,q5⟩:=aM8 I R hH hHl ok0 hz;cases h;refine⟨Ld π H z.2,⟨⟨λi=> ?_,R.rel.nt,R.rel.df,q2,λb hb=> ?_,λb B s1 qq e hkb hzb hp hB i i1 i2=> ?_,R.rel.fr⟩,p3.trans R.len,λb hb=> ?_,λb hb hn=> ?_,?_,R.dlt⟩⟩
  .show(akv (GH (gcA H) s.tmps []).1 i).rel _ _;rw[Av];have hr:(akv s.tmps i).rel π (a.tmps.getD i undef):=R.rel.tm i;rw[Av] at hr;rcases o7 i s.tmps.length with hi|hi
   .have e1:s.tmps[i]? =some (s.tmps[i]'hi):=kE _;have e2:(GH (gcA H) s.tmps []).1[i]? =some ((GH (gcA H) s.tmps []).1[i]'(by omega)):=kE _;have hr:(s.tmps.getD i udf).rel π (a.tmps.getD i undef):=hr;simp only[List.getD,e1,KY] at hr;simp only[List.getD,e2,KY];exact AV.dK q1.ext _ _ (p4 i _ _ e1 e2 π _ hr)
   .have hr:(s.tmps.getD i udf).rel π (a.tmps.getD i undef):=hr;simp only[List.getD,IX hi,Option.getD_none] at hr;simp only[List.getD,IX (show(GH (gcA H) s.tmps []).1.length<=i by omega),Option.getD_none];exact(axr H udf z.2).rel π _ hr
  .unfold Ld;rw[if_pos (by omega)];exact R.rel.xt b hb
  .rcases q5 b hzb with⟨hbH,Ng⟩| ⟨b0,hbH,hm,Qz,Ng⟩
   .unfold Ld at hp;rw[if_pos hbH] at hp;exact R.rel.ft b B s1 qq e hkb Ng hp hB i i1 i2
   .unfold Ld at hp;rw[if_neg (by omega),hm] at hp;exact R.rel.ft b0 B s1 qq e (by omega) Ng hp hB i i1 i2
  .show b<(_++_:List (Option af)).length;rw[q3];unfold Ld at hb;split at hb
   .omega
   .cases hm:z.2[b-H]? with
    |none=>rw[hm] at hb;exact absurd rfl hb
    |some b0=>have:=(lX.1 hm).1;omega
  .exact(q4 b (by omega) hb hn).trans (R.drt b hb hn)
  .show X.k<=(_++_:List (Option af)).length;rw[q3];omega
 .cases h
theorem iA.a01 (R:iA X h0 π s a w)(t:Nat):iA X h0 π {s with tmps:=s.tmps.set t Vk} a w:=by
 refine⟨⟨λi=> ?_,R.rel.nt,R.rel.df,R.rel.hp,R.rel.xt,R.rel.ft,R.rel.fr⟩,by simpa using R.len,R.dom,R.drt,R.hk,R.dlt⟩;show(akv (s.tmps.set t Vk) i).rel π _;rw[Av];simp only[List.getD,aDl];have hr:(akv s.tmps i).rel π (a.tmps.getD i undef):=R.rel.tm i;rw[Av] at hr;split
 .split
  .trivial
  .rename_i h1 h2
   subst h1;simpa only[List.getD,IX (show s.tmps.length<=t by omega)] using hr
 .exact hr
theorem iA.aDu:∀(l:List Nat) {s:St},iA X h0 π s a w->iA X h0 π {s with tmps:=l.foldl (λl t=>l.set t Vk) s.tmps} a w
 | [],_,R=>R
 |t::l,_,R=>iA.aDu l (R.a01 t)
omit [ax] in
theorem aY5 {i:Nat}{c:CV}(h:s.tmp i=.r (.c c)):i<s.tmps.length:=by
 rcases o7 i s.tmps.length with hi|hi
 .exact hi
 .simp only[St.tmp,Av,List.getD,IX hi,Option.getD_none,udf] at h;cases h
omit [ax] in
theorem axs [ax]{π:Pi}{c:CV}{v:Value}(h:c.rel π v):(aHG c).rel π v:=by
 unfold aHG;split
 .split
  .rename_i b len z own c0
   simpa[CV.rel,cA.val] using h
  .exact h
 .exact h
omit [ax] in
theorem afG (g:CV->CV)(s:Sg):(aDv g s).size=s.size:=by
 cases s<;>rfl
omit [ax] in
theorem axt (g:CV->CV):∀b:af,af.size (b.map (aDv g))=af.size b
 | []=>rfl
 |s::l=>by
  rw[List.map_cons,af.size_cons,af.size_cons,afG,axt g l]
theorem aS2 {g:CV->CV}{π:Pi}(hg:∀c v,CV.rel π c v->CV.rel π (g c) v){s:Sg}{j:Nat}{v:Value}(h:(s.get j).rel π v):((aDv g s).get j).rel π v:=by
 cases s with
 |c x=>
  cases j with
  |zero=>exact hg _ _ h
  |succ j=>exact h
 |a n cols=>exact h
theorem aM9 {g:CV->CV}{π:Pi}(hg:∀c v,CV.rel π c v->CV.rel π (g c) v){v:Value}:∀(b:af) (j:Nat),(af.get b j).rel π v->(af.get (b.map (aDv g)) j).rel π v
 | [],_,h=>h
 |s::l,j,h=>by
  rw[List.map_cons];by_cases hj:j<s.size
  .rw[af.dR hj] at h;rw[af.dR (by rw[afG];exact hj)];exact aS2 hg h
  .rw[af.lx (by omega)] at h;rw[af.lx (by rw[afG];omega),afG];exact aM9 hg l _ h
theorem aS3 {g:CV->CV}{π:Pi}(hg:∀c v,CV.rel π c v->CV.rel π (g c) v){a:AV}{v:Value}(h:a.rel π v):(mapA g a).rel π v:=by
 unfold mapA;split
 .exact hg _ _ h
 .exact h
omit [ax] in
theorem auj (g:CV->CV)(k:Nat)(d:List Nat):∀(l:List (Option af)) (j:Nat),(ahP g k d l j).length=l.length
 | [],_=>rfl
 |b::l,j=>by simp[ahP,auj g k d l (j+1)]
omit [ax] in
theorem aHZ (g:CV->CV)(k:Nat)(d:List Nat):∀(l:List (Option af)) (j i:Nat),((ahP g k d l j)[i]?).getD none=(l[i]?).getD none∨(¬(j+i<k/\j+i∉d)/\∃b,(l[i]?).getD none=some b/\((ahP g k d l j)[i]?).getD none=some (b.map (aDv g)))
 | [],_,_=>.inl rfl
 |b::l,j,0=>by
  unfold ahP;cases hc:v6 j k&& !d.any (ww j) with
  |true=>exact .inl rfl
  |false=>
   cases b with
   |none=>exact .inl rfl
   |some b=>
    refine .inr ⟨λh=> ?_,b,rfl,rfl⟩;have h1:v6 j k=true:=tY.2 h.1
    have h2:d.any (ww j)=false:=by
     cases hd:d.any (ww j) with
     |false=>rfl
     |true=>
      obtain⟨x,hx,he⟩:=aaR.1 hd;have:=oZ he;subst this;exact absurd hx h.2
    rw[h1,h2] at hc;cases hc
 |b::l,j,i+1=>by
  have:=aHZ g k d l (j+1) i;rw[show j+1+i=j+(i+1) by omega] at this;exact this
theorem iA.aZ9 (R:iA X h0 π s a w)(g:CV->CV)(hg:∀c v,CV.rel π c v->CV.rel π (g c) v):iA X h0 π {s with tmps:=s.tmps.map (mapA g),heap:=ahP g X.k s.dt s.heap 0} a w:=by
 have hb:∀b,St.bO {s with tmps:=s.tmps.map (mapA g),heap:=ahP g X.k s.dt s.heap 0} b=s.bO b∨(¬(b<X.k/\b∉s.dt)/\∃k,s.bO b=some k/\St.bO {s with tmps:=s.tmps.map (mapA g),heap:=ahP g X.k s.dt s.heap 0} b=some (k.map (aDv g))):=λb=>by
  have:=aHZ g X.k s.dt s.heap 0 b;rw[gW] at this;exact this
 generalize Vq:({s with tmps:=s.tmps.map (mapA g),heap:=ahP g X.k s.dt s.heap 0}:St)=s2 at hb
 have hz:s2.gt.z=s.gt.z:=by
  funext b
  show(s2.bO b).map af.size=(s.bO b).map af.size;rcases hb b with h| ⟨_,k,h1,h2⟩
  .rw[h]
  .rw[h1,h2];simp[axt]
 have hc:∀b j v,(s.gt.c b j).rel π v->(s2.gt.c b j).rel π v:=λb j v h=>by
  rcases hb b with e| ⟨_,k,h1,h2⟩
  .show(match s2.bO b with|some k=>if j<k.size then k.get j else .f .u|none=>.f .u:CV).rel π v;rw[e];exact h
  .have h:(match s.bO b with|some k=>if j<k.size then k.get j else .f .u|none=>.f .u:CV).rel π v:=h;show(match s2.bO b with|some k=>if j<k.size then k.get j else .f .u|none=>.f .u:CV).rel π v;rw[h1] at h;rw[h2];simp only[axt] at h ⊢;split
   .rename_i hj
    rw[if_pos hj] at h;exact aM9 hg k j h
   .rename_i hj
    rw[if_neg hj] at h;exact h
 have hd2:s2.dt=s.dt:=by rw[<-Vq]
 have hl2:s2.heap.length=s.heap.length:=by rw[<-Vq];exact auj _ _ _ _ _
 refine⟨⟨λi=> ?_,R.rel.nt,R.rel.df,⟨R.rel.hp.am,?_,λb n hn=> ?_,?_⟩,R.rel.xt,?_,?_⟩,?_,λb fw=> ?_,λb hbk hn=> ?_,?_,?_⟩
 .have hr:(akv s.tmps i).rel π (a.tmps.getD i undef):=R.rel.tm i;show(akv s2.tmps i).rel π _;rw[<-Vq];rw[Av] at hr;rw[Av];simp only[List.getD,BA] at hr ⊢;cases he:s.tmps[i]? with
  |none=>rw[he] at hr;exact hr
  |some x=>rw[he] at hr;exact aS3 hg hr
 .rw[hz];exact R.rel.hp.lb
 .rw[hz] at hn;obtain⟨B,s1,e,h1,h2,h3,h4⟩:=R.rel.hp.hp b n hn;exact⟨B,s1,e,h1,h2,h3,λj hj=>let⟨v,hv,hr⟩:=h4 j hj;⟨v,hv,hc b j v hr⟩⟩
 .rw[hz];exact R.rel.hp.dj
 .rw[hz];intro b B s1 q e;rw[hd2];exact R.rel.ft b B s1 q e
 .rw[hd2];exact R.rel.fr
 .rw[<-Vq];simpa using R.len
 .rw[hl2];exact R.dom b fw
 .rw[hd2] at hn;rcases hb b with e| ⟨h,_⟩
  .exact e.trans (R.drt b hbk hn)
  .exact absurd ⟨hbk,hn⟩ h
 .rw[hl2];exact R.hk
 .rw[hd2];exact R.dlt
theorem aH0 {π:Pi}{c:CV}{v:Value}(h:c.rel π v):(aWP c).rel π v:=by
 unfold aWP;split
 .simpa[CV.rel,Sz.val] using h
 .exact h
theorem aS4 {π:Pi}{a:AV}{v:Value}(h:a.rel π v):(aDw a).rel π v:=by
 unfold aDw;split
 .exact aH0 (axs h)
 .exact h
omit [ax] in
theorem afH (s:Sg):(aHH s).size=s.size:=by
 cases s<;>rfl
omit [ax] in
theorem Zo:∀b:af,af.size (b.map aHH)=af.size b
 | []=>rfl
 |s::l=>by
  rw[List.map_cons,af.size_cons,af.size_cons,afH,Zo l]
theorem aS5 {π:Pi}{s:Sg}{j:Nat}{v:Value}(h:(s.get j).rel π v):((aHH s).get j).rel π v:=by
 cases s with
 |c x=>
  cases j with
  |zero=>exact aH0 (axs h)
  |succ j=>exact h
 |a n cols=>exact h
theorem asp {π:Pi}{v:Value}:∀(b:af) (j:Nat),(af.get b j).rel π v->(af.get (b.map aHH) j).rel π v
 | [],_,h=>h
 |s::l,j,h=>by
  rw[List.map_cons];by_cases hj:j<s.size
  .rw[af.dR hj] at h;rw[af.dR (by rw[afH];exact hj)];exact aS5 h
  .rw[af.lx (by omega)] at h;rw[af.lx (by rw[afH];omega),afH];exact asp l _ h
omit [ax] in
theorem aEd (l:List (Nat×Nat))(j:Nat)(b:af):af.size (aDx l j b)=af.size b:=by
 unfold aDx;split
 .rw[(axh _).1,(Zd _ _).1,Zo]
 .rw[Zo]
theorem aS6 {π:Pi}{v:Value}(l:List (Nat×Nat))(j:Nat)(b:af)(i:Nat)(hi:i<af.size b)(h:(af.get b i).rel π v):(af.get (aDx l j b) i).rel π v:=by
 unfold aDx;split
 .rw[(axh _).2,(Zd _ _).2 i (by rw[Zo];exact hi)];exact asp b i h
 .exact asp b i h
omit [ax] in
theorem auk (k:Nat)(d:List Nat)(sl:List (Nat×Nat)):∀(l:List (Option af)) (j:Nat),(akA k d sl l j).length=l.length
 | [],_=>rfl
 |b::l,j=>by simp[akA,auk k d sl l (j+1)]
omit [ax] in
theorem aH1 (k:Nat)(d:List Nat)(sl:List (Nat×Nat)):∀(l:List (Option af)) (j i:Nat),((akA k d sl l j)[i]?).getD none=(l[i]?).getD none∨(¬(j+i<k/\j+i∉d)/\∃b,(l[i]?).getD none=some b/\((akA k d sl l j)[i]?).getD none=some (aDx sl (j+i) b))
 | [],_,_=>.inl rfl
 |b::l,j,0=>by
  unfold akA;cases hc:v6 j k&& !d.any (ww j) with
  |true=>exact .inl rfl
  |false=>
   cases b with
   |none=>exact .inl rfl
   |some b=>
    refine .inr ⟨λh=> ?_,b,rfl,rfl⟩;have h1:v6 j k=true:=tY.2 h.1
    have h2:d.any (ww j)=false:=by
     cases hd:d.any (ww j) with
     |false=>rfl
     |true=>
      obtain⟨x,hx,he⟩:=aaR.1 hd;have:=oZ he;subst this;exact absurd hx h.2
    rw[h1,h2] at hc;cases hc
 |b::l,j,i+1=>by
  have:=aH1 k d sl l (j+1) i;rw[show j+1+i=j+(i+1) by omega] at this;exact this
theorem iA.rows (R:iA X h0 π s a w):iA X h0 π {s with tmps:=s.tmps.map aDw,heap:=akA X.k s.dt (sls s) s.heap 0} a w:=by
 have hb:∀b,St.bO {s with tmps:=s.tmps.map aDw,heap:=akA X.k s.dt (sls s) s.heap 0} b=s.bO b∨(¬(b<X.k/\b∉s.dt)/\∃k,s.bO b=some k/\St.bO {s with tmps:=s.tmps.map aDw,heap:=akA X.k s.dt (sls s) s.heap 0} b=some (aDx (sls s) b k)):=λb=>by
  have:=aH1 X.k s.dt (sls s) s.heap 0 b;rw[gW] at this;exact this
 generalize sls s=sl at hb ⊢
 generalize Vq:({s with tmps:=s.tmps.map aDw,heap:=akA X.k s.dt sl s.heap 0}:St)=s2 at hb
 have hz:s2.gt.z=s.gt.z:=by
  funext b
  show(s2.bO b).map af.size=(s.bO b).map af.size;rcases hb b with h| ⟨_,k,h1,h2⟩
  .rw[h]
  .rw[h1,h2];simp[aEd]
 have hc:∀b j v,(s.gt.c b j).rel π v->(s2.gt.c b j).rel π v:=λb j v h=>by
  rcases hb b with e| ⟨_,k,h1,h2⟩
  .show(match s2.bO b with|some k=>if j<k.size then k.get j else .f .u|none=>.f .u:CV).rel π v;rw[e];exact h
  .have h:(match s.bO b with|some k=>if j<k.size then k.get j else .f .u|none=>.f .u:CV).rel π v:=h;show(match s2.bO b with|some k=>if j<k.size then k.get j else .f .u|none=>.f .u:CV).rel π v;rw[h1] at h;rw[h2];simp only[aEd] at h ⊢;split
   .rename_i hj
    rw[if_pos hj] at h;exact aS6 sl b k j hj h
   .rename_i hj
    rw[if_neg hj] at h;exact h
 have hd2:s2.dt=s.dt:=by rw[<-Vq]
 have hl2:s2.heap.length=s.heap.length:=by rw[<-Vq];exact auk _ _ _ _ _
 refine⟨⟨λi=> ?_,R.rel.nt,R.rel.df,⟨R.rel.hp.am,?_,λb n hn=> ?_,?_⟩,R.rel.xt,?_,?_⟩,?_,λb fw=> ?_,λb hbk hn=> ?_,?_,?_⟩
 .have hr:(akv s.tmps i).rel π (a.tmps.getD i undef):=R.rel.tm i;show(akv s2.tmps i).rel π _;rw[<-Vq];rw[Av] at hr;rw[Av];simp only[List.getD,BA] at hr ⊢;cases he:s.tmps[i]? with
  |none=>rw[he] at hr;exact hr
  |some x=>rw[he] at hr;exact aS4 hr
 .rw[hz];exact R.rel.hp.lb
 .rw[hz] at hn;obtain⟨B,s1,e,h1,h2,h3,h4⟩:=R.rel.hp.hp b n hn;exact⟨B,s1,e,h1,h2,h3,λj hj=>let⟨v,hv,hr⟩:=h4 j hj;⟨v,hv,hc b j v hr⟩⟩
 .rw[hz];exact R.rel.hp.dj
 .rw[hz];intro b B s1 q e;rw[hd2];exact R.rel.ft b B s1 q e
 .rw[hd2];exact R.rel.fr
 .rw[<-Vq];simpa using R.len
 .rw[hl2];exact R.dom b fw
 .rw[hd2] at hn;rcases hb b with e| ⟨h,_⟩
  .exact e.trans (R.drt b hbk hn)
  .exact absurd ⟨hbk,hn⟩ h
 .rw[hl2];exact R.hk
 .rw[hd2];exact R.dlt
omit [ax] in
theorem aS7 [ax]{π:Pi}{b n:Nat}(hb:π n=π b){c:CV}{v:Value}(h:c.rel π v):(aMz b n c).rel π v:=by
 have e:∀x,π (aMy b n x)=π x:=λx=>by
  unfold aMy;split
  .rename_i hx;rw[oZ hx];exact hb
  .rfl
 unfold aMz;split
 .simpa only[CV.rel,e] using h
 .simpa only[CV.rel,e] using h
 .simpa only[CV.rel,e] using h
 .exact h
theorem iA.move (R:iA X h0 π s a w)(b:Nat):∃π',iA X h0 π' (aQp X.k b s) a w:=by
 unfold aQp;split
 case h_2=>exact⟨π,R⟩
 rename_i bO Ze
 split
 case h_2=>exact⟨π,R⟩
 rename_i nR
 have nR:=tY.1 nR;have hbl:b<s.heap.length:=aDk nR R.hk;generalize hn:s.heap.length=n
 generalize hs1:({s with heap:=s.heap.set b none++[some bO],dt:=mark X.k b s.dt}:St)=s1
 have Zh:jZ X.k [.kill b,.new n bO] s=some s1:=by
  have h1:v6 b s.heap.length=true:=tY.2 hbl;have h2:ww n s.heap.length=true:=by rw[hn];exact NL _
  simp[jZ,Up.ok,Up.app,h1,h2,<-hs1]
 have A:=I1 Zh;have hg:=NU Zh;have hz:s.gt.z b=some (af.size bO):=by show(s.bO b).map af.size=_;rw[Ze];rfl
 obtain⟨B,s0,e,hp,hle,k1,k2⟩:=R.rel.hp.hp b _ hz
 have aQH:π n=none:=by
  cases hb:π n with
  |none=>rfl
  |some q=>have:=R.dom n (by rw[hb];simp);omega
 have auh:=Ax aQH (B,s0,af.size bO,e);have hD:b∈s1.dt:=by rw[<-hs1];exact Ay.2 (.inr ⟨rfl,nR⟩)
 have a2s:∀x,x∈s.dt->x∈s1.dt:=λx hx=>by rw[<-hs1];exact Ay.2 (.inl hx)
 have R0:=(R.rel.K8 auh (λb' fw=>by simp only[Ai];rw[if_neg (by have:=R.hk;omega)])).aJN a2s;have Qz:Ai π n (B,s0,af.size bO,e) b=some (B,s0,af.size bO,e):=auh _ _ hp;have hp0:X.p0 b=some (B,s0,af.size bO,e):=by rw[<-R.rel.xt b nR];exact hp
 have R2:=(R0.kill b).new (k:=bO) (b:=n) (pI π n (B,s0,af.size bO,e)) (by have:=R.hk;omega) hle k1
  (λj hj=>by
   obtain⟨v,hv,hr⟩:=k2 j hj;have hc:s.gt.c b j=af.get bO j:=by show(match s.bO b with|some k=>if j<k.size then k.get j else .f .u|none=>.f .u:CV)=_;rw[Ze];simp only[hj,lT]
   rw[hc] at hr;exact⟨v,hv,CV.dK auh _ _ hr⟩)
  (λb' s' q' e' oe tZ fw i i1 i2 i3 i4=>by
   by_cases eb:b'=b
   .subst eb;simp[Up.hI] at tZ
   .exact R0.hp.dj b b' B s0 _ e s' q' e' (λh=>eb h.symm) (by rw[hz];simp) (by simpa[Up.hI,eb] using tZ) Qz fw i i1 i2 i3 i4)
  (λ_ i i1 i2=>⟨b,s0,_,e,nR,hD,hp0,i1,i2⟩) (λh=>R.rel.hp.lb b B s0 _ e (by rw[hz];simp) hp h)
 have RS:iA X h0 (Ai π n (B,s0,af.size bO,e)) s1 a w:=A.aXb R hg R2 (λb' fw=>by
   by_cases e':b'=n
   .exact .inr ⟨by omega,by simp[cB];omega⟩
   .simp only[Ai,e',gA] at fw;exact .inl fw) (λx hx=>by
   rw[<-hs1] at hx;rcases Ay.1 hx with h| ⟨rfl,h⟩
   .exact R.dlt x h
   .exact h)
 have M:=RS.aZ9 (aMz b n) λc v h=>aS7 (by rw[pI,Qz]) h
 rw[<-hs1] at M;exact⟨_,M⟩
theorem iA.aHI (R:iA X h0 π s a w)(p:Nat×List CK):∃π',iA X h0 π' (aHI X.k s p) a w:=by
 unfold Ab.aHI;split
 .split
  .exact⟨π,R.aZ9 aHG λc v h=>axs h⟩
  .exact⟨π,R.rows⟩
  .exact R.move _
 split
 .rename_i hx
  have nR:=aY5 hx;generalize hv:AV.r (.c (.sl s.heap.length (.k 0) (.s 0) p.2.length true))=v
  generalize hk:([.a (.s 0) (p.2.map CK.nQ)]:af)=k
  have hk0:af.size k=0:=by rw[<-hk];simp[af.size,Sg.size,Sz.val]
  have Zh:jZ X.k [.t p.1 v,.new s.heap.length k] s=some {s with tmps:=s.tmps.set p.1 v,heap:=s.heap++[some k]}:=by
   have h1:v6 p.1 s.tmps.length=true:=by simpa using nR
   have h2:ww s.heap.length s.heap.length=true:=NL _;simp[jZ,Up.ok,Up.app,h1,h2]
  have A:=I1 Zh;have hg:=NU Zh
  have aQH:π s.heap.length=none:=by
   cases hb:π s.heap.length with
   |none=>rfl
   |some q=>have:=R.dom _ (by rw[hb];simp:π s.heap.length≠none);omega
  have auh:=Ax aQH (0,0,af.size k,0);have hr:(RV.c CV.nils).rel π (a.tmps.getD p.1 undef):=by have:=R.rel.tm p.1;rwa [show s.gt.t p.1=_ from hx] at this
  have R0:=R.rel.K8 auh (λb hb=>by simp only[Ai];rw[if_neg (by have:=R.hk;omega)])
  have R1:Rel X (·∈s.dt) (Ai π s.heap.length (0,0,af.size k,0)) ((Up.t p.1 v).hI s.gt) a w:=by
   refine⟨λi=> ?_,R0.nt,R0.df,R0.hp,R0.xt,R0.ft,R0.fr⟩;show(if i=p.1 then v else s.gt.t i).rel _ _;split
   .rename_i e;subst e;subst hv
    exact⟨_,_,_,_,pI _ _ _,by simp[cA.val,Sz.val],λ_=>by simp[cA.val,Sz.val,hk0],.inl ⟨rfl,none,hr⟩⟩
   .exact R0.tm i
  have R2:=R1.new (k:=k) (pI π s.heap.length (0,0,af.size k,0)) R.hk (by omega) (λi h1 h2=>by omega) (λj hj=>by omega) (λb' s' q' e' _ _ _ i h1 h2=>by omega) (λ_ i h1 h2=>by omega)
  exact⟨_,A.aXb R hg R2 (λb hb=>by
   by_cases e:b=s.heap.length
   .exact .inr ⟨by omega,by simp[cB];omega⟩
   .simp only[Ai,e,gA] at hb;exact .inl hb) R.dlt⟩
 .exact⟨π,R⟩
theorem iA.nils:∀(l:List (Nat×List CK)) {s:St} {π:Pi},iA X h0 π s a w->∃π',iA X h0 π' (l.foldl (Ab.aHI X.k) s) a w
 | [],_,π,R=>⟨π,R⟩
 |p::l,_,_,R=>let⟨_,R'⟩:=R.aHI p;iA.nils l R'
theorem iA.aaX (I:In X h0)(R:iA X h0 π s a w){h:Hd}(hh:s.aaX X.k h=some s'):∃π',iA X h0 π' s' a w:=by
 obtain⟨π1,R1⟩:=iA.nils h.nils (iA.aDu h.aDu R);exact R1.gc I (eO _) hh
theorem iA.head (I:In X h0)(R:iA X h0 π s a w){hs:Hs}{c:Code}(h:s.head X.k hs c=some s'):∃π',iA X h0 π' s' a w:=by
 unfold St.head at h;split at h
 .exact R.gc I (eO _) h
 .split at h
  .exact R.gc I (eO _) h
  .exact R.aaX I h
def a0a:AX->Exit
 |.nrm=>.normal
 |.ex id=>.exit id
 |.ret=>.ret
def aXf (X:Cx)(h0:List af){ρ:Type}(K:AX->St->Option ρ)(r:ρ)(Q:Exit->Act->World->Prop):Prop:=
 ∀e s π a w,iA X h0 π s a w->K e s=some r->Q (a0a e) a w
theorem azf {c:Code}{hd:St->Option St}{ρ:Type}{body:St->(AX->St->Option ρ)->Option ρ}{K:AX->St->Option ρ}{r:ρ}{Q:Exit->Act->World->Prop}
  (hb:∀{s:St} {K:AX->St->Option ρ} {Q:Exit->Act->World->Prop} {π:Pi} {a:Act} {w:World},iA X h0 π s a w->body s K=some r->aXf X h0 K r Q->c.wp P Q a w)
  (hh:∀{s s':St} {π:Pi} {a:Act} {w:World},iA X h0 π s a w->hd s=some s'->∃π',iA X h0 π' s' a w)(hQ:aXf X h0 K r Q):
  ∀(n:Nat) {s:St} {π:Pi} {a:Act} {w:World},iA X h0 π s a w->iter hd body K n s=some r->Code.rounds P c Q n a w
 |0,_,_,_,_,_,h=>by cases h
 |n+1,s,π,a,w,R,h=>by
  have h:(body s λe s=>match e with
    |.nrm=>match hd s with
     |none=>none
     |some s=>xO s (iter hd body K n)
    |e=>K e s)=some r:=h
  simp only[K7] at h;rw[rounds_succ];refine hb R h λe s2 π2 a2 w2 R2 hK=> ?_;cases e with
  |nrm=>
   simp only at hK;split at hK
   .cases hK
   .rename_i s3 hs3
    obtain⟨π3,R3⟩:=hh R2 hs3;exact azf hb hh hQ n R3 hK
  |ex id=>exact hQ _ _ _ _ _ R2 hK
  |ret=>exact hQ _ _ _ _ _ R2 hK
def NH (P:Program)(E:Env)(hs:Hs)(nt kk lf:Nat)(a:Code):Prop:=
 ∀σ,apC hs a=some σ->σ.kk=kk->∀{ρ:Type} (s:St) (K:AX->St->Option ρ) (r:ρ),σ.run s K=some r->∃n,iter (λt=>t.head kk hs a) (Gj P E hs nt kk lf a) K n s=some r
def atV (P:Program)(E:Env)(hs:Hs)(nt kk lf:Nat)(b:Code):Prop:=
 ∀j,ayY hs b=some j->j.sm.kk=kk->∀{ρ:Type} (s:St) (K:AX->St->Option ρ) (r:ρ),j.sm.run s K=some r->Gj P E hs nt kk lf b s K=some r
def KW (P:Program)(E:Env)(hs:Hs)(nt kk lf:Nat):Code->Prop
 |.seq a b=>atV P E hs nt kk lf b/\KW P E hs nt kk lf a/\KW P E hs nt kk lf b
 |.cond _ a b=>KW P E hs nt kk lf a/\KW P E hs nt kk lf b
 |.block _ a=>KW P E hs nt kk lf a
 |.loop a=>NH P E hs nt kk lf a/\KW P E hs nt kk lf a
 |_=>True
omit [ax] in
theorem aS8 {hd:List Hd}{d0:List Nat}{jn:List Jn}{rk:Option Hd}(a:Code):apC ⟨hd,[],d0,jn,rk⟩ a=none:=by
 unfold apC;split<;>rfl
omit [ax] in
theorem aS9 {hd:List Hd}{sm:List Sm}{d0:List Nat}{rk:Option Hd}(a:Code):ayY ⟨hd,sm,d0,[],rk⟩ a=none:=rfl
omit [ax] in
theorem KW.nil (P:Program)(E:Env)(hd:List Hd)(d0:List Nat)(nt kk lf:Nat)(c:Code):KW P E ⟨hd,[],d0,[],none⟩ nt kk lf c:=by
 induction c with
 |seq a b iha ihb=>exact⟨(λj h=>by rw[aS9] at h;cases h),iha,ihb⟩
 |cond x a b iha ihb=>exact⟨iha,ihb⟩
 |block id a iha=>exact iha
 |loop a iha=>exact⟨(λσ h=>by rw[aS8] at h;cases h),iha⟩
 |_=>trivial
def Bh {α:Type}(p:α->Prop):List α->Prop
 | []=>True
 |a::l=>p a/\Bh p l
omit [ax] in
theorem Bh.append {α:Type}{p:α->Prop}:∀{l m:List α},Bh p (l++m)->Bh p l/\Bh p m
 | [],_,h=>⟨trivial,h⟩
 |_::_,_,⟨h1,h2⟩=>⟨⟨h1,(Bh.append h2).1⟩,(Bh.append h2).2⟩
omit [ax] in
theorem KW.of {P:Program}{E:Env}{hs:Hs}{nt kk lf:Nat}{c:Code}(h:Bh (NH P E hs nt kk lf) (KU c))(hj:Bh (atV P E hs nt kk lf) (KV hs c)):KW P E hs nt kk lf c:=by
 induction c with
 |seq a b iha ihb=>
  obtain⟨j1,j2⟩:=Bh.append hj;refine⟨λj hjn=> ?_,iha (Bh.append h).1 (Bh.append j2).1,ihb (Bh.append h).2 (Bh.append j2).2⟩;rw[hjn] at j1;exact j1.1 j hjn
 |cond x a b iha ihb=>exact⟨iha (Bh.append h).1 (Bh.append hj).1,ihb (Bh.append h).2 (Bh.append hj).2⟩
 |block id a iha=>exact iha h hj
 |loop a iha=>exact⟨h.1,iha h.2 hj⟩
 |_=>trivial
def R9 {D X ρ:Type}(step:D->(D->Option ρ)->(X->Option ρ)->Option ρ)(n:Nat):D->(X->Option ρ)->Option ρ:=
 Nat.rec (motive:=λ_=>D->(X->Option ρ)->Option ρ) (λ_ _=>none) (λ_ ih d x=>step d (λd=>ih d x) x) n
theorem Bi (hE:∀f F,E f=some F->Sound P f F)(hm:P.follows .mixedOrders=true)(I:In X h0){hs:Hs}{nt lf:Nat}(YP:nt<=X.N){ρ:Type}{r:ρ}:
  ∀(c:Code),KW P E hs nt X.k lf c->∀{s:St} {K:AX->St->Option ρ} {Q:Exit->Act->World->Prop} {π:Pi} {a:Act} {w:World},iA X h0 π s a w->Gj P E hs nt X.k lf c s K=some r->aXf X h0 K r Q->c.wp P Q a w
 |.skip,hS,s,K,Q,π,a,w,R,h,hQ=>wp_skip (hQ .nrm _ _ _ _ R h)
 |.region id ops false,hS,s,K,Q,π,a,w,R,h,hQ=>by
  obtain⟨s1,dS,hT,hK⟩:=Lc (by rw[R.len];exact YP) (show K3 P E nt X.k ops.toList ops.toList s [] (λs _=>K .nrm s)=some r from h);exact aJV hE hT R λa' w' π' R'=>hQ .nrm _ _ _ _ R' hK
 |.region id ops true,hS,s,K,Q,π,a,w,R,h,hQ=>by
  obtain⟨s1,dS,hT,hK⟩:=Lc (by rw[R.len];exact YP) (show K3 P E nt X.k ops.toList ops.toList s [] (λs l=>match Qw ops.toList 0&&Qv (K2 ops.toList []) l 0 with
   |true=>K .nrm s
   |false=>none)=some r from h)
  split at hK
  .rename_i hok
   simp only[cy,List.nil_append] at hok;exact aJU hE hm hT hok.1 hok.2 R λa' w' π' R'=>hQ .nrm _ _ _ _ R' hK
  .cases hK
 |.seq x y,hS,s,K,Q,π,a,w,R,h,hQ=>by
  refine wp_seq (Bi hE hm I YP x hS.2.1 R (show Gj P E hs nt X.k lf x s (λe s=>match e with
   |.nrm=>match ayY hs y with
    |none=>Gj P E hs nt X.k lf y s K
    |some j=>match s.aaX X.k j.hd with
     |none=>none
     |some s=>xO s λs=>match ww j.sm.kk X.k with
      |true=>j.sm.run s K
      |false=>none
   |e=>K e s)=some r from h) λe s1 π1 a1 w1 R1 hK=> ?_)
  cases e with
  |nrm=>
   simp only at hK;split at hK
   .exact Bi hE hm I YP y hS.2.2 R1 hK hQ
   .rename_i j hj
    simp only[K7] at hK;split at hK
    .cases hK
    .rename_i s2 Vq
     split at hK
     .rename_i hk
      obtain⟨π2,R2⟩:=R1.aaX I Vq;exact Bi hE hm I YP y hS.2.2 R2 (hS.1 j hj (beq_iff.1 hk) s2 K r hK) hQ
     .cases hK
  |ex id=>exact hQ _ _ _ _ _ R1 hK
  |ret=>exact hQ _ _ _ _ _ R1 hK
 |.cond (.tmp t) x y,hS,s,K,Q,π,a,w,R,h,hQ=>by
  have h:(match s.tmp t with
   |.r (.c (.f (.b z)))=>match z with
    |true=>Gj P E hs nt X.k lf x s K
    |false=>Gj P E hs nt X.k lf y s K
   |_=>none)=some r:=h
  split at h
  .rename_i z hz
   have hr:=R.rel.tm t;rw[show s.gt.t t=_ from hz] at hr;have hc:a.eval (.tmp t)=.bool z:=hr;cases z with
   |true=>exact wp_cond_true hc (Bi hE hm I YP x hS.1 R h hQ)
   |false=>exact wp_cond_false hc (Bi hE hm I YP y hS.2 R h hQ)
  .cases h
 |.block id x,hS,s,K,Q,π,a,w,R,h,hQ=>by
  refine wp_block (Bi hE hm I YP x hS R (show Gj P E hs nt X.k lf x s (λe s=>match e with
   |.ex j=>match ww j id with
    |true=>K .nrm s
    |false=>K (.ex j) s
   |e=>K e s)=some r from h) λe s1 π1 a1 w1 R1 hK=> ?_)
  cases e with
  |nrm=>exact hQ _ _ _ _ _ R1 hK
  |ret=>exact hQ _ _ _ _ _ R1 hK
  |ex j=>
   simp only at hK;show if j=id then Q .normal a1 w1 else Q (.exit j) a1 w1
   split at hK
   .rename_i hj
    rw[if_pos (oZ hj)];exact hQ .nrm _ _ _ _ R1 hK
   .rename_i hj
    rw[if_neg (λe=>by subst e;simp at hj)];exact hQ (.ex j) _ _ _ _ R1 hK
 |.loop x,hS,s,K,Q,π,a,w,R,h,hQ=>by
  have h:(match s.head X.k hs x with
   |none=>none
   |some s=>xO s λs=>match apC hs x with
    |some σ=>match ww σ.kk X.k with
     |true=>σ.run s K
     |false=>none
    |none=>iter (λt=>t.head X.k hs x) (Gj P E hs nt X.k lf x) K lf s)=some r:=h
  simp only[K7] at h;split at h
  .cases h
  .rename_i s1 hs1
   obtain⟨π1,R1⟩:=R.head I hs1
   obtain⟨n,hn⟩:∃n,iter (λt=>t.head X.k hs x) (Gj P E hs nt X.k lf x) K n s1=some r:=by
    split at h
    .rename_i σ hσ
     split at h
     .rename_i hk
      exact hS.1 σ hσ (beq_iff.1 hk) s1 K r h
     .cases h
    .exact⟨lf,h⟩
   exact wp_loop_rounds n (azf (hd:=λt=>t.head X.k hs x) (body:=Gj P E hs nt X.k lf x) (λR h hQ=>Bi hE hm I YP x hS.2 R h hQ) (λR' h'=>R'.head I h') hQ n R1 hn)
 |.exit id,hS,s,K,Q,π,a,w,R,h,hQ=>wp_exit (hQ (.ex id) _ _ _ _ R h)
 |.ret,hS,s,K,Q,π,a,w,R,h,hQ=>by
  have h:(match hs.rk with
   |none=>K .ret s
   |some hd=>match s.aaX X.k hd with
    |none=>none
    |some s=>xO s λs=>K .ret s)=some r:=h
  split at h
  .exact wp_ret (hQ .ret _ _ _ _ R h)
  .simp only[K7] at h;split at h
   .cases h
   .rename_i s2 Vq
    obtain⟨π2,R2⟩:=R.aaX I Vq;exact wp_ret (hQ .ret _ _ _ _ R2 h)
 |.cond (.const _) _ _,_,_,_,_,_,_,_,_,h,_=>by cases h
 |.cond (.func _) _ _,_,_,_,_,_,_,_,_,h,_=>by cases h
 |.cond (.global _) _ _,_,_,_,_,_,_,_,_,h,_=>by cases h
 |.goto _,_,_,_,_,_,_,_,_,h,_=>by cases h
 |.label _,_,_,_,_,_,_,_,_,h,_=>by cases h
end
end Go.Ab
namespace Go.Ab
variable [ax]
section
variable {P:Program} {E:Env} {X:Cx} {h0:List af} {π:Pi} {s s':St} {a:Act} {w:World}
def aSq (tmps:Array Value):ResultVar->Sem Value
 |.tmp t=>pure (tmps.getD t undef)
 |.cell a t=>do loadVar t (<-asAddr (tmps.getD a undef))
omit [ax] in
theorem aNa (fn:Func)(tmps:Array Value):results fn tmps=(do
  let vs<-fn.results.mapM (aSq tmps)
  pure (if h:vs.size=1 then vs[0] else .tuple vs)):=by
 unfold results;rfl
theorem aTa (R:iA X h0 π s a w){r:ResultVar}{v:RV}(h:aSe P s r=some v):∃x,(aSq a.tmps r).run P w=.ok x w/\v.rel π x:=by
 cases r with
 |tmp t=>
  simp only[aSe] at h;split at h
  .rename_i u hu
   cases h;have:=R.rel.tm t;rw[show s.gt.t t=_ from hu] at this;exact⟨_,rfl,this⟩
  .cases h
 |cell q t=>
  simp only[aSe] at h;split at h
  .rename_i b o m hu
   have hp:=R.rel.tm q;rw[show s.gt.t q=_ from hu] at hp;obtain⟨B,s1,q1,e,hb,hx,hm⟩:=hp
   have key:∀v l,aH (Y' P t b o m) s.gt v l->∃x,(aSq a.tmps (.cell q t)).run P w=.ok x w/\v.rel π x:=λv l hv=>by
    obtain⟨x,hx1,hx2⟩:=aH.Y' R.rel hv hb hm;refine⟨x,?_,hx2⟩;show(do loadVar t (<-asAddr (a.tmps.getD q undef))).run P w=_;rw[hx];simpa[asAddr] using hx1
   split at h
   .rename_i n' bO c h1 h2 h3
    split at h
    .rename_i hle
     simp only[m6] at h;obtain⟨k,hk,rfl⟩:=h;obtain⟨k1,k2⟩:=NR hk;refine key _ (.c b (ext (.k c) (.l 1) n'):: .z b::[]) ?_;unfold Ab.Y';rw[h1,h2];show aH ((cI (Nat.ble n' m)).bind _) _ _ _;unfold cI;rw[hle];refine aH.test (aH.vw _ _ (St.apJ h3) k1 (λhle j hj=> ?_) (.ret _ _));rw[k2 hle j hj];exact(St.aSg h3 (by simp only[cA.val] at hle;omega)).symm
    .cases h
   .rename_i n' bO c h1 h2 h3
    split at h
    .rename_i hle
     split at h
     .rename_i v0 hk
      cases h;obtain⟨k1,k2⟩:=NR hk;refine key _ (.c b (ext (.k c) (.l 1) 1):: .z b::[]) ?_;unfold Ab.Y';rw[h1,h2];show aH ((cI (Nat.ble 1 m)).bind _) _ _ _;unfold cI;rw[hle];refine aH.test (aH.vw _ _ (St.apJ h3) k1 (λhle j hj=> ?_) (.ret _ _));rw[k2 hle j hj];exact(St.aSg h3 (by simp only[cA.val] at hle;omega)).symm
     .cases h
    .cases h
   .cases h
  .cases h
theorem aEe (R:iA X h0 π s a w):∀{l:List ResultVar} {vs:List RV},axe P s l=some vs->∃xs,(l.mapM (aSq a.tmps)).run P w=.ok xs w/\bj (RV.rel π) vs xs
 | [],vs,h=>by cases h;exact⟨[],by simp,trivial⟩
 |r::l,vs,h=>by
  simp only[axe] at h;split at h
  .rename_i v kl h1 h2
   cases h;obtain⟨x,e1,r1⟩:=aTa R h1;obtain⟨xs,e2,r2⟩:=aEe R h2;exact⟨x::xs,by simp[List.mapM_cons,e1,e2],r1,r2⟩
  .cases h
theorem aJW (R:iA X h0 π s a w){fn:Func}{vs:List RV}(h:axe P s fn.results.toList=some vs):∃x,(results fn a.tmps).run P w=.ok x w/\(one vs).rel π x:=by
 obtain⟨xs,e,r⟩:=aEe R h;have hlen:=r.length;rw[aNa];simp only[Array.mapM_eq_mapM_toList,Sem.run_bind,Sem.run_map,e,Result.andThen_ok,Sem.run_pure];match vs,xs,r with
 | [],[],r=>exact⟨_,rfl,#[],by simp,trivial⟩
 | [v],[x],r=>exact⟨x,by simp,r.1⟩
 |v::v'::vs,x::x'::xs,r=>exact⟨_,by simp,(x::x'::xs).toArray,rfl,r⟩
omit [ax] in
theorem aH2 {α:Type}:∀{l:List (Option α)} {m:List α},aDy l=some m->l=m.map some
 | [],m,h=>by cases h;rfl
 |some x::l,m,h=>by
  simp only[aDy,m6] at h;obtain⟨m',h1,rfl⟩:=h;rw[aH2 h1];rfl
 |none::l,m,h=>by cases h
omit [ax] in
theorem aH3 (d:List Nat):∀(l:List (Option af)) (j0 j:Nat),(ahQ d l j0)[j]? =(l[j]?).map λb=>match d.any (ww (j0+j)) with
  |false=>Ch.mT
  |true=>match b with
   |some b=>.set b
   |none=>.kill
 | [],_,_=>by simp[ahQ]
 |b::l,j0,0=>by simp[ahQ];rfl
 |b::l,j0,j+1=>by
  simp only[ahQ,List.getElem?_cons_succ];rw[aH3 d l (j0+1) j,show j0+1+j=j0+(j+1) by omega]
omit [ax] in
theorem any_beq {d:List Nat}{j:Nat}:d.any (ww j)=true↔j∈d:=by
 rw[aaR];constructor
 .rintro ⟨y,hy,he⟩;rw[oZ he];exact hy
 .exact λh=>⟨j,h,NL j⟩
omit [ax] in
theorem azg (d:List Nat):∀(h:List af) (l:List (Option af)) (j0:Nat),l.length=h.length->(∀j b,j0+j∉d->l[j]? =some b->b=h[j]?)->after h (ahQ d l j0)=l
 | [],[],_,_,_=>rfl
 |b::bs,o::l,j0,hl,hk=>by
  have ih:=azg d bs l (j0+1) (by simpa using hl) λj b h1 h2=>by
   have:=hk (j+1) b (by rwa [show j0+(j+1)=j0+1+j by omega]) (by simpa using h2);simpa using this
  simp only[ahQ];cases hd:d.any (ww j0) with
  |false=>
   have hn:j0∉d:=λh=>by rw[any_beq.2 h] at hd;cases hd
   have:=hk 0 o (by simpa using hn) rfl;simp only[aDg] at this;subst this;simp[after,ih]
  |true=>
   cases o with
   |none=>simp[after,ih]
   |some b'=>simp[after,ih]
abbrev aH4 (_:Program)(π:Pi)(w0:World)(h:List af)(res:o9):Ending->World->Prop:=ti π w0 h res
theorem aQI (I:In X h0)(R:iA X h0 π s a w){fn:Func}{e:AX}{res:o9}(h:fin P fn X.k e s=some res):bodyPost P fn (aH4 P X.p0 X.w0 h0 res) (a0a e) a w:=by
 have main:(match axe P s fn.results.toList with
  |none=>none
  |some vs=>
   let x:=gcA X.k (one vs) []
   let y:=gcO X.k s.dt X.k (s.heap.take X.k) 0 x.2
   match gcN X.k s.heap 1000 0 y.2 [] with
   |some z=>match aDy z.1 with
    |some news=>some {val:=x.1,ya:=ahQ s.dt y.1 0,news}
    |none=>none
   |none=>none)=some res->a.defers=[]/\∃v,(results fn a.tmps).run P w=.ok v w/\aH4 P X.p0 X.w0 h0 res (.returned v) w:=by
  intro h;split at h
  .cases h
  rename_i vs hvs
  simp only at h;split at h
  .rename_i z hz
   split at h
   .rename_i news a02
    cases h;obtain⟨v,nZ,hv⟩:=aJW R hvs;have G:=axr X.k (one vs) [];have ok0:=G.ok ⟨List.nodup_nil,λ_ h=>by cases h⟩;obtain⟨q1,q2,q3,q4,q5⟩:=aM8 I R (eO _) R.hk ok0 hz;have hz1:=aH2 a02;obtain⟨o1,o2,o3,o4⟩:=aou X.k s.dt X.k (s.heap.take X.k) 0 (gcA X.k (one vs) []).2;generalize hy:gcO X.k s.dt X.k (s.heap.take X.k) 0 (gcA X.k (one vs) []).2=y at*
    have hyl:y.1.length=X.k:=by rw[o3];have:=R.hk;simp;omega
    have hhl:=I.k
    have hnl:z.2.length=news.length:=by
     have e1:(y.1++z.1).length=y.1.length+z.1.length:=by simp
     have e2:z.1.length=news.length:=by rw[hz1];simp
     omega
    have aY6:after h0 (ahQ s.dt y.1 0)=y.1:=azg s.dt h0 y.1 0 (by omega) λj b h1 h2=>by
     have hj:j<y.1.length:=(lX.1 h2).1;have h3:=q4 j (by omega) (by omega) (by simpa using h1);rw[TO hj,h2] at h3;have h4:=R.drt j (by omega) (by simpa using h1);rw[<-h4,<-h3];rfl
    have a03:(⟨(gcA X.k (one vs) []).1,ahQ s.dt y.1 0,news⟩:o9).heap h0=y.1++z.1:=by
     unfold o9.heap;simp only;rw[aY6,hz1]
    have aEf:∀B i,CC X.p0 X.k (·∈s.dt) B i->CC X.p0 h0.length (R7 (ahQ s.dt y.1 0)) B i:=by
     rintro B i ⟨b,s1,qq,e1,hb,hd,hp,i1,i2⟩
     refine⟨b,s1,qq,e1,by omega,?_,hp,i1,i2⟩;unfold R7;rw[aH3,gW,any_beq.2 hd];have:y.1[b]? =some (y.1[b]'(by omega)):=kE _;rw[this];cases y.1[b]'(by omega)<;>simp
    refine⟨R.rel.df,v,nZ,Ld π X.k z.2,v,rfl,λb p hp=> ?_,?_,?_,R.rel.fr.mono λB i _ h=>aEf B i h,λb hb=> ?_,λb B s1 qq e1 hb hp hB i i1 i2=> ?_⟩
    .have hb:=I.d b (by rw[hp];simp);unfold Ld;rw[if_pos hb,R.rel.xt b hb];exact hp
    .exact AV.dK q1.ext _ _ (G.rel π v hv)
    .rw[a03];exact q2
    .unfold Ld at hb;split at hb
     .simp only;omega
     .cases hm:z.2[b-X.k]? with
      |none=>rw[hm] at hb;exact absurd rfl hb
      |some b0=>have:=(lX.1 hm).1;simp only;omega
    .have uk:=hp;unfold Ld at uk;rw[if_neg (by omega)] at uk;cases hm:z.2[b-X.k]? with
     |none=>rw[hm] at uk;cases uk
     |some b0=>
      rw[hm] at uk;have nR:=(lX.1 hm).1
      have hzb:hZ (y.1++z.1) b≠none:=by
       unfold hZ;rw[ac1 (by omega),hyl,hz1,BA,kE (show b-X.k<news.length by omega)];simp
      rcases q5 b hzb with⟨h1,_⟩| ⟨b1,h1,h2,h3,h4⟩
      .omega
      .rw[hm] at h2;cases h2;exact aEf B i (R.rel.ft b0 B s1 qq e1 h3 h4 uk hB i i1 i2)
   .cases h
  .cases h
 cases e with
 |nrm=>exact main h
 |ret=>exact main h
 |ex id=>cases h
def tOf:Option o9->T
 |some r=>.leaf r
 |none=>.fail
theorem aQJ (hE:∀f F,E f=some F->Sound P f F)(hm:P.follows .mixedOrders=true){hs:Hs}{lf:Nat}{f:FuncId}(aNb:∀fn c kk,P.funcs[f]? =some fn->fn.body=some c->KW P E hs fn.ntmps kk lf c)(hc:∀args w,(callFunc f args).run P w=.ok (.enter f args) w):Sound P f λargs h=>tOf (den P E hs lf f args h):=by
 intro args h res tk w π vs lP hH kj;refine .inl ⟨hc _ _,?_⟩
 have tk:den P E hs lf f args h=some res:=by
  have tk:(tOf (den P E hs lf f args h)).eval=some res:=tk;cases hd:den P E hs lf f args h with
  |none=>rw[hd] at tk;cases tk
  |some r=>rw[hd] at tk;exact tk
 unfold den at tk;split at tk
 .cases tk
 rename_i fn hf
 split at tk
 .cases tk
 rename_i c hb
 split at tk
 case h_1=>cases tk
 rename_i aQK
 have aQK:∀b,b∈hs.dt->b<h.length:=λb hb=>tY.1 (aw8.1 aQK b hb)
 rw[K7] at tk;have hlen:=lP.length;refine calls_of_wp hf hb ?_;let X:Cx:={w0:=w,k:=h.length,p0:=π,N:=(start fn args h hs.dt).tmps.length}
 have I:In X h:=⟨rfl,hH,kj⟩
 have R:iA X h π (start fn args h hs.dt) {tmps:=vs++Array.replicate (fn.ntmps-vs.size) undef,defers:=[]} w:=by
  refine⟨⟨λi=> ?_,by simp[X,start];simp at hlen;omega,rfl,hH,λ_ _=>rfl,λb B s q e hk hz hp=> ?_,cg.refl _ _⟩,rfl,λb hb=>by simpa[start] using kj b hb,λb hb _=> ?_,by simp[start,X],λb hb=>aQK b hb⟩
  .show(akv (args++List.replicate (fn.ntmps-args.length) udf) i).rel π ((vs++Array.replicate (fn.ntmps-vs.size) undef).getD i undef);rw[Av];simp only[Vi] at hlen;rw[apE];simp only[List.getD];rcases o7 i args.length with hi|hi
   .have e1:args[i]? =some (args[i]'hi):=kE _;obtain⟨x,hx,hr⟩:=lP.get e1;rw[TO hi,e1,Array.getElem?_append_left (by omega),<-Vh,hx];exact hr
   .rw[ac1 hi,Array.getElem?_append_right (by omega),List.getElem?_replicate,Array.getElem?_replicate,hlen];split<;>exact asi π
  .exact absurd (kj b (by rw[hp];simp)) (by simp only[X] at hk;omega)
  .show((h.map some)[b]?).getD none=h[b]?;rw[BA];cases h[b]? <;>rfl
 exact Bi hE hm I (nt:=fn.ntmps) (by simp[X,start];omega) c (aNb fn c h.length hf hb) R tk λe s π a w R hK=>aQI I R hK
structure o9.wk (h:List af)(r r':o9):Prop where
 val:r.val=r'.val
 news:r.news=r'.news
 ya:∀(j:Nat) (b:af),(after h r.ya)[j]? =some (some b)->∃b':af,(after h r'.ya)[j]? =some (some b')/\af.size b'=af.size b/\∀i,i<af.size b->af.get b i=af.get b' i
 mT:∀j:Nat,r.ya[j]? =some .mT->r'.ya[j]? =some .mT
omit [ax] in
theorem o9.wk.refl (h:List af)(r:o9):r.wk h r:=⟨rfl,rfl,λj b hb=>⟨b,hb,rfl,λ_ _=>rfl⟩,λ_ h=>h⟩
theorem Sound.weaken {f:FuncId}{F F0:Ey}(S:Sound P f F0)(hw:∀args h r,(F args h).eval=some r->∃r',(F0 args h).eval=some r'/\r.wk h r'):Sound P f F:=by
 intro args h res tk w π vs lP hH kj;obtain⟨r',hr',W⟩:=hw args h res tk
 suffices key:∀e w',ti π w h r' e w'->ti π w h res e w' by
  rcases S args h r' hr' w π vs lP hH kj with⟨S1,S2⟩| ⟨v,S1,S2⟩
  .exact .inl ⟨S1,Calls.mono S2 key⟩
  .exact .inr ⟨v,S1,key _ _ S2⟩
 rintro e w' ⟨π',v,rfl,hx,hv,hH',hF,hd,hi⟩
 have aEf:∀B i,CC π h.length (R7 r'.ya) B i->CC π h.length (R7 res.ya) B i:=by
  rintro B i ⟨b,s1,qq,e1,hb,hD,hp,i1,i2⟩
  exact⟨b,s1,qq,e1,hb,λhk=>hD (W.mT b hk),hp,i1,i2⟩
 have src:∀b n,hZ (res.heap h) b=some n->∃k k',(res.heap h)[b]? =some (some k)/\af.size k=n/\(r'.heap h)[b]? =some (some k')/\af.size k'=n/\∀i,i<n->af.get k i=af.get k' i:=λb n hn=>by
  unfold hZ at hn;cases hg:(res.heap h)[b]? with
  |none=>rw[hg] at hn;cases hn
  |some o=>
   rw[hg] at hn;cases o with
   |none=>cases hn
   |some k=>
    have hkn:af.size k=n:=by simpa using hn
    rcases o7 b h.length with hb|hb
    .rw[Dj hb] at hg;obtain⟨k',h1,h2,h3⟩:=W.ya b k hg;exact⟨k,k',rfl,hkn,by rw[Dj hb];exact h1,by omega,λi hi=>h3 i (by omega)⟩
    .refine⟨k,k,rfl,hkn,?_,hkn,λ_ _=>rfl⟩;unfold o9.heap at hg ⊢;rw[ac1 (by rw[nA];exact hb),nA] at hg ⊢;rw[<-W.news];exact hg
 refine⟨π',v,rfl,hx,by rw[W.val];exact hv,⟨hH'.am,λb B s1 q1 e1 hz hp Be=> ?_,λb n hn=> ?_,λb b' B s1 q1 e1 s2 q2 e2 oe hz tZ=> ?_⟩,hF.mono λB i _ h=>aEf B i h,by rw[W.news];exact hd,λb B s1 qq e1 hb hp hB i i1 i2=>aEf B i (hi b B s1 qq e1 hb hp hB i i1 i2)⟩
 .cases hn:hZ (res.heap h) b with
  |none=>exact absurd hn hz
  |some n=>
   obtain⟨k,k',_,_,h3,_⟩:=src b n hn;exact hH'.lb b B s1 q1 e1 (by rw[Zm h3];simp) hp Be
 .obtain⟨k,k',h1,h2,h3,h4,h5⟩:=src b n hn;have hz:hZ (r'.heap h) b=some n:=by rw[<-h4];exact Zm h3
  obtain⟨B,s1,e1,hp,hle,m1,m2⟩:=hH'.hp b n hz;refine⟨B,s1,e1,hp,hle,m1,λj hj=> ?_⟩;obtain⟨x,hx1,hx2⟩:=m2 j hj;rw[afF h3 (by omega)] at hx2;exact⟨x,hx1,by rw[afF h1 (by omega),h5 j hj];exact hx2⟩
 .have nn:∀b,hZ (res.heap h) b≠none->hZ (r'.heap h) b≠none:=λb hb=>by
   cases hn:hZ (res.heap h) b with
   |none=>exact absurd hn hb
   |some n=>obtain⟨k,k',_,_,h3,_⟩:=src b n hn;rw[Zm h3];simp
  exact hH'.dj b b' B s1 q1 e1 s2 q2 e2 oe (nn b hz) (nn b' tZ)
end
end Go.Ab
namespace Go.Ab
variable [ax]
open Go.ChangeShapes Go.WideShapes Go.ChangeAt Go.RowKit
def FG (P:Program)(f:FuncId):Bool:=match P.funcs[f]? with
 |some fn=> !(fn.name=="runtime.NumGoroutine")&&fn.body.isSome
 |none=>false
omit [ax] in
theorem Hn {P:Program}{f:FuncId}(h:FG P f=true)(args:Array Value)(w:World):(callFunc f args).run P w=.ok (.enter f args) w:=by
 unfold FG at h;split at h
 .rename_i fn hf
  simp only[cy,o6] at h;cases hb:fn.body with
  |none=>rw[hb] at h;cases h.2
  |some c=>
   have h1:fn.name≠"runtime.NumGoroutine":=by simpa using h.1
   simp[callFunc,hf,h1,hb]
 .cases h
def Ez:List (Nat×Ey)->Env
 | [],_=>none
 |p::l,f=>match ww p.1 f with
  |true=>some p.2
  |false=>Ez l f
def IW (P:Program)(l:List (Nat×Ey)):Prop:=∀f F,Ez l f=some F->Sound P f F
theorem IW.nil (P:Program):IW P []:=λ_ _ h=>by cases h
theorem IW.cons {P:Program}{l:List (Nat×Ey)}{f:Nat}{F:Ey}(S:Sound P f F)(h:IW P l):IW P ((f,F)::l):=λg G hg=>by
 simp only[Ez] at hg;split at hg
 .rename_i hb
  cases hg;rw[<-oZ hb];exact S
 .exact h g G hg
noncomputable def inl (P:Program) (l:List (Nat×Ey)) (hs:Hs) (lf:Nat) (f:FuncId):Ey:=λargs h=>tOf (den P (Ez l) hs lf f args h)
theorem aTb {P:Program}{l:List (Nat×Ey)}(hl:IW P l)(hm:P.follows .mixedOrders=true){hs:Hs}{lf:Nat}{f:FuncId}(aNb:∀fn c kk,P.funcs[f]? =some fn->fn.body=some c->KW P (Ez l) hs fn.ntmps kk lf c)(hc:FG P f=true):Sound P f (inl P l hs lf f):=
 aQJ hl hm aNb (Hn hc)
omit [ax] in
theorem aTc {P:Program}{l:List (Nat×Ey)}{hs:Hs}{lf:Nat}{f:FuncId}{args:List AV}{h:List af}{r:o9}(hd:den P (Ez l) hs lf f args h=some r):(inl P l hs lf f args h).eval=some r:=by
 unfold inl;rw[hd];rfl
theorem Sound.by {P:Program}{f:FuncId}{F F0:Ey}(S:Sound P f F0)(h:∀args b r,(F args b).eval=some r->(F0 args b).eval=some r):Sound P f F:=
 S.weaken λargs b r hr=>⟨r,h args b r hr,.refl _ _⟩
omit [ax] in
theorem cg.kept {w w':World}(h:cg w (λ_ _=>False) w'):w.keptBut w' (λ_=>False):=by
 refine⟨h.os,h.output,λi hi=> ?_⟩;cases hh:w.heap[i]? with
 |none=>rw[h.obj i hi (by rw[hh];intro c t fz e;cases e),hh]
 |some x=>
  cases x with
  |cells c t fr=>
   obtain⟨c',e1,e2,e3⟩:=h.row i c t fr hh;rw[e1];exact⟨rfl,rfl,e2,λj _=>e3 j (λf=>f)⟩
  |map es clock=>
   rw[h.obj i hi (by rw[hh];intro c t fz e;cases e),hh];exact .inr ⟨rfl,rfl⟩
  |_=>rw[h.obj i hi (by rw[hh];intro c t fz e;cases e),hh]
omit [ax] in
theorem cg.sameAt {w w':World}(h:cg w (λ_ _=>False) w'){p:MemPlace}(hp:p.block<w.heap.size):w.sameAt w' p:=by
 cases p with
 |cell b off=>exact h.cl hp (λf=>f)
 |map b=>
  show w'.heap[b]? =w.heap[b]?;have hp:b<w.heap.size:=hp;cases hh:w.heap[b]? with
  |none=>rw[h.obj b hp (by rw[hh];intro c t fz e;cases e),hh]
  |some x=>
   cases x with
   |cells c t fr=>
    obtain⟨c',e1,e2,e3⟩:=h.row b c t fr hh;rw[e1];have:c'=c:=Array.ext_getElem? λj=>e3 j (λf=>f)
    rw[this]
   |_=>rw[h.obj b hp (by rw[hh];intro c t fz e;cases e),hh]
section
variable {H:Type} {enc:TypeId×Value->H}
omit [ax] in
theorem akO {P:Program}(hl:laidOutB P=true){W W':World}(hf:cg W (λ_ _=>False) W'){sp:Nat->Bool}:∀{ts:List TypeId} {vs:List Value} {ds:List (DataW H)} {ps:List MemPlace},(∀t∈ts,P.readableRec t=true/\t<P.types.size)->
  DataW.TrodAll enc P W 0 (λ_=>true) true ts vs ds ps->(∀p∈ps,p.block<W.heap.size)->(∀p∈ps,sp p.block=true)->DataW.TrodAll enc P W' 0 sp true ts vs ds ps
 | [],vs,ds,ps,_,h,_,_=>by
  obtain⟨rfl,rfl,rfl⟩:=trodAll_nil h;rfl
 |t::ts,vs,ds,ps,ht,h,h1,h2=>by
  obtain⟨v,vs1,d,ds1,a,b,rfl,rfl,rfl,h3,h4⟩:=trodAll_cons h;refine⟨a,b,WideElems.Trod_stays hl (ht t (by simp)).1 (ht t (by simp)).2 h3 (λp hp=>hf.sameAt (h1 p (by simp[hp]))) (λp hp=>h2 p (by simp[hp])),?_,rfl⟩;exact akO hl hf (λt ht'=>ht t (by simp[ht'])) h4 (λp hp=>h1 p (by simp[hp])) (λp hp=>h2 p (by simp[hp]))
omit [ax] in
theorem aTd {C:Checked}{os:Os}{f:FuncId}{fn:Func}{s:ChangeSpec}{conds:List PathCond}{tb:TypeId}
  (own:ownKnob C.prog.godebug=none)(started:os.Started)(aY7:C.prog.inits.idxOf? f=none)(hfn:C.prog.funcs[f]? =some fn)
  (hl:laidOutB C.prog=true)(tk:fn.resultTypes=#[tb])(htb:C.prog.underlying tb=some .bool)(a0b:fn.params.all (λt=>C.prog.readableRec t&&decide (t<C.prog.types.size))=true)(aXg:s.vars=[])
  (a04:∀(ds:List (DataW H)),ds.length=fn.params.size->s.fn H ds={results:=[.lit (.bool true)],args:=ds})
  (witness:∃(w:World) (tape:Tape) (i:Input),w.os=os/\(w.forCall tape i).Shaped C.prog/\i.vars=[]/\Input.okWide C.prog (w.forCall tape i) .any w.heap.size f i/\
   s.pre6 enc C.prog fn conds false (w.forCall tape i).memory i.args/\({}:Assume).holds C.prog (lone (Frame.enter C.prog f i.args .normal) [] (w.forCall tape i)))
  (aTe:∀(W:World) (base:Nat) (args:Array Value) (ds:List (DataW H)) (ps:List MemPlace),args.size=fn.params.toList.length->
   (∀(j:Nat) t v,fn.params.toList[j]? =some t->args[j]? =some v->Value.okWide C.prog W .any base t v)->
   DataW.TrodAll enc C.prog W 0 (λ_=>true) true fn.params.toList args.toList ds ps->W.noneFrozen ps->(∀p∈ps,p.block<W.heap.size)->
   conds.all (PathCond.test C.prog ⟨fn.params.toList,ds,s.plain.varTypes C.prog,[]⟩)=true->
   Calls C.prog f args W λe W'=>e=.returned (.bool true)/\cg W (λ_ _=>False) W'):
  ReturnsInHanded {} C os f .any (s.pre6 enc C.prog fn conds false) (s.post enc C.prog fn false true false false):=by
 refine returnsInHanded_of_change own started aY7 hfn witness ?_;intro W base args ds gs before aD4 hW a2t _;have hW':=hW;obtain⟨p,q,hA,hV,hpq,hfz,hnd⟩:=hW;rw[aXg] at hV;obtain⟨rfl,rfl⟩:=trodVars_none hV;simp only[List.append_nil] at hpq;subst hpq
 have hlen:∀{ts:List TypeId} {vs:List Value} {ds:List (DataW H)} {ps:List MemPlace},DataW.TrodAll enc C.prog W 0 (λ_=>true) true ts vs ds ps->vs.length=ts.length/\ds.length=ts.length:=by
  intro ts;induction ts with
  |nil=>intro vs ds ps h;obtain⟨rfl,rfl,rfl⟩:=trodAll_nil h;exact⟨rfl,rfl⟩
  |cons t ts ih=>intro vs ds ps h;obtain⟨v,vs1,d,ds1,a,b,rfl,rfl,rfl,_,h4⟩:=trodAll_cons h;have:=ih h4;exact⟨by simp[this.1],by simp[this.2]⟩
 obtain⟨l1,l2⟩:=hlen hA;have nR:∀x∈before,x.block<W.heap.size:=λx hx=>hW'.lt x hx
 refine(aTe W base args ds before (by simpa using l1) (λj t v hj hv=>aD4 j t v (by rw[<-Vh];exact hj) hv) hA hfz nR (by simpa using a2t)).mono λe W' ⟨he,hg⟩=> ?_;subst he;have hs:=a04 ds (by simpa using l2)
 have hr:∀t∈fn.params.toList,C.prog.readableRec t=true/\t<C.prog.types.size:=λt ht=>by
  rw[Array.all_eq_true_iff_forall_mem] at a0b;have:=a0b t (by simpa using ht);simpa using this
 refine⟨_,rfl,post_of_same (pa:=before) (pv:=[]) hW' (λb sp hd=> ?_) (λsp hsp=> ?_) (λsp _=> ?_) (by simp) (World.keptBut_mono (λ_ f=>f.elim) hg.kept) hg.fzn (ok_one tk rfl (okWide_bool_mk htb _))⟩
 .rw[List.append_nil,hs,tk];exact trodAll_cons_mk (shut_bool htb _) trodAll_mk0
 .rw[List.append_nil,hs];exact akO hl hg hr hA nR hsp
 .rw[List.append_nil,hs,aXg];rfl
end
end Go.Ab
