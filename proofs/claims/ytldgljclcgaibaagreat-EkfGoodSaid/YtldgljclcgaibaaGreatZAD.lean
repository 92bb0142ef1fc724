/-
  Parts of the proof: AbG AbH AbI AbJ AbK AbL AbN AbR AbT AbU AbV
-/
import Derived.Test.YtldgljclcgaibaaGreatZAC
import Derived.ProofKit
import Derived.OpenShut
open Nat renaming beq→z9,blt→wl
open List renaming range→to
set_option linter.unusedVariables false
set_option linter.unusedSimpArgs false
namespace Go.Ab
variable [ay]
section
variable {P:Program} {g:Gt}
theorem ayz {aiZ:TypeId->RV->RV->Rd Bool}{D:Nat}(aI8:∀t x y r l,aJ (aiZ t x y) g r l->∀(π:Pi) a b (w:World),x.rel π a->y.rel π b->(Op.equalIn D t a b).run P w=.ok r w){xs ys:aj}:∀{fs:List Field} {r:Bool} {l:List Fp},aJ (aMM P aiZ xs ys fs) g r l->
  ∀(π:Pi) (as bs:Array Value) (w:World),bu (CV.rel π) xs.list as.toList->bu (CV.rel π) ys.list bs.toList->(Op.eqFields D as bs fs).run P w=.ok r w
 | [],r,l,h,π,as,bs,w,_,_=>by cases h;simp[Op.eqFields]
 |f::fs,r,l,h,π,as,bs,w,ha,hb=>by
  simp only[aMM] at h;split at h
  .rename_i hn
   obtain⟨x,⟨_,h1⟩,_,h⟩:=aJ.bind' h;obtain⟨y,⟨_,h2⟩,_,h⟩:=aJ.bind' h;obtain⟨r1,⟨_,h3⟩,_,h⟩:=aJ.bind' h;obtain⟨r2,⟨_,h4⟩,_,h⟩:=aJ.bind' h;cases h;obtain⟨u,hu,hru⟩:=h1.OK ha w;obtain⟨v,hv,hrv⟩:=h2.OK hb w;have e3:=aI8 _ _ _ _ _ h3 π u v w hru hrv;have e4:=ayz aI8 h4 π as bs w ha hb;simp only[Op.eqFields,if_pos hn,Sem.run_bind,hu,hv,e3,Result.andThen_ok];cases r1<;>simp[e4]
  .rename_i hn
   have e4:=ayz aI8 h π as bs w ha hb;simp only[Op.eqFields,if_neg hn];exact e4
theorem aI9 {aiZ:TypeId->RV->RV->Rd Bool}{D:Nat}{e:TypeId}{z:Nat}(aI8:∀t x y r l,aJ (aiZ t x y) g r l->∀(π:Pi) a b (w:World),x.rel π a->y.rel π b->(Op.equalIn D t a b).run P w=.ok r w){xs ys:aj}:∀{is:List Nat} {r:Bool} {l:List Fp},aJ (aXq P aiZ e z xs ys is) g r l->
  ∀(π:Pi) (as bs:Array Value) (w:World),bu (CV.rel π) xs.list as.toList->bu (CV.rel π) ys.list bs.toList->
   (forIn is ((none,()):Option Bool×Unit) (λi (_:Option Bool×Unit)=>(do
    let a<-part e as (i*z)
    let b<-part e bs (i*z)
    let c<-Op.equalIn D e a b
    if (!c)=true then pure (ForInStep.done (some false,())) else pure (ForInStep.yield (none,())):Sem (ForInStep (Option Bool×Unit))))).run P w=.ok (if r then(none,()) else(some false,())) w
 | [],r,l,h,π,as,bs,w,_,_=>by cases h;simp
 |i::is,r,l,h,π,as,bs,w,ha,hb=>by
  obtain⟨x,⟨_,h1⟩,_,h⟩:=aJ.bind' h;obtain⟨y,⟨_,h2⟩,_,h⟩:=aJ.bind' h;obtain⟨r1,⟨_,h3⟩,_,h⟩:=aJ.bind' h;obtain⟨r2,⟨_,h4⟩,_,h⟩:=aJ.bind' h;cases h;obtain⟨u,hu,hru⟩:=h1.OK ha w;obtain⟨v,hv,hrv⟩:=h2.OK hb w;have e3:=aI8 _ _ _ _ _ h3 π u v w hru hrv;have e4:=aI9 aI8 h4 π as bs w ha hb;rw[List.forIn_cons];simp only[Sem.run_bind,hu,hv,e3,Result.andThen_ok];cases r1
  .simp
  .simp only[Kg,ya,gA,Sem.run_pure,Result.andThen_ok,nY];exact e4
omit [ay] in
theorem aTE (c:c7)(j:Nat):ja [c] j=.f (c.at j):=by
 unfold ja;simp[Nat.mod_one]
theorem aNm {e:TypeId}{c c':c7}{n:Nat}{r:Bool}(hs:aem P e [c]=true)(hc:aEG n [c] [c']=some r){D D2:Nat}(hD:D=D2+1)(w:World):∃q:Nat->Bool,r=aSF n q/\
  ∀i a b,(c.at i).rel a->(c'.at i).rel b->(Op.equalIn D e a b).run P w=.ok (q i) w:=by
 subst hD;unfold aem at hs;split at hs
 .rename_i g1 hu hcc
  cases hcc;unfold aEG at hc;split at hc
  .rename_i h1 h2;cases h1
  .rename_i g h h1 h2
   cases h1;cases h2
   cases hc;refine⟨_,rfl,λi a b ha hb=> ?_⟩;have ha:a=.bool (g1 i):=ha;have hb:b=.bool (h i):=hb;subst ha hb;exact run_equalIn_bool w D2 e _ _ hu
  .cases hc
 .rename_i k0 k1 g1 hu hcc
  cases hcc;unfold aEG at hc;split at hc
  .rename_i k g k' h h1 h2
   cases h1;cases h2
   split at hc
   .rename_i hk
    subst hk;cases hc;refine⟨_,rfl,λi a b ha hb=> ?_⟩;have ha:a=.int k1 (g1 i):=ha;have hb:b=.int k1 (h i):=hb;subst ha hb;exact run_equalIn_int w D2 e k1 k0 _ _ hu
   .cases hc
  .rename_i h1 h2;cases h1
  .cases hc
 .cases hs
omit [ay] in
theorem aNn {e:TypeId}{c:c7}(hs:aem P e [c]=true):ael P e=some false:=by
 unfold aem at hs;unfold ael;split at hs
 .rename_i hu _;rw[hu]
 .rename_i hu _;rw[hu]
 .cases hs
theorem aAj {e:TypeId}{D n:Nat}{c c':c7}{q:Nat->Bool}{w:World}(aSY:ael P e=some false)(hq:∀i a b,(c.at i).rel a->(c'.at i).rel b->(Op.equalIn D e a b).run P w=.ok (q i) w){π:Pi}{as bs:Array Value}
  (ha:bu (CV.rel π) (aj.list [.a (.l n) [c]]) as.toList)(hb:bu (CV.rel π) (aj.list [.a (.l n) [c']]) bs.toList):∀{is:List Nat},(∀i∈is,i<n)->
   (forIn is ((none,()):Option Bool×Unit) (λi (_:Option Bool×Unit)=>(do
    let a<-part e as (i*1)
    let b<-part e bs (i*1)
    let c<-Op.equalIn D e a b
    if (!c)=true then pure (ForInStep.done (some false,())) else pure (ForInStep.yield (none,())):Sem (ForInStep (Option Bool×Unit))))).run P w=.ok (if is.all q then(none,()) else(some false,())) w
 | [],_=>by simp
 |i::is,hi=>by
  have cell:∀{c:c7} {as:Array Value},bu (CV.rel π) (aj.list [.a (.l n) [c]]) as.toList->∃x,(part e as (i*1)).run P w=.ok x w/\(c.at i).rel x:=λ{c as} ha=>by
   have hs:aj.size [.a (.l n) [c]]=n:=by simp[aj.size,Sg.size,Sz.val]
   have hin:=hi i (by simp);obtain⟨x,hx,hr⟩:=(jy ha).2 i (by rw[hs];exact hin);rw[aj.dR (by simp[Sg.size,Sz.val];exact hin),Sg.pC,aTE] at hr;refine⟨x,?_,hr⟩;have:as[i]? =some x:=by simpa using hx
   simp[part,Kk aSY,this]
  obtain⟨u,hu,hru⟩:=cell ha;obtain⟨v,hv,hrv⟩:=cell hb;have e3:=hq i u v hru hrv;have e4:=aAj aSY hq ha hb (is:=is) λj hj=>hi j (by simp[hj])
  rw[List.forIn_cons];simp only[Sem.run_bind,hu,hv,e3,Result.andThen_ok];cases hqi:q i
  .simp[hqi]
  .simp only[Kg,ya,gA,Sem.run_pure,Result.andThen_ok,List.all_cons,hqi,nY];exact e4
theorem aFl:∀{d:Nat} {t:TypeId} {x y:RV} {r:Bool} {l:List Fp},aJ (eqT P d t x y) g r l->∀(D:Nat),d<=D->∀(π:Pi) a b (w:World),x.rel π a->y.rel π b->(Op.equalIn D t a b).run P w=.ok r w
 |0,_,_,_,_,_,h,_,_,_,_,_,_,_,_=>by cases h
 |d+1,t,x,y,r,l,h,D,hD,π,a,b,w,hx,hy=>by
  obtain⟨D',rfl⟩:∃D',D=D'+1:=⟨D-1,by omega⟩;have ih:∀t x y r l,aJ (eqT P d t x y) g r l->∀(π:Pi) a b (w:World),x.rel π a->y.rel π b->(Op.equalIn D' t a b).run P w=.ok r w:=λt x y r l h π a b w hx hy=>aFl h D' (by omega) π a b w hx hy
  unfold eqT at h;split at h
  .rename_i p q hu
   cases h;have hx:a=_:=hx;have hy:b=_:=hy;subst hx hy;exact run_equalIn_bool w D' t p q hu
  .rename_i k0 k p k' q hu
   have hx:a=_:=hx;have hy:b=_:=hy;subst hx hy;split at h
   .rename_i hk
    subst hk;cases h;exact run_equalIn_int w D' t k k0 p q hu
   .cases h
  .rename_i p q hu
   cases h;have hx:a=_:=hx;have hy:b=_:=hy;subst hx hy;rw[run_equalIn_string w D' t p q hu,beq_toListBytes]
  .rename_i e hu
   cases h;have hx:a=_:=hx;have hy:b=_:=hy;subst hx hy;simp[Op.equalIn,run_underlying hu]
  .rename_i e p1 p2 p3 hu
   cases h;obtain⟨B,s,q',e',_,hx,_⟩:=hx;have hy:b=_:=hy;subst hx hy;simp[Op.equalIn,run_underlying hu]
  .rename_i e p1 p2 p3 hu
   cases h;obtain⟨B,s,q',e',_,hy,_⟩:=hy;have hx:a=_:=hx;subst hx hy;simp[Op.equalIn,run_underlying hu]
  .rename_i fs xs ys hu
   split at h
   .cases h
   .rename_i hst
    obtain⟨as,rfl,has⟩:=hx;obtain⟨bs,rfl,hbs⟩:=hy;have hf:P.fieldsOf t=fs:=by simp[Program.fieldsOf,hu]
    rw[run_equalIn_struct w D' t as bs (by rw[hf];exact hu) hst,hf];exact ayz ih h π as bs w has hbs
  .rename_i n e xs ys hu
   obtain⟨z,⟨_,h1⟩,_,h⟩:=aJ.bind' h;obtain⟨as,rfl,has⟩:=hx;obtain⟨bs,rfl,hbs⟩:=hy
   have e1:List.range' 0 [:n].size=to n:=by
    rw[List.range_eq_range'];simp[Std.Legacy.Range.size]
   split at h
   .rename_i r' alC
    cases h;unfold aXr at alC;split at alC
    .rename_i m c m' c'
     split at alC
     .rename_i hc
      simp only[cB,beq_iff,fy] at hc;obtain⟨hd1,rfl,rfl,rfl,hsc⟩:=hc
      obtain⟨c0,rfl⟩:∃c0,c=[c0]:=by
       unfold aem at hsc;split at hsc
       .exact⟨_,rfl⟩
       .exact⟨_,rfl⟩
       .cases hsc
      obtain⟨c1,rfl⟩:∃c1,c'=[c1]:=by
       unfold aEG at alC;split at alC
       .exact⟨_,rfl⟩
       .exact⟨_,rfl⟩
       .cases alC
      obtain⟨q,hq1,hq2⟩:=aNm hsc alC (show D'=D'-1+1 by omega) w;have key:=aAj (P:=P) (aNn hsc) hq2 has hbs (is:=to m') (λi hi=>List.mem_range.1 hi);simp only[Op.equalIn,Sem.run_bind,run_underlying hu,Result.andThen_ok,run_sizeOf h1.eu,Std.Legacy.Range.forIn_eq_forIn_range'];rw[e1,key,hq1];unfold aSF;cases(to m').all q<;>simp
     .cases alC
    .cases alC
   .have key:=aI9 ih h π as bs w has hbs;simp only[Op.equalIn,Sem.run_bind,run_underlying hu,Result.andThen_ok,run_sizeOf h1.eu,Std.Legacy.Range.forIn_eq_forIn_range'];rw[e1,key];cases r<;>simp
  .cases h
theorem aXT {t:TypeId}{x y:RV}{r:Bool}{l:List Fp}(h:aJ (eqV P t x y) g r l)(π:Pi)(a b:Value)(w:World)(hx:x.rel π a)(hy:y.rel π b):
  (∀(op:BinOp) (p q:Operand),(eqGuard op t p q a b).run P w=.ok () w)/\(binOp .eql t a b).run P w=.ok (.bool r) w/\(binOp .neq t a b).run P w=.ok (.bool (!r)) w:=by
 unfold eqV at h;split at h
 .rename_i xs ys
  split at h
  .cases h
  .rename_i hg
   obtain⟨as,rfl,has⟩:=hx;obtain⟨bs,rfl,hbs⟩:=hy;have e:=aFl (x:=.agg xs) (y:=.agg ys) h 10000 (by omega) π (.agg as) (.agg bs) w ⟨as,rfl,has⟩ ⟨bs,rfl,hbs⟩;refine⟨λop p q=>run_eqGuard_agg w op t p q as bs hg,?_,?_⟩
   .rw[run_eql_struct,e];rfl
   .rw[run_neq_struct,e];rfl
 .cases h
 .cases h
 .cases h
 .cases h
 .have e:=aFl h 10000 (by omega) π a b w hx hy;have e':(Op.equal t a b).run P w=.ok r w:=e;unfold eqT at h;split at h
  .have hx:a=_:=hx;have hy:b=_:=hy;subst hx hy;have:=avi (by intros;simp) (by intros;simp) (by intros;simp) (by intros;simp) e';exact⟨λop p q=>aHs op t p q _ _ w,this⟩
  .exfalso;simp_all
  .exfalso;simp_all
  .have hx:a=_:=hx;have hy:b=_:=hy;subst hx hy;have:=avi (by intros;simp) (by intros;simp) (by intros;simp) (by intros;simp) e';exact⟨λop p q=>agO op t p q _ _ w,this⟩
  .obtain⟨B,s,q',e',_,hx,_⟩:=hx;have hy:b=_:=hy;subst hx hy;have:=avi (by intros;simp) (by intros;simp) (by intros;simp) (by intros;simp) e;exact⟨λop p q=>agO op t p q _ _ w,this⟩
  .obtain⟨B,s,q',e',_,hy,_⟩:=hy;have hx:a=_:=hx;subst hx hy;have:=avi (by intros;simp) (by intros;simp) (by intros;simp) (by intros;simp) e;exact⟨λop p q=>agO op t p q _ _ w,this⟩
  .exfalso;simp_all
  .exfalso;simp_all
  .cases h
end
end Go.Ab
namespace Go.Ab
variable [ay]
section
variable {P:Program} {E:Env} {X:Cx} {D:Nat->Prop} {g:Gt}
theorem aJa (hE:∀f F,E f=some F->Sound P f F){o:Oper}{aM:Nat}{us:List Up}{fp:List Fp}(h:aJ (aop P E o aM) g us fp):Aw P o X D aM us g:=by
 unfold aop at h;simp only[] at h;split at h
 .rename_i x qM;exact aE4 (.inl qM) h
 .rename_i x qM;exact aE4 (.inr qM) h
 .rename_i c x y qM;exact aQP qM h
 .rename_i e qM;exact aM5 qM h
 .rename_i e x qM;exact aTw qM h
 .rename_i t n c qM;exact aCC qM h
 .rename_i t ps qM;exact aNd qM h
 .rename_i t n ps qM;exact ayv qM h
 .rename_i t x qM;exact aQQ qM h
 .rename_i t x y qM;exact aM6 qM h
 .rename_i x qM;exact aE8 qM h
 .rename_i op t x y yt qM
  obtain⟨r1,⟨_,h1⟩,_,h⟩:=aJ.bind' h;obtain⟨r2,⟨_,h2⟩,_,h⟩:=aJ.bind' h;obtain⟨v,⟨_,h3⟩,_,h⟩:=aJ.bind' h;cases h;refine iQ λπ a w R=> ?_;obtain⟨z,hz,hr⟩:=aTz h3 (λr l hr π a b w hx hy=>aXT hr π a b w hx hy) (h1.wL R) (h2.wL R) x y w;refine⟨z,?_,hr⟩;simp only[execOp,qM];rw[Sem.run_bind,hz];rfl
 .rename_i op t x qM;exact aQR qM h
 .rename_i s d x qM;exact aHt qM h
 .rename_i t x qM;exact aE9 qM h
 .rename_i f fs aek qM;exact aFa qM h
 .rename_i t x lo hi qM;exact aNa qM h
 .rename_i t x i qM;exact aCA qM h
 .rename_i t x i qM;exact aM7 qM h
 .rename_i t x i qM;exact aCB qM h
 .rename_i t x i qM;exact aM9 qM h
 .rename_i x i qM;exact aHu qM h
 .rename_i c qM
  obtain⟨args,⟨l0,h1⟩,_,h⟩:=aJ.bind' h;split at h
  .rename_i b hc
   unfold biV at h;split at h
   .exact aTB qM hc h1 rfl h
   .rename_i s x
    obtain⟨t,⟨_,h2⟩,_,h⟩:=aJ.bind' h;obtain⟨_,⟨_,h3⟩,_,h⟩:=aJ.bind' h;obtain⟨s',⟨_,h4⟩,_,h⟩:=aJ.bind' h;obtain⟨x',⟨_,h5⟩,_,h⟩:=aJ.bind' h;have h2:=h2.eu;have h3:=h3.cR
    have hts:c.argTypes=#[t,t]:=by
     split at h3
     .rename_i t1 t2 he
      have e:=lE h3;subst e;have e2:=a3r he;rw[e2] at h2;simp at h2
      rw[e2,h2]
     .cases h3
    exact aKO qM hc h1 rfl hts h4.asC h5.asC h
   .rename_i d x
    obtain⟨t,⟨_,h2⟩,_,h⟩:=aJ.bind' h;obtain⟨d',⟨_,h4⟩,_,h⟩:=aJ.bind' h;obtain⟨x',⟨_,h5⟩,_,h⟩:=aJ.bind' h;exact aQU qM hc h1 rfl h2.eu h4.asC h5.asC h
   .exact aNf (λx y v l h=>aTC h) qM hc (aZB c.argTypes) h1 rfl h
   .exact aNf (λx y v l h=>aTD h) qM hc (aZC c.argTypes) h1 rfl h
   .cases h
  .rename_i fo hc
   obtain⟨fv,⟨_,h2⟩,_,h⟩:=aJ.bind' h;obtain⟨fc,⟨_,h3⟩,_,h⟩:=aJ.bind' h
   have aXR:∀(π:Pi) (x:Value),fv.rel π x->∃arr:Array Value,x=.func (.func fc.1) #[] arr/\bu (RV.rel π) fc.2 arr.toList:=by
    unfold a0R at h3;split at h3
    .cases h3;exact λπ x hx=>hx
    .cases h3;rintro π x ⟨B,s,q,e,hb,hx,hle⟩
     exact⟨_,hx,⟨⟨B,s,q,e,hb,rfl,hle⟩,trivial⟩⟩
    .cases h3
   exact aQW hE qM hc h1 h2 aXR h
  .cases h
 .cases h
end
end Go.Ab
namespace Go.Ab
variable [ay]
inductive acg (P:Program) (E:Env) (ops:List Oper) (o:Oper) (aM:Nat) (g:Gt):List Up->List Fp->Prop
 |run {us fp} (hg:o.guard=none) (h:aJ (aop P E o aM) g us fp):acg P E ops o aM g us fp
 |aSZ {us fp} (j:Nat) (want:Bool) (t:Tmp) (hg:o.guard=some (j,want)) (ht:OL ops j=some t) (hx:g.t t=.r (.c (.f (.b want)))) (h:aJ (aop P E o aM) g us fp):acg P E ops o aM g us (.t t::fp)
 |skip (j:Nat) (want:Bool) (t:Tmp) (hg:o.guard=some (j,want)) (ht:OL ops j=some t) (hx:g.t t=.r (.c (.f (.b (!want))))∨g.t t=.tup []):acg P E ops o aM g (dY o.dst udf) [.t t]
omit [ay] in
theorem acg.local {P:Program}{E:Env}{ops:List Oper}{o:Oper}{aM:Nat}{g g':Gt}{us:List Up}{fp:List Fp}(h:acg P E ops o aM g us fp)(e:∀f∈fp,∀p,f.has p->g.at p=g'.at p):acg P E ops o aM g' us fp:=by
 cases h with
 |run hg h=>exact .run hg (h.local e)
 |aSZ j want t hg ht hx h=>
  have e1:g.t t=g'.t t:=by simpa[Gt.at] using e (.t t) (by simp) (.t t) rfl
  exact .aSZ j want t hg ht (e1▸hx) (h.local λf hf=>e f (by simp[hf]))
 |skip j want t hg ht hx=>
  have e1:g.t t=g'.t t:=by simpa[Gt.at] using e (.t t) (by simp) (.t t) rfl
  exact .skip j want t hg ht (e1▸hx)
inductive EP (P:Program) (E:Env) (ops:List Oper) (k:Nat):List Oper->St->List Tr->St->Prop
 |nil (s:St):EP P E ops k [] s [] s
 |cons {o rest s s1 s2 us fp tr dS} (hd:∀d,o.dst=some d->d<s.tmps.length) (h:acg P E ops o s.heap.length s.gt us fp) (hus:tr.us=us) (hfp:∀f∈fp,f∈tr.fp) (ha:jX k us s=some s1) (ht:EP P E ops k rest s1 dS s2):EP P E ops k (o::rest) s (tr::dS) s2
omit [ay] in
theorem apm {s:St}{t:Nat}{v:AV}(h:s.tmp t=v):{s with tmps:=s.tmps.set t v}=s:=by
 have:s.tmps.set t v=s.tmps:=by
  apply List.ext_getElem?
  intro i;rw[aED];by_cases e:t=i
  .subst e;by_cases hl:t<s.tmps.length
   .rw[if_pos rfl,if_pos hl];rw[kR hl];unfold St.tmp at h;rw[AZ] at h;simp only[List.getD,kR hl,LU] at h;rw[h]
   .rw[if_pos rfl,if_neg hl,Ke (by omega)]
  .rw[if_neg e]
 rw[this]
omit [ay] in
theorem alE {k:Nat}:∀{us:List Up} {s s':St},jX k us s=some s'->s'.tmps.length=s.tmps.length
 | [],s,s',h=>by simp[jX] at h;subst h;rfl
 |u::us,s,s',h=>by
  simp only[jX] at h;split at h
  .rw[alE h];cases u with
   |t i v=>simp[Up.app]
   |c b o v=>simp only[Up.app];split<;>first|rfl|(split<;>rfl)
   |_=>rfl
  .cases h
omit [ay] in
theorem Ma {P:Program}{E:Env}{nt k:Nat}{ops:List Oper}{ρ:Type}:∀{rest:List Oper} {s:St} {l:List Tr} {c:St->List Tr->Option ρ} {r:ρ},nt<=s.tmps.length->LZ P E nt k ops rest s l c=some r->
  ∃s' dS,EP P E ops k rest s dS s'/\c s' (l++dS)=some r
 | [],s,l,c,r,_,h=>⟨s,[],.nil s,by simpa[LZ] using h⟩
 |o::rest,s,l,c,r,Z4,h=>by
  have go:∀(l0:List Fp) (hd:∀d,o.dst=some d->d<s.tmps.length),(∀us fp,aJ (aop P E o s.heap.length) s.gt us fp->∃fp',acg P E ops o s.heap.length s.gt us fp'/\∀f∈fp',f∈fp.reverse++l0)->
    ((aop P E o s.heap.length).run s l0 λus fp=>match jX k us s with
     |some s'=>LZ P E nt k ops rest s' (l++[⟨fp,us⟩]) c
     |none=>none)=some r->∃s' dS,EP P E ops k (o::rest) s dS s'/\c s' (l++dS)=some r:=by
   intro l0 hd qM nW;obtain⟨us,fp,h1,h2⟩:=Rd.aQN nW;cases ha:jX k us s with
   |none=>rw[ha] at h2;cases h2
   |some s1=>
    rw[ha] at h2;obtain⟨s2,dS,t1,t2⟩:=Ma (by rw[alE ha];exact Z4) h2;obtain⟨fp',o1,o2⟩:=qM us fp h1;exact⟨s2,⟨fp.reverse++l0,us⟩::dS,.cons hd o1 rfl o2 ha t1,by simpa using t2⟩
  have skip:∀(j:Nat) (want:Bool) (t:Tmp) (hd:∀d,o.dst=some d->d<s.tmps.length),o.guard=some (j,want)->OL ops j=some t->(s.gt.t t=.r (.c (.f (.b (!want))))∨s.gt.t t=.tup [])->
    (match jX k (dY o.dst udf) s with
     |some s'=>LZ P E nt k ops rest s' (l++[⟨[.t t],dY o.dst udf⟩]) c
     |none=>none)=some r->∃s' dS,EP P E ops k (o::rest) s dS s'/\c s' (l++dS)=some r:=by
   intro j want t hd hg ht hx nW;cases ha:jX k (dY o.dst udf) s with
   |none=>rw[ha] at nW;cases nW
   |some s1=>
    rw[ha] at nW;obtain⟨s2,dS,t1,t2⟩:=Ma (by rw[alE ha];exact Z4) nW;exact⟨s2,⟨[.t t],dY o.dst udf⟩::dS,.cons hd (.skip j want t hg ht hx) rfl (by simp) ha t1,by simpa using t2⟩
  simp only[LZ,aM0,aE1,WN] at h;split at h
  .cases h
  .rename_i hdk
   have hd:∀d,o.dst=some d->d<s.tmps.length:=λd hd=>by
    unfold aXx at hdk;rw[hd] at hdk;have h2:wl d nt=true:=hdk;exact aEC (uX.1 h2) Z4
   split at h
   .rename_i hg
    exact go [] hd (λus fp h=>⟨fp,.run hg h,by simp⟩) h
   .rename_i j want hg
    split at h
    .cases h
    .rename_i t ht
     split at h
     .rename_i x hx
      have goG:s.tmp t=.r (.c (.f (.b want)))->_:=λhx=>go [.t t] hd (λus fp h=>⟨.t t::fp,.aSZ j want t hg ht hx h,by simp;intro a ha;exact .inl ha⟩)
      cases x with
      |true=>
       simp only[alz] at h;split at h
       .cases want with
        |true=>
         simp only at h;rw[apm hx] at h;exact goG hx h
        |false=>
         simp only at h;rw[apm hx] at h;exact skip j false t hd hg ht (.inl hx) h
       .cases h
      |false=>
       simp only[alz] at h;split at h
       .cases want with
        |true=>
         simp only at h;rw[apm hx] at h;exact skip j true t hd hg ht (.inl hx) h
        |false=>
         simp only at h;rw[apm hx] at h;exact goG hx h
       .cases h
     .rename_i hx
      exact skip j want t hd hg ht (.inr hx) h
     .cases h
omit [ay] in
theorem A6 {k b:Nat}{d:List Nat}{x:Nat}:x∈mark k b d↔x∈d∨(x=b/\b<k):=by
 unfold mark;split
 .rename_i h
  simp only[cB,Nat.blt_eq] at h;simp only[ab7];constructor
  .rintro (rfl|h1)
   .exact .inr ⟨rfl,h.1⟩
   .exact .inl h1
  .rintro (h1| ⟨rfl,_⟩)
   .exact .inr h1
   .exact .inl rfl
 .rename_i h
  constructor
  .exact .inl
  .rintro (h1| ⟨rfl,hk⟩)
   .exact h1
   .have LK:wl x k=true:=by simpa using hk
    have:d.any (z9 x)=true:=by
     by_cases ha:d.any (z9 x)=true
     .exact ha
     .rw[LK] at h;simp_all
    obtain⟨y,hy,he⟩:=ab6.1 this;rw[lE he];exact hy
structure aKR (k:Nat)(us:List Up)(s s':St):Prop where
 heap:s'.heap.length=s.heap.length+cF us
 tmps:s'.tmps.length=s.tmps.length
 sub:∀b,b∈s.du->b∈s'.du
 perm:∀u∈us,u.perm k (·∈s'.du)
 mB:∀b,b<k->b<s.heap.length->b∉s'.du->s'.bU b=s.bU b
omit [ay] in
theorem Up.aZF {k:Nat}{u:Up}{s:St}(h:u.ok s=true):aKR k [u] s (u.app k s):=by
 cases u with
 |t i v=>exact⟨rfl,by simp[Up.app],λ_ h=>h,λu hu=>by simp at hu;subst hu;trivial,λ_ _ _ _=>rfl⟩
 |c b lo vs=>
  simp only[Up.ok] at h;split at h
  .rename_i bU hb
   split at h
   case h_2=>cases h
   rename_i p hp
   have e:(Up.c b lo vs).app k s={s with heap:=s.heap.set b (some p.2),du:=mark k b s.du}:=by simp[Up.app,hb,hp]
   rw[e];refine⟨by simp[cF],rfl,λx hx=>A6.2 (.inl hx),λu hu=> ?_,λb' fu hl hn=> ?_⟩
   .simp at hu;subst hu;exact λhk=>A6.2 (.inr ⟨rfl,hk⟩)
   .have mC:b'≠b:=λe=>hn (A6.2 (.inr ⟨e,e▸fu⟩))
    show((s.heap.set b _)[b']?).getD none=_;rw[avg (St.aKK hb),if_neg mC];rfl
  .cases h
 |new b bU=>
  have hb:b=s.heap.length:=lE h;refine⟨by simp[Up.app,cF],rfl,λ_ h=>h,λu hu=>by simp at hu;subst hu;trivial,λb' _ hl _=> ?_⟩;show((s.heap++[some bU])[b']?).getD none=_;rw[aMW,if_neg (by omega)];rfl
 |kill b=>
  have hb:b<s.heap.length:=by have h:=h;simp[Up.ok,wl] at h;omega
  refine⟨by simp[Up.app,cF],rfl,λx hx=>A6.2 (.inl hx),λu hu=> ?_,λb' fu hl hn=> ?_⟩
  .simp at hu;subst hu;exact λhk=>A6.2 (.inr ⟨rfl,hk⟩)
  .have mC:b'≠b:=λe=>hn (A6.2 (.inr ⟨e,e▸fu⟩))
   show((s.heap.set b none)[b']?).getD none=_;rw[avg hb,if_neg mC];rfl
omit [ay] in
theorem Up.aQY {k:Nat}{D D':Nat->Prop}(h:∀b,D b->D' b){u:Up}(p:u.perm k D):u.perm k D':=by
 cases u<;>first|trivial|exact λhk=>h _ (p hk)
omit [ay] in
theorem Kl {k:Nat}:∀{us:List Up} {s s':St},jX k us s=some s'->aKR k us s s'
 | [],s,s',h=>by
  simp[jX] at h;subst h
  exact⟨rfl,rfl,λ_ h=>h,λu hu=>by simp at hu,λ_ _ _ _=>rfl⟩
 |u::us,s,s',h=>by
  simp only[jX] at h;split at h
  .rename_i hu
   have A:=Up.aZF (k:=k) hu;have B:=Kl h;refine⟨?_,B.tmps.trans A.tmps,λb hb=>B.sub _ (A.sub b hb),λv hv=> ?_,λb hb hl hn=> ?_⟩
   .rw[B.heap,A.heap,show cF (u::us)=cF [u]+cF us from FB [u] us];omega
   .rcases ab7.1 hv with rfl|hv
    .exact Up.aQY B.sub (A.perm v (by simp))
    .exact B.perm v hv
   .have h1:=A.heap;rw[B.mB b hb (by omega) hn,A.mB b hb hl (λhx=>hn (B.sub b hx))]
  .cases h
end Go.Ab
namespace Go.Ab
variable [ay]
section
variable {P:Program} {E:Env} {X:Cx} {D:Nat->Prop}
theorem aFm {ops:Array Oper}{o:Oper}{j:Nat}{want:Bool}{t:Tmp}{g:Gt}{π:Pi}{a:Act}{w:World}(R:Rel X D π g a w)(hg:o.guard=some (j,want))(ht:OL ops.toList j=some t):
  (g.t t=.r (.c (.f (.b want)))->Region.wanted o (yielded ops a.tmps)=true)/\((g.t t=.r (.c (.f (.b (!want))))∨g.t t=.tup [])->Region.wanted o (yielded ops a.tmps)=false):=by
 have hs:(ops[j]?).bind (·.dst)=some t:=by
  unfold OL at ht;rw[<-WB];exact ht
 have hr:=R.tm t
 have hy:∀b:Bool,a.tmps.getD t undef=.bool b->yielded ops a.tmps j=some b:=λb hb=>by
  unfold yielded;rw[hs];simp only[bG];rw[aqA] at hb;cases hx:a.tmps[t]? with
  |none=>rw[hx] at hb;simp[undef] at hb
  |some x=>rw[hx] at hb;simp at hb;subst hb;rfl
 refine⟨λh=> ?_,λh=> ?_⟩
 .rw[h] at hr;have:=hy want hr;simp[Region.wanted,hg,this]
 .rcases h with h|h
  .rw[h] at hr;have:=hy (!want) hr;simp only[Region.wanted,hg,this];cases want<;>rfl
  .rw[h] at hr;obtain⟨arr,hx,aNo⟩:=hr
   have:yielded ops a.tmps j=none:=by
    unfold yielded;rw[hs];simp only[bG];rw[aqA] at hx;cases hy:a.tmps[t]? with
    |none=>rfl
    |some x=>rw[hy] at hx;simp at hx;subst hx;rfl
   simp only[Region.wanted,hg,this];rfl
theorem aAk (hE:∀f F,E f=some F->Sound P f F){ops:Array Oper}{i:Nat}{o:Oper}(hi:ops[i]? =some o){aM:Nat}{us:List Up}{fp:List Fp}{g:Gt}(h:acg P E ops.toList o aM g us fp)
  {π:Pi}{a:Act}{w:World}(R:Rel X D π g a w)(hk:X.k<=aM)(hfr:∀b,aM<=b->b<aM+cF us->π b=none)(hd:∀d,o.dst=some d->d<X.N)(hp:∀u∈us,u.perm X.k D){K:Act->World->Prop}{Q:Exit->Act->World->Prop}
  (hn:∀a' w' π',Ext π π'->(∀b,π' b≠none->π b≠none∨(aM<=b/\b<aM+cF us))->Rel X D π' (cH us g) a' w'->K a' w'):wpOp P ops Q i K a w:=by
 unfold wpOp;rw[hi];simp only[];cases h with
 |run hg h=>
  have:Region.wanted o (yielded ops a.tmps)=true:=by simp[Region.wanted,hg]
  rw[if_pos this];exact .inl (aJa hE h π a w K Q R hk hfr hd hp hn)
 |aSZ j want t hg ht hx h=>
  rw[if_pos ((aFm R hg ht).1 hx)];exact .inl (aJa hE h π a w K Q R hk hfr hd hp hn)
 |skip j want t hg ht hx=>
  rw[if_neg (by rw[(aFm R hg ht).2 hx];simp)];exact hn _ _ π (Ext.refl _) (λb h=>.inl h) (R.dst hd (ats π))
structure iG (X:Cx)(h0:List aj)(π:Pi)(s:St)(a:Act)(w:World):Prop where
 rel:Rel X (·∈s.du) π s.gt a w
 len:s.tmps.length=X.N
 dom:∀b,π b≠none->b<s.heap.length
 drt:∀b,b<X.k->b∉s.du->s.bU b=h0[b]?
 hk:X.k<=s.heap.length
 dlt:∀b,b∈s.du->b<X.k
theorem aKR.aXU {X:Cx}{h0:List aj}{π π':Pi}{s s':St}{us:List Up}{a a':Act}{w w':World}(A:aKR X.k us s s')(R:iG X h0 π s a w)(hg:s'.gt=cH us s.gt)(hR:Rel X (·∈s'.du) π' (cH us s.gt) a' w')
  (kr:∀b,π' b≠none->π b≠none∨(s.heap.length<=b/\b<s.heap.length+cF us))(hdl:∀b,b∈s'.du->b<X.k):iG X h0 π' s' a' w':=by
 refine⟨hg▸hR,A.tmps.trans R.len,λb hb=> ?_,λb hb hn=> ?_,?_,hdl⟩
 .rw[A.heap];rcases kr b hb with h|h
  .have:=R.dom b h;omega
  .omega
 .rw[A.mB b hb (aEC hb R.hk) hn];exact R.drt b hb (λh=>hn (A.sub b h))
 .rw[A.heap];have:=R.hk;omega
omit [ay] in
theorem alF {k:Nat}:∀{us:List Up} {s s':St},jX k us s=some s'->(∀b,b∈s.du->b<k)->∀b,b∈s'.du->b<k
 | [],s,s',h,hd,b,hb=>by simp[jX] at h;subst h;exact hd b hb
 |u::us,s,s',h,hd,b,hb=>by
  simp only[jX] at h;split at h
  .refine alF h (λb hb=> ?_) b hb;cases u with
   |t i v=>exact hd b hb
   |c b' lo vs=>
    simp only[Up.app] at hb;split at hb
    .split at hb
     .rcases A6.1 hb with h| ⟨rfl,h⟩
      .exact hd b h
      .exact h
     .exact hd b hb
    .exact hd b hb
   |new b' bU=>exact hd b hb
   |kill b'=>
    rcases A6.1 hb with h| ⟨rfl,h⟩
    .exact hd b h
    .exact h
  .cases h
theorem aAl (hE:∀f F,E f=some F->Sound P f F){h0:List aj}{ops:Array Oper}{Q:Exit->Act->World->Prop}{s':St}(hQ:∀a' w' π',iG X h0 π' s' a' w'->Q .normal a' w'):
  ∀{rest:List Oper} {i:Nat} {s:St} {dS:List Tr} {π:Pi} {a:Act} {w:World},EP P E ops.toList X.k rest s dS s'->(∀j,rest[j]? =ops[i+j]?)->iG X h0 π s a w->wpOps P ops Q (List.range' i rest.length) a w
 | [],i,s,dS,π,a,w,h,_,R=>by
  cases h;exact hQ a w π R
 |o::rest,i,s,dS,π,a,w,h,hr,R=>by
  cases h with|@cons _ _ _ s1 _ us fp tr dS hd h hus hfp ha ht=>
  have A:=Kl ha;have hg:=OP ha;have hio:ops[i]? =some o:=by simpa using(hr 0).symm
  rw[LV,List.range'_succ,wpOps_cons];refine aAk hE hio h (R.rel.aKM λb hb=>A.sub b hb) R.hk (λb h1 _=> ?_) (λd h=>by rw[<-R.len];exact hd d h) A.perm (λa' w' π' hx kr hR=> ?_)
  .cases hb:π b with
   |none=>rfl
   |some p=>have:=R.dom b (by simp[hb]);omega
  .exact aAl hE hQ ht (λj=>by have:=hr (j+1);rw[show i+1+j=i+(j+1) by omega,<-this];simp) (A.aXU R hg hR kr (alF ha R.dlt))
end
end Go.Ab
namespace Go.Ab
variable [ay]
def tch (us:List Up)(p:Pt):Prop:=∃u∈us,u.H0 p
def gl:List Tr->(Nat->Bool)->Nat->Gt->Gt
 | [],_,_,g=>g
 |tr::dS,L,i,g=>gl dS L (i+1) (if L i=true then cH tr.us g else g)
omit [ay] in
theorem aKS {p:Pt}:∀{dS:List Tr} {L L':Nat->Bool} {i:Nat} {g g':Gt},(∀(j:Nat) tr,dS[j]? =some tr->L (i+j)≠L' (i+j)->¬tch tr.us p)->g.at p=g'.at p->(gl dS L i g).at p=(gl dS L' i g').at p
 | [],_,_,_,_,_,_,h=>h
 |tr::dS,L,L',i,g,g',hd,h=>by
  simp only[gl];refine aKS (λj OR hj mC=>hd (j+1) OR (by simpa using hj) (by rw[show i+(j+1)=i+1+j by omega];exact mC)) ?_;have h0:=hd 0 tr rfl;rw[ku] at h0;by_cases h1:L i=true<;>by_cases h2:L' i=true
  .rw[if_pos h1,if_pos h2];exact agL (.inr h)
  .rw[if_pos h1,if_neg h2];have:=h0 (by rw[h1];exact λe=>h2 e.symm);rw[rq λu hu ht=>this ⟨u,hu,ht⟩];exact h
  .rw[if_neg h1,if_pos h2];have:=h0 (by rw[h2];exact h1);rw[rq λu hu ht=>this ⟨u,hu,ht⟩];exact h
  .rw[if_neg h1,if_neg h2];exact h
omit [ay] in
theorem aFn:∀(a b:List Tr) (L:Nat->Bool) (i:Nat) (g:Gt),gl (a++b) L i g=gl b L (i+a.length) (gl a L i g)
 | [],b,L,i,g=>by simp[gl]
 |x::a,b,L,i,g=>by
  simp only[List.cons_append,gl,LV];rw[aFn a b,show i+1+a.length=i+(a.length+1) by omega]
omit [ay] in
theorem apn:∀{dS:List Tr} {L L':Nat->Bool} {i:Nat} {g:Gt},(∀j,j<dS.length->L (i+j)=L' (i+j))->gl dS L i g=gl dS L' i g
 | [],_,_,_,_,_=>rfl
 |tr::dS,L,L',i,g,h=>by
  simp only[gl];have:=h 0 (by simp);rw[ku] at this;rw[this];exact apn λj hj=>by have:=h (j+1) (by simp;omega);rwa [show i+(j+1)=i+1+j by omega] at this
omit [ay] in
theorem avl:∀{dS:List Tr} {L:Nat->Bool} {i:Nat} {g:Gt},(∀j,j<dS.length->L (i+j)=false)->gl dS L i g=g
 | [],_,_,_,_=>rfl
 |tr::dS,L,i,g,h=>by
  simp only[gl];have:=h 0 (by simp);rw[ku] at this;rw[this];exact avl λj hj=>by have:=h (j+1) (by simp;omega);rwa [show i+(j+1)=i+1+j by omega] at this
omit [ay] in
theorem aXV {dS:List Tr}{L L':Nat->Bool}{i:Nat}{tr:Tr}{g:Gt}(hi:dS[i]? =some tr)(h0:L i=false)(h1:L' i=true)(hL:∀j,j≠i->L' j=L j)
  (hap:∀(j:Nat) OR,i<j->dS[j]? =some OR->L j=true->∀p,tch tr.us p->¬tch OR.us p):gl dS L' 0 g=cH tr.us (gl dS L 0 g):=by
 have nL:=(lL.1 hi).1
 have aZG:dS=dS.take i++(tr::dS.drop (i+1)):=by
  have e:dS[i]=tr:=(lL.1 hi).2;rw[<-e,List.getElem_cons_drop,List.take_append_drop]
 have hlen:(dS.take i).length=i:=by simp;omega
 have key:∀M:Nat->Bool,gl dS M 0 g=gl (dS.drop (i+1)) M (i+1) (if M i=true then cH tr.us (gl (dS.take i) M 0 g) else gl (dS.take i) M 0 g):=λM=>by
  conv=>lhs;rw[aZG]
  rw[aFn,hlen,dG];rfl
 rw[key L',key L,if_pos h1,if_neg (by rw[h0];simp)];have e1:gl (dS.take i) L' 0 g=gl (dS.take i) L 0 g:=apn λj hj=>by rw[hlen] at hj;exact hL _ (by omega)
 rw[e1];have e2:∀h,gl (dS.drop (i+1)) L' (i+1) h=gl (dS.drop (i+1)) L (i+1) h:=λh=>apn λj _=>hL _ (by omega)
 rw[e2];apply Gt.aSQ
 intro p
 have a1V:∀(j:Nat) OR,(dS.drop (i+1))[j]? =some OR->L (i+1+j)=true->∀p,tch tr.us p->¬tch OR.us p:=λj OR hj hl p hp=>by
  rw[Te] at hj;exact hap (i+1+j) OR (by omega) hj hl p hp
 by_cases hp:tch tr.us p
 .have a1:=aKS (p:=p) (dS:=dS.drop (i+1)) (L:=L) (L':=λ_=>false) (i:=i+1) (g:=cH tr.us (gl (dS.take i) L 0 g)) (g':=cH tr.us (gl (dS.take i) L 0 g)) (λj OR hj mC=>a1V j OR hj (by simpa using mC) p hp) rfl;rw[avl (L:=λ_=>false) (λ_ _=>rfl)] at a1;rw[a1];exact agL (.inl hp)
 .have Z4:∀u∈tr.us,¬u.H0 p:=λu hu ht=>hp ⟨u,hu,ht⟩
  rw[rq Z4];exact aKS (λj OR _ mC=>absurd rfl mC) (rq Z4)
omit [ay] in
theorem aFo (acc:List Nat)(i:Nat):∀(l:List Edge) (m:Nat),Nat.testBit (l.foldl (aQH acc) m) i=true->
  Nat.testBit m i=true∨∃e∈l,Region.binds .any e=true/\(e.on=i∨Nat.testBit (acc.getD e.on 0) i=true)
 | [],m,h=>.inl h
 |e::l,m,h=>by
  rw[List.foldl_cons] at h;rcases aFo acc i l _ h with h1| ⟨e',he',h1⟩
  .unfold aQH at h1;cases hb:Region.binds .any e with
   |false=>rw[hb] at h1;exact .inl h1
   |true=>
    rw[hb] at h1;simp only[Nat.testBit_or,agu,Nat.testBit_two_pow,jW] at h1;rcases h1 with(h1|h1)|h1
    .exact .inl h1
    .exact .inr ⟨e,by simp,hb,.inl h1⟩
    .exact .inr ⟨e,by simp,hb,.inr h1⟩
  .exact .inr ⟨e',by simp[he'],h1⟩
omit [ay] in
theorem aFp:∀(l:List Oper) (acc:List Nat),∃t,LY l acc=acc++t
 | [],acc=>⟨[],by simp[LY]⟩
 |o::l,acc=>by
  obtain⟨t,ht⟩:=aFp l (acc++[mask acc o]);exact⟨_,by rw[LY,ht,ayi]⟩
omit [ay] in
theorem aFq {i:Nat}:∀(l:List Oper) (acc:List Nat) (j:Nat) (o:Oper),l[j]? =some o->(∀e∈o.after.toList,Region.binds .any e=true->e.on<acc.length+j)->Nat.testBit ((LY l acc).getD (acc.length+j) 0) i=true->
  ∃e∈o.after.toList,Region.binds .any e=true/\(e.on=i∨(e.on<acc.length+j/\Nat.testBit ((LY l acc).getD e.on 0) i=true))
 | [],_,j,o,h,_,_=>by simp at h
 |o0::l,acc,0,o,h,he,hb=>by
  simp at h;subst h
  obtain⟨t,ht⟩:=aFp l (acc++[mask acc o0]);have hm:LY (o0::l) acc=acc++[mask acc o0]++t:=by rw[LY,ht]
  rw[hm] at hb ⊢;simp only[ku,ayi,List.getD,aej (cZ _),Nat.sub_self] at hb;simp only[List.singleton_append,aEy,LU] at hb;rcases aFo acc i _ 0 hb with h0| ⟨e,he',hbd,h1⟩
  .simp at h0
  .have nL:=he e he' hbd;rw[ku] at nL;refine⟨e,he',hbd,h1.imp id λh2=>⟨by omega,?_⟩⟩;rw[ayi];simp only[List.getD] at h2 ⊢;rw[UR nL];exact h2
 |o0::l,acc,j+1,o,h,he,hb=>by
  have e1:acc.length+(j+1)=(acc++[mask acc o0]).length+j:=by simp;omega
  rw[LY] at hb ⊢;rw[e1] at hb he ⊢;exact aFq l _ j o (by simpa using h) he hb
omit [ay] in
theorem ach:∀{l:List Oper} {i0:Nat},Rx l i0=true->∀(j:Nat) o,l[j]? =some o->∀e∈o.after.toList,Region.binds .any e=true->e.on<i0+j
 | [],_,_,j,o,h,_,_,_=>by simp at h
 |o0::l,i0,hk,0,o,h,e,he,hb=>by
  simp at h;subst h
  simp only[Rx,cB] at hk;have:=ath.1 hk.1 e he;rw[hb] at this;simp only[Kg,Bool.false_or,Nat.blt_eq] at this;omega
 |o0::l,i0,hk,j+1,o,h,e,he,hb=>by
  simp only[Rx,cB] at hk;have:=ach hk.2 j o (by simpa using h) e he hb;omega
omit [ay] in
theorem aci {ms:List Nat}:∀{l:List Tr} {j0:Nat},Rw ms l j0=true->∀(i j:Nat) x y,i<j->l[i]? =some x->l[j]? =some y->Nat.testBit (ms.getD (j0+j) 0) (j0+i)=true∨x.agC y=false
 | [],_,_,i,j,x,y,_,h,_=>by simp at h
 |x0::l,j0,hk,0,j,x,y,hij,hx,hy=>by
  simp at hx;subst hx
  simp only[Rw,cB] at hk;obtain⟨j',rfl⟩:∃j',j=j'+1:=⟨j-1,by omega⟩;have hy':l[j']? =some y:=by simpa using hy
  have hm:(y,j')∈l.zipIdx:=by
   rw[ayf];exact⟨j',by simp[aEB,hy']⟩
  have:=ath.1 hk.1 (y,j') hm;simp only[agu,pB] at this;rw[show j0+(j'+1)=j0+1+j' by omega];exact this
 |x0::l,j0,hk,i+1,j,x,y,hij,hx,hy=>by
  simp only[Rw,cB] at hk;obtain⟨j',rfl⟩:∃j',j=j'+1:=⟨j-1,by omega⟩;have:=aci hk.2 i j' x y (by omega) (by simpa using hx) (by simpa using hy);rw[show j0+(j'+1)=j0+1+j' by omega,show j0+(i+1)=j0+1+i by omega];exact this
omit [ay] in
theorem aTF {x y:Tr}{p:Pt}{f:Fp}(hf:f∈y.fp)(hp:f.has p)(ht:tch x.us p):x.agC y=true/\y.agC x=true:=by
 obtain⟨u,hu,ht⟩:=ht;have h:=Fp.aEU hp ht;constructor
 .unfold Tr.agC;rw[agu];left;refine ab6.2 ⟨u,hu,?_⟩;rw[agu];left;exact ab6.2 ⟨f,hf,h⟩
 .unfold Tr.agC;rw[agu];right;refine ab6.2 ⟨u,hu,?_⟩;exact ab6.2 ⟨f,hf,h⟩
omit [ay] in
theorem aTG {x y:Tr}{p:Pt}(h1:tch x.us p)(h2:tch y.us p):x.agC y=true:=by
 obtain⟨u,hu,ht⟩:=h1;obtain⟨v,hv,hs⟩:=h2;unfold Tr.agC;rw[agu];left;refine ab6.2 ⟨u,hu,?_⟩;rw[agu];right;exact ab6.2 ⟨v,hv,Up.aEU hs ht⟩
def Ax (dS:List Tr):List Up:=dS.flatMap Tr.us
omit [ay] in
theorem aQZ:∀(dS:List Tr) (i j0:Nat) (g:Gt),gl dS (λj=>decide (j<j0+i)) j0 g=cH (Ax (dS.take i)) g
 | [],i,j0,g=>by simp[gl,Ax,cH]
 |tr::dS,0,j0,g=>by
  rw[avl (λj _=>by simp)];simp[Ax,cH]
 |tr::dS,i+1,j0,g=>by
  simp only[gl];rw[if_pos (by simp)];have:=aQZ dS i (j0+1) (cH tr.us g);rw[show j0+1+i=j0+(i+1) by omega] at this;rw[this];simp[Ax,cH]
omit [ay] in
theorem aZH {dS:List Tr}{L:Nat->Bool}{g:Gt}(h:∀i,i<dS.length->L i=true):gl dS L 0 g=cH (Ax dS) g:=by
 have:=aQZ dS dS.length 0 g;rw[List.take_length] at this;rw[<-this];exact apn λj hj=>by simp[h j hj];omega
omit [ay] in
theorem alG {k:Nat}:∀{us vs:List Up} {s s1 s2:St},jX k us s=some s1->jX k vs s1=some s2->jX k (us++vs) s=some s2
 | [],vs,s,s1,s2,h,h'=>by simp[jX] at h;subst h;exact h'
 |u::us,vs,s,s1,s2,h,h'=>by
  simp only[jX,List.cons_append] at h ⊢;split at h
  .rename_i hu;exact alG h h'
  .cases h
omit [ay] in
theorem EP.app {P:Program}{E:Env}{ops:List Oper}{k:Nat}:∀{rest:List Oper} {s s':St} {dS:List Tr},EP P E ops k rest s dS s'->jX k (Ax dS) s=some s'/\dS.length=rest.length
 | [],s,s',dS,h=>by cases h;exact⟨rfl,rfl⟩
 |o::rest,s,s',dS,h=>by
  cases h with|@cons _ _ _ s1 _ us fp tr dS hd h hus hfp ha ht=>
  obtain⟨h1,h2⟩:=ht.app;refine⟨?_,by simp[h2]⟩;subst hus;show jX k (tr.us++Ax dS) s=some s';exact alG ha h1
omit [ay] in
theorem EP.at {P:Program}{E:Env}{ops:List Oper}{k:Nat}:∀{rest:List Oper} {s s':St} {dS:List Tr},EP P E ops k rest s dS s'->∀(i:Nat) o,rest[i]? =some o->∃tr fp,dS[i]? =some tr/\(∀f∈fp,f∈tr.fp)/\
   acg P E ops o (s.heap.length+cF (Ax (dS.take i))) (cH (Ax (dS.take i)) s.gt) tr.us fp/\(∀d,o.dst=some d->d<s.tmps.length)
 | [],_,_,_,_,i,o,h=>by simp at h
 |o0::rest,s,s',dS,h,i,o,ho=>by
  cases h with|@cons _ _ _ s1 _ us fp tr dS hd h hus hfp ha ht=>
  subst hus;cases i with
  |zero=>
   simp at ho;subst ho
   exact⟨tr,fp,rfl,hfp,by simpa[Ax,cF,cH] using h,hd⟩
  |succ i=>
   obtain⟨OR,fp',e1,e2,e3,e4⟩:=ht.at i o (by simpa using ho);have A:=Kl ha;refine⟨OR,fp',by simpa using e1,e2,?_,λd h=>by rw[<-A.tmps];exact e4 d h⟩
   have hc:cF (Ax (List.take (i+1) (tr::dS)))=cF tr.us+cF (Ax (dS.take i)):=by
    simp only[List.take_succ_cons,Ax,List.flatMap_cons,FB]
   have hg:cH (Ax (List.take (i+1) (tr::dS))) s.gt=cH (Ax (dS.take i)) s1.gt:=by
    simp only[List.take_succ_cons,Ax,List.flatMap_cons,QC];rw[OP ha]
   rw[hc,hg,<-Cc,<-A.heap];exact e3
end Go.Ab
namespace Go.Ab
variable [ay]
section
variable {P:Program} {E:Env} {X:Cx}
omit [ay] in
theorem ayA (dS:List Tr){i j:Nat}(h:i<=j):cF (Ax (dS.take i))<=cF (Ax (dS.take j)):=by
 obtain⟨d,rfl⟩:∃d,j=i+d:=⟨j-i,by omega⟩;rw[List.take_add,Ax,Ax,List.flatMap_append,FB];omega
omit [ay] in
theorem WU {dS:List Tr}{i:Nat}{tr:Tr}(h:dS[i]? =some tr):cF (Ax (dS.take (i+1)))=cF (Ax (dS.take i))+cF tr.us:=by
 have nL:=(lL.1 h).1;have he:=(lL.1 h).2;rw[List.take_succ_eq_append_getElem nL,he,Ax,Ax,List.flatMap_append,FB];simp
omit [ay] in
theorem aqI {f f':Nat->Bool}{i:Nat}(h1:f i=true)(h2:f' i=false)(h:∀j,j≠i->f' j=f j):∀n,i<n->(to n).countP f=(to n).countP f'+1
 |0,hn=>by omega
 |n+1,hn=>by
  rw[List.range_succ,List.countP_append,List.countP_append];by_cases e:i=n
  .subst e
   have:(to i).countP f=(to i).countP f':=by
    apply List.countP_congr
    intro j hj;rw[h j (by have:=List.mem_range.1 hj;omega)]
   rw[this];simp[h1,h2]
  .rw[aqI h1 h2 h n (by omega),List.countP_singleton,List.countP_singleton,h n (Ne.symm e)];omega
theorem wpAny_all (hE:∀f F,E f=some F->Sound P f F){h0:List aj}{ops:Array Oper}{Q:Exit->Act->World->Prop}{s s':St}{dS:List Tr}(hT:EP P E ops.toList X.k ops.toList s dS s')
  (he:Rx ops.toList 0=true)(hp:Rw (LY ops.toList []) dS 0=true)(hlen:s.tmps.length=X.N)(hsk:X.k<=s.heap.length)(hdl:∀b,b∈s.du->b<X.k)(hdr:∀b,b<X.k->b∉s.du->s.bU b=h0[b]?)
  (hQ:∀a' w' π',iG X h0 π' s' a' w'->Q .normal a' w'):
  ∀(fuel:Nat) (fm:Array Bool) (π:Pi) (a:Act) (w:World),fm.size=ops.size->(to ops.size).countP (λi=> !fm.getD i false)=fuel->
   (∀(j:Nat) o,ops[j]? =some o->fm.getD j false=true->∀e∈o.after,Region.binds .any e=true->fm.getD e.on false=true)->
   Rel X (·∈s'.du) π (gl dS (λi=>fm.getD i false) 0 s.gt) a w->
   (∀b,π b≠none->b<s.heap.length∨∃(i:Nat) (tr:Tr),dS[i]? =some tr/\fm.getD i false=true/\s.heap.length+cF (Ax (dS.take i))<=b/\b<s.heap.length+cF (Ax (dS.take i))+cF tr.us)->
   wpAny P .any ops Q fuel fm a w:=by
 obtain⟨aaw,htl⟩:=hT.app;have A:=Kl aaw;have hn:dS.length=ops.size:=by rw[htl];simp
 have bef:∀(fm:Array Bool),(∀(j:Nat) o,ops[j]? =some o->fm.getD j false=true->∀e∈o.after,Region.binds .any e=true->fm.getD e.on false=true)->
   ∀(j:Nat) (o:Oper) (i:Nat),ops[j]? =some o->(∀e∈o.after,Region.binds .any e=true->fm.getD e.on false=true)->Nat.testBit ((LY ops.toList []).getD j 0) i=true->fm.getD i false=true:=by
  intro fm Er j;induction j using Nat.strongRecOn with
  |_ j ih=>
   intro o i ho aS0 hb;have ho':ops.toList[j]? =some o:=by rw[WB];exact ho
   obtain⟨e,he1,he2,h1⟩:=aFq ops.toList [] j o ho' (λe h1 h2=>by have:=ach he j o ho' e h1 h2;simpa using this) (by simpa using hb);have hl:=aS0 e (Array.mem_toList_iff.1 he1) he2;rcases h1 with rfl| ⟨nL,h1⟩
   .exact hl
   .simp only[List.length_nil,dG] at nL;have hjs:j<ops.size:=(Array.getElem?_eq_some_iff.1 ho).1;have hoe:ops[e.on]? =some (ops[e.on]'(by omega)):=aiX _;exact ih e.on nL _ i hoe (Er e.on _ hoe hl) h1
 intro fuel;induction fuel with
 |zero=>
  intro fm π a w yQ aSW Er R kr
  have aNo:∀i,i<ops.size->fm.getD i false=true:=λi hi=>by
   have:=List.countP_eq_zero.1 aSW i (List.mem_range.2 hi);simpa using this
  refine⟨?_,hQ a w π ?_⟩
  .unfold Region.ready;rw[List.filter_eq_nil_iff];intro i hi;have hi:=List.mem_range.1 hi;have:=aNo i hi
   have e:fm.getD i true=true:=by
    simp only[aqA,aiX (show i<fm.size by omega),LU] at this ⊢;exact this
   rw[e];simp
  .rw[aZH (λi hi=>aNo i (by omega))] at R;refine⟨(OP aaw)▸R,A.tmps.trans hlen,λb hb=> ?_,λb hb hn'=> ?_,?_,alF aaw hdl⟩
   .rw[A.heap];rcases kr b hb with h| ⟨i,tr,htr,_,_,h2⟩
    .omega
    .have h3:=WU htr;have h4:=ayA dS (show i+1<=dS.length from(lL.1 htr).1);rw[List.take_length] at h4;omega
   .rw[A.mB b hb (by omega) hn'];exact hdr b hb (λh=>hn' (A.sub b h))
   .rw[A.heap];omega
 |succ fuel ih=>
  intro fm π a w yQ aSW Er R kr
  have a00:∀i,i<ops.size->fm.getD i true=fm.getD i false:=λi hi=>by
   simp only[aqA,aiX (show i<fm.size by omega),LU]
  refine⟨λhr=> ?_,λi hi=> ?_⟩
  .exfalso
   have aNo:∀i,i<ops.size->fm.getD i false=true:=by
    intro i;induction i using Nat.strongRecOn with
    |_ i ihi=>
     intro hi;cases hl:fm.getD i false with
     |true=>rfl
     |false=>
      have ho:ops[i]? =some (ops[i]'hi):=aiX _
      have a01:i∈Region.ready .any ops fm:=mem_ready.2 ⟨by rw[a00 i hi];exact hl,_,ho,λe he1 he2=>by
       have nL:=ach he i _ (by rw[WB];exact ho) e (Array.mem_toList_iff.2 he1) he2;exact ihi e.on (by omega) (by omega)⟩
      rw[hr] at a01;cases a01
   have:(to ops.size).countP (λi=> !fm.getD i false)=0:=List.countP_eq_zero.2 λi hi=>by rw[aNo i (List.mem_range.1 hi)];simp
   omega
  .obtain⟨hun,o,ho,aS0⟩:=mem_ready.1 hi;have his:i<ops.size:=(Array.getElem?_eq_some_iff.1 ho).1;have aNp:fm.getD i false=false:=by rw[<-a00 i his];exact hun
   obtain⟨tr,fp,htr,hfp,qM,hd⟩:=hT.at i o (by rw[WB];exact ho)
   have hG:cH (Ax (dS.take i)) s.gt=gl dS (λj=>decide (j<i)) 0 s.gt:=by
    have:=aQZ dS i 0 s.gt;simp only[dG] at this;exact this.symm
   rw[hG] at qM
   have aXW:∀(j:Nat) OR,i<j->dS[j]? =some OR->fm.getD j false=true->tr.agC OR=true->False:=λj OR hij hj hl hc=>by
    rcases aci hp i j tr OR hij htr hj with h|h
    .simp only[dG] at h;have hjs:j<ops.size:=by rw[<-hn];exact(lL.1 hj).1
     have hoj:ops[j]? =some (ops[j]'hjs):=aiX _;have:=bef fm Er j _ i hoj (Er j _ hoj hl) h;rw[aNp] at this;cases this
    .rw[hc] at h;cases h
   have a3x:=qM.local (g':=gl dS (λj=>fm.getD j false) 0 s.gt) (λf hf p a3y=>by
    refine aKS (λj OR hj mC=> ?_) rfl;simp only[dG] at mC;intro ht;have hc:=aTF (hfp f hf) a3y ht;rcases ags j i with hji|hji|hji
    .have hlj:fm.getD j false=false:=by
      cases h:fm.getD j false with
      |false=>rfl
      |true=>exact absurd (by rw[h];simp[hji]) mC
     rcases aci hp j i OR tr hji hj htr with h|h
     .simp only[dG] at h;have:=bef fm Er i o j ho aS0 h;rw[hlj] at this;cases this
     .rw[hc.1] at h;cases h
    .subst hji;exact mC (by rw[aNp];simp)
    .have hlj:fm.getD j false=true:=by
      cases h:fm.getD j false with
      |true=>rfl
      |false=>exact absurd (by rw[h];simp;omega) mC
     exact aXW j OR hji hj hlj hc.2)
   have a1W:∀u∈tr.us,u∈Ax dS:=λu hu=>List.mem_flatMap.2 ⟨tr,List.mem_of_getElem? htr,hu⟩
   refine aAk hE ho a3x R (by omega) (λb h1 h2=> ?_) (λd h=>by rw[<-hlen];exact hd d h) (λu hu=>A.perm u (a1W u hu)) (λa' w' π' hx a1X hR=> ?_)
   .cases hb:π b with
    |none=>rfl
    |some p=>
     exfalso
     rcases kr b (by simp[hb]) with h| ⟨i',OR,aXX,hl',h3,h4⟩
     .omega
     .rcases ags i' i with hii|hii|hii
      .have e1:=WU aXX;have e2:=ayA dS (show i'+1<=i from hii);omega
      .subst hii;rw[aNp] at hl';cases hl'
      .have e1:=WU htr;have e2:=ayA dS (show i+1<=i' from hii);omega
   .have aFr:∀j,(fm.setIfInBounds i true).getD j false=if j=i then true else fm.getD j false:=λj=>by
     simp only[aqA];by_cases e:j=i
     .subst e;simp[show j<fm.size by omega]
     .rw[if_neg e,aSw (Ne.symm e)]
    refine ih (fm.setIfInBounds i true) π' a' w' (by simp[yQ]) ?_ (λj oj hoj hl e he1 he2=> ?_) ?_ (λb hb=> ?_)
    .have:=aqI (f:=λi=> !fm.getD i false) (f':=λj=> !(fm.setIfInBounds i true).getD j false) (i:=i) (by simp[aNp]) (by simp only[aFr];simp) (λj hj=>by simp only[aFr,if_neg hj]) ops.size his;omega
    .rw[aFr] at hl ⊢;by_cases e1:e.on=i
     .rw[if_pos e1]
     .rw[if_neg e1];by_cases e2:j=i
      .subst e2;rw[ho] at hoj;cases hoj;exact aS0 e he1 he2
      .rw[if_neg e2] at hl;exact Er j oj hoj hl e he1 he2
    .rw[aXV (L:=λj=>fm.getD j false) (L':=λj=>(fm.setIfInBounds i true).getD j false) htr aNp (by simp only[aFr];simp) (λj hj=>by simp only[aFr,if_neg hj])
      (λj OR hij hj hl p H2 hp2=>aXW j OR hij hj hl (aTG H2 hp2))]
     exact hR
    .rcases a1X b hb with h| ⟨h1,h2⟩
     .rcases kr b h with h| ⟨i',OR,aXX,hl',h3,h4⟩
      .exact .inl h
      .refine .inr ⟨i',OR,aXX,?_,h3,h4⟩;rw[aFr];split<;>first|rfl|exact hl'
     .exact .inr ⟨i,tr,htr,by rw[aFr,if_pos rfl],h1,h2⟩
theorem aKT (hE:∀f F,E f=some F->Sound P f F)(hm:P.follows .mixedOrders=true){h0:List aj}{id:Nat}{ops:Array Oper}{Q:Exit->Act->World->Prop}{s s':St}{dS:List Tr}(hT:EP P E ops.toList X.k ops.toList s dS s')
  (he:Rx ops.toList 0=true)(hp:Rw (LY ops.toList []) dS 0=true){π:Pi}{a:Act}{w:World}(R:iG X h0 π s a w)(hQ:∀a' w' π',iG X h0 π' s' a' w'->Q .normal a' w'):(Code.region id ops true).wp P Q a w:=by
 refine wp_region_any hm ?_
 have hf:∀i,(Array.replicate ops.size false).getD i false=false:=λi=>by
  simp only[aqA,Array.getElem?_replicate];split<;>rfl
 have A:=Kl hT.app.1;refine wpAny_all hE hT he hp R.len R.hk R.dlt R.drt hQ ops.size _ π a _ (by simp) ?_ (λj o _ hl=>by rw[hf] at hl;cases hl) ?_ (λb hb=>.inl (R.dom b hb))
 .rw[List.countP_eq_length.2 λi _=>by rw[hf];rfl];simp
 .rw[avl (λj _=>hf _)];exact(R.rel.aKM λb hb=>A.sub b hb).drew
theorem aKU (hE:∀f F,E f=some F->Sound P f F){h0:List aj}{id:Nat}{ops:Array Oper}{Q:Exit->Act->World->Prop}{s s':St}{dS:List Tr}(hT:EP P E ops.toList X.k ops.toList s dS s')
  {π:Pi}{a:Act}{w:World}(R:iG X h0 π s a w)(hQ:∀a' w' π',iG X h0 π' s' a' w'->Q .normal a' w'):(Code.region id ops false).wp P Q a w:=by
 refine wp_region ?_;have:=aAl hE hQ hT (i:=0) (λj=>by simp) R;rw[List.range_eq_range'];simpa using this
end
end Go.Ab
namespace Go.Ab
variable [ay]
def Mb (π:Pi)(H:Nat)(m:List Nat):Pi:=λb=>if b<H then π b else match m[b-H]? with
 |some b0=>π b0
 |none=>none
def Ay (m m':List Nat):Prop:=∃t,m'=m++t
omit [ay] in
theorem Ay.refl (m:List Nat):Ay m m:=⟨[],by simp⟩
omit [ay] in
theorem Ay.trans {a b c:List Nat}(h:Ay a b)(k:Ay b c):Ay a c:=by
 obtain⟨t,rfl⟩:=h;obtain⟨u,rfl⟩:=k;exact⟨t++u,by simp⟩
omit [ay] in
theorem Ay.get {m m':List Nat}(h:Ay m m'){j b:Nat}(hj:m[j]? =some b):m'[j]? =some b:=by
 obtain⟨t,rfl⟩:=h;rw[UR (lL.1 hj).1,hj]
omit [ay] in
theorem Ay.ext {π:Pi}{H:Nat}{m m':List Nat}(h:Ay m m'):Ext (Mb π H m) (Mb π H m'):=by
 intro b p hp;unfold Mb at hp ⊢;split
 .rename_i hb;rw[if_pos hb] at hp;exact hp
 .rename_i hb
  rw[if_neg hb] at hp;cases hj:m[b-H]? with
  |none=>rw[hj] at hp;cases hp
  |some b0=>rw[h.get hj];rw[hj] at hp;exact hp
def MOk (H:Nat)(m:List Nat):Prop:=m.Nodup/\∀b∈m,H<=b
omit [ay] in
theorem aJb {b:Nat}:∀{m:List Nat} {i0 i:Nat},idx b m i0=some i->∃k,i=i0+k/\m[k]? =some b
 | [],_,_,h=>by simp[idx] at h
 |x::m,i0,i,h=>by
  simp only[idx] at h;split at h
  .rename_i hx
   cases h;exact⟨0,rfl,by simp[lE hx]⟩
  .obtain⟨k,h1,h2⟩:=aJb h;exact⟨k+1,by omega,by simpa using h2⟩
omit [ay] in
theorem aJc {b:Nat}:∀{m:List Nat} {i0:Nat},idx b m i0=none->b∉m
 | [],_,_=>by simp
 |x::m,i0,h=>by
  simp only[idx] at h;split at h
  .cases h
  .rename_i hx
   have:=aJc h;simp only[ab7,not_or];exact⟨λe=>by subst e;simp at hx,this⟩
omit [ay] in
theorem alH {H b:Nat}{m:List Nat}:Ay m (als H b m).2/\(MOk H m->MOk H (als H b m).2)/\∀π,Mb π H (als H b m).2 (als H b m).1=π b:=by
 unfold als;split
 .rename_i hb
  have hb:=WA hb;split
  .rename_i i hi
   obtain⟨k,h1,h2⟩:=aJb hi;refine⟨Ay.refl _,id,λπ=> ?_⟩;unfold Mb;rw[if_neg (by omega),show H+i-H=k by omega,h2]
  .rename_i hi
   have hnm:=aJc hi;refine⟨⟨_,rfl⟩,λok=>⟨?_,λx hx=> ?_⟩,λπ=> ?_⟩
   .rw[List.nodup_append];exact⟨ok.1,by simp,λx hx y hy e=>by simp at hy;subst hy;subst e;exact hnm hx⟩
   .rcases List.mem_append.1 hx with h|h
    .exact ok.2 x h
    .simp at h;omega
   .unfold Mb;rw[if_neg (by omega),show H+m.length-H=m.length by omega];simp
 .rename_i hb
  have hb:b<H:=by
   rcases ni b H with h|h
   .exact h
   .have:=aEA h;simp[this] at hb
  exact⟨Ay.refl _,id,λπ=>by unfold Mb;rw[if_pos hb]⟩
structure Gc {α:Type}(R:Pi->α->Value->Prop)(H:Nat)(a:α)(m:List Nat)(r:α×List Nat):Prop where
 pre:Ay m r.2
 ok:MOk H m->MOk H r.2
 rel:∀π x,R π a x->R (Mb π H r.2) r.1 x
theorem aJd (H:Nat)(c:CV)(m:List Nat):Gc CV.rel H c m (gcC H c m):=by
 cases c<;>simp only[gcC]
 case ptr b o n=>
  obtain⟨h1,h2,h3⟩:=alH (H:=H) (b:=b) (m:=m);refine⟨h1,h2,λπ x ⟨B,s,q,e,hp,hx⟩=>⟨B,s,q,e,?_,hx⟩⟩;rw[h3];exact hp
 case cl f b o n=>
  obtain⟨h1,h2,h3⟩:=alH (H:=H) (b:=b) (m:=m);refine⟨h1,h2,λπ x ⟨B,s,q,e,hp,hx⟩=>⟨B,s,q,e,?_,hx⟩⟩;rw[h3];exact hp
 case sl b o l z w=>
  obtain⟨h1,h2,h3⟩:=alH (H:=H) (b:=b) (m:=m);exact⟨h1,h2,λπ x ⟨B,s,q,e,hp,hx⟩=>⟨B,s,q,e,by rw[h3];exact hp,hx⟩⟩
 all_goals exact⟨Ay.refl _,id,λπ x hx=>hx⟩
omit [ay] in
theorem aNq {α:Type}{R R':α->Value->Prop}{as as':List α}{xs:List Value}(hl:as'.length=as.length)(h:∀(j:Nat) a a',as[j]? =some a->as'[j]? =some a'->∀x,R a x->R' a' x)(hx:bu R as xs):bu R' as' xs:=by
 refine bu.agK (by rw[hl];exact hx.length) λi a' x ha' hxi=> ?_;obtain⟨a,ha,hr⟩:=hx.get' hxi;exact h i a a' ha ha' x hr
omit [ay] in
theorem aeq {α:Type}{R:Pi->α->Value->Prop}(mono:∀{π π':Pi},Ext π π'->∀a x,R π a x->R π' a x){f:α->List Nat->α×List Nat}{H:Nat}(hf:∀a m,Gc R H a m (f a m)):
  ∀(l:List α) (m:List Nat),Ay m (HZ f l m).2/\(MOk H m->MOk H (HZ f l m).2)/\(HZ f l m).1.length=l.length/\∀(j:Nat) a a',l[j]? =some a->(HZ f l m).1[j]? =some a'->∀π x,R π a x->R (Mb π H (HZ f l m).2) a' x
 | [],m=>⟨Ay.refl _,id,rfl,λj a a' h=>by simp at h⟩
 |a::l,m=>by
  have G:=hf a m;obtain⟨p1,p2,p3,p4⟩:=aeq mono hf l (f a m).2;refine⟨G.pre.trans p1,λok=>p2 (G.ok ok),by simp[HZ,p3],λj b b' hb fu π x hx=> ?_⟩;cases j with
  |zero=>
   simp[HZ] at hb fu
   subst hb fu;exact mono p1.ext _ _ (G.rel π x hx)
  |succ j=>exact p4 j b b' (by simpa using hb) (by simpa[HZ] using fu) π x hx
omit [ay] in
theorem aJe {α:Type}{R:Pi->α->Value->Prop}(mono:∀{π π':Pi},Ext π π'->∀a x,R π a x->R π' a x){f:α->List Nat->α×List Nat}{H:Nat}(hf:∀a m,Gc R H a m (f a m))(l:List α)(m:List Nat)(π:Pi)(xs:List Value)(h:bu (R π) l xs):bu (R (Mb π H (HZ f l m).2)) (HZ f l m).1 xs:=by
 obtain⟨_,_,p3,p4⟩:=aeq mono hf l m;exact aNq p3 (λj a a' ha ha' x hr=>p4 j a a' ha ha' π x hr) h
theorem aaC (H:Nat):∀(cs:aj) (m:List Nat),Ay m (HZ (gcS H) cs m).2/\(MOk H m->MOk H (HZ (gcS H) cs m).2)/\aj.size (HZ (gcS H) cs m).1=aj.size cs/\
  ∀π j x,j<aj.size cs->(aj.get cs j).rel π x->(aj.get (HZ (gcS H) cs m).1 j).rel (Mb π H (HZ (gcS H) cs m).2) x
 | [],m=>⟨Ay.refl _,id,rfl,λπ j x hj=>by rw[aj.lG] at hj;omega⟩
 |.c v::r,m=>by
  have G:=aJd H v m;obtain⟨p1,p2,p3,p4⟩:=aaC H r (gcC H v m).2;have e:HZ (gcS H) (.c v::r) m=(.c (gcC H v m).1::(HZ (gcS H) r (gcC H v m).2).1,(HZ (gcS H) r (gcC H v m).2).2):=rfl;rw[e];refine⟨G.pre.trans p1,λok=>p2 (G.ok ok),by rw[aj.size_cons,aj.size_cons,p3];rfl,λπ j x hj hx=> ?_⟩;cases j with
  |zero=>exact CV.dM p1.ext _ _ (G.rel π x hx)
  |succ j=>
   rw[<-aj.kG (l:=r) (j':=j) (by omega) (by omega)] at hx;rw[<-aj.kG (l:=(HZ (gcS H) r (gcC H v m).2).1) (j':=j) (by omega) (by omega)];exact p4 π j x (by rw[aj.size_cons,Sg.kF] at hj;omega) hx
 |.a n cols::r,m=>by
  obtain⟨p1,p2,p3,p4⟩:=aaC H r m;have e:HZ (gcS H) (.a n cols::r) m=(.a n cols::(HZ (gcS H) r m).1,(HZ (gcS H) r m).2):=rfl;rw[e];refine⟨p1,p2,by rw[aj.size_cons,aj.size_cons,p3],λπ j x hj hx=> ?_⟩;rw[aj.size_cons] at hj;by_cases lM:j<(Sg.a n cols).size
  .rw[aj.dR lM,Sg.pC] at hx ⊢;obtain⟨v,hv⟩:=aDU cols j;rw[hv] at hx ⊢;exact hx
  .rw[aj.lp (by omega)] at hx ⊢;exact p4 π _ x (by omega) hx
theorem aer (H:Nat)(r:RV)(m:List Nat):Gc RV.rel H r m (gcR H r m):=by
 cases r with
 |c c=>have G:=aJd H c m;exact⟨G.pre,G.ok,G.rel⟩
 |agg cs=>
  obtain⟨p1,p2,p3,p4⟩:=aaC H cs m;refine⟨p1,p2,λπ x ⟨a,hx,ha⟩=>⟨a,hx,?_⟩⟩;obtain⟨l1,l2⟩:=jy ha;refine yD (by rw[p3,l1]) λj hj=> ?_;rw[p3] at hj;obtain⟨y,hy,hr⟩:=l2 j hj;exact⟨y,hy,p4 π j y hj hr⟩
theorem ayB (H:Nat)(r:AV)(m:List Nat):Gc AV.rel H r m (gcA H r m):=by
 cases r with
 |r c=>have G:=aer H c m;exact⟨G.pre,G.ok,G.rel⟩
 |tup cs=>
  obtain⟨p1,p2,_,_⟩:=aeq (R:=RV.rel) (λh a x r=>RV.dM h a x r) (aer H) cs m;exact⟨p1,p2,λπ x ⟨a,hx,ha⟩=>⟨a,hx,aJe (R:=RV.rel) (λh a x r=>RV.dM h a x r) (aer H) cs m π _ ha⟩⟩
 |fn f cs=>
  obtain⟨p1,p2,_,_⟩:=aeq (R:=RV.rel) (λh a x r=>RV.dM h a x r) (aer H) cs m;exact⟨p1,p2,λπ x ⟨a,hx,ha⟩=>⟨a,hx,aJe (R:=RV.rel) (λh a x r=>RV.dM h a x r) (aer H) cs m π _ ha⟩⟩
 |WG=>exact⟨Ay.refl _,id,λ_ _ _=>trivial⟩
structure GcB (H:Nat)(b b':Option aj)(m':List Nat):Prop where
 size:b'.map aj.size=b.map aj.size
 rel:∀k k',b=some k->b'=some k'->∀π (j:Nat) x,j<aj.size k->(aj.get k j).rel π x->(aj.get k' j).rel (Mb π H m') x
theorem GcB.pre {H:Nat}{b b':Option aj}{m m':List Nat}(h:GcB H b b' m)(p:Ay m m'):GcB H b b' m':=
 ⟨h.size,λk k' e e' π j x hj hx=>CV.dM p.ext _ _ (h.rel k k' e e' π j x hj hx)⟩
theorem aJf (H:Nat)(b:Option aj)(m:List Nat):Ay m (gcB H b m).2/\(MOk H m->MOk H (gcB H b m).2)/\GcB H b (gcB H b m).1 (gcB H b m).2:=by
 cases b with
 |none=>exact⟨Ay.refl _,id,rfl,λk k' e=>by cases e⟩
 |some k=>
  obtain⟨p1,p2,p3,p4⟩:=aaC H k m;refine⟨p1,p2,⟨by simp only[gcB,Tg,p3],λk1 k' e e' π j x hj hx=> ?_⟩⟩;cases e;cases e'
  exact p4 π j x hj hx
theorem apo (k:Nat)(d:List Nat)(H:Nat):∀(l:List (Option aj)) (j0:Nat) (m:List Nat),Ay m (gcO k d H l j0 m).2/\(MOk H m->MOk H (gcO k d H l j0 m).2)/\(gcO k d H l j0 m).1.length=l.length/\
  ∀(j:Nat) b b',l[j]? =some b->(gcO k d H l j0 m).1[j]? =some b'->(j0+j<k/\j0+j∉d/\b'=b)∨((j0+j<k->j0+j∉d->False)/\GcB H b b' (gcO k d H l j0 m).2)
 | [],j0,m=>⟨Ay.refl _,id,rfl,λj b b' h=>by simp at h⟩
 |b0::l,j0,m=>by
  simp only[gcO];split
  .rename_i hc
   simp only[cB,Nat.blt_eq,pB] at hc;obtain⟨p1,p2,p3,p4⟩:=apo k d H l (j0+1) m;refine⟨p1,p2,by simp[p3],λj b b' hb fu=> ?_⟩;cases j with
   |zero=>
    simp at hb fu
    subst hb fu;refine .inl ⟨hc.1,λhm=> ?_,rfl⟩;have:=List.any_eq_false.1 hc.2 _ hm;simp at this
   |succ j=>
    have:=p4 j b b' (by simpa using hb) (by simpa using fu);rw[show j0+1+j=j0+(j+1) by omega] at this;exact this
  .rename_i hc
   obtain⟨q1,q2,q3⟩:=aJf H b0 m;obtain⟨p1,p2,p3,p4⟩:=apo k d H l (j0+1) (gcB H b0 m).2;refine⟨q1.trans p1,λok=>p2 (q2 ok),by simp[p3],λj b b' hb fu=> ?_⟩;cases j with
   |zero=>
    simp at hb fu
    subst hb fu;refine .inr ⟨λh1 h2=> ?_,q3.pre p1⟩;have e1:wl j0 k=true:=by simpa using h1
    have e2:d.any (z9 j0)=false:=by
     rw[List.any_eq_false];intro y hy he;have:=lE he;subst this;exact h2 hy
    rw[e1,e2] at hc;cases hc
   |succ j=>
    have:=p4 j b b' (by simpa using hb) (by simpa using fu);rw[show j0+1+j=j0+(j+1) by omega] at this;exact this
theorem aJg (H:Nat)(heap:List (Option aj)):∀(fuel i:Nat) (m:List Nat) (acc:List (Option aj)) (z:List (Option aj)×List Nat),gcN H heap fuel i m acc=some z->acc.length=i->i<=m.length->
  (∀(j:Nat) b b',m[j]? =some b->acc[j]? =some b'->GcB H ((heap[b]?).getD none) b' m)->
  Ay m z.2/\(MOk H m->MOk H z.2)/\z.1.length=z.2.length/\∀(j:Nat) b b',z.2[j]? =some b->z.1[j]? =some b'->GcB H ((heap[b]?).getD none) b' z.2
 |0,_,_,_,_,h,_,_,_=>by simp[gcN] at h
 |fuel+1,i,m,acc,z,h,hi,hi2,aNk=>by
  simp only[gcN] at h;split at h
  .rename_i hn
   cases h;have:m.length<=i:=List.getElem?_eq_none_iff.1 hn;exact⟨Ay.refl _,id,by simp;omega,aNk⟩
  .rename_i b hb
   obtain⟨q1,q2,q3⟩:=aJf H ((heap[b]?).getD none) m;have nL:i<m.length:=(lL.1 hb).1;have hlen:m.length<=(gcB H ((heap[b]?).getD none) m).2.length:=by obtain⟨t,ht⟩:=q1;rw[ht];simp
   obtain⟨p1,p2,p3,p4⟩:=aJg H heap fuel (i+1) _ _ z h (by simp[hi]) (by omega) (λj b1 b1' h1 h1'=>by
    rcases aFh h1' with h1'| ⟨hj,rfl⟩
    .have hj:j<acc.length:=(lL.1 h1').1
     have hm:m[j]? =some b1:=by
      have e:m[j]? =some (m[j]'(by omega)):=kR _;rw[e];have:=q1.get e;rw[h1] at this;exact this.symm
     exact(aNk j b1 b1' hm h1').pre q1
    .have:b1=b:=by
      rw[hj,hi] at h1;have:=q1.get hb;rw[h1] at this;exact HX this
     subst this;exact q3)
   exact⟨q1.trans p1,λok=>p2 (q2 ok),p3,p4⟩
end Go.Ab
namespace Go.Ab
variable [ay]
section
variable {P:Program} {E:Env} {X:Cx}
structure In (X:Cx)(h0:List aj):Prop where
 k:X.k=h0.length
 h:sU X.p0 (hC (h0.map some)) (hZ (h0.map some)) X.w0
 d:∀b,X.p0 b≠none->b<X.k
theorem iG.same {h0:List aj}{π:Pi}{s:St}{a:Act}{w:World}(I:In X h0)(R:iG X h0 π s a w){b:Nat}(hb:b<X.k)(hn:b∉s.du){k:aj}(hk:s.bU b=some k){B:Nat}{s0 q e:Nat}(hp:π b=some (B,s0,q,e)){j:Nat}(hj:j<aj.size k):
  ∃v,cl w B (s0+j)=some v/\(aj.get k j).rel X.p0 v:=by
 have h1:=R.drt b hb hn;rw[hk] at h1;have hz:hZ (h0.map some) b=some (aj.size k):=by rw[QD,<-h1];rfl
 obtain⟨B',s',e',vm,hle,k1,k2⟩:=I.h.hp b _ hz;rw[R.rel.yc b hb,vm] at hp;cases hp;obtain⟨v,hv,hr⟩:=k2 j hj;rw[aDW h1.symm hj] at hr;refine⟨v,?_,hr⟩;rw[R.rel.fr.cl (ace (by rw[hv];rfl)),hv];rintro ⟨b2,s2,q2,e2,FA,hd2,hp2,i1,i2⟩
 have mC:b2≠b:=λe=>hn (e▸hd2)
 have hz2:hZ (h0.map some) b2≠none:=by
  rw[QD];have:b2<h0.length:=by rw[<-I.k];exact FA
  rw[kR this];simp
 exact I.h.dj b2 b B s2 q2 e2 s0 _ e mC hz2 (by rw[hz];simp) hp2 vm (s0+j) i1 i2 (by omega) (by omega)
omit [ay] in
theorem aFs {l:List (Option aj)}{b:Nat}(h:b<l.length):l[b]? =some ((l[b]?).getD none):=by
 rw[kR h];rfl
theorem aNr {h0:List aj}{π:Pi}{s:St}{a:Act}{w:World}(I:In X h0)(R:iG X h0 π s a w){H:Nat}(hH:X.k<=H)(hHl:H<=s.heap.length){m0:List Nat}(ok0:MOk H m0){z:List (Option aj)×List Nat}
  (hz:gcN H s.heap 1000 0 (gcO X.k s.du H (s.heap.take H) 0 m0).2 []=some z):
  Ay m0 z.2/\sU (Mb π H z.2) (hC ((gcO X.k s.du H (s.heap.take H) 0 m0).1++z.1)) (hZ ((gcO X.k s.du H (s.heap.take H) 0 m0).1++z.1)) w/\
  ((gcO X.k s.du H (s.heap.take H) 0 m0).1++z.1).length=H+z.2.length/\
  (∀b,b<H->b<X.k->b∉s.du->(((gcO X.k s.du H (s.heap.take H) 0 m0).1++z.1)[b]?).getD none=s.bU b)/\
  (∀b,hZ ((gcO X.k s.du H (s.heap.take H) 0 m0).1++z.1) b≠none->(b<H/\s.gt.z b≠none)∨∃b0,H<=b/\z.2[b-H]? =some b0/\H<=b0/\s.gt.z b0≠none):=by
 obtain⟨o1,o2,o3,o4⟩:=apo X.k s.du H (s.heap.take H) 0 m0;generalize hy:gcO X.k s.du H (s.heap.take H) 0 m0=y at*
 obtain⟨n1,n2,n3,n4⟩:=aJg H s.heap 1000 0 y.2 [] z hz rfl (Nat.zero_le _) (λj b b' _ h=>by simp at h);have hyl:y.1.length=H:=by rw[o3];simp;omega
 have ok:=n2 (o2 ok0)
 have yc:∀b,b<H->∃x,y.1[b]? =some x/\(y.1++z.1)[b]? =some x/\(x=s.bU b/\b<X.k/\b∉s.du∨(b<X.k->b∉s.du->False)/\GcB H (s.bU b) x z.2):=λb hb=>by
  have h1:y.1[b]? =some (y.1[b]'(by omega)):=kR _
  have h2:(s.heap.take H)[b]? =some (s.bU b):=by
   rw[ab5,if_pos hb];exact aFs (by omega)
  refine⟨_,h1,by rw[UR (by omega)];exact h1,?_⟩;have o5:=o4 b _ _ h2 h1;simp only[dG] at o5;rcases o5 with⟨q1,q2,q3⟩| ⟨q0,q⟩
  .exact .inl ⟨q3,q1,q2⟩
  .exact .inr ⟨q0,q.pre n1⟩
 have new:∀b,H<=b->b<H+z.2.length->∃b0 x,z.2[b-H]? =some b0/\H<=b0/\(y.1++z.1)[b]? =some x/\GcB H (s.bU b0) x z.2:=λb h1 h2=>by
  have e1:z.2[b-H]? =some (z.2[b-H]'(by omega)):=kR _;have e2:z.1[b-H]? =some (z.1[b-H]'(by omega)):=kR _;refine⟨_,_,e1,ok.2 _ (List.mem_of_getElem? e1),?_,n4 _ _ _ e1 e2⟩;rw[aej (by omega),hyl];exact e2
 have len:(y.1++z.1).length=H+z.2.length:=by simp;omega
 have src:∀b n,hZ (y.1++z.1) b=some n->∃b0 k0 k,s.bU b0=some k0/\aj.size k0=n/\(y.1++z.1)[b]? =some (some k)/\aj.size k=n/\Mb π H z.2 b=π b0/\((b<H/\b0=b)∨(H<=b/\z.2[b-H]? =some b0/\H<=b0))/\
   (k=k0/\b<X.k/\b∉s.du/\b0=b∨∀(j:Nat) x,j<aj.size k0->(aj.get k0 j).rel π x->(aj.get k j).rel (Mb π H z.2) x):=λb n hn=>by
  have hbl:b<H+z.2.length:=by
   rw[<-len];rcases ni b (y.1++z.1).length with h|h
   .exact h
   .simp only[hZ,Ke h] at hn;cases hn
  rcases ni b H with hb|hb
  .obtain⟨x,h1,h2,h3⟩:=yc b hb;simp only[hZ,h2,LU] at hn;cases x with
   |none=>cases hn
   |some k=>
    have hkn:aj.size k=n:=by simpa using hn
    have hpi:Mb π H z.2 b=π b:=by unfold Mb;rw[if_pos hb]
    rcases h3 with⟨q1,q2,q3⟩| ⟨_,q⟩
    .exact⟨b,k,k,q1.symm,hkn,h2,hkn,hpi,.inl ⟨hb,rfl⟩,.inl ⟨rfl,q2,q3,rfl⟩⟩
    .have hs:=q.size;cases RB:s.bU b with
     |none=>rw[RB] at hs;cases hs
     |some k0=>
      rw[RB] at hs q;have:aj.size k=aj.size k0:=by simpa using hs
      exact⟨b,k0,k,RB,by omega,h2,hkn,hpi,.inl ⟨hb,rfl⟩,.inr λj x hj hx=>q.rel k0 k rfl rfl π j x hj hx⟩
  .obtain⟨b0,x,h1,h2,h3,q⟩:=new b hb hbl;simp only[hZ,h3,LU] at hn;cases x with
   |none=>cases hn
   |some k=>
    have hkn:aj.size k=n:=by simpa using hn
    have hpi:Mb π H z.2 b=π b0:=by unfold Mb;rw[if_neg (by omega),h1]
    have hs:=q.size;cases RB:s.bU b0 with
    |none=>rw[RB] at hs;cases hs
    |some k0=>
     rw[RB] at hs q;have:aj.size k=aj.size k0:=by simpa using hs
     exact⟨b0,k0,k,RB,by omega,h3,hkn,hpi,.inr ⟨hb,h1,h2⟩,.inr λj x hj hx=>q.rel k0 k rfl rfl π j x hj hx⟩
 refine⟨o1.trans n1,⟨R.rel.hp.am,λb B s1 q1 e1 hz1 H2 BK=> ?_,λb n hn=> ?_,λb b' B s1 q1 e1 s2 q2 e2 mC hz1 hz2 H2 hp2 i i1 i2 i3 i4=> ?_⟩,len,λb hb hbk hnd=> ?_,λb hb=> ?_⟩
 .cases hn1:hZ (y.1++z.1) b with
  |none=>exact absurd hn1 hz1
  |some n=>
   obtain⟨b0,k0,k,h1,h2,h3,h4,h5,h6,h7⟩:=src b n hn1;have N5:s.gt.z b0=some (aj.size k0):=St.aqF h1;rw[h5] at H2;exact R.rel.hp.lb b0 B s1 q1 e1 (by rw[N5];simp) H2 BK
 .obtain⟨b0,k0,k,h1,h2,h3,h4,h5,h6,h7⟩:=src b n hn;have N5:s.gt.z b0=some (aj.size k0):=St.aqF h1;obtain⟨B,s1,e1,hp,hle,m1,m2⟩:=R.rel.hp.hp b0 _ N5;refine⟨B,s1,e1,by rw[h5,<-h2];exact hp,by omega,m1,λj hj=> ?_⟩;rw[agX h3 (by omega)];rcases h7 with⟨rfl,q1,q2,rfl⟩|q
  .obtain⟨v,hv,hr⟩:=R.same I q1 q2 h1 hp (j:=j) (by omega);refine⟨v,hv,CV.dM (λb p hbp=> ?_) _ _ hr⟩;have hbk:=I.d b (by rw[hbp];simp);unfold Mb;rw[if_pos (by omega),R.rel.yc b hbk];exact hbp
  .obtain⟨v,hv,hr⟩:=m2 j (by omega);rw[St.aSR h1 (by omega)] at hr;exact⟨v,hv,q j v (by omega) hr⟩
 .cases hn1:hZ (y.1++z.1) b with
  |none=>exact hz1 hn1
  |some n=>
  cases hn2:hZ (y.1++z.1) b' with
  |none=>exact hz2 hn2
  |some n'=>
  obtain⟨b0,k0,k,h1,_,_,_,h5,h6,_⟩:=src b n hn1;obtain⟨b0',k0',k',h1',_,_,_,h5',h6',_⟩:=src b' n' hn2;rw[h5] at H2;rw[h5'] at hp2
  have a3z:b0≠b0':=by
   intro e;subst e;rcases h6 with⟨q1,q2⟩| ⟨q1,q2,q3⟩<;>rcases h6' with⟨r1,r2⟩| ⟨r1,r2,r3⟩
   .exact mC (q2.symm.trans r2)
   .omega
   .omega
   .obtain⟨l1,g1⟩:=lL.1 q2;obtain⟨l2,g2⟩:=lL.1 r2;have:=List.pairwise_iff_getElem.1 ok.1;rcases ags (b-H) (b'-H) with h|h|h
    .exact this _ _ l1 l2 h (g1.trans g2.symm)
    .omega
    .exact this _ _ l2 l1 h (g2.trans g1.symm)
  exact R.rel.hp.dj b0 b0' B s1 q1 e1 s2 q2 e2 a3z (by rw[St.aqF h1];simp) (by rw[St.aqF h1'];simp) H2 hp2 i i1 i2 i3 i4
 .obtain⟨x,h1,h2,h3⟩:=yc b hb;rw[h2];rcases h3 with⟨q1,_⟩| ⟨q0,_⟩
  .exact q1
  .exact(q0 hbk hnd).elim
 .cases hn:hZ (y.1++z.1) b with
  |none=>exact absurd hn hb
  |some n=>
   obtain⟨b0,k0,k,h1,_,_,_,_,h6,_⟩:=src b n hn;rcases h6 with⟨q1,rfl⟩| ⟨q1,q2,q3⟩
   .exact .inl ⟨q1,by rw[St.aqF h1];simp⟩
   .exact .inr ⟨b0,q1,q2,q3,by rw[St.aqF h1];simp⟩
end
end Go.Ab
namespace Go.Ab
variable [ay]
section
variable {P:Program} {E:Env} {X:Cx} {h0:List aj} {π:Pi} {s s':St} {a:Act} {w:World}
theorem iG.gc (I:In X h0)(R:iG X h0 π s a w){H:Nat}(hH:X.k<=H)(h:s.gc X.k H=some s'):∃π',iG X h0 π' s' a w:=by
 unfold St.gc at h;split at h
 .cases h
 rename_i hb
 have hHl:H<=s.heap.length:=WA hb;simp only at h;split at h
 .rename_i z hz
  obtain⟨p1,p2,p3,p4⟩:=aeq (R:=AV.rel) (λh a x r=>AV.dM h a x r) (ayB H) s.tmps [];have ok0:MOk H (HZ (gcA H) s.tmps []).2:=p2 ⟨List.nodup_nil,λ_ h=>by cases h⟩;obtain⟨q1,q2,q3,q4,q5⟩:=aNr I R hH hHl ok0 hz;cases h;refine⟨Mb π H z.2,⟨⟨λi=> ?_,R.rel.nt,R.rel.df,q2,λb hb=> ?_,λb B s1 qq e hkb hzb hp hB i i1 i2=> ?_,R.rel.fr⟩,p3.trans R.len,λb hb=> ?_,λb hb hn=> ?_,?_,R.dlt⟩⟩
  .show(alo (HZ (gcA H) s.tmps []).1 i).rel _ _;rw[AZ];have hr:(alo s.tmps i).rel π (a.tmps.getD i undef):=R.rel.tm i;rw[AZ] at hr;rcases ni i s.tmps.length with hi|hi
   .have e1:s.tmps[i]? =some (s.tmps[i]'hi):=kR _;have e2:(HZ (gcA H) s.tmps []).1[i]? =some ((HZ (gcA H) s.tmps []).1[i]'(by omega)):=kR _;have hr:(s.tmps.getD i udf).rel π (a.tmps.getD i undef):=hr;simp only[List.getD,e1,LU] at hr;simp only[List.getD,e2,LU];exact AV.dM q1.ext _ _ (p4 i _ _ e1 e2 π _ hr)
   .have hr:(s.tmps.getD i udf).rel π (a.tmps.getD i undef):=hr;simp only[List.getD,Ke hi,Option.getD_none] at hr;simp only[List.getD,Ke (show(HZ (gcA H) s.tmps []).1.length<=i by omega),Option.getD_none];exact(ayB H udf z.2).rel π _ hr
  .unfold Mb;rw[if_pos (by omega)];exact R.rel.yc b hb
  .rcases q5 b hzb with⟨hbH,N5⟩| ⟨b0,hbH,hm,RB,N5⟩
   .unfold Mb at hp;rw[if_pos hbH] at hp;exact R.rel.ft b B s1 qq e hkb N5 hp hB i i1 i2
   .unfold Mb at hp;rw[if_neg (by omega),hm] at hp;exact R.rel.ft b0 B s1 qq e (by omega) N5 hp hB i i1 i2
  .show b<(_++_:List (Option aj)).length;rw[q3];unfold Mb at hb;split at hb
   .omega
   .cases hm:z.2[b-H]? with
    |none=>rw[hm] at hb;exact absurd rfl hb
    |some b0=>have:=(lL.1 hm).1;omega
  .exact(q4 b (by omega) hb hn).trans (R.drt b hb hn)
  .show X.k<=(_++_:List (Option aj)).length;rw[q3];omega
 .cases h
theorem iG.a1Y (R:iG X h0 π s a w)(t:Nat):iG X h0 π {s with tmps:=s.tmps.set t WG} a w:=by
 refine⟨⟨λi=> ?_,R.rel.nt,R.rel.df,R.rel.hp,R.rel.yc,R.rel.ft,R.rel.fr⟩,by simpa using R.len,R.dom,R.drt,R.hk,R.dlt⟩;show(alo (s.tmps.set t WG) i).rel π _;rw[AZ];simp only[List.getD,aED];have hr:(alo s.tmps i).rel π (a.tmps.getD i undef):=R.rel.tm i;rw[AZ] at hr;split
 .split
  .trivial
  .rename_i h1 h2
   subst h1;simpa only[List.getD,Ke (show s.tmps.length<=t by omega)] using hr
 .exact hr
theorem iG.aEL:∀(l:List Nat) {s:St},iG X h0 π s a w->iG X h0 π {s with tmps:=l.foldl (λl t=>l.set t WG) s.tmps} a w
 | [],_,R=>R
 |t::l,_,R=>iG.aEL l (R.a1Y t)
omit [ay] in
theorem aZI {i:Nat}{c:CV}(h:s.tmp i=.r (.c c)):i<s.tmps.length:=by
 rcases ni i s.tmps.length with hi|hi
 .exact hi
 .simp only[St.tmp,AZ,List.getD,Ke hi,Option.getD_none,udf] at h;cases h
omit [ay] in
theorem ayC [ay]{π:Pi}{c:CV}{v:Value}(h:c.rel π v):(aIY c).rel π v:=by
 unfold aIY;split
 .split
  .rename_i b len z own c0
   simpa[CV.rel,cE.val] using h
  .exact h
 .exact h
omit [ay] in
theorem agY (g:CV->CV)(s:Sg):(aEM g s).size=s.size:=by
 cases s<;>rfl
omit [ay] in
theorem ayD (g:CV->CV):∀b:aj,aj.size (b.map (aEM g))=aj.size b
 | []=>rfl
 |s::l=>by
  rw[List.map_cons,aj.size_cons,aj.size_cons,agY,ayD g l]
theorem aTH {g:CV->CV}{π:Pi}(hg:∀c v,CV.rel π c v->CV.rel π (g c) v){s:Sg}{j:Nat}{v:Value}(h:(s.get j).rel π v):((aEM g s).get j).rel π v:=by
 cases s with
 |c x=>
  cases j with
  |zero=>exact hg _ _ h
  |succ j=>exact h
 |a n cols=>exact h
theorem aNs {g:CV->CV}{π:Pi}(hg:∀c v,CV.rel π c v->CV.rel π (g c) v){v:Value}:∀(b:aj) (j:Nat),(aj.get b j).rel π v->(aj.get (b.map (aEM g)) j).rel π v
 | [],_,h=>h
 |s::l,j,h=>by
  rw[List.map_cons];by_cases hj:j<s.size
  .rw[aj.dR hj] at h;rw[aj.dR (by rw[agY];exact hj)];exact aTH hg h
  .rw[aj.lp (by omega)] at h;rw[aj.lp (by rw[agY];omega),agY];exact aNs hg l _ h
theorem aTI {g:CV->CV}{π:Pi}(hg:∀c v,CV.rel π c v->CV.rel π (g c) v){a:AV}{v:Value}(h:a.rel π v):(mapA g a).rel π v:=by
 unfold mapA;split
 .exact hg _ _ h
 .exact h
omit [ay] in
theorem avm (g:CV->CV)(k:Nat)(d:List Nat):∀(l:List (Option aj)) (j:Nat),(ai0 g k d l j).length=l.length
 | [],_=>rfl
 |b::l,j=>by simp[ai0,avm g k d l (j+1)]
omit [ay] in
theorem aJh (g:CV->CV)(k:Nat)(d:List Nat):∀(l:List (Option aj)) (j i:Nat),((ai0 g k d l j)[i]?).getD none=(l[i]?).getD none∨(¬(j+i<k/\j+i∉d)/\∃b,(l[i]?).getD none=some b/\((ai0 g k d l j)[i]?).getD none=some (b.map (aEM g)))
 | [],_,_=>.inl rfl
 |b::l,j,0=>by
  unfold ai0;cases hc:wl j k&& !d.any (z9 j) with
  |true=>exact .inl rfl
  |false=>
   cases b with
   |none=>exact .inl rfl
   |some b=>
    refine .inr ⟨λh=> ?_,b,rfl,rfl⟩;have h1:wl j k=true:=uX.2 h.1
    have h2:d.any (z9 j)=false:=by
     cases hd:d.any (z9 j) with
     |false=>rfl
     |true=>
      obtain⟨x,hx,he⟩:=ab6.1 hd;have:=lE he;subst this;exact absurd hx h.2
    rw[h1,h2] at hc;cases hc
 |b::l,j,i+1=>by
  have:=aJh g k d l (j+1) i;rw[show j+1+i=j+(i+1) by omega] at this;exact this
theorem iG.a02 (R:iG X h0 π s a w)(g:CV->CV)(hg:∀c v,CV.rel π c v->CV.rel π (g c) v):iG X h0 π {s with tmps:=s.tmps.map (mapA g),heap:=ai0 g X.k s.du s.heap 0} a w:=by
 have hb:∀b,St.bU {s with tmps:=s.tmps.map (mapA g),heap:=ai0 g X.k s.du s.heap 0} b=s.bU b∨(¬(b<X.k/\b∉s.du)/\∃k,s.bU b=some k/\St.bU {s with tmps:=s.tmps.map (mapA g),heap:=ai0 g X.k s.du s.heap 0} b=some (k.map (aEM g))):=λb=>by
  have:=aJh g X.k s.du s.heap 0 b;rw[dG] at this;exact this
 generalize WM:({s with tmps:=s.tmps.map (mapA g),heap:=ai0 g X.k s.du s.heap 0}:St)=s2 at hb
 have hz:s2.gt.z=s.gt.z:=by
  funext b
  show(s2.bU b).map aj.size=(s.bU b).map aj.size;rcases hb b with h| ⟨_,k,h1,h2⟩
  .rw[h]
  .rw[h1,h2];simp[ayD]
 have hc:∀b j v,(s.gt.c b j).rel π v->(s2.gt.c b j).rel π v:=λb j v h=>by
  rcases hb b with e| ⟨_,k,h1,h2⟩
  .show(match s2.bU b with|some k=>if j<k.size then k.get j else .f .u|none=>.f .u:CV).rel π v;rw[e];exact h
  .have h:(match s.bU b with|some k=>if j<k.size then k.get j else .f .u|none=>.f .u:CV).rel π v:=h;show(match s2.bU b with|some k=>if j<k.size then k.get j else .f .u|none=>.f .u:CV).rel π v;rw[h1] at h;rw[h2];simp only[ayD] at h ⊢;split
   .rename_i hj
    rw[if_pos hj] at h;exact aNs hg k j h
   .rename_i hj
    rw[if_neg hj] at h;exact h
 have hd2:s2.du=s.du:=by rw[<-WM]
 have hl2:s2.heap.length=s.heap.length:=by rw[<-WM];exact avm _ _ _ _ _
 refine⟨⟨λi=> ?_,R.rel.nt,R.rel.df,⟨R.rel.hp.am,?_,λb n hn=> ?_,?_⟩,R.rel.yc,?_,?_⟩,?_,λb fu=> ?_,λb hbk hn=> ?_,?_,?_⟩
 .have hr:(alo s.tmps i).rel π (a.tmps.getD i undef):=R.rel.tm i;show(alo s2.tmps i).rel π _;rw[<-WM];rw[AZ] at hr;rw[AZ];simp only[List.getD,Ca] at hr ⊢;cases he:s.tmps[i]? with
  |none=>rw[he] at hr;exact hr
  |some x=>rw[he] at hr;exact aTI hg hr
 .rw[hz];exact R.rel.hp.lb
 .rw[hz] at hn;obtain⟨B,s1,e,h1,h2,h3,h4⟩:=R.rel.hp.hp b n hn;exact⟨B,s1,e,h1,h2,h3,λj hj=>let⟨v,hv,hr⟩:=h4 j hj;⟨v,hv,hc b j v hr⟩⟩
 .rw[hz];exact R.rel.hp.dj
 .rw[hz];intro b B s1 q e;rw[hd2];exact R.rel.ft b B s1 q e
 .rw[hd2];exact R.rel.fr
 .rw[<-WM];simpa using R.len
 .rw[hl2];exact R.dom b fu
 .rw[hd2] at hn;rcases hb b with e| ⟨h,_⟩
  .exact e.trans (R.drt b hbk hn)
  .exact absurd ⟨hbk,hn⟩ h
 .rw[hl2];exact R.hk
 .rw[hd2];exact R.dlt
theorem aJi {π:Pi}{c:CV}{v:Value}(h:c.rel π v):(aXy c).rel π v:=by
 unfold aXy;split
 .simpa[CV.rel,Sz.val] using h
 .exact h
theorem aTJ {π:Pi}{a:AV}{v:Value}(h:a.rel π v):(N8 a).rel π v:=by
 unfold N8;split
 .exact aJi (ayC h)
 .exact h
omit [ay] in
theorem agZ (s:Sg):(aIZ s).size=s.size:=by
 cases s<;>rfl
omit [ay] in
theorem aaD:∀b:aj,aj.size (b.map aIZ)=aj.size b
 | []=>rfl
 |s::l=>by
  rw[List.map_cons,aj.size_cons,aj.size_cons,agZ,aaD l]
theorem aTK {π:Pi}{s:Sg}{j:Nat}{v:Value}(h:(s.get j).rel π v):((aIZ s).get j).rel π v:=by
 cases s with
 |c x=>
  cases j with
  |zero=>exact aJi (ayC h)
  |succ j=>exact h
 |a n cols=>exact h
theorem aty {π:Pi}{v:Value}:∀(b:aj) (j:Nat),(aj.get b j).rel π v->(aj.get (b.map aIZ) j).rel π v
 | [],_,h=>h
 |s::l,j,h=>by
  rw[List.map_cons];by_cases hj:j<s.size
  .rw[aj.dR hj] at h;rw[aj.dR (by rw[agZ];exact hj)];exact aTK h
  .rw[aj.lp (by omega)] at h;rw[aj.lp (by rw[agZ];omega),agZ];exact aty l _ h
omit [ay] in
theorem aFt (l:List (Nat×Nat))(j:Nat)(b:aj):aj.size (aEN l j b)=aj.size b:=by
 unfold aEN;split
 .rw[(ayr _).1,(aas _ _).1,aaD]
 .rw[aaD]
theorem aTL {π:Pi}{v:Value}(l:List (Nat×Nat))(j:Nat)(b:aj)(i:Nat)(hi:i<aj.size b)(h:(aj.get b i).rel π v):(aj.get (aEN l j b) i).rel π v:=by
 unfold aEN;split
 .rw[(ayr _).2,(aas _ _).2 i (by rw[aaD];exact hi)];exact aty b i h
 .exact aty b i h
omit [ay] in
theorem avn (k:Nat)(d:List Nat)(sl:List (Nat×Nat)):∀(l:List (Option aj)) (j:Nat),(alu k d sl l j).length=l.length
 | [],_=>rfl
 |b::l,j=>by simp[alu,avn k d sl l (j+1)]
omit [ay] in
theorem aJj (k:Nat)(d:List Nat)(sl:List (Nat×Nat)):∀(l:List (Option aj)) (j i:Nat),((alu k d sl l j)[i]?).getD none=(l[i]?).getD none∨(¬(j+i<k/\j+i∉d)/\∃b,(l[i]?).getD none=some b/\((alu k d sl l j)[i]?).getD none=some (aEN sl (j+i) b))
 | [],_,_=>.inl rfl
 |b::l,j,0=>by
  unfold alu;cases hc:wl j k&& !d.any (z9 j) with
  |true=>exact .inl rfl
  |false=>
   cases b with
   |none=>exact .inl rfl
   |some b=>
    refine .inr ⟨λh=> ?_,b,rfl,rfl⟩;have h1:wl j k=true:=uX.2 h.1
    have h2:d.any (z9 j)=false:=by
     cases hd:d.any (z9 j) with
     |false=>rfl
     |true=>
      obtain⟨x,hx,he⟩:=ab6.1 hd;have:=lE he;subst this;exact absurd hx h.2
    rw[h1,h2] at hc;cases hc
 |b::l,j,i+1=>by
  have:=aJj k d sl l (j+1) i;rw[show j+1+i=j+(i+1) by omega] at this;exact this
theorem iG.rows (R:iG X h0 π s a w):iG X h0 π {s with tmps:=s.tmps.map N8,heap:=alu X.k s.du (sls s) s.heap 0} a w:=by
 have hb:∀b,St.bU {s with tmps:=s.tmps.map N8,heap:=alu X.k s.du (sls s) s.heap 0} b=s.bU b∨(¬(b<X.k/\b∉s.du)/\∃k,s.bU b=some k/\St.bU {s with tmps:=s.tmps.map N8,heap:=alu X.k s.du (sls s) s.heap 0} b=some (aEN (sls s) b k)):=λb=>by
  have:=aJj X.k s.du (sls s) s.heap 0 b;rw[dG] at this;exact this
 generalize sls s=sl at hb ⊢
 generalize WM:({s with tmps:=s.tmps.map N8,heap:=alu X.k s.du sl s.heap 0}:St)=s2 at hb
 have hz:s2.gt.z=s.gt.z:=by
  funext b
  show(s2.bU b).map aj.size=(s.bU b).map aj.size;rcases hb b with h| ⟨_,k,h1,h2⟩
  .rw[h]
  .rw[h1,h2];simp[aFt]
 have hc:∀b j v,(s.gt.c b j).rel π v->(s2.gt.c b j).rel π v:=λb j v h=>by
  rcases hb b with e| ⟨_,k,h1,h2⟩
  .show(match s2.bU b with|some k=>if j<k.size then k.get j else .f .u|none=>.f .u:CV).rel π v;rw[e];exact h
  .have h:(match s.bU b with|some k=>if j<k.size then k.get j else .f .u|none=>.f .u:CV).rel π v:=h;show(match s2.bU b with|some k=>if j<k.size then k.get j else .f .u|none=>.f .u:CV).rel π v;rw[h1] at h;rw[h2];simp only[aFt] at h ⊢;split
   .rename_i hj
    rw[if_pos hj] at h;exact aTL sl b k j hj h
   .rename_i hj
    rw[if_neg hj] at h;exact h
 have hd2:s2.du=s.du:=by rw[<-WM]
 have hl2:s2.heap.length=s.heap.length:=by rw[<-WM];exact avn _ _ _ _ _
 refine⟨⟨λi=> ?_,R.rel.nt,R.rel.df,⟨R.rel.hp.am,?_,λb n hn=> ?_,?_⟩,R.rel.yc,?_,?_⟩,?_,λb fu=> ?_,λb hbk hn=> ?_,?_,?_⟩
 .have hr:(alo s.tmps i).rel π (a.tmps.getD i undef):=R.rel.tm i;show(alo s2.tmps i).rel π _;rw[<-WM];rw[AZ] at hr;rw[AZ];simp only[List.getD,Ca] at hr ⊢;cases he:s.tmps[i]? with
  |none=>rw[he] at hr;exact hr
  |some x=>rw[he] at hr;exact aTJ hr
 .rw[hz];exact R.rel.hp.lb
 .rw[hz] at hn;obtain⟨B,s1,e,h1,h2,h3,h4⟩:=R.rel.hp.hp b n hn;exact⟨B,s1,e,h1,h2,h3,λj hj=>let⟨v,hv,hr⟩:=h4 j hj;⟨v,hv,hc b j v hr⟩⟩
 .rw[hz];exact R.rel.hp.dj
 .rw[hz];intro b B s1 q e;rw[hd2];exact R.rel.ft b B s1 q e
 .rw[hd2];exact R.rel.fr
 .rw[<-WM];simpa using R.len
 .rw[hl2];exact R.dom b fu
 .rw[hd2] at hn;rcases hb b with e| ⟨h,_⟩
  .exact e.trans (R.drt b hbk hn)
  .exact absurd ⟨hbk,hn⟩ h
 .rw[hl2];exact R.hk
 .rw[hd2];exact R.dlt
omit [ay] in
theorem aTM [ay]{π:Pi}{b n:Nat}(hb:π n=π b){c:CV}{v:Value}(h:c.rel π v):(aMS b n c).rel π v:=by
 have e:∀x,π (aMR b n x)=π x:=λx=>by
  unfold aMR;split
  .rename_i hx;rw[lE hx];exact hb
  .rfl
 unfold aMS;split
 .simpa only[CV.rel,e] using h
 .simpa only[CV.rel,e] using h
 .simpa only[CV.rel,e] using h
 .exact h
theorem iG.move (R:iG X h0 π s a w)(b:Nat):∃π',iG X h0 π' (aQI X.k b s) a w:=by
 unfold aQI;split
 case h_2=>exact⟨π,R⟩
 rename_i bU aat
 split
 case h_2=>exact⟨π,R⟩
 rename_i nL
 have nL:=uX.1 nL;have hbl:b<s.heap.length:=aEC nL R.hk;generalize hn:s.heap.length=n
 generalize hs1:({s with heap:=s.heap.set b none++[some bU],du:=mark X.k b s.du}:St)=s1
 have aaw:jX X.k [.kill b,.new n bU] s=some s1:=by
  have h1:wl b s.heap.length=true:=uX.2 hbl;have h2:z9 n s.heap.length=true:=by rw[hn];exact Fz _
  simp[jX,Up.ok,Up.app,h1,h2,<-hs1]
 have A:=Kl aaw;have hg:=OP aaw;have hz:s.gt.z b=some (aj.size bU):=by show(s.bU b).map aj.size=_;rw[aat];rfl
 obtain⟨B,s0,e,hp,hle,k1,k2⟩:=R.rel.hp.hp b _ hz
 have aQ0:π n=none:=by
  cases hb:π n with
  |none=>rfl
  |some q=>have:=R.dom n (by rw[hb];simp);omega
 have avk:=A5 aQ0 (B,s0,aj.size bU,e);have hD:b∈s1.du:=by rw[<-hs1];exact A6.2 (.inr ⟨rfl,nL⟩)
 have a3A:∀x,x∈s.du->x∈s1.du:=λx hx=>by rw[<-hs1];exact A6.2 (.inl hx)
 have R0:=(R.rel.L6 avk (λb' fu=>by simp only[AA];rw[if_neg (by have:=R.hk;omega)])).aKM a3A;have RB:AA π n (B,s0,aj.size bU,e) b=some (B,s0,aj.size bU,e):=avk _ _ hp;have hp0:X.p0 b=some (B,s0,aj.size bU,e):=by rw[<-R.rel.yc b nL];exact hp
 have R2:=(R0.kill b).new (k:=bU) (b:=n) (qi π n (B,s0,aj.size bU,e)) (by have:=R.hk;omega) hle k1
  (λj hj=>by
   obtain⟨v,hv,hr⟩:=k2 j hj;have hc:s.gt.c b j=aj.get bU j:=by show(match s.bU b with|some k=>if j<k.size then k.get j else .f .u|none=>.f .u:CV)=_;rw[aat];simp only[hj,lI]
   rw[hc] at hr;exact⟨v,hv,CV.dM avk _ _ hr⟩)
  (λb' s' q' e' mC uY fu i i1 i2 i3 i4=>by
   by_cases eb:b'=b
   .subst eb;simp[Up.hI] at uY
   .exact R0.hp.dj b b' B s0 _ e s' q' e' (λh=>eb h.symm) (by rw[hz];simp) (by simpa[Up.hI,eb] using uY) RB fu i i1 i2 i3 i4)
  (λ_ i i1 i2=>⟨b,s0,_,e,nL,hD,hp0,i1,i2⟩) (λh=>R.rel.hp.lb b B s0 _ e (by rw[hz];simp) hp h)
 have RS:iG X h0 (AA π n (B,s0,aj.size bU,e)) s1 a w:=A.aXU R hg R2 (λb' fu=>by
   by_cases e':b'=n
   .exact .inr ⟨by omega,by simp[cF];omega⟩
   .simp only[AA,e',gA] at fu;exact .inl fu) (λx hx=>by
   rw[<-hs1] at hx;rcases A6.1 hx with h| ⟨rfl,h⟩
   .exact R.dlt x h
   .exact h)
 have M:=RS.a02 (aMS b n) λc v h=>aTM (by rw[qi,RB]) h
 rw[<-hs1] at M;exact⟨_,M⟩
theorem iG.aI0 (R:iG X h0 π s a w)(p:Nat×List CK):∃π',iG X h0 π' (aI0 X.k s p) a w:=by
 unfold Ab.aI0;split
 .split
  .exact⟨π,R.a02 aIY λc v h=>ayC h⟩
  .exact⟨π,R.rows⟩
  .exact R.move _
 split
 .rename_i hx
  have nL:=aZI hx;generalize hv:AV.r (.c (.sl s.heap.length (.k 0) (.s 0) p.2.length true))=v
  generalize hk:([.a (.s 0) (p.2.map CK.nK)]:aj)=k
  have hk0:aj.size k=0:=by rw[<-hk];simp[aj.size,Sg.size,Sz.val]
  have aaw:jX X.k [.t p.1 v,.new s.heap.length k] s=some {s with tmps:=s.tmps.set p.1 v,heap:=s.heap++[some k]}:=by
   have h1:wl p.1 s.tmps.length=true:=by simpa using nL
   have h2:z9 s.heap.length s.heap.length=true:=Fz _;simp[jX,Up.ok,Up.app,h1,h2]
  have A:=Kl aaw;have hg:=OP aaw
  have aQ0:π s.heap.length=none:=by
   cases hb:π s.heap.length with
   |none=>rfl
   |some q=>have:=R.dom _ (by rw[hb];simp:π s.heap.length≠none);omega
  have avk:=A5 aQ0 (0,0,aj.size k,0);have hr:(RV.c CV.nils).rel π (a.tmps.getD p.1 undef):=by have:=R.rel.tm p.1;rwa [show s.gt.t p.1=_ from hx] at this
  have R0:=R.rel.L6 avk (λb hb=>by simp only[AA];rw[if_neg (by have:=R.hk;omega)])
  have R1:Rel X (·∈s.du) (AA π s.heap.length (0,0,aj.size k,0)) ((Up.t p.1 v).hI s.gt) a w:=by
   refine⟨λi=> ?_,R0.nt,R0.df,R0.hp,R0.yc,R0.ft,R0.fr⟩;show(if i=p.1 then v else s.gt.t i).rel _ _;split
   .rename_i e;subst e;subst hv
    exact⟨_,_,_,_,qi _ _ _,by simp[cE.val,Sz.val],λ_=>by simp[cE.val,Sz.val,hk0],.inl ⟨rfl,none,hr⟩⟩
   .exact R0.tm i
  have R2:=R1.new (k:=k) (qi π s.heap.length (0,0,aj.size k,0)) R.hk (by omega) (λi h1 h2=>by omega) (λj hj=>by omega) (λb' s' q' e' _ _ _ i h1 h2=>by omega) (λ_ i h1 h2=>by omega)
  exact⟨_,A.aXU R hg R2 (λb hb=>by
   by_cases e:b=s.heap.length
   .exact .inr ⟨by omega,by simp[cF];omega⟩
   .simp only[AA,e,gA] at hb;exact .inl hb) R.dlt⟩
 .exact⟨π,R⟩
theorem iG.nils:∀(l:List (Nat×List CK)) {s:St} {π:Pi},iG X h0 π s a w->∃π',iG X h0 π' (l.foldl (Ab.aI0 X.k) s) a w
 | [],_,π,R=>⟨π,R⟩
 |p::l,_,_,R=>let⟨_,R'⟩:=R.aI0 p;iG.nils l R'
theorem iG.acd (I:In X h0)(R:iG X h0 π s a w){h:Hd}(hh:s.acd X.k h=some s'):∃π',iG X h0 π' s' a w:=by
 obtain⟨π1,R1⟩:=iG.nils h.nils (iG.aEL h.aEL R);exact R1.gc I (cZ _) hh
theorem iG.head (I:In X h0)(R:iG X h0 π s a w){hs:Hs}{c:Code}(h:s.head X.k hs c=some s'):∃π',iG X h0 π' s' a w:=by
 unfold St.head at h;split at h
 .exact R.gc I (cZ _) h
 .split at h
  .exact R.gc I (cZ _) h
  .exact R.acd I h
def a03:AX->Exit
 |.nrm=>.normal
 |.ex id=>.exit id
 |.ret=>.ret
def aXY (X:Cx)(h0:List aj){ρ:Type}(K:AX->St->Option ρ)(r:ρ)(Q:Exit->Act->World->Prop):Prop:=
 ∀e s π a w,iG X h0 π s a w->K e s=some r->Q (a03 e) a w
theorem aAm {c:Code}{hd:St->Option St}{ρ:Type}{body:St->(AX->St->Option ρ)->Option ρ}{K:AX->St->Option ρ}{r:ρ}{Q:Exit->Act->World->Prop}
  (hb:∀{s:St} {K:AX->St->Option ρ} {Q:Exit->Act->World->Prop} {π:Pi} {a:Act} {w:World},iG X h0 π s a w->body s K=some r->aXY X h0 K r Q->c.wp P Q a w)
  (hh:∀{s s':St} {π:Pi} {a:Act} {w:World},iG X h0 π s a w->hd s=some s'->∃π',iG X h0 π' s' a w)(hQ:aXY X h0 K r Q):
  ∀(n:Nat) {s:St} {π:Pi} {a:Act} {w:World},iG X h0 π s a w->iter hd body K n s=some r->Code.rounds P c Q n a w
 |0,_,_,_,_,_,h=>by cases h
 |n+1,s,π,a,w,R,h=>by
  have h:(body s λe s=>match e with
    |.nrm=>match hd s with
     |none=>none
     |some s=>yC s (iter hd body K n)
    |e=>K e s)=some r:=h
  simp only[L5] at h;rw[rounds_succ];refine hb R h λe s2 π2 a2 w2 R2 hK=> ?_;cases e with
  |nrm=>
   simp only at hK;split at hK
   .cases hK
   .rename_i s3 hs3
    obtain⟨π3,R3⟩:=hh R2 hs3;exact aAm hb hh hQ n R3 hK
  |ex id=>exact hQ _ _ _ _ _ R2 hK
  |ret=>exact hQ _ _ _ _ _ R2 hK
def OC (P:Program)(E:Env)(hs:Hs)(nt kk lf:Nat)(a:Code):Prop:=
 ∀σ,aqz hs a=some σ->σ.kk=kk->∀{ρ:Type} (s:St) (K:AX->St->Option ρ) (r:ρ),σ.run s K=some r->∃n,iter (λt=>t.head kk hs a) (HF P E hs nt kk lf a) K n s=some r
def auZ (P:Program)(E:Env)(hs:Hs)(nt kk lf:Nat)(b:Code):Prop:=
 ∀j,az5 hs b=some j->j.sm.kk=kk->∀{ρ:Type} (s:St) (K:AX->St->Option ρ) (r:ρ),j.sm.run s K=some r->HF P E hs nt kk lf b s K=some r
def LR (P:Program)(E:Env)(hs:Hs)(nt kk lf:Nat):Code->Prop
 |.seq a b=>auZ P E hs nt kk lf b/\LR P E hs nt kk lf a/\LR P E hs nt kk lf b
 |.cond _ a b=>LR P E hs nt kk lf a/\LR P E hs nt kk lf b
 |.block _ a=>LR P E hs nt kk lf a
 |.loop a=>OC P E hs nt kk lf a/\LR P E hs nt kk lf a
 |_=>True
omit [ay] in
theorem aTN {hd:List Hd}{d0:List Nat}{jn:List Jn}{rk:Option Hd}(a:Code):aqz ⟨hd,[],d0,jn,rk⟩ a=none:=by
 unfold aqz;split<;>rfl
omit [ay] in
theorem aTO {hd:List Hd}{sm:List Sm}{d0:List Nat}{rk:Option Hd}(a:Code):az5 ⟨hd,sm,d0,[],rk⟩ a=none:=rfl
omit [ay] in
theorem LR.nil (P:Program)(E:Env)(hd:List Hd)(d0:List Nat)(nt kk lf:Nat)(c:Code):LR P E ⟨hd,[],d0,[],none⟩ nt kk lf c:=by
 induction c with
 |seq a b iha ihb=>exact⟨(λj h=>by rw[aTO] at h;cases h),iha,ihb⟩
 |cond x a b iha ihb=>exact⟨iha,ihb⟩
 |block id a iha=>exact iha
 |loop a iha=>exact⟨(λσ h=>by rw[aTN] at h;cases h),iha⟩
 |_=>trivial
def BL {α:Type}(p:α->Prop):List α->Prop
 | []=>True
 |a::l=>p a/\BL p l
omit [ay] in
theorem BL.append {α:Type}{p:α->Prop}:∀{l m:List α},BL p (l++m)->BL p l/\BL p m
 | [],_,h=>⟨trivial,h⟩
 |_::_,_,⟨h1,h2⟩=>⟨⟨h1,(BL.append h2).1⟩,(BL.append h2).2⟩
omit [ay] in
theorem LR.of {P:Program}{E:Env}{hs:Hs}{nt kk lf:Nat}{c:Code}(h:BL (OC P E hs nt kk lf) (LP c))(hj:BL (auZ P E hs nt kk lf) (LQ hs c)):LR P E hs nt kk lf c:=by
 induction c with
 |seq a b iha ihb=>
  obtain⟨j1,j2⟩:=BL.append hj;refine⟨λj hjn=> ?_,iha (BL.append h).1 (BL.append j2).1,ihb (BL.append h).2 (BL.append j2).2⟩;rw[hjn] at j1;exact j1.1 j hjn
 |cond x a b iha ihb=>exact⟨iha (BL.append h).1 (BL.append hj).1,ihb (BL.append h).2 (BL.append hj).2⟩
 |block id a iha=>exact iha h hj
 |loop a iha=>exact⟨h.1,iha h.2 hj⟩
 |_=>trivial
def Tp {D X ρ:Type}(step:D->(D->Option ρ)->(X->Option ρ)->Option ρ)(n:Nat):D->(X->Option ρ)->Option ρ:=
 Nat.rec (motive:=λ_=>D->(X->Option ρ)->Option ρ) (λ_ _=>none) (λ_ ih d x=>step d (λd=>ih d x) x) n
theorem BM (hE:∀f F,E f=some F->Sound P f F)(hm:P.follows .mixedOrders=true)(I:In X h0){hs:Hs}{nt lf:Nat}(Z4:nt<=X.N){ρ:Type}{r:ρ}:
  ∀(c:Code),LR P E hs nt X.k lf c->∀{s:St} {K:AX->St->Option ρ} {Q:Exit->Act->World->Prop} {π:Pi} {a:Act} {w:World},iG X h0 π s a w->HF P E hs nt X.k lf c s K=some r->aXY X h0 K r Q->c.wp P Q a w
 |.skip,hS,s,K,Q,π,a,w,R,h,hQ=>wp_skip (hQ .nrm _ _ _ _ R h)
 |.region id ops false,hS,s,K,Q,π,a,w,R,h,hQ=>by
  obtain⟨s1,dS,hT,hK⟩:=Ma (by rw[R.len];exact Z4) (show LZ P E nt X.k ops.toList ops.toList s [] (λs _=>K .nrm s)=some r from h);exact aKU hE hT R λa' w' π' R'=>hQ .nrm _ _ _ _ R' hK
 |.region id ops true,hS,s,K,Q,π,a,w,R,h,hQ=>by
  obtain⟨s1,dS,hT,hK⟩:=Ma (by rw[R.len];exact Z4) (show LZ P E nt X.k ops.toList ops.toList s [] (λs l=>match Rx ops.toList 0&&Rw (LY ops.toList []) l 0 with
   |true=>K .nrm s
   |false=>none)=some r from h)
  split at hK
  .rename_i hok
   simp only[cB,List.nil_append] at hok;exact aKT hE hm hT hok.1 hok.2 R λa' w' π' R'=>hQ .nrm _ _ _ _ R' hK
  .cases hK
 |.seq x y,hS,s,K,Q,π,a,w,R,h,hQ=>by
  refine wp_seq (BM hE hm I Z4 x hS.2.1 R (show HF P E hs nt X.k lf x s (λe s=>match e with
   |.nrm=>match az5 hs y with
    |none=>HF P E hs nt X.k lf y s K
    |some j=>match s.acd X.k j.hd with
     |none=>none
     |some s=>yC s λs=>match z9 j.sm.kk X.k with
      |true=>j.sm.run s K
      |false=>none
   |e=>K e s)=some r from h) λe s1 π1 a1 w1 R1 hK=> ?_)
  cases e with
  |nrm=>
   simp only at hK;split at hK
   .exact BM hE hm I Z4 y hS.2.2 R1 hK hQ
   .rename_i j hj
    simp only[L5] at hK;split at hK
    .cases hK
    .rename_i s2 WM
     split at hK
     .rename_i hk
      obtain⟨π2,R2⟩:=R1.acd I WM;exact BM hE hm I Z4 y hS.2.2 R2 (hS.1 j hj (beq_iff.1 hk) s2 K r hK) hQ
     .cases hK
  |ex id=>exact hQ _ _ _ _ _ R1 hK
  |ret=>exact hQ _ _ _ _ _ R1 hK
 |.cond (.tmp t) x y,hS,s,K,Q,π,a,w,R,h,hQ=>by
  have h:(match s.tmp t with
   |.r (.c (.f (.b z)))=>match z with
    |true=>HF P E hs nt X.k lf x s K
    |false=>HF P E hs nt X.k lf y s K
   |_=>none)=some r:=h
  split at h
  .rename_i z hz
   have hr:=R.rel.tm t;rw[show s.gt.t t=_ from hz] at hr;have hc:a.eval (.tmp t)=.bool z:=hr;cases z with
   |true=>exact wp_cond_true hc (BM hE hm I Z4 x hS.1 R h hQ)
   |false=>exact wp_cond_false hc (BM hE hm I Z4 y hS.2 R h hQ)
  .cases h
 |.block id x,hS,s,K,Q,π,a,w,R,h,hQ=>by
  refine wp_block (BM hE hm I Z4 x hS R (show HF P E hs nt X.k lf x s (λe s=>match e with
   |.ex j=>match z9 j id with
    |true=>K .nrm s
    |false=>K (.ex j) s
   |e=>K e s)=some r from h) λe s1 π1 a1 w1 R1 hK=> ?_)
  cases e with
  |nrm=>exact hQ _ _ _ _ _ R1 hK
  |ret=>exact hQ _ _ _ _ _ R1 hK
  |ex j=>
   simp only at hK;show if j=id then Q .normal a1 w1 else Q (.exit j) a1 w1
   split at hK
   .rename_i hj
    rw[if_pos (lE hj)];exact hQ .nrm _ _ _ _ R1 hK
   .rename_i hj
    rw[if_neg (λe=>by subst e;simp at hj)];exact hQ (.ex j) _ _ _ _ R1 hK
 |.loop x,hS,s,K,Q,π,a,w,R,h,hQ=>by
  have h:(match s.head X.k hs x with
   |none=>none
   |some s=>yC s λs=>match aqz hs x with
    |some σ=>match z9 σ.kk X.k with
     |true=>σ.run s K
     |false=>none
    |none=>iter (λt=>t.head X.k hs x) (HF P E hs nt X.k lf x) K lf s)=some r:=h
  simp only[L5] at h;split at h
  .cases h
  .rename_i s1 hs1
   obtain⟨π1,R1⟩:=R.head I hs1
   obtain⟨n,hn⟩:∃n,iter (λt=>t.head X.k hs x) (HF P E hs nt X.k lf x) K n s1=some r:=by
    split at h
    .rename_i σ hσ
     split at h
     .rename_i hk
      exact hS.1 σ hσ (beq_iff.1 hk) s1 K r h
     .cases h
    .exact⟨lf,h⟩
   exact wp_loop_rounds n (aAm (hd:=λt=>t.head X.k hs x) (body:=HF P E hs nt X.k lf x) (λR h hQ=>BM hE hm I Z4 x hS.2 R h hQ) (λR' h'=>R'.head I h') hQ n R1 hn)
 |.exit id,hS,s,K,Q,π,a,w,R,h,hQ=>wp_exit (hQ (.ex id) _ _ _ _ R h)
 |.ret,hS,s,K,Q,π,a,w,R,h,hQ=>by
  have h:(match hs.rk with
   |none=>K .ret s
   |some hd=>match s.acd X.k hd with
    |none=>none
    |some s=>yC s λs=>K .ret s)=some r:=h
  split at h
  .exact wp_ret (hQ .ret _ _ _ _ R h)
  .simp only[L5] at h;split at h
   .cases h
   .rename_i s2 WM
    obtain⟨π2,R2⟩:=R.acd I WM;exact wp_ret (hQ .ret _ _ _ _ R2 h)
 |.cond (.const _) _ _,_,_,_,_,_,_,_,_,h,_=>by cases h
 |.cond (.func _) _ _,_,_,_,_,_,_,_,_,h,_=>by cases h
 |.cond (.global _) _ _,_,_,_,_,_,_,_,_,h,_=>by cases h
 |.goto _,_,_,_,_,_,_,_,_,h,_=>by cases h
 |.label _,_,_,_,_,_,_,_,_,h,_=>by cases h
end
end Go.Ab
namespace Go.Ab
variable [ay]
section
variable {P:Program} {E:Env} {X:Cx} {h0:List aj} {π:Pi} {s s':St} {a:Act} {w:World}
def aS1 (tmps:Array Value):ResultVar->Sem Value
 |.tmp t=>pure (tmps.getD t undef)
 |.cell a t=>do loadVar t (<-asAddr (tmps.getD a undef))
omit [ay] in
theorem aNt (fn:Func)(tmps:Array Value):results fn tmps=(do
  let vs<-fn.results.mapM (aS1 tmps)
  pure (if h:vs.size=1 then vs[0] else .tuple vs)):=by
 unfold results;rfl
theorem aTP (R:iG X h0 π s a w){r:ResultVar}{v:RV}(h:aSP P s r=some v):∃x,(aS1 a.tmps r).run P w=.ok x w/\v.rel π x:=by
 cases r with
 |tmp t=>
  simp only[aSP] at h;split at h
  .rename_i u hu
   cases h;have:=R.rel.tm t;rw[show s.gt.t t=_ from hu] at this;exact⟨_,rfl,this⟩
  .cases h
 |cell q t=>
  simp only[aSP] at h;split at h
  .rename_i b o m hu
   have hp:=R.rel.tm q;rw[show s.gt.t q=_ from hu] at hp;obtain⟨B,s1,q1,e,hb,hx,hm⟩:=hp
   have key:∀v l,aJ (aao P t b o m) s.gt v l->∃x,(aS1 a.tmps (.cell q t)).run P w=.ok x w/\v.rel π x:=λv l hv=>by
    obtain⟨x,hx1,hx2⟩:=aJ.aao R.rel hv hb hm;refine⟨x,?_,hx2⟩;show(do loadVar t (<-asAddr (a.tmps.getD q undef))).run P w=_;rw[hx];simpa[asAddr] using hx1
   split at h
   .rename_i n' bU c h1 h2 h3
    split at h
    .rename_i hle
     simp only[mL] at h;obtain⟨k,hk,rfl⟩:=h;obtain⟨k1,k2⟩:=OM hk;refine key _ (.c b (ext (.k c) (.l 1) n'):: .z b::[]) ?_;unfold Ab.aao;rw[h1,h2];show aJ ((cR (Nat.ble n' m)).bind _) _ _ _;unfold cR;rw[hle];refine aJ.test (aJ.vw _ _ (St.aqF h3) k1 (λhle j hj=> ?_) (.ret _ _));rw[k2 hle j hj];exact(St.aSR h3 (by simp only[cE.val] at hle;omega)).symm
    .cases h
   .rename_i n' bU c h1 h2 h3
    split at h
    .rename_i hle
     split at h
     .rename_i v0 hk
      cases h;obtain⟨k1,k2⟩:=OM hk;refine key _ (.c b (ext (.k c) (.l 1) 1):: .z b::[]) ?_;unfold Ab.aao;rw[h1,h2];show aJ ((cR (Nat.ble 1 m)).bind _) _ _ _;unfold cR;rw[hle];refine aJ.test (aJ.vw _ _ (St.aqF h3) k1 (λhle j hj=> ?_) (.ret _ _));rw[k2 hle j hj];exact(St.aSR h3 (by simp only[cE.val] at hle;omega)).symm
     .cases h
    .cases h
   .cases h
  .cases h
theorem aFu (R:iG X h0 π s a w):∀{l:List ResultVar} {vs:List RV},ayo P s l=some vs->∃xs,(l.mapM (aS1 a.tmps)).run P w=.ok xs w/\bu (RV.rel π) vs xs
 | [],vs,h=>by cases h;exact⟨[],by simp,trivial⟩
 |r::l,vs,h=>by
  simp only[ayo] at h;split at h
  .rename_i v kt h1 h2
   cases h;obtain⟨x,e1,r1⟩:=aTP R h1;obtain⟨xs,e2,r2⟩:=aFu R h2;exact⟨x::xs,by simp[List.mapM_cons,e1,e2],r1,r2⟩
  .cases h
theorem aKV (R:iG X h0 π s a w){fn:Func}{vs:List RV}(h:ayo P s fn.results.toList=some vs):∃x,(results fn a.tmps).run P w=.ok x w/\(one vs).rel π x:=by
 obtain⟨xs,e,r⟩:=aFu R h;have hlen:=r.length;rw[aNt];simp only[Array.mapM_eq_mapM_toList,Sem.run_bind,Sem.run_map,e,Result.andThen_ok,Sem.run_pure];match vs,xs,r with
 | [],[],r=>exact⟨_,rfl,#[],by simp,trivial⟩
 | [v],[x],r=>exact⟨x,by simp,r.1⟩
 |v::v'::vs,x::x'::xs,r=>exact⟨_,by simp,(x::x'::xs).toArray,rfl,r⟩
omit [ay] in
theorem aJk {α:Type}:∀{l:List (Option α)} {m:List α},aEO l=some m->l=m.map some
 | [],m,h=>by cases h;rfl
 |some x::l,m,h=>by
  simp only[aEO,mL] at h;obtain⟨m',h1,rfl⟩:=h;rw[aJk h1];rfl
 |none::l,m,h=>by cases h
omit [ay] in
theorem aJl (d:List Nat):∀(l:List (Option aj)) (j0 j:Nat),(ai1 d l j0)[j]? =(l[j]?).map λb=>match d.any (z9 (j0+j)) with
  |false=>Ch.mB
  |true=>match b with
   |some b=>.set b
   |none=>.kill
 | [],_,_=>by simp[ai1]
 |b::l,j0,0=>by simp[ai1];rfl
 |b::l,j0,j+1=>by
  simp only[ai1,List.getElem?_cons_succ];rw[aJl d l (j0+1) j,show j0+1+j=j0+(j+1) by omega]
omit [ay] in
theorem any_beq {d:List Nat}{j:Nat}:d.any (z9 j)=true↔j∈d:=by
 rw[ab6];constructor
 .rintro ⟨y,hy,he⟩;rw[lE he];exact hy
 .exact λh=>⟨j,h,Fz j⟩
omit [ay] in
theorem aAn (d:List Nat):∀(h:List aj) (l:List (Option aj)) (j0:Nat),l.length=h.length->(∀j b,j0+j∉d->l[j]? =some b->b=h[j]?)->after h (ai1 d l j0)=l
 | [],[],_,_,_=>rfl
 |b::bs,o::l,j0,hl,hk=>by
  have ih:=aAn d bs l (j0+1) (by simpa using hl) λj b h1 h2=>by
   have:=hk (j+1) b (by rwa [show j0+(j+1)=j0+1+j by omega]) (by simpa using h2);simpa using this
  simp only[ai1];cases hd:d.any (z9 j0) with
  |false=>
   have hn:j0∉d:=λh=>by rw[any_beq.2 h] at hd;cases hd
   have:=hk 0 o (by simpa using hn) rfl;simp only[aEy] at this;subst this;simp[after,ih]
  |true=>
   cases o with
   |none=>simp[after,ih]
   |some b'=>simp[after,ih]
abbrev aJm (_:Program)(π:Pi)(w0:World)(h:List aj)(res:pD):Ending->World->Prop:=tY π w0 h res
theorem aQ1 (I:In X h0)(R:iG X h0 π s a w){fn:Func}{e:AX}{res:pD}(h:fin P fn X.k e s=some res):bodyPost P fn (aJm P X.p0 X.w0 h0 res) (a03 e) a w:=by
 have main:(match ayo P s fn.results.toList with
  |none=>none
  |some vs=>
   let x:=gcA X.k (one vs) []
   let y:=gcO X.k s.du X.k (s.heap.take X.k) 0 x.2
   match gcN X.k s.heap 1000 0 y.2 [] with
   |some z=>match aEO z.1 with
    |some news=>some {val:=x.1,yP:=ai1 s.du y.1 0,news}
    |none=>none
   |none=>none)=some res->a.defers=[]/\∃v,(results fn a.tmps).run P w=.ok v w/\aJm P X.p0 X.w0 h0 res (.returned v) w:=by
  intro h;split at h
  .cases h
  rename_i vs hvs
  simp only at h;split at h
  .rename_i z hz
   split at h
   .rename_i news a1Z
    cases h;obtain⟨v,nW,hv⟩:=aKV R hvs;have G:=ayB X.k (one vs) [];have ok0:=G.ok ⟨List.nodup_nil,λ_ h=>by cases h⟩;obtain⟨q1,q2,q3,q4,q5⟩:=aNr I R (cZ _) R.hk ok0 hz;have hz1:=aJk a1Z;obtain⟨o1,o2,o3,o4⟩:=apo X.k s.du X.k (s.heap.take X.k) 0 (gcA X.k (one vs) []).2;generalize hy:gcO X.k s.du X.k (s.heap.take X.k) 0 (gcA X.k (one vs) []).2=y at*
    have hyl:y.1.length=X.k:=by rw[o3];have:=R.hk;simp;omega
    have hhl:=I.k
    have hnl:z.2.length=news.length:=by
     have e1:(y.1++z.1).length=y.1.length+z.1.length:=by simp
     have e2:z.1.length=news.length:=by rw[hz1];simp
     omega
    have aZJ:after h0 (ai1 s.du y.1 0)=y.1:=aAn s.du h0 y.1 0 (by omega) λj b h1 h2=>by
     have hj:j<y.1.length:=(lL.1 h2).1;have h3:=q4 j (by omega) (by omega) (by simpa using h1);rw[UR hj,h2] at h3;have h4:=R.drt j (by omega) (by simpa using h1);rw[<-h4,<-h3];rfl
    have a10:(⟨(gcA X.k (one vs) []).1,ai1 s.du y.1 0,news⟩:pD).heap h0=y.1++z.1:=by
     unfold pD.heap;simp only;rw[aZJ,hz1]
    have aFv:∀B i,Ds X.p0 X.k (·∈s.du) B i->Ds X.p0 h0.length (Tn (ai1 s.du y.1 0)) B i:=by
     rintro B i ⟨b,s1,qq,e1,hb,hd,hp,i1,i2⟩
     refine⟨b,s1,qq,e1,by omega,?_,hp,i1,i2⟩;unfold Tn;rw[aJl,dG,any_beq.2 hd];have:y.1[b]? =some (y.1[b]'(by omega)):=kR _;rw[this];cases y.1[b]'(by omega)<;>simp
    refine⟨R.rel.df,v,nW,Mb π X.k z.2,v,rfl,λb p hp=> ?_,?_,?_,R.rel.fr.mono λB i _ h=>aFv B i h,λb hb=> ?_,λb B s1 qq e1 hb hp hB i i1 i2=> ?_⟩
    .have hb:=I.d b (by rw[hp];simp);unfold Mb;rw[if_pos hb,R.rel.yc b hb];exact hp
    .exact AV.dM q1.ext _ _ (G.rel π v hv)
    .rw[a10];exact q2
    .unfold Mb at hb;split at hb
     .simp only;omega
     .cases hm:z.2[b-X.k]? with
      |none=>rw[hm] at hb;exact absurd rfl hb
      |some b0=>have:=(lL.1 hm).1;simp only;omega
    .have vm:=hp;unfold Mb at vm;rw[if_neg (by omega)] at vm;cases hm:z.2[b-X.k]? with
     |none=>rw[hm] at vm;cases vm
     |some b0=>
      rw[hm] at vm;have nL:=(lL.1 hm).1
      have hzb:hZ (y.1++z.1) b≠none:=by
       unfold hZ;rw[aej (by omega),hyl,hz1,Ca,kR (show b-X.k<news.length by omega)];simp
      rcases q5 b hzb with⟨h1,_⟩| ⟨b1,h1,h2,h3,h4⟩
      .omega
      .rw[hm] at h2;cases h2;exact aFv B i (R.rel.ft b0 B s1 qq e1 h3 h4 vm hB i i1 i2)
   .cases h
  .cases h
 cases e with
 |nrm=>exact main h
 |ret=>exact main h
 |ex id=>cases h
def tOf:Option pD->T
 |some r=>.leaf r
 |none=>.fail
theorem aQ2 (hE:∀f F,E f=some F->Sound P f F)(hm:P.follows .mixedOrders=true){hs:Hs}{lf:Nat}{f:FuncId}(aNu:∀fn c kk,P.funcs[f]? =some fn->fn.body=some c->LR P E hs fn.ntmps kk lf c)(hc:∀args w,(callFunc f args).run P w=.ok (.enter f args) w):Sound P f λargs h=>tOf (den P E hs lf f args h):=by
 intro args h res tZ w π vs lF hH kr;refine .inl ⟨hc _ _,?_⟩
 have tZ:den P E hs lf f args h=some res:=by
  have tZ:(tOf (den P E hs lf f args h)).eval=some res:=tZ;cases hd:den P E hs lf f args h with
  |none=>rw[hd] at tZ;cases tZ
  |some r=>rw[hd] at tZ;exact tZ
 unfold den at tZ;split at tZ
 .cases tZ
 rename_i fn hf
 split at tZ
 .cases tZ
 rename_i c hb
 split at tZ
 case h_1=>cases tZ
 rename_i aQ3
 have aQ3:∀b,b∈hs.du->b<h.length:=λb hb=>uX.1 (ath.1 aQ3 b hb)
 rw[L5] at tZ;have hlen:=lF.length;refine calls_of_wp hf hb ?_;let X:Cx:={w0:=w,k:=h.length,p0:=π,N:=(start fn args h hs.du).tmps.length}
 have I:In X h:=⟨rfl,hH,kr⟩
 have R:iG X h π (start fn args h hs.du) {tmps:=vs++Array.replicate (fn.ntmps-vs.size) undef,defers:=[]} w:=by
  refine⟨⟨λi=> ?_,by simp[X,start];simp at hlen;omega,rfl,hH,λ_ _=>rfl,λb B s q e hk hz hp=> ?_,cq.refl _ _⟩,rfl,λb hb=>by simpa[start] using kr b hb,λb hb _=> ?_,by simp[start,X],λb hb=>aQ3 b hb⟩
  .show(alo (args++List.replicate (fn.ntmps-args.length) udf) i).rel π ((vs++Array.replicate (fn.ntmps-vs.size) undef).getD i undef);rw[AZ];simp only[WC] at hlen;rw[aqA];simp only[List.getD];rcases ni i args.length with hi|hi
   .have e1:args[i]? =some (args[i]'hi):=kR _;obtain⟨x,hx,hr⟩:=lF.get e1;rw[UR hi,e1,Array.getElem?_append_left (by omega),<-WB,hx];exact hr
   .rw[aej hi,Array.getElem?_append_right (by omega),List.getElem?_replicate,Array.getElem?_replicate,hlen];split<;>exact ats π
  .exact absurd (kr b (by rw[hp];simp)) (by simp only[X] at hk;omega)
  .show((h.map some)[b]?).getD none=h[b]?;rw[Ca];cases h[b]? <;>rfl
 exact BM hE hm I (nt:=fn.ntmps) (by simp[X,start];omega) c (aNu fn c h.length hf hb) R tZ λe s π a w R hK=>aQ1 I R hK
structure pD.wk (h:List aj)(r r':pD):Prop where
 val:r.val=r'.val
 news:r.news=r'.news
 yP:∀(j:Nat) (b:aj),(after h r.yP)[j]? =some (some b)->∃b':aj,(after h r'.yP)[j]? =some (some b')/\aj.size b'=aj.size b/\∀i,i<aj.size b->aj.get b i=aj.get b' i
 mB:∀j:Nat,r.yP[j]? =some .mB->r'.yP[j]? =some .mB
omit [ay] in
theorem pD.wk.refl (h:List aj)(r:pD):r.wk h r:=⟨rfl,rfl,λj b hb=>⟨b,hb,rfl,λ_ _=>rfl⟩,λ_ h=>h⟩
theorem Sound.weaken {f:FuncId}{F F0:Fw}(S:Sound P f F0)(hw:∀args h r,(F args h).eval=some r->∃r',(F0 args h).eval=some r'/\r.wk h r'):Sound P f F:=by
 intro args h res tZ w π vs lF hH kr;obtain⟨r',hr',W⟩:=hw args h res tZ
 suffices key:∀e w',tY π w h r' e w'->tY π w h res e w' by
  rcases S args h r' hr' w π vs lF hH kr with⟨S1,S2⟩| ⟨v,S1,S2⟩
  .exact .inl ⟨S1,Calls.mono S2 key⟩
  .exact .inr ⟨v,S1,key _ _ S2⟩
 rintro e w' ⟨π',v,rfl,hx,hv,hH',hF,hd,hi⟩
 have aFv:∀B i,Ds π h.length (Tn r'.yP) B i->Ds π h.length (Tn res.yP) B i:=by
  rintro B i ⟨b,s1,qq,e1,hb,hD,hp,i1,i2⟩
  exact⟨b,s1,qq,e1,hb,λhk=>hD (W.mB b hk),hp,i1,i2⟩
 have src:∀b n,hZ (res.heap h) b=some n->∃k k',(res.heap h)[b]? =some (some k)/\aj.size k=n/\(r'.heap h)[b]? =some (some k')/\aj.size k'=n/\∀i,i<n->aj.get k i=aj.get k' i:=λb n hn=>by
  unfold hZ at hn;cases hg:(res.heap h)[b]? with
  |none=>rw[hg] at hn;cases hn
  |some o=>
   rw[hg] at hn;cases o with
   |none=>cases hn
   |some k=>
    have hkn:aj.size k=n:=by simpa using hn
    rcases ni b h.length with hb|hb
    .rw[D4 hb] at hg;obtain⟨k',h1,h2,h3⟩:=W.yP b k hg;exact⟨k,k',rfl,hkn,by rw[D4 hb];exact h1,by omega,λi hi=>h3 i (by omega)⟩
    .refine⟨k,k,rfl,hkn,?_,hkn,λ_ _=>rfl⟩;unfold pD.heap at hg ⊢;rw[aej (by rw[nj];exact hb),nj] at hg ⊢;rw[<-W.news];exact hg
 refine⟨π',v,rfl,hx,by rw[W.val];exact hv,⟨hH'.am,λb B s1 q1 e1 hz hp BK=> ?_,λb n hn=> ?_,λb b' B s1 q1 e1 s2 q2 e2 mC hz uY=> ?_⟩,hF.mono λB i _ h=>aFv B i h,by rw[W.news];exact hd,λb B s1 qq e1 hb hp hB i i1 i2=>aFv B i (hi b B s1 qq e1 hb hp hB i i1 i2)⟩
 .cases hn:hZ (res.heap h) b with
  |none=>exact absurd hn hz
  |some n=>
   obtain⟨k,k',_,_,h3,_⟩:=src b n hn;exact hH'.lb b B s1 q1 e1 (by rw[aaB h3];simp) hp BK
 .obtain⟨k,k',h1,h2,h3,h4,h5⟩:=src b n hn;have hz:hZ (r'.heap h) b=some n:=by rw[<-h4];exact aaB h3
  obtain⟨B,s1,e1,hp,hle,m1,m2⟩:=hH'.hp b n hz;refine⟨B,s1,e1,hp,hle,m1,λj hj=> ?_⟩;obtain⟨x,hx1,hx2⟩:=m2 j hj;rw[agX h3 (by omega)] at hx2;exact⟨x,hx1,by rw[agX h1 (by omega),h5 j hj];exact hx2⟩
 .have nn:∀b,hZ (res.heap h) b≠none->hZ (r'.heap h) b≠none:=λb hb=>by
   cases hn:hZ (res.heap h) b with
   |none=>exact absurd hn hb
   |some n=>obtain⟨k,k',_,_,h3,_⟩:=src b n hn;rw[aaB h3];simp
  exact hH'.dj b b' B s1 q1 e1 s2 q2 e2 mC (nn b hz) (nn b' uY)
end
end Go.Ab
namespace Go.Ab
variable [ay]
open Go.ChangeShapes Go.WideShapes Go.ChangeAt Go.RowKit
def GQ (P:Program)(f:FuncId):Bool:=match P.funcs[f]? with
 |some fn=> !(fn.name=="runtime.NumGoroutine")&&fn.body.isSome
 |none=>false
omit [ay] in
theorem ID {P:Program}{f:FuncId}(h:GQ P f=true)(args:Array Value)(w:World):(callFunc f args).run P w=.ok (.enter f args) w:=by
 unfold GQ at h;split at h
 .rename_i fn hf
  simp only[cB,pB] at h;cases hb:fn.body with
  |none=>rw[hb] at h;cases h.2
  |some c=>
   have h1:fn.name≠"runtime.NumGoroutine":=by simpa using h.1
   simp[callFunc,hf,h1,hb]
 .cases h
def Fx:List (Nat×Fw)->Env
 | [],_=>none
 |p::l,f=>match z9 p.1 f with
  |true=>some p.2
  |false=>Fx l f
def Kd (P:Program)(l:List (Nat×Fw)):Prop:=∀f F,Fx l f=some F->Sound P f F
theorem Kd.nil (P:Program):Kd P []:=λ_ _ h=>by cases h
theorem Kd.cons {P:Program}{l:List (Nat×Fw)}{f:Nat}{F:Fw}(S:Sound P f F)(h:Kd P l):Kd P ((f,F)::l):=λg G hg=>by
 simp only[Fx] at hg;split at hg
 .rename_i hb
  cases hg;rw[<-lE hb];exact S
 .exact h g G hg
noncomputable def inl (P:Program) (l:List (Nat×Fw)) (hs:Hs) (lf:Nat) (f:FuncId):Fw:=λargs h=>tOf (den P (Fx l) hs lf f args h)
theorem aTQ {P:Program}{l:List (Nat×Fw)}(hl:Kd P l)(hm:P.follows .mixedOrders=true){hs:Hs}{lf:Nat}{f:FuncId}(aNu:∀fn c kk,P.funcs[f]? =some fn->fn.body=some c->LR P (Fx l) hs fn.ntmps kk lf c)(hc:GQ P f=true):Sound P f (inl P l hs lf f):=
 aQ2 hl hm aNu (ID hc)
omit [ay] in
theorem aTR {P:Program}{l:List (Nat×Fw)}{hs:Hs}{lf:Nat}{f:FuncId}{args:List AV}{h:List aj}{r:pD}(hd:den P (Fx l) hs lf f args h=some r):(inl P l hs lf f args h).eval=some r:=by
 unfold inl;rw[hd];rfl
theorem Sound.by {P:Program}{f:FuncId}{F F0:Fw}(S:Sound P f F0)(h:∀args b r,(F args b).eval=some r->(F0 args b).eval=some r):Sound P f F:=
 S.weaken λargs b r hr=>⟨r,h args b r hr,.refl _ _⟩
omit [ay] in
theorem cq.kept {w w':World}(h:cq w (λ_ _=>False) w'):w.keptBut w' (λ_=>False):=by
 refine⟨h.os,h.output,λi hi=> ?_⟩;cases hh:w.heap[i]? with
 |none=>rw[h.obj i hi (by rw[hh];intro c t fz e;cases e),hh]
 |some x=>
  cases x with
  |cells c t fr=>
   obtain⟨c',e1,e2,e3⟩:=h.row i c t fr hh;rw[e1];exact⟨rfl,rfl,e2,λj _=>e3 j (λf=>f)⟩
  |map es clock=>
   rw[h.obj i hi (by rw[hh];intro c t fz e;cases e),hh];exact .inr ⟨rfl,rfl⟩
  |_=>rw[h.obj i hi (by rw[hh];intro c t fz e;cases e),hh]
omit [ay] in
theorem cq.sameAt {w w':World}(h:cq w (λ_ _=>False) w'){p:MemPlace}(hp:p.block<w.heap.size):w.sameAt w' p:=by
 cases p with
 |cell b off=>exact h.cl hp (λf=>f)
 |map b=>
  show w'.heap[b]? =w.heap[b]?;have hp:b<w.heap.size:=hp;cases hh:w.heap[b]? with
  |none=>rw[h.obj b hp (by rw[hh];intro c t fz e;cases e),hh]
  |some x=>
   cases x with
   |cells c t fr=>
    obtain⟨c',e1,e2,e3⟩:=h.row b c t fr hh;rw[e1];have:c'=c:=Array.ext_getElem? λj=>e3 j (λf=>f)
    rw[this]
   |_=>rw[h.obj b hp (by rw[hh];intro c t fz e;cases e),hh]
section
variable {H:Type} {enc:TypeId×Value->H}
omit [ay] in
theorem alI {P:Program}(hl:laidOutB P=true){W W':World}(hf:cq W (λ_ _=>False) W'){sp:Nat->Bool}:∀{ts:List TypeId} {vs:List Value} {ds:List (DataW H)} {ps:List MemPlace},(∀t∈ts,P.readableRec t=true/\t<P.types.size)->
  DataW.TrodAll enc P W 0 (λ_=>true) true ts vs ds ps->(∀p∈ps,p.block<W.heap.size)->(∀p∈ps,sp p.block=true)->DataW.TrodAll enc P W' 0 sp true ts vs ds ps
 | [],vs,ds,ps,_,h,_,_=>by
  obtain⟨rfl,rfl,rfl⟩:=trodAll_nil h;rfl
 |t::ts,vs,ds,ps,ht,h,h1,h2=>by
  obtain⟨v,vs1,d,ds1,a,b,rfl,rfl,rfl,h3,h4⟩:=trodAll_cons h;refine⟨a,b,WideElems.Trod_stays hl (ht t (by simp)).1 (ht t (by simp)).2 h3 (λp hp=>hf.sameAt (h1 p (by simp[hp]))) (λp hp=>h2 p (by simp[hp])),?_,rfl⟩;exact alI hl hf (λt ht'=>ht t (by simp[ht'])) h4 (λp hp=>h1 p (by simp[hp])) (λp hp=>h2 p (by simp[hp]))
omit [ay] in
theorem aTS {C:Checked}{os:Os}{f:FuncId}{fn:Func}{s:ChangeSpec}{conds:List PathCond}{tb:TypeId}
  (own:ownKnob C.prog.godebug=none)(started:os.Started)(aZK:C.prog.inits.idxOf? f=none)(hfn:C.prog.funcs[f]? =some fn)
  (hl:laidOutB C.prog=true)(tZ:fn.resultTypes=#[tb])(htb:C.prog.underlying tb=some .bool)(a04:fn.params.all (λt=>C.prog.readableRec t&&decide (t<C.prog.types.size))=true)(aXZ:s.vars=[])
  (a12:∀(ds:List (DataW H)),ds.length=fn.params.size->s.fn H ds={results:=[.lit (.bool true)],args:=ds})
  (witness:∃(w:World) (tape:Tape) (i:Input),w.os=os/\(w.forCall tape i).Shaped C.prog/\i.vars=[]/\Input.okWide C.prog (w.forCall tape i) .any w.heap.size f i/\
   s.pre6 enc C.prog fn conds false (w.forCall tape i).memory i.args/\({}:Assume).holds C.prog (lone (Frame.enter C.prog f i.args .normal) [] (w.forCall tape i)))
  (aTT:∀(W:World) (base:Nat) (args:Array Value) (ds:List (DataW H)) (ps:List MemPlace),args.size=fn.params.toList.length->
   (∀(j:Nat) t v,fn.params.toList[j]? =some t->args[j]? =some v->Value.okWide C.prog W .any base t v)->
   DataW.TrodAll enc C.prog W 0 (λ_=>true) true fn.params.toList args.toList ds ps->W.noneFrozen ps->(∀p∈ps,p.block<W.heap.size)->
   conds.all (PathCond.test C.prog ⟨fn.params.toList,ds,s.plain.varTypes C.prog,[]⟩)=true->
   Calls C.prog f args W λe W'=>e=.returned (.bool true)/\cq W (λ_ _=>False) W'):
  ReturnsInHanded {} C os f .any (s.pre6 enc C.prog fn conds false) (s.post enc C.prog fn false true false false):=by
 refine returnsInHanded_of_change own started aZK hfn witness ?_;intro W base args ds gs before aFk hW a3B _;have hW':=hW;obtain⟨p,q,hA,hV,hpq,hfz,hnd⟩:=hW;rw[aXZ] at hV;obtain⟨rfl,rfl⟩:=trodVars_none hV;simp only[List.append_nil] at hpq;subst hpq
 have hlen:∀{ts:List TypeId} {vs:List Value} {ds:List (DataW H)} {ps:List MemPlace},DataW.TrodAll enc C.prog W 0 (λ_=>true) true ts vs ds ps->vs.length=ts.length/\ds.length=ts.length:=by
  intro ts;induction ts with
  |nil=>intro vs ds ps h;obtain⟨rfl,rfl,rfl⟩:=trodAll_nil h;exact⟨rfl,rfl⟩
  |cons t ts ih=>intro vs ds ps h;obtain⟨v,vs1,d,ds1,a,b,rfl,rfl,rfl,_,h4⟩:=trodAll_cons h;have:=ih h4;exact⟨by simp[this.1],by simp[this.2]⟩
 obtain⟨l1,l2⟩:=hlen hA;have nL:∀x∈before,x.block<W.heap.size:=λx hx=>hW'.lt x hx
 refine(aTT W base args ds before (by simpa using l1) (λj t v hj hv=>aFk j t v (by rw[<-WB];exact hj) hv) hA hfz nL (by simpa using a3B)).mono λe W' ⟨he,hg⟩=> ?_;subst he;have hs:=a12 ds (by simpa using l2)
 have hr:∀t∈fn.params.toList,C.prog.readableRec t=true/\t<C.prog.types.size:=λt ht=>by
  rw[Array.all_eq_true_iff_forall_mem] at a04;have:=a04 t (by simpa using ht);simpa using this
 refine⟨_,rfl,post_of_same (pa:=before) (pv:=[]) hW' (λb sp hd=> ?_) (λsp hsp=> ?_) (λsp _=> ?_) (by simp) (World.keptBut_mono (λ_ f=>f.elim) hg.kept) hg.fzn (ok_one tZ rfl (okWide_bool_mk htb _))⟩
 .rw[List.append_nil,hs,tZ];exact trodAll_cons_mk (shut_bool htb _) trodAll_mk0
 .rw[List.append_nil,hs];exact alI hl hg hr hA nL hsp
 .rw[List.append_nil,hs,aXZ];rfl
end
end Go.Ab
