/-
  Parts of the proof: AbV AbW AbY AbZ AbNil AbPg Bits VBits Bits4 PK SLA SLB SLC
-/
import Derived.Test.YtldgljclcgaibaaGreatZAD
import Derived.ProofKit
import Derived.OpenShut
import Derived.Deep.Slices
import Derived.Laws.Externs
import Derived.Test.YtldgljclcgaibaaGreatRows
import Derived.Shelf.Spec.SlicesInsertGrow
set_option linter.unusedVariables false
set_option linter.unusedSimpArgs false
namespace Go.Ab
variable [ax]
open Go.ChangeShapes Go.WideShapes Go.ChangeAt Go.RowKit
def Es (P:Program)(f:FuncId):Bool:=match P.funcs[f]? with
 |some fn=> !(fn.name=="runtime.NumGoroutine")&&fn.body.isSome
 |none=>false
omit [ax] in
theorem Gi {P:Program}{f:FuncId}(h:Es P f=true)(args:Array Value)(w:World):(callFunc f args).run P w=.ok (.enter f args) w:=by
 unfold Es at h
 split at h
 ·rename_i fn hf
  simp only[Bool.and_eq_true,Bool.not_eq_true'] at h
  cases hb:fn.body with
  |none=>rw[hb] at h;cases h.2
  |some c=>
   have h1:fn.name≠"runtime.NumGoroutine":=by simpa using h.1
   simp[callFunc,hf,h1,hb]
 ·cases h
def C':List (Nat×C9)->Env
 | [],_=>none
 |p::l,f=>match Nat.beq p.1 f with
  |true=>some p.2
  |false=>C' l f
def HR (P:Program)(l:List (Nat×C9)):Prop:=∀f F,C' l f=some F->Sound P f F
theorem HR.nil (P:Program):HR P []:=λ_ _ h=>by cases h
theorem HR.cons {P:Program}{l:List (Nat×C9)}{f:Nat}{F:C9}(S:Sound P f F)(h:HR P l):HR P ((f,F)::l):=λg G hg=>by
 simp only[C'] at hg
 split at hg
 ·rename_i hb
  cases hg
  rw[<-Nat.eq_of_beq_eq_true hb];exact S
 ·exact h g G hg
noncomputable def inl (P:Program) (l:List (Nat×C9)) (hs:Hs) (lf:Nat) (f:FuncId):C9:=λargs h=>tOf (den P (C' l) hs lf f args h)
theorem aPP {P:Program}{l:List (Nat×C9)}(hl:HR P l)(hm:P.follows .mixedOrders=true){hs:Hs}{lf:Nat}{f:FuncId}(aJG:∀fn c kk,P.funcs[f]? =some fn->fn.body=some c->Jw P (C' l) hs fn.ntmps kk lf c)(hc:Es P f=true):Sound P f (inl P l hs lf f):=
 aNf hl hm aJG (Gi hc)
omit [ax] in
theorem aPQ {P:Program}{l:List (Nat×C9)}{hs:Hs}{lf:Nat}{f:FuncId}{args:List AV}{h:List af}{r:ns}(hd:den P (C' l) hs lf f args h=some r):(inl P l hs lf f args h).eval=some r:=by
 unfold inl;rw[hd];rfl
theorem Sound.by {P:Program}{f:FuncId}{F F0:C9}(S:Sound P f F0)(h:∀args b r,(F args b).eval=some r->(F0 args b).eval=some r):Sound P f F:=
 S.weaken λargs b r hr=>⟨r,h args b r hr,.refl _ _⟩
omit [ax] in
theorem bT.kept {w w':World}(h:bT w (λ_ _=>False) w'):w.keptBut w' (λ_=>False):=by
 refine⟨h.os,h.output,λi hi=> ?_⟩
 cases hh:w.heap[i]? with
 |none=>rw[h.obj i hi (by rw[hh];intro c t fz e;cases e),hh]
 |some x=>
  cases x with
  |cells c t fr=>
   obtain⟨c',e1,e2,e3⟩:=h.row i c t fr hh
   rw[e1]
   exact⟨rfl,rfl,e2,λj _=>e3 j (λf=>f)⟩
  |map es clock=>
   rw[h.obj i hi (by rw[hh];intro c t fz e;cases e),hh]
   exact .inr ⟨rfl,rfl⟩
  |_=>rw[h.obj i hi (by rw[hh];intro c t fz e;cases e),hh]
omit [ax] in
theorem bT.sameAt {w w':World}(h:bT w (λ_ _=>False) w'){p:MemPlace}(hp:p.block<w.heap.size):w.sameAt w' p:=by
 cases p with
 |cell b off=>exact h.cl hp (λf=>f)
 |map b=>
  show w'.heap[b]? =w.heap[b]?
  have hp:b<w.heap.size:=hp
  cases hh:w.heap[b]? with
  |none=>rw[h.obj b hp (by rw[hh];intro c t fz e;cases e),hh]
  |some x=>
   cases x with
   |cells c t fr=>
    obtain⟨c',e1,e2,e3⟩:=h.row b c t fr hh
    rw[e1]
    have:c'=c:=Array.ext_getElem? λj=>e3 j (λf=>f)
    rw[this]
   |_=>rw[h.obj b hp (by rw[hh];intro c t fz e;cases e),hh]
section
variable {H:Type} {enc:TypeId×Value->H}
omit [ax] in
theorem aiD {P:Program}(hl:laidOutB P=true){W W':World}(hf:bT W (λ_ _=>False) W'){sp:Nat->Bool}:∀{ts:List TypeId} {vs:List Value} {ds:List (DataW H)} {ps:List MemPlace},(∀t∈ts,P.readableRec t=true∧t<P.types.size)->
  DataW.TrodAll enc P W 0 (λ_=>true) true ts vs ds ps->(∀p∈ps,p.block<W.heap.size)->(∀p∈ps,sp p.block=true)->DataW.TrodAll enc P W' 0 sp true ts vs ds ps
 | [],vs,ds,ps,_,h,_,_=>by
  obtain⟨rfl,rfl,rfl⟩:=trodAll_nil h
  rfl
 |t::ts,vs,ds,ps,ht,h,h1,h2=>by
  obtain⟨v,vs1,d,ds1,a,b,rfl,rfl,rfl,h3,h4⟩:=trodAll_cons h
  refine⟨a,b,WideElems.Trod_stays hl (ht t (by simp)).1 (ht t (by simp)).2 h3 (λp hp=>hf.sameAt (h1 p (by simp[hp]))) (λp hp=>h2 p (by simp[hp])),?_,rfl⟩
  exact aiD hl hf (λt ht'=>ht t (by simp[ht'])) h4 (λp hp=>h1 p (by simp[hp])) (λp hp=>h2 p (by simp[hp]))
omit [ax] in
theorem aPR {C:Checked}{os:Os}{f:FuncId}{fn:Func}{s:ChangeSpec}{conds:List PathCond}{tb:TypeId}
  (own:ownKnob C.prog.godebug=none)(started:os.Started)(aVe:C.prog.inits.idxOf? f=none)(hfn:C.prog.funcs[f]? =some fn)
  (hl:laidOutB C.prog=true)(qT:fn.resultTypes=#[tb])(htb:C.prog.underlying tb=some .bool)(aWb:fn.params.all (λt=>C.prog.readableRec t&&decide (t<C.prog.types.size))=true)(aTB:s.vars=[])
  (aW8:∀(ds:List (DataW H)),ds.length=fn.params.size->s.fn H ds={results:=[.lit (.bool true)],args:=ds})
  (witness:∃(w:World) (tape:Tape) (i:Input),w.os=os∧(w.forCall tape i).Shaped C.prog∧i.vars=[]∧Input.okWide C.prog (w.forCall tape i) .any w.heap.size f i∧
   s.pre6 enc C.prog fn conds false (w.forCall tape i).memory i.args∧({}:Assume).holds C.prog (lone (Frame.enter C.prog f i.args .normal) [] (w.forCall tape i)))
  (aPS:∀(W:World) (base:Nat) (args:Array Value) (ds:List (DataW H)) (ps:List MemPlace),args.size=fn.params.toList.length->
   (∀(j:Nat) t v,fn.params.toList[j]? =some t->args[j]? =some v->Value.okWide C.prog W .any base t v)->
   DataW.TrodAll enc C.prog W 0 (λ_=>true) true fn.params.toList args.toList ds ps->W.noneFrozen ps->(∀p∈ps,p.block<W.heap.size)->
   conds.all (PathCond.test C.prog ⟨fn.params.toList,ds,s.plain.varTypes C.prog,[]⟩)=true->
   Calls C.prog f args W λe W'=>e=.returned (.bool true)∧bT W (λ_ _=>False) W'):
  ReturnsInHanded {} C os f .any (s.pre6 enc C.prog fn conds false) (s.post enc C.prog fn false true false false):=by
 refine returnsInHanded_of_change own started aVe hfn witness ?_
 intro W base args ds gs before aBv hW aYs _
 have hW':=hW
 obtain⟨p,q,hA,hV,hpq,hfz,hnd⟩:=hW
 rw[aTB] at hV
 obtain⟨rfl,rfl⟩:=trodVars_none hV
 simp only[List.append_nil] at hpq
 subst hpq
 have hlen:∀{ts:List TypeId} {vs:List Value} {ds:List (DataW H)} {ps:List MemPlace},DataW.TrodAll enc C.prog W 0 (λ_=>true) true ts vs ds ps->vs.length=ts.length∧ds.length=ts.length:=by
  intro ts
  induction ts with
  |nil=>intro vs ds ps h;obtain⟨rfl,rfl,rfl⟩:=trodAll_nil h;exact⟨rfl,rfl⟩
  |cons t ts ih=>intro vs ds ps h;obtain⟨v,vs1,d,ds1,a,b,rfl,rfl,rfl,_,h4⟩:=trodAll_cons h;have:=ih h4;exact⟨by simp[this.1],by simp[this.2]⟩
 obtain⟨l1,l2⟩:=hlen hA
 have me:∀x∈before,x.block<W.heap.size:=λx hx=>hW'.lt x hx
 refine(aPS W base args ds before (by simpa using l1) (λj t v hj hv=>aBv j t v (by rw[<-Array.getElem?_toList];exact hj) hv) hA hfz me (by simpa using aYs)).mono λe W' ⟨he,hg⟩=> ?_
 subst he
 have hs:=aW8 ds (by simpa using l2)
 have hr:∀t∈fn.params.toList,C.prog.readableRec t=true∧t<C.prog.types.size:=λt ht=>by
  rw[Array.all_eq_true_iff_forall_mem] at aWb
  have:=aWb t (by simpa using ht)
  simpa using this
 refine⟨_,rfl,post_of_same (pa:=before) (pv:=[]) hW' (λb sp hd=> ?_) (λsp hsp=> ?_) (λsp _=> ?_) (by simp) (World.keptBut_mono (λ_ f=>f.elim) hg.kept) hg.fzn (ok_one qT rfl (okWide_bool_mk htb _))⟩
 ·rw[List.append_nil,hs,qT]
  exact trodAll_cons_mk (shut_bool htb _) trodAll_mk0
 ·rw[List.append_nil,hs]
  exact aiD hl hg hr hA me hsp
 ·rw[List.append_nil,hs,aTB]
  rfl
end
end Go.Ab
namespace Go.Ab
variable [ax]
open Go.ChangeShapes Go.WideShapes Go.Deep
inductive K where
 |b
 |i (k:IntKind)
 |s
 |u
 |q
def K.has:K->FV->Prop
 |.b,.b _=>True
 |.i k,.i k' n=>k'=k∧k.has n
 |.s,.s _=>True
 |.u,.u=>True
 |.q,.q n _=>n<=maxLen
 |_,_=>False
def K.mc:K->Nat->cB->Prop
 |.b,_,.b _=>True
 |.i k,n,.i k' g=>k'=k∧∀j,j<n->k.has (g j)
 |.s,_,.s _=>True
 |.u,_,.u=>True
 |.q,n,.q g _=>∀j,j<n->g j<=maxLen
 |_,_,_=>False
def RJ {α:Type}:Nat->List α->List α
 |0,_=>[]
 |n+1,l=>l++RJ n l
def aiE (P:Program)(g:TypeId->Option (List K)):List Field->List K->Option (List K)
 | [],acc=>some acc
 |f::fs,acc=>match g f.type with
  |some ks=>match Nat.beq f.offset acc.length&&Nat.beq (P.cellsOf f.type) ks.length with
   |true=>aiE P g fs (acc++ks)
   |false=>none
  |none=>none
def JL (P:Program):Nat->TypeId->Option (List K)
 |0,_=>none
 |d+1,t=>match P.underlying t with
  |some .bool=>some [.b]
  |some (.int k)=>some [.i k]
  |some .string=>some [.s]
  |some (.struct fs)=>match aiE P (JL P d) fs.toList [] with
   |some ks=>match Nat.beq (P.cellsOf t) ks.length with
    |true=>some ks
    |false=>none
   |none=>none
  |some (.array n e)=>match JL P d e with
   |some ks=>match Nat.beq (P.cellsOf e) ks.length&&Nat.beq (P.cellsOf t) (n*ks.length) with
    |true=>some (RJ n ks)
    |false=>none
   |none=>none
  |some (.slice e)=>match P.underlying e with
   |some .bool=>match Nat.beq (P.cellsOf e) 1 with
    |true=>some [.q]
    |false=>some [.u]
   |_=>some [.u]
  |_=>none
section
variable {H:Type} {enc:TypeId×Value->H} {P:Program} {W:World} {base:Nat} {spare:Nat->Bool} {held:Bool}
theorem arI {ks ks':List K}{cs P3:List Value}(h:∃fs,bj K.has ks fs∧bj FV.rel fs cs)(h':∃fs,bj K.has ks' fs∧bj FV.rel fs P3):∃fs,bj K.has (ks++ks') fs∧bj FV.rel fs (cs++P3):=by
 obtain⟨fs,a,b⟩:=h
 obtain⟨fs',a',b'⟩:=h'
 exact⟨fs++fs',a.append a',b.append b'⟩
theorem ank {d:Nat}(ih:∀{t:TypeId} {ks:List K} {fuel:Nat} {cs:List Value} {x:DataW H×List MemPlace},JL P d t=some ks->DataW.trod enc P W base spare held fuel t cs=some x->∃fs,bj K.has ks fs∧bj FV.rel fs cs){n:Nat}{cs:List Value}:
  ∀{l:List Field} {acc ks:List K},aiE P (JL P d) l acc=some ks->(∀f∈l,∃y,DataW.trod enc P W base spare held n f.type ((cs.drop f.offset).take (P.cellsOf f.type))=some y)->acc.length<=cs.length->
   (∃fs,bj K.has acc fs∧bj FV.rel fs (cs.take acc.length))->ks.length<=cs.length∧∃fs,bj K.has ks fs∧bj FV.rel fs (cs.take ks.length)
 | [],acc,ks,h,_,hl,ha=>by
  simp only[aiE] at h
  cases h
  exact⟨hl,ha⟩
 |f::l,acc,ks,h,hf,hl,ha=>by
  simp only[aiE] at h
  split at h
  ·rename_i kf hk
   split at h
   ·rename_i hc
    simp only[Bool.and_eq_true] at hc
    have e1:=Nat.eq_of_beq_eq_true hc.1
    have e2:=Nat.eq_of_beq_eq_true hc.2
    obtain⟨y,hy⟩:=hf f (by simp)
    obtain⟨fs,f1,f2⟩:=ih hk hy
    have hlen:kf.length=min (P.cellsOf f.type) (cs.length-f.offset):=by
     have h1:=f1.length
     have h2:=f2.length
     simp at h2
     omega
    have hle:acc.length+kf.length<=cs.length:=by omega
    refine ank ih h (λf' hf'=>hf f' (by simp[hf'])) (by simp;omega) ?_
    have:=arI ha ⟨fs,f1,f2⟩
    rw[List.length_append,List.take_add]
    rw[e1,e2] at this
    exact this
   ·cases h
  ·cases h
omit [ax] in
theorem Sr {α:Type}(l:List α):∀n,(RJ n l).length=n*l.length
 |0=>by simp[RJ]
 |n+1=>by simp[RJ,Sr l n,Nat.succ_mul,Nat.add_comm]
omit [ax] in
theorem afY {α:Type}(l:List α):∀n,RJ (n+1) l=RJ n l++l
 |0=>by simp[RJ]
 |n+1=>by
  have h:=afY l n
  show l++RJ (n+1) l=RJ (n+1) l++l
  rw[h,<-List.append_assoc,<-h]
  rfl
theorem JM (hA:∀B i v,cl W B i=some v->ax.fs B i=some v)(hsp:∀b,spare b=true):∀{d:Nat} {t:TypeId} {ks:List K} {fuel:Nat} {cs:List Value} {x:DataW H×List MemPlace},JL P d t=some ks->DataW.trod enc P W base spare held fuel t cs=some x->∃fs,bj K.has ks fs∧bj FV.rel fs cs
 |0,_,_,_,_,_,h,_=>by cases h
 |d+1,t,ks,fuel,cs,x,h,hx=>by
  simp only[JL] at h
  split at h
  ·rename_i hu
   cases h
   obtain⟨b,rfl,_⟩:=DataW.trod_bool hu hx
   exact⟨[.b b],⟨trivial,trivial⟩,rfl,trivial⟩
  ·rename_i k hu
   cases h
   obtain⟨n,rfl,_,hw⟩:=DataW.trod_int hu hx
   refine⟨[.i k n],⟨⟨rfl,?_⟩,trivial⟩,rfl,trivial⟩
   simp only[Lit.wf,Bool.and_eq_true,decide_eq_true_eq] at hw
   exact hw
  ·rename_i hu
   cases h
   obtain⟨s,rfl,_⟩:=DataW.trod_string hu hx
   exact⟨[.s s],⟨trivial,trivial⟩,rfl,trivial⟩
  ·rename_i fs hu
   split at h
   ·rename_i ks' hks
    split at h
    ·rename_i hc
     cases h
     have hc:=Nat.eq_of_beq_eq_true hc
     obtain⟨xs,n,_,_,hl,_,hf⟩:=DataW.trod_struct hu hx
     obtain⟨_,r⟩:=ank (λh h'=>JM hA hsp h h') hks (n:=n) (cs:=cs) (λf hf'=>by
      obtain⟨i,hi⟩:=List.getElem?_of_mem hf'
      have:=hf i f (by rw[<-Array.getElem?_toList];exact hi)
      have hi':i<xs.length:=by
       have h1:=(List.getElem?_eq_some_iff.1 hi).1
       simp at h1;omega
      rw[List.getElem?_eq_getElem hi'] at this
      exact⟨_,this⟩) (Nat.zero_le _) ⟨[],trivial,by simp;trivial⟩
     rw[<-hc,<-hl,List.take_length] at r
     exact r
    ·cases h
   ·cases h
  ·rename_i n e hu
   split at h
   ·rename_i ks' hks
    split at h
    ·rename_i hc
     cases h
     simp only[Bool.and_eq_true] at hc
     have e1:=Nat.eq_of_beq_eq_true hc.1
     have e2:=Nat.eq_of_beq_eq_true hc.2
     obtain⟨xs,m,_,_,hl,hn,hf⟩:=DataW.trod_array hu hx
     have key:∀j,j<=n->∃fs,bj K.has (RJ j ks') fs∧bj FV.rel fs (cs.take (j*ks'.length)):=by
      intro j
      induction j with
      |zero=>intro _;exact⟨[],trivial,by simp;trivial⟩
      |succ j ihj=>
       intro hj
       have hj':j<xs.length:=by omega
       have:=hf j (by omega)
       rw[List.getElem?_eq_getElem hj'] at this
       rw[afY,Nat.succ_mul,List.take_add]
       have h2:=JM hA hsp hks this
       rw[e1] at h2
       exact arI (ihj (by omega)) h2
     have:=key n (Nat.le_refl _)
     rw[<-e2,<-hl,List.take_length] at this
     exact this
    ·cases h
   ·cases h
  ·rename_i e hu
   have un:∃fs,bj K.has [.u] fs∧bj FV.rel fs cs:=by
    rcases open_slice hu hx with⟨rfl,_⟩| ⟨a',aON,aWc,m,n,D,Pl,rfl,_⟩
    ·exact⟨[.u],⟨trivial,trivial⟩,rfl,trivial⟩
    ·exact⟨[.u],⟨trivial,trivial⟩,rfl,trivial⟩
   split at h
   ·rename_i hb
    split at h
    ·rename_i hc
     cases h
     have hc:=Nat.eq_of_beq_eq_true hc
     rcases open_slice1 hu hc hx with⟨rfl,_⟩| ⟨a',aON,aWc,m,n,V,D,Pl,rfl,_,hle,aWd,hm,_,hi⟩
     ·exact⟨[.q 0 λ_=>false],⟨Nat.zero_le _,trivial⟩,.inl ⟨rfl,none,rfl⟩,trivial⟩
     ·rw[hsp,if_pos rfl] at hm
      subst hm
      obtain⟨B,s,sp⟩:=a'
      refine⟨[.q aON λj=>match V j with|.bool b=>b|_=>false],⟨Nat.le_trans hle aWd,trivial⟩,?_,trivial⟩
      rcases Nat.eq_zero_or_pos m with z|z
      ·subst z
       have:aON=0:=by omega
       subst this
       exact .inl ⟨rfl,_,rfl⟩
      ·have h0:=(hi 0 z).1
       have hs:sp=none:=by
        have e0:Addr.add ⟨B,s,sp⟩ 0=⟨B,s,sp⟩:=rfl
        rw[e0] at h0
        unfold World.cell? at h0
        simp only at h0
        split at h0
        ·cases sp with
         |none=>rfl
         |some q=>simp at h0
        ·cases h0
       subst hs
       refine .inr ⟨B,s,m,hle,rfl,λj hj=> ?_⟩
       obtain⟨h1,h2⟩:=hi j (by omega)
       obtain⟨b,Da,_⟩:=DataW.trod_bool hb h2
       have hV:V j=.bool b:=by simpa using Da
       rw[lI,hV] at h1
       rw[hA B (s+j) (.bool b) h1]
       simp only[hV]
    ·cases h;exact un
   ·cases h;exact un
  ·cases h
theorem aNh {ks:List K}{fs:List FV}{cs:List Value}(h1:bj K.has ks fs)(h2:bj FV.rel fs cs){j:Nat}{k:K}(hk:ks[j]? =some k):∃f v,cs[j]? =some v∧k.has f∧f.rel v:=by
 obtain⟨f,hf,r1⟩:=h1.get hk
 obtain⟨v,hv,r2⟩:=h2.get hf
 exact⟨f,v,hv,r1,r2⟩
def FV.toN:FV->Nat
 |.q n _=>n
 |_=>0
def FV.toG:FV->Nat->Bool
 |.q _ g=>g
 |_=>λ_=>false
def K.mk:K->(Nat->FV)->cB
 |.b,f=>.b λj=>(f j).toB
 |.i k,f=>.i k λj=>(f j).toI
 |.s,f=>.s λj=>(f j).toS
 |.u,_=>.u
 |.q,f=>.q (λj=>(f j).toN) λj=>(f j).toG
omit [ax] in
theorem K.aTC {k:K}{f:Nat->FV}{j:Nat}(h:k.has (f j)):(k.mk f).at j=f j:=by
 cases k<;>simp only[K.mk,cB.at]<;>revert h<;>cases f j<;>intro h<;>first|exact h.elim|rfl|skip
 rw[h.1];rfl
omit [ax] in
theorem K.aG1 {k:K}{f:Nat->FV}{n:Nat}(h:∀j,j<n->k.has (f j)):k.mc n (k.mk f):=by
 cases k<;>simp only[K.mk,K.mc]
 ·refine⟨trivial,λj hj=> ?_⟩
  have:=h j hj
  revert this
  cases f j<;>intro h<;>first|exact h.elim|skip
  exact h.2
 ·intro j hj
  have:=h j hj
  revert this
  cases f j<;>intro h<;>first|exact h.elim|skip
  exact h
inductive PT where
 |c (k:K)
 |a (n:Nat) (ks:List K)
def au5:List PT->List K
 | []=>[]
 |.c k::l=>k::au5 l
 |.a n ks::l=>RJ n ks++au5 l
def K.beq:K->K->Bool
 |.b,.b=>true
 |.i k,.i k'=>decide (k=k')
 |.s,.s=>true
 |.u,.u=>true
 |.q,.q=>true
 |_,_=>false
omit [ax] in
theorem K.beq_eq {x y:K}(h:x.beq y=true):x=y:=by
 cases x<;>cases y<;>simp only[K.beq] at h<;>first|rfl|cases h|skip
 rw[of_decide_eq_true h]
def aOO:List K->List K->Bool
 | [],[]=>true
 |x::l,y::m=>x.beq y&&aOO l m
 |_,_=>false
omit [ax] in
theorem aJH:∀{l m:List K},aOO l m=true->l=m
 | [],[],_=>rfl
 |x::l,y::m,h=>by
  simp only[aOO,Bool.and_eq_true] at h
  rw[K.beq_eq h.1,aJH h.2]
 | [],_::_,h=>by cases h
 |_::_,[],h=>by cases h
def aG2:List Tm->List K->List PT
 | [],_=>[]
 |.c::l,k::ks=>.c k::aG2 l ks
 |.c::_,[]=>[]
 |.a n z::l,ks=>.a n (ks.take z)::aG2 l (ks.drop (n*z))
inductive Prm where
 |flat (agg:Bool) (pt:List PT)
 |sl (ks:List K)
inductive DC where
 |c (f:FV)
 |a (cols:List cB)
inductive Dat where
 |flat (l:List DC)
 |sl (n:Nat) (cols:List cB)
def awN:PT->DC->Prop
 |.c k,.c f=>k.has f
 |.a n ks,.a cols=>bj (λk c=>K.mc k n c) ks cols
 |_,_=>False
def Fit:Prm->Dat->Prop
 |.flat _ pt,.flat l=>bj awN pt l
 |.sl ks,.sl n cols=>n<=maxLen∧bj (λk c=>K.mc k n c) ks cols
 |_,_=>False
def sgs:List PT->List DC->af
 |.c _::pt,.c f::l=>.c (.f f)::sgs pt l
 |.a n _::pt,.a cols::l=>.a (.l n) cols::sgs pt l
 |_,_=>[]
def aTD:Bool->af->AV
 |true,b=>.r (.agg b)
 |false,.c v::_=>.r (.c v)
 |false,_=>.Tv
def aG3:List Prm->List Dat->List AV
 |.flat a pt::ps,.flat l::ds=>aTD a (sgs pt l)::aG3 ps ds
 |.sl ks::ps,.sl n cols::ds=>.r (.c (.fs n ks.length cols))::aG3 ps ds
 |_,_=>[]
def aBH (ps:List Prm)(ds:List Dat):Prop:=bj Fit ps ds
def aJI (P:Program)(t:TypeId):Option Prm:=
 match P.underlying t with
 |some (.slice e)=>match JL P 30 e with
  |some ks=>match Nat.beq (P.cellsOf e) ks.length&&Nat.ble 1 ks.length with
   |true=>some (.sl ks)
   |false=>none
  |none=>none
 |_=>match aa9 P t,JL P 30 t with
  |some true,some ks=>match aOO (au5 (aG2 (ail P 30 t) ks)) ks with
   |true=>some (.flat true (aG2 (ail P 30 t) ks))
   |false=>none
  |some false,some [k]=>some (.flat false [.c k])
  |_,_=>none
def aG4 (P:Program):List TypeId->Option (List Prm)
 | []=>some []
 |t::ts=>match aJI P t,aG4 P ts with
  |some p,some ps=>some (p::ps)
  |_,_=>none
theorem aPT {n:Nat}{ks:List K}{fs:List FV}{cs:List Value}(h1:bj K.has (RJ n ks) fs)(h2:bj FV.rel fs cs):
  ∃cols,bj (λk c=>K.mc k n c) ks cols∧∀j,j<n*ks.length->∃v,cs[j]? =some v∧(gL cols j).rel (λ_=>none) v:=by
 have hl:=h1.length
 rw[Sr] at hl
 have aiv:∀i j k,i<n->ks[j]? =some k->∃f,fs[i*ks.length+j]? =some f∧k.has f:=λi j k hi hj=>by
  have hjl:=(List.getElem?_eq_some_iff.1 hj).1
  have key:∀m i,i<m->(RJ m ks)[i*ks.length+j]? =some k:=by
   intro m
   induction m with
   |zero=>intro i hi;omega
   |succ m ih=>
    intro i hi
    rw[RJ]
    cases i with
    |zero=>rw[Nat.zero_mul,Nat.zero_add,List.getElem?_append_left hjl];exact hj
    |succ i=>
     rw[List.getElem?_append_right (by rw[Nat.succ_mul];omega),show(i+1)*ks.length+j-ks.length=i*ks.length+j by rw[Nat.succ_mul];omega]
     exact ih i (by omega)
  obtain⟨f,hf,hh⟩:=h1.get (key n i hi)
  exact⟨f,hf,hh⟩
 refine⟨ks.zipIdx.map λp=>p.1.mk λi=>fs.getD (i*ks.length+p.2) .u,?_,λj hj=> ?_⟩
 ·refine bj.adu (by simp) λj k c hk hc=> ?_
  simp only[List.getElem?_map,List.getElem?_zipIdx,hk,Option.map_some,Option.some.injEq] at hc
  subst hc
  refine K.aG1 λi hi=> ?_
  obtain⟨f,hf,hh⟩:=aiv i j k hi hk
  simp only[Nat.zero_add,List.getD,hf,Option.getD_some];exact hh
 ·have aA1:0<ks.length:=by
   rcases Nat.eq_zero_or_pos ks.length with h|h
   ·rw[h] at hj;omega
   ·exact h
  have hm:=Nat.mod_lt j aA1
  have hq:j/ks.length<n:=(Nat.div_lt_iff_lt_mul aA1).2 hj
  have hk:ks[j%ks.length]? =some (ks[j%ks.length]'hm):=List.getElem?_eq_getElem _
  obtain⟨f,hf,hh⟩:=aiv (j/ks.length) (j%ks.length) _ hq hk
  have hd:=Sp j ks.length
  rw[hd] at hf
  obtain⟨v,hv,hr⟩:=h2.get hf
  refine⟨v,hv,?_⟩
  unfold gL
  simp only[List.length_map,List.length_zipIdx,List.getElem?_map,List.getElem?_zipIdx,hk,Option.map_some,Nat.zero_add]
  have e:fs.getD (j/ks.length*ks.length+j%ks.length) .u=f:=by rw[hd];simp[List.getD,hf]
  rw[K.aTC (f:=λi=>fs.getD (i*ks.length+j%ks.length) .u) (j:=j/ks.length) (by rw[e];exact hh)]
  show FV.rel _ v
  rw[e];exact hr
omit [ax] in
theorem awO {α β:Type}{R:α->β->Prop}:∀{l l':List α} {m:List β},bj R (l++l') m->bj R l (m.take l.length)∧bj R l' (m.drop l.length)
 | [],l',m,h=>⟨by simp;trivial,by simpa using h⟩
 |a::l,l',[],h=>h.elim
 |a::l,l',b::m,h=>by
  obtain⟨h1,h2⟩:=h
  have:=awO (l:=l) (l':=l') (m:=m) h2
  exact⟨⟨h1,this.1⟩,this.2⟩
theorem aW9 {π π':Pi}{c:CV}{v:Value}(hc:∃x,c=.f x)(h:c.rel π v):c.rel π' v:=by
 obtain⟨x,rfl⟩:=hc;exact h
theorem au6:∀{pt:List PT} {fs:List FV} {cs:List Value},bj K.has (au5 pt) fs->bj FV.rel fs cs->∃l,bj awN pt l∧∀π,bj (CV.rel π) (af.list (sgs pt l)) cs
 | [],[],[],_,_=>⟨[],trivial,λ_=>trivial⟩
 | [],_::_,_,h,_=>h.elim
 | [],[],_::_,_,h=>h.elim
 |.c k::pt,[],_,h,_=>h.elim
 |.c k::pt,f::fs,[],_,h=>h.elim
 |.c k::pt,f::fs,v::cs,h1,h2=>by
  obtain⟨l,a,b⟩:=au6 h1.2 h2.2
  refine⟨.c f::l,⟨h1.1,a⟩,λπ=> ?_⟩
  rw[sgs,aBd]
  exact⟨h2.1,b π⟩
 |.a n ks::pt,fs,cs,h1,h2=>by
  obtain⟨p1,p2⟩:=awO (l:=RJ n ks) (l':=au5 pt) h1
  rw[Sr] at p1 p2
  have h3:=h2.take (n*ks.length)
  have h4:=h2.drop (n*ks.length)
  obtain⟨cols,c1,c2⟩:=aPT p1 h3
  obtain⟨l,a,b⟩:=au6 p2 h4
  have Cd:=c1.length
  have hlen:=h1.length
  rw[au5,List.length_append,Sr] at hlen
  have aZU:=h2.length
  refine⟨.a cols::l,⟨c1,a⟩,λπ=> ?_⟩
  rw[sgs]
  obtain⟨l1,l2⟩:=hM (b π)
  rw[List.length_drop] at l1
  refine vC ?_ λj hj=> ?_
  ·rw[af.size_cons,Sg.jV,Sz.val,<-Cd];omega
  ·rw[af.size_cons] at hj
   have hs:(Sg.a (.l n) cols).size=n*ks.length:=by rw[Sg.jV,Sz.val,<-Cd]
   by_cases jZ:j<n*ks.length
   ·obtain⟨v,hv,hr⟩:=c2 j jZ
    rw[List.getElem?_take,if_pos jZ] at hv
    refine⟨v,hv,?_⟩
    rw[af.de (by rw[hs];exact jZ),Sg.np]
    exact aW9 (aAj cols j) hr
   ·obtain⟨v,hv,hr⟩:=l2 (j-n*ks.length) (by rw[hs] at hj;omega)
    rw[List.getElem?_drop,show n*ks.length+(j-n*ks.length)=j by omega] at hv
    refine⟨v,hv,?_⟩
    rw[af.jx (by rw[hs];omega),hs];exact hr
theorem aJJ (hA:∀B i v,cl W B i=some v->ax.fs B i=some v){t e:TypeId}{ks:List K}(hu:P.underlying t=some (.slice e))(hk:JL P 30 e=some ks)(hc:P.cellsOf e=ks.length)(h1k:1<=ks.length){v:Value}{d:DataW H}{ps:List MemPlace}
  (h:DataW.Trod enc P W 0 (λ_=>true) true t v d ps)(hv:Value.okWide P W .any base t v):
  ∃n cols,Fit (.sl ks) (.sl n cols)∧∀π:Pi,(AV.r (.c (.fs n ks.length cols))).rel π v:=by
 obtain⟨fuel,h⟩:=h
 obtain⟨a,len,cap,rfl⟩:=okWide_slice hu hv
 have zero:∃cols,bj (λk c=>K.mc k 0 c) ks cols:=⟨ks.map λk=>k.mk λ_=>.u,bj.adu (by simp) λi k c hk hc=>by
  simp only[List.getElem?_map,hk,Option.map_some,Option.some.injEq] at hc
  subst hc
  exact K.aG1 λj hj=>by omega⟩
 rcases open_slice hu h with⟨h0,_⟩| ⟨a',aON,aWc,m,n,D,Pl,h0,_,hle,aWd,hm,hx,hi⟩
 ·simp[Value.cells] at h0
  obtain⟨rfl,rfl,rfl⟩:=h0
  obtain⟨cols,aTE⟩:=zero
  exact⟨0,cols,⟨Nat.zero_le _,aTE⟩,λπ=>⟨aTE.length.symm,.inl ⟨rfl,none,rfl⟩⟩⟩
 ·simp[Value.cells] at h0
  obtain⟨rfl,rfl,rfl⟩:=h0
  have aTF:a'.spot=none:=by
   have hv:Cell.okWide P W .any base t (.slice (some a') len cap):=by
    unfold Value.okWide at hv;rw[hu] at hv;exact hv
   have hv:Cell.ok P W .any base t (.slice (some a') len cap):=by
    unfold Cell.okWide at hv;rw[hu] at hv;exact hv
   unfold Cell.ok at hv
   rw[hu] at hv
   exact hv.2.2.2.1
  obtain⟨B,s,sp⟩:=a'
  simp only at aTF
  subst aTF
  simp only[if_true] at hm
  subst hm
  have hw:ks.length=P.cellsOf e:=hc.symm
  have cell:∀i j k,i<len->ks[j]? =some k->∃f v,cl W B (s+(i*ks.length+j))=some v∧k.has f∧f.rel v:=λi j k hil hj=>by
   obtain⟨P3,h1,h2⟩:=hi i (by omega)
   obtain⟨fs,f1,f2⟩:=JM hA (λ_=>rfl) hk h2
   obtain⟨f,v,e1,e2,e3⟩:=aNh f1 f2 hj
   obtain⟨_,_,h3⟩:=World.cells?_some h1
   have hjl:=(List.getElem?_eq_some_iff.1 hj).1
   have:=h3 j (by omega)
   rw[lI,lI,e1] at this
   exact⟨f,v,by unfold cl;rw[hw,<-Nat.add_assoc];exact this,e2,e3⟩
  have hdiv:∀j,j<len*ks.length->j/ks.length<len∧j%ks.length<ks.length∧j/ks.length*ks.length+j%ks.length=j:=λj hj=>by
   refine⟨(Nat.div_lt_iff_lt_mul (by omega)).2 hj,Nat.mod_lt _ (by omega),Sp _ _⟩
  have pick:∀j,∃f,j<len*ks.length->∃v k,cl W B (s+j)=some v∧ks[j%ks.length]? =some k∧k.has f∧f.rel v:=λj=>by
   rcases Nat.lt_or_ge j (len*ks.length) with hj|hj
   ·obtain⟨d1,d2,d3⟩:=hdiv j hj
    have hkj:ks[j%ks.length]? =some (ks[j%ks.length]'d2):=List.getElem?_eq_getElem _
    obtain⟨f,v,e1,e2,e3⟩:=cell _ _ _ d1 hkj
    rw[d3] at e1
    exact⟨f,λ_=>⟨v,_,e1,hkj,e2,e3⟩⟩
   ·exact⟨.u,λh=>by omega⟩
  obtain⟨g,hg⟩:=Classical.axiomOfChoice pick
  have hgk:∀(i j:Nat) (k:K),i<len->ks[j]? =some k->k.has (g (i*ks.length+j)):=λi j k hil hj=>by
   have hjl:=(List.getElem?_eq_some_iff.1 hj).1
   have me:i*ks.length+j<len*ks.length:=by
    have:=Nat.mul_le_mul_right ks.length (show i+1<=len from hil)
    rw[Nat.succ_mul] at this;omega
   obtain⟨v,k',_,h2,h3,_⟩:=hg _ me
   rw[Nat.mul_comm,Nat.mul_add_mod,Nat.mod_eq_of_lt hjl,hj] at h2
   cases h2
   exact h3
  refine⟨len,ks.zipIdx.map λp=>p.1.mk λi=>g (i*ks.length+p.2),⟨by omega,bj.adu (by simp) λj k c Jl hc'=> ?_⟩,λπ=>⟨by simp,.inr ⟨B,s,m,hle,rfl,λj hj=> ?_⟩⟩⟩
  ·simp only[List.getElem?_map,List.getElem?_zipIdx,Jl,Option.map_some,Option.some.injEq] at hc'
   subst hc'
   exact K.aG1 λi hi=>by simpa using hgk i j k hi Jl
  ·obtain⟨d1,d2,d3⟩:=hdiv j hj
   obtain⟨v,k',h1,Jl,hh,h2⟩:=hg j hj
   refine⟨g j,v,?_,hA _ _ _ h1,h2⟩
   unfold gL
   simp only[List.length_map,List.length_zipIdx,List.getElem?_map,List.getElem?_zipIdx,Jl,Option.map_some,Nat.zero_add]
   rw[K.aTC (f:=λi=>g (i*ks.length+j%ks.length)) (j:=j/ks.length) (by rw[d3];exact hh)]
   show CV.f (g (j/ks.length*ks.length+j%ks.length))=_
   rw[d3]
theorem aNi (hA:∀B i v,cl W B i=some v->ax.fs B i=some v){t:TypeId}{ag:Bool}{pt:List PT}(hns:∀e,P.underlying t≠some (.slice e))(hp:aJI P t=some (.flat ag pt)){v:Value}{d:DataW H}{ps:List MemPlace}
  (h:DataW.Trod enc P W 0 (λ_=>true) true t v d ps)(hv:Value.okWide P W .any base t v):∃l,Fit (.flat ag pt) (.flat l)∧∀π,(aTD ag (sgs pt l)).rel π v:=by
 obtain⟨fuel,h⟩:=h
 unfold aJI at hp
 split at hp
 ·rename_i e hu;exact absurd hu (hns e)
 ·split at hp
  ·rename_i ks ha hk
   split at hp
   ·rename_i heq
    cases hp
    have heq:=aJH heq
    obtain⟨fs,f1,f2⟩:=JM hA (λ_=>rfl) hk h
    rw[<-heq] at f1
    obtain⟨l,l1,l2⟩:=au6 f1 f2
    have aOJ:∃cs,v=.agg cs:=by
     unfold Value.okWide at hv
     unfold aa9 at ha
     split at ha
     ·rename_i hu;rw[hu] at hv;obtain⟨cs,h,_⟩:=hv;exact⟨cs,h⟩
     ·rename_i hu;rw[hu] at hv;obtain⟨cs,h,_⟩:=hv;exact⟨cs,h⟩
     ·cases ha
     ·cases ha
    obtain⟨cs,rfl⟩:=aOJ
    exact⟨l,l1,λπ=>⟨cs,rfl,l2 π⟩⟩
   ·cases hp
  ·rename_i k ha hk
   cases hp
   obtain⟨fs,f1,f2⟩:=JM hA (λ_=>rfl) hk h
   have aJt:v.cells.toList=[v]∨∃cs,v=.agg cs:=by
    cases v<;>first|exact .inl rfl|exact .inr ⟨_,rfl⟩
   have aJt:v.cells.toList=[v]:=by
    rcases aJt with h| ⟨cs,rfl⟩
    ·exact h
    ·exfalso
     have hc:Cell.okWide P W .any base t (.agg cs):=by
      unfold Value.okWide at hv
      unfold aa9 at ha
      split at ha<;>first|(cases ha;done)|skip
      rename_i u hu1 hu2 hu
      rw[hu] at hv
      split at hv
      ·rename_i hh;cases hh;exact absurd rfl (hu1 _)
      ·rename_i hh;cases hh;exact absurd rfl (hu2 _ _)
      ·exact hv
     unfold Cell.okWide at hc
     revert hc
     have hkk:P.underlying t=some .bool∨(∃k,P.underlying t=some (.int k))∨P.underlying t=some .string:=by
      unfold aa9 at ha
      unfold JL at hk
      split at hk
      ·rename_i hu;exact .inl hu
      ·rename_i k hu;exact .inr (.inl ⟨k,hu⟩)
      ·rename_i hu;exact .inr (.inr hu)
      ·rename_i hu;rw[hu] at ha;cases ha
      ·rename_i hu;rw[hu] at ha;cases ha
      ·rename_i hu;exact absurd hu (hns _)
      ·cases hk
     rcases hkk with hu| ⟨k,hu⟩|hu<;>rw[hu]<;>intro hc<;>simp only[Cell.ok,hu] at hc
   rw[aJt] at f2
   match fs,f1,f2 with
   | [f],⟨f1,_⟩,⟨f2,_⟩=>exact⟨[.c f],⟨f1,trivial⟩,λπ=>f2⟩
  ·cases hp
theorem aBI (hA:∀B i v,cl W B i=some v->ax.fs B i=some v):∀{ts:List TypeId} {pr:List Prm} {vs:List Value} {dd:List (DataW H)} {ps:List MemPlace},aG4 P ts=some pr->(∀(j:Nat) t v,ts[j]? =some t->vs[j]? =some v->Value.okWide P W .any base t v)->
  DataW.TrodAll enc P W 0 (λ_=>true) true ts vs dd ps->∃ds,aBH pr ds∧∀π,bj (AV.rel π) (aG3 pr ds) vs
 | [],pr,vs,dd,ps,hp,_,h=>by
  cases hp
  obtain⟨rfl,rfl,rfl⟩:=trodAll_nil h
  exact⟨[],trivial,λ_=>trivial⟩
 |t::ts,pr,vs,dd,ps,hp,hv,h=>by
  obtain⟨v,vs1,d,ds1,p1,p2,rfl,rfl,rfl,h3,h4⟩:=trodAll_cons h
  simp only[aG4] at hp
  split at hp
  ·rename_i p pr' Fz hp2
   cases hp
   have hv0:=hv 0 t v rfl rfl
   obtain⟨ds,f1,g1⟩:=aBI hA hp2 (λj t v hj hv'=>hv (j+1) t v (by simpa using hj) (by simpa using hv')) h4
   cases p with
   |flat ag pt=>
    have hns:∀e,P.underlying t≠some (.slice e):=λe hu=>by
     unfold aJI at Fz
     rw[hu] at Fz
     simp only at Fz
     split at Fz
     ·split at Fz<;>cases Fz
     ·cases Fz
    obtain⟨l,l1,l2⟩:=aNi hA hns Fz h3 hv0
    exact⟨.flat l::ds,⟨l1,f1⟩,λπ=>⟨l2 π,g1 π⟩⟩
   |sl ks=>
    obtain⟨e,hu,hk,hc,h1k⟩:∃e,P.underlying t=some (.slice e)∧JL P 30 e=some ks∧P.cellsOf e=ks.length∧1<=ks.length:=by
     unfold aJI at Fz
     split at Fz
     ·rename_i e hu
      split at Fz
      ·rename_i ks' hk
       split at Fz
       ·rename_i hc
        cases Fz
        simp only[Bool.and_eq_true,beq_iff,eF] at hc
        exact⟨e,hu,hk,hc.1,hc.2⟩
       ·cases Fz
      ·cases Fz
     ·split at Fz
      ·split at Fz<;>cases Fz
      ·cases Fz
      ·cases Fz
    obtain⟨n,cols,q1,q2⟩:=aJJ hA hu hk hc h1k h3 hv0
    exact⟨.sl n cols::ds,⟨q1,f1⟩,λπ=>⟨q2 π,g1 π⟩⟩
  ·cases hp
def aTG (F:C9)(ps:List Prm):Prop:=∀ds,aBH ps ds->∃news,(F (aG3 ps ds) []).eval=some ⟨.r (.c (.f (.b true))),[],news⟩
abbrev aNj (W:World):ax:=⟨W.heap.size,λB i=>cl W B i⟩
omit [ax] in
theorem aPU (W:World): @yo (aNj W) W:=by
 letI:=aNj W
 refine⟨Nat.le_refl _,λB i hB=> ?_,λB i v h=>⟨Y7 (by rw[show cl W B i=some v from h];rfl),h⟩⟩
 have hB:W.heap.size<=B:=hB
 simp only[fz,World.frozen?,Array.getElem?_eq_none hB]
end
section
variable {H:Type} {enc:TypeId×Value->H} {P:Program} {W:World} {base:Nat}
omit [ax] in
theorem aNk {f:FuncId}{F:C9}(S:∀[ax],Sound P f F)(hc:Es P f=true){ts:List TypeId}{pr:List Prm}(hp:aG4 P ts=some pr)(hF:aTG F pr){args:Array Value}{dd:List (DataW H)}{ps:List MemPlace}
  (aBv:∀(j:Nat) t v,ts[j]? =some t->args[j]? =some v->Value.okWide P W .any base t v)(ht:DataW.TrodAll enc P W 0 (λ_=>true) true ts args.toList dd ps):
  Calls P f args W λe W'=>e=.returned (.bool true)∧bT W (λ_ _=>False) W':=by
 letI:=aNj W
 obtain⟨ds,f1,g1⟩:=aBI (λB i v h=>h) hp (λj t v hj hv=>aBv j t v hj (by simpa using hv)) ht
 obtain⟨news,hr⟩:=hF ds f1
 have hH:pZ (λ_=>none) (hC (([]:List af).map some)) (hZ (([]:List af).map some)) W:=
  ⟨aPU W,λb B s q e hz=>by simp[hZ] at hz,λb n hn=>by simp[hZ] at hn,λb b' B s q e s' q' e' _ hz=>by simp[hZ] at hz⟩
 have hS:=S _ _ _ hr W (λ_=>none) args (g1 _) hH (λb hb=>absurd rfl hb)
 have hS:Calls P f args W (qS (λ_=>none) W [] ⟨.r (.c (.f (.b true))),[],news⟩):=by
  rcases hS with h| ⟨v,h,_⟩
  ·exact h.2
  ·rw[Gi hc] at h;cases h
 refine Calls.mono hS ?_
 rintro e w' ⟨π',v,rfl,_,hv,_,hF',_,_⟩
 refine⟨congrArg Ending.returned hv,hF'.mono λB i _ h=> ?_⟩
 obtain⟨b,s,q,e,hb,_⟩:=h
 cases hb
end
end Go.Ab
namespace Go.Ab
variable [ax]
def awP:Array Value->Sem Value:=λargs=>do
 let(x,y,b)<-Extern.MathBitsCarry.three "Sub64" args
 pure (Extern.MathBitsCarry.pair ((x+Extern.MathBitsCarry.m64-y-b)%Extern.MathBitsCarry.m64) (if x<y+b then 1 else 0))
abbrev aFt (n:Int):RV:=.c (.f (.i .u64 n))
omit [ax] in
theorem aJK {P:Program}(x y c:Int)(h:c.toNat<=1)(w:World):(add64Entry #[.int .u64 x,.int .u64 y,.int .u64 c]).run P w=
  .ok (.tuple #[.int .u64 (Int.ofNat ((x.toNat+y.toNat+c.toNat)%18446744073709551616)),.int .u64 (Int.ofNat ((x.toNat+y.toNat+c.toNat)/18446744073709551616))]) w:=by
 match c,h with
 |.ofNat 0,_=>rfl
 |.ofNat 1,_=>rfl
 |.negSucc n,_=>rfl
 |.ofNat (n+2),h=>exact absurd h (by simp;omega)
omit [ax] in
theorem aJL {P:Program}(x y c:Int)(h:c.toNat<=1)(w:World):(awP #[.int .u64 x,.int .u64 y,.int .u64 c]).run P w=
  .ok (.tuple #[.int .u64 (Int.ofNat ((x.toNat+18446744073709551616-y.toNat-c.toNat)%18446744073709551616)),.int .u64 (Int.ofNat (if x.toNat<y.toNat+c.toNat then 1 else 0))]) w:=by
 match c,h with
 |.ofNat 0,_=>rfl
 |.ofNat 1,_=>rfl
 |.negSucc n,_=>rfl
 |.ofNat (n+2),h=>exact absurd h (by simp;omega)
theorem awQ {P:Program}{f:FuncId}{fn:Func}{e:Array Value->Sem Value}{A B:Int->Int->Int->Int}(hf:P.funcs[f]? =some fn)(aBJ:(fn.name=="runtime.NumGoroutine")=false)
  (hb:fn.body.isNone=true)(hn:Extern.findNext fn=none)(he:Extern.find fn=some e)
  (mz:∀(x y c:Int) (w:World),c.toNat<=1->(e #[.int .u64 x,.int .u64 y,.int .u64 c]).run P w=.ok (.tuple #[.int .u64 (A x y c),.int .u64 (B x y c)]) w):
  Sound P f λ
   | [.r (.c (.f (.i .u64 x))),.r (.c (.f (.i .u64 y))),.r (.c (.f (.i .u64 c)))],[]=>.test (Nat.ble c.toNat 1) (.leaf ⟨.tup [aFt (A x y c),aFt (B x y c)],[],[]⟩) .fail
   |_,_=>.fail:=by
 intro args h res qT w π vs jR hH iW
 simp only at qT
 split at qT
 ·rename_i x y c
  simp only[T.eval] at qT
  split at qT
  ·rename_i hc
   cases qT
   right
   obtain⟨l⟩:=vs
   match l,jR with
   | [v1,v2,v3],⟨h1,h2,h3,_⟩=>
    have h1:v1=.int .u64 x:=h1
    have h2:v2=.int .u64 y:=h2
    have h3:v3=.int .u64 c:=h3
    subst h1 h2 h3
    refine⟨_,by rw[run_callFunc_extern hf aBJ hb hn he,mz x y c w (Nat.le_of_ble_eq_true hc)];rfl,π,_,rfl,Ext.refl π,⟨#[_,_],rfl,rfl,rfl,trivial⟩,hH,bT.refl _ _,iW,λb B s q e hb hp=> ?_⟩
    exact absurd (iW b (by rw[hp];simp)) (by omega)
  ·cases qT
 ·cases qT
abbrev aTH (x y c:Int):Int:=Int.ofNat ((x.toNat+y.toNat+c.toNat)%18446744073709551616)
abbrev aTI (x y c:Int):Int:=Int.ofNat ((x.toNat+y.toNat+c.toNat)/18446744073709551616)
abbrev aTJ (x y c:Int):Int:=Int.ofNat ((x.toNat+18446744073709551616-y.toNat-c.toNat)%18446744073709551616)
abbrev aTK (x y c:Int):Int:=Int.ofNat (if x.toNat<y.toNat+c.toNat then 1 else 0)
def aAm (A B:Int->Int->Int->Int):C9
 | [.r (.c (.f (.i .u64 x))),.r (.c (.f (.i .u64 y))),.r (.c (.f (.i .u64 c)))],[]=>.test (Nat.ble c.toNat 1) (.leaf ⟨.tup [aFt (A x y c),aFt (B x y c)],[],[]⟩) .fail
 |_,_=>.fail
theorem aG5 {P:Program}{f:FuncId}{fn:Func}(hf:P.funcs[f]? =some fn)(aBJ:(fn.name=="runtime.NumGoroutine")=false)
  (hb:fn.body.isNone=true)(hn:Extern.findNext fn=none)(he:Extern.find fn=some add64Entry):Sound P f (aAm aTH aTI):=
 awQ hf aBJ hb hn he λx y c w h=>aJK x y c h w
theorem aG6 {P:Program}{f:FuncId}{fn:Func}(hf:P.funcs[f]? =some fn)(aBJ:(fn.name=="runtime.NumGoroutine")=false)
  (hb:fn.body.isNone=true)(hn:Extern.findNext fn=none)(he:Extern.find fn=some awP):Sound P f (aAm aTJ aTK):=
 awQ hf aBJ hb hn he λx y c w h=>aJL x y c h w
end Go.Ab
namespace Go.Ab
theorem aPV {D:Type}(x:Option D)(g:D->ns):(T.opt x λd=>.leaf (g d)).eval=x.map g:=by cases x<;>rfl
abbrev C3:=Int->Int->Int->Option (Int×Int)
def abg (f:C3):C9:=λargs h=>match args,h with
 | [.r (.c (.f (.i .u64 x))),.r (.c (.f (.i .u64 y))),.r (.c (.f (.i .u64 c)))],[]=>.opt (f x y c) λd=>.leaf ⟨.tup [aFt d.1,aFt d.2],[],[]⟩
 |_,_=>.fail
def Bh:C3:=λx y c=>cond (Nat.ble c.toNat 1) (some (aTH x y c,aTI x y c)) none
def abh:C3:=λx y c=>cond (Nat.ble c.toNat 1) (some (aTJ x y c,aTK x y c)) none
theorem aFu [ax]{P:Program}{f:FuncId}{A B:Int->Int->Int->Int}(S:Sound P f (aAm A B)):Sound P f (abg λx y c=>cond (Nat.ble c.toNat 1) (some (A x y c,B x y c)) none):=
 S.weaken λargs h r hr=>by
  unfold abg at hr
  split at hr
  ·rename_i x y c
   rw[aPV] at hr
   simp only at hr
   refine⟨r,?_,.refl _ _⟩
   unfold aAm
   simp only[T.eval]
   cases hc:Nat.ble c.toNat 1<;>rw[hc] at hr<;>first|(cases hr;done)|exact hr
  ·cases hr
theorem apT {D:Type}(x:Option D)(g:D->T):(T.opt x g).eval=x.bind λd=>(g d).eval:=by cases x<;>rfl
theorem aPW {α β:Type}(q:α->Option β)(b:Bool)(x y:Option α):(cond b x y).bind q=cond b (x.bind q) (y.bind q):=by cases b<;>rfl
def T.sum {A B:Type}(x:A⊕B)(f:A->T)(g:B->T):T:=.test x.isLeft (.opt x.getLeft? f) (.opt x.getRight? g)
theorem aBK {b:Bool}{a:T}{r:ns}(h:(T.test b a .fail).eval=some r):b=true∧a.eval=some r:=by cases b<;>first|(cases h;done)|exact⟨rfl,h⟩
theorem awR {D X ρ σ:Type}{s1:D->(D->Option ρ)->(X->Option ρ)->Option ρ}{s2:D->(D->Option σ)->(X->Option σ)->Option σ}(q:ρ->Option σ)
  (h:∀d c x,(s1 d c x).bind q=s2 d (λd=>(c d).bind q) (λe=>(x e).bind q))(k:X->Option ρ):∀(n:Nat) (d:D),(P9 s1 n d k).bind q=P9 s2 n d λe=>(k e).bind q
 |0,_=>rfl
 |n+1,d=>by
  show(s1 d (λd=>P9 s1 n d k) k).bind q=s2 d (λd=>P9 s2 n d λe=>(k e).bind q) λe=>(k e).bind q
  rw[h]
  congr 1
  funext d'
  exact awR q h k n d'
theorem awS {hd:St->Option St}{ρ:Type}{body:St->(AX->St->Option ρ)->Option ρ}{K:AX->St->Option ρ}{D X:Type}{emb:D->St}{step:D->(D->Option ρ)->(X->Option ρ)->Option ρ}{kx:X->Option ρ}
  (h:∀(d:D) (c:St->Option ρ),body (emb d) (next hd c K)=step d (λd=>c (emb d)) kx):∀(n:Nat) (d:D),iter hd body K n (emb d)=P9 step n d kx
 |0,_=>rfl
 |n+1,d=>by
  have e:iter hd body K (n+1) (emb d)=body (emb d) (next hd (iter hd body K n) K):=rfl
  rw[e,h]
  have e2:P9 step (n+1) d kx=step d (λd=>P9 step n d kx) kx:=rfl
  rw[e2]
  congr 1
  funext d'
  exact awS h n d'
theorem L9.of [ax]{P:Program}{E:Env}{hs:Hs}{nt lf id k0:Nat}{a:Code}{run:∀{ρ:Type},St->(AX->St->Option ρ)->Option ρ}(h0:ana hs a=some ⟨id,k0,run⟩)
  (h:∀{ρ:Type} (s:St) (K:AX->St->Option ρ) (r:ρ),run s K=some r->∃n,iter (λt=>t.head k0 hs a) (E' P E hs nt k0 lf a) K n s=some r):∀kk,L9 P E hs nt kk lf a:=by
 intro kk σ hσ hk ρ s K r hr
 rw[h0] at hσ
 cases hσ
 cases hk
 exact h s K r hr
theorem L9.no [ax]{P:Program}{E:Env}{hs:Hs}{nt lf:Nat}{a:Code}(h0:ana hs a=none):∀kk,L9 P E hs nt kk lf a:=by
 intro kk σ hσ;rw[h0] at hσ;cases hσ
theorem zp.imp {α:Type}{p q:α->Prop}(h:∀a,p a->q a):∀{l:List α},zp p l->zp q l
 | [],_=>trivial
 |_::_,hl=>⟨h _ hl.1,zp.imp h hl.2⟩
theorem arf.of [ax]{P:Program}{E:Env}{hs:Hs}{nt lf id k0:Nat}{hd:Hd}{b:Code}{run:∀{ρ:Type},St->(AX->St->Option ρ)->Option ρ}(h0:awv hs b=some ⟨hd,⟨id,k0,run⟩⟩)
  (h:∀{ρ:Type} (s:St) (K:AX->St->Option ρ) (r:ρ),run s K=some r->E' P E hs nt k0 lf b s K=some r):∀kk,arf P E hs nt kk lf b:=by
 intro kk j hj hk ρ s K r hr
 rw[h0] at hj
 cases hj
 cases hk
 exact h s K r hr
theorem Jw.by [ax]{P:Program}{E:Env}{hs:Hs}{f:FuncId}{lf:Nat}{l lj:List Code}(hl:Ju (Xr P f)=l)(h:zp (λa=>∀kk,L9 P E hs (tmpsOf P f) kk lf a) l)
  (hlj:Jv hs (Xr P f)=lj)(hj:zp (λb=>∀kk,arf P E hs (tmpsOf P f) kk lf b) lj):
  ∀(fn:Func) (c:Code) (kk:Nat),P.funcs[f]? =some fn->fn.body=some c->Jw P E hs fn.ntmps kk lf c:=by
 intro fn c kk hf hb
 have e1:Xr P f=c:=by unfold Xr;rw[hf];simp[hb]
 have e2:tmpsOf P f=fn.ntmps:=by unfold tmpsOf;rw[hf];rfl
 rw[e1] at hl hlj
 rw[<-e2]
 refine Jw.of ?_ ?_
 ·rw[hl]
  exact h.imp λa ha=>ha kk
 ·rw[hlj]
  exact hj.imp λa ha=>ha kk
structure im (α β:Type) where
 rd:α->Option β
 em:β->α
 ok:∀a b,rd a=some b->a=em b
namespace im
def hole {α:Type}:im α α:=⟨some,id,λa b h=>by cases h;rfl⟩
def nat (n:Nat):im Nat Unit:=⟨λm=>cond (Nat.beq m n) (some ()) none,λ_=>n,λa b h=>by
 cases hb:Nat.beq a n<;>rw[hb] at h<;>first|(cases h;done)|exact Nat.eq_of_beq_eq_true hb⟩
def int (n:Int):im Int Unit:=⟨λm=>cond (decide (m=n)) (some ()) none,λ_=>n,λa b h=>by
 cases hb:decide (a=n)<;>rw[hb] at h<;>first|(cases h;done)|exact of_decide_eq_true hb⟩
def bool (n:Bool):im Bool Unit:=⟨λm=>cond (m==n) (some ()) none,λ_=>n,λa b h=>by
 cases a<;>cases n<;>first|rfl|cases h⟩
def via {α α' β:Type}(f:α->α')(g:α'->Option α)(h:∀a' a,g a'=some a->a'=f a)(x:im α β):im α' β:=⟨λa=>(g a).bind x.rd,λb=>f (x.em b),λa b hb=>by
 cases ha:g a with
 |none=>rw[ha] at hb;cases hb
 |some c=>rw[ha] at hb;rw[h a c ha,<-x.ok c b hb]⟩
def pair {α β γ δ:Type}(x:im α β)(y:im γ δ):im (α×γ) (β×δ):=⟨λp=>(x.rd p.1).bind λb=>(y.rd p.2).bind λd=>some (b,d),λq=>(x.em q.1,y.em q.2),λp q h=>by
 cases h1:x.rd p.1 with
 |none=>rw[h1] at h;cases h
 |some b=>
  rw[h1] at h
  cases h2:y.rd p.2 with
  |none=>simp only[Option.bind_some,h2] at h;cases h
  |some d=>
   simp only[Option.bind_some,h2] at h
   cases h
   rw[<-x.ok _ _ h1,<-y.ok _ _ h2]⟩
def one {α:Type}(a:α)(g:α->Bool)(h:∀b,g b=true->b=a):im α Unit:=⟨λb=>cond (g b) (some ()) none,λ_=>a,λb _ hb=>by
 cases hg:g b<;>rw[hg] at hb<;>first|(cases hb;done)|exact h b hg⟩
def nil {α:Type}:im (List α) Unit:=one [] (λl=>match l with| []=>true|_=>false) λb h=>by cases b<;>first|rfl|cases h
def cons {α β γ:Type}(x:im α β)(y:im (List α) γ):im (List α) (β×γ):=via (λp:α×List α=>p.1::p.2) (λl=>match l with|a::l=>some (a,l)|_=>none) (λa' a h=>by cases a'<;>cases h;rfl) (pair x y)
def szl {β:Type}(x:im Nat β):im Sz β:=via Sz.l (λz=>match z with|.l n=>some n|_=>none) (λa' a h=>by cases a'<;>cases h;rfl) x
def szs {β:Type}(x:im Nat β):im Sz β:=via Sz.s (λz=>match z with|.s n=>some n|_=>none) (λa' a h=>by cases a'<;>cases h;rfl) x
def ok' {β:Type}(x:im Nat β):im cg β:=via cg.k (λz=>match z with|.k n=>some n|_=>none) (λa' a h=>by cases a'<;>cases h;rfl) x
def ox {β γ δ:Type}(x:im Nat β)(y:im Nat γ)(z:im Nat δ):im cg (β×γ×δ):=via (λp:Nat×Nat×Nat=>cg.x p.1 p.2.1 p.2.2) (λz=>match z with|.x a b c=>some (a,b,c)|_=>none) (λa' a h=>by cases a'<;>cases h;rfl) (pair x (pair y z))
def fi {β:Type}(k:IntKind)(x:im Int β):im FV β:=via (FV.i k) (λz=>match z with|.i k' n=>cond (decide (k'=k)) (some n) none|_=>none) (λa' a h=>by
 cases a' with
 |i k' n=>
  cases hk:decide (k'=k)<;>simp only[hk] at h<;>first|(cases h;done)|(cases h;rw[of_decide_eq_true hk])
 |_=>cases h) x
def fb {β:Type}(x:im Bool β):im FV β:=via FV.b (λz=>match z with|.b n=>some n|_=>none) (λa' a h=>by cases a'<;>cases h;rfl) x
def fs {β:Type}(x:im ByteArray β):im FV β:=via FV.s (λz=>match z with|.s n=>some n|_=>none) (λa' a h=>by cases a'<;>cases h;rfl) x
def cf {β:Type}(x:im FV β):im CV β:=via CV.f (λz=>match z with|.f n=>some n|_=>none) (λa' a h=>by cases a'<;>cases h;rfl) x
def LD {β γ δ:Type}(x:im Nat β)(y:im cg γ)(z:im Nat δ):im CV (β×γ×δ):=via (λp:Nat×cg×Nat=>CV.ptr p.1 p.2.1 p.2.2) (λz=>match z with|.ptr a b c=>some (a,b,c)|_=>none) (λa' a h=>by cases a'<;>cases h;rfl) (pair x (pair y z))
def ccl {α β γ δ:Type}(u:im Nat α)(x:im Nat β)(y:im cg γ)(z:im Nat δ):im CV (α×β×γ×δ):=via (λp:Nat×Nat×cg×Nat=>CV.cl p.1 p.2.1 p.2.2.1 p.2.2.2) (λz=>match z with|.cl e a b c=>some (e,a,b,c)|_=>none) (λa' a h=>by cases a'<;>cases h;rfl) (pair u (pair x (pair y z)))
def il {β γ δ ε ζ:Type}(x:im Nat β)(y:im cg γ)(z:im Sz δ)(u:im Nat ε)(w:im Bool ζ):im CV (β×γ×δ×ε×ζ):=via (λp:Nat×cg×Sz×Nat×Bool=>CV.sl p.1 p.2.1 p.2.2.1 p.2.2.2.1 p.2.2.2.2) (λz=>match z with|.sl a b c d e=>some (a,b,c,d,e)|_=>none) (λa' a h=>by cases a'<;>cases h;rfl) (pair x (pair y (pair z (pair u w))))
def cfs {β γ δ:Type}(x:im Nat β)(y:im Nat γ)(z:im (List cB) δ):im CV (β×γ×δ):=via (λp:Nat×Nat×List cB=>CV.fs p.1 p.2.1 p.2.2) (λz=>match z with|.fs a b c=>some (a,b,c)|_=>none) (λa' a h=>by cases a'<;>cases h;rfl) (pair x (pair y z))
def auy:im CV Unit:=one .afU (λl=>match l with|.afU=>true|_=>false) λb h=>by cases b<;>first|rfl|cases h
def aRN:im CV Unit:=one .nils (λl=>match l with|.nils=>true|_=>false) λb h=>by cases b<;>first|rfl|cases h
def ki {β:Type}(k:IntKind)(x:im (Nat->Int) β):im cB β:=via (cB.i k) (λz=>match z with|.i k' n=>cond (decide (k'=k)) (some n) none|_=>none) (λa' a h=>by
 cases a' with
 |i k' n=>
  cases hk:decide (k'=k)<;>simp only[hk] at h<;>first|(cases h;done)|(cases h;rw[of_decide_eq_true hk])
 |_=>cases h) x
def kb {β:Type}(x:im (Nat->Bool) β):im cB β:=via cB.b (λz=>match z with|.b n=>some n|_=>none) (λa' a h=>by cases a'<;>cases h;rfl) x
def ks {β:Type}(x:im (Nat->ByteArray) β):im cB β:=via cB.s (λz=>match z with|.s n=>some n|_=>none) (λa' a h=>by cases a'<;>cases h;rfl) x
def gc {β:Type}(x:im CV β):im Sg β:=via Sg.c (λz=>match z with|.c n=>some n|_=>none) (λa' a h=>by cases a'<;>cases h;rfl) x
def ga {β γ:Type}(x:im Sz β)(y:im (List cB) γ):im Sg (β×γ):=via (λp:Sz×List cB=>Sg.a p.1 p.2) (λz=>match z with|.a n c=>some (n,c)|_=>none) (λa' a h=>by cases a'<;>cases h;rfl) (pair x y)
def rc {β:Type}(x:im CV β):im RV β:=via RV.c (λz=>match z with|.c n=>some n|_=>none) (λa' a h=>by cases a'<;>cases h;rfl) x
def ra {β:Type}(x:im af β):im RV β:=via RV.agg (λz=>match z with|.agg n=>some n|_=>none) (λa' a h=>by cases a'<;>cases h;rfl) x
def ar {β:Type}(x:im RV β):im AV β:=via AV.r (λz=>match z with|.r n=>some n|_=>none) (λa' a h=>by cases a'<;>cases h;rfl) x
def py {β:Type}(x:im (List RV) β):im AV β:=via AV.tup (λz=>match z with|.tup n=>some n|_=>none) (λa' a h=>by cases a'<;>cases h;rfl) x
def afn {β γ:Type}(x:im Nat β)(y:im (List RV) γ):im AV (β×γ):=via (λp:Nat×List RV=>AV.fn p.1 p.2) (λz=>match z with|.fn a b=>some (a,b)|_=>none) (λa' a h=>by cases a'<;>cases h;rfl) (pair x y)
def aWe:im AV Unit:=one .Tv (λl=>match l with|.Tv=>true|_=>false) λb h=>by cases b<;>first|rfl|cases h
def st {β γ δ:Type}(x:im (List AV) β)(y:im (List (Option af)) γ)(z:im (List Nat) δ):im St (β×γ×δ):=via (λp:List AV×List (Option af)×List Nat=>St.mk p.1 p.2.1 p.2.2) (λz=>some (z.tmps,z.heap,z.cS)) (λa' a h=>by cases a';cases h;rfl) (pair x (pair y z))
end im
end Go.Ab
namespace Go.Proofs.YtldgljclcgaibaaGreat
open Go.Ab
theorem mixed:Tryz.prog.follows .mixedOrders=true:=by kernel_rfl
theorem own:ownKnob Tryz.prog.godebug=none:=by kernel_rfl
theorem laid:laidOutB Tryz.prog=true:=by kernel_rfl
end Go.Proofs.YtldgljclcgaibaaGreat
namespace Go.Ab
variable [ax]
variable {P:Program}
def CB (Jm:List CK):af:=[.a (.s 0) (Jm.map CK.mc)]
def T.aJM (g:ns->ns):T->T
 |.leaf r=>.leaf (g r)
 |.fail=>.fail
 |.test x a b=>.test x (a.aJM g) (b.aJM g)
 |.opt x k=>.opt x λd=>(k d).aJM g
omit [ax] in
theorem aNl {g:ns->ns}{t:T}{r:ns}(h:(t.aJM g).eval=some r):∃r',t.eval=some r'∧r=g r':=by
 induction t with
 |leaf r'=>cases h;exact⟨r',rfl,rfl⟩
 |fail=>cases h
 |test x a b iha ihb=>
  cases x
  ·exact ihb h
  ·exact iha h
 |opt x k ih=>
  cases x with
  |none=>cases h
  |some d=>exact ih d h
def sW (i:Nat)(Jm:List CK)(F:C9):C9:=λargs h=>match args[i]? with
 |some (.r (.c .nils))=>(F (args.set i (.r (.c (.sl h.length (.k 0) (.s 0) Jm.length true)))) (h++[CB Jm])).aJM λr=>⟨r.val,r.vR.take h.length,CB Jm::r.news⟩
 |_=>F args h
omit [ax] in
theorem aBL (Jm:List CK):af.size (CB Jm)=0:=by
 unfold CB
 rw[af.size_cons,af.jT,Sg.jV]
 simp[Sz.val]
omit [ax] in
theorem OE:∀(h:List af) (z:af) (cs:List Ch),∃x,after (h++[z]) cs=after h (cs.take h.length)++[x]
 | [],z,[]=>⟨none,rfl⟩
 | [],z,.kY::cs=>⟨some z,rfl⟩
 | [],z,.set b::cs=>⟨some b,rfl⟩
 | [],z,.kill::cs=>⟨none,rfl⟩
 |b::bs,z,[]=>by
  obtain⟨x,hx⟩:=OE bs z []
  refine⟨x,?_⟩
  simp only[List.take_nil] at hx
  simp[after,hx]
 |b::bs,z,.kY::cs=>by
  obtain⟨x,hx⟩:=OE bs z cs
  exact⟨x,by simp[after,hx]⟩
 |b::bs,z,.set k::cs=>by
  obtain⟨x,hx⟩:=OE bs z cs
  exact⟨x,by simp[after,hx]⟩
 |b::bs,z,.kill::cs=>by
  obtain⟨x,hx⟩:=OE bs z cs
  exact⟨x,by simp[after,hx]⟩
omit [ax] in
theorem aTL {α:Type}{A N:List α}{x y:α}{b:Nat}(h:b≠A.length):(A++[x]++N)[b]? =(A++y::N)[b]? :=by
 rcases Nat.lt_or_ge b A.length with h1|h1
 ·rw[List.append_assoc,List.getElem?_append_left h1,List.getElem?_append_left h1]
 ·rw[List.append_assoc,List.getElem?_append_right h1,List.getElem?_append_right h1]
  obtain⟨m,hm⟩:∃m,b-A.length=m+1:=⟨b-A.length-1,by omega⟩
  rw[hm];rfl
theorem Sound.nil {f:FuncId}{F:C9}(i:Nat)(Jm:List CK)(S:Sound P f F):Sound P f (sW i Jm F):=by
 intro args h res qT w π vs jR hH iW
 unfold sW at qT
 split at qT
 ·rename_i hi
  obtain⟨r,hr,rfl⟩:=aNl qT
  generalize hπ2:(λb=>if b=h.length then some (0,0,0,0) else π b:Pi)=π2
  have p1:∀b,b≠h.length->π2 b=π b:=λb hb=>by rw[<-hπ2];simp[hb]
  have p2:π2 h.length=some (0,0,0,0):=by rw[<-hπ2];simp
  have hx:Ext π π2:=λb p hb=>by
   have:b<h.length:=iW b (by rw[hb];simp)
   rw[p1 b (by omega)];exact hb
  have aVf:bj (AV.rel π2) (args.set i (.r (.c (.sl h.length (.k 0) (.s 0) Jm.length true)))) vs.toList:=by
   have jR:=jR.imp (AV.c7 hx)
   refine bj.adu (by rw[List.length_set];exact jR.length) λj a v ha hv=> ?_
   rw[List.getElem?_set] at ha
   split at ha
   ·rename_i hij
    subst hij
    split at ha
    ·cases ha
     obtain⟨v',hv',hr'⟩:=jR.get hi
     rw[hv] at hv'
     cases hv'
     exact⟨0,0,0,0,p2,by simp[cg.val,Sz.val],by simp[cg.val,Sz.val],.inl ⟨rfl,none,hr'⟩⟩
    ·cases ha
   ·obtain⟨v',hv',hr'⟩:=jR.get ha
    rw[hv] at hv'
    cases hv'
    exact hr'
  have lt:∀b,b<h.length->((h++[CB Jm]).map some)[b]? =(h.map some)[b]? :=λb hb=>by
   rw[List.map_append,List.getElem?_append_left (by simpa using hb)]
  have gz:∀b,b<h.length->hZ ((h++[CB Jm]).map some) b=hZ (h.map some) b∧∀j,hC ((h++[CB Jm]).map some) b j=hC (h.map some) b j:=λb hb=>by
   unfold hZ hC
   rw[lt b hb];exact⟨rfl,λ_=>rfl⟩
  have gn:hZ ((h++[CB Jm]).map some) h.length=some 0:=by
   unfold hZ
   simp[aBL]
  have gd:∀b,h.length<b->hZ ((h++[CB Jm]).map some) b=none:=λb hb=>by
   unfold hZ
   rw[List.getElem?_eq_none (by simp;omega)];rfl
  have hH2:pZ π2 (hC ((h++[CB Jm]).map some)) (hZ ((h++[CB Jm]).map some)) w:=by
   refine⟨hH.am,λb B s q e hz hb zn=> ?_,λb n hn=> ?_,λb b' B s q e s' q' e' kZ hz rM hb eC i i1 i2 i3 i4=> ?_⟩
   ·rcases Nat.lt_trichotomy b h.length with h1|h1|h1
    ·rw[(gz b h1).1] at hz
     rw[p1 b (by omega)] at hb
     exact hH.lb b B s q e hz hb zn
    ·subst h1
     rw[p2] at hb;cases hb
     omega
    ·exact absurd (gd b h1) hz
   ·rcases Nat.lt_trichotomy b h.length with h1|h1|h1
    ·rw[(gz b h1).1] at hn
     obtain⟨B,s,e,k1,k2,k3,k4⟩:=hH.hp b n hn
     exact⟨B,s,e,hx _ _ k1,k2,k3,λj hj=>by
      obtain⟨v,v1,v2⟩:=k4 j hj
      exact⟨v,v1,by rw[(gz b h1).2];exact CV.c7 hx _ _ v2⟩⟩
    ·subst h1
     rw[gn] at hn
     cases hn
     exact⟨0,0,0,p2,by omega,λi _ _=>by omega,λj hj=>by omega⟩
    ·rw[gd b h1] at hn;cases hn
   ·have nz:∀b B s q e,b=h.length->π2 b=some (B,s,q,e)->s=0∧e=0:=λb B s q e hb hp=>by
     rw[hb,p2] at hp;cases hp;exact⟨rfl,rfl⟩
    rcases Nat.lt_trichotomy b h.length with h1|h1|h1
    ·rcases Nat.lt_trichotomy b' h.length with h2|h2|h2
     ·rw[(gz b h1).1] at hz
      rw[(gz b' h2).1] at rM
      rw[p1 b (by omega)] at hb
      rw[p1 b' (by omega)] at eC
      exact hH.dj b b' B s q e s' q' e' kZ hz rM hb eC i i1 i2 i3 i4
     ·have:=nz b' B s' q' e' h2 eC;omega
     ·exact rM (gd b' h2)
    ·have:=nz b B s q e h1 hb;omega
    ·exact hz (gd b h1)
  have aXa:∀b,π2 b≠none->b<(h++[CB Jm]).length:=λb hb=>by
   rw[List.length_append]
   show b<h.length+1
   rcases Nat.lt_trichotomy b h.length with h1|h1|h1
   ·omega
   ·omega
   ·rw[p1 b (by omega)] at hb
    have:=iW b hb;omega
  have aTM:∀B i,Bg π2 (h++[CB Jm]).length (P7 r.vR) B i->Bg π h.length (P7 (r.vR.take h.length)) B i:=by
   rintro B i ⟨b,s,q,e,hb,hD,hp,i1,i2⟩
   rw[List.length_append] at hb
   have hb:b<h.length+1:=hb
   rcases Nat.lt_or_ge b h.length with h1|h1
   ·rw[p1 b (by omega)] at hp
    exact⟨b,s,q,e,h1,λhk=>hD (by rw[List.getElem?_take,if_pos h1] at hk;exact hk),hp,i1,i2⟩
   ·obtain rfl:b=h.length:=by omega
    rw[p2] at hp
    cases hp
    omega
  suffices key:∀e w',qS π2 w (h++[CB Jm]) r e w'->qS π w h ⟨r.val,r.vR.take h.length,CB Jm::r.news⟩ e w' by
   rcases S _ _ r hr w π2 vs aVf hH2 aXa with⟨S1,S2⟩| ⟨v,S1,S2⟩
   ·exact .inl ⟨S1,Calls.mono S2 key⟩
   ·exact .inr ⟨v,S1,key _ _ S2⟩
  rintro e w' ⟨π',v,rfl,hx',hv,hH',hF,hd,hi'⟩
  have p2':π' h.length=some (0,0,0,0):=hx' _ _ p2
  obtain⟨x,hxx⟩:=OE h (CB Jm) r.vR
  have hlen:(after h (r.vR.take h.length)).length=h.length:=lL ..
  have eq1:∀b,b≠h.length->(r.heap (h++[CB Jm]))[b]? =((⟨r.val,r.vR.take h.length,CB Jm::r.news⟩:ns).heap h)[b]? :=λb hb=>by
   unfold ns.heap
   rw[hxx]
   exact aTL (by rw[hlen];exact hb)
  have eqz:∀b,b≠h.length->hZ ((⟨r.val,r.vR.take h.length,CB Jm::r.news⟩:ns).heap h) b=hZ (r.heap (h++[CB Jm])) b:=λb hb=>by
   unfold hZ;rw[eq1 b hb]
  have eqc:∀b j,b≠h.length->hC ((⟨r.val,r.vR.take h.length,CB Jm::r.news⟩:ns).heap h) b j=hC (r.heap (h++[CB Jm])) b j:=λb j hb=>by
   unfold hC;rw[eq1 b hb]
  have eqn:hZ ((⟨r.val,r.vR.take h.length,CB Jm::r.news⟩:ns).heap h) h.length=some 0:=by
   unfold hZ ns.heap
   show(((after h (r.vR.take h.length)++(CB Jm::r.news).map some)[h.length]?).getD none).map af.size=some 0
   rw[List.getElem?_append_right (by omega),hlen]
   simp[aBL]
  refine⟨π',v,rfl,hx.trans hx',hv,⟨hH'.am,λb B s q e hz hb zn=> ?_,λb n hn=> ?_,λb b' B s q e s' q' e' kZ hz rM hb eC i i1 i2 i3 i4=> ?_⟩,hF.mono λB i _ h=>aTM B i h,λb hb=> ?_,λb B s q e hb hp hB i i1 i2=> ?_⟩
  ·by_cases h1:b=h.length
   ·rw[h1,p2'] at hb;cases hb;omega
   ·rw[eqz b h1] at hz
    exact hH'.lb b B s q e hz hb zn
  ·by_cases h1:b=h.length
   ·subst h1
    rw[eqn] at hn
    cases hn
    exact⟨0,0,0,p2',by omega,λi _ _=>by omega,λj hj=>by omega⟩
   ·rw[eqz b h1] at hn
    obtain⟨B,s,e,k1,k2,k3,k4⟩:=hH'.hp b n hn
    exact⟨B,s,e,k1,k2,k3,λj hj=>by rw[eqc b j h1];exact k4 j hj⟩
  ·have nz:∀b B s q e,b=h.length->π' b=some (B,s,q,e)->s=0∧e=0:=λb B s q e hb hp=>by
    rw[hb,p2'] at hp;cases hp;exact⟨rfl,rfl⟩
   by_cases h1:b=h.length
   ·have:=nz b B s q e h1 hb;omega
   ·by_cases h2:b'=h.length
    ·have:=nz b' B s' q' e' h2 eC;omega
    ·rw[eqz b h1] at hz
     rw[eqz b' h2] at rM
     exact hH'.dj b b' B s q e s' q' e' kZ hz rM hb eC i i1 i2 i3 i4
  ·have:=hd b hb
   rw[List.length_append] at this
   show b<h.length+(r.news.length+1)
   have:b<h.length+1+r.news.length:=this
   omega
  ·by_cases h1:b=h.length
   ·rw[h1,p2'] at hp;cases hp;omega
   ·exact aTM B i (hi' b B s q e (by rw[List.length_append];show h.length+1<=b;omega) hp hB i i1 i2)
 ·exact S args h res qT w π vs jR hH iW
end Go.Ab
noncomputable section
namespace Go.Ab
inductive Pg (δ:Type):Type 1 where
 |ret (d:δ)
 |no
 |ae (b:Bool) (x y:Pg δ)
 |opt {D:Type} (x:Option D) (f:D->Pg δ)
 |sum {A B:Type} (x:A⊕B) (f:A->Pg δ) (g:B->Pg δ)
namespace Pg
def run {δ ρ:Type}(p:Pg δ)(k:δ->Option ρ):Option ρ:=
 Pg.rec (motive:=λ_=>Option ρ) k none (λb _ _ x y=>cond b x y) (λx _ ih=>x.bind ih) (λx _ _ f g=>Sum.elim f g x) p
def val {δ:Type}(p:Pg δ):Option δ:=p.run some
variable {δ ρ σ:Type}
theorem yw (d:δ)(k:δ->Option ρ):(ret d).run k=k d:=rfl
theorem Et (k:δ->Option ρ):(no:Pg δ).run k=none:=rfl
theorem tP (b:Bool)(x y:Pg δ)(k:δ->Option ρ):(ae b x y).run k=bif b then x.run k else y.run k:=rfl
theorem tQ {D:Type}(x:Option D)(f:D->Pg δ)(k:δ->Option ρ):(opt x f).run k=x.bind λd=>(f d).run k:=rfl
theorem tT {A B:Type}(x:A⊕B)(f:A->Pg δ)(g:B->Pg δ)(k:δ->Option ρ):(sum x f g).run k=Sum.elim (λa=>(f a).run k) (λb=>(g b).run k) x:=rfl
theorem bP (d:δ):(ret d).val=some d:=rfl
theorem eG:(no:Pg δ).val=none:=rfl
theorem bJ (b:Bool)(x y:Pg δ):(ae b x y).val=bif b then x.val else y.val:=rfl
theorem cm {D:Type}(x:Option D)(f:D->Pg δ):(opt x f).val=x.bind λd=>(f d).val:=rfl
theorem dL {A B:Type}(x:A⊕B)(f:A->Pg δ)(g:B->Pg δ):(sum x f g).val=Sum.elim (λa=>(f a).val) (λb=>(g b).val) x:=rfl
theorem aJN (p:Pg δ)(k:δ->Option ρ)(q:ρ->Option σ):(p.run k).bind q=p.run λd=>(k d).bind q:=by
 induction p with
 |ret d=>rfl
 |no=>rfl
 |ae b x y ih1 ih2=>rw[tP,tP,aPW,ih1,ih2]
 |opt x f ih=>
  rw[tQ,tQ]
  cases x with
  |none=>rfl
  |some d=>exact ih d
 |sum x f g ih1 ih2=>
  rw[tT,tT]
  cases x with
  |inl a=>exact ih1 a
  |inr b=>exact ih2 b
theorem aBM (p:Pg δ)(k:δ->Option ρ):p.val.bind k=p.run k:=by
 unfold val
 rw[aJN]
 rfl
def sm {A B:Type}(x:A⊕B)(f:A->Pg δ)(g:B->Pg δ):Pg δ:=ae x.isLeft (opt x.getLeft? f) (opt x.getRight? g)
theorem aG7 {A B:Type}(x:A⊕B)(f:A->Pg δ)(g:B->Pg δ):(sm x f g).val=Sum.elim (λa=>(f a).val) (λb=>(g b).val) x:=by cases x<;>rfl
end Pg
def bD {D X:Type}(s:D->Pg (D⊕X))(n:Nat)(d:D):Option X:=P9 (λd c x=>(s d).run (Sum.elim c x)) n d some
theorem aiF {D X ρ:Type}(s:D->Pg (D⊕X))(n:Nat)(d:D)(k:X->Option ρ):(bD s n d).bind k=P9 (λd c x=>(s d).run (Sum.elim c x)) n d k:=by
 unfold bD
 refine(awR k (λd c x=> ?_) some n d).trans rfl
 rw[Pg.aJN]
 congr 1
 funext y
 cases y<;>rfl
def aBN:List Bool->Prop
 | []=>True
 |b::l=>b=true∧aBN l
theorem au7:∀{l m:List Bool},aBN (l++m)->aBN l∧aBN m
 | [],_,h=>⟨trivial,h⟩
 |_::_,_,h=>⟨⟨h.1,(au7 h.2).1⟩,(au7 h.2).2⟩
structure Rq (α β:Type) where
 rd:α->Option (List Bool×β)
 em:β->α
 ok:∀a l b,rd a=some (l,b)->aBN l->a=em b
abbrev Rq.B {α β:Type}(_:Rq α β):Type:=β
namespace Rq
variable {α β γ δ:Type}
def hole:Rq α α:=⟨λa=>some ([],a),id,λa l b h _=>by cases h;rfl⟩
def one (a:α)(g:α->Bool)(h:∀b,g b=true->b=a):Rq α Unit:=⟨λb=>cond (g b) (some ([],())) none,λ_=>a,λb _ _ hb _=>by
 cases hg:g b<;>rw[hg] at hb<;>first|(cases hb;done)|exact h b hg⟩
def tie (n:Nat):Rq Nat Unit:=⟨λm=>some ([Nat.beq m n],()),λ_=>n,λa l b h hl=>by
 have h1:[Nat.beq a n]=l:=(Prod.mk.inj (Option.some.inj h)).1
 subst h1
 exact Nat.eq_of_beq_eq_true hl.1⟩
def nat (n:Nat):Rq Nat Unit:=one n (λm=>Nat.beq m n) λ_ h=>Nat.eq_of_beq_eq_true h
def int (n:Int):Rq Int Unit:=one n (λm=>decide (m=n)) λ_ h=>of_decide_eq_true h
def bool (n:Bool):Rq Bool Unit:=one n (λm=>m==n) λ_ h=>by simpa using h
def via {α':Type}(f:α->α')(g:α'->Option α)(h:∀a' a,g a'=some a->a'=f a)(x:Rq α β):Rq α' β:=⟨λa=>(g a).bind x.rd,λb=>f (x.em b),λa l b hb hl=>by
 cases ha:g a with
 |none=>rw[ha] at hb;cases hb
 |some c=>rw[ha] at hb;rw[h a c ha,<-x.ok c l b hb hl]⟩
def dp (x:Rq α β)(y:β->Rq γ δ):Rq (α×γ) (β×δ):=⟨λp=>(x.rd p.1).bind λb=>((y b.2).rd p.2).bind λd=>some (b.1++d.1,(b.2,d.2)),λq=>(x.em q.1,(y q.1).em q.2),λp l q h hl=>by
 cases h1:x.rd p.1 with
 |none=>rw[h1] at h;cases h
 |some b=>
  rw[h1] at h
  cases h2:(y b.2).rd p.2 with
  |none=>simp only[Option.bind_some,h2] at h;cases h
  |some d=>
   simp only[Option.bind_some,h2,Option.some.injEq,Prod.mk.injEq] at h
   obtain⟨rfl,rfl⟩:=h
   obtain⟨t,b⟩:=b
   obtain⟨s,d⟩:=d
   obtain⟨h4,h5⟩:=au7 hl
   exact Prod.ext (x.ok _ _ _ h1 h4) ((y b).ok _ _ _ h2 h5)⟩
def pr (x:Rq α β)(y:Rq γ δ):Rq (α×γ) (β×δ):=dp x λ_=>y
def mp {β':Type}(x:Rq α β)(p:β->β')(q:β'->β)(h:∀b,b=q (p b)):Rq α β':=⟨λa=>(x.rd a).bind λb=>some (b.1,p b.2),λc=>x.em (q c),λa l c hc hl=>by
 cases h1:x.rd a with
 |none=>rw[h1] at hc;cases hc
 |some b=>
  rw[h1] at hc
  obtain⟨t,b⟩:=b
  cases hc
  rw[<-h b]
  exact x.ok _ _ _ h1 hl⟩
def pl (x:Rq α β)(y:Rq γ Unit):Rq (α×γ) β:=mp (pr x y) Prod.fst (λb=>(b,())) λ_=>rfl
def pu (x:Rq α Unit)(y:Rq γ δ):Rq (α×γ) δ:=mp (pr x y) Prod.snd (λb=>((),b)) λ_=>rfl
def nil:Rq (List α) Unit:=one [] (λl=>match l with| []=>true|_=>false) λb h=>by cases b<;>first|rfl|cases h
def co (x:Rq (α×List α) β):Rq (List α) β:=via (λp:α×List α=>p.1::p.2) (λl=>match l with|a::l=>some (a,l)|_=>none) (λa' a h=>by cases a'<;>cases h;rfl) x
def c (x:Rq α β)(y:Rq (List α) δ):Rq (List α) (β×δ):=co (pr x y)
def cl (x:Rq α β)(y:Rq (List α) Unit):Rq (List α) β:=co (pl x y)
def cu (x:Rq α Unit)(y:Rq (List α) δ):Rq (List α) δ:=co (pu x y)
def cd (x:Rq α β)(y:β->Rq (List α) δ):Rq (List α) (β×δ):=co (dp x y)
def ap (n:Nat)(x:Rq (List α×List α) β):Rq (List α) β:=via (λp:List α×List α=>p.1++p.2) (λl=>some (l.take n,l.drop n)) (λa' a h=>by cases h;simp) x
def a (n:Nat)(x:Rq (List α) β)(y:Rq (List α) δ):Rq (List α) (β×δ):=ap n (pr x y)
def al (n:Nat)(x:Rq (List α) β)(y:Rq (List α) Unit):Rq (List α) β:=ap n (pl x y)
def au (n:Nat)(x:Rq (List α) Unit)(y:Rq (List α) δ):Rq (List α) δ:=ap n (pu x y)
def no:Rq (Option α) Unit:=one none (λl=>match l with|none=>true|_=>false) λb h=>by cases b<;>first|rfl|cases h
def so (x:Rq α β):Rq (Option α) β:=via some (λa=>a) (λa' a h=>h) x
def szl (x:Rq Nat β):Rq Sz β:=via Sz.l (λz=>match z with|.l n=>some n|_=>none) (λa' a h=>by cases a'<;>cases h;rfl) x
def szs (x:Rq Nat β):Rq Sz β:=via Sz.s (λz=>match z with|.s n=>some n|_=>none) (λa' a h=>by cases a'<;>cases h;rfl) x
def ok' (x:Rq Nat β):Rq cg β:=via cg.k (λz=>match z with|.k n=>some n|_=>none) (λa' a h=>by cases a'<;>cases h;rfl) x
def ox (x:Rq (Nat×Nat×Nat) β):Rq cg β:=via (λp:Nat×Nat×Nat=>cg.x p.1 p.2.1 p.2.2) (λz=>match z with|.x a b c=>some (a,b,c)|_=>none) (λa' a h=>by cases a'<;>cases h;rfl) x
def fi (k:IntKind)(x:Rq Int β):Rq FV β:=via (FV.i k) (λz=>match z with|.i k' n=>cond (decide (k'=k)) (some n) none|_=>none) (λa' a h=>by
 cases a' with
 |i k' n=>
  cases hk:decide (k'=k)<;>simp only[hk] at h<;>first|(cases h;done)|(cases h;rw[of_decide_eq_true hk])
 |_=>cases h) x
def fb (x:Rq Bool β):Rq FV β:=via FV.b (λz=>match z with|.b n=>some n|_=>none) (λa' a h=>by cases a'<;>cases h;rfl) x
def fs (x:Rq ByteArray β):Rq FV β:=via FV.s (λz=>match z with|.s n=>some n|_=>none) (λa' a h=>by cases a'<;>cases h;rfl) x
def cf (x:Rq FV β):Rq CV β:=via CV.f (λz=>match z with|.f n=>some n|_=>none) (λa' a h=>by cases a'<;>cases h;rfl) x
def LD (x:Rq (Nat×cg×Nat) β):Rq CV β:=via (λp:Nat×cg×Nat=>CV.ptr p.1 p.2.1 p.2.2) (λz=>match z with|.ptr a b c=>some (a,b,c)|_=>none) (λa' a h=>by cases a'<;>cases h;rfl) x
def ccl (x:Rq (Nat×Nat×cg×Nat) β):Rq CV β:=via (λp:Nat×Nat×cg×Nat=>CV.cl p.1 p.2.1 p.2.2.1 p.2.2.2) (λz=>match z with|.cl e a b c=>some (e,a,b,c)|_=>none) (λa' a h=>by cases a'<;>cases h;rfl) x
def il (x:Rq (Nat×cg×Sz×Nat×Bool) β):Rq CV β:=via (λp:Nat×cg×Sz×Nat×Bool=>CV.sl p.1 p.2.1 p.2.2.1 p.2.2.2.1 p.2.2.2.2) (λz=>match z with|.sl a b c d e=>some (a,b,c,d,e)|_=>none) (λa' a h=>by cases a'<;>cases h;rfl) x
def cfs (x:Rq (Nat×Nat×List cB) β):Rq CV β:=via (λp:Nat×Nat×List cB=>CV.fs p.1 p.2.1 p.2.2) (λz=>match z with|.fs a b c=>some (a,b,c)|_=>none) (λa' a h=>by cases a'<;>cases h;rfl) x
def auy:Rq CV Unit:=one .afU (λl=>match l with|.afU=>true|_=>false) λb h=>by cases b<;>first|rfl|cases h
def aRN:Rq CV Unit:=one .nils (λl=>match l with|.nils=>true|_=>false) λb h=>by cases b<;>first|rfl|cases h
def ki (k:IntKind)(x:Rq (Nat->Int) β):Rq cB β:=via (cB.i k) (λz=>match z with|.i k' n=>cond (decide (k'=k)) (some n) none|_=>none) (λa' a h=>by
 cases a' with
 |i k' n=>
  cases hk:decide (k'=k)<;>simp only[hk] at h<;>first|(cases h;done)|(cases h;rw[of_decide_eq_true hk])
 |_=>cases h) x
def kb (x:Rq (Nat->Bool) β):Rq cB β:=via cB.b (λz=>match z with|.b n=>some n|_=>none) (λa' a h=>by cases a'<;>cases h;rfl) x
def ks (x:Rq (Nat->ByteArray) β):Rq cB β:=via cB.s (λz=>match z with|.s n=>some n|_=>none) (λa' a h=>by cases a'<;>cases h;rfl) x
def gc (x:Rq CV β):Rq Sg β:=via Sg.c (λz=>match z with|.c n=>some n|_=>none) (λa' a h=>by cases a'<;>cases h;rfl) x
def ga (x:Rq (Sz×List cB) β):Rq Sg β:=via (λp:Sz×List cB=>Sg.a p.1 p.2) (λz=>match z with|.a n c=>some (n,c)|_=>none) (λa' a h=>by cases a'<;>cases h;rfl) x
def rc (x:Rq CV β):Rq RV β:=via RV.c (λz=>match z with|.c n=>some n|_=>none) (λa' a h=>by cases a'<;>cases h;rfl) x
def ra (x:Rq af β):Rq RV β:=via RV.agg (λz=>match z with|.agg n=>some n|_=>none) (λa' a h=>by cases a'<;>cases h;rfl) x
def ar (x:Rq RV β):Rq AV β:=via AV.r (λz=>match z with|.r n=>some n|_=>none) (λa' a h=>by cases a'<;>cases h;rfl) x
def py (x:Rq (List RV) β):Rq AV β:=via AV.tup (λz=>match z with|.tup n=>some n|_=>none) (λa' a h=>by cases a'<;>cases h;rfl) x
def afn (x:Rq (Nat×List RV) β):Rq AV β:=via (λp:Nat×List RV=>AV.fn p.1 p.2) (λz=>match z with|.fn a b=>some (a,b)|_=>none) (λa' a h=>by cases a'<;>cases h;rfl) x
def aWe:Rq AV Unit:=one .Tv (λl=>match l with|.Tv=>true|_=>false) λb h=>by cases b<;>first|rfl|cases h
def st (x:Rq (List AV×List (Option af)×List Nat) β):Rq St β:=via (λp:List AV×List (Option af)×List Nat=>St.mk p.1 p.2.1 p.2.2) (λz=>some (z.tmps,z.heap,z.cS)) (λa' a h=>by cases a';cases h;rfl) x
def eW:Rq Ch Unit:=one .kY (λl=>match l with|.kY=>true|_=>false) λb h=>by cases b<;>first|rfl|cases h
def Tn:Rq Ch Unit:=one .kill (λl=>match l with|.kill=>true|_=>false) λb h=>by cases b<;>first|rfl|cases h
def zM (x:Rq af β):Rq Ch β:=via Ch.set (λz=>match z with|.set n=>some n|_=>none) (λa' a h=>by cases a'<;>cases h;rfl) x
def res (x:Rq (AV×List Ch×List af) β):Rq ns β:=via (λp:AV×List Ch×List af=>ns.mk p.1 p.2.1 p.2.2) (λz=>some (z.val,z.vR,z.news)) (λa' a h=>by cases a';cases h;rfl) x
def us:Nat->Rq (List AV) β->Rq (List AV) β
 |0,x=>x
 |n+1,x=>cu aWe (us n x)
def xs:Nat->Rq (List AV) β->Rq (List AV) β
 |0,x=>x
 |n+1,x=>cu (py nil) (xs n x)
def ci:Rq CV Int:=cf (fi .i64 hole)
def cn:Rq CV Int:=cf (fi .u64 hole)
def cb:Rq CV Bool:=cf (fb hole)
def ct:Rq CV ByteArray:=cf (fs hole)
def gi:Rq Sg Int:=gc ci
def gn:Rq Sg Int:=gc cn
def gb:Rq Sg Bool:=gc cb
def gt:Rq Sg ByteArray:=gc ct
def ac (x:Rq CV β):Rq AV β:=ar (rc x)
def ai:Rq AV Int:=ac ci
def an:Rq AV Int:=ac cn
def ab:Rq AV Bool:=ac cb
def aa (x:Rq af β):Rq AV β:=ar (ra x)
def cp (b n:Nat):Rq CV Unit:=LD (pu (nat b) (pu (ok' (nat 0)) (nat n)))
def gp (b n:Nat):Rq Sg Unit:=gc (cp b n)
def app (b n:Nat):Rq AV Unit:=ac (cp b n)
def slc (b z:Nat):Rq CV (Nat×Bool):=il (pu (nat b) (pu (ok' (nat 0)) (pr (szs hole) (pu (nat z) hole))))
def wY (b z:Nat):Rq CV Nat:=il (pu (nat b) (pu (ok' (nat 0)) (pl (szs hole) (pu (nat z) (bool true)))))
def gl (n:Nat)(x:Rq (List cB) β):Rq Sg β:=ga (pu (szl (nat n)) x)
def gs (n:Nat)(x:Rq (List cB) β):Rq Sg β:=ga (pu (szs (tie n)) x)
def fw:Rq cB (Nat->Int):=ki .i64 hole
def kcb:Rq cB (Nat->Bool):=kb hole
end Rq
abbrev Ct:=Nat×C9
def T.au8 (l:List Bool)(t:T):T:=List.rec (motive:=λ_=>T) t (λb _ r=>.test b r .fail) l
def aTN {ρ:Type}(l:List Bool)(t:Option ρ):Option ρ:=List.rec (motive:=λ_=>Option ρ) t (λb _ r=>cond b r none) l
theorem aiG {t:T}{r:ns}:∀{l:List Bool},(T.au8 l t).eval=some r->aBN l∧t.eval=some r
 | [],h=>⟨trivial,h⟩
 |b::l,h=>by
  obtain⟨h1,h2⟩:=aBK (b:=b) (a:=T.au8 l t) h
  obtain⟨h3,h4⟩:=aiG h2
  exact⟨⟨h1,h3⟩,h4⟩
theorem aBO {ρ:Type}{t:Option ρ}{r:ρ}:∀{l:List Bool},aTN l t=some r->aBN l∧t=some r
 | [],h=>⟨trivial,h⟩
 |b::l,h=>by
  have h':cond b (aTN l t) none=some r:=h
  cases b with
  |false=>cases h'
  |true=>
   obtain⟨h3,h4⟩:=aBO h'
   exact⟨⟨rfl,h3⟩,h4⟩
def FC {β δ:Type}(Q:Rq (List AV×List af) β)(R:δ->T)(f:β->Option δ):C9:=λa h=>match Q.rd (a,h) with
 |some b=>T.au8 b.1 (.opt (f b.2) R)
 |none=>.fail
def fx {D X:Type}(id kk:Nat)(Q:Rq St D)(E:∀{ρ:Type},X->(AX->St->Option ρ)->Option ρ)(l:D->Option X):Sm:=⟨id,kk,λs k=>match Q.rd s with
 |some b=>aTN b.1 ((l b.2).bind λx=>E x k)
 |none=>none⟩
def aih {β δ:Type}(P:Program)(l:List Ct)(hs:Hs)(lf n:Nat)(Q:Rq (List AV×List af) β)(R:δ->T)(B:β->Pg δ):Prop:=
 ∀b,den P (C' l) hs lf n (Q.em b).1 (Q.em b).2=(B b).run λd=>(R d).eval
def aOh {D X:Type}(P:Program)(l:List Ct)(hs:Hs)(kk lf n id:Nat)(Q:Rq St D)(E:∀{ρ:Type},X->(AX->St->Option ρ)->Option ρ)(S:D->Pg (D⊕X)):Prop:=
 ∀(ρ:Type) (d:D) (c:St->Option ρ) (K:AX->St->Option ρ),E' P (C' l) hs (tmpsOf P n) kk lf (Xq P n id) (Q.em d) (next (λt=>t.head kk hs (Xq P n id)) c K)=
  (S d).run (Sum.elim (λd=>c (Q.em d)) λx=>E x K)
def aOi {D X:Type}(P:Program)(l:List Ct)(hs:Hs)(kk lf n id:Nat)(Q:Rq St D)(E:∀{ρ:Type},X->(AX->St->Option ρ)->Option ρ)(S:D->Pg X):Prop:=
 ∀(ρ:Type) (d:D) (K:AX->St->Option ρ),E' P (C' l) hs (tmpsOf P n) kk lf (adg P n id) (Q.em d) K=(S d).run λx=>E x K
section
variable [ax]
def Snd (P:Program)(e:Ct):Prop:=Sound P e.1 e.2
theorem Snd.of {P:Program}{e:Ct}{n:Nat}{F:C9}(S:Sound P n F)(h:e=(n,F)):Snd P e:=by
 subst h
 exact S
theorem HR.c {P:Program}{l:List Ct}{e:Ct}(S:Snd P e)(h:HR P l):HR P (e::l):=HR.cons S h
omit [ax] in
theorem aJO {D X:Type}{id kk:Nat}{Q:Rq St D}{E:∀{ρ:Type},X->(AX->St->Option ρ)->Option ρ}{l:D->Option X}{ρ:Type}{s:St}{K:AX->St->Option ρ}{r:ρ}
  (h:(fx id kk Q E l).run s K=some r):∃d,s=Q.em d∧((l d).bind λx=>E x K)=some r:=by
 simp only[fx] at h
 split at h
 ·rename_i b hb
  obtain⟨t,d⟩:=b
  obtain⟨h1,h2⟩:=aBO h
  exact⟨d,Q.ok s t d hb h1,h2⟩
 ·cases h
theorem mkL {D X:Type}{P:Program}{l:List Ct}{hs:Hs}{kk lf n id:Nat}{Q:Rq St D}{E:∀{ρ:Type},X->(AX->St->Option ρ)->Option ρ}{S:D->Pg (D⊕X)}
  (h0:ana hs (Xq P n id)=some (fx id kk Q E (bD S lf)))(h:aOh P l hs kk lf n id Q E S):∀k',L9 P (C' l) hs (tmpsOf P n) k' lf (Xq P n id):=
 L9.of (id:=id) (k0:=kk) (run:=(fx id kk Q E (bD S lf)).run) h0 λs K r hr=>by
  obtain⟨d,rfl,W0⟩:=aJO hr
  refine⟨lf,?_⟩
  rw[aiF] at W0
  exact(awS (emb:=Q.em) (step:=λd c x=>(S d).run (Sum.elim c x)) (kx:=λx=>E x K) (λd c=>h _ d c K) lf d).trans W0
theorem mkJ {D X:Type}{P:Program}{l:List Ct}{hs:Hs}{kk lf n id:Nat}{hd:Hd}{Q:Rq St D}{E:∀{ρ:Type},X->(AX->St->Option ρ)->Option ρ}{S:D->Pg X}
  (h0:awv hs (adg P n id)=some ⟨hd,fx id kk Q E λd=>(S d).val⟩)(h:aOi P l hs kk lf n id Q E S):∀k',arf P (C' l) hs (tmpsOf P n) k' lf (adg P n id):=
 arf.of (id:=id) (k0:=kk) (hd:=hd) (run:=(fx id kk Q E λd=>(S d).val).run) h0 λs K r hr=>by
  obtain⟨d,rfl,W0⟩:=aJO hr
  rw[Pg.aBM] at W0
  exact(h _ d K).trans W0
omit [ax] in
theorem aTO {β δ:Type}{Q:Rq (List AV×List af) β}{R:δ->T}{B:β->Pg δ}{a:List AV}{h:List af}{r:ns}(hr:(FC Q R (λb=>(B b).val) a h).eval=some r):
  ∃b,(a,h)=Q.em b∧((B b).run λd=>(R d).eval)=some r:=by
 unfold FC at hr
 split at hr
 ·rename_i b hb
  obtain⟨t,b⟩:=b
  obtain⟨h1,W0⟩:=aiG hr
  rw[apT,Pg.aBM] at W0
  exact⟨b,Q.ok _ _ _ hb h1,W0⟩
 ·cases hr
theorem mkS {β δ:Type}{P:Program}{l:List Ct}{hs:Hs}{lf n:Nat}{Q:Rq (List AV×List af) β}{R:δ->T}{B:β->Pg δ}(hm:P.follows .mixedOrders=true)(hl:HR P l)(hc:Es P n=true)
  (aJG:∀fn c kk,P.funcs[n]? =some fn->fn.body=some c->Jw P (C' l) hs fn.ntmps kk lf c)(h:aih P l hs lf n Q R B):Sound P n (FC Q R λb=>(B b).val):=
 (aPP hl hm aJG hc).by λa b r hr=>by
  obtain⟨b,e,W0⟩:=aTO hr
  obtain⟨rfl,rfl⟩:=Prod.mk.inj e
  exact aPQ ((h b).trans W0)
theorem mk0 {β δ:Type}{P:Program}{l:List Ct}{d0:List Nat}{lf n:Nat}{Q:Rq (List AV×List af) β}{R:δ->T}{B:β->Pg δ}(hm:P.follows .mixedOrders=true)(hl:HR P l)(hc:Es P n=true)
  (h:aih P l ⟨[],[],d0,[],none⟩ lf n Q R B):Sound P n (FC Q R λb=>(B b).val):=
 mkS hm hl hc (λ_ _ _ _ _=>Jw.nil ..) h
omit [ax] in
theorem aJP {t t':T}{r:ns}(h:t.eval=some r->t'.eval=some r)(l:List Bool):(T.au8 l t).eval=some r->(T.au8 l t').eval=some r:=by
 induction l with
 |nil=>exact h
 |cons b l ih=>
  intro k
  obtain⟨h1,h2⟩:=aBK (b:=b) (a:=T.au8 l t) k
  subst h1
  exact ih h2
theorem Dc {β δ:Type}{P:Program}{n:Nat}{Q:Rq (List AV×List af) β}{R R':δ->T}{f:β->Option δ}(h:∀d r,(R' d).eval=some r->(R d).eval=some r)(S:Sound P n (FC Q R f)):Sound P n (FC Q R' f):=S.by λa b r hr=>by
 unfold FC at hr ⊢
 split at hr
 ·rename_i x hx
  refine aJP (λhr=> ?_) x.1 hr
  rw[apT] at hr ⊢
  cases hf:f x.2 with
  |none=>rw[hf] at hr;cases hr
  |some d=>rw[hf,Option.bind_some] at hr;exact h d r hr
 ·cases hr
end
abbrev wI (n:Int):Int:=IntKind.wrap .i64 n
abbrev wU (n:Int):Int:=IntKind.wrap .u64 n
end Go.Ab
namespace Go.Proofs.YtldgljclcgaibaaGreat
open Go.Ab
theorem aTP [ax]:Sound Tryz.prog 240 (abg Bh):=aFu (aG5 (fn:=Tryz.f240) Tryz.func240 (by kernel_rfl) (by kernel_rfl) (by kernel_rfl) (by kernel_rfl))
end Go.Proofs.YtldgljclcgaibaaGreat
namespace Go.Proofs.YtldgljclcgaibaaGreat
open Go.Ab
theorem aTQ [ax]:Sound Tryz.prog 262 (abg abh):=aFu (aG6 (fn:=Tryz.f262) Tryz.func262 (by kernel_rfl) (by kernel_rfl) (by kernel_rfl) (by kernel_rfl))
end Go.Proofs.YtldgljclcgaibaaGreat
noncomputable section
namespace Go.Proofs.YtldgljclcgaibaaGreat
open Go.Ab
abbrev arJ:=C3
def aiH (g:C3):Ct:=(240,abg g)
theorem al9 [ax]:Snd Tryz.prog (aiH Bh):=aTP
abbrev aTR:=C3
def aJQ (g:C3):Ct:=(262,abg g)
theorem aPX [ax]:Snd Tryz.prog (aJQ abh):=aTQ
end Go.Proofs.YtldgljclcgaibaaGreat
noncomputable section
namespace Go.Ab
abbrev NI:=Nat->Int
@[reducible] def _root_.Prod.b {a b c:Type} (x:a×b×c):c:=x.2.2
@[reducible] def _root_.Prod.c {a b c d e:Type} (x:a×b×c×d×e):e:=x.2.2.2.2
@[reducible] def _root_.Prod.d {a b c d e f g h i:Type} (x:a×b×c×d×e×f×g×h×i):i:=x.2.2.2.2.2.2.2.2
@[reducible] def _root_.Prod.e {a b c d e f g h i j k l m n o p q:Type} (x:a×b×c×d×e×f×g×h×i×j×k×l×m×n×o×p×q):q:=x.2.2.2.2.2.2.2.2.2.2.2.2.2.2.2.2
def cr {α:Type}(d:α)(l:List α):Nat->α:=List.rec (motive:=λ_=>Nat->α) (λ_=>d) (λx l ih j=>bif Nat.beq j l.length then x else ih j) l
@[reducible] def c24 (g:Nat->Nat->Int):=(g 0,g 1,g 2,g 3,g 4,g 5,g 6,g 7,g 8,g 9,g 10,g 11,g 12,g 13,g 14,g 15,g 16,g 17,g 18,g 19,g 20,g 21,g 22,g 23)
@[reducible] def awo {r:Type} (g:Nat->Nat->Int) (x:r):=(g 0,g 1,g 2,g 3,g 4,g 5,g 6,g 7,g 8,g 9,g 10,g 11,g 12,g 13,g 14,g 15,g 16,g 17,g 18,g 19,g 20,g 21,g 22,g 23,x)
def rg:Nat->Nat->List Nat->List Nat
 |_,0,t=>t
 |a,n+1,t=>a::rg (a+1) n t
def sh8 (o:Nat)(x:(Nat->Int)×(Nat->Int)×(Nat->Int)×(Nat->Int)×(Nat->Int)×(Nat->Int)×(Nat->Int)×(Nat->Int)):(Nat->Int)×(Nat->Int)×(Nat->Int)×(Nat->Int)×(Nat->Int)×(Nat->Int)×(Nat->Int)×(Nat->Int):=(λj=>x.1 (o+j),λj=>x.2.1 (o+j),λj=>x.2.2.1 (o+j),λj=>x.2.2.2.1 (o+j),λj=>x.2.2.2.2.1 (o+j),λj=>x.2.2.2.2.2.1 (o+j),λj=>x.2.2.2.2.2.2.1 (o+j),λj=>x.2.2.2.2.2.2.2 (o+j))
def C4 (o:Nat)(x:(Nat->Int)×(Nat->Int)×(Nat->Int)×(Nat->Int)×(Nat->Int)×(Nat->Int)×(Nat->Int)×(Nat->Int)×(Nat->Int)):(Nat->Int)×(Nat->Int)×(Nat->Int)×(Nat->Int)×(Nat->Int)×(Nat->Int)×(Nat->Int)×(Nat->Int)×(Nat->Int):=(λj=>x.1 (o+j),λj=>x.2.1 (o+j),λj=>x.2.2.1 (o+j),λj=>x.2.2.2.1 (o+j),λj=>x.2.2.2.2.1 (o+j),λj=>x.2.2.2.2.2.1 (o+j),λj=>x.2.2.2.2.2.2.1 (o+j),λj=>x.2.2.2.2.2.2.2.1 (o+j),λj=>x.2.2.2.2.2.2.2.2 (o+j))
def aAs (o:Nat)(x:(Nat->Int)×(Nat->Int)×(Nat->Int)×(Nat->Int)×(Nat->Int)×(Nat->Int)×(Nat->Int)×(Nat->Int)×(Nat->Int)×(Nat->Int)):(Nat->Int)×(Nat->Int)×(Nat->Int)×(Nat->Int)×(Nat->Int)×(Nat->Int)×(Nat->Int)×(Nat->Int)×(Nat->Int)×(Nat->Int):=(λj=>x.1 (o+j),λj=>x.2.1 (o+j),λj=>x.2.2.1 (o+j),λj=>x.2.2.2.1 (o+j),λj=>x.2.2.2.2.1 (o+j),λj=>x.2.2.2.2.2.1 (o+j),λj=>x.2.2.2.2.2.2.1 (o+j),λj=>x.2.2.2.2.2.2.2.1 (o+j),λj=>x.2.2.2.2.2.2.2.2.1 (o+j),λj=>x.2.2.2.2.2.2.2.2.2 (o+j))
abbrev cz:=(Int×Int×Int×Int×Int)×Int×Nat×Int
abbrev Js:=Int×Int×Int×Int×(Int×Int×Int×Int×Int×Int)×(Int×Int×Int×Int×Int×Int)×NI×NI×Int×Int×Int×Int×Int×Int×Int×Int
abbrev eD:=NI×NI×NI×NI×NI×NI×NI×NI×NI
abbrev xS:=Nat×NI×NI×NI×NI×NI×NI×NI×NI×NI
abbrev HI:=(Int×Int×Int×Int)×(Int×Int×Int)×Int×Int×Int
abbrev HJ:=Nat×NI×NI×NI×NI×NI×NI×NI×NI×NI×NI
abbrev Tk:=Int×(Int×Int×(Int×Int×Int)×Int×Int×Int)×Bool
abbrev So:=(NI×NI×(Nat->Bool)×NI×NI×NI)×Int
abbrev YV:=Nat×NI×NI×NI×NI×NI×NI×NI×NI
abbrev nr:=Int×Int×Int
abbrev tM:=Int×Int×Bool×Bool
abbrev aEQ:=Nat×NI×NI×NI×NI×NI×NI×NI×NI×NI×NI×NI×NI×NI×NI×NI×NI×NI×NI×NI×NI
abbrev xM:=Int×Int×Nat
abbrev aAt:=Int×Int×Int×Int×Int×Int×Int×Int
abbrev aQ0:=Int×Int×Int×Int×Int×Int×Int×Int×Int×Int×Int×Int×Int×Int×Int×Int×Int×Int×Int
abbrev aVV:=(Int×Int×Int×Int×Int×Int×Int×Int×Int×Int×Bool×Int×Int×Int×Int×Bool×Bool)⊕(Int×Int×Int×Int×Int×Int×Int×Int×Int×Bool×Int×Int×Int×Bool)
abbrev aID:=NI×NI×(Nat->Bool)×NI×NI×NI
abbrev aN4:=NI×NI×NI×NI×NI×NI×NI×NI×NI×NI
abbrev aVW:=NI×NI×NI×NI×NI×NI×NI×NI×NI×NI×NI×NI×NI×NI×NI×NI×NI×NI×NI×NI×NI×NI×NI×NI
abbrev aIE:=(Nat×Bool)×Int×Int×Bool
abbrev aQ1:=Nat×NI×NI×NI×NI×NI×NI×NI×NI×NI×NI×NI
abbrev aN5:=Int×Int×Int×Int×Int×Int×Int
abbrev aQ2:=Int×(Nat×Bool)×(Nat×Bool)×Int×Int×Bool
abbrev aER:=Int×Int×Int×Int
abbrev aVX:=Int×Int×Int×Int×Int×Int×Int×Int×Int×Int×Bool×Int×Bool
abbrev aQ3:=Int×Int×Int×Int×Int
abbrev RA (b:Type):=Rq (List AV×List af) b
abbrev RS (b:Type):=Rq St b
abbrev RE (b:Type):=Rq ns b
@[reducible] def qa {b:Type} (x:RA b):RA b:=x
@[reducible] def qs {b:Type} (x:RS b):RS b:=x
@[reducible] def qe {b:Type} (x:RE b):RE b:=x
@[reducible] def nO {α:Type}:Rq (Option α) Unit:=Rq.no
def lf {β:Type}(q:RE β)(d:β):T:=.leaf (q.em d)
def ls {A B:Type}(f:A->T)(g:B->T)(x:A⊕B):T:=T.sum x f g
def Ex (X:Type):=∀{ρ:Type},X->(AX->St->Option ρ)->Option ρ
abbrev KT:=AX->St
def ef {X:Type}(a:AX)(q:RS X){ρ:Type}(x:X)(K:AX->St->Option ρ):Option ρ:=K a (q.em x)
abbrev LT {D:Type}(_:RS D)(X:Type):=D->Option X
abbrev PL {D:Type}(_:RS D)(X:Type):=Pg (D⊕X)
structure KK where
 l:List Ct
 hs:Hs
 kk:Nat
 n:Nat
end Go.Ab
namespace Go.Proofs.YtldgljclcgaibaaGreat
section
open Go.Ab Go.Ab.Rq
def iy:=bool true
def jQ:=szs hole
def dE:=nat 0
def B8:=nat 1
def rq4:=nat 2
def Tl:=py nil
def rq6:=nat 4
def rq7:=nat 3
def rq8:=nat 6
def L3:=nat 11
def fO:=nat 9
def ID:=nat 8
def aIF:=nat 13
def aIG:=nat 14
def aIH:=nat 15
def aII:=nat 16
def aIJ:=nat 17
def aIK:=nat 18
def aIL:=nat 19
def aES:=nat 21
def aP:=app 0 1
def fT:=cl ai nil
def uV:=cl gb nil
def aET:=cl an nil
def aIM:=cl ab nil
def aIN:=app 1 2
def Xl:=cu eW nil
def awp:=app 2 2
def mF:=cl fw nil
def kF:=cl gi nil
def am4:=app 1 4
def awq:=app 2 4
def awr:=app 0 24
def aIO:=app 1 3
def Xm:=app 2 3
def RH:=app 1 24
def Cw:=app 2 24
def E8:=app 1 300
def Xn:=app 2 300
def aEU:=app 3 300
def aN6:=us 20 nil
def Ox:=app 1 576
def aEV:=app 1 9
def ah3:=app 3 3
def aN7:=app 4 3
def aQ4:=us 27 nil
def aQ5:=app 2 1152
def Xo:=app 3 1152
def am5:=app 4 24
def Oy:=app 1 1
def afR:=app 3 24
def aN8:=app 2 576
def LC:=app 4 300
def am6:=app 5 48
def aws:=app 2 48
def aEW:=app 4 576
def am7:=app 5 24
def aEX:=app 2 373
def aEY:=app 3 373
def aIP:=cu Tn nil
def Gg:=app 0 3
def awt:=app 0 37
def To:=app 0 8
def aIQ:=app 0 72
def aAu:=app 4 1
def ep:=app 0 434
def afS:=gp 1 5
def afT:=gp 2 10
def am8:=gp 10 37
def am9:=gp 11 3
def awu:=app 2 20
def aN9:=app 3 4
def aOa:=app 5 16
def aOb:=app 6 12
def aOc:=app 3 576
def aOd:=app 4 12
def aIR:=app 3 1
def Xp:=app 20 8
def aQ6:=app 21 11
def aOe:=app 20 20
def yg:=ok' dE
def Tp:=szs dE
def ard:=zM uV
def aOf:=cl (rc cb) nil
def aQ7:=ac (slc 0 2)
def Gh:=ac (slc 1 1)
def cj:=so uV
def cA:=cu dE nil
def Ts:=ac (slc 0 1)
def aQ8:=ac (slc 2 1)
def aAv:=ac (slc 1 3)
def are:=cl (rc ci) nil
def aIS:=ac (slc 1 24)
def aOg:=ac (slc 1 27)
def aQ9:=ac (slc 0 3)
def aRa:=ac (slc 1 10)
def aEZ:=cu B8 nil
def aRb:=ac (slc 2 10)
def aRc:=ac (slc 0 9)
def aRd:=ac (wY 1 9)
def aGa:=gc (wY 3 8)
def aLv:=ac (wY 2 11)
def wZ:=c ai fT
def bA:=cl uV nil
def auo:=c gn (cl gn nil)
def aLw:=c gi (cl gn nil)
def apu:=cu (gp 1 1) nil
def aLx:=xs 8 (us 22 nil)
def aRe:=cf (fb (bool false))
def aLy:=cl ab (us 14 nil)
def aLz:=cl ab (us 21 nil)
def aLA:=cl ai (us 15 nil)
def aLB:=cl ai (us 26 nil)
def aGb:=cl ai (us 13 nil)
def aRf:=cl ab (us 12 nil)
def ah4:=c gi kF
def aRg:=cl ai (us 11 nil)
def jo:=gl 24 mF
def aLC:=cl ai (us 18 nil)
def aup:=cu eW Xl
def aLD:=cu (gp 2 1) nil
def aLE:=gl 276 mF
def aGc:=cl ai aN6
def aLF:=cl ai (us 8 nil)
def aRh:=cl ai (us 21 nil)
def aRi:=cl ai (us 22 nil)
def aLG:=cl ai (us 82 nil)
def aGd:=cl ai (us 24 nil)
def aRj:=cl ai (us 80 nil)
def aRk:=cl ai (us 12 nil)
def aRl:=cl ai (us 32 nil)
def aRm:=cl ab (us 38 nil)
def aRn:=cu (gp 0 3) nil
def aRo:=cl ai (us 31 nil)
def aRp:=xs 8 (us 1 nil)
def aRq:=cl ai (us 78 nil)
def aLH:=cf (fi .i64 (int 0))
def aLI:=cf (fi .i64 (int 4))
def auq:=cf (fi .i64 (int 1))
def aRr:=cf (fi .i64 (int 5))
def aLJ:=afn (pu (nat 96) nil)
def lk:=cl ard nil
def aRs:=res (pl an (pu nil nil))
def Tt:=aa auo
def acZ:=aa aLw
def Fq:=res (pl ai (pu nil nil))
def PZ:=ac (cf (fb iy))
def tN:=ac aRe
def B9:=res (pl ab (pu nil nil))
def aur:=cl Gh nil
def aGe:=cl aAv nil
def aus:=gc (cf (fb iy))
def YW:=so apu
def aut:=so aRn
def ac0:=gc aRe
def C7:=c ai wZ
def aRt:=c ai (cl ab (us 30 nil))
def aGf:=c fw (cl (ki .u64 hole) nil)
def aS:=gc aLH
def aAw:=gc (cf (fi .u64 (int 0)))
def aLK:=c ai (cl ab (us 25 nil))
def aGg:=c ai aRf
def jW:=c gi ah4
def auu:=gc (cf (fi .i64 (int 1073741824)))
def apv:=cl jo nil
def aGh:=c ai (cl ab (us 17 nil))
def aLL:=c ai (cl ab (us 19 nil))
def aAx:=cl (gl 576 mF) nil
def aGi:=c ai (cl ab (us 7 nil))
def YX:=cl (gl 9 mF) nil
def aRu:=c ai (cl ab aN6)
def aLM:=gc (cf (fi .i64 (int 2)))
def aGj:=c gb ah4
def apw:=c fw (c fw mF)
def aRv:=cl (gl 1152 mF) nil
def aRw:=c ai (cl ab (us 81 nil))
def aRx:=c ai (cl ab (us 29 nil))
def aGk:=c ai (cl ab (us 23 nil))
def aRy:=c ai (cl ab (us 13 nil))
def aRz:=c ai (cl ab (us 11 nil))
def apx:=c kcb (c fw mF)
def aLN:=c ai aGc
def aRA:=c ai (cl ab (us 31 nil))
def aLO:=c gi (c gi uV)
def YY:=ac aLH
def aRB:=ac (cf (fi .i64 (int 6)))
def aRC:=gc (cf (fi .i64 (int 3000)))
def aRD:=gc (cf (fi .i64 (int 2200)))
def aGl:=gc (cf (fi .i64 (int 500)))
def aRE:=gc (cf (fi .i64 (int 950)))
def aRF:=gc (cf (fi .i64 (int 100)))
def aRG:=gc (cf (fi .i64 (int 1000)))
def aRH:=c ai (cl ab (us 41 nil))
def aAy:=c gn (c gn uV)
def aAz:=cu B8 (cu rq4 nil)
def aRI:=cu dE (cu L3 nil)
def aAA:=cl acZ nil
def YZ:=cl (so aLw) nil
def L4:=cl ard Xl
def aLP:=c ai aur
def ac1:=aa jW
def jX:=aa apv
def mA:=so apv
def w7:=so jW
def aRJ:=c ai (cl Ts nil)
def lp:=so aAx
def Fs:=so aRv
def ac2:=so (cl (gl 48 mF) nil)
def ac3:=ra apv
def aGm:=res (pl ab (pu Xl nil))
def auv:=res (pl ai (pu Xl nil))
def ah5:=aa aAy
def aLQ:=py (c (rc ci) aOf)
def aGn:=c ai (cl ai (cu aP nil))
def aRK:=c ai (c ai aLy)
def ac4:=c gi jW
def aLR:=xs 3 (us 2 (xs 3 (us 1 nil)))
def aRL:=us 15 (c ai aLB)
def Ca:=c gi (c gi (c gb uV))
def aLS:=cu (gc (cf (fi .i64 (int 3)))) nil
def aLT:=c ai aLL
def aLU:=py (c (rc ci) are)
def aRM:=py (cu (rc aRN) are)
def ah6:=cu (rc aLH) nil
def aLV:=cl aLO nil
def aRO:=ox (pu dE (pl hole fO))
def apy:=cu (gc (cf (fi .i64 (int (-9223372036854775808))))) nil
def ac5:=ox (pu dE (pl hole ID))
def aGo:=cl (ga (pr jQ mF)) nil
def Ft:=cl ac1 nil
def ac6:=aa ac4
def uX:=so ac4
def HK:=cl mA nil
def aLW:=cu eW (cu eW lk)
def apz:=cl jX nil
def ac7:=c gi (c gi (cl (gc (wY 2 11)) nil))
def aGp:=c gi (c gi (cl (gc (wY 3 11)) nil))
def aGq:=c gi (c gi (cl (gc (wY 7 11)) nil))
def aLX:=c gi (c gi (cl (gc (wY 4 11)) nil))
def aLY:=res (pl ai (pu aup nil))
def pX:=c gi (c gi (cl (gc (wY 19 11)) nil))
def HL:=so aGo
def aRP:=us 15 (c ai aLK)
def ix:=c gi ac4
def aRQ:=cu eW (cu eW (cu eW aup))
def oS:=res (pr ai (pl lk nil))
def aRR:=res (pl acZ (pu nil nil))
def aGr:=res (pl Tt (pu nil nil))
def apA:=cl ac6 nil
def ac8:=c jX fT
def aRS:=py (c (ra aLw) aOf)
def ah7:=cl HL nil
def w8:=c aLE apv
def auw:=c jo jW
def aAB:=c gi ix
def aLZ:=aa (a 3 jW kF)
def aRT:=c gi (c gi (c gb jW))
def aL0:=xs 3 (us 2 aLR)
def aRU:=ac (LD (pu dE (pu (ok' fO) B8)))
def aRV:=ac (LD (pu dE (pu (ok' rq6) rq8)))
def aL1:=ac (LD (pu dE (pu (ok' rq8) B8)))
def aRW:=ac (LD (pu dE (pu (ok' B8) B8)))
def L5:=ac (LD (pu dE (pu (ok' (nat 72)) B8)))
def aRX:=ac (LD (pu dE (pu (ok' (nat 412)) B8)))
def aL2:=ac (LD (pu dE (pu (ok' (nat 399)) B8)))
def aL3:=ac (LD (pu (nat 20) (pu (ok' rq4) B8)))
def aL4:=res (pr ai (pl (cu eW lk) nil))
def aGs:=res (pr ai (pl L4 nil))
def aRY:=res (pl ac1 (pu nil nil))
def aL5:=res (pl jX (pu nil nil))
def aL6:=cl (ga (pr jQ apx)) nil
def jY:=a 3 jW ah4
def aRZ:=py (cu (rc auy) (cu (rc auq) nil))
def aGt:=res (pl ah5 (pu nil nil))
def aL7:=res (pl (py (c (rc cn) (cl (rc cn) nil))) (pu nil nil))
def auz:=res (pl aLQ (pu nil nil))
def yi:=aa w8
def hI:=so w8
def ah8:=ra w8
def aL8:=so (cl (ga (pr jQ aGf)) nil)
def aAC:=so (cl (ga (pr jQ apw)) nil)
def aR0:=py (c (ra jW) are)
def aR1:=gl 6 (c fw (c fw (c kcb apw)))
def aR2:=cu eW (cu eW aRQ)
def rV:=so jY
def aR3:=cu Tn (cu Tn (cu Tn (cu Tn (cu Tn (cu Tn aIP)))))
def aR4:=res (pl ac6 (pu nil nil))
def aR5:=res (pl jX (pu Xl nil))
def aR6:=res (pr ai (pl aLW nil))
def aR7:=cl (aa auw) nil
def aR8:=res (pl aLU (pu Xl nil))
def aL9:=afn (pu (nat 180) (cu (rc (cp 2 1)) (cu (rc (cp 3 10)) nil)))
def aR9:=c an (c an (c an (c an (c an (c an aLy)))))
def aSa:=res (pu Tl (pl (cl (zM apv) nil) nil))
def lq:=c fw (c fw (c fw (c fw (c fw apw))))
def aSb:=cl (so aL6) nil
def auA:=c gi (c gi aAB)
def aGu:=cu eW aR2
def aMa:=res (pl ai (pu (cu (zM (cu aus nil)) nil) nil))
def aMb:=res (pl aRS (pu nil nil))
def aMc:=so (cu aS (cu aAw nil))
def C8:=so auA
def auB:=res (pr ac1 (pl lk nil))
def aAD:=res (pr jX (pl lk nil))
def aA:=c fw lq
def aMd:=c gi auA
def kG:=c aR1 kF
def aAE:=res (pu aRZ (pu nil nil))
def aSc:=cu eW (cu Tn aR2)
def L6:=c mA HK
def aSd:=ac (il (pu B8 (pu yg (pl jQ (pu rq4 iy)))))
def aSe:=ac (il (pu rq6 (pu yg (pl jQ (pu B8 iy)))))
def aGv:=c gi (c gi (a 3 jW jW))
def aSf:=ac (il (pu rq7 (pu yg (pl jQ (pu B8 iy)))))
def aSg:=ac (il (pu rq8 (pu yg (pl jQ (pu rq7 iy)))))
def aSh:=ac (il (pu rq6 (pu yg (pl jQ (pu rq7 iy)))))
def aSi:=ac (il (pu (nat 5) (pu yg (pl jQ (pu rq7 iy)))))
def aSj:=ac (il (pu (nat 5) (pu yg (pl jQ (pu B8 iy)))))
def aMe:=res (pr aLU (pl lk nil))
def aSk:=cu tN (xs 2 (cu tN (us 61 nil)))
def aGw:=aa aMd
def aAF:=zM kG
def pY:=so kG
def aSl:=c an (c an (c an (c an (c an (c an (cl ab (us 19 aLx)))))))
def auC:=res (pr ac6 (pl lk nil))
def aSm:=ac (il (pu B8 (pu yg (pu (szl rq6) (pu B8 iy)))))
def jq:=c fw aA
def aMf:=c gi aMd
def aSn:=py (c (ra auw) are)
def aAG:=cl kG nil
def Fu:=cl aGw nil
def aSo:=cl (so aMd) nil
def Y0:=cl (aa aGv) nil
def fX:=c fw jq
def auD:=c gi aMf
def ac9:=a 5 ix (c gi (c (gc (wY 1 9)) kF))
def nh:=a 5 ix (c gi (c (gc (wY 14 9)) kF))
def ni:=a 5 ix (c gi (c (gc (wY 15 9)) kF))
def nj:=a 5 ix (c gi (c (gc (wY 16 9)) kF))
def nk:=a 5 ix (c gi (c (gc (wY 17 9)) kF))
def nm:=a 5 ix (c gi (c (gc (wY 18 9)) kF))
def oT:=a 5 ix (c gi (c (gc (wY 13 9)) kF))
def aGx:=aa (a 3 jW jY)
def aMg:=res (pr (py (c (ra ah4) are)) (pl lk nil))
def aMh:=cl (ga (pr jQ lq)) nil
def aGy:=il (pu aES (pr ac5 (pl jQ (pu ID iy))))
def aMi:=so (c gb (c gb (c gb (c gb (c gb (c gb (c gb (c gb jW))))))))
def aGz:=c ai Fu
def aSp:=ac (il (pu B8 (pu (ox (pu dE (pu B8 B8))) (pr jQ (pu B8 hole)))))
def apB:=cu aS (cu aS (cu aS nil))
def aMj:=res (pr yi (pl lk nil))
def aMk:=c gi auD
def aSq:=res (pr (aa auw) (pl lk nil))
def aMl:=c jo (c gi (c gi (c gi auw)))
def ada:=cu (gp 4 8) (cu (gp 5 8) (cu (gp 6 8) (cu (gp 7 8) (cu (gp 8 8) (cu (gp 9 8) nil)))))
def aSr:=cu aut (cu YW HK)
def aMm:=il (pu rq7 (pu (ox (pu dE (pu dE ID))) (pl jQ (pu ID iy))))
def uY:=so aMh
def aMn:=cl aR1 (cu aS nil)
def aMo:=il (pu aES (pu (ox (pu dE (pu dE fO))) (pl jQ (pu fO iy))))
def Y1:=c hI (cl ac2 nil)
def Y2:=cl (ga (pr jQ aA)) nil
def Cb:=a 4 ac4 (a 3 jW jW)
def lr:=c gi (a 8 aGv uV)
def aGA:=gc aMm
def aSs:=res (pr yi (pl L4 nil))
def Fv:=so Y2
def apC:=cl (ga (pu Tp aA)) nil
def aSt:=cu ep (us 2 (cu Xp (cu L5 (us 194 nil))))
def aMp:=cl (ga (pr jQ jq)) nil
def aSu:=res (pr (py (c (ra ac4) are)) (pl lk nil))
def rW:=so lr
def ah9:=cl (so aMk) nil
def aSv:=cl (so aMn) nil
def aMq:=cl (aa (c gb (c gb (a 6 (c gb (c gb (c gb (c gb (c gb uV))))) jW)))) nil
def aGB:=c mA L6
def adb:=c gi (c gi (c gi (c gi (c gi (c gi (c gi (c gi (c gi (c gi (c gi YX))))))))))
def uZ:=so aMp
def aMr:=c jo (c jo auA)
def aSw:=cl (ga (pu Tp jq)) nil
def aMs:=aa (c gi Cb)
def aMt:=cl (ga (pr jQ fX)) nil
def aGC:=cl aMp nil
def aSx:=so (c gb (c gb (c gb (c gb (c gb (c gb (c gb (c gb (cu (gc (cf (fi .i64 (int 1125899906842624)))) ah4)))))))))
def aSy:=c aLE (c jo (c jo (c jo (cl (gl 25 mF) nil))))
def aSz:=py (c (ra auD) aOf)
def aia:=so aMt
def auE:=c hI (cl hI nil)
def aAH:=res (pr aSn (pl lk nil))
def aAI:=cl aMt nil
def P1:=so aSy
def aMu:=afn (pu (nat 183) (cu (rc (cp 2 1)) (cu (rc (cp 3 3)) (cu (rc (cp 4 1)) (cu (rc (cp 5 3)) (cu (rc (cp 6 4)) nil))))))
def aMv:=c gi (c gi (cl (gc (il (pu (nat 20) (pu (ox (pu dE (pu dE L3))) (pl jQ (pu L3 iy)))))) nil))
def aSA:=c gi (c gi (cl (gc (il (pu (nat 38) (pu (ox (pu dE (pu dE L3))) (pl jQ (pu L3 iy)))))) nil))
def aMw:=c gi (c gi (cl (gc (il (pu aIL (pu (ox (pu dE (pu dE L3))) (pl jQ (pu L3 iy)))))) nil))
def aSB:=res (pu (py (cu (rc (cp 0 5)) ah6)) (pu nil (cl ix nil)))
def aMx:=cl (zM aMt) nil
def Jt:=cl aia nil
def aib:=c gi (c gi (c gi (c gi aMk)))
def aSC:=cl (cl (ga (pu Tp fX)) nil) nil
def ade:=so (c gi (c gi (cl (gc (il (pu (nat 29) (pu (ox (pu dE (pu dE L3))) (pl jQ (pu L3 iy)))))) nil)))
def auF:=so (c gi (c gi (cl (gc (il (pu (nat 28) (pu (ox (pu dE (pu dE L3))) (pl jQ (pu L3 iy)))))) nil)))
def aic:=so (cu aS apB)
def aSD:=cu eW (cu eW aMx)
def aid:=cu (so apB) (cl w7 nil)
def aSE:=cu eW (cu eW (cu eW (cu eW (cu eW (cu eW (cu eW (cu eW (cu eW (cu eW (cu eW aGu))))))))))
def aMy:=cu Tn (cu Tn (cu Tn (cu Tn (cu Tn (cu Tn (cu Tn (cu Tn (cu Tn (cu Tn (cu Tn (cu Tn aR3)))))))))))
def aMz:=c gi (c gi (c gi (a 10 Cb (cl (gc (wY 20 10)) nil))))
def aSF:=c fw (c fw (c fw (c fw (c fw (c fw (c fw (c fw (c fw fX))))))))
def aie:=cu eW aSE
def apD:=a 5 ix (c gi (c (gc (il (pu (nat 22) (pu (ox (pu dE (pu dE fO))) (pl jQ (pu fO iy)))))) kF))
def aSG:=a 5 ix (c gi (c (gc (il (pu (nat 23) (pu (ox (pu dE (pu dE fO))) (pl jQ (pu fO iy)))))) kF))
def aSH:=a 5 ix (c gi (c (gc (il (pu (nat 24) (pu (ox (pu dE (pu dE fO))) (pl jQ (pu fO iy)))))) kF))
def aSI:=a 5 ix (c gi (c (gc (il (pu (nat 25) (pu (ox (pu dE (pu dE fO))) (pl jQ (pu fO iy)))))) kF))
def aSJ:=a 5 ix (c gi (c (gc (il (pu (nat 26) (pu (ox (pu dE (pu dE fO))) (pl jQ (pu fO iy)))))) kF))
def aSK:=a 5 ix (c gi (c (gc (il (pu (nat 32) (pu (ox (pu dE (pu dE fO))) (pl jQ (pu fO iy)))))) kF))
def auG:=a 5 ix (c gi (c (gc (il (pu (nat 33) (pu (ox (pu dE (pu dE fO))) (pl jQ (pu fO iy)))))) kF))
def auH:=a 5 ix (c gi (c (gc (il (pu (nat 34) (pu (ox (pu dE (pu dE fO))) (pl jQ (pu fO iy)))))) kF))
def auI:=a 5 ix (c gi (c (gc (il (pu (nat 35) (pu (ox (pu dE (pu dE fO))) (pl jQ (pu fO iy)))))) kF))
def auJ:=a 5 ix (c gi (c (gc (il (pu (nat 36) (pu (ox (pu dE (pu dE fO))) (pl jQ (pu fO iy)))))) kF))
def auK:=a 5 ix (c gi (c (gc (il (pu (nat 37) (pu (ox (pu dE (pu dE fO))) (pl jQ (pu fO iy)))))) kF))
def aMA:=a 5 ix (c gi (c (gc (il (pu aIF (pu (ox (pu dE (pu dE fO))) (pl jQ (pu fO iy)))))) kF))
def aMB:=a 5 ix (c gi (c (gc (il (pu aIG (pu (ox (pu dE (pu dE fO))) (pl jQ (pu fO iy)))))) kF))
def aMC:=a 5 ix (c gi (c (gc (il (pu aIH (pu (ox (pu dE (pu dE fO))) (pl jQ (pu fO iy)))))) kF))
def aMD:=a 5 ix (c gi (c (gc (il (pu aII (pu (ox (pu dE (pu dE fO))) (pl jQ (pu fO iy)))))) kF))
def aME:=a 5 ix (c gi (c (gc (il (pu aIJ (pu (ox (pu dE (pu dE fO))) (pl jQ (pu fO iy)))))) kF))
def aMF:=a 5 ix (c gi (c (gc (il (pu aIK (pu (ox (pu dE (pu dE fO))) (pl jQ (pu fO iy)))))) kF))
def aSL:=res (pl ai (pu aie nil))
def HM:=so aSG
def HN:=so aSH
def HO:=so aSI
def HP:=so aSJ
def HQ:=so (a 5 ix (c gi (c (gc (il (pu (nat 27) (pu (ox (pu dE (pu dE fO))) (pl jQ (pu fO iy)))))) kF)))
def adf:=so (a 5 ix (c gi (c (gc (il (pu (nat 28) (pu (ox (pu dE (pu dE fO))) (pl jQ (pu fO iy)))))) kF)))
def aAJ:=c fw (c fw (c fw (c fw aSF)))
def aSM:=cu aS (cu aS (cu aS apB))
def L7:=ac (cfs (pr hole (pu (nat 20) aSF)))
def aSN:=c hI (c hI (c lp HK))
def aSO:=xs 3 (us 2 (xs 3 (us 2 (xs 3 (us 2 (xs 3 (us 2 (xs 3 (us 2 (xs 3 (us 2 (xs 3 (us 2 (xs 3 (us 2 (xs 3 (us 2 (xs 3 (us 2 aL0)))))))))))))))))))
def Tu:=cu rq6 (cu (nat 5) (cu rq8 (cu (nat 7) (cu ID (cu fO (cu aIL (cu aIK (cu aIJ (cu aII (cu aIH (cu aIG (cu aIF (cu L3 (cu dE (cu (nat 10) nil)))))))))))))))
def aGD:=c fw (c fw (c fw aAJ))
def aSP:=so (cl (ga (pr jQ aAJ)) nil)
def aSQ:=so (c gi (c gi (c gi (cl gi aSM))))
def aSR:=cu eW (cu eW (cu eW (cu eW (cu eW (cu eW (cu eW (cu eW (cu eW (cl aAF (cu eW aGu))))))))))
def aMG:=cu eW (cu eW (cu eW (cu eW (cu eW (cu eW (cu eW (cu eW (cu eW (cl aAF aSc)))))))))
def aMH:=cu eW aSR
def aAK:=cu dE (cu rq6 (cu (nat 5) (cu rq8 (cu (nat 7) (cu ID (cu fO (cu aIL (cu aIK (cu aIJ (cu aII (cu aIH (cu aIG (cu aIF (cu (nat 12) (cu rq7 (cu L3 (cu rq4 (cu (nat 10) nil))))))))))))))))))
def aGE:=cu aS (cu aS aSM)
def u3:=c gi (c gi (c gi (c gi (a 6 aAB (a 6 aAB aMr)))))
def aSS:=c gb (c gb (c gi (c gi (c gi (a 10 Cb (cl (gc (il (pu (nat 12) (pu (ox (pu dE (pu dE (nat 10)))) (pl jQ (pu (nat 10) iy)))))) nil))))))
def aST:=res (pu Tl (pl aMH nil))
def aif:=cu aIL (cu aIK (cu aIJ (cu aII (cu aIH (cu aIG (cu aIF (cu (nat 12) (cu L3 (cu (nat 10) (cu rq7 (cu rq4 (cu B8 (cu dE (cu rq6 (cu (nat 5) (cu rq8 (cu (nat 7) (cu ID (cu fO nil)))))))))))))))))))
def aSU:=res (pu (ac (il (pu B8 (pu yg (pu (szl rq7) (pu (nat 27) iy)))))) (pr lk (cl (c jo (c gi (c gi (c gi aMl)))) nil)))
def aSV:=cl gi (cu aS (cu aS (cu aS (cu aS (cu aS (cu aS (cu aS (cu aS (cu ac0 nil)))))))))
def aSW:=so (cu aS (cu aS aGE))
def aMI:=au 6 ada (cu am8 (a 4 Ca (cu am9 (c gb (c gi (a 3 jW (c gb (c gb (c gb (c gi (c gi (c gi (a 10 Cb (cl (gc (il (pu (nat 22) (pu (ox (pu dE (pu dE (nat 10)))) (pl jQ (pu (nat 10) iy)))))) nil))))))))))))))
def aSX:=au 6 (cu (gp 23 8) (cu (gp 24 8) (cu (gp 25 8) (cu (gp 26 8) (cu (gp 27 8) (cu (gp 28 8) nil)))))) (cu (gp 29 37) (a 4 Ca (cu (gp 30 3) (c gb (c gi (a 3 jW (c gb (c gb (c gb (c gi (c gi (c gi (a 10 Cb (cl (gc (il (pu (nat 31) (pu (ox (pu dE (pu dE (nat 10)))) (pl jQ (pu (nat 10) iy)))))) nil))))))))))))))
def aMJ:=cu (gc (cf (fi .i64 (int 8000)))) (cu (gc (cf (fi .i64 (int 40000)))) (cu (gc (cf (fi .i64 (int 16)))) (cu (gc aRr) (c gi (c gi (c gi (c gi (c gi (c gi (c gi (c gi (c gi (c gi (c gi (c gi (c jo (cl jo (cu (gc (cf (fi .i64 (int 5000000)))) (cu (gc (cf (fi .i64 (int 68719476736)))) (cu (gc auq) (cu (gc (cf (fi .i64 (int 268435456)))) (cu (gc (cf (fi .i64 (int 32)))) apB))))))))))))))))))))))
def aSY:=st (pr (us 4 (cu aIR (cu aAu (us 8 (cu (app 5 3) (cu (app 6 3) (cu (app 7 4) (cu (app 8 4) aRj)))))))) (pl (c (so ac7) (c cj (c aia (cu aut (cu YW (c w7 (c w7 (c uX (cl uX nil))))))))) aAz))
def aAL:=a 26 u3 (c gb (c jo (a 2 w8 (cu (gp 2 5) (cu (gp 3 10) (c (gc (wY 4 8)) (au 6 (cu (gp 5 8) (cu (gp 6 8) (cu (gp 7 8) (cu (gp 8 8) (cu (gp 9 8) (cu (gp 10 8) nil)))))) (cu (gp 11 37) (a 4 Ca (cu (gp 12 3) (c gb (c gi (a 3 jW (c gb (c gb (c gb (c gi (c gi (c gi (a 10 Cb (cl (gc (wY 13 10)) nil)))))))))))))))))))))
def oA:=a 26 u3 (c gb (c jo (a 2 w8 (cu afS (cu afT (c aGa (au 6 ada (cu am8 (a 4 Ca (cu am9 (c gb (c gi (a 3 jW (c gb (c gb (c gb (c gi (c gi (c gi (a 10 Cb (cl (gc (wY 12 10)) nil)))))))))))))))))))))
def aSZ:=zM (a 26 u3 (c gb (c jo (a 2 w8 (cu afS (cu afT (c aGa (au 6 ada (cu am8 (a 4 Ca (cu am9 (c gb (c gi (a 3 jW (c gb (c gb (c gb aMz)))))))))))))))))
def aMK:=c aMp (c Y2 (c Y2 (c Y2 (c Y2 (c Y2 (c Y2 aAI))))))
def L8:=c uZ (c Fv (c Fv (c Fv (c Fv (c Fv (c Fv Jt))))))
def aML:=a 26 u3 (c gb (c jo (a 2 w8 (cu (gp 20 5) (cu (gp 21 10) (c (gc (il (pu (nat 22) (pr ac5 (pl jQ (pu ID iy)))))) aSX))))))
def aMM:=a 26 u3 (c gb (c jo (a 2 w8 (cu afS (cu afT (c (gc (il (pu rq7 (pr ac5 (pl jQ (pu ID iy)))))) (au 6 ada (cu am8 (a 4 Ca (cu am9 (c gb (c gi (a 3 jW (c gb aSS))))))))))))))
def aMN:=so (a 26 u3 (c gb (c jo (a 2 w8 (cu afS (cu afT (c (gc aGy) aMI)))))))
def aAM:=so (a 26 u3 (c gb (c jo (a 2 w8 (cu afS (cu afT (c aGA aMI)))))))
def auL:=so (a 26 u3 (c gb (c jo (a 2 w8 (cu afS (cu afT (c aGA (au 6 ada (cu am8 (a 4 Ca (cu am9 (c gb (c gi (a 3 jW (c gb (c gb (c gb (c gi (c gi (c gi (a 10 Cb (cl (gc (il (pu aES (pu (ox (pu dE (pu dE (nat 10)))) (pl jQ (pu (nat 10) iy)))))) nil))))))))))))))))))))))
def aMO:=a 26 u3 (c gb (c jo (a 2 w8 (cu afS (cu afT (c aGA (au 6 ada (cu am8 (a 4 Ca (cu am9 (cu aus (c gi (a 3 jW (cu aus aSS))))))))))))))
def apE:=res (pu Tl (pl (c (zM oA) aSR) nil))
def aS0:=res (pu Tl (pr (cl aSZ (cu eW (cu eW (cu eW (cu eW (cu eW (cu eW (cu eW (cu eW (cu eW (cu eW aSc))))))))))) aGC))
def aMP:=c jY (c lr (c aMh (c aSK (c auG (c auH (c auI (c auJ (c auK (c kG (c aSA aMK))))))))))
def aAN:=c (so aML) (cu nO (cu nO (cu nO (cu nO (cu nO (cu nO (cu nO (cu nO (cu nO (cu nO (cu nO (cu nO (cu nO (cu nO (cu nO (cu nO (cu nO (cu nO (cu nO (c rV (c rW (c uY (c (so aSK) (c (so auG) (c (so auH) (c (so auI) (c (so auJ) (c (so auK) (c pY (c (so aSA) L8))))))))))))))))))))))))))))))
def aMQ:=st (pr (cu ep (us 2 (cu Xp (cu L5 (us 178 (cu ep (cu ep (cu aRX aRf)))))))) (pl (c auL (c rV (c rW (c uY (c (so apD) (c HM (c HN (c HO (c HP (c HQ (c pY (c auF (c uZ (cu nO (cu nO (cu nO (cu nO (cu nO (cu nO (cu nO (c C8 L8))))))))))))))))))))) Tu))
def aMR:=st (pr (cu ep (us 2 (cu Xp (cu L5 (us 178 (cu ep (cu ep (cu aRX (c ab (cu ep (cu ep (cu (ac (LD (pu dE (pu (ok' (nat 411)) B8)))) (cu (app 11 3) (cu L5 (cu ep (cu ep (cu (ac (LD (pu dE (pu (ok' (nat 73)) (nat 24))))) (c jX (cu (app 20 1) wZ))))))))))))))))))) (pl (c auL (c rV (c rW (c uY (c (so apD) (c HM (c HN (c HO (c HP (c HQ (c pY (c auF (c uZ (cu nO (cu nO (cu nO (cu nO (cu nO (cu nO (cu nO (c C8 L8))))))))))))))))))))) Tu))
end
open Go.Ab
abbrev TP:=Tryz.prog
abbrev D0 {β δ:Type}(l:List Ct)(n:Nat)(Q:RA β)(R:δ->T)(B:β->Pg δ):Prop:=aih TP l ⟨[],[],[],[],none⟩ 2000 n Q R B
abbrev D1 {β δ:Type}(l:List Ct)(d0:List Nat)(n:Nat)(Q:RA β)(R:δ->T)(B:β->Pg δ):Prop:=aih TP l ⟨[],[],d0,[],none⟩ 2000 n Q R B
abbrev D2 {β δ:Type}(k:KK)(Q:RA β)(R:δ->T)(B:β->Pg δ):Prop:=aih TP k.l k.hs 2000 k.n Q R B
abbrev LI {D X:Type}(k:KK)(id:Nat)(Q:RS D)(E:∀{ρ:Type},X->(AX->St->Option ρ)->Option ρ)(S:D->Pg (D⊕X)):Prop:=aOh TP k.l k.hs k.kk 2000 k.n id Q E S
abbrev JI {D X:Type}(k:KK)(id:Nat)(Q:RS D)(E:∀{ρ:Type},X->(AX->St->Option ρ)->Option ρ)(S:D->Pg X):Prop:=aOi TP k.l k.hs k.kk 2000 k.n id Q E S
section
variable [ax]
abbrev SC (e:Ct):Prop:=Snd TP e
theorem sc {e:Ct}{n:Nat}{F:C9}(S:Sound TP n F)(h:e=(n,F):=by kernel_rfl):SC e:=Snd.of S h
theorem k0 {β δ:Type}{l:List Ct}{d0:List Nat}{n:Nat}{Q:RA β}{R:δ->T}{B:β->Pg δ}(hl:HR TP l)(h:aih TP l ⟨[],[],d0,[],none⟩ 2000 n Q R B)(hc:Es TP n=true:=by kernel_rfl):Sound TP n (FC Q R λb=>(B b).val):=mk0 mixed hl hc h
theorem s0 {β δ:Type}{e:Ct}{l:List Ct}{d0:List Nat}{n:Nat}{Q:RA β}{R:δ->T}{B:β->Pg δ}(hl:HR TP l)(h:aih TP l ⟨[],[],d0,[],none⟩ 2000 n Q R B)(he:e=(n,FC Q R λb=>(B b).val):=by kernel_rfl)(hc:Es TP n=true:=by kernel_rfl):SC e:=Snd.of (mk0 mixed hl hc h) he
theorem kS {β δ:Type}{k:KK}{Q:RA β}{R:δ->T}{B:β->Pg δ}(hl:HR TP k.l)(i j:List Nat)
  (h1:zp (λa=>∀kk,L9 TP (C' k.l) k.hs (tmpsOf TP k.n) kk 2000 a) (i.map (Xq TP k.n)))
  (h2:zp (λb=>∀kk,arf TP (C' k.l) k.hs (tmpsOf TP k.n) kk 2000 b) (j.map (adg TP k.n)))
  (h:D2 k Q R B)(e1:Ju (Xr TP k.n)=i.map (Xq TP k.n):=by kernel_rfl)(e2:Jv k.hs (Xr TP k.n)=j.map (adg TP k.n):=by kernel_rfl)(hc:Es TP k.n=true:=by kernel_rfl):
  Sound TP k.n (FC Q R λb=>(B b).val):=mkS mixed hl hc (Jw.by e1 h1 e2 h2) h
theorem kL {D X:Type}{k:KK}{id:Nat}{Q:RS D}{E:∀{ρ:Type},X->(AX->St->Option ρ)->Option ρ}{S:D->Pg (D⊕X)}(h:LI k id Q E S)
  (h0:ana k.hs (Xq TP k.n id)=some (fx id k.kk Q E (bD S 2000)):=by kernel_rfl):∀k',L9 TP (C' k.l) k.hs (tmpsOf TP k.n) k' 2000 (Xq TP k.n id):=mkL h0 h
theorem kJ {D X:Type}{k:KK}{id:Nat}{Q:RS D}{E:∀{ρ:Type},X->(AX->St->Option ρ)->Option ρ}{S:D->Pg X}(hd:Hd)(h:JI k id Q E S)
  (h0:awv k.hs (adg TP k.n id)=some ⟨hd,fx id k.kk Q E λd=>(S d).val⟩:=by kernel_rfl):∀k',arf TP (C' k.l) k.hs (tmpsOf TP k.n) k' 2000 (adg TP k.n id):=mkJ h0 h
theorem kN {k:KK}{c:Code}(h:ana k.hs c=none:=by kernel_rfl):∀k',L9 TP (C' k.l) k.hs (tmpsOf TP k.n) k' 2000 c:=L9.no h
end
end Go.Proofs.YtldgljclcgaibaaGreat
namespace Go.Ab
variable [ax]
omit [ax] in
theorem awT:∀{h:List af} {cs:List Ch} {j:Nat},cs[j]? =some .kill->(((after h cs)[j]?).getD none)=none
 | [],cs,j,_=>by simp[after]
 |b0::bs,[],j,h=>by simp at h
 |b0::bs,c::cs,0,h=>by
  simp only[List.getElem?_cons_zero,Option.some.injEq] at h
  subst h;simp[after]
 |b0::bs,c::cs,j+1,h=>by
  have:=awT (h:=bs) (cs:=cs) (j:=j) (by simpa using h)
  cases c<;>simpa[after] using this
theorem au9 {P:Program}{π:Pi}{w w':World}{h:List af}{cs:List Ch}{k:af}{val:AV}{v:Value}{B s e:Nat}(hH:pZ π (hC (h.map some)) (hZ (h.map some)) w)(iW:∀b,π b≠none->b<h.length)
  (HV:∀b,b<h.length->cs[b]? =some .kY∨cs[b]? =some .kill)(hfr:bT w (Bg π h.length (P7 cs)) w')(hle:s+af.size k<=e)(oq:∀i,s<=i->i<e->(cl w' B i).isSome=true∧fz w' B i=false)
  (hk:∀j,j<af.size k->∃v,cl w' B (s+j)=some v∧(af.get k j).rel π v)
  (hpl:(w.heap.size<=B)∨∃b s0 q0 e0,b<h.length∧cs[b]? =some .kill∧π b=some (B,s0,q0,e0)∧s0<=s∧e<=e0)
  (ham:yo w')(hlb:s<e->ax.h0<=B)(hv:∀π':Pi,Ext π π'->π' h.length=some (B,s,af.size k,e)->val.rel π' v):
  aFs P π w h ⟨val,cs,[k]⟩ (.returned v) w':=by
 have h0:π h.length=none:=by
  cases hh:π h.length with
  |none=>rfl
  |some p=>exact absurd (iW _ (by rw[hh];simp)) (Nat.lt_irrefl _)
 have hx:=yp h0 (B,s,af.size k,e)
 have ava:=nZ π h.length (B,s,af.size k,e)
 have adK:∀b,b≠h.length->xT π h.length (B,s,af.size k,e) b=π b:=λb hb=>by simp only[xT,if_neg hb]
 have aWf:(ns.heap ⟨val,cs,[k]⟩ h)[h.length]? =some (some k):=Y9 (r:=⟨val,cs,[k]⟩) (h:=h) (k:=0) rfl
 have hlen:(ns.heap ⟨val,cs,[k]⟩ h).length=h.length+1:=by simp[ns.heap,lL]
 have live:∀b,hZ (ns.heap ⟨val,cs,[k]⟩ h) b≠none->b=h.length∨(b<h.length∧cs[b]? =some .kY∧∃kb,h[b]? =some kb∧(ns.heap ⟨val,cs,[k]⟩ h)[b]? =some (some kb)):=λb hb=>by
  rcases Nat.lt_trichotomy b h.length with me|heq|hgt
  ·right
   rcases HV b me with hc|hc
   ·have hkb:h[b]? =some (h[b]'me):=List.getElem?_eq_getElem _
    exact⟨me,hc,_,hkb,(BN me).trans (adG.2 hc _ hkb)⟩
   ·exfalso;apply hb
    unfold hZ
    rw[BN me,awT hc];rfl
  ·exact .inl heq
  ·exfalso;apply hb
   unfold hZ
   rw[List.getElem?_eq_none (by omega)];rfl
 have kept:∀b kb,b<h.length->cs[b]? =some .kY->h[b]? =some kb->∃Bb sb eb,π b=some (Bb,sb,af.size kb,eb)∧sb+af.size kb<=eb∧
   (∀i,sb<=i->i<eb->(cl w' Bb i).isSome=true∧fz w' Bb i=false)∧(∀j,j<af.size kb->∃v,cl w' Bb (sb+j)=some v∧(af.get kb j).rel π v)∧∀i,sb<=i->i<eb->Bb<w.heap.size∧¬Bg π h.length (P7 cs) Bb i:=λb kb me hc hkb=>by
  have hzb:hZ (h.map some) b=some (af.size kb):=by rw[NO,hkb];rfl
  obtain⟨Bb,sb,eb,p1,p2,p3,p4⟩:=hH.hp b _ hzb
  have hnf:∀i,sb<=i->i<eb->Bb<w.heap.size∧¬Bg π h.length (P7 cs) Bb i:=λi i1 i2=>by
   refine⟨Y7 (p3 i i1 i2).1,?_⟩
   rintro ⟨b2,s2,q2,e2,Da,hd2,hp2,j1,j2⟩
   have kZ:b≠b2:=λe=>by subst e;exact hd2 hc
   have hz2:hZ (h.map some) b2≠none:=by
    rw[NO,List.getElem?_eq_getElem Da];simp
   exact hH.dj b b2 Bb sb _ eb s2 q2 e2 kZ (by rw[hzb];simp) hz2 p1 hp2 i i1 i2 j1 j2
  refine⟨Bb,sb,eb,p1,p2,λi i1 i2=> ?_,λj hj=> ?_,hnf⟩
  ·obtain⟨hB,hn⟩:=hnf i i1 i2
   rw[hfr.cl hB hn,hfr.fz hB];exact p3 i i1 i2
  ·obtain⟨v,hv1,hv2⟩:=p4 j hj
   obtain⟨hB,hn⟩:=hnf (sb+j) (by omega) (by omega)
   refine⟨v,by rw[hfr.cl hB hn];exact hv1,?_⟩
   rw[aAl hkb hj] at hv2;exact hv2
 have apart:∀b kb Bb sb qb eb,b<h.length->cs[b]? =some .kY->h[b]? =some kb->π b=some (Bb,sb,qb,eb)->Bb=B->∀i,sb<=i->i<eb->s<=i->i<e->False:=λb kb Bb sb qb eb me hc hkb hpb hBB i i1 i2 i3 i4=>by
  obtain⟨B1,s1,e1,q1,_,_,_,q5⟩:=kept b kb me hc hkb
  rw[hpb] at q1;cases q1
  obtain⟨hB,hn⟩:=q5 i i1 i2
  rcases hpl with hpl| ⟨b2,s2,q2,e2,Da,hc2,hp2,j1,j2⟩
  ·omega
  ·apply hn
   rw[hBB]
   exact⟨b2,s2,q2,e2,Da,by unfold P7;rw[hc2];simp,hp2,by omega,by omega⟩
 refine⟨xT π h.length (B,s,af.size k,e),v,rfl,hx,hv _ hx ava,⟨ham,λb B1 s1 q1 e1 hz hp zn=> ?_,λb n hz=> ?_,λb b' B1 s1 q1 e1 s2 q2 e2 kZ hz rM hp rX i i1 i2 i3 i4=> ?_⟩,hfr,λb hb=> ?_,λb B1 s1 q1 e1 aYm hb hB i i1 i2=> ?_⟩
 ·rcases live b hz with rfl| ⟨me,hc,kb,hkb,_⟩
  ·rw[ava] at hp;cases hp
   exact hlb zn
  ·rw[adK b (by omega)] at hp
   exact hH.lb b B1 s1 q1 e1 (by rw[NO,hkb];simp) hp zn
 ·rcases live b (by rw[hz];simp) with rfl| ⟨me,hc,kb,hkb,hgb⟩
  ·rw[XF aWf] at hz;cases hz
   refine⟨B,s,e,ava,hle,oq,λj hj=> ?_⟩
   obtain⟨v,hv1,hv2⟩:=hk j hj
   refine⟨v,hv1,?_⟩
   rw[adH aWf hj];exact CV.c7 hx _ _ hv2
  ·rw[XF hgb] at hz;cases hz
   obtain⟨Bb,sb,eb,p1,p2,p3,p4,_⟩:=kept b kb me hc hkb
   refine⟨Bb,sb,eb,by rw[adK b (by omega)];exact p1,p2,p3,λj hj=> ?_⟩
   obtain⟨v,hv1,hv2⟩:=p4 j hj
   refine⟨v,hv1,?_⟩
   rw[adH hgb hj];exact CV.c7 hx _ _ hv2
 ·rcases live b hz with rfl| ⟨me,hc,kb,hkb,_⟩
  ·rcases live b' rM with rfl| ⟨aWg,hc',kb',aTS,_⟩
   ·exact kZ rfl
   ·rw[ava] at hp;cases hp
    rw[adK b' (by omega)] at rX
    exact apart b' kb' _ _ _ _ aWg hc' aTS rX rfl i i3 i4 i1 i2
  ·rw[adK b (by omega)] at hp
   rcases live b' rM with rfl| ⟨aWg,hc',kb',aTS,_⟩
   ·rw[ava] at rX;cases rX
    exact apart b kb _ _ _ _ me hc hkb hp rfl i i1 i2 i3 i4
   ·rw[adK b' (by omega)] at rX
    have hz1:hZ (h.map some) b≠none:=by rw[NO,hkb];simp
    have hz2:hZ (h.map some) b'≠none:=by rw[NO,aTS];simp
    exact hH.dj b b' B1 s1 q1 e1 s2 q2 e2 kZ hz1 hz2 hp rX i i1 i2 i3 i4
 ·show b<h.length+1
  by_cases e:b=h.length
  ·omega
  ·rw[adK b e] at hb
   have:=iW b hb;omega
 ·by_cases e':b=h.length
  ·subst e'
   rw[ava] at hb;cases hb
   rcases hpl with hpl| ⟨b2,s2,q2,e2,Da,hc2,hp2,j1,j2⟩
   ·omega
   ·exact⟨b2,s2,q2,e2,Da,by unfold P7;rw[hc2];simp,hp2,by omega,by omega⟩
  ·rw[adK b e'] at hb
   have:=iW b (by rw[hb];simp);omega
end Go.Ab
namespace Go.Proofs.YtldgljclcgaibaaGreat
open Go.RowKit Go.Lib Go.Ab
theorem XI {P:Program}(w:World)(dT sT ty e:TypeId)(z b o aOP aYt:Nat)(a:Addr)(aJR aWh:Nat)(cs:List Value)(hu:P.underlying dT=some (.slice e))(hz:gK P e=some z)(hn:cs.length=Nat.min aJR aOP*z)
  (aYu:∀j v,cs[j]? =some v->w.cell? (a.add j)=some v)(hc:∀j,j<cs.length->(w.cell? ⟨b,o+j,none⟩).isSome=true)(hf:∀j,j<cs.length->w.frozen? ⟨b,o+j,none⟩=false)(h1:∀v∈cs,v.oneCell'=true):
  (Builtin.copy_ #[dT,sT] ty #[.slice (some ⟨b,o,none⟩) aOP aYt,.slice (some a) aJR aWh]).run P w=.ok (goInt (Nat.min aJR aOP)) (w.setCells b o cs):=by
 have hl:=run_firstCells_some (P:=P) w z (Nat.min aJR aOP) a aJR aWh cs hn aYu
 have hst:=run_storeCells_cells (P:=P) b o cs 0 w (by simpa using hc) (by simpa using hf) h1
 simp[Builtin.copy_,run_underlying hu,Builtin.lenOf,Ab.run_sizeOf hz,hl,hst]
theorem uT:Tryz.prog.underlying 140=some (.slice 42):=by kernel_rfl
theorem uE:gK Tryz.prog 42=some 9:=by kernel_rfl
set_option maxHeartbeats 4000000 in
set_option maxRecDepth 100000 in
theorem aNm (b off n c i vb Bi vc:Nat)(cs vs:List Value)(w:World)(hi:i<n)(P6:n+1<=c)(hvb:vb=b->Bi+9<=off∨off+(n+1)*9<=Bi)(Cd:cs.length=n*9)(hvl:vs.length=9)(a0T:n+1<=9223372036854775807)
  (HV:∀j v,cs[j]? =some v->w.cell? ⟨b,off+j,none⟩=some v)(hsp:∀j,j<(n+1)*9->(w.cell? ⟨b,off+j,none⟩).isSome=true)(hfz:∀j,j<(n+1)*9->w.frozen? ⟨b,off+j,none⟩=false)
  (hvs:∀j v,vs[j]? =some v->w.cell? ⟨vb,Bi+j,none⟩=some v)(h1c:∀v∈cs,v.oneCell'=true)(h1v:∀v∈vs,v.oneCell'=true)
  (hov:∀cb,(callFunc 145 #[.slice (some ⟨vb,Bi,none⟩) 1 vc,.slice (some ⟨b,off+(i+1)*9,none⟩) (n-i) cb]).run Tryz.prog w=.ok (.value (.bool false)) w):
  Calls Tryz.prog 97 #[.slice (some ⟨b,off,none⟩) n c,.int .i64 i,.slice (some ⟨vb,Bi,none⟩) 1 vc] w λe w'=>
   e=.returned (.slice (some ⟨b,off,none⟩) (n+1) c)∧w'=(w.drew.setCells b (off+(i+1)*9) (cs.drop (i*9))).setCells b (off+i*9) vs:=by
 have mixed:=mixed
 have hz2:¬((i:Int)=(n:Int)):=by omega
 have hdl:(cs.drop (i*9)).length=(n-i)*9:=by rw[List.length_drop,Cd];omega
 have hw1:IntKind.i64.wrap ((i:Int)+1)=(i:Int)+1:=by rw[IntKind.wrap_i64];omega
 have hw2:IntKind.i64.wrap ((n:Int)+1)=(n:Int)+1:=by rw[IntKind.wrap_i64];omega
 have hb1:(0:Int)<=(i:Int)+1:=by omega
 have hin:i<=n:=by omega
 have htn:((i:Int)+1).toNat=i+1:=by omega
 have Da:¬(c=i+1):=by omega
 have hb3:(i:Int)<=(n:Int)+1:=by omega
 have hb4:¬(c=i):=by omega
 have hb5:¬((c:Int)<(n:Int)+1):=by omega
 have aWi:∀ty dc sc,(Builtin.copy_ #[140,140] ty #[.slice (some ⟨b,off+(i+1)*9,none⟩) (n-i) dc,.slice (some ⟨b,off+i*9,none⟩) (n+1-i) sc]).run Tryz.prog w.drew=.ok (goInt (Nat.min (n+1-i) (n-i))) (w.drew.setCells b (off+(i+1)*9) (cs.drop (i*9))):=λty dc sc=>
  XI w.drew _ _ ty 42 9 b (off+(i+1)*9) (n-i) dc ⟨b,off+i*9,none⟩ (n+1-i) sc (cs.drop (i*9)) uT uE (by rw[hdl];simp only[Nat.min_def];split<;>omega)
   (λj v hj=>by rw[Addr.add_lit,Nat.add_assoc];exact HV (i*9+j) v (by rwa [List.getElem?_drop] at hj))
   (λj hj=>by rw[Nat.add_assoc];exact hsp _ (by omega)) (λj hj=>by rw[Nat.add_assoc];exact hfz _ (by omega)) (λv hv=>h1c v (List.mem_of_mem_drop hv))
 obtain⟨W1,hW1⟩:∃W1,W1=w.drew.setCells b (off+(i+1)*9) (cs.drop (i*9)):=⟨_,rfl⟩
 have aYv:∀k,k<(n+1)*9->(W1.cell? ⟨b,off+k,none⟩).isSome=true:=λk hk=>by
  rw[hW1]
  exact Go.Proofs.isSome_setCells b _ _ _ (λj hj=>by rw[Nat.add_assoc];exact hsp _ (by omega)) _ (hsp k hk)
 have aYw:∀(W:World),(∀x,W.cell? x=W1.cell? x)->(∀x,W.frozen? x=W1.frozen? x)->∀ty dc,(Builtin.copy_ #[140,140] ty #[.slice (some ⟨b,off+i*9,none⟩) (n+1-i) dc,.slice (some ⟨vb,Bi,none⟩) 1 vc]).run Tryz.prog W=.ok (goInt (Nat.min 1 (n+1-i))) (W.setCells b (off+i*9) vs):=λW hWc hWf ty dc=>
  XI W _ _ ty 42 9 b (off+i*9) (n+1-i) dc ⟨vb,Bi,none⟩ 1 vc vs uT uE (by rw[hvl];simp only[Nat.min_def];split<;>omega)
   (λj v hj=>by
    have hj9:=(List.getElem?_eq_some_iff.1 hj).1
    rw[Addr.add_lit,hWc,hW1,World.cell?_setCells_out b _ _ _ _ (λh _=>by
     have:=hvb h
     show Bi+j<_∨_<=Bi+j
     omega)]
    exact hvs j v hj)
   (λj hj=>by rw[hWc,Nat.add_assoc];exact aYv _ (by omega)) (λj hj=>by rw[hWf,hW1,World.frozen?_setCells,Nat.add_assoc];exact hfz _ (by omega)) h1v
 rw[<-hW1] at aWi
 go_enter Tryz.func97,Tryz.ntmps97
 go_wp2_with (simp only[hov])
 go_region_law_o (refine step_copy_runI rfl _ _ 140 140 rfl _ _ (by simp[Act.eval,Act.put]) (by simp[Act.eval,Act.put]) (aWi _ _ _) ?_)
 go_wp2_with (at_builtin;refine wpList_copy_runI _ rfl _ _ 140 140 rfl _ _ rfl rfl (aYw _ (λ_=>rfl) (λ_=>rfl) _ _) ?_)
 go_ret
 first|exact⟨rfl,rfl⟩|exact⟨rfl,by rw[hW1]⟩
set_option maxHeartbeats 4000000 in
set_option maxRecDepth 100000 in
theorem aJS (base:Option Addr)(n c vb Bi vc:Nat)(w w2:World)(v2:Value)
  (hrz:∀ty,(Builtin.append_ #[140,140] ty #[.slice base n c,.slice (some ⟨vb,Bi,none⟩) 1 vc]).run Tryz.prog w=.ok v2 w2):
  Calls Tryz.prog 97 #[.slice base n c,.int .i64 n,.slice (some ⟨vb,Bi,none⟩) 1 vc] w λe w'=>e=.returned v2∧w'=w2:=by
 have mixed:=mixed
 go_enter Tryz.func97,Tryz.ntmps97
 go_wp2_with (at_builtin;refine Lib.wpList_append_run _ rfl _ _ _ _ rfl _ _ rfl rfl _ _ (hrz _) ?_)
 all_goals (go_ret;exact⟨rfl,rfl⟩)
theorem iE:∃i z,Tryz.prog.info? 42=some i∧i.zero=some z∧i.size=9∧i.bytes=72∧z.cells.size=9:=by
 have h:(Tryz.prog.info? 42).map (λi=>(i.size,i.bytes,(i.zero.map λz=>z.cells.size)))=some (9,72,some 9):=by kernel_rfl
 cases hi:Tryz.prog.info? 42 with
 |none=>rw[hi] at h;cases h
 |some i=>
  rw[hi] at h
  simp only[Option.map_some,Option.some.injEq,Prod.mk.injEq] at h
  obtain⟨h1,h2,h3⟩:=h
  cases hz:i.zero with
  |none=>rw[hz] at h3;cases h3
  |some z=>rw[hz] at h3;exact⟨i,z,rfl,hz,h1,h2,by simpa using h3⟩
theorem uI:Tryz.prog.underlying 3=some (.int .i64):=by kernel_rfl
set_option maxHeartbeats 4000000 in
set_option maxRecDepth 100000 in
theorem aPY (b off n c i vb Bi vc:Nat)(cs vs:List Value)(w:World)(hi:i<n)(hnc:n<=c)(P6:c<n+1)(awF:(n+1)*72<=140737488355328)(Cd:cs.length=n*9)(hvl:vs.length=9)
  (HV:∀j v,cs[j]? =some v->w.cell? ⟨b,off+j,none⟩=some v)(hvs:∀j v,vs[j]? =some v->w.cell? ⟨vb,Bi+j,none⟩=some v)(h1c:∀v∈cs,v.oneCell'=true)(h1v:∀v∈vs,v.oneCell'=true):
  ∃G Bj,n+1<=G∧Bj.size=G*9∧(∀j v,j<i*9->cs[j]? =some v->Bj[j]? =some v)∧
  Calls Tryz.prog 97 #[.slice (some ⟨b,off,none⟩) n c,.int .i64 i,.slice (some ⟨vb,Bi,none⟩) 1 vc] w λe w'=>
   e=.returned (.slice (some ⟨w.heap.size,0,none⟩) (n+1) G)∧
   w'=(((w.alloc (.cells Bj 42)).drew.setCells w.heap.size (i*9) vs).drew).setCells w.heap.size ((i+1)*9) (cs.drop (i*9)):=by
 have mixed:=mixed
 obtain⟨i0,z0,hi0,LA,hzs,hzb,hzl⟩:=iE
 have hz2:¬((i:Int)=(n:Int)):=by omega
 have hz3:(c:Int)<(n:Int)+1:=by omega
 have hbw:b<w.heap.size:=block_lt_of_cell (HV 0 _ (List.getElem?_eq_getElem (by omega)))
 have hvw:vb<w.heap.size:=block_lt_of_cell (hvs 0 _ (List.getElem?_eq_getElem (by omega)))
 have hkk:(n:Int)+1-(i:Int)=((n+1-i:Nat):Int):=by omega
 have hik:i+(n+1-i)=n+1:=by omega
 have htl:(cs.take (i*9)).length=i*9:=by rw[List.length_take];omega
 have hold:(Builtin.firstCells i0.size i (.slice (some ⟨b,off,none⟩) i c)).run Tryz.prog w.drew=.ok (cs.take (i*9)).toArray w.drew:=by
  rw[hzs]
  exact run_firstCells_some w.drew 9 i ⟨b,off,none⟩ i c (cs.take (i*9)) htl (λj v hj=>by
   rw[Addr.add_lit]
   rw[List.getElem?_take] at hj
   split at hj
   ·exact HV j v hj
   ·cases hj)
 have hrz:∀ty,(Builtin.append_ #[140,3] ty #[.slice (some ⟨b,off,none⟩) i c,.int .i64 ((n:Int)+1-(i:Int))]).run Tryz.prog w=
   .ok (.slice (some ⟨w.heap.size,0,none⟩) (n+1) (grownCap w (n+1) c 42)) (w.drew.alloc (.cells ((cs.take (i*9)).toArray++Builtin.zeroCells z0.cells (n+1-i)++Builtin.zeroCells z0.cells (grownCap w (n+1) c 42-(n+1))) 42)):=λty=>by
  have h:=Lib.run_append_grow_zeros w 140 3 ty 42 i0 _ .i64 .i64 uT uI hi0 LA (some ⟨b,off,none⟩) i c (cs.take (i*9)) hold (n+1-i) (by omega) (by omega) (by omega) (by omega) (by rw[hzb];omega) (by rw[hzb,hik];exact growslice_fits P6 awF)
  rw[hik] at h
  rw[hkk]
  exact h
 have hGn:n+1<=grownCap w (n+1) c 42:=grownCap_ge w _ _ _
 obtain⟨G,hG⟩:∃G,G=grownCap w (n+1) c 42:=⟨_,rfl⟩
 obtain⟨Bj,aOQ⟩:∃Bj:Array Value,Bj=(cs.take (i*9)).toArray++Builtin.zeroCells z0.cells (n+1-i)++Builtin.zeroCells z0.cells (G-(n+1)):=⟨_,rfl⟩
 rw[<-hG] at hrz hGn
 rw[<-aOQ] at hrz
 have hRs:Bj.size=G*9:=by
  rw[aOQ]
  simp only[Array.size_append,List.size_toArray,htl,size_zeroCells,hzl]
  omega
 refine⟨G,Bj,hGn,hRs,λj v hj hv=> ?_,?_⟩
 ·rw[aOQ,Array.getElem?_append_left (by simp[htl];omega),Array.getElem?_append_left (by simp[htl];omega)]
  simp only[List.getElem?_toArray]
  rw[List.getElem?_take,if_pos hj];exact hv
 have hRl:(n+1)*9<=Bj.size:=by rw[hRs];exact Nat.mul_le_mul_right _ hGn
 obtain⟨W1,hW1⟩:∃W1,W1=w.drew.alloc (.cells Bj 42):=⟨_,rfl⟩
 rw[<-hW1] at hrz
 have hN:∀j,j<(n+1)*9->(W1.cell? ⟨w.heap.size,j,none⟩).isSome=true:=λj hj=>by
  rw[hW1,World.cell?_alloc_at (w:=w.drew) Bj _ w.heap.size j rfl,Array.getElem?_eq_getElem (by omega)];rfl
 have hNf:∀j,W1.frozen? ⟨w.heap.size,j,none⟩=false:=λj=>by rw[hW1];exact World.frozen?_alloc_at (w:=w.drew) Bj _ w.heap.size j rfl
 have hOb:∀j v,w.cell? ⟨b,j,none⟩=some v->W1.cell? ⟨b,j,none⟩=some v:=λj v h=>by rw[hW1,World.cell?_alloc_past (w:=w.drew) _ b j hbw];exact h
 have hOv:∀j v,w.cell? ⟨vb,j,none⟩=some v->W1.cell? ⟨vb,j,none⟩=some v:=λj v h=>by rw[hW1,World.cell?_alloc_past (w:=w.drew) _ vb j hvw];exact h
 have aYx:∀(W:World),(∀x,W.cell? x=W1.cell? x)->(∀x,W.frozen? x=W1.frozen? x)->∀ty dc,(Builtin.copy_ #[140,140] ty #[.slice (some ⟨w.heap.size,i*9,none⟩) (n+1-i) dc,.slice (some ⟨vb,Bi,none⟩) 1 vc]).run Tryz.prog W=.ok (goInt (Nat.min 1 (n+1-i))) (W.setCells w.heap.size (i*9) vs):=λW hWc hWf ty dc=>
  XI W _ _ ty 42 9 w.heap.size (i*9) (n+1-i) dc ⟨vb,Bi,none⟩ 1 vc vs uT uE (by rw[hvl];simp only[Nat.min_def];split<;>omega)
   (λj v hj=>by rw[Addr.add_lit,hWc];exact hOv _ v (hvs j v hj))
   (λj hj=>by rw[hWc];exact hN _ (by omega)) (λj hj=>by rw[hWf];exact hNf _) h1v
 have hGi:¬(G=i):=by omega
 have a0U:¬(G=i+1):=by omega
 have hci:¬(c=i):=by omega
 have hbN:b≠w.heap.size:=by omega
 have hdl:(cs.drop (i*9)).length=(n-i)*9:=by rw[List.length_drop,Cd];omega
 have aWj:∀(W:World),(∀x,W.cell? x=(W1.setCells w.heap.size (i*9) vs).cell? x)->(∀x,W.frozen? x=(W1.setCells w.heap.size (i*9) vs).frozen? x)->∀ty dc sc,(Builtin.copy_ #[140,140] ty #[.slice (some ⟨w.heap.size,(i+1)*9,none⟩) (n-i) dc,.slice (some ⟨b,off+i*9,none⟩) (n-i) sc]).run Tryz.prog W=.ok (goInt (Nat.min (n-i) (n-i))) (W.setCells w.heap.size ((i+1)*9) (cs.drop (i*9))):=λW hWc hWf ty dc sc=>
  XI W _ _ ty 42 9 w.heap.size ((i+1)*9) (n-i) dc ⟨b,off+i*9,none⟩ (n-i) sc (cs.drop (i*9)) uT uE (by rw[hdl];simp only[Nat.min_def];split<;>omega)
   (λj v hj=>by
    rw[Addr.add_lit,hWc,World.cell?_setCells_out _ _ _ _ _ (λh _=>absurd h hbN),Nat.add_assoc]
    exact hOb _ v (HV (i*9+j) v (by rwa [List.getElem?_drop] at hj)))
   (λj hj=>by rw[hWc];exact Go.Proofs.isSome_setCells _ _ _ _ (λt ht=>hN _ (by omega)) _ (hN _ (by omega)))
   (λj hj=>by rw[hWf,World.frozen?_setCells];exact hNf _) (λv hv=>h1c v (List.mem_of_mem_drop hv))
 subst hW1
 have hE1:∀x,((w.alloc (.cells Bj 42)).drew).cell? x=(w.drew.alloc (.cells Bj 42)).cell? x:=λx=>rfl
 have hE2:∀x,((w.alloc (.cells Bj 42)).drew).frozen? x=(w.drew.alloc (.cells Bj 42)).frozen? x:=λx=>rfl
 have hF1:∀x,(((w.alloc (.cells Bj 42)).drew.setCells w.heap.size (i*9) vs).drew).cell? x=((w.drew.alloc (.cells Bj 42)).setCells w.heap.size (i*9) vs).cell? x:=λx=>rfl
 have hF2:∀x,(((w.alloc (.cells Bj 42)).drew.setCells w.heap.size (i*9) vs).drew).frozen? x=((w.drew.alloc (.cells Bj 42)).setCells w.heap.size (i*9) vs).frozen? x:=λx=>rfl
 have hw1:IntKind.i64.wrap ((i:Int)+1)=(i:Int)+1:=by rw[IntKind.wrap_i64];omega
 have hw2:IntKind.i64.wrap ((n:Int)+1)=(n:Int)+1:=by rw[IntKind.wrap_i64];omega
 have hw3:IntKind.i64.wrap ((n:Int)+1-(i:Int))=(n:Int)+1-(i:Int):=by rw[IntKind.wrap_i64];omega
 have hb1:(0:Int)<=(i:Int)+1:=by omega
 have hin:i<=n:=by omega
 have htn:((i:Int)+1).toNat=i+1:=by omega
 have hb3:(i:Int)<=(n:Int):=by omega
 clear hkk hik hold aOQ hG hRl hRs
 go_enter Tryz.func97,Tryz.ntmps97
 go_wp2_with (first
  |(at_builtin;refine Lib.wpList_append_run _ rfl _ _ _ _ rfl _ _ rfl rfl _ _ (hrz _) ?_)
  |(at_builtin;refine wpList_copy_runI _ rfl _ _ 140 140 rfl _ _ rfl rfl (aYx _ hE1 hE2 _ _) ?_)
  |(at_builtin;refine wpList_copy_runI _ rfl _ _ 140 140 rfl _ _ rfl rfl (aWj _ (λ_=>rfl) (λ_=>rfl) _ _ _) ?_))
 go_region_law_o (refine step_copy_runI rfl _ _ 140 140 rfl (.slice (some ⟨w.heap.size,(i+1)*9,none⟩) (n-i) (G-(i+1))) (.slice (some ⟨b,off+i*9,none⟩) (n-i) (c-i)) (by simp[Act.eval,Act.put]) (by simp[Act.eval,Act.put]) (aWj _ hF1 hF2 3 (G-(i+1)) (c-i)) ?_)
 go_wp2
 go_ret
 exact⟨rfl,rfl⟩
theorem arK {P:Program}{ops:Array Oper}{o:Oper}{a:Act}{w:World}{K:Act->World->Prop}{Q:Exit->Act->World->Prop}{E:Prop}
  (hg:o.guard=none)(d x:Operand)(dT sT:TypeId)(oB:o.op=Op.call {callee:=Callee.builtin Builtin.append,args:=#[d,x],argTypes:=#[dT,sT]})
  (v u:Value)(hd:a.eval d=v)(hx:a.eval x=u){v':Value}{w':World}(hr:(Builtin.append_ #[dT,sT] o.type #[v,u]).run P w=.ok v' w')(hK:K (a.put o.dst v') w'):
  if Region.wanted o (yielded ops a.tmps)=true then Oper.wp P o a w K Q else E:=by
 have hw:Region.wanted o (yielded ops a.tmps)=true:=by simp[Region.wanted,hg]
 rw[if_pos hw]
 unfold Oper.wp
 simp[execOp,oB,resolve,invoke,builtin,hd,hx,hr,Result.andThen]
 exact hK
theorem aBP {P:Program}(w:World){o:Oper}{a:Act}{K:Act->World->Prop}{Q:Exit->Act->World->Prop}(d:Operand)(t:TypeId)
  (ho:o.op=.call {callee:=.builtin .clear,args:=#[d],argTypes:=#[t]})(v:Value)(hd:a.eval d=v){v':Value}{w':World}
  (hr:(Builtin.clear_ #[t] o.type #[v]).run P w=.ok v' w')(h:K (a.put o.dst v') w'):o.wp P a w K Q:=by
 unfold Oper.wp execOp
 simp only[ho,resolve,invoke,builtin,Sem.run_bind,Sem.run_pure,Result.andThen_ok,List.map_toArray,List.map_cons,List.map_nil,hd,hr]
 exact h
theorem apU {P:Program}(w:World){ops:Array Oper}{rest:List Oper}{o:Oper}{a:Act}{Q:Exit->Act->World->Prop}(hgd:o.guard=none)(d:Operand)(t:TypeId)
  (ho:o.op=.call {callee:=.builtin .clear,args:=#[d],argTypes:=#[t]})(v:Value)(hd:a.eval d=v){v':Value}{w':World}
  (hr:(Builtin.clear_ #[t] o.type #[v]).run P w=.ok v' w')(h:wpList P ops Q rest (a.put o.dst v') w'):wpList P ops Q (o::rest) a w:=
 wpList_plain hgd λ_ hK=>aBP w d t ho v hd hr (hK _ _ h)
set_option maxHeartbeats 4000000 in
set_option maxRecDepth 100000 in
theorem aFv (base:Option Addr)(n c i:Nat)(w:World)(hi:i<=n)(hc:n<=c):
  Calls Tryz.prog 98 #[.slice base n c,.int .i64 i,.int .i64 i] w λe w'=>e=.returned (.slice base n c)∧w'=w:=by
 have mixed:=mixed
 have h1:(i:Int)<=(n:Int):=by omega
 have h2:(n:Int)<=(c:Int):=by omega
 go_enter Tryz.func98,Tryz.ntmps98
 go_wp2
 all_goals (go_ret;exact⟨rfl,rfl⟩)
set_option maxHeartbeats 4000000 in
set_option maxRecDepth 100000 in
theorem aPZ (b off n c i j:Nat)(w w2 w3:World)(hij:i<j)(hj:j<=n)(hc:n<=c)
  (hrz:∀ty,(Builtin.append_ #[140,140] ty #[.slice (some ⟨b,off,none⟩) i c,.slice (some (if c=j then⟨b,off,none⟩ else⟨b,off+j*9,none⟩)) (n-j) (c-j)]).run Tryz.prog w.drew=.ok (.slice (some ⟨b,off,none⟩) (i+(n-j)) c) w2)
  (Cd:∀ty,(Builtin.clear_ #[140] ty #[.slice (some ⟨b,off+(i+(n-j))*9,none⟩) (n-(i+(n-j))) (c-(i+(n-j)))]).run Tryz.prog w2=.ok (.tuple #[]) w3):
  Calls Tryz.prog 98 #[.slice (some ⟨b,off,none⟩) n c,.int .i64 i,.int .i64 j] w λe w'=>e=.returned (.slice (some ⟨b,off,none⟩) (i+(n-j)) c)∧w'=w3:=by
 have mixed:=mixed
 have h0:¬((i:Int)=(j:Int)):=by omega
 have h1:(i:Int)<=(j:Int):=by omega
 have h2:(j:Int)<=(n:Int):=by omega
 have h3:(n:Int)<=(c:Int):=by omega
 have h4:(i:Int)<=(c:Int):=by omega
 have h5:¬(c=i+(n-j)):=by omega
 go_enter Tryz.func98,Tryz.ntmps98
 go_wp2
 go_region_law_o (refine arK rfl _ _ 140 140 rfl _ _ (by simp[Act.eval,Act.put]) (by simp[Act.eval,Act.put];split<;>rfl) (hrz _) ?_)
 go_wp2_with (at_builtin;refine apU _ rfl _ 140 rfl _ rfl (Cd _) ?_)
 all_goals (go_ret;exact⟨rfl,rfl⟩)
set_option maxHeartbeats 4000000 in
set_option maxRecDepth 100000 in
theorem aNn (w:World):Calls Tryz.prog 166 #[.slice none 0 0] w λe w'=>e=.returned (.slice none 0 0)∧w'=w:=by
 have mixed:=mixed
 have heq:∀w:World,(Go.binOp .eql 140 (.slice none 0 0) (.slice none 0 0)).run Tryz.prog w=.ok (.bool true) w:=λw=>by kernel_rfl
 go_enter Tryz.func166,Tryz.ntmps166
 go_wp2
 go_ret
 exact⟨rfl,rfl⟩
set_option maxHeartbeats 4000000 in
set_option maxRecDepth 100000 in
theorem awU (a:Addr)(n c:Nat)(w w2:World)(v2:Value)
  (hrz:∀ty,(Builtin.append_ #[140,140] ty #[.slice (some ⟨w.heap.size,0,none⟩) 0 0,.slice (some a) n c]).run Tryz.prog (w.alloc (.cells #[] 42))=.ok v2 w2):
  Calls Tryz.prog 166 #[.slice (some a) n c] w λe w'=>e=.returned v2∧w'=w2:=by
 have mixed:=mixed
 have heq:∀w:World,(Go.binOp .eql 140 (.slice (some a) n c) (.slice none 0 0)).run Tryz.prog w=.ok (.bool false) w:=λw=>by kernel_rfl
 go_enter Tryz.func166,Tryz.ntmps166
 go_wp2_with (at_builtin;refine Lib.wpList_append_run _ rfl _ _ _ _ rfl _ _ rfl rfl _ _ (hrz _) ?_)
 go_ret
 exact⟨rfl,rfl⟩
end Go.Proofs.YtldgljclcgaibaaGreat
namespace Go.Ab
def eE (l:List (Nat->Int)):List cB:=l.map (cB.i .i64)
def IK (i:Nat)(g v:Nat->Int):Nat->Int:=λj=>cond (Nat.blt j i) (g j) (cond (Nat.beq j i) (v 0) (g (j-1)))
def OF (i d:Nat)(g:Nat->Int):Nat->Int:=λj=>cond (Nat.blt j i) (g j) (g (j+d))
theorem zr {l:List (Nat->Int)}(h:l.length=9)(J:Nat):∃g,l[J%9]? =some g∧gL (eE l) J=.f (.i .i64 (g (J/9))):=by
 have me:J%9<l.length:=by rw[h];exact Nat.mod_lt _ (by omega)
 refine⟨l[J%9],List.getElem?_eq_getElem me,?_⟩
 unfold gL eE
 rw[List.length_map,h,List.getElem?_map,List.getElem?_eq_getElem me]
 rfl
theorem aP0 {l m:List (Nat->Int)}(hl:l.length=9)(hm:m.length=9)(i J:Nat):
  gL (eE (List.zipWith (IK i) l m)) J=if J<i*9 then gL (eE l) J else if J<(i+1)*9 then gL (eE m) (J-i*9) else gL (eE l) (J-9):=by
 obtain⟨g,hg,eg⟩:=zr hl J
 obtain⟨v,hv,_⟩:=zr hm J
 obtain⟨z,hz,ez⟩:=zr (l:=List.zipWith (IK i) l m) (by simp[hl,hm]) J
 have hz2:(List.zipWith (IK i) l m)[J%9]? =some (IK i g v):=by simp[List.getElem?_zipWith,hg,hv]
 rw[hz2] at hz;cases hz
 rw[ez]
 by_cases h1:J<i*9
 ·rw[if_pos h1,eg]
  have:Nat.blt (J/9) i=true:=rL.2 (by omega)
  simp only[IK,this,cond_true]
 ·rw[if_neg h1]
  have e1:Nat.blt (J/9) i=false:=ado (by omega)
  by_cases h2:J<(i+1)*9
  ·rw[if_pos h2]
   have e2:Nat.beq (J/9) i=true:=beq_iff.2 (by omega)
   obtain⟨v',hv',ev⟩:=zr hm (J-i*9)
   have e3:(J-i*9)%9=J%9:=by omega
   have e4:(J-i*9)/9=0:=by omega
   rw[e3,hv] at hv';cases hv'
   rw[ev,e4]
   simp only[IK,e1,e2,cond_true,cond_false]
  ·rw[if_neg h2]
   have e2:Nat.beq (J/9) i=false:=beq_false (by omega)
   obtain⟨g',hg',ev⟩:=zr hl (J-9)
   have e3:(J-9)%9=J%9:=by omega
   have e4:(J-9)/9=J/9-1:=by omega
   rw[e3,hg] at hg';cases hg'
   rw[ev,e4]
   simp only[IK,e1,e2,cond_false]
theorem aFw {l:List (Nat->Int)}(hl:l.length=9)(i d J:Nat):
  gL (eE (l.map (OF i d))) J=if J<i*9 then gL (eE l) J else gL (eE l) (J+d*9):=by
 obtain⟨g,hg,eg⟩:=zr hl J
 obtain⟨z,hz,ez⟩:=zr (l:=l.map (OF i d)) (by simp[hl]) J
 have hz2:(l.map (OF i d))[J%9]? =some (OF i d g):=by simp[hg]
 rw[hz2] at hz;cases hz
 rw[ez]
 by_cases h1:J<i*9
 ·rw[if_pos h1,eg]
  have:Nat.blt (J/9) i=true:=rL.2 (by omega)
  simp only[OF,this,cond_true]
 ·rw[if_neg h1]
  have e1:Nat.blt (J/9) i=false:=ado (by omega)
  obtain⟨g',hg',ev⟩:=zr hl (J+d*9)
  have e3:(J+d*9)%9=J%9:=by omega
  have e4:(J+d*9)/9=J/9+d:=by omega
  rw[e3,hg] at hg';cases hg'
  rw[ev,e4]
  simp only[OF,e1,cond_false]
theorem OG {l:List (Nat->Int)}(h:l.length=9)(n:Nat):af.size [.a (.s n) (eE l)]=n*9:=by
 rw[af.size_cons,af.jT,Sg.jV,Nat.add_zero]
 show n*(eE l).length=n*9
 unfold eE;rw[List.length_map,h]
theorem apV {l:List (Nat->Int)}(h:l.length=9){n j:Nat}(hj:j<n*9):af.get [.a (.s n) (eE l)] j=gL (eE l) j:=by
 rw[af.de (by rw[Sg.jV];unfold eE;rw[List.length_map,h];exact hj),Sg.np]
theorem aJT [ax]{π:Pi}{w:World}{B s N:Nat}{c:Nat->CV}(h:∀j,j<N->∃v,cl w B (s+j)=some v∧(c j).rel π v):
  ∃cs:List Value,cs.length=N∧(∀j v,cs[j]? =some v->w.cell? ⟨B,s+j,none⟩=some v∧(c j).rel π v)∧∀v∈cs,v.oneCell'=true:=by
 have key:∀j v,((List.range N).map λj=>(cl w B (s+j)).getD undef)[j]? =some v->w.cell? ⟨B,s+j,none⟩=some v∧(c j).rel π v:=λj v hv=>by
  have hj:j<N:=by
   have:=(List.getElem?_eq_some_iff.1 hv).1;simpa using this
  obtain⟨u,hu,hr⟩:=h j hj
  simp[hj,hu] at hv
  subst hv
  exact⟨hu,hr⟩
 refine⟨(List.range N).map λj=>(cl w B (s+j)).getD undef,by simp,key,λv hv=> ?_⟩
 obtain⟨i,hi⟩:=List.mem_iff_getElem?.1 hv
 exact CV.OC (key i v hi).2
theorem aFx {w:World}{B i:Nat}{v:Value}(h:w.cell? ⟨B,i,none⟩=some v):∃t k,w.shape? B=some (t,k)∧k≠0:=by
 unfold World.cell? at h
 simp only at h
 cases hh:w.heap[B]? with
 |none=>rw[hh] at h;cases h
 |some x=>
  rw[hh] at h
  cases x<;>simp only at h<;>first|(cases h;done)|skip
  rename_i cs t fz
  have:=(Array.getElem?_eq_some_iff.1 h).1
  refine⟨t,cs.size,?_,by omega⟩
  simp[World.shape?,hh]
end Go.Ab
