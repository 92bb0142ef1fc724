/-
  Parts of the proof: AbV AbW AbY AbZ AbNil AbPg Bits VBits Bits4 PK SLA SLB AbLaw AbInv
-/
import Derived.Test.YtcmfbkneahoonaaGreatZAD
import Derived.ProofKit
import Derived.OpenShut
import Derived.Deep.Slices
import Derived.Laws.Externs
import Derived.Test.YtcmfbkneahoonaaGreatRows
import Derived.Shelf.Spec.SlicesInsertGrow
namespace Go.Ab
variable [ax]
open Go.ChangeShapes Go.WideShapes Go.ChangeAt Go.RowKit
def El (P:Program)(f:FuncId):Bool:=match P.funcs[f]? with
 |some fn=> !(fn.name=="runtime.NumGoroutine")&&fn.body.isSome
 |none=>false
omit [ax] in
theorem Ga {P:Program}{f:FuncId}(h:El P f=true)(args:Array Value)(w:World):(callFunc f args).run P w=.ok (.enter f args) w:=by
 unfold El at h
 split at h
 ·rename_i fn hf
  simp only[Bool.and_eq_true,Bool.not_eq_true'] at h
  cases hb:fn.body with
  |none=>rw[hb] at h;cases h.2
  |some c=>
   have h1:fn.name≠"runtime.NumGoroutine":=by simpa using h.1
   simp[callFunc,hf,h1,hb]
 ·cases h
def C7:List (Nat×C6)->Env
 | [],_=>none
 |p::l,f=>match Nat.beq p.1 f with
  |true=>some p.2
  |false=>C7 l f
def HI (P:Program)(l:List (Nat×C6)):Prop:=∀f F,C7 l f=some F->Sound P f F
theorem HI.nil (P:Program):HI P []:=λ_ _ h=>by cases h
theorem HI.cons {P:Program}{l:List (Nat×C6)}{f:Nat}{F:C6}(S:Sound P f F)(h:HI P l):HI P ((f,F)::l):=λg G hg=>by
 simp only[C7] at hg
 split at hg
 ·rename_i hb
  cases hg
  rw[<-Nat.eq_of_beq_eq_true hb];exact S
 ·exact h g G hg
noncomputable def inl (P:Program) (l:List (Nat×C6)) (hs:Hs) (lf:Nat) (f:FuncId):C6:=λargs h=>tOf (den P (C7 l) hs lf f args h)
theorem aO2 {P:Program}{l:List (Nat×C6)}(hl:HI P l)(hm:P.follows .mixedOrders=true){hs:Hs}{lf:Nat}{f:FuncId}(aJm:∀fn c kk,P.funcs[f]? =some fn->fn.body=some c->Jp P (C7 l) hs fn.ntmps kk lf c)(hc:El P f=true):Sound P f (inl P l hs lf f):=
 aMK hl hm aJm (Ga hc)
omit [ax] in
theorem aO3 {P:Program}{l:List (Nat×C6)}{hs:Hs}{lf:Nat}{f:FuncId}{args:List AV}{h:List af}{r:nk}(hd:den P (C7 l) hs lf f args h=some r):(inl P l hs lf f args h).eval=some r:=by
 unfold inl;rw[hd];rfl
theorem Sound.by {P:Program}{f:FuncId}{F F0:C6}(S:Sound P f F0)(h:∀args b r,(F args b).eval=some r->(F0 args b).eval=some r):Sound P f F:=
 S.weaken λargs b r hr=>⟨r,h args b r hr,.refl _ _⟩
omit [ax] in
theorem bU.kept {w w':World}(h:bU w (λ_ _=>False) w'):w.keptBut w' (λ_=>False):=by
 refine⟨h.os,h.output,λi hi=> ?_⟩
 cases hh:w.heap[i]? with
 |none=>rw[h.obj i hi (by rw[hh];intro c t fz e;cases e),hh]
 |some x=>
  cases x with
  |cells c t fr=>
   obtain⟨c',e1,e2,e3⟩:=h.row i c t fr hh
   rw[e1]
   exact⟨rfl,rfl,e2,λj _=>e3 j (λf=>f)⟩
  |map es clock=>
   rw[h.obj i hi (by rw[hh];intro c t fz e;cases e),hh]
   exact .inr ⟨rfl,rfl⟩
  |_=>rw[h.obj i hi (by rw[hh];intro c t fz e;cases e),hh]
omit [ax] in
theorem bU.sameAt {w w':World}(h:bU w (λ_ _=>False) w'){p:MemPlace}(hp:p.block<w.heap.size):w.sameAt w' p:=by
 cases p with
 |cell b off=>exact h.cl hp (λf=>f)
 |map b=>
  show w'.heap[b]? =w.heap[b]?
  have hp:b<w.heap.size:=hp
  cases hh:w.heap[b]? with
  |none=>rw[h.obj b hp (by rw[hh];intro c t fz e;cases e),hh]
  |some x=>
   cases x with
   |cells c t fr=>
    obtain⟨c',e1,e2,e3⟩:=h.row b c t fr hh
    rw[e1]
    have:c'=c:=Array.ext_getElem? λj=>e3 j (λf=>f)
    rw[this]
   |_=>rw[h.obj b hp (by rw[hh];intro c t fz e;cases e),hh]
section
variable {H:Type} {enc:TypeId×Value->H}
omit [ax] in
theorem aiG {P:Program}(hl:laidOutB P=true){W W':World}(hf:bU W (λ_ _=>False) W'){sp:Nat->Bool}:∀{ts:List TypeId} {vs:List Value} {ds:List (DataW H)} {ps:List MemPlace},(∀t∈ts,P.readableRec t=true∧t<P.types.size)->
  DataW.TrodAll enc P W 0 (λ_=>true) true ts vs ds ps->(∀p∈ps,p.block<W.heap.size)->(∀p∈ps,sp p.block=true)->DataW.TrodAll enc P W' 0 sp true ts vs ds ps
 | [],vs,ds,ps,_,h,_,_=>by
  obtain⟨rfl,rfl,rfl⟩:=trodAll_nil h
  rfl
 |t::ts,vs,ds,ps,ht,h,h1,h2=>by
  obtain⟨v,vs1,d,ds1,a,b,rfl,rfl,rfl,h3,h4⟩:=trodAll_cons h
  refine⟨a,b,WideElems.Trod_stays hl (ht t (by simp)).1 (ht t (by simp)).2 h3 (λp hp=>hf.sameAt (h1 p (by simp[hp]))) (λp hp=>h2 p (by simp[hp])),?_,rfl⟩
  exact aiG hl hf (λt ht'=>ht t (by simp[ht'])) h4 (λp hp=>h1 p (by simp[hp])) (λp hp=>h2 p (by simp[hp]))
omit [ax] in
theorem aO4 {C:Checked}{os:Os}{f:FuncId}{fn:Func}{s:ChangeSpec}{conds:List PathCond}{tb:TypeId}
  (own:ownKnob C.prog.godebug=none)(started:os.Started)(aUg:C.prog.inits.idxOf? f=none)(hfn:C.prog.funcs[f]? =some fn)
  (hl:laidOutB C.prog=true)(qR:fn.resultTypes=#[tb])(htb:C.prog.underlying tb=some .bool)(aVe:fn.params.all (λt=>C.prog.readableRec t&&decide (t<C.prog.types.size))=true)(aSP:s.vars=[])
  (aWa:∀(ds:List (DataW H)),ds.length=fn.params.size->s.fn H ds={results:=[.lit (.bool true)],args:=ds})
  (witness:∃(w:World) (tape:Tape) (i:Input),w.os=os∧(w.forCall tape i).Shaped C.prog∧i.vars=[]∧Input.okWide C.prog (w.forCall tape i) .any w.heap.size f i∧
   s.pre6 enc C.prog fn conds false (w.forCall tape i).memory i.args∧({}:Assume).holds C.prog (lone (Frame.enter C.prog f i.args .normal) [] (w.forCall tape i)))
  (aO5:∀(W:World) (base:Nat) (args:Array Value) (ds:List (DataW H)) (ps:List MemPlace),args.size=fn.params.toList.length->
   (∀(j:Nat) t v,fn.params.toList[j]? =some t->args[j]? =some v->Value.okWide C.prog W .any base t v)->
   DataW.TrodAll enc C.prog W 0 (λ_=>true) true fn.params.toList args.toList ds ps->W.noneFrozen ps->(∀p∈ps,p.block<W.heap.size)->
   conds.all (PathCond.test C.prog ⟨fn.params.toList,ds,s.plain.varTypes C.prog,[]⟩)=true->
   Calls C.prog f args W λe W'=>e=.returned (.bool true)∧bU W (λ_ _=>False) W'):
  ReturnsInHanded {} C os f .any (s.pre6 enc C.prog fn conds false) (s.post enc C.prog fn false true false false):=by
 refine returnsInHanded_of_change own started aUg hfn witness ?_
 intro W base args ds gs before aBB hW aXu _
 have hW':=hW
 obtain⟨p,q,hA,hV,hpq,hfz,hnd⟩:=hW
 rw[aSP] at hV
 obtain⟨rfl,rfl⟩:=trodVars_none hV
 simp only[List.append_nil] at hpq
 subst hpq
 have hlen:∀{ts:List TypeId} {vs:List Value} {ds:List (DataW H)} {ps:List MemPlace},DataW.TrodAll enc C.prog W 0 (λ_=>true) true ts vs ds ps->vs.length=ts.length∧ds.length=ts.length:=by
  intro ts
  induction ts with
  |nil=>intro vs ds ps h;obtain⟨rfl,rfl,rfl⟩:=trodAll_nil h;exact⟨rfl,rfl⟩
  |cons t ts ih=>intro vs ds ps h;obtain⟨v,vs1,d,ds1,a,b,rfl,rfl,rfl,_,h4⟩:=trodAll_cons h;have:=ih h4;exact⟨by simp[this.1],by simp[this.2]⟩
 obtain⟨l1,l2⟩:=hlen hA
 have mb:∀x∈before,x.block<W.heap.size:=λx hx=>hW'.lt x hx
 refine(aO5 W base args ds before (by simpa using l1) (λj t v hj hv=>aBB j t v (by rw[<-Array.getElem?_toList];exact hj) hv) hA hfz mb (by simpa using aXu)).mono λe W' ⟨he,hg⟩=> ?_
 subst he
 have hs:=aWa ds (by simpa using l2)
 have hr:∀t∈fn.params.toList,C.prog.readableRec t=true∧t<C.prog.types.size:=λt ht=>by
  rw[Array.all_eq_true_iff_forall_mem] at aVe
  have:=aVe t (by simpa using ht)
  simpa using this
 refine⟨_,rfl,post_of_same (pa:=before) (pv:=[]) hW' (λb sp hd=> ?_) (λsp hsp=> ?_) (λsp _=> ?_) (by simp) (World.keptBut_mono (λ_ f=>f.elim) hg.kept) hg.fzn (ok_one qR rfl (okWide_bool_mk htb _))⟩
 ·rw[List.append_nil,hs,qR]
  exact trodAll_cons_mk (shut_bool htb _) trodAll_mk0
 ·rw[List.append_nil,hs]
  exact aiG hl hg hr hA mb hsp
 ·rw[List.append_nil,hs,aSP]
  rfl
end
end Go.Ab
namespace Go.Ab
variable [ax]
open Go.ChangeShapes Go.WideShapes Go.Deep
inductive K where
 |b
 |i (k:IntKind)
 |s
 |u
 |q
def K.has:K->FV->Prop
 |.b,.b _=>True
 |.i k,.i k' n=>k'=k∧k.has n
 |.s,.s _=>True
 |.u,.u=>True
 |.q,.q n _=>n<=maxLen
 |_,_=>False
def K.ma:K->Nat->cC->Prop
 |.b,_,.b _=>True
 |.i k,n,.i k' g=>k'=k∧∀j,j<n->k.has (g j)
 |.s,_,.s _=>True
 |.u,_,.u=>True
 |.q,n,.q g _=>∀j,j<n->g j<=maxLen
 |_,_,_=>False
def RH {α:Type}:Nat->List α->List α
 |0,_=>[]
 |n+1,l=>l++RH n l
def aiH (P:Program)(g:TypeId->Option (List K)):List Field->List K->Option (List K)
 | [],acc=>some acc
 |f::fs,acc=>match g f.type with
  |some ks=>match Nat.beq f.offset acc.length&&Nat.beq (P.cellsOf f.type) ks.length with
   |true=>aiH P g fs (acc++ks)
   |false=>none
  |none=>none
def JD (P:Program):Nat->TypeId->Option (List K)
 |0,_=>none
 |d+1,t=>match P.underlying t with
  |some .bool=>some [.b]
  |some (.int k)=>some [.i k]
  |some .string=>some [.s]
  |some (.struct fs)=>match aiH P (JD P d) fs.toList [] with
   |some ks=>match Nat.beq (P.cellsOf t) ks.length with
    |true=>some ks
    |false=>none
   |none=>none
  |some (.array n e)=>match JD P d e with
   |some ks=>match Nat.beq (P.cellsOf e) ks.length&&Nat.beq (P.cellsOf t) (n*ks.length) with
    |true=>some (RH n ks)
    |false=>none
   |none=>none
  |some (.slice e)=>match P.underlying e with
   |some .bool=>match Nat.beq (P.cellsOf e) 1 with
    |true=>some [.q]
    |false=>some [.u]
   |_=>some [.u]
  |_=>none
section
variable {H:Type} {enc:TypeId×Value->H} {P:Program} {W:World} {base:Nat} {spare:Nat->Bool} {held:Bool}
theorem arT {ks ks':List K}{cs PZ:List Value}(h:∃fs,bm K.has ks fs∧bm FV.rel fs cs)(h':∃fs,bm K.has ks' fs∧bm FV.rel fs PZ):∃fs,bm K.has (ks++ks') fs∧bm FV.rel fs (cs++PZ):=by
 obtain⟨fs,a,b⟩:=h
 obtain⟨fs',a',b'⟩:=h'
 exact⟨fs++fs',a.append a',b.append b'⟩
theorem ant {d:Nat}(ih:∀{t:TypeId} {ks:List K} {fuel:Nat} {cs:List Value} {x:DataW H×List MemPlace},JD P d t=some ks->DataW.trod enc P W base spare held fuel t cs=some x->∃fs,bm K.has ks fs∧bm FV.rel fs cs){n:Nat}{cs:List Value}:
  ∀{l:List Field} {acc ks:List K},aiH P (JD P d) l acc=some ks->(∀f∈l,∃y,DataW.trod enc P W base spare held n f.type ((cs.drop f.offset).take (P.cellsOf f.type))=some y)->acc.length<=cs.length->
   (∃fs,bm K.has acc fs∧bm FV.rel fs (cs.take acc.length))->ks.length<=cs.length∧∃fs,bm K.has ks fs∧bm FV.rel fs (cs.take ks.length)
 | [],acc,ks,h,_,hl,ha=>by
  simp only[aiH] at h
  cases h
  exact⟨hl,ha⟩
 |f::l,acc,ks,h,hf,hl,ha=>by
  simp only[aiH] at h
  split at h
  ·rename_i kf hk
   split at h
   ·rename_i hc
    simp only[Bool.and_eq_true] at hc
    have e1:=Nat.eq_of_beq_eq_true hc.1
    have e2:=Nat.eq_of_beq_eq_true hc.2
    obtain⟨y,hy⟩:=hf f (by simp)
    obtain⟨fs,f1,f2⟩:=ih hk hy
    have hlen:kf.length=min (P.cellsOf f.type) (cs.length-f.offset):=by
     have h1:=f1.length
     have h2:=f2.length
     simp at h2
     omega
    have hle:acc.length+kf.length<=cs.length:=by omega
    refine ant ih h (λf' hf'=>hf f' (by simp[hf'])) (by simp;omega) ?_
    have:=arT ha ⟨fs,f1,f2⟩
    rw[List.length_append,List.take_add]
    rw[e1,e2] at this
    exact this
   ·cases h
  ·cases h
omit [ax] in
theorem Sp {α:Type}(l:List α):∀n,(RH n l).length=n*l.length
 |0=>by simp[RH]
 |n+1=>by simp[RH,Sp l n,Nat.succ_mul,Nat.add_comm]
omit [ax] in
theorem af3 {α:Type}(l:List α):∀n,RH (n+1) l=RH n l++l
 |0=>by simp[RH]
 |n+1=>by
  have h:=af3 l n
  show l++RH (n+1) l=RH (n+1) l++l
  rw[h,<-List.append_assoc,<-h]
  rfl
theorem JE (hA:∀B i v,cl W B i=some v->ax.fs B i=some v)(hsp:∀b,spare b=true):∀{d:Nat} {t:TypeId} {ks:List K} {fuel:Nat} {cs:List Value} {x:DataW H×List MemPlace},JD P d t=some ks->DataW.trod enc P W base spare held fuel t cs=some x->∃fs,bm K.has ks fs∧bm FV.rel fs cs
 |0,_,_,_,_,_,h,_=>by cases h
 |d+1,t,ks,fuel,cs,x,h,hx=>by
  simp only[JD] at h
  split at h
  ·rename_i hu
   cases h
   obtain⟨b,rfl,_⟩:=DataW.trod_bool hu hx
   exact⟨[.b b],⟨trivial,trivial⟩,rfl,trivial⟩
  ·rename_i k hu
   cases h
   obtain⟨n,rfl,_,hw⟩:=DataW.trod_int hu hx
   refine⟨[.i k n],⟨⟨rfl,?_⟩,trivial⟩,rfl,trivial⟩
   simp only[Lit.wf,Bool.and_eq_true,decide_eq_true_eq] at hw
   exact hw
  ·rename_i hu
   cases h
   obtain⟨s,rfl,_⟩:=DataW.trod_string hu hx
   exact⟨[.s s],⟨trivial,trivial⟩,rfl,trivial⟩
  ·rename_i fs hu
   split at h
   ·rename_i ks' hks
    split at h
    ·rename_i hc
     cases h
     have hc:=Nat.eq_of_beq_eq_true hc
     obtain⟨xs,n,_,_,hl,_,hf⟩:=DataW.trod_struct hu hx
     obtain⟨_,r⟩:=ant (λh h'=>JE hA hsp h h') hks (n:=n) (cs:=cs) (λf hf'=>by
      obtain⟨i,hi⟩:=List.getElem?_of_mem hf'
      have:=hf i f (by rw[<-Array.getElem?_toList];exact hi)
      have hi':i<xs.length:=by
       have h1:=(List.getElem?_eq_some_iff.1 hi).1
       simp at h1;omega
      rw[List.getElem?_eq_getElem hi'] at this
      exact⟨_,this⟩) (Nat.zero_le _) ⟨[],trivial,by simp;trivial⟩
     rw[<-hc,<-hl,List.take_length] at r
     exact r
    ·cases h
   ·cases h
  ·rename_i n e hu
   split at h
   ·rename_i ks' hks
    split at h
    ·rename_i hc
     cases h
     simp only[Bool.and_eq_true] at hc
     have e1:=Nat.eq_of_beq_eq_true hc.1
     have e2:=Nat.eq_of_beq_eq_true hc.2
     obtain⟨xs,m,_,_,hl,hn,hf⟩:=DataW.trod_array hu hx
     have key:∀j,j<=n->∃fs,bm K.has (RH j ks') fs∧bm FV.rel fs (cs.take (j*ks'.length)):=by
      intro j
      induction j with
      |zero=>intro _;exact⟨[],trivial,by simp;trivial⟩
      |succ j ihj=>
       intro hj
       have hj':j<xs.length:=by omega
       have:=hf j (by omega)
       rw[List.getElem?_eq_getElem hj'] at this
       rw[af3,Nat.succ_mul,List.take_add]
       have h2:=JE hA hsp hks this
       rw[e1] at h2
       exact arT (ihj (by omega)) h2
     have:=key n (Nat.le_refl _)
     rw[<-e2,<-hl,List.take_length] at this
     exact this
    ·cases h
   ·cases h
  ·rename_i e hu
   have un:∃fs,bm K.has [.u] fs∧bm FV.rel fs cs:=by
    rcases open_slice hu hx with⟨rfl,_⟩| ⟨a',aOj,aVf,m,n,D,Pl,rfl,_⟩
    ·exact⟨[.u],⟨trivial,trivial⟩,rfl,trivial⟩
    ·exact⟨[.u],⟨trivial,trivial⟩,rfl,trivial⟩
   split at h
   ·rename_i hb
    split at h
    ·rename_i hc
     cases h
     have hc:=Nat.eq_of_beq_eq_true hc
     rcases open_slice1 hu hc hx with⟨rfl,_⟩| ⟨a',aOj,aVf,m,n,V,D,Pl,rfl,_,hle,aVg,hm,_,hi⟩
     ·exact⟨[.q 0 λ_=>false],⟨Nat.zero_le _,trivial⟩,.inl ⟨rfl,none,rfl⟩,trivial⟩
     ·rw[hsp,if_pos rfl] at hm
      subst hm
      obtain⟨B,s,sp⟩:=a'
      refine⟨[.q aOj λj=>match V j with|.bool b=>b|_=>false],⟨Nat.le_trans hle aVg,trivial⟩,?_,trivial⟩
      rcases Nat.eq_zero_or_pos m with z|z
      ·subst z
       have:aOj=0:=by omega
       subst this
       exact .inl ⟨rfl,_,rfl⟩
      ·have h0:=(hi 0 z).1
       have hs:sp=none:=by
        have e0:Addr.add ⟨B,s,sp⟩ 0=⟨B,s,sp⟩:=rfl
        rw[e0] at h0
        unfold World.cell? at h0
        simp only at h0
        split at h0
        ·cases sp with
         |none=>rfl
         |some q=>simp at h0
        ·cases h0
       subst hs
       refine .inr ⟨B,s,m,hle,rfl,λj hj=> ?_⟩
       obtain⟨h1,h2⟩:=hi j (by omega)
       obtain⟨b,C8,_⟩:=DataW.trod_bool hb h2
       have hV:V j=.bool b:=by simpa using C8
       rw[lD,hV] at h1
       rw[hA B (s+j) (.bool b) h1]
       simp only[hV]
    ·cases h;exact un
   ·cases h;exact un
  ·cases h
theorem aMM {ks:List K}{fs:List FV}{cs:List Value}(h1:bm K.has ks fs)(h2:bm FV.rel fs cs){j:Nat}{k:K}(hk:ks[j]? =some k):∃f v,cs[j]? =some v∧k.has f∧f.rel v:=by
 obtain⟨f,hf,r1⟩:=h1.get hk
 obtain⟨v,hv,r2⟩:=h2.get hf
 exact⟨f,v,hv,r1,r2⟩
def FV.toN:FV->Nat
 |.q n _=>n
 |_=>0
def FV.toG:FV->Nat->Bool
 |.q _ g=>g
 |_=>λ_=>false
def K.mk:K->(Nat->FV)->cC
 |.b,f=>.b λj=>(f j).toB
 |.i k,f=>.i k λj=>(f j).toI
 |.s,f=>.s λj=>(f j).toS
 |.u,_=>.u
 |.q,f=>.q (λj=>(f j).toN) λj=>(f j).toG
omit [ax] in
theorem K.aSQ {k:K}{f:Nat->FV}{j:Nat}(h:k.has (f j)):(k.mk f).at j=f j:=by
 cases k<;>simp only[K.mk,cC.at]<;>revert h<;>cases f j<;>intro h<;>first|exact h.elim|rfl|skip
 rw[h.1];rfl
omit [ax] in
theorem K.aGO {k:K}{f:Nat->FV}{n:Nat}(h:∀j,j<n->k.has (f j)):k.ma n (k.mk f):=by
 cases k<;>simp only[K.mk,K.ma]
 ·refine⟨trivial,λj hj=> ?_⟩
  have:=h j hj
  revert this
  cases f j<;>intro h<;>first|exact h.elim|skip
  exact h.2
 ·intro j hj
  have:=h j hj
  revert this
  cases f j<;>intro h<;>first|exact h.elim|skip
  exact h
inductive PT where
 |c (k:K)
 |a (n:Nat) (ks:List K)
def au8:List PT->List K
 | []=>[]
 |.c k::l=>k::au8 l
 |.a n ks::l=>RH n ks++au8 l
def K.beq:K->K->Bool
 |.b,.b=>true
 |.i k,.i k'=>decide (k=k')
 |.s,.s=>true
 |.u,.u=>true
 |.q,.q=>true
 |_,_=>false
omit [ax] in
theorem K.beq_eq {x y:K}(h:x.beq y=true):x=y:=by
 cases x<;>cases y<;>simp only[K.beq] at h<;>first|rfl|cases h|skip
 rw[of_decide_eq_true h]
def aOk:List K->List K->Bool
 | [],[]=>true
 |x::l,y::m=>x.beq y&&aOk l m
 |_,_=>false
omit [ax] in
theorem aJn:∀{l m:List K},aOk l m=true->l=m
 | [],[],_=>rfl
 |x::l,y::m,h=>by
  simp only[aOk,Bool.and_eq_true] at h
  rw[K.beq_eq h.1,aJn h.2]
 | [],_::_,h=>by cases h
 |_::_,[],h=>by cases h
def aGP:List Tm->List K->List PT
 | [],_=>[]
 |.c::l,k::ks=>.c k::aGP l ks
 |.c::_,[]=>[]
 |.a n z::l,ks=>.a n (ks.take z)::aGP l (ks.drop (n*z))
inductive Prm where
 |flat (agg:Bool) (pt:List PT)
 |sl (ks:List K)
inductive DC where
 |c (f:FV)
 |a (cols:List cC)
inductive Dat where
 |flat (l:List DC)
 |sl (n:Nat) (cols:List cC)
def awS:PT->DC->Prop
 |.c k,.c f=>k.has f
 |.a n ks,.a cols=>bm (λk c=>K.ma k n c) ks cols
 |_,_=>False
def Fit:Prm->Dat->Prop
 |.flat _ pt,.flat l=>bm awS pt l
 |.sl ks,.sl n cols=>n<=maxLen∧bm (λk c=>K.ma k n c) ks cols
 |_,_=>False
def sgs:List PT->List DC->af
 |.c _::pt,.c f::l=>.c (.f f)::sgs pt l
 |.a n _::pt,.a cols::l=>.a (.l n) cols::sgs pt l
 |_,_=>[]
def aSR:Bool->af->AV
 |true,b=>.r (.agg b)
 |false,.c v::_=>.r (.c v)
 |false,_=>.Tp
def aGQ:List Prm->List Dat->List AV
 |.flat a pt::ps,.flat l::ds=>aSR a (sgs pt l)::aGQ ps ds
 |.sl ks::ps,.sl n cols::ds=>.r (.c (.fs n ks.length cols))::aGQ ps ds
 |_,_=>[]
def aBN (ps:List Prm)(ds:List Dat):Prop:=bm Fit ps ds
def aJo (P:Program)(t:TypeId):Option Prm:=
 match P.underlying t with
 |some (.slice e)=>match JD P 30 e with
  |some ks=>match Nat.beq (P.cellsOf e) ks.length&&Nat.ble 1 ks.length with
   |true=>some (.sl ks)
   |false=>none
  |none=>none
 |_=>match abd P t,JD P 30 t with
  |some true,some ks=>match aOk (au8 (aGP (aio P 30 t) ks)) ks with
   |true=>some (.flat true (aGP (aio P 30 t) ks))
   |false=>none
  |some false,some [k]=>some (.flat false [.c k])
  |_,_=>none
def aGR (P:Program):List TypeId->Option (List Prm)
 | []=>some []
 |t::ts=>match aJo P t,aGR P ts with
  |some p,some ps=>some (p::ps)
  |_,_=>none
theorem aO6 {n:Nat}{ks:List K}{fs:List FV}{cs:List Value}(h1:bm K.has (RH n ks) fs)(h2:bm FV.rel fs cs):
  ∃cols,bm (λk c=>K.ma k n c) ks cols∧∀j,j<n*ks.length->∃v,cs[j]? =some v∧(gL cols j).rel (λ_=>none) v:=by
 have hl:=h1.length
 rw[Sp] at hl
 have aiy:∀i j k,i<n->ks[j]? =some k->∃f,fs[i*ks.length+j]? =some f∧k.has f:=λi j k hi hj=>by
  have hjl:=(List.getElem?_eq_some_iff.1 hj).1
  have key:∀m i,i<m->(RH m ks)[i*ks.length+j]? =some k:=by
   intro m
   induction m with
   |zero=>intro i hi;omega
   |succ m ih=>
    intro i hi
    rw[RH]
    cases i with
    |zero=>rw[Nat.zero_mul,Nat.zero_add,List.getElem?_append_left hjl];exact hj
    |succ i=>
     rw[List.getElem?_append_right (by rw[Nat.succ_mul];omega),show(i+1)*ks.length+j-ks.length=i*ks.length+j by rw[Nat.succ_mul];omega]
     exact ih i (by omega)
  obtain⟨f,hf,hh⟩:=h1.get (key n i hi)
  exact⟨f,hf,hh⟩
 refine⟨ks.zipIdx.map λp=>p.1.mk λi=>fs.getD (i*ks.length+p.2) .u,?_,λj hj=> ?_⟩
 ·refine bm.adx (by simp) λj k c hk hc=> ?_
  simp only[List.getElem?_map,List.getElem?_zipIdx,hk,Option.map_some,Option.some.injEq] at hc
  subst hc
  refine K.aGO λi hi=> ?_
  obtain⟨f,hf,hh⟩:=aiy i j k hi hk
  simp only[Nat.zero_add,List.getD,hf,Option.getD_some];exact hh
 ·have aA7:0<ks.length:=by
   rcases Nat.eq_zero_or_pos ks.length with h|h
   ·rw[h] at hj;omega
   ·exact h
  have hm:=Nat.mod_lt j aA7
  have hq:j/ks.length<n:=(Nat.div_lt_iff_lt_mul aA7).2 hj
  have hk:ks[j%ks.length]? =some (ks[j%ks.length]'hm):=List.getElem?_eq_getElem _
  obtain⟨f,hf,hh⟩:=aiy (j/ks.length) (j%ks.length) _ hq hk
  have hd:=Sn j ks.length
  rw[hd] at hf
  obtain⟨v,hv,hr⟩:=h2.get hf
  refine⟨v,hv,?_⟩
  unfold gL
  simp only[List.length_map,List.length_zipIdx,List.getElem?_map,List.getElem?_zipIdx,hk,Option.map_some,Nat.zero_add]
  have e:fs.getD (j/ks.length*ks.length+j%ks.length) .u=f:=by rw[hd];simp[List.getD,hf]
  rw[K.aSQ (f:=λi=>fs.getD (i*ks.length+j%ks.length) .u) (j:=j/ks.length) (by rw[e];exact hh)]
  show FV.rel _ v
  rw[e];exact hr
omit [ax] in
theorem awT {α β:Type}{R:α->β->Prop}:∀{l l':List α} {m:List β},bm R (l++l') m->bm R l (m.take l.length)∧bm R l' (m.drop l.length)
 | [],l',m,h=>⟨by simp;trivial,by simpa using h⟩
 |a::l,l',[],h=>h.elim
 |a::l,l',b::m,h=>by
  obtain⟨h1,h2⟩:=h
  have:=awT (l:=l) (l':=l') (m:=m) h2
  exact⟨⟨h1,this.1⟩,this.2⟩
theorem aWb {π π':Pi}{c:CV}{v:Value}(hc:∃x,c=.f x)(h:c.rel π v):c.rel π' v:=by
 obtain⟨x,rfl⟩:=hc;exact h
theorem au9:∀{pt:List PT} {fs:List FV} {cs:List Value},bm K.has (au8 pt) fs->bm FV.rel fs cs->∃l,bm awS pt l∧∀π,bm (CV.rel π) (af.list (sgs pt l)) cs
 | [],[],[],_,_=>⟨[],trivial,λ_=>trivial⟩
 | [],_::_,_,h,_=>h.elim
 | [],[],_::_,_,h=>h.elim
 |.c k::pt,[],_,h,_=>h.elim
 |.c k::pt,f::fs,[],_,h=>h.elim
 |.c k::pt,f::fs,v::cs,h1,h2=>by
  obtain⟨l,a,b⟩:=au9 h1.2 h2.2
  refine⟨.c f::l,⟨h1.1,a⟩,λπ=> ?_⟩
  rw[sgs,aBj]
  exact⟨h2.1,b π⟩
 |.a n ks::pt,fs,cs,h1,h2=>by
  obtain⟨p1,p2⟩:=awT (l:=RH n ks) (l':=au8 pt) h1
  rw[Sp] at p1 p2
  have h3:=h2.take (n*ks.length)
  have h4:=h2.drop (n*ks.length)
  obtain⟨cols,c1,c2⟩:=aO6 p1 h3
  obtain⟨l,a,b⟩:=au9 p2 h4
  have B7:=c1.length
  have hlen:=h1.length
  rw[au8,List.length_append,Sp] at hlen
  have aYJ:=h2.length
  refine⟨.a cols::l,⟨c1,a⟩,λπ=> ?_⟩
  rw[sgs]
  obtain⟨l1,l2⟩:=hM (b π)
  rw[List.length_drop] at l1
  refine vv ?_ λj hj=> ?_
  ·rw[af.size_cons,Sg.jR,Sz.val,<-B7];omega
  ·rw[af.size_cons] at hj
   have hs:(Sg.a (.l n) cols).size=n*ks.length:=by rw[Sg.jR,Sz.val,<-B7]
   by_cases jU:j<n*ks.length
   ·obtain⟨v,hv,hr⟩:=c2 j jU
    rw[List.getElem?_take,if_pos jU] at hv
    refine⟨v,hv,?_⟩
    rw[af.de (by rw[hs];exact jU),Sg.nj]
    exact aWb (aAl cols j) hr
   ·obtain⟨v,hv,hr⟩:=l2 (j-n*ks.length) (by rw[hs] at hj;omega)
    rw[List.getElem?_drop,show n*ks.length+(j-n*ks.length)=j by omega] at hv
    refine⟨v,hv,?_⟩
    rw[af.js (by rw[hs];omega),hs];exact hr
theorem aJp (hA:∀B i v,cl W B i=some v->ax.fs B i=some v){t e:TypeId}{ks:List K}(hu:P.underlying t=some (.slice e))(hk:JD P 30 e=some ks)(hc:P.cellsOf e=ks.length)(h1k:1<=ks.length){v:Value}{d:DataW H}{ps:List MemPlace}
  (h:DataW.Trod enc P W 0 (λ_=>true) true t v d ps)(hv:Value.okWide P W .any base t v):
  ∃n cols,Fit (.sl ks) (.sl n cols)∧∀π:Pi,(AV.r (.c (.fs n ks.length cols))).rel π v:=by
 obtain⟨fuel,h⟩:=h
 obtain⟨a,len,cap,rfl⟩:=okWide_slice hu hv
 have zero:∃cols,bm (λk c=>K.ma k 0 c) ks cols:=⟨ks.map λk=>k.mk λ_=>.u,bm.adx (by simp) λi k c hk hc=>by
  simp only[List.getElem?_map,hk,Option.map_some,Option.some.injEq] at hc
  subst hc
  exact K.aGO λj hj=>by omega⟩
 rcases open_slice hu h with⟨h0,_⟩| ⟨a',aOj,aVf,m,n,D,Pl,h0,_,hle,aVg,hm,hx,hi⟩
 ·simp[Value.cells] at h0
  obtain⟨rfl,rfl,rfl⟩:=h0
  obtain⟨cols,aSS⟩:=zero
  exact⟨0,cols,⟨Nat.zero_le _,aSS⟩,λπ=>⟨aSS.length.symm,.inl ⟨rfl,none,rfl⟩⟩⟩
 ·simp[Value.cells] at h0
  obtain⟨rfl,rfl,rfl⟩:=h0
  have aST:a'.spot=none:=by
   have hv:Cell.okWide P W .any base t (.slice (some a') len cap):=by
    unfold Value.okWide at hv;rw[hu] at hv;exact hv
   have hv:Cell.ok P W .any base t (.slice (some a') len cap):=by
    unfold Cell.okWide at hv;rw[hu] at hv;exact hv
   unfold Cell.ok at hv
   rw[hu] at hv
   exact hv.2.2.2.1
  obtain⟨B,s,sp⟩:=a'
  simp only at aST
  subst aST
  simp only[if_true] at hm
  subst hm
  have hw:ks.length=P.cellsOf e:=hc.symm
  have cell:∀i j k,i<len->ks[j]? =some k->∃f v,cl W B (s+(i*ks.length+j))=some v∧k.has f∧f.rel v:=λi j k hil hj=>by
   obtain⟨PZ,h1,h2⟩:=hi i (by omega)
   obtain⟨fs,f1,f2⟩:=JE hA (λ_=>rfl) hk h2
   obtain⟨f,v,e1,e2,e3⟩:=aMM f1 f2 hj
   obtain⟨_,_,h3⟩:=World.cells?_some h1
   have hjl:=(List.getElem?_eq_some_iff.1 hj).1
   have:=h3 j (by omega)
   rw[lD,lD,e1] at this
   exact⟨f,v,by unfold cl;rw[hw,<-Nat.add_assoc];exact this,e2,e3⟩
  have hdiv:∀j,j<len*ks.length->j/ks.length<len∧j%ks.length<ks.length∧j/ks.length*ks.length+j%ks.length=j:=λj hj=>by
   refine⟨(Nat.div_lt_iff_lt_mul (by omega)).2 hj,Nat.mod_lt _ (by omega),Sn _ _⟩
  have pick:∀j,∃f,j<len*ks.length->∃v k,cl W B (s+j)=some v∧ks[j%ks.length]? =some k∧k.has f∧f.rel v:=λj=>by
   rcases Nat.lt_or_ge j (len*ks.length) with hj|hj
   ·obtain⟨d1,d2,d3⟩:=hdiv j hj
    have hkj:ks[j%ks.length]? =some (ks[j%ks.length]'d2):=List.getElem?_eq_getElem _
    obtain⟨f,v,e1,e2,e3⟩:=cell _ _ _ d1 hkj
    rw[d3] at e1
    exact⟨f,λ_=>⟨v,_,e1,hkj,e2,e3⟩⟩
   ·exact⟨.u,λh=>by omega⟩
  obtain⟨g,hg⟩:=Classical.axiomOfChoice pick
  have hgk:∀(i j:Nat) (k:K),i<len->ks[j]? =some k->k.has (g (i*ks.length+j)):=λi j k hil hj=>by
   have hjl:=(List.getElem?_eq_some_iff.1 hj).1
   have mb:i*ks.length+j<len*ks.length:=by
    have:=Nat.mul_le_mul_right ks.length (show i+1<=len from hil)
    rw[Nat.succ_mul] at this;omega
   obtain⟨v,k',_,h2,h3,_⟩:=hg _ mb
   rw[Nat.mul_comm,Nat.mul_add_mod,Nat.mod_eq_of_lt hjl,hj] at h2
   cases h2
   exact h3
  refine⟨len,ks.zipIdx.map λp=>p.1.mk λi=>g (i*ks.length+p.2),⟨by omega,bm.adx (by simp) λj k c Jg hc'=> ?_⟩,λπ=>⟨by simp,.inr ⟨B,s,m,hle,rfl,λj hj=> ?_⟩⟩⟩
  ·simp only[List.getElem?_map,List.getElem?_zipIdx,Jg,Option.map_some,Option.some.injEq] at hc'
   subst hc'
   exact K.aGO λi hi=>by simpa using hgk i j k hi Jg
  ·obtain⟨d1,d2,d3⟩:=hdiv j hj
   obtain⟨v,k',h1,Jg,hh,h2⟩:=hg j hj
   refine⟨g j,v,?_,hA _ _ _ h1,h2⟩
   unfold gL
   simp only[List.length_map,List.length_zipIdx,List.getElem?_map,List.getElem?_zipIdx,Jg,Option.map_some,Nat.zero_add]
   rw[K.aSQ (f:=λi=>g (i*ks.length+j%ks.length)) (j:=j/ks.length) (by rw[d3];exact hh)]
   show CV.f (g (j/ks.length*ks.length+j%ks.length))=_
   rw[d3]
theorem aMN (hA:∀B i v,cl W B i=some v->ax.fs B i=some v){t:TypeId}{ag:Bool}{pt:List PT}(hns:∀e,P.underlying t≠some (.slice e))(hp:aJo P t=some (.flat ag pt)){v:Value}{d:DataW H}{ps:List MemPlace}
  (h:DataW.Trod enc P W 0 (λ_=>true) true t v d ps)(hv:Value.okWide P W .any base t v):∃l,Fit (.flat ag pt) (.flat l)∧∀π,(aSR ag (sgs pt l)).rel π v:=by
 obtain⟨fuel,h⟩:=h
 unfold aJo at hp
 split at hp
 ·rename_i e hu;exact absurd hu (hns e)
 ·split at hp
  ·rename_i ks ha hk
   split at hp
   ·rename_i heq
    cases hp
    have heq:=aJn heq
    obtain⟨fs,f1,f2⟩:=JE hA (λ_=>rfl) hk h
    rw[<-heq] at f1
    obtain⟨l,l1,l2⟩:=au9 f1 f2
    have aOf:∃cs,v=.agg cs:=by
     unfold Value.okWide at hv
     unfold abd at ha
     split at ha
     ·rename_i hu;rw[hu] at hv;obtain⟨cs,h,_⟩:=hv;exact⟨cs,h⟩
     ·rename_i hu;rw[hu] at hv;obtain⟨cs,h,_⟩:=hv;exact⟨cs,h⟩
     ·cases ha
     ·cases ha
    obtain⟨cs,rfl⟩:=aOf
    exact⟨l,l1,λπ=>⟨cs,rfl,l2 π⟩⟩
   ·cases hp
  ·rename_i k ha hk
   cases hp
   obtain⟨fs,f1,f2⟩:=JE hA (λ_=>rfl) hk h
   have aI9:v.cells.toList=[v]∨∃cs,v=.agg cs:=by
    cases v<;>first|exact .inl rfl|exact .inr ⟨_,rfl⟩
   have aI9:v.cells.toList=[v]:=by
    rcases aI9 with h| ⟨cs,rfl⟩
    ·exact h
    ·exfalso
     have hc:Cell.okWide P W .any base t (.agg cs):=by
      unfold Value.okWide at hv
      unfold abd at ha
      split at ha<;>first|(cases ha;done)|skip
      rename_i u hu1 hu2 hu
      rw[hu] at hv
      split at hv
      ·rename_i hh;cases hh;exact absurd rfl (hu1 _)
      ·rename_i hh;cases hh;exact absurd rfl (hu2 _ _)
      ·exact hv
     unfold Cell.okWide at hc
     revert hc
     have hkk:P.underlying t=some .bool∨(∃k,P.underlying t=some (.int k))∨P.underlying t=some .string:=by
      unfold abd at ha
      unfold JD at hk
      split at hk
      ·rename_i hu;exact .inl hu
      ·rename_i k hu;exact .inr (.inl ⟨k,hu⟩)
      ·rename_i hu;exact .inr (.inr hu)
      ·rename_i hu;rw[hu] at ha;cases ha
      ·rename_i hu;rw[hu] at ha;cases ha
      ·rename_i hu;exact absurd hu (hns _)
      ·cases hk
     rcases hkk with hu| ⟨k,hu⟩|hu<;>rw[hu]<;>intro hc<;>simp only[Cell.ok,hu] at hc
   rw[aI9] at f2
   match fs,f1,f2 with
   | [f],⟨f1,_⟩,⟨f2,_⟩=>exact⟨[.c f],⟨f1,trivial⟩,λπ=>f2⟩
  ·cases hp
theorem aBO (hA:∀B i v,cl W B i=some v->ax.fs B i=some v):∀{ts:List TypeId} {pr:List Prm} {vs:List Value} {dd:List (DataW H)} {ps:List MemPlace},aGR P ts=some pr->(∀(j:Nat) t v,ts[j]? =some t->vs[j]? =some v->Value.okWide P W .any base t v)->
  DataW.TrodAll enc P W 0 (λ_=>true) true ts vs dd ps->∃ds,aBN pr ds∧∀π,bm (AV.rel π) (aGQ pr ds) vs
 | [],pr,vs,dd,ps,hp,_,h=>by
  cases hp
  obtain⟨rfl,rfl,rfl⟩:=trodAll_nil h
  exact⟨[],trivial,λ_=>trivial⟩
 |t::ts,pr,vs,dd,ps,hp,hv,h=>by
  obtain⟨v,vs1,d,ds1,p1,p2,rfl,rfl,rfl,h3,h4⟩:=trodAll_cons h
  simp only[aGR] at hp
  split at hp
  ·rename_i p pr' Fs hp2
   cases hp
   have hv0:=hv 0 t v rfl rfl
   obtain⟨ds,f1,g1⟩:=aBO hA hp2 (λj t v hj hv'=>hv (j+1) t v (by simpa using hj) (by simpa using hv')) h4
   cases p with
   |flat ag pt=>
    have hns:∀e,P.underlying t≠some (.slice e):=λe hu=>by
     unfold aJo at Fs
     rw[hu] at Fs
     simp only at Fs
     split at Fs
     ·split at Fs<;>cases Fs
     ·cases Fs
    obtain⟨l,l1,l2⟩:=aMN hA hns Fs h3 hv0
    exact⟨.flat l::ds,⟨l1,f1⟩,λπ=>⟨l2 π,g1 π⟩⟩
   |sl ks=>
    obtain⟨e,hu,hk,hc,h1k⟩:∃e,P.underlying t=some (.slice e)∧JD P 30 e=some ks∧P.cellsOf e=ks.length∧1<=ks.length:=by
     unfold aJo at Fs
     split at Fs
     ·rename_i e hu
      split at Fs
      ·rename_i ks' hk
       split at Fs
       ·rename_i hc
        cases Fs
        simp only[Bool.and_eq_true,beq_iff,eD] at hc
        exact⟨e,hu,hk,hc.1,hc.2⟩
       ·cases Fs
      ·cases Fs
     ·split at Fs
      ·split at Fs<;>cases Fs
      ·cases Fs
      ·cases Fs
    obtain⟨n,cols,q1,q2⟩:=aJp hA hu hk hc h1k h3 hv0
    exact⟨.sl n cols::ds,⟨q1,f1⟩,λπ=>⟨q2 π,g1 π⟩⟩
  ·cases hp
def aSU (F:C6)(ps:List Prm):Prop:=∀ds,aBN ps ds->∃news,(F (aGQ ps ds) []).eval=some ⟨.r (.c (.f (.b true))),[],news⟩
abbrev aMO (W:World):ax:=⟨W.heap.size,λB i=>cl W B i⟩
omit [ax] in
theorem aO7 (W:World): @yd (aMO W) W:=by
 letI:=aMO W
 refine⟨Nat.le_refl _,λB i hB=> ?_,λB i v h=>⟨Y9 (by rw[show cl W B i=some v from h];rfl),h⟩⟩
 have hB:W.heap.size<=B:=hB
 simp only[fz,World.frozen?,Array.getElem?_eq_none hB]
end
section
variable {H:Type} {enc:TypeId×Value->H} {P:Program} {W:World} {base:Nat}
omit [ax] in
theorem aMP {f:FuncId}{F:C6}(S:∀[ax],Sound P f F)(hc:El P f=true){ts:List TypeId}{pr:List Prm}(hp:aGR P ts=some pr)(hF:aSU F pr){args:Array Value}{dd:List (DataW H)}{ps:List MemPlace}
  (aBB:∀(j:Nat) t v,ts[j]? =some t->args[j]? =some v->Value.okWide P W .any base t v)(ht:DataW.TrodAll enc P W 0 (λ_=>true) true ts args.toList dd ps):
  Calls P f args W λe W'=>e=.returned (.bool true)∧bU W (λ_ _=>False) W':=by
 letI:=aMO W
 obtain⟨ds,f1,g1⟩:=aBO (λB i v h=>h) hp (λj t v hj hv=>aBB j t v hj (by simpa using hv)) ht
 obtain⟨news,hr⟩:=hF ds f1
 have hH:pY (λ_=>none) (hC (([]:List af).map some)) (hZ (([]:List af).map some)) W:=
  ⟨aO7 W,λb B s q e hz=>by simp[hZ] at hz,λb n hn=>by simp[hZ] at hn,λb b' B s q e s' q' e' _ hz=>by simp[hZ] at hz⟩
 have hS:=S _ _ _ hr W (λ_=>none) args (g1 _) hH (λb hb=>absurd rfl hb)
 have hS:Calls P f args W (qQ (λ_=>none) W [] ⟨.r (.c (.f (.b true))),[],news⟩):=by
  rcases hS with h| ⟨v,h,_⟩
  ·exact h.2
  ·rw[Ga hc] at h;cases h
 refine Calls.mono hS ?_
 rintro e w' ⟨π',v,rfl,_,hv,_,hF',_,_⟩
 refine⟨congrArg Ending.returned hv,hF'.mono λB i _ h=> ?_⟩
 obtain⟨b,s,q,e,hb,_⟩:=h
 cases hb
end
end Go.Ab
namespace Go.Ab
variable [ax]
def awU:Array Value->Sem Value:=λargs=>do
 let(x,y,b)<-Extern.MathBitsCarry.three "Sub64" args
 pure (Extern.MathBitsCarry.pair ((x+Extern.MathBitsCarry.m64-y-b)%Extern.MathBitsCarry.m64) (if x<y+b then 1 else 0))
abbrev aFl (n:Int):RV:=.c (.f (.i .u64 n))
omit [ax] in
theorem aJq {P:Program}(x y c:Int)(h:c.toNat<=1)(w:World):(add64Entry #[.int .u64 x,.int .u64 y,.int .u64 c]).run P w=
  .ok (.tuple #[.int .u64 (Int.ofNat ((x.toNat+y.toNat+c.toNat)%18446744073709551616)),.int .u64 (Int.ofNat ((x.toNat+y.toNat+c.toNat)/18446744073709551616))]) w:=by
 match c,h with
 |.ofNat 0,_=>rfl
 |.ofNat 1,_=>rfl
 |.negSucc n,_=>rfl
 |.ofNat (n+2),h=>exact absurd h (by simp;omega)
omit [ax] in
theorem aJr {P:Program}(x y c:Int)(h:c.toNat<=1)(w:World):(awU #[.int .u64 x,.int .u64 y,.int .u64 c]).run P w=
  .ok (.tuple #[.int .u64 (Int.ofNat ((x.toNat+18446744073709551616-y.toNat-c.toNat)%18446744073709551616)),.int .u64 (Int.ofNat (if x.toNat<y.toNat+c.toNat then 1 else 0))]) w:=by
 match c,h with
 |.ofNat 0,_=>rfl
 |.ofNat 1,_=>rfl
 |.negSucc n,_=>rfl
 |.ofNat (n+2),h=>exact absurd h (by simp;omega)
theorem awV {P:Program}{f:FuncId}{fn:Func}{e:Array Value->Sem Value}{A B:Int->Int->Int->Int}(hf:P.funcs[f]? =some fn)(aBP:(fn.name=="runtime.NumGoroutine")=false)
  (hb:fn.body.isNone=true)(hn:Extern.findNext fn=none)(he:Extern.find fn=some e)
  (mw:∀(x y c:Int) (w:World),c.toNat<=1->(e #[.int .u64 x,.int .u64 y,.int .u64 c]).run P w=.ok (.tuple #[.int .u64 (A x y c),.int .u64 (B x y c)]) w):
  Sound P f λ
   | [.r (.c (.f (.i .u64 x))),.r (.c (.f (.i .u64 y))),.r (.c (.f (.i .u64 c)))],[]=>.test (Nat.ble c.toNat 1) (.leaf ⟨.tup [aFl (A x y c),aFl (B x y c)],[],[]⟩) .fail
   |_,_=>.fail:=by
 intro args h res qR w π vs jM hH iT
 simp only at qR
 split at qR
 ·rename_i x y c
  simp only[T.eval] at qR
  split at qR
  ·rename_i hc
   cases qR
   right
   obtain⟨l⟩:=vs
   match l,jM with
   | [v1,v2,v3],⟨h1,h2,h3,_⟩=>
    have h1:v1=.int .u64 x:=h1
    have h2:v2=.int .u64 y:=h2
    have h3:v3=.int .u64 c:=h3
    subst h1 h2 h3
    refine⟨_,by rw[run_callFunc_extern hf aBP hb hn he,mw x y c w (Nat.le_of_ble_eq_true hc)];rfl,π,_,rfl,Ext.refl π,⟨#[_,_],rfl,rfl,rfl,trivial⟩,hH,bU.refl _ _,iT,λb B s q e hb hp=> ?_⟩
    exact absurd (iT b (by rw[hp];simp)) (by omega)
  ·cases qR
 ·cases qR
abbrev aSV (x y c:Int):Int:=Int.ofNat ((x.toNat+y.toNat+c.toNat)%18446744073709551616)
abbrev aSW (x y c:Int):Int:=Int.ofNat ((x.toNat+y.toNat+c.toNat)/18446744073709551616)
abbrev aSX (x y c:Int):Int:=Int.ofNat ((x.toNat+18446744073709551616-y.toNat-c.toNat)%18446744073709551616)
abbrev aSY (x y c:Int):Int:=Int.ofNat (if x.toNat<y.toNat+c.toNat then 1 else 0)
def aAo (A B:Int->Int->Int->Int):C6
 | [.r (.c (.f (.i .u64 x))),.r (.c (.f (.i .u64 y))),.r (.c (.f (.i .u64 c)))],[]=>.test (Nat.ble c.toNat 1) (.leaf ⟨.tup [aFl (A x y c),aFl (B x y c)],[],[]⟩) .fail
 |_,_=>.fail
theorem aGS {P:Program}{f:FuncId}{fn:Func}(hf:P.funcs[f]? =some fn)(aBP:(fn.name=="runtime.NumGoroutine")=false)
  (hb:fn.body.isNone=true)(hn:Extern.findNext fn=none)(he:Extern.find fn=some add64Entry):Sound P f (aAo aSV aSW):=
 awV hf aBP hb hn he λx y c w h=>aJq x y c h w
theorem aGT {P:Program}{f:FuncId}{fn:Func}(hf:P.funcs[f]? =some fn)(aBP:(fn.name=="runtime.NumGoroutine")=false)
  (hb:fn.body.isNone=true)(hn:Extern.findNext fn=none)(he:Extern.find fn=some awU):Sound P f (aAo aSX aSY):=
 awV hf aBP hb hn he λx y c w h=>aJr x y c h w
end Go.Ab
namespace Go.Ab
theorem aO8 {D:Type}(x:Option D)(g:D->nk):(T.opt x λd=>.leaf (g d)).eval=x.map g:=by cases x<;>rfl
abbrev C3:=Int->Int->Int->Option (Int×Int)
def abk (f:C3):C6:=λargs h=>match args,h with
 | [.r (.c (.f (.i .u64 x))),.r (.c (.f (.i .u64 y))),.r (.c (.f (.i .u64 c)))],[]=>.opt (f x y c) λd=>.leaf ⟨.tup [aFl d.1,aFl d.2],[],[]⟩
 |_,_=>.fail
def Ba:C3:=λx y c=>cond (Nat.ble c.toNat 1) (some (aSV x y c,aSW x y c)) none
def abl:C3:=λx y c=>cond (Nat.ble c.toNat 1) (some (aSX x y c,aSY x y c)) none
theorem aFm [ax]{P:Program}{f:FuncId}{A B:Int->Int->Int->Int}(S:Sound P f (aAo A B)):Sound P f (abk λx y c=>cond (Nat.ble c.toNat 1) (some (A x y c,B x y c)) none):=
 S.weaken λargs h r hr=>by
  unfold abk at hr
  split at hr
  ·rename_i x y c
   rw[aO8] at hr
   simp only at hr
   refine⟨r,?_,.refl _ _⟩
   unfold aAo
   simp only[T.eval]
   cases hc:Nat.ble c.toNat 1<;>rw[hc] at hr<;>first|(cases hr;done)|exact hr
  ·cases hr
theorem ap1 {D:Type}(x:Option D)(g:D->T):(T.opt x g).eval=x.bind λd=>(g d).eval:=by cases x<;>rfl
theorem aO9 {α β:Type}(q:α->Option β)(b:Bool)(x y:Option α):(cond b x y).bind q=cond b (x.bind q) (y.bind q):=by cases b<;>rfl
def T.sum {A B:Type}(x:A⊕B)(f:A->T)(g:B->T):T:=.test x.isLeft (.opt x.getLeft? f) (.opt x.getRight? g)
theorem aBQ {b:Bool}{a:T}{r:nk}(h:(T.test b a .fail).eval=some r):b=true∧a.eval=some r:=by cases b<;>first|(cases h;done)|exact⟨rfl,h⟩
theorem awW {D X ρ σ:Type}{s1:D->(D->Option ρ)->(X->Option ρ)->Option ρ}{s2:D->(D->Option σ)->(X->Option σ)->Option σ}(q:ρ->Option σ)
  (h:∀d c x,(s1 d c x).bind q=s2 d (λd=>(c d).bind q) (λe=>(x e).bind q))(k:X->Option ρ):∀(n:Nat) (d:D),(P7 s1 n d k).bind q=P7 s2 n d λe=>(k e).bind q
 |0,_=>rfl
 |n+1,d=>by
  show(s1 d (λd=>P7 s1 n d k) k).bind q=s2 d (λd=>P7 s2 n d λe=>(k e).bind q) λe=>(k e).bind q
  rw[h]
  congr 1
  funext d'
  exact awW q h k n d'
theorem awX {hd:St->Option St}{ρ:Type}{body:St->(AX->St->Option ρ)->Option ρ}{K:AX->St->Option ρ}{D X:Type}{emb:D->St}{step:D->(D->Option ρ)->(X->Option ρ)->Option ρ}{kx:X->Option ρ}
  (h:∀(d:D) (c:St->Option ρ),body (emb d) (next hd c K)=step d (λd=>c (emb d)) kx):∀(n:Nat) (d:D),iter hd body K n (emb d)=P7 step n d kx
 |0,_=>rfl
 |n+1,d=>by
  have e:iter hd body K (n+1) (emb d)=body (emb d) (next hd (iter hd body K n) K):=rfl
  rw[e,h]
  have e2:P7 step (n+1) d kx=step d (λd=>P7 step n d kx) kx:=rfl
  rw[e2]
  congr 1
  funext d'
  exact awX h n d'
theorem L7.of [ax]{P:Program}{E:Env}{hs:Hs}{nt lf id k0:Nat}{a:Code}{run:∀{ρ:Type},St->(AX->St->Option ρ)->Option ρ}(h0:anj hs a=some ⟨id,k0,run⟩)
  (h:∀{ρ:Type} (s:St) (K:AX->St->Option ρ) (r:ρ),run s K=some r->∃n,iter (λt=>t.head k0 hs a) (E5 P E hs nt k0 lf a) K n s=some r):∀kk,L7 P E hs nt kk lf a:=by
 intro kk σ hσ hk ρ s K r hr
 rw[h0] at hσ
 cases hσ
 cases hk
 exact h s K r hr
theorem L7.no [ax]{P:Program}{E:Env}{hs:Hs}{nt lf:Nat}{a:Code}(h0:anj hs a=none):∀kk,L7 P E hs nt kk lf a:=by
 intro kk σ hσ;rw[h0] at hσ;cases hσ
theorem zd.imp {α:Type}{p q:α->Prop}(h:∀a,p a->q a):∀{l:List α},zd p l->zd q l
 | [],_=>trivial
 |_::_,hl=>⟨h _ hl.1,zd.imp h hl.2⟩
theorem art.of [ax]{P:Program}{E:Env}{hs:Hs}{nt lf id k0:Nat}{hd:Hd}{b:Code}{run:∀{ρ:Type},St->(AX->St->Option ρ)->Option ρ}(h0:awA hs b=some ⟨hd,⟨id,k0,run⟩⟩)
  (h:∀{ρ:Type} (s:St) (K:AX->St->Option ρ) (r:ρ),run s K=some r->E5 P E hs nt k0 lf b s K=some r):∀kk,art P E hs nt kk lf b:=by
 intro kk j hj hk ρ s K r hr
 rw[h0] at hj
 cases hj
 cases hk
 exact h s K r hr
theorem Jp.by [ax]{P:Program}{E:Env}{hs:Hs}{f:FuncId}{lf:Nat}{l lj:List Code}(hl:Jm (Xl P f)=l)(h:zd (λa=>∀kk,L7 P E hs (tmpsOf P f) kk lf a) l)
  (hlj:Jo hs (Xl P f)=lj)(hj:zd (λb=>∀kk,art P E hs (tmpsOf P f) kk lf b) lj):
  ∀(fn:Func) (c:Code) (kk:Nat),P.funcs[f]? =some fn->fn.body=some c->Jp P E hs fn.ntmps kk lf c:=by
 intro fn c kk hf hb
 have e1:Xl P f=c:=by unfold Xl;rw[hf];simp[hb]
 have e2:tmpsOf P f=fn.ntmps:=by unfold tmpsOf;rw[hf];rfl
 rw[e1] at hl hlj
 rw[<-e2]
 refine Jp.of ?_ ?_
 ·rw[hl]
  exact h.imp λa ha=>ha kk
 ·rw[hlj]
  exact hj.imp λa ha=>ha kk
structure ij (α β:Type) where
 rd:α->Option β
 em:β->α
 ok:∀a b,rd a=some b->a=em b
namespace ij
def hole {α:Type}:ij α α:=⟨some,id,λa b h=>by cases h;rfl⟩
def nat (n:Nat):ij Nat Unit:=⟨λm=>cond (Nat.beq m n) (some ()) none,λ_=>n,λa b h=>by
 cases hb:Nat.beq a n<;>rw[hb] at h<;>first|(cases h;done)|exact Nat.eq_of_beq_eq_true hb⟩
def int (n:Int):ij Int Unit:=⟨λm=>cond (decide (m=n)) (some ()) none,λ_=>n,λa b h=>by
 cases hb:decide (a=n)<;>rw[hb] at h<;>first|(cases h;done)|exact of_decide_eq_true hb⟩
def bool (n:Bool):ij Bool Unit:=⟨λm=>cond (m==n) (some ()) none,λ_=>n,λa b h=>by
 cases a<;>cases n<;>first|rfl|cases h⟩
def via {α α' β:Type}(f:α->α')(g:α'->Option α)(h:∀a' a,g a'=some a->a'=f a)(x:ij α β):ij α' β:=⟨λa=>(g a).bind x.rd,λb=>f (x.em b),λa b hb=>by
 cases ha:g a with
 |none=>rw[ha] at hb;cases hb
 |some c=>rw[ha] at hb;rw[h a c ha,<-x.ok c b hb]⟩
def pair {α β γ δ:Type}(x:ij α β)(y:ij γ δ):ij (α×γ) (β×δ):=⟨λp=>(x.rd p.1).bind λb=>(y.rd p.2).bind λd=>some (b,d),λq=>(x.em q.1,y.em q.2),λp q h=>by
 cases h1:x.rd p.1 with
 |none=>rw[h1] at h;cases h
 |some b=>
  rw[h1] at h
  cases h2:y.rd p.2 with
  |none=>simp only[Option.bind_some,h2] at h;cases h
  |some d=>
   simp only[Option.bind_some,h2] at h
   cases h
   rw[<-x.ok _ _ h1,<-y.ok _ _ h2]⟩
def one {α:Type}(a:α)(g:α->Bool)(h:∀b,g b=true->b=a):ij α Unit:=⟨λb=>cond (g b) (some ()) none,λ_=>a,λb _ hb=>by
 cases hg:g b<;>rw[hg] at hb<;>first|(cases hb;done)|exact h b hg⟩
def nil {α:Type}:ij (List α) Unit:=one [] (λl=>match l with| []=>true|_=>false) λb h=>by cases b<;>first|rfl|cases h
def cons {α β γ:Type}(x:ij α β)(y:ij (List α) γ):ij (List α) (β×γ):=via (λp:α×List α=>p.1::p.2) (λl=>match l with|a::l=>some (a,l)|_=>none) (λa' a h=>by cases a'<;>cases h;rfl) (pair x y)
def szl {β:Type}(x:ij Nat β):ij Sz β:=via Sz.l (λz=>match z with|.l n=>some n|_=>none) (λa' a h=>by cases a'<;>cases h;rfl) x
def szs {β:Type}(x:ij Nat β):ij Sz β:=via Sz.s (λz=>match z with|.s n=>some n|_=>none) (λa' a h=>by cases a'<;>cases h;rfl) x
def ok' {β:Type}(x:ij Nat β):ij ch β:=via ch.k (λz=>match z with|.k n=>some n|_=>none) (λa' a h=>by cases a'<;>cases h;rfl) x
def ox {β γ δ:Type}(x:ij Nat β)(y:ij Nat γ)(z:ij Nat δ):ij ch (β×γ×δ):=via (λp:Nat×Nat×Nat=>ch.x p.1 p.2.1 p.2.2) (λz=>match z with|.x a b c=>some (a,b,c)|_=>none) (λa' a h=>by cases a'<;>cases h;rfl) (pair x (pair y z))
def fi {β:Type}(k:IntKind)(x:ij Int β):ij FV β:=via (FV.i k) (λz=>match z with|.i k' n=>cond (decide (k'=k)) (some n) none|_=>none) (λa' a h=>by
 cases a' with
 |i k' n=>
  cases hk:decide (k'=k)<;>simp only[hk] at h<;>first|(cases h;done)|(cases h;rw[of_decide_eq_true hk])
 |_=>cases h) x
def fb {β:Type}(x:ij Bool β):ij FV β:=via FV.b (λz=>match z with|.b n=>some n|_=>none) (λa' a h=>by cases a'<;>cases h;rfl) x
def fs {β:Type}(x:ij ByteArray β):ij FV β:=via FV.s (λz=>match z with|.s n=>some n|_=>none) (λa' a h=>by cases a'<;>cases h;rfl) x
def cf {β:Type}(x:ij FV β):ij CV β:=via CV.f (λz=>match z with|.f n=>some n|_=>none) (λa' a h=>by cases a'<;>cases h;rfl) x
def LA {β γ δ:Type}(x:ij Nat β)(y:ij ch γ)(z:ij Nat δ):ij CV (β×γ×δ):=via (λp:Nat×ch×Nat=>CV.ptr p.1 p.2.1 p.2.2) (λz=>match z with|.ptr a b c=>some (a,b,c)|_=>none) (λa' a h=>by cases a'<;>cases h;rfl) (pair x (pair y z))
def ccl {α β γ δ:Type}(u:ij Nat α)(x:ij Nat β)(y:ij ch γ)(z:ij Nat δ):ij CV (α×β×γ×δ):=via (λp:Nat×Nat×ch×Nat=>CV.cl p.1 p.2.1 p.2.2.1 p.2.2.2) (λz=>match z with|.cl e a b c=>some (e,a,b,c)|_=>none) (λa' a h=>by cases a'<;>cases h;rfl) (pair u (pair x (pair y z)))
def dG {β γ δ ε ζ:Type}(x:ij Nat β)(y:ij ch γ)(z:ij Sz δ)(u:ij Nat ε)(w:ij Bool ζ):ij CV (β×γ×δ×ε×ζ):=via (λp:Nat×ch×Sz×Nat×Bool=>CV.sl p.1 p.2.1 p.2.2.1 p.2.2.2.1 p.2.2.2.2) (λz=>match z with|.sl a b c d e=>some (a,b,c,d,e)|_=>none) (λa' a h=>by cases a'<;>cases h;rfl) (pair x (pair y (pair z (pair u w))))
def cfs {β γ δ:Type}(x:ij Nat β)(y:ij Nat γ)(z:ij (List cC) δ):ij CV (β×γ×δ):=via (λp:Nat×Nat×List cC=>CV.fs p.1 p.2.1 p.2.2) (λz=>match z with|.fs a b c=>some (a,b,c)|_=>none) (λa' a h=>by cases a'<;>cases h;rfl) (pair x (pair y z))
def auG:ij CV Unit:=one .afZ (λl=>match l with|.afZ=>true|_=>false) λb h=>by cases b<;>first|rfl|cases h
def aQX:ij CV Unit:=one .nils (λl=>match l with|.nils=>true|_=>false) λb h=>by cases b<;>first|rfl|cases h
def ki {β:Type}(k:IntKind)(x:ij (Nat->Int) β):ij cC β:=via (cC.i k) (λz=>match z with|.i k' n=>cond (decide (k'=k)) (some n) none|_=>none) (λa' a h=>by
 cases a' with
 |i k' n=>
  cases hk:decide (k'=k)<;>simp only[hk] at h<;>first|(cases h;done)|(cases h;rw[of_decide_eq_true hk])
 |_=>cases h) x
def kb {β:Type}(x:ij (Nat->Bool) β):ij cC β:=via cC.b (λz=>match z with|.b n=>some n|_=>none) (λa' a h=>by cases a'<;>cases h;rfl) x
def ks {β:Type}(x:ij (Nat->ByteArray) β):ij cC β:=via cC.s (λz=>match z with|.s n=>some n|_=>none) (λa' a h=>by cases a'<;>cases h;rfl) x
def gc {β:Type}(x:ij CV β):ij Sg β:=via Sg.c (λz=>match z with|.c n=>some n|_=>none) (λa' a h=>by cases a'<;>cases h;rfl) x
def ga {β γ:Type}(x:ij Sz β)(y:ij (List cC) γ):ij Sg (β×γ):=via (λp:Sz×List cC=>Sg.a p.1 p.2) (λz=>match z with|.a n c=>some (n,c)|_=>none) (λa' a h=>by cases a'<;>cases h;rfl) (pair x y)
def rc {β:Type}(x:ij CV β):ij RV β:=via RV.c (λz=>match z with|.c n=>some n|_=>none) (λa' a h=>by cases a'<;>cases h;rfl) x
def ra {β:Type}(x:ij af β):ij RV β:=via RV.agg (λz=>match z with|.agg n=>some n|_=>none) (λa' a h=>by cases a'<;>cases h;rfl) x
def ar {β:Type}(x:ij RV β):ij AV β:=via AV.r (λz=>match z with|.r n=>some n|_=>none) (λa' a h=>by cases a'<;>cases h;rfl) x
def pw {β:Type}(x:ij (List RV) β):ij AV β:=via AV.tup (λz=>match z with|.tup n=>some n|_=>none) (λa' a h=>by cases a'<;>cases h;rfl) x
def afn {β γ:Type}(x:ij Nat β)(y:ij (List RV) γ):ij AV (β×γ):=via (λp:Nat×List RV=>AV.fn p.1 p.2) (λz=>match z with|.fn a b=>some (a,b)|_=>none) (λa' a h=>by cases a'<;>cases h;rfl) (pair x y)
def aVh:ij AV Unit:=one .Tp (λl=>match l with|.Tp=>true|_=>false) λb h=>by cases b<;>first|rfl|cases h
def st {β γ δ:Type}(x:ij (List AV) β)(y:ij (List (Option af)) γ)(z:ij (List Nat) δ):ij St (β×γ×δ):=via (λp:List AV×List (Option af)×List Nat=>St.mk p.1 p.2.1 p.2.2) (λz=>some (z.tmps,z.heap,z.cT)) (λa' a h=>by cases a';cases h;rfl) (pair x (pair y z))
end ij
end Go.Ab
namespace Go.Proofs.YtcmfbkneahoonaaGreat
open Go.Ab
theorem mixed:Tryz.prog.follows .mixedOrders=true:=by kernel_rfl
theorem own:ownKnob Tryz.prog.godebug=none:=by kernel_rfl
theorem laid:laidOutB Tryz.prog=true:=by kernel_rfl
end Go.Proofs.YtcmfbkneahoonaaGreat
namespace Go.Ab
variable [ax]
variable {P:Program}
def Cy (Jh:List CK):af:=[.a (.s 0) (Jh.map CK.ma)]
def T.aJs (g:nk->nk):T->T
 |.leaf r=>.leaf (g r)
 |.fail=>.fail
 |.test x a b=>.test x (a.aJs g) (b.aJs g)
 |.opt x k=>.opt x λd=>(k d).aJs g
omit [ax] in
theorem aMQ {g:nk->nk}{t:T}{r:nk}(h:(t.aJs g).eval=some r):∃r',t.eval=some r'∧r=g r':=by
 induction t with
 |leaf r'=>cases h;exact⟨r',rfl,rfl⟩
 |fail=>cases h
 |test x a b iha ihb=>
  cases x
  ·exact ihb h
  ·exact iha h
 |opt x k ih=>
  cases x with
  |none=>cases h
  |some d=>exact ih d h
def sQ (i:Nat)(Jh:List CK)(F:C6):C6:=λargs h=>match args[i]? with
 |some (.r (.c .nils))=>(F (args.set i (.r (.c (.sl h.length (.k 0) (.s 0) Jh.length true)))) (h++[Cy Jh])).aJs λr=>⟨r.val,r.vP.take h.length,Cy Jh::r.news⟩
 |_=>F args h
omit [ax] in
theorem aBR (Jh:List CK):af.size (Cy Jh)=0:=by
 unfold Cy
 rw[af.size_cons,af.jP,Sg.jR]
 simp[Sz.val]
omit [ax] in
theorem OA:∀(h:List af) (z:af) (cs:List Ch),∃x,after (h++[z]) cs=after h (cs.take h.length)++[x]
 | [],z,[]=>⟨none,rfl⟩
 | [],z,.kU::cs=>⟨some z,rfl⟩
 | [],z,.set b::cs=>⟨some b,rfl⟩
 | [],z,.kill::cs=>⟨none,rfl⟩
 |b::bs,z,[]=>by
  obtain⟨x,hx⟩:=OA bs z []
  refine⟨x,?_⟩
  simp only[List.take_nil] at hx
  simp[after,hx]
 |b::bs,z,.kU::cs=>by
  obtain⟨x,hx⟩:=OA bs z cs
  exact⟨x,by simp[after,hx]⟩
 |b::bs,z,.set k::cs=>by
  obtain⟨x,hx⟩:=OA bs z cs
  exact⟨x,by simp[after,hx]⟩
 |b::bs,z,.kill::cs=>by
  obtain⟨x,hx⟩:=OA bs z cs
  exact⟨x,by simp[after,hx]⟩
omit [ax] in
theorem aSZ {α:Type}{A N:List α}{x y:α}{b:Nat}(h:b≠A.length):(A++[x]++N)[b]? =(A++y::N)[b]? :=by
 rcases Nat.lt_or_ge b A.length with h1|h1
 ·rw[List.append_assoc,List.getElem?_append_left h1,List.getElem?_append_left h1]
 ·rw[List.append_assoc,List.getElem?_append_right h1,List.getElem?_append_right h1]
  obtain⟨m,hm⟩:∃m,b-A.length=m+1:=⟨b-A.length-1,by omega⟩
  rw[hm];rfl
theorem Sound.nil {f:FuncId}{F:C6}(i:Nat)(Jh:List CK)(S:Sound P f F):Sound P f (sQ i Jh F):=by
 intro args h res qR w π vs jM hH iT
 unfold sQ at qR
 split at qR
 ·rename_i hi
  obtain⟨r,hr,rfl⟩:=aMQ qR
  generalize hπ2:(λb=>if b=h.length then some (0,0,0,0) else π b:Pi)=π2
  have p1:∀b,b≠h.length->π2 b=π b:=λb hb=>by rw[<-hπ2];simp[hb]
  have p2:π2 h.length=some (0,0,0,0):=by rw[<-hπ2];simp
  have hx:Ext π π2:=λb p hb=>by
   have:b<h.length:=iT b (by rw[hb];simp)
   rw[p1 b (by omega)];exact hb
  have aUh:bm (AV.rel π2) (args.set i (.r (.c (.sl h.length (.k 0) (.s 0) Jh.length true)))) vs.toList:=by
   have jM:=jM.imp (AV.c8 hx)
   refine bm.adx (by rw[List.length_set];exact jM.length) λj a v ha hv=> ?_
   rw[List.getElem?_set] at ha
   split at ha
   ·rename_i hij
    subst hij
    split at ha
    ·cases ha
     obtain⟨v',hv',hr'⟩:=jM.get hi
     rw[hv] at hv'
     cases hv'
     exact⟨0,0,0,0,p2,by simp[ch.val,Sz.val],by simp[ch.val,Sz.val],.inl ⟨rfl,none,hr'⟩⟩
    ·cases ha
   ·obtain⟨v',hv',hr'⟩:=jM.get ha
    rw[hv] at hv'
    cases hv'
    exact hr'
  have lt:∀b,b<h.length->((h++[Cy Jh]).map some)[b]? =(h.map some)[b]? :=λb hb=>by
   rw[List.map_append,List.getElem?_append_left (by simpa using hb)]
  have gz:∀b,b<h.length->hZ ((h++[Cy Jh]).map some) b=hZ (h.map some) b∧∀j,hC ((h++[Cy Jh]).map some) b j=hC (h.map some) b j:=λb hb=>by
   unfold hZ hC
   rw[lt b hb];exact⟨rfl,λ_=>rfl⟩
  have gn:hZ ((h++[Cy Jh]).map some) h.length=some 0:=by
   unfold hZ
   simp[aBR]
  have gd:∀b,h.length<b->hZ ((h++[Cy Jh]).map some) b=none:=λb hb=>by
   unfold hZ
   rw[List.getElem?_eq_none (by simp;omega)];rfl
  have hH2:pY π2 (hC ((h++[Cy Jh]).map some)) (hZ ((h++[Cy Jh]).map some)) w:=by
   refine⟨hH.am,λb B s q e hz hb zb=> ?_,λb n hn=> ?_,λb b' B s q e s' q' e' kV hz rL hb eA i i1 i2 i3 i4=> ?_⟩
   ·rcases Nat.lt_trichotomy b h.length with h1|h1|h1
    ·rw[(gz b h1).1] at hz
     rw[p1 b (by omega)] at hb
     exact hH.lb b B s q e hz hb zb
    ·subst h1
     rw[p2] at hb;cases hb
     omega
    ·exact absurd (gd b h1) hz
   ·rcases Nat.lt_trichotomy b h.length with h1|h1|h1
    ·rw[(gz b h1).1] at hn
     obtain⟨B,s,e,k1,k2,k3,k4⟩:=hH.hp b n hn
     exact⟨B,s,e,hx _ _ k1,k2,k3,λj hj=>by
      obtain⟨v,v1,v2⟩:=k4 j hj
      exact⟨v,v1,by rw[(gz b h1).2];exact CV.c8 hx _ _ v2⟩⟩
    ·subst h1
     rw[gn] at hn
     cases hn
     exact⟨0,0,0,p2,by omega,λi _ _=>by omega,λj hj=>by omega⟩
    ·rw[gd b h1] at hn;cases hn
   ·have nz:∀b B s q e,b=h.length->π2 b=some (B,s,q,e)->s=0∧e=0:=λb B s q e hb hp=>by
     rw[hb,p2] at hp;cases hp;exact⟨rfl,rfl⟩
    rcases Nat.lt_trichotomy b h.length with h1|h1|h1
    ·rcases Nat.lt_trichotomy b' h.length with h2|h2|h2
     ·rw[(gz b h1).1] at hz
      rw[(gz b' h2).1] at rL
      rw[p1 b (by omega)] at hb
      rw[p1 b' (by omega)] at eA
      exact hH.dj b b' B s q e s' q' e' kV hz rL hb eA i i1 i2 i3 i4
     ·have:=nz b' B s' q' e' h2 eA;omega
     ·exact rL (gd b' h2)
    ·have:=nz b B s q e h1 hb;omega
    ·exact hz (gd b h1)
  have aWc:∀b,π2 b≠none->b<(h++[Cy Jh]).length:=λb hb=>by
   rw[List.length_append]
   show b<h.length+1
   rcases Nat.lt_trichotomy b h.length with h1|h1|h1
   ·omega
   ·omega
   ·rw[p1 b (by omega)] at hb
    have:=iT b hb;omega
  have aS0:∀B i,A' π2 (h++[Cy Jh]).length (P5 r.vP) B i->A' π h.length (P5 (r.vP.take h.length)) B i:=by
   rintro B i ⟨b,s,q,e,hb,hD,hp,i1,i2⟩
   rw[List.length_append] at hb
   have hb:b<h.length+1:=hb
   rcases Nat.lt_or_ge b h.length with h1|h1
   ·rw[p1 b (by omega)] at hp
    exact⟨b,s,q,e,h1,λhk=>hD (by rw[List.getElem?_take,if_pos h1] at hk;exact hk),hp,i1,i2⟩
   ·obtain rfl:b=h.length:=by omega
    rw[p2] at hp
    cases hp
    omega
  suffices key:∀e w',qQ π2 w (h++[Cy Jh]) r e w'->qQ π w h ⟨r.val,r.vP.take h.length,Cy Jh::r.news⟩ e w' by
   rcases S _ _ r hr w π2 vs aUh hH2 aWc with⟨S1,S2⟩| ⟨v,S1,S2⟩
   ·exact .inl ⟨S1,Calls.mono S2 key⟩
   ·exact .inr ⟨v,S1,key _ _ S2⟩
  rintro e w' ⟨π',v,rfl,hx',hv,hH',hF,hd,hi'⟩
  have p2':π' h.length=some (0,0,0,0):=hx' _ _ p2
  obtain⟨x,hxx⟩:=OA h (Cy Jh) r.vP
  have hlen:(after h (r.vP.take h.length)).length=h.length:=lJ ..
  have eq1:∀b,b≠h.length->(r.heap (h++[Cy Jh]))[b]? =((⟨r.val,r.vP.take h.length,Cy Jh::r.news⟩:nk).heap h)[b]? :=λb hb=>by
   unfold nk.heap
   rw[hxx]
   exact aSZ (by rw[hlen];exact hb)
  have eqz:∀b,b≠h.length->hZ ((⟨r.val,r.vP.take h.length,Cy Jh::r.news⟩:nk).heap h) b=hZ (r.heap (h++[Cy Jh])) b:=λb hb=>by
   unfold hZ;rw[eq1 b hb]
  have eqc:∀b j,b≠h.length->hC ((⟨r.val,r.vP.take h.length,Cy Jh::r.news⟩:nk).heap h) b j=hC (r.heap (h++[Cy Jh])) b j:=λb j hb=>by
   unfold hC;rw[eq1 b hb]
  have eqn:hZ ((⟨r.val,r.vP.take h.length,Cy Jh::r.news⟩:nk).heap h) h.length=some 0:=by
   unfold hZ nk.heap
   show(((after h (r.vP.take h.length)++(Cy Jh::r.news).map some)[h.length]?).getD none).map af.size=some 0
   rw[List.getElem?_append_right (by omega),hlen]
   simp[aBR]
  refine⟨π',v,rfl,hx.trans hx',hv,⟨hH'.am,λb B s q e hz hb zb=> ?_,λb n hn=> ?_,λb b' B s q e s' q' e' kV hz rL hb eA i i1 i2 i3 i4=> ?_⟩,hF.mono λB i _ h=>aS0 B i h,λb hb=> ?_,λb B s q e hb hp hB i i1 i2=> ?_⟩
  ·by_cases h1:b=h.length
   ·rw[h1,p2'] at hb;cases hb;omega
   ·rw[eqz b h1] at hz
    exact hH'.lb b B s q e hz hb zb
  ·by_cases h1:b=h.length
   ·subst h1
    rw[eqn] at hn
    cases hn
    exact⟨0,0,0,p2',by omega,λi _ _=>by omega,λj hj=>by omega⟩
   ·rw[eqz b h1] at hn
    obtain⟨B,s,e,k1,k2,k3,k4⟩:=hH'.hp b n hn
    exact⟨B,s,e,k1,k2,k3,λj hj=>by rw[eqc b j h1];exact k4 j hj⟩
  ·have nz:∀b B s q e,b=h.length->π' b=some (B,s,q,e)->s=0∧e=0:=λb B s q e hb hp=>by
    rw[hb,p2'] at hp;cases hp;exact⟨rfl,rfl⟩
   by_cases h1:b=h.length
   ·have:=nz b B s q e h1 hb;omega
   ·by_cases h2:b'=h.length
    ·have:=nz b' B s' q' e' h2 eA;omega
    ·rw[eqz b h1] at hz
     rw[eqz b' h2] at rL
     exact hH'.dj b b' B s q e s' q' e' kV hz rL hb eA i i1 i2 i3 i4
  ·have:=hd b hb
   rw[List.length_append] at this
   show b<h.length+(r.news.length+1)
   have:b<h.length+1+r.news.length:=this
   omega
  ·by_cases h1:b=h.length
   ·rw[h1,p2'] at hp;cases hp;omega
   ·exact aS0 B i (hi' b B s q e (by rw[List.length_append];show h.length+1<=b;omega) hp hB i i1 i2)
 ·exact S args h res qR w π vs jM hH iT
end Go.Ab
noncomputable section
namespace Go.Ab
inductive Pg (δ:Type):Type 1 where
 |ret (d:δ)
 |no
 |ae (b:Bool) (x y:Pg δ)
 |opt {D:Type} (x:Option D) (f:D->Pg δ)
 |sum {A B:Type} (x:A⊕B) (f:A->Pg δ) (g:B->Pg δ)
namespace Pg
def run {δ ρ:Type}(p:Pg δ)(k:δ->Option ρ):Option ρ:=
 Pg.rec (motive:=λ_=>Option ρ) k none (λb _ _ x y=>cond b x y) (λx _ ih=>x.bind ih) (λx _ _ f g=>Sum.elim f g x) p
def val {δ:Type}(p:Pg δ):Option δ:=p.run some
variable {δ ρ σ:Type}
theorem yi (d:δ)(k:δ->Option ρ):(ret d).run k=k d:=rfl
theorem Em (k:δ->Option ρ):(no:Pg δ).run k=none:=rfl
theorem tI (b:Bool)(x y:Pg δ)(k:δ->Option ρ):(ae b x y).run k=bif b then x.run k else y.run k:=rfl
theorem tJ {D:Type}(x:Option D)(f:D->Pg δ)(k:δ->Option ρ):(opt x f).run k=x.bind λd=>(f d).run k:=rfl
theorem tK {A B:Type}(x:A⊕B)(f:A->Pg δ)(g:B->Pg δ)(k:δ->Option ρ):(sum x f g).run k=Sum.elim (λa=>(f a).run k) (λb=>(g b).run k) x:=rfl
theorem bP (d:δ):(ret d).val=some d:=rfl
theorem eE:(no:Pg δ).val=none:=rfl
theorem bM (b:Bool)(x y:Pg δ):(ae b x y).val=bif b then x.val else y.val:=rfl
theorem cq {D:Type}(x:Option D)(f:D->Pg δ):(opt x f).val=x.bind λd=>(f d).val:=rfl
theorem dM {A B:Type}(x:A⊕B)(f:A->Pg δ)(g:B->Pg δ):(sum x f g).val=Sum.elim (λa=>(f a).val) (λb=>(g b).val) x:=rfl
theorem aJt (p:Pg δ)(k:δ->Option ρ)(q:ρ->Option σ):(p.run k).bind q=p.run λd=>(k d).bind q:=by
 induction p with
 |ret d=>rfl
 |no=>rfl
 |ae b x y ih1 ih2=>rw[tI,tI,aO9,ih1,ih2]
 |opt x f ih=>
  rw[tJ,tJ]
  cases x with
  |none=>rfl
  |some d=>exact ih d
 |sum x f g ih1 ih2=>
  rw[tK,tK]
  cases x with
  |inl a=>exact ih1 a
  |inr b=>exact ih2 b
theorem aBS (p:Pg δ)(k:δ->Option ρ):p.val.bind k=p.run k:=by
 unfold val
 rw[aJt]
 rfl
def sm {A B:Type}(x:A⊕B)(f:A->Pg δ)(g:B->Pg δ):Pg δ:=ae x.isLeft (opt x.getLeft? f) (opt x.getRight? g)
theorem aGU {A B:Type}(x:A⊕B)(f:A->Pg δ)(g:B->Pg δ):(sm x f g).val=Sum.elim (λa=>(f a).val) (λb=>(g b).val) x:=by cases x<;>rfl
end Pg
def bD {D X:Type}(s:D->Pg (D⊕X))(n:Nat)(d:D):Option X:=P7 (λd c x=>(s d).run (Sum.elim c x)) n d some
theorem aiI {D X ρ:Type}(s:D->Pg (D⊕X))(n:Nat)(d:D)(k:X->Option ρ):(bD s n d).bind k=P7 (λd c x=>(s d).run (Sum.elim c x)) n d k:=by
 unfold bD
 refine(awW k (λd c x=> ?_) some n d).trans rfl
 rw[Pg.aJt]
 congr 1
 funext y
 cases y<;>rfl
def aBT:List Bool->Prop
 | []=>True
 |b::l=>b=true∧aBT l
theorem ava:∀{l m:List Bool},aBT (l++m)->aBT l∧aBT m
 | [],_,h=>⟨trivial,h⟩
 |_::_,_,h=>⟨⟨h.1,(ava h.2).1⟩,(ava h.2).2⟩
structure Rq (α β:Type) where
 rd:α->Option (List Bool×β)
 em:β->α
 ok:∀a l b,rd a=some (l,b)->aBT l->a=em b
abbrev Rq.B {α β:Type}(_:Rq α β):Type:=β
namespace Rq
variable {α β γ δ:Type}
def hole:Rq α α:=⟨λa=>some ([],a),id,λa l b h _=>by cases h;rfl⟩
def one (a:α)(g:α->Bool)(h:∀b,g b=true->b=a):Rq α Unit:=⟨λb=>cond (g b) (some ([],())) none,λ_=>a,λb _ _ hb _=>by
 cases hg:g b<;>rw[hg] at hb<;>first|(cases hb;done)|exact h b hg⟩
def tie (n:Nat):Rq Nat Unit:=⟨λm=>some ([Nat.beq m n],()),λ_=>n,λa l b h hl=>by
 have h1:[Nat.beq a n]=l:=(Prod.mk.inj (Option.some.inj h)).1
 subst h1
 exact Nat.eq_of_beq_eq_true hl.1⟩
def nat (n:Nat):Rq Nat Unit:=one n (λm=>Nat.beq m n) λ_ h=>Nat.eq_of_beq_eq_true h
def int (n:Int):Rq Int Unit:=one n (λm=>decide (m=n)) λ_ h=>of_decide_eq_true h
def bool (n:Bool):Rq Bool Unit:=one n (λm=>m==n) λ_ h=>by simpa using h
def via {α':Type}(f:α->α')(g:α'->Option α)(h:∀a' a,g a'=some a->a'=f a)(x:Rq α β):Rq α' β:=⟨λa=>(g a).bind x.rd,λb=>f (x.em b),λa l b hb hl=>by
 cases ha:g a with
 |none=>rw[ha] at hb;cases hb
 |some c=>rw[ha] at hb;rw[h a c ha,<-x.ok c l b hb hl]⟩
def dp (x:Rq α β)(y:β->Rq γ δ):Rq (α×γ) (β×δ):=⟨λp=>(x.rd p.1).bind λb=>((y b.2).rd p.2).bind λd=>some (b.1++d.1,(b.2,d.2)),λq=>(x.em q.1,(y q.1).em q.2),λp l q h hl=>by
 cases h1:x.rd p.1 with
 |none=>rw[h1] at h;cases h
 |some b=>
  rw[h1] at h
  cases h2:(y b.2).rd p.2 with
  |none=>simp only[Option.bind_some,h2] at h;cases h
  |some d=>
   simp only[Option.bind_some,h2,Option.some.injEq,Prod.mk.injEq] at h
   obtain⟨rfl,rfl⟩:=h
   obtain⟨t,b⟩:=b
   obtain⟨s,d⟩:=d
   obtain⟨h4,h5⟩:=ava hl
   exact Prod.ext (x.ok _ _ _ h1 h4) ((y b).ok _ _ _ h2 h5)⟩
def pr (x:Rq α β)(y:Rq γ δ):Rq (α×γ) (β×δ):=dp x λ_=>y
def mp {β':Type}(x:Rq α β)(p:β->β')(q:β'->β)(h:∀b,b=q (p b)):Rq α β':=⟨λa=>(x.rd a).bind λb=>some (b.1,p b.2),λc=>x.em (q c),λa l c hc hl=>by
 cases h1:x.rd a with
 |none=>rw[h1] at hc;cases hc
 |some b=>
  rw[h1] at hc
  obtain⟨t,b⟩:=b
  cases hc
  rw[<-h b]
  exact x.ok _ _ _ h1 hl⟩
def pl (x:Rq α β)(y:Rq γ Unit):Rq (α×γ) β:=mp (pr x y) Prod.fst (λb=>(b,())) λ_=>rfl
def pu (x:Rq α Unit)(y:Rq γ δ):Rq (α×γ) δ:=mp (pr x y) Prod.snd (λb=>((),b)) λ_=>rfl
def nil:Rq (List α) Unit:=one [] (λl=>match l with| []=>true|_=>false) λb h=>by cases b<;>first|rfl|cases h
def co (x:Rq (α×List α) β):Rq (List α) β:=via (λp:α×List α=>p.1::p.2) (λl=>match l with|a::l=>some (a,l)|_=>none) (λa' a h=>by cases a'<;>cases h;rfl) x
def c (x:Rq α β)(y:Rq (List α) δ):Rq (List α) (β×δ):=co (pr x y)
def cl (x:Rq α β)(y:Rq (List α) Unit):Rq (List α) β:=co (pl x y)
def cu (x:Rq α Unit)(y:Rq (List α) δ):Rq (List α) δ:=co (pu x y)
def cd (x:Rq α β)(y:β->Rq (List α) δ):Rq (List α) (β×δ):=co (dp x y)
def ap (n:Nat)(x:Rq (List α×List α) β):Rq (List α) β:=via (λp:List α×List α=>p.1++p.2) (λl=>some (l.take n,l.drop n)) (λa' a h=>by cases h;simp) x
def a (n:Nat)(x:Rq (List α) β)(y:Rq (List α) δ):Rq (List α) (β×δ):=ap n (pr x y)
def al (n:Nat)(x:Rq (List α) β)(y:Rq (List α) Unit):Rq (List α) β:=ap n (pl x y)
def au (n:Nat)(x:Rq (List α) Unit)(y:Rq (List α) δ):Rq (List α) δ:=ap n (pu x y)
def no:Rq (Option α) Unit:=one none (λl=>match l with|none=>true|_=>false) λb h=>by cases b<;>first|rfl|cases h
def so (x:Rq α β):Rq (Option α) β:=via some (λa=>a) (λa' a h=>h) x
def szl (x:Rq Nat β):Rq Sz β:=via Sz.l (λz=>match z with|.l n=>some n|_=>none) (λa' a h=>by cases a'<;>cases h;rfl) x
def szs (x:Rq Nat β):Rq Sz β:=via Sz.s (λz=>match z with|.s n=>some n|_=>none) (λa' a h=>by cases a'<;>cases h;rfl) x
def ok' (x:Rq Nat β):Rq ch β:=via ch.k (λz=>match z with|.k n=>some n|_=>none) (λa' a h=>by cases a'<;>cases h;rfl) x
def ox (x:Rq (Nat×Nat×Nat) β):Rq ch β:=via (λp:Nat×Nat×Nat=>ch.x p.1 p.2.1 p.2.2) (λz=>match z with|.x a b c=>some (a,b,c)|_=>none) (λa' a h=>by cases a'<;>cases h;rfl) x
def fi (k:IntKind)(x:Rq Int β):Rq FV β:=via (FV.i k) (λz=>match z with|.i k' n=>cond (decide (k'=k)) (some n) none|_=>none) (λa' a h=>by
 cases a' with
 |i k' n=>
  cases hk:decide (k'=k)<;>simp only[hk] at h<;>first|(cases h;done)|(cases h;rw[of_decide_eq_true hk])
 |_=>cases h) x
def fb (x:Rq Bool β):Rq FV β:=via FV.b (λz=>match z with|.b n=>some n|_=>none) (λa' a h=>by cases a'<;>cases h;rfl) x
def fs (x:Rq ByteArray β):Rq FV β:=via FV.s (λz=>match z with|.s n=>some n|_=>none) (λa' a h=>by cases a'<;>cases h;rfl) x
def cf (x:Rq FV β):Rq CV β:=via CV.f (λz=>match z with|.f n=>some n|_=>none) (λa' a h=>by cases a'<;>cases h;rfl) x
def LA (x:Rq (Nat×ch×Nat) β):Rq CV β:=via (λp:Nat×ch×Nat=>CV.ptr p.1 p.2.1 p.2.2) (λz=>match z with|.ptr a b c=>some (a,b,c)|_=>none) (λa' a h=>by cases a'<;>cases h;rfl) x
def ccl (x:Rq (Nat×Nat×ch×Nat) β):Rq CV β:=via (λp:Nat×Nat×ch×Nat=>CV.cl p.1 p.2.1 p.2.2.1 p.2.2.2) (λz=>match z with|.cl e a b c=>some (e,a,b,c)|_=>none) (λa' a h=>by cases a'<;>cases h;rfl) x
def dG (x:Rq (Nat×ch×Sz×Nat×Bool) β):Rq CV β:=via (λp:Nat×ch×Sz×Nat×Bool=>CV.sl p.1 p.2.1 p.2.2.1 p.2.2.2.1 p.2.2.2.2) (λz=>match z with|.sl a b c d e=>some (a,b,c,d,e)|_=>none) (λa' a h=>by cases a'<;>cases h;rfl) x
def cfs (x:Rq (Nat×Nat×List cC) β):Rq CV β:=via (λp:Nat×Nat×List cC=>CV.fs p.1 p.2.1 p.2.2) (λz=>match z with|.fs a b c=>some (a,b,c)|_=>none) (λa' a h=>by cases a'<;>cases h;rfl) x
def auG:Rq CV Unit:=one .afZ (λl=>match l with|.afZ=>true|_=>false) λb h=>by cases b<;>first|rfl|cases h
def aQX:Rq CV Unit:=one .nils (λl=>match l with|.nils=>true|_=>false) λb h=>by cases b<;>first|rfl|cases h
def ki (k:IntKind)(x:Rq (Nat->Int) β):Rq cC β:=via (cC.i k) (λz=>match z with|.i k' n=>cond (decide (k'=k)) (some n) none|_=>none) (λa' a h=>by
 cases a' with
 |i k' n=>
  cases hk:decide (k'=k)<;>simp only[hk] at h<;>first|(cases h;done)|(cases h;rw[of_decide_eq_true hk])
 |_=>cases h) x
def kb (x:Rq (Nat->Bool) β):Rq cC β:=via cC.b (λz=>match z with|.b n=>some n|_=>none) (λa' a h=>by cases a'<;>cases h;rfl) x
def ks (x:Rq (Nat->ByteArray) β):Rq cC β:=via cC.s (λz=>match z with|.s n=>some n|_=>none) (λa' a h=>by cases a'<;>cases h;rfl) x
def gc (x:Rq CV β):Rq Sg β:=via Sg.c (λz=>match z with|.c n=>some n|_=>none) (λa' a h=>by cases a'<;>cases h;rfl) x
def ga (x:Rq (Sz×List cC) β):Rq Sg β:=via (λp:Sz×List cC=>Sg.a p.1 p.2) (λz=>match z with|.a n c=>some (n,c)|_=>none) (λa' a h=>by cases a'<;>cases h;rfl) x
def rc (x:Rq CV β):Rq RV β:=via RV.c (λz=>match z with|.c n=>some n|_=>none) (λa' a h=>by cases a'<;>cases h;rfl) x
def ra (x:Rq af β):Rq RV β:=via RV.agg (λz=>match z with|.agg n=>some n|_=>none) (λa' a h=>by cases a'<;>cases h;rfl) x
def ar (x:Rq RV β):Rq AV β:=via AV.r (λz=>match z with|.r n=>some n|_=>none) (λa' a h=>by cases a'<;>cases h;rfl) x
def pw (x:Rq (List RV) β):Rq AV β:=via AV.tup (λz=>match z with|.tup n=>some n|_=>none) (λa' a h=>by cases a'<;>cases h;rfl) x
def afn (x:Rq (Nat×List RV) β):Rq AV β:=via (λp:Nat×List RV=>AV.fn p.1 p.2) (λz=>match z with|.fn a b=>some (a,b)|_=>none) (λa' a h=>by cases a'<;>cases h;rfl) x
def aVh:Rq AV Unit:=one .Tp (λl=>match l with|.Tp=>true|_=>false) λb h=>by cases b<;>first|rfl|cases h
def st (x:Rq (List AV×List (Option af)×List Nat) β):Rq St β:=via (λp:List AV×List (Option af)×List Nat=>St.mk p.1 p.2.1 p.2.2) (λz=>some (z.tmps,z.heap,z.cT)) (λa' a h=>by cases a';cases h;rfl) x
def eW:Rq Ch Unit:=one .kU (λl=>match l with|.kU=>true|_=>false) λb h=>by cases b<;>first|rfl|cases h
def Ti:Rq Ch Unit:=one .kill (λl=>match l with|.kill=>true|_=>false) λb h=>by cases b<;>first|rfl|cases h
def zC (x:Rq af β):Rq Ch β:=via Ch.set (λz=>match z with|.set n=>some n|_=>none) (λa' a h=>by cases a'<;>cases h;rfl) x
def res (x:Rq (AV×List Ch×List af) β):Rq nk β:=via (λp:AV×List Ch×List af=>nk.mk p.1 p.2.1 p.2.2) (λz=>some (z.val,z.vP,z.news)) (λa' a h=>by cases a';cases h;rfl) x
def us:Nat->Rq (List AV) β->Rq (List AV) β
 |0,x=>x
 |n+1,x=>cu aVh (us n x)
def xs:Nat->Rq (List AV) β->Rq (List AV) β
 |0,x=>x
 |n+1,x=>cu (pw nil) (xs n x)
def ci:Rq CV Int:=cf (fi .i64 hole)
def cn:Rq CV Int:=cf (fi .u64 hole)
def cb:Rq CV Bool:=cf (fb hole)
def ct:Rq CV ByteArray:=cf (fs hole)
def gi:Rq Sg Int:=gc ci
def gn:Rq Sg Int:=gc cn
def gb:Rq Sg Bool:=gc cb
def gt:Rq Sg ByteArray:=gc ct
def ac (x:Rq CV β):Rq AV β:=ar (rc x)
def ai:Rq AV Int:=ac ci
def an:Rq AV Int:=ac cn
def ab:Rq AV Bool:=ac cb
def aa (x:Rq af β):Rq AV β:=ar (ra x)
def cp (b n:Nat):Rq CV Unit:=LA (pu (nat b) (pu (ok' (nat 0)) (nat n)))
def gp (b n:Nat):Rq Sg Unit:=gc (cp b n)
def app (b n:Nat):Rq AV Unit:=ac (cp b n)
def slc (b z:Nat):Rq CV (Nat×Bool):=dG (pu (nat b) (pu (ok' (nat 0)) (pr (szs hole) (pu (nat z) hole))))
def wX (b z:Nat):Rq CV Nat:=dG (pu (nat b) (pu (ok' (nat 0)) (pl (szs hole) (pu (nat z) (bool true)))))
def gl (n:Nat)(x:Rq (List cC) β):Rq Sg β:=ga (pu (szl (nat n)) x)
def gs (n:Nat)(x:Rq (List cC) β):Rq Sg β:=ga (pu (szs (tie n)) x)
def fA:Rq cC (Nat->Int):=ki .i64 hole
def kcb:Rq cC (Nat->Bool):=kb hole
end Rq
abbrev Ct:=Nat×C6
def T.avb (l:List Bool)(t:T):T:=List.rec (motive:=λ_=>T) t (λb _ r=>.test b r .fail) l
def aS1 {ρ:Type}(l:List Bool)(t:Option ρ):Option ρ:=List.rec (motive:=λ_=>Option ρ) t (λb _ r=>cond b r none) l
theorem aiJ {t:T}{r:nk}:∀{l:List Bool},(T.avb l t).eval=some r->aBT l∧t.eval=some r
 | [],h=>⟨trivial,h⟩
 |b::l,h=>by
  obtain⟨h1,h2⟩:=aBQ (b:=b) (a:=T.avb l t) h
  obtain⟨h3,h4⟩:=aiJ h2
  exact⟨⟨h1,h3⟩,h4⟩
theorem aBU {ρ:Type}{t:Option ρ}{r:ρ}:∀{l:List Bool},aS1 l t=some r->aBT l∧t=some r
 | [],h=>⟨trivial,h⟩
 |b::l,h=>by
  have h':cond b (aS1 l t) none=some r:=h
  cases b with
  |false=>cases h'
  |true=>
   obtain⟨h3,h4⟩:=aBU h'
   exact⟨⟨rfl,h3⟩,h4⟩
def FC {β δ:Type}(Q:Rq (List AV×List af) β)(R:δ->T)(f:β->Option δ):C6:=λa h=>match Q.rd (a,h) with
 |some b=>T.avb b.1 (.opt (f b.2) R)
 |none=>.fail
def fg {D X:Type}(id kk:Nat)(Q:Rq St D)(E:∀{ρ:Type},X->(AX->St->Option ρ)->Option ρ)(l:D->Option X):Sm:=⟨id,kk,λs k=>match Q.rd s with
 |some b=>aS1 b.1 ((l b.2).bind λx=>E x k)
 |none=>none⟩
def aik {β δ:Type}(P:Program)(l:List Ct)(hs:Hs)(lf n:Nat)(Q:Rq (List AV×List af) β)(R:δ->T)(B:β->Pg δ):Prop:=
 ∀b,den P (C7 l) hs lf n (Q.em b).1 (Q.em b).2=(B b).run λd=>(R d).eval
def aNN {D X:Type}(P:Program)(l:List Ct)(hs:Hs)(kk lf n id:Nat)(Q:Rq St D)(E:∀{ρ:Type},X->(AX->St->Option ρ)->Option ρ)(S:D->Pg (D⊕X)):Prop:=
 ∀(ρ:Type) (d:D) (c:St->Option ρ) (K:AX->St->Option ρ),E5 P (C7 l) hs (tmpsOf P n) kk lf (Xk P n id) (Q.em d) (next (λt=>t.head kk hs (Xk P n id)) c K)=
  (S d).run (Sum.elim (λd=>c (Q.em d)) λx=>E x K)
def aNO {D X:Type}(P:Program)(l:List Ct)(hs:Hs)(kk lf n id:Nat)(Q:Rq St D)(E:∀{ρ:Type},X->(AX->St->Option ρ)->Option ρ)(S:D->Pg X):Prop:=
 ∀(ρ:Type) (d:D) (K:AX->St->Option ρ),E5 P (C7 l) hs (tmpsOf P n) kk lf (adj P n id) (Q.em d) K=(S d).run λx=>E x K
section
variable [ax]
def Snd (P:Program)(e:Ct):Prop:=Sound P e.1 e.2
theorem Snd.of {P:Program}{e:Ct}{n:Nat}{F:C6}(S:Sound P n F)(h:e=(n,F)):Snd P e:=by
 subst h
 exact S
theorem HI.c {P:Program}{l:List Ct}{e:Ct}(S:Snd P e)(h:HI P l):HI P (e::l):=HI.cons S h
omit [ax] in
theorem aJu {D X:Type}{id kk:Nat}{Q:Rq St D}{E:∀{ρ:Type},X->(AX->St->Option ρ)->Option ρ}{l:D->Option X}{ρ:Type}{s:St}{K:AX->St->Option ρ}{r:ρ}
  (h:(fg id kk Q E l).run s K=some r):∃d,s=Q.em d∧((l d).bind λx=>E x K)=some r:=by
 simp only[fg] at h
 split at h
 ·rename_i b hb
  obtain⟨t,d⟩:=b
  obtain⟨h1,h2⟩:=aBU h
  exact⟨d,Q.ok s t d hb h1,h2⟩
 ·cases h
theorem mkL {D X:Type}{P:Program}{l:List Ct}{hs:Hs}{kk lf n id:Nat}{Q:Rq St D}{E:∀{ρ:Type},X->(AX->St->Option ρ)->Option ρ}{S:D->Pg (D⊕X)}
  (h0:anj hs (Xk P n id)=some (fg id kk Q E (bD S lf)))(h:aNN P l hs kk lf n id Q E S):∀k',L7 P (C7 l) hs (tmpsOf P n) k' lf (Xk P n id):=
 L7.of (id:=id) (k0:=kk) (run:=(fg id kk Q E (bD S lf)).run) h0 λs K r hr=>by
  obtain⟨d,rfl,WT⟩:=aJu hr
  refine⟨lf,?_⟩
  rw[aiI] at WT
  exact(awX (emb:=Q.em) (step:=λd c x=>(S d).run (Sum.elim c x)) (kx:=λx=>E x K) (λd c=>h _ d c K) lf d).trans WT
theorem mkJ {D X:Type}{P:Program}{l:List Ct}{hs:Hs}{kk lf n id:Nat}{hd:Hd}{Q:Rq St D}{E:∀{ρ:Type},X->(AX->St->Option ρ)->Option ρ}{S:D->Pg X}
  (h0:awA hs (adj P n id)=some ⟨hd,fg id kk Q E λd=>(S d).val⟩)(h:aNO P l hs kk lf n id Q E S):∀k',art P (C7 l) hs (tmpsOf P n) k' lf (adj P n id):=
 art.of (id:=id) (k0:=kk) (hd:=hd) (run:=(fg id kk Q E λd=>(S d).val).run) h0 λs K r hr=>by
  obtain⟨d,rfl,WT⟩:=aJu hr
  rw[Pg.aBS] at WT
  exact(h _ d K).trans WT
omit [ax] in
theorem aS2 {β δ:Type}{Q:Rq (List AV×List af) β}{R:δ->T}{B:β->Pg δ}{a:List AV}{h:List af}{r:nk}(hr:(FC Q R (λb=>(B b).val) a h).eval=some r):
  ∃b,(a,h)=Q.em b∧((B b).run λd=>(R d).eval)=some r:=by
 unfold FC at hr
 split at hr
 ·rename_i b hb
  obtain⟨t,b⟩:=b
  obtain⟨h1,WT⟩:=aiJ hr
  rw[ap1,Pg.aBS] at WT
  exact⟨b,Q.ok _ _ _ hb h1,WT⟩
 ·cases hr
theorem mkS {β δ:Type}{P:Program}{l:List Ct}{hs:Hs}{lf n:Nat}{Q:Rq (List AV×List af) β}{R:δ->T}{B:β->Pg δ}(hm:P.follows .mixedOrders=true)(hl:HI P l)(hc:El P n=true)
  (aJm:∀fn c kk,P.funcs[n]? =some fn->fn.body=some c->Jp P (C7 l) hs fn.ntmps kk lf c)(h:aik P l hs lf n Q R B):Sound P n (FC Q R λb=>(B b).val):=
 (aO2 hl hm aJm hc).by λa b r hr=>by
  obtain⟨b,e,WT⟩:=aS2 hr
  obtain⟨rfl,rfl⟩:=Prod.mk.inj e
  exact aO3 ((h b).trans WT)
theorem mk0 {β δ:Type}{P:Program}{l:List Ct}{d0:List Nat}{lf n:Nat}{Q:Rq (List AV×List af) β}{R:δ->T}{B:β->Pg δ}(hm:P.follows .mixedOrders=true)(hl:HI P l)(hc:El P n=true)
  (h:aik P l ⟨[],[],d0,[],none⟩ lf n Q R B):Sound P n (FC Q R λb=>(B b).val):=
 mkS hm hl hc (λ_ _ _ _ _=>Jp.nil ..) h
omit [ax] in
theorem aJv {t t':T}{r:nk}(h:t.eval=some r->t'.eval=some r)(l:List Bool):(T.avb l t).eval=some r->(T.avb l t').eval=some r:=by
 induction l with
 |nil=>exact h
 |cons b l ih=>
  intro k
  obtain⟨h1,h2⟩:=aBQ (b:=b) (a:=T.avb l t) k
  subst h1
  exact ih h2
theorem C' {β δ:Type}{P:Program}{n:Nat}{Q:Rq (List AV×List af) β}{R R':δ->T}{f:β->Option δ}(h:∀d r,(R' d).eval=some r->(R d).eval=some r)(S:Sound P n (FC Q R f)):Sound P n (FC Q R' f):=S.by λa b r hr=>by
 unfold FC at hr ⊢
 split at hr
 ·rename_i x hx
  refine aJv (λhr=> ?_) x.1 hr
  rw[ap1] at hr ⊢
  cases hf:f x.2 with
  |none=>rw[hf] at hr;cases hr
  |some d=>rw[hf,Option.bind_some] at hr;exact h d r hr
 ·cases hr
end
abbrev wI (n:Int):Int:=IntKind.wrap .i64 n
abbrev wU (n:Int):Int:=IntKind.wrap .u64 n
end Go.Ab
namespace Go.Proofs.YtcmfbkneahoonaaGreat
open Go.Ab
theorem aS3 [ax]:Sound Tryz.prog 217 (abk Ba):=aFm (aGS (fn:=Tryz.f217) Tryz.func217 (by kernel_rfl) (by kernel_rfl) (by kernel_rfl) (by kernel_rfl))
end Go.Proofs.YtcmfbkneahoonaaGreat
namespace Go.Proofs.YtcmfbkneahoonaaGreat
open Go.Ab
theorem aS4 [ax]:Sound Tryz.prog 246 (abk abl):=aFm (aGT (fn:=Tryz.f246) Tryz.func246 (by kernel_rfl) (by kernel_rfl) (by kernel_rfl) (by kernel_rfl))
end Go.Proofs.YtcmfbkneahoonaaGreat
noncomputable section
namespace Go.Proofs.YtcmfbkneahoonaaGreat
open Go.Ab
abbrev arU:=C3
def aiK (g:C3):Ct:=(217,abk g)
theorem amh [ax]:Snd Tryz.prog (aiK Ba):=aS3
abbrev aS5:=C3
def aJw (g:C3):Ct:=(246,abk g)
theorem aPa [ax]:Snd Tryz.prog (aJw abl):=aS4
end Go.Proofs.YtcmfbkneahoonaaGreat
noncomputable section
namespace Go.Ab
abbrev NI:=Nat->Int
@[reducible] def _root_.Prod.b {a b c:Type} (x:a×b×c):c:=x.2.2
@[reducible] def _root_.Prod.c {a b c d e:Type} (x:a×b×c×d×e):e:=x.2.2.2.2
@[reducible] def _root_.Prod.d {a b c d e f g h i:Type} (x:a×b×c×d×e×f×g×h×i):i:=x.2.2.2.2.2.2.2.2
@[reducible] def _root_.Prod.e {a b c d e f g h i j k l m n o p q:Type} (x:a×b×c×d×e×f×g×h×i×j×k×l×m×n×o×p×q):q:=x.2.2.2.2.2.2.2.2.2.2.2.2.2.2.2.2
def cr {α:Type}(d:α)(l:List α):Nat->α:=List.rec (motive:=λ_=>Nat->α) (λ_=>d) (λx l ih j=>bif Nat.beq j l.length then x else ih j) l
@[reducible] def c24 (g:Nat->Nat->Int):=(g 0,g 1,g 2,g 3,g 4,g 5,g 6,g 7,g 8,g 9,g 10,g 11,g 12,g 13,g 14,g 15,g 16,g 17,g 18,g 19,g 20,g 21,g 22,g 23)
@[reducible] def awq {r:Type} (g:Nat->Nat->Int) (x:r):=(g 0,g 1,g 2,g 3,g 4,g 5,g 6,g 7,g 8,g 9,g 10,g 11,g 12,g 13,g 14,g 15,g 16,g 17,g 18,g 19,g 20,g 21,g 22,g 23,x)
def rg:Nat->Nat->List Nat->List Nat
 |_,0,t=>t
 |a,n+1,t=>a::rg (a+1) n t
def sh8 (o:Nat)(x:(Nat->Int)×(Nat->Int)×(Nat->Int)×(Nat->Int)×(Nat->Int)×(Nat->Int)×(Nat->Int)×(Nat->Int)):(Nat->Int)×(Nat->Int)×(Nat->Int)×(Nat->Int)×(Nat->Int)×(Nat->Int)×(Nat->Int)×(Nat->Int):=(λj=>x.1 (o+j),λj=>x.2.1 (o+j),λj=>x.2.2.1 (o+j),λj=>x.2.2.2.1 (o+j),λj=>x.2.2.2.2.1 (o+j),λj=>x.2.2.2.2.2.1 (o+j),λj=>x.2.2.2.2.2.2.1 (o+j),λj=>x.2.2.2.2.2.2.2 (o+j))
def ep (o:Nat)(x:(Nat->Int)×(Nat->Int)×(Nat->Int)×(Nat->Int)×(Nat->Int)×(Nat->Int)×(Nat->Int)×(Nat->Int)×(Nat->Int)):(Nat->Int)×(Nat->Int)×(Nat->Int)×(Nat->Int)×(Nat->Int)×(Nat->Int)×(Nat->Int)×(Nat->Int)×(Nat->Int):=(λj=>x.1 (o+j),λj=>x.2.1 (o+j),λj=>x.2.2.1 (o+j),λj=>x.2.2.2.1 (o+j),λj=>x.2.2.2.2.1 (o+j),λj=>x.2.2.2.2.2.1 (o+j),λj=>x.2.2.2.2.2.2.1 (o+j),λj=>x.2.2.2.2.2.2.2.1 (o+j),λj=>x.2.2.2.2.2.2.2.2 (o+j))
def Jj (o:Nat)(x:(Nat->Int)×(Nat->Int)×(Nat->Int)×(Nat->Int)×(Nat->Int)×(Nat->Int)×(Nat->Int)×(Nat->Int)×(Nat->Int)×(Nat->Int)):(Nat->Int)×(Nat->Int)×(Nat->Int)×(Nat->Int)×(Nat->Int)×(Nat->Int)×(Nat->Int)×(Nat->Int)×(Nat->Int)×(Nat->Int):=(λj=>x.1 (o+j),λj=>x.2.1 (o+j),λj=>x.2.2.1 (o+j),λj=>x.2.2.2.1 (o+j),λj=>x.2.2.2.2.1 (o+j),λj=>x.2.2.2.2.2.1 (o+j),λj=>x.2.2.2.2.2.2.1 (o+j),λj=>x.2.2.2.2.2.2.2.1 (o+j),λj=>x.2.2.2.2.2.2.2.2.1 (o+j),λj=>x.2.2.2.2.2.2.2.2.2 (o+j))
abbrev bH:=(Int×Int×Int×Int×Int)×Int×Nat×Int
abbrev Ty1:=(Int×Int×Int×Int×(Int×Int×Int×Int×Int×Int)×(Int×Int×Int×Int×Int×Int)×NI×NI×Int×Int×Int×Int×Int×Int×Int×Int)×Bool×NI×(NI×NI)×(Nat×Nat)×(Int×Int×Bool×Bool)×Bool×Int×(Int×Int×Int)×Bool×Bool×Bool×Int×Int×Int×((Int×Int×Int×Int)×(Int×Int×Int)×Int×Int×Int)×Nat
abbrev eB:=NI×NI×NI×NI×NI×NI×NI×NI×NI
abbrev iU:=Nat×NI×NI×NI×NI×NI×NI×NI×NI×NI
abbrev Ty4:=(Int×Int×Int×Int×(Int×Int×Int×Int×Int×Int)×(Int×Int×Int×Int×Int×Int)×NI×NI×Int×Int×Int×Int×Int×Int×Int×Int)×Bool×NI×(NI×NI)×Nat×(Int×Int×Bool×Bool)×Bool×Int×(Int×Int×Int)×Bool×Bool×Bool×Int×Int×Int×((Int×Int×Int×Int)×(Int×Int×Int)×Int×Int×Int)×Nat
abbrev BZ:=Nat×NI×NI×NI×NI×NI×NI×NI×NI×NI×NI
abbrev Jk:=Int×(Int×Int×(Int×Int×Int)×Int×Int×Int)×Bool
abbrev Ty7:=Int×Int×Int×Int×(Int×Int×Int×Int×Int×Int)×(Int×Int×Int×Int×Int×Int)×NI×NI×Int×Int×Int×Int×Int×Int×Int×Int
abbrev Jf:=(NI×NI×(Nat->Bool)×NI×NI×NI)×Int
abbrev LY:=Nat×NI×NI×NI×NI×NI×NI×NI×NI
abbrev arp:=Nat×NI×NI×NI×NI×NI×NI×NI×NI×NI×NI×NI×NI×NI×NI×NI×NI×NI×NI×NI×NI
abbrev vO:=(Int×Int×Int)×Int×Int
abbrev afU:=(Int×Int×Int×Int)×(Int×Int×Int)×Int×Int×Int
abbrev qP:=Int×Int×Nat
abbrev awr:=Nat×NI×NI×NI×NI×NI×NI×NI×NI×NI×NI×NI
abbrev aAt:=Int×Int×Int×Int×Int×Int×Int×Int
abbrev afV:=Int×Int×Bool×Bool
abbrev aQd:=Int×Int×Int×Int×Int×Int×Int×Int×Int×Int×Int×Int×Int×Int×Int×Int×Int×Int×Int
abbrev Lx:=Int×Int×Int
abbrev aUY:=(Int×Int×Int×Int×Int×Int×Int×Int×Int×Int×Bool×Int×Int×Int×Int×Bool×Bool)⊕(Int×Int×Int×Int×Int×Int×Int×Int×Int×Bool×Int×Int×Int×Bool)
abbrev aIi:=NI×NI×(Nat->Bool)×NI×NI×NI
abbrev aNB:=NI×NI×NI×NI×NI×NI×NI×NI×NI×NI
abbrev aUZ:=NI×NI×NI×NI×NI×NI×NI×NI×NI×NI×NI×NI×NI×NI×NI×NI×NI×NI×NI×NI×NI×NI×NI×NI
abbrev aIj:=(Nat×Bool)×Int×Int×Bool
abbrev aNC:=Int×Int×Int×Int×Int×Int×Int
abbrev aQe:=Int×(Nat×Bool)×(Nat×Bool)×Int×Int×Bool
abbrev aEK:=Int×Int×Int×Int
abbrev aU0:=Int×Int×Int×Int×Int×Int×Int×Int×Int×Int×Bool×Int×Bool
abbrev aQf:=Int×Int×Int×Int×Int
abbrev RA (b:Type):=Rq (List AV×List af) b
abbrev RS (b:Type):=Rq St b
abbrev RE (b:Type):=Rq nk b
@[reducible] def qa {b:Type} (x:RA b):RA b:=x
@[reducible] def qs {b:Type} (x:RS b):RS b:=x
@[reducible] def qe {b:Type} (x:RE b):RE b:=x
@[reducible] def nO {α:Type}:Rq (Option α) Unit:=Rq.no
def lf {β:Type}(q:RE β)(d:β):T:=.leaf (q.em d)
def ls {A B:Type}(f:A->T)(g:B->T)(x:A⊕B):T:=T.sum x f g
def Ex (X:Type):=∀{ρ:Type},X->(AX->St->Option ρ)->Option ρ
abbrev KT:=AX->St
def ef {X:Type}(a:AX)(q:RS X){ρ:Type}(x:X)(K:AX->St->Option ρ):Option ρ:=K a (q.em x)
abbrev LT {D:Type}(_:RS D)(X:Type):=D->Option X
abbrev PL {D:Type}(_:RS D)(X:Type):=Pg (D⊕X)
structure KK where
 l:List Ct
 hs:Hs
 kk:Nat
 n:Nat
end Go.Ab
namespace Go.Proofs.YtcmfbkneahoonaaGreat
section
open Go.Ab Go.Ab.Rq
def ek:=bool true
def eS:=szs hole
def cw:=nat 0
def A9:=nat 1
def rq4:=nat 2
def Th:=pw nil
def rq6:=nat 4
def rq7:=nat 3
def rq8:=nat 6
def rq9:=nat 5
def mD:=nat 11
def eY:=nat 9
def uM:=nat 8
def aws:=nat 13
def aAu:=nat 14
def aIk:=nat 15
def awt:=nat 16
def aAv:=nat 17
def aIl:=nat 18
def aIm:=nat 19
def aEL:=nat 21
def aP:=app 0 1
def fU:=cl ai nil
def uN:=cl gb nil
def aEM:=cl an nil
def aIn:=cl ab nil
def aIo:=app 1 2
def Xf:=cu eW nil
def awu:=app 2 2
def mE:=cl fA nil
def jO:=cl gi nil
def anc:=app 1 4
def awv:=app 2 4
def aww:=app 0 24
def aIp:=app 1 3
def Xg:=app 2 3
def RF:=app 1 24
def Cr:=app 2 24
def E3:=app 1 300
def Xh:=app 2 300
def aEN:=app 3 300
def aND:=us 20 nil
def Ot:=app 1 576
def aEO:=app 1 9
def ah7:=app 3 3
def aNE:=app 4 3
def aQg:=us 27 nil
def aQh:=app 2 1152
def Xi:=app 3 1152
def ane:=app 4 24
def Ou:=app 1 1
def afW:=app 3 24
def aNF:=app 2 576
def Ly:=app 4 300
def anf:=app 5 48
def awx:=app 2 48
def aEP:=app 4 576
def ang:=app 5 24
def aEQ:=app 2 373
def aER:=app 3 373
def aIq:=cu Ti nil
def F9:=app 0 3
def awy:=app 0 37
def Tj:=app 0 8
def aIr:=app 0 72
def aAw:=app 4 1
def dy:=app 0 434
def aIs:=gp 6 8
def aIt:=gp 7 8
def aIu:=gp 8 8
def aIv:=gp 9 8
def afX:=gp 1 5
def afY:=gp 2 10
def anh:=gp 10 37
def ani:=gp 11 3
def awz:=app 2 20
def aNG:=app 3 4
def aNH:=app 5 16
def aNI:=app 6 12
def aNJ:=app 3 576
def aNK:=app 4 12
def aIw:=app 3 1
def Xj:=app 20 8
def aQi:=app 21 11
def aQj:=us 95 nil
def aNL:=app 20 20
def aIx:=app 1 434
def xW:=ok' cw
def Tk:=szs cw
def arq:=zC uN
def aNM:=cl (rc cb) nil
def aQk:=ac (slc 0 2)
def F':=ac (slc 1 1)
def ck:=so uN
def cB:=cu cw nil
def Tl:=ac (slc 0 1)
def aQl:=ac (slc 2 1)
def aAx:=ac (slc 1 3)
def ars:=cl (rc ci) nil
def aIy:=ac (slc 1 24)
def aFU:=ac (slc 1 27)
def aKS:=ac (slc 0 3)
def aKT:=ac (slc 1 10)
def auv:=cu A9 nil
def aKU:=ac (slc 2 10)
def aKV:=ac (slc 0 9)
def aKW:=ac (wX 1 9)
def aFV:=gc (wX 3 8)
def aKX:=ac (wX 2 11)
def wY:=c ai fU
def bB:=cl uN nil
def auw:=c gn (cl gn nil)
def aKY:=c gi (cl gn nil)
def apB:=cu (gp 1 1) nil
def aKZ:=xs 8 (us 22 nil)
def aQm:=cf (fb (bool false))
def aK0:=cl ab (us 14 nil)
def aK1:=cl ab (us 21 nil)
def aK2:=cl ai (us 15 nil)
def aK3:=cl ai (us 26 nil)
def aFW:=cl ai (us 13 nil)
def aQn:=cl ab (us 12 nil)
def ah8:=c gi jO
def aQo:=cl ai (us 11 nil)
def fq:=gl 24 mE
def aK4:=cl ai (us 18 nil)
def auy:=cu eW Xf
def aK5:=cu (gp 2 1) nil
def aK6:=gl 276 mE
def aFX:=cl ai aND
def aK7:=cl ai (us 8 nil)
def aQp:=cl ai (us 21 nil)
def aQq:=cl ai (us 22 nil)
def aK8:=cl ai (us 82 nil)
def aFY:=cl ai (us 24 nil)
def aQr:=cl ab (us 23 nil)
def aQs:=cl ai (us 80 nil)
def aQt:=cl ai (us 12 nil)
def aQu:=cl ai (us 32 nil)
def aQv:=cl ab (us 38 nil)
def aQw:=cu (gp 0 3) nil
def aQx:=cl ai (us 31 nil)
def aQy:=xs 8 (us 1 nil)
def aQz:=cl ai (us 78 nil)
def aQA:=cl ab (us 138 nil)
def aK9:=cf (fi .i64 (int 0))
def aLa:=cf (fi .i64 (int 4))
def auz:=cf (fi .i64 (int 1))
def aQB:=cf (fi .i64 (int 5))
def aLb:=afn (pu (nat 95) nil)
def kZ:=cl arq nil
def aQC:=res (pl an (pu nil nil))
def Tn:=aa auw
def ac2:=aa aKY
def Fi:=res (pl ai (pu nil nil))
def LZ:=ac (cf (fb ek))
def kv:=ac aQm
def B3:=res (pl ab (pu nil nil))
def auA:=cl F' nil
def aFZ:=cl aAx nil
def auB:=gc (cf (fb ek))
def YU:=so apB
def auC:=so aQw
def ac3:=gc aQm
def C4:=c ai wY
def aQD:=c ai (cl ab (us 30 nil))
def aF0:=c fA (cl (ki .u64 hole) nil)
def aT:=gc aK9
def aAy:=gc (cf (fi .u64 (int 0)))
def aLc:=c ai (cl ab (us 25 nil))
def aF1:=c ai aQn
def fP:=c gi ah8
def auD:=gc (cf (fi .i64 (int 1073741824)))
def apC:=cl fq nil
def aF2:=c ai (cl ab (us 17 nil))
def aLd:=c ai (cl ab (us 19 nil))
def aAz:=cl (gl 576 mE) nil
def aF3:=c ai (cl ab (us 7 nil))
def YV:=cl (gl 9 mE) nil
def aQE:=c ai (cl ab aND)
def aLe:=gc (cf (fi .i64 (int 2)))
def aF4:=c gb ah8
def apD:=c fA (c fA mE)
def aQF:=cl (gl 1152 mE) nil
def aQG:=c ai (cl ab (us 81 nil))
def aQH:=c ai (cl ab (us 29 nil))
def aF5:=c ai aQr
def aQI:=c ai (cl ab (us 13 nil))
def aQJ:=c ai (cl ab (us 11 nil))
def apE:=c kcb (c fA mE)
def aLf:=c ai aFX
def aQK:=c ai (cl ab (us 31 nil))
def aLg:=c gi (c gi uN)
def HC:=ac aK9
def aQL:=ac (cf (fi .i64 (int 6)))
def aQM:=gc (cf (fi .i64 (int 3000)))
def aQN:=gc (cf (fi .i64 (int 2200)))
def aF6:=gc (cf (fi .i64 (int 500)))
def aQO:=gc (cf (fi .i64 (int 950)))
def aQP:=gc (cf (fi .i64 (int 100)))
def aQQ:=gc (cf (fi .i64 (int 1000)))
def aQR:=c ai (cl ab (us 41 nil))
def aAA:=c gn (c gn uN)
def aAB:=cu A9 (cu rq4 nil)
def aQS:=cu cw (cu mD nil)
def aAC:=cl ac2 nil
def YW:=cl (so aKY) nil
def L0:=cl arq Xf
def aLh:=c ai auA
def ac4:=aa fP
def jS:=aa apC
def mx:=so apC
def wZ:=so fP
def aQT:=c ai (cl Tl nil)
def ld:=so aAz
def Fj:=so aQF
def ac5:=so (cl (gl 48 mE) nil)
def ac6:=ra apC
def aF7:=res (pl ab (pu Xf nil))
def auE:=res (pl ai (pu Xf nil))
def ah9:=aa aAA
def aLi:=pw (c (rc ci) aNM)
def aF8:=c ai (cl ai (cu aP nil))
def aQU:=c ai (c ai aK0)
def ac7:=c gi fP
def aLj:=xs 3 (us 2 (xs 3 (us 1 nil)))
def aQV:=us 15 (c ai aK3)
def ot:=c gi (c gi (c gb uN))
def aLk:=cu (gc (cf (fi .i64 (int 3)))) nil
def aLl:=c ai aLd
def aLm:=pw (c (rc ci) ars)
def aQW:=pw (cu (rc aQX) ars)
def aia:=cu (rc aK9) nil
def aLn:=cl aLg nil
def aQY:=ox (pu cw (pl hole eY))
def apF:=cu (gc (cf (fi .i64 (int (-9223372036854775808))))) nil
def zD:=ox (pu cw (pl hole uM))
def aF9:=cl (ga (pr eS mE)) nil
def Fk:=cl ac4 nil
def ac8:=aa ac7
def uQ:=so ac7
def HD:=cl mx nil
def aLo:=cu eW (cu eW kZ)
def apG:=cl jS nil
def ac9:=c gi (c gi (cl (gc (wX 2 11)) nil))
def aGa:=c gi (c gi (cl (gc (wX 3 11)) nil))
def aGb:=c gi (c gi (cl (gc (wX 7 11)) nil))
def aLp:=c gi (c gi (cl (gc (wX 4 11)) nil))
def aLq:=res (pl ai (pu auy nil))
def pX:=c gi (c gi (cl (gc (wX 19 11)) nil))
def HE:=so aF9
def aQZ:=us 15 (c ai aLc)
def gJ:=c gi ac7
def aQ0:=cu eW (cu eW (cu eW auy))
def oQ:=res (pr ai (pl kZ nil))
def aQ1:=res (pl ac2 (pu nil nil))
def aGc:=res (pl Tn (pu nil nil))
def apH:=cl ac8 nil
def ada:=c jS fU
def aQ2:=pw (c (ra aKY) aNM)
def aib:=cl HE nil
def my:=c aK6 apC
def auF:=c fq fP
def aAD:=c gi gJ
def aLr:=aa (a 3 fP jO)
def aQ3:=c gi (c gi (c gb fP))
def aLs:=xs 3 (us 2 aLj)
def aQ4:=ac (LA (pu cw (pu (ok' eY) A9)))
def aQ5:=ac (LA (pu cw (pu (ok' rq6) rq8)))
def aLt:=ac (LA (pu cw (pu (ok' rq8) A9)))
def aQ6:=ac (LA (pu cw (pu (ok' A9) A9)))
def L3:=ac (LA (pu cw (pu (ok' (nat 72)) A9)))
def aQ7:=ac (LA (pu cw (pu (ok' (nat 412)) A9)))
def aLu:=ac (LA (pu cw (pu (ok' (nat 399)) A9)))
def aLv:=ac (LA (pu (nat 20) (pu (ok' rq4) A9)))
def aLw:=res (pr ai (pl (cu eW kZ) nil))
def aGd:=res (pr ai (pl L0 nil))
def aQ8:=res (pl ac4 (pu nil nil))
def aLx:=res (pl jS (pu nil nil))
def aLy:=cl (ga (pr eS apE)) nil
def jT:=a 3 fP ah8
def aQ9:=pw (cu (rc auG) (cu (rc auz) nil))
def aGe:=res (pl ah9 (pu nil nil))
def aLz:=res (pl (pw (c (rc cn) (cl (rc cn) nil))) (pu nil nil))
def auH:=res (pl aLi (pu nil nil))
def xX:=aa my
def hI:=so my
def aic:=ra my
def aLA:=so (cl (ga (pr eS aF0)) nil)
def aAE:=so (cl (ga (pr eS apD)) nil)
def aRa:=pw (c (ra fP) ars)
def aRb:=gl 6 (c fA (c fA (c kcb apD)))
def aRc:=cu eW (cu eW aQ0)
def ky:=so jT
def aRd:=cu Ti (cu Ti (cu Ti (cu Ti (cu Ti (cu Ti aIq)))))
def aRe:=res (pl ac8 (pu nil nil))
def aRf:=res (pl jS (pu Xf nil))
def aRg:=res (pr ai (pl aLo nil))
def aRh:=cl (aa auF) nil
def aRi:=res (pl aLm (pu Xf nil))
def aLB:=afn (pu (nat 142) (cu (rc (cp 2 1)) (cu (rc (cp 3 10)) nil)))
def aRj:=c an (c an (c an (c an (c an (c an aK0)))))
def aRk:=res (pu Th (pl (cl (zC apC) nil) nil))
def lg:=c fA (c fA (c fA (c fA (c fA apD))))
def aRl:=cl (so aLy) nil
def auI:=c gi (c gi aAD)
def aGf:=cu eW aRc
def aLC:=res (pl ai (pu (cu (zC (cu auB nil)) nil) nil))
def aLD:=res (pl aQ2 (pu nil nil))
def aLE:=so (cu aT (cu aAy nil))
def C5:=so auI
def auJ:=res (pr ac4 (pl kZ nil))
def aAF:=res (pr jS (pl kZ nil))
def aA:=c fA lg
def aLF:=c gi auI
def kC:=c aRb jO
def aAG:=res (pu aQ9 (pu nil nil))
def aRm:=cu eW (cu Ti aRc)
def L4:=c mx HD
def aRn:=ac (dG (pu A9 (pu xW (pl eS (pu rq4 ek)))))
def aRo:=ac (dG (pu rq6 (pu xW (pl eS (pu A9 ek)))))
def aGg:=c gi (c gi (a 3 fP fP))
def aRp:=ac (dG (pu rq7 (pu xW (pl eS (pu A9 ek)))))
def aRq:=ac (dG (pu rq8 (pu xW (pl eS (pu rq7 ek)))))
def aRr:=ac (dG (pu rq6 (pu xW (pl eS (pu rq7 ek)))))
def aRs:=ac (dG (pu rq9 (pu xW (pl eS (pu rq7 ek)))))
def aRt:=ac (dG (pu rq9 (pu xW (pl eS (pu A9 ek)))))
def aLG:=res (pr aLm (pl kZ nil))
def aRu:=cu kv (xs 2 (cu kv (us 61 nil)))
def aGh:=aa aLF
def aAH:=zC kC
def jL:=so kC
def aRv:=c an (c an (c an (c an (c an (c an (cl ab (us 19 aKZ)))))))
def auK:=res (pr ac8 (pl kZ nil))
def aRw:=ac (dG (pu A9 (pu xW (pu (szl rq6) (pu A9 ek)))))
def jk:=c fA aA
def aLH:=c gi aLF
def aRx:=pw (c (ra auF) ars)
def aAI:=cl kC nil
def B4:=cl aGh nil
def aRy:=cl (so aLF) nil
def YX:=cl (aa aGg) nil
def fX:=c fA jk
def auL:=c gi aLH
def adb:=a 5 gJ (c gi (c (gc (wX 1 9)) jO))
def na:=a 5 gJ (c gi (c (gc (wX 14 9)) jO))
def nc:=a 5 gJ (c gi (c (gc (wX 15 9)) jO))
def nd:=a 5 gJ (c gi (c (gc (wX 16 9)) jO))
def nh:=a 5 gJ (c gi (c (gc (wX 17 9)) jO))
def ni:=a 5 gJ (c gi (c (gc (wX 18 9)) jO))
def oR:=a 5 gJ (c gi (c (gc (wX 13 9)) jO))
def aGi:=aa (a 3 fP jT)
def aLI:=res (pr (pw (c (ra ah8) ars)) (pl kZ nil))
def aLJ:=cl (ga (pr eS lg)) nil
def aGj:=dG (pu aEL (pr zD (pl eS (pu uM ek))))
def aLK:=so (c gb (c gb (c gb (c gb (c gb (c gb (c gb (c gb fP))))))))
def aRz:=ac (dG (pu A9 (pu (ox (pu cw (pu A9 A9))) (pr eS (pu A9 hole)))))
def apI:=cu aT (cu aT (cu aT nil))
def aLL:=res (pr xX (pl kZ nil))
def aLM:=c gi auL
def aRA:=res (pr (aa auF) (pl kZ nil))
def aLN:=c fq (c gi (c gi (c gi auF)))
def aGk:=cu (gp 5 8) (cu aIs (cu aIt (cu aIu (cu aIv (cu (gp 10 8) nil)))))
def ade:=cu (gp 4 8) (cu (gp 5 8) (cu aIs (cu aIt (cu aIu (cu aIv nil)))))
def aRB:=cu auC (cu YU HD)
def aLO:=dG (pu rq7 (pu (ox (pu cw (pu cw uM))) (pl eS (pu uM ek))))
def lH:=so aLJ
def aLP:=cl aRb (cu aT nil)
def aLQ:=dG (pu aEL (pu (ox (pu cw (pu cw eY))) (pl eS (pu eY ek))))
def YY:=c hI (cl ac5 nil)
def YZ:=cl (ga (pr eS aA)) nil
def ou:=a 4 ac7 (a 3 fP fP)
def lk:=c gi (a 8 aGg uN)
def aGl:=gc aLO
def aLR:=ac (dG (pu rq4 (pu (ox (pu cw (pu cw mD))) (pl eS (pu mD ek)))))
def aLS:=ac (dG (pu cw (pu (ox (pu cw (pu cw mD))) (pl eS (pu mD ek)))))
def aLT:=ac (dG (pu A9 (pu (ox (pu cw (pu cw mD))) (pl eS (pu mD ek)))))
def aRC:=res (pr xX (pl L0 nil))
def uR:=so YZ
def apJ:=cl (ga (pu Tk aA)) nil
def aRD:=cu dy (us 2 (cu Xj (cu L3 (us 194 nil))))
def aLU:=cl (ga (pr eS jk)) nil
def aRE:=res (pr (pw (c (ra ac7) ars)) (pl kZ nil))
def kD:=so lk
def aid:=cl (so aLM) nil
def aRF:=cl (so aLP) nil
def aLV:=cl (aa (c gb (c gb (a 6 (c gb (c gb (c gb (c gb (c gb uN))))) fP)))) nil
def aGm:=c mx L4
def adf:=c gi (c gi (c gi (c gi (c gi (c gi (c gi (c gi (c gi (c gi (c gi YV))))))))))
def ov:=so aLU
def aLW:=c fq (c fq auI)
def aRG:=cl (ga (pu Tk jk)) nil
def aLX:=aa (c gi ou)
def aLY:=cl (ga (pr eS fX)) nil
def aGn:=cl aLU nil
def aRH:=so (c gb (c gb (c gb (c gb (c gb (c gb (c gb (c gb (cu (gc (cf (fi .i64 (int 1125899906842624)))) ah8)))))))))
def aRI:=c aK6 (c fq (c fq (c fq (cl (gl 25 mE) nil))))
def aRJ:=pw (c (ra auL) aNM)
def Y0:=so aLY
def auM:=c hI (cl hI nil)
def aAJ:=res (pr aRx (pl kZ nil))
def aAK:=cl aLY nil
def PY:=so aRI
def aLZ:=afn (pu (nat 145) (cu (rc (cp 2 1)) (cu (rc (cp 3 3)) (cu (rc (cp 4 1)) (cu (rc (cp 5 3)) (cu (rc (cp 6 4)) nil))))))
def aL0:=c gi (c gi (cl (gc (dG (pu (nat 20) (pu (ox (pu cw (pu cw mD))) (pl eS (pu mD ek)))))) nil))
def aRK:=c gi (c gi (cl (gc (dG (pu (nat 38) (pu (ox (pu cw (pu cw mD))) (pl eS (pu mD ek)))))) nil))
def aL1:=c gi (c gi (cl (gc (dG (pu aIm (pu (ox (pu cw (pu cw mD))) (pl eS (pu mD ek)))))) nil))
def aRL:=res (pu (pw (cu (rc (cp 0 5)) aia)) (pu nil (cl gJ nil)))
def aL2:=cl (zC aLY) nil
def L5:=cl Y0 nil
def aie:=c gi (c gi (c gi (c gi aLM)))
def aRM:=cl (cl (ga (pu Tk fX)) nil) nil
def adg:=so (c gi (c gi (cl (gc (dG (pu (nat 29) (pu (ox (pu cw (pu cw mD))) (pl eS (pu mD ek)))))) nil)))
def auN:=so (c gi (c gi (cl (gc (dG (pu (nat 28) (pu (ox (pu cw (pu cw mD))) (pl eS (pu mD ek)))))) nil)))
def apK:=so (c gi (c gi (cl (gc (dG (pu (nat 39) (pu (ox (pu cw (pu cw mD))) (pl eS (pu mD ek)))))) nil)))
def aif:=so (cu aT apI)
def aRN:=cu eW (cu eW aL2)
def aih:=cu (so apI) (cl wZ nil)
def aRO:=cu eW (cu eW (cu eW (cu eW (cu eW (cu eW (cu eW (cu eW (cu eW (cu eW (cu eW aGf))))))))))
def aL3:=cu Ti (cu Ti (cu Ti (cu Ti (cu Ti (cu Ti (cu Ti (cu Ti (cu Ti (cu Ti (cu Ti (cu Ti aRd)))))))))))
def aL4:=c gi (c gi (c gi (a 10 ou (cl (gc (wX 20 10)) nil))))
def aRP:=c fA (c fA (c fA (c fA (c fA (c fA (c fA (c fA (c fA fX))))))))
def aii:=cu eW aRO
def apL:=a 5 gJ (c gi (c (gc (dG (pu (nat 22) (pu (ox (pu cw (pu cw eY))) (pl eS (pu eY ek)))))) jO))
def aRQ:=a 5 gJ (c gi (c (gc (dG (pu (nat 23) (pu (ox (pu cw (pu cw eY))) (pl eS (pu eY ek)))))) jO))
def aRR:=a 5 gJ (c gi (c (gc (dG (pu (nat 24) (pu (ox (pu cw (pu cw eY))) (pl eS (pu eY ek)))))) jO))
def aRS:=a 5 gJ (c gi (c (gc (dG (pu (nat 25) (pu (ox (pu cw (pu cw eY))) (pl eS (pu eY ek)))))) jO))
def aRT:=a 5 gJ (c gi (c (gc (dG (pu (nat 26) (pu (ox (pu cw (pu cw eY))) (pl eS (pu eY ek)))))) jO))
def aGo:=a 5 gJ (c gi (c (gc (dG (pu (nat 32) (pu (ox (pu cw (pu cw eY))) (pl eS (pu eY ek)))))) jO))
def adh:=a 5 gJ (c gi (c (gc (dG (pu (nat 33) (pu (ox (pu cw (pu cw eY))) (pl eS (pu eY ek)))))) jO))
def aRU:=a 5 gJ (c gi (c (gc (dG (pu (nat 34) (pu (ox (pu cw (pu cw eY))) (pl eS (pu eY ek)))))) jO))
def aRV:=a 5 gJ (c gi (c (gc (dG (pu (nat 35) (pu (ox (pu cw (pu cw eY))) (pl eS (pu eY ek)))))) jO))
def aRW:=a 5 gJ (c gi (c (gc (dG (pu (nat 36) (pu (ox (pu cw (pu cw eY))) (pl eS (pu eY ek)))))) jO))
def aRX:=a 5 gJ (c gi (c (gc (dG (pu (nat 37) (pu (ox (pu cw (pu cw eY))) (pl eS (pu eY ek)))))) jO))
def aL5:=a 5 gJ (c gi (c (gc (dG (pu aws (pu (ox (pu cw (pu cw eY))) (pl eS (pu eY ek)))))) jO))
def aL6:=a 5 gJ (c gi (c (gc (dG (pu aAu (pu (ox (pu cw (pu cw eY))) (pl eS (pu eY ek)))))) jO))
def aL7:=a 5 gJ (c gi (c (gc (dG (pu aIk (pu (ox (pu cw (pu cw eY))) (pl eS (pu eY ek)))))) jO))
def aL8:=a 5 gJ (c gi (c (gc (dG (pu awt (pu (ox (pu cw (pu cw eY))) (pl eS (pu eY ek)))))) jO))
def aL9:=a 5 gJ (c gi (c (gc (dG (pu aAv (pu (ox (pu cw (pu cw eY))) (pl eS (pu eY ek)))))) jO))
def aMa:=a 5 gJ (c gi (c (gc (dG (pu aIl (pu (ox (pu cw (pu cw eY))) (pl eS (pu eY ek)))))) jO))
def aRY:=res (pl ai (pu aii nil))
def HF:=so aRQ
def HG:=so aRR
def HH:=so aRS
def B5:=so aRT
def xY:=so (a 5 gJ (c gi (c (gc (dG (pu (nat 27) (pu (ox (pu cw (pu cw eY))) (pl eS (pu eY ek)))))) jO)))
def Jl:=so (a 5 gJ (c gi (c (gc (dG (pu (nat 28) (pu (ox (pu cw (pu cw eY))) (pl eS (pu eY ek)))))) jO)))
def Y1:=so aRU
def Y2:=so aRV
def Y3:=so aRW
def Y4:=so aRX
def adi:=so (a 5 gJ (c gi (c (gc (dG (pu (nat 38) (pu (ox (pu cw (pu cw eY))) (pl eS (pu eY ek)))))) jO)))
def aAL:=so (a 5 gJ (c gi (c (gc (dG (pu (nat 29) (pu (ox (pu cw (pu cw eY))) (pl eS (pu eY ek)))))) jO)))
def aAM:=so (a 5 gJ (c gi (c (gc (dG (pu (nat 30) (pu (ox (pu cw (pu cw eY))) (pl eS (pu eY ek)))))) jO)))
def aAN:=so (a 5 gJ (c gi (c (gc (dG (pu (nat 31) (pu (ox (pu cw (pu cw eY))) (pl eS (pu eY ek)))))) jO)))
def aAO:=c fA (c fA (c fA (c fA aRP)))
def aRZ:=cu aT (cu aT (cu aT apI))
def xZ:=ac (cfs (pr hole (pu (nat 20) aRP)))
def aR0:=c hI (c hI (c ld HD))
def aR1:=xs 3 (us 2 (xs 3 (us 2 (xs 3 (us 2 (xs 3 (us 2 (xs 3 (us 2 (xs 3 (us 2 (xs 3 (us 2 (xs 3 (us 2 (xs 3 (us 2 (xs 3 (us 2 aLs)))))))))))))))))))
def To:=cu rq6 (cu rq9 (cu rq8 (cu (nat 7) (cu uM (cu eY (cu aIm (cu aIl (cu aAv (cu awt (cu aIk (cu aAu (cu aws (cu mD (cu cw (cu (nat 10) nil)))))))))))))))
def aGp:=c fA (c fA (c fA aAO))
def aR2:=so (cl (ga (pr eS aAO)) nil)
def aR3:=so (c gi (c gi (c gi (cl gi aRZ))))
def aR4:=cu eW (cu eW (cu eW (cu eW (cu eW (cu eW (cu eW (cu eW (cu eW (cl aAH (cu eW aGf))))))))))
def aMb:=cu eW (cu eW (cu eW (cu eW (cu eW (cu eW (cu eW (cu eW (cu eW (cl aAH aRm)))))))))
def aMc:=cu eW aR4
def aAP:=cu cw (cu rq6 (cu rq9 (cu rq8 (cu (nat 7) (cu uM (cu eY (cu aIm (cu aIl (cu aAv (cu awt (cu aIk (cu aAu (cu aws (cu (nat 12) (cu rq7 (cu mD (cu rq4 (cu (nat 10) nil))))))))))))))))))
def aGq:=cu aT (cu aT aRZ)
def aGr:=c Y0 L5
def lI:=c gi (c gi (c gi (c gi (a 6 aAD (a 6 aAD aLW)))))
def aR5:=c gb (c gb (c gi (c gi (c gi (a 10 ou (cl (gc (dG (pu (nat 12) (pu (ox (pu cw (pu cw (nat 10)))) (pl eS (pu (nat 10) ek)))))) nil))))))
def aR6:=res (pu Th (pl aMc nil))
def aij:=cu aIm (cu aIl (cu aAv (cu awt (cu aIk (cu aAu (cu aws (cu (nat 12) (cu mD (cu (nat 10) (cu rq7 (cu rq4 (cu A9 (cu cw (cu rq6 (cu rq9 (cu rq8 (cu (nat 7) (cu uM (cu eY nil)))))))))))))))))))
def aR7:=res (pu (ac (dG (pu A9 (pu xW (pu (szl rq7) (pu (nat 27) ek)))))) (pr kZ (cl (c fq (c gi (c gi (c gi aLN)))) nil)))
def aR8:=cl gi (cu aT (cu aT (cu aT (cu aT (cu aT (cu aT (cu aT (cu aT (cu ac3 nil)))))))))
def aR9:=so (cu aT (cu aT aGq))
def aMd:=au 6 ade (cu anh (a 4 ot (cu ani (c gb (c gi (a 3 fP (c gb (c gb (c gb (c gi (c gi (c gi (a 10 ou (cl (gc (dG (pu (nat 22) (pu (ox (pu cw (pu cw (nat 10)))) (pl eS (pu (nat 10) ek)))))) nil))))))))))))))
def aSa:=au 6 (cu (gp 23 8) (cu (gp 24 8) (cu (gp 25 8) (cu (gp 26 8) (cu (gp 27 8) (cu (gp 28 8) nil)))))) (cu (gp 29 37) (a 4 ot (cu (gp 30 3) (c gb (c gi (a 3 fP (c gb (c gb (c gb (c gi (c gi (c gi (a 10 ou (cl (gc (dG (pu (nat 31) (pu (ox (pu cw (pu cw (nat 10)))) (pl eS (pu (nat 10) ek)))))) nil))))))))))))))
def aMe:=cu (gc (cf (fi .i64 (int 8000)))) (cu (gc (cf (fi .i64 (int 40000)))) (cu (gc (cf (fi .i64 (int 16)))) (cu (gc aQB) (c gi (c gi (c gi (c gi (c gi (c gi (c gi (c gi (c gi (c gi (c gi (c gi (c fq (cl fq (cu (gc (cf (fi .i64 (int 5000000)))) (cu (gc (cf (fi .i64 (int 68719476736)))) (cu (gc auz) (cu (gc (cf (fi .i64 (int 268435456)))) (cu (gc (cf (fi .i64 (int 32)))) apI))))))))))))))))))))))
def aSb:=st (pr (us 4 (cu aIw (cu aAw (us 8 (cu (app 5 3) (cu (app 6 3) (cu (app 7 4) (cu (app 8 4) aQs)))))))) (pl (c (so ac9) (c ck (c Y0 (cu auC (cu YU (c wZ (c wZ (c uQ (cl uQ nil))))))))) aAB))
def aSc:=c uR (c uR (c uR (c uR (c uR (c uR L5)))))
def aAQ:=a 26 lI (c gb (c fq (a 2 my (cu (gp 2 5) (cu (gp 3 10) (c (gc (wX 4 8)) (au 6 aGk (cu (gp 11 37) (a 4 ot (cu (gp 12 3) (c gb (c gi (a 3 fP (c gb (c gb (c gb (c gi (c gi (c gi (a 10 ou (cl (gc (wX 13 10)) nil)))))))))))))))))))))
def oy:=a 26 lI (c gb (c fq (a 2 my (cu afX (cu afY (c aFV (au 6 ade (cu anh (a 4 ot (cu ani (c gb (c gi (a 3 fP (c gb (c gb (c gb (c gi (c gi (c gi (a 10 ou (cl (gc (wX 12 10)) nil)))))))))))))))))))))
def aSd:=zC (a 26 lI (c gb (c fq (a 2 my (cu afX (cu afY (c aFV (au 6 ade (cu anh (a 4 ot (cu ani (c gb (c gi (a 3 fP (c gb (c gb (c gb aL4)))))))))))))))))
def aMf:=c aLU (c YZ (c YZ (c YZ (c YZ (c YZ (c YZ aAK))))))
def L6:=c ov aSc
def aMg:=a 26 lI (c gb (c fq (a 2 my (cu (gp 20 5) (cu (gp 21 10) (c (gc (dG (pu (nat 22) (pr zD (pl eS (pu uM ek)))))) aSa))))))
def aMh:=a 26 lI (c gb (c fq (a 2 my (cu afX (cu afY (c (gc (dG (pu rq7 (pr zD (pl eS (pu uM ek)))))) (au 6 ade (cu anh (a 4 ot (cu ani (c gb (c gi (a 3 fP (c gb aR5))))))))))))))
def aMi:=so (a 26 lI (c gb (c fq (a 2 my (cu afX (cu afY (c (gc aGj) aMd)))))))
def aAR:=so (a 26 lI (c gb (c fq (a 2 my (cu afX (cu afY (c aGl aMd)))))))
def auO:=so (a 26 lI (c gb (c fq (a 2 my (cu afX (cu afY (c aGl (au 6 ade (cu anh (a 4 ot (cu ani (c gb (c gi (a 3 fP (c gb (c gb (c gb (c gi (c gi (c gi (a 10 ou (cl (gc (dG (pu aEL (pu (ox (pu cw (pu cw (nat 10)))) (pl eS (pu (nat 10) ek)))))) nil))))))))))))))))))))))
def aMj:=a 26 lI (c gb (c fq (a 2 my (cu afX (cu afY (c aGl (au 6 ade (cu anh (a 4 ot (cu ani (cu auB (c gi (a 3 fP (cu auB aR5))))))))))))))
def apM:=res (pu Th (pl (c (zC oy) aR4) nil))
def aSe:=res (pu Th (pr (cl aSd (cu eW (cu eW (cu eW (cu eW (cu eW (cu eW (cu eW (cu eW (cu eW (cu eW aRm))))))))))) aGn))
def aAS:=c ov (c uR (c uR (c uR (c uR (c uR (c uR (c Y0 aSc)))))))
def aMk:=c jT (c lk (c aLJ (c aGo (c adh (c aRU (c aRV (c aRW (c aRX (c kC (c aRK aMf))))))))))
def aAT:=c (so aMg) (cu nO (cu nO (cu nO (cu nO (cu nO (cu nO (cu nO (cu nO (cu nO (cu nO (cu nO (cu nO (cu nO (cu nO (cu nO (cu nO (cu nO (cu nO (cu nO (c ky (c kD (c lH (c (so aGo) (c (so adh) (c Y1 (c Y2 (c Y3 (c Y4 (c jL (c (so aRK) L6))))))))))))))))))))))))))))))
def aMl:=st (pr (cu dy (us 2 (cu Xj (cu L3 (us 178 (cu dy (cu dy (cu aQ7 aQn)))))))) (pl (c auO (c ky (c kD (c lH (c (so apL) (c HF (c HG (c HH (c B5 (c xY (c jL (c auN (c ov (cu nO (cu nO (cu nO (cu nO (cu nO (cu nO (cu nO (c C5 L6))))))))))))))))))))) To))
def aMm:=st (pr (cu dy (us 2 (cu Xj (cu L3 (us 178 (cu dy (cu dy (cu aQ7 (c ab (cu dy (cu dy (cu (ac (LA (pu cw (pu (ok' (nat 411)) A9)))) (cu (app 11 3) (cu L3 (cu dy (cu dy (cu (ac (LA (pu cw (pu (ok' (nat 73)) (nat 24))))) (c jS (cu (app 20 1) wY))))))))))))))))))) (pl (c auO (c ky (c kD (c lH (c (so apL) (c HF (c HG (c HH (c B5 (c xY (c jL (c auN (c ov (cu nO (cu nO (cu nO (cu nO (cu nO (cu nO (cu nO (c C5 L6))))))))))))))))))))) To))
end
open Go.Ab
abbrev TP:=Tryz.prog
abbrev D0 {β δ:Type}(l:List Ct)(n:Nat)(Q:RA β)(R:δ->T)(B:β->Pg δ):Prop:=aik TP l ⟨[],[],[],[],none⟩ 2000 n Q R B
abbrev D1 {β δ:Type}(l:List Ct)(d0:List Nat)(n:Nat)(Q:RA β)(R:δ->T)(B:β->Pg δ):Prop:=aik TP l ⟨[],[],d0,[],none⟩ 2000 n Q R B
abbrev D2 {β δ:Type}(k:KK)(Q:RA β)(R:δ->T)(B:β->Pg δ):Prop:=aik TP k.l k.hs 2000 k.n Q R B
abbrev LI {D X:Type}(k:KK)(id:Nat)(Q:RS D)(E:∀{ρ:Type},X->(AX->St->Option ρ)->Option ρ)(S:D->Pg (D⊕X)):Prop:=aNN TP k.l k.hs k.kk 2000 k.n id Q E S
abbrev JI {D X:Type}(k:KK)(id:Nat)(Q:RS D)(E:∀{ρ:Type},X->(AX->St->Option ρ)->Option ρ)(S:D->Pg X):Prop:=aNO TP k.l k.hs k.kk 2000 k.n id Q E S
section
variable [ax]
abbrev SC (e:Ct):Prop:=Snd TP e
theorem sc {e:Ct}{n:Nat}{F:C6}(S:Sound TP n F)(h:e=(n,F):=by kernel_rfl):SC e:=Snd.of S h
theorem k0 {β δ:Type}{l:List Ct}{d0:List Nat}{n:Nat}{Q:RA β}{R:δ->T}{B:β->Pg δ}(hl:HI TP l)(h:aik TP l ⟨[],[],d0,[],none⟩ 2000 n Q R B)(hc:El TP n=true:=by kernel_rfl):Sound TP n (FC Q R λb=>(B b).val):=mk0 mixed hl hc h
theorem s0 {β δ:Type}{e:Ct}{l:List Ct}{d0:List Nat}{n:Nat}{Q:RA β}{R:δ->T}{B:β->Pg δ}(hl:HI TP l)(h:aik TP l ⟨[],[],d0,[],none⟩ 2000 n Q R B)(he:e=(n,FC Q R λb=>(B b).val):=by kernel_rfl)(hc:El TP n=true:=by kernel_rfl):SC e:=Snd.of (mk0 mixed hl hc h) he
theorem kS {β δ:Type}{k:KK}{Q:RA β}{R:δ->T}{B:β->Pg δ}(hl:HI TP k.l)(i j:List Nat)
  (h1:zd (λa=>∀kk,L7 TP (C7 k.l) k.hs (tmpsOf TP k.n) kk 2000 a) (i.map (Xk TP k.n)))
  (h2:zd (λb=>∀kk,art TP (C7 k.l) k.hs (tmpsOf TP k.n) kk 2000 b) (j.map (adj TP k.n)))
  (h:D2 k Q R B)(e1:Jm (Xl TP k.n)=i.map (Xk TP k.n):=by kernel_rfl)(e2:Jo k.hs (Xl TP k.n)=j.map (adj TP k.n):=by kernel_rfl)(hc:El TP k.n=true:=by kernel_rfl):
  Sound TP k.n (FC Q R λb=>(B b).val):=mkS mixed hl hc (Jp.by e1 h1 e2 h2) h
theorem kL {D X:Type}{k:KK}{id:Nat}{Q:RS D}{E:∀{ρ:Type},X->(AX->St->Option ρ)->Option ρ}{S:D->Pg (D⊕X)}(h:LI k id Q E S)
  (h0:anj k.hs (Xk TP k.n id)=some (fg id k.kk Q E (bD S 2000)):=by kernel_rfl):∀k',L7 TP (C7 k.l) k.hs (tmpsOf TP k.n) k' 2000 (Xk TP k.n id):=mkL h0 h
theorem kJ {D X:Type}{k:KK}{id:Nat}{Q:RS D}{E:∀{ρ:Type},X->(AX->St->Option ρ)->Option ρ}{S:D->Pg X}(hd:Hd)(h:JI k id Q E S)
  (h0:awA k.hs (adj TP k.n id)=some ⟨hd,fg id k.kk Q E λd=>(S d).val⟩:=by kernel_rfl):∀k',art TP (C7 k.l) k.hs (tmpsOf TP k.n) k' 2000 (adj TP k.n id):=mkJ h0 h
theorem kN {k:KK}{c:Code}(h:anj k.hs c=none:=by kernel_rfl):∀k',L7 TP (C7 k.l) k.hs (tmpsOf TP k.n) k' 2000 c:=L7.no h
end
end Go.Proofs.YtcmfbkneahoonaaGreat
namespace Go.Ab
variable [ax]
omit [ax] in
theorem awY:∀{h:List af} {cs:List Ch} {j:Nat},cs[j]? =some .kill->(((after h cs)[j]?).getD none)=none
 | [],cs,j,_=>by simp[after]
 |b0::bs,[],j,h=>by simp at h
 |b0::bs,c::cs,0,h=>by
  simp only[List.getElem?_cons_zero,Option.some.injEq] at h
  subst h;simp[after]
 |b0::bs,c::cs,j+1,h=>by
  have:=awY (h:=bs) (cs:=cs) (j:=j) (by simpa using h)
  cases c<;>simpa[after] using this
theorem avc {P:Program}{π:Pi}{w w':World}{h:List af}{cs:List Ch}{k:af}{val:AV}{v:Value}{B s e:Nat}(hH:pY π (hC (h.map some)) (hZ (h.map some)) w)(iT:∀b,π b≠none->b<h.length)
  (HM:∀b,b<h.length->cs[b]? =some .kU∨cs[b]? =some .kill)(hfr:bU w (A' π h.length (P5 cs)) w')(hle:s+af.size k<=e)(og:∀i,s<=i->i<e->(cl w' B i).isSome=true∧fz w' B i=false)
  (hk:∀j,j<af.size k->∃v,cl w' B (s+j)=some v∧(af.get k j).rel π v)
  (hpl:(w.heap.size<=B)∨∃b s0 q0 e0,b<h.length∧cs[b]? =some .kill∧π b=some (B,s0,q0,e0)∧s0<=s∧e<=e0)
  (ham:yd w')(hlb:s<e->ax.h0<=B)(hv:∀π':Pi,Ext π π'->π' h.length=some (B,s,af.size k,e)->val.rel π' v):
  aFk P π w h ⟨val,cs,[k]⟩ (.returned v) w':=by
 have h0:π h.length=none:=by
  cases hh:π h.length with
  |none=>rfl
  |some p=>exact absurd (iT _ (by rw[hh];simp)) (Nat.lt_irrefl _)
 have hx:=yf h0 (B,s,af.size k,e)
 have avd:=nV π h.length (B,s,af.size k,e)
 have adN:∀b,b≠h.length->xN π h.length (B,s,af.size k,e) b=π b:=λb hb=>by simp only[xN,if_neg hb]
 have aVi:(nk.heap ⟨val,cs,[k]⟩ h)[h.length]? =some (some k):=Za (r:=⟨val,cs,[k]⟩) (h:=h) (k:=0) rfl
 have hlen:(nk.heap ⟨val,cs,[k]⟩ h).length=h.length+1:=by simp[nk.heap,lJ]
 have live:∀b,hZ (nk.heap ⟨val,cs,[k]⟩ h) b≠none->b=h.length∨(b<h.length∧cs[b]? =some .kU∧∃kb,h[b]? =some kb∧(nk.heap ⟨val,cs,[k]⟩ h)[b]? =some (some kb)):=λb hb=>by
  rcases Nat.lt_trichotomy b h.length with mb|heq|hgt
  ·right
   rcases HM b mb with hc|hc
   ·have hkb:h[b]? =some (h[b]'mb):=List.getElem?_eq_getElem _
    exact⟨mb,hc,_,hkb,(BJ mb).trans (adJ.2 hc _ hkb)⟩
   ·exfalso;apply hb
    unfold hZ
    rw[BJ mb,awY hc];rfl
  ·exact .inl heq
  ·exfalso;apply hb
   unfold hZ
   rw[List.getElem?_eq_none (by omega)];rfl
 have kept:∀b kb,b<h.length->cs[b]? =some .kU->h[b]? =some kb->∃Bb sb eb,π b=some (Bb,sb,af.size kb,eb)∧sb+af.size kb<=eb∧
   (∀i,sb<=i->i<eb->(cl w' Bb i).isSome=true∧fz w' Bb i=false)∧(∀j,j<af.size kb->∃v,cl w' Bb (sb+j)=some v∧(af.get kb j).rel π v)∧∀i,sb<=i->i<eb->Bb<w.heap.size∧¬A' π h.length (P5 cs) Bb i:=λb kb mb hc hkb=>by
  have hzb:hZ (h.map some) b=some (af.size kb):=by rw[NM,hkb];rfl
  obtain⟨Bb,sb,eb,p1,p2,p3,p4⟩:=hH.hp b _ hzb
  have hnf:∀i,sb<=i->i<eb->Bb<w.heap.size∧¬A' π h.length (P5 cs) Bb i:=λi i1 i2=>by
   refine⟨Y9 (p3 i i1 i2).1,?_⟩
   rintro ⟨b2,s2,q2,e2,C8,hd2,hp2,j1,j2⟩
   have kV:b≠b2:=λe=>by subst e;exact hd2 hc
   have hz2:hZ (h.map some) b2≠none:=by
    rw[NM,List.getElem?_eq_getElem C8];simp
   exact hH.dj b b2 Bb sb _ eb s2 q2 e2 kV (by rw[hzb];simp) hz2 p1 hp2 i i1 i2 j1 j2
  refine⟨Bb,sb,eb,p1,p2,λi i1 i2=> ?_,λj hj=> ?_,hnf⟩
  ·obtain⟨hB,hn⟩:=hnf i i1 i2
   rw[hfr.cl hB hn,hfr.fz hB];exact p3 i i1 i2
  ·obtain⟨v,hv1,hv2⟩:=p4 j hj
   obtain⟨hB,hn⟩:=hnf (sb+j) (by omega) (by omega)
   refine⟨v,by rw[hfr.cl hB hn];exact hv1,?_⟩
   rw[aAn hkb hj] at hv2;exact hv2
 have apart:∀b kb Bb sb qb eb,b<h.length->cs[b]? =some .kU->h[b]? =some kb->π b=some (Bb,sb,qb,eb)->Bb=B->∀i,sb<=i->i<eb->s<=i->i<e->False:=λb kb Bb sb qb eb mb hc hkb hpb hBB i i1 i2 i3 i4=>by
  obtain⟨B1,s1,e1,q1,_,_,_,q5⟩:=kept b kb mb hc hkb
  rw[hpb] at q1;cases q1
  obtain⟨hB,hn⟩:=q5 i i1 i2
  rcases hpl with hpl| ⟨b2,s2,q2,e2,C8,hc2,hp2,j1,j2⟩
  ·omega
  ·apply hn
   rw[hBB]
   exact⟨b2,s2,q2,e2,C8,by unfold P5;rw[hc2];simp,hp2,by omega,by omega⟩
 refine⟨xN π h.length (B,s,af.size k,e),v,rfl,hx,hv _ hx avd,⟨ham,λb B1 s1 q1 e1 hz hp zb=> ?_,λb n hz=> ?_,λb b' B1 s1 q1 e1 s2 q2 e2 kV hz rL hp rT i i1 i2 i3 i4=> ?_⟩,hfr,λb hb=> ?_,λb B1 s1 q1 e1 aXo hb hB i i1 i2=> ?_⟩
 ·rcases live b hz with rfl| ⟨mb,hc,kb,hkb,_⟩
  ·rw[avd] at hp;cases hp
   exact hlb zb
  ·rw[adN b (by omega)] at hp
   exact hH.lb b B1 s1 q1 e1 (by rw[NM,hkb];simp) hp zb
 ·rcases live b (by rw[hz];simp) with rfl| ⟨mb,hc,kb,hkb,hgb⟩
  ·rw[Xz aVi] at hz;cases hz
   refine⟨B,s,e,avd,hle,og,λj hj=> ?_⟩
   obtain⟨v,hv1,hv2⟩:=hk j hj
   refine⟨v,hv1,?_⟩
   rw[adK aVi hj];exact CV.c8 hx _ _ hv2
  ·rw[Xz hgb] at hz;cases hz
   obtain⟨Bb,sb,eb,p1,p2,p3,p4,_⟩:=kept b kb mb hc hkb
   refine⟨Bb,sb,eb,by rw[adN b (by omega)];exact p1,p2,p3,λj hj=> ?_⟩
   obtain⟨v,hv1,hv2⟩:=p4 j hj
   refine⟨v,hv1,?_⟩
   rw[adK hgb hj];exact CV.c8 hx _ _ hv2
 ·rcases live b hz with rfl| ⟨mb,hc,kb,hkb,_⟩
  ·rcases live b' rL with rfl| ⟨aVj,hc',kb',aS6,_⟩
   ·exact kV rfl
   ·rw[avd] at hp;cases hp
    rw[adN b' (by omega)] at rT
    exact apart b' kb' _ _ _ _ aVj hc' aS6 rT rfl i i3 i4 i1 i2
  ·rw[adN b (by omega)] at hp
   rcases live b' rL with rfl| ⟨aVj,hc',kb',aS6,_⟩
   ·rw[avd] at rT;cases rT
    exact apart b kb _ _ _ _ mb hc hkb hp rfl i i1 i2 i3 i4
   ·rw[adN b' (by omega)] at rT
    have hz1:hZ (h.map some) b≠none:=by rw[NM,hkb];simp
    have hz2:hZ (h.map some) b'≠none:=by rw[NM,aS6];simp
    exact hH.dj b b' B1 s1 q1 e1 s2 q2 e2 kV hz1 hz2 hp rT i i1 i2 i3 i4
 ·show b<h.length+1
  by_cases e:b=h.length
  ·omega
  ·rw[adN b e] at hb
   have:=iT b hb;omega
 ·by_cases e':b=h.length
  ·subst e'
   rw[avd] at hb;cases hb
   rcases hpl with hpl| ⟨b2,s2,q2,e2,C8,hc2,hp2,j1,j2⟩
   ·omega
   ·exact⟨b2,s2,q2,e2,C8,by unfold P5;rw[hc2];simp,hp2,by omega,by omega⟩
  ·rw[adN b e'] at hb
   have:=iT b (by rw[hb];simp);omega
end Go.Ab
set_option linter.unusedVariables false
set_option linter.unusedSimpArgs false
namespace Go.Proofs.YtcmfbkneahoonaaGreat
open Go.RowKit Go.Lib Go.Ab
theorem XC {P:Program}(w:World)(dT sT ty e:TypeId)(z b o aOl aXv:Nat)(a:Addr)(aJx aVk:Nat)(cs:List Value)(hu:P.underlying dT=some (.slice e))(hz:gK P e=some z)(hn:cs.length=Nat.min aJx aOl*z)
  (aXw:∀j v,cs[j]? =some v->w.cell? (a.add j)=some v)(hc:∀j,j<cs.length->(w.cell? ⟨b,o+j,none⟩).isSome=true)(hf:∀j,j<cs.length->w.frozen? ⟨b,o+j,none⟩=false)(h1:∀v∈cs,v.oneCell'=true):
  (Builtin.copy_ #[dT,sT] ty #[.slice (some ⟨b,o,none⟩) aOl aXv,.slice (some a) aJx aVk]).run P w=.ok (goInt (Nat.min aJx aOl)) (w.setCells b o cs):=by
 have hl:=run_firstCells_some (P:=P) w z (Nat.min aJx aOl) a aJx aVk cs hn aXw
 have hst:=run_storeCells_cells (P:=P) b o cs 0 w (by simpa using hc) (by simpa using hf) h1
 simp[Builtin.copy_,run_underlying hu,Builtin.lenOf,Ab.run_sizeOf hz,hl,hst]
theorem uT:Tryz.prog.underlying 130=some (.slice 78):=by kernel_rfl
theorem uE:gK Tryz.prog 78=some 9:=by kernel_rfl
set_option maxHeartbeats 4000000 in
set_option maxRecDepth 100000 in
theorem aMR (b off n c i vb Bc vc:Nat)(cs vs:List Value)(w:World)(hi:i<n)(P4:n+1<=c)(hvb:vb=b->Bc+9<=off∨off+(n+1)*9<=Bc)(B7:cs.length=n*9)(hvl:vs.length=9)(aZI:n+1<=9223372036854775807)
  (HM:∀j v,cs[j]? =some v->w.cell? ⟨b,off+j,none⟩=some v)(hsp:∀j,j<(n+1)*9->(w.cell? ⟨b,off+j,none⟩).isSome=true)(hfz:∀j,j<(n+1)*9->w.frozen? ⟨b,off+j,none⟩=false)
  (hvs:∀j v,vs[j]? =some v->w.cell? ⟨vb,Bc+j,none⟩=some v)(h1c:∀v∈cs,v.oneCell'=true)(h1v:∀v∈vs,v.oneCell'=true)
  (hov:∀cb,(callFunc 162 #[.slice (some ⟨vb,Bc,none⟩) 1 vc,.slice (some ⟨b,off+(i+1)*9,none⟩) (n-i) cb]).run Tryz.prog w=.ok (.value (.bool false)) w):
  Calls Tryz.prog 96 #[.slice (some ⟨b,off,none⟩) n c,.int .i64 i,.slice (some ⟨vb,Bc,none⟩) 1 vc] w λe w'=>
   e=.returned (.slice (some ⟨b,off,none⟩) (n+1) c)∧w'=(w.drew.setCells b (off+(i+1)*9) (cs.drop (i*9))).setCells b (off+i*9) vs:=by
 have mixed:=mixed
 have hz2:¬((i:Int)=(n:Int)):=by omega
 have hdl:(cs.drop (i*9)).length=(n-i)*9:=by rw[List.length_drop,B7];omega
 have hw1:IntKind.i64.wrap ((i:Int)+1)=(i:Int)+1:=by rw[IntKind.wrap_i64];omega
 have hw2:IntKind.i64.wrap ((n:Int)+1)=(n:Int)+1:=by rw[IntKind.wrap_i64];omega
 have hb1:(0:Int)<=(i:Int)+1:=by omega
 have hin:i<=n:=by omega
 have htn:((i:Int)+1).toNat=i+1:=by omega
 have C8:¬(c=i+1):=by omega
 have hb3:(i:Int)<=(n:Int)+1:=by omega
 have hb4:¬(c=i):=by omega
 have hb5:¬((c:Int)<(n:Int)+1):=by omega
 have aVl:∀ty dc sc,(Builtin.copy_ #[130,130] ty #[.slice (some ⟨b,off+(i+1)*9,none⟩) (n-i) dc,.slice (some ⟨b,off+i*9,none⟩) (n+1-i) sc]).run Tryz.prog w.drew=.ok (goInt (Nat.min (n+1-i) (n-i))) (w.drew.setCells b (off+(i+1)*9) (cs.drop (i*9))):=λty dc sc=>
  XC w.drew _ _ ty 78 9 b (off+(i+1)*9) (n-i) dc ⟨b,off+i*9,none⟩ (n+1-i) sc (cs.drop (i*9)) uT uE (by rw[hdl];simp only[Nat.min_def];split<;>omega)
   (λj v hj=>by rw[Addr.add_lit,Nat.add_assoc];exact HM (i*9+j) v (by rwa [List.getElem?_drop] at hj))
   (λj hj=>by rw[Nat.add_assoc];exact hsp _ (by omega)) (λj hj=>by rw[Nat.add_assoc];exact hfz _ (by omega)) (λv hv=>h1c v (List.mem_of_mem_drop hv))
 obtain⟨W1,hW1⟩:∃W1,W1=w.drew.setCells b (off+(i+1)*9) (cs.drop (i*9)):=⟨_,rfl⟩
 have aXx:∀k,k<(n+1)*9->(W1.cell? ⟨b,off+k,none⟩).isSome=true:=λk hk=>by
  rw[hW1]
  exact Go.Proofs.isSome_setCells b _ _ _ (λj hj=>by rw[Nat.add_assoc];exact hsp _ (by omega)) _ (hsp k hk)
 have aXy:∀(W:World),(∀x,W.cell? x=W1.cell? x)->(∀x,W.frozen? x=W1.frozen? x)->∀ty dc,(Builtin.copy_ #[130,130] ty #[.slice (some ⟨b,off+i*9,none⟩) (n+1-i) dc,.slice (some ⟨vb,Bc,none⟩) 1 vc]).run Tryz.prog W=.ok (goInt (Nat.min 1 (n+1-i))) (W.setCells b (off+i*9) vs):=λW hWc hWf ty dc=>
  XC W _ _ ty 78 9 b (off+i*9) (n+1-i) dc ⟨vb,Bc,none⟩ 1 vc vs uT uE (by rw[hvl];simp only[Nat.min_def];split<;>omega)
   (λj v hj=>by
    have hj9:=(List.getElem?_eq_some_iff.1 hj).1
    rw[Addr.add_lit,hWc,hW1,World.cell?_setCells_out b _ _ _ _ (λh _=>by
     have:=hvb h
     show Bc+j<_∨_<=Bc+j
     omega)]
    exact hvs j v hj)
   (λj hj=>by rw[hWc,Nat.add_assoc];exact aXx _ (by omega)) (λj hj=>by rw[hWf,hW1,World.frozen?_setCells,Nat.add_assoc];exact hfz _ (by omega)) h1v
 rw[<-hW1] at aVl
 go_enter Tryz.func96,Tryz.ntmps96
 go_wp2_with (simp only[hov])
 go_region_law_o (refine step_copy_runI rfl _ _ 130 130 rfl _ _ (by simp[Act.eval,Act.put]) (by simp[Act.eval,Act.put]) (aVl _ _ _) ?_)
 go_wp2_with (at_builtin;refine wpList_copy_runI _ rfl _ _ 130 130 rfl _ _ rfl rfl (aXy _ (λ_=>rfl) (λ_=>rfl) _ _) ?_)
 go_ret
 first|exact⟨rfl,rfl⟩|exact⟨rfl,by rw[hW1]⟩
set_option maxHeartbeats 4000000 in
set_option maxRecDepth 100000 in
theorem aJy (base:Option Addr)(n c vb Bc vc:Nat)(w w2:World)(v2:Value)
  (hrz:∀ty,(Builtin.append_ #[130,130] ty #[.slice base n c,.slice (some ⟨vb,Bc,none⟩) 1 vc]).run Tryz.prog w=.ok v2 w2):
  Calls Tryz.prog 96 #[.slice base n c,.int .i64 n,.slice (some ⟨vb,Bc,none⟩) 1 vc] w λe w'=>e=.returned v2∧w'=w2:=by
 have mixed:=mixed
 go_enter Tryz.func96,Tryz.ntmps96
 go_wp2_with (at_builtin;refine Lib.wpList_append_run _ rfl _ _ _ _ rfl _ _ rfl rfl _ _ (hrz _) ?_)
 all_goals (go_ret;exact⟨rfl,rfl⟩)
theorem iE:∃i z,Tryz.prog.info? 78=some i∧i.zero=some z∧i.size=9∧i.bytes=72∧z.cells.size=9:=by
 have h:(Tryz.prog.info? 78).map (λi=>(i.size,i.bytes,(i.zero.map λz=>z.cells.size)))=some (9,72,some 9):=by kernel_rfl
 cases hi:Tryz.prog.info? 78 with
 |none=>rw[hi] at h;cases h
 |some i=>
  rw[hi] at h
  simp only[Option.map_some,Option.some.injEq,Prod.mk.injEq] at h
  obtain⟨h1,h2,h3⟩:=h
  cases hz:i.zero with
  |none=>rw[hz] at h3;cases h3
  |some z=>rw[hz] at h3;exact⟨i,z,rfl,hz,h1,h2,by simpa using h3⟩
theorem uI:Tryz.prog.underlying 3=some (.int .i64):=by kernel_rfl
set_option maxHeartbeats 4000000 in
set_option maxRecDepth 100000 in
theorem aPb (b off n c i vb Bc vc:Nat)(cs vs:List Value)(w:World)(hi:i<n)(hnc:n<=c)(P4:c<n+1)(awK:(n+1)*72<=140737488355328)(B7:cs.length=n*9)(hvl:vs.length=9)
  (HM:∀j v,cs[j]? =some v->w.cell? ⟨b,off+j,none⟩=some v)(hvs:∀j v,vs[j]? =some v->w.cell? ⟨vb,Bc+j,none⟩=some v)(h1c:∀v∈cs,v.oneCell'=true)(h1v:∀v∈vs,v.oneCell'=true):
  ∃G Bd,n+1<=G∧Bd.size=G*9∧(∀j v,j<i*9->cs[j]? =some v->Bd[j]? =some v)∧
  Calls Tryz.prog 96 #[.slice (some ⟨b,off,none⟩) n c,.int .i64 i,.slice (some ⟨vb,Bc,none⟩) 1 vc] w λe w'=>
   e=.returned (.slice (some ⟨w.heap.size,0,none⟩) (n+1) G)∧
   w'=(((w.alloc (.cells Bd 78)).drew.setCells w.heap.size (i*9) vs).drew).setCells w.heap.size ((i+1)*9) (cs.drop (i*9)):=by
 have mixed:=mixed
 obtain⟨i0,z0,hi0,Lv,hzs,hzb,hzl⟩:=iE
 have hz2:¬((i:Int)=(n:Int)):=by omega
 have hz3:(c:Int)<(n:Int)+1:=by omega
 have hbw:b<w.heap.size:=block_lt_of_cell (HM 0 _ (List.getElem?_eq_getElem (by omega)))
 have hvw:vb<w.heap.size:=block_lt_of_cell (hvs 0 _ (List.getElem?_eq_getElem (by omega)))
 have hkk:(n:Int)+1-(i:Int)=((n+1-i:Nat):Int):=by omega
 have hik:i+(n+1-i)=n+1:=by omega
 have htl:(cs.take (i*9)).length=i*9:=by rw[List.length_take];omega
 have hold:(Builtin.firstCells i0.size i (.slice (some ⟨b,off,none⟩) i c)).run Tryz.prog w.drew=.ok (cs.take (i*9)).toArray w.drew:=by
  rw[hzs]
  exact run_firstCells_some w.drew 9 i ⟨b,off,none⟩ i c (cs.take (i*9)) htl (λj v hj=>by
   rw[Addr.add_lit]
   rw[List.getElem?_take] at hj
   split at hj
   ·exact HM j v hj
   ·cases hj)
 have hrz:∀ty,(Builtin.append_ #[130,3] ty #[.slice (some ⟨b,off,none⟩) i c,.int .i64 ((n:Int)+1-(i:Int))]).run Tryz.prog w=
   .ok (.slice (some ⟨w.heap.size,0,none⟩) (n+1) (grownCap w (n+1) c 78)) (w.drew.alloc (.cells ((cs.take (i*9)).toArray++Builtin.zeroCells z0.cells (n+1-i)++Builtin.zeroCells z0.cells (grownCap w (n+1) c 78-(n+1))) 78)):=λty=>by
  have h:=Lib.run_append_grow_zeros w 130 3 ty 78 i0 _ .i64 .i64 uT uI hi0 Lv (some ⟨b,off,none⟩) i c (cs.take (i*9)) hold (n+1-i) (by omega) (by omega) (by omega) (by omega) (by rw[hzb];omega) (by rw[hzb,hik];exact growslice_fits P4 awK)
  rw[hik] at h
  rw[hkk]
  exact h
 have hGn:n+1<=grownCap w (n+1) c 78:=grownCap_ge w _ _ _
 obtain⟨G,hG⟩:∃G,G=grownCap w (n+1) c 78:=⟨_,rfl⟩
 obtain⟨Bd,aOm⟩:∃Bd:Array Value,Bd=(cs.take (i*9)).toArray++Builtin.zeroCells z0.cells (n+1-i)++Builtin.zeroCells z0.cells (G-(n+1)):=⟨_,rfl⟩
 rw[<-hG] at hrz hGn
 rw[<-aOm] at hrz
 have hRs:Bd.size=G*9:=by
  rw[aOm]
  simp only[Array.size_append,List.size_toArray,htl,size_zeroCells,hzl]
  omega
 refine⟨G,Bd,hGn,hRs,λj v hj hv=> ?_,?_⟩
 ·rw[aOm,Array.getElem?_append_left (by simp[htl];omega),Array.getElem?_append_left (by simp[htl];omega)]
  simp only[List.getElem?_toArray]
  rw[List.getElem?_take,if_pos hj];exact hv
 have hRl:(n+1)*9<=Bd.size:=by rw[hRs];exact Nat.mul_le_mul_right _ hGn
 obtain⟨W1,hW1⟩:∃W1,W1=w.drew.alloc (.cells Bd 78):=⟨_,rfl⟩
 rw[<-hW1] at hrz
 have hN:∀j,j<(n+1)*9->(W1.cell? ⟨w.heap.size,j,none⟩).isSome=true:=λj hj=>by
  rw[hW1,World.cell?_alloc_at (w:=w.drew) Bd _ w.heap.size j rfl,Array.getElem?_eq_getElem (by omega)];rfl
 have hNf:∀j,W1.frozen? ⟨w.heap.size,j,none⟩=false:=λj=>by rw[hW1];exact World.frozen?_alloc_at (w:=w.drew) Bd _ w.heap.size j rfl
 have hOb:∀j v,w.cell? ⟨b,j,none⟩=some v->W1.cell? ⟨b,j,none⟩=some v:=λj v h=>by rw[hW1,World.cell?_alloc_past (w:=w.drew) _ b j hbw];exact h
 have hOv:∀j v,w.cell? ⟨vb,j,none⟩=some v->W1.cell? ⟨vb,j,none⟩=some v:=λj v h=>by rw[hW1,World.cell?_alloc_past (w:=w.drew) _ vb j hvw];exact h
 have aXz:∀(W:World),(∀x,W.cell? x=W1.cell? x)->(∀x,W.frozen? x=W1.frozen? x)->∀ty dc,(Builtin.copy_ #[130,130] ty #[.slice (some ⟨w.heap.size,i*9,none⟩) (n+1-i) dc,.slice (some ⟨vb,Bc,none⟩) 1 vc]).run Tryz.prog W=.ok (goInt (Nat.min 1 (n+1-i))) (W.setCells w.heap.size (i*9) vs):=λW hWc hWf ty dc=>
  XC W _ _ ty 78 9 w.heap.size (i*9) (n+1-i) dc ⟨vb,Bc,none⟩ 1 vc vs uT uE (by rw[hvl];simp only[Nat.min_def];split<;>omega)
   (λj v hj=>by rw[Addr.add_lit,hWc];exact hOv _ v (hvs j v hj))
   (λj hj=>by rw[hWc];exact hN _ (by omega)) (λj hj=>by rw[hWf];exact hNf _) h1v
 have hGi:¬(G=i):=by omega
 have aZJ:¬(G=i+1):=by omega
 have hci:¬(c=i):=by omega
 have hbN:b≠w.heap.size:=by omega
 have hdl:(cs.drop (i*9)).length=(n-i)*9:=by rw[List.length_drop,B7];omega
 have aVm:∀(W:World),(∀x,W.cell? x=(W1.setCells w.heap.size (i*9) vs).cell? x)->(∀x,W.frozen? x=(W1.setCells w.heap.size (i*9) vs).frozen? x)->∀ty dc sc,(Builtin.copy_ #[130,130] ty #[.slice (some ⟨w.heap.size,(i+1)*9,none⟩) (n-i) dc,.slice (some ⟨b,off+i*9,none⟩) (n-i) sc]).run Tryz.prog W=.ok (goInt (Nat.min (n-i) (n-i))) (W.setCells w.heap.size ((i+1)*9) (cs.drop (i*9))):=λW hWc hWf ty dc sc=>
  XC W _ _ ty 78 9 w.heap.size ((i+1)*9) (n-i) dc ⟨b,off+i*9,none⟩ (n-i) sc (cs.drop (i*9)) uT uE (by rw[hdl];simp only[Nat.min_def];split<;>omega)
   (λj v hj=>by
    rw[Addr.add_lit,hWc,World.cell?_setCells_out _ _ _ _ _ (λh _=>absurd h hbN),Nat.add_assoc]
    exact hOb _ v (HM (i*9+j) v (by rwa [List.getElem?_drop] at hj)))
   (λj hj=>by rw[hWc];exact Go.Proofs.isSome_setCells _ _ _ _ (λt ht=>hN _ (by omega)) _ (hN _ (by omega)))
   (λj hj=>by rw[hWf,World.frozen?_setCells];exact hNf _) (λv hv=>h1c v (List.mem_of_mem_drop hv))
 subst hW1
 have hE1:∀x,((w.alloc (.cells Bd 78)).drew).cell? x=(w.drew.alloc (.cells Bd 78)).cell? x:=λx=>rfl
 have hE2:∀x,((w.alloc (.cells Bd 78)).drew).frozen? x=(w.drew.alloc (.cells Bd 78)).frozen? x:=λx=>rfl
 have hF1:∀x,(((w.alloc (.cells Bd 78)).drew.setCells w.heap.size (i*9) vs).drew).cell? x=((w.drew.alloc (.cells Bd 78)).setCells w.heap.size (i*9) vs).cell? x:=λx=>rfl
 have hF2:∀x,(((w.alloc (.cells Bd 78)).drew.setCells w.heap.size (i*9) vs).drew).frozen? x=((w.drew.alloc (.cells Bd 78)).setCells w.heap.size (i*9) vs).frozen? x:=λx=>rfl
 have hw1:IntKind.i64.wrap ((i:Int)+1)=(i:Int)+1:=by rw[IntKind.wrap_i64];omega
 have hw2:IntKind.i64.wrap ((n:Int)+1)=(n:Int)+1:=by rw[IntKind.wrap_i64];omega
 have hw3:IntKind.i64.wrap ((n:Int)+1-(i:Int))=(n:Int)+1-(i:Int):=by rw[IntKind.wrap_i64];omega
 have hb1:(0:Int)<=(i:Int)+1:=by omega
 have hin:i<=n:=by omega
 have htn:((i:Int)+1).toNat=i+1:=by omega
 have hb3:(i:Int)<=(n:Int):=by omega
 clear hkk hik hold aOm hG hRl hRs
 go_enter Tryz.func96,Tryz.ntmps96
 go_wp2_with (first
  |(at_builtin;refine Lib.wpList_append_run _ rfl _ _ _ _ rfl _ _ rfl rfl _ _ (hrz _) ?_)
  |(at_builtin;refine wpList_copy_runI _ rfl _ _ 130 130 rfl _ _ rfl rfl (aXz _ hE1 hE2 _ _) ?_)
  |(at_builtin;refine wpList_copy_runI _ rfl _ _ 130 130 rfl _ _ rfl rfl (aVm _ (λ_=>rfl) (λ_=>rfl) _ _ _) ?_))
 go_region_law_o (refine step_copy_runI rfl _ _ 130 130 rfl (.slice (some ⟨w.heap.size,(i+1)*9,none⟩) (n-i) (G-(i+1))) (.slice (some ⟨b,off+i*9,none⟩) (n-i) (c-i)) (by simp[Act.eval,Act.put]) (by simp[Act.eval,Act.put]) (aVm _ hF1 hF2 3 (G-(i+1)) (c-i)) ?_)
 go_wp2
 go_ret
 exact⟨rfl,rfl⟩
theorem arV {P:Program}{ops:Array Oper}{o:Oper}{a:Act}{w:World}{K:Act->World->Prop}{Q:Exit->Act->World->Prop}{E:Prop}
  (hg:o.guard=none)(d x:Operand)(dT sT:TypeId)(oz:o.op=Op.call {callee:=Callee.builtin Builtin.append,args:=#[d,x],argTypes:=#[dT,sT]})
  (v u:Value)(hd:a.eval d=v)(hx:a.eval x=u){v':Value}{w':World}(hr:(Builtin.append_ #[dT,sT] o.type #[v,u]).run P w=.ok v' w')(hK:K (a.put o.dst v') w'):
  if Region.wanted o (yielded ops a.tmps)=true then Oper.wp P o a w K Q else E:=by
 have hw:Region.wanted o (yielded ops a.tmps)=true:=by simp[Region.wanted,hg]
 rw[if_pos hw]
 unfold Oper.wp
 simp[execOp,oz,resolve,invoke,builtin,hd,hx,hr,Result.andThen]
 exact hK
theorem aBV {P:Program}(w:World){o:Oper}{a:Act}{K:Act->World->Prop}{Q:Exit->Act->World->Prop}(d:Operand)(t:TypeId)
  (ho:o.op=.call {callee:=.builtin .clear,args:=#[d],argTypes:=#[t]})(v:Value)(hd:a.eval d=v){v':Value}{w':World}
  (hr:(Builtin.clear_ #[t] o.type #[v]).run P w=.ok v' w')(h:K (a.put o.dst v') w'):o.wp P a w K Q:=by
 unfold Oper.wp execOp
 simp only[ho,resolve,invoke,builtin,Sem.run_bind,Sem.run_pure,Result.andThen_ok,List.map_toArray,List.map_cons,List.map_nil,hd,hr]
 exact h
theorem ap2 {P:Program}(w:World){ops:Array Oper}{rest:List Oper}{o:Oper}{a:Act}{Q:Exit->Act->World->Prop}(hgd:o.guard=none)(d:Operand)(t:TypeId)
  (ho:o.op=.call {callee:=.builtin .clear,args:=#[d],argTypes:=#[t]})(v:Value)(hd:a.eval d=v){v':Value}{w':World}
  (hr:(Builtin.clear_ #[t] o.type #[v]).run P w=.ok v' w')(h:wpList P ops Q rest (a.put o.dst v') w'):wpList P ops Q (o::rest) a w:=
 wpList_plain hgd λ_ hK=>aBV w d t ho v hd hr (hK _ _ h)
set_option maxHeartbeats 4000000 in
set_option maxRecDepth 100000 in
theorem aFn (base:Option Addr)(n c i:Nat)(w:World)(hi:i<=n)(hc:n<=c):
  Calls Tryz.prog 97 #[.slice base n c,.int .i64 i,.int .i64 i] w λe w'=>e=.returned (.slice base n c)∧w'=w:=by
 have mixed:=mixed
 have h1:(i:Int)<=(n:Int):=by omega
 have h2:(n:Int)<=(c:Int):=by omega
 go_enter Tryz.func97,Tryz.ntmps97
 go_wp2
 all_goals (go_ret;exact⟨rfl,rfl⟩)
set_option maxHeartbeats 4000000 in
set_option maxRecDepth 100000 in
theorem aPc (b off n c i j:Nat)(w w2 w3:World)(hij:i<j)(hj:j<=n)(hc:n<=c)
  (hrz:∀ty,(Builtin.append_ #[130,130] ty #[.slice (some ⟨b,off,none⟩) i c,.slice (some (if c=j then⟨b,off,none⟩ else⟨b,off+j*9,none⟩)) (n-j) (c-j)]).run Tryz.prog w.drew=.ok (.slice (some ⟨b,off,none⟩) (i+(n-j)) c) w2)
  (B7:∀ty,(Builtin.clear_ #[130] ty #[.slice (some ⟨b,off+(i+(n-j))*9,none⟩) (n-(i+(n-j))) (c-(i+(n-j)))]).run Tryz.prog w2=.ok (.tuple #[]) w3):
  Calls Tryz.prog 97 #[.slice (some ⟨b,off,none⟩) n c,.int .i64 i,.int .i64 j] w λe w'=>e=.returned (.slice (some ⟨b,off,none⟩) (i+(n-j)) c)∧w'=w3:=by
 have mixed:=mixed
 have h0:¬((i:Int)=(j:Int)):=by omega
 have h1:(i:Int)<=(j:Int):=by omega
 have h2:(j:Int)<=(n:Int):=by omega
 have h3:(n:Int)<=(c:Int):=by omega
 have h4:(i:Int)<=(c:Int):=by omega
 have h5:¬(c=i+(n-j)):=by omega
 go_enter Tryz.func97,Tryz.ntmps97
 go_wp2
 go_region_law_o (refine arV rfl _ _ 130 130 rfl _ _ (by simp[Act.eval,Act.put]) (by simp[Act.eval,Act.put];split<;>rfl) (hrz _) ?_)
 go_wp2_with (at_builtin;refine ap2 _ rfl _ 130 rfl _ rfl (B7 _) ?_)
 all_goals (go_ret;exact⟨rfl,rfl⟩)
set_option maxHeartbeats 4000000 in
set_option maxRecDepth 100000 in
theorem aMS (w:World):Calls Tryz.prog 128 #[.slice none 0 0] w λe w'=>e=.returned (.slice none 0 0)∧w'=w:=by
 have mixed:=mixed
 have heq:∀w:World,(Go.binOp .eql 130 (.slice none 0 0) (.slice none 0 0)).run Tryz.prog w=.ok (.bool true) w:=λw=>by kernel_rfl
 go_enter Tryz.func128,Tryz.ntmps128
 go_wp2
 go_ret
 exact⟨rfl,rfl⟩
set_option maxHeartbeats 4000000 in
set_option maxRecDepth 100000 in
theorem awZ (a:Addr)(n c:Nat)(w w2:World)(v2:Value)
  (hrz:∀ty,(Builtin.append_ #[130,130] ty #[.slice (some ⟨w.heap.size,0,none⟩) 0 0,.slice (some a) n c]).run Tryz.prog (w.alloc (.cells #[] 78))=.ok v2 w2):
  Calls Tryz.prog 128 #[.slice (some a) n c] w λe w'=>e=.returned v2∧w'=w2:=by
 have mixed:=mixed
 have heq:∀w:World,(Go.binOp .eql 130 (.slice (some a) n c) (.slice none 0 0)).run Tryz.prog w=.ok (.bool false) w:=λw=>by kernel_rfl
 go_enter Tryz.func128,Tryz.ntmps128
 go_wp2_with (at_builtin;refine Lib.wpList_append_run _ rfl _ _ _ _ rfl _ _ rfl rfl _ _ (hrz _) ?_)
 go_ret
 exact⟨rfl,rfl⟩
end Go.Proofs.YtcmfbkneahoonaaGreat
namespace Go.Ab
theorem aPh {a:Bool}{pt:List PT}{ps:List Prm}{ds:List Dat}(h:aBN (.flat a pt::ps) ds):∃l ds',ds=.flat l::ds'∧bm awS pt l∧aBN ps ds':=by
 match ds,h with
 |.flat l::ds',h=>exact⟨l,ds',rfl,h.1,h.2⟩
theorem aUi {ks:List K}{ps:List Prm}{ds:List Dat}(h:aBN (.sl ks::ps) ds):∃n cols ds',ds=.sl n cols::ds'∧n<=maxLen∧bm (λk c=>K.ma k n c) ks cols∧aBN ps ds':=by
 match ds,h with
 |.sl n cols::ds',h=>exact⟨n,cols,ds',rfl,h.1.1,h.1.2,h.2⟩
theorem aTc {ds:List Dat}(h:aBN [] ds):ds=[]:=by cases ds<;>first|rfl|cases h
theorem aUj {l:List DC}(h:bm awS [] l):l=[]:=by cases l<;>first|rfl|cases h
theorem CE {k:IntKind}{pt:List PT}{l:List DC}(h:bm awS (.c (.i k)::pt) l):∃x l',l=.c (.i k x)::l'∧(k.min<=x∧x<=k.max)∧bm awS pt l':=by
 match l,h with
 |.c (.i k' x)::l',h=>
  obtain⟨⟨rfl,h1⟩,h2⟩:=h
  exact⟨x,l',rfl,h1,h2⟩
theorem aVo {n:Nat}{ks:List K}{pt:List PT}{l:List DC}(h:bm awS (.a n ks::pt) l):∃cols l',l=.a cols::l'∧bm (λk c=>K.ma k n c) ks cols∧bm awS pt l':=by
 match l,h with
 |.a cols::l',h=>exact⟨cols,l',rfl,h.1,h.2⟩
theorem aCD {n:Nat}{l:List cC}(h:bm (λk c=>K.ma k n c) [] l):l=[]:=by cases l<;>first|rfl|cases h
theorem uU {n:Nat}{k:IntKind}{ks:List K}{l:List cC}(h:bm (λk c=>K.ma k n c) (.i k::ks) l):∃g l',l=.i k g::l'∧(∀j,j<n->k.min<=g j∧g j<=k.max)∧bm (λk c=>K.ma k n c) ks l':=by
 match l,h with
 |.i k' g::l',h=>
  obtain⟨⟨rfl,h1⟩,h2⟩:=h
  exact⟨g,l',rfl,h1,h2⟩
end Go.Ab
namespace Go.Ab
theorem Ye {D X ρ:Type}(s:D->(D->Option ρ)->(X->Option ρ)->Option ρ)(n:Nat)(d:D)(k:X->Option ρ):P7 s (n+1) d k=s d (λd=>P7 s n d k) k:=rfl
theorem aCE {D X ρ:Type}{s:D->(D->Option ρ)->(X->Option ρ)->Option ρ}{k:X->Option ρ}{r:Option ρ}(Inv:Nat->D->Prop)
  (h:∀t d c,Inv t d->(∀t' d',t'<t->Inv t' d'->c d'=r)->s d c k=r):∀(fuel t:Nat) (d:D),t<fuel->Inv t d->P7 s fuel d k=r
 |0,t,d,hf,hd=>by omega
 |fuel+1,t,d,hf,hd=>by
  rw[Ye]
  exact h t d _ hd λt' d' ht hd'=>aCE Inv h fuel t' d' (by omega) hd'
theorem wrap_i64 {n:Int}(h1: -9223372036854775808<=n)(h2:n<=9223372036854775807):IntKind.wrap .i64 n=n:=by
 unfold IntKind.wrap
 simp only[IntKind.signed,IntKind.bits,Bool.true_and,decide_eq_true_eq,show(2:Int)^64=18446744073709551616 from rfl,show(2:Int)^(64-1)=9223372036854775808 from rfl]
 split<;>omega
theorem wrap_u64 (n:Int):IntKind.wrap .u64 n=n%18446744073709551616:=by
 unfold IntKind.wrap
 simp only[IntKind.signed,IntKind.bits,Bool.false_and,show(2:Int)^64=18446744073709551616 from rfl,Bool.false_eq_true,if_false]
end Go.Ab
