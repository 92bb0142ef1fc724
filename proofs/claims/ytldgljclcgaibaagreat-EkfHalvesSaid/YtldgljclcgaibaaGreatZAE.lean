/-
  Parts of the proof: AbV AbW AbY AbZ AbNil AbPg AbLaw AbInv PI Tot TPw Bits VBits Bits4 PK SLA
-/
import Derived.Test.YtldgljclcgaibaaGreatZAD
import Derived.ProofKit
import Derived.OpenShut
import Derived.Deep.Slices
import Derived.Laws.Externs
import Derived.Test.YtldgljclcgaibaaGreatRows
set_option linter.unusedVariables false
set_option linter.unusedSimpArgs false
namespace Go.Ab
variable [ax]
open Go.ChangeShapes Go.WideShapes Go.ChangeAt Go.RowKit
def DU (P:Program)(f:FuncId):Bool:=match P.funcs[f]? with
 |some fn=> !(fn.name=="runtime.NumGoroutine")&&fn.body.isSome
 |none=>false
omit [ax] in
theorem F1 {P:Program}{f:FuncId}(h:DU P f=true)(args:Array Value)(w:World):(callFunc f args).run P w=.ok (.enter f args) w:=by
 unfold DU at h
 split at h
 ·rename_i fn hf
  simp only[Bool.and_eq_true,Bool.not_eq_true'] at h
  cases hb:fn.body with
  |none=>rw[hb] at h;cases h.2
  |some c=>
   have h1:fn.name≠"runtime.NumGoroutine":=by simpa using h.1
   simp[callFunc,hf,h1,hb]
 ·cases h
def CE:List (Nat×CD)->Env
 | [],_=>none
 |p::l,f=>match Nat.beq p.1 f with
  |true=>some p.2
  |false=>CE l f
def Hv (P:Program)(l:List (Nat×CD)):Prop:=∀f F,CE l f=some F->Sound P f F
theorem Hv.nil (P:Program):Hv P []:=λ_ _ h=>by cases h
theorem Hv.cons {P:Program}{l:List (Nat×CD)}{f:Nat}{F:CD}(S:Sound P f F)(h:Hv P l):Hv P ((f,F)::l):=λg G hg=>by
 simp only[CE] at hg
 split at hg
 ·rename_i hb
  cases hg
  rw[<-Nat.eq_of_beq_eq_true hb];exact S
 ·exact h g G hg
noncomputable def inl (P:Program) (l:List (Nat×CD)) (hs:Hs) (lf:Nat) (f:FuncId):CD:=λargs h=>tOf (den P (CE l) hs lf f args h)
theorem aN1 {P:Program}{l:List (Nat×CD)}(hl:Hv P l)(hm:P.follows .mixedOrders=true){hs:Hs}{lf:Nat}{f:FuncId}(aID:∀fn c kk,P.funcs[f]? =some fn->fn.body=some c->Jc P (CE l) hs fn.ntmps kk lf c)(hc:DU P f=true):Sound P f (inl P l hs lf f):=
 aLP hl hm aID (F1 hc)
omit [ax] in
theorem aN2 {P:Program}{l:List (Nat×CD)}{hs:Hs}{lf:Nat}{f:FuncId}{args:List AV}{h:List af}{r:m4}(hd:den P (CE l) hs lf f args h=some r):(inl P l hs lf f args h).eval=some r:=by
 unfold inl;rw[hd];rfl
theorem Sound.by {P:Program}{f:FuncId}{F F0:CD}(S:Sound P f F0)(h:∀args b r,(F args b).eval=some r->(F0 args b).eval=some r):Sound P f F:=
 S.weaken λargs b r hr=>⟨r,h args b r hr,.refl _ _⟩
omit [ax] in
theorem bN.kept {w w':World}(h:bN w (λ_ _=>False) w'):w.keptBut w' (λ_=>False):=by
 refine⟨h.os,h.output,λi hi=> ?_⟩
 cases hh:w.heap[i]? with
 |none=>rw[h.obj i hi (by rw[hh];intro c t fz e;cases e),hh]
 |some x=>
  cases x with
  |cells c t fr=>
   obtain⟨c',e1,e2,e3⟩:=h.row i c t fr hh
   rw[e1]
   exact⟨rfl,rfl,e2,λj _=>e3 j (λf=>f)⟩
  |map es clock=>
   rw[h.obj i hi (by rw[hh];intro c t fz e;cases e),hh]
   exact .inr ⟨rfl,rfl⟩
  |_=>rw[h.obj i hi (by rw[hh];intro c t fz e;cases e),hh]
omit [ax] in
theorem bN.sameAt {w w':World}(h:bN w (λ_ _=>False) w'){p:MemPlace}(hp:p.block<w.heap.size):w.sameAt w' p:=by
 cases p with
 |cell b off=>exact h.cl hp (λf=>f)
 |map b=>
  show w'.heap[b]? =w.heap[b]?
  have hp:b<w.heap.size:=hp
  cases hh:w.heap[b]? with
  |none=>rw[h.obj b hp (by rw[hh];intro c t fz e;cases e),hh]
  |some x=>
   cases x with
   |cells c t fr=>
    obtain⟨c',e1,e2,e3⟩:=h.row b c t fr hh
    rw[e1]
    have:c'=c:=Array.ext_getElem? λj=>e3 j (λf=>f)
    rw[this]
   |_=>rw[h.obj b hp (by rw[hh];intro c t fz e;cases e),hh]
section
variable {H:Type} {enc:TypeId×Value->H}
omit [ax] in
theorem aio {P:Program}(hl:laidOutB P=true){W W':World}(hf:bN W (λ_ _=>False) W'){sp:Nat->Bool}:∀{ts:List TypeId} {vs:List Value} {ds:List (DataW H)} {ps:List MemPlace},(∀t∈ts,P.readableRec t=true∧t<P.types.size)->
  DataW.TrodAll enc P W 0 (λ_=>true) true ts vs ds ps->(∀p∈ps,p.block<W.heap.size)->(∀p∈ps,sp p.block=true)->DataW.TrodAll enc P W' 0 sp true ts vs ds ps
 | [],vs,ds,ps,_,h,_,_=>by
  obtain⟨rfl,rfl,rfl⟩:=trodAll_nil h
  rfl
 |t::ts,vs,ds,ps,ht,h,h1,h2=>by
  obtain⟨v,vs1,d,ds1,a,b,rfl,rfl,rfl,h3,h4⟩:=trodAll_cons h
  refine⟨a,b,WideElems.Trod_stays hl (ht t (by simp)).1 (ht t (by simp)).2 h3 (λp hp=>hf.sameAt (h1 p (by simp[hp]))) (λp hp=>h2 p (by simp[hp])),?_,rfl⟩
  exact aio hl hf (λt ht'=>ht t (by simp[ht'])) h4 (λp hp=>h1 p (by simp[hp])) (λp hp=>h2 p (by simp[hp]))
omit [ax] in
theorem aN3 {C:Checked}{os:Os}{f:FuncId}{fn:Func}{s:ChangeSpec}{conds:List PathCond}{tb:TypeId}
  (own:ownKnob C.prog.godebug=none)(started:os.Started)(aTy:C.prog.inits.idxOf? f=none)(hfn:C.prog.funcs[f]? =some fn)
  (hl:laidOutB C.prog=true)(qE:fn.resultTypes=#[tb])(htb:C.prog.underlying tb=some .bool)(aUy:fn.params.all (λt=>C.prog.readableRec t&&decide (t<C.prog.types.size))=true)(aRZ:s.vars=[])
  (aVt:∀(ds:List (DataW H)),ds.length=fn.params.size->s.fn H ds={results:=[.lit (.bool true)],args:=ds})
  (witness:∃(w:World) (tape:Tape) (i:Input),w.os=os∧(w.forCall tape i).Shaped C.prog∧i.vars=[]∧Input.okWide C.prog (w.forCall tape i) .any w.heap.size f i∧
   s.pre6 enc C.prog fn conds false (w.forCall tape i).memory i.args∧({}:Assume).holds C.prog (lone (Frame.enter C.prog f i.args .normal) [] (w.forCall tape i)))
  (aN4:∀(W:World) (base:Nat) (args:Array Value) (ds:List (DataW H)) (ps:List MemPlace),args.size=fn.params.toList.length->
   (∀(j:Nat) t v,fn.params.toList[j]? =some t->args[j]? =some v->Value.okWide C.prog W .any base t v)->
   DataW.TrodAll enc C.prog W 0 (λ_=>true) true fn.params.toList args.toList ds ps->W.noneFrozen ps->(∀p∈ps,p.block<W.heap.size)->
   conds.all (PathCond.test C.prog ⟨fn.params.toList,ds,s.plain.varTypes C.prog,[]⟩)=true->
   Calls C.prog f args W λe W'=>e=.returned (.bool true)∧bN W (λ_ _=>False) W'):
  ReturnsInHanded {} C os f .any (s.pre6 enc C.prog fn conds false) (s.post enc C.prog fn false true false false):=by
 refine returnsInHanded_of_change own started aTy hfn witness ?_
 intro W base args ds gs before aAW hW aWF _
 have hW':=hW
 obtain⟨p,q,hA,hV,hpq,hfz,hnd⟩:=hW
 rw[aRZ] at hV
 obtain⟨rfl,rfl⟩:=trodVars_none hV
 simp only[List.append_nil] at hpq
 subst hpq
 have hlen:∀{ts:List TypeId} {vs:List Value} {ds:List (DataW H)} {ps:List MemPlace},DataW.TrodAll enc C.prog W 0 (λ_=>true) true ts vs ds ps->vs.length=ts.length∧ds.length=ts.length:=by
  intro ts
  induction ts with
  |nil=>intro vs ds ps h;obtain⟨rfl,rfl,rfl⟩:=trodAll_nil h;exact⟨rfl,rfl⟩
  |cons t ts ih=>intro vs ds ps h;obtain⟨v,vs1,d,ds1,a,b,rfl,rfl,rfl,_,h4⟩:=trodAll_cons h;have:=ih h4;exact⟨by simp[this.1],by simp[this.2]⟩
 obtain⟨l1,l2⟩:=hlen hA
 have lY:∀x∈before,x.block<W.heap.size:=λx hx=>hW'.lt x hx
 refine(aN4 W base args ds before (by simpa using l1) (λj t v hj hv=>aAW j t v (by rw[<-Array.getElem?_toList];exact hj) hv) hA hfz lY (by simpa using aWF)).mono λe W' ⟨he,hg⟩=> ?_
 subst he
 have hs:=aVt ds (by simpa using l2)
 have hr:∀t∈fn.params.toList,C.prog.readableRec t=true∧t<C.prog.types.size:=λt ht=>by
  rw[Array.all_eq_true_iff_forall_mem] at aUy
  have:=aUy t (by simpa using ht)
  simpa using this
 refine⟨_,rfl,post_of_same (pa:=before) (pv:=[]) hW' (λb sp hd=> ?_) (λsp hsp=> ?_) (λsp _=> ?_) (by simp) (World.keptBut_mono (λ_ f=>f.elim) hg.kept) hg.fzn (ok_one qE rfl (okWide_bool_mk htb _))⟩
 ·rw[List.append_nil,hs,qE]
  exact trodAll_cons_mk (shut_bool htb _) trodAll_mk0
 ·rw[List.append_nil,hs]
  exact aio hl hg hr hA lY hsp
 ·rw[List.append_nil,hs,aRZ]
  rfl
end
end Go.Ab
namespace Go.Ab
variable [ax]
open Go.ChangeShapes Go.WideShapes Go.Deep
inductive K where
 |b
 |i (k:IntKind)
 |s
 |u
 |q
def K.has:K->FV->Prop
 |.b,.b _=>True
 |.i k,.i k' n=>k'=k∧k.has n
 |.s,.s _=>True
 |.u,.u=>True
 |.q,.q n _=>n<=maxLen
 |_,_=>False
def K.mx:K->Nat->cI->Prop
 |.b,_,.b _=>True
 |.i k,n,.i k' g=>k'=k∧∀j,j<n->k.has (g j)
 |.s,_,.s _=>True
 |.u,_,.u=>True
 |.q,n,.q g _=>∀j,j<n->g j<=maxLen
 |_,_,_=>False
def RC {α:Type}:Nat->List α->List α
 |0,_=>[]
 |n+1,l=>l++RC n l
def aip (P:Program)(g:TypeId->Option (List K)):List Field->List K->Option (List K)
 | [],acc=>some acc
 |f::fs,acc=>match g f.type with
  |some ks=>match Nat.beq f.offset acc.length&&Nat.beq (P.cellsOf f.type) ks.length with
   |true=>aip P g fs (acc++ks)
   |false=>none
  |none=>none
def Jr (P:Program):Nat->TypeId->Option (List K)
 |0,_=>none
 |d+1,t=>match P.underlying t with
  |some .bool=>some [.b]
  |some (.int k)=>some [.i k]
  |some .string=>some [.s]
  |some (.struct fs)=>match aip P (Jr P d) fs.toList [] with
   |some ks=>match Nat.beq (P.cellsOf t) ks.length with
    |true=>some ks
    |false=>none
   |none=>none
  |some (.array n e)=>match Jr P d e with
   |some ks=>match Nat.beq (P.cellsOf e) ks.length&&Nat.beq (P.cellsOf t) (n*ks.length) with
    |true=>some (RC n ks)
    |false=>none
   |none=>none
  |some (.slice e)=>match P.underlying e with
   |some .bool=>match Nat.beq (P.cellsOf e) 1 with
    |true=>some [.q]
    |false=>some [.u]
   |_=>some [.u]
  |_=>none
section
variable {H:Type} {enc:TypeId×Value->H} {P:Program} {W:World} {base:Nat} {spare:Nat->Bool} {held:Bool}
theorem ars {ks ks':List K}{cs PY:List Value}(h:∃fs,bh K.has ks fs∧bh FV.rel fs cs)(h':∃fs,bh K.has ks' fs∧bh FV.rel fs PY):∃fs,bh K.has (ks++ks') fs∧bh FV.rel fs (cs++PY):=by
 obtain⟨fs,a,b⟩:=h
 obtain⟨fs',a',b'⟩:=h'
 exact⟨fs++fs',a.append a',b.append b'⟩
theorem am7 {d:Nat}(ih:∀{t:TypeId} {ks:List K} {fuel:Nat} {cs:List Value} {x:DataW H×List MemPlace},Jr P d t=some ks->DataW.trod enc P W base spare held fuel t cs=some x->∃fs,bh K.has ks fs∧bh FV.rel fs cs){n:Nat}{cs:List Value}:
  ∀{l:List Field} {acc ks:List K},aip P (Jr P d) l acc=some ks->(∀f∈l,∃y,DataW.trod enc P W base spare held n f.type ((cs.drop f.offset).take (P.cellsOf f.type))=some y)->acc.length<=cs.length->
   (∃fs,bh K.has acc fs∧bh FV.rel fs (cs.take acc.length))->ks.length<=cs.length∧∃fs,bh K.has ks fs∧bh FV.rel fs (cs.take ks.length)
 | [],acc,ks,h,_,hl,ha=>by
  simp only[aip] at h
  cases h
  exact⟨hl,ha⟩
 |f::l,acc,ks,h,hf,hl,ha=>by
  simp only[aip] at h
  split at h
  ·rename_i kf hk
   split at h
   ·rename_i hc
    simp only[Bool.and_eq_true] at hc
    have e1:=Nat.eq_of_beq_eq_true hc.1
    have e2:=Nat.eq_of_beq_eq_true hc.2
    obtain⟨y,hy⟩:=hf f (by simp)
    obtain⟨fs,f1,f2⟩:=ih hk hy
    have hlen:kf.length=min (P.cellsOf f.type) (cs.length-f.offset):=by
     have h1:=f1.length
     have h2:=f2.length
     simp at h2
     omega
    have hle:acc.length+kf.length<=cs.length:=by omega
    refine am7 ih h (λf' hf'=>hf f' (by simp[hf'])) (by simp;omega) ?_
    have:=ars ha ⟨fs,f1,f2⟩
    rw[List.length_append,List.take_add]
    rw[e1,e2] at this
    exact this
   ·cases h
  ·cases h
omit [ax] in
theorem Sj {α:Type}(l:List α):∀n,(RC n l).length=n*l.length
 |0=>by simp[RC]
 |n+1=>by simp[RC,Sj l n,Nat.succ_mul,Nat.add_comm]
omit [ax] in
theorem afN {α:Type}(l:List α):∀n,RC (n+1) l=RC n l++l
 |0=>by simp[RC]
 |n+1=>by
  have h:=afN l n
  show l++RC (n+1) l=RC (n+1) l++l
  rw[h,<-List.append_assoc,<-h]
  rfl
theorem Js (hA:∀B i v,cl W B i=some v->ax.fs B i=some v)(hsp:∀b,spare b=true):∀{d:Nat} {t:TypeId} {ks:List K} {fuel:Nat} {cs:List Value} {x:DataW H×List MemPlace},Jr P d t=some ks->DataW.trod enc P W base spare held fuel t cs=some x->∃fs,bh K.has ks fs∧bh FV.rel fs cs
 |0,_,_,_,_,_,h,_=>by cases h
 |d+1,t,ks,fuel,cs,x,h,hx=>by
  simp only[Jr] at h
  split at h
  ·rename_i hu
   cases h
   obtain⟨b,rfl,_⟩:=DataW.trod_bool hu hx
   exact⟨[.b b],⟨trivial,trivial⟩,rfl,trivial⟩
  ·rename_i k hu
   cases h
   obtain⟨n,rfl,_,hw⟩:=DataW.trod_int hu hx
   refine⟨[.i k n],⟨⟨rfl,?_⟩,trivial⟩,rfl,trivial⟩
   simp only[Lit.wf,Bool.and_eq_true,decide_eq_true_eq] at hw
   exact hw
  ·rename_i hu
   cases h
   obtain⟨s,rfl,_⟩:=DataW.trod_string hu hx
   exact⟨[.s s],⟨trivial,trivial⟩,rfl,trivial⟩
  ·rename_i fs hu
   split at h
   ·rename_i ks' hks
    split at h
    ·rename_i hc
     cases h
     have hc:=Nat.eq_of_beq_eq_true hc
     obtain⟨xs,n,_,_,hl,_,hf⟩:=DataW.trod_struct hu hx
     obtain⟨_,r⟩:=am7 (λh h'=>Js hA hsp h h') hks (n:=n) (cs:=cs) (λf hf'=>by
      obtain⟨i,hi⟩:=List.getElem?_of_mem hf'
      have:=hf i f (by rw[<-Array.getElem?_toList];exact hi)
      have hi':i<xs.length:=by
       have h1:=(List.getElem?_eq_some_iff.1 hi).1
       simp at h1;omega
      rw[List.getElem?_eq_getElem hi'] at this
      exact⟨_,this⟩) (Nat.zero_le _) ⟨[],trivial,by simp;trivial⟩
     rw[<-hc,<-hl,List.take_length] at r
     exact r
    ·cases h
   ·cases h
  ·rename_i n e hu
   split at h
   ·rename_i ks' hks
    split at h
    ·rename_i hc
     cases h
     simp only[Bool.and_eq_true] at hc
     have e1:=Nat.eq_of_beq_eq_true hc.1
     have e2:=Nat.eq_of_beq_eq_true hc.2
     obtain⟨xs,m,_,_,hl,hn,hf⟩:=DataW.trod_array hu hx
     have key:∀j,j<=n->∃fs,bh K.has (RC j ks') fs∧bh FV.rel fs (cs.take (j*ks'.length)):=by
      intro j
      induction j with
      |zero=>intro _;exact⟨[],trivial,by simp;trivial⟩
      |succ j ihj=>
       intro hj
       have hj':j<xs.length:=by omega
       have:=hf j (by omega)
       rw[List.getElem?_eq_getElem hj'] at this
       rw[afN,Nat.succ_mul,List.take_add]
       have h2:=Js hA hsp hks this
       rw[e1] at h2
       exact ars (ihj (by omega)) h2
     have:=key n (Nat.le_refl _)
     rw[<-e2,<-hl,List.take_length] at this
     exact this
    ·cases h
   ·cases h
  ·rename_i e hu
   have un:∃fs,bh K.has [.u] fs∧bh FV.rel fs cs:=by
    rcases open_slice hu hx with⟨rfl,_⟩| ⟨a',aNj,aUz,m,n,D,Pl,rfl,_⟩
    ·exact⟨[.u],⟨trivial,trivial⟩,rfl,trivial⟩
    ·exact⟨[.u],⟨trivial,trivial⟩,rfl,trivial⟩
   split at h
   ·rename_i hb
    split at h
    ·rename_i hc
     cases h
     have hc:=Nat.eq_of_beq_eq_true hc
     rcases open_slice1 hu hc hx with⟨rfl,_⟩| ⟨a',aNj,aUz,m,n,V,D,Pl,rfl,_,hle,aUA,hm,_,hi⟩
     ·exact⟨[.q 0 λ_=>false],⟨Nat.zero_le _,trivial⟩,.inl ⟨rfl,none,rfl⟩,trivial⟩
     ·rw[hsp,if_pos rfl] at hm
      subst hm
      obtain⟨B,s,sp⟩:=a'
      refine⟨[.q aNj λj=>match V j with|.bool b=>b|_=>false],⟨Nat.le_trans hle aUA,trivial⟩,?_,trivial⟩
      rcases Nat.eq_zero_or_pos m with z|z
      ·subst z
       have:aNj=0:=by omega
       subst this
       exact .inl ⟨rfl,_,rfl⟩
      ·have h0:=(hi 0 z).1
       have hs:sp=none:=by
        have e0:Addr.add ⟨B,s,sp⟩ 0=⟨B,s,sp⟩:=rfl
        rw[e0] at h0
        unfold World.cell? at h0
        simp only at h0
        split at h0
        ·cases sp with
         |none=>rfl
         |some q=>simp at h0
        ·cases h0
       subst hs
       refine .inr ⟨B,s,m,hle,rfl,λj hj=> ?_⟩
       obtain⟨h1,h2⟩:=hi j (by omega)
       obtain⟨b,CF,_⟩:=DataW.trod_bool hb h2
       have hV:V j=.bool b:=by simpa using CF
       rw[lC,hV] at h1
       rw[hA B (s+j) (.bool b) h1]
       simp only[hV]
    ·cases h;exact un
   ·cases h;exact un
  ·cases h
theorem aLR {ks:List K}{fs:List FV}{cs:List Value}(h1:bh K.has ks fs)(h2:bh FV.rel fs cs){j:Nat}{k:K}(hk:ks[j]? =some k):∃f v,cs[j]? =some v∧k.has f∧f.rel v:=by
 obtain⟨f,hf,r1⟩:=h1.get hk
 obtain⟨v,hv,r2⟩:=h2.get hf
 exact⟨f,v,hv,r1,r2⟩
def FV.toN:FV->Nat
 |.q n _=>n
 |_=>0
def FV.toG:FV->Nat->Bool
 |.q _ g=>g
 |_=>λ_=>false
def K.mk:K->(Nat->FV)->cI
 |.b,f=>.b λj=>(f j).toB
 |.i k,f=>.i k λj=>(f j).toI
 |.s,f=>.s λj=>(f j).toS
 |.u,_=>.u
 |.q,f=>.q (λj=>(f j).toN) λj=>(f j).toG
omit [ax] in
theorem K.aR0 {k:K}{f:Nat->FV}{j:Nat}(h:k.has (f j)):(k.mk f).at j=f j:=by
 cases k<;>simp only[K.mk,cI.at]<;>revert h<;>cases f j<;>intro h<;>first|exact h.elim|rfl|skip
 rw[h.1];rfl
omit [ax] in
theorem K.aGe {k:K}{f:Nat->FV}{n:Nat}(h:∀j,j<n->k.has (f j)):k.mx n (k.mk f):=by
 cases k<;>simp only[K.mk,K.mx]
 ·refine⟨trivial,λj hj=> ?_⟩
  have:=h j hj
  revert this
  cases f j<;>intro h<;>first|exact h.elim|skip
  exact h.2
 ·intro j hj
  have:=h j hj
  revert this
  cases f j<;>intro h<;>first|exact h.elim|skip
  exact h
inductive PT where
 |c (k:K)
 |a (n:Nat) (ks:List K)
def auG:List PT->List K
 | []=>[]
 |.c k::l=>k::auG l
 |.a n ks::l=>RC n ks++auG l
def K.beq:K->K->Bool
 |.b,.b=>true
 |.i k,.i k'=>decide (k=k')
 |.s,.s=>true
 |.u,.u=>true
 |.q,.q=>true
 |_,_=>false
omit [ax] in
theorem K.beq_eq {x y:K}(h:x.beq y=true):x=y:=by
 cases x<;>cases y<;>simp only[K.beq] at h<;>first|rfl|cases h|skip
 rw[of_decide_eq_true h]
def aNk:List K->List K->Bool
 | [],[]=>true
 |x::l,y::m=>x.beq y&&aNk l m
 |_,_=>false
omit [ax] in
theorem aIE:∀{l m:List K},aNk l m=true->l=m
 | [],[],_=>rfl
 |x::l,y::m,h=>by
  simp only[aNk,Bool.and_eq_true] at h
  rw[K.beq_eq h.1,aIE h.2]
 | [],_::_,h=>by cases h
 |_::_,[],h=>by cases h
def aGf:List Tm->List K->List PT
 | [],_=>[]
 |.c::l,k::ks=>.c k::aGf l ks
 |.c::_,[]=>[]
 |.a n z::l,ks=>.a n (ks.take z)::aGf l (ks.drop (n*z))
inductive Prm where
 |flat (agg:Bool) (pt:List PT)
 |sl (ks:List K)
inductive DC where
 |c (f:FV)
 |a (cols:List cI)
inductive Dat where
 |flat (l:List DC)
 |sl (n:Nat) (cols:List cI)
def awu:PT->DC->Prop
 |.c k,.c f=>k.has f
 |.a n ks,.a cols=>bh (λk c=>K.mx k n c) ks cols
 |_,_=>False
def Fit:Prm->Dat->Prop
 |.flat _ pt,.flat l=>bh awu pt l
 |.sl ks,.sl n cols=>n<=maxLen∧bh (λk c=>K.mx k n c) ks cols
 |_,_=>False
def sgs:List PT->List DC->af
 |.c _::pt,.c f::l=>.c (.f f)::sgs pt l
 |.a n _::pt,.a cols::l=>.a (.l n) cols::sgs pt l
 |_,_=>[]
def aR1:Bool->af->AV
 |true,b=>.r (.agg b)
 |false,.c v::_=>.r (.c v)
 |false,_=>.Tk
def aGg:List Prm->List Dat->List AV
 |.flat a pt::ps,.flat l::ds=>aR1 a (sgs pt l)::aGg ps ds
 |.sl ks::ps,.sl n cols::ds=>.r (.c (.fs n ks.length cols))::aGg ps ds
 |_,_=>[]
def aIF (ps:List Prm)(ds:List Dat):Prop:=bh Fit ps ds
def aIG (P:Program)(t:TypeId):Option Prm:=
 match P.underlying t with
 |some (.slice e)=>match Jr P 30 e with
  |some ks=>match Nat.beq (P.cellsOf e) ks.length&&Nat.ble 1 ks.length with
   |true=>some (.sl ks)
   |false=>none
  |none=>none
 |_=>match aa2 P t,Jr P 30 t with
  |some true,some ks=>match aNk (auG (aGf (ah5 P 30 t) ks)) ks with
   |true=>some (.flat true (aGf (ah5 P 30 t) ks))
   |false=>none
  |some false,some [k]=>some (.flat false [.c k])
  |_,_=>none
def aGh (P:Program):List TypeId->Option (List Prm)
 | []=>some []
 |t::ts=>match aIG P t,aGh P ts with
  |some p,some ps=>some (p::ps)
  |_,_=>none
theorem aN5 {n:Nat}{ks:List K}{fs:List FV}{cs:List Value}(h1:bh K.has (RC n ks) fs)(h2:bh FV.rel fs cs):
  ∃cols,bh (λk c=>K.mx k n c) ks cols∧∀j,j<n*ks.length->∃v,cs[j]? =some v∧(gK cols j).rel (λ_=>none) v:=by
 have hl:=h1.length
 rw[Sj] at hl
 have aif:∀i j k,i<n->ks[j]? =some k->∃f,fs[i*ks.length+j]? =some f∧k.has f:=λi j k hi hj=>by
  have hjl:=(List.getElem?_eq_some_iff.1 hj).1
  have key:∀m i,i<m->(RC m ks)[i*ks.length+j]? =some k:=by
   intro m
   induction m with
   |zero=>intro i hi;omega
   |succ m ih=>
    intro i hi
    rw[RC]
    cases i with
    |zero=>rw[Nat.zero_mul,Nat.zero_add,List.getElem?_append_left hjl];exact hj
    |succ i=>
     rw[List.getElem?_append_right (by rw[Nat.succ_mul];omega),show(i+1)*ks.length+j-ks.length=i*ks.length+j by rw[Nat.succ_mul];omega]
     exact ih i (by omega)
  obtain⟨f,hf,hh⟩:=h1.get (key n i hi)
  exact⟨f,hf,hh⟩
 refine⟨ks.zipIdx.map λp=>p.1.mk λi=>fs.getD (i*ks.length+p.2) .u,?_,λj hj=> ?_⟩
 ·refine bh.adm (by simp) λj k c hk hc=> ?_
  simp only[List.getElem?_map,List.getElem?_zipIdx,hk,Option.map_some,Option.some.injEq] at hc
  subst hc
  refine K.aGe λi hi=> ?_
  obtain⟨f,hf,hh⟩:=aif i j k hi hk
  simp only[Nat.zero_add,List.getD,hf,Option.getD_some];exact hh
 ·have aAs:0<ks.length:=by
   rcases Nat.eq_zero_or_pos ks.length with h|h
   ·rw[h] at hj;omega
   ·exact h
  have hm:=Nat.mod_lt j aAs
  have hq:j/ks.length<n:=(Nat.div_lt_iff_lt_mul aAs).2 hj
  have hk:ks[j%ks.length]? =some (ks[j%ks.length]'hm):=List.getElem?_eq_getElem _
  obtain⟨f,hf,hh⟩:=aif (j/ks.length) (j%ks.length) _ hq hk
  have hd:=Sh j ks.length
  rw[hd] at hf
  obtain⟨v,hv,hr⟩:=h2.get hf
  refine⟨v,hv,?_⟩
  unfold gK
  simp only[List.length_map,List.length_zipIdx,List.getElem?_map,List.getElem?_zipIdx,hk,Option.map_some,Nat.zero_add]
  have e:fs.getD (j/ks.length*ks.length+j%ks.length) .u=f:=by rw[hd];simp[List.getD,hf]
  rw[K.aR0 (f:=λi=>fs.getD (i*ks.length+j%ks.length) .u) (j:=j/ks.length) (by rw[e];exact hh)]
  show FV.rel _ v
  rw[e];exact hr
omit [ax] in
theorem awv {α β:Type}{R:α->β->Prop}:∀{l l':List α} {m:List β},bh R (l++l') m->bh R l (m.take l.length)∧bh R l' (m.drop l.length)
 | [],l',m,h=>⟨by simp;trivial,by simpa using h⟩
 |a::l,l',[],h=>h.elim
 |a::l,l',b::m,h=>by
  obtain⟨h1,h2⟩:=h
  have:=awv (l:=l) (l':=l') (m:=m) h2
  exact⟨⟨h1,this.1⟩,this.2⟩
theorem aVu {π π':Pi}{c:CV}{v:Value}(hc:∃x,c=.f x)(h:c.rel π v):c.rel π' v:=by
 obtain⟨x,rfl⟩:=hc;exact h
theorem auH:∀{pt:List PT} {fs:List FV} {cs:List Value},bh K.has (auG pt) fs->bh FV.rel fs cs->∃l,bh awu pt l∧∀π,bh (CV.rel π) (af.list (sgs pt l)) cs
 | [],[],[],_,_=>⟨[],trivial,λ_=>trivial⟩
 | [],_::_,_,h,_=>h.elim
 | [],[],_::_,_,h=>h.elim
 |.c k::pt,[],_,h,_=>h.elim
 |.c k::pt,f::fs,[],_,h=>h.elim
 |.c k::pt,f::fs,v::cs,h1,h2=>by
  obtain⟨l,a,b⟩:=auH h1.2 h2.2
  refine⟨.c f::l,⟨h1.1,a⟩,λπ=> ?_⟩
  rw[sgs,aAE]
  exact⟨h2.1,b π⟩
 |.a n ks::pt,fs,cs,h1,h2=>by
  obtain⟨p1,p2⟩:=awv (l:=RC n ks) (l':=auG pt) h1
  rw[Sj] at p1 p2
  have h3:=h2.take (n*ks.length)
  have h4:=h2.drop (n*ks.length)
  obtain⟨cols,c1,c2⟩:=aN5 p1 h3
  obtain⟨l,a,b⟩:=auH p2 h4
  have BE:=c1.length
  have hlen:=h1.length
  rw[auG,List.length_append,Sj] at hlen
  have aXN:=h2.length
  refine⟨.a cols::l,⟨c1,a⟩,λπ=> ?_⟩
  rw[sgs]
  obtain⟨l1,l2⟩:=ia (b π)
  rw[List.length_drop] at l1
  refine vd ?_ λj hj=> ?_
  ·rw[af.size_cons,Sg.jU,Sz.val,<-BE];omega
  ·rw[af.size_cons] at hj
   have hs:(Sg.a (.l n) cols).size=n*ks.length:=by rw[Sg.jU,Sz.val,<-BE]
   by_cases jX:j<n*ks.length
   ·obtain⟨v,hv,hr⟩:=c2 j jX
    rw[List.getElem?_take,if_pos jX] at hv
    refine⟨v,hv,?_⟩
    rw[af.c9 (by rw[hs];exact jX),Sg.mZ]
    exact aVu (azL cols j) hr
   ·obtain⟨v,hv,hr⟩:=l2 (j-n*ks.length) (by rw[hs] at hj;omega)
    rw[List.getElem?_drop,show n*ks.length+(j-n*ks.length)=j by omega] at hv
    refine⟨v,hv,?_⟩
    rw[af.jw (by rw[hs];omega),hs];exact hr
theorem aIH (hA:∀B i v,cl W B i=some v->ax.fs B i=some v){t e:TypeId}{ks:List K}(hu:P.underlying t=some (.slice e))(hk:Jr P 30 e=some ks)(hc:P.cellsOf e=ks.length)(h1k:1<=ks.length){v:Value}{d:DataW H}{ps:List MemPlace}
  (h:DataW.Trod enc P W 0 (λ_=>true) true t v d ps)(hv:Value.okWide P W .any base t v):
  ∃n cols,Fit (.sl ks) (.sl n cols)∧∀π:Pi,(AV.r (.c (.fs n ks.length cols))).rel π v:=by
 obtain⟨fuel,h⟩:=h
 obtain⟨a,len,cap,rfl⟩:=okWide_slice hu hv
 have zero:∃cols,bh (λk c=>K.mx k 0 c) ks cols:=⟨ks.map λk=>k.mk λ_=>.u,bh.adm (by simp) λi k c hk hc=>by
  simp only[List.getElem?_map,hk,Option.map_some,Option.some.injEq] at hc
  subst hc
  exact K.aGe λj hj=>by omega⟩
 rcases open_slice hu h with⟨h0,_⟩| ⟨a',aNj,aUz,m,n,D,Pl,h0,_,hle,aUA,hm,hx,hi⟩
 ·simp[Value.cells] at h0
  obtain⟨rfl,rfl,rfl⟩:=h0
  obtain⟨cols,aR2⟩:=zero
  exact⟨0,cols,⟨Nat.zero_le _,aR2⟩,λπ=>⟨aR2.length.symm,.inl ⟨rfl,none,rfl⟩⟩⟩
 ·simp[Value.cells] at h0
  obtain⟨rfl,rfl,rfl⟩:=h0
  have aR3:a'.spot=none:=by
   have hv:Cell.okWide P W .any base t (.slice (some a') len cap):=by
    unfold Value.okWide at hv;rw[hu] at hv;exact hv
   have hv:Cell.ok P W .any base t (.slice (some a') len cap):=by
    unfold Cell.okWide at hv;rw[hu] at hv;exact hv
   unfold Cell.ok at hv
   rw[hu] at hv
   exact hv.2.2.2.1
  obtain⟨B,s,sp⟩:=a'
  simp only at aR3
  subst aR3
  simp only[if_true] at hm
  subst hm
  have hw:ks.length=P.cellsOf e:=hc.symm
  have cell:∀i j k,i<len->ks[j]? =some k->∃f v,cl W B (s+(i*ks.length+j))=some v∧k.has f∧f.rel v:=λi j k hil hj=>by
   obtain⟨PY,h1,h2⟩:=hi i (by omega)
   obtain⟨fs,f1,f2⟩:=Js hA (λ_=>rfl) hk h2
   obtain⟨f,v,e1,e2,e3⟩:=aLR f1 f2 hj
   obtain⟨_,_,h3⟩:=World.cells?_some h1
   have hjl:=(List.getElem?_eq_some_iff.1 hj).1
   have:=h3 j (by omega)
   rw[lC,lC,e1] at this
   exact⟨f,v,by unfold cl;rw[hw,<-Nat.add_assoc];exact this,e2,e3⟩
  have hdiv:∀j,j<len*ks.length->j/ks.length<len∧j%ks.length<ks.length∧j/ks.length*ks.length+j%ks.length=j:=λj hj=>by
   refine⟨(Nat.div_lt_iff_lt_mul (by omega)).2 hj,Nat.mod_lt _ (by omega),Sh _ _⟩
  have pick:∀j,∃f,j<len*ks.length->∃v k,cl W B (s+j)=some v∧ks[j%ks.length]? =some k∧k.has f∧f.rel v:=λj=>by
   rcases Nat.lt_or_ge j (len*ks.length) with hj|hj
   ·obtain⟨d1,d2,d3⟩:=hdiv j hj
    have hkj:ks[j%ks.length]? =some (ks[j%ks.length]'d2):=List.getElem?_eq_getElem _
    obtain⟨f,v,e1,e2,e3⟩:=cell _ _ _ d1 hkj
    rw[d3] at e1
    exact⟨f,λ_=>⟨v,_,e1,hkj,e2,e3⟩⟩
   ·exact⟨.u,λh=>by omega⟩
  obtain⟨g,hg⟩:=Classical.axiomOfChoice pick
  have hgk:∀(i j:Nat) (k:K),i<len->ks[j]? =some k->k.has (g (i*ks.length+j)):=λi j k hil hj=>by
   have hjl:=(List.getElem?_eq_some_iff.1 hj).1
   have lY:i*ks.length+j<len*ks.length:=by
    have:=Nat.mul_le_mul_right ks.length (show i+1<=len from hil)
    rw[Nat.succ_mul] at this;omega
   obtain⟨v,k',_,h2,h3,_⟩:=hg _ lY
   rw[Nat.mul_comm,Nat.mul_add_mod,Nat.mod_eq_of_lt hjl,hj] at h2
   cases h2
   exact h3
  refine⟨len,ks.zipIdx.map λp=>p.1.mk λi=>g (i*ks.length+p.2),⟨by omega,bh.adm (by simp) λj k c I8 hc'=> ?_⟩,λπ=>⟨by simp,.inr ⟨B,s,m,hle,rfl,λj hj=> ?_⟩⟩⟩
  ·simp only[List.getElem?_map,List.getElem?_zipIdx,I8,Option.map_some,Option.some.injEq] at hc'
   subst hc'
   exact K.aGe λi hi=>by simpa using hgk i j k hi I8
  ·obtain⟨d1,d2,d3⟩:=hdiv j hj
   obtain⟨v,k',h1,I8,hh,h2⟩:=hg j hj
   refine⟨g j,v,?_,hA _ _ _ h1,h2⟩
   unfold gK
   simp only[List.length_map,List.length_zipIdx,List.getElem?_map,List.getElem?_zipIdx,I8,Option.map_some,Nat.zero_add]
   rw[K.aR0 (f:=λi=>g (i*ks.length+j%ks.length)) (j:=j/ks.length) (by rw[d3];exact hh)]
   show CV.f (g (j/ks.length*ks.length+j%ks.length))=_
   rw[d3]
theorem aLS (hA:∀B i v,cl W B i=some v->ax.fs B i=some v){t:TypeId}{ag:Bool}{pt:List PT}(hns:∀e,P.underlying t≠some (.slice e))(hp:aIG P t=some (.flat ag pt)){v:Value}{d:DataW H}{ps:List MemPlace}
  (h:DataW.Trod enc P W 0 (λ_=>true) true t v d ps)(hv:Value.okWide P W .any base t v):∃l,Fit (.flat ag pt) (.flat l)∧∀π,(aR1 ag (sgs pt l)).rel π v:=by
 obtain⟨fuel,h⟩:=h
 unfold aIG at hp
 split at hp
 ·rename_i e hu;exact absurd hu (hns e)
 ·split at hp
  ·rename_i ks ha hk
   split at hp
   ·rename_i heq
    cases hp
    have heq:=aIE heq
    obtain⟨fs,f1,f2⟩:=Js hA (λ_=>rfl) hk h
    rw[<-heq] at f1
    obtain⟨l,l1,l2⟩:=auH f1 f2
    have aNf:∃cs,v=.agg cs:=by
     unfold Value.okWide at hv
     unfold aa2 at ha
     split at ha
     ·rename_i hu;rw[hu] at hv;obtain⟨cs,h,_⟩:=hv;exact⟨cs,h⟩
     ·rename_i hu;rw[hu] at hv;obtain⟨cs,h,_⟩:=hv;exact⟨cs,h⟩
     ·cases ha
     ·cases ha
    obtain⟨cs,rfl⟩:=aNf
    exact⟨l,l1,λπ=>⟨cs,rfl,l2 π⟩⟩
   ·cases hp
  ·rename_i k ha hk
   cases hp
   obtain⟨fs,f1,f2⟩:=Js hA (λ_=>rfl) hk h
   have aIq:v.cells.toList=[v]∨∃cs,v=.agg cs:=by
    cases v<;>first|exact .inl rfl|exact .inr ⟨_,rfl⟩
   have aIq:v.cells.toList=[v]:=by
    rcases aIq with h| ⟨cs,rfl⟩
    ·exact h
    ·exfalso
     have hc:Cell.okWide P W .any base t (.agg cs):=by
      unfold Value.okWide at hv
      unfold aa2 at ha
      split at ha<;>first|(cases ha;done)|skip
      rename_i u hu1 hu2 hu
      rw[hu] at hv
      split at hv
      ·rename_i hh;cases hh;exact absurd rfl (hu1 _)
      ·rename_i hh;cases hh;exact absurd rfl (hu2 _ _)
      ·exact hv
     unfold Cell.okWide at hc
     revert hc
     have hkk:P.underlying t=some .bool∨(∃k,P.underlying t=some (.int k))∨P.underlying t=some .string:=by
      unfold aa2 at ha
      unfold Jr at hk
      split at hk
      ·rename_i hu;exact .inl hu
      ·rename_i k hu;exact .inr (.inl ⟨k,hu⟩)
      ·rename_i hu;exact .inr (.inr hu)
      ·rename_i hu;rw[hu] at ha;cases ha
      ·rename_i hu;rw[hu] at ha;cases ha
      ·rename_i hu;exact absurd hu (hns _)
      ·cases hk
     rcases hkk with hu| ⟨k,hu⟩|hu<;>rw[hu]<;>intro hc<;>simp only[Cell.ok,hu] at hc
   rw[aIq] at f2
   match fs,f1,f2 with
   | [f],⟨f1,_⟩,⟨f2,_⟩=>exact⟨[.c f],⟨f1,trivial⟩,λπ=>f2⟩
  ·cases hp
theorem aA8 (hA:∀B i v,cl W B i=some v->ax.fs B i=some v):∀{ts:List TypeId} {pr:List Prm} {vs:List Value} {dd:List (DataW H)} {ps:List MemPlace},aGh P ts=some pr->(∀(j:Nat) t v,ts[j]? =some t->vs[j]? =some v->Value.okWide P W .any base t v)->
  DataW.TrodAll enc P W 0 (λ_=>true) true ts vs dd ps->∃ds,aIF pr ds∧∀π,bh (AV.rel π) (aGg pr ds) vs
 | [],pr,vs,dd,ps,hp,_,h=>by
  cases hp
  obtain⟨rfl,rfl,rfl⟩:=trodAll_nil h
  exact⟨[],trivial,λ_=>trivial⟩
 |t::ts,pr,vs,dd,ps,hp,hv,h=>by
  obtain⟨v,vs1,d,ds1,p1,p2,rfl,rfl,rfl,h3,h4⟩:=trodAll_cons h
  simp only[aGh] at hp
  split at hp
  ·rename_i p pr' Fa hp2
   cases hp
   have hv0:=hv 0 t v rfl rfl
   obtain⟨ds,f1,g1⟩:=aA8 hA hp2 (λj t v hj hv'=>hv (j+1) t v (by simpa using hj) (by simpa using hv')) h4
   cases p with
   |flat ag pt=>
    have hns:∀e,P.underlying t≠some (.slice e):=λe hu=>by
     unfold aIG at Fa
     rw[hu] at Fa
     simp only at Fa
     split at Fa
     ·split at Fa<;>cases Fa
     ·cases Fa
    obtain⟨l,l1,l2⟩:=aLS hA hns Fa h3 hv0
    exact⟨.flat l::ds,⟨l1,f1⟩,λπ=>⟨l2 π,g1 π⟩⟩
   |sl ks=>
    obtain⟨e,hu,hk,hc,h1k⟩:∃e,P.underlying t=some (.slice e)∧Jr P 30 e=some ks∧P.cellsOf e=ks.length∧1<=ks.length:=by
     unfold aIG at Fa
     split at Fa
     ·rename_i e hu
      split at Fa
      ·rename_i ks' hk
       split at Fa
       ·rename_i hc
        cases Fa
        simp only[Bool.and_eq_true,beq_iff,eA] at hc
        exact⟨e,hu,hk,hc.1,hc.2⟩
       ·cases Fa
      ·cases Fa
     ·split at Fa
      ·split at Fa<;>cases Fa
      ·cases Fa
      ·cases Fa
    obtain⟨n,cols,q1,q2⟩:=aIH hA hu hk hc h1k h3 hv0
    exact⟨.sl n cols::ds,⟨q1,f1⟩,λπ=>⟨q2 π,g1 π⟩⟩
  ·cases hp
def aR4 (F:CD)(ps:List Prm):Prop:=∀ds,aIF ps ds->∃news,(F (aGg ps ds) []).eval=some ⟨.r (.c (.f (.b true))),[],news⟩
abbrev aLT (W:World):ax:=⟨W.heap.size,λB i=>cl W B i⟩
omit [ax] in
theorem aN6 (W:World): @xK (aLT W) W:=by
 letI:=aLT W
 refine⟨Nat.le_refl _,λB i hB=> ?_,λB i v h=>⟨Y0 (by rw[show cl W B i=some v from h];rfl),h⟩⟩
 have hB:W.heap.size<=B:=hB
 simp only[fz,World.frozen?,Array.getElem?_eq_none hB]
end
section
variable {H:Type} {enc:TypeId×Value->H} {P:Program} {W:World} {base:Nat}
omit [ax] in
theorem aLU {f:FuncId}{F:CD}(S:∀[ax],Sound P f F)(hc:DU P f=true){ts:List TypeId}{pr:List Prm}(hp:aGh P ts=some pr)(hF:aR4 F pr){args:Array Value}{dd:List (DataW H)}{ps:List MemPlace}
  (aAW:∀(j:Nat) t v,ts[j]? =some t->args[j]? =some v->Value.okWide P W .any base t v)(ht:DataW.TrodAll enc P W 0 (λ_=>true) true ts args.toList dd ps):
  Calls P f args W λe W'=>e=.returned (.bool true)∧bN W (λ_ _=>False) W':=by
 letI:=aLT W
 obtain⟨ds,f1,g1⟩:=aA8 (λB i v h=>h) hp (λj t v hj hv=>aAW j t v hj (by simpa using hv)) ht
 obtain⟨news,hr⟩:=hF ds f1
 have hH:pM (λ_=>none) (hC (([]:List af).map some)) (hZ (([]:List af).map some)) W:=
  ⟨aN6 W,λb B s q e hz=>by simp[hZ] at hz,λb n hn=>by simp[hZ] at hn,λb b' B s q e s' q' e' _ hz=>by simp[hZ] at hz⟩
 have hS:=S _ _ _ hr W (λ_=>none) args (g1 _) hH (λb hb=>absurd rfl hb)
 have hS:Calls P f args W (qD (λ_=>none) W [] ⟨.r (.c (.f (.b true))),[],news⟩):=by
  rcases hS with h| ⟨v,h,_⟩
  ·exact h.2
  ·rw[F1 hc] at h;cases h
 refine Calls.mono hS ?_
 rintro e w' ⟨π',v,rfl,_,hv,_,hF',_,_⟩
 refine⟨congrArg Ending.returned hv,hF'.mono λB i _ h=> ?_⟩
 obtain⟨b,s,q,e,hb,_⟩:=h
 cases hb
end
end Go.Ab
namespace Go.Ab
variable [ax]
def aww:Array Value->Sem Value:=λargs=>do
 let(x,y,b)<-Extern.MathBitsCarry.three "Sub64" args
 pure (Extern.MathBitsCarry.pair ((x+Extern.MathBitsCarry.m64-y-b)%Extern.MathBitsCarry.m64) (if x<y+b then 1 else 0))
abbrev aEJ (n:Int):RV:=.c (.f (.i .u64 n))
omit [ax] in
theorem aII {P:Program}(x y c:Int)(h:c.toNat<=1)(w:World):(add64Entry #[.int .u64 x,.int .u64 y,.int .u64 c]).run P w=
  .ok (.tuple #[.int .u64 (Int.ofNat ((x.toNat+y.toNat+c.toNat)%18446744073709551616)),.int .u64 (Int.ofNat ((x.toNat+y.toNat+c.toNat)/18446744073709551616))]) w:=by
 match c,h with
 |.ofNat 0,_=>rfl
 |.ofNat 1,_=>rfl
 |.negSucc n,_=>rfl
 |.ofNat (n+2),h=>exact absurd h (by simp;omega)
omit [ax] in
theorem aIJ {P:Program}(x y c:Int)(h:c.toNat<=1)(w:World):(aww #[.int .u64 x,.int .u64 y,.int .u64 c]).run P w=
  .ok (.tuple #[.int .u64 (Int.ofNat ((x.toNat+18446744073709551616-y.toNat-c.toNat)%18446744073709551616)),.int .u64 (Int.ofNat (if x.toNat<y.toNat+c.toNat then 1 else 0))]) w:=by
 match c,h with
 |.ofNat 0,_=>rfl
 |.ofNat 1,_=>rfl
 |.negSucc n,_=>rfl
 |.ofNat (n+2),h=>exact absurd h (by simp;omega)
theorem awx {P:Program}{f:FuncId}{fn:Func}{e:Array Value->Sem Value}{A B:Int->Int->Int->Int}(hf:P.funcs[f]? =some fn)(aA9:(fn.name=="runtime.NumGoroutine")=false)
  (hb:fn.body.isNone=true)(hn:Extern.findNext fn=none)(he:Extern.find fn=some e)
  (mu:∀(x y c:Int) (w:World),c.toNat<=1->(e #[.int .u64 x,.int .u64 y,.int .u64 c]).run P w=.ok (.tuple #[.int .u64 (A x y c),.int .u64 (B x y c)]) w):
  Sound P f λ
   | [.r (.c (.f (.i .u64 x))),.r (.c (.f (.i .u64 y))),.r (.c (.f (.i .u64 c)))],[]=>.test (Nat.ble c.toNat 1) (.leaf ⟨.tup [aEJ (A x y c),aEJ (B x y c)],[],[]⟩) .fail
   |_,_=>.fail:=by
 intro args h res qE w π vs jQ hH iT
 simp only at qE
 split at qE
 ·rename_i x y c
  simp only[T.eval] at qE
  split at qE
  ·rename_i hc
   cases qE
   right
   obtain⟨l⟩:=vs
   match l,jQ with
   | [v1,v2,v3],⟨h1,h2,h3,_⟩=>
    have h1:v1=.int .u64 x:=h1
    have h2:v2=.int .u64 y:=h2
    have h3:v3=.int .u64 c:=h3
    subst h1 h2 h3
    refine⟨_,by rw[run_callFunc_extern hf aA9 hb hn he,mu x y c w (Nat.le_of_ble_eq_true hc)];rfl,π,_,rfl,Ext.refl π,⟨#[_,_],rfl,rfl,rfl,trivial⟩,hH,bN.refl _ _,iT,λb B s q e hb hp=> ?_⟩
    exact absurd (iT b (by rw[hp];simp)) (by omega)
  ·cases qE
 ·cases qE
abbrev aR5 (x y c:Int):Int:=Int.ofNat ((x.toNat+y.toNat+c.toNat)%18446744073709551616)
abbrev aR6 (x y c:Int):Int:=Int.ofNat ((x.toNat+y.toNat+c.toNat)/18446744073709551616)
abbrev aR7 (x y c:Int):Int:=Int.ofNat ((x.toNat+18446744073709551616-y.toNat-c.toNat)%18446744073709551616)
abbrev aR8 (x y c:Int):Int:=Int.ofNat (if x.toNat<y.toNat+c.toNat then 1 else 0)
def azO (A B:Int->Int->Int->Int):CD
 | [.r (.c (.f (.i .u64 x))),.r (.c (.f (.i .u64 y))),.r (.c (.f (.i .u64 c)))],[]=>.test (Nat.ble c.toNat 1) (.leaf ⟨.tup [aEJ (A x y c),aEJ (B x y c)],[],[]⟩) .fail
 |_,_=>.fail
theorem aGi {P:Program}{f:FuncId}{fn:Func}(hf:P.funcs[f]? =some fn)(aA9:(fn.name=="runtime.NumGoroutine")=false)
  (hb:fn.body.isNone=true)(hn:Extern.findNext fn=none)(he:Extern.find fn=some add64Entry):Sound P f (azO aR5 aR6):=
 awx hf aA9 hb hn he λx y c w h=>aII x y c h w
theorem aGj {P:Program}{f:FuncId}{fn:Func}(hf:P.funcs[f]? =some fn)(aA9:(fn.name=="runtime.NumGoroutine")=false)
  (hb:fn.body.isNone=true)(hn:Extern.findNext fn=none)(he:Extern.find fn=some aww):Sound P f (azO aR7 aR8):=
 awx hf aA9 hb hn he λx y c w h=>aIJ x y c h w
end Go.Ab
namespace Go.Ab
theorem aN7 {D:Type}(x:Option D)(g:D->m4):(T.opt x λd=>.leaf (g d)).eval=x.map g:=by cases x<;>rfl
abbrev C3:=Int->Int->Int->Option (Int×Int)
def aa9 (f:C3):CD:=λargs h=>match args,h with
 | [.r (.c (.f (.i .u64 x))),.r (.c (.f (.i .u64 y))),.r (.c (.f (.i .u64 c)))],[]=>.opt (f x y c) λd=>.leaf ⟨.tup [aEJ d.1,aEJ d.2],[],[]⟩
 |_,_=>.fail
def AH:C3:=λx y c=>cond (Nat.ble c.toNat 1) (some (aR5 x y c,aR6 x y c)) none
def aba:C3:=λx y c=>cond (Nat.ble c.toNat 1) (some (aR7 x y c,aR8 x y c)) none
theorem aEK [ax]{P:Program}{f:FuncId}{A B:Int->Int->Int->Int}(S:Sound P f (azO A B)):Sound P f (aa9 λx y c=>cond (Nat.ble c.toNat 1) (some (A x y c,B x y c)) none):=
 S.weaken λargs h r hr=>by
  unfold aa9 at hr
  split at hr
  ·rename_i x y c
   rw[aN7] at hr
   simp only at hr
   refine⟨r,?_,.refl _ _⟩
   unfold azO
   simp only[T.eval]
   cases hc:Nat.ble c.toNat 1<;>rw[hc] at hr<;>first|(cases hr;done)|exact hr
  ·cases hr
theorem apH {D:Type}(x:Option D)(g:D->T):(T.opt x g).eval=x.bind λd=>(g d).eval:=by cases x<;>rfl
theorem aN8 {α β:Type}(q:α->Option β)(b:Bool)(x y:Option α):(cond b x y).bind q=cond b (x.bind q) (y.bind q):=by cases b<;>rfl
def T.sum {A B:Type}(x:A⊕B)(f:A->T)(g:B->T):T:=.test x.isLeft (.opt x.getLeft? f) (.opt x.getRight? g)
theorem aBa {b:Bool}{a:T}{r:m4}(h:(T.test b a .fail).eval=some r):b=true∧a.eval=some r:=by cases b<;>first|(cases h;done)|exact⟨rfl,h⟩
theorem awy {D X ρ σ:Type}{s1:D->(D->Option ρ)->(X->Option ρ)->Option ρ}{s2:D->(D->Option σ)->(X->Option σ)->Option σ}(q:ρ->Option σ)
  (h:∀d c x,(s1 d c x).bind q=s2 d (λd=>(c d).bind q) (λe=>(x e).bind q))(k:X->Option ρ):∀(n:Nat) (d:D),(P6 s1 n d k).bind q=P6 s2 n d λe=>(k e).bind q
 |0,_=>rfl
 |n+1,d=>by
  show(s1 d (λd=>P6 s1 n d k) k).bind q=s2 d (λd=>P6 s2 n d λe=>(k e).bind q) λe=>(k e).bind q
  rw[h]
  congr 1
  funext d'
  exact awy q h k n d'
theorem awz {hd:St->Option St}{ρ:Type}{body:St->(AX->St->Option ρ)->Option ρ}{K:AX->St->Option ρ}{D X:Type}{emb:D->St}{step:D->(D->Option ρ)->(X->Option ρ)->Option ρ}{kx:X->Option ρ}
  (h:∀(d:D) (c:St->Option ρ),body (emb d) (next hd c K)=step d (λd=>c (emb d)) kx):∀(n:Nat) (d:D),iter hd body K n (emb d)=P6 step n d kx
 |0,_=>rfl
 |n+1,d=>by
  have e:iter hd body K (n+1) (emb d)=body (emb d) (next hd (iter hd body K n) K):=rfl
  rw[e,h]
  have e2:P6 step (n+1) d kx=step d (λd=>P6 step n d kx) kx:=rfl
  rw[e2]
  congr 1
  funext d'
  exact awz h n d'
theorem LP.of [ax]{P:Program}{E:Env}{hs:Hs}{nt lf id k0:Nat}{a:Code}{run:∀{ρ:Type},St->(AX->St->Option ρ)->Option ρ}(h0:amW hs a=some ⟨id,k0,run⟩)
  (h:∀{ρ:Type} (s:St) (K:AX->St->Option ρ) (r:ρ),run s K=some r->∃n,iter (λt=>t.head k0 hs a) (EG P E hs nt k0 lf a) K n s=some r):∀kk,LP P E hs nt kk lf a:=by
 intro kk σ hσ hk ρ s K r hr
 rw[h0] at hσ
 cases hσ
 cases hk
 exact h s K r hr
theorem LP.no [ax]{P:Program}{E:Env}{hs:Hs}{nt lf:Nat}{a:Code}(h0:amW hs a=none):∀kk,LP P E hs nt kk lf a:=by
 intro kk σ hσ;rw[h0] at hσ;cases hσ
theorem yJ.imp {α:Type}{p q:α->Prop}(h:∀a,p a->q a):∀{l:List α},yJ p l->yJ q l
 | [],_=>trivial
 |_::_,hl=>⟨h _ hl.1,yJ.imp h hl.2⟩
theorem aqZ.of [ax]{P:Program}{E:Env}{hs:Hs}{nt lf id k0:Nat}{hd:Hd}{b:Code}{run:∀{ρ:Type},St->(AX->St->Option ρ)->Option ρ}(h0:awc hs b=some ⟨hd,⟨id,k0,run⟩⟩)
  (h:∀{ρ:Type} (s:St) (K:AX->St->Option ρ) (r:ρ),run s K=some r->EG P E hs nt k0 lf b s K=some r):∀kk,aqZ P E hs nt kk lf b:=by
 intro kk j hj hk ρ s K r hr
 rw[h0] at hj
 cases hj
 cases hk
 exact h s K r hr
theorem Jc.by [ax]{P:Program}{E:Env}{hs:Hs}{f:FuncId}{lf:Nat}{l lj:List Code}(hl:Ja (Xi P f)=l)(h:yJ (λa=>∀kk,LP P E hs (tmpsOf P f) kk lf a) l)
  (hlj:Jb hs (Xi P f)=lj)(hj:yJ (λb=>∀kk,aqZ P E hs (tmpsOf P f) kk lf b) lj):
  ∀(fn:Func) (c:Code) (kk:Nat),P.funcs[f]? =some fn->fn.body=some c->Jc P E hs fn.ntmps kk lf c:=by
 intro fn c kk hf hb
 have e1:Xi P f=c:=by unfold Xi;rw[hf];simp[hb]
 have e2:tmpsOf P f=fn.ntmps:=by unfold tmpsOf;rw[hf];rfl
 rw[e1] at hl hlj
 rw[<-e2]
 refine Jc.of ?_ ?_
 ·rw[hl]
  exact h.imp λa ha=>ha kk
 ·rw[hlj]
  exact hj.imp λa ha=>ha kk
structure iV (α β:Type) where
 rd:α->Option β
 em:β->α
 ok:∀a b,rd a=some b->a=em b
namespace iV
def hole {α:Type}:iV α α:=⟨some,id,λa b h=>by cases h;rfl⟩
def nat (n:Nat):iV Nat Unit:=⟨λm=>cond (Nat.beq m n) (some ()) none,λ_=>n,λa b h=>by
 cases hb:Nat.beq a n<;>rw[hb] at h<;>first|(cases h;done)|exact Nat.eq_of_beq_eq_true hb⟩
def int (n:Int):iV Int Unit:=⟨λm=>cond (decide (m=n)) (some ()) none,λ_=>n,λa b h=>by
 cases hb:decide (a=n)<;>rw[hb] at h<;>first|(cases h;done)|exact of_decide_eq_true hb⟩
def bool (n:Bool):iV Bool Unit:=⟨λm=>cond (m==n) (some ()) none,λ_=>n,λa b h=>by
 cases a<;>cases n<;>first|rfl|cases h⟩
def via {α α' β:Type}(f:α->α')(g:α'->Option α)(h:∀a' a,g a'=some a->a'=f a)(x:iV α β):iV α' β:=⟨λa=>(g a).bind x.rd,λb=>f (x.em b),λa b hb=>by
 cases ha:g a with
 |none=>rw[ha] at hb;cases hb
 |some c=>rw[ha] at hb;rw[h a c ha,<-x.ok c b hb]⟩
def pair {α β γ δ:Type}(x:iV α β)(y:iV γ δ):iV (α×γ) (β×δ):=⟨λp=>(x.rd p.1).bind λb=>(y.rd p.2).bind λd=>some (b,d),λq=>(x.em q.1,y.em q.2),λp q h=>by
 cases h1:x.rd p.1 with
 |none=>rw[h1] at h;cases h
 |some b=>
  rw[h1] at h
  cases h2:y.rd p.2 with
  |none=>simp only[Option.bind_some,h2] at h;cases h
  |some d=>
   simp only[Option.bind_some,h2] at h
   cases h
   rw[<-x.ok _ _ h1,<-y.ok _ _ h2]⟩
def one {α:Type}(a:α)(g:α->Bool)(h:∀b,g b=true->b=a):iV α Unit:=⟨λb=>cond (g b) (some ()) none,λ_=>a,λb _ hb=>by
 cases hg:g b<;>rw[hg] at hb<;>first|(cases hb;done)|exact h b hg⟩
def nil {α:Type}:iV (List α) Unit:=one [] (λl=>match l with| []=>true|_=>false) λb h=>by cases b<;>first|rfl|cases h
def cons {α β γ:Type}(x:iV α β)(y:iV (List α) γ):iV (List α) (β×γ):=via (λp:α×List α=>p.1::p.2) (λl=>match l with|a::l=>some (a,l)|_=>none) (λa' a h=>by cases a'<;>cases h;rfl) (pair x y)
def szl {β:Type}(x:iV Nat β):iV Sz β:=via Sz.l (λz=>match z with|.l n=>some n|_=>none) (λa' a h=>by cases a'<;>cases h;rfl) x
def szs {β:Type}(x:iV Nat β):iV Sz β:=via Sz.s (λz=>match z with|.s n=>some n|_=>none) (λa' a h=>by cases a'<;>cases h;rfl) x
def ok' {β:Type}(x:iV Nat β):iV bX β:=via bX.k (λz=>match z with|.k n=>some n|_=>none) (λa' a h=>by cases a'<;>cases h;rfl) x
def ox {β γ δ:Type}(x:iV Nat β)(y:iV Nat γ)(z:iV Nat δ):iV bX (β×γ×δ):=via (λp:Nat×Nat×Nat=>bX.x p.1 p.2.1 p.2.2) (λz=>match z with|.x a b c=>some (a,b,c)|_=>none) (λa' a h=>by cases a'<;>cases h;rfl) (pair x (pair y z))
def fi {β:Type}(k:IntKind)(x:iV Int β):iV FV β:=via (FV.i k) (λz=>match z with|.i k' n=>cond (decide (k'=k)) (some n) none|_=>none) (λa' a h=>by
 cases a' with
 |i k' n=>
  cases hk:decide (k'=k)<;>simp only[hk] at h<;>first|(cases h;done)|(cases h;rw[of_decide_eq_true hk])
 |_=>cases h) x
def fb {β:Type}(x:iV Bool β):iV FV β:=via FV.b (λz=>match z with|.b n=>some n|_=>none) (λa' a h=>by cases a'<;>cases h;rfl) x
def fs {β:Type}(x:iV ByteArray β):iV FV β:=via FV.s (λz=>match z with|.s n=>some n|_=>none) (λa' a h=>by cases a'<;>cases h;rfl) x
def cf {β:Type}(x:iV FV β):iV CV β:=via CV.f (λz=>match z with|.f n=>some n|_=>none) (λa' a h=>by cases a'<;>cases h;rfl) x
def Ol {β γ δ:Type}(x:iV Nat β)(y:iV bX γ)(z:iV Nat δ):iV CV (β×γ×δ):=via (λp:Nat×bX×Nat=>CV.ptr p.1 p.2.1 p.2.2) (λz=>match z with|.ptr a b c=>some (a,b,c)|_=>none) (λa' a h=>by cases a'<;>cases h;rfl) (pair x (pair y z))
def ccl {α β γ δ:Type}(u:iV Nat α)(x:iV Nat β)(y:iV bX γ)(z:iV Nat δ):iV CV (α×β×γ×δ):=via (λp:Nat×Nat×bX×Nat=>CV.cl p.1 p.2.1 p.2.2.1 p.2.2.2) (λz=>match z with|.cl e a b c=>some (e,a,b,c)|_=>none) (λa' a h=>by cases a'<;>cases h;rfl) (pair u (pair x (pair y z)))
def je {β γ δ ε ζ:Type}(x:iV Nat β)(y:iV bX γ)(z:iV Sz δ)(u:iV Nat ε)(w:iV Bool ζ):iV CV (β×γ×δ×ε×ζ):=via (λp:Nat×bX×Sz×Nat×Bool=>CV.sl p.1 p.2.1 p.2.2.1 p.2.2.2.1 p.2.2.2.2) (λz=>match z with|.sl a b c d e=>some (a,b,c,d,e)|_=>none) (λa' a h=>by cases a'<;>cases h;rfl) (pair x (pair y (pair z (pair u w))))
def auc:iV CV Unit:=one .afJ (λl=>match l with|.afJ=>true|_=>false) λb h=>by cases b<;>first|rfl|cases h
def aP0:iV CV Unit:=one .nils (λl=>match l with|.nils=>true|_=>false) λb h=>by cases b<;>first|rfl|cases h
def ki {β:Type}(k:IntKind)(x:iV (Nat->Int) β):iV cI β:=via (cI.i k) (λz=>match z with|.i k' n=>cond (decide (k'=k)) (some n) none|_=>none) (λa' a h=>by
 cases a' with
 |i k' n=>
  cases hk:decide (k'=k)<;>simp only[hk] at h<;>first|(cases h;done)|(cases h;rw[of_decide_eq_true hk])
 |_=>cases h) x
def kb {β:Type}(x:iV (Nat->Bool) β):iV cI β:=via cI.b (λz=>match z with|.b n=>some n|_=>none) (λa' a h=>by cases a'<;>cases h;rfl) x
def ks {β:Type}(x:iV (Nat->ByteArray) β):iV cI β:=via cI.s (λz=>match z with|.s n=>some n|_=>none) (λa' a h=>by cases a'<;>cases h;rfl) x
def gc {β:Type}(x:iV CV β):iV Sg β:=via Sg.c (λz=>match z with|.c n=>some n|_=>none) (λa' a h=>by cases a'<;>cases h;rfl) x
def ga {β γ:Type}(x:iV Sz β)(y:iV (List cI) γ):iV Sg (β×γ):=via (λp:Sz×List cI=>Sg.a p.1 p.2) (λz=>match z with|.a n c=>some (n,c)|_=>none) (λa' a h=>by cases a'<;>cases h;rfl) (pair x y)
def rc {β:Type}(x:iV CV β):iV RV β:=via RV.c (λz=>match z with|.c n=>some n|_=>none) (λa' a h=>by cases a'<;>cases h;rfl) x
def ra {β:Type}(x:iV af β):iV RV β:=via RV.agg (λz=>match z with|.agg n=>some n|_=>none) (λa' a h=>by cases a'<;>cases h;rfl) x
def ar {β:Type}(x:iV RV β):iV AV β:=via AV.r (λz=>match z with|.r n=>some n|_=>none) (λa' a h=>by cases a'<;>cases h;rfl) x
def o9 {β:Type}(x:iV (List RV) β):iV AV β:=via AV.tup (λz=>match z with|.tup n=>some n|_=>none) (λa' a h=>by cases a'<;>cases h;rfl) x
def afn {β γ:Type}(x:iV Nat β)(y:iV (List RV) γ):iV AV (β×γ):=via (λp:Nat×List RV=>AV.fn p.1 p.2) (λz=>match z with|.fn a b=>some (a,b)|_=>none) (λa' a h=>by cases a'<;>cases h;rfl) (pair x y)
def aUB:iV AV Unit:=one .Tk (λl=>match l with|.Tk=>true|_=>false) λb h=>by cases b<;>first|rfl|cases h
def st {β γ δ:Type}(x:iV (List AV) β)(y:iV (List (Option af)) γ)(z:iV (List Nat) δ):iV St (β×γ×δ):=via (λp:List AV×List (Option af)×List Nat=>St.mk p.1 p.2.1 p.2.2) (λz=>some (z.tmps,z.heap,z.cQ)) (λa' a h=>by cases a';cases h;rfl) (pair x (pair y z))
end iV
end Go.Ab
namespace Go.Proofs.YtldgljclcgaibaaGreat
open Go.Ab
theorem mixed:Tryz.prog.follows .mixedOrders=true:=by kernel_rfl
theorem own:ownKnob Tryz.prog.godebug=none:=by kernel_rfl
theorem laid:laidOutB Tryz.prog=true:=by kernel_rfl
end Go.Proofs.YtldgljclcgaibaaGreat
namespace Go.Ab
variable [ax]
variable {P:Program}
def B6 (I9:List CK):af:=[.a (.s 0) (I9.map CK.mx)]
def T.aIK (g:m4->m4):T->T
 |.leaf r=>.leaf (g r)
 |.fail=>.fail
 |.test x a b=>.test x (a.aIK g) (b.aIK g)
 |.opt x k=>.opt x λd=>(k d).aIK g
omit [ax] in
theorem aLV {g:m4->m4}{t:T}{r:m4}(h:(t.aIK g).eval=some r):∃r',t.eval=some r'∧r=g r':=by
 induction t with
 |leaf r'=>cases h;exact⟨r',rfl,rfl⟩
 |fail=>cases h
 |test x a b iha ihb=>
  cases x
  ·exact ihb h
  ·exact iha h
 |opt x k ih=>
  cases x with
  |none=>cases h
  |some d=>exact ih d h
def sE (i:Nat)(I9:List CK)(F:CD):CD:=λargs h=>match args[i]? with
 |some (.r (.c .nils))=>(F (args.set i (.r (.c (.sl h.length (.k 0) (.s 0) I9.length true)))) (h++[B6 I9])).aIK λr=>⟨r.val,r.vv.take h.length,B6 I9::r.news⟩
 |_=>F args h
omit [ax] in
theorem aBb (I9:List CK):af.size (B6 I9)=0:=by
 unfold B6
 rw[af.size_cons,af.jS,Sg.jU]
 simp[Sz.val]
omit [ax] in
theorem Ou:∀(h:List af) (z:af) (cs:List Ch),∃x,after (h++[z]) cs=after h (cs.take h.length)++[x]
 | [],z,[]=>⟨none,rfl⟩
 | [],z,.kU::cs=>⟨some z,rfl⟩
 | [],z,.set b::cs=>⟨some b,rfl⟩
 | [],z,.kill::cs=>⟨none,rfl⟩
 |b::bs,z,[]=>by
  obtain⟨x,hx⟩:=Ou bs z []
  refine⟨x,?_⟩
  simp only[List.take_nil] at hx
  simp[after,hx]
 |b::bs,z,.kU::cs=>by
  obtain⟨x,hx⟩:=Ou bs z cs
  exact⟨x,by simp[after,hx]⟩
 |b::bs,z,.set k::cs=>by
  obtain⟨x,hx⟩:=Ou bs z cs
  exact⟨x,by simp[after,hx]⟩
 |b::bs,z,.kill::cs=>by
  obtain⟨x,hx⟩:=Ou bs z cs
  exact⟨x,by simp[after,hx]⟩
omit [ax] in
theorem aR9 {α:Type}{A N:List α}{x y:α}{b:Nat}(h:b≠A.length):(A++[x]++N)[b]? =(A++y::N)[b]? :=by
 rcases Nat.lt_or_ge b A.length with h1|h1
 ·rw[List.append_assoc,List.getElem?_append_left h1,List.getElem?_append_left h1]
 ·rw[List.append_assoc,List.getElem?_append_right h1,List.getElem?_append_right h1]
  obtain⟨m,hm⟩:∃m,b-A.length=m+1:=⟨b-A.length-1,by omega⟩
  rw[hm];rfl
theorem Sound.nil {f:FuncId}{F:CD}(i:Nat)(I9:List CK)(S:Sound P f F):Sound P f (sE i I9 F):=by
 intro args h res qE w π vs jQ hH iT
 unfold sE at qE
 split at qE
 ·rename_i hi
  obtain⟨r,hr,rfl⟩:=aLV qE
  generalize hπ2:(λb=>if b=h.length then some (0,0,0,0) else π b:Pi)=π2
  have p1:∀b,b≠h.length->π2 b=π b:=λb hb=>by rw[<-hπ2];simp[hb]
  have p2:π2 h.length=some (0,0,0,0):=by rw[<-hπ2];simp
  have hx:Ext π π2:=λb p hb=>by
   have:b<h.length:=iT b (by rw[hb];simp)
   rw[p1 b (by omega)];exact hb
  have aTz:bh (AV.rel π2) (args.set i (.r (.c (.sl h.length (.k 0) (.s 0) I9.length true)))) vs.toList:=by
   have jQ:=jQ.imp (AV.cZ hx)
   refine bh.adm (by rw[List.length_set];exact jQ.length) λj a v ha hv=> ?_
   rw[List.getElem?_set] at ha
   split at ha
   ·rename_i hij
    subst hij
    split at ha
    ·cases ha
     obtain⟨v',hv',hr'⟩:=jQ.get hi
     rw[hv] at hv'
     cases hv'
     exact⟨0,0,0,0,p2,by simp[bX.val,Sz.val],by simp[bX.val,Sz.val],.inl ⟨rfl,none,hr'⟩⟩
    ·cases ha
   ·obtain⟨v',hv',hr'⟩:=jQ.get ha
    rw[hv] at hv'
    cases hv'
    exact hr'
  have lt:∀b,b<h.length->((h++[B6 I9]).map some)[b]? =(h.map some)[b]? :=λb hb=>by
   rw[List.map_append,List.getElem?_append_left (by simpa using hb)]
  have gz:∀b,b<h.length->hZ ((h++[B6 I9]).map some) b=hZ (h.map some) b∧∀j,hC ((h++[B6 I9]).map some) b j=hC (h.map some) b j:=λb hb=>by
   unfold hZ hC
   rw[lt b hb];exact⟨rfl,λ_=>rfl⟩
  have gn:hZ ((h++[B6 I9]).map some) h.length=some 0:=by
   unfold hZ
   simp[aBb]
  have gd:∀b,h.length<b->hZ ((h++[B6 I9]).map some) b=none:=λb hb=>by
   unfold hZ
   rw[List.getElem?_eq_none (by simp;omega)];rfl
  have hH2:pM π2 (hC ((h++[B6 I9]).map some)) (hZ ((h++[B6 I9]).map some)) w:=by
   refine⟨hH.am,λb B s q e hz hb yI=> ?_,λb n hn=> ?_,λb b' B s q e s' q' e' kV hz ru hb ew i i1 i2 i3 i4=> ?_⟩
   ·rcases Nat.lt_trichotomy b h.length with h1|h1|h1
    ·rw[(gz b h1).1] at hz
     rw[p1 b (by omega)] at hb
     exact hH.lb b B s q e hz hb yI
    ·subst h1
     rw[p2] at hb;cases hb
     omega
    ·exact absurd (gd b h1) hz
   ·rcases Nat.lt_trichotomy b h.length with h1|h1|h1
    ·rw[(gz b h1).1] at hn
     obtain⟨B,s,e,k1,k2,k3,k4⟩:=hH.hp b n hn
     exact⟨B,s,e,hx _ _ k1,k2,k3,λj hj=>by
      obtain⟨v,v1,v2⟩:=k4 j hj
      exact⟨v,v1,by rw[(gz b h1).2];exact CV.cZ hx _ _ v2⟩⟩
    ·subst h1
     rw[gn] at hn
     cases hn
     exact⟨0,0,0,p2,by omega,λi _ _=>by omega,λj hj=>by omega⟩
    ·rw[gd b h1] at hn;cases hn
   ·have nz:∀b B s q e,b=h.length->π2 b=some (B,s,q,e)->s=0∧e=0:=λb B s q e hb hp=>by
     rw[hb,p2] at hp;cases hp;exact⟨rfl,rfl⟩
    rcases Nat.lt_trichotomy b h.length with h1|h1|h1
    ·rcases Nat.lt_trichotomy b' h.length with h2|h2|h2
     ·rw[(gz b h1).1] at hz
      rw[(gz b' h2).1] at ru
      rw[p1 b (by omega)] at hb
      rw[p1 b' (by omega)] at ew
      exact hH.dj b b' B s q e s' q' e' kV hz ru hb ew i i1 i2 i3 i4
     ·have:=nz b' B s' q' e' h2 ew;omega
     ·exact ru (gd b' h2)
    ·have:=nz b B s q e h1 hb;omega
    ·exact hz (gd b h1)
  have aVv:∀b,π2 b≠none->b<(h++[B6 I9]).length:=λb hb=>by
   rw[List.length_append]
   show b<h.length+1
   rcases Nat.lt_trichotomy b h.length with h1|h1|h1
   ·omega
   ·omega
   ·rw[p1 b (by omega)] at hb
    have:=iT b hb;omega
  have aSa:∀B i,AG π2 (h++[B6 I9]).length (P4 r.vv) B i->AG π h.length (P4 (r.vv.take h.length)) B i:=by
   rintro B i ⟨b,s,q,e,hb,hD,hp,i1,i2⟩
   rw[List.length_append] at hb
   have hb:b<h.length+1:=hb
   rcases Nat.lt_or_ge b h.length with h1|h1
   ·rw[p1 b (by omega)] at hp
    exact⟨b,s,q,e,h1,λhk=>hD (by rw[List.getElem?_take,if_pos h1] at hk;exact hk),hp,i1,i2⟩
   ·obtain rfl:b=h.length:=by omega
    rw[p2] at hp
    cases hp
    omega
  suffices key:∀e w',qD π2 w (h++[B6 I9]) r e w'->qD π w h ⟨r.val,r.vv.take h.length,B6 I9::r.news⟩ e w' by
   rcases S _ _ r hr w π2 vs aTz hH2 aVv with⟨S1,S2⟩| ⟨v,S1,S2⟩
   ·exact .inl ⟨S1,Calls.mono S2 key⟩
   ·exact .inr ⟨v,S1,key _ _ S2⟩
  rintro e w' ⟨π',v,rfl,hx',hv,hH',hF,hd,hi'⟩
  have p2':π' h.length=some (0,0,0,0):=hx' _ _ p2
  obtain⟨x,hxx⟩:=Ou h (B6 I9) r.vv
  have hlen:(after h (r.vv.take h.length)).length=h.length:=lH ..
  have eq1:∀b,b≠h.length->(r.heap (h++[B6 I9]))[b]? =((⟨r.val,r.vv.take h.length,B6 I9::r.news⟩:m4).heap h)[b]? :=λb hb=>by
   unfold m4.heap
   rw[hxx]
   exact aR9 (by rw[hlen];exact hb)
  have eqz:∀b,b≠h.length->hZ ((⟨r.val,r.vv.take h.length,B6 I9::r.news⟩:m4).heap h) b=hZ (r.heap (h++[B6 I9])) b:=λb hb=>by
   unfold hZ;rw[eq1 b hb]
  have eqc:∀b j,b≠h.length->hC ((⟨r.val,r.vv.take h.length,B6 I9::r.news⟩:m4).heap h) b j=hC (r.heap (h++[B6 I9])) b j:=λb j hb=>by
   unfold hC;rw[eq1 b hb]
  have eqn:hZ ((⟨r.val,r.vv.take h.length,B6 I9::r.news⟩:m4).heap h) h.length=some 0:=by
   unfold hZ m4.heap
   show(((after h (r.vv.take h.length)++(B6 I9::r.news).map some)[h.length]?).getD none).map af.size=some 0
   rw[List.getElem?_append_right (by omega),hlen]
   simp[aBb]
  refine⟨π',v,rfl,hx.trans hx',hv,⟨hH'.am,λb B s q e hz hb yI=> ?_,λb n hn=> ?_,λb b' B s q e s' q' e' kV hz ru hb ew i i1 i2 i3 i4=> ?_⟩,hF.mono λB i _ h=>aSa B i h,λb hb=> ?_,λb B s q e hb hp hB i i1 i2=> ?_⟩
  ·by_cases h1:b=h.length
   ·rw[h1,p2'] at hb;cases hb;omega
   ·rw[eqz b h1] at hz
    exact hH'.lb b B s q e hz hb yI
  ·by_cases h1:b=h.length
   ·subst h1
    rw[eqn] at hn
    cases hn
    exact⟨0,0,0,p2',by omega,λi _ _=>by omega,λj hj=>by omega⟩
   ·rw[eqz b h1] at hn
    obtain⟨B,s,e,k1,k2,k3,k4⟩:=hH'.hp b n hn
    exact⟨B,s,e,k1,k2,k3,λj hj=>by rw[eqc b j h1];exact k4 j hj⟩
  ·have nz:∀b B s q e,b=h.length->π' b=some (B,s,q,e)->s=0∧e=0:=λb B s q e hb hp=>by
    rw[hb,p2'] at hp;cases hp;exact⟨rfl,rfl⟩
   by_cases h1:b=h.length
   ·have:=nz b B s q e h1 hb;omega
   ·by_cases h2:b'=h.length
    ·have:=nz b' B s' q' e' h2 ew;omega
    ·rw[eqz b h1] at hz
     rw[eqz b' h2] at ru
     exact hH'.dj b b' B s q e s' q' e' kV hz ru hb ew i i1 i2 i3 i4
  ·have:=hd b hb
   rw[List.length_append] at this
   show b<h.length+(r.news.length+1)
   have:b<h.length+1+r.news.length:=this
   omega
  ·by_cases h1:b=h.length
   ·rw[h1,p2'] at hp;cases hp;omega
   ·exact aSa B i (hi' b B s q e (by rw[List.length_append];show h.length+1<=b;omega) hp hB i i1 i2)
 ·exact S args h res qE w π vs jQ hH iT
end Go.Ab
noncomputable section
namespace Go.Ab
inductive Pg (δ:Type):Type 1 where
 |ret (d:δ)
 |no
 |ae (b:Bool) (x y:Pg δ)
 |opt {D:Type} (x:Option D) (f:D->Pg δ)
 |sum {A B:Type} (x:A⊕B) (f:A->Pg δ) (g:B->Pg δ)
namespace Pg
def run {δ ρ:Type}(p:Pg δ)(k:δ->Option ρ):Option ρ:=
 Pg.rec (motive:=λ_=>Option ρ) k none (λb _ _ x y=>cond b x y) (λx _ ih=>x.bind ih) (λx _ _ f g=>Sum.elim f g x) p
def val {δ:Type}(p:Pg δ):Option δ:=p.run some
variable {δ ρ σ:Type}
theorem xN (d:δ)(k:δ->Option ρ):(ret d).run k=k d:=rfl
theorem DV (k:δ->Option ρ):(no:Pg δ).run k=none:=rfl
theorem tu (b:Bool)(x y:Pg δ)(k:δ->Option ρ):(ae b x y).run k=bif b then x.run k else y.run k:=rfl
theorem tv {D:Type}(x:Option D)(f:D->Pg δ)(k:δ->Option ρ):(opt x f).run k=x.bind λd=>(f d).run k:=rfl
theorem tw {A B:Type}(x:A⊕B)(f:A->Pg δ)(g:B->Pg δ)(k:δ->Option ρ):(sum x f g).run k=Sum.elim (λa=>(f a).run k) (λb=>(g b).run k) x:=rfl
theorem bO (d:δ):(ret d).val=some d:=rfl
theorem eB:(no:Pg δ).val=none:=rfl
theorem bI (b:Bool)(x y:Pg δ):(ae b x y).val=bif b then x.val else y.val:=rfl
theorem bZ {D:Type}(x:Option D)(f:D->Pg δ):(opt x f).val=x.bind λd=>(f d).val:=rfl
theorem dB {A B:Type}(x:A⊕B)(f:A->Pg δ)(g:B->Pg δ):(sum x f g).val=Sum.elim (λa=>(f a).val) (λb=>(g b).val) x:=rfl
theorem aIL (p:Pg δ)(k:δ->Option ρ)(q:ρ->Option σ):(p.run k).bind q=p.run λd=>(k d).bind q:=by
 induction p with
 |ret d=>rfl
 |no=>rfl
 |ae b x y ih1 ih2=>rw[tu,tu,aN8,ih1,ih2]
 |opt x f ih=>
  rw[tv,tv]
  cases x with
  |none=>rfl
  |some d=>exact ih d
 |sum x f g ih1 ih2=>
  rw[tw,tw]
  cases x with
  |inl a=>exact ih1 a
  |inr b=>exact ih2 b
theorem art (p:Pg δ)(k:δ->Option ρ):p.val.bind k=p.run k:=by
 unfold val
 rw[aIL]
 rfl
def sm {A B:Type}(x:A⊕B)(f:A->Pg δ)(g:B->Pg δ):Pg δ:=ae x.isLeft (opt x.getLeft? f) (opt x.getRight? g)
theorem azP {A B:Type}(x:A⊕B)(f:A->Pg δ)(g:B->Pg δ):(sm x f g).val=Sum.elim (λa=>(f a).val) (λb=>(g b).val) x:=by cases x<;>rfl
end Pg
def bA {D X:Type}(s:D->Pg (D⊕X))(n:Nat)(d:D):Option X:=P6 (λd c x=>(s d).run (Sum.elim c x)) n d some
theorem aiq {D X ρ:Type}(s:D->Pg (D⊕X))(n:Nat)(d:D)(k:X->Option ρ):(bA s n d).bind k=P6 (λd c x=>(s d).run (Sum.elim c x)) n d k:=by
 unfold bA
 refine(awy k (λd c x=> ?_) some n d).trans rfl
 rw[Pg.aIL]
 congr 1
 funext y
 cases y<;>rfl
def aBc:List Bool->Prop
 | []=>True
 |b::l=>b=true∧aBc l
theorem auI:∀{l m:List Bool},aBc (l++m)->aBc l∧aBc m
 | [],_,h=>⟨trivial,h⟩
 |_::_,_,h=>⟨⟨h.1,(auI h.2).1⟩,(auI h.2).2⟩
structure Rq (α β:Type) where
 rd:α->Option (List Bool×β)
 em:β->α
 ok:∀a l b,rd a=some (l,b)->aBc l->a=em b
abbrev Rq.B {α β:Type}(_:Rq α β):Type:=β
namespace Rq
variable {α β γ δ:Type}
def hole:Rq α α:=⟨λa=>some ([],a),id,λa l b h _=>by cases h;rfl⟩
def one (a:α)(g:α->Bool)(h:∀b,g b=true->b=a):Rq α Unit:=⟨λb=>cond (g b) (some ([],())) none,λ_=>a,λb _ _ hb _=>by
 cases hg:g b<;>rw[hg] at hb<;>first|(cases hb;done)|exact h b hg⟩
def tie (n:Nat):Rq Nat Unit:=⟨λm=>some ([Nat.beq m n],()),λ_=>n,λa l b h hl=>by
 have h1:[Nat.beq a n]=l:=(Prod.mk.inj (Option.some.inj h)).1
 subst h1
 exact Nat.eq_of_beq_eq_true hl.1⟩
def nat (n:Nat):Rq Nat Unit:=one n (λm=>Nat.beq m n) λ_ h=>Nat.eq_of_beq_eq_true h
def int (n:Int):Rq Int Unit:=one n (λm=>decide (m=n)) λ_ h=>of_decide_eq_true h
def bool (n:Bool):Rq Bool Unit:=one n (λm=>m==n) λ_ h=>by simpa using h
def via {α':Type}(f:α->α')(g:α'->Option α)(h:∀a' a,g a'=some a->a'=f a)(x:Rq α β):Rq α' β:=⟨λa=>(g a).bind x.rd,λb=>f (x.em b),λa l b hb hl=>by
 cases ha:g a with
 |none=>rw[ha] at hb;cases hb
 |some c=>rw[ha] at hb;rw[h a c ha,<-x.ok c l b hb hl]⟩
def dp (x:Rq α β)(y:β->Rq γ δ):Rq (α×γ) (β×δ):=⟨λp=>(x.rd p.1).bind λb=>((y b.2).rd p.2).bind λd=>some (b.1++d.1,(b.2,d.2)),λq=>(x.em q.1,(y q.1).em q.2),λp l q h hl=>by
 cases h1:x.rd p.1 with
 |none=>rw[h1] at h;cases h
 |some b=>
  rw[h1] at h
  cases h2:(y b.2).rd p.2 with
  |none=>simp only[Option.bind_some,h2] at h;cases h
  |some d=>
   simp only[Option.bind_some,h2,Option.some.injEq,Prod.mk.injEq] at h
   obtain⟨rfl,rfl⟩:=h
   obtain⟨t,b⟩:=b
   obtain⟨s,d⟩:=d
   obtain⟨h4,h5⟩:=auI hl
   exact Prod.ext (x.ok _ _ _ h1 h4) ((y b).ok _ _ _ h2 h5)⟩
def pr (x:Rq α β)(y:Rq γ δ):Rq (α×γ) (β×δ):=dp x λ_=>y
def mp {β':Type}(x:Rq α β)(p:β->β')(q:β'->β)(h:∀b,b=q (p b)):Rq α β':=⟨λa=>(x.rd a).bind λb=>some (b.1,p b.2),λc=>x.em (q c),λa l c hc hl=>by
 cases h1:x.rd a with
 |none=>rw[h1] at hc;cases hc
 |some b=>
  rw[h1] at hc
  obtain⟨t,b⟩:=b
  cases hc
  rw[<-h b]
  exact x.ok _ _ _ h1 hl⟩
def pl (x:Rq α β)(y:Rq γ Unit):Rq (α×γ) β:=mp (pr x y) Prod.fst (λb=>(b,())) λ_=>rfl
def pu (x:Rq α Unit)(y:Rq γ δ):Rq (α×γ) δ:=mp (pr x y) Prod.snd (λb=>((),b)) λ_=>rfl
def nil:Rq (List α) Unit:=one [] (λl=>match l with| []=>true|_=>false) λb h=>by cases b<;>first|rfl|cases h
def co (x:Rq (α×List α) β):Rq (List α) β:=via (λp:α×List α=>p.1::p.2) (λl=>match l with|a::l=>some (a,l)|_=>none) (λa' a h=>by cases a'<;>cases h;rfl) x
def c (x:Rq α β)(y:Rq (List α) δ):Rq (List α) (β×δ):=co (pr x y)
def cl (x:Rq α β)(y:Rq (List α) Unit):Rq (List α) β:=co (pl x y)
def cu (x:Rq α Unit)(y:Rq (List α) δ):Rq (List α) δ:=co (pu x y)
def cd (x:Rq α β)(y:β->Rq (List α) δ):Rq (List α) (β×δ):=co (dp x y)
def ap (n:Nat)(x:Rq (List α×List α) β):Rq (List α) β:=via (λp:List α×List α=>p.1++p.2) (λl=>some (l.take n,l.drop n)) (λa' a h=>by cases h;simp) x
def a (n:Nat)(x:Rq (List α) β)(y:Rq (List α) δ):Rq (List α) (β×δ):=ap n (pr x y)
def al (n:Nat)(x:Rq (List α) β)(y:Rq (List α) Unit):Rq (List α) β:=ap n (pl x y)
def au (n:Nat)(x:Rq (List α) Unit)(y:Rq (List α) δ):Rq (List α) δ:=ap n (pu x y)
def no:Rq (Option α) Unit:=one none (λl=>match l with|none=>true|_=>false) λb h=>by cases b<;>first|rfl|cases h
def so (x:Rq α β):Rq (Option α) β:=via some (λa=>a) (λa' a h=>h) x
def szl (x:Rq Nat β):Rq Sz β:=via Sz.l (λz=>match z with|.l n=>some n|_=>none) (λa' a h=>by cases a'<;>cases h;rfl) x
def szs (x:Rq Nat β):Rq Sz β:=via Sz.s (λz=>match z with|.s n=>some n|_=>none) (λa' a h=>by cases a'<;>cases h;rfl) x
def ok' (x:Rq Nat β):Rq bX β:=via bX.k (λz=>match z with|.k n=>some n|_=>none) (λa' a h=>by cases a'<;>cases h;rfl) x
def ox (x:Rq (Nat×Nat×Nat) β):Rq bX β:=via (λp:Nat×Nat×Nat=>bX.x p.1 p.2.1 p.2.2) (λz=>match z with|.x a b c=>some (a,b,c)|_=>none) (λa' a h=>by cases a'<;>cases h;rfl) x
def fi (k:IntKind)(x:Rq Int β):Rq FV β:=via (FV.i k) (λz=>match z with|.i k' n=>cond (decide (k'=k)) (some n) none|_=>none) (λa' a h=>by
 cases a' with
 |i k' n=>
  cases hk:decide (k'=k)<;>simp only[hk] at h<;>first|(cases h;done)|(cases h;rw[of_decide_eq_true hk])
 |_=>cases h) x
def fb (x:Rq Bool β):Rq FV β:=via FV.b (λz=>match z with|.b n=>some n|_=>none) (λa' a h=>by cases a'<;>cases h;rfl) x
def fs (x:Rq ByteArray β):Rq FV β:=via FV.s (λz=>match z with|.s n=>some n|_=>none) (λa' a h=>by cases a'<;>cases h;rfl) x
def cf (x:Rq FV β):Rq CV β:=via CV.f (λz=>match z with|.f n=>some n|_=>none) (λa' a h=>by cases a'<;>cases h;rfl) x
def Ol (x:Rq (Nat×bX×Nat) β):Rq CV β:=via (λp:Nat×bX×Nat=>CV.ptr p.1 p.2.1 p.2.2) (λz=>match z with|.ptr a b c=>some (a,b,c)|_=>none) (λa' a h=>by cases a'<;>cases h;rfl) x
def ccl (x:Rq (Nat×Nat×bX×Nat) β):Rq CV β:=via (λp:Nat×Nat×bX×Nat=>CV.cl p.1 p.2.1 p.2.2.1 p.2.2.2) (λz=>match z with|.cl e a b c=>some (e,a,b,c)|_=>none) (λa' a h=>by cases a'<;>cases h;rfl) x
def je (x:Rq (Nat×bX×Sz×Nat×Bool) β):Rq CV β:=via (λp:Nat×bX×Sz×Nat×Bool=>CV.sl p.1 p.2.1 p.2.2.1 p.2.2.2.1 p.2.2.2.2) (λz=>match z with|.sl a b c d e=>some (a,b,c,d,e)|_=>none) (λa' a h=>by cases a'<;>cases h;rfl) x
def auc:Rq CV Unit:=one .afJ (λl=>match l with|.afJ=>true|_=>false) λb h=>by cases b<;>first|rfl|cases h
def aP0:Rq CV Unit:=one .nils (λl=>match l with|.nils=>true|_=>false) λb h=>by cases b<;>first|rfl|cases h
def ki (k:IntKind)(x:Rq (Nat->Int) β):Rq cI β:=via (cI.i k) (λz=>match z with|.i k' n=>cond (decide (k'=k)) (some n) none|_=>none) (λa' a h=>by
 cases a' with
 |i k' n=>
  cases hk:decide (k'=k)<;>simp only[hk] at h<;>first|(cases h;done)|(cases h;rw[of_decide_eq_true hk])
 |_=>cases h) x
def kb (x:Rq (Nat->Bool) β):Rq cI β:=via cI.b (λz=>match z with|.b n=>some n|_=>none) (λa' a h=>by cases a'<;>cases h;rfl) x
def ks (x:Rq (Nat->ByteArray) β):Rq cI β:=via cI.s (λz=>match z with|.s n=>some n|_=>none) (λa' a h=>by cases a'<;>cases h;rfl) x
def gc (x:Rq CV β):Rq Sg β:=via Sg.c (λz=>match z with|.c n=>some n|_=>none) (λa' a h=>by cases a'<;>cases h;rfl) x
def ga (x:Rq (Sz×List cI) β):Rq Sg β:=via (λp:Sz×List cI=>Sg.a p.1 p.2) (λz=>match z with|.a n c=>some (n,c)|_=>none) (λa' a h=>by cases a'<;>cases h;rfl) x
def rc (x:Rq CV β):Rq RV β:=via RV.c (λz=>match z with|.c n=>some n|_=>none) (λa' a h=>by cases a'<;>cases h;rfl) x
def ra (x:Rq af β):Rq RV β:=via RV.agg (λz=>match z with|.agg n=>some n|_=>none) (λa' a h=>by cases a'<;>cases h;rfl) x
def ar (x:Rq RV β):Rq AV β:=via AV.r (λz=>match z with|.r n=>some n|_=>none) (λa' a h=>by cases a'<;>cases h;rfl) x
def o9 (x:Rq (List RV) β):Rq AV β:=via AV.tup (λz=>match z with|.tup n=>some n|_=>none) (λa' a h=>by cases a'<;>cases h;rfl) x
def afn (x:Rq (Nat×List RV) β):Rq AV β:=via (λp:Nat×List RV=>AV.fn p.1 p.2) (λz=>match z with|.fn a b=>some (a,b)|_=>none) (λa' a h=>by cases a'<;>cases h;rfl) x
def aUB:Rq AV Unit:=one .Tk (λl=>match l with|.Tk=>true|_=>false) λb h=>by cases b<;>first|rfl|cases h
def st (x:Rq (List AV×List (Option af)×List Nat) β):Rq St β:=via (λp:List AV×List (Option af)×List Nat=>St.mk p.1 p.2.1 p.2.2) (λz=>some (z.tmps,z.heap,z.cQ)) (λa' a h=>by cases a';cases h;rfl) x
def eT:Rq Ch Unit:=one .kU (λl=>match l with|.kU=>true|_=>false) λb h=>by cases b<;>first|rfl|cases h
def Td:Rq Ch Unit:=one .kill (λl=>match l with|.kill=>true|_=>false) λb h=>by cases b<;>first|rfl|cases h
def AF (x:Rq af β):Rq Ch β:=via Ch.set (λz=>match z with|.set n=>some n|_=>none) (λa' a h=>by cases a'<;>cases h;rfl) x
def res (x:Rq (AV×List Ch×List af) β):Rq m4 β:=via (λp:AV×List Ch×List af=>m4.mk p.1 p.2.1 p.2.2) (λz=>some (z.val,z.vv,z.news)) (λa' a h=>by cases a';cases h;rfl) x
def us:Nat->Rq (List AV) β->Rq (List AV) β
 |0,x=>x
 |n+1,x=>cu aUB (us n x)
def xs:Nat->Rq (List AV) β->Rq (List AV) β
 |0,x=>x
 |n+1,x=>cu (o9 nil) (xs n x)
def ci:Rq CV Int:=cf (fi .i64 hole)
def cn:Rq CV Int:=cf (fi .u64 hole)
def cb:Rq CV Bool:=cf (fb hole)
def ct:Rq CV ByteArray:=cf (fs hole)
def gi:Rq Sg Int:=gc ci
def gn:Rq Sg Int:=gc cn
def gb:Rq Sg Bool:=gc cb
def gt:Rq Sg ByteArray:=gc ct
def ac (x:Rq CV β):Rq AV β:=ar (rc x)
def ai:Rq AV Int:=ac ci
def an:Rq AV Int:=ac cn
def ab:Rq AV Bool:=ac cb
def aa (x:Rq af β):Rq AV β:=ar (ra x)
def cp (b n:Nat):Rq CV Unit:=Ol (pu (nat b) (pu (ok' (nat 0)) (nat n)))
def gp (b n:Nat):Rq Sg Unit:=gc (cp b n)
def app (b n:Nat):Rq AV Unit:=ac (cp b n)
def slc (b z:Nat):Rq CV (Nat×Bool):=je (pu (nat b) (pu (ok' (nat 0)) (pr (szs hole) (pu (nat z) hole))))
def wz (b z:Nat):Rq CV Nat:=je (pu (nat b) (pu (ok' (nat 0)) (pl (szs hole) (pu (nat z) (bool true)))))
def gl (n:Nat)(x:Rq (List cI) β):Rq Sg β:=ga (pu (szl (nat n)) x)
def gs (n:Nat)(x:Rq (List cI) β):Rq Sg β:=ga (pu (szs (tie n)) x)
def fu:Rq cI (Nat->Int):=ki .i64 hole
def kcb:Rq cI (Nat->Bool):=kb hole
end Rq
abbrev Ct:=Nat×CD
def T.auJ (l:List Bool)(t:T):T:=List.rec (motive:=λ_=>T) t (λb _ r=>.test b r .fail) l
def aSb {ρ:Type}(l:List Bool)(t:Option ρ):Option ρ:=List.rec (motive:=λ_=>Option ρ) t (λb _ r=>cond b r none) l
theorem air {t:T}{r:m4}:∀{l:List Bool},(T.auJ l t).eval=some r->aBc l∧t.eval=some r
 | [],h=>⟨trivial,h⟩
 |b::l,h=>by
  obtain⟨h1,h2⟩:=aBa (b:=b) (a:=T.auJ l t) h
  obtain⟨h3,h4⟩:=air h2
  exact⟨⟨h1,h3⟩,h4⟩
theorem aBd {ρ:Type}{t:Option ρ}{r:ρ}:∀{l:List Bool},aSb l t=some r->aBc l∧t=some r
 | [],h=>⟨trivial,h⟩
 |b::l,h=>by
  have h':cond b (aSb l t) none=some r:=h
  cases b with
  |false=>cases h'
  |true=>
   obtain⟨h3,h4⟩:=aBd h'
   exact⟨⟨rfl,h3⟩,h4⟩
def FC {β δ:Type}(Q:Rq (List AV×List af) β)(R:δ->T)(f:β->Option δ):CD:=λa h=>match Q.rd (a,h) with
 |some b=>T.auJ b.1 (.opt (f b.2) R)
 |none=>.fail
def fH {D X:Type}(id kk:Nat)(Q:Rq St D)(E:∀{ρ:Type},X->(AX->St->Option ρ)->Option ρ)(l:D->Option X):Sm:=⟨id,kk,λs k=>match Q.rd s with
 |some b=>aSb b.1 ((l b.2).bind λx=>E x k)
 |none=>none⟩
def ah1 {β δ:Type}(P:Program)(l:List Ct)(hs:Hs)(lf n:Nat)(Q:Rq (List AV×List af) β)(R:δ->T)(B:β->Pg δ):Prop:=
 ∀b,den P (CE l) hs lf n (Q.em b).1 (Q.em b).2=(B b).run λd=>(R d).eval
def aMN {D X:Type}(P:Program)(l:List Ct)(hs:Hs)(kk lf n id:Nat)(Q:Rq St D)(E:∀{ρ:Type},X->(AX->St->Option ρ)->Option ρ)(S:D->Pg (D⊕X)):Prop:=
 ∀(ρ:Type) (d:D) (c:St->Option ρ) (K:AX->St->Option ρ),EG P (CE l) hs (tmpsOf P n) kk lf (Xh P n id) (Q.em d) (next (λt=>t.head kk hs (Xh P n id)) c K)=
  (S d).run (Sum.elim (λd=>c (Q.em d)) λx=>E x K)
def aMO {D X:Type}(P:Program)(l:List Ct)(hs:Hs)(kk lf n id:Nat)(Q:Rq St D)(E:∀{ρ:Type},X->(AX->St->Option ρ)->Option ρ)(S:D->Pg X):Prop:=
 ∀(ρ:Type) (d:D) (K:AX->St->Option ρ),EG P (CE l) hs (tmpsOf P n) kk lf (ac6 P n id) (Q.em d) K=(S d).run λx=>E x K
section
variable [ax]
def Snd (P:Program)(e:Ct):Prop:=Sound P e.1 e.2
theorem Snd.of {P:Program}{e:Ct}{n:Nat}{F:CD}(S:Sound P n F)(h:e=(n,F)):Snd P e:=by
 subst h
 exact S
theorem Hv.c {P:Program}{l:List Ct}{e:Ct}(S:Snd P e)(h:Hv P l):Hv P (e::l):=Hv.cons S h
omit [ax] in
theorem aIM {D X:Type}{id kk:Nat}{Q:Rq St D}{E:∀{ρ:Type},X->(AX->St->Option ρ)->Option ρ}{l:D->Option X}{ρ:Type}{s:St}{K:AX->St->Option ρ}{r:ρ}
  (h:(fH id kk Q E l).run s K=some r):∃d,s=Q.em d∧((l d).bind λx=>E x K)=some r:=by
 simp only[fH] at h
 split at h
 ·rename_i b hb
  obtain⟨t,d⟩:=b
  obtain⟨h1,h2⟩:=aBd h
  exact⟨d,Q.ok s t d hb h1,h2⟩
 ·cases h
theorem mkL {D X:Type}{P:Program}{l:List Ct}{hs:Hs}{kk lf n id:Nat}{Q:Rq St D}{E:∀{ρ:Type},X->(AX->St->Option ρ)->Option ρ}{S:D->Pg (D⊕X)}
  (h0:amW hs (Xh P n id)=some (fH id kk Q E (bA S lf)))(h:aMN P l hs kk lf n id Q E S):∀k',LP P (CE l) hs (tmpsOf P n) k' lf (Xh P n id):=
 LP.of (id:=id) (k0:=kk) (run:=(fH id kk Q E (bA S lf)).run) h0 λs K r hr=>by
  obtain⟨d,rfl,WO⟩:=aIM hr
  refine⟨lf,?_⟩
  rw[aiq] at WO
  exact(awz (emb:=Q.em) (step:=λd c x=>(S d).run (Sum.elim c x)) (kx:=λx=>E x K) (λd c=>h _ d c K) lf d).trans WO
theorem mkJ {D X:Type}{P:Program}{l:List Ct}{hs:Hs}{kk lf n id:Nat}{hd:Hd}{Q:Rq St D}{E:∀{ρ:Type},X->(AX->St->Option ρ)->Option ρ}{S:D->Pg X}
  (h0:awc hs (ac6 P n id)=some ⟨hd,fH id kk Q E λd=>(S d).val⟩)(h:aMO P l hs kk lf n id Q E S):∀k',aqZ P (CE l) hs (tmpsOf P n) k' lf (ac6 P n id):=
 aqZ.of (id:=id) (k0:=kk) (hd:=hd) (run:=(fH id kk Q E λd=>(S d).val).run) h0 λs K r hr=>by
  obtain⟨d,rfl,WO⟩:=aIM hr
  rw[Pg.art] at WO
  exact(h _ d K).trans WO
omit [ax] in
theorem aSc {β δ:Type}{Q:Rq (List AV×List af) β}{R:δ->T}{B:β->Pg δ}{a:List AV}{h:List af}{r:m4}(hr:(FC Q R (λb=>(B b).val) a h).eval=some r):
  ∃b,(a,h)=Q.em b∧((B b).run λd=>(R d).eval)=some r:=by
 unfold FC at hr
 split at hr
 ·rename_i b hb
  obtain⟨t,b⟩:=b
  obtain⟨h1,WO⟩:=air hr
  rw[apH,Pg.art] at WO
  exact⟨b,Q.ok _ _ _ hb h1,WO⟩
 ·cases hr
theorem mkS {β δ:Type}{P:Program}{l:List Ct}{hs:Hs}{lf n:Nat}{Q:Rq (List AV×List af) β}{R:δ->T}{B:β->Pg δ}(hm:P.follows .mixedOrders=true)(hl:Hv P l)(hc:DU P n=true)
  (aID:∀fn c kk,P.funcs[n]? =some fn->fn.body=some c->Jc P (CE l) hs fn.ntmps kk lf c)(h:ah1 P l hs lf n Q R B):Sound P n (FC Q R λb=>(B b).val):=
 (aN1 hl hm aID hc).by λa b r hr=>by
  obtain⟨b,e,WO⟩:=aSc hr
  obtain⟨rfl,rfl⟩:=Prod.mk.inj e
  exact aN2 ((h b).trans WO)
theorem mk0 {β δ:Type}{P:Program}{l:List Ct}{d0:List Nat}{lf n:Nat}{Q:Rq (List AV×List af) β}{R:δ->T}{B:β->Pg δ}(hm:P.follows .mixedOrders=true)(hl:Hv P l)(hc:DU P n=true)
  (h:ah1 P l ⟨[],[],d0,[],none⟩ lf n Q R B):Sound P n (FC Q R λb=>(B b).val):=
 mkS hm hl hc (λ_ _ _ _ _=>Jc.nil ..) h
omit [ax] in
theorem aIN {t t':T}{r:m4}(h:t.eval=some r->t'.eval=some r)(l:List Bool):(T.auJ l t).eval=some r->(T.auJ l t').eval=some r:=by
 induction l with
 |nil=>exact h
 |cons b l ih=>
  intro k
  obtain⟨h1,h2⟩:=aBa (b:=b) (a:=T.auJ l t) k
  subst h1
  exact ih h2
theorem CH {β δ:Type}{P:Program}{n:Nat}{Q:Rq (List AV×List af) β}{R R':δ->T}{f:β->Option δ}(h:∀d r,(R' d).eval=some r->(R d).eval=some r)(S:Sound P n (FC Q R f)):Sound P n (FC Q R' f):=S.by λa b r hr=>by
 unfold FC at hr ⊢
 split at hr
 ·rename_i x hx
  refine aIN (λhr=> ?_) x.1 hr
  rw[apH] at hr ⊢
  cases hf:f x.2 with
  |none=>rw[hf] at hr;cases hr
  |some d=>rw[hf,Option.bind_some] at hr;exact h d r hr
 ·cases hr
end
abbrev wI (n:Int):Int:=IntKind.wrap .i64 n
abbrev wU (n:Int):Int:=IntKind.wrap .u64 n
end Go.Ab
namespace Go.Ab
theorem aEL {a:Bool}{pt:List PT}{ps:List Prm}{ds:List Dat}(h:aIF (.flat a pt::ps) ds):∃l ds',ds=.flat l::ds'∧bh awu pt l∧aIF ps ds':=by
 match ds,h with
 |.flat l::ds',h=>exact⟨l,ds',rfl,h.1,h.2⟩
theorem aSd {ds:List Dat}(h:aIF [] ds):ds=[]:=by cases ds<;>first|rfl|cases h
theorem aNl {l:List DC}(h:bh awu [] l):l=[]:=by cases l<;>first|rfl|cases h
theorem AI {k:IntKind}{pt:List PT}{l:List DC}(h:bh awu (.c (.i k)::pt) l):∃x l',l=.c (.i k x)::l'∧(k.min<=x∧x<=k.max)∧bh awu pt l':=by
 match l,h with
 |.c (.i k' x)::l',h=>
  obtain⟨⟨rfl,h1⟩,h2⟩:=h
  exact⟨x,l',rfl,h1,h2⟩
theorem aUC {n:Nat}{ks:List K}{pt:List PT}{l:List DC}(h:bh awu (.a n ks::pt) l):∃cols l',l=.a cols::l'∧bh (λk c=>K.mx k n c) ks cols∧bh awu pt l':=by
 match l,h with
 |.a cols::l',h=>exact⟨cols,l',rfl,h.1,h.2⟩
theorem aIO {n:Nat}{l:List cI}(h:bh (λk c=>K.mx k n c) [] l):l=[]:=by cases l<;>first|rfl|cases h
theorem aSe {n:Nat}{k:IntKind}{ks:List K}{l:List cI}(h:bh (λk c=>K.mx k n c) (.i k::ks) l):∃g l',l=.i k g::l'∧(∀j,j<n->k.min<=g j∧g j<=k.max)∧bh (λk c=>K.mx k n c) ks l':=by
 match l,h with
 |.i k' g::l',h=>
  obtain⟨⟨rfl,h1⟩,h2⟩:=h
  exact⟨g,l',rfl,h1,h2⟩
end Go.Ab
namespace Go.Ab
theorem Xz {D X ρ:Type}(s:D->(D->Option ρ)->(X->Option ρ)->Option ρ)(n:Nat)(d:D)(k:X->Option ρ):P6 s (n+1) d k=s d (λd=>P6 s n d k) k:=rfl
theorem aBe {D X ρ:Type}{s:D->(D->Option ρ)->(X->Option ρ)->Option ρ}{k:X->Option ρ}{r:Option ρ}(Inv:Nat->D->Prop)
  (h:∀t d c,Inv t d->(∀t' d',t'<t->Inv t' d'->c d'=r)->s d c k=r):∀(fuel t:Nat) (d:D),t<fuel->Inv t d->P6 s fuel d k=r
 |0,t,d,hf,hd=>by omega
 |fuel+1,t,d,hf,hd=>by
  rw[Xz]
  exact h t d _ hd λt' d' ht hd'=>aBe Inv h fuel t' d' (by omega) hd'
theorem wrap_i64 {n:Int}(h1: -9223372036854775808<=n)(h2:n<=9223372036854775807):IntKind.wrap .i64 n=n:=by
 unfold IntKind.wrap
 simp only[IntKind.signed,IntKind.bits,Bool.true_and,decide_eq_true_eq,show(2:Int)^64=18446744073709551616 from rfl,show(2:Int)^(64-1)=9223372036854775808 from rfl]
 split<;>omega
theorem wrap_u64 (n:Int):IntKind.wrap .u64 n=n%18446744073709551616:=by
 unfold IntKind.wrap
 simp only[IntKind.signed,IntKind.bits,Bool.false_and,show(2:Int)^64=18446744073709551616 from rfl,Bool.false_eq_true,if_false]
end Go.Ab
namespace Go.Ab
theorem LZ {D X ρ:Type}{s:D->Pg (D⊕X)}{k:X->Option ρ}{r:Option ρ}(Inv:Nat->D->Prop)
  (h:∀t d c,Inv t d->(∀t' d',t'<t->Inv t' d'->c d'=r)->(s d).run (Sum.elim c k)=r)(fuel t:Nat)(d:D)(hf:t<fuel)(hd:Inv t d):(bA s fuel d).bind k=r:=by
 rw[aiq]
 exact aBe Inv h fuel t d hf hd
theorem XA {D X:Type}{s:D->Pg (D⊕X)}(Inv:Nat->D->Prop)(Q:X->Prop)
  (h:∀t d,Inv t d->∃y,(s d).val=some y∧match y with|.inl d'=>∃t',t'<t∧Inv t' d'|.inr x=>Q x):∀(fuel t:Nat) (d:D),t<fuel->Inv t d->∃x,bA s fuel d=some x∧Q x
 |0,t,d,hf,hd=>by omega
 |fuel+1,t,d,hf,hd=>by
  obtain⟨y,hy,hq⟩:=h t d hd
  have e:bA s (fuel+1) d=(s d).run (Sum.elim (λd=>bA s fuel d) some):=rfl
  rw[e,<-Pg.art,hy,Option.bind_some]
  cases y with
  |inl d'=>obtain⟨t',ht,hd'⟩:=hq;exact XA Inv Q h fuel t' d' (by omega) hd'
  |inr x=>exact⟨x,rfl,hq⟩
end Go.Ab
namespace Go.Ab
class bj {D:Type} (x:Option D):Prop where
 ok:∃d,x=some d
def Ok {D:Type}(x:Option D)(Q:D->Prop):Prop:=∃d,x=some d∧Q d
def PQ {δ:Type}(p:Pg δ)(Q:δ->Prop):Prop:=Ok p.val Q
section
variable {δ D A B:Type} {Q:δ->Prop}
theorem Ok.tot {x:Option D}{Q:D->Prop}(h:Ok x Q):bj x:=⟨h.imp λ_ h=>h.1⟩
theorem Ok.post {x:Option D}{Q:D->Prop}(h:Ok x Q){d:D}(e:x=some d):Q d:=by
 obtain⟨d',e',h⟩:=h
 rw[e] at e';cases e';exact h
theorem Ok.mono {x:Option D}{Q R:D->Prop}(h:Ok x Q)(k:∀d,Q d->R d):Ok x R:=h.imp λ_ h=>⟨h.1,k _ h.2⟩
theorem bj.Ok {x:Option D}(h:bj x){Q:D->Prop}(k:∀d,x=some d->Q d):Ok x Q:=by
 obtain⟨d,e⟩:=h.ok
 exact⟨d,e,k d e⟩
theorem aSf (d:D)(Q:D->Prop):Ok (some d) Q=Q d:=propext (Iff.intro (λh=>Ok.post h rfl) λh=>⟨d,rfl,h⟩)
theorem av (d:δ):PQ (.ret d) Q=Q d:=aSf d Q
theorem aLW:PQ (.no:Pg δ) Q=False:=propext (Iff.intro (λh=>by obtain⟨_,h,_⟩:=h;cases h) λh=>False.elim h)
theorem aL (b:Bool)(x y:Pg δ):PQ (.ae b x y) Q=((b=true->PQ x Q)∧(b=false->PQ y Q)):=by
 unfold PQ
 rw[Pg.bI]
 cases b<;>simp
theorem bG (b:Bool)(x:Pg δ):PQ (.ae b x .no) Q=(b=true∧PQ x Q):=by
 rw[aL,aLW]
 cases b<;>simp
theorem aC (x y:Pg δ):PQ (.ae true x y) Q=PQ x Q:=by unfold PQ;rw[Pg.bI];rfl
theorem bx (x:Option D)(f:D->Pg δ)[h:bj x]:PQ (.opt x f) Q=∀d,x=some d->PQ (f d) Q:=by
 obtain⟨d,rfl⟩:=h.ok
 unfold PQ
 rw[Pg.bZ,Option.bind_some]
 exact propext (Iff.intro (λh d' e=>by cases e;exact h) λh=>h d rfl)
theorem bR (d:D)(f:D->Pg δ):PQ (.opt (some d) f) Q=PQ (f d) Q:=rfl
theorem aA {x:Option D}{f:D->Pg δ}{R:D->Prop}(h:Ok x R)(k:∀d,x=some d->R d->PQ (f d) Q):PQ (.opt x f) Q:=by
 obtain⟨d,rfl,hr⟩:=h
 exact k d rfl hr
theorem zf (x:A⊕B)(f:A->Pg δ)(g:B->Pg δ):PQ (.sum x f g) Q=((∀a,x=.inl a->PQ (f a) Q)∧∀b,x=.inr b->PQ (g b) Q):=by
 unfold PQ
 rw[Pg.dB]
 cases x<;>simp
theorem rI (x:A⊕B)(f:A->Pg δ)(g:B->Pg δ):PQ (.sm x f g) Q=((∀a,x=.inl a->PQ (f a) Q)∧∀b,x=.inr b->PQ (g b) Q):=by
 unfold PQ
 rw[Pg.azP]
 cases x<;>simp
theorem aF {p:Pg δ}(h:PQ p λ_=>True):bj p.val:=Ok.tot h
theorem bd {D X:Type}{s:D->Pg (D⊕X)}(I:D->Prop)(m:D->Nat)(R:X->Prop)
  (h:∀d,I d->PQ (s d) (Sum.elim (λd'=>I d'∧m d'<m d) R)):∀(n:Nat) (d:D),I d->m d<n->Ok (bA s n d) R:=λn d hd hn=>by
 refine XA (λt d=>I d∧m d=t) R (λt d hd=> ?_) n (m d) d hn ⟨hd,rfl⟩
 obtain⟨y,hy,hq⟩:=h d hd.1
 refine⟨y,hy,?_⟩
 cases y with
 |inl d'=>exact⟨m d',hd.2▸hq.2,hq.1,rfl⟩
 |inr x=>exact hq
end
theorem bf {n:Int}(h:0<=n)(k:n<=4611686018427387904):wI (n+1)=n+1:=wrap_i64 (by omega) (by omega)
theorem eK {n:Int}(h: -4611686018427387904<=n)(k:n<=4611686018427387904):wI n=n:=wrap_i64 (by omega) (by omega)
theorem bl {n:Int}{m:Nat}:aW n m=true↔0<=n∧n<m:=by simp[aW]
theorem abb {n:Int}{m:Nat}:Ir n m=true↔0<=n∧n<=m:=by simp[Ir]
theorem bP {m n:Nat}:Nat.ble m n=true↔m<=n:=by rw[Nat.ble_eq]
theorem nf {b:Bool}:(b=false->False)↔b=true:=by cases b<;>simp
theorem hdN (n:Nat)(h:n<=1999):(0:Int)<=0∧(0:Int)<=Int.ofNat n∧Int.ofNat n<=1999∧Int.ofNat n=(n:Int):=by
 simp only[Int.ofNat_eq_natCast,and_true]
 omega
theorem aR (m:Nat):Nat.beq m m=true:=Nat.beq_refl m
theorem bB:(∀{δ:Type} {Q:δ->Prop} (d:δ),PQ (.ret d) Q=Q d)∧(∀{δ:Type} {Q:δ->Prop} (b:Bool) (x:Pg δ),PQ (.ae b x .no) Q=(b=true∧PQ x Q))∧(∀{δ:Type} {Q:δ->Prop} (b:Bool) (x y:Pg δ),PQ (.ae b x y) Q=((b=true->PQ x Q)∧(b=false->PQ y Q)))
  ∧(∀{δ D:Type} {Q:δ->Prop} (x:Option D) (f:D->Pg δ) [h:bj x],PQ (.opt x f) Q=∀d,x=some d->PQ (f d) Q)∧(∀{δ A B:Type} {Q:δ->Prop} (x:A⊕B) (f:A->Pg δ) (g:B->Pg δ),PQ (.sum x f g) Q=((∀a,x=.inl a->PQ (f a) Q)∧∀b,x=.inr b->PQ (g b) Q))
  ∧(∀{δ A B:Type} {Q:δ->Prop} (x:A⊕B) (f:A->Pg δ) (g:B->Pg δ),PQ (.sm x f g) Q=((∀a,x=.inl a->PQ (f a) Q)∧∀b,x=.inr b->PQ (g b) Q))∧(∀{δ:Type} {Q:δ->Prop},PQ (.no:Pg δ) Q=False)
  ∧(∀{A B C:Type} (f:A->C) (g:B->C) (x:A),Sum.elim f g (.inl x)=f x)∧(∀{A B C:Type} (f:A->C) (g:B->C) (x:B),Sum.elim f g (.inr x)=g x)
  ∧(∀p:Prop,(p->True)=True)∧(∀α:Type,(α->True)=True)∧(∀p:Prop,(p∧True)=p)∧(∀p:Prop,(True∧p)=p)∧∀p:Prop,(p∧p)=p:=
 ⟨λd=>av d,λb x=>bG b x,λb x y=>aL b x y,λx f _=>bx x f,λx f g=>zf x f g,λx f g=>rI x f g,aLW,λ_ _ _=>rfl,λ_ _ _=>rfl,λp=>implies_true p,λα=>implies_true α,and_true,true_and,and_self⟩
theorem ov:(∀m,Nat.beq m m=true)∧(∀p:Prop,(True->p)=p)∧((true=false)=False)∧(∀p:Prop,(False->p)=True)∧∀{δ D:Type} {Q:δ->Prop} (d:D) (f:D->Pg δ),PQ (.opt (some d) f) Q=PQ (f d) Q:=
 ⟨aR,true_implies,Bool.true_eq_false,false_implies,λd f=>bR d f⟩
theorem sO:(∀{n:Int} {m:Nat},aW n m=true↔0<=n∧n<m)∧(∀{n:Int} {m:Nat},Ir n m=true↔0<=n∧n<=m)∧(∀{m n:Nat},Nat.ble m n=true↔m<=n)∧(∀m,Nat.beq m m=true)∧(∀a b:Bool,((a&&b)=true)=(a=true∧b=true))∧(∀{p:Prop} [Decidable p],(decide p=true)=p)
  ∧(∀{p:Prop} [Decidable p],decide p=false↔¬p)∧(∀{a b:Int},(a==b)=true↔a=b)∧(∀b:Bool,(true&&b)=b)∧∀n:Nat,Int.ofNat n=(n:Int):=
 ⟨bl,abb,bP,aR,λa b=>Bool.and_eq_true a b,λ{_} _=>decide_eq_true_eq,λ{_} _=>decide_eq_false_iff_not,beq_iff_eq,Bool.true_and,Int.ofNat_eq_natCast⟩
end Go.Ab
namespace Go.Ab
def Po {D:Type}(x:Option D)(Q:D->Prop):Prop:=∀d,x=some d->Q d
def PW {δ:Type}(p:Pg δ)(Q:δ->Prop):Prop:=Po p.val Q
section
variable {δ D A B:Type} {Q:δ->Prop}
theorem Po.mono {x:Option D}{Q R:D->Prop}(h:Po x Q)(k:∀d,Q d->R d):Po x R:=λd e=>k d (h d e)
theorem Po.and {x:Option D}{Q R:D->Prop}(h:Po x Q)(k:Po x R):Po x (λd=>Q d∧R d):=λd e=>⟨h d e,k d e⟩
theorem Po.true {x:Option D}:Po x (λ_=>True):=λ_ _=>trivial
theorem Ok.with {x:Option D}{Q R:D->Prop}(h:Ok x Q)(k:Po x R):Ok x (λd=>Q d∧R d):=by
 obtain⟨d,e,q⟩:=h
 exact⟨d,e,q,k d e⟩
theorem aSg (d:D)(Q:D->Prop):Po (some d) Q=Q d:=propext (Iff.intro (λh=>h d rfl) λh d' e=>by cases e;exact h)
theorem XB (d:δ):PW (.ret d) Q=Q d:=aSg d Q
theorem aGk:PW (.no:Pg δ) Q=True:=propext (Iff.intro (λ_=>trivial) λ_ d h=>by cases h)
theorem alW (b:Bool)(x y:Pg δ):PW (.ae b x y) Q=((b=true->PW x Q)∧(b=false->PW y Q)):=by
 unfold PW
 rw[Pg.bI]
 cases b<;>simp
theorem aru (x:Option D)(f:D->Pg δ):PW (.opt x f) Q=∀d,x=some d->PW (f d) Q:=by
 unfold PW
 rw[Pg.bZ]
 cases x with
 |none=>exact propext (Iff.intro (λ_ d e=>by cases e) λ_ d e=>by cases e)
 |some d=>exact propext (Iff.intro (λh d' e=>by cases e;exact h) λh=>h d rfl)
theorem aBf {x:Option D}{f:D->Pg δ}{R:D->Prop}(h:Po x R)(k:∀d,x=some d->R d->PW (f d) Q):PW (.opt x f) Q:=by
 rw[aru]
 exact λd e=>k d e (h d e)
theorem aTA (x:A⊕B)(f:A->Pg δ)(g:B->Pg δ):PW (.sum x f g) Q=((∀a,x=.inl a->PW (f a) Q)∧∀b,x=.inr b->PW (g b) Q):=by
 unfold PW
 rw[Pg.dB]
 cases x<;>simp
theorem aSh (x:A⊕B)(f:A->Pg δ)(g:B->Pg δ):PW (.sm x f g) Q=((∀a,x=.inl a->PW (f a) Q)∧∀b,x=.inr b->PW (g b) Q):=by
 unfold PW
 rw[Pg.azP]
 cases x<;>simp
theorem aIP {D X:Type}{s:D->Pg (D⊕X)}(I:D->Prop)(R:X->Prop)(h:∀d,I d->PW (s d) (Sum.elim I R)):∀(n:Nat) (d:D),I d->Po (bA s n d) R
 |0,d,hd,x,e=>by cases e
 |n+1,d,hd,x,e=>by
  have e1:bA s (n+1) d=(s d).run (Sum.elim (λd=>bA s n d) some):=rfl
  rw[e1,<-Pg.art] at e
  cases hv:(s d).val with
  |none=>rw[hv] at e;cases e
  |some y=>
   rw[hv,Option.bind_some] at e
   have q:=h d hd y hv
   cases y with
   |inl d'=>exact aIP I R h n d' q x e
   |inr x'=>cases e;exact q
end
end Go.Ab
namespace Go.Proofs.YtldgljclcgaibaaGreat
open Go.Ab
theorem aSi [ax]:Sound Tryz.prog 240 (aa9 AH):=aEK (aGi (fn:=Tryz.f240) Tryz.func240 (by kernel_rfl) (by kernel_rfl) (by kernel_rfl) (by kernel_rfl))
end Go.Proofs.YtldgljclcgaibaaGreat
namespace Go.Proofs.YtldgljclcgaibaaGreat
open Go.Ab
theorem aSj [ax]:Sound Tryz.prog 262 (aa9 aba):=aEK (aGj (fn:=Tryz.f262) Tryz.func262 (by kernel_rfl) (by kernel_rfl) (by kernel_rfl) (by kernel_rfl))
end Go.Proofs.YtldgljclcgaibaaGreat
noncomputable section
namespace Go.Proofs.YtldgljclcgaibaaGreat
open Go.Ab
abbrev arv:=C3
def ais (g:C3):Ct:=(240,aa9 g)
theorem alX [ax]:Snd Tryz.prog (ais AH):=aSi
abbrev aSk:=C3
def aIQ (g:C3):Ct:=(262,aa9 g)
theorem aN9 [ax]:Snd Tryz.prog (aIQ aba):=aSj
end Go.Proofs.YtldgljclcgaibaaGreat
noncomputable section
namespace Go.Ab
abbrev NI:=Nat->Int
@[reducible] def _root_.Prod.b {a b c:Type} (x:a×b×c):c:=x.2.2
@[reducible] def _root_.Prod.c {a b c d e:Type} (x:a×b×c×d×e):e:=x.2.2.2.2
@[reducible] def _root_.Prod.d {a b c d e f g h i:Type} (x:a×b×c×d×e×f×g×h×i):i:=x.2.2.2.2.2.2.2.2
@[reducible] def _root_.Prod.e {a b c d e f g h i j k l m n o p q:Type} (x:a×b×c×d×e×f×g×h×i×j×k×l×m×n×o×p×q):q:=x.2.2.2.2.2.2.2.2.2.2.2.2.2.2.2.2
def cr {α:Type}(d:α)(l:List α):Nat->α:=List.rec (motive:=λ_=>Nat->α) (λ_=>d) (λx l ih j=>bif Nat.beq j l.length then x else ih j) l
@[reducible] def c24 (g:Nat->Nat->Int):=(g 0,g 1,g 2,g 3,g 4,g 5,g 6,g 7,g 8,g 9,g 10,g 11,g 12,g 13,g 14,g 15,g 16,g 17,g 18,g 19,g 20,g 21,g 22,g 23)
@[reducible] def av5 {r:Type} (g:Nat->Nat->Int) (x:r):=(g 0,g 1,g 2,g 3,g 4,g 5,g 6,g 7,g 8,g 9,g 10,g 11,g 12,g 13,g 14,g 15,g 16,g 17,g 18,g 19,g 20,g 21,g 22,g 23,x)
def rg:Nat->Nat->List Nat->List Nat
 |_,0,t=>t
 |a,n+1,t=>a::rg (a+1) n t
def sh8 (o:Nat)(x:(Nat->Int)×(Nat->Int)×(Nat->Int)×(Nat->Int)×(Nat->Int)×(Nat->Int)×(Nat->Int)×(Nat->Int)):(Nat->Int)×(Nat->Int)×(Nat->Int)×(Nat->Int)×(Nat->Int)×(Nat->Int)×(Nat->Int)×(Nat->Int):=(λj=>x.1 (o+j),λj=>x.2.1 (o+j),λj=>x.2.2.1 (o+j),λj=>x.2.2.2.1 (o+j),λj=>x.2.2.2.2.1 (o+j),λj=>x.2.2.2.2.2.1 (o+j),λj=>x.2.2.2.2.2.2.1 (o+j),λj=>x.2.2.2.2.2.2.2 (o+j))
def lB (o:Nat)(x:(Nat->Int)×(Nat->Int)×(Nat->Int)×(Nat->Int)×(Nat->Int)×(Nat->Int)×(Nat->Int)×(Nat->Int)×(Nat->Int)):(Nat->Int)×(Nat->Int)×(Nat->Int)×(Nat->Int)×(Nat->Int)×(Nat->Int)×(Nat->Int)×(Nat->Int)×(Nat->Int):=(λj=>x.1 (o+j),λj=>x.2.1 (o+j),λj=>x.2.2.1 (o+j),λj=>x.2.2.2.1 (o+j),λj=>x.2.2.2.2.1 (o+j),λj=>x.2.2.2.2.2.1 (o+j),λj=>x.2.2.2.2.2.2.1 (o+j),λj=>x.2.2.2.2.2.2.2.1 (o+j),λj=>x.2.2.2.2.2.2.2.2 (o+j))
def afF (o:Nat)(x:(Nat->Int)×(Nat->Int)×(Nat->Int)×(Nat->Int)×(Nat->Int)×(Nat->Int)×(Nat->Int)×(Nat->Int)×(Nat->Int)×(Nat->Int)):(Nat->Int)×(Nat->Int)×(Nat->Int)×(Nat->Int)×(Nat->Int)×(Nat->Int)×(Nat->Int)×(Nat->Int)×(Nat->Int)×(Nat->Int):=(λj=>x.1 (o+j),λj=>x.2.1 (o+j),λj=>x.2.2.1 (o+j),λj=>x.2.2.2.1 (o+j),λj=>x.2.2.2.2.1 (o+j),λj=>x.2.2.2.2.2.1 (o+j),λj=>x.2.2.2.2.2.2.1 (o+j),λj=>x.2.2.2.2.2.2.2.1 (o+j),λj=>x.2.2.2.2.2.2.2.2.1 (o+j),λj=>x.2.2.2.2.2.2.2.2.2 (o+j))
abbrev dh:=(Int×Int×Int×Int×Int)×Int×Nat×Int
abbrev dt:=NI×NI×NI×NI×NI×NI×NI×NI×NI
abbrev PS:=Int×Int×Int×Int×(Int×Int×Int×Int×Int×Int)×(Int×Int×Int×Int×Int×Int)×NI×NI×Int×Int×Int×Int×Int×Int×Int×Int
abbrev LJ:=(Int×Int×Int×Int)×(Int×Int×Int)×Int×Int×Int
abbrev LK:=Nat×NI×NI×NI×NI×NI×NI×NI×NI×NI×NI
abbrev Ty5:=Int×(Int×Int×(Int×Int×Int)×Int×Int×Int)×Bool
abbrev PU:=NI×NI×(Nat->Bool)×NI×NI×NI
abbrev Ty7:=Nat×NI×NI×NI×NI×NI×NI×NI×NI
abbrev qB:=Int×Int×Int
abbrev LL:=Int×Int×Bool×Bool
abbrev BY:=Int×Int×Nat
abbrev azU:=Int×Int×Int×Int×Int×Int×Int×Int
abbrev aD5:=Nat×NI×NI×NI×NI×NI×NI×NI×NI×NI
abbrev aUi:=(Int×Int×Int×Int×Int×Int×Int×Int×Int×Int×Bool×Int×Int×Int×Int×Bool×Bool)⊕(Int×Int×Int×Int×Int×Int×Int×Int×Int×Bool×Int×Int×Int×Bool)
abbrev aMz:=Nat×NI×NI×NI×NI×NI×NI×NI×NI×NI×NI×NI
abbrev aMA:=NI×NI×NI×NI×NI×NI×NI×NI×NI×NI
abbrev aUj:=NI×NI×NI×NI×NI×NI×NI×NI×NI×NI×NI×NI×NI×NI×NI×NI×NI×NI×NI×NI×NI×NI×NI×NI
abbrev aHG:=(Nat×Bool)×Int×Int×Bool
abbrev aMB:=Int×Int×Int×Int×Int×Int×Int
abbrev aPe:=Int×(Nat×Bool)×(Nat×Bool)×Int×Int×Bool
abbrev aD6:=Int×Int×Int×Int
abbrev aUk:=Int×Int×Int×Int×Int×Int×Int×Int×Int×Int×Bool×Int×Bool
abbrev aPf:=Int×Int×Int×Int×Int
abbrev RA (b:Type):=Rq (List AV×List af) b
abbrev RS (b:Type):=Rq St b
abbrev RE (b:Type):=Rq m4 b
@[reducible] def qa {b:Type} (x:RA b):RA b:=x
@[reducible] def qs {b:Type} (x:RS b):RS b:=x
@[reducible] def qe {b:Type} (x:RE b):RE b:=x
@[reducible] def nO {α:Type}:Rq (Option α) Unit:=Rq.no
def lf {β:Type}(q:RE β)(d:β):T:=.leaf (q.em d)
def ls {A B:Type}(f:A->T)(g:B->T)(x:A⊕B):T:=T.sum x f g
def Ex (X:Type):=∀{ρ:Type},X->(AX->St->Option ρ)->Option ρ
abbrev KT:=AX->St
def ef {X:Type}(a:AX)(q:RS X){ρ:Type}(x:X)(K:AX->St->Option ρ):Option ρ:=K a (q.em x)
abbrev LT {D:Type}(_:RS D)(X:Type):=D->Option X
abbrev PL {D:Type}(_:RS D)(X:Type):=Pg (D⊕X)
structure KK where
 l:List Ct
 hs:Hs
 kk:Nat
 n:Nat
end Go.Ab
namespace Go.Proofs.YtldgljclcgaibaaGreat
section
open Go.Ab Go.Ab.Rq
def ju:=bool true
def kZ:=szs hole
def eP:=nat 0
def Cw:=nat 1
def rq4:=nat 2
def Tc:=o9 nil
def rq6:=nat 4
def rq7:=nat 3
def WN:=nat 11
def m5:=nat 9
def Oh:=nat 8
def aHH:=nat 13
def aHI:=nat 16
def aD7:=nat 21
def aN:=app 0 1
def fM:=cl ai nil
def ux:=cl gb nil
def aD8:=cl an nil
def aHJ:=cl ab nil
def aHK:=app 1 2
def Xc:=cu eT nil
def av6:=app 2 2
def mB:=cl fu nil
def kD:=cl gi nil
def amQ:=app 1 4
def av7:=app 2 4
def av8:=app 0 24
def aHL:=app 1 3
def Xd:=app 2 3
def Rz:=app 1 24
def BZ:=app 2 24
def EE:=app 1 300
def Xe:=app 2 300
def aD9:=app 3 300
def aMC:=us 20 nil
def Oi:=app 1 576
def aEa:=app 1 9
def ahR:=app 3 3
def aMD:=app 4 3
def aPg:=us 27 nil
def aPh:=app 2 1152
def Xf:=app 3 1152
def amR:=app 4 24
def Oj:=app 1 1
def afG:=app 3 24
def aME:=app 2 576
def Lk:=app 4 300
def amS:=app 5 48
def av9:=app 2 48
def aEb:=app 4 576
def amT:=app 5 24
def aEc:=app 2 373
def aEd:=app 3 373
def aHM:=cu Td nil
def FX:=app 0 3
def awa:=app 0 37
def Te:=app 0 8
def aHN:=app 0 72
def azV:=app 4 1
def eZ:=app 0 434
def afH:=gp 1 5
def afI:=gp 2 10
def amU:=gp 10 37
def amV:=gp 11 3
def awb:=app 2 20
def aMF:=app 3 4
def aMG:=app 5 16
def aMH:=app 6 12
def aMI:=app 3 576
def aMJ:=app 4 12
def aHO:=app 3 1
def Xg:=app 20 8
def aPi:=app 21 11
def xE:=ok' eP
def Tf:=szs eP
def aqX:=AF ux
def aMK:=cl (rc cb) nil
def aPj:=ac (slc 0 2)
def FY:=ac (slc 1 1)
def ch:=so ux
def cy:=cu eP nil
def Tg:=ac (slc 0 1)
def aPk:=ac (slc 2 1)
def azW:=ac (slc 1 3)
def aqY:=cl (rc ci) nil
def aHP:=ac (slc 1 24)
def aML:=ac (slc 1 27)
def aPl:=ac (slc 0 3)
def aPm:=ac (slc 1 10)
def aEe:=cu Cw nil
def aPn:=ac (slc 2 10)
def aPo:=ac (slc 0 9)
def aPp:=ac (wz 1 9)
def aMM:=gc (wz 3 8)
def aPq:=ac (wz 2 11)
def FZ:=c ai fM
def cq:=cl ux nil
def aEf:=c gn (cl gn nil)
def aPr:=c gi (cl gn nil)
def azX:=cu (gp 1 1) nil
def aKd:=xs 8 (us 22 nil)
def aPs:=cf (fb (bool false))
def aKe:=cl ab (us 14 nil)
def aKf:=cl ab (us 21 nil)
def aKg:=cl ai (us 15 nil)
def aKh:=cl ai (us 26 nil)
def aFj:=cl ai (us 13 nil)
def aPt:=cl ab (us 12 nil)
def ahS:=c gi kD
def aPu:=cl ai (us 11 nil)
def jV:=gl 24 mB
def aKi:=cl ai (us 18 nil)
def at4:=cu eT Xc
def aKj:=cu (gp 2 1) nil
def aKk:=gl 276 mB
def aFk:=cl ai aMC
def aKl:=cl ai (us 8 nil)
def aPv:=cl ai (us 21 nil)
def aPw:=cl ai (us 22 nil)
def aPx:=cl ai (us 82 nil)
def aFl:=cl ai (us 24 nil)
def aPy:=cl ai (us 80 nil)
def aPz:=cl ai (us 12 nil)
def aPA:=cl ai (us 32 nil)
def aPB:=cl ab (us 38 nil)
def aPC:=cu (gp 0 3) nil
def aPD:=cl ai (us 31 nil)
def aPE:=xs 8 (us 1 nil)
def aKm:=cf (fi .i64 (int 0))
def aKn:=cf (fi .i64 (int 4))
def at5:=cf (fi .i64 (int 1))
def aPF:=cf (fi .i64 (int 5))
def aKo:=afn (pu (nat 96) nil)
def k9:=cl aqX nil
def aPG:=res (pl an (pu nil nil))
def Th:=aa aEf
def acS:=aa aPr
def EU:=res (pl ai (pu nil nil))
def apg:=ac (cf (fb ju))
def Cy:=ac aPs
def BB:=res (pl ab (pu nil nil))
def at6:=cl FY nil
def aFm:=cl azW nil
def at7:=gc (cf (fb ju))
def YP:=so azX
def at8:=so aPC
def acT:=gc aPs
def Cz:=c ai FZ
def aPH:=c ai (cl ab (us 30 nil))
def aFn:=c fu (cl (ki .u64 hole) nil)
def aQ:=gc aKm
def azY:=gc (cf (fi .u64 (int 0)))
def aKp:=c ai (cl ab (us 25 nil))
def aFo:=c ai aPt
def ld:=c gi ahS
def at9:=gc (cf (fi .i64 (int 1073741824)))
def aph:=cl jV nil
def aFp:=c ai (cl ab (us 17 nil))
def aKq:=c ai (cl ab (us 19 nil))
def azZ:=cl (gl 576 mB) nil
def aFq:=c ai (cl ab (us 7 nil))
def YQ:=cl (gl 9 mB) nil
def aPI:=c ai (cl ab aMC)
def aKr:=gc (cf (fi .i64 (int 2)))
def aFr:=c gb ahS
def api:=c fu (c fu mB)
def aPJ:=cl (gl 1152 mB) nil
def aPK:=c ai (cl ab (us 81 nil))
def aPL:=c ai (cl ab (us 29 nil))
def aFs:=c ai (cl ab (us 23 nil))
def aPM:=c ai (cl ab (us 13 nil))
def aPN:=c ai (cl ab (us 11 nil))
def apj:=c kcb (c fu mB)
def aKs:=c ai aFk
def aPO:=c ai (cl ab (us 31 nil))
def aKt:=c gi (c gi ux)
def aFt:=ac aKm
def aPP:=ac (cf (fi .i64 (int 6)))
def aPQ:=gc (cf (fi .i64 (int 3000)))
def aPR:=gc (cf (fi .i64 (int 2200)))
def aFu:=gc (cf (fi .i64 (int 500)))
def aPS:=gc (cf (fi .i64 (int 950)))
def aPT:=gc (cf (fi .i64 (int 100)))
def aPU:=gc (cf (fi .i64 (int 1000)))
def az0:=c gn (c gn ux)
def az1:=cu Cw (cu rq4 nil)
def aPV:=cu eP (cu WN nil)
def az2:=cl acS nil
def YR:=cl (so aPr) nil
def LM:=cl aqX Xc
def aKu:=c ai at6
def acU:=aa ld
def jW:=aa aph
def mw:=so aph
def wA:=so ld
def aPW:=c ai (cl Tg nil)
def lg:=so azZ
def EV:=so aPJ
def acV:=so (cl (gl 48 mB) nil)
def acW:=ra aph
def aFv:=res (pl ab (pu Xc nil))
def aua:=res (pl ai (pu Xc nil))
def ahT:=aa az0
def aKv:=o9 (c (rc ci) aMK)
def aFw:=c ai (cl ai (cu aN nil))
def aPX:=c ai (c ai aKe)
def acX:=c gi ld
def aKw:=xs 3 (us 2 (xs 3 (us 1 nil)))
def aPY:=us 15 (c ai aKh)
def EW:=c gi (c gi (c gb ux))
def aKx:=cu (gc (cf (fi .i64 (int 3)))) nil
def aKy:=c ai aKq
def aKz:=o9 (c (rc ci) aqY)
def aPZ:=o9 (cu (rc aP0) aqY)
def ahU:=cu (rc aKm) nil
def aKA:=cl aKt nil
def aP1:=ox (pu eP (pl hole m5))
def apk:=cu (gc (cf (fi .i64 (int (-9223372036854775808))))) nil
def apl:=ox (pu eP (pl hole Oh))
def aFx:=cl (ga (pr kZ mB)) nil
def EX:=cl acU nil
def acY:=aa acX
def uC:=so acX
def Ho:=cl mw nil
def aKB:=cu eT (cu eT k9)
def apm:=cl jW nil
def acZ:=c gi (c gi (cl (gc (wz 2 11)) nil))
def aFy:=c gi (c gi (cl (gc (wz 3 11)) nil))
def aFz:=c gi (c gi (cl (gc (wz 7 11)) nil))
def aKC:=c gi (c gi (cl (gc (wz 4 11)) nil))
def aKD:=res (pl ai (pu at4 nil))
def qU:=c gi (c gi (cl (gc (wz 19 11)) nil))
def Hp:=so aFx
def aP2:=us 15 (c ai aKp)
def iy:=c gi acX
def aP3:=cu eT (cu eT (cu eT at4))
def oG:=res (pr ai (pl k9 nil))
def aP4:=res (pl acS (pu nil nil))
def aFA:=res (pl Th (pu nil nil))
def apn:=cl acY nil
def ac0:=c jW fM
def aP5:=o9 (c (ra aPr) aMK)
def ahV:=cl Hp nil
def zd:=c aKk aph
def aub:=c jV ld
def az3:=c gi iy
def aKE:=aa (a 3 ld kD)
def aP6:=c gi (c gi (c gb ld))
def aKF:=xs 3 (us 2 aKw)
def aP7:=ac (Ol (pu eP (pu (ok' m5) Cw)))
def aP8:=ac (Ol (pu eP (pu (ok' rq6) (nat 6))))
def aKG:=ac (Ol (pu eP (pu (ok' (nat 6)) Cw)))
def aP9:=ac (Ol (pu eP (pu (ok' Cw) Cw)))
def LN:=ac (Ol (pu eP (pu (ok' (nat 72)) Cw)))
def aQa:=ac (Ol (pu eP (pu (ok' (nat 412)) Cw)))
def aKH:=ac (Ol (pu eP (pu (ok' (nat 399)) Cw)))
def aKI:=res (pr ai (pl (cu eT k9) nil))
def aFB:=res (pr ai (pl LM nil))
def aQb:=res (pl acU (pu nil nil))
def aKJ:=res (pl jW (pu nil nil))
def aKK:=cl (ga (pr kZ apj)) nil
def kF:=a 3 ld ahS
def aQc:=o9 (cu (rc auc) (cu (rc at5) nil))
def aFC:=res (pl ahT (pu nil nil))
def aKL:=res (pl (o9 (c (rc cn) (cl (rc cn) nil))) (pu nil nil))
def aud:=res (pl aKv (pu nil nil))
def xF:=aa zd
def hX:=so zd
def ahW:=ra zd
def aKM:=so (cl (ga (pr kZ aFn)) nil)
def az4:=so (cl (ga (pr kZ api)) nil)
def aQd:=o9 (c (ra ld) aqY)
def aQe:=gl 6 (c fu (c fu (c kcb api)))
def aQf:=cu eT (cu eT aP3)
def rF:=so kF
def aQg:=cu Td (cu Td (cu Td (cu Td (cu Td (cu Td aHM)))))
def aQh:=res (pl acY (pu nil nil))
def aQi:=res (pl jW (pu Xc nil))
def aQj:=res (pr ai (pl aKB nil))
def aQk:=cl (aa aub) nil
def aQl:=res (pl aKz (pu Xc nil))
def aKN:=afn (pu (nat 180) (cu (rc (cp 2 1)) (cu (rc (cp 3 10)) nil)))
def aQm:=c an (c an (c an (c an (c an (c an aKe)))))
def aQn:=res (pu Tc (pl (cl (AF aph) nil) nil))
def lF:=c fu (c fu (c fu (c fu (c fu api))))
def aQo:=cl (so aKK) nil
def aue:=c gi (c gi az3)
def aFD:=cu eT aQf
def aKO:=res (pl ai (pu (cu (AF (cu at7 nil)) nil) nil))
def aKP:=res (pl aP5 (pu nil nil))
def aKQ:=so (cu aQ (cu azY nil))
def CA:=so aue
def auf:=res (pr acU (pl k9 nil))
def az5:=res (pr jW (pl k9 nil))
def ay:=c fu lF
def aKR:=c gi aue
def lk:=c aQe kD
def az6:=res (pu aQc (pu nil nil))
def aQp:=cu eT (cu Td aQf)
def LO:=c mw Ho
def aQq:=ac (je (pu Cw (pu xE (pl kZ (pu rq4 ju)))))
def aQr:=ac (je (pu rq6 (pu xE (pl kZ (pu Cw ju)))))
def aFE:=c gi (c gi (a 3 ld ld))
def aQs:=ac (je (pu rq7 (pu xE (pl kZ (pu Cw ju)))))
def aQt:=ac (je (pu (nat 6) (pu xE (pl kZ (pu rq7 ju)))))
def aQu:=ac (je (pu rq6 (pu xE (pl kZ (pu rq7 ju)))))
def aQv:=ac (je (pu (nat 5) (pu xE (pl kZ (pu rq7 ju)))))
def aQw:=ac (je (pu (nat 5) (pu xE (pl kZ (pu Cw ju)))))
def aKS:=res (pr aKz (pl k9 nil))
def aFF:=aa aKR
def az7:=AF lk
def pJ:=so lk
def aQx:=c an (c an (c an (c an (c an (c an (cl ab (us 19 aKd)))))))
def aug:=res (pr acY (pl k9 nil))
def aQy:=ac (je (pu Cw (pu xE (pu (szl rq6) (pu Cw ju)))))
def jP:=c fu ay
def aKT:=c gi aKR
def aQz:=o9 (c (ra aub) aqY)
def az8:=cl lk nil
def BC:=cl aFF nil
def aQA:=cl (so aKR) nil
def YS:=cl (aa aFE) nil
def gA:=c fu jP
def auh:=c gi aKT
def ac1:=a 5 iy (c gi (c (gc (wz 1 9)) kD))
def m8:=a 5 iy (c gi (c (gc (wz 14 9)) kD))
def m9:=a 5 iy (c gi (c (gc (wz 15 9)) kD))
def na:=a 5 iy (c gi (c (gc (wz 16 9)) kD))
def nc:=a 5 iy (c gi (c (gc (wz 17 9)) kD))
def nd:=a 5 iy (c gi (c (gc (wz 18 9)) kD))
def pK:=a 5 iy (c gi (c (gc (wz 13 9)) kD))
def aFG:=aa (a 3 ld kF)
def aKU:=res (pr (o9 (c (ra ahS) aqY)) (pl k9 nil))
def aKV:=cl (ga (pr kZ lF)) nil
def aFH:=je (pu aD7 (pr apl (pl kZ (pu Oh ju))))
def aKW:=so (c gb (c gb (c gb (c gb (c gb (c gb (c gb (c gb ld))))))))
def aQB:=ac (je (pu Cw (pu (ox (pu eP (pu Cw Cw))) (pr kZ (pu Cw hole)))))
def apo:=cu aQ (cu aQ (cu aQ nil))
def aKX:=res (pr xF (pl k9 nil))
def aui:=c gi auh
def aQC:=res (pr (aa aub) (pl k9 nil))
def aKY:=c jV (c gi (c gi (c gi aub)))
def aQD:=cu (gp 5 8) (cu (gp 6 8) (cu (gp 7 8) (cu (gp 8 8) (cu (gp 9 8) (cu (gp 10 8) nil)))))
def ac2:=cu (gp 4 8) (cu (gp 5 8) (cu (gp 6 8) (cu (gp 7 8) (cu (gp 8 8) (cu (gp 9 8) nil)))))
def aQE:=cu at8 (cu YP Ho)
def aKZ:=je (pu rq7 (pu (ox (pu eP (pu eP Oh))) (pl kZ (pu Oh ju))))
def uD:=so aKV
def aK0:=cl aQe (cu aQ nil)
def aK1:=je (pu aD7 (pu (ox (pu eP (pu eP m5))) (pl kZ (pu m5 ju))))
def YT:=c hX (cl acV nil)
def YU:=cl (ga (pr kZ ay)) nil
def EY:=a 4 acX (a 3 ld ld)
def lG:=c gi (a 8 aFE ux)
def aFI:=gc aKZ
def aQF:=res (pr xF (pl LM nil))
def uF:=so YU
def apq:=cl (ga (pu Tf ay)) nil
def aQG:=cu eZ (us 2 (cu Xg (cu LN (us 194 nil))))
def aK2:=cl (ga (pr kZ jP)) nil
def aQH:=res (pr (o9 (c (ra acX) aqY)) (pl k9 nil))
def rG:=so lG
def ahX:=cl (so aui) nil
def aQI:=cl (so aK0) nil
def aK3:=cl (aa (c gb (c gb (a 6 (c gb (c gb (c gb (c gb (c gb ux))))) ld)))) nil
def aFJ:=c mw LO
def ac3:=c gi (c gi (c gi (c gi (c gi (c gi (c gi (c gi (c gi (c gi (c gi YQ))))))))))
def pL:=so aK2
def aK4:=c jV (c jV aue)
def aQJ:=cl (ga (pu Tf jP)) nil
def aK5:=aa (c gi EY)
def aK6:=cl (ga (pr kZ gA)) nil
def aFK:=cl aK2 nil
def aQK:=so (c gb (c gb (c gb (c gb (c gb (c gb (c gb (c gb (cu (gc (cf (fi .i64 (int 1125899906842624)))) ahS)))))))))
def aQL:=c aKk (c jV (c jV (c jV (cl (gl 25 mB) nil))))
def aQM:=o9 (c (ra auh) aMK)
def YV:=so aK6
def auj:=c hX (cl hX nil)
def az9:=res (pr aQz (pl k9 nil))
def aAa:=cl aK6 nil
def PX:=so aQL
def aK7:=afn (pu (nat 183) (cu (rc (cp 2 1)) (cu (rc (cp 3 3)) (cu (rc (cp 4 1)) (cu (rc (cp 5 3)) (cu (rc (cp 6 4)) nil))))))
def aK8:=c gi (c gi (cl (gc (je (pu (nat 20) (pu (ox (pu eP (pu eP WN))) (pl kZ (pu WN ju)))))) nil))
def aQN:=c gi (c gi (cl (gc (je (pu (nat 38) (pu (ox (pu eP (pu eP WN))) (pl kZ (pu WN ju)))))) nil))
def aK9:=c gi (c gi (cl (gc (je (pu (nat 19) (pu (ox (pu eP (pu eP WN))) (pl kZ (pu WN ju)))))) nil))
def aQO:=res (pu (o9 (cu (rc (cp 0 5)) ahU)) (pu nil (cl iy nil)))
def aLa:=cl (AF aK6) nil
def Hq:=cl YV nil
def aQP:=cl (cl (ga (pu Tf gA)) nil) nil
def ac4:=so (c gi (c gi (cl (gc (je (pu (nat 29) (pu (ox (pu eP (pu eP WN))) (pl kZ (pu WN ju)))))) nil)))
def auk:=so (c gi (c gi (cl (gc (je (pu (nat 28) (pu (ox (pu eP (pu eP WN))) (pl kZ (pu WN ju)))))) nil)))
def aQQ:=so (c gi (c gi (cl (gc (je (pu (nat 32) (pu (ox (pu eP (pu eP WN))) (pl kZ (pu WN ju)))))) nil)))
def aQR:=so (c gi (c gi (cl (gc (je (pu (nat 39) (pu (ox (pu eP (pu eP WN))) (pl kZ (pu WN ju)))))) nil)))
def ahY:=so (cu aQ apo)
def aQS:=cu eT (cu eT aLa)
def ahZ:=cu (so apo) (cl wA nil)
def aQT:=cu eT (cu eT (cu eT (cu eT (cu eT (cu eT (cu eT (cu eT (cu eT (cu eT (cu eT aFD))))))))))
def aQU:=cu Td (cu Td (cu Td (cu Td (cu Td (cu Td (cu Td (cu Td (cu Td (cu Td (cu Td (cu Td aQg)))))))))))
def aLb:=c gi (c gi (c gi (a 10 EY (cl (gc (wz 20 10)) nil))))
def ah0:=cu eT aQT
def apr:=a 5 iy (c gi (c (gc (je (pu (nat 22) (pu (ox (pu eP (pu eP m5))) (pl kZ (pu m5 ju)))))) kD))
def aQV:=a 5 iy (c gi (c (gc (je (pu (nat 23) (pu (ox (pu eP (pu eP m5))) (pl kZ (pu m5 ju)))))) kD))
def aQW:=a 5 iy (c gi (c (gc (je (pu (nat 24) (pu (ox (pu eP (pu eP m5))) (pl kZ (pu m5 ju)))))) kD))
def aQX:=a 5 iy (c gi (c (gc (je (pu (nat 25) (pu (ox (pu eP (pu eP m5))) (pl kZ (pu m5 ju)))))) kD))
def aQY:=a 5 iy (c gi (c (gc (je (pu (nat 26) (pu (ox (pu eP (pu eP m5))) (pl kZ (pu m5 ju)))))) kD))
def aQZ:=a 5 iy (c gi (c (gc (je (pu (nat 32) (pu (ox (pu eP (pu eP m5))) (pl kZ (pu m5 ju)))))) kD))
def aFL:=a 5 iy (c gi (c (gc (je (pu (nat 33) (pu (ox (pu eP (pu eP m5))) (pl kZ (pu m5 ju)))))) kD))
def aFM:=a 5 iy (c gi (c (gc (je (pu (nat 34) (pu (ox (pu eP (pu eP m5))) (pl kZ (pu m5 ju)))))) kD))
def aFN:=a 5 iy (c gi (c (gc (je (pu (nat 35) (pu (ox (pu eP (pu eP m5))) (pl kZ (pu m5 ju)))))) kD))
def aFO:=a 5 iy (c gi (c (gc (je (pu (nat 36) (pu (ox (pu eP (pu eP m5))) (pl kZ (pu m5 ju)))))) kD))
def aFP:=a 5 iy (c gi (c (gc (je (pu (nat 37) (pu (ox (pu eP (pu eP m5))) (pl kZ (pu m5 ju)))))) kD))
def aLc:=a 5 iy (c gi (c (gc (je (pu aHH (pu (ox (pu eP (pu eP m5))) (pl kZ (pu m5 ju)))))) kD))
def aLd:=a 5 iy (c gi (c (gc (je (pu (nat 14) (pu (ox (pu eP (pu eP m5))) (pl kZ (pu m5 ju)))))) kD))
def aLe:=a 5 iy (c gi (c (gc (je (pu (nat 15) (pu (ox (pu eP (pu eP m5))) (pl kZ (pu m5 ju)))))) kD))
def aLf:=a 5 iy (c gi (c (gc (je (pu aHI (pu (ox (pu eP (pu eP m5))) (pl kZ (pu m5 ju)))))) kD))
def aLg:=a 5 iy (c gi (c (gc (je (pu (nat 17) (pu (ox (pu eP (pu eP m5))) (pl kZ (pu m5 ju)))))) kD))
def aLh:=a 5 iy (c gi (c (gc (je (pu (nat 18) (pu (ox (pu eP (pu eP m5))) (pl kZ (pu m5 ju)))))) kD))
def aQ0:=res (pl ai (pu ah0 nil))
def Hr:=so aQV
def Ht:=so aQW
def Hu:=so aQX
def CB:=so aQY
def CC:=so (a 5 iy (c gi (c (gc (je (pu (nat 27) (pu (ox (pu eP (pu eP m5))) (pl kZ (pu m5 ju)))))) kD)))
def Ti:=so (a 5 iy (c gi (c (gc (je (pu (nat 28) (pu (ox (pu eP (pu eP m5))) (pl kZ (pu m5 ju)))))) kD)))
def aQ1:=so (a 5 iy (c gi (c (gc (je (pu (nat 29) (pu (ox (pu eP (pu eP m5))) (pl kZ (pu m5 ju)))))) kD)))
def aQ2:=so (a 5 iy (c gi (c (gc (je (pu (nat 30) (pu (ox (pu eP (pu eP m5))) (pl kZ (pu m5 ju)))))) kD)))
def aQ3:=so (a 5 iy (c gi (c (gc (je (pu (nat 31) (pu (ox (pu eP (pu eP m5))) (pl kZ (pu m5 ju)))))) kD)))
def aQ4:=so (a 5 iy (c gi (c (gc (je (pu (nat 38) (pu (ox (pu eP (pu eP m5))) (pl kZ (pu m5 ju)))))) kD)))
def aAb:=c fu (c fu (c fu (c fu (c fu (c fu (c fu (c fu (c fu (c fu (c fu (c fu (c fu gA))))))))))))
def aQ5:=cu aQ (cu aQ (cu aQ apo))
def aQ6:=c hX (c hX (c lg Ho))
def aQ7:=xs 3 (us 2 (xs 3 (us 2 (xs 3 (us 2 (xs 3 (us 2 (xs 3 (us 2 (xs 3 (us 2 (xs 3 (us 2 (xs 3 (us 2 (xs 3 (us 2 (xs 3 (us 2 aKF)))))))))))))))))))
def Tj:=cu rq6 (cu (nat 5) (cu (nat 6) (cu (nat 7) (cu Oh (cu m5 (cu (nat 19) (cu (nat 18) (cu (nat 17) (cu aHI (cu (nat 15) (cu (nat 14) (cu aHH (cu WN (cu eP (cu (nat 10) nil)))))))))))))))
def aFQ:=c fu (c fu (c fu aAb))
def aQ8:=so (cl (ga (pr kZ aAb)) nil)
def aQ9:=so (c gi (c gi (c gi (cl gi aQ5))))
def aRa:=cu eT (cu eT (cu eT (cu eT (cu eT (cu eT (cu eT (cu eT (cu eT (cl az7 (cu eT aFD))))))))))
def aLi:=cu eT (cu eT (cu eT (cu eT (cu eT (cu eT (cu eT (cu eT (cu eT (cl az7 aQp)))))))))
def aLj:=cu eT aRa
def aAc:=cu eP (cu rq6 (cu (nat 5) (cu (nat 6) (cu (nat 7) (cu Oh (cu m5 (cu (nat 19) (cu (nat 18) (cu (nat 17) (cu aHI (cu (nat 15) (cu (nat 14) (cu aHH (cu (nat 12) (cu rq7 (cu WN (cu rq4 (cu (nat 10) nil))))))))))))))))))
def aFR:=cu aQ (cu aQ aQ5)
def xG:=c gi (c gi (c gi (c gi (a 6 az3 (a 6 az3 aK4)))))
def aRb:=c gb (c gb (c gi (c gi (c gi (a 10 EY (cl (gc (je (pu (nat 12) (pu (ox (pu eP (pu eP (nat 10)))) (pl kZ (pu (nat 10) ju)))))) nil))))))
def aRc:=res (pu Tc (pl aLj nil))
def aRd:=res (pu (ac (je (pu Cw (pu xE (pu (szl rq7) (pu (nat 27) ju)))))) (pr k9 (cl (c jV (c gi (c gi (c gi aKY)))) nil)))
def aRe:=cl gi (cu aQ (cu aQ (cu aQ (cu aQ (cu aQ (cu aQ (cu aQ (cu aQ (cu acT nil)))))))))
def aRf:=so (cu aQ (cu aQ aFR))
def aLk:=au 6 ac2 (cu amU (a 4 EW (cu amV (c gb (c gi (a 3 ld (c gb (c gb (c gb (c gi (c gi (c gi (a 10 EY (cl (gc (je (pu (nat 22) (pu (ox (pu eP (pu eP (nat 10)))) (pl kZ (pu (nat 10) ju)))))) nil))))))))))))))
def aRg:=au 6 (cu (gp 23 8) (cu (gp 24 8) (cu (gp 25 8) (cu (gp 26 8) (cu (gp 27 8) (cu (gp 28 8) nil)))))) (cu (gp 29 37) (a 4 EW (cu (gp 30 3) (c gb (c gi (a 3 ld (c gb (c gb (c gb (c gi (c gi (c gi (a 10 EY (cl (gc (je (pu (nat 31) (pu (ox (pu eP (pu eP (nat 10)))) (pl kZ (pu (nat 10) ju)))))) nil))))))))))))))
def aLl:=cu (gc (cf (fi .i64 (int 8000)))) (cu (gc (cf (fi .i64 (int 40000)))) (cu (gc (cf (fi .i64 (int 16)))) (cu (gc aPF) (c gi (c gi (c gi (c gi (c gi (c gi (c gi (c gi (c gi (c gi (c gi (c gi (c jV (cl jV (cu (gc (cf (fi .i64 (int 5000000)))) (cu (gc (cf (fi .i64 (int 68719476736)))) (cu (gc at5) (cu (gc (cf (fi .i64 (int 268435456)))) (cu (gc (cf (fi .i64 (int 32)))) apo))))))))))))))))))))))
def aRh:=st (pr (us 4 (cu aHO (cu azV (us 8 (cu (app 5 3) (cu (app 6 3) (cu (app 7 4) (cu (app 8 4) aPy)))))))) (pl (c (so acZ) (c ch (c YV (cu at8 (cu YP (c wA (c wA (c uC (cl uC nil))))))))) az1))
def aRi:=c uF (c uF (c uF (c uF (c uF (c uF Hq)))))
def aAd:=a 26 xG (c gb (c jV (a 2 zd (cu (gp 2 5) (cu (gp 3 10) (c (gc (wz 4 8)) (au 6 aQD (cu (gp 11 37) (a 4 EW (cu (gp 12 3) (c gb (c gi (a 3 ld (c gb (c gb (c gb (c gi (c gi (c gi (a 10 EY (cl (gc (wz 13 10)) nil)))))))))))))))))))))
def oH:=a 26 xG (c gb (c jV (a 2 zd (cu afH (cu afI (c aMM (au 6 ac2 (cu amU (a 4 EW (cu amV (c gb (c gi (a 3 ld (c gb (c gb (c gb (c gi (c gi (c gi (a 10 EY (cl (gc (wz 12 10)) nil)))))))))))))))))))))
def aRj:=AF (a 26 xG (c gb (c jV (a 2 zd (cu afH (cu afI (c aMM (au 6 ac2 (cu amU (a 4 EW (cu amV (c gb (c gi (a 3 ld (c gb (c gb (c gb aLb)))))))))))))))))
def aLm:=c aK2 (c YU (c YU (c YU (c YU (c YU (c YU aAa))))))
def ac5:=c pL aRi
def aRk:=a 26 xG (c gb (c jV (a 2 zd (cu (gp 20 5) (cu (gp 21 10) (c (gc (je (pu (nat 22) (pr apl (pl kZ (pu Oh ju)))))) aRg))))))
def aLn:=a 26 xG (c gb (c jV (a 2 zd (cu afH (cu afI (c (gc (je (pu rq7 (pr apl (pl kZ (pu Oh ju)))))) (au 6 ac2 (cu amU (a 4 EW (cu amV (c gb (c gi (a 3 ld (c gb aRb))))))))))))))
def aLo:=so (a 26 xG (c gb (c jV (a 2 zd (cu afH (cu afI (c (gc aFH) aLk)))))))
def aRl:=so (a 26 xG (c gb (c jV (a 2 zd (cu (gp 2 5) (cu (gp 3 10) (c (gc (je (pu rq6 (pr apl (pl kZ (pu Oh ju)))))) (au 6 aQD (cu (gp 11 37) (a 4 EW (cu (gp 12 3) (c gb (c gi (a 3 ld (c gb (c gb (c gb (c gi (c gi (c gi (a 10 EY (cl (gc (je (pu aHH (pu (ox (pu eP (pu eP (nat 10)))) (pl kZ (pu (nat 10) ju)))))) nil))))))))))))))))))))))
def aRm:=so (a 26 xG (c gb (c jV (a 2 zd (cu (gp 14 5) (cu (gp 15 10) (c (gc (je (pu aHI (pr apl (pl kZ (pu Oh ju)))))) (au 6 (cu (gp 17 8) (cu (gp 18 8) (cu (gp 19 8) (cu (gp 20 8) (cu (gp 21 8) (cu (gp 22 8) nil)))))) (cu (gp 23 37) (a 4 EW (cu (gp 24 3) (c gb (c gi (a 3 ld (c gb (c gb (c gb (c gi (c gi (c gi (a 10 EY (cl (gc (je (pu (nat 25) (pu (ox (pu eP (pu eP (nat 10)))) (pl kZ (pu (nat 10) ju)))))) nil))))))))))))))))))))))
def aAe:=so (a 26 xG (c gb (c jV (a 2 zd (cu afH (cu afI (c aFI aLk)))))))
def aul:=so (a 26 xG (c gb (c jV (a 2 zd (cu afH (cu afI (c aFI (au 6 ac2 (cu amU (a 4 EW (cu amV (c gb (c gi (a 3 ld (c gb (c gb (c gb (c gi (c gi (c gi (a 10 EY (cl (gc (je (pu aD7 (pu (ox (pu eP (pu eP (nat 10)))) (pl kZ (pu (nat 10) ju)))))) nil))))))))))))))))))))))
def aLp:=a 26 xG (c gb (c jV (a 2 zd (cu afH (cu afI (c aFI (au 6 ac2 (cu amU (a 4 EW (cu amV (cu at7 (c gi (a 3 ld (cu at7 aRb))))))))))))))
def aps:=res (pu Tc (pl (c (AF oH) aRa) nil))
def aRn:=res (pu Tc (pr (cl aRj (cu eT (cu eT (cu eT (cu eT (cu eT (cu eT (cu eT (cu eT (cu eT (cu eT aQp))))))))))) aFK))
def aRo:=c kF (c lG (c aKV (c aQZ (c aFL (c aFM (c aFN (c aFO (c aFP (c lk (c aQN aLm))))))))))
def aLq:=st (pr (cu eZ (us 2 (cu Xg (cu LN (us 178 (cu eZ (cu eZ (cu aQa aPt)))))))) (pl (c aul (c rF (c rG (c uD (c (so apr) (c Hr (c Ht (c Hu (c CB (c CC (c pJ (c auk (c pL (cu nO (cu nO (cu nO (cu nO (cu nO (cu nO (cu nO (c CA ac5))))))))))))))))))))) Tj))
def aLr:=st (pr (cu eZ (us 2 (cu Xg (cu LN (us 178 (cu eZ (cu eZ (cu aQa (c ab (cu eZ (cu eZ (cu (ac (Ol (pu eP (pu (ok' (nat 411)) Cw)))) (cu (app 11 3) (cu LN (cu eZ (cu eZ (cu (ac (Ol (pu eP (pu (ok' (nat 73)) (nat 24))))) (c jW (cu (app 20 1) FZ))))))))))))))))))) (pl (c aul (c rF (c rG (c uD (c (so apr) (c Hr (c Ht (c Hu (c CB (c CC (c pJ (c auk (c pL (cu nO (cu nO (cu nO (cu nO (cu nO (cu nO (cu nO (c CA ac5))))))))))))))))))))) Tj))
end
open Go.Ab
abbrev TP:=Tryz.prog
abbrev D0 {β δ:Type}(l:List Ct)(n:Nat)(Q:RA β)(R:δ->T)(B:β->Pg δ):Prop:=ah1 TP l ⟨[],[],[],[],none⟩ 2000 n Q R B
abbrev D1 {β δ:Type}(l:List Ct)(d0:List Nat)(n:Nat)(Q:RA β)(R:δ->T)(B:β->Pg δ):Prop:=ah1 TP l ⟨[],[],d0,[],none⟩ 2000 n Q R B
abbrev D2 {β δ:Type}(k:KK)(Q:RA β)(R:δ->T)(B:β->Pg δ):Prop:=ah1 TP k.l k.hs 2000 k.n Q R B
abbrev LI {D X:Type}(k:KK)(id:Nat)(Q:RS D)(E:∀{ρ:Type},X->(AX->St->Option ρ)->Option ρ)(S:D->Pg (D⊕X)):Prop:=aMN TP k.l k.hs k.kk 2000 k.n id Q E S
abbrev JI {D X:Type}(k:KK)(id:Nat)(Q:RS D)(E:∀{ρ:Type},X->(AX->St->Option ρ)->Option ρ)(S:D->Pg X):Prop:=aMO TP k.l k.hs k.kk 2000 k.n id Q E S
section
variable [ax]
abbrev SC (e:Ct):Prop:=Snd TP e
theorem sc {e:Ct}{n:Nat}{F:CD}(S:Sound TP n F)(h:e=(n,F):=by kernel_rfl):SC e:=Snd.of S h
theorem k0 {β δ:Type}{l:List Ct}{d0:List Nat}{n:Nat}{Q:RA β}{R:δ->T}{B:β->Pg δ}(hl:Hv TP l)(h:ah1 TP l ⟨[],[],d0,[],none⟩ 2000 n Q R B)(hc:DU TP n=true:=by kernel_rfl):Sound TP n (FC Q R λb=>(B b).val):=mk0 mixed hl hc h
theorem s0 {β δ:Type}{e:Ct}{l:List Ct}{d0:List Nat}{n:Nat}{Q:RA β}{R:δ->T}{B:β->Pg δ}(hl:Hv TP l)(h:ah1 TP l ⟨[],[],d0,[],none⟩ 2000 n Q R B)(he:e=(n,FC Q R λb=>(B b).val):=by kernel_rfl)(hc:DU TP n=true:=by kernel_rfl):SC e:=Snd.of (mk0 mixed hl hc h) he
theorem kS {β δ:Type}{k:KK}{Q:RA β}{R:δ->T}{B:β->Pg δ}(hl:Hv TP k.l)(i j:List Nat)
  (h1:yJ (λa=>∀kk,LP TP (CE k.l) k.hs (tmpsOf TP k.n) kk 2000 a) (i.map (Xh TP k.n)))
  (h2:yJ (λb=>∀kk,aqZ TP (CE k.l) k.hs (tmpsOf TP k.n) kk 2000 b) (j.map (ac6 TP k.n)))
  (h:D2 k Q R B)(e1:Ja (Xi TP k.n)=i.map (Xh TP k.n):=by kernel_rfl)(e2:Jb k.hs (Xi TP k.n)=j.map (ac6 TP k.n):=by kernel_rfl)(hc:DU TP k.n=true:=by kernel_rfl):
  Sound TP k.n (FC Q R λb=>(B b).val):=mkS mixed hl hc (Jc.by e1 h1 e2 h2) h
theorem kL {D X:Type}{k:KK}{id:Nat}{Q:RS D}{E:∀{ρ:Type},X->(AX->St->Option ρ)->Option ρ}{S:D->Pg (D⊕X)}(h:LI k id Q E S)
  (h0:amW k.hs (Xh TP k.n id)=some (fH id k.kk Q E (bA S 2000)):=by kernel_rfl):∀k',LP TP (CE k.l) k.hs (tmpsOf TP k.n) k' 2000 (Xh TP k.n id):=mkL h0 h
theorem kJ {D X:Type}{k:KK}{id:Nat}{Q:RS D}{E:∀{ρ:Type},X->(AX->St->Option ρ)->Option ρ}{S:D->Pg X}(hd:Hd)(h:JI k id Q E S)
  (h0:awc k.hs (ac6 TP k.n id)=some ⟨hd,fH id k.kk Q E λd=>(S d).val⟩:=by kernel_rfl):∀k',aqZ TP (CE k.l) k.hs (tmpsOf TP k.n) k' 2000 (ac6 TP k.n id):=mkJ h0 h
theorem kN {k:KK}{c:Code}(h:amW k.hs c=none:=by kernel_rfl):∀k',LP TP (CE k.l) k.hs (tmpsOf TP k.n) k' 2000 c:=LP.no h
end
end Go.Proofs.YtldgljclcgaibaaGreat
namespace Go.Ab
variable [ax]
omit [ax] in
theorem awA:∀{h:List af} {cs:List Ch} {j:Nat},cs[j]? =some .kill->(((after h cs)[j]?).getD none)=none
 | [],cs,j,_=>by simp[after]
 |b0::bs,[],j,h=>by simp at h
 |b0::bs,c::cs,0,h=>by
  simp only[List.getElem?_cons_zero,Option.some.injEq] at h
  subst h;simp[after]
 |b0::bs,c::cs,j+1,h=>by
  have:=awA (h:=bs) (cs:=cs) (j:=j) (by simpa using h)
  cases c<;>simpa[after] using this
theorem auK {P:Program}{π:Pi}{w w':World}{h:List af}{cs:List Ch}{k:af}{val:AV}{v:Value}{B s e:Nat}(hH:pM π (hC (h.map some)) (hZ (h.map some)) w)(iT:∀b,π b≠none->b<h.length)
  (HA:∀b,b<h.length->cs[b]? =some .kU∨cs[b]? =some .kill)(hfr:bN w (AG π h.length (P4 cs)) w')(hle:s+af.size k<=e)(nW:∀i,s<=i->i<e->(cl w' B i).isSome=true∧fz w' B i=false)
  (hk:∀j,j<af.size k->∃v,cl w' B (s+j)=some v∧(af.get k j).rel π v)
  (hpl:(w.heap.size<=B)∨∃b s0 q0 e0,b<h.length∧cs[b]? =some .kill∧π b=some (B,s0,q0,e0)∧s0<=s∧e<=e0)
  (ham:xK w')(hlb:s<e->ax.h0<=B)(hv:∀π':Pi,Ext π π'->π' h.length=some (B,s,af.size k,e)->val.rel π' v):
  aEI P π w h ⟨val,cs,[k]⟩ (.returned v) w':=by
 have h0:π h.length=none:=by
  cases hh:π h.length with
  |none=>rfl
  |some p=>exact absurd (iT _ (by rw[hh];simp)) (Nat.lt_irrefl _)
 have hx:=xL h0 (B,s,af.size k,e)
 have auL:=nM π h.length (B,s,af.size k,e)
 have adC:∀b,b≠h.length->xw π h.length (B,s,af.size k,e) b=π b:=λb hb=>by simp only[xw,if_neg hb]
 have aUD:(m4.heap ⟨val,cs,[k]⟩ h)[h.length]? =some (some k):=Y2 (r:=⟨val,cs,[k]⟩) (h:=h) (k:=0) rfl
 have hlen:(m4.heap ⟨val,cs,[k]⟩ h).length=h.length+1:=by simp[m4.heap,lH]
 have live:∀b,hZ (m4.heap ⟨val,cs,[k]⟩ h) b≠none->b=h.length∨(b<h.length∧cs[b]? =some .kU∧∃kb,h[b]? =some kb∧(m4.heap ⟨val,cs,[k]⟩ h)[b]? =some (some kb)):=λb hb=>by
  rcases Nat.lt_trichotomy b h.length with lY|heq|hgt
  ·right
   rcases HA b lY with hc|hc
   ·have hkb:h[b]? =some (h[b]'lY):=List.getElem?_eq_getElem _
    exact⟨lY,hc,_,hkb,(Bk lY).trans (ady.2 hc _ hkb)⟩
   ·exfalso;apply hb
    unfold hZ
    rw[Bk lY,awA hc];rfl
  ·exact .inl heq
  ·exfalso;apply hb
   unfold hZ
   rw[List.getElem?_eq_none (by omega)];rfl
 have kept:∀b kb,b<h.length->cs[b]? =some .kU->h[b]? =some kb->∃Bb sb eb,π b=some (Bb,sb,af.size kb,eb)∧sb+af.size kb<=eb∧
   (∀i,sb<=i->i<eb->(cl w' Bb i).isSome=true∧fz w' Bb i=false)∧(∀j,j<af.size kb->∃v,cl w' Bb (sb+j)=some v∧(af.get kb j).rel π v)∧∀i,sb<=i->i<eb->Bb<w.heap.size∧¬AG π h.length (P4 cs) Bb i:=λb kb lY hc hkb=>by
  have hzb:hZ (h.map some) b=some (af.size kb):=by rw[NA,hkb];rfl
  obtain⟨Bb,sb,eb,p1,p2,p3,p4⟩:=hH.hp b _ hzb
  have hnf:∀i,sb<=i->i<eb->Bb<w.heap.size∧¬AG π h.length (P4 cs) Bb i:=λi i1 i2=>by
   refine⟨Y0 (p3 i i1 i2).1,?_⟩
   rintro ⟨b2,s2,q2,e2,CF,hd2,hp2,j1,j2⟩
   have kV:b≠b2:=λe=>by subst e;exact hd2 hc
   have hz2:hZ (h.map some) b2≠none:=by
    rw[NA,List.getElem?_eq_getElem CF];simp
   exact hH.dj b b2 Bb sb _ eb s2 q2 e2 kV (by rw[hzb];simp) hz2 p1 hp2 i i1 i2 j1 j2
  refine⟨Bb,sb,eb,p1,p2,λi i1 i2=> ?_,λj hj=> ?_,hnf⟩
  ·obtain⟨hB,hn⟩:=hnf i i1 i2
   rw[hfr.cl hB hn,hfr.fz hB];exact p3 i i1 i2
  ·obtain⟨v,hv1,hv2⟩:=p4 j hj
   obtain⟨hB,hn⟩:=hnf (sb+j) (by omega) (by omega)
   refine⟨v,by rw[hfr.cl hB hn];exact hv1,?_⟩
   rw[azN hkb hj] at hv2;exact hv2
 have apart:∀b kb Bb sb qb eb,b<h.length->cs[b]? =some .kU->h[b]? =some kb->π b=some (Bb,sb,qb,eb)->Bb=B->∀i,sb<=i->i<eb->s<=i->i<e->False:=λb kb Bb sb qb eb lY hc hkb hpb hBB i i1 i2 i3 i4=>by
  obtain⟨B1,s1,e1,q1,_,_,_,q5⟩:=kept b kb lY hc hkb
  rw[hpb] at q1;cases q1
  obtain⟨hB,hn⟩:=q5 i i1 i2
  rcases hpl with hpl| ⟨b2,s2,q2,e2,CF,hc2,hp2,j1,j2⟩
  ·omega
  ·apply hn
   rw[hBB]
   exact⟨b2,s2,q2,e2,CF,by unfold P4;rw[hc2];simp,hp2,by omega,by omega⟩
 refine⟨xw π h.length (B,s,af.size k,e),v,rfl,hx,hv _ hx auL,⟨ham,λb B1 s1 q1 e1 hz hp yI=> ?_,λb n hz=> ?_,λb b' B1 s1 q1 e1 s2 q2 e2 kV hz ru hp rH i i1 i2 i3 i4=> ?_⟩,hfr,λb hb=> ?_,λb B1 s1 q1 e1 aWz hb hB i i1 i2=> ?_⟩
 ·rcases live b hz with rfl| ⟨lY,hc,kb,hkb,_⟩
  ·rw[auL] at hp;cases hp
   exact hlb yI
  ·rw[adC b (by omega)] at hp
   exact hH.lb b B1 s1 q1 e1 (by rw[NA,hkb];simp) hp yI
 ·rcases live b (by rw[hz];simp) with rfl| ⟨lY,hc,kb,hkb,hgb⟩
  ·rw[Xw aUD] at hz;cases hz
   refine⟨B,s,e,auL,hle,nW,λj hj=> ?_⟩
   obtain⟨v,hv1,hv2⟩:=hk j hj
   refine⟨v,hv1,?_⟩
   rw[adz aUD hj];exact CV.cZ hx _ _ hv2
  ·rw[Xw hgb] at hz;cases hz
   obtain⟨Bb,sb,eb,p1,p2,p3,p4,_⟩:=kept b kb lY hc hkb
   refine⟨Bb,sb,eb,by rw[adC b (by omega)];exact p1,p2,p3,λj hj=> ?_⟩
   obtain⟨v,hv1,hv2⟩:=p4 j hj
   refine⟨v,hv1,?_⟩
   rw[adz hgb hj];exact CV.cZ hx _ _ hv2
 ·rcases live b hz with rfl| ⟨lY,hc,kb,hkb,_⟩
  ·rcases live b' ru with rfl| ⟨aUE,hc',kb',aSl,_⟩
   ·exact kV rfl
   ·rw[auL] at hp;cases hp
    rw[adC b' (by omega)] at rH
    exact apart b' kb' _ _ _ _ aUE hc' aSl rH rfl i i3 i4 i1 i2
  ·rw[adC b (by omega)] at hp
   rcases live b' ru with rfl| ⟨aUE,hc',kb',aSl,_⟩
   ·rw[auL] at rH;cases rH
    exact apart b kb _ _ _ _ lY hc hkb hp rfl i i1 i2 i3 i4
   ·rw[adC b' (by omega)] at rH
    have hz1:hZ (h.map some) b≠none:=by rw[NA,hkb];simp
    have hz2:hZ (h.map some) b'≠none:=by rw[NA,aSl];simp
    exact hH.dj b b' B1 s1 q1 e1 s2 q2 e2 kV hz1 hz2 hp rH i i1 i2 i3 i4
 ·show b<h.length+1
  by_cases e:b=h.length
  ·omega
  ·rw[adC b e] at hb
   have:=iT b hb;omega
 ·by_cases e':b=h.length
  ·subst e'
   rw[auL] at hb;cases hb
   rcases hpl with hpl| ⟨b2,s2,q2,e2,CF,hc2,hp2,j1,j2⟩
   ·omega
   ·exact⟨b2,s2,q2,e2,CF,by unfold P4;rw[hc2];simp,hp2,by omega,by omega⟩
  ·rw[adC b e'] at hb
   have:=iT b (by rw[hb];simp);omega
end Go.Ab
