/-
  Parts of the proof: AbW AbY AbZ AbNil AbPg AbLaw AbInv PI Tot TPw Bits VBits Bits4 PK SLA SLB
-/
import Derived.Test.YtldgljclcgaibaaGreatZAD
import Derived.Deep.Slices
import Derived.Laws.Externs
import Derived.Test.YtldgljclcgaibaaGreatRows
import Derived.Shelf.Spec.SlicesInsertGrow
open Nat renaming beq→ww,ble→wl
open Int renaming ofNat→wn
open Sum renaming elim→t7
set_option linter.all false
namespace Go.Ab
variable [ax]
open Go.ChangeShapes Go.WideShapes Go.Deep
inductive K where
 |b
 |i (k:IntKind)
 |s
 |u
 |q
def K.has:K->FV->Prop
 |.b,.b _=>True
 |.i k,.i k' n=>k'=k/\k.has n
 |.s,.s _=>True
 |.u,.u=>True
 |.q,.q n _=>n<=maxLen
 |_,_=>False
def K.m9:K->Nat->cQ->Prop
 |.b,_,.b _=>True
 |.i k,n,.i k' g=>k'=k/\∀j,j<n->k.has (g j)
 |.s,_,.s _=>True
 |.u,_,.u=>True
 |.q,n,.q g _=>∀j,j<n->g j<=maxLen
 |_,_,_=>False
def UE {α:Type}:Nat->List α->List α
 |0,_=>[]
 |n+1,l=>l++UE n l
def alT (P:Program)(g:TypeId->Option (List K)):List Field->List K->Option (List K)
 | [],acc=>some acc
 |f::fs,acc=>match g f.type with
  |some ks=>match ww f.offset acc.length&&ww (P.cellsOf f.type) ks.length with
   |true=>alT P g fs (acc++ks)
   |false=>none
  |none=>none
def LK (P:Program):Nat->TypeId->Option (List K)
 |0,_=>none
 |d+1,t=>match P.underlying t with
  |some .bool=>some [.b]
  |some (.int k)=>some [.i k]
  |some .string=>some [.s]
  |some (.struct fs)=>match alT P (LK P d) fs.toList [] with
   |some ks=>match ww (P.cellsOf t) ks.length with
    |true=>some ks
    |false=>none
   |none=>none
  |some (.array n e)=>match LK P d e with
   |some ks=>match ww (P.cellsOf e) ks.length&&ww (P.cellsOf t) (n*ks.length) with
    |true=>some (UE n ks)
    |false=>none
   |none=>none
  |some (.slice e)=>match P.underlying e with
   |some .bool=>match ww (P.cellsOf e) 1 with
    |true=>some [.q]
    |false=>some [.u]
   |_=>some [.u]
  |_=>none
section
variable {H:Type} {enc:TypeId×Value->H} {P:Program} {W:World} {base:Nat} {spare:Nat->Bool} {held:Bool}
theorem avn {ks ks':List K}{cs SQ:List Value}(h:∃fs,bl K.has ks fs/\bl FV.rel fs cs)(h':∃fs,bl K.has ks' fs/\bl FV.rel fs SQ):∃fs,bl K.has (ks++ks') fs/\bl FV.rel fs (cs++SQ):=by
 obtain⟨fs,a,b⟩:=h;obtain⟨fs',a',b'⟩:=h';exact⟨fs++fs',a.append a',b.append b'⟩
theorem aqI {d:Nat}(ih:∀{t:TypeId} {ks:List K} {fuel:Nat} {cs:List Value} {x:DataW H×List MemPlace},LK P d t=some ks->DataW.trod enc P W base spare held fuel t cs=some x->∃fs,bl K.has ks fs/\bl FV.rel fs cs){n:Nat}{cs:List Value}:
  ∀{l:List Field} {acc ks:List K},alT P (LK P d) l acc=some ks->(∀f∈l,∃y,DataW.trod enc P W base spare held n f.type ((cs.drop f.offset).take (P.cellsOf f.type))=some y)->acc.length<=cs.length->
   (∃fs,bl K.has acc fs/\bl FV.rel fs (cs.take acc.length))->ks.length<=cs.length/\∃fs,bl K.has ks fs/\bl FV.rel fs (cs.take ks.length)
 | [],acc,ks,h,_,hl,ha=>by
  simp only[alT] at h;cases h;exact⟨hl,ha⟩
 |f::l,acc,ks,h,hf,hl,ha=>by
  simp only[alT] at h;split at h
  .rename_i kf hk
   split at h
   .rename_i hc
    simp only[cj] at hc;have e1:=mO hc.1;have e2:=mO hc.2;obtain⟨y,hy⟩:=hf f (by simp);obtain⟨fs,f1,f2⟩:=ih hk hy
    have hlen:kf.length=min (P.cellsOf f.type) (cs.length-f.offset):=by
     have h1:=f1.length;have h2:=f2.length;simp at h2
     omega
    have hle:acc.length+kf.length<=cs.length:=by omega
    refine aqI ih h (λf' hf'=>hf f' (by simp[hf'])) (by simp;omega) ?_;have:=avn ha ⟨fs,f1,f2⟩;rw[ayg,List.take_add];rw[e1,e2] at this;exact this
   .cases h
  .cases h
omit [ax] in
theorem Vi {α:Type}(l:List α):∀n,(UE n l).length=n*l.length
 |0=>by simp[UE]
 |n+1=>by simp[UE,Vi l n,atf,Nat.add_comm]
omit [ax] in
theorem ai6 {α:Type}(l:List α):∀n,UE (n+1) l=UE n l++l
 |0=>by simp[UE]
 |n+1=>by
  have h:=ai6 l n;show l++UE (n+1) l=UE (n+1) l++l;rw[h,<-atb,<-h];rfl
theorem LL (hA:∀B i v,cl W B i=some v->ax.fs B i=some v)(hsp:∀b,spare b=true):∀{d:Nat} {t:TypeId} {ks:List K} {fuel:Nat} {cs:List Value} {x:DataW H×List MemPlace},LK P d t=some ks->DataW.trod enc P W base spare held fuel t cs=some x->∃fs,bl K.has ks fs/\bl FV.rel fs cs
 |0,_,_,_,_,_,h,_=>by cases h
 |d+1,t,ks,fuel,cs,x,h,hx=>by
  simp only[LK] at h;split at h
  .rename_i hu
   cases h;obtain⟨b,rfl,_⟩:=DataW.trod_bool hu hx;exact⟨[.b b],⟨trivial,trivial⟩,rfl,trivial⟩
  .rename_i k hu
   cases h;obtain⟨n,rfl,_,hw⟩:=DataW.trod_int hu hx;refine⟨[.i k n],⟨⟨rfl,?_⟩,trivial⟩,rfl,trivial⟩;simp only[Lit.wf,cj,ke] at hw;exact hw
  .rename_i hu
   cases h;obtain⟨s,rfl,_⟩:=DataW.trod_string hu hx;exact⟨[.s s],⟨trivial,trivial⟩,rfl,trivial⟩
  .rename_i fs hu
   split at h
   .rename_i ks' hks
    split at h
    .rename_i hc
     cases h;have hc:=mO hc;obtain⟨xs,n,_,_,hl,_,hf⟩:=DataW.trod_struct hu hx
     obtain⟨_,r⟩:=aqI (λh h'=>LL hA hsp h h') hks (n:=n) (cs:=cs) (λf hf'=>by
      obtain⟨i,hi⟩:=List.getElem?_of_mem hf';have:=hf i f (by rw[<-Wc];exact hi)
      have hi':i<xs.length:=by
       have h1:=(ld.1 hi).1;simp at h1;omega
      rw[j7 hi'] at this;exact⟨_,this⟩) (Nat.zero_le _) ⟨[],trivial,by simp;trivial⟩
     rw[<-hc,<-hl,List.take_length] at r;exact r
    .cases h
   .cases h
  .rename_i n e hu
   split at h
   .rename_i ks' hks
    split at h
    .rename_i hc
     cases h;simp only[cj] at hc;have e1:=mO hc.1;have e2:=mO hc.2;obtain⟨xs,m,_,_,hl,hn,hf⟩:=DataW.trod_array hu hx
     have key:∀j,j<=n->∃fs,bl K.has (UE j ks') fs/\bl FV.rel fs (cs.take (j*ks'.length)):=by
      intro j;induction j with
      |zero=>intro _;exact⟨[],trivial,by simp;trivial⟩
      |succ j ihj=>
       intro hj;have hj':j<xs.length:=by omega
       have:=hf j (by omega);rw[j7 hj'] at this;rw[ai6,atf,List.take_add];have h2:=LL hA hsp hks this;rw[e1] at h2;exact avn (ihj (by omega)) h2
     have:=key n (cW _);rw[<-e2,<-hl,List.take_length] at this;exact this
    .cases h
   .cases h
  .rename_i e hu
   have un:∃fs,bl K.has [.u] fs/\bl FV.rel fs cs:=by
    rcases open_slice hu hx with⟨rfl,_⟩| ⟨a',aTl,a07,m,n,D,Pl,rfl,_⟩
    .exact⟨[.u],⟨trivial,trivial⟩,rfl,trivial⟩
    .exact⟨[.u],⟨trivial,trivial⟩,rfl,trivial⟩
   split at h
   .rename_i hb
    split at h
    .rename_i hc
     cases h;have hc:=mO hc;rcases open_slice1 hu hc hx with⟨rfl,_⟩| ⟨a',aTl,a07,m,n,V,D,Pl,rfl,_,hle,a08,hm,_,hi⟩
     .exact⟨[.q 0 λ_=>false],⟨Nat.zero_le _,trivial⟩,.inl ⟨rfl,none,rfl⟩,trivial⟩
     .rw[hsp,if_pos rfl] at hm;subst hm;obtain⟨B,s,sp⟩:=a';refine⟨[.q aTl λj=>match V j with|.bool b=>b|_=>false],⟨dw hle a08,trivial⟩,?_,trivial⟩;rcases abY m with z|z
      .subst z;have:aTl=0:=by omega
       subst this;exact .inl ⟨rfl,_,rfl⟩
      .have h0:=(hi 0 z).1
       have hs:sp=none:=by
        have e0:Addr.add ⟨B,s,sp⟩ 0=⟨B,s,sp⟩:=rfl;rw[e0] at h0;unfold World.cell? at h0;simp only at h0;split at h0
        .cases sp with
         |none=>rfl
         |some q=>simp at h0
        .cases h0
       subst hs;refine .inr ⟨B,s,m,hle,rfl,λj hj=> ?_⟩;obtain⟨h1,h2⟩:=hi j (by omega);obtain⟨b,DY,_⟩:=DataW.trod_bool hb h2;have hV:V j=.bool b:=by simpa using DY
       rw[mI,hV] at h1;rw[hA B (s+j) (.bool b) h1];simp only[hV]
    .cases h;exact un
   .cases h;exact un
  .cases h
theorem aRF {ks:List K}{fs:List FV}{cs:List Value}(h1:bl K.has ks fs)(h2:bl FV.rel fs cs){j:Nat}{k:K}(hk:ks[j]? =some k):∃f v,cs[j]? =some v/\k.has f/\f.rel v:=by
 obtain⟨f,hf,r1⟩:=h1.get hk;obtain⟨v,hv,r2⟩:=h2.get hf;exact⟨f,v,hv,r1,r2⟩
def FV.toN:FV->Nat
 |.q n _=>n
 |_=>0
def FV.toG:FV->Nat->Bool
 |.q _ g=>g
 |_=>λ_=>false
def K.mk:K->(Nat->FV)->cQ
 |.b,f=>.b λj=>(f j).toB
 |.i k,f=>.i k λj=>(f j).toI
 |.s,f=>.s λj=>(f j).toS
 |.u,_=>.u
 |.q,f=>.q (λj=>(f j).toN) λj=>(f j).toG
omit [ax] in
theorem K.aYf {k:K}{f:Nat->FV}{j:Nat}(h:k.has (f j)):(k.mk f).at j=f j:=by
 cases k<;>simp only[K.mk,cQ.at]<;>revert h<;>cases f j<;>intro h<;>first|exact h.elim|rfl|skip
 rw[h.1];rfl
omit [ax] in
theorem K.aKY {k:K}{f:Nat->FV}{n:Nat}(h:∀j,j<n->k.has (f j)):k.m9 n (k.mk f):=by
 cases k<;>simp only[K.mk,K.m9]
 .refine⟨trivial,λj hj=> ?_⟩;have:=h j hj;revert this
  cases f j<;>intro h<;>first|exact h.elim|skip
  exact h.2
 .intro j hj;have:=h j hj;revert this
  cases f j<;>intro h<;>first|exact h.elim|skip
  exact h
inductive PT where
 |c (k:K)
 |a (n:Nat) (ks:List K)
def ayF:List PT->List K
 | []=>[]
 |.c k::l=>k::ayF l
 |.a n ks::l=>UE n ks++ayF l
def K.beq:K->K->Bool
 |.b,.b=>true
 |.i k,.i k'=>decide (k=k')
 |.s,.s=>true
 |.u,.u=>true
 |.q,.q=>true
 |_,_=>false
omit [ax] in
theorem K.beq_eq {x y:K}(h:x.beq y=true):x=y:=by
 cases x<;>cases y<;>simp only[K.beq] at h<;>first|rfl|cases h|skip
 rw[dq h]
def aTm:List K->List K->Bool
 | [],[]=>true
 |x::l,y::m=>x.beq y&&aTm l m
 |_,_=>false
omit [ax] in
theorem aNL:∀{l m:List K},aTm l m=true->l=m
 | [],[],_=>rfl
 |x::l,y::m,h=>by
  simp only[aTm,cj] at h;rw[K.beq_eq h.1,aNL h.2]
 | [],_::_,h=>by cases h
 |_::_,[],h=>by cases h
def aKZ:List Tm->List K->List PT
 | [],_=>[]
 |.c::l,k::ks=>.c k::aKZ l ks
 |.c::_,[]=>[]
 |.a n z::l,ks=>.a n (ks.take z)::aKZ l (ks.drop (n*z))
inductive Prm where
 |flat (agg:Bool) (pt:List PT)
 |sl (ks:List K)
inductive DC where
 |c (f:FV)
 |a (cols:List cQ)
inductive Dat where
 |flat (l:List DC)
 |sl (n:Nat) (cols:List cQ)
def aAt:PT->DC->Prop
 |.c k,.c f=>k.has f
 |.a n ks,.a cols=>bl (λk c=>K.m9 k n c) ks cols
 |_,_=>False
def Fit:Prm->Dat->Prop
 |.flat _ pt,.flat l=>bl aAt pt l
 |.sl ks,.sl n cols=>n<=maxLen/\bl (λk c=>K.m9 k n c) ks cols
 |_,_=>False
def sgs:List PT->List DC->af
 |.c _::pt,.c f::l=>.c (.f f)::sgs pt l
 |.a n _::pt,.a cols::l=>.a (.l n) cols::sgs pt l
 |_,_=>[]
def aYg:Bool->af->AV
 |true,b=>.r (.agg b)
 |false,.c v::_=>.r (.c v)
 |false,_=>.Wh
def aK0:List Prm->List Dat->List AV
 |.flat a pt::ps,.flat l::ds=>aYg a (sgs pt l)::aK0 ps ds
 |.sl ks::ps,.sl n cols::ds=>.r (.c (.fs n ks.length cols))::aK0 ps ds
 |_,_=>[]
def aFq (ps:List Prm)(ds:List Dat):Prop:=bl Fit ps ds
def aNM (P:Program)(t:TypeId):Option Prm:=
 match P.underlying t with
 |some (.slice e)=>match LK P 30 e with
  |some ks=>match ww (P.cellsOf e) ks.length&&wl 1 ks.length with
   |true=>some (.sl ks)
   |false=>none
  |none=>none
 |_=>match aei P t,LK P 30 t with
  |some true,some ks=>match aTm (ayF (aKZ (alA P 30 t) ks)) ks with
   |true=>some (.flat true (aKZ (alA P 30 t) ks))
   |false=>none
  |some false,some [k]=>some (.flat false [.c k])
  |_,_=>none
def aK1 (P:Program):List TypeId->Option (List Prm)
 | []=>some []
 |t::ts=>match aNM P t,aK1 P ts with
  |some p,some ps=>some (p::ps)
  |_,_=>none
theorem aUp {n:Nat}{ks:List K}{fs:List FV}{cs:List Value}(h1:bl K.has (UE n ks) fs)(h2:bl FV.rel fs cs):
  ∃cols,bl (λk c=>K.m9 k n c) ks cols/\∀j,j<n*ks.length->∃v,cs[j]? =some v/\(iI cols j).rel (λ_=>none) v:=by
 have hl:=h1.length;rw[Vi] at hl
 have alK:∀i j k,i<n->ks[j]? =some k->∃f,fs[i*ks.length+j]? =some f/\k.has f:=λi j k hi hj=>by
  have hjl:=(ld.1 hj).1
  have key:∀m i,i<m->(UE m ks)[i*ks.length+j]? =some k:=by
   intro m;induction m with
   |zero=>intro i hi;omega
   |succ m ih=>
    intro i hi;rw[UE];cases i with
    |zero=>rw[SP,eX,UC hjl];exact hj
    |succ i=>
     rw[aeg (by rw[atf];omega),show(i+1)*ks.length+j-ks.length=i*ks.length+j by rw[atf];omega];exact ih i (by omega)
  obtain⟨f,hf,hh⟩:=h1.get (key n i hi);exact⟨f,hf,hh⟩
 refine⟨ks.zipIdx.map λp=>p.1.mk λi=>fs.getD (i*ks.length+p.2) .u,?_,λj hj=> ?_⟩
 .refine bl.agD (by simp) λj k c hk hc=> ?_;simp only[Af,aEu,hk,Lt,gS] at hc;subst hc;refine K.aKY λi hi=> ?_;obtain⟨f,hf,hh⟩:=alK i j k hi hk;simp only[eX,List.getD,hf,Lq];exact hh
 .have aEK:0<ks.length:=by
   rcases abY ks.length with h|h
   .rw[h] at hj;omega
   .exact h
  have hm:=Nat.mod_lt j aEK;have hq:j/ks.length<n:=(aye aEK).2 hj;have hk:ks[j%ks.length]? =some (ks[j%ks.length]'hm):=j7 _;obtain⟨f,hf,hh⟩:=alK (j/ks.length) (j%ks.length) _ hq hk;have hd:=Ve j ks.length;rw[hd] at hf;obtain⟨v,hv,hr⟩:=h2.get hf;refine⟨v,hv,?_⟩;unfold iI;simp only[yX,List.length_zipIdx,Af,aEu,hk,Lt,eX];have e:fs.getD (j/ks.length*ks.length+j%ks.length) .u=f:=by rw[hd];simp[List.getD,hf]
  rw[K.aYf (f:=λi=>fs.getD (i*ks.length+j%ks.length) .u) (j:=j/ks.length) (by rw[e];exact hh)];show FV.rel _ v;rw[e];exact hr
omit [ax] in
theorem aAu {α β:Type}{R:α->β->Prop}:∀{l l':List α} {m:List β},bl R (l++l') m->bl R l (m.take l.length)/\bl R l' (m.drop l.length)
 | [],l',m,h=>⟨by simp;trivial,by simpa using h⟩
 |a::l,l',[],h=>h.elim
 |a::l,l',b::m,h=>by
  obtain⟨h1,h2⟩:=h;have:=aAu (l:=l) (l':=l') (m:=m) h2;exact⟨⟨h1,this.1⟩,this.2⟩
theorem a14 {π π':Pi}{c:CV}{v:Value}(hc:∃x,c=.f x)(h:c.rel π v):c.rel π' v:=by
 obtain⟨x,rfl⟩:=hc;exact h
theorem ayG:∀{pt:List PT} {fs:List FV} {cs:List Value},bl K.has (ayF pt) fs->bl FV.rel fs cs->∃l,bl aAt pt l/\∀π,bl (CV.rel π) (af.list (sgs pt l)) cs
 | [],[],[],_,_=>⟨[],trivial,λ_=>trivial⟩
 | [],_::_,_,h,_=>h.elim
 | [],[],_::_,_,h=>h.elim
 |.c k::pt,[],_,h,_=>h.elim
 |.c k::pt,f::fs,[],_,h=>h.elim
 |.c k::pt,f::fs,v::cs,h1,h2=>by
  obtain⟨l,a,b⟩:=ayG h1.2 h2.2;refine⟨.c f::l,⟨h1.1,a⟩,λπ=> ?_⟩;rw[sgs,aEW];exact⟨h2.1,b π⟩
 |.a n ks::pt,fs,cs,h1,h2=>by
  obtain⟨p1,p2⟩:=aAu (l:=UE n ks) (l':=ayF pt) h1;rw[Vi] at p1 p2;have h3:=h2.take (n*ks.length);have h4:=h2.drop (n*ks.length);obtain⟨cols,c1,c2⟩:=aUp p1 h3;obtain⟨l,a,b⟩:=ayG p2 h4;have DX:=c1.length;have hlen:=h1.length;rw[ayF,ayg,Vi] at hlen;have a5D:=h2.length;refine⟨.a cols::l,⟨c1,a⟩,λπ=> ?_⟩;rw[sgs];obtain⟨l1,l2⟩:=iY (b π);rw[atc] at l1;refine xq ?_ λj hj=> ?_
  .rw[af.size_cons,Sg.kT,Sz.val,<-DX];omega
  .rw[af.size_cons] at hj;have hs:(Sg.a (.l n) cols).size=n*ks.length:=by rw[Sg.kT,Sz.val,<-DX]
   by_cases lg:j<n*ks.length
   .obtain⟨v,hv,hr⟩:=c2 j lg;rw[Wf,if_pos lg] at hv;refine⟨v,hv,?_⟩;rw[af.dJ (by rw[hs];exact lg),Sg.oL];exact a14 (aDS cols j) hr
   .obtain⟨v,hv,hr⟩:=l2 (j-n*ks.length) (by rw[hs] at hj;omega);rw[Lp,show n*ks.length+(j-n*ks.length)=j by omega] at hv;refine⟨v,hv,?_⟩;rw[af.kj (by rw[hs];omega),hs];exact hr
theorem aNN (hA:∀B i v,cl W B i=some v->ax.fs B i=some v){t e:TypeId}{ks:List K}(hu:P.underlying t=some (.slice e))(hk:LK P 30 e=some ks)(hc:P.cellsOf e=ks.length)(h1k:1<=ks.length){v:Value}{d:DataW H}{ps:List MemPlace}
  (h:DataW.Trod enc P W 0 (λ_=>true) true t v d ps)(hv:Value.okWide P W .any base t v):
  ∃n cols,Fit (.sl ks) (.sl n cols)/\∀π:Pi,(AV.r (.c (.fs n ks.length cols))).rel π v:=by
 obtain⟨fuel,h⟩:=h;obtain⟨a,len,cap,rfl⟩:=okWide_slice hu hv
 have zero:∃cols,bl (λk c=>K.m9 k 0 c) ks cols:=⟨ks.map λk=>k.mk λ_=>.u,bl.agD (by simp) λi k c hk hc=>by
  simp only[Af,hk,Lt,gS] at hc;subst hc;exact K.aKY λj hj=>by omega⟩
 rcases open_slice hu h with⟨h0,_⟩| ⟨a',aTl,a07,m,n,D,Pl,h0,_,hle,a08,hm,hx,hi⟩
 .simp[Value.cells] at h0
  obtain⟨rfl,rfl,rfl⟩:=h0;obtain⟨cols,aYh⟩:=zero;exact⟨0,cols,⟨Nat.zero_le _,aYh⟩,λπ=>⟨aYh.length.symm,.inl ⟨rfl,none,rfl⟩⟩⟩
 .simp[Value.cells] at h0
  obtain⟨rfl,rfl,rfl⟩:=h0
  have aYi:a'.spot=none:=by
   have hv:Cell.okWide P W .any base t (.slice (some a') len cap):=by
    unfold Value.okWide at hv;rw[hu] at hv;exact hv
   have hv:Cell.ok P W .any base t (.slice (some a') len cap):=by
    unfold Cell.okWide at hv;rw[hu] at hv;exact hv
   unfold Cell.ok at hv;rw[hu] at hv;exact hv.2.2.2.1
  obtain⟨B,s,sp⟩:=a';simp only at aYi;subst aYi;simp only[kR] at hm;subst hm;have hw:ks.length=P.cellsOf e:=hc.symm
  have cell:∀i j k,i<len->ks[j]? =some k->∃f v,cl W B (s+(i*ks.length+j))=some v/\k.has f/\f.rel v:=λi j k hil hj=>by
   obtain⟨SQ,h1,h2⟩:=hi i (by omega);obtain⟨fs,f1,f2⟩:=LL hA (λ_=>rfl) hk h2;obtain⟨f,v,e1,e2,e3⟩:=aRF f1 f2 hj;obtain⟨_,_,h3⟩:=World.cells?_some h1;have hjl:=(ld.1 hj).1;have:=h3 j (by omega);rw[mI,mI,e1] at this;exact⟨f,v,by unfold cl;rw[hw,<-Bw];exact this,e2,e3⟩
  have hdiv:∀j,j<len*ks.length->j/ks.length<len/\j%ks.length<ks.length/\j/ks.length*ks.length+j%ks.length=j:=λj hj=>by
   refine⟨(aye (by omega)).2 hj,Nat.mod_lt _ (by omega),Ve _ _⟩
  have pick:∀j,∃f,j<len*ks.length->∃v k,cl W B (s+j)=some v/\ks[j%ks.length]? =some k/\k.has f/\f.rel v:=λj=>by
   rcases ns j (len*ks.length) with hj|hj
   .obtain⟨d1,d2,d3⟩:=hdiv j hj;have hkj:ks[j%ks.length]? =some (ks[j%ks.length]'d2):=j7 _;obtain⟨f,v,e1,e2,e3⟩:=cell _ _ _ d1 hkj;rw[d3] at e1;exact⟨f,λ_=>⟨v,_,e1,hkj,e2,e3⟩⟩
   .exact⟨.u,λh=>by omega⟩
  obtain⟨g,hg⟩:=Classical.axiomOfChoice pick
  have hgk:∀(i j:Nat) (k:K),i<len->ks[j]? =some k->k.has (g (i*ks.length+j)):=λi j k hil hj=>by
   have hjl:=(ld.1 hj).1
   have mH:i*ks.length+j<len*ks.length:=by
    have:=vL ks.length (show i+1<=len from hil);rw[atf] at this;omega
   obtain⟨v,k',_,h2,h3,_⟩:=hg _ mH;rw[ab1,atd,alv hjl,hj] at h2;cases h2;exact h3
  refine⟨len,ks.zipIdx.map λp=>p.1.mk λi=>g (i*ks.length+p.2),⟨by omega,bl.agD (by simp) λj k c Li hc'=> ?_⟩,λπ=>⟨by simp,.inr ⟨B,s,m,hle,rfl,λj hj=> ?_⟩⟩⟩
  .simp only[Af,aEu,Li,Lt,gS] at hc';subst hc';exact K.aKY λi hi=>by simpa using hgk i j k hi Li
  .obtain⟨d1,d2,d3⟩:=hdiv j hj;obtain⟨v,k',h1,Li,hh,h2⟩:=hg j hj;refine⟨g j,v,?_,hA _ _ _ h1,h2⟩;unfold iI;simp only[yX,List.length_zipIdx,Af,aEu,Li,Lt,eX];rw[K.aYf (f:=λi=>g (i*ks.length+j%ks.length)) (j:=j/ks.length) (by rw[d3];exact hh)];show CV.f (g (j/ks.length*ks.length+j%ks.length))=_;rw[d3]
theorem aRG (hA:∀B i v,cl W B i=some v->ax.fs B i=some v){t:TypeId}{ag:Bool}{pt:List PT}(hns:∀e,P.underlying t≠some (.slice e))(hp:aNM P t=some (.flat ag pt)){v:Value}{d:DataW H}{ps:List MemPlace}
  (h:DataW.Trod enc P W 0 (λ_=>true) true t v d ps)(hv:Value.okWide P W .any base t v):∃l,Fit (.flat ag pt) (.flat l)/\∀π,(aYg ag (sgs pt l)).rel π v:=by
 obtain⟨fuel,h⟩:=h;unfold aNM at hp;split at hp
 .rename_i e hu;exact absurd hu (hns e)
 .split at hp
  .rename_i ks ha hk
   split at hp
   .rename_i heq
    cases hp;have heq:=aNL heq;obtain⟨fs,f1,f2⟩:=LL hA (λ_=>rfl) hk h;rw[<-heq] at f1;obtain⟨l,l1,l2⟩:=ayG f1 f2
    have aTh:∃cs,v=.agg cs:=by
     unfold Value.okWide at hv;unfold aei at ha;split at ha
     .rename_i hu;rw[hu] at hv;obtain⟨cs,h,_⟩:=hv;exact⟨cs,h⟩
     .rename_i hu;rw[hu] at hv;obtain⟨cs,h,_⟩:=hv;exact⟨cs,h⟩
     .cases ha
     .cases ha
    obtain⟨cs,rfl⟩:=aTh;exact⟨l,l1,λπ=>⟨cs,rfl,l2 π⟩⟩
   .cases hp
  .rename_i k ha hk
   cases hp;obtain⟨fs,f1,f2⟩:=LL hA (λ_=>rfl) hk h
   have aNx:v.cells.toList=[v]∨∃cs,v=.agg cs:=by
    cases v<;>first|exact .inl rfl|exact .inr ⟨_,rfl⟩
   have aNx:v.cells.toList=[v]:=by
    rcases aNx with h| ⟨cs,rfl⟩
    .exact h
    .exfalso
     have hc:Cell.okWide P W .any base t (.agg cs):=by
      unfold Value.okWide at hv;unfold aei at ha;split at ha<;>first|(cases ha;done)|skip
      rename_i u hu1 hu2 hu
      rw[hu] at hv;split at hv
      .rename_i hh;cases hh;exact absurd rfl (hu1 _)
      .rename_i hh;cases hh;exact absurd rfl (hu2 _ _)
      .exact hv
     unfold Cell.okWide at hc;revert hc
     have hkk:P.underlying t=some .bool∨(∃k,P.underlying t=some (.int k))∨P.underlying t=some .string:=by
      unfold aei at ha;unfold LK at hk;split at hk
      .rename_i hu;exact .inl hu
      .rename_i k hu;exact .inr (.inl ⟨k,hu⟩)
      .rename_i hu;exact .inr (.inr hu)
      .rename_i hu;rw[hu] at ha;cases ha
      .rename_i hu;rw[hu] at ha;cases ha
      .rename_i hu;exact absurd hu (hns _)
      .cases hk
     rcases hkk with hu| ⟨k,hu⟩|hu<;>rw[hu]<;>intro hc<;>simp only[Cell.ok,hu] at hc
   rw[aNx] at f2;match fs,f1,f2 with
   | [f],⟨f1,_⟩,⟨f2,_⟩=>exact⟨[.c f],⟨f1,trivial⟩,λπ=>f2⟩
  .cases hp
theorem aFr (hA:∀B i v,cl W B i=some v->ax.fs B i=some v):∀{ts:List TypeId} {pr:List Prm} {vs:List Value} {dd:List (DataW H)} {ps:List MemPlace},aK1 P ts=some pr->(∀(j:Nat) t v,ts[j]? =some t->vs[j]? =some v->Value.okWide P W .any base t v)->
  DataW.TrodAll enc P W 0 (λ_=>true) true ts vs dd ps->∃ds,aFq pr ds/\∀π,bl (AV.rel π) (aK0 pr ds) vs
 | [],pr,vs,dd,ps,hp,_,h=>by
  cases hp;obtain⟨rfl,rfl,rfl⟩:=trodAll_nil h;exact⟨[],trivial,λ_=>trivial⟩
 |t::ts,pr,vs,dd,ps,hp,hv,h=>by
  obtain⟨v,vs1,d,ds1,p1,p2,rfl,rfl,rfl,h3,h4⟩:=trodAll_cons h;simp only[aK1] at hp;split at hp
  .rename_i p pr' Hw hp2
   cases hp;have hv0:=hv 0 t v rfl rfl;obtain⟨ds,f1,g1⟩:=aFr hA hp2 (λj t v hj hv'=>hv (j+1) t v (by simpa using hj) (by simpa using hv')) h4;cases p with
   |flat ag pt=>
    have hns:∀e,P.underlying t≠some (.slice e):=λe hu=>by
     unfold aNM at Hw;rw[hu] at Hw;simp only at Hw;split at Hw
     .split at Hw<;>cases Hw
     .cases Hw
    obtain⟨l,l1,l2⟩:=aRG hA hns Hw h3 hv0;exact⟨.flat l::ds,⟨l1,f1⟩,λπ=>⟨l2 π,g1 π⟩⟩
   |sl ks=>
    obtain⟨e,hu,hk,hc,h1k⟩:∃e,P.underlying t=some (.slice e)/\LK P 30 e=some ks/\P.cellsOf e=ks.length/\1<=ks.length:=by
     unfold aNM at Hw;split at Hw
     .rename_i e hu
      split at Hw
      .rename_i ks' hk
       split at Hw
       .rename_i hc
        cases Hw;simp only[cj,beq_iff,fa] at hc;exact⟨e,hu,hk,hc.1,hc.2⟩
       .cases Hw
      .cases Hw
     .split at Hw
      .split at Hw<;>cases Hw
      .cases Hw
      .cases Hw
    obtain⟨n,cols,q1,q2⟩:=aNN hA hu hk hc h1k h3 hv0;exact⟨.sl n cols::ds,⟨q1,f1⟩,λπ=>⟨q2 π,g1 π⟩⟩
  .cases hp
def aYj (F:EY)(ps:List Prm):Prop:=∀ds,aFq ps ds->∃news,(F (aK0 ps ds) []).eval=some ⟨.r (.c (.f (.b true))),[],news⟩
abbrev aRH (W:World):ax:=⟨W.heap.size,λB i=>cl W B i⟩
omit [ax] in
theorem aUq (W:World): @Ak (aRH W) W:=by
 letI:=aRH W
 refine⟨cW _,λB i hB=> ?_,λB i v h=>⟨ab5 (by rw[show cl W B i=some v from h];rfl),h⟩⟩;have hB:W.heap.size<=B:=hB;simp only[fz,World.frozen?,ata hB]
end
section
variable {H:Type} {enc:TypeId×Value->H} {P:Program} {W:World} {base:Nat}
omit [ax] in
theorem aRI {f:FuncId}{F:EY}(S:∀[ax],Sound P f F)(hc:Gr P f=true){ts:List TypeId}{pr:List Prm}(hp:aK1 P ts=some pr)(hF:aYj F pr){args:Array Value}{dd:List (DataW H)}{ps:List MemPlace}
  (aFe:∀(j:Nat) t v,ts[j]? =some t->args[j]? =some v->Value.okWide P W .any base t v)(ht:DataW.TrodAll enc P W 0 (λ_=>true) true ts args.toList dd ps):
  Calls P f args W λe W'=>e=.returned (.bool true)/\ck W (λ_ _=>False) W':=by
 letI:=aRH W
 obtain⟨ds,f1,g1⟩:=aFr (λB i v h=>h) hp (λj t v hj hv=>aFe j t v hj (by simpa using hv)) ht;obtain⟨news,hr⟩:=hF ds f1
 have hH:r9 (λ_=>none) (hC (([]:List af).map some)) (hZ (([]:List af).map some)) W:=
  ⟨aUq W,λb B s q e hz=>by simp[hZ] at hz,λb n hn=>by simp[hZ] at hn,λb b' B s q e s' q' e' _ hz=>by simp[hZ] at hz⟩
 have hS:=S _ _ _ hr W (λ_=>none) args (g1 _) hH (λb hb=>absurd rfl hb)
 have hS:Calls P f args W (tg (λ_=>none) W [] ⟨.r (.c (.f (.b true))),[],news⟩):=by
  rcases hS with h| ⟨v,h,_⟩
  .exact h.2
  .rw[Ic hc] at h;cases h
 refine Calls.mono hS ?_;rintro e w' ⟨π',v,rfl,_,hv,_,hF',_,_⟩
 refine⟨c8 Ending.returned hv,hF'.mono λB i _ h=> ?_⟩;obtain⟨b,s,q,e,hb,_⟩:=h;cases hb
end
end Go.Ab
namespace Go.Ab
variable [ax]
def aAv:Array Value->Sem Value:=λargs=>do
 let(x,y,b)<-Extern.MathBitsCarry.three "Sub64" args
 pure (Extern.MathBitsCarry.pair ((x+Extern.MathBitsCarry.m64-y-b)%Extern.MathBitsCarry.m64) (if x<y+b then 1 else 0))
abbrev aJh (n:Int):RV:=.c (.f (.i .u64 n))
omit [ax] in
theorem aNO {P:Program}(x y c:Int)(h:c.toNat<=1)(w:World):(add64Entry #[.int .u64 x,.int .u64 y,.int .u64 c]).run P w=
  .ok (.tuple #[.int .u64 (wn ((x.toNat+y.toNat+c.toNat)%18446744073709551616)),.int .u64 (wn ((x.toNat+y.toNat+c.toNat)/18446744073709551616))]) w:=by
 match c,h with
 |.ofNat 0,_=>rfl
 |.ofNat 1,_=>rfl
 |.negSucc n,_=>rfl
 |.ofNat (n+2),h=>exact absurd h (by simp;omega)
omit [ax] in
theorem aNP {P:Program}(x y c:Int)(h:c.toNat<=1)(w:World):(aAv #[.int .u64 x,.int .u64 y,.int .u64 c]).run P w=
  .ok (.tuple #[.int .u64 (wn ((x.toNat+18446744073709551616-y.toNat-c.toNat)%18446744073709551616)),.int .u64 (wn (if x.toNat<y.toNat+c.toNat then 1 else 0))]) w:=by
 match c,h with
 |.ofNat 0,_=>rfl
 |.ofNat 1,_=>rfl
 |.negSucc n,_=>rfl
 |.ofNat (n+2),h=>exact absurd h (by simp;omega)
theorem aAw {P:Program}{f:FuncId}{fn:Func}{e:Array Value->Sem Value}{A B:Int->Int->Int->Int}(hf:P.funcs[f]? =some fn)(aFs:(fn.name=="runtime.NumGoroutine")=false)
  (hb:fn.body.isNone=true)(hn:Extern.findNext fn=none)(he:Extern.find fn=some e)
  (nq:∀(x y c:Int) (w:World),c.toNat<=1->(e #[.int .u64 x,.int .u64 y,.int .u64 c]).run P w=.ok (.tuple #[.int .u64 (A x y c),.int .u64 (B x y c)]) w):
  Sound P f λ
   | [.r (.c (.f (.i .u64 x))),.r (.c (.f (.i .u64 y))),.r (.c (.f (.i .u64 c)))],[]=>.test (wl c.toNat 1) (.leaf ⟨.tup [aJh (A x y c),aJh (B x y c)],[],[]⟩) .fail
   |_,_=>.fail:=by
 intro args h res th w π vs kI hH jK;simp only at th;split at th
 .rename_i x y c
  simp only[T.eval] at th;split at th
  .rename_i hc
   cases th;right
   obtain⟨l⟩:=vs;match l,kI with
   | [v1,v2,v3],⟨h1,h2,h3,_⟩=>
    have h1:v1=.int .u64 x:=h1;have h2:v2=.int .u64 y:=h2;have h3:v3=.int .u64 c:=h3;subst h1 h2 h3;refine⟨_,by rw[run_callFunc_extern hf aFs hb hn he,nq x y c w (JK hc)];rfl,π,_,rfl,Ext.refl π,⟨#[_,_],rfl,rfl,rfl,trivial⟩,hH,ck.refl _ _,jK,λb B s q e hb hp=> ?_⟩;exact absurd (jK b (by rw[hp];simp)) (by omega)
  .cases th
 .cases th
abbrev aYk (x y c:Int):Int:=wn ((x.toNat+y.toNat+c.toNat)%18446744073709551616)
abbrev aYl (x y c:Int):Int:=wn ((x.toNat+y.toNat+c.toNat)/18446744073709551616)
abbrev aYm (x y c:Int):Int:=wn ((x.toNat+18446744073709551616-y.toNat-c.toNat)%18446744073709551616)
abbrev aYn (x y c:Int):Int:=wn (if x.toNat<y.toNat+c.toNat then 1 else 0)
def aDV (A B:Int->Int->Int->Int):EY
 | [.r (.c (.f (.i .u64 x))),.r (.c (.f (.i .u64 y))),.r (.c (.f (.i .u64 c)))],[]=>.test (wl c.toNat 1) (.leaf ⟨.tup [aJh (A x y c),aJh (B x y c)],[],[]⟩) .fail
 |_,_=>.fail
theorem aK2 {P:Program}{f:FuncId}{fn:Func}(hf:P.funcs[f]? =some fn)(aFs:(fn.name=="runtime.NumGoroutine")=false)
  (hb:fn.body.isNone=true)(hn:Extern.findNext fn=none)(he:Extern.find fn=some add64Entry):Sound P f (aDV aYk aYl):=
 aAw hf aFs hb hn he λx y c w h=>aNO x y c h w
theorem aK3 {P:Program}{f:FuncId}{fn:Func}(hf:P.funcs[f]? =some fn)(aFs:(fn.name=="runtime.NumGoroutine")=false)
  (hb:fn.body.isNone=true)(hn:Extern.findNext fn=none)(he:Extern.find fn=some aAv):Sound P f (aDV aYm aYn):=
 aAw hf aFs hb hn he λx y c w h=>aNP x y c h w
end Go.Ab
namespace Go.Ab
theorem aUr {D:Type}(x:Option D)(g:D->oO):(T.opt x λd=>.leaf (g d)).eval=x.map g:=by cases x<;>rfl
abbrev C3:=Int->Int->Int->Option (Int×Int)
def aep (f:C3):EY:=λargs h=>match args,h with
 | [.r (.c (.f (.i .u64 x))),.r (.c (.f (.i .u64 y))),.r (.c (.f (.i .u64 c)))],[]=>.opt (f x y c) λd=>.leaf ⟨.tup [aJh d.1,aJh d.2],[],[]⟩
 |_,_=>.fail
def CX:C3:=λx y c=>cond (wl c.toNat 1) (some (aYk x y c,aYl x y c)) none
def aeq:C3:=λx y c=>cond (wl c.toNat 1) (some (aYm x y c,aYn x y c)) none
theorem aJi [ax]{P:Program}{f:FuncId}{A B:Int->Int->Int->Int}(S:Sound P f (aDV A B)):Sound P f (aep λx y c=>cond (wl c.toNat 1) (some (A x y c,B x y c)) none):=
 S.weaken λargs h r hr=>by
  unfold aep at hr;split at hr
  .rename_i x y c
   rw[aUr] at hr;simp only at hr;refine⟨r,?_,.refl _ _⟩;unfold aDV;simp only[T.eval];cases hc:wl c.toNat 1<;>rw[hc] at hr<;>first|(cases hr;done)|exact hr
  .cases hr
theorem atu {D:Type}(x:Option D)(g:D->T):(T.opt x g).eval=x.bind λd=>(g d).eval:=by cases x<;>rfl
theorem aUs {α β:Type}(q:α->Option β)(b:Bool)(x y:Option α):(cond b x y).bind q=cond b (x.bind q) (y.bind q):=by cases b<;>rfl
def T.sum {A B:Type}(x:A⊕B)(f:A->T)(g:B->T):T:=.test x.isLeft (.opt x.getLeft? f) (.opt x.getRight? g)
theorem aFt {b:Bool}{a:T}{r:oO}(h:(T.test b a .fail).eval=some r):b=true/\a.eval=some r:=by cases b<;>first|(cases h;done)|exact⟨rfl,h⟩
theorem aAx {D X ρ σ:Type}{s1:D->(D->Option ρ)->(X->Option ρ)->Option ρ}{s2:D->(D->Option σ)->(X->Option σ)->Option σ}(q:ρ->Option σ)
  (h:∀d c x,(s1 d c x).bind q=s2 d (λd=>(c d).bind q) (λe=>(x e).bind q))(k:X->Option ρ):∀(n:Nat) (d:D),(SY s1 n d k).bind q=SY s2 n d λe=>(k e).bind q
 |0,_=>rfl
 |n+1,d=>by
  show(s1 d (λd=>SY s1 n d k) k).bind q=s2 d (λd=>SY s2 n d λe=>(k e).bind q) λe=>(k e).bind q
  rw[h];congr 1
  funext d'
  exact aAx q h k n d'
theorem aAy {hd:St->Option St}{ρ:Type}{body:St->(AX->St->Option ρ)->Option ρ}{K:AX->St->Option ρ}{D X:Type}{emb:D->St}{step:D->(D->Option ρ)->(X->Option ρ)->Option ρ}{kx:X->Option ρ}
  (h:∀(d:D) (c:St->Option ρ),body (emb d) (next hd c K)=step d (λd=>c (emb d)) kx):∀(n:Nat) (d:D),iter hd body K n (emb d)=SY step n d kx
 |0,_=>rfl
 |n+1,d=>by
  have e:iter hd body K (n+1) (emb d)=body (emb d) (next hd (iter hd body K n) K):=rfl;rw[e,h];have e2:SY step (n+1) d kx=step d (λd=>SY step n d kx) kx:=rfl;rw[e2];congr 1
  funext d'
  exact aAy h n d'
theorem Ol.of [ax]{P:Program}{E:Env}{hs:Hs}{nt lf id k0:Nat}{a:Code}{run:∀{ρ:Type},St->(AX->St->Option ρ)->Option ρ}(h0:aqx hs a=some ⟨id,k0,run⟩)
  (h:∀{ρ:Type} (s:St) (K:AX->St->Option ρ) (r:ρ),run s K=some r->∃n,iter (λt=>t.head k0 hs a) (G' P E hs nt k0 lf a) K n s=some r):∀kk,Ol P E hs nt kk lf a:=by
 intro kk σ hσ hk ρ s K r hr;rw[h0] at hσ;cases hσ;cases hk;exact h s K r hr
theorem Ol.no [ax]{P:Program}{E:Env}{hs:Hs}{nt lf:Nat}{a:Code}(h0:aqx hs a=none):∀kk,Ol P E hs nt kk lf a:=by
 intro kk σ hσ;rw[h0] at hσ;cases hσ
theorem A9.imp {α:Type}{p q:α->Prop}(h:∀a,p a->q a):∀{l:List α},A9 p l->A9 q l
 | [],_=>trivial
 |_::_,hl=>⟨h _ hl.1,A9.imp h hl.2⟩
theorem auX.of [ax]{P:Program}{E:Env}{hs:Hs}{nt lf id k0:Nat}{hd:Hd}{b:Code}{run:∀{ρ:Type},St->(AX->St->Option ρ)->Option ρ}(h0:aAa hs b=some ⟨hd,⟨id,k0,run⟩⟩)
  (h:∀{ρ:Type} (s:St) (K:AX->St->Option ρ) (r:ρ),run s K=some r->G' P E hs nt k0 lf b s K=some r):∀kk,auX P E hs nt kk lf b:=by
 intro kk j hj hk ρ s K r hr;rw[h0] at hj;cases hj;cases hk;exact h s K r hr
theorem Ln.by [ax]{P:Program}{E:Env}{hs:Hs}{f:FuncId}{lf:Nat}{l lj:List Code}(hl:Ll (aad P f)=l)(h:A9 (λa=>∀kk,Ol P E hs (tmpsOf P f) kk lf a) l)
  (hlj:Lm hs (aad P f)=lj)(hj:A9 (λb=>∀kk,auX P E hs (tmpsOf P f) kk lf b) lj):
  ∀(fn:Func) (c:Code) (kk:Nat),P.funcs[f]? =some fn->fn.body=some c->Ln P E hs fn.ntmps kk lf c:=by
 intro fn c kk hf hb;have e1:aad P f=c:=by unfold aad;rw[hf];simp[hb]
 have e2:tmpsOf P f=fn.ntmps:=by unfold tmpsOf;rw[hf];rfl
 rw[e1] at hl hlj;rw[<-e2];refine Ln.of ?_ ?_
 .rw[hl];exact h.imp λa ha=>ha kk
 .rw[hlj];exact hj.imp λa ha=>ha kk
structure jf (α β:Type) where
 rd:α->Option β
 em:β->α
 ok:∀a b,rd a=some b->a=em b
namespace jf
def hole {α:Type}:jf α α:=⟨some,id,λa b h=>by cases h;rfl⟩
def nat (n:Nat):jf Nat Unit:=⟨λm=>cond (ww m n) (some ()) none,λ_=>n,λa b h=>by
 cases hb:ww a n<;>rw[hb] at h<;>first|(cases h;done)|exact mO hb⟩
def int (n:Int):jf Int Unit:=⟨λm=>cond (decide (m=n)) (some ()) none,λ_=>n,λa b h=>by
 cases hb:decide (a=n)<;>rw[hb] at h<;>first|(cases h;done)|exact dq hb⟩
def bool (n:Bool):jf Bool Unit:=⟨λm=>cond (m==n) (some ()) none,λ_=>n,λa b h=>by
 cases a<;>cases n<;>first|rfl|cases h⟩
def via {α α' β:Type}(f:α->α')(g:α'->Option α)(h:∀a' a,g a'=some a->a'=f a)(x:jf α β):jf α' β:=⟨λa=>(g a).bind x.rd,λb=>f (x.em b),λa b hb=>by
 cases ha:g a with
 |none=>rw[ha] at hb;cases hb
 |some c=>rw[ha] at hb;rw[h a c ha,<-x.ok c b hb]⟩
def pair {α β γ δ:Type}(x:jf α β)(y:jf γ δ):jf (α×γ) (β×δ):=⟨λp=>(x.rd p.1).bind λb=>(y.rd p.2).bind λd=>some (b,d),λq=>(x.em q.1,y.em q.2),λp q h=>by
 cases h1:x.rd p.1 with
 |none=>rw[h1] at h;cases h
 |some b=>
  rw[h1] at h;cases h2:y.rd p.2 with
  |none=>simp only[bM,h2] at h;cases h
  |some d=>
   simp only[bM,h2] at h;cases h;rw[<-x.ok _ _ h1,<-y.ok _ _ h2]⟩
def one {α:Type}(a:α)(g:α->Bool)(h:∀b,g b=true->b=a):jf α Unit:=⟨λb=>cond (g b) (some ()) none,λ_=>a,λb _ hb=>by
 cases hg:g b<;>rw[hg] at hb<;>first|(cases hb;done)|exact h b hg⟩
def nil {α:Type}:jf (List α) Unit:=one [] (λl=>match l with| []=>true|_=>false) λb h=>by cases b<;>first|rfl|cases h
def cons {α β γ:Type}(x:jf α β)(y:jf (List α) γ):jf (List α) (β×γ):=via (λp:α×List α=>p.1::p.2) (λl=>match l with|a::l=>some (a,l)|_=>none) (λa' a h=>by cases a'<;>cases h;rfl) (pair x y)
def szl {β:Type}(x:jf Nat β):jf Sz β:=via Sz.l (λz=>match z with|.l n=>some n|_=>none) (λa' a h=>by cases a'<;>cases h;rfl) x
def szs {β:Type}(x:jf Nat β):jf Sz β:=via Sz.s (λz=>match z with|.s n=>some n|_=>none) (λa' a h=>by cases a'<;>cases h;rfl) x
def ok' {β:Type}(x:jf Nat β):jf cA β:=via cA.k (λz=>match z with|.k n=>some n|_=>none) (λa' a h=>by cases a'<;>cases h;rfl) x
def ox {β γ δ:Type}(x:jf Nat β)(y:jf Nat γ)(z:jf Nat δ):jf cA (β×γ×δ):=via (λp:Nat×Nat×Nat=>cA.x p.1 p.2.1 p.2.2) (λz=>match z with|.x a b c=>some (a,b,c)|_=>none) (λa' a h=>by cases a'<;>cases h;rfl) (pair x (pair y z))
def fi {β:Type}(k:IntKind)(x:jf Int β):jf FV β:=via (FV.i k) (λz=>match z with|.i k' n=>cond (decide (k'=k)) (some n) none|_=>none) (λa' a h=>by
 cases a' with
 |i k' n=>
  cases hk:decide (k'=k)<;>simp only[hk] at h<;>first|(cases h;done)|(cases h;rw[dq hk])
 |_=>cases h) x
def fb {β:Type}(x:jf Bool β):jf FV β:=via FV.b (λz=>match z with|.b n=>some n|_=>none) (λa' a h=>by cases a'<;>cases h;rfl) x
def fs {β:Type}(x:jf ByteArray β):jf FV β:=via FV.s (λz=>match z with|.s n=>some n|_=>none) (λa' a h=>by cases a'<;>cases h;rfl) x
def cf {β:Type}(x:jf FV β):jf CV β:=via CV.f (λz=>match z with|.f n=>some n|_=>none) (λa' a h=>by cases a'<;>cases h;rfl) x
def NN {β γ δ:Type}(x:jf Nat β)(y:jf cA γ)(z:jf Nat δ):jf CV (β×γ×δ):=via (λp:Nat×cA×Nat=>CV.ptr p.1 p.2.1 p.2.2) (λz=>match z with|.ptr a b c=>some (a,b,c)|_=>none) (λa' a h=>by cases a'<;>cases h;rfl) (pair x (pair y z))
def ccl {α β γ δ:Type}(u:jf Nat α)(x:jf Nat β)(y:jf cA γ)(z:jf Nat δ):jf CV (α×β×γ×δ):=via (λp:Nat×Nat×cA×Nat=>CV.cl p.1 p.2.1 p.2.2.1 p.2.2.2) (λz=>match z with|.cl e a b c=>some (e,a,b,c)|_=>none) (λa' a h=>by cases a'<;>cases h;rfl) (pair u (pair x (pair y z)))
def dM {β γ δ ε ζ:Type}(x:jf Nat β)(y:jf cA γ)(z:jf Sz δ)(u:jf Nat ε)(w:jf Bool ζ):jf CV (β×γ×δ×ε×ζ):=via (λp:Nat×cA×Sz×Nat×Bool=>CV.sl p.1 p.2.1 p.2.2.1 p.2.2.2.1 p.2.2.2.2) (λz=>match z with|.sl a b c d e=>some (a,b,c,d,e)|_=>none) (λa' a h=>by cases a'<;>cases h;rfl) (pair x (pair y (pair z (pair u w))))
def cfs {β γ δ:Type}(x:jf Nat β)(y:jf Nat γ)(z:jf (List cQ) δ):jf CV (β×γ×δ):=via (λp:Nat×Nat×List cQ=>CV.fs p.1 p.2.1 p.2.2) (λz=>match z with|.fs a b c=>some (a,b,c)|_=>none) (λa' a h=>by cases a'<;>cases h;rfl) (pair x (pair y z))
def ax1:jf CV Unit:=one .ai2 (λl=>match l with|.ai2=>true|_=>false) λb h=>by cases b<;>first|rfl|cases h
def aWo:jf CV Unit:=one .nils (λl=>match l with|.nils=>true|_=>false) λb h=>by cases b<;>first|rfl|cases h
def ki {β:Type}(k:IntKind)(x:jf (Nat->Int) β):jf cQ β:=via (cQ.i k) (λz=>match z with|.i k' n=>cond (decide (k'=k)) (some n) none|_=>none) (λa' a h=>by
 cases a' with
 |i k' n=>
  cases hk:decide (k'=k)<;>simp only[hk] at h<;>first|(cases h;done)|(cases h;rw[dq hk])
 |_=>cases h) x
def kb {β:Type}(x:jf (Nat->Bool) β):jf cQ β:=via cQ.b (λz=>match z with|.b n=>some n|_=>none) (λa' a h=>by cases a'<;>cases h;rfl) x
def ks {β:Type}(x:jf (Nat->ByteArray) β):jf cQ β:=via cQ.s (λz=>match z with|.s n=>some n|_=>none) (λa' a h=>by cases a'<;>cases h;rfl) x
def gc {β:Type}(x:jf CV β):jf Sg β:=via Sg.c (λz=>match z with|.c n=>some n|_=>none) (λa' a h=>by cases a'<;>cases h;rfl) x
def ga {β γ:Type}(x:jf Sz β)(y:jf (List cQ) γ):jf Sg (β×γ):=via (λp:Sz×List cQ=>Sg.a p.1 p.2) (λz=>match z with|.a n c=>some (n,c)|_=>none) (λa' a h=>by cases a'<;>cases h;rfl) (pair x y)
def rc {β:Type}(x:jf CV β):jf RV β:=via RV.c (λz=>match z with|.c n=>some n|_=>none) (λa' a h=>by cases a'<;>cases h;rfl) x
def ra {β:Type}(x:jf af β):jf RV β:=via RV.agg (λz=>match z with|.agg n=>some n|_=>none) (λa' a h=>by cases a'<;>cases h;rfl) x
def ar {β:Type}(x:jf RV β):jf AV β:=via AV.r (λz=>match z with|.r n=>some n|_=>none) (λa' a h=>by cases a'<;>cases h;rfl) x
def ry {β:Type}(x:jf (List RV) β):jf AV β:=via AV.tup (λz=>match z with|.tup n=>some n|_=>none) (λa' a h=>by cases a'<;>cases h;rfl) x
def afn {β γ:Type}(x:jf Nat β)(y:jf (List RV) γ):jf AV (β×γ):=via (λp:Nat×List RV=>AV.fn p.1 p.2) (λz=>match z with|.fn a b=>some (a,b)|_=>none) (λa' a h=>by cases a'<;>cases h;rfl) (pair x y)
def a09:jf AV Unit:=one .Wh (λl=>match l with|.Wh=>true|_=>false) λb h=>by cases b<;>first|rfl|cases h
def st {β γ δ:Type}(x:jf (List AV) β)(y:jf (List (Option af)) γ)(z:jf (List Nat) δ):jf St (β×γ×δ):=via (λp:List AV×List (Option af)×List Nat=>St.mk p.1 p.2.1 p.2.2) (λz=>some (z.tmps,z.heap,z.dk)) (λa' a h=>by cases a';cases h;rfl) (pair x (pair y z))
end jf
end Go.Ab
namespace Go.Proofs.YtldgljclcgaibaaGreat
open Go.Ab
theorem mixed:Tryz.prog.follows .mixedOrders=true:=by kernel_rfl
theorem own:ownKnob Tryz.prog.godebug=none:=by kernel_rfl
theorem laid:laidOutB Tryz.prog=true:=by kernel_rfl
end Go.Proofs.YtldgljclcgaibaaGreat
namespace Go.Ab
variable [ax]
variable {P:Program}
def Eo (Lj:List CK):af:=[.a (.s 0) (Lj.map CK.m9)]
def T.aNQ (g:oO->oO):T->T
 |.leaf r=>.leaf (g r)
 |.fail=>.fail
 |.test x a b=>.test x (a.aNQ g) (b.aNQ g)
 |.opt x k=>.opt x λd=>(k d).aNQ g
omit [ax] in
theorem aRJ {g:oO->oO}{t:T}{r:oO}(h:(t.aNQ g).eval=some r):∃r',t.eval=some r'/\r=g r':=by
 induction t with
 |leaf r'=>cases h;exact⟨r',rfl,rfl⟩
 |fail=>cases h
 |test x a b iha ihb=>
  cases x
  .exact ihb h
  .exact iha h
 |opt x k ih=>
  cases x with
  |none=>cases h
  |some d=>exact ih d h
def uW (i:Nat)(Lj:List CK)(F:EY):EY:=λargs h=>match args[i]? with
 |some (.r (.c .nils))=>(F (args.set i (.r (.c (.sl h.length (.k 0) (.s 0) Lj.length true)))) (h++[Eo Lj])).aNQ λr=>⟨r.val,r.xH.take h.length,Eo Lj::r.news⟩
 |_=>F args h
omit [ax] in
theorem aFu (Lj:List CK):af.size (Eo Lj)=0:=by
 unfold Eo;rw[af.size_cons,af.kO,Sg.kT];simp[Sz.val]
omit [ax] in
theorem Rc:∀(h:List af) (z:af) (cs:List Ch),∃x,after (h++[z]) cs=after h (cs.take h.length)++[x]
 | [],z,[]=>⟨none,rfl⟩
 | [],z,.mb::cs=>⟨some z,rfl⟩
 | [],z,.set b::cs=>⟨some b,rfl⟩
 | [],z,.kill::cs=>⟨none,rfl⟩
 |b::bs,z,[]=>by
  obtain⟨x,hx⟩:=Rc bs z [];refine⟨x,?_⟩;simp only[List.take_nil] at hx;simp[after,hx]
 |b::bs,z,.mb::cs=>by
  obtain⟨x,hx⟩:=Rc bs z cs;exact⟨x,by simp[after,hx]⟩
 |b::bs,z,.set k::cs=>by
  obtain⟨x,hx⟩:=Rc bs z cs;exact⟨x,by simp[after,hx]⟩
 |b::bs,z,.kill::cs=>by
  obtain⟨x,hx⟩:=Rc bs z cs;exact⟨x,by simp[after,hx]⟩
omit [ax] in
theorem aYo {α:Type}{A N:List α}{x y:α}{b:Nat}(h:b≠A.length):(A++[x]++N)[b]? =(A++y::N)[b]? :=by
 rcases ns b A.length with h1|h1
 .rw[atb,UC h1,UC h1]
 .rw[atb,aeg h1,aeg h1];obtain⟨m,hm⟩:∃m,b-A.length=m+1:=⟨b-A.length-1,by omega⟩;rw[hm];rfl
theorem Sound.nil {f:FuncId}{F:EY}(i:Nat)(Lj:List CK)(S:Sound P f F):Sound P f (uW i Lj F):=by
 intro args h res th w π vs kI hH jK;unfold uW at th;split at th
 .rename_i hi
  obtain⟨r,hr,rfl⟩:=aRJ th;generalize hπ2:(λb=>if b=h.length then some (0,0,0,0) else π b:Pi)=π2
  have p1:∀b,b≠h.length->π2 b=π b:=λb hb=>by rw[<-hπ2];simp[hb]
  have p2:π2 h.length=some (0,0,0,0):=by rw[<-hπ2];simp
  have hx:Ext π π2:=λb p hb=>by
   have:b<h.length:=jK b (by rw[hb];simp);rw[p1 b (by omega)];exact hb
  have aZ6:bl (AV.rel π2) (args.set i (.r (.c (.sl h.length (.k 0) (.s 0) Lj.length true)))) vs.toList:=by
   have kI:=kI.imp (AV.dC hx);refine bl.agD (by rw[List.length_set];exact kI.length) λj a v ha hv=> ?_;rw[aEw] at ha;split at ha
   .rename_i hij
    subst hij;split at ha
    .cases ha;obtain⟨v',hv',hr'⟩:=kI.get hi;rw[hv] at hv';cases hv'
     exact⟨0,0,0,0,p2,by simp[cA.val,Sz.val],by simp[cA.val,Sz.val],.inl ⟨rfl,none,hr'⟩⟩
    .cases ha
   .obtain⟨v',hv',hr'⟩:=kI.get ha;rw[hv] at hv';cases hv'
    exact hr'
  have lt:∀b,b<h.length->((h++[Eo Lj]).map some)[b]? =(h.map some)[b]? :=λb hb=>by
   rw[List.map_append,UC (by simpa using hb)]
  have gz:∀b,b<h.length->hZ ((h++[Eo Lj]).map some) b=hZ (h.map some) b/\∀j,hC ((h++[Eo Lj]).map some) b j=hC (h.map some) b j:=λb hb=>by
   unfold hZ hC;rw[lt b hb];exact⟨rfl,λ_=>rfl⟩
  have gn:hZ ((h++[Eo Lj]).map some) h.length=some 0:=by
   unfold hZ;simp[aFu]
  have gd:∀b,h.length<b->hZ ((h++[Eo Lj]).map some) b=none:=λb hb=>by
   unfold hZ;rw[DS (by simp;omega)];rfl
  have hH2:r9 π2 (hC ((h++[Eo Lj]).map some)) (hZ ((h++[Eo Lj]).map some)) w:=by
   refine⟨hH.am,λb B s q e hz hb A8=> ?_,λb n hn=> ?_,λb b' B s q e s' q' e' mc hz tV hb eV i i1 i2 i3 i4=> ?_⟩
   .rcases agm b h.length with h1|h1|h1
    .rw[(gz b h1).1] at hz;rw[p1 b (by omega)] at hb;exact hH.lb b B s q e hz hb A8
    .subst h1;rw[p2] at hb;cases hb;omega
    .exact absurd (gd b h1) hz
   .rcases agm b h.length with h1|h1|h1
    .rw[(gz b h1).1] at hn;obtain⟨B,s,e,k1,k2,k3,k4⟩:=hH.hp b n hn
     exact⟨B,s,e,hx _ _ k1,k2,k3,λj hj=>by
      obtain⟨v,v1,v2⟩:=k4 j hj;exact⟨v,v1,by rw[(gz b h1).2];exact CV.dC hx _ _ v2⟩⟩
    .subst h1;rw[gn] at hn;cases hn;exact⟨0,0,0,p2,by omega,λi _ _=>by omega,λj hj=>by omega⟩
    .rw[gd b h1] at hn;cases hn
   .have nz:∀b B s q e,b=h.length->π2 b=some (B,s,q,e)->s=0/\e=0:=λb B s q e hb hp=>by
     rw[hb,p2] at hp;cases hp;exact⟨rfl,rfl⟩
    rcases agm b h.length with h1|h1|h1
    .rcases agm b' h.length with h2|h2|h2
     .rw[(gz b h1).1] at hz;rw[(gz b' h2).1] at tV;rw[p1 b (by omega)] at hb;rw[p1 b' (by omega)] at eV;exact hH.dj b b' B s q e s' q' e' mc hz tV hb eV i i1 i2 i3 i4
     .have:=nz b' B s' q' e' h2 eV;omega
     .exact tV (gd b' h2)
    .have:=nz b B s q e h1 hb;omega
    .exact hz (gd b h1)
  have a15:∀b,π2 b≠none->b<(h++[Eo Lj]).length:=λb hb=>by
   rw[ayg];show b<h.length+1;rcases agm b h.length with h1|h1|h1
   .omega
   .omega
   .rw[p1 b (by omega)] at hb;have:=jK b hb;omega
  have aYp:∀B i,CW π2 (h++[Eo Lj]).length (SW r.xH) B i->CW π h.length (SW (r.xH.take h.length)) B i:=by
   rintro B i ⟨b,s,q,e,hb,hD,hp,i1,i2⟩
   rw[ayg] at hb;have hb:b<h.length+1:=hb;rcases ns b h.length with h1|h1
   .rw[p1 b (by omega)] at hp;exact⟨b,s,q,e,h1,λhk=>hD (by rw[Wf,if_pos h1] at hk;exact hk),hp,i1,i2⟩
   .obtain rfl:b=h.length:=by omega
    rw[p2] at hp;cases hp;omega
  suffices key:∀e w',tg π2 w (h++[Eo Lj]) r e w'->tg π w h ⟨r.val,r.xH.take h.length,Eo Lj::r.news⟩ e w' by
   rcases S _ _ r hr w π2 vs aZ6 hH2 a15 with⟨S1,S2⟩| ⟨v,S1,S2⟩
   .exact .inl ⟨S1,Calls.mono S2 key⟩
   .exact .inr ⟨v,S1,key _ _ S2⟩
  rintro e w' ⟨π',v,rfl,hx',hv,hH',hF,hd,hi'⟩
  have p2':π' h.length=some (0,0,0,0):=hx' _ _ p2;obtain⟨x,hxx⟩:=Rc h (Eo Lj) r.xH;have hlen:(after h (r.xH.take h.length)).length=h.length:=mP ..
  have eq1:∀b,b≠h.length->(r.heap (h++[Eo Lj]))[b]? =((⟨r.val,r.xH.take h.length,Eo Lj::r.news⟩:oO).heap h)[b]? :=λb hb=>by
   unfold oO.heap;rw[hxx];exact aYo (by rw[hlen];exact hb)
  have eqz:∀b,b≠h.length->hZ ((⟨r.val,r.xH.take h.length,Eo Lj::r.news⟩:oO).heap h) b=hZ (r.heap (h++[Eo Lj])) b:=λb hb=>by
   unfold hZ;rw[eq1 b hb]
  have eqc:∀b j,b≠h.length->hC ((⟨r.val,r.xH.take h.length,Eo Lj::r.news⟩:oO).heap h) b j=hC (r.heap (h++[Eo Lj])) b j:=λb j hb=>by
   unfold hC;rw[eq1 b hb]
  have eqn:hZ ((⟨r.val,r.xH.take h.length,Eo Lj::r.news⟩:oO).heap h) h.length=some 0:=by
   unfold hZ oO.heap;show(((after h (r.xH.take h.length)++(Eo Lj::r.news).map some)[h.length]?).getD none).map af.size=some 0;rw[aeg (by omega),hlen];simp[aFu]
  refine⟨π',v,rfl,hx.trans hx',hv,⟨hH'.am,λb B s q e hz hb A8=> ?_,λb n hn=> ?_,λb b' B s q e s' q' e' mc hz tV hb eV i i1 i2 i3 i4=> ?_⟩,hF.mono λB i _ h=>aYp B i h,λb hb=> ?_,λb B s q e hb hp hB i i1 i2=> ?_⟩
  .by_cases h1:b=h.length
   .rw[h1,p2'] at hb;cases hb;omega
   .rw[eqz b h1] at hz;exact hH'.lb b B s q e hz hb A8
  .by_cases h1:b=h.length
   .subst h1;rw[eqn] at hn;cases hn;exact⟨0,0,0,p2',by omega,λi _ _=>by omega,λj hj=>by omega⟩
   .rw[eqz b h1] at hn;obtain⟨B,s,e,k1,k2,k3,k4⟩:=hH'.hp b n hn;exact⟨B,s,e,k1,k2,k3,λj hj=>by rw[eqc b j h1];exact k4 j hj⟩
  .have nz:∀b B s q e,b=h.length->π' b=some (B,s,q,e)->s=0/\e=0:=λb B s q e hb hp=>by
    rw[hb,p2'] at hp;cases hp;exact⟨rfl,rfl⟩
   by_cases h1:b=h.length
   .have:=nz b B s q e h1 hb;omega
   .by_cases h2:b'=h.length
    .have:=nz b' B s' q' e' h2 eV;omega
    .rw[eqz b h1] at hz;rw[eqz b' h2] at tV;exact hH'.dj b b' B s q e s' q' e' mc hz tV hb eV i i1 i2 i3 i4
  .have:=hd b hb;rw[ayg] at this;show b<h.length+(r.news.length+1);have:b<h.length+1+r.news.length:=this;omega
  .by_cases h1:b=h.length
   .rw[h1,p2'] at hp;cases hp;omega
   .exact aYp B i (hi' b B s q e (by rw[ayg];show h.length+1<=b;omega) hp hB i i1 i2)
 .exact S args h res th w π vs kI hH jK
end Go.Ab
noncomputable section
namespace Go.Ab
inductive Pg (δ:Type):Type 1 where
 |ret (d:δ)
 |no
 |ae (b:Bool) (x y:Pg δ)
 |opt {D:Type} (x:Option D) (f:D->Pg δ)
 |sum {A B:Type} (x:A⊕B) (f:A->Pg δ) (g:B->Pg δ)
namespace Pg
def run {δ ρ:Type}(p:Pg δ)(k:δ->Option ρ):Option ρ:=
 Pg.rec (motive:=λ_=>Option ρ) k none (λb _ _ x y=>cond b x y) (λx _ ih=>x.bind ih) (λx _ _ f g=>t7 f g x) p
def val {δ:Type}(p:Pg δ):Option δ:=p.run some
variable {δ ρ σ:Type}
theorem An (d:δ)(k:δ->Option ρ):(ret d).run k=k d:=rfl
theorem Gu (k:δ->Option ρ):(no:Pg δ).run k=none:=rfl
theorem vN (b:Bool)(x y:Pg δ)(k:δ->Option ρ):(ae b x y).run k=bif b then x.run k else y.run k:=rfl
theorem vO {D:Type}(x:Option D)(f:D->Pg δ)(k:δ->Option ρ):(opt x f).run k=x.bind λd=>(f d).run k:=rfl
theorem vP {A B:Type}(x:A⊕B)(f:A->Pg δ)(g:B->Pg δ)(k:δ->Option ρ):(sum x f g).run k=t7 (λa=>(f a).run k) (λb=>(g b).run k) x:=rfl
theorem cg (d:δ):(ret d).val=some d:=rfl
theorem fe:(no:Pg δ).val=none:=rfl
theorem bN (b:Bool)(x y:Pg δ):(ae b x y).val=bif b then x.val else y.val:=rfl
theorem cq {D:Type}(x:Option D)(f:D->Pg δ):(opt x f).val=x.bind λd=>(f d).val:=rfl
theorem eu {A B:Type}(x:A⊕B)(f:A->Pg δ)(g:B->Pg δ):(sum x f g).val=t7 (λa=>(f a).val) (λb=>(g b).val) x:=rfl
theorem aNR (p:Pg δ)(k:δ->Option ρ)(q:ρ->Option σ):(p.run k).bind q=p.run λd=>(k d).bind q:=by
 induction p with
 |ret d=>rfl
 |no=>rfl
 |ae b x y ih1 ih2=>rw[vN,vN,aUs,ih1,ih2]
 |opt x f ih=>
  rw[vO,vO];cases x with
  |none=>rfl
  |some d=>exact ih d
 |sum x f g ih1 ih2=>
  rw[vP,vP];cases x with
  |inl a=>exact ih1 a
  |inr b=>exact ih2 b
theorem avo (p:Pg δ)(k:δ->Option ρ):p.val.bind k=p.run k:=by
 unfold val;rw[aNR];rfl
def sm {A B:Type}(x:A⊕B)(f:A->Pg δ)(g:B->Pg δ):Pg δ:=ae x.isLeft (opt x.getLeft? f) (opt x.getRight? g)
theorem aDW {A B:Type}(x:A⊕B)(f:A->Pg δ)(g:B->Pg δ):(sm x f g).val=t7 (λa=>(f a).val) (λb=>(g b).val) x:=by cases x<;>rfl
end Pg
def bC {D X:Type}(s:D->Pg (D⊕X))(n:Nat)(d:D):Option X:=SY (λd c x=>(s d).run (t7 c x)) n d some
theorem alU {D X ρ:Type}(s:D->Pg (D⊕X))(n:Nat)(d:D)(k:X->Option ρ):(bC s n d).bind k=SY (λd c x=>(s d).run (t7 c x)) n d k:=by
 unfold bC;refine(aAx k (λd c x=> ?_) some n d).trans rfl;rw[Pg.aNR];congr 1
 funext y
 cases y<;>rfl
def aFv:List Bool->Prop
 | []=>True
 |b::l=>b=true/\aFv l
theorem ayH:∀{l m:List Bool},aFv (l++m)->aFv l/\aFv m
 | [],_,h=>⟨trivial,h⟩
 |_::_,_,h=>⟨⟨h.1,(ayH h.2).1⟩,(ayH h.2).2⟩
structure Rq (α β:Type) where
 rd:α->Option (List Bool×β)
 em:β->α
 ok:∀a l b,rd a=some (l,b)->aFv l->a=em b
abbrev Rq.B {α β:Type}(_:Rq α β):Type:=β
namespace Rq
variable {α β γ δ:Type}
def hole:Rq α α:=⟨λa=>some ([],a),id,λa l b h _=>by cases h;rfl⟩
def one (a:α)(g:α->Bool)(h:∀b,g b=true->b=a):Rq α Unit:=⟨λb=>cond (g b) (some ([],())) none,λ_=>a,λb _ _ hb _=>by
 cases hg:g b<;>rw[hg] at hb<;>first|(cases hb;done)|exact h b hg⟩
def tie (n:Nat):Rq Nat Unit:=⟨λm=>some ([ww m n],()),λ_=>n,λa l b h hl=>by
 have h1:[ww a n]=l:=(Prod.mk.inj (Om h)).1;subst h1;exact mO hl.1⟩
def nat (n:Nat):Rq Nat Unit:=one n (λm=>ww m n) λ_ h=>mO h
def int (n:Int):Rq Int Unit:=one n (λm=>decide (m=n)) λ_ h=>dq h
def bool (n:Bool):Rq Bool Unit:=one n (λm=>m==n) λ_ h=>by simpa using h
def via {α':Type}(f:α->α')(g:α'->Option α)(h:∀a' a,g a'=some a->a'=f a)(x:Rq α β):Rq α' β:=⟨λa=>(g a).bind x.rd,λb=>f (x.em b),λa l b hb hl=>by
 cases ha:g a with
 |none=>rw[ha] at hb;cases hb
 |some c=>rw[ha] at hb;rw[h a c ha,<-x.ok c l b hb hl]⟩
def dp (x:Rq α β)(y:β->Rq γ δ):Rq (α×γ) (β×δ):=⟨λp=>(x.rd p.1).bind λb=>((y b.2).rd p.2).bind λd=>some (b.1++d.1,(b.2,d.2)),λq=>(x.em q.1,(y q.1).em q.2),λp l q h hl=>by
 cases h1:x.rd p.1 with
 |none=>rw[h1] at h;cases h
 |some b=>
  rw[h1] at h;cases h2:(y b.2).rd p.2 with
  |none=>simp only[bM,h2] at h;cases h
  |some d=>
   simp only[bM,h2,gS,ql] at h;obtain⟨rfl,rfl⟩:=h;obtain⟨t,b⟩:=b;obtain⟨s,d⟩:=d;obtain⟨h4,h5⟩:=ayH hl;exact Prod.ext (x.ok _ _ _ h1 h4) ((y b).ok _ _ _ h2 h5)⟩
def pr (x:Rq α β)(y:Rq γ δ):Rq (α×γ) (β×δ):=dp x λ_=>y
def mp {β':Type}(x:Rq α β)(p:β->β')(q:β'->β)(h:∀b,b=q (p b)):Rq α β':=⟨λa=>(x.rd a).bind λb=>some (b.1,p b.2),λc=>x.em (q c),λa l c hc hl=>by
 cases h1:x.rd a with
 |none=>rw[h1] at hc;cases hc
 |some b=>
  rw[h1] at hc;obtain⟨t,b⟩:=b;cases hc;rw[<-h b];exact x.ok _ _ _ h1 hl⟩
def pl (x:Rq α β)(y:Rq γ Unit):Rq (α×γ) β:=mp (pr x y) Prod.fst (λb=>(b,())) λ_=>rfl
def pu (x:Rq α Unit)(y:Rq γ δ):Rq (α×γ) δ:=mp (pr x y) Prod.snd (λb=>((),b)) λ_=>rfl
def nil:Rq (List α) Unit:=one [] (λl=>match l with| []=>true|_=>false) λb h=>by cases b<;>first|rfl|cases h
def co (x:Rq (α×List α) β):Rq (List α) β:=via (λp:α×List α=>p.1::p.2) (λl=>match l with|a::l=>some (a,l)|_=>none) (λa' a h=>by cases a'<;>cases h;rfl) x
def c (x:Rq α β)(y:Rq (List α) δ):Rq (List α) (β×δ):=co (pr x y)
def cl (x:Rq α β)(y:Rq (List α) Unit):Rq (List α) β:=co (pl x y)
def cu (x:Rq α Unit)(y:Rq (List α) δ):Rq (List α) δ:=co (pu x y)
def cd (x:Rq α β)(y:β->Rq (List α) δ):Rq (List α) (β×δ):=co (dp x y)
def ap (n:Nat)(x:Rq (List α×List α) β):Rq (List α) β:=via (λp:List α×List α=>p.1++p.2) (λl=>some (l.take n,l.drop n)) (λa' a h=>by cases h;simp) x
def a (n:Nat)(x:Rq (List α) β)(y:Rq (List α) δ):Rq (List α) (β×δ):=ap n (pr x y)
def al (n:Nat)(x:Rq (List α) β)(y:Rq (List α) Unit):Rq (List α) β:=ap n (pl x y)
def au (n:Nat)(x:Rq (List α) Unit)(y:Rq (List α) δ):Rq (List α) δ:=ap n (pu x y)
def no:Rq (Option α) Unit:=one none (λl=>match l with|none=>true|_=>false) λb h=>by cases b<;>first|rfl|cases h
def so (x:Rq α β):Rq (Option α) β:=via some (λa=>a) (λa' a h=>h) x
def szl (x:Rq Nat β):Rq Sz β:=via Sz.l (λz=>match z with|.l n=>some n|_=>none) (λa' a h=>by cases a'<;>cases h;rfl) x
def szs (x:Rq Nat β):Rq Sz β:=via Sz.s (λz=>match z with|.s n=>some n|_=>none) (λa' a h=>by cases a'<;>cases h;rfl) x
def ok' (x:Rq Nat β):Rq cA β:=via cA.k (λz=>match z with|.k n=>some n|_=>none) (λa' a h=>by cases a'<;>cases h;rfl) x
def ox (x:Rq (Nat×Nat×Nat) β):Rq cA β:=via (λp:Nat×Nat×Nat=>cA.x p.1 p.2.1 p.2.2) (λz=>match z with|.x a b c=>some (a,b,c)|_=>none) (λa' a h=>by cases a'<;>cases h;rfl) x
def fi (k:IntKind)(x:Rq Int β):Rq FV β:=via (FV.i k) (λz=>match z with|.i k' n=>cond (decide (k'=k)) (some n) none|_=>none) (λa' a h=>by
 cases a' with
 |i k' n=>
  cases hk:decide (k'=k)<;>simp only[hk] at h<;>first|(cases h;done)|(cases h;rw[dq hk])
 |_=>cases h) x
def fb (x:Rq Bool β):Rq FV β:=via FV.b (λz=>match z with|.b n=>some n|_=>none) (λa' a h=>by cases a'<;>cases h;rfl) x
def fs (x:Rq ByteArray β):Rq FV β:=via FV.s (λz=>match z with|.s n=>some n|_=>none) (λa' a h=>by cases a'<;>cases h;rfl) x
def cf (x:Rq FV β):Rq CV β:=via CV.f (λz=>match z with|.f n=>some n|_=>none) (λa' a h=>by cases a'<;>cases h;rfl) x
def NN (x:Rq (Nat×cA×Nat) β):Rq CV β:=via (λp:Nat×cA×Nat=>CV.ptr p.1 p.2.1 p.2.2) (λz=>match z with|.ptr a b c=>some (a,b,c)|_=>none) (λa' a h=>by cases a'<;>cases h;rfl) x
def ccl (x:Rq (Nat×Nat×cA×Nat) β):Rq CV β:=via (λp:Nat×Nat×cA×Nat=>CV.cl p.1 p.2.1 p.2.2.1 p.2.2.2) (λz=>match z with|.cl e a b c=>some (e,a,b,c)|_=>none) (λa' a h=>by cases a'<;>cases h;rfl) x
def dM (x:Rq (Nat×cA×Sz×Nat×Bool) β):Rq CV β:=via (λp:Nat×cA×Sz×Nat×Bool=>CV.sl p.1 p.2.1 p.2.2.1 p.2.2.2.1 p.2.2.2.2) (λz=>match z with|.sl a b c d e=>some (a,b,c,d,e)|_=>none) (λa' a h=>by cases a'<;>cases h;rfl) x
def cfs (x:Rq (Nat×Nat×List cQ) β):Rq CV β:=via (λp:Nat×Nat×List cQ=>CV.fs p.1 p.2.1 p.2.2) (λz=>match z with|.fs a b c=>some (a,b,c)|_=>none) (λa' a h=>by cases a'<;>cases h;rfl) x
def ax1:Rq CV Unit:=one .ai2 (λl=>match l with|.ai2=>true|_=>false) λb h=>by cases b<;>first|rfl|cases h
def aWo:Rq CV Unit:=one .nils (λl=>match l with|.nils=>true|_=>false) λb h=>by cases b<;>first|rfl|cases h
def ki (k:IntKind)(x:Rq (Nat->Int) β):Rq cQ β:=via (cQ.i k) (λz=>match z with|.i k' n=>cond (decide (k'=k)) (some n) none|_=>none) (λa' a h=>by
 cases a' with
 |i k' n=>
  cases hk:decide (k'=k)<;>simp only[hk] at h<;>first|(cases h;done)|(cases h;rw[dq hk])
 |_=>cases h) x
def kb (x:Rq (Nat->Bool) β):Rq cQ β:=via cQ.b (λz=>match z with|.b n=>some n|_=>none) (λa' a h=>by cases a'<;>cases h;rfl) x
def ks (x:Rq (Nat->ByteArray) β):Rq cQ β:=via cQ.s (λz=>match z with|.s n=>some n|_=>none) (λa' a h=>by cases a'<;>cases h;rfl) x
def gc (x:Rq CV β):Rq Sg β:=via Sg.c (λz=>match z with|.c n=>some n|_=>none) (λa' a h=>by cases a'<;>cases h;rfl) x
def ga (x:Rq (Sz×List cQ) β):Rq Sg β:=via (λp:Sz×List cQ=>Sg.a p.1 p.2) (λz=>match z with|.a n c=>some (n,c)|_=>none) (λa' a h=>by cases a'<;>cases h;rfl) x
def rc (x:Rq CV β):Rq RV β:=via RV.c (λz=>match z with|.c n=>some n|_=>none) (λa' a h=>by cases a'<;>cases h;rfl) x
def ra (x:Rq af β):Rq RV β:=via RV.agg (λz=>match z with|.agg n=>some n|_=>none) (λa' a h=>by cases a'<;>cases h;rfl) x
def ar (x:Rq RV β):Rq AV β:=via AV.r (λz=>match z with|.r n=>some n|_=>none) (λa' a h=>by cases a'<;>cases h;rfl) x
def ry (x:Rq (List RV) β):Rq AV β:=via AV.tup (λz=>match z with|.tup n=>some n|_=>none) (λa' a h=>by cases a'<;>cases h;rfl) x
def afn (x:Rq (Nat×List RV) β):Rq AV β:=via (λp:Nat×List RV=>AV.fn p.1 p.2) (λz=>match z with|.fn a b=>some (a,b)|_=>none) (λa' a h=>by cases a'<;>cases h;rfl) x
def a09:Rq AV Unit:=one .Wh (λl=>match l with|.Wh=>true|_=>false) λb h=>by cases b<;>first|rfl|cases h
def st (x:Rq (List AV×List (Option af)×List Nat) β):Rq St β:=via (λp:List AV×List (Option af)×List Nat=>St.mk p.1 p.2.1 p.2.2) (λz=>some (z.tmps,z.heap,z.dk)) (λa' a h=>by cases a';cases h;rfl) x
def fJ:Rq Ch Unit:=one .mb (λl=>match l with|.mb=>true|_=>false) λb h=>by cases b<;>first|rfl|cases h
def V5:Rq Ch Unit:=one .kill (λl=>match l with|.kill=>true|_=>false) λb h=>by cases b<;>first|rfl|cases h
def Bu (x:Rq af β):Rq Ch β:=via Ch.set (λz=>match z with|.set n=>some n|_=>none) (λa' a h=>by cases a'<;>cases h;rfl) x
def res (x:Rq (AV×List Ch×List af) β):Rq oO β:=via (λp:AV×List Ch×List af=>oO.mk p.1 p.2.1 p.2.2) (λz=>some (z.val,z.xH,z.news)) (λa' a h=>by cases a';cases h;rfl) x
def us:Nat->Rq (List AV) β->Rq (List AV) β
 |0,x=>x
 |n+1,x=>cu a09 (us n x)
def xs:Nat->Rq (List AV) β->Rq (List AV) β
 |0,x=>x
 |n+1,x=>cu (ry nil) (xs n x)
def ci:Rq CV Int:=cf (fi .i64 hole)
def cn:Rq CV Int:=cf (fi .u64 hole)
def cb:Rq CV Bool:=cf (fb hole)
def ct:Rq CV ByteArray:=cf (fs hole)
def gi:Rq Sg Int:=gc ci
def gn:Rq Sg Int:=gc cn
def gb:Rq Sg Bool:=gc cb
def gt:Rq Sg ByteArray:=gc ct
def ac (x:Rq CV β):Rq AV β:=ar (rc x)
def ai:Rq AV Int:=ac ci
def an:Rq AV Int:=ac cn
def ab:Rq AV Bool:=ac cb
def aa (x:Rq af β):Rq AV β:=ar (ra x)
def cp (b n:Nat):Rq CV Unit:=NN (pu (nat b) (pu (ok' (nat 0)) (nat n)))
def gp (b n:Nat):Rq Sg Unit:=gc (cp b n)
def app (b n:Nat):Rq AV Unit:=ac (cp b n)
def slc (b z:Nat):Rq CV (Nat×Bool):=dM (pu (nat b) (pu (ok' (nat 0)) (pr (szs hole) (pu (nat z) hole))))
def yU (b z:Nat):Rq CV Nat:=dM (pu (nat b) (pu (ok' (nat 0)) (pl (szs hole) (pu (nat z) (bool true)))))
def gl (n:Nat)(x:Rq (List cQ) β):Rq Sg β:=ga (pu (szl (nat n)) x)
def gs (n:Nat)(x:Rq (List cQ) β):Rq Sg β:=ga (pu (szs (tie n)) x)
def gm:Rq cQ (Nat->Int):=ki .i64 hole
def kcb:Rq cQ (Nat->Bool):=kb hole
end Rq
abbrev Ct:=Nat×EY
def T.ayI (l:List Bool)(t:T):T:=List.rec (motive:=λ_=>T) t (λb _ r=>.test b r .fail) l
def aYq {ρ:Type}(l:List Bool)(t:Option ρ):Option ρ:=List.rec (motive:=λ_=>Option ρ) t (λb _ r=>cond b r none) l
theorem alV {t:T}{r:oO}:∀{l:List Bool},(T.ayI l t).eval=some r->aFv l/\t.eval=some r
 | [],h=>⟨trivial,h⟩
 |b::l,h=>by
  obtain⟨h1,h2⟩:=aFt (b:=b) (a:=T.ayI l t) h;obtain⟨h3,h4⟩:=alV h2;exact⟨⟨h1,h3⟩,h4⟩
theorem aFw {ρ:Type}{t:Option ρ}{r:ρ}:∀{l:List Bool},aYq l t=some r->aFv l/\t=some r
 | [],h=>⟨trivial,h⟩
 |b::l,h=>by
  have h':cond b (aYq l t) none=some r:=h;cases b with
  |false=>cases h'
  |true=>
   obtain⟨h3,h4⟩:=aFw h';exact⟨⟨rfl,h3⟩,h4⟩
def FC {β δ:Type}(Q:Rq (List AV×List af) β)(R:δ->T)(f:β->Option δ):EY:=λa h=>match Q.rd (a,h) with
 |some b=>T.ayI b.1 (.opt (f b.2) R)
 |none=>.fail
def fV {D X:Type}(id kk:Nat)(Q:Rq St D)(E:∀{ρ:Type},X->(AX->St->Option ρ)->Option ρ)(l:D->Option X):Sm:=⟨id,kk,λs k=>match Q.rd s with
 |some b=>aYq b.1 ((l b.2).bind λx=>E x k)
 |none=>none⟩
def alr {β δ:Type}(P:Program)(l:List Ct)(hs:Hs)(lf n:Nat)(Q:Rq (List AV×List af) β)(R:δ->T)(B:β->Pg δ):Prop:=
 ∀b,den P (EZ l) hs lf n (Q.em b).1 (Q.em b).2=(B b).run λd=>(R d).eval
def aSO {D X:Type}(P:Program)(l:List Ct)(hs:Hs)(kk lf n id:Nat)(Q:Rq St D)(E:∀{ρ:Type},X->(AX->St->Option ρ)->Option ρ)(S:D->Pg (D⊕X)):Prop:=
 ∀(ρ:Type) (d:D) (c:St->Option ρ) (K:AX->St->Option ρ),G' P (EZ l) hs (tmpsOf P n) kk lf (aac P n id) (Q.em d) (next (λt=>t.head kk hs (aac P n id)) c K)=
  (S d).run (t7 (λd=>c (Q.em d)) λx=>E x K)
def aSP {D X:Type}(P:Program)(l:List Ct)(hs:Hs)(kk lf n id:Nat)(Q:Rq St D)(E:∀{ρ:Type},X->(AX->St->Option ρ)->Option ρ)(S:D->Pg X):Prop:=
 ∀(ρ:Type) (d:D) (K:AX->St->Option ρ),G' P (EZ l) hs (tmpsOf P n) kk lf (agl P n id) (Q.em d) K=(S d).run λx=>E x K
section
variable [ax]
def Snd (P:Program)(e:Ct):Prop:=Sound P e.1 e.2
theorem Snd.of {P:Program}{e:Ct}{n:Nat}{F:EY}(S:Sound P n F)(h:e=(n,F)):Snd P e:=by
 subst h;exact S
theorem JJ.c {P:Program}{l:List Ct}{e:Ct}(S:Snd P e)(h:JJ P l):JJ P (e::l):=JJ.cons S h
omit [ax] in
theorem aNS {D X:Type}{id kk:Nat}{Q:Rq St D}{E:∀{ρ:Type},X->(AX->St->Option ρ)->Option ρ}{l:D->Option X}{ρ:Type}{s:St}{K:AX->St->Option ρ}{r:ρ}
  (h:(fV id kk Q E l).run s K=some r):∃d,s=Q.em d/\((l d).bind λx=>E x K)=some r:=by
 simp only[fV] at h;split at h
 .rename_i b hb
  obtain⟨t,d⟩:=b;obtain⟨h1,h2⟩:=aFw h;exact⟨d,Q.ok s t d hb h1,h2⟩
 .cases h
theorem mkL {D X:Type}{P:Program}{l:List Ct}{hs:Hs}{kk lf n id:Nat}{Q:Rq St D}{E:∀{ρ:Type},X->(AX->St->Option ρ)->Option ρ}{S:D->Pg (D⊕X)}
  (h0:aqx hs (aac P n id)=some (fV id kk Q E (bC S lf)))(h:aSO P l hs kk lf n id Q E S):∀k',Ol P (EZ l) hs (tmpsOf P n) k' lf (aac P n id):=
 Ol.of (id:=id) (k0:=kk) (run:=(fV id kk Q E (bC S lf)).run) h0 λs K r hr=>by
  obtain⟨d,rfl,ZU⟩:=aNS hr;refine⟨lf,?_⟩;rw[alU] at ZU;exact(aAy (emb:=Q.em) (step:=λd c x=>(S d).run (t7 c x)) (kx:=λx=>E x K) (λd c=>h _ d c K) lf d).trans ZU
theorem mkJ {D X:Type}{P:Program}{l:List Ct}{hs:Hs}{kk lf n id:Nat}{hd:Hd}{Q:Rq St D}{E:∀{ρ:Type},X->(AX->St->Option ρ)->Option ρ}{S:D->Pg X}
  (h0:aAa hs (agl P n id)=some ⟨hd,fV id kk Q E λd=>(S d).val⟩)(h:aSP P l hs kk lf n id Q E S):∀k',auX P (EZ l) hs (tmpsOf P n) k' lf (agl P n id):=
 auX.of (id:=id) (k0:=kk) (hd:=hd) (run:=(fV id kk Q E λd=>(S d).val).run) h0 λs K r hr=>by
  obtain⟨d,rfl,ZU⟩:=aNS hr;rw[Pg.avo] at ZU;exact(h _ d K).trans ZU
omit [ax] in
theorem aYr {β δ:Type}{Q:Rq (List AV×List af) β}{R:δ->T}{B:β->Pg δ}{a:List AV}{h:List af}{r:oO}(hr:(FC Q R (λb=>(B b).val) a h).eval=some r):
  ∃b,(a,h)=Q.em b/\((B b).run λd=>(R d).eval)=some r:=by
 unfold FC at hr;split at hr
 .rename_i b hb
  obtain⟨t,b⟩:=b;obtain⟨h1,ZU⟩:=alV hr;rw[atu,Pg.avo] at ZU;exact⟨b,Q.ok _ _ _ hb h1,ZU⟩
 .cases hr
theorem mkS {β δ:Type}{P:Program}{l:List Ct}{hs:Hs}{lf n:Nat}{Q:Rq (List AV×List af) β}{R:δ->T}{B:β->Pg δ}(hm:P.follows .mixedOrders=true)(hl:JJ P l)(hc:Gr P n=true)
  (aNK:∀fn c kk,P.funcs[n]? =some fn->fn.body=some c->Ln P (EZ l) hs fn.ntmps kk lf c)(h:alr P l hs lf n Q R B):Sound P n (FC Q R λb=>(B b).val):=
 (aUl hl hm aNK hc).by λa b r hr=>by
  obtain⟨b,e,ZU⟩:=aYr hr;obtain⟨rfl,rfl⟩:=Prod.mk.inj e;exact aUm ((h b).trans ZU)
theorem mk0 {β δ:Type}{P:Program}{l:List Ct}{d0:List Nat}{lf n:Nat}{Q:Rq (List AV×List af) β}{R:δ->T}{B:β->Pg δ}(hm:P.follows .mixedOrders=true)(hl:JJ P l)(hc:Gr P n=true)
  (h:alr P l ⟨[],[],d0,[],none⟩ lf n Q R B):Sound P n (FC Q R λb=>(B b).val):=
 mkS hm hl hc (λ_ _ _ _ _=>Ln.nil ..) h
omit [ax] in
theorem aNT {t t':T}{r:oO}(h:t.eval=some r->t'.eval=some r)(l:List Bool):(T.ayI l t).eval=some r->(T.ayI l t').eval=some r:=by
 induction l with
 |nil=>exact h
 |cons b l ih=>
  intro k;obtain⟨h1,h2⟩:=aFt (b:=b) (a:=T.ayI l t) k;subst h1;exact ih h2
theorem E3 {β δ:Type}{P:Program}{n:Nat}{Q:Rq (List AV×List af) β}{R R':δ->T}{f:β->Option δ}(h:∀d r,(R' d).eval=some r->(R d).eval=some r)(S:Sound P n (FC Q R f)):Sound P n (FC Q R' f):=S.by λa b r hr=>by
 unfold FC at hr ⊢;split at hr
 .rename_i x hx
  refine aNT (λhr=> ?_) x.1 hr;rw[atu] at hr ⊢;cases hf:f x.2 with
  |none=>rw[hf] at hr;cases hr
  |some d=>rw[hf,bM] at hr;exact h d r hr
 .cases hr
end
abbrev wI (n:Int):Int:=IntKind.wrap .i64 n
abbrev wU (n:Int):Int:=IntKind.wrap .u64 n
end Go.Ab
namespace Go.Ab
theorem aJj {a:Bool}{pt:List PT}{ps:List Prm}{ds:List Dat}(h:aFq (.flat a pt::ps) ds):∃l ds',ds=.flat l::ds'/\bl aAt pt l/\aFq ps ds':=by
 match ds,h with
 |.flat l::ds',h=>exact⟨l,ds',rfl,h.1,h.2⟩
theorem aK4 {ks:List K}{ps:List Prm}{ds:List Dat}(h:aFq (.sl ks::ps) ds):∃n cols ds',ds=.sl n cols::ds'/\n<=maxLen/\bl (λk c=>K.m9 k n c) ks cols/\aFq ps ds':=by
 match ds,h with
 |.sl n cols::ds',h=>exact⟨n,cols,ds',rfl,h.1.1,h.1.2,h.2⟩
theorem aYs {ds:List Dat}(h:aFq [] ds):ds=[]:=by cases ds<;>first|rfl|cases h
theorem aTn {l:List DC}(h:bl aAt [] l):l=[]:=by cases l<;>first|rfl|cases h
theorem CY {k:IntKind}{pt:List PT}{l:List DC}(h:bl aAt (.c (.i k)::pt) l):∃x l',l=.c (.i k x)::l'/\(k.min<=x/\x<=k.max)/\bl aAt pt l':=by
 match l,h with
 |.c (.i k' x)::l',h=>
  obtain⟨⟨rfl,h1⟩,h2⟩:=h;exact⟨x,l',rfl,h1,h2⟩
theorem a1a {n:Nat}{ks:List K}{pt:List PT}{l:List DC}(h:bl aAt (.a n ks::pt) l):∃cols l',l=.a cols::l'/\bl (λk c=>K.m9 k n c) ks cols/\bl aAt pt l':=by
 match l,h with
 |.a cols::l',h=>exact⟨cols,l',rfl,h.1,h.2⟩
theorem alW {n:Nat}{l:List cQ}(h:bl (λk c=>K.m9 k n c) [] l):l=[]:=by cases l<;>first|rfl|cases h
theorem dD {n:Nat}{k:IntKind}{ks:List K}{l:List cQ}(h:bl (λk c=>K.m9 k n c) (.i k::ks) l):∃g l',l=.i k g::l'/\(∀j,j<n->k.min<=g j/\g j<=k.max)/\bl (λk c=>K.m9 k n c) ks l':=by
 match l,h with
 |.i k' g::l',h=>
  obtain⟨⟨rfl,h1⟩,h2⟩:=h;exact⟨g,l',rfl,h1,h2⟩
theorem aau {D X ρ:Type}(s:D->(D->Option ρ)->(X->Option ρ)->Option ρ)(n:Nat)(d:D)(k:X->Option ρ):SY s (n+1) d k=s d (λd=>SY s n d k) k:=rfl
theorem aFx {D X ρ:Type}{s:D->(D->Option ρ)->(X->Option ρ)->Option ρ}{k:X->Option ρ}{r:Option ρ}(Inv:Nat->D->Prop)
  (h:∀t d c,Inv t d->(∀t' d',t'<t->Inv t' d'->c d'=r)->s d c k=r):∀(fuel t:Nat) (d:D),t<fuel->Inv t d->SY s fuel d k=r
 |0,t,d,hf,hd=>by omega
 |fuel+1,t,d,hf,hd=>by
  rw[aau];exact h t d _ hd λt' d' ht hd'=>aFx Inv h fuel t' d' (by omega) hd'
theorem wrap_i64 {n:Int}(h1: -9223372036854775808<=n)(h2:n<=9223372036854775807):IntKind.wrap .i64 n=n:=by
 unfold IntKind.wrap;simp only[IntKind.signed,IntKind.bits,oK,ke,show(2:Int)^64=18446744073709551616 from rfl,show(2:Int)^(64-1)=9223372036854775808 from rfl];split<;>omega
theorem wrap_u64 (n:Int):IntKind.wrap .u64 n=n%18446744073709551616:=by
 unfold IntKind.wrap;simp only[IntKind.signed,IntKind.bits,Bool.false_and,show(2:Int)^64=18446744073709551616 from rfl,wS,fY]
theorem OB {D X ρ:Type}{s:D->Pg (D⊕X)}{k:X->Option ρ}{r:Option ρ}(Inv:Nat->D->Prop)
  (h:∀t d c,Inv t d->(∀t' d',t'<t->Inv t' d'->c d'=r)->(s d).run (t7 c k)=r)(fuel t:Nat)(d:D)(hf:t<fuel)(hd:Inv t d):(bC s fuel d).bind k=r:=by
 rw[alU];exact aFx Inv h fuel t d hf hd
theorem aav {D X:Type}{s:D->Pg (D⊕X)}(Inv:Nat->D->Prop)(Q:X->Prop)
  (h:∀t d,Inv t d->∃y,(s d).val=some y/\match y with|.inl d'=>∃t',t'<t/\Inv t' d'|.inr x=>Q x):∀(fuel t:Nat) (d:D),t<fuel->Inv t d->∃x,bC s fuel d=some x/\Q x
 |0,t,d,hf,hd=>by omega
 |fuel+1,t,d,hf,hd=>by
  obtain⟨y,hy,hq⟩:=h t d hd;have e:bC s (fuel+1) d=(s d).run (t7 (λd=>bC s fuel d) some):=rfl;rw[e,<-Pg.avo,hy,bM];cases y with
  |inl d'=>obtain⟨t',ht,hd'⟩:=hq;exact aav Inv Q h fuel t' d' (by omega) hd'
  |inr x=>exact⟨x,rfl,hq⟩
class bp {D:Type} (x:Option D):Prop where
 ok:∃d,x=some d
def Ok {D:Type}(x:Option D)(Q:D->Prop):Prop:=∃d,x=some d/\Q d
def PQ {δ:Type}(p:Pg δ)(Q:δ->Prop):Prop:=Ok p.val Q
section
variable {δ D A B:Type} {Q:δ->Prop}
theorem Ok.tot {x:Option D}{Q:D->Prop}(h:Ok x Q):bp x:=⟨h.imp λ_ h=>h.1⟩
theorem Ok.post {x:Option D}{Q:D->Prop}(h:Ok x Q){d:D}(e:x=some d):Q d:=by
 obtain⟨d',e',h⟩:=h;rw[e] at e';cases e';exact h
theorem Ok.mono {x:Option D}{Q R:D->Prop}(h:Ok x Q)(k:∀d,Q d->R d):Ok x R:=h.imp λ_ h=>⟨h.1,k _ h.2⟩
theorem bp.Ok {x:Option D}(h:bp x){Q:D->Prop}(k:∀d,x=some d->Q d):Ok x Q:=by
 obtain⟨d,e⟩:=h.ok;exact⟨d,e,k d e⟩
theorem aYt (d:D)(Q:D->Prop):Ok (some d) Q=Q d:=propext (Iff.intro (λh=>Ok.post h rfl) λh=>⟨d,rfl,h⟩)
theorem av (d:δ):PQ (.ret d) Q=Q d:=aYt d Q
theorem aRK:PQ (.no:Pg δ) Q=False:=propext (Iff.intro (λh=>by obtain⟨_,h,_⟩:=h;cases h) λh=>False.elim h)
theorem aK (b:Bool)(x y:Pg δ):PQ (.ae b x y) Q=((b=true->PQ x Q)/\(b=false->PQ y Q)):=by
 unfold PQ;rw[Pg.bN];cases b<;>simp
theorem bJ (b:Bool)(x:Pg δ):PQ (.ae b x .no) Q=(b=true/\PQ x Q):=by
 rw[aK,aRK];cases b<;>simp
theorem aC (x y:Pg δ):PQ (.ae true x y) Q=PQ x Q:=by unfold PQ;rw[Pg.bN];rfl
theorem bD (x:Option D)(f:D->Pg δ)[h:bp x]:PQ (.opt x f) Q=∀d,x=some d->PQ (f d) Q:=by
 obtain⟨d,rfl⟩:=h.ok;unfold PQ;rw[Pg.cq,bM];exact propext (Iff.intro (λh d' e=>by cases e;exact h) λh=>h d rfl)
theorem bX (d:D)(f:D->Pg δ):PQ (.opt (some d) f) Q=PQ (f d) Q:=rfl
theorem ay {x:Option D}{f:D->Pg δ}{R:D->Prop}(h:Ok x R)(k:∀d,x=some d->R d->PQ (f d) Q):PQ (.opt x f) Q:=by
 obtain⟨d,rfl,hr⟩:=h;exact k d rfl hr
theorem rC (x:A⊕B)(f:A->Pg δ)(g:B->Pg δ):PQ (.sum x f g) Q=((∀a,x=.inl a->PQ (f a) Q)/\∀b,x=.inr b->PQ (g b) Q):=by
 unfold PQ;rw[Pg.eu];cases x<;>simp
theorem tI (x:A⊕B)(f:A->Pg δ)(g:B->Pg δ):PQ (.sm x f g) Q=((∀a,x=.inl a->PQ (f a) Q)/\∀b,x=.inr b->PQ (g b) Q):=by
 unfold PQ;rw[Pg.aDW];cases x<;>simp
theorem aG {p:Pg δ}(h:PQ p λ_=>True):bp p.val:=Ok.tot h
theorem aNU {D X:Type}{s:D->Pg (D⊕X)}(I:D->Prop)(m:D->Nat)(R:X->Prop)
  (h:∀d,I d->PQ (s d) (t7 (λd'=>I d'/\m d'<m d) R)):∀(n:Nat) (d:D),I d->m d<n->Ok (bC s n d) R:=λn d hd hn=>by
 refine aav (λt d=>I d/\m d=t) R (λt d hd=> ?_) n (m d) d hn ⟨hd,rfl⟩;obtain⟨y,hy,hq⟩:=h d hd.1;refine⟨y,hy,?_⟩;cases y with
 |inl d'=>exact⟨m d',hd.2▸hq.2,hq.1,rfl⟩
 |inr x=>exact hq
end
theorem aY {n:Int}(h:0<=n:=by omega)(k:n<=4611686018427387904:=by omega):wI (n+1)=n+1:=wrap_i64 (by omega) (by omega)
theorem dS {n:Int}(h: -4611686018427387904<=n:=by omega)(k:n<=4611686018427387904:=by omega):wI n=n:=wrap_i64 (by omega) (by omega)
theorem bk {n:Int}{m:Nat}:aX n m=true↔0<=n/\n<m:=by simp[aX]
theorem aer {n:Int}{m:Nat}:KG n m=true↔0<=n/\n<=m:=by simp[KG]
theorem bW {m n:Nat}:wl m n=true↔m<=n:=by rw[Nat.ble_eq]
theorem nf {b:Bool}:(b=false->False)↔b=true:=by cases b<;>simp
theorem hdN (n:Nat)(h:n<=1999):(0:Int)<=0/\(0:Int)<=wn n/\wn n<=1999/\wn n=(n:Int):=by
 simp only[cF,Bx];omega
theorem aM (m:Nat):ww m m=true:=SO m
theorem bO:(∀{δ:Type} {Q:δ->Prop} (d:δ),PQ (.ret d) Q=Q d)/\(∀{δ:Type} {Q:δ->Prop} (b:Bool) (x:Pg δ),PQ (.ae b x .no) Q=(b=true/\PQ x Q))/\(∀{δ:Type} {Q:δ->Prop} (b:Bool) (x y:Pg δ),PQ (.ae b x y) Q=((b=true->PQ x Q)/\(b=false->PQ y Q)))
  /\(∀{δ D:Type} {Q:δ->Prop} (x:Option D) (f:D->Pg δ) [h:bp x],PQ (.opt x f) Q=∀d,x=some d->PQ (f d) Q)/\(∀{δ A B:Type} {Q:δ->Prop} (x:A⊕B) (f:A->Pg δ) (g:B->Pg δ),PQ (.sum x f g) Q=((∀a,x=.inl a->PQ (f a) Q)/\∀b,x=.inr b->PQ (g b) Q))
  /\(∀{δ A B:Type} {Q:δ->Prop} (x:A⊕B) (f:A->Pg δ) (g:B->Pg δ),PQ (.sm x f g) Q=((∀a,x=.inl a->PQ (f a) Q)/\∀b,x=.inr b->PQ (g b) Q))/\(∀{δ:Type} {Q:δ->Prop},PQ (.no:Pg δ) Q=False)
  /\(∀{A B C:Type} (f:A->C) (g:B->C) (x:A),t7 f g (.inl x)=f x)/\(∀{A B C:Type} (f:A->C) (g:B->C) (x:B),t7 f g (.inr x)=g x)
  /\(∀p:Prop,(p->True)=True)/\(∀α:Type,(α->True)=True)/\(∀p:Prop,(p/\True)=p)/\(∀p:Prop,(True/\p)=p)/\∀p:Prop,(p/\p)=p:=
 ⟨λd=>av d,λb x=>bJ b x,λb x y=>aK b x y,λx f _=>bD x f,λx f g=>rC x f g,λx f g=>tI x f g,aRK,λ_ _ _=>rfl,λ_ _ _=>rfl,λp=>Oq p,λα=>Oq α,Bx,zW,and_self⟩
theorem pX:(∀m,ww m m=true)/\(∀p:Prop,(True->p)=p)/\((true=false)=False)/\(∀p:Prop,(False->p)=True)/\∀{δ D:Type} {Q:δ->Prop} (d:D) (f:D->Pg δ),PQ (.opt (some d) f) Q=PQ (f d) Q:=
 ⟨aM,Oo,Lo,DU,λd f=>bX d f⟩
theorem tW:(∀{n:Int} {m:Nat},aX n m=true↔0<=n/\n<m)/\(∀{n:Int} {m:Nat},KG n m=true↔0<=n/\n<=m)/\(∀{m n:Nat},wl m n=true↔m<=n)/\(∀m,ww m m=true)/\(∀a b:Bool,((a&&b)=true)=(a=true/\b=true))/\(∀{p:Prop} [Decidable p],(decide p=true)=p)
  /\(∀{p:Prop} [Decidable p],decide p=false↔¬p)/\(∀{a b:Int},(a==b)=true↔a=b)/\(∀b:Bool,(true&&b)=b)/\∀n:Nat,wn n=(n:Int):=
 ⟨bk,aer,bW,aM,λa b=>cj a b,λ{_} _=>ke,λ{_} _=>abW,beq_iff_eq,oK,cF⟩
theorem bq {D X:Type}{s:D->Pg (D⊕X)}{I:D->Prop}{R:X->Prop}(m:D->Nat)(h:∀d,I d->PQ (s d) (t7 (λd'=>I d'/\m d'<m d) R))(k:∀d,I d->m d<2000):∀d:D,I d->Ok (bC s 2000 d) R:=λd hd=>aNU I m R h 2000 d hd (k d hd)
end Go.Ab
namespace Go.Ab
def Po {D:Type}(x:Option D)(Q:D->Prop):Prop:=∀d,x=some d->Q d
def PW {δ:Type}(p:Pg δ)(Q:δ->Prop):Prop:=Po p.val Q
section
variable {δ D A B:Type} {Q:δ->Prop}
theorem Po.mono {x:Option D}{Q R:D->Prop}(h:Po x Q)(k:∀d,Q d->R d):Po x R:=λd e=>k d (h d e)
theorem Po.and {x:Option D}{Q R:D->Prop}(h:Po x Q)(k:Po x R):Po x (λd=>Q d/\R d):=λd e=>⟨h d e,k d e⟩
theorem Po.true {x:Option D}:Po x (λ_=>True):=λ_ _=>trivial
theorem Ok.with {x:Option D}{Q R:D->Prop}(h:Ok x Q)(k:Po x R):Ok x (λd=>Q d/\R d):=by
 obtain⟨d,e,q⟩:=h;exact⟨d,e,q,k d e⟩
theorem Ok.po {x:Option D}{Q:D->Prop}(h:Ok x Q):Po x Q:=λd e=>h.post e
theorem aYu (d:D)(Q:D->Prop):Po (some d) Q=Q d:=propext (Iff.intro (λh=>h d rfl) λh d' e=>by cases e;exact h)
theorem kU (d:δ):PW (.ret d) Q=Q d:=aYu d Q
theorem agT:PW (.no:Pg δ) Q=True:=propext (Iff.intro (λ_=>trivial) λ_ d h=>by cases h)
theorem ot (b:Bool)(x y:Pg δ):PW (.ae b x y) Q=((b=true->PW x Q)/\(b=false->PW y Q)):=by
 unfold PW;rw[Pg.bN];cases b<;>simp
theorem Ao (b:Bool)(x:Pg δ):PW (.ae b x .no) Q=(b=true->PW x Q):=by
 rw[ot,agT];cases b<;>simp
theorem Ep (x:Option D)(f:D->Pg δ):PW (.opt x f) Q=∀d,x=some d->PW (f d) Q:=by
 unfold PW;rw[Pg.cq];cases x with
 |none=>exact propext (Iff.intro (λ_ d e=>by cases e) λ_ d e=>by cases e)
 |some d=>exact propext (Iff.intro (λh d' e=>by cases e;exact h) λh=>h d rfl)
theorem Ap {x:Option D}{f:D->Pg δ}{R:D->Prop}(h:Po x R)(k:∀d,x=some d->R d->PW (f d) Q):PW (.opt x f) Q:=by
 rw[Ep];exact λd e=>k d e (h d e)
theorem avp (x:A⊕B)(f:A->Pg δ)(g:B->Pg δ):PW (.sum x f g) Q=((∀a,x=.inl a->PW (f a) Q)/\∀b,x=.inr b->PW (g b) Q):=by
 unfold PW;rw[Pg.eu];cases x<;>simp
theorem aK5 (x:A⊕B)(f:A->Pg δ)(g:B->Pg δ):PW (.sm x f g) Q=((∀a,x=.inl a->PW (f a) Q)/\∀b,x=.inr b->PW (g b) Q):=by
 unfold PW;rw[Pg.aDW];cases x<;>simp
theorem aFy {D X:Type}{s:D->Pg (D⊕X)}(I:D->Prop)(R:X->Prop)(h:∀d,I d->PW (s d) (t7 I R)):∀(n:Nat) (d:D),I d->Po (bC s n d) R
 |0,d,hd,x,e=>by cases e
 |n+1,d,hd,x,e=>by
  have e1:bC s (n+1) d=(s d).run (t7 (λd=>bC s n d) some):=rfl;rw[e1,<-Pg.avo] at e;cases hv:(s d).val with
  |none=>rw[hv] at e;cases e
  |some y=>
   rw[hv,bM] at e;have q:=h d hd y hv;cases y with
   |inl d'=>exact aFy I R h n d' q x e
   |inr x'=>cases e;exact q
end
theorem aFz {D X:Type}{s:D->Pg (D⊕X)}{I:D->Prop}{R:X->Prop}(h:∀d,I d->PW (s d) (t7 I R)):∀d:D,I d->Po (bC s 2000 d) R:=λd hd=>aFy I R h 2000 d hd
end Go.Ab
namespace Go.Proofs.YtldgljclcgaibaaGreat
open Go.Ab
theorem aYv [ax]:Sound Tryz.prog 240 (aep CX):=aJi (aK2 (fn:=Tryz.f240) Tryz.func240 (by kernel_rfl) (by kernel_rfl) (by kernel_rfl) (by kernel_rfl))
theorem aYw [ax]:Sound Tryz.prog 262 (aep aeq):=aJi (aK3 (fn:=Tryz.f262) Tryz.func262 (by kernel_rfl) (by kernel_rfl) (by kernel_rfl) (by kernel_rfl))
abbrev avq:=C3
def alX (g:C3):Ct:=(240,aep g)
theorem apu [ax]:Snd Tryz.prog (alX CX):=aYv
abbrev aYx:=C3
def aNV (g:C3):Ct:=(262,aep g)
theorem aUt [ax]:Snd Tryz.prog (aNV aeq):=aYw
end Go.Proofs.YtldgljclcgaibaaGreat
namespace Go.Ab
abbrev NI:=Nat->Int
theorem _root_.And.b {a b c:Prop}(x:a/\b/\c):c:=x.2.2
theorem _root_.And.c {a b c d e:Prop}(x:a/\b/\c/\d/\e):e:=x.2.2.2.2
theorem _root_.And.d {a b c d e f g h i:Prop}(x:a/\b/\c/\d/\e/\f/\g/\h/\i):i:=x.2.2.2.2.2.2.2.2
@[reducible] def _root_.Prod.b {a b c:Type} (x:a×b×c):c:=x.2.2
@[reducible] def _root_.Prod.c {a b c d e:Type} (x:a×b×c×d×e):e:=x.2.2.2.2
@[reducible] def _root_.Prod.d {a b c d e f g h i:Type} (x:a×b×c×d×e×f×g×h×i):i:=x.2.2.2.2.2.2.2.2
@[reducible] def _root_.Prod.e {a b c d e f g h i j k l m n o p q:Type} (x:a×b×c×d×e×f×g×h×i×j×k×l×m×n×o×p×q):q:=x.2.2.2.2.2.2.2.2.2.2.2.2.2.2.2.2
def cr {α:Type}(d:α)(l:List α):Nat->α:=List.rec (motive:=λ_=>Nat->α) (λ_=>d) (λx l ih j=>bif ww j l.length then x else ih j) l
@[reducible] def c24 (g:Nat->Nat->Int):=(g 0,g 1,g 2,g 3,g 4,g 5,g 6,g 7,g 8,g 9,g 10,g 11,g 12,g 13,g 14,g 15,g 16,g 17,g 18,g 19,g 20,g 21,g 22,g 23)
@[reducible] def az3 {r:Type} (g:Nat->Nat->Int) (x:r):=(g 0,g 1,g 2,g 3,g 4,g 5,g 6,g 7,g 8,g 9,g 10,g 11,g 12,g 13,g 14,g 15,g 16,g 17,g 18,g 19,g 20,g 21,g 22,g 23,x)
def rg:Nat->Nat->List Nat->List Nat
 |_,0,t=>t
 |a,n+1,t=>a::rg (a+1) n t
@[reducible] def sh8 (o:Nat) (x:(Nat->Int)×(Nat->Int)×(Nat->Int)×(Nat->Int)×(Nat->Int)×(Nat->Int)×(Nat->Int)×(Nat->Int)):(Nat->Int)×(Nat->Int)×(Nat->Int)×(Nat->Int)×(Nat->Int)×(Nat->Int)×(Nat->Int)×(Nat->Int):=(λj=>x.1 (o+j),λj=>x.2.1 (o+j),λj=>x.2.2.1 (o+j),λj=>x.2.2.2.1 (o+j),λj=>x.2.2.2.2.1 (o+j),λj=>x.2.2.2.2.2.1 (o+j),λj=>x.2.2.2.2.2.2.1 (o+j),λj=>x.2.2.2.2.2.2.2 (o+j))
@[reducible] def kQ (o:Nat) (x:(Nat->Int)×(Nat->Int)×(Nat->Int)×(Nat->Int)×(Nat->Int)×(Nat->Int)×(Nat->Int)×(Nat->Int)×(Nat->Int)):(Nat->Int)×(Nat->Int)×(Nat->Int)×(Nat->Int)×(Nat->Int)×(Nat->Int)×(Nat->Int)×(Nat->Int)×(Nat->Int):=(λj=>x.1 (o+j),λj=>x.2.1 (o+j),λj=>x.2.2.1 (o+j),λj=>x.2.2.2.1 (o+j),λj=>x.2.2.2.2.1 (o+j),λj=>x.2.2.2.2.2.1 (o+j),λj=>x.2.2.2.2.2.2.1 (o+j),λj=>x.2.2.2.2.2.2.2.1 (o+j),λj=>x.2.2.2.2.2.2.2.2 (o+j))
@[reducible] def aef (o:Nat) (x:(Nat->Int)×(Nat->Int)×(Nat->Int)×(Nat->Int)×(Nat->Int)×(Nat->Int)×(Nat->Int)×(Nat->Int)×(Nat->Int)×(Nat->Int)):(Nat->Int)×(Nat->Int)×(Nat->Int)×(Nat->Int)×(Nat->Int)×(Nat->Int)×(Nat->Int)×(Nat->Int)×(Nat->Int)×(Nat->Int):=(λj=>x.1 (o+j),λj=>x.2.1 (o+j),λj=>x.2.2.1 (o+j),λj=>x.2.2.2.1 (o+j),λj=>x.2.2.2.2.1 (o+j),λj=>x.2.2.2.2.2.1 (o+j),λj=>x.2.2.2.2.2.2.1 (o+j),λj=>x.2.2.2.2.2.2.2.1 (o+j),λj=>x.2.2.2.2.2.2.2.2.1 (o+j),λj=>x.2.2.2.2.2.2.2.2.2 (o+j))
abbrev bZ:=(Int×Int×Int×Int×Int)×Int×Nat×Int
abbrev Hn:=Int×Int×Int×Int×(Int×Int×Int×Int×Int×Int)×(Int×Int×Int×Int×Int×Int)×NI×NI×Int×Int×Int×Int×Int×Int×Int×Int
abbrev eW:=NI×NI×NI×NI×NI×NI×NI×NI×NI
abbrev mG:=Nat×NI×NI×NI×NI×NI×NI×NI×NI×NI
abbrev ET:=(Int×Int×Int×Int)×(Int×Int×Int)×Int×Int×Int
abbrev EU:=Nat×NI×NI×NI×NI×NI×NI×NI×NI×NI×NI
abbrev Oc:=Int×(Int×Int×(Int×Int×Int)×Int×Int×Int)×Bool
abbrev NH:=(NI×NI×(Nat->Bool)×NI×NI×NI)×Int
abbrev SK:=Nat×NI×NI×NI×NI×NI×NI×NI×NI
abbrev ma:=Int×Int×Int
abbrev auR:=Nat×NI×NI×NI×NI×NI×NI×NI×NI×NI×NI×NI×NI×NI×NI×NI×NI×NI×NI×NI×NI
abbrev rV:=Int×Int×Bool×Bool
abbrev uU:=Int×Int×Nat
abbrev aIF:=Nat×NI×NI×NI×NI×NI×NI×NI×NI×NI×NI×NI
abbrev aD2:=Int×Int×Int×Int×Int×Int×Int×Int
abbrev aVI:=Int×Int×Int×Int×Int×Int×Int×Int×Int×Int×Int×Int×Int×Int×Int×Int×Int×Int×Int
abbrev a0P:=(Int×Int×Int×Int×Int×Int×Int×Int×Int×Int×Bool×Int×Int×Int×Int×Bool×Bool)⊕(Int×Int×Int×Int×Int×Int×Int×Int×Int×Bool×Int×Int×Int×Bool)
abbrev a0Q:=Int×Int×Int×Int×Int×Int×Int×Int×Int×Int×Int×Int×Int×Int×Int×Int×NI×NI×Int×Int×Int×Int×Int×Int×Int×Int
abbrev aMK:=NI×NI×(Nat->Bool)×NI×NI×NI
abbrev aSA:=NI×NI×NI×NI×NI×NI×NI×NI×NI×NI
abbrev a0R:=NI×NI×NI×NI×NI×NI×NI×NI×NI×NI×NI×NI×NI×NI×NI×NI×NI×NI×NI×NI×NI×NI×NI×NI
abbrev aML:=(Nat×Bool)×Int×Int×Bool
abbrev aSB:=Int×Int×Int×Int×Int×Int×Int
abbrev aVJ:=Int×(Nat×Bool)×(Nat×Bool)×Int×Int×Bool
abbrev aIG:=Int×Int×Int×Int
abbrev a0S:=Int×Int×Int×Int×Int×Int×Int×Int×Int×Int×Bool×Int×Bool
abbrev aVK:=Int×Int×Int×Int×Int
abbrev RA (b:Type):=Rq (List AV×List af) b
abbrev RS (b:Type):=Rq St b
abbrev RE (b:Type):=Rq oO b
@[reducible] def qa {b:Type} (x:RA b):RA b:=x
@[reducible] def qs {b:Type} (x:RS b):RS b:=x
@[reducible] def qe {b:Type} (x:RE b):RE b:=x
@[reducible] def nO {α:Type}:Rq (Option α) Unit:=Rq.no
def lf {β:Type}(q:RE β)(d:β):T:=.leaf (q.em d)
def ls {A B:Type}(f:A->T)(g:B->T)(x:A⊕B):T:=T.sum x f g
def Ex (X:Type):=∀{ρ:Type},X->(AX->St->Option ρ)->Option ρ
abbrev KT:=AX->St
def ef {X:Type}(a:AX)(q:RS X){ρ:Type}(x:X)(K:AX->St->Option ρ):Option ρ:=K a (q.em x)
abbrev LT {D:Type}(_:RS D)(X:Type):=D->Option X
abbrev PL {D:Type}(_:RS D)(X:Type):=Pg (D⊕X)
structure KK where
 l:List Ct
 hs:Hs
 kk:Nat
 n:Nat
end Go.Ab
namespace Go.Proofs.YtldgljclcgaibaaGreat
section
open Go.Ab Go.Ab.Rq
def dR:=bool true
def eC:=szs hole
def bV:=nat 0
def CU:=nat 1
def rq4:=nat 2
def V4:=ry nil
def rq6:=nat 4
def rq7:=nat 3
def rq8:=nat 6
def rq9:=nat 5
def kX:=nat 11
def du:=nat 9
def zO:=nat 8
def aMM:=nat 13
def auS:=nat 14
def aMN:=nat 15
def aMO:=nat 16
def auT:=nat 17
def aMP:=nat 18
def aMQ:=nat 19
def aIH:=nat 21
def aP:=app 0 1
def gW:=cl ai nil
def wM:=cl gb nil
def aII:=cl an nil
def aMR:=cl ab nil
def aMS:=app 1 2
def Z8:=cu fJ nil
def az4:=app 2 2
def nC:=cl gm nil
def gZ:=cl gi nil
def aqr:=app 1 4
def az5:=app 2 4
def az6:=app 0 24
def aMT:=app 1 3
def Z9:=app 2 3
def UB:=app 1 24
def Ej:=app 2 24
def G8:=app 1 300
def Z':=app 2 300
def aIJ:=app 3 300
def aSC:=us 20 nil
def Q7:=app 1 576
def aIK:=app 1 9
def ald:=app 3 3
def aSD:=app 4 3
def aVL:=us 27 nil
def aVM:=app 2 1152
def aaa:=app 3 1152
def aqs:=app 4 24
def Q8:=app 1 1
def aiY:=app 3 24
def aSE:=app 2 576
def NM:=app 4 300
def aqt:=app 5 48
def az7:=app 2 48
def aIL:=app 4 576
def aqu:=app 5 24
def aIM:=app 2 373
def aIN:=app 3 373
def aMU:=cu V5 nil
def Ia:=app 0 3
def az8:=app 0 37
def V6:=app 0 8
def auU:=app 0 72
def aD3:=app 4 1
def eN:=app 0 434
def aD4:=gp 6 8
def aD5:=gp 7 8
def aD6:=gp 8 8
def aD7:=gp 9 8
def aiZ:=gp 1 5
def ai0:=gp 2 10
def aqv:=gp 10 37
def aqw:=gp 11 3
def az9:=app 2 20
def aSF:=app 3 4
def aSG:=app 5 16
def aSH:=app 6 12
def aSI:=app 3 576
def aSJ:=app 4 12
def aMV:=app 3 1
def aab:=app 20 8
def aVN:=app 21 11
def aSK:=app 20 20
def aSL:=app 1 434
def aSM:=app 2 434
def Ad:=ok' bV
def V7:=szs bV
def auV:=Bu wM
def aSN:=cl (rc cb) nil
def aVO:=ac (slc 0 2)
def Ib:=ac (slc 1 1)
def cD:=so wM
def cP:=cu bV nil
def V8:=ac (slc 0 1)
def aVP:=ac (slc 2 1)
def aD8:=ac (slc 1 3)
def auW:=cl (rc ci) nil
def aMW:=ac (slc 1 24)
def aJ3:=ac (slc 1 27)
def aPN:=ac (slc 0 3)
def aPO:=ac (slc 1 10)
def axR:=cu CU nil
def aPP:=ac (slc 2 10)
def aPQ:=ac (slc 0 9)
def aPR:=ac (yU 1 9)
def aJ4:=gc (yU 3 8)
def aPS:=ac (yU 2 11)
def yV:=c ai gW
def bH:=cl wM nil
def axS:=c gn (cl gn nil)
def aPT:=c gi (cl gn nil)
def asZ:=cu (gp 1 1) nil
def aPU:=xs 8 (us 22 nil)
def aVQ:=cf (fb (bool false))
def aPV:=cl ab (us 14 nil)
def aPW:=cl ab (us 21 nil)
def aPX:=cl ai (us 15 nil)
def aPY:=cl ai (us 26 nil)
def aJ5:=cl ai (us 13 nil)
def aVR:=cl ab (us 12 nil)
def ale:=c gi gZ
def aVS:=cl ai (us 11 nil)
def gR:=gl 24 nC
def aPZ:=cl ai (us 18 nil)
def axT:=cu fJ Z8
def aP0:=cu (gp 2 1) nil
def aP1:=gl 276 nC
def aJ6:=cl ai aSC
def aP2:=cl ai (us 8 nil)
def aVT:=cl ai (us 21 nil)
def aVU:=cl ai (us 22 nil)
def aP3:=cl ai (us 82 nil)
def aJ7:=cl ai (us 24 nil)
def aVV:=cl ai (us 80 nil)
def aVW:=cl ai (us 12 nil)
def aVX:=cl ai (us 32 nil)
def aVY:=cl ab (us 38 nil)
def aVZ:=cu (gp 0 3) nil
def aV0:=cl ai (us 31 nil)
def aV1:=xs 8 (us 1 nil)
def aV2:=cl ai (us 78 nil)
def aP4:=cf (fi .i64 (int 0))
def aP5:=cf (fi .i64 (int 4))
def axU:=cf (fi .i64 (int 1))
def aV3:=cf (fi .i64 (int 5))
def aP6:=afn (pu (nat 96) nil)
def mh:=cl auV nil
def aV4:=res (pl an (pu nil nil))
def V9:=aa axS
def af7:=aa aPT
def Ho:=res (pl ai (pu nil nil))
def Od:=ac (cf (fb dR))
def ui:=ac aVQ
def DQ:=res (pl ab (pu nil nil))
def axV:=cl Ib nil
def aJ8:=cl aD8 nil
def axW:=gc (cf (fb dR))
def abL:=so asZ
def axX:=so aVZ
def af8:=gc aVQ
def EV:=c ai yV
def aV5:=c ai (cl ab (us 30 nil))
def aJ9:=c gm (cl (ki .u64 hole) nil)
def aS:=gc aP4
def aD9:=gc (cf (fi .u64 (int 0)))
def aP7:=c ai (cl ab (us 25 nil))
def aKa:=c ai aVR
def iw:=c gi ale
def axY:=gc (cf (fi .i64 (int 1073741824)))
def as0:=cl gR nil
def aKb:=c ai (cl ab (us 17 nil))
def aP8:=c ai (cl ab (us 19 nil))
def aEa:=cl (gl 576 nC) nil
def aKc:=c ai (cl ab (us 7 nil))
def abM:=cl (gl 9 nC) nil
def aV6:=c ai (cl ab aSC)
def aP9:=gc (cf (fi .i64 (int 2)))
def aKd:=c gb ale
def as1:=c gm (c gm nC)
def aV7:=cl (gl 1152 nC) nil
def aV8:=c ai (cl ab (us 81 nil))
def aV9:=c ai (cl ab (us 29 nil))
def aKe:=c ai (cl ab (us 23 nil))
def aWa:=c ai (cl ab (us 13 nil))
def aQa:=c ai (cl ab (us 11 nil))
def as2:=c kcb (c gm nC)
def aQb:=c ai aJ6
def aWb:=c ai (cl ab (us 31 nil))
def aQc:=c gi (c gi wM)
def abN:=ac aP4
def aWc:=ac (cf (fi .i64 (int 6)))
def aWd:=gc (cf (fi .i64 (int 3000)))
def aWe:=gc (cf (fi .i64 (int 2200)))
def aKf:=gc (cf (fi .i64 (int 500)))
def aWf:=gc (cf (fi .i64 (int 950)))
def aWg:=gc (cf (fi .i64 (int 100)))
def aWh:=gc (cf (fi .i64 (int 1000)))
def aWi:=c ai (cl ab (us 41 nil))
def aEb:=c gn (c gn wM)
def aEc:=cu CU (cu rq4 nil)
def aWj:=cu bV (cu kX nil)
def aEd:=cl af7 nil
def abO:=cl (so aPT) nil
def Oe:=cl auV Z8
def aQd:=c ai axV
def af9:=aa iw
def kY:=aa as0
def nr:=so as0
def yW:=so iw
def aWk:=c ai (cl V8 nil)
def mi:=so aEa
def Hp:=so aV7
def aga:=so (cl (gl 48 nC) nil)
def agb:=ra as0
def aKg:=res (pl ab (pu Z8 nil))
def axZ:=res (pl ai (pu Z8 nil))
def alf:=aa aEb
def aQe:=ry (c (rc ci) aSN)
def aKh:=c ai (cl ai (cu aP nil))
def aWl:=c ai (c ai aPV)
def agc:=c gi iw
def aQf:=xs 3 (us 2 (xs 3 (us 1 nil)))
def aWm:=us 15 (c ai aPY)
def rW:=c gi (c gi (c gb wM))
def aQg:=cu (gc (cf (fi .i64 (int 3)))) nil
def aQh:=c ai aP8
def aQi:=ry (c (rc ci) auW)
def aWn:=ry (cu (rc aWo) auW)
def alg:=cu (rc aP4) nil
def aQj:=cl aQc nil
def aWp:=ox (pu bV (pl hole du))
def as3:=cu (gc (cf (fi .i64 (int (-9223372036854775808))))) nil
def EW:=ox (pu bV (pl hole zO))
def aKi:=cl (ga (pr eC nC)) nil
def Hq:=cl af9 nil
def agd:=aa agc
def wQ:=so agc
def JC:=cl nr nil
def aQk:=cu fJ (cu fJ mh)
def as4:=cl kY nil
def age:=c gi (c gi (cl (gc (yU 2 11)) nil))
def aKj:=c gi (c gi (cl (gc (yU 3 11)) nil))
def aKk:=c gi (c gi (cl (gc (yU 7 11)) nil))
def aQl:=c gi (c gi (cl (gc (yU 4 11)) nil))
def aQm:=res (pl ai (pu axT nil))
def rX:=c gi (c gi (cl (gc (yU 19 11)) nil))
def JD:=so aKi
def aWq:=us 15 (c ai aP7)
def eO:=c gi agc
def aWr:=cu fJ (cu fJ (cu fJ axT))
def qi:=res (pr ai (pl mh nil))
def aWs:=res (pl af7 (pu nil nil))
def aKl:=res (pl V9 (pu nil nil))
def as5:=cl agd nil
def agf:=c kY gW
def aWt:=ry (c (ra aPT) aSN)
def alh:=cl JD nil
def oR:=c aP1 as0
def ax0:=c gR iw
def aEe:=c gi eO
def aQn:=aa (a 3 iw gZ)
def aWu:=c gi (c gi (c gb iw))
def aQo:=xs 3 (us 2 aQf)
def aWv:=ac (NN (pu bV (pu (ok' du) CU)))
def aWw:=ac (NN (pu bV (pu (ok' rq6) rq8)))
def aQp:=ac (NN (pu bV (pu (ok' rq8) CU)))
def aWx:=ac (NN (pu bV (pu (ok' CU) CU)))
def Of:=ac (NN (pu bV (pu (ok' (nat 72)) CU)))
def aWy:=ac (NN (pu bV (pu (ok' (nat 412)) CU)))
def aQq:=ac (NN (pu bV (pu (ok' (nat 399)) CU)))
def aQr:=ac (NN (pu (nat 20) (pu (ok' rq4) CU)))
def aQs:=res (pr ai (pl (cu fJ mh) nil))
def aKm:=res (pr ai (pl Oe nil))
def aWz:=res (pl af9 (pu nil nil))
def aQt:=res (pl kY (pu nil nil))
def aQu:=cl (ga (pr eC as2)) nil
def kZ:=a 3 iw ale
def aWA:=ry (cu (rc ax1) (cu (rc axU) nil))
def aKn:=res (pl alf (pu nil nil))
def aQv:=res (pl (ry (c (rc cn) (cl (rc cn) nil))) (pu nil nil))
def ax2:=res (pl aQe (pu nil nil))
def Ae:=aa oR
def iX:=so oR
def ali:=ra oR
def aQw:=so (cl (ga (pr eC aJ9)) nil)
def aEf:=so (cl (ga (pr eC as1)) nil)
def aWB:=ry (c (ra iw) auW)
def aWC:=gl 6 (c gm (c gm (c kcb as1)))
def aWD:=cu fJ (cu fJ aWr)
def mM:=so kZ
def aWE:=cu V5 (cu V5 (cu V5 (cu V5 (cu V5 (cu V5 aMU)))))
def aWF:=res (pl agd (pu nil nil))
def aWG:=res (pl kY (pu Z8 nil))
def aWH:=res (pr ai (pl aQk nil))
def aWI:=cl (aa ax0) nil
def aWJ:=res (pl aQi (pu Z8 nil))
def aQx:=afn (pu (nat 180) (cu (rc (cp 2 1)) (cu (rc (cp 3 10)) nil)))
def aWK:=c an (c an (c an (c an (c an (c an aPV)))))
def aWL:=res (pu V4 (pl (cl (Bu as0) nil) nil))
def mj:=c gm (c gm (c gm (c gm (c gm as1))))
def aWM:=cl (so aQu) nil
def ax3:=c gi (c gi aEe)
def aKo:=cu fJ aWD
def aQy:=res (pl ai (pu (cu (Bu (cu axW nil)) nil) nil))
def aQz:=res (pl aWt (pu nil nil))
def aQA:=so (cu aS (cu aD9 nil))
def EX:=so ax3
def ax4:=res (pr af9 (pl mh nil))
def aEg:=res (pr kY (pl mh nil))
def aA:=c gm mj
def aQB:=c gi ax3
def lN:=c aWC gZ
def aEh:=res (pu aWA (pu nil nil))
def aWN:=cu fJ (cu V5 aWD)
def Og:=c nr JC
def aWO:=ac (dM (pu CU (pu Ad (pl eC (pu rq4 dR)))))
def aWP:=ac (dM (pu rq6 (pu Ad (pl eC (pu CU dR)))))
def aKp:=c gi (c gi (a 3 iw iw))
def aWQ:=ac (dM (pu rq7 (pu Ad (pl eC (pu CU dR)))))
def aWR:=ac (dM (pu rq8 (pu Ad (pl eC (pu rq7 dR)))))
def aWS:=ac (dM (pu rq6 (pu Ad (pl eC (pu rq7 dR)))))
def aWT:=ac (dM (pu rq9 (pu Ad (pl eC (pu rq7 dR)))))
def aWU:=ac (dM (pu rq9 (pu Ad (pl eC (pu CU dR)))))
def aQC:=res (pr aQi (pl mh nil))
def aWV:=cu ui (xs 2 (cu ui (us 61 nil)))
def aKq:=aa aQB
def aEi:=Bu lN
def lO:=so lN
def aWW:=c an (c an (c an (c an (c an (c an (cl ab (us 19 aPU)))))))
def ax5:=res (pr agd (pl mh nil))
def aWX:=ac (dM (pu CU (pu Ad (pu (szl rq6) (pu CU dR)))))
def kd:=c gm aA
def aQD:=c gi aQB
def aWY:=ry (c (ra ax0) auW)
def aEj:=cl lN nil
def DR:=cl aKq nil
def aWZ:=cl (so aQB) nil
def abP:=cl (aa aKp) nil
def hI:=c gm kd
def ax6:=c gi aQD
def agh:=a 5 eO (c gi (c (gc (yU 1 9)) gZ))
def oB:=a 5 eO (c gi (c (gc (yU 14 9)) gZ))
def oC:=a 5 eO (c gi (c (gc (yU 15 9)) gZ))
def oD:=a 5 eO (c gi (c (gc (yU 16 9)) gZ))
def oE:=a 5 eO (c gi (c (gc (yU 17 9)) gZ))
def oF:=a 5 eO (c gi (c (gc (yU 18 9)) gZ))
def qj:=a 5 eO (c gi (c (gc (yU 13 9)) gZ))
def aKr:=aa (a 3 iw kZ)
def aQE:=res (pr (ry (c (ra ale) auW)) (pl mh nil))
def aQF:=cl (ga (pr eC mj)) nil
def aKs:=dM (pu aIH (pr EW (pl eC (pu zO dR))))
def aQG:=so (c gb (c gb (c gb (c gb (c gb (c gb (c gb (c gb iw))))))))
def aW0:=ac (dM (pu CU (pu (ox (pu bV (pu CU CU))) (pr eC (pu CU hole)))))
def as6:=cu aS (cu aS (cu aS nil))
def aQH:=res (pr Ae (pl mh nil))
def aQI:=c gi ax6
def aW1:=res (pr (aa ax0) (pl mh nil))
def aQJ:=c gR (c gi (c gi (c gi ax0)))
def agi:=cu (gp 4 8) (cu (gp 5 8) (cu aD4 (cu aD5 (cu aD6 (cu aD7 nil)))))
def aW2:=cu axX (cu abL JC)
def aQK:=dM (pu rq7 (pu (ox (pu bV (pu bV zO))) (pl eC (pu zO dR))))
def oG:=so aQF
def aQL:=cl aWC (cu aS nil)
def aQM:=dM (pu aIH (pu (ox (pu bV (pu bV du))) (pl eC (pu du dR))))
def abQ:=c iX (cl aga nil)
def abR:=cl (ga (pr eC aA)) nil
def rY:=a 4 agc (a 3 iw iw)
def ml:=c gi (a 8 aKp wM)
def aKt:=gc aQK
def aQN:=ac (dM (pu bV (pu (ox (pu bV (pu bV kX))) (pl eC (pu kX dR)))))
def aW3:=ac (dM (pu CU (pu (ox (pu bV (pu bV kX))) (pl eC (pu kX dR)))))
def aW4:=res (pr Ae (pl Oe nil))
def jk:=so abR
def as7:=cl (ga (pu V7 aA)) nil
def aW5:=cu eN (us 2 (cu aab (cu Of (us 194 nil))))
def aQO:=cl (ga (pr eC kd)) nil
def aW6:=res (pr (ry (c (ra agc) auW)) (pl mh nil))
def mN:=so ml
def alj:=cl (so aQI) nil
def aW7:=cl (so aQL) nil
def aQP:=cl (aa (c gb (c gb (a 6 (c gb (c gb (c gb (c gb (c gb wM))))) iw)))) nil
def aKu:=c nr Og
def agj:=c gi (c gi (c gi (c gi (c gi (c gi (c gi (c gi (c gi (c gi (c gi abM))))))))))
def oH:=so aQO
def aW8:=c gR (c gR ax3)
def aW9:=cl (ga (pu V7 kd)) nil
def aQQ:=aa (c gi rY)
def aQR:=cl (ga (pr eC hI)) nil
def aKv:=cl aQO nil
def aXa:=so (c gb (c gb (c gb (c gb (c gb (c gb (c gb (c gb (cu (gc (cf (fi .i64 (int 1125899906842624)))) ale)))))))))
def aXb:=c aP1 (c gR (c gR (c gR (cl (gl 25 nC) nil))))
def aXc:=ry (c (ra ax6) aSN)
def Wa:=so aQR
def ax7:=c iX (cl iX nil)
def aEk:=res (pr aWY (pl mh nil))
def aEl:=cl aQR nil
def SL:=so aXb
def aQS:=afn (pu (nat 183) (cu (rc (cp 2 1)) (cu (rc (cp 3 3)) (cu (rc (cp 4 1)) (cu (rc (cp 5 3)) (cu (rc (cp 6 4)) nil))))))
def aQT:=c gi (c gi (cl (gc (dM (pu (nat 20) (pu (ox (pu bV (pu bV kX))) (pl eC (pu kX dR)))))) nil))
def aXd:=c gi (c gi (cl (gc (dM (pu (nat 38) (pu (ox (pu bV (pu bV kX))) (pl eC (pu kX dR)))))) nil))
def aQU:=c gi (c gi (cl (gc (dM (pu aMQ (pu (ox (pu bV (pu bV kX))) (pl eC (pu kX dR)))))) nil))
def aXe:=res (pu (ry (cu (rc (cp 0 5)) alg)) (pu nil (cl eO nil)))
def aQV:=cl (Bu aQR) nil
def Oh:=cl Wa nil
def alk:=c gi (c gi (c gi (c gi aQI)))
def aXf:=cl (cl (ga (pu V7 hI)) nil) nil
def agk:=so (c gi (c gi (cl (gc (dM (pu (nat 29) (pu (ox (pu bV (pu bV kX))) (pl eC (pu kX dR)))))) nil)))
def ax8:=so (c gi (c gi (cl (gc (dM (pu (nat 28) (pu (ox (pu bV (pu bV kX))) (pl eC (pu kX dR)))))) nil)))
def alm:=so (cu aS as6)
def aXg:=cu fJ (cu fJ aQV)
def aln:=cu (so as6) (cl yW nil)
def aXh:=cu fJ (cu fJ (cu fJ (cu fJ (cu fJ (cu fJ (cu fJ (cu fJ (cu fJ (cu fJ (cu fJ aKo))))))))))
def aQW:=cu V5 (cu V5 (cu V5 (cu V5 (cu V5 (cu V5 (cu V5 (cu V5 (cu V5 (cu V5 (cu V5 (cu V5 aWE)))))))))))
def aQX:=c gi (c gi (c gi (a 10 rY (cl (gc (yU 20 10)) nil))))
def aXi:=c gm (c gm (c gm (c gm (c gm (c gm (c gm (c gm (c gm hI))))))))
def alo:=cu fJ aXh
def as8:=a 5 eO (c gi (c (gc (dM (pu (nat 22) (pu (ox (pu bV (pu bV du))) (pl eC (pu du dR)))))) gZ))
def aXj:=a 5 eO (c gi (c (gc (dM (pu (nat 23) (pu (ox (pu bV (pu bV du))) (pl eC (pu du dR)))))) gZ))
def aXk:=a 5 eO (c gi (c (gc (dM (pu (nat 24) (pu (ox (pu bV (pu bV du))) (pl eC (pu du dR)))))) gZ))
def aXl:=a 5 eO (c gi (c (gc (dM (pu (nat 25) (pu (ox (pu bV (pu bV du))) (pl eC (pu du dR)))))) gZ))
def aXm:=a 5 eO (c gi (c (gc (dM (pu (nat 26) (pu (ox (pu bV (pu bV du))) (pl eC (pu du dR)))))) gZ))
def ax9:=a 5 eO (c gi (c (gc (dM (pu (nat 32) (pu (ox (pu bV (pu bV du))) (pl eC (pu du dR)))))) gZ))
def aya:=a 5 eO (c gi (c (gc (dM (pu (nat 33) (pu (ox (pu bV (pu bV du))) (pl eC (pu du dR)))))) gZ))
def abS:=a 5 eO (c gi (c (gc (dM (pu (nat 34) (pu (ox (pu bV (pu bV du))) (pl eC (pu du dR)))))) gZ))
def abT:=a 5 eO (c gi (c (gc (dM (pu (nat 35) (pu (ox (pu bV (pu bV du))) (pl eC (pu du dR)))))) gZ))
def abU:=a 5 eO (c gi (c (gc (dM (pu (nat 36) (pu (ox (pu bV (pu bV du))) (pl eC (pu du dR)))))) gZ))
def abV:=a 5 eO (c gi (c (gc (dM (pu (nat 37) (pu (ox (pu bV (pu bV du))) (pl eC (pu du dR)))))) gZ))
def aQY:=a 5 eO (c gi (c (gc (dM (pu aMM (pu (ox (pu bV (pu bV du))) (pl eC (pu du dR)))))) gZ))
def aQZ:=a 5 eO (c gi (c (gc (dM (pu auS (pu (ox (pu bV (pu bV du))) (pl eC (pu du dR)))))) gZ))
def aQ0:=a 5 eO (c gi (c (gc (dM (pu aMN (pu (ox (pu bV (pu bV du))) (pl eC (pu du dR)))))) gZ))
def aQ1:=a 5 eO (c gi (c (gc (dM (pu aMO (pu (ox (pu bV (pu bV du))) (pl eC (pu du dR)))))) gZ))
def aQ2:=a 5 eO (c gi (c (gc (dM (pu auT (pu (ox (pu bV (pu bV du))) (pl eC (pu du dR)))))) gZ))
def aQ3:=a 5 eO (c gi (c (gc (dM (pu aMP (pu (ox (pu bV (pu bV du))) (pl eC (pu du dR)))))) gZ))
def aXn:=res (pl ai (pu alo nil))
def JE:=so aXj
def JF:=so aXk
def JG:=so aXl
def JH:=so aXm
def Bv:=so (a 5 eO (c gi (c (gc (dM (pu (nat 27) (pu (ox (pu bV (pu bV du))) (pl eC (pu du dR)))))) gZ)))
def Oi:=so (a 5 eO (c gi (c (gc (dM (pu (nat 28) (pu (ox (pu bV (pu bV du))) (pl eC (pu du dR)))))) gZ)))
def alp:=so (a 5 eO (c gi (c (gc (dM (pu (nat 38) (pu (ox (pu bV (pu bV du))) (pl eC (pu du dR)))))) gZ)))
def aEm:=c gm (c gm (c gm (c gm aXi)))
def aXo:=cu aS (cu aS (cu aS as6))
def wR:=ac (cfs (pr hole (pu (nat 20) aXi)))
def aXp:=c iX (c iX (c mi JC))
def aXq:=xs 3 (us 2 (xs 3 (us 2 (xs 3 (us 2 (xs 3 (us 2 (xs 3 (us 2 (xs 3 (us 2 (xs 3 (us 2 (xs 3 (us 2 (xs 3 (us 2 (xs 3 (us 2 aQo)))))))))))))))))))
def Wb:=cu rq6 (cu rq9 (cu rq8 (cu (nat 7) (cu zO (cu du (cu aMQ (cu aMP (cu auT (cu aMO (cu aMN (cu auS (cu aMM (cu kX (cu bV (cu (nat 10) nil)))))))))))))))
def aKw:=c gm (c gm (c gm aEm))
def aXr:=so (cl (ga (pr eC aEm)) nil)
def aXs:=so (c gi (c gi (c gi (cl gi aXo))))
def aXt:=cu fJ (cu fJ (cu fJ (cu fJ (cu fJ (cu fJ (cu fJ (cu fJ (cu fJ (cl aEi (cu fJ aKo))))))))))
def aQ4:=cu fJ (cu fJ (cu fJ (cu fJ (cu fJ (cu fJ (cu fJ (cu fJ (cu fJ (cl aEi aWN)))))))))
def aQ5:=cu fJ aXt
def ayb:=so (c gi (c gi (c gi (c gi (c gi (c gi (c gi (c gi (c gi (c gi (c gi (c gi (c gi (c gi (c gi (c gi aW8))))))))))))))))
def aEn:=cu bV (cu rq6 (cu rq9 (cu rq8 (cu (nat 7) (cu zO (cu du (cu aMQ (cu aMP (cu auT (cu aMO (cu aMN (cu auS (cu aMM (cu (nat 12) (cu rq7 (cu kX (cu rq4 (cu (nat 10) nil))))))))))))))))))
def aKx:=cu aS (cu aS aXo)
def aKy:=c Wa Oh
def oI:=c gi (c gi (c gi (c gi (a 6 aEe (a 6 aEe aW8)))))
def aXu:=c gb (c gb (c gi (c gi (c gi (a 10 rY (cl (gc (dM (pu (nat 12) (pu (ox (pu bV (pu bV (nat 10)))) (pl eC (pu (nat 10) dR)))))) nil))))))
def aXv:=res (pu V4 (pl aQ5 nil))
def alq:=cu aMQ (cu aMP (cu auT (cu aMO (cu aMN (cu auS (cu aMM (cu (nat 12) (cu kX (cu (nat 10) (cu rq7 (cu rq4 (cu CU (cu bV (cu rq6 (cu rq9 (cu rq8 (cu (nat 7) (cu zO (cu du nil)))))))))))))))))))
def aXw:=res (pu (ac (dM (pu CU (pu Ad (pu (szl rq7) (pu (nat 27) dR)))))) (pr mh (cl (c gR (c gi (c gi (c gi aQJ)))) nil)))
def aXx:=cl gi (cu aS (cu aS (cu aS (cu aS (cu aS (cu aS (cu aS (cu aS (cu af8 nil)))))))))
def aXy:=so (cu aS (cu aS aKx))
def aQ6:=au 6 agi (cu aqv (a 4 rW (cu aqw (c gb (c gi (a 3 iw (c gb (c gb (c gb (c gi (c gi (c gi (a 10 rY (cl (gc (dM (pu (nat 22) (pu (ox (pu bV (pu bV (nat 10)))) (pl eC (pu (nat 10) dR)))))) nil))))))))))))))
def aXz:=au 6 (cu (gp 23 8) (cu (gp 24 8) (cu (gp 25 8) (cu (gp 26 8) (cu (gp 27 8) (cu (gp 28 8) nil)))))) (cu (gp 29 37) (a 4 rW (cu (gp 30 3) (c gb (c gi (a 3 iw (c gb (c gb (c gb (c gi (c gi (c gi (a 10 rY (cl (gc (dM (pu (nat 31) (pu (ox (pu bV (pu bV (nat 10)))) (pl eC (pu (nat 10) dR)))))) nil))))))))))))))
def aQ7:=cu (gc (cf (fi .i64 (int 8000)))) (cu (gc (cf (fi .i64 (int 40000)))) (cu (gc (cf (fi .i64 (int 16)))) (cu (gc aV3) (c gi (c gi (c gi (c gi (c gi (c gi (c gi (c gi (c gi (c gi (c gi (c gi (c gR (cl gR (cu (gc (cf (fi .i64 (int 5000000)))) (cu (gc (cf (fi .i64 (int 68719476736)))) (cu (gc axU) (cu (gc (cf (fi .i64 (int 268435456)))) (cu (gc (cf (fi .i64 (int 32)))) as6))))))))))))))))))))))
def aXA:=st (pr (us 4 (cu aMV (cu aD3 (us 8 (cu (app 5 3) (cu (app 6 3) (cu (app 7 4) (cu (app 8 4) aVV)))))))) (pl (c (so age) (c cD (c Wa (cu axX (cu abL (c yW (c yW (c wQ (cl wQ nil))))))))) aEc))
def aEo:=c jk (c jk (c jk (c jk (c jk (c jk Oh)))))
def aEp:=a 26 oI (c gb (c gR (a 2 oR (cu (gp 2 5) (cu (gp 3 10) (c (gc (yU 4 8)) (au 6 (cu (gp 5 8) (cu aD4 (cu aD5 (cu aD6 (cu aD7 (cu (gp 10 8) nil)))))) (cu (gp 11 37) (a 4 rW (cu (gp 12 3) (c gb (c gi (a 3 iw (c gb (c gb (c gb (c gi (c gi (c gi (a 10 rY (cl (gc (yU 13 10)) nil)))))))))))))))))))))
def pP:=a 26 oI (c gb (c gR (a 2 oR (cu aiZ (cu ai0 (c aJ4 (au 6 agi (cu aqv (a 4 rW (cu aqw (c gb (c gi (a 3 iw (c gb (c gb (c gb (c gi (c gi (c gi (a 10 rY (cl (gc (yU 12 10)) nil)))))))))))))))))))))
def aXB:=Bu (a 26 oI (c gb (c gR (a 2 oR (cu aiZ (cu ai0 (c aJ4 (au 6 agi (cu aqv (a 4 rW (cu aqw (c gb (c gi (a 3 iw (c gb (c gb (c gb aQX)))))))))))))))))
def aQ8:=c aQO (c abR (c abR (c abR (c abR (c abR (c abR aEl))))))
def Oj:=c oH aEo
def aQ9:=a 26 oI (c gb (c gR (a 2 oR (cu (gp 20 5) (cu (gp 21 10) (c (gc (dM (pu (nat 22) (pr EW (pl eC (pu zO dR)))))) aXz))))))
def aRa:=a 26 oI (c gb (c gR (a 2 oR (cu aiZ (cu ai0 (c (gc (dM (pu rq7 (pr EW (pl eC (pu zO dR)))))) (au 6 agi (cu aqv (a 4 rW (cu aqw (c gb (c gi (a 3 iw (c gb aXu))))))))))))))
def aRb:=so (a 26 oI (c gb (c gR (a 2 oR (cu aiZ (cu ai0 (c (gc aKs) aQ6)))))))
def aEq:=so (a 26 oI (c gb (c gR (a 2 oR (cu aiZ (cu ai0 (c aKt aQ6)))))))
def ayc:=so (a 26 oI (c gb (c gR (a 2 oR (cu aiZ (cu ai0 (c aKt (au 6 agi (cu aqv (a 4 rW (cu aqw (c gb (c gi (a 3 iw (c gb (c gb (c gb (c gi (c gi (c gi (a 10 rY (cl (gc (dM (pu aIH (pu (ox (pu bV (pu bV (nat 10)))) (pl eC (pu (nat 10) dR)))))) nil))))))))))))))))))))))
def aRc:=a 26 oI (c gb (c gR (a 2 oR (cu aiZ (cu ai0 (c aKt (au 6 agi (cu aqv (a 4 rW (cu aqw (cu axW (c gi (a 3 iw (cu axW aXu))))))))))))))
def as9:=res (pu V4 (pl (c (Bu pP) aXt) nil))
def aXC:=res (pu V4 (pr (cl aXB (cu fJ (cu fJ (cu fJ (cu fJ (cu fJ (cu fJ (cu fJ (cu fJ (cu fJ (cu fJ aWN))))))))))) aKv))
def aRd:=c kZ (c ml (c aQF (c ax9 (c aya (c abS (c abT (c abU (c abV (c lN (c aXd aQ8))))))))))
def aEr:=c (so aQ9) (cu nO (cu nO (cu nO (cu nO (cu nO (cu nO (cu nO (cu nO (cu nO (cu nO (cu nO (cu nO (cu nO (cu nO (cu nO (cu nO (cu nO (cu nO (cu nO (c mM (c mN (c oG (c (so ax9) (c (so aya) (c (so abS) (c (so abT) (c (so abU) (c (so abV) (c lO (c (so aXd) Oj))))))))))))))))))))))))))))))
def aRe:=st (pr (cu eN (us 2 (cu aab (cu Of (us 178 (cu eN (cu eN (cu aWy aVR)))))))) (pl (c ayc (c mM (c mN (c oG (c (so as8) (c JE (c JF (c JG (c JH (c Bv (c lO (c ax8 (c oH (cu nO (cu nO (cu nO (cu nO (cu nO (cu nO (cu nO (c EX Oj))))))))))))))))))))) Wb))
def aRf:=st (pr (cu eN (us 2 (cu aab (cu Of (us 178 (cu eN (cu eN (cu aWy (c ab (cu eN (cu eN (cu (ac (NN (pu bV (pu (ok' (nat 411)) CU)))) (cu (app 11 3) (cu Of (cu eN (cu eN (cu (ac (NN (pu bV (pu (ok' (nat 73)) (nat 24))))) (c kY (cu (app 20 1) yV))))))))))))))))))) (pl (c ayc (c mM (c mN (c oG (c (so as8) (c JE (c JF (c JG (c JH (c Bv (c lO (c ax8 (c oH (cu nO (cu nO (cu nO (cu nO (cu nO (cu nO (cu nO (c EX Oj))))))))))))))))))))) Wb))
end
open Go.Ab
abbrev TP:=Tryz.prog
abbrev D0 {β δ:Type}(l:List Ct)(n:Nat)(Q:RA β)(R:δ->T)(B:β->Pg δ):Prop:=alr TP l ⟨[],[],[],[],none⟩ 2000 n Q R B
abbrev D1 {β δ:Type}(l:List Ct)(d0:List Nat)(n:Nat)(Q:RA β)(R:δ->T)(B:β->Pg δ):Prop:=alr TP l ⟨[],[],d0,[],none⟩ 2000 n Q R B
abbrev D2 {β δ:Type}(k:KK)(Q:RA β)(R:δ->T)(B:β->Pg δ):Prop:=alr TP k.l k.hs 2000 k.n Q R B
abbrev LI {D X:Type}(k:KK)(id:Nat)(Q:RS D)(E:∀{ρ:Type},X->(AX->St->Option ρ)->Option ρ)(S:D->Pg (D⊕X)):Prop:=aSO TP k.l k.hs k.kk 2000 k.n id Q E S
abbrev JI {D X:Type}(k:KK)(id:Nat)(Q:RS D)(E:∀{ρ:Type},X->(AX->St->Option ρ)->Option ρ)(S:D->Pg X):Prop:=aSP TP k.l k.hs k.kk 2000 k.n id Q E S
section
variable [ax]
abbrev SC (e:Ct):Prop:=Snd TP e
theorem sc {e:Ct}{n:Nat}{F:EY}(S:Sound TP n F)(h:e=(n,F):=by kernel_rfl):SC e:=Snd.of S h
theorem k0 {β δ:Type}{l:List Ct}{d0:List Nat}{n:Nat}{Q:RA β}{R:δ->T}{B:β->Pg δ}(hl:JJ TP l)(h:alr TP l ⟨[],[],d0,[],none⟩ 2000 n Q R B)(hc:Gr TP n=true:=by kernel_rfl):Sound TP n (FC Q R λb=>(B b).val):=mk0 mixed hl hc h
theorem s0 {β δ:Type}{e:Ct}{l:List Ct}{d0:List Nat}{n:Nat}{Q:RA β}{R:δ->T}{B:β->Pg δ}(hl:JJ TP l)(h:alr TP l ⟨[],[],d0,[],none⟩ 2000 n Q R B)(he:e=(n,FC Q R λb=>(B b).val):=by kernel_rfl)(hc:Gr TP n=true:=by kernel_rfl):SC e:=Snd.of (mk0 mixed hl hc h) he
theorem kS {β δ:Type}{k:KK}{Q:RA β}{R:δ->T}{B:β->Pg δ}(hl:JJ TP k.l)(i j:List Nat)
  (h1:A9 (λa=>∀kk,Ol TP (EZ k.l) k.hs (tmpsOf TP k.n) kk 2000 a) (i.map (aac TP k.n)))
  (h2:A9 (λb=>∀kk,auX TP (EZ k.l) k.hs (tmpsOf TP k.n) kk 2000 b) (j.map (agl TP k.n)))
  (h:D2 k Q R B)(e1:Ll (aad TP k.n)=i.map (aac TP k.n):=by kernel_rfl)(e2:Lm k.hs (aad TP k.n)=j.map (agl TP k.n):=by kernel_rfl)(hc:Gr TP k.n=true:=by kernel_rfl):
  Sound TP k.n (FC Q R λb=>(B b).val):=mkS mixed hl hc (Ln.by e1 h1 e2 h2) h
theorem kL {D X:Type}{k:KK}{id:Nat}{Q:RS D}{E:∀{ρ:Type},X->(AX->St->Option ρ)->Option ρ}{S:D->Pg (D⊕X)}(h:LI k id Q E S)
  (h0:aqx k.hs (aac TP k.n id)=some (fV id k.kk Q E (bC S 2000)):=by kernel_rfl):∀k',Ol TP (EZ k.l) k.hs (tmpsOf TP k.n) k' 2000 (aac TP k.n id):=mkL h0 h
theorem kJ {D X:Type}{k:KK}{id:Nat}{Q:RS D}{E:∀{ρ:Type},X->(AX->St->Option ρ)->Option ρ}{S:D->Pg X}(hd:Hd)(h:JI k id Q E S)
  (h0:aAa k.hs (agl TP k.n id)=some ⟨hd,fV id k.kk Q E λd=>(S d).val⟩:=by kernel_rfl):∀k',auX TP (EZ k.l) k.hs (tmpsOf TP k.n) k' 2000 (agl TP k.n id):=mkJ h0 h
theorem kN {k:KK}{c:Code}(h:aqx k.hs c=none:=by kernel_rfl):∀k',Ol TP (EZ k.l) k.hs (tmpsOf TP k.n) k' 2000 c:=Ol.no h
end
end Go.Proofs.YtldgljclcgaibaaGreat
namespace Go.Ab
variable [ax]
omit [ax] in
theorem aAz:∀{h:List af} {cs:List Ch} {j:Nat},cs[j]? =some .kill->(((after h cs)[j]?).getD none)=none
 | [],cs,j,_=>by simp[after]
 |b0::bs,[],j,h=>by simp at h
 |b0::bs,c::cs,0,h=>by
  simp only[aEs,gS] at h;subst h;simp[after]
 |b0::bs,c::cs,j+1,h=>by
  have:=aAz (h:=bs) (cs:=cs) (j:=j) (by simpa using h);cases c<;>simpa[after] using this
theorem ayJ {P:Program}{π:Pi}{w w':World}{h:List af}{cs:List Ch}{k:af}{val:AV}{v:Value}{B s e:Nat}(hH:r9 π (hC (h.map some)) (hZ (h.map some)) w)(jK:∀b,π b≠none->b<h.length)
  (JQ:∀b,b<h.length->cs[b]? =some .mb∨cs[b]? =some .kill)(hfr:ck w (CW π h.length (SW cs)) w')(hle:s+af.size k<=e)(pE:∀i,s<=i->i<e->(cl w' B i).isSome=true/\fz w' B i=false)
  (hk:∀j,j<af.size k->∃v,cl w' B (s+j)=some v/\(af.get k j).rel π v)
  (hpl:(w.heap.size<=B)∨∃b s0 q0 e0,b<h.length/\cs[b]? =some .kill/\π b=some (B,s0,q0,e0)/\s0<=s/\e<=e0)
  (ham:Ak w')(hlb:s<e->ax.h0<=B)(hv:∀π':Pi,Ext π π'->π' h.length=some (B,s,af.size k,e)->val.rel π' v):
  aJg P π w h ⟨val,cs,[k]⟩ (.returned v) w':=by
 have h0:π h.length=none:=by
  cases hh:π h.length with
  |none=>rfl
  |some p=>exact absurd (jK _ (by rw[hh];simp)) (Nat.lt_irrefl _)
 have hx:=Al h0 (B,s,af.size k,e);have ayK:=py π h.length (B,s,af.size k,e);have agU:∀b,b≠h.length->zV π h.length (B,s,af.size k,e) b=π b:=λb hb=>by simp only[zV,if_neg hb]
 have a1b:(oO.heap ⟨val,cs,[k]⟩ h)[h.length]? =some (some k):=ab6 (r:=⟨val,cs,[k]⟩) (h:=h) (k:=0) rfl;have hlen:(oO.heap ⟨val,cs,[k]⟩ h).length=h.length+1:=by simp[oO.heap,mP]
 have live:∀b,hZ (oO.heap ⟨val,cs,[k]⟩ h) b≠none->b=h.length∨(b<h.length/\cs[b]? =some .mb/\∃kb,h[b]? =some kb/\(oO.heap ⟨val,cs,[k]⟩ h)[b]? =some (some kb)):=λb hb=>by
  rcases agm b h.length with mH|heq|hgt
  .right
   rcases JQ b mH with hc|hc
   .have hkb:h[b]? =some (h[b]'mH):=j7 _;exact⟨mH,hc,_,hkb,(DB mH).trans (agP.2 hc _ hkb)⟩
   .exfalso;apply hb
    unfold hZ;rw[DB mH,aAz hc];rfl
  .exact .inl heq
  .exfalso;apply hb
   unfold hZ;rw[DS (by omega)];rfl
 have kept:∀b kb,b<h.length->cs[b]? =some .mb->h[b]? =some kb->∃Bb sb eb,π b=some (Bb,sb,af.size kb,eb)/\sb+af.size kb<=eb/\
   (∀i,sb<=i->i<eb->(cl w' Bb i).isSome=true/\fz w' Bb i=false)/\(∀j,j<af.size kb->∃v,cl w' Bb (sb+j)=some v/\(af.get kb j).rel π v)/\∀i,sb<=i->i<eb->Bb<w.heap.size/\¬CW π h.length (SW cs) Bb i:=λb kb mH hc hkb=>by
  have hzb:hZ (h.map some) b=some (af.size kb):=by rw[Qq,hkb];rfl
  obtain⟨Bb,sb,eb,p1,p2,p3,p4⟩:=hH.hp b _ hzb
  have hnf:∀i,sb<=i->i<eb->Bb<w.heap.size/\¬CW π h.length (SW cs) Bb i:=λi i1 i2=>by
   refine⟨ab5 (p3 i i1 i2).1,?_⟩;rintro ⟨b2,s2,q2,e2,DY,hd2,hp2,j1,j2⟩
   have mc:b≠b2:=λe=>by subst e;exact hd2 hc
   have Vg:hZ (h.map some) b2≠none:=by
    rw[Qq,j7 DY];simp
   exact hH.dj b b2 Bb sb _ eb s2 q2 e2 mc (by rw[hzb];simp) Vg p1 hp2 i i1 i2 j1 j2
  refine⟨Bb,sb,eb,p1,p2,λi i1 i2=> ?_,λj hj=> ?_,hnf⟩
  .obtain⟨hB,hn⟩:=hnf i i1 i2;rw[hfr.cl hB hn,hfr.fz hB];exact p3 i i1 i2
  .obtain⟨v,hv1,hv2⟩:=p4 j hj;obtain⟨hB,hn⟩:=hnf (sb+j) (by omega) (by omega);refine⟨v,by rw[hfr.cl hB hn];exact hv1,?_⟩;rw[aDU hkb hj] at hv2;exact hv2
 have apart:∀b kb Bb sb qb eb,b<h.length->cs[b]? =some .mb->h[b]? =some kb->π b=some (Bb,sb,qb,eb)->Bb=B->∀i,sb<=i->i<eb->s<=i->i<e->False:=λb kb Bb sb qb eb mH hc hkb hpb hBB i i1 i2 i3 i4=>by
  obtain⟨B1,s1,e1,q1,_,_,_,q5⟩:=kept b kb mH hc hkb;rw[hpb] at q1;cases q1;obtain⟨hB,hn⟩:=q5 i i1 i2;rcases hpl with hpl| ⟨b2,s2,q2,e2,DY,hc2,hp2,j1,j2⟩
  .omega
  .apply hn
   rw[hBB];exact⟨b2,s2,q2,e2,DY,by unfold SW;rw[hc2];simp,hp2,by omega,by omega⟩
 refine⟨zV π h.length (B,s,af.size k,e),v,rfl,hx,hv _ hx ayK,⟨ham,λb B1 s1 q1 e1 hz hp A8=> ?_,λb n hz=> ?_,λb b' B1 s1 q1 e1 s2 q2 e2 mc hz tV hp uj i i1 i2 i3 i4=> ?_⟩,hfr,λb hb=> ?_,λb B1 s1 q1 e1 a3I hb hB i i1 i2=> ?_⟩
 .rcases live b hz with rfl| ⟨mH,hc,kb,hkb,_⟩
  .rw[ayK] at hp;cases hp;exact hlb A8
  .rw[agU b (by omega)] at hp;exact hH.lb b B1 s1 q1 e1 (by rw[Qq,hkb];simp) hp A8
 .rcases live b (by rw[hz];simp) with rfl| ⟨mH,hc,kb,hkb,hgb⟩
  .rw[aar a1b] at hz;cases hz;refine⟨B,s,e,ayK,hle,pE,λj hj=> ?_⟩;obtain⟨v,hv1,hv2⟩:=hk j hj;refine⟨v,hv1,?_⟩;rw[agQ a1b hj];exact CV.dC hx _ _ hv2
  .rw[aar hgb] at hz;cases hz;obtain⟨Bb,sb,eb,p1,p2,p3,p4,_⟩:=kept b kb mH hc hkb;refine⟨Bb,sb,eb,by rw[agU b (by omega)];exact p1,p2,p3,λj hj=> ?_⟩;obtain⟨v,hv1,hv2⟩:=p4 j hj;refine⟨v,hv1,?_⟩;rw[agQ hgb hj];exact CV.dC hx _ _ hv2
 .rcases live b hz with rfl| ⟨mH,hc,kb,hkb,_⟩
  .rcases live b' tV with rfl| ⟨a1c,hc',kb',aYy,_⟩
   .exact mc rfl
   .rw[ayK] at hp;cases hp;rw[agU b' (by omega)] at uj;exact apart b' kb' _ _ _ _ a1c hc' aYy uj rfl i i3 i4 i1 i2
  .rw[agU b (by omega)] at hp;rcases live b' tV with rfl| ⟨a1c,hc',kb',aYy,_⟩
   .rw[ayK] at uj;cases uj;exact apart b kb _ _ _ _ mH hc hkb hp rfl i i1 i2 i3 i4
   .rw[agU b' (by omega)] at uj;have Vf:hZ (h.map some) b≠none:=by rw[Qq,hkb];simp
    have Vg:hZ (h.map some) b'≠none:=by rw[Qq,aYy];simp
    exact hH.dj b b' B1 s1 q1 e1 s2 q2 e2 mc Vf Vg hp uj i i1 i2 i3 i4
 .show b<h.length+1;by_cases e:b=h.length
  .omega
  .rw[agU b e] at hb;have:=jK b hb;omega
 .by_cases e':b=h.length
  .subst e';rw[ayK] at hb;cases hb;rcases hpl with hpl| ⟨b2,s2,q2,e2,DY,hc2,hp2,j1,j2⟩
   .omega
   .exact⟨b2,s2,q2,e2,DY,by unfold SW;rw[hc2];simp,hp2,by omega,by omega⟩
  .rw[agU b e'] at hb;have:=jK b (by rw[hb];simp);omega
end Go.Ab
namespace Go.Proofs.YtldgljclcgaibaaGreat
open Go.RowKit Go.Lib Go.Ab
theorem aaw {P:Program}(w:World)(dT sT ty e:TypeId)(z b o aTo a3P:Nat)(a:Addr)(aNW a1d:Nat)(cs:List Value)(hu:P.underlying dT=some (.slice e))(hz:iH P e=some z)(hn:cs.length=Nat.min aNW aTo*z)
  (a3Q:∀j v,cs[j]? =some v->w.cell? (a.add j)=some v)(hc:∀j,j<cs.length->(w.cell? ⟨b,o+j,none⟩).isSome=true)(hf:∀j,j<cs.length->w.frozen? ⟨b,o+j,none⟩=false)(h1:∀v∈cs,v.oneCell'=true):
  (Builtin.copy_ #[dT,sT] ty #[.slice (some ⟨b,o,none⟩) aTo a3P,.slice (some a) aNW a1d]).run P w=.ok (goInt (Nat.min aNW aTo)) (w.setCells b o cs):=by
 have hl:=run_firstCells_some (P:=P) w z (Nat.min aNW aTo) a aNW a1d cs hn a3Q;have hst:=run_storeCells_cells (P:=P) b o cs 0 w (by simpa using hc) (by simpa using hf) h1;simp[Builtin.copy_,run_underlying hu,Builtin.lenOf,Ab.run_sizeOf hz,hl,hst]
theorem uT:Tryz.prog.underlying 140=some (.slice 42):=by kernel_rfl
theorem uE:iH Tryz.prog 42=some 9:=by kernel_rfl
set_option maxHeartbeats 4000000 in
set_option maxRecDepth 100000 in
theorem aRL (b off n c i vb CZ vc:Nat)(cs vs:List Value)(w:World)(hi:i<n)(SV:n+1<=c)(hvb:vb=b->CZ+9<=off∨off+(n+1)*9<=CZ)(DX:cs.length=n*9)(hvl:vs.length=9)(a7g:n+1<=9223372036854775807)
  (JQ:∀j v,cs[j]? =some v->w.cell? ⟨b,off+j,none⟩=some v)(hsp:∀j,j<(n+1)*9->(w.cell? ⟨b,off+j,none⟩).isSome=true)(hfz:∀j,j<(n+1)*9->w.frozen? ⟨b,off+j,none⟩=false)
  (hvs:∀j v,vs[j]? =some v->w.cell? ⟨vb,CZ+j,none⟩=some v)(h1c:∀v∈cs,v.oneCell'=true)(h1v:∀v∈vs,v.oneCell'=true)
  (hov:∀cb,(callFunc 145 #[.slice (some ⟨vb,CZ,none⟩) 1 vc,.slice (some ⟨b,off+(i+1)*9,none⟩) (n-i) cb]).run Tryz.prog w=.ok (.value (.bool false)) w):
  Calls Tryz.prog 97 #[.slice (some ⟨b,off,none⟩) n c,.int .i64 i,.slice (some ⟨vb,CZ,none⟩) 1 vc] w λe w'=>
   e=.returned (.slice (some ⟨b,off,none⟩) (n+1) c)/\w'=(w.drew.setCells b (off+(i+1)*9) (cs.drop (i*9))).setCells b (off+i*9) vs:=by
 have mixed:=mixed;have Vg:¬((i:Int)=(n:Int)):=by omega
 have hdl:(cs.drop (i*9)).length=(n-i)*9:=by rw[atc,DX];omega
 have hw1:IntKind.i64.wrap ((i:Int)+1)=(i:Int)+1:=by rw[IntKind.wrap_i64];omega
 have hw2:IntKind.i64.wrap ((n:Int)+1)=(n:Int)+1:=by rw[IntKind.wrap_i64];omega
 have hb1:(0:Int)<=(i:Int)+1:=by omega
 have hin:i<=n:=by omega
 have htn:((i:Int)+1).toNat=i+1:=by omega
 have DY:¬(c=i+1):=by omega
 have hb3:(i:Int)<=(n:Int)+1:=by omega
 have hb4:¬(c=i):=by omega
 have hb5:¬((c:Int)<(n:Int)+1):=by omega
 have a1e:∀ty dc sc,(Builtin.copy_ #[140,140] ty #[.slice (some ⟨b,off+(i+1)*9,none⟩) (n-i) dc,.slice (some ⟨b,off+i*9,none⟩) (n+1-i) sc]).run Tryz.prog w.drew=.ok (goInt (Nat.min (n+1-i) (n-i))) (w.drew.setCells b (off+(i+1)*9) (cs.drop (i*9))):=λty dc sc=>
  aaw w.drew _ _ ty 42 9 b (off+(i+1)*9) (n-i) dc ⟨b,off+i*9,none⟩ (n+1-i) sc (cs.drop (i*9)) uT uE (by rw[hdl];simp only[Nat.min_def];split<;>omega)
   (λj v hj=>by rw[Addr.add_lit,Bw];exact JQ (i*9+j) v (by rwa [Lp] at hj))
   (λj hj=>by rw[Bw];exact hsp _ (by omega)) (λj hj=>by rw[Bw];exact hfz _ (by omega)) (λv hv=>h1c v (List.mem_of_mem_drop hv))
 obtain⟨W1,hW1⟩:∃W1,W1=w.drew.setCells b (off+(i+1)*9) (cs.drop (i*9)):=⟨_,rfl⟩
 have a3R:∀k,k<(n+1)*9->(W1.cell? ⟨b,off+k,none⟩).isSome=true:=λk hk=>by
  rw[hW1];exact Go.Proofs.isSome_setCells b _ _ _ (λj hj=>by rw[Bw];exact hsp _ (by omega)) _ (hsp k hk)
 have a3S:∀(W:World),(∀x,W.cell? x=W1.cell? x)->(∀x,W.frozen? x=W1.frozen? x)->∀ty dc,(Builtin.copy_ #[140,140] ty #[.slice (some ⟨b,off+i*9,none⟩) (n+1-i) dc,.slice (some ⟨vb,CZ,none⟩) 1 vc]).run Tryz.prog W=.ok (goInt (Nat.min 1 (n+1-i))) (W.setCells b (off+i*9) vs):=λW hWc hWf ty dc=>
  aaw W _ _ ty 42 9 b (off+i*9) (n+1-i) dc ⟨vb,CZ,none⟩ 1 vc vs uT uE (by rw[hvl];simp only[Nat.min_def];split<;>omega)
   (λj v hj=>by
    have hj9:=(ld.1 hj).1
    rw[Addr.add_lit,hWc,hW1,World.cell?_setCells_out b _ _ _ _ (λh _=>by
     have:=hvb h;show CZ+j<_∨_<=CZ+j;omega)]
    exact hvs j v hj)
   (λj hj=>by rw[hWc,Bw];exact a3R _ (by omega)) (λj hj=>by rw[hWf,hW1,World.frozen?_setCells,Bw];exact hfz _ (by omega)) h1v
 rw[<-hW1] at a1e;go_enter Tryz.func97,Tryz.ntmps97
 go_wp2_with (simp only[hov])
 go_region_law_o (refine step_copy_runI rfl _ _ 140 140 rfl _ _ (by simp[Act.eval,Act.put]) (by simp[Act.eval,Act.put]) (a1e _ _ _) ?_)
 go_wp2_with (at_builtin;refine wpList_copy_runI _ rfl _ _ 140 140 rfl _ _ rfl rfl (a3S _ (λ_=>rfl) (λ_=>rfl) _ _) ?_)
 go_ret
 first|exact⟨rfl,rfl⟩|exact⟨rfl,by rw[hW1]⟩
set_option maxHeartbeats 4000000 in
set_option maxRecDepth 100000 in
theorem aNX (base:Option Addr)(n c vb CZ vc:Nat)(w w2:World)(v2:Value)
  (hrz:∀ty,(Builtin.append_ #[140,140] ty #[.slice base n c,.slice (some ⟨vb,CZ,none⟩) 1 vc]).run Tryz.prog w=.ok v2 w2):
  Calls Tryz.prog 97 #[.slice base n c,.int .i64 n,.slice (some ⟨vb,CZ,none⟩) 1 vc] w λe w'=>e=.returned v2/\w'=w2:=by
 have mixed:=mixed;go_enter Tryz.func97,Tryz.ntmps97
 go_wp2_with (at_builtin;refine Lib.wpList_append_run _ rfl _ _ _ _ rfl _ _ rfl rfl _ _ (hrz _) ?_)
 all_goals (go_ret;exact⟨rfl,rfl⟩)
theorem iE:∃i z,Tryz.prog.info? 42=some i/\i.zero=some z/\i.size=9/\i.bytes=72/\z.cells.size=9:=by
 have h:(Tryz.prog.info? 42).map (λi=>(i.size,i.bytes,(i.zero.map λz=>z.cells.size)))=some (9,72,some 9):=by kernel_rfl
 cases hi:Tryz.prog.info? 42 with
 |none=>rw[hi] at h;cases h
 |some i=>
  rw[hi] at h;simp only[Lt,gS,ql] at h;obtain⟨h1,h2,h3⟩:=h;cases hz:i.zero with
  |none=>rw[hz] at h3;cases h3
  |some z=>rw[hz] at h3;exact⟨i,z,rfl,hz,h1,h2,by simpa using h3⟩
theorem uI:Tryz.prog.underlying 3=some (.int .i64):=by kernel_rfl
set_option maxHeartbeats 4000000 in
set_option maxRecDepth 100000 in
theorem aUu (b off n c i vb CZ vc:Nat)(cs vs:List Value)(w:World)(hi:i<n)(hnc:n<=c)(SV:c<n+1)(aAl:(n+1)*72<=140737488355328)(DX:cs.length=n*9)(hvl:vs.length=9)
  (JQ:∀j v,cs[j]? =some v->w.cell? ⟨b,off+j,none⟩=some v)(hvs:∀j v,vs[j]? =some v->w.cell? ⟨vb,CZ+j,none⟩=some v)(h1c:∀v∈cs,v.oneCell'=true)(h1v:∀v∈vs,v.oneCell'=true):
  ∃G C2,n+1<=G/\C2.size=G*9/\(∀j v,j<i*9->cs[j]? =some v->C2[j]? =some v)/\
  Calls Tryz.prog 97 #[.slice (some ⟨b,off,none⟩) n c,.int .i64 i,.slice (some ⟨vb,CZ,none⟩) 1 vc] w λe w'=>
   e=.returned (.slice (some ⟨w.heap.size,0,none⟩) (n+1) G)/\
   w'=(((w.alloc (.cells C2 42)).drew.setCells w.heap.size (i*9) vs).drew).setCells w.heap.size ((i+1)*9) (cs.drop (i*9)):=by
 have mixed:=mixed;obtain⟨i0,z0,hi0,NK,hzs,hzb,hzl⟩:=iE;have Vg:¬((i:Int)=(n:Int)):=by omega
 have hz3:(c:Int)<(n:Int)+1:=by omega
 have hbw:b<w.heap.size:=block_lt_of_cell (JQ 0 _ (j7 (by omega)));have hvw:vb<w.heap.size:=block_lt_of_cell (hvs 0 _ (j7 (by omega)));have hkk:(n:Int)+1-(i:Int)=((n+1-i:Nat):Int):=by omega
 have hik:i+(n+1-i)=n+1:=by omega
 have htl:(cs.take (i*9)).length=i*9:=by rw[List.length_take];omega
 have hold:(Builtin.firstCells i0.size i (.slice (some ⟨b,off,none⟩) i c)).run Tryz.prog w.drew=.ok (cs.take (i*9)).toArray w.drew:=by
  rw[hzs]
  exact run_firstCells_some w.drew 9 i ⟨b,off,none⟩ i c (cs.take (i*9)) htl (λj v hj=>by
   rw[Addr.add_lit];rw[Wf] at hj;split at hj
   .exact JQ j v hj
   .cases hj)
 have hrz:∀ty,(Builtin.append_ #[140,3] ty #[.slice (some ⟨b,off,none⟩) i c,.int .i64 ((n:Int)+1-(i:Int))]).run Tryz.prog w=
   .ok (.slice (some ⟨w.heap.size,0,none⟩) (n+1) (grownCap w (n+1) c 42)) (w.drew.alloc (.cells ((cs.take (i*9)).toArray++Builtin.zeroCells z0.cells (n+1-i)++Builtin.zeroCells z0.cells (grownCap w (n+1) c 42-(n+1))) 42)):=λty=>by
  have h:=Lib.run_append_grow_zeros w 140 3 ty 42 i0 _ .i64 .i64 uT uI hi0 NK (some ⟨b,off,none⟩) i c (cs.take (i*9)) hold (n+1-i) (by omega) (by omega) (by omega) (by omega) (by rw[hzb];omega) (by rw[hzb,hik];exact growslice_fits SV aAl);rw[hik] at h;rw[hkk];exact h
 have hGn:n+1<=grownCap w (n+1) c 42:=grownCap_ge w _ _ _;obtain⟨G,hG⟩:∃G,G=grownCap w (n+1) c 42:=⟨_,rfl⟩;obtain⟨C2,aTp⟩:∃C2:Array Value,C2=(cs.take (i*9)).toArray++Builtin.zeroCells z0.cells (n+1-i)++Builtin.zeroCells z0.cells (G-(n+1)):=⟨_,rfl⟩;rw[<-hG] at hrz hGn;rw[<-aTp] at hrz
 have hRs:C2.size=G*9:=by
  rw[aTp];simp only[Array.size_append,List.size_toArray,htl,size_zeroCells,hzl];omega
 refine⟨G,C2,hGn,hRs,λj v hj hv=> ?_,?_⟩
 .rw[aTp,Array.getElem?_append_left (by simp[htl];omega),Array.getElem?_append_left (by simp[htl];omega)];simp only[List.getElem?_toArray];rw[Wf,if_pos hj];exact hv
 have hRl:(n+1)*9<=C2.size:=by rw[hRs];exact vL _ hGn
 obtain⟨W1,hW1⟩:∃W1,W1=w.drew.alloc (.cells C2 42):=⟨_,rfl⟩;rw[<-hW1] at hrz
 have hN:∀j,j<(n+1)*9->(W1.cell? ⟨w.heap.size,j,none⟩).isSome=true:=λj hj=>by
  rw[hW1,World.cell?_alloc_at (w:=w.drew) C2 _ w.heap.size j rfl,ai1 (by omega)];rfl
 have hNf:∀j,W1.frozen? ⟨w.heap.size,j,none⟩=false:=λj=>by rw[hW1];exact World.frozen?_alloc_at (w:=w.drew) C2 _ w.heap.size j rfl
 have hOb:∀j v,w.cell? ⟨b,j,none⟩=some v->W1.cell? ⟨b,j,none⟩=some v:=λj v h=>by rw[hW1,World.cell?_alloc_past (w:=w.drew) _ b j hbw];exact h
 have hOv:∀j v,w.cell? ⟨vb,j,none⟩=some v->W1.cell? ⟨vb,j,none⟩=some v:=λj v h=>by rw[hW1,World.cell?_alloc_past (w:=w.drew) _ vb j hvw];exact h
 have a3T:∀(W:World),(∀x,W.cell? x=W1.cell? x)->(∀x,W.frozen? x=W1.frozen? x)->∀ty dc,(Builtin.copy_ #[140,140] ty #[.slice (some ⟨w.heap.size,i*9,none⟩) (n+1-i) dc,.slice (some ⟨vb,CZ,none⟩) 1 vc]).run Tryz.prog W=.ok (goInt (Nat.min 1 (n+1-i))) (W.setCells w.heap.size (i*9) vs):=λW hWc hWf ty dc=>
  aaw W _ _ ty 42 9 w.heap.size (i*9) (n+1-i) dc ⟨vb,CZ,none⟩ 1 vc vs uT uE (by rw[hvl];simp only[Nat.min_def];split<;>omega)
   (λj v hj=>by rw[Addr.add_lit,hWc];exact hOv _ v (hvs j v hj))
   (λj hj=>by rw[hWc];exact hN _ (by omega)) (λj hj=>by rw[hWf];exact hNf _) h1v
 have hGi:¬(G=i):=by omega
 have a7h:¬(G=i+1):=by omega
 have hci:¬(c=i):=by omega
 have hbN:b≠w.heap.size:=by omega
 have hdl:(cs.drop (i*9)).length=(n-i)*9:=by rw[atc,DX];omega
 have a1f:∀(W:World),(∀x,W.cell? x=(W1.setCells w.heap.size (i*9) vs).cell? x)->(∀x,W.frozen? x=(W1.setCells w.heap.size (i*9) vs).frozen? x)->∀ty dc sc,(Builtin.copy_ #[140,140] ty #[.slice (some ⟨w.heap.size,(i+1)*9,none⟩) (n-i) dc,.slice (some ⟨b,off+i*9,none⟩) (n-i) sc]).run Tryz.prog W=.ok (goInt (Nat.min (n-i) (n-i))) (W.setCells w.heap.size ((i+1)*9) (cs.drop (i*9))):=λW hWc hWf ty dc sc=>
  aaw W _ _ ty 42 9 w.heap.size ((i+1)*9) (n-i) dc ⟨b,off+i*9,none⟩ (n-i) sc (cs.drop (i*9)) uT uE (by rw[hdl];simp only[Nat.min_def];split<;>omega)
   (λj v hj=>by
    rw[Addr.add_lit,hWc,World.cell?_setCells_out _ _ _ _ _ (λh _=>absurd h hbN),Bw];exact hOb _ v (JQ (i*9+j) v (by rwa [Lp] at hj)))
   (λj hj=>by rw[hWc];exact Go.Proofs.isSome_setCells _ _ _ _ (λt ht=>hN _ (by omega)) _ (hN _ (by omega)))
   (λj hj=>by rw[hWf,World.frozen?_setCells];exact hNf _) (λv hv=>h1c v (List.mem_of_mem_drop hv))
 subst hW1;have hE1:∀x,((w.alloc (.cells C2 42)).drew).cell? x=(w.drew.alloc (.cells C2 42)).cell? x:=λx=>rfl;have hE2:∀x,((w.alloc (.cells C2 42)).drew).frozen? x=(w.drew.alloc (.cells C2 42)).frozen? x:=λx=>rfl;have hF1:∀x,(((w.alloc (.cells C2 42)).drew.setCells w.heap.size (i*9) vs).drew).cell? x=((w.drew.alloc (.cells C2 42)).setCells w.heap.size (i*9) vs).cell? x:=λx=>rfl;have hF2:∀x,(((w.alloc (.cells C2 42)).drew.setCells w.heap.size (i*9) vs).drew).frozen? x=((w.drew.alloc (.cells C2 42)).setCells w.heap.size (i*9) vs).frozen? x:=λx=>rfl;have hw1:IntKind.i64.wrap ((i:Int)+1)=(i:Int)+1:=by rw[IntKind.wrap_i64];omega
 have hw2:IntKind.i64.wrap ((n:Int)+1)=(n:Int)+1:=by rw[IntKind.wrap_i64];omega
 have hw3:IntKind.i64.wrap ((n:Int)+1-(i:Int))=(n:Int)+1-(i:Int):=by rw[IntKind.wrap_i64];omega
 have hb1:(0:Int)<=(i:Int)+1:=by omega
 have hin:i<=n:=by omega
 have htn:((i:Int)+1).toNat=i+1:=by omega
 have hb3:(i:Int)<=(n:Int):=by omega
 clear hkk hik hold aTp hG hRl hRs
 go_enter Tryz.func97,Tryz.ntmps97
 go_wp2_with (first
  |(at_builtin;refine Lib.wpList_append_run _ rfl _ _ _ _ rfl _ _ rfl rfl _ _ (hrz _) ?_)
  |(at_builtin;refine wpList_copy_runI _ rfl _ _ 140 140 rfl _ _ rfl rfl (a3T _ hE1 hE2 _ _) ?_)
  |(at_builtin;refine wpList_copy_runI _ rfl _ _ 140 140 rfl _ _ rfl rfl (a1f _ (λ_=>rfl) (λ_=>rfl) _ _ _) ?_))
 go_region_law_o (refine step_copy_runI rfl _ _ 140 140 rfl (.slice (some ⟨w.heap.size,(i+1)*9,none⟩) (n-i) (G-(i+1))) (.slice (some ⟨b,off+i*9,none⟩) (n-i) (c-i)) (by simp[Act.eval,Act.put]) (by simp[Act.eval,Act.put]) (a1f _ hF1 hF2 3 (G-(i+1)) (c-i)) ?_)
 go_wp2
 go_ret
 exact⟨rfl,rfl⟩
theorem avr {P:Program}{ops:Array Oper}{o:Oper}{a:Act}{w:World}{K:Act->World->Prop}{Q:Exit->Act->World->Prop}{E:Prop}
  (hg:o.guard=none)(d x:Operand)(dT sT:TypeId)(pQ:o.op=Op.call {callee:=Callee.builtin Builtin.append,args:=#[d,x],argTypes:=#[dT,sT]})
  (v u:Value)(hd:a.eval d=v)(hx:a.eval x=u){v':Value}{w':World}(hr:(Builtin.append_ #[dT,sT] o.type #[v,u]).run P w=.ok v' w')(hK:K (a.put o.dst v') w'):
  if Region.wanted o (yielded ops a.tmps)=true then Oper.wp P o a w K Q else E:=by
 have hw:Region.wanted o (yielded ops a.tmps)=true:=by simp[Region.wanted,hg]
 rw[if_pos hw];unfold Oper.wp;simp[execOp,pQ,resolve,invoke,builtin,hd,hx,hr,Result.andThen]
 exact hK
theorem aFA {P:Program}(w:World){o:Oper}{a:Act}{K:Act->World->Prop}{Q:Exit->Act->World->Prop}(d:Operand)(t:TypeId)
  (ho:o.op=.call {callee:=.builtin .clear,args:=#[d],argTypes:=#[t]})(v:Value)(hd:a.eval d=v){v':Value}{w':World}
  (hr:(Builtin.clear_ #[t] o.type #[v]).run P w=.ok v' w')(h:K (a.put o.dst v') w'):o.wp P a w K Q:=by
 unfold Oper.wp execOp;simp only[ho,resolve,invoke,builtin,Sem.run_bind,Sem.run_pure,Result.andThen_ok,List.map_toArray,List.map_cons,List.map_nil,hd,hr];exact h
theorem atv {P:Program}(w:World){ops:Array Oper}{rest:List Oper}{o:Oper}{a:Act}{Q:Exit->Act->World->Prop}(hgd:o.guard=none)(d:Operand)(t:TypeId)
  (ho:o.op=.call {callee:=.builtin .clear,args:=#[d],argTypes:=#[t]})(v:Value)(hd:a.eval d=v){v':Value}{w':World}
  (hr:(Builtin.clear_ #[t] o.type #[v]).run P w=.ok v' w')(h:wpList P ops Q rest (a.put o.dst v') w'):wpList P ops Q (o::rest) a w:=
 wpList_plain hgd λ_ hK=>aFA w d t ho v hd hr (hK _ _ h)
set_option maxHeartbeats 4000000 in
set_option maxRecDepth 100000 in
theorem aJk (base:Option Addr)(n c i:Nat)(w:World)(hi:i<=n)(hc:n<=c):
  Calls Tryz.prog 98 #[.slice base n c,.int .i64 i,.int .i64 i] w λe w'=>e=.returned (.slice base n c)/\w'=w:=by
 have mixed:=mixed;have h1:(i:Int)<=(n:Int):=by omega
 have h2:(n:Int)<=(c:Int):=by omega
 go_enter Tryz.func98,Tryz.ntmps98
 go_wp2
 all_goals (go_ret;exact⟨rfl,rfl⟩)
set_option maxHeartbeats 4000000 in
set_option maxRecDepth 100000 in
theorem aUv (b off n c i j:Nat)(w w2 w3:World)(hij:i<j)(hj:j<=n)(hc:n<=c)
  (hrz:∀ty,(Builtin.append_ #[140,140] ty #[.slice (some ⟨b,off,none⟩) i c,.slice (some (if c=j then⟨b,off,none⟩ else⟨b,off+j*9,none⟩)) (n-j) (c-j)]).run Tryz.prog w.drew=.ok (.slice (some ⟨b,off,none⟩) (i+(n-j)) c) w2)
  (DX:∀ty,(Builtin.clear_ #[140] ty #[.slice (some ⟨b,off+(i+(n-j))*9,none⟩) (n-(i+(n-j))) (c-(i+(n-j)))]).run Tryz.prog w2=.ok (.tuple #[]) w3):
  Calls Tryz.prog 98 #[.slice (some ⟨b,off,none⟩) n c,.int .i64 i,.int .i64 j] w λe w'=>e=.returned (.slice (some ⟨b,off,none⟩) (i+(n-j)) c)/\w'=w3:=by
 have mixed:=mixed;have h0:¬((i:Int)=(j:Int)):=by omega
 have h1:(i:Int)<=(j:Int):=by omega
 have h2:(j:Int)<=(n:Int):=by omega
 have h3:(n:Int)<=(c:Int):=by omega
 have h4:(i:Int)<=(c:Int):=by omega
 have h5:¬(c=i+(n-j)):=by omega
 go_enter Tryz.func98,Tryz.ntmps98
 go_wp2
 go_region_law_o (refine avr rfl _ _ 140 140 rfl _ _ (by simp[Act.eval,Act.put]) (by simp[Act.eval,Act.put];split<;>rfl) (hrz _) ?_)
 go_wp2_with (at_builtin;refine atv _ rfl _ 140 rfl _ rfl (DX _) ?_)
 all_goals (go_ret;exact⟨rfl,rfl⟩)
set_option maxHeartbeats 4000000 in
set_option maxRecDepth 100000 in
theorem aRM (w:World):Calls Tryz.prog 166 #[.slice none 0 0] w λe w'=>e=.returned (.slice none 0 0)/\w'=w:=by
 have mixed:=mixed;have heq:∀w:World,(Go.binOp .eql 140 (.slice none 0 0) (.slice none 0 0)).run Tryz.prog w=.ok (.bool true) w:=λw=>by kernel_rfl
 go_enter Tryz.func166,Tryz.ntmps166
 go_wp2
 go_ret
 exact⟨rfl,rfl⟩
set_option maxHeartbeats 4000000 in
set_option maxRecDepth 100000 in
theorem aAA (a:Addr)(n c:Nat)(w w2:World)(v2:Value)
  (hrz:∀ty,(Builtin.append_ #[140,140] ty #[.slice (some ⟨w.heap.size,0,none⟩) 0 0,.slice (some a) n c]).run Tryz.prog (w.alloc (.cells #[] 42))=.ok v2 w2):
  Calls Tryz.prog 166 #[.slice (some a) n c] w λe w'=>e=.returned v2/\w'=w2:=by
 have mixed:=mixed;have heq:∀w:World,(Go.binOp .eql 140 (.slice (some a) n c) (.slice none 0 0)).run Tryz.prog w=.ok (.bool false) w:=λw=>by kernel_rfl
 go_enter Tryz.func166,Tryz.ntmps166
 go_wp2_with (at_builtin;refine Lib.wpList_append_run _ rfl _ _ _ _ rfl _ _ rfl rfl _ _ (hrz _) ?_)
 go_ret
 exact⟨rfl,rfl⟩
end Go.Proofs.YtldgljclcgaibaaGreat
