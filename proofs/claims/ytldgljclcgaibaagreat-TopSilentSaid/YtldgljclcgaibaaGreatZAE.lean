/-
  Parts of the proof: AbW AbY AbZ AbNil AbPg AbLaw AbInv PI Tot TPw THb Bits VBits Bits4 PK SLA
-/
import Derived.Test.YtldgljclcgaibaaGreatZAD
import Derived.Deep.Slices
import Derived.Laws.Externs
import Derived.Test.YtldgljclcgaibaaGreatRows
open Nat renaming beq→ww,ble→wd
open Int renaming ofNat→wl
open Sum renaming elim→t8
set_option linter.all false
namespace Go.Ab
variable [ax]
open Go.ChangeShapes Go.WideShapes Go.Deep
inductive K where
 |b
 |i (k:IntKind)
 |s
 |u
 |q
def K.has:K->FV->Prop
 |.b,.b _=>True
 |.i k,.i k' n=>k'=k/\k.has n
 |.s,.s _=>True
 |.u,.u=>True
 |.q,.q n _=>n<=maxLen
 |_,_=>False
def K.om:K->Nat->cS->Prop
 |.b,_,.b _=>True
 |.i k,n,.i k' g=>k'=k/\∀j,j<n->k.has (g j)
 |.s,_,.s _=>True
 |.u,_,.u=>True
 |.q,n,.q g _=>∀j,j<n->g j<=maxLen
 |_,_,_=>False
def UW {α:Type}:Nat->List α->List α
 |0,_=>[]
 |n+1,l=>l++UW n l
def al8 (P:Program)(g:TypeId->Option (List K)):List Field->List K->Option (List K)
 | [],acc=>some acc
 |f::fs,acc=>match g f.type with
  |some ks=>match ww f.offset acc.length&&ww (P.cellsOf f.type) ks.length with
   |true=>al8 P g fs (acc++ks)
   |false=>none
  |none=>none
def L6 (P:Program):Nat->TypeId->Option (List K)
 |0,_=>none
 |d+1,t=>match P.underlying t with
  |some .bool=>some [.b]
  |some (.int k)=>some [.i k]
  |some .string=>some [.s]
  |some (.struct fs)=>match al8 P (L6 P d) fs.toList [] with
   |some ks=>match ww (P.cellsOf t) ks.length with
    |true=>some ks
    |false=>none
   |none=>none
  |some (.array n e)=>match L6 P d e with
   |some ks=>match ww (P.cellsOf e) ks.length&&ww (P.cellsOf t) (n*ks.length) with
    |true=>some (UW n ks)
    |false=>none
   |none=>none
  |some (.slice e)=>match P.underlying e with
   |some .bool=>match ww (P.cellsOf e) 1 with
    |true=>some [.q]
    |false=>some [.u]
   |_=>some [.u]
  |_=>none
section
variable {H:Type} {enc:TypeId×Value->H} {P:Program} {W:World} {base:Nat} {spare:Nat->Bool} {held:Bool}
theorem avH {ks ks':List K}{cs Th:List Value}(h:∃fs,bn K.has ks fs/\bn FV.rel fs cs)(h':∃fs,bn K.has ks' fs/\bn FV.rel fs Th):∃fs,bn K.has (ks++ks') fs/\bn FV.rel fs (cs++Th):=by
 obtain⟨fs,a,b⟩:=h;obtain⟨fs',a',b'⟩:=h';exact⟨fs++fs',a.append a',b.append b'⟩
theorem aq5 {d:Nat}(ih:∀{t:TypeId} {ks:List K} {fuel:Nat} {cs:List Value} {x:DataW H×List MemPlace},L6 P d t=some ks->DataW.trod enc P W base spare held fuel t cs=some x->∃fs,bn K.has ks fs/\bn FV.rel fs cs){n:Nat}{cs:List Value}:
  ∀{l:List Field} {acc ks:List K},al8 P (L6 P d) l acc=some ks->(∀f∈l,∃y,DataW.trod enc P W base spare held n f.type ((cs.drop f.offset).take (P.cellsOf f.type))=some y)->acc.length<=cs.length->
   (∃fs,bn K.has acc fs/\bn FV.rel fs (cs.take acc.length))->ks.length<=cs.length/\∃fs,bn K.has ks fs/\bn FV.rel fs (cs.take ks.length)
 | [],acc,ks,h,_,hl,ha=>by
  simp only[al8] at h;cases h;exact⟨hl,ha⟩
 |f::l,acc,ks,h,hf,hl,ha=>by
  simp only[al8] at h;split at h
  .rename_i kf hk
   split at h
   .rename_i hc
    simp only[cq] at hc;have e1:=oK hc.1;have e2:=oK hc.2;obtain⟨y,hy⟩:=hf f (by simp);obtain⟨fs,f1,f2⟩:=ih hk hy
    have hlen:kf.length=min (P.cellsOf f.type) (cs.length-f.offset):=by
     have h1:=f1.length;have h2:=f2.length;simp at h2
     omega
    have hle:acc.length+kf.length<=cs.length:=by omega
    refine aq5 ih h (λf' hf'=>hf f' (by simp[hf'])) (by simp;omega) ?_;have:=avH ha ⟨fs,f1,f2⟩;rw[ayk,List.take_add];rw[e1,e2] at this;exact this
   .cases h
  .cases h
omit [ax] in
theorem Vx {α:Type}(l:List α):∀n,(UW n l).length=n*l.length
 |0=>by simp[UW]
 |n+1=>by simp[UW,Vx l n,atw,Nat.add_comm]
omit [ax] in
theorem ajd {α:Type}(l:List α):∀n,UW (n+1) l=UW n l++l
 |0=>by simp[UW]
 |n+1=>by
  have h:=ajd l n;show l++UW (n+1) l=UW (n+1) l++l;rw[h,<-ayl,<-h];rfl
theorem L7 (hA:∀B i v,cl W B i=some v->ax.fs B i=some v)(hsp:∀b,spare b=true):∀{d:Nat} {t:TypeId} {ks:List K} {fuel:Nat} {cs:List Value} {x:DataW H×List MemPlace},L6 P d t=some ks->DataW.trod enc P W base spare held fuel t cs=some x->∃fs,bn K.has ks fs/\bn FV.rel fs cs
 |0,_,_,_,_,_,h,_=>by cases h
 |d+1,t,ks,fuel,cs,x,h,hx=>by
  simp only[L6] at h;split at h
  .rename_i hu
   cases h;obtain⟨b,rfl,_⟩:=DataW.trod_bool hu hx;exact⟨[.b b],⟨trivial,trivial⟩,rfl,trivial⟩
  .rename_i k hu
   cases h;obtain⟨n,rfl,_,hw⟩:=DataW.trod_int hu hx;refine⟨[.i k n],⟨⟨rfl,?_⟩,trivial⟩,rfl,trivial⟩;simp only[Lit.wf,cq,mf] at hw;exact hw
  .rename_i hu
   cases h;obtain⟨s,rfl,_⟩:=DataW.trod_string hu hx;exact⟨[.s s],⟨trivial,trivial⟩,rfl,trivial⟩
  .rename_i fs hu
   split at h
   .rename_i ks' hks
    split at h
    .rename_i hc
     cases h;have hc:=oK hc;obtain⟨xs,n,_,_,hl,_,hf⟩:=DataW.trod_struct hu hx
     obtain⟨_,r⟩:=aq5 (λh h'=>L7 hA hsp h h') hks (n:=n) (cs:=cs) (λf hf'=>by
      obtain⟨i,hi⟩:=List.getElem?_of_mem hf';have:=hf i f (by rw[<-Wz];exact hi)
      have hi':i<xs.length:=by
       have h1:=(me.1 hi).1;simp at h1;omega
      rw[kT hi'] at this;exact⟨_,this⟩) (Nat.zero_le _) ⟨[],trivial,by simp;trivial⟩
     rw[<-hc,<-hl,List.take_length] at r;exact r
    .cases h
   .cases h
  .rename_i n e hu
   split at h
   .rename_i ks' hks
    split at h
    .rename_i hc
     cases h;simp only[cq] at hc;have e1:=oK hc.1;have e2:=oK hc.2;obtain⟨xs,m,_,_,hl,hn,hf⟩:=DataW.trod_array hu hx
     have key:∀j,j<=n->∃fs,bn K.has (UW j ks') fs/\bn FV.rel fs (cs.take (j*ks'.length)):=by
      intro j;induction j with
      |zero=>intro _;exact⟨[],trivial,by simp;trivial⟩
      |succ j ihj=>
       intro hj;have hj':j<xs.length:=by omega
       have:=hf j (by omega);rw[kT hj'] at this;rw[ajd,atw,List.take_add];have h2:=L7 hA hsp hks this;rw[e1] at h2;exact avH (ihj (by omega)) h2
     have:=key n (eT _);rw[<-e2,<-hl,List.take_length] at this;exact this
    .cases h
   .cases h
  .rename_i e hu
   have un:∃fs,bn K.has [.u] fs/\bn FV.rel fs cs:=by
    rcases open_slice hu hx with⟨rfl,_⟩| ⟨a',aUe,a1V,m,n,D,Pl,rfl,_⟩
    .exact⟨[.u],⟨trivial,trivial⟩,rfl,trivial⟩
    .exact⟨[.u],⟨trivial,trivial⟩,rfl,trivial⟩
   split at h
   .rename_i hb
    split at h
    .rename_i hc
     cases h;have hc:=oK hc;rcases open_slice1 hu hc hx with⟨rfl,_⟩| ⟨a',aUe,a1V,m,n,V,D,Pl,rfl,_,hle,a1W,hm,_,hi⟩
     .exact⟨[.q 0 λ_=>false],⟨Nat.zero_le _,trivial⟩,.inl ⟨rfl,none,rfl⟩,trivial⟩
     .rw[hsp,if_pos rfl] at hm;subst hm;obtain⟨B,s,sp⟩:=a';refine⟨[.q aUe λj=>match V j with|.bool b=>b|_=>false],⟨ch hle a1W,trivial⟩,?_,trivial⟩;rcases acb m with z|z
      .subst z;have:aUe=0:=by omega
       subst this;exact .inl ⟨rfl,_,rfl⟩
      .have h0:=(hi 0 z).1
       have hs:sp=none:=by
        have e0:Addr.add ⟨B,s,sp⟩ 0=⟨B,s,sp⟩:=rfl;rw[e0] at h0;unfold World.cell? at h0;simp only at h0;split at h0
        .cases sp with
         |none=>rfl
         |some q=>simp at h0
        .cases h0
       subst hs;refine .inr ⟨B,s,m,hle,rfl,λj hj=> ?_⟩;obtain⟨h1,h2⟩:=hi j (by omega);obtain⟨b,Fj,_⟩:=DataW.trod_bool hb h2;have hV:V j=.bool b:=by simpa using Fj
       rw[nL,hV] at h1;rw[hA B (s+j) (.bool b) h1];simp only[hV]
    .cases h;exact un
   .cases h;exact un
  .cases h
theorem aSx {ks:List K}{fs:List FV}{cs:List Value}(h1:bn K.has ks fs)(h2:bn FV.rel fs cs){j:Nat}{k:K}(hk:ks[j]? =some k):∃f v,cs[j]? =some v/\k.has f/\f.rel v:=by
 obtain⟨f,hf,r1⟩:=h1.get hk;obtain⟨v,hv,r2⟩:=h2.get hf;exact⟨f,v,hv,r1,r2⟩
def FV.toN:FV->Nat
 |.q n _=>n
 |_=>0
def FV.toG:FV->Nat->Bool
 |.q _ g=>g
 |_=>λ_=>false
def K.mk:K->(Nat->FV)->cS
 |.b,f=>.b λj=>(f j).toB
 |.i k,f=>.i k λj=>(f j).toI
 |.s,f=>.s λj=>(f j).toS
 |.u,_=>.u
 |.q,f=>.q (λj=>(f j).toN) λj=>(f j).toG
omit [ax] in
theorem K.aY4 {k:K}{f:Nat->FV}{j:Nat}(h:k.has (f j)):(k.mk f).at j=f j:=by
 cases k<;>simp only[K.mk,cS.at]<;>revert h<;>cases f j<;>intro h<;>first|exact h.elim|rfl|skip
 rw[h.1];rfl
omit [ax] in
theorem K.aLu {k:K}{f:Nat->FV}{n:Nat}(h:∀j,j<n->k.has (f j)):k.om n (k.mk f):=by
 cases k<;>simp only[K.mk,K.om]
 .refine⟨trivial,λj hj=> ?_⟩;have:=h j hj;revert this
  cases f j<;>intro h<;>first|exact h.elim|skip
  exact h.2
 .intro j hj;have:=h j hj;revert this
  cases f j<;>intro h<;>first|exact h.elim|skip
  exact h
inductive PT where
 |c (k:K)
 |a (n:Nat) (ks:List K)
def ayJ:List PT->List K
 | []=>[]
 |.c k::l=>k::ayJ l
 |.a n ks::l=>UW n ks++ayJ l
def K.beq:K->K->Bool
 |.b,.b=>true
 |.i k,.i k'=>decide (k=k')
 |.s,.s=>true
 |.u,.u=>true
 |.q,.q=>true
 |_,_=>false
omit [ax] in
theorem K.beq_eq {x y:K}(h:x.beq y=true):x=y:=by
 cases x<;>cases y<;>simp only[K.beq] at h<;>first|rfl|cases h|skip
 rw[eK h]
def aUf:List K->List K->Bool
 | [],[]=>true
 |x::l,y::m=>x.beq y&&aUf l m
 |_,_=>false
omit [ax] in
theorem aOO:∀{l m:List K},aUf l m=true->l=m
 | [],[],_=>rfl
 |x::l,y::m,h=>by
  simp only[aUf,cq] at h;rw[K.beq_eq h.1,aOO h.2]
 | [],_::_,h=>by cases h
 |_::_,[],h=>by cases h
def aLv:List Tm->List K->List PT
 | [],_=>[]
 |.c::l,k::ks=>.c k::aLv l ks
 |.c::_,[]=>[]
 |.a n z::l,ks=>.a n (ks.take z)::aLv l (ks.drop (n*z))
inductive Prm where
 |flat (agg:Bool) (pt:List PT)
 |sl (ks:List K)
inductive DC where
 |c (f:FV)
 |a (cols:List cS)
inductive Dat where
 |flat (l:List DC)
 |sl (n:Nat) (cols:List cS)
def aAC:PT->DC->Prop
 |.c k,.c f=>k.has f
 |.a n ks,.a cols=>bn (λk c=>K.om k n c) ks cols
 |_,_=>False
def Fit:Prm->Dat->Prop
 |.flat _ pt,.flat l=>bn aAC pt l
 |.sl ks,.sl n cols=>n<=maxLen/\bn (λk c=>K.om k n c) ks cols
 |_,_=>False
def sgs:List PT->List DC->af
 |.c _::pt,.c f::l=>.c (.f f)::sgs pt l
 |.a n _::pt,.a cols::l=>.a (.l n) cols::sgs pt l
 |_,_=>[]
def aY5:Bool->af->AV
 |true,b=>.r (.agg b)
 |false,.c v::_=>.r (.c v)
 |false,_=>.WC
def aLw:List Prm->List Dat->List AV
 |.flat a pt::ps,.flat l::ds=>aY5 a (sgs pt l)::aLw ps ds
 |.sl ks::ps,.sl n cols::ds=>.r (.c (.fs n ks.length cols))::aLw ps ds
 |_,_=>[]
def aFF (ps:List Prm)(ds:List Dat):Prop:=bn Fit ps ds
def aOP (P:Program)(t:TypeId):Option Prm:=
 match P.underlying t with
 |some (.slice e)=>match L6 P 30 e with
  |some ks=>match ww (P.cellsOf e) ks.length&&wd 1 ks.length with
   |true=>some (.sl ks)
   |false=>none
  |none=>none
 |_=>match aep P t,L6 P 30 t with
  |some true,some ks=>match aUf (ayJ (aLv (alP P 30 t) ks)) ks with
   |true=>some (.flat true (aLv (alP P 30 t) ks))
   |false=>none
  |some false,some [k]=>some (.flat false [.c k])
  |_,_=>none
def aLx (P:Program):List TypeId->Option (List Prm)
 | []=>some []
 |t::ts=>match aOP P t,aLx P ts with
  |some p,some ps=>some (p::ps)
  |_,_=>none
theorem aU2 {n:Nat}{ks:List K}{fs:List FV}{cs:List Value}(h1:bn K.has (UW n ks) fs)(h2:bn FV.rel fs cs):
  ∃cols,bn (λk c=>K.om k n c) ks cols/\∀j,j<n*ks.length->∃v,cs[j]? =some v/\(je cols j).rel (λ_=>none) v:=by
 have hl:=h1.length;rw[Vx] at hl
 have alZ:∀i j k,i<n->ks[j]? =some k->∃f,fs[i*ks.length+j]? =some f/\k.has f:=λi j k hi hj=>by
  have hjl:=(me.1 hj).1
  have key:∀m i,i<m->(UW m ks)[i*ks.length+j]? =some k:=by
   intro m;induction m with
   |zero=>intro i hi;omega
   |succ m ih=>
    intro i hi;rw[UW];cases i with
    |zero=>rw[Tg,hI,UT hjl];exact hj
    |succ i=>
     rw[aen (by rw[atw];omega),show(i+1)*ks.length+j-ks.length=i*ks.length+j by rw[atw];omega];exact ih i (by omega)
  obtain⟨f,hf,hh⟩:=h1.get (key n i hi);exact⟨f,hf,hh⟩
 refine⟨ks.zipIdx.map λp=>p.1.mk λi=>fs.getD (i*ks.length+p.2) .u,?_,λj hj=> ?_⟩
 .refine bn.agI (by simp) λj k c hk hc=> ?_;simp only[Cb,aEI,hk,Tf,j9] at hc;subst hc;refine K.aLu λi hi=> ?_;obtain⟨f,hf,hh⟩:=alZ i j k hi hk;simp only[hI,List.getD,hf,LM];exact hh
 .have aEZ:0<ks.length:=by
   rcases acb ks.length with h|h
   .rw[h] at hj;omega
   .exact h
  have hm:=Nat.mod_lt j aEZ;have hq:j/ks.length<n:=(ayi aEZ).2 hj;have hk:ks[j%ks.length]? =some (ks[j%ks.length]'hm):=kT _;obtain⟨f,hf,hh⟩:=alZ (j/ks.length) (j%ks.length) _ hq hk;have hd:=Vu j ks.length;rw[hd] at hf;obtain⟨v,hv,hr⟩:=h2.get hf;refine⟨v,hv,?_⟩;unfold je;simp only[ags,List.length_zipIdx,Cb,aEI,hk,Tf,hI];have e:fs.getD (j/ks.length*ks.length+j%ks.length) .u=f:=by rw[hd];simp[List.getD,hf]
  rw[K.aY4 (f:=λi=>fs.getD (i*ks.length+j%ks.length) .u) (j:=j/ks.length) (by rw[e];exact hh)];show FV.rel _ v;rw[e];exact hr
omit [ax] in
theorem aAD {α β:Type}{R:α->β->Prop}:∀{l l':List α} {m:List β},bn R (l++l') m->bn R l (m.take l.length)/\bn R l' (m.drop l.length)
 | [],l',m,h=>⟨by simp;trivial,by simpa using h⟩
 |a::l,l',[],h=>h.elim
 |a::l,l',b::m,h=>by
  obtain⟨h1,h2⟩:=h;have:=aAD (l:=l) (l':=l') (m:=m) h2;exact⟨⟨h1,this.1⟩,this.2⟩
theorem a2P {π π':Pi}{c:CV}{v:Value}(hc:∃x,c=.f x)(h:c.rel π v):c.rel π' v:=by
 obtain⟨x,rfl⟩:=hc;exact h
theorem ayK:∀{pt:List PT} {fs:List FV} {cs:List Value},bn K.has (ayJ pt) fs->bn FV.rel fs cs->∃l,bn aAC pt l/\∀π,bn (CV.rel π) (af.list (sgs pt l)) cs
 | [],[],[],_,_=>⟨[],trivial,λ_=>trivial⟩
 | [],_::_,_,h,_=>h.elim
 | [],[],_::_,_,h=>h.elim
 |.c k::pt,[],_,h,_=>h.elim
 |.c k::pt,f::fs,[],_,h=>h.elim
 |.c k::pt,f::fs,v::cs,h1,h2=>by
  obtain⟨l,a,b⟩:=ayK h1.2 h2.2;refine⟨.c f::l,⟨h1.1,a⟩,λπ=> ?_⟩;rw[sgs,aFb];exact⟨h2.1,b π⟩
 |.a n ks::pt,fs,cs,h1,h2=>by
  obtain⟨p1,p2⟩:=aAD (l:=UW n ks) (l':=ayJ pt) h1;rw[Vx] at p1 p2;have h3:=h2.take (n*ks.length);have h4:=h2.drop (n*ks.length);obtain⟨cols,c1,c2⟩:=aU2 p1 h3;obtain⟨l,a,b⟩:=ayK p2 h4;have Ej:=c1.length;have hlen:=h1.length;rw[ayJ,ayk,Vx] at hlen;have a5u:=h2.length;refine⟨.a cols::l,⟨c1,a⟩,λπ=> ?_⟩;rw[sgs];obtain⟨l1,l2⟩:=jF (b π);rw[atu] at l1;refine yC ?_ λj hj=> ?_
  .rw[af.size_cons,Sg.ma,Sz.val,<-Ej];omega
  .rw[af.size_cons] at hj;have hs:(Sg.a (.l n) cols).size=n*ks.length:=by rw[Sg.ma,Sz.val,<-Ej]
   by_cases mg:j<n*ks.length
   .obtain⟨v,hv,hr⟩:=c2 j mg;rw[acd,if_pos mg] at hv;refine⟨v,hv,?_⟩;rw[af.dY (by rw[hs];exact mg),Sg.pR];exact a2P (aDX cols j) hr
   .obtain⟨v,hv,hr⟩:=l2 (j-n*ks.length) (by rw[hs] at hj;omega);rw[Te,show n*ks.length+(j-n*ks.length)=j by omega] at hv;refine⟨v,hv,?_⟩;rw[af.lH (by rw[hs];omega),hs];exact hr
theorem aOQ (hA:∀B i v,cl W B i=some v->ax.fs B i=some v){t e:TypeId}{ks:List K}(hu:P.underlying t=some (.slice e))(hk:L6 P 30 e=some ks)(hc:P.cellsOf e=ks.length)(h1k:1<=ks.length){v:Value}{d:DataW H}{ps:List MemPlace}
  (h:DataW.Trod enc P W 0 (λ_=>true) true t v d ps)(hv:Value.okWide P W .any base t v):
  ∃n cols,Fit (.sl ks) (.sl n cols)/\∀π:Pi,(AV.r (.c (.fs n ks.length cols))).rel π v:=by
 obtain⟨fuel,h⟩:=h;obtain⟨a,len,cap,rfl⟩:=okWide_slice hu hv
 have zero:∃cols,bn (λk c=>K.om k 0 c) ks cols:=⟨ks.map λk=>k.mk λ_=>.u,bn.agI (by simp) λi k c hk hc=>by
  simp only[Cb,hk,Tf,j9] at hc;subst hc;exact K.aLu λj hj=>by omega⟩
 rcases open_slice hu h with⟨h0,_⟩| ⟨a',aUe,a1V,m,n,D,Pl,h0,_,hle,a1W,hm,hx,hi⟩
 .simp[Value.cells] at h0
  obtain⟨rfl,rfl,rfl⟩:=h0;obtain⟨cols,aY6⟩:=zero;exact⟨0,cols,⟨Nat.zero_le _,aY6⟩,λπ=>⟨aY6.length.symm,.inl ⟨rfl,none,rfl⟩⟩⟩
 .simp[Value.cells] at h0
  obtain⟨rfl,rfl,rfl⟩:=h0
  have aY7:a'.spot=none:=by
   have hv:Cell.okWide P W .any base t (.slice (some a') len cap):=by
    unfold Value.okWide at hv;rw[hu] at hv;exact hv
   have hv:Cell.ok P W .any base t (.slice (some a') len cap):=by
    unfold Cell.okWide at hv;rw[hu] at hv;exact hv
   unfold Cell.ok at hv;rw[hu] at hv;exact hv.2.2.2.1
  obtain⟨B,s,sp⟩:=a';simp only at aY7;subst aY7;simp only[lZ] at hm;subst hm;have hw:ks.length=P.cellsOf e:=hc.symm
  have cell:∀i j k,i<len->ks[j]? =some k->∃f v,cl W B (s+(i*ks.length+j))=some v/\k.has f/\f.rel v:=λi j k hil hj=>by
   obtain⟨Th,h1,h2⟩:=hi i (by omega);obtain⟨fs,f1,f2⟩:=L7 hA (λ_=>rfl) hk h2;obtain⟨f,v,e1,e2,e3⟩:=aSx f1 f2 hj;obtain⟨_,_,h3⟩:=World.cells?_some h1;have hjl:=(me.1 hj).1;have:=h3 j (by omega);rw[nL,nL,e1] at this;exact⟨f,v,by unfold cl;rw[hw,<-Cc];exact this,e2,e3⟩
  have hdiv:∀j,j<len*ks.length->j/ks.length<len/\j%ks.length<ks.length/\j/ks.length*ks.length+j%ks.length=j:=λj hj=>by
   refine⟨(ayi (by omega)).2 hj,Nat.mod_lt _ (by omega),Vu _ _⟩
  have pick:∀j,∃f,j<len*ks.length->∃v k,cl W B (s+j)=some v/\ks[j%ks.length]? =some k/\k.has f/\f.rel v:=λj=>by
   rcases pQ j (len*ks.length) with hj|hj
   .obtain⟨d1,d2,d3⟩:=hdiv j hj;have hkj:ks[j%ks.length]? =some (ks[j%ks.length]'d2):=kT _;obtain⟨f,v,e1,e2,e3⟩:=cell _ _ _ d1 hkj;rw[d3] at e1;exact⟨f,λ_=>⟨v,_,e1,hkj,e2,e3⟩⟩
   .exact⟨.u,λh=>by omega⟩
  obtain⟨g,hg⟩:=Classical.axiomOfChoice pick
  have hgk:∀(i j:Nat) (k:K),i<len->ks[j]? =some k->k.has (g (i*ks.length+j)):=λi j k hil hj=>by
   have hjl:=(me.1 hj).1
   have oo:i*ks.length+j<len*ks.length:=by
    have:=wL ks.length (show i+1<=len from hil);rw[atw] at this;omega
   obtain⟨v,k',_,h2,h3,_⟩:=hg _ oo;rw[ach,atv,aym hjl,hj] at h2;cases h2;exact h3
  refine⟨len,ks.zipIdx.map λp=>p.1.mk λi=>g (i*ks.length+p.2),⟨by omega,bn.agI (by simp) λj k c LA hc'=> ?_⟩,λπ=>⟨by simp,.inr ⟨B,s,m,hle,rfl,λj hj=> ?_⟩⟩⟩
  .simp only[Cb,aEI,LA,Tf,j9] at hc';subst hc';exact K.aLu λi hi=>by simpa using hgk i j k hi LA
  .obtain⟨d1,d2,d3⟩:=hdiv j hj;obtain⟨v,k',h1,LA,hh,h2⟩:=hg j hj;refine⟨g j,v,?_,hA _ _ _ h1,h2⟩;unfold je;simp only[ags,List.length_zipIdx,Cb,aEI,LA,Tf,hI];rw[K.aY4 (f:=λi=>g (i*ks.length+j%ks.length)) (j:=j/ks.length) (by rw[d3];exact hh)];show CV.f (g (j/ks.length*ks.length+j%ks.length))=_;rw[d3]
theorem aSy (hA:∀B i v,cl W B i=some v->ax.fs B i=some v){t:TypeId}{ag:Bool}{pt:List PT}(hns:∀e,P.underlying t≠some (.slice e))(hp:aOP P t=some (.flat ag pt)){v:Value}{d:DataW H}{ps:List MemPlace}
  (h:DataW.Trod enc P W 0 (λ_=>true) true t v d ps)(hv:Value.okWide P W .any base t v):∃l,Fit (.flat ag pt) (.flat l)/\∀π,(aY5 ag (sgs pt l)).rel π v:=by
 obtain⟨fuel,h⟩:=h;unfold aOP at hp;split at hp
 .rename_i e hu;exact absurd hu (hns e)
 .split at hp
  .rename_i ks ha hk
   split at hp
   .rename_i heq
    cases hp;have heq:=aOO heq;obtain⟨fs,f1,f2⟩:=L7 hA (λ_=>rfl) hk h;rw[<-heq] at f1;obtain⟨l,l1,l2⟩:=ayK f1 f2
    have aUa:∃cs,v=.agg cs:=by
     unfold Value.okWide at hv;unfold aep at ha;split at ha
     .rename_i hu;rw[hu] at hv;obtain⟨cs,h,_⟩:=hv;exact⟨cs,h⟩
     .rename_i hu;rw[hu] at hv;obtain⟨cs,h,_⟩:=hv;exact⟨cs,h⟩
     .cases ha
     .cases ha
    obtain⟨cs,rfl⟩:=aUa;exact⟨l,l1,λπ=>⟨cs,rfl,l2 π⟩⟩
   .cases hp
  .rename_i k ha hk
   cases hp;obtain⟨fs,f1,f2⟩:=L7 hA (λ_=>rfl) hk h
   have aOA:v.cells.toList=[v]∨∃cs,v=.agg cs:=by
    cases v<;>first|exact .inl rfl|exact .inr ⟨_,rfl⟩
   have aOA:v.cells.toList=[v]:=by
    rcases aOA with h| ⟨cs,rfl⟩
    .exact h
    .exfalso
     have hc:Cell.okWide P W .any base t (.agg cs):=by
      unfold Value.okWide at hv;unfold aep at ha;split at ha<;>first|(cases ha;done)|skip
      rename_i u hu1 hu2 hu
      rw[hu] at hv;split at hv
      .rename_i hh;cases hh;exact absurd rfl (hu1 _)
      .rename_i hh;cases hh;exact absurd rfl (hu2 _ _)
      .exact hv
     unfold Cell.okWide at hc;revert hc
     have hkk:P.underlying t=some .bool∨(∃k,P.underlying t=some (.int k))∨P.underlying t=some .string:=by
      unfold aep at ha;unfold L6 at hk;split at hk
      .rename_i hu;exact .inl hu
      .rename_i k hu;exact .inr (.inl ⟨k,hu⟩)
      .rename_i hu;exact .inr (.inr hu)
      .rename_i hu;rw[hu] at ha;cases ha
      .rename_i hu;rw[hu] at ha;cases ha
      .rename_i hu;exact absurd hu (hns _)
      .cases hk
     rcases hkk with hu| ⟨k,hu⟩|hu<;>rw[hu]<;>intro hc<;>simp only[Cell.ok,hu] at hc
   rw[aOA] at f2;match fs,f1,f2 with
   | [f],⟨f1,_⟩,⟨f2,_⟩=>exact⟨[.c f],⟨f1,trivial⟩,λπ=>f2⟩
  .cases hp
theorem aFG (hA:∀B i v,cl W B i=some v->ax.fs B i=some v):∀{ts:List TypeId} {pr:List Prm} {vs:List Value} {dd:List (DataW H)} {ps:List MemPlace},aLx P ts=some pr->(∀(j:Nat) t v,ts[j]? =some t->vs[j]? =some v->Value.okWide P W .any base t v)->
  DataW.TrodAll enc P W 0 (λ_=>true) true ts vs dd ps->∃ds,aFF pr ds/\∀π,bn (AV.rel π) (aLw pr ds) vs
 | [],pr,vs,dd,ps,hp,_,h=>by
  cases hp;obtain⟨rfl,rfl,rfl⟩:=trodAll_nil h;exact⟨[],trivial,λ_=>trivial⟩
 |t::ts,pr,vs,dd,ps,hp,hv,h=>by
  obtain⟨v,vs1,d,ds1,p1,p2,rfl,rfl,rfl,h3,h4⟩:=trodAll_cons h;simp only[aLx] at hp;split at hp
  .rename_i p pr' Hy hp2
   cases hp;have hv0:=hv 0 t v rfl rfl;obtain⟨ds,f1,g1⟩:=aFG hA hp2 (λj t v hj hv'=>hv (j+1) t v (by simpa using hj) (by simpa using hv')) h4;cases p with
   |flat ag pt=>
    have hns:∀e,P.underlying t≠some (.slice e):=λe hu=>by
     unfold aOP at Hy;rw[hu] at Hy;simp only at Hy;split at Hy
     .split at Hy<;>cases Hy
     .cases Hy
    obtain⟨l,l1,l2⟩:=aSy hA hns Hy h3 hv0;exact⟨.flat l::ds,⟨l1,f1⟩,λπ=>⟨l2 π,g1 π⟩⟩
   |sl ks=>
    obtain⟨e,hu,hk,hc,h1k⟩:∃e,P.underlying t=some (.slice e)/\L6 P 30 e=some ks/\P.cellsOf e=ks.length/\1<=ks.length:=by
     unfold aOP at Hy;split at Hy
     .rename_i e hu
      split at Hy
      .rename_i ks' hk
       split at Hy
       .rename_i hc
        cases Hy;simp only[cq,beq_iff,fH] at hc;exact⟨e,hu,hk,hc.1,hc.2⟩
       .cases Hy
      .cases Hy
     .split at Hy
      .split at Hy<;>cases Hy
      .cases Hy
      .cases Hy
    obtain⟨n,cols,q1,q2⟩:=aOQ hA hu hk hc h1k h3 hv0;exact⟨.sl n cols::ds,⟨q1,f1⟩,λπ=>⟨q2 π,g1 π⟩⟩
  .cases hp
def aY8 (F:Ff)(ps:List Prm):Prop:=∀ds,aFF ps ds->∃news,(F (aLw ps ds) []).eval=some ⟨.r (.c (.f (.b true))),[],news⟩
abbrev aSz (W:World):ax:=⟨W.heap.size,λB i=>cl W B i⟩
omit [ax] in
theorem aU3 (W:World): @A6 (aSz W) W:=by
 letI:=aSz W
 refine⟨eT _,λB i hB=> ?_,λB i v h=>⟨acm (by rw[show cl W B i=some v from h];rfl),h⟩⟩;have hB:W.heap.size<=B:=hB;simp only[fz,World.frozen?,att hB]
end
section
variable {H:Type} {enc:TypeId×Value->H} {P:Program} {W:World} {base:Nat}
omit [ax] in
theorem aSA {f:FuncId}{F:Ff}(S:∀[ax],Sound P f F)(hc:Gj P f=true){ts:List TypeId}{pr:List Prm}(hp:aLx P ts=some pr)(hF:aY8 F pr){args:Array Value}{dd:List (DataW H)}{ps:List MemPlace}
  (aFt:∀(j:Nat) t v,ts[j]? =some t->args[j]? =some v->Value.okWide P W .any base t v)(ht:DataW.TrodAll enc P W 0 (λ_=>true) true ts args.toList dd ps):
  Calls P f args W λe W'=>e=.returned (.bool true)/\cj W (λ_ _=>False) W':=by
 letI:=aSz W
 obtain⟨ds,f1,g1⟩:=aFG (λB i v h=>h) hp (λj t v hj hv=>aFt j t v hj (by simpa using hv)) ht;obtain⟨news,hr⟩:=hF ds f1
 have hH:tf (λ_=>none) (hC (([]:List af).map some)) (hZ (([]:List af).map some)) W:=
  ⟨aU3 W,λb B s q e hz=>by simp[hZ] at hz,λb n hn=>by simp[hZ] at hn,λb b' B s q e s' q' e' _ hz=>by simp[hZ] at hz⟩
 have hS:=S _ _ _ hr W (λ_=>none) args (g1 _) hH (λb hb=>absurd rfl hb)
 have hS:Calls P f args W (ub (λ_=>none) W [] ⟨.r (.c (.f (.b true))),[],news⟩):=by
  rcases hS with h| ⟨v,h,_⟩
  .exact h.2
  .rw[H8 hc] at h;cases h
 refine Calls.mono hS ?_;rintro e w' ⟨π',v,rfl,_,hv,_,hF',_,_⟩
 refine⟨cO Ending.returned hv,hF'.mono λB i _ h=> ?_⟩;obtain⟨b,s,q,e,hb,_⟩:=h;cases hb
end
end Go.Ab
namespace Go.Ab
variable [ax]
def aAE:Array Value->Sem Value:=λargs=>do
 let(x,y,b)<-Extern.MathBitsCarry.three "Sub64" args
 pure (Extern.MathBitsCarry.pair ((x+Extern.MathBitsCarry.m64-y-b)%Extern.MathBitsCarry.m64) (if x<y+b then 1 else 0))
abbrev aJE (n:Int):RV:=.c (.f (.i .u64 n))
omit [ax] in
theorem aOR {P:Program}(x y c:Int)(h:c.toNat<=1)(w:World):(add64Entry #[.int .u64 x,.int .u64 y,.int .u64 c]).run P w=
  .ok (.tuple #[.int .u64 (wl ((x.toNat+y.toNat+c.toNat)%18446744073709551616)),.int .u64 (wl ((x.toNat+y.toNat+c.toNat)/18446744073709551616))]) w:=by
 match c,h with
 |.ofNat 0,_=>rfl
 |.ofNat 1,_=>rfl
 |.negSucc n,_=>rfl
 |.ofNat (n+2),h=>exact absurd h (by simp;omega)
omit [ax] in
theorem aOS {P:Program}(x y c:Int)(h:c.toNat<=1)(w:World):(aAE #[.int .u64 x,.int .u64 y,.int .u64 c]).run P w=
  .ok (.tuple #[.int .u64 (wl ((x.toNat+18446744073709551616-y.toNat-c.toNat)%18446744073709551616)),.int .u64 (wl (if x.toNat<y.toNat+c.toNat then 1 else 0))]) w:=by
 match c,h with
 |.ofNat 0,_=>rfl
 |.ofNat 1,_=>rfl
 |.negSucc n,_=>rfl
 |.ofNat (n+2),h=>exact absurd h (by simp;omega)
theorem aAF {P:Program}{f:FuncId}{fn:Func}{e:Array Value->Sem Value}{A B:Int->Int->Int->Int}(hf:P.funcs[f]? =some fn)(aFH:(fn.name=="runtime.NumGoroutine")=false)
  (hb:fn.body.isNone=true)(hn:Extern.findNext fn=none)(he:Extern.find fn=some e)
  (oH:∀(x y c:Int) (w:World),c.toNat<=1->(e #[.int .u64 x,.int .u64 y,.int .u64 c]).run P w=.ok (.tuple #[.int .u64 (A x y c),.int .u64 (B x y c)]) w):
  Sound P f λ
   | [.r (.c (.f (.i .u64 x))),.r (.c (.f (.i .u64 y))),.r (.c (.f (.i .u64 c)))],[]=>.test (wd c.toNat 1) (.leaf ⟨.tup [aJE (A x y c),aJE (B x y c)],[],[]⟩) .fail
   |_,_=>.fail:=by
 intro args h res uc w π vs lV hH ky;simp only at uc;split at uc
 .rename_i x y c
  simp only[T.eval] at uc;split at uc
  .rename_i hc
   cases uc;right
   obtain⟨l⟩:=vs;match l,lV with
   | [v1,v2,v3],⟨h1,h2,h3,_⟩=>
    have h1:v1=.int .u64 x:=h1;have h2:v2=.int .u64 y:=h2;have h3:v3=.int .u64 c:=h3;subst h1 h2 h3;refine⟨_,by rw[run_callFunc_extern hf aFH hb hn he,oH x y c w (yb hc)];rfl,π,_,rfl,Ext.refl π,⟨#[_,_],rfl,rfl,rfl,trivial⟩,hH,cj.refl _ _,ky,λb B s q e hb hp=> ?_⟩;exact absurd (ky b (by rw[hp];simp)) (by omega)
  .cases uc
 .cases uc
abbrev aY9 (x y c:Int):Int:=wl ((x.toNat+y.toNat+c.toNat)%18446744073709551616)
abbrev aZa (x y c:Int):Int:=wl ((x.toNat+y.toNat+c.toNat)/18446744073709551616)
abbrev aZb (x y c:Int):Int:=wl ((x.toNat+18446744073709551616-y.toNat-c.toNat)%18446744073709551616)
abbrev aZc (x y c:Int):Int:=wl (if x.toNat<y.toNat+c.toNat then 1 else 0)
def aD0 (A B:Int->Int->Int->Int):Ff
 | [.r (.c (.f (.i .u64 x))),.r (.c (.f (.i .u64 y))),.r (.c (.f (.i .u64 c)))],[]=>.test (wd c.toNat 1) (.leaf ⟨.tup [aJE (A x y c),aJE (B x y c)],[],[]⟩) .fail
 |_,_=>.fail
theorem aLy {P:Program}{f:FuncId}{fn:Func}(hf:P.funcs[f]? =some fn)(aFH:(fn.name=="runtime.NumGoroutine")=false)
  (hb:fn.body.isNone=true)(hn:Extern.findNext fn=none)(he:Extern.find fn=some add64Entry):Sound P f (aD0 aY9 aZa):=
 aAF hf aFH hb hn he λx y c w h=>aOR x y c h w
theorem aLz {P:Program}{f:FuncId}{fn:Func}(hf:P.funcs[f]? =some fn)(aFH:(fn.name=="runtime.NumGoroutine")=false)
  (hb:fn.body.isNone=true)(hn:Extern.findNext fn=none)(he:Extern.find fn=some aAE):Sound P f (aD0 aZb aZc):=
 aAF hf aFH hb hn he λx y c w h=>aOS x y c h w
end Go.Ab
namespace Go.Ab
theorem aU4 {D:Type}(x:Option D)(g:D->pS):(T.opt x λd=>.leaf (g d)).eval=x.map g:=by cases x<;>rfl
abbrev C3:=Int->Int->Int->Option (Int×Int)
def aew (f:C3):Ff:=λargs h=>match args,h with
 | [.r (.c (.f (.i .u64 x))),.r (.c (.f (.i .u64 y))),.r (.c (.f (.i .u64 c)))],[]=>.opt (f x y c) λd=>.leaf ⟨.tup [aJE d.1,aJE d.2],[],[]⟩
 |_,_=>.fail
def Dg:C3:=λx y c=>cond (wd c.toNat 1) (some (aY9 x y c,aZa x y c)) none
def aex:C3:=λx y c=>cond (wd c.toNat 1) (some (aZb x y c,aZc x y c)) none
theorem aJF [ax]{P:Program}{f:FuncId}{A B:Int->Int->Int->Int}(S:Sound P f (aD0 A B)):Sound P f (aew λx y c=>cond (wd c.toNat 1) (some (A x y c,B x y c)) none):=
 S.weaken λargs h r hr=>by
  unfold aew at hr;split at hr
  .rename_i x y c
   rw[aU4] at hr;simp only at hr;refine⟨r,?_,.refl _ _⟩;unfold aD0;simp only[T.eval];cases hc:wd c.toNat 1<;>rw[hc] at hr<;>first|(cases hr;done)|exact hr
  .cases hr
theorem atL {D:Type}(x:Option D)(g:D->T):(T.opt x g).eval=x.bind λd=>(g d).eval:=by cases x<;>rfl
theorem aU5 {α β:Type}(q:α->Option β)(b:Bool)(x y:Option α):(cond b x y).bind q=cond b (x.bind q) (y.bind q):=by cases b<;>rfl
def T.sum {A B:Type}(x:A⊕B)(f:A->T)(g:B->T):T:=.test x.isLeft (.opt x.getLeft? f) (.opt x.getRight? g)
theorem aFI {b:Bool}{a:T}{r:pS}(h:(T.test b a .fail).eval=some r):b=true/\a.eval=some r:=by cases b<;>first|(cases h;done)|exact⟨rfl,h⟩
theorem aAG {D X ρ σ:Type}{s1:D->(D->Option ρ)->(X->Option ρ)->Option ρ}{s2:D->(D->Option σ)->(X->Option σ)->Option σ}(q:ρ->Option σ)
  (h:∀d c x,(s1 d c x).bind q=s2 d (λd=>(c d).bind q) (λe=>(x e).bind q))(k:X->Option ρ):∀(n:Nat) (d:D),(To s1 n d k).bind q=To s2 n d λe=>(k e).bind q
 |0,_=>rfl
 |n+1,d=>by
  show(s1 d (λd=>To s1 n d k) k).bind q=s2 d (λd=>To s2 n d λe=>(k e).bind q) λe=>(k e).bind q
  rw[h];congr 1
  funext d'
  exact aAG q h k n d'
theorem aAH {hd:St->Option St}{ρ:Type}{body:St->(AX->St->Option ρ)->Option ρ}{K:AX->St->Option ρ}{D X:Type}{emb:D->St}{step:D->(D->Option ρ)->(X->Option ρ)->Option ρ}{kx:X->Option ρ}
  (h:∀(d:D) (c:St->Option ρ),body (emb d) (next hd c K)=step d (λd=>c (emb d)) kx):∀(n:Nat) (d:D),iter hd body K n (emb d)=To step n d kx
 |0,_=>rfl
 |n+1,d=>by
  have e:iter hd body K (n+1) (emb d)=body (emb d) (next hd (iter hd body K n) K):=rfl;rw[e,h];have e2:To step (n+1) d kx=step d (λd=>To step n d kx) kx:=rfl;rw[e2];congr 1
  funext d'
  exact aAH h n d'
theorem OD.of [ax]{P:Program}{E:Env}{hs:Hs}{nt lf id k0:Nat}{a:Code}{run:∀{ρ:Type},St->(AX->St->Option ρ)->Option ρ}(h0:aqU hs a=some ⟨id,k0,run⟩)
  (h:∀{ρ:Type} (s:St) (K:AX->St->Option ρ) (r:ρ),run s K=some r->∃n,iter (λt=>t.head k0 hs a) (G8 P E hs nt k0 lf a) K n s=some r):∀kk,OD P E hs nt kk lf a:=by
 intro kk σ hσ hk ρ s K r hr;rw[h0] at hσ;cases hσ;cases hk;exact h s K r hr
theorem OD.no [ax]{P:Program}{E:Env}{hs:Hs}{nt lf:Nat}{a:Code}(h0:aqU hs a=none):∀kk,OD P E hs nt kk lf a:=by
 intro kk σ hσ;rw[h0] at hσ;cases hσ
theorem BP.imp {α:Type}{p q:α->Prop}(h:∀a,p a->q a):∀{l:List α},BP p l->BP q l
 | [],_=>trivial
 |_::_,hl=>⟨h _ hl.1,BP.imp h hl.2⟩
theorem avi.of [ax]{P:Program}{E:Env}{hs:Hs}{nt lf id k0:Nat}{hd:Hd}{b:Code}{run:∀{ρ:Type},St->(AX->St->Option ρ)->Option ρ}(h0:aAj hs b=some ⟨hd,⟨id,k0,run⟩⟩)
  (h:∀{ρ:Type} (s:St) (K:AX->St->Option ρ) (r:ρ),run s K=some r->G8 P E hs nt k0 lf b s K=some r):∀kk,avi P E hs nt kk lf b:=by
 intro kk j hj hk ρ s K r hr;rw[h0] at hj;cases hj;cases hk;exact h s K r hr
theorem LK.by [ax]{P:Program}{E:Env}{hs:Hs}{f:FuncId}{lf:Nat}{l lj:List Code}(hl:LH (aai P f)=l)(h:BP (λa=>∀kk,OD P E hs (tmpsOf P f) kk lf a) l)
  (hlj:LJ hs (aai P f)=lj)(hj:BP (λb=>∀kk,avi P E hs (tmpsOf P f) kk lf b) lj):
  ∀(fn:Func) (c:Code) (kk:Nat),P.funcs[f]? =some fn->fn.body=some c->LK P E hs fn.ntmps kk lf c:=by
 intro fn c kk hf hb;have e1:aai P f=c:=by unfold aai;rw[hf];simp[hb]
 have e2:tmpsOf P f=fn.ntmps:=by unfold tmpsOf;rw[hf];rfl
 rw[e1] at hl hlj;rw[<-e2];refine LK.of ?_ ?_
 .rw[hl];exact h.imp λa ha=>ha kk
 .rw[hlj];exact hj.imp λa ha=>ha kk
structure jM (α β:Type) where
 rd:α->Option β
 em:β->α
 ok:∀a b,rd a=some b->a=em b
namespace jM
def hole {α:Type}:jM α α:=⟨some,id,λa b h=>by cases h;rfl⟩
def nat (n:Nat):jM Nat Unit:=⟨λm=>cond (ww m n) (some ()) none,λ_=>n,λa b h=>by
 cases hb:ww a n<;>rw[hb] at h<;>first|(cases h;done)|exact oK hb⟩
def int (n:Int):jM Int Unit:=⟨λm=>cond (decide (m=n)) (some ()) none,λ_=>n,λa b h=>by
 cases hb:decide (a=n)<;>rw[hb] at h<;>first|(cases h;done)|exact eK hb⟩
def bool (n:Bool):jM Bool Unit:=⟨λm=>cond (m==n) (some ()) none,λ_=>n,λa b h=>by
 cases a<;>cases n<;>first|rfl|cases h⟩
def via {α α' β:Type}(f:α->α')(g:α'->Option α)(h:∀a' a,g a'=some a->a'=f a)(x:jM α β):jM α' β:=⟨λa=>(g a).bind x.rd,λb=>f (x.em b),λa b hb=>by
 cases ha:g a with
 |none=>rw[ha] at hb;cases hb
 |some c=>rw[ha] at hb;rw[h a c ha,<-x.ok c b hb]⟩
def pair {α β γ δ:Type}(x:jM α β)(y:jM γ δ):jM (α×γ) (β×δ):=⟨λp=>(x.rd p.1).bind λb=>(y.rd p.2).bind λd=>some (b,d),λq=>(x.em q.1,y.em q.2),λp q h=>by
 cases h1:x.rd p.1 with
 |none=>rw[h1] at h;cases h
 |some b=>
  rw[h1] at h;cases h2:y.rd p.2 with
  |none=>simp only[bR,h2] at h;cases h
  |some d=>
   simp only[bR,h2] at h;cases h;rw[<-x.ok _ _ h1,<-y.ok _ _ h2]⟩
def one {α:Type}(a:α)(g:α->Bool)(h:∀b,g b=true->b=a):jM α Unit:=⟨λb=>cond (g b) (some ()) none,λ_=>a,λb _ hb=>by
 cases hg:g b<;>rw[hg] at hb<;>first|(cases hb;done)|exact h b hg⟩
def nil {α:Type}:jM (List α) Unit:=one [] (λl=>match l with| []=>true|_=>false) λb h=>by cases b<;>first|rfl|cases h
def cons {α β γ:Type}(x:jM α β)(y:jM (List α) γ):jM (List α) (β×γ):=via (λp:α×List α=>p.1::p.2) (λl=>match l with|a::l=>some (a,l)|_=>none) (λa' a h=>by cases a'<;>cases h;rfl) (pair x y)
def szl {β:Type}(x:jM Nat β):jM Sz β:=via Sz.l (λz=>match z with|.l n=>some n|_=>none) (λa' a h=>by cases a'<;>cases h;rfl) x
def szs {β:Type}(x:jM Nat β):jM Sz β:=via Sz.s (λz=>match z with|.s n=>some n|_=>none) (λa' a h=>by cases a'<;>cases h;rfl) x
def ok' {β:Type}(x:jM Nat β):jM cD β:=via cD.k (λz=>match z with|.k n=>some n|_=>none) (λa' a h=>by cases a'<;>cases h;rfl) x
def ox {β γ δ:Type}(x:jM Nat β)(y:jM Nat γ)(z:jM Nat δ):jM cD (β×γ×δ):=via (λp:Nat×Nat×Nat=>cD.x p.1 p.2.1 p.2.2) (λz=>match z with|.x a b c=>some (a,b,c)|_=>none) (λa' a h=>by cases a'<;>cases h;rfl) (pair x (pair y z))
def fi {β:Type}(k:IntKind)(x:jM Int β):jM FV β:=via (FV.i k) (λz=>match z with|.i k' n=>cond (decide (k'=k)) (some n) none|_=>none) (λa' a h=>by
 cases a' with
 |i k' n=>
  cases hk:decide (k'=k)<;>simp only[hk] at h<;>first|(cases h;done)|(cases h;rw[eK hk])
 |_=>cases h) x
def fb {β:Type}(x:jM Bool β):jM FV β:=via FV.b (λz=>match z with|.b n=>some n|_=>none) (λa' a h=>by cases a'<;>cases h;rfl) x
def fs {β:Type}(x:jM ByteArray β):jM FV β:=via FV.s (λz=>match z with|.s n=>some n|_=>none) (λa' a h=>by cases a'<;>cases h;rfl) x
def cf {β:Type}(x:jM FV β):jM CV β:=via CV.f (λz=>match z with|.f n=>some n|_=>none) (λa' a h=>by cases a'<;>cases h;rfl) x
def H7 {β γ δ:Type}(x:jM Nat β)(y:jM cD γ)(z:jM Nat δ):jM CV (β×γ×δ):=via (λp:Nat×cD×Nat=>CV.ptr p.1 p.2.1 p.2.2) (λz=>match z with|.ptr a b c=>some (a,b,c)|_=>none) (λa' a h=>by cases a'<;>cases h;rfl) (pair x (pair y z))
def ccl {α β γ δ:Type}(u:jM Nat α)(x:jM Nat β)(y:jM cD γ)(z:jM Nat δ):jM CV (α×β×γ×δ):=via (λp:Nat×Nat×cD×Nat=>CV.cl p.1 p.2.1 p.2.2.1 p.2.2.2) (λz=>match z with|.cl e a b c=>some (e,a,b,c)|_=>none) (λa' a h=>by cases a'<;>cases h;rfl) (pair u (pair x (pair y z)))
def jk {β γ δ ε ζ:Type}(x:jM Nat β)(y:jM cD γ)(z:jM Sz δ)(u:jM Nat ε)(w:jM Bool ζ):jM CV (β×γ×δ×ε×ζ):=via (λp:Nat×cD×Sz×Nat×Bool=>CV.sl p.1 p.2.1 p.2.2.1 p.2.2.2.1 p.2.2.2.2) (λz=>match z with|.sl a b c d e=>some (a,b,c,d,e)|_=>none) (λa' a h=>by cases a'<;>cases h;rfl) (pair x (pair y (pair z (pair u w))))
def cfs {β γ δ:Type}(x:jM Nat β)(y:jM Nat γ)(z:jM (List cS) δ):jM CV (β×γ×δ):=via (λp:Nat×Nat×List cS=>CV.fs p.1 p.2.1 p.2.2) (λz=>match z with|.fs a b c=>some (a,b,c)|_=>none) (λa' a h=>by cases a'<;>cases h;rfl) (pair x (pair y z))
def aEl:jM CV Unit:=one .ai9 (λl=>match l with|.ai9=>true|_=>false) λb h=>by cases b<;>first|rfl|cases h
def aW0:jM CV Unit:=one .nils (λl=>match l with|.nils=>true|_=>false) λb h=>by cases b<;>first|rfl|cases h
def ki {β:Type}(k:IntKind)(x:jM (Nat->Int) β):jM cS β:=via (cS.i k) (λz=>match z with|.i k' n=>cond (decide (k'=k)) (some n) none|_=>none) (λa' a h=>by
 cases a' with
 |i k' n=>
  cases hk:decide (k'=k)<;>simp only[hk] at h<;>first|(cases h;done)|(cases h;rw[eK hk])
 |_=>cases h) x
def kb {β:Type}(x:jM (Nat->Bool) β):jM cS β:=via cS.b (λz=>match z with|.b n=>some n|_=>none) (λa' a h=>by cases a'<;>cases h;rfl) x
def ks {β:Type}(x:jM (Nat->ByteArray) β):jM cS β:=via cS.s (λz=>match z with|.s n=>some n|_=>none) (λa' a h=>by cases a'<;>cases h;rfl) x
def gc {β:Type}(x:jM CV β):jM Sg β:=via Sg.c (λz=>match z with|.c n=>some n|_=>none) (λa' a h=>by cases a'<;>cases h;rfl) x
def ga {β γ:Type}(x:jM Sz β)(y:jM (List cS) γ):jM Sg (β×γ):=via (λp:Sz×List cS=>Sg.a p.1 p.2) (λz=>match z with|.a n c=>some (n,c)|_=>none) (λa' a h=>by cases a'<;>cases h;rfl) (pair x y)
def rc {β:Type}(x:jM CV β):jM RV β:=via RV.c (λz=>match z with|.c n=>some n|_=>none) (λa' a h=>by cases a'<;>cases h;rfl) x
def ra {β:Type}(x:jM af β):jM RV β:=via RV.agg (λz=>match z with|.agg n=>some n|_=>none) (λa' a h=>by cases a'<;>cases h;rfl) x
def ar {β:Type}(x:jM RV β):jM AV β:=via AV.r (λz=>match z with|.r n=>some n|_=>none) (λa' a h=>by cases a'<;>cases h;rfl) x
def sZ {β:Type}(x:jM (List RV) β):jM AV β:=via AV.tup (λz=>match z with|.tup n=>some n|_=>none) (λa' a h=>by cases a'<;>cases h;rfl) x
def afn {β γ:Type}(x:jM Nat β)(y:jM (List RV) γ):jM AV (β×γ):=via (λp:Nat×List RV=>AV.fn p.1 p.2) (λz=>match z with|.fn a b=>some (a,b)|_=>none) (λa' a h=>by cases a'<;>cases h;rfl) (pair x y)
def a1X:jM AV Unit:=one .WC (λl=>match l with|.WC=>true|_=>false) λb h=>by cases b<;>first|rfl|cases h
def st {β γ δ:Type}(x:jM (List AV) β)(y:jM (List (Option af)) γ)(z:jM (List Nat) δ):jM St (β×γ×δ):=via (λp:List AV×List (Option af)×List Nat=>St.mk p.1 p.2.1 p.2.2) (λz=>some (z.tmps,z.heap,z.dz)) (λa' a h=>by cases a';cases h;rfl) (pair x (pair y z))
end jM
end Go.Ab
namespace Go.Proofs.YtldgljclcgaibaaGreat
open Go.Ab
theorem mixed:Tryz.prog.follows .mixedOrders=true:=by kernel_rfl
theorem own:ownKnob Tryz.prog.godebug=none:=by kernel_rfl
theorem laid:laidOutB Tryz.prog=true:=by kernel_rfl
end Go.Proofs.YtldgljclcgaibaaGreat
namespace Go.Ab
variable [ax]
variable {P:Program}
def EE (LB:List CK):af:=[.a (.s 0) (LB.map CK.om)]
def T.aOT (g:pS->pS):T->T
 |.leaf r=>.leaf (g r)
 |.fail=>.fail
 |.test x a b=>.test x (a.aOT g) (b.aOT g)
 |.opt x k=>.opt x λd=>(k d).aOT g
omit [ax] in
theorem aSB {g:pS->pS}{t:T}{r:pS}(h:(t.aOT g).eval=some r):∃r',t.eval=some r'/\r=g r':=by
 induction t with
 |leaf r'=>cases h;exact⟨r',rfl,rfl⟩
 |fail=>cases h
 |test x a b iha ihb=>
  cases x
  .exact ihb h
  .exact iha h
 |opt x k ih=>
  cases x with
  |none=>cases h
  |some d=>exact ih d h
def vN (i:Nat)(LB:List CK)(F:Ff):Ff:=λargs h=>match args[i]? with
 |some (.r (.c .nils))=>(F (args.set i (.r (.c (.sl h.length (.k 0) (.s 0) LB.length true)))) (h++[EE LB])).aOT λr=>⟨r.val,r.yM.take h.length,EE LB::r.news⟩
 |_=>F args h
omit [ax] in
theorem aFJ (LB:List CK):af.size (EE LB)=0:=by
 unfold EE;rw[af.size_cons,af.lX,Sg.ma];simp[Sz.val]
omit [ax] in
theorem RK:∀(h:List af) (z:af) (cs:List Ch),∃x,after (h++[z]) cs=after h (cs.take h.length)++[x]
 | [],z,[]=>⟨none,rfl⟩
 | [],z,.m7::cs=>⟨some z,rfl⟩
 | [],z,.set b::cs=>⟨some b,rfl⟩
 | [],z,.kill::cs=>⟨none,rfl⟩
 |b::bs,z,[]=>by
  obtain⟨x,hx⟩:=RK bs z [];refine⟨x,?_⟩;simp only[List.take_nil] at hx;simp[after,hx]
 |b::bs,z,.m7::cs=>by
  obtain⟨x,hx⟩:=RK bs z cs;exact⟨x,by simp[after,hx]⟩
 |b::bs,z,.set k::cs=>by
  obtain⟨x,hx⟩:=RK bs z cs;exact⟨x,by simp[after,hx]⟩
 |b::bs,z,.kill::cs=>by
  obtain⟨x,hx⟩:=RK bs z cs;exact⟨x,by simp[after,hx]⟩
omit [ax] in
theorem aZd {α:Type}{A N:List α}{x y:α}{b:Nat}(h:b≠A.length):(A++[x]++N)[b]? =(A++y::N)[b]? :=by
 rcases pQ b A.length with h1|h1
 .rw[ayl,UT h1,UT h1]
 .rw[ayl,aen h1,aen h1];obtain⟨m,hm⟩:∃m,b-A.length=m+1:=⟨b-A.length-1,by omega⟩;rw[hm];rfl
theorem Sound.nil {f:FuncId}{F:Ff}(i:Nat)(LB:List CK)(S:Sound P f F):Sound P f (vN i LB F):=by
 intro args h res uc w π vs lV hH ky;unfold vN at uc;split at uc
 .rename_i hi
  obtain⟨r,hr,rfl⟩:=aSB uc;generalize hπ2:(λb=>if b=h.length then some (0,0,0,0) else π b:Pi)=π2
  have p1:∀b,b≠h.length->π2 b=π b:=λb hb=>by rw[<-hπ2];simp[hb]
  have p2:π2 h.length=some (0,0,0,0):=by rw[<-hπ2];simp
  have hx:Ext π π2:=λb p hb=>by
   have:b<h.length:=ky b (by rw[hb];simp);rw[p1 b (by omega)];exact hb
  have a0R:bn (AV.rel π2) (args.set i (.r (.c (.sl h.length (.k 0) (.s 0) LB.length true)))) vs.toList:=by
   have lV:=lV.imp (AV.dR hx);refine bn.agI (by rw[List.length_set];exact lV.length) λj a v ha hv=> ?_;rw[aEK] at ha;split at ha
   .rename_i hij
    subst hij;split at ha
    .cases ha;obtain⟨v',hv',hr'⟩:=lV.get hi;rw[hv] at hv';cases hv'
     exact⟨0,0,0,0,p2,by simp[cD.val,Sz.val],by simp[cD.val,Sz.val],.inl ⟨rfl,none,hr'⟩⟩
    .cases ha
   .obtain⟨v',hv',hr'⟩:=lV.get ha;rw[hv] at hv';cases hv'
    exact hr'
  have lt:∀b,b<h.length->((h++[EE LB]).map some)[b]? =(h.map some)[b]? :=λb hb=>by
   rw[List.map_append,UT (by simpa using hb)]
  have gz:∀b,b<h.length->hZ ((h++[EE LB]).map some) b=hZ (h.map some) b/\∀j,hC ((h++[EE LB]).map some) b j=hC (h.map some) b j:=λb hb=>by
   unfold hZ hC;rw[lt b hb];exact⟨rfl,λ_=>rfl⟩
  have gn:hZ ((h++[EE LB]).map some) h.length=some 0:=by
   unfold hZ;simp[aFJ]
  have gd:∀b,h.length<b->hZ ((h++[EE LB]).map some) b=none:=λb hb=>by
   unfold hZ;rw[JN (by simp;omega)];rfl
  have hH2:tf π2 (hC ((h++[EE LB]).map some)) (hZ ((h++[EE LB]).map some)) w:=by
   refine⟨hH.am,λb B s q e hz hb BN=> ?_,λb n hn=> ?_,λb b' B s q e s' q' e' oM hz uN hb fC i i1 i2 i3 i4=> ?_⟩
   .rcases agr b h.length with h1|h1|h1
    .rw[(gz b h1).1] at hz;rw[p1 b (by omega)] at hb;exact hH.lb b B s q e hz hb BN
    .subst h1;rw[p2] at hb;cases hb;omega
    .exact absurd (gd b h1) hz
   .rcases agr b h.length with h1|h1|h1
    .rw[(gz b h1).1] at hn;obtain⟨B,s,e,k1,k2,k3,k4⟩:=hH.hp b n hn
     exact⟨B,s,e,hx _ _ k1,k2,k3,λj hj=>by
      obtain⟨v,v1,v2⟩:=k4 j hj;exact⟨v,v1,by rw[(gz b h1).2];exact CV.dR hx _ _ v2⟩⟩
    .subst h1;rw[gn] at hn;cases hn;exact⟨0,0,0,p2,by omega,λi _ _=>by omega,λj hj=>by omega⟩
    .rw[gd b h1] at hn;cases hn
   .have nz:∀b B s q e,b=h.length->π2 b=some (B,s,q,e)->s=0/\e=0:=λb B s q e hb hp=>by
     rw[hb,p2] at hp;cases hp;exact⟨rfl,rfl⟩
    rcases agr b h.length with h1|h1|h1
    .rcases agr b' h.length with h2|h2|h2
     .rw[(gz b h1).1] at hz;rw[(gz b' h2).1] at uN;rw[p1 b (by omega)] at hb;rw[p1 b' (by omega)] at fC;exact hH.dj b b' B s q e s' q' e' oM hz uN hb fC i i1 i2 i3 i4
     .have:=nz b' B s' q' e' h2 fC;omega
     .exact uN (gd b' h2)
    .have:=nz b B s q e h1 hb;omega
    .exact hz (gd b h1)
  have a2Q:∀b,π2 b≠none->b<(h++[EE LB]).length:=λb hb=>by
   rw[ayk];show b<h.length+1;rcases agr b h.length with h1|h1|h1
   .omega
   .omega
   .rw[p1 b (by omega)] at hb;have:=ky b hb;omega
  have aZe:∀B i,Df π2 (h++[EE LB]).length (Tl r.yM) B i->Df π h.length (Tl (r.yM.take h.length)) B i:=by
   rintro B i ⟨b,s,q,e,hb,hD,hp,i1,i2⟩
   rw[ayk] at hb;have hb:b<h.length+1:=hb;rcases pQ b h.length with h1|h1
   .rw[p1 b (by omega)] at hp;exact⟨b,s,q,e,h1,λhk=>hD (by rw[acd,if_pos h1] at hk;exact hk),hp,i1,i2⟩
   .obtain rfl:b=h.length:=by omega
    rw[p2] at hp;cases hp;omega
  suffices key:∀e w',ub π2 w (h++[EE LB]) r e w'->ub π w h ⟨r.val,r.yM.take h.length,EE LB::r.news⟩ e w' by
   rcases S _ _ r hr w π2 vs a0R hH2 a2Q with⟨S1,S2⟩| ⟨v,S1,S2⟩
   .exact .inl ⟨S1,Calls.mono S2 key⟩
   .exact .inr ⟨v,S1,key _ _ S2⟩
  rintro e w' ⟨π',v,rfl,hx',hv,hH',hF,hd,hi'⟩
  have p2':π' h.length=some (0,0,0,0):=hx' _ _ p2;obtain⟨x,hxx⟩:=RK h (EE LB) r.yM;have hlen:(after h (r.yM.take h.length)).length=h.length:=nR ..
  have eq1:∀b,b≠h.length->(r.heap (h++[EE LB]))[b]? =((⟨r.val,r.yM.take h.length,EE LB::r.news⟩:pS).heap h)[b]? :=λb hb=>by
   unfold pS.heap;rw[hxx];exact aZd (by rw[hlen];exact hb)
  have eqz:∀b,b≠h.length->hZ ((⟨r.val,r.yM.take h.length,EE LB::r.news⟩:pS).heap h) b=hZ (r.heap (h++[EE LB])) b:=λb hb=>by
   unfold hZ;rw[eq1 b hb]
  have eqc:∀b j,b≠h.length->hC ((⟨r.val,r.yM.take h.length,EE LB::r.news⟩:pS).heap h) b j=hC (r.heap (h++[EE LB])) b j:=λb j hb=>by
   unfold hC;rw[eq1 b hb]
  have eqn:hZ ((⟨r.val,r.yM.take h.length,EE LB::r.news⟩:pS).heap h) h.length=some 0:=by
   unfold hZ pS.heap;show(((after h (r.yM.take h.length)++(EE LB::r.news).map some)[h.length]?).getD none).map af.size=some 0;rw[aen (by omega),hlen];simp[aFJ]
  refine⟨π',v,rfl,hx.trans hx',hv,⟨hH'.am,λb B s q e hz hb BN=> ?_,λb n hn=> ?_,λb b' B s q e s' q' e' oM hz uN hb fC i i1 i2 i3 i4=> ?_⟩,hF.mono λB i _ h=>aZe B i h,λb hb=> ?_,λb B s q e hb hp hB i i1 i2=> ?_⟩
  .by_cases h1:b=h.length
   .rw[h1,p2'] at hb;cases hb;omega
   .rw[eqz b h1] at hz;exact hH'.lb b B s q e hz hb BN
  .by_cases h1:b=h.length
   .subst h1;rw[eqn] at hn;cases hn;exact⟨0,0,0,p2',by omega,λi _ _=>by omega,λj hj=>by omega⟩
   .rw[eqz b h1] at hn;obtain⟨B,s,e,k1,k2,k3,k4⟩:=hH'.hp b n hn;exact⟨B,s,e,k1,k2,k3,λj hj=>by rw[eqc b j h1];exact k4 j hj⟩
  .have nz:∀b B s q e,b=h.length->π' b=some (B,s,q,e)->s=0/\e=0:=λb B s q e hb hp=>by
    rw[hb,p2'] at hp;cases hp;exact⟨rfl,rfl⟩
   by_cases h1:b=h.length
   .have:=nz b B s q e h1 hb;omega
   .by_cases h2:b'=h.length
    .have:=nz b' B s' q' e' h2 fC;omega
    .rw[eqz b h1] at hz;rw[eqz b' h2] at uN;exact hH'.dj b b' B s q e s' q' e' oM hz uN hb fC i i1 i2 i3 i4
  .have:=hd b hb;rw[ayk] at this;show b<h.length+(r.news.length+1);have:b<h.length+1+r.news.length:=this;omega
  .by_cases h1:b=h.length
   .rw[h1,p2'] at hp;cases hp;omega
   .exact aZe B i (hi' b B s q e (by rw[ayk];show h.length+1<=b;omega) hp hB i i1 i2)
 .exact S args h res uc w π vs lV hH ky
end Go.Ab
noncomputable section
namespace Go.Ab
inductive Pg (δ:Type):Type 1 where
 |ret (d:δ)
 |no
 |ae (b:Bool) (x y:Pg δ)
 |opt {D:Type} (x:Option D) (f:D->Pg δ)
 |sum {A B:Type} (x:A⊕B) (f:A->Pg δ) (g:B->Pg δ)
namespace Pg
def run {δ ρ:Type}(p:Pg δ)(k:δ->Option ρ):Option ρ:=
 Pg.rec (motive:=λ_=>Option ρ) k none (λb _ _ x y=>cond b x y) (λx _ ih=>x.bind ih) (λx _ _ f g=>t8 f g x) p
def val {δ:Type}(p:Pg δ):Option δ:=p.run some
variable {δ ρ σ:Type}
theorem A9 (d:δ)(k:δ->Option ρ):(ret d).run k=k d:=rfl
theorem Gk (k:δ->Option ρ):(no:Pg δ).run k=none:=rfl
theorem wN (b:Bool)(x y:Pg δ)(k:δ->Option ρ):(ae b x y).run k=bif b then x.run k else y.run k:=rfl
theorem wO {D:Type}(x:Option D)(f:D->Pg δ)(k:δ->Option ρ):(opt x f).run k=x.bind λd=>(f d).run k:=rfl
theorem wP {A B:Type}(x:A⊕B)(f:A->Pg δ)(g:B->Pg δ)(k:δ->Option ρ):(sum x f g).run k=t8 (λa=>(f a).run k) (λb=>(g b).run k) x:=rfl
theorem cF (d:δ):(ret d).val=some d:=rfl
theorem fI:(no:Pg δ).val=none:=rfl
theorem ck (b:Bool)(x y:Pg δ):(ae b x y).val=bif b then x.val else y.val:=rfl
theorem cT {D:Type}(x:Option D)(f:D->Pg δ):(opt x f).val=x.bind λd=>(f d).val:=rfl
theorem eL {A B:Type}(x:A⊕B)(f:A->Pg δ)(g:B->Pg δ):(sum x f g).val=t8 (λa=>(f a).val) (λb=>(g b).val) x:=rfl
theorem aOU (p:Pg δ)(k:δ->Option ρ)(q:ρ->Option σ):(p.run k).bind q=p.run λd=>(k d).bind q:=by
 induction p with
 |ret d=>rfl
 |no=>rfl
 |ae b x y ih1 ih2=>rw[wN,wN,aU5,ih1,ih2]
 |opt x f ih=>
  rw[wO,wO];cases x with
  |none=>rfl
  |some d=>exact ih d
 |sum x f g ih1 ih2=>
  rw[wP,wP];cases x with
  |inl a=>exact ih1 a
  |inr b=>exact ih2 b
theorem avI (p:Pg δ)(k:δ->Option ρ):p.val.bind k=p.run k:=by
 unfold val;rw[aOU];rfl
def sm {A B:Type}(x:A⊕B)(f:A->Pg δ)(g:B->Pg δ):Pg δ:=ae x.isLeft (opt x.getLeft? f) (opt x.getRight? g)
theorem aD1 {A B:Type}(x:A⊕B)(f:A->Pg δ)(g:B->Pg δ):(sm x f g).val=t8 (λa=>(f a).val) (λb=>(g b).val) x:=by cases x<;>rfl
end Pg
def bj {D X:Type}(s:D->Pg (D⊕X))(n:Nat)(d:D):Option X:=To (λd c x=>(s d).run (t8 c x)) n d some
theorem al9 {D X ρ:Type}(s:D->Pg (D⊕X))(n:Nat)(d:D)(k:X->Option ρ):(bj s n d).bind k=To (λd c x=>(s d).run (t8 c x)) n d k:=by
 unfold bj;refine(aAG k (λd c x=> ?_) some n d).trans rfl;rw[Pg.aOU];congr 1
 funext y
 cases y<;>rfl
def aFK:List Bool->Prop
 | []=>True
 |b::l=>b=true/\aFK l
theorem ayL:∀{l m:List Bool},aFK (l++m)->aFK l/\aFK m
 | [],_,h=>⟨trivial,h⟩
 |_::_,_,h=>⟨⟨h.1,(ayL h.2).1⟩,(ayL h.2).2⟩
structure Rq (α β:Type) where
 rd:α->Option (List Bool×β)
 em:β->α
 ok:∀a l b,rd a=some (l,b)->aFK l->a=em b
abbrev Rq.B {α β:Type}(_:Rq α β):Type:=β
namespace Rq
variable {α β γ δ:Type}
def hole:Rq α α:=⟨λa=>some ([],a),id,λa l b h _=>by cases h;rfl⟩
def one (a:α)(g:α->Bool)(h:∀b,g b=true->b=a):Rq α Unit:=⟨λb=>cond (g b) (some ([],())) none,λ_=>a,λb _ _ hb _=>by
 cases hg:g b<;>rw[hg] at hb<;>first|(cases hb;done)|exact h b hg⟩
def tie (n:Nat):Rq Nat Unit:=⟨λm=>some ([ww m n],()),λ_=>n,λa l b h hl=>by
 have h1:[ww a n]=l:=(Prod.mk.inj (OE h)).1;subst h1;exact oK hl.1⟩
def nat (n:Nat):Rq Nat Unit:=one n (λm=>ww m n) λ_ h=>oK h
def int (n:Int):Rq Int Unit:=one n (λm=>decide (m=n)) λ_ h=>eK h
def bool (n:Bool):Rq Bool Unit:=one n (λm=>m==n) λ_ h=>by simpa using h
def via {α':Type}(f:α->α')(g:α'->Option α)(h:∀a' a,g a'=some a->a'=f a)(x:Rq α β):Rq α' β:=⟨λa=>(g a).bind x.rd,λb=>f (x.em b),λa l b hb hl=>by
 cases ha:g a with
 |none=>rw[ha] at hb;cases hb
 |some c=>rw[ha] at hb;rw[h a c ha,<-x.ok c l b hb hl]⟩
def dp (x:Rq α β)(y:β->Rq γ δ):Rq (α×γ) (β×δ):=⟨λp=>(x.rd p.1).bind λb=>((y b.2).rd p.2).bind λd=>some (b.1++d.1,(b.2,d.2)),λq=>(x.em q.1,(y q.1).em q.2),λp l q h hl=>by
 cases h1:x.rd p.1 with
 |none=>rw[h1] at h;cases h
 |some b=>
  rw[h1] at h;cases h2:(y b.2).rd p.2 with
  |none=>simp only[bR,h2] at h;cases h
  |some d=>
   simp only[bR,h2,j9,rE] at h;obtain⟨rfl,rfl⟩:=h;obtain⟨t,b⟩:=b;obtain⟨s,d⟩:=d;obtain⟨h4,h5⟩:=ayL hl;exact Prod.ext (x.ok _ _ _ h1 h4) ((y b).ok _ _ _ h2 h5)⟩
def pr (x:Rq α β)(y:Rq γ δ):Rq (α×γ) (β×δ):=dp x λ_=>y
def mp {β':Type}(x:Rq α β)(p:β->β')(q:β'->β)(h:∀b,b=q (p b)):Rq α β':=⟨λa=>(x.rd a).bind λb=>some (b.1,p b.2),λc=>x.em (q c),λa l c hc hl=>by
 cases h1:x.rd a with
 |none=>rw[h1] at hc;cases hc
 |some b=>
  rw[h1] at hc;obtain⟨t,b⟩:=b;cases hc;rw[<-h b];exact x.ok _ _ _ h1 hl⟩
def pl (x:Rq α β)(y:Rq γ Unit):Rq (α×γ) β:=mp (pr x y) Prod.fst (λb=>(b,())) λ_=>rfl
def pu (x:Rq α Unit)(y:Rq γ δ):Rq (α×γ) δ:=mp (pr x y) Prod.snd (λb=>((),b)) λ_=>rfl
def nil:Rq (List α) Unit:=one [] (λl=>match l with| []=>true|_=>false) λb h=>by cases b<;>first|rfl|cases h
def co (x:Rq (α×List α) β):Rq (List α) β:=via (λp:α×List α=>p.1::p.2) (λl=>match l with|a::l=>some (a,l)|_=>none) (λa' a h=>by cases a'<;>cases h;rfl) x
def c (x:Rq α β)(y:Rq (List α) δ):Rq (List α) (β×δ):=co (pr x y)
def cl (x:Rq α β)(y:Rq (List α) Unit):Rq (List α) β:=co (pl x y)
def cu (x:Rq α Unit)(y:Rq (List α) δ):Rq (List α) δ:=co (pu x y)
def cd (x:Rq α β)(y:β->Rq (List α) δ):Rq (List α) (β×δ):=co (dp x y)
def ap (n:Nat)(x:Rq (List α×List α) β):Rq (List α) β:=via (λp:List α×List α=>p.1++p.2) (λl=>some (l.take n,l.drop n)) (λa' a h=>by cases h;simp) x
def a (n:Nat)(x:Rq (List α) β)(y:Rq (List α) δ):Rq (List α) (β×δ):=ap n (pr x y)
def al (n:Nat)(x:Rq (List α) β)(y:Rq (List α) Unit):Rq (List α) β:=ap n (pl x y)
def au (n:Nat)(x:Rq (List α) Unit)(y:Rq (List α) δ):Rq (List α) δ:=ap n (pu x y)
def no:Rq (Option α) Unit:=one none (λl=>match l with|none=>true|_=>false) λb h=>by cases b<;>first|rfl|cases h
def so (x:Rq α β):Rq (Option α) β:=via some (λa=>a) (λa' a h=>h) x
def szl (x:Rq Nat β):Rq Sz β:=via Sz.l (λz=>match z with|.l n=>some n|_=>none) (λa' a h=>by cases a'<;>cases h;rfl) x
def szs (x:Rq Nat β):Rq Sz β:=via Sz.s (λz=>match z with|.s n=>some n|_=>none) (λa' a h=>by cases a'<;>cases h;rfl) x
def ok' (x:Rq Nat β):Rq cD β:=via cD.k (λz=>match z with|.k n=>some n|_=>none) (λa' a h=>by cases a'<;>cases h;rfl) x
def ox (x:Rq (Nat×Nat×Nat) β):Rq cD β:=via (λp:Nat×Nat×Nat=>cD.x p.1 p.2.1 p.2.2) (λz=>match z with|.x a b c=>some (a,b,c)|_=>none) (λa' a h=>by cases a'<;>cases h;rfl) x
def fi (k:IntKind)(x:Rq Int β):Rq FV β:=via (FV.i k) (λz=>match z with|.i k' n=>cond (decide (k'=k)) (some n) none|_=>none) (λa' a h=>by
 cases a' with
 |i k' n=>
  cases hk:decide (k'=k)<;>simp only[hk] at h<;>first|(cases h;done)|(cases h;rw[eK hk])
 |_=>cases h) x
def fb (x:Rq Bool β):Rq FV β:=via FV.b (λz=>match z with|.b n=>some n|_=>none) (λa' a h=>by cases a'<;>cases h;rfl) x
def fs (x:Rq ByteArray β):Rq FV β:=via FV.s (λz=>match z with|.s n=>some n|_=>none) (λa' a h=>by cases a'<;>cases h;rfl) x
def cf (x:Rq FV β):Rq CV β:=via CV.f (λz=>match z with|.f n=>some n|_=>none) (λa' a h=>by cases a'<;>cases h;rfl) x
def H7 (x:Rq (Nat×cD×Nat) β):Rq CV β:=via (λp:Nat×cD×Nat=>CV.ptr p.1 p.2.1 p.2.2) (λz=>match z with|.ptr a b c=>some (a,b,c)|_=>none) (λa' a h=>by cases a'<;>cases h;rfl) x
def ccl (x:Rq (Nat×Nat×cD×Nat) β):Rq CV β:=via (λp:Nat×Nat×cD×Nat=>CV.cl p.1 p.2.1 p.2.2.1 p.2.2.2) (λz=>match z with|.cl e a b c=>some (e,a,b,c)|_=>none) (λa' a h=>by cases a'<;>cases h;rfl) x
def jk (x:Rq (Nat×cD×Sz×Nat×Bool) β):Rq CV β:=via (λp:Nat×cD×Sz×Nat×Bool=>CV.sl p.1 p.2.1 p.2.2.1 p.2.2.2.1 p.2.2.2.2) (λz=>match z with|.sl a b c d e=>some (a,b,c,d,e)|_=>none) (λa' a h=>by cases a'<;>cases h;rfl) x
def cfs (x:Rq (Nat×Nat×List cS) β):Rq CV β:=via (λp:Nat×Nat×List cS=>CV.fs p.1 p.2.1 p.2.2) (λz=>match z with|.fs a b c=>some (a,b,c)|_=>none) (λa' a h=>by cases a'<;>cases h;rfl) x
def aEl:Rq CV Unit:=one .ai9 (λl=>match l with|.ai9=>true|_=>false) λb h=>by cases b<;>first|rfl|cases h
def aW0:Rq CV Unit:=one .nils (λl=>match l with|.nils=>true|_=>false) λb h=>by cases b<;>first|rfl|cases h
def ki (k:IntKind)(x:Rq (Nat->Int) β):Rq cS β:=via (cS.i k) (λz=>match z with|.i k' n=>cond (decide (k'=k)) (some n) none|_=>none) (λa' a h=>by
 cases a' with
 |i k' n=>
  cases hk:decide (k'=k)<;>simp only[hk] at h<;>first|(cases h;done)|(cases h;rw[eK hk])
 |_=>cases h) x
def kb (x:Rq (Nat->Bool) β):Rq cS β:=via cS.b (λz=>match z with|.b n=>some n|_=>none) (λa' a h=>by cases a'<;>cases h;rfl) x
def ks (x:Rq (Nat->ByteArray) β):Rq cS β:=via cS.s (λz=>match z with|.s n=>some n|_=>none) (λa' a h=>by cases a'<;>cases h;rfl) x
def gc (x:Rq CV β):Rq Sg β:=via Sg.c (λz=>match z with|.c n=>some n|_=>none) (λa' a h=>by cases a'<;>cases h;rfl) x
def ga (x:Rq (Sz×List cS) β):Rq Sg β:=via (λp:Sz×List cS=>Sg.a p.1 p.2) (λz=>match z with|.a n c=>some (n,c)|_=>none) (λa' a h=>by cases a'<;>cases h;rfl) x
def rc (x:Rq CV β):Rq RV β:=via RV.c (λz=>match z with|.c n=>some n|_=>none) (λa' a h=>by cases a'<;>cases h;rfl) x
def ra (x:Rq af β):Rq RV β:=via RV.agg (λz=>match z with|.agg n=>some n|_=>none) (λa' a h=>by cases a'<;>cases h;rfl) x
def ar (x:Rq RV β):Rq AV β:=via AV.r (λz=>match z with|.r n=>some n|_=>none) (λa' a h=>by cases a'<;>cases h;rfl) x
def sZ (x:Rq (List RV) β):Rq AV β:=via AV.tup (λz=>match z with|.tup n=>some n|_=>none) (λa' a h=>by cases a'<;>cases h;rfl) x
def afn (x:Rq (Nat×List RV) β):Rq AV β:=via (λp:Nat×List RV=>AV.fn p.1 p.2) (λz=>match z with|.fn a b=>some (a,b)|_=>none) (λa' a h=>by cases a'<;>cases h;rfl) x
def a1X:Rq AV Unit:=one .WC (λl=>match l with|.WC=>true|_=>false) λb h=>by cases b<;>first|rfl|cases h
def st (x:Rq (List AV×List (Option af)×List Nat) β):Rq St β:=via (λp:List AV×List (Option af)×List Nat=>St.mk p.1 p.2.1 p.2.2) (λz=>some (z.tmps,z.heap,z.dz)) (λa' a h=>by cases a';cases h;rfl) x
def fR:Rq Ch Unit:=one .m7 (λl=>match l with|.m7=>true|_=>false) λb h=>by cases b<;>first|rfl|cases h
def Vs:Rq Ch Unit:=one .kill (λl=>match l with|.kill=>true|_=>false) λb h=>by cases b<;>first|rfl|cases h
def zX (x:Rq af β):Rq Ch β:=via Ch.set (λz=>match z with|.set n=>some n|_=>none) (λa' a h=>by cases a'<;>cases h;rfl) x
def res (x:Rq (AV×List Ch×List af) β):Rq pS β:=via (λp:AV×List Ch×List af=>pS.mk p.1 p.2.1 p.2.2) (λz=>some (z.val,z.yM,z.news)) (λa' a h=>by cases a';cases h;rfl) x
def us:Nat->Rq (List AV) β->Rq (List AV) β
 |0,x=>x
 |n+1,x=>cu a1X (us n x)
def xs:Nat->Rq (List AV) β->Rq (List AV) β
 |0,x=>x
 |n+1,x=>cu (sZ nil) (xs n x)
def ci:Rq CV Int:=cf (fi .i64 hole)
def cn:Rq CV Int:=cf (fi .u64 hole)
def cb:Rq CV Bool:=cf (fb hole)
def ct:Rq CV ByteArray:=cf (fs hole)
def gi:Rq Sg Int:=gc ci
def gn:Rq Sg Int:=gc cn
def gb:Rq Sg Bool:=gc cb
def gt:Rq Sg ByteArray:=gc ct
def ac (x:Rq CV β):Rq AV β:=ar (rc x)
def ai:Rq AV Int:=ac ci
def an:Rq AV Int:=ac cn
def ab:Rq AV Bool:=ac cb
def aa (x:Rq af β):Rq AV β:=ar (ra x)
def cp (b n:Nat):Rq CV Unit:=H7 (pu (nat b) (pu (ok' (nat 0)) (nat n)))
def gp (b n:Nat):Rq Sg Unit:=gc (cp b n)
def app (b n:Nat):Rq AV Unit:=ac (cp b n)
def slc (b z:Nat):Rq CV (Nat×Bool):=jk (pu (nat b) (pu (ok' (nat 0)) (pr (szs hole) (pu (nat z) hole))))
def De (b z:Nat):Rq CV Nat:=jk (pu (nat b) (pu (ok' (nat 0)) (pl (szs hole) (pu (nat z) (bool true)))))
def gl (n:Nat)(x:Rq (List cS) β):Rq Sg β:=ga (pu (szl (nat n)) x)
def gs (n:Nat)(x:Rq (List cS) β):Rq Sg β:=ga (pu (szs (tie n)) x)
def gL:Rq cS (Nat->Int):=ki .i64 hole
def kcb:Rq cS (Nat->Bool):=kb hole
end Rq
abbrev Ct:=Nat×Ff
def T.ayM (l:List Bool)(t:T):T:=List.rec (motive:=λ_=>T) t (λb _ r=>.test b r .fail) l
def aZf {ρ:Type}(l:List Bool)(t:Option ρ):Option ρ:=List.rec (motive:=λ_=>Option ρ) t (λb _ r=>cond b r none) l
theorem ama {t:T}{r:pS}:∀{l:List Bool},(T.ayM l t).eval=some r->aFK l/\t.eval=some r
 | [],h=>⟨trivial,h⟩
 |b::l,h=>by
  obtain⟨h1,h2⟩:=aFI (b:=b) (a:=T.ayM l t) h;obtain⟨h3,h4⟩:=ama h2;exact⟨⟨h1,h3⟩,h4⟩
theorem aFL {ρ:Type}{t:Option ρ}{r:ρ}:∀{l:List Bool},aZf l t=some r->aFK l/\t=some r
 | [],h=>⟨trivial,h⟩
 |b::l,h=>by
  have h':cond b (aZf l t) none=some r:=h;cases b with
  |false=>cases h'
  |true=>
   obtain⟨h3,h4⟩:=aFL h';exact⟨⟨rfl,h3⟩,h4⟩
def FC {β δ:Type}(Q:Rq (List AV×List af) β)(R:δ->T)(f:β->Option δ):Ff:=λa h=>match Q.rd (a,h) with
 |some b=>T.ayM b.1 (.opt (f b.2) R)
 |none=>.fail
def gv {D X:Type}(id kk:Nat)(Q:Rq St D)(E:∀{ρ:Type},X->(AX->St->Option ρ)->Option ρ)(l:D->Option X):Sm:=⟨id,kk,λs k=>match Q.rd s with
 |some b=>aZf b.1 ((l b.2).bind λx=>E x k)
 |none=>none⟩
def alG {β δ:Type}(P:Program)(l:List Ct)(hs:Hs)(lf n:Nat)(Q:Rq (List AV×List af) β)(R:δ->T)(B:β->Pg δ):Prop:=
 ∀b,den P (Fg l) hs lf n (Q.em b).1 (Q.em b).2=(B b).run λd=>(R d).eval
def aTG {D X:Type}(P:Program)(l:List Ct)(hs:Hs)(kk lf n id:Nat)(Q:Rq St D)(E:∀{ρ:Type},X->(AX->St->Option ρ)->Option ρ)(S:D->Pg (D⊕X)):Prop:=
 ∀(ρ:Type) (d:D) (c:St->Option ρ) (K:AX->St->Option ρ),G8 P (Fg l) hs (tmpsOf P n) kk lf (aah P n id) (Q.em d) (next (λt=>t.head kk hs (aah P n id)) c K)=
  (S d).run (t8 (λd=>c (Q.em d)) λx=>E x K)
def aTH {D X:Type}(P:Program)(l:List Ct)(hs:Hs)(kk lf n id:Nat)(Q:Rq St D)(E:∀{ρ:Type},X->(AX->St->Option ρ)->Option ρ)(S:D->Pg X):Prop:=
 ∀(ρ:Type) (d:D) (K:AX->St->Option ρ),G8 P (Fg l) hs (tmpsOf P n) kk lf (agp P n id) (Q.em d) K=(S d).run λx=>E x K
section
variable [ax]
def Snd (P:Program)(e:Ct):Prop:=Sound P e.1 e.2
theorem Snd.of {P:Program}{e:Ct}{n:Nat}{F:Ff}(S:Sound P n F)(h:e=(n,F)):Snd P e:=by
 subst h;exact S
theorem JM.c {P:Program}{l:List Ct}{e:Ct}(S:Snd P e)(h:JM P l):JM P (e::l):=JM.cons S h
omit [ax] in
theorem aOV {D X:Type}{id kk:Nat}{Q:Rq St D}{E:∀{ρ:Type},X->(AX->St->Option ρ)->Option ρ}{l:D->Option X}{ρ:Type}{s:St}{K:AX->St->Option ρ}{r:ρ}
  (h:(gv id kk Q E l).run s K=some r):∃d,s=Q.em d/\((l d).bind λx=>E x K)=some r:=by
 simp only[gv] at h;split at h
 .rename_i b hb
  obtain⟨t,d⟩:=b;obtain⟨h1,h2⟩:=aFL h;exact⟨d,Q.ok s t d hb h1,h2⟩
 .cases h
theorem mkL {D X:Type}{P:Program}{l:List Ct}{hs:Hs}{kk lf n id:Nat}{Q:Rq St D}{E:∀{ρ:Type},X->(AX->St->Option ρ)->Option ρ}{S:D->Pg (D⊕X)}
  (h0:aqU hs (aah P n id)=some (gv id kk Q E (bj S lf)))(h:aTG P l hs kk lf n id Q E S):∀k',OD P (Fg l) hs (tmpsOf P n) k' lf (aah P n id):=
 OD.of (id:=id) (k0:=kk) (run:=(gv id kk Q E (bj S lf)).run) h0 λs K r hr=>by
  obtain⟨d,rfl,ZV⟩:=aOV hr;refine⟨lf,?_⟩;rw[al9] at ZV;exact(aAH (emb:=Q.em) (step:=λd c x=>(S d).run (t8 c x)) (kx:=λx=>E x K) (λd c=>h _ d c K) lf d).trans ZV
theorem mkJ {D X:Type}{P:Program}{l:List Ct}{hs:Hs}{kk lf n id:Nat}{hd:Hd}{Q:Rq St D}{E:∀{ρ:Type},X->(AX->St->Option ρ)->Option ρ}{S:D->Pg X}
  (h0:aAj hs (agp P n id)=some ⟨hd,gv id kk Q E λd=>(S d).val⟩)(h:aTH P l hs kk lf n id Q E S):∀k',avi P (Fg l) hs (tmpsOf P n) k' lf (agp P n id):=
 avi.of (id:=id) (k0:=kk) (hd:=hd) (run:=(gv id kk Q E λd=>(S d).val).run) h0 λs K r hr=>by
  obtain⟨d,rfl,ZV⟩:=aOV hr;rw[Pg.avI] at ZV;exact(h _ d K).trans ZV
omit [ax] in
theorem aZg {β δ:Type}{Q:Rq (List AV×List af) β}{R:δ->T}{B:β->Pg δ}{a:List AV}{h:List af}{r:pS}(hr:(FC Q R (λb=>(B b).val) a h).eval=some r):
  ∃b,(a,h)=Q.em b/\((B b).run λd=>(R d).eval)=some r:=by
 unfold FC at hr;split at hr
 .rename_i b hb
  obtain⟨t,b⟩:=b;obtain⟨h1,ZV⟩:=ama hr;rw[atL,Pg.avI] at ZV;exact⟨b,Q.ok _ _ _ hb h1,ZV⟩
 .cases hr
theorem mkS {β δ:Type}{P:Program}{l:List Ct}{hs:Hs}{lf n:Nat}{Q:Rq (List AV×List af) β}{R:δ->T}{B:β->Pg δ}(hm:P.follows .mixedOrders=true)(hl:JM P l)(hc:Gj P n=true)
  (aON:∀fn c kk,P.funcs[n]? =some fn->fn.body=some c->LK P (Fg l) hs fn.ntmps kk lf c)(h:alG P l hs lf n Q R B):Sound P n (FC Q R λb=>(B b).val):=
 (aUY hl hm aON hc).by λa b r hr=>by
  obtain⟨b,e,ZV⟩:=aZg hr;obtain⟨rfl,rfl⟩:=Prod.mk.inj e;exact aUZ ((h b).trans ZV)
theorem mk0 {β δ:Type}{P:Program}{l:List Ct}{d0:List Nat}{lf n:Nat}{Q:Rq (List AV×List af) β}{R:δ->T}{B:β->Pg δ}(hm:P.follows .mixedOrders=true)(hl:JM P l)(hc:Gj P n=true)
  (h:alG P l ⟨[],[],d0,[],none⟩ lf n Q R B):Sound P n (FC Q R λb=>(B b).val):=
 mkS hm hl hc (λ_ _ _ _ _=>LK.nil ..) h
omit [ax] in
theorem aOW {t t':T}{r:pS}(h:t.eval=some r->t'.eval=some r)(l:List Bool):(T.ayM l t).eval=some r->(T.ayM l t').eval=some r:=by
 induction l with
 |nil=>exact h
 |cons b l ih=>
  intro k;obtain⟨h1,h2⟩:=aFI (b:=b) (a:=T.ayM l t) k;subst h1;exact ih h2
theorem Fl {β δ:Type}{P:Program}{n:Nat}{Q:Rq (List AV×List af) β}{R R':δ->T}{f:β->Option δ}(h:∀d r,(R' d).eval=some r->(R d).eval=some r)(S:Sound P n (FC Q R f)):Sound P n (FC Q R' f):=S.by λa b r hr=>by
 unfold FC at hr ⊢;split at hr
 .rename_i x hx
  refine aOW (λhr=> ?_) x.1 hr;rw[atL] at hr ⊢;cases hf:f x.2 with
  |none=>rw[hf] at hr;cases hr
  |some d=>rw[hf,bR] at hr;exact h d r hr
 .cases hr
end
abbrev wI (n:Int):Int:=IntKind.wrap .i64 n
abbrev wU (n:Int):Int:=IntKind.wrap .u64 n
end Go.Ab
namespace Go.Ab
theorem aU6 {a:Bool}{pt:List PT}{ps:List Prm}{ds:List Dat}(h:aFF (.flat a pt::ps) ds):∃l ds',ds=.flat l::ds'/\bn aAC pt l/\aFF ps ds':=by
 match ds,h with
 |.flat l::ds',h=>exact⟨l,ds',rfl,h.1,h.2⟩
theorem a0S {ks:List K}{ps:List Prm}{ds:List Dat}(h:aFF (.sl ks::ps) ds):∃n cols ds',ds=.sl n cols::ds'/\n<=maxLen/\bn (λk c=>K.om k n c) ks cols/\aFF ps ds':=by
 match ds,h with
 |.sl n cols::ds',h=>exact⟨n,cols,ds',rfl,h.1.1,h.1.2,h.2⟩
theorem aZh {ds:List Dat}(h:aFF [] ds):ds=[]:=by cases ds<;>first|rfl|cases h
theorem a0T {l:List DC}(h:bn aAC [] l):l=[]:=by cases l<;>first|rfl|cases h
theorem EF {k:IntKind}{pt:List PT}{l:List DC}(h:bn aAC (.c (.i k)::pt) l):∃x l',l=.c (.i k x)::l'/\(k.min<=x/\x<=k.max)/\bn aAC pt l':=by
 match l,h with
 |.c (.i k' x)::l',h=>
  obtain⟨⟨rfl,h1⟩,h2⟩:=h;exact⟨x,l',rfl,h1,h2⟩
theorem a1Y {n:Nat}{ks:List K}{pt:List PT}{l:List DC}(h:bn aAC (.a n ks::pt) l):∃cols l',l=.a cols::l'/\bn (λk c=>K.om k n c) ks cols/\bn aAC pt l':=by
 match l,h with
 |.a cols::l',h=>exact⟨cols,l',rfl,h.1,h.2⟩
theorem aFM {n:Nat}{l:List cS}(h:bn (λk c=>K.om k n c) [] l):l=[]:=by cases l<;>first|rfl|cases h
theorem yf {n:Nat}{k:IntKind}{ks:List K}{l:List cS}(h:bn (λk c=>K.om k n c) (.i k::ks) l):∃g l',l=.i k g::l'/\(∀j,j<n->k.min<=g j/\g j<=k.max)/\bn (λk c=>K.om k n c) ks l':=by
 match l,h with
 |.i k' g::l',h=>
  obtain⟨⟨rfl,h1⟩,h2⟩:=h;exact⟨g,l',rfl,h1,h2⟩
theorem aaz {D X ρ:Type}(s:D->(D->Option ρ)->(X->Option ρ)->Option ρ)(n:Nat)(d:D)(k:X->Option ρ):To s (n+1) d k=s d (λd=>To s n d k) k:=rfl
theorem aFN {D X ρ:Type}{s:D->(D->Option ρ)->(X->Option ρ)->Option ρ}{k:X->Option ρ}{r:Option ρ}(Inv:Nat->D->Prop)
  (h:∀t d c,Inv t d->(∀t' d',t'<t->Inv t' d'->c d'=r)->s d c k=r):∀(fuel t:Nat) (d:D),t<fuel->Inv t d->To s fuel d k=r
 |0,t,d,hf,hd=>by omega
 |fuel+1,t,d,hf,hd=>by
  rw[aaz];exact h t d _ hd λt' d' ht hd'=>aFN Inv h fuel t' d' (by omega) hd'
theorem wrap_i64 {n:Int}(h1: -9223372036854775808<=n)(h2:n<=9223372036854775807):IntKind.wrap .i64 n=n:=by
 unfold IntKind.wrap;simp only[IntKind.signed,IntKind.bits,Ht,mf,show(2:Int)^64=18446744073709551616 from rfl,show(2:Int)^(64-1)=9223372036854775808 from rfl];split<;>omega
theorem wrap_u64 (n:Int):IntKind.wrap .u64 n=n%18446744073709551616:=by
 unfold IntKind.wrap;simp only[IntKind.signed,IntKind.bits,Bool.false_and,show(2:Int)^64=18446744073709551616 from rfl,yc,gG]
theorem OT {D X ρ:Type}{s:D->Pg (D⊕X)}{k:X->Option ρ}{r:Option ρ}(Inv:Nat->D->Prop)
  (h:∀t d c,Inv t d->(∀t' d',t'<t->Inv t' d'->c d'=r)->(s d).run (t8 c k)=r)(fuel t:Nat)(d:D)(hf:t<fuel)(hd:Inv t d):(bj s fuel d).bind k=r:=by
 rw[al9];exact aFN Inv h fuel t d hf hd
theorem aaA {D X:Type}{s:D->Pg (D⊕X)}(Inv:Nat->D->Prop)(Q:X->Prop)
  (h:∀t d,Inv t d->∃y,(s d).val=some y/\match y with|.inl d'=>∃t',t'<t/\Inv t' d'|.inr x=>Q x):∀(fuel t:Nat) (d:D),t<fuel->Inv t d->∃x,bj s fuel d=some x/\Q x
 |0,t,d,hf,hd=>by omega
 |fuel+1,t,d,hf,hd=>by
  obtain⟨y,hy,hq⟩:=h t d hd;have e:bj s (fuel+1) d=(s d).run (t8 (λd=>bj s fuel d) some):=rfl;rw[e,<-Pg.avI,hy,bR];cases y with
  |inl d'=>obtain⟨t',ht,hd'⟩:=hq;exact aaA Inv Q h fuel t' d' (by omega) hd'
  |inr x=>exact⟨x,rfl,hq⟩
class bq {D:Type} (x:Option D):Prop where
 ok:∃d,x=some d
def Ok {D:Type}(x:Option D)(Q:D->Prop):Prop:=∃d,x=some d/\Q d
def PQ {δ:Type}(p:Pg δ)(Q:δ->Prop):Prop:=Ok p.val Q
section
variable {δ D A B:Type} {Q:δ->Prop}
theorem Ok.tot {x:Option D}{Q:D->Prop}(h:Ok x Q):bq x:=⟨h.imp λ_ h=>h.1⟩
theorem Ok.post {x:Option D}{Q:D->Prop}(h:Ok x Q){d:D}(e:x=some d):Q d:=by
 obtain⟨d',e',h⟩:=h;rw[e] at e';cases e';exact h
theorem Ok.mono {x:Option D}{Q R:D->Prop}(h:Ok x Q)(k:∀d,Q d->R d):Ok x R:=h.imp λ_ h=>⟨h.1,k _ h.2⟩
theorem bq.Ok {x:Option D}(h:bq x){Q:D->Prop}(k:∀d,x=some d->Q d):Ok x Q:=by
 obtain⟨d,e⟩:=h.ok;exact⟨d,e,k d e⟩
theorem aZi (d:D)(Q:D->Prop):Ok (some d) Q=Q d:=propext (Iff.intro (λh=>Ok.post h rfl) λh=>⟨d,rfl,h⟩)
theorem av (d:δ):PQ (.ret d) Q=Q d:=aZi d Q
theorem aSC:PQ (.no:Pg δ) Q=False:=propext (Iff.intro (λh=>by obtain⟨_,h,_⟩:=h;cases h) λh=>False.elim h)
theorem aK (b:Bool)(x y:Pg δ):PQ (.ae b x y) Q=((b=true->PQ x Q)/\(b=false->PQ y Q)):=by
 unfold PQ;rw[Pg.ck];cases b<;>simp
theorem bH (b:Bool)(x:Pg δ):PQ (.ae b x .no) Q=(b=true/\PQ x Q):=by
 rw[aK,aSC];cases b<;>simp
theorem aV (x y:Pg δ):PQ (.ae true x y) Q=PQ x Q:=by unfold PQ;rw[Pg.ck];rfl
theorem bE (x:Option D)(f:D->Pg δ)[h:bq x]:PQ (.opt x f) Q=∀d,x=some d->PQ (f d) Q:=by
 obtain⟨d,rfl⟩:=h.ok;unfold PQ;rw[Pg.cT,bR];exact propext (Iff.intro (λh d' e=>by cases e;exact h) λh=>h d rfl)
theorem dL (d:D)(f:D->Pg δ):PQ (.opt (some d) f) Q=PQ (f d) Q:=rfl
theorem ay {x:Option D}{f:D->Pg δ}{R:D->Prop}(h:Ok x R)(k:∀d,x=some d->R d->PQ (f d) Q):PQ (.opt x f) Q:=by
 obtain⟨d,rfl,hr⟩:=h;exact k d rfl hr
theorem qW (x:A⊕B)(f:A->Pg δ)(g:B->Pg δ):PQ (.sum x f g) Q=((∀a,x=.inl a->PQ (f a) Q)/\∀b,x=.inr b->PQ (g b) Q):=by
 unfold PQ;rw[Pg.eL];cases x<;>simp
theorem ux (x:A⊕B)(f:A->Pg δ)(g:B->Pg δ):PQ (.sm x f g) Q=((∀a,x=.inl a->PQ (f a) Q)/\∀b,x=.inr b->PQ (g b) Q):=by
 unfold PQ;rw[Pg.aD1];cases x<;>simp
theorem aF {p:Pg δ}(h:PQ p λ_=>True):bq p.val:=Ok.tot h
theorem aFO {D X:Type}{s:D->Pg (D⊕X)}(I:D->Prop)(m:D->Nat)(R:X->Prop)
  (h:∀d,I d->PQ (s d) (t8 (λd'=>I d'/\m d'<m d) R)):∀(n:Nat) (d:D),I d->m d<n->Ok (bj s n d) R:=λn d hd hn=>by
 refine aaA (λt d=>I d/\m d=t) R (λt d hd=> ?_) n (m d) d hn ⟨hd,rfl⟩;obtain⟨y,hy,hq⟩:=h d hd.1;refine⟨y,hy,?_⟩;cases y with
 |inl d'=>exact⟨m d',hd.2▸hq.2,hq.1,rfl⟩
 |inr x=>exact hq
end
theorem bo {n:Int}(h:0<=n:=by omega)(k:n<=4611686018427387904:=by omega):wI (n+1)=n+1:=wrap_i64 (by omega) (by omega)
theorem fS {n:Int}(h: -4611686018427387904<=n:=by omega)(k:n<=4611686018427387904:=by omega):wI n=n:=wrap_i64 (by omega) (by omega)
theorem cx {n:Int}{m:Nat}:bk n m=true↔0<=n/\n<m:=by simp[bk]
theorem aey {n:Int}{m:Nat}:K0 n m=true↔0<=n/\n<=m:=by simp[K0]
theorem eV {m n:Nat}:wd m n=true↔m<=n:=by rw[Nat.ble_eq]
theorem nf {b:Bool}:(b=false->False)↔b=true:=by cases b<;>simp
theorem hdN (n:Nat)(h:n<=1999):(0:Int)<=0/\(0:Int)<=wl n/\wl n<=1999/\wl n=(n:Int):=by
 simp only[dQ,Cd];omega
theorem aN (m:Nat):ww m m=true:=OG m
theorem bN:(∀{δ:Type} {Q:δ->Prop} (d:δ),PQ (.ret d) Q=Q d)/\(∀{δ:Type} {Q:δ->Prop} (b:Bool) (x:Pg δ),PQ (.ae b x .no) Q=(b=true/\PQ x Q))/\(∀{δ:Type} {Q:δ->Prop} (b:Bool) (x y:Pg δ),PQ (.ae b x y) Q=((b=true->PQ x Q)/\(b=false->PQ y Q)))
  /\(∀{δ D:Type} {Q:δ->Prop} (x:Option D) (f:D->Pg δ) [h:bq x],PQ (.opt x f) Q=∀d,x=some d->PQ (f d) Q)/\(∀{δ A B:Type} {Q:δ->Prop} (x:A⊕B) (f:A->Pg δ) (g:B->Pg δ),PQ (.sum x f g) Q=((∀a,x=.inl a->PQ (f a) Q)/\∀b,x=.inr b->PQ (g b) Q))
  /\(∀{δ A B:Type} {Q:δ->Prop} (x:A⊕B) (f:A->Pg δ) (g:B->Pg δ),PQ (.sm x f g) Q=((∀a,x=.inl a->PQ (f a) Q)/\∀b,x=.inr b->PQ (g b) Q))/\(∀{δ:Type} {Q:δ->Prop},PQ (.no:Pg δ) Q=False)
  /\(∀{A B C:Type} (f:A->C) (g:B->C) (x:A),t8 f g (.inl x)=f x)/\(∀{A B C:Type} (f:A->C) (g:B->C) (x:B),t8 f g (.inr x)=g x)
  /\(∀p:Prop,(p->True)=True)/\(∀α:Type,(α->True)=True)/\(∀p:Prop,(p/\True)=p)/\(∀p:Prop,(True/\p)=p)/\∀p:Prop,(p/\p)=p:=
 ⟨λd=>av d,λb x=>bH b x,λb x y=>aK b x y,λx f _=>bE x f,λx f g=>qW x f g,λx f g=>ux x f g,aSC,λ_ _ _=>rfl,λ_ _ _=>rfl,λp=>OK p,λα=>OK α,Cd,AK,and_self⟩
theorem rm:(∀m,ww m m=true)/\(∀p:Prop,(True->p)=p)/\((true=false)=False)/\(∀p:Prop,(False->p)=True)/\∀{δ D:Type} {Q:δ->Prop} (d:D) (f:D->Pg δ),PQ (.opt (some d) f) Q=PQ (f d) Q:=
 ⟨aN,OJ,LL,Eh,λd f=>dL d f⟩
theorem uO:(∀{n:Int} {m:Nat},bk n m=true↔0<=n/\n<m)/\(∀{n:Int} {m:Nat},K0 n m=true↔0<=n/\n<=m)/\(∀{m n:Nat},wd m n=true↔m<=n)/\(∀m,ww m m=true)/\(∀a b:Bool,((a&&b)=true)=(a=true/\b=true))/\(∀{p:Prop} [Decidable p],(decide p=true)=p)
  /\(∀{p:Prop} [Decidable p],decide p=false↔¬p)/\(∀{a b:Int},(a==b)=true↔a=b)/\(∀b:Bool,(true&&b)=b)/\∀n:Nat,wl n=(n:Int):=
 ⟨cx,aey,eV,aN,λa b=>cq a b,λ{_} _=>mf,λ{_} _=>Wy,beq_iff_eq,Ht,dQ⟩
theorem bP {D X:Type}{s:D->Pg (D⊕X)}{I:D->Prop}{R:X->Prop}(m:D->Nat)(h:∀d,I d->PQ (s d) (t8 (λd'=>I d'/\m d'<m d) R))(k:∀d,I d->m d<2000):∀d:D,I d->Ok (bj s 2000 d) R:=λd hd=>aFO I m R h 2000 d hd (k d hd)
end Go.Ab
namespace Go.Ab
def Po {D:Type}(x:Option D)(Q:D->Prop):Prop:=∀d,x=some d->Q d
def PW {δ:Type}(p:Pg δ)(Q:δ->Prop):Prop:=Po p.val Q
section
variable {δ D A B:Type} {Q:δ->Prop}
theorem Po.mono {x:Option D}{Q R:D->Prop}(h:Po x Q)(k:∀d,Q d->R d):Po x R:=λd e=>k d (h d e)
theorem Po.and {x:Option D}{Q R:D->Prop}(h:Po x Q)(k:Po x R):Po x (λd=>Q d/\R d):=λd e=>⟨h d e,k d e⟩
theorem Po.true {x:Option D}:Po x (λ_=>True):=λ_ _=>trivial
theorem Ok.with {x:Option D}{Q R:D->Prop}(h:Ok x Q)(k:Po x R):Ok x (λd=>Q d/\R d):=by
 obtain⟨d,e,q⟩:=h;exact⟨d,e,q,k d e⟩
theorem Ok.po {x:Option D}{Q:D->Prop}(h:Ok x Q):Po x Q:=λd e=>h.post e
theorem aZj (d:D)(Q:D->Prop):Po (some d) Q=Q d:=propext (Iff.intro (λh=>h d rfl) λh d' e=>by cases e;exact h)
theorem aR (d:δ):PW (.ret d) Q=Q d:=aZj d Q
theorem kD:PW (.no:Pg δ) Q=True:=propext (Iff.intro (λ_=>trivial) λ_ d h=>by cases h)
theorem aZ (b:Bool)(x y:Pg δ):PW (.ae b x y) Q=((b=true->PW x Q)/\(b=false->PW y Q)):=by
 unfold PW;rw[Pg.ck];cases b<;>simp
theorem cU (b:Bool)(x:Pg δ):PW (.ae b x .no) Q=(b=true->PW x Q):=by
 rw[aZ,kD];cases b<;>simp
theorem dA (x:Option D)(f:D->Pg δ):PW (.opt x f) Q=∀d,x=some d->PW (f d) Q:=by
 unfold PW;rw[Pg.cT];cases x with
 |none=>exact propext (Iff.intro (λ_ d e=>by cases e) λ_ d e=>by cases e)
 |some d=>exact propext (Iff.intro (λh d' e=>by cases e;exact h) λh=>h d rfl)
theorem bB {x:Option D}{f:D->Pg δ}{R:D->Prop}(h:Po x R)(k:∀d,x=some d->R d->PW (f d) Q):PW (.opt x f) Q:=by
 rw[dA];exact λd e=>k d e (h d e)
theorem ij (x:A⊕B)(f:A->Pg δ)(g:B->Pg δ):PW (.sum x f g) Q=((∀a,x=.inl a->PW (f a) Q)/\∀b,x=.inr b->PW (g b) Q):=by
 unfold PW;rw[Pg.eL];cases x<;>simp
theorem qR (x:A⊕B)(f:A->Pg δ)(g:B->Pg δ):PW (.sm x f g) Q=((∀a,x=.inl a->PW (f a) Q)/\∀b,x=.inr b->PW (g b) Q):=by
 unfold PW;rw[Pg.aD1];cases x<;>simp
theorem WR {D X:Type}{s:D->Pg (D⊕X)}(I:D->Prop)(R:X->Prop)(h:∀d,I d->PW (s d) (t8 I R)):∀(n:Nat) (d:D),I d->Po (bj s n d) R
 |0,d,hd,x,e=>by cases e
 |n+1,d,hd,x,e=>by
  have e1:bj s (n+1) d=(s d).run (t8 (λd=>bj s n d) some):=rfl;rw[e1,<-Pg.avI] at e;cases hv:(s d).val with
  |none=>rw[hv] at e;cases e
  |some y=>
   rw[hv,bR] at e;have q:=h d hd y hv;cases y with
   |inl d'=>exact WR I R h n d' q x e
   |inr x'=>cases e;exact q
end
theorem Dh {D X:Type}{s:D->Pg (D⊕X)}{I:D->Prop}{R:X->Prop}(h:∀d,I d->PW (s d) (t8 I R)):∀d:D,I d->Po (bj s 2000 d) R:=λd hd=>WR I R h 2000 d hd
end Go.Ab
set_option maxRecDepth 100000
set_option maxHeartbeats 4000000
namespace Go.Proofs.YtldgljclcgaibaaGreat
open Go.Ab Go.Ab.Pg
open Go
class Mo {D:Type} (x:Option D) (R:outParam (D->Prop)):Prop where
 h:Po x R
section
variable {δ D A B:Type} {Q:δ->Prop}
theorem aOX {d:δ}(h:Q d):PW (.ret d) Q:=by rw[aR];exact h
theorem a0U:PW (.no:Pg δ) Q:=by rw[kD];trivial
theorem aOY {b:Bool}{x y:Pg δ}(h:PW x Q)(k:PW y Q):PW (.ae b x y) Q:=by rw[aZ];exact⟨λ_=>h,λ_=>k⟩
theorem aOZ {x:Option D}{f:D->Pg δ}{R:D->Prop}[m:Mo x R](k:∀d,R d->PW (f d) Q):PW (.opt x f) Q:=bB m.h λd _=>k d
theorem aO0 {x:Option D}{f:D->Pg δ}(k:∀d,PW (f d) Q):PW (.opt x f) Q:=by rw[dA];exact λd _=>k d
theorem aZk {P:A->Prop}{R:B->Prop}{x:A⊕B}{f:A->Pg δ}{g:B->Pg δ}(h:t8 P R x)(k:∀a,P a->PW (f a) Q)(l:∀b,R b->PW (g b) Q):PW (.sum x f g) Q:=by
 rw[ij];exact⟨λa e=>k a (by rw[e] at h;exact h),λb e=>l b (by rw[e] at h;exact h)⟩
theorem a0V {P:A->Prop}{R:B->Prop}{x:A⊕B}{f:A->Pg δ}{g:B->Pg δ}(h:t8 P R x)(k:∀a,P a->PW (f a) Q)(l:∀b,R b->PW (g b) Q):PW (.sm x f g) Q:=by
 rw[qR];exact⟨λa e=>k a (by rw[e] at h;exact h),λb e=>l b (by rw[e] at h;exact h)⟩
theorem aU7 {x:A⊕B}{f:A->Pg δ}{g:B->Pg δ}(k:∀a,PW (f a) Q)(l:∀b,PW (g b) Q):PW (.sum x f g) Q:=by rw[ij];exact⟨λa _=>k a,λb _=>l b⟩
theorem aZl {x:A⊕B}{f:A->Pg δ}{g:B->Pg δ}(k:∀a,PW (f a) Q)(l:∀b,PW (g b) Q):PW (.sm x f g) Q:=by rw[qR];exact⟨λa _=>k a,λb _=>l b⟩
end
end Go.Proofs.YtldgljclcgaibaaGreat
namespace Go.Proofs.YtldgljclcgaibaaGreat
open Go.Ab
theorem aZm [ax]:Sound Tryz.prog 240 (aew Dg):=aJF (aLy (fn:=Tryz.f240) Tryz.func240 (by kernel_rfl) (by kernel_rfl) (by kernel_rfl) (by kernel_rfl))
theorem aZn [ax]:Sound Tryz.prog 262 (aew aex):=aJF (aLz (fn:=Tryz.f262) Tryz.func262 (by kernel_rfl) (by kernel_rfl) (by kernel_rfl) (by kernel_rfl))
abbrev avJ:=C3
def amb (g:C3):Ct:=(240,aew g)
theorem apN [ax]:Snd Tryz.prog (amb Dg):=aZm
abbrev aZo:=C3
def aO1 (g:C3):Ct:=(262,aew g)
theorem aU8 [ax]:Snd Tryz.prog (aO1 aex):=aZn
end Go.Proofs.YtldgljclcgaibaaGreat
namespace Go.Ab
abbrev NI:=Nat->Int
theorem _root_.And.b {a b c:Prop}(x:a/\b/\c):c:=x.2.2
theorem _root_.And.c {a b c d e:Prop}(x:a/\b/\c/\d/\e):e:=x.2.2.2.2
theorem _root_.And.d {a b c d e f g h i:Prop}(x:a/\b/\c/\d/\e/\f/\g/\h/\i):i:=x.2.2.2.2.2.2.2.2
@[reducible] def _root_.Prod.b {a b c:Type} (x:a×b×c):c:=x.2.2
@[reducible] def _root_.Prod.c {a b c d e:Type} (x:a×b×c×d×e):e:=x.2.2.2.2
@[reducible] def _root_.Prod.d {a b c d e f g h i:Type} (x:a×b×c×d×e×f×g×h×i):i:=x.2.2.2.2.2.2.2.2
@[reducible] def _root_.Prod.e {a b c d e f g h i j k l m n o p q:Type} (x:a×b×c×d×e×f×g×h×i×j×k×l×m×n×o×p×q):q:=x.2.2.2.2.2.2.2.2.2.2.2.2.2.2.2.2
def cr {α:Type}(d:α)(l:List α):Nat->α:=List.rec (motive:=λ_=>Nat->α) (λ_=>d) (λx l ih j=>bif ww j l.length then x else ih j) l
@[reducible] def c24 (g:Nat->Nat->Int):=(g 0,g 1,g 2,g 3,g 4,g 5,g 6,g 7,g 8,g 9,g 10,g 11,g 12,g 13,g 14,g 15,g 16,g 17,g 18,g 19,g 20,g 21,g 22,g 23)
@[reducible] def aAb {r:Type} (g:Nat->Nat->Int) (x:r):=(g 0,g 1,g 2,g 3,g 4,g 5,g 6,g 7,g 8,g 9,g 10,g 11,g 12,g 13,g 14,g 15,g 16,g 17,g 18,g 19,g 20,g 21,g 22,g 23,x)
def rg:Nat->Nat->List Nat->List Nat
 |_,0,t=>t
 |a,n+1,t=>a::rg (a+1) n t
@[reducible] def sh8 (o:Nat) (x:(Nat->Int)×(Nat->Int)×(Nat->Int)×(Nat->Int)×(Nat->Int)×(Nat->Int)×(Nat->Int)×(Nat->Int)):(Nat->Int)×(Nat->Int)×(Nat->Int)×(Nat->Int)×(Nat->Int)×(Nat->Int)×(Nat->Int)×(Nat->Int):=(λj=>x.1 (o+j),λj=>x.2.1 (o+j),λj=>x.2.2.1 (o+j),λj=>x.2.2.2.1 (o+j),λj=>x.2.2.2.2.1 (o+j),λj=>x.2.2.2.2.2.1 (o+j),λj=>x.2.2.2.2.2.2.1 (o+j),λj=>x.2.2.2.2.2.2.2 (o+j))
@[reducible] def v5 (o:Nat) (x:(Nat->Int)×(Nat->Int)×(Nat->Int)×(Nat->Int)×(Nat->Int)×(Nat->Int)×(Nat->Int)×(Nat->Int)×(Nat->Int)):(Nat->Int)×(Nat->Int)×(Nat->Int)×(Nat->Int)×(Nat->Int)×(Nat->Int)×(Nat->Int)×(Nat->Int)×(Nat->Int):=(λj=>x.1 (o+j),λj=>x.2.1 (o+j),λj=>x.2.2.1 (o+j),λj=>x.2.2.2.1 (o+j),λj=>x.2.2.2.2.1 (o+j),λj=>x.2.2.2.2.2.1 (o+j),λj=>x.2.2.2.2.2.2.1 (o+j),λj=>x.2.2.2.2.2.2.2.1 (o+j),λj=>x.2.2.2.2.2.2.2.2 (o+j))
@[reducible] def ave (o:Nat) (x:(Nat->Int)×(Nat->Int)×(Nat->Int)×(Nat->Int)×(Nat->Int)×(Nat->Int)×(Nat->Int)×(Nat->Int)×(Nat->Int)×(Nat->Int)):(Nat->Int)×(Nat->Int)×(Nat->Int)×(Nat->Int)×(Nat->Int)×(Nat->Int)×(Nat->Int)×(Nat->Int)×(Nat->Int)×(Nat->Int):=(λj=>x.1 (o+j),λj=>x.2.1 (o+j),λj=>x.2.2.1 (o+j),λj=>x.2.2.2.1 (o+j),λj=>x.2.2.2.2.1 (o+j),λj=>x.2.2.2.2.2.1 (o+j),λj=>x.2.2.2.2.2.2.1 (o+j),λj=>x.2.2.2.2.2.2.2.1 (o+j),λj=>x.2.2.2.2.2.2.2.2.1 (o+j),λj=>x.2.2.2.2.2.2.2.2.2 (o+j))
abbrev bO:=(Int×Int×Int×Int×Int)×Int×Nat×Int
abbrev di:=NI×NI×NI×NI×NI×NI×NI×NI×NI
abbrev E':=Int×Int×Int×Int×(Int×Int×Int×Int×Int×Int)×(Int×Int×Int×Int×Int×Int)×NI×NI×Int×Int×Int×Int×Int×Int×Int×Int
abbrev Ed:=(Int×Int×Int×Int)×(Int×Int×Int)×Int×Int×Int
abbrev AI:=Nat×NI×NI×NI×NI×NI×NI×NI×NI×NI
abbrev E7:=Nat×NI×NI×NI×NI×NI×NI×NI×NI×NI×NI
abbrev LF:=Int×(Int×Int×(Int×Int×Int)×Int×Int×Int)×Bool
abbrev Ly:=(NI×NI×(Nat->Bool)×NI×NI×NI)×Int
abbrev Rz:=Nat×NI×NI×NI×NI×NI×NI×NI×NI
abbrev lG:=Int×Int×Int
abbrev rj:=Int×Int×Bool×Bool
abbrev tZ:=Int×Int×Nat
abbrev aTn:=Int×Int×Int×Int×Int×Int×Int×Int×Int×Int×Int×Int×Int×Int×NI×NI×Int×Int×Int×Int×Int×Int×Int
abbrev a1D:=(Int×Int×Int×Int×Int×Int×Int×Int×Int×Int×Int×Int×Int×Int×Int×Int×NI×NI×Int×Int×Int×Int×Int×Int×Int×Int×Bool×NI×NI×NI)×(Int×Int×Int×Int×Int)×Int×NI×Int×Int×Int×Int×Int×Int×(NI×NI×(Nat->Bool)×NI×NI×NI)×(Int×Int)×NI×NI×NI×NI×NI×NI×NI
abbrev aTo:=Int×Int×Int×Int×Int×Int×Int×Int×Int×Int×Int×Int×Int×Int×Int×Int×Int×Int×Int
abbrev aTp:=Nat×NI×NI×NI×NI×NI×NI×NI×NI×NI×NI×NI×NI×NI×NI×NI×NI×NI×NI×NI×NI
abbrev aD8:=Int×Int×Int×Int×Int×Int×Int×Int
abbrev a1E:=(Int×Int×Int×Int×Int×Int×Int×Int×Int×Int×Bool×Int×Int×Int×Int×Bool×Bool)⊕(Int×Int×Int×Int×Int×Int×Int×Int×Int×Bool×Int×Int×Int×Bool)
abbrev aNI:=NI×NI×NI×NI×NI×NI×NI×NI×NI×NI
abbrev aqP:=Int×Int×Bool
abbrev a1F:=NI×NI×NI×NI×NI×NI×NI×NI×NI×NI×NI×NI×NI×NI×NI×NI×NI×NI×NI×NI×NI×NI×NI×NI
abbrev aNJ:=(Nat×Bool)×Int×Int×Bool
abbrev aWi:=Nat×NI×NI×NI×NI×NI×NI×NI×NI×NI×NI×NI
abbrev aTq:=Int×Int×Int×Int×Int×Int×Int
abbrev aTr:=NI×NI×(Nat->Bool)×NI×NI×NI
abbrev aWj:=Int×(Nat×Bool)×(Nat×Bool)×Int×Int×Bool
abbrev aI2:=Int×Int×Int×Int
abbrev a1G:=Int×Int×Int×Int×Int×Int×Int×Int×Int×Int×Bool×Int×Bool
abbrev aWk:=NI×NI×NI×NI×NI×NI×NI×NI
abbrev aTs:=Int×Int×Int×Bool
abbrev RA (b:Type):=Rq (List AV×List af) b
abbrev RS (b:Type):=Rq St b
abbrev RE (b:Type):=Rq pS b
@[reducible] def qa {b:Type} (x:RA b):RA b:=x
@[reducible] def qs {b:Type} (x:RS b):RS b:=x
@[reducible] def qe {b:Type} (x:RE b):RE b:=x
@[reducible] def nO {α:Type}:Rq (Option α) Unit:=Rq.no
def lf {β:Type}(q:RE β)(d:β):T:=.leaf (q.em d)
def ls {A B:Type}(f:A->T)(g:B->T)(x:A⊕B):T:=T.sum x f g
def Ex (X:Type):=∀{ρ:Type},X->(AX->St->Option ρ)->Option ρ
abbrev KT:=AX->St
def ef {X:Type}(a:AX)(q:RS X){ρ:Type}(x:X)(K:AX->St->Option ρ):Option ρ:=K a (q.em x)
abbrev LT {D:Type}(_:RS D)(X:Type):=D->Option X
abbrev PL {D:Type}(_:RS D)(X:Type):=Pg (D⊕X)
structure KK where
 l:List Ct
 hs:Hs
 kk:Nat
 n:Nat
end Go.Ab
namespace Go.Proofs.YtldgljclcgaibaaGreat
section
open Go.Ab Go.Ab.Rq
def jL:=bool true
def mb:=szs hole
def eS:=nat 0
def AY:=nat 1
def rq4:=nat 2
def RB:=sZ nil
def rq6:=nat 4
def rq7:=nat 3
def rq8:=nat 6
def rq9:=nat 5
def BO:=nat 11
def hU:=nat 9
def G5:=nat 8
def aI3:=nat 20
def aNK:=nat 13
def aNL:=nat 14
def aNM:=nat 15
def aNN:=nat 16
def aNO:=nat 17
def aNP:=nat 18
def aI4:=nat 19
def aAc:=nat 21
def aQ:=app 0 1
def jb:=cl ai nil
def xV:=cl gb nil
def aI5:=cl an nil
def aNQ:=cl ab nil
def aNR:=app 1 2
def aab:=cu fR nil
def aAd:=app 2 2
def oT:=cl gL nil
def nP:=cl gi nil
def aqQ:=app 1 4
def aAe:=app 2 4
def aAf:=app 0 24
def aNS:=app 1 3
def aac:=app 2 3
def US:=app 1 24
def EA:=app 2 24
def ua:=app 0 4
def G6:=app 1 300
def aad:=app 2 300
def aI6:=app 3 300
def aTt:=us 20 nil
def RC:=app 1 576
def aI7:=app 1 9
def alm:=app 3 3
def aTu:=app 4 3
def aWl:=us 27 nil
def aWm:=app 2 1152
def aae:=app 3 1152
def aqR:=app 4 24
def RD:=app 1 1
def ai7:=app 3 24
def aTv:=app 2 576
def Oc:=app 4 300
def aqS:=app 5 48
def aAg:=app 2 48
def aWn:=us 49 nil
def aI8:=app 4 576
def aqT:=app 5 24
def aI9:=app 2 373
def aJa:=app 3 373
def aNT:=cu Vs nil
def KY:=app 0 3
def aAh:=app 0 37
def aaf:=app 0 8
def aD9:=app 0 72
def aEa:=app 4 1
def jD:=app 0 434
def aTw:=gp 5 8
def aNU:=gp 6 8
def aNV:=gp 7 8
def aNW:=gp 8 8
def aNX:=gp 9 8
def aln:=gp 1 5
def alo:=gp 2 10
def avf:=gp 10 37
def avg:=gp 11 3
def aAi:=app 2 20
def aTx:=app 3 4
def aTy:=app 5 16
def aTz:=app 6 12
def aTA:=app 3 576
def aTB:=app 4 12
def aNY:=app 3 1
def aag:=app 20 8
def aWo:=app 21 11
def aTC:=gp 26 8
def aTD:=gp 27 8
def aTE:=gp 28 8
def aNZ:=app 21 20
def wJ:=ok' eS
def LG:=szs eS
def avh:=zX xV
def aTF:=cl (rc cb) nil
def aWp:=ac (slc 0 2)
def H6:=ac (slc 1 1)
def cG:=so xV
def cQ:=cu eS nil
def JB:=ac (slc 0 1)
def aQQ:=ac (slc 2 1)
def atd:=ac (slc 1 3)
def agb:=cl (rc ci) nil
def aEb:=ac (slc 1 24)
def aKn:=ac (slc 1 27)
def aQR:=ac (slc 0 3)
def aQS:=ac (slc 1 10)
def axZ:=cu AY nil
def aQT:=ac (slc 2 10)
def aQU:=ac (slc 0 9)
def aQV:=ac (De 1 9)
def aKo:=gc (De 3 8)
def zY:=c ai jb
def bF:=cl xV nil
def ax0:=c gn (cl gn nil)
def aQW:=c gi (cl gn nil)
def ate:=cu (gp 1 1) nil
def aQX:=xs 8 (us 22 nil)
def aWq:=cf (fb (bool false))
def aQY:=cl ab (us 14 nil)
def aQZ:=cl ab (us 21 nil)
def aQ0:=cl ai (us 15 nil)
def aQ1:=cl ai (us 26 nil)
def aKp:=cl ai (us 13 nil)
def aWr:=cl ab (us 12 nil)
def alp:=c gi nP
def aWs:=cl ai (us 11 nil)
def iM:=gl 24 oT
def aQ2:=cl ai (us 18 nil)
def aEc:=cu fR aab
def aQ3:=cu (gp 2 1) nil
def aKq:=gl 276 oT
def aKr:=cl ai aTt
def aQ4:=cl ai (us 8 nil)
def aWt:=cl ai (us 21 nil)
def aWu:=cl ai (us 22 nil)
def aWv:=cl ai (us 82 nil)
def aKs:=cl ai (us 24 nil)
def aWw:=cl ai (us 75 nil)
def aWx:=cl ai (us 80 nil)
def aWy:=cl ai (us 12 nil)
def aWz:=cl ai (us 32 nil)
def aWA:=cl ab (us 38 nil)
def aWB:=cu (gp 0 3) nil
def aWC:=cl ai (us 31 nil)
def aWD:=xs 8 (us 1 nil)
def aWE:=cl ab (us 77 nil)
def aKt:=cf (fi .i64 (int 0))
def aQ5:=cf (fi .i64 (int 4))
def ax1:=cf (fi .i64 (int 1))
def aWF:=cf (fi .i64 (int 5))
def aQ6:=afn (pu (nat 96) nil)
def nd:=cl avh nil
def aWG:=res (pl an (pu nil nil))
def Ww:=aa ax0
def agc:=aa aQW
def Hm:=res (pl ai (pu nil nil))
def Hn:=ac (cf (fb jL))
def mP:=ac aWq
def Fa:=res (pl ab (pu nil nil))
def ax2:=cl H6 nil
def aKu:=cl atd nil
def ax3:=gc (cf (fb jL))
def ab0:=so ate
def ax4:=so aWB
def JC:=gc aWq
def Fb:=c ai zY
def aWH:=c ai (cl ab (us 30 nil))
def aKv:=c gL (cl (ki .u64 hole) nil)
def aL:=gc aKt
def aEd:=gc (cf (fi .u64 (int 0)))
def aQ7:=c ai (cl ab (us 25 nil))
def aKw:=c ai aWr
def mQ:=c gi alp
def atf:=gc (cf (fi .i64 (int 1073741824)))
def atg:=cl iM nil
def aKx:=c ai (cl ab (us 17 nil))
def aQ8:=c ai (cl ab (us 19 nil))
def aEe:=cl (gl 576 oT) nil
def aKy:=c ai (cl ab (us 7 nil))
def ab1:=cl (gl 9 oT) nil
def aWI:=c ai (cl ab aTt)
def aQ9:=gc (cf (fi .i64 (int 2)))
def aKz:=c gb alp
def ath:=c gL (c gL oT)
def aWJ:=cl (gl 1152 oT) nil
def aWK:=c ai (cl ab (us 81 nil))
def aWL:=c ai (cl ab (us 104 nil))
def aWM:=c ai (cl ab (us 29 nil))
def aKA:=c ai (cl ab (us 23 nil))
def aRa:=c ai (cl ab (us 11 nil))
def ati:=c kcb (c gL oT)
def aRb:=c ai aKr
def aWN:=c ai (cl ab (us 31 nil))
def atj:=c gi (c gi xV)
def aWO:=gc (cf (fi .i64 (int 8000)))
def aWP:=ac (cf (fi .i64 (int 6)))
def aWQ:=gc (cf (fi .i64 (int 3000)))
def aWR:=gc (cf (fi .i64 (int 2200)))
def aKB:=gc (cf (fi .i64 (int 500)))
def aWS:=gc (cf (fi .i64 (int 950)))
def aWT:=gc (cf (fi .i64 (int 100)))
def aWU:=gc (cf (fi .i64 (int 1000)))
def aEf:=c gn (c gn xV)
def aEg:=cu AY (cu rq4 nil)
def aWV:=cu eS (cu BO nil)
def aEh:=cl agc nil
def ab2:=cl (so aQW) nil
def OA:=cl avh aab
def aRc:=c ai ax2
def agd:=aa mQ
def mc:=aa atg
def oI:=so atg
def zZ:=so mQ
def aWW:=c ai (cl JB nil)
def nh:=so aEe
def Ho:=so aWJ
def age:=so (cl (gl 48 oT) nil)
def alq:=ra atg
def aKC:=res (pl ab (pu aab nil))
def ax5:=res (pl ai (pu aab nil))
def alr:=aa aEf
def aRd:=sZ (c (rc ci) aTF)
def aKD:=c ai (cl ai (cu aQ nil))
def aWX:=c ai (c ai aQY)
def agf:=c gi mQ
def aRe:=xs 3 (us 2 (xs 3 (us 1 nil)))
def aWY:=us 15 (c ai aQ1)
def Fc:=c gi (c gi (c gb xV))
def aRf:=cu (gc (cf (fi .i64 (int 3)))) nil
def aRg:=c ai aQ8
def aRh:=sZ (c (rc ci) agb)
def aWZ:=sZ (cu (rc aW0) agb)
def als:=cu (rc aKt) nil
def aRi:=cl atj nil
def aW1:=ox (pu eS (pl hole hU))
def alu:=cu (gc (cf (fi .i64 (int (-9223372036854775808))))) nil
def alv:=ox (pu eS (pl hole G5))
def aKE:=cl (ga (pr mb oT)) nil
def Hp:=cl agd nil
def agh:=aa agf
def xY:=so agf
def JD:=cl oI nil
def aRj:=cu fR (cu fR nd)
def atk:=cl mc nil
def agi:=c gi (c gi (cl (gc (De 2 11)) nil))
def aKF:=c gi (c gi (cl (gc (De 3 11)) nil))
def aKG:=c gi (c gi (cl (gc (De 7 11)) nil))
def aRk:=c gi (c gi (cl (gc (De 4 11)) nil))
def aW2:=res (pl ai (pu aEc nil))
def aEi:=c gi (c gi (cl (gc (De 20 11)) nil))
def Aa:=c gi (c gi (cl (gc (De 19 11)) nil))
def JE:=so aKE
def aW3:=us 15 (c ai aQ7)
def lC:=c gi agf
def aW4:=cu fR (cu fR (cu fR aEc))
def ax6:=cu (gp 1 434) atj
def aRl:=cu (gp 21 434) atj
def ry:=res (pr ai (pl nd nil))
def aW5:=res (pl agc (pu nil nil))
def aKH:=res (pl Ww (pu nil nil))
def atl:=cl agh nil
def agj:=c mc jb
def aEj:=so (cu (gp 22 434) atj)
def alw:=so (cu (gp 2 434) atj)
def aW6:=sZ (c (ra aQW) aTF)
def alx:=cl JE nil
def Ac:=c aKq atg
def ax7:=c iM mQ
def aRm:=c gi lC
def aRn:=aa (a 3 mQ nP)
def aW7:=c gi (c gi (c gb mQ))
def aRo:=xs 3 (us 2 aRe)
def aW8:=ac (H7 (pu eS (pu (ok' hU) AY)))
def aW9:=ac (H7 (pu eS (pu (ok' rq6) rq8)))
def aRp:=ac (H7 (pu eS (pu (ok' rq8) AY)))
def aKI:=ac (H7 (pu eS (pu (ok' AY) AY)))
def OB:=ac (H7 (pu eS (pu (ok' (nat 72)) AY)))
def aXa:=ac (H7 (pu eS (pu (ok' (nat 412)) AY)))
def aRq:=ac (H7 (pu eS (pu (ok' (nat 399)) AY)))
def aKJ:=ac (H7 (pu eS (pu (ok' rq4) AY)))
def aKK:=ac (H7 (pu aAc (pu (ok' rq4) AY)))
def aXb:=ac (H7 (pu eS (pu (ok' (nat 64)) AY)))
def aEk:=ac (H7 (pu AY (pu (ok' (nat 64)) AY)))
def aRr:=res (pr ai (pl (cu fR nd) nil))
def aKL:=res (pr ai (pl OA nil))
def aXc:=res (pl agd (pu nil nil))
def aRs:=res (pl mc (pu nil nil))
def aRt:=cl (ga (pr mb ati)) nil
def ni:=a 3 mQ alp
def aXd:=sZ (cu (rc aEl) (cu (rc ax1) nil))
def aKM:=res (pl alr (pu nil nil))
def aRu:=res (pl (sZ (c (rc cn) (cl (rc cn) nil))) (pu nil nil))
def ax8:=res (pl aRd (pu nil nil))
def Ca:=aa Ac
def jE:=so Ac
def atm:=ra Ac
def aRv:=so (cl (ga (pr mb aKv)) nil)
def aEm:=so (cl (ga (pr mb ath)) nil)
def aKN:=c gi aRm
def aXe:=sZ (c (ra mQ) agb)
def aXf:=gl 6 (c gL (c gL (c kcb ath)))
def aXg:=cu fR (cu fR aW4)
def qP:=so ni
def aXh:=cu Vs (cu Vs (cu Vs (cu Vs (cu Vs (cu Vs aNT)))))
def aXi:=res (pl agh (pu nil nil))
def aXj:=res (pl mc (pu aab nil))
def aXk:=res (pr ai (pl aRj nil))
def aXl:=cl (aa ax7) nil
def aXm:=res (pl aRh (pu aab nil))
def aRw:=afn (pu (nat 180) (cu (rc (cp 2 1)) (cu (rc (cp 3 10)) nil)))
def aXn:=c an (c an (c an (c an (c an (c an aQY)))))
def aXo:=res (pu RB (pl (cl (zX atg) nil) nil))
def pN:=c gL (c gL (c gL (c gL (c gL ath))))
def aXp:=cl (so aRt) nil
def ax9:=c gi aKN
def aKO:=cu fR aXg
def aRx:=res (pl ai (pu (cu (zX (cu ax3 nil)) nil) nil))
def aRy:=res (pl aW6 (pu nil nil))
def aRz:=so (cu aL (cu aEd nil))
def Fe:=so ax9
def aya:=res (pr agd (pl nd nil))
def aEn:=res (pr mc (pl nd nil))
def aA:=c gL pN
def aKP:=c gi ax9
def nQ:=c aXf nP
def aEo:=res (pu aXd (pu nil nil))
def aXq:=cu fR (cu Vs aXg)
def aXr:=us 5 (cu aEk (us 108 nil))
def OC:=c oI JD
def aXs:=ac (jk (pu AY (pu wJ (pl mb (pu rq4 jL)))))
def aXt:=ac (jk (pu rq6 (pu wJ (pl mb (pu AY jL)))))
def aEp:=c gi (c gi (a 3 mQ mQ))
def aXu:=ac (jk (pu rq7 (pu wJ (pl mb (pu AY jL)))))
def aXv:=ac (jk (pu rq8 (pu wJ (pl mb (pu rq7 jL)))))
def aXw:=ac (jk (pu rq6 (pu wJ (pl mb (pu rq7 jL)))))
def aXx:=ac (jk (pu rq9 (pu wJ (pl mb (pu rq7 jL)))))
def aXy:=ac (jk (pu rq9 (pu wJ (pl mb (pu AY jL)))))
def aRA:=res (pr aRh (pl nd nil))
def aXz:=cu mP (xs 5 (cu mP aWn))
def aXA:=cu mP (xs 5 (cu mP (us 77 nil)))
def aKQ:=aa aKP
def aEq:=zX nQ
def pO:=so nQ
def aXB:=c an (c an (c an (c an (c an (c an (cl ab (us 19 aQX)))))))
def ayb:=res (pr agh (pl nd nil))
def aXC:=ac (jk (pu AY (pu wJ (pu (szl rq6) (pu AY jL)))))
def mR:=c gL aA
def aRB:=c gi aKP
def aXD:=sZ (c (ra ax7) agb)
def aEr:=cl nQ nil
def Ee:=cl aKQ nil
def aXE:=cl (so aKP) nil
def ab3:=cl (aa aEp) nil
def jU:=c gL mR
def ayc:=c gi aRB
def aly:=a 5 lC (c gi (c (gc (De 1 9)) nP))
def rz:=a 5 lC (c gi (c (gc (De 14 9)) nP))
def rA:=a 5 lC (c gi (c (gc (De 15 9)) nP))
def rB:=a 5 lC (c gi (c (gc (De 16 9)) nP))
def rC:=a 5 lC (c gi (c (gc (De 17 9)) nP))
def rD:=a 5 lC (c gi (c (gc (De 18 9)) nP))
def aEs:=a 5 lC (c gi (c (gc (De 19 9)) nP))
def xZ:=a 5 lC (c gi (c (gc (De 13 9)) nP))
def aKR:=aa (a 3 mQ ni)
def aRC:=res (pr (sZ (c (ra alp) agb)) (pl nd nil))
def aKS:=cl (ga (pr mb pN)) nil
def aKT:=jk (pu aAc (pr alv (pl mb (pu G5 jL))))
def aRD:=so (c gb (c gb (c gb (c gb (c gb (c gb (c gb (c gb mQ))))))))
def aXF:=cu aL (cu aL (cu JC nil))
def aXG:=ac (jk (pu AY (pu (ox (pu eS (pu AY AY))) (pr mb (pu AY hole)))))
def atn:=cu aL (cu aL (cu aL nil))
def aRE:=res (pr Ca (pl nd nil))
def aRF:=c gi ayc
def aXH:=res (pr (aa ax7) (pl nd nil))
def aRG:=c iM (c gi (c gi (c gi ax7)))
def alz:=cu (gp 4 8) (cu aTw (cu aNU (cu aNV (cu aNW (cu aNX nil)))))
def aXI:=cu ax4 (cu ab0 JD)
def aRH:=jk (pu rq7 (pu (ox (pu eS (pu eS G5))) (pl mb (pu G5 jL))))
def te:=so aKS
def aKU:=cl aXf (cu aL nil)
def aXJ:=cl (ga (pu LG pN)) nil
def aRI:=jk (pu aAc (pu (ox (pu eS (pu eS hU))) (pl mb (pu hU jL))))
def ab4:=c jE (cl age nil)
def ab5:=cl (ga (pr mb aA)) nil
def Ef:=a 4 agf (a 3 mQ mQ)
def oJ:=c gi (a 8 aEp xV)
def aKV:=gc aRH
def aXK:=res (pr Ca (pl OA nil))
def Hq:=so ab5
def ato:=cl (ga (pu LG aA)) nil
def aXL:=cu jD (us 2 (cu aag (cu OB (us 194 nil))))
def aRJ:=cl (ga (pr mb mR)) nil
def aXM:=res (pr (sZ (c (ra agf) agb)) (pl nd nil))
def qQ:=so oJ
def alA:=cl (so aRF) nil
def aXN:=cl (so aKU) nil
def aRK:=cl (aa (c gb (c gb (a 6 (c gb (c gb (c gb (c gb (c gb xV))))) mQ)))) nil
def aKW:=c oI OC
def agk:=c gi (c gi (c gi (c gi (c gi (c gi (c gi (c gi (c gi (c gi (c gi ab1))))))))))
def uV:=so aRJ
def aRL:=c iM (c iM ax9)
def aXO:=cl (ga (pu LG mR)) nil
def aRM:=aa (c gi Ef)
def aRN:=cl (ga (pr mb jU)) nil
def aKX:=cl aRJ nil
def aXP:=so (c gb (c gb (c gb (c gb (c gb (c gb (c gb (c gb (cu (gc (cf (fi .i64 (int 1125899906842624)))) alp)))))))))
def aXQ:=c aKq (c iM (c iM (c iM (cl (gl 25 oT) nil))))
def aXR:=sZ (c (ra ayc) aTF)
def alB:=so aRN
def ayd:=c jE (cl jE nil)
def aEt:=res (pr aXD (pl nd nil))
def aRO:=cl aRN nil
def Td:=so aXQ
def aRP:=afn (pu (nat 183) (cu (rc (cp 2 1)) (cu (rc (cp 3 3)) (cu (rc (cp 4 1)) (cu (rc (cp 5 3)) (cu (rc (cp 6 4)) nil))))))
def aRQ:=c gi (c gi (cl (gc (jk (pu aI3 (pu (ox (pu eS (pu eS BO))) (pl mb (pu BO jL)))))) nil))
def aXS:=c gi (c gi (cl (gc (jk (pu (nat 38) (pu (ox (pu eS (pu eS BO))) (pl mb (pu BO jL)))))) nil))
def aRR:=c gi (c gi (cl (gc (jk (pu (nat 39) (pu (ox (pu eS (pu eS BO))) (pl mb (pu BO jL)))))) nil))
def aRS:=c gi (c gi (cl (gc (jk (pu (nat 40) (pu (ox (pu eS (pu eS BO))) (pl mb (pu BO jL)))))) nil))
def aXT:=res (pu (sZ (cu (rc (cp 0 5)) als)) (pu nil (cl lC nil)))
def aRT:=cl (zX aRN) nil
def Hr:=cl alB nil
def aEu:=c gi (c gi (c gi (c gi aRF)))
def aXU:=cl (cl (ga (pu LG jU)) nil) nil
def agl:=so (c gi (c gi (cl (gc (jk (pu (nat 29) (pu (ox (pu eS (pu eS BO))) (pl mb (pu BO jL)))))) nil)))
def aye:=so (c gi (c gi (cl (gc (jk (pu (nat 28) (pu (ox (pu eS (pu eS BO))) (pl mb (pu BO jL)))))) nil)))
def aEv:=so (c gi (c gi (cl (gc (jk (pu (nat 41) (pu (ox (pu eS (pu eS BO))) (pl mb (pu BO jL)))))) nil)))
def alC:=so (cu aL atn)
def aXV:=cu mP (xs 5 (cu mP aXz))
def aXW:=cu fR (cu fR aRT)
def alD:=cu (so atn) (cl zZ nil)
def ayf:=cu fR (cu fR (cu fR (cu fR (cu fR (cu fR (cu fR (cu fR (cu fR (cu fR (cu fR aKO))))))))))
def aRU:=c gi (c gi (c gb (c gb (c gi (c gi (c gi (c gb (c gb aRB))))))))
def aEw:=cu Vs (cu Vs (cu Vs (cu Vs (cu Vs (cu Vs (cu Vs (cu Vs (cu Vs (cu Vs (cu Vs (cu Vs aXh)))))))))))
def aRV:=c gi (c gi (c gi (a 10 Ef (cl (gc (De 20 10)) nil))))
def aXX:=c gL (c gL (c gL (c gL (c gL (c gL (c gL (c gL (c gL jU))))))))
def aEx:=so (c gi (c gi (c gi (c gi aEu))))
def atp:=a 5 lC (c gi (c (gc (jk (pu (nat 22) (pu (ox (pu eS (pu eS hU))) (pl mb (pu hU jL)))))) nP))
def aXY:=a 5 lC (c gi (c (gc (jk (pu (nat 23) (pu (ox (pu eS (pu eS hU))) (pl mb (pu hU jL)))))) nP))
def aXZ:=a 5 lC (c gi (c (gc (jk (pu (nat 24) (pu (ox (pu eS (pu eS hU))) (pl mb (pu hU jL)))))) nP))
def aX0:=a 5 lC (c gi (c (gc (jk (pu (nat 25) (pu (ox (pu eS (pu eS hU))) (pl mb (pu hU jL)))))) nP))
def aX1:=a 5 lC (c gi (c (gc (jk (pu (nat 26) (pu (ox (pu eS (pu eS hU))) (pl mb (pu hU jL)))))) nP))
def aX2:=a 5 lC (c gi (c (gc (jk (pu (nat 32) (pu (ox (pu eS (pu eS hU))) (pl mb (pu hU jL)))))) nP))
def aEy:=a 5 lC (c gi (c (gc (jk (pu (nat 33) (pu (ox (pu eS (pu eS hU))) (pl mb (pu hU jL)))))) nP))
def aKY:=a 5 lC (c gi (c (gc (jk (pu (nat 34) (pu (ox (pu eS (pu eS hU))) (pl mb (pu hU jL)))))) nP))
def aKZ:=a 5 lC (c gi (c (gc (jk (pu (nat 35) (pu (ox (pu eS (pu eS hU))) (pl mb (pu hU jL)))))) nP))
def aK0:=a 5 lC (c gi (c (gc (jk (pu (nat 36) (pu (ox (pu eS (pu eS hU))) (pl mb (pu hU jL)))))) nP))
def aK1:=a 5 lC (c gi (c (gc (jk (pu (nat 37) (pu (ox (pu eS (pu eS hU))) (pl mb (pu hU jL)))))) nP))
def aRW:=a 5 lC (c gi (c (gc (jk (pu (nat 38) (pu (ox (pu eS (pu eS hU))) (pl mb (pu hU jL)))))) nP))
def aX3:=a 5 lC (c gi (c (gc (jk (pu (nat 39) (pu (ox (pu eS (pu eS hU))) (pl mb (pu hU jL)))))) nP))
def JF:=so aXY
def JG:=so aXZ
def JH:=so aX0
def JJ:=so aX1
def JK:=so (a 5 lC (c gi (c (gc (jk (pu (nat 27) (pu (ox (pu eS (pu eS hU))) (pl mb (pu hU jL)))))) nP)))
def agm:=so (a 5 lC (c gi (c (gc (jk (pu (nat 28) (pu (ox (pu eS (pu eS hU))) (pl mb (pu hU jL)))))) nP)))
def aEz:=so aKY
def ab6:=so aKZ
def ab7:=so aK0
def ab8:=so aK1
def agn:=so aRW
def atq:=so aX3
def aEA:=so (a 5 lC (c gi (c (gc (jk (pu (nat 40) (pu (ox (pu eS (pu eS hU))) (pl mb (pu hU jL)))))) nP)))
def aEB:=c gL (c gL (c gL (c gL aXX)))
def aX4:=cu aL (cu aL (cu aL atn))
def ab9:=ac (cfs (pr hole (pu aI3 aXX)))
def aX5:=c jE (c jE (c nh JD))
def aX6:=cu ua (cu ua (cu ua (cu aKJ (c ai (c ai (cl ai (cu ua (cu aKJ nil))))))))
def aX7:=xs 3 (us 2 (xs 3 (us 2 (xs 3 (us 2 (xs 3 (us 2 (xs 3 (us 2 (xs 3 (us 2 (xs 3 (us 2 (xs 3 (us 2 (xs 3 (us 2 (xs 3 (us 2 aRo)))))))))))))))))))
def Wx:=cu rq6 (cu rq9 (cu rq8 (cu (nat 7) (cu G5 (cu hU (cu aI4 (cu aNP (cu aNO (cu aNN (cu aNM (cu aNL (cu aNK (cu BO (cu eS (cu (nat 10) nil)))))))))))))))
def aK2:=c gL (c gL (c gL aEB))
def aX8:=so (cl (ga (pr mb aEB)) nil)
def aX9:=so (c gi (c gi (c gi (cl gi aX4))))
def aYa:=cu fR (cu fR (cu fR (cu fR (cu fR (cu fR (cu fR (cu fR (cu fR (cl aEq (cu fR aKO))))))))))
def aRX:=cu fR (cu fR (cu fR (cu fR (cu fR (cu fR (cu fR (cu fR (cu fR (cl aEq aXq)))))))))
def aRY:=cu fR aYa
def aEC:=cu eS (cu rq6 (cu rq9 (cu rq8 (cu (nat 7) (cu G5 (cu hU (cu aI4 (cu aNP (cu aNO (cu aNN (cu aNM (cu aNL (cu aNK (cu (nat 12) (cu rq7 (cu BO (cu rq4 (cu (nat 10) nil))))))))))))))))))
def aK3:=cu aL (cu aL aX4)
def ya:=c gi (c gi (c gi (c gi (a 6 aRm (a 6 aRm aRL)))))
def aYb:=res (pu RB (pl aRY nil))
def aYc:=res (pu (ac (jk (pu AY (pu wJ (pu (szl rq7) (pu (nat 27) jL)))))) (pr nd (cl (c iM (c gi (c gi (c gi aRG)))) nil)))
def ago:=cu eS (cu AY (cu rq4 (cu rq7 (cu rq6 (cu rq9 (cu rq8 (cu (nat 7) (cu G5 (cu hU (cu (nat 10) (cu BO (cu (nat 12) (cu aNK (cu aNL (cu aNM (cu aNN (cu aNO (cu aNP (cu aI4 (cu aI3 nil))))))))))))))))))))
def aYd:=cu aL (cu aL (cu aL (cu aL (cu aL (cl gi (cu (gc (jk (pu aNL (pu wJ (pu LG (pu hU jL)))))) alu))))))
def aYe:=cu aL (cu aL (cu aL (cu aL (cu aL (cl gi (cu (gc (jk (pu aNM (pu wJ (pu LG (pu hU jL)))))) alu))))))
def aYf:=cu aL (cu aL (cu aL (cu aL (cu aL (cl gi (cu (gc (jk (pu aNN (pu wJ (pu LG (pu hU jL)))))) alu))))))
def aYg:=cu aL (cu aL (cu aL (cu aL (cu aL (cl gi (cu (gc (jk (pu aNO (pu wJ (pu LG (pu hU jL)))))) alu))))))
def aYh:=cu aL (cu aL (cu aL (cu aL (cu aL (cl gi (cu (gc (jk (pu aNP (pu wJ (pu LG (pu hU jL)))))) alu))))))
def aRZ:=cl gi (cu aL (cu aL (cu aL (cu aL (cu aL (cu aL aXF))))))
def alE:=so (cu aWO (cu aL (c gi (c gi (c gi (c gi (c gi (c gi (c gi (c gi (c gi (c gi (c gi (c gi (c gi (c gi (c iM (c iM (cu (gc (cf (fi .i64 (int 20000)))) aKN)))))))))))))))))))
def aYi:=so (cu aL (cu aL aK3))
def aR0:=au 6 alz (cu avf (a 4 Fc (cu avg (c gb (c gi (a 3 mQ (c gb (c gb (c gb (c gi (c gi (c gi (a 10 Ef (cl (gc (jk (pu (nat 22) (pu (ox (pu eS (pu eS (nat 10)))) (pl mb (pu (nat 10) jL)))))) nil))))))))))))))
def aYj:=au 6 (cu (gp 23 8) (cu (gp 24 8) (cu (gp 25 8) (cu aTC (cu aTD (cu aTE nil)))))) (cu (gp 29 37) (a 4 Fc (cu (gp 30 3) (c gb (c gi (a 3 mQ (c gb (c gb (c gb (c gi (c gi (c gi (a 10 Ef (cl (gc (jk (pu (nat 31) (pu (ox (pu eS (pu eS (nat 10)))) (pl mb (pu (nat 10) jL)))))) nil))))))))))))))
def aYk:=au 6 (cu (gp 24 8) (cu (gp 25 8) (cu aTC (cu aTD (cu aTE (cu (gp 29 8) nil)))))) (cu (gp 30 37) (a 4 Fc (cu (gp 31 3) (c gb (c gi (a 3 mQ (c gb (c gb (c gb (c gi (c gi (c gi (a 10 Ef (cl (gc (jk (pu (nat 32) (pu (ox (pu eS (pu eS (nat 10)))) (pl mb (pu (nat 10) jL)))))) nil))))))))))))))
def aR1:=cu aWO (cu (gc (cf (fi .i64 (int 40000)))) (cu (gc (cf (fi .i64 (int 16)))) (cu (gc aWF) (c gi (c gi (c gi (c gi (c gi (c gi (c gi (c gi (c gi (c gi (c gi (c gi (c iM (cl iM (cu (gc (cf (fi .i64 (int 5000000)))) (cu (gc (cf (fi .i64 (int 68719476736)))) (cu (gc ax1) (cu (gc (cf (fi .i64 (int 268435456)))) (cu (gc (cf (fi .i64 (int 32)))) atn))))))))))))))))))))))
def aYl:=st (pr (us 4 (cu aNY (cu aEa (us 8 (cu (app 5 3) (cu (app 6 3) (cu (app 7 4) (cu (app 8 4) aWx)))))))) (pl (c (so agi) (c cG (c alB (cu ax4 (cu ab0 (c zZ (c zZ (c xY (cl xY nil))))))))) aEg))
def atr:=a 26 ya (c gb (c iM (a 2 Ac (cu (gp 2 5) (cu (gp 3 10) (c (gc (De 4 8)) (au 6 (cu aTw (cu aNU (cu aNV (cu aNW (cu aNX (cu (gp 10 8) nil)))))) (cu (gp 11 37) (a 4 Fc (cu (gp 12 3) (c gb (c gi (a 3 mQ (c gb (c gb (c gb (c gi (c gi (c gi (a 10 Ef (cl (gc (De 13 10)) nil)))))))))))))))))))))
def wK:=a 26 ya (c gb (c iM (a 2 Ac (cu aln (cu alo (c aKo (au 6 alz (cu avf (a 4 Fc (cu avg (c gb (c gi (a 3 mQ (c gb (c gb (c gb (c gi (c gi (c gi (a 10 Ef (cl (gc (De 12 10)) nil)))))))))))))))))))))
def aYm:=zX (a 26 ya (c gb (c iM (a 2 Ac (cu aln (cu alo (c aKo (au 6 alz (cu avf (a 4 Fc (cu avg (c gb (c gi (a 3 mQ (c gb (c gb (c gb aRV)))))))))))))))))
def aK4:=c aRJ (c ab5 (c ab5 (c ab5 (c ab5 (c ab5 (c ab5 aRO))))))
def aYn:=c aXO (c ato (c ato (c ato (c ato (c ato (c ato aXU))))))
def JL:=c uV (c Hq (c Hq (c Hq (c Hq (c Hq (c Hq Hr))))))
def aYo:=a 26 ya (c gb (c iM (a 2 Ac (cu (gp 20 5) (cu (gp 21 10) (c (gc (jk (pu (nat 22) (pr alv (pl mb (pu G5 jL)))))) aYj))))))
def aR2:=a 26 ya (c gb (c iM (a 2 Ac (cu (gp 21 5) (cu (gp 22 10) (c (gc (jk (pu (nat 23) (pr alv (pl mb (pu G5 jL)))))) aYk))))))
def aR3:=a 26 ya (c gb (c iM (a 2 Ac (cu (gp 22 5) (cu (gp 23 10) (c (gc (jk (pu (nat 24) (pr alv (pl mb (pu G5 jL)))))) (au 6 (cu (gp 25 8) (cu aTC (cu aTD (cu aTE (cu (gp 29 8) (cu (gp 30 8) nil)))))) (cu (gp 31 37) (a 4 Fc (cu (gp 32 3) (c gb (c gi (a 3 mQ (c gb (c gb (c gb (c gi (c gi (c gi (a 10 Ef (cl (gc (jk (pu (nat 33) (pu (ox (pu eS (pu eS (nat 10)))) (pl mb (pu (nat 10) jL)))))) nil)))))))))))))))))))))
def aR4:=so (a 26 ya (c gb (c iM (a 2 Ac (cu aln (cu alo (c (gc aKT) aR0)))))))
def aED:=so (a 26 ya (c gb (c iM (a 2 Ac (cu (gp 23 5) (cu (gp 24 10) (c (gc (jk (pu (nat 25) (pr alv (pl mb (pu G5 jL)))))) (au 6 (cu aTC (cu aTD (cu aTE (cu (gp 29 8) (cu (gp 30 8) (cu (gp 31 8) nil)))))) (cu (gp 32 37) (a 4 Fc (cu (gp 33 3) (c gb (c gi (a 3 mQ (c gb (c gb (c gb (c gi (c gi (c gi (a 10 Ef (cl (gc (jk (pu (nat 34) (pu (ox (pu eS (pu eS (nat 10)))) (pl mb (pu (nat 10) jL)))))) nil))))))))))))))))))))))
def aEE:=so (a 26 ya (c gb (c iM (a 2 Ac (cu aln (cu alo (c aKV aR0)))))))
def ayg:=so (a 26 ya (c gb (c iM (a 2 Ac (cu aln (cu alo (c aKV (au 6 alz (cu avf (a 4 Fc (cu avg (c gb (c gi (a 3 mQ (c gb (c gb (c gb (c gi (c gi (c gi (a 10 Ef (cl (gc (jk (pu aAc (pu (ox (pu eS (pu eS (nat 10)))) (pl mb (pu (nat 10) jL)))))) nil))))))))))))))))))))))
def aR5:=a 26 ya (c gb (c iM (a 2 Ac (cu aln (cu alo (c aKV (au 6 alz (cu avf (a 4 Fc (cu avg (cu ax3 (c gi (a 3 mQ (cu ax3 (c gb (c gb (c gi (c gi (c gi (a 10 Ef (cl (gc (jk (pu (nat 12) (pu (ox (pu eS (pu eS (nat 10)))) (pl mb (pu (nat 10) jL)))))) nil)))))))))))))))))))))
def ats:=res (pu RB (pl (c (zX wK) aYa) nil))
def aYp:=res (pu RB (pr (cl aYm (cu fR (cu fR (cu fR (cu fR (cu fR (cu fR (cu fR (cu fR (cu fR (cu fR aXq))))))))))) aKX))
def aYq:=c ni (c oJ (c aKS (c aX2 (c aEy (c aKY (c aKZ (c aK0 (c aK1 (c nQ (c aXS aK4))))))))))
def aYr:=c ni (c oJ (c aKS (c aEy (c aKY (c aKZ (c aK0 (c aK1 (c aRW (c nQ (c aRR aK4))))))))))
def alF:=c (so (a 26 ya (c gb (c iM (a 2 Ac (cu (gp 3 5) (cu (gp 4 10) (c (gc (jk (pu rq9 (pr alv (pl mb (pu G5 jL)))))) (au 6 (cu aNU (cu aNV (cu aNW (cu aNX (cu (gp 10 8) (cu (gp 11 8) nil)))))) (cu (gp 12 37) (a 4 Fc (cu (gp 13 3) (c gb (c gi (a 3 mQ (c gb (c gb (c gb (c gi (c gi (c gi (a 10 Ef (cl (gc (jk (pu aNL (pu (ox (pu eS (pu eS (nat 10)))) (pl mb (pu (nat 10) jL)))))) nil))))))))))))))))))))))) (c qP (c qQ (c te (c (so (a 5 lC (c gi (c (gc (jk (pu aNM (pu (ox (pu eS (pu eS hU))) (pl mb (pu hU jL)))))) nP)))) (c (so (a 5 lC (c gi (c (gc (jk (pu aNN (pu (ox (pu eS (pu eS hU))) (pl mb (pu hU jL)))))) nP)))) (c (so (a 5 lC (c gi (c (gc (jk (pu aNO (pu (ox (pu eS (pu eS hU))) (pl mb (pu hU jL)))))) nP)))) (c (so (a 5 lC (c gi (c (gc (jk (pu aNP (pu (ox (pu eS (pu eS hU))) (pl mb (pu hU jL)))))) nP)))) (c (so (a 5 lC (c gi (c (gc (jk (pu aI4 (pu (ox (pu eS (pu eS hU))) (pl mb (pu hU jL)))))) nP)))) (c (so (a 5 lC (c gi (c (gc (jk (pu aI3 (pu (ox (pu eS (pu eS hU))) (pl mb (pu hU jL)))))) nP)))) (c pO (c (so (c gi (c gi (cl (gc (jk (pu aAc (pu (ox (pu eS (pu eS BO))) (pl mb (pu BO jL)))))) nil)))) JL)))))))))))
def aR6:=st (pr (cu jD (us 2 (cu aag (cu OB (us 178 (cu jD (cu jD (cu aXa aWr)))))))) (pl (c ayg (c qP (c qQ (c te (c (so atp) (c JF (c JG (c JH (c JJ (c JK (c pO (c aye (c uV (cu nO (cu nO (cu nO (cu nO (cu nO (cu nO (cu nO (c Fe JL))))))))))))))))))))) Wx))
def aR7:=st (pr (cu jD (us 2 (cu aag (cu OB (us 178 (cu jD (cu jD (cu aXa (c ab (cu jD (cu jD (cu (ac (H7 (pu eS (pu (ok' (nat 411)) AY)))) (cu (app 11 3) (cu OB (cu jD (cu jD (cu (ac (H7 (pu eS (pu (ok' (nat 73)) (nat 24))))) (c mc (cu (app 20 1) zY))))))))))))))))))) (pl (c ayg (c qP (c qQ (c te (c (so atp) (c JF (c JG (c JH (c JJ (c JK (c pO (c aye (c uV (cu nO (cu nO (cu nO (cu nO (cu nO (cu nO (cu nO (c Fe JL))))))))))))))))))))) Wx))
end
open Go.Ab
abbrev TP:=Tryz.prog
abbrev D0 {β δ:Type}(l:List Ct)(n:Nat)(Q:RA β)(R:δ->T)(B:β->Pg δ):Prop:=alG TP l ⟨[],[],[],[],none⟩ 2000 n Q R B
abbrev D1 {β δ:Type}(l:List Ct)(d0:List Nat)(n:Nat)(Q:RA β)(R:δ->T)(B:β->Pg δ):Prop:=alG TP l ⟨[],[],d0,[],none⟩ 2000 n Q R B
abbrev D2 {β δ:Type}(k:KK)(Q:RA β)(R:δ->T)(B:β->Pg δ):Prop:=alG TP k.l k.hs 2000 k.n Q R B
abbrev LI {D X:Type}(k:KK)(id:Nat)(Q:RS D)(E:∀{ρ:Type},X->(AX->St->Option ρ)->Option ρ)(S:D->Pg (D⊕X)):Prop:=aTG TP k.l k.hs k.kk 2000 k.n id Q E S
abbrev JI {D X:Type}(k:KK)(id:Nat)(Q:RS D)(E:∀{ρ:Type},X->(AX->St->Option ρ)->Option ρ)(S:D->Pg X):Prop:=aTH TP k.l k.hs k.kk 2000 k.n id Q E S
section
variable [ax]
abbrev SC (e:Ct):Prop:=Snd TP e
theorem sc {e:Ct}{n:Nat}{F:Ff}(S:Sound TP n F)(h:e=(n,F):=by kernel_rfl):SC e:=Snd.of S h
theorem k0 {β δ:Type}{l:List Ct}{d0:List Nat}{n:Nat}{Q:RA β}{R:δ->T}{B:β->Pg δ}(hl:JM TP l)(h:alG TP l ⟨[],[],d0,[],none⟩ 2000 n Q R B)(hc:Gj TP n=true:=by kernel_rfl):Sound TP n (FC Q R λb=>(B b).val):=mk0 mixed hl hc h
theorem s0 {β δ:Type}{e:Ct}{l:List Ct}{d0:List Nat}{n:Nat}{Q:RA β}{R:δ->T}{B:β->Pg δ}(hl:JM TP l)(h:alG TP l ⟨[],[],d0,[],none⟩ 2000 n Q R B)(he:e=(n,FC Q R λb=>(B b).val):=by kernel_rfl)(hc:Gj TP n=true:=by kernel_rfl):SC e:=Snd.of (mk0 mixed hl hc h) he
theorem kS {β δ:Type}{k:KK}{Q:RA β}{R:δ->T}{B:β->Pg δ}(hl:JM TP k.l)(i j:List Nat)
  (h1:BP (λa=>∀kk,OD TP (Fg k.l) k.hs (tmpsOf TP k.n) kk 2000 a) (i.map (aah TP k.n)))
  (h2:BP (λb=>∀kk,avi TP (Fg k.l) k.hs (tmpsOf TP k.n) kk 2000 b) (j.map (agp TP k.n)))
  (h:D2 k Q R B)(e1:LH (aai TP k.n)=i.map (aah TP k.n):=by kernel_rfl)(e2:LJ k.hs (aai TP k.n)=j.map (agp TP k.n):=by kernel_rfl)(hc:Gj TP k.n=true:=by kernel_rfl):
  Sound TP k.n (FC Q R λb=>(B b).val):=mkS mixed hl hc (LK.by e1 h1 e2 h2) h
theorem kL {D X:Type}{k:KK}{id:Nat}{Q:RS D}{E:∀{ρ:Type},X->(AX->St->Option ρ)->Option ρ}{S:D->Pg (D⊕X)}(h:LI k id Q E S)
  (h0:aqU k.hs (aah TP k.n id)=some (gv id k.kk Q E (bj S 2000)):=by kernel_rfl):∀k',OD TP (Fg k.l) k.hs (tmpsOf TP k.n) k' 2000 (aah TP k.n id):=mkL h0 h
theorem kJ {D X:Type}{k:KK}{id:Nat}{Q:RS D}{E:∀{ρ:Type},X->(AX->St->Option ρ)->Option ρ}{S:D->Pg X}(hd:Hd)(h:JI k id Q E S)
  (h0:aAj k.hs (agp TP k.n id)=some ⟨hd,gv id k.kk Q E λd=>(S d).val⟩:=by kernel_rfl):∀k',avi TP (Fg k.l) k.hs (tmpsOf TP k.n) k' 2000 (agp TP k.n id):=mkJ h0 h
theorem kN {k:KK}{c:Code}(h:aqU k.hs c=none:=by kernel_rfl):∀k',OD TP (Fg k.l) k.hs (tmpsOf TP k.n) k' 2000 c:=OD.no h
end
end Go.Proofs.YtldgljclcgaibaaGreat
namespace Go.Ab
variable [ax]
omit [ax] in
theorem aAI:∀{h:List af} {cs:List Ch} {j:Nat},cs[j]? =some .kill->(((after h cs)[j]?).getD none)=none
 | [],cs,j,_=>by simp[after]
 |b0::bs,[],j,h=>by simp at h
 |b0::bs,c::cs,0,h=>by
  simp only[aEF,j9] at h;subst h;simp[after]
 |b0::bs,c::cs,j+1,h=>by
  have:=aAI (h:=bs) (cs:=cs) (j:=j) (by simpa using h);cases c<;>simpa[after] using this
theorem ayN {P:Program}{π:Pi}{w w':World}{h:List af}{cs:List Ch}{k:af}{val:AV}{v:Value}{B s e:Nat}(hH:tf π (hC (h.map some)) (hZ (h.map some)) w)(ky:∀b,π b≠none->b<h.length)
  (JS:∀b,b<h.length->cs[b]? =some .m7∨cs[b]? =some .kill)(hfr:cj w (Df π h.length (Tl cs)) w')(hle:s+af.size k<=e)(qJ:∀i,s<=i->i<e->(cl w' B i).isSome=true/\fz w' B i=false)
  (hk:∀j,j<af.size k->∃v,cl w' B (s+j)=some v/\(af.get k j).rel π v)
  (hpl:(w.heap.size<=B)∨∃b s0 q0 e0,b<h.length/\cs[b]? =some .kill/\π b=some (B,s0,q0,e0)/\s0<=s/\e<=e0)
  (ham:A6 w')(hlb:s<e->ax.h0<=B)(hv:∀π':Pi,Ext π π'->π' h.length=some (B,s,af.size k,e)->val.rel π' v):
  aJD P π w h ⟨val,cs,[k]⟩ (.returned v) w':=by
 have h0:π h.length=none:=by
  cases hh:π h.length with
  |none=>rfl
  |some p=>exact absurd (ky _ (by rw[hh];simp)) (Nat.lt_irrefl _)
 have hx:=A7 h0 (B,s,af.size k,e);have ayO:=qC π h.length (B,s,af.size k,e);have agY:∀b,b≠h.length->AJ π h.length (B,s,af.size k,e) b=π b:=λb hb=>by simp only[AJ,if_neg hb]
 have a1Z:(pS.heap ⟨val,cs,[k]⟩ h)[h.length]? =some (some k):=acn (r:=⟨val,cs,[k]⟩) (h:=h) (k:=0) rfl;have hlen:(pS.heap ⟨val,cs,[k]⟩ h).length=h.length+1:=by simp[pS.heap,nR]
 have live:∀b,hZ (pS.heap ⟨val,cs,[k]⟩ h) b≠none->b=h.length∨(b<h.length/\cs[b]? =some .m7/\∃kb,h[b]? =some kb/\(pS.heap ⟨val,cs,[k]⟩ h)[b]? =some (some kb)):=λb hb=>by
  rcases agr b h.length with oo|heq|hgt
  .right
   rcases JS b oo with hc|hc
   .have hkb:h[b]? =some (h[b]'oo):=kT _;exact⟨oo,hc,_,hkb,(DU oo).trans (agU.2 hc _ hkb)⟩
   .exfalso;apply hb
    unfold hZ;rw[DU oo,aAI hc];rfl
  .exact .inl heq
  .exfalso;apply hb
   unfold hZ;rw[JN (by omega)];rfl
 have kept:∀b kb,b<h.length->cs[b]? =some .m7->h[b]? =some kb->∃Bb sb eb,π b=some (Bb,sb,af.size kb,eb)/\sb+af.size kb<=eb/\
   (∀i,sb<=i->i<eb->(cl w' Bb i).isSome=true/\fz w' Bb i=false)/\(∀j,j<af.size kb->∃v,cl w' Bb (sb+j)=some v/\(af.get kb j).rel π v)/\∀i,sb<=i->i<eb->Bb<w.heap.size/\¬Df π h.length (Tl cs) Bb i:=λb kb oo hc hkb=>by
  have hzb:hZ (h.map some) b=some (af.size kb):=by rw[QJ,hkb];rfl
  obtain⟨Bb,sb,eb,p1,p2,p3,p4⟩:=hH.hp b _ hzb
  have hnf:∀i,sb<=i->i<eb->Bb<w.heap.size/\¬Df π h.length (Tl cs) Bb i:=λi i1 i2=>by
   refine⟨acm (p3 i i1 i2).1,?_⟩;rintro ⟨b2,s2,q2,e2,Fj,hd2,hp2,j1,j2⟩
   have oM:b≠b2:=λe=>by subst e;exact hd2 hc
   have hz2:hZ (h.map some) b2≠none:=by
    rw[QJ,kT Fj];simp
   exact hH.dj b b2 Bb sb _ eb s2 q2 e2 oM (by rw[hzb];simp) hz2 p1 hp2 i i1 i2 j1 j2
  refine⟨Bb,sb,eb,p1,p2,λi i1 i2=> ?_,λj hj=> ?_,hnf⟩
  .obtain⟨hB,hn⟩:=hnf i i1 i2;rw[hfr.cl hB hn,hfr.fz hB];exact p3 i i1 i2
  .obtain⟨v,hv1,hv2⟩:=p4 j hj;obtain⟨hB,hn⟩:=hnf (sb+j) (by omega) (by omega);refine⟨v,by rw[hfr.cl hB hn];exact hv1,?_⟩;rw[aDZ hkb hj] at hv2;exact hv2
 have apart:∀b kb Bb sb qb eb,b<h.length->cs[b]? =some .m7->h[b]? =some kb->π b=some (Bb,sb,qb,eb)->Bb=B->∀i,sb<=i->i<eb->s<=i->i<e->False:=λb kb Bb sb qb eb oo hc hkb hpb hBB i i1 i2 i3 i4=>by
  obtain⟨B1,s1,e1,q1,_,_,_,q5⟩:=kept b kb oo hc hkb;rw[hpb] at q1;cases q1;obtain⟨hB,hn⟩:=q5 i i1 i2;rcases hpl with hpl| ⟨b2,s2,q2,e2,Fj,hc2,hp2,j1,j2⟩
  .omega
  .apply hn
   rw[hBB];exact⟨b2,s2,q2,e2,Fj,by unfold Tl;rw[hc2];simp,hp2,by omega,by omega⟩
 refine⟨AJ π h.length (B,s,af.size k,e),v,rfl,hx,hv _ hx ayO,⟨ham,λb B1 s1 q1 e1 hz hp BN=> ?_,λb n hz=> ?_,λb b' B1 s1 q1 e1 s2 q2 e2 oM hz uN hp uW i i1 i2 i3 i4=> ?_⟩,hfr,λb hb=> ?_,λb B1 s1 q1 e1 a4f hb hB i i1 i2=> ?_⟩
 .rcases live b hz with rfl| ⟨oo,hc,kb,hkb,_⟩
  .rw[ayO] at hp;cases hp;exact hlb BN
  .rw[agY b (by omega)] at hp;exact hH.lb b B1 s1 q1 e1 (by rw[QJ,hkb];simp) hp BN
 .rcases live b (by rw[hz];simp) with rfl| ⟨oo,hc,kb,hkb,hgb⟩
  .rw[aaw a1Z] at hz;cases hz;refine⟨B,s,e,ayO,hle,qJ,λj hj=> ?_⟩;obtain⟨v,hv1,hv2⟩:=hk j hj;refine⟨v,hv1,?_⟩;rw[agV a1Z hj];exact CV.dR hx _ _ hv2
  .rw[aaw hgb] at hz;cases hz;obtain⟨Bb,sb,eb,p1,p2,p3,p4,_⟩:=kept b kb oo hc hkb;refine⟨Bb,sb,eb,by rw[agY b (by omega)];exact p1,p2,p3,λj hj=> ?_⟩;obtain⟨v,hv1,hv2⟩:=p4 j hj;refine⟨v,hv1,?_⟩;rw[agV hgb hj];exact CV.dR hx _ _ hv2
 .rcases live b hz with rfl| ⟨oo,hc,kb,hkb,_⟩
  .rcases live b' uN with rfl| ⟨a10,hc',kb',aZp,_⟩
   .exact oM rfl
   .rw[ayO] at hp;cases hp;rw[agY b' (by omega)] at uW;exact apart b' kb' _ _ _ _ a10 hc' aZp uW rfl i i3 i4 i1 i2
  .rw[agY b (by omega)] at hp;rcases live b' uN with rfl| ⟨a10,hc',kb',aZp,_⟩
   .rw[ayO] at uW;cases uW;exact apart b kb _ _ _ _ oo hc hkb hp rfl i i1 i2 i3 i4
   .rw[agY b' (by omega)] at uW;have hz1:hZ (h.map some) b≠none:=by rw[QJ,hkb];simp
    have hz2:hZ (h.map some) b'≠none:=by rw[QJ,aZp];simp
    exact hH.dj b b' B1 s1 q1 e1 s2 q2 e2 oM hz1 hz2 hp uW i i1 i2 i3 i4
 .show b<h.length+1;by_cases e:b=h.length
  .omega
  .rw[agY b e] at hb;have:=ky b hb;omega
 .by_cases e':b=h.length
  .subst e';rw[ayO] at hb;cases hb;rcases hpl with hpl| ⟨b2,s2,q2,e2,Fj,hc2,hp2,j1,j2⟩
   .omega
   .exact⟨b2,s2,q2,e2,Fj,by unfold Tl;rw[hc2];simp,hp2,by omega,by omega⟩
  .rw[agY b e'] at hb;have:=ky b (by rw[hb];simp);omega
end Go.Ab
