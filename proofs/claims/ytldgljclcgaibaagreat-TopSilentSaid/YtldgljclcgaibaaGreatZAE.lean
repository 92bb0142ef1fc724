/-
  Parts of the proof: AbW AbY AbZ AbNil AbPg AbLaw AbInv PI Tot TPw THb Bits VBits Bits4 PK SLA
-/
import Derived.Test.YtldgljclcgaibaaGreatZAD
import Derived.Deep.Slices
import Derived.Laws.Externs
import Derived.Test.YtldgljclcgaibaaGreatRows
open Nat renaming beq→ww,ble→wd
open Int renaming ofNat→wl
open Sum renaming elim→t8
set_option linter.all false
namespace Go.Ab
variable [ax]
open Go.ChangeShapes Go.WideShapes Go.Deep
inductive K where
 |b
 |i (k:IntKind)
 |s
 |u
 |q
def K.has:K->FV->Prop
 |.b,.b _=>True
 |.i k,.i k' n=>k'=k/\k.has n
 |.s,.s _=>True
 |.u,.u=>True
 |.q,.q n _=>n<=maxLen
 |_,_=>False
def K.nQ:K->Nat->cP->Prop
 |.b,_,.b _=>True
 |.i k,n,.i k' g=>k'=k/\∀j,j<n->k.has (g j)
 |.s,_,.s _=>True
 |.u,_,.u=>True
 |.q,n,.q g _=>∀j,j<n->g j<=maxLen
 |_,_,_=>False
def TR {α:Type}:Nat->List α->List α
 |0,_=>[]
 |n+1,l=>l++TR n l
def akP (P:Program)(g:TypeId->Option (List K)):List Field->List K->Option (List K)
 | [],acc=>some acc
 |f::fs,acc=>match g f.type with
  |some ks=>match ww f.offset acc.length&&ww (P.cellsOf f.type) ks.length with
   |true=>akP P g fs (acc++ks)
   |false=>none
  |none=>none
def Lf (P:Program):Nat->TypeId->Option (List K)
 |0,_=>none
 |d+1,t=>match P.underlying t with
  |some .bool=>some [.b]
  |some (.int k)=>some [.i k]
  |some .string=>some [.s]
  |some (.struct fs)=>match akP P (Lf P d) fs.toList [] with
   |some ks=>match ww (P.cellsOf t) ks.length with
    |true=>some ks
    |false=>none
   |none=>none
  |some (.array n e)=>match Lf P d e with
   |some ks=>match ww (P.cellsOf e) ks.length&&ww (P.cellsOf t) (n*ks.length) with
    |true=>some (TR n ks)
    |false=>none
   |none=>none
  |some (.slice e)=>match P.underlying e with
   |some .bool=>match ww (P.cellsOf e) 1 with
    |true=>some [.q]
    |false=>some [.u]
   |_=>some [.u]
  |_=>none
section
variable {H:Type} {enc:TypeId×Value->H} {P:Program} {W:World} {base:Nat} {spare:Nat->Bool} {held:Bool}
theorem aul {ks ks':List K}{cs RZ:List Value}(h:∃fs,bj K.has ks fs/\bj FV.rel fs cs)(h':∃fs,bj K.has ks' fs/\bj FV.rel fs RZ):∃fs,bj K.has (ks++ks') fs/\bj FV.rel fs (cs++RZ):=by
 obtain⟨fs,a,b⟩:=h;obtain⟨fs',a',b'⟩:=h';exact⟨fs++fs',a.append a',b.append b'⟩
theorem apN {d:Nat}(ih:∀{t:TypeId} {ks:List K} {fuel:Nat} {cs:List Value} {x:DataW H×List MemPlace},Lf P d t=some ks->DataW.trod enc P W base spare held fuel t cs=some x->∃fs,bj K.has ks fs/\bj FV.rel fs cs){n:Nat}{cs:List Value}:
  ∀{l:List Field} {acc ks:List K},akP P (Lf P d) l acc=some ks->(∀f∈l,∃y,DataW.trod enc P W base spare held n f.type ((cs.drop f.offset).take (P.cellsOf f.type))=some y)->acc.length<=cs.length->
   (∃fs,bj K.has acc fs/\bj FV.rel fs (cs.take acc.length))->ks.length<=cs.length/\∃fs,bj K.has ks fs/\bj FV.rel fs (cs.take ks.length)
 | [],acc,ks,h,_,hl,ha=>by
  simp only[akP] at h;cases h;exact⟨hl,ha⟩
 |f::l,acc,ks,h,hf,hl,ha=>by
  simp only[akP] at h;split at h
  .rename_i kf hk
   split at h
   .rename_i hc
    simp only[cy] at hc;have e1:=oZ hc.1;have e2:=oZ hc.2;obtain⟨y,hy⟩:=hf f (by simp);obtain⟨fs,f1,f2⟩:=ih hk hy
    have hlen:kf.length=min (P.cellsOf f.type) (cs.length-f.offset):=by
     have h1:=f1.length;have h2:=f2.length;simp at h2
     omega
    have hle:acc.length+kf.length<=cs.length:=by omega
    refine apN ih h (λf' hf'=>hf f' (by simp[hf'])) (by simp;omega) ?_;have:=aul ha ⟨fs,f1,f2⟩;rw[aw5,List.take_add];rw[e1,e2] at this;exact this
   .cases h
  .cases h
omit [ax] in
theorem Us {α:Type}(l:List α):∀n,(TR n l).length=n*l.length
 |0=>by simp[TR]
 |n+1=>by simp[TR,Us l n,asa,Nat.add_comm]
omit [ax] in
theorem ahR {α:Type}(l:List α):∀n,TR (n+1) l=TR n l++l
 |0=>by simp[TR]
 |n+1=>by
  have h:=ahR l n;show l++TR (n+1) l=TR (n+1) l++l;rw[h,<-aw6,<-h];rfl
theorem Lg (hA:∀B i v,cl W B i=some v->ax.fs B i=some v)(hsp:∀b,spare b=true):∀{d:Nat} {t:TypeId} {ks:List K} {fuel:Nat} {cs:List Value} {x:DataW H×List MemPlace},Lf P d t=some ks->DataW.trod enc P W base spare held fuel t cs=some x->∃fs,bj K.has ks fs/\bj FV.rel fs cs
 |0,_,_,_,_,_,h,_=>by cases h
 |d+1,t,ks,fuel,cs,x,h,hx=>by
  simp only[Lf] at h;split at h
  .rename_i hu
   cases h;obtain⟨b,rfl,_⟩:=DataW.trod_bool hu hx;exact⟨[.b b],⟨trivial,trivial⟩,rfl,trivial⟩
  .rename_i k hu
   cases h;obtain⟨n,rfl,_,hw⟩:=DataW.trod_int hu hx;refine⟨[.i k n],⟨⟨rfl,?_⟩,trivial⟩,rfl,trivial⟩;simp only[Lit.wf,cy,lY] at hw;exact hw
  .rename_i hu
   cases h;obtain⟨s,rfl,_⟩:=DataW.trod_string hu hx;exact⟨[.s s],⟨trivial,trivial⟩,rfl,trivial⟩
  .rename_i fs hu
   split at h
   .rename_i ks' hks
    split at h
    .rename_i hc
     cases h;have hc:=oZ hc;obtain⟨xs,n,_,_,hl,_,hf⟩:=DataW.trod_struct hu hx
     obtain⟨_,r⟩:=apN (λh h'=>Lg hA hsp h h') hks (n:=n) (cs:=cs) (λf hf'=>by
      obtain⟨i,hi⟩:=List.getElem?_of_mem hf';have:=hf i f (by rw[<-Vh];exact hi)
      have hi':i<xs.length:=by
       have h1:=(lX.1 hi).1;simp at h1;omega
      rw[kE hi'] at this;exact⟨_,this⟩) (Nat.zero_le _) ⟨[],trivial,by simp;trivial⟩
     rw[<-hc,<-hl,List.take_length] at r;exact r
    .cases h
   .cases h
  .rename_i n e hu
   split at h
   .rename_i ks' hks
    split at h
    .rename_i hc
     cases h;simp only[cy] at hc;have e1:=oZ hc.1;have e2:=oZ hc.2;obtain⟨xs,m,_,_,hl,hn,hf⟩:=DataW.trod_array hu hx
     have key:∀j,j<=n->∃fs,bj K.has (TR j ks') fs/\bj FV.rel fs (cs.take (j*ks'.length)):=by
      intro j;induction j with
      |zero=>intro _;exact⟨[],trivial,by simp;trivial⟩
      |succ j ihj=>
       intro hj;have hj':j<xs.length:=by omega
       have:=hf j (by omega);rw[kE hj'] at this;rw[ahR,asa,List.take_add];have h2:=Lg hA hsp hks this;rw[e1] at h2;exact aul (ihj (by omega)) h2
     have:=key n (eO _);rw[<-e2,<-hl,List.take_length] at this;exact this
    .cases h
   .cases h
  .rename_i e hu
   have un:∃fs,bj K.has [.u] fs/\bj FV.rel fs cs:=by
    rcases open_slice hu hx with⟨rfl,_⟩| ⟨a',aSr,a0c,m,n,D,Pl,rfl,_⟩
    .exact⟨[.u],⟨trivial,trivial⟩,rfl,trivial⟩
    .exact⟨[.u],⟨trivial,trivial⟩,rfl,trivial⟩
   split at h
   .rename_i hb
    split at h
    .rename_i hc
     cases h;have hc:=oZ hc;rcases open_slice1 hu hc hx with⟨rfl,_⟩| ⟨a',aSr,a0c,m,n,V,D,Pl,rfl,_,hle,a0d,hm,_,hi⟩
     .exact⟨[.q 0 λ_=>false],⟨Nat.zero_le _,trivial⟩,.inl ⟨rfl,none,rfl⟩,trivial⟩
     .rw[hsp,if_pos rfl] at hm;subst hm;obtain⟨B,s,sp⟩:=a';refine⟨[.q aSr λj=>match V j with|.bool b=>b|_=>false],⟨bZ hle a0d,trivial⟩,?_,trivial⟩;rcases aaP m with z|z
      .subst z;have:aSr=0:=by omega
       subst this;exact .inl ⟨rfl,_,rfl⟩
      .have h0:=(hi 0 z).1
       have hs:sp=none:=by
        have e0:Addr.add ⟨B,s,sp⟩ 0=⟨B,s,sp⟩:=rfl;rw[e0] at h0;unfold World.cell? at h0;simp only at h0;split at h0
        .cases sp with
         |none=>rfl
         |some q=>simp at h0
        .cases h0
       subst hs;refine .inr ⟨B,s,m,hle,rfl,λj hj=> ?_⟩;obtain⟨h1,h2⟩:=hi j (by omega);obtain⟨b,ED,_⟩:=DataW.trod_bool hb h2;have hV:V j=.bool b:=by simpa using ED
       rw[nu,hV] at h1;rw[hA B (s+j) (.bool b) h1];simp only[hV]
    .cases h;exact un
   .cases h;exact un
  .cases h
theorem aQL {ks:List K}{fs:List FV}{cs:List Value}(h1:bj K.has ks fs)(h2:bj FV.rel fs cs){j:Nat}{k:K}(hk:ks[j]? =some k):∃f v,cs[j]? =some v/\k.has f/\f.rel v:=by
 obtain⟨f,hf,r1⟩:=h1.get hk;obtain⟨v,hv,r2⟩:=h2.get hf;exact⟨f,v,hv,r1,r2⟩
def FV.toN:FV->Nat
 |.q n _=>n
 |_=>0
def FV.toG:FV->Nat->Bool
 |.q _ g=>g
 |_=>λ_=>false
def K.mk:K->(Nat->FV)->cP
 |.b,f=>.b λj=>(f j).toB
 |.i k,f=>.i k λj=>(f j).toI
 |.s,f=>.s λj=>(f j).toS
 |.u,_=>.u
 |.q,f=>.q (λj=>(f j).toN) λj=>(f j).toG
omit [ax] in
theorem K.aXh {k:K}{f:Nat->FV}{j:Nat}(h:k.has (f j)):(k.mk f).at j=f j:=by
 cases k<;>simp only[K.mk,cP.at]<;>revert h<;>cases f j<;>intro h<;>first|exact h.elim|rfl|skip
 rw[h.1];rfl
omit [ax] in
theorem K.aJX {k:K}{f:Nat->FV}{n:Nat}(h:∀j,j<n->k.has (f j)):k.nQ n (k.mk f):=by
 cases k<;>simp only[K.mk,K.nQ]
 .refine⟨trivial,λj hj=> ?_⟩;have:=h j hj;revert this
  cases f j<;>intro h<;>first|exact h.elim|skip
  exact h.2
 .intro j hj;have:=h j hj;revert this
  cases f j<;>intro h<;>first|exact h.elim|skip
  exact h
inductive PT where
 |c (k:K)
 |a (n:Nat) (ks:List K)
def axu:List PT->List K
 | []=>[]
 |.c k::l=>k::axu l
 |.a n ks::l=>TR n ks++axu l
def K.beq:K->K->Bool
 |.b,.b=>true
 |.i k,.i k'=>decide (k=k')
 |.s,.s=>true
 |.u,.u=>true
 |.q,.q=>true
 |_,_=>false
omit [ax] in
theorem K.beq_eq {x y:K}(h:x.beq y=true):x=y:=by
 cases x<;>cases y<;>simp only[K.beq] at h<;>first|rfl|cases h|skip
 rw[eF h]
def aSs:List K->List K->Bool
 | [],[]=>true
 |x::l,y::m=>x.beq y&&aSs l m
 |_,_=>false
omit [ax] in
theorem aNc:∀{l m:List K},aSs l m=true->l=m
 | [],[],_=>rfl
 |x::l,y::m,h=>by
  simp only[aSs,cy] at h;rw[K.beq_eq h.1,aNc h.2]
 | [],_::_,h=>by cases h
 |_::_,[],h=>by cases h
def aJY:List Tm->List K->List PT
 | [],_=>[]
 |.c::l,k::ks=>.c k::aJY l ks
 |.c::_,[]=>[]
 |.a n z::l,ks=>.a n (ks.take z)::aJY l (ks.drop (n*z))
inductive Prm where
 |flat (agg:Bool) (pt:List PT)
 |sl (ks:List K)
inductive DC where
 |c (f:FV)
 |a (cols:List cP)
inductive Dat where
 |flat (l:List DC)
 |sl (n:Nat) (cols:List cP)
def azh:PT->DC->Prop
 |.c k,.c f=>k.has f
 |.a n ks,.a cols=>bj (λk c=>K.nQ k n c) ks cols
 |_,_=>False
def Fit:Prm->Dat->Prop
 |.flat _ pt,.flat l=>bj azh pt l
 |.sl ks,.sl n cols=>n<=maxLen/\bj (λk c=>K.nQ k n c) ks cols
 |_,_=>False
def sgs:List PT->List DC->af
 |.c _::pt,.c f::l=>.c (.f f)::sgs pt l
 |.a n _::pt,.a cols::l=>.a (.l n) cols::sgs pt l
 |_,_=>[]
def aXi:Bool->af->AV
 |true,b=>.r (.agg b)
 |false,.c v::_=>.r (.c v)
 |false,_=>.Vk
def aJZ:List Prm->List Dat->List AV
 |.flat a pt::ps,.flat l::ds=>aXi a (sgs pt l)::aJZ ps ds
 |.sl ks::ps,.sl n cols::ds=>.r (.c (.fs n ks.length cols))::aJZ ps ds
 |_,_=>[]
def aEg (ps:List Prm)(ds:List Dat):Prop:=bj Fit ps ds
def aNd (P:Program)(t:TypeId):Option Prm:=
 match P.underlying t with
 |some (.slice e)=>match Lf P 30 e with
  |some ks=>match ww (P.cellsOf e) ks.length&&wd 1 ks.length with
   |true=>some (.sl ks)
   |false=>none
  |none=>none
 |_=>match ac3 P t,Lf P 30 t with
  |some true,some ks=>match aSs (axu (aJY (akw P 30 t) ks)) ks with
   |true=>some (.flat true (aJY (akw P 30 t) ks))
   |false=>none
  |some false,some [k]=>some (.flat false [.c k])
  |_,_=>none
def aJ0 (P:Program):List TypeId->Option (List Prm)
 | []=>some []
 |t::ts=>match aNd P t,aJ0 P ts with
  |some p,some ps=>some (p::ps)
  |_,_=>none
theorem aTf {n:Nat}{ks:List K}{fs:List FV}{cs:List Value}(h1:bj K.has (TR n ks) fs)(h2:bj FV.rel fs cs):
  ∃cols,bj (λk c=>K.nQ k n c) ks cols/\∀j,j<n*ks.length->∃v,cs[j]? =some v/\(iP cols j).rel (λ_=>none) v:=by
 have hl:=h1.length;rw[Us] at hl
 have akG:∀i j k,i<n->ks[j]? =some k->∃f,fs[i*ks.length+j]? =some f/\k.has f:=λi j k hi hj=>by
  have hjl:=(lX.1 hj).1
  have key:∀m i,i<m->(TR m ks)[i*ks.length+j]? =some k:=by
   intro m;induction m with
   |zero=>intro i hi;omega
   |succ m ih=>
    intro i hi;rw[TR];cases i with
    |zero=>rw[RY,gW,TO hjl];exact hj
    |succ i=>
     rw[ac1 (by rw[asa];omega),show(i+1)*ks.length+j-ks.length=i*ks.length+j by rw[asa];omega];exact ih i (by omega)
  obtain⟨f,hf,hh⟩:=h1.get (key n i hi);exact⟨f,hf,hh⟩
 refine⟨ks.zipIdx.map λp=>p.1.mk λi=>fs.getD (i*ks.length+p.2) .u,?_,λj hj=> ?_⟩
 .refine bj.afs (by simp) λj k c hk hc=> ?_;simp only[BA,aDj,hk,RX,jY] at hc;subst hc;refine K.aJX λi hi=> ?_;obtain⟨f,hf,hh⟩:=akG i j k hi hk;simp only[gW,List.getD,hf,KY];exact hh
 .have aDA:0<ks.length:=by
   rcases aaP ks.length with h|h
   .rw[h] at hj;omega
   .exact h
  have hm:=Nat.mod_lt j aDA;have hq:j/ks.length<n:=(aw3 aDA).2 hj;have hk:ks[j%ks.length]? =some (ks[j%ks.length]'hm):=kE _;obtain⟨f,hf,hh⟩:=akG (j/ks.length) (j%ks.length) _ hq hk;have hd:=Uq j ks.length;rw[hd] at hf;obtain⟨v,hv,hr⟩:=h2.get hf;refine⟨v,hv,?_⟩;unfold iP;simp only[afb,List.length_zipIdx,BA,aDj,hk,RX,gW];have e:fs.getD (j/ks.length*ks.length+j%ks.length) .u=f:=by rw[hd];simp[List.getD,hf]
  rw[K.aXh (f:=λi=>fs.getD (i*ks.length+j%ks.length) .u) (j:=j/ks.length) (by rw[e];exact hh)];show FV.rel _ v;rw[e];exact hr
omit [ax] in
theorem azi {α β:Type}{R:α->β->Prop}:∀{l l':List α} {m:List β},bj R (l++l') m->bj R l (m.take l.length)/\bj R l' (m.drop l.length)
 | [],l',m,h=>⟨by simp;trivial,by simpa using h⟩
 |a::l,l',[],h=>h.elim
 |a::l,l',b::m,h=>by
  obtain⟨h1,h2⟩:=h;have:=azi (l:=l) (l':=l') (m:=m) h2;exact⟨⟨h1,this.1⟩,this.2⟩
theorem a05 {π π':Pi}{c:CV}{v:Value}(hc:∃x,c=.f x)(h:c.rel π v):c.rel π' v:=by
 obtain⟨x,rfl⟩:=hc;exact h
theorem axv:∀{pt:List PT} {fs:List FV} {cs:List Value},bj K.has (axu pt) fs->bj FV.rel fs cs->∃l,bj azh pt l/\∀π,bj (CV.rel π) (af.list (sgs pt l)) cs
 | [],[],[],_,_=>⟨[],trivial,λ_=>trivial⟩
 | [],_::_,_,h,_=>h.elim
 | [],[],_::_,_,h=>h.elim
 |.c k::pt,[],_,h,_=>h.elim
 |.c k::pt,f::fs,[],_,h=>h.elim
 |.c k::pt,f::fs,v::cs,h1,h2=>by
  obtain⟨l,a,b⟩:=axv h1.2 h2.2;refine⟨.c f::l,⟨h1.1,a⟩,λπ=> ?_⟩;rw[sgs,aDM];exact⟨h2.1,b π⟩
 |.a n ks::pt,fs,cs,h1,h2=>by
  obtain⟨p1,p2⟩:=azi (l:=TR n ks) (l':=axu pt) h1;rw[Us] at p1 p2;have h3:=h2.take (n*ks.length);have h4:=h2.drop (n*ks.length);obtain⟨cols,c1,c2⟩:=aTf p1 h3;obtain⟨l,a,b⟩:=axv p2 h4;have DE:=c1.length;have hlen:=h1.length;rw[axu,aw5,Us] at hlen;have a3E:=h2.length;refine⟨.a cols::l,⟨c1,a⟩,λπ=> ?_⟩;rw[sgs];obtain⟨l1,l2⟩:=jm (b π);rw[ar8] at l1;refine xP ?_ λj hj=> ?_
  .rw[af.size_cons,Sg.lU,Sz.val,<-DE];omega
  .rw[af.size_cons] at hj;have hs:(Sg.a (.l n) cols).size=n*ks.length:=by rw[Sg.lU,Sz.val,<-DE]
   by_cases lZ:j<n*ks.length
   .obtain⟨v,hv,hr⟩:=c2 j lZ;rw[aaQ,if_pos lZ] at hv;refine⟨v,hv,?_⟩;rw[af.dR (by rw[hs];exact lZ),Sg.o8];exact a05 (aCy cols j) hr
   .obtain⟨v,hv,hr⟩:=l2 (j-n*ks.length) (by rw[hs] at hj;omega);rw[RW,show n*ks.length+(j-n*ks.length)=j by omega] at hv;refine⟨v,hv,?_⟩;rw[af.lx (by rw[hs];omega),hs];exact hr
theorem aNe (hA:∀B i v,cl W B i=some v->ax.fs B i=some v){t e:TypeId}{ks:List K}(hu:P.underlying t=some (.slice e))(hk:Lf P 30 e=some ks)(hc:P.cellsOf e=ks.length)(h1k:1<=ks.length){v:Value}{d:DataW H}{ps:List MemPlace}
  (h:DataW.Trod enc P W 0 (λ_=>true) true t v d ps)(hv:Value.okWide P W .any base t v):
  ∃n cols,Fit (.sl ks) (.sl n cols)/\∀π:Pi,(AV.r (.c (.fs n ks.length cols))).rel π v:=by
 obtain⟨fuel,h⟩:=h;obtain⟨a,len,cap,rfl⟩:=okWide_slice hu hv
 have zero:∃cols,bj (λk c=>K.nQ k 0 c) ks cols:=⟨ks.map λk=>k.mk λ_=>.u,bj.afs (by simp) λi k c hk hc=>by
  simp only[BA,hk,RX,jY] at hc;subst hc;exact K.aJX λj hj=>by omega⟩
 rcases open_slice hu h with⟨h0,_⟩| ⟨a',aSr,a0c,m,n,D,Pl,h0,_,hle,a0d,hm,hx,hi⟩
 .simp[Value.cells] at h0
  obtain⟨rfl,rfl,rfl⟩:=h0;obtain⟨cols,aXj⟩:=zero;exact⟨0,cols,⟨Nat.zero_le _,aXj⟩,λπ=>⟨aXj.length.symm,.inl ⟨rfl,none,rfl⟩⟩⟩
 .simp[Value.cells] at h0
  obtain⟨rfl,rfl,rfl⟩:=h0
  have aXk:a'.spot=none:=by
   have hv:Cell.okWide P W .any base t (.slice (some a') len cap):=by
    unfold Value.okWide at hv;rw[hu] at hv;exact hv
   have hv:Cell.ok P W .any base t (.slice (some a') len cap):=by
    unfold Cell.okWide at hv;rw[hu] at hv;exact hv
   unfold Cell.ok at hv;rw[hu] at hv;exact hv.2.2.2.1
  obtain⟨B,s,sp⟩:=a';simp only at aXk;subst aXk;simp only[lT] at hm;subst hm;have hw:ks.length=P.cellsOf e:=hc.symm
  have cell:∀i j k,i<len->ks[j]? =some k->∃f v,cl W B (s+(i*ks.length+j))=some v/\k.has f/\f.rel v:=λi j k hil hj=>by
   obtain⟨RZ,h1,h2⟩:=hi i (by omega);obtain⟨fs,f1,f2⟩:=Lg hA (λ_=>rfl) hk h2;obtain⟨f,v,e1,e2,e3⟩:=aQL f1 f2 hj;obtain⟨_,_,h3⟩:=World.cells?_some h1;have hjl:=(lX.1 hj).1;have:=h3 j (by omega);rw[nu,nu,e1] at this;exact⟨f,v,by unfold cl;rw[hw,<-BB];exact this,e2,e3⟩
  have hdiv:∀j,j<len*ks.length->j/ks.length<len/\j%ks.length<ks.length/\j/ks.length*ks.length+j%ks.length=j:=λj hj=>by
   refine⟨(aw3 (by omega)).2 hj,Nat.mod_lt _ (by omega),Uq _ _⟩
  have pick:∀j,∃f,j<len*ks.length->∃v k,cl W B (s+j)=some v/\ks[j%ks.length]? =some k/\k.has f/\f.rel v:=λj=>by
   rcases o7 j (len*ks.length) with hj|hj
   .obtain⟨d1,d2,d3⟩:=hdiv j hj;have hkj:ks[j%ks.length]? =some (ks[j%ks.length]'d2):=kE _;obtain⟨f,v,e1,e2,e3⟩:=cell _ _ _ d1 hkj;rw[d3] at e1;exact⟨f,λ_=>⟨v,_,e1,hkj,e2,e3⟩⟩
   .exact⟨.u,λh=>by omega⟩
  obtain⟨g,hg⟩:=Classical.axiomOfChoice pick
  have hgk:∀(i j:Nat) (k:K),i<len->ks[j]? =some k->k.has (g (i*ks.length+j)):=λi j k hil hj=>by
   have hjl:=(lX.1 hj).1
   have nR:i*ks.length+j<len*ks.length:=by
    have:=vV ks.length (show i+1<=len from hil);rw[asa] at this;omega
   obtain⟨v,k',_,h2,h3,_⟩:=hg _ nR;rw[aaU,ar9,aw7 hjl,hj] at h2;cases h2;exact h3
  refine⟨len,ks.zipIdx.map λp=>p.1.mk λi=>g (i*ks.length+p.2),⟨by omega,bj.afs (by simp) λj k c KO hc'=> ?_⟩,λπ=>⟨by simp,.inr ⟨B,s,m,hle,rfl,λj hj=> ?_⟩⟩⟩
  .simp only[BA,aDj,KO,RX,jY] at hc';subst hc';exact K.aJX λi hi=>by simpa using hgk i j k hi KO
  .obtain⟨d1,d2,d3⟩:=hdiv j hj;obtain⟨v,k',h1,KO,hh,h2⟩:=hg j hj;refine⟨g j,v,?_,hA _ _ _ h1,h2⟩;unfold iP;simp only[afb,List.length_zipIdx,BA,aDj,KO,RX,gW];rw[K.aXh (f:=λi=>g (i*ks.length+j%ks.length)) (j:=j/ks.length) (by rw[d3];exact hh)];show CV.f (g (j/ks.length*ks.length+j%ks.length))=_;rw[d3]
theorem aQM (hA:∀B i v,cl W B i=some v->ax.fs B i=some v){t:TypeId}{ag:Bool}{pt:List PT}(hns:∀e,P.underlying t≠some (.slice e))(hp:aNd P t=some (.flat ag pt)){v:Value}{d:DataW H}{ps:List MemPlace}
  (h:DataW.Trod enc P W 0 (λ_=>true) true t v d ps)(hv:Value.okWide P W .any base t v):∃l,Fit (.flat ag pt) (.flat l)/\∀π,(aXi ag (sgs pt l)).rel π v:=by
 obtain⟨fuel,h⟩:=h;unfold aNd at hp;split at hp
 .rename_i e hu;exact absurd hu (hns e)
 .split at hp
  .rename_i ks ha hk
   split at hp
   .rename_i heq
    cases hp;have heq:=aNc heq;obtain⟨fs,f1,f2⟩:=Lg hA (λ_=>rfl) hk h;rw[<-heq] at f1;obtain⟨l,l1,l2⟩:=axv f1 f2
    have aSn:∃cs,v=.agg cs:=by
     unfold Value.okWide at hv;unfold ac3 at ha;split at ha
     .rename_i hu;rw[hu] at hv;obtain⟨cs,h,_⟩:=hv;exact⟨cs,h⟩
     .rename_i hu;rw[hu] at hv;obtain⟨cs,h,_⟩:=hv;exact⟨cs,h⟩
     .cases ha
     .cases ha
    obtain⟨cs,rfl⟩:=aSn;exact⟨l,l1,λπ=>⟨cs,rfl,l2 π⟩⟩
   .cases hp
  .rename_i k ha hk
   cases hp;obtain⟨fs,f1,f2⟩:=Lg hA (λ_=>rfl) hk h
   have aMY:v.cells.toList=[v]∨∃cs,v=.agg cs:=by
    cases v<;>first|exact .inl rfl|exact .inr ⟨_,rfl⟩
   have aMY:v.cells.toList=[v]:=by
    rcases aMY with h| ⟨cs,rfl⟩
    .exact h
    .exfalso
     have hc:Cell.okWide P W .any base t (.agg cs):=by
      unfold Value.okWide at hv;unfold ac3 at ha;split at ha<;>first|(cases ha;done)|skip
      rename_i u hu1 hu2 hu
      rw[hu] at hv;split at hv
      .rename_i hh;cases hh;exact absurd rfl (hu1 _)
      .rename_i hh;cases hh;exact absurd rfl (hu2 _ _)
      .exact hv
     unfold Cell.okWide at hc;revert hc
     have hkk:P.underlying t=some .bool∨(∃k,P.underlying t=some (.int k))∨P.underlying t=some .string:=by
      unfold ac3 at ha;unfold Lf at hk;split at hk
      .rename_i hu;exact .inl hu
      .rename_i k hu;exact .inr (.inl ⟨k,hu⟩)
      .rename_i hu;exact .inr (.inr hu)
      .rename_i hu;rw[hu] at ha;cases ha
      .rename_i hu;rw[hu] at ha;cases ha
      .rename_i hu;exact absurd hu (hns _)
      .cases hk
     rcases hkk with hu| ⟨k,hu⟩|hu<;>rw[hu]<;>intro hc<;>simp only[Cell.ok,hu] at hc
   rw[aMY] at f2;match fs,f1,f2 with
   | [f],⟨f1,_⟩,⟨f2,_⟩=>exact⟨[.c f],⟨f1,trivial⟩,λπ=>f2⟩
  .cases hp
theorem aEh (hA:∀B i v,cl W B i=some v->ax.fs B i=some v):∀{ts:List TypeId} {pr:List Prm} {vs:List Value} {dd:List (DataW H)} {ps:List MemPlace},aJ0 P ts=some pr->(∀(j:Nat) t v,ts[j]? =some t->vs[j]? =some v->Value.okWide P W .any base t v)->
  DataW.TrodAll enc P W 0 (λ_=>true) true ts vs dd ps->∃ds,aEg pr ds/\∀π,bj (AV.rel π) (aJZ pr ds) vs
 | [],pr,vs,dd,ps,hp,_,h=>by
  cases hp;obtain⟨rfl,rfl,rfl⟩:=trodAll_nil h;exact⟨[],trivial,λ_=>trivial⟩
 |t::ts,pr,vs,dd,ps,hp,hv,h=>by
  obtain⟨v,vs1,d,ds1,p1,p2,rfl,rfl,rfl,h3,h4⟩:=trodAll_cons h;simp only[aJ0] at hp;split at hp
  .rename_i p pr' GJ hp2
   cases hp;have hv0:=hv 0 t v rfl rfl;obtain⟨ds,f1,g1⟩:=aEh hA hp2 (λj t v hj hv'=>hv (j+1) t v (by simpa using hj) (by simpa using hv')) h4;cases p with
   |flat ag pt=>
    have hns:∀e,P.underlying t≠some (.slice e):=λe hu=>by
     unfold aNd at GJ;rw[hu] at GJ;simp only at GJ;split at GJ
     .split at GJ<;>cases GJ
     .cases GJ
    obtain⟨l,l1,l2⟩:=aQM hA hns GJ h3 hv0;exact⟨.flat l::ds,⟨l1,f1⟩,λπ=>⟨l2 π,g1 π⟩⟩
   |sl ks=>
    obtain⟨e,hu,hk,hc,h1k⟩:∃e,P.underlying t=some (.slice e)/\Lf P 30 e=some ks/\P.cellsOf e=ks.length/\1<=ks.length:=by
     unfold aNd at GJ;split at GJ
     .rename_i e hu
      split at GJ
      .rename_i ks' hk
       split at GJ
       .rename_i hc
        cases GJ;simp only[cy,beq_iff,fA] at hc;exact⟨e,hu,hk,hc.1,hc.2⟩
       .cases GJ
      .cases GJ
     .split at GJ
      .split at GJ<;>cases GJ
      .cases GJ
      .cases GJ
    obtain⟨n,cols,q1,q2⟩:=aNe hA hu hk hc h1k h3 hv0;exact⟨.sl n cols::ds,⟨q1,f1⟩,λπ=>⟨q2 π,g1 π⟩⟩
  .cases hp
def aXl (F:Ey)(ps:List Prm):Prop:=∀ds,aEg ps ds->∃news,(F (aJZ ps ds) []).eval=some ⟨.r (.c (.f (.b true))),[],news⟩
abbrev aQN (W:World):ax:=⟨W.heap.size,λB i=>cl W B i⟩
omit [ax] in
theorem aTg (W:World): @Aw (aQN W) W:=by
 letI:=aQN W
 refine⟨eO _,λB i hB=> ?_,λB i v h=>⟨aaY (by rw[show cl W B i=some v from h];rfl),h⟩⟩;have hB:W.heap.size<=B:=hB;simp only[fz,World.frozen?,ar7 hB]
end
section
variable {H:Type} {enc:TypeId×Value->H} {P:Program} {W:World} {base:Nat}
omit [ax] in
theorem aQO {f:FuncId}{F:Ey}(S:∀[ax],Sound P f F)(hc:FG P f=true){ts:List TypeId}{pr:List Prm}(hp:aJ0 P ts=some pr)(hF:aXl F pr){args:Array Value}{dd:List (DataW H)}{ps:List MemPlace}
  (aD4:∀(j:Nat) t v,ts[j]? =some t->args[j]? =some v->Value.okWide P W .any base t v)(ht:DataW.TrodAll enc P W 0 (λ_=>true) true ts args.toList dd ps):
  Calls P f args W λe W'=>e=.returned (.bool true)/\cg W (λ_ _=>False) W':=by
 letI:=aQN W
 obtain⟨ds,f1,g1⟩:=aEh (λB i v h=>h) hp (λj t v hj hv=>aD4 j t v hj (by simpa using hv)) ht;obtain⟨news,hr⟩:=hF ds f1
 have hH:rW (λ_=>none) (hC (([]:List af).map some)) (hZ (([]:List af).map some)) W:=
  ⟨aTg W,λb B s q e hz=>by simp[hZ] at hz,λb n hn=>by simp[hZ] at hn,λb b' B s q e s' q' e' _ hz=>by simp[hZ] at hz⟩
 have hS:=S _ _ _ hr W (λ_=>none) args (g1 _) hH (λb hb=>absurd rfl hb)
 have hS:Calls P f args W (ti (λ_=>none) W [] ⟨.r (.c (.f (.b true))),[],news⟩):=by
  rcases hS with h| ⟨v,h,_⟩
  .exact h.2
  .rw[Hn hc] at h;cases h
 refine Calls.mono hS ?_;rintro e w' ⟨π',v,rfl,_,hv,_,hF',_,_⟩
 refine⟨cM Ending.returned hv,hF'.mono λB i _ h=> ?_⟩;obtain⟨b,s,q,e,hb,_⟩:=h;cases hb
end
end Go.Ab
namespace Go.Ab
variable [ax]
def azj:Array Value->Sem Value:=λargs=>do
 let(x,y,b)<-Extern.MathBitsCarry.three "Sub64" args
 pure (Extern.MathBitsCarry.pair ((x+Extern.MathBitsCarry.m64-y-b)%Extern.MathBitsCarry.m64) (if x<y+b then 1 else 0))
abbrev aH5 (n:Int):RV:=.c (.f (.i .u64 n))
omit [ax] in
theorem aNf {P:Program}(x y c:Int)(h:c.toNat<=1)(w:World):(add64Entry #[.int .u64 x,.int .u64 y,.int .u64 c]).run P w=
  .ok (.tuple #[.int .u64 (wl ((x.toNat+y.toNat+c.toNat)%18446744073709551616)),.int .u64 (wl ((x.toNat+y.toNat+c.toNat)/18446744073709551616))]) w:=by
 match c,h with
 |.ofNat 0,_=>rfl
 |.ofNat 1,_=>rfl
 |.negSucc n,_=>rfl
 |.ofNat (n+2),h=>exact absurd h (by simp;omega)
omit [ax] in
theorem aNg {P:Program}(x y c:Int)(h:c.toNat<=1)(w:World):(azj #[.int .u64 x,.int .u64 y,.int .u64 c]).run P w=
  .ok (.tuple #[.int .u64 (wl ((x.toNat+18446744073709551616-y.toNat-c.toNat)%18446744073709551616)),.int .u64 (wl (if x.toNat<y.toNat+c.toNat then 1 else 0))]) w:=by
 match c,h with
 |.ofNat 0,_=>rfl
 |.ofNat 1,_=>rfl
 |.negSucc n,_=>rfl
 |.ofNat (n+2),h=>exact absurd h (by simp;omega)
theorem azk {P:Program}{f:FuncId}{fn:Func}{e:Array Value->Sem Value}{A B:Int->Int->Int->Int}(hf:P.funcs[f]? =some fn)(aEi:(fn.name=="runtime.NumGoroutine")=false)
  (hb:fn.body.isNone=true)(hn:Extern.findNext fn=none)(he:Extern.find fn=some e)
  (nZ:∀(x y c:Int) (w:World),c.toNat<=1->(e #[.int .u64 x,.int .u64 y,.int .u64 c]).run P w=.ok (.tuple #[.int .u64 (A x y c),.int .u64 (B x y c)]) w):
  Sound P f λ
   | [.r (.c (.f (.i .u64 x))),.r (.c (.f (.i .u64 y))),.r (.c (.f (.i .u64 c)))],[]=>.test (wd c.toNat 1) (.leaf ⟨.tup [aH5 (A x y c),aH5 (B x y c)],[],[]⟩) .fail
   |_,_=>.fail:=by
 intro args h res tk w π vs lP hH kj;simp only at tk;split at tk
 .rename_i x y c
  simp only[T.eval] at tk;split at tk
  .rename_i hc
   cases tk;right
   obtain⟨l⟩:=vs;match l,lP with
   | [v1,v2,v3],⟨h1,h2,h3,_⟩=>
    have h1:v1=.int .u64 x:=h1;have h2:v2=.int .u64 y:=h2;have h3:v3=.int .u64 c:=h3;subst h1 h2 h3;refine⟨_,by rw[run_callFunc_extern hf aEi hb hn he,nZ x y c w (EA hc)];rfl,π,_,rfl,Ext.refl π,⟨#[_,_],rfl,rfl,rfl,trivial⟩,hH,cg.refl _ _,kj,λb B s q e hb hp=> ?_⟩;exact absurd (kj b (by rw[hp];simp)) (by omega)
  .cases tk
 .cases tk
abbrev aXm (x y c:Int):Int:=wl ((x.toNat+y.toNat+c.toNat)%18446744073709551616)
abbrev aXn (x y c:Int):Int:=wl ((x.toNat+y.toNat+c.toNat)/18446744073709551616)
abbrev aXo (x y c:Int):Int:=wl ((x.toNat+18446744073709551616-y.toNat-c.toNat)%18446744073709551616)
abbrev aXp (x y c:Int):Int:=wl (if x.toNat<y.toNat+c.toNat then 1 else 0)
def aCB (A B:Int->Int->Int->Int):Ey
 | [.r (.c (.f (.i .u64 x))),.r (.c (.f (.i .u64 y))),.r (.c (.f (.i .u64 c)))],[]=>.test (wd c.toNat 1) (.leaf ⟨.tup [aH5 (A x y c),aH5 (B x y c)],[],[]⟩) .fail
 |_,_=>.fail
theorem aJ1 {P:Program}{f:FuncId}{fn:Func}(hf:P.funcs[f]? =some fn)(aEi:(fn.name=="runtime.NumGoroutine")=false)
  (hb:fn.body.isNone=true)(hn:Extern.findNext fn=none)(he:Extern.find fn=some add64Entry):Sound P f (aCB aXm aXn):=
 azk hf aEi hb hn he λx y c w h=>aNf x y c h w
theorem aJ2 {P:Program}{f:FuncId}{fn:Func}(hf:P.funcs[f]? =some fn)(aEi:(fn.name=="runtime.NumGoroutine")=false)
  (hb:fn.body.isNone=true)(hn:Extern.findNext fn=none)(he:Extern.find fn=some azj):Sound P f (aCB aXo aXp):=
 azk hf aEi hb hn he λx y c w h=>aNg x y c h w
end Go.Ab
namespace Go.Ab
theorem aTh {D:Type}(x:Option D)(g:D->o9):(T.opt x λd=>.leaf (g d)).eval=x.map g:=by cases x<;>rfl
abbrev C3:=Int->Int->Int->Option (Int×Int)
def ada (f:C3):Ey:=λargs h=>match args,h with
 | [.r (.c (.f (.i .u64 x))),.r (.c (.f (.i .u64 y))),.r (.c (.f (.i .u64 c)))],[]=>.opt (f x y c) λd=>.leaf ⟨.tup [aH5 d.1,aH5 d.2],[],[]⟩
 |_,_=>.fail
def CD:C3:=λx y c=>cond (wd c.toNat 1) (some (aXm x y c,aXn x y c)) none
def adb:C3:=λx y c=>cond (wd c.toNat 1) (some (aXo x y c,aXp x y c)) none
theorem aH6 [ax]{P:Program}{f:FuncId}{A B:Int->Int->Int->Int}(S:Sound P f (aCB A B)):Sound P f (ada λx y c=>cond (wd c.toNat 1) (some (A x y c,B x y c)) none):=
 S.weaken λargs h r hr=>by
  unfold ada at hr;split at hr
  .rename_i x y c
   rw[aTh] at hr;simp only at hr;refine⟨r,?_,.refl _ _⟩;unfold aCB;simp only[T.eval];cases hc:wd c.toNat 1<;>rw[hc] at hr<;>first|(cases hr;done)|exact hr
  .cases hr
theorem asq {D:Type}(x:Option D)(g:D->T):(T.opt x g).eval=x.bind λd=>(g d).eval:=by cases x<;>rfl
theorem aTi {α β:Type}(q:α->Option β)(b:Bool)(x y:Option α):(cond b x y).bind q=cond b (x.bind q) (y.bind q):=by cases b<;>rfl
def T.sum {A B:Type}(x:A⊕B)(f:A->T)(g:B->T):T:=.test x.isLeft (.opt x.getLeft? f) (.opt x.getRight? g)
theorem aEj {b:Bool}{a:T}{r:o9}(h:(T.test b a .fail).eval=some r):b=true/\a.eval=some r:=by cases b<;>first|(cases h;done)|exact⟨rfl,h⟩
theorem azl {D X ρ σ:Type}{s1:D->(D->Option ρ)->(X->Option ρ)->Option ρ}{s2:D->(D->Option σ)->(X->Option σ)->Option σ}(q:ρ->Option σ)
  (h:∀d c x,(s1 d c x).bind q=s2 d (λd=>(c d).bind q) (λe=>(x e).bind q))(k:X->Option ρ):∀(n:Nat) (d:D),(R9 s1 n d k).bind q=R9 s2 n d λe=>(k e).bind q
 |0,_=>rfl
 |n+1,d=>by
  show(s1 d (λd=>R9 s1 n d k) k).bind q=s2 d (λd=>R9 s2 n d λe=>(k e).bind q) λe=>(k e).bind q
  rw[h];congr 1
  funext d'
  exact azl q h k n d'
theorem azm {hd:St->Option St}{ρ:Type}{body:St->(AX->St->Option ρ)->Option ρ}{K:AX->St->Option ρ}{D X:Type}{emb:D->St}{step:D->(D->Option ρ)->(X->Option ρ)->Option ρ}{kx:X->Option ρ}
  (h:∀(d:D) (c:St->Option ρ),body (emb d) (next hd c K)=step d (λd=>c (emb d)) kx):∀(n:Nat) (d:D),iter hd body K n (emb d)=R9 step n d kx
 |0,_=>rfl
 |n+1,d=>by
  have e:iter hd body K (n+1) (emb d)=body (emb d) (next hd (iter hd body K n) K):=rfl;rw[e,h];have e2:R9 step (n+1) d kx=step d (λd=>R9 step n d kx) kx:=rfl;rw[e2];congr 1
  funext d'
  exact azm h n d'
theorem NH.of [ax]{P:Program}{E:Env}{hs:Hs}{nt lf id k0:Nat}{a:Code}{run:∀{ρ:Type},St->(AX->St->Option ρ)->Option ρ}(h0:apC hs a=some ⟨id,k0,run⟩)
  (h:∀{ρ:Type} (s:St) (K:AX->St->Option ρ) (r:ρ),run s K=some r->∃n,iter (λt=>t.head k0 hs a) (Gj P E hs nt k0 lf a) K n s=some r):∀kk,NH P E hs nt kk lf a:=by
 intro kk σ hσ hk ρ s K r hr;rw[h0] at hσ;cases hσ;cases hk;exact h s K r hr
theorem NH.no [ax]{P:Program}{E:Env}{hs:Hs}{nt lf:Nat}{a:Code}(h0:apC hs a=none):∀kk,NH P E hs nt kk lf a:=by
 intro kk σ hσ;rw[h0] at hσ;cases hσ
theorem Bh.imp {α:Type}{p q:α->Prop}(h:∀a,p a->q a):∀{l:List α},Bh p l->Bh q l
 | [],_=>trivial
 |_::_,hl=>⟨h _ hl.1,Bh.imp h hl.2⟩
theorem atV.of [ax]{P:Program}{E:Env}{hs:Hs}{nt lf id k0:Nat}{hd:Hd}{b:Code}{run:∀{ρ:Type},St->(AX->St->Option ρ)->Option ρ}(h0:ayY hs b=some ⟨hd,⟨id,k0,run⟩⟩)
  (h:∀{ρ:Type} (s:St) (K:AX->St->Option ρ) (r:ρ),run s K=some r->Gj P E hs nt k0 lf b s K=some r):∀kk,atV P E hs nt kk lf b:=by
 intro kk j hj hk ρ s K r hr;rw[h0] at hj;cases hj;cases hk;exact h s K r hr
theorem KW.by [ax]{P:Program}{E:Env}{hs:Hs}{f:FuncId}{lf:Nat}{l lj:List Code}(hl:KU (Y9 P f)=l)(h:Bh (λa=>∀kk,NH P E hs (tmpsOf P f) kk lf a) l)
  (hlj:KV hs (Y9 P f)=lj)(hj:Bh (λb=>∀kk,atV P E hs (tmpsOf P f) kk lf b) lj):
  ∀(fn:Func) (c:Code) (kk:Nat),P.funcs[f]? =some fn->fn.body=some c->KW P E hs fn.ntmps kk lf c:=by
 intro fn c kk hf hb;have e1:Y9 P f=c:=by unfold Y9;rw[hf];simp[hb]
 have e2:tmpsOf P f=fn.ntmps:=by unfold tmpsOf;rw[hf];rfl
 rw[e1] at hl hlj;rw[<-e2];refine KW.of ?_ ?_
 .rw[hl];exact h.imp λa ha=>ha kk
 .rw[hlj];exact hj.imp λa ha=>ha kk
structure jy (α β:Type) where
 rd:α->Option β
 em:β->α
 ok:∀a b,rd a=some b->a=em b
namespace jy
def hole {α:Type}:jy α α:=⟨some,id,λa b h=>by cases h;rfl⟩
def nat (n:Nat):jy Nat Unit:=⟨λm=>cond (ww m n) (some ()) none,λ_=>n,λa b h=>by
 cases hb:ww a n<;>rw[hb] at h<;>first|(cases h;done)|exact oZ hb⟩
def int (n:Int):jy Int Unit:=⟨λm=>cond (decide (m=n)) (some ()) none,λ_=>n,λa b h=>by
 cases hb:decide (a=n)<;>rw[hb] at h<;>first|(cases h;done)|exact eF hb⟩
def bool (n:Bool):jy Bool Unit:=⟨λm=>cond (m==n) (some ()) none,λ_=>n,λa b h=>by
 cases a<;>cases n<;>first|rfl|cases h⟩
def via {α α' β:Type}(f:α->α')(g:α'->Option α)(h:∀a' a,g a'=some a->a'=f a)(x:jy α β):jy α' β:=⟨λa=>(g a).bind x.rd,λb=>f (x.em b),λa b hb=>by
 cases ha:g a with
 |none=>rw[ha] at hb;cases hb
 |some c=>rw[ha] at hb;rw[h a c ha,<-x.ok c b hb]⟩
def pair {α β γ δ:Type}(x:jy α β)(y:jy γ δ):jy (α×γ) (β×δ):=⟨λp=>(x.rd p.1).bind λb=>(y.rd p.2).bind λd=>some (b,d),λq=>(x.em q.1,y.em q.2),λp q h=>by
 cases h1:x.rd p.1 with
 |none=>rw[h1] at h;cases h
 |some b=>
  rw[h1] at h;cases h2:y.rd p.2 with
  |none=>simp only[bN,h2] at h;cases h
  |some d=>
   simp only[bN,h2] at h;cases h;rw[<-x.ok _ _ h1,<-y.ok _ _ h2]⟩
def one {α:Type}(a:α)(g:α->Bool)(h:∀b,g b=true->b=a):jy α Unit:=⟨λb=>cond (g b) (some ()) none,λ_=>a,λb _ hb=>by
 cases hg:g b<;>rw[hg] at hb<;>first|(cases hb;done)|exact h b hg⟩
def nil {α:Type}:jy (List α) Unit:=one [] (λl=>match l with| []=>true|_=>false) λb h=>by cases b<;>first|rfl|cases h
def cons {α β γ:Type}(x:jy α β)(y:jy (List α) γ):jy (List α) (β×γ):=via (λp:α×List α=>p.1::p.2) (λl=>match l with|a::l=>some (a,l)|_=>none) (λa' a h=>by cases a'<;>cases h;rfl) (pair x y)
def szl {β:Type}(x:jy Nat β):jy Sz β:=via Sz.l (λz=>match z with|.l n=>some n|_=>none) (λa' a h=>by cases a'<;>cases h;rfl) x
def szs {β:Type}(x:jy Nat β):jy Sz β:=via Sz.s (λz=>match z with|.s n=>some n|_=>none) (λa' a h=>by cases a'<;>cases h;rfl) x
def ok' {β:Type}(x:jy Nat β):jy cA β:=via cA.k (λz=>match z with|.k n=>some n|_=>none) (λa' a h=>by cases a'<;>cases h;rfl) x
def ox {β γ δ:Type}(x:jy Nat β)(y:jy Nat γ)(z:jy Nat δ):jy cA (β×γ×δ):=via (λp:Nat×Nat×Nat=>cA.x p.1 p.2.1 p.2.2) (λz=>match z with|.x a b c=>some (a,b,c)|_=>none) (λa' a h=>by cases a'<;>cases h;rfl) (pair x (pair y z))
def fi {β:Type}(k:IntKind)(x:jy Int β):jy FV β:=via (FV.i k) (λz=>match z with|.i k' n=>cond (decide (k'=k)) (some n) none|_=>none) (λa' a h=>by
 cases a' with
 |i k' n=>
  cases hk:decide (k'=k)<;>simp only[hk] at h<;>first|(cases h;done)|(cases h;rw[eF hk])
 |_=>cases h) x
def fb {β:Type}(x:jy Bool β):jy FV β:=via FV.b (λz=>match z with|.b n=>some n|_=>none) (λa' a h=>by cases a'<;>cases h;rfl) x
def fs {β:Type}(x:jy ByteArray β):jy FV β:=via FV.s (λz=>match z with|.s n=>some n|_=>none) (λa' a h=>by cases a'<;>cases h;rfl) x
def cf {β:Type}(x:jy FV β):jy CV β:=via CV.f (λz=>match z with|.f n=>some n|_=>none) (λa' a h=>by cases a'<;>cases h;rfl) x
def Hm {β γ δ:Type}(x:jy Nat β)(y:jy cA γ)(z:jy Nat δ):jy CV (β×γ×δ):=via (λp:Nat×cA×Nat=>CV.ptr p.1 p.2.1 p.2.2) (λz=>match z with|.ptr a b c=>some (a,b,c)|_=>none) (λa' a h=>by cases a'<;>cases h;rfl) (pair x (pair y z))
def ccl {α β γ δ:Type}(u:jy Nat α)(x:jy Nat β)(y:jy cA γ)(z:jy Nat δ):jy CV (α×β×γ×δ):=via (λp:Nat×Nat×cA×Nat=>CV.cl p.1 p.2.1 p.2.2.1 p.2.2.2) (λz=>match z with|.cl e a b c=>some (e,a,b,c)|_=>none) (λa' a h=>by cases a'<;>cases h;rfl) (pair u (pair x (pair y z)))
def iW {β γ δ ε ζ:Type}(x:jy Nat β)(y:jy cA γ)(z:jy Sz δ)(u:jy Nat ε)(w:jy Bool ζ):jy CV (β×γ×δ×ε×ζ):=via (λp:Nat×cA×Sz×Nat×Bool=>CV.sl p.1 p.2.1 p.2.2.1 p.2.2.2.1 p.2.2.2.2) (λz=>match z with|.sl a b c d e=>some (a,b,c,d,e)|_=>none) (λa' a h=>by cases a'<;>cases h;rfl) (pair x (pair y (pair z (pair u w))))
def cfs {β γ δ:Type}(x:jy Nat β)(y:jy Nat γ)(z:jy (List cP) δ):jy CV (β×γ×δ):=via (λp:Nat×Nat×List cP=>CV.fs p.1 p.2.1 p.2.2) (λz=>match z with|.fs a b c=>some (a,b,c)|_=>none) (λa' a h=>by cases a'<;>cases h;rfl) (pair x (pair y z))
def aCW:jy CV Unit:=one .ahN (λl=>match l with|.ahN=>true|_=>false) λb h=>by cases b<;>first|rfl|cases h
def aVd:jy CV Unit:=one .nils (λl=>match l with|.nils=>true|_=>false) λb h=>by cases b<;>first|rfl|cases h
def ki {β:Type}(k:IntKind)(x:jy (Nat->Int) β):jy cP β:=via (cP.i k) (λz=>match z with|.i k' n=>cond (decide (k'=k)) (some n) none|_=>none) (λa' a h=>by
 cases a' with
 |i k' n=>
  cases hk:decide (k'=k)<;>simp only[hk] at h<;>first|(cases h;done)|(cases h;rw[eF hk])
 |_=>cases h) x
def kb {β:Type}(x:jy (Nat->Bool) β):jy cP β:=via cP.b (λz=>match z with|.b n=>some n|_=>none) (λa' a h=>by cases a'<;>cases h;rfl) x
def ks {β:Type}(x:jy (Nat->ByteArray) β):jy cP β:=via cP.s (λz=>match z with|.s n=>some n|_=>none) (λa' a h=>by cases a'<;>cases h;rfl) x
def gc {β:Type}(x:jy CV β):jy Sg β:=via Sg.c (λz=>match z with|.c n=>some n|_=>none) (λa' a h=>by cases a'<;>cases h;rfl) x
def ga {β γ:Type}(x:jy Sz β)(y:jy (List cP) γ):jy Sg (β×γ):=via (λp:Sz×List cP=>Sg.a p.1 p.2) (λz=>match z with|.a n c=>some (n,c)|_=>none) (λa' a h=>by cases a'<;>cases h;rfl) (pair x y)
def rc {β:Type}(x:jy CV β):jy RV β:=via RV.c (λz=>match z with|.c n=>some n|_=>none) (λa' a h=>by cases a'<;>cases h;rfl) x
def ra {β:Type}(x:jy af β):jy RV β:=via RV.agg (λz=>match z with|.agg n=>some n|_=>none) (λa' a h=>by cases a'<;>cases h;rfl) x
def ar {β:Type}(x:jy RV β):jy AV β:=via AV.r (λz=>match z with|.r n=>some n|_=>none) (λa' a h=>by cases a'<;>cases h;rfl) x
def rU {β:Type}(x:jy (List RV) β):jy AV β:=via AV.tup (λz=>match z with|.tup n=>some n|_=>none) (λa' a h=>by cases a'<;>cases h;rfl) x
def afn {β γ:Type}(x:jy Nat β)(y:jy (List RV) γ):jy AV (β×γ):=via (λp:Nat×List RV=>AV.fn p.1 p.2) (λz=>match z with|.fn a b=>some (a,b)|_=>none) (λa' a h=>by cases a'<;>cases h;rfl) (pair x y)
def a0e:jy AV Unit:=one .Vk (λl=>match l with|.Vk=>true|_=>false) λb h=>by cases b<;>first|rfl|cases h
def st {β γ δ:Type}(x:jy (List AV) β)(y:jy (List (Option af)) γ)(z:jy (List Nat) δ):jy St (β×γ×δ):=via (λp:List AV×List (Option af)×List Nat=>St.mk p.1 p.2.1 p.2.2) (λz=>some (z.tmps,z.heap,z.dt)) (λa' a h=>by cases a';cases h;rfl) (pair x (pair y z))
end jy
end Go.Ab
namespace Go.Proofs.YtldgljclcgaibaaGreat
open Go.Ab
theorem mixed:Tryz.prog.follows .mixedOrders=true:=by kernel_rfl
theorem own:ownKnob Tryz.prog.godebug=none:=by kernel_rfl
theorem laid:laidOutB Tryz.prog=true:=by kernel_rfl
end Go.Proofs.YtldgljclcgaibaaGreat
namespace Go.Ab
variable [ax]
variable {P:Program}
def DX (KP:List CK):af:=[.a (.s 0) (KP.map CK.nQ)]
def T.aNh (g:o9->o9):T->T
 |.leaf r=>.leaf (g r)
 |.fail=>.fail
 |.test x a b=>.test x (a.aNh g) (b.aNh g)
 |.opt x k=>.opt x λd=>(k d).aNh g
omit [ax] in
theorem aQP {g:o9->o9}{t:T}{r:o9}(h:(t.aNh g).eval=some r):∃r',t.eval=some r'/\r=g r':=by
 induction t with
 |leaf r'=>cases h;exact⟨r',rfl,rfl⟩
 |fail=>cases h
 |test x a b iha ihb=>
  cases x
  .exact ihb h
  .exact iha h
 |opt x k ih=>
  cases x with
  |none=>cases h
  |some d=>exact ih d h
def uV (i:Nat)(KP:List CK)(F:Ey):Ey:=λargs h=>match args[i]? with
 |some (.r (.c .nils))=>(F (args.set i (.r (.c (.sl h.length (.k 0) (.s 0) KP.length true)))) (h++[DX KP])).aNh λr=>⟨r.val,r.ya.take h.length,DX KP::r.news⟩
 |_=>F args h
omit [ax] in
theorem aEk (KP:List CK):af.size (DX KP)=0:=by
 unfold DX;rw[af.size_cons,af.lR,Sg.lU];simp[Sz.val]
omit [ax] in
theorem QA:∀(h:List af) (z:af) (cs:List Ch),∃x,after (h++[z]) cs=after h (cs.take h.length)++[x]
 | [],z,[]=>⟨none,rfl⟩
 | [],z,.mT::cs=>⟨some z,rfl⟩
 | [],z,.set b::cs=>⟨some b,rfl⟩
 | [],z,.kill::cs=>⟨none,rfl⟩
 |b::bs,z,[]=>by
  obtain⟨x,hx⟩:=QA bs z [];refine⟨x,?_⟩;simp only[List.take_nil] at hx;simp[after,hx]
 |b::bs,z,.mT::cs=>by
  obtain⟨x,hx⟩:=QA bs z cs;exact⟨x,by simp[after,hx]⟩
 |b::bs,z,.set k::cs=>by
  obtain⟨x,hx⟩:=QA bs z cs;exact⟨x,by simp[after,hx]⟩
 |b::bs,z,.kill::cs=>by
  obtain⟨x,hx⟩:=QA bs z cs;exact⟨x,by simp[after,hx]⟩
omit [ax] in
theorem aXq {α:Type}{A N:List α}{x y:α}{b:Nat}(h:b≠A.length):(A++[x]++N)[b]? =(A++y::N)[b]? :=by
 rcases o7 b A.length with h1|h1
 .rw[aw6,TO h1,TO h1]
 .rw[aw6,ac1 h1,ac1 h1];obtain⟨m,hm⟩:∃m,b-A.length=m+1:=⟨b-A.length-1,by omega⟩;rw[hm];rfl
theorem Sound.nil {f:FuncId}{F:Ey}(i:Nat)(KP:List CK)(S:Sound P f F):Sound P f (uV i KP F):=by
 intro args h res tk w π vs lP hH kj;unfold uV at tk;split at tk
 .rename_i hi
  obtain⟨r,hr,rfl⟩:=aQP tk;generalize hπ2:(λb=>if b=h.length then some (0,0,0,0) else π b:Pi)=π2
  have p1:∀b,b≠h.length->π2 b=π b:=λb hb=>by rw[<-hπ2];simp[hb]
  have p2:π2 h.length=some (0,0,0,0):=by rw[<-hπ2];simp
  have hx:Ext π π2:=λb p hb=>by
   have:b<h.length:=kj b (by rw[hb];simp);rw[p1 b (by omega)];exact hb
  have aY8:bj (AV.rel π2) (args.set i (.r (.c (.sl h.length (.k 0) (.s 0) KP.length true)))) vs.toList:=by
   have lP:=lP.imp (AV.dK hx);refine bj.afs (by rw[List.length_set];exact lP.length) λj a v ha hv=> ?_;rw[aDl] at ha;split at ha
   .rename_i hij
    subst hij;split at ha
    .cases ha;obtain⟨v',hv',hr'⟩:=lP.get hi;rw[hv] at hv';cases hv'
     exact⟨0,0,0,0,p2,by simp[cA.val,Sz.val],by simp[cA.val,Sz.val],.inl ⟨rfl,none,hr'⟩⟩
    .cases ha
   .obtain⟨v',hv',hr'⟩:=lP.get ha;rw[hv] at hv';cases hv'
    exact hr'
  have lt:∀b,b<h.length->((h++[DX KP]).map some)[b]? =(h.map some)[b]? :=λb hb=>by
   rw[List.map_append,TO (by simpa using hb)]
  have gz:∀b,b<h.length->hZ ((h++[DX KP]).map some) b=hZ (h.map some) b/\∀j,hC ((h++[DX KP]).map some) b j=hC (h.map some) b j:=λb hb=>by
   unfold hZ hC;rw[lt b hb];exact⟨rfl,λ_=>rfl⟩
  have gn:hZ ((h++[DX KP]).map some) h.length=some 0:=by
   unfold hZ;simp[aEk]
  have gd:∀b,h.length<b->hZ ((h++[DX KP]).map some) b=none:=λb hb=>by
   unfold hZ;rw[IX (by simp;omega)];rfl
  have hH2:rW π2 (hC ((h++[DX KP]).map some)) (hZ ((h++[DX KP]).map some)) w:=by
   refine⟨hH.am,λb B s q e hz hb Be=> ?_,λb n hn=> ?_,λb b' B s q e s' q' e' oe hz tZ hb fw i i1 i2 i3 i4=> ?_⟩
   .rcases afa b h.length with h1|h1|h1
    .rw[(gz b h1).1] at hz;rw[p1 b (by omega)] at hb;exact hH.lb b B s q e hz hb Be
    .subst h1;rw[p2] at hb;cases hb;omega
    .exact absurd (gd b h1) hz
   .rcases afa b h.length with h1|h1|h1
    .rw[(gz b h1).1] at hn;obtain⟨B,s,e,k1,k2,k3,k4⟩:=hH.hp b n hn
     exact⟨B,s,e,hx _ _ k1,k2,k3,λj hj=>by
      obtain⟨v,v1,v2⟩:=k4 j hj;exact⟨v,v1,by rw[(gz b h1).2];exact CV.dK hx _ _ v2⟩⟩
    .subst h1;rw[gn] at hn;cases hn;exact⟨0,0,0,p2,by omega,λi _ _=>by omega,λj hj=>by omega⟩
    .rw[gd b h1] at hn;cases hn
   .have nz:∀b B s q e,b=h.length->π2 b=some (B,s,q,e)->s=0/\e=0:=λb B s q e hb hp=>by
     rw[hb,p2] at hp;cases hp;exact⟨rfl,rfl⟩
    rcases afa b h.length with h1|h1|h1
    .rcases afa b' h.length with h2|h2|h2
     .rw[(gz b h1).1] at hz;rw[(gz b' h2).1] at tZ;rw[p1 b (by omega)] at hb;rw[p1 b' (by omega)] at fw;exact hH.dj b b' B s q e s' q' e' oe hz tZ hb fw i i1 i2 i3 i4
     .have:=nz b' B s' q' e' h2 fw;omega
     .exact tZ (gd b' h2)
    .have:=nz b B s q e h1 hb;omega
    .exact hz (gd b h1)
  have a06:∀b,π2 b≠none->b<(h++[DX KP]).length:=λb hb=>by
   rw[aw5];show b<h.length+1;rcases afa b h.length with h1|h1|h1
   .omega
   .omega
   .rw[p1 b (by omega)] at hb;have:=kj b hb;omega
  have aXr:∀B i,CC π2 (h++[DX KP]).length (R7 r.ya) B i->CC π h.length (R7 (r.ya.take h.length)) B i:=by
   rintro B i ⟨b,s,q,e,hb,hD,hp,i1,i2⟩
   rw[aw5] at hb;have hb:b<h.length+1:=hb;rcases o7 b h.length with h1|h1
   .rw[p1 b (by omega)] at hp;exact⟨b,s,q,e,h1,λhk=>hD (by rw[aaQ,if_pos h1] at hk;exact hk),hp,i1,i2⟩
   .obtain rfl:b=h.length:=by omega
    rw[p2] at hp;cases hp;omega
  suffices key:∀e w',ti π2 w (h++[DX KP]) r e w'->ti π w h ⟨r.val,r.ya.take h.length,DX KP::r.news⟩ e w' by
   rcases S _ _ r hr w π2 vs aY8 hH2 a06 with⟨S1,S2⟩| ⟨v,S1,S2⟩
   .exact .inl ⟨S1,Calls.mono S2 key⟩
   .exact .inr ⟨v,S1,key _ _ S2⟩
  rintro e w' ⟨π',v,rfl,hx',hv,hH',hF,hd,hi'⟩
  have p2':π' h.length=some (0,0,0,0):=hx' _ _ p2;obtain⟨x,hxx⟩:=QA h (DX KP) r.ya;have hlen:(after h (r.ya.take h.length)).length=h.length:=nA ..
  have eq1:∀b,b≠h.length->(r.heap (h++[DX KP]))[b]? =((⟨r.val,r.ya.take h.length,DX KP::r.news⟩:o9).heap h)[b]? :=λb hb=>by
   unfold o9.heap;rw[hxx];exact aXq (by rw[hlen];exact hb)
  have eqz:∀b,b≠h.length->hZ ((⟨r.val,r.ya.take h.length,DX KP::r.news⟩:o9).heap h) b=hZ (r.heap (h++[DX KP])) b:=λb hb=>by
   unfold hZ;rw[eq1 b hb]
  have eqc:∀b j,b≠h.length->hC ((⟨r.val,r.ya.take h.length,DX KP::r.news⟩:o9).heap h) b j=hC (r.heap (h++[DX KP])) b j:=λb j hb=>by
   unfold hC;rw[eq1 b hb]
  have eqn:hZ ((⟨r.val,r.ya.take h.length,DX KP::r.news⟩:o9).heap h) h.length=some 0:=by
   unfold hZ o9.heap;show(((after h (r.ya.take h.length)++(DX KP::r.news).map some)[h.length]?).getD none).map af.size=some 0;rw[ac1 (by omega),hlen];simp[aEk]
  refine⟨π',v,rfl,hx.trans hx',hv,⟨hH'.am,λb B s q e hz hb Be=> ?_,λb n hn=> ?_,λb b' B s q e s' q' e' oe hz tZ hb fw i i1 i2 i3 i4=> ?_⟩,hF.mono λB i _ h=>aXr B i h,λb hb=> ?_,λb B s q e hb hp hB i i1 i2=> ?_⟩
  .by_cases h1:b=h.length
   .rw[h1,p2'] at hb;cases hb;omega
   .rw[eqz b h1] at hz;exact hH'.lb b B s q e hz hb Be
  .by_cases h1:b=h.length
   .subst h1;rw[eqn] at hn;cases hn;exact⟨0,0,0,p2',by omega,λi _ _=>by omega,λj hj=>by omega⟩
   .rw[eqz b h1] at hn;obtain⟨B,s,e,k1,k2,k3,k4⟩:=hH'.hp b n hn;exact⟨B,s,e,k1,k2,k3,λj hj=>by rw[eqc b j h1];exact k4 j hj⟩
  .have nz:∀b B s q e,b=h.length->π' b=some (B,s,q,e)->s=0/\e=0:=λb B s q e hb hp=>by
    rw[hb,p2'] at hp;cases hp;exact⟨rfl,rfl⟩
   by_cases h1:b=h.length
   .have:=nz b B s q e h1 hb;omega
   .by_cases h2:b'=h.length
    .have:=nz b' B s' q' e' h2 fw;omega
    .rw[eqz b h1] at hz;rw[eqz b' h2] at tZ;exact hH'.dj b b' B s q e s' q' e' oe hz tZ hb fw i i1 i2 i3 i4
  .have:=hd b hb;rw[aw5] at this;show b<h.length+(r.news.length+1);have:b<h.length+1+r.news.length:=this;omega
  .by_cases h1:b=h.length
   .rw[h1,p2'] at hp;cases hp;omega
   .exact aXr B i (hi' b B s q e (by rw[aw5];show h.length+1<=b;omega) hp hB i i1 i2)
 .exact S args h res tk w π vs lP hH kj
end Go.Ab
noncomputable section
namespace Go.Ab
inductive Pg (δ:Type):Type 1 where
 |ret (d:δ)
 |no
 |ae (b:Bool) (x y:Pg δ)
 |opt {D:Type} (x:Option D) (f:D->Pg δ)
 |sum {A B:Type} (x:A⊕B) (f:A->Pg δ) (g:B->Pg δ)
namespace Pg
def run {δ ρ:Type}(p:Pg δ)(k:δ->Option ρ):Option ρ:=
 Pg.rec (motive:=λ_=>Option ρ) k none (λb _ _ x y=>cond b x y) (λx _ ih=>x.bind ih) (λx _ _ f g=>t8 f g x) p
def val {δ:Type}(p:Pg δ):Option δ:=p.run some
variable {δ ρ σ:Type}
theorem Az (d:δ)(k:δ->Option ρ):(ret d).run k=k d:=rfl
theorem FH (k:δ->Option ρ):(no:Pg δ).run k=none:=rfl
theorem vY (b:Bool)(x y:Pg δ)(k:δ->Option ρ):(ae b x y).run k=bif b then x.run k else y.run k:=rfl
theorem vZ {D:Type}(x:Option D)(f:D->Pg δ)(k:δ->Option ρ):(opt x f).run k=x.bind λd=>(f d).run k:=rfl
theorem v5 {A B:Type}(x:A⊕B)(f:A->Pg δ)(g:B->Pg δ)(k:δ->Option ρ):(sum x f g).run k=t8 (λa=>(f a).run k) (λb=>(g b).run k) x:=rfl
theorem cC (d:δ):(ret d).val=some d:=rfl
theorem fB:(no:Pg δ).val=none:=rfl
theorem ch (b:Bool)(x y:Pg δ):(ae b x y).val=bif b then x.val else y.val:=rfl
theorem cQ {D:Type}(x:Option D)(f:D->Pg δ):(opt x f).val=x.bind λd=>(f d).val:=rfl
theorem eG {A B:Type}(x:A⊕B)(f:A->Pg δ)(g:B->Pg δ):(sum x f g).val=t8 (λa=>(f a).val) (λb=>(g b).val) x:=rfl
theorem aNi (p:Pg δ)(k:δ->Option ρ)(q:ρ->Option σ):(p.run k).bind q=p.run λd=>(k d).bind q:=by
 induction p with
 |ret d=>rfl
 |no=>rfl
 |ae b x y ih1 ih2=>rw[vY,vY,aTi,ih1,ih2]
 |opt x f ih=>
  rw[vZ,vZ];cases x with
  |none=>rfl
  |some d=>exact ih d
 |sum x f g ih1 ih2=>
  rw[v5,v5];cases x with
  |inl a=>exact ih1 a
  |inr b=>exact ih2 b
theorem aum (p:Pg δ)(k:δ->Option ρ):p.val.bind k=p.run k:=by
 unfold val;rw[aNi];rfl
def sm {A B:Type}(x:A⊕B)(f:A->Pg δ)(g:B->Pg δ):Pg δ:=ae x.isLeft (opt x.getLeft? f) (opt x.getRight? g)
theorem aCC {A B:Type}(x:A⊕B)(f:A->Pg δ)(g:B->Pg δ):(sm x f g).val=t8 (λa=>(f a).val) (λb=>(g b).val) x:=by cases x<;>rfl
end Pg
def bw {D X:Type}(s:D->Pg (D⊕X))(n:Nat)(d:D):Option X:=R9 (λd c x=>(s d).run (t8 c x)) n d some
theorem akQ {D X ρ:Type}(s:D->Pg (D⊕X))(n:Nat)(d:D)(k:X->Option ρ):(bw s n d).bind k=R9 (λd c x=>(s d).run (t8 c x)) n d k:=by
 unfold bw;refine(azl k (λd c x=> ?_) some n d).trans rfl;rw[Pg.aNi];congr 1
 funext y
 cases y<;>rfl
def aEl:List Bool->Prop
 | []=>True
 |b::l=>b=true/\aEl l
theorem axw:∀{l m:List Bool},aEl (l++m)->aEl l/\aEl m
 | [],_,h=>⟨trivial,h⟩
 |_::_,_,h=>⟨⟨h.1,(axw h.2).1⟩,(axw h.2).2⟩
structure Rq (α β:Type) where
 rd:α->Option (List Bool×β)
 em:β->α
 ok:∀a l b,rd a=some (l,b)->aEl l->a=em b
abbrev Rq.B {α β:Type}(_:Rq α β):Type:=β
namespace Rq
variable {α β γ δ:Type}
def hole:Rq α α:=⟨λa=>some ([],a),id,λa l b h _=>by cases h;rfl⟩
def one (a:α)(g:α->Bool)(h:∀b,g b=true->b=a):Rq α Unit:=⟨λb=>cond (g b) (some ([],())) none,λ_=>a,λb _ _ hb _=>by
 cases hg:g b<;>rw[hg] at hb<;>first|(cases hb;done)|exact h b hg⟩
def tie (n:Nat):Rq Nat Unit:=⟨λm=>some ([ww m n],()),λ_=>n,λa l b h hl=>by
 have h1:[ww a n]=l:=(Prod.mk.inj (NJ h)).1;subst h1;exact oZ hl.1⟩
def nat (n:Nat):Rq Nat Unit:=one n (λm=>ww m n) λ_ h=>oZ h
def int (n:Int):Rq Int Unit:=one n (λm=>decide (m=n)) λ_ h=>eF h
def bool (n:Bool):Rq Bool Unit:=one n (λm=>m==n) λ_ h=>by simpa using h
def via {α':Type}(f:α->α')(g:α'->Option α)(h:∀a' a,g a'=some a->a'=f a)(x:Rq α β):Rq α' β:=⟨λa=>(g a).bind x.rd,λb=>f (x.em b),λa l b hb hl=>by
 cases ha:g a with
 |none=>rw[ha] at hb;cases hb
 |some c=>rw[ha] at hb;rw[h a c ha,<-x.ok c l b hb hl]⟩
def dp (x:Rq α β)(y:β->Rq γ δ):Rq (α×γ) (β×δ):=⟨λp=>(x.rd p.1).bind λb=>((y b.2).rd p.2).bind λd=>some (b.1++d.1,(b.2,d.2)),λq=>(x.em q.1,(y q.1).em q.2),λp l q h hl=>by
 cases h1:x.rd p.1 with
 |none=>rw[h1] at h;cases h
 |some b=>
  rw[h1] at h;cases h2:(y b.2).rd p.2 with
  |none=>simp only[bN,h2] at h;cases h
  |some d=>
   simp only[bN,h2,jY,qG] at h;obtain⟨rfl,rfl⟩:=h;obtain⟨t,b⟩:=b;obtain⟨s,d⟩:=d;obtain⟨h4,h5⟩:=axw hl;exact Prod.ext (x.ok _ _ _ h1 h4) ((y b).ok _ _ _ h2 h5)⟩
def pr (x:Rq α β)(y:Rq γ δ):Rq (α×γ) (β×δ):=dp x λ_=>y
def mp {β':Type}(x:Rq α β)(p:β->β')(q:β'->β)(h:∀b,b=q (p b)):Rq α β':=⟨λa=>(x.rd a).bind λb=>some (b.1,p b.2),λc=>x.em (q c),λa l c hc hl=>by
 cases h1:x.rd a with
 |none=>rw[h1] at hc;cases hc
 |some b=>
  rw[h1] at hc;obtain⟨t,b⟩:=b;cases hc;rw[<-h b];exact x.ok _ _ _ h1 hl⟩
def pl (x:Rq α β)(y:Rq γ Unit):Rq (α×γ) β:=mp (pr x y) Prod.fst (λb=>(b,())) λ_=>rfl
def pu (x:Rq α Unit)(y:Rq γ δ):Rq (α×γ) δ:=mp (pr x y) Prod.snd (λb=>((),b)) λ_=>rfl
def nil:Rq (List α) Unit:=one [] (λl=>match l with| []=>true|_=>false) λb h=>by cases b<;>first|rfl|cases h
def co (x:Rq (α×List α) β):Rq (List α) β:=via (λp:α×List α=>p.1::p.2) (λl=>match l with|a::l=>some (a,l)|_=>none) (λa' a h=>by cases a'<;>cases h;rfl) x
def c (x:Rq α β)(y:Rq (List α) δ):Rq (List α) (β×δ):=co (pr x y)
def cl (x:Rq α β)(y:Rq (List α) Unit):Rq (List α) β:=co (pl x y)
def cu (x:Rq α Unit)(y:Rq (List α) δ):Rq (List α) δ:=co (pu x y)
def cd (x:Rq α β)(y:β->Rq (List α) δ):Rq (List α) (β×δ):=co (dp x y)
def ap (n:Nat)(x:Rq (List α×List α) β):Rq (List α) β:=via (λp:List α×List α=>p.1++p.2) (λl=>some (l.take n,l.drop n)) (λa' a h=>by cases h;simp) x
def a (n:Nat)(x:Rq (List α) β)(y:Rq (List α) δ):Rq (List α) (β×δ):=ap n (pr x y)
def al (n:Nat)(x:Rq (List α) β)(y:Rq (List α) Unit):Rq (List α) β:=ap n (pl x y)
def au (n:Nat)(x:Rq (List α) Unit)(y:Rq (List α) δ):Rq (List α) δ:=ap n (pu x y)
def no:Rq (Option α) Unit:=one none (λl=>match l with|none=>true|_=>false) λb h=>by cases b<;>first|rfl|cases h
def so (x:Rq α β):Rq (Option α) β:=via some (λa=>a) (λa' a h=>h) x
def szl (x:Rq Nat β):Rq Sz β:=via Sz.l (λz=>match z with|.l n=>some n|_=>none) (λa' a h=>by cases a'<;>cases h;rfl) x
def szs (x:Rq Nat β):Rq Sz β:=via Sz.s (λz=>match z with|.s n=>some n|_=>none) (λa' a h=>by cases a'<;>cases h;rfl) x
def ok' (x:Rq Nat β):Rq cA β:=via cA.k (λz=>match z with|.k n=>some n|_=>none) (λa' a h=>by cases a'<;>cases h;rfl) x
def ox (x:Rq (Nat×Nat×Nat) β):Rq cA β:=via (λp:Nat×Nat×Nat=>cA.x p.1 p.2.1 p.2.2) (λz=>match z with|.x a b c=>some (a,b,c)|_=>none) (λa' a h=>by cases a'<;>cases h;rfl) x
def fi (k:IntKind)(x:Rq Int β):Rq FV β:=via (FV.i k) (λz=>match z with|.i k' n=>cond (decide (k'=k)) (some n) none|_=>none) (λa' a h=>by
 cases a' with
 |i k' n=>
  cases hk:decide (k'=k)<;>simp only[hk] at h<;>first|(cases h;done)|(cases h;rw[eF hk])
 |_=>cases h) x
def fb (x:Rq Bool β):Rq FV β:=via FV.b (λz=>match z with|.b n=>some n|_=>none) (λa' a h=>by cases a'<;>cases h;rfl) x
def fs (x:Rq ByteArray β):Rq FV β:=via FV.s (λz=>match z with|.s n=>some n|_=>none) (λa' a h=>by cases a'<;>cases h;rfl) x
def cf (x:Rq FV β):Rq CV β:=via CV.f (λz=>match z with|.f n=>some n|_=>none) (λa' a h=>by cases a'<;>cases h;rfl) x
def Hm (x:Rq (Nat×cA×Nat) β):Rq CV β:=via (λp:Nat×cA×Nat=>CV.ptr p.1 p.2.1 p.2.2) (λz=>match z with|.ptr a b c=>some (a,b,c)|_=>none) (λa' a h=>by cases a'<;>cases h;rfl) x
def ccl (x:Rq (Nat×Nat×cA×Nat) β):Rq CV β:=via (λp:Nat×Nat×cA×Nat=>CV.cl p.1 p.2.1 p.2.2.1 p.2.2.2) (λz=>match z with|.cl e a b c=>some (e,a,b,c)|_=>none) (λa' a h=>by cases a'<;>cases h;rfl) x
def iW (x:Rq (Nat×cA×Sz×Nat×Bool) β):Rq CV β:=via (λp:Nat×cA×Sz×Nat×Bool=>CV.sl p.1 p.2.1 p.2.2.1 p.2.2.2.1 p.2.2.2.2) (λz=>match z with|.sl a b c d e=>some (a,b,c,d,e)|_=>none) (λa' a h=>by cases a'<;>cases h;rfl) x
def cfs (x:Rq (Nat×Nat×List cP) β):Rq CV β:=via (λp:Nat×Nat×List cP=>CV.fs p.1 p.2.1 p.2.2) (λz=>match z with|.fs a b c=>some (a,b,c)|_=>none) (λa' a h=>by cases a'<;>cases h;rfl) x
def aCW:Rq CV Unit:=one .ahN (λl=>match l with|.ahN=>true|_=>false) λb h=>by cases b<;>first|rfl|cases h
def aVd:Rq CV Unit:=one .nils (λl=>match l with|.nils=>true|_=>false) λb h=>by cases b<;>first|rfl|cases h
def ki (k:IntKind)(x:Rq (Nat->Int) β):Rq cP β:=via (cP.i k) (λz=>match z with|.i k' n=>cond (decide (k'=k)) (some n) none|_=>none) (λa' a h=>by
 cases a' with
 |i k' n=>
  cases hk:decide (k'=k)<;>simp only[hk] at h<;>first|(cases h;done)|(cases h;rw[eF hk])
 |_=>cases h) x
def kb (x:Rq (Nat->Bool) β):Rq cP β:=via cP.b (λz=>match z with|.b n=>some n|_=>none) (λa' a h=>by cases a'<;>cases h;rfl) x
def ks (x:Rq (Nat->ByteArray) β):Rq cP β:=via cP.s (λz=>match z with|.s n=>some n|_=>none) (λa' a h=>by cases a'<;>cases h;rfl) x
def gc (x:Rq CV β):Rq Sg β:=via Sg.c (λz=>match z with|.c n=>some n|_=>none) (λa' a h=>by cases a'<;>cases h;rfl) x
def ga (x:Rq (Sz×List cP) β):Rq Sg β:=via (λp:Sz×List cP=>Sg.a p.1 p.2) (λz=>match z with|.a n c=>some (n,c)|_=>none) (λa' a h=>by cases a'<;>cases h;rfl) x
def rc (x:Rq CV β):Rq RV β:=via RV.c (λz=>match z with|.c n=>some n|_=>none) (λa' a h=>by cases a'<;>cases h;rfl) x
def ra (x:Rq af β):Rq RV β:=via RV.agg (λz=>match z with|.agg n=>some n|_=>none) (λa' a h=>by cases a'<;>cases h;rfl) x
def ar (x:Rq RV β):Rq AV β:=via AV.r (λz=>match z with|.r n=>some n|_=>none) (λa' a h=>by cases a'<;>cases h;rfl) x
def rU (x:Rq (List RV) β):Rq AV β:=via AV.tup (λz=>match z with|.tup n=>some n|_=>none) (λa' a h=>by cases a'<;>cases h;rfl) x
def afn (x:Rq (Nat×List RV) β):Rq AV β:=via (λp:Nat×List RV=>AV.fn p.1 p.2) (λz=>match z with|.fn a b=>some (a,b)|_=>none) (λa' a h=>by cases a'<;>cases h;rfl) x
def a0e:Rq AV Unit:=one .Vk (λl=>match l with|.Vk=>true|_=>false) λb h=>by cases b<;>first|rfl|cases h
def st (x:Rq (List AV×List (Option af)×List Nat) β):Rq St β:=via (λp:List AV×List (Option af)×List Nat=>St.mk p.1 p.2.1 p.2.2) (λz=>some (z.tmps,z.heap,z.dt)) (λa' a h=>by cases a';cases h;rfl) x
def fK:Rq Ch Unit:=one .mT (λl=>match l with|.mT=>true|_=>false) λb h=>by cases b<;>first|rfl|cases h
def Un:Rq Ch Unit:=one .kill (λl=>match l with|.kill=>true|_=>false) λb h=>by cases b<;>first|rfl|cases h
def zp (x:Rq af β):Rq Ch β:=via Ch.set (λz=>match z with|.set n=>some n|_=>none) (λa' a h=>by cases a'<;>cases h;rfl) x
def res (x:Rq (AV×List Ch×List af) β):Rq o9 β:=via (λp:AV×List Ch×List af=>o9.mk p.1 p.2.1 p.2.2) (λz=>some (z.val,z.ya,z.news)) (λa' a h=>by cases a';cases h;rfl) x
def us:Nat->Rq (List AV) β->Rq (List AV) β
 |0,x=>x
 |n+1,x=>cu a0e (us n x)
def xs:Nat->Rq (List AV) β->Rq (List AV) β
 |0,x=>x
 |n+1,x=>cu (rU nil) (xs n x)
def ci:Rq CV Int:=cf (fi .i64 hole)
def cn:Rq CV Int:=cf (fi .u64 hole)
def cb:Rq CV Bool:=cf (fb hole)
def ct:Rq CV ByteArray:=cf (fs hole)
def gi:Rq Sg Int:=gc ci
def gn:Rq Sg Int:=gc cn
def gb:Rq Sg Bool:=gc cb
def gt:Rq Sg ByteArray:=gc ct
def ac (x:Rq CV β):Rq AV β:=ar (rc x)
def ai:Rq AV Int:=ac ci
def an:Rq AV Int:=ac cn
def ab:Rq AV Bool:=ac cb
def aa (x:Rq af β):Rq AV β:=ar (ra x)
def cp (b n:Nat):Rq CV Unit:=Hm (pu (nat b) (pu (ok' (nat 0)) (nat n)))
def gp (b n:Nat):Rq Sg Unit:=gc (cp b n)
def app (b n:Nat):Rq AV Unit:=ac (cp b n)
def slc (b z:Nat):Rq CV (Nat×Bool):=iW (pu (nat b) (pu (ok' (nat 0)) (pr (szs hole) (pu (nat z) hole))))
def CB (b z:Nat):Rq CV Nat:=iW (pu (nat b) (pu (ok' (nat 0)) (pl (szs hole) (pu (nat z) (bool true)))))
def gl (n:Nat)(x:Rq (List cP) β):Rq Sg β:=ga (pu (szl (nat n)) x)
def gs (n:Nat)(x:Rq (List cP) β):Rq Sg β:=ga (pu (szs (tie n)) x)
def gH:Rq cP (Nat->Int):=ki .i64 hole
def kcb:Rq cP (Nat->Bool):=kb hole
end Rq
abbrev Ct:=Nat×Ey
def T.axx (l:List Bool)(t:T):T:=List.rec (motive:=λ_=>T) t (λb _ r=>.test b r .fail) l
def aXs {ρ:Type}(l:List Bool)(t:Option ρ):Option ρ:=List.rec (motive:=λ_=>Option ρ) t (λb _ r=>cond b r none) l
theorem akR {t:T}{r:o9}:∀{l:List Bool},(T.axx l t).eval=some r->aEl l/\t.eval=some r
 | [],h=>⟨trivial,h⟩
 |b::l,h=>by
  obtain⟨h1,h2⟩:=aEj (b:=b) (a:=T.axx l t) h;obtain⟨h3,h4⟩:=akR h2;exact⟨⟨h1,h3⟩,h4⟩
theorem aEm {ρ:Type}{t:Option ρ}{r:ρ}:∀{l:List Bool},aXs l t=some r->aEl l/\t=some r
 | [],h=>⟨trivial,h⟩
 |b::l,h=>by
  have h':cond b (aXs l t) none=some r:=h;cases b with
  |false=>cases h'
  |true=>
   obtain⟨h3,h4⟩:=aEm h';exact⟨⟨rfl,h3⟩,h4⟩
def FC {β δ:Type}(Q:Rq (List AV×List af) β)(R:δ->T)(f:β->Option δ):Ey:=λa h=>match Q.rd (a,h) with
 |some b=>T.axx b.1 (.opt (f b.2) R)
 |none=>.fail
def fY {D X:Type}(id kk:Nat)(Q:Rq St D)(E:∀{ρ:Type},X->(AX->St->Option ρ)->Option ρ)(l:D->Option X):Sm:=⟨id,kk,λs k=>match Q.rd s with
 |some b=>aXs b.1 ((l b.2).bind λx=>E x k)
 |none=>none⟩
def akn {β δ:Type}(P:Program)(l:List Ct)(hs:Hs)(lf n:Nat)(Q:Rq (List AV×List af) β)(R:δ->T)(B:β->Pg δ):Prop:=
 ∀b,den P (Ez l) hs lf n (Q.em b).1 (Q.em b).2=(B b).run λd=>(R d).eval
def aRT {D X:Type}(P:Program)(l:List Ct)(hs:Hs)(kk lf n id:Nat)(Q:Rq St D)(E:∀{ρ:Type},X->(AX->St->Option ρ)->Option ρ)(S:D->Pg (D⊕X)):Prop:=
 ∀(ρ:Type) (d:D) (c:St->Option ρ) (K:AX->St->Option ρ),Gj P (Ez l) hs (tmpsOf P n) kk lf (Y8 P n id) (Q.em d) (next (λt=>t.head kk hs (Y8 P n id)) c K)=
  (S d).run (t8 (λd=>c (Q.em d)) λx=>E x K)
def aRU {D X:Type}(P:Program)(l:List Ct)(hs:Hs)(kk lf n id:Nat)(Q:Rq St D)(E:∀{ρ:Type},X->(AX->St->Option ρ)->Option ρ)(S:D->Pg X):Prop:=
 ∀(ρ:Type) (d:D) (K:AX->St->Option ρ),Gj P (Ez l) hs (tmpsOf P n) kk lf (ae8 P n id) (Q.em d) K=(S d).run λx=>E x K
section
variable [ax]
def Snd (P:Program)(e:Ct):Prop:=Sound P e.1 e.2
theorem Snd.of {P:Program}{e:Ct}{n:Nat}{F:Ey}(S:Sound P n F)(h:e=(n,F)):Snd P e:=by
 subst h;exact S
theorem IW.c {P:Program}{l:List Ct}{e:Ct}(S:Snd P e)(h:IW P l):IW P (e::l):=IW.cons S h
omit [ax] in
theorem aNj {D X:Type}{id kk:Nat}{Q:Rq St D}{E:∀{ρ:Type},X->(AX->St->Option ρ)->Option ρ}{l:D->Option X}{ρ:Type}{s:St}{K:AX->St->Option ρ}{r:ρ}
  (h:(fY id kk Q E l).run s K=some r):∃d,s=Q.em d/\((l d).bind λx=>E x K)=some r:=by
 simp only[fY] at h;split at h
 .rename_i b hb
  obtain⟨t,d⟩:=b;obtain⟨h1,h2⟩:=aEm h;exact⟨d,Q.ok s t d hb h1,h2⟩
 .cases h
theorem mkL {D X:Type}{P:Program}{l:List Ct}{hs:Hs}{kk lf n id:Nat}{Q:Rq St D}{E:∀{ρ:Type},X->(AX->St->Option ρ)->Option ρ}{S:D->Pg (D⊕X)}
  (h0:apC hs (Y8 P n id)=some (fY id kk Q E (bw S lf)))(h:aRT P l hs kk lf n id Q E S):∀k',NH P (Ez l) hs (tmpsOf P n) k' lf (Y8 P n id):=
 NH.of (id:=id) (k0:=kk) (run:=(fY id kk Q E (bw S lf)).run) h0 λs K r hr=>by
  obtain⟨d,rfl,YO⟩:=aNj hr;refine⟨lf,?_⟩;rw[akQ] at YO;exact(azm (emb:=Q.em) (step:=λd c x=>(S d).run (t8 c x)) (kx:=λx=>E x K) (λd c=>h _ d c K) lf d).trans YO
theorem mkJ {D X:Type}{P:Program}{l:List Ct}{hs:Hs}{kk lf n id:Nat}{hd:Hd}{Q:Rq St D}{E:∀{ρ:Type},X->(AX->St->Option ρ)->Option ρ}{S:D->Pg X}
  (h0:ayY hs (ae8 P n id)=some ⟨hd,fY id kk Q E λd=>(S d).val⟩)(h:aRU P l hs kk lf n id Q E S):∀k',atV P (Ez l) hs (tmpsOf P n) k' lf (ae8 P n id):=
 atV.of (id:=id) (k0:=kk) (hd:=hd) (run:=(fY id kk Q E λd=>(S d).val).run) h0 λs K r hr=>by
  obtain⟨d,rfl,YO⟩:=aNj hr;rw[Pg.aum] at YO;exact(h _ d K).trans YO
omit [ax] in
theorem aXt {β δ:Type}{Q:Rq (List AV×List af) β}{R:δ->T}{B:β->Pg δ}{a:List AV}{h:List af}{r:o9}(hr:(FC Q R (λb=>(B b).val) a h).eval=some r):
  ∃b,(a,h)=Q.em b/\((B b).run λd=>(R d).eval)=some r:=by
 unfold FC at hr;split at hr
 .rename_i b hb
  obtain⟨t,b⟩:=b;obtain⟨h1,YO⟩:=akR hr;rw[asq,Pg.aum] at YO;exact⟨b,Q.ok _ _ _ hb h1,YO⟩
 .cases hr
theorem mkS {β δ:Type}{P:Program}{l:List Ct}{hs:Hs}{lf n:Nat}{Q:Rq (List AV×List af) β}{R:δ->T}{B:β->Pg δ}(hm:P.follows .mixedOrders=true)(hl:IW P l)(hc:FG P n=true)
  (aNb:∀fn c kk,P.funcs[n]? =some fn->fn.body=some c->KW P (Ez l) hs fn.ntmps kk lf c)(h:akn P l hs lf n Q R B):Sound P n (FC Q R λb=>(B b).val):=
 (aTb hl hm aNb hc).by λa b r hr=>by
  obtain⟨b,e,YO⟩:=aXt hr;obtain⟨rfl,rfl⟩:=Prod.mk.inj e;exact aTc ((h b).trans YO)
theorem mk0 {β δ:Type}{P:Program}{l:List Ct}{d0:List Nat}{lf n:Nat}{Q:Rq (List AV×List af) β}{R:δ->T}{B:β->Pg δ}(hm:P.follows .mixedOrders=true)(hl:IW P l)(hc:FG P n=true)
  (h:akn P l ⟨[],[],d0,[],none⟩ lf n Q R B):Sound P n (FC Q R λb=>(B b).val):=
 mkS hm hl hc (λ_ _ _ _ _=>KW.nil ..) h
omit [ax] in
theorem aNk {t t':T}{r:o9}(h:t.eval=some r->t'.eval=some r)(l:List Bool):(T.axx l t).eval=some r->(T.axx l t').eval=some r:=by
 induction l with
 |nil=>exact h
 |cons b l ih=>
  intro k;obtain⟨h1,h2⟩:=aEj (b:=b) (a:=T.axx l t) k;subst h1;exact ih h2
theorem EF {β δ:Type}{P:Program}{n:Nat}{Q:Rq (List AV×List af) β}{R R':δ->T}{f:β->Option δ}(h:∀d r,(R' d).eval=some r->(R d).eval=some r)(S:Sound P n (FC Q R f)):Sound P n (FC Q R' f):=S.by λa b r hr=>by
 unfold FC at hr ⊢;split at hr
 .rename_i x hx
  refine aNk (λhr=> ?_) x.1 hr;rw[asq] at hr ⊢;cases hf:f x.2 with
  |none=>rw[hf] at hr;cases hr
  |some d=>rw[hf,bN] at hr;exact h d r hr
 .cases hr
end
abbrev wI (n:Int):Int:=IntKind.wrap .i64 n
abbrev wU (n:Int):Int:=IntKind.wrap .u64 n
end Go.Ab
namespace Go.Ab
theorem aTj {a:Bool}{pt:List PT}{ps:List Prm}{ds:List Dat}(h:aEg (.flat a pt::ps) ds):∃l ds',ds=.flat l::ds'/\bj azh pt l/\aEg ps ds':=by
 match ds,h with
 |.flat l::ds',h=>exact⟨l,ds',rfl,h.1,h.2⟩
theorem aY9 {ks:List K}{ps:List Prm}{ds:List Dat}(h:aEg (.sl ks::ps) ds):∃n cols ds',ds=.sl n cols::ds'/\n<=maxLen/\bj (λk c=>K.nQ k n c) ks cols/\aEg ps ds':=by
 match ds,h with
 |.sl n cols::ds',h=>exact⟨n,cols,ds',rfl,h.1.1,h.1.2,h.2⟩
theorem aXu {ds:List Dat}(h:aEg [] ds):ds=[]:=by cases ds<;>first|rfl|cases h
theorem aZa {l:List DC}(h:bj azh [] l):l=[]:=by cases l<;>first|rfl|cases h
theorem DY {k:IntKind}{pt:List PT}{l:List DC}(h:bj azh (.c (.i k)::pt) l):∃x l',l=.c (.i k x)::l'/\(k.min<=x/\x<=k.max)/\bj azh pt l':=by
 match l,h with
 |.c (.i k' x)::l',h=>
  obtain⟨⟨rfl,h1⟩,h2⟩:=h;exact⟨x,l',rfl,h1,h2⟩
theorem a0f {n:Nat}{ks:List K}{pt:List PT}{l:List DC}(h:bj azh (.a n ks::pt) l):∃cols l',l=.a cols::l'/\bj (λk c=>K.nQ k n c) ks cols/\bj azh pt l':=by
 match l,h with
 |.a cols::l',h=>exact⟨cols,l',rfl,h.1,h.2⟩
theorem aEn {n:Nat}{l:List cP}(h:bj (λk c=>K.nQ k n c) [] l):l=[]:=by cases l<;>first|rfl|cases h
theorem xu {n:Nat}{k:IntKind}{ks:List K}{l:List cP}(h:bj (λk c=>K.nQ k n c) (.i k::ks) l):∃g l',l=.i k g::l'/\(∀j,j<n->k.min<=g j/\g j<=k.max)/\bj (λk c=>K.nQ k n c) ks l':=by
 match l,h with
 |.i k' g::l',h=>
  obtain⟨⟨rfl,h1⟩,h2⟩:=h;exact⟨g,l',rfl,h1,h2⟩
theorem Zp {D X ρ:Type}(s:D->(D->Option ρ)->(X->Option ρ)->Option ρ)(n:Nat)(d:D)(k:X->Option ρ):R9 s (n+1) d k=s d (λd=>R9 s n d k) k:=rfl
theorem aEo {D X ρ:Type}{s:D->(D->Option ρ)->(X->Option ρ)->Option ρ}{k:X->Option ρ}{r:Option ρ}(Inv:Nat->D->Prop)
  (h:∀t d c,Inv t d->(∀t' d',t'<t->Inv t' d'->c d'=r)->s d c k=r):∀(fuel t:Nat) (d:D),t<fuel->Inv t d->R9 s fuel d k=r
 |0,t,d,hf,hd=>by omega
 |fuel+1,t,d,hf,hd=>by
  rw[Zp];exact h t d _ hd λt' d' ht hd'=>aEo Inv h fuel t' d' (by omega) hd'
theorem wrap_i64 {n:Int}(h1: -9223372036854775808<=n)(h2:n<=9223372036854775807):IntKind.wrap .i64 n=n:=by
 unfold IntKind.wrap;simp only[IntKind.signed,IntKind.bits,GF,lY,show(2:Int)^64=18446744073709551616 from rfl,show(2:Int)^(64-1)=9223372036854775808 from rfl];split<;>omega
theorem wrap_u64 (n:Int):IntKind.wrap .u64 n=n%18446744073709551616:=by
 unfold IntKind.wrap;simp only[IntKind.signed,IntKind.bits,Bool.false_and,show(2:Int)^64=18446744073709551616 from rfl,xr,gA]
theorem NX {D X ρ:Type}{s:D->Pg (D⊕X)}{k:X->Option ρ}{r:Option ρ}(Inv:Nat->D->Prop)
  (h:∀t d c,Inv t d->(∀t' d',t'<t->Inv t' d'->c d'=r)->(s d).run (t8 c k)=r)(fuel t:Nat)(d:D)(hf:t<fuel)(hd:Inv t d):(bw s fuel d).bind k=r:=by
 rw[akQ];exact aEo Inv h fuel t d hf hd
theorem Zq {D X:Type}{s:D->Pg (D⊕X)}(Inv:Nat->D->Prop)(Q:X->Prop)
  (h:∀t d,Inv t d->∃y,(s d).val=some y/\match y with|.inl d'=>∃t',t'<t/\Inv t' d'|.inr x=>Q x):∀(fuel t:Nat) (d:D),t<fuel->Inv t d->∃x,bw s fuel d=some x/\Q x
 |0,t,d,hf,hd=>by omega
 |fuel+1,t,d,hf,hd=>by
  obtain⟨y,hy,hq⟩:=h t d hd;have e:bw s (fuel+1) d=(s d).run (t8 (λd=>bw s fuel d) some):=rfl;rw[e,<-Pg.aum,hy,bN];cases y with
  |inl d'=>obtain⟨t',ht,hd'⟩:=hq;exact Zq Inv Q h fuel t' d' (by omega) hd'
  |inr x=>exact⟨x,rfl,hq⟩
class bl {D:Type} (x:Option D):Prop where
 ok:∃d,x=some d
def Ok {D:Type}(x:Option D)(Q:D->Prop):Prop:=∃d,x=some d/\Q d
def PQ {δ:Type}(p:Pg δ)(Q:δ->Prop):Prop:=Ok p.val Q
section
variable {δ D A B:Type} {Q:δ->Prop}
theorem Ok.tot {x:Option D}{Q:D->Prop}(h:Ok x Q):bl x:=⟨h.imp λ_ h=>h.1⟩
theorem Ok.post {x:Option D}{Q:D->Prop}(h:Ok x Q){d:D}(e:x=some d):Q d:=by
 obtain⟨d',e',h⟩:=h;rw[e] at e';cases e';exact h
theorem Ok.mono {x:Option D}{Q R:D->Prop}(h:Ok x Q)(k:∀d,Q d->R d):Ok x R:=h.imp λ_ h=>⟨h.1,k _ h.2⟩
theorem bl.Ok {x:Option D}(h:bl x){Q:D->Prop}(k:∀d,x=some d->Q d):Ok x Q:=by
 obtain⟨d,e⟩:=h.ok;exact⟨d,e,k d e⟩
theorem aXv (d:D)(Q:D->Prop):Ok (some d) Q=Q d:=propext (Iff.intro (λh=>Ok.post h rfl) λh=>⟨d,rfl,h⟩)
theorem av (d:δ):PQ (.ret d) Q=Q d:=aXv d Q
theorem aQQ:PQ (.no:Pg δ) Q=False:=propext (Iff.intro (λh=>by obtain⟨_,h,_⟩:=h;cases h) λh=>False.elim h)
theorem aK (b:Bool)(x y:Pg δ):PQ (.ae b x y) Q=((b=true->PQ x Q)/\(b=false->PQ y Q)):=by
 unfold PQ;rw[Pg.ch];cases b<;>simp
theorem bF (b:Bool)(x:Pg δ):PQ (.ae b x .no) Q=(b=true/\PQ x Q):=by
 rw[aK,aQQ];cases b<;>simp
theorem aR (x y:Pg δ):PQ (.ae true x y) Q=PQ x Q:=by unfold PQ;rw[Pg.ch];rfl
theorem bA (x:Option D)(f:D->Pg δ)[h:bl x]:PQ (.opt x f) Q=∀d,x=some d->PQ (f d) Q:=by
 obtain⟨d,rfl⟩:=h.ok;unfold PQ;rw[Pg.cQ,bN];exact propext (Iff.intro (λh d' e=>by cases e;exact h) λh=>h d rfl)
theorem dH (d:D)(f:D->Pg δ):PQ (.opt (some d) f) Q=PQ (f d) Q:=rfl
theorem ay {x:Option D}{f:D->Pg δ}{R:D->Prop}(h:Ok x R)(k:∀d,x=some d->R d->PQ (f d) Q):PQ (.opt x f) Q:=by
 obtain⟨d,rfl,hr⟩:=h;exact k d rfl hr
theorem qc (x:A⊕B)(f:A->Pg δ)(g:B->Pg δ):PQ (.sum x f g) Q=((∀a,x=.inl a->PQ (f a) Q)/\∀b,x=.inr b->PQ (g b) Q):=by
 unfold PQ;rw[Pg.eG];cases x<;>simp
theorem tH (x:A⊕B)(f:A->Pg δ)(g:B->Pg δ):PQ (.sm x f g) Q=((∀a,x=.inl a->PQ (f a) Q)/\∀b,x=.inr b->PQ (g b) Q):=by
 unfold PQ;rw[Pg.aCC];cases x<;>simp
theorem aF {p:Pg δ}(h:PQ p λ_=>True):bl p.val:=Ok.tot h
theorem aEp {D X:Type}{s:D->Pg (D⊕X)}(I:D->Prop)(m:D->Nat)(R:X->Prop)
  (h:∀d,I d->PQ (s d) (t8 (λd'=>I d'/\m d'<m d) R)):∀(n:Nat) (d:D),I d->m d<n->Ok (bw s n d) R:=λn d hd hn=>by
 refine Zq (λt d=>I d/\m d=t) R (λt d hd=> ?_) n (m d) d hn ⟨hd,rfl⟩;obtain⟨y,hy,hq⟩:=h d hd.1;refine⟨y,hy,?_⟩;cases y with
 |inl d'=>exact⟨m d',hd.2▸hq.2,hq.1,rfl⟩
 |inr x=>exact hq
end
theorem bk {n:Int}(h:0<=n:=by omega)(k:n<=4611686018427387904:=by omega):wI (n+1)=n+1:=wrap_i64 (by omega) (by omega)
theorem fL {n:Int}(h: -4611686018427387904<=n:=by omega)(k:n<=4611686018427387904:=by omega):wI n=n:=wrap_i64 (by omega) (by omega)
theorem cm {n:Int}{m:Nat}:bg n m=true↔0<=n/\n<m:=by simp[bg]
theorem ade {n:Int}{m:Nat}:Kg n m=true↔0<=n/\n<=m:=by simp[Kg]
theorem eQ {m n:Nat}:wd m n=true↔m<=n:=by rw[Nat.ble_eq]
theorem nf {b:Bool}:(b=false->False)↔b=true:=by cases b<;>simp
theorem hdN (n:Nat)(h:n<=1999):(0:Int)<=0/\(0:Int)<=wl n/\wl n<=1999/\wl n=(n:Int):=by
 simp only[dJ,BC];omega
theorem aM (m:Nat):ww m m=true:=NL m
theorem bJ:(∀{δ:Type} {Q:δ->Prop} (d:δ),PQ (.ret d) Q=Q d)/\(∀{δ:Type} {Q:δ->Prop} (b:Bool) (x:Pg δ),PQ (.ae b x .no) Q=(b=true/\PQ x Q))/\(∀{δ:Type} {Q:δ->Prop} (b:Bool) (x y:Pg δ),PQ (.ae b x y) Q=((b=true->PQ x Q)/\(b=false->PQ y Q)))
  /\(∀{δ D:Type} {Q:δ->Prop} (x:Option D) (f:D->Pg δ) [h:bl x],PQ (.opt x f) Q=∀d,x=some d->PQ (f d) Q)/\(∀{δ A B:Type} {Q:δ->Prop} (x:A⊕B) (f:A->Pg δ) (g:B->Pg δ),PQ (.sum x f g) Q=((∀a,x=.inl a->PQ (f a) Q)/\∀b,x=.inr b->PQ (g b) Q))
  /\(∀{δ A B:Type} {Q:δ->Prop} (x:A⊕B) (f:A->Pg δ) (g:B->Pg δ),PQ (.sm x f g) Q=((∀a,x=.inl a->PQ (f a) Q)/\∀b,x=.inr b->PQ (g b) Q))/\(∀{δ:Type} {Q:δ->Prop},PQ (.no:Pg δ) Q=False)
  /\(∀{A B C:Type} (f:A->C) (g:B->C) (x:A),t8 f g (.inl x)=f x)/\(∀{A B C:Type} (f:A->C) (g:B->C) (x:B),t8 f g (.inr x)=g x)
  /\(∀p:Prop,(p->True)=True)/\(∀α:Type,(α->True)=True)/\(∀p:Prop,(p/\True)=p)/\(∀p:Prop,(True/\p)=p)/\∀p:Prop,(p/\p)=p:=
 ⟨λd=>av d,λb x=>bF b x,λb x y=>aK b x y,λx f _=>bA x f,λx f g=>qc x f g,λx f g=>tH x f g,aQQ,λ_ _ _=>rfl,λ_ _ _=>rfl,λp=>NO p,λα=>NO α,BC,Aj,and_self⟩
theorem qk:(∀m,ww m m=true)/\(∀p:Prop,(True->p)=p)/\((true=false)=False)/\(∀p:Prop,(False->p)=True)/\∀{δ D:Type} {Q:δ->Prop} (d:D) (f:D->Pg δ),PQ (.opt (some d) f) Q=PQ (f d) Q:=
 ⟨aM,NN,KX,DB,λd f=>dH d f⟩
theorem ua:(∀{n:Int} {m:Nat},bg n m=true↔0<=n/\n<m)/\(∀{n:Int} {m:Nat},Kg n m=true↔0<=n/\n<=m)/\(∀{m n:Nat},wd m n=true↔m<=n)/\(∀m,ww m m=true)/\(∀a b:Bool,((a&&b)=true)=(a=true/\b=true))/\(∀{p:Prop} [Decidable p],(decide p=true)=p)
  /\(∀{p:Prop} [Decidable p],decide p=false↔¬p)/\(∀{a b:Int},(a==b)=true↔a=b)/\(∀b:Bool,(true&&b)=b)/\∀n:Nat,wl n=(n:Int):=
 ⟨cm,ade,eQ,aM,λa b=>cy a b,λ{_} _=>lY,λ{_} _=>aaN,beq_iff_eq,GF,dJ⟩
theorem bL {D X:Type}{s:D->Pg (D⊕X)}{I:D->Prop}{R:X->Prop}(m:D->Nat)(h:∀d,I d->PQ (s d) (t8 (λd'=>I d'/\m d'<m d) R))(k:∀d,I d->m d<2000):∀d:D,I d->Ok (bw s 2000 d) R:=λd hd=>aEp I m R h 2000 d hd (k d hd)
end Go.Ab
namespace Go.Ab
def Po {D:Type}(x:Option D)(Q:D->Prop):Prop:=∀d,x=some d->Q d
def PW {δ:Type}(p:Pg δ)(Q:δ->Prop):Prop:=Po p.val Q
section
variable {δ D A B:Type} {Q:δ->Prop}
theorem Po.mono {x:Option D}{Q R:D->Prop}(h:Po x Q)(k:∀d,Q d->R d):Po x R:=λd e=>k d (h d e)
theorem Po.and {x:Option D}{Q R:D->Prop}(h:Po x Q)(k:Po x R):Po x (λd=>Q d/\R d):=λd e=>⟨h d e,k d e⟩
theorem Po.true {x:Option D}:Po x (λ_=>True):=λ_ _=>trivial
theorem Ok.with {x:Option D}{Q R:D->Prop}(h:Ok x Q)(k:Po x R):Ok x (λd=>Q d/\R d):=by
 obtain⟨d,e,q⟩:=h;exact⟨d,e,q,k d e⟩
theorem Ok.po {x:Option D}{Q:D->Prop}(h:Ok x Q):Po x Q:=λd e=>h.post e
theorem aXw (d:D)(Q:D->Prop):Po (some d) Q=Q d:=propext (Iff.intro (λh=>h d rfl) λh d' e=>by cases e;exact h)
theorem aP (d:δ):PW (.ret d) Q=Q d:=aXw d Q
theorem kn:PW (.no:Pg δ) Q=True:=propext (Iff.intro (λ_=>trivial) λ_ d h=>by cases h)
theorem aW (b:Bool)(x y:Pg δ):PW (.ae b x y) Q=((b=true->PW x Q)/\(b=false->PW y Q)):=by
 unfold PW;rw[Pg.ch];cases b<;>simp
theorem cR (b:Bool)(x:Pg δ):PW (.ae b x .no) Q=(b=true->PW x Q):=by
 rw[aW,kn];cases b<;>simp
theorem du (x:Option D)(f:D->Pg δ):PW (.opt x f) Q=∀d,x=some d->PW (f d) Q:=by
 unfold PW;rw[Pg.cQ];cases x with
 |none=>exact propext (Iff.intro (λ_ d e=>by cases e) λ_ d e=>by cases e)
 |some d=>exact propext (Iff.intro (λh d' e=>by cases e;exact h) λh=>h d rfl)
theorem bu {x:Option D}{f:D->Pg δ}{R:D->Prop}(h:Po x R)(k:∀d,x=some d->R d->PW (f d) Q):PW (.opt x f) Q:=by
 rw[du];exact λd e=>k d e (h d e)
theorem hX (x:A⊕B)(f:A->Pg δ)(g:B->Pg δ):PW (.sum x f g) Q=((∀a,x=.inl a->PW (f a) Q)/\∀b,x=.inr b->PW (g b) Q):=by
 unfold PW;rw[Pg.eG];cases x<;>simp
theorem pZ (x:A⊕B)(f:A->Pg δ)(g:B->Pg δ):PW (.sm x f g) Q=((∀a,x=.inl a->PW (f a) Q)/\∀b,x=.inr b->PW (g b) Q):=by
 unfold PW;rw[Pg.aCC];cases x<;>simp
theorem Vy {D X:Type}{s:D->Pg (D⊕X)}(I:D->Prop)(R:X->Prop)(h:∀d,I d->PW (s d) (t8 I R)):∀(n:Nat) (d:D),I d->Po (bw s n d) R
 |0,d,hd,x,e=>by cases e
 |n+1,d,hd,x,e=>by
  have e1:bw s (n+1) d=(s d).run (t8 (λd=>bw s n d) some):=rfl;rw[e1,<-Pg.aum] at e;cases hv:(s d).val with
  |none=>rw[hv] at e;cases e
  |some y=>
   rw[hv,bN] at e;have q:=h d hd y hv;cases y with
   |inl d'=>exact Vy I R h n d' q x e
   |inr x'=>cases e;exact q
end
theorem CE {D X:Type}{s:D->Pg (D⊕X)}{I:D->Prop}{R:X->Prop}(h:∀d,I d->PW (s d) (t8 I R)):∀d:D,I d->Po (bw s 2000 d) R:=λd hd=>Vy I R h 2000 d hd
end Go.Ab
set_option maxRecDepth 100000
set_option maxHeartbeats 4000000
namespace Go.Proofs.YtldgljclcgaibaaGreat
open Go.Ab Go.Ab.Pg
open Go
class Mo {D:Type} (x:Option D) (R:outParam (D->Prop)):Prop where
 h:Po x R
section
variable {δ D A B:Type} {Q:δ->Prop}
theorem aNl {d:δ}(h:Q d):PW (.ret d) Q:=by rw[aP];exact h
theorem aZb:PW (.no:Pg δ) Q:=by rw[kn];trivial
theorem aNm {b:Bool}{x y:Pg δ}(h:PW x Q)(k:PW y Q):PW (.ae b x y) Q:=by rw[aW];exact⟨λ_=>h,λ_=>k⟩
theorem aNn {x:Option D}{f:D->Pg δ}{R:D->Prop}[m:Mo x R](k:∀d,R d->PW (f d) Q):PW (.opt x f) Q:=bu m.h λd _=>k d
theorem aNo {x:Option D}{f:D->Pg δ}(k:∀d,PW (f d) Q):PW (.opt x f) Q:=by rw[du];exact λd _=>k d
theorem aXx {P:A->Prop}{R:B->Prop}{x:A⊕B}{f:A->Pg δ}{g:B->Pg δ}(h:t8 P R x)(k:∀a,P a->PW (f a) Q)(l:∀b,R b->PW (g b) Q):PW (.sum x f g) Q:=by
 rw[hX];exact⟨λa e=>k a (by rw[e] at h;exact h),λb e=>l b (by rw[e] at h;exact h)⟩
theorem aZc {P:A->Prop}{R:B->Prop}{x:A⊕B}{f:A->Pg δ}{g:B->Pg δ}(h:t8 P R x)(k:∀a,P a->PW (f a) Q)(l:∀b,R b->PW (g b) Q):PW (.sm x f g) Q:=by
 rw[pZ];exact⟨λa e=>k a (by rw[e] at h;exact h),λb e=>l b (by rw[e] at h;exact h)⟩
theorem aTk {x:A⊕B}{f:A->Pg δ}{g:B->Pg δ}(k:∀a,PW (f a) Q)(l:∀b,PW (g b) Q):PW (.sum x f g) Q:=by rw[hX];exact⟨λa _=>k a,λb _=>l b⟩
theorem aXy {x:A⊕B}{f:A->Pg δ}{g:B->Pg δ}(k:∀a,PW (f a) Q)(l:∀b,PW (g b) Q):PW (.sm x f g) Q:=by rw[pZ];exact⟨λa _=>k a,λb _=>l b⟩
end
end Go.Proofs.YtldgljclcgaibaaGreat
namespace Go.Proofs.YtldgljclcgaibaaGreat
open Go.Ab
theorem aXz [ax]:Sound Tryz.prog 240 (ada CD):=aH6 (aJ1 (fn:=Tryz.f240) Tryz.func240 (by kernel_rfl) (by kernel_rfl) (by kernel_rfl) (by kernel_rfl))
theorem aXA [ax]:Sound Tryz.prog 262 (ada adb):=aH6 (aJ2 (fn:=Tryz.f262) Tryz.func262 (by kernel_rfl) (by kernel_rfl) (by kernel_rfl) (by kernel_rfl))
abbrev aun:=C3
def akS (g:C3):Ct:=(240,ada g)
theorem aov [ax]:Snd Tryz.prog (akS CD):=aXz
abbrev aXB:=C3
def aNp (g:C3):Ct:=(262,ada g)
theorem aTl [ax]:Snd Tryz.prog (aNp adb):=aXA
end Go.Proofs.YtldgljclcgaibaaGreat
namespace Go.Ab
abbrev NI:=Nat->Int
theorem _root_.And.b {a b c:Prop}(x:a/\b/\c):c:=x.2.2
theorem _root_.And.c {a b c d e:Prop}(x:a/\b/\c/\d/\e):e:=x.2.2.2.2
theorem _root_.And.d {a b c d e f g h i:Prop}(x:a/\b/\c/\d/\e/\f/\g/\h/\i):i:=x.2.2.2.2.2.2.2.2
@[reducible] def _root_.Prod.b {a b c:Type} (x:a×b×c):c:=x.2.2
@[reducible] def _root_.Prod.c {a b c d e:Type} (x:a×b×c×d×e):e:=x.2.2.2.2
@[reducible] def _root_.Prod.d {a b c d e f g h i:Type} (x:a×b×c×d×e×f×g×h×i):i:=x.2.2.2.2.2.2.2.2
@[reducible] def _root_.Prod.e {a b c d e f g h i j k l m n o p q:Type} (x:a×b×c×d×e×f×g×h×i×j×k×l×m×n×o×p×q):q:=x.2.2.2.2.2.2.2.2.2.2.2.2.2.2.2.2
def cr {α:Type}(d:α)(l:List α):Nat->α:=List.rec (motive:=λ_=>Nat->α) (λ_=>d) (λx l ih j=>bif ww j l.length then x else ih j) l
@[reducible] def c24 (g:Nat->Nat->Int):=(g 0,g 1,g 2,g 3,g 4,g 5,g 6,g 7,g 8,g 9,g 10,g 11,g 12,g 13,g 14,g 15,g 16,g 17,g 18,g 19,g 20,g 21,g 22,g 23)
@[reducible] def ayQ {r:Type} (g:Nat->Nat->Int) (x:r):=(g 0,g 1,g 2,g 3,g 4,g 5,g 6,g 7,g 8,g 9,g 10,g 11,g 12,g 13,g 14,g 15,g 16,g 17,g 18,g 19,g 20,g 21,g 22,g 23,x)
def rg:Nat->Nat->List Nat->List Nat
 |_,0,t=>t
 |a,n+1,t=>a::rg (a+1) n t
def sh8 (o:Nat)(x:(Nat->Int)×(Nat->Int)×(Nat->Int)×(Nat->Int)×(Nat->Int)×(Nat->Int)×(Nat->Int)×(Nat->Int)):(Nat->Int)×(Nat->Int)×(Nat->Int)×(Nat->Int)×(Nat->Int)×(Nat->Int)×(Nat->Int)×(Nat->Int):=(λj=>x.1 (o+j),λj=>x.2.1 (o+j),λj=>x.2.2.1 (o+j),λj=>x.2.2.2.1 (o+j),λj=>x.2.2.2.2.1 (o+j),λj=>x.2.2.2.2.2.1 (o+j),λj=>x.2.2.2.2.2.2.1 (o+j),λj=>x.2.2.2.2.2.2.2 (o+j))
def vo (o:Nat)(x:(Nat->Int)×(Nat->Int)×(Nat->Int)×(Nat->Int)×(Nat->Int)×(Nat->Int)×(Nat->Int)×(Nat->Int)×(Nat->Int)):(Nat->Int)×(Nat->Int)×(Nat->Int)×(Nat->Int)×(Nat->Int)×(Nat->Int)×(Nat->Int)×(Nat->Int)×(Nat->Int):=(λj=>x.1 (o+j),λj=>x.2.1 (o+j),λj=>x.2.2.1 (o+j),λj=>x.2.2.2.1 (o+j),λj=>x.2.2.2.2.1 (o+j),λj=>x.2.2.2.2.2.1 (o+j),λj=>x.2.2.2.2.2.2.1 (o+j),λj=>x.2.2.2.2.2.2.2.1 (o+j),λj=>x.2.2.2.2.2.2.2.2 (o+j))
def atQ (o:Nat)(x:(Nat->Int)×(Nat->Int)×(Nat->Int)×(Nat->Int)×(Nat->Int)×(Nat->Int)×(Nat->Int)×(Nat->Int)×(Nat->Int)×(Nat->Int)):(Nat->Int)×(Nat->Int)×(Nat->Int)×(Nat->Int)×(Nat->Int)×(Nat->Int)×(Nat->Int)×(Nat->Int)×(Nat->Int)×(Nat->Int):=(λj=>x.1 (o+j),λj=>x.2.1 (o+j),λj=>x.2.2.1 (o+j),λj=>x.2.2.2.1 (o+j),λj=>x.2.2.2.2.1 (o+j),λj=>x.2.2.2.2.2.1 (o+j),λj=>x.2.2.2.2.2.2.1 (o+j),λj=>x.2.2.2.2.2.2.2.1 (o+j),λj=>x.2.2.2.2.2.2.2.2.1 (o+j),λj=>x.2.2.2.2.2.2.2.2.2 (o+j))
abbrev bK:=(Int×Int×Int×Int×Int)×Int×Nat×Int
abbrev dg:=NI×NI×NI×NI×NI×NI×NI×NI×NI
abbrev Es:=Int×Int×Int×Int×(Int×Int×Int×Int×Int×Int)×(Int×Int×Int×Int×Int×Int)×NI×NI×Int×Int×Int×Int×Int×Int×Int×Int
abbrev Dx:=(Int×Int×Int×Int)×(Int×Int×Int)×Int×Int×Int
abbrev Ah:=Nat×NI×NI×NI×NI×NI×NI×NI×NI×NI
abbrev Eo:=Nat×NI×NI×NI×NI×NI×NI×NI×NI×NI×NI
abbrev KR:=Int×(Int×Int×(Int×Int×Int)×Int×Int×Int)×Bool
abbrev KN:=(NI×NI×(Nat->Bool)×NI×NI×NI)×Int
abbrev Qr:=Nat×NI×NI×NI×NI×NI×NI×NI×NI
abbrev lu:=Int×Int×Int
abbrev qj:=Int×Int×Bool×Bool
abbrev tf:=Int×Int×Nat
abbrev aRA:=Int×Int×Int×Int×Int×Int×Int×Int×Int×Int×Int×Int×Int×Int×NI×NI×Int×Int×Int×Int×Int×Int×Int
abbrev aZU:=(Int×Int×Int×Int×Int×Int×Int×Int×Int×Int×Int×Int×Int×Int×Int×Int×NI×NI×Int×Int×Int×Int×Int×Int×Int×Int×Bool×NI×NI×NI)×(Int×Int×Int×Int×Int)×Int×NI×Int×Int×Int×Int×Int×Int×(NI×NI×(Nat->Bool)×NI×NI×NI)×(Int×Int)×NI×NI×NI×NI×NI×NI×NI
abbrev aRB:=Int×Int×Int×Int×Int×Int×Int×Int×Int×Int×Int×Int×Int×Int×Int×Int×Int×Int×Int
abbrev aRC:=Nat×NI×NI×NI×NI×NI×NI×NI×NI×NI×NI×NI×NI×NI×NI×NI×NI×NI×NI×NI×NI
abbrev aCJ:=Int×Int×Int×Int×Int×Int×Int×Int
abbrev aZV:=(Int×Int×Int×Int×Int×Int×Int×Int×Int×Int×Bool×Int×Int×Int×Int×Bool×Bool)⊕(Int×Int×Int×Int×Int×Int×Int×Int×Int×Bool×Int×Int×Int×Bool)
abbrev aL6:=NI×NI×NI×NI×NI×NI×NI×NI×NI×NI
abbrev apx:=Int×Int×Bool
abbrev aZW:=NI×NI×NI×NI×NI×NI×NI×NI×NI×NI×NI×NI×NI×NI×NI×NI×NI×NI×NI×NI×NI×NI×NI×NI
abbrev aL7:=(Nat×Bool)×Int×Int×Bool
abbrev aUv:=Nat×NI×NI×NI×NI×NI×NI×NI×NI×NI×NI×NI
abbrev aRD:=Int×Int×Int×Int×Int×Int×Int
abbrev aRE:=NI×NI×(Nat->Bool)×NI×NI×NI
abbrev aUw:=Int×(Nat×Bool)×(Nat×Bool)×Int×Int×Bool
abbrev aHt:=Int×Int×Int×Int
abbrev aZX:=Int×Int×Int×Int×Int×Int×Int×Int×Int×Int×Bool×Int×Bool
abbrev aUx:=NI×NI×NI×NI×NI×NI×NI×NI
abbrev aRF:=Int×Int×Int×Bool
abbrev RA (b:Type):=Rq (List AV×List af) b
abbrev RS (b:Type):=Rq St b
abbrev RE (b:Type):=Rq o9 b
@[reducible] def qa {b:Type} (x:RA b):RA b:=x
@[reducible] def qs {b:Type} (x:RS b):RS b:=x
@[reducible] def qe {b:Type} (x:RE b):RE b:=x
@[reducible] def nO {α:Type}:Rq (Option α) Unit:=Rq.no
def lf {β:Type}(q:RE β)(d:β):T:=.leaf (q.em d)
def ls {A B:Type}(f:A->T)(g:B->T)(x:A⊕B):T:=T.sum x f g
def Ex (X:Type):=∀{ρ:Type},X->(AX->St->Option ρ)->Option ρ
abbrev KT:=AX->St
def ef {X:Type}(a:AX)(q:RS X){ρ:Type}(x:X)(K:AX->St->Option ρ):Option ρ:=K a (q.em x)
abbrev LT {D:Type}(_:RS D)(X:Type):=D->Option X
abbrev PL {D:Type}(_:RS D)(X:Type):=Pg (D⊕X)
structure KK where
 l:List Ct
 hs:Hs
 kk:Nat
 n:Nat
end Go.Ab
namespace Go.Proofs.YtldgljclcgaibaaGreat
section
open Go.Ab Go.Ab.Rq
def jx:=bool true
def lV:=szs hole
def eN:=nat 0
def Ar:=nat 1
def rq4:=nat 2
def Qs:=rU nil
def rq6:=nat 4
def rq7:=nat 3
def rq8:=nat 6
def rq9:=nat 5
def Bg:=nat 11
def gZ:=nat 9
def Gg:=nat 8
def aHu:=nat 20
def aL8:=nat 13
def aL9:=nat 14
def aMa:=nat 15
def aMb:=nat 16
def aMc:=nat 17
def aMd:=nat 18
def aHv:=nat 19
def ayR:=nat 21
def aO:=app 0 1
def iL:=cl ai nil
def xi:=cl gb nil
def aHw:=cl an nil
def aMe:=cl ab nil
def aMf:=app 1 2
def Y2:=cu fK nil
def ayS:=app 2 2
def ot:=cl gH nil
def nx:=cl gi nil
def apy:=app 1 4
def ayT:=app 2 4
def ayU:=app 0 24
def aMg:=app 1 3
def Y3:=app 2 3
def TN:=app 1 24
def DT:=app 2 24
def th:=app 0 4
def Gh:=app 1 300
def Y4:=app 2 300
def aHx:=app 3 300
def aRG:=us 20 nil
def Qt:=app 1 576
def aHy:=app 1 9
def aj4:=app 3 3
def aRH:=app 4 3
def aUy:=us 27 nil
def aUz:=app 2 1152
def Y5:=app 3 1152
def apz:=app 4 24
def Qu:=app 1 1
def ahL:=app 3 24
def aRI:=app 2 576
def Ni:=app 4 300
def apA:=app 5 48
def ayV:=app 2 48
def aUA:=us 49 nil
def aHz:=app 4 576
def apB:=app 5 24
def aHA:=app 2 373
def aHB:=app 3 373
def aMh:=cu Un nil
def Ke:=app 0 3
def ayW:=app 0 37
def Y6:=app 0 8
def aCK:=app 0 72
def aCL:=app 4 1
def jj:=app 0 434
def aRJ:=gp 5 8
def aMi:=gp 6 8
def aMj:=gp 7 8
def aMk:=gp 8 8
def aMl:=gp 9 8
def aj5:=gp 1 5
def aj6:=gp 2 10
def atS:=gp 10 37
def atT:=gp 11 3
def ayX:=app 2 20
def aRK:=app 3 4
def aRL:=app 5 16
def aRM:=app 6 12
def aRN:=app 3 576
def aRO:=app 4 12
def aMm:=app 3 1
def Y7:=app 20 8
def aUB:=app 21 11
def aRP:=gp 26 8
def aRQ:=gp 27 8
def aRR:=gp 28 8
def aMn:=app 21 20
def vT:=ok' eN
def KS:=szs eN
def atU:=zp xi
def aRS:=cl (rc cb) nil
def aUC:=ac (slc 0 2)
def Hl:=ac (slc 1 1)
def cD:=so xi
def cN:=cu eN nil
def IJ:=ac (slc 0 1)
def aO4:=ac (slc 2 1)
def arR:=ac (slc 1 3)
def aeV:=cl (rc ci) nil
def aCM:=ac (slc 1 24)
def aIQ:=ac (slc 1 27)
def aO5:=ac (slc 0 3)
def aO6:=ac (slc 1 10)
def awK:=cu Ar nil
def aO7:=ac (slc 2 10)
def aO8:=ac (slc 0 9)
def aO9:=ac (CB 1 9)
def aIR:=gc (CB 3 8)
def zq:=c ai iL
def bB:=cl xi nil
def awL:=c gn (cl gn nil)
def aPa:=c gi (cl gn nil)
def arS:=cu (gp 1 1) nil
def aPb:=xs 8 (us 22 nil)
def aUD:=cf (fb (bool false))
def aPc:=cl ab (us 14 nil)
def aPd:=cl ab (us 21 nil)
def aPe:=cl ai (us 15 nil)
def aPf:=cl ai (us 26 nil)
def aIS:=cl ai (us 13 nil)
def aUE:=cl ab (us 12 nil)
def aj7:=c gi nx
def aUF:=cl ai (us 11 nil)
def iC:=gl 24 ot
def aPg:=cl ai (us 18 nil)
def aCN:=cu fK Y2
def aPh:=cu (gp 2 1) nil
def aIT:=gl 276 ot
def aIU:=cl ai aRG
def aPi:=cl ai (us 8 nil)
def aUG:=cl ai (us 21 nil)
def aUH:=cl ai (us 22 nil)
def aUI:=cl ai (us 82 nil)
def aIV:=cl ai (us 24 nil)
def aUJ:=cl ai (us 75 nil)
def aUK:=cl ai (us 80 nil)
def aUL:=cl ai (us 12 nil)
def aUM:=cl ai (us 32 nil)
def aUN:=cl ab (us 38 nil)
def aUO:=cu (gp 0 3) nil
def aUP:=cl ai (us 31 nil)
def aUQ:=xs 8 (us 1 nil)
def aUR:=cl ab (us 77 nil)
def aIW:=cf (fi .i64 (int 0))
def aPj:=cf (fi .i64 (int 4))
def awM:=cf (fi .i64 (int 1))
def aUS:=cf (fi .i64 (int 5))
def aPk:=afn (pu (nat 96) nil)
def mX:=cl atU nil
def aUT:=res (pl an (pu nil nil))
def Vf:=aa awL
def aeW:=aa aPa
def Gy:=res (pl ai (pu nil nil))
def Gz:=ac (cf (fb jx))
def mJ:=ac aUD
def Et:=res (pl ab (pu nil nil))
def awN:=cl Hl nil
def aIX:=cl arR nil
def awO:=gc (cf (fb jx))
def aaD:=so arS
def awP:=so aUO
def IK:=gc aUD
def Eu:=c ai zq
def aUU:=c ai (cl ab (us 30 nil))
def aIY:=c gH (cl (ki .u64 hole) nil)
def aL:=gc aIW
def aCO:=gc (cf (fi .u64 (int 0)))
def aPl:=c ai (cl ab (us 25 nil))
def aIZ:=c ai aUE
def mK:=c gi aj7
def arT:=gc (cf (fi .i64 (int 1073741824)))
def arU:=cl iC nil
def aI0:=c ai (cl ab (us 17 nil))
def aPm:=c ai (cl ab (us 19 nil))
def aCP:=cl (gl 576 ot) nil
def aI1:=c ai (cl ab (us 7 nil))
def aaE:=cl (gl 9 ot) nil
def aUV:=c ai (cl ab aRG)
def aPn:=gc (cf (fi .i64 (int 2)))
def aI2:=c gb aj7
def arV:=c gH (c gH ot)
def aUW:=cl (gl 1152 ot) nil
def aUX:=c ai (cl ab (us 81 nil))
def aUY:=c ai (cl ab (us 104 nil))
def aUZ:=c ai (cl ab (us 29 nil))
def aI3:=c ai (cl ab (us 23 nil))
def aPo:=c ai (cl ab (us 11 nil))
def arW:=c kcb (c gH ot)
def aPp:=c ai aIU
def aU0:=c ai (cl ab (us 31 nil))
def arX:=c gi (c gi xi)
def aU1:=gc (cf (fi .i64 (int 8000)))
def aU2:=ac (cf (fi .i64 (int 6)))
def aU3:=gc (cf (fi .i64 (int 3000)))
def aU4:=gc (cf (fi .i64 (int 2200)))
def aI4:=gc (cf (fi .i64 (int 500)))
def aU5:=gc (cf (fi .i64 (int 950)))
def aU6:=gc (cf (fi .i64 (int 100)))
def aU7:=gc (cf (fi .i64 (int 1000)))
def aCQ:=c gn (c gn xi)
def aCR:=cu Ar (cu rq4 nil)
def aU8:=cu eN (cu Bg nil)
def aCS:=cl aeW nil
def aaF:=cl (so aPa) nil
def ND:=cl atU Y2
def aPq:=c ai awN
def aeX:=aa mK
def lW:=aa arU
def oc:=so arU
def zt:=so mK
def aU9:=c ai (cl IJ nil)
def mY:=so aCP
def GA:=so aUW
def aeY:=so (cl (gl 48 ot) nil)
def aj8:=ra arU
def aI5:=res (pl ab (pu Y2 nil))
def awQ:=res (pl ai (pu Y2 nil))
def aj9:=aa aCQ
def aPr:=rU (c (rc ci) aRS)
def aI6:=c ai (cl ai (cu aO nil))
def aVa:=c ai (c ai aPc)
def aeZ:=c gi mK
def aPs:=xs 3 (us 2 (xs 3 (us 1 nil)))
def aVb:=us 15 (c ai aPf)
def Ev:=c gi (c gi (c gb xi))
def aPt:=cu (gc (cf (fi .i64 (int 3)))) nil
def aPu:=c ai aPm
def aPv:=rU (c (rc ci) aeV)
def aVc:=rU (cu (rc aVd) aeV)
def aka:=cu (rc aIW) nil
def aPw:=cl arX nil
def aVe:=ox (pu eN (pl hole gZ))
def akb:=cu (gc (cf (fi .i64 (int (-9223372036854775808))))) nil
def akc:=ox (pu eN (pl hole Gg))
def aI7:=cl (ga (pr lV ot)) nil
def GB:=cl aeX nil
def ae0:=aa aeZ
def xo:=so aeZ
def IL:=cl oc nil
def aPx:=cu fK (cu fK mX)
def arY:=cl lW nil
def ae1:=c gi (c gi (cl (gc (CB 2 11)) nil))
def aI8:=c gi (c gi (cl (gc (CB 3 11)) nil))
def aI9:=c gi (c gi (cl (gc (CB 7 11)) nil))
def aPy:=c gi (c gi (cl (gc (CB 4 11)) nil))
def aVf:=res (pl ai (pu aCN nil))
def aCT:=c gi (c gi (cl (gc (CB 20 11)) nil))
def zu:=c gi (c gi (cl (gc (CB 19 11)) nil))
def IM:=so aI7
def aVg:=us 15 (c ai aPl)
def ln:=c gi aeZ
def aVh:=cu fK (cu fK (cu fK aCN))
def awR:=cu (gp 1 434) arX
def aPz:=cu (gp 21 434) arX
def qA:=res (pr ai (pl mX nil))
def aVi:=res (pl aeW (pu nil nil))
def aJa:=res (pl Vf (pu nil nil))
def arZ:=cl ae0 nil
def ae2:=c lW iL
def aCU:=so (cu (gp 22 434) arX)
def akd:=so (cu (gp 2 434) arX)
def aVj:=rU (c (ra aPa) aRS)
def ake:=cl IM nil
def zw:=c aIT arU
def awS:=c iC mK
def aPA:=c gi ln
def aPB:=aa (a 3 mK nx)
def aVk:=c gi (c gi (c gb mK))
def aPC:=xs 3 (us 2 aPs)
def aVl:=ac (Hm (pu eN (pu (ok' gZ) Ar)))
def aVm:=ac (Hm (pu eN (pu (ok' rq6) rq8)))
def aPD:=ac (Hm (pu eN (pu (ok' rq8) Ar)))
def aJb:=ac (Hm (pu eN (pu (ok' Ar) Ar)))
def NF:=ac (Hm (pu eN (pu (ok' (nat 72)) Ar)))
def aVn:=ac (Hm (pu eN (pu (ok' (nat 412)) Ar)))
def aPE:=ac (Hm (pu eN (pu (ok' (nat 399)) Ar)))
def aJc:=ac (Hm (pu eN (pu (ok' rq4) Ar)))
def aJd:=ac (Hm (pu ayR (pu (ok' rq4) Ar)))
def aVo:=ac (Hm (pu eN (pu (ok' (nat 64)) Ar)))
def aCV:=ac (Hm (pu Ar (pu (ok' (nat 64)) Ar)))
def aPF:=res (pr ai (pl (cu fK mX) nil))
def aJe:=res (pr ai (pl ND nil))
def aVp:=res (pl aeX (pu nil nil))
def aPG:=res (pl lW (pu nil nil))
def aPH:=cl (ga (pr lV arW)) nil
def mZ:=a 3 mK aj7
def aVq:=rU (cu (rc aCW) (cu (rc awM) nil))
def aJf:=res (pl aj9 (pu nil nil))
def aPI:=res (pl (rU (c (rc cn) (cl (rc cn) nil))) (pu nil nil))
def awT:=res (pl aPr (pu nil nil))
def Bz:=aa zw
def jk:=so zw
def ar0:=ra zw
def aPJ:=so (cl (ga (pr lV aIY)) nil)
def aCX:=so (cl (ga (pr lV arV)) nil)
def aJg:=c gi aPA
def aVr:=rU (c (ra mK) aeV)
def aVs:=gl 6 (c gH (c gH (c kcb arV)))
def aVt:=cu fK (cu fK aVh)
def pX:=so mZ
def aVu:=cu Un (cu Un (cu Un (cu Un (cu Un (cu Un aMh)))))
def aVv:=res (pl ae0 (pu nil nil))
def aVw:=res (pl lW (pu Y2 nil))
def aVx:=res (pr ai (pl aPx nil))
def aVy:=cl (aa awS) nil
def aVz:=res (pl aPv (pu Y2 nil))
def aPK:=afn (pu (nat 180) (cu (rc (cp 2 1)) (cu (rc (cp 3 10)) nil)))
def aVA:=c an (c an (c an (c an (c an (c an aPc)))))
def aVB:=res (pu Qs (pl (cl (zp arU) nil) nil))
def oX:=c gH (c gH (c gH (c gH (c gH arV))))
def aVC:=cl (so aPH) nil
def awU:=c gi aJg
def aJh:=cu fK aVt
def aPL:=res (pl ai (pu (cu (zp (cu awO nil)) nil) nil))
def aPM:=res (pl aVj (pu nil nil))
def aPN:=so (cu aL (cu aCO nil))
def Ew:=so awU
def awV:=res (pr aeX (pl mX nil))
def aCY:=res (pr lW (pl mX nil))
def aA:=c gH oX
def aJi:=c gi awU
def ny:=c aVs nx
def aCZ:=res (pu aVq (pu nil nil))
def aVD:=cu fK (cu Un aVt)
def aVE:=us 5 (cu aCV (us 108 nil))
def NG:=c oc IL
def aVF:=ac (iW (pu Ar (pu vT (pl lV (pu rq4 jx)))))
def aVG:=ac (iW (pu rq6 (pu vT (pl lV (pu Ar jx)))))
def aC0:=c gi (c gi (a 3 mK mK))
def aVH:=ac (iW (pu rq7 (pu vT (pl lV (pu Ar jx)))))
def aVI:=ac (iW (pu rq8 (pu vT (pl lV (pu rq7 jx)))))
def aVJ:=ac (iW (pu rq6 (pu vT (pl lV (pu rq7 jx)))))
def aVK:=ac (iW (pu rq9 (pu vT (pl lV (pu rq7 jx)))))
def aVL:=ac (iW (pu rq9 (pu vT (pl lV (pu Ar jx)))))
def aPO:=res (pr aPv (pl mX nil))
def aVM:=cu mJ (xs 5 (cu mJ aUA))
def aVN:=cu mJ (xs 5 (cu mJ (us 77 nil)))
def aJj:=aa aJi
def aC1:=zp ny
def oY:=so ny
def aVO:=c an (c an (c an (c an (c an (c an (cl ab (us 19 aPb)))))))
def awW:=res (pr ae0 (pl mX nil))
def aVP:=ac (iW (pu Ar (pu vT (pu (szl rq6) (pu Ar jx)))))
def mL:=c gH aA
def aPP:=c gi aJi
def aVQ:=rU (c (ra awS) aeV)
def aC2:=cl ny nil
def Dy:=cl aJj nil
def aVR:=cl (so aJi) nil
def aaG:=cl (aa aC0) nil
def jF:=c gH mL
def awX:=c gi aPP
def akf:=a 5 ln (c gi (c (gc (CB 1 9)) nx))
def qB:=a 5 ln (c gi (c (gc (CB 14 9)) nx))
def qC:=a 5 ln (c gi (c (gc (CB 15 9)) nx))
def qD:=a 5 ln (c gi (c (gc (CB 16 9)) nx))
def qE:=a 5 ln (c gi (c (gc (CB 17 9)) nx))
def qF:=a 5 ln (c gi (c (gc (CB 18 9)) nx))
def aC3:=a 5 ln (c gi (c (gc (CB 19 9)) nx))
def xp:=a 5 ln (c gi (c (gc (CB 13 9)) nx))
def aJk:=aa (a 3 mK mZ)
def aPQ:=res (pr (rU (c (ra aj7) aeV)) (pl mX nil))
def aJl:=cl (ga (pr lV oX)) nil
def aJm:=iW (pu ayR (pr akc (pl lV (pu Gg jx))))
def aPR:=so (c gb (c gb (c gb (c gb (c gb (c gb (c gb (c gb mK))))))))
def aVS:=cu aL (cu aL (cu IK nil))
def aVT:=ac (iW (pu Ar (pu (ox (pu eN (pu Ar Ar))) (pr lV (pu Ar hole)))))
def ar1:=cu aL (cu aL (cu aL nil))
def aPS:=res (pr Bz (pl mX nil))
def aPT:=c gi awX
def aVU:=res (pr (aa awS) (pl mX nil))
def aPU:=c iC (c gi (c gi (c gi awS)))
def akg:=cu (gp 4 8) (cu aRJ (cu aMi (cu aMj (cu aMk (cu aMl nil)))))
def aVV:=cu awP (cu aaD IL)
def aPV:=iW (pu rq7 (pu (ox (pu eN (pu eN Gg))) (pl lV (pu Gg jx))))
def rV:=so aJl
def aJn:=cl aVs (cu aL nil)
def aVW:=cl (ga (pu KS oX)) nil
def aPW:=iW (pu ayR (pu (ox (pu eN (pu eN gZ))) (pl lV (pu gZ jx))))
def aaH:=c jk (cl aeY nil)
def aaI:=cl (ga (pr lV aA)) nil
def Dz:=a 4 aeZ (a 3 mK mK)
def od:=c gi (a 8 aC0 xi)
def aJo:=gc aPV
def aVX:=res (pr Bz (pl ND nil))
def GC:=so aaI
def ar2:=cl (ga (pu KS aA)) nil
def aVY:=cu jj (us 2 (cu Y7 (cu NF (us 194 nil))))
def aPX:=cl (ga (pr lV mL)) nil
def aVZ:=res (pr (rU (c (ra aeZ) aeV)) (pl mX nil))
def pY:=so od
def akh:=cl (so aPT) nil
def aV0:=cl (so aJn) nil
def aPY:=cl (aa (c gb (c gb (a 6 (c gb (c gb (c gb (c gb (c gb xi))))) mK)))) nil
def aJp:=c oc NG
def ae3:=c gi (c gi (c gi (c gi (c gi (c gi (c gi (c gi (c gi (c gi (c gi aaE))))))))))
def uj:=so aPX
def aPZ:=c iC (c iC awU)
def aV1:=cl (ga (pu KS mL)) nil
def aP0:=aa (c gi Dz)
def aP1:=cl (ga (pr lV jF)) nil
def aJq:=cl aPX nil
def aV2:=so (c gb (c gb (c gb (c gb (c gb (c gb (c gb (c gb (cu (gc (cf (fi .i64 (int 1125899906842624)))) aj7)))))))))
def aV3:=c aIT (c iC (c iC (c iC (cl (gl 25 ot) nil))))
def aV4:=rU (c (ra awX) aRS)
def aki:=so aP1
def awY:=c jk (cl jk nil)
def aC4:=res (pr aVQ (pl mX nil))
def aP2:=cl aP1 nil
def RU:=so aV3
def aP3:=afn (pu (nat 183) (cu (rc (cp 2 1)) (cu (rc (cp 3 3)) (cu (rc (cp 4 1)) (cu (rc (cp 5 3)) (cu (rc (cp 6 4)) nil))))))
def aP4:=c gi (c gi (cl (gc (iW (pu aHu (pu (ox (pu eN (pu eN Bg))) (pl lV (pu Bg jx)))))) nil))
def aV5:=c gi (c gi (cl (gc (iW (pu (nat 38) (pu (ox (pu eN (pu eN Bg))) (pl lV (pu Bg jx)))))) nil))
def aP5:=c gi (c gi (cl (gc (iW (pu (nat 39) (pu (ox (pu eN (pu eN Bg))) (pl lV (pu Bg jx)))))) nil))
def aP6:=c gi (c gi (cl (gc (iW (pu (nat 40) (pu (ox (pu eN (pu eN Bg))) (pl lV (pu Bg jx)))))) nil))
def aV6:=res (pu (rU (cu (rc (cp 0 5)) aka)) (pu nil (cl ln nil)))
def aP7:=cl (zp aP1) nil
def GD:=cl aki nil
def aC5:=c gi (c gi (c gi (c gi aPT)))
def aV7:=cl (cl (ga (pu KS jF)) nil) nil
def ae4:=so (c gi (c gi (cl (gc (iW (pu (nat 29) (pu (ox (pu eN (pu eN Bg))) (pl lV (pu Bg jx)))))) nil)))
def awZ:=so (c gi (c gi (cl (gc (iW (pu (nat 28) (pu (ox (pu eN (pu eN Bg))) (pl lV (pu Bg jx)))))) nil)))
def aC6:=so (c gi (c gi (cl (gc (iW (pu (nat 41) (pu (ox (pu eN (pu eN Bg))) (pl lV (pu Bg jx)))))) nil)))
def akj:=so (cu aL ar1)
def aV8:=cu mJ (xs 5 (cu mJ aVM))
def aV9:=cu fK (cu fK aP7)
def akk:=cu (so ar1) (cl zt nil)
def aw0:=cu fK (cu fK (cu fK (cu fK (cu fK (cu fK (cu fK (cu fK (cu fK (cu fK (cu fK aJh))))))))))
def aP8:=c gi (c gi (c gb (c gb (c gi (c gi (c gi (c gb (c gb aPP))))))))
def aC7:=cu Un (cu Un (cu Un (cu Un (cu Un (cu Un (cu Un (cu Un (cu Un (cu Un (cu Un (cu Un aVu)))))))))))
def aP9:=c gi (c gi (c gi (a 10 Dz (cl (gc (CB 20 10)) nil))))
def aWa:=c gH (c gH (c gH (c gH (c gH (c gH (c gH (c gH (c gH jF))))))))
def aC8:=so (c gi (c gi (c gi (c gi aC5))))
def ar3:=a 5 ln (c gi (c (gc (iW (pu (nat 22) (pu (ox (pu eN (pu eN gZ))) (pl lV (pu gZ jx)))))) nx))
def aWb:=a 5 ln (c gi (c (gc (iW (pu (nat 23) (pu (ox (pu eN (pu eN gZ))) (pl lV (pu gZ jx)))))) nx))
def aWc:=a 5 ln (c gi (c (gc (iW (pu (nat 24) (pu (ox (pu eN (pu eN gZ))) (pl lV (pu gZ jx)))))) nx))
def aWd:=a 5 ln (c gi (c (gc (iW (pu (nat 25) (pu (ox (pu eN (pu eN gZ))) (pl lV (pu gZ jx)))))) nx))
def aWe:=a 5 ln (c gi (c (gc (iW (pu (nat 26) (pu (ox (pu eN (pu eN gZ))) (pl lV (pu gZ jx)))))) nx))
def aWf:=a 5 ln (c gi (c (gc (iW (pu (nat 32) (pu (ox (pu eN (pu eN gZ))) (pl lV (pu gZ jx)))))) nx))
def aC9:=a 5 ln (c gi (c (gc (iW (pu (nat 33) (pu (ox (pu eN (pu eN gZ))) (pl lV (pu gZ jx)))))) nx))
def aJr:=a 5 ln (c gi (c (gc (iW (pu (nat 34) (pu (ox (pu eN (pu eN gZ))) (pl lV (pu gZ jx)))))) nx))
def aJs:=a 5 ln (c gi (c (gc (iW (pu (nat 35) (pu (ox (pu eN (pu eN gZ))) (pl lV (pu gZ jx)))))) nx))
def aJt:=a 5 ln (c gi (c (gc (iW (pu (nat 36) (pu (ox (pu eN (pu eN gZ))) (pl lV (pu gZ jx)))))) nx))
def aJu:=a 5 ln (c gi (c (gc (iW (pu (nat 37) (pu (ox (pu eN (pu eN gZ))) (pl lV (pu gZ jx)))))) nx))
def aQa:=a 5 ln (c gi (c (gc (iW (pu (nat 38) (pu (ox (pu eN (pu eN gZ))) (pl lV (pu gZ jx)))))) nx))
def aWg:=a 5 ln (c gi (c (gc (iW (pu (nat 39) (pu (ox (pu eN (pu eN gZ))) (pl lV (pu gZ jx)))))) nx))
def IN:=so aWb
def IP:=so aWc
def IQ:=so aWd
def IT:=so aWe
def IU:=so (a 5 ln (c gi (c (gc (iW (pu (nat 27) (pu (ox (pu eN (pu eN gZ))) (pl lV (pu gZ jx)))))) nx)))
def ae5:=so (a 5 ln (c gi (c (gc (iW (pu (nat 28) (pu (ox (pu eN (pu eN gZ))) (pl lV (pu gZ jx)))))) nx)))
def aDa:=so aJr
def aaJ:=so aJs
def aaK:=so aJt
def aaL:=so aJu
def ae6:=so aQa
def ar4:=so aWg
def aDb:=so (a 5 ln (c gi (c (gc (iW (pu (nat 40) (pu (ox (pu eN (pu eN gZ))) (pl lV (pu gZ jx)))))) nx)))
def aDc:=c gH (c gH (c gH (c gH aWa)))
def aWh:=cu aL (cu aL (cu aL ar1))
def aaM:=ac (cfs (pr hole (pu aHu aWa)))
def aWi:=c jk (c jk (c mY IL))
def aWj:=cu th (cu th (cu th (cu aJc (c ai (c ai (cl ai (cu th (cu aJc nil))))))))
def aWk:=xs 3 (us 2 (xs 3 (us 2 (xs 3 (us 2 (xs 3 (us 2 (xs 3 (us 2 (xs 3 (us 2 (xs 3 (us 2 (xs 3 (us 2 (xs 3 (us 2 (xs 3 (us 2 aPC)))))))))))))))))))
def Vg:=cu rq6 (cu rq9 (cu rq8 (cu (nat 7) (cu Gg (cu gZ (cu aHv (cu aMd (cu aMc (cu aMb (cu aMa (cu aL9 (cu aL8 (cu Bg (cu eN (cu (nat 10) nil)))))))))))))))
def aJv:=c gH (c gH (c gH aDc))
def aWl:=so (cl (ga (pr lV aDc)) nil)
def aWm:=so (c gi (c gi (c gi (cl gi aWh))))
def aWn:=cu fK (cu fK (cu fK (cu fK (cu fK (cu fK (cu fK (cu fK (cu fK (cl aC1 (cu fK aJh))))))))))
def aQb:=cu fK (cu fK (cu fK (cu fK (cu fK (cu fK (cu fK (cu fK (cu fK (cl aC1 aVD)))))))))
def aQc:=cu fK aWn
def aDd:=cu eN (cu rq6 (cu rq9 (cu rq8 (cu (nat 7) (cu Gg (cu gZ (cu aHv (cu aMd (cu aMc (cu aMb (cu aMa (cu aL9 (cu aL8 (cu (nat 12) (cu rq7 (cu Bg (cu rq4 (cu (nat 10) nil))))))))))))))))))
def aJw:=cu aL (cu aL aWh)
def xq:=c gi (c gi (c gi (c gi (a 6 aPA (a 6 aPA aPZ)))))
def aWo:=res (pu Qs (pl aQc nil))
def aWp:=res (pu (ac (iW (pu Ar (pu vT (pu (szl rq7) (pu (nat 27) jx)))))) (pr mX (cl (c iC (c gi (c gi (c gi aPU)))) nil)))
def ae7:=cu eN (cu Ar (cu rq4 (cu rq7 (cu rq6 (cu rq9 (cu rq8 (cu (nat 7) (cu Gg (cu gZ (cu (nat 10) (cu Bg (cu (nat 12) (cu aL8 (cu aL9 (cu aMa (cu aMb (cu aMc (cu aMd (cu aHv (cu aHu nil))))))))))))))))))))
def aWq:=cu aL (cu aL (cu aL (cu aL (cu aL (cl gi (cu (gc (iW (pu aL9 (pu vT (pu KS (pu gZ jx)))))) akb))))))
def aWr:=cu aL (cu aL (cu aL (cu aL (cu aL (cl gi (cu (gc (iW (pu aMa (pu vT (pu KS (pu gZ jx)))))) akb))))))
def aWs:=cu aL (cu aL (cu aL (cu aL (cu aL (cl gi (cu (gc (iW (pu aMb (pu vT (pu KS (pu gZ jx)))))) akb))))))
def aWt:=cu aL (cu aL (cu aL (cu aL (cu aL (cl gi (cu (gc (iW (pu aMc (pu vT (pu KS (pu gZ jx)))))) akb))))))
def aWu:=cu aL (cu aL (cu aL (cu aL (cu aL (cl gi (cu (gc (iW (pu aMd (pu vT (pu KS (pu gZ jx)))))) akb))))))
def aQd:=cl gi (cu aL (cu aL (cu aL (cu aL (cu aL (cu aL aVS))))))
def akl:=so (cu aU1 (cu aL (c gi (c gi (c gi (c gi (c gi (c gi (c gi (c gi (c gi (c gi (c gi (c gi (c gi (c gi (c iC (c iC (cu (gc (cf (fi .i64 (int 20000)))) aJg)))))))))))))))))))
def aWv:=so (cu aL (cu aL aJw))
def aQe:=au 6 akg (cu atS (a 4 Ev (cu atT (c gb (c gi (a 3 mK (c gb (c gb (c gb (c gi (c gi (c gi (a 10 Dz (cl (gc (iW (pu (nat 22) (pu (ox (pu eN (pu eN (nat 10)))) (pl lV (pu (nat 10) jx)))))) nil))))))))))))))
def aWw:=au 6 (cu (gp 23 8) (cu (gp 24 8) (cu (gp 25 8) (cu aRP (cu aRQ (cu aRR nil)))))) (cu (gp 29 37) (a 4 Ev (cu (gp 30 3) (c gb (c gi (a 3 mK (c gb (c gb (c gb (c gi (c gi (c gi (a 10 Dz (cl (gc (iW (pu (nat 31) (pu (ox (pu eN (pu eN (nat 10)))) (pl lV (pu (nat 10) jx)))))) nil))))))))))))))
def aWx:=au 6 (cu (gp 24 8) (cu (gp 25 8) (cu aRP (cu aRQ (cu aRR (cu (gp 29 8) nil)))))) (cu (gp 30 37) (a 4 Ev (cu (gp 31 3) (c gb (c gi (a 3 mK (c gb (c gb (c gb (c gi (c gi (c gi (a 10 Dz (cl (gc (iW (pu (nat 32) (pu (ox (pu eN (pu eN (nat 10)))) (pl lV (pu (nat 10) jx)))))) nil))))))))))))))
def aQf:=cu aU1 (cu (gc (cf (fi .i64 (int 40000)))) (cu (gc (cf (fi .i64 (int 16)))) (cu (gc aUS) (c gi (c gi (c gi (c gi (c gi (c gi (c gi (c gi (c gi (c gi (c gi (c gi (c iC (cl iC (cu (gc (cf (fi .i64 (int 5000000)))) (cu (gc (cf (fi .i64 (int 68719476736)))) (cu (gc awM) (cu (gc (cf (fi .i64 (int 268435456)))) (cu (gc (cf (fi .i64 (int 32)))) ar1))))))))))))))))))))))
def aWy:=st (pr (us 4 (cu aMm (cu aCL (us 8 (cu (app 5 3) (cu (app 6 3) (cu (app 7 4) (cu (app 8 4) aUK)))))))) (pl (c (so ae1) (c cD (c aki (cu awP (cu aaD (c zt (c zt (c xo (cl xo nil))))))))) aCR))
def ar5:=a 26 xq (c gb (c iC (a 2 zw (cu (gp 2 5) (cu (gp 3 10) (c (gc (CB 4 8)) (au 6 (cu aRJ (cu aMi (cu aMj (cu aMk (cu aMl (cu (gp 10 8) nil)))))) (cu (gp 11 37) (a 4 Ev (cu (gp 12 3) (c gb (c gi (a 3 mK (c gb (c gb (c gb (c gi (c gi (c gi (a 10 Dz (cl (gc (CB 13 10)) nil)))))))))))))))))))))
def vU:=a 26 xq (c gb (c iC (a 2 zw (cu aj5 (cu aj6 (c aIR (au 6 akg (cu atS (a 4 Ev (cu atT (c gb (c gi (a 3 mK (c gb (c gb (c gb (c gi (c gi (c gi (a 10 Dz (cl (gc (CB 12 10)) nil)))))))))))))))))))))
def aWz:=zp (a 26 xq (c gb (c iC (a 2 zw (cu aj5 (cu aj6 (c aIR (au 6 akg (cu atS (a 4 Ev (cu atT (c gb (c gi (a 3 mK (c gb (c gb (c gb aP9)))))))))))))))))
def aJx:=c aPX (c aaI (c aaI (c aaI (c aaI (c aaI (c aaI aP2))))))
def aWA:=c aV1 (c ar2 (c ar2 (c ar2 (c ar2 (c ar2 (c ar2 aV7))))))
def IV:=c uj (c GC (c GC (c GC (c GC (c GC (c GC GD))))))
def aWB:=a 26 xq (c gb (c iC (a 2 zw (cu (gp 20 5) (cu (gp 21 10) (c (gc (iW (pu (nat 22) (pr akc (pl lV (pu Gg jx)))))) aWw))))))
def aQg:=a 26 xq (c gb (c iC (a 2 zw (cu (gp 21 5) (cu (gp 22 10) (c (gc (iW (pu (nat 23) (pr akc (pl lV (pu Gg jx)))))) aWx))))))
def aQh:=a 26 xq (c gb (c iC (a 2 zw (cu (gp 22 5) (cu (gp 23 10) (c (gc (iW (pu (nat 24) (pr akc (pl lV (pu Gg jx)))))) (au 6 (cu (gp 25 8) (cu aRP (cu aRQ (cu aRR (cu (gp 29 8) (cu (gp 30 8) nil)))))) (cu (gp 31 37) (a 4 Ev (cu (gp 32 3) (c gb (c gi (a 3 mK (c gb (c gb (c gb (c gi (c gi (c gi (a 10 Dz (cl (gc (iW (pu (nat 33) (pu (ox (pu eN (pu eN (nat 10)))) (pl lV (pu (nat 10) jx)))))) nil)))))))))))))))))))))
def aQi:=so (a 26 xq (c gb (c iC (a 2 zw (cu aj5 (cu aj6 (c (gc aJm) aQe)))))))
def aDe:=so (a 26 xq (c gb (c iC (a 2 zw (cu (gp 23 5) (cu (gp 24 10) (c (gc (iW (pu (nat 25) (pr akc (pl lV (pu Gg jx)))))) (au 6 (cu aRP (cu aRQ (cu aRR (cu (gp 29 8) (cu (gp 30 8) (cu (gp 31 8) nil)))))) (cu (gp 32 37) (a 4 Ev (cu (gp 33 3) (c gb (c gi (a 3 mK (c gb (c gb (c gb (c gi (c gi (c gi (a 10 Dz (cl (gc (iW (pu (nat 34) (pu (ox (pu eN (pu eN (nat 10)))) (pl lV (pu (nat 10) jx)))))) nil))))))))))))))))))))))
def aDf:=so (a 26 xq (c gb (c iC (a 2 zw (cu aj5 (cu aj6 (c aJo aQe)))))))
def aw1:=so (a 26 xq (c gb (c iC (a 2 zw (cu aj5 (cu aj6 (c aJo (au 6 akg (cu atS (a 4 Ev (cu atT (c gb (c gi (a 3 mK (c gb (c gb (c gb (c gi (c gi (c gi (a 10 Dz (cl (gc (iW (pu ayR (pu (ox (pu eN (pu eN (nat 10)))) (pl lV (pu (nat 10) jx)))))) nil))))))))))))))))))))))
def aQj:=a 26 xq (c gb (c iC (a 2 zw (cu aj5 (cu aj6 (c aJo (au 6 akg (cu atS (a 4 Ev (cu atT (cu awO (c gi (a 3 mK (cu awO (c gb (c gb (c gi (c gi (c gi (a 10 Dz (cl (gc (iW (pu (nat 12) (pu (ox (pu eN (pu eN (nat 10)))) (pl lV (pu (nat 10) jx)))))) nil)))))))))))))))))))))
def ar6:=res (pu Qs (pl (c (zp vU) aWn) nil))
def aWC:=res (pu Qs (pr (cl aWz (cu fK (cu fK (cu fK (cu fK (cu fK (cu fK (cu fK (cu fK (cu fK (cu fK aVD))))))))))) aJq))
def aWD:=c mZ (c od (c aJl (c aWf (c aC9 (c aJr (c aJs (c aJt (c aJu (c ny (c aV5 aJx))))))))))
def aWE:=c mZ (c od (c aJl (c aC9 (c aJr (c aJs (c aJt (c aJu (c aQa (c ny (c aP5 aJx))))))))))
def akm:=c (so (a 26 xq (c gb (c iC (a 2 zw (cu (gp 3 5) (cu (gp 4 10) (c (gc (iW (pu rq9 (pr akc (pl lV (pu Gg jx)))))) (au 6 (cu aMi (cu aMj (cu aMk (cu aMl (cu (gp 10 8) (cu (gp 11 8) nil)))))) (cu (gp 12 37) (a 4 Ev (cu (gp 13 3) (c gb (c gi (a 3 mK (c gb (c gb (c gb (c gi (c gi (c gi (a 10 Dz (cl (gc (iW (pu aL9 (pu (ox (pu eN (pu eN (nat 10)))) (pl lV (pu (nat 10) jx)))))) nil))))))))))))))))))))))) (c pX (c pY (c rV (c (so (a 5 ln (c gi (c (gc (iW (pu aMa (pu (ox (pu eN (pu eN gZ))) (pl lV (pu gZ jx)))))) nx)))) (c (so (a 5 ln (c gi (c (gc (iW (pu aMb (pu (ox (pu eN (pu eN gZ))) (pl lV (pu gZ jx)))))) nx)))) (c (so (a 5 ln (c gi (c (gc (iW (pu aMc (pu (ox (pu eN (pu eN gZ))) (pl lV (pu gZ jx)))))) nx)))) (c (so (a 5 ln (c gi (c (gc (iW (pu aMd (pu (ox (pu eN (pu eN gZ))) (pl lV (pu gZ jx)))))) nx)))) (c (so (a 5 ln (c gi (c (gc (iW (pu aHv (pu (ox (pu eN (pu eN gZ))) (pl lV (pu gZ jx)))))) nx)))) (c (so (a 5 ln (c gi (c (gc (iW (pu aHu (pu (ox (pu eN (pu eN gZ))) (pl lV (pu gZ jx)))))) nx)))) (c oY (c (so (c gi (c gi (cl (gc (iW (pu ayR (pu (ox (pu eN (pu eN Bg))) (pl lV (pu Bg jx)))))) nil)))) IV)))))))))))
def aQk:=st (pr (cu jj (us 2 (cu Y7 (cu NF (us 178 (cu jj (cu jj (cu aVn aUE)))))))) (pl (c aw1 (c pX (c pY (c rV (c (so ar3) (c IN (c IP (c IQ (c IT (c IU (c oY (c awZ (c uj (cu nO (cu nO (cu nO (cu nO (cu nO (cu nO (cu nO (c Ew IV))))))))))))))))))))) Vg))
def aQl:=st (pr (cu jj (us 2 (cu Y7 (cu NF (us 178 (cu jj (cu jj (cu aVn (c ab (cu jj (cu jj (cu (ac (Hm (pu eN (pu (ok' (nat 411)) Ar)))) (cu (app 11 3) (cu NF (cu jj (cu jj (cu (ac (Hm (pu eN (pu (ok' (nat 73)) (nat 24))))) (c lW (cu (app 20 1) zq))))))))))))))))))) (pl (c aw1 (c pX (c pY (c rV (c (so ar3) (c IN (c IP (c IQ (c IT (c IU (c oY (c awZ (c uj (cu nO (cu nO (cu nO (cu nO (cu nO (cu nO (cu nO (c Ew IV))))))))))))))))))))) Vg))
end
open Go.Ab
abbrev TP:=Tryz.prog
abbrev D0 {β δ:Type}(l:List Ct)(n:Nat)(Q:RA β)(R:δ->T)(B:β->Pg δ):Prop:=akn TP l ⟨[],[],[],[],none⟩ 2000 n Q R B
abbrev D1 {β δ:Type}(l:List Ct)(d0:List Nat)(n:Nat)(Q:RA β)(R:δ->T)(B:β->Pg δ):Prop:=akn TP l ⟨[],[],d0,[],none⟩ 2000 n Q R B
abbrev D2 {β δ:Type}(k:KK)(Q:RA β)(R:δ->T)(B:β->Pg δ):Prop:=akn TP k.l k.hs 2000 k.n Q R B
abbrev LI {D X:Type}(k:KK)(id:Nat)(Q:RS D)(E:∀{ρ:Type},X->(AX->St->Option ρ)->Option ρ)(S:D->Pg (D⊕X)):Prop:=aRT TP k.l k.hs k.kk 2000 k.n id Q E S
abbrev JI {D X:Type}(k:KK)(id:Nat)(Q:RS D)(E:∀{ρ:Type},X->(AX->St->Option ρ)->Option ρ)(S:D->Pg X):Prop:=aRU TP k.l k.hs k.kk 2000 k.n id Q E S
section
variable [ax]
abbrev SC (e:Ct):Prop:=Snd TP e
theorem sc {e:Ct}{n:Nat}{F:Ey}(S:Sound TP n F)(h:e=(n,F):=by kernel_rfl):SC e:=Snd.of S h
theorem k0 {β δ:Type}{l:List Ct}{d0:List Nat}{n:Nat}{Q:RA β}{R:δ->T}{B:β->Pg δ}(hl:IW TP l)(h:akn TP l ⟨[],[],d0,[],none⟩ 2000 n Q R B)(hc:FG TP n=true:=by kernel_rfl):Sound TP n (FC Q R λb=>(B b).val):=mk0 mixed hl hc h
theorem s0 {β δ:Type}{e:Ct}{l:List Ct}{d0:List Nat}{n:Nat}{Q:RA β}{R:δ->T}{B:β->Pg δ}(hl:IW TP l)(h:akn TP l ⟨[],[],d0,[],none⟩ 2000 n Q R B)(he:e=(n,FC Q R λb=>(B b).val):=by kernel_rfl)(hc:FG TP n=true:=by kernel_rfl):SC e:=Snd.of (mk0 mixed hl hc h) he
theorem kS {β δ:Type}{k:KK}{Q:RA β}{R:δ->T}{B:β->Pg δ}(hl:IW TP k.l)(i j:List Nat)
  (h1:Bh (λa=>∀kk,NH TP (Ez k.l) k.hs (tmpsOf TP k.n) kk 2000 a) (i.map (Y8 TP k.n)))
  (h2:Bh (λb=>∀kk,atV TP (Ez k.l) k.hs (tmpsOf TP k.n) kk 2000 b) (j.map (ae8 TP k.n)))
  (h:D2 k Q R B)(e1:KU (Y9 TP k.n)=i.map (Y8 TP k.n):=by kernel_rfl)(e2:KV k.hs (Y9 TP k.n)=j.map (ae8 TP k.n):=by kernel_rfl)(hc:FG TP k.n=true:=by kernel_rfl):
  Sound TP k.n (FC Q R λb=>(B b).val):=mkS mixed hl hc (KW.by e1 h1 e2 h2) h
theorem kL {D X:Type}{k:KK}{id:Nat}{Q:RS D}{E:∀{ρ:Type},X->(AX->St->Option ρ)->Option ρ}{S:D->Pg (D⊕X)}(h:LI k id Q E S)
  (h0:apC k.hs (Y8 TP k.n id)=some (fY id k.kk Q E (bw S 2000)):=by kernel_rfl):∀k',NH TP (Ez k.l) k.hs (tmpsOf TP k.n) k' 2000 (Y8 TP k.n id):=mkL h0 h
theorem kJ {D X:Type}{k:KK}{id:Nat}{Q:RS D}{E:∀{ρ:Type},X->(AX->St->Option ρ)->Option ρ}{S:D->Pg X}(hd:Hd)(h:JI k id Q E S)
  (h0:ayY k.hs (ae8 TP k.n id)=some ⟨hd,fY id k.kk Q E λd=>(S d).val⟩:=by kernel_rfl):∀k',atV TP (Ez k.l) k.hs (tmpsOf TP k.n) k' 2000 (ae8 TP k.n id):=mkJ h0 h
theorem kN {k:KK}{c:Code}(h:apC k.hs c=none:=by kernel_rfl):∀k',NH TP (Ez k.l) k.hs (tmpsOf TP k.n) k' 2000 c:=NH.no h
end
end Go.Proofs.YtldgljclcgaibaaGreat
namespace Go.Ab
variable [ax]
omit [ax] in
theorem azn:∀{h:List af} {cs:List Ch} {j:Nat},cs[j]? =some .kill->(((after h cs)[j]?).getD none)=none
 | [],cs,j,_=>by simp[after]
 |b0::bs,[],j,h=>by simp at h
 |b0::bs,c::cs,0,h=>by
  simp only[aDg,jY] at h;subst h;simp[after]
 |b0::bs,c::cs,j+1,h=>by
  have:=azn (h:=bs) (cs:=cs) (j:=j) (by simpa using h);cases c<;>simpa[after] using this
theorem axy {P:Program}{π:Pi}{w w':World}{h:List af}{cs:List Ch}{k:af}{val:AV}{v:Value}{B s e:Nat}(hH:rW π (hC (h.map some)) (hZ (h.map some)) w)(kj:∀b,π b≠none->b<h.length)
  (I2:∀b,b<h.length->cs[b]? =some .mT∨cs[b]? =some .kill)(hfr:cg w (CC π h.length (R7 cs)) w')(hle:s+af.size k<=e)(pM:∀i,s<=i->i<e->(cl w' B i).isSome=true/\fz w' B i=false)
  (hk:∀j,j<af.size k->∃v,cl w' B (s+j)=some v/\(af.get k j).rel π v)
  (hpl:(w.heap.size<=B)∨∃b s0 q0 e0,b<h.length/\cs[b]? =some .kill/\π b=some (B,s0,q0,e0)/\s0<=s/\e<=e0)
  (ham:Aw w')(hlb:s<e->ax.h0<=B)(hv:∀π':Pi,Ext π π'->π' h.length=some (B,s,af.size k,e)->val.rel π' v):
  aH4 P π w h ⟨val,cs,[k]⟩ (.returned v) w':=by
 have h0:π h.length=none:=by
  cases hh:π h.length with
  |none=>rfl
  |some p=>exact absurd (kj _ (by rw[hh];simp)) (Nat.lt_irrefl _)
 have hx:=Ax h0 (B,s,af.size k,e);have axz:=pI π h.length (B,s,af.size k,e);have afI:∀b,b≠h.length->Ai π h.length (B,s,af.size k,e) b=π b:=λb hb=>by simp only[Ai,if_neg hb]
 have a0g:(o9.heap ⟨val,cs,[k]⟩ h)[h.length]? =some (some k):=aaZ (r:=⟨val,cs,[k]⟩) (h:=h) (k:=0) rfl;have hlen:(o9.heap ⟨val,cs,[k]⟩ h).length=h.length+1:=by simp[o9.heap,nA]
 have live:∀b,hZ (o9.heap ⟨val,cs,[k]⟩ h) b≠none->b=h.length∨(b<h.length/\cs[b]? =some .mT/\∃kb,h[b]? =some kb/\(o9.heap ⟨val,cs,[k]⟩ h)[b]? =some (some kb)):=λb hb=>by
  rcases afa b h.length with nR|heq|hgt
  .right
   rcases I2 b nR with hc|hc
   .have hkb:h[b]? =some (h[b]'nR):=kE _;exact⟨nR,hc,_,hkb,(Dj nR).trans (afE.2 hc _ hkb)⟩
   .exfalso;apply hb
    unfold hZ;rw[Dj nR,azn hc];rfl
  .exact .inl heq
  .exfalso;apply hb
   unfold hZ;rw[IX (by omega)];rfl
 have kept:∀b kb,b<h.length->cs[b]? =some .mT->h[b]? =some kb->∃Bb sb eb,π b=some (Bb,sb,af.size kb,eb)/\sb+af.size kb<=eb/\
   (∀i,sb<=i->i<eb->(cl w' Bb i).isSome=true/\fz w' Bb i=false)/\(∀j,j<af.size kb->∃v,cl w' Bb (sb+j)=some v/\(af.get kb j).rel π v)/\∀i,sb<=i->i<eb->Bb<w.heap.size/\¬CC π h.length (R7 cs) Bb i:=λb kb nR hc hkb=>by
  have hzb:hZ (h.map some) b=some (af.size kb):=by rw[PI,hkb];rfl
  obtain⟨Bb,sb,eb,p1,p2,p3,p4⟩:=hH.hp b _ hzb
  have hnf:∀i,sb<=i->i<eb->Bb<w.heap.size/\¬CC π h.length (R7 cs) Bb i:=λi i1 i2=>by
   refine⟨aaY (p3 i i1 i2).1,?_⟩;rintro ⟨b2,s2,q2,e2,ED,hd2,hp2,j1,j2⟩
   have oe:b≠b2:=λe=>by subst e;exact hd2 hc
   have hz2:hZ (h.map some) b2≠none:=by
    rw[PI,kE ED];simp
   exact hH.dj b b2 Bb sb _ eb s2 q2 e2 oe (by rw[hzb];simp) hz2 p1 hp2 i i1 i2 j1 j2
  refine⟨Bb,sb,eb,p1,p2,λi i1 i2=> ?_,λj hj=> ?_,hnf⟩
  .obtain⟨hB,hn⟩:=hnf i i1 i2;rw[hfr.cl hB hn,hfr.fz hB];exact p3 i i1 i2
  .obtain⟨v,hv1,hv2⟩:=p4 j hj;obtain⟨hB,hn⟩:=hnf (sb+j) (by omega) (by omega);refine⟨v,by rw[hfr.cl hB hn];exact hv1,?_⟩;rw[aCA hkb hj] at hv2;exact hv2
 have apart:∀b kb Bb sb qb eb,b<h.length->cs[b]? =some .mT->h[b]? =some kb->π b=some (Bb,sb,qb,eb)->Bb=B->∀i,sb<=i->i<eb->s<=i->i<e->False:=λb kb Bb sb qb eb nR hc hkb hpb hBB i i1 i2 i3 i4=>by
  obtain⟨B1,s1,e1,q1,_,_,_,q5⟩:=kept b kb nR hc hkb;rw[hpb] at q1;cases q1;obtain⟨hB,hn⟩:=q5 i i1 i2;rcases hpl with hpl| ⟨b2,s2,q2,e2,ED,hc2,hp2,j1,j2⟩
  .omega
  .apply hn
   rw[hBB];exact⟨b2,s2,q2,e2,ED,by unfold R7;rw[hc2];simp,hp2,by omega,by omega⟩
 refine⟨Ai π h.length (B,s,af.size k,e),v,rfl,hx,hv _ hx axz,⟨ham,λb B1 s1 q1 e1 hz hp Be=> ?_,λb n hz=> ?_,λb b' B1 s1 q1 e1 s2 q2 e2 oe hz tZ hp uk i i1 i2 i3 i4=> ?_⟩,hfr,λb hb=> ?_,λb B1 s1 q1 e1 a2n hb hB i i1 i2=> ?_⟩
 .rcases live b hz with rfl| ⟨nR,hc,kb,hkb,_⟩
  .rw[axz] at hp;cases hp;exact hlb Be
  .rw[afI b (by omega)] at hp;exact hH.lb b B1 s1 q1 e1 (by rw[PI,hkb];simp) hp Be
 .rcases live b (by rw[hz];simp) with rfl| ⟨nR,hc,kb,hkb,hgb⟩
  .rw[Zm a0g] at hz;cases hz;refine⟨B,s,e,axz,hle,pM,λj hj=> ?_⟩;obtain⟨v,hv1,hv2⟩:=hk j hj;refine⟨v,hv1,?_⟩;rw[afF a0g hj];exact CV.dK hx _ _ hv2
  .rw[Zm hgb] at hz;cases hz;obtain⟨Bb,sb,eb,p1,p2,p3,p4,_⟩:=kept b kb nR hc hkb;refine⟨Bb,sb,eb,by rw[afI b (by omega)];exact p1,p2,p3,λj hj=> ?_⟩;obtain⟨v,hv1,hv2⟩:=p4 j hj;refine⟨v,hv1,?_⟩;rw[afF hgb hj];exact CV.dK hx _ _ hv2
 .rcases live b hz with rfl| ⟨nR,hc,kb,hkb,_⟩
  .rcases live b' tZ with rfl| ⟨a0h,hc',kb',aXC,_⟩
   .exact oe rfl
   .rw[axz] at hp;cases hp;rw[afI b' (by omega)] at uk;exact apart b' kb' _ _ _ _ a0h hc' aXC uk rfl i i3 i4 i1 i2
  .rw[afI b (by omega)] at hp;rcases live b' tZ with rfl| ⟨a0h,hc',kb',aXC,_⟩
   .rw[axz] at uk;cases uk;exact apart b kb _ _ _ _ nR hc hkb hp rfl i i1 i2 i3 i4
   .rw[afI b' (by omega)] at uk;have hz1:hZ (h.map some) b≠none:=by rw[PI,hkb];simp
    have hz2:hZ (h.map some) b'≠none:=by rw[PI,aXC];simp
    exact hH.dj b b' B1 s1 q1 e1 s2 q2 e2 oe hz1 hz2 hp uk i i1 i2 i3 i4
 .show b<h.length+1;by_cases e:b=h.length
  .omega
  .rw[afI b e] at hb;have:=kj b hb;omega
 .by_cases e':b=h.length
  .subst e';rw[axz] at hb;cases hb;rcases hpl with hpl| ⟨b2,s2,q2,e2,ED,hc2,hp2,j1,j2⟩
   .omega
   .exact⟨b2,s2,q2,e2,ED,by unfold R7;rw[hc2];simp,hp2,by omega,by omega⟩
  .rw[afI b e'] at hb;have:=kj b (by rw[hb];simp);omega
end Go.Ab
