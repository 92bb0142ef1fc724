/-
  Parts of the proof: AbW AbY AbZ AbNil AbPg AbLaw AbInv PI Tot TPw THb Bits VBits Bits4 PK SLA
-/
import Derived.Test.YtldgljclcgaibaaGreatZAD
import Derived.Deep.Slices
import Derived.Laws.Externs
import Derived.Test.YtldgljclcgaibaaGreatRows
open Nat renaming beq→ww,ble→wd
open Int renaming ofNat→wl
open Sum renaming elim→t8
set_option linter.all false
namespace Go.Ab
variable [ax]
open Go.ChangeShapes Go.WideShapes Go.Deep
inductive K where
 |b
 |i (k:IntKind)
 |s
 |u
 |q
def K.has:K->FV->Prop
 |.b,.b _=>True
 |.i k,.i k' n=>k'=k/\k.has n
 |.s,.s _=>True
 |.u,.u=>True
 |.q,.q n _=>n<=maxLen
 |_,_=>False
def K.oi:K->Nat->cT->Prop
 |.b,_,.b _=>True
 |.i k,n,.i k' g=>k'=k/\∀j,j<n->k.has (g j)
 |.s,_,.s _=>True
 |.u,_,.u=>True
 |.q,n,.q g _=>∀j,j<n->g j<=maxLen
 |_,_,_=>False
def Uc {α:Type}:Nat->List α->List α
 |0,_=>[]
 |n+1,l=>l++Uc n l
def ak6 (P:Program)(g:TypeId->Option (List K)):List Field->List K->Option (List K)
 | [],acc=>some acc
 |f::fs,acc=>match g f.type with
  |some ks=>match ww f.offset acc.length&&ww (P.cellsOf f.type) ks.length with
   |true=>ak6 P g fs (acc++ks)
   |false=>none
  |none=>none
def LM (P:Program):Nat->TypeId->Option (List K)
 |0,_=>none
 |d+1,t=>match P.underlying t with
  |some .bool=>some [.b]
  |some (.int k)=>some [.i k]
  |some .string=>some [.s]
  |some (.struct fs)=>match ak6 P (LM P d) fs.toList [] with
   |some ks=>match ww (P.cellsOf t) ks.length with
    |true=>some ks
    |false=>none
   |none=>none
  |some (.array n e)=>match LM P d e with
   |some ks=>match ww (P.cellsOf e) ks.length&&ww (P.cellsOf t) (n*ks.length) with
    |true=>some (Uc n ks)
    |false=>none
   |none=>none
  |some (.slice e)=>match P.underlying e with
   |some .bool=>match ww (P.cellsOf e) 1 with
    |true=>some [.q]
    |false=>some [.u]
   |_=>some [.u]
  |_=>none
section
variable {H:Type} {enc:TypeId×Value->H} {P:Program} {W:World} {base:Nat} {spare:Nat->Bool} {held:Bool}
theorem auv {ks ks':List K}{cs Su:List Value}(h:∃fs,bl K.has ks fs/\bl FV.rel fs cs)(h':∃fs,bl K.has ks' fs/\bl FV.rel fs Su):∃fs,bl K.has (ks++ks') fs/\bl FV.rel fs (cs++Su):=by
 obtain⟨fs,a,b⟩:=h;obtain⟨fs',a',b'⟩:=h';exact⟨fs++fs',a.append a',b.append b'⟩
theorem ap0 {d:Nat}(ih:∀{t:TypeId} {ks:List K} {fuel:Nat} {cs:List Value} {x:DataW H×List MemPlace},LM P d t=some ks->DataW.trod enc P W base spare held fuel t cs=some x->∃fs,bl K.has ks fs/\bl FV.rel fs cs){n:Nat}{cs:List Value}:
  ∀{l:List Field} {acc ks:List K},ak6 P (LM P d) l acc=some ks->(∀f∈l,∃y,DataW.trod enc P W base spare held n f.type ((cs.drop f.offset).take (P.cellsOf f.type))=some y)->acc.length<=cs.length->
   (∃fs,bl K.has acc fs/\bl FV.rel fs (cs.take acc.length))->ks.length<=cs.length/\∃fs,bl K.has ks fs/\bl FV.rel fs (cs.take ks.length)
 | [],acc,ks,h,_,hl,ha=>by
  simp only[ak6] at h;cases h;exact⟨hl,ha⟩
 |f::l,acc,ks,h,hf,hl,ha=>by
  simp only[ak6] at h;split at h
  .rename_i kf hk
   split at h
   .rename_i hc
    simp only[cx] at hc;have e1:=nQ hc.1;have e2:=nQ hc.2;obtain⟨y,hy⟩:=hf f (by simp);obtain⟨fs,f1,f2⟩:=ih hk hy
    have hlen:kf.length=min (P.cellsOf f.type) (cs.length-f.offset):=by
     have h1:=f1.length;have h2:=f2.length;simp at h2
     omega
    have hle:acc.length+kf.length<=cs.length:=by omega
    refine ap0 ih h (λf' hf'=>hf f' (by simp[hf'])) (by simp;omega) ?_;have:=auv ha ⟨fs,f1,f2⟩;rw[axg,List.take_add];rw[e1,e2] at this;exact this
   .cases h
  .cases h
omit [ax] in
theorem UP {α:Type}(l:List α):∀n,(Uc n l).length=n*l.length
 |0=>by simp[Uc]
 |n+1=>by simp[Uc,UP l n,asp,Nat.add_comm]
omit [ax] in
theorem aib {α:Type}(l:List α):∀n,Uc (n+1) l=Uc n l++l
 |0=>by simp[Uc]
 |n+1=>by
  have h:=aib l n;show l++Uc (n+1) l=Uc (n+1) l++l;rw[h,<-axh,<-h];rfl
theorem LN (hA:∀B i v,cl W B i=some v->ax.fs B i=some v)(hsp:∀b,spare b=true):∀{d:Nat} {t:TypeId} {ks:List K} {fuel:Nat} {cs:List Value} {x:DataW H×List MemPlace},LM P d t=some ks->DataW.trod enc P W base spare held fuel t cs=some x->∃fs,bl K.has ks fs/\bl FV.rel fs cs
 |0,_,_,_,_,_,h,_=>by cases h
 |d+1,t,ks,fuel,cs,x,h,hx=>by
  simp only[LM] at h;split at h
  .rename_i hu
   cases h;obtain⟨b,rfl,_⟩:=DataW.trod_bool hu hx;exact⟨[.b b],⟨trivial,trivial⟩,rfl,trivial⟩
  .rename_i k hu
   cases h;obtain⟨n,rfl,_,hw⟩:=DataW.trod_int hu hx;refine⟨[.i k n],⟨⟨rfl,?_⟩,trivial⟩,rfl,trivial⟩;simp only[Lit.wf,cx,lC] at hw;exact hw
  .rename_i hu
   cases h;obtain⟨s,rfl,_⟩:=DataW.trod_string hu hx;exact⟨[.s s],⟨trivial,trivial⟩,rfl,trivial⟩
  .rename_i fs hu
   split at h
   .rename_i ks' hks
    split at h
    .rename_i hc
     cases h;have hc:=nQ hc;obtain⟨xs,n,_,_,hl,_,hf⟩:=DataW.trod_struct hu hx
     obtain⟨_,r⟩:=ap0 (λh h'=>LN hA hsp h h') hks (n:=n) (cs:=cs) (λf hf'=>by
      obtain⟨i,hi⟩:=List.getElem?_of_mem hf';have:=hf i f (by rw[<-VE];exact hi)
      have hi':i<xs.length:=by
       have h1:=(mi.1 hi).1;simp at h1;omega
      rw[lq hi'] at this;exact⟨_,this⟩) (Nat.zero_le _) ⟨[],trivial,by simp;trivial⟩
     rw[<-hc,<-hl,List.take_length] at r;exact r
    .cases h
   .cases h
  .rename_i n e hu
   split at h
   .rename_i ks' hks
    split at h
    .rename_i hc
     cases h;simp only[cx] at hc;have e1:=nQ hc.1;have e2:=nQ hc.2;obtain⟨xs,m,_,_,hl,hn,hf⟩:=DataW.trod_array hu hx
     have key:∀j,j<=n->∃fs,bl K.has (Uc j ks') fs/\bl FV.rel fs (cs.take (j*ks'.length)):=by
      intro j;induction j with
      |zero=>intro _;exact⟨[],trivial,by simp;trivial⟩
      |succ j ihj=>
       intro hj;have hj':j<xs.length:=by omega
       have:=hf j (by omega);rw[lq hj'] at this;rw[aib,asp,List.take_add];have h2:=LN hA hsp hks this;rw[e1] at h2;exact auv (ihj (by omega)) h2
     have:=key n (dq _);rw[<-e2,<-hl,List.take_length] at this;exact this
    .cases h
   .cases h
  .rename_i e hu
   have un:∃fs,bl K.has [.u] fs/\bl FV.rel fs cs:=by
    rcases open_slice hu hx with⟨rfl,_⟩| ⟨a',aSO,a0O,m,n,D,Pl,rfl,_⟩
    .exact⟨[.u],⟨trivial,trivial⟩,rfl,trivial⟩
    .exact⟨[.u],⟨trivial,trivial⟩,rfl,trivial⟩
   split at h
   .rename_i hb
    split at h
    .rename_i hc
     cases h;have hc:=nQ hc;rcases open_slice1 hu hc hx with⟨rfl,_⟩| ⟨a',aSO,a0O,m,n,V,D,Pl,rfl,_,hle,a0P,hm,_,hi⟩
     .exact⟨[.q 0 λ_=>false],⟨Nat.zero_le _,trivial⟩,.inl ⟨rfl,none,rfl⟩,trivial⟩
     .rw[hsp,if_pos rfl] at hm;subst hm;obtain⟨B,s,sp⟩:=a';refine⟨[.q aSO λj=>match V j with|.bool b=>b|_=>false],⟨cq hle a0P,trivial⟩,?_,trivial⟩;rcases aba m with z|z
      .subst z;have:aSO=0:=by omega
       subst this;exact .inl ⟨rfl,_,rfl⟩
      .have h0:=(hi 0 z).1
       have hs:sp=none:=by
        have e0:Addr.add ⟨B,s,sp⟩ 0=⟨B,s,sp⟩:=rfl;rw[e0] at h0;unfold World.cell? at h0;simp only at h0;split at h0
        .cases sp with
         |none=>rfl
         |some q=>simp at h0
        .cases h0
       subst hs;refine .inr ⟨B,s,m,hle,rfl,λj hj=> ?_⟩;obtain⟨h1,h2⟩:=hi j (by omega);obtain⟨b,Fb,_⟩:=DataW.trod_bool hb h2;have hV:V j=.bool b:=by simpa using Fb
       rw[nL,hV] at h1;rw[hA B (s+j) (.bool b) h1];simp only[hV]
    .cases h;exact un
   .cases h;exact un
  .cases h
theorem aQ4 {ks:List K}{fs:List FV}{cs:List Value}(h1:bl K.has ks fs)(h2:bl FV.rel fs cs){j:Nat}{k:K}(hk:ks[j]? =some k):∃f v,cs[j]? =some v/\k.has f/\f.rel v:=by
 obtain⟨f,hf,r1⟩:=h1.get hk;obtain⟨v,hv,r2⟩:=h2.get hf;exact⟨f,v,hv,r1,r2⟩
def FV.toN:FV->Nat
 |.q n _=>n
 |_=>0
def FV.toG:FV->Nat->Bool
 |.q _ g=>g
 |_=>λ_=>false
def K.mk:K->(Nat->FV)->cT
 |.b,f=>.b λj=>(f j).toB
 |.i k,f=>.i k λj=>(f j).toI
 |.s,f=>.s λj=>(f j).toS
 |.u,_=>.u
 |.q,f=>.q (λj=>(f j).toN) λj=>(f j).toG
omit [ax] in
theorem K.aXK {k:K}{f:Nat->FV}{j:Nat}(h:k.has (f j)):(k.mk f).at j=f j:=by
 cases k<;>simp only[K.mk,cT.at]<;>revert h<;>cases f j<;>intro h<;>first|exact h.elim|rfl|skip
 rw[h.1];rfl
omit [ax] in
theorem K.aKa {k:K}{f:Nat->FV}{n:Nat}(h:∀j,j<n->k.has (f j)):k.oi n (k.mk f):=by
 cases k<;>simp only[K.mk,K.oi]
 .refine⟨trivial,λj hj=> ?_⟩;have:=h j hj;revert this
  cases f j<;>intro h<;>first|exact h.elim|skip
  exact h.2
 .intro j hj;have:=h j hj;revert this
  cases f j<;>intro h<;>first|exact h.elim|skip
  exact h
inductive PT where
 |c (k:K)
 |a (n:Nat) (ks:List K)
def axF:List PT->List K
 | []=>[]
 |.c k::l=>k::axF l
 |.a n ks::l=>Uc n ks++axF l
def K.beq:K->K->Bool
 |.b,.b=>true
 |.i k,.i k'=>decide (k=k')
 |.s,.s=>true
 |.u,.u=>true
 |.q,.q=>true
 |_,_=>false
omit [ax] in
theorem K.beq_eq {x y:K}(h:x.beq y=true):x=y:=by
 cases x<;>cases y<;>simp only[K.beq] at h<;>first|rfl|cases h|skip
 rw[cQ h]
def aSP:List K->List K->Bool
 | [],[]=>true
 |x::l,y::m=>x.beq y&&aSP l m
 |_,_=>false
omit [ax] in
theorem aNp:∀{l m:List K},aSP l m=true->l=m
 | [],[],_=>rfl
 |x::l,y::m,h=>by
  simp only[aSP,cx] at h;rw[K.beq_eq h.1,aNp h.2]
 | [],_::_,h=>by cases h
 |_::_,[],h=>by cases h
def aKb:List Tm->List K->List PT
 | [],_=>[]
 |.c::l,k::ks=>.c k::aKb l ks
 |.c::_,[]=>[]
 |.a n z::l,ks=>.a n (ks.take z)::aKb l (ks.drop (n*z))
inductive Prm where
 |flat (agg:Bool) (pt:List PT)
 |sl (ks:List K)
inductive DC where
 |c (f:FV)
 |a (cols:List cT)
inductive Dat where
 |flat (l:List DC)
 |sl (n:Nat) (cols:List cT)
def azs:PT->DC->Prop
 |.c k,.c f=>k.has f
 |.a n ks,.a cols=>bl (λk c=>K.oi k n c) ks cols
 |_,_=>False
def Fit:Prm->Dat->Prop
 |.flat _ pt,.flat l=>bl azs pt l
 |.sl ks,.sl n cols=>n<=maxLen/\bl (λk c=>K.oi k n c) ks cols
 |_,_=>False
def sgs:List PT->List DC->af
 |.c _::pt,.c f::l=>.c (.f f)::sgs pt l
 |.a n _::pt,.a cols::l=>.a (.l n) cols::sgs pt l
 |_,_=>[]
def aXL:Bool->af->AV
 |true,b=>.r (.agg b)
 |false,.c v::_=>.r (.c v)
 |false,_=>.VH
def aKc:List Prm->List Dat->List AV
 |.flat a pt::ps,.flat l::ds=>aXL a (sgs pt l)::aKc ps ds
 |.sl ks::ps,.sl n cols::ds=>.r (.c (.fs n ks.length cols))::aKc ps ds
 |_,_=>[]
def aEr (ps:List Prm)(ds:List Dat):Prop:=bl Fit ps ds
def aNq (P:Program)(t:TypeId):Option Prm:=
 match P.underlying t with
 |some (.slice e)=>match LM P 30 e with
  |some ks=>match ww (P.cellsOf e) ks.length&&wd 1 ks.length with
   |true=>some (.sl ks)
   |false=>none
  |none=>none
 |_=>match adp P t,LM P 30 t with
  |some true,some ks=>match aSP (axF (aKb (akN P 30 t) ks)) ks with
   |true=>some (.flat true (aKb (akN P 30 t) ks))
   |false=>none
  |some false,some [k]=>some (.flat false [.c k])
  |_,_=>none
def aKd (P:Program):List TypeId->Option (List Prm)
 | []=>some []
 |t::ts=>match aNq P t,aKd P ts with
  |some p,some ps=>some (p::ps)
  |_,_=>none
theorem aTF {n:Nat}{ks:List K}{fs:List FV}{cs:List Value}(h1:bl K.has (Uc n ks) fs)(h2:bl FV.rel fs cs):
  ∃cols,bl (λk c=>K.oi k n c) ks cols/\∀j,j<n*ks.length->∃v,cs[j]? =some v/\(jg cols j).rel (λ_=>none) v:=by
 have hl:=h1.length;rw[UP] at hl
 have akX:∀i j k,i<n->ks[j]? =some k->∃f,fs[i*ks.length+j]? =some f/\k.has f:=λi j k hi hj=>by
  have hjl:=(mi.1 hj).1
  have key:∀m i,i<m->(Uc m ks)[i*ks.length+j]? =some k:=by
   intro m;induction m with
   |zero=>intro i hi;omega
   |succ m ih=>
    intro i hi;rw[Uc];cases i with
    |zero=>rw[Ss,gy,Ua hjl];exact hj
    |succ i=>
     rw[adn (by rw[asp];omega),show(i+1)*ks.length+j-ks.length=i*ks.length+j by rw[asp];omega];exact ih i (by omega)
  obtain⟨f,hf,hh⟩:=h1.get (key n i hi);exact⟨f,hf,hh⟩
 refine⟨ks.zipIdx.map λp=>p.1.mk λi=>fs.getD (i*ks.length+p.2) .u,?_,λj hj=> ?_⟩
 .refine bl.afM (by simp) λj k c hk hc=> ?_;simp only[BH,aDv,hk,Sq,je] at hc;subst hc;refine K.aKa λi hi=> ?_;obtain⟨f,hf,hh⟩:=akX i j k hi hk;simp only[gy,List.getD,hf,Lt];exact hh
 .have aDL:0<ks.length:=by
   rcases aba ks.length with h|h
   .rw[h] at hj;omega
   .exact h
  have hm:=Nat.mod_lt j aDL;have hq:j/ks.length<n:=(axe aDL).2 hj;have hk:ks[j%ks.length]? =some (ks[j%ks.length]'hm):=lq _;obtain⟨f,hf,hh⟩:=akX (j/ks.length) (j%ks.length) _ hq hk;have hd:=UN j ks.length;rw[hd] at hf;obtain⟨v,hv,hr⟩:=h2.get hf;refine⟨v,hv,?_⟩;unfold jg;simp only[afu,List.length_zipIdx,BH,aDv,hk,Sq,gy];have e:fs.getD (j/ks.length*ks.length+j%ks.length) .u=f:=by rw[hd];simp[List.getD,hf]
  rw[K.aXK (f:=λi=>fs.getD (i*ks.length+j%ks.length) .u) (j:=j/ks.length) (by rw[e];exact hh)];show FV.rel _ v;rw[e];exact hr
omit [ax] in
theorem azt {α β:Type}{R:α->β->Prop}:∀{l l':List α} {m:List β},bl R (l++l') m->bl R l (m.take l.length)/\bl R l' (m.drop l.length)
 | [],l',m,h=>⟨by simp;trivial,by simpa using h⟩
 |a::l,l',[],h=>h.elim
 |a::l,l',b::m,h=>by
  obtain⟨h1,h2⟩:=h;have:=azt (l:=l) (l':=l') (m:=m) h2;exact⟨⟨h1,this.1⟩,this.2⟩
theorem a1J {π π':Pi}{c:CV}{v:Value}(hc:∃x,c=.f x)(h:c.rel π v):c.rel π' v:=by
 obtain⟨x,rfl⟩:=hc;exact h
theorem axG:∀{pt:List PT} {fs:List FV} {cs:List Value},bl K.has (axF pt) fs->bl FV.rel fs cs->∃l,bl azs pt l/\∀π,bl (CV.rel π) (af.list (sgs pt l)) cs
 | [],[],[],_,_=>⟨[],trivial,λ_=>trivial⟩
 | [],_::_,_,h,_=>h.elim
 | [],[],_::_,_,h=>h.elim
 |.c k::pt,[],_,h,_=>h.elim
 |.c k::pt,f::fs,[],_,h=>h.elim
 |.c k::pt,f::fs,v::cs,h1,h2=>by
  obtain⟨l,a,b⟩:=axG h1.2 h2.2;refine⟨.c f::l,⟨h1.1,a⟩,λπ=> ?_⟩;rw[sgs,aDX];exact⟨h2.1,b π⟩
 |.a n ks::pt,fs,cs,h1,h2=>by
  obtain⟨p1,p2⟩:=azt (l:=Uc n ks) (l':=axF pt) h1;rw[UP] at p1 p2;have h3:=h2.take (n*ks.length);have h4:=h2.drop (n*ks.length);obtain⟨cols,c1,c2⟩:=aTF p1 h3;obtain⟨l,a,b⟩:=axG p2 h4;have Ef:=c1.length;have hlen:=h1.length;rw[axF,axg,UP] at hlen;have a4v:=h2.length;refine⟨.a cols::l,⟨c1,a⟩,λπ=> ?_⟩;rw[sgs];obtain⟨l1,l2⟩:=jI (b π);rw[asm] at l1;refine xZ ?_ λj hj=> ?_
  .rw[af.size_cons,Sg.mf,Sz.val,<-Ef];omega
  .rw[af.size_cons] at hj;have hs:(Sg.a (.l n) cols).size=n*ks.length:=by rw[Sg.mf,Sz.val,<-Ef]
   by_cases mj:j<n*ks.length
   .obtain⟨v,hv,hr⟩:=c2 j mj;rw[abb,if_pos mj] at hv;refine⟨v,hv,?_⟩;rw[af.dX (by rw[hs];exact mj),Sg.py];exact a1J (aCJ cols j) hr
   .obtain⟨v,hv,hr⟩:=l2 (j-n*ks.length) (by rw[hs] at hj;omega);rw[Sp,show n*ks.length+(j-n*ks.length)=j by omega] at hv;refine⟨v,hv,?_⟩;rw[af.lH (by rw[hs];omega),hs];exact hr
theorem aNr (hA:∀B i v,cl W B i=some v->ax.fs B i=some v){t e:TypeId}{ks:List K}(hu:P.underlying t=some (.slice e))(hk:LM P 30 e=some ks)(hc:P.cellsOf e=ks.length)(h1k:1<=ks.length){v:Value}{d:DataW H}{ps:List MemPlace}
  (h:DataW.Trod enc P W 0 (λ_=>true) true t v d ps)(hv:Value.okWide P W .any base t v):
  ∃n cols,Fit (.sl ks) (.sl n cols)/\∀π:Pi,(AV.r (.c (.fs n ks.length cols))).rel π v:=by
 obtain⟨fuel,h⟩:=h;obtain⟨a,len,cap,rfl⟩:=okWide_slice hu hv
 have zero:∃cols,bl (λk c=>K.oi k 0 c) ks cols:=⟨ks.map λk=>k.mk λ_=>.u,bl.afM (by simp) λi k c hk hc=>by
  simp only[BH,hk,Sq,je] at hc;subst hc;exact K.aKa λj hj=>by omega⟩
 rcases open_slice hu h with⟨h0,_⟩| ⟨a',aSO,a0O,m,n,D,Pl,h0,_,hle,a0P,hm,hx,hi⟩
 .simp[Value.cells] at h0
  obtain⟨rfl,rfl,rfl⟩:=h0;obtain⟨cols,aXM⟩:=zero;exact⟨0,cols,⟨Nat.zero_le _,aXM⟩,λπ=>⟨aXM.length.symm,.inl ⟨rfl,none,rfl⟩⟩⟩
 .simp[Value.cells] at h0
  obtain⟨rfl,rfl,rfl⟩:=h0
  have aXN:a'.spot=none:=by
   have hv:Cell.okWide P W .any base t (.slice (some a') len cap):=by
    unfold Value.okWide at hv;rw[hu] at hv;exact hv
   have hv:Cell.ok P W .any base t (.slice (some a') len cap):=by
    unfold Cell.okWide at hv;rw[hu] at hv;exact hv
   unfold Cell.ok at hv;rw[hu] at hv;exact hv.2.2.2.1
  obtain⟨B,s,sp⟩:=a';simp only at aXN;subst aXN;simp only[me] at hm;subst hm;have hw:ks.length=P.cellsOf e:=hc.symm
  have cell:∀i j k,i<len->ks[j]? =some k->∃f v,cl W B (s+(i*ks.length+j))=some v/\k.has f/\f.rel v:=λi j k hil hj=>by
   obtain⟨Su,h1,h2⟩:=hi i (by omega);obtain⟨fs,f1,f2⟩:=LN hA (λ_=>rfl) hk h2;obtain⟨f,v,e1,e2,e3⟩:=aQ4 f1 f2 hj;obtain⟨_,_,h3⟩:=World.cells?_some h1;have hjl:=(mi.1 hj).1;have:=h3 j (by omega);rw[nL,nL,e1] at this;exact⟨f,v,by unfold cl;rw[hw,<-BI];exact this,e2,e3⟩
  have hdiv:∀j,j<len*ks.length->j/ks.length<len/\j%ks.length<ks.length/\j/ks.length*ks.length+j%ks.length=j:=λj hj=>by
   refine⟨(axe (by omega)).2 hj,Nat.mod_lt _ (by omega),UN _ _⟩
  have pick:∀j,∃f,j<len*ks.length->∃v k,cl W B (s+j)=some v/\ks[j%ks.length]? =some k/\k.has f/\f.rel v:=λj=>by
   rcases px j (len*ks.length) with hj|hj
   .obtain⟨d1,d2,d3⟩:=hdiv j hj;have hkj:ks[j%ks.length]? =some (ks[j%ks.length]'d2):=lq _;obtain⟨f,v,e1,e2,e3⟩:=cell _ _ _ d1 hkj;rw[d3] at e1;exact⟨f,λ_=>⟨v,_,e1,hkj,e2,e3⟩⟩
   .exact⟨.u,λh=>by omega⟩
  obtain⟨g,hg⟩:=Classical.axiomOfChoice pick
  have hgk:∀(i j:Nat) (k:K),i<len->ks[j]? =some k->k.has (g (i*ks.length+j)):=λi j k hil hj=>by
   have hjl:=(mi.1 hj).1
   have om:i*ks.length+j<len*ks.length:=by
    have:=wC ks.length (show i+1<=len from hil);rw[asp] at this;omega
   obtain⟨v,k',_,h2,h3,_⟩:=hg _ om;rw[abf,asn,axi hjl,hj] at h2;cases h2;exact h3
  refine⟨len,ks.zipIdx.map λp=>p.1.mk λi=>g (i*ks.length+p.2),⟨by omega,bl.afM (by simp) λj k c Lh hc'=> ?_⟩,λπ=>⟨by simp,.inr ⟨B,s,m,hle,rfl,λj hj=> ?_⟩⟩⟩
  .simp only[BH,aDv,Lh,Sq,je] at hc';subst hc';exact K.aKa λi hi=>by simpa using hgk i j k hi Lh
  .obtain⟨d1,d2,d3⟩:=hdiv j hj;obtain⟨v,k',h1,Lh,hh,h2⟩:=hg j hj;refine⟨g j,v,?_,hA _ _ _ h1,h2⟩;unfold jg;simp only[afu,List.length_zipIdx,BH,aDv,Lh,Sq,gy];rw[K.aXK (f:=λi=>g (i*ks.length+j%ks.length)) (j:=j/ks.length) (by rw[d3];exact hh)];show CV.f (g (j/ks.length*ks.length+j%ks.length))=_;rw[d3]
theorem aQ5 (hA:∀B i v,cl W B i=some v->ax.fs B i=some v){t:TypeId}{ag:Bool}{pt:List PT}(hns:∀e,P.underlying t≠some (.slice e))(hp:aNq P t=some (.flat ag pt)){v:Value}{d:DataW H}{ps:List MemPlace}
  (h:DataW.Trod enc P W 0 (λ_=>true) true t v d ps)(hv:Value.okWide P W .any base t v):∃l,Fit (.flat ag pt) (.flat l)/\∀π,(aXL ag (sgs pt l)).rel π v:=by
 obtain⟨fuel,h⟩:=h;unfold aNq at hp;split at hp
 .rename_i e hu;exact absurd hu (hns e)
 .split at hp
  .rename_i ks ha hk
   split at hp
   .rename_i heq
    cases hp;have heq:=aNp heq;obtain⟨fs,f1,f2⟩:=LN hA (λ_=>rfl) hk h;rw[<-heq] at f1;obtain⟨l,l1,l2⟩:=axG f1 f2
    have aSK:∃cs,v=.agg cs:=by
     unfold Value.okWide at hv;unfold adp at ha;split at ha
     .rename_i hu;rw[hu] at hv;obtain⟨cs,h,_⟩:=hv;exact⟨cs,h⟩
     .rename_i hu;rw[hu] at hv;obtain⟨cs,h,_⟩:=hv;exact⟨cs,h⟩
     .cases ha
     .cases ha
    obtain⟨cs,rfl⟩:=aSK;exact⟨l,l1,λπ=>⟨cs,rfl,l2 π⟩⟩
   .cases hp
  .rename_i k ha hk
   cases hp;obtain⟨fs,f1,f2⟩:=LN hA (λ_=>rfl) hk h
   have aNb:v.cells.toList=[v]∨∃cs,v=.agg cs:=by
    cases v<;>first|exact .inl rfl|exact .inr ⟨_,rfl⟩
   have aNb:v.cells.toList=[v]:=by
    rcases aNb with h| ⟨cs,rfl⟩
    .exact h
    .exfalso
     have hc:Cell.okWide P W .any base t (.agg cs):=by
      unfold Value.okWide at hv;unfold adp at ha;split at ha<;>first|(cases ha;done)|skip
      rename_i u hu1 hu2 hu
      rw[hu] at hv;split at hv
      .rename_i hh;cases hh;exact absurd rfl (hu1 _)
      .rename_i hh;cases hh;exact absurd rfl (hu2 _ _)
      .exact hv
     unfold Cell.okWide at hc;revert hc
     have hkk:P.underlying t=some .bool∨(∃k,P.underlying t=some (.int k))∨P.underlying t=some .string:=by
      unfold adp at ha;unfold LM at hk;split at hk
      .rename_i hu;exact .inl hu
      .rename_i k hu;exact .inr (.inl ⟨k,hu⟩)
      .rename_i hu;exact .inr (.inr hu)
      .rename_i hu;rw[hu] at ha;cases ha
      .rename_i hu;rw[hu] at ha;cases ha
      .rename_i hu;exact absurd hu (hns _)
      .cases hk
     rcases hkk with hu| ⟨k,hu⟩|hu<;>rw[hu]<;>intro hc<;>simp only[Cell.ok,hu] at hc
   rw[aNb] at f2;match fs,f1,f2 with
   | [f],⟨f1,_⟩,⟨f2,_⟩=>exact⟨[.c f],⟨f1,trivial⟩,λπ=>f2⟩
  .cases hp
theorem aEs (hA:∀B i v,cl W B i=some v->ax.fs B i=some v):∀{ts:List TypeId} {pr:List Prm} {vs:List Value} {dd:List (DataW H)} {ps:List MemPlace},aKd P ts=some pr->(∀(j:Nat) t v,ts[j]? =some t->vs[j]? =some v->Value.okWide P W .any base t v)->
  DataW.TrodAll enc P W 0 (λ_=>true) true ts vs dd ps->∃ds,aEr pr ds/\∀π,bl (AV.rel π) (aKc pr ds) vs
 | [],pr,vs,dd,ps,hp,_,h=>by
  cases hp;obtain⟨rfl,rfl,rfl⟩:=trodAll_nil h;exact⟨[],trivial,λ_=>trivial⟩
 |t::ts,pr,vs,dd,ps,hp,hv,h=>by
  obtain⟨v,vs1,d,ds1,p1,p2,rfl,rfl,rfl,h3,h4⟩:=trodAll_cons h;simp only[aKd] at hp;split at hp
  .rename_i p pr' Hy hp2
   cases hp;have hv0:=hv 0 t v rfl rfl;obtain⟨ds,f1,g1⟩:=aEs hA hp2 (λj t v hj hv'=>hv (j+1) t v (by simpa using hj) (by simpa using hv')) h4;cases p with
   |flat ag pt=>
    have hns:∀e,P.underlying t≠some (.slice e):=λe hu=>by
     unfold aNq at Hy;rw[hu] at Hy;simp only at Hy;split at Hy
     .split at Hy<;>cases Hy
     .cases Hy
    obtain⟨l,l1,l2⟩:=aQ5 hA hns Hy h3 hv0;exact⟨.flat l::ds,⟨l1,f1⟩,λπ=>⟨l2 π,g1 π⟩⟩
   |sl ks=>
    obtain⟨e,hu,hk,hc,h1k⟩:∃e,P.underlying t=some (.slice e)/\LM P 30 e=some ks/\P.cellsOf e=ks.length/\1<=ks.length:=by
     unfold aNq at Hy;split at Hy
     .rename_i e hu
      split at Hy
      .rename_i ks' hk
       split at Hy
       .rename_i hc
        cases Hy;simp only[cx,beq_iff,fC] at hc;exact⟨e,hu,hk,hc.1,hc.2⟩
       .cases Hy
      .cases Hy
     .split at Hy
      .split at Hy<;>cases Hy
      .cases Hy
      .cases Hy
    obtain⟨n,cols,q1,q2⟩:=aNr hA hu hk hc h1k h3 hv0;exact⟨.sl n cols::ds,⟨q1,f1⟩,λπ=>⟨q2 π,g1 π⟩⟩
  .cases hp
def aXO (F:E9)(ps:List Prm):Prop:=∀ds,aEr ps ds->∃news,(F (aKc ps ds) []).eval=some ⟨.r (.c (.f (.b true))),[],news⟩
abbrev aQ6 (W:World):ax:=⟨W.heap.size,λB i=>cl W B i⟩
omit [ax] in
theorem aTG (W:World): @AJ (aQ6 W) W:=by
 letI:=aQ6 W
 refine⟨dq _,λB i hB=> ?_,λB i v h=>⟨abj (by rw[show cl W B i=some v from h];rfl),h⟩⟩;have hB:W.heap.size<=B:=hB;simp only[fz,World.frozen?,asl hB]
end
section
variable {H:Type} {enc:TypeId×Value->H} {P:Program} {W:World} {base:Nat}
omit [ax] in
theorem aQ7 {f:FuncId}{F:E9}(S:∀[ax],Sound P f F)(hc:Gn P f=true){ts:List TypeId}{pr:List Prm}(hp:aKd P ts=some pr)(hF:aXO F pr){args:Array Value}{dd:List (DataW H)}{ps:List MemPlace}
  (aEf:∀(j:Nat) t v,ts[j]? =some t->args[j]? =some v->Value.okWide P W .any base t v)(ht:DataW.TrodAll enc P W 0 (λ_=>true) true ts args.toList dd ps):
  Calls P f args W λe W'=>e=.returned (.bool true)/\cv W (λ_ _=>False) W':=by
 letI:=aQ6 W
 obtain⟨ds,f1,g1⟩:=aEs (λB i v h=>h) hp (λj t v hj hv=>aEf j t v hj (by simpa using hv)) ht;obtain⟨news,hr⟩:=hF ds f1
 have hH:sJ (λ_=>none) (hC (([]:List af).map some)) (hZ (([]:List af).map some)) W:=
  ⟨aTG W,λb B s q e hz=>by simp[hZ] at hz,λb n hn=>by simp[hZ] at hn,λb b' B s q e s' q' e' _ hz=>by simp[hZ] at hz⟩
 have hS:=S _ _ _ hr W (λ_=>none) args (g1 _) hH (λb hb=>absurd rfl hb)
 have hS:Calls P f args W (tV (λ_=>none) W [] ⟨.r (.c (.f (.b true))),[],news⟩):=by
  rcases hS with h| ⟨v,h,_⟩
  .exact h.2
  .rw[Ia hc] at h;cases h
 refine Calls.mono hS ?_;rintro e w' ⟨π',v,rfl,_,hv,_,hF',_,_⟩
 refine⟨ck Ending.returned hv,hF'.mono λB i _ h=> ?_⟩;obtain⟨b,s,q,e,hb,_⟩:=h;cases hb
end
end Go.Ab
namespace Go.Ab
variable [ax]
def azu:Array Value->Sem Value:=λargs=>do
 let(x,y,b)<-Extern.MathBitsCarry.three "Sub64" args
 pure (Extern.MathBitsCarry.pair ((x+Extern.MathBitsCarry.m64-y-b)%Extern.MathBitsCarry.m64) (if x<y+b then 1 else 0))
abbrev aIh (n:Int):RV:=.c (.f (.i .u64 n))
omit [ax] in
theorem aNs {P:Program}(x y c:Int)(h:c.toNat<=1)(w:World):(add64Entry #[.int .u64 x,.int .u64 y,.int .u64 c]).run P w=
  .ok (.tuple #[.int .u64 (wl ((x.toNat+y.toNat+c.toNat)%18446744073709551616)),.int .u64 (wl ((x.toNat+y.toNat+c.toNat)/18446744073709551616))]) w:=by
 match c,h with
 |.ofNat 0,_=>rfl
 |.ofNat 1,_=>rfl
 |.negSucc n,_=>rfl
 |.ofNat (n+2),h=>exact absurd h (by simp;omega)
omit [ax] in
theorem aNt {P:Program}(x y c:Int)(h:c.toNat<=1)(w:World):(azu #[.int .u64 x,.int .u64 y,.int .u64 c]).run P w=
  .ok (.tuple #[.int .u64 (wl ((x.toNat+18446744073709551616-y.toNat-c.toNat)%18446744073709551616)),.int .u64 (wl (if x.toNat<y.toNat+c.toNat then 1 else 0))]) w:=by
 match c,h with
 |.ofNat 0,_=>rfl
 |.ofNat 1,_=>rfl
 |.negSucc n,_=>rfl
 |.ofNat (n+2),h=>exact absurd h (by simp;omega)
theorem azv {P:Program}{f:FuncId}{fn:Func}{e:Array Value->Sem Value}{A B:Int->Int->Int->Int}(hf:P.funcs[f]? =some fn)(aEt:(fn.name=="runtime.NumGoroutine")=false)
  (hb:fn.body.isNone=true)(hn:Extern.findNext fn=none)(he:Extern.find fn=some e)
  (oB:∀(x y c:Int) (w:World),c.toNat<=1->(e #[.int .u64 x,.int .u64 y,.int .u64 c]).run P w=.ok (.tuple #[.int .u64 (A x y c),.int .u64 (B x y c)]) w):
  Sound P f λ
   | [.r (.c (.f (.i .u64 x))),.r (.c (.f (.i .u64 y))),.r (.c (.f (.i .u64 c)))],[]=>.test (wd c.toNat 1) (.leaf ⟨.tup [aIh (A x y c),aIh (B x y c)],[],[]⟩) .fail
   |_,_=>.fail:=by
 intro args h res tW w π vs lZ hH kK;simp only at tW;split at tW
 .rename_i x y c
  simp only[T.eval] at tW;split at tW
  .rename_i hc
   cases tW;right
   obtain⟨l⟩:=vs;match l,lZ with
   | [v1,v2,v3],⟨h1,h2,h3,_⟩=>
    have h1:v1=.int .u64 x:=h1;have h2:v2=.int .u64 y:=h2;have h3:v3=.int .u64 c:=h3;subst h1 h2 h3;refine⟨_,by rw[run_callFunc_extern hf aEt hb hn he,oB x y c w (JN hc)];rfl,π,_,rfl,Ext.refl π,⟨#[_,_],rfl,rfl,rfl,trivial⟩,hH,cv.refl _ _,kK,λb B s q e hb hp=> ?_⟩;exact absurd (kK b (by rw[hp];simp)) (by omega)
  .cases tW
 .cases tW
abbrev aXP (x y c:Int):Int:=wl ((x.toNat+y.toNat+c.toNat)%18446744073709551616)
abbrev aXQ (x y c:Int):Int:=wl ((x.toNat+y.toNat+c.toNat)/18446744073709551616)
abbrev aXR (x y c:Int):Int:=wl ((x.toNat+18446744073709551616-y.toNat-c.toNat)%18446744073709551616)
abbrev aXS (x y c:Int):Int:=wl (if x.toNat<y.toNat+c.toNat then 1 else 0)
def aCM (A B:Int->Int->Int->Int):E9
 | [.r (.c (.f (.i .u64 x))),.r (.c (.f (.i .u64 y))),.r (.c (.f (.i .u64 c)))],[]=>.test (wd c.toNat 1) (.leaf ⟨.tup [aIh (A x y c),aIh (B x y c)],[],[]⟩) .fail
 |_,_=>.fail
theorem aKe {P:Program}{f:FuncId}{fn:Func}(hf:P.funcs[f]? =some fn)(aEt:(fn.name=="runtime.NumGoroutine")=false)
  (hb:fn.body.isNone=true)(hn:Extern.findNext fn=none)(he:Extern.find fn=some add64Entry):Sound P f (aCM aXP aXQ):=
 azv hf aEt hb hn he λx y c w h=>aNs x y c h w
theorem aKf {P:Program}{f:FuncId}{fn:Func}(hf:P.funcs[f]? =some fn)(aEt:(fn.name=="runtime.NumGoroutine")=false)
  (hb:fn.body.isNone=true)(hn:Extern.findNext fn=none)(he:Extern.find fn=some azu):Sound P f (aCM aXR aXS):=
 azv hf aEt hb hn he λx y c w h=>aNt x y c h w
end Go.Ab
namespace Go.Ab
theorem aTH {D:Type}(x:Option D)(g:D->pz):(T.opt x λd=>.leaf (g d)).eval=x.map g:=by cases x<;>rfl
abbrev C3:=Int->Int->Int->Option (Int×Int)
def adw (f:C3):E9:=λargs h=>match args,h with
 | [.r (.c (.f (.i .u64 x))),.r (.c (.f (.i .u64 y))),.r (.c (.f (.i .u64 c)))],[]=>.opt (f x y c) λd=>.leaf ⟨.tup [aIh d.1,aIh d.2],[],[]⟩
 |_,_=>.fail
def Df:C3:=λx y c=>cond (wd c.toNat 1) (some (aXP x y c,aXQ x y c)) none
def adx:C3:=λx y c=>cond (wd c.toNat 1) (some (aXR x y c,aXS x y c)) none
theorem aIi [ax]{P:Program}{f:FuncId}{A B:Int->Int->Int->Int}(S:Sound P f (aCM A B)):Sound P f (adw λx y c=>cond (wd c.toNat 1) (some (A x y c,B x y c)) none):=
 S.weaken λargs h r hr=>by
  unfold adw at hr;split at hr
  .rename_i x y c
   rw[aTH] at hr;simp only at hr;refine⟨r,?_,.refl _ _⟩;unfold aCM;simp only[T.eval];cases hc:wd c.toNat 1<;>rw[hc] at hr<;>first|(cases hr;done)|exact hr
  .cases hr
theorem asH {D:Type}(x:Option D)(g:D->T):(T.opt x g).eval=x.bind λd=>(g d).eval:=by cases x<;>rfl
theorem aTI {α β:Type}(q:α->Option β)(b:Bool)(x y:Option α):(cond b x y).bind q=cond b (x.bind q) (y.bind q):=by cases b<;>rfl
def T.sum {A B:Type}(x:A⊕B)(f:A->T)(g:B->T):T:=.test x.isLeft (.opt x.getLeft? f) (.opt x.getRight? g)
theorem aEu {b:Bool}{a:T}{r:pz}(h:(T.test b a .fail).eval=some r):b=true/\a.eval=some r:=by cases b<;>first|(cases h;done)|exact⟨rfl,h⟩
theorem azw {D X ρ σ:Type}{s1:D->(D->Option ρ)->(X->Option ρ)->Option ρ}{s2:D->(D->Option σ)->(X->Option σ)->Option σ}(q:ρ->Option σ)
  (h:∀d c x,(s1 d c x).bind q=s2 d (λd=>(c d).bind q) (λe=>(x e).bind q))(k:X->Option ρ):∀(n:Nat) (d:D),(SB s1 n d k).bind q=SB s2 n d λe=>(k e).bind q
 |0,_=>rfl
 |n+1,d=>by
  show(s1 d (λd=>SB s1 n d k) k).bind q=s2 d (λd=>SB s2 n d λe=>(k e).bind q) λe=>(k e).bind q
  rw[h];congr 1
  funext d'
  exact azw q h k n d'
theorem azx {hd:St->Option St}{ρ:Type}{body:St->(AX->St->Option ρ)->Option ρ}{K:AX->St->Option ρ}{D X:Type}{emb:D->St}{step:D->(D->Option ρ)->(X->Option ρ)->Option ρ}{kx:X->Option ρ}
  (h:∀(d:D) (c:St->Option ρ),body (emb d) (next hd c K)=step d (λd=>c (emb d)) kx):∀(n:Nat) (d:D),iter hd body K n (emb d)=SB step n d kx
 |0,_=>rfl
 |n+1,d=>by
  have e:iter hd body K (n+1) (emb d)=body (emb d) (next hd (iter hd body K n) K):=rfl;rw[e,h];have e2:SB step (n+1) d kx=step d (λd=>SB step n d kx) kx:=rfl;rw[e2];congr 1
  funext d'
  exact azx h n d'
theorem Oc.of [ax]{P:Program}{E:Env}{hs:Hs}{nt lf id k0:Nat}{a:Code}{run:∀{ρ:Type},St->(AX->St->Option ρ)->Option ρ}(h0:apP hs a=some ⟨id,k0,run⟩)
  (h:∀{ρ:Type} (s:St) (K:AX->St->Option ρ) (r:ρ),run s K=some r->∃n,iter (λt=>t.head k0 hs a) (G' P E hs nt k0 lf a) K n s=some r):∀kk,Oc P E hs nt kk lf a:=by
 intro kk σ hσ hk ρ s K r hr;rw[h0] at hσ;cases hσ;cases hk;exact h s K r hr
theorem Oc.no [ax]{P:Program}{E:Env}{hs:Hs}{nt lf:Nat}{a:Code}(h0:apP hs a=none):∀kk,Oc P E hs nt kk lf a:=by
 intro kk σ hσ;rw[h0] at hσ;cases hσ
theorem Bo.imp {α:Type}{p q:α->Prop}(h:∀a,p a->q a):∀{l:List α},Bo p l->Bo q l
 | [],_=>trivial
 |_::_,hl=>⟨h _ hl.1,Bo.imp h hl.2⟩
theorem at6.of [ax]{P:Program}{E:Env}{hs:Hs}{nt lf id k0:Nat}{hd:Hd}{b:Code}{run:∀{ρ:Type},St->(AX->St->Option ρ)->Option ρ}(h0:ay9 hs b=some ⟨hd,⟨id,k0,run⟩⟩)
  (h:∀{ρ:Type} (s:St) (K:AX->St->Option ρ) (r:ρ),run s K=some r->G' P E hs nt k0 lf b s K=some r):∀kk,at6 P E hs nt kk lf b:=by
 intro kk j hj hk ρ s K r hr;rw[h0] at hj;cases hj;cases hk;exact h s K r hr
theorem Lp.by [ax]{P:Program}{E:Env}{hs:Hs}{f:FuncId}{lf:Nat}{l lj:List Code}(hl:Ln (Zt P f)=l)(h:Bo (λa=>∀kk,Oc P E hs (tmpsOf P f) kk lf a) l)
  (hlj:Lo hs (Zt P f)=lj)(hj:Bo (λb=>∀kk,at6 P E hs (tmpsOf P f) kk lf b) lj):
  ∀(fn:Func) (c:Code) (kk:Nat),P.funcs[f]? =some fn->fn.body=some c->Lp P E hs fn.ntmps kk lf c:=by
 intro fn c kk hf hb;have e1:Zt P f=c:=by unfold Zt;rw[hf];simp[hb]
 have e2:tmpsOf P f=fn.ntmps:=by unfold tmpsOf;rw[hf];rfl
 rw[e1] at hl hlj;rw[<-e2];refine Lp.of ?_ ?_
 .rw[hl];exact h.imp λa ha=>ha kk
 .rw[hlj];exact hj.imp λa ha=>ha kk
structure jQ (α β:Type) where
 rd:α->Option β
 em:β->α
 ok:∀a b,rd a=some b->a=em b
namespace jQ
def hole {α:Type}:jQ α α:=⟨some,id,λa b h=>by cases h;rfl⟩
def nat (n:Nat):jQ Nat Unit:=⟨λm=>cond (ww m n) (some ()) none,λ_=>n,λa b h=>by
 cases hb:ww a n<;>rw[hb] at h<;>first|(cases h;done)|exact nQ hb⟩
def int (n:Int):jQ Int Unit:=⟨λm=>cond (decide (m=n)) (some ()) none,λ_=>n,λa b h=>by
 cases hb:decide (a=n)<;>rw[hb] at h<;>first|(cases h;done)|exact cQ hb⟩
def bool (n:Bool):jQ Bool Unit:=⟨λm=>cond (m==n) (some ()) none,λ_=>n,λa b h=>by
 cases a<;>cases n<;>first|rfl|cases h⟩
def via {α α' β:Type}(f:α->α')(g:α'->Option α)(h:∀a' a,g a'=some a->a'=f a)(x:jQ α β):jQ α' β:=⟨λa=>(g a).bind x.rd,λb=>f (x.em b),λa b hb=>by
 cases ha:g a with
 |none=>rw[ha] at hb;cases hb
 |some c=>rw[ha] at hb;rw[h a c ha,<-x.ok c b hb]⟩
def pair {α β γ δ:Type}(x:jQ α β)(y:jQ γ δ):jQ (α×γ) (β×δ):=⟨λp=>(x.rd p.1).bind λb=>(y.rd p.2).bind λd=>some (b,d),λq=>(x.em q.1,y.em q.2),λp q h=>by
 cases h1:x.rd p.1 with
 |none=>rw[h1] at h;cases h
 |some b=>
  rw[h1] at h;cases h2:y.rd p.2 with
  |none=>simp only[bL,h2] at h;cases h
  |some d=>
   simp only[bL,h2] at h;cases h;rw[<-x.ok _ _ h1,<-y.ok _ _ h2]⟩
def one {α:Type}(a:α)(g:α->Bool)(h:∀b,g b=true->b=a):jQ α Unit:=⟨λb=>cond (g b) (some ()) none,λ_=>a,λb _ hb=>by
 cases hg:g b<;>rw[hg] at hb<;>first|(cases hb;done)|exact h b hg⟩
def nil {α:Type}:jQ (List α) Unit:=one [] (λl=>match l with| []=>true|_=>false) λb h=>by cases b<;>first|rfl|cases h
def cons {α β γ:Type}(x:jQ α β)(y:jQ (List α) γ):jQ (List α) (β×γ):=via (λp:α×List α=>p.1::p.2) (λl=>match l with|a::l=>some (a,l)|_=>none) (λa' a h=>by cases a'<;>cases h;rfl) (pair x y)
def szl {β:Type}(x:jQ Nat β):jQ Sz β:=via Sz.l (λz=>match z with|.l n=>some n|_=>none) (λa' a h=>by cases a'<;>cases h;rfl) x
def szs {β:Type}(x:jQ Nat β):jQ Sz β:=via Sz.s (λz=>match z with|.s n=>some n|_=>none) (λa' a h=>by cases a'<;>cases h;rfl) x
def ok' {β:Type}(x:jQ Nat β):jQ cE β:=via cE.k (λz=>match z with|.k n=>some n|_=>none) (λa' a h=>by cases a'<;>cases h;rfl) x
def ox {β γ δ:Type}(x:jQ Nat β)(y:jQ Nat γ)(z:jQ Nat δ):jQ cE (β×γ×δ):=via (λp:Nat×Nat×Nat=>cE.x p.1 p.2.1 p.2.2) (λz=>match z with|.x a b c=>some (a,b,c)|_=>none) (λa' a h=>by cases a'<;>cases h;rfl) (pair x (pair y z))
def fi {β:Type}(k:IntKind)(x:jQ Int β):jQ FV β:=via (FV.i k) (λz=>match z with|.i k' n=>cond (decide (k'=k)) (some n) none|_=>none) (λa' a h=>by
 cases a' with
 |i k' n=>
  cases hk:decide (k'=k)<;>simp only[hk] at h<;>first|(cases h;done)|(cases h;rw[cQ hk])
 |_=>cases h) x
def fb {β:Type}(x:jQ Bool β):jQ FV β:=via FV.b (λz=>match z with|.b n=>some n|_=>none) (λa' a h=>by cases a'<;>cases h;rfl) x
def fs {β:Type}(x:jQ ByteArray β):jQ FV β:=via FV.s (λz=>match z with|.s n=>some n|_=>none) (λa' a h=>by cases a'<;>cases h;rfl) x
def cf {β:Type}(x:jQ FV β):jQ CV β:=via CV.f (λz=>match z with|.f n=>some n|_=>none) (λa' a h=>by cases a'<;>cases h;rfl) x
def H' {β γ δ:Type}(x:jQ Nat β)(y:jQ cE γ)(z:jQ Nat δ):jQ CV (β×γ×δ):=via (λp:Nat×cE×Nat=>CV.ptr p.1 p.2.1 p.2.2) (λz=>match z with|.ptr a b c=>some (a,b,c)|_=>none) (λa' a h=>by cases a'<;>cases h;rfl) (pair x (pair y z))
def ccl {α β γ δ:Type}(u:jQ Nat α)(x:jQ Nat β)(y:jQ cE γ)(z:jQ Nat δ):jQ CV (α×β×γ×δ):=via (λp:Nat×Nat×cE×Nat=>CV.cl p.1 p.2.1 p.2.2.1 p.2.2.2) (λz=>match z with|.cl e a b c=>some (e,a,b,c)|_=>none) (λa' a h=>by cases a'<;>cases h;rfl) (pair u (pair x (pair y z)))
def jr {β γ δ ε ζ:Type}(x:jQ Nat β)(y:jQ cE γ)(z:jQ Sz δ)(u:jQ Nat ε)(w:jQ Bool ζ):jQ CV (β×γ×δ×ε×ζ):=via (λp:Nat×cE×Sz×Nat×Bool=>CV.sl p.1 p.2.1 p.2.2.1 p.2.2.2.1 p.2.2.2.2) (λz=>match z with|.sl a b c d e=>some (a,b,c,d,e)|_=>none) (λa' a h=>by cases a'<;>cases h;rfl) (pair x (pair y (pair z (pair u w))))
def cfs {β γ δ:Type}(x:jQ Nat β)(y:jQ Nat γ)(z:jQ (List cT) δ):jQ CV (β×γ×δ):=via (λp:Nat×Nat×List cT=>CV.fs p.1 p.2.1 p.2.2) (λz=>match z with|.fs a b c=>some (a,b,c)|_=>none) (λa' a h=>by cases a'<;>cases h;rfl) (pair x (pair y z))
def aC8:jQ CV Unit:=one .ah7 (λl=>match l with|.ah7=>true|_=>false) λb h=>by cases b<;>first|rfl|cases h
def aVG:jQ CV Unit:=one .nils (λl=>match l with|.nils=>true|_=>false) λb h=>by cases b<;>first|rfl|cases h
def ki {β:Type}(k:IntKind)(x:jQ (Nat->Int) β):jQ cT β:=via (cT.i k) (λz=>match z with|.i k' n=>cond (decide (k'=k)) (some n) none|_=>none) (λa' a h=>by
 cases a' with
 |i k' n=>
  cases hk:decide (k'=k)<;>simp only[hk] at h<;>first|(cases h;done)|(cases h;rw[cQ hk])
 |_=>cases h) x
def kb {β:Type}(x:jQ (Nat->Bool) β):jQ cT β:=via cT.b (λz=>match z with|.b n=>some n|_=>none) (λa' a h=>by cases a'<;>cases h;rfl) x
def ks {β:Type}(x:jQ (Nat->ByteArray) β):jQ cT β:=via cT.s (λz=>match z with|.s n=>some n|_=>none) (λa' a h=>by cases a'<;>cases h;rfl) x
def gc {β:Type}(x:jQ CV β):jQ Sg β:=via Sg.c (λz=>match z with|.c n=>some n|_=>none) (λa' a h=>by cases a'<;>cases h;rfl) x
def ga {β γ:Type}(x:jQ Sz β)(y:jQ (List cT) γ):jQ Sg (β×γ):=via (λp:Sz×List cT=>Sg.a p.1 p.2) (λz=>match z with|.a n c=>some (n,c)|_=>none) (λa' a h=>by cases a'<;>cases h;rfl) (pair x y)
def rc {β:Type}(x:jQ CV β):jQ RV β:=via RV.c (λz=>match z with|.c n=>some n|_=>none) (λa' a h=>by cases a'<;>cases h;rfl) x
def ra {β:Type}(x:jQ af β):jQ RV β:=via RV.agg (λz=>match z with|.agg n=>some n|_=>none) (λa' a h=>by cases a'<;>cases h;rfl) x
def ar {β:Type}(x:jQ RV β):jQ AV β:=via AV.r (λz=>match z with|.r n=>some n|_=>none) (λa' a h=>by cases a'<;>cases h;rfl) x
def sH {β:Type}(x:jQ (List RV) β):jQ AV β:=via AV.tup (λz=>match z with|.tup n=>some n|_=>none) (λa' a h=>by cases a'<;>cases h;rfl) x
def afn {β γ:Type}(x:jQ Nat β)(y:jQ (List RV) γ):jQ AV (β×γ):=via (λp:Nat×List RV=>AV.fn p.1 p.2) (λz=>match z with|.fn a b=>some (a,b)|_=>none) (λa' a h=>by cases a'<;>cases h;rfl) (pair x y)
def a0Q:jQ AV Unit:=one .VH (λl=>match l with|.VH=>true|_=>false) λb h=>by cases b<;>first|rfl|cases h
def st {β γ δ:Type}(x:jQ (List AV) β)(y:jQ (List (Option af)) γ)(z:jQ (List Nat) δ):jQ St (β×γ×δ):=via (λp:List AV×List (Option af)×List Nat=>St.mk p.1 p.2.1 p.2.2) (λz=>some (z.tmps,z.heap,z.dy)) (λa' a h=>by cases a';cases h;rfl) (pair x (pair y z))
end jQ
end Go.Ab
namespace Go.Proofs.YtldgljclcgaibaaGreat
open Go.Ab
theorem mixed:Tryz.prog.follows .mixedOrders=true:=by kernel_rfl
theorem own:ownKnob Tryz.prog.godebug=none:=by kernel_rfl
theorem laid:laidOutB Tryz.prog=true:=by kernel_rfl
end Go.Proofs.YtldgljclcgaibaaGreat
namespace Go.Ab
variable [ax]
variable {P:Program}
def EB (Li:List CK):af:=[.a (.s 0) (Li.map CK.oi)]
def T.aNu (g:pz->pz):T->T
 |.leaf r=>.leaf (g r)
 |.fail=>.fail
 |.test x a b=>.test x (a.aNu g) (b.aNu g)
 |.opt x k=>.opt x λd=>(k d).aNu g
omit [ax] in
theorem aQ8 {g:pz->pz}{t:T}{r:pz}(h:(t.aNu g).eval=some r):∃r',t.eval=some r'/\r=g r':=by
 induction t with
 |leaf r'=>cases h;exact⟨r',rfl,rfl⟩
 |fail=>cases h
 |test x a b iha ihb=>
  cases x
  .exact ihb h
  .exact iha h
 |opt x k ih=>
  cases x with
  |none=>cases h
  |some d=>exact ih d h
def vE (i:Nat)(Li:List CK)(F:E9):E9:=λargs h=>match args[i]? with
 |some (.r (.c .nils))=>(F (args.set i (.r (.c (.sl h.length (.k 0) (.s 0) Li.length true)))) (h++[EB Li])).aNu λr=>⟨r.val,r.yo.take h.length,EB Li::r.news⟩
 |_=>F args h
omit [ax] in
theorem aEv (Li:List CK):af.size (EB Li)=0:=by
 unfold EB;rw[af.size_cons,af.mb,Sg.mf];simp[Sz.val]
omit [ax] in
theorem QX:∀(h:List af) (z:af) (cs:List Ch),∃x,after (h++[z]) cs=after h (cs.take h.length)++[x]
 | [],z,[]=>⟨none,rfl⟩
 | [],z,.nc::cs=>⟨some z,rfl⟩
 | [],z,.set b::cs=>⟨some b,rfl⟩
 | [],z,.kill::cs=>⟨none,rfl⟩
 |b::bs,z,[]=>by
  obtain⟨x,hx⟩:=QX bs z [];refine⟨x,?_⟩;simp only[List.take_nil] at hx;simp[after,hx]
 |b::bs,z,.nc::cs=>by
  obtain⟨x,hx⟩:=QX bs z cs;exact⟨x,by simp[after,hx]⟩
 |b::bs,z,.set k::cs=>by
  obtain⟨x,hx⟩:=QX bs z cs;exact⟨x,by simp[after,hx]⟩
 |b::bs,z,.kill::cs=>by
  obtain⟨x,hx⟩:=QX bs z cs;exact⟨x,by simp[after,hx]⟩
omit [ax] in
theorem aXT {α:Type}{A N:List α}{x y:α}{b:Nat}(h:b≠A.length):(A++[x]++N)[b]? =(A++y::N)[b]? :=by
 rcases px b A.length with h1|h1
 .rw[axh,Ua h1,Ua h1]
 .rw[axh,adn h1,adn h1];obtain⟨m,hm⟩:∃m,b-A.length=m+1:=⟨b-A.length-1,by omega⟩;rw[hm];rfl
theorem Sound.nil {f:FuncId}{F:E9}(i:Nat)(Li:List CK)(S:Sound P f F):Sound P f (vE i Li F):=by
 intro args h res tW w π vs lZ hH kK;unfold vE at tW;split at tW
 .rename_i hi
  obtain⟨r,hr,rfl⟩:=aQ8 tW;generalize hπ2:(λb=>if b=h.length then some (0,0,0,0) else π b:Pi)=π2
  have p1:∀b,b≠h.length->π2 b=π b:=λb hb=>by rw[<-hπ2];simp[hb]
  have p2:π2 h.length=some (0,0,0,0):=by rw[<-hπ2];simp
  have hx:Ext π π2:=λb p hb=>by
   have:b<h.length:=kK b (by rw[hb];simp);rw[p1 b (by omega)];exact hb
  have aZG:bl (AV.rel π2) (args.set i (.r (.c (.sl h.length (.k 0) (.s 0) Li.length true)))) vs.toList:=by
   have lZ:=lZ.imp (AV.dP hx);refine bl.afM (by rw[List.length_set];exact lZ.length) λj a v ha hv=> ?_;rw[aDx] at ha;split at ha
   .rename_i hij
    subst hij;split at ha
    .cases ha;obtain⟨v',hv',hr'⟩:=lZ.get hi;rw[hv] at hv';cases hv'
     exact⟨0,0,0,0,p2,by simp[cE.val,Sz.val],by simp[cE.val,Sz.val],.inl ⟨rfl,none,hr'⟩⟩
    .cases ha
   .obtain⟨v',hv',hr'⟩:=lZ.get ha;rw[hv] at hv';cases hv'
    exact hr'
  have lt:∀b,b<h.length->((h++[EB Li]).map some)[b]? =(h.map some)[b]? :=λb hb=>by
   rw[List.map_append,Ua (by simpa using hb)]
  have gz:∀b,b<h.length->hZ ((h++[EB Li]).map some) b=hZ (h.map some) b/\∀j,hC ((h++[EB Li]).map some) b j=hC (h.map some) b j:=λb hb=>by
   unfold hZ hC;rw[lt b hb];exact⟨rfl,λ_=>rfl⟩
  have gn:hZ ((h++[EB Li]).map some) h.length=some 0:=by
   unfold hZ;simp[aEv]
  have gd:∀b,h.length<b->hZ ((h++[EB Li]).map some) b=none:=λb hb=>by
   unfold hZ;rw[JM (by simp;omega)];rfl
  have hH2:sJ π2 (hC ((h++[EB Li]).map some)) (hZ ((h++[EB Li]).map some)) w:=by
   refine⟨hH.am,λb B s q e hz hb Bm=> ?_,λb n hn=> ?_,λb b' B s q e s' q' e' nd hz uD hb fy i i1 i2 i3 i4=> ?_⟩
   .rcases aft b h.length with h1|h1|h1
    .rw[(gz b h1).1] at hz;rw[p1 b (by omega)] at hb;exact hH.lb b B s q e hz hb Bm
    .subst h1;rw[p2] at hb;cases hb;omega
    .exact absurd (gd b h1) hz
   .rcases aft b h.length with h1|h1|h1
    .rw[(gz b h1).1] at hn;obtain⟨B,s,e,k1,k2,k3,k4⟩:=hH.hp b n hn
     exact⟨B,s,e,hx _ _ k1,k2,k3,λj hj=>by
      obtain⟨v,v1,v2⟩:=k4 j hj;exact⟨v,v1,by rw[(gz b h1).2];exact CV.dP hx _ _ v2⟩⟩
    .subst h1;rw[gn] at hn;cases hn;exact⟨0,0,0,p2,by omega,λi _ _=>by omega,λj hj=>by omega⟩
    .rw[gd b h1] at hn;cases hn
   .have nz:∀b B s q e,b=h.length->π2 b=some (B,s,q,e)->s=0/\e=0:=λb B s q e hb hp=>by
     rw[hb,p2] at hp;cases hp;exact⟨rfl,rfl⟩
    rcases aft b h.length with h1|h1|h1
    .rcases aft b' h.length with h2|h2|h2
     .rw[(gz b h1).1] at hz;rw[(gz b' h2).1] at uD;rw[p1 b (by omega)] at hb;rw[p1 b' (by omega)] at fy;exact hH.dj b b' B s q e s' q' e' nd hz uD hb fy i i1 i2 i3 i4
     .have:=nz b' B s' q' e' h2 fy;omega
     .exact uD (gd b' h2)
    .have:=nz b B s q e h1 hb;omega
    .exact hz (gd b h1)
  have a1K:∀b,π2 b≠none->b<(h++[EB Li]).length:=λb hb=>by
   rw[axg];show b<h.length+1;rcases aft b h.length with h1|h1|h1
   .omega
   .omega
   .rw[p1 b (by omega)] at hb;have:=kK b hb;omega
  have aXU:∀B i,De π2 (h++[EB Li]).length (Sy r.yo) B i->De π h.length (Sy (r.yo.take h.length)) B i:=by
   rintro B i ⟨b,s,q,e,hb,hD,hp,i1,i2⟩
   rw[axg] at hb;have hb:b<h.length+1:=hb;rcases px b h.length with h1|h1
   .rw[p1 b (by omega)] at hp;exact⟨b,s,q,e,h1,λhk=>hD (by rw[abb,if_pos h1] at hk;exact hk),hp,i1,i2⟩
   .obtain rfl:b=h.length:=by omega
    rw[p2] at hp;cases hp;omega
  suffices key:∀e w',tV π2 w (h++[EB Li]) r e w'->tV π w h ⟨r.val,r.yo.take h.length,EB Li::r.news⟩ e w' by
   rcases S _ _ r hr w π2 vs aZG hH2 a1K with⟨S1,S2⟩| ⟨v,S1,S2⟩
   .exact .inl ⟨S1,Calls.mono S2 key⟩
   .exact .inr ⟨v,S1,key _ _ S2⟩
  rintro e w' ⟨π',v,rfl,hx',hv,hH',hF,hd,hi'⟩
  have p2':π' h.length=some (0,0,0,0):=hx' _ _ p2;obtain⟨x,hxx⟩:=QX h (EB Li) r.yo;have hlen:(after h (r.yo.take h.length)).length=h.length:=nR ..
  have eq1:∀b,b≠h.length->(r.heap (h++[EB Li]))[b]? =((⟨r.val,r.yo.take h.length,EB Li::r.news⟩:pz).heap h)[b]? :=λb hb=>by
   unfold pz.heap;rw[hxx];exact aXT (by rw[hlen];exact hb)
  have eqz:∀b,b≠h.length->hZ ((⟨r.val,r.yo.take h.length,EB Li::r.news⟩:pz).heap h) b=hZ (r.heap (h++[EB Li])) b:=λb hb=>by
   unfold hZ;rw[eq1 b hb]
  have eqc:∀b j,b≠h.length->hC ((⟨r.val,r.yo.take h.length,EB Li::r.news⟩:pz).heap h) b j=hC (r.heap (h++[EB Li])) b j:=λb j hb=>by
   unfold hC;rw[eq1 b hb]
  have eqn:hZ ((⟨r.val,r.yo.take h.length,EB Li::r.news⟩:pz).heap h) h.length=some 0:=by
   unfold hZ pz.heap;show(((after h (r.yo.take h.length)++(EB Li::r.news).map some)[h.length]?).getD none).map af.size=some 0;rw[adn (by omega),hlen];simp[aEv]
  refine⟨π',v,rfl,hx.trans hx',hv,⟨hH'.am,λb B s q e hz hb Bm=> ?_,λb n hn=> ?_,λb b' B s q e s' q' e' nd hz uD hb fy i i1 i2 i3 i4=> ?_⟩,hF.mono λB i _ h=>aXU B i h,λb hb=> ?_,λb B s q e hb hp hB i i1 i2=> ?_⟩
  .by_cases h1:b=h.length
   .rw[h1,p2'] at hb;cases hb;omega
   .rw[eqz b h1] at hz;exact hH'.lb b B s q e hz hb Bm
  .by_cases h1:b=h.length
   .subst h1;rw[eqn] at hn;cases hn;exact⟨0,0,0,p2',by omega,λi _ _=>by omega,λj hj=>by omega⟩
   .rw[eqz b h1] at hn;obtain⟨B,s,e,k1,k2,k3,k4⟩:=hH'.hp b n hn;exact⟨B,s,e,k1,k2,k3,λj hj=>by rw[eqc b j h1];exact k4 j hj⟩
  .have nz:∀b B s q e,b=h.length->π' b=some (B,s,q,e)->s=0/\e=0:=λb B s q e hb hp=>by
    rw[hb,p2'] at hp;cases hp;exact⟨rfl,rfl⟩
   by_cases h1:b=h.length
   .have:=nz b B s q e h1 hb;omega
   .by_cases h2:b'=h.length
    .have:=nz b' B s' q' e' h2 fy;omega
    .rw[eqz b h1] at hz;rw[eqz b' h2] at uD;exact hH'.dj b b' B s q e s' q' e' nd hz uD hb fy i i1 i2 i3 i4
  .have:=hd b hb;rw[axg] at this;show b<h.length+(r.news.length+1);have:b<h.length+1+r.news.length:=this;omega
  .by_cases h1:b=h.length
   .rw[h1,p2'] at hp;cases hp;omega
   .exact aXU B i (hi' b B s q e (by rw[axg];show h.length+1<=b;omega) hp hB i i1 i2)
 .exact S args h res tW w π vs lZ hH kK
end Go.Ab
noncomputable section
namespace Go.Ab
inductive Pg (δ:Type):Type 1 where
 |ret (d:δ)
 |no
 |ae (b:Bool) (x y:Pg δ)
 |opt {D:Type} (x:Option D) (f:D->Pg δ)
 |sum {A B:Type} (x:A⊕B) (f:A->Pg δ) (g:B->Pg δ)
namespace Pg
def run {δ ρ:Type}(p:Pg δ)(k:δ->Option ρ):Option ρ:=
 Pg.rec (motive:=λ_=>Option ρ) k none (λb _ _ x y=>cond b x y) (λx _ ih=>x.bind ih) (λx _ _ f g=>t8 f g x) p
def val {δ:Type}(p:Pg δ):Option δ:=p.run some
variable {δ ρ σ:Type}
theorem AM (d:δ)(k:δ->Option ρ):(ret d).run k=k d:=rfl
theorem Gq (k:δ->Option ρ):(no:Pg δ).run k=none:=rfl
theorem wE (b:Bool)(x y:Pg δ)(k:δ->Option ρ):(ae b x y).run k=bif b then x.run k else y.run k:=rfl
theorem wF {D:Type}(x:Option D)(f:D->Pg δ)(k:δ->Option ρ):(opt x f).run k=x.bind λd=>(f d).run k:=rfl
theorem wG {A B:Type}(x:A⊕B)(f:A->Pg δ)(g:B->Pg δ)(k:δ->Option ρ):(sum x f g).run k=t8 (λa=>(f a).run k) (λb=>(g b).run k) x:=rfl
theorem cg (d:δ):(ret d).val=some d:=rfl
theorem fD:(no:Pg δ).val=none:=rfl
theorem bS (b:Bool)(x y:Pg δ):(ae b x y).val=bif b then x.val else y.val:=rfl
theorem cG {D:Type}(x:Option D)(f:D->Pg δ):(opt x f).val=x.bind λd=>(f d).val:=rfl
theorem eL {A B:Type}(x:A⊕B)(f:A->Pg δ)(g:B->Pg δ):(sum x f g).val=t8 (λa=>(f a).val) (λb=>(g b).val) x:=rfl
theorem aNv (p:Pg δ)(k:δ->Option ρ)(q:ρ->Option σ):(p.run k).bind q=p.run λd=>(k d).bind q:=by
 induction p with
 |ret d=>rfl
 |no=>rfl
 |ae b x y ih1 ih2=>rw[wE,wE,aTI,ih1,ih2]
 |opt x f ih=>
  rw[wF,wF];cases x with
  |none=>rfl
  |some d=>exact ih d
 |sum x f g ih1 ih2=>
  rw[wG,wG];cases x with
  |inl a=>exact ih1 a
  |inr b=>exact ih2 b
theorem auw (p:Pg δ)(k:δ->Option ρ):p.val.bind k=p.run k:=by
 unfold val;rw[aNv];rfl
def sm {A B:Type}(x:A⊕B)(f:A->Pg δ)(g:B->Pg δ):Pg δ:=ae x.isLeft (opt x.getLeft? f) (opt x.getRight? g)
theorem aCN {A B:Type}(x:A⊕B)(f:A->Pg δ)(g:B->Pg δ):(sm x f g).val=t8 (λa=>(f a).val) (λb=>(g b).val) x:=by cases x<;>rfl
end Pg
def bD {D X:Type}(s:D->Pg (D⊕X))(n:Nat)(d:D):Option X:=SB (λd c x=>(s d).run (t8 c x)) n d some
theorem ak7 {D X ρ:Type}(s:D->Pg (D⊕X))(n:Nat)(d:D)(k:X->Option ρ):(bD s n d).bind k=SB (λd c x=>(s d).run (t8 c x)) n d k:=by
 unfold bD;refine(azw k (λd c x=> ?_) some n d).trans rfl;rw[Pg.aNv];congr 1
 funext y
 cases y<;>rfl
def aEw:List Bool->Prop
 | []=>True
 |b::l=>b=true/\aEw l
theorem axH:∀{l m:List Bool},aEw (l++m)->aEw l/\aEw m
 | [],_,h=>⟨trivial,h⟩
 |_::_,_,h=>⟨⟨h.1,(axH h.2).1⟩,(axH h.2).2⟩
structure Rq (α β:Type) where
 rd:α->Option (List Bool×β)
 em:β->α
 ok:∀a l b,rd a=some (l,b)->aEw l->a=em b
abbrev Rq.B {α β:Type}(_:Rq α β):Type:=β
namespace Rq
variable {α β γ δ:Type}
def hole:Rq α α:=⟨λa=>some ([],a),id,λa l b h _=>by cases h;rfl⟩
def one (a:α)(g:α->Bool)(h:∀b,g b=true->b=a):Rq α Unit:=⟨λb=>cond (g b) (some ([],())) none,λ_=>a,λb _ _ hb _=>by
 cases hg:g b<;>rw[hg] at hb<;>first|(cases hb;done)|exact h b hg⟩
def tie (n:Nat):Rq Nat Unit:=⟨λm=>some ([ww m n],()),λ_=>n,λa l b h hl=>by
 have h1:[ww a n]=l:=(Prod.mk.inj (Od h)).1;subst h1;exact nQ hl.1⟩
def nat (n:Nat):Rq Nat Unit:=one n (λm=>ww m n) λ_ h=>nQ h
def int (n:Int):Rq Int Unit:=one n (λm=>decide (m=n)) λ_ h=>cQ h
def bool (n:Bool):Rq Bool Unit:=one n (λm=>m==n) λ_ h=>by simpa using h
def via {α':Type}(f:α->α')(g:α'->Option α)(h:∀a' a,g a'=some a->a'=f a)(x:Rq α β):Rq α' β:=⟨λa=>(g a).bind x.rd,λb=>f (x.em b),λa l b hb hl=>by
 cases ha:g a with
 |none=>rw[ha] at hb;cases hb
 |some c=>rw[ha] at hb;rw[h a c ha,<-x.ok c l b hb hl]⟩
def dp (x:Rq α β)(y:β->Rq γ δ):Rq (α×γ) (β×δ):=⟨λp=>(x.rd p.1).bind λb=>((y b.2).rd p.2).bind λd=>some (b.1++d.1,(b.2,d.2)),λq=>(x.em q.1,(y q.1).em q.2),λp l q h hl=>by
 cases h1:x.rd p.1 with
 |none=>rw[h1] at h;cases h
 |some b=>
  rw[h1] at h;cases h2:(y b.2).rd p.2 with
  |none=>simp only[bL,h2] at h;cases h
  |some d=>
   simp only[bL,h2,je,qU] at h;obtain⟨rfl,rfl⟩:=h;obtain⟨t,b⟩:=b;obtain⟨s,d⟩:=d;obtain⟨h4,h5⟩:=axH hl;exact Prod.ext (x.ok _ _ _ h1 h4) ((y b).ok _ _ _ h2 h5)⟩
def pr (x:Rq α β)(y:Rq γ δ):Rq (α×γ) (β×δ):=dp x λ_=>y
def mp {β':Type}(x:Rq α β)(p:β->β')(q:β'->β)(h:∀b,b=q (p b)):Rq α β':=⟨λa=>(x.rd a).bind λb=>some (b.1,p b.2),λc=>x.em (q c),λa l c hc hl=>by
 cases h1:x.rd a with
 |none=>rw[h1] at hc;cases hc
 |some b=>
  rw[h1] at hc;obtain⟨t,b⟩:=b;cases hc;rw[<-h b];exact x.ok _ _ _ h1 hl⟩
def pl (x:Rq α β)(y:Rq γ Unit):Rq (α×γ) β:=mp (pr x y) Prod.fst (λb=>(b,())) λ_=>rfl
def pu (x:Rq α Unit)(y:Rq γ δ):Rq (α×γ) δ:=mp (pr x y) Prod.snd (λb=>((),b)) λ_=>rfl
def nil:Rq (List α) Unit:=one [] (λl=>match l with| []=>true|_=>false) λb h=>by cases b<;>first|rfl|cases h
def co (x:Rq (α×List α) β):Rq (List α) β:=via (λp:α×List α=>p.1::p.2) (λl=>match l with|a::l=>some (a,l)|_=>none) (λa' a h=>by cases a'<;>cases h;rfl) x
def c (x:Rq α β)(y:Rq (List α) δ):Rq (List α) (β×δ):=co (pr x y)
def cl (x:Rq α β)(y:Rq (List α) Unit):Rq (List α) β:=co (pl x y)
def cu (x:Rq α Unit)(y:Rq (List α) δ):Rq (List α) δ:=co (pu x y)
def cd (x:Rq α β)(y:β->Rq (List α) δ):Rq (List α) (β×δ):=co (dp x y)
def ap (n:Nat)(x:Rq (List α×List α) β):Rq (List α) β:=via (λp:List α×List α=>p.1++p.2) (λl=>some (l.take n,l.drop n)) (λa' a h=>by cases h;simp) x
def a (n:Nat)(x:Rq (List α) β)(y:Rq (List α) δ):Rq (List α) (β×δ):=ap n (pr x y)
def al (n:Nat)(x:Rq (List α) β)(y:Rq (List α) Unit):Rq (List α) β:=ap n (pl x y)
def au (n:Nat)(x:Rq (List α) Unit)(y:Rq (List α) δ):Rq (List α) δ:=ap n (pu x y)
def no:Rq (Option α) Unit:=one none (λl=>match l with|none=>true|_=>false) λb h=>by cases b<;>first|rfl|cases h
def so (x:Rq α β):Rq (Option α) β:=via some (λa=>a) (λa' a h=>h) x
def szl (x:Rq Nat β):Rq Sz β:=via Sz.l (λz=>match z with|.l n=>some n|_=>none) (λa' a h=>by cases a'<;>cases h;rfl) x
def szs (x:Rq Nat β):Rq Sz β:=via Sz.s (λz=>match z with|.s n=>some n|_=>none) (λa' a h=>by cases a'<;>cases h;rfl) x
def ok' (x:Rq Nat β):Rq cE β:=via cE.k (λz=>match z with|.k n=>some n|_=>none) (λa' a h=>by cases a'<;>cases h;rfl) x
def ox (x:Rq (Nat×Nat×Nat) β):Rq cE β:=via (λp:Nat×Nat×Nat=>cE.x p.1 p.2.1 p.2.2) (λz=>match z with|.x a b c=>some (a,b,c)|_=>none) (λa' a h=>by cases a'<;>cases h;rfl) x
def fi (k:IntKind)(x:Rq Int β):Rq FV β:=via (FV.i k) (λz=>match z with|.i k' n=>cond (decide (k'=k)) (some n) none|_=>none) (λa' a h=>by
 cases a' with
 |i k' n=>
  cases hk:decide (k'=k)<;>simp only[hk] at h<;>first|(cases h;done)|(cases h;rw[cQ hk])
 |_=>cases h) x
def fb (x:Rq Bool β):Rq FV β:=via FV.b (λz=>match z with|.b n=>some n|_=>none) (λa' a h=>by cases a'<;>cases h;rfl) x
def fs (x:Rq ByteArray β):Rq FV β:=via FV.s (λz=>match z with|.s n=>some n|_=>none) (λa' a h=>by cases a'<;>cases h;rfl) x
def cf (x:Rq FV β):Rq CV β:=via CV.f (λz=>match z with|.f n=>some n|_=>none) (λa' a h=>by cases a'<;>cases h;rfl) x
def H' (x:Rq (Nat×cE×Nat) β):Rq CV β:=via (λp:Nat×cE×Nat=>CV.ptr p.1 p.2.1 p.2.2) (λz=>match z with|.ptr a b c=>some (a,b,c)|_=>none) (λa' a h=>by cases a'<;>cases h;rfl) x
def ccl (x:Rq (Nat×Nat×cE×Nat) β):Rq CV β:=via (λp:Nat×Nat×cE×Nat=>CV.cl p.1 p.2.1 p.2.2.1 p.2.2.2) (λz=>match z with|.cl e a b c=>some (e,a,b,c)|_=>none) (λa' a h=>by cases a'<;>cases h;rfl) x
def jr (x:Rq (Nat×cE×Sz×Nat×Bool) β):Rq CV β:=via (λp:Nat×cE×Sz×Nat×Bool=>CV.sl p.1 p.2.1 p.2.2.1 p.2.2.2.1 p.2.2.2.2) (λz=>match z with|.sl a b c d e=>some (a,b,c,d,e)|_=>none) (λa' a h=>by cases a'<;>cases h;rfl) x
def cfs (x:Rq (Nat×Nat×List cT) β):Rq CV β:=via (λp:Nat×Nat×List cT=>CV.fs p.1 p.2.1 p.2.2) (λz=>match z with|.fs a b c=>some (a,b,c)|_=>none) (λa' a h=>by cases a'<;>cases h;rfl) x
def aC8:Rq CV Unit:=one .ah7 (λl=>match l with|.ah7=>true|_=>false) λb h=>by cases b<;>first|rfl|cases h
def aVG:Rq CV Unit:=one .nils (λl=>match l with|.nils=>true|_=>false) λb h=>by cases b<;>first|rfl|cases h
def ki (k:IntKind)(x:Rq (Nat->Int) β):Rq cT β:=via (cT.i k) (λz=>match z with|.i k' n=>cond (decide (k'=k)) (some n) none|_=>none) (λa' a h=>by
 cases a' with
 |i k' n=>
  cases hk:decide (k'=k)<;>simp only[hk] at h<;>first|(cases h;done)|(cases h;rw[cQ hk])
 |_=>cases h) x
def kb (x:Rq (Nat->Bool) β):Rq cT β:=via cT.b (λz=>match z with|.b n=>some n|_=>none) (λa' a h=>by cases a'<;>cases h;rfl) x
def ks (x:Rq (Nat->ByteArray) β):Rq cT β:=via cT.s (λz=>match z with|.s n=>some n|_=>none) (λa' a h=>by cases a'<;>cases h;rfl) x
def gc (x:Rq CV β):Rq Sg β:=via Sg.c (λz=>match z with|.c n=>some n|_=>none) (λa' a h=>by cases a'<;>cases h;rfl) x
def ga (x:Rq (Sz×List cT) β):Rq Sg β:=via (λp:Sz×List cT=>Sg.a p.1 p.2) (λz=>match z with|.a n c=>some (n,c)|_=>none) (λa' a h=>by cases a'<;>cases h;rfl) x
def rc (x:Rq CV β):Rq RV β:=via RV.c (λz=>match z with|.c n=>some n|_=>none) (λa' a h=>by cases a'<;>cases h;rfl) x
def ra (x:Rq af β):Rq RV β:=via RV.agg (λz=>match z with|.agg n=>some n|_=>none) (λa' a h=>by cases a'<;>cases h;rfl) x
def ar (x:Rq RV β):Rq AV β:=via AV.r (λz=>match z with|.r n=>some n|_=>none) (λa' a h=>by cases a'<;>cases h;rfl) x
def sH (x:Rq (List RV) β):Rq AV β:=via AV.tup (λz=>match z with|.tup n=>some n|_=>none) (λa' a h=>by cases a'<;>cases h;rfl) x
def afn (x:Rq (Nat×List RV) β):Rq AV β:=via (λp:Nat×List RV=>AV.fn p.1 p.2) (λz=>match z with|.fn a b=>some (a,b)|_=>none) (λa' a h=>by cases a'<;>cases h;rfl) x
def a0Q:Rq AV Unit:=one .VH (λl=>match l with|.VH=>true|_=>false) λb h=>by cases b<;>first|rfl|cases h
def st (x:Rq (List AV×List (Option af)×List Nat) β):Rq St β:=via (λp:List AV×List (Option af)×List Nat=>St.mk p.1 p.2.1 p.2.2) (λz=>some (z.tmps,z.heap,z.dy)) (λa' a h=>by cases a';cases h;rfl) x
def fL:Rq Ch Unit:=one .nc (λl=>match l with|.nc=>true|_=>false) λb h=>by cases b<;>first|rfl|cases h
def UL:Rq Ch Unit:=one .kill (λl=>match l with|.kill=>true|_=>false) λb h=>by cases b<;>first|rfl|cases h
def zD (x:Rq af β):Rq Ch β:=via Ch.set (λz=>match z with|.set n=>some n|_=>none) (λa' a h=>by cases a'<;>cases h;rfl) x
def res (x:Rq (AV×List Ch×List af) β):Rq pz β:=via (λp:AV×List Ch×List af=>pz.mk p.1 p.2.1 p.2.2) (λz=>some (z.val,z.yo,z.news)) (λa' a h=>by cases a';cases h;rfl) x
def us:Nat->Rq (List AV) β->Rq (List AV) β
 |0,x=>x
 |n+1,x=>cu a0Q (us n x)
def xs:Nat->Rq (List AV) β->Rq (List AV) β
 |0,x=>x
 |n+1,x=>cu (sH nil) (xs n x)
def ci:Rq CV Int:=cf (fi .i64 hole)
def cn:Rq CV Int:=cf (fi .u64 hole)
def cb:Rq CV Bool:=cf (fb hole)
def ct:Rq CV ByteArray:=cf (fs hole)
def gi:Rq Sg Int:=gc ci
def gn:Rq Sg Int:=gc cn
def gb:Rq Sg Bool:=gc cb
def gt:Rq Sg ByteArray:=gc ct
def ac (x:Rq CV β):Rq AV β:=ar (rc x)
def ai:Rq AV Int:=ac ci
def an:Rq AV Int:=ac cn
def ab:Rq AV Bool:=ac cb
def aa (x:Rq af β):Rq AV β:=ar (ra x)
def cp (b n:Nat):Rq CV Unit:=H' (pu (nat b) (pu (ok' (nat 0)) (nat n)))
def gp (b n:Nat):Rq Sg Unit:=gc (cp b n)
def app (b n:Nat):Rq AV Unit:=ac (cp b n)
def slc (b z:Nat):Rq CV (Nat×Bool):=jr (pu (nat b) (pu (ok' (nat 0)) (pr (szs hole) (pu (nat z) hole))))
def Dd (b z:Nat):Rq CV Nat:=jr (pu (nat b) (pu (ok' (nat 0)) (pl (szs hole) (pu (nat z) (bool true)))))
def gl (n:Nat)(x:Rq (List cT) β):Rq Sg β:=ga (pu (szl (nat n)) x)
def gs (n:Nat)(x:Rq (List cT) β):Rq Sg β:=ga (pu (szs (tie n)) x)
def gI:Rq cT (Nat->Int):=ki .i64 hole
def kcb:Rq cT (Nat->Bool):=kb hole
end Rq
abbrev Ct:=Nat×E9
def T.axI (l:List Bool)(t:T):T:=List.rec (motive:=λ_=>T) t (λb _ r=>.test b r .fail) l
def aXV {ρ:Type}(l:List Bool)(t:Option ρ):Option ρ:=List.rec (motive:=λ_=>Option ρ) t (λb _ r=>cond b r none) l
theorem ak8 {t:T}{r:pz}:∀{l:List Bool},(T.axI l t).eval=some r->aEw l/\t.eval=some r
 | [],h=>⟨trivial,h⟩
 |b::l,h=>by
  obtain⟨h1,h2⟩:=aEu (b:=b) (a:=T.axI l t) h;obtain⟨h3,h4⟩:=ak8 h2;exact⟨⟨h1,h3⟩,h4⟩
theorem aEx {ρ:Type}{t:Option ρ}{r:ρ}:∀{l:List Bool},aXV l t=some r->aEw l/\t=some r
 | [],h=>⟨trivial,h⟩
 |b::l,h=>by
  have h':cond b (aXV l t) none=some r:=h;cases b with
  |false=>cases h'
  |true=>
   obtain⟨h3,h4⟩:=aEx h';exact⟨⟨rfl,h3⟩,h4⟩
def FC {β δ:Type}(Q:Rq (List AV×List af) β)(R:δ->T)(f:β->Option δ):E9:=λa h=>match Q.rd (a,h) with
 |some b=>T.axI b.1 (.opt (f b.2) R)
 |none=>.fail
def fW {D X:Type}(id kk:Nat)(Q:Rq St D)(E:∀{ρ:Type},X->(AX->St->Option ρ)->Option ρ)(l:D->Option X):Sm:=⟨id,kk,λs k=>match Q.rd s with
 |some b=>aXV b.1 ((l b.2).bind λx=>E x k)
 |none=>none⟩
def akF {β δ:Type}(P:Program)(l:List Ct)(hs:Hs)(lf n:Nat)(Q:Rq (List AV×List af) β)(R:δ->T)(B:β->Pg δ):Prop:=
 ∀b,den P (E' l) hs lf n (Q.em b).1 (Q.em b).2=(B b).run λd=>(R d).eval
def aSg {D X:Type}(P:Program)(l:List Ct)(hs:Hs)(kk lf n id:Nat)(Q:Rq St D)(E:∀{ρ:Type},X->(AX->St->Option ρ)->Option ρ)(S:D->Pg (D⊕X)):Prop:=
 ∀(ρ:Type) (d:D) (c:St->Option ρ) (K:AX->St->Option ρ),G' P (E' l) hs (tmpsOf P n) kk lf (Zs P n id) (Q.em d) (next (λt=>t.head kk hs (Zs P n id)) c K)=
  (S d).run (t8 (λd=>c (Q.em d)) λx=>E x K)
def aSh {D X:Type}(P:Program)(l:List Ct)(hs:Hs)(kk lf n id:Nat)(Q:Rq St D)(E:∀{ρ:Type},X->(AX->St->Option ρ)->Option ρ)(S:D->Pg X):Prop:=
 ∀(ρ:Type) (d:D) (K:AX->St->Option ρ),G' P (E' l) hs (tmpsOf P n) kk lf (afr P n id) (Q.em d) K=(S d).run λx=>E x K
section
variable [ax]
def Snd (P:Program)(e:Ct):Prop:=Sound P e.1 e.2
theorem Snd.of {P:Program}{e:Ct}{n:Nat}{F:E9}(S:Sound P n F)(h:e=(n,F)):Snd P e:=by
 subst h;exact S
theorem JL.c {P:Program}{l:List Ct}{e:Ct}(S:Snd P e)(h:JL P l):JL P (e::l):=JL.cons S h
omit [ax] in
theorem aNw {D X:Type}{id kk:Nat}{Q:Rq St D}{E:∀{ρ:Type},X->(AX->St->Option ρ)->Option ρ}{l:D->Option X}{ρ:Type}{s:St}{K:AX->St->Option ρ}{r:ρ}
  (h:(fW id kk Q E l).run s K=some r):∃d,s=Q.em d/\((l d).bind λx=>E x K)=some r:=by
 simp only[fW] at h;split at h
 .rename_i b hb
  obtain⟨t,d⟩:=b;obtain⟨h1,h2⟩:=aEx h;exact⟨d,Q.ok s t d hb h1,h2⟩
 .cases h
theorem mkL {D X:Type}{P:Program}{l:List Ct}{hs:Hs}{kk lf n id:Nat}{Q:Rq St D}{E:∀{ρ:Type},X->(AX->St->Option ρ)->Option ρ}{S:D->Pg (D⊕X)}
  (h0:apP hs (Zs P n id)=some (fW id kk Q E (bD S lf)))(h:aSg P l hs kk lf n id Q E S):∀k',Oc P (E' l) hs (tmpsOf P n) k' lf (Zs P n id):=
 Oc.of (id:=id) (k0:=kk) (run:=(fW id kk Q E (bD S lf)).run) h0 λs K r hr=>by
  obtain⟨d,rfl,Y9⟩:=aNw hr;refine⟨lf,?_⟩;rw[ak7] at Y9;exact(azx (emb:=Q.em) (step:=λd c x=>(S d).run (t8 c x)) (kx:=λx=>E x K) (λd c=>h _ d c K) lf d).trans Y9
theorem mkJ {D X:Type}{P:Program}{l:List Ct}{hs:Hs}{kk lf n id:Nat}{hd:Hd}{Q:Rq St D}{E:∀{ρ:Type},X->(AX->St->Option ρ)->Option ρ}{S:D->Pg X}
  (h0:ay9 hs (afr P n id)=some ⟨hd,fW id kk Q E λd=>(S d).val⟩)(h:aSh P l hs kk lf n id Q E S):∀k',at6 P (E' l) hs (tmpsOf P n) k' lf (afr P n id):=
 at6.of (id:=id) (k0:=kk) (hd:=hd) (run:=(fW id kk Q E λd=>(S d).val).run) h0 λs K r hr=>by
  obtain⟨d,rfl,Y9⟩:=aNw hr;rw[Pg.auw] at Y9;exact(h _ d K).trans Y9
omit [ax] in
theorem aXW {β δ:Type}{Q:Rq (List AV×List af) β}{R:δ->T}{B:β->Pg δ}{a:List AV}{h:List af}{r:pz}(hr:(FC Q R (λb=>(B b).val) a h).eval=some r):
  ∃b,(a,h)=Q.em b/\((B b).run λd=>(R d).eval)=some r:=by
 unfold FC at hr;split at hr
 .rename_i b hb
  obtain⟨t,b⟩:=b;obtain⟨h1,Y9⟩:=ak8 hr;rw[asH,Pg.auw] at Y9;exact⟨b,Q.ok _ _ _ hb h1,Y9⟩
 .cases hr
theorem mkS {β δ:Type}{P:Program}{l:List Ct}{hs:Hs}{lf n:Nat}{Q:Rq (List AV×List af) β}{R:δ->T}{B:β->Pg δ}(hm:P.follows .mixedOrders=true)(hl:JL P l)(hc:Gn P n=true)
  (aNo:∀fn c kk,P.funcs[n]? =some fn->fn.body=some c->Lp P (E' l) hs fn.ntmps kk lf c)(h:akF P l hs lf n Q R B):Sound P n (FC Q R λb=>(B b).val):=
 (aTB hl hm aNo hc).by λa b r hr=>by
  obtain⟨b,e,Y9⟩:=aXW hr;obtain⟨rfl,rfl⟩:=Prod.mk.inj e;exact aTC ((h b).trans Y9)
theorem mk0 {β δ:Type}{P:Program}{l:List Ct}{d0:List Nat}{lf n:Nat}{Q:Rq (List AV×List af) β}{R:δ->T}{B:β->Pg δ}(hm:P.follows .mixedOrders=true)(hl:JL P l)(hc:Gn P n=true)
  (h:akF P l ⟨[],[],d0,[],none⟩ lf n Q R B):Sound P n (FC Q R λb=>(B b).val):=
 mkS hm hl hc (λ_ _ _ _ _=>Lp.nil ..) h
omit [ax] in
theorem aNx {t t':T}{r:pz}(h:t.eval=some r->t'.eval=some r)(l:List Bool):(T.axI l t).eval=some r->(T.axI l t').eval=some r:=by
 induction l with
 |nil=>exact h
 |cons b l ih=>
  intro k;obtain⟨h1,h2⟩:=aEu (b:=b) (a:=T.axI l t) k;subst h1;exact ih h2
theorem Fe {β δ:Type}{P:Program}{n:Nat}{Q:Rq (List AV×List af) β}{R R':δ->T}{f:β->Option δ}(h:∀d r,(R' d).eval=some r->(R d).eval=some r)(S:Sound P n (FC Q R f)):Sound P n (FC Q R' f):=S.by λa b r hr=>by
 unfold FC at hr ⊢;split at hr
 .rename_i x hx
  refine aNx (λhr=> ?_) x.1 hr;rw[asH] at hr ⊢;cases hf:f x.2 with
  |none=>rw[hf] at hr;cases hr
  |some d=>rw[hf,bL] at hr;exact h d r hr
 .cases hr
end
abbrev wI (n:Int):Int:=IntKind.wrap .i64 n
abbrev wU (n:Int):Int:=IntKind.wrap .u64 n
end Go.Ab
namespace Go.Ab
theorem aTJ {a:Bool}{pt:List PT}{ps:List Prm}{ds:List Dat}(h:aEr (.flat a pt::ps) ds):∃l ds',ds=.flat l::ds'/\bl azs pt l/\aEr ps ds':=by
 match ds,h with
 |.flat l::ds',h=>exact⟨l,ds',rfl,h.1,h.2⟩
theorem aZH {ks:List K}{ps:List Prm}{ds:List Dat}(h:aEr (.sl ks::ps) ds):∃n cols ds',ds=.sl n cols::ds'/\n<=maxLen/\bl (λk c=>K.oi k n c) ks cols/\aEr ps ds':=by
 match ds,h with
 |.sl n cols::ds',h=>exact⟨n,cols,ds',rfl,h.1.1,h.1.2,h.2⟩
theorem aXX {ds:List Dat}(h:aEr [] ds):ds=[]:=by cases ds<;>first|rfl|cases h
theorem aZI {l:List DC}(h:bl azs [] l):l=[]:=by cases l<;>first|rfl|cases h
theorem EC {k:IntKind}{pt:List PT}{l:List DC}(h:bl azs (.c (.i k)::pt) l):∃x l',l=.c (.i k x)::l'/\(k.min<=x/\x<=k.max)/\bl azs pt l':=by
 match l,h with
 |.c (.i k' x)::l',h=>
  obtain⟨⟨rfl,h1⟩,h2⟩:=h;exact⟨x,l',rfl,h1,h2⟩
theorem a0R {n:Nat}{ks:List K}{pt:List PT}{l:List DC}(h:bl azs (.a n ks::pt) l):∃cols l',l=.a cols::l'/\bl (λk c=>K.oi k n c) ks cols/\bl azs pt l':=by
 match l,h with
 |.a cols::l',h=>exact⟨cols,l',rfl,h.1,h.2⟩
theorem aEy {n:Nat}{l:List cT}(h:bl (λk c=>K.oi k n c) [] l):l=[]:=by cases l<;>first|rfl|cases h
theorem xG {n:Nat}{k:IntKind}{ks:List K}{l:List cT}(h:bl (λk c=>K.oi k n c) (.i k::ks) l):∃g l',l=.i k g::l'/\(∀j,j<n->k.min<=g j/\g j<=k.max)/\bl (λk c=>K.oi k n c) ks l':=by
 match l,h with
 |.i k' g::l',h=>
  obtain⟨⟨rfl,h1⟩,h2⟩:=h;exact⟨g,l',rfl,h1,h2⟩
theorem ZK {D X ρ:Type}(s:D->(D->Option ρ)->(X->Option ρ)->Option ρ)(n:Nat)(d:D)(k:X->Option ρ):SB s (n+1) d k=s d (λd=>SB s n d k) k:=rfl
theorem aEz {D X ρ:Type}{s:D->(D->Option ρ)->(X->Option ρ)->Option ρ}{k:X->Option ρ}{r:Option ρ}(Inv:Nat->D->Prop)
  (h:∀t d c,Inv t d->(∀t' d',t'<t->Inv t' d'->c d'=r)->s d c k=r):∀(fuel t:Nat) (d:D),t<fuel->Inv t d->SB s fuel d k=r
 |0,t,d,hf,hd=>by omega
 |fuel+1,t,d,hf,hd=>by
  rw[ZK];exact h t d _ hd λt' d' ht hd'=>aEz Inv h fuel t' d' (by omega) hd'
theorem wrap_i64 {n:Int}(h1: -9223372036854775808<=n)(h2:n<=9223372036854775807):IntKind.wrap .i64 n=n:=by
 unfold IntKind.wrap;simp only[IntKind.signed,IntKind.bits,pw,lC,show(2:Int)^64=18446744073709551616 from rfl,show(2:Int)^(64-1)=9223372036854775808 from rfl];split<;>omega
theorem wrap_u64 (n:Int):IntKind.wrap .u64 n=n%18446744073709551616:=by
 unfold IntKind.wrap;simp only[IntKind.signed,IntKind.bits,Bool.false_and,show(2:Int)^64=18446744073709551616 from rfl,xE,gB]
theorem Ot {D X ρ:Type}{s:D->Pg (D⊕X)}{k:X->Option ρ}{r:Option ρ}(Inv:Nat->D->Prop)
  (h:∀t d c,Inv t d->(∀t' d',t'<t->Inv t' d'->c d'=r)->(s d).run (t8 c k)=r)(fuel t:Nat)(d:D)(hf:t<fuel)(hd:Inv t d):(bD s fuel d).bind k=r:=by
 rw[ak7];exact aEz Inv h fuel t d hf hd
theorem ZL {D X:Type}{s:D->Pg (D⊕X)}(Inv:Nat->D->Prop)(Q:X->Prop)
  (h:∀t d,Inv t d->∃y,(s d).val=some y/\match y with|.inl d'=>∃t',t'<t/\Inv t' d'|.inr x=>Q x):∀(fuel t:Nat) (d:D),t<fuel->Inv t d->∃x,bD s fuel d=some x/\Q x
 |0,t,d,hf,hd=>by omega
 |fuel+1,t,d,hf,hd=>by
  obtain⟨y,hy,hq⟩:=h t d hd;have e:bD s (fuel+1) d=(s d).run (t8 (λd=>bD s fuel d) some):=rfl;rw[e,<-Pg.auw,hy,bL];cases y with
  |inl d'=>obtain⟨t',ht,hd'⟩:=hq;exact ZL Inv Q h fuel t' d' (by omega) hd'
  |inr x=>exact⟨x,rfl,hq⟩
class bn {D:Type} (x:Option D):Prop where
 ok:∃d,x=some d
def Ok {D:Type}(x:Option D)(Q:D->Prop):Prop:=∃d,x=some d/\Q d
def PQ {δ:Type}(p:Pg δ)(Q:δ->Prop):Prop:=Ok p.val Q
section
variable {δ D A B:Type} {Q:δ->Prop}
theorem Ok.tot {x:Option D}{Q:D->Prop}(h:Ok x Q):bn x:=⟨h.imp λ_ h=>h.1⟩
theorem Ok.post {x:Option D}{Q:D->Prop}(h:Ok x Q){d:D}(e:x=some d):Q d:=by
 obtain⟨d',e',h⟩:=h;rw[e] at e';cases e';exact h
theorem Ok.mono {x:Option D}{Q R:D->Prop}(h:Ok x Q)(k:∀d,Q d->R d):Ok x R:=h.imp λ_ h=>⟨h.1,k _ h.2⟩
theorem bn.Ok {x:Option D}(h:bn x){Q:D->Prop}(k:∀d,x=some d->Q d):Ok x Q:=by
 obtain⟨d,e⟩:=h.ok;exact⟨d,e,k d e⟩
theorem aXY (d:D)(Q:D->Prop):Ok (some d) Q=Q d:=propext (Iff.intro (λh=>Ok.post h rfl) λh=>⟨d,rfl,h⟩)
theorem av (d:δ):PQ (.ret d) Q=Q d:=aXY d Q
theorem aQ9:PQ (.no:Pg δ) Q=False:=propext (Iff.intro (λh=>by obtain⟨_,h,_⟩:=h;cases h) λh=>False.elim h)
theorem aK (b:Bool)(x y:Pg δ):PQ (.ae b x y) Q=((b=true->PQ x Q)/\(b=false->PQ y Q)):=by
 unfold PQ;rw[Pg.bS];cases b<;>simp
theorem bJ (b:Bool)(x:Pg δ):PQ (.ae b x .no) Q=(b=true/\PQ x Q):=by
 rw[aK,aQ9];cases b<;>simp
theorem aC (x y:Pg δ):PQ (.ae true x y) Q=PQ x Q:=by unfold PQ;rw[Pg.bS];rfl
theorem bE (x:Option D)(f:D->Pg δ)[h:bn x]:PQ (.opt x f) Q=∀d,x=some d->PQ (f d) Q:=by
 obtain⟨d,rfl⟩:=h.ok;unfold PQ;rw[Pg.cG,bL];exact propext (Iff.intro (λh d' e=>by cases e;exact h) λh=>h d rfl)
theorem bT (d:D)(f:D->Pg δ):PQ (.opt (some d) f) Q=PQ (f d) Q:=rfl
theorem ay {x:Option D}{f:D->Pg δ}{R:D->Prop}(h:Ok x R)(k:∀d,x=some d->R d->PQ (f d) Q):PQ (.opt x f) Q:=by
 obtain⟨d,rfl,hr⟩:=h;exact k d rfl hr
theorem qy (x:A⊕B)(f:A->Pg δ)(g:B->Pg δ):PQ (.sum x f g) Q=((∀a,x=.inl a->PQ (f a) Q)/\∀b,x=.inr b->PQ (g b) Q):=by
 unfold PQ;rw[Pg.eL];cases x<;>simp
theorem uk (x:A⊕B)(f:A->Pg δ)(g:B->Pg δ):PQ (.sm x f g) Q=((∀a,x=.inl a->PQ (f a) Q)/\∀b,x=.inr b->PQ (g b) Q):=by
 unfold PQ;rw[Pg.aCN];cases x<;>simp
theorem aG {p:Pg δ}(h:PQ p λ_=>True):bn p.val:=Ok.tot h
theorem aEA {D X:Type}{s:D->Pg (D⊕X)}(I:D->Prop)(m:D->Nat)(R:X->Prop)
  (h:∀d,I d->PQ (s d) (t8 (λd'=>I d'/\m d'<m d) R)):∀(n:Nat) (d:D),I d->m d<n->Ok (bD s n d) R:=λn d hd hn=>by
 refine ZL (λt d=>I d/\m d=t) R (λt d hd=> ?_) n (m d) d hn ⟨hd,rfl⟩;obtain⟨y,hy,hq⟩:=h d hd.1;refine⟨y,hy,?_⟩;cases y with
 |inl d'=>exact⟨m d',hd.2▸hq.2,hq.1,rfl⟩
 |inr x=>exact hq
end
theorem aY {n:Int}(h:0<=n:=by omega)(k:n<=4611686018427387904:=by omega):wI (n+1)=n+1:=wrap_i64 (by omega) (by omega)
theorem eF {n:Int}(h: -4611686018427387904<=n:=by omega)(k:n<=4611686018427387904:=by omega):wI n=n:=wrap_i64 (by omega) (by omega)
theorem bk {n:Int}{m:Nat}:bb n m=true↔0<=n/\n<m:=by simp[bb]
theorem ady {n:Int}{m:Nat}:KI n m=true↔0<=n/\n<=m:=by simp[KI]
theorem bY {m n:Nat}:wd m n=true↔m<=n:=by rw[Nat.ble_eq]
theorem nf {b:Bool}:(b=false->False)↔b=true:=by cases b<;>simp
theorem hdN (n:Nat)(h:n<=1999):(0:Int)<=0/\(0:Int)<=wl n/\wl n<=1999/\wl n=(n:Int):=by
 simp only[dO,BJ];omega
theorem aN (m:Nat):ww m m=true:=Lv m
theorem bM:(∀{δ:Type} {Q:δ->Prop} (d:δ),PQ (.ret d) Q=Q d)/\(∀{δ:Type} {Q:δ->Prop} (b:Bool) (x:Pg δ),PQ (.ae b x .no) Q=(b=true/\PQ x Q))/\(∀{δ:Type} {Q:δ->Prop} (b:Bool) (x y:Pg δ),PQ (.ae b x y) Q=((b=true->PQ x Q)/\(b=false->PQ y Q)))
  /\(∀{δ D:Type} {Q:δ->Prop} (x:Option D) (f:D->Pg δ) [h:bn x],PQ (.opt x f) Q=∀d,x=some d->PQ (f d) Q)/\(∀{δ A B:Type} {Q:δ->Prop} (x:A⊕B) (f:A->Pg δ) (g:B->Pg δ),PQ (.sum x f g) Q=((∀a,x=.inl a->PQ (f a) Q)/\∀b,x=.inr b->PQ (g b) Q))
  /\(∀{δ A B:Type} {Q:δ->Prop} (x:A⊕B) (f:A->Pg δ) (g:B->Pg δ),PQ (.sm x f g) Q=((∀a,x=.inl a->PQ (f a) Q)/\∀b,x=.inr b->PQ (g b) Q))/\(∀{δ:Type} {Q:δ->Prop},PQ (.no:Pg δ) Q=False)
  /\(∀{A B C:Type} (f:A->C) (g:B->C) (x:A),t8 f g (.inl x)=f x)/\(∀{A B C:Type} (f:A->C) (g:B->C) (x:B),t8 f g (.inr x)=g x)
  /\(∀p:Prop,(p->True)=True)/\(∀α:Type,(α->True)=True)/\(∀p:Prop,(p/\True)=p)/\(∀p:Prop,(True/\p)=p)/\∀p:Prop,(p/\p)=p:=
 ⟨λd=>av d,λb x=>bJ b x,λb x y=>aK b x y,λx f _=>bE x f,λx f g=>qy x f g,λx f g=>uk x f g,aQ9,λ_ _ _=>rfl,λ_ _ _=>rfl,λp=>Og p,λα=>Og α,BJ,Av,and_self⟩
theorem qF:(∀m,ww m m=true)/\(∀p:Prop,(True->p)=p)/\((true=false)=False)/\(∀p:Prop,(False->p)=True)/\∀{δ D:Type} {Q:δ->Prop} (d:D) (f:D->Pg δ),PQ (.opt (some d) f) Q=PQ (f d) Q:=
 ⟨aN,Of,Lq,Ed,λd f=>bT d f⟩
theorem uF:(∀{n:Int} {m:Nat},bb n m=true↔0<=n/\n<m)/\(∀{n:Int} {m:Nat},KI n m=true↔0<=n/\n<=m)/\(∀{m n:Nat},wd m n=true↔m<=n)/\(∀m,ww m m=true)/\(∀a b:Bool,((a&&b)=true)=(a=true/\b=true))/\(∀{p:Prop} [Decidable p],(decide p=true)=p)
  /\(∀{p:Prop} [Decidable p],decide p=false↔¬p)/\(∀{a b:Int},(a==b)=true↔a=b)/\(∀b:Bool,(true&&b)=b)/\∀n:Nat,wl n=(n:Int):=
 ⟨bk,ady,bY,aN,λa b=>cx a b,λ{_} _=>lC,λ{_} _=>aa8,beq_iff_eq,pw,dO⟩
theorem bp {D X:Type}{s:D->Pg (D⊕X)}{I:D->Prop}{R:X->Prop}(m:D->Nat)(h:∀d,I d->PQ (s d) (t8 (λd'=>I d'/\m d'<m d) R))(k:∀d,I d->m d<2000):∀d:D,I d->Ok (bD s 2000 d) R:=λd hd=>aEA I m R h 2000 d hd (k d hd)
end Go.Ab
namespace Go.Ab
def Po {D:Type}(x:Option D)(Q:D->Prop):Prop:=∀d,x=some d->Q d
def PW {δ:Type}(p:Pg δ)(Q:δ->Prop):Prop:=Po p.val Q
section
variable {δ D A B:Type} {Q:δ->Prop}
theorem Po.mono {x:Option D}{Q R:D->Prop}(h:Po x Q)(k:∀d,Q d->R d):Po x R:=λd e=>k d (h d e)
theorem Po.and {x:Option D}{Q R:D->Prop}(h:Po x Q)(k:Po x R):Po x (λd=>Q d/\R d):=λd e=>⟨h d e,k d e⟩
theorem Po.true {x:Option D}:Po x (λ_=>True):=λ_ _=>trivial
theorem Ok.with {x:Option D}{Q R:D->Prop}(h:Ok x Q)(k:Po x R):Ok x (λd=>Q d/\R d):=by
 obtain⟨d,e,q⟩:=h;exact⟨d,e,q,k d e⟩
theorem Ok.po {x:Option D}{Q:D->Prop}(h:Ok x Q):Po x Q:=λd e=>h.post e
theorem aXZ (d:D)(Q:D->Prop):Po (some d) Q=Q d:=propext (Iff.intro (λh=>h d rfl) λh d' e=>by cases e;exact h)
theorem aQ (d:δ):PW (.ret d) Q=Q d:=aXZ d Q
theorem kQ:PW (.no:Pg δ) Q=True:=propext (Iff.intro (λ_=>trivial) λ_ d h=>by cases h)
theorem aX (b:Bool)(x y:Pg δ):PW (.ae b x y) Q=((b=true->PW x Q)/\(b=false->PW y Q)):=by
 unfold PW;rw[Pg.bS];cases b<;>simp
theorem cU (b:Bool)(x:Pg δ):PW (.ae b x .no) Q=(b=true->PW x Q):=by
 rw[aX,kQ];cases b<;>simp
theorem dz (x:Option D)(f:D->Pg δ):PW (.opt x f) Q=∀d,x=some d->PW (f d) Q:=by
 unfold PW;rw[Pg.cG];cases x with
 |none=>exact propext (Iff.intro (λ_ d e=>by cases e) λ_ d e=>by cases e)
 |some d=>exact propext (Iff.intro (λh d' e=>by cases e;exact h) λh=>h d rfl)
theorem bB {x:Option D}{f:D->Pg δ}{R:D->Prop}(h:Po x R)(k:∀d,x=some d->R d->PW (f d) Q):PW (.opt x f) Q:=by
 rw[dz];exact λd e=>k d e (h d e)
theorem iz (x:A⊕B)(f:A->Pg δ)(g:B->Pg δ):PW (.sum x f g) Q=((∀a,x=.inl a->PW (f a) Q)/\∀b,x=.inr b->PW (g b) Q):=by
 unfold PW;rw[Pg.eL];cases x<;>simp
theorem qu (x:A⊕B)(f:A->Pg δ)(g:B->Pg δ):PW (.sm x f g) Q=((∀a,x=.inl a->PW (f a) Q)/\∀b,x=.inr b->PW (g b) Q):=by
 unfold PW;rw[Pg.aCN];cases x<;>simp
theorem VU {D X:Type}{s:D->Pg (D⊕X)}(I:D->Prop)(R:X->Prop)(h:∀d,I d->PW (s d) (t8 I R)):∀(n:Nat) (d:D),I d->Po (bD s n d) R
 |0,d,hd,x,e=>by cases e
 |n+1,d,hd,x,e=>by
  have e1:bD s (n+1) d=(s d).run (t8 (λd=>bD s n d) some):=rfl;rw[e1,<-Pg.auw] at e;cases hv:(s d).val with
  |none=>rw[hv] at e;cases e
  |some y=>
   rw[hv,bL] at e;have q:=h d hd y hv;cases y with
   |inl d'=>exact VU I R h n d' q x e
   |inr x'=>cases e;exact q
end
theorem Dg {D X:Type}{s:D->Pg (D⊕X)}{I:D->Prop}{R:X->Prop}(h:∀d,I d->PW (s d) (t8 I R)):∀d:D,I d->Po (bD s 2000 d) R:=λd hd=>VU I R h 2000 d hd
end Go.Ab
set_option maxRecDepth 100000
set_option maxHeartbeats 4000000
namespace Go.Proofs.YtldgljclcgaibaaGreat
open Go.Ab Go.Ab.Pg
open Go
class Mo {D:Type} (x:Option D) (R:outParam (D->Prop)):Prop where
 h:Po x R
section
variable {δ D A B:Type} {Q:δ->Prop}
theorem aNy {d:δ}(h:Q d):PW (.ret d) Q:=by rw[aQ];exact h
theorem aZJ:PW (.no:Pg δ) Q:=by rw[kQ];trivial
theorem aNz {b:Bool}{x y:Pg δ}(h:PW x Q)(k:PW y Q):PW (.ae b x y) Q:=by rw[aX];exact⟨λ_=>h,λ_=>k⟩
theorem aNA {x:Option D}{f:D->Pg δ}{R:D->Prop}[m:Mo x R](k:∀d,R d->PW (f d) Q):PW (.opt x f) Q:=bB m.h λd _=>k d
theorem aNB {x:Option D}{f:D->Pg δ}(k:∀d,PW (f d) Q):PW (.opt x f) Q:=by rw[dz];exact λd _=>k d
theorem aX0 {P:A->Prop}{R:B->Prop}{x:A⊕B}{f:A->Pg δ}{g:B->Pg δ}(h:t8 P R x)(k:∀a,P a->PW (f a) Q)(l:∀b,R b->PW (g b) Q):PW (.sum x f g) Q:=by
 rw[iz];exact⟨λa e=>k a (by rw[e] at h;exact h),λb e=>l b (by rw[e] at h;exact h)⟩
theorem aZK {P:A->Prop}{R:B->Prop}{x:A⊕B}{f:A->Pg δ}{g:B->Pg δ}(h:t8 P R x)(k:∀a,P a->PW (f a) Q)(l:∀b,R b->PW (g b) Q):PW (.sm x f g) Q:=by
 rw[qu];exact⟨λa e=>k a (by rw[e] at h;exact h),λb e=>l b (by rw[e] at h;exact h)⟩
theorem aTK {x:A⊕B}{f:A->Pg δ}{g:B->Pg δ}(k:∀a,PW (f a) Q)(l:∀b,PW (g b) Q):PW (.sum x f g) Q:=by rw[iz];exact⟨λa _=>k a,λb _=>l b⟩
theorem aX1 {x:A⊕B}{f:A->Pg δ}{g:B->Pg δ}(k:∀a,PW (f a) Q)(l:∀b,PW (g b) Q):PW (.sm x f g) Q:=by rw[qu];exact⟨λa _=>k a,λb _=>l b⟩
end
end Go.Proofs.YtldgljclcgaibaaGreat
namespace Go.Proofs.YtldgljclcgaibaaGreat
open Go.Ab
theorem aX2 [ax]:Sound Tryz.prog 240 (adw Df):=aIi (aKe (fn:=Tryz.f240) Tryz.func240 (by kernel_rfl) (by kernel_rfl) (by kernel_rfl) (by kernel_rfl))
theorem aX3 [ax]:Sound Tryz.prog 262 (adw adx):=aIi (aKf (fn:=Tryz.f262) Tryz.func262 (by kernel_rfl) (by kernel_rfl) (by kernel_rfl) (by kernel_rfl))
abbrev auy:=C3
def ak9 (g:C3):Ct:=(240,adw g)
theorem aoK [ax]:Snd Tryz.prog (ak9 Df):=aX2
abbrev aX4:=C3
def aNC (g:C3):Ct:=(262,adw g)
theorem aTL [ax]:Snd Tryz.prog (aNC adx):=aX3
end Go.Proofs.YtldgljclcgaibaaGreat
namespace Go.Ab
abbrev NI:=Nat->Int
theorem _root_.And.b {a b c:Prop}(x:a/\b/\c):c:=x.2.2
theorem _root_.And.c {a b c d e:Prop}(x:a/\b/\c/\d/\e):e:=x.2.2.2.2
theorem _root_.And.d {a b c d e f g h i:Prop}(x:a/\b/\c/\d/\e/\f/\g/\h/\i):i:=x.2.2.2.2.2.2.2.2
@[reducible] def _root_.Prod.b {a b c:Type} (x:a×b×c):c:=x.2.2
@[reducible] def _root_.Prod.c {a b c d e:Type} (x:a×b×c×d×e):e:=x.2.2.2.2
@[reducible] def _root_.Prod.d {a b c d e f g h i:Type} (x:a×b×c×d×e×f×g×h×i):i:=x.2.2.2.2.2.2.2.2
@[reducible] def _root_.Prod.e {a b c d e f g h i j k l m n o p q:Type} (x:a×b×c×d×e×f×g×h×i×j×k×l×m×n×o×p×q):q:=x.2.2.2.2.2.2.2.2.2.2.2.2.2.2.2.2
def cr {α:Type}(d:α)(l:List α):Nat->α:=List.rec (motive:=λ_=>Nat->α) (λ_=>d) (λx l ih j=>bif ww j l.length then x else ih j) l
@[reducible] def c24 (g:Nat->Nat->Int):=(g 0,g 1,g 2,g 3,g 4,g 5,g 6,g 7,g 8,g 9,g 10,g 11,g 12,g 13,g 14,g 15,g 16,g 17,g 18,g 19,g 20,g 21,g 22,g 23)
@[reducible] def ay1 {r:Type} (g:Nat->Nat->Int) (x:r):=(g 0,g 1,g 2,g 3,g 4,g 5,g 6,g 7,g 8,g 9,g 10,g 11,g 12,g 13,g 14,g 15,g 16,g 17,g 18,g 19,g 20,g 21,g 22,g 23,x)
def rg:Nat->Nat->List Nat->List Nat
 |_,0,t=>t
 |a,n+1,t=>a::rg (a+1) n t
def sh8 (o:Nat)(x:(Nat->Int)×(Nat->Int)×(Nat->Int)×(Nat->Int)×(Nat->Int)×(Nat->Int)×(Nat->Int)×(Nat->Int)):(Nat->Int)×(Nat->Int)×(Nat->Int)×(Nat->Int)×(Nat->Int)×(Nat->Int)×(Nat->Int)×(Nat->Int):=(λj=>x.1 (o+j),λj=>x.2.1 (o+j),λj=>x.2.2.1 (o+j),λj=>x.2.2.2.1 (o+j),λj=>x.2.2.2.2.1 (o+j),λj=>x.2.2.2.2.2.1 (o+j),λj=>x.2.2.2.2.2.2.1 (o+j),λj=>x.2.2.2.2.2.2.2 (o+j))
def vQ (o:Nat)(x:(Nat->Int)×(Nat->Int)×(Nat->Int)×(Nat->Int)×(Nat->Int)×(Nat->Int)×(Nat->Int)×(Nat->Int)×(Nat->Int)):(Nat->Int)×(Nat->Int)×(Nat->Int)×(Nat->Int)×(Nat->Int)×(Nat->Int)×(Nat->Int)×(Nat->Int)×(Nat->Int):=(λj=>x.1 (o+j),λj=>x.2.1 (o+j),λj=>x.2.2.1 (o+j),λj=>x.2.2.2.1 (o+j),λj=>x.2.2.2.2.1 (o+j),λj=>x.2.2.2.2.2.1 (o+j),λj=>x.2.2.2.2.2.2.1 (o+j),λj=>x.2.2.2.2.2.2.2.1 (o+j),λj=>x.2.2.2.2.2.2.2.2 (o+j))
def at2 (o:Nat)(x:(Nat->Int)×(Nat->Int)×(Nat->Int)×(Nat->Int)×(Nat->Int)×(Nat->Int)×(Nat->Int)×(Nat->Int)×(Nat->Int)×(Nat->Int)):(Nat->Int)×(Nat->Int)×(Nat->Int)×(Nat->Int)×(Nat->Int)×(Nat->Int)×(Nat->Int)×(Nat->Int)×(Nat->Int)×(Nat->Int):=(λj=>x.1 (o+j),λj=>x.2.1 (o+j),λj=>x.2.2.1 (o+j),λj=>x.2.2.2.1 (o+j),λj=>x.2.2.2.2.1 (o+j),λj=>x.2.2.2.2.2.1 (o+j),λj=>x.2.2.2.2.2.2.1 (o+j),λj=>x.2.2.2.2.2.2.2.1 (o+j),λj=>x.2.2.2.2.2.2.2.2.1 (o+j),λj=>x.2.2.2.2.2.2.2.2.2 (o+j))
abbrev bN:=(Int×Int×Int×Int×Int)×Int×Nat×Int
abbrev dk:=NI×NI×NI×NI×NI×NI×NI×NI×NI
abbrev E4:=Int×Int×Int×Int×(Int×Int×Int×Int×Int×Int)×(Int×Int×Int×Int×Int×Int)×NI×NI×Int×Int×Int×Int×Int×Int×Int×Int
abbrev D9:=(Int×Int×Int×Int)×(Int×Int×Int)×Int×Int×Int
abbrev At:=Nat×NI×NI×NI×NI×NI×NI×NI×NI×NI
abbrev E1:=Nat×NI×NI×NI×NI×NI×NI×NI×NI×NI×NI
abbrev Lk:=Int×(Int×Int×(Int×Int×Int)×Int×Int×Int)×Bool
abbrev Lg:=(NI×NI×(Nat->Bool)×NI×NI×NI)×Int
abbrev QO:=Nat×NI×NI×NI×NI×NI×NI×NI×NI
abbrev lG:=Int×Int×Int
abbrev qE:=Int×Int×Bool×Bool
abbrev tQ:=Int×Int×Nat
abbrev aRX:=Int×Int×Int×Int×Int×Int×Int×Int×Int×Int×Int×Int×Int×Int×NI×NI×Int×Int×Int×Int×Int×Int×Int
abbrev a0w:=(Int×Int×Int×Int×Int×Int×Int×Int×Int×Int×Int×Int×Int×Int×Int×Int×NI×NI×Int×Int×Int×Int×Int×Int×Int×Int×Bool×NI×NI×NI)×(Int×Int×Int×Int×Int)×Int×NI×Int×Int×Int×Int×Int×Int×(NI×NI×(Nat->Bool)×NI×NI×NI)×(Int×Int)×NI×NI×NI×NI×NI×NI×NI
abbrev aRY:=Int×Int×Int×Int×Int×Int×Int×Int×Int×Int×Int×Int×Int×Int×Int×Int×Int×Int×Int
abbrev aRZ:=Nat×NI×NI×NI×NI×NI×NI×NI×NI×NI×NI×NI×NI×NI×NI×NI×NI×NI×NI×NI×NI
abbrev aCV:=Int×Int×Int×Int×Int×Int×Int×Int
abbrev a0x:=(Int×Int×Int×Int×Int×Int×Int×Int×Int×Int×Bool×Int×Int×Int×Int×Bool×Bool)⊕(Int×Int×Int×Int×Int×Int×Int×Int×Int×Bool×Int×Int×Int×Bool)
abbrev aMj:=NI×NI×NI×NI×NI×NI×NI×NI×NI×NI
abbrev apK:=Int×Int×Bool
abbrev a0y:=NI×NI×NI×NI×NI×NI×NI×NI×NI×NI×NI×NI×NI×NI×NI×NI×NI×NI×NI×NI×NI×NI×NI×NI
abbrev aMk:=(Nat×Bool)×Int×Int×Bool
abbrev aUY:=Nat×NI×NI×NI×NI×NI×NI×NI×NI×NI×NI×NI
abbrev aR0:=Int×Int×Int×Int×Int×Int×Int
abbrev aR1:=NI×NI×(Nat->Bool)×NI×NI×NI
abbrev aUZ:=Int×(Nat×Bool)×(Nat×Bool)×Int×Int×Bool
abbrev aHF:=Int×Int×Int×Int
abbrev a0z:=Int×Int×Int×Int×Int×Int×Int×Int×Int×Int×Bool×Int×Bool
abbrev aU0:=NI×NI×NI×NI×NI×NI×NI×NI
abbrev aR2:=Int×Int×Int×Bool
abbrev RA (b:Type):=Rq (List AV×List af) b
abbrev RS (b:Type):=Rq St b
abbrev RE (b:Type):=Rq pz b
@[reducible] def qa {b:Type} (x:RA b):RA b:=x
@[reducible] def qs {b:Type} (x:RS b):RS b:=x
@[reducible] def qe {b:Type} (x:RE b):RE b:=x
@[reducible] def nO {α:Type}:Rq (Option α) Unit:=Rq.no
def lf {β:Type}(q:RE β)(d:β):T:=.leaf (q.em d)
def ls {A B:Type}(f:A->T)(g:B->T)(x:A⊕B):T:=T.sum x f g
def Ex (X:Type):=∀{ρ:Type},X->(AX->St->Option ρ)->Option ρ
abbrev KT:=AX->St
def ef {X:Type}(a:AX)(q:RS X){ρ:Type}(x:X)(K:AX->St->Option ρ):Option ρ:=K a (q.em x)
abbrev LT {D:Type}(_:RS D)(X:Type):=D->Option X
abbrev PL {D:Type}(_:RS D)(X:Type):=Pg (D⊕X)
structure KK where
 l:List Ct
 hs:Hs
 kk:Nat
 n:Nat
end Go.Ab
namespace Go.Proofs.YtldgljclcgaibaaGreat
section
open Go.Ab Go.Ab.Rq
def jP:=bool true
def mg:=szs hole
def eS:=nat 0
def AD:=nat 1
def rq4:=nat 2
def QP:=sH nil
def rq6:=nat 4
def rq7:=nat 3
def rq8:=nat 6
def rq9:=nat 5
def Bn:=nat 11
def iv:=nat 9
def G7:=nat 8
def aHG:=nat 20
def aMl:=nat 13
def aMm:=nat 14
def aMn:=nat 15
def aMo:=nat 16
def aMp:=nat 17
def aMq:=nat 18
def aHH:=nat 19
def ay2:=nat 21
def aP:=app 0 1
def jc:=cl ai nil
def xx:=cl gb nil
def aHI:=cl an nil
def aMr:=cl ab nil
def aMs:=app 1 2
def Zm:=cu fL nil
def ay3:=app 2 2
def oK:=cl gI nil
def nN:=cl gi nil
def apL:=app 1 4
def ay4:=app 2 4
def ay5:=app 0 24
def aMt:=app 1 3
def Zn:=app 2 3
def T':=app 1 24
def Ew:=app 2 24
def tU:=app 0 4
def G8:=app 1 300
def Zo:=app 2 300
def aHJ:=app 3 300
def aR3:=us 20 nil
def QQ:=app 1 576
def aHK:=app 1 9
def akm:=app 3 3
def aR4:=app 4 3
def aU1:=us 27 nil
def aU2:=app 2 1152
def Zp:=app 3 1152
def apM:=app 4 24
def QR:=app 1 1
def ah5:=app 3 24
def aR5:=app 2 576
def NM:=app 4 300
def apN:=app 5 48
def ay6:=app 2 48
def aU3:=us 49 nil
def aHL:=app 4 576
def apO:=app 5 24
def aHM:=app 2 373
def aHN:=app 3 373
def aMu:=cu UL nil
def KG:=app 0 3
def ay7:=app 0 37
def Zq:=app 0 8
def aCW:=app 0 72
def aCX:=app 4 1
def jG:=app 0 434
def aR6:=gp 5 8
def aMv:=gp 6 8
def aMw:=gp 7 8
def aMx:=gp 8 8
def aMy:=gp 9 8
def akn:=gp 1 5
def ako:=gp 2 10
def at3:=gp 10 37
def at4:=gp 11 3
def ay8:=app 2 20
def aR7:=app 3 4
def aR8:=app 5 16
def aR9:=app 6 12
def aSa:=app 3 576
def aSb:=app 4 12
def aMz:=app 3 1
def Zr:=app 20 8
def aU4:=app 21 11
def aSc:=gp 26 8
def aSd:=gp 27 8
def aSe:=gp 28 8
def aMA:=app 21 20
def wA:=ok' eS
def Ll:=szs eS
def at5:=zD xx
def aSf:=cl (rc cb) nil
def aU5:=ac (slc 0 2)
def H9:=ac (slc 1 1)
def cH:=so xx
def cR:=cu eS nil
def JA:=ac (slc 0 1)
def aPn:=ac (slc 2 1)
def ar4:=ac (slc 1 3)
def afd:=cl (rc ci) nil
def aCY:=ac (slc 1 24)
def aI4:=ac (slc 1 27)
def aPo:=ac (slc 0 3)
def aPp:=ac (slc 1 10)
def awV:=cu AD nil
def aPq:=ac (slc 2 10)
def aPr:=ac (slc 0 9)
def aPs:=ac (Dd 1 9)
def aI5:=gc (Dd 3 8)
def zE:=c ai jc
def bG:=cl xx nil
def awW:=c gn (cl gn nil)
def aPt:=c gi (cl gn nil)
def ar5:=cu (gp 1 1) nil
def aPu:=xs 8 (us 22 nil)
def aU6:=cf (fb (bool false))
def aPv:=cl ab (us 14 nil)
def aPw:=cl ab (us 21 nil)
def aPx:=cl ai (us 15 nil)
def aPy:=cl ai (us 26 nil)
def aI6:=cl ai (us 13 nil)
def aU7:=cl ab (us 12 nil)
def akp:=c gi nN
def aU8:=cl ai (us 11 nil)
def iR:=gl 24 oK
def aPz:=cl ai (us 18 nil)
def aCZ:=cu fL Zm
def aPA:=cu (gp 2 1) nil
def aI7:=gl 276 oK
def aI8:=cl ai aR3
def aPB:=cl ai (us 8 nil)
def aU9:=cl ai (us 21 nil)
def aVa:=cl ai (us 22 nil)
def aVb:=cl ai (us 82 nil)
def aI9:=cl ai (us 24 nil)
def aVc:=cl ai (us 75 nil)
def aVd:=cl ai (us 80 nil)
def aVe:=cl ai (us 12 nil)
def aVf:=cl ai (us 32 nil)
def aVg:=cl ab (us 38 nil)
def aVh:=cu (gp 0 3) nil
def aVi:=cl ai (us 31 nil)
def aVj:=xs 8 (us 1 nil)
def aVk:=cl ab (us 77 nil)
def aJa:=cf (fi .i64 (int 0))
def aPC:=cf (fi .i64 (int 4))
def awX:=cf (fi .i64 (int 1))
def aVl:=cf (fi .i64 (int 5))
def aPD:=afn (pu (nat 96) nil)
def nk:=cl at5 nil
def aVm:=res (pl an (pu nil nil))
def VC:=aa awW
def afe:=aa aPt
def Hn:=res (pl ai (pu nil nil))
def Ho:=ac (cf (fb jP))
def mW:=ac aU6
def E5:=res (pl ab (pu nil nil))
def awY:=cl H9 nil
def aJb:=cl ar4 nil
def awZ:=gc (cf (fb jP))
def aaY:=so ar5
def aw0:=so aVh
def JB:=gc aU6
def E6:=c ai zE
def aVn:=c ai (cl ab (us 30 nil))
def aJc:=c gI (cl (ki .u64 hole) nil)
def aM:=gc aJa
def aC0:=gc (cf (fi .u64 (int 0)))
def aPE:=c ai (cl ab (us 25 nil))
def aJd:=c ai aU7
def mX:=c gi akp
def ar6:=gc (cf (fi .i64 (int 1073741824)))
def ar7:=cl iR nil
def aJe:=c ai (cl ab (us 17 nil))
def aPF:=c ai (cl ab (us 19 nil))
def aC1:=cl (gl 576 oK) nil
def aJf:=c ai (cl ab (us 7 nil))
def aaZ:=cl (gl 9 oK) nil
def aVo:=c ai (cl ab aR3)
def aPG:=gc (cf (fi .i64 (int 2)))
def aJg:=c gb akp
def ar8:=c gI (c gI oK)
def aVp:=cl (gl 1152 oK) nil
def aVq:=c ai (cl ab (us 81 nil))
def aVr:=c ai (cl ab (us 104 nil))
def aVs:=c ai (cl ab (us 29 nil))
def aJh:=c ai (cl ab (us 23 nil))
def aPH:=c ai (cl ab (us 11 nil))
def ar9:=c kcb (c gI oK)
def aPI:=c ai aI8
def aVt:=c ai (cl ab (us 31 nil))
def asa:=c gi (c gi xx)
def aVu:=gc (cf (fi .i64 (int 8000)))
def aVv:=ac (cf (fi .i64 (int 6)))
def aVw:=gc (cf (fi .i64 (int 3000)))
def aVx:=gc (cf (fi .i64 (int 2200)))
def aJi:=gc (cf (fi .i64 (int 500)))
def aVy:=gc (cf (fi .i64 (int 950)))
def aVz:=gc (cf (fi .i64 (int 100)))
def aVA:=gc (cf (fi .i64 (int 1000)))
def aC2:=c gn (c gn xx)
def aC3:=cu AD (cu rq4 nil)
def aVB:=cu eS (cu Bn nil)
def aC4:=cl afe nil
def aa0:=cl (so aPt) nil
def N':=cl at5 Zm
def aPJ:=c ai awY
def aff:=aa mX
def mh:=aa ar7
def oC:=so ar7
def zF:=so mX
def aVC:=c ai (cl JA nil)
def nm:=so aC1
def Hp:=so aVp
def afg:=so (cl (gl 48 oK) nil)
def akq:=ra ar7
def aJj:=res (pl ab (pu Zm nil))
def aw1:=res (pl ai (pu Zm nil))
def akr:=aa aC2
def aPK:=sH (c (rc ci) aSf)
def aJk:=c ai (cl ai (cu aP nil))
def aVD:=c ai (c ai aPv)
def afh:=c gi mX
def aPL:=xs 3 (us 2 (xs 3 (us 1 nil)))
def aVE:=us 15 (c ai aPy)
def E7:=c gi (c gi (c gb xx))
def aPM:=cu (gc (cf (fi .i64 (int 3)))) nil
def aPN:=c ai aPF
def aPO:=sH (c (rc ci) afd)
def aVF:=sH (cu (rc aVG) afd)
def aks:=cu (rc aJa) nil
def aPP:=cl asa nil
def aVH:=ox (pu eS (pl hole iv))
def akt:=cu (gc (cf (fi .i64 (int (-9223372036854775808))))) nil
def aku:=ox (pu eS (pl hole G7))
def aJl:=cl (ga (pr mg oK)) nil
def Hq:=cl aff nil
def afi:=aa afh
def xB:=so afh
def JC:=cl oC nil
def aPQ:=cu fL (cu fL nk)
def asb:=cl mh nil
def afj:=c gi (c gi (cl (gc (Dd 2 11)) nil))
def aJm:=c gi (c gi (cl (gc (Dd 3 11)) nil))
def aJn:=c gi (c gi (cl (gc (Dd 7 11)) nil))
def aPR:=c gi (c gi (cl (gc (Dd 4 11)) nil))
def aVI:=res (pl ai (pu aCZ nil))
def aC5:=c gi (c gi (cl (gc (Dd 20 11)) nil))
def zG:=c gi (c gi (cl (gc (Dd 19 11)) nil))
def JD:=so aJl
def aVJ:=us 15 (c ai aPE)
def lB:=c gi afh
def aVK:=cu fL (cu fL (cu fL aCZ))
def aw2:=cu (gp 1 434) asa
def aPS:=cu (gp 21 434) asa
def qO:=res (pr ai (pl nk nil))
def aVL:=res (pl afe (pu nil nil))
def aJo:=res (pl VC (pu nil nil))
def asc:=cl afi nil
def afk:=c mh jc
def aC6:=so (cu (gp 22 434) asa)
def akv:=so (cu (gp 2 434) asa)
def aVM:=sH (c (ra aPt) aSf)
def akw:=cl JD nil
def zH:=c aI7 ar7
def aw3:=c iR mX
def aPT:=c gi lB
def aPU:=aa (a 3 mX nN)
def aVN:=c gi (c gi (c gb mX))
def aPV:=xs 3 (us 2 aPL)
def aVO:=ac (H' (pu eS (pu (ok' iv) AD)))
def aVP:=ac (H' (pu eS (pu (ok' rq6) rq8)))
def aPW:=ac (H' (pu eS (pu (ok' rq8) AD)))
def aJp:=ac (H' (pu eS (pu (ok' AD) AD)))
def Oa:=ac (H' (pu eS (pu (ok' (nat 72)) AD)))
def aVQ:=ac (H' (pu eS (pu (ok' (nat 412)) AD)))
def aPX:=ac (H' (pu eS (pu (ok' (nat 399)) AD)))
def aJq:=ac (H' (pu eS (pu (ok' rq4) AD)))
def aJr:=ac (H' (pu ay2 (pu (ok' rq4) AD)))
def aVR:=ac (H' (pu eS (pu (ok' (nat 64)) AD)))
def aC7:=ac (H' (pu AD (pu (ok' (nat 64)) AD)))
def aPY:=res (pr ai (pl (cu fL nk) nil))
def aJs:=res (pr ai (pl N' nil))
def aVS:=res (pl aff (pu nil nil))
def aPZ:=res (pl mh (pu nil nil))
def aP0:=cl (ga (pr mg ar9)) nil
def np:=a 3 mX akp
def aVT:=sH (cu (rc aC8) (cu (rc awX) nil))
def aJt:=res (pl akr (pu nil nil))
def aP1:=res (pl (sH (c (rc cn) (cl (rc cn) nil))) (pu nil nil))
def aw4:=res (pl aPK (pu nil nil))
def BG:=aa zH
def jH:=so zH
def asd:=ra zH
def aP2:=so (cl (ga (pr mg aJc)) nil)
def aC9:=so (cl (ga (pr mg ar8)) nil)
def aJu:=c gi aPT
def aVU:=sH (c (ra mX) afd)
def aVV:=gl 6 (c gI (c gI (c kcb ar8)))
def aVW:=cu fL (cu fL aVK)
def qk:=so np
def aVX:=cu UL (cu UL (cu UL (cu UL (cu UL (cu UL aMu)))))
def aVY:=res (pl afi (pu nil nil))
def aVZ:=res (pl mh (pu Zm nil))
def aV0:=res (pr ai (pl aPQ nil))
def aV1:=cl (aa aw3) nil
def aV2:=res (pl aPO (pu Zm nil))
def aP3:=afn (pu (nat 180) (cu (rc (cp 2 1)) (cu (rc (cp 3 10)) nil)))
def aV3:=c an (c an (c an (c an (c an (c an aPv)))))
def aV4:=res (pu QP (pl (cl (zD ar7) nil) nil))
def pj:=c gI (c gI (c gI (c gI (c gI ar8))))
def aV5:=cl (so aP0) nil
def aw5:=c gi aJu
def aJv:=cu fL aVW
def aP4:=res (pl ai (pu (cu (zD (cu awZ nil)) nil) nil))
def aP5:=res (pl aVM (pu nil nil))
def aP6:=so (cu aM (cu aC0 nil))
def E8:=so aw5
def aw6:=res (pr aff (pl nk nil))
def aDa:=res (pr mh (pl nk nil))
def aA:=c gI pj
def aJw:=c gi aw5
def nP:=c aVV nN
def aDb:=res (pu aVT (pu nil nil))
def aV6:=cu fL (cu UL aVW)
def aV7:=us 5 (cu aC7 (us 108 nil))
def Ob:=c oC JC
def aV8:=ac (jr (pu AD (pu wA (pl mg (pu rq4 jP)))))
def aV9:=ac (jr (pu rq6 (pu wA (pl mg (pu AD jP)))))
def aDc:=c gi (c gi (a 3 mX mX))
def aWa:=ac (jr (pu rq7 (pu wA (pl mg (pu AD jP)))))
def aWb:=ac (jr (pu rq8 (pu wA (pl mg (pu rq7 jP)))))
def aWc:=ac (jr (pu rq6 (pu wA (pl mg (pu rq7 jP)))))
def aWd:=ac (jr (pu rq9 (pu wA (pl mg (pu rq7 jP)))))
def aWe:=ac (jr (pu rq9 (pu wA (pl mg (pu AD jP)))))
def aP7:=res (pr aPO (pl nk nil))
def aWf:=cu mW (xs 5 (cu mW aU3))
def aWg:=cu mW (xs 5 (cu mW (us 77 nil)))
def aJx:=aa aJw
def aDd:=zD nP
def pk:=so nP
def aWh:=c an (c an (c an (c an (c an (c an (cl ab (us 19 aPu)))))))
def aw7:=res (pr afi (pl nk nil))
def aWi:=ac (jr (pu AD (pu wA (pu (szl rq6) (pu AD jP)))))
def mY:=c gI aA
def aP8:=c gi aJw
def aWj:=sH (c (ra aw3) afd)
def aDe:=cl nP nil
def Ea:=cl aJx nil
def aWk:=cl (so aJw) nil
def aa1:=cl (aa aDc) nil
def jY:=c gI mY
def aw8:=c gi aP8
def akx:=a 5 lB (c gi (c (gc (Dd 1 9)) nN))
def qP:=a 5 lB (c gi (c (gc (Dd 14 9)) nN))
def qQ:=a 5 lB (c gi (c (gc (Dd 15 9)) nN))
def qR:=a 5 lB (c gi (c (gc (Dd 16 9)) nN))
def qS:=a 5 lB (c gi (c (gc (Dd 17 9)) nN))
def qT:=a 5 lB (c gi (c (gc (Dd 18 9)) nN))
def aDf:=a 5 lB (c gi (c (gc (Dd 19 9)) nN))
def xC:=a 5 lB (c gi (c (gc (Dd 13 9)) nN))
def aJy:=aa (a 3 mX np)
def aP9:=res (pr (sH (c (ra akp) afd)) (pl nk nil))
def aJz:=cl (ga (pr mg pj)) nil
def aJA:=jr (pu ay2 (pr aku (pl mg (pu G7 jP))))
def aQa:=so (c gb (c gb (c gb (c gb (c gb (c gb (c gb (c gb mX))))))))
def aWl:=cu aM (cu aM (cu JB nil))
def aWm:=ac (jr (pu AD (pu (ox (pu eS (pu AD AD))) (pr mg (pu AD hole)))))
def ase:=cu aM (cu aM (cu aM nil))
def aQb:=res (pr BG (pl nk nil))
def aQc:=c gi aw8
def aWn:=res (pr (aa aw3) (pl nk nil))
def aQd:=c iR (c gi (c gi (c gi aw3)))
def aky:=cu (gp 4 8) (cu aR6 (cu aMv (cu aMw (cu aMx (cu aMy nil)))))
def aWo:=cu aw0 (cu aaY JC)
def aQe:=jr (pu rq7 (pu (ox (pu eS (pu eS G7))) (pl mg (pu G7 jP))))
def sI:=so aJz
def aJB:=cl aVV (cu aM nil)
def aWp:=cl (ga (pu Ll pj)) nil
def aQf:=jr (pu ay2 (pu (ox (pu eS (pu eS iv))) (pl mg (pu iv jP))))
def aa2:=c jH (cl afg nil)
def aa3:=cl (ga (pr mg aA)) nil
def Eb:=a 4 afh (a 3 mX mX)
def oD:=c gi (a 8 aDc xx)
def aJC:=gc aQe
def aWq:=res (pr BG (pl N' nil))
def Hr:=so aa3
def asf:=cl (ga (pu Ll aA)) nil
def aWr:=cu jG (us 2 (cu Zr (cu Oa (us 194 nil))))
def aQg:=cl (ga (pr mg mY)) nil
def aWs:=res (pr (sH (c (ra afh) afd)) (pl nk nil))
def qo:=so oD
def akz:=cl (so aQc) nil
def aWt:=cl (so aJB) nil
def aQh:=cl (aa (c gb (c gb (a 6 (c gb (c gb (c gb (c gb (c gb xx))))) mX)))) nil
def aJD:=c oC Ob
def afl:=c gi (c gi (c gi (c gi (c gi (c gi (c gi (c gi (c gi (c gi (c gi aaZ))))))))))
def uO:=so aQg
def aQi:=c iR (c iR aw5)
def aWu:=cl (ga (pu Ll mY)) nil
def aQj:=aa (c gi Eb)
def aQk:=cl (ga (pr mg jY)) nil
def aJE:=cl aQg nil
def aWv:=so (c gb (c gb (c gb (c gb (c gb (c gb (c gb (c gb (cu (gc (cf (fi .i64 (int 1125899906842624)))) akp)))))))))
def aWw:=c aI7 (c iR (c iR (c iR (cl (gl 25 oK) nil))))
def aWx:=sH (c (ra aw8) aSf)
def akA:=so aQk
def aw9:=c jH (cl jH nil)
def aDg:=res (pr aWj (pl nk nil))
def aQl:=cl aQk nil
def So:=so aWw
def aQm:=afn (pu (nat 183) (cu (rc (cp 2 1)) (cu (rc (cp 3 3)) (cu (rc (cp 4 1)) (cu (rc (cp 5 3)) (cu (rc (cp 6 4)) nil))))))
def aQn:=c gi (c gi (cl (gc (jr (pu aHG (pu (ox (pu eS (pu eS Bn))) (pl mg (pu Bn jP)))))) nil))
def aWy:=c gi (c gi (cl (gc (jr (pu (nat 38) (pu (ox (pu eS (pu eS Bn))) (pl mg (pu Bn jP)))))) nil))
def aQo:=c gi (c gi (cl (gc (jr (pu (nat 39) (pu (ox (pu eS (pu eS Bn))) (pl mg (pu Bn jP)))))) nil))
def aQp:=c gi (c gi (cl (gc (jr (pu (nat 40) (pu (ox (pu eS (pu eS Bn))) (pl mg (pu Bn jP)))))) nil))
def aWz:=res (pu (sH (cu (rc (cp 0 5)) aks)) (pu nil (cl lB nil)))
def aQq:=cl (zD aQk) nil
def Ht:=cl akA nil
def aDh:=c gi (c gi (c gi (c gi aQc)))
def aWA:=cl (cl (ga (pu Ll jY)) nil) nil
def afm:=so (c gi (c gi (cl (gc (jr (pu (nat 29) (pu (ox (pu eS (pu eS Bn))) (pl mg (pu Bn jP)))))) nil)))
def axa:=so (c gi (c gi (cl (gc (jr (pu (nat 28) (pu (ox (pu eS (pu eS Bn))) (pl mg (pu Bn jP)))))) nil)))
def aDi:=so (c gi (c gi (cl (gc (jr (pu (nat 41) (pu (ox (pu eS (pu eS Bn))) (pl mg (pu Bn jP)))))) nil)))
def akB:=so (cu aM ase)
def aWB:=cu mW (xs 5 (cu mW aWf))
def aWC:=cu fL (cu fL aQq)
def akC:=cu (so ase) (cl zF nil)
def axb:=cu fL (cu fL (cu fL (cu fL (cu fL (cu fL (cu fL (cu fL (cu fL (cu fL (cu fL aJv))))))))))
def aQr:=c gi (c gi (c gb (c gb (c gi (c gi (c gi (c gb (c gb aP8))))))))
def aDj:=cu UL (cu UL (cu UL (cu UL (cu UL (cu UL (cu UL (cu UL (cu UL (cu UL (cu UL (cu UL aVX)))))))))))
def aQs:=c gi (c gi (c gi (a 10 Eb (cl (gc (Dd 20 10)) nil))))
def aWD:=c gI (c gI (c gI (c gI (c gI (c gI (c gI (c gI (c gI jY))))))))
def aDk:=so (c gi (c gi (c gi (c gi aDh))))
def asg:=a 5 lB (c gi (c (gc (jr (pu (nat 22) (pu (ox (pu eS (pu eS iv))) (pl mg (pu iv jP)))))) nN))
def aWE:=a 5 lB (c gi (c (gc (jr (pu (nat 23) (pu (ox (pu eS (pu eS iv))) (pl mg (pu iv jP)))))) nN))
def aWF:=a 5 lB (c gi (c (gc (jr (pu (nat 24) (pu (ox (pu eS (pu eS iv))) (pl mg (pu iv jP)))))) nN))
def aWG:=a 5 lB (c gi (c (gc (jr (pu (nat 25) (pu (ox (pu eS (pu eS iv))) (pl mg (pu iv jP)))))) nN))
def aWH:=a 5 lB (c gi (c (gc (jr (pu (nat 26) (pu (ox (pu eS (pu eS iv))) (pl mg (pu iv jP)))))) nN))
def aWI:=a 5 lB (c gi (c (gc (jr (pu (nat 32) (pu (ox (pu eS (pu eS iv))) (pl mg (pu iv jP)))))) nN))
def aDl:=a 5 lB (c gi (c (gc (jr (pu (nat 33) (pu (ox (pu eS (pu eS iv))) (pl mg (pu iv jP)))))) nN))
def aJF:=a 5 lB (c gi (c (gc (jr (pu (nat 34) (pu (ox (pu eS (pu eS iv))) (pl mg (pu iv jP)))))) nN))
def aJG:=a 5 lB (c gi (c (gc (jr (pu (nat 35) (pu (ox (pu eS (pu eS iv))) (pl mg (pu iv jP)))))) nN))
def aJH:=a 5 lB (c gi (c (gc (jr (pu (nat 36) (pu (ox (pu eS (pu eS iv))) (pl mg (pu iv jP)))))) nN))
def aJI:=a 5 lB (c gi (c (gc (jr (pu (nat 37) (pu (ox (pu eS (pu eS iv))) (pl mg (pu iv jP)))))) nN))
def aQt:=a 5 lB (c gi (c (gc (jr (pu (nat 38) (pu (ox (pu eS (pu eS iv))) (pl mg (pu iv jP)))))) nN))
def aWJ:=a 5 lB (c gi (c (gc (jr (pu (nat 39) (pu (ox (pu eS (pu eS iv))) (pl mg (pu iv jP)))))) nN))
def JE:=so aWE
def JF:=so aWF
def JG:=so aWG
def JH:=so aWH
def JJ:=so (a 5 lB (c gi (c (gc (jr (pu (nat 27) (pu (ox (pu eS (pu eS iv))) (pl mg (pu iv jP)))))) nN)))
def afo:=so (a 5 lB (c gi (c (gc (jr (pu (nat 28) (pu (ox (pu eS (pu eS iv))) (pl mg (pu iv jP)))))) nN)))
def aDm:=so aJF
def aa4:=so aJG
def aa5:=so aJH
def aa6:=so aJI
def afp:=so aQt
def ash:=so aWJ
def aDn:=so (a 5 lB (c gi (c (gc (jr (pu (nat 40) (pu (ox (pu eS (pu eS iv))) (pl mg (pu iv jP)))))) nN)))
def aDo:=c gI (c gI (c gI (c gI aWD)))
def aWK:=cu aM (cu aM (cu aM ase))
def aa7:=ac (cfs (pr hole (pu aHG aWD)))
def aWL:=c jH (c jH (c nm JC))
def aWM:=cu tU (cu tU (cu tU (cu aJq (c ai (c ai (cl ai (cu tU (cu aJq nil))))))))
def aWN:=xs 3 (us 2 (xs 3 (us 2 (xs 3 (us 2 (xs 3 (us 2 (xs 3 (us 2 (xs 3 (us 2 (xs 3 (us 2 (xs 3 (us 2 (xs 3 (us 2 (xs 3 (us 2 aPV)))))))))))))))))))
def VD:=cu rq6 (cu rq9 (cu rq8 (cu (nat 7) (cu G7 (cu iv (cu aHH (cu aMq (cu aMp (cu aMo (cu aMn (cu aMm (cu aMl (cu Bn (cu eS (cu (nat 10) nil)))))))))))))))
def aJJ:=c gI (c gI (c gI aDo))
def aWO:=so (cl (ga (pr mg aDo)) nil)
def aWP:=so (c gi (c gi (c gi (cl gi aWK))))
def aWQ:=cu fL (cu fL (cu fL (cu fL (cu fL (cu fL (cu fL (cu fL (cu fL (cl aDd (cu fL aJv))))))))))
def aQu:=cu fL (cu fL (cu fL (cu fL (cu fL (cu fL (cu fL (cu fL (cu fL (cl aDd aV6)))))))))
def aQv:=cu fL aWQ
def aDp:=cu eS (cu rq6 (cu rq9 (cu rq8 (cu (nat 7) (cu G7 (cu iv (cu aHH (cu aMq (cu aMp (cu aMo (cu aMn (cu aMm (cu aMl (cu (nat 12) (cu rq7 (cu Bn (cu rq4 (cu (nat 10) nil))))))))))))))))))
def aJK:=cu aM (cu aM aWK)
def xD:=c gi (c gi (c gi (c gi (a 6 aPT (a 6 aPT aQi)))))
def aWR:=res (pu QP (pl aQv nil))
def aWS:=res (pu (ac (jr (pu AD (pu wA (pu (szl rq7) (pu (nat 27) jP)))))) (pr nk (cl (c iR (c gi (c gi (c gi aQd)))) nil)))
def afq:=cu eS (cu AD (cu rq4 (cu rq7 (cu rq6 (cu rq9 (cu rq8 (cu (nat 7) (cu G7 (cu iv (cu (nat 10) (cu Bn (cu (nat 12) (cu aMl (cu aMm (cu aMn (cu aMo (cu aMp (cu aMq (cu aHH (cu aHG nil))))))))))))))))))))
def aWT:=cu aM (cu aM (cu aM (cu aM (cu aM (cl gi (cu (gc (jr (pu aMm (pu wA (pu Ll (pu iv jP)))))) akt))))))
def aWU:=cu aM (cu aM (cu aM (cu aM (cu aM (cl gi (cu (gc (jr (pu aMn (pu wA (pu Ll (pu iv jP)))))) akt))))))
def aWV:=cu aM (cu aM (cu aM (cu aM (cu aM (cl gi (cu (gc (jr (pu aMo (pu wA (pu Ll (pu iv jP)))))) akt))))))
def aWW:=cu aM (cu aM (cu aM (cu aM (cu aM (cl gi (cu (gc (jr (pu aMp (pu wA (pu Ll (pu iv jP)))))) akt))))))
def aWX:=cu aM (cu aM (cu aM (cu aM (cu aM (cl gi (cu (gc (jr (pu aMq (pu wA (pu Ll (pu iv jP)))))) akt))))))
def aQw:=cl gi (cu aM (cu aM (cu aM (cu aM (cu aM (cu aM aWl))))))
def akD:=so (cu aVu (cu aM (c gi (c gi (c gi (c gi (c gi (c gi (c gi (c gi (c gi (c gi (c gi (c gi (c gi (c gi (c iR (c iR (cu (gc (cf (fi .i64 (int 20000)))) aJu)))))))))))))))))))
def aWY:=so (cu aM (cu aM aJK))
def aQx:=au 6 aky (cu at3 (a 4 E7 (cu at4 (c gb (c gi (a 3 mX (c gb (c gb (c gb (c gi (c gi (c gi (a 10 Eb (cl (gc (jr (pu (nat 22) (pu (ox (pu eS (pu eS (nat 10)))) (pl mg (pu (nat 10) jP)))))) nil))))))))))))))
def aWZ:=au 6 (cu (gp 23 8) (cu (gp 24 8) (cu (gp 25 8) (cu aSc (cu aSd (cu aSe nil)))))) (cu (gp 29 37) (a 4 E7 (cu (gp 30 3) (c gb (c gi (a 3 mX (c gb (c gb (c gb (c gi (c gi (c gi (a 10 Eb (cl (gc (jr (pu (nat 31) (pu (ox (pu eS (pu eS (nat 10)))) (pl mg (pu (nat 10) jP)))))) nil))))))))))))))
def aW0:=au 6 (cu (gp 24 8) (cu (gp 25 8) (cu aSc (cu aSd (cu aSe (cu (gp 29 8) nil)))))) (cu (gp 30 37) (a 4 E7 (cu (gp 31 3) (c gb (c gi (a 3 mX (c gb (c gb (c gb (c gi (c gi (c gi (a 10 Eb (cl (gc (jr (pu (nat 32) (pu (ox (pu eS (pu eS (nat 10)))) (pl mg (pu (nat 10) jP)))))) nil))))))))))))))
def aQy:=cu aVu (cu (gc (cf (fi .i64 (int 40000)))) (cu (gc (cf (fi .i64 (int 16)))) (cu (gc aVl) (c gi (c gi (c gi (c gi (c gi (c gi (c gi (c gi (c gi (c gi (c gi (c gi (c iR (cl iR (cu (gc (cf (fi .i64 (int 5000000)))) (cu (gc (cf (fi .i64 (int 68719476736)))) (cu (gc awX) (cu (gc (cf (fi .i64 (int 268435456)))) (cu (gc (cf (fi .i64 (int 32)))) ase))))))))))))))))))))))
def aW1:=st (pr (us 4 (cu aMz (cu aCX (us 8 (cu (app 5 3) (cu (app 6 3) (cu (app 7 4) (cu (app 8 4) aVd)))))))) (pl (c (so afj) (c cH (c akA (cu aw0 (cu aaY (c zF (c zF (c xB (cl xB nil))))))))) aC3))
def asi:=a 26 xD (c gb (c iR (a 2 zH (cu (gp 2 5) (cu (gp 3 10) (c (gc (Dd 4 8)) (au 6 (cu aR6 (cu aMv (cu aMw (cu aMx (cu aMy (cu (gp 10 8) nil)))))) (cu (gp 11 37) (a 4 E7 (cu (gp 12 3) (c gb (c gi (a 3 mX (c gb (c gb (c gb (c gi (c gi (c gi (a 10 Eb (cl (gc (Dd 13 10)) nil)))))))))))))))))))))
def wB:=a 26 xD (c gb (c iR (a 2 zH (cu akn (cu ako (c aI5 (au 6 aky (cu at3 (a 4 E7 (cu at4 (c gb (c gi (a 3 mX (c gb (c gb (c gb (c gi (c gi (c gi (a 10 Eb (cl (gc (Dd 12 10)) nil)))))))))))))))))))))
def aW2:=zD (a 26 xD (c gb (c iR (a 2 zH (cu akn (cu ako (c aI5 (au 6 aky (cu at3 (a 4 E7 (cu at4 (c gb (c gi (a 3 mX (c gb (c gb (c gb aQs)))))))))))))))))
def aJL:=c aQg (c aa3 (c aa3 (c aa3 (c aa3 (c aa3 (c aa3 aQl))))))
def aW3:=c aWu (c asf (c asf (c asf (c asf (c asf (c asf aWA))))))
def JK:=c uO (c Hr (c Hr (c Hr (c Hr (c Hr (c Hr Ht))))))
def aW4:=a 26 xD (c gb (c iR (a 2 zH (cu (gp 20 5) (cu (gp 21 10) (c (gc (jr (pu (nat 22) (pr aku (pl mg (pu G7 jP)))))) aWZ))))))
def aQz:=a 26 xD (c gb (c iR (a 2 zH (cu (gp 21 5) (cu (gp 22 10) (c (gc (jr (pu (nat 23) (pr aku (pl mg (pu G7 jP)))))) aW0))))))
def aQA:=a 26 xD (c gb (c iR (a 2 zH (cu (gp 22 5) (cu (gp 23 10) (c (gc (jr (pu (nat 24) (pr aku (pl mg (pu G7 jP)))))) (au 6 (cu (gp 25 8) (cu aSc (cu aSd (cu aSe (cu (gp 29 8) (cu (gp 30 8) nil)))))) (cu (gp 31 37) (a 4 E7 (cu (gp 32 3) (c gb (c gi (a 3 mX (c gb (c gb (c gb (c gi (c gi (c gi (a 10 Eb (cl (gc (jr (pu (nat 33) (pu (ox (pu eS (pu eS (nat 10)))) (pl mg (pu (nat 10) jP)))))) nil)))))))))))))))))))))
def aQB:=so (a 26 xD (c gb (c iR (a 2 zH (cu akn (cu ako (c (gc aJA) aQx)))))))
def aDq:=so (a 26 xD (c gb (c iR (a 2 zH (cu (gp 23 5) (cu (gp 24 10) (c (gc (jr (pu (nat 25) (pr aku (pl mg (pu G7 jP)))))) (au 6 (cu aSc (cu aSd (cu aSe (cu (gp 29 8) (cu (gp 30 8) (cu (gp 31 8) nil)))))) (cu (gp 32 37) (a 4 E7 (cu (gp 33 3) (c gb (c gi (a 3 mX (c gb (c gb (c gb (c gi (c gi (c gi (a 10 Eb (cl (gc (jr (pu (nat 34) (pu (ox (pu eS (pu eS (nat 10)))) (pl mg (pu (nat 10) jP)))))) nil))))))))))))))))))))))
def aDr:=so (a 26 xD (c gb (c iR (a 2 zH (cu akn (cu ako (c aJC aQx)))))))
def axc:=so (a 26 xD (c gb (c iR (a 2 zH (cu akn (cu ako (c aJC (au 6 aky (cu at3 (a 4 E7 (cu at4 (c gb (c gi (a 3 mX (c gb (c gb (c gb (c gi (c gi (c gi (a 10 Eb (cl (gc (jr (pu ay2 (pu (ox (pu eS (pu eS (nat 10)))) (pl mg (pu (nat 10) jP)))))) nil))))))))))))))))))))))
def aQC:=a 26 xD (c gb (c iR (a 2 zH (cu akn (cu ako (c aJC (au 6 aky (cu at3 (a 4 E7 (cu at4 (cu awZ (c gi (a 3 mX (cu awZ (c gb (c gb (c gi (c gi (c gi (a 10 Eb (cl (gc (jr (pu (nat 12) (pu (ox (pu eS (pu eS (nat 10)))) (pl mg (pu (nat 10) jP)))))) nil)))))))))))))))))))))
def asj:=res (pu QP (pl (c (zD wB) aWQ) nil))
def aW5:=res (pu QP (pr (cl aW2 (cu fL (cu fL (cu fL (cu fL (cu fL (cu fL (cu fL (cu fL (cu fL (cu fL aV6))))))))))) aJE))
def aW6:=c np (c oD (c aJz (c aWI (c aDl (c aJF (c aJG (c aJH (c aJI (c nP (c aWy aJL))))))))))
def aW7:=c np (c oD (c aJz (c aDl (c aJF (c aJG (c aJH (c aJI (c aQt (c nP (c aQo aJL))))))))))
def akE:=c (so (a 26 xD (c gb (c iR (a 2 zH (cu (gp 3 5) (cu (gp 4 10) (c (gc (jr (pu rq9 (pr aku (pl mg (pu G7 jP)))))) (au 6 (cu aMv (cu aMw (cu aMx (cu aMy (cu (gp 10 8) (cu (gp 11 8) nil)))))) (cu (gp 12 37) (a 4 E7 (cu (gp 13 3) (c gb (c gi (a 3 mX (c gb (c gb (c gb (c gi (c gi (c gi (a 10 Eb (cl (gc (jr (pu aMm (pu (ox (pu eS (pu eS (nat 10)))) (pl mg (pu (nat 10) jP)))))) nil))))))))))))))))))))))) (c qk (c qo (c sI (c (so (a 5 lB (c gi (c (gc (jr (pu aMn (pu (ox (pu eS (pu eS iv))) (pl mg (pu iv jP)))))) nN)))) (c (so (a 5 lB (c gi (c (gc (jr (pu aMo (pu (ox (pu eS (pu eS iv))) (pl mg (pu iv jP)))))) nN)))) (c (so (a 5 lB (c gi (c (gc (jr (pu aMp (pu (ox (pu eS (pu eS iv))) (pl mg (pu iv jP)))))) nN)))) (c (so (a 5 lB (c gi (c (gc (jr (pu aMq (pu (ox (pu eS (pu eS iv))) (pl mg (pu iv jP)))))) nN)))) (c (so (a 5 lB (c gi (c (gc (jr (pu aHH (pu (ox (pu eS (pu eS iv))) (pl mg (pu iv jP)))))) nN)))) (c (so (a 5 lB (c gi (c (gc (jr (pu aHG (pu (ox (pu eS (pu eS iv))) (pl mg (pu iv jP)))))) nN)))) (c pk (c (so (c gi (c gi (cl (gc (jr (pu ay2 (pu (ox (pu eS (pu eS Bn))) (pl mg (pu Bn jP)))))) nil)))) JK)))))))))))
def aQD:=st (pr (cu jG (us 2 (cu Zr (cu Oa (us 178 (cu jG (cu jG (cu aVQ aU7)))))))) (pl (c axc (c qk (c qo (c sI (c (so asg) (c JE (c JF (c JG (c JH (c JJ (c pk (c axa (c uO (cu nO (cu nO (cu nO (cu nO (cu nO (cu nO (cu nO (c E8 JK))))))))))))))))))))) VD))
def aQE:=st (pr (cu jG (us 2 (cu Zr (cu Oa (us 178 (cu jG (cu jG (cu aVQ (c ab (cu jG (cu jG (cu (ac (H' (pu eS (pu (ok' (nat 411)) AD)))) (cu (app 11 3) (cu Oa (cu jG (cu jG (cu (ac (H' (pu eS (pu (ok' (nat 73)) (nat 24))))) (c mh (cu (app 20 1) zE))))))))))))))))))) (pl (c axc (c qk (c qo (c sI (c (so asg) (c JE (c JF (c JG (c JH (c JJ (c pk (c axa (c uO (cu nO (cu nO (cu nO (cu nO (cu nO (cu nO (cu nO (c E8 JK))))))))))))))))))))) VD))
end
open Go.Ab
abbrev TP:=Tryz.prog
abbrev D0 {β δ:Type}(l:List Ct)(n:Nat)(Q:RA β)(R:δ->T)(B:β->Pg δ):Prop:=akF TP l ⟨[],[],[],[],none⟩ 2000 n Q R B
abbrev D1 {β δ:Type}(l:List Ct)(d0:List Nat)(n:Nat)(Q:RA β)(R:δ->T)(B:β->Pg δ):Prop:=akF TP l ⟨[],[],d0,[],none⟩ 2000 n Q R B
abbrev D2 {β δ:Type}(k:KK)(Q:RA β)(R:δ->T)(B:β->Pg δ):Prop:=akF TP k.l k.hs 2000 k.n Q R B
abbrev LI {D X:Type}(k:KK)(id:Nat)(Q:RS D)(E:∀{ρ:Type},X->(AX->St->Option ρ)->Option ρ)(S:D->Pg (D⊕X)):Prop:=aSg TP k.l k.hs k.kk 2000 k.n id Q E S
abbrev JI {D X:Type}(k:KK)(id:Nat)(Q:RS D)(E:∀{ρ:Type},X->(AX->St->Option ρ)->Option ρ)(S:D->Pg X):Prop:=aSh TP k.l k.hs k.kk 2000 k.n id Q E S
section
variable [ax]
abbrev SC (e:Ct):Prop:=Snd TP e
theorem sc {e:Ct}{n:Nat}{F:E9}(S:Sound TP n F)(h:e=(n,F):=by kernel_rfl):SC e:=Snd.of S h
theorem k0 {β δ:Type}{l:List Ct}{d0:List Nat}{n:Nat}{Q:RA β}{R:δ->T}{B:β->Pg δ}(hl:JL TP l)(h:akF TP l ⟨[],[],d0,[],none⟩ 2000 n Q R B)(hc:Gn TP n=true:=by kernel_rfl):Sound TP n (FC Q R λb=>(B b).val):=mk0 mixed hl hc h
theorem s0 {β δ:Type}{e:Ct}{l:List Ct}{d0:List Nat}{n:Nat}{Q:RA β}{R:δ->T}{B:β->Pg δ}(hl:JL TP l)(h:akF TP l ⟨[],[],d0,[],none⟩ 2000 n Q R B)(he:e=(n,FC Q R λb=>(B b).val):=by kernel_rfl)(hc:Gn TP n=true:=by kernel_rfl):SC e:=Snd.of (mk0 mixed hl hc h) he
theorem kS {β δ:Type}{k:KK}{Q:RA β}{R:δ->T}{B:β->Pg δ}(hl:JL TP k.l)(i j:List Nat)
  (h1:Bo (λa=>∀kk,Oc TP (E' k.l) k.hs (tmpsOf TP k.n) kk 2000 a) (i.map (Zs TP k.n)))
  (h2:Bo (λb=>∀kk,at6 TP (E' k.l) k.hs (tmpsOf TP k.n) kk 2000 b) (j.map (afr TP k.n)))
  (h:D2 k Q R B)(e1:Ln (Zt TP k.n)=i.map (Zs TP k.n):=by kernel_rfl)(e2:Lo k.hs (Zt TP k.n)=j.map (afr TP k.n):=by kernel_rfl)(hc:Gn TP k.n=true:=by kernel_rfl):
  Sound TP k.n (FC Q R λb=>(B b).val):=mkS mixed hl hc (Lp.by e1 h1 e2 h2) h
theorem kL {D X:Type}{k:KK}{id:Nat}{Q:RS D}{E:∀{ρ:Type},X->(AX->St->Option ρ)->Option ρ}{S:D->Pg (D⊕X)}(h:LI k id Q E S)
  (h0:apP k.hs (Zs TP k.n id)=some (fW id k.kk Q E (bD S 2000)):=by kernel_rfl):∀k',Oc TP (E' k.l) k.hs (tmpsOf TP k.n) k' 2000 (Zs TP k.n id):=mkL h0 h
theorem kJ {D X:Type}{k:KK}{id:Nat}{Q:RS D}{E:∀{ρ:Type},X->(AX->St->Option ρ)->Option ρ}{S:D->Pg X}(hd:Hd)(h:JI k id Q E S)
  (h0:ay9 k.hs (afr TP k.n id)=some ⟨hd,fW id k.kk Q E λd=>(S d).val⟩:=by kernel_rfl):∀k',at6 TP (E' k.l) k.hs (tmpsOf TP k.n) k' 2000 (afr TP k.n id):=mkJ h0 h
theorem kN {k:KK}{c:Code}(h:apP k.hs c=none:=by kernel_rfl):∀k',Oc TP (E' k.l) k.hs (tmpsOf TP k.n) k' 2000 c:=Oc.no h
end
end Go.Proofs.YtldgljclcgaibaaGreat
namespace Go.Ab
variable [ax]
omit [ax] in
theorem azy:∀{h:List af} {cs:List Ch} {j:Nat},cs[j]? =some .kill->(((after h cs)[j]?).getD none)=none
 | [],cs,j,_=>by simp[after]
 |b0::bs,[],j,h=>by simp at h
 |b0::bs,c::cs,0,h=>by
  simp only[aDs,je] at h;subst h;simp[after]
 |b0::bs,c::cs,j+1,h=>by
  have:=azy (h:=bs) (cs:=cs) (j:=j) (by simpa using h);cases c<;>simpa[after] using this
theorem axJ {P:Program}{π:Pi}{w w':World}{h:List af}{cs:List Ch}{k:af}{val:AV}{v:Value}{B s e:Nat}(hH:sJ π (hC (h.map some)) (hZ (h.map some)) w)(kK:∀b,π b≠none->b<h.length)
  (JU:∀b,b<h.length->cs[b]? =some .nc∨cs[b]? =some .kill)(hfr:cv w (De π h.length (Sy cs)) w')(hle:s+af.size k<=e)(pZ:∀i,s<=i->i<e->(cl w' B i).isSome=true/\fz w' B i=false)
  (hk:∀j,j<af.size k->∃v,cl w' B (s+j)=some v/\(af.get k j).rel π v)
  (hpl:(w.heap.size<=B)∨∃b s0 q0 e0,b<h.length/\cs[b]? =some .kill/\π b=some (B,s0,q0,e0)/\s0<=s/\e<=e0)
  (ham:AJ w')(hlb:s<e->ax.h0<=B)(hv:∀π':Pi,Ext π π'->π' h.length=some (B,s,af.size k,e)->val.rel π' v):
  aIg P π w h ⟨val,cs,[k]⟩ (.returned v) w':=by
 have h0:π h.length=none:=by
  cases hh:π h.length with
  |none=>rfl
  |some p=>exact absurd (kK _ (by rw[hh];simp)) (Nat.lt_irrefl _)
 have hx:=AK h0 (B,s,af.size k,e);have axK:=pV π h.length (B,s,af.size k,e);have af2:∀b,b≠h.length->Au π h.length (B,s,af.size k,e) b=π b:=λb hb=>by simp only[Au,if_neg hb]
 have a0S:(pz.heap ⟨val,cs,[k]⟩ h)[h.length]? =some (some k):=abk (r:=⟨val,cs,[k]⟩) (h:=h) (k:=0) rfl;have hlen:(pz.heap ⟨val,cs,[k]⟩ h).length=h.length+1:=by simp[pz.heap,nR]
 have live:∀b,hZ (pz.heap ⟨val,cs,[k]⟩ h) b≠none->b=h.length∨(b<h.length/\cs[b]? =some .nc/\∃kb,h[b]? =some kb/\(pz.heap ⟨val,cs,[k]⟩ h)[b]? =some (some kb)):=λb hb=>by
  rcases aft b h.length with om|heq|hgt
  .right
   rcases JU b om with hc|hc
   .have hkb:h[b]? =some (h[b]'om):=lq _;exact⟨om,hc,_,hkb,(DT om).trans (afY.2 hc _ hkb)⟩
   .exfalso;apply hb
    unfold hZ;rw[DT om,azy hc];rfl
  .exact .inl heq
  .exfalso;apply hb
   unfold hZ;rw[JM (by omega)];rfl
 have kept:∀b kb,b<h.length->cs[b]? =some .nc->h[b]? =some kb->∃Bb sb eb,π b=some (Bb,sb,af.size kb,eb)/\sb+af.size kb<=eb/\
   (∀i,sb<=i->i<eb->(cl w' Bb i).isSome=true/\fz w' Bb i=false)/\(∀j,j<af.size kb->∃v,cl w' Bb (sb+j)=some v/\(af.get kb j).rel π v)/\∀i,sb<=i->i<eb->Bb<w.heap.size/\¬De π h.length (Sy cs) Bb i:=λb kb om hc hkb=>by
  have hzb:hZ (h.map some) b=some (af.size kb):=by rw[Qe,hkb];rfl
  obtain⟨Bb,sb,eb,p1,p2,p3,p4⟩:=hH.hp b _ hzb
  have hnf:∀i,sb<=i->i<eb->Bb<w.heap.size/\¬De π h.length (Sy cs) Bb i:=λi i1 i2=>by
   refine⟨abj (p3 i i1 i2).1,?_⟩;rintro ⟨b2,s2,q2,e2,Fb,hd2,hp2,j1,j2⟩
   have nd:b≠b2:=λe=>by subst e;exact hd2 hc
   have hz2:hZ (h.map some) b2≠none:=by
    rw[Qe,lq Fb];simp
   exact hH.dj b b2 Bb sb _ eb s2 q2 e2 nd (by rw[hzb];simp) hz2 p1 hp2 i i1 i2 j1 j2
  refine⟨Bb,sb,eb,p1,p2,λi i1 i2=> ?_,λj hj=> ?_,hnf⟩
  .obtain⟨hB,hn⟩:=hnf i i1 i2;rw[hfr.cl hB hn,hfr.fz hB];exact p3 i i1 i2
  .obtain⟨v,hv1,hv2⟩:=p4 j hj;obtain⟨hB,hn⟩:=hnf (sb+j) (by omega) (by omega);refine⟨v,by rw[hfr.cl hB hn];exact hv1,?_⟩;rw[aCL hkb hj] at hv2;exact hv2
 have apart:∀b kb Bb sb qb eb,b<h.length->cs[b]? =some .nc->h[b]? =some kb->π b=some (Bb,sb,qb,eb)->Bb=B->∀i,sb<=i->i<eb->s<=i->i<e->False:=λb kb Bb sb qb eb om hc hkb hpb hBB i i1 i2 i3 i4=>by
  obtain⟨B1,s1,e1,q1,_,_,_,q5⟩:=kept b kb om hc hkb;rw[hpb] at q1;cases q1;obtain⟨hB,hn⟩:=q5 i i1 i2;rcases hpl with hpl| ⟨b2,s2,q2,e2,Fb,hc2,hp2,j1,j2⟩
  .omega
  .apply hn
   rw[hBB];exact⟨b2,s2,q2,e2,Fb,by unfold Sy;rw[hc2];simp,hp2,by omega,by omega⟩
 refine⟨Au π h.length (B,s,af.size k,e),v,rfl,hx,hv _ hx axK,⟨ham,λb B1 s1 q1 e1 hz hp Bm=> ?_,λb n hz=> ?_,λb b' B1 s1 q1 e1 s2 q2 e2 nd hz uD hp uP i i1 i2 i3 i4=> ?_⟩,hfr,λb hb=> ?_,λb B1 s1 q1 e1 a28 hb hB i i1 i2=> ?_⟩
 .rcases live b hz with rfl| ⟨om,hc,kb,hkb,_⟩
  .rw[axK] at hp;cases hp;exact hlb Bm
  .rw[af2 b (by omega)] at hp;exact hH.lb b B1 s1 q1 e1 (by rw[Qe,hkb];simp) hp Bm
 .rcases live b (by rw[hz];simp) with rfl| ⟨om,hc,kb,hkb,hgb⟩
  .rw[ZH a0S] at hz;cases hz;refine⟨B,s,e,axK,hle,pZ,λj hj=> ?_⟩;obtain⟨v,hv1,hv2⟩:=hk j hj;refine⟨v,hv1,?_⟩;rw[afZ a0S hj];exact CV.dP hx _ _ hv2
  .rw[ZH hgb] at hz;cases hz;obtain⟨Bb,sb,eb,p1,p2,p3,p4,_⟩:=kept b kb om hc hkb;refine⟨Bb,sb,eb,by rw[af2 b (by omega)];exact p1,p2,p3,λj hj=> ?_⟩;obtain⟨v,hv1,hv2⟩:=p4 j hj;refine⟨v,hv1,?_⟩;rw[afZ hgb hj];exact CV.dP hx _ _ hv2
 .rcases live b hz with rfl| ⟨om,hc,kb,hkb,_⟩
  .rcases live b' uD with rfl| ⟨a0T,hc',kb',aX5,_⟩
   .exact nd rfl
   .rw[axK] at hp;cases hp;rw[af2 b' (by omega)] at uP;exact apart b' kb' _ _ _ _ a0T hc' aX5 uP rfl i i3 i4 i1 i2
  .rw[af2 b (by omega)] at hp;rcases live b' uD with rfl| ⟨a0T,hc',kb',aX5,_⟩
   .rw[axK] at uP;cases uP;exact apart b kb _ _ _ _ om hc hkb hp rfl i i1 i2 i3 i4
   .rw[af2 b' (by omega)] at uP;have hz1:hZ (h.map some) b≠none:=by rw[Qe,hkb];simp
    have hz2:hZ (h.map some) b'≠none:=by rw[Qe,aX5];simp
    exact hH.dj b b' B1 s1 q1 e1 s2 q2 e2 nd hz1 hz2 hp uP i i1 i2 i3 i4
 .show b<h.length+1;by_cases e:b=h.length
  .omega
  .rw[af2 b e] at hb;have:=kK b hb;omega
 .by_cases e':b=h.length
  .subst e';rw[axK] at hb;cases hb;rcases hpl with hpl| ⟨b2,s2,q2,e2,Fb,hc2,hp2,j1,j2⟩
   .omega
   .exact⟨b2,s2,q2,e2,Fb,by unfold Sy;rw[hc2];simp,hp2,by omega,by omega⟩
  .rw[af2 b e'] at hb;have:=kK b (by rw[hb];simp);omega
end Go.Ab
