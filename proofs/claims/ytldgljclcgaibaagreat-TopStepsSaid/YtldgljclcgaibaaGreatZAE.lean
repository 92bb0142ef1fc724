/-
  Parts of the proof: AbW AbY AbZ AbNil AbPg AbLaw AbInv PI Tot TPw Bits VBits Bits4 PK SLA
-/
import Derived.Test.YtldgljclcgaibaaGreatZAD
import Derived.Deep.Slices
import Derived.Laws.Externs
import Derived.Test.YtldgljclcgaibaaGreatRows
open Nat renaming beq→z9,ble→wr
open Int renaming ofNat→ws
open Sum renaming elim→v4
set_option linter.unusedVariables false
set_option linter.unusedSimpArgs false
namespace Go.Ab
variable [aA]
open Go.ChangeShapes Go.WideShapes Go.Deep
inductive K where
 |b
 |i (k:IntKind)
 |s
 |u
 |q
def K.has:K->FV->Prop
 |.b,.b _=>True
 |.i k,.i k' n=>k'=k/\k.has n
 |.s,.s _=>True
 |.u,.u=>True
 |.q,.q n _=>n<=maxLen
 |_,_=>False
def K.oc:K->Nat->cR->Prop
 |.b,_,.b _=>True
 |.i k,n,.i k' g=>k'=k/\∀j,j<n->k.has (g j)
 |.s,_,.s _=>True
 |.u,_,.u=>True
 |.q,n,.q g _=>∀j,j<n->g j<=maxLen
 |_,_,_=>False
def Uw {α:Type}:Nat->List α->List α
 |0,_=>[]
 |n+1,l=>l++Uw n l
def ale (P:Program)(g:TypeId->Option (List K)):List Field->List K->Option (List K)
 | [],acc=>some acc
 |f::fs,acc=>match g f.type with
  |some ks=>match z9 f.offset acc.length&&z9 (P.cellsOf f.type) ks.length with
   |true=>ale P g fs (acc++ks)
   |false=>none
  |none=>none
def LZ (P:Program):Nat->TypeId->Option (List K)
 |0,_=>none
 |d+1,t=>match P.underlying t with
  |some .bool=>some [.b]
  |some (.int k)=>some [.i k]
  |some .string=>some [.s]
  |some (.struct fs)=>match ale P (LZ P d) fs.toList [] with
   |some ks=>match z9 (P.cellsOf t) ks.length with
    |true=>some ks
    |false=>none
   |none=>none
  |some (.array n e)=>match LZ P d e with
   |some ks=>match z9 (P.cellsOf e) ks.length&&z9 (P.cellsOf t) (n*ks.length) with
    |true=>some (Uw n ks)
    |false=>none
   |none=>none
  |some (.slice e)=>match P.underlying e with
   |some .bool=>match z9 (P.cellsOf e) 1 with
    |true=>some [.q]
    |false=>some [.u]
   |_=>some [.u]
  |_=>none
section
variable {H:Type} {enc:TypeId×Value->H} {P:Program} {W:World} {base:Nat} {spare:Nat->Bool} {held:Bool}
theorem auT {ks ks':List K}{cs SW:List Value}(h:∃fs,bq K.has ks fs/\bq FV.rel fs cs)(h':∃fs,bq K.has ks' fs/\bq FV.rel fs SW):∃fs,bq K.has (ks++ks') fs/\bq FV.rel fs (cs++SW):=by
 obtain⟨fs,a,b⟩:=h;obtain⟨fs',a',b'⟩:=h';exact⟨fs++fs',a.append a',b.append b'⟩
theorem aqc {d:Nat}(ih:∀{t:TypeId} {ks:List K} {fuel:Nat} {cs:List Value} {x:DataW H×List MemPlace},LZ P d t=some ks->DataW.trod enc P W base spare held fuel t cs=some x->∃fs,bq K.has ks fs/\bq FV.rel fs cs){n:Nat}{cs:List Value}:
  ∀{l:List Field} {acc ks:List K},ale P (LZ P d) l acc=some ks->(∀f∈l,∃y,DataW.trod enc P W base spare held n f.type ((cs.drop f.offset).take (P.cellsOf f.type))=some y)->acc.length<=cs.length->
   (∃fs,bq K.has acc fs/\bq FV.rel fs (cs.take acc.length))->ks.length<=cs.length/\∃fs,bq K.has ks fs/\bq FV.rel fs (cs.take ks.length)
 | [],acc,ks,h,_,hl,ha=>by
  simp only[ale] at h;cases h;exact⟨hl,ha⟩
 |f::l,acc,ks,h,hf,hl,ha=>by
  simp only[ale] at h;split at h
  .rename_i kf hk
   split at h
   .rename_i hc
    simp only[cL] at hc;have e1:=lE hc.1;have e2:=lE hc.2;obtain⟨y,hy⟩:=hf f (by simp);obtain⟨fs,f1,f2⟩:=ih hk hy
    have hlen:kf.length=min (P.cellsOf f.type) (cs.length-f.offset):=by
     have h1:=f1.length;have h2:=f2.length;simp at h2
     omega
    have hle:acc.length+kf.length<=cs.length:=by omega
    refine aqc ih h (λf' hf'=>hf f' (by simp[hf'])) (by simp;omega) ?_;have:=auT ha ⟨fs,f1,f2⟩;rw[axI,List.take_add];rw[e1,e2] at this;exact this
   .cases h
  .cases h
omit [aA] in
theorem Vf {α:Type}(l:List α):∀n,(Uw n l).length=n*l.length
 |0=>by simp[Uw]
 |n+1=>by simp[Uw,Vf l n,asM,Nat.add_comm]
omit [aA] in
theorem aiu {α:Type}(l:List α):∀n,Uw (n+1) l=Uw n l++l
 |0=>by simp[Uw]
 |n+1=>by
  have h:=aiu l n;show l++Uw (n+1) l=Uw (n+1) l++l;rw[h,<-axJ,<-h];rfl
theorem L0 (hA:∀B i v,cl W B i=some v->aA.fs B i=some v)(hsp:∀b,spare b=true):∀{d:Nat} {t:TypeId} {ks:List K} {fuel:Nat} {cs:List Value} {x:DataW H×List MemPlace},LZ P d t=some ks->DataW.trod enc P W base spare held fuel t cs=some x->∃fs,bq K.has ks fs/\bq FV.rel fs cs
 |0,_,_,_,_,_,h,_=>by cases h
 |d+1,t,ks,fuel,cs,x,h,hx=>by
  simp only[LZ] at h;split at h
  .rename_i hu
   cases h;obtain⟨b,rfl,_⟩:=DataW.trod_bool hu hx;exact⟨[.b b],⟨trivial,trivial⟩,rfl,trivial⟩
  .rename_i k hu
   cases h;obtain⟨n,rfl,_,hw⟩:=DataW.trod_int hu hx;refine⟨[.i k n],⟨⟨rfl,?_⟩,trivial⟩,rfl,trivial⟩;simp only[Lit.wf,cL,j7] at hw;exact hw
  .rename_i hu
   cases h;obtain⟨s,rfl,_⟩:=DataW.trod_string hu hx;exact⟨[.s s],⟨trivial,trivial⟩,rfl,trivial⟩
  .rename_i fs hu
   split at h
   .rename_i ks' hks
    split at h
    .rename_i hc
     cases h;have hc:=lE hc;obtain⟨xs,n,_,_,hl,_,hf⟩:=DataW.trod_struct hu hx
     obtain⟨_,r⟩:=aqc (λh h'=>L0 hA hsp h h') hks (n:=n) (cs:=cs) (λf hf'=>by
      obtain⟨i,hi⟩:=List.getElem?_of_mem hf';have:=hf i f (by rw[<-Wb];exact hi)
      have hi':i<xs.length:=by
       have h1:=(lP.1 hi).1;simp at h1;omega
      rw[kT hi'] at this;exact⟨_,this⟩) (Nat.zero_le _) ⟨[],trivial,by simp;trivial⟩
     rw[<-hc,<-hl,List.take_length] at r;exact r
    .cases h
   .cases h
  .rename_i n e hu
   split at h
   .rename_i ks' hks
    split at h
    .rename_i hc
     cases h;simp only[cL] at hc;have e1:=lE hc.1;have e2:=lE hc.2;obtain⟨xs,m,_,_,hl,hn,hf⟩:=DataW.trod_array hu hx
     have key:∀j,j<=n->∃fs,bq K.has (Uw j ks') fs/\bq FV.rel fs (cs.take (j*ks'.length)):=by
      intro j;induction j with
      |zero=>intro _;exact⟨[],trivial,by simp;trivial⟩
      |succ j ihj=>
       intro hj;have hj':j<xs.length:=by omega
       have:=hf j (by omega);rw[kT hj'] at this;rw[aiu,asM,List.take_add];have h2:=L0 hA hsp hks this;rw[e1] at h2;exact auT (ihj (by omega)) h2
     have:=key n (cP _);rw[<-e2,<-hl,List.take_length] at this;exact this
    .cases h
   .cases h
  .rename_i e hu
   have un:∃fs,bq K.has [.u] fs/\bq FV.rel fs cs:=by
    rcases open_slice hu hx with⟨rfl,_⟩| ⟨a',aTP,a3v,m,n,D,Pl,rfl,_⟩
    .exact⟨[.u],⟨trivial,trivial⟩,rfl,trivial⟩
    .exact⟨[.u],⟨trivial,trivial⟩,rfl,trivial⟩
   split at h
   .rename_i hb
    split at h
    .rename_i hc
     cases h;have hc:=lE hc;rcases open_slice1 hu hc hx with⟨rfl,_⟩| ⟨a',aTP,a3v,m,n,V,D,Pl,rfl,_,hle,a3w,hm,_,hi⟩
     .exact⟨[.q 0 λ_=>false],⟨Nat.zero_le _,trivial⟩,.inl ⟨rfl,none,rfl⟩,trivial⟩
     .rw[hsp,if_pos rfl] at hm;subst hm;obtain⟨B,s,sp⟩:=a';refine⟨[.q aTP λj=>match V j with|.bool b=>b|_=>false],⟨dx hle a3w,trivial⟩,?_,trivial⟩;rcases SQ m with z|z
      .subst z;have:aTP=0:=by omega
       subst this;exact .inl ⟨rfl,_,rfl⟩
      .have h0:=(hi 0 z).1
       have hs:sp=none:=by
        have e0:Addr.add ⟨B,s,sp⟩ 0=⟨B,s,sp⟩:=rfl;rw[e0] at h0;unfold World.cell? at h0;simp only at h0;split at h0
        .cases sp with
         |none=>rfl
         |some q=>simp at h0
        .cases h0
       subst hs;refine .inr ⟨B,s,m,hle,rfl,λj hj=> ?_⟩;obtain⟨h1,h2⟩:=hi j (by omega);obtain⟨b,FI,_⟩:=DataW.trod_bool hb h2;have hV:V j=.bool b:=by simpa using FI
       rw[nF,hV] at h1;rw[hA B (s+j) (.bool b) h1];simp only[hV]
    .cases h;exact un
   .cases h;exact un
  .cases h
theorem aRJ {ks:List K}{fs:List FV}{cs:List Value}(h1:bq K.has ks fs)(h2:bq FV.rel fs cs){j:Nat}{k:K}(hk:ks[j]? =some k):∃f v,cs[j]? =some v/\k.has f/\f.rel v:=by
 obtain⟨f,hf,r1⟩:=h1.get hk;obtain⟨v,hv,r2⟩:=h2.get hf;exact⟨f,v,hv,r1,r2⟩
def FV.toN:FV->Nat
 |.q n _=>n
 |_=>0
def FV.toG:FV->Nat->Bool
 |.q _ g=>g
 |_=>λ_=>false
def K.mk:K->(Nat->FV)->cR
 |.b,f=>.b λj=>(f j).toB
 |.i k,f=>.i k λj=>(f j).toI
 |.s,f=>.s λj=>(f j).toS
 |.u,_=>.u
 |.q,f=>.q (λj=>(f j).toN) λj=>(f j).toG
omit [aA] in
theorem K.aZy {k:K}{f:Nat->FV}{j:Nat}(h:k.has (f j)):(k.mk f).at j=f j:=by
 cases k<;>simp only[K.mk,cR.at]<;>revert h<;>cases f j<;>intro h<;>first|exact h.elim|rfl|skip
 rw[h.1];rfl
omit [aA] in
theorem K.aK2 {k:K}{f:Nat->FV}{n:Nat}(h:∀j,j<n->k.has (f j)):k.oc n (k.mk f):=by
 cases k<;>simp only[K.mk,K.oc]
 .refine⟨trivial,λj hj=> ?_⟩;have:=h j hj;revert this
  cases f j<;>intro h<;>first|exact h.elim|skip
  exact h.2
 .intro j hj;have:=h j hj;revert this
  cases f j<;>intro h<;>first|exact h.elim|skip
  exact h
inductive PT where
 |c (k:K)
 |a (n:Nat) (ks:List K)
def ax5:List PT->List K
 | []=>[]
 |.c k::l=>k::ax5 l
 |.a n ks::l=>Uw n ks++ax5 l
def K.beq:K->K->Bool
 |.b,.b=>true
 |.i k,.i k'=>decide (k=k')
 |.s,.s=>true
 |.u,.u=>true
 |.q,.q=>true
 |_,_=>false
omit [aA] in
theorem K.beq_eq {x y:K}(h:x.beq y=true):x=y:=by
 cases x<;>cases y<;>simp only[K.beq] at h<;>first|rfl|cases h|skip
 rw[dh h]
def aTQ:List K->List K->Bool
 | [],[]=>true
 |x::l,y::m=>x.beq y&&aTQ l m
 |_,_=>false
omit [aA] in
theorem aNW:∀{l m:List K},aTQ l m=true->l=m
 | [],[],_=>rfl
 |x::l,y::m,h=>by
  simp only[aTQ,cL] at h;rw[K.beq_eq h.1,aNW h.2]
 | [],_::_,h=>by cases h
 |_::_,[],h=>by cases h
def aK3:List Tm->List K->List PT
 | [],_=>[]
 |.c::l,k::ks=>.c k::aK3 l ks
 |.c::_,[]=>[]
 |.a n z::l,ks=>.a n (ks.take z)::aK3 l (ks.drop (n*z))
inductive Prm where
 |flat (agg:Bool) (pt:List PT)
 |sl (ks:List K)
inductive DC where
 |c (f:FV)
 |a (cols:List cR)
inductive Dat where
 |flat (l:List DC)
 |sl (n:Nat) (cols:List cR)
def azV:PT->DC->Prop
 |.c k,.c f=>k.has f
 |.a n ks,.a cols=>bq (λk c=>K.oc k n c) ks cols
 |_,_=>False
def Fit:Prm->Dat->Prop
 |.flat _ pt,.flat l=>bq azV pt l
 |.sl ks,.sl n cols=>n<=maxLen/\bq (λk c=>K.oc k n c) ks cols
 |_,_=>False
def sgs:List PT->List DC->aj
 |.c _::pt,.c f::l=>.c (.f f)::sgs pt l
 |.a n _::pt,.a cols::l=>.a (.l n) cols::sgs pt l
 |_,_=>[]
def aZz:Bool->aj->AV
 |true,b=>.r (.agg b)
 |false,.c v::_=>.r (.c v)
 |false,_=>.We
def aK4:List Prm->List Dat->List AV
 |.flat a pt::ps,.flat l::ds=>aZz a (sgs pt l)::aK4 ps ds
 |.sl ks::ps,.sl n cols::ds=>.r (.c (.fs n ks.length cols))::aK4 ps ds
 |_,_=>[]
def aFn (ps:List Prm)(ds:List Dat):Prop:=bq Fit ps ds
def aNX (P:Program)(t:TypeId):Option Prm:=
 match P.underlying t with
 |some (.slice e)=>match LZ P 30 e with
  |some ks=>match z9 (P.cellsOf e) ks.length&&wr 1 ks.length with
   |true=>some (.sl ks)
   |false=>none
  |none=>none
 |_=>match adS P t,LZ P 30 t with
  |some true,some ks=>match aTQ (ax5 (aK3 (akV P 30 t) ks)) ks with
   |true=>some (.flat true (aK3 (akV P 30 t) ks))
   |false=>none
  |some false,some [k]=>some (.flat false [.c k])
  |_,_=>none
def aK5 (P:Program):List TypeId->Option (List Prm)
 | []=>some []
 |t::ts=>match aNX P t,aK5 P ts with
  |some p,some ps=>some (p::ps)
  |_,_=>none
theorem aUQ {n:Nat}{ks:List K}{fs:List FV}{cs:List Value}(h1:bq K.has (Uw n ks) fs)(h2:bq FV.rel fs cs):
  ∃cols,bq (λk c=>K.oc k n c) ks cols/\∀j,j<n*ks.length->∃v,cs[j]? =some v/\(iS cols j).rel (λ_=>none) v:=by
 have hl:=h1.length;rw[Vf] at hl
 have ak5:∀i j k,i<n->ks[j]? =some k->∃f,fs[i*ks.length+j]? =some f/\k.has f:=λi j k hi hj=>by
  have hjl:=(lP.1 hj).1
  have key:∀m i,i<m->(Uw m ks)[i*ks.length+j]? =some k:=by
   intro m;induction m with
   |zero=>intro i hi;omega
   |succ m ih=>
    intro i hi;rw[Uw];cases i with
    |zero=>rw[SV,gP,Uu hjl];exact hj
    |succ i=>
     rw[adQ (by rw[asM];omega),show(i+1)*ks.length+j-ks.length=i*ks.length+j by rw[asM];omega];exact ih i (by omega)
  obtain⟨f,hf,hh⟩:=h1.get (key n i hi);exact⟨f,hf,hh⟩
 refine⟨ks.zipIdx.map λp=>p.1.mk λi=>fs.getD (i*ks.length+p.2) .u,?_,λj hj=> ?_⟩
 .refine bq.agc (by simp) λj k c hk hc=> ?_;simp only[CA,aEq,hk,SS,iv] at hc;subst hc;refine K.aK2 λi hi=> ?_;obtain⟨f,hf,hh⟩:=ak5 i j k hi hk;simp only[gP,List.getD,hf,LD];exact hh
 .have aEH:0<ks.length:=by
   rcases SQ ks.length with h|h
   .rw[h] at hj;omega
   .exact h
  have hm:=Nat.mod_lt j aEH;have hq:j/ks.length<n:=(axF aEH).2 hj;have hk:ks[j%ks.length]? =some (ks[j%ks.length]'hm):=kT _;obtain⟨f,hf,hh⟩:=ak5 (j/ks.length) (j%ks.length) _ hq hk;have hd:=Vd j ks.length;rw[hd] at hf;obtain⟨v,hv,hr⟩:=h2.get hf;refine⟨v,hv,?_⟩;unfold iS;simp only[afW,List.length_zipIdx,CA,aEq,hk,SS,gP];have e:fs.getD (j/ks.length*ks.length+j%ks.length) .u=f:=by rw[hd];simp[List.getD,hf]
  rw[K.aZy (f:=λi=>fs.getD (i*ks.length+j%ks.length) .u) (j:=j/ks.length) (by rw[e];exact hh)];show FV.rel _ v;rw[e];exact hr
omit [aA] in
theorem azW {α β:Type}{R:α->β->Prop}:∀{l l':List α} {m:List β},bq R (l++l') m->bq R l (m.take l.length)/\bq R l' (m.drop l.length)
 | [],l',m,h=>⟨by simp;trivial,by simpa using h⟩
 |a::l,l',[],h=>h.elim
 |a::l,l',b::m,h=>by
  obtain⟨h1,h2⟩:=h;have:=azW (l:=l) (l':=l') (m:=m) h2;exact⟨⟨h1,this.1⟩,this.2⟩
theorem a4I {π π':Pi}{c:CV}{v:Value}(hc:∃x,c=.f x)(h:c.rel π v):c.rel π' v:=by
 obtain⟨x,rfl⟩:=hc;exact h
theorem ax6:∀{pt:List PT} {fs:List FV} {cs:List Value},bq K.has (ax5 pt) fs->bq FV.rel fs cs->∃l,bq azV pt l/\∀π,bq (CV.rel π) (aj.list (sgs pt l)) cs
 | [],[],[],_,_=>⟨[],trivial,λ_=>trivial⟩
 | [],_::_,_,h,_=>h.elim
 | [],[],_::_,_,h=>h.elim
 |.c k::pt,[],_,h,_=>h.elim
 |.c k::pt,f::fs,[],_,h=>h.elim
 |.c k::pt,f::fs,v::cs,h1,h2=>by
  obtain⟨l,a,b⟩:=ax6 h1.2 h2.2;refine⟨.c f::l,⟨h1.1,a⟩,λπ=> ?_⟩;rw[sgs,aET];exact⟨h2.1,b π⟩
 |.a n ks::pt,fs,cs,h1,h2=>by
  obtain⟨p1,p2⟩:=azW (l:=Uw n ks) (l':=ax5 pt) h1;rw[Vf] at p1 p2;have h3:=h2.take (n*ks.length);have h4:=h2.drop (n*ks.length);obtain⟨cols,c1,c2⟩:=aUQ p1 h3;obtain⟨l,a,b⟩:=ax6 p2 h4;have EB:=c1.length;have hlen:=h1.length;rw[ax5,axI,Vf] at hlen;have a7F:=h2.length;refine⟨.a cols::l,⟨c1,a⟩,λπ=> ?_⟩;rw[sgs];obtain⟨l1,l2⟩:=jr (b π);rw[asJ] at l1;refine yH ?_ λj hj=> ?_
  .rw[aj.size_cons,Sg.lL,Sz.val,<-EB];omega
  .rw[aj.size_cons] at hj;have hs:(Sg.a (.l n) cols).size=n*ks.length:=by rw[Sg.lL,Sz.val,<-EB]
   by_cases lQ:j<n*ks.length
   .obtain⟨v,hv,hr⟩:=c2 j lQ;rw[abL,if_pos lQ] at hv;refine⟨v,hv,?_⟩;rw[aj.dN (by rw[hs];exact lQ),Sg.pN];exact a4I (aDz cols j) hr
   .obtain⟨v,hv,hr⟩:=l2 (j-n*ks.length) (by rw[hs] at hj;omega);rw[SO,show n*ks.length+(j-n*ks.length)=j by omega] at hv;refine⟨v,hv,?_⟩;rw[aj.lq (by rw[hs];omega),hs];exact hr
theorem aNY (hA:∀B i v,cl W B i=some v->aA.fs B i=some v){t e:TypeId}{ks:List K}(hu:P.underlying t=some (.slice e))(hk:LZ P 30 e=some ks)(hc:P.cellsOf e=ks.length)(h1k:1<=ks.length){v:Value}{d:DataW H}{ps:List MemPlace}
  (h:DataW.Trod enc P W 0 (λ_=>true) true t v d ps)(hv:Value.okWide P W .any base t v):
  ∃n cols,Fit (.sl ks) (.sl n cols)/\∀π:Pi,(AV.r (.c (.fs n ks.length cols))).rel π v:=by
 obtain⟨fuel,h⟩:=h;obtain⟨a,len,cap,rfl⟩:=okWide_slice hu hv
 have zero:∃cols,bq (λk c=>K.oc k 0 c) ks cols:=⟨ks.map λk=>k.mk λ_=>.u,bq.agc (by simp) λi k c hk hc=>by
  simp only[CA,hk,SS,iv] at hc;subst hc;exact K.aK2 λj hj=>by omega⟩
 rcases open_slice hu h with⟨h0,_⟩| ⟨a',aTP,a3v,m,n,D,Pl,h0,_,hle,a3w,hm,hx,hi⟩
 .simp[Value.cells] at h0
  obtain⟨rfl,rfl,rfl⟩:=h0;obtain⟨cols,aZA⟩:=zero;exact⟨0,cols,⟨Nat.zero_le _,aZA⟩,λπ=>⟨aZA.length.symm,.inl ⟨rfl,none,rfl⟩⟩⟩
 .simp[Value.cells] at h0
  obtain⟨rfl,rfl,rfl⟩:=h0
  have aZB:a'.spot=none:=by
   have hv:Cell.okWide P W .any base t (.slice (some a') len cap):=by
    unfold Value.okWide at hv;rw[hu] at hv;exact hv
   have hv:Cell.ok P W .any base t (.slice (some a') len cap):=by
    unfold Cell.okWide at hv;rw[hu] at hv;exact hv
   unfold Cell.ok at hv;rw[hu] at hv;exact hv.2.2.2.1
  obtain⟨B,s,sp⟩:=a';simp only at aZB;subst aZB;simp only[lK] at hm;subst hm;have hw:ks.length=P.cellsOf e:=hc.symm
  have cell:∀i j k,i<len->ks[j]? =some k->∃f v,cl W B (s+(i*ks.length+j))=some v/\k.has f/\f.rel v:=λi j k hil hj=>by
   obtain⟨SW,h1,h2⟩:=hi i (by omega);obtain⟨fs,f1,f2⟩:=L0 hA (λ_=>rfl) hk h2;obtain⟨f,v,e1,e2,e3⟩:=aRJ f1 f2 hj;obtain⟨_,_,h3⟩:=World.cells?_some h1;have hjl:=(lP.1 hj).1;have:=h3 j (by omega);rw[nF,nF,e1] at this;exact⟨f,v,by unfold cl;rw[hw,<-CB];exact this,e2,e3⟩
  have hdiv:∀j,j<len*ks.length->j/ks.length<len/\j%ks.length<ks.length/\j/ks.length*ks.length+j%ks.length=j:=λj hj=>by
   refine⟨(axF (by omega)).2 hj,Nat.mod_lt _ (by omega),Vd _ _⟩
  have pick:∀j,∃f,j<len*ks.length->∃v k,cl W B (s+j)=some v/\ks[j%ks.length]? =some k/\k.has f/\f.rel v:=λj=>by
   rcases mO j (len*ks.length) with hj|hj
   .obtain⟨d1,d2,d3⟩:=hdiv j hj;have hkj:ks[j%ks.length]? =some (ks[j%ks.length]'d2):=kT _;obtain⟨f,v,e1,e2,e3⟩:=cell _ _ _ d1 hkj;rw[d3] at e1;exact⟨f,λ_=>⟨v,_,e1,hkj,e2,e3⟩⟩
   .exact⟨.u,λh=>by omega⟩
  obtain⟨g,hg⟩:=Classical.axiomOfChoice pick
  have hgk:∀(i j:Nat) (k:K),i<len->ks[j]? =some k->k.has (g (i*ks.length+j)):=λi j k hil hj=>by
   have hjl:=(lP.1 hj).1
   have od:i*ks.length+j<len*ks.length:=by
    have:=wR ks.length (show i+1<=len from hil);rw[asM] at this;omega
   obtain⟨v,k',_,h2,h3,_⟩:=hg _ od;rw[abO,asL,axK hjl,hj] at h2;cases h2;exact h3
  refine⟨len,ks.zipIdx.map λp=>p.1.mk λi=>g (i*ks.length+p.2),⟨by omega,bq.agc (by simp) λj k c Lt hc'=> ?_⟩,λπ=>⟨by simp,.inr ⟨B,s,m,hle,rfl,λj hj=> ?_⟩⟩⟩
  .simp only[CA,aEq,Lt,SS,iv] at hc';subst hc';exact K.aK2 λi hi=>by simpa using hgk i j k hi Lt
  .obtain⟨d1,d2,d3⟩:=hdiv j hj;obtain⟨v,k',h1,Lt,hh,h2⟩:=hg j hj;refine⟨g j,v,?_,hA _ _ _ h1,h2⟩;unfold iS;simp only[afW,List.length_zipIdx,CA,aEq,Lt,SS,gP];rw[K.aZy (f:=λi=>g (i*ks.length+j%ks.length)) (j:=j/ks.length) (by rw[d3];exact hh)];show CV.f (g (j/ks.length*ks.length+j%ks.length))=_;rw[d3]
theorem aRK (hA:∀B i v,cl W B i=some v->aA.fs B i=some v){t:TypeId}{ag:Bool}{pt:List PT}(hns:∀e,P.underlying t≠some (.slice e))(hp:aNX P t=some (.flat ag pt)){v:Value}{d:DataW H}{ps:List MemPlace}
  (h:DataW.Trod enc P W 0 (λ_=>true) true t v d ps)(hv:Value.okWide P W .any base t v):∃l,Fit (.flat ag pt) (.flat l)/\∀π,(aZz ag (sgs pt l)).rel π v:=by
 obtain⟨fuel,h⟩:=h;unfold aNX at hp;split at hp
 .rename_i e hu;exact absurd hu (hns e)
 .split at hp
  .rename_i ks ha hk
   split at hp
   .rename_i heq
    cases hp;have heq:=aNW heq;obtain⟨fs,f1,f2⟩:=L0 hA (λ_=>rfl) hk h;rw[<-heq] at f1;obtain⟨l,l1,l2⟩:=ax6 f1 f2
    have aTL:∃cs,v=.agg cs:=by
     unfold Value.okWide at hv;unfold adS at ha;split at ha
     .rename_i hu;rw[hu] at hv;obtain⟨cs,h,_⟩:=hv;exact⟨cs,h⟩
     .rename_i hu;rw[hu] at hv;obtain⟨cs,h,_⟩:=hv;exact⟨cs,h⟩
     .cases ha
     .cases ha
    obtain⟨cs,rfl⟩:=aTL;exact⟨l,l1,λπ=>⟨cs,rfl,l2 π⟩⟩
   .cases hp
  .rename_i k ha hk
   cases hp;obtain⟨fs,f1,f2⟩:=L0 hA (λ_=>rfl) hk h
   have aNI:v.cells.toList=[v]∨∃cs,v=.agg cs:=by
    cases v<;>first|exact .inl rfl|exact .inr ⟨_,rfl⟩
   have aNI:v.cells.toList=[v]:=by
    rcases aNI with h| ⟨cs,rfl⟩
    .exact h
    .exfalso
     have hc:Cell.okWide P W .any base t (.agg cs):=by
      unfold Value.okWide at hv;unfold adS at ha;split at ha<;>first|(cases ha;done)|skip
      rename_i u hu1 hu2 hu
      rw[hu] at hv;split at hv
      .rename_i hh;cases hh;exact absurd rfl (hu1 _)
      .rename_i hh;cases hh;exact absurd rfl (hu2 _ _)
      .exact hv
     unfold Cell.okWide at hc;revert hc
     have hkk:P.underlying t=some .bool∨(∃k,P.underlying t=some (.int k))∨P.underlying t=some .string:=by
      unfold adS at ha;unfold LZ at hk;split at hk
      .rename_i hu;exact .inl hu
      .rename_i k hu;exact .inr (.inl ⟨k,hu⟩)
      .rename_i hu;exact .inr (.inr hu)
      .rename_i hu;rw[hu] at ha;cases ha
      .rename_i hu;rw[hu] at ha;cases ha
      .rename_i hu;exact absurd hu (hns _)
      .cases hk
     rcases hkk with hu| ⟨k,hu⟩|hu<;>rw[hu]<;>intro hc<;>simp only[Cell.ok,hu] at hc
   rw[aNI] at f2;match fs,f1,f2 with
   | [f],⟨f1,_⟩,⟨f2,_⟩=>exact⟨[.c f],⟨f1,trivial⟩,λπ=>f2⟩
  .cases hp
theorem aFo (hA:∀B i v,cl W B i=some v->aA.fs B i=some v):∀{ts:List TypeId} {pr:List Prm} {vs:List Value} {dd:List (DataW H)} {ps:List MemPlace},aK5 P ts=some pr->(∀(j:Nat) t v,ts[j]? =some t->vs[j]? =some v->Value.okWide P W .any base t v)->
  DataW.TrodAll enc P W 0 (λ_=>true) true ts vs dd ps->∃ds,aFn pr ds/\∀π,bq (AV.rel π) (aK4 pr ds) vs
 | [],pr,vs,dd,ps,hp,_,h=>by
  cases hp;obtain⟨rfl,rfl,rfl⟩:=trodAll_nil h;exact⟨[],trivial,λ_=>trivial⟩
 |t::ts,pr,vs,dd,ps,hp,hv,h=>by
  obtain⟨v,vs1,d,ds1,p1,p2,rfl,rfl,rfl,h3,h4⟩:=trodAll_cons h;simp only[aK5] at hp;split at hp
  .rename_i p pr' H0 hp2
   cases hp;have hv0:=hv 0 t v rfl rfl;obtain⟨ds,f1,g1⟩:=aFo hA hp2 (λj t v hj hv'=>hv (j+1) t v (by simpa using hj) (by simpa using hv')) h4;cases p with
   |flat ag pt=>
    have hns:∀e,P.underlying t≠some (.slice e):=λe hu=>by
     unfold aNX at H0;rw[hu] at H0;simp only at H0;split at H0
     .split at H0<;>cases H0
     .cases H0
    obtain⟨l,l1,l2⟩:=aRK hA hns H0 h3 hv0;exact⟨.flat l::ds,⟨l1,f1⟩,λπ=>⟨l2 π,g1 π⟩⟩
   |sl ks=>
    obtain⟨e,hu,hk,hc,h1k⟩:∃e,P.underlying t=some (.slice e)/\LZ P 30 e=some ks/\P.cellsOf e=ks.length/\1<=ks.length:=by
     unfold aNX at H0;split at H0
     .rename_i e hu
      split at H0
      .rename_i ks' hk
       split at H0
       .rename_i hc
        cases H0;simp only[cL,beq_iff,fD] at hc;exact⟨e,hu,hk,hc.1,hc.2⟩
       .cases H0
      .cases H0
     .split at H0
      .split at H0<;>cases H0
      .cases H0
      .cases H0
    obtain⟨n,cols,q1,q2⟩:=aNY hA hu hk hc h1k h3 hv0;exact⟨.sl n cols::ds,⟨q1,f1⟩,λπ=>⟨q2 π,g1 π⟩⟩
  .cases hp
def aZC (F:FE)(ps:List Prm):Prop:=∀ds,aFn ps ds->∃news,(F (aK4 ps ds) []).eval=some ⟨.r (.c (.f (.b true))),[],news⟩
abbrev aRL (W:World):aA:=⟨W.heap.size,λB i=>cl W B i⟩
omit [aA] in
theorem aUR (W:World): @Bn (aRL W) W:=by
 letI:=aRL W
 refine⟨cP _,λB i hB=> ?_,λB i v h=>⟨abT (by rw[show cl W B i=some v from h];rfl),h⟩⟩;have hB:W.heap.size<=B:=hB;simp only[fz,World.frozen?,asG hB]
end
section
variable {H:Type} {enc:TypeId×Value->H} {P:Program} {W:World} {base:Nat}
omit [aA] in
theorem aRM {f:FuncId}{F:FE}(S:∀[aA],Sound P f F)(hc:GK P f=true){ts:List TypeId}{pr:List Prm}(hp:aK5 P ts=some pr)(hF:aZC F pr){args:Array Value}{dd:List (DataW H)}{ps:List MemPlace}
  (aFb:∀(j:Nat) t v,ts[j]? =some t->args[j]? =some v->Value.okWide P W .any base t v)(ht:DataW.TrodAll enc P W 0 (λ_=>true) true ts args.toList dd ps):
  Calls P f args W λe W'=>e=.returned (.bool true)/\cy W (λ_ _=>False) W':=by
 letI:=aRL W
 obtain⟨ds,f1,g1⟩:=aFo (λB i v h=>h) hp (λj t v hj hv=>aFb j t v hj (by simpa using hv)) ht;obtain⟨news,hr⟩:=hF ds f1
 have hH:sV (λ_=>none) (hC (([]:List aj).map some)) (hZ (([]:List aj).map some)) W:=
  ⟨aUR W,λb B s q e hz=>by simp[hZ] at hz,λb n hn=>by simp[hZ] at hn,λb b' B s q e s' q' e' _ hz=>by simp[hZ] at hz⟩
 have hS:=S _ _ _ hr W (λ_=>none) args (g1 _) hH (λb hb=>absurd rfl hb)
 have hS:Calls P f args W (tQ (λ_=>none) W [] ⟨.r (.c (.f (.b true))),[],news⟩):=by
  rcases hS with h| ⟨v,h,_⟩
  .exact h.2
  .rw[Iy hc] at h;cases h
 refine Calls.mono hS ?_;rintro e w' ⟨π',v,rfl,_,hv,_,hF',_,_⟩
 refine⟨eC Ending.returned hv,hF'.mono λB i _ h=> ?_⟩;obtain⟨b,s,q,e,hb,_⟩:=h;cases hb
end
end Go.Ab
namespace Go.Ab
variable [aA]
def azX:Array Value->Sem Value:=λargs=>do
 let(x,y,b)<-Extern.MathBitsCarry.three "Sub64" args
 pure (Extern.MathBitsCarry.pair ((x+Extern.MathBitsCarry.m64-y-b)%Extern.MathBitsCarry.m64) (if x<y+b then 1 else 0))
abbrev aJb (n:Int):RV:=.c (.f (.i .u64 n))
omit [aA] in
theorem aNZ {P:Program}(x y c:Int)(h:c.toNat<=1)(w:World):(add64Entry #[.int .u64 x,.int .u64 y,.int .u64 c]).run P w=
  .ok (.tuple #[.int .u64 (ws ((x.toNat+y.toNat+c.toNat)%18446744073709551616)),.int .u64 (ws ((x.toNat+y.toNat+c.toNat)/18446744073709551616))]) w:=by
 match c,h with
 |.ofNat 0,_=>rfl
 |.ofNat 1,_=>rfl
 |.negSucc n,_=>rfl
 |.ofNat (n+2),h=>exact absurd h (by simp;omega)
omit [aA] in
theorem aN0 {P:Program}(x y c:Int)(h:c.toNat<=1)(w:World):(azX #[.int .u64 x,.int .u64 y,.int .u64 c]).run P w=
  .ok (.tuple #[.int .u64 (ws ((x.toNat+18446744073709551616-y.toNat-c.toNat)%18446744073709551616)),.int .u64 (ws (if x.toNat<y.toNat+c.toNat then 1 else 0))]) w:=by
 match c,h with
 |.ofNat 0,_=>rfl
 |.ofNat 1,_=>rfl
 |.negSucc n,_=>rfl
 |.ofNat (n+2),h=>exact absurd h (by simp;omega)
theorem azY {P:Program}{f:FuncId}{fn:Func}{e:Array Value->Sem Value}{A B:Int->Int->Int->Int}(hf:P.funcs[f]? =some fn)(aFp:(fn.name=="runtime.NumGoroutine")=false)
  (hb:fn.body.isNone=true)(hn:Extern.findNext fn=none)(he:Extern.find fn=some e)
  (oD:∀(x y c:Int) (w:World),c.toNat<=1->(e #[.int .u64 x,.int .u64 y,.int .u64 c]).run P w=.ok (.tuple #[.int .u64 (A x y c),.int .u64 (B x y c)]) w):
  Sound P f λ
   | [.r (.c (.f (.i .u64 x))),.r (.c (.f (.i .u64 y))),.r (.c (.f (.i .u64 c)))],[]=>.test (wr c.toNat 1) (.leaf ⟨.tup [aJb (A x y c),aJb (B x y c)],[],[]⟩) .fail
   |_,_=>.fail:=by
 intro args h res tT w π vs lF hH kr;simp only at tT;split at tT
 .rename_i x y c
  simp only[T.eval] at tT;split at tT
  .rename_i hc
   cases tT;right
   obtain⟨l⟩:=vs;match l,lF with
   | [v1,v2,v3],⟨h1,h2,h3,_⟩=>
    have h1:v1=.int .u64 x:=h1;have h2:v2=.int .u64 y:=h2;have h3:v3=.int .u64 c:=h3;subst h1 h2 h3;refine⟨_,by rw[run_callFunc_extern hf aFp hb hn he,oD x y c w (Wa hc)];rfl,π,_,rfl,Ext.refl π,⟨#[_,_],rfl,rfl,rfl,trivial⟩,hH,cy.refl _ _,kr,λb B s q e hb hp=> ?_⟩;exact absurd (kr b (by rw[hp];simp)) (by omega)
  .cases tT
 .cases tT
abbrev aZD (x y c:Int):Int:=ws ((x.toNat+y.toNat+c.toNat)%18446744073709551616)
abbrev aZE (x y c:Int):Int:=ws ((x.toNat+y.toNat+c.toNat)/18446744073709551616)
abbrev aZF (x y c:Int):Int:=ws ((x.toNat+18446744073709551616-y.toNat-c.toNat)%18446744073709551616)
abbrev aZG (x y c:Int):Int:=ws (if x.toNat<y.toNat+c.toNat then 1 else 0)
def aDC (A B:Int->Int->Int->Int):FE
 | [.r (.c (.f (.i .u64 x))),.r (.c (.f (.i .u64 y))),.r (.c (.f (.i .u64 c)))],[]=>.test (wr c.toNat 1) (.leaf ⟨.tup [aJb (A x y c),aJb (B x y c)],[],[]⟩) .fail
 |_,_=>.fail
theorem aK6 {P:Program}{f:FuncId}{fn:Func}(hf:P.funcs[f]? =some fn)(aFp:(fn.name=="runtime.NumGoroutine")=false)
  (hb:fn.body.isNone=true)(hn:Extern.findNext fn=none)(he:Extern.find fn=some add64Entry):Sound P f (aDC aZD aZE):=
 azY hf aFp hb hn he λx y c w h=>aNZ x y c h w
theorem aK7 {P:Program}{f:FuncId}{fn:Func}(hf:P.funcs[f]? =some fn)(aFp:(fn.name=="runtime.NumGoroutine")=false)
  (hb:fn.body.isNone=true)(hn:Extern.findNext fn=none)(he:Extern.find fn=some azX):Sound P f (aDC aZF aZG):=
 azY hf aFp hb hn he λx y c w h=>aN0 x y c h w
end Go.Ab
namespace Go.Ab
theorem aUS {D:Type}(x:Option D)(g:D->pP):(T.opt x λd=>.leaf (g d)).eval=x.map g:=by cases x<;>rfl
abbrev C3:=Int->Int->Int->Option (Int×Int)
def adZ (f:C3):FE:=λargs h=>match args,h with
 | [.r (.c (.f (.i .u64 x))),.r (.c (.f (.i .u64 y))),.r (.c (.f (.i .u64 c)))],[]=>.opt (f x y c) λd=>.leaf ⟨.tup [aJb d.1,aJb d.2],[],[]⟩
 |_,_=>.fail
def DI:C3:=λx y c=>cond (wr c.toNat 1) (some (aZD x y c,aZE x y c)) none
def ad3:C3:=λx y c=>cond (wr c.toNat 1) (some (aZF x y c,aZG x y c)) none
theorem aJc [aA]{P:Program}{f:FuncId}{A B:Int->Int->Int->Int}(S:Sound P f (aDC A B)):Sound P f (adZ λx y c=>cond (wr c.toNat 1) (some (A x y c,B x y c)) none):=
 S.weaken λargs h r hr=>by
  unfold adZ at hr;split at hr
  .rename_i x y c
   rw[aUS] at hr;simp only at hr;refine⟨r,?_,.refl _ _⟩;unfold aDC;simp only[T.eval];cases hc:wr c.toNat 1<;>rw[hc] at hr<;>first|(cases hr;done)|exact hr
  .cases hr
theorem as4 {D:Type}(x:Option D)(g:D->T):(T.opt x g).eval=x.bind λd=>(g d).eval:=by cases x<;>rfl
theorem aUT {α β:Type}(q:α->Option β)(b:Bool)(x y:Option α):(cond b x y).bind q=cond b (x.bind q) (y.bind q):=by cases b<;>rfl
def T.sum {A B:Type}(x:A⊕B)(f:A->T)(g:B->T):T:=.test x.isLeft (.opt x.getLeft? f) (.opt x.getRight? g)
theorem aFq {b:Bool}{a:T}{r:pP}(h:(T.test b a .fail).eval=some r):b=true/\a.eval=some r:=by cases b<;>first|(cases h;done)|exact⟨rfl,h⟩
theorem azZ {D X ρ σ:Type}{s1:D->(D->Option ρ)->(X->Option ρ)->Option ρ}{s2:D->(D->Option σ)->(X->Option σ)->Option σ}(q:ρ->Option σ)
  (h:∀d c x,(s1 d c x).bind q=s2 d (λd=>(c d).bind q) (λe=>(x e).bind q))(k:X->Option ρ):∀(n:Nat) (d:D),(S5 s1 n d k).bind q=S5 s2 n d λe=>(k e).bind q
 |0,_=>rfl
 |n+1,d=>by
  show(s1 d (λd=>S5 s1 n d k) k).bind q=s2 d (λd=>S5 s2 n d λe=>(k e).bind q) λe=>(k e).bind q
  rw[h];congr 1
  funext d'
  exact azZ q h k n d'
theorem az0 {hd:St->Option St}{ρ:Type}{body:St->(AX->St->Option ρ)->Option ρ}{K:AX->St->Option ρ}{D X:Type}{emb:D->St}{step:D->(D->Option ρ)->(X->Option ρ)->Option ρ}{kx:X->Option ρ}
  (h:∀(d:D) (c:St->Option ρ),body (emb d) (next hd c K)=step d (λd=>c (emb d)) kx):∀(n:Nat) (d:D),iter hd body K n (emb d)=S5 step n d kx
 |0,_=>rfl
 |n+1,d=>by
  have e:iter hd body K (n+1) (emb d)=body (emb d) (next hd (iter hd body K n) K):=rfl;rw[e,h];have e2:S5 step (n+1) d kx=step d (λd=>S5 step n d kx) kx:=rfl;rw[e2];congr 1
  funext d'
  exact az0 h n d'
theorem Ol.of [aA]{P:Program}{E:Env}{hs:Hs}{nt lf id k0:Nat}{a:Code}{run:∀{ρ:Type},St->(AX->St->Option ρ)->Option ρ}(h0:ap2 hs a=some ⟨id,k0,run⟩)
  (h:∀{ρ:Type} (s:St) (K:AX->St->Option ρ) (r:ρ),run s K=some r->∃n,iter (λt=>t.head k0 hs a) (HB P E hs nt k0 lf a) K n s=some r):∀kk,Ol P E hs nt kk lf a:=by
 intro kk σ hσ hk ρ s K r hr;rw[h0] at hσ;cases hσ;cases hk;exact h s K r hr
theorem Ol.no [aA]{P:Program}{E:Env}{hs:Hs}{nt lf:Nat}{a:Code}(h0:ap2 hs a=none):∀kk,Ol P E hs nt kk lf a:=by
 intro kk σ hσ;rw[h0] at hσ;cases hσ
theorem B9.imp {α:Type}{p q:α->Prop}(h:∀a,p a->q a):∀{l:List α},B9 p l->B9 q l
 | [],_=>trivial
 |_::_,hl=>⟨h _ hl.1,B9.imp h hl.2⟩
theorem aut.of [aA]{P:Program}{E:Env}{hs:Hs}{nt lf id k0:Nat}{hd:Hd}{b:Code}{run:∀{ρ:Type},St->(AX->St->Option ρ)->Option ρ}(h0:azC hs b=some ⟨hd,⟨id,k0,run⟩⟩)
  (h:∀{ρ:Type} (s:St) (K:AX->St->Option ρ) (r:ρ),run s K=some r->HB P E hs nt k0 lf b s K=some r):∀kk,aut P E hs nt kk lf b:=by
 intro kk j hj hk ρ s K r hr;rw[h0] at hj;cases hj;cases hk;exact h s K r hr
theorem LC.by [aA]{P:Program}{E:Env}{hs:Hs}{f:FuncId}{lf:Nat}{l lj:List Code}(hl:LA (ZL P f)=l)(h:B9 (λa=>∀kk,Ol P E hs (tmpsOf P f) kk lf a) l)
  (hlj:LB hs (ZL P f)=lj)(hj:B9 (λb=>∀kk,aut P E hs (tmpsOf P f) kk lf b) lj):
  ∀(fn:Func) (c:Code) (kk:Nat),P.funcs[f]? =some fn->fn.body=some c->LC P E hs fn.ntmps kk lf c:=by
 intro fn c kk hf hb;have e1:ZL P f=c:=by unfold ZL;rw[hf];simp[hb]
 have e2:tmpsOf P f=fn.ntmps:=by unfold tmpsOf;rw[hf];rfl
 rw[e1] at hl hlj;rw[<-e2];refine LC.of ?_ ?_
 .rw[hl];exact h.imp λa ha=>ha kk
 .rw[hlj];exact hj.imp λa ha=>ha kk
structure jB (α β:Type) where
 rd:α->Option β
 em:β->α
 ok:∀a b,rd a=some b->a=em b
namespace jB
def hole {α:Type}:jB α α:=⟨some,id,λa b h=>by cases h;rfl⟩
def nat (n:Nat):jB Nat Unit:=⟨λm=>cond (z9 m n) (some ()) none,λ_=>n,λa b h=>by
 cases hb:z9 a n<;>rw[hb] at h<;>first|(cases h;done)|exact lE hb⟩
def int (n:Int):jB Int Unit:=⟨λm=>cond (decide (m=n)) (some ()) none,λ_=>n,λa b h=>by
 cases hb:decide (a=n)<;>rw[hb] at h<;>first|(cases h;done)|exact dh hb⟩
def bool (n:Bool):jB Bool Unit:=⟨λm=>cond (m==n) (some ()) none,λ_=>n,λa b h=>by
 cases a<;>cases n<;>first|rfl|cases h⟩
def via {α α' β:Type}(f:α->α')(g:α'->Option α)(h:∀a' a,g a'=some a->a'=f a)(x:jB α β):jB α' β:=⟨λa=>(g a).bind x.rd,λb=>f (x.em b),λa b hb=>by
 cases ha:g a with
 |none=>rw[ha] at hb;cases hb
 |some c=>rw[ha] at hb;rw[h a c ha,<-x.ok c b hb]⟩
def pair {α β γ δ:Type}(x:jB α β)(y:jB γ δ):jB (α×γ) (β×δ):=⟨λp=>(x.rd p.1).bind λb=>(y.rd p.2).bind λd=>some (b,d),λq=>(x.em q.1,y.em q.2),λp q h=>by
 cases h1:x.rd p.1 with
 |none=>rw[h1] at h;cases h
 |some b=>
  rw[h1] at h;cases h2:y.rd p.2 with
  |none=>simp only[bC,h2] at h;cases h
  |some d=>
   simp only[bC,h2] at h;cases h;rw[<-x.ok _ _ h1,<-y.ok _ _ h2]⟩
def one {α:Type}(a:α)(g:α->Bool)(h:∀b,g b=true->b=a):jB α Unit:=⟨λb=>cond (g b) (some ()) none,λ_=>a,λb _ hb=>by
 cases hg:g b<;>rw[hg] at hb<;>first|(cases hb;done)|exact h b hg⟩
def nil {α:Type}:jB (List α) Unit:=one [] (λl=>match l with| []=>true|_=>false) λb h=>by cases b<;>first|rfl|cases h
def cons {α β γ:Type}(x:jB α β)(y:jB (List α) γ):jB (List α) (β×γ):=via (λp:α×List α=>p.1::p.2) (λl=>match l with|a::l=>some (a,l)|_=>none) (λa' a h=>by cases a'<;>cases h;rfl) (pair x y)
def szl {β:Type}(x:jB Nat β):jB Sz β:=via Sz.l (λz=>match z with|.l n=>some n|_=>none) (λa' a h=>by cases a'<;>cases h;rfl) x
def szs {β:Type}(x:jB Nat β):jB Sz β:=via Sz.s (λz=>match z with|.s n=>some n|_=>none) (λa' a h=>by cases a'<;>cases h;rfl) x
def ok' {β:Type}(x:jB Nat β):jB cG β:=via cG.k (λz=>match z with|.k n=>some n|_=>none) (λa' a h=>by cases a'<;>cases h;rfl) x
def ox {β γ δ:Type}(x:jB Nat β)(y:jB Nat γ)(z:jB Nat δ):jB cG (β×γ×δ):=via (λp:Nat×Nat×Nat=>cG.x p.1 p.2.1 p.2.2) (λz=>match z with|.x a b c=>some (a,b,c)|_=>none) (λa' a h=>by cases a'<;>cases h;rfl) (pair x (pair y z))
def fi {β:Type}(k:IntKind)(x:jB Int β):jB FV β:=via (FV.i k) (λz=>match z with|.i k' n=>cond (decide (k'=k)) (some n) none|_=>none) (λa' a h=>by
 cases a' with
 |i k' n=>
  cases hk:decide (k'=k)<;>simp only[hk] at h<;>first|(cases h;done)|(cases h;rw[dh hk])
 |_=>cases h) x
def fb {β:Type}(x:jB Bool β):jB FV β:=via FV.b (λz=>match z with|.b n=>some n|_=>none) (λa' a h=>by cases a'<;>cases h;rfl) x
def fs {β:Type}(x:jB ByteArray β):jB FV β:=via FV.s (λz=>match z with|.s n=>some n|_=>none) (λa' a h=>by cases a'<;>cases h;rfl) x
def cf {β:Type}(x:jB FV β):jB CV β:=via CV.f (λz=>match z with|.f n=>some n|_=>none) (λa' a h=>by cases a'<;>cases h;rfl) x
def Ly {β γ δ:Type}(x:jB Nat β)(y:jB cG γ)(z:jB Nat δ):jB CV (β×γ×δ):=via (λp:Nat×cG×Nat=>CV.ptr p.1 p.2.1 p.2.2) (λz=>match z with|.ptr a b c=>some (a,b,c)|_=>none) (λa' a h=>by cases a'<;>cases h;rfl) (pair x (pair y z))
def ccl {α β γ δ:Type}(u:jB Nat α)(x:jB Nat β)(y:jB cG γ)(z:jB Nat δ):jB CV (α×β×γ×δ):=via (λp:Nat×Nat×cG×Nat=>CV.cl p.1 p.2.1 p.2.2.1 p.2.2.2) (λz=>match z with|.cl e a b c=>some (e,a,b,c)|_=>none) (λa' a h=>by cases a'<;>cases h;rfl) (pair u (pair x (pair y z)))
def fO {β γ δ ε ζ:Type}(x:jB Nat β)(y:jB cG γ)(z:jB Sz δ)(u:jB Nat ε)(w:jB Bool ζ):jB CV (β×γ×δ×ε×ζ):=via (λp:Nat×cG×Sz×Nat×Bool=>CV.sl p.1 p.2.1 p.2.2.1 p.2.2.2.1 p.2.2.2.2) (λz=>match z with|.sl a b c d e=>some (a,b,c,d,e)|_=>none) (λa' a h=>by cases a'<;>cases h;rfl) (pair x (pair y (pair z (pair u w))))
def cfs {β γ δ:Type}(x:jB Nat β)(y:jB Nat γ)(z:jB (List cR) δ):jB CV (β×γ×δ):=via (λp:Nat×Nat×List cR=>CV.fs p.1 p.2.1 p.2.2) (λz=>match z with|.fs a b c=>some (a,b,c)|_=>none) (λa' a h=>by cases a'<;>cases h;rfl) (pair x (pair y z))
def aD5:jB CV Unit:=one .aiq (λl=>match l with|.aiq=>true|_=>false) λb h=>by cases b<;>first|rfl|cases h
def aXw:jB CV Unit:=one .nils (λl=>match l with|.nils=>true|_=>false) λb h=>by cases b<;>first|rfl|cases h
def ki {β:Type}(k:IntKind)(x:jB (Nat->Int) β):jB cR β:=via (cR.i k) (λz=>match z with|.i k' n=>cond (decide (k'=k)) (some n) none|_=>none) (λa' a h=>by
 cases a' with
 |i k' n=>
  cases hk:decide (k'=k)<;>simp only[hk] at h<;>first|(cases h;done)|(cases h;rw[dh hk])
 |_=>cases h) x
def kb {β:Type}(x:jB (Nat->Bool) β):jB cR β:=via cR.b (λz=>match z with|.b n=>some n|_=>none) (λa' a h=>by cases a'<;>cases h;rfl) x
def ks {β:Type}(x:jB (Nat->ByteArray) β):jB cR β:=via cR.s (λz=>match z with|.s n=>some n|_=>none) (λa' a h=>by cases a'<;>cases h;rfl) x
def gc {β:Type}(x:jB CV β):jB Sg β:=via Sg.c (λz=>match z with|.c n=>some n|_=>none) (λa' a h=>by cases a'<;>cases h;rfl) x
def ga {β γ:Type}(x:jB Sz β)(y:jB (List cR) γ):jB Sg (β×γ):=via (λp:Sz×List cR=>Sg.a p.1 p.2) (λz=>match z with|.a n c=>some (n,c)|_=>none) (λa' a h=>by cases a'<;>cases h;rfl) (pair x y)
def rc {β:Type}(x:jB CV β):jB RV β:=via RV.c (λz=>match z with|.c n=>some n|_=>none) (λa' a h=>by cases a'<;>cases h;rfl) x
def ra {β:Type}(x:jB aj β):jB RV β:=via RV.agg (λz=>match z with|.agg n=>some n|_=>none) (λa' a h=>by cases a'<;>cases h;rfl) x
def ar {β:Type}(x:jB RV β):jB AV β:=via AV.r (λz=>match z with|.r n=>some n|_=>none) (λa' a h=>by cases a'<;>cases h;rfl) x
def sf {β:Type}(x:jB (List RV) β):jB AV β:=via AV.tup (λz=>match z with|.tup n=>some n|_=>none) (λa' a h=>by cases a'<;>cases h;rfl) x
def afn {β γ:Type}(x:jB Nat β)(y:jB (List RV) γ):jB AV (β×γ):=via (λp:Nat×List RV=>AV.fn p.1 p.2) (λz=>match z with|.fn a b=>some (a,b)|_=>none) (λa' a h=>by cases a'<;>cases h;rfl) (pair x y)
def a3x:jB AV Unit:=one .We (λl=>match l with|.We=>true|_=>false) λb h=>by cases b<;>first|rfl|cases h
def st {β γ δ:Type}(x:jB (List AV) β)(y:jB (List (Option aj)) γ)(z:jB (List Nat) δ):jB St (β×γ×δ):=via (λp:List AV×List (Option aj)×List Nat=>St.mk p.1 p.2.1 p.2.2) (λz=>some (z.tmps,z.heap,z.dm)) (λa' a h=>by cases a';cases h;rfl) (pair x (pair y z))
end jB
end Go.Ab
namespace Go.Proofs.YtldgljclcgaibaaGreat
open Go.Ab
theorem mixed:Tryz.prog.follows .mixedOrders=true:=by kernel_rfl
theorem own:ownKnob Tryz.prog.godebug=none:=by kernel_rfl
theorem laid:laidOutB Tryz.prog=true:=by kernel_rfl
end Go.Proofs.YtldgljclcgaibaaGreat
namespace Go.Ab
variable [aA]
variable {P:Program}
def EW (Lu:List CK):aj:=[.a (.s 0) (Lu.map CK.oc)]
def T.aN1 (g:pP->pP):T->T
 |.leaf r=>.leaf (g r)
 |.fail=>.fail
 |.test x a b=>.test x (a.aN1 g) (b.aN1 g)
 |.opt x k=>.opt x λd=>(k d).aN1 g
omit [aA] in
theorem aRN {g:pP->pP}{t:T}{r:pP}(h:(t.aN1 g).eval=some r):∃r',t.eval=some r'/\r=g r':=by
 induction t with
 |leaf r'=>cases h;exact⟨r',rfl,rfl⟩
 |fail=>cases h
 |test x a b iha ihb=>
  cases x
  .exact ihb h
  .exact iha h
 |opt x k ih=>
  cases x with
  |none=>cases h
  |some d=>exact ih d h
def vX (i:Nat)(Lu:List CK)(F:FE):FE:=λargs h=>match args[i]? with
 |some (.r (.c .nils))=>(F (args.set i (.r (.c (.sl h.length (.k 0) (.s 0) Lu.length true)))) (h++[EW Lu])).aN1 λr=>⟨r.val,r.yY.take h.length,EW Lu::r.news⟩
 |_=>F args h
omit [aA] in
theorem aFr (Lu:List CK):aj.size (EW Lu)=0:=by
 unfold EW;rw[aj.size_cons,aj.lH,Sg.lL];simp[Sz.val]
omit [aA] in
theorem Rh:∀(h:List aj) (z:aj) (cs:List Ch),∃x,after (h++[z]) cs=after h (cs.take h.length)++[x]
 | [],z,[]=>⟨none,rfl⟩
 | [],z,.mW::cs=>⟨some z,rfl⟩
 | [],z,.set b::cs=>⟨some b,rfl⟩
 | [],z,.kill::cs=>⟨none,rfl⟩
 |b::bs,z,[]=>by
  obtain⟨x,hx⟩:=Rh bs z [];refine⟨x,?_⟩;simp only[List.take_nil] at hx;simp[after,hx]
 |b::bs,z,.mW::cs=>by
  obtain⟨x,hx⟩:=Rh bs z cs;exact⟨x,by simp[after,hx]⟩
 |b::bs,z,.set k::cs=>by
  obtain⟨x,hx⟩:=Rh bs z cs;exact⟨x,by simp[after,hx]⟩
 |b::bs,z,.kill::cs=>by
  obtain⟨x,hx⟩:=Rh bs z cs;exact⟨x,by simp[after,hx]⟩
omit [aA] in
theorem aZH {α:Type}{A N:List α}{x y:α}{b:Nat}(h:b≠A.length):(A++[x]++N)[b]? =(A++y::N)[b]? :=by
 rcases mO b A.length with h1|h1
 .rw[axJ,Uu h1,Uu h1]
 .rw[axJ,adQ h1,adQ h1];obtain⟨m,hm⟩:∃m,b-A.length=m+1:=⟨b-A.length-1,by omega⟩;rw[hm];rfl
theorem Sound.nil {f:FuncId}{F:FE}(i:Nat)(Lu:List CK)(S:Sound P f F):Sound P f (vX i Lu F):=by
 intro args h res tT w π vs lF hH kr;unfold vX at tT;split at tT
 .rename_i hi
  obtain⟨r,hr,rfl⟩:=aRN tT;generalize hπ2:(λb=>if b=h.length then some (0,0,0,0) else π b:Pi)=π2
  have p1:∀b,b≠h.length->π2 b=π b:=λb hb=>by rw[<-hπ2];simp[hb]
  have p2:π2 h.length=some (0,0,0,0):=by rw[<-hπ2];simp
  have hx:Ext π π2:=λb p hb=>by
   have:b<h.length:=kr b (by rw[hb];simp);rw[p1 b (by omega)];exact hb
  have a1Q:bq (AV.rel π2) (args.set i (.r (.c (.sl h.length (.k 0) (.s 0) Lu.length true)))) vs.toList:=by
   have lF:=lF.imp (AV.dH hx);refine bq.agc (by rw[List.length_set];exact lF.length) λj a v ha hv=> ?_;rw[aEt] at ha;split at ha
   .rename_i hij
    subst hij;split at ha
    .cases ha;obtain⟨v',hv',hr'⟩:=lF.get hi;rw[hv] at hv';cases hv'
     exact⟨0,0,0,0,p2,by simp[cG.val,Sz.val],by simp[cG.val,Sz.val],.inl ⟨rfl,none,hr'⟩⟩
    .cases ha
   .obtain⟨v',hv',hr'⟩:=lF.get ha;rw[hv] at hv';cases hv'
    exact hr'
  have lt:∀b,b<h.length->((h++[EW Lu]).map some)[b]? =(h.map some)[b]? :=λb hb=>by
   rw[List.map_append,Uu (by simpa using hb)]
  have gz:∀b,b<h.length->hZ ((h++[EW Lu]).map some) b=hZ (h.map some) b/\∀j,hC ((h++[EW Lu]).map some) b j=hC (h.map some) b j:=λb hb=>by
   unfold hZ hC;rw[lt b hb];exact⟨rfl,λ_=>rfl⟩
  have gn:hZ ((h++[EW Lu]).map some) h.length=some 0:=by
   unfold hZ;simp[aFr]
  have gd:∀b,h.length<b->hZ ((h++[EW Lu]).map some) b=none:=λb hb=>by
   unfold hZ;rw[Kc (by simp;omega)];rfl
  have hH2:sV π2 (hC ((h++[EW Lu]).map some)) (hZ ((h++[EW Lu]).map some)) w:=by
   refine⟨hH.am,λb B s q e hz hb B7=> ?_,λb n hn=> ?_,λb b' B s q e s' q' e' mX hz uJ hb fB i i1 i2 i3 i4=> ?_⟩
   .rcases afV b h.length with h1|h1|h1
    .rw[(gz b h1).1] at hz;rw[p1 b (by omega)] at hb;exact hH.lb b B s q e hz hb B7
    .subst h1;rw[p2] at hb;cases hb;omega
    .exact absurd (gd b h1) hz
   .rcases afV b h.length with h1|h1|h1
    .rw[(gz b h1).1] at hn;obtain⟨B,s,e,k1,k2,k3,k4⟩:=hH.hp b n hn
     exact⟨B,s,e,hx _ _ k1,k2,k3,λj hj=>by
      obtain⟨v,v1,v2⟩:=k4 j hj;exact⟨v,v1,by rw[(gz b h1).2];exact CV.dH hx _ _ v2⟩⟩
    .subst h1;rw[gn] at hn;cases hn;exact⟨0,0,0,p2,by omega,λi _ _=>by omega,λj hj=>by omega⟩
    .rw[gd b h1] at hn;cases hn
   .have nz:∀b B s q e,b=h.length->π2 b=some (B,s,q,e)->s=0/\e=0:=λb B s q e hb hp=>by
     rw[hb,p2] at hp;cases hp;exact⟨rfl,rfl⟩
    rcases afV b h.length with h1|h1|h1
    .rcases afV b' h.length with h2|h2|h2
     .rw[(gz b h1).1] at hz;rw[(gz b' h2).1] at uJ;rw[p1 b (by omega)] at hb;rw[p1 b' (by omega)] at fB;exact hH.dj b b' B s q e s' q' e' mX hz uJ hb fB i i1 i2 i3 i4
     .have:=nz b' B s' q' e' h2 fB;omega
     .exact uJ (gd b' h2)
    .have:=nz b B s q e h1 hb;omega
    .exact hz (gd b h1)
  have a4J:∀b,π2 b≠none->b<(h++[EW Lu]).length:=λb hb=>by
   rw[axI];show b<h.length+1;rcases afV b h.length with h1|h1|h1
   .omega
   .omega
   .rw[p1 b (by omega)] at hb;have:=kr b hb;omega
  have aZI:∀B i,DH π2 (h++[EW Lu]).length (S3 r.yY) B i->DH π h.length (S3 (r.yY.take h.length)) B i:=by
   rintro B i ⟨b,s,q,e,hb,hD,hp,i1,i2⟩
   rw[axI] at hb;have hb:b<h.length+1:=hb;rcases mO b h.length with h1|h1
   .rw[p1 b (by omega)] at hp;exact⟨b,s,q,e,h1,λhk=>hD (by rw[abL,if_pos h1] at hk;exact hk),hp,i1,i2⟩
   .obtain rfl:b=h.length:=by omega
    rw[p2] at hp;cases hp;omega
  suffices key:∀e w',tQ π2 w (h++[EW Lu]) r e w'->tQ π w h ⟨r.val,r.yY.take h.length,EW Lu::r.news⟩ e w' by
   rcases S _ _ r hr w π2 vs a1Q hH2 a4J with⟨S1,S2⟩| ⟨v,S1,S2⟩
   .exact .inl ⟨S1,Calls.mono S2 key⟩
   .exact .inr ⟨v,S1,key _ _ S2⟩
  rintro e w' ⟨π',v,rfl,hx',hv,hH',hF,hd,hi'⟩
  have p2':π' h.length=some (0,0,0,0):=hx' _ _ p2;obtain⟨x,hxx⟩:=Rh h (EW Lu) r.yY;have hlen:(after h (r.yY.take h.length)).length=h.length:=nL ..
  have eq1:∀b,b≠h.length->(r.heap (h++[EW Lu]))[b]? =((⟨r.val,r.yY.take h.length,EW Lu::r.news⟩:pP).heap h)[b]? :=λb hb=>by
   unfold pP.heap;rw[hxx];exact aZH (by rw[hlen];exact hb)
  have eqz:∀b,b≠h.length->hZ ((⟨r.val,r.yY.take h.length,EW Lu::r.news⟩:pP).heap h) b=hZ (r.heap (h++[EW Lu])) b:=λb hb=>by
   unfold hZ;rw[eq1 b hb]
  have eqc:∀b j,b≠h.length->hC ((⟨r.val,r.yY.take h.length,EW Lu::r.news⟩:pP).heap h) b j=hC (r.heap (h++[EW Lu])) b j:=λb j hb=>by
   unfold hC;rw[eq1 b hb]
  have eqn:hZ ((⟨r.val,r.yY.take h.length,EW Lu::r.news⟩:pP).heap h) h.length=some 0:=by
   unfold hZ pP.heap;show(((after h (r.yY.take h.length)++(EW Lu::r.news).map some)[h.length]?).getD none).map aj.size=some 0;rw[adQ (by omega),hlen];simp[aFr]
  refine⟨π',v,rfl,hx.trans hx',hv,⟨hH'.am,λb B s q e hz hb B7=> ?_,λb n hn=> ?_,λb b' B s q e s' q' e' mX hz uJ hb fB i i1 i2 i3 i4=> ?_⟩,hF.mono λB i _ h=>aZI B i h,λb hb=> ?_,λb B s q e hb hp hB i i1 i2=> ?_⟩
  .by_cases h1:b=h.length
   .rw[h1,p2'] at hb;cases hb;omega
   .rw[eqz b h1] at hz;exact hH'.lb b B s q e hz hb B7
  .by_cases h1:b=h.length
   .subst h1;rw[eqn] at hn;cases hn;exact⟨0,0,0,p2',by omega,λi _ _=>by omega,λj hj=>by omega⟩
   .rw[eqz b h1] at hn;obtain⟨B,s,e,k1,k2,k3,k4⟩:=hH'.hp b n hn;exact⟨B,s,e,k1,k2,k3,λj hj=>by rw[eqc b j h1];exact k4 j hj⟩
  .have nz:∀b B s q e,b=h.length->π' b=some (B,s,q,e)->s=0/\e=0:=λb B s q e hb hp=>by
    rw[hb,p2'] at hp;cases hp;exact⟨rfl,rfl⟩
   by_cases h1:b=h.length
   .have:=nz b B s q e h1 hb;omega
   .by_cases h2:b'=h.length
    .have:=nz b' B s' q' e' h2 fB;omega
    .rw[eqz b h1] at hz;rw[eqz b' h2] at uJ;exact hH'.dj b b' B s q e s' q' e' mX hz uJ hb fB i i1 i2 i3 i4
  .have:=hd b hb;rw[axI] at this;show b<h.length+(r.news.length+1);have:b<h.length+1+r.news.length:=this;omega
  .by_cases h1:b=h.length
   .rw[h1,p2'] at hp;cases hp;omega
   .exact aZI B i (hi' b B s q e (by rw[axI];show h.length+1<=b;omega) hp hB i i1 i2)
 .exact S args h res tT w π vs lF hH kr
end Go.Ab
noncomputable section
namespace Go.Ab
inductive Pg (δ:Type):Type 1 where
 |ret (d:δ)
 |no
 |ae (b:Bool) (x y:Pg δ)
 |opt {D:Type} (x:Option D) (f:D->Pg δ)
 |sum {A B:Type} (x:A⊕B) (f:A->Pg δ) (g:B->Pg δ)
namespace Pg
def run {δ ρ:Type}(p:Pg δ)(k:δ->Option ρ):Option ρ:=
 Pg.rec (motive:=λ_=>Option ρ) k none (λb _ _ x y=>cond b x y) (λx _ ih=>x.bind ih) (λx _ _ f g=>v4 f g x) p
def val {δ:Type}(p:Pg δ):Option δ:=p.run some
variable {δ ρ σ:Type}
theorem sW (d:δ)(k:δ->Option ρ):(ret d).run k=k d:=rfl
theorem zd (k:δ->Option ρ):(no:Pg δ).run k=none:=rfl
theorem pV (b:Bool)(x y:Pg δ)(k:δ->Option ρ):(ae b x y).run k=bif b then x.run k else y.run k:=rfl
theorem pW {D:Type}(x:Option D)(f:D->Pg δ)(k:δ->Option ρ):(opt x f).run k=x.bind λd=>(f d).run k:=rfl
theorem pX {A B:Type}(x:A⊕B)(f:A->Pg δ)(g:B->Pg δ)(k:δ->Option ρ):(sum x f g).run k=v4 (λa=>(f a).run k) (λb=>(g b).run k) x:=rfl
theorem bP (d:δ):(ret d).val=some d:=rfl
theorem eD:(no:Pg δ).val=none:=rfl
theorem bN (b:Bool)(x y:Pg δ):(ae b x y).val=bif b then x.val else y.val:=rfl
theorem bZ {D:Type}(x:Option D)(f:D->Pg δ):(opt x f).val=x.bind λd=>(f d).val:=rfl
theorem dD {A B:Type}(x:A⊕B)(f:A->Pg δ)(g:B->Pg δ):(sum x f g).val=v4 (λa=>(f a).val) (λb=>(g b).val) x:=rfl
theorem aN2 (p:Pg δ)(k:δ->Option ρ)(q:ρ->Option σ):(p.run k).bind q=p.run λd=>(k d).bind q:=by
 induction p with
 |ret d=>rfl
 |no=>rfl
 |ae b x y ih1 ih2=>rw[pV,pV,aUT,ih1,ih2]
 |opt x f ih=>
  rw[pW,pW];cases x with
  |none=>rfl
  |some d=>exact ih d
 |sum x f g ih1 ih2=>
  rw[pX,pX];cases x with
  |inl a=>exact ih1 a
  |inr b=>exact ih2 b
theorem auU (p:Pg δ)(k:δ->Option ρ):p.val.bind k=p.run k:=by
 unfold val;rw[aN2];rfl
def sm {A B:Type}(x:A⊕B)(f:A->Pg δ)(g:B->Pg δ):Pg δ:=ae x.isLeft (opt x.getLeft? f) (opt x.getRight? g)
theorem aDD {A B:Type}(x:A⊕B)(f:A->Pg δ)(g:B->Pg δ):(sm x f g).val=v4 (λa=>(f a).val) (λb=>(g b).val) x:=by cases x<;>rfl
end Pg
def bG {D X:Type}(s:D->Pg (D⊕X))(n:Nat)(d:D):Option X:=S5 (λd c x=>(s d).run (v4 c x)) n d some
theorem alf {D X ρ:Type}(s:D->Pg (D⊕X))(n:Nat)(d:D)(k:X->Option ρ):(bG s n d).bind k=S5 (λd c x=>(s d).run (v4 c x)) n d k:=by
 unfold bG;refine(azZ k (λd c x=> ?_) some n d).trans rfl;rw[Pg.aN2];congr 1
 funext y
 cases y<;>rfl
def aFs:List Bool->Prop
 | []=>True
 |b::l=>b=true/\aFs l
theorem ax7:∀{l m:List Bool},aFs (l++m)->aFs l/\aFs m
 | [],_,h=>⟨trivial,h⟩
 |_::_,_,h=>⟨⟨h.1,(ax7 h.2).1⟩,(ax7 h.2).2⟩
structure Rq (α β:Type) where
 rd:α->Option (List Bool×β)
 em:β->α
 ok:∀a l b,rd a=some (l,b)->aFs l->a=em b
abbrev Rq.B {α β:Type}(_:Rq α β):Type:=β
namespace Rq
variable {α β γ δ:Type}
def hole:Rq α α:=⟨λa=>some ([],a),id,λa l b h _=>by cases h;rfl⟩
def one (a:α)(g:α->Bool)(h:∀b,g b=true->b=a):Rq α Unit:=⟨λb=>cond (g b) (some ([],())) none,λ_=>a,λb _ _ hb _=>by
 cases hg:g b<;>rw[hg] at hb<;>first|(cases hb;done)|exact h b hg⟩
def tie (n:Nat):Rq Nat Unit:=⟨λm=>some ([z9 m n],()),λ_=>n,λa l b h hl=>by
 have h1:[z9 a n]=l:=(Prod.mk.inj (LG h)).1;subst h1;exact lE hl.1⟩
def nat (n:Nat):Rq Nat Unit:=one n (λm=>z9 m n) λ_ h=>lE h
def int (n:Int):Rq Int Unit:=one n (λm=>decide (m=n)) λ_ h=>dh h
def bool (n:Bool):Rq Bool Unit:=one n (λm=>m==n) λ_ h=>by simpa using h
def via {α':Type}(f:α->α')(g:α'->Option α)(h:∀a' a,g a'=some a->a'=f a)(x:Rq α β):Rq α' β:=⟨λa=>(g a).bind x.rd,λb=>f (x.em b),λa l b hb hl=>by
 cases ha:g a with
 |none=>rw[ha] at hb;cases hb
 |some c=>rw[ha] at hb;rw[h a c ha,<-x.ok c l b hb hl]⟩
def dp (x:Rq α β)(y:β->Rq γ δ):Rq (α×γ) (β×δ):=⟨λp=>(x.rd p.1).bind λb=>((y b.2).rd p.2).bind λd=>some (b.1++d.1,(b.2,d.2)),λq=>(x.em q.1,(y q.1).em q.2),λp l q h hl=>by
 cases h1:x.rd p.1 with
 |none=>rw[h1] at h;cases h
 |some b=>
  rw[h1] at h;cases h2:(y b.2).rd p.2 with
  |none=>simp only[bC,h2] at h;cases h
  |some d=>
   simp only[bC,h2,iv,rq] at h;obtain⟨rfl,rfl⟩:=h;obtain⟨t,b⟩:=b;obtain⟨s,d⟩:=d;obtain⟨h4,h5⟩:=ax7 hl;exact Prod.ext (x.ok _ _ _ h1 h4) ((y b).ok _ _ _ h2 h5)⟩
def pr (x:Rq α β)(y:Rq γ δ):Rq (α×γ) (β×δ):=dp x λ_=>y
def mp {β':Type}(x:Rq α β)(p:β->β')(q:β'->β)(h:∀b,b=q (p b)):Rq α β':=⟨λa=>(x.rd a).bind λb=>some (b.1,p b.2),λc=>x.em (q c),λa l c hc hl=>by
 cases h1:x.rd a with
 |none=>rw[h1] at hc;cases hc
 |some b=>
  rw[h1] at hc;obtain⟨t,b⟩:=b;cases hc;rw[<-h b];exact x.ok _ _ _ h1 hl⟩
def pl (x:Rq α β)(y:Rq γ Unit):Rq (α×γ) β:=mp (pr x y) Prod.fst (λb=>(b,())) λ_=>rfl
def pu (x:Rq α Unit)(y:Rq γ δ):Rq (α×γ) δ:=mp (pr x y) Prod.snd (λb=>((),b)) λ_=>rfl
def nil:Rq (List α) Unit:=one [] (λl=>match l with| []=>true|_=>false) λb h=>by cases b<;>first|rfl|cases h
def co (x:Rq (α×List α) β):Rq (List α) β:=via (λp:α×List α=>p.1::p.2) (λl=>match l with|a::l=>some (a,l)|_=>none) (λa' a h=>by cases a'<;>cases h;rfl) x
def c (x:Rq α β)(y:Rq (List α) δ):Rq (List α) (β×δ):=co (pr x y)
def cl (x:Rq α β)(y:Rq (List α) Unit):Rq (List α) β:=co (pl x y)
def cu (x:Rq α Unit)(y:Rq (List α) δ):Rq (List α) δ:=co (pu x y)
def cd (x:Rq α β)(y:β->Rq (List α) δ):Rq (List α) (β×δ):=co (dp x y)
def ap (n:Nat)(x:Rq (List α×List α) β):Rq (List α) β:=via (λp:List α×List α=>p.1++p.2) (λl=>some (l.take n,l.drop n)) (λa' a h=>by cases h;simp) x
def a (n:Nat)(x:Rq (List α) β)(y:Rq (List α) δ):Rq (List α) (β×δ):=ap n (pr x y)
def al (n:Nat)(x:Rq (List α) β)(y:Rq (List α) Unit):Rq (List α) β:=ap n (pl x y)
def au (n:Nat)(x:Rq (List α) Unit)(y:Rq (List α) δ):Rq (List α) δ:=ap n (pu x y)
def no:Rq (Option α) Unit:=one none (λl=>match l with|none=>true|_=>false) λb h=>by cases b<;>first|rfl|cases h
def so (x:Rq α β):Rq (Option α) β:=via some (λa=>a) (λa' a h=>h) x
def szl (x:Rq Nat β):Rq Sz β:=via Sz.l (λz=>match z with|.l n=>some n|_=>none) (λa' a h=>by cases a'<;>cases h;rfl) x
def szs (x:Rq Nat β):Rq Sz β:=via Sz.s (λz=>match z with|.s n=>some n|_=>none) (λa' a h=>by cases a'<;>cases h;rfl) x
def ok' (x:Rq Nat β):Rq cG β:=via cG.k (λz=>match z with|.k n=>some n|_=>none) (λa' a h=>by cases a'<;>cases h;rfl) x
def ox (x:Rq (Nat×Nat×Nat) β):Rq cG β:=via (λp:Nat×Nat×Nat=>cG.x p.1 p.2.1 p.2.2) (λz=>match z with|.x a b c=>some (a,b,c)|_=>none) (λa' a h=>by cases a'<;>cases h;rfl) x
def fi (k:IntKind)(x:Rq Int β):Rq FV β:=via (FV.i k) (λz=>match z with|.i k' n=>cond (decide (k'=k)) (some n) none|_=>none) (λa' a h=>by
 cases a' with
 |i k' n=>
  cases hk:decide (k'=k)<;>simp only[hk] at h<;>first|(cases h;done)|(cases h;rw[dh hk])
 |_=>cases h) x
def fb (x:Rq Bool β):Rq FV β:=via FV.b (λz=>match z with|.b n=>some n|_=>none) (λa' a h=>by cases a'<;>cases h;rfl) x
def fs (x:Rq ByteArray β):Rq FV β:=via FV.s (λz=>match z with|.s n=>some n|_=>none) (λa' a h=>by cases a'<;>cases h;rfl) x
def cf (x:Rq FV β):Rq CV β:=via CV.f (λz=>match z with|.f n=>some n|_=>none) (λa' a h=>by cases a'<;>cases h;rfl) x
def Ly (x:Rq (Nat×cG×Nat) β):Rq CV β:=via (λp:Nat×cG×Nat=>CV.ptr p.1 p.2.1 p.2.2) (λz=>match z with|.ptr a b c=>some (a,b,c)|_=>none) (λa' a h=>by cases a'<;>cases h;rfl) x
def ccl (x:Rq (Nat×Nat×cG×Nat) β):Rq CV β:=via (λp:Nat×Nat×cG×Nat=>CV.cl p.1 p.2.1 p.2.2.1 p.2.2.2) (λz=>match z with|.cl e a b c=>some (e,a,b,c)|_=>none) (λa' a h=>by cases a'<;>cases h;rfl) x
def fO (x:Rq (Nat×cG×Sz×Nat×Bool) β):Rq CV β:=via (λp:Nat×cG×Sz×Nat×Bool=>CV.sl p.1 p.2.1 p.2.2.1 p.2.2.2.1 p.2.2.2.2) (λz=>match z with|.sl a b c d e=>some (a,b,c,d,e)|_=>none) (λa' a h=>by cases a'<;>cases h;rfl) x
def cfs (x:Rq (Nat×Nat×List cR) β):Rq CV β:=via (λp:Nat×Nat×List cR=>CV.fs p.1 p.2.1 p.2.2) (λz=>match z with|.fs a b c=>some (a,b,c)|_=>none) (λa' a h=>by cases a'<;>cases h;rfl) x
def aD5:Rq CV Unit:=one .aiq (λl=>match l with|.aiq=>true|_=>false) λb h=>by cases b<;>first|rfl|cases h
def aXw:Rq CV Unit:=one .nils (λl=>match l with|.nils=>true|_=>false) λb h=>by cases b<;>first|rfl|cases h
def ki (k:IntKind)(x:Rq (Nat->Int) β):Rq cR β:=via (cR.i k) (λz=>match z with|.i k' n=>cond (decide (k'=k)) (some n) none|_=>none) (λa' a h=>by
 cases a' with
 |i k' n=>
  cases hk:decide (k'=k)<;>simp only[hk] at h<;>first|(cases h;done)|(cases h;rw[dh hk])
 |_=>cases h) x
def kb (x:Rq (Nat->Bool) β):Rq cR β:=via cR.b (λz=>match z with|.b n=>some n|_=>none) (λa' a h=>by cases a'<;>cases h;rfl) x
def ks (x:Rq (Nat->ByteArray) β):Rq cR β:=via cR.s (λz=>match z with|.s n=>some n|_=>none) (λa' a h=>by cases a'<;>cases h;rfl) x
def gc (x:Rq CV β):Rq Sg β:=via Sg.c (λz=>match z with|.c n=>some n|_=>none) (λa' a h=>by cases a'<;>cases h;rfl) x
def ga (x:Rq (Sz×List cR) β):Rq Sg β:=via (λp:Sz×List cR=>Sg.a p.1 p.2) (λz=>match z with|.a n c=>some (n,c)|_=>none) (λa' a h=>by cases a'<;>cases h;rfl) x
def rc (x:Rq CV β):Rq RV β:=via RV.c (λz=>match z with|.c n=>some n|_=>none) (λa' a h=>by cases a'<;>cases h;rfl) x
def ra (x:Rq aj β):Rq RV β:=via RV.agg (λz=>match z with|.agg n=>some n|_=>none) (λa' a h=>by cases a'<;>cases h;rfl) x
def ar (x:Rq RV β):Rq AV β:=via AV.r (λz=>match z with|.r n=>some n|_=>none) (λa' a h=>by cases a'<;>cases h;rfl) x
def sf (x:Rq (List RV) β):Rq AV β:=via AV.tup (λz=>match z with|.tup n=>some n|_=>none) (λa' a h=>by cases a'<;>cases h;rfl) x
def afn (x:Rq (Nat×List RV) β):Rq AV β:=via (λp:Nat×List RV=>AV.fn p.1 p.2) (λz=>match z with|.fn a b=>some (a,b)|_=>none) (λa' a h=>by cases a'<;>cases h;rfl) x
def a3x:Rq AV Unit:=one .We (λl=>match l with|.We=>true|_=>false) λb h=>by cases b<;>first|rfl|cases h
def st (x:Rq (List AV×List (Option aj)×List Nat) β):Rq St β:=via (λp:List AV×List (Option aj)×List Nat=>St.mk p.1 p.2.1 p.2.2) (λz=>some (z.tmps,z.heap,z.dm)) (λa' a h=>by cases a';cases h;rfl) x
def fN:Rq Ch Unit:=one .mW (λl=>match l with|.mW=>true|_=>false) λb h=>by cases b<;>first|rfl|cases h
def Vb:Rq Ch Unit:=one .kill (λl=>match l with|.kill=>true|_=>false) λb h=>by cases b<;>first|rfl|cases h
def An (x:Rq aj β):Rq Ch β:=via Ch.set (λz=>match z with|.set n=>some n|_=>none) (λa' a h=>by cases a'<;>cases h;rfl) x
def res (x:Rq (AV×List Ch×List aj) β):Rq pP β:=via (λp:AV×List Ch×List aj=>pP.mk p.1 p.2.1 p.2.2) (λz=>some (z.val,z.yY,z.news)) (λa' a h=>by cases a';cases h;rfl) x
def us:Nat->Rq (List AV) β->Rq (List AV) β
 |0,x=>x
 |n+1,x=>cu a3x (us n x)
def xs:Nat->Rq (List AV) β->Rq (List AV) β
 |0,x=>x
 |n+1,x=>cu (sf nil) (xs n x)
def ci:Rq CV Int:=cf (fi .i64 hole)
def cn:Rq CV Int:=cf (fi .u64 hole)
def cb:Rq CV Bool:=cf (fb hole)
def ct:Rq CV ByteArray:=cf (fs hole)
def gi:Rq Sg Int:=gc ci
def gn:Rq Sg Int:=gc cn
def gb:Rq Sg Bool:=gc cb
def gt:Rq Sg ByteArray:=gc ct
def ac (x:Rq CV β):Rq AV β:=ar (rc x)
def ai:Rq AV Int:=ac ci
def an:Rq AV Int:=ac cn
def ab:Rq AV Bool:=ac cb
def aa (x:Rq aj β):Rq AV β:=ar (ra x)
def cp (b n:Nat):Rq CV Unit:=Ly (pu (nat b) (pu (ok' (nat 0)) (nat n)))
def gp (b n:Nat):Rq Sg Unit:=gc (cp b n)
def app (b n:Nat):Rq AV Unit:=ac (cp b n)
def slc (b z:Nat):Rq CV (Nat×Bool):=fO (pu (nat b) (pu (ok' (nat 0)) (pr (szs hole) (pu (nat z) hole))))
def A4 (b z:Nat):Rq CV Nat:=fO (pu (nat b) (pu (ok' (nat 0)) (pl (szs hole) (pu (nat z) (bool true)))))
def gl (n:Nat)(x:Rq (List cR) β):Rq Sg β:=ga (pu (szl (nat n)) x)
def gs (n:Nat)(x:Rq (List cR) β):Rq Sg β:=ga (pu (szs (tie n)) x)
def gD:Rq cR (Nat->Int):=ki .i64 hole
def kcb:Rq cR (Nat->Bool):=kb hole
end Rq
abbrev Ct:=Nat×FE
def T.ax8 (l:List Bool)(t:T):T:=List.rec (motive:=λ_=>T) t (λb _ r=>.test b r .fail) l
def aZJ {ρ:Type}(l:List Bool)(t:Option ρ):Option ρ:=List.rec (motive:=λ_=>Option ρ) t (λb _ r=>cond b r none) l
theorem alg {t:T}{r:pP}:∀{l:List Bool},(T.ax8 l t).eval=some r->aFs l/\t.eval=some r
 | [],h=>⟨trivial,h⟩
 |b::l,h=>by
  obtain⟨h1,h2⟩:=aFq (b:=b) (a:=T.ax8 l t) h;obtain⟨h3,h4⟩:=alg h2;exact⟨⟨h1,h3⟩,h4⟩
theorem aFt {ρ:Type}{t:Option ρ}{r:ρ}:∀{l:List Bool},aZJ l t=some r->aFs l/\t=some r
 | [],h=>⟨trivial,h⟩
 |b::l,h=>by
  have h':cond b (aZJ l t) none=some r:=h;cases b with
  |false=>cases h'
  |true=>
   obtain⟨h3,h4⟩:=aFt h';exact⟨⟨rfl,h3⟩,h4⟩
def FC {β δ:Type}(Q:Rq (List AV×List aj) β)(R:δ->T)(f:β->Option δ):FE:=λa h=>match Q.rd (a,h) with
 |some b=>T.ax8 b.1 (.opt (f b.2) R)
 |none=>.fail
def fU {D X:Type}(id kk:Nat)(Q:Rq St D)(E:∀{ρ:Type},X->(AX->St->Option ρ)->Option ρ)(l:D->Option X):Sm:=⟨id,kk,λs k=>match Q.rd s with
 |some b=>aZJ b.1 ((l b.2).bind λx=>E x k)
 |none=>none⟩
def akO {β δ:Type}(P:Program)(l:List Ct)(hs:Hs)(lf n:Nat)(Q:Rq (List AV×List aj) β)(R:δ->T)(B:β->Pg δ):Prop:=
 ∀b,den P (FF l) hs lf n (Q.em b).1 (Q.em b).2=(B b).run λd=>(R d).eval
def aTh {D X:Type}(P:Program)(l:List Ct)(hs:Hs)(kk lf n id:Nat)(Q:Rq St D)(E:∀{ρ:Type},X->(AX->St->Option ρ)->Option ρ)(S:D->Pg (D⊕X)):Prop:=
 ∀(ρ:Type) (d:D) (c:St->Option ρ) (K:AX->St->Option ρ),HB P (FF l) hs (tmpsOf P n) kk lf (ZK P n id) (Q.em d) (next (λt=>t.head kk hs (ZK P n id)) c K)=
  (S d).run (v4 (λd=>c (Q.em d)) λx=>E x K)
def aTi {D X:Type}(P:Program)(l:List Ct)(hs:Hs)(kk lf n id:Nat)(Q:Rq St D)(E:∀{ρ:Type},X->(AX->St->Option ρ)->Option ρ)(S:D->Pg X):Prop:=
 ∀(ρ:Type) (d:D) (K:AX->St->Option ρ),HB P (FF l) hs (tmpsOf P n) kk lf (afT P n id) (Q.em d) K=(S d).run λx=>E x K
section
variable [aA]
def Snd (P:Program)(e:Ct):Prop:=Sound P e.1 e.2
theorem Snd.of {P:Program}{e:Ct}{n:Nat}{F:FE}(S:Sound P n F)(h:e=(n,F)):Snd P e:=by
 subst h;exact S
theorem Kb.c {P:Program}{l:List Ct}{e:Ct}(S:Snd P e)(h:Kb P l):Kb P (e::l):=Kb.cons S h
omit [aA] in
theorem aN3 {D X:Type}{id kk:Nat}{Q:Rq St D}{E:∀{ρ:Type},X->(AX->St->Option ρ)->Option ρ}{l:D->Option X}{ρ:Type}{s:St}{K:AX->St->Option ρ}{r:ρ}
  (h:(fU id kk Q E l).run s K=some r):∃d,s=Q.em d/\((l d).bind λx=>E x K)=some r:=by
 simp only[fU] at h;split at h
 .rename_i b hb
  obtain⟨t,d⟩:=b;obtain⟨h1,h2⟩:=aFt h;exact⟨d,Q.ok s t d hb h1,h2⟩
 .cases h
theorem mkL {D X:Type}{P:Program}{l:List Ct}{hs:Hs}{kk lf n id:Nat}{Q:Rq St D}{E:∀{ρ:Type},X->(AX->St->Option ρ)->Option ρ}{S:D->Pg (D⊕X)}
  (h0:ap2 hs (ZK P n id)=some (fU id kk Q E (bG S lf)))(h:aTh P l hs kk lf n id Q E S):∀k',Ol P (FF l) hs (tmpsOf P n) k' lf (ZK P n id):=
 Ol.of (id:=id) (k0:=kk) (run:=(fU id kk Q E (bG S lf)).run) h0 λs K r hr=>by
  obtain⟨d,rfl,Zp⟩:=aN3 hr;refine⟨lf,?_⟩;rw[alf] at Zp;exact(az0 (emb:=Q.em) (step:=λd c x=>(S d).run (v4 c x)) (kx:=λx=>E x K) (λd c=>h _ d c K) lf d).trans Zp
theorem mkJ {D X:Type}{P:Program}{l:List Ct}{hs:Hs}{kk lf n id:Nat}{hd:Hd}{Q:Rq St D}{E:∀{ρ:Type},X->(AX->St->Option ρ)->Option ρ}{S:D->Pg X}
  (h0:azC hs (afT P n id)=some ⟨hd,fU id kk Q E λd=>(S d).val⟩)(h:aTi P l hs kk lf n id Q E S):∀k',aut P (FF l) hs (tmpsOf P n) k' lf (afT P n id):=
 aut.of (id:=id) (k0:=kk) (hd:=hd) (run:=(fU id kk Q E λd=>(S d).val).run) h0 λs K r hr=>by
  obtain⟨d,rfl,Zp⟩:=aN3 hr;rw[Pg.auU] at Zp;exact(h _ d K).trans Zp
omit [aA] in
theorem aZK {β δ:Type}{Q:Rq (List AV×List aj) β}{R:δ->T}{B:β->Pg δ}{a:List AV}{h:List aj}{r:pP}(hr:(FC Q R (λb=>(B b).val) a h).eval=some r):
  ∃b,(a,h)=Q.em b/\((B b).run λd=>(R d).eval)=some r:=by
 unfold FC at hr;split at hr
 .rename_i b hb
  obtain⟨t,b⟩:=b;obtain⟨h1,Zp⟩:=alg hr;rw[as4,Pg.auU] at Zp;exact⟨b,Q.ok _ _ _ hb h1,Zp⟩
 .cases hr
theorem mkS {β δ:Type}{P:Program}{l:List Ct}{hs:Hs}{lf n:Nat}{Q:Rq (List AV×List aj) β}{R:δ->T}{B:β->Pg δ}(hm:P.follows .mixedOrders=true)(hl:Kb P l)(hc:GK P n=true)
  (aNV:∀fn c kk,P.funcs[n]? =some fn->fn.body=some c->LC P (FF l) hs fn.ntmps kk lf c)(h:akO P l hs lf n Q R B):Sound P n (FC Q R λb=>(B b).val):=
 (aUM hl hm aNV hc).by λa b r hr=>by
  obtain⟨b,e,Zp⟩:=aZK hr;obtain⟨rfl,rfl⟩:=Prod.mk.inj e;exact aUN ((h b).trans Zp)
theorem mk0 {β δ:Type}{P:Program}{l:List Ct}{d0:List Nat}{lf n:Nat}{Q:Rq (List AV×List aj) β}{R:δ->T}{B:β->Pg δ}(hm:P.follows .mixedOrders=true)(hl:Kb P l)(hc:GK P n=true)
  (h:akO P l ⟨[],[],d0,[],none⟩ lf n Q R B):Sound P n (FC Q R λb=>(B b).val):=
 mkS hm hl hc (λ_ _ _ _ _=>LC.nil ..) h
omit [aA] in
theorem aN4 {t t':T}{r:pP}(h:t.eval=some r->t'.eval=some r)(l:List Bool):(T.ax8 l t).eval=some r->(T.ax8 l t').eval=some r:=by
 induction l with
 |nil=>exact h
 |cons b l ih=>
  intro k;obtain⟨h1,h2⟩:=aFq (b:=b) (a:=T.ax8 l t) k;subst h1;exact ih h2
theorem FK {β δ:Type}{P:Program}{n:Nat}{Q:Rq (List AV×List aj) β}{R R':δ->T}{f:β->Option δ}(h:∀d r,(R' d).eval=some r->(R d).eval=some r)(S:Sound P n (FC Q R f)):Sound P n (FC Q R' f):=S.by λa b r hr=>by
 unfold FC at hr ⊢;split at hr
 .rename_i x hx
  refine aN4 (λhr=> ?_) x.1 hr;rw[as4] at hr ⊢;cases hf:f x.2 with
  |none=>rw[hf] at hr;cases hr
  |some d=>rw[hf,bC] at hr;exact h d r hr
 .cases hr
end
abbrev wI (n:Int):Int:=IntKind.wrap .i64 n
abbrev wU (n:Int):Int:=IntKind.wrap .u64 n
end Go.Ab
namespace Go.Ab
theorem aUU {a:Bool}{pt:List PT}{ps:List Prm}{ds:List Dat}(h:aFn (.flat a pt::ps) ds):∃l ds',ds=.flat l::ds'/\bq azV pt l/\aFn ps ds':=by
 match ds,h with
 |.flat l::ds',h=>exact⟨l,ds',rfl,h.1,h.2⟩
theorem a1R {ks:List K}{ps:List Prm}{ds:List Dat}(h:aFn (.sl ks::ps) ds):∃n cols ds',ds=.sl n cols::ds'/\n<=maxLen/\bq (λk c=>K.oc k n c) ks cols/\aFn ps ds':=by
 match ds,h with
 |.sl n cols::ds',h=>exact⟨n,cols,ds',rfl,h.1.1,h.1.2,h.2⟩
theorem aZL {ds:List Dat}(h:aFn [] ds):ds=[]:=by cases ds<;>first|rfl|cases h
theorem a1S {l:List DC}(h:bq azV [] l):l=[]:=by cases l<;>first|rfl|cases h
theorem EX {k:IntKind}{pt:List PT}{l:List DC}(h:bq azV (.c (.i k)::pt) l):∃x l',l=.c (.i k x)::l'/\(k.min<=x/\x<=k.max)/\bq azV pt l':=by
 match l,h with
 |.c (.i k' x)::l',h=>
  obtain⟨⟨rfl,h1⟩,h2⟩:=h;exact⟨x,l',rfl,h1,h2⟩
theorem a3y {n:Nat}{ks:List K}{pt:List PT}{l:List DC}(h:bq azV (.a n ks::pt) l):∃cols l',l=.a cols::l'/\bq (λk c=>K.oc k n c) ks cols/\bq azV pt l':=by
 match l,h with
 |.a cols::l',h=>exact⟨cols,l',rfl,h.1,h.2⟩
theorem aFu {n:Nat}{l:List cR}(h:bq (λk c=>K.oc k n c) [] l):l=[]:=by cases l<;>first|rfl|cases h
theorem yj {n:Nat}{k:IntKind}{ks:List K}{l:List cR}(h:bq (λk c=>K.oc k n c) (.i k::ks) l):∃g l',l=.i k g::l'/\(∀j,j<n->k.min<=g j/\g j<=k.max)/\bq (λk c=>K.oc k n c) ks l':=by
 match l,h with
 |.i k' g::l',h=>
  obtain⟨⟨rfl,h1⟩,h2⟩:=h;exact⟨g,l',rfl,h1,h2⟩
theorem Z4 {D X ρ:Type}(s:D->(D->Option ρ)->(X->Option ρ)->Option ρ)(n:Nat)(d:D)(k:X->Option ρ):S5 s (n+1) d k=s d (λd=>S5 s n d k) k:=rfl
theorem aFv {D X ρ:Type}{s:D->(D->Option ρ)->(X->Option ρ)->Option ρ}{k:X->Option ρ}{r:Option ρ}(Inv:Nat->D->Prop)
  (h:∀t d c,Inv t d->(∀t' d',t'<t->Inv t' d'->c d'=r)->s d c k=r):∀(fuel t:Nat) (d:D),t<fuel->Inv t d->S5 s fuel d k=r
 |0,t,d,hf,hd=>by omega
 |fuel+1,t,d,hf,hd=>by
  rw[Z4];exact h t d _ hd λt' d' ht hd'=>aFv Inv h fuel t' d' (by omega) hd'
theorem wrap_i64 {n:Int}(h1: -9223372036854775808<=n)(h2:n<=9223372036854775807):IntKind.wrap .i64 n=n:=by
 unfold IntKind.wrap;simp only[IntKind.signed,IntKind.bits,pM,j7,show(2:Int)^64=18446744073709551616 from rfl,show(2:Int)^(64-1)=9223372036854775808 from rfl];split<;>omega
theorem wrap_u64 (n:Int):IntKind.wrap .u64 n=n%18446744073709551616:=by
 unfold IntKind.wrap;simp only[IntKind.signed,IntKind.bits,Bool.false_and,show(2:Int)^64=18446744073709551616 from rfl,yf,gq]
theorem FL {D X ρ:Type}{s:D->Pg (D⊕X)}{k:X->Option ρ}{r:Option ρ}(Inv:Nat->D->Prop)
  (h:∀t d c,Inv t d->(∀t' d',t'<t->Inv t' d'->c d'=r)->(s d).run (v4 c k)=r)(fuel t:Nat)(d:D)(hf:t<fuel)(hd:Inv t d):(bG s fuel d).bind k=r:=by
 rw[alf];exact aFv Inv h fuel t d hf hd
theorem Z5 {D X:Type}{s:D->Pg (D⊕X)}(Inv:Nat->D->Prop)(Q:X->Prop)
  (h:∀t d,Inv t d->∃y,(s d).val=some y/\match y with|.inl d'=>∃t',t'<t/\Inv t' d'|.inr x=>Q x):∀(fuel t:Nat) (d:D),t<fuel->Inv t d->∃x,bG s fuel d=some x/\Q x
 |0,t,d,hf,hd=>by omega
 |fuel+1,t,d,hf,hd=>by
  obtain⟨y,hy,hq⟩:=h t d hd;have e:bG s (fuel+1) d=(s d).run (v4 (λd=>bG s fuel d) some):=rfl;rw[e,<-Pg.auU,hy,bC];cases y with
  |inl d'=>obtain⟨t',ht,hd'⟩:=hq;exact Z5 Inv Q h fuel t' d' (by omega) hd'
  |inr x=>exact⟨x,rfl,hq⟩
class bA {D:Type} (x:Option D):Prop where
 ok:∃d,x=some d
def Ok {D:Type}(x:Option D)(Q:D->Prop):Prop:=∃d,x=some d/\Q d
def PQ {δ:Type}(p:Pg δ)(Q:δ->Prop):Prop:=Ok p.val Q
section
variable {δ D A B:Type} {Q:δ->Prop}
theorem Ok.tot {x:Option D}{Q:D->Prop}(h:Ok x Q):bA x:=⟨h.imp λ_ h=>h.1⟩
theorem Ok.post {x:Option D}{Q:D->Prop}(h:Ok x Q){d:D}(e:x=some d):Q d:=by
 obtain⟨d',e',h⟩:=h;rw[e] at e';cases e';exact h
theorem Ok.mono {x:Option D}{Q R:D->Prop}(h:Ok x Q)(k:∀d,Q d->R d):Ok x R:=h.imp λ_ h=>⟨h.1,k _ h.2⟩
theorem bA.Ok {x:Option D}(h:bA x){Q:D->Prop}(k:∀d,x=some d->Q d):Ok x Q:=by
 obtain⟨d,e⟩:=h.ok;exact⟨d,e,k d e⟩
theorem aZM (d:D)(Q:D->Prop):Ok (some d) Q=Q d:=propext (Iff.intro (λh=>Ok.post h rfl) λh=>⟨d,rfl,h⟩)
theorem aw (d:δ):PQ (.ret d) Q=Q d:=aZM d Q
theorem aRO:PQ (.no:Pg δ) Q=False:=propext (Iff.intro (λh=>by obtain⟨_,h,_⟩:=h;cases h) λh=>False.elim h)
theorem aM (b:Bool)(x y:Pg δ):PQ (.ae b x y) Q=((b=true->PQ x Q)/\(b=false->PQ y Q)):=by
 unfold PQ;rw[Pg.bN];cases b<;>simp
theorem bQ (b:Bool)(x:Pg δ):PQ (.ae b x .no) Q=(b=true/\PQ x Q):=by
 rw[aM,aRO];cases b<;>simp
theorem aD (x y:Pg δ):PQ (.ae true x y) Q=PQ x Q:=by unfold PQ;rw[Pg.bN];rfl
theorem bI (x:Option D)(f:D->Pg δ)[h:bA x]:PQ (.opt x f) Q=∀d,x=some d->PQ (f d) Q:=by
 obtain⟨d,rfl⟩:=h.ok;unfold PQ;rw[Pg.bZ,bC];exact propext (Iff.intro (λh d' e=>by cases e;exact h) λh=>h d rfl)
theorem cz (d:D)(f:D->Pg δ):PQ (.opt (some d) f) Q=PQ (f d) Q:=rfl
theorem ax {x:Option D}{f:D->Pg δ}{R:D->Prop}(h:Ok x R)(k:∀d,x=some d->R d->PQ (f d) Q):PQ (.opt x f) Q:=by
 obtain⟨d,rfl,hr⟩:=h;exact k d rfl hr
theorem og (x:A⊕B)(f:A->Pg δ)(g:B->Pg δ):PQ (.sum x f g) Q=((∀a,x=.inl a->PQ (f a) Q)/\∀b,x=.inr b->PQ (g b) Q):=by
 unfold PQ;rw[Pg.dD];cases x<;>simp
theorem um (x:A⊕B)(f:A->Pg δ)(g:B->Pg δ):PQ (.sm x f g) Q=((∀a,x=.inl a->PQ (f a) Q)/\∀b,x=.inr b->PQ (g b) Q):=by
 unfold PQ;rw[Pg.aDD];cases x<;>simp
theorem aK {p:Pg δ}(h:PQ p λ_=>True):bA p.val:=Ok.tot h
theorem uK {D X:Type}{s:D->Pg (D⊕X)}(I:D->Prop)(m:D->Nat)(R:X->Prop)
  (h:∀d,I d->PQ (s d) (v4 (λd'=>I d'/\m d'<m d) R)):∀(n:Nat) (d:D),I d->m d<n->Ok (bG s n d) R:=λn d hd hn=>by
 refine Z5 (λt d=>I d/\m d=t) R (λt d hd=> ?_) n (m d) d hn ⟨hd,rfl⟩;obtain⟨y,hy,hq⟩:=h d hd.1;refine⟨y,hy,?_⟩;cases y with
 |inl d'=>exact⟨m d',hd.2▸hq.2,hq.1,rfl⟩
 |inr x=>exact hq
end
theorem bf {n:Int}(h:0<=n:=by omega)(k:n<=4611686018427387904:=by omega):wI (n+1)=n+1:=wrap_i64 (by omega) (by omega)
theorem eS {n:Int}(h: -4611686018427387904<=n:=by omega)(k:n<=4611686018427387904:=by omega):wI n=n:=wrap_i64 (by omega) (by omega)
theorem bp {n:Int}{m:Nat}:aZ n m=true↔0<=n/\n<m:=by simp[aZ]
theorem ad4 {n:Int}{m:Nat}:HA n m=true↔0<=n/\n<=m:=by simp[HA]
theorem ch {m n:Nat}:wr m n=true↔m<=n:=by rw[Nat.ble_eq]
theorem nf {b:Bool}:(b=false->False)↔b=true:=by cases b<;>simp
theorem hdN (n:Nat)(h:n<=1999):(0:Int)<=0/\(0:Int)<=ws n/\ws n<=1999/\ws n=(n:Int):=by
 simp only[dQ,CC];omega
theorem aS (m:Nat):z9 m m=true:=Ar m
theorem bU:(∀{δ:Type} {Q:δ->Prop} (d:δ),PQ (.ret d) Q=Q d)/\(∀{δ:Type} {Q:δ->Prop} (b:Bool) (x:Pg δ),PQ (.ae b x .no) Q=(b=true/\PQ x Q))/\(∀{δ:Type} {Q:δ->Prop} (b:Bool) (x y:Pg δ),PQ (.ae b x y) Q=((b=true->PQ x Q)/\(b=false->PQ y Q)))
  /\(∀{δ D:Type} {Q:δ->Prop} (x:Option D) (f:D->Pg δ) [h:bA x],PQ (.opt x f) Q=∀d,x=some d->PQ (f d) Q)/\(∀{δ A B:Type} {Q:δ->Prop} (x:A⊕B) (f:A->Pg δ) (g:B->Pg δ),PQ (.sum x f g) Q=((∀a,x=.inl a->PQ (f a) Q)/\∀b,x=.inr b->PQ (g b) Q))
  /\(∀{δ A B:Type} {Q:δ->Prop} (x:A⊕B) (f:A->Pg δ) (g:B->Pg δ),PQ (.sm x f g) Q=((∀a,x=.inl a->PQ (f a) Q)/\∀b,x=.inr b->PQ (g b) Q))/\(∀{δ:Type} {Q:δ->Prop},PQ (.no:Pg δ) Q=False)
  /\(∀{A B C:Type} (f:A->C) (g:B->C) (x:A),v4 f g (.inl x)=f x)/\(∀{A B C:Type} (f:A->C) (g:B->C) (x:B),v4 f g (.inr x)=g x)
  /\(∀p:Prop,(p->True)=True)/\(∀α:Type,(α->True)=True)/\(∀p:Prop,(p/\True)=p)/\(∀p:Prop,(True/\p)=p)/\∀p:Prop,(p/\p)=p:=
 ⟨λd=>aw d,λb x=>bQ b x,λb x y=>aM b x y,λx f _=>bI x f,λx f g=>og x f g,λx f g=>um x f g,aRO,λ_ _ _=>rfl,λ_ _ _=>rfl,λp=>Oo p,λα=>Oo α,CC,A6,and_self⟩
theorem ry:(∀m,z9 m m=true)/\(∀p:Prop,(True->p)=p)/\((true=false)=False)/\(∀p:Prop,(False->p)=True)/\∀{δ D:Type} {Q:δ->Prop} (d:D) (f:D->Pg δ),PQ (.opt (some d) f) Q=PQ (f d) Q:=
 ⟨aS,SU,On,FH,λd f=>cz d f⟩
theorem uL:(∀{n:Int} {m:Nat},aZ n m=true↔0<=n/\n<m)/\(∀{n:Int} {m:Nat},HA n m=true↔0<=n/\n<=m)/\(∀{m n:Nat},wr m n=true↔m<=n)/\(∀m,z9 m m=true)/\(∀a b:Bool,((a&&b)=true)=(a=true/\b=true))/\(∀{p:Prop} [Decidable p],(decide p=true)=p)
  /\(∀{p:Prop} [Decidable p],decide p=false↔¬p)/\(∀{a b:Int},(a==b)=true↔a=b)/\(∀b:Bool,(true&&b)=b)/\∀n:Nat,ws n=(n:Int):=
 ⟨bp,ad4,ch,aS,λa b=>cL a b,λ{_} _=>j7,λ{_} _=>Om,beq_iff_eq,pM,dQ⟩
theorem bT {D X:Type}{s:D->Pg (D⊕X)}{I:D->Prop}{R:X->Prop}(m:D->Nat)(h:∀d,I d->PQ (s d) (v4 (λd'=>I d'/\m d'<m d) R))(k:∀d,I d->m d<2000):∀d:D,I d->Ok (bG s 2000 d) R:=λd hd=>uK I m R h 2000 d hd (k d hd)
end Go.Ab
namespace Go.Ab
def Po {D:Type}(x:Option D)(Q:D->Prop):Prop:=∀d,x=some d->Q d
def PW {δ:Type}(p:Pg δ)(Q:δ->Prop):Prop:=Po p.val Q
section
variable {δ D A B:Type} {Q:δ->Prop}
theorem Po.mono {x:Option D}{Q R:D->Prop}(h:Po x Q)(k:∀d,Q d->R d):Po x R:=λd e=>k d (h d e)
theorem Po.and {x:Option D}{Q R:D->Prop}(h:Po x Q)(k:Po x R):Po x (λd=>Q d/\R d):=λd e=>⟨h d e,k d e⟩
theorem Po.true {x:Option D}:Po x (λ_=>True):=λ_ _=>trivial
theorem Ok.with {x:Option D}{Q R:D->Prop}(h:Ok x Q)(k:Po x R):Ok x (λd=>Q d/\R d):=by
 obtain⟨d,e,q⟩:=h;exact⟨d,e,q,k d e⟩
theorem Ok.po {x:Option D}{Q:D->Prop}(h:Ok x Q):Po x Q:=λd e=>h.post e
theorem aZN (d:D)(Q:D->Prop):Po (some d) Q=Q d:=propext (Iff.intro (λh=>h d rfl) λh d' e=>by cases e;exact h)
theorem aW (d:δ):PW (.ret d) Q=Q d:=aZN d Q
theorem dz:PW (.no:Pg δ) Q=True:=propext (Iff.intro (λ_=>trivial) λ_ d h=>by cases h)
theorem bz (b:Bool)(x y:Pg δ):PW (.ae b x y) Q=((b=true->PW x Q)/\(b=false->PW y Q)):=by
 unfold PW;rw[Pg.bN];cases b<;>simp
theorem Iz (b:Bool)(x:Pg δ):PW (.ae b x .no) Q=(b=true->PW x Q):=by
 rw[bz,dz];cases b<;>simp
theorem bJ (x:Option D)(f:D->Pg δ):PW (.opt x f) Q=∀d,x=some d->PW (f d) Q:=by
 unfold PW;rw[Pg.bZ];cases x with
 |none=>exact propext (Iff.intro (λ_ d e=>by cases e) λ_ d e=>by cases e)
 |some d=>exact propext (Iff.intro (λh d' e=>by cases e;exact h) λh=>h d rfl)
theorem aI {x:Option D}{f:D->Pg δ}{R:D->Prop}(h:Po x R)(k:∀d,x=some d->R d->PW (f d) Q):PW (.opt x f) Q:=by
 rw[bJ];exact λd e=>k d e (h d e)
theorem kI (x:A⊕B)(f:A->Pg δ)(g:B->Pg δ):PW (.sum x f g) Q=((∀a,x=.inl a->PW (f a) Q)/\∀b,x=.inr b->PW (g b) Q):=by
 unfold PW;rw[Pg.dD];cases x<;>simp
theorem pO (x:A⊕B)(f:A->Pg δ)(g:B->Pg δ):PW (.sm x f g) Q=((∀a,x=.inl a->PW (f a) Q)/\∀b,x=.inr b->PW (g b) Q):=by
 unfold PW;rw[Pg.aDD];cases x<;>simp
theorem L3 {D X:Type}{s:D->Pg (D⊕X)}(I:D->Prop)(R:X->Prop)(h:∀d,I d->PW (s d) (v4 I R)):∀(n:Nat) (d:D),I d->Po (bG s n d) R
 |0,d,hd,x,e=>by cases e
 |n+1,d,hd,x,e=>by
  have e1:bG s (n+1) d=(s d).run (v4 (λd=>bG s n d) some):=rfl;rw[e1,<-Pg.auU] at e;cases hv:(s d).val with
  |none=>rw[hv] at e;cases e
  |some y=>
   rw[hv,bC] at e;have q:=h d hd y hv;cases y with
   |inl d'=>exact L3 I R h n d' q x e
   |inr x'=>cases e;exact q
end
theorem oZ {D X:Type}{s:D->Pg (D⊕X)}{I:D->Prop}{R:X->Prop}(h:∀d,I d->PW (s d) (v4 I R)):∀d:D,I d->Po (bG s 2000 d) R:=λd hd=>L3 I R h 2000 d hd
end Go.Ab
namespace Go.Proofs.YtldgljclcgaibaaGreat
open Go.Ab
theorem aZO [aA]:Sound Tryz.prog 240 (adZ DI):=aJc (aK6 (fn:=Tryz.f240) Tryz.func240 (by kernel_rfl) (by kernel_rfl) (by kernel_rfl) (by kernel_rfl))
theorem aZP [aA]:Sound Tryz.prog 262 (adZ ad3):=aJc (aK7 (fn:=Tryz.f262) Tryz.func262 (by kernel_rfl) (by kernel_rfl) (by kernel_rfl) (by kernel_rfl))
abbrev auV:=C3
def alh (g:C3):Ct:=(240,adZ g)
theorem aoU [aA]:Snd Tryz.prog (alh DI):=aZO
abbrev aZQ:=C3
def aN5 (g:C3):Ct:=(262,adZ g)
theorem aUV [aA]:Snd Tryz.prog (aN5 ad3):=aZP
end Go.Proofs.YtldgljclcgaibaaGreat
namespace Go.Ab
abbrev NI:=Nat->Int
theorem _root_.And.b {a b c:Prop}(x:a/\b/\c):c:=x.2.2
theorem _root_.And.c {a b c d e:Prop}(x:a/\b/\c/\d/\e):e:=x.2.2.2.2
theorem _root_.And.d {a b c d e f g h i:Prop}(x:a/\b/\c/\d/\e/\f/\g/\h/\i):i:=x.2.2.2.2.2.2.2.2
@[reducible] def _root_.Prod.b {a b c:Type} (x:a×b×c):c:=x.2.2
@[reducible] def _root_.Prod.c {a b c d e:Type} (x:a×b×c×d×e):e:=x.2.2.2.2
@[reducible] def _root_.Prod.d {a b c d e f g h i:Type} (x:a×b×c×d×e×f×g×h×i):i:=x.2.2.2.2.2.2.2.2
@[reducible] def _root_.Prod.e {a b c d e f g h i j k l m n o p q:Type} (x:a×b×c×d×e×f×g×h×i×j×k×l×m×n×o×p×q):q:=x.2.2.2.2.2.2.2.2.2.2.2.2.2.2.2.2
def cr {α:Type}(d:α)(l:List α):Nat->α:=List.rec (motive:=λ_=>Nat->α) (λ_=>d) (λx l ih j=>bif z9 j l.length then x else ih j) l
@[reducible] def c24 (g:Nat->Nat->Int):=(g 0,g 1,g 2,g 3,g 4,g 5,g 6,g 7,g 8,g 9,g 10,g 11,g 12,g 13,g 14,g 15,g 16,g 17,g 18,g 19,g 20,g 21,g 22,g 23)
@[reducible] def azw {r:Type} (g:Nat->Nat->Int) (x:r):=(g 0,g 1,g 2,g 3,g 4,g 5,g 6,g 7,g 8,g 9,g 10,g 11,g 12,g 13,g 14,g 15,g 16,g 17,g 18,g 19,g 20,g 21,g 22,g 23,x)
def rg:Nat->Nat->List Nat->List Nat
 |_,0,t=>t
 |a,n+1,t=>a::rg (a+1) n t
def sh8 (o:Nat)(x:(Nat->Int)×(Nat->Int)×(Nat->Int)×(Nat->Int)×(Nat->Int)×(Nat->Int)×(Nat->Int)×(Nat->Int)):(Nat->Int)×(Nat->Int)×(Nat->Int)×(Nat->Int)×(Nat->Int)×(Nat->Int)×(Nat->Int)×(Nat->Int):=(λj=>x.1 (o+j),λj=>x.2.1 (o+j),λj=>x.2.2.1 (o+j),λj=>x.2.2.2.1 (o+j),λj=>x.2.2.2.2.1 (o+j),λj=>x.2.2.2.2.2.1 (o+j),λj=>x.2.2.2.2.2.2.1 (o+j),λj=>x.2.2.2.2.2.2.2 (o+j))
def Va (o:Nat)(x:(Nat->Int)×(Nat->Int)×(Nat->Int)×(Nat->Int)×(Nat->Int)×(Nat->Int)×(Nat->Int)×(Nat->Int)×(Nat->Int)):(Nat->Int)×(Nat->Int)×(Nat->Int)×(Nat->Int)×(Nat->Int)×(Nat->Int)×(Nat->Int)×(Nat->Int)×(Nat->Int):=(λj=>x.1 (o+j),λj=>x.2.1 (o+j),λj=>x.2.2.1 (o+j),λj=>x.2.2.2.1 (o+j),λj=>x.2.2.2.2.1 (o+j),λj=>x.2.2.2.2.2.1 (o+j),λj=>x.2.2.2.2.2.2.1 (o+j),λj=>x.2.2.2.2.2.2.2.1 (o+j),λj=>x.2.2.2.2.2.2.2.2 (o+j))
def aMV (o:Nat)(x:(Nat->Int)×(Nat->Int)×(Nat->Int)×(Nat->Int)×(Nat->Int)×(Nat->Int)×(Nat->Int)×(Nat->Int)×(Nat->Int)×(Nat->Int)):(Nat->Int)×(Nat->Int)×(Nat->Int)×(Nat->Int)×(Nat->Int)×(Nat->Int)×(Nat->Int)×(Nat->Int)×(Nat->Int)×(Nat->Int):=(λj=>x.1 (o+j),λj=>x.2.1 (o+j),λj=>x.2.2.1 (o+j),λj=>x.2.2.2.1 (o+j),λj=>x.2.2.2.2.1 (o+j),λj=>x.2.2.2.2.2.1 (o+j),λj=>x.2.2.2.2.2.2.1 (o+j),λj=>x.2.2.2.2.2.2.2.1 (o+j),λj=>x.2.2.2.2.2.2.2.2.1 (o+j),λj=>x.2.2.2.2.2.2.2.2.2 (o+j))
abbrev bY:=(Int×Int×Int×Int×Int)×Int×Nat×Int
abbrev cY:=NI×NI×NI×NI×NI×NI×NI×NI×NI
abbrev GJ:=Int×Int×Int×Int×(Int×Int×Int×Int×Int×Int)×(Int×Int×Int×Int×Int×Int)×NI×NI×Int×Int×Int×Int×Int×Int×Int×Int
abbrev Fv:=(Int×Int×Int×Int)×(Int×Int×Int)×Int×Int×Int
abbrev Fz:=Nat×NI×NI×NI×NI×NI×NI×NI×NI×NI×NI
abbrev NQ:=Int×(Int×Int×(Int×Int×Int)×Int×Int×Int)×Bool
abbrev Fw:=Nat×NI×NI×NI×NI×NI×NI×NI×NI×NI
abbrev Lw:=(NI×NI×(Nat->Bool)×NI×NI×NI)×Int
abbrev SM:=Nat×NI×NI×NI×NI×NI×NI×NI×NI
abbrev lJ:=Int×Int×Int
abbrev se:=Int×Int×Bool×Bool
abbrev uG:=Int×Int×Nat
abbrev a3d:=(Int×Int×Int×Int×Int×Int×Int×Int×Int×Int×Int×Int×Int×Int×Int×Int×NI×NI×Int×Int×Int×Int×Int×Int×Int×Int×Bool×NI×NI×NI)×(Int×Int×Int×Int×Int)×Int×NI×Int×Int×Int×Int×Int×Int×(NI×NI×(Nat->Bool)×NI×NI×NI)×(Int×Int)×NI×NI×NI×NI×NI×NI×NI
abbrev aSY:=Int×Int×Int×Int×Int×Int×Int×Int×Int×Int×Int×Int×Int×Int×Int×Int×Int×Int×Int
abbrev aSZ:=Nat×NI×NI×NI×NI×NI×NI×NI×NI×NI×NI×NI×NI×NI×NI×NI×NI×NI×NI×NI×NI
abbrev aDP:=Int×Int×Int×Int×Int×Int×Int×Int
abbrev a3e:=(Int×Int×Int×Int×Int×Int×Int×Int×Int×Int×Bool×Int×Int×Int×Int×Bool×Bool)⊕(Int×Int×Int×Int×Int×Int×Int×Int×Int×Bool×Int×Int×Int×Bool)
abbrev aMW:=NI×NI×NI×NI×NI×NI×NI×NI×NI×NI
abbrev a3f:=NI×NI×NI×NI×NI×NI×NI×NI×NI×NI×NI×NI×NI×NI×NI×NI×NI×NI×NI×NI×NI×NI×NI×NI
abbrev aMX:=(Nat×Bool)×Int×Int×Bool
abbrev aWP:=Nat×NI×NI×NI×NI×NI×NI×NI×NI×NI×NI×NI
abbrev aS0:=Int×Int×Int×Int×Int×Int×Int
abbrev auo:=Int×Int×Bool
abbrev aS1:=NI×NI×(Nat->Bool)×NI×NI×NI
abbrev aWQ:=Int×(Nat×Bool)×(Nat×Bool)×Int×Int×Bool
abbrev aIv:=Int×Int×Int×Int
abbrev a3g:=Int×Int×Int×Int×Int×Int×Int×Int×Int×Int×Bool×Int×Bool
abbrev aWR:=NI×NI×NI×NI×NI×NI×NI×NI
abbrev aS2:=Int×Int×Int×Bool
abbrev RA (b:Type):=Rq (List AV×List aj) b
abbrev RS (b:Type):=Rq St b
abbrev RE (b:Type):=Rq pP b
@[reducible] def qa {b:Type} (x:RA b):RA b:=x
@[reducible] def qs {b:Type} (x:RS b):RS b:=x
@[reducible] def qe {b:Type} (x:RE b):RE b:=x
@[reducible] def nO {α:Type}:Rq (Option α) Unit:=Rq.no
def lf {β:Type}(q:RE β)(d:β):T:=.leaf (q.em d)
def ls {A B:Type}(f:A->T)(g:B->T)(x:A⊕B):T:=T.sum x f g
def Ex (X:Type):=∀{ρ:Type},X->(AX->St->Option ρ)->Option ρ
abbrev KT:=AX->St
def ef {X:Type}(a:AX)(q:RS X){ρ:Type}(x:X)(K:AX->St->Option ρ):Option ρ:=K a (q.em x)
abbrev LT {D:Type}(_:RS D)(X:Type):=D->Option X
abbrev PL {D:Type}(_:RS D)(X:Type):=Pg (D⊕X)
structure KK where
 l:List Ct
 hs:Hs
 kk:Nat
 n:Nat
end Go.Ab
namespace Go.Proofs.YtldgljclcgaibaaGreat
section
open Go.Ab Go.Ab.Rq
def fR:=bool true
def gT:=szs hole
def db:=nat 0
def DG:=nat 1
def rq4:=nat 2
def Q8:=sf nil
def rq6:=nat 4
def rq7:=nat 3
def rq8:=nat 6
def NR:=nat 11
def eI:=nat 9
def Bi:=nat 8
def aDQ:=nat 20
def aup:=nat 13
def azx:=nat 14
def apW:=nat 15
def aMY:=nat 16
def aMZ:=nat 17
def aM0:=nat 18
def aIw:=nat 19
def aDR:=nat 21
def aIx:=nat 22
def aQ:=app 0 1
def jo:=cl ai nil
def xY:=cl gb nil
def aIy:=cl an nil
def aM1:=cl ab nil
def aM2:=app 1 2
def adP:=cu fN nil
def azy:=app 2 2
def oC:=cl gD nil
def ku:=cl gi nil
def apX:=app 1 4
def azz:=app 2 4
def apY:=app 0 24
def aM3:=app 1 3
def ZE:=app 2 3
def NT:=app 1 24
def AT:=app 2 24
def vU:=app 0 4
def B8:=app 1 300
def ZF:=app 2 300
def aIz:=app 3 300
def aS3:=us 20 nil
def Q9:=app 1 576
def aIA:=app 1 9
def aky:=app 3 3
def aS4:=app 4 3
def aWS:=us 27 nil
def aWT:=app 2 1152
def ZG:=app 3 1152
def apZ:=app 4 24
def aWU:=us 24 nil
def Q':=app 1 1
def ZH:=app 3 24
def aS5:=app 2 576
def NU:=app 4 300
def ap0:=app 5 48
def azA:=app 2 48
def aWV:=us 49 nil
def aIB:=app 4 576
def ap1:=app 5 24
def aIC:=app 2 373
def aID:=app 3 373
def aM4:=cu Vb nil
def KW:=app 0 3
def aDS:=app 0 37
def ZI:=app 0 8
def aM5:=app 0 72
def aDT:=app 4 1
def jq:=app 0 434
def aS6:=gp 5 8
def aS7:=gp 6 8
def aIE:=gp 7 8
def aIF:=gp 8 8
def aIG:=gp 9 8
def aIH:=gp 11 37
def akz:=gp 1 5
def akA:=gp 2 10
def auq:=gp 10 37
def aur:=gp 11 3
def azB:=app 2 20
def aS8:=app 3 4
def aS9:=app 5 16
def aTa:=app 6 12
def aTb:=app 3 576
def aTc:=app 4 12
def aM6:=app 3 1
def ZJ:=app 20 8
def aWW:=app 21 11
def aTd:=gp 26 8
def aTe:=gp 27 8
def aTf:=gp 28 8
def aM7:=app 21 20
def wO:=ok' db
def Lx:=szs db
def aus:=An xY
def aTg:=cl (rc cb) nil
def aWX:=ac (slc 0 2)
def Ix:=ac (slc 1 1)
def bD:=so xY
def bK:=cu db nil
def J4:=ac (slc 0 1)
def aP4:=ac (slc 2 1)
def asp:=ac (slc 1 3)
def afF:=cl (rc ci) nil
def aDU:=ac (slc 1 24)
def aJV:=ac (slc 1 27)
def aP5:=ac (slc 0 3)
def aP6:=ac (slc 1 10)
def axj:=cu DG nil
def aP7:=ac (slc 2 10)
def aP8:=ac (slc 0 9)
def aP9:=ac (A4 1 9)
def aJW:=gc (A4 3 8)
def Cw:=c ai jo
def bL:=cl xY nil
def axk:=c gn (cl gn nil)
def aQa:=c gi (cl gn nil)
def asq:=cu (gp 1 1) nil
def aQb:=xs 8 (us 22 nil)
def aWY:=cf (fb (bool false))
def aQc:=cl ab (us 14 nil)
def aQd:=cl ab (us 21 nil)
def aQe:=cl ai (us 15 nil)
def aQf:=cl ai (us 26 nil)
def aJX:=cl ai (us 13 nil)
def aWZ:=cl ab (us 12 nil)
def akB:=c gi ku
def aQg:=cl ai (us 11 nil)
def gK:=gl 24 oC
def aQh:=cl ai (us 18 nil)
def aDV:=cu fN adP
def aQi:=cu (gp 2 1) nil
def aJY:=gl 276 oC
def aDW:=cl ai aS3
def aQj:=cl ai (us 8 nil)
def aW0:=cl ai (us 21 nil)
def aW1:=cl ai (us 22 nil)
def aQk:=cl ai (us 82 nil)
def aJZ:=cl ai aWU
def aW2:=cl ai (us 75 nil)
def aW3:=cl ai (us 80 nil)
def aW4:=cl ai (us 12 nil)
def aW5:=cl ai (us 32 nil)
def aW6:=cl ab (us 38 nil)
def aW7:=cu (gp 0 3) nil
def aW8:=cl ai (us 31 nil)
def aW9:=xs 8 (us 1 nil)
def aJ0:=cf (fi .i64 (int 0))
def aQl:=cf (fi .i64 (int 4))
def axl:=cf (fi .i64 (int 1))
def aXa:=cf (fi .i64 (int 5))
def aQm:=afn (pu (nat 96) nil)
def m4:=cl aus nil
def aXb:=res (pl an (pu nil nil))
def V8:=aa axk
def afG:=aa aQa
def HO:=res (pl ai (pu nil nil))
def HP:=ac (cf (fb fR))
def lM:=ac aWY
def Cy:=res (pl ab (pu nil nil))
def axm:=cl Ix nil
def aJ1:=cl asp nil
def axn:=gc (cf (fb fR))
def aby:=so asq
def axo:=so aW7
def J5:=gc aWY
def FA:=c ai Cw
def aXc:=c ai (cl ab (us 30 nil))
def aJ2:=c gD (cl (ki .u64 hole) nil)
def aP:=gc aJ0
def aDX:=gc (cf (fi .u64 (int 0)))
def aQn:=c ai (cl ab (us 25 nil))
def aJ3:=c ai aWZ
def kv:=c gi akB
def asr:=gc (cf (fi .i64 (int 1073741824)))
def ass:=cl gK nil
def aJ4:=c ai (cl ab (us 17 nil))
def aJ5:=c ai (cl ab (us 19 nil))
def aDY:=cl (gl 576 oC) nil
def aJ6:=c ai (cl ab (us 7 nil))
def abz:=cl (gl 9 oC) nil
def aXd:=c ai (cl ab aS3)
def aQo:=gc (cf (fi .i64 (int 2)))
def aJ7:=c gb akB
def ast:=c gD (c gD oC)
def aXe:=cl (gl 1152 oC) nil
def aXf:=c ai (cl ab (us 81 nil))
def aXg:=c ai (cl ab (us 26 nil))
def aXh:=c ai (cl ab (us 29 nil))
def aJ8:=c ai (cl ab (us 23 nil))
def aXi:=c ai (cl ab (us 11 nil))
def asu:=c kcb (c gD oC)
def aQp:=c ai aDW
def aXj:=c ai (cl ab (us 31 nil))
def akC:=c gi (c gi xY)
def aXk:=ac (cf (fi .i64 (int 6)))
def aXl:=gc (cf (fi .i64 (int 3000)))
def aXm:=gc (cf (fi .i64 (int 2200)))
def aJ9:=gc (cf (fi .i64 (int 500)))
def aXn:=gc (cf (fi .i64 (int 950)))
def aXo:=gc (cf (fi .i64 (int 100)))
def aXp:=gc (cf (fi .i64 (int 1000)))
def aDZ:=c gn (c gn xY)
def aD0:=cu DG (cu rq4 nil)
def aXq:=cu db (cu NR nil)
def aD1:=cl afG nil
def abA:=cl (so aQa) nil
def Oh:=cl aus adP
def aQq:=c ai axm
def afH:=aa kv
def lk:=aa ass
def lN:=so ass
def Ao:=so kv
def aXr:=c ai (cl J4 nil)
def m5:=so aDY
def HQ:=so aXe
def afI:=so (cl (gl 48 oC) nil)
def afJ:=ra ass
def aKa:=res (pl ab (pu adP nil))
def axp:=res (pl ai (pu adP nil))
def akD:=aa aDZ
def aQr:=sf (c (rc ci) aTg)
def aKb:=c ai (cl ai (cu aQ nil))
def aXs:=c ai (c ai aQc)
def afK:=c gi kv
def aXt:=us 1 (c ai (cl ab (us 10 nil)))
def aQs:=xs 3 (us 2 (xs 3 (us 1 nil)))
def aXu:=us 15 (c ai aQf)
def yb:=c gi (c gi (c gb xY))
def aQt:=cu (gc (cf (fi .i64 (int 3)))) nil
def aQu:=c ai aJ5
def aQv:=sf (c (rc ci) afF)
def aXv:=sf (cu (rc aXw) afF)
def akE:=cu (rc aJ0) nil
def aQw:=cl akC nil
def aXx:=ox (pu db (pl hole eI))
def akF:=cu (gc (cf (fi .i64 (int (-9223372036854775808))))) nil
def Oi:=ox (pu db (pl hole Bi))
def aKc:=cl (ga (pr gT oC)) nil
def HR:=cl afH nil
def afL:=aa afK
def yc:=so afK
def FB:=cl lN nil
def aQx:=cu fN (cu fN m4)
def akG:=cl lk nil
def afM:=c gi (c gi (cl (gc (A4 2 11)) nil))
def aKd:=c gi (c gi (cl (gc (A4 3 11)) nil))
def aKe:=c gi (c gi (cl (gc (A4 7 11)) nil))
def aQy:=c gi (c gi (cl (gc (A4 4 11)) nil))
def aXy:=res (pl ai (pu aDV nil))
def aD2:=c gi (c gi (cl (gc (A4 20 11)) nil))
def Ap:=c gi (c gi (cl (gc (A4 19 11)) nil))
def HS:=so aKc
def aXz:=us 15 (c ai aQn)
def gN:=c gi afK
def aXA:=cu fN (cu fN (cu fN aDV))
def abB:=cu (gp 1 434) akC
def aQz:=cu (gp 21 434) akC
def qN:=res (pr ai (pl m4 nil))
def aXB:=res (pl afG (pu nil nil))
def aKf:=res (pl V8 (pu nil nil))
def asv:=cl afL nil
def afN:=c lk jo
def aD3:=so (cu (gp 22 434) akC)
def aXC:=sf (c (ra aQa) aTg)
def abC:=cl HS nil
def sU:=c aJY ass
def axq:=c gK kv
def aD4:=c gi gN
def aQA:=aa (a 3 kv ku)
def aQB:=xs 3 (us 2 aQs)
def aXD:=ac (Ly (pu db (pu (ok' eI) DG)))
def aXE:=ac (Ly (pu db (pu (ok' rq6) rq8)))
def aQC:=ac (Ly (pu db (pu (ok' rq8) DG)))
def aKg:=ac (Ly (pu db (pu (ok' DG) DG)))
def Oj:=ac (Ly (pu db (pu (ok' (nat 72)) DG)))
def aXF:=ac (Ly (pu db (pu (ok' (nat 412)) DG)))
def aQD:=ac (Ly (pu db (pu (ok' (nat 399)) DG)))
def aKh:=ac (Ly (pu db (pu (ok' rq4) DG)))
def aKi:=ac (Ly (pu aDR (pu (ok' rq4) DG)))
def aQE:=res (pr ai (pl (cu fN m4) nil))
def aKj:=res (pr ai (pl Oh nil))
def aXG:=res (pl afH (pu nil nil))
def aQF:=res (pl lk (pu nil nil))
def aQG:=cl (ga (pr gT asu)) nil
def m6:=a 3 kv akB
def aXH:=sf (cu (rc aD5) (cu (rc axl) nil))
def aKk:=res (pl akD (pu nil nil))
def aQH:=res (pl (sf (c (rc cn) (cl (rc cn) nil))) (pu nil nil))
def axr:=res (pl aQr (pu nil nil))
def Cz:=aa sU
def gO:=so sU
def akH:=ra sU
def aQI:=so (cl (ga (pr gT aJ2)) nil)
def aD6:=so (cl (ga (pr gT ast)) nil)
def aXI:=sf (c (ra kv) afF)
def aXJ:=gl 6 (c gD (c gD (c kcb ast)))
def aXK:=cu fN (cu fN aXA)
def m7:=so m6
def aXL:=cu Vb (cu Vb (cu Vb (cu Vb (cu Vb (cu Vb aM4)))))
def aXM:=res (pl afL (pu nil nil))
def aXN:=res (pl lk (pu adP nil))
def aXO:=res (pr ai (pl aQx nil))
def aXP:=cl (aa axq) nil
def aXQ:=res (pl aQv (pu adP nil))
def aQJ:=afn (pu (nat 180) (cu (rc (cp 2 1)) (cu (rc (cp 3 10)) nil)))
def aXR:=c an (c an (c an (c an (c an (c an aQc)))))
def aXS:=res (pu Q8 (pl (cl (An ass) nil) nil))
def pK:=c gD (c gD (c gD (c gD (c gD ast))))
def aXT:=cl (so aQG) nil
def axs:=c gi (c gi aD4)
def aKl:=cu fN aXK
def aQK:=res (pl ai (pu (cu (An (cu axn nil)) nil) nil))
def aXU:=st (pu (us 4 (cu lM (us 85 nil))) (pu nil nil))
def aQL:=res (pl aXC (pu nil nil))
def aQM:=so (cu aP (cu aDX nil))
def FD:=so axs
def axt:=res (pr afH (pl m4 nil))
def axu:=res (pr lk (pl m4 nil))
def aC:=c gD pK
def aKm:=c gi axs
def nK:=c aXJ ku
def aD7:=res (pu aXH (pu nil nil))
def aXV:=cu fN (cu Vb aXK)
def J6:=c lN FB
def aXW:=ac (fO (pu DG (pu wO (pl gT (pu rq4 fR)))))
def aXX:=ac (fO (pu rq6 (pu wO (pl gT (pu DG fR)))))
def aD8:=c gi (c gi (a 3 kv kv))
def aXY:=ac (fO (pu rq7 (pu wO (pl gT (pu DG fR)))))
def aXZ:=ac (fO (pu rq8 (pu wO (pl gT (pu rq7 fR)))))
def aX0:=ac (fO (pu rq6 (pu wO (pl gT (pu rq7 fR)))))
def aX1:=ac (fO (pu (nat 5) (pu wO (pl gT (pu rq7 fR)))))
def aX2:=ac (fO (pu (nat 5) (pu wO (pl gT (pu DG fR)))))
def aQN:=res (pr aQv (pl m4 nil))
def aX3:=cu lM (xs 5 (cu lM aWV))
def aX4:=cu lM (xs 5 (cu lM (us 52 nil)))
def aKn:=c Cz Cw
def aKo:=aa aKm
def aD9:=An nK
def lO:=so nK
def aX5:=c an (c an (c an (c an (c an (c an (cl ab (us 19 aQb)))))))
def axv:=res (pr afL (pl m4 nil))
def aX6:=ac (fO (pu DG (pu wO (pu (szl rq6) (pu DG fR)))))
def mN:=c gD aC
def aQO:=c gi aKm
def aX7:=sf (c (ra axq) afF)
def aKp:=cl nK nil
def Ey:=cl aKo nil
def aX8:=cl (so aKm) nil
def abD:=cl (aa aD8) nil
def jJ:=c gD mN
def axw:=c gi aQO
def akI:=a 5 gN (c gi (c (gc (A4 1 9)) ku))
def rb:=a 5 gN (c gi (c (gc (A4 14 9)) ku))
def re:=a 5 gN (c gi (c (gc (A4 15 9)) ku))
def rf:=a 5 gN (c gi (c (gc (A4 16 9)) ku))
def rj:=a 5 gN (c gi (c (gc (A4 17 9)) ku))
def rm:=a 5 gN (c gi (c (gc (A4 18 9)) ku))
def aEa:=a 5 gN (c gi (c (gc (A4 19 9)) ku))
def yd:=a 5 gN (c gi (c (gc (A4 13 9)) ku))
def aKq:=aa (a 3 kv m6)
def aQP:=res (pr (sf (c (ra akB) afF)) (pl m4 nil))
def aKr:=cl (ga (pr gT pK)) nil
def aKs:=fO (pu aDR (pr Oi (pl gT (pu Bi fR))))
def aQQ:=so (c gb (c gb (c gb (c gb (c gb (c gb (c gb (c gb kv))))))))
def aX9:=cu aP (cu aP (cu J5 nil))
def aYa:=ac (fO (pu DG (pu (ox (pu db (pu DG DG))) (pr gT (pu DG hole)))))
def asw:=cu aP (cu aP (cu aP nil))
def aQR:=res (pr Cz (pl m4 nil))
def aQS:=c gi axw
def aYb:=res (pr (aa axq) (pl m4 nil))
def aQT:=c gK (c gi (c gi (c gi axq)))
def aEb:=cu aS6 (cu aS7 (cu aIE (cu aIF (cu aIG (cu (gp 10 8) nil)))))
def akJ:=cu (gp 4 8) (cu aS6 (cu aS7 (cu aIE (cu aIF (cu aIG nil)))))
def aYc:=cu axo (cu aby FB)
def aQU:=fO (pu rq7 (pu (ox (pu db (pu db Bi))) (pl gT (pu Bi fR))))
def oF:=so aKr
def aKt:=cl aXJ (cu aP nil)
def aYd:=cl (ga (pu Lx pK)) nil
def aQV:=fO (pu aDR (pu (ox (pu db (pu db eI))) (pl gT (pu eI fR))))
def abE:=c gO (cl afI nil)
def abF:=cl (ga (pr gT aC)) nil
def wP:=a 4 afK (a 3 kv kv)
def oG:=c gi (a 8 aD8 xY)
def aKu:=gc aQU
def aYe:=res (pr Cz (pl Oh nil))
def HT:=so abF
def asx:=cl (ga (pu Lx aC)) nil
def aYf:=cu jq (us 2 (cu ZJ (cu Oj (us 194 nil))))
def aQW:=cl (ga (pr gT mN)) nil
def aYg:=res (pr (sf (c (ra afK) afF)) (pl m4 nil))
def m8:=so oG
def akK:=cl (so aQS) nil
def aYh:=cl (so aKt) nil
def aQX:=cl (aa (c gb (c gb (a 6 (c gb (c gb (c gb (c gb (c gb xY))))) kv)))) nil
def aKv:=c lN J6
def afO:=c gi (c gi (c gi (c gi (c gi (c gi (c gi (c gi (c gi (c gi (c gi abz))))))))))
def vd:=so aQW
def aQY:=c gK (c gK axs)
def aYi:=cl (ga (pu Lx mN)) nil
def aQZ:=aa (c gi wP)
def aQ0:=cl (ga (pr gT jJ)) nil
def aKw:=cl aQW nil
def aYj:=so (c gb (c gb (c gb (c gb (c gb (c gb (c gb (c gb (cu (gc (cf (fi .i64 (int 1125899906842624)))) akB)))))))))
def aYk:=c aJY (c gK (c gK (c gK (cl (gl 25 oC) nil))))
def aYl:=sf (c (ra axw) aTg)
def akL:=so aQ0
def axx:=c gO (cl gO nil)
def aEc:=res (pr aX7 (pl m4 nil))
def aQ1:=cl aQ0 nil
def SN:=so aYk
def aQ2:=afn (pu (nat 183) (cu (rc (cp 2 1)) (cu (rc (cp 3 3)) (cu (rc (cp 4 1)) (cu (rc (cp 5 3)) (cu (rc (cp 6 4)) nil))))))
def asy:=c gi (c gi (cl (gc (fO (pu aDQ (pu (ox (pu db (pu db NR))) (pl gT (pu NR fR)))))) nil))
def aYm:=c gi (c gi (cl (gc (fO (pu (nat 38) (pu (ox (pu db (pu db NR))) (pl gT (pu NR fR)))))) nil))
def aQ3:=c gi (c gi (cl (gc (fO (pu (nat 39) (pu (ox (pu db (pu db NR))) (pl gT (pu NR fR)))))) nil))
def aQ4:=c gi (c gi (cl (gc (fO (pu (nat 40) (pu (ox (pu db (pu db NR))) (pl gT (pu NR fR)))))) nil))
def aYn:=res (pu (sf (cu (rc (cp 0 5)) akE)) (pu nil (cl gN nil)))
def aQ5:=cl (An aQ0) nil
def HU:=cl akL nil
def aEd:=c gi (c gi (c gi (c gi aQS)))
def aYo:=cl (cl (ga (pu Lx jJ)) nil) nil
def afP:=so (c gi (c gi (cl (gc (fO (pu (nat 29) (pu (ox (pu db (pu db NR))) (pl gT (pu NR fR)))))) nil)))
def axy:=so (c gi (c gi (cl (gc (fO (pu (nat 28) (pu (ox (pu db (pu db NR))) (pl gT (pu NR fR)))))) nil)))
def aEe:=so (c gi (c gi (cl (gc (fO (pu (nat 41) (pu (ox (pu db (pu db NR))) (pl gT (pu NR fR)))))) nil)))
def akM:=so (cu aP asw)
def aYp:=cu lM (xs 5 (cu lM aX3))
def aYq:=cu fN (cu fN aQ5)
def akN:=cu (so asw) (cl Ao nil)
def axz:=cu fN (cu fN (cu fN (cu fN (cu fN (cu fN (cu fN (cu fN (cu fN (cu fN (cu fN aKl))))))))))
def aEf:=cu Vb (cu Vb (cu Vb (cu Vb (cu Vb (cu Vb (cu Vb (cu Vb (cu Vb (cu Vb (cu Vb (cu Vb aXL)))))))))))
def aQ6:=c gi (c gi (c gi (a 10 wP (cl (gc (A4 20 10)) nil))))
def aYr:=c gD (c gD (c gD (c gD (c gD (c gD (c gD (c gD (c gD jJ))))))))
def aEg:=so (c gi (c gi (c gi (c gi aEd))))
def aQ7:=a 5 gN (c gi (c (gc aQV) ku))
def asz:=a 5 gN (c gi (c (gc (fO (pu aIx (pu (ox (pu db (pu db eI))) (pl gT (pu eI fR)))))) ku))
def aYs:=a 5 gN (c gi (c (gc (fO (pu (nat 23) (pu (ox (pu db (pu db eI))) (pl gT (pu eI fR)))))) ku))
def aYt:=a 5 gN (c gi (c (gc (fO (pu (nat 24) (pu (ox (pu db (pu db eI))) (pl gT (pu eI fR)))))) ku))
def aYu:=a 5 gN (c gi (c (gc (fO (pu (nat 25) (pu (ox (pu db (pu db eI))) (pl gT (pu eI fR)))))) ku))
def aYv:=a 5 gN (c gi (c (gc (fO (pu (nat 26) (pu (ox (pu db (pu db eI))) (pl gT (pu eI fR)))))) ku))
def aYw:=a 5 gN (c gi (c (gc (fO (pu (nat 32) (pu (ox (pu db (pu db eI))) (pl gT (pu eI fR)))))) ku))
def aEh:=a 5 gN (c gi (c (gc (fO (pu (nat 33) (pu (ox (pu db (pu db eI))) (pl gT (pu eI fR)))))) ku))
def aKx:=a 5 gN (c gi (c (gc (fO (pu (nat 34) (pu (ox (pu db (pu db eI))) (pl gT (pu eI fR)))))) ku))
def aKy:=a 5 gN (c gi (c (gc (fO (pu (nat 35) (pu (ox (pu db (pu db eI))) (pl gT (pu eI fR)))))) ku))
def aKz:=a 5 gN (c gi (c (gc (fO (pu (nat 36) (pu (ox (pu db (pu db eI))) (pl gT (pu eI fR)))))) ku))
def aKA:=a 5 gN (c gi (c (gc (fO (pu (nat 37) (pu (ox (pu db (pu db eI))) (pl gT (pu eI fR)))))) ku))
def aQ8:=a 5 gN (c gi (c (gc (fO (pu (nat 38) (pu (ox (pu db (pu db eI))) (pl gT (pu eI fR)))))) ku))
def aYx:=a 5 gN (c gi (c (gc (fO (pu (nat 39) (pu (ox (pu db (pu db eI))) (pl gT (pu eI fR)))))) ku))
def J7:=so aYs
def J8:=so aYt
def J9:=so aYu
def J':=so aYv
def Ka:=so (a 5 gN (c gi (c (gc (fO (pu (nat 27) (pu (ox (pu db (pu db eI))) (pl gT (pu eI fR)))))) ku)))
def afQ:=so (a 5 gN (c gi (c (gc (fO (pu (nat 28) (pu (ox (pu db (pu db eI))) (pl gT (pu eI fR)))))) ku)))
def aEi:=so aKx
def abG:=so aKy
def abH:=so aKz
def abI:=so aKA
def afR:=so aQ8
def asA:=so aYx
def aEj:=so (a 5 gN (c gi (c (gc (fO (pu (nat 40) (pu (ox (pu db (pu db eI))) (pl gT (pu eI fR)))))) ku)))
def axA:=so (a 5 gN (c gi (c (gc (fO (pu aMY (pu (ox (pu db (pu db eI))) (pl gT (pu eI fR)))))) ku)))
def axB:=so (a 5 gN (c gi (c (gc (fO (pu aMZ (pu (ox (pu db (pu db eI))) (pl gT (pu eI fR)))))) ku)))
def axC:=so (a 5 gN (c gi (c (gc (fO (pu aM0 (pu (ox (pu db (pu db eI))) (pl gT (pu eI fR)))))) ku)))
def axD:=so (a 5 gN (c gi (c (gc (fO (pu aIw (pu (ox (pu db (pu db eI))) (pl gT (pu eI fR)))))) ku)))
def aEk:=c gD (c gD (c gD (c gD aYr)))
def aYy:=cu aP (cu aP (cu aP asw))
def abJ:=ac (cfs (pr hole (pu aDQ aYr)))
def aYz:=c gO (c gO (c m5 FB))
def aYA:=cu vU (cu vU (cu vU (cu aKh (c ai (c ai (cl ai (cu vU (cu aKh nil))))))))
def aYB:=xs 3 (us 2 (xs 3 (us 2 (xs 3 (us 2 (xs 3 (us 2 (xs 3 (us 2 (xs 3 (us 2 (xs 3 (us 2 (xs 3 (us 2 (xs 3 (us 2 (xs 3 (us 2 aQB)))))))))))))))))))
def V9:=cu rq6 (cu (nat 5) (cu rq8 (cu (nat 7) (cu Bi (cu eI (cu aIw (cu aM0 (cu aMZ (cu aMY (cu apW (cu azx (cu aup (cu NR (cu db (cu (nat 10) nil)))))))))))))))
def aKB:=c gD (c gD (c gD aEk))
def aYC:=so (cl (ga (pr gT aEk)) nil)
def aYD:=so (c gi (c gi (c gi (cl gi aYy))))
def aYE:=cu fN (cu fN (cu fN (cu fN (cu fN (cu fN (cu fN (cu fN (cu fN (cl aD9 (cu fN aKl))))))))))
def aQ9:=cu fN (cu fN (cu fN (cu fN (cu fN (cu fN (cu fN (cu fN (cu fN (cl aD9 aXV)))))))))
def aRa:=cu fN aYE
def aEl:=cu db (cu rq6 (cu (nat 5) (cu rq8 (cu (nat 7) (cu Bi (cu eI (cu aIw (cu aM0 (cu aMZ (cu aMY (cu apW (cu azx (cu aup (cu (nat 12) (cu rq7 (cu NR (cu rq4 (cu (nat 10) nil))))))))))))))))))
def aKC:=cu aP (cu aP aYy)
def rn:=c gi (c gi (c gi (c gi (a 6 aD4 (a 6 aD4 aQY)))))
def aYF:=res (pu Q8 (pl aRa nil))
def aYG:=res (pu (ac (fO (pu DG (pu wO (pu (szl rq7) (pu (nat 27) fR)))))) (pr m4 (cl (c gK (c gi (c gi (c gi aQT)))) nil)))
def afS:=cu db (cu DG (cu rq4 (cu rq7 (cu rq6 (cu (nat 5) (cu rq8 (cu (nat 7) (cu Bi (cu eI (cu (nat 10) (cu NR (cu (nat 12) (cu aup (cu azx (cu apW (cu aMY (cu aMZ (cu aM0 (cu aIw (cu aDQ nil))))))))))))))))))))
def aYH:=cu aP (cu aP (cu aP (cu aP (cu aP (cl gi (cu (gc (fO (pu azx (pu wO (pu Lx (pu eI fR)))))) akF))))))
def aYI:=cu aP (cu aP (cu aP (cu aP (cu aP (cl gi (cu (gc (fO (pu apW (pu wO (pu Lx (pu eI fR)))))) akF))))))
def aYJ:=cu aP (cu aP (cu aP (cu aP (cu aP (cl gi (cu (gc (fO (pu aMY (pu wO (pu Lx (pu eI fR)))))) akF))))))
def aYK:=cu aP (cu aP (cu aP (cu aP (cu aP (cl gi (cu (gc (fO (pu aMZ (pu wO (pu Lx (pu eI fR)))))) akF))))))
def aYL:=cu aP (cu aP (cu aP (cu aP (cu aP (cl gi (cu (gc (fO (pu aM0 (pu wO (pu Lx (pu eI fR)))))) akF))))))
def aRb:=cl gi (cu aP (cu aP (cu aP (cu aP (cu aP (cu aP aX9))))))
def aYM:=so (cu aP (cu aP aKC))
def aRc:=au 6 akJ (cu auq (a 4 yb (cu aur (c gb (c gi (a 3 kv (c gb (c gb (c gb (c gi (c gi (c gi (a 10 wP (cl (gc (fO (pu aIx (pu (ox (pu db (pu db (nat 10)))) (pl gT (pu (nat 10) fR)))))) nil))))))))))))))
def aYN:=au 6 (cu (gp 23 8) (cu (gp 24 8) (cu (gp 25 8) (cu aTd (cu aTe (cu aTf nil)))))) (cu (gp 29 37) (a 4 yb (cu (gp 30 3) (c gb (c gi (a 3 kv (c gb (c gb (c gb (c gi (c gi (c gi (a 10 wP (cl (gc (fO (pu (nat 31) (pu (ox (pu db (pu db (nat 10)))) (pl gT (pu (nat 10) fR)))))) nil))))))))))))))
def aYO:=au 6 (cu (gp 24 8) (cu (gp 25 8) (cu aTd (cu aTe (cu aTf (cu (gp 29 8) nil)))))) (cu (gp 30 37) (a 4 yb (cu (gp 31 3) (c gb (c gi (a 3 kv (c gb (c gb (c gb (c gi (c gi (c gi (a 10 wP (cl (gc (fO (pu (nat 32) (pu (ox (pu db (pu db (nat 10)))) (pl gT (pu (nat 10) fR)))))) nil))))))))))))))
def aRd:=cu (gc (cf (fi .i64 (int 8000)))) (cu (gc (cf (fi .i64 (int 40000)))) (cu (gc (cf (fi .i64 (int 16)))) (cu (gc aXa) (c gi (c gi (c gi (c gi (c gi (c gi (c gi (c gi (c gi (c gi (c gi (c gi (c gK (cl gK (cu (gc (cf (fi .i64 (int 5000000)))) (cu (gc (cf (fi .i64 (int 68719476736)))) (cu (gc axl) (cu (gc (cf (fi .i64 (int 268435456)))) (cu (gc (cf (fi .i64 (int 32)))) asw))))))))))))))))))))))
def aYP:=st (pr (us 4 (cu aM6 (cu aDT (us 8 (cu (app 5 3) (cu (app 6 3) (cu (app 7 4) (cu (app 8 4) aW3)))))))) (pl (c (so afM) (c bD (c akL (cu axo (cu aby (c Ao (c Ao (c yc (cl yc nil))))))))) aD0))
def asD:=a 26 rn (c gb (c gK (a 2 sU (cu (gp 2 5) (cu (gp 3 10) (c (gc (A4 4 8)) (au 6 aEb (cu aIH (a 4 yb (cu (gp 12 3) (c gb (c gi (a 3 kv (c gb (c gb (c gb (c gi (c gi (c gi (a 10 wP (cl (gc (A4 13 10)) nil)))))))))))))))))))))
def wQ:=a 26 rn (c gb (c gK (a 2 sU (cu akz (cu akA (c aJW (au 6 akJ (cu auq (a 4 yb (cu aur (c gb (c gi (a 3 kv (c gb (c gb (c gb (c gi (c gi (c gi (a 10 wP (cl (gc (A4 12 10)) nil)))))))))))))))))))))
def aYQ:=An (a 26 rn (c gb (c gK (a 2 sU (cu akz (cu akA (c aJW (au 6 akJ (cu auq (a 4 yb (cu aur (c gb (c gi (a 3 kv (c gb (c gb (c gb aQ6)))))))))))))))))
def aKD:=c aQW (c abF (c abF (c abF (c abF (c abF (c abF aQ1))))))
def aYR:=c aYi (c asx (c asx (c asx (c asx (c asx (c asx aYo))))))
def Bj:=c vd (c HT (c HT (c HT (c HT (c HT (c HT HU))))))
def aYS:=a 26 rn (c gb (c gK (a 2 sU (cu (gp 20 5) (cu (gp 21 10) (c (gc (fO (pu aIx (pr Oi (pl gT (pu Bi fR)))))) aYN))))))
def aRe:=a 26 rn (c gb (c gK (a 2 sU (cu (gp 21 5) (cu (gp 22 10) (c (gc (fO (pu (nat 23) (pr Oi (pl gT (pu Bi fR)))))) aYO))))))
def aRf:=a 26 rn (c gb (c gK (a 2 sU (cu (gp 22 5) (cu (gp 23 10) (c (gc (fO (pu (nat 24) (pr Oi (pl gT (pu Bi fR)))))) (au 6 (cu (gp 25 8) (cu aTd (cu aTe (cu aTf (cu (gp 29 8) (cu (gp 30 8) nil)))))) (cu (gp 31 37) (a 4 yb (cu (gp 32 3) (c gb (c gi (a 3 kv (c gb (c gb (c gb (c gi (c gi (c gi (a 10 wP (cl (gc (fO (pu (nat 33) (pu (ox (pu db (pu db (nat 10)))) (pl gT (pu (nat 10) fR)))))) nil)))))))))))))))))))))
def aRg:=so (a 26 rn (c gb (c gK (a 2 sU (cu akz (cu akA (c (gc aKs) aRc)))))))
def aEm:=so (a 26 rn (c gb (c gK (a 2 sU (cu (gp 23 5) (cu (gp 24 10) (c (gc (fO (pu (nat 25) (pr Oi (pl gT (pu Bi fR)))))) (au 6 (cu aTd (cu aTe (cu aTf (cu (gp 29 8) (cu (gp 30 8) (cu (gp 31 8) nil)))))) (cu (gp 32 37) (a 4 yb (cu (gp 33 3) (c gb (c gi (a 3 kv (c gb (c gb (c gb (c gi (c gi (c gi (a 10 wP (cl (gc (fO (pu (nat 34) (pu (ox (pu db (pu db (nat 10)))) (pl gT (pu (nat 10) fR)))))) nil))))))))))))))))))))))
def aEn:=so (a 26 rn (c gb (c gK (a 2 sU (cu akz (cu akA (c aKu aRc)))))))
def axE:=so (a 26 rn (c gb (c gK (a 2 sU (cu akz (cu akA (c aKu (au 6 akJ (cu auq (a 4 yb (cu aur (c gb (c gi (a 3 kv (c gb (c gb (c gb (c gi (c gi (c gi (a 10 wP (cl (gc (fO (pu aDR (pu (ox (pu db (pu db (nat 10)))) (pl gT (pu (nat 10) fR)))))) nil))))))))))))))))))))))
def aRh:=a 26 rn (c gb (c gK (a 2 sU (cu akz (cu akA (c aKu (au 6 akJ (cu auq (a 4 yb (cu aur (cu axn (c gi (a 3 kv (cu axn (c gb (c gb (c gi (c gi (c gi (a 10 wP (cl (gc (fO (pu (nat 12) (pu (ox (pu db (pu db (nat 10)))) (pl gT (pu (nat 10) fR)))))) nil)))))))))))))))))))))
def asE:=res (pu Q8 (pl (c (An wQ) aYE) nil))
def aYT:=res (pu Q8 (pr (cl aYQ (cu fN (cu fN (cu fN (cu fN (cu fN (cu fN (cu fN (cu fN (cu fN (cu fN aXV))))))))))) aKw))
def aYU:=c m6 (c oG (c aKr (c aYw (c aEh (c aKx (c aKy (c aKz (c aKA (c nK (c aYm aKD))))))))))
def aYV:=c m6 (c oG (c aKr (c aEh (c aKx (c aKy (c aKz (c aKA (c aQ8 (c nK (c aQ3 aKD))))))))))
def aRi:=st (pr (cu jq (us 2 (cu ZJ (cu Oj (us 178 (cu jq (cu jq (cu aXF aWZ)))))))) (pl (c axE (c m7 (c m8 (c oF (c (so asz) (c J7 (c J8 (c J9 (c J' (c Ka (c lO (c axy (c vd (cu nO (cu nO (cu nO (cu nO (cu nO (cu nO (cu nO (c FD Bj))))))))))))))))))))) V9))
def aRj:=st (pr (cu jq (us 2 (cu ZJ (cu Oj (us 178 (cu jq (cu jq (cu aXF (c ab (cu jq (cu jq (cu (ac (Ly (pu db (pu (ok' (nat 411)) DG)))) (cu (app 11 3) (cu Oj (cu jq (cu jq (cu (ac (Ly (pu db (pu (ok' (nat 73)) (nat 24))))) (c lk (cu (app 20 1) Cw))))))))))))))))))) (pl (c axE (c m7 (c m8 (c oF (c (so asz) (c J7 (c J8 (c J9 (c J' (c Ka (c lO (c axy (c vd (cu nO (cu nO (cu nO (cu nO (cu nO (cu nO (cu nO (c FD Bj))))))))))))))))))))) V9))
end
open Go.Ab
abbrev TP:=Tryz.prog
abbrev D0 {β δ:Type}(l:List Ct)(n:Nat)(Q:RA β)(R:δ->T)(B:β->Pg δ):Prop:=akO TP l ⟨[],[],[],[],none⟩ 2000 n Q R B
abbrev D1 {β δ:Type}(l:List Ct)(d0:List Nat)(n:Nat)(Q:RA β)(R:δ->T)(B:β->Pg δ):Prop:=akO TP l ⟨[],[],d0,[],none⟩ 2000 n Q R B
abbrev D2 {β δ:Type}(k:KK)(Q:RA β)(R:δ->T)(B:β->Pg δ):Prop:=akO TP k.l k.hs 2000 k.n Q R B
abbrev LI {D X:Type}(k:KK)(id:Nat)(Q:RS D)(E:∀{ρ:Type},X->(AX->St->Option ρ)->Option ρ)(S:D->Pg (D⊕X)):Prop:=aTh TP k.l k.hs k.kk 2000 k.n id Q E S
abbrev JI {D X:Type}(k:KK)(id:Nat)(Q:RS D)(E:∀{ρ:Type},X->(AX->St->Option ρ)->Option ρ)(S:D->Pg X):Prop:=aTi TP k.l k.hs k.kk 2000 k.n id Q E S
section
variable [aA]
abbrev SC (e:Ct):Prop:=Snd TP e
theorem sc {e:Ct}{n:Nat}{F:FE}(S:Sound TP n F)(h:e=(n,F):=by kernel_rfl):SC e:=Snd.of S h
theorem k0 {β δ:Type}{l:List Ct}{d0:List Nat}{n:Nat}{Q:RA β}{R:δ->T}{B:β->Pg δ}(hl:Kb TP l)(h:akO TP l ⟨[],[],d0,[],none⟩ 2000 n Q R B)(hc:GK TP n=true:=by kernel_rfl):Sound TP n (FC Q R λb=>(B b).val):=mk0 mixed hl hc h
theorem s0 {β δ:Type}{e:Ct}{l:List Ct}{d0:List Nat}{n:Nat}{Q:RA β}{R:δ->T}{B:β->Pg δ}(hl:Kb TP l)(h:akO TP l ⟨[],[],d0,[],none⟩ 2000 n Q R B)(he:e=(n,FC Q R λb=>(B b).val):=by kernel_rfl)(hc:GK TP n=true:=by kernel_rfl):SC e:=Snd.of (mk0 mixed hl hc h) he
theorem kS {β δ:Type}{k:KK}{Q:RA β}{R:δ->T}{B:β->Pg δ}(hl:Kb TP k.l)(i j:List Nat)
  (h1:B9 (λa=>∀kk,Ol TP (FF k.l) k.hs (tmpsOf TP k.n) kk 2000 a) (i.map (ZK TP k.n)))
  (h2:B9 (λb=>∀kk,aut TP (FF k.l) k.hs (tmpsOf TP k.n) kk 2000 b) (j.map (afT TP k.n)))
  (h:D2 k Q R B)(e1:LA (ZL TP k.n)=i.map (ZK TP k.n):=by kernel_rfl)(e2:LB k.hs (ZL TP k.n)=j.map (afT TP k.n):=by kernel_rfl)(hc:GK TP k.n=true:=by kernel_rfl):
  Sound TP k.n (FC Q R λb=>(B b).val):=mkS mixed hl hc (LC.by e1 h1 e2 h2) h
theorem kL {D X:Type}{k:KK}{id:Nat}{Q:RS D}{E:∀{ρ:Type},X->(AX->St->Option ρ)->Option ρ}{S:D->Pg (D⊕X)}(h:LI k id Q E S)
  (h0:ap2 k.hs (ZK TP k.n id)=some (fU id k.kk Q E (bG S 2000)):=by kernel_rfl):∀k',Ol TP (FF k.l) k.hs (tmpsOf TP k.n) k' 2000 (ZK TP k.n id):=mkL h0 h
theorem kJ {D X:Type}{k:KK}{id:Nat}{Q:RS D}{E:∀{ρ:Type},X->(AX->St->Option ρ)->Option ρ}{S:D->Pg X}(hd:Hd)(h:JI k id Q E S)
  (h0:azC k.hs (afT TP k.n id)=some ⟨hd,fU id k.kk Q E λd=>(S d).val⟩:=by kernel_rfl):∀k',aut TP (FF k.l) k.hs (tmpsOf TP k.n) k' 2000 (afT TP k.n id):=mkJ h0 h
theorem kN {k:KK}{c:Code}(h:ap2 k.hs c=none:=by kernel_rfl):∀k',Ol TP (FF k.l) k.hs (tmpsOf TP k.n) k' 2000 c:=Ol.no h
end
end Go.Proofs.YtldgljclcgaibaaGreat
namespace Go.Ab
variable [aA]
omit [aA] in
theorem az1:∀{h:List aj} {cs:List Ch} {j:Nat},cs[j]? =some .kill->(((after h cs)[j]?).getD none)=none
 | [],cs,j,_=>by simp[after]
 |b0::bs,[],j,h=>by simp at h
 |b0::bs,c::cs,0,h=>by
  simp only[aEo,iv] at h;subst h;simp[after]
 |b0::bs,c::cs,j+1,h=>by
  have:=az1 (h:=bs) (cs:=cs) (j:=j) (by simpa using h);cases c<;>simpa[after] using this
theorem ax9 {P:Program}{π:Pi}{w w':World}{h:List aj}{cs:List Ch}{k:aj}{val:AV}{v:Value}{B s e:Nat}(hH:sV π (hC (h.map some)) (hZ (h.map some)) w)(kr:∀b,π b≠none->b<h.length)
  (Ki:∀b,b<h.length->cs[b]? =some .mW∨cs[b]? =some .kill)(hfr:cy w (DH π h.length (S3 cs)) w')(hle:s+aj.size k<=e)(qE:∀i,s<=i->i<e->(cl w' B i).isSome=true/\fz w' B i=false)
  (hk:∀j,j<aj.size k->∃v,cl w' B (s+j)=some v/\(aj.get k j).rel π v)
  (hpl:(w.heap.size<=B)∨∃b s0 q0 e0,b<h.length/\cs[b]? =some .kill/\π b=some (B,s0,q0,e0)/\s0<=s/\e<=e0)
  (ham:Bn w')(hlb:s<e->aA.h0<=B)(hv:∀π':Pi,Ext π π'->π' h.length=some (B,s,aj.size k,e)->val.rel π' v):
  aJa P π w h ⟨val,cs,[k]⟩ (.returned v) w':=by
 have h0:π h.length=none:=by
  cases hh:π h.length with
  |none=>rfl
  |some p=>exact absurd (kr _ (by rw[hh];simp)) (Nat.lt_irrefl _)
 have hx:=Bo h0 (B,s,aj.size k,e);have aya:=qw π h.length (B,s,aj.size k,e);have agt:∀b,b≠h.length->A5 π h.length (B,s,aj.size k,e) b=π b:=λb hb=>by simp only[A5,if_neg hb]
 have a3z:(pP.heap ⟨val,cs,[k]⟩ h)[h.length]? =some (some k):=abU (r:=⟨val,cs,[k]⟩) (h:=h) (k:=0) rfl;have hlen:(pP.heap ⟨val,cs,[k]⟩ h).length=h.length+1:=by simp[pP.heap,nL]
 have live:∀b,hZ (pP.heap ⟨val,cs,[k]⟩ h) b≠none->b=h.length∨(b<h.length/\cs[b]? =some .mW/\∃kb,h[b]? =some kb/\(pP.heap ⟨val,cs,[k]⟩ h)[b]? =some (some kb)):=λb hb=>by
  rcases afV b h.length with od|heq|hgt
  .right
   rcases Ki b od with hc|hc
   .have hkb:h[b]? =some (h[b]'od):=kT _;exact⟨od,hc,_,hkb,(Eg od).trans (agp.2 hc _ hkb)⟩
   .exfalso;apply hb
    unfold hZ;rw[Eg od,az1 hc];rfl
  .exact .inl heq
  .exfalso;apply hb
   unfold hZ;rw[Kc (by omega)];rfl
 have kept:∀b kb,b<h.length->cs[b]? =some .mW->h[b]? =some kb->∃Bb sb eb,π b=some (Bb,sb,aj.size kb,eb)/\sb+aj.size kb<=eb/\
   (∀i,sb<=i->i<eb->(cl w' Bb i).isSome=true/\fz w' Bb i=false)/\(∀j,j<aj.size kb->∃v,cl w' Bb (sb+j)=some v/\(aj.get kb j).rel π v)/\∀i,sb<=i->i<eb->Bb<w.heap.size/\¬DH π h.length (S3 cs) Bb i:=λb kb od hc hkb=>by
  have hzb:hZ (h.map some) b=some (aj.size kb):=by rw[Qk,hkb];rfl
  obtain⟨Bb,sb,eb,p1,p2,p3,p4⟩:=hH.hp b _ hzb
  have hnf:∀i,sb<=i->i<eb->Bb<w.heap.size/\¬DH π h.length (S3 cs) Bb i:=λi i1 i2=>by
   refine⟨abT (p3 i i1 i2).1,?_⟩;rintro ⟨b2,s2,q2,e2,FI,hd2,hp2,j1,j2⟩
   have mX:b≠b2:=λe=>by subst e;exact hd2 hc
   have hz2:hZ (h.map some) b2≠none:=by
    rw[Qk,kT FI];simp
   exact hH.dj b b2 Bb sb _ eb s2 q2 e2 mX (by rw[hzb];simp) hz2 p1 hp2 i i1 i2 j1 j2
  refine⟨Bb,sb,eb,p1,p2,λi i1 i2=> ?_,λj hj=> ?_,hnf⟩
  .obtain⟨hB,hn⟩:=hnf i i1 i2;rw[hfr.cl hB hn,hfr.fz hB];exact p3 i i1 i2
  .obtain⟨v,hv1,hv2⟩:=p4 j hj;obtain⟨hB,hn⟩:=hnf (sb+j) (by omega) (by omega);refine⟨v,by rw[hfr.cl hB hn];exact hv1,?_⟩;rw[aDB hkb hj] at hv2;exact hv2
 have apart:∀b kb Bb sb qb eb,b<h.length->cs[b]? =some .mW->h[b]? =some kb->π b=some (Bb,sb,qb,eb)->Bb=B->∀i,sb<=i->i<eb->s<=i->i<e->False:=λb kb Bb sb qb eb od hc hkb hpb hBB i i1 i2 i3 i4=>by
  obtain⟨B1,s1,e1,q1,_,_,_,q5⟩:=kept b kb od hc hkb;rw[hpb] at q1;cases q1;obtain⟨hB,hn⟩:=q5 i i1 i2;rcases hpl with hpl| ⟨b2,s2,q2,e2,FI,hc2,hp2,j1,j2⟩
  .omega
  .apply hn
   rw[hBB];exact⟨b2,s2,q2,e2,FI,by unfold S3;rw[hc2];simp,hp2,by omega,by omega⟩
 refine⟨A5 π h.length (B,s,aj.size k,e),v,rfl,hx,hv _ hx aya,⟨ham,λb B1 s1 q1 e1 hz hp B7=> ?_,λb n hz=> ?_,λb b' B1 s1 q1 e1 s2 q2 e2 mX hz uJ hp vf i i1 i2 i3 i4=> ?_⟩,hfr,λb hb=> ?_,λb B1 s1 q1 e1 a6g hb hB i i1 i2=> ?_⟩
 .rcases live b hz with rfl| ⟨od,hc,kb,hkb,_⟩
  .rw[aya] at hp;cases hp;exact hlb B7
  .rw[agt b (by omega)] at hp;exact hH.lb b B1 s1 q1 e1 (by rw[Qk,hkb];simp) hp B7
 .rcases live b (by rw[hz];simp) with rfl| ⟨od,hc,kb,hkb,hgb⟩
  .rw[Z1 a3z] at hz;cases hz;refine⟨B,s,e,aya,hle,qE,λj hj=> ?_⟩;obtain⟨v,hv1,hv2⟩:=hk j hj;refine⟨v,hv1,?_⟩;rw[agq a3z hj];exact CV.dH hx _ _ hv2
  .rw[Z1 hgb] at hz;cases hz;obtain⟨Bb,sb,eb,p1,p2,p3,p4,_⟩:=kept b kb od hc hkb;refine⟨Bb,sb,eb,by rw[agt b (by omega)];exact p1,p2,p3,λj hj=> ?_⟩;obtain⟨v,hv1,hv2⟩:=p4 j hj;refine⟨v,hv1,?_⟩;rw[agq hgb hj];exact CV.dH hx _ _ hv2
 .rcases live b hz with rfl| ⟨od,hc,kb,hkb,_⟩
  .rcases live b' uJ with rfl| ⟨a3A,hc',kb',aZR,_⟩
   .exact mX rfl
   .rw[aya] at hp;cases hp;rw[agt b' (by omega)] at vf;exact apart b' kb' _ _ _ _ a3A hc' aZR vf rfl i i3 i4 i1 i2
  .rw[agt b (by omega)] at hp;rcases live b' uJ with rfl| ⟨a3A,hc',kb',aZR,_⟩
   .rw[aya] at vf;cases vf;exact apart b kb _ _ _ _ od hc hkb hp rfl i i1 i2 i3 i4
   .rw[agt b' (by omega)] at vf;have hz1:hZ (h.map some) b≠none:=by rw[Qk,hkb];simp
    have hz2:hZ (h.map some) b'≠none:=by rw[Qk,aZR];simp
    exact hH.dj b b' B1 s1 q1 e1 s2 q2 e2 mX hz1 hz2 hp vf i i1 i2 i3 i4
 .show b<h.length+1;by_cases e:b=h.length
  .omega
  .rw[agt b e] at hb;have:=kr b hb;omega
 .by_cases e':b=h.length
  .subst e';rw[aya] at hb;cases hb;rcases hpl with hpl| ⟨b2,s2,q2,e2,FI,hc2,hp2,j1,j2⟩
   .omega
   .exact⟨b2,s2,q2,e2,FI,by unfold S3;rw[hc2];simp,hp2,by omega,by omega⟩
  .rw[agt b e'] at hb;have:=kr b (by rw[hb];simp);omega
end Go.Ab
