/-
  Parts of the proof: AbW AbY AbZ AbNil AbPg AbLaw AbInv PI Tot TPw Bits VBits Bits4 PK SLA
-/
import Derived.Test.YtldgljclcgaibaaGreatZAD
import Derived.Deep.Slices
import Derived.Laws.Externs
import Derived.Test.YtldgljclcgaibaaGreatRows
open Nat renaming beq→z9,ble→wl
open Int renaming ofNat→wr
open Sum renaming elim→t9
set_option linter.unusedVariables false
set_option linter.unusedSimpArgs false
namespace Go.Ab
variable [aA]
open Go.ChangeShapes Go.WideShapes Go.Deep
inductive K where
 |b
 |i (k:IntKind)
 |s
 |u
 |q
def K.has:K->FV->Prop
 |.b,.b _=>True
 |.i k,.i k' n=>k'=k/\k.has n
 |.s,.s _=>True
 |.u,.u=>True
 |.q,.q n _=>n<=maxLen
 |_,_=>False
def K.nR:K->Nat->cS->Prop
 |.b,_,.b _=>True
 |.i k,n,.i k' g=>k'=k/\∀j,j<n->k.has (g j)
 |.s,_,.s _=>True
 |.u,_,.u=>True
 |.q,n,.q g _=>∀j,j<n->g j<=maxLen
 |_,_,_=>False
def Uy {α:Type}:Nat->List α->List α
 |0,_=>[]
 |n+1,l=>l++Uy n l
def alo (P:Program)(g:TypeId->Option (List K)):List Field->List K->Option (List K)
 | [],acc=>some acc
 |f::fs,acc=>match g f.type with
  |some ks=>match z9 f.offset acc.length&&z9 (P.cellsOf f.type) ks.length with
   |true=>alo P g fs (acc++ks)
   |false=>none
  |none=>none
def L0 (P:Program):Nat->TypeId->Option (List K)
 |0,_=>none
 |d+1,t=>match P.underlying t with
  |some .bool=>some [.b]
  |some (.int k)=>some [.i k]
  |some .string=>some [.s]
  |some (.struct fs)=>match alo P (L0 P d) fs.toList [] with
   |some ks=>match z9 (P.cellsOf t) ks.length with
    |true=>some ks
    |false=>none
   |none=>none
  |some (.array n e)=>match L0 P d e with
   |some ks=>match z9 (P.cellsOf e) ks.length&&z9 (P.cellsOf t) (n*ks.length) with
    |true=>some (Uy n ks)
    |false=>none
   |none=>none
  |some (.slice e)=>match P.underlying e with
   |some .bool=>match z9 (P.cellsOf e) 1 with
    |true=>some [.q]
    |false=>some [.u]
   |_=>some [.u]
  |_=>none
section
variable {H:Type} {enc:TypeId×Value->H} {P:Program} {W:World} {base:Nat} {spare:Nat->Bool} {held:Bool}
theorem auQ {ks ks':List K}{cs SV:List Value}(h:∃fs,bu K.has ks fs/\bu FV.rel fs cs)(h':∃fs,bu K.has ks' fs/\bu FV.rel fs SV):∃fs,bu K.has (ks++ks') fs/\bu FV.rel fs (cs++SV):=by
 obtain⟨fs,a,b⟩:=h;obtain⟨fs',a',b'⟩:=h';exact⟨fs++fs',a.append a',b.append b'⟩
theorem aqg {d:Nat}(ih:∀{t:TypeId} {ks:List K} {fuel:Nat} {cs:List Value} {x:DataW H×List MemPlace},L0 P d t=some ks->DataW.trod enc P W base spare held fuel t cs=some x->∃fs,bu K.has ks fs/\bu FV.rel fs cs){n:Nat}{cs:List Value}:
  ∀{l:List Field} {acc ks:List K},alo P (L0 P d) l acc=some ks->(∀f∈l,∃y,DataW.trod enc P W base spare held n f.type ((cs.drop f.offset).take (P.cellsOf f.type))=some y)->acc.length<=cs.length->
   (∃fs,bu K.has acc fs/\bu FV.rel fs (cs.take acc.length))->ks.length<=cs.length/\∃fs,bu K.has ks fs/\bu FV.rel fs (cs.take ks.length)
 | [],acc,ks,h,_,hl,ha=>by
  simp only[alo] at h;cases h;exact⟨hl,ha⟩
 |f::l,acc,ks,h,hf,hl,ha=>by
  simp only[alo] at h;split at h
  .rename_i kf hk
   split at h
   .rename_i hc
    simp only[cK] at hc;have e1:=lB hc.1;have e2:=lB hc.2;obtain⟨y,hy⟩:=hf f (by simp);obtain⟨fs,f1,f2⟩:=ih hk hy
    have hlen:kf.length=min (P.cellsOf f.type) (cs.length-f.offset):=by
     have h1:=f1.length;have h2:=f2.length;simp at h2
     omega
    have hle:acc.length+kf.length<=cs.length:=by omega
    refine aqg ih h (λf' hf'=>hf f' (by simp[hf'])) (by simp;omega) ?_;have:=auQ ha ⟨fs,f1,f2⟩;rw[axG,List.take_add];rw[e1,e2] at this;exact this
   .cases h
  .cases h
omit [aA] in
theorem Vg {α:Type}(l:List α):∀n,(Uy n l).length=n*l.length
 |0=>by simp[Uy]
 |n+1=>by simp[Uy,Vg l n,asM,Nat.add_comm]
omit [aA] in
theorem aiA {α:Type}(l:List α):∀n,Uy (n+1) l=Uy n l++l
 |0=>by simp[Uy]
 |n+1=>by
  have h:=aiA l n;show l++Uy (n+1) l=Uy (n+1) l++l;rw[h,<-axH,<-h];rfl
theorem L3 (hA:∀B i v,cl W B i=some v->aA.fs B i=some v)(hsp:∀b,spare b=true):∀{d:Nat} {t:TypeId} {ks:List K} {fuel:Nat} {cs:List Value} {x:DataW H×List MemPlace},L0 P d t=some ks->DataW.trod enc P W base spare held fuel t cs=some x->∃fs,bu K.has ks fs/\bu FV.rel fs cs
 |0,_,_,_,_,_,h,_=>by cases h
 |d+1,t,ks,fuel,cs,x,h,hx=>by
  simp only[L0] at h;split at h
  .rename_i hu
   cases h;obtain⟨b,rfl,_⟩:=DataW.trod_bool hu hx;exact⟨[.b b],⟨trivial,trivial⟩,rfl,trivial⟩
  .rename_i k hu
   cases h;obtain⟨n,rfl,_,hw⟩:=DataW.trod_int hu hx;refine⟨[.i k n],⟨⟨rfl,?_⟩,trivial⟩,rfl,trivial⟩;simp only[Lit.wf,cK,jG] at hw;exact hw
  .rename_i hu
   cases h;obtain⟨s,rfl,_⟩:=DataW.trod_string hu hx;exact⟨[.s s],⟨trivial,trivial⟩,rfl,trivial⟩
  .rename_i fs hu
   split at h
   .rename_i ks' hks
    split at h
    .rename_i hc
     cases h;have hc:=lB hc;obtain⟨xs,n,_,_,hl,_,hf⟩:=DataW.trod_struct hu hx
     obtain⟨_,r⟩:=aqg (λh h'=>L3 hA hsp h h') hks (n:=n) (cs:=cs) (λf hf'=>by
      obtain⟨i,hi⟩:=List.getElem?_of_mem hf';have:=hf i f (by rw[<-Wh];exact hi)
      have hi':i<xs.length:=by
       have h1:=(lA.1 hi).1;simp at h1;omega
      rw[kt hi'] at this;exact⟨_,this⟩) (Nat.zero_le _) ⟨[],trivial,by simp;trivial⟩
     rw[<-hc,<-hl,List.take_length] at r;exact r
    .cases h
   .cases h
  .rename_i n e hu
   split at h
   .rename_i ks' hks
    split at h
    .rename_i hc
     cases h;simp only[cK] at hc;have e1:=lB hc.1;have e2:=lB hc.2;obtain⟨xs,m,_,_,hl,hn,hf⟩:=DataW.trod_array hu hx
     have key:∀j,j<=n->∃fs,bu K.has (Uy j ks') fs/\bu FV.rel fs (cs.take (j*ks'.length)):=by
      intro j;induction j with
      |zero=>intro _;exact⟨[],trivial,by simp;trivial⟩
      |succ j ihj=>
       intro hj;have hj':j<xs.length:=by omega
       have:=hf j (by omega);rw[kt hj'] at this;rw[aiA,asM,List.take_add];have h2:=L3 hA hsp hks this;rw[e1] at h2;exact auQ (ihj (by omega)) h2
     have:=key n (cR _);rw[<-e2,<-hl,List.take_length] at this;exact this
    .cases h
   .cases h
  .rename_i e hu
   have un:∃fs,bu K.has [.u] fs/\bu FV.rel fs cs:=by
    rcases open_slice hu hx with⟨rfl,_⟩| ⟨a',aSH,a04,m,n,D,Pl,rfl,_⟩
    .exact⟨[.u],⟨trivial,trivial⟩,rfl,trivial⟩
    .exact⟨[.u],⟨trivial,trivial⟩,rfl,trivial⟩
   split at h
   .rename_i hb
    split at h
    .rename_i hc
     cases h;have hc:=lB hc;rcases open_slice1 hu hc hx with⟨rfl,_⟩| ⟨a',aSH,a04,m,n,V,D,Pl,rfl,_,hle,a05,hm,_,hi⟩
     .exact⟨[.q 0 λ_=>false],⟨Nat.zero_le _,trivial⟩,.inl ⟨rfl,none,rfl⟩,trivial⟩
     .rw[hsp,if_pos rfl] at hm;subst hm;obtain⟨B,s,sp⟩:=a';refine⟨[.q aSH λj=>match V j with|.bool b=>b|_=>false],⟨cQ hle a05,trivial⟩,?_,trivial⟩;rcases SO m with z|z
      .subst z;have:aSH=0:=by omega
       subst this;exact .inl ⟨rfl,_,rfl⟩
      .have h0:=(hi 0 z).1
       have hs:sp=none:=by
        have e0:Addr.add ⟨B,s,sp⟩ 0=⟨B,s,sp⟩:=rfl;rw[e0] at h0;unfold World.cell? at h0;simp only at h0;split at h0
        .cases sp with
         |none=>rfl
         |some q=>simp at h0
        .cases h0
       subst hs;refine .inr ⟨B,s,m,hle,rfl,λj hj=> ?_⟩;obtain⟨h1,h2⟩:=hi j (by omega);obtain⟨b,FF,_⟩:=DataW.trod_bool hb h2;have hV:V j=.bool b:=by simpa using FF
       rw[m4,hV] at h1;rw[hA B (s+j) (.bool b) h1];simp only[hV]
    .cases h;exact un
   .cases h;exact un
  .cases h
theorem aQK {ks:List K}{fs:List FV}{cs:List Value}(h1:bu K.has ks fs)(h2:bu FV.rel fs cs){j:Nat}{k:K}(hk:ks[j]? =some k):∃f v,cs[j]? =some v/\k.has f/\f.rel v:=by
 obtain⟨f,hf,r1⟩:=h1.get hk;obtain⟨v,hv,r2⟩:=h2.get hf;exact⟨f,v,hv,r1,r2⟩
def FV.toN:FV->Nat
 |.q n _=>n
 |_=>0
def FV.toG:FV->Nat->Bool
 |.q _ g=>g
 |_=>λ_=>false
def K.mk:K->(Nat->FV)->cS
 |.b,f=>.b λj=>(f j).toB
 |.i k,f=>.i k λj=>(f j).toI
 |.s,f=>.s λj=>(f j).toS
 |.u,_=>.u
 |.q,f=>.q (λj=>(f j).toN) λj=>(f j).toG
omit [aA] in
theorem K.aX3 {k:K}{f:Nat->FV}{j:Nat}(h:k.has (f j)):(k.mk f).at j=f j:=by
 cases k<;>simp only[K.mk,cS.at]<;>revert h<;>cases f j<;>intro h<;>first|exact h.elim|rfl|skip
 rw[h.1];rfl
omit [aA] in
theorem K.aKQ {k:K}{f:Nat->FV}{n:Nat}(h:∀j,j<n->k.has (f j)):k.nR n (k.mk f):=by
 cases k<;>simp only[K.mk,K.nR]
 .refine⟨trivial,λj hj=> ?_⟩;have:=h j hj;revert this
  cases f j<;>intro h<;>first|exact h.elim|skip
  exact h.2
 .intro j hj;have:=h j hj;revert this
  cases f j<;>intro h<;>first|exact h.elim|skip
  exact h
inductive PT where
 |c (k:K)
 |a (n:Nat) (ks:List K)
def ax3:List PT->List K
 | []=>[]
 |.c k::l=>k::ax3 l
 |.a n ks::l=>Uy n ks++ax3 l
def K.beq:K->K->Bool
 |.b,.b=>true
 |.i k,.i k'=>decide (k=k')
 |.s,.s=>true
 |.u,.u=>true
 |.q,.q=>true
 |_,_=>false
omit [aA] in
theorem K.beq_eq {x y:K}(h:x.beq y=true):x=y:=by
 cases x<;>cases y<;>simp only[K.beq] at h<;>first|rfl|cases h|skip
 rw[db h]
def aSI:List K->List K->Bool
 | [],[]=>true
 |x::l,y::m=>x.beq y&&aSI l m
 |_,_=>false
omit [aA] in
theorem aNu:∀{l m:List K},aSI l m=true->l=m
 | [],[],_=>rfl
 |x::l,y::m,h=>by
  simp only[aSI,cK] at h;rw[K.beq_eq h.1,aNu h.2]
 | [],_::_,h=>by cases h
 |_::_,[],h=>by cases h
def aKR:List Tm->List K->List PT
 | [],_=>[]
 |.c::l,k::ks=>.c k::aKR l ks
 |.c::_,[]=>[]
 |.a n z::l,ks=>.a n (ks.take z)::aKR l (ks.drop (n*z))
inductive Prm where
 |flat (agg:Bool) (pt:List PT)
 |sl (ks:List K)
inductive DC where
 |c (f:FV)
 |a (cols:List cS)
inductive Dat where
 |flat (l:List DC)
 |sl (n:Nat) (cols:List cS)
def aIV:PT->DC->Prop
 |.c k,.c f=>k.has f
 |.a n ks,.a cols=>bu (λk c=>K.nR k n c) ks cols
 |_,_=>False
def Fit:Prm->Dat->Prop
 |.flat _ pt,.flat l=>bu aIV pt l
 |.sl ks,.sl n cols=>n<=maxLen/\bu (λk c=>K.nR k n c) ks cols
 |_,_=>False
def sgs:List PT->List DC->aj
 |.c _::pt,.c f::l=>.c (.f f)::sgs pt l
 |.a n _::pt,.a cols::l=>.a (.l n) cols::sgs pt l
 |_,_=>[]
def aX4:Bool->aj->AV
 |true,b=>.r (.agg b)
 |false,.c v::_=>.r (.c v)
 |false,_=>.Wl
def aKS:List Prm->List Dat->List AV
 |.flat a pt::ps,.flat l::ds=>aX4 a (sgs pt l)::aKS ps ds
 |.sl ks::ps,.sl n cols::ds=>.r (.c (.fs n ks.length cols))::aKS ps ds
 |_,_=>[]
def aFa (ps:List Prm)(ds:List Dat):Prop:=bu Fit ps ds
def aNv (P:Program)(t:TypeId):Option Prm:=
 match P.underlying t with
 |some (.slice e)=>match L0 P 30 e with
  |some ks=>match z9 (P.cellsOf e) ks.length&&wl 1 ks.length with
   |true=>some (.sl ks)
   |false=>none
  |none=>none
 |_=>match adI P t,L0 P 30 t with
  |some true,some ks=>match aSI (ax3 (aKR (ak4 P 30 t) ks)) ks with
   |true=>some (.flat true (aKR (ak4 P 30 t) ks))
   |false=>none
  |some false,some [k]=>some (.flat false [.c k])
  |_,_=>none
def aKT (P:Program):List TypeId->Option (List Prm)
 | []=>some []
 |t::ts=>match aNv P t,aKT P ts with
  |some p,some ps=>some (p::ps)
  |_,_=>none
theorem aTz {n:Nat}{ks:List K}{fs:List FV}{cs:List Value}(h1:bu K.has (Uy n ks) fs)(h2:bu FV.rel fs cs):
  ∃cols,bu (λk c=>K.nR k n c) ks cols/\∀j,j<n*ks.length->∃v,cs[j]? =some v/\(iB cols j).rel (λ_=>none) v:=by
 have hl:=h1.length;rw[Vg] at hl
 have ale:∀i j k,i<n->ks[j]? =some k->∃f,fs[i*ks.length+j]? =some f/\k.has f:=λi j k hi hj=>by
  have hjl:=(lA.1 hj).1
  have key:∀m i,i<m->(Uy m ks)[i*ks.length+j]? =some k:=by
   intro m;induction m with
   |zero=>intro i hi;omega
   |succ m ih=>
    intro i hi;rw[Uy];cases i with
    |zero=>rw[SS,gD,Uw hjl];exact hj
    |succ i=>
     rw[adG (by rw[asM];omega),show(i+1)*ks.length+j-ks.length=i*ks.length+j by rw[asM];omega];exact ih i (by omega)
  obtain⟨f,hf,hh⟩:=h1.get (key n i hi);exact⟨f,hf,hh⟩
 refine⟨ks.zipIdx.map λp=>p.1.mk λi=>fs.getD (i*ks.length+p.2) .u,?_,λj hj=> ?_⟩
 .refine bu.age (by simp) λj k c hk hc=> ?_;simp only[Ce,aEc,hk,SP,hM] at hc;subst hc;refine K.aKQ λi hi=> ?_;obtain⟨f,hf,hh⟩:=ale i j k hi hk;simp only[gD,List.getD,hf,LH];exact hh
 .have aEu:0<ks.length:=by
   rcases SO ks.length with h|h
   .rw[h] at hj;omega
   .exact h
  have hm:=Nat.mod_lt j aEu;have hq:j/ks.length<n:=(axD aEu).2 hj;have hk:ks[j%ks.length]? =some (ks[j%ks.length]'hm):=kt _;obtain⟨f,hf,hh⟩:=ale (j/ks.length) (j%ks.length) _ hq hk;have hd:=Ve j ks.length;rw[hd] at hf;obtain⟨v,hv,hr⟩:=h2.get hf;refine⟨v,hv,?_⟩;unfold iB;simp only[afY,List.length_zipIdx,Ce,aEc,hk,SP,gD];have e:fs.getD (j/ks.length*ks.length+j%ks.length) .u=f:=by rw[hd];simp[List.getD,hf]
  rw[K.aX3 (f:=λi=>fs.getD (i*ks.length+j%ks.length) .u) (j:=j/ks.length) (by rw[e];exact hh)];show FV.rel _ v;rw[e];exact hr
omit [aA] in
theorem azV {α β:Type}{R:α->β->Prop}:∀{l l':List α} {m:List β},bu R (l++l') m->bu R l (m.take l.length)/\bu R l' (m.drop l.length)
 | [],l',m,h=>⟨by simp;trivial,by simpa using h⟩
 |a::l,l',[],h=>h.elim
 |a::l,l',b::m,h=>by
  obtain⟨h1,h2⟩:=h;have:=azV (l:=l) (l':=l') (m:=m) h2;exact⟨⟨h1,this.1⟩,this.2⟩
theorem a10 {π π':Pi}{c:CV}{v:Value}(hc:∃x,c=.f x)(h:c.rel π v):c.rel π' v:=by
 obtain⟨x,rfl⟩:=hc;exact h
theorem ax4:∀{pt:List PT} {fs:List FV} {cs:List Value},bu K.has (ax3 pt) fs->bu FV.rel fs cs->∃l,bu aIV pt l/\∀π,bu (CV.rel π) (aj.list (sgs pt l)) cs
 | [],[],[],_,_=>⟨[],trivial,λ_=>trivial⟩
 | [],_::_,_,h,_=>h.elim
 | [],[],_::_,_,h=>h.elim
 |.c k::pt,[],_,h,_=>h.elim
 |.c k::pt,f::fs,[],_,h=>h.elim
 |.c k::pt,f::fs,v::cs,h1,h2=>by
  obtain⟨l,a,b⟩:=ax4 h1.2 h2.2;refine⟨.c f::l,⟨h1.1,a⟩,λπ=> ?_⟩;rw[sgs,aEG];exact⟨h2.1,b π⟩
 |.a n ks::pt,fs,cs,h1,h2=>by
  obtain⟨p1,p2⟩:=azV (l:=Uy n ks) (l':=ax3 pt) h1;rw[Vg] at p1 p2;have h3:=h2.take (n*ks.length);have h4:=h2.drop (n*ks.length);obtain⟨cols,c1,c2⟩:=aTz p1 h3;obtain⟨l,a,b⟩:=ax4 p2 h4;have Es:=c1.length;have hlen:=h1.length;rw[ax3,axG,Vg] at hlen;have a4r:=h2.length;refine⟨.a cols::l,⟨c1,a⟩,λπ=> ?_⟩;rw[sgs];obtain⟨l1,l2⟩:=iX (b π);rw[asJ] at l1;refine yp ?_ λj hj=> ?_
  .rw[aj.size_cons,Sg.lu,Sz.val,<-Es];omega
  .rw[aj.size_cons] at hj;have hs:(Sg.a (.l n) cols).size=n*ks.length:=by rw[Sg.lu,Sz.val,<-Es]
   by_cases lC:j<n*ks.length
   .obtain⟨v,hv,hr⟩:=c2 j lC;rw[abH,if_pos lC] at hv;refine⟨v,hv,?_⟩;rw[aj.dF (by rw[hs];exact lC),Sg.o9];exact a10 (aDk cols j) hr
   .obtain⟨v,hv,hr⟩:=l2 (j-n*ks.length) (by rw[hs] at hj;omega);rw[SM,show n*ks.length+(j-n*ks.length)=j by omega] at hv;refine⟨v,hv,?_⟩;rw[aj.kH (by rw[hs];omega),hs];exact hr
theorem aNw (hA:∀B i v,cl W B i=some v->aA.fs B i=some v){t e:TypeId}{ks:List K}(hu:P.underlying t=some (.slice e))(hk:L0 P 30 e=some ks)(hc:P.cellsOf e=ks.length)(h1k:1<=ks.length){v:Value}{d:DataW H}{ps:List MemPlace}
  (h:DataW.Trod enc P W 0 (λ_=>true) true t v d ps)(hv:Value.okWide P W .any base t v):
  ∃n cols,Fit (.sl ks) (.sl n cols)/\∀π:Pi,(AV.r (.c (.fs n ks.length cols))).rel π v:=by
 obtain⟨fuel,h⟩:=h;obtain⟨a,len,cap,rfl⟩:=okWide_slice hu hv
 have zero:∃cols,bu (λk c=>K.nR k 0 c) ks cols:=⟨ks.map λk=>k.mk λ_=>.u,bu.age (by simp) λi k c hk hc=>by
  simp only[Ce,hk,SP,hM] at hc;subst hc;exact K.aKQ λj hj=>by omega⟩
 rcases open_slice hu h with⟨h0,_⟩| ⟨a',aSH,a04,m,n,D,Pl,h0,_,hle,a05,hm,hx,hi⟩
 .simp[Value.cells] at h0
  obtain⟨rfl,rfl,rfl⟩:=h0;obtain⟨cols,aX5⟩:=zero;exact⟨0,cols,⟨Nat.zero_le _,aX5⟩,λπ=>⟨aX5.length.symm,.inl ⟨rfl,none,rfl⟩⟩⟩
 .simp[Value.cells] at h0
  obtain⟨rfl,rfl,rfl⟩:=h0
  have aX6:a'.spot=none:=by
   have hv:Cell.okWide P W .any base t (.slice (some a') len cap):=by
    unfold Value.okWide at hv;rw[hu] at hv;exact hv
   have hv:Cell.ok P W .any base t (.slice (some a') len cap):=by
    unfold Cell.okWide at hv;rw[hu] at hv;exact hv
   unfold Cell.ok at hv;rw[hu] at hv;exact hv.2.2.2.1
  obtain⟨B,s,sp⟩:=a';simp only at aX6;subst aX6;simp only[lr] at hm;subst hm;have hw:ks.length=P.cellsOf e:=hc.symm
  have cell:∀i j k,i<len->ks[j]? =some k->∃f v,cl W B (s+(i*ks.length+j))=some v/\k.has f/\f.rel v:=λi j k hil hj=>by
   obtain⟨SV,h1,h2⟩:=hi i (by omega);obtain⟨fs,f1,f2⟩:=L3 hA (λ_=>rfl) hk h2;obtain⟨f,v,e1,e2,e3⟩:=aQK f1 f2 hj;obtain⟨_,_,h3⟩:=World.cells?_some h1;have hjl:=(lA.1 hj).1;have:=h3 j (by omega);rw[m4,m4,e1] at this;exact⟨f,v,by unfold cl;rw[hw,<-A6];exact this,e2,e3⟩
  have hdiv:∀j,j<len*ks.length->j/ks.length<len/\j%ks.length<ks.length/\j/ks.length*ks.length+j%ks.length=j:=λj hj=>by
   refine⟨(axD (by omega)).2 hj,Nat.mod_lt _ (by omega),Ve _ _⟩
  have pick:∀j,∃f,j<len*ks.length->∃v k,cl W B (s+j)=some v/\ks[j%ks.length]? =some k/\k.has f/\f.rel v:=λj=>by
   rcases mJ j (len*ks.length) with hj|hj
   .obtain⟨d1,d2,d3⟩:=hdiv j hj;have hkj:ks[j%ks.length]? =some (ks[j%ks.length]'d2):=kt _;obtain⟨f,v,e1,e2,e3⟩:=cell _ _ _ d1 hkj;rw[d3] at e1;exact⟨f,λ_=>⟨v,_,e1,hkj,e2,e3⟩⟩
   .exact⟨.u,λh=>by omega⟩
  obtain⟨g,hg⟩:=Classical.axiomOfChoice pick
  have hgk:∀(i j:Nat) (k:K),i<len->ks[j]? =some k->k.has (g (i*ks.length+j)):=λi j k hil hj=>by
   have hjl:=(lA.1 hj).1
   have nC:i*ks.length+j<len*ks.length:=by
    have:=wh ks.length (show i+1<=len from hil);rw[asM] at this;omega
   obtain⟨v,k',_,h2,h3,_⟩:=hg _ nC;rw[abK,asL,axI hjl,hj] at h2;cases h2;exact h3
  refine⟨len,ks.zipIdx.map λp=>p.1.mk λi=>g (i*ks.length+p.2),⟨by omega,bu.age (by simp) λj k c Lv hc'=> ?_⟩,λπ=>⟨by simp,.inr ⟨B,s,m,hle,rfl,λj hj=> ?_⟩⟩⟩
  .simp only[Ce,aEc,Lv,SP,hM] at hc';subst hc';exact K.aKQ λi hi=>by simpa using hgk i j k hi Lv
  .obtain⟨d1,d2,d3⟩:=hdiv j hj;obtain⟨v,k',h1,Lv,hh,h2⟩:=hg j hj;refine⟨g j,v,?_,hA _ _ _ h1,h2⟩;unfold iB;simp only[afY,List.length_zipIdx,Ce,aEc,Lv,SP,gD];rw[K.aX3 (f:=λi=>g (i*ks.length+j%ks.length)) (j:=j/ks.length) (by rw[d3];exact hh)];show CV.f (g (j/ks.length*ks.length+j%ks.length))=_;rw[d3]
theorem aQL (hA:∀B i v,cl W B i=some v->aA.fs B i=some v){t:TypeId}{ag:Bool}{pt:List PT}(hns:∀e,P.underlying t≠some (.slice e))(hp:aNv P t=some (.flat ag pt)){v:Value}{d:DataW H}{ps:List MemPlace}
  (h:DataW.Trod enc P W 0 (λ_=>true) true t v d ps)(hv:Value.okWide P W .any base t v):∃l,Fit (.flat ag pt) (.flat l)/\∀π,(aX4 ag (sgs pt l)).rel π v:=by
 obtain⟨fuel,h⟩:=h;unfold aNv at hp;split at hp
 .rename_i e hu;exact absurd hu (hns e)
 .split at hp
  .rename_i ks ha hk
   split at hp
   .rename_i heq
    cases hp;have heq:=aNu heq;obtain⟨fs,f1,f2⟩:=L3 hA (λ_=>rfl) hk h;rw[<-heq] at f1;obtain⟨l,l1,l2⟩:=ax4 f1 f2
    have aSD:∃cs,v=.agg cs:=by
     unfold Value.okWide at hv;unfold adI at ha;split at ha
     .rename_i hu;rw[hu] at hv;obtain⟨cs,h,_⟩:=hv;exact⟨cs,h⟩
     .rename_i hu;rw[hu] at hv;obtain⟨cs,h,_⟩:=hv;exact⟨cs,h⟩
     .cases ha
     .cases ha
    obtain⟨cs,rfl⟩:=aSD;exact⟨l,l1,λπ=>⟨cs,rfl,l2 π⟩⟩
   .cases hp
  .rename_i k ha hk
   cases hp;obtain⟨fs,f1,f2⟩:=L3 hA (λ_=>rfl) hk h
   have aNg:v.cells.toList=[v]∨∃cs,v=.agg cs:=by
    cases v<;>first|exact .inl rfl|exact .inr ⟨_,rfl⟩
   have aNg:v.cells.toList=[v]:=by
    rcases aNg with h| ⟨cs,rfl⟩
    .exact h
    .exfalso
     have hc:Cell.okWide P W .any base t (.agg cs):=by
      unfold Value.okWide at hv;unfold adI at ha;split at ha<;>first|(cases ha;done)|skip
      rename_i u hu1 hu2 hu
      rw[hu] at hv;split at hv
      .rename_i hh;cases hh;exact absurd rfl (hu1 _)
      .rename_i hh;cases hh;exact absurd rfl (hu2 _ _)
      .exact hv
     unfold Cell.okWide at hc;revert hc
     have hkk:P.underlying t=some .bool∨(∃k,P.underlying t=some (.int k))∨P.underlying t=some .string:=by
      unfold adI at ha;unfold L0 at hk;split at hk
      .rename_i hu;exact .inl hu
      .rename_i k hu;exact .inr (.inl ⟨k,hu⟩)
      .rename_i hu;exact .inr (.inr hu)
      .rename_i hu;rw[hu] at ha;cases ha
      .rename_i hu;rw[hu] at ha;cases ha
      .rename_i hu;exact absurd hu (hns _)
      .cases hk
     rcases hkk with hu| ⟨k,hu⟩|hu<;>rw[hu]<;>intro hc<;>simp only[Cell.ok,hu] at hc
   rw[aNg] at f2;match fs,f1,f2 with
   | [f],⟨f1,_⟩,⟨f2,_⟩=>exact⟨[.c f],⟨f1,trivial⟩,λπ=>f2⟩
  .cases hp
theorem aFb (hA:∀B i v,cl W B i=some v->aA.fs B i=some v):∀{ts:List TypeId} {pr:List Prm} {vs:List Value} {dd:List (DataW H)} {ps:List MemPlace},aKT P ts=some pr->(∀(j:Nat) t v,ts[j]? =some t->vs[j]? =some v->Value.okWide P W .any base t v)->
  DataW.TrodAll enc P W 0 (λ_=>true) true ts vs dd ps->∃ds,aFa pr ds/\∀π,bu (AV.rel π) (aKS pr ds) vs
 | [],pr,vs,dd,ps,hp,_,h=>by
  cases hp;obtain⟨rfl,rfl,rfl⟩:=trodAll_nil h;exact⟨[],trivial,λ_=>trivial⟩
 |t::ts,pr,vs,dd,ps,hp,hv,h=>by
  obtain⟨v,vs1,d,ds1,p1,p2,rfl,rfl,rfl,h3,h4⟩:=trodAll_cons h;simp only[aKT] at hp;split at hp
  .rename_i p pr' H5 hp2
   cases hp;have hv0:=hv 0 t v rfl rfl;obtain⟨ds,f1,g1⟩:=aFb hA hp2 (λj t v hj hv'=>hv (j+1) t v (by simpa using hj) (by simpa using hv')) h4;cases p with
   |flat ag pt=>
    have hns:∀e,P.underlying t≠some (.slice e):=λe hu=>by
     unfold aNv at H5;rw[hu] at H5;simp only at H5;split at H5
     .split at H5<;>cases H5
     .cases H5
    obtain⟨l,l1,l2⟩:=aQL hA hns H5 h3 hv0;exact⟨.flat l::ds,⟨l1,f1⟩,λπ=>⟨l2 π,g1 π⟩⟩
   |sl ks=>
    obtain⟨e,hu,hk,hc,h1k⟩:∃e,P.underlying t=some (.slice e)/\L0 P 30 e=some ks/\P.cellsOf e=ks.length/\1<=ks.length:=by
     unfold aNv at H5;split at H5
     .rename_i e hu
      split at H5
      .rename_i ks' hk
       split at H5
       .rename_i hc
        cases H5;simp only[cK,beq_iff,fm] at hc;exact⟨e,hu,hk,hc.1,hc.2⟩
       .cases H5
      .cases H5
     .split at H5
      .split at H5<;>cases H5
      .cases H5
      .cases H5
    obtain⟨n,cols,q1,q2⟩:=aNw hA hu hk hc h1k h3 hv0;exact⟨.sl n cols::ds,⟨q1,f1⟩,λπ=>⟨q2 π,g1 π⟩⟩
  .cases hp
def aX7 (F:Fz)(ps:List Prm):Prop:=∀ds,aFa ps ds->∃news,(F (aKS ps ds) []).eval=some ⟨.r (.c (.f (.b true))),[],news⟩
abbrev aQM (W:World):aA:=⟨W.heap.size,λB i=>cl W B i⟩
omit [aA] in
theorem aTA (W:World): @A' (aQM W) W:=by
 letI:=aQM W
 refine⟨cR _,λB i hB=> ?_,λB i v h=>⟨abO (by rw[show cl W B i=some v from h];rfl),h⟩⟩;have hB:W.heap.size<=B:=hB;simp only[fz,World.frozen?,asG hB]
end
section
variable {H:Type} {enc:TypeId×Value->H} {P:Program} {W:World} {base:Nat}
omit [aA] in
theorem aQN {f:FuncId}{F:Fz}(S:∀[aA],Sound P f F)(hc:GN P f=true){ts:List TypeId}{pr:List Prm}(hp:aKT P ts=some pr)(hF:aX7 F pr){args:Array Value}{dd:List (DataW H)}{ps:List MemPlace}
  (aEY:∀(j:Nat) t v,ts[j]? =some t->args[j]? =some v->Value.okWide P W .any base t v)(ht:DataW.TrodAll enc P W 0 (λ_=>true) true ts args.toList dd ps):
  Calls P f args W λe W'=>e=.returned (.bool true)/\cx W (λ_ _=>False) W':=by
 letI:=aQM W
 obtain⟨ds,f1,g1⟩:=aFb (λB i v h=>h) hp (λj t v hj hv=>aEY j t v hj (by simpa using hv)) ht;obtain⟨news,hr⟩:=hF ds f1
 have hH:sf (λ_=>none) (hC (([]:List aj).map some)) (hZ (([]:List aj).map some)) W:=
  ⟨aTA W,λb B s q e hz=>by simp[hZ] at hz,λb n hn=>by simp[hZ] at hn,λb b' B s q e s' q' e' _ hz=>by simp[hZ] at hz⟩
 have hS:=S _ _ _ hr W (λ_=>none) args (g1 _) hH (λb hb=>absurd rfl hb)
 have hS:Calls P f args W (tu (λ_=>none) W [] ⟨.r (.c (.f (.b true))),[],news⟩):=by
  rcases hS with h| ⟨v,h,_⟩
  .exact h.2
  .rw[IB hc] at h;cases h
 refine Calls.mono hS ?_;rintro e w' ⟨π',v,rfl,_,hv,_,hF',_,_⟩
 refine⟨fe Ending.returned hv,hF'.mono λB i _ h=> ?_⟩;obtain⟨b,s,q,e,hb,_⟩:=h;cases hb
end
end Go.Ab
namespace Go.Ab
variable [aA]
def azW:Array Value->Sem Value:=λargs=>do
 let(x,y,b)<-Extern.MathBitsCarry.three "Sub64" args
 pure (Extern.MathBitsCarry.pair ((x+Extern.MathBitsCarry.m64-y-b)%Extern.MathBitsCarry.m64) (if x<y+b then 1 else 0))
abbrev aIW (n:Int):RV:=.c (.f (.i .u64 n))
omit [aA] in
theorem aNx {P:Program}(x y c:Int)(h:c.toNat<=1)(w:World):(add64Entry #[.int .u64 x,.int .u64 y,.int .u64 c]).run P w=
  .ok (.tuple #[.int .u64 (wr ((x.toNat+y.toNat+c.toNat)%18446744073709551616)),.int .u64 (wr ((x.toNat+y.toNat+c.toNat)/18446744073709551616))]) w:=by
 match c,h with
 |.ofNat 0,_=>rfl
 |.ofNat 1,_=>rfl
 |.negSucc n,_=>rfl
 |.ofNat (n+2),h=>exact absurd h (by simp;omega)
omit [aA] in
theorem aNy {P:Program}(x y c:Int)(h:c.toNat<=1)(w:World):(azW #[.int .u64 x,.int .u64 y,.int .u64 c]).run P w=
  .ok (.tuple #[.int .u64 (wr ((x.toNat+18446744073709551616-y.toNat-c.toNat)%18446744073709551616)),.int .u64 (wr (if x.toNat<y.toNat+c.toNat then 1 else 0))]) w:=by
 match c,h with
 |.ofNat 0,_=>rfl
 |.ofNat 1,_=>rfl
 |.negSucc n,_=>rfl
 |.ofNat (n+2),h=>exact absurd h (by simp;omega)
theorem azX {P:Program}{f:FuncId}{fn:Func}{e:Array Value->Sem Value}{A B:Int->Int->Int->Int}(hf:P.funcs[f]? =some fn)(aFc:(fn.name=="runtime.NumGoroutine")=false)
  (hb:fn.body.isNone=true)(hn:Extern.findNext fn=none)(he:Extern.find fn=some e)
  (nP:∀(x y c:Int) (w:World),c.toNat<=1->(e #[.int .u64 x,.int .u64 y,.int .u64 c]).run P w=.ok (.tuple #[.int .u64 (A x y c),.int .u64 (B x y c)]) w):
  Sound P f λ
   | [.r (.c (.f (.i .u64 x))),.r (.c (.f (.i .u64 y))),.r (.c (.f (.i .u64 c)))],[]=>.test (wl c.toNat 1) (.leaf ⟨.tup [aIW (A x y c),aIW (B x y c)],[],[]⟩) .fail
   |_,_=>.fail:=by
 intro args h res tv w π vs ln hH jZ;simp only at tv;split at tv
 .rename_i x y c
  simp only[T.eval] at tv;split at tv
  .rename_i hc
   cases tv;right
   obtain⟨l⟩:=vs;match l,ln with
   | [v1,v2,v3],⟨h1,h2,h3,_⟩=>
    have h1:v1=.int .u64 x:=h1;have h2:v2=.int .u64 y:=h2;have h3:v3=.int .u64 c:=h3;subst h1 h2 h3;refine⟨_,by rw[run_callFunc_extern hf aFc hb hn he,nP x y c w (Wg hc)];rfl,π,_,rfl,Ext.refl π,⟨#[_,_],rfl,rfl,rfl,trivial⟩,hH,cx.refl _ _,jZ,λb B s q e hb hp=> ?_⟩;exact absurd (jZ b (by rw[hp];simp)) (by omega)
  .cases tv
 .cases tv
abbrev aX8 (x y c:Int):Int:=wr ((x.toNat+y.toNat+c.toNat)%18446744073709551616)
abbrev aX9 (x y c:Int):Int:=wr ((x.toNat+y.toNat+c.toNat)/18446744073709551616)
abbrev aYa (x y c:Int):Int:=wr ((x.toNat+18446744073709551616-y.toNat-c.toNat)%18446744073709551616)
abbrev aYb (x y c:Int):Int:=wr (if x.toNat<y.toNat+c.toNat then 1 else 0)
def aDn (A B:Int->Int->Int->Int):Fz
 | [.r (.c (.f (.i .u64 x))),.r (.c (.f (.i .u64 y))),.r (.c (.f (.i .u64 c)))],[]=>.test (wl c.toNat 1) (.leaf ⟨.tup [aIW (A x y c),aIW (B x y c)],[],[]⟩) .fail
 |_,_=>.fail
theorem aKU {P:Program}{f:FuncId}{fn:Func}(hf:P.funcs[f]? =some fn)(aFc:(fn.name=="runtime.NumGoroutine")=false)
  (hb:fn.body.isNone=true)(hn:Extern.findNext fn=none)(he:Extern.find fn=some add64Entry):Sound P f (aDn aX8 aX9):=
 azX hf aFc hb hn he λx y c w h=>aNx x y c h w
theorem aKV {P:Program}{f:FuncId}{fn:Func}(hf:P.funcs[f]? =some fn)(aFc:(fn.name=="runtime.NumGoroutine")=false)
  (hb:fn.body.isNone=true)(hn:Extern.findNext fn=none)(he:Extern.find fn=some azW):Sound P f (aDn aYa aYb):=
 azX hf aFc hb hn he λx y c w h=>aNy x y c h w
end Go.Ab
namespace Go.Ab
theorem aTB {D:Type}(x:Option D)(g:D->pe):(T.opt x λd=>.leaf (g d)).eval=x.map g:=by cases x<;>rfl
abbrev C3:=Int->Int->Int->Option (Int×Int)
def adP (f:C3):Fz:=λargs h=>match args,h with
 | [.r (.c (.f (.i .u64 x))),.r (.c (.f (.i .u64 y))),.r (.c (.f (.i .u64 c)))],[]=>.opt (f x y c) λd=>.leaf ⟨.tup [aIW d.1,aIW d.2],[],[]⟩
 |_,_=>.fail
def DA:C3:=λx y c=>cond (wl c.toNat 1) (some (aX8 x y c,aX9 x y c)) none
def adQ:C3:=λx y c=>cond (wl c.toNat 1) (some (aYa x y c,aYb x y c)) none
theorem aIX [aA]{P:Program}{f:FuncId}{A B:Int->Int->Int->Int}(S:Sound P f (aDn A B)):Sound P f (adP λx y c=>cond (wl c.toNat 1) (some (A x y c,B x y c)) none):=
 S.weaken λargs h r hr=>by
  unfold adP at hr;split at hr
  .rename_i x y c
   rw[aTB] at hr;simp only at hr;refine⟨r,?_,.refl _ _⟩;unfold aDn;simp only[T.eval];cases hc:wl c.toNat 1<;>rw[hc] at hr<;>first|(cases hr;done)|exact hr
  .cases hr
theorem as4 {D:Type}(x:Option D)(g:D->T):(T.opt x g).eval=x.bind λd=>(g d).eval:=by cases x<;>rfl
theorem aTC {α β:Type}(q:α->Option β)(b:Bool)(x y:Option α):(cond b x y).bind q=cond b (x.bind q) (y.bind q):=by cases b<;>rfl
def T.sum {A B:Type}(x:A⊕B)(f:A->T)(g:B->T):T:=.test x.isLeft (.opt x.getLeft? f) (.opt x.getRight? g)
theorem aFd {b:Bool}{a:T}{r:pe}(h:(T.test b a .fail).eval=some r):b=true/\a.eval=some r:=by cases b<;>first|(cases h;done)|exact⟨rfl,h⟩
theorem azY {D X ρ σ:Type}{s1:D->(D->Option ρ)->(X->Option ρ)->Option ρ}{s2:D->(D->Option σ)->(X->Option σ)->Option σ}(q:ρ->Option σ)
  (h:∀d c x,(s1 d c x).bind q=s2 d (λd=>(c d).bind q) (λe=>(x e).bind q))(k:X->Option ρ):∀(n:Nat) (d:D),(S5 s1 n d k).bind q=S5 s2 n d λe=>(k e).bind q
 |0,_=>rfl
 |n+1,d=>by
  show(s1 d (λd=>S5 s1 n d k) k).bind q=s2 d (λd=>S5 s2 n d λe=>(k e).bind q) λe=>(k e).bind q
  rw[h];congr 1
  funext d'
  exact azY q h k n d'
theorem azZ {hd:St->Option St}{ρ:Type}{body:St->(AX->St->Option ρ)->Option ρ}{K:AX->St->Option ρ}{D X:Type}{emb:D->St}{step:D->(D->Option ρ)->(X->Option ρ)->Option ρ}{kx:X->Option ρ}
  (h:∀(d:D) (c:St->Option ρ),body (emb d) (next hd c K)=step d (λd=>c (emb d)) kx):∀(n:Nat) (d:D),iter hd body K n (emb d)=S5 step n d kx
 |0,_=>rfl
 |n+1,d=>by
  have e:iter hd body K (n+1) (emb d)=body (emb d) (next hd (iter hd body K n) K):=rfl;rw[e,h];have e2:S5 step (n+1) d kx=step d (λd=>S5 step n d kx) kx:=rfl;rw[e2];congr 1
  funext d'
  exact azZ h n d'
theorem Oq.of [aA]{P:Program}{E:Env}{hs:Hs}{nt lf id k0:Nat}{a:Code}{run:∀{ρ:Type},St->(AX->St->Option ρ)->Option ρ}(h0:ap6 hs a=some ⟨id,k0,run⟩)
  (h:∀{ρ:Type} (s:St) (K:AX->St->Option ρ) (r:ρ),run s K=some r->∃n,iter (λt=>t.head k0 hs a) (HG P E hs nt k0 lf a) K n s=some r):∀kk,Oq P E hs nt kk lf a:=by
 intro kk σ hσ hk ρ s K r hr;rw[h0] at hσ;cases hσ;cases hk;exact h s K r hr
theorem Oq.no [aA]{P:Program}{E:Env}{hs:Hs}{nt lf:Nat}{a:Code}(h0:ap6 hs a=none):∀kk,Oq P E hs nt kk lf a:=by
 intro kk σ hσ;rw[h0] at hσ;cases hσ
theorem BQ.imp {α:Type}{p q:α->Prop}(h:∀a,p a->q a):∀{l:List α},BQ p l->BQ q l
 | [],_=>trivial
 |_::_,hl=>⟨h _ hl.1,BQ.imp h hl.2⟩
theorem auq.of [aA]{P:Program}{E:Env}{hs:Hs}{nt lf id k0:Nat}{hd:Hd}{b:Code}{run:∀{ρ:Type},St->(AX->St->Option ρ)->Option ρ}(h0:azC hs b=some ⟨hd,⟨id,k0,run⟩⟩)
  (h:∀{ρ:Type} (s:St) (K:AX->St->Option ρ) (r:ρ),run s K=some r->HG P E hs nt k0 lf b s K=some r):∀kk,auq P E hs nt kk lf b:=by
 intro kk j hj hk ρ s K r hr;rw[h0] at hj;cases hj;cases hk;exact h s K r hr
theorem LG.by [aA]{P:Program}{E:Env}{hs:Hs}{f:FuncId}{lf:Nat}{l lj:List Code}(hl:LD (ZV P f)=l)(h:BQ (λa=>∀kk,Oq P E hs (tmpsOf P f) kk lf a) l)
  (hlj:LF hs (ZV P f)=lj)(hj:BQ (λb=>∀kk,auq P E hs (tmpsOf P f) kk lf b) lj):
  ∀(fn:Func) (c:Code) (kk:Nat),P.funcs[f]? =some fn->fn.body=some c->LG P E hs fn.ntmps kk lf c:=by
 intro fn c kk hf hb;have e1:ZV P f=c:=by unfold ZV;rw[hf];simp[hb]
 have e2:tmpsOf P f=fn.ntmps:=by unfold tmpsOf;rw[hf];rfl
 rw[e1] at hl hlj;rw[<-e2];refine LG.of ?_ ?_
 .rw[hl];exact h.imp λa ha=>ha kk
 .rw[hlj];exact hj.imp λa ha=>ha kk
structure jg (α β:Type) where
 rd:α->Option β
 em:β->α
 ok:∀a b,rd a=some b->a=em b
namespace jg
def hole {α:Type}:jg α α:=⟨some,id,λa b h=>by cases h;rfl⟩
def nat (n:Nat):jg Nat Unit:=⟨λm=>cond (z9 m n) (some ()) none,λ_=>n,λa b h=>by
 cases hb:z9 a n<;>rw[hb] at h<;>first|(cases h;done)|exact lB hb⟩
def int (n:Int):jg Int Unit:=⟨λm=>cond (decide (m=n)) (some ()) none,λ_=>n,λa b h=>by
 cases hb:decide (a=n)<;>rw[hb] at h<;>first|(cases h;done)|exact db hb⟩
def bool (n:Bool):jg Bool Unit:=⟨λm=>cond (m==n) (some ()) none,λ_=>n,λa b h=>by
 cases a<;>cases n<;>first|rfl|cases h⟩
def via {α α' β:Type}(f:α->α')(g:α'->Option α)(h:∀a' a,g a'=some a->a'=f a)(x:jg α β):jg α' β:=⟨λa=>(g a).bind x.rd,λb=>f (x.em b),λa b hb=>by
 cases ha:g a with
 |none=>rw[ha] at hb;cases hb
 |some c=>rw[ha] at hb;rw[h a c ha,<-x.ok c b hb]⟩
def pair {α β γ δ:Type}(x:jg α β)(y:jg γ δ):jg (α×γ) (β×δ):=⟨λp=>(x.rd p.1).bind λb=>(y.rd p.2).bind λd=>some (b,d),λq=>(x.em q.1,y.em q.2),λp q h=>by
 cases h1:x.rd p.1 with
 |none=>rw[h1] at h;cases h
 |some b=>
  rw[h1] at h;cases h2:y.rd p.2 with
  |none=>simp only[bG,h2] at h;cases h
  |some d=>
   simp only[bG,h2] at h;cases h;rw[<-x.ok _ _ h1,<-y.ok _ _ h2]⟩
def one {α:Type}(a:α)(g:α->Bool)(h:∀b,g b=true->b=a):jg α Unit:=⟨λb=>cond (g b) (some ()) none,λ_=>a,λb _ hb=>by
 cases hg:g b<;>rw[hg] at hb<;>first|(cases hb;done)|exact h b hg⟩
def nil {α:Type}:jg (List α) Unit:=one [] (λl=>match l with| []=>true|_=>false) λb h=>by cases b<;>first|rfl|cases h
def cons {α β γ:Type}(x:jg α β)(y:jg (List α) γ):jg (List α) (β×γ):=via (λp:α×List α=>p.1::p.2) (λl=>match l with|a::l=>some (a,l)|_=>none) (λa' a h=>by cases a'<;>cases h;rfl) (pair x y)
def szl {β:Type}(x:jg Nat β):jg Sz β:=via Sz.l (λz=>match z with|.l n=>some n|_=>none) (λa' a h=>by cases a'<;>cases h;rfl) x
def szs {β:Type}(x:jg Nat β):jg Sz β:=via Sz.s (λz=>match z with|.s n=>some n|_=>none) (λa' a h=>by cases a'<;>cases h;rfl) x
def ok' {β:Type}(x:jg Nat β):jg cG β:=via cG.k (λz=>match z with|.k n=>some n|_=>none) (λa' a h=>by cases a'<;>cases h;rfl) x
def ox {β γ δ:Type}(x:jg Nat β)(y:jg Nat γ)(z:jg Nat δ):jg cG (β×γ×δ):=via (λp:Nat×Nat×Nat=>cG.x p.1 p.2.1 p.2.2) (λz=>match z with|.x a b c=>some (a,b,c)|_=>none) (λa' a h=>by cases a'<;>cases h;rfl) (pair x (pair y z))
def fi {β:Type}(k:IntKind)(x:jg Int β):jg FV β:=via (FV.i k) (λz=>match z with|.i k' n=>cond (decide (k'=k)) (some n) none|_=>none) (λa' a h=>by
 cases a' with
 |i k' n=>
  cases hk:decide (k'=k)<;>simp only[hk] at h<;>first|(cases h;done)|(cases h;rw[db hk])
 |_=>cases h) x
def fb {β:Type}(x:jg Bool β):jg FV β:=via FV.b (λz=>match z with|.b n=>some n|_=>none) (λa' a h=>by cases a'<;>cases h;rfl) x
def fs {β:Type}(x:jg ByteArray β):jg FV β:=via FV.s (λz=>match z with|.s n=>some n|_=>none) (λa' a h=>by cases a'<;>cases h;rfl) x
def cf {β:Type}(x:jg FV β):jg CV β:=via CV.f (λz=>match z with|.f n=>some n|_=>none) (λa' a h=>by cases a'<;>cases h;rfl) x
def LC {β γ δ:Type}(x:jg Nat β)(y:jg cG γ)(z:jg Nat δ):jg CV (β×γ×δ):=via (λp:Nat×cG×Nat=>CV.ptr p.1 p.2.1 p.2.2) (λz=>match z with|.ptr a b c=>some (a,b,c)|_=>none) (λa' a h=>by cases a'<;>cases h;rfl) (pair x (pair y z))
def ccl {α β γ δ:Type}(u:jg Nat α)(x:jg Nat β)(y:jg cG γ)(z:jg Nat δ):jg CV (α×β×γ×δ):=via (λp:Nat×Nat×cG×Nat=>CV.cl p.1 p.2.1 p.2.2.1 p.2.2.2) (λz=>match z with|.cl e a b c=>some (e,a,b,c)|_=>none) (λa' a h=>by cases a'<;>cases h;rfl) (pair u (pair x (pair y z)))
def gr {β γ δ ε ζ:Type}(x:jg Nat β)(y:jg cG γ)(z:jg Sz δ)(u:jg Nat ε)(w:jg Bool ζ):jg CV (β×γ×δ×ε×ζ):=via (λp:Nat×cG×Sz×Nat×Bool=>CV.sl p.1 p.2.1 p.2.2.1 p.2.2.2.1 p.2.2.2.2) (λz=>match z with|.sl a b c d e=>some (a,b,c,d,e)|_=>none) (λa' a h=>by cases a'<;>cases h;rfl) (pair x (pair y (pair z (pair u w))))
def cfs {β γ δ:Type}(x:jg Nat β)(y:jg Nat γ)(z:jg (List cS) δ):jg CV (β×γ×δ):=via (λp:Nat×Nat×List cS=>CV.fs p.1 p.2.1 p.2.2) (λz=>match z with|.fs a b c=>some (a,b,c)|_=>none) (λa' a h=>by cases a'<;>cases h;rfl) (pair x (pair y z))
def aDL:jg CV Unit:=one .aiw (λl=>match l with|.aiw=>true|_=>false) λb h=>by cases b<;>first|rfl|cases h
def aVU:jg CV Unit:=one .nils (λl=>match l with|.nils=>true|_=>false) λb h=>by cases b<;>first|rfl|cases h
def ki {β:Type}(k:IntKind)(x:jg (Nat->Int) β):jg cS β:=via (cS.i k) (λz=>match z with|.i k' n=>cond (decide (k'=k)) (some n) none|_=>none) (λa' a h=>by
 cases a' with
 |i k' n=>
  cases hk:decide (k'=k)<;>simp only[hk] at h<;>first|(cases h;done)|(cases h;rw[db hk])
 |_=>cases h) x
def kb {β:Type}(x:jg (Nat->Bool) β):jg cS β:=via cS.b (λz=>match z with|.b n=>some n|_=>none) (λa' a h=>by cases a'<;>cases h;rfl) x
def ks {β:Type}(x:jg (Nat->ByteArray) β):jg cS β:=via cS.s (λz=>match z with|.s n=>some n|_=>none) (λa' a h=>by cases a'<;>cases h;rfl) x
def gc {β:Type}(x:jg CV β):jg Sg β:=via Sg.c (λz=>match z with|.c n=>some n|_=>none) (λa' a h=>by cases a'<;>cases h;rfl) x
def ga {β γ:Type}(x:jg Sz β)(y:jg (List cS) γ):jg Sg (β×γ):=via (λp:Sz×List cS=>Sg.a p.1 p.2) (λz=>match z with|.a n c=>some (n,c)|_=>none) (λa' a h=>by cases a'<;>cases h;rfl) (pair x y)
def rc {β:Type}(x:jg CV β):jg RV β:=via RV.c (λz=>match z with|.c n=>some n|_=>none) (λa' a h=>by cases a'<;>cases h;rfl) x
def ra {β:Type}(x:jg aj β):jg RV β:=via RV.agg (λz=>match z with|.agg n=>some n|_=>none) (λa' a h=>by cases a'<;>cases h;rfl) x
def ar {β:Type}(x:jg RV β):jg AV β:=via AV.r (λz=>match z with|.r n=>some n|_=>none) (λa' a h=>by cases a'<;>cases h;rfl) x
def rH {β:Type}(x:jg (List RV) β):jg AV β:=via AV.tup (λz=>match z with|.tup n=>some n|_=>none) (λa' a h=>by cases a'<;>cases h;rfl) x
def afn {β γ:Type}(x:jg Nat β)(y:jg (List RV) γ):jg AV (β×γ):=via (λp:Nat×List RV=>AV.fn p.1 p.2) (λz=>match z with|.fn a b=>some (a,b)|_=>none) (λa' a h=>by cases a'<;>cases h;rfl) (pair x y)
def a06:jg AV Unit:=one .Wl (λl=>match l with|.Wl=>true|_=>false) λb h=>by cases b<;>first|rfl|cases h
def st {β γ δ:Type}(x:jg (List AV) β)(y:jg (List (Option aj)) γ)(z:jg (List Nat) δ):jg St (β×γ×δ):=via (λp:List AV×List (Option aj)×List Nat=>St.mk p.1 p.2.1 p.2.2) (λz=>some (z.tmps,z.heap,z.dh)) (λa' a h=>by cases a';cases h;rfl) (pair x (pair y z))
end jg
end Go.Ab
namespace Go.Proofs.YtldgljclcgaibaaGreat
open Go.Ab
theorem mixed:Tryz.prog.follows .mixedOrders=true:=by kernel_rfl
theorem own:ownKnob Tryz.prog.godebug=none:=by kernel_rfl
theorem laid:laidOutB Tryz.prog=true:=by kernel_rfl
end Go.Proofs.YtldgljclcgaibaaGreat
namespace Go.Ab
variable [aA]
variable {P:Program}
def EP (Lw:List CK):aj:=[.a (.s 0) (Lw.map CK.nR)]
def T.aNz (g:pe->pe):T->T
 |.leaf r=>.leaf (g r)
 |.fail=>.fail
 |.test x a b=>.test x (a.aNz g) (b.aNz g)
 |.opt x k=>.opt x λd=>(k d).aNz g
omit [aA] in
theorem aQO {g:pe->pe}{t:T}{r:pe}(h:(t.aNz g).eval=some r):∃r',t.eval=some r'/\r=g r':=by
 induction t with
 |leaf r'=>cases h;exact⟨r',rfl,rfl⟩
 |fail=>cases h
 |test x a b iha ihb=>
  cases x
  .exact ihb h
  .exact iha h
 |opt x k ih=>
  cases x with
  |none=>cases h
  |some d=>exact ih d h
def vA (i:Nat)(Lw:List CK)(F:Fz):Fz:=λargs h=>match args[i]? with
 |some (.r (.c .nils))=>(F (args.set i (.r (.c (.sl h.length (.k 0) (.s 0) Lw.length true)))) (h++[EP Lw])).aNz λr=>⟨r.val,r.yF.take h.length,EP Lw::r.news⟩
 |_=>F args h
omit [aA] in
theorem aFe (Lw:List CK):aj.size (EP Lw)=0:=by
 unfold EP;rw[aj.size_cons,aj.lp,Sg.lu];simp[Sz.val]
omit [aA] in
theorem Rh:∀(h:List aj) (z:aj) (cs:List Ch),∃x,after (h++[z]) cs=after h (cs.take h.length)++[x]
 | [],z,[]=>⟨none,rfl⟩
 | [],z,.my::cs=>⟨some z,rfl⟩
 | [],z,.set b::cs=>⟨some b,rfl⟩
 | [],z,.kill::cs=>⟨none,rfl⟩
 |b::bs,z,[]=>by
  obtain⟨x,hx⟩:=Rh bs z [];refine⟨x,?_⟩;simp only[List.take_nil] at hx;simp[after,hx]
 |b::bs,z,.my::cs=>by
  obtain⟨x,hx⟩:=Rh bs z cs;exact⟨x,by simp[after,hx]⟩
 |b::bs,z,.set k::cs=>by
  obtain⟨x,hx⟩:=Rh bs z cs;exact⟨x,by simp[after,hx]⟩
 |b::bs,z,.kill::cs=>by
  obtain⟨x,hx⟩:=Rh bs z cs;exact⟨x,by simp[after,hx]⟩
omit [aA] in
theorem aYc {α:Type}{A N:List α}{x y:α}{b:Nat}(h:b≠A.length):(A++[x]++N)[b]? =(A++y::N)[b]? :=by
 rcases mJ b A.length with h1|h1
 .rw[axH,Uw h1,Uw h1]
 .rw[axH,adG h1,adG h1];obtain⟨m,hm⟩:∃m,b-A.length=m+1:=⟨b-A.length-1,by omega⟩;rw[hm];rfl
theorem Sound.nil {f:FuncId}{F:Fz}(i:Nat)(Lw:List CK)(S:Sound P f F):Sound P f (vA i Lw F):=by
 intro args h res tv w π vs ln hH jZ;unfold vA at tv;split at tv
 .rename_i hi
  obtain⟨r,hr,rfl⟩:=aQO tv;generalize hπ2:(λb=>if b=h.length then some (0,0,0,0) else π b:Pi)=π2
  have p1:∀b,b≠h.length->π2 b=π b:=λb hb=>by rw[<-hπ2];simp[hb]
  have p2:π2 h.length=some (0,0,0,0):=by rw[<-hπ2];simp
  have hx:Ext π π2:=λb p hb=>by
   have:b<h.length:=jZ b (by rw[hb];simp);rw[p1 b (by omega)];exact hb
  have aZM:bu (AV.rel π2) (args.set i (.r (.c (.sl h.length (.k 0) (.s 0) Lw.length true)))) vs.toList:=by
   have ln:=ln.imp (AV.dz hx);refine bu.age (by rw[List.length_set];exact ln.length) λj a v ha hv=> ?_;rw[aEf] at ha;split at ha
   .rename_i hij
    subst hij;split at ha
    .cases ha;obtain⟨v',hv',hr'⟩:=ln.get hi;rw[hv] at hv';cases hv'
     exact⟨0,0,0,0,p2,by simp[cG.val,Sz.val],by simp[cG.val,Sz.val],.inl ⟨rfl,none,hr'⟩⟩
    .cases ha
   .obtain⟨v',hv',hr'⟩:=ln.get ha;rw[hv] at hv';cases hv'
    exact hr'
  have lt:∀b,b<h.length->((h++[EP Lw]).map some)[b]? =(h.map some)[b]? :=λb hb=>by
   rw[List.map_append,Uw (by simpa using hb)]
  have gz:∀b,b<h.length->hZ ((h++[EP Lw]).map some) b=hZ (h.map some) b/\∀j,hC ((h++[EP Lw]).map some) b j=hC (h.map some) b j:=λb hb=>by
   unfold hZ hC;rw[lt b hb];exact⟨rfl,λ_=>rfl⟩
  have gn:hZ ((h++[EP Lw]).map some) h.length=some 0:=by
   unfold hZ;simp[aFe]
  have gd:∀b,h.length<b->hZ ((h++[EP Lw]).map some) b=none:=λb hb=>by
   unfold hZ;rw[J' (by simp;omega)];rfl
  have hH2:sf π2 (hC ((h++[EP Lw]).map some)) (hZ ((h++[EP Lw]).map some)) w:=by
   refine⟨hH.am,λb B s q e hz hb BP=> ?_,λb n hn=> ?_,λb b' B s q e s' q' e' mz hz uo hb fh i i1 i2 i3 i4=> ?_⟩
   .rcases afX b h.length with h1|h1|h1
    .rw[(gz b h1).1] at hz;rw[p1 b (by omega)] at hb;exact hH.lb b B s q e hz hb BP
    .subst h1;rw[p2] at hb;cases hb;omega
    .exact absurd (gd b h1) hz
   .rcases afX b h.length with h1|h1|h1
    .rw[(gz b h1).1] at hn;obtain⟨B,s,e,k1,k2,k3,k4⟩:=hH.hp b n hn
     exact⟨B,s,e,hx _ _ k1,k2,k3,λj hj=>by
      obtain⟨v,v1,v2⟩:=k4 j hj;exact⟨v,v1,by rw[(gz b h1).2];exact CV.dz hx _ _ v2⟩⟩
    .subst h1;rw[gn] at hn;cases hn;exact⟨0,0,0,p2,by omega,λi _ _=>by omega,λj hj=>by omega⟩
    .rw[gd b h1] at hn;cases hn
   .have nz:∀b B s q e,b=h.length->π2 b=some (B,s,q,e)->s=0/\e=0:=λb B s q e hb hp=>by
     rw[hb,p2] at hp;cases hp;exact⟨rfl,rfl⟩
    rcases afX b h.length with h1|h1|h1
    .rcases afX b' h.length with h2|h2|h2
     .rw[(gz b h1).1] at hz;rw[(gz b' h2).1] at uo;rw[p1 b (by omega)] at hb;rw[p1 b' (by omega)] at fh;exact hH.dj b b' B s q e s' q' e' mz hz uo hb fh i i1 i2 i3 i4
     .have:=nz b' B s' q' e' h2 fh;omega
     .exact uo (gd b' h2)
    .have:=nz b B s q e h1 hb;omega
    .exact hz (gd b h1)
  have a12:∀b,π2 b≠none->b<(h++[EP Lw]).length:=λb hb=>by
   rw[axG];show b<h.length+1;rcases afX b h.length with h1|h1|h1
   .omega
   .omega
   .rw[p1 b (by omega)] at hb;have:=jZ b hb;omega
  have aYd:∀B i,Dz π2 (h++[EP Lw]).length (SZ r.yF) B i->Dz π h.length (SZ (r.yF.take h.length)) B i:=by
   rintro B i ⟨b,s,q,e,hb,hD,hp,i1,i2⟩
   rw[axG] at hb;have hb:b<h.length+1:=hb;rcases mJ b h.length with h1|h1
   .rw[p1 b (by omega)] at hp;exact⟨b,s,q,e,h1,λhk=>hD (by rw[abH,if_pos h1] at hk;exact hk),hp,i1,i2⟩
   .obtain rfl:b=h.length:=by omega
    rw[p2] at hp;cases hp;omega
  suffices key:∀e w',tu π2 w (h++[EP Lw]) r e w'->tu π w h ⟨r.val,r.yF.take h.length,EP Lw::r.news⟩ e w' by
   rcases S _ _ r hr w π2 vs aZM hH2 a12 with⟨S1,S2⟩| ⟨v,S1,S2⟩
   .exact .inl ⟨S1,Calls.mono S2 key⟩
   .exact .inr ⟨v,S1,key _ _ S2⟩
  rintro e w' ⟨π',v,rfl,hx',hv,hH',hF,hd,hi'⟩
  have p2':π' h.length=some (0,0,0,0):=hx' _ _ p2;obtain⟨x,hxx⟩:=Rh h (EP Lw) r.yF;have hlen:(after h (r.yF.take h.length)).length=h.length:=m9 ..
  have eq1:∀b,b≠h.length->(r.heap (h++[EP Lw]))[b]? =((⟨r.val,r.yF.take h.length,EP Lw::r.news⟩:pe).heap h)[b]? :=λb hb=>by
   unfold pe.heap;rw[hxx];exact aYc (by rw[hlen];exact hb)
  have eqz:∀b,b≠h.length->hZ ((⟨r.val,r.yF.take h.length,EP Lw::r.news⟩:pe).heap h) b=hZ (r.heap (h++[EP Lw])) b:=λb hb=>by
   unfold hZ;rw[eq1 b hb]
  have eqc:∀b j,b≠h.length->hC ((⟨r.val,r.yF.take h.length,EP Lw::r.news⟩:pe).heap h) b j=hC (r.heap (h++[EP Lw])) b j:=λb j hb=>by
   unfold hC;rw[eq1 b hb]
  have eqn:hZ ((⟨r.val,r.yF.take h.length,EP Lw::r.news⟩:pe).heap h) h.length=some 0:=by
   unfold hZ pe.heap;show(((after h (r.yF.take h.length)++(EP Lw::r.news).map some)[h.length]?).getD none).map aj.size=some 0;rw[adG (by omega),hlen];simp[aFe]
  refine⟨π',v,rfl,hx.trans hx',hv,⟨hH'.am,λb B s q e hz hb BP=> ?_,λb n hn=> ?_,λb b' B s q e s' q' e' mz hz uo hb fh i i1 i2 i3 i4=> ?_⟩,hF.mono λB i _ h=>aYd B i h,λb hb=> ?_,λb B s q e hb hp hB i i1 i2=> ?_⟩
  .by_cases h1:b=h.length
   .rw[h1,p2'] at hb;cases hb;omega
   .rw[eqz b h1] at hz;exact hH'.lb b B s q e hz hb BP
  .by_cases h1:b=h.length
   .subst h1;rw[eqn] at hn;cases hn;exact⟨0,0,0,p2',by omega,λi _ _=>by omega,λj hj=>by omega⟩
   .rw[eqz b h1] at hn;obtain⟨B,s,e,k1,k2,k3,k4⟩:=hH'.hp b n hn;exact⟨B,s,e,k1,k2,k3,λj hj=>by rw[eqc b j h1];exact k4 j hj⟩
  .have nz:∀b B s q e,b=h.length->π' b=some (B,s,q,e)->s=0/\e=0:=λb B s q e hb hp=>by
    rw[hb,p2'] at hp;cases hp;exact⟨rfl,rfl⟩
   by_cases h1:b=h.length
   .have:=nz b B s q e h1 hb;omega
   .by_cases h2:b'=h.length
    .have:=nz b' B s' q' e' h2 fh;omega
    .rw[eqz b h1] at hz;rw[eqz b' h2] at uo;exact hH'.dj b b' B s q e s' q' e' mz hz uo hb fh i i1 i2 i3 i4
  .have:=hd b hb;rw[axG] at this;show b<h.length+(r.news.length+1);have:b<h.length+1+r.news.length:=this;omega
  .by_cases h1:b=h.length
   .rw[h1,p2'] at hp;cases hp;omega
   .exact aYd B i (hi' b B s q e (by rw[axG];show h.length+1<=b;omega) hp hB i i1 i2)
 .exact S args h res tv w π vs ln hH jZ
end Go.Ab
noncomputable section
namespace Go.Ab
inductive Pg (δ:Type):Type 1 where
 |ret (d:δ)
 |no
 |ae (b:Bool) (x y:Pg δ)
 |opt {D:Type} (x:Option D) (f:D->Pg δ)
 |sum {A B:Type} (x:A⊕B) (f:A->Pg δ) (g:B->Pg δ)
namespace Pg
def run {δ ρ:Type}(p:Pg δ)(k:δ->Option ρ):Option ρ:=
 Pg.rec (motive:=λ_=>Option ρ) k none (λb _ _ x y=>cond b x y) (λx _ ih=>x.bind ih) (λx _ _ f g=>t9 f g x) p
def val {δ:Type}(p:Pg δ):Option δ:=p.run some
variable {δ ρ σ:Type}
theorem si (d:δ)(k:δ->Option ρ):(ret d).run k=k d:=rfl
theorem yJ (k:δ->Option ρ):(no:Pg δ).run k=none:=rfl
theorem px (b:Bool)(x y:Pg δ)(k:δ->Option ρ):(ae b x y).run k=bif b then x.run k else y.run k:=rfl
theorem py {D:Type}(x:Option D)(f:D->Pg δ)(k:δ->Option ρ):(opt x f).run k=x.bind λd=>(f d).run k:=rfl
theorem pA {A B:Type}(x:A⊕B)(f:A->Pg δ)(g:B->Pg δ)(k:δ->Option ρ):(sum x f g).run k=t9 (λa=>(f a).run k) (λb=>(g b).run k) x:=rfl
theorem bS (d:δ):(ret d).val=some d:=rfl
theorem dX:(no:Pg δ).val=none:=rfl
theorem bM (b:Bool)(x y:Pg δ):(ae b x y).val=bif b then x.val else y.val:=rfl
theorem ck {D:Type}(x:Option D)(f:D->Pg δ):(opt x f).val=x.bind λd=>(f d).val:=rfl
theorem dt {A B:Type}(x:A⊕B)(f:A->Pg δ)(g:B->Pg δ):(sum x f g).val=t9 (λa=>(f a).val) (λb=>(g b).val) x:=rfl
theorem aNA (p:Pg δ)(k:δ->Option ρ)(q:ρ->Option σ):(p.run k).bind q=p.run λd=>(k d).bind q:=by
 induction p with
 |ret d=>rfl
 |no=>rfl
 |ae b x y ih1 ih2=>rw[px,px,aTC,ih1,ih2]
 |opt x f ih=>
  rw[py,py];cases x with
  |none=>rfl
  |some d=>exact ih d
 |sum x f g ih1 ih2=>
  rw[pA,pA];cases x with
  |inl a=>exact ih1 a
  |inr b=>exact ih2 b
theorem auR (p:Pg δ)(k:δ->Option ρ):p.val.bind k=p.run k:=by
 unfold val;rw[aNA];rfl
def sm {A B:Type}(x:A⊕B)(f:A->Pg δ)(g:B->Pg δ):Pg δ:=ae x.isLeft (opt x.getLeft? f) (opt x.getRight? g)
theorem aDo {A B:Type}(x:A⊕B)(f:A->Pg δ)(g:B->Pg δ):(sm x f g).val=t9 (λa=>(f a).val) (λb=>(g b).val) x:=by cases x<;>rfl
end Pg
def bI {D X:Type}(s:D->Pg (D⊕X))(n:Nat)(d:D):Option X:=S5 (λd c x=>(s d).run (t9 c x)) n d some
theorem alp {D X ρ:Type}(s:D->Pg (D⊕X))(n:Nat)(d:D)(k:X->Option ρ):(bI s n d).bind k=S5 (λd c x=>(s d).run (t9 c x)) n d k:=by
 unfold bI;refine(azY k (λd c x=> ?_) some n d).trans rfl;rw[Pg.aNA];congr 1
 funext y
 cases y<;>rfl
def aFf:List Bool->Prop
 | []=>True
 |b::l=>b=true/\aFf l
theorem ax5:∀{l m:List Bool},aFf (l++m)->aFf l/\aFf m
 | [],_,h=>⟨trivial,h⟩
 |_::_,_,h=>⟨⟨h.1,(ax5 h.2).1⟩,(ax5 h.2).2⟩
structure Rq (α β:Type) where
 rd:α->Option (List Bool×β)
 em:β->α
 ok:∀a l b,rd a=some (l,b)->aFf l->a=em b
abbrev Rq.B {α β:Type}(_:Rq α β):Type:=β
namespace Rq
variable {α β γ δ:Type}
def hole:Rq α α:=⟨λa=>some ([],a),id,λa l b h _=>by cases h;rfl⟩
def one (a:α)(g:α->Bool)(h:∀b,g b=true->b=a):Rq α Unit:=⟨λb=>cond (g b) (some ([],())) none,λ_=>a,λb _ _ hb _=>by
 cases hg:g b<;>rw[hg] at hb<;>first|(cases hb;done)|exact h b hg⟩
def tie (n:Nat):Rq Nat Unit:=⟨λm=>some ([z9 m n],()),λ_=>n,λa l b h hl=>by
 have h1:[z9 a n]=l:=(Prod.mk.inj (Ka h)).1;subst h1;exact lB hl.1⟩
def nat (n:Nat):Rq Nat Unit:=one n (λm=>z9 m n) λ_ h=>lB h
def int (n:Int):Rq Int Unit:=one n (λm=>decide (m=n)) λ_ h=>db h
def bool (n:Bool):Rq Bool Unit:=one n (λm=>m==n) λ_ h=>by simpa using h
def via {α':Type}(f:α->α')(g:α'->Option α)(h:∀a' a,g a'=some a->a'=f a)(x:Rq α β):Rq α' β:=⟨λa=>(g a).bind x.rd,λb=>f (x.em b),λa l b hb hl=>by
 cases ha:g a with
 |none=>rw[ha] at hb;cases hb
 |some c=>rw[ha] at hb;rw[h a c ha,<-x.ok c l b hb hl]⟩
def dp (x:Rq α β)(y:β->Rq γ δ):Rq (α×γ) (β×δ):=⟨λp=>(x.rd p.1).bind λb=>((y b.2).rd p.2).bind λd=>some (b.1++d.1,(b.2,d.2)),λq=>(x.em q.1,(y q.1).em q.2),λp l q h hl=>by
 cases h1:x.rd p.1 with
 |none=>rw[h1] at h;cases h
 |some b=>
  rw[h1] at h;cases h2:(y b.2).rd p.2 with
  |none=>simp only[bG,h2] at h;cases h
  |some d=>
   simp only[bG,h2,hM,qT] at h;obtain⟨rfl,rfl⟩:=h;obtain⟨t,b⟩:=b;obtain⟨s,d⟩:=d;obtain⟨h4,h5⟩:=ax5 hl;exact Prod.ext (x.ok _ _ _ h1 h4) ((y b).ok _ _ _ h2 h5)⟩
def pr (x:Rq α β)(y:Rq γ δ):Rq (α×γ) (β×δ):=dp x λ_=>y
def mp {β':Type}(x:Rq α β)(p:β->β')(q:β'->β)(h:∀b,b=q (p b)):Rq α β':=⟨λa=>(x.rd a).bind λb=>some (b.1,p b.2),λc=>x.em (q c),λa l c hc hl=>by
 cases h1:x.rd a with
 |none=>rw[h1] at hc;cases hc
 |some b=>
  rw[h1] at hc;obtain⟨t,b⟩:=b;cases hc;rw[<-h b];exact x.ok _ _ _ h1 hl⟩
def pl (x:Rq α β)(y:Rq γ Unit):Rq (α×γ) β:=mp (pr x y) Prod.fst (λb=>(b,())) λ_=>rfl
def pu (x:Rq α Unit)(y:Rq γ δ):Rq (α×γ) δ:=mp (pr x y) Prod.snd (λb=>((),b)) λ_=>rfl
def nil:Rq (List α) Unit:=one [] (λl=>match l with| []=>true|_=>false) λb h=>by cases b<;>first|rfl|cases h
def co (x:Rq (α×List α) β):Rq (List α) β:=via (λp:α×List α=>p.1::p.2) (λl=>match l with|a::l=>some (a,l)|_=>none) (λa' a h=>by cases a'<;>cases h;rfl) x
def c (x:Rq α β)(y:Rq (List α) δ):Rq (List α) (β×δ):=co (pr x y)
def cl (x:Rq α β)(y:Rq (List α) Unit):Rq (List α) β:=co (pl x y)
def cu (x:Rq α Unit)(y:Rq (List α) δ):Rq (List α) δ:=co (pu x y)
def cd (x:Rq α β)(y:β->Rq (List α) δ):Rq (List α) (β×δ):=co (dp x y)
def ap (n:Nat)(x:Rq (List α×List α) β):Rq (List α) β:=via (λp:List α×List α=>p.1++p.2) (λl=>some (l.take n,l.drop n)) (λa' a h=>by cases h;simp) x
def a (n:Nat)(x:Rq (List α) β)(y:Rq (List α) δ):Rq (List α) (β×δ):=ap n (pr x y)
def al (n:Nat)(x:Rq (List α) β)(y:Rq (List α) Unit):Rq (List α) β:=ap n (pl x y)
def au (n:Nat)(x:Rq (List α) Unit)(y:Rq (List α) δ):Rq (List α) δ:=ap n (pu x y)
def no:Rq (Option α) Unit:=one none (λl=>match l with|none=>true|_=>false) λb h=>by cases b<;>first|rfl|cases h
def so (x:Rq α β):Rq (Option α) β:=via some (λa=>a) (λa' a h=>h) x
def szl (x:Rq Nat β):Rq Sz β:=via Sz.l (λz=>match z with|.l n=>some n|_=>none) (λa' a h=>by cases a'<;>cases h;rfl) x
def szs (x:Rq Nat β):Rq Sz β:=via Sz.s (λz=>match z with|.s n=>some n|_=>none) (λa' a h=>by cases a'<;>cases h;rfl) x
def ok' (x:Rq Nat β):Rq cG β:=via cG.k (λz=>match z with|.k n=>some n|_=>none) (λa' a h=>by cases a'<;>cases h;rfl) x
def ox (x:Rq (Nat×Nat×Nat) β):Rq cG β:=via (λp:Nat×Nat×Nat=>cG.x p.1 p.2.1 p.2.2) (λz=>match z with|.x a b c=>some (a,b,c)|_=>none) (λa' a h=>by cases a'<;>cases h;rfl) x
def fi (k:IntKind)(x:Rq Int β):Rq FV β:=via (FV.i k) (λz=>match z with|.i k' n=>cond (decide (k'=k)) (some n) none|_=>none) (λa' a h=>by
 cases a' with
 |i k' n=>
  cases hk:decide (k'=k)<;>simp only[hk] at h<;>first|(cases h;done)|(cases h;rw[db hk])
 |_=>cases h) x
def fb (x:Rq Bool β):Rq FV β:=via FV.b (λz=>match z with|.b n=>some n|_=>none) (λa' a h=>by cases a'<;>cases h;rfl) x
def fs (x:Rq ByteArray β):Rq FV β:=via FV.s (λz=>match z with|.s n=>some n|_=>none) (λa' a h=>by cases a'<;>cases h;rfl) x
def cf (x:Rq FV β):Rq CV β:=via CV.f (λz=>match z with|.f n=>some n|_=>none) (λa' a h=>by cases a'<;>cases h;rfl) x
def LC (x:Rq (Nat×cG×Nat) β):Rq CV β:=via (λp:Nat×cG×Nat=>CV.ptr p.1 p.2.1 p.2.2) (λz=>match z with|.ptr a b c=>some (a,b,c)|_=>none) (λa' a h=>by cases a'<;>cases h;rfl) x
def ccl (x:Rq (Nat×Nat×cG×Nat) β):Rq CV β:=via (λp:Nat×Nat×cG×Nat=>CV.cl p.1 p.2.1 p.2.2.1 p.2.2.2) (λz=>match z with|.cl e a b c=>some (e,a,b,c)|_=>none) (λa' a h=>by cases a'<;>cases h;rfl) x
def gr (x:Rq (Nat×cG×Sz×Nat×Bool) β):Rq CV β:=via (λp:Nat×cG×Sz×Nat×Bool=>CV.sl p.1 p.2.1 p.2.2.1 p.2.2.2.1 p.2.2.2.2) (λz=>match z with|.sl a b c d e=>some (a,b,c,d,e)|_=>none) (λa' a h=>by cases a'<;>cases h;rfl) x
def cfs (x:Rq (Nat×Nat×List cS) β):Rq CV β:=via (λp:Nat×Nat×List cS=>CV.fs p.1 p.2.1 p.2.2) (λz=>match z with|.fs a b c=>some (a,b,c)|_=>none) (λa' a h=>by cases a'<;>cases h;rfl) x
def aDL:Rq CV Unit:=one .aiw (λl=>match l with|.aiw=>true|_=>false) λb h=>by cases b<;>first|rfl|cases h
def aVU:Rq CV Unit:=one .nils (λl=>match l with|.nils=>true|_=>false) λb h=>by cases b<;>first|rfl|cases h
def ki (k:IntKind)(x:Rq (Nat->Int) β):Rq cS β:=via (cS.i k) (λz=>match z with|.i k' n=>cond (decide (k'=k)) (some n) none|_=>none) (λa' a h=>by
 cases a' with
 |i k' n=>
  cases hk:decide (k'=k)<;>simp only[hk] at h<;>first|(cases h;done)|(cases h;rw[db hk])
 |_=>cases h) x
def kb (x:Rq (Nat->Bool) β):Rq cS β:=via cS.b (λz=>match z with|.b n=>some n|_=>none) (λa' a h=>by cases a'<;>cases h;rfl) x
def ks (x:Rq (Nat->ByteArray) β):Rq cS β:=via cS.s (λz=>match z with|.s n=>some n|_=>none) (λa' a h=>by cases a'<;>cases h;rfl) x
def gc (x:Rq CV β):Rq Sg β:=via Sg.c (λz=>match z with|.c n=>some n|_=>none) (λa' a h=>by cases a'<;>cases h;rfl) x
def ga (x:Rq (Sz×List cS) β):Rq Sg β:=via (λp:Sz×List cS=>Sg.a p.1 p.2) (λz=>match z with|.a n c=>some (n,c)|_=>none) (λa' a h=>by cases a'<;>cases h;rfl) x
def rc (x:Rq CV β):Rq RV β:=via RV.c (λz=>match z with|.c n=>some n|_=>none) (λa' a h=>by cases a'<;>cases h;rfl) x
def ra (x:Rq aj β):Rq RV β:=via RV.agg (λz=>match z with|.agg n=>some n|_=>none) (λa' a h=>by cases a'<;>cases h;rfl) x
def ar (x:Rq RV β):Rq AV β:=via AV.r (λz=>match z with|.r n=>some n|_=>none) (λa' a h=>by cases a'<;>cases h;rfl) x
def rH (x:Rq (List RV) β):Rq AV β:=via AV.tup (λz=>match z with|.tup n=>some n|_=>none) (λa' a h=>by cases a'<;>cases h;rfl) x
def afn (x:Rq (Nat×List RV) β):Rq AV β:=via (λp:Nat×List RV=>AV.fn p.1 p.2) (λz=>match z with|.fn a b=>some (a,b)|_=>none) (λa' a h=>by cases a'<;>cases h;rfl) x
def a06:Rq AV Unit:=one .Wl (λl=>match l with|.Wl=>true|_=>false) λb h=>by cases b<;>first|rfl|cases h
def st (x:Rq (List AV×List (Option aj)×List Nat) β):Rq St β:=via (λp:List AV×List (Option aj)×List Nat=>St.mk p.1 p.2.1 p.2.2) (λz=>some (z.tmps,z.heap,z.dh)) (λa' a h=>by cases a';cases h;rfl) x
def fD:Rq Ch Unit:=one .my (λl=>match l with|.my=>true|_=>false) λb h=>by cases b<;>first|rfl|cases h
def Vb:Rq Ch Unit:=one .kill (λl=>match l with|.kill=>true|_=>false) λb h=>by cases b<;>first|rfl|cases h
def zT (x:Rq aj β):Rq Ch β:=via Ch.set (λz=>match z with|.set n=>some n|_=>none) (λa' a h=>by cases a'<;>cases h;rfl) x
def res (x:Rq (AV×List Ch×List aj) β):Rq pe β:=via (λp:AV×List Ch×List aj=>pe.mk p.1 p.2.1 p.2.2) (λz=>some (z.val,z.yF,z.news)) (λa' a h=>by cases a';cases h;rfl) x
def us:Nat->Rq (List AV) β->Rq (List AV) β
 |0,x=>x
 |n+1,x=>cu a06 (us n x)
def xs:Nat->Rq (List AV) β->Rq (List AV) β
 |0,x=>x
 |n+1,x=>cu (rH nil) (xs n x)
def ci:Rq CV Int:=cf (fi .i64 hole)
def cn:Rq CV Int:=cf (fi .u64 hole)
def cb:Rq CV Bool:=cf (fb hole)
def ct:Rq CV ByteArray:=cf (fs hole)
def gi:Rq Sg Int:=gc ci
def gn:Rq Sg Int:=gc cn
def gb:Rq Sg Bool:=gc cb
def gt:Rq Sg ByteArray:=gc ct
def ac (x:Rq CV β):Rq AV β:=ar (rc x)
def ai:Rq AV Int:=ac ci
def an:Rq AV Int:=ac cn
def ab:Rq AV Bool:=ac cb
def aa (x:Rq aj β):Rq AV β:=ar (ra x)
def cp (b n:Nat):Rq CV Unit:=LC (pu (nat b) (pu (ok' (nat 0)) (nat n)))
def gp (b n:Nat):Rq Sg Unit:=gc (cp b n)
def app (b n:Nat):Rq AV Unit:=ac (cp b n)
def slc (b z:Nat):Rq CV (Nat×Bool):=gr (pu (nat b) (pu (ok' (nat 0)) (pr (szs hole) (pu (nat z) hole))))
def AG (b z:Nat):Rq CV Nat:=gr (pu (nat b) (pu (ok' (nat 0)) (pl (szs hole) (pu (nat z) (bool true)))))
def gl (n:Nat)(x:Rq (List cS) β):Rq Sg β:=ga (pu (szl (nat n)) x)
def gs (n:Nat)(x:Rq (List cS) β):Rq Sg β:=ga (pu (szs (tie n)) x)
def fZ:Rq cS (Nat->Int):=ki .i64 hole
def kcb:Rq cS (Nat->Bool):=kb hole
end Rq
abbrev Ct:=Nat×Fz
def T.ax6 (l:List Bool)(t:T):T:=List.rec (motive:=λ_=>T) t (λb _ r=>.test b r .fail) l
def aYe {ρ:Type}(l:List Bool)(t:Option ρ):Option ρ:=List.rec (motive:=λ_=>Option ρ) t (λb _ r=>cond b r none) l
theorem alq {t:T}{r:pe}:∀{l:List Bool},(T.ax6 l t).eval=some r->aFf l/\t.eval=some r
 | [],h=>⟨trivial,h⟩
 |b::l,h=>by
  obtain⟨h1,h2⟩:=aFd (b:=b) (a:=T.ax6 l t) h;obtain⟨h3,h4⟩:=alq h2;exact⟨⟨h1,h3⟩,h4⟩
theorem aFg {ρ:Type}{t:Option ρ}{r:ρ}:∀{l:List Bool},aYe l t=some r->aFf l/\t=some r
 | [],h=>⟨trivial,h⟩
 |b::l,h=>by
  have h':cond b (aYe l t) none=some r:=h;cases b with
  |false=>cases h'
  |true=>
   obtain⟨h3,h4⟩:=aFg h';exact⟨⟨rfl,h3⟩,h4⟩
def FC {β δ:Type}(Q:Rq (List AV×List aj) β)(R:δ->T)(f:β->Option δ):Fz:=λa h=>match Q.rd (a,h) with
 |some b=>T.ax6 b.1 (.opt (f b.2) R)
 |none=>.fail
def fQ {D X:Type}(id kk:Nat)(Q:Rq St D)(E:∀{ρ:Type},X->(AX->St->Option ρ)->Option ρ)(l:D->Option X):Sm:=⟨id,kk,λs k=>match Q.rd s with
 |some b=>aYe b.1 ((l b.2).bind λx=>E x k)
 |none=>none⟩
def akX {β δ:Type}(P:Program)(l:List Ct)(hs:Hs)(lf n:Nat)(Q:Rq (List AV×List aj) β)(R:δ->T)(B:β->Pg δ):Prop:=
 ∀b,den P (FA l) hs lf n (Q.em b).1 (Q.em b).2=(B b).run λd=>(R d).eval
def aR9 {D X:Type}(P:Program)(l:List Ct)(hs:Hs)(kk lf n id:Nat)(Q:Rq St D)(E:∀{ρ:Type},X->(AX->St->Option ρ)->Option ρ)(S:D->Pg (D⊕X)):Prop:=
 ∀(ρ:Type) (d:D) (c:St->Option ρ) (K:AX->St->Option ρ),HG P (FA l) hs (tmpsOf P n) kk lf (ZU P n id) (Q.em d) (next (λt=>t.head kk hs (ZU P n id)) c K)=
  (S d).run (t9 (λd=>c (Q.em d)) λx=>E x K)
def aSa {D X:Type}(P:Program)(l:List Ct)(hs:Hs)(kk lf n id:Nat)(Q:Rq St D)(E:∀{ρ:Type},X->(AX->St->Option ρ)->Option ρ)(S:D->Pg X):Prop:=
 ∀(ρ:Type) (d:D) (K:AX->St->Option ρ),HG P (FA l) hs (tmpsOf P n) kk lf (afV P n id) (Q.em d) K=(S d).run λx=>E x K
section
variable [aA]
def Snd (P:Program)(e:Ct):Prop:=Sound P e.1 e.2
theorem Snd.of {P:Program}{e:Ct}{n:Nat}{F:Fz}(S:Sound P n F)(h:e=(n,F)):Snd P e:=by
 subst h;exact S
theorem J9.c {P:Program}{l:List Ct}{e:Ct}(S:Snd P e)(h:J9 P l):J9 P (e::l):=J9.cons S h
omit [aA] in
theorem aNB {D X:Type}{id kk:Nat}{Q:Rq St D}{E:∀{ρ:Type},X->(AX->St->Option ρ)->Option ρ}{l:D->Option X}{ρ:Type}{s:St}{K:AX->St->Option ρ}{r:ρ}
  (h:(fQ id kk Q E l).run s K=some r):∃d,s=Q.em d/\((l d).bind λx=>E x K)=some r:=by
 simp only[fQ] at h;split at h
 .rename_i b hb
  obtain⟨t,d⟩:=b;obtain⟨h1,h2⟩:=aFg h;exact⟨d,Q.ok s t d hb h1,h2⟩
 .cases h
theorem mkL {D X:Type}{P:Program}{l:List Ct}{hs:Hs}{kk lf n id:Nat}{Q:Rq St D}{E:∀{ρ:Type},X->(AX->St->Option ρ)->Option ρ}{S:D->Pg (D⊕X)}
  (h0:ap6 hs (ZU P n id)=some (fQ id kk Q E (bI S lf)))(h:aR9 P l hs kk lf n id Q E S):∀k',Oq P (FA l) hs (tmpsOf P n) k' lf (ZU P n id):=
 Oq.of (id:=id) (k0:=kk) (run:=(fQ id kk Q E (bI S lf)).run) h0 λs K r hr=>by
  obtain⟨d,rfl,ZC⟩:=aNB hr;refine⟨lf,?_⟩;rw[alp] at ZC;exact(azZ (emb:=Q.em) (step:=λd c x=>(S d).run (t9 c x)) (kx:=λx=>E x K) (λd c=>h _ d c K) lf d).trans ZC
theorem mkJ {D X:Type}{P:Program}{l:List Ct}{hs:Hs}{kk lf n id:Nat}{hd:Hd}{Q:Rq St D}{E:∀{ρ:Type},X->(AX->St->Option ρ)->Option ρ}{S:D->Pg X}
  (h0:azC hs (afV P n id)=some ⟨hd,fQ id kk Q E λd=>(S d).val⟩)(h:aSa P l hs kk lf n id Q E S):∀k',auq P (FA l) hs (tmpsOf P n) k' lf (afV P n id):=
 auq.of (id:=id) (k0:=kk) (hd:=hd) (run:=(fQ id kk Q E λd=>(S d).val).run) h0 λs K r hr=>by
  obtain⟨d,rfl,ZC⟩:=aNB hr;rw[Pg.auR] at ZC;exact(h _ d K).trans ZC
omit [aA] in
theorem aYf {β δ:Type}{Q:Rq (List AV×List aj) β}{R:δ->T}{B:β->Pg δ}{a:List AV}{h:List aj}{r:pe}(hr:(FC Q R (λb=>(B b).val) a h).eval=some r):
  ∃b,(a,h)=Q.em b/\((B b).run λd=>(R d).eval)=some r:=by
 unfold FC at hr;split at hr
 .rename_i b hb
  obtain⟨t,b⟩:=b;obtain⟨h1,ZC⟩:=alq hr;rw[as4,Pg.auR] at ZC;exact⟨b,Q.ok _ _ _ hb h1,ZC⟩
 .cases hr
theorem mkS {β δ:Type}{P:Program}{l:List Ct}{hs:Hs}{lf n:Nat}{Q:Rq (List AV×List aj) β}{R:δ->T}{B:β->Pg δ}(hm:P.follows .mixedOrders=true)(hl:J9 P l)(hc:GN P n=true)
  (aNt:∀fn c kk,P.funcs[n]? =some fn->fn.body=some c->LG P (FA l) hs fn.ntmps kk lf c)(h:akX P l hs lf n Q R B):Sound P n (FC Q R λb=>(B b).val):=
 (aTv hl hm aNt hc).by λa b r hr=>by
  obtain⟨b,e,ZC⟩:=aYf hr;obtain⟨rfl,rfl⟩:=Prod.mk.inj e;exact aTw ((h b).trans ZC)
theorem mk0 {β δ:Type}{P:Program}{l:List Ct}{d0:List Nat}{lf n:Nat}{Q:Rq (List AV×List aj) β}{R:δ->T}{B:β->Pg δ}(hm:P.follows .mixedOrders=true)(hl:J9 P l)(hc:GN P n=true)
  (h:akX P l ⟨[],[],d0,[],none⟩ lf n Q R B):Sound P n (FC Q R λb=>(B b).val):=
 mkS hm hl hc (λ_ _ _ _ _=>LG.nil ..) h
omit [aA] in
theorem aNC {t t':T}{r:pe}(h:t.eval=some r->t'.eval=some r)(l:List Bool):(T.ax6 l t).eval=some r->(T.ax6 l t').eval=some r:=by
 induction l with
 |nil=>exact h
 |cons b l ih=>
  intro k;obtain⟨h1,h2⟩:=aFd (b:=b) (a:=T.ax6 l t) k;subst h1;exact ih h2
theorem FH {β δ:Type}{P:Program}{n:Nat}{Q:Rq (List AV×List aj) β}{R R':δ->T}{f:β->Option δ}(h:∀d r,(R' d).eval=some r->(R d).eval=some r)(S:Sound P n (FC Q R f)):Sound P n (FC Q R' f):=S.by λa b r hr=>by
 unfold FC at hr ⊢;split at hr
 .rename_i x hx
  refine aNC (λhr=> ?_) x.1 hr;rw[as4] at hr ⊢;cases hf:f x.2 with
  |none=>rw[hf] at hr;cases hr
  |some d=>rw[hf,bG] at hr;exact h d r hr
 .cases hr
end
abbrev wI (n:Int):Int:=IntKind.wrap .i64 n
abbrev wU (n:Int):Int:=IntKind.wrap .u64 n
end Go.Ab
namespace Go.Ab
theorem aIY {a:Bool}{pt:List PT}{ps:List Prm}{ds:List Dat}(h:aFa (.flat a pt::ps) ds):∃l ds',ds=.flat l::ds'/\bu aIV pt l/\aFa ps ds':=by
 match ds,h with
 |.flat l::ds',h=>exact⟨l,ds',rfl,h.1,h.2⟩
theorem aZN {ks:List K}{ps:List Prm}{ds:List Dat}(h:aFa (.sl ks::ps) ds):∃n cols ds',ds=.sl n cols::ds'/\n<=maxLen/\bu (λk c=>K.nR k n c) ks cols/\aFa ps ds':=by
 match ds,h with
 |.sl n cols::ds',h=>exact⟨n,cols,ds',rfl,h.1.1,h.1.2,h.2⟩
theorem aYg {ds:List Dat}(h:aFa [] ds):ds=[]:=by cases ds<;>first|rfl|cases h
theorem aSJ {l:List DC}(h:bu aIV [] l):l=[]:=by cases l<;>first|rfl|cases h
theorem a07 {k:IntKind}{pt:List PT}{l:List DC}(h:bu aIV (.c (.i k)::pt) l):∃x l',l=.c (.i k x)::l'/\(k.min<=x/\x<=k.max)/\bu aIV pt l':=by
 match l,h with
 |.c (.i k' x)::l',h=>
  obtain⟨⟨rfl,h1⟩,h2⟩:=h;exact⟨x,l',rfl,h1,h2⟩
theorem aYh {n:Nat}{l:List cS}(h:bu (λk c=>K.nR k n c) [] l):l=[]:=by cases l<;>first|rfl|cases h
theorem Bd {n:Nat}{k:IntKind}{ks:List K}{l:List cS}(h:bu (λk c=>K.nR k n c) (.i k::ks) l):∃g l',l=.i k g::l'/\(∀j,j<n->k.min<=g j/\g j<=k.max)/\bu (λk c=>K.nR k n c) ks l':=by
 match l,h with
 |.i k' g::l',h=>
  obtain⟨⟨rfl,h1⟩,h2⟩:=h;exact⟨g,l',rfl,h1,h2⟩
theorem aab {D X ρ:Type}(s:D->(D->Option ρ)->(X->Option ρ)->Option ρ)(n:Nat)(d:D)(k:X->Option ρ):S5 s (n+1) d k=s d (λd=>S5 s n d k) k:=rfl
theorem aFh {D X ρ:Type}{s:D->(D->Option ρ)->(X->Option ρ)->Option ρ}{k:X->Option ρ}{r:Option ρ}(Inv:Nat->D->Prop)
  (h:∀t d c,Inv t d->(∀t' d',t'<t->Inv t' d'->c d'=r)->s d c k=r):∀(fuel t:Nat) (d:D),t<fuel->Inv t d->S5 s fuel d k=r
 |0,t,d,hf,hd=>by omega
 |fuel+1,t,d,hf,hd=>by
  rw[aab];exact h t d _ hd λt' d' ht hd'=>aFh Inv h fuel t' d' (by omega) hd'
theorem wrap_i64 {n:Int}(h1: -9223372036854775808<=n)(h2:n<=9223372036854775807):IntKind.wrap .i64 n=n:=by
 unfold IntKind.wrap;simp only[IntKind.signed,IntKind.bits,o8,jG,show(2:Int)^64=18446744073709551616 from rfl,show(2:Int)^(64-1)=9223372036854775808 from rfl];split<;>omega
theorem wrap_u64 (n:Int):IntKind.wrap .u64 n=n%18446744073709551616:=by
 unfold IntKind.wrap;simp only[IntKind.signed,IntKind.bits,Bool.false_and,show(2:Int)^64=18446744073709551616 from rfl,xS,fT]
theorem FI {D X ρ:Type}{s:D->Pg (D⊕X)}{k:X->Option ρ}{r:Option ρ}(Inv:Nat->D->Prop)
  (h:∀t d c,Inv t d->(∀t' d',t'<t->Inv t' d'->c d'=r)->(s d).run (t9 c k)=r)(fuel t:Nat)(d:D)(hf:t<fuel)(hd:Inv t d):(bI s fuel d).bind k=r:=by
 rw[alp];exact aFh Inv h fuel t d hf hd
theorem aac {D X:Type}{s:D->Pg (D⊕X)}(Inv:Nat->D->Prop)(Q:X->Prop)
  (h:∀t d,Inv t d->∃y,(s d).val=some y/\match y with|.inl d'=>∃t',t'<t/\Inv t' d'|.inr x=>Q x):∀(fuel t:Nat) (d:D),t<fuel->Inv t d->∃x,bI s fuel d=some x/\Q x
 |0,t,d,hf,hd=>by omega
 |fuel+1,t,d,hf,hd=>by
  obtain⟨y,hy,hq⟩:=h t d hd;have e:bI s (fuel+1) d=(s d).run (t9 (λd=>bI s fuel d) some):=rfl;rw[e,<-Pg.auR,hy,bG];cases y with
  |inl d'=>obtain⟨t',ht,hd'⟩:=hq;exact aac Inv Q h fuel t' d' (by omega) hd'
  |inr x=>exact⟨x,rfl,hq⟩
class bp {D:Type} (x:Option D):Prop where
 ok:∃d,x=some d
def Ok {D:Type}(x:Option D)(Q:D->Prop):Prop:=∃d,x=some d/\Q d
def PQ {δ:Type}(p:Pg δ)(Q:δ->Prop):Prop:=Ok p.val Q
section
variable {δ D A B:Type} {Q:δ->Prop}
theorem Ok.tot {x:Option D}{Q:D->Prop}(h:Ok x Q):bp x:=⟨h.imp λ_ h=>h.1⟩
theorem Ok.post {x:Option D}{Q:D->Prop}(h:Ok x Q){d:D}(e:x=some d):Q d:=by
 obtain⟨d',e',h⟩:=h;rw[e] at e';cases e';exact h
theorem Ok.mono {x:Option D}{Q R:D->Prop}(h:Ok x Q)(k:∀d,Q d->R d):Ok x R:=h.imp λ_ h=>⟨h.1,k _ h.2⟩
theorem bp.Ok {x:Option D}(h:bp x){Q:D->Prop}(k:∀d,x=some d->Q d):Ok x Q:=by
 obtain⟨d,e⟩:=h.ok;exact⟨d,e,k d e⟩
theorem aYi (d:D)(Q:D->Prop):Ok (some d) Q=Q d:=propext (Iff.intro (λh=>Ok.post h rfl) λh=>⟨d,rfl,h⟩)
theorem aw (d:δ):PQ (.ret d) Q=Q d:=aYi d Q
theorem aQP:PQ (.no:Pg δ) Q=False:=propext (Iff.intro (λh=>by obtain⟨_,h,_⟩:=h;cases h) λh=>False.elim h)
theorem aL (b:Bool)(x y:Pg δ):PQ (.ae b x y) Q=((b=true->PQ x Q)/\(b=false->PQ y Q)):=by
 unfold PQ;rw[Pg.bM];cases b<;>simp
theorem bO (b:Bool)(x:Pg δ):PQ (.ae b x .no) Q=(b=true/\PQ x Q):=by
 rw[aL,aQP];cases b<;>simp
theorem aD (x y:Pg δ):PQ (.ae true x y) Q=PQ x Q:=by unfold PQ;rw[Pg.bM];rfl
theorem bL (x:Option D)(f:D->Pg δ)[h:bp x]:PQ (.opt x f) Q=∀d,x=some d->PQ (f d) Q:=by
 obtain⟨d,rfl⟩:=h.ok;unfold PQ;rw[Pg.ck,bG];exact propext (Iff.intro (λh d' e=>by cases e;exact h) λh=>h d rfl)
theorem cy (d:D)(f:D->Pg δ):PQ (.opt (some d) f) Q=PQ (f d) Q:=rfl
theorem ax {x:Option D}{f:D->Pg δ}{R:D->Prop}(h:Ok x R)(k:∀d,x=some d->R d->PQ (f d) Q):PQ (.opt x f) Q:=by
 obtain⟨d,rfl,hr⟩:=h;exact k d rfl hr
theorem tw (x:A⊕B)(f:A->Pg δ)(g:B->Pg δ):PQ (.sum x f g) Q=((∀a,x=.inl a->PQ (f a) Q)/\∀b,x=.inr b->PQ (g b) Q):=by
 unfold PQ;rw[Pg.dt];cases x<;>simp
theorem tX (x:A⊕B)(f:A->Pg δ)(g:B->Pg δ):PQ (.sm x f g) Q=((∀a,x=.inl a->PQ (f a) Q)/\∀b,x=.inr b->PQ (g b) Q):=by
 unfold PQ;rw[Pg.aDo];cases x<;>simp
theorem aJ {p:Pg δ}(h:PQ p λ_=>True):bp p.val:=Ok.tot h
theorem qG {D X:Type}{s:D->Pg (D⊕X)}(I:D->Prop)(m:D->Nat)(R:X->Prop)
  (h:∀d,I d->PQ (s d) (t9 (λd'=>I d'/\m d'<m d) R)):∀(n:Nat) (d:D),I d->m d<n->Ok (bI s n d) R:=λn d hd hn=>by
 refine aac (λt d=>I d/\m d=t) R (λt d hd=> ?_) n (m d) d hn ⟨hd,rfl⟩;obtain⟨y,hy,hq⟩:=h d hd.1;refine⟨y,hy,?_⟩;cases y with
 |inl d'=>exact⟨m d',hd.2▸hq.2,hq.1,rfl⟩
 |inr x=>exact hq
end
theorem aZ {n:Int}(h:0<=n:=by omega)(k:n<=4611686018427387904:=by omega):wI (n+1)=n+1:=wrap_i64 (by omega) (by omega)
theorem dS {n:Int}(h: -4611686018427387904<=n:=by omega)(k:n<=4611686018427387904:=by omega):wI n=n:=wrap_i64 (by omega) (by omega)
theorem bz {n:Int}{m:Nat}:bg n m=true↔0<=n/\n<m:=by simp[bg]
theorem adR {n:Int}{m:Nat}:HF n m=true↔0<=n/\n<=m:=by simp[HF]
theorem ch {m n:Nat}:wl m n=true↔m<=n:=by rw[Nat.ble_eq]
theorem nf {b:Bool}:(b=false->False)↔b=true:=by cases b<;>simp
theorem hdN (n:Nat)(h:n<=1999):(0:Int)<=0/\(0:Int)<=wr n/\wr n<=1999/\wr n=(n:Int):=by
 simp only[dH,Cf];omega
theorem aQ (m:Nat):z9 m m=true:=FE m
theorem bU:(∀{δ:Type} {Q:δ->Prop} (d:δ),PQ (.ret d) Q=Q d)/\(∀{δ:Type} {Q:δ->Prop} (b:Bool) (x:Pg δ),PQ (.ae b x .no) Q=(b=true/\PQ x Q))/\(∀{δ:Type} {Q:δ->Prop} (b:Bool) (x y:Pg δ),PQ (.ae b x y) Q=((b=true->PQ x Q)/\(b=false->PQ y Q)))
  /\(∀{δ D:Type} {Q:δ->Prop} (x:Option D) (f:D->Pg δ) [h:bp x],PQ (.opt x f) Q=∀d,x=some d->PQ (f d) Q)/\(∀{δ A B:Type} {Q:δ->Prop} (x:A⊕B) (f:A->Pg δ) (g:B->Pg δ),PQ (.sum x f g) Q=((∀a,x=.inl a->PQ (f a) Q)/\∀b,x=.inr b->PQ (g b) Q))
  /\(∀{δ A B:Type} {Q:δ->Prop} (x:A⊕B) (f:A->Pg δ) (g:B->Pg δ),PQ (.sm x f g) Q=((∀a,x=.inl a->PQ (f a) Q)/\∀b,x=.inr b->PQ (g b) Q))/\(∀{δ:Type} {Q:δ->Prop},PQ (.no:Pg δ) Q=False)
  /\(∀{A B C:Type} (f:A->C) (g:B->C) (x:A),t9 f g (.inl x)=f x)/\(∀{A B C:Type} (f:A->C) (g:B->C) (x:B),t9 f g (.inr x)=g x)
  /\(∀p:Prop,(p->True)=True)/\(∀α:Type,(α->True)=True)/\(∀p:Prop,(p/\True)=p)/\(∀p:Prop,(True/\p)=p)/\∀p:Prop,(p/\p)=p:=
 ⟨λd=>aw d,λb x=>bO b x,λb x y=>aL b x y,λx f _=>bL x f,λx f g=>tw x f g,λx f g=>tX x f g,aQP,λ_ _ _=>rfl,λ_ _ _=>rfl,λp=>Ov p,λα=>Ov α,Cf,AI,and_self⟩
theorem qW:(∀m,z9 m m=true)/\(∀p:Prop,(True->p)=p)/\((true=false)=False)/\(∀p:Prop,(False->p)=True)/\∀{δ D:Type} {Q:δ->Prop} (d:D) (f:D->Pg δ),PQ (.opt (some d) f) Q=PQ (f d) Q:=
 ⟨aQ,SQ,Ou,FD,λd f=>cy d f⟩
theorem uq:(∀{n:Int} {m:Nat},bg n m=true↔0<=n/\n<m)/\(∀{n:Int} {m:Nat},HF n m=true↔0<=n/\n<=m)/\(∀{m n:Nat},wl m n=true↔m<=n)/\(∀m,z9 m m=true)/\(∀a b:Bool,((a&&b)=true)=(a=true/\b=true))/\(∀{p:Prop} [Decidable p],(decide p=true)=p)
  /\(∀{p:Prop} [Decidable p],decide p=false↔¬p)/\(∀{a b:Int},(a==b)=true↔a=b)/\(∀b:Bool,(true&&b)=b)/\∀n:Nat,wr n=(n:Int):=
 ⟨bz,adR,ch,aQ,λa b=>cK a b,λ{_} _=>jG,λ{_} _=>Ot,beq_iff_eq,o8,dH⟩
theorem bV {D X:Type}{s:D->Pg (D⊕X)}{I:D->Prop}{R:X->Prop}(m:D->Nat)(h:∀d,I d->PQ (s d) (t9 (λd'=>I d'/\m d'<m d) R))(k:∀d,I d->m d<2000):∀d:D,I d->Ok (bI s 2000 d) R:=λd hd=>qG I m R h 2000 d hd (k d hd)
end Go.Ab
namespace Go.Ab
def Po {D:Type}(x:Option D)(Q:D->Prop):Prop:=∀d,x=some d->Q d
def PW {δ:Type}(p:Pg δ)(Q:δ->Prop):Prop:=Po p.val Q
section
variable {δ D A B:Type} {Q:δ->Prop}
theorem Po.mono {x:Option D}{Q R:D->Prop}(h:Po x Q)(k:∀d,Q d->R d):Po x R:=λd e=>k d (h d e)
theorem Po.and {x:Option D}{Q R:D->Prop}(h:Po x Q)(k:Po x R):Po x (λd=>Q d/\R d):=λd e=>⟨h d e,k d e⟩
theorem Po.true {x:Option D}:Po x (λ_=>True):=λ_ _=>trivial
theorem Ok.with {x:Option D}{Q R:D->Prop}(h:Ok x Q)(k:Po x R):Ok x (λd=>Q d/\R d):=by
 obtain⟨d,e,q⟩:=h;exact⟨d,e,q,k d e⟩
theorem Ok.po {x:Option D}{Q:D->Prop}(h:Ok x Q):Po x Q:=λd e=>h.post e
theorem aYj (d:D)(Q:D->Prop):Po (some d) Q=Q d:=propext (Iff.intro (λh=>h d rfl) λh d' e=>by cases e;exact h)
theorem ba (d:δ):PW (.ret d) Q=Q d:=aYj d Q
theorem du:PW (.no:Pg δ) Q=True:=propext (Iff.intro (λ_=>trivial) λ_ d h=>by cases h)
theorem bD (b:Bool)(x y:Pg δ):PW (.ae b x y) Q=((b=true->PW x Q)/\(b=false->PW y Q)):=by
 unfold PW;rw[Pg.bM];cases b<;>simp
theorem aFi (b:Bool)(x:Pg δ):PW (.ae b x .no) Q=(b=true->PW x Q):=by
 rw[bD,du];cases b<;>simp
theorem bQ (x:Option D)(f:D->Pg δ):PW (.opt x f) Q=∀d,x=some d->PW (f d) Q:=by
 unfold PW;rw[Pg.ck];cases x with
 |none=>exact propext (Iff.intro (λ_ d e=>by cases e) λ_ d e=>by cases e)
 |some d=>exact propext (Iff.intro (λh d' e=>by cases e;exact h) λh=>h d rfl)
theorem aK {x:Option D}{f:D->Pg δ}{R:D->Prop}(h:Po x R)(k:∀d,x=some d->R d->PW (f d) Q):PW (.opt x f) Q:=by
 rw[bQ];exact λd e=>k d e (h d e)
theorem lx (x:A⊕B)(f:A->Pg δ)(g:B->Pg δ):PW (.sum x f g) Q=((∀a,x=.inl a->PW (f a) Q)/\∀b,x=.inr b->PW (g b) Q):=by
 unfold PW;rw[Pg.dt];cases x<;>simp
theorem qw (x:A⊕B)(f:A->Pg δ)(g:B->Pg δ):PW (.sm x f g) Q=((∀a,x=.inl a->PW (f a) Q)/\∀b,x=.inr b->PW (g b) Q):=by
 unfold PW;rw[Pg.aDo];cases x<;>simp
theorem Ri {D X:Type}{s:D->Pg (D⊕X)}(I:D->Prop)(R:X->Prop)(h:∀d,I d->PW (s d) (t9 I R)):∀(n:Nat) (d:D),I d->Po (bI s n d) R
 |0,d,hd,x,e=>by cases e
 |n+1,d,hd,x,e=>by
  have e1:bI s (n+1) d=(s d).run (t9 (λd=>bI s n d) some):=rfl;rw[e1,<-Pg.auR] at e;cases hv:(s d).val with
  |none=>rw[hv] at e;cases e
  |some y=>
   rw[hv,bG] at e;have q:=h d hd y hv;cases y with
   |inl d'=>exact Ri I R h n d' q x e
   |inr x'=>cases e;exact q
end
theorem qH {D X:Type}{s:D->Pg (D⊕X)}{I:D->Prop}{R:X->Prop}(h:∀d,I d->PW (s d) (t9 I R)):∀d:D,I d->Po (bI s 2000 d) R:=λd hd=>Ri I R h 2000 d hd
end Go.Ab
namespace Go.Proofs.YtldgljclcgaibaaGreat
open Go.Ab
theorem aYk [aA]:Sound Tryz.prog 240 (adP DA):=aIX (aKU (fn:=Tryz.f240) Tryz.func240 (by kernel_rfl) (by kernel_rfl) (by kernel_rfl) (by kernel_rfl))
theorem aYl [aA]:Sound Tryz.prog 262 (adP adQ):=aIX (aKV (fn:=Tryz.f262) Tryz.func262 (by kernel_rfl) (by kernel_rfl) (by kernel_rfl) (by kernel_rfl))
abbrev auS:=C3
def alr (g:C3):Ct:=(240,adP g)
theorem ao1 [aA]:Snd Tryz.prog (alr DA):=aYk
abbrev aYm:=C3
def aND (g:C3):Ct:=(262,adP g)
theorem aTD [aA]:Snd Tryz.prog (aND adQ):=aYl
end Go.Proofs.YtldgljclcgaibaaGreat
namespace Go.Ab
abbrev NI:=Nat->Int
theorem _root_.And.b {a b c:Prop}(x:a/\b/\c):c:=x.2.2
theorem _root_.And.c {a b c d e:Prop}(x:a/\b/\c/\d/\e):e:=x.2.2.2.2
theorem _root_.And.d {a b c d e f g h i:Prop}(x:a/\b/\c/\d/\e/\f/\g/\h/\i):i:=x.2.2.2.2.2.2.2.2
@[reducible] def _root_.Prod.b {a b c:Type} (x:a×b×c):c:=x.2.2
@[reducible] def _root_.Prod.c {a b c d e:Type} (x:a×b×c×d×e):e:=x.2.2.2.2
@[reducible] def _root_.Prod.d {a b c d e f g h i:Type} (x:a×b×c×d×e×f×g×h×i):i:=x.2.2.2.2.2.2.2.2
@[reducible] def _root_.Prod.e {a b c d e f g h i j k l m n o p q:Type} (x:a×b×c×d×e×f×g×h×i×j×k×l×m×n×o×p×q):q:=x.2.2.2.2.2.2.2.2.2.2.2.2.2.2.2.2
def cr {α:Type}(d:α)(l:List α):Nat->α:=List.rec (motive:=λ_=>Nat->α) (λ_=>d) (λx l ih j=>bif z9 j l.length then x else ih j) l
@[reducible] def c24 (g:Nat->Nat->Int):=(g 0,g 1,g 2,g 3,g 4,g 5,g 6,g 7,g 8,g 9,g 10,g 11,g 12,g 13,g 14,g 15,g 16,g 17,g 18,g 19,g 20,g 21,g 22,g 23)
@[reducible] def azx {r:Type} (g:Nat->Nat->Int) (x:r):=(g 0,g 1,g 2,g 3,g 4,g 5,g 6,g 7,g 8,g 9,g 10,g 11,g 12,g 13,g 14,g 15,g 16,g 17,g 18,g 19,g 20,g 21,g 22,g 23,x)
def rg:Nat->Nat->List Nat->List Nat
 |_,0,t=>t
 |a,n+1,t=>a::rg (a+1) n t
def sh8 (o:Nat)(x:(Nat->Int)×(Nat->Int)×(Nat->Int)×(Nat->Int)×(Nat->Int)×(Nat->Int)×(Nat->Int)×(Nat->Int)):(Nat->Int)×(Nat->Int)×(Nat->Int)×(Nat->Int)×(Nat->Int)×(Nat->Int)×(Nat->Int)×(Nat->Int):=(λj=>x.1 (o+j),λj=>x.2.1 (o+j),λj=>x.2.2.1 (o+j),λj=>x.2.2.2.1 (o+j),λj=>x.2.2.2.2.1 (o+j),λj=>x.2.2.2.2.2.1 (o+j),λj=>x.2.2.2.2.2.2.1 (o+j),λj=>x.2.2.2.2.2.2.2 (o+j))
def mZ (o:Nat)(x:(Nat->Int)×(Nat->Int)×(Nat->Int)×(Nat->Int)×(Nat->Int)×(Nat->Int)×(Nat->Int)×(Nat->Int)×(Nat->Int)):(Nat->Int)×(Nat->Int)×(Nat->Int)×(Nat->Int)×(Nat->Int)×(Nat->Int)×(Nat->Int)×(Nat->Int)×(Nat->Int):=(λj=>x.1 (o+j),λj=>x.2.1 (o+j),λj=>x.2.2.1 (o+j),λj=>x.2.2.2.1 (o+j),λj=>x.2.2.2.2.1 (o+j),λj=>x.2.2.2.2.2.1 (o+j),λj=>x.2.2.2.2.2.2.1 (o+j),λj=>x.2.2.2.2.2.2.2.1 (o+j),λj=>x.2.2.2.2.2.2.2.2 (o+j))
def ais (o:Nat)(x:(Nat->Int)×(Nat->Int)×(Nat->Int)×(Nat->Int)×(Nat->Int)×(Nat->Int)×(Nat->Int)×(Nat->Int)×(Nat->Int)×(Nat->Int)):(Nat->Int)×(Nat->Int)×(Nat->Int)×(Nat->Int)×(Nat->Int)×(Nat->Int)×(Nat->Int)×(Nat->Int)×(Nat->Int)×(Nat->Int):=(λj=>x.1 (o+j),λj=>x.2.1 (o+j),λj=>x.2.2.1 (o+j),λj=>x.2.2.2.1 (o+j),λj=>x.2.2.2.2.1 (o+j),λj=>x.2.2.2.2.2.1 (o+j),λj=>x.2.2.2.2.2.2.1 (o+j),λj=>x.2.2.2.2.2.2.2.1 (o+j),λj=>x.2.2.2.2.2.2.2.2.1 (o+j),λj=>x.2.2.2.2.2.2.2.2.2 (o+j))
abbrev bT:=(Int×Int×Int×Int×Int)×Int×Nat×Int
abbrev cP:=NI×NI×NI×NI×NI×NI×NI×NI×NI
abbrev Fu:=Int×Int×Int×Int×(Int×Int×Int×Int×Int×Int)×(Int×Int×Int×Int×Int×Int)×NI×NI×Int×Int×Int×Int×Int×Int×Int×Int
abbrev En:=(Int×Int×Int×Int)×(Int×Int×Int)×Int×Int×Int
abbrev Fo:=Nat×NI×NI×NI×NI×NI×NI×NI×NI×NI×NI
abbrev Ly:=Int×(Int×Int×(Int×Int×Int)×Int×Int×Int)×Bool
abbrev Fq:=Nat×NI×NI×NI×NI×NI×NI×NI×NI×NI
abbrev Lu:=(NI×NI×(Nat->Bool)×NI×NI×NI)×Int
abbrev Q9:=Nat×NI×NI×NI×NI×NI×NI×NI×NI
abbrev kG:=Int×Int×Int
abbrev qF:=Int×Int×Bool×Bool
abbrev tt:=Int×Int×Nat
abbrev a0L:=(Int×Int×Int×Int×Int×Int×Int×Int×Int×Int×Int×Int×Int×Int×Int×Int×NI×NI×Int×Int×Int×Int×Int×Int×Int×Int×Bool×NI×NI×NI)×(Int×Int×Int×Int×Int)×Int×NI×Int×Int×Int×Int×Int×Int×(NI×NI×(Nat->Bool)×NI×NI×NI)×(Int×Int)×NI×NI×NI×NI×NI×NI×NI
abbrev aul:=Int×Int×Int×Int×Int×Int×Int×Int
abbrev aRT:=Int×Int×Int×Int×Int×Int×Int×Int×Int×Int×Int×Int×Int×Int×Int×Int×Int×Int×Int
abbrev a0M:=(Int×Int×Int×Int×Int×Int×Int×Int×Int×Int×Bool×Int×Int×Int×Int×Bool×Bool)⊕(Int×Int×Int×Int×Int×Int×Int×Int×Int×Bool×Int×Int×Int×Bool)
abbrev aMt:=NI×NI×NI×NI×NI×NI×NI×NI×NI×NI
abbrev akH:=Int×Int×Bool
abbrev a0N:=NI×NI×NI×NI×NI×NI×NI×NI×NI×NI×NI×NI×NI×NI×NI×NI×NI×NI×NI×NI×NI×NI×NI×NI
abbrev aMu:=(Nat×Bool)×Int×Int×Bool
abbrev aU7:=Nat×NI×NI×NI×NI×NI×NI×NI×NI×NI×NI×NI
abbrev aRU:=Int×Int×Int×Int×Int×Int×Int
abbrev aRV:=NI×NI×(Nat->Bool)×NI×NI×NI
abbrev a0O:=Nat×NI×NI×NI×NI×NI×NI×NI×NI×NI×NI×NI×NI×NI×NI×NI×NI×NI×NI×NI×NI
abbrev aU8:=Int×(Nat×Bool)×(Nat×Bool)×Int×Int×Bool
abbrev aIf:=Int×Int×Int×Bool
abbrev aIg:=Int×Int×Int×Int
abbrev a0P:=Int×Int×Int×Int×Int×Int×Int×Int×Int×Int×Bool×Int×Bool
abbrev aU9:=NI×NI×NI×NI×NI×NI×NI×NI
abbrev RA (b:Type):=Rq (List AV×List aj) b
abbrev RS (b:Type):=Rq St b
abbrev RE (b:Type):=Rq pe b
@[reducible] def qa {b:Type} (x:RA b):RA b:=x
@[reducible] def qs {b:Type} (x:RS b):RS b:=x
@[reducible] def qe {b:Type} (x:RE b):RE b:=x
@[reducible] def nO {α:Type}:Rq (Option α) Unit:=Rq.no
def lf {β:Type}(q:RE β)(d:β):T:=.leaf (q.em d)
def ls {A B:Type}(f:A->T)(g:B->T)(x:A⊕B):T:=T.sum x f g
def Ex (X:Type):=∀{ρ:Type},X->(AX->St->Option ρ)->Option ρ
abbrev KT:=AX->St
def ef {X:Type}(a:AX)(q:RS X){ρ:Type}(x:X)(K:AX->St->Option ρ):Option ρ:=K a (q.em x)
abbrev LT {D:Type}(_:RS D)(X:Type):=D->Option X
abbrev PL {D:Type}(_:RS D)(X:Type):=Pg (D⊕X)
structure KK where
 l:List Ct
 hs:Hs
 kk:Nat
 n:Nat
end Go.Ab
namespace Go.Proofs.YtldgljclcgaibaaGreat
section
open Go.Ab Go.Ab.Rq
def gB:=bool true
def jr:=szs hole
def dJ:=nat 0
def Dx:=nat 1
def rq4:=nat 2
def Q':=rH nil
def rq6:=nat 4
def rq7:=nat 3
def rq8:=nat 6
def rq9:=nat 5
def xK:=nat 11
def gh:=nat 9
def Dy:=nat 8
def aIh:=nat 20
def aIi:=nat 13
def aDy:=nat 14
def aIj:=nat 15
def aMv:=nat 16
def aMw:=nat 17
def aMx:=nat 18
def aIk:=nat 19
def aum:=nat 21
def aMy:=nat 22
def aS:=app 0 1
def iA:=cl ai nil
def xL:=cl gb nil
def aIl:=cl an nil
def aMz:=cl ab nil
def aMA:=app 1 2
def adF:=cu fD nil
def azy:=app 2 2
def nN:=cl fZ nil
def mQ:=cl gi nil
def ait:=app 1 4
def ap2:=app 2 4
def azz:=app 0 24
def aMB:=app 1 3
def ZQ:=app 2 3
def Uu:=app 1 24
def EJ:=app 2 24
def xM:=app 0 4
def EK:=app 1 300
def ZR:=app 2 300
def aIm:=app 3 300
def aRW:=us 20 nil
def Ra:=app 1 576
def aIn:=app 1 9
def akI:=app 3 3
def aRX:=app 4 3
def aVa:=us 27 nil
def aVb:=app 2 1152
def ZS:=app 3 1152
def ap3:=app 4 24
def LA:=app 1 1
def aiu:=app 3 24
def aRY:=app 2 576
def NX:=app 4 300
def ap4:=app 5 48
def azA:=app 2 48
def aVc:=us 49 nil
def aIo:=app 4 576
def ap5:=app 5 24
def aIp:=app 2 373
def aIq:=app 3 373
def aMC:=cu Vb nil
def KY:=app 0 3
def aDz:=app 0 37
def Uv:=app 0 8
def aDA:=app 0 72
def aDB:=app 4 1
def iW:=app 0 434
def aRZ:=gp 5 8
def aIr:=gp 6 8
def aDC:=gp 7 8
def aDD:=gp 8 8
def aDE:=gp 9 8
def aMD:=gp 10 8
def aVd:=gp 11 37
def akJ:=gp 1 5
def akK:=gp 2 10
def aun:=gp 10 37
def auo:=gp 11 3
def azB:=app 2 20
def aR0:=app 3 4
def aR1:=app 5 16
def aR2:=app 6 12
def aR3:=app 3 576
def aR4:=app 4 12
def aME:=app 3 1
def ZT:=app 20 8
def aVe:=app 21 11
def aR5:=gp 26 8
def aR6:=gp 27 8
def aR7:=gp 28 8
def aMF:=app 21 20
def we:=ok' dJ
def LB:=szs dJ
def aup:=zT xL
def aR8:=cl (rc cb) nil
def aVf:=ac (slc 0 2)
def zU:=ac (slc 1 1)
def bE:=so xL
def bK:=cu dJ nil
def J0:=ac (slc 0 1)
def aO6:=ac (slc 2 1)
def aso:=ac (slc 1 3)
def afB:=cl (rc ci) nil
def aDF:=ac (slc 1 24)
def aJJ:=ac (slc 1 27)
def aO7:=ac (slc 0 3)
def aO8:=ac (slc 1 10)
def axk:=cu Dx nil
def aO9:=ac (slc 2 10)
def aPa:=ac (slc 0 9)
def aPb:=ac (AG 1 9)
def aJK:=gc (AG 3 8)
def A4:=c ai iA
def bJ:=cl xL nil
def axl:=c gn (cl gn nil)
def aPc:=c gi (cl gn nil)
def asp:=cu (gp 1 1) nil
def aPd:=xs 8 (us 22 nil)
def aVg:=cf (fb (bool false))
def aPe:=cl ab (us 14 nil)
def aPf:=cl ab (us 21 nil)
def aPg:=cl ai (us 15 nil)
def aPh:=cl ai (us 26 nil)
def aJL:=cl ai (us 13 nil)
def aVh:=cl ab (us 12 nil)
def akL:=c gi mQ
def aVi:=cl ai (us 11 nil)
def gJ:=gl 24 nN
def aPi:=cl ai (us 18 nil)
def aDG:=cu fD adF
def aPj:=cu (gp 2 1) nil
def aJM:=gl 276 nN
def aJN:=cl ai aRW
def aPk:=cl ai (us 8 nil)
def aVj:=cl ai (us 21 nil)
def aVk:=cl ai (us 22 nil)
def aVl:=cl ai (us 82 nil)
def aVm:=cl ai (us 122 nil)
def aJO:=cl ai (us 24 nil)
def aVn:=cl ai (us 98 nil)
def aVo:=cl ai (us 75 nil)
def aVp:=cl ai (us 80 nil)
def aVq:=cl ai (us 12 nil)
def aVr:=cl ai (us 32 nil)
def aVs:=cl ab (us 38 nil)
def aVt:=cu (gp 0 3) nil
def aVu:=cl ai (us 31 nil)
def aVv:=xs 8 (us 1 nil)
def aVw:=cl ai (us 92 nil)
def aJP:=cf (fi .i64 (int 0))
def aPl:=cf (fi .i64 (int 4))
def axm:=cf (fi .i64 (int 1))
def aVx:=cf (fi .i64 (int 5))
def aPm:=afn (pu (nat 96) nil)
def mF:=cl aup nil
def aVy:=res (pl an (pu nil nil))
def Wc:=aa axl
def afC:=aa aPc
def HT:=res (pl ai (pu nil nil))
def J1:=ac (cf (fb gB))
def tQ:=ac aVg
def Fv:=res (pl ab (pu nil nil))
def axn:=cl zU nil
def aJQ:=cl aso nil
def axo:=gc (cf (fb gB))
def abw:=so asp
def axp:=so aVt
def J2:=gc aVg
def Fw:=c ai A4
def aVz:=c ai (cl ab (us 30 nil))
def aJR:=c fZ (cl (ki .u64 hole) nil)
def aO:=gc aJP
def aDH:=gc (cf (fi .u64 (int 0)))
def aVA:=c ai (cl ab (us 25 nil))
def aJS:=c ai aVh
def ld:=c gi akL
def asq:=gc (cf (fi .i64 (int 1073741824)))
def asr:=cl gJ nil
def aJT:=c ai (cl ab (us 17 nil))
def aPn:=c ai (cl ab (us 19 nil))
def aDI:=cl (gl 576 nN) nil
def aJU:=c ai (cl ab (us 7 nil))
def abx:=cl (gl 9 nN) nil
def aVB:=c ai (cl ab aRW)
def aPo:=gc (cf (fi .i64 (int 2)))
def aJV:=c gb akL
def ass:=c fZ (c fZ nN)
def aVC:=cl (gl 1152 nN) nil
def aVD:=c ai (cl ab (us 81 nil))
def aVE:=c ai (cl ab (us 26 nil))
def aVF:=c ai (cl ab (us 29 nil))
def aJW:=c ai (cl ab (us 23 nil))
def aVG:=c ai (cl ab (us 11 nil))
def ast:=c kcb (c fZ nN)
def aPp:=c ai aJN
def aVH:=c ai (cl ab (us 31 nil))
def afD:=c gi (c gi xL)
def aVI:=ac (cf (fi .i64 (int 6)))
def aVJ:=gc (cf (fi .i64 (int 3000)))
def aVK:=gc (cf (fi .i64 (int 2200)))
def aJX:=gc (cf (fi .i64 (int 500)))
def aVL:=gc (cf (fi .i64 (int 950)))
def aVM:=gc (cf (fi .i64 (int 100)))
def aVN:=gc (cf (fi .i64 (int 1000)))
def aDJ:=c gn (c gn xL)
def aDK:=cu Dx (cu rq4 nil)
def aVO:=cu dJ (cu xK nil)
def aPq:=res (pu (ac aDL) (pu nil nil))
def aDM:=cl afC nil
def aby:=cl (so aPc) nil
def Om:=cl aup adF
def aPr:=c ai axn
def afE:=aa ld
def lz:=aa asr
def nQ:=so asr
def zV:=so ld
def aVP:=c ai (cl J0 nil)
def mG:=so aDI
def HU:=so aVC
def afF:=so (cl (gl 48 nN) nil)
def afG:=ra asr
def aJY:=res (pl ab (pu adF nil))
def axq:=res (pl ai (pu adF nil))
def akM:=aa aDJ
def aPs:=rH (c (rc ci) aR8)
def aJZ:=c ai (cl ai (cu aS nil))
def aVQ:=c ai (c ai aPe)
def aJ0:=c ai aVA
def afH:=c gi ld
def aPt:=xs 3 (us 2 (xs 3 (us 1 nil)))
def aVR:=us 15 (c ai aPh)
def aVS:=c ai (c ai (cl ab (us 5 nil)))
def A5:=c gi (c gi (c gb xL))
def aPu:=cu (gc (cf (fi .i64 (int 3)))) nil
def aPv:=c ai aPn
def aPw:=rH (c (rc ci) afB)
def aVT:=rH (cu (rc aVU) afB)
def akN:=cu (rc aJP) nil
def aPx:=cl afD nil
def aVV:=ox (pu dJ (pl hole gh))
def akO:=cu (gc (cf (fi .i64 (int (-9223372036854775808))))) nil
def Wd:=ox (pu dJ (pl hole Dy))
def aJ1:=cl (ga (pr jr nN)) nil
def HV:=cl afE nil
def afI:=aa afH
def xP:=so afH
def J3:=cl nQ nil
def aPy:=cu fD (cu fD mF)
def asu:=cl lz nil
def afJ:=c gi (c gi (cl (gc (AG 2 11)) nil))
def aJ2:=c gi (c gi (cl (gc (AG 3 11)) nil))
def aJ3:=c gi (c gi (cl (gc (AG 7 11)) nil))
def aPz:=c gi (c gi (cl (gc (AG 4 11)) nil))
def aVW:=res (pl ai (pu aDG nil))
def aDN:=c gi (c gi (cl (gc (AG 20 11)) nil))
def zW:=c gi (c gi (cl (gc (AG 19 11)) nil))
def HW:=so aJ1
def j7:=c gi afH
def aVX:=cu fD (cu fD (cu fD aDG))
def SK:=cu (gp 1 434) afD
def aPA:=cu (gp 21 434) afD
def qu:=res (pr ai (pl mF nil))
def aVY:=res (pl afC (pu nil nil))
def aJ4:=res (pl Wc (pu nil nil))
def asv:=cl afI nil
def afK:=c lz iA
def aDO:=so (cu (gp 22 434) afD)
def aVZ:=so (cu (gp 3 434) afD)
def aV0:=rH (c (ra aPc) aR8)
def abz:=cl HW nil
def uF:=c aJM asr
def axr:=c gJ ld
def aDP:=c gi j7
def aPB:=aa (a 3 ld mQ)
def aPC:=xs 3 (us 2 aPt)
def aV1:=ac (LC (pu dJ (pu (ok' gh) Dx)))
def aV2:=ac (LC (pu dJ (pu (ok' rq6) rq8)))
def aPD:=ac (LC (pu dJ (pu (ok' rq8) Dx)))
def aJ5:=ac (LC (pu dJ (pu (ok' Dx) Dx)))
def On:=ac (LC (pu dJ (pu (ok' (nat 72)) Dx)))
def aV3:=ac (LC (pu dJ (pu (ok' (nat 412)) Dx)))
def aPE:=ac (LC (pu dJ (pu (ok' (nat 399)) Dx)))
def aPF:=ac (LC (pu dJ (pu (ok' rq4) Dx)))
def aJ6:=ac (LC (pu aum (pu (ok' rq4) Dx)))
def aPG:=res (pr ai (pl (cu fD mF) nil))
def aJ7:=res (pr ai (pl Om nil))
def aV4:=res (pl afE (pu nil nil))
def aPH:=res (pl lz (pu nil nil))
def aPI:=cl (ga (pr jr ast)) nil
def mb:=a 3 ld akL
def aV5:=rH (cu (rc aDL) (cu (rc axm) nil))
def aJ8:=res (pl akM (pu nil nil))
def aPJ:=res (pl (rH (c (rc cn) (cl (rc cn) nil))) (pu nil nil))
def axs:=res (pl aPs (pu nil nil))
def Fx:=aa uF
def gC:=so uF
def akP:=ra uF
def aPK:=so (cl (ga (pr jr aJR)) nil)
def aDQ:=so (cl (ga (pr jr ass)) nil)
def aV6:=rH (c (ra ld) afB)
def aV7:=gl 6 (c fZ (c fZ (c kcb ass)))
def aV8:=cu fD (cu fD aVX)
def lg:=so mb
def aV9:=cu Vb (cu Vb (cu Vb (cu Vb (cu Vb (cu Vb aMC)))))
def aWa:=res (pl afI (pu nil nil))
def aWb:=res (pl lz (pu adF nil))
def aWc:=res (pr ai (pl aPy nil))
def aWd:=cl (aa axr) nil
def aWe:=res (pl aPw (pu adF nil))
def aPL:=afn (pu (nat 180) (cu (rc (cp 2 1)) (cu (rc (cp 3 10)) nil)))
def aWf:=c an (c an (c an (c an (c an (c an aPe)))))
def aWg:=res (pu Q' (pl (cl (zT asr) nil) nil))
def o6:=c fZ (c fZ (c fZ (c fZ (c fZ ass))))
def aWh:=cl (so aPI) nil
def asw:=c gi (c gi aDP)
def aJ9:=cu fD aV8
def aPM:=res (pl ai (pu (cu (zT (cu axo nil)) nil) nil))
def aPN:=res (pl aV0 (pu nil nil))
def aPO:=so (cu aO (cu aDH nil))
def zX:=so asw
def axt:=res (pr afE (pl mF nil))
def aDR:=res (pr lz (pl mF nil))
def aB:=c fZ o6
def aKa:=c gi asw
def mH:=c aV7 mQ
def aDS:=res (pu aV5 (pu nil nil))
def aWi:=cu fD (cu Vb aV8)
def Oo:=c nQ J3
def aWj:=ac (gr (pu Dx (pu we (pl jr (pu rq4 gB)))))
def aWk:=ac (gr (pu rq6 (pu we (pl jr (pu Dx gB)))))
def aDT:=c gi (c gi (a 3 ld ld))
def aWl:=ac (gr (pu rq7 (pu we (pl jr (pu Dx gB)))))
def aWm:=ac (gr (pu rq8 (pu we (pl jr (pu rq7 gB)))))
def aWn:=ac (gr (pu rq6 (pu we (pl jr (pu rq7 gB)))))
def aWo:=ac (gr (pu rq9 (pu we (pl jr (pu rq7 gB)))))
def aWp:=ac (gr (pu rq9 (pu we (pl jr (pu Dx gB)))))
def aPP:=res (pr aPw (pl mF nil))
def aWq:=cu tQ (xs 5 (cu tQ aVc))
def aKb:=c Fx A4
def aKc:=aa aKa
def aDU:=zT mH
def j8:=so mH
def aWr:=c an (c an (c an (c an (c an (c an (cl ab (us 19 aPd)))))))
def axu:=res (pr afI (pl mF nil))
def aWs:=ac (gr (pu Dx (pu we (pu (szl rq6) (pu Dx gB)))))
def mc:=c fZ aB
def aPQ:=c gi aKa
def aWt:=rH (c (ra axr) afB)
def aKd:=cl mH nil
def Eo:=cl aKc nil
def aWu:=cl (so aKa) nil
def abA:=cl (aa aDT) nil
def jo:=c fZ mc
def axv:=c gi aPQ
def akQ:=a 5 j7 (c gi (c (gc (AG 1 9)) mQ))
def qO:=a 5 j7 (c gi (c (gc (AG 14 9)) mQ))
def qP:=a 5 j7 (c gi (c (gc (AG 15 9)) mQ))
def qQ:=a 5 j7 (c gi (c (gc (AG 16 9)) mQ))
def qR:=a 5 j7 (c gi (c (gc (AG 17 9)) mQ))
def qS:=a 5 j7 (c gi (c (gc (AG 18 9)) mQ))
def aDV:=a 5 j7 (c gi (c (gc (AG 19 9)) mQ))
def xQ:=a 5 j7 (c gi (c (gc (AG 13 9)) mQ))
def aKe:=aa (a 3 ld mb)
def aPR:=res (pr (rH (c (ra akL) afB)) (pl mF nil))
def aDW:=cl (ga (pr jr o6)) nil
def aKf:=gr (pu aum (pr Wd (pl jr (pu Dy gB))))
def aPS:=so (c gb (c gb (c gb (c gb (c gb (c gb (c gb (c gb ld))))))))
def aWv:=cu aO (cu aO (cu J2 nil))
def aWw:=ac (gr (pu Dx (pu (ox (pu dJ (pu Dx Dx))) (pr jr (pu Dx hole)))))
def asx:=cu aO (cu aO (cu aO nil))
def aPT:=res (pr Fx (pl mF nil))
def aPU:=c gi axv
def aWx:=res (pr (aa axr) (pl mF nil))
def aPV:=c gJ (c gi (c gi (c gi axr)))
def aWy:=cu aRZ (cu aIr (cu aDC (cu aDD (cu aDE (cu aMD nil)))))
def akR:=cu (gp 4 8) (cu aRZ (cu aIr (cu aDC (cu aDD (cu aDE nil)))))
def aWz:=cu axp (cu abw J3)
def aPW:=gr (pu rq7 (pu (ox (pu dJ (pu dJ Dy))) (pl jr (pu Dy gB))))
def me:=so aDW
def aKg:=cl aV7 (cu aO nil)
def aWA:=cl (ga (pu LB o6)) nil
def aPX:=gr (pu aum (pu (ox (pu dJ (pu dJ gh))) (pl jr (pu gh gB))))
def abB:=c gC (cl afF nil)
def abC:=cl (ga (pr jr aB)) nil
def zY:=a 4 afH (a 3 ld ld)
def m8:=c gi (a 8 aDT xL)
def aKh:=gc aPW
def aWB:=res (pr Fx (pl Om nil))
def HX:=so abC
def asy:=cl (ga (pu LB aB)) nil
def aWC:=cu iW (us 2 (cu ZT (cu On (us 194 nil))))
def aPY:=cl (ga (pr jr mc)) nil
def aWD:=res (pr (rH (c (ra afH) afB)) (pl mF nil))
def lk:=so m8
def akS:=cl (so aPU) nil
def aWE:=cl (so aKg) nil
def aPZ:=cl (aa (c gb (c gb (a 6 (c gb (c gb (c gb (c gb (c gb xL))))) ld)))) nil
def aKi:=c nQ Oo
def afL:=c gi (c gi (c gi (c gi (c gi (c gi (c gi (c gi (c gi (c gi (c gi abx))))))))))
def tT:=so aPY
def aWF:=c gJ (c gJ asw)
def aWG:=cl (ga (pu LB mc)) nil
def aP0:=aa (c gi zY)
def aP1:=cl (ga (pr jr jo)) nil
def aKj:=cl aPY nil
def aWH:=so (c gb (c gb (c gb (c gb (c gb (c gb (c gb (c gb (cu (gc (cf (fi .i64 (int 1125899906842624)))) akL)))))))))
def aWI:=c aJM (c gJ (c gJ (c gJ (cl (gl 25 nN) nil))))
def aWJ:=rH (c (ra axv) aR8)
def akT:=so aP1
def axw:=c gC (cl gC nil)
def aDX:=res (pr aWt (pl mF nil))
def aP2:=cl aP1 nil
def SL:=so aWI
def aP3:=afn (pu (nat 183) (cu (rc (cp 2 1)) (cu (rc (cp 3 3)) (cu (rc (cp 4 1)) (cu (rc (cp 5 3)) (cu (rc (cp 6 4)) nil))))))
def afM:=c gi (c gi (cl (gc (gr (pu aIh (pu (ox (pu dJ (pu dJ xK))) (pl jr (pu xK gB)))))) nil))
def aWK:=c gi (c gi (cl (gc (gr (pu (nat 38) (pu (ox (pu dJ (pu dJ xK))) (pl jr (pu xK gB)))))) nil))
def aP4:=c gi (c gi (cl (gc (gr (pu (nat 39) (pu (ox (pu dJ (pu dJ xK))) (pl jr (pu xK gB)))))) nil))
def aP5:=c gi (c gi (cl (gc (gr (pu (nat 40) (pu (ox (pu dJ (pu dJ xK))) (pl jr (pu xK gB)))))) nil))
def aWL:=res (pu (rH (cu (rc (cp 0 5)) akN)) (pu nil (cl j7 nil)))
def aP6:=cl (zT aP1) nil
def Fy:=cl akT nil
def aDY:=c gi (c gi (c gi (c gi aPU)))
def aWM:=cl (cl (ga (pu LB jo)) nil) nil
def afN:=so (c gi (c gi (cl (gc (gr (pu (nat 29) (pu (ox (pu dJ (pu dJ xK))) (pl jr (pu xK gB)))))) nil)))
def axx:=so (c gi (c gi (cl (gc (gr (pu (nat 28) (pu (ox (pu dJ (pu dJ xK))) (pl jr (pu xK gB)))))) nil)))
def aDZ:=so (c gi (c gi (cl (gc (gr (pu (nat 41) (pu (ox (pu dJ (pu dJ xK))) (pl jr (pu xK gB)))))) nil)))
def aWN:=so (c gi (c gi (cl (gc (gr (pu aMy (pu (ox (pu dJ (pu dJ xK))) (pl jr (pu xK gB)))))) nil)))
def akU:=so (cu aO asx)
def aWO:=cu tQ (xs 5 (cu tQ aWq))
def aWP:=cu fD (cu fD aP6)
def akV:=cu (so asx) (cl zV nil)
def axy:=cu fD (cu fD (cu fD (cu fD (cu fD (cu fD (cu fD (cu fD (cu fD (cu fD (cu fD aJ9))))))))))
def aD0:=cu Vb (cu Vb (cu Vb (cu Vb (cu Vb (cu Vb (cu Vb (cu Vb (cu Vb (cu Vb (cu Vb (cu Vb aV9)))))))))))
def aP7:=c gi (c gi (c gi (a 10 zY (cl (gc (AG 20 10)) nil))))
def aWQ:=c fZ (c fZ (c fZ (c fZ (c fZ (c fZ (c fZ (c fZ (c fZ jo))))))))
def aD1:=so (c gi (c gi (c gi (c gi aDY))))
def aP8:=a 5 j7 (c gi (c (gc aPX) mQ))
def asz:=a 5 j7 (c gi (c (gc (gr (pu aMy (pu (ox (pu dJ (pu dJ gh))) (pl jr (pu gh gB)))))) mQ))
def aWR:=a 5 j7 (c gi (c (gc (gr (pu (nat 23) (pu (ox (pu dJ (pu dJ gh))) (pl jr (pu gh gB)))))) mQ))
def aWS:=a 5 j7 (c gi (c (gc (gr (pu (nat 24) (pu (ox (pu dJ (pu dJ gh))) (pl jr (pu gh gB)))))) mQ))
def aWT:=a 5 j7 (c gi (c (gc (gr (pu (nat 25) (pu (ox (pu dJ (pu dJ gh))) (pl jr (pu gh gB)))))) mQ))
def aWU:=a 5 j7 (c gi (c (gc (gr (pu (nat 26) (pu (ox (pu dJ (pu dJ gh))) (pl jr (pu gh gB)))))) mQ))
def aWV:=a 5 j7 (c gi (c (gc (gr (pu (nat 32) (pu (ox (pu dJ (pu dJ gh))) (pl jr (pu gh gB)))))) mQ))
def aD2:=a 5 j7 (c gi (c (gc (gr (pu (nat 33) (pu (ox (pu dJ (pu dJ gh))) (pl jr (pu gh gB)))))) mQ))
def aKk:=a 5 j7 (c gi (c (gc (gr (pu (nat 34) (pu (ox (pu dJ (pu dJ gh))) (pl jr (pu gh gB)))))) mQ))
def aKl:=a 5 j7 (c gi (c (gc (gr (pu (nat 35) (pu (ox (pu dJ (pu dJ gh))) (pl jr (pu gh gB)))))) mQ))
def aKm:=a 5 j7 (c gi (c (gc (gr (pu (nat 36) (pu (ox (pu dJ (pu dJ gh))) (pl jr (pu gh gB)))))) mQ))
def aKn:=a 5 j7 (c gi (c (gc (gr (pu (nat 37) (pu (ox (pu dJ (pu dJ gh))) (pl jr (pu gh gB)))))) mQ))
def aP9:=a 5 j7 (c gi (c (gc (gr (pu (nat 38) (pu (ox (pu dJ (pu dJ gh))) (pl jr (pu gh gB)))))) mQ))
def aWW:=a 5 j7 (c gi (c (gc (gr (pu (nat 39) (pu (ox (pu dJ (pu dJ gh))) (pl jr (pu gh gB)))))) mQ))
def axz:=a 5 j7 (c gi (c (gc (gr (pu aDy (pu (ox (pu dJ (pu dJ gh))) (pl jr (pu gh gB)))))) mQ))
def akW:=a 5 j7 (c gi (c (gc (gr (pu aIj (pu (ox (pu dJ (pu dJ gh))) (pl jr (pu gh gB)))))) mQ))
def aWX:=a 5 j7 (c gi (c (gc (gr (pu aMv (pu (ox (pu dJ (pu dJ gh))) (pl jr (pu gh gB)))))) mQ))
def aWY:=a 5 j7 (c gi (c (gc (gr (pu aMw (pu (ox (pu dJ (pu dJ gh))) (pl jr (pu gh gB)))))) mQ))
def aWZ:=a 5 j7 (c gi (c (gc (gr (pu aMx (pu (ox (pu dJ (pu dJ gh))) (pl jr (pu gh gB)))))) mQ))
def aW0:=a 5 j7 (c gi (c (gc (gr (pu aIk (pu (ox (pu dJ (pu dJ gh))) (pl jr (pu gh gB)))))) mQ))
def J4:=so aWR
def J5:=so aWS
def J6:=so aWT
def J7:=so aWU
def J8:=so (a 5 j7 (c gi (c (gc (gr (pu (nat 27) (pu (ox (pu dJ (pu dJ gh))) (pl jr (pu gh gB)))))) mQ)))
def afO:=so (a 5 j7 (c gi (c (gc (gr (pu (nat 28) (pu (ox (pu dJ (pu dJ gh))) (pl jr (pu gh gB)))))) mQ)))
def aD3:=so aKk
def abD:=so aKl
def abE:=so aKm
def abF:=so aKn
def afP:=so aP9
def asA:=so aWW
def aD4:=so (a 5 j7 (c gi (c (gc (gr (pu (nat 40) (pu (ox (pu dJ (pu dJ gh))) (pl jr (pu gh gB)))))) mQ)))
def afQ:=so aWX
def afR:=so aWY
def afS:=so aWZ
def afT:=so aW0
def aKo:=so (a 5 j7 (c gi (c (gc (gr (pu aIh (pu (ox (pu dJ (pu dJ gh))) (pl jr (pu gh gB)))))) mQ)))
def aD5:=c fZ (c fZ (c fZ (c fZ aWQ)))
def aW1:=cu aO (cu aO (cu aO asx))
def axA:=ac (cfs (pr hole (pu aIh aWQ)))
def aW2:=c gC (c gC (c mG J3))
def aW3:=cu xM (cu xM (cu xM (cu aPF (c ai (c ai (cl ai (cu xM (cu aPF nil))))))))
def aW4:=xs 3 (us 2 (xs 3 (us 2 (xs 3 (us 2 (xs 3 (us 2 (xs 3 (us 2 (xs 3 (us 2 (xs 3 (us 2 (xs 3 (us 2 (xs 3 (us 2 (xs 3 (us 2 aPC)))))))))))))))))))
def We:=cu rq6 (cu rq9 (cu rq8 (cu (nat 7) (cu Dy (cu gh (cu aIk (cu aMx (cu aMw (cu aMv (cu aIj (cu aDy (cu aIi (cu xK (cu dJ (cu (nat 10) nil)))))))))))))))
def aKp:=c fZ (c fZ (c fZ aD5))
def aW5:=so (cl (ga (pr jr aD5)) nil)
def aW6:=so (c gi (c gi (c gi (cl gi aW1))))
def aW7:=cu fD (cu fD (cu fD (cu fD (cu fD (cu fD (cu fD (cu fD (cu fD (cl aDU (cu fD aJ9))))))))))
def aQa:=cu fD (cu fD (cu fD (cu fD (cu fD (cu fD (cu fD (cu fD (cu fD (cl aDU aWi)))))))))
def aQb:=cu fD aW7
def aKq:=so (c gi (c gi (c gi (c gi (c gi (c gi (c gi (c gi (c gi (c gi (c gi (c gi (c gi (c gi (c gi (c gi aWF))))))))))))))))
def aD6:=cu dJ (cu rq6 (cu rq9 (cu rq8 (cu (nat 7) (cu Dy (cu gh (cu aIk (cu aMx (cu aMw (cu aMv (cu aIj (cu aDy (cu aIi (cu (nat 12) (cu rq7 (cu xK (cu rq4 (cu (nat 10) nil))))))))))))))))))
def aKr:=cu aO (cu aO aW1)
def tU:=c gi (c gi (c gi (c gi (a 6 aDP (a 6 aDP aWF)))))
def aW8:=res (pu Q' (pl aQb nil))
def aW9:=res (pu (ac (gr (pu Dx (pu we (pu (szl rq7) (pu (nat 27) gB)))))) (pr mF (cl (c gJ (c gi (c gi (c gi aPV)))) nil)))
def afU:=cu dJ (cu Dx (cu rq4 (cu rq7 (cu rq6 (cu rq9 (cu rq8 (cu (nat 7) (cu Dy (cu gh (cu (nat 10) (cu xK (cu (nat 12) (cu aIi (cu aDy (cu aIj (cu aMv (cu aMw (cu aMx (cu aIk (cu aIh nil))))))))))))))))))))
def aXa:=cu aO (cu aO (cu aO (cu aO (cu aO (cl gi (cu (gc (gr (pu aDy (pu we (pu LB (pu gh gB)))))) akO))))))
def aXb:=cu aO (cu aO (cu aO (cu aO (cu aO (cl gi (cu (gc (gr (pu aIj (pu we (pu LB (pu gh gB)))))) akO))))))
def aXc:=cu aO (cu aO (cu aO (cu aO (cu aO (cl gi (cu (gc (gr (pu aMv (pu we (pu LB (pu gh gB)))))) akO))))))
def aXd:=cu aO (cu aO (cu aO (cu aO (cu aO (cl gi (cu (gc (gr (pu aMw (pu we (pu LB (pu gh gB)))))) akO))))))
def aXe:=cu aO (cu aO (cu aO (cu aO (cu aO (cl gi (cu (gc (gr (pu aMx (pu we (pu LB (pu gh gB)))))) akO))))))
def aQc:=cl gi (cu aO (cu aO (cu aO (cu aO (cu aO (cu aO aWv))))))
def aXf:=so (cu aO (cu aO aKr))
def aQd:=au 6 akR (cu aun (a 4 A5 (cu auo (c gb (c gi (a 3 ld (c gb (c gb (c gb (c gi (c gi (c gi (a 10 zY (cl (gc (gr (pu aMy (pu (ox (pu dJ (pu dJ (nat 10)))) (pl jr (pu (nat 10) gB)))))) nil))))))))))))))
def aXg:=au 6 (cu (gp 23 8) (cu (gp 24 8) (cu (gp 25 8) (cu aR5 (cu aR6 (cu aR7 nil)))))) (cu (gp 29 37) (a 4 A5 (cu (gp 30 3) (c gb (c gi (a 3 ld (c gb (c gb (c gb (c gi (c gi (c gi (a 10 zY (cl (gc (gr (pu (nat 31) (pu (ox (pu dJ (pu dJ (nat 10)))) (pl jr (pu (nat 10) gB)))))) nil))))))))))))))
def aXh:=au 6 (cu (gp 24 8) (cu (gp 25 8) (cu aR5 (cu aR6 (cu aR7 (cu (gp 29 8) nil)))))) (cu (gp 30 37) (a 4 A5 (cu (gp 31 3) (c gb (c gi (a 3 ld (c gb (c gb (c gb (c gi (c gi (c gi (a 10 zY (cl (gc (gr (pu (nat 32) (pu (ox (pu dJ (pu dJ (nat 10)))) (pl jr (pu (nat 10) gB)))))) nil))))))))))))))
def aQe:=cu (gc (cf (fi .i64 (int 8000)))) (cu (gc (cf (fi .i64 (int 40000)))) (cu (gc (cf (fi .i64 (int 16)))) (cu (gc aVx) (c gi (c gi (c gi (c gi (c gi (c gi (c gi (c gi (c gi (c gi (c gi (c gi (c gJ (cl gJ (cu (gc (cf (fi .i64 (int 5000000)))) (cu (gc (cf (fi .i64 (int 68719476736)))) (cu (gc axm) (cu (gc (cf (fi .i64 (int 268435456)))) (cu (gc (cf (fi .i64 (int 32)))) asx))))))))))))))))))))))
def aXi:=st (pr (us 4 (cu aME (cu aDB (us 8 (cu (app 5 3) (cu (app 6 3) (cu (app 7 4) (cu (app 8 4) aVp)))))))) (pl (c (so afJ) (c bE (c akT (cu axp (cu abw (c zV (c zV (c xP (cl xP nil))))))))) aDK))
def asD:=a 26 tU (c gb (c gJ (a 2 uF (cu (gp 2 5) (cu (gp 3 10) (c (gc (AG 4 8)) (au 6 aWy (cu aVd (a 4 A5 (cu (gp 12 3) (c gb (c gi (a 3 ld (c gb (c gb (c gb (c gi (c gi (c gi (a 10 zY (cl (gc (AG 13 10)) nil)))))))))))))))))))))
def wg:=a 26 tU (c gb (c gJ (a 2 uF (cu akJ (cu akK (c aJK (au 6 akR (cu aun (a 4 A5 (cu auo (c gb (c gi (a 3 ld (c gb (c gb (c gb (c gi (c gi (c gi (a 10 zY (cl (gc (AG 12 10)) nil)))))))))))))))))))))
def aXj:=zT (a 26 tU (c gb (c gJ (a 2 uF (cu akJ (cu akK (c aJK (au 6 akR (cu aun (a 4 A5 (cu auo (c gb (c gi (a 3 ld (c gb (c gb (c gb aP7)))))))))))))))))
def aD7:=c aPY (c abC (c abC (c abC (c abC (c abC (c abC aP2))))))
def aXk:=c aWG (c asy (c asy (c asy (c asy (c asy (c asy aWM))))))
def xR:=c tT (c HX (c HX (c HX (c HX (c HX (c HX Fy))))))
def aXl:=a 26 tU (c gb (c gJ (a 2 uF (cu (gp 20 5) (cu (gp 21 10) (c (gc (gr (pu aMy (pr Wd (pl jr (pu Dy gB)))))) aXg))))))
def aQf:=a 26 tU (c gb (c gJ (a 2 uF (cu (gp 21 5) (cu (gp 22 10) (c (gc (gr (pu (nat 23) (pr Wd (pl jr (pu Dy gB)))))) aXh))))))
def aQg:=a 26 tU (c gb (c gJ (a 2 uF (cu (gp 22 5) (cu (gp 23 10) (c (gc (gr (pu (nat 24) (pr Wd (pl jr (pu Dy gB)))))) (au 6 (cu (gp 25 8) (cu aR5 (cu aR6 (cu aR7 (cu (gp 29 8) (cu (gp 30 8) nil)))))) (cu (gp 31 37) (a 4 A5 (cu (gp 32 3) (c gb (c gi (a 3 ld (c gb (c gb (c gb (c gi (c gi (c gi (a 10 zY (cl (gc (gr (pu (nat 33) (pu (ox (pu dJ (pu dJ (nat 10)))) (pl jr (pu (nat 10) gB)))))) nil)))))))))))))))))))))
def axB:=a 26 tU (c gb (c gJ (a 2 uF (cu (gp 2 5) (cu (gp 3 10) (c (gc (gr (pu rq6 (pr Wd (pl jr (pu Dy gB)))))) (au 6 aWy (cu aVd (a 4 A5 (cu (gp 12 3) (c gb (c gi (a 3 ld (c gb (c gb (c gb (c gi (c gi (c gi (a 10 zY (cl (gc (gr (pu aIi (pu (ox (pu dJ (pu dJ (nat 10)))) (pl jr (pu (nat 10) gB)))))) nil)))))))))))))))))))))
def aQh:=so (a 26 tU (c gb (c gJ (a 2 uF (cu akJ (cu akK (c (gc aKf) aQd)))))))
def aD8:=so (a 26 tU (c gb (c gJ (a 2 uF (cu (gp 23 5) (cu (gp 24 10) (c (gc (gr (pu (nat 25) (pr Wd (pl jr (pu Dy gB)))))) (au 6 (cu aR5 (cu aR6 (cu aR7 (cu (gp 29 8) (cu (gp 30 8) (cu (gp 31 8) nil)))))) (cu (gp 32 37) (a 4 A5 (cu (gp 33 3) (c gb (c gi (a 3 ld (c gb (c gb (c gb (c gi (c gi (c gi (a 10 zY (cl (gc (gr (pu (nat 34) (pu (ox (pu dJ (pu dJ (nat 10)))) (pl jr (pu (nat 10) gB)))))) nil))))))))))))))))))))))
def aXm:=so (a 26 tU (c gb (c gJ (a 2 uF (cu (gp 4 5) (cu (gp 5 10) (c (gc (gr (pu rq8 (pr Wd (pl jr (pu Dy gB)))))) (au 6 (cu aDC (cu aDD (cu aDE (cu aMD (cu (gp 11 8) (cu (gp 12 8) nil)))))) (cu (gp 13 37) (a 4 A5 (cu (gp 14 3) (c gb (c gi (a 3 ld (c gb (c gb (c gb (c gi (c gi (c gi (a 10 zY (cl (gc (gr (pu aIj (pu (ox (pu dJ (pu dJ (nat 10)))) (pl jr (pu (nat 10) gB)))))) nil))))))))))))))))))))))
def aD9:=so (a 26 tU (c gb (c gJ (a 2 uF (cu akJ (cu akK (c aKh aQd)))))))
def axC:=so (a 26 tU (c gb (c gJ (a 2 uF (cu akJ (cu akK (c aKh (au 6 akR (cu aun (a 4 A5 (cu auo (c gb (c gi (a 3 ld (c gb (c gb (c gb (c gi (c gi (c gi (a 10 zY (cl (gc (gr (pu aum (pu (ox (pu dJ (pu dJ (nat 10)))) (pl jr (pu (nat 10) gB)))))) nil))))))))))))))))))))))
def aQi:=a 26 tU (c gb (c gJ (a 2 uF (cu akJ (cu akK (c aKh (au 6 akR (cu aun (a 4 A5 (cu auo (cu axo (c gi (a 3 ld (cu axo (c gb (c gb (c gi (c gi (c gi (a 10 zY (cl (gc (gr (pu (nat 12) (pu (ox (pu dJ (pu dJ (nat 10)))) (pl jr (pu (nat 10) gB)))))) nil)))))))))))))))))))))
def asE:=res (pu Q' (pl (c (zT wg) aW7) nil))
def aXn:=res (pu Q' (pr (cl aXj (cu fD (cu fD (cu fD (cu fD (cu fD (cu fD (cu fD (cu fD (cu fD (cu fD aWi))))))))))) aKj))
def aXo:=c mb (c m8 (c aDW (c aWV (c aD2 (c aKk (c aKl (c aKm (c aKn (c mH (c aWK aD7))))))))))
def aXp:=c mb (c m8 (c aDW (c aD2 (c aKk (c aKl (c aKm (c aKn (c aP9 (c mH (c aP4 aD7))))))))))
def aXq:=res (pu xM (pu nil (c SK (c axB (c mb (c m8 (c aDW (c axz (c akW (c aWX (c aWY (c aWZ (c aW0 (c mH (c afM aD7)))))))))))))))
def aQj:=st (pr (cu iW (us 2 (cu ZT (cu On (us 178 (cu iW (cu iW (cu aV3 aVh)))))))) (pl (c axC (c lg (c lk (c me (c (so asz) (c J4 (c J5 (c J6 (c J7 (c J8 (c j8 (c axx (c tT (cu nO (cu nO (cu nO (cu nO (cu nO (cu nO (cu nO (c zX xR))))))))))))))))))))) We))
def aQk:=st (pr (cu iW (us 2 (cu ZT (cu On (us 178 (cu iW (cu iW (cu aV3 (c ab (cu iW (cu iW (cu (ac (LC (pu dJ (pu (ok' (nat 411)) Dx)))) (cu (app 11 3) (cu On (cu iW (cu iW (cu (ac (LC (pu dJ (pu (ok' (nat 73)) (nat 24))))) (c lz (cu (app 20 1) A4))))))))))))))))))) (pl (c axC (c lg (c lk (c me (c (so asz) (c J4 (c J5 (c J6 (c J7 (c J8 (c j8 (c axx (c tT (cu nO (cu nO (cu nO (cu nO (cu nO (cu nO (cu nO (c zX xR))))))))))))))))))))) We))
end
open Go.Ab
abbrev TP:=Tryz.prog
abbrev D0 {β δ:Type}(l:List Ct)(n:Nat)(Q:RA β)(R:δ->T)(B:β->Pg δ):Prop:=akX TP l ⟨[],[],[],[],none⟩ 2000 n Q R B
abbrev D1 {β δ:Type}(l:List Ct)(d0:List Nat)(n:Nat)(Q:RA β)(R:δ->T)(B:β->Pg δ):Prop:=akX TP l ⟨[],[],d0,[],none⟩ 2000 n Q R B
abbrev D2 {β δ:Type}(k:KK)(Q:RA β)(R:δ->T)(B:β->Pg δ):Prop:=akX TP k.l k.hs 2000 k.n Q R B
abbrev LI {D X:Type}(k:KK)(id:Nat)(Q:RS D)(E:∀{ρ:Type},X->(AX->St->Option ρ)->Option ρ)(S:D->Pg (D⊕X)):Prop:=aR9 TP k.l k.hs k.kk 2000 k.n id Q E S
abbrev JI {D X:Type}(k:KK)(id:Nat)(Q:RS D)(E:∀{ρ:Type},X->(AX->St->Option ρ)->Option ρ)(S:D->Pg X):Prop:=aSa TP k.l k.hs k.kk 2000 k.n id Q E S
section
variable [aA]
abbrev SC (e:Ct):Prop:=Snd TP e
theorem sc {e:Ct}{n:Nat}{F:Fz}(S:Sound TP n F)(h:e=(n,F):=by kernel_rfl):SC e:=Snd.of S h
theorem k0 {β δ:Type}{l:List Ct}{d0:List Nat}{n:Nat}{Q:RA β}{R:δ->T}{B:β->Pg δ}(hl:J9 TP l)(h:akX TP l ⟨[],[],d0,[],none⟩ 2000 n Q R B)(hc:GN TP n=true:=by kernel_rfl):Sound TP n (FC Q R λb=>(B b).val):=mk0 mixed hl hc h
theorem s0 {β δ:Type}{e:Ct}{l:List Ct}{d0:List Nat}{n:Nat}{Q:RA β}{R:δ->T}{B:β->Pg δ}(hl:J9 TP l)(h:akX TP l ⟨[],[],d0,[],none⟩ 2000 n Q R B)(he:e=(n,FC Q R λb=>(B b).val):=by kernel_rfl)(hc:GN TP n=true:=by kernel_rfl):SC e:=Snd.of (mk0 mixed hl hc h) he
theorem kS {β δ:Type}{k:KK}{Q:RA β}{R:δ->T}{B:β->Pg δ}(hl:J9 TP k.l)(i j:List Nat)
  (h1:BQ (λa=>∀kk,Oq TP (FA k.l) k.hs (tmpsOf TP k.n) kk 2000 a) (i.map (ZU TP k.n)))
  (h2:BQ (λb=>∀kk,auq TP (FA k.l) k.hs (tmpsOf TP k.n) kk 2000 b) (j.map (afV TP k.n)))
  (h:D2 k Q R B)(e1:LD (ZV TP k.n)=i.map (ZU TP k.n):=by kernel_rfl)(e2:LF k.hs (ZV TP k.n)=j.map (afV TP k.n):=by kernel_rfl)(hc:GN TP k.n=true:=by kernel_rfl):
  Sound TP k.n (FC Q R λb=>(B b).val):=mkS mixed hl hc (LG.by e1 h1 e2 h2) h
theorem kL {D X:Type}{k:KK}{id:Nat}{Q:RS D}{E:∀{ρ:Type},X->(AX->St->Option ρ)->Option ρ}{S:D->Pg (D⊕X)}(h:LI k id Q E S)
  (h0:ap6 k.hs (ZU TP k.n id)=some (fQ id k.kk Q E (bI S 2000)):=by kernel_rfl):∀k',Oq TP (FA k.l) k.hs (tmpsOf TP k.n) k' 2000 (ZU TP k.n id):=mkL h0 h
theorem kJ {D X:Type}{k:KK}{id:Nat}{Q:RS D}{E:∀{ρ:Type},X->(AX->St->Option ρ)->Option ρ}{S:D->Pg X}(hd:Hd)(h:JI k id Q E S)
  (h0:azC k.hs (afV TP k.n id)=some ⟨hd,fQ id k.kk Q E λd=>(S d).val⟩:=by kernel_rfl):∀k',auq TP (FA k.l) k.hs (tmpsOf TP k.n) k' 2000 (afV TP k.n id):=mkJ h0 h
theorem kN {k:KK}{c:Code}(h:ap6 k.hs c=none:=by kernel_rfl):∀k',Oq TP (FA k.l) k.hs (tmpsOf TP k.n) k' 2000 c:=Oq.no h
end
end Go.Proofs.YtldgljclcgaibaaGreat
namespace Go.Ab
variable [aA]
omit [aA] in
theorem az0:∀{h:List aj} {cs:List Ch} {j:Nat},cs[j]? =some .kill->(((after h cs)[j]?).getD none)=none
 | [],cs,j,_=>by simp[after]
 |b0::bs,[],j,h=>by simp at h
 |b0::bs,c::cs,0,h=>by
  simp only[aEa,hM] at h;subst h;simp[after]
 |b0::bs,c::cs,j+1,h=>by
  have:=az0 (h:=bs) (cs:=cs) (j:=j) (by simpa using h);cases c<;>simpa[after] using this
theorem ax7 {P:Program}{π:Pi}{w w':World}{h:List aj}{cs:List Ch}{k:aj}{val:AV}{v:Value}{B s e:Nat}(hH:sf π (hC (h.map some)) (hZ (h.map some)) w)(jZ:∀b,π b≠none->b<h.length)
  (Kg:∀b,b<h.length->cs[b]? =some .my∨cs[b]? =some .kill)(hfr:cx w (Dz π h.length (SZ cs)) w')(hle:s+aj.size k<=e)(p9:∀i,s<=i->i<e->(cl w' B i).isSome=true/\fz w' B i=false)
  (hk:∀j,j<aj.size k->∃v,cl w' B (s+j)=some v/\(aj.get k j).rel π v)
  (hpl:(w.heap.size<=B)∨∃b s0 q0 e0,b<h.length/\cs[b]? =some .kill/\π b=some (B,s0,q0,e0)/\s0<=s/\e<=e0)
  (ham:A' w')(hlb:s<e->aA.h0<=B)(hv:∀π':Pi,Ext π π'->π' h.length=some (B,s,aj.size k,e)->val.rel π' v):
  aIU P π w h ⟨val,cs,[k]⟩ (.returned v) w':=by
 have h0:π h.length=none:=by
  cases hh:π h.length with
  |none=>rfl
  |some p=>exact absurd (jZ _ (by rw[hh];simp)) (Nat.lt_irrefl _)
 have hx:=Ba h0 (B,s,aj.size k,e);have ax8:=pU π h.length (B,s,aj.size k,e);have agv:∀b,b≠h.length->AH π h.length (B,s,aj.size k,e) b=π b:=λb hb=>by simp only[AH,if_neg hb]
 have a08:(pe.heap ⟨val,cs,[k]⟩ h)[h.length]? =some (some k):=abP (r:=⟨val,cs,[k]⟩) (h:=h) (k:=0) rfl;have hlen:(pe.heap ⟨val,cs,[k]⟩ h).length=h.length+1:=by simp[pe.heap,m9]
 have live:∀b,hZ (pe.heap ⟨val,cs,[k]⟩ h) b≠none->b=h.length∨(b<h.length/\cs[b]? =some .my/\∃kb,h[b]? =some kb/\(pe.heap ⟨val,cs,[k]⟩ h)[b]? =some (some kb)):=λb hb=>by
  rcases afX b h.length with nC|heq|hgt
  .right
   rcases Kg b nC with hc|hc
   .have hkb:h[b]? =some (h[b]'nC):=kt _;exact⟨nC,hc,_,hkb,(Ea nC).trans (agr.2 hc _ hkb)⟩
   .exfalso;apply hb
    unfold hZ;rw[Ea nC,az0 hc];rfl
  .exact .inl heq
  .exfalso;apply hb
   unfold hZ;rw[J' (by omega)];rfl
 have kept:∀b kb,b<h.length->cs[b]? =some .my->h[b]? =some kb->∃Bb sb eb,π b=some (Bb,sb,aj.size kb,eb)/\sb+aj.size kb<=eb/\
   (∀i,sb<=i->i<eb->(cl w' Bb i).isSome=true/\fz w' Bb i=false)/\(∀j,j<aj.size kb->∃v,cl w' Bb (sb+j)=some v/\(aj.get kb j).rel π v)/\∀i,sb<=i->i<eb->Bb<w.heap.size/\¬Dz π h.length (SZ cs) Bb i:=λb kb nC hc hkb=>by
  have hzb:hZ (h.map some) b=some (aj.size kb):=by rw[Qn,hkb];rfl
  obtain⟨Bb,sb,eb,p1,p2,p3,p4⟩:=hH.hp b _ hzb
  have hnf:∀i,sb<=i->i<eb->Bb<w.heap.size/\¬Dz π h.length (SZ cs) Bb i:=λi i1 i2=>by
   refine⟨abO (p3 i i1 i2).1,?_⟩;rintro ⟨b2,s2,q2,e2,FF,hd2,hp2,j1,j2⟩
   have mz:b≠b2:=λe=>by subst e;exact hd2 hc
   have hz2:hZ (h.map some) b2≠none:=by
    rw[Qn,kt FF];simp
   exact hH.dj b b2 Bb sb _ eb s2 q2 e2 mz (by rw[hzb];simp) hz2 p1 hp2 i i1 i2 j1 j2
  refine⟨Bb,sb,eb,p1,p2,λi i1 i2=> ?_,λj hj=> ?_,hnf⟩
  .obtain⟨hB,hn⟩:=hnf i i1 i2;rw[hfr.cl hB hn,hfr.fz hB];exact p3 i i1 i2
  .obtain⟨v,hv1,hv2⟩:=p4 j hj;obtain⟨hB,hn⟩:=hnf (sb+j) (by omega) (by omega);refine⟨v,by rw[hfr.cl hB hn];exact hv1,?_⟩;rw[aDm hkb hj] at hv2;exact hv2
 have apart:∀b kb Bb sb qb eb,b<h.length->cs[b]? =some .my->h[b]? =some kb->π b=some (Bb,sb,qb,eb)->Bb=B->∀i,sb<=i->i<eb->s<=i->i<e->False:=λb kb Bb sb qb eb nC hc hkb hpb hBB i i1 i2 i3 i4=>by
  obtain⟨B1,s1,e1,q1,_,_,_,q5⟩:=kept b kb nC hc hkb;rw[hpb] at q1;cases q1;obtain⟨hB,hn⟩:=q5 i i1 i2;rcases hpl with hpl| ⟨b2,s2,q2,e2,FF,hc2,hp2,j1,j2⟩
  .omega
  .apply hn
   rw[hBB];exact⟨b2,s2,q2,e2,FF,by unfold SZ;rw[hc2];simp,hp2,by omega,by omega⟩
 refine⟨AH π h.length (B,s,aj.size k,e),v,rfl,hx,hv _ hx ax8,⟨ham,λb B1 s1 q1 e1 hz hp BP=> ?_,λb n hz=> ?_,λb b' B1 s1 q1 e1 s2 q2 e2 mz hz uo hp uG i i1 i2 i3 i4=> ?_⟩,hfr,λb hb=> ?_,λb B1 s1 q1 e1 a3c hb hB i i1 i2=> ?_⟩
 .rcases live b hz with rfl| ⟨nC,hc,kb,hkb,_⟩
  .rw[ax8] at hp;cases hp;exact hlb BP
  .rw[agv b (by omega)] at hp;exact hH.lb b B1 s1 q1 e1 (by rw[Qn,hkb];simp) hp BP
 .rcases live b (by rw[hz];simp) with rfl| ⟨nC,hc,kb,hkb,hgb⟩
  .rw[Z9 a08] at hz;cases hz;refine⟨B,s,e,ax8,hle,p9,λj hj=> ?_⟩;obtain⟨v,hv1,hv2⟩:=hk j hj;refine⟨v,hv1,?_⟩;rw[ags a08 hj];exact CV.dz hx _ _ hv2
  .rw[Z9 hgb] at hz;cases hz;obtain⟨Bb,sb,eb,p1,p2,p3,p4,_⟩:=kept b kb nC hc hkb;refine⟨Bb,sb,eb,by rw[agv b (by omega)];exact p1,p2,p3,λj hj=> ?_⟩;obtain⟨v,hv1,hv2⟩:=p4 j hj;refine⟨v,hv1,?_⟩;rw[ags hgb hj];exact CV.dz hx _ _ hv2
 .rcases live b hz with rfl| ⟨nC,hc,kb,hkb,_⟩
  .rcases live b' uo with rfl| ⟨a09,hc',kb',aYn,_⟩
   .exact mz rfl
   .rw[ax8] at hp;cases hp;rw[agv b' (by omega)] at uG;exact apart b' kb' _ _ _ _ a09 hc' aYn uG rfl i i3 i4 i1 i2
  .rw[agv b (by omega)] at hp;rcases live b' uo with rfl| ⟨a09,hc',kb',aYn,_⟩
   .rw[ax8] at uG;cases uG;exact apart b kb _ _ _ _ nC hc hkb hp rfl i i1 i2 i3 i4
   .rw[agv b' (by omega)] at uG;have hz1:hZ (h.map some) b≠none:=by rw[Qn,hkb];simp
    have hz2:hZ (h.map some) b'≠none:=by rw[Qn,aYn];simp
    exact hH.dj b b' B1 s1 q1 e1 s2 q2 e2 mz hz1 hz2 hp uG i i1 i2 i3 i4
 .show b<h.length+1;by_cases e:b=h.length
  .omega
  .rw[agv b e] at hb;have:=jZ b hb;omega
 .by_cases e':b=h.length
  .subst e';rw[ax8] at hb;cases hb;rcases hpl with hpl| ⟨b2,s2,q2,e2,FF,hc2,hp2,j1,j2⟩
   .omega
   .exact⟨b2,s2,q2,e2,FF,by unfold SZ;rw[hc2];simp,hp2,by omega,by omega⟩
  .rw[agv b e'] at hb;have:=jZ b (by rw[hb];simp);omega
end Go.Ab
