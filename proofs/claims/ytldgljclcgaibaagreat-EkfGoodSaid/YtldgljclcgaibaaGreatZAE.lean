/-
  Parts of the proof: AbW AbY AbZ AbNil AbPg AbLaw AbInv PI Tot TPw Bits VBits Bits4 PK SLA SLB
-/
import Derived.Test.YtldgljclcgaibaaGreatZAD
import Derived.Deep.Slices
import Derived.Laws.Externs
import Derived.Test.YtldgljclcgaibaaGreatRows
import Derived.Shelf.Spec.SlicesInsertGrow
open Nat renaming beq→z9,ble→wr
open Int renaming ofNat→ws
open Sum renaming elim→t9
set_option linter.unusedVariables false
set_option linter.unusedSimpArgs false
namespace Go.Ab
variable [ay]
open Go.ChangeShapes Go.WideShapes Go.Deep
inductive K where
 |b
 |i (k:IntKind)
 |s
 |u
 |q
def K.has:K->FV->Prop
 |.b,.b _=>True
 |.i k,.i k' n=>k'=k/\k.has n
 |.s,.s _=>True
 |.u,.u=>True
 |.q,.q n _=>n<=maxLen
 |_,_=>False
def K.nK:K->Nat->c7->Prop
 |.b,_,.b _=>True
 |.i k,n,.i k' g=>k'=k/\∀j,j<n->k.has (g j)
 |.s,_,.s _=>True
 |.u,_,.u=>True
 |.q,n,.q g _=>∀j,j<n->g j<=maxLen
 |_,_,_=>False
def UT {α:Type}:Nat->List α->List α
 |0,_=>[]
 |n+1,l=>l++UT n l
def alJ (P:Program)(g:TypeId->Option (List K)):List Field->List K->Option (List K)
 | [],acc=>some acc
 |f::fs,acc=>match g f.type with
  |some ks=>match z9 f.offset acc.length&&z9 (P.cellsOf f.type) ks.length with
   |true=>alJ P g fs (acc++ks)
   |false=>none
  |none=>none
def Mc (P:Program):Nat->TypeId->Option (List K)
 |0,_=>none
 |d+1,t=>match P.underlying t with
  |some .bool=>some [.b]
  |some (.int k)=>some [.i k]
  |some .string=>some [.s]
  |some (.struct fs)=>match alJ P (Mc P d) fs.toList [] with
   |some ks=>match z9 (P.cellsOf t) ks.length with
    |true=>some ks
    |false=>none
   |none=>none
  |some (.array n e)=>match Mc P d e with
   |some ks=>match z9 (P.cellsOf e) ks.length&&z9 (P.cellsOf t) (n*ks.length) with
    |true=>some (UT n ks)
    |false=>none
   |none=>none
  |some (.slice e)=>match P.underlying e with
   |some .bool=>match z9 (P.cellsOf e) 1 with
    |true=>some [.q]
    |false=>some [.u]
   |_=>some [.u]
  |_=>none
section
variable {H:Type} {enc:TypeId×Value->H} {P:Program} {W:World} {base:Nat} {spare:Nat->Bool} {held:Bool}
theorem avo {ks ks':List K}{cs Ti:List Value}(h:∃fs,bu K.has ks fs/\bu FV.rel fs cs)(h':∃fs,bu K.has ks' fs/\bu FV.rel fs Ti):∃fs,bu K.has (ks++ks') fs/\bu FV.rel fs (cs++Ti):=by
 obtain⟨fs,a,b⟩:=h;obtain⟨fs',a',b'⟩:=h';exact⟨fs++fs',a.append a',b.append b'⟩
theorem aqJ {d:Nat}(ih:∀{t:TypeId} {ks:List K} {fuel:Nat} {cs:List Value} {x:DataW H×List MemPlace},Mc P d t=some ks->DataW.trod enc P W base spare held fuel t cs=some x->∃fs,bu K.has ks fs/\bu FV.rel fs cs){n:Nat}{cs:List Value}:
  ∀{l:List Field} {acc ks:List K},alJ P (Mc P d) l acc=some ks->(∀f∈l,∃y,DataW.trod enc P W base spare held n f.type ((cs.drop f.offset).take (P.cellsOf f.type))=some y)->acc.length<=cs.length->
   (∃fs,bu K.has acc fs/\bu FV.rel fs (cs.take acc.length))->ks.length<=cs.length/\∃fs,bu K.has ks fs/\bu FV.rel fs (cs.take ks.length)
 | [],acc,ks,h,_,hl,ha=>by
  simp only[alJ] at h;cases h;exact⟨hl,ha⟩
 |f::l,acc,ks,h,hf,hl,ha=>by
  simp only[alJ] at h;split at h
  .rename_i kf hk
   split at h
   .rename_i hc
    simp only[cB] at hc;have e1:=lE hc.1;have e2:=lE hc.2;obtain⟨y,hy⟩:=hf f (by simp);obtain⟨fs,f1,f2⟩:=ih hk hy
    have hlen:kf.length=min (P.cellsOf f.type) (cs.length-f.offset):=by
     have h1:=f1.length;have h2:=f2.length;simp at h2
     omega
    have hle:acc.length+kf.length<=cs.length:=by omega
    refine aqJ ih h (λf' hf'=>hf f' (by simp[hf'])) (by simp;omega) ?_;have:=avo ha ⟨fs,f1,f2⟩;rw[ayg,List.take_add];rw[e1,e2] at this;exact this
   .cases h
  .cases h
omit [ay] in
theorem Vx {α:Type}(l:List α):∀n,(UT n l).length=n*l.length
 |0=>by simp[UT]
 |n+1=>by simp[UT,Vx l n,atk,Nat.add_comm]
omit [ay] in
theorem ai2 {α:Type}(l:List α):∀n,UT (n+1) l=UT n l++l
 |0=>by simp[UT]
 |n+1=>by
  have h:=ai2 l n;show l++UT (n+1) l=UT (n+1) l++l;rw[h,<-ayi,<-h];rfl
theorem Md (hA:∀B i v,cl W B i=some v->ay.fs B i=some v)(hsp:∀b,spare b=true):∀{d:Nat} {t:TypeId} {ks:List K} {fuel:Nat} {cs:List Value} {x:DataW H×List MemPlace},Mc P d t=some ks->DataW.trod enc P W base spare held fuel t cs=some x->∃fs,bu K.has ks fs/\bu FV.rel fs cs
 |0,_,_,_,_,_,h,_=>by cases h
 |d+1,t,ks,fuel,cs,x,h,hx=>by
  simp only[Mc] at h;split at h
  .rename_i hu
   cases h;obtain⟨b,rfl,_⟩:=DataW.trod_bool hu hx;exact⟨[.b b],⟨trivial,trivial⟩,rfl,trivial⟩
  .rename_i k hu
   cases h;obtain⟨n,rfl,_,hw⟩:=DataW.trod_int hu hx;refine⟨[.i k n],⟨⟨rfl,?_⟩,trivial⟩,rfl,trivial⟩;simp only[Lit.wf,cB,jW] at hw;exact hw
  .rename_i hu
   cases h;obtain⟨s,rfl,_⟩:=DataW.trod_string hu hx;exact⟨[.s s],⟨trivial,trivial⟩,rfl,trivial⟩
  .rename_i fs hu
   split at h
   .rename_i ks' hks
    split at h
    .rename_i hc
     cases h;have hc:=lE hc;obtain⟨xs,n,_,_,hl,_,hf⟩:=DataW.trod_struct hu hx
     obtain⟨_,r⟩:=aqJ (λh h'=>Md hA hsp h h') hks (n:=n) (cs:=cs) (λf hf'=>by
      obtain⟨i,hi⟩:=List.getElem?_of_mem hf';have:=hf i f (by rw[<-WB];exact hi)
      have hi':i<xs.length:=by
       have h1:=(lL.1 hi).1;simp at h1;omega
      rw[kR hi'] at this;exact⟨_,this⟩) (Nat.zero_le _) ⟨[],trivial,by simp;trivial⟩
     rw[<-hc,<-hl,List.take_length] at r;exact r
    .cases h
   .cases h
  .rename_i n e hu
   split at h
   .rename_i ks' hks
    split at h
    .rename_i hc
     cases h;simp only[cB] at hc;have e1:=lE hc.1;have e2:=lE hc.2;obtain⟨xs,m,_,_,hl,hn,hf⟩:=DataW.trod_array hu hx
     have key:∀j,j<=n->∃fs,bu K.has (UT j ks') fs/\bu FV.rel fs (cs.take (j*ks'.length)):=by
      intro j;induction j with
      |zero=>intro _;exact⟨[],trivial,by simp;trivial⟩
      |succ j ihj=>
       intro hj;have hj':j<xs.length:=by omega
       have:=hf j (by omega);rw[kR hj'] at this;rw[ai2,atk,List.take_add];have h2:=Md hA hsp hks this;rw[e1] at h2;exact avo (ihj (by omega)) h2
     have:=key n (cZ _);rw[<-e2,<-hl,List.take_length] at this;exact this
    .cases h
   .cases h
  .rename_i e hu
   have un:∃fs,bu K.has [.u] fs/\bu FV.rel fs cs:=by
    rcases open_slice hu hx with⟨rfl,_⟩| ⟨a',aS2,a05,m,n,D,Pl,rfl,_⟩
    .exact⟨[.u],⟨trivial,trivial⟩,rfl,trivial⟩
    .exact⟨[.u],⟨trivial,trivial⟩,rfl,trivial⟩
   split at h
   .rename_i hb
    split at h
    .rename_i hc
     cases h;have hc:=lE hc;rcases open_slice1 hu hc hx with⟨rfl,_⟩| ⟨a',aS2,a05,m,n,V,D,Pl,rfl,_,hle,a06,hm,_,hi⟩
     .exact⟨[.q 0 λ_=>false],⟨Nat.zero_le _,trivial⟩,.inl ⟨rfl,none,rfl⟩,trivial⟩
     .rw[hsp,if_pos rfl] at hm;subst hm;obtain⟨B,s,sp⟩:=a';refine⟨[.q aS2 λj=>match V j with|.bool b=>b|_=>false],⟨dL hle a06,trivial⟩,?_,trivial⟩;rcases WD m with z|z
      .subst z;have:aS2=0:=by omega
       subst this;exact .inl ⟨rfl,_,rfl⟩
      .have h0:=(hi 0 z).1
       have hs:sp=none:=by
        have e0:Addr.add ⟨B,s,sp⟩ 0=⟨B,s,sp⟩:=rfl;rw[e0] at h0;unfold World.cell? at h0;simp only at h0;split at h0
        .cases sp with
         |none=>rfl
         |some q=>simp at h0
        .cases h0
       subst hs;refine .inr ⟨B,s,m,hle,rfl,λj hj=> ?_⟩;obtain⟨h1,h2⟩:=hi j (by omega);obtain⟨b,FA,_⟩:=DataW.trod_bool hb h2;have hV:V j=.bool b:=by simpa using FA
       rw[na,hV] at h1;rw[hA B (s+j) (.bool b) h1];simp only[hV]
    .cases h;exact un
   .cases h;exact un
  .cases h
theorem aQ4 {ks:List K}{fs:List FV}{cs:List Value}(h1:bu K.has ks fs)(h2:bu FV.rel fs cs){j:Nat}{k:K}(hk:ks[j]? =some k):∃f v,cs[j]? =some v/\k.has f/\f.rel v:=by
 obtain⟨f,hf,r1⟩:=h1.get hk;obtain⟨v,hv,r2⟩:=h2.get hf;exact⟨f,v,hv,r1,r2⟩
def FV.toN:FV->Nat
 |.q n _=>n
 |_=>0
def FV.toG:FV->Nat->Bool
 |.q _ g=>g
 |_=>λ_=>false
def K.mk:K->(Nat->FV)->c7
 |.b,f=>.b λj=>(f j).toB
 |.i k,f=>.i k λj=>(f j).toI
 |.s,f=>.s λj=>(f j).toS
 |.u,_=>.u
 |.q,f=>.q (λj=>(f j).toN) λj=>(f j).toG
omit [ay] in
theorem K.aX0 {k:K}{f:Nat->FV}{j:Nat}(h:k.has (f j)):(k.mk f).at j=f j:=by
 cases k<;>simp only[K.mk,c7.at]<;>revert h<;>cases f j<;>intro h<;>first|exact h.elim|rfl|skip
 rw[h.1];rfl
omit [ay] in
theorem K.aKW {k:K}{f:Nat->FV}{n:Nat}(h:∀j,j<n->k.has (f j)):k.nK n (k.mk f):=by
 cases k<;>simp only[K.mk,K.nK]
 .refine⟨trivial,λj hj=> ?_⟩;have:=h j hj;revert this
  cases f j<;>intro h<;>first|exact h.elim|skip
  exact h.2
 .intro j hj;have:=h j hj;revert this
  cases f j<;>intro h<;>first|exact h.elim|skip
  exact h
inductive PT where
 |c (k:K)
 |a (n:Nat) (ks:List K)
def ayE:List PT->List K
 | []=>[]
 |.c k::l=>k::ayE l
 |.a n ks::l=>UT n ks++ayE l
def K.beq:K->K->Bool
 |.b,.b=>true
 |.i k,.i k'=>decide (k=k')
 |.s,.s=>true
 |.u,.u=>true
 |.q,.q=>true
 |_,_=>false
omit [ay] in
theorem K.beq_eq {x y:K}(h:x.beq y=true):x=y:=by
 cases x<;>cases y<;>simp only[K.beq] at h<;>first|rfl|cases h|skip
 rw[dm h]
def aS3:List K->List K->Bool
 | [],[]=>true
 |x::l,y::m=>x.beq y&&aS3 l m
 |_,_=>false
omit [ay] in
theorem aNv:∀{l m:List K},aS3 l m=true->l=m
 | [],[],_=>rfl
 |x::l,y::m,h=>by
  simp only[aS3,cB] at h;rw[K.beq_eq h.1,aNv h.2]
 | [],_::_,h=>by cases h
 |_::_,[],h=>by cases h
def aKX:List Tm->List K->List PT
 | [],_=>[]
 |.c::l,k::ks=>.c k::aKX l ks
 |.c::_,[]=>[]
 |.a n z::l,ks=>.a n (ks.take z)::aKX l (ks.drop (n*z))
inductive Prm where
 |flat (agg:Bool) (pt:List PT)
 |sl (ks:List K)
inductive DC where
 |c (f:FV)
 |a (cols:List c7)
inductive Dat where
 |flat (l:List DC)
 |sl (n:Nat) (cols:List c7)
def aAo:PT->DC->Prop
 |.c k,.c f=>k.has f
 |.a n ks,.a cols=>bu (λk c=>K.nK k n c) ks cols
 |_,_=>False
def Fit:Prm->Dat->Prop
 |.flat _ pt,.flat l=>bu aAo pt l
 |.sl ks,.sl n cols=>n<=maxLen/\bu (λk c=>K.nK k n c) ks cols
 |_,_=>False
def sgs:List PT->List DC->aj
 |.c _::pt,.c f::l=>.c (.f f)::sgs pt l
 |.a n _::pt,.a cols::l=>.a (.l n) cols::sgs pt l
 |_,_=>[]
def aX1:Bool->aj->AV
 |true,b=>.r (.agg b)
 |false,.c v::_=>.r (.c v)
 |false,_=>.WG
def aKY:List Prm->List Dat->List AV
 |.flat a pt::ps,.flat l::ds=>aX1 a (sgs pt l)::aKY ps ds
 |.sl ks::ps,.sl n cols::ds=>.r (.c (.fs n ks.length cols))::aKY ps ds
 |_,_=>[]
def aFw (ps:List Prm)(ds:List Dat):Prop:=bu Fit ps ds
def aNw (P:Program)(t:TypeId):Option Prm:=
 match P.underlying t with
 |some (.slice e)=>match Mc P 30 e with
  |some ks=>match z9 (P.cellsOf e) ks.length&&wr 1 ks.length with
   |true=>some (.sl ks)
   |false=>none
  |none=>none
 |_=>match ael P t,Mc P 30 t with
  |some true,some ks=>match aS3 (ayE (aKX (alp P 30 t) ks)) ks with
   |true=>some (.flat true (aKX (alp P 30 t) ks))
   |false=>none
  |some false,some [k]=>some (.flat false [.c k])
  |_,_=>none
def aKZ (P:Program):List TypeId->Option (List Prm)
 | []=>some []
 |t::ts=>match aNw P t,aKZ P ts with
  |some p,some ps=>some (p::ps)
  |_,_=>none
theorem aTU {n:Nat}{ks:List K}{fs:List FV}{cs:List Value}(h1:bu K.has (UT n ks) fs)(h2:bu FV.rel fs cs):
  ∃cols,bu (λk c=>K.nK k n c) ks cols/\∀j,j<n*ks.length->∃v,cs[j]? =some v/\(ja cols j).rel (λ_=>none) v:=by
 have hl:=h1.length;rw[Vx] at hl
 have alA:∀i j k,i<n->ks[j]? =some k->∃f,fs[i*ks.length+j]? =some f/\k.has f:=λi j k hi hj=>by
  have hjl:=(lL.1 hj).1
  have key:∀m i,i<m->(UT m ks)[i*ks.length+j]? =some k:=by
   intro m;induction m with
   |zero=>intro i hi;omega
   |succ m ih=>
    intro i hi;rw[UT];cases i with
    |zero=>rw[Th,dG,UR hjl];exact hj
    |succ i=>
     rw[aej (by rw[atk];omega),show(i+1)*ks.length+j-ks.length=i*ks.length+j by rw[atk];omega];exact ih i (by omega)
  obtain⟨f,hf,hh⟩:=h1.get (key n i hi);exact⟨f,hf,hh⟩
 refine⟨ks.zipIdx.map λp=>p.1.mk λi=>fs.getD (i*ks.length+p.2) .u,?_,λj hj=> ?_⟩
 .refine bu.agK (by simp) λj k c hk hc=> ?_;simp only[Ca,aEB,hk,Tg,iI] at hc;subst hc;refine K.aKW λi hi=> ?_;obtain⟨f,hf,hh⟩:=alA i j k hi hk;simp only[dG,List.getD,hf,LU];exact hh
 .have aEQ:0<ks.length:=by
   rcases WD ks.length with h|h
   .rw[h] at hj;omega
   .exact h
  have hm:=Nat.mod_lt j aEQ;have hq:j/ks.length<n:=(aye aEQ).2 hj;have hk:ks[j%ks.length]? =some (ks[j%ks.length]'hm):=kR _;obtain⟨f,hf,hh⟩:=alA (j/ks.length) (j%ks.length) _ hq hk;have hd:=Vu j ks.length;rw[hd] at hf;obtain⟨v,hv,hr⟩:=h2.get hf;refine⟨v,hv,?_⟩;unfold ja;simp only[agt,List.length_zipIdx,Ca,aEB,hk,Tg,dG];have e:fs.getD (j/ks.length*ks.length+j%ks.length) .u=f:=by rw[hd];simp[List.getD,hf]
  rw[K.aX0 (f:=λi=>fs.getD (i*ks.length+j%ks.length) .u) (j:=j/ks.length) (by rw[e];exact hh)];show FV.rel _ v;rw[e];exact hr
omit [ay] in
theorem aAp {α β:Type}{R:α->β->Prop}:∀{l l':List α} {m:List β},bu R (l++l') m->bu R l (m.take l.length)/\bu R l' (m.drop l.length)
 | [],l',m,h=>⟨by simp;trivial,by simpa using h⟩
 |a::l,l',[],h=>h.elim
 |a::l,l',b::m,h=>by
  obtain⟨h1,h2⟩:=h;have:=aAp (l:=l) (l':=l') (m:=m) h2;exact⟨⟨h1,this.1⟩,this.2⟩
theorem a13 {π π':Pi}{c:CV}{v:Value}(hc:∃x,c=.f x)(h:c.rel π v):c.rel π' v:=by
 obtain⟨x,rfl⟩:=hc;exact h
theorem ayF:∀{pt:List PT} {fs:List FV} {cs:List Value},bu K.has (ayE pt) fs->bu FV.rel fs cs->∃l,bu aAo pt l/\∀π,bu (CV.rel π) (aj.list (sgs pt l)) cs
 | [],[],[],_,_=>⟨[],trivial,λ_=>trivial⟩
 | [],_::_,_,h,_=>h.elim
 | [],[],_::_,_,h=>h.elim
 |.c k::pt,[],_,h,_=>h.elim
 |.c k::pt,f::fs,[],_,h=>h.elim
 |.c k::pt,f::fs,v::cs,h1,h2=>by
  obtain⟨l,a,b⟩:=ayF h1.2 h2.2;refine⟨.c f::l,⟨h1.1,a⟩,λπ=> ?_⟩;rw[sgs,aE2];exact⟨h2.1,b π⟩
 |.a n ks::pt,fs,cs,h1,h2=>by
  obtain⟨p1,p2⟩:=aAp (l:=UT n ks) (l':=ayE pt) h1;rw[Vx] at p1 p2;have h3:=h2.take (n*ks.length);have h4:=h2.drop (n*ks.length);obtain⟨cols,c1,c2⟩:=aTU p1 h3;obtain⟨l,a,b⟩:=ayF p2 h4;have Er:=c1.length;have hlen:=h1.length;rw[ayE,ayg,Vx] at hlen;have a4T:=h2.length;refine⟨.a cols::l,⟨c1,a⟩,λπ=> ?_⟩;rw[sgs];obtain⟨l1,l2⟩:=jy (b π);rw[atg] at l1;refine yD ?_ λj hj=> ?_
  .rw[aj.size_cons,Sg.lJ,Sz.val,<-Er];omega
  .rw[aj.size_cons] at hj;have hs:(Sg.a (.l n) cols).size=n*ks.length:=by rw[Sg.lJ,Sz.val,<-Er]
   by_cases lM:j<n*ks.length
   .obtain⟨v,hv,hr⟩:=c2 j lM;rw[ab5,if_pos lM] at hv;refine⟨v,hv,?_⟩;rw[aj.dR (by rw[hs];exact lM),Sg.pC];exact a13 (aDU cols j) hr
   .obtain⟨v,hv,hr⟩:=l2 (j-n*ks.length) (by rw[hs] at hj;omega);rw[Te,show n*ks.length+(j-n*ks.length)=j by omega] at hv;refine⟨v,hv,?_⟩;rw[aj.lp (by rw[hs];omega),hs];exact hr
theorem aNx (hA:∀B i v,cl W B i=some v->ay.fs B i=some v){t e:TypeId}{ks:List K}(hu:P.underlying t=some (.slice e))(hk:Mc P 30 e=some ks)(hc:P.cellsOf e=ks.length)(h1k:1<=ks.length){v:Value}{d:DataW H}{ps:List MemPlace}
  (h:DataW.Trod enc P W 0 (λ_=>true) true t v d ps)(hv:Value.okWide P W .any base t v):
  ∃n cols,Fit (.sl ks) (.sl n cols)/\∀π:Pi,(AV.r (.c (.fs n ks.length cols))).rel π v:=by
 obtain⟨fuel,h⟩:=h;obtain⟨a,len,cap,rfl⟩:=okWide_slice hu hv
 have zero:∃cols,bu (λk c=>K.nK k 0 c) ks cols:=⟨ks.map λk=>k.mk λ_=>.u,bu.agK (by simp) λi k c hk hc=>by
  simp only[Ca,hk,Tg,iI] at hc;subst hc;exact K.aKW λj hj=>by omega⟩
 rcases open_slice hu h with⟨h0,_⟩| ⟨a',aS2,a05,m,n,D,Pl,h0,_,hle,a06,hm,hx,hi⟩
 .simp[Value.cells] at h0
  obtain⟨rfl,rfl,rfl⟩:=h0;obtain⟨cols,aX2⟩:=zero;exact⟨0,cols,⟨Nat.zero_le _,aX2⟩,λπ=>⟨aX2.length.symm,.inl ⟨rfl,none,rfl⟩⟩⟩
 .simp[Value.cells] at h0
  obtain⟨rfl,rfl,rfl⟩:=h0
  have aX3:a'.spot=none:=by
   have hv:Cell.okWide P W .any base t (.slice (some a') len cap):=by
    unfold Value.okWide at hv;rw[hu] at hv;exact hv
   have hv:Cell.ok P W .any base t (.slice (some a') len cap):=by
    unfold Cell.okWide at hv;rw[hu] at hv;exact hv
   unfold Cell.ok at hv;rw[hu] at hv;exact hv.2.2.2.1
  obtain⟨B,s,sp⟩:=a';simp only at aX3;subst aX3;simp only[lI] at hm;subst hm;have hw:ks.length=P.cellsOf e:=hc.symm
  have cell:∀i j k,i<len->ks[j]? =some k->∃f v,cl W B (s+(i*ks.length+j))=some v/\k.has f/\f.rel v:=λi j k hil hj=>by
   obtain⟨Ti,h1,h2⟩:=hi i (by omega);obtain⟨fs,f1,f2⟩:=Md hA (λ_=>rfl) hk h2;obtain⟨f,v,e1,e2,e3⟩:=aQ4 f1 f2 hj;obtain⟨_,_,h3⟩:=World.cells?_some h1;have hjl:=(lL.1 hj).1;have:=h3 j (by omega);rw[na,na,e1] at this;exact⟨f,v,by unfold cl;rw[hw,<-Cc];exact this,e2,e3⟩
  have hdiv:∀j,j<len*ks.length->j/ks.length<len/\j%ks.length<ks.length/\j/ks.length*ks.length+j%ks.length=j:=λj hj=>by
   refine⟨(aye (by omega)).2 hj,Nat.mod_lt _ (by omega),Vu _ _⟩
  have pick:∀j,∃f,j<len*ks.length->∃v k,cl W B (s+j)=some v/\ks[j%ks.length]? =some k/\k.has f/\f.rel v:=λj=>by
   rcases ni j (len*ks.length) with hj|hj
   .obtain⟨d1,d2,d3⟩:=hdiv j hj;have hkj:ks[j%ks.length]? =some (ks[j%ks.length]'d2):=kR _;obtain⟨f,v,e1,e2,e3⟩:=cell _ _ _ d1 hkj;rw[d3] at e1;exact⟨f,λ_=>⟨v,_,e1,hkj,e2,e3⟩⟩
   .exact⟨.u,λh=>by omega⟩
  obtain⟨g,hg⟩:=Classical.axiomOfChoice pick
  have hgk:∀(i j:Nat) (k:K),i<len->ks[j]? =some k->k.has (g (i*ks.length+j)):=λi j k hil hj=>by
   have hjl:=(lL.1 hj).1
   have nL:i*ks.length+j<len*ks.length:=by
    have:=wK ks.length (show i+1<=len from hil);rw[atk] at this;omega
   obtain⟨v,k',_,h2,h3,_⟩:=hg _ nL;rw[ab8,atj,ayj hjl,hj] at h2;cases h2;exact h3
  refine⟨len,ks.zipIdx.map λp=>p.1.mk λi=>g (i*ks.length+p.2),⟨by omega,bu.agK (by simp) λj k c LK hc'=> ?_⟩,λπ=>⟨by simp,.inr ⟨B,s,m,hle,rfl,λj hj=> ?_⟩⟩⟩
  .simp only[Ca,aEB,LK,Tg,iI] at hc';subst hc';exact K.aKW λi hi=>by simpa using hgk i j k hi LK
  .obtain⟨d1,d2,d3⟩:=hdiv j hj;obtain⟨v,k',h1,LK,hh,h2⟩:=hg j hj;refine⟨g j,v,?_,hA _ _ _ h1,h2⟩;unfold ja;simp only[agt,List.length_zipIdx,Ca,aEB,LK,Tg,dG];rw[K.aX0 (f:=λi=>g (i*ks.length+j%ks.length)) (j:=j/ks.length) (by rw[d3];exact hh)];show CV.f (g (j/ks.length*ks.length+j%ks.length))=_;rw[d3]
theorem aQ5 (hA:∀B i v,cl W B i=some v->ay.fs B i=some v){t:TypeId}{ag:Bool}{pt:List PT}(hns:∀e,P.underlying t≠some (.slice e))(hp:aNw P t=some (.flat ag pt)){v:Value}{d:DataW H}{ps:List MemPlace}
  (h:DataW.Trod enc P W 0 (λ_=>true) true t v d ps)(hv:Value.okWide P W .any base t v):∃l,Fit (.flat ag pt) (.flat l)/\∀π,(aX1 ag (sgs pt l)).rel π v:=by
 obtain⟨fuel,h⟩:=h;unfold aNw at hp;split at hp
 .rename_i e hu;exact absurd hu (hns e)
 .split at hp
  .rename_i ks ha hk
   split at hp
   .rename_i heq
    cases hp;have heq:=aNv heq;obtain⟨fs,f1,f2⟩:=Md hA (λ_=>rfl) hk h;rw[<-heq] at f1;obtain⟨l,l1,l2⟩:=ayF f1 f2
    have aSY:∃cs,v=.agg cs:=by
     unfold Value.okWide at hv;unfold ael at ha;split at ha
     .rename_i hu;rw[hu] at hv;obtain⟨cs,h,_⟩:=hv;exact⟨cs,h⟩
     .rename_i hu;rw[hu] at hv;obtain⟨cs,h,_⟩:=hv;exact⟨cs,h⟩
     .cases ha
     .cases ha
    obtain⟨cs,rfl⟩:=aSY;exact⟨l,l1,λπ=>⟨cs,rfl,l2 π⟩⟩
   .cases hp
  .rename_i k ha hk
   cases hp;obtain⟨fs,f1,f2⟩:=Md hA (λ_=>rfl) hk h
   have aNh:v.cells.toList=[v]∨∃cs,v=.agg cs:=by
    cases v<;>first|exact .inl rfl|exact .inr ⟨_,rfl⟩
   have aNh:v.cells.toList=[v]:=by
    rcases aNh with h| ⟨cs,rfl⟩
    .exact h
    .exfalso
     have hc:Cell.okWide P W .any base t (.agg cs):=by
      unfold Value.okWide at hv;unfold ael at ha;split at ha<;>first|(cases ha;done)|skip
      rename_i u hu1 hu2 hu
      rw[hu] at hv;split at hv
      .rename_i hh;cases hh;exact absurd rfl (hu1 _)
      .rename_i hh;cases hh;exact absurd rfl (hu2 _ _)
      .exact hv
     unfold Cell.okWide at hc;revert hc
     have hkk:P.underlying t=some .bool∨(∃k,P.underlying t=some (.int k))∨P.underlying t=some .string:=by
      unfold ael at ha;unfold Mc at hk;split at hk
      .rename_i hu;exact .inl hu
      .rename_i k hu;exact .inr (.inl ⟨k,hu⟩)
      .rename_i hu;exact .inr (.inr hu)
      .rename_i hu;rw[hu] at ha;cases ha
      .rename_i hu;rw[hu] at ha;cases ha
      .rename_i hu;exact absurd hu (hns _)
      .cases hk
     rcases hkk with hu| ⟨k,hu⟩|hu<;>rw[hu]<;>intro hc<;>simp only[Cell.ok,hu] at hc
   rw[aNh] at f2;match fs,f1,f2 with
   | [f],⟨f1,_⟩,⟨f2,_⟩=>exact⟨[.c f],⟨f1,trivial⟩,λπ=>f2⟩
  .cases hp
theorem aFx (hA:∀B i v,cl W B i=some v->ay.fs B i=some v):∀{ts:List TypeId} {pr:List Prm} {vs:List Value} {dd:List (DataW H)} {ps:List MemPlace},aKZ P ts=some pr->(∀(j:Nat) t v,ts[j]? =some t->vs[j]? =some v->Value.okWide P W .any base t v)->
  DataW.TrodAll enc P W 0 (λ_=>true) true ts vs dd ps->∃ds,aFw pr ds/\∀π,bu (AV.rel π) (aKY pr ds) vs
 | [],pr,vs,dd,ps,hp,_,h=>by
  cases hp;obtain⟨rfl,rfl,rfl⟩:=trodAll_nil h;exact⟨[],trivial,λ_=>trivial⟩
 |t::ts,pr,vs,dd,ps,hp,hv,h=>by
  obtain⟨v,vs1,d,ds1,p1,p2,rfl,rfl,rfl,h3,h4⟩:=trodAll_cons h;simp only[aKZ] at hp;split at hp
  .rename_i p pr' H2 hp2
   cases hp;have hv0:=hv 0 t v rfl rfl;obtain⟨ds,f1,g1⟩:=aFx hA hp2 (λj t v hj hv'=>hv (j+1) t v (by simpa using hj) (by simpa using hv')) h4;cases p with
   |flat ag pt=>
    have hns:∀e,P.underlying t≠some (.slice e):=λe hu=>by
     unfold aNw at H2;rw[hu] at H2;simp only at H2;split at H2
     .split at H2<;>cases H2
     .cases H2
    obtain⟨l,l1,l2⟩:=aQ5 hA hns H2 h3 hv0;exact⟨.flat l::ds,⟨l1,f1⟩,λπ=>⟨l2 π,g1 π⟩⟩
   |sl ks=>
    obtain⟨e,hu,hk,hc,h1k⟩:∃e,P.underlying t=some (.slice e)/\Mc P 30 e=some ks/\P.cellsOf e=ks.length/\1<=ks.length:=by
     unfold aNw at H2;split at H2
     .rename_i e hu
      split at H2
      .rename_i ks' hk
       split at H2
       .rename_i hc
        cases H2;simp only[cB,beq_iff,fy] at hc;exact⟨e,hu,hk,hc.1,hc.2⟩
       .cases H2
      .cases H2
     .split at H2
      .split at H2<;>cases H2
      .cases H2
      .cases H2
    obtain⟨n,cols,q1,q2⟩:=aNx hA hu hk hc h1k h3 hv0;exact⟨.sl n cols::ds,⟨q1,f1⟩,λπ=>⟨q2 π,g1 π⟩⟩
  .cases hp
def aX4 (F:Fw)(ps:List Prm):Prop:=∀ds,aFw ps ds->∃news,(F (aKY ps ds) []).eval=some ⟨.r (.c (.f (.b true))),[],news⟩
abbrev aQ6 (W:World):ay:=⟨W.heap.size,λB i=>cl W B i⟩
omit [ay] in
theorem aTV (W:World): @A4 (aQ6 W) W:=by
 letI:=aQ6 W
 refine⟨cZ _,λB i hB=> ?_,λB i v h=>⟨ace (by rw[show cl W B i=some v from h];rfl),h⟩⟩;have hB:W.heap.size<=B:=hB;simp only[fz,World.frozen?,ate hB]
end
section
variable {H:Type} {enc:TypeId×Value->H} {P:Program} {W:World} {base:Nat}
omit [ay] in
theorem aQ7 {f:FuncId}{F:Fw}(S:∀[ay],Sound P f F)(hc:GQ P f=true){ts:List TypeId}{pr:List Prm}(hp:aKZ P ts=some pr)(hF:aX4 F pr){args:Array Value}{dd:List (DataW H)}{ps:List MemPlace}
  (aFk:∀(j:Nat) t v,ts[j]? =some t->args[j]? =some v->Value.okWide P W .any base t v)(ht:DataW.TrodAll enc P W 0 (λ_=>true) true ts args.toList dd ps):
  Calls P f args W λe W'=>e=.returned (.bool true)/\cq W (λ_ _=>False) W':=by
 letI:=aQ6 W
 obtain⟨ds,f1,g1⟩:=aFx (λB i v h=>h) hp (λj t v hj hv=>aFk j t v hj (by simpa using hv)) ht;obtain⟨news,hr⟩:=hF ds f1
 have hH:sU (λ_=>none) (hC (([]:List aj).map some)) (hZ (([]:List aj).map some)) W:=
  ⟨aTV W,λb B s q e hz=>by simp[hZ] at hz,λb n hn=>by simp[hZ] at hn,λb b' B s q e s' q' e' _ hz=>by simp[hZ] at hz⟩
 have hS:=S _ _ _ hr W (λ_=>none) args (g1 _) hH (λb hb=>absurd rfl hb)
 have hS:Calls P f args W (tY (λ_=>none) W [] ⟨.r (.c (.f (.b true))),[],news⟩):=by
  rcases hS with h| ⟨v,h,_⟩
  .exact h.2
  .rw[ID hc] at h;cases h
 refine Calls.mono hS ?_;rintro e w' ⟨π',v,rfl,_,hv,_,hF',_,_⟩
 refine⟨cW Ending.returned hv,hF'.mono λB i _ h=> ?_⟩;obtain⟨b,s,q,e,hb,_⟩:=h;cases hb
end
end Go.Ab
namespace Go.Ab
variable [ay]
def aAq:Array Value->Sem Value:=λargs=>do
 let(x,y,b)<-Extern.MathBitsCarry.three "Sub64" args
 pure (Extern.MathBitsCarry.pair ((x+Extern.MathBitsCarry.m64-y-b)%Extern.MathBitsCarry.m64) (if x<y+b then 1 else 0))
abbrev aJn (n:Int):RV:=.c (.f (.i .u64 n))
omit [ay] in
theorem aNy {P:Program}(x y c:Int)(h:c.toNat<=1)(w:World):(add64Entry #[.int .u64 x,.int .u64 y,.int .u64 c]).run P w=
  .ok (.tuple #[.int .u64 (ws ((x.toNat+y.toNat+c.toNat)%18446744073709551616)),.int .u64 (ws ((x.toNat+y.toNat+c.toNat)/18446744073709551616))]) w:=by
 match c,h with
 |.ofNat 0,_=>rfl
 |.ofNat 1,_=>rfl
 |.negSucc n,_=>rfl
 |.ofNat (n+2),h=>exact absurd h (by simp;omega)
omit [ay] in
theorem aNz {P:Program}(x y c:Int)(h:c.toNat<=1)(w:World):(aAq #[.int .u64 x,.int .u64 y,.int .u64 c]).run P w=
  .ok (.tuple #[.int .u64 (ws ((x.toNat+18446744073709551616-y.toNat-c.toNat)%18446744073709551616)),.int .u64 (ws (if x.toNat<y.toNat+c.toNat then 1 else 0))]) w:=by
 match c,h with
 |.ofNat 0,_=>rfl
 |.ofNat 1,_=>rfl
 |.negSucc n,_=>rfl
 |.ofNat (n+2),h=>exact absurd h (by simp;omega)
theorem aAr {P:Program}{f:FuncId}{fn:Func}{e:Array Value->Sem Value}{A B:Int->Int->Int->Int}(hf:P.funcs[f]? =some fn)(aFy:(fn.name=="runtime.NumGoroutine")=false)
  (hb:fn.body.isNone=true)(hn:Extern.findNext fn=none)(he:Extern.find fn=some e)
  (nW:∀(x y c:Int) (w:World),c.toNat<=1->(e #[.int .u64 x,.int .u64 y,.int .u64 c]).run P w=.ok (.tuple #[.int .u64 (A x y c),.int .u64 (B x y c)]) w):
  Sound P f λ
   | [.r (.c (.f (.i .u64 x))),.r (.c (.f (.i .u64 y))),.r (.c (.f (.i .u64 c)))],[]=>.test (wr c.toNat 1) (.leaf ⟨.tup [aJn (A x y c),aJn (B x y c)],[],[]⟩) .fail
   |_,_=>.fail:=by
 intro args h res tZ w π vs lF hH kr;simp only at tZ;split at tZ
 .rename_i x y c
  simp only[T.eval] at tZ;split at tZ
  .rename_i hc
   cases tZ;right
   obtain⟨l⟩:=vs;match l,lF with
   | [v1,v2,v3],⟨h1,h2,h3,_⟩=>
    have h1:v1=.int .u64 x:=h1;have h2:v2=.int .u64 y:=h2;have h3:v3=.int .u64 c:=h3;subst h1 h2 h3;refine⟨_,by rw[run_callFunc_extern hf aFy hb hn he,nW x y c w (WA hc)];rfl,π,_,rfl,Ext.refl π,⟨#[_,_],rfl,rfl,rfl,trivial⟩,hH,cq.refl _ _,kr,λb B s q e hb hp=> ?_⟩;exact absurd (kr b (by rw[hp];simp)) (by omega)
  .cases tZ
 .cases tZ
abbrev aX5 (x y c:Int):Int:=ws ((x.toNat+y.toNat+c.toNat)%18446744073709551616)
abbrev aX6 (x y c:Int):Int:=ws ((x.toNat+y.toNat+c.toNat)/18446744073709551616)
abbrev aX7 (x y c:Int):Int:=ws ((x.toNat+18446744073709551616-y.toNat-c.toNat)%18446744073709551616)
abbrev aX8 (x y c:Int):Int:=ws (if x.toNat<y.toNat+c.toNat then 1 else 0)
def aDX (A B:Int->Int->Int->Int):Fw
 | [.r (.c (.f (.i .u64 x))),.r (.c (.f (.i .u64 y))),.r (.c (.f (.i .u64 c)))],[]=>.test (wr c.toNat 1) (.leaf ⟨.tup [aJn (A x y c),aJn (B x y c)],[],[]⟩) .fail
 |_,_=>.fail
theorem aK0 {P:Program}{f:FuncId}{fn:Func}(hf:P.funcs[f]? =some fn)(aFy:(fn.name=="runtime.NumGoroutine")=false)
  (hb:fn.body.isNone=true)(hn:Extern.findNext fn=none)(he:Extern.find fn=some add64Entry):Sound P f (aDX aX5 aX6):=
 aAr hf aFy hb hn he λx y c w h=>aNy x y c h w
theorem aK1 {P:Program}{f:FuncId}{fn:Func}(hf:P.funcs[f]? =some fn)(aFy:(fn.name=="runtime.NumGoroutine")=false)
  (hb:fn.body.isNone=true)(hn:Extern.findNext fn=none)(he:Extern.find fn=some aAq):Sound P f (aDX aX7 aX8):=
 aAr hf aFy hb hn he λx y c w h=>aNz x y c h w
end Go.Ab
namespace Go.Ab
theorem aTW {D:Type}(x:Option D)(g:D->pD):(T.opt x λd=>.leaf (g d)).eval=x.map g:=by cases x<;>rfl
abbrev C3:=Int->Int->Int->Option (Int×Int)
def aes (f:C3):Fw:=λargs h=>match args,h with
 | [.r (.c (.f (.i .u64 x))),.r (.c (.f (.i .u64 y))),.r (.c (.f (.i .u64 c)))],[]=>.opt (f x y c) λd=>.leaf ⟨.tup [aJn d.1,aJn d.2],[],[]⟩
 |_,_=>.fail
def Dt:C3:=λx y c=>cond (wr c.toNat 1) (some (aX5 x y c,aX6 x y c)) none
def aet:C3:=λx y c=>cond (wr c.toNat 1) (some (aX7 x y c,aX8 x y c)) none
theorem aJo [ay]{P:Program}{f:FuncId}{A B:Int->Int->Int->Int}(S:Sound P f (aDX A B)):Sound P f (aes λx y c=>cond (wr c.toNat 1) (some (A x y c,B x y c)) none):=
 S.weaken λargs h r hr=>by
  unfold aes at hr;split at hr
  .rename_i x y c
   rw[aTW] at hr;simp only at hr;refine⟨r,?_,.refl _ _⟩;unfold aDX;simp only[T.eval];cases hc:wr c.toNat 1<;>rw[hc] at hr<;>first|(cases hr;done)|exact hr
  .cases hr
theorem atz {D:Type}(x:Option D)(g:D->T):(T.opt x g).eval=x.bind λd=>(g d).eval:=by cases x<;>rfl
theorem aTX {α β:Type}(q:α->Option β)(b:Bool)(x y:Option α):(cond b x y).bind q=cond b (x.bind q) (y.bind q):=by cases b<;>rfl
def T.sum {A B:Type}(x:A⊕B)(f:A->T)(g:B->T):T:=.test x.isLeft (.opt x.getLeft? f) (.opt x.getRight? g)
theorem aFz {b:Bool}{a:T}{r:pD}(h:(T.test b a .fail).eval=some r):b=true/\a.eval=some r:=by cases b<;>first|(cases h;done)|exact⟨rfl,h⟩
theorem aAs {D X ρ σ:Type}{s1:D->(D->Option ρ)->(X->Option ρ)->Option ρ}{s2:D->(D->Option σ)->(X->Option σ)->Option σ}(q:ρ->Option σ)
  (h:∀d c x,(s1 d c x).bind q=s2 d (λd=>(c d).bind q) (λe=>(x e).bind q))(k:X->Option ρ):∀(n:Nat) (d:D),(Tp s1 n d k).bind q=Tp s2 n d λe=>(k e).bind q
 |0,_=>rfl
 |n+1,d=>by
  show(s1 d (λd=>Tp s1 n d k) k).bind q=s2 d (λd=>Tp s2 n d λe=>(k e).bind q) λe=>(k e).bind q
  rw[h];congr 1
  funext d'
  exact aAs q h k n d'
theorem aAt {hd:St->Option St}{ρ:Type}{body:St->(AX->St->Option ρ)->Option ρ}{K:AX->St->Option ρ}{D X:Type}{emb:D->St}{step:D->(D->Option ρ)->(X->Option ρ)->Option ρ}{kx:X->Option ρ}
  (h:∀(d:D) (c:St->Option ρ),body (emb d) (next hd c K)=step d (λd=>c (emb d)) kx):∀(n:Nat) (d:D),iter hd body K n (emb d)=Tp step n d kx
 |0,_=>rfl
 |n+1,d=>by
  have e:iter hd body K (n+1) (emb d)=body (emb d) (next hd (iter hd body K n) K):=rfl;rw[e,h];have e2:Tp step (n+1) d kx=step d (λd=>Tp step n d kx) kx:=rfl;rw[e2];congr 1
  funext d'
  exact aAt h n d'
theorem OC.of [ay]{P:Program}{E:Env}{hs:Hs}{nt lf id k0:Nat}{a:Code}{run:∀{ρ:Type},St->(AX->St->Option ρ)->Option ρ}(h0:aqz hs a=some ⟨id,k0,run⟩)
  (h:∀{ρ:Type} (s:St) (K:AX->St->Option ρ) (r:ρ),run s K=some r->∃n,iter (λt=>t.head k0 hs a) (HF P E hs nt k0 lf a) K n s=some r):∀kk,OC P E hs nt kk lf a:=by
 intro kk σ hσ hk ρ s K r hr;rw[h0] at hσ;cases hσ;cases hk;exact h s K r hr
theorem OC.no [ay]{P:Program}{E:Env}{hs:Hs}{nt lf:Nat}{a:Code}(h0:aqz hs a=none):∀kk,OC P E hs nt kk lf a:=by
 intro kk σ hσ;rw[h0] at hσ;cases hσ
theorem BL.imp {α:Type}{p q:α->Prop}(h:∀a,p a->q a):∀{l:List α},BL p l->BL q l
 | [],_=>trivial
 |_::_,hl=>⟨h _ hl.1,BL.imp h hl.2⟩
theorem auZ.of [ay]{P:Program}{E:Env}{hs:Hs}{nt lf id k0:Nat}{hd:Hd}{b:Code}{run:∀{ρ:Type},St->(AX->St->Option ρ)->Option ρ}(h0:az5 hs b=some ⟨hd,⟨id,k0,run⟩⟩)
  (h:∀{ρ:Type} (s:St) (K:AX->St->Option ρ) (r:ρ),run s K=some r->HF P E hs nt k0 lf b s K=some r):∀kk,auZ P E hs nt kk lf b:=by
 intro kk j hj hk ρ s K r hr;rw[h0] at hj;cases hj;cases hk;exact h s K r hr
theorem LR.by [ay]{P:Program}{E:Env}{hs:Hs}{f:FuncId}{lf:Nat}{l lj:List Code}(hl:LP (aal P f)=l)(h:BL (λa=>∀kk,OC P E hs (tmpsOf P f) kk lf a) l)
  (hlj:LQ hs (aal P f)=lj)(hj:BL (λb=>∀kk,auZ P E hs (tmpsOf P f) kk lf b) lj):
  ∀(fn:Func) (c:Code) (kk:Nat),P.funcs[f]? =some fn->fn.body=some c->LR P E hs fn.ntmps kk lf c:=by
 intro fn c kk hf hb;have e1:aal P f=c:=by unfold aal;rw[hf];simp[hb]
 have e2:tmpsOf P f=fn.ntmps:=by unfold tmpsOf;rw[hf];rfl
 rw[e1] at hl hlj;rw[<-e2];refine LR.of ?_ ?_
 .rw[hl];exact h.imp λa ha=>ha kk
 .rw[hlj];exact hj.imp λa ha=>ha kk
structure jF (α β:Type) where
 rd:α->Option β
 em:β->α
 ok:∀a b,rd a=some b->a=em b
namespace jF
def hole {α:Type}:jF α α:=⟨some,id,λa b h=>by cases h;rfl⟩
def nat (n:Nat):jF Nat Unit:=⟨λm=>cond (z9 m n) (some ()) none,λ_=>n,λa b h=>by
 cases hb:z9 a n<;>rw[hb] at h<;>first|(cases h;done)|exact lE hb⟩
def int (n:Int):jF Int Unit:=⟨λm=>cond (decide (m=n)) (some ()) none,λ_=>n,λa b h=>by
 cases hb:decide (a=n)<;>rw[hb] at h<;>first|(cases h;done)|exact dm hb⟩
def bool (n:Bool):jF Bool Unit:=⟨λm=>cond (m==n) (some ()) none,λ_=>n,λa b h=>by
 cases a<;>cases n<;>first|rfl|cases h⟩
def via {α α' β:Type}(f:α->α')(g:α'->Option α)(h:∀a' a,g a'=some a->a'=f a)(x:jF α β):jF α' β:=⟨λa=>(g a).bind x.rd,λb=>f (x.em b),λa b hb=>by
 cases ha:g a with
 |none=>rw[ha] at hb;cases hb
 |some c=>rw[ha] at hb;rw[h a c ha,<-x.ok c b hb]⟩
def pair {α β γ δ:Type}(x:jF α β)(y:jF γ δ):jF (α×γ) (β×δ):=⟨λp=>(x.rd p.1).bind λb=>(y.rd p.2).bind λd=>some (b,d),λq=>(x.em q.1,y.em q.2),λp q h=>by
 cases h1:x.rd p.1 with
 |none=>rw[h1] at h;cases h
 |some b=>
  rw[h1] at h;cases h2:y.rd p.2 with
  |none=>simp only[bG,h2] at h;cases h
  |some d=>
   simp only[bG,h2] at h;cases h;rw[<-x.ok _ _ h1,<-y.ok _ _ h2]⟩
def one {α:Type}(a:α)(g:α->Bool)(h:∀b,g b=true->b=a):jF α Unit:=⟨λb=>cond (g b) (some ()) none,λ_=>a,λb _ hb=>by
 cases hg:g b<;>rw[hg] at hb<;>first|(cases hb;done)|exact h b hg⟩
def nil {α:Type}:jF (List α) Unit:=one [] (λl=>match l with| []=>true|_=>false) λb h=>by cases b<;>first|rfl|cases h
def cons {α β γ:Type}(x:jF α β)(y:jF (List α) γ):jF (List α) (β×γ):=via (λp:α×List α=>p.1::p.2) (λl=>match l with|a::l=>some (a,l)|_=>none) (λa' a h=>by cases a'<;>cases h;rfl) (pair x y)
def szl {β:Type}(x:jF Nat β):jF Sz β:=via Sz.l (λz=>match z with|.l n=>some n|_=>none) (λa' a h=>by cases a'<;>cases h;rfl) x
def szs {β:Type}(x:jF Nat β):jF Sz β:=via Sz.s (λz=>match z with|.s n=>some n|_=>none) (λa' a h=>by cases a'<;>cases h;rfl) x
def ok' {β:Type}(x:jF Nat β):jF cE β:=via cE.k (λz=>match z with|.k n=>some n|_=>none) (λa' a h=>by cases a'<;>cases h;rfl) x
def ox {β γ δ:Type}(x:jF Nat β)(y:jF Nat γ)(z:jF Nat δ):jF cE (β×γ×δ):=via (λp:Nat×Nat×Nat=>cE.x p.1 p.2.1 p.2.2) (λz=>match z with|.x a b c=>some (a,b,c)|_=>none) (λa' a h=>by cases a'<;>cases h;rfl) (pair x (pair y z))
def fi {β:Type}(k:IntKind)(x:jF Int β):jF FV β:=via (FV.i k) (λz=>match z with|.i k' n=>cond (decide (k'=k)) (some n) none|_=>none) (λa' a h=>by
 cases a' with
 |i k' n=>
  cases hk:decide (k'=k)<;>simp only[hk] at h<;>first|(cases h;done)|(cases h;rw[dm hk])
 |_=>cases h) x
def fb {β:Type}(x:jF Bool β):jF FV β:=via FV.b (λz=>match z with|.b n=>some n|_=>none) (λa' a h=>by cases a'<;>cases h;rfl) x
def fs {β:Type}(x:jF ByteArray β):jF FV β:=via FV.s (λz=>match z with|.s n=>some n|_=>none) (λa' a h=>by cases a'<;>cases h;rfl) x
def cf {β:Type}(x:jF FV β):jF CV β:=via CV.f (λz=>match z with|.f n=>some n|_=>none) (λa' a h=>by cases a'<;>cases h;rfl) x
def N7 {β γ δ:Type}(x:jF Nat β)(y:jF cE γ)(z:jF Nat δ):jF CV (β×γ×δ):=via (λp:Nat×cE×Nat=>CV.ptr p.1 p.2.1 p.2.2) (λz=>match z with|.ptr a b c=>some (a,b,c)|_=>none) (λa' a h=>by cases a'<;>cases h;rfl) (pair x (pair y z))
def ccl {α β γ δ:Type}(u:jF Nat α)(x:jF Nat β)(y:jF cE γ)(z:jF Nat δ):jF CV (α×β×γ×δ):=via (λp:Nat×Nat×cE×Nat=>CV.cl p.1 p.2.1 p.2.2.1 p.2.2.2) (λz=>match z with|.cl e a b c=>some (e,a,b,c)|_=>none) (λa' a h=>by cases a'<;>cases h;rfl) (pair u (pair x (pair y z)))
def fJ {β γ δ ε ζ:Type}(x:jF Nat β)(y:jF cE γ)(z:jF Sz δ)(u:jF Nat ε)(w:jF Bool ζ):jF CV (β×γ×δ×ε×ζ):=via (λp:Nat×cE×Sz×Nat×Bool=>CV.sl p.1 p.2.1 p.2.2.1 p.2.2.2.1 p.2.2.2.2) (λz=>match z with|.sl a b c d e=>some (a,b,c,d,e)|_=>none) (λa' a h=>by cases a'<;>cases h;rfl) (pair x (pair y (pair z (pair u w))))
def cfs {β γ δ:Type}(x:jF Nat β)(y:jF Nat γ)(z:jF (List c7) δ):jF CV (β×γ×δ):=via (λp:Nat×Nat×List c7=>CV.fs p.1 p.2.1 p.2.2) (λz=>match z with|.fs a b c=>some (a,b,c)|_=>none) (λa' a h=>by cases a'<;>cases h;rfl) (pair x (pair y z))
def axZ:jF CV Unit:=one .aiY (λl=>match l with|.aiY=>true|_=>false) λb h=>by cases b<;>first|rfl|cases h
def aV8:jF CV Unit:=one .nils (λl=>match l with|.nils=>true|_=>false) λb h=>by cases b<;>first|rfl|cases h
def ki {β:Type}(k:IntKind)(x:jF (Nat->Int) β):jF c7 β:=via (c7.i k) (λz=>match z with|.i k' n=>cond (decide (k'=k)) (some n) none|_=>none) (λa' a h=>by
 cases a' with
 |i k' n=>
  cases hk:decide (k'=k)<;>simp only[hk] at h<;>first|(cases h;done)|(cases h;rw[dm hk])
 |_=>cases h) x
def kb {β:Type}(x:jF (Nat->Bool) β):jF c7 β:=via c7.b (λz=>match z with|.b n=>some n|_=>none) (λa' a h=>by cases a'<;>cases h;rfl) x
def ks {β:Type}(x:jF (Nat->ByteArray) β):jF c7 β:=via c7.s (λz=>match z with|.s n=>some n|_=>none) (λa' a h=>by cases a'<;>cases h;rfl) x
def gc {β:Type}(x:jF CV β):jF Sg β:=via Sg.c (λz=>match z with|.c n=>some n|_=>none) (λa' a h=>by cases a'<;>cases h;rfl) x
def ga {β γ:Type}(x:jF Sz β)(y:jF (List c7) γ):jF Sg (β×γ):=via (λp:Sz×List c7=>Sg.a p.1 p.2) (λz=>match z with|.a n c=>some (n,c)|_=>none) (λa' a h=>by cases a'<;>cases h;rfl) (pair x y)
def rc {β:Type}(x:jF CV β):jF RV β:=via RV.c (λz=>match z with|.c n=>some n|_=>none) (λa' a h=>by cases a'<;>cases h;rfl) x
def ra {β:Type}(x:jF aj β):jF RV β:=via RV.agg (λz=>match z with|.agg n=>some n|_=>none) (λa' a h=>by cases a'<;>cases h;rfl) x
def ar {β:Type}(x:jF RV β):jF AV β:=via AV.r (λz=>match z with|.r n=>some n|_=>none) (λa' a h=>by cases a'<;>cases h;rfl) x
def rZ {β:Type}(x:jF (List RV) β):jF AV β:=via AV.tup (λz=>match z with|.tup n=>some n|_=>none) (λa' a h=>by cases a'<;>cases h;rfl) x
def afn {β γ:Type}(x:jF Nat β)(y:jF (List RV) γ):jF AV (β×γ):=via (λp:Nat×List RV=>AV.fn p.1 p.2) (λz=>match z with|.fn a b=>some (a,b)|_=>none) (λa' a h=>by cases a'<;>cases h;rfl) (pair x y)
def a07:jF AV Unit:=one .WG (λl=>match l with|.WG=>true|_=>false) λb h=>by cases b<;>first|rfl|cases h
def st {β γ δ:Type}(x:jF (List AV) β)(y:jF (List (Option aj)) γ)(z:jF (List Nat) δ):jF St (β×γ×δ):=via (λp:List AV×List (Option aj)×List Nat=>St.mk p.1 p.2.1 p.2.2) (λz=>some (z.tmps,z.heap,z.du)) (λa' a h=>by cases a';cases h;rfl) (pair x (pair y z))
end jF
end Go.Ab
namespace Go.Proofs.YtldgljclcgaibaaGreat
open Go.Ab
theorem mixed:Tryz.prog.follows .mixedOrders=true:=by kernel_rfl
theorem own:ownKnob Tryz.prog.godebug=none:=by kernel_rfl
theorem laid:laidOutB Tryz.prog=true:=by kernel_rfl
end Go.Proofs.YtldgljclcgaibaaGreat
namespace Go.Ab
variable [ay]
variable {P:Program}
def ER (LL:List CK):aj:=[.a (.s 0) (LL.map CK.nK)]
def T.aNA (g:pD->pD):T->T
 |.leaf r=>.leaf (g r)
 |.fail=>.fail
 |.test x a b=>.test x (a.aNA g) (b.aNA g)
 |.opt x k=>.opt x λd=>(k d).aNA g
omit [ay] in
theorem aQ8 {g:pD->pD}{t:T}{r:pD}(h:(t.aNA g).eval=some r):∃r',t.eval=some r'/\r=g r':=by
 induction t with
 |leaf r'=>cases h;exact⟨r',rfl,rfl⟩
 |fail=>cases h
 |test x a b iha ihb=>
  cases x
  .exact ihb h
  .exact iha h
 |opt x k ih=>
  cases x with
  |none=>cases h
  |some d=>exact ih d h
def vR (i:Nat)(LL:List CK)(F:Fw):Fw:=λargs h=>match args[i]? with
 |some (.r (.c .nils))=>(F (args.set i (.r (.c (.sl h.length (.k 0) (.s 0) LL.length true)))) (h++[ER LL])).aNA λr=>⟨r.val,r.yP.take h.length,ER LL::r.news⟩
 |_=>F args h
omit [ay] in
theorem aFA (LL:List CK):aj.size (ER LL)=0:=by
 unfold ER;rw[aj.size_cons,aj.lG,Sg.lJ];simp[Sz.val]
omit [ay] in
theorem RC:∀(h:List aj) (z:aj) (cs:List Ch),∃x,after (h++[z]) cs=after h (cs.take h.length)++[x]
 | [],z,[]=>⟨none,rfl⟩
 | [],z,.mB::cs=>⟨some z,rfl⟩
 | [],z,.set b::cs=>⟨some b,rfl⟩
 | [],z,.kill::cs=>⟨none,rfl⟩
 |b::bs,z,[]=>by
  obtain⟨x,hx⟩:=RC bs z [];refine⟨x,?_⟩;simp only[List.take_nil] at hx;simp[after,hx]
 |b::bs,z,.mB::cs=>by
  obtain⟨x,hx⟩:=RC bs z cs;exact⟨x,by simp[after,hx]⟩
 |b::bs,z,.set k::cs=>by
  obtain⟨x,hx⟩:=RC bs z cs;exact⟨x,by simp[after,hx]⟩
 |b::bs,z,.kill::cs=>by
  obtain⟨x,hx⟩:=RC bs z cs;exact⟨x,by simp[after,hx]⟩
omit [ay] in
theorem aX9 {α:Type}{A N:List α}{x y:α}{b:Nat}(h:b≠A.length):(A++[x]++N)[b]? =(A++y::N)[b]? :=by
 rcases ni b A.length with h1|h1
 .rw[ayi,UR h1,UR h1]
 .rw[ayi,aej h1,aej h1];obtain⟨m,hm⟩:∃m,b-A.length=m+1:=⟨b-A.length-1,by omega⟩;rw[hm];rfl
theorem Sound.nil {f:FuncId}{F:Fw}(i:Nat)(LL:List CK)(S:Sound P f F):Sound P f (vR i LL F):=by
 intro args h res tZ w π vs lF hH kr;unfold vR at tZ;split at tZ
 .rename_i hi
  obtain⟨r,hr,rfl⟩:=aQ8 tZ;generalize hπ2:(λb=>if b=h.length then some (0,0,0,0) else π b:Pi)=π2
  have p1:∀b,b≠h.length->π2 b=π b:=λb hb=>by rw[<-hπ2];simp[hb]
  have p2:π2 h.length=some (0,0,0,0):=by rw[<-hπ2];simp
  have hx:Ext π π2:=λb p hb=>by
   have:b<h.length:=kr b (by rw[hb];simp);rw[p1 b (by omega)];exact hb
  have aZL:bu (AV.rel π2) (args.set i (.r (.c (.sl h.length (.k 0) (.s 0) LL.length true)))) vs.toList:=by
   have lF:=lF.imp (AV.dM hx);refine bu.agK (by rw[List.length_set];exact lF.length) λj a v ha hv=> ?_;rw[aED] at ha;split at ha
   .rename_i hij
    subst hij;split at ha
    .cases ha;obtain⟨v',hv',hr'⟩:=lF.get hi;rw[hv] at hv';cases hv'
     exact⟨0,0,0,0,p2,by simp[cE.val,Sz.val],by simp[cE.val,Sz.val],.inl ⟨rfl,none,hr'⟩⟩
    .cases ha
   .obtain⟨v',hv',hr'⟩:=lF.get ha;rw[hv] at hv';cases hv'
    exact hr'
  have lt:∀b,b<h.length->((h++[ER LL]).map some)[b]? =(h.map some)[b]? :=λb hb=>by
   rw[List.map_append,UR (by simpa using hb)]
  have gz:∀b,b<h.length->hZ ((h++[ER LL]).map some) b=hZ (h.map some) b/\∀j,hC ((h++[ER LL]).map some) b j=hC (h.map some) b j:=λb hb=>by
   unfold hZ hC;rw[lt b hb];exact⟨rfl,λ_=>rfl⟩
  have gn:hZ ((h++[ER LL]).map some) h.length=some 0:=by
   unfold hZ;simp[aFA]
  have gd:∀b,h.length<b->hZ ((h++[ER LL]).map some) b=none:=λb hb=>by
   unfold hZ;rw[Ke (by simp;omega)];rfl
  have hH2:sU π2 (hC ((h++[ER LL]).map some)) (hZ ((h++[ER LL]).map some)) w:=by
   refine⟨hH.am,λb B s q e hz hb BK=> ?_,λb n hn=> ?_,λb b' B s q e s' q' e' mC hz uY hb fu i i1 i2 i3 i4=> ?_⟩
   .rcases ags b h.length with h1|h1|h1
    .rw[(gz b h1).1] at hz;rw[p1 b (by omega)] at hb;exact hH.lb b B s q e hz hb BK
    .subst h1;rw[p2] at hb;cases hb;omega
    .exact absurd (gd b h1) hz
   .rcases ags b h.length with h1|h1|h1
    .rw[(gz b h1).1] at hn;obtain⟨B,s,e,k1,k2,k3,k4⟩:=hH.hp b n hn
     exact⟨B,s,e,hx _ _ k1,k2,k3,λj hj=>by
      obtain⟨v,v1,v2⟩:=k4 j hj;exact⟨v,v1,by rw[(gz b h1).2];exact CV.dM hx _ _ v2⟩⟩
    .subst h1;rw[gn] at hn;cases hn;exact⟨0,0,0,p2,by omega,λi _ _=>by omega,λj hj=>by omega⟩
    .rw[gd b h1] at hn;cases hn
   .have nz:∀b B s q e,b=h.length->π2 b=some (B,s,q,e)->s=0/\e=0:=λb B s q e hb hp=>by
     rw[hb,p2] at hp;cases hp;exact⟨rfl,rfl⟩
    rcases ags b h.length with h1|h1|h1
    .rcases ags b' h.length with h2|h2|h2
     .rw[(gz b h1).1] at hz;rw[(gz b' h2).1] at uY;rw[p1 b (by omega)] at hb;rw[p1 b' (by omega)] at fu;exact hH.dj b b' B s q e s' q' e' mC hz uY hb fu i i1 i2 i3 i4
     .have:=nz b' B s' q' e' h2 fu;omega
     .exact uY (gd b' h2)
    .have:=nz b B s q e h1 hb;omega
    .exact hz (gd b h1)
  have a14:∀b,π2 b≠none->b<(h++[ER LL]).length:=λb hb=>by
   rw[ayg];show b<h.length+1;rcases ags b h.length with h1|h1|h1
   .omega
   .omega
   .rw[p1 b (by omega)] at hb;have:=kr b hb;omega
  have aYa:∀B i,Ds π2 (h++[ER LL]).length (Tn r.yP) B i->Ds π h.length (Tn (r.yP.take h.length)) B i:=by
   rintro B i ⟨b,s,q,e,hb,hD,hp,i1,i2⟩
   rw[ayg] at hb;have hb:b<h.length+1:=hb;rcases ni b h.length with h1|h1
   .rw[p1 b (by omega)] at hp;exact⟨b,s,q,e,h1,λhk=>hD (by rw[ab5,if_pos h1] at hk;exact hk),hp,i1,i2⟩
   .obtain rfl:b=h.length:=by omega
    rw[p2] at hp;cases hp;omega
  suffices key:∀e w',tY π2 w (h++[ER LL]) r e w'->tY π w h ⟨r.val,r.yP.take h.length,ER LL::r.news⟩ e w' by
   rcases S _ _ r hr w π2 vs aZL hH2 a14 with⟨S1,S2⟩| ⟨v,S1,S2⟩
   .exact .inl ⟨S1,Calls.mono S2 key⟩
   .exact .inr ⟨v,S1,key _ _ S2⟩
  rintro e w' ⟨π',v,rfl,hx',hv,hH',hF,hd,hi'⟩
  have p2':π' h.length=some (0,0,0,0):=hx' _ _ p2;obtain⟨x,hxx⟩:=RC h (ER LL) r.yP;have hlen:(after h (r.yP.take h.length)).length=h.length:=nj ..
  have eq1:∀b,b≠h.length->(r.heap (h++[ER LL]))[b]? =((⟨r.val,r.yP.take h.length,ER LL::r.news⟩:pD).heap h)[b]? :=λb hb=>by
   unfold pD.heap;rw[hxx];exact aX9 (by rw[hlen];exact hb)
  have eqz:∀b,b≠h.length->hZ ((⟨r.val,r.yP.take h.length,ER LL::r.news⟩:pD).heap h) b=hZ (r.heap (h++[ER LL])) b:=λb hb=>by
   unfold hZ;rw[eq1 b hb]
  have eqc:∀b j,b≠h.length->hC ((⟨r.val,r.yP.take h.length,ER LL::r.news⟩:pD).heap h) b j=hC (r.heap (h++[ER LL])) b j:=λb j hb=>by
   unfold hC;rw[eq1 b hb]
  have eqn:hZ ((⟨r.val,r.yP.take h.length,ER LL::r.news⟩:pD).heap h) h.length=some 0:=by
   unfold hZ pD.heap;show(((after h (r.yP.take h.length)++(ER LL::r.news).map some)[h.length]?).getD none).map aj.size=some 0;rw[aej (by omega),hlen];simp[aFA]
  refine⟨π',v,rfl,hx.trans hx',hv,⟨hH'.am,λb B s q e hz hb BK=> ?_,λb n hn=> ?_,λb b' B s q e s' q' e' mC hz uY hb fu i i1 i2 i3 i4=> ?_⟩,hF.mono λB i _ h=>aYa B i h,λb hb=> ?_,λb B s q e hb hp hB i i1 i2=> ?_⟩
  .by_cases h1:b=h.length
   .rw[h1,p2'] at hb;cases hb;omega
   .rw[eqz b h1] at hz;exact hH'.lb b B s q e hz hb BK
  .by_cases h1:b=h.length
   .subst h1;rw[eqn] at hn;cases hn;exact⟨0,0,0,p2',by omega,λi _ _=>by omega,λj hj=>by omega⟩
   .rw[eqz b h1] at hn;obtain⟨B,s,e,k1,k2,k3,k4⟩:=hH'.hp b n hn;exact⟨B,s,e,k1,k2,k3,λj hj=>by rw[eqc b j h1];exact k4 j hj⟩
  .have nz:∀b B s q e,b=h.length->π' b=some (B,s,q,e)->s=0/\e=0:=λb B s q e hb hp=>by
    rw[hb,p2'] at hp;cases hp;exact⟨rfl,rfl⟩
   by_cases h1:b=h.length
   .have:=nz b B s q e h1 hb;omega
   .by_cases h2:b'=h.length
    .have:=nz b' B s' q' e' h2 fu;omega
    .rw[eqz b h1] at hz;rw[eqz b' h2] at uY;exact hH'.dj b b' B s q e s' q' e' mC hz uY hb fu i i1 i2 i3 i4
  .have:=hd b hb;rw[ayg] at this;show b<h.length+(r.news.length+1);have:b<h.length+1+r.news.length:=this;omega
  .by_cases h1:b=h.length
   .rw[h1,p2'] at hp;cases hp;omega
   .exact aYa B i (hi' b B s q e (by rw[ayg];show h.length+1<=b;omega) hp hB i i1 i2)
 .exact S args h res tZ w π vs lF hH kr
end Go.Ab
noncomputable section
namespace Go.Ab
inductive Pg (δ:Type):Type 1 where
 |ret (d:δ)
 |no
 |ae (b:Bool) (x y:Pg δ)
 |opt {D:Type} (x:Option D) (f:D->Pg δ)
 |sum {A B:Type} (x:A⊕B) (f:A->Pg δ) (g:B->Pg δ)
namespace Pg
def run {δ ρ:Type}(p:Pg δ)(k:δ->Option ρ):Option ρ:=
 Pg.rec (motive:=λ_=>Option ρ) k none (λb _ _ x y=>cond b x y) (λx _ ih=>x.bind ih) (λx _ _ f g=>t9 f g x) p
def val {δ:Type}(p:Pg δ):Option δ:=p.run some
variable {δ ρ σ:Type}
theorem wM (d:δ)(k:δ->Option ρ):(ret d).run k=k d:=rfl
theorem Cf (k:δ->Option ρ):(no:Pg δ).run k=none:=rfl
theorem sV (b:Bool)(x y:Pg δ)(k:δ->Option ρ):(ae b x y).run k=bif b then x.run k else y.run k:=rfl
theorem sW {D:Type}(x:Option D)(f:D->Pg δ)(k:δ->Option ρ):(opt x f).run k=x.bind λd=>(f d).run k:=rfl
theorem sX {A B:Type}(x:A⊕B)(f:A->Pg δ)(g:B->Pg δ)(k:δ->Option ρ):(sum x f g).run k=t9 (λa=>(f a).run k) (λb=>(g b).run k) x:=rfl
theorem bQ (d:δ):(ret d).val=some d:=rfl
theorem fq:(no:Pg δ).val=none:=rfl
theorem bN (b:Bool)(x y:Pg δ):(ae b x y).val=bif b then x.val else y.val:=rfl
theorem cx {D:Type}(x:Option D)(f:D->Pg δ):(opt x f).val=x.bind λd=>(f d).val:=rfl
theorem ew {A B:Type}(x:A⊕B)(f:A->Pg δ)(g:B->Pg δ):(sum x f g).val=t9 (λa=>(f a).val) (λb=>(g b).val) x:=rfl
theorem aNB (p:Pg δ)(k:δ->Option ρ)(q:ρ->Option σ):(p.run k).bind q=p.run λd=>(k d).bind q:=by
 induction p with
 |ret d=>rfl
 |no=>rfl
 |ae b x y ih1 ih2=>rw[sV,sV,aTX,ih1,ih2]
 |opt x f ih=>
  rw[sW,sW];cases x with
  |none=>rfl
  |some d=>exact ih d
 |sum x f g ih1 ih2=>
  rw[sX,sX];cases x with
  |inl a=>exact ih1 a
  |inr b=>exact ih2 b
theorem avp (p:Pg δ)(k:δ->Option ρ):p.val.bind k=p.run k:=by
 unfold val;rw[aNB];rfl
def sm {A B:Type}(x:A⊕B)(f:A->Pg δ)(g:B->Pg δ):Pg δ:=ae x.isLeft (opt x.getLeft? f) (opt x.getRight? g)
theorem aDY {A B:Type}(x:A⊕B)(f:A->Pg δ)(g:B->Pg δ):(sm x f g).val=t9 (λa=>(f a).val) (λb=>(g b).val) x:=by cases x<;>rfl
end Pg
def bE {D X:Type}(s:D->Pg (D⊕X))(n:Nat)(d:D):Option X:=Tp (λd c x=>(s d).run (t9 c x)) n d some
theorem alK {D X ρ:Type}(s:D->Pg (D⊕X))(n:Nat)(d:D)(k:X->Option ρ):(bE s n d).bind k=Tp (λd c x=>(s d).run (t9 c x)) n d k:=by
 unfold bE;refine(aAs k (λd c x=> ?_) some n d).trans rfl;rw[Pg.aNB];congr 1
 funext y
 cases y<;>rfl
def aFB:List Bool->Prop
 | []=>True
 |b::l=>b=true/\aFB l
theorem ayG:∀{l m:List Bool},aFB (l++m)->aFB l/\aFB m
 | [],_,h=>⟨trivial,h⟩
 |_::_,_,h=>⟨⟨h.1,(ayG h.2).1⟩,(ayG h.2).2⟩
structure Rq (α β:Type) where
 rd:α->Option (List Bool×β)
 em:β->α
 ok:∀a l b,rd a=some (l,b)->aFB l->a=em b
abbrev Rq.B {α β:Type}(_:Rq α β):Type:=β
namespace Rq
variable {α β γ δ:Type}
def hole:Rq α α:=⟨λa=>some ([],a),id,λa l b h _=>by cases h;rfl⟩
def one (a:α)(g:α->Bool)(h:∀b,g b=true->b=a):Rq α Unit:=⟨λb=>cond (g b) (some ([],())) none,λ_=>a,λb _ _ hb _=>by
 cases hg:g b<;>rw[hg] at hb<;>first|(cases hb;done)|exact h b hg⟩
def tie (n:Nat):Rq Nat Unit:=⟨λm=>some ([z9 m n],()),λ_=>n,λa l b h hl=>by
 have h1:[z9 a n]=l:=(Prod.mk.inj (HX h)).1;subst h1;exact lE hl.1⟩
def nat (n:Nat):Rq Nat Unit:=one n (λm=>z9 m n) λ_ h=>lE h
def int (n:Int):Rq Int Unit:=one n (λm=>decide (m=n)) λ_ h=>dm h
def bool (n:Bool):Rq Bool Unit:=one n (λm=>m==n) λ_ h=>by simpa using h
def via {α':Type}(f:α->α')(g:α'->Option α)(h:∀a' a,g a'=some a->a'=f a)(x:Rq α β):Rq α' β:=⟨λa=>(g a).bind x.rd,λb=>f (x.em b),λa l b hb hl=>by
 cases ha:g a with
 |none=>rw[ha] at hb;cases hb
 |some c=>rw[ha] at hb;rw[h a c ha,<-x.ok c l b hb hl]⟩
def dp (x:Rq α β)(y:β->Rq γ δ):Rq (α×γ) (β×δ):=⟨λp=>(x.rd p.1).bind λb=>((y b.2).rd p.2).bind λd=>some (b.1++d.1,(b.2,d.2)),λq=>(x.em q.1,(y q.1).em q.2),λp l q h hl=>by
 cases h1:x.rd p.1 with
 |none=>rw[h1] at h;cases h
 |some b=>
  rw[h1] at h;cases h2:(y b.2).rd p.2 with
  |none=>simp only[bG,h2] at h;cases h
  |some d=>
   simp only[bG,h2,iI,rm] at h;obtain⟨rfl,rfl⟩:=h;obtain⟨t,b⟩:=b;obtain⟨s,d⟩:=d;obtain⟨h4,h5⟩:=ayG hl;exact Prod.ext (x.ok _ _ _ h1 h4) ((y b).ok _ _ _ h2 h5)⟩
def pr (x:Rq α β)(y:Rq γ δ):Rq (α×γ) (β×δ):=dp x λ_=>y
def mp {β':Type}(x:Rq α β)(p:β->β')(q:β'->β)(h:∀b,b=q (p b)):Rq α β':=⟨λa=>(x.rd a).bind λb=>some (b.1,p b.2),λc=>x.em (q c),λa l c hc hl=>by
 cases h1:x.rd a with
 |none=>rw[h1] at hc;cases hc
 |some b=>
  rw[h1] at hc;obtain⟨t,b⟩:=b;cases hc;rw[<-h b];exact x.ok _ _ _ h1 hl⟩
def pl (x:Rq α β)(y:Rq γ Unit):Rq (α×γ) β:=mp (pr x y) Prod.fst (λb=>(b,())) λ_=>rfl
def pu (x:Rq α Unit)(y:Rq γ δ):Rq (α×γ) δ:=mp (pr x y) Prod.snd (λb=>((),b)) λ_=>rfl
def nil:Rq (List α) Unit:=one [] (λl=>match l with| []=>true|_=>false) λb h=>by cases b<;>first|rfl|cases h
def co (x:Rq (α×List α) β):Rq (List α) β:=via (λp:α×List α=>p.1::p.2) (λl=>match l with|a::l=>some (a,l)|_=>none) (λa' a h=>by cases a'<;>cases h;rfl) x
def c (x:Rq α β)(y:Rq (List α) δ):Rq (List α) (β×δ):=co (pr x y)
def cl (x:Rq α β)(y:Rq (List α) Unit):Rq (List α) β:=co (pl x y)
def cu (x:Rq α Unit)(y:Rq (List α) δ):Rq (List α) δ:=co (pu x y)
def cd (x:Rq α β)(y:β->Rq (List α) δ):Rq (List α) (β×δ):=co (dp x y)
def ap (n:Nat)(x:Rq (List α×List α) β):Rq (List α) β:=via (λp:List α×List α=>p.1++p.2) (λl=>some (l.take n,l.drop n)) (λa' a h=>by cases h;simp) x
def a (n:Nat)(x:Rq (List α) β)(y:Rq (List α) δ):Rq (List α) (β×δ):=ap n (pr x y)
def al (n:Nat)(x:Rq (List α) β)(y:Rq (List α) Unit):Rq (List α) β:=ap n (pl x y)
def au (n:Nat)(x:Rq (List α) Unit)(y:Rq (List α) δ):Rq (List α) δ:=ap n (pu x y)
def no:Rq (Option α) Unit:=one none (λl=>match l with|none=>true|_=>false) λb h=>by cases b<;>first|rfl|cases h
def so (x:Rq α β):Rq (Option α) β:=via some (λa=>a) (λa' a h=>h) x
def szl (x:Rq Nat β):Rq Sz β:=via Sz.l (λz=>match z with|.l n=>some n|_=>none) (λa' a h=>by cases a'<;>cases h;rfl) x
def szs (x:Rq Nat β):Rq Sz β:=via Sz.s (λz=>match z with|.s n=>some n|_=>none) (λa' a h=>by cases a'<;>cases h;rfl) x
def ok' (x:Rq Nat β):Rq cE β:=via cE.k (λz=>match z with|.k n=>some n|_=>none) (λa' a h=>by cases a'<;>cases h;rfl) x
def ox (x:Rq (Nat×Nat×Nat) β):Rq cE β:=via (λp:Nat×Nat×Nat=>cE.x p.1 p.2.1 p.2.2) (λz=>match z with|.x a b c=>some (a,b,c)|_=>none) (λa' a h=>by cases a'<;>cases h;rfl) x
def fi (k:IntKind)(x:Rq Int β):Rq FV β:=via (FV.i k) (λz=>match z with|.i k' n=>cond (decide (k'=k)) (some n) none|_=>none) (λa' a h=>by
 cases a' with
 |i k' n=>
  cases hk:decide (k'=k)<;>simp only[hk] at h<;>first|(cases h;done)|(cases h;rw[dm hk])
 |_=>cases h) x
def fb (x:Rq Bool β):Rq FV β:=via FV.b (λz=>match z with|.b n=>some n|_=>none) (λa' a h=>by cases a'<;>cases h;rfl) x
def fs (x:Rq ByteArray β):Rq FV β:=via FV.s (λz=>match z with|.s n=>some n|_=>none) (λa' a h=>by cases a'<;>cases h;rfl) x
def cf (x:Rq FV β):Rq CV β:=via CV.f (λz=>match z with|.f n=>some n|_=>none) (λa' a h=>by cases a'<;>cases h;rfl) x
def N7 (x:Rq (Nat×cE×Nat) β):Rq CV β:=via (λp:Nat×cE×Nat=>CV.ptr p.1 p.2.1 p.2.2) (λz=>match z with|.ptr a b c=>some (a,b,c)|_=>none) (λa' a h=>by cases a'<;>cases h;rfl) x
def ccl (x:Rq (Nat×Nat×cE×Nat) β):Rq CV β:=via (λp:Nat×Nat×cE×Nat=>CV.cl p.1 p.2.1 p.2.2.1 p.2.2.2) (λz=>match z with|.cl e a b c=>some (e,a,b,c)|_=>none) (λa' a h=>by cases a'<;>cases h;rfl) x
def fJ (x:Rq (Nat×cE×Sz×Nat×Bool) β):Rq CV β:=via (λp:Nat×cE×Sz×Nat×Bool=>CV.sl p.1 p.2.1 p.2.2.1 p.2.2.2.1 p.2.2.2.2) (λz=>match z with|.sl a b c d e=>some (a,b,c,d,e)|_=>none) (λa' a h=>by cases a'<;>cases h;rfl) x
def cfs (x:Rq (Nat×Nat×List c7) β):Rq CV β:=via (λp:Nat×Nat×List c7=>CV.fs p.1 p.2.1 p.2.2) (λz=>match z with|.fs a b c=>some (a,b,c)|_=>none) (λa' a h=>by cases a'<;>cases h;rfl) x
def axZ:Rq CV Unit:=one .aiY (λl=>match l with|.aiY=>true|_=>false) λb h=>by cases b<;>first|rfl|cases h
def aV8:Rq CV Unit:=one .nils (λl=>match l with|.nils=>true|_=>false) λb h=>by cases b<;>first|rfl|cases h
def ki (k:IntKind)(x:Rq (Nat->Int) β):Rq c7 β:=via (c7.i k) (λz=>match z with|.i k' n=>cond (decide (k'=k)) (some n) none|_=>none) (λa' a h=>by
 cases a' with
 |i k' n=>
  cases hk:decide (k'=k)<;>simp only[hk] at h<;>first|(cases h;done)|(cases h;rw[dm hk])
 |_=>cases h) x
def kb (x:Rq (Nat->Bool) β):Rq c7 β:=via c7.b (λz=>match z with|.b n=>some n|_=>none) (λa' a h=>by cases a'<;>cases h;rfl) x
def ks (x:Rq (Nat->ByteArray) β):Rq c7 β:=via c7.s (λz=>match z with|.s n=>some n|_=>none) (λa' a h=>by cases a'<;>cases h;rfl) x
def gc (x:Rq CV β):Rq Sg β:=via Sg.c (λz=>match z with|.c n=>some n|_=>none) (λa' a h=>by cases a'<;>cases h;rfl) x
def ga (x:Rq (Sz×List c7) β):Rq Sg β:=via (λp:Sz×List c7=>Sg.a p.1 p.2) (λz=>match z with|.a n c=>some (n,c)|_=>none) (λa' a h=>by cases a'<;>cases h;rfl) x
def rc (x:Rq CV β):Rq RV β:=via RV.c (λz=>match z with|.c n=>some n|_=>none) (λa' a h=>by cases a'<;>cases h;rfl) x
def ra (x:Rq aj β):Rq RV β:=via RV.agg (λz=>match z with|.agg n=>some n|_=>none) (λa' a h=>by cases a'<;>cases h;rfl) x
def ar (x:Rq RV β):Rq AV β:=via AV.r (λz=>match z with|.r n=>some n|_=>none) (λa' a h=>by cases a'<;>cases h;rfl) x
def rZ (x:Rq (List RV) β):Rq AV β:=via AV.tup (λz=>match z with|.tup n=>some n|_=>none) (λa' a h=>by cases a'<;>cases h;rfl) x
def afn (x:Rq (Nat×List RV) β):Rq AV β:=via (λp:Nat×List RV=>AV.fn p.1 p.2) (λz=>match z with|.fn a b=>some (a,b)|_=>none) (λa' a h=>by cases a'<;>cases h;rfl) x
def a07:Rq AV Unit:=one .WG (λl=>match l with|.WG=>true|_=>false) λb h=>by cases b<;>first|rfl|cases h
def st (x:Rq (List AV×List (Option aj)×List Nat) β):Rq St β:=via (λp:List AV×List (Option aj)×List Nat=>St.mk p.1 p.2.1 p.2.2) (λz=>some (z.tmps,z.heap,z.du)) (λa' a h=>by cases a';cases h;rfl) x
def fV:Rq Ch Unit:=one .mB (λl=>match l with|.mB=>true|_=>false) λb h=>by cases b<;>first|rfl|cases h
def Wu:Rq Ch Unit:=one .kill (λl=>match l with|.kill=>true|_=>false) λb h=>by cases b<;>first|rfl|cases h
def B9 (x:Rq aj β):Rq Ch β:=via Ch.set (λz=>match z with|.set n=>some n|_=>none) (λa' a h=>by cases a'<;>cases h;rfl) x
def res (x:Rq (AV×List Ch×List aj) β):Rq pD β:=via (λp:AV×List Ch×List aj=>pD.mk p.1 p.2.1 p.2.2) (λz=>some (z.val,z.yP,z.news)) (λa' a h=>by cases a';cases h;rfl) x
def us:Nat->Rq (List AV) β->Rq (List AV) β
 |0,x=>x
 |n+1,x=>cu a07 (us n x)
def xs:Nat->Rq (List AV) β->Rq (List AV) β
 |0,x=>x
 |n+1,x=>cu (rZ nil) (xs n x)
def ci:Rq CV Int:=cf (fi .i64 hole)
def cn:Rq CV Int:=cf (fi .u64 hole)
def cb:Rq CV Bool:=cf (fb hole)
def ct:Rq CV ByteArray:=cf (fs hole)
def gi:Rq Sg Int:=gc ci
def gn:Rq Sg Int:=gc cn
def gb:Rq Sg Bool:=gc cb
def gt:Rq Sg ByteArray:=gc ct
def ac (x:Rq CV β):Rq AV β:=ar (rc x)
def ai:Rq AV Int:=ac ci
def an:Rq AV Int:=ac cn
def ab:Rq AV Bool:=ac cb
def aa (x:Rq aj β):Rq AV β:=ar (ra x)
def cp (b n:Nat):Rq CV Unit:=N7 (pu (nat b) (pu (ok' (nat 0)) (nat n)))
def gp (b n:Nat):Rq Sg Unit:=gc (cp b n)
def app (b n:Nat):Rq AV Unit:=ac (cp b n)
def slc (b z:Nat):Rq CV (Nat×Bool):=fJ (pu (nat b) (pu (ok' (nat 0)) (pr (szs hole) (pu (nat z) hole))))
def zV (b z:Nat):Rq CV Nat:=fJ (pu (nat b) (pu (ok' (nat 0)) (pl (szs hole) (pu (nat z) (bool true)))))
def gl (n:Nat)(x:Rq (List c7) β):Rq Sg β:=ga (pu (szl (nat n)) x)
def gs (n:Nat)(x:Rq (List c7) β):Rq Sg β:=ga (pu (szs (tie n)) x)
def gI:Rq c7 (Nat->Int):=ki .i64 hole
def kcb:Rq c7 (Nat->Bool):=kb hole
end Rq
abbrev Ct:=Nat×Fw
def T.ayH (l:List Bool)(t:T):T:=List.rec (motive:=λ_=>T) t (λb _ r=>.test b r .fail) l
def aYb {ρ:Type}(l:List Bool)(t:Option ρ):Option ρ:=List.rec (motive:=λ_=>Option ρ) t (λb _ r=>cond b r none) l
theorem alL {t:T}{r:pD}:∀{l:List Bool},(T.ayH l t).eval=some r->aFB l/\t.eval=some r
 | [],h=>⟨trivial,h⟩
 |b::l,h=>by
  obtain⟨h1,h2⟩:=aFz (b:=b) (a:=T.ayH l t) h;obtain⟨h3,h4⟩:=alL h2;exact⟨⟨h1,h3⟩,h4⟩
theorem aFC {ρ:Type}{t:Option ρ}{r:ρ}:∀{l:List Bool},aYb l t=some r->aFB l/\t=some r
 | [],h=>⟨trivial,h⟩
 |b::l,h=>by
  have h':cond b (aYb l t) none=some r:=h;cases b with
  |false=>cases h'
  |true=>
   obtain⟨h3,h4⟩:=aFC h';exact⟨⟨rfl,h3⟩,h4⟩
def FC {β δ:Type}(Q:Rq (List AV×List aj) β)(R:δ->T)(f:β->Option δ):Fw:=λa h=>match Q.rd (a,h) with
 |some b=>T.ayH b.1 (.opt (f b.2) R)
 |none=>.fail
def gx {D X:Type}(id kk:Nat)(Q:Rq St D)(E:∀{ρ:Type},X->(AX->St->Option ρ)->Option ρ)(l:D->Option X):Sm:=⟨id,kk,λs k=>match Q.rd s with
 |some b=>aYb b.1 ((l b.2).bind λx=>E x k)
 |none=>none⟩
def alh {β δ:Type}(P:Program)(l:List Ct)(hs:Hs)(lf n:Nat)(Q:Rq (List AV×List aj) β)(R:δ->T)(B:β->Pg δ):Prop:=
 ∀b,den P (Fx l) hs lf n (Q.em b).1 (Q.em b).2=(B b).run λd=>(R d).eval
def aSu {D X:Type}(P:Program)(l:List Ct)(hs:Hs)(kk lf n id:Nat)(Q:Rq St D)(E:∀{ρ:Type},X->(AX->St->Option ρ)->Option ρ)(S:D->Pg (D⊕X)):Prop:=
 ∀(ρ:Type) (d:D) (c:St->Option ρ) (K:AX->St->Option ρ),HF P (Fx l) hs (tmpsOf P n) kk lf (aak P n id) (Q.em d) (next (λt=>t.head kk hs (aak P n id)) c K)=
  (S d).run (t9 (λd=>c (Q.em d)) λx=>E x K)
def aSv {D X:Type}(P:Program)(l:List Ct)(hs:Hs)(kk lf n id:Nat)(Q:Rq St D)(E:∀{ρ:Type},X->(AX->St->Option ρ)->Option ρ)(S:D->Pg X):Prop:=
 ∀(ρ:Type) (d:D) (K:AX->St->Option ρ),HF P (Fx l) hs (tmpsOf P n) kk lf (agq P n id) (Q.em d) K=(S d).run λx=>E x K
section
variable [ay]
def Snd (P:Program)(e:Ct):Prop:=Sound P e.1 e.2
theorem Snd.of {P:Program}{e:Ct}{n:Nat}{F:Fw}(S:Sound P n F)(h:e=(n,F)):Snd P e:=by
 subst h;exact S
theorem Kd.c {P:Program}{l:List Ct}{e:Ct}(S:Snd P e)(h:Kd P l):Kd P (e::l):=Kd.cons S h
omit [ay] in
theorem aNC {D X:Type}{id kk:Nat}{Q:Rq St D}{E:∀{ρ:Type},X->(AX->St->Option ρ)->Option ρ}{l:D->Option X}{ρ:Type}{s:St}{K:AX->St->Option ρ}{r:ρ}
  (h:(gx id kk Q E l).run s K=some r):∃d,s=Q.em d/\((l d).bind λx=>E x K)=some r:=by
 simp only[gx] at h;split at h
 .rename_i b hb
  obtain⟨t,d⟩:=b;obtain⟨h1,h2⟩:=aFC h;exact⟨d,Q.ok s t d hb h1,h2⟩
 .cases h
theorem mkL {D X:Type}{P:Program}{l:List Ct}{hs:Hs}{kk lf n id:Nat}{Q:Rq St D}{E:∀{ρ:Type},X->(AX->St->Option ρ)->Option ρ}{S:D->Pg (D⊕X)}
  (h0:aqz hs (aak P n id)=some (gx id kk Q E (bE S lf)))(h:aSu P l hs kk lf n id Q E S):∀k',OC P (Fx l) hs (tmpsOf P n) k' lf (aak P n id):=
 OC.of (id:=id) (k0:=kk) (run:=(gx id kk Q E (bE S lf)).run) h0 λs K r hr=>by
  obtain⟨d,rfl,Z3⟩:=aNC hr;refine⟨lf,?_⟩;rw[alK] at Z3;exact(aAt (emb:=Q.em) (step:=λd c x=>(S d).run (t9 c x)) (kx:=λx=>E x K) (λd c=>h _ d c K) lf d).trans Z3
theorem mkJ {D X:Type}{P:Program}{l:List Ct}{hs:Hs}{kk lf n id:Nat}{hd:Hd}{Q:Rq St D}{E:∀{ρ:Type},X->(AX->St->Option ρ)->Option ρ}{S:D->Pg X}
  (h0:az5 hs (agq P n id)=some ⟨hd,gx id kk Q E λd=>(S d).val⟩)(h:aSv P l hs kk lf n id Q E S):∀k',auZ P (Fx l) hs (tmpsOf P n) k' lf (agq P n id):=
 auZ.of (id:=id) (k0:=kk) (hd:=hd) (run:=(gx id kk Q E λd=>(S d).val).run) h0 λs K r hr=>by
  obtain⟨d,rfl,Z3⟩:=aNC hr;rw[Pg.avp] at Z3;exact(h _ d K).trans Z3
omit [ay] in
theorem aYc {β δ:Type}{Q:Rq (List AV×List aj) β}{R:δ->T}{B:β->Pg δ}{a:List AV}{h:List aj}{r:pD}(hr:(FC Q R (λb=>(B b).val) a h).eval=some r):
  ∃b,(a,h)=Q.em b/\((B b).run λd=>(R d).eval)=some r:=by
 unfold FC at hr;split at hr
 .rename_i b hb
  obtain⟨t,b⟩:=b;obtain⟨h1,Z3⟩:=alL hr;rw[atz,Pg.avp] at Z3;exact⟨b,Q.ok _ _ _ hb h1,Z3⟩
 .cases hr
theorem mkS {β δ:Type}{P:Program}{l:List Ct}{hs:Hs}{lf n:Nat}{Q:Rq (List AV×List aj) β}{R:δ->T}{B:β->Pg δ}(hm:P.follows .mixedOrders=true)(hl:Kd P l)(hc:GQ P n=true)
  (aNu:∀fn c kk,P.funcs[n]? =some fn->fn.body=some c->LR P (Fx l) hs fn.ntmps kk lf c)(h:alh P l hs lf n Q R B):Sound P n (FC Q R λb=>(B b).val):=
 (aTQ hl hm aNu hc).by λa b r hr=>by
  obtain⟨b,e,Z3⟩:=aYc hr;obtain⟨rfl,rfl⟩:=Prod.mk.inj e;exact aTR ((h b).trans Z3)
theorem mk0 {β δ:Type}{P:Program}{l:List Ct}{d0:List Nat}{lf n:Nat}{Q:Rq (List AV×List aj) β}{R:δ->T}{B:β->Pg δ}(hm:P.follows .mixedOrders=true)(hl:Kd P l)(hc:GQ P n=true)
  (h:alh P l ⟨[],[],d0,[],none⟩ lf n Q R B):Sound P n (FC Q R λb=>(B b).val):=
 mkS hm hl hc (λ_ _ _ _ _=>LR.nil ..) h
omit [ay] in
theorem aND {t t':T}{r:pD}(h:t.eval=some r->t'.eval=some r)(l:List Bool):(T.ayH l t).eval=some r->(T.ayH l t').eval=some r:=by
 induction l with
 |nil=>exact h
 |cons b l ih=>
  intro k;obtain⟨h1,h2⟩:=aFz (b:=b) (a:=T.ayH l t) k;subst h1;exact ih h2
theorem FD {β δ:Type}{P:Program}{n:Nat}{Q:Rq (List AV×List aj) β}{R R':δ->T}{f:β->Option δ}(h:∀d r,(R' d).eval=some r->(R d).eval=some r)(S:Sound P n (FC Q R f)):Sound P n (FC Q R' f):=S.by λa b r hr=>by
 unfold FC at hr ⊢;split at hr
 .rename_i x hx
  refine aND (λhr=> ?_) x.1 hr;rw[atz] at hr ⊢;cases hf:f x.2 with
  |none=>rw[hf] at hr;cases hr
  |some d=>rw[hf,bG] at hr;exact h d r hr
 .cases hr
end
abbrev wI (n:Int):Int:=IntKind.wrap .i64 n
abbrev wU (n:Int):Int:=IntKind.wrap .u64 n
end Go.Ab
namespace Go.Ab
theorem aTY {a:Bool}{pt:List PT}{ps:List Prm}{ds:List Dat}(h:aFw (.flat a pt::ps) ds):∃l ds',ds=.flat l::ds'/\bu aAo pt l/\aFw ps ds':=by
 match ds,h with
 |.flat l::ds',h=>exact⟨l,ds',rfl,h.1,h.2⟩
theorem aZM {ks:List K}{ps:List Prm}{ds:List Dat}(h:aFw (.sl ks::ps) ds):∃n cols ds',ds=.sl n cols::ds'/\n<=maxLen/\bu (λk c=>K.nK k n c) ks cols/\aFw ps ds':=by
 match ds,h with
 |.sl n cols::ds',h=>exact⟨n,cols,ds',rfl,h.1.1,h.1.2,h.2⟩
theorem aYd {ds:List Dat}(h:aFw [] ds):ds=[]:=by cases ds<;>first|rfl|cases h
theorem aZN {l:List DC}(h:bu aAo [] l):l=[]:=by cases l<;>first|rfl|cases h
theorem ES {k:IntKind}{pt:List PT}{l:List DC}(h:bu aAo (.c (.i k)::pt) l):∃x l',l=.c (.i k x)::l'/\(k.min<=x/\x<=k.max)/\bu aAo pt l':=by
 match l,h with
 |.c (.i k' x)::l',h=>
  obtain⟨⟨rfl,h1⟩,h2⟩:=h;exact⟨x,l',rfl,h1,h2⟩
theorem a08 {n:Nat}{ks:List K}{pt:List PT}{l:List DC}(h:bu aAo (.a n ks::pt) l):∃cols l',l=.a cols::l'/\bu (λk c=>K.nK k n c) ks cols/\bu aAo pt l':=by
 match l,h with
 |.a cols::l',h=>exact⟨cols,l',rfl,h.1,h.2⟩
theorem aFD {n:Nat}{l:List c7}(h:bu (λk c=>K.nK k n c) [] l):l=[]:=by cases l<;>first|rfl|cases h
theorem yd {n:Nat}{k:IntKind}{ks:List K}{l:List c7}(h:bu (λk c=>K.nK k n c) (.i k::ks) l):∃g l',l=.i k g::l'/\(∀j,j<n->k.min<=g j/\g j<=k.max)/\bu (λk c=>K.nK k n c) ks l':=by
 match l,h with
 |.i k' g::l',h=>
  obtain⟨⟨rfl,h1⟩,h2⟩:=h;exact⟨g,l',rfl,h1,h2⟩
theorem aaE {D X ρ:Type}(s:D->(D->Option ρ)->(X->Option ρ)->Option ρ)(n:Nat)(d:D)(k:X->Option ρ):Tp s (n+1) d k=s d (λd=>Tp s n d k) k:=rfl
theorem aFE {D X ρ:Type}{s:D->(D->Option ρ)->(X->Option ρ)->Option ρ}{k:X->Option ρ}{r:Option ρ}(Inv:Nat->D->Prop)
  (h:∀t d c,Inv t d->(∀t' d',t'<t->Inv t' d'->c d'=r)->s d c k=r):∀(fuel t:Nat) (d:D),t<fuel->Inv t d->Tp s fuel d k=r
 |0,t,d,hf,hd=>by omega
 |fuel+1,t,d,hf,hd=>by
  rw[aaE];exact h t d _ hd λt' d' ht hd'=>aFE Inv h fuel t' d' (by omega) hd'
theorem wrap_i64 {n:Int}(h1: -9223372036854775808<=n)(h2:n<=9223372036854775807):IntKind.wrap .i64 n=n:=by
 unfold IntKind.wrap;simp only[IntKind.signed,IntKind.bits,nY,jW,show(2:Int)^64=18446744073709551616 from rfl,show(2:Int)^(64-1)=9223372036854775808 from rfl];split<;>omega
theorem wrap_u64 (n:Int):IntKind.wrap .u64 n=n%18446744073709551616:=by
 unfold IntKind.wrap;simp only[IntKind.signed,IntKind.bits,Bool.false_and,show(2:Int)^64=18446744073709551616 from rfl,ya,gA]
theorem Km {D X ρ:Type}{s:D->Pg (D⊕X)}{k:X->Option ρ}{r:Option ρ}(Inv:Nat->D->Prop)
  (h:∀t d c,Inv t d->(∀t' d',t'<t->Inv t' d'->c d'=r)->(s d).run (t9 c k)=r)(fuel t:Nat)(d:D)(hf:t<fuel)(hd:Inv t d):(bE s fuel d).bind k=r:=by
 rw[alK];exact aFE Inv h fuel t d hf hd
theorem aaF {D X:Type}{s:D->Pg (D⊕X)}(Inv:Nat->D->Prop)(Q:X->Prop)
  (h:∀t d,Inv t d->∃y,(s d).val=some y/\match y with|.inl d'=>∃t',t'<t/\Inv t' d'|.inr x=>Q x):∀(fuel t:Nat) (d:D),t<fuel->Inv t d->∃x,bE s fuel d=some x/\Q x
 |0,t,d,hf,hd=>by omega
 |fuel+1,t,d,hf,hd=>by
  obtain⟨y,hy,hq⟩:=h t d hd;have e:bE s (fuel+1) d=(s d).run (t9 (λd=>bE s fuel d) some):=rfl;rw[e,<-Pg.avp,hy,bG];cases y with
  |inl d'=>obtain⟨t',ht,hd'⟩:=hq;exact aaF Inv Q h fuel t' d' (by omega) hd'
  |inr x=>exact⟨x,rfl,hq⟩
class bz {D:Type} (x:Option D):Prop where
 ok:∃d,x=some d
def Ok {D:Type}(x:Option D)(Q:D->Prop):Prop:=∃d,x=some d/\Q d
def PQ {δ:Type}(p:Pg δ)(Q:δ->Prop):Prop:=Ok p.val Q
section
variable {δ D A B:Type} {Q:δ->Prop}
theorem Ok.tot {x:Option D}{Q:D->Prop}(h:Ok x Q):bz x:=⟨h.imp λ_ h=>h.1⟩
theorem Ok.post {x:Option D}{Q:D->Prop}(h:Ok x Q){d:D}(e:x=some d):Q d:=by
 obtain⟨d',e',h⟩:=h;rw[e] at e';cases e';exact h
theorem Ok.mono {x:Option D}{Q R:D->Prop}(h:Ok x Q)(k:∀d,Q d->R d):Ok x R:=h.imp λ_ h=>⟨h.1,k _ h.2⟩
theorem bz.Ok {x:Option D}(h:bz x){Q:D->Prop}(k:∀d,x=some d->Q d):Ok x Q:=by
 obtain⟨d,e⟩:=h.ok;exact⟨d,e,k d e⟩
theorem aYe (d:D)(Q:D->Prop):Ok (some d) Q=Q d:=propext (Iff.intro (λh=>Ok.post h rfl) λh=>⟨d,rfl,h⟩)
theorem aw (d:δ):PQ (.ret d) Q=Q d:=aYe d Q
theorem aQ9:PQ (.no:Pg δ) Q=False:=propext (Iff.intro (λh=>by obtain⟨_,h,_⟩:=h;cases h) λh=>False.elim h)
theorem aN (b:Bool)(x y:Pg δ):PQ (.ae b x y) Q=((b=true->PQ x Q)/\(b=false->PQ y Q)):=by
 unfold PQ;rw[Pg.bN];cases b<;>simp
theorem bL (b:Bool)(x:Pg δ):PQ (.ae b x .no) Q=(b=true/\PQ x Q):=by
 rw[aN,aQ9];cases b<;>simp
theorem aE (x y:Pg δ):PQ (.ae true x y) Q=PQ x Q:=by unfold PQ;rw[Pg.bN];rfl
theorem bH (x:Option D)(f:D->Pg δ)[h:bz x]:PQ (.opt x f) Q=∀d,x=some d->PQ (f d) Q:=by
 obtain⟨d,rfl⟩:=h.ok;unfold PQ;rw[Pg.cx,bG];exact propext (Iff.intro (λh d' e=>by cases e;exact h) λh=>h d rfl)
theorem bV (d:D)(f:D->Pg δ):PQ (.opt (some d) f) Q=PQ (f d) Q:=rfl
theorem aA {x:Option D}{f:D->Pg δ}{R:D->Prop}(h:Ok x R)(k:∀d,x=some d->R d->PQ (f d) Q):PQ (.opt x f) Q:=by
 obtain⟨d,rfl,hr⟩:=h;exact k d rfl hr
theorem qQ (x:A⊕B)(f:A->Pg δ)(g:B->Pg δ):PQ (.sum x f g) Q=((∀a,x=.inl a->PQ (f a) Q)/\∀b,x=.inr b->PQ (g b) Q):=by
 unfold PQ;rw[Pg.ew];cases x<;>simp
theorem uD (x:A⊕B)(f:A->Pg δ)(g:B->Pg δ):PQ (.sm x f g) Q=((∀a,x=.inl a->PQ (f a) Q)/\∀b,x=.inr b->PQ (g b) Q):=by
 unfold PQ;rw[Pg.aDY];cases x<;>simp
theorem aH {p:Pg δ}(h:PQ p λ_=>True):bz p.val:=Ok.tot h
theorem wN {D X:Type}{s:D->Pg (D⊕X)}(I:D->Prop)(m:D->Nat)(R:X->Prop)
  (h:∀d,I d->PQ (s d) (t9 (λd'=>I d'/\m d'<m d) R)):∀(n:Nat) (d:D),I d->m d<n->Ok (bE s n d) R:=λn d hd hn=>by
 refine aaF (λt d=>I d/\m d=t) R (λt d hd=> ?_) n (m d) d hn ⟨hd,rfl⟩;obtain⟨y,hy,hq⟩:=h d hd.1;refine⟨y,hy,?_⟩;cases y with
 |inl d'=>exact⟨m d',hd.2▸hq.2,hq.1,rfl⟩
 |inr x=>exact hq
end
theorem aW {n:Int}(h:0<=n:=by omega)(k:n<=4611686018427387904:=by omega):wI (n+1)=n+1:=wrap_i64 (by omega) (by omega)
theorem dV {n:Int}(h: -4611686018427387904<=n:=by omega)(k:n<=4611686018427387904:=by omega):wI n=n:=wrap_i64 (by omega) (by omega)
theorem bq {n:Int}{m:Nat}:bf n m=true↔0<=n/\n<m:=by simp[bf]
theorem aeu {n:Int}{m:Nat}:HE n m=true↔0<=n/\n<=m:=by simp[HE]
theorem bZ {m n:Nat}:wr m n=true↔m<=n:=by rw[Nat.ble_eq]
theorem nf {b:Bool}:(b=false->False)↔b=true:=by cases b<;>simp
theorem hdN (n:Nat)(h:n<=1999):(0:Int)<=0/\(0:Int)<=ws n/\ws n<=1999/\ws n=(n:Int):=by
 simp only[dz,Cd];omega
theorem aQ (m:Nat):z9 m m=true:=Fz m
theorem bP:(∀{δ:Type} {Q:δ->Prop} (d:δ),PQ (.ret d) Q=Q d)/\(∀{δ:Type} {Q:δ->Prop} (b:Bool) (x:Pg δ),PQ (.ae b x .no) Q=(b=true/\PQ x Q))/\(∀{δ:Type} {Q:δ->Prop} (b:Bool) (x y:Pg δ),PQ (.ae b x y) Q=((b=true->PQ x Q)/\(b=false->PQ y Q)))
  /\(∀{δ D:Type} {Q:δ->Prop} (x:Option D) (f:D->Pg δ) [h:bz x],PQ (.opt x f) Q=∀d,x=some d->PQ (f d) Q)/\(∀{δ A B:Type} {Q:δ->Prop} (x:A⊕B) (f:A->Pg δ) (g:B->Pg δ),PQ (.sum x f g) Q=((∀a,x=.inl a->PQ (f a) Q)/\∀b,x=.inr b->PQ (g b) Q))
  /\(∀{δ A B:Type} {Q:δ->Prop} (x:A⊕B) (f:A->Pg δ) (g:B->Pg δ),PQ (.sm x f g) Q=((∀a,x=.inl a->PQ (f a) Q)/\∀b,x=.inr b->PQ (g b) Q))/\(∀{δ:Type} {Q:δ->Prop},PQ (.no:Pg δ) Q=False)
  /\(∀{A B C:Type} (f:A->C) (g:B->C) (x:A),t9 f g (.inl x)=f x)/\(∀{A B C:Type} (f:A->C) (g:B->C) (x:B),t9 f g (.inr x)=g x)
  /\(∀p:Prop,(p->True)=True)/\(∀α:Type,(α->True)=True)/\(∀p:Prop,(p/\True)=p)/\(∀p:Prop,(True/\p)=p)/\∀p:Prop,(p/\p)=p:=
 ⟨λd=>aw d,λb x=>bL b x,λb x y=>aN b x y,λx f _=>bH x f,λx f g=>qQ x f g,λx f g=>uD x f g,aQ9,λ_ _ _=>rfl,λ_ _ _=>rfl,λp=>OJ p,λα=>OJ α,Cd,AF,and_self⟩
theorem qV:(∀m,z9 m m=true)/\(∀p:Prop,(True->p)=p)/\((true=false)=False)/\(∀p:Prop,(False->p)=True)/\∀{δ D:Type} {Q:δ->Prop} (d:D) (f:D->Pg δ),PQ (.opt (some d) f) Q=PQ (f d) Q:=
 ⟨aQ,OH,LS,Eo,λd f=>bV d f⟩
theorem uZ:(∀{n:Int} {m:Nat},bf n m=true↔0<=n/\n<m)/\(∀{n:Int} {m:Nat},HE n m=true↔0<=n/\n<=m)/\(∀{m n:Nat},wr m n=true↔m<=n)/\(∀m,z9 m m=true)/\(∀a b:Bool,((a&&b)=true)=(a=true/\b=true))/\(∀{p:Prop} [Decidable p],(decide p=true)=p)
  /\(∀{p:Prop} [Decidable p],decide p=false↔¬p)/\(∀{a b:Int},(a==b)=true↔a=b)/\(∀b:Bool,(true&&b)=b)/\∀n:Nat,ws n=(n:Int):=
 ⟨bq,aeu,bZ,aQ,λa b=>cB a b,λ{_} _=>jW,λ{_} _=>OD,beq_iff_eq,nY,dz⟩
theorem bO {D X:Type}{s:D->Pg (D⊕X)}{I:D->Prop}{R:X->Prop}(m:D->Nat)(h:∀d,I d->PQ (s d) (t9 (λd'=>I d'/\m d'<m d) R))(k:∀d,I d->m d<2000):∀d:D,I d->Ok (bE s 2000 d) R:=λd hd=>wN I m R h 2000 d hd (k d hd)
end Go.Ab
namespace Go.Ab
def Po {D:Type}(x:Option D)(Q:D->Prop):Prop:=∀d,x=some d->Q d
def PW {δ:Type}(p:Pg δ)(Q:δ->Prop):Prop:=Po p.val Q
section
variable {δ D A B:Type} {Q:δ->Prop}
theorem Po.mono {x:Option D}{Q R:D->Prop}(h:Po x Q)(k:∀d,Q d->R d):Po x R:=λd e=>k d (h d e)
theorem Po.and {x:Option D}{Q R:D->Prop}(h:Po x Q)(k:Po x R):Po x (λd=>Q d/\R d):=λd e=>⟨h d e,k d e⟩
theorem Po.true {x:Option D}:Po x (λ_=>True):=λ_ _=>trivial
theorem Ok.with {x:Option D}{Q R:D->Prop}(h:Ok x Q)(k:Po x R):Ok x (λd=>Q d/\R d):=by
 obtain⟨d,e,q⟩:=h;exact⟨d,e,q,k d e⟩
theorem Ok.po {x:Option D}{Q:D->Prop}(h:Ok x Q):Po x Q:=λd e=>h.post e
theorem aYf (d:D)(Q:D->Prop):Po (some d) Q=Q d:=propext (Iff.intro (λh=>h d rfl) λh d' e=>by cases e;exact h)
theorem aL (d:δ):PW (.ret d) Q=Q d:=aYf d Q
theorem cw:PW (.no:Pg δ) Q=True:=propext (Iff.intro (λ_=>trivial) λ_ d h=>by cases h)
theorem aT (b:Bool)(x y:Pg δ):PW (.ae b x y) Q=((b=true->PW x Q)/\(b=false->PW y Q)):=by
 unfold PW;rw[Pg.bN];cases b<;>simp
theorem gU (b:Bool)(x:Pg δ):PW (.ae b x .no) Q=(b=true->PW x Q):=by
 rw[aT,cw];cases b<;>simp
theorem bg (x:Option D)(f:D->Pg δ):PW (.opt x f) Q=∀d,x=some d->PW (f d) Q:=by
 unfold PW;rw[Pg.cx];cases x with
 |none=>exact propext (Iff.intro (λ_ d e=>by cases e) λ_ d e=>by cases e)
 |some d=>exact propext (Iff.intro (λh d' e=>by cases e;exact h) λh=>h d rfl)
theorem aC {x:Option D}{f:D->Pg δ}{R:D->Prop}(h:Po x R)(k:∀d,x=some d->R d->PW (f d) Q):PW (.opt x f) Q:=by
 rw[bg];exact λd e=>k d e (h d e)
theorem gB (x:A⊕B)(f:A->Pg δ)(g:B->Pg δ):PW (.sum x f g) Q=((∀a,x=.inl a->PW (f a) Q)/\∀b,x=.inr b->PW (g b) Q):=by
 unfold PW;rw[Pg.ew];cases x<;>simp
theorem jY (x:A⊕B)(f:A->Pg δ)(g:B->Pg δ):PW (.sm x f g) Q=((∀a,x=.inl a->PW (f a) Q)/\∀b,x=.inr b->PW (g b) Q):=by
 unfold PW;rw[Pg.aDY];cases x<;>simp
theorem u3 {D X:Type}{s:D->Pg (D⊕X)}(I:D->Prop)(R:X->Prop)(h:∀d,I d->PW (s d) (t9 I R)):∀(n:Nat) (d:D),I d->Po (bE s n d) R
 |0,d,hd,x,e=>by cases e
 |n+1,d,hd,x,e=>by
  have e1:bE s (n+1) d=(s d).run (t9 (λd=>bE s n d) some):=rfl;rw[e1,<-Pg.avp] at e;cases hv:(s d).val with
  |none=>rw[hv] at e;cases e
  |some y=>
   rw[hv,bG] at e;have q:=h d hd y hv;cases y with
   |inl d'=>exact u3 I R h n d' q x e
   |inr x'=>cases e;exact q
end
theorem lN {D X:Type}{s:D->Pg (D⊕X)}{I:D->Prop}{R:X->Prop}(h:∀d,I d->PW (s d) (t9 I R)):∀d:D,I d->Po (bE s 2000 d) R:=λd hd=>u3 I R h 2000 d hd
end Go.Ab
namespace Go.Proofs.YtldgljclcgaibaaGreat
open Go.Ab
theorem aYg [ay]:Sound Tryz.prog 240 (aes Dt):=aJo (aK0 (fn:=Tryz.f240) Tryz.func240 (by kernel_rfl) (by kernel_rfl) (by kernel_rfl) (by kernel_rfl))
theorem aYh [ay]:Sound Tryz.prog 262 (aes aet):=aJo (aK1 (fn:=Tryz.f262) Tryz.func262 (by kernel_rfl) (by kernel_rfl) (by kernel_rfl) (by kernel_rfl))
abbrev avq:=C3
def alM (g:C3):Ct:=(240,aes g)
theorem apq [ay]:Snd Tryz.prog (alM Dt):=aYg
abbrev aYi:=C3
def aNE (g:C3):Ct:=(262,aes g)
theorem aTZ [ay]:Snd Tryz.prog (aNE aet):=aYh
end Go.Proofs.YtldgljclcgaibaaGreat
namespace Go.Ab
abbrev NI:=Nat->Int
theorem _root_.And.b {a b c:Prop}(x:a/\b/\c):c:=x.2.2
theorem _root_.And.c {a b c d e:Prop}(x:a/\b/\c/\d/\e):e:=x.2.2.2.2
theorem _root_.And.d {a b c d e f g h i:Prop}(x:a/\b/\c/\d/\e/\f/\g/\h/\i):i:=x.2.2.2.2.2.2.2.2
@[reducible] def _root_.Prod.b {a b c:Type} (x:a×b×c):c:=x.2.2
@[reducible] def _root_.Prod.c {a b c d e:Type} (x:a×b×c×d×e):e:=x.2.2.2.2
@[reducible] def _root_.Prod.d {a b c d e f g h i:Type} (x:a×b×c×d×e×f×g×h×i):i:=x.2.2.2.2.2.2.2.2
@[reducible] def _root_.Prod.e {a b c d e f g h i j k l m n o p q:Type} (x:a×b×c×d×e×f×g×h×i×j×k×l×m×n×o×p×q):q:=x.2.2.2.2.2.2.2.2.2.2.2.2.2.2.2.2
def cr {α:Type}(d:α)(l:List α):Nat->α:=List.rec (motive:=λ_=>Nat->α) (λ_=>d) (λx l ih j=>bif z9 j l.length then x else ih j) l
@[reducible] def c24 (g:Nat->Nat->Int):=(g 0,g 1,g 2,g 3,g 4,g 5,g 6,g 7,g 8,g 9,g 10,g 11,g 12,g 13,g 14,g 15,g 16,g 17,g 18,g 19,g 20,g 21,g 22,g 23)
@[reducible] def azX {r:Type} (g:Nat->Nat->Int) (x:r):=(g 0,g 1,g 2,g 3,g 4,g 5,g 6,g 7,g 8,g 9,g 10,g 11,g 12,g 13,g 14,g 15,g 16,g 17,g 18,g 19,g 20,g 21,g 22,g 23,x)
def rg:Nat->Nat->List Nat->List Nat
 |_,0,t=>t
 |a,n+1,t=>a::rg (a+1) n t
def sh8 (o:Nat)(x:(Nat->Int)×(Nat->Int)×(Nat->Int)×(Nat->Int)×(Nat->Int)×(Nat->Int)×(Nat->Int)×(Nat->Int)):(Nat->Int)×(Nat->Int)×(Nat->Int)×(Nat->Int)×(Nat->Int)×(Nat->Int)×(Nat->Int)×(Nat->Int):=(λj=>x.1 (o+j),λj=>x.2.1 (o+j),λj=>x.2.2.1 (o+j),λj=>x.2.2.2.1 (o+j),λj=>x.2.2.2.2.1 (o+j),λj=>x.2.2.2.2.2.1 (o+j),λj=>x.2.2.2.2.2.2.1 (o+j),λj=>x.2.2.2.2.2.2.2 (o+j))
def sf (o:Nat)(x:(Nat->Int)×(Nat->Int)×(Nat->Int)×(Nat->Int)×(Nat->Int)×(Nat->Int)×(Nat->Int)×(Nat->Int)×(Nat->Int)):(Nat->Int)×(Nat->Int)×(Nat->Int)×(Nat->Int)×(Nat->Int)×(Nat->Int)×(Nat->Int)×(Nat->Int)×(Nat->Int):=(λj=>x.1 (o+j),λj=>x.2.1 (o+j),λj=>x.2.2.1 (o+j),λj=>x.2.2.2.1 (o+j),λj=>x.2.2.2.2.1 (o+j),λj=>x.2.2.2.2.2.1 (o+j),λj=>x.2.2.2.2.2.2.1 (o+j),λj=>x.2.2.2.2.2.2.2.1 (o+j),λj=>x.2.2.2.2.2.2.2.2 (o+j))
def aqr (o:Nat)(x:(Nat->Int)×(Nat->Int)×(Nat->Int)×(Nat->Int)×(Nat->Int)×(Nat->Int)×(Nat->Int)×(Nat->Int)×(Nat->Int)×(Nat->Int)):(Nat->Int)×(Nat->Int)×(Nat->Int)×(Nat->Int)×(Nat->Int)×(Nat->Int)×(Nat->Int)×(Nat->Int)×(Nat->Int)×(Nat->Int):=(λj=>x.1 (o+j),λj=>x.2.1 (o+j),λj=>x.2.2.1 (o+j),λj=>x.2.2.2.1 (o+j),λj=>x.2.2.2.2.1 (o+j),λj=>x.2.2.2.2.2.1 (o+j),λj=>x.2.2.2.2.2.2.1 (o+j),λj=>x.2.2.2.2.2.2.2.1 (o+j),λj=>x.2.2.2.2.2.2.2.2.1 (o+j),λj=>x.2.2.2.2.2.2.2.2.2 (o+j))
abbrev cD:=(Int×Int×Int×Int×Int)×Int×Nat×Int
abbrev J7:=Int×Int×Int×Int×(Int×Int×Int×Int×Int×Int)×(Int×Int×Int×Int×Int×Int)×NI×NI×Int×Int×Int×Int×Int×Int×Int×Int
abbrev fw:=NI×NI×NI×NI×NI×NI×NI×NI×NI
abbrev si:=Nat×NI×NI×NI×NI×NI×NI×NI×NI×NI
abbrev HS:=(Int×Int×Int×Int)×(Int×Int×Int)×Int×Int×Int
abbrev HT:=Nat×NI×NI×NI×NI×NI×NI×NI×NI×NI×NI
abbrev S9:=Int×(Int×Int×(Int×Int×Int)×Int×Int×Int)×Bool
abbrev Rt:=(NI×NI×(Nat->Bool)×NI×NI×NI)×Int
abbrev Ws:=Nat×NI×NI×NI×NI×NI×NI×NI×NI
abbrev nJ:=Int×Int×Int
abbrev uW:=Int×Int×Bool×Bool
abbrev aIL:=Nat×NI×NI×NI×NI×NI×NI×NI×NI×NI×NI×NI×NI×NI×NI×NI×NI×NI×NI×NI×NI
abbrev xT:=Int×Int×Nat
abbrev aD5:=Int×Int×Int×Int×Int×Int×Int×Int
abbrev aMu:=Nat×NI×NI×NI×NI×NI×NI×NI×NI×NI×NI×NI
abbrev aVp:=Int×Int×Int×Int×Int×Int×Int×Int×Int×Int×Int×Int×Int×Int×Int×Int×Int×Int×Int
abbrev a0M:=(Int×Int×Int×Int×Int×Int×Int×Int×Int×Int×Bool×Int×Int×Int×Int×Bool×Bool)⊕(Int×Int×Int×Int×Int×Int×Int×Int×Int×Bool×Int×Int×Int×Bool)
abbrev a0N:=Int×Int×Int×Int×Int×Int×Int×Int×Int×Int×Int×Int×Int×Int×Int×Int×NI×NI×Int×Int×Int×Int×Int×Int×Int×Int
abbrev aMv:=NI×NI×(Nat->Bool)×NI×NI×NI
abbrev aSf:=NI×NI×NI×NI×NI×NI×NI×NI×NI×NI
abbrev a0O:=NI×NI×NI×NI×NI×NI×NI×NI×NI×NI×NI×NI×NI×NI×NI×NI×NI×NI×NI×NI×NI×NI×NI×NI
abbrev a0P:=Int×Int×Bool×Bool×Int×Int×Int×Bool×Bool×Int×Int×Int×Int×Int×Int×Int×Int×Int×Int
abbrev aMw:=(Nat×Bool)×Int×Int×Bool
abbrev aSg:=Int×Int×Int×Int×Int×Int×Int
abbrev aVq:=Int×(Nat×Bool)×(Nat×Bool)×Int×Int×Bool
abbrev aIM:=Int×Int×Int×Int
abbrev a0Q:=Int×Int×Int×Int×Int×Int×Int×Int×Int×Int×Bool×Int×Bool
abbrev aSh:=Nat×Int×Int×Bool
abbrev aVr:=Int×Int×Int×Int×Int
abbrev RA (b:Type):=Rq (List AV×List aj) b
abbrev RS (b:Type):=Rq St b
abbrev RE (b:Type):=Rq pD b
@[reducible] def qa {b:Type} (x:RA b):RA b:=x
@[reducible] def qs {b:Type} (x:RS b):RS b:=x
@[reducible] def qe {b:Type} (x:RE b):RE b:=x
@[reducible] def nO {α:Type}:Rq (Option α) Unit:=Rq.no
def lf {β:Type}(q:RE β)(d:β):T:=.leaf (q.em d)
def ls {A B:Type}(f:A->T)(g:B->T)(x:A⊕B):T:=T.sum x f g
def Ex (X:Type):=∀{ρ:Type},X->(AX->St->Option ρ)->Option ρ
abbrev KT:=AX->St
def ef {X:Type}(a:AX)(q:RS X){ρ:Type}(x:X)(K:AX->St->Option ρ):Option ρ:=K a (q.em x)
abbrev LT {D:Type}(_:RS D)(X:Type):=D->Option X
abbrev PL {D:Type}(_:RS D)(X:Type):=Pg (D⊕X)
structure KK where
 l:List Ct
 hs:Hs
 kk:Nat
 n:Nat
end Go.Ab
namespace Go.Proofs.YtldgljclcgaibaaGreat
section
open Go.Ab Go.Ab.Rq
def fL:=bool true
def gH:=szs hole
def cX:=nat 0
def Ek:=nat 1
def rq4:=nat 2
def Wt:=rZ nil
def rq6:=nat 4
def rq7:=nat 3
def rq8:=nat 6
def El:=nat 11
def ep:=nat 9
def EK:=nat 8
def azY:=nat 20
def aMx:=nat 13
def aMy:=nat 14
def auU:=nat 15
def aMz:=nat 16
def aMA:=nat 17
def aMB:=nat 18
def auV:=nat 19
def aIN:=nat 21
def azZ:=nat 22
def aS:=app 0 1
def gZ:=cl ai nil
def xU:=cl gb nil
def aIO:=cl an nil
def aMC:=cl ab nil
def aMD:=app 1 2
def aaf:=cu fV nil
def az0:=app 2 2
def oF:=cl gI nil
def jG:=cl gi nil
def aqs:=app 1 4
def az1:=app 2 4
def aqt:=app 0 24
def aME:=app 1 3
def aag:=app 2 3
def UP:=app 1 24
def EL:=app 2 24
def HC:=app 1 300
def aah:=app 2 300
def aIP:=app 3 300
def aSi:=us 20 nil
def Ru:=app 1 576
def aIQ:=app 1 9
def ak4:=app 3 3
def aSj:=app 4 3
def aVs:=us 27 nil
def aVt:=app 2 1152
def aai:=app 3 1152
def aqu:=app 4 24
def aVu:=us 24 nil
def Rv:=app 1 1
def aiU:=app 3 24
def aSk:=app 2 576
def N6:=app 4 300
def aqv:=app 5 48
def az2:=app 2 48
def aIR:=app 4 576
def aqw:=app 5 24
def aIS:=app 2 373
def aIT:=app 3 373
def aMF:=cu Wu nil
def IB:=app 0 3
def az3:=app 0 37
def Wv:=app 0 8
def auW:=app 0 72
def aD6:=app 4 1
def eW:=app 0 434
def aD7:=gp 7 8
def aD8:=gp 8 8
def aD9:=gp 9 8
def aiV:=gp 1 5
def aiW:=gp 2 10
def aqx:=gp 10 37
def aqy:=gp 11 3
def az4:=app 2 20
def aSl:=app 3 4
def aSm:=app 5 16
def aSn:=app 6 12
def aSo:=app 3 576
def aSp:=app 4 12
def aMG:=app 3 1
def aaj:=app 20 8
def aVv:=app 21 11
def aSq:=app 20 20
def aSr:=app 1 434
def aSs:=app 2 19
def AS:=ok' cX
def Ww:=szs cX
def auX:=B9 xU
def aSt:=cl (rc cb) nil
def aVw:=ac (slc 0 2)
def IC:=ac (slc 1 1)
def cG:=so xU
def cY:=cu cX nil
def Wx:=ac (slc 0 1)
def aVx:=ac (slc 2 1)
def aEa:=ac (slc 1 3)
def auY:=cl (rc ci) nil
def aEb:=ac (slc 1 24)
def aJ3:=ac (slc 1 27)
def aPi:=ac (slc 0 3)
def aPj:=ac (slc 1 10)
def axP:=cu Ek nil
def aPk:=ac (slc 2 10)
def aPl:=ac (slc 0 9)
def aPm:=ac (zV 1 9)
def aJ4:=gc (zV 3 8)
def aPn:=ac (zV 2 11)
def zW:=c ai gZ
def bK:=cl xU nil
def axQ:=c gn (cl gn nil)
def aPo:=c gi (cl gn nil)
def as1:=cu (gp 1 1) nil
def aPp:=xs 8 (us 22 nil)
def aVy:=cf (fb (bool false))
def aPq:=cl ab (us 14 nil)
def aPr:=cl ab (us 21 nil)
def aPs:=cl ai (us 15 nil)
def aPt:=cl ai (us 26 nil)
def aJ5:=cl ai (us 13 nil)
def aVz:=cl ab (us 12 nil)
def ak5:=c gi jG
def aVA:=cl ai (us 11 nil)
def jw:=gl 24 oF
def aPu:=cl ai (us 18 nil)
def axR:=cu fV aaf
def aPv:=cu (gp 2 1) nil
def aPw:=gl 276 oF
def aEc:=cl ai aSi
def aPx:=cl ai (us 8 nil)
def aVB:=cl ai (us 21 nil)
def aVC:=cl ai (us 22 nil)
def aPy:=cl ai (us 82 nil)
def aJ6:=cl ai aVu
def aVD:=cl ai (us 80 nil)
def aVE:=cl ai (us 12 nil)
def aVF:=cl ai (us 32 nil)
def aVG:=cl ab (us 38 nil)
def aVH:=cu (gp 0 3) nil
def aVI:=cl ai (us 31 nil)
def aVJ:=xs 8 (us 1 nil)
def aVK:=cl ai (us 78 nil)
def aPz:=cf (fi .i64 (int 0))
def aPA:=cf (fi .i64 (int 4))
def axS:=cf (fi .i64 (int 1))
def aVL:=cf (fi .i64 (int 5))
def aPB:=afn (pu (nat 96) nil)
def mG:=cl auX nil
def aVM:=res (pl an (pu nil nil))
def Wy:=aa axQ
def agb:=aa aPo
def Fq:=res (pl ai (pu nil nil))
def Ta:=ac (cf (fb fL))
def uy:=ac aVy
def AT:=res (pl ab (pu nil nil))
def axT:=cl IC nil
def aJ7:=cl aEa nil
def axU:=gc (cf (fb fL))
def abY:=so as1
def axV:=so aVH
def agc:=gc aVy
def Fs:=c ai zW
def aVN:=c ai (cl ab (us 30 nil))
def aJ8:=c gI (cl (ki .u64 hole) nil)
def aX:=gc aPz
def aEd:=gc (cf (fi .u64 (int 0)))
def aPC:=c ai (cl ab (us 25 nil))
def aJ9:=c ai aVz
def jV:=c gi ak5
def axW:=gc (cf (fi .i64 (int 1073741824)))
def as2:=cl jw nil
def aKa:=c ai (cl ab (us 17 nil))
def aKb:=c ai (cl ab (us 19 nil))
def aEe:=cl (gl 576 oF) nil
def aKc:=c ai (cl ab (us 7 nil))
def abZ:=cl (gl 9 oF) nil
def aVO:=c ai (cl ab aSi)
def aPD:=gc (cf (fi .i64 (int 2)))
def aKd:=c gb ak5
def as3:=c gI (c gI oF)
def aVP:=cl (gl 1152 oF) nil
def aVQ:=c ai (cl ab (us 34 nil))
def aVR:=c ai (cl ab (us 81 nil))
def aVS:=c ai (cl ab (us 29 nil))
def aKe:=c ai (cl ab (us 23 nil))
def aVT:=c ai (cl ab (us 13 nil))
def aVU:=c ai (cl ab (us 11 nil))
def as4:=c kcb (c gI oF)
def aPE:=c ai aEc
def aVV:=c ai (cl ab (us 31 nil))
def aPF:=c gi (c gi xU)
def Tb:=ac aPz
def aVW:=ac (cf (fi .i64 (int 6)))
def aVX:=gc (cf (fi .i64 (int 3000)))
def aVY:=gc (cf (fi .i64 (int 2200)))
def aKf:=gc (cf (fi .i64 (int 500)))
def aVZ:=gc (cf (fi .i64 (int 950)))
def aV0:=gc (cf (fi .i64 (int 100)))
def aV1:=gc (cf (fi .i64 (int 1000)))
def aV2:=c ai (cl ab (us 41 nil))
def aEf:=c gn (c gn xU)
def aEg:=cu Ek (cu rq4 nil)
def aV3:=cu cX (cu El nil)
def aEh:=cl agb nil
def ab0:=cl (so aPo) nil
def Ow:=cl auX aaf
def aPG:=c ai axT
def agd:=aa jV
def kY:=aa as2
def nX:=so as2
def zX:=so jV
def aV4:=c ai (cl Wx nil)
def mH:=so aEe
def HU:=so aVP
def age:=so (cl (gl 48 oF) nil)
def agf:=ra as2
def aKg:=res (pl ab (pu aaf nil))
def axX:=res (pl ai (pu aaf nil))
def ak6:=aa aEf
def aPH:=rZ (c (rc ci) aSt)
def aKh:=c ai (cl ai (cu aS nil))
def aV5:=c ai (c ai aPq)
def agh:=c gi jV
def aPI:=xs 3 (us 2 (xs 3 (us 1 nil)))
def aV6:=us 15 (c ai aPt)
def wJ:=c gi (c gi (c gb xU))
def aPJ:=cu (gc (cf (fi .i64 (int 3)))) nil
def aPK:=c ai aKb
def aPL:=rZ (c (rc ci) auY)
def aV7:=rZ (cu (rc aV8) auY)
def ak7:=cu (rc aPz) nil
def aPM:=cl aPF nil
def aV9:=ox (pu cX (pl hole ep))
def as5:=cu (gc (cf (fi .i64 (int (-9223372036854775808))))) nil
def Ox:=ox (pu cX (pl hole EK))
def aKi:=cl (ga (pr gH oF)) nil
def HV:=cl agd nil
def agi:=aa agh
def xX:=so agh
def Ft:=cl nX nil
def aPN:=cu fV (cu fV mG)
def ak8:=cl kY nil
def agj:=c gi (c gi (cl (gc (zV 2 11)) nil))
def aKj:=c gi (c gi (cl (gc (zV 3 11)) nil))
def aKk:=c gi (c gi (cl (gc (zV 7 11)) nil))
def aPO:=c gi (c gi (cl (gc (zV 4 11)) nil))
def aPP:=res (pl ai (pu axR nil))
def sQ:=c gi (c gi (cl (gc (zV 19 11)) nil))
def J8:=so aKi
def aWa:=us 15 (c ai aPC)
def fW:=c gi agh
def aWb:=cu fV (cu fV (cu fV axR))
def rf:=res (pr ai (pl mG nil))
def aWc:=res (pl agb (pu nil nil))
def aKl:=res (pl Wy (pu nil nil))
def as6:=cl agi nil
def agk:=c kY gZ
def aWd:=rZ (c (ra aPo) aSt)
def ak9:=cl J8 nil
def uA:=c aPw as2
def axY:=c jw jV
def aEi:=c gi fW
def aPQ:=aa (a 3 jV jG)
def aWe:=c gi (c gi (c gb jV))
def aPR:=xs 3 (us 2 aPI)
def aWf:=ac (N7 (pu cX (pu (ok' ep) Ek)))
def aWg:=ac (N7 (pu cX (pu (ok' rq6) rq8)))
def aPS:=ac (N7 (pu cX (pu (ok' rq8) Ek)))
def aWh:=ac (N7 (pu cX (pu (ok' Ek) Ek)))
def Oy:=ac (N7 (pu cX (pu (ok' (nat 72)) Ek)))
def aWi:=ac (N7 (pu cX (pu (ok' (nat 412)) Ek)))
def aPT:=ac (N7 (pu cX (pu (ok' (nat 399)) Ek)))
def aPU:=ac (N7 (pu azY (pu (ok' rq4) Ek)))
def aPV:=res (pr ai (pl (cu fV mG) nil))
def aKm:=res (pr ai (pl Ow nil))
def aWj:=res (pl agd (pu nil nil))
def aPW:=res (pl kY (pu nil nil))
def aPX:=cl (ga (pr gH as4)) nil
def lK:=a 3 jV ak5
def aWk:=rZ (cu (rc axZ) (cu (rc axS) nil))
def aKn:=res (pl ak6 (pu nil nil))
def aPY:=res (pl (rZ (c (rc cn) (cl (rc cn) nil))) (pu nil nil))
def ax0:=res (pl aPH (pu nil nil))
def AU:=aa uA
def jx:=so uA
def ala:=ra uA
def aPZ:=so (cl (ga (pr gH aJ8)) nil)
def aEj:=so (cl (ga (pr gH as3)) nil)
def aWl:=rZ (c (ra jV) auY)
def aWm:=gl 6 (c gI (c gI (c kcb as3)))
def aWn:=cu fV (cu fV aWb)
def qJ:=so lK
def aWo:=cu Wu (cu Wu (cu Wu (cu Wu (cu Wu (cu Wu aMF)))))
def aWp:=res (pl agi (pu nil nil))
def aWq:=res (pl kY (pu aaf nil))
def aWr:=res (pr ai (pl aPN nil))
def aWs:=cl (aa axY) nil
def aWt:=res (pl aPL (pu aaf nil))
def aP0:=afn (pu (nat 180) (cu (rc (cp 2 1)) (cu (rc (cp 3 10)) nil)))
def aWu:=c an (c an (c an (c an (c an (c an aPq)))))
def aWv:=res (pu Wt (pl (cl (B9 as2) nil) nil))
def mI:=c gI (c gI (c gI (c gI (c gI as3))))
def aWw:=cl (so aPX) nil
def ax1:=c gi (c gi aEi)
def aKo:=cu fV aWn
def aP1:=res (pl ai (pu (cu (B9 (cu axU nil)) nil) nil))
def aWx:=st (pu (us 4 (cu uy (us 189 nil))) (pu nil nil))
def aP2:=res (pl aWd (pu nil nil))
def aP3:=so (cu aX (cu aEd nil))
def Fu:=so ax1
def ax2:=res (pr agd (pl mG nil))
def aEk:=res (pr kY (pl mG nil))
def aB:=c gI mI
def aP4:=c gi ax1
def ml:=c aWm jG
def aEl:=res (pu aWk (pu nil nil))
def aWy:=cu fV (cu Wu aWn)
def Oz:=c nX Ft
def aWz:=ac (fJ (pu Ek (pu AS (pl gH (pu rq4 fL)))))
def aWA:=ac (fJ (pu rq6 (pu AS (pl gH (pu Ek fL)))))
def aKp:=c gi (c gi (a 3 jV jV))
def aWB:=ac (fJ (pu rq7 (pu AS (pl gH (pu Ek fL)))))
def aWC:=ac (fJ (pu rq8 (pu AS (pl gH (pu rq7 fL)))))
def aWD:=ac (fJ (pu rq6 (pu AS (pl gH (pu rq7 fL)))))
def aWE:=ac (fJ (pu (nat 5) (pu AS (pl gH (pu rq7 fL)))))
def aWF:=ac (fJ (pu (nat 5) (pu AS (pl gH (pu Ek fL)))))
def aP5:=res (pr aPL (pl mG nil))
def aWG:=cu uy (xs 2 (cu uy (us 61 nil)))
def aKq:=aa aP4
def aEm:=B9 ml
def pk:=so ml
def aWH:=c an (c an (c an (c an (c an (c an (cl ab (us 19 aPp)))))))
def ax3:=res (pr agi (pl mG nil))
def aWI:=ac (fJ (pu Ek (pu AS (pu (szl rq6) (pu Ek fL)))))
def kZ:=c gI aB
def aP6:=c gi aP4
def aWJ:=rZ (c (ra axY) auY)
def aEn:=cl ml nil
def Em:=cl aKq nil
def aWK:=cl (so aP4) nil
def ab1:=cl (aa aKp) nil
def ia:=c gI kZ
def ax4:=c gi aP6
def agl:=a 5 fW (c gi (c (gc (zV 1 9)) jG))
def pn:=a 5 fW (c gi (c (gc (zV 14 9)) jG))
def px:=a 5 fW (c gi (c (gc (zV 15 9)) jG))
def py:=a 5 fW (c gi (c (gc (zV 16 9)) jG))
def pz:=a 5 fW (c gi (c (gc (zV 17 9)) jG))
def pA:=a 5 fW (c gi (c (gc (zV 18 9)) jG))
def rj:=a 5 fW (c gi (c (gc (zV 13 9)) jG))
def aKr:=aa (a 3 jV lK)
def aP7:=res (pr (rZ (c (ra ak5) auY)) (pl mG nil))
def aP8:=cl (ga (pr gH mI)) nil
def aKs:=fJ (pu aIN (pr Ox (pl gH (pu EK fL))))
def aP9:=so (c gb (c gb (c gb (c gb (c gb (c gb (c gb (c gb jV))))))))
def aWL:=ac (fJ (pu Ek (pu (ox (pu cX (pu Ek Ek))) (pr gH (pu Ek hole)))))
def as7:=cu aX (cu aX (cu aX nil))
def aQa:=res (pr AU (pl mG nil))
def aQb:=c gi ax4
def aWM:=res (pr (aa axY) (pl mG nil))
def aQc:=c jw (c gi (c gi (c gi axY)))
def agm:=cu (gp 4 8) (cu (gp 5 8) (cu (gp 6 8) (cu aD7 (cu aD8 (cu aD9 nil)))))
def aWN:=cu axV (cu abY Ft)
def aQd:=fJ (pu rq7 (pu (ox (pu cX (pu cX EK))) (pl gH (pu EK fL))))
def sR:=so aP8
def aQe:=cl aWm (cu aX nil)
def aQf:=fJ (pu aIN (pu (ox (pu cX (pu cX ep))) (pl gH (pu ep fL))))
def ab2:=c jx (cl age nil)
def ab3:=cl (ga (pr gH aB)) nil
def xY:=a 4 agh (a 3 jV jV)
def mJ:=c gi (a 8 aKp xU)
def aKt:=gc aQd
def aEo:=ac (fJ (pu rq7 (pu (ox (pu cX (pu cX El))) (pl gH (pu El fL)))))
def aWO:=res (pr AU (pl Ow nil))
def HW:=so ab3
def as8:=cl (ga (pu Ww aB)) nil
def aWP:=cu eW (us 2 (cu aaj (cu Oy (us 194 nil))))
def aQg:=cl (ga (pr gH kZ)) nil
def aWQ:=res (pr (rZ (c (ra agh) auY)) (pl mG nil))
def qK:=so mJ
def alb:=cl (so aQb) nil
def aWR:=cl (so aQe) nil
def aQh:=cl (aa (c gb (c gb (a 6 (c gb (c gb (c gb (c gb (c gb xU))))) jV)))) nil
def aKu:=c nX Oz
def agn:=c gi (c gi (c gi (c gi (c gi (c gi (c gi (c gi (c gi (c gi (c gi abZ))))))))))
def xZ:=so aQg
def aWS:=c jw (c jw ax1)
def aWT:=cl (ga (pu Ww kZ)) nil
def aQi:=aa (c gi xY)
def aQj:=cl (ga (pr gH ia)) nil
def aKv:=cl aQg nil
def aWU:=so (c gb (c gb (c gb (c gb (c gb (c gb (c gb (c gb (cu (gc (cf (fi .i64 (int 1125899906842624)))) ak5)))))))))
def aWV:=c aPw (c jw (c jw (c jw (cl (gl 25 oF) nil))))
def aWW:=rZ (c (ra ax4) aSt)
def Tc:=so aQj
def ax5:=c jx (cl jx nil)
def aEp:=res (pr aWJ (pl mG nil))
def aEq:=cl aQj nil
def Td:=so aWV
def aQk:=afn (pu (nat 183) (cu (rc (cp 2 1)) (cu (rc (cp 3 3)) (cu (rc (cp 4 1)) (cu (rc (cp 5 3)) (cu (rc (cp 6 4)) nil))))))
def aQl:=c gi (c gi (cl (gc (fJ (pu azY (pu (ox (pu cX (pu cX El))) (pl gH (pu El fL)))))) nil))
def aWX:=c gi (c gi (cl (gc (fJ (pu (nat 38) (pu (ox (pu cX (pu cX El))) (pl gH (pu El fL)))))) nil))
def aQm:=c gi (c gi (cl (gc (fJ (pu auV (pu (ox (pu cX (pu cX El))) (pl gH (pu El fL)))))) nil))
def aWY:=res (pu (rZ (cu (rc (cp 0 5)) ak7)) (pu nil (cl fW nil)))
def aQn:=cl (B9 aQj) nil
def LO:=cl Tc nil
def alc:=c gi (c gi (c gi (c gi aQb)))
def aWZ:=cl (cl (ga (pu Ww ia)) nil) nil
def ago:=so (c gi (c gi (cl (gc (fJ (pu (nat 29) (pu (ox (pu cX (pu cX El))) (pl gH (pu El fL)))))) nil)))
def ax6:=so (c gi (c gi (cl (gc (fJ (pu (nat 28) (pu (ox (pu cX (pu cX El))) (pl gH (pu El fL)))))) nil)))
def ald:=so (cu aX as7)
def aW0:=cu fV (cu fV aQn)
def ale:=cu (so as7) (cl zX nil)
def aW1:=cu fV (cu fV (cu fV (cu fV (cu fV (cu fV (cu fV (cu fV (cu fV (cu fV (cu fV aKo))))))))))
def aEr:=c gi (c gi (c gb (c gb (c gi (c gi (c gi (c gb (c gb aP6))))))))
def aQo:=cu Wu (cu Wu (cu Wu (cu Wu (cu Wu (cu Wu (cu Wu (cu Wu (cu Wu (cu Wu (cu Wu (cu Wu aWo)))))))))))
def aQp:=c gi (c gi (c gi (a 10 xY (cl (gc (zV 20 10)) nil))))
def aW2:=c gI (c gI (c gI (c gI (c gI (c gI (c gI (c gI (c gI ia))))))))
def alf:=cu fV aW1
def aEs:=a 5 fW (c gi (c (gc aQf) jG))
def as9:=a 5 fW (c gi (c (gc (fJ (pu azZ (pu (ox (pu cX (pu cX ep))) (pl gH (pu ep fL)))))) jG))
def aW3:=a 5 fW (c gi (c (gc (fJ (pu (nat 23) (pu (ox (pu cX (pu cX ep))) (pl gH (pu ep fL)))))) jG))
def aW4:=a 5 fW (c gi (c (gc (fJ (pu (nat 24) (pu (ox (pu cX (pu cX ep))) (pl gH (pu ep fL)))))) jG))
def aW5:=a 5 fW (c gi (c (gc (fJ (pu (nat 25) (pu (ox (pu cX (pu cX ep))) (pl gH (pu ep fL)))))) jG))
def aW6:=a 5 fW (c gi (c (gc (fJ (pu (nat 26) (pu (ox (pu cX (pu cX ep))) (pl gH (pu ep fL)))))) jG))
def aW7:=a 5 fW (c gi (c (gc (fJ (pu (nat 32) (pu (ox (pu cX (pu cX ep))) (pl gH (pu ep fL)))))) jG))
def ax7:=a 5 fW (c gi (c (gc (fJ (pu (nat 33) (pu (ox (pu cX (pu cX ep))) (pl gH (pu ep fL)))))) jG))
def ax8:=a 5 fW (c gi (c (gc (fJ (pu (nat 34) (pu (ox (pu cX (pu cX ep))) (pl gH (pu ep fL)))))) jG))
def ax9:=a 5 fW (c gi (c (gc (fJ (pu (nat 35) (pu (ox (pu cX (pu cX ep))) (pl gH (pu ep fL)))))) jG))
def aya:=a 5 fW (c gi (c (gc (fJ (pu (nat 36) (pu (ox (pu cX (pu cX ep))) (pl gH (pu ep fL)))))) jG))
def ayb:=a 5 fW (c gi (c (gc (fJ (pu (nat 37) (pu (ox (pu cX (pu cX ep))) (pl gH (pu ep fL)))))) jG))
def aQq:=a 5 fW (c gi (c (gc (fJ (pu aMx (pu (ox (pu cX (pu cX ep))) (pl gH (pu ep fL)))))) jG))
def aQr:=a 5 fW (c gi (c (gc (fJ (pu aMy (pu (ox (pu cX (pu cX ep))) (pl gH (pu ep fL)))))) jG))
def aQs:=a 5 fW (c gi (c (gc (fJ (pu auU (pu (ox (pu cX (pu cX ep))) (pl gH (pu ep fL)))))) jG))
def ata:=a 5 fW (c gi (c (gc (fJ (pu aMz (pu (ox (pu cX (pu cX ep))) (pl gH (pu ep fL)))))) jG))
def atb:=a 5 fW (c gi (c (gc (fJ (pu aMA (pu (ox (pu cX (pu cX ep))) (pl gH (pu ep fL)))))) jG))
def atc:=a 5 fW (c gi (c (gc (fJ (pu aMB (pu (ox (pu cX (pu cX ep))) (pl gH (pu ep fL)))))) jG))
def aW8:=res (pl ai (pu alf nil))
def J9:=so aW3
def J':=so aW4
def Ka:=so aW5
def Kb:=so aW6
def Kc:=so (a 5 fW (c gi (c (gc (fJ (pu (nat 27) (pu (ox (pu cX (pu cX ep))) (pl gH (pu ep fL)))))) jG)))
def agp:=so (a 5 fW (c gi (c (gc (fJ (pu (nat 28) (pu (ox (pu cX (pu cX ep))) (pl gH (pu ep fL)))))) jG)))
def aEt:=c gI (c gI (c gI (c gI aW2)))
def aW9:=cu aX (cu aX (cu aX as7))
def OA:=ac (cfs (pr hole (pu azY aW2)))
def aXa:=c jx (c jx (c mH Ft))
def aXb:=xs 3 (us 2 (xs 3 (us 2 (xs 3 (us 2 (xs 3 (us 2 (xs 3 (us 2 (xs 3 (us 2 (xs 3 (us 2 (xs 3 (us 2 (xs 3 (us 2 (xs 3 (us 2 aPR)))))))))))))))))))
def Wz:=cu rq6 (cu (nat 5) (cu rq8 (cu (nat 7) (cu EK (cu ep (cu auV (cu aMB (cu aMA (cu aMz (cu auU (cu aMy (cu aMx (cu El (cu cX (cu (nat 10) nil)))))))))))))))
def aKw:=c gI (c gI (c gI aEt))
def aXc:=so (cl (ga (pr gH aEt)) nil)
def aXd:=so (c gi (c gi (c gi (cl gi aW9))))
def aXe:=cu fV (cu fV (cu fV (cu fV (cu fV (cu fV (cu fV (cu fV (cu fV (cl aEm (cu fV aKo))))))))))
def aQt:=cu fV (cu fV (cu fV (cu fV (cu fV (cu fV (cu fV (cu fV (cu fV (cl aEm aWy)))))))))
def aQu:=cu fV aXe
def ayc:=so (c gi (c gi (c gi (c gi (c gi (c gi (c gi (c gi (c gi (c gi (c gi (c gi (c gi (c gi (c gi (c gi aWS))))))))))))))))
def aEu:=cu cX (cu rq6 (cu (nat 5) (cu rq8 (cu (nat 7) (cu EK (cu ep (cu auV (cu aMB (cu aMA (cu aMz (cu auU (cu aMy (cu aMx (cu (nat 12) (cu rq7 (cu El (cu rq4 (cu (nat 10) nil))))))))))))))))))
def aKx:=cu aX (cu aX aW9)
def sS:=c gi (c gi (c gi (c gi (a 6 aEi (a 6 aEi aWS)))))
def aXf:=c gb (c gb (c gi (c gi (c gi (a 10 xY (cl (gc (fJ (pu (nat 12) (pu (ox (pu cX (pu cX (nat 10)))) (pl gH (pu (nat 10) fL)))))) nil))))))
def aXg:=res (pu Wt (pl aQu nil))
def alg:=cu auV (cu aMB (cu aMA (cu aMz (cu auU (cu aMy (cu aMx (cu (nat 12) (cu El (cu (nat 10) (cu rq7 (cu rq4 (cu Ek (cu cX (cu rq6 (cu (nat 5) (cu rq8 (cu (nat 7) (cu EK (cu ep nil)))))))))))))))))))
def aXh:=res (pu (ac (fJ (pu Ek (pu AS (pu (szl rq7) (pu (nat 27) fL)))))) (pr mG (cl (c jw (c gi (c gi (c gi aQc)))) nil)))
def aXi:=cl gi (cu aX (cu aX (cu aX (cu aX (cu aX (cu aX (cu aX (cu aX (cu agc nil)))))))))
def aXj:=so (cu aX (cu aX aKx))
def aQv:=au 6 agm (cu aqx (a 4 wJ (cu aqy (c gb (c gi (a 3 jV (c gb (c gb (c gb (c gi (c gi (c gi (a 10 xY (cl (gc (fJ (pu azZ (pu (ox (pu cX (pu cX (nat 10)))) (pl gH (pu (nat 10) fL)))))) nil))))))))))))))
def aXk:=au 6 (cu (gp 23 8) (cu (gp 24 8) (cu (gp 25 8) (cu (gp 26 8) (cu (gp 27 8) (cu (gp 28 8) nil)))))) (cu (gp 29 37) (a 4 wJ (cu (gp 30 3) (c gb (c gi (a 3 jV (c gb (c gb (c gb (c gi (c gi (c gi (a 10 xY (cl (gc (fJ (pu (nat 31) (pu (ox (pu cX (pu cX (nat 10)))) (pl gH (pu (nat 10) fL)))))) nil))))))))))))))
def aQw:=cu (gc (cf (fi .i64 (int 8000)))) (cu (gc (cf (fi .i64 (int 40000)))) (cu (gc (cf (fi .i64 (int 16)))) (cu (gc aVL) (c gi (c gi (c gi (c gi (c gi (c gi (c gi (c gi (c gi (c gi (c gi (c gi (c jw (cl jw (cu (gc (cf (fi .i64 (int 5000000)))) (cu (gc (cf (fi .i64 (int 68719476736)))) (cu (gc axS) (cu (gc (cf (fi .i64 (int 268435456)))) (cu (gc (cf (fi .i64 (int 32)))) as7))))))))))))))))))))))
def aXl:=st (pr (us 4 (cu aMG (cu aD6 (us 8 (cu (app 5 3) (cu (app 6 3) (cu (app 7 4) (cu (app 8 4) aVD)))))))) (pl (c (so agj) (c cG (c Tc (cu axV (cu abY (c zX (c zX (c xX (cl xX nil))))))))) aEg))
def aEv:=a 26 sS (c gb (c jw (a 2 uA (cu (gp 2 5) (cu (gp 3 10) (c (gc (zV 4 8)) (au 6 (cu (gp 5 8) (cu (gp 6 8) (cu aD7 (cu aD8 (cu aD9 (cu (gp 10 8) nil)))))) (cu (gp 11 37) (a 4 wJ (cu (gp 12 3) (c gb (c gi (a 3 jV (c gb (c gb (c gb (c gi (c gi (c gi (a 10 xY (cl (gc (zV 13 10)) nil)))))))))))))))))))))
def qL:=a 26 sS (c gb (c jw (a 2 uA (cu aiV (cu aiW (c aJ4 (au 6 agm (cu aqx (a 4 wJ (cu aqy (c gb (c gi (a 3 jV (c gb (c gb (c gb (c gi (c gi (c gi (a 10 xY (cl (gc (zV 12 10)) nil)))))))))))))))))))))
def aXm:=B9 (a 26 sS (c gb (c jw (a 2 uA (cu aiV (cu aiW (c aJ4 (au 6 agm (cu aqx (a 4 wJ (cu aqy (c gb (c gi (a 3 jV (c gb (c gb (c gb aQp)))))))))))))))))
def aQx:=c aQg (c ab3 (c ab3 (c ab3 (c ab3 (c ab3 (c ab3 aEq))))))
def Fv:=c xZ (c HW (c HW (c HW (c HW (c HW (c HW LO))))))
def aQy:=a 26 sS (c gb (c jw (a 2 uA (cu (gp 20 5) (cu (gp 21 10) (c (gc (fJ (pu azZ (pr Ox (pl gH (pu EK fL)))))) aXk))))))
def aQz:=a 26 sS (c gb (c jw (a 2 uA (cu aiV (cu aiW (c (gc (fJ (pu rq7 (pr Ox (pl gH (pu EK fL)))))) (au 6 agm (cu aqx (a 4 wJ (cu aqy (c gb (c gi (a 3 jV (c gb aXf))))))))))))))
def aQA:=so (a 26 sS (c gb (c jw (a 2 uA (cu aiV (cu aiW (c (gc aKs) aQv)))))))
def aEw:=so (a 26 sS (c gb (c jw (a 2 uA (cu aiV (cu aiW (c aKt aQv)))))))
def ayd:=so (a 26 sS (c gb (c jw (a 2 uA (cu aiV (cu aiW (c aKt (au 6 agm (cu aqx (a 4 wJ (cu aqy (c gb (c gi (a 3 jV (c gb (c gb (c gb (c gi (c gi (c gi (a 10 xY (cl (gc (fJ (pu aIN (pu (ox (pu cX (pu cX (nat 10)))) (pl gH (pu (nat 10) fL)))))) nil))))))))))))))))))))))
def aQB:=a 26 sS (c gb (c jw (a 2 uA (cu aiV (cu aiW (c aKt (au 6 agm (cu aqx (a 4 wJ (cu aqy (cu axU (c gi (a 3 jV (cu axU aXf))))))))))))))
def atd:=res (pu Wt (pl (c (B9 qL) aXe) nil))
def aXn:=res (pu Wt (pr (cl aXm (cu fV (cu fV (cu fV (cu fV (cu fV (cu fV (cu fV (cu fV (cu fV (cu fV aWy))))))))))) aKv))
def aQC:=c lK (c mJ (c aP8 (c aW7 (c ax7 (c ax8 (c ax9 (c aya (c ayb (c ml (c aWX aQx))))))))))
def aEx:=c (so aQy) (cu nO (cu nO (cu nO (cu nO (cu nO (cu nO (cu nO (cu nO (cu nO (cu nO (cu nO (cu nO (cu nO (cu nO (cu nO (cu nO (cu nO (cu nO (cu nO (c qJ (c qK (c sR (c (so aW7) (c (so ax7) (c (so ax8) (c (so ax9) (c (so aya) (c (so ayb) (c pk (c (so aWX) Fv))))))))))))))))))))))))))))))
def aQD:=st (pr (cu eW (us 2 (cu aaj (cu Oy (us 178 (cu eW (cu eW (cu aWi aVz)))))))) (pl (c ayd (c qJ (c qK (c sR (c (so as9) (c J9 (c J' (c Ka (c Kb (c Kc (c pk (c ax6 (c xZ (cu nO (cu nO (cu nO (cu nO (cu nO (cu nO (cu nO (c Fu Fv))))))))))))))))))))) Wz))
def aQE:=st (pr (cu eW (us 2 (cu aaj (cu Oy (us 178 (cu eW (cu eW (cu aWi (c ab (cu eW (cu eW (cu (ac (N7 (pu cX (pu (ok' (nat 411)) Ek)))) (cu (app 11 3) (cu Oy (cu eW (cu eW (cu (ac (N7 (pu cX (pu (ok' (nat 73)) (nat 24))))) (c kY (cu (app 20 1) zW))))))))))))))))))) (pl (c ayd (c qJ (c qK (c sR (c (so as9) (c J9 (c J' (c Ka (c Kb (c Kc (c pk (c ax6 (c xZ (cu nO (cu nO (cu nO (cu nO (cu nO (cu nO (cu nO (c Fu Fv))))))))))))))))))))) Wz))
end
open Go.Ab
abbrev TP:=Tryz.prog
abbrev D0 {β δ:Type}(l:List Ct)(n:Nat)(Q:RA β)(R:δ->T)(B:β->Pg δ):Prop:=alh TP l ⟨[],[],[],[],none⟩ 2000 n Q R B
abbrev D1 {β δ:Type}(l:List Ct)(d0:List Nat)(n:Nat)(Q:RA β)(R:δ->T)(B:β->Pg δ):Prop:=alh TP l ⟨[],[],d0,[],none⟩ 2000 n Q R B
abbrev D2 {β δ:Type}(k:KK)(Q:RA β)(R:δ->T)(B:β->Pg δ):Prop:=alh TP k.l k.hs 2000 k.n Q R B
abbrev LI {D X:Type}(k:KK)(id:Nat)(Q:RS D)(E:∀{ρ:Type},X->(AX->St->Option ρ)->Option ρ)(S:D->Pg (D⊕X)):Prop:=aSu TP k.l k.hs k.kk 2000 k.n id Q E S
abbrev JI {D X:Type}(k:KK)(id:Nat)(Q:RS D)(E:∀{ρ:Type},X->(AX->St->Option ρ)->Option ρ)(S:D->Pg X):Prop:=aSv TP k.l k.hs k.kk 2000 k.n id Q E S
section
variable [ay]
abbrev SC (e:Ct):Prop:=Snd TP e
theorem sc {e:Ct}{n:Nat}{F:Fw}(S:Sound TP n F)(h:e=(n,F):=by kernel_rfl):SC e:=Snd.of S h
theorem k0 {β δ:Type}{l:List Ct}{d0:List Nat}{n:Nat}{Q:RA β}{R:δ->T}{B:β->Pg δ}(hl:Kd TP l)(h:alh TP l ⟨[],[],d0,[],none⟩ 2000 n Q R B)(hc:GQ TP n=true:=by kernel_rfl):Sound TP n (FC Q R λb=>(B b).val):=mk0 mixed hl hc h
theorem s0 {β δ:Type}{e:Ct}{l:List Ct}{d0:List Nat}{n:Nat}{Q:RA β}{R:δ->T}{B:β->Pg δ}(hl:Kd TP l)(h:alh TP l ⟨[],[],d0,[],none⟩ 2000 n Q R B)(he:e=(n,FC Q R λb=>(B b).val):=by kernel_rfl)(hc:GQ TP n=true:=by kernel_rfl):SC e:=Snd.of (mk0 mixed hl hc h) he
theorem kS {β δ:Type}{k:KK}{Q:RA β}{R:δ->T}{B:β->Pg δ}(hl:Kd TP k.l)(i j:List Nat)
  (h1:BL (λa=>∀kk,OC TP (Fx k.l) k.hs (tmpsOf TP k.n) kk 2000 a) (i.map (aak TP k.n)))
  (h2:BL (λb=>∀kk,auZ TP (Fx k.l) k.hs (tmpsOf TP k.n) kk 2000 b) (j.map (agq TP k.n)))
  (h:D2 k Q R B)(e1:LP (aal TP k.n)=i.map (aak TP k.n):=by kernel_rfl)(e2:LQ k.hs (aal TP k.n)=j.map (agq TP k.n):=by kernel_rfl)(hc:GQ TP k.n=true:=by kernel_rfl):
  Sound TP k.n (FC Q R λb=>(B b).val):=mkS mixed hl hc (LR.by e1 h1 e2 h2) h
theorem kL {D X:Type}{k:KK}{id:Nat}{Q:RS D}{E:∀{ρ:Type},X->(AX->St->Option ρ)->Option ρ}{S:D->Pg (D⊕X)}(h:LI k id Q E S)
  (h0:aqz k.hs (aak TP k.n id)=some (gx id k.kk Q E (bE S 2000)):=by kernel_rfl):∀k',OC TP (Fx k.l) k.hs (tmpsOf TP k.n) k' 2000 (aak TP k.n id):=mkL h0 h
theorem kJ {D X:Type}{k:KK}{id:Nat}{Q:RS D}{E:∀{ρ:Type},X->(AX->St->Option ρ)->Option ρ}{S:D->Pg X}(hd:Hd)(h:JI k id Q E S)
  (h0:az5 k.hs (agq TP k.n id)=some ⟨hd,gx id k.kk Q E λd=>(S d).val⟩:=by kernel_rfl):∀k',auZ TP (Fx k.l) k.hs (tmpsOf TP k.n) k' 2000 (agq TP k.n id):=mkJ h0 h
theorem kN {k:KK}{c:Code}(h:aqz k.hs c=none:=by kernel_rfl):∀k',OC TP (Fx k.l) k.hs (tmpsOf TP k.n) k' 2000 c:=OC.no h
end
end Go.Proofs.YtldgljclcgaibaaGreat
namespace Go.Ab
variable [ay]
omit [ay] in
theorem aAu:∀{h:List aj} {cs:List Ch} {j:Nat},cs[j]? =some .kill->(((after h cs)[j]?).getD none)=none
 | [],cs,j,_=>by simp[after]
 |b0::bs,[],j,h=>by simp at h
 |b0::bs,c::cs,0,h=>by
  simp only[aEy,iI] at h;subst h;simp[after]
 |b0::bs,c::cs,j+1,h=>by
  have:=aAu (h:=bs) (cs:=cs) (j:=j) (by simpa using h);cases c<;>simpa[after] using this
theorem ayI {P:Program}{π:Pi}{w w':World}{h:List aj}{cs:List Ch}{k:aj}{val:AV}{v:Value}{B s e:Nat}(hH:sU π (hC (h.map some)) (hZ (h.map some)) w)(kr:∀b,π b≠none->b<h.length)
  (Kn:∀b,b<h.length->cs[b]? =some .mB∨cs[b]? =some .kill)(hfr:cq w (Ds π h.length (Tn cs)) w')(hle:s+aj.size k<=e)(qy:∀i,s<=i->i<e->(cl w' B i).isSome=true/\fz w' B i=false)
  (hk:∀j,j<aj.size k->∃v,cl w' B (s+j)=some v/\(aj.get k j).rel π v)
  (hpl:(w.heap.size<=B)∨∃b s0 q0 e0,b<h.length/\cs[b]? =some .kill/\π b=some (B,s0,q0,e0)/\s0<=s/\e<=e0)
  (ham:A4 w')(hlb:s<e->ay.h0<=B)(hv:∀π':Pi,Ext π π'->π' h.length=some (B,s,aj.size k,e)->val.rel π' v):
  aJm P π w h ⟨val,cs,[k]⟩ (.returned v) w':=by
 have h0:π h.length=none:=by
  cases hh:π h.length with
  |none=>rfl
  |some p=>exact absurd (kr _ (by rw[hh];simp)) (Nat.lt_irrefl _)
 have hx:=A5 h0 (B,s,aj.size k,e);have ayJ:=qi π h.length (B,s,aj.size k,e);have ag0:∀b,b≠h.length->AA π h.length (B,s,aj.size k,e) b=π b:=λb hb=>by simp only[AA,if_neg hb]
 have a09:(pD.heap ⟨val,cs,[k]⟩ h)[h.length]? =some (some k):=acf (r:=⟨val,cs,[k]⟩) (h:=h) (k:=0) rfl;have hlen:(pD.heap ⟨val,cs,[k]⟩ h).length=h.length+1:=by simp[pD.heap,nj]
 have live:∀b,hZ (pD.heap ⟨val,cs,[k]⟩ h) b≠none->b=h.length∨(b<h.length/\cs[b]? =some .mB/\∃kb,h[b]? =some kb/\(pD.heap ⟨val,cs,[k]⟩ h)[b]? =some (some kb)):=λb hb=>by
  rcases ags b h.length with nL|heq|hgt
  .right
   rcases Kn b nL with hc|hc
   .have hkb:h[b]? =some (h[b]'nL):=kR _;exact⟨nL,hc,_,hkb,(D4 nL).trans (agW.2 hc _ hkb)⟩
   .exfalso;apply hb
    unfold hZ;rw[D4 nL,aAu hc];rfl
  .exact .inl heq
  .exfalso;apply hb
   unfold hZ;rw[Ke (by omega)];rfl
 have kept:∀b kb,b<h.length->cs[b]? =some .mB->h[b]? =some kb->∃Bb sb eb,π b=some (Bb,sb,aj.size kb,eb)/\sb+aj.size kb<=eb/\
   (∀i,sb<=i->i<eb->(cl w' Bb i).isSome=true/\fz w' Bb i=false)/\(∀j,j<aj.size kb->∃v,cl w' Bb (sb+j)=some v/\(aj.get kb j).rel π v)/\∀i,sb<=i->i<eb->Bb<w.heap.size/\¬Ds π h.length (Tn cs) Bb i:=λb kb nL hc hkb=>by
  have hzb:hZ (h.map some) b=some (aj.size kb):=by rw[QD,hkb];rfl
  obtain⟨Bb,sb,eb,p1,p2,p3,p4⟩:=hH.hp b _ hzb
  have hnf:∀i,sb<=i->i<eb->Bb<w.heap.size/\¬Ds π h.length (Tn cs) Bb i:=λi i1 i2=>by
   refine⟨ace (p3 i i1 i2).1,?_⟩;rintro ⟨b2,s2,q2,e2,FA,hd2,hp2,j1,j2⟩
   have mC:b≠b2:=λe=>by subst e;exact hd2 hc
   have hz2:hZ (h.map some) b2≠none:=by
    rw[QD,kR FA];simp
   exact hH.dj b b2 Bb sb _ eb s2 q2 e2 mC (by rw[hzb];simp) hz2 p1 hp2 i i1 i2 j1 j2
  refine⟨Bb,sb,eb,p1,p2,λi i1 i2=> ?_,λj hj=> ?_,hnf⟩
  .obtain⟨hB,hn⟩:=hnf i i1 i2;rw[hfr.cl hB hn,hfr.fz hB];exact p3 i i1 i2
  .obtain⟨v,hv1,hv2⟩:=p4 j hj;obtain⟨hB,hn⟩:=hnf (sb+j) (by omega) (by omega);refine⟨v,by rw[hfr.cl hB hn];exact hv1,?_⟩;rw[aDW hkb hj] at hv2;exact hv2
 have apart:∀b kb Bb sb qb eb,b<h.length->cs[b]? =some .mB->h[b]? =some kb->π b=some (Bb,sb,qb,eb)->Bb=B->∀i,sb<=i->i<eb->s<=i->i<e->False:=λb kb Bb sb qb eb nL hc hkb hpb hBB i i1 i2 i3 i4=>by
  obtain⟨B1,s1,e1,q1,_,_,_,q5⟩:=kept b kb nL hc hkb;rw[hpb] at q1;cases q1;obtain⟨hB,hn⟩:=q5 i i1 i2;rcases hpl with hpl| ⟨b2,s2,q2,e2,FA,hc2,hp2,j1,j2⟩
  .omega
  .apply hn
   rw[hBB];exact⟨b2,s2,q2,e2,FA,by unfold Tn;rw[hc2];simp,hp2,by omega,by omega⟩
 refine⟨AA π h.length (B,s,aj.size k,e),v,rfl,hx,hv _ hx ayJ,⟨ham,λb B1 s1 q1 e1 hz hp BK=> ?_,λb n hz=> ?_,λb b' B1 s1 q1 e1 s2 q2 e2 mC hz uY hp vm i i1 i2 i3 i4=> ?_⟩,hfr,λb hb=> ?_,λb B1 s1 q1 e1 a3v hb hB i i1 i2=> ?_⟩
 .rcases live b hz with rfl| ⟨nL,hc,kb,hkb,_⟩
  .rw[ayJ] at hp;cases hp;exact hlb BK
  .rw[ag0 b (by omega)] at hp;exact hH.lb b B1 s1 q1 e1 (by rw[QD,hkb];simp) hp BK
 .rcases live b (by rw[hz];simp) with rfl| ⟨nL,hc,kb,hkb,hgb⟩
  .rw[aaB a09] at hz;cases hz;refine⟨B,s,e,ayJ,hle,qy,λj hj=> ?_⟩;obtain⟨v,hv1,hv2⟩:=hk j hj;refine⟨v,hv1,?_⟩;rw[agX a09 hj];exact CV.dM hx _ _ hv2
  .rw[aaB hgb] at hz;cases hz;obtain⟨Bb,sb,eb,p1,p2,p3,p4,_⟩:=kept b kb nL hc hkb;refine⟨Bb,sb,eb,by rw[ag0 b (by omega)];exact p1,p2,p3,λj hj=> ?_⟩;obtain⟨v,hv1,hv2⟩:=p4 j hj;refine⟨v,hv1,?_⟩;rw[agX hgb hj];exact CV.dM hx _ _ hv2
 .rcases live b hz with rfl| ⟨nL,hc,kb,hkb,_⟩
  .rcases live b' uY with rfl| ⟨a1a,hc',kb',aYj,_⟩
   .exact mC rfl
   .rw[ayJ] at hp;cases hp;rw[ag0 b' (by omega)] at vm;exact apart b' kb' _ _ _ _ a1a hc' aYj vm rfl i i3 i4 i1 i2
  .rw[ag0 b (by omega)] at hp;rcases live b' uY with rfl| ⟨a1a,hc',kb',aYj,_⟩
   .rw[ayJ] at vm;cases vm;exact apart b kb _ _ _ _ nL hc hkb hp rfl i i1 i2 i3 i4
   .rw[ag0 b' (by omega)] at vm;have hz1:hZ (h.map some) b≠none:=by rw[QD,hkb];simp
    have hz2:hZ (h.map some) b'≠none:=by rw[QD,aYj];simp
    exact hH.dj b b' B1 s1 q1 e1 s2 q2 e2 mC hz1 hz2 hp vm i i1 i2 i3 i4
 .show b<h.length+1;by_cases e:b=h.length
  .omega
  .rw[ag0 b e] at hb;have:=kr b hb;omega
 .by_cases e':b=h.length
  .subst e';rw[ayJ] at hb;cases hb;rcases hpl with hpl| ⟨b2,s2,q2,e2,FA,hc2,hp2,j1,j2⟩
   .omega
   .exact⟨b2,s2,q2,e2,FA,by unfold Tn;rw[hc2];simp,hp2,by omega,by omega⟩
  .rw[ag0 b e'] at hb;have:=kr b (by rw[hb];simp);omega
end Go.Ab
namespace Go.Proofs.YtldgljclcgaibaaGreat
open Go.RowKit Go.Lib Go.Ab
theorem aaG {P:Program}(w:World)(dT sT ty e:TypeId)(z b o aS4 a3C:Nat)(a:Addr)(aNF a1b:Nat)(cs:List Value)(hu:P.underlying dT=some (.slice e))(hz:iZ P e=some z)(hn:cs.length=Nat.min aNF aS4*z)
  (a3D:∀j v,cs[j]? =some v->w.cell? (a.add j)=some v)(hc:∀j,j<cs.length->(w.cell? ⟨b,o+j,none⟩).isSome=true)(hf:∀j,j<cs.length->w.frozen? ⟨b,o+j,none⟩=false)(h1:∀v∈cs,v.oneCell'=true):
  (Builtin.copy_ #[dT,sT] ty #[.slice (some ⟨b,o,none⟩) aS4 a3C,.slice (some a) aNF a1b]).run P w=.ok (goInt (Nat.min aNF aS4)) (w.setCells b o cs):=by
 have hl:=run_firstCells_some (P:=P) w z (Nat.min aNF aS4) a aNF a1b cs hn a3D;have hst:=run_storeCells_cells (P:=P) b o cs 0 w (by simpa using hc) (by simpa using hf) h1;simp[Builtin.copy_,run_underlying hu,Builtin.lenOf,Ab.run_sizeOf hz,hl,hst]
theorem uT:Tryz.prog.underlying 140=some (.slice 42):=by kernel_rfl
theorem uE:iZ Tryz.prog 42=some 9:=by kernel_rfl
set_option maxHeartbeats 4000000 in
set_option maxRecDepth 100000 in
theorem aRa (b off n c i vb Du vc:Nat)(cs vs:List Value)(w:World)(hi:i<n)(Tl:n+1<=c)(hvb:vb=b->Du+9<=off∨off+(n+1)*9<=Du)(Er:cs.length=n*9)(hvl:vs.length=9)(a5W:n+1<=9223372036854775807)
  (Kn:∀j v,cs[j]? =some v->w.cell? ⟨b,off+j,none⟩=some v)(hsp:∀j,j<(n+1)*9->(w.cell? ⟨b,off+j,none⟩).isSome=true)(hfz:∀j,j<(n+1)*9->w.frozen? ⟨b,off+j,none⟩=false)
  (hvs:∀j v,vs[j]? =some v->w.cell? ⟨vb,Du+j,none⟩=some v)(h1c:∀v∈cs,v.oneCell'=true)(h1v:∀v∈vs,v.oneCell'=true)
  (hov:∀cb,(callFunc 145 #[.slice (some ⟨vb,Du,none⟩) 1 vc,.slice (some ⟨b,off+(i+1)*9,none⟩) (n-i) cb]).run Tryz.prog w=.ok (.value (.bool false)) w):
  Calls Tryz.prog 97 #[.slice (some ⟨b,off,none⟩) n c,.int .i64 i,.slice (some ⟨vb,Du,none⟩) 1 vc] w λe w'=>
   e=.returned (.slice (some ⟨b,off,none⟩) (n+1) c)/\w'=(w.drew.setCells b (off+(i+1)*9) (cs.drop (i*9))).setCells b (off+i*9) vs:=by
 have mixed:=mixed;have hz2:¬((i:Int)=(n:Int)):=by omega
 have hdl:(cs.drop (i*9)).length=(n-i)*9:=by rw[atg,Er];omega
 have hw1:IntKind.i64.wrap ((i:Int)+1)=(i:Int)+1:=by rw[IntKind.wrap_i64];omega
 have hw2:IntKind.i64.wrap ((n:Int)+1)=(n:Int)+1:=by rw[IntKind.wrap_i64];omega
 have hb1:(0:Int)<=(i:Int)+1:=by omega
 have hin:i<=n:=by omega
 have htn:((i:Int)+1).toNat=i+1:=by omega
 have FA:¬(c=i+1):=by omega
 have hb3:(i:Int)<=(n:Int)+1:=by omega
 have hb4:¬(c=i):=by omega
 have hb5:¬((c:Int)<(n:Int)+1):=by omega
 have a1c:∀ty dc sc,(Builtin.copy_ #[140,140] ty #[.slice (some ⟨b,off+(i+1)*9,none⟩) (n-i) dc,.slice (some ⟨b,off+i*9,none⟩) (n+1-i) sc]).run Tryz.prog w.drew=.ok (goInt (Nat.min (n+1-i) (n-i))) (w.drew.setCells b (off+(i+1)*9) (cs.drop (i*9))):=λty dc sc=>
  aaG w.drew _ _ ty 42 9 b (off+(i+1)*9) (n-i) dc ⟨b,off+i*9,none⟩ (n+1-i) sc (cs.drop (i*9)) uT uE (by rw[hdl];simp only[Nat.min_def];split<;>omega)
   (λj v hj=>by rw[Addr.add_lit,Cc];exact Kn (i*9+j) v (by rwa [Te] at hj))
   (λj hj=>by rw[Cc];exact hsp _ (by omega)) (λj hj=>by rw[Cc];exact hfz _ (by omega)) (λv hv=>h1c v (List.mem_of_mem_drop hv))
 obtain⟨W1,hW1⟩:∃W1,W1=w.drew.setCells b (off+(i+1)*9) (cs.drop (i*9)):=⟨_,rfl⟩
 have a3E:∀k,k<(n+1)*9->(W1.cell? ⟨b,off+k,none⟩).isSome=true:=λk hk=>by
  rw[hW1];exact Go.Proofs.isSome_setCells b _ _ _ (λj hj=>by rw[Cc];exact hsp _ (by omega)) _ (hsp k hk)
 have a3F:∀(W:World),(∀x,W.cell? x=W1.cell? x)->(∀x,W.frozen? x=W1.frozen? x)->∀ty dc,(Builtin.copy_ #[140,140] ty #[.slice (some ⟨b,off+i*9,none⟩) (n+1-i) dc,.slice (some ⟨vb,Du,none⟩) 1 vc]).run Tryz.prog W=.ok (goInt (Nat.min 1 (n+1-i))) (W.setCells b (off+i*9) vs):=λW hWc hWf ty dc=>
  aaG W _ _ ty 42 9 b (off+i*9) (n+1-i) dc ⟨vb,Du,none⟩ 1 vc vs uT uE (by rw[hvl];simp only[Nat.min_def];split<;>omega)
   (λj v hj=>by
    have hj9:=(lL.1 hj).1
    rw[Addr.add_lit,hWc,hW1,World.cell?_setCells_out b _ _ _ _ (λh _=>by
     have:=hvb h;show Du+j<_∨_<=Du+j;omega)]
    exact hvs j v hj)
   (λj hj=>by rw[hWc,Cc];exact a3E _ (by omega)) (λj hj=>by rw[hWf,hW1,World.frozen?_setCells,Cc];exact hfz _ (by omega)) h1v
 rw[<-hW1] at a1c;go_enter Tryz.func97,Tryz.ntmps97
 go_wp2_with (simp only[hov])
 go_region_law_o (refine step_copy_runI rfl _ _ 140 140 rfl _ _ (by simp[Act.eval,Act.put]) (by simp[Act.eval,Act.put]) (a1c _ _ _) ?_)
 go_wp2_with (at_builtin;refine wpList_copy_runI _ rfl _ _ 140 140 rfl _ _ rfl rfl (a3F _ (λ_=>rfl) (λ_=>rfl) _ _) ?_)
 go_ret
 first|exact⟨rfl,rfl⟩|exact⟨rfl,by rw[hW1]⟩
set_option maxHeartbeats 4000000 in
set_option maxRecDepth 100000 in
theorem aNG (base:Option Addr)(n c vb Du vc:Nat)(w w2:World)(v2:Value)
  (hrz:∀ty,(Builtin.append_ #[140,140] ty #[.slice base n c,.slice (some ⟨vb,Du,none⟩) 1 vc]).run Tryz.prog w=.ok v2 w2):
  Calls Tryz.prog 97 #[.slice base n c,.int .i64 n,.slice (some ⟨vb,Du,none⟩) 1 vc] w λe w'=>e=.returned v2/\w'=w2:=by
 have mixed:=mixed;go_enter Tryz.func97,Tryz.ntmps97
 go_wp2_with (at_builtin;refine Lib.wpList_append_run _ rfl _ _ _ _ rfl _ _ rfl rfl _ _ (hrz _) ?_)
 all_goals (go_ret;exact⟨rfl,rfl⟩)
theorem iE:∃i z,Tryz.prog.info? 42=some i/\i.zero=some z/\i.size=9/\i.bytes=72/\z.cells.size=9:=by
 have h:(Tryz.prog.info? 42).map (λi=>(i.size,i.bytes,(i.zero.map λz=>z.cells.size)))=some (9,72,some 9):=by kernel_rfl
 cases hi:Tryz.prog.info? 42 with
 |none=>rw[hi] at h;cases h
 |some i=>
  rw[hi] at h;simp only[Tg,iI,rm] at h;obtain⟨h1,h2,h3⟩:=h;cases hz:i.zero with
  |none=>rw[hz] at h3;cases h3
  |some z=>rw[hz] at h3;exact⟨i,z,rfl,hz,h1,h2,by simpa using h3⟩
theorem uI:Tryz.prog.underlying 3=some (.int .i64):=by kernel_rfl
set_option maxHeartbeats 4000000 in
set_option maxRecDepth 100000 in
theorem aT0 (b off n c i vb Du vc:Nat)(cs vs:List Value)(w:World)(hi:i<n)(hnc:n<=c)(Tl:c<n+1)(aAg:(n+1)*72<=140737488355328)(Er:cs.length=n*9)(hvl:vs.length=9)
  (Kn:∀j v,cs[j]? =some v->w.cell? ⟨b,off+j,none⟩=some v)(hvs:∀j v,vs[j]? =some v->w.cell? ⟨vb,Du+j,none⟩=some v)(h1c:∀v∈cs,v.oneCell'=true)(h1v:∀v∈vs,v.oneCell'=true):
  ∃G Dv,n+1<=G/\Dv.size=G*9/\(∀j v,j<i*9->cs[j]? =some v->Dv[j]? =some v)/\
  Calls Tryz.prog 97 #[.slice (some ⟨b,off,none⟩) n c,.int .i64 i,.slice (some ⟨vb,Du,none⟩) 1 vc] w λe w'=>
   e=.returned (.slice (some ⟨w.heap.size,0,none⟩) (n+1) G)/\
   w'=(((w.alloc (.cells Dv 42)).drew.setCells w.heap.size (i*9) vs).drew).setCells w.heap.size ((i+1)*9) (cs.drop (i*9)):=by
 have mixed:=mixed;obtain⟨i0,z0,hi0,N5,hzs,hzb,hzl⟩:=iE;have hz2:¬((i:Int)=(n:Int)):=by omega
 have hz3:(c:Int)<(n:Int)+1:=by omega
 have hbw:b<w.heap.size:=block_lt_of_cell (Kn 0 _ (kR (by omega)));have hvw:vb<w.heap.size:=block_lt_of_cell (hvs 0 _ (kR (by omega)));have hkk:(n:Int)+1-(i:Int)=((n+1-i:Nat):Int):=by omega
 have hik:i+(n+1-i)=n+1:=by omega
 have htl:(cs.take (i*9)).length=i*9:=by rw[List.length_take];omega
 have hold:(Builtin.firstCells i0.size i (.slice (some ⟨b,off,none⟩) i c)).run Tryz.prog w.drew=.ok (cs.take (i*9)).toArray w.drew:=by
  rw[hzs]
  exact run_firstCells_some w.drew 9 i ⟨b,off,none⟩ i c (cs.take (i*9)) htl (λj v hj=>by
   rw[Addr.add_lit];rw[ab5] at hj;split at hj
   .exact Kn j v hj
   .cases hj)
 have hrz:∀ty,(Builtin.append_ #[140,3] ty #[.slice (some ⟨b,off,none⟩) i c,.int .i64 ((n:Int)+1-(i:Int))]).run Tryz.prog w=
   .ok (.slice (some ⟨w.heap.size,0,none⟩) (n+1) (grownCap w (n+1) c 42)) (w.drew.alloc (.cells ((cs.take (i*9)).toArray++Builtin.zeroCells z0.cells (n+1-i)++Builtin.zeroCells z0.cells (grownCap w (n+1) c 42-(n+1))) 42)):=λty=>by
  have h:=Lib.run_append_grow_zeros w 140 3 ty 42 i0 _ .i64 .i64 uT uI hi0 N5 (some ⟨b,off,none⟩) i c (cs.take (i*9)) hold (n+1-i) (by omega) (by omega) (by omega) (by omega) (by rw[hzb];omega) (by rw[hzb,hik];exact growslice_fits Tl aAg);rw[hik] at h;rw[hkk];exact h
 have hGn:n+1<=grownCap w (n+1) c 42:=grownCap_ge w _ _ _;obtain⟨G,hG⟩:∃G,G=grownCap w (n+1) c 42:=⟨_,rfl⟩;obtain⟨Dv,aS5⟩:∃Dv:Array Value,Dv=(cs.take (i*9)).toArray++Builtin.zeroCells z0.cells (n+1-i)++Builtin.zeroCells z0.cells (G-(n+1)):=⟨_,rfl⟩;rw[<-hG] at hrz hGn;rw[<-aS5] at hrz
 have hRs:Dv.size=G*9:=by
  rw[aS5];simp only[Array.size_append,List.size_toArray,htl,size_zeroCells,hzl];omega
 refine⟨G,Dv,hGn,hRs,λj v hj hv=> ?_,?_⟩
 .rw[aS5,Array.getElem?_append_left (by simp[htl];omega),Array.getElem?_append_left (by simp[htl];omega)];simp only[List.getElem?_toArray];rw[ab5,if_pos hj];exact hv
 have hRl:(n+1)*9<=Dv.size:=by rw[hRs];exact wK _ hGn
 obtain⟨W1,hW1⟩:∃W1,W1=w.drew.alloc (.cells Dv 42):=⟨_,rfl⟩;rw[<-hW1] at hrz
 have hN:∀j,j<(n+1)*9->(W1.cell? ⟨w.heap.size,j,none⟩).isSome=true:=λj hj=>by
  rw[hW1,World.cell?_alloc_at (w:=w.drew) Dv _ w.heap.size j rfl,aiX (by omega)];rfl
 have hNf:∀j,W1.frozen? ⟨w.heap.size,j,none⟩=false:=λj=>by rw[hW1];exact World.frozen?_alloc_at (w:=w.drew) Dv _ w.heap.size j rfl
 have hOb:∀j v,w.cell? ⟨b,j,none⟩=some v->W1.cell? ⟨b,j,none⟩=some v:=λj v h=>by rw[hW1,World.cell?_alloc_past (w:=w.drew) _ b j hbw];exact h
 have hOv:∀j v,w.cell? ⟨vb,j,none⟩=some v->W1.cell? ⟨vb,j,none⟩=some v:=λj v h=>by rw[hW1,World.cell?_alloc_past (w:=w.drew) _ vb j hvw];exact h
 have a3G:∀(W:World),(∀x,W.cell? x=W1.cell? x)->(∀x,W.frozen? x=W1.frozen? x)->∀ty dc,(Builtin.copy_ #[140,140] ty #[.slice (some ⟨w.heap.size,i*9,none⟩) (n+1-i) dc,.slice (some ⟨vb,Du,none⟩) 1 vc]).run Tryz.prog W=.ok (goInt (Nat.min 1 (n+1-i))) (W.setCells w.heap.size (i*9) vs):=λW hWc hWf ty dc=>
  aaG W _ _ ty 42 9 w.heap.size (i*9) (n+1-i) dc ⟨vb,Du,none⟩ 1 vc vs uT uE (by rw[hvl];simp only[Nat.min_def];split<;>omega)
   (λj v hj=>by rw[Addr.add_lit,hWc];exact hOv _ v (hvs j v hj))
   (λj hj=>by rw[hWc];exact hN _ (by omega)) (λj hj=>by rw[hWf];exact hNf _) h1v
 have hGi:¬(G=i):=by omega
 have a5X:¬(G=i+1):=by omega
 have hci:¬(c=i):=by omega
 have hbN:b≠w.heap.size:=by omega
 have hdl:(cs.drop (i*9)).length=(n-i)*9:=by rw[atg,Er];omega
 have a1d:∀(W:World),(∀x,W.cell? x=(W1.setCells w.heap.size (i*9) vs).cell? x)->(∀x,W.frozen? x=(W1.setCells w.heap.size (i*9) vs).frozen? x)->∀ty dc sc,(Builtin.copy_ #[140,140] ty #[.slice (some ⟨w.heap.size,(i+1)*9,none⟩) (n-i) dc,.slice (some ⟨b,off+i*9,none⟩) (n-i) sc]).run Tryz.prog W=.ok (goInt (Nat.min (n-i) (n-i))) (W.setCells w.heap.size ((i+1)*9) (cs.drop (i*9))):=λW hWc hWf ty dc sc=>
  aaG W _ _ ty 42 9 w.heap.size ((i+1)*9) (n-i) dc ⟨b,off+i*9,none⟩ (n-i) sc (cs.drop (i*9)) uT uE (by rw[hdl];simp only[Nat.min_def];split<;>omega)
   (λj v hj=>by
    rw[Addr.add_lit,hWc,World.cell?_setCells_out _ _ _ _ _ (λh _=>absurd h hbN),Cc];exact hOb _ v (Kn (i*9+j) v (by rwa [Te] at hj)))
   (λj hj=>by rw[hWc];exact Go.Proofs.isSome_setCells _ _ _ _ (λt ht=>hN _ (by omega)) _ (hN _ (by omega)))
   (λj hj=>by rw[hWf,World.frozen?_setCells];exact hNf _) (λv hv=>h1c v (List.mem_of_mem_drop hv))
 subst hW1;have hE1:∀x,((w.alloc (.cells Dv 42)).drew).cell? x=(w.drew.alloc (.cells Dv 42)).cell? x:=λx=>rfl;have hE2:∀x,((w.alloc (.cells Dv 42)).drew).frozen? x=(w.drew.alloc (.cells Dv 42)).frozen? x:=λx=>rfl;have hF1:∀x,(((w.alloc (.cells Dv 42)).drew.setCells w.heap.size (i*9) vs).drew).cell? x=((w.drew.alloc (.cells Dv 42)).setCells w.heap.size (i*9) vs).cell? x:=λx=>rfl;have hF2:∀x,(((w.alloc (.cells Dv 42)).drew.setCells w.heap.size (i*9) vs).drew).frozen? x=((w.drew.alloc (.cells Dv 42)).setCells w.heap.size (i*9) vs).frozen? x:=λx=>rfl;have hw1:IntKind.i64.wrap ((i:Int)+1)=(i:Int)+1:=by rw[IntKind.wrap_i64];omega
 have hw2:IntKind.i64.wrap ((n:Int)+1)=(n:Int)+1:=by rw[IntKind.wrap_i64];omega
 have hw3:IntKind.i64.wrap ((n:Int)+1-(i:Int))=(n:Int)+1-(i:Int):=by rw[IntKind.wrap_i64];omega
 have hb1:(0:Int)<=(i:Int)+1:=by omega
 have hin:i<=n:=by omega
 have htn:((i:Int)+1).toNat=i+1:=by omega
 have hb3:(i:Int)<=(n:Int):=by omega
 clear hkk hik hold aS5 hG hRl hRs
 go_enter Tryz.func97,Tryz.ntmps97
 go_wp2_with (first
  |(at_builtin;refine Lib.wpList_append_run _ rfl _ _ _ _ rfl _ _ rfl rfl _ _ (hrz _) ?_)
  |(at_builtin;refine wpList_copy_runI _ rfl _ _ 140 140 rfl _ _ rfl rfl (a3G _ hE1 hE2 _ _) ?_)
  |(at_builtin;refine wpList_copy_runI _ rfl _ _ 140 140 rfl _ _ rfl rfl (a1d _ (λ_=>rfl) (λ_=>rfl) _ _ _) ?_))
 go_region_law_o (refine step_copy_runI rfl _ _ 140 140 rfl (.slice (some ⟨w.heap.size,(i+1)*9,none⟩) (n-i) (G-(i+1))) (.slice (some ⟨b,off+i*9,none⟩) (n-i) (c-i)) (by simp[Act.eval,Act.put]) (by simp[Act.eval,Act.put]) (a1d _ hF1 hF2 3 (G-(i+1)) (c-i)) ?_)
 go_wp2
 go_ret
 exact⟨rfl,rfl⟩
theorem avr {P:Program}{ops:Array Oper}{o:Oper}{a:Act}{w:World}{K:Act->World->Prop}{Q:Exit->Act->World->Prop}{E:Prop}
  (hg:o.guard=none)(d x:Operand)(dT sT:TypeId)(qM:o.op=Op.call {callee:=Callee.builtin Builtin.append,args:=#[d,x],argTypes:=#[dT,sT]})
  (v u:Value)(hd:a.eval d=v)(hx:a.eval x=u){v':Value}{w':World}(hr:(Builtin.append_ #[dT,sT] o.type #[v,u]).run P w=.ok v' w')(hK:K (a.put o.dst v') w'):
  if Region.wanted o (yielded ops a.tmps)=true then Oper.wp P o a w K Q else E:=by
 have hw:Region.wanted o (yielded ops a.tmps)=true:=by simp[Region.wanted,hg]
 rw[if_pos hw];unfold Oper.wp;simp[execOp,qM,resolve,invoke,builtin,hd,hx,hr,Result.andThen]
 exact hK
theorem aFF {P:Program}(w:World){o:Oper}{a:Act}{K:Act->World->Prop}{Q:Exit->Act->World->Prop}(d:Operand)(t:TypeId)
  (ho:o.op=.call {callee:=.builtin .clear,args:=#[d],argTypes:=#[t]})(v:Value)(hd:a.eval d=v){v':Value}{w':World}
  (hr:(Builtin.clear_ #[t] o.type #[v]).run P w=.ok v' w')(h:K (a.put o.dst v') w'):o.wp P a w K Q:=by
 unfold Oper.wp execOp;simp only[ho,resolve,invoke,builtin,Sem.run_bind,Sem.run_pure,Result.andThen_ok,List.map_toArray,List.map_cons,List.map_nil,hd,hr];exact h
theorem atA {P:Program}(w:World){ops:Array Oper}{rest:List Oper}{o:Oper}{a:Act}{Q:Exit->Act->World->Prop}(hgd:o.guard=none)(d:Operand)(t:TypeId)
  (ho:o.op=.call {callee:=.builtin .clear,args:=#[d],argTypes:=#[t]})(v:Value)(hd:a.eval d=v){v':Value}{w':World}
  (hr:(Builtin.clear_ #[t] o.type #[v]).run P w=.ok v' w')(h:wpList P ops Q rest (a.put o.dst v') w'):wpList P ops Q (o::rest) a w:=
 wpList_plain hgd λ_ hK=>aFF w d t ho v hd hr (hK _ _ h)
set_option maxHeartbeats 4000000 in
set_option maxRecDepth 100000 in
theorem aJp (base:Option Addr)(n c i:Nat)(w:World)(hi:i<=n)(hc:n<=c):
  Calls Tryz.prog 98 #[.slice base n c,.int .i64 i,.int .i64 i] w λe w'=>e=.returned (.slice base n c)/\w'=w:=by
 have mixed:=mixed;have h1:(i:Int)<=(n:Int):=by omega
 have h2:(n:Int)<=(c:Int):=by omega
 go_enter Tryz.func98,Tryz.ntmps98
 go_wp2
 all_goals (go_ret;exact⟨rfl,rfl⟩)
set_option maxHeartbeats 4000000 in
set_option maxRecDepth 100000 in
theorem aT1 (b off n c i j:Nat)(w w2 w3:World)(hij:i<j)(hj:j<=n)(hc:n<=c)
  (hrz:∀ty,(Builtin.append_ #[140,140] ty #[.slice (some ⟨b,off,none⟩) i c,.slice (some (if c=j then⟨b,off,none⟩ else⟨b,off+j*9,none⟩)) (n-j) (c-j)]).run Tryz.prog w.drew=.ok (.slice (some ⟨b,off,none⟩) (i+(n-j)) c) w2)
  (Er:∀ty,(Builtin.clear_ #[140] ty #[.slice (some ⟨b,off+(i+(n-j))*9,none⟩) (n-(i+(n-j))) (c-(i+(n-j)))]).run Tryz.prog w2=.ok (.tuple #[]) w3):
  Calls Tryz.prog 98 #[.slice (some ⟨b,off,none⟩) n c,.int .i64 i,.int .i64 j] w λe w'=>e=.returned (.slice (some ⟨b,off,none⟩) (i+(n-j)) c)/\w'=w3:=by
 have mixed:=mixed;have h0:¬((i:Int)=(j:Int)):=by omega
 have h1:(i:Int)<=(j:Int):=by omega
 have h2:(j:Int)<=(n:Int):=by omega
 have h3:(n:Int)<=(c:Int):=by omega
 have h4:(i:Int)<=(c:Int):=by omega
 have h5:¬(c=i+(n-j)):=by omega
 go_enter Tryz.func98,Tryz.ntmps98
 go_wp2
 go_region_law_o (refine avr rfl _ _ 140 140 rfl _ _ (by simp[Act.eval,Act.put]) (by simp[Act.eval,Act.put];split<;>rfl) (hrz _) ?_)
 go_wp2_with (at_builtin;refine atA _ rfl _ 140 rfl _ rfl (Er _) ?_)
 all_goals (go_ret;exact⟨rfl,rfl⟩)
set_option maxHeartbeats 4000000 in
set_option maxRecDepth 100000 in
theorem aRb (w:World):Calls Tryz.prog 166 #[.slice none 0 0] w λe w'=>e=.returned (.slice none 0 0)/\w'=w:=by
 have mixed:=mixed;have heq:∀w:World,(Go.binOp .eql 140 (.slice none 0 0) (.slice none 0 0)).run Tryz.prog w=.ok (.bool true) w:=λw=>by kernel_rfl
 go_enter Tryz.func166,Tryz.ntmps166
 go_wp2
 go_ret
 exact⟨rfl,rfl⟩
set_option maxHeartbeats 4000000 in
set_option maxRecDepth 100000 in
theorem aAv (a:Addr)(n c:Nat)(w w2:World)(v2:Value)
  (hrz:∀ty,(Builtin.append_ #[140,140] ty #[.slice (some ⟨w.heap.size,0,none⟩) 0 0,.slice (some a) n c]).run Tryz.prog (w.alloc (.cells #[] 42))=.ok v2 w2):
  Calls Tryz.prog 166 #[.slice (some a) n c] w λe w'=>e=.returned v2/\w'=w2:=by
 have mixed:=mixed;have heq:∀w:World,(Go.binOp .eql 140 (.slice (some a) n c) (.slice none 0 0)).run Tryz.prog w=.ok (.bool false) w:=λw=>by kernel_rfl
 go_enter Tryz.func166,Tryz.ntmps166
 go_wp2_with (at_builtin;refine Lib.wpList_append_run _ rfl _ _ _ _ rfl _ _ rfl rfl _ _ (hrz _) ?_)
 go_ret
 exact⟨rfl,rfl⟩
end Go.Proofs.YtldgljclcgaibaaGreat
