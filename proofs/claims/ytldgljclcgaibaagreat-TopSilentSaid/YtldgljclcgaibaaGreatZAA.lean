/-
  Parts of the proof: Ab
-/
import Derived.Orders
import Derived.KernelRfl
import Derived.LoopN
open Nat renaming beq→ww,ble→wd,blt→v6
set_option linter.all false
noncomputable section
namespace Go.Ab
set_option linter.defProp false
def aTI:=@Array.getElem?_setIfInBounds_ne
def aqV:=@Int.mul_le_mul_of_nonneg_right
def aYs:=@Array.eq_empty_of_size_eq_zero
def aqW:=@Array.getD_eq_getD_getElem?
def aen:=@List.getElem?_append_right
def aAk:=@Int.tdiv_eq_ediv_of_nonneg
def me:=@List.getElem?_eq_some_iff
def UT:=@List.getElem?_append_left
def ai8:=@Array.getElem?_eq_getElem
def kT:=@List.getElem?_eq_getElem
def Wy:=@decide_eq_false_iff_not
def aEF:=@List.getElem?_cons_zero
def aK5:=@List.length_eq_zero_iff
def nj:=@Option.map_eq_some_iff
def att:=@Array.getElem?_eq_none
def aEG:=@Nat.dvd_of_mod_eq_zero
def oK:=@Nat.eq_of_beq_eq_true
def JN:=@List.getElem?_eq_none
def yb:=@Nat.le_of_ble_eq_true
def Wz:=@Array.getElem?_toList
def aca:=@Int.ediv_lt_of_lt_mul
def ayh:=@Int.mul_ediv_add_emod
def ayi:=@Nat.div_lt_iff_lt_mul
def ayj:=@List.mem_iff_getElem?
def aEH:=@Nat.ble_eq_true_of_le
def aK6:=@Array.getElem?_modify
def dQ:=@Int.ofNat_eq_natCast
def wL:=@Nat.mul_le_mul_right
def aEI:=@List.getElem?_zipIdx
def WA:=@Array.length_toList
def alH:=@beq_eq_false_iff_ne
def pP:=@of_decide_eq_false
def yc:=@Bool.false_eq_true
def LL:=@Bool.true_eq_false
def Te:=@List.getElem?_drop
def WB:=@Int.emod_lt_of_pos
def acb:=@Nat.eq_zero_or_pos
def acd:=@List.getElem?_take
def ayk:=@List.length_append
def agq:=@Bool.not_eq_false'
def aEJ:=@Nat.lt_of_lt_of_le
def eK:=@of_decide_eq_true
def j9:=@Option.some.injEq
def mf:=@decide_eq_true_eq
def oL:=@Bool.not_eq_true'
def Cb:=@List.getElem?_map
def Fh:=@Int.emod_eq_of_lt
def agr:=@Nat.lt_trichotomy
def ayl:=@List.append_assoc
def aEK:=@List.getElem?_set
def bR:=@Option.bind_some
def cq:=@Bool.and_eq_true
def LM:=@Option.getD_some
def LN:=@List.length_cons
def ace:=@List.any_eq_true
def alI:=@Array.toList_inj
def atu:=@List.length_drop
def aym:=@Nat.mod_eq_of_lt
def ayn:=@List.all_eq_true
def ayo:=@Int.ediv_le_self
def dw:=@decide_eq_false
def Eg:=@Int.ediv_nonneg
def OE:=@Option.some.inj
def Tf:=@Option.map_some
def acf:=@Int.emod_nonneg
def ags:=@List.length_map
def alJ:=@Bool.or_eq_true
def alK:=@ne_of_beq_false
def atv:=@Nat.mul_add_mod
def gF:=@decide_eq_true
def JO:=@Int.mul_nonneg
def OF:=@Int.mul_le_mul
def Ht:=@Bool.true_and
def rE:=@Prod.mk.injEq
def Cc:=@Nat.add_assoc
def Eh:=@false_implies
def LO:=@Bool.not_true
def aK7:=@Bool.or_false
def acg:=@List.mem_cons
def alL:=@Int.mul_assoc
def hI:=@Nat.zero_add
def ch:=@Nat.le_trans
def kC:=@Nat.add_zero
def mT:=@Sum.elim_inr
def pQ:=@Nat.lt_or_ge
def rF:=@Sum.elim_inl
def pV:=@Int.le_of_lt
def Fi:=@Int.mul_comm
def OG:=@Nat.beq_refl
def OH:=@decide_false
def agt:=@Int.lt_or_le
def OJ:=@true_implies
def OK:=@implies_true
def Tg:=@Nat.zero_mul
def ach:=@Nat.mul_comm
def AZ:=@Int.le_trans
def ayp:=@Int.le_total
def aEL:=@Int.zero_add
def atw:=@Nat.succ_mul
def eT:=@Nat.le_refl
def eZ:=@Int.le_refl
def qV:=@Nat.add_mul
def QE:=@decide_true
def Vt:=@Nat.one_mul
def agu:=@Int.add_mul
def bK:=@cond_false
def bD:=@cond_true
def QF:=@ge_iff_le
def cO:=@congrArg
def gG:=@if_false
def AK:=@true_and
def Cd:=@and_true
def lZ:=@if_true
inductive FV where
 |u
 |b (x:Bool)
 |i (k:IntKind) (n:Int)
 |s (x:ByteArray)
 |q (n:Nat) (g:Nat->Bool)
inductive Sz where
 |l (n:Nat)
 |s (n:Nat)
def Sz.val:Sz->Nat
 |.l n=>n
 |.s n=>n
def Sz.add:Sz->Sz->Sz
 |.l a,.l b=>.l (a+b)
 |a,b=>.s (a.val+b.val)
def Sz.least:Sz->Sz->Sz
 |.l a,.l b=>.l (Nat.min a b)
 |a,b=>.s (Nat.min a.val b.val)
def Sz.mul (a:Sz)(k:Nat):Sz:=
 match ww k 1 with
 |true=>a
 |false=>match a with
  |.l a=>.l (a*k)
  |.s a=>.s (a*k)
inductive cD where
 |k (c:Nat)
 |x (c i z:Nat)
def cD.val:cD->Nat
 |.k c=>c
 |.x c i z=>c+i*z
def cD.add:cD->Nat->cD
 |.k c,d=>.k (c+d)
 |.x c i z,d=>.x (c+d) i z
def cD.plus:cD->cD->cD
 |.k c,.k d=>.k (c+d)
 |.x c i z,.k d=>.x (c+d) i z
 |.k c,.x d i z=>.x (c+d) i z
 |.x c i z,.x d j y=>match ww z y with
  |true=>.x (c+d) (i+j) z
  |false=>.x 0 (c+i*z+(d+j*y)) 1
def cD.idx (o:cD)(j z n:Nat):cD:=
 match o with
 |.k c=>.x c j z
 |.x c i y=>match ww y (n*z) with
  |true=>.x c (i*n+j) z
  |false=>.x 0 (c+i*y+j*z) 1
def cD.aN0 (o:cD)(j z:Nat):cD:=
 match o with
 |.k c=>.x c j z
 |.x c i y=>match ww y z with
  |true=>.x c (i+j) z
  |false=>.x 0 (c+i*y+j*z) 1
inductive cS where
 |i (k:IntKind) (g:Nat->Int)
 |b (g:Nat->Bool)
 |s (g:Nat->ByteArray)
 |u
 |q (n:Nat->Nat) (g:Nat->Nat->Bool)
inductive CV where
 |f (v:FV)
 |ptr (b:Nat) (o:cD) (n:Nat)
 |ai9
 |sl (b:Nat) (o:cD) (len:Sz) (esz:Nat) (own:Bool)
 |nils
 |aTJ
 |aTK
 |cl (f b:Nat) (o:cD) (n:Nat)
 |fs (n z:Nat) (cols:List cS)
 |fp (l:List FV)
inductive Sg where
 |c (v:CV)
 |a (n:Sz) (cols:List cS)
abbrev af:=List Sg
inductive RV where
 |c (v:CV)
 |agg (b:af)
inductive AV where
 |r (v:RV)
 |tup (vs:List RV)
 |fn (f:Nat) (aeo:List RV)
 |WC
def WC:AV:=.WC
def udf:AV:=.tup []
def cS.at:cS->Nat->FV
 |.i k g,j=>.i k (g j)
 |.b g,j=>.b (g j)
 |.s g,j=>.s (g j)
 |.u,_=>.u
 |.q n g,j=>.q (n j) (g j)
def cS.shift (d:Nat):cS->cS
 |.i k g=>.i k λj=>g (d+j)
 |.b g=>.b λj=>g (d+j)
 |.s g=>.s λj=>g (d+j)
 |.u=>.u
 |.q n g=>.q (λj=>n (d+j)) λj=>g (d+j)
def cS.up (d:Nat):cS->cS
 |.i k g=>.i k λj=>g (j-d)
 |.b g=>.b λj=>g (j-d)
 |.s g=>.s λj=>g (j-d)
 |.u=>.u
 |.q n g=>.q (λj=>n (j-d)) λj=>g (j-d)
def cS.aTL (c:cS)(e:Nat)(v:CV):Option cS:=
 match c,v with
 |.i k g,.f (.i k' x)=>if k=k' then some (.i k λj=>cond (ww j e) x (g j)) else none
 |.b g,.f (.b x)=>some (.b λj=>cond (ww j e) x (g j))
 |.s g,.f (.s x)=>some (.s λj=>cond (ww j e) x (g j))
 |_,_=>none
def cS.mrg (p:Nat->Bool)(c d:cS):Option cS:=
 match c,d with
 |.i k g,.i k' h=>if k=k' then some (.i k λj=>cond (p j) (g j) (h j)) else none
 |.b g,.b h=>some (.b λj=>cond (p j) (g j) (h j))
 |.s g,.s h=>some (.s λj=>cond (p j) (g j) (h j))
 |_,_=>none
def avj (p:Nat->Bool):List cS->List cS->Option (List cS)
 | [],[]=>some []
 |c::cs,d::ds=>match cS.mrg p c d,avj p cs ds with
  |some e,some es=>some (e::es)
  |_,_=>none
 |_,_=>none
def Sg.size:Sg->Nat
 |.c _=>1
 |.a n cols=>n.val*cols.length
def Sg.get:Sg->Nat->CV
 |.c v,j=>match j with
  |0=>v
  |_+1=>.f .u
 |.a _ cols,j=>match cols[j%cols.length]? with
  |some q=>.f (q.at (j/cols.length))
  |none=>.f .u
def af.size:af->Nat
 | []=>0
 |s::l=>s.size+af.size l
def af.get:af->Nat->CV
 | [],_=>.f .u
 |s::l,j=>if j<s.size then s.get j else af.get l (j-s.size)
def af.list (b:af):List CV:=(List.range b.size).map b.get
def CV.fv:CV->FV
 |.f v=>v
 |_=>.u
def RV.bS:RV->af
 |.c v=>[.c v]
 |.agg b=>b
def shC (sh:Bool)(e:Nat)(cols:List cS):List cS:=
 match sh with
 |true=>cols.map (cS.shift e)
 |false=>cols
def aK8 (sh:Bool)(cols:List cS)(e om:Nat)(cE:Sz)(z:Nat):Option af:=
 match ww om 0&&ww (z%cols.length) 0 with
 |true=>some [.a (cE.mul (z/cols.length)) (shC sh e cols)]
 |false=>none
def rowsOf (sh:Bool)(cols:List cS)(e om:Nat)(cE:Sz)(z:Nat):Option af:=
 match cE with
 |.l n=>match ww n 1&&wd (om+z) cols.length with
  |true=>some (((cols.drop om).take z).map λq=>Sg.c (.f (q.at e)))
  |false=>aK8 sh cols e om (.l n) z
 |.s n=>aK8 sh cols e om (.s n) z
def WD:af->Nat->Option af
 | [],m=>match m with
  |0=>some []
  |_+1=>none
 |.c v::r,m=>match m with
  |0=>some []
  |m+1=>(WD r m).map (.c v:: ·)
 |.a n cols::r,m=>match m with
  |0=>some []
  |m+1=>match n with
   |.s _=>none
   |.l n=>match wd (n*cols.length) (m+1) with
    |true=>(WD r (m+1-n*cols.length)).map (.a (.l n) cols:: ·)
    |false=>rowsOf false cols 0 0 (.l 1) (m+1)
def nz:Nat->Bool
 |0=>false
 |_+1=>true
def alM:af->Nat->Sz->Nat->Option af
 | [],c,cE,z=>match cE with
  |.l n=>match ww (n*z) 0 with
   |true=>some []
   |false=>none
  |.s _=>none
 |.c v::r,c,cE,z=>match c with
  |0=>match cE with
   |.l n=>WD (.c v::r) (n*z)
   |.s _=>none
  |c+1=>alM r c cE z
 |.a n cols::r,c,cE,z=>match r with
  | []=>rowsOf (nz (c/cols.length)) cols (c/cols.length) (c%cols.length) cE z
  |_::_=>match n,cE with
   |.l n,.l m=>match wd (n*cols.length) c with
    |true=>alM r (c-n*cols.length) cE z
    |false=>match wd (c+m*z) (n*cols.length) with
     |true=>rowsOf (nz (c/cols.length)) cols (c/cols.length) (c%cols.length) cE z
     |false=>match c with
      |0=>WD (.a (.l n) cols::r) (m*z)
      |_+1=>none
   |_,_=>none
def elemOf (c i z zc:Nat):Nat:=
 match ww z zc with
 |true=>match c/zc with
  |0=>i
  |q+1=>q+1+i
 |false=>c/zc+i*(z/zc)
def aAl:af->Nat->Nat->Nat->Sz->Nat->Option (Bool×af)
 | [],_,_,_,_,_=>none
 |.c v::r,c,i,z,cE,y=>match c with
  |0=>(alM (.c v::r) (i*z) cE y).map λb=>(true,b)
  |c+1=>aAl r c i z cE y
 |.a n cols::r,c,i,z,cE,y=>match r with
  | []=>match ww (z%cols.length) 0 with
   |true=>(rowsOf true cols (elemOf c i z cols.length) (c%cols.length) cE y).map λb=>(true,b)
   |false=>none
  |_::_=>match n with
   |.l n=>match wd (n*cols.length) c with
    |true=>aAl r (c-n*cols.length) i z cE y
    |false=>match ww (z%cols.length) 0 with
     |true=>(rowsOf true cols (elemOf c i z cols.length) (c%cols.length) cE y).map λb=>(wd (c+i*z+cE.val*y) (n*cols.length),b)
     |false=>none
   |.s _=>none
def af.sub (b:af)(o:cD)(cE:Sz)(z:Nat):Option (Bool×af):=
 match o with
 |.k c=>(alM b c cE z).map λb=>(true,b)
 |.x c i y=>aAl b c i y cE z
def agv:List cS->Nat->Nat->CV->Option (List cS)
 | [],_,_,_=>none
 |c::cs,0,e,v=>(cS.aTL c e v).map (·::cs)
 |c::cs,j+1,e,v=>(agv cs j e v).map (c:: ·)
def DT (zc:Nat):List cS->Nat->Nat->af->Option (List cS)
 |cols,_,_,[]=>some cols
 |cols,e,om,.c v::r=>match agv cols om e v with
  |some ec=>match ww (om+1) zc with
   |true=>DT zc ec (e+1) 0 r
   |false=>DT zc ec e (om+1) r
  |none=>none
 |_,_,_,.a _ _::_=>none
def aEM (cols:List cS)(e om:Nat)(v:af):Option (List cS):=
 match v with
 | [.a m ec]=>match ww om 0&&ww cols.length ec.length with
  |true=>avj (λj=>wd e j&&v6 j (e+m.val)) (ec.map (cS.up e)) cols
  |false=>none
 |v=>DT cols.length cols e om v
def fj:af->af->Option af
 |b,[]=>some b
 |.c _::r,.c y::vs=>(fj r vs).map (.c y:: ·)
 |.a (.l n) cols::r,.a (.l m) ec::vs=>match ww n m&&ww cols.length ec.length with
  |true=>(fj r vs).map (.a (.l m) ec:: ·)
  |false=>none
 |_,_=>none
def aK9 (n:Sz)(cols:List cS)(v:af):Bool:=
 match n,v with
 |.l n,[.a (.l m) ec]=>ww n m&&ww cols.length ec.length
 |_,_=>false
def alN:af->Nat->af->Option af
 | [],_,v=>match v with
  | []=>some []
  |_::_=>none
 |.c x::r,c,v=>match c with
  |0=>fj (.c x::r) v
  |c+1=>(alN r c v).map (.c x:: ·)
 |.a n cols::r,c,v=>match r with
  | []=>match ww c 0&&aK9 n cols v with
   |true=>some v
   |false=>(aEM cols (c/cols.length) (c%cols.length) v).map λcols=>[.a n cols]
  |_::_=>match n with
   |.s _=>none
   |.l n=>match wd (n*cols.length) c with
    |true=>(alN r (c-n*cols.length) v).map (.a (.l n) cols:: ·)
    |false=>match ww c 0&&aK9 (.l n) cols v with
     |true=>some (v++r)
     |false=>match wd (c+af.size v) (n*cols.length) with
      |true=>(aEM cols (c/cols.length) (c%cols.length) v).map λcols=>.a (.l n) cols::r
      |false=>match c with
       |0=>fj (.a (.l n) cols::r) v
       |_+1=>none
def aAm:af->Nat->Nat->Nat->af->Option (Bool×af)
 | [],_,_,_,_=>none
 |.c x::r,c,i,z,v=>match c with
  |0=>(alN (.c x::r) (i*z) v).map λb=>(true,b)
  |c+1=>(aAm r c i z v).map λp=>(p.1,.c x::p.2)
 |.a n cols::r,c,i,z,v=>match r with
  | []=>match ww (z%cols.length) 0 with
   |true=>(aEM cols (elemOf c i z cols.length) (c%cols.length) v).map λcols=>(true,[.a n cols])
   |false=>none
  |_::_=>match n with
   |.l n=>match wd (n*cols.length) c with
    |true=>(aAm r (c-n*cols.length) i z v).map λp=>(p.1,.a (.l n) cols::p.2)
    |false=>match ww (z%cols.length) 0 with
     |true=>(aEM cols (elemOf c i z cols.length) (c%cols.length) v).map λcols=>(wd (c+i*z+af.size v) (n*cols.length),.a (.l n) cols::r)
     |false=>none
   |.s _=>none
def af.AJ (b:af)(o:cD)(v:af):Option (Bool×af):=
 match o with
 |.k c=>(alN b c v).map λb=>(true,b)
 |.x c i z=>aAm b c i z v
def WE:af->Bool
 | []=>true
 |.c _::r=>WE r
 |.a _ _::_=>false
def aLa:FV->Option cS
 |.i k x=>some (.i k λ_=>x)
 |.b x=>some (.b λ_=>x)
 |.s x=>some (.s λ_=>x)
 |.u=>none
 |.q _ _=>none
def EB:Nat->af->Option (List cS)
 |0,_=>some []
 |z+1,.c (.f v)::r=>match aLa v,EB z r with
  |some c,some cs=>some (c::cs)
  |_,_=>none
 |_+1,_=>none
def rowOf (z:Nat)(b:af):Option af:=
 match WE b&&(wd 1 z&&ww (b.length%z) 0) with
 |true=>match EB z b with
  |some cols=>(DT z cols 0 0 b).map λcols=>[.a (.l (b.length/z)) cols]
  |none=>none
 |false=>none
def agw (cols:List cS):List Nat->af
 | []=>[]
 |j::l=>.c (match cols[j%cols.length]? with
  |some q=>.f (q.at (j/cols.length))
  |none=>.f .u)::agw cols l
def uv:af->af
 | []=>[]
 |.c v::r=>.c v::uv r
 |.a n cols::r=>match n with
  |.l n=>agw cols (List.range (n*cols.length))++uv r
  |.s n=>.a (.s n) cols::uv r
def aN1 (n:Sz)(cols:List cS)(b:af):Option af:=
 match WE b&&(wd 1 cols.length&&ww (b.length%cols.length) 0) with
 |true=>(DT cols.length cols n.val 0 b).map λcs=>[.a (n.add (.l (b.length/cols.length))) cs]
 |false=>none
def aTM (n:Sz)(cols:List cS)(b:af):Option af:=
 match b with
 | [.a m ec]=>match ww cols.length ec.length&&wd 1 cols.length with
  |true=>(avj (λj=>v6 j n.val) cols (ec.map (cS.up n.val))).map λcols=>[.a (n.add m) cols]
  |false=>aN1 n cols (uv b)
 |b=>aN1 n cols (uv b)
def aTN:af->Bool
 | []=>true
 |.c _::r=>aTN r
 |.a (.l _) _::r=>aTN r
 |.a (.s _) _::_=>false
def af.app (a b:af):Option af:=
 match a,b with
 | [],b=>some b
 |a,[]=>some a
 | [.a n cols],b=>aTM n cols b
 |a,[.a m ec]=>match rowOf ec.length (uv a) with
  |some [.a n cols]=>aTM n cols [.a m ec]
  |_=>none
 |a,b=>match aTN a&&aTN b with
  |true=>some (a++b)
  |false=>none
def atx (z:Nat)(b:af):af:=
 match b with
 | []=>[]
 | [.a n cols]=>match ww cols.length z with
  |true=>[.a n cols]
  |false=>match rowOf z (uv [.a n cols]) with
   |some b=>b
   |none=>[.a n cols]
 |b=>match rowOf z (uv b) with
  |some r=>r
  |none=>b
structure St where
 tmps:List AV
 heap:List (Option af)
 dz:List Nat
def St.bS (s:St)(b:Nat):Option af:=(s.heap[b]?).getD none
def alO (l:List AV):Nat->AV:=List.rec (motive:=λ_=>Nat->AV) (λ_=>udf) (λa _ ih i=>Nat.rec (motive:=λ_=>AV) a (λm _=>ih m) i) l
def St.tmp (s:St)(i:Nat):AV:=alO s.tmps i
def aAn {α ρ:Type}(l:List α):Nat->α->(List α->Option ρ)->Option ρ:=
 List.rec (motive:=λ_=>Nat->α->(List α->Option ρ)->Option ρ) (λ_ _ _=>none)
  (λa l ih i v k=>Nat.rec (motive:=λ_=>Option ρ) (k (v::l)) (λm _=>ih m v λl'=>k (a::l')) i) l
inductive Fp where
 |t (i:Nat)
 |c (b:Nat) (r:Option (Nat×Nat))
 |z (b:Nat)
inductive Up where
 |t (i:Nat) (v:AV)
 |c (b:Nat) (o:cD) (v:af)
 |new (b:Nat) (bS:af)
 |kill (b:Nat)
def ext (o:cD)(cE:Sz)(z:Nat):Option (Nat×Nat):=
 match o,cE with
 |.k c,.l n=>some (c,n*z)
 |_,_=>none
def szL:af->Option Nat
 | []=>some 0
 |.c _::r=>(szL r).map (1+ ·)
 |.a (.l n) cols::r=>(szL r).map (n*cols.length+ ·)
 |.a (.s _) _::_=>none
def aN2 (o:cD)(v:af):Option (Nat×Nat):=
 match o with
 |.k c=>(szL v).map λn=>(c,n)
 |_=>none
inductive Rd (α:Type):Type 1 where
 |ret (a:α)
 |fail
 |tm (i:Nat) (k:AV->Rd α)
 |vw (b:Nat) (o:cD) (cE:Sz) (z:Nat) (k:af->Rd α)
 |sz (b:Nat) (k:Rd α)
 |test (x:Bool) (k:Bool->Rd α)
 |opt {D:Type} (x:Option D) (k:D->Rd α)
def Rd.bind {α β:Type}:Rd α->(α->Rd β)->Rd β
 |.ret a,f=>f a
 |.fail,_=>.fail
 |.tm i k,f=>.tm i λv=>(k v).bind f
 |.vw b o cE z k,f=>.vw b o cE z λv=>(k v).bind f
 |.sz b k,f=>.sz b (k.bind f)
 |.test x k,f=>.test x λv=>(k v).bind f
 |.opt x k,f=>.opt x λv=>(k v).bind f
def ey {α:Type}:Option α->Rd α
 |some a=>.ret a
 |none=>.fail
def cL (x:Bool):Rd Unit:=.test x λ|true=>.ret ()|false=>.fail
def Rd.run {α ρ:Type}:Rd α->St->List Fp->(α->List Fp->Option ρ)->Option ρ
 |.ret a,_,l,k=>k a l
 |.fail,_,_,_=>none
 |.tm i m,s,l,k=>(m (s.tmp i)).run s (.t i::l) k
 |.vw b o cE z m,s,l,k=>
  match s.bS b with
  |some bS=>match bS.sub o cE z with
   |some p=>match p.1 with
    |true=>(m p.2).run s (.z b:: .c b (ext o cE z)::l) k
    |false=>none
   |none=>none
  |none=>none
 |.sz b m,s,l,k=>
  match s.bS b with
  |some _=>m.run s (.z b::l) k
  |none=>none
 |.test x m,s,l,k=>
  match x with
  |true=>(m true).run s l k
  |false=>(m false).run s l k
 |.opt x m,s,l,k=>
  match x with
  |some d=>(m d).run s l k
  |none=>none
def aEN (b:af)(o:cD)(cE:Sz)(z:Nat):Rd af:=
 match b.sub o cE z with
 |some p=>.test p.1 λ|true=>.ret p.2|false=>.fail
 |none=>.fail
def ofC:Value->Option CV
 |.bool b=>some (.f (.b b))
 |.int k n=>some (.f (.i k n))
 |.string s=>some (.f (.s s))
 |.pointer none=>some .ai9
 |.slice none 0 0=>some .nils
 |.nilFunc=>some .aTJ
 |.nilIface=>some .aTK
 |_=>none
def aJb:List Value->Option af
 | []=>some []
 |v::vs=>match ofC v,aJb vs with
  |some c,some cs=>some (.c c::cs)
  |_,_=>none
def ofR:Value->Option RV
 |.agg cs=>(aJb cs.toList).map .agg
 |v=>(ofC v).map .c
def Ei:Operand->Rd AV
 |.tmp t=>.tm t .ret
 |.const v=>(ey (ofR v)).bind λr=>.ret (.r r)
 |.func f=>.ret (.fn f [])
 |.global _=>.fail
def asR:AV->Rd RV
 |.r v=>.ret v
 |_=>.fail
def asC:AV->Rd CV
 |.r (.c v)=>.ret v
 |_=>.fail
def asI:AV->Rd (IntKind×Int)
 |.r (.c (.f (.i k n)))=>.ret (k,n)
 |_=>.fail
def asB:AV->Rd Bool
 |.r (.c (.f (.b x)))=>.ret x
 |_=>.fail
def asP:AV->Rd (Nat×cD×Nat)
 |.r (.c (.ptr b o n))=>.ret (b,o,n)
 |_=>.fail
def wM (x:Operand):Rd RV:=(Ei x).bind asR
def asS:AV->Rd RV
 |.r v=>.ret v
 |.fn f [.c (.ptr b o n)]=>.ret (.c (.cl f b o n))
 |_=>.fail
def aN3 (x:Operand):Rd RV:=(Ei x).bind asS
def G7 (x:Operand):Rd CV:=(Ei x).bind asC
def KZ (x:Operand):Rd (IntKind×Int):=(Ei x).bind asI
def aJc (x:Operand):Rd Bool:=(Ei x).bind asB
def aN4 (x:Operand):Rd (Nat×cD×Nat):=(Ei x).bind asP
def uw {α β:Type}(f:α->Rd β):List α->Rd (List β)
 | []=>.ret []
 |a::l=>(f a).bind λb=>(uw f l).bind λbs=>.ret (b::bs)
def aep (P:Program)(t:TypeId):Option Bool:=
 match P.underlying t with
 |some (.struct _)|some (.array _ _)=>some true
 |some _=>some false
 |none=>none
def jd (P:Program)(t:TypeId):Option Nat:=(P.info? t).map (·.size)
def agx (P:Program)(t:TypeId)(i:Nat):Option Field:=
 match P.underlying t with
 |some (.struct fs)=>fs[i]?
 |_=>none
def aTO (P:Program)(n:Nat)(e:TypeId):Bool:=
 wd 9 n||match P.underlying e with
 |some (.int .u64)=>wd 8 n
 |some (.struct _)=>wd 4 n
 |_=>false
inductive Tm where
 |c
 |a (n z:Nat)
def aTP {α:Type}:Nat->List α->List α
 |0,_=>[]
 |n+1,l=>l++aTP n l
def alP (P:Program):Nat->TypeId->List Tm
 |0,_=>[]
 |d+1,t=>match P.underlying t with
  |some (.struct fs)=>(fs.toList.map λf=>alP P d f.type).flatten
  |some (.array n e)=>match aTO P n e with
   |true=>match alP P d e with
    | [.a m z]=>[.a (n*m) z]
    |_=>[.a n ((jd P e).getD 0)]
   |false=>aTP n (alP P d e)
  |_=>[.c]
def FV.same:FV->FV->Bool
 |.b x,.b y=>x==y
 |.i k x,.i k' y=>decide (k=k')&&x==y
 |_,_=>false
def WG (z:Nat)(row:af):Nat->af->Option af
 |0,b=>some b
 |m+1,.c (.f v)::r=>match row[(m%z)]? with
  |some (.c (.f y))=>match v.same y with
   |true=>WG z row m r
   |false=>none
  |_=>none
 |_+1,_=>none
def aci:List Tm->af->Option af
 | [],[]=>some []
 |.c::tm,.c v::r=>(aci tm r).map (.c v:: ·)
 |.a n z::tm,b=>match EB z b with
  |some cols=>match wd 1 z with
   |true=>match WG z ((b.take z).reverse) (n*z) b with
    |some r=>(aci tm r).map (.a (.l n) cols:: ·)
    |none=>none
   |false=>none
  |none=>none
 |_,_=>none
def A3 (P:Program)(t:TypeId):Option RV:=
 match((P.info? t).bind (·.zero)).bind ofR with
 |some (.agg b)=>(aci (alP P 30 t) b).map .agg
 |r=>r
def FV.isB:FV->Bool
 |.b _=>true
 |_=>false
def FV.toB:FV->Bool
 |.b x=>x
 |_=>false
def FV.isI (k:IntKind):FV->Bool
 |.i k' _=>decide (k'=k)
 |_=>false
def FV.toI:FV->Int
 |.i _ n=>n
 |_=>0
def FV.isS:FV->Bool
 |.s _=>true
 |_=>false
def FV.toS:FV->ByteArray
 |.s x=>x
 |_=>.empty
def aJd (P:Program)(t:TypeId)(c:CV):Rd CV:=
 match P.underlying t,c with
 |some .bool,.f x=>.test x.isB λ|true=>.ret (.f (.b x.toB))|false=>.fail
 |some (.int k),.f x=>.test (x.isI k) λ|true=>.ret (.f (.i k x.toI))|false=>.fail
 |some .string,.f x=>.test x.isS λ|true=>.ret (.f (.s x.toS))|false=>.fail
 |some (.slice _),.f (.q n g)=>.ret (.fs n 1 [.b g])
 |_,c=>.ret c
def agy:List Tm->af->Option af
 | [],[]=>some []
 |.c::tm,.c v::r=>(agy tm r).map (.c v:: ·)
 |.a n z::tm,b=>match wd (n*z) b.length with
  |true=>match rowOf z (b.take (n*z)) with
   |some row=>(agy tm (b.drop (n*z))).map (row++ ·)
   |none=>none
  |false=>none
 |_,_=>none
def norm (P:Program)(t:TypeId)(l:af):af:=
 match WE l&&wd 8 l.length with
 |true=>match agy (alP P 30 t) l with
  |some r=>r
  |none=>l
 |false=>match WE l with
  |true=>l
  |false=>match(alP P 30 t).all (λ|.c=>true|.a _ _=>false) with
   |true=>uv l
   |false=>l
def aqX (P:Program)(t:TypeId)(v:RV):Rd RV:=
 match v with
 |.c c=>(aJd P t c).bind λc=>.ret (.c c)
 |.agg l=>.ret (.agg (norm P t l))
def aty:af->Rd RV
 | [.c v]=>.ret (.c v)
 |_=>.fail
def aaj (P:Program)(t:TypeId)(b:Nat)(o:cD)(m:Nat):Rd RV:=
 (ey (aep P t)).bind λa=>(ey (jd P t)).bind λn=>
  match a with
  |true=>(cL (wd n m)).bind λ_=>.vw b o (.l 1) n λl=>.ret (.agg l)
  |false=>(cL (wd 1 m)).bind λ_=>.vw b o (.l 1) 1 aty
def valueOf (P:Program)(t:TypeId)(b:Nat)(o:cD)(m:Nat):Rd RV:=(aaj P t b o m).bind (aqX P t)
def aLb (P:Program)(t:TypeId)(cs:af)(o:cD):Rd RV:=
 (ey (aep P t)).bind λa=>(ey (jd P t)).bind λn=>
  match a with
  |true=>(aEN cs o (.l 1) n).bind λl=>.ret (.agg l)
  |false=>(aEN cs o (.l 1) 1).bind aty
def partOf (P:Program)(t:TypeId)(cs:af)(o:cD):Rd RV:=(aLb P t cs o).bind (aqX P t)
def OL (P:Program)(t:TypeId)(cs:af)(c:Nat):Rd RV:=
 (ey (jd P t)).bind λn=>(cL (wd 1 n&&wd (c+n) (af.size cs))).bind λ_=>partOf P t cs (.k c)
def atz (op:BinOp)(k:IntKind)(x y:Int):Option Int:=
 let a:=BitVec.ofInt k.bits x
 let b:=BitVec.ofInt k.bits y
 match op with
 |.and=>some (k.wrap (a&&&b).toNat)
 |.or=>some (k.wrap (a|||b).toNat)
 |.xor=>some (k.wrap (a^^^b).toNat)
 |.andNot=>some (k.wrap (a&&& ~~~b).toNat)
 |_=>none
def aYt (op:BinOp)(k:IntKind)(x y:Int):Rd FV:=
 match op with
 |.add=>.ret (.i k (k.wrap (x+y)))
 |.sub=>.ret (.i k (k.wrap (x-y)))
 |.mul=>.ret (.i k (k.wrap (x*y)))
 |.quo=>(cL (!decide (y=0))).bind λ_=>.ret (.i k (k.wrap (x.tdiv y)))
 |.rem=>(cL (!decide (y=0))).bind λ_=>.ret (.i k (x.tmod y))
 |.eql=>.ret (.b (x==y))
 |.neq=>.ret (.b (x !=y))
 |.lss=>.ret (.b (decide (x<y)))
 |.leq=>.ret (.b (decide (x<=y)))
 |.gtr=>.ret (.b (decide (x>y)))
 |.geq=>.ret (.b (decide (x>=y)))
 |.shl|.shr=>.fail
 |op=>(ey (atz op k x y)).bind λn=>.ret (.i k n)
def aTQ (op:BinOp)(k:IntKind)(x y:Int):Rd FV:=
 (cL (!decide (y<0))).bind λ_=>
  match op with
  |.shl=>.ret (.i k (k.wrap (x*2^(min y.toNat k.bits))))
  |.shr=>.ret (.i k (x.fdiv (2^(min y.toNat k.bits))))
  |_=>.fail
def aTR (n:Nat)(p:Nat->Bool):Bool:=(List.range n).all p
def aEO (n:Nat):List cS->List cS->Option Bool
 | [.i k g],[.i k' h]=>if k=k' then some (aTR n λj=>g j==h j) else none
 | [.b g],[.b h]=>some (aTR n λj=>g j==h j)
 |_,_=>none
def aeq (P:Program)(e:TypeId)(c:List cS):Bool:=
 match P.underlying e,c with
 |some .bool,[.b _]=>true
 |some (.int _),[.i _ _]=>true
 |_,_=>false
def aN5 (P:Program)(aja:TypeId->RV->RV->Rd Bool)(xs ys:af):List Field->Rd Bool
 | []=>.ret true
 |f::fs=>if f.name≠"_" then
   (OL P f.type xs f.offset).bind λa=>(OL P f.type ys f.offset).bind λb=>(aja f.type a b).bind λr=>(aN5 P aja xs ys fs).bind λs=>.ret (r&&s)
  else aN5 P aja xs ys fs
def aYu (P:Program)(aja:TypeId->RV->RV->Rd Bool)(e:TypeId)(z:Nat)(xs ys:af):List Nat->Rd Bool
 | []=>.ret true
 |i::l=>(OL P e xs (i*z)).bind λa=>(OL P e ys (i*z)).bind λb=>(aja e a b).bind λr=>(aYu P aja e z xs ys l).bind λs=>.ret (r&&s)
def aYv (P:Program)(d n z:Nat)(e:TypeId)(xs ys:af):Option Bool:=
 match xs,ys with
 | [.a (.l m) c],[.a (.l m') c']=>match wd 1 d&&(ww z 1&&(ww m n&&(ww m' n&&aeq P e c))) with
  |true=>aEO n c c'
  |false=>none
 |_,_=>none
def eqT (P:Program):Nat->TypeId->RV->RV->Rd Bool
 |0,_,_,_=>.fail
 |d+1,t,x,y=>match P.underlying t,x,y with
  |some .bool,.c (.f (.b a)),.c (.f (.b b))=>.ret (a==b)
  |some (.int _),.c (.f (.i k a)),.c (.f (.i k' b))=>if k=k' then .ret (a==b) else .fail
  |some .string,.c (.f (.s a)),.c (.f (.s b))=>.ret (a==b)
  |some (.pointer _),.c .ai9,.c .ai9=>.ret true
  |some (.pointer _),.c (.ptr _ _ _),.c .ai9|some (.pointer _),.c .ai9,.c (.ptr _ _ _)=>.ret false
  |some (.struct fs),.agg xs,.agg ys=>match P.stoodInHeld t with
   |true=>.fail
   |false=>aN5 P (eqT P d) xs ys fs.toList
  |some (.array n e),.agg xs,.agg ys=>(ey (jd P e)).bind λz=>match aYv P d n z e xs ys with
   |some r=>.ret r
   |none=>aYu P (eqT P d) e z xs ys (List.range n)
  |_,_,_=>.fail
def eqV (P:Program)(t:TypeId)(x y:RV):Rd Bool:=
 match x,y with
 |.agg _,.agg _=>match P.eqGuardType P.depth t with
  |true=>.fail
  |false=>eqT P 30 t x y
 |.c (.f (.i _ _)),_|.c (.f (.s _)),_|.c (.f .u),_|.c (.f (.q _ _)),_=>.fail
 |_,_=>eqT P 30 t x y
def aYw (P:Program)(op:BinOp)(t:TypeId)(x y:RV):Rd RV:=
 match x,y with
 |.c (.f (.i k a)),.c (.f (.i k' b))=>
  match op with
  |.shl|.shr=>(aTQ op k a b).bind λv=>.ret (.c (.f v))
  |op=>if k=k' then(aYt op k a b).bind λv=>.ret (.c (.f v)) else .fail
 |x,y=>
  match op with
  |.eql=>(eqV P t x y).bind λr=>.ret (.c (.f (.b r)))
  |.neq=>(eqV P t x y).bind λr=>.ret (.c (.f (.b (!r))))
  |_=>.fail
def unV (op:UnOp)(x:RV):Rd RV:=
 match op,x with
 |.neg,.c (.f (.i k n))=>.ret (.c (.f (.i k (k.wrap (0-n)))))
 |.xor,.c (.f (.i k n))=>(ey (atz .xor k (if k.signed then -1 else k.max) n)).bind λr=>.ret (.c (.f (.i k r)))
 |.not,.c (.f (.b x))=>.ret (.c (.f (.b (!x))))
 |_,_=>.fail
def aR8 (P:Program)(src dst:TypeId)(x:RV):Rd RV:=
 match P.underlying src,P.underlying dst,x with
 |some _,some (.int k),.c (.f (.i _ n))=>.ret (.c (.f (.i k (k.wrap n))))
 |_,_,_=>.fail
def bk (i:Int)(n:Nat):Bool:=decide (0<=i)&&decide (i<(n:Int))
def K0 (i:Int)(n:Nat):Bool:=decide (0<=i)&&decide (i<=(n:Int))
def aqY (i:Int):Nat->Rd Nat
 |0=>.ret 0
 |n+1=>.test (i==((n+1:Nat):Int)) λ|true=>.ret (n+1)|false=>aqY i n
def sel (P:Program)(o:cD)(i:Int)(n:Nat)(e:TypeId)(z:Nat):Rd cD:=
 match aTO P n e with
 |true=>.ret (o.idx i.toNat z n)
 |false=>match wd n 8 with
  |true=>(aqY i (n-1)).bind λj=>.ret (o.add (j*z))
  |false=>.ret (o.idx i.toNat z n)
def aN6 (P:Program)(o:cD)(i:Int)(len:Sz)(e:TypeId)(z:Nat):Rd cD:=
 match len with
 |.l n=>match !aTO P n e&&wd n 8 with
  |true=>(aqY i (n-1)).bind λj=>.ret (o.add (j*z))
  |false=>.ret (o.aN0 i.toNat z)
 |.s _=>.ret (o.aN0 i.toNat z)
def aEP (l:List FV):af:=l.map λv=>.c (.f v)
def aEQ (P:Program)(t:TypeId)(l:List FV):Rd RV:=
 (ey (aep P t)).bind λa=>(ey (jd P t)).bind λn=>
  match a with
  |true=>(cL (ww n l.length)).bind λ_=>aqX P t (.agg (aEP l))
  |false=>match l with
   |v::_=>aqX P t (.c (.f v))
   | []=>.fail
def ayq (P:Program)(t:TypeId)(x:CV)(i:Nat):Rd CV:=
 match x with
 |.fp l=>(ey (agx P t i)).bind λf=>(ey (jd P f.type)).bind λn=>
  (cL (wd 1 n&&wd (f.offset+n) l.length)).bind λ_=>.ret (.fp ((l.drop f.offset).take n))
 |.ptr b o m=>(ey (agx P t i)).bind λf=>(ey (jd P f.type)).bind λn=>
  (cL (wd 1 n&&wd (f.offset+n) m)).bind λ_=>.ret (.ptr b (o.add f.offset) n)
 |_=>.fail
def EC (b:ByteArray)(n:Nat):Int:=match b[n]? with
 |some x=>Int.ofNat x.toNat
 |none=>0
def ayr (P:Program)(t:TypeId)(x:CV)(i:Int):Rd CV:=
 match P.underlying t,x with
 |some (.array n e),.ptr b o m=>(ey (jd P e)).bind λz=>(cL (wd (n*z) m)).bind λ_=>
  (cL (bk i n)).bind λ_=>(sel P o i n e z).bind λo=>.ret (.ptr b o z)
 |some (.slice e),.sl b o len z' _=>(ey (jd P e)).bind λz=>(cL (ww z z')).bind λ_=>
  (cL (bk i len.val)).bind λ_=>(aN6 P o i len e z).bind λo=>.ret (.ptr b o z)
 |some (.slice e),.fs n z' cols=>(ey (jd P e)).bind λz=>(cL (ww z z')).bind λ_=>
  (cL (bk i n)).bind λ_=>.ret (.fp (cols.map λq=>q.at i.toNat))
 |some (.array n e),.fp l=>(ey (jd P e)).bind λz=>(cL (wd (n*z) l.length&&wd n 8)).bind λ_=>
  (cL (bk i n)).bind λ_=>(aqY i (n-1)).bind λj=>.ret (.fp ((l.drop (j*z)).take z))
 |_,_=>.fail
def aAo (x:Option Operand):Rd (Option Int):=
 match x with
 |none=>.ret none
 |some x=>(KZ x).bind λi=>.ret (some i.2)
def UU (lo hi:Option Int)(n:Nat):Rd (Nat×Nat):=
 (match hi with
  |none=>Rd.ret n
  |some h=>(cL (K0 h n)).bind λ_=>.ret h.toNat).bind λh=>
 (match lo with
  |none=>Rd.ret 0
  |some l=>(cL (K0 l h)).bind λ_=>.ret l.toNat).bind λl=>.ret (l,h)
def szQ (q:Bool)(n:Nat):Sz:=
 match q with
 |true=>.l n
 |false=>.s n
def vM (x:Option Operand):Bool:=
 match x with
 |none=>true
 |some (.const _)=>true
 |_=>false
def aqZ (q:Bool)(n:Sz):Bool:=
 match n with
 |.l _=>q
 |.s _=>false
def lenOf (q:Bool)(lo hi:Option Int)(n:Sz)(lh:Nat×Nat):Sz:=
 match lo,hi with
 |none,none=>n
 |none,some _=>szQ q lh.2
 |some _,_=>szQ q (lh.2-lh.1)
def agz (q:Bool)(lo:Option Int)(o:cD)(l z:Nat):cD:=
 match lo with
 |none=>o
 |some _=>match q with
  |true=>o.add (l*z)
  |false=>o.aN0 l z
def avk (lo:Option Int)(l:Nat)(cols:List cS):List cS:=
 match lo with
 |none=>cols
 |some _=>cols.map (cS.shift l)
def aLc (P:Program)(t:TypeId)(x:CV)(q:Bool)(lo hi:Option Int):Rd CV:=
 match P.underlying t,x with
 |some (.array n e),.ptr b o m=>(ey (jd P e)).bind λz=>(cL (wd (n*z) m)).bind λ_=>
  (UU lo hi n).bind λlh=>.ret (.sl b (agz q lo o lh.1 z) (lenOf q lo hi (.l n) lh) z false)
 |some (.slice e),.sl b o len z own=>(ey (jd P e)).bind λz'=>(cL (ww z z')).bind λ_=>
  (UU lo hi len.val).bind λlh=>.ret (.sl b (agz (aqZ q len) lo o lh.1 z) (lenOf (aqZ q len) lo hi len lh) z (own&&hi.isNone))
 |some (.slice e),.nils=>(ey (jd P e)).bind λ_=>(UU lo hi 0).bind λ_=>.ret .nils
 |some (.slice e),.fs n z cols=>(ey (jd P e)).bind λz'=>(cL (ww z z')).bind λ_=>
  (UU lo hi n).bind λlh=>.ret (.fs (lenOf false lo hi (.s n) lh).val z (avk lo lh.1 cols))
 |_,_=>.fail
def placesOf (P:Program)(t:TypeId):Option (Nat->Option (Nat×Nat)):=
 match P.underlying t with
 |some (.struct fs)=>(fs.toList.mapM λf=>(P.info? f.type).map λi=>(f.offset,i.size)).map λl i=>l[i]?
 |some (.array _ e)=>(jd P e).map λn i=>some (i*n,n)
 |_=>none
def alQ (pl:Nat->Option (Nat×Nat)):af->List (Nat×RV)->Option af
 |cs,[]=>some cs
 |cs,(i,v)::rest=>match pl i with
  |none=>none
  |some (o,n)=>match ww (af.size v.bS) n&&wd (o+n) (af.size cs) with
   |true=>match alN cs o v.bS with
    |some Th=>alQ pl Th rest
    |none=>none
   |false=>none
def rep:Nat->af->af
 |0,_=>[]
 |n+1,l=>l++rep n l
inductive Ch where
 |m7
 |set (b:af)
 |kill
structure pS where
 val:AV
 yM:List Ch
 news:List af
inductive T:Type 1 where
 |leaf (r:pS)
 |fail
 |test (x:Bool) (a b:T)
 |opt {D:Type} (x:Option D) (k:D->T)
def T.eval:T->Option pS
 |.leaf r=>some r
 |.fail=>none
 |.test x a b=>match x with
  |true=>a.eval
  |false=>b.eval
 |.opt x k=>match x with
  |some d=>(k d).eval
  |none=>none
def T.rd:T->Rd pS
 |.leaf r=>.ret r
 |.fail=>.fail
 |.test x a b=>.test x λ|true=>a.rd|false=>b.rd
 |.opt x k=>.opt x λd=>(k d).rd
abbrev Ff:=List AV->List af->T
abbrev Env:=Nat->Option Ff
structure Vw where
 b:Nat
 o:cD
 cE:Sz
 z:Nat
 sl:Bool
 own:Bool
def Vw.n (v:Vw):Nat:=v.cE.val*v.z
def acj (b:Nat)(e:Option (Nat×Nat)):List Vw->Nat->Option (Nat×Nat×Bool)
 | [],_=>none
 |v::vs,i=>match ww v.b b with
  |false=>acj b e vs (i+1)
  |true=>match e,ext v.o v.cE v.z with
   |some (o,n),some (o',n')=>match wd o' o&&wd (o+n) (o'+n') with
    |true=>some (i,o-o',v.own)
    |false=>acj b e vs (i+1)
   |_,_=>acj b e vs (i+1)
def avl (b:Nat)(e:Option (Nat×Nat))(vs:List Vw):Bool:=
 vs.all λv=> !Nat.beq v.b b||match e,ext v.o v.cE v.z with
  |some (o,n),some (o',n')=>wd (o+n) o'||wd (o'+n') o
  |_,_=>false
def aTS (c:CV)(vs:List Vw):Rd (CV×List Vw):=
 match c with
 |.ptr b o n=>match acj b (ext o (.l 1) n) vs 0 with
  |some (i,d,_)=>.ret (.ptr i (.k d) n,vs)
  |none=>(cL (avl b (ext o (.l 1) n) vs)).bind λ_=>.ret (.ptr vs.length (.k 0) n,vs++[⟨b,o,.l 1,n,false,false⟩])
 |.cl f b o n=>match acj b (ext o (.l 1) n) vs 0 with
  |some (i,d,_)=>.ret (.cl f i (.k d) n,vs)
  |none=>(cL (avl b (ext o (.l 1) n) vs)).bind λ_=>.ret (.cl f vs.length (.k 0) n,vs++[⟨b,o,.l 1,n,false,false⟩])
 |.sl b o len z own=>match acj b (ext o len z) vs 0 with
  |some (i,d,ow)=>.ret (.sl i (.k d) (.s len.val) z (own&&ow),vs)
  |none=>(cL (avl b (ext o len z) vs)).bind λ_=>
   .ret (.sl vs.length (.k 0) (.s len.val) z (own&&vs.all λv=> !Nat.beq v.b b|| !v.own),vs++[⟨b,o,len,z,true,own&&vs.all λv=> !Nat.beq v.b b|| !v.own⟩])
 |c=>.ret (c,vs)
def aN7:af->List Vw->Rd (af×List Vw)
 | [],vs=>.ret ([],vs)
 |.c c::cs,vs=>(aTS c vs).bind λx=>(aN7 cs x.2).bind λy=>.ret (.c x.1::y.1,y.2)
 |.a n cols::cs,vs=>(aN7 cs vs).bind λy=>.ret (.a n cols::y.1,y.2)
def aTT (r:RV)(vs:List Vw):Rd (RV×List Vw):=
 match r with
 |.c c=>(aTS c vs).bind λx=>.ret (.c x.1,x.2)
 |.agg cs=>(aN7 cs vs).bind λx=>.ret (.agg x.1,x.2)
def aER:List RV->List Vw->Rd (List RV×List Vw)
 | [],vs=>.ret ([],vs)
 |c::cs,vs=>(aTT c vs).bind λx=>(aER cs x.2).bind λy=>.ret (x.1::y.1,y.2)
def aYx (a:AV)(vs:List Vw):Rd (AV×List Vw):=
 match a with
 |.r r=>(aTT r vs).bind λx=>.ret (.r x.1,x.2)
 |.tup rs=>(aER rs vs).bind λx=>.ret (.tup x.1,x.2)
 |.fn f rs=>(aER rs vs).bind λx=>.ret (.fn f x.1,x.2)
 |.WC=>.ret (.WC,vs)
def aLd:List AV->List Vw->Rd (List AV×List Vw)
 | [],vs=>.ret ([],vs)
 |c::cs,vs=>(aYx c vs).bind λx=>(aLd cs x.2).bind λy=>.ret (x.1::y.1,y.2)
def toS (b:af):af:=
 match b with
 | [.a n cols]=>[.a (.s n.val) cols]
 |b=>b
def aR9 (sl:Bool)(z:Nat)(b:af):af:=
 match sl with
 |true=>toS (atx z b)
 |false=>b
def aTU:Nat->Nat->List Vw->List af->Rd (List af×List Vw)
 |0,_,_,_=>.fail
 |fuel+1,i,vs,acc=>match vs[i]? with
  |none=>.ret (acc,vs)
  |some v=>.vw v.b v.o v.cE v.z λcs=>
   (aN7 (aR9 v.sl v.z cs) vs).bind λx=>aTU fuel (i+1) x.2 (acc++[x.1])
def LP (vs:List Vw)(aI:Nat):CV->CV
 |.ptr j d n=>match vs[j]? with
  |some v=>.ptr v.b (v.o.plus d) n
  |none=>.ptr (aI+(j-vs.length)) d n
 |.cl f j d n=>match vs[j]? with
  |some v=>.cl f v.b (v.o.plus d) n
  |none=>.cl f (aI+(j-vs.length)) d n
 |.sl j d len z own=>match vs[j]? with
  |some v=>.sl v.b (v.o.plus d) len z (own&&v.own)
  |none=>.sl (aI+(j-vs.length)) d len z own
 |c=>c
def K1 (f:CV->CV):af->af
 | []=>[]
 |.c v::r=>.c (f v)::K1 f r
 |.a n cols::r=>.a n cols::K1 f r
def aTV (vs:List Vw)(aI:Nat):RV->RV
 |.c c=>.c (LP vs aI c)
 |.agg cs=>.agg (K1 (LP vs aI) cs)
def aN8 (vs:List Vw)(aI:Nat):AV->AV
 |.r r=>.r (aTV vs aI r)
 |.tup rs=>.tup (rs.map (aTV vs aI))
 |.fn f rs=>.fn f (rs.map (aTV vs aI))
 |.WC=>.WC
def Hu (vs:List Vw)(aI:Nat):List af->Nat->List Up
 | [],_=>[]
 |b::bs,j=>.new (aI+j) (K1 (LP vs aI) b)::Hu vs aI bs (j+1)
def A4 (all:List Vw)(aI:Nat):List Vw->List Ch->Option (Bool×List Up)
 | [],[]=>some (true,[])
 |_::vs,.m7::cs=>A4 all aI vs cs
 |v::vs,.set b::cs=>match A4 all aI vs cs with
  |some p=>some (p.1&&ww (af.size b) v.n,.c v.b v.o (K1 (LP all aI) b)::p.2)
  |none=>none
 |_::vs,.kill::cs=>A4 all aI vs cs
 |_,_=>none
def pW:List Vw->List Ch->List Up
 |v::vs,.kill::cs=>.kill v.b::pW vs cs
 |_::vs,_::cs=>pW vs cs
 |_,_=>[]
def ee (dst:Option Tmp)(v:AV):List Up:=
 match dst with
 |some d=>[.t d v]
 |none=>[]
def aYy (E:Env)(f:Nat)(args:List AV)(dst:Option Tmp)(aI:Nat):Rd (List Up):=
 (aLd args []).bind λx=>(aTU 1000 0 x.2 []).bind λy=>
  match E f with
  |none=>.fail
  |some F=>(F x.1 y.1).rd.bind λr=>
   (ey (A4 y.2 aI y.2 r.yM)).bind λus=>(cL us.1).bind λ_=>
    .ret (ee dst (aN8 y.2 aI r.val)++(us.2++(pW y.2 r.yM++Hu y.2 aI r.news 0)))
def aTW:CV->Rd Nat
 |.sl _ _ n _ _=>.ret n.val
 |.nils=>.ret 0
 |.fs n _ _=>.ret n
 |.f (.s x)=>.ret x.size
 |_=>.fail
def slB (z:Nat):CV->Rd (Sz×af)
 |.sl b o n z' _=>(cL (ww z z')).bind λ_=>.vw b o n z λk=>.ret (n,k)
 |.nils=>.ret (.l 0,[])
 |.fs n z' cols=>(cL (ww z z')).bind λ_=>.ret (.s n,[.a (.s n) cols])
 |_=>.fail
def aES (P:Program)(t:TypeId)(s x:CV)(dst:Option Tmp)(aI:Nat):Rd (List Up):=
 match P.underlying t with
 |some (.slice e)=>(ey (jd P e)).bind λz=>(ey ((P.info? e).map (·.bytes))).bind λby_=>(ey (A3 P e)).bind λzv=>
  (cL (wd 1 z&&(wd 1 by_&&ww (af.size zv.bS) z))).bind λ_=>
  (slB z x).bind λxb=>
  match s with
  |.nils=>(cL (wd (xb.1.val*by_) 140737488355328)).bind λ_=>
   .ret (ee dst (.r (.c (.sl aI (.k 0) xb.1 z true)))++[.new aI xb.2])
  |.sl b o n z' true=>(cL (ww z z')).bind λ_=>(cL (wd ((n.val+xb.1.val)*by_) 140737488355328)).bind λ_=>
   .sz b<|
   .vw b o n z λsb=>(ey (sb.app xb.2)).bind λnb=>
    (cL (match x with|.sl b' _ _ _ _=> !Nat.beq b b'|_=>true)).bind λ_=>
    .ret (ee dst (.r (.c (.sl aI (.k 0) (n.add xb.1) z true)))++[.kill b,.new aI nb])
  |_=>.fail
 |_=>.fail
def aJe (v:Nat):Nat->Rd Nat
 |0=>.ret 0
 |k+1=>.test (wd (k+1) v) λ|true=>.ret (k+1)|false=>aJe v k
def aN9 (n n':Sz):Rd (Bool×Sz):=
 match n,n' with
 |.l k,.s v=>match wd k 8 with
  |true=>(aJe v k).bind λj=>.ret (true,.l j)
  |false=>.ret (false,Sz.least (.s v) (.l k))
 |n,n'=>.ret (false,Sz.least n' n)
def copyV (P:Program)(t:TypeId)(d x:CV)(dst:Option Tmp):Rd (List Up):=
 match P.underlying t with
 |some (.slice e)=>(ey (jd P e)).bind λz=>
  match d,x with
  |.sl b o n z1 _,.sl b' o' n' z2 _=>(cL (ww z z1&&ww z z2)).bind λ_=>
   (cL (!Nat.beq b b')).bind λ_=>(aN9 n n').bind λm=>
   .vw b' o' m.2 z λl=>.sz b<|
    .ret (ee dst (.r (.c (.f (.i .i64 (m.2.val:Int)))))++[.c b o (cond m.1 (uv l) l)])
  |_,_=>.fail
 |_=>.fail
def aYz:FV->FV->Rd FV
 |.i k x,.i k' y=>if k=k' then .ret (.i k (if y<x then y else x)) else .fail
 |_,_=>.fail
def aYA:FV->FV->Rd FV
 |.i k x,.i k' y=>if k=k' then .ret (.i k (if y>x then y else x)) else .fail
 |_,_=>.fail
def avm {α β:Type}(f:β->α->Rd β):β->List α->Rd β
 |b,[]=>.ret b
 |b,a::l=>(f b a).bind λb'=>avm f b' l
def asF:AV->Rd FV
 |.r (.c (.f v))=>.ret v
 |_=>.fail
def biV (P:Program)(bi:Builtin)(ts:Array TypeId)(args:List AV)(dst:Option Tmp)(aI:Nat):Rd (List Up):=
 match bi,args with
 |.len,[x]=>(ey ((ts[0]?).bind P.underlying)).bind λ
  |.array n _=>.ret (ee dst (.r (.c (.f (.i .i64 (n:Int))))))
  |.slice _=>(asC x).bind λc=>(match c with|.f _=>Rd.fail|c=>aTW c).bind λn=>.ret (ee dst (.r (.c (.f (.i .i64 (n:Int))))))
  |.string=>(asC x).bind λc=>(match c with|.f (.s x)=>Rd.ret x.size|_=>Rd.fail).bind λn=>.ret (ee dst (.r (.c (.f (.i .i64 (n:Int))))))
  |_=>.fail
 |.append,[s,x]=>(ey (ts[0]?)).bind λt=>(cL (match ts.toList with| [t1,t2]=>ww t1 t2|_=>false)).bind λ_=>
  (asC s).bind λs=>(asC x).bind λx=>aES P t s x dst aI
 |.copy,[d,x]=>(ey (ts[0]?)).bind λt=>(asC d).bind λd=>(asC x).bind λx=>copyV P t d x dst
 |.min,x::l=>(asF x).bind λx=>(uw asF l).bind λl=>(avm aYz x l).bind λv=>.ret (ee dst (.r (.c (.f v))))
 |.max,x::l=>(asF x).bind λx=>(uw asF l).bind λl=>(avm aYA x l).bind λv=>.ret (ee dst (.r (.c (.f v))))
 |_,_=>.fail
def a1H:AV->Rd (Nat×List RV)
 |.fn f aeo=>.ret (f,aeo)
 |.r (.c (.cl f b o n))=>.ret (f,[.c (.ptr b o n)])
 |_=>.fail
def apI (P:Program)(e:TypeId)(n z:Nat)(b:af):af:=
 match !aTO P n e&&wd n 8 with
 |true=>b
 |false=>atx z b
inductive CK where
 |i (k:IntKind)
 |b
 |s
def CK.om:CK->cS
 |.i k=>.i k λ_=>0
 |.b=>.b λ_=>false
 |.s=>.s λ_=>.empty
def ckT (P:Program):Nat->TypeId->Option (List CK)
 |0,_=>none
 |d+1,t=>match P.underlying t with
  |some .bool=>some [.b]
  |some (.int k)=>some [.i k]
  |some .string=>some [.s]
  |some (.struct fs)=>fs.toList.foldr (λf l=>match ckT P d f.type,l with
   |some a,some b=>some (a++b)
   |_,_=>none) (some [])
  |some (.array n e)=>(ckT P d e).map (aTP n)
  |_=>none
def aLe (P:Program):Nat->TypeId->List (Option (Nat×List CK))
 |0,_=>[]
 |d+1,t=>match P.underlying t with
  |some (.struct fs)=>(fs.toList.map λf=>aLe P d f.type).flatten
  |some (.array n e)=>aTP n (aLe P d e)
  |some (.slice e)=>[match jd P e,ckT P 30 e with
   |some z,some ks=>some (z,ks)
   |_,_=>none]
  |_=>[none]
def Ti:List (Option (Nat×List CK))->af->Nat->af×List af
 |_,[],_=>([],[])
 |ks,.a n cols::r,b=>let x:=Ti (ks.drop (n.val*cols.length)) r b;(.a n cols::x.1,x.2)
 |ks,.c v::r,b=>match v,ks with
  |.nils,some (z,k)::ks=>let x:=Ti ks r (b+1);(.c (.sl b (.k 0) (.s 0) z true)::x.1,[.a (.s 0) (k.map CK.om)]::x.2)
  |v,ks=>let x:=Ti (ks.drop 1) r b;(.c v::x.1,x.2)
def aTX:af->Bool
 | []=>false
 |.c .nils::_=>true
 |_::r=>aTX r
def jm (P:Program)(t:TypeId)(b:af)(aI:Nat):af×List af:=
 match aTX b with
 |true=>Ti (aLe P 30 t) b aI
 |false=>(b,[])
def Ce:List af->Nat->List Up
 | [],_=>[]
 |b::bs,n=>.new n b::Ce bs (n+1)
def avn (dst:Option Tmp)(aI n:Nat)(cs:af):List Up:=ee dst (.r (.c (.ptr aI (.k 0) n)))++[.new aI cs]
def aop (P:Program)(E:Env)(o:Oper)(aI:Nat):Rd (List Up):=
 let val (m:Rd RV):Rd (List Up):=m.bind λv=>.ret (ee o.dst (.r v))
 let cel (m:Rd CV):Rd (List Up):=m.bind λv=>.ret (ee o.dst (.r (.c v)))
 match o.op with
 |.move x|.assign x=>(Ei x).bind λv=>.ret (ee o.dst v)
 |.pick c a b=>(aJc c).bind λx=>.test x λ
  |true=>(Ei a).bind λv=>.ret (ee o.dst v)
  |false=>(Ei b).bind λv=>.ret (ee o.dst v)
 |.alloc e=>(ey (A3 P e)).bind λz=>.ret (Ce (jm P e z.bS aI).2 aI++avn o.dst (aI+(jm P e z.bS aI).2.length) (af.size (jm P e z.bS aI).1) (jm P e z.bS aI).1)
 |.box t x=>(wM x).bind λv=>.ret (Ce (jm P t v.bS aI).2 aI++avn o.dst (aI+(jm P t v.bS aI).2.length) (af.size (jm P t v.bS aI).1) (jm P t v.bS aI).1)
 |.makeSlice t n c=>match P.underlying t with
  |some (.slice e)=>(ey (A3 P e)).bind λz=>(ey (jd P e)).bind λq=>(KZ n).bind λn=>(KZ c).bind λc=>
   (cL (decide (n.2=0)&&decide (c.2=0))).bind λ_=>(ey (EB q z.bS)).bind λcols=>
   .ret (ee o.dst (.r (.c (.sl aI (.k 0) (.s 0) q true)))++[.new aI [.a (.s 0) cols]])
  |_=>.fail
 |.build t ps=>(ey (A3 P t)).bind λz=>(uw (λp=>(wM p.2).bind λv=>.ret (p.1,v)) ps.toList).bind λl=>
  (ey (placesOf P t)).bind λpl=>(ey (alQ pl z.bS l)).bind λcs=>.ret (ee o.dst (.r (.agg cs)))
 |.buildSlice t n ps=>match P.underlying t with
  |some (.slice e)=>(ey (A3 P e)).bind λz=>(ey (jd P e)).bind λq=>
   (cL (wd 1 q&&wd (n*q) 16777216)).bind λ_=>
   (uw (λp=>(wM p.2).bind λv=>.ret (p.1,v)) ps.toList).bind λl=>
   (cL (ww (af.size z.bS) q)).bind λ_=>(ey (alQ (λi=>some (i*q,q)) (rep n z.bS) l)).bind λcs=>.ret (ee o.dst (.r (.c (.sl aI (.k 0) (.l n) q true)))++[.new aI (apI P e n q cs)])
  |_=>.fail
 |.load t a=>(G7 a).bind λ
  |.ptr b q n=>val (valueOf P t b q n)
  |.fp l=>val (aEQ P t l)
  |_=>.fail
 |.store t a x=>(aN4 a).bind λp=>(aN3 x).bind λv=>(ey (jd P t)).bind λn=>
  (cL (ww (af.size v.bS) n&&wd n p.2.2)).bind λ_=>.sz p.1<|
  .ret (Ce (jm P t v.bS aI).2 aI++(ee o.dst udf++[.c p.1 p.2.1 (jm P t v.bS aI).1]))
 |.nilCheck x=>(G7 x).bind λ
  |.ptr b q n=>.ret (ee o.dst (.r (.c (.ptr b q n))))
  |.fp l=>.ret (ee o.dst (.r (.c (.fp l))))
  |_=>.fail
 |.binOp op t x y _=>(wM x).bind λa=>(wM y).bind λb=>val (aYw P op t a b)
 |.unOp op _ x=>(wM x).bind λa=>val (unV op a)
 |.convert s d x=>(wM x).bind λa=>val (aR8 P s d a)
 |.sliceToArrayPointer t x=>(G7 x).bind λc=>match P.underlying t,c with
  |some (.array n _),.sl b q len z _=>(cL (wd 1 n&&wd n len.val)).bind λ_=>cel (.ret (.ptr b q (n*z)))
  |_,_=>.fail
 |.makeFunc (.func f) fs aeo=>match fs.toList with
  | []=>(uw wM aeo.toList).bind λl=>.ret (ee o.dst (.fn f l))
  |_=>.fail
 |.slice t x lo hi none=>(G7 x).bind λc=>(aAo lo).bind λl=>(aAo hi).bind λh=>cel (aLc P t c (vM lo&&vM hi) l h)
 |.fieldAddr t x i=>(G7 x).bind λc=>cel (ayq P t c i)
 |.field t x i=>(wM x).bind λ
  |.agg cs=>(ey (agx P t i)).bind λf=>val (OL P f.type cs f.offset)
  |_=>.fail
 |.indexAddr t x i=>(G7 x).bind λc=>(KZ i).bind λi=>cel (ayr P t c i.2)
 |.index t x i=>(wM x).bind λv=>(KZ i).bind λi=>match P.underlying t,v with
  |some (.array n e),.agg cs=>(ey (jd P e)).bind λz=>(cL (wd 1 z&&wd (n*z) (af.size cs))).bind λ_=>(cL (bk i.2 n)).bind λ_=>(sel P (.k 0) i.2 n e z).bind λo=>val (partOf P e cs o)
  |some .string,.c (.f (.s b))=>(cL (bk i.2 b.size)).bind λ_=>val (.ret (.c (.f (.i .u8 (EC b i.2.toNat)))))
  |_,_=>.fail
 |.extract x i=>(Ei x).bind λ
  |.tup vs=>(ey (vs[i]?)).bind λv=>.ret (ee o.dst (.r v))
  |_=>.fail
 |.call c=>(uw Ei c.args.toList).bind λargs=>match c.callee with
  |.builtin b=>biV P b c.argTypes args o.dst aI
  |.value f=>(Ei f).bind λf=>(a1H f).bind λfc=>aYy E fc.1 (args++fc.2.map .r) o.dst aI
  |.invoke _ _=>.fail
 |_=>.fail
def mark (k:Nat)(b:Nat)(d:List Nat):List Nat:=
 match v6 b k&& !d.any (ww b) with
 |true=>b::d
 |false=>d
def Up.app (k:Nat)(s:St):Up->St
 |.t i v=>{s with tmps:=s.tmps.set i v}
 |.c b o v=>match s.bS b with
  |some bS=>match bS.AJ o v with
   |some p=>{s with heap:=s.heap.set b (some p.2),dz:=mark k b s.dz}
   |none=>s
  |none=>s
 |.new _ bS=>{s with heap:=s.heap++[some bS]}
 |.kill b=>{s with heap:=s.heap.set b none,dz:=mark k b s.dz}
def Up.ok (s:St):Up->Bool
 |.t i _=>v6 i s.tmps.length
 |.c b o v=>match s.bS b with
  |some bS=>match bS.AJ o v with
   |some p=>p.1&&wd (o.val+af.size v) (af.size bS)
   |none=>false
  |none=>false
 |.new b _=>ww b s.heap.length
 |.kill b=>v6 b s.heap.length
def ka (k:Nat):List Up->St->Option St
 | [],s=>some s
 |u::us,s=>match u.ok s with
  |true=>ka k us (u.app k s)
  |false=>none
def aSa (acc:List Nat)(m:Nat)(e:Edge):Nat:=match Region.binds .any e with
 |true=>(m|||2^e.on)|||acc.getD e.on 0
 |false=>m
def mask (acc:List Nat)(o:Oper):Nat:=o.after.toList.foldl (aSa acc) 0
def LQ:List Oper->List Nat->List Nat
 | [],acc=>acc
 |o::l,acc=>LQ l (acc++[mask acc o])
def ovl (lo n lo' n':Nat):Bool:=v6 lo (lo'+n')&&v6 lo' (lo+n)
def meet:Option (Nat×Nat)->Option (Nat×Nat)->Bool
 |some (lo,n),some (lo',n')=>ovl lo n lo' n'
 |_,_=>true
def Fp.aAp:Fp->Up->Bool
 |.t i,.t j _=>ww i j
 |.c b r,.c b' o v=>ww b b'&&meet r (aN2 o v)
 |.c b _,.new b' _|.c b _,.kill b'|.z b,.new b' _|.z b,.kill b'=>ww b b'
 |_,_=>false
def Up.aAp:Up->Up->Bool
 |.t i _,.t j _=>ww i j
 |.c b o v,.c b' o' v'=>ww b b'&&meet (aN2 o v) (aN2 o' v')
 |.c b _ _,.new b' _|.c b _ _,.kill b'|.new b _,.c b' _ _|.kill b,.c b' _ _|.new b _,.new b' _|.new b _,.kill b'|.kill b,.new b' _|.kill b,.kill b'=>ww b b'
 |_,_=>false
structure Tr where
 fp:List Fp
 us:List Up
def Tr.agA (x y:Tr):Bool:=
 x.us.any (λu=>y.fp.any (·.aAp u)||y.us.any (·.aAp u))||y.us.any (λu=>x.fp.any (·.aAp u))
def RF (ms:List Nat):List Tr->Nat->Bool
 | [],_=>true
 |x::rest,j=>(rest.zipIdx.all λp=>Nat.testBit (ms.getD (j+1+p.2) 0) j|| !x.agA p.1)&&RF ms rest (j+1)
def RG:List Oper->Nat->Bool
 | [],_=>true
 |o::l,i=>(o.after.toList.all λe=> !Region.binds .any e||v6 e.on i)&&RG l (i+1)
def aYB (o:Oper)(nt:Nat):Bool:=
 match o.dst with
 |none=>true
 |some d=>v6 d nt
def OM (ops:List Oper)(j:Nat):Option Tmp:=(ops[j]?).bind (·.dst)
def agB {α ρ:Type}(l:List α):(List α->ρ)->ρ:=
 List.rec (motive:=λ_=>(List α->ρ)->ρ) (λk=>k []) (λa _ ih k=>ih λl=>k (a::l)) l
def avo {ρ:Type}(o:cD)(k:cD->ρ):ρ:=
 match o with
 |.k c=>k (.k c)
 |.x c i z=>k (.x c i z)
def aLf {ρ:Type}(n:Sz)(k:Sz->ρ):ρ:=
 match n with
 |.l n=>k (.l n)
 |.s n=>k (.s n)
def aDU {ρ:Type}(v:FV)(k:FV->ρ):ρ:=
 match v with
 |.u=>k .u
 |.b x=>k (.b x)
 |.i d n=>k (.i d n)
 |.s x=>k (.s x)
 |.q n g=>k (.q n g)
def ays {ρ:Type}(c:cS)(k:cS->ρ):ρ:=
 match c with
 |.i d g=>k (.i d g)
 |.b g=>k (.b g)
 |.s g=>k (.s g)
 |.u=>k .u
 |.q n g=>k (.q n g)
def WH {ρ:Type}(l:List cS):(List cS->ρ)->ρ:=
 List.rec (motive:=λ_=>(List cS->ρ)->ρ) (λk=>k []) (λa _ ih k=>ays a λa=>ih λl=>k (a::l)) l
def avp {ρ:Type}(l:List FV):(List FV->ρ)->ρ:=
 List.rec (motive:=λ_=>(List FV->ρ)->ρ) (λk=>k []) (λa _ ih k=>aDU a λa=>ih λl=>k (a::l)) l
def aDV {ρ:Type}(c:CV)(k:CV->ρ):ρ:=
 match c with
 |.f v=>aDU v λv=>k (.f v)
 |.ptr b o n=>avo o λo=>k (.ptr b o n)
 |.cl f b o n=>avo o λo=>k (.cl f b o n)
 |.ai9=>k .ai9
 |.sl b o l z w=>avo o λo=>aLf l λl=>k (.sl b o l z w)
 |.nils=>k .nils
 |.aTJ=>k .aTJ
 |.aTK=>k .aTK
 |.fs n z cols=>WH cols λcols=>k (.fs n z cols)
 |.fp l=>avp l λl=>k (.fp l)
def avq {ρ:Type}(s:Sg)(k:Sg->ρ):ρ:=
 match s with
 |.c v=>aDV v λv=>k (.c v)
 |.a n cols=>aLf n λn=>WH cols λcols=>k (.a n cols)
def aak {ρ:Type}(l:af):(af->ρ)->ρ:=
 List.rec (motive:=λ_=>(af->ρ)->ρ) (λk=>k []) (λa _ ih k=>avq a λa=>ih λl=>k (a::l)) l
def avr {ρ:Type}(r:RV)(k:RV->ρ):ρ:=
 match r with
 |.c c=>aDV c λc=>k (.c c)
 |.agg b=>aak b λb=>k (.agg b)
def alR {ρ:Type}(l:List RV):(List RV->ρ)->ρ:=
 List.rec (motive:=λ_=>(List RV->ρ)->ρ) (λk=>k []) (λa _ ih k=>avr a λa=>ih λl=>k (a::l)) l
def avs {ρ:Type}(v:AV)(k:AV->ρ):ρ:=
 match v with
 |.r r=>avr r λr=>k (.r r)
 |.tup rs=>alR rs λrs=>k (.tup rs)
 |.fn f rs=>alR rs λrs=>k (.fn f rs)
 |.WC=>k .WC
def aDW {ρ:Type}(u:Up)(k:Up->ρ):ρ:=
 match u with
 |.t i v=>avs v λv=>k (.t i v)
 |.c b o vs=>avo o λo=>aak vs λvs=>k (.c b o vs)
 |.new b bS=>aak bS λbS=>k (.new b bS)
 |.kill b=>k (.kill b)
def avt {ρ:Type}(l:List Up):(List Up->ρ)->ρ:=
 List.rec (motive:=λ_=>(List Up->ρ)->ρ) (λk=>k []) (λa _ ih k=>aDW a λa=>ih λl=>k (a::l)) l
def avu {ρ:Type}(l:List AV):(List AV->ρ)->ρ:=
 List.rec (motive:=λ_=>(List AV->ρ)->ρ) (λk=>k []) (λa _ ih k=>avs a λa=>ih λl=>k (a::l)) l
def avv {ρ:Type}(u:Option af)(k:Option af->ρ):ρ:=
 match u with
 |some b=>aak b λb=>k (some b)
 |none=>k none
def avw {ρ:Type}(l:List (Option af)):(List (Option af)->ρ)->ρ:=
 List.rec (motive:=λ_=>(List (Option af)->ρ)->ρ) (λk=>k []) (λa _ ih k=>avv a λa=>ih λl=>k (a::l)) l
def yB {ρ:Type}(s:St)(k:St->ρ):ρ:=
 match s with
 | ⟨t,h,d⟩=>avu t λt=>avw h λh=>agB d λd=>k ⟨t,h,d⟩
def Up.aer {ρ:Type}(k:Nat)(u:Up)(s:St)(c:St->Option ρ):Option ρ:=
 match u with
 |.t i v=>aAn s.tmps i v λt=>c {s with tmps:=t}
 |.c b o v=>match s.bS b with
  |some bS=>match bS.AJ o v with
   |some p=>match p.1&&wd (o.val+af.size v) (af.size bS) with
    |true=>aak p.2 λbS=>aAn s.heap b (some bS) λh=>agB (mark k b s.dz) λd=>c {s with heap:=h,dz:=d}
    |false=>none
   |none=>none
  |none=>none
 |.new b bS=>match ww b s.heap.length with
  |true=>agB (s.heap++[some bS]) λh=>c {s with heap:=h}
  |false=>none
 |.kill b=>aAn s.heap b none λh=>agB (mark k b s.dz) λd=>c {s with heap:=h,dz:=d}
def aer {ρ:Type}(k:Nat)(us:List Up):St->(St->Option ρ)->Option ρ:=
 List.rec (motive:=λ_=>St->(St->Option ρ)->Option ρ) (λs c=>c s) (λu _ ih s c=>u.aer k s λs=>ih s c) us
def LR (P:Program)(E:Env)(nt k:Nat)(ops:List Oper){ρ:Type}:List Oper->St->List Tr->(St->List Tr->Option ρ)->Option ρ
 | [],s,l,c=>c s l
 |o::rest,s,l,c=>
  let go (s:St) (fp:List Fp):Option ρ:=
   (aop P E o s.heap.length).run s fp λus fp=>avt us λus=>aer k us s λs'=>agB (l++[⟨fp,us⟩]) λl=>LR P E nt k ops rest s' l c
  let skip (s:St) (fp:List Fp):Option ρ:=aer k (ee o.dst udf) s λs'=>agB (l++[⟨fp,ee o.dst udf⟩]) λl=>LR P E nt k ops rest s' l c
  match aYB o nt with
  |false=>none
  |true=>
  match o.guard with
  |none=>go s []
  |some (j,want)=>match OM ops j with
   |none=>none
   |some t=>match s.tmp t with
    |.r (.c (.f (.b x)))=>match x with
     |true=>aAn s.tmps t (.r (.c (.f (.b true)))) λts=>match want with|true=>go {s with tmps:=ts} [.t t]|false=>skip {s with tmps:=ts} [.t t]
     |false=>aAn s.tmps t (.r (.c (.f (.b false)))) λts=>match want with|true=>skip {s with tmps:=ts} [.t t]|false=>go {s with tmps:=ts} [.t t]
    |.tup []=>skip s [.t t]
    |_=>none
inductive AX where
 |nrm
 |ex (id:Nat)
 |ret
def idx (b:Nat):List Nat->Nat->Option Nat
 | [],_=>none
 |x::l,i=>match ww x b with
  |true=>some i
  |false=>idx b l (i+1)
def alS (H b:Nat)(m:List Nat):Nat×List Nat:=
 match wd H b with
 |true=>match idx b m 0 with
  |some i=>(H+i,m)
  |none=>(H+m.length,m++[b])
 |false=>(b,m)
def gcC (H:Nat)(c:CV)(m:List Nat):CV×List Nat:=
 match c with
 |.ptr b o n=>let x:=alS H b m;(.ptr x.1 o n,x.2)
 |.cl f b o n=>let x:=alS H b m;(.cl f x.1 o n,x.2)
 |.sl b o l z w=>let x:=alS H b m;(.sl x.1 o l z w,x.2)
 |c=>(c,m)
def Hv {α:Type}(g:α->List Nat->α×List Nat):List α->List Nat->List α×List Nat
 | [],m=>([],m)
 |a::l,m=>let x:=g a m;let y:=Hv g l x.2;(x.1::y.1,y.2)
def gcS (H:Nat)(s:Sg)(m:List Nat):Sg×List Nat:=
 match s with
 |.c c=>let x:=gcC H c m;(.c x.1,x.2)
 |s=>(s,m)
def gcR (H:Nat)(r:RV)(m:List Nat):RV×List Nat:=
 match r with
 |.c c=>let x:=gcC H c m;(.c x.1,x.2)
 |.agg cs=>let x:=Hv (gcS H) cs m;(.agg x.1,x.2)
def gcA (H:Nat)(a:AV)(m:List Nat):AV×List Nat:=
 match a with
 |.r r=>let x:=gcR H r m;(.r x.1,x.2)
 |.tup rs=>let x:=Hv (gcR H) rs m;(.tup x.1,x.2)
 |.fn f rs=>let x:=Hv (gcR H) rs m;(.fn f x.1,x.2)
 |.WC=>(.WC,m)
def gcB (H:Nat)(b:Option af)(m:List Nat):Option af×List Nat:=
 match b with
 |some cs=>let x:=Hv (gcS H) cs m;(some x.1,x.2)
 |none=>(none,m)
def gcN (H:Nat)(heap:List (Option af)):Nat->Nat->List Nat->List (Option af)->Option (List (Option af)×List Nat)
 |0,_,_,_=>none
 |fuel+1,i,m,acc=>match m[i]? with
  |none=>some (acc,m)
  |some b=>let x:=gcB H ((heap[b]?).getD none) m;gcN H heap fuel (i+1) x.2 (acc++[x.1])
def gcO (k:Nat)(d:List Nat)(H:Nat):List (Option af)->Nat->List Nat->List (Option af)×List Nat
 | [],_,m=>([],m)
 |b::l,j,m=>match v6 j k&& !d.any (ww j) with
  |true=>let y:=gcO k d H l (j+1) m;(b::y.1,y.2)
  |false=>let x:=gcB H b m;let y:=gcO k d H l (j+1) x.2;(x.1::y.1,y.2)
def St.gc (k:Nat)(s:St)(H:Nat):Option St:=
 match wd H s.heap.length with
 |false=>none
 |true=>
 let x:=Hv (gcA H) s.tmps []
 let y:=gcO k s.dz H (s.heap.take H) 0 x.2
 match gcN H s.heap 1000 0 y.2 [] with
 |some z=>some {s with tmps:=x.1,heap:=y.1++z.1}
 |none=>none
structure Hd where
 id:Nat
 aET:List Nat
 nils:List (Nat×List CK)
structure Sm where
 id:Nat
 kk:Nat
 run:∀{ρ:Type},St->(AX->St->Option ρ)->Option ρ
structure Jn where
 hd:Hd
 sm:Sm
structure Hs where
 hd:List Hd
 sm:List Sm
 dz:List Nat
 jn:List Jn
 rk:Option Hd
def RH:Code->Option Nat
 |.region id _ _=>some id
 |.seq a _=>RH a
 |.block _ a=>RH a
 |.loop a=>RH a
 |_=>none
def aJf (c:CV):CV:=
 match c with
 |.sl b o len z own=>match o with
  |.k c=>.sl b (.x c 0 z) len z own
  |o=>.sl b o len z own
 |c=>c
def aEU (g:CV->CV)(s:Sg):Sg:=
 match s with
 |.c v=>.c (g v)
 |s=>s
def mapA (g:CV->CV)(a:AV):AV:=
 match a with
 |.r (.c v)=>.r (.c (g v))
 |a=>a
def ajb (g:CV->CV)(k:Nat)(d:List Nat):List (Option af)->Nat->List (Option af)
 | [],_=>[]
 |b::l,j=>(match v6 j k&& !d.any (ww j) with
  |true=>b
  |false=>b.map λb=>b.map (aEU g))::ajb g k d l (j+1)
def aOa (b n x:Nat):Nat:=
 match ww x b with
 |true=>n
 |false=>x
def aOb (b n:Nat)(c:CV):CV:=
 match c with
 |.ptr x o m=>.ptr (aOa b n x) o m
 |.cl f x o m=>.cl f (aOa b n x) o m
 |.sl x o l z w=>.sl (aOa b n x) o l z w
 |c=>c
def aYC (c:CV):CV:=
 match c with
 |.sl b o len z own=>.sl b o (.s len.val) z own
 |c=>c
def a1I (c:CV):CV:=aYC (aJf c)
def aJg (s:Sg):Sg:=
 match s with
 |.c v=>.c (a1I v)
 |s=>s
def aEV (a:AV):AV:=
 match a with
 |.r (.c v)=>.r (.c (a1I v))
 |a=>a
def slC (c:CV)(l:List (Nat×Nat)):List (Nat×Nat):=
 match c with
 |.sl b _ _ z _=>(b,z)::l
 |_=>l
def a35 (s:Sg)(l:List (Nat×Nat)):List (Nat×Nat):=
 match s with
 |.c v=>slC v l
 |_=>l
def a36 (a:AV)(l:List (Nat×Nat)):List (Nat×Nat):=
 match a with
 |.r (.c v)=>slC v l
 |_=>l
def a37 (b:Option af)(l:List (Nat×Nat)):List (Nat×Nat):=
 match b with
 |some b=>b.foldr a35 l
 |none=>l
def sls (s:St):List (Nat×Nat):=s.tmps.foldr a36 (s.heap.foldr a37 [])
def aYD (j:Nat):List (Nat×Nat)->Option Nat
 | []=>none
 |p::l=>match ww p.1 j with
  |true=>some p.2
  |false=>aYD j l
def aEW (l:List (Nat×Nat))(j:Nat)(b:af):af:=
 match aYD j l with
 |some z=>toS (atx z (b.map aJg))
 |none=>b.map aJg
def alT (k:Nat)(d:List Nat)(sl:List (Nat×Nat)):List (Option af)->Nat->List (Option af)
 | [],_=>[]
 |b::l,j=>(match v6 j k&& !d.any (ww j) with
  |true=>b
  |false=>b.map λb=>aEW sl j b)::alT k d sl l (j+1)
def aSb (k b:Nat)(s:St):St:=
 match s.bS b with
 |some bS=>match v6 b k with
  |true=>{s with tmps:=s.tmps.map (mapA (aOb b s.heap.length)),heap:=ajb (aOb b s.heap.length) k (mark k b s.dz) (s.heap.set b none++[some bS]) 0,dz:=mark k b s.dz}
  |false=>s
 |none=>s
def aJh (k:Nat)(s:St)(p:Nat×List CK):St:=
 match p.2 with
 | []=>match p.1 with
  |0=>{s with tmps:=s.tmps.map (mapA aJf),heap:=ajb aJf k s.dz s.heap 0}
  |1=>{s with tmps:=s.tmps.map aEV,heap:=alT k s.dz (sls s) s.heap 0}
  |b+2=>aSb k b s
 |_::_=>match s.tmp p.1 with
  |.r (.c .nils)=>{s with tmps:=s.tmps.set p.1 (.r (.c (.sl s.heap.length (.k 0) (.s 0) p.2.length true))),heap:=s.heap++[some [.a (.s 0) (p.2.map CK.om)]]}
  |_=>s
def aTY (id:Nat):List Hd->Option Hd
 | []=>none
 |h::l=>match ww h.id id with
  |true=>some h
  |false=>aTY id l
def aTZ (id:Nat):List Sm->Option Sm
 | []=>none
 |h::l=>match ww h.id id with
  |true=>some h
  |false=>aTZ id l
def aqU (hs:Hs)(a:Code):Option Sm:=
 match RH a with
 |none=>none
 |some id=>aTZ id hs.sm
def St.ack (k:Nat)(s:St)(h:Hd):Option St:=((h.nils.foldl (aJh k) {s with tmps:=h.aET.foldl (λl t=>l.set t WC) s.tmps}).gc k k)
def St.head (k:Nat)(s:St)(hs:Hs)(body:Code):Option St:=
 match RH body with
 |none=>s.gc k k
 |some id=>match aTY id hs.hd with
  |none=>s.gc k k
  |some h=>s.ack k h
def aT0 (id:Nat):List Jn->Option Jn
 | []=>none
 |h::l=>match ww h.sm.id id with
  |true=>some h
  |false=>aT0 id l
def aAj (hs:Hs)(b:Code):Option Jn:=
 match hs.jn with
 | []=>none
 |j::l=>match RH b with
  |none=>none
  |some id=>aT0 id (j::l)
def LJ (hs:Hs):Code->List Code
 |.seq a b=>(match aAj hs b with
  |some _=>[b]
  |none=>[])++(LJ hs a++LJ hs b)
 |.cond _ a b=>LJ hs a++LJ hs b
 |.block _ a=>LJ hs a
 |.loop a=>LJ hs a
 |_=>[]
def atA (id:Nat):Code->Option Code
 |.seq a b=>match(match RH b with
   |some i=>ww i id
   |none=>false) with
  |true=>some b
  |false=>match atA id a with
   |some c=>some c
   |none=>atA id b
 |.cond _ a b=>match atA id a with
  |some c=>some c
  |none=>atA id b
 |.block _ a=>atA id a
 |.loop a=>atA id a
 |_=>none
def aal (id:Nat):Code->Option Code
 |.seq a b=>match aal id a with
  |some c=>some c
  |none=>aal id b
 |.cond _ a b=>match aal id a with
  |some c=>some c
  |none=>aal id b
 |.block _ a=>aal id a
 |.loop a=>match RH a with
  |some j=>match ww j id with
   |true=>some a
   |false=>aal id a
  |none=>aal id a
 |_=>none
def LH:Code->List Code
 |.seq a b=>LH a++LH b
 |.cond _ a b=>LH a++LH b
 |.block _ a=>LH a
 |.loop a=>a::LH a
 |_=>[]
def aai (P:Program)(f:FuncId):Code:=((P.funcs[f]?).bind (·.body)).getD .skip
def aah (P:Program)(f:FuncId)(id:Nat):Code:=(aal id (aai P f)).getD .skip
def agp (P:Program)(f:FuncId)(id:Nat):Code:=(atA id (aai P f)).getD .skip
def tmpsOf (P:Program)(f:FuncId):Nat:=((P.funcs[f]?).map (·.ntmps)).getD 0
def iter {ρ:Type}(hd:St->Option St)(body:St->(AX->St->Option ρ)->Option ρ)(k:AX->St->Option ρ)(n:Nat):St->Option ρ:=
 Nat.rec (λ_=>none) (λ_ ih s=>body s λe s=>match e with
   |.nrm=>match hd s with
    |none=>none
    |some s=>yB s ih
   |e=>k e s) n
def next {ρ:Type}(hd:St->Option St)(c:St->Option ρ)(k:AX->St->Option ρ):AX->St->Option ρ:=λe s=>match e with
 |.nrm=>match hd s with
  |none=>none
  |some s=>yB s c
 |e=>k e s
def G8 (P:Program)(E:Env)(hs:Hs)(nt kk:Nat)(lf:Nat){ρ:Type}:Code->St->(AX->St->Option ρ)->Option ρ
 |.skip,s,k=>k .nrm s
 |.region _ ops draw,s,k=>match draw with
  |false=>LR P E nt kk ops.toList ops.toList s [] λs _=>k .nrm s
  |true=>LR P E nt kk ops.toList ops.toList s [] λs l=>match RG ops.toList 0&&RF (LQ ops.toList []) l 0 with
   |true=>k .nrm s
   |false=>none
 |.seq a b,s,k=>G8 P E hs nt kk lf a s λe s=>match e with
  |.nrm=>match aAj hs b with
   |none=>G8 P E hs nt kk lf b s k
   |some j=>match s.ack kk j.hd with
    |none=>none
    |some s=>yB s λs=>match ww j.sm.kk kk with
     |true=>j.sm.run s k
     |false=>none
  |e=>k e s
 |.cond (.tmp t) a b,s,k=>match s.tmp t with
  |.r (.c (.f (.b x)))=>match x with
   |true=>G8 P E hs nt kk lf a s k
   |false=>G8 P E hs nt kk lf b s k
  |_=>none
 |.block id a,s,k=>G8 P E hs nt kk lf a s λe s=>match e with
  |.ex j=>match ww j id with
   |true=>k .nrm s
   |false=>k (.ex j) s
  |e=>k e s
 |.loop a,s,k=>match s.head kk hs a with
  |none=>none
  |some s=>yB s λs=>match aqU hs a with
   |some σ=>match ww σ.kk kk with
    |true=>σ.run s k
    |false=>none
   |none=>iter (λt=>t.head kk hs a) (G8 P E hs nt kk lf a) k lf s
 |.exit id,s,k=>k (.ex id) s
 |.ret,s,k=>match hs.rk with
  |none=>k .ret s
  |some h=>match s.ack kk h with
   |none=>none
   |some s=>yB s λs=>k .ret s
 |_,_,_=>none
def aT1 (P:Program)(s:St):ResultVar->Option RV
 |.tmp t=>match s.tmp t with
  |.r v=>some v
  |_=>none
 |.cell a t=>match s.tmp a with
  |.r (.c (.ptr b o m))=>match aep P t,jd P t,s.bS b,o with
   |some true,some n,some bS,.k c=>match wd n m with
    |true=>(alM bS c (.l 1) n).map .agg
    |false=>none
   |some false,some _,some bS,.k c=>match wd 1 m with
    |true=>match alM bS c (.l 1) 1 with
     |some [.c v]=>some (.c v)
     |_=>none
    |false=>none
   |_,_,_,_=>none
  |_=>none
def ayt (P:Program)(s:St):List ResultVar->Option (List RV)
 | []=>some []
 |r::l=>match aT1 P s r,ayt P s l with
  |some v,some vs=>some (v::vs)
  |_,_=>none
def one:List RV->AV
 | [v]=>.r v
 |vs=>.tup vs
def ajc (s:List Nat):List (Option af)->Nat->List Ch
 | [],_=>[]
 |b::l,j=>(match s.any (ww j) with
  |false=>Ch.m7
  |true=>match b with
   |some b=>.set b
   |none=>.kill)::ajc s l (j+1)
def aEX {α:Type}:List (Option α)->Option (List α)
 | []=>some []
 |some a::l=>(aEX l).map (a:: ·)
 |none::_=>none
def fin (P:Program)(fn:Func)(k:Nat)(e:AX)(s:St):Option pS:=
 match e with
 |.ex _=>none
 |_=>match ayt P s fn.results.toList with
  |none=>none
  |some vs=>
   let x:=gcA k (one vs) []
   let y:=gcO k s.dz k (s.heap.take k) 0 x.2
   match gcN k s.heap 1000 0 y.2 [] with
   |some z=>match aEX z.1 with
    |some news=>some {val:=x.1,yM:=ajc s.dz y.1 0,news}
    |none=>none
   |none=>none
def start (fn:Func)(args:List AV)(h:List af)(d:List Nat):St:=
 {tmps:=args++List.replicate (fn.ntmps-args.length) udf,heap:=h.map some,dz:=d}
def den (P:Program)(E:Env)(hs:Hs)(lf:Nat)(f:FuncId)(args:List AV)(h:List af):Option pS:=
 match P.funcs[f]? with
 |none=>none
 |some fn=>match fn.body with
  |none=>none
  |some c=>match hs.dz.all λb=>v6 b h.length with
   |false=>none
   |true=>yB (start fn args h hs.dz) λs=>G8 P E hs fn.ntmps h.length lf c s (fin P fn h.length)
end Go.Ab
