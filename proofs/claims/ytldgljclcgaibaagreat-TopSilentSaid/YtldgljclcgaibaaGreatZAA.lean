/-
  Parts of the proof: Ab
-/
import Derived.Orders
import Derived.KernelRfl
import Derived.LoopN
open Nat renaming beq→ww,ble→wd,blt→v6
set_option linter.all false
noncomputable section
namespace Go.Ab
set_option linter.defProp false
def aSi:=@Array.getElem?_setIfInBounds_ne
def apQ:=@Int.mul_le_mul_of_nonneg_right
def aW8:=@Array.eq_empty_of_size_eq_zero
def apR:=@Array.getD_eq_getD_getElem?
def adn:=@List.getElem?_append_right
def aza:=@Int.tdiv_eq_ediv_of_nonneg
def mi:=@List.getElem?_eq_some_iff
def Ua:=@List.getElem?_append_left
def ah6:=@Array.getElem?_eq_getElem
def lq:=@List.getElem?_eq_getElem
def aa8:=@decide_eq_false_iff_not
def aDs:=@List.getElem?_cons_zero
def aJM:=@List.length_eq_zero_iff
def nq:=@Option.map_eq_some_iff
def asl:=@Array.getElem?_eq_none
def aDt:=@Nat.dvd_of_mod_eq_zero
def nQ:=@Nat.eq_of_beq_eq_true
def JM:=@List.getElem?_eq_none
def JN:=@Nat.le_of_ble_eq_true
def VE:=@Array.getElem?_toList
def aa9:=@Int.ediv_lt_of_lt_mul
def axd:=@Int.mul_ediv_add_emod
def axe:=@Nat.div_lt_iff_lt_mul
def axf:=@List.mem_iff_getElem?
def aDu:=@Nat.ble_eq_true_of_le
def aJN:=@Array.getElem?_modify
def dO:=@Int.ofNat_eq_natCast
def wC:=@Nat.mul_le_mul_right
def aDv:=@List.getElem?_zipIdx
def VF:=@Array.length_toList
def akG:=@beq_eq_false_iff_ne
def kO:=@of_decide_eq_false
def xE:=@Bool.false_eq_true
def Lq:=@Bool.true_eq_false
def Sp:=@List.getElem?_drop
def VG:=@Int.emod_lt_of_pos
def aba:=@Nat.eq_zero_or_pos
def abb:=@List.getElem?_take
def axg:=@List.length_append
def afs:=@Bool.not_eq_false'
def aDw:=@Nat.lt_of_lt_of_le
def cQ:=@of_decide_eq_true
def je:=@Option.some.injEq
def lC:=@decide_eq_true_eq
def pn:=@Bool.not_eq_true'
def BH:=@List.getElem?_map
def Fa:=@Int.emod_eq_of_lt
def Ls:=@Int.toNat_natCast
def aft:=@Nat.lt_trichotomy
def axh:=@List.append_assoc
def aDx:=@List.getElem?_set
def bL:=@Option.bind_some
def cx:=@Bool.and_eq_true
def Lt:=@Option.getD_some
def Lu:=@List.length_cons
def abc:=@List.any_eq_true
def akH:=@Array.toList_inj
def asm:=@List.length_drop
def axi:=@Nat.mod_eq_of_lt
def axj:=@List.all_eq_true
def axk:=@Int.ediv_le_self
def dm:=@decide_eq_false
def Ec:=@Int.ediv_nonneg
def Od:=@Option.some.inj
def Sq:=@Option.map_some
def abd:=@Int.emod_nonneg
def afu:=@List.length_map
def afv:=@Bool.or_eq_true
def akI:=@ne_of_beq_false
def asn:=@Nat.mul_add_mod
def eT:=@decide_eq_true
def JO:=@Int.mul_nonneg
def Oe:=@Int.mul_le_mul
def pw:=@Bool.true_and
def qU:=@Prod.mk.injEq
def BI:=@Nat.add_assoc
def Ed:=@false_implies
def JP:=@Bool.not_true
def Sr:=@Bool.or_false
def abe:=@List.mem_cons
def akJ:=@Int.mul_assoc
def gy:=@Nat.zero_add
def cq:=@Nat.le_trans
def kP:=@Nat.add_zero
def mZ:=@Sum.elim_inr
def px:=@Nat.lt_or_ge
def qV:=@Sum.elim_inl
def pC:=@Int.le_of_lt
def AE:=@Int.mul_comm
def Lv:=@Nat.beq_refl
def JQ:=@decide_false
def afw:=@Int.lt_or_le
def Of:=@true_implies
def Og:=@implies_true
def Ss:=@Nat.zero_mul
def abf:=@Nat.mul_comm
def AF:=@Int.le_trans
def axl:=@Int.le_total
def aso:=@Int.zero_add
def asp:=@Nat.succ_mul
def afx:=@Int.zero_mul
def dq:=@Nat.le_refl
def dg:=@Int.le_refl
def qx:=@Nat.add_mul
def I0:=@decide_true
def UM:=@Nat.one_mul
def afy:=@Int.add_mul
def bH:=@cond_false
def bz:=@cond_true
def Gp:=@ge_iff_le
def ck:=@congrArg
def gB:=@if_false
def Av:=@true_and
def BJ:=@and_true
def me:=@if_true
inductive FV where
 |u
 |b (x:Bool)
 |i (k:IntKind) (n:Int)
 |s (x:ByteArray)
 |q (n:Nat) (g:Nat->Bool)
inductive Sz where
 |l (n:Nat)
 |s (n:Nat)
def Sz.val:Sz->Nat
 |.l n=>n
 |.s n=>n
def Sz.add:Sz->Sz->Sz
 |.l a,.l b=>.l (a+b)
 |a,b=>.s (a.val+b.val)
def Sz.least:Sz->Sz->Sz
 |.l a,.l b=>.l (Nat.min a b)
 |a,b=>.s (Nat.min a.val b.val)
def Sz.mul (a:Sz)(k:Nat):Sz:=
 match ww k 1 with
 |true=>a
 |false=>match a with
  |.l a=>.l (a*k)
  |.s a=>.s (a*k)
inductive cE where
 |k (c:Nat)
 |x (c i z:Nat)
def cE.val:cE->Nat
 |.k c=>c
 |.x c i z=>c+i*z
def cE.add:cE->Nat->cE
 |.k c,d=>.k (c+d)
 |.x c i z,d=>.x (c+d) i z
def cE.plus:cE->cE->cE
 |.k c,.k d=>.k (c+d)
 |.x c i z,.k d=>.x (c+d) i z
 |.k c,.x d i z=>.x (c+d) i z
 |.x c i z,.x d j y=>match ww z y with
  |true=>.x (c+d) (i+j) z
  |false=>.x 0 (c+i*z+(d+j*y)) 1
def cE.idx (o:cE)(j z n:Nat):cE:=
 match o with
 |.k c=>.x c j z
 |.x c i y=>match ww y (n*z) with
  |true=>.x c (i*n+j) z
  |false=>.x 0 (c+i*y+j*z) 1
def cE.aMB (o:cE)(j z:Nat):cE:=
 match o with
 |.k c=>.x c j z
 |.x c i y=>match ww y z with
  |true=>.x c (i+j) z
  |false=>.x 0 (c+i*y+j*z) 1
inductive cT where
 |i (k:IntKind) (g:Nat->Int)
 |b (g:Nat->Bool)
 |s (g:Nat->ByteArray)
 |u
 |q (n:Nat->Nat) (g:Nat->Nat->Bool)
inductive CV where
 |f (v:FV)
 |ptr (b:Nat) (o:cE) (n:Nat)
 |ah7
 |sl (b:Nat) (o:cE) (len:Sz) (esz:Nat) (own:Bool)
 |nils
 |aSj
 |aSk
 |cl (f b:Nat) (o:cE) (n:Nat)
 |fs (n z:Nat) (cols:List cT)
 |fp (l:List FV)
inductive Sg where
 |c (v:CV)
 |a (n:Sz) (cols:List cT)
abbrev af:=List Sg
inductive RV where
 |c (v:CV)
 |agg (b:af)
inductive AV where
 |r (v:RV)
 |tup (vs:List RV)
 |fn (f:Nat) (ado:List RV)
 |VH
def VH:AV:=.VH
def udf:AV:=.tup []
def cT.at:cT->Nat->FV
 |.i k g,j=>.i k (g j)
 |.b g,j=>.b (g j)
 |.s g,j=>.s (g j)
 |.u,_=>.u
 |.q n g,j=>.q (n j) (g j)
def cT.shift (d:Nat):cT->cT
 |.i k g=>.i k λj=>g (d+j)
 |.b g=>.b λj=>g (d+j)
 |.s g=>.s λj=>g (d+j)
 |.u=>.u
 |.q n g=>.q (λj=>n (d+j)) λj=>g (d+j)
def cT.up (d:Nat):cT->cT
 |.i k g=>.i k λj=>g (j-d)
 |.b g=>.b λj=>g (j-d)
 |.s g=>.s λj=>g (j-d)
 |.u=>.u
 |.q n g=>.q (λj=>n (j-d)) λj=>g (j-d)
def cT.aSl (c:cT)(e:Nat)(v:CV):Option cT:=
 match c,v with
 |.i k g,.f (.i k' x)=>if k=k' then some (.i k λj=>cond (ww j e) x (g j)) else none
 |.b g,.f (.b x)=>some (.b λj=>cond (ww j e) x (g j))
 |.s g,.f (.s x)=>some (.s λj=>cond (ww j e) x (g j))
 |_,_=>none
def cT.mrg (p:Nat->Bool)(c d:cT):Option cT:=
 match c,d with
 |.i k g,.i k' h=>if k=k' then some (.i k λj=>cond (p j) (g j) (h j)) else none
 |.b g,.b h=>some (.b λj=>cond (p j) (g j) (h j))
 |.s g,.s h=>some (.s λj=>cond (p j) (g j) (h j))
 |_,_=>none
def at7 (p:Nat->Bool):List cT->List cT->Option (List cT)
 | [],[]=>some []
 |c::cs,d::ds=>match cT.mrg p c d,at7 p cs ds with
  |some e,some es=>some (e::es)
  |_,_=>none
 |_,_=>none
def Sg.size:Sg->Nat
 |.c _=>1
 |.a n cols=>n.val*cols.length
def Sg.get:Sg->Nat->CV
 |.c v,j=>match j with
  |0=>v
  |_+1=>.f .u
 |.a _ cols,j=>match cols[j%cols.length]? with
  |some q=>.f (q.at (j/cols.length))
  |none=>.f .u
def af.size:af->Nat
 | []=>0
 |s::l=>s.size+af.size l
def af.get:af->Nat->CV
 | [],_=>.f .u
 |s::l,j=>if j<s.size then s.get j else af.get l (j-s.size)
def af.list (b:af):List CV:=(List.range b.size).map b.get
def CV.fv:CV->FV
 |.f v=>v
 |_=>.u
def RV.bR:RV->af
 |.c v=>[.c v]
 |.agg b=>b
def shC (sh:Bool)(e:Nat)(cols:List cT):List cT:=
 match sh with
 |true=>cols.map (cT.shift e)
 |false=>cols
def aJO (sh:Bool)(cols:List cT)(e oi:Nat)(cF:Sz)(z:Nat):Option af:=
 match ww oi 0&&ww (z%cols.length) 0 with
 |true=>some [.a (cF.mul (z/cols.length)) (shC sh e cols)]
 |false=>none
def rowsOf (sh:Bool)(cols:List cT)(e oi:Nat)(cF:Sz)(z:Nat):Option af:=
 match cF with
 |.l n=>match ww n 1&&wd (oi+z) cols.length with
  |true=>some (((cols.drop oi).take z).map λq=>Sg.c (.f (q.at e)))
  |false=>aJO sh cols e oi (.l n) z
 |.s n=>aJO sh cols e oi (.s n) z
def VI:af->Nat->Option af
 | [],m=>match m with
  |0=>some []
  |_+1=>none
 |.c v::r,m=>match m with
  |0=>some []
  |m+1=>(VI r m).map (.c v:: ·)
 |.a n cols::r,m=>match m with
  |0=>some []
  |m+1=>match n with
   |.s _=>none
   |.l n=>match wd (n*cols.length) (m+1) with
    |true=>(VI r (m+1-n*cols.length)).map (.a (.l n) cols:: ·)
    |false=>rowsOf false cols 0 0 (.l 1) (m+1)
def nz:Nat->Bool
 |0=>false
 |_+1=>true
def akK:af->Nat->Sz->Nat->Option af
 | [],c,cF,z=>match cF with
  |.l n=>match ww (n*z) 0 with
   |true=>some []
   |false=>none
  |.s _=>none
 |.c v::r,c,cF,z=>match c with
  |0=>match cF with
   |.l n=>VI (.c v::r) (n*z)
   |.s _=>none
  |c+1=>akK r c cF z
 |.a n cols::r,c,cF,z=>match r with
  | []=>rowsOf (nz (c/cols.length)) cols (c/cols.length) (c%cols.length) cF z
  |_::_=>match n,cF with
   |.l n,.l m=>match wd (n*cols.length) c with
    |true=>akK r (c-n*cols.length) cF z
    |false=>match wd (c+m*z) (n*cols.length) with
     |true=>rowsOf (nz (c/cols.length)) cols (c/cols.length) (c%cols.length) cF z
     |false=>match c with
      |0=>VI (.a (.l n) cols::r) (m*z)
      |_+1=>none
   |_,_=>none
def elemOf (c i z zc:Nat):Nat:=
 match ww z zc with
 |true=>match c/zc with
  |0=>i
  |q+1=>q+1+i
 |false=>c/zc+i*(z/zc)
def azb:af->Nat->Nat->Nat->Sz->Nat->Option (Bool×af)
 | [],_,_,_,_,_=>none
 |.c v::r,c,i,z,cF,y=>match c with
  |0=>(akK (.c v::r) (i*z) cF y).map λb=>(true,b)
  |c+1=>azb r c i z cF y
 |.a n cols::r,c,i,z,cF,y=>match r with
  | []=>match ww (z%cols.length) 0 with
   |true=>(rowsOf true cols (elemOf c i z cols.length) (c%cols.length) cF y).map λb=>(true,b)
   |false=>none
  |_::_=>match n with
   |.l n=>match wd (n*cols.length) c with
    |true=>azb r (c-n*cols.length) i z cF y
    |false=>match ww (z%cols.length) 0 with
     |true=>(rowsOf true cols (elemOf c i z cols.length) (c%cols.length) cF y).map λb=>(wd (c+i*z+cF.val*y) (n*cols.length),b)
     |false=>none
   |.s _=>none
def af.sub (b:af)(o:cE)(cF:Sz)(z:Nat):Option (Bool×af):=
 match o with
 |.k c=>(akK b c cF z).map λb=>(true,b)
 |.x c i y=>azb b c i y cF z
def afz:List cT->Nat->Nat->CV->Option (List cT)
 | [],_,_,_=>none
 |c::cs,0,e,v=>(cT.aSl c e v).map (·::cs)
 |c::cs,j+1,e,v=>(afz cs j e v).map (c:: ·)
def DS (zc:Nat):List cT->Nat->Nat->af->Option (List cT)
 |cols,_,_,[]=>some cols
 |cols,e,oi,.c v::r=>match afz cols oi e v with
  |some dZ=>match ww (oi+1) zc with
   |true=>DS zc dZ (e+1) 0 r
   |false=>DS zc dZ e (oi+1) r
  |none=>none
 |_,_,_,.a _ _::_=>none
def aDy (cols:List cT)(e oi:Nat)(v:af):Option (List cT):=
 match v with
 | [.a m dZ]=>match ww oi 0&&ww cols.length dZ.length with
  |true=>at7 (λj=>wd e j&&v6 j (e+m.val)) (dZ.map (cT.up e)) cols
  |false=>none
 |v=>DS cols.length cols e oi v
def fU:af->af->Option af
 |b,[]=>some b
 |.c _::r,.c y::vs=>(fU r vs).map (.c y:: ·)
 |.a (.l n) cols::r,.a (.l m) dZ::vs=>match ww n m&&ww cols.length dZ.length with
  |true=>(fU r vs).map (.a (.l m) dZ:: ·)
  |false=>none
 |_,_=>none
def aJP (n:Sz)(cols:List cT)(v:af):Bool:=
 match n,v with
 |.l n,[.a (.l m) dZ]=>ww n m&&ww cols.length dZ.length
 |_,_=>false
def akL:af->Nat->af->Option af
 | [],_,v=>match v with
  | []=>some []
  |_::_=>none
 |.c x::r,c,v=>match c with
  |0=>fU (.c x::r) v
  |c+1=>(akL r c v).map (.c x:: ·)
 |.a n cols::r,c,v=>match r with
  | []=>match ww c 0&&aJP n cols v with
   |true=>some v
   |false=>(aDy cols (c/cols.length) (c%cols.length) v).map λcols=>[.a n cols]
  |_::_=>match n with
   |.s _=>none
   |.l n=>match wd (n*cols.length) c with
    |true=>(akL r (c-n*cols.length) v).map (.a (.l n) cols:: ·)
    |false=>match ww c 0&&aJP (.l n) cols v with
     |true=>some (v++r)
     |false=>match wd (c+af.size v) (n*cols.length) with
      |true=>(aDy cols (c/cols.length) (c%cols.length) v).map λcols=>.a (.l n) cols::r
      |false=>match c with
       |0=>fU (.a (.l n) cols::r) v
       |_+1=>none
def azc:af->Nat->Nat->Nat->af->Option (Bool×af)
 | [],_,_,_,_=>none
 |.c x::r,c,i,z,v=>match c with
  |0=>(akL (.c x::r) (i*z) v).map λb=>(true,b)
  |c+1=>(azc r c i z v).map λp=>(p.1,.c x::p.2)
 |.a n cols::r,c,i,z,v=>match r with
  | []=>match ww (z%cols.length) 0 with
   |true=>(aDy cols (elemOf c i z cols.length) (c%cols.length) v).map λcols=>(true,[.a n cols])
   |false=>none
  |_::_=>match n with
   |.l n=>match wd (n*cols.length) c with
    |true=>(azc r (c-n*cols.length) i z v).map λp=>(p.1,.a (.l n) cols::p.2)
    |false=>match ww (z%cols.length) 0 with
     |true=>(aDy cols (elemOf c i z cols.length) (c%cols.length) v).map λcols=>(wd (c+i*z+af.size v) (n*cols.length),.a (.l n) cols::r)
     |false=>none
   |.s _=>none
def af.Au (b:af)(o:cE)(v:af):Option (Bool×af):=
 match o with
 |.k c=>(akL b c v).map λb=>(true,b)
 |.x c i z=>azc b c i z v
def VJ:af->Bool
 | []=>true
 |.c _::r=>VJ r
 |.a _ _::_=>false
def aJQ:FV->Option cT
 |.i k x=>some (.i k λ_=>x)
 |.b x=>some (.b λ_=>x)
 |.s x=>some (.s λ_=>x)
 |.u=>none
 |.q _ _=>none
def Ey:Nat->af->Option (List cT)
 |0,_=>some []
 |z+1,.c (.f v)::r=>match aJQ v,Ey z r with
  |some c,some cs=>some (c::cs)
  |_,_=>none
 |_+1,_=>none
def rowOf (z:Nat)(b:af):Option af:=
 match VJ b&&(wd 1 z&&ww (b.length%z) 0) with
 |true=>match Ey z b with
  |some cols=>(DS z cols 0 0 b).map λcols=>[.a (.l (b.length/z)) cols]
  |none=>none
 |false=>none
def afA (cols:List cT):List Nat->af
 | []=>[]
 |j::l=>.c (match cols[j%cols.length]? with
  |some q=>.f (q.at (j/cols.length))
  |none=>.f .u)::afA cols l
def ui:af->af
 | []=>[]
 |.c v::r=>.c v::ui r
 |.a n cols::r=>match n with
  |.l n=>afA cols (List.range (n*cols.length))++ui r
  |.s n=>.a (.s n) cols::ui r
def aMC (n:Sz)(cols:List cT)(b:af):Option af:=
 match VJ b&&(wd 1 cols.length&&ww (b.length%cols.length) 0) with
 |true=>(DS cols.length cols n.val 0 b).map λcs=>[.a (n.add (.l (b.length/cols.length))) cs]
 |false=>none
def aSm (n:Sz)(cols:List cT)(b:af):Option af:=
 match b with
 | [.a m dZ]=>match ww cols.length dZ.length&&wd 1 cols.length with
  |true=>(at7 (λj=>v6 j n.val) cols (dZ.map (cT.up n.val))).map λcols=>[.a (n.add m) cols]
  |false=>aMC n cols (ui b)
 |b=>aMC n cols (ui b)
def aSn:af->Bool
 | []=>true
 |.c _::r=>aSn r
 |.a (.l _) _::r=>aSn r
 |.a (.s _) _::_=>false
def af.app (a b:af):Option af:=
 match a,b with
 | [],b=>some b
 |a,[]=>some a
 | [.a n cols],b=>aSm n cols b
 |a,[.a m dZ]=>match rowOf dZ.length (ui a) with
  |some [.a n cols]=>aSm n cols [.a m dZ]
  |_=>none
 |a,b=>match aSn a&&aSn b with
  |true=>some (a++b)
  |false=>none
def asq (z:Nat)(b:af):af:=
 match b with
 | []=>[]
 | [.a n cols]=>match ww cols.length z with
  |true=>[.a n cols]
  |false=>match rowOf z (ui [.a n cols]) with
   |some b=>b
   |none=>[.a n cols]
 |b=>match rowOf z (ui b) with
  |some r=>r
  |none=>b
structure St where
 tmps:List AV
 heap:List (Option af)
 dy:List Nat
def St.bR (s:St)(b:Nat):Option af:=(s.heap[b]?).getD none
def akM (l:List AV):Nat->AV:=List.rec (motive:=λ_=>Nat->AV) (λ_=>udf) (λa _ ih i=>Nat.rec (motive:=λ_=>AV) a (λm _=>ih m) i) l
def St.tmp (s:St)(i:Nat):AV:=akM s.tmps i
def azd {α ρ:Type}(l:List α):Nat->α->(List α->Option ρ)->Option ρ:=
 List.rec (motive:=λ_=>Nat->α->(List α->Option ρ)->Option ρ) (λ_ _ _=>none)
  (λa l ih i v k=>Nat.rec (motive:=λ_=>Option ρ) (k (v::l)) (λm _=>ih m v λl'=>k (a::l')) i) l
inductive Fp where
 |t (i:Nat)
 |c (b:Nat) (r:Option (Nat×Nat))
 |z (b:Nat)
inductive Up where
 |t (i:Nat) (v:AV)
 |c (b:Nat) (o:cE) (v:af)
 |new (b:Nat) (bR:af)
 |kill (b:Nat)
def ext (o:cE)(cF:Sz)(z:Nat):Option (Nat×Nat):=
 match o,cF with
 |.k c,.l n=>some (c,n*z)
 |_,_=>none
def szL:af->Option Nat
 | []=>some 0
 |.c _::r=>(szL r).map (1+ ·)
 |.a (.l n) cols::r=>(szL r).map (n*cols.length+ ·)
 |.a (.s _) _::_=>none
def aMD (o:cE)(v:af):Option (Nat×Nat):=
 match o with
 |.k c=>(szL v).map λn=>(c,n)
 |_=>none
inductive Rd (α:Type):Type 1 where
 |ret (a:α)
 |fail
 |tm (i:Nat) (k:AV->Rd α)
 |vw (b:Nat) (o:cE) (cF:Sz) (z:Nat) (k:af->Rd α)
 |sz (b:Nat) (k:Rd α)
 |test (x:Bool) (k:Bool->Rd α)
 |opt {D:Type} (x:Option D) (k:D->Rd α)
def Rd.bind {α β:Type}:Rd α->(α->Rd β)->Rd β
 |.ret a,f=>f a
 |.fail,_=>.fail
 |.tm i k,f=>.tm i λv=>(k v).bind f
 |.vw b o cF z k,f=>.vw b o cF z λv=>(k v).bind f
 |.sz b k,f=>.sz b (k.bind f)
 |.test x k,f=>.test x λv=>(k v).bind f
 |.opt x k,f=>.opt x λv=>(k v).bind f
def ey {α:Type}:Option α->Rd α
 |some a=>.ret a
 |none=>.fail
def cN (x:Bool):Rd Unit:=.test x λ|true=>.ret ()|false=>.fail
def Rd.run {α ρ:Type}:Rd α->St->List Fp->(α->List Fp->Option ρ)->Option ρ
 |.ret a,_,l,k=>k a l
 |.fail,_,_,_=>none
 |.tm i m,s,l,k=>(m (s.tmp i)).run s (.t i::l) k
 |.vw b o cF z m,s,l,k=>
  match s.bR b with
  |some bR=>match bR.sub o cF z with
   |some p=>match p.1 with
    |true=>(m p.2).run s (.z b:: .c b (ext o cF z)::l) k
    |false=>none
   |none=>none
  |none=>none
 |.sz b m,s,l,k=>
  match s.bR b with
  |some _=>m.run s (.z b::l) k
  |none=>none
 |.test x m,s,l,k=>
  match x with
  |true=>(m true).run s l k
  |false=>(m false).run s l k
 |.opt x m,s,l,k=>
  match x with
  |some d=>(m d).run s l k
  |none=>none
def aDz (b:af)(o:cE)(cF:Sz)(z:Nat):Rd af:=
 match b.sub o cF z with
 |some p=>.test p.1 λ|true=>.ret p.2|false=>.fail
 |none=>.fail
def ofC:Value->Option CV
 |.bool b=>some (.f (.b b))
 |.int k n=>some (.f (.i k n))
 |.string s=>some (.f (.s s))
 |.pointer none=>some .ah7
 |.slice none 0 0=>some .nils
 |.nilFunc=>some .aSj
 |.nilIface=>some .aSk
 |_=>none
def aHO:List Value->Option af
 | []=>some []
 |v::vs=>match ofC v,aHO vs with
  |some c,some cs=>some (.c c::cs)
  |_,_=>none
def ofR:Value->Option RV
 |.agg cs=>(aHO cs.toList).map .agg
 |v=>(ofC v).map .c
def Ee:Operand->Rd AV
 |.tmp t=>.tm t .ret
 |.const v=>(ey (ofR v)).bind λr=>.ret (.r r)
 |.func f=>.ret (.fn f [])
 |.global _=>.fail
def asR:AV->Rd RV
 |.r v=>.ret v
 |_=>.fail
def asC:AV->Rd CV
 |.r (.c v)=>.ret v
 |_=>.fail
def asI:AV->Rd (IntKind×Int)
 |.r (.c (.f (.i k n)))=>.ret (k,n)
 |_=>.fail
def asB:AV->Rd Bool
 |.r (.c (.f (.b x)))=>.ret x
 |_=>.fail
def asP:AV->Rd (Nat×cE×Nat)
 |.r (.c (.ptr b o n))=>.ret (b,o,n)
 |_=>.fail
def wD (x:Operand):Rd RV:=(Ee x).bind asR
def asS:AV->Rd RV
 |.r v=>.ret v
 |.fn f [.c (.ptr b o n)]=>.ret (.c (.cl f b o n))
 |_=>.fail
def aME (x:Operand):Rd RV:=(Ee x).bind asS
def G9 (x:Operand):Rd CV:=(Ee x).bind asC
def KH (x:Operand):Rd (IntKind×Int):=(Ee x).bind asI
def aHP (x:Operand):Rd Bool:=(Ee x).bind asB
def aMF (x:Operand):Rd (Nat×cE×Nat):=(Ee x).bind asP
def uj {α β:Type}(f:α->Rd β):List α->Rd (List β)
 | []=>.ret []
 |a::l=>(f a).bind λb=>(uj f l).bind λbs=>.ret (b::bs)
def adp (P:Program)(t:TypeId):Option Bool:=
 match P.underlying t with
 |some (.struct _)|some (.array _ _)=>some true
 |some _=>some false
 |none=>none
def jf (P:Program)(t:TypeId):Option Nat:=(P.info? t).map (·.size)
def afB (P:Program)(t:TypeId)(i:Nat):Option Field:=
 match P.underlying t with
 |some (.struct fs)=>fs[i]?
 |_=>none
def aSo (P:Program)(n:Nat)(e:TypeId):Bool:=
 wd 9 n||match P.underlying e with
 |some (.int .u64)=>wd 8 n
 |some (.struct _)=>wd 4 n
 |_=>false
inductive Tm where
 |c
 |a (n z:Nat)
def aSp {α:Type}:Nat->List α->List α
 |0,_=>[]
 |n+1,l=>l++aSp n l
def akN (P:Program):Nat->TypeId->List Tm
 |0,_=>[]
 |d+1,t=>match P.underlying t with
  |some (.struct fs)=>(fs.toList.map λf=>akN P d f.type).flatten
  |some (.array n e)=>match aSo P n e with
   |true=>match akN P d e with
    | [.a m z]=>[.a (n*m) z]
    |_=>[.a n ((jf P e).getD 0)]
   |false=>aSp n (akN P d e)
  |_=>[.c]
def FV.same:FV->FV->Bool
 |.b x,.b y=>x==y
 |.i k x,.i k' y=>decide (k=k')&&x==y
 |_,_=>false
def VK (z:Nat)(row:af):Nat->af->Option af
 |0,b=>some b
 |m+1,.c (.f v)::r=>match row[(m%z)]? with
  |some (.c (.f y))=>match v.same y with
   |true=>VK z row m r
   |false=>none
  |_=>none
 |_+1,_=>none
def abg:List Tm->af->Option af
 | [],[]=>some []
 |.c::tm,.c v::r=>(abg tm r).map (.c v:: ·)
 |.a n z::tm,b=>match Ey z b with
  |some cols=>match wd 1 z with
   |true=>match VK z ((b.take z).reverse) (n*z) b with
    |some r=>(abg tm r).map (.a (.l n) cols:: ·)
    |none=>none
   |false=>none
  |none=>none
 |_,_=>none
def AG (P:Program)(t:TypeId):Option RV:=
 match((P.info? t).bind (·.zero)).bind ofR with
 |some (.agg b)=>(abg (akN P 30 t) b).map .agg
 |r=>r
def FV.isB:FV->Bool
 |.b _=>true
 |_=>false
def FV.toB:FV->Bool
 |.b x=>x
 |_=>false
def FV.isI (k:IntKind):FV->Bool
 |.i k' _=>decide (k'=k)
 |_=>false
def FV.toI:FV->Int
 |.i _ n=>n
 |_=>0
def FV.isS:FV->Bool
 |.s _=>true
 |_=>false
def FV.toS:FV->ByteArray
 |.s x=>x
 |_=>.empty
def aHQ (P:Program)(t:TypeId)(c:CV):Rd CV:=
 match P.underlying t,c with
 |some .bool,.f x=>.test x.isB λ|true=>.ret (.f (.b x.toB))|false=>.fail
 |some (.int k),.f x=>.test (x.isI k) λ|true=>.ret (.f (.i k x.toI))|false=>.fail
 |some .string,.f x=>.test x.isS λ|true=>.ret (.f (.s x.toS))|false=>.fail
 |some (.slice _),.f (.q n g)=>.ret (.fs n 1 [.b g])
 |_,c=>.ret c
def afC:List Tm->af->Option af
 | [],[]=>some []
 |.c::tm,.c v::r=>(afC tm r).map (.c v:: ·)
 |.a n z::tm,b=>match wd (n*z) b.length with
  |true=>match rowOf z (b.take (n*z)) with
   |some row=>(afC tm (b.drop (n*z))).map (row++ ·)
   |none=>none
  |false=>none
 |_,_=>none
def norm (P:Program)(t:TypeId)(l:af):af:=
 match VJ l&&wd 8 l.length with
 |true=>match afC (akN P 30 t) l with
  |some r=>r
  |none=>l
 |false=>match VJ l with
  |true=>l
  |false=>match(akN P 30 t).all (λ|.c=>true|.a _ _=>false) with
   |true=>ui l
   |false=>l
def apS (P:Program)(t:TypeId)(v:RV):Rd RV:=
 match v with
 |.c c=>(aHQ P t c).bind λc=>.ret (.c c)
 |.agg l=>.ret (.agg (norm P t l))
def asr:af->Rd RV
 | [.c v]=>.ret (.c v)
 |_=>.fail
def Zu (P:Program)(t:TypeId)(b:Nat)(o:cE)(m:Nat):Rd RV:=
 (ey (adp P t)).bind λa=>(ey (jf P t)).bind λn=>
  match a with
  |true=>(cN (wd n m)).bind λ_=>.vw b o (.l 1) n λl=>.ret (.agg l)
  |false=>(cN (wd 1 m)).bind λ_=>.vw b o (.l 1) 1 asr
def valueOf (P:Program)(t:TypeId)(b:Nat)(o:cE)(m:Nat):Rd RV:=(Zu P t b o m).bind (apS P t)
def aJR (P:Program)(t:TypeId)(cs:af)(o:cE):Rd RV:=
 (ey (adp P t)).bind λa=>(ey (jf P t)).bind λn=>
  match a with
  |true=>(aDz cs o (.l 1) n).bind λl=>.ret (.agg l)
  |false=>(aDz cs o (.l 1) 1).bind asr
def partOf (P:Program)(t:TypeId)(cs:af)(o:cE):Rd RV:=(aJR P t cs o).bind (apS P t)
def Oh (P:Program)(t:TypeId)(cs:af)(c:Nat):Rd RV:=
 (ey (jf P t)).bind λn=>(cN (wd 1 n&&wd (c+n) (af.size cs))).bind λ_=>partOf P t cs (.k c)
def ass (op:BinOp)(k:IntKind)(x y:Int):Option Int:=
 let a:=BitVec.ofInt k.bits x
 let b:=BitVec.ofInt k.bits y
 match op with
 |.and=>some (k.wrap (a&&&b).toNat)
 |.or=>some (k.wrap (a|||b).toNat)
 |.xor=>some (k.wrap (a^^^b).toNat)
 |.andNot=>some (k.wrap (a&&& ~~~b).toNat)
 |_=>none
def aW9 (op:BinOp)(k:IntKind)(x y:Int):Rd FV:=
 match op with
 |.add=>.ret (.i k (k.wrap (x+y)))
 |.sub=>.ret (.i k (k.wrap (x-y)))
 |.mul=>.ret (.i k (k.wrap (x*y)))
 |.quo=>(cN (!decide (y=0))).bind λ_=>.ret (.i k (k.wrap (x.tdiv y)))
 |.rem=>(cN (!decide (y=0))).bind λ_=>.ret (.i k (x.tmod y))
 |.eql=>.ret (.b (x==y))
 |.neq=>.ret (.b (x !=y))
 |.lss=>.ret (.b (decide (x<y)))
 |.leq=>.ret (.b (decide (x<=y)))
 |.gtr=>.ret (.b (decide (x>y)))
 |.geq=>.ret (.b (decide (x>=y)))
 |.shl|.shr=>.fail
 |op=>(ey (ass op k x y)).bind λn=>.ret (.i k n)
def aSq (op:BinOp)(k:IntKind)(x y:Int):Rd FV:=
 (cN (!decide (y<0))).bind λ_=>
  match op with
  |.shl=>.ret (.i k (k.wrap (x*2^(min y.toNat k.bits))))
  |.shr=>.ret (.i k (x.fdiv (2^(min y.toNat k.bits))))
  |_=>.fail
def aSr (n:Nat)(p:Nat->Bool):Bool:=(List.range n).all p
def aDA (n:Nat):List cT->List cT->Option Bool
 | [.i k g],[.i k' h]=>if k=k' then some (aSr n λj=>g j==h j) else none
 | [.b g],[.b h]=>some (aSr n λj=>g j==h j)
 |_,_=>none
def adq (P:Program)(e:TypeId)(c:List cT):Bool:=
 match P.underlying e,c with
 |some .bool,[.b _]=>true
 |some (.int _),[.i _ _]=>true
 |_,_=>false
def aMG (P:Program)(ah8:TypeId->RV->RV->Rd Bool)(xs ys:af):List Field->Rd Bool
 | []=>.ret true
 |f::fs=>if f.name≠"_" then
   (Oh P f.type xs f.offset).bind λa=>(Oh P f.type ys f.offset).bind λb=>(ah8 f.type a b).bind λr=>(aMG P ah8 xs ys fs).bind λs=>.ret (r&&s)
  else aMG P ah8 xs ys fs
def aXa (P:Program)(ah8:TypeId->RV->RV->Rd Bool)(e:TypeId)(z:Nat)(xs ys:af):List Nat->Rd Bool
 | []=>.ret true
 |i::l=>(Oh P e xs (i*z)).bind λa=>(Oh P e ys (i*z)).bind λb=>(ah8 e a b).bind λr=>(aXa P ah8 e z xs ys l).bind λs=>.ret (r&&s)
def aXb (P:Program)(d n z:Nat)(e:TypeId)(xs ys:af):Option Bool:=
 match xs,ys with
 | [.a (.l m) c],[.a (.l m') c']=>match wd 1 d&&(ww z 1&&(ww m n&&(ww m' n&&adq P e c))) with
  |true=>aDA n c c'
  |false=>none
 |_,_=>none
def eqT (P:Program):Nat->TypeId->RV->RV->Rd Bool
 |0,_,_,_=>.fail
 |d+1,t,x,y=>match P.underlying t,x,y with
  |some .bool,.c (.f (.b a)),.c (.f (.b b))=>.ret (a==b)
  |some (.int _),.c (.f (.i k a)),.c (.f (.i k' b))=>if k=k' then .ret (a==b) else .fail
  |some .string,.c (.f (.s a)),.c (.f (.s b))=>.ret (a==b)
  |some (.pointer _),.c .ah7,.c .ah7=>.ret true
  |some (.pointer _),.c (.ptr _ _ _),.c .ah7|some (.pointer _),.c .ah7,.c (.ptr _ _ _)=>.ret false
  |some (.struct fs),.agg xs,.agg ys=>match P.stoodInHeld t with
   |true=>.fail
   |false=>aMG P (eqT P d) xs ys fs.toList
  |some (.array n e),.agg xs,.agg ys=>(ey (jf P e)).bind λz=>match aXb P d n z e xs ys with
   |some r=>.ret r
   |none=>aXa P (eqT P d) e z xs ys (List.range n)
  |_,_,_=>.fail
def eqV (P:Program)(t:TypeId)(x y:RV):Rd Bool:=
 match x,y with
 |.agg _,.agg _=>match P.eqGuardType P.depth t with
  |true=>.fail
  |false=>eqT P 30 t x y
 |.c (.f (.i _ _)),_|.c (.f (.s _)),_|.c (.f .u),_|.c (.f (.q _ _)),_=>.fail
 |_,_=>eqT P 30 t x y
def aXc (P:Program)(op:BinOp)(t:TypeId)(x y:RV):Rd RV:=
 match x,y with
 |.c (.f (.i k a)),.c (.f (.i k' b))=>
  match op with
  |.shl|.shr=>(aSq op k a b).bind λv=>.ret (.c (.f v))
  |op=>if k=k' then(aW9 op k a b).bind λv=>.ret (.c (.f v)) else .fail
 |x,y=>
  match op with
  |.eql=>(eqV P t x y).bind λr=>.ret (.c (.f (.b r)))
  |.neq=>(eqV P t x y).bind λr=>.ret (.c (.f (.b (!r))))
  |_=>.fail
def unV (op:UnOp)(x:RV):Rd RV:=
 match op,x with
 |.neg,.c (.f (.i k n))=>.ret (.c (.f (.i k (k.wrap (0-n)))))
 |.xor,.c (.f (.i k n))=>(ey (ass .xor k (if k.signed then -1 else k.max) n)).bind λr=>.ret (.c (.f (.i k r)))
 |.not,.c (.f (.b x))=>.ret (.c (.f (.b (!x))))
 |_,_=>.fail
def aQF (P:Program)(src dst:TypeId)(x:RV):Rd RV:=
 match P.underlying src,P.underlying dst,x with
 |some _,some (.int k),.c (.f (.i _ n))=>.ret (.c (.f (.i k (k.wrap n))))
 |_,_,_=>.fail
def bb (i:Int)(n:Nat):Bool:=decide (0<=i)&&decide (i<(n:Int))
def KI (i:Int)(n:Nat):Bool:=decide (0<=i)&&decide (i<=(n:Int))
def apT (i:Int):Nat->Rd Nat
 |0=>.ret 0
 |n+1=>.test (i==((n+1:Nat):Int)) λ|true=>.ret (n+1)|false=>apT i n
def sel (P:Program)(o:cE)(i:Int)(n:Nat)(e:TypeId)(z:Nat):Rd cE:=
 match aSo P n e with
 |true=>.ret (o.idx i.toNat z n)
 |false=>match wd n 8 with
  |true=>(apT i (n-1)).bind λj=>.ret (o.add (j*z))
  |false=>.ret (o.idx i.toNat z n)
def aMH (P:Program)(o:cE)(i:Int)(len:Sz)(e:TypeId)(z:Nat):Rd cE:=
 match len with
 |.l n=>match !aSo P n e&&wd n 8 with
  |true=>(apT i (n-1)).bind λj=>.ret (o.add (j*z))
  |false=>.ret (o.aMB i.toNat z)
 |.s _=>.ret (o.aMB i.toNat z)
def aDB (l:List FV):af:=l.map λv=>.c (.f v)
def aDC (P:Program)(t:TypeId)(l:List FV):Rd RV:=
 (ey (adp P t)).bind λa=>(ey (jf P t)).bind λn=>
  match a with
  |true=>(cN (ww n l.length)).bind λ_=>apS P t (.agg (aDB l))
  |false=>match l with
   |v::_=>apS P t (.c (.f v))
   | []=>.fail
def axm (P:Program)(t:TypeId)(x:CV)(i:Nat):Rd CV:=
 match x with
 |.fp l=>(ey (afB P t i)).bind λf=>(ey (jf P f.type)).bind λn=>
  (cN (wd 1 n&&wd (f.offset+n) l.length)).bind λ_=>.ret (.fp ((l.drop f.offset).take n))
 |.ptr b o m=>(ey (afB P t i)).bind λf=>(ey (jf P f.type)).bind λn=>
  (cN (wd 1 n&&wd (f.offset+n) m)).bind λ_=>.ret (.ptr b (o.add f.offset) n)
 |_=>.fail
def Ez (b:ByteArray)(n:Nat):Int:=match b[n]? with
 |some x=>Int.ofNat x.toNat
 |none=>0
def axn (P:Program)(t:TypeId)(x:CV)(i:Int):Rd CV:=
 match P.underlying t,x with
 |some (.array n e),.ptr b o m=>(ey (jf P e)).bind λz=>(cN (wd (n*z) m)).bind λ_=>
  (cN (bb i n)).bind λ_=>(sel P o i n e z).bind λo=>.ret (.ptr b o z)
 |some (.slice e),.sl b o len z' _=>(ey (jf P e)).bind λz=>(cN (ww z z')).bind λ_=>
  (cN (bb i len.val)).bind λ_=>(aMH P o i len e z).bind λo=>.ret (.ptr b o z)
 |some (.slice e),.fs n z' cols=>(ey (jf P e)).bind λz=>(cN (ww z z')).bind λ_=>
  (cN (bb i n)).bind λ_=>.ret (.fp (cols.map λq=>q.at i.toNat))
 |some (.array n e),.fp l=>(ey (jf P e)).bind λz=>(cN (wd (n*z) l.length&&wd n 8)).bind λ_=>
  (cN (bb i n)).bind λ_=>(apT i (n-1)).bind λj=>.ret (.fp ((l.drop (j*z)).take z))
 |_,_=>.fail
def aze (x:Option Operand):Rd (Option Int):=
 match x with
 |none=>.ret none
 |some x=>(KH x).bind λi=>.ret (some i.2)
def Ub (lo hi:Option Int)(n:Nat):Rd (Nat×Nat):=
 (match hi with
  |none=>Rd.ret n
  |some h=>(cN (KI h n)).bind λ_=>.ret h.toNat).bind λh=>
 (match lo with
  |none=>Rd.ret 0
  |some l=>(cN (KI l h)).bind λ_=>.ret l.toNat).bind λl=>.ret (l,h)
def szQ (q:Bool)(n:Nat):Sz:=
 match q with
 |true=>.l n
 |false=>.s n
def vD (x:Option Operand):Bool:=
 match x with
 |none=>true
 |some (.const _)=>true
 |_=>false
def apU (q:Bool)(n:Sz):Bool:=
 match n with
 |.l _=>q
 |.s _=>false
def lenOf (q:Bool)(lo hi:Option Int)(n:Sz)(lh:Nat×Nat):Sz:=
 match lo,hi with
 |none,none=>n
 |none,some _=>szQ q lh.2
 |some _,_=>szQ q (lh.2-lh.1)
def afD (q:Bool)(lo:Option Int)(o:cE)(l z:Nat):cE:=
 match lo with
 |none=>o
 |some _=>match q with
  |true=>o.add (l*z)
  |false=>o.aMB l z
def at8 (lo:Option Int)(l:Nat)(cols:List cT):List cT:=
 match lo with
 |none=>cols
 |some _=>cols.map (cT.shift l)
def aJS (P:Program)(t:TypeId)(x:CV)(q:Bool)(lo hi:Option Int):Rd CV:=
 match P.underlying t,x with
 |some (.array n e),.ptr b o m=>(ey (jf P e)).bind λz=>(cN (wd (n*z) m)).bind λ_=>
  (Ub lo hi n).bind λlh=>.ret (.sl b (afD q lo o lh.1 z) (lenOf q lo hi (.l n) lh) z false)
 |some (.slice e),.sl b o len z own=>(ey (jf P e)).bind λz'=>(cN (ww z z')).bind λ_=>
  (Ub lo hi len.val).bind λlh=>.ret (.sl b (afD (apU q len) lo o lh.1 z) (lenOf (apU q len) lo hi len lh) z (own&&hi.isNone))
 |some (.slice e),.nils=>(ey (jf P e)).bind λ_=>(Ub lo hi 0).bind λ_=>.ret .nils
 |some (.slice e),.fs n z cols=>(ey (jf P e)).bind λz'=>(cN (ww z z')).bind λ_=>
  (Ub lo hi n).bind λlh=>.ret (.fs (lenOf false lo hi (.s n) lh).val z (at8 lo lh.1 cols))
 |_,_=>.fail
def placesOf (P:Program)(t:TypeId):Option (Nat->Option (Nat×Nat)):=
 match P.underlying t with
 |some (.struct fs)=>(fs.toList.mapM λf=>(P.info? f.type).map λi=>(f.offset,i.size)).map λl i=>l[i]?
 |some (.array _ e)=>(jf P e).map λn i=>some (i*n,n)
 |_=>none
def akO (pl:Nat->Option (Nat×Nat)):af->List (Nat×RV)->Option af
 |cs,[]=>some cs
 |cs,(i,v)::rest=>match pl i with
  |none=>none
  |some (o,n)=>match ww (af.size v.bR) n&&wd (o+n) (af.size cs) with
   |true=>match akL cs o v.bR with
    |some Su=>akO pl Su rest
    |none=>none
   |false=>none
def rep:Nat->af->af
 |0,_=>[]
 |n+1,l=>l++rep n l
inductive Ch where
 |nc
 |set (b:af)
 |kill
structure pz where
 val:AV
 yo:List Ch
 news:List af
inductive T:Type 1 where
 |leaf (r:pz)
 |fail
 |test (x:Bool) (a b:T)
 |opt {D:Type} (x:Option D) (k:D->T)
def T.eval:T->Option pz
 |.leaf r=>some r
 |.fail=>none
 |.test x a b=>match x with
  |true=>a.eval
  |false=>b.eval
 |.opt x k=>match x with
  |some d=>(k d).eval
  |none=>none
def T.rd:T->Rd pz
 |.leaf r=>.ret r
 |.fail=>.fail
 |.test x a b=>.test x λ|true=>a.rd|false=>b.rd
 |.opt x k=>.opt x λd=>(k d).rd
abbrev E9:=List AV->List af->T
abbrev Env:=Nat->Option E9
structure Vw where
 b:Nat
 o:cE
 cF:Sz
 z:Nat
 sl:Bool
 own:Bool
def Vw.n (v:Vw):Nat:=v.cF.val*v.z
def abh (b:Nat)(e:Option (Nat×Nat)):List Vw->Nat->Option (Nat×Nat×Bool)
 | [],_=>none
 |v::vs,i=>match ww v.b b with
  |false=>abh b e vs (i+1)
  |true=>match e,ext v.o v.cF v.z with
   |some (o,n),some (o',n')=>match wd o' o&&wd (o+n) (o'+n') with
    |true=>some (i,o-o',v.own)
    |false=>abh b e vs (i+1)
   |_,_=>abh b e vs (i+1)
def at9 (b:Nat)(e:Option (Nat×Nat))(vs:List Vw):Bool:=
 vs.all λv=> !Nat.beq v.b b||match e,ext v.o v.cF v.z with
  |some (o,n),some (o',n')=>wd (o+n) o'||wd (o'+n') o
  |_,_=>false
def aSs (c:CV)(vs:List Vw):Rd (CV×List Vw):=
 match c with
 |.ptr b o n=>match abh b (ext o (.l 1) n) vs 0 with
  |some (i,d,_)=>.ret (.ptr i (.k d) n,vs)
  |none=>(cN (at9 b (ext o (.l 1) n) vs)).bind λ_=>.ret (.ptr vs.length (.k 0) n,vs++[⟨b,o,.l 1,n,false,false⟩])
 |.cl f b o n=>match abh b (ext o (.l 1) n) vs 0 with
  |some (i,d,_)=>.ret (.cl f i (.k d) n,vs)
  |none=>(cN (at9 b (ext o (.l 1) n) vs)).bind λ_=>.ret (.cl f vs.length (.k 0) n,vs++[⟨b,o,.l 1,n,false,false⟩])
 |.sl b o len z own=>match abh b (ext o len z) vs 0 with
  |some (i,d,ow)=>.ret (.sl i (.k d) (.s len.val) z (own&&ow),vs)
  |none=>(cN (at9 b (ext o len z) vs)).bind λ_=>
   .ret (.sl vs.length (.k 0) (.s len.val) z (own&&vs.all λv=> !Nat.beq v.b b|| !v.own),vs++[⟨b,o,len,z,true,own&&vs.all λv=> !Nat.beq v.b b|| !v.own⟩])
 |c=>.ret (c,vs)
def aMI:af->List Vw->Rd (af×List Vw)
 | [],vs=>.ret ([],vs)
 |.c c::cs,vs=>(aSs c vs).bind λx=>(aMI cs x.2).bind λy=>.ret (.c x.1::y.1,y.2)
 |.a n cols::cs,vs=>(aMI cs vs).bind λy=>.ret (.a n cols::y.1,y.2)
def aSt (r:RV)(vs:List Vw):Rd (RV×List Vw):=
 match r with
 |.c c=>(aSs c vs).bind λx=>.ret (.c x.1,x.2)
 |.agg cs=>(aMI cs vs).bind λx=>.ret (.agg x.1,x.2)
def aDD:List RV->List Vw->Rd (List RV×List Vw)
 | [],vs=>.ret ([],vs)
 |c::cs,vs=>(aSt c vs).bind λx=>(aDD cs x.2).bind λy=>.ret (x.1::y.1,y.2)
def aXd (a:AV)(vs:List Vw):Rd (AV×List Vw):=
 match a with
 |.r r=>(aSt r vs).bind λx=>.ret (.r x.1,x.2)
 |.tup rs=>(aDD rs vs).bind λx=>.ret (.tup x.1,x.2)
 |.fn f rs=>(aDD rs vs).bind λx=>.ret (.fn f x.1,x.2)
 |.VH=>.ret (.VH,vs)
def aJT:List AV->List Vw->Rd (List AV×List Vw)
 | [],vs=>.ret ([],vs)
 |c::cs,vs=>(aXd c vs).bind λx=>(aJT cs x.2).bind λy=>.ret (x.1::y.1,y.2)
def toS (b:af):af:=
 match b with
 | [.a n cols]=>[.a (.s n.val) cols]
 |b=>b
def aQG (sl:Bool)(z:Nat)(b:af):af:=
 match sl with
 |true=>toS (asq z b)
 |false=>b
def aSu:Nat->Nat->List Vw->List af->Rd (List af×List Vw)
 |0,_,_,_=>.fail
 |fuel+1,i,vs,acc=>match vs[i]? with
  |none=>.ret (acc,vs)
  |some v=>.vw v.b v.o v.cF v.z λcs=>
   (aMI (aQG v.sl v.z cs) vs).bind λx=>aSu fuel (i+1) x.2 (acc++[x.1])
def Lw (vs:List Vw)(aJ:Nat):CV->CV
 |.ptr j d n=>match vs[j]? with
  |some v=>.ptr v.b (v.o.plus d) n
  |none=>.ptr (aJ+(j-vs.length)) d n
 |.cl f j d n=>match vs[j]? with
  |some v=>.cl f v.b (v.o.plus d) n
  |none=>.cl f (aJ+(j-vs.length)) d n
 |.sl j d len z own=>match vs[j]? with
  |some v=>.sl v.b (v.o.plus d) len z (own&&v.own)
  |none=>.sl (aJ+(j-vs.length)) d len z own
 |c=>c
def KJ (f:CV->CV):af->af
 | []=>[]
 |.c v::r=>.c (f v)::KJ f r
 |.a n cols::r=>.a n cols::KJ f r
def aSv (vs:List Vw)(aJ:Nat):RV->RV
 |.c c=>.c (Lw vs aJ c)
 |.agg cs=>.agg (KJ (Lw vs aJ) cs)
def aMJ (vs:List Vw)(aJ:Nat):AV->AV
 |.r r=>.r (aSv vs aJ r)
 |.tup rs=>.tup (rs.map (aSv vs aJ))
 |.fn f rs=>.fn f (rs.map (aSv vs aJ))
 |.VH=>.VH
def Hu (vs:List Vw)(aJ:Nat):List af->Nat->List Up
 | [],_=>[]
 |b::bs,j=>.new (aJ+j) (KJ (Lw vs aJ) b)::Hu vs aJ bs (j+1)
def AH (all:List Vw)(aJ:Nat):List Vw->List Ch->Option (Bool×List Up)
 | [],[]=>some (true,[])
 |_::vs,.nc::cs=>AH all aJ vs cs
 |v::vs,.set b::cs=>match AH all aJ vs cs with
  |some p=>some (p.1&&ww (af.size b) v.n,.c v.b v.o (KJ (Lw all aJ) b)::p.2)
  |none=>none
 |_::vs,.kill::cs=>AH all aJ vs cs
 |_,_=>none
def pD:List Vw->List Ch->List Up
 |v::vs,.kill::cs=>.kill v.b::pD vs cs
 |_::vs,_::cs=>pD vs cs
 |_,_=>[]
def ec (dst:Option Tmp)(v:AV):List Up:=
 match dst with
 |some d=>[.t d v]
 |none=>[]
def aXe (E:Env)(f:Nat)(args:List AV)(dst:Option Tmp)(aJ:Nat):Rd (List Up):=
 (aJT args []).bind λx=>(aSu 1000 0 x.2 []).bind λy=>
  match E f with
  |none=>.fail
  |some F=>(F x.1 y.1).rd.bind λr=>
   (ey (AH y.2 aJ y.2 r.yo)).bind λus=>(cN us.1).bind λ_=>
    .ret (ec dst (aMJ y.2 aJ r.val)++(us.2++(pD y.2 r.yo++Hu y.2 aJ r.news 0)))
def aSw:CV->Rd Nat
 |.sl _ _ n _ _=>.ret n.val
 |.nils=>.ret 0
 |.fs n _ _=>.ret n
 |.f (.s x)=>.ret x.size
 |_=>.fail
def slB (z:Nat):CV->Rd (Sz×af)
 |.sl b o n z' _=>(cN (ww z z')).bind λ_=>.vw b o n z λk=>.ret (n,k)
 |.nils=>.ret (.l 0,[])
 |.fs n z' cols=>(cN (ww z z')).bind λ_=>.ret (.s n,[.a (.s n) cols])
 |_=>.fail
def aDE (P:Program)(t:TypeId)(s x:CV)(dst:Option Tmp)(aJ:Nat):Rd (List Up):=
 match P.underlying t with
 |some (.slice e)=>(ey (jf P e)).bind λz=>(ey ((P.info? e).map (·.bytes))).bind λby_=>(ey (AG P e)).bind λzv=>
  (cN (wd 1 z&&(wd 1 by_&&ww (af.size zv.bR) z))).bind λ_=>
  (slB z x).bind λxb=>
  match s with
  |.nils=>(cN (wd (xb.1.val*by_) 140737488355328)).bind λ_=>
   .ret (ec dst (.r (.c (.sl aJ (.k 0) xb.1 z true)))++[.new aJ xb.2])
  |.sl b o n z' true=>(cN (ww z z')).bind λ_=>(cN (wd ((n.val+xb.1.val)*by_) 140737488355328)).bind λ_=>
   .sz b<|
   .vw b o n z λsb=>(ey (sb.app xb.2)).bind λnb=>
    (cN (match x with|.sl b' _ _ _ _=> !Nat.beq b b'|_=>true)).bind λ_=>
    .ret (ec dst (.r (.c (.sl aJ (.k 0) (n.add xb.1) z true)))++[.kill b,.new aJ nb])
  |_=>.fail
 |_=>.fail
def aHR (v:Nat):Nat->Rd Nat
 |0=>.ret 0
 |k+1=>.test (wd (k+1) v) λ|true=>.ret (k+1)|false=>aHR v k
def aMK (n n':Sz):Rd (Bool×Sz):=
 match n,n' with
 |.l k,.s v=>match wd k 8 with
  |true=>(aHR v k).bind λj=>.ret (true,.l j)
  |false=>.ret (false,Sz.least (.s v) (.l k))
 |n,n'=>.ret (false,Sz.least n' n)
def copyV (P:Program)(t:TypeId)(d x:CV)(dst:Option Tmp):Rd (List Up):=
 match P.underlying t with
 |some (.slice e)=>(ey (jf P e)).bind λz=>
  match d,x with
  |.sl b o n z1 _,.sl b' o' n' z2 _=>(cN (ww z z1&&ww z z2)).bind λ_=>
   (cN (!Nat.beq b b')).bind λ_=>(aMK n n').bind λm=>
   .vw b' o' m.2 z λl=>.sz b<|
    .ret (ec dst (.r (.c (.f (.i .i64 (m.2.val:Int)))))++[.c b o (cond m.1 (ui l) l)])
  |_,_=>.fail
 |_=>.fail
def aXf:FV->FV->Rd FV
 |.i k x,.i k' y=>if k=k' then .ret (.i k (if y<x then y else x)) else .fail
 |_,_=>.fail
def aXg:FV->FV->Rd FV
 |.i k x,.i k' y=>if k=k' then .ret (.i k (if y>x then y else x)) else .fail
 |_,_=>.fail
def aua {α β:Type}(f:β->α->Rd β):β->List α->Rd β
 |b,[]=>.ret b
 |b,a::l=>(f b a).bind λb'=>aua f b' l
def asF:AV->Rd FV
 |.r (.c (.f v))=>.ret v
 |_=>.fail
def biV (P:Program)(bi:Builtin)(ts:Array TypeId)(args:List AV)(dst:Option Tmp)(aJ:Nat):Rd (List Up):=
 match bi,args with
 |.len,[x]=>(ey ((ts[0]?).bind P.underlying)).bind λ
  |.array n _=>.ret (ec dst (.r (.c (.f (.i .i64 (n:Int))))))
  |.slice _=>(asC x).bind λc=>(match c with|.f _=>Rd.fail|c=>aSw c).bind λn=>.ret (ec dst (.r (.c (.f (.i .i64 (n:Int))))))
  |.string=>(asC x).bind λc=>(match c with|.f (.s x)=>Rd.ret x.size|_=>Rd.fail).bind λn=>.ret (ec dst (.r (.c (.f (.i .i64 (n:Int))))))
  |_=>.fail
 |.append,[s,x]=>(ey (ts[0]?)).bind λt=>(cN (match ts.toList with| [t1,t2]=>ww t1 t2|_=>false)).bind λ_=>
  (asC s).bind λs=>(asC x).bind λx=>aDE P t s x dst aJ
 |.copy,[d,x]=>(ey (ts[0]?)).bind λt=>(asC d).bind λd=>(asC x).bind λx=>copyV P t d x dst
 |.min,x::l=>(asF x).bind λx=>(uj asF l).bind λl=>(aua aXf x l).bind λv=>.ret (ec dst (.r (.c (.f v))))
 |.max,x::l=>(asF x).bind λx=>(uj asF l).bind λl=>(aua aXg x l).bind λv=>.ret (ec dst (.r (.c (.f v))))
 |_,_=>.fail
def a0A:AV->Rd (Nat×List RV)
 |.fn f ado=>.ret (f,ado)
 |.r (.c (.cl f b o n))=>.ret (f,[.c (.ptr b o n)])
 |_=>.fail
def aoF (P:Program)(e:TypeId)(n z:Nat)(b:af):af:=
 match !aSo P n e&&wd n 8 with
 |true=>b
 |false=>asq z b
inductive CK where
 |i (k:IntKind)
 |b
 |s
def CK.oi:CK->cT
 |.i k=>.i k λ_=>0
 |.b=>.b λ_=>false
 |.s=>.s λ_=>.empty
def ckT (P:Program):Nat->TypeId->Option (List CK)
 |0,_=>none
 |d+1,t=>match P.underlying t with
  |some .bool=>some [.b]
  |some (.int k)=>some [.i k]
  |some .string=>some [.s]
  |some (.struct fs)=>fs.toList.foldr (λf l=>match ckT P d f.type,l with
   |some a,some b=>some (a++b)
   |_,_=>none) (some [])
  |some (.array n e)=>(ckT P d e).map (aSp n)
  |_=>none
def aJU (P:Program):Nat->TypeId->List (Option (Nat×List CK))
 |0,_=>[]
 |d+1,t=>match P.underlying t with
  |some (.struct fs)=>(fs.toList.map λf=>aJU P d f.type).flatten
  |some (.array n e)=>aSp n (aJU P d e)
  |some (.slice e)=>[match jf P e,ckT P 30 e with
   |some z,some ks=>some (z,ks)
   |_,_=>none]
  |_=>[none]
def Sv:List (Option (Nat×List CK))->af->Nat->af×List af
 |_,[],_=>([],[])
 |ks,.a n cols::r,b=>let x:=Sv (ks.drop (n.val*cols.length)) r b;(.a n cols::x.1,x.2)
 |ks,.c v::r,b=>match v,ks with
  |.nils,some (z,k)::ks=>let x:=Sv ks r (b+1);(.c (.sl b (.k 0) (.s 0) z true)::x.1,[.a (.s 0) (k.map CK.oi)]::x.2)
  |v,ks=>let x:=Sv (ks.drop 1) r b;(.c v::x.1,x.2)
def aSx:af->Bool
 | []=>false
 |.c .nils::_=>true
 |_::r=>aSx r
def js (P:Program)(t:TypeId)(b:af)(aJ:Nat):af×List af:=
 match aSx b with
 |true=>Sv (aJU P 30 t) b aJ
 |false=>(b,[])
def BK:List af->Nat->List Up
 | [],_=>[]
 |b::bs,n=>.new n b::BK bs (n+1)
def aub (dst:Option Tmp)(aJ n:Nat)(cs:af):List Up:=ec dst (.r (.c (.ptr aJ (.k 0) n)))++[.new aJ cs]
def aop (P:Program)(E:Env)(o:Oper)(aJ:Nat):Rd (List Up):=
 let val (m:Rd RV):Rd (List Up):=m.bind λv=>.ret (ec o.dst (.r v))
 let cel (m:Rd CV):Rd (List Up):=m.bind λv=>.ret (ec o.dst (.r (.c v)))
 match o.op with
 |.move x|.assign x=>(Ee x).bind λv=>.ret (ec o.dst v)
 |.pick c a b=>(aHP c).bind λx=>.test x λ
  |true=>(Ee a).bind λv=>.ret (ec o.dst v)
  |false=>(Ee b).bind λv=>.ret (ec o.dst v)
 |.alloc e=>(ey (AG P e)).bind λz=>.ret (BK (js P e z.bR aJ).2 aJ++aub o.dst (aJ+(js P e z.bR aJ).2.length) (af.size (js P e z.bR aJ).1) (js P e z.bR aJ).1)
 |.box t x=>(wD x).bind λv=>.ret (BK (js P t v.bR aJ).2 aJ++aub o.dst (aJ+(js P t v.bR aJ).2.length) (af.size (js P t v.bR aJ).1) (js P t v.bR aJ).1)
 |.makeSlice t n c=>match P.underlying t with
  |some (.slice e)=>(ey (AG P e)).bind λz=>(ey (jf P e)).bind λq=>(KH n).bind λn=>(KH c).bind λc=>
   (cN (decide (n.2=0)&&decide (c.2=0))).bind λ_=>(ey (Ey q z.bR)).bind λcols=>
   .ret (ec o.dst (.r (.c (.sl aJ (.k 0) (.s 0) q true)))++[.new aJ [.a (.s 0) cols]])
  |_=>.fail
 |.build t ps=>(ey (AG P t)).bind λz=>(uj (λp=>(wD p.2).bind λv=>.ret (p.1,v)) ps.toList).bind λl=>
  (ey (placesOf P t)).bind λpl=>(ey (akO pl z.bR l)).bind λcs=>.ret (ec o.dst (.r (.agg cs)))
 |.buildSlice t n ps=>match P.underlying t with
  |some (.slice e)=>(ey (AG P e)).bind λz=>(ey (jf P e)).bind λq=>
   (cN (wd 1 q&&wd (n*q) 16777216)).bind λ_=>
   (uj (λp=>(wD p.2).bind λv=>.ret (p.1,v)) ps.toList).bind λl=>
   (cN (ww (af.size z.bR) q)).bind λ_=>(ey (akO (λi=>some (i*q,q)) (rep n z.bR) l)).bind λcs=>.ret (ec o.dst (.r (.c (.sl aJ (.k 0) (.l n) q true)))++[.new aJ (aoF P e n q cs)])
  |_=>.fail
 |.load t a=>(G9 a).bind λ
  |.ptr b q n=>val (valueOf P t b q n)
  |.fp l=>val (aDC P t l)
  |_=>.fail
 |.store t a x=>(aMF a).bind λp=>(aME x).bind λv=>(ey (jf P t)).bind λn=>
  (cN (ww (af.size v.bR) n&&wd n p.2.2)).bind λ_=>.sz p.1<|
  .ret (BK (js P t v.bR aJ).2 aJ++(ec o.dst udf++[.c p.1 p.2.1 (js P t v.bR aJ).1]))
 |.nilCheck x=>(G9 x).bind λ
  |.ptr b q n=>.ret (ec o.dst (.r (.c (.ptr b q n))))
  |.fp l=>.ret (ec o.dst (.r (.c (.fp l))))
  |_=>.fail
 |.binOp op t x y _=>(wD x).bind λa=>(wD y).bind λb=>val (aXc P op t a b)
 |.unOp op _ x=>(wD x).bind λa=>val (unV op a)
 |.convert s d x=>(wD x).bind λa=>val (aQF P s d a)
 |.sliceToArrayPointer t x=>(G9 x).bind λc=>match P.underlying t,c with
  |some (.array n _),.sl b q len z _=>(cN (wd 1 n&&wd n len.val)).bind λ_=>cel (.ret (.ptr b q (n*z)))
  |_,_=>.fail
 |.makeFunc (.func f) fs ado=>match fs.toList with
  | []=>(uj wD ado.toList).bind λl=>.ret (ec o.dst (.fn f l))
  |_=>.fail
 |.slice t x lo hi none=>(G9 x).bind λc=>(aze lo).bind λl=>(aze hi).bind λh=>cel (aJS P t c (vD lo&&vD hi) l h)
 |.fieldAddr t x i=>(G9 x).bind λc=>cel (axm P t c i)
 |.field t x i=>(wD x).bind λ
  |.agg cs=>(ey (afB P t i)).bind λf=>val (Oh P f.type cs f.offset)
  |_=>.fail
 |.indexAddr t x i=>(G9 x).bind λc=>(KH i).bind λi=>cel (axn P t c i.2)
 |.index t x i=>(wD x).bind λv=>(KH i).bind λi=>match P.underlying t,v with
  |some (.array n e),.agg cs=>(ey (jf P e)).bind λz=>(cN (wd 1 z&&wd (n*z) (af.size cs))).bind λ_=>(cN (bb i.2 n)).bind λ_=>(sel P (.k 0) i.2 n e z).bind λo=>val (partOf P e cs o)
  |some .string,.c (.f (.s b))=>(cN (bb i.2 b.size)).bind λ_=>val (.ret (.c (.f (.i .u8 (Ez b i.2.toNat)))))
  |_,_=>.fail
 |.extract x i=>(Ee x).bind λ
  |.tup vs=>(ey (vs[i]?)).bind λv=>.ret (ec o.dst (.r v))
  |_=>.fail
 |.call c=>(uj Ee c.args.toList).bind λargs=>match c.callee with
  |.builtin b=>biV P b c.argTypes args o.dst aJ
  |.value f=>(Ee f).bind λf=>(a0A f).bind λfc=>aXe E fc.1 (args++fc.2.map .r) o.dst aJ
  |.invoke _ _=>.fail
 |_=>.fail
def mark (k:Nat)(b:Nat)(d:List Nat):List Nat:=
 match v6 b k&& !d.any (ww b) with
 |true=>b::d
 |false=>d
def Up.app (k:Nat)(s:St):Up->St
 |.t i v=>{s with tmps:=s.tmps.set i v}
 |.c b o v=>match s.bR b with
  |some bR=>match bR.Au o v with
   |some p=>{s with heap:=s.heap.set b (some p.2),dy:=mark k b s.dy}
   |none=>s
  |none=>s
 |.new _ bR=>{s with heap:=s.heap++[some bR]}
 |.kill b=>{s with heap:=s.heap.set b none,dy:=mark k b s.dy}
def Up.ok (s:St):Up->Bool
 |.t i _=>v6 i s.tmps.length
 |.c b o v=>match s.bR b with
  |some bR=>match bR.Au o v with
   |some p=>p.1&&wd (o.val+af.size v) (af.size bR)
   |none=>false
  |none=>false
 |.new b _=>ww b s.heap.length
 |.kill b=>v6 b s.heap.length
def ku (k:Nat):List Up->St->Option St
 | [],s=>some s
 |u::us,s=>match u.ok s with
  |true=>ku k us (u.app k s)
  |false=>none
def aQH (acc:List Nat)(m:Nat)(e:Edge):Nat:=match Region.binds .any e with
 |true=>(m|||2^e.on)|||acc.getD e.on 0
 |false=>m
def mask (acc:List Nat)(o:Oper):Nat:=o.after.toList.foldl (aQH acc) 0
def Lx:List Oper->List Nat->List Nat
 | [],acc=>acc
 |o::l,acc=>Lx l (acc++[mask acc o])
def ovl (lo n lo' n':Nat):Bool:=v6 lo (lo'+n')&&v6 lo' (lo+n)
def meet:Option (Nat×Nat)->Option (Nat×Nat)->Bool
 |some (lo,n),some (lo',n')=>ovl lo n lo' n'
 |_,_=>true
def Fp.azf:Fp->Up->Bool
 |.t i,.t j _=>ww i j
 |.c b r,.c b' o v=>ww b b'&&meet r (aMD o v)
 |.c b _,.new b' _|.c b _,.kill b'|.z b,.new b' _|.z b,.kill b'=>ww b b'
 |_,_=>false
def Up.azf:Up->Up->Bool
 |.t i _,.t j _=>ww i j
 |.c b o v,.c b' o' v'=>ww b b'&&meet (aMD o v) (aMD o' v')
 |.c b _ _,.new b' _|.c b _ _,.kill b'|.new b _,.c b' _ _|.kill b,.c b' _ _|.new b _,.new b' _|.new b _,.kill b'|.kill b,.new b' _|.kill b,.kill b'=>ww b b'
 |_,_=>false
structure Tr where
 fp:List Fp
 us:List Up
def Tr.afE (x y:Tr):Bool:=
 x.us.any (λu=>y.fp.any (·.azf u)||y.us.any (·.azf u))||y.us.any (λu=>x.fp.any (·.azf u))
def QS (ms:List Nat):List Tr->Nat->Bool
 | [],_=>true
 |x::rest,j=>(rest.zipIdx.all λp=>Nat.testBit (ms.getD (j+1+p.2) 0) j|| !x.afE p.1)&&QS ms rest (j+1)
def QT:List Oper->Nat->Bool
 | [],_=>true
 |o::l,i=>(o.after.toList.all λe=> !Region.binds .any e||v6 e.on i)&&QT l (i+1)
def aXh (o:Oper)(nt:Nat):Bool:=
 match o.dst with
 |none=>true
 |some d=>v6 d nt
def Oi (ops:List Oper)(j:Nat):Option Tmp:=(ops[j]?).bind (·.dst)
def afF {α ρ:Type}(l:List α):(List α->ρ)->ρ:=
 List.rec (motive:=λ_=>(List α->ρ)->ρ) (λk=>k []) (λa _ ih k=>ih λl=>k (a::l)) l
def auc {ρ:Type}(o:cE)(k:cE->ρ):ρ:=
 match o with
 |.k c=>k (.k c)
 |.x c i z=>k (.x c i z)
def aJV {ρ:Type}(n:Sz)(k:Sz->ρ):ρ:=
 match n with
 |.l n=>k (.l n)
 |.s n=>k (.s n)
def aCG {ρ:Type}(v:FV)(k:FV->ρ):ρ:=
 match v with
 |.u=>k .u
 |.b x=>k (.b x)
 |.i d n=>k (.i d n)
 |.s x=>k (.s x)
 |.q n g=>k (.q n g)
def axo {ρ:Type}(c:cT)(k:cT->ρ):ρ:=
 match c with
 |.i d g=>k (.i d g)
 |.b g=>k (.b g)
 |.s g=>k (.s g)
 |.u=>k .u
 |.q n g=>k (.q n g)
def VL {ρ:Type}(l:List cT):(List cT->ρ)->ρ:=
 List.rec (motive:=λ_=>(List cT->ρ)->ρ) (λk=>k []) (λa _ ih k=>axo a λa=>ih λl=>k (a::l)) l
def aud {ρ:Type}(l:List FV):(List FV->ρ)->ρ:=
 List.rec (motive:=λ_=>(List FV->ρ)->ρ) (λk=>k []) (λa _ ih k=>aCG a λa=>ih λl=>k (a::l)) l
def aCH {ρ:Type}(c:CV)(k:CV->ρ):ρ:=
 match c with
 |.f v=>aCG v λv=>k (.f v)
 |.ptr b o n=>auc o λo=>k (.ptr b o n)
 |.cl f b o n=>auc o λo=>k (.cl f b o n)
 |.ah7=>k .ah7
 |.sl b o l z w=>auc o λo=>aJV l λl=>k (.sl b o l z w)
 |.nils=>k .nils
 |.aSj=>k .aSj
 |.aSk=>k .aSk
 |.fs n z cols=>VL cols λcols=>k (.fs n z cols)
 |.fp l=>aud l λl=>k (.fp l)
def aue {ρ:Type}(s:Sg)(k:Sg->ρ):ρ:=
 match s with
 |.c v=>aCH v λv=>k (.c v)
 |.a n cols=>aJV n λn=>VL cols λcols=>k (.a n cols)
def Zv {ρ:Type}(l:af):(af->ρ)->ρ:=
 List.rec (motive:=λ_=>(af->ρ)->ρ) (λk=>k []) (λa _ ih k=>aue a λa=>ih λl=>k (a::l)) l
def auf {ρ:Type}(r:RV)(k:RV->ρ):ρ:=
 match r with
 |.c c=>aCH c λc=>k (.c c)
 |.agg b=>Zv b λb=>k (.agg b)
def akP {ρ:Type}(l:List RV):(List RV->ρ)->ρ:=
 List.rec (motive:=λ_=>(List RV->ρ)->ρ) (λk=>k []) (λa _ ih k=>auf a λa=>ih λl=>k (a::l)) l
def aug {ρ:Type}(v:AV)(k:AV->ρ):ρ:=
 match v with
 |.r r=>auf r λr=>k (.r r)
 |.tup rs=>akP rs λrs=>k (.tup rs)
 |.fn f rs=>akP rs λrs=>k (.fn f rs)
 |.VH=>k .VH
def aCI {ρ:Type}(u:Up)(k:Up->ρ):ρ:=
 match u with
 |.t i v=>aug v λv=>k (.t i v)
 |.c b o vs=>auc o λo=>Zv vs λvs=>k (.c b o vs)
 |.new b bR=>Zv bR λbR=>k (.new b bR)
 |.kill b=>k (.kill b)
def auh {ρ:Type}(l:List Up):(List Up->ρ)->ρ:=
 List.rec (motive:=λ_=>(List Up->ρ)->ρ) (λk=>k []) (λa _ ih k=>aCI a λa=>ih λl=>k (a::l)) l
def aui {ρ:Type}(l:List AV):(List AV->ρ)->ρ:=
 List.rec (motive:=λ_=>(List AV->ρ)->ρ) (λk=>k []) (λa _ ih k=>aug a λa=>ih λl=>k (a::l)) l
def auj {ρ:Type}(u:Option af)(k:Option af->ρ):ρ:=
 match u with
 |some b=>Zv b λb=>k (some b)
 |none=>k none
def auk {ρ:Type}(l:List (Option af)):(List (Option af)->ρ)->ρ:=
 List.rec (motive:=λ_=>(List (Option af)->ρ)->ρ) (λk=>k []) (λa _ ih k=>auj a λa=>ih λl=>k (a::l)) l
def xY {ρ:Type}(s:St)(k:St->ρ):ρ:=
 match s with
 | ⟨t,h,d⟩=>aui t λt=>auk h λh=>afF d λd=>k ⟨t,h,d⟩
def Up.adr {ρ:Type}(k:Nat)(u:Up)(s:St)(c:St->Option ρ):Option ρ:=
 match u with
 |.t i v=>azd s.tmps i v λt=>c {s with tmps:=t}
 |.c b o v=>match s.bR b with
  |some bR=>match bR.Au o v with
   |some p=>match p.1&&wd (o.val+af.size v) (af.size bR) with
    |true=>Zv p.2 λbR=>azd s.heap b (some bR) λh=>afF (mark k b s.dy) λd=>c {s with heap:=h,dy:=d}
    |false=>none
   |none=>none
  |none=>none
 |.new b bR=>match ww b s.heap.length with
  |true=>afF (s.heap++[some bR]) λh=>c {s with heap:=h}
  |false=>none
 |.kill b=>azd s.heap b none λh=>afF (mark k b s.dy) λd=>c {s with heap:=h,dy:=d}
def adr {ρ:Type}(k:Nat)(us:List Up):St->(St->Option ρ)->Option ρ:=
 List.rec (motive:=λ_=>St->(St->Option ρ)->Option ρ) (λs c=>c s) (λu _ ih s c=>u.adr k s λs=>ih s c) us
def Ly (P:Program)(E:Env)(nt k:Nat)(ops:List Oper){ρ:Type}:List Oper->St->List Tr->(St->List Tr->Option ρ)->Option ρ
 | [],s,l,c=>c s l
 |o::rest,s,l,c=>
  let go (s:St) (fp:List Fp):Option ρ:=
   (aop P E o s.heap.length).run s fp λus fp=>auh us λus=>adr k us s λs'=>afF (l++[⟨fp,us⟩]) λl=>Ly P E nt k ops rest s' l c
  let skip (s:St) (fp:List Fp):Option ρ:=adr k (ec o.dst udf) s λs'=>afF (l++[⟨fp,ec o.dst udf⟩]) λl=>Ly P E nt k ops rest s' l c
  match aXh o nt with
  |false=>none
  |true=>
  match o.guard with
  |none=>go s []
  |some (j,want)=>match Oi ops j with
   |none=>none
   |some t=>match s.tmp t with
    |.r (.c (.f (.b x)))=>match x with
     |true=>azd s.tmps t (.r (.c (.f (.b true)))) λts=>match want with|true=>go {s with tmps:=ts} [.t t]|false=>skip {s with tmps:=ts} [.t t]
     |false=>azd s.tmps t (.r (.c (.f (.b false)))) λts=>match want with|true=>skip {s with tmps:=ts} [.t t]|false=>go {s with tmps:=ts} [.t t]
    |.tup []=>skip s [.t t]
    |_=>none
inductive AX where
 |nrm
 |ex (id:Nat)
 |ret
def idx (b:Nat):List Nat->Nat->Option Nat
 | [],_=>none
 |x::l,i=>match ww x b with
  |true=>some i
  |false=>idx b l (i+1)
def akQ (H b:Nat)(m:List Nat):Nat×List Nat:=
 match wd H b with
 |true=>match idx b m 0 with
  |some i=>(H+i,m)
  |none=>(H+m.length,m++[b])
 |false=>(b,m)
def gcC (H:Nat)(c:CV)(m:List Nat):CV×List Nat:=
 match c with
 |.ptr b o n=>let x:=akQ H b m;(.ptr x.1 o n,x.2)
 |.cl f b o n=>let x:=akQ H b m;(.cl f x.1 o n,x.2)
 |.sl b o l z w=>let x:=akQ H b m;(.sl x.1 o l z w,x.2)
 |c=>(c,m)
def Hv {α:Type}(g:α->List Nat->α×List Nat):List α->List Nat->List α×List Nat
 | [],m=>([],m)
 |a::l,m=>let x:=g a m;let y:=Hv g l x.2;(x.1::y.1,y.2)
def gcS (H:Nat)(s:Sg)(m:List Nat):Sg×List Nat:=
 match s with
 |.c c=>let x:=gcC H c m;(.c x.1,x.2)
 |s=>(s,m)
def gcR (H:Nat)(r:RV)(m:List Nat):RV×List Nat:=
 match r with
 |.c c=>let x:=gcC H c m;(.c x.1,x.2)
 |.agg cs=>let x:=Hv (gcS H) cs m;(.agg x.1,x.2)
def gcA (H:Nat)(a:AV)(m:List Nat):AV×List Nat:=
 match a with
 |.r r=>let x:=gcR H r m;(.r x.1,x.2)
 |.tup rs=>let x:=Hv (gcR H) rs m;(.tup x.1,x.2)
 |.fn f rs=>let x:=Hv (gcR H) rs m;(.fn f x.1,x.2)
 |.VH=>(.VH,m)
def gcB (H:Nat)(b:Option af)(m:List Nat):Option af×List Nat:=
 match b with
 |some cs=>let x:=Hv (gcS H) cs m;(some x.1,x.2)
 |none=>(none,m)
def gcN (H:Nat)(heap:List (Option af)):Nat->Nat->List Nat->List (Option af)->Option (List (Option af)×List Nat)
 |0,_,_,_=>none
 |fuel+1,i,m,acc=>match m[i]? with
  |none=>some (acc,m)
  |some b=>let x:=gcB H ((heap[b]?).getD none) m;gcN H heap fuel (i+1) x.2 (acc++[x.1])
def gcO (k:Nat)(d:List Nat)(H:Nat):List (Option af)->Nat->List Nat->List (Option af)×List Nat
 | [],_,m=>([],m)
 |b::l,j,m=>match v6 j k&& !d.any (ww j) with
  |true=>let y:=gcO k d H l (j+1) m;(b::y.1,y.2)
  |false=>let x:=gcB H b m;let y:=gcO k d H l (j+1) x.2;(x.1::y.1,y.2)
def St.gc (k:Nat)(s:St)(H:Nat):Option St:=
 match wd H s.heap.length with
 |false=>none
 |true=>
 let x:=Hv (gcA H) s.tmps []
 let y:=gcO k s.dy H (s.heap.take H) 0 x.2
 match gcN H s.heap 1000 0 y.2 [] with
 |some z=>some {s with tmps:=x.1,heap:=y.1++z.1}
 |none=>none
structure Hd where
 id:Nat
 aDF:List Nat
 nils:List (Nat×List CK)
structure Sm where
 id:Nat
 kk:Nat
 run:∀{ρ:Type},St->(AX->St->Option ρ)->Option ρ
structure Jn where
 hd:Hd
 sm:Sm
structure Hs where
 hd:List Hd
 sm:List Sm
 dy:List Nat
 jn:List Jn
 rk:Option Hd
def QU:Code->Option Nat
 |.region id _ _=>some id
 |.seq a _=>QU a
 |.block _ a=>QU a
 |.loop a=>QU a
 |_=>none
def aHS (c:CV):CV:=
 match c with
 |.sl b o len z own=>match o with
  |.k c=>.sl b (.x c 0 z) len z own
  |o=>.sl b o len z own
 |c=>c
def aDG (g:CV->CV)(s:Sg):Sg:=
 match s with
 |.c v=>.c (g v)
 |s=>s
def mapA (g:CV->CV)(a:AV):AV:=
 match a with
 |.r (.c v)=>.r (.c (g v))
 |a=>a
def ah9 (g:CV->CV)(k:Nat)(d:List Nat):List (Option af)->Nat->List (Option af)
 | [],_=>[]
 |b::l,j=>(match v6 j k&& !d.any (ww j) with
  |true=>b
  |false=>b.map λb=>b.map (aDG g))::ah9 g k d l (j+1)
def aML (b n x:Nat):Nat:=
 match ww x b with
 |true=>n
 |false=>x
def aMM (b n:Nat)(c:CV):CV:=
 match c with
 |.ptr x o m=>.ptr (aML b n x) o m
 |.cl f x o m=>.cl f (aML b n x) o m
 |.sl x o l z w=>.sl (aML b n x) o l z w
 |c=>c
def aXi (c:CV):CV:=
 match c with
 |.sl b o len z own=>.sl b o (.s len.val) z own
 |c=>c
def a0B (c:CV):CV:=aXi (aHS c)
def aHT (s:Sg):Sg:=
 match s with
 |.c v=>.c (a0B v)
 |s=>s
def aDH (a:AV):AV:=
 match a with
 |.r (.c v)=>.r (.c (a0B v))
 |a=>a
def slC (c:CV)(l:List (Nat×Nat)):List (Nat×Nat):=
 match c with
 |.sl b _ _ z _=>(b,z)::l
 |_=>l
def a2V (s:Sg)(l:List (Nat×Nat)):List (Nat×Nat):=
 match s with
 |.c v=>slC v l
 |_=>l
def a2W (a:AV)(l:List (Nat×Nat)):List (Nat×Nat):=
 match a with
 |.r (.c v)=>slC v l
 |_=>l
def a2X (b:Option af)(l:List (Nat×Nat)):List (Nat×Nat):=
 match b with
 |some b=>b.foldr a2V l
 |none=>l
def sls (s:St):List (Nat×Nat):=s.tmps.foldr a2W (s.heap.foldr a2X [])
def aXj (j:Nat):List (Nat×Nat)->Option Nat
 | []=>none
 |p::l=>match ww p.1 j with
  |true=>some p.2
  |false=>aXj j l
def aDI (l:List (Nat×Nat))(j:Nat)(b:af):af:=
 match aXj j l with
 |some z=>toS (asq z (b.map aHT))
 |none=>b.map aHT
def akR (k:Nat)(d:List Nat)(sl:List (Nat×Nat)):List (Option af)->Nat->List (Option af)
 | [],_=>[]
 |b::l,j=>(match v6 j k&& !d.any (ww j) with
  |true=>b
  |false=>b.map λb=>aDI sl j b)::akR k d sl l (j+1)
def aQI (k b:Nat)(s:St):St:=
 match s.bR b with
 |some bR=>match v6 b k with
  |true=>{s with tmps:=s.tmps.map (mapA (aMM b s.heap.length)),heap:=ah9 (aMM b s.heap.length) k (mark k b s.dy) (s.heap.set b none++[some bR]) 0,dy:=mark k b s.dy}
  |false=>s
 |none=>s
def aHU (k:Nat)(s:St)(p:Nat×List CK):St:=
 match p.2 with
 | []=>match p.1 with
  |0=>{s with tmps:=s.tmps.map (mapA aHS),heap:=ah9 aHS k s.dy s.heap 0}
  |1=>{s with tmps:=s.tmps.map aDH,heap:=akR k s.dy (sls s) s.heap 0}
  |b+2=>aQI k b s
 |_::_=>match s.tmp p.1 with
  |.r (.c .nils)=>{s with tmps:=s.tmps.set p.1 (.r (.c (.sl s.heap.length (.k 0) (.s 0) p.2.length true))),heap:=s.heap++[some [.a (.s 0) (p.2.map CK.oi)]]}
  |_=>s
def aSy (id:Nat):List Hd->Option Hd
 | []=>none
 |h::l=>match ww h.id id with
  |true=>some h
  |false=>aSy id l
def aSz (id:Nat):List Sm->Option Sm
 | []=>none
 |h::l=>match ww h.id id with
  |true=>some h
  |false=>aSz id l
def apP (hs:Hs)(a:Code):Option Sm:=
 match QU a with
 |none=>none
 |some id=>aSz id hs.sm
def St.abi (k:Nat)(s:St)(h:Hd):Option St:=((h.nils.foldl (aHU k) {s with tmps:=h.aDF.foldl (λl t=>l.set t VH) s.tmps}).gc k k)
def St.head (k:Nat)(s:St)(hs:Hs)(body:Code):Option St:=
 match QU body with
 |none=>s.gc k k
 |some id=>match aSy id hs.hd with
  |none=>s.gc k k
  |some h=>s.abi k h
def aSA (id:Nat):List Jn->Option Jn
 | []=>none
 |h::l=>match ww h.sm.id id with
  |true=>some h
  |false=>aSA id l
def ay9 (hs:Hs)(b:Code):Option Jn:=
 match hs.jn with
 | []=>none
 |j::l=>match QU b with
  |none=>none
  |some id=>aSA id (j::l)
def Lo (hs:Hs):Code->List Code
 |.seq a b=>(match ay9 hs b with
  |some _=>[b]
  |none=>[])++(Lo hs a++Lo hs b)
 |.cond _ a b=>Lo hs a++Lo hs b
 |.block _ a=>Lo hs a
 |.loop a=>Lo hs a
 |_=>[]
def ast (id:Nat):Code->Option Code
 |.seq a b=>match(match QU b with
   |some i=>ww i id
   |none=>false) with
  |true=>some b
  |false=>match ast id a with
   |some c=>some c
   |none=>ast id b
 |.cond _ a b=>match ast id a with
  |some c=>some c
  |none=>ast id b
 |.block _ a=>ast id a
 |.loop a=>ast id a
 |_=>none
def Zw (id:Nat):Code->Option Code
 |.seq a b=>match Zw id a with
  |some c=>some c
  |none=>Zw id b
 |.cond _ a b=>match Zw id a with
  |some c=>some c
  |none=>Zw id b
 |.block _ a=>Zw id a
 |.loop a=>match QU a with
  |some j=>match ww j id with
   |true=>some a
   |false=>Zw id a
  |none=>Zw id a
 |_=>none
def Ln:Code->List Code
 |.seq a b=>Ln a++Ln b
 |.cond _ a b=>Ln a++Ln b
 |.block _ a=>Ln a
 |.loop a=>a::Ln a
 |_=>[]
def Zt (P:Program)(f:FuncId):Code:=((P.funcs[f]?).bind (·.body)).getD .skip
def Zs (P:Program)(f:FuncId)(id:Nat):Code:=(Zw id (Zt P f)).getD .skip
def afr (P:Program)(f:FuncId)(id:Nat):Code:=(ast id (Zt P f)).getD .skip
def tmpsOf (P:Program)(f:FuncId):Nat:=((P.funcs[f]?).map (·.ntmps)).getD 0
def iter {ρ:Type}(hd:St->Option St)(body:St->(AX->St->Option ρ)->Option ρ)(k:AX->St->Option ρ)(n:Nat):St->Option ρ:=
 Nat.rec (λ_=>none) (λ_ ih s=>body s λe s=>match e with
   |.nrm=>match hd s with
    |none=>none
    |some s=>xY s ih
   |e=>k e s) n
def next {ρ:Type}(hd:St->Option St)(c:St->Option ρ)(k:AX->St->Option ρ):AX->St->Option ρ:=λe s=>match e with
 |.nrm=>match hd s with
  |none=>none
  |some s=>xY s c
 |e=>k e s
def G' (P:Program)(E:Env)(hs:Hs)(nt kk:Nat)(lf:Nat){ρ:Type}:Code->St->(AX->St->Option ρ)->Option ρ
 |.skip,s,k=>k .nrm s
 |.region _ ops draw,s,k=>match draw with
  |false=>Ly P E nt kk ops.toList ops.toList s [] λs _=>k .nrm s
  |true=>Ly P E nt kk ops.toList ops.toList s [] λs l=>match QT ops.toList 0&&QS (Lx ops.toList []) l 0 with
   |true=>k .nrm s
   |false=>none
 |.seq a b,s,k=>G' P E hs nt kk lf a s λe s=>match e with
  |.nrm=>match ay9 hs b with
   |none=>G' P E hs nt kk lf b s k
   |some j=>match s.abi kk j.hd with
    |none=>none
    |some s=>xY s λs=>match ww j.sm.kk kk with
     |true=>j.sm.run s k
     |false=>none
  |e=>k e s
 |.cond (.tmp t) a b,s,k=>match s.tmp t with
  |.r (.c (.f (.b x)))=>match x with
   |true=>G' P E hs nt kk lf a s k
   |false=>G' P E hs nt kk lf b s k
  |_=>none
 |.block id a,s,k=>G' P E hs nt kk lf a s λe s=>match e with
  |.ex j=>match ww j id with
   |true=>k .nrm s
   |false=>k (.ex j) s
  |e=>k e s
 |.loop a,s,k=>match s.head kk hs a with
  |none=>none
  |some s=>xY s λs=>match apP hs a with
   |some σ=>match ww σ.kk kk with
    |true=>σ.run s k
    |false=>none
   |none=>iter (λt=>t.head kk hs a) (G' P E hs nt kk lf a) k lf s
 |.exit id,s,k=>k (.ex id) s
 |.ret,s,k=>match hs.rk with
  |none=>k .ret s
  |some h=>match s.abi kk h with
   |none=>none
   |some s=>xY s λs=>k .ret s
 |_,_,_=>none
def aSB (P:Program)(s:St):ResultVar->Option RV
 |.tmp t=>match s.tmp t with
  |.r v=>some v
  |_=>none
 |.cell a t=>match s.tmp a with
  |.r (.c (.ptr b o m))=>match adp P t,jf P t,s.bR b,o with
   |some true,some n,some bR,.k c=>match wd n m with
    |true=>(akK bR c (.l 1) n).map .agg
    |false=>none
   |some false,some _,some bR,.k c=>match wd 1 m with
    |true=>match akK bR c (.l 1) 1 with
     |some [.c v]=>some (.c v)
     |_=>none
    |false=>none
   |_,_,_,_=>none
  |_=>none
def axp (P:Program)(s:St):List ResultVar->Option (List RV)
 | []=>some []
 |r::l=>match aSB P s r,axp P s l with
  |some v,some vs=>some (v::vs)
  |_,_=>none
def one:List RV->AV
 | [v]=>.r v
 |vs=>.tup vs
def aia (s:List Nat):List (Option af)->Nat->List Ch
 | [],_=>[]
 |b::l,j=>(match s.any (ww j) with
  |false=>Ch.nc
  |true=>match b with
   |some b=>.set b
   |none=>.kill)::aia s l (j+1)
def aDJ {α:Type}:List (Option α)->Option (List α)
 | []=>some []
 |some a::l=>(aDJ l).map (a:: ·)
 |none::_=>none
def fin (P:Program)(fn:Func)(k:Nat)(e:AX)(s:St):Option pz:=
 match e with
 |.ex _=>none
 |_=>match axp P s fn.results.toList with
  |none=>none
  |some vs=>
   let x:=gcA k (one vs) []
   let y:=gcO k s.dy k (s.heap.take k) 0 x.2
   match gcN k s.heap 1000 0 y.2 [] with
   |some z=>match aDJ z.1 with
    |some news=>some {val:=x.1,yo:=aia s.dy y.1 0,news}
    |none=>none
   |none=>none
def start (fn:Func)(args:List AV)(h:List af)(d:List Nat):St:=
 {tmps:=args++List.replicate (fn.ntmps-args.length) udf,heap:=h.map some,dy:=d}
def den (P:Program)(E:Env)(hs:Hs)(lf:Nat)(f:FuncId)(args:List AV)(h:List af):Option pz:=
 match P.funcs[f]? with
 |none=>none
 |some fn=>match fn.body with
  |none=>none
  |some c=>match hs.dy.all λb=>v6 b h.length with
   |false=>none
   |true=>xY (start fn args h hs.dy) λs=>G' P E hs fn.ntmps h.length lf c s (fin P fn h.length)
end Go.Ab
