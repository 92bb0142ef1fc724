/-
  Parts of the proof: Ab
-/
import Derived.Orders
import Derived.KernelRfl
import Derived.LoopN
open Nat renaming beq→z9,ble→wr,blt→wl
set_option linter.unusedVariables false
set_option linter.unusedSimpArgs false
noncomputable section
namespace Go.Ab
set_option linter.defProp false
def aTj:=@Array.getElem?_setIfInBounds_ne
def ZM:=@Int.mul_le_mul_of_nonneg_right
def aYW:=@Array.eq_empty_of_size_eq_zero
def ap3:=@Array.getD_eq_getD_getElem?
def adQ:=@List.getElem?_append_right
def azD:=@Int.tdiv_eq_ediv_of_nonneg
def lP:=@List.getElem?_eq_some_iff
def Uu:=@List.getElem?_append_left
def aip:=@Array.getElem?_eq_getElem
def kT:=@List.getElem?_eq_getElem
def Om:=@decide_eq_false_iff_not
def aEo:=@List.getElem?_cons_zero
def aKE:=@List.length_eq_zero_iff
def m9:=@Option.map_eq_some_iff
def asG:=@Array.getElem?_eq_none
def aEp:=@Nat.dvd_of_mod_eq_zero
def lE:=@Nat.eq_of_beq_eq_true
def Kc:=@List.getElem?_eq_none
def Wa:=@Nat.le_of_ble_eq_true
def Wb:=@Array.getElem?_toList
def abK:=@Int.ediv_lt_of_lt_mul
def asH:=@Int.mul_ediv_add_emod
def axF:=@Nat.div_lt_iff_lt_mul
def axG:=@List.mem_iff_getElem?
def axH:=@Nat.ble_eq_true_of_le
def aKF:=@Array.getElem?_modify
def dQ:=@Int.ofNat_eq_natCast
def wR:=@Nat.mul_le_mul_right
def aEq:=@List.getElem?_zipIdx
def Wc:=@Array.length_toList
def afU:=@beq_eq_false_iff_ne
def wS:=@of_decide_eq_false
def yf:=@Bool.false_eq_true
def On:=@Bool.true_eq_false
def SO:=@List.getElem?_drop
def SP:=@Int.emod_lt_of_pos
def SQ:=@Nat.eq_zero_or_pos
def abL:=@List.getElem?_take
def axI:=@List.length_append
def aEr:=@Bool.not_eq_false'
def aEs:=@Nat.lt_of_lt_of_le
def dh:=@of_decide_eq_true
def iv:=@Option.some.injEq
def j7:=@decide_eq_true_eq
def pL:=@Bool.not_eq_true'
def CA:=@List.getElem?_map
def FG:=@Int.emod_eq_of_lt
def HV:=@Int.toNat_natCast
def afV:=@Nat.lt_trichotomy
def axJ:=@List.append_assoc
def aEt:=@List.getElem?_set
def bC:=@Option.bind_some
def cL:=@Bool.and_eq_true
def LD:=@Option.getD_some
def LF:=@List.length_cons
def abM:=@List.any_eq_true
def akP:=@Array.toList_inj
def asJ:=@List.length_drop
def axK:=@Nat.mod_eq_of_lt
def asK:=@List.all_eq_true
def axL:=@Int.ediv_le_self
def cC:=@decide_eq_false
def Ez:=@Int.ediv_nonneg
def LG:=@Option.some.inj
def SS:=@Option.map_some
def Wd:=@Int.emod_nonneg
def afW:=@List.length_map
def afX:=@Bool.or_eq_true
def aEu:=@ne_of_beq_false
def asL:=@Nat.mul_add_mod
def dR:=@decide_eq_true
def Aq:=@Int.mul_nonneg
def LH:=@Int.mul_le_mul
def pM:=@Bool.true_and
def rq:=@Prod.mk.injEq
def CB:=@Nat.add_assoc
def FH:=@false_implies
def HW:=@Bool.not_true
def LJ:=@Bool.or_false
def abN:=@List.mem_cons
def akQ:=@Int.mul_assoc
def gP:=@Nat.zero_add
def dx:=@Nat.le_trans
def ky:=@Nat.add_zero
def j8:=@Sum.elim_inr
def mO:=@Nat.lt_or_ge
def na:=@Sum.elim_inl
def pS:=@Int.le_of_lt
def yg:=@Int.mul_comm
def Ar:=@Nat.beq_refl
def Kd:=@decide_false
def Ke:=@Int.lt_or_le
def SU:=@true_implies
def Oo:=@implies_true
def SV:=@Nat.zero_mul
def abO:=@Nat.mul_comm
def LK:=@Int.le_trans
def abP:=@Int.le_total
def akR:=@Int.zero_add
def asM:=@Nat.succ_mul
def afY:=@Int.zero_mul
def cP:=@Nat.le_refl
def dZ:=@Int.le_refl
def qR:=@Nat.add_mul
def Ji:=@decide_true
def Vc:=@Nat.one_mul
def ZN:=@Int.add_mul
def bx:=@cond_false
def bn:=@cond_true
def ES:=@ge_iff_le
def eC:=@congrArg
def gq:=@if_false
def A6:=@true_and
def CC:=@and_true
def lK:=@if_true
inductive FV where
 |u
 |b (x:Bool)
 |i (k:IntKind) (n:Int)
 |s (x:ByteArray)
 |q (n:Nat) (g:Nat->Bool)
inductive Sz where
 |l (n:Nat)
 |s (n:Nat)
def Sz.val:Sz->Nat
 |.l n=>n
 |.s n=>n
def Sz.add:Sz->Sz->Sz
 |.l a,.l b=>.l (a+b)
 |a,b=>.s (a.val+b.val)
def Sz.least:Sz->Sz->Sz
 |.l a,.l b=>.l (Nat.min a b)
 |a,b=>.s (Nat.min a.val b.val)
def Sz.mul (a:Sz)(k:Nat):Sz:=
 match z9 k 1 with
 |true=>a
 |false=>match a with
  |.l a=>.l (a*k)
  |.s a=>.s (a*k)
inductive cG where
 |k (c:Nat)
 |x (c i z:Nat)
def cG.val:cG->Nat
 |.k c=>c
 |.x c i z=>c+i*z
def cG.add:cG->Nat->cG
 |.k c,d=>.k (c+d)
 |.x c i z,d=>.x (c+d) i z
def cG.plus:cG->cG->cG
 |.k c,.k d=>.k (c+d)
 |.x c i z,.k d=>.x (c+d) i z
 |.k c,.x d i z=>.x (c+d) i z
 |.x c i z,.x d j y=>match z9 z y with
  |true=>.x (c+d) (i+j) z
  |false=>.x 0 (c+i*z+(d+j*y)) 1
def cG.idx (o:cG)(j z n:Nat):cG:=
 match o with
 |.k c=>.x c j z
 |.x c i y=>match z9 y (n*z) with
  |true=>.x c (i*n+j) z
  |false=>.x 0 (c+i*y+j*z) 1
def cG.aM8 (o:cG)(j z:Nat):cG:=
 match o with
 |.k c=>.x c j z
 |.x c i y=>match z9 y z with
  |true=>.x c (i+j) z
  |false=>.x 0 (c+i*y+j*z) 1
inductive cR where
 |i (k:IntKind) (g:Nat->Int)
 |b (g:Nat->Bool)
 |s (g:Nat->ByteArray)
 |u
 |q (n:Nat->Nat) (g:Nat->Nat->Bool)
inductive CV where
 |f (v:FV)
 |ptr (b:Nat) (o:cG) (n:Nat)
 |aiq
 |sl (b:Nat) (o:cG) (len:Sz) (esz:Nat) (own:Bool)
 |nils
 |aTk
 |aTl
 |cl (f b:Nat) (o:cG) (n:Nat)
 |fs (n z:Nat) (cols:List cR)
 |fp (l:List FV)
inductive Sg where
 |c (v:CV)
 |a (n:Sz) (cols:List cR)
abbrev aj:=List Sg
inductive RV where
 |c (v:CV)
 |agg (b:aj)
inductive AV where
 |r (v:RV)
 |tup (vs:List RV)
 |fn (f:Nat) (adR:List RV)
 |We
def We:AV:=.We
def udf:AV:=.tup []
def cR.at:cR->Nat->FV
 |.i k g,j=>.i k (g j)
 |.b g,j=>.b (g j)
 |.s g,j=>.s (g j)
 |.u,_=>.u
 |.q n g,j=>.q (n j) (g j)
def cR.shift (d:Nat):cR->cR
 |.i k g=>.i k λj=>g (d+j)
 |.b g=>.b λj=>g (d+j)
 |.s g=>.s λj=>g (d+j)
 |.u=>.u
 |.q n g=>.q (λj=>n (d+j)) λj=>g (d+j)
def cR.up (d:Nat):cR->cR
 |.i k g=>.i k λj=>g (j-d)
 |.b g=>.b λj=>g (j-d)
 |.s g=>.s λj=>g (j-d)
 |.u=>.u
 |.q n g=>.q (λj=>n (j-d)) λj=>g (j-d)
def cR.aTm (c:cR)(e:Nat)(v:CV):Option cR:=
 match c,v with
 |.i k g,.f (.i k' x)=>if k=k' then some (.i k λj=>cond (z9 j e) x (g j)) else none
 |.b g,.f (.b x)=>some (.b λj=>cond (z9 j e) x (g j))
 |.s g,.f (.s x)=>some (.s λj=>cond (z9 j e) x (g j))
 |_,_=>none
def cR.mrg (p:Nat->Bool)(c d:cR):Option cR:=
 match c,d with
 |.i k g,.i k' h=>if k=k' then some (.i k λj=>cond (p j) (g j) (h j)) else none
 |.b g,.b h=>some (.b λj=>cond (p j) (g j) (h j))
 |.s g,.s h=>some (.s λj=>cond (p j) (g j) (h j))
 |_,_=>none
def auu (p:Nat->Bool):List cR->List cR->Option (List cR)
 | [],[]=>some []
 |c::cs,d::ds=>match cR.mrg p c d,auu p cs ds with
  |some e,some es=>some (e::es)
  |_,_=>none
 |_,_=>none
def Sg.size:Sg->Nat
 |.c _=>1
 |.a n cols=>n.val*cols.length
def Sg.get:Sg->Nat->CV
 |.c v,j=>match j with
  |0=>v
  |_+1=>.f .u
 |.a _ cols,j=>match cols[j%cols.length]? with
  |some q=>.f (q.at (j/cols.length))
  |none=>.f .u
def aj.size:aj->Nat
 | []=>0
 |s::l=>s.size+aj.size l
def aj.get:aj->Nat->CV
 | [],_=>.f .u
 |s::l,j=>if j<s.size then s.get j else aj.get l (j-s.size)
def aj.list (b:aj):List CV:=(List.range b.size).map b.get
def CV.fv:CV->FV
 |.f v=>v
 |_=>.u
def RV.bX:RV->aj
 |.c v=>[.c v]
 |.agg b=>b
def shC (sh:Bool)(e:Nat)(cols:List cR):List cR:=
 match sh with
 |true=>cols.map (cR.shift e)
 |false=>cols
def aKG (sh:Bool)(cols:List cR)(e oc:Nat)(cH:Sz)(z:Nat):Option aj:=
 match z9 oc 0&&z9 (z%cols.length) 0 with
 |true=>some [.a (cH.mul (z/cols.length)) (shC sh e cols)]
 |false=>none
def rowsOf (sh:Bool)(cols:List cR)(e oc:Nat)(cH:Sz)(z:Nat):Option aj:=
 match cH with
 |.l n=>match z9 n 1&&wr (oc+z) cols.length with
  |true=>some (((cols.drop oc).take z).map λq=>Sg.c (.f (q.at e)))
  |false=>aKG sh cols e oc (.l n) z
 |.s n=>aKG sh cols e oc (.s n) z
def Wf:aj->Nat->Option aj
 | [],m=>match m with
  |0=>some []
  |_+1=>none
 |.c v::r,m=>match m with
  |0=>some []
  |m+1=>(Wf r m).map (.c v:: ·)
 |.a n cols::r,m=>match m with
  |0=>some []
  |m+1=>match n with
   |.s _=>none
   |.l n=>match wr (n*cols.length) (m+1) with
    |true=>(Wf r (m+1-n*cols.length)).map (.a (.l n) cols:: ·)
    |false=>rowsOf false cols 0 0 (.l 1) (m+1)
def nz:Nat->Bool
 |0=>false
 |_+1=>true
def akS:aj->Nat->Sz->Nat->Option aj
 | [],c,cH,z=>match cH with
  |.l n=>match z9 (n*z) 0 with
   |true=>some []
   |false=>none
  |.s _=>none
 |.c v::r,c,cH,z=>match c with
  |0=>match cH with
   |.l n=>Wf (.c v::r) (n*z)
   |.s _=>none
  |c+1=>akS r c cH z
 |.a n cols::r,c,cH,z=>match r with
  | []=>rowsOf (nz (c/cols.length)) cols (c/cols.length) (c%cols.length) cH z
  |_::_=>match n,cH with
   |.l n,.l m=>match wr (n*cols.length) c with
    |true=>akS r (c-n*cols.length) cH z
    |false=>match wr (c+m*z) (n*cols.length) with
     |true=>rowsOf (nz (c/cols.length)) cols (c/cols.length) (c%cols.length) cH z
     |false=>match c with
      |0=>Wf (.a (.l n) cols::r) (m*z)
      |_+1=>none
   |_,_=>none
def elemOf (c i z zc:Nat):Nat:=
 match z9 z zc with
 |true=>match c/zc with
  |0=>i
  |q+1=>q+1+i
 |false=>c/zc+i*(z/zc)
def azE:aj->Nat->Nat->Nat->Sz->Nat->Option (Bool×aj)
 | [],_,_,_,_,_=>none
 |.c v::r,c,i,z,cH,y=>match c with
  |0=>(akS (.c v::r) (i*z) cH y).map λb=>(true,b)
  |c+1=>azE r c i z cH y
 |.a n cols::r,c,i,z,cH,y=>match r with
  | []=>match z9 (z%cols.length) 0 with
   |true=>(rowsOf true cols (elemOf c i z cols.length) (c%cols.length) cH y).map λb=>(true,b)
   |false=>none
  |_::_=>match n with
   |.l n=>match wr (n*cols.length) c with
    |true=>azE r (c-n*cols.length) i z cH y
    |false=>match z9 (z%cols.length) 0 with
     |true=>(rowsOf true cols (elemOf c i z cols.length) (c%cols.length) cH y).map λb=>(wr (c+i*z+cH.val*y) (n*cols.length),b)
     |false=>none
   |.s _=>none
def aj.sub (b:aj)(o:cG)(cH:Sz)(z:Nat):Option (Bool×aj):=
 match o with
 |.k c=>(akS b c cH z).map λb=>(true,b)
 |.x c i y=>azE b c i y cH z
def afZ:List cR->Nat->Nat->CV->Option (List cR)
 | [],_,_,_=>none
 |c::cs,0,e,v=>(cR.aTm c e v).map (·::cs)
 |c::cs,j+1,e,v=>(afZ cs j e v).map (c:: ·)
def Ef (zc:Nat):List cR->Nat->Nat->aj->Option (List cR)
 |cols,_,_,[]=>some cols
 |cols,e,oc,.c v::r=>match afZ cols oc e v with
  |some dV=>match z9 (oc+1) zc with
   |true=>Ef zc dV (e+1) 0 r
   |false=>Ef zc dV e (oc+1) r
  |none=>none
 |_,_,_,.a _ _::_=>none
def aEv (cols:List cR)(e oc:Nat)(v:aj):Option (List cR):=
 match v with
 | [.a m dV]=>match z9 oc 0&&z9 cols.length dV.length with
  |true=>auu (λj=>wr e j&&wl j (e+m.val)) (dV.map (cR.up e)) cols
  |false=>none
 |v=>Ef cols.length cols e oc v
def dE:aj->aj->Option aj
 |b,[]=>some b
 |.c _::r,.c y::vs=>(dE r vs).map (.c y:: ·)
 |.a (.l n) cols::r,.a (.l m) dV::vs=>match z9 n m&&z9 cols.length dV.length with
  |true=>(dE r vs).map (.a (.l m) dV:: ·)
  |false=>none
 |_,_=>none
def aKH (n:Sz)(cols:List cR)(v:aj):Bool:=
 match n,v with
 |.l n,[.a (.l m) dV]=>z9 n m&&z9 cols.length dV.length
 |_,_=>false
def akT:aj->Nat->aj->Option aj
 | [],_,v=>match v with
  | []=>some []
  |_::_=>none
 |.c x::r,c,v=>match c with
  |0=>dE (.c x::r) v
  |c+1=>(akT r c v).map (.c x:: ·)
 |.a n cols::r,c,v=>match r with
  | []=>match z9 c 0&&aKH n cols v with
   |true=>some v
   |false=>(aEv cols (c/cols.length) (c%cols.length) v).map λcols=>[.a n cols]
  |_::_=>match n with
   |.s _=>none
   |.l n=>match wr (n*cols.length) c with
    |true=>(akT r (c-n*cols.length) v).map (.a (.l n) cols:: ·)
    |false=>match z9 c 0&&aKH (.l n) cols v with
     |true=>some (v++r)
     |false=>match wr (c+aj.size v) (n*cols.length) with
      |true=>(aEv cols (c/cols.length) (c%cols.length) v).map λcols=>.a (.l n) cols::r
      |false=>match c with
       |0=>dE (.a (.l n) cols::r) v
       |_+1=>none
def azF:aj->Nat->Nat->Nat->aj->Option (Bool×aj)
 | [],_,_,_,_=>none
 |.c x::r,c,i,z,v=>match c with
  |0=>(akT (.c x::r) (i*z) v).map λb=>(true,b)
  |c+1=>(azF r c i z v).map λp=>(p.1,.c x::p.2)
 |.a n cols::r,c,i,z,v=>match r with
  | []=>match z9 (z%cols.length) 0 with
   |true=>(aEv cols (elemOf c i z cols.length) (c%cols.length) v).map λcols=>(true,[.a n cols])
   |false=>none
  |_::_=>match n with
   |.l n=>match wr (n*cols.length) c with
    |true=>(azF r (c-n*cols.length) i z v).map λp=>(p.1,.a (.l n) cols::p.2)
    |false=>match z9 (z%cols.length) 0 with
     |true=>(aEv cols (elemOf c i z cols.length) (c%cols.length) v).map λcols=>(wr (c+i*z+aj.size v) (n*cols.length),.a (.l n) cols::r)
     |false=>none
   |.s _=>none
def aj.A5 (b:aj)(o:cG)(v:aj):Option (Bool×aj):=
 match o with
 |.k c=>(akT b c v).map λb=>(true,b)
 |.x c i z=>azF b c i z v
def Wg:aj->Bool
 | []=>true
 |.c _::r=>Wg r
 |.a _ _::_=>false
def aKI:FV->Option cR
 |.i k x=>some (.i k λ_=>x)
 |.b x=>some (.b λ_=>x)
 |.s x=>some (.s λ_=>x)
 |.u=>none
 |.q _ _=>none
def ET:Nat->aj->Option (List cR)
 |0,_=>some []
 |z+1,.c (.f v)::r=>match aKI v,ET z r with
  |some c,some cs=>some (c::cs)
  |_,_=>none
 |_+1,_=>none
def rowOf (z:Nat)(b:aj):Option aj:=
 match Wg b&&(wr 1 z&&z9 (b.length%z) 0) with
 |true=>match ET z b with
  |some cols=>(Ef z cols 0 0 b).map λcols=>[.a (.l (b.length/z)) cols]
  |none=>none
 |false=>none
def af0 (cols:List cR):List Nat->aj
 | []=>[]
 |j::l=>.c (match cols[j%cols.length]? with
  |some q=>.f (q.at (j/cols.length))
  |none=>.f .u)::af0 cols l
def uj:aj->aj
 | []=>[]
 |.c v::r=>.c v::uj r
 |.a n cols::r=>match n with
  |.l n=>af0 cols (List.range (n*cols.length))++uj r
  |.s n=>.a (.s n) cols::uj r
def aM9 (n:Sz)(cols:List cR)(b:aj):Option aj:=
 match Wg b&&(wr 1 cols.length&&z9 (b.length%cols.length) 0) with
 |true=>(Ef cols.length cols n.val 0 b).map λcs=>[.a (n.add (.l (b.length/cols.length))) cs]
 |false=>none
def aTn (n:Sz)(cols:List cR)(b:aj):Option aj:=
 match b with
 | [.a m dV]=>match z9 cols.length dV.length&&wr 1 cols.length with
  |true=>(auu (λj=>wl j n.val) cols (dV.map (cR.up n.val))).map λcols=>[.a (n.add m) cols]
  |false=>aM9 n cols (uj b)
 |b=>aM9 n cols (uj b)
def aTo:aj->Bool
 | []=>true
 |.c _::r=>aTo r
 |.a (.l _) _::r=>aTo r
 |.a (.s _) _::_=>false
def aj.app (a b:aj):Option aj:=
 match a,b with
 | [],b=>some b
 |a,[]=>some a
 | [.a n cols],b=>aTn n cols b
 |a,[.a m dV]=>match rowOf dV.length (uj a) with
  |some [.a n cols]=>aTn n cols [.a m dV]
  |_=>none
 |a,b=>match aTo a&&aTo b with
  |true=>some (a++b)
  |false=>none
def asN (z:Nat)(b:aj):aj:=
 match b with
 | []=>[]
 | [.a n cols]=>match z9 cols.length z with
  |true=>[.a n cols]
  |false=>match rowOf z (uj [.a n cols]) with
   |some b=>b
   |none=>[.a n cols]
 |b=>match rowOf z (uj b) with
  |some r=>r
  |none=>b
structure St where
 tmps:List AV
 heap:List (Option aj)
 dm:List Nat
def St.bX (s:St)(b:Nat):Option aj:=(s.heap[b]?).getD none
def akU (l:List AV):Nat->AV:=List.rec (motive:=λ_=>Nat->AV) (λ_=>udf) (λa _ ih i=>Nat.rec (motive:=λ_=>AV) a (λm _=>ih m) i) l
def St.tmp (s:St)(i:Nat):AV:=akU s.tmps i
def azG {α ρ:Type}(l:List α):Nat->α->(List α->Option ρ)->Option ρ:=
 List.rec (motive:=λ_=>Nat->α->(List α->Option ρ)->Option ρ) (λ_ _ _=>none)
  (λa l ih i v k=>Nat.rec (motive:=λ_=>Option ρ) (k (v::l)) (λm _=>ih m v λl'=>k (a::l')) i) l
inductive Fp where
 |t (i:Nat)
 |c (b:Nat) (r:Option (Nat×Nat))
 |z (b:Nat)
inductive Up where
 |t (i:Nat) (v:AV)
 |c (b:Nat) (o:cG) (v:aj)
 |new (b:Nat) (bX:aj)
 |kill (b:Nat)
def ext (o:cG)(cH:Sz)(z:Nat):Option (Nat×Nat):=
 match o,cH with
 |.k c,.l n=>some (c,n*z)
 |_,_=>none
def szL:aj->Option Nat
 | []=>some 0
 |.c _::r=>(szL r).map (1+ ·)
 |.a (.l n) cols::r=>(szL r).map (n*cols.length+ ·)
 |.a (.s _) _::_=>none
def aNa (o:cG)(v:aj):Option (Nat×Nat):=
 match o with
 |.k c=>(szL v).map λn=>(c,n)
 |_=>none
inductive Rd (α:Type):Type 1 where
 |ret (a:α)
 |fail
 |tm (i:Nat) (k:AV->Rd α)
 |vw (b:Nat) (o:cG) (cH:Sz) (z:Nat) (k:aj->Rd α)
 |sz (b:Nat) (k:Rd α)
 |test (x:Bool) (k:Bool->Rd α)
 |opt {D:Type} (x:Option D) (k:D->Rd α)
def Rd.bind {α β:Type}:Rd α->(α->Rd β)->Rd β
 |.ret a,f=>f a
 |.fail,_=>.fail
 |.tm i k,f=>.tm i λv=>(k v).bind f
 |.vw b o cH z k,f=>.vw b o cH z λv=>(k v).bind f
 |.sz b k,f=>.sz b (k.bind f)
 |.test x k,f=>.test x λv=>(k v).bind f
 |.opt x k,f=>.opt x λv=>(k v).bind f
def eE {α:Type}:Option α->Rd α
 |some a=>.ret a
 |none=>.fail
def cM (x:Bool):Rd Unit:=.test x λ|true=>.ret ()|false=>.fail
def Rd.run {α ρ:Type}:Rd α->St->List Fp->(α->List Fp->Option ρ)->Option ρ
 |.ret a,_,l,k=>k a l
 |.fail,_,_,_=>none
 |.tm i m,s,l,k=>(m (s.tmp i)).run s (.t i::l) k
 |.vw b o cH z m,s,l,k=>
  match s.bX b with
  |some bX=>match bX.sub o cH z with
   |some p=>match p.1 with
    |true=>(m p.2).run s (.z b:: .c b (ext o cH z)::l) k
    |false=>none
   |none=>none
  |none=>none
 |.sz b m,s,l,k=>
  match s.bX b with
  |some _=>m.run s (.z b::l) k
  |none=>none
 |.test x m,s,l,k=>
  match x with
  |true=>(m true).run s l k
  |false=>(m false).run s l k
 |.opt x m,s,l,k=>
  match x with
  |some d=>(m d).run s l k
  |none=>none
def aEw (b:aj)(o:cG)(cH:Sz)(z:Nat):Rd aj:=
 match b.sub o cH z with
 |some p=>.test p.1 λ|true=>.ret p.2|false=>.fail
 |none=>.fail
def ofC:Value->Option CV
 |.bool b=>some (.f (.b b))
 |.int k n=>some (.f (.i k n))
 |.string s=>some (.f (.s s))
 |.pointer none=>some .aiq
 |.slice none 0 0=>some .nils
 |.nilFunc=>some .aTk
 |.nilIface=>some .aTl
 |_=>none
def aII:List Value->Option aj
 | []=>some []
 |v::vs=>match ofC v,aII vs with
  |some c,some cs=>some (.c c::cs)
  |_,_=>none
def ofR:Value->Option RV
 |.agg cs=>(aII cs.toList).map .agg
 |v=>(ofC v).map .c
def EA:Operand->Rd AV
 |.tmp t=>.tm t .ret
 |.const v=>(eE (ofR v)).bind λr=>.ret (.r r)
 |.func f=>.ret (.fn f [])
 |.global _=>.fail
def asR:AV->Rd RV
 |.r v=>.ret v
 |_=>.fail
def asC:AV->Rd CV
 |.r (.c v)=>.ret v
 |_=>.fail
def asI:AV->Rd (IntKind×Int)
 |.r (.c (.f (.i k n)))=>.ret (k,n)
 |_=>.fail
def asB:AV->Rd Bool
 |.r (.c (.f (.b x)))=>.ret x
 |_=>.fail
def asP:AV->Rd (Nat×cG×Nat)
 |.r (.c (.ptr b o n))=>.ret (b,o,n)
 |_=>.fail
def wT (x:Operand):Rd RV:=(EA x).bind asR
def asS:AV->Rd RV
 |.r v=>.ret v
 |.fn f [.c (.ptr b o n)]=>.ret (.c (.cl f b o n))
 |_=>.fail
def aNb (x:Operand):Rd RV:=(EA x).bind asS
def Hy (x:Operand):Rd CV:=(EA x).bind asC
def KX (x:Operand):Rd (IntKind×Int):=(EA x).bind asI
def aIJ (x:Operand):Rd Bool:=(EA x).bind asB
def aNc (x:Operand):Rd (Nat×cG×Nat):=(EA x).bind asP
def uk {α β:Type}(f:α->Rd β):List α->Rd (List β)
 | []=>.ret []
 |a::l=>(f a).bind λb=>(uk f l).bind λbs=>.ret (b::bs)
def adS (P:Program)(t:TypeId):Option Bool:=
 match P.underlying t with
 |some (.struct _)|some (.array _ _)=>some true
 |some _=>some false
 |none=>none
def iR (P:Program)(t:TypeId):Option Nat:=(P.info? t).map (·.size)
def af1 (P:Program)(t:TypeId)(i:Nat):Option Field:=
 match P.underlying t with
 |some (.struct fs)=>fs[i]?
 |_=>none
def aTp (P:Program)(n:Nat)(e:TypeId):Bool:=
 wr 9 n||match P.underlying e with
 |some (.int .u64)=>wr 8 n
 |some (.struct _)=>wr 4 n
 |_=>false
inductive Tm where
 |c
 |a (n z:Nat)
def aTq {α:Type}:Nat->List α->List α
 |0,_=>[]
 |n+1,l=>l++aTq n l
def akV (P:Program):Nat->TypeId->List Tm
 |0,_=>[]
 |d+1,t=>match P.underlying t with
  |some (.struct fs)=>(fs.toList.map λf=>akV P d f.type).flatten
  |some (.array n e)=>match aTp P n e with
   |true=>match akV P d e with
    | [.a m z]=>[.a (n*m) z]
    |_=>[.a n ((iR P e).getD 0)]
   |false=>aTq n (akV P d e)
  |_=>[.c]
def FV.same:FV->FV->Bool
 |.b x,.b y=>x==y
 |.i k x,.i k' y=>decide (k=k')&&x==y
 |_,_=>false
def Wh (z:Nat)(row:aj):Nat->aj->Option aj
 |0,b=>some b
 |m+1,.c (.f v)::r=>match row[(m%z)]? with
  |some (.c (.f y))=>match v.same y with
   |true=>Wh z row m r
   |false=>none
  |_=>none
 |_+1,_=>none
def abQ:List Tm->aj->Option aj
 | [],[]=>some []
 |.c::tm,.c v::r=>(abQ tm r).map (.c v:: ·)
 |.a n z::tm,b=>match ET z b with
  |some cols=>match wr 1 z with
   |true=>match Wh z ((b.take z).reverse) (n*z) b with
    |some r=>(abQ tm r).map (.a (.l n) cols:: ·)
    |none=>none
   |false=>none
  |none=>none
 |_,_=>none
def Bk (P:Program)(t:TypeId):Option RV:=
 match((P.info? t).bind (·.zero)).bind ofR with
 |some (.agg b)=>(abQ (akV P 30 t) b).map .agg
 |r=>r
def FV.isB:FV->Bool
 |.b _=>true
 |_=>false
def FV.toB:FV->Bool
 |.b x=>x
 |_=>false
def FV.isI (k:IntKind):FV->Bool
 |.i k' _=>decide (k'=k)
 |_=>false
def FV.toI:FV->Int
 |.i _ n=>n
 |_=>0
def FV.isS:FV->Bool
 |.s _=>true
 |_=>false
def FV.toS:FV->ByteArray
 |.s x=>x
 |_=>.empty
def aIK (P:Program)(t:TypeId)(c:CV):Rd CV:=
 match P.underlying t,c with
 |some .bool,.f x=>.test x.isB λ|true=>.ret (.f (.b x.toB))|false=>.fail
 |some (.int k),.f x=>.test (x.isI k) λ|true=>.ret (.f (.i k x.toI))|false=>.fail
 |some .string,.f x=>.test x.isS λ|true=>.ret (.f (.s x.toS))|false=>.fail
 |some (.slice _),.f (.q n g)=>.ret (.fs n 1 [.b g])
 |_,c=>.ret c
def af2:List Tm->aj->Option aj
 | [],[]=>some []
 |.c::tm,.c v::r=>(af2 tm r).map (.c v:: ·)
 |.a n z::tm,b=>match wr (n*z) b.length with
  |true=>match rowOf z (b.take (n*z)) with
   |some row=>(af2 tm (b.drop (n*z))).map (row++ ·)
   |none=>none
  |false=>none
 |_,_=>none
def norm (P:Program)(t:TypeId)(l:aj):aj:=
 match Wg l&&wr 8 l.length with
 |true=>match af2 (akV P 30 t) l with
  |some r=>r
  |none=>l
 |false=>match Wg l with
  |true=>l
  |false=>match(akV P 30 t).all (λ|.c=>true|.a _ _=>false) with
   |true=>uj l
   |false=>l
def ap4 (P:Program)(t:TypeId)(v:RV):Rd RV:=
 match v with
 |.c c=>(aIK P t c).bind λc=>.ret (.c c)
 |.agg l=>.ret (.agg (norm P t l))
def asO:aj->Rd RV
 | [.c v]=>.ret (.c v)
 |_=>.fail
def ZO (P:Program)(t:TypeId)(b:Nat)(o:cG)(m:Nat):Rd RV:=
 (eE (adS P t)).bind λa=>(eE (iR P t)).bind λn=>
  match a with
  |true=>(cM (wr n m)).bind λ_=>.vw b o (.l 1) n λl=>.ret (.agg l)
  |false=>(cM (wr 1 m)).bind λ_=>.vw b o (.l 1) 1 asO
def valueOf (P:Program)(t:TypeId)(b:Nat)(o:cG)(m:Nat):Rd RV:=(ZO P t b o m).bind (ap4 P t)
def aKJ (P:Program)(t:TypeId)(cs:aj)(o:cG):Rd RV:=
 (eE (adS P t)).bind λa=>(eE (iR P t)).bind λn=>
  match a with
  |true=>(aEw cs o (.l 1) n).bind λl=>.ret (.agg l)
  |false=>(aEw cs o (.l 1) 1).bind asO
def partOf (P:Program)(t:TypeId)(cs:aj)(o:cG):Rd RV:=(aKJ P t cs o).bind (ap4 P t)
def Oq (P:Program)(t:TypeId)(cs:aj)(c:Nat):Rd RV:=
 (eE (iR P t)).bind λn=>(cM (wr 1 n&&wr (c+n) (aj.size cs))).bind λ_=>partOf P t cs (.k c)
def asQ (op:BinOp)(k:IntKind)(x y:Int):Option Int:=
 let a:=BitVec.ofInt k.bits x
 let b:=BitVec.ofInt k.bits y
 match op with
 |.and=>some (k.wrap (a&&&b).toNat)
 |.or=>some (k.wrap (a|||b).toNat)
 |.xor=>some (k.wrap (a^^^b).toNat)
 |.andNot=>some (k.wrap (a&&& ~~~b).toNat)
 |_=>none
def aYX (op:BinOp)(k:IntKind)(x y:Int):Rd FV:=
 match op with
 |.add=>.ret (.i k (k.wrap (x+y)))
 |.sub=>.ret (.i k (k.wrap (x-y)))
 |.mul=>.ret (.i k (k.wrap (x*y)))
 |.quo=>(cM (!decide (y=0))).bind λ_=>.ret (.i k (k.wrap (x.tdiv y)))
 |.rem=>(cM (!decide (y=0))).bind λ_=>.ret (.i k (x.tmod y))
 |.eql=>.ret (.b (x==y))
 |.neq=>.ret (.b (x !=y))
 |.lss=>.ret (.b (decide (x<y)))
 |.leq=>.ret (.b (decide (x<=y)))
 |.gtr=>.ret (.b (decide (x>y)))
 |.geq=>.ret (.b (decide (x>=y)))
 |.shl|.shr=>.fail
 |op=>(eE (asQ op k x y)).bind λn=>.ret (.i k n)
def aTr (op:BinOp)(k:IntKind)(x y:Int):Rd FV:=
 (cM (!decide (y<0))).bind λ_=>
  match op with
  |.shl=>.ret (.i k (k.wrap (x*2^(min y.toNat k.bits))))
  |.shr=>.ret (.i k (x.fdiv (2^(min y.toNat k.bits))))
  |_=>.fail
def aTs (n:Nat)(p:Nat->Bool):Bool:=(List.range n).all p
def aEx (n:Nat):List cR->List cR->Option Bool
 | [.i k g],[.i k' h]=>if k=k' then some (aTs n λj=>g j==h j) else none
 | [.b g],[.b h]=>some (aTs n λj=>g j==h j)
 |_,_=>none
def adT (P:Program)(e:TypeId)(c:List cR):Bool:=
 match P.underlying e,c with
 |some .bool,[.b _]=>true
 |some (.int _),[.i _ _]=>true
 |_,_=>false
def aNd (P:Program)(air:TypeId->RV->RV->Rd Bool)(xs ys:aj):List Field->Rd Bool
 | []=>.ret true
 |f::fs=>if f.name≠"_" then
   (Oq P f.type xs f.offset).bind λa=>(Oq P f.type ys f.offset).bind λb=>(air f.type a b).bind λr=>(aNd P air xs ys fs).bind λs=>.ret (r&&s)
  else aNd P air xs ys fs
def aYY (P:Program)(air:TypeId->RV->RV->Rd Bool)(e:TypeId)(z:Nat)(xs ys:aj):List Nat->Rd Bool
 | []=>.ret true
 |i::l=>(Oq P e xs (i*z)).bind λa=>(Oq P e ys (i*z)).bind λb=>(air e a b).bind λr=>(aYY P air e z xs ys l).bind λs=>.ret (r&&s)
def aYZ (P:Program)(d n z:Nat)(e:TypeId)(xs ys:aj):Option Bool:=
 match xs,ys with
 | [.a (.l m) c],[.a (.l m') c']=>match wr 1 d&&(z9 z 1&&(z9 m n&&(z9 m' n&&adT P e c))) with
  |true=>aEx n c c'
  |false=>none
 |_,_=>none
def eqT (P:Program):Nat->TypeId->RV->RV->Rd Bool
 |0,_,_,_=>.fail
 |d+1,t,x,y=>match P.underlying t,x,y with
  |some .bool,.c (.f (.b a)),.c (.f (.b b))=>.ret (a==b)
  |some (.int _),.c (.f (.i k a)),.c (.f (.i k' b))=>if k=k' then .ret (a==b) else .fail
  |some .string,.c (.f (.s a)),.c (.f (.s b))=>.ret (a==b)
  |some (.pointer _),.c .aiq,.c .aiq=>.ret true
  |some (.pointer _),.c (.ptr _ _ _),.c .aiq|some (.pointer _),.c .aiq,.c (.ptr _ _ _)=>.ret false
  |some (.struct fs),.agg xs,.agg ys=>match P.stoodInHeld t with
   |true=>.fail
   |false=>aNd P (eqT P d) xs ys fs.toList
  |some (.array n e),.agg xs,.agg ys=>(eE (iR P e)).bind λz=>match aYZ P d n z e xs ys with
   |some r=>.ret r
   |none=>aYY P (eqT P d) e z xs ys (List.range n)
  |_,_,_=>.fail
def eqV (P:Program)(t:TypeId)(x y:RV):Rd Bool:=
 match x,y with
 |.agg _,.agg _=>match P.eqGuardType P.depth t with
  |true=>.fail
  |false=>eqT P 30 t x y
 |.c (.f (.i _ _)),_|.c (.f (.s _)),_|.c (.f .u),_|.c (.f (.q _ _)),_=>.fail
 |_,_=>eqT P 30 t x y
def aY0 (P:Program)(op:BinOp)(t:TypeId)(x y:RV):Rd RV:=
 match x,y with
 |.c (.f (.i k a)),.c (.f (.i k' b))=>
  match op with
  |.shl|.shr=>(aTr op k a b).bind λv=>.ret (.c (.f v))
  |op=>if k=k' then(aYX op k a b).bind λv=>.ret (.c (.f v)) else .fail
 |x,y=>
  match op with
  |.eql=>(eqV P t x y).bind λr=>.ret (.c (.f (.b r)))
  |.neq=>(eqV P t x y).bind λr=>.ret (.c (.f (.b (!r))))
  |_=>.fail
def unV (op:UnOp)(x:RV):Rd RV:=
 match op,x with
 |.neg,.c (.f (.i k n))=>.ret (.c (.f (.i k (k.wrap (0-n)))))
 |.xor,.c (.f (.i k n))=>(eE (asQ .xor k (if k.signed then -1 else k.max) n)).bind λr=>.ret (.c (.f (.i k r)))
 |.not,.c (.f (.b x))=>.ret (.c (.f (.b (!x))))
 |_,_=>.fail
def aRk (P:Program)(src dst:TypeId)(x:RV):Rd RV:=
 match P.underlying src,P.underlying dst,x with
 |some _,some (.int k),.c (.f (.i _ n))=>.ret (.c (.f (.i k (k.wrap n))))
 |_,_,_=>.fail
def aZ (i:Int)(n:Nat):Bool:=decide (0<=i)&&decide (i<(n:Int))
def HA (i:Int)(n:Nat):Bool:=decide (0<=i)&&decide (i<=(n:Int))
def ap5 (i:Int):Nat->Rd Nat
 |0=>.ret 0
 |n+1=>.test (i==((n+1:Nat):Int)) λ|true=>.ret (n+1)|false=>ap5 i n
def sel (P:Program)(o:cG)(i:Int)(n:Nat)(e:TypeId)(z:Nat):Rd cG:=
 match aTp P n e with
 |true=>.ret (o.idx i.toNat z n)
 |false=>match wr n 8 with
  |true=>(ap5 i (n-1)).bind λj=>.ret (o.add (j*z))
  |false=>.ret (o.idx i.toNat z n)
def aNe (P:Program)(o:cG)(i:Int)(len:Sz)(e:TypeId)(z:Nat):Rd cG:=
 match len with
 |.l n=>match !aTp P n e&&wr n 8 with
  |true=>(ap5 i (n-1)).bind λj=>.ret (o.add (j*z))
  |false=>.ret (o.aM8 i.toNat z)
 |.s _=>.ret (o.aM8 i.toNat z)
def aEy (l:List FV):aj:=l.map λv=>.c (.f v)
def aEz (P:Program)(t:TypeId)(l:List FV):Rd RV:=
 (eE (adS P t)).bind λa=>(eE (iR P t)).bind λn=>
  match a with
  |true=>(cM (z9 n l.length)).bind λ_=>ap4 P t (.agg (aEy l))
  |false=>match l with
   |v::_=>ap4 P t (.c (.f v))
   | []=>.fail
def axM (P:Program)(t:TypeId)(x:CV)(i:Nat):Rd CV:=
 match x with
 |.fp l=>(eE (af1 P t i)).bind λf=>(eE (iR P f.type)).bind λn=>
  (cM (wr 1 n&&wr (f.offset+n) l.length)).bind λ_=>.ret (.fp ((l.drop f.offset).take n))
 |.ptr b o m=>(eE (af1 P t i)).bind λf=>(eE (iR P f.type)).bind λn=>
  (cM (wr 1 n&&wr (f.offset+n) m)).bind λ_=>.ret (.ptr b (o.add f.offset) n)
 |_=>.fail
def EU (b:ByteArray)(n:Nat):Int:=match b[n]? with
 |some x=>Int.ofNat x.toNat
 |none=>0
def axN (P:Program)(t:TypeId)(x:CV)(i:Int):Rd CV:=
 match P.underlying t,x with
 |some (.array n e),.ptr b o m=>(eE (iR P e)).bind λz=>(cM (wr (n*z) m)).bind λ_=>
  (cM (aZ i n)).bind λ_=>(sel P o i n e z).bind λo=>.ret (.ptr b o z)
 |some (.slice e),.sl b o len z' _=>(eE (iR P e)).bind λz=>(cM (z9 z z')).bind λ_=>
  (cM (aZ i len.val)).bind λ_=>(aNe P o i len e z).bind λo=>.ret (.ptr b o z)
 |some (.slice e),.fs n z' cols=>(eE (iR P e)).bind λz=>(cM (z9 z z')).bind λ_=>
  (cM (aZ i n)).bind λ_=>.ret (.fp (cols.map λq=>q.at i.toNat))
 |some (.array n e),.fp l=>(eE (iR P e)).bind λz=>(cM (wr (n*z) l.length&&wr n 8)).bind λ_=>
  (cM (aZ i n)).bind λ_=>(ap5 i (n-1)).bind λj=>.ret (.fp ((l.drop (j*z)).take z))
 |_,_=>.fail
def azH (x:Option Operand):Rd (Option Int):=
 match x with
 |none=>.ret none
 |some x=>(KX x).bind λi=>.ret (some i.2)
def Uv (lo hi:Option Int)(n:Nat):Rd (Nat×Nat):=
 (match hi with
  |none=>Rd.ret n
  |some h=>(cM (HA h n)).bind λ_=>.ret h.toNat).bind λh=>
 (match lo with
  |none=>Rd.ret 0
  |some l=>(cM (HA l h)).bind λ_=>.ret l.toNat).bind λl=>.ret (l,h)
def szQ (q:Bool)(n:Nat):Sz:=
 match q with
 |true=>.l n
 |false=>.s n
def vV (x:Option Operand):Bool:=
 match x with
 |none=>true
 |some (.const _)=>true
 |_=>false
def ap6 (q:Bool)(n:Sz):Bool:=
 match n with
 |.l _=>q
 |.s _=>false
def lenOf (q:Bool)(lo hi:Option Int)(n:Sz)(lh:Nat×Nat):Sz:=
 match lo,hi with
 |none,none=>n
 |none,some _=>szQ q lh.2
 |some _,_=>szQ q (lh.2-lh.1)
def af3 (q:Bool)(lo:Option Int)(o:cG)(l z:Nat):cG:=
 match lo with
 |none=>o
 |some _=>match q with
  |true=>o.add (l*z)
  |false=>o.aM8 l z
def auv (lo:Option Int)(l:Nat)(cols:List cR):List cR:=
 match lo with
 |none=>cols
 |some _=>cols.map (cR.shift l)
def aKK (P:Program)(t:TypeId)(x:CV)(q:Bool)(lo hi:Option Int):Rd CV:=
 match P.underlying t,x with
 |some (.array n e),.ptr b o m=>(eE (iR P e)).bind λz=>(cM (wr (n*z) m)).bind λ_=>
  (Uv lo hi n).bind λlh=>.ret (.sl b (af3 q lo o lh.1 z) (lenOf q lo hi (.l n) lh) z false)
 |some (.slice e),.sl b o len z own=>(eE (iR P e)).bind λz'=>(cM (z9 z z')).bind λ_=>
  (Uv lo hi len.val).bind λlh=>.ret (.sl b (af3 (ap6 q len) lo o lh.1 z) (lenOf (ap6 q len) lo hi len lh) z (own&&hi.isNone))
 |some (.slice e),.nils=>(eE (iR P e)).bind λ_=>(Uv lo hi 0).bind λ_=>.ret .nils
 |some (.slice e),.fs n z cols=>(eE (iR P e)).bind λz'=>(cM (z9 z z')).bind λ_=>
  (Uv lo hi n).bind λlh=>.ret (.fs (lenOf false lo hi (.s n) lh).val z (auv lo lh.1 cols))
 |_,_=>.fail
def placesOf (P:Program)(t:TypeId):Option (Nat->Option (Nat×Nat)):=
 match P.underlying t with
 |some (.struct fs)=>(fs.toList.mapM λf=>(P.info? f.type).map λi=>(f.offset,i.size)).map λl i=>l[i]?
 |some (.array _ e)=>(iR P e).map λn i=>some (i*n,n)
 |_=>none
def akW (pl:Nat->Option (Nat×Nat)):aj->List (Nat×RV)->Option aj
 |cs,[]=>some cs
 |cs,(i,v)::rest=>match pl i with
  |none=>none
  |some (o,n)=>match z9 (aj.size v.bX) n&&wr (o+n) (aj.size cs) with
   |true=>match akT cs o v.bX with
    |some SW=>akW pl SW rest
    |none=>none
   |false=>none
def rep:Nat->aj->aj
 |0,_=>[]
 |n+1,l=>l++rep n l
inductive Ch where
 |mW
 |set (b:aj)
 |kill
structure pP where
 val:AV
 yY:List Ch
 news:List aj
inductive T:Type 1 where
 |leaf (r:pP)
 |fail
 |test (x:Bool) (a b:T)
 |opt {D:Type} (x:Option D) (k:D->T)
def T.eval:T->Option pP
 |.leaf r=>some r
 |.fail=>none
 |.test x a b=>match x with
  |true=>a.eval
  |false=>b.eval
 |.opt x k=>match x with
  |some d=>(k d).eval
  |none=>none
def T.rd:T->Rd pP
 |.leaf r=>.ret r
 |.fail=>.fail
 |.test x a b=>.test x λ|true=>a.rd|false=>b.rd
 |.opt x k=>.opt x λd=>(k d).rd
abbrev FE:=List AV->List aj->T
abbrev Env:=Nat->Option FE
structure Vw where
 b:Nat
 o:cG
 cH:Sz
 z:Nat
 sl:Bool
 own:Bool
def Vw.n (v:Vw):Nat:=v.cH.val*v.z
def abR (b:Nat)(e:Option (Nat×Nat)):List Vw->Nat->Option (Nat×Nat×Bool)
 | [],_=>none
 |v::vs,i=>match z9 v.b b with
  |false=>abR b e vs (i+1)
  |true=>match e,ext v.o v.cH v.z with
   |some (o,n),some (o',n')=>match wr o' o&&wr (o+n) (o'+n') with
    |true=>some (i,o-o',v.own)
    |false=>abR b e vs (i+1)
   |_,_=>abR b e vs (i+1)
def auw (b:Nat)(e:Option (Nat×Nat))(vs:List Vw):Bool:=
 vs.all λv=> !Nat.beq v.b b||match e,ext v.o v.cH v.z with
  |some (o,n),some (o',n')=>wr (o+n) o'||wr (o'+n') o
  |_,_=>false
def aTt (c:CV)(vs:List Vw):Rd (CV×List Vw):=
 match c with
 |.ptr b o n=>match abR b (ext o (.l 1) n) vs 0 with
  |some (i,d,_)=>.ret (.ptr i (.k d) n,vs)
  |none=>(cM (auw b (ext o (.l 1) n) vs)).bind λ_=>.ret (.ptr vs.length (.k 0) n,vs++[⟨b,o,.l 1,n,false,false⟩])
 |.cl f b o n=>match abR b (ext o (.l 1) n) vs 0 with
  |some (i,d,_)=>.ret (.cl f i (.k d) n,vs)
  |none=>(cM (auw b (ext o (.l 1) n) vs)).bind λ_=>.ret (.cl f vs.length (.k 0) n,vs++[⟨b,o,.l 1,n,false,false⟩])
 |.sl b o len z own=>match abR b (ext o len z) vs 0 with
  |some (i,d,ow)=>.ret (.sl i (.k d) (.s len.val) z (own&&ow),vs)
  |none=>(cM (auw b (ext o len z) vs)).bind λ_=>
   .ret (.sl vs.length (.k 0) (.s len.val) z (own&&vs.all λv=> !Nat.beq v.b b|| !v.own),vs++[⟨b,o,len,z,true,own&&vs.all λv=> !Nat.beq v.b b|| !v.own⟩])
 |c=>.ret (c,vs)
def aNf:aj->List Vw->Rd (aj×List Vw)
 | [],vs=>.ret ([],vs)
 |.c c::cs,vs=>(aTt c vs).bind λx=>(aNf cs x.2).bind λy=>.ret (.c x.1::y.1,y.2)
 |.a n cols::cs,vs=>(aNf cs vs).bind λy=>.ret (.a n cols::y.1,y.2)
def aTu (r:RV)(vs:List Vw):Rd (RV×List Vw):=
 match r with
 |.c c=>(aTt c vs).bind λx=>.ret (.c x.1,x.2)
 |.agg cs=>(aNf cs vs).bind λx=>.ret (.agg x.1,x.2)
def aEA:List RV->List Vw->Rd (List RV×List Vw)
 | [],vs=>.ret ([],vs)
 |c::cs,vs=>(aTu c vs).bind λx=>(aEA cs x.2).bind λy=>.ret (x.1::y.1,y.2)
def aY1 (a:AV)(vs:List Vw):Rd (AV×List Vw):=
 match a with
 |.r r=>(aTu r vs).bind λx=>.ret (.r x.1,x.2)
 |.tup rs=>(aEA rs vs).bind λx=>.ret (.tup x.1,x.2)
 |.fn f rs=>(aEA rs vs).bind λx=>.ret (.fn f x.1,x.2)
 |.We=>.ret (.We,vs)
def aKL:List AV->List Vw->Rd (List AV×List Vw)
 | [],vs=>.ret ([],vs)
 |c::cs,vs=>(aY1 c vs).bind λx=>(aKL cs x.2).bind λy=>.ret (x.1::y.1,y.2)
def toS (b:aj):aj:=
 match b with
 | [.a n cols]=>[.a (.s n.val) cols]
 |b=>b
def aRl (sl:Bool)(z:Nat)(b:aj):aj:=
 match sl with
 |true=>toS (asN z b)
 |false=>b
def aTv:Nat->Nat->List Vw->List aj->Rd (List aj×List Vw)
 |0,_,_,_=>.fail
 |fuel+1,i,vs,acc=>match vs[i]? with
  |none=>.ret (acc,vs)
  |some v=>.vw v.b v.o v.cH v.z λcs=>
   (aNf (aRl v.sl v.z cs) vs).bind λx=>aTv fuel (i+1) x.2 (acc++[x.1])
def LL (vs:List Vw)(aL:Nat):CV->CV
 |.ptr j d n=>match vs[j]? with
  |some v=>.ptr v.b (v.o.plus d) n
  |none=>.ptr (aL+(j-vs.length)) d n
 |.cl f j d n=>match vs[j]? with
  |some v=>.cl f v.b (v.o.plus d) n
  |none=>.cl f (aL+(j-vs.length)) d n
 |.sl j d len z own=>match vs[j]? with
  |some v=>.sl v.b (v.o.plus d) len z (own&&v.own)
  |none=>.sl (aL+(j-vs.length)) d len z own
 |c=>c
def KY (f:CV->CV):aj->aj
 | []=>[]
 |.c v::r=>.c (f v)::KY f r
 |.a n cols::r=>.a n cols::KY f r
def aTw (vs:List Vw)(aL:Nat):RV->RV
 |.c c=>.c (LL vs aL c)
 |.agg cs=>.agg (KY (LL vs aL) cs)
def aNg (vs:List Vw)(aL:Nat):AV->AV
 |.r r=>.r (aTw vs aL r)
 |.tup rs=>.tup (rs.map (aTw vs aL))
 |.fn f rs=>.fn f (rs.map (aTw vs aL))
 |.We=>.We
def HX (vs:List Vw)(aL:Nat):List aj->Nat->List Up
 | [],_=>[]
 |b::bs,j=>.new (aL+j) (KY (LL vs aL) b)::HX vs aL bs (j+1)
def Bl (all:List Vw)(aL:Nat):List Vw->List Ch->Option (Bool×List Up)
 | [],[]=>some (true,[])
 |_::vs,.mW::cs=>Bl all aL vs cs
 |v::vs,.set b::cs=>match Bl all aL vs cs with
  |some p=>some (p.1&&z9 (aj.size b) v.n,.c v.b v.o (KY (LL all aL) b)::p.2)
  |none=>none
 |_::vs,.kill::cs=>Bl all aL vs cs
 |_,_=>none
def pT:List Vw->List Ch->List Up
 |v::vs,.kill::cs=>.kill v.b::pT vs cs
 |_::vs,_::cs=>pT vs cs
 |_,_=>[]
def dW (dst:Option Tmp)(v:AV):List Up:=
 match dst with
 |some d=>[.t d v]
 |none=>[]
def aY2 (E:Env)(f:Nat)(args:List AV)(dst:Option Tmp)(aL:Nat):Rd (List Up):=
 (aKL args []).bind λx=>(aTv 1000 0 x.2 []).bind λy=>
  match E f with
  |none=>.fail
  |some F=>(F x.1 y.1).rd.bind λr=>
   (eE (Bl y.2 aL y.2 r.yY)).bind λus=>(cM us.1).bind λ_=>
    .ret (dW dst (aNg y.2 aL r.val)++(us.2++(pT y.2 r.yY++HX y.2 aL r.news 0)))
def aTx:CV->Rd Nat
 |.sl _ _ n _ _=>.ret n.val
 |.nils=>.ret 0
 |.fs n _ _=>.ret n
 |.f (.s x)=>.ret x.size
 |_=>.fail
def slB (z:Nat):CV->Rd (Sz×aj)
 |.sl b o n z' _=>(cM (z9 z z')).bind λ_=>.vw b o n z λk=>.ret (n,k)
 |.nils=>.ret (.l 0,[])
 |.fs n z' cols=>(cM (z9 z z')).bind λ_=>.ret (.s n,[.a (.s n) cols])
 |_=>.fail
def aEB (P:Program)(t:TypeId)(s x:CV)(dst:Option Tmp)(aL:Nat):Rd (List Up):=
 match P.underlying t with
 |some (.slice e)=>(eE (iR P e)).bind λz=>(eE ((P.info? e).map (·.bytes))).bind λby_=>(eE (Bk P e)).bind λzv=>
  (cM (wr 1 z&&(wr 1 by_&&z9 (aj.size zv.bX) z))).bind λ_=>
  (slB z x).bind λxb=>
  match s with
  |.nils=>(cM (wr (xb.1.val*by_) 140737488355328)).bind λ_=>
   .ret (dW dst (.r (.c (.sl aL (.k 0) xb.1 z true)))++[.new aL xb.2])
  |.sl b o n z' true=>(cM (z9 z z')).bind λ_=>(cM (wr ((n.val+xb.1.val)*by_) 140737488355328)).bind λ_=>
   .sz b<|
   .vw b o n z λsb=>(eE (sb.app xb.2)).bind λnb=>
    (cM (match x with|.sl b' _ _ _ _=> !Nat.beq b b'|_=>true)).bind λ_=>
    .ret (dW dst (.r (.c (.sl aL (.k 0) (n.add xb.1) z true)))++[.kill b,.new aL nb])
  |_=>.fail
 |_=>.fail
def aIL (v:Nat):Nat->Rd Nat
 |0=>.ret 0
 |k+1=>.test (wr (k+1) v) λ|true=>.ret (k+1)|false=>aIL v k
def aNh (n n':Sz):Rd (Bool×Sz):=
 match n,n' with
 |.l k,.s v=>match wr k 8 with
  |true=>(aIL v k).bind λj=>.ret (true,.l j)
  |false=>.ret (false,Sz.least (.s v) (.l k))
 |n,n'=>.ret (false,Sz.least n' n)
def copyV (P:Program)(t:TypeId)(d x:CV)(dst:Option Tmp):Rd (List Up):=
 match P.underlying t with
 |some (.slice e)=>(eE (iR P e)).bind λz=>
  match d,x with
  |.sl b o n z1 _,.sl b' o' n' z2 _=>(cM (z9 z z1&&z9 z z2)).bind λ_=>
   (cM (!Nat.beq b b')).bind λ_=>(aNh n n').bind λm=>
   .vw b' o' m.2 z λl=>.sz b<|
    .ret (dW dst (.r (.c (.f (.i .i64 (m.2.val:Int)))))++[.c b o (cond m.1 (uj l) l)])
  |_,_=>.fail
 |_=>.fail
def aY3:FV->FV->Rd FV
 |.i k x,.i k' y=>if k=k' then .ret (.i k (if y<x then y else x)) else .fail
 |_,_=>.fail
def aY4:FV->FV->Rd FV
 |.i k x,.i k' y=>if k=k' then .ret (.i k (if y>x then y else x)) else .fail
 |_,_=>.fail
def auy {α β:Type}(f:β->α->Rd β):β->List α->Rd β
 |b,[]=>.ret b
 |b,a::l=>(f b a).bind λb'=>auy f b' l
def asF:AV->Rd FV
 |.r (.c (.f v))=>.ret v
 |_=>.fail
def biV (P:Program)(bi:Builtin)(ts:Array TypeId)(args:List AV)(dst:Option Tmp)(aL:Nat):Rd (List Up):=
 match bi,args with
 |.len,[x]=>(eE ((ts[0]?).bind P.underlying)).bind λ
  |.array n _=>.ret (dW dst (.r (.c (.f (.i .i64 (n:Int))))))
  |.slice _=>(asC x).bind λc=>(match c with|.f _=>Rd.fail|c=>aTx c).bind λn=>.ret (dW dst (.r (.c (.f (.i .i64 (n:Int))))))
  |.string=>(asC x).bind λc=>(match c with|.f (.s x)=>Rd.ret x.size|_=>Rd.fail).bind λn=>.ret (dW dst (.r (.c (.f (.i .i64 (n:Int))))))
  |_=>.fail
 |.append,[s,x]=>(eE (ts[0]?)).bind λt=>(cM (match ts.toList with| [t1,t2]=>z9 t1 t2|_=>false)).bind λ_=>
  (asC s).bind λs=>(asC x).bind λx=>aEB P t s x dst aL
 |.copy,[d,x]=>(eE (ts[0]?)).bind λt=>(asC d).bind λd=>(asC x).bind λx=>copyV P t d x dst
 |.min,x::l=>(asF x).bind λx=>(uk asF l).bind λl=>(auy aY3 x l).bind λv=>.ret (dW dst (.r (.c (.f v))))
 |.max,x::l=>(asF x).bind λx=>(uk asF l).bind λl=>(auy aY4 x l).bind λv=>.ret (dW dst (.r (.c (.f v))))
 |_,_=>.fail
def a3h:AV->Rd (Nat×List RV)
 |.fn f adR=>.ret (f,adR)
 |.r (.c (.cl f b o n))=>.ret (f,[.c (.ptr b o n)])
 |_=>.fail
def aoP (P:Program)(e:TypeId)(n z:Nat)(b:aj):aj:=
 match !aTp P n e&&wr n 8 with
 |true=>b
 |false=>asN z b
inductive CK where
 |i (k:IntKind)
 |b
 |s
def CK.oc:CK->cR
 |.i k=>.i k λ_=>0
 |.b=>.b λ_=>false
 |.s=>.s λ_=>.empty
def ckT (P:Program):Nat->TypeId->Option (List CK)
 |0,_=>none
 |d+1,t=>match P.underlying t with
  |some .bool=>some [.b]
  |some (.int k)=>some [.i k]
  |some .string=>some [.s]
  |some (.struct fs)=>fs.toList.foldr (λf l=>match ckT P d f.type,l with
   |some a,some b=>some (a++b)
   |_,_=>none) (some [])
  |some (.array n e)=>(ckT P d e).map (aTq n)
  |_=>none
def aKM (P:Program):Nat->TypeId->List (Option (Nat×List CK))
 |0,_=>[]
 |d+1,t=>match P.underlying t with
  |some (.struct fs)=>(fs.toList.map λf=>aKM P d f.type).flatten
  |some (.array n e)=>aTq n (aKM P d e)
  |some (.slice e)=>[match iR P e,ckT P 30 e with
   |some z,some ks=>some (z,ks)
   |_,_=>none]
  |_=>[none]
def SX:List (Option (Nat×List CK))->aj->Nat->aj×List aj
 |_,[],_=>([],[])
 |ks,.a n cols::r,b=>let x:=SX (ks.drop (n.val*cols.length)) r b;(.a n cols::x.1,x.2)
 |ks,.c v::r,b=>match v,ks with
  |.nils,some (z,k)::ks=>let x:=SX ks r (b+1);(.c (.sl b (.k 0) (.s 0) z true)::x.1,[.a (.s 0) (k.map CK.oc)]::x.2)
  |v,ks=>let x:=SX (ks.drop 1) r b;(.c v::x.1,x.2)
def aTy:aj->Bool
 | []=>false
 |.c .nils::_=>true
 |_::r=>aTy r
def iZ (P:Program)(t:TypeId)(b:aj)(aL:Nat):aj×List aj:=
 match aTy b with
 |true=>SX (aKM P 30 t) b aL
 |false=>(b,[])
def CD:List aj->Nat->List Up
 | [],_=>[]
 |b::bs,n=>.new n b::CD bs (n+1)
def auz (dst:Option Tmp)(aL n:Nat)(cs:aj):List Up:=dW dst (.r (.c (.ptr aL (.k 0) n)))++[.new aL cs]
def aop (P:Program)(E:Env)(o:Oper)(aL:Nat):Rd (List Up):=
 let val (m:Rd RV):Rd (List Up):=m.bind λv=>.ret (dW o.dst (.r v))
 let cel (m:Rd CV):Rd (List Up):=m.bind λv=>.ret (dW o.dst (.r (.c v)))
 match o.op with
 |.move x|.assign x=>(EA x).bind λv=>.ret (dW o.dst v)
 |.pick c a b=>(aIJ c).bind λx=>.test x λ
  |true=>(EA a).bind λv=>.ret (dW o.dst v)
  |false=>(EA b).bind λv=>.ret (dW o.dst v)
 |.alloc e=>(eE (Bk P e)).bind λz=>.ret (CD (iZ P e z.bX aL).2 aL++auz o.dst (aL+(iZ P e z.bX aL).2.length) (aj.size (iZ P e z.bX aL).1) (iZ P e z.bX aL).1)
 |.box t x=>(wT x).bind λv=>.ret (CD (iZ P t v.bX aL).2 aL++auz o.dst (aL+(iZ P t v.bX aL).2.length) (aj.size (iZ P t v.bX aL).1) (iZ P t v.bX aL).1)
 |.makeSlice t n c=>match P.underlying t with
  |some (.slice e)=>(eE (Bk P e)).bind λz=>(eE (iR P e)).bind λq=>(KX n).bind λn=>(KX c).bind λc=>
   (cM (decide (n.2=0)&&decide (c.2=0))).bind λ_=>(eE (ET q z.bX)).bind λcols=>
   .ret (dW o.dst (.r (.c (.sl aL (.k 0) (.s 0) q true)))++[.new aL [.a (.s 0) cols]])
  |_=>.fail
 |.build t ps=>(eE (Bk P t)).bind λz=>(uk (λp=>(wT p.2).bind λv=>.ret (p.1,v)) ps.toList).bind λl=>
  (eE (placesOf P t)).bind λpl=>(eE (akW pl z.bX l)).bind λcs=>.ret (dW o.dst (.r (.agg cs)))
 |.buildSlice t n ps=>match P.underlying t with
  |some (.slice e)=>(eE (Bk P e)).bind λz=>(eE (iR P e)).bind λq=>
   (cM (wr 1 q&&wr (n*q) 16777216)).bind λ_=>
   (uk (λp=>(wT p.2).bind λv=>.ret (p.1,v)) ps.toList).bind λl=>
   (cM (z9 (aj.size z.bX) q)).bind λ_=>(eE (akW (λi=>some (i*q,q)) (rep n z.bX) l)).bind λcs=>.ret (dW o.dst (.r (.c (.sl aL (.k 0) (.l n) q true)))++[.new aL (aoP P e n q cs)])
  |_=>.fail
 |.load t a=>(Hy a).bind λ
  |.ptr b q n=>val (valueOf P t b q n)
  |.fp l=>val (aEz P t l)
  |_=>.fail
 |.store t a x=>(aNc a).bind λp=>(aNb x).bind λv=>(eE (iR P t)).bind λn=>
  (cM (z9 (aj.size v.bX) n&&wr n p.2.2)).bind λ_=>.sz p.1<|
  .ret (CD (iZ P t v.bX aL).2 aL++(dW o.dst udf++[.c p.1 p.2.1 (iZ P t v.bX aL).1]))
 |.nilCheck x=>(Hy x).bind λ
  |.ptr b q n=>.ret (dW o.dst (.r (.c (.ptr b q n))))
  |.fp l=>.ret (dW o.dst (.r (.c (.fp l))))
  |_=>.fail
 |.binOp op t x y _=>(wT x).bind λa=>(wT y).bind λb=>val (aY0 P op t a b)
 |.unOp op _ x=>(wT x).bind λa=>val (unV op a)
 |.convert s d x=>(wT x).bind λa=>val (aRk P s d a)
 |.sliceToArrayPointer t x=>(Hy x).bind λc=>match P.underlying t,c with
  |some (.array n _),.sl b q len z _=>(cM (wr 1 n&&wr n len.val)).bind λ_=>cel (.ret (.ptr b q (n*z)))
  |_,_=>.fail
 |.makeFunc (.func f) fs adR=>match fs.toList with
  | []=>(uk wT adR.toList).bind λl=>.ret (dW o.dst (.fn f l))
  |_=>.fail
 |.slice t x lo hi none=>(Hy x).bind λc=>(azH lo).bind λl=>(azH hi).bind λh=>cel (aKK P t c (vV lo&&vV hi) l h)
 |.fieldAddr t x i=>(Hy x).bind λc=>cel (axM P t c i)
 |.field t x i=>(wT x).bind λ
  |.agg cs=>(eE (af1 P t i)).bind λf=>val (Oq P f.type cs f.offset)
  |_=>.fail
 |.indexAddr t x i=>(Hy x).bind λc=>(KX i).bind λi=>cel (axN P t c i.2)
 |.index t x i=>(wT x).bind λv=>(KX i).bind λi=>match P.underlying t,v with
  |some (.array n e),.agg cs=>(eE (iR P e)).bind λz=>(cM (wr 1 z&&wr (n*z) (aj.size cs))).bind λ_=>(cM (aZ i.2 n)).bind λ_=>(sel P (.k 0) i.2 n e z).bind λo=>val (partOf P e cs o)
  |some .string,.c (.f (.s b))=>(cM (aZ i.2 b.size)).bind λ_=>val (.ret (.c (.f (.i .u8 (EU b i.2.toNat)))))
  |_,_=>.fail
 |.extract x i=>(EA x).bind λ
  |.tup vs=>(eE (vs[i]?)).bind λv=>.ret (dW o.dst (.r v))
  |_=>.fail
 |.call c=>(uk EA c.args.toList).bind λargs=>match c.callee with
  |.builtin b=>biV P b c.argTypes args o.dst aL
  |.value f=>(EA f).bind λf=>(a3h f).bind λfc=>aY2 E fc.1 (args++fc.2.map .r) o.dst aL
  |.invoke _ _=>.fail
 |_=>.fail
def mark (k:Nat)(b:Nat)(d:List Nat):List Nat:=
 match wl b k&& !d.any (z9 b) with
 |true=>b::d
 |false=>d
def Up.app (k:Nat)(s:St):Up->St
 |.t i v=>{s with tmps:=s.tmps.set i v}
 |.c b o v=>match s.bX b with
  |some bX=>match bX.A5 o v with
   |some p=>{s with heap:=s.heap.set b (some p.2),dm:=mark k b s.dm}
   |none=>s
  |none=>s
 |.new _ bX=>{s with heap:=s.heap++[some bX]}
 |.kill b=>{s with heap:=s.heap.set b none,dm:=mark k b s.dm}
def Up.ok (s:St):Up->Bool
 |.t i _=>wl i s.tmps.length
 |.c b o v=>match s.bX b with
  |some bX=>match bX.A5 o v with
   |some p=>p.1&&wr (o.val+aj.size v) (aj.size bX)
   |none=>false
  |none=>false
 |.new b _=>z9 b s.heap.length
 |.kill b=>wl b s.heap.length
def j9 (k:Nat):List Up->St->Option St
 | [],s=>some s
 |u::us,s=>match u.ok s with
  |true=>j9 k us (u.app k s)
  |false=>none
def aRm (acc:List Nat)(m:Nat)(e:Edge):Nat:=match Region.binds .any e with
 |true=>(m|||2^e.on)|||acc.getD e.on 0
 |false=>m
def mask (acc:List Nat)(o:Oper):Nat:=o.after.toList.foldl (aRm acc) 0
def LM:List Oper->List Nat->List Nat
 | [],acc=>acc
 |o::l,acc=>LM l (acc++[mask acc o])
def ovl (lo n lo' n':Nat):Bool:=wl lo (lo'+n')&&wl lo' (lo+n)
def meet:Option (Nat×Nat)->Option (Nat×Nat)->Bool
 |some (lo,n),some (lo',n')=>ovl lo n lo' n'
 |_,_=>true
def Fp.azI:Fp->Up->Bool
 |.t i,.t j _=>z9 i j
 |.c b r,.c b' o v=>z9 b b'&&meet r (aNa o v)
 |.c b _,.new b' _|.c b _,.kill b'|.z b,.new b' _|.z b,.kill b'=>z9 b b'
 |_,_=>false
def Up.azI:Up->Up->Bool
 |.t i _,.t j _=>z9 i j
 |.c b o v,.c b' o' v'=>z9 b b'&&meet (aNa o v) (aNa o' v')
 |.c b _ _,.new b' _|.c b _ _,.kill b'|.new b _,.c b' _ _|.kill b,.c b' _ _|.new b _,.new b' _|.new b _,.kill b'|.kill b,.new b' _|.kill b,.kill b'=>z9 b b'
 |_,_=>false
structure Tr where
 fp:List Fp
 us:List Up
def Tr.af4 (x y:Tr):Bool:=
 x.us.any (λu=>y.fp.any (·.azI u)||y.us.any (·.azI u))||y.us.any (λu=>x.fp.any (·.azI u))
def Ra (ms:List Nat):List Tr->Nat->Bool
 | [],_=>true
 |x::rest,j=>(rest.zipIdx.all λp=>Nat.testBit (ms.getD (j+1+p.2) 0) j|| !x.af4 p.1)&&Ra ms rest (j+1)
def Rb:List Oper->Nat->Bool
 | [],_=>true
 |o::l,i=>(o.after.toList.all λe=> !Region.binds .any e||wl e.on i)&&Rb l (i+1)
def aY5 (o:Oper)(nt:Nat):Bool:=
 match o.dst with
 |none=>true
 |some d=>wl d nt
def Ot (ops:List Oper)(j:Nat):Option Tmp:=(ops[j]?).bind (·.dst)
def af5 {α ρ:Type}(l:List α):(List α->ρ)->ρ:=
 List.rec (motive:=λ_=>(List α->ρ)->ρ) (λk=>k []) (λa _ ih k=>ih λl=>k (a::l)) l
def auA {ρ:Type}(o:cG)(k:cG->ρ):ρ:=
 match o with
 |.k c=>k (.k c)
 |.x c i z=>k (.x c i z)
def aKN {ρ:Type}(n:Sz)(k:Sz->ρ):ρ:=
 match n with
 |.l n=>k (.l n)
 |.s n=>k (.s n)
def aDw {ρ:Type}(v:FV)(k:FV->ρ):ρ:=
 match v with
 |.u=>k .u
 |.b x=>k (.b x)
 |.i d n=>k (.i d n)
 |.s x=>k (.s x)
 |.q n g=>k (.q n g)
def axO {ρ:Type}(c:cR)(k:cR->ρ):ρ:=
 match c with
 |.i d g=>k (.i d g)
 |.b g=>k (.b g)
 |.s g=>k (.s g)
 |.u=>k .u
 |.q n g=>k (.q n g)
def Wi {ρ:Type}(l:List cR):(List cR->ρ)->ρ:=
 List.rec (motive:=λ_=>(List cR->ρ)->ρ) (λk=>k []) (λa _ ih k=>axO a λa=>ih λl=>k (a::l)) l
def auB {ρ:Type}(l:List FV):(List FV->ρ)->ρ:=
 List.rec (motive:=λ_=>(List FV->ρ)->ρ) (λk=>k []) (λa _ ih k=>aDw a λa=>ih λl=>k (a::l)) l
def aDx {ρ:Type}(c:CV)(k:CV->ρ):ρ:=
 match c with
 |.f v=>aDw v λv=>k (.f v)
 |.ptr b o n=>auA o λo=>k (.ptr b o n)
 |.cl f b o n=>auA o λo=>k (.cl f b o n)
 |.aiq=>k .aiq
 |.sl b o l z w=>auA o λo=>aKN l λl=>k (.sl b o l z w)
 |.nils=>k .nils
 |.aTk=>k .aTk
 |.aTl=>k .aTl
 |.fs n z cols=>Wi cols λcols=>k (.fs n z cols)
 |.fp l=>auB l λl=>k (.fp l)
def auC {ρ:Type}(s:Sg)(k:Sg->ρ):ρ:=
 match s with
 |.c v=>aDx v λv=>k (.c v)
 |.a n cols=>aKN n λn=>Wi cols λcols=>k (.a n cols)
def ZP {ρ:Type}(l:aj):(aj->ρ)->ρ:=
 List.rec (motive:=λ_=>(aj->ρ)->ρ) (λk=>k []) (λa _ ih k=>auC a λa=>ih λl=>k (a::l)) l
def auD {ρ:Type}(r:RV)(k:RV->ρ):ρ:=
 match r with
 |.c c=>aDx c λc=>k (.c c)
 |.agg b=>ZP b λb=>k (.agg b)
def akX {ρ:Type}(l:List RV):(List RV->ρ)->ρ:=
 List.rec (motive:=λ_=>(List RV->ρ)->ρ) (λk=>k []) (λa _ ih k=>auD a λa=>ih λl=>k (a::l)) l
def auE {ρ:Type}(v:AV)(k:AV->ρ):ρ:=
 match v with
 |.r r=>auD r λr=>k (.r r)
 |.tup rs=>akX rs λrs=>k (.tup rs)
 |.fn f rs=>akX rs λrs=>k (.fn f rs)
 |.We=>k .We
def aDy {ρ:Type}(u:Up)(k:Up->ρ):ρ:=
 match u with
 |.t i v=>auE v λv=>k (.t i v)
 |.c b o vs=>auA o λo=>ZP vs λvs=>k (.c b o vs)
 |.new b bX=>ZP bX λbX=>k (.new b bX)
 |.kill b=>k (.kill b)
def auF {ρ:Type}(l:List Up):(List Up->ρ)->ρ:=
 List.rec (motive:=λ_=>(List Up->ρ)->ρ) (λk=>k []) (λa _ ih k=>aDy a λa=>ih λl=>k (a::l)) l
def auG {ρ:Type}(l:List AV):(List AV->ρ)->ρ:=
 List.rec (motive:=λ_=>(List AV->ρ)->ρ) (λk=>k []) (λa _ ih k=>auE a λa=>ih λl=>k (a::l)) l
def auH {ρ:Type}(u:Option aj)(k:Option aj->ρ):ρ:=
 match u with
 |some b=>ZP b λb=>k (some b)
 |none=>k none
def auI {ρ:Type}(l:List (Option aj)):(List (Option aj)->ρ)->ρ:=
 List.rec (motive:=λ_=>(List (Option aj)->ρ)->ρ) (λk=>k []) (λa _ ih k=>auH a λa=>ih λl=>k (a::l)) l
def yG {ρ:Type}(s:St)(k:St->ρ):ρ:=
 match s with
 | ⟨t,h,d⟩=>auG t λt=>auI h λh=>af5 d λd=>k ⟨t,h,d⟩
def Up.adU {ρ:Type}(k:Nat)(u:Up)(s:St)(c:St->Option ρ):Option ρ:=
 match u with
 |.t i v=>azG s.tmps i v λt=>c {s with tmps:=t}
 |.c b o v=>match s.bX b with
  |some bX=>match bX.A5 o v with
   |some p=>match p.1&&wr (o.val+aj.size v) (aj.size bX) with
    |true=>ZP p.2 λbX=>azG s.heap b (some bX) λh=>af5 (mark k b s.dm) λd=>c {s with heap:=h,dm:=d}
    |false=>none
   |none=>none
  |none=>none
 |.new b bX=>match z9 b s.heap.length with
  |true=>af5 (s.heap++[some bX]) λh=>c {s with heap:=h}
  |false=>none
 |.kill b=>azG s.heap b none λh=>af5 (mark k b s.dm) λd=>c {s with heap:=h,dm:=d}
def adU {ρ:Type}(k:Nat)(us:List Up):St->(St->Option ρ)->Option ρ:=
 List.rec (motive:=λ_=>St->(St->Option ρ)->Option ρ) (λs c=>c s) (λu _ ih s c=>u.adU k s λs=>ih s c) us
def LN (P:Program)(E:Env)(nt k:Nat)(ops:List Oper){ρ:Type}:List Oper->St->List Tr->(St->List Tr->Option ρ)->Option ρ
 | [],s,l,c=>c s l
 |o::rest,s,l,c=>
  let go (s:St) (fp:List Fp):Option ρ:=
   (aop P E o s.heap.length).run s fp λus fp=>auF us λus=>adU k us s λs'=>af5 (l++[⟨fp,us⟩]) λl=>LN P E nt k ops rest s' l c
  let skip (s:St) (fp:List Fp):Option ρ:=adU k (dW o.dst udf) s λs'=>af5 (l++[⟨fp,dW o.dst udf⟩]) λl=>LN P E nt k ops rest s' l c
  match aY5 o nt with
  |false=>none
  |true=>
  match o.guard with
  |none=>go s []
  |some (j,want)=>match Ot ops j with
   |none=>none
   |some t=>match s.tmp t with
    |.r (.c (.f (.b x)))=>match x with
     |true=>azG s.tmps t (.r (.c (.f (.b true)))) λts=>match want with|true=>go {s with tmps:=ts} [.t t]|false=>skip {s with tmps:=ts} [.t t]
     |false=>azG s.tmps t (.r (.c (.f (.b false)))) λts=>match want with|true=>skip {s with tmps:=ts} [.t t]|false=>go {s with tmps:=ts} [.t t]
    |.tup []=>skip s [.t t]
    |_=>none
inductive AX where
 |nrm
 |ex (id:Nat)
 |ret
def idx (b:Nat):List Nat->Nat->Option Nat
 | [],_=>none
 |x::l,i=>match z9 x b with
  |true=>some i
  |false=>idx b l (i+1)
def akY (H b:Nat)(m:List Nat):Nat×List Nat:=
 match wr H b with
 |true=>match idx b m 0 with
  |some i=>(H+i,m)
  |none=>(H+m.length,m++[b])
 |false=>(b,m)
def gcC (H:Nat)(c:CV)(m:List Nat):CV×List Nat:=
 match c with
 |.ptr b o n=>let x:=akY H b m;(.ptr x.1 o n,x.2)
 |.cl f b o n=>let x:=akY H b m;(.cl f x.1 o n,x.2)
 |.sl b o l z w=>let x:=akY H b m;(.sl x.1 o l z w,x.2)
 |c=>(c,m)
def HY {α:Type}(g:α->List Nat->α×List Nat):List α->List Nat->List α×List Nat
 | [],m=>([],m)
 |a::l,m=>let x:=g a m;let y:=HY g l x.2;(x.1::y.1,y.2)
def gcS (H:Nat)(s:Sg)(m:List Nat):Sg×List Nat:=
 match s with
 |.c c=>let x:=gcC H c m;(.c x.1,x.2)
 |s=>(s,m)
def gcR (H:Nat)(r:RV)(m:List Nat):RV×List Nat:=
 match r with
 |.c c=>let x:=gcC H c m;(.c x.1,x.2)
 |.agg cs=>let x:=HY (gcS H) cs m;(.agg x.1,x.2)
def gcA (H:Nat)(a:AV)(m:List Nat):AV×List Nat:=
 match a with
 |.r r=>let x:=gcR H r m;(.r x.1,x.2)
 |.tup rs=>let x:=HY (gcR H) rs m;(.tup x.1,x.2)
 |.fn f rs=>let x:=HY (gcR H) rs m;(.fn f x.1,x.2)
 |.We=>(.We,m)
def gcB (H:Nat)(b:Option aj)(m:List Nat):Option aj×List Nat:=
 match b with
 |some cs=>let x:=HY (gcS H) cs m;(some x.1,x.2)
 |none=>(none,m)
def gcN (H:Nat)(heap:List (Option aj)):Nat->Nat->List Nat->List (Option aj)->Option (List (Option aj)×List Nat)
 |0,_,_,_=>none
 |fuel+1,i,m,acc=>match m[i]? with
  |none=>some (acc,m)
  |some b=>let x:=gcB H ((heap[b]?).getD none) m;gcN H heap fuel (i+1) x.2 (acc++[x.1])
def gcO (k:Nat)(d:List Nat)(H:Nat):List (Option aj)->Nat->List Nat->List (Option aj)×List Nat
 | [],_,m=>([],m)
 |b::l,j,m=>match wl j k&& !d.any (z9 j) with
  |true=>let y:=gcO k d H l (j+1) m;(b::y.1,y.2)
  |false=>let x:=gcB H b m;let y:=gcO k d H l (j+1) x.2;(x.1::y.1,y.2)
def St.gc (k:Nat)(s:St)(H:Nat):Option St:=
 match wr H s.heap.length with
 |false=>none
 |true=>
 let x:=HY (gcA H) s.tmps []
 let y:=gcO k s.dm H (s.heap.take H) 0 x.2
 match gcN H s.heap 1000 0 y.2 [] with
 |some z=>some {s with tmps:=x.1,heap:=y.1++z.1}
 |none=>none
structure Hd where
 id:Nat
 aEC:List Nat
 nils:List (Nat×List CK)
structure Sm where
 id:Nat
 kk:Nat
 run:∀{ρ:Type},St->(AX->St->Option ρ)->Option ρ
structure Jn where
 hd:Hd
 sm:Sm
structure Hs where
 hd:List Hd
 sm:List Sm
 dm:List Nat
 jn:List Jn
 rk:Option Hd
def Rc:Code->Option Nat
 |.region id _ _=>some id
 |.seq a _=>Rc a
 |.block _ a=>Rc a
 |.loop a=>Rc a
 |_=>none
def aIM (c:CV):CV:=
 match c with
 |.sl b o len z own=>match o with
  |.k c=>.sl b (.x c 0 z) len z own
  |o=>.sl b o len z own
 |c=>c
def aED (g:CV->CV)(s:Sg):Sg:=
 match s with
 |.c v=>.c (g v)
 |s=>s
def mapA (g:CV->CV)(a:AV):AV:=
 match a with
 |.r (.c v)=>.r (.c (g v))
 |a=>a
def ais (g:CV->CV)(k:Nat)(d:List Nat):List (Option aj)->Nat->List (Option aj)
 | [],_=>[]
 |b::l,j=>(match wl j k&& !d.any (z9 j) with
  |true=>b
  |false=>b.map λb=>b.map (aED g))::ais g k d l (j+1)
def aNi (b n x:Nat):Nat:=
 match z9 x b with
 |true=>n
 |false=>x
def aNj (b n:Nat)(c:CV):CV:=
 match c with
 |.ptr x o m=>.ptr (aNi b n x) o m
 |.cl f x o m=>.cl f (aNi b n x) o m
 |.sl x o l z w=>.sl (aNi b n x) o l z w
 |c=>c
def aY6 (c:CV):CV:=
 match c with
 |.sl b o len z own=>.sl b o (.s len.val) z own
 |c=>c
def a3i (c:CV):CV:=aY6 (aIM c)
def aIN (s:Sg):Sg:=
 match s with
 |.c v=>.c (a3i v)
 |s=>s
def Re (a:AV):AV:=
 match a with
 |.r (.c v)=>.r (.c (a3i v))
 |a=>a
def slC (c:CV)(l:List (Nat×Nat)):List (Nat×Nat):=
 match c with
 |.sl b _ _ z _=>(b,z)::l
 |_=>l
def a56 (s:Sg)(l:List (Nat×Nat)):List (Nat×Nat):=
 match s with
 |.c v=>slC v l
 |_=>l
def a57 (a:AV)(l:List (Nat×Nat)):List (Nat×Nat):=
 match a with
 |.r (.c v)=>slC v l
 |_=>l
def a58 (b:Option aj)(l:List (Nat×Nat)):List (Nat×Nat):=
 match b with
 |some b=>b.foldr a56 l
 |none=>l
def sls (s:St):List (Nat×Nat):=s.tmps.foldr a57 (s.heap.foldr a58 [])
def aY7 (j:Nat):List (Nat×Nat)->Option Nat
 | []=>none
 |p::l=>match z9 p.1 j with
  |true=>some p.2
  |false=>aY7 j l
def aEE (l:List (Nat×Nat))(j:Nat)(b:aj):aj:=
 match aY7 j l with
 |some z=>toS (asN z (b.map aIN))
 |none=>b.map aIN
def akZ (k:Nat)(d:List Nat)(sl:List (Nat×Nat)):List (Option aj)->Nat->List (Option aj)
 | [],_=>[]
 |b::l,j=>(match wl j k&& !d.any (z9 j) with
  |true=>b
  |false=>b.map λb=>aEE sl j b)::akZ k d sl l (j+1)
def aRn (k b:Nat)(s:St):St:=
 match s.bX b with
 |some bX=>match wl b k with
  |true=>{s with tmps:=s.tmps.map (mapA (aNj b s.heap.length)),heap:=ais (aNj b s.heap.length) k (mark k b s.dm) (s.heap.set b none++[some bX]) 0,dm:=mark k b s.dm}
  |false=>s
 |none=>s
def aIO (k:Nat)(s:St)(p:Nat×List CK):St:=
 match p.2 with
 | []=>match p.1 with
  |0=>{s with tmps:=s.tmps.map (mapA aIM),heap:=ais aIM k s.dm s.heap 0}
  |1=>{s with tmps:=s.tmps.map Re,heap:=akZ k s.dm (sls s) s.heap 0}
  |b+2=>aRn k b s
 |_::_=>match s.tmp p.1 with
  |.r (.c .nils)=>{s with tmps:=s.tmps.set p.1 (.r (.c (.sl s.heap.length (.k 0) (.s 0) p.2.length true))),heap:=s.heap++[some [.a (.s 0) (p.2.map CK.oc)]]}
  |_=>s
def aTz (id:Nat):List Hd->Option Hd
 | []=>none
 |h::l=>match z9 h.id id with
  |true=>some h
  |false=>aTz id l
def aTA (id:Nat):List Sm->Option Sm
 | []=>none
 |h::l=>match z9 h.id id with
  |true=>some h
  |false=>aTA id l
def ap2 (hs:Hs)(a:Code):Option Sm:=
 match Rc a with
 |none=>none
 |some id=>aTA id hs.sm
def St.abS (k:Nat)(s:St)(h:Hd):Option St:=((h.nils.foldl (aIO k) {s with tmps:=h.aEC.foldl (λl t=>l.set t We) s.tmps}).gc k k)
def St.head (k:Nat)(s:St)(hs:Hs)(body:Code):Option St:=
 match Rc body with
 |none=>s.gc k k
 |some id=>match aTz id hs.hd with
  |none=>s.gc k k
  |some h=>s.abS k h
def aTB (id:Nat):List Jn->Option Jn
 | []=>none
 |h::l=>match z9 h.sm.id id with
  |true=>some h
  |false=>aTB id l
def azC (hs:Hs)(b:Code):Option Jn:=
 match hs.jn with
 | []=>none
 |j::l=>match Rc b with
  |none=>none
  |some id=>aTB id (j::l)
def LB (hs:Hs):Code->List Code
 |.seq a b=>(match azC hs b with
  |some _=>[b]
  |none=>[])++(LB hs a++LB hs b)
 |.cond _ a b=>LB hs a++LB hs b
 |.block _ a=>LB hs a
 |.loop a=>LB hs a
 |_=>[]
def asT (id:Nat):Code->Option Code
 |.seq a b=>match(match Rc b with
   |some i=>z9 i id
   |none=>false) with
  |true=>some b
  |false=>match asT id a with
   |some c=>some c
   |none=>asT id b
 |.cond _ a b=>match asT id a with
  |some c=>some c
  |none=>asT id b
 |.block _ a=>asT id a
 |.loop a=>asT id a
 |_=>none
def ZQ (id:Nat):Code->Option Code
 |.seq a b=>match ZQ id a with
  |some c=>some c
  |none=>ZQ id b
 |.cond _ a b=>match ZQ id a with
  |some c=>some c
  |none=>ZQ id b
 |.block _ a=>ZQ id a
 |.loop a=>match Rc a with
  |some j=>match z9 j id with
   |true=>some a
   |false=>ZQ id a
  |none=>ZQ id a
 |_=>none
def LA:Code->List Code
 |.seq a b=>LA a++LA b
 |.cond _ a b=>LA a++LA b
 |.block _ a=>LA a
 |.loop a=>a::LA a
 |_=>[]
def ZL (P:Program)(f:FuncId):Code:=((P.funcs[f]?).bind (·.body)).getD .skip
def ZK (P:Program)(f:FuncId)(id:Nat):Code:=(ZQ id (ZL P f)).getD .skip
def afT (P:Program)(f:FuncId)(id:Nat):Code:=(asT id (ZL P f)).getD .skip
def tmpsOf (P:Program)(f:FuncId):Nat:=((P.funcs[f]?).map (·.ntmps)).getD 0
def iter {ρ:Type}(hd:St->Option St)(body:St->(AX->St->Option ρ)->Option ρ)(k:AX->St->Option ρ)(n:Nat):St->Option ρ:=
 Nat.rec (λ_=>none) (λ_ ih s=>body s λe s=>match e with
   |.nrm=>match hd s with
    |none=>none
    |some s=>yG s ih
   |e=>k e s) n
def next {ρ:Type}(hd:St->Option St)(c:St->Option ρ)(k:AX->St->Option ρ):AX->St->Option ρ:=λe s=>match e with
 |.nrm=>match hd s with
  |none=>none
  |some s=>yG s c
 |e=>k e s
def HB (P:Program)(E:Env)(hs:Hs)(nt kk:Nat)(lf:Nat){ρ:Type}:Code->St->(AX->St->Option ρ)->Option ρ
 |.skip,s,k=>k .nrm s
 |.region _ ops draw,s,k=>match draw with
  |false=>LN P E nt kk ops.toList ops.toList s [] λs _=>k .nrm s
  |true=>LN P E nt kk ops.toList ops.toList s [] λs l=>match Rb ops.toList 0&&Ra (LM ops.toList []) l 0 with
   |true=>k .nrm s
   |false=>none
 |.seq a b,s,k=>HB P E hs nt kk lf a s λe s=>match e with
  |.nrm=>match azC hs b with
   |none=>HB P E hs nt kk lf b s k
   |some j=>match s.abS kk j.hd with
    |none=>none
    |some s=>yG s λs=>match z9 j.sm.kk kk with
     |true=>j.sm.run s k
     |false=>none
  |e=>k e s
 |.cond (.tmp t) a b,s,k=>match s.tmp t with
  |.r (.c (.f (.b x)))=>match x with
   |true=>HB P E hs nt kk lf a s k
   |false=>HB P E hs nt kk lf b s k
  |_=>none
 |.block id a,s,k=>HB P E hs nt kk lf a s λe s=>match e with
  |.ex j=>match z9 j id with
   |true=>k .nrm s
   |false=>k (.ex j) s
  |e=>k e s
 |.loop a,s,k=>match s.head kk hs a with
  |none=>none
  |some s=>yG s λs=>match ap2 hs a with
   |some σ=>match z9 σ.kk kk with
    |true=>σ.run s k
    |false=>none
   |none=>iter (λt=>t.head kk hs a) (HB P E hs nt kk lf a) k lf s
 |.exit id,s,k=>k (.ex id) s
 |.ret,s,k=>match hs.rk with
  |none=>k .ret s
  |some h=>match s.abS kk h with
   |none=>none
   |some s=>yG s λs=>k .ret s
 |_,_,_=>none
def aTC (P:Program)(s:St):ResultVar->Option RV
 |.tmp t=>match s.tmp t with
  |.r v=>some v
  |_=>none
 |.cell a t=>match s.tmp a with
  |.r (.c (.ptr b o m))=>match adS P t,iR P t,s.bX b,o with
   |some true,some n,some bX,.k c=>match wr n m with
    |true=>(akS bX c (.l 1) n).map .agg
    |false=>none
   |some false,some _,some bX,.k c=>match wr 1 m with
    |true=>match akS bX c (.l 1) 1 with
     |some [.c v]=>some (.c v)
     |_=>none
    |false=>none
   |_,_,_,_=>none
  |_=>none
def axP (P:Program)(s:St):List ResultVar->Option (List RV)
 | []=>some []
 |r::l=>match aTC P s r,axP P s l with
  |some v,some vs=>some (v::vs)
  |_,_=>none
def one:List RV->AV
 | [v]=>.r v
 |vs=>.tup vs
def ait (s:List Nat):List (Option aj)->Nat->List Ch
 | [],_=>[]
 |b::l,j=>(match s.any (z9 j) with
  |false=>Ch.mW
  |true=>match b with
   |some b=>.set b
   |none=>.kill)::ait s l (j+1)
def aEF {α:Type}:List (Option α)->Option (List α)
 | []=>some []
 |some a::l=>(aEF l).map (a:: ·)
 |none::_=>none
def fin (P:Program)(fn:Func)(k:Nat)(e:AX)(s:St):Option pP:=
 match e with
 |.ex _=>none
 |_=>match axP P s fn.results.toList with
  |none=>none
  |some vs=>
   let x:=gcA k (one vs) []
   let y:=gcO k s.dm k (s.heap.take k) 0 x.2
   match gcN k s.heap 1000 0 y.2 [] with
   |some z=>match aEF z.1 with
    |some news=>some {val:=x.1,yY:=ait s.dm y.1 0,news}
    |none=>none
   |none=>none
def start (fn:Func)(args:List AV)(h:List aj)(d:List Nat):St:=
 {tmps:=args++List.replicate (fn.ntmps-args.length) udf,heap:=h.map some,dm:=d}
def den (P:Program)(E:Env)(hs:Hs)(lf:Nat)(f:FuncId)(args:List AV)(h:List aj):Option pP:=
 match P.funcs[f]? with
 |none=>none
 |some fn=>match fn.body with
  |none=>none
  |some c=>match hs.dm.all λb=>wl b h.length with
   |false=>none
   |true=>yG (start fn args h hs.dm) λs=>HB P E hs fn.ntmps h.length lf c s (fin P fn h.length)
end Go.Ab
