/-
  Parts of the proof: Ab
-/
import Derived.Orders
import Derived.KernelRfl
import Derived.LoopN
open Nat renaming beq→z9,ble→wl,blt→v9
set_option linter.unusedVariables false
set_option linter.unusedSimpArgs false
noncomputable section
namespace Go.Ab
set_option linter.defProp false
def aSb:=@Array.getElem?_setIfInBounds_ne
def Wf:=@Int.mul_le_mul_of_nonneg_right
def aXr:=@Array.eq_empty_of_size_eq_zero
def ap7:=@Array.getD_eq_getD_getElem?
def adG:=@List.getElem?_append_right
def azD:=@Int.tdiv_eq_ediv_of_nonneg
def lA:=@List.getElem?_eq_some_iff
def Uw:=@List.getElem?_append_left
def aiv:=@Array.getElem?_eq_getElem
def kt:=@List.getElem?_eq_getElem
def Ot:=@decide_eq_false_iff_not
def aEa:=@List.getElem?_cons_zero
def aKs:=@List.length_eq_zero_iff
def mI:=@Option.map_eq_some_iff
def asG:=@Array.getElem?_eq_none
def aEb:=@Nat.dvd_of_mod_eq_zero
def lB:=@Nat.eq_of_beq_eq_true
def J':=@List.getElem?_eq_none
def Wg:=@Nat.le_of_ble_eq_true
def Wh:=@Array.getElem?_toList
def abG:=@Int.ediv_lt_of_lt_mul
def asH:=@Int.mul_ediv_add_emod
def axD:=@Nat.div_lt_iff_lt_mul
def axE:=@List.mem_iff_getElem?
def axF:=@Nat.ble_eq_true_of_le
def aKt:=@Array.getElem?_modify
def dH:=@Int.ofNat_eq_natCast
def wh:=@Nat.mul_le_mul_right
def aEc:=@List.getElem?_zipIdx
def Wi:=@Array.length_toList
def afW:=@beq_eq_false_iff_ne
def kD:=@of_decide_eq_false
def xS:=@Bool.false_eq_true
def Ou:=@Bool.true_eq_false
def SM:=@List.getElem?_drop
def SN:=@Int.emod_lt_of_pos
def SO:=@Nat.eq_zero_or_pos
def abH:=@List.getElem?_take
def axG:=@List.length_append
def aEd:=@Bool.not_eq_false'
def aEe:=@Nat.lt_of_lt_of_le
def db:=@of_decide_eq_true
def hM:=@Option.some.injEq
def jG:=@decide_eq_true_eq
def o7:=@Bool.not_eq_true'
def Ce:=@List.getElem?_map
def FB:=@Int.emod_eq_of_lt
def HY:=@Int.toNat_natCast
def afX:=@Nat.lt_trichotomy
def axH:=@List.append_assoc
def aEf:=@List.getElem?_set
def bG:=@Option.bind_some
def cK:=@Bool.and_eq_true
def LH:=@Option.getD_some
def LJ:=@List.length_cons
def abI:=@List.any_eq_true
def akY:=@Array.toList_inj
def asJ:=@List.length_drop
def axI:=@Nat.mod_eq_of_lt
def asK:=@List.all_eq_true
def axJ:=@Int.ediv_le_self
def cE:=@decide_eq_false
def Ep:=@Int.ediv_nonneg
def Ka:=@Option.some.inj
def SP:=@Option.map_some
def Wj:=@Int.emod_nonneg
def afY:=@List.length_map
def afZ:=@Bool.or_eq_true
def aEg:=@ne_of_beq_false
def asL:=@Nat.mul_add_mod
def dy:=@decide_eq_true
def pj:=@Int.mul_nonneg
def LK:=@Int.mul_le_mul
def o8:=@Bool.true_and
def qT:=@Prod.mk.injEq
def A6:=@Nat.add_assoc
def FD:=@false_implies
def HZ:=@Bool.not_true
def LL:=@Bool.or_false
def abJ:=@List.mem_cons
def akZ:=@Int.mul_assoc
def gD:=@Nat.zero_add
def cQ:=@Nat.le_trans
def jH:=@Nat.add_zero
def jI:=@Sum.elim_inr
def mJ:=@Nat.lt_or_ge
def mK:=@Sum.elim_inl
def pk:=@Int.le_of_lt
def xT:=@Int.mul_comm
def FE:=@Nat.beq_refl
def Kb:=@decide_false
def Kc:=@Int.lt_or_le
def SQ:=@true_implies
def Ov:=@implies_true
def SS:=@Nat.zero_mul
def abK:=@Nat.mul_comm
def SU:=@Int.le_trans
def Wk:=@Int.le_total
def ak0:=@Int.zero_add
def asM:=@Nat.succ_mul
def af0:=@Int.zero_mul
def cR:=@Nat.le_refl
def dW:=@Int.le_refl
def qz:=@Nat.add_mul
def Ji:=@decide_true
def Vc:=@Nat.one_mul
def Vd:=@Int.add_mul
def bq:=@cond_false
def bo:=@cond_true
def EL:=@ge_iff_le
def fe:=@congrArg
def fT:=@if_false
def AI:=@true_and
def Cf:=@and_true
def lr:=@if_true
inductive FV where
 |u
 |b (x:Bool)
 |i (k:IntKind) (n:Int)
 |s (x:ByteArray)
 |q (n:Nat) (g:Nat->Bool)
inductive Sz where
 |l (n:Nat)
 |s (n:Nat)
def Sz.val:Sz->Nat
 |.l n=>n
 |.s n=>n
def Sz.add:Sz->Sz->Sz
 |.l a,.l b=>.l (a+b)
 |a,b=>.s (a.val+b.val)
def Sz.least:Sz->Sz->Sz
 |.l a,.l b=>.l (Nat.min a b)
 |a,b=>.s (Nat.min a.val b.val)
def Sz.mul (a:Sz)(k:Nat):Sz:=
 match z9 k 1 with
 |true=>a
 |false=>match a with
  |.l a=>.l (a*k)
  |.s a=>.s (a*k)
inductive cG where
 |k (c:Nat)
 |x (c i z:Nat)
def cG.val:cG->Nat
 |.k c=>c
 |.x c i z=>c+i*z
def cG.add:cG->Nat->cG
 |.k c,d=>.k (c+d)
 |.x c i z,d=>.x (c+d) i z
def cG.plus:cG->cG->cG
 |.k c,.k d=>.k (c+d)
 |.x c i z,.k d=>.x (c+d) i z
 |.k c,.x d i z=>.x (c+d) i z
 |.x c i z,.x d j y=>match z9 z y with
  |true=>.x (c+d) (i+j) z
  |false=>.x 0 (c+i*z+(d+j*y)) 1
def cG.idx (o:cG)(j z n:Nat):cG:=
 match o with
 |.k c=>.x c j z
 |.x c i y=>match z9 y (n*z) with
  |true=>.x c (i*n+j) z
  |false=>.x 0 (c+i*y+j*z) 1
def cG.aMG (o:cG)(j z:Nat):cG:=
 match o with
 |.k c=>.x c j z
 |.x c i y=>match z9 y z with
  |true=>.x c (i+j) z
  |false=>.x 0 (c+i*y+j*z) 1
inductive cS where
 |i (k:IntKind) (g:Nat->Int)
 |b (g:Nat->Bool)
 |s (g:Nat->ByteArray)
 |u
 |q (n:Nat->Nat) (g:Nat->Nat->Bool)
inductive CV where
 |f (v:FV)
 |ptr (b:Nat) (o:cG) (n:Nat)
 |aiw
 |sl (b:Nat) (o:cG) (len:Sz) (esz:Nat) (own:Bool)
 |nils
 |aSc
 |aSd
 |cl (f b:Nat) (o:cG) (n:Nat)
 |fs (n z:Nat) (cols:List cS)
 |fp (l:List FV)
inductive Sg where
 |c (v:CV)
 |a (n:Sz) (cols:List cS)
abbrev aj:=List Sg
inductive RV where
 |c (v:CV)
 |agg (b:aj)
inductive AV where
 |r (v:RV)
 |tup (vs:List RV)
 |fn (f:Nat) (adH:List RV)
 |Wl
def Wl:AV:=.Wl
def udf:AV:=.tup []
def cS.at:cS->Nat->FV
 |.i k g,j=>.i k (g j)
 |.b g,j=>.b (g j)
 |.s g,j=>.s (g j)
 |.u,_=>.u
 |.q n g,j=>.q (n j) (g j)
def cS.shift (d:Nat):cS->cS
 |.i k g=>.i k λj=>g (d+j)
 |.b g=>.b λj=>g (d+j)
 |.s g=>.s λj=>g (d+j)
 |.u=>.u
 |.q n g=>.q (λj=>n (d+j)) λj=>g (d+j)
def cS.up (d:Nat):cS->cS
 |.i k g=>.i k λj=>g (j-d)
 |.b g=>.b λj=>g (j-d)
 |.s g=>.s λj=>g (j-d)
 |.u=>.u
 |.q n g=>.q (λj=>n (j-d)) λj=>g (j-d)
def cS.aSe (c:cS)(e:Nat)(v:CV):Option cS:=
 match c,v with
 |.i k g,.f (.i k' x)=>if k=k' then some (.i k λj=>cond (z9 j e) x (g j)) else none
 |.b g,.f (.b x)=>some (.b λj=>cond (z9 j e) x (g j))
 |.s g,.f (.s x)=>some (.s λj=>cond (z9 j e) x (g j))
 |_,_=>none
def cS.mrg (p:Nat->Bool)(c d:cS):Option cS:=
 match c,d with
 |.i k g,.i k' h=>if k=k' then some (.i k λj=>cond (p j) (g j) (h j)) else none
 |.b g,.b h=>some (.b λj=>cond (p j) (g j) (h j))
 |.s g,.s h=>some (.s λj=>cond (p j) (g j) (h j))
 |_,_=>none
def aur (p:Nat->Bool):List cS->List cS->Option (List cS)
 | [],[]=>some []
 |c::cs,d::ds=>match cS.mrg p c d,aur p cs ds with
  |some e,some es=>some (e::es)
  |_,_=>none
 |_,_=>none
def Sg.size:Sg->Nat
 |.c _=>1
 |.a n cols=>n.val*cols.length
def Sg.get:Sg->Nat->CV
 |.c v,j=>match j with
  |0=>v
  |_+1=>.f .u
 |.a _ cols,j=>match cols[j%cols.length]? with
  |some q=>.f (q.at (j/cols.length))
  |none=>.f .u
def aj.size:aj->Nat
 | []=>0
 |s::l=>s.size+aj.size l
def aj.get:aj->Nat->CV
 | [],_=>.f .u
 |s::l,j=>if j<s.size then s.get j else aj.get l (j-s.size)
def aj.list (b:aj):List CV:=(List.range b.size).map b.get
def CV.fv:CV->FV
 |.f v=>v
 |_=>.u
def RV.bY:RV->aj
 |.c v=>[.c v]
 |.agg b=>b
def shC (sh:Bool)(e:Nat)(cols:List cS):List cS:=
 match sh with
 |true=>cols.map (cS.shift e)
 |false=>cols
def aKu (sh:Bool)(cols:List cS)(e nR:Nat)(cH:Sz)(z:Nat):Option aj:=
 match z9 nR 0&&z9 (z%cols.length) 0 with
 |true=>some [.a (cH.mul (z/cols.length)) (shC sh e cols)]
 |false=>none
def rowsOf (sh:Bool)(cols:List cS)(e nR:Nat)(cH:Sz)(z:Nat):Option aj:=
 match cH with
 |.l n=>match z9 n 1&&wl (nR+z) cols.length with
  |true=>some (((cols.drop nR).take z).map λq=>Sg.c (.f (q.at e)))
  |false=>aKu sh cols e nR (.l n) z
 |.s n=>aKu sh cols e nR (.s n) z
def Wm:aj->Nat->Option aj
 | [],m=>match m with
  |0=>some []
  |_+1=>none
 |.c v::r,m=>match m with
  |0=>some []
  |m+1=>(Wm r m).map (.c v:: ·)
 |.a n cols::r,m=>match m with
  |0=>some []
  |m+1=>match n with
   |.s _=>none
   |.l n=>match wl (n*cols.length) (m+1) with
    |true=>(Wm r (m+1-n*cols.length)).map (.a (.l n) cols:: ·)
    |false=>rowsOf false cols 0 0 (.l 1) (m+1)
def nz:Nat->Bool
 |0=>false
 |_+1=>true
def ak1:aj->Nat->Sz->Nat->Option aj
 | [],c,cH,z=>match cH with
  |.l n=>match z9 (n*z) 0 with
   |true=>some []
   |false=>none
  |.s _=>none
 |.c v::r,c,cH,z=>match c with
  |0=>match cH with
   |.l n=>Wm (.c v::r) (n*z)
   |.s _=>none
  |c+1=>ak1 r c cH z
 |.a n cols::r,c,cH,z=>match r with
  | []=>rowsOf (nz (c/cols.length)) cols (c/cols.length) (c%cols.length) cH z
  |_::_=>match n,cH with
   |.l n,.l m=>match wl (n*cols.length) c with
    |true=>ak1 r (c-n*cols.length) cH z
    |false=>match wl (c+m*z) (n*cols.length) with
     |true=>rowsOf (nz (c/cols.length)) cols (c/cols.length) (c%cols.length) cH z
     |false=>match c with
      |0=>Wm (.a (.l n) cols::r) (m*z)
      |_+1=>none
   |_,_=>none
def elemOf (c i z zc:Nat):Nat:=
 match z9 z zc with
 |true=>match c/zc with
  |0=>i
  |q+1=>q+1+i
 |false=>c/zc+i*(z/zc)
def azE:aj->Nat->Nat->Nat->Sz->Nat->Option (Bool×aj)
 | [],_,_,_,_,_=>none
 |.c v::r,c,i,z,cH,y=>match c with
  |0=>(ak1 (.c v::r) (i*z) cH y).map λb=>(true,b)
  |c+1=>azE r c i z cH y
 |.a n cols::r,c,i,z,cH,y=>match r with
  | []=>match z9 (z%cols.length) 0 with
   |true=>(rowsOf true cols (elemOf c i z cols.length) (c%cols.length) cH y).map λb=>(true,b)
   |false=>none
  |_::_=>match n with
   |.l n=>match wl (n*cols.length) c with
    |true=>azE r (c-n*cols.length) i z cH y
    |false=>match z9 (z%cols.length) 0 with
     |true=>(rowsOf true cols (elemOf c i z cols.length) (c%cols.length) cH y).map λb=>(wl (c+i*z+cH.val*y) (n*cols.length),b)
     |false=>none
   |.s _=>none
def aj.sub (b:aj)(o:cG)(cH:Sz)(z:Nat):Option (Bool×aj):=
 match o with
 |.k c=>(ak1 b c cH z).map λb=>(true,b)
 |.x c i y=>azE b c i y cH z
def af1:List cS->Nat->Nat->CV->Option (List cS)
 | [],_,_,_=>none
 |c::cs,0,e,v=>(cS.aSe c e v).map (·::cs)
 |c::cs,j+1,e,v=>(af1 cs j e v).map (c:: ·)
def D9 (zc:Nat):List cS->Nat->Nat->aj->Option (List cS)
 |cols,_,_,[]=>some cols
 |cols,e,nR,.c v::r=>match af1 cols nR e v with
  |some dK=>match z9 (nR+1) zc with
   |true=>D9 zc dK (e+1) 0 r
   |false=>D9 zc dK e (nR+1) r
  |none=>none
 |_,_,_,.a _ _::_=>none
def aEh (cols:List cS)(e nR:Nat)(v:aj):Option (List cS):=
 match v with
 | [.a m dK]=>match z9 nR 0&&z9 cols.length dK.length with
  |true=>aur (λj=>wl e j&&v9 j (e+m.val)) (dK.map (cS.up e)) cols
  |false=>none
 |v=>D9 cols.length cols e nR v
def dq:aj->aj->Option aj
 |b,[]=>some b
 |.c _::r,.c y::vs=>(dq r vs).map (.c y:: ·)
 |.a (.l n) cols::r,.a (.l m) dK::vs=>match z9 n m&&z9 cols.length dK.length with
  |true=>(dq r vs).map (.a (.l m) dK:: ·)
  |false=>none
 |_,_=>none
def aKv (n:Sz)(cols:List cS)(v:aj):Bool:=
 match n,v with
 |.l n,[.a (.l m) dK]=>z9 n m&&z9 cols.length dK.length
 |_,_=>false
def ak2:aj->Nat->aj->Option aj
 | [],_,v=>match v with
  | []=>some []
  |_::_=>none
 |.c x::r,c,v=>match c with
  |0=>dq (.c x::r) v
  |c+1=>(ak2 r c v).map (.c x:: ·)
 |.a n cols::r,c,v=>match r with
  | []=>match z9 c 0&&aKv n cols v with
   |true=>some v
   |false=>(aEh cols (c/cols.length) (c%cols.length) v).map λcols=>[.a n cols]
  |_::_=>match n with
   |.s _=>none
   |.l n=>match wl (n*cols.length) c with
    |true=>(ak2 r (c-n*cols.length) v).map (.a (.l n) cols:: ·)
    |false=>match z9 c 0&&aKv (.l n) cols v with
     |true=>some (v++r)
     |false=>match wl (c+aj.size v) (n*cols.length) with
      |true=>(aEh cols (c/cols.length) (c%cols.length) v).map λcols=>.a (.l n) cols::r
      |false=>match c with
       |0=>dq (.a (.l n) cols::r) v
       |_+1=>none
def azF:aj->Nat->Nat->Nat->aj->Option (Bool×aj)
 | [],_,_,_,_=>none
 |.c x::r,c,i,z,v=>match c with
  |0=>(ak2 (.c x::r) (i*z) v).map λb=>(true,b)
  |c+1=>(azF r c i z v).map λp=>(p.1,.c x::p.2)
 |.a n cols::r,c,i,z,v=>match r with
  | []=>match z9 (z%cols.length) 0 with
   |true=>(aEh cols (elemOf c i z cols.length) (c%cols.length) v).map λcols=>(true,[.a n cols])
   |false=>none
  |_::_=>match n with
   |.l n=>match wl (n*cols.length) c with
    |true=>(azF r (c-n*cols.length) i z v).map λp=>(p.1,.a (.l n) cols::p.2)
    |false=>match z9 (z%cols.length) 0 with
     |true=>(aEh cols (elemOf c i z cols.length) (c%cols.length) v).map λcols=>(wl (c+i*z+aj.size v) (n*cols.length),.a (.l n) cols::r)
     |false=>none
   |.s _=>none
def aj.AH (b:aj)(o:cG)(v:aj):Option (Bool×aj):=
 match o with
 |.k c=>(ak2 b c v).map λb=>(true,b)
 |.x c i z=>azF b c i z v
def Wn:aj->Bool
 | []=>true
 |.c _::r=>Wn r
 |.a _ _::_=>false
def aKw:FV->Option cS
 |.i k x=>some (.i k λ_=>x)
 |.b x=>some (.b λ_=>x)
 |.s x=>some (.s λ_=>x)
 |.u=>none
 |.q _ _=>none
def EM:Nat->aj->Option (List cS)
 |0,_=>some []
 |z+1,.c (.f v)::r=>match aKw v,EM z r with
  |some c,some cs=>some (c::cs)
  |_,_=>none
 |_+1,_=>none
def rowOf (z:Nat)(b:aj):Option aj:=
 match Wn b&&(wl 1 z&&z9 (b.length%z) 0) with
 |true=>match EM z b with
  |some cols=>(D9 z cols 0 0 b).map λcols=>[.a (.l (b.length/z)) cols]
  |none=>none
 |false=>none
def af2 (cols:List cS):List Nat->aj
 | []=>[]
 |j::l=>.c (match cols[j%cols.length]? with
  |some q=>.f (q.at (j/cols.length))
  |none=>.f .u)::af2 cols l
def tV:aj->aj
 | []=>[]
 |.c v::r=>.c v::tV r
 |.a n cols::r=>match n with
  |.l n=>af2 cols (List.range (n*cols.length))++tV r
  |.s n=>.a (.s n) cols::tV r
def aMH (n:Sz)(cols:List cS)(b:aj):Option aj:=
 match Wn b&&(wl 1 cols.length&&z9 (b.length%cols.length) 0) with
 |true=>(D9 cols.length cols n.val 0 b).map λcs=>[.a (n.add (.l (b.length/cols.length))) cs]
 |false=>none
def aSf (n:Sz)(cols:List cS)(b:aj):Option aj:=
 match b with
 | [.a m dK]=>match z9 cols.length dK.length&&wl 1 cols.length with
  |true=>(aur (λj=>v9 j n.val) cols (dK.map (cS.up n.val))).map λcols=>[.a (n.add m) cols]
  |false=>aMH n cols (tV b)
 |b=>aMH n cols (tV b)
def aSg:aj->Bool
 | []=>true
 |.c _::r=>aSg r
 |.a (.l _) _::r=>aSg r
 |.a (.s _) _::_=>false
def aj.app (a b:aj):Option aj:=
 match a,b with
 | [],b=>some b
 |a,[]=>some a
 | [.a n cols],b=>aSf n cols b
 |a,[.a m dK]=>match rowOf dK.length (tV a) with
  |some [.a n cols]=>aSf n cols [.a m dK]
  |_=>none
 |a,b=>match aSg a&&aSg b with
  |true=>some (a++b)
  |false=>none
def asN (z:Nat)(b:aj):aj:=
 match b with
 | []=>[]
 | [.a n cols]=>match z9 cols.length z with
  |true=>[.a n cols]
  |false=>match rowOf z (tV [.a n cols]) with
   |some b=>b
   |none=>[.a n cols]
 |b=>match rowOf z (tV b) with
  |some r=>r
  |none=>b
structure St where
 tmps:List AV
 heap:List (Option aj)
 dh:List Nat
def St.bY (s:St)(b:Nat):Option aj:=(s.heap[b]?).getD none
def ak3 (l:List AV):Nat->AV:=List.rec (motive:=λ_=>Nat->AV) (λ_=>udf) (λa _ ih i=>Nat.rec (motive:=λ_=>AV) a (λm _=>ih m) i) l
def St.tmp (s:St)(i:Nat):AV:=ak3 s.tmps i
def azG {α ρ:Type}(l:List α):Nat->α->(List α->Option ρ)->Option ρ:=
 List.rec (motive:=λ_=>Nat->α->(List α->Option ρ)->Option ρ) (λ_ _ _=>none)
  (λa l ih i v k=>Nat.rec (motive:=λ_=>Option ρ) (k (v::l)) (λm _=>ih m v λl'=>k (a::l')) i) l
inductive Fp where
 |t (i:Nat)
 |c (b:Nat) (r:Option (Nat×Nat))
 |z (b:Nat)
inductive Up where
 |t (i:Nat) (v:AV)
 |c (b:Nat) (o:cG) (v:aj)
 |new (b:Nat) (bY:aj)
 |kill (b:Nat)
def ext (o:cG)(cH:Sz)(z:Nat):Option (Nat×Nat):=
 match o,cH with
 |.k c,.l n=>some (c,n*z)
 |_,_=>none
def szL:aj->Option Nat
 | []=>some 0
 |.c _::r=>(szL r).map (1+ ·)
 |.a (.l n) cols::r=>(szL r).map (n*cols.length+ ·)
 |.a (.s _) _::_=>none
def aMI (o:cG)(v:aj):Option (Nat×Nat):=
 match o with
 |.k c=>(szL v).map λn=>(c,n)
 |_=>none
inductive Rd (α:Type):Type 1 where
 |ret (a:α)
 |fail
 |tm (i:Nat) (k:AV->Rd α)
 |vw (b:Nat) (o:cG) (cH:Sz) (z:Nat) (k:aj->Rd α)
 |sz (b:Nat) (k:Rd α)
 |test (x:Bool) (k:Bool->Rd α)
 |opt {D:Type} (x:Option D) (k:D->Rd α)
def Rd.bind {α β:Type}:Rd α->(α->Rd β)->Rd β
 |.ret a,f=>f a
 |.fail,_=>.fail
 |.tm i k,f=>.tm i λv=>(k v).bind f
 |.vw b o cH z k,f=>.vw b o cH z λv=>(k v).bind f
 |.sz b k,f=>.sz b (k.bind f)
 |.test x k,f=>.test x λv=>(k v).bind f
 |.opt x k,f=>.opt x λv=>(k v).bind f
def dY {α:Type}:Option α->Rd α
 |some a=>.ret a
 |none=>.fail
def cL (x:Bool):Rd Unit:=.test x λ|true=>.ret ()|false=>.fail
def Rd.run {α ρ:Type}:Rd α->St->List Fp->(α->List Fp->Option ρ)->Option ρ
 |.ret a,_,l,k=>k a l
 |.fail,_,_,_=>none
 |.tm i m,s,l,k=>(m (s.tmp i)).run s (.t i::l) k
 |.vw b o cH z m,s,l,k=>
  match s.bY b with
  |some bY=>match bY.sub o cH z with
   |some p=>match p.1 with
    |true=>(m p.2).run s (.z b:: .c b (ext o cH z)::l) k
    |false=>none
   |none=>none
  |none=>none
 |.sz b m,s,l,k=>
  match s.bY b with
  |some _=>m.run s (.z b::l) k
  |none=>none
 |.test x m,s,l,k=>
  match x with
  |true=>(m true).run s l k
  |false=>(m false).run s l k
 |.opt x m,s,l,k=>
  match x with
  |some d=>(m d).run s l k
  |none=>none
def aEi (b:aj)(o:cG)(cH:Sz)(z:Nat):Rd aj:=
 match b.sub o cH z with
 |some p=>.test p.1 λ|true=>.ret p.2|false=>.fail
 |none=>.fail
def ofC:Value->Option CV
 |.bool b=>some (.f (.b b))
 |.int k n=>some (.f (.i k n))
 |.string s=>some (.f (.s s))
 |.pointer none=>some .aiw
 |.slice none 0 0=>some .nils
 |.nilFunc=>some .aSc
 |.nilIface=>some .aSd
 |_=>none
def aIs:List Value->Option aj
 | []=>some []
 |v::vs=>match ofC v,aIs vs with
  |some c,some cs=>some (.c c::cs)
  |_,_=>none
def ofR:Value->Option RV
 |.agg cs=>(aIs cs.toList).map .agg
 |v=>(ofC v).map .c
def Er:Operand->Rd AV
 |.tmp t=>.tm t .ret
 |.const v=>(dY (ofR v)).bind λr=>.ret (.r r)
 |.func f=>.ret (.fn f [])
 |.global _=>.fail
def asR:AV->Rd RV
 |.r v=>.ret v
 |_=>.fail
def asC:AV->Rd CV
 |.r (.c v)=>.ret v
 |_=>.fail
def asI:AV->Rd (IntKind×Int)
 |.r (.c (.f (.i k n)))=>.ret (k,n)
 |_=>.fail
def asB:AV->Rd Bool
 |.r (.c (.f (.b x)))=>.ret x
 |_=>.fail
def asP:AV->Rd (Nat×cG×Nat)
 |.r (.c (.ptr b o n))=>.ret (b,o,n)
 |_=>.fail
def wi (x:Operand):Rd RV:=(Er x).bind asR
def asS:AV->Rd RV
 |.r v=>.ret v
 |.fn f [.c (.ptr b o n)]=>.ret (.c (.cl f b o n))
 |_=>.fail
def aMJ (x:Operand):Rd RV:=(Er x).bind asS
def HE (x:Operand):Rd CV:=(Er x).bind asC
def KZ (x:Operand):Rd (IntKind×Int):=(Er x).bind asI
def aIt (x:Operand):Rd Bool:=(Er x).bind asB
def aMK (x:Operand):Rd (Nat×cG×Nat):=(Er x).bind asP
def tW {α β:Type}(f:α->Rd β):List α->Rd (List β)
 | []=>.ret []
 |a::l=>(f a).bind λb=>(tW f l).bind λbs=>.ret (b::bs)
def adI (P:Program)(t:TypeId):Option Bool:=
 match P.underlying t with
 |some (.struct _)|some (.array _ _)=>some true
 |some _=>some false
 |none=>none
def iz (P:Program)(t:TypeId):Option Nat:=(P.info? t).map (·.size)
def af3 (P:Program)(t:TypeId)(i:Nat):Option Field:=
 match P.underlying t with
 |some (.struct fs)=>fs[i]?
 |_=>none
def aSh (P:Program)(n:Nat)(e:TypeId):Bool:=
 wl 9 n||match P.underlying e with
 |some (.int .u64)=>wl 8 n
 |some (.struct _)=>wl 4 n
 |_=>false
inductive Tm where
 |c
 |a (n z:Nat)
def aSi {α:Type}:Nat->List α->List α
 |0,_=>[]
 |n+1,l=>l++aSi n l
def ak4 (P:Program):Nat->TypeId->List Tm
 |0,_=>[]
 |d+1,t=>match P.underlying t with
  |some (.struct fs)=>(fs.toList.map λf=>ak4 P d f.type).flatten
  |some (.array n e)=>match aSh P n e with
   |true=>match ak4 P d e with
    | [.a m z]=>[.a (n*m) z]
    |_=>[.a n ((iz P e).getD 0)]
   |false=>aSi n (ak4 P d e)
  |_=>[.c]
def FV.same:FV->FV->Bool
 |.b x,.b y=>x==y
 |.i k x,.i k' y=>decide (k=k')&&x==y
 |_,_=>false
def Wo (z:Nat)(row:aj):Nat->aj->Option aj
 |0,b=>some b
 |m+1,.c (.f v)::r=>match row[(m%z)]? with
  |some (.c (.f y))=>match v.same y with
   |true=>Wo z row m r
   |false=>none
  |_=>none
 |_+1,_=>none
def abL:List Tm->aj->Option aj
 | [],[]=>some []
 |.c::tm,.c v::r=>(abL tm r).map (.c v:: ·)
 |.a n z::tm,b=>match EM z b with
  |some cols=>match wl 1 z with
   |true=>match Wo z ((b.take z).reverse) (n*z) b with
    |some r=>(abL tm r).map (.a (.l n) cols:: ·)
    |none=>none
   |false=>none
  |none=>none
 |_,_=>none
def A7 (P:Program)(t:TypeId):Option RV:=
 match((P.info? t).bind (·.zero)).bind ofR with
 |some (.agg b)=>(abL (ak4 P 30 t) b).map .agg
 |r=>r
def FV.isB:FV->Bool
 |.b _=>true
 |_=>false
def FV.toB:FV->Bool
 |.b x=>x
 |_=>false
def FV.isI (k:IntKind):FV->Bool
 |.i k' _=>decide (k'=k)
 |_=>false
def FV.toI:FV->Int
 |.i _ n=>n
 |_=>0
def FV.isS:FV->Bool
 |.s _=>true
 |_=>false
def FV.toS:FV->ByteArray
 |.s x=>x
 |_=>.empty
def aIu (P:Program)(t:TypeId)(c:CV):Rd CV:=
 match P.underlying t,c with
 |some .bool,.f x=>.test x.isB λ|true=>.ret (.f (.b x.toB))|false=>.fail
 |some (.int k),.f x=>.test (x.isI k) λ|true=>.ret (.f (.i k x.toI))|false=>.fail
 |some .string,.f x=>.test x.isS λ|true=>.ret (.f (.s x.toS))|false=>.fail
 |some (.slice _),.f (.q n g)=>.ret (.fs n 1 [.b g])
 |_,c=>.ret c
def af4:List Tm->aj->Option aj
 | [],[]=>some []
 |.c::tm,.c v::r=>(af4 tm r).map (.c v:: ·)
 |.a n z::tm,b=>match wl (n*z) b.length with
  |true=>match rowOf z (b.take (n*z)) with
   |some row=>(af4 tm (b.drop (n*z))).map (row++ ·)
   |none=>none
  |false=>none
 |_,_=>none
def norm (P:Program)(t:TypeId)(l:aj):aj:=
 match Wn l&&wl 8 l.length with
 |true=>match af4 (ak4 P 30 t) l with
  |some r=>r
  |none=>l
 |false=>match Wn l with
  |true=>l
  |false=>match(ak4 P 30 t).all (λ|.c=>true|.a _ _=>false) with
   |true=>tV l
   |false=>l
def ap8 (P:Program)(t:TypeId)(v:RV):Rd RV:=
 match v with
 |.c c=>(aIu P t c).bind λc=>.ret (.c c)
 |.agg l=>.ret (.agg (norm P t l))
def asO:aj->Rd RV
 | [.c v]=>.ret (.c v)
 |_=>.fail
def ZW (P:Program)(t:TypeId)(b:Nat)(o:cG)(m:Nat):Rd RV:=
 (dY (adI P t)).bind λa=>(dY (iz P t)).bind λn=>
  match a with
  |true=>(cL (wl n m)).bind λ_=>.vw b o (.l 1) n λl=>.ret (.agg l)
  |false=>(cL (wl 1 m)).bind λ_=>.vw b o (.l 1) 1 asO
def valueOf (P:Program)(t:TypeId)(b:Nat)(o:cG)(m:Nat):Rd RV:=(ZW P t b o m).bind (ap8 P t)
def aKx (P:Program)(t:TypeId)(cs:aj)(o:cG):Rd RV:=
 (dY (adI P t)).bind λa=>(dY (iz P t)).bind λn=>
  match a with
  |true=>(aEi cs o (.l 1) n).bind λl=>.ret (.agg l)
  |false=>(aEi cs o (.l 1) 1).bind asO
def partOf (P:Program)(t:TypeId)(cs:aj)(o:cG):Rd RV:=(aKx P t cs o).bind (ap8 P t)
def Ow (P:Program)(t:TypeId)(cs:aj)(c:Nat):Rd RV:=
 (dY (iz P t)).bind λn=>(cL (wl 1 n&&wl (c+n) (aj.size cs))).bind λ_=>partOf P t cs (.k c)
def asQ (op:BinOp)(k:IntKind)(x y:Int):Option Int:=
 let a:=BitVec.ofInt k.bits x
 let b:=BitVec.ofInt k.bits y
 match op with
 |.and=>some (k.wrap (a&&&b).toNat)
 |.or=>some (k.wrap (a|||b).toNat)
 |.xor=>some (k.wrap (a^^^b).toNat)
 |.andNot=>some (k.wrap (a&&& ~~~b).toNat)
 |_=>none
def aXs (op:BinOp)(k:IntKind)(x y:Int):Rd FV:=
 match op with
 |.add=>.ret (.i k (k.wrap (x+y)))
 |.sub=>.ret (.i k (k.wrap (x-y)))
 |.mul=>.ret (.i k (k.wrap (x*y)))
 |.quo=>(cL (!decide (y=0))).bind λ_=>.ret (.i k (k.wrap (x.tdiv y)))
 |.rem=>(cL (!decide (y=0))).bind λ_=>.ret (.i k (x.tmod y))
 |.eql=>.ret (.b (x==y))
 |.neq=>.ret (.b (x !=y))
 |.lss=>.ret (.b (decide (x<y)))
 |.leq=>.ret (.b (decide (x<=y)))
 |.gtr=>.ret (.b (decide (x>y)))
 |.geq=>.ret (.b (decide (x>=y)))
 |.shl|.shr=>.fail
 |op=>(dY (asQ op k x y)).bind λn=>.ret (.i k n)
def aSj (op:BinOp)(k:IntKind)(x y:Int):Rd FV:=
 (cL (!decide (y<0))).bind λ_=>
  match op with
  |.shl=>.ret (.i k (k.wrap (x*2^(min y.toNat k.bits))))
  |.shr=>.ret (.i k (x.fdiv (2^(min y.toNat k.bits))))
  |_=>.fail
def aSk (n:Nat)(p:Nat->Bool):Bool:=(List.range n).all p
def aEj (n:Nat):List cS->List cS->Option Bool
 | [.i k g],[.i k' h]=>if k=k' then some (aSk n λj=>g j==h j) else none
 | [.b g],[.b h]=>some (aSk n λj=>g j==h j)
 |_,_=>none
def adJ (P:Program)(e:TypeId)(c:List cS):Bool:=
 match P.underlying e,c with
 |some .bool,[.b _]=>true
 |some (.int _),[.i _ _]=>true
 |_,_=>false
def aML (P:Program)(aix:TypeId->RV->RV->Rd Bool)(xs ys:aj):List Field->Rd Bool
 | []=>.ret true
 |f::fs=>if f.name≠"_" then
   (Ow P f.type xs f.offset).bind λa=>(Ow P f.type ys f.offset).bind λb=>(aix f.type a b).bind λr=>(aML P aix xs ys fs).bind λs=>.ret (r&&s)
  else aML P aix xs ys fs
def aXt (P:Program)(aix:TypeId->RV->RV->Rd Bool)(e:TypeId)(z:Nat)(xs ys:aj):List Nat->Rd Bool
 | []=>.ret true
 |i::l=>(Ow P e xs (i*z)).bind λa=>(Ow P e ys (i*z)).bind λb=>(aix e a b).bind λr=>(aXt P aix e z xs ys l).bind λs=>.ret (r&&s)
def aXu (P:Program)(d n z:Nat)(e:TypeId)(xs ys:aj):Option Bool:=
 match xs,ys with
 | [.a (.l m) c],[.a (.l m') c']=>match wl 1 d&&(z9 z 1&&(z9 m n&&(z9 m' n&&adJ P e c))) with
  |true=>aEj n c c'
  |false=>none
 |_,_=>none
def eqT (P:Program):Nat->TypeId->RV->RV->Rd Bool
 |0,_,_,_=>.fail
 |d+1,t,x,y=>match P.underlying t,x,y with
  |some .bool,.c (.f (.b a)),.c (.f (.b b))=>.ret (a==b)
  |some (.int _),.c (.f (.i k a)),.c (.f (.i k' b))=>if k=k' then .ret (a==b) else .fail
  |some .string,.c (.f (.s a)),.c (.f (.s b))=>.ret (a==b)
  |some (.pointer _),.c .aiw,.c .aiw=>.ret true
  |some (.pointer _),.c (.ptr _ _ _),.c .aiw|some (.pointer _),.c .aiw,.c (.ptr _ _ _)=>.ret false
  |some (.struct fs),.agg xs,.agg ys=>match P.stoodInHeld t with
   |true=>.fail
   |false=>aML P (eqT P d) xs ys fs.toList
  |some (.array n e),.agg xs,.agg ys=>(dY (iz P e)).bind λz=>match aXu P d n z e xs ys with
   |some r=>.ret r
   |none=>aXt P (eqT P d) e z xs ys (List.range n)
  |_,_,_=>.fail
def eqV (P:Program)(t:TypeId)(x y:RV):Rd Bool:=
 match x,y with
 |.agg _,.agg _=>match P.eqGuardType P.depth t with
  |true=>.fail
  |false=>eqT P 30 t x y
 |.c (.f (.i _ _)),_|.c (.f (.s _)),_|.c (.f .u),_|.c (.f (.q _ _)),_=>.fail
 |_,_=>eqT P 30 t x y
def aXv (P:Program)(op:BinOp)(t:TypeId)(x y:RV):Rd RV:=
 match x,y with
 |.c (.f (.i k a)),.c (.f (.i k' b))=>
  match op with
  |.shl|.shr=>(aSj op k a b).bind λv=>.ret (.c (.f v))
  |op=>if k=k' then(aXs op k a b).bind λv=>.ret (.c (.f v)) else .fail
 |x,y=>
  match op with
  |.eql=>(eqV P t x y).bind λr=>.ret (.c (.f (.b r)))
  |.neq=>(eqV P t x y).bind λr=>.ret (.c (.f (.b (!r))))
  |_=>.fail
def unV (op:UnOp)(x:RV):Rd RV:=
 match op,x with
 |.neg,.c (.f (.i k n))=>.ret (.c (.f (.i k (k.wrap (0-n)))))
 |.xor,.c (.f (.i k n))=>(dY (asQ .xor k (if k.signed then -1 else k.max) n)).bind λr=>.ret (.c (.f (.i k r)))
 |.not,.c (.f (.b x))=>.ret (.c (.f (.b (!x))))
 |_,_=>.fail
def aQl (P:Program)(src dst:TypeId)(x:RV):Rd RV:=
 match P.underlying src,P.underlying dst,x with
 |some _,some (.int k),.c (.f (.i _ n))=>.ret (.c (.f (.i k (k.wrap n))))
 |_,_,_=>.fail
def bg (i:Int)(n:Nat):Bool:=decide (0<=i)&&decide (i<(n:Int))
def HF (i:Int)(n:Nat):Bool:=decide (0<=i)&&decide (i<=(n:Int))
def ap9 (i:Int):Nat->Rd Nat
 |0=>.ret 0
 |n+1=>.test (i==((n+1:Nat):Int)) λ|true=>.ret (n+1)|false=>ap9 i n
def sel (P:Program)(o:cG)(i:Int)(n:Nat)(e:TypeId)(z:Nat):Rd cG:=
 match aSh P n e with
 |true=>.ret (o.idx i.toNat z n)
 |false=>match wl n 8 with
  |true=>(ap9 i (n-1)).bind λj=>.ret (o.add (j*z))
  |false=>.ret (o.idx i.toNat z n)
def aMM (P:Program)(o:cG)(i:Int)(len:Sz)(e:TypeId)(z:Nat):Rd cG:=
 match len with
 |.l n=>match !aSh P n e&&wl n 8 with
  |true=>(ap9 i (n-1)).bind λj=>.ret (o.add (j*z))
  |false=>.ret (o.aMG i.toNat z)
 |.s _=>.ret (o.aMG i.toNat z)
def aEk (l:List FV):aj:=l.map λv=>.c (.f v)
def aEl (P:Program)(t:TypeId)(l:List FV):Rd RV:=
 (dY (adI P t)).bind λa=>(dY (iz P t)).bind λn=>
  match a with
  |true=>(cL (z9 n l.length)).bind λ_=>ap8 P t (.agg (aEk l))
  |false=>match l with
   |v::_=>ap8 P t (.c (.f v))
   | []=>.fail
def axK (P:Program)(t:TypeId)(x:CV)(i:Nat):Rd CV:=
 match x with
 |.fp l=>(dY (af3 P t i)).bind λf=>(dY (iz P f.type)).bind λn=>
  (cL (wl 1 n&&wl (f.offset+n) l.length)).bind λ_=>.ret (.fp ((l.drop f.offset).take n))
 |.ptr b o m=>(dY (af3 P t i)).bind λf=>(dY (iz P f.type)).bind λn=>
  (cL (wl 1 n&&wl (f.offset+n) m)).bind λ_=>.ret (.ptr b (o.add f.offset) n)
 |_=>.fail
def EN (b:ByteArray)(n:Nat):Int:=match b[n]? with
 |some x=>Int.ofNat x.toNat
 |none=>0
def axL (P:Program)(t:TypeId)(x:CV)(i:Int):Rd CV:=
 match P.underlying t,x with
 |some (.array n e),.ptr b o m=>(dY (iz P e)).bind λz=>(cL (wl (n*z) m)).bind λ_=>
  (cL (bg i n)).bind λ_=>(sel P o i n e z).bind λo=>.ret (.ptr b o z)
 |some (.slice e),.sl b o len z' _=>(dY (iz P e)).bind λz=>(cL (z9 z z')).bind λ_=>
  (cL (bg i len.val)).bind λ_=>(aMM P o i len e z).bind λo=>.ret (.ptr b o z)
 |some (.slice e),.fs n z' cols=>(dY (iz P e)).bind λz=>(cL (z9 z z')).bind λ_=>
  (cL (bg i n)).bind λ_=>.ret (.fp (cols.map λq=>q.at i.toNat))
 |some (.array n e),.fp l=>(dY (iz P e)).bind λz=>(cL (wl (n*z) l.length&&wl n 8)).bind λ_=>
  (cL (bg i n)).bind λ_=>(ap9 i (n-1)).bind λj=>.ret (.fp ((l.drop (j*z)).take z))
 |_,_=>.fail
def azH (x:Option Operand):Rd (Option Int):=
 match x with
 |none=>.ret none
 |some x=>(KZ x).bind λi=>.ret (some i.2)
def Ux (lo hi:Option Int)(n:Nat):Rd (Nat×Nat):=
 (match hi with
  |none=>Rd.ret n
  |some h=>(cL (HF h n)).bind λ_=>.ret h.toNat).bind λh=>
 (match lo with
  |none=>Rd.ret 0
  |some l=>(cL (HF l h)).bind λ_=>.ret l.toNat).bind λl=>.ret (l,h)
def szQ (q:Bool)(n:Nat):Sz:=
 match q with
 |true=>.l n
 |false=>.s n
def vz (x:Option Operand):Bool:=
 match x with
 |none=>true
 |some (.const _)=>true
 |_=>false
def aqa (q:Bool)(n:Sz):Bool:=
 match n with
 |.l _=>q
 |.s _=>false
def lenOf (q:Bool)(lo hi:Option Int)(n:Sz)(lh:Nat×Nat):Sz:=
 match lo,hi with
 |none,none=>n
 |none,some _=>szQ q lh.2
 |some _,_=>szQ q (lh.2-lh.1)
def af5 (q:Bool)(lo:Option Int)(o:cG)(l z:Nat):cG:=
 match lo with
 |none=>o
 |some _=>match q with
  |true=>o.add (l*z)
  |false=>o.aMG l z
def aus (lo:Option Int)(l:Nat)(cols:List cS):List cS:=
 match lo with
 |none=>cols
 |some _=>cols.map (cS.shift l)
def aKy (P:Program)(t:TypeId)(x:CV)(q:Bool)(lo hi:Option Int):Rd CV:=
 match P.underlying t,x with
 |some (.array n e),.ptr b o m=>(dY (iz P e)).bind λz=>(cL (wl (n*z) m)).bind λ_=>
  (Ux lo hi n).bind λlh=>.ret (.sl b (af5 q lo o lh.1 z) (lenOf q lo hi (.l n) lh) z false)
 |some (.slice e),.sl b o len z own=>(dY (iz P e)).bind λz'=>(cL (z9 z z')).bind λ_=>
  (Ux lo hi len.val).bind λlh=>.ret (.sl b (af5 (aqa q len) lo o lh.1 z) (lenOf (aqa q len) lo hi len lh) z (own&&hi.isNone))
 |some (.slice e),.nils=>(dY (iz P e)).bind λ_=>(Ux lo hi 0).bind λ_=>.ret .nils
 |some (.slice e),.fs n z cols=>(dY (iz P e)).bind λz'=>(cL (z9 z z')).bind λ_=>
  (Ux lo hi n).bind λlh=>.ret (.fs (lenOf false lo hi (.s n) lh).val z (aus lo lh.1 cols))
 |_,_=>.fail
def placesOf (P:Program)(t:TypeId):Option (Nat->Option (Nat×Nat)):=
 match P.underlying t with
 |some (.struct fs)=>(fs.toList.mapM λf=>(P.info? f.type).map λi=>(f.offset,i.size)).map λl i=>l[i]?
 |some (.array _ e)=>(iz P e).map λn i=>some (i*n,n)
 |_=>none
def ak5 (pl:Nat->Option (Nat×Nat)):aj->List (Nat×RV)->Option aj
 |cs,[]=>some cs
 |cs,(i,v)::rest=>match pl i with
  |none=>none
  |some (o,n)=>match z9 (aj.size v.bY) n&&wl (o+n) (aj.size cs) with
   |true=>match ak2 cs o v.bY with
    |some SV=>ak5 pl SV rest
    |none=>none
   |false=>none
def rep:Nat->aj->aj
 |0,_=>[]
 |n+1,l=>l++rep n l
inductive Ch where
 |my
 |set (b:aj)
 |kill
structure pe where
 val:AV
 yF:List Ch
 news:List aj
inductive T:Type 1 where
 |leaf (r:pe)
 |fail
 |test (x:Bool) (a b:T)
 |opt {D:Type} (x:Option D) (k:D->T)
def T.eval:T->Option pe
 |.leaf r=>some r
 |.fail=>none
 |.test x a b=>match x with
  |true=>a.eval
  |false=>b.eval
 |.opt x k=>match x with
  |some d=>(k d).eval
  |none=>none
def T.rd:T->Rd pe
 |.leaf r=>.ret r
 |.fail=>.fail
 |.test x a b=>.test x λ|true=>a.rd|false=>b.rd
 |.opt x k=>.opt x λd=>(k d).rd
abbrev Fz:=List AV->List aj->T
abbrev Env:=Nat->Option Fz
structure Vw where
 b:Nat
 o:cG
 cH:Sz
 z:Nat
 sl:Bool
 own:Bool
def Vw.n (v:Vw):Nat:=v.cH.val*v.z
def abM (b:Nat)(e:Option (Nat×Nat)):List Vw->Nat->Option (Nat×Nat×Bool)
 | [],_=>none
 |v::vs,i=>match z9 v.b b with
  |false=>abM b e vs (i+1)
  |true=>match e,ext v.o v.cH v.z with
   |some (o,n),some (o',n')=>match wl o' o&&wl (o+n) (o'+n') with
    |true=>some (i,o-o',v.own)
    |false=>abM b e vs (i+1)
   |_,_=>abM b e vs (i+1)
def aut (b:Nat)(e:Option (Nat×Nat))(vs:List Vw):Bool:=
 vs.all λv=> !Nat.beq v.b b||match e,ext v.o v.cH v.z with
  |some (o,n),some (o',n')=>wl (o+n) o'||wl (o'+n') o
  |_,_=>false
def aSl (c:CV)(vs:List Vw):Rd (CV×List Vw):=
 match c with
 |.ptr b o n=>match abM b (ext o (.l 1) n) vs 0 with
  |some (i,d,_)=>.ret (.ptr i (.k d) n,vs)
  |none=>(cL (aut b (ext o (.l 1) n) vs)).bind λ_=>.ret (.ptr vs.length (.k 0) n,vs++[⟨b,o,.l 1,n,false,false⟩])
 |.cl f b o n=>match abM b (ext o (.l 1) n) vs 0 with
  |some (i,d,_)=>.ret (.cl f i (.k d) n,vs)
  |none=>(cL (aut b (ext o (.l 1) n) vs)).bind λ_=>.ret (.cl f vs.length (.k 0) n,vs++[⟨b,o,.l 1,n,false,false⟩])
 |.sl b o len z own=>match abM b (ext o len z) vs 0 with
  |some (i,d,ow)=>.ret (.sl i (.k d) (.s len.val) z (own&&ow),vs)
  |none=>(cL (aut b (ext o len z) vs)).bind λ_=>
   .ret (.sl vs.length (.k 0) (.s len.val) z (own&&vs.all λv=> !Nat.beq v.b b|| !v.own),vs++[⟨b,o,len,z,true,own&&vs.all λv=> !Nat.beq v.b b|| !v.own⟩])
 |c=>.ret (c,vs)
def aMN:aj->List Vw->Rd (aj×List Vw)
 | [],vs=>.ret ([],vs)
 |.c c::cs,vs=>(aSl c vs).bind λx=>(aMN cs x.2).bind λy=>.ret (.c x.1::y.1,y.2)
 |.a n cols::cs,vs=>(aMN cs vs).bind λy=>.ret (.a n cols::y.1,y.2)
def aSm (r:RV)(vs:List Vw):Rd (RV×List Vw):=
 match r with
 |.c c=>(aSl c vs).bind λx=>.ret (.c x.1,x.2)
 |.agg cs=>(aMN cs vs).bind λx=>.ret (.agg x.1,x.2)
def aEm:List RV->List Vw->Rd (List RV×List Vw)
 | [],vs=>.ret ([],vs)
 |c::cs,vs=>(aSm c vs).bind λx=>(aEm cs x.2).bind λy=>.ret (x.1::y.1,y.2)
def aXw (a:AV)(vs:List Vw):Rd (AV×List Vw):=
 match a with
 |.r r=>(aSm r vs).bind λx=>.ret (.r x.1,x.2)
 |.tup rs=>(aEm rs vs).bind λx=>.ret (.tup x.1,x.2)
 |.fn f rs=>(aEm rs vs).bind λx=>.ret (.fn f x.1,x.2)
 |.Wl=>.ret (.Wl,vs)
def aKz:List AV->List Vw->Rd (List AV×List Vw)
 | [],vs=>.ret ([],vs)
 |c::cs,vs=>(aXw c vs).bind λx=>(aKz cs x.2).bind λy=>.ret (x.1::y.1,y.2)
def toS (b:aj):aj:=
 match b with
 | [.a n cols]=>[.a (.s n.val) cols]
 |b=>b
def aQm (sl:Bool)(z:Nat)(b:aj):aj:=
 match sl with
 |true=>toS (asN z b)
 |false=>b
def aSn:Nat->Nat->List Vw->List aj->Rd (List aj×List Vw)
 |0,_,_,_=>.fail
 |fuel+1,i,vs,acc=>match vs[i]? with
  |none=>.ret (acc,vs)
  |some v=>.vw v.b v.o v.cH v.z λcs=>
   (aMN (aQm v.sl v.z cs) vs).bind λx=>aSn fuel (i+1) x.2 (acc++[x.1])
def LM (vs:List Vw)(aM:Nat):CV->CV
 |.ptr j d n=>match vs[j]? with
  |some v=>.ptr v.b (v.o.plus d) n
  |none=>.ptr (aM+(j-vs.length)) d n
 |.cl f j d n=>match vs[j]? with
  |some v=>.cl f v.b (v.o.plus d) n
  |none=>.cl f (aM+(j-vs.length)) d n
 |.sl j d len z own=>match vs[j]? with
  |some v=>.sl v.b (v.o.plus d) len z (own&&v.own)
  |none=>.sl (aM+(j-vs.length)) d len z own
 |c=>c
def K0 (f:CV->CV):aj->aj
 | []=>[]
 |.c v::r=>.c (f v)::K0 f r
 |.a n cols::r=>.a n cols::K0 f r
def aSo (vs:List Vw)(aM:Nat):RV->RV
 |.c c=>.c (LM vs aM c)
 |.agg cs=>.agg (K0 (LM vs aM) cs)
def aMO (vs:List Vw)(aM:Nat):AV->AV
 |.r r=>.r (aSo vs aM r)
 |.tup rs=>.tup (rs.map (aSo vs aM))
 |.fn f rs=>.fn f (rs.map (aSo vs aM))
 |.Wl=>.Wl
def H0 (vs:List Vw)(aM:Nat):List aj->Nat->List Up
 | [],_=>[]
 |b::bs,j=>.new (aM+j) (K0 (LM vs aM) b)::H0 vs aM bs (j+1)
def A8 (all:List Vw)(aM:Nat):List Vw->List Ch->Option (Bool×List Up)
 | [],[]=>some (true,[])
 |_::vs,.my::cs=>A8 all aM vs cs
 |v::vs,.set b::cs=>match A8 all aM vs cs with
  |some p=>some (p.1&&z9 (aj.size b) v.n,.c v.b v.o (K0 (LM all aM) b)::p.2)
  |none=>none
 |_::vs,.kill::cs=>A8 all aM vs cs
 |_,_=>none
def pn:List Vw->List Ch->List Up
 |v::vs,.kill::cs=>.kill v.b::pn vs cs
 |_::vs,_::cs=>pn vs cs
 |_,_=>[]
def dL (dst:Option Tmp)(v:AV):List Up:=
 match dst with
 |some d=>[.t d v]
 |none=>[]
def aXx (E:Env)(f:Nat)(args:List AV)(dst:Option Tmp)(aM:Nat):Rd (List Up):=
 (aKz args []).bind λx=>(aSn 1000 0 x.2 []).bind λy=>
  match E f with
  |none=>.fail
  |some F=>(F x.1 y.1).rd.bind λr=>
   (dY (A8 y.2 aM y.2 r.yF)).bind λus=>(cL us.1).bind λ_=>
    .ret (dL dst (aMO y.2 aM r.val)++(us.2++(pn y.2 r.yF++H0 y.2 aM r.news 0)))
def aSp:CV->Rd Nat
 |.sl _ _ n _ _=>.ret n.val
 |.nils=>.ret 0
 |.fs n _ _=>.ret n
 |.f (.s x)=>.ret x.size
 |_=>.fail
def slB (z:Nat):CV->Rd (Sz×aj)
 |.sl b o n z' _=>(cL (z9 z z')).bind λ_=>.vw b o n z λk=>.ret (n,k)
 |.nils=>.ret (.l 0,[])
 |.fs n z' cols=>(cL (z9 z z')).bind λ_=>.ret (.s n,[.a (.s n) cols])
 |_=>.fail
def aEn (P:Program)(t:TypeId)(s x:CV)(dst:Option Tmp)(aM:Nat):Rd (List Up):=
 match P.underlying t with
 |some (.slice e)=>(dY (iz P e)).bind λz=>(dY ((P.info? e).map (·.bytes))).bind λby_=>(dY (A7 P e)).bind λzv=>
  (cL (wl 1 z&&(wl 1 by_&&z9 (aj.size zv.bY) z))).bind λ_=>
  (slB z x).bind λxb=>
  match s with
  |.nils=>(cL (wl (xb.1.val*by_) 140737488355328)).bind λ_=>
   .ret (dL dst (.r (.c (.sl aM (.k 0) xb.1 z true)))++[.new aM xb.2])
  |.sl b o n z' true=>(cL (z9 z z')).bind λ_=>(cL (wl ((n.val+xb.1.val)*by_) 140737488355328)).bind λ_=>
   .sz b<|
   .vw b o n z λsb=>(dY (sb.app xb.2)).bind λnb=>
    (cL (match x with|.sl b' _ _ _ _=> !Nat.beq b b'|_=>true)).bind λ_=>
    .ret (dL dst (.r (.c (.sl aM (.k 0) (n.add xb.1) z true)))++[.kill b,.new aM nb])
  |_=>.fail
 |_=>.fail
def aIv (v:Nat):Nat->Rd Nat
 |0=>.ret 0
 |k+1=>.test (wl (k+1) v) λ|true=>.ret (k+1)|false=>aIv v k
def aMP (n n':Sz):Rd (Bool×Sz):=
 match n,n' with
 |.l k,.s v=>match wl k 8 with
  |true=>(aIv v k).bind λj=>.ret (true,.l j)
  |false=>.ret (false,Sz.least (.s v) (.l k))
 |n,n'=>.ret (false,Sz.least n' n)
def copyV (P:Program)(t:TypeId)(d x:CV)(dst:Option Tmp):Rd (List Up):=
 match P.underlying t with
 |some (.slice e)=>(dY (iz P e)).bind λz=>
  match d,x with
  |.sl b o n z1 _,.sl b' o' n' z2 _=>(cL (z9 z z1&&z9 z z2)).bind λ_=>
   (cL (!Nat.beq b b')).bind λ_=>(aMP n n').bind λm=>
   .vw b' o' m.2 z λl=>.sz b<|
    .ret (dL dst (.r (.c (.f (.i .i64 (m.2.val:Int)))))++[.c b o (cond m.1 (tV l) l)])
  |_,_=>.fail
 |_=>.fail
def aXy:FV->FV->Rd FV
 |.i k x,.i k' y=>if k=k' then .ret (.i k (if y<x then y else x)) else .fail
 |_,_=>.fail
def aXz:FV->FV->Rd FV
 |.i k x,.i k' y=>if k=k' then .ret (.i k (if y>x then y else x)) else .fail
 |_,_=>.fail
def auu {α β:Type}(f:β->α->Rd β):β->List α->Rd β
 |b,[]=>.ret b
 |b,a::l=>(f b a).bind λb'=>auu f b' l
def asF:AV->Rd FV
 |.r (.c (.f v))=>.ret v
 |_=>.fail
def biV (P:Program)(bi:Builtin)(ts:Array TypeId)(args:List AV)(dst:Option Tmp)(aM:Nat):Rd (List Up):=
 match bi,args with
 |.len,[x]=>(dY ((ts[0]?).bind P.underlying)).bind λ
  |.array n _=>.ret (dL dst (.r (.c (.f (.i .i64 (n:Int))))))
  |.slice _=>(asC x).bind λc=>(match c with|.f _=>Rd.fail|c=>aSp c).bind λn=>.ret (dL dst (.r (.c (.f (.i .i64 (n:Int))))))
  |.string=>(asC x).bind λc=>(match c with|.f (.s x)=>Rd.ret x.size|_=>Rd.fail).bind λn=>.ret (dL dst (.r (.c (.f (.i .i64 (n:Int))))))
  |_=>.fail
 |.append,[s,x]=>(dY (ts[0]?)).bind λt=>(cL (match ts.toList with| [t1,t2]=>z9 t1 t2|_=>false)).bind λ_=>
  (asC s).bind λs=>(asC x).bind λx=>aEn P t s x dst aM
 |.copy,[d,x]=>(dY (ts[0]?)).bind λt=>(asC d).bind λd=>(asC x).bind λx=>copyV P t d x dst
 |.min,x::l=>(asF x).bind λx=>(tW asF l).bind λl=>(auu aXy x l).bind λv=>.ret (dL dst (.r (.c (.f v))))
 |.max,x::l=>(asF x).bind λx=>(tW asF l).bind λl=>(auu aXz x l).bind λv=>.ret (dL dst (.r (.c (.f v))))
 |_,_=>.fail
def a0Q:AV->Rd (Nat×List RV)
 |.fn f adH=>.ret (f,adH)
 |.r (.c (.cl f b o n))=>.ret (f,[.c (.ptr b o n)])
 |_=>.fail
def aoW (P:Program)(e:TypeId)(n z:Nat)(b:aj):aj:=
 match !aSh P n e&&wl n 8 with
 |true=>b
 |false=>asN z b
inductive CK where
 |i (k:IntKind)
 |b
 |s
def CK.nR:CK->cS
 |.i k=>.i k λ_=>0
 |.b=>.b λ_=>false
 |.s=>.s λ_=>.empty
def ckT (P:Program):Nat->TypeId->Option (List CK)
 |0,_=>none
 |d+1,t=>match P.underlying t with
  |some .bool=>some [.b]
  |some (.int k)=>some [.i k]
  |some .string=>some [.s]
  |some (.struct fs)=>fs.toList.foldr (λf l=>match ckT P d f.type,l with
   |some a,some b=>some (a++b)
   |_,_=>none) (some [])
  |some (.array n e)=>(ckT P d e).map (aSi n)
  |_=>none
def aKA (P:Program):Nat->TypeId->List (Option (Nat×List CK))
 |0,_=>[]
 |d+1,t=>match P.underlying t with
  |some (.struct fs)=>(fs.toList.map λf=>aKA P d f.type).flatten
  |some (.array n e)=>aSi n (aKA P d e)
  |some (.slice e)=>[match iz P e,ckT P 30 e with
   |some z,some ks=>some (z,ks)
   |_,_=>none]
  |_=>[none]
def SW:List (Option (Nat×List CK))->aj->Nat->aj×List aj
 |_,[],_=>([],[])
 |ks,.a n cols::r,b=>let x:=SW (ks.drop (n.val*cols.length)) r b;(.a n cols::x.1,x.2)
 |ks,.c v::r,b=>match v,ks with
  |.nils,some (z,k)::ks=>let x:=SW ks r (b+1);(.c (.sl b (.k 0) (.s 0) z true)::x.1,[.a (.s 0) (k.map CK.nR)]::x.2)
  |v,ks=>let x:=SW (ks.drop 1) r b;(.c v::x.1,x.2)
def aSq:aj->Bool
 | []=>false
 |.c .nils::_=>true
 |_::r=>aSq r
def iL (P:Program)(t:TypeId)(b:aj)(aM:Nat):aj×List aj:=
 match aSq b with
 |true=>SW (aKA P 30 t) b aM
 |false=>(b,[])
def Cg:List aj->Nat->List Up
 | [],_=>[]
 |b::bs,n=>.new n b::Cg bs (n+1)
def auv (dst:Option Tmp)(aM n:Nat)(cs:aj):List Up:=dL dst (.r (.c (.ptr aM (.k 0) n)))++[.new aM cs]
def aop (P:Program)(E:Env)(o:Oper)(aM:Nat):Rd (List Up):=
 let val (m:Rd RV):Rd (List Up):=m.bind λv=>.ret (dL o.dst (.r v))
 let cel (m:Rd CV):Rd (List Up):=m.bind λv=>.ret (dL o.dst (.r (.c v)))
 match o.op with
 |.move x|.assign x=>(Er x).bind λv=>.ret (dL o.dst v)
 |.pick c a b=>(aIt c).bind λx=>.test x λ
  |true=>(Er a).bind λv=>.ret (dL o.dst v)
  |false=>(Er b).bind λv=>.ret (dL o.dst v)
 |.alloc e=>(dY (A7 P e)).bind λz=>.ret (Cg (iL P e z.bY aM).2 aM++auv o.dst (aM+(iL P e z.bY aM).2.length) (aj.size (iL P e z.bY aM).1) (iL P e z.bY aM).1)
 |.box t x=>(wi x).bind λv=>.ret (Cg (iL P t v.bY aM).2 aM++auv o.dst (aM+(iL P t v.bY aM).2.length) (aj.size (iL P t v.bY aM).1) (iL P t v.bY aM).1)
 |.makeSlice t n c=>match P.underlying t with
  |some (.slice e)=>(dY (A7 P e)).bind λz=>(dY (iz P e)).bind λq=>(KZ n).bind λn=>(KZ c).bind λc=>
   (cL (decide (n.2=0)&&decide (c.2=0))).bind λ_=>(dY (EM q z.bY)).bind λcols=>
   .ret (dL o.dst (.r (.c (.sl aM (.k 0) (.s 0) q true)))++[.new aM [.a (.s 0) cols]])
  |_=>.fail
 |.build t ps=>(dY (A7 P t)).bind λz=>(tW (λp=>(wi p.2).bind λv=>.ret (p.1,v)) ps.toList).bind λl=>
  (dY (placesOf P t)).bind λpl=>(dY (ak5 pl z.bY l)).bind λcs=>.ret (dL o.dst (.r (.agg cs)))
 |.buildSlice t n ps=>match P.underlying t with
  |some (.slice e)=>(dY (A7 P e)).bind λz=>(dY (iz P e)).bind λq=>
   (cL (wl 1 q&&wl (n*q) 16777216)).bind λ_=>
   (tW (λp=>(wi p.2).bind λv=>.ret (p.1,v)) ps.toList).bind λl=>
   (cL (z9 (aj.size z.bY) q)).bind λ_=>(dY (ak5 (λi=>some (i*q,q)) (rep n z.bY) l)).bind λcs=>.ret (dL o.dst (.r (.c (.sl aM (.k 0) (.l n) q true)))++[.new aM (aoW P e n q cs)])
  |_=>.fail
 |.load t a=>(HE a).bind λ
  |.ptr b q n=>val (valueOf P t b q n)
  |.fp l=>val (aEl P t l)
  |_=>.fail
 |.store t a x=>(aMK a).bind λp=>(aMJ x).bind λv=>(dY (iz P t)).bind λn=>
  (cL (z9 (aj.size v.bY) n&&wl n p.2.2)).bind λ_=>.sz p.1<|
  .ret (Cg (iL P t v.bY aM).2 aM++(dL o.dst udf++[.c p.1 p.2.1 (iL P t v.bY aM).1]))
 |.nilCheck x=>(HE x).bind λ
  |.ptr b q n=>.ret (dL o.dst (.r (.c (.ptr b q n))))
  |.fp l=>.ret (dL o.dst (.r (.c (.fp l))))
  |_=>.fail
 |.binOp op t x y _=>(wi x).bind λa=>(wi y).bind λb=>val (aXv P op t a b)
 |.unOp op _ x=>(wi x).bind λa=>val (unV op a)
 |.convert s d x=>(wi x).bind λa=>val (aQl P s d a)
 |.sliceToArrayPointer t x=>(HE x).bind λc=>match P.underlying t,c with
  |some (.array n _),.sl b q len z _=>(cL (wl 1 n&&wl n len.val)).bind λ_=>cel (.ret (.ptr b q (n*z)))
  |_,_=>.fail
 |.makeFunc (.func f) fs adH=>match fs.toList with
  | []=>(tW wi adH.toList).bind λl=>.ret (dL o.dst (.fn f l))
  |_=>.fail
 |.slice t x lo hi none=>(HE x).bind λc=>(azH lo).bind λl=>(azH hi).bind λh=>cel (aKy P t c (vz lo&&vz hi) l h)
 |.fieldAddr t x i=>(HE x).bind λc=>cel (axK P t c i)
 |.field t x i=>(wi x).bind λ
  |.agg cs=>(dY (af3 P t i)).bind λf=>val (Ow P f.type cs f.offset)
  |_=>.fail
 |.indexAddr t x i=>(HE x).bind λc=>(KZ i).bind λi=>cel (axL P t c i.2)
 |.index t x i=>(wi x).bind λv=>(KZ i).bind λi=>match P.underlying t,v with
  |some (.array n e),.agg cs=>(dY (iz P e)).bind λz=>(cL (wl 1 z&&wl (n*z) (aj.size cs))).bind λ_=>(cL (bg i.2 n)).bind λ_=>(sel P (.k 0) i.2 n e z).bind λo=>val (partOf P e cs o)
  |some .string,.c (.f (.s b))=>(cL (bg i.2 b.size)).bind λ_=>val (.ret (.c (.f (.i .u8 (EN b i.2.toNat)))))
  |_,_=>.fail
 |.extract x i=>(Er x).bind λ
  |.tup vs=>(dY (vs[i]?)).bind λv=>.ret (dL o.dst (.r v))
  |_=>.fail
 |.call c=>(tW Er c.args.toList).bind λargs=>match c.callee with
  |.builtin b=>biV P b c.argTypes args o.dst aM
  |.value f=>(Er f).bind λf=>(a0Q f).bind λfc=>aXx E fc.1 (args++fc.2.map .r) o.dst aM
  |.invoke _ _=>.fail
 |_=>.fail
def mark (k:Nat)(b:Nat)(d:List Nat):List Nat:=
 match v9 b k&& !d.any (z9 b) with
 |true=>b::d
 |false=>d
def Up.app (k:Nat)(s:St):Up->St
 |.t i v=>{s with tmps:=s.tmps.set i v}
 |.c b o v=>match s.bY b with
  |some bY=>match bY.AH o v with
   |some p=>{s with heap:=s.heap.set b (some p.2),dh:=mark k b s.dh}
   |none=>s
  |none=>s
 |.new _ bY=>{s with heap:=s.heap++[some bY]}
 |.kill b=>{s with heap:=s.heap.set b none,dh:=mark k b s.dh}
def Up.ok (s:St):Up->Bool
 |.t i _=>v9 i s.tmps.length
 |.c b o v=>match s.bY b with
  |some bY=>match bY.AH o v with
   |some p=>p.1&&wl (o.val+aj.size v) (aj.size bY)
   |none=>false
  |none=>false
 |.new b _=>z9 b s.heap.length
 |.kill b=>v9 b s.heap.length
def jJ (k:Nat):List Up->St->Option St
 | [],s=>some s
 |u::us,s=>match u.ok s with
  |true=>jJ k us (u.app k s)
  |false=>none
def aQn (acc:List Nat)(m:Nat)(e:Edge):Nat:=match Region.binds .any e with
 |true=>(m|||2^e.on)|||acc.getD e.on 0
 |false=>m
def mask (acc:List Nat)(o:Oper):Nat:=o.after.toList.foldl (aQn acc) 0
def LN:List Oper->List Nat->List Nat
 | [],acc=>acc
 |o::l,acc=>LN l (acc++[mask acc o])
def ovl (lo n lo' n':Nat):Bool:=v9 lo (lo'+n')&&v9 lo' (lo+n)
def meet:Option (Nat×Nat)->Option (Nat×Nat)->Bool
 |some (lo,n),some (lo',n')=>ovl lo n lo' n'
 |_,_=>true
def Fp.azI:Fp->Up->Bool
 |.t i,.t j _=>z9 i j
 |.c b r,.c b' o v=>z9 b b'&&meet r (aMI o v)
 |.c b _,.new b' _|.c b _,.kill b'|.z b,.new b' _|.z b,.kill b'=>z9 b b'
 |_,_=>false
def Up.azI:Up->Up->Bool
 |.t i _,.t j _=>z9 i j
 |.c b o v,.c b' o' v'=>z9 b b'&&meet (aMI o v) (aMI o' v')
 |.c b _ _,.new b' _|.c b _ _,.kill b'|.new b _,.c b' _ _|.kill b,.c b' _ _|.new b _,.new b' _|.new b _,.kill b'|.kill b,.new b' _|.kill b,.kill b'=>z9 b b'
 |_,_=>false
structure Tr where
 fp:List Fp
 us:List Up
def Tr.af6 (x y:Tr):Bool:=
 x.us.any (λu=>y.fp.any (·.azI u)||y.us.any (·.azI u))||y.us.any (λu=>x.fp.any (·.azI u))
def Rb (ms:List Nat):List Tr->Nat->Bool
 | [],_=>true
 |x::rest,j=>(rest.zipIdx.all λp=>Nat.testBit (ms.getD (j+1+p.2) 0) j|| !x.af6 p.1)&&Rb ms rest (j+1)
def Rc:List Oper->Nat->Bool
 | [],_=>true
 |o::l,i=>(o.after.toList.all λe=> !Region.binds .any e||v9 e.on i)&&Rc l (i+1)
def aXA (o:Oper)(nt:Nat):Bool:=
 match o.dst with
 |none=>true
 |some d=>v9 d nt
def Ox (ops:List Oper)(j:Nat):Option Tmp:=(ops[j]?).bind (·.dst)
def af7 {α ρ:Type}(l:List α):(List α->ρ)->ρ:=
 List.rec (motive:=λ_=>(List α->ρ)->ρ) (λk=>k []) (λa _ ih k=>ih λl=>k (a::l)) l
def auw {ρ:Type}(o:cG)(k:cG->ρ):ρ:=
 match o with
 |.k c=>k (.k c)
 |.x c i z=>k (.x c i z)
def aKB {ρ:Type}(n:Sz)(k:Sz->ρ):ρ:=
 match n with
 |.l n=>k (.l n)
 |.s n=>k (.s n)
def aDh {ρ:Type}(v:FV)(k:FV->ρ):ρ:=
 match v with
 |.u=>k .u
 |.b x=>k (.b x)
 |.i d n=>k (.i d n)
 |.s x=>k (.s x)
 |.q n g=>k (.q n g)
def axM {ρ:Type}(c:cS)(k:cS->ρ):ρ:=
 match c with
 |.i d g=>k (.i d g)
 |.b g=>k (.b g)
 |.s g=>k (.s g)
 |.u=>k .u
 |.q n g=>k (.q n g)
def Wp {ρ:Type}(l:List cS):(List cS->ρ)->ρ:=
 List.rec (motive:=λ_=>(List cS->ρ)->ρ) (λk=>k []) (λa _ ih k=>axM a λa=>ih λl=>k (a::l)) l
def auy {ρ:Type}(l:List FV):(List FV->ρ)->ρ:=
 List.rec (motive:=λ_=>(List FV->ρ)->ρ) (λk=>k []) (λa _ ih k=>aDh a λa=>ih λl=>k (a::l)) l
def aDi {ρ:Type}(c:CV)(k:CV->ρ):ρ:=
 match c with
 |.f v=>aDh v λv=>k (.f v)
 |.ptr b o n=>auw o λo=>k (.ptr b o n)
 |.cl f b o n=>auw o λo=>k (.cl f b o n)
 |.aiw=>k .aiw
 |.sl b o l z w=>auw o λo=>aKB l λl=>k (.sl b o l z w)
 |.nils=>k .nils
 |.aSc=>k .aSc
 |.aSd=>k .aSd
 |.fs n z cols=>Wp cols λcols=>k (.fs n z cols)
 |.fp l=>auy l λl=>k (.fp l)
def auz {ρ:Type}(s:Sg)(k:Sg->ρ):ρ:=
 match s with
 |.c v=>aDi v λv=>k (.c v)
 |.a n cols=>aKB n λn=>Wp cols λcols=>k (.a n cols)
def ZX {ρ:Type}(l:aj):(aj->ρ)->ρ:=
 List.rec (motive:=λ_=>(aj->ρ)->ρ) (λk=>k []) (λa _ ih k=>auz a λa=>ih λl=>k (a::l)) l
def auA {ρ:Type}(r:RV)(k:RV->ρ):ρ:=
 match r with
 |.c c=>aDi c λc=>k (.c c)
 |.agg b=>ZX b λb=>k (.agg b)
def ak6 {ρ:Type}(l:List RV):(List RV->ρ)->ρ:=
 List.rec (motive:=λ_=>(List RV->ρ)->ρ) (λk=>k []) (λa _ ih k=>auA a λa=>ih λl=>k (a::l)) l
def auB {ρ:Type}(v:AV)(k:AV->ρ):ρ:=
 match v with
 |.r r=>auA r λr=>k (.r r)
 |.tup rs=>ak6 rs λrs=>k (.tup rs)
 |.fn f rs=>ak6 rs λrs=>k (.fn f rs)
 |.Wl=>k .Wl
def aDj {ρ:Type}(u:Up)(k:Up->ρ):ρ:=
 match u with
 |.t i v=>auB v λv=>k (.t i v)
 |.c b o vs=>auw o λo=>ZX vs λvs=>k (.c b o vs)
 |.new b bY=>ZX bY λbY=>k (.new b bY)
 |.kill b=>k (.kill b)
def auC {ρ:Type}(l:List Up):(List Up->ρ)->ρ:=
 List.rec (motive:=λ_=>(List Up->ρ)->ρ) (λk=>k []) (λa _ ih k=>aDj a λa=>ih λl=>k (a::l)) l
def auD {ρ:Type}(l:List AV):(List AV->ρ)->ρ:=
 List.rec (motive:=λ_=>(List AV->ρ)->ρ) (λk=>k []) (λa _ ih k=>auB a λa=>ih λl=>k (a::l)) l
def auE {ρ:Type}(u:Option aj)(k:Option aj->ρ):ρ:=
 match u with
 |some b=>ZX b λb=>k (some b)
 |none=>k none
def auF {ρ:Type}(l:List (Option aj)):(List (Option aj)->ρ)->ρ:=
 List.rec (motive:=λ_=>(List (Option aj)->ρ)->ρ) (λk=>k []) (λa _ ih k=>auE a λa=>ih λl=>k (a::l)) l
def yo {ρ:Type}(s:St)(k:St->ρ):ρ:=
 match s with
 | ⟨t,h,d⟩=>auD t λt=>auF h λh=>af7 d λd=>k ⟨t,h,d⟩
def Up.adK {ρ:Type}(k:Nat)(u:Up)(s:St)(c:St->Option ρ):Option ρ:=
 match u with
 |.t i v=>azG s.tmps i v λt=>c {s with tmps:=t}
 |.c b o v=>match s.bY b with
  |some bY=>match bY.AH o v with
   |some p=>match p.1&&wl (o.val+aj.size v) (aj.size bY) with
    |true=>ZX p.2 λbY=>azG s.heap b (some bY) λh=>af7 (mark k b s.dh) λd=>c {s with heap:=h,dh:=d}
    |false=>none
   |none=>none
  |none=>none
 |.new b bY=>match z9 b s.heap.length with
  |true=>af7 (s.heap++[some bY]) λh=>c {s with heap:=h}
  |false=>none
 |.kill b=>azG s.heap b none λh=>af7 (mark k b s.dh) λd=>c {s with heap:=h,dh:=d}
def adK {ρ:Type}(k:Nat)(us:List Up):St->(St->Option ρ)->Option ρ:=
 List.rec (motive:=λ_=>St->(St->Option ρ)->Option ρ) (λs c=>c s) (λu _ ih s c=>u.adK k s λs=>ih s c) us
def LO (P:Program)(E:Env)(nt k:Nat)(ops:List Oper){ρ:Type}:List Oper->St->List Tr->(St->List Tr->Option ρ)->Option ρ
 | [],s,l,c=>c s l
 |o::rest,s,l,c=>
  let go (s:St) (fp:List Fp):Option ρ:=
   (aop P E o s.heap.length).run s fp λus fp=>auC us λus=>adK k us s λs'=>af7 (l++[⟨fp,us⟩]) λl=>LO P E nt k ops rest s' l c
  let skip (s:St) (fp:List Fp):Option ρ:=adK k (dL o.dst udf) s λs'=>af7 (l++[⟨fp,dL o.dst udf⟩]) λl=>LO P E nt k ops rest s' l c
  match aXA o nt with
  |false=>none
  |true=>
  match o.guard with
  |none=>go s []
  |some (j,want)=>match Ox ops j with
   |none=>none
   |some t=>match s.tmp t with
    |.r (.c (.f (.b x)))=>match x with
     |true=>azG s.tmps t (.r (.c (.f (.b true)))) λts=>match want with|true=>go {s with tmps:=ts} [.t t]|false=>skip {s with tmps:=ts} [.t t]
     |false=>azG s.tmps t (.r (.c (.f (.b false)))) λts=>match want with|true=>skip {s with tmps:=ts} [.t t]|false=>go {s with tmps:=ts} [.t t]
    |.tup []=>skip s [.t t]
    |_=>none
inductive AX where
 |nrm
 |ex (id:Nat)
 |ret
def idx (b:Nat):List Nat->Nat->Option Nat
 | [],_=>none
 |x::l,i=>match z9 x b with
  |true=>some i
  |false=>idx b l (i+1)
def ak7 (H b:Nat)(m:List Nat):Nat×List Nat:=
 match wl H b with
 |true=>match idx b m 0 with
  |some i=>(H+i,m)
  |none=>(H+m.length,m++[b])
 |false=>(b,m)
def gcC (H:Nat)(c:CV)(m:List Nat):CV×List Nat:=
 match c with
 |.ptr b o n=>let x:=ak7 H b m;(.ptr x.1 o n,x.2)
 |.cl f b o n=>let x:=ak7 H b m;(.cl f x.1 o n,x.2)
 |.sl b o l z w=>let x:=ak7 H b m;(.sl x.1 o l z w,x.2)
 |c=>(c,m)
def H2 {α:Type}(g:α->List Nat->α×List Nat):List α->List Nat->List α×List Nat
 | [],m=>([],m)
 |a::l,m=>let x:=g a m;let y:=H2 g l x.2;(x.1::y.1,y.2)
def gcS (H:Nat)(s:Sg)(m:List Nat):Sg×List Nat:=
 match s with
 |.c c=>let x:=gcC H c m;(.c x.1,x.2)
 |s=>(s,m)
def gcR (H:Nat)(r:RV)(m:List Nat):RV×List Nat:=
 match r with
 |.c c=>let x:=gcC H c m;(.c x.1,x.2)
 |.agg cs=>let x:=H2 (gcS H) cs m;(.agg x.1,x.2)
def gcA (H:Nat)(a:AV)(m:List Nat):AV×List Nat:=
 match a with
 |.r r=>let x:=gcR H r m;(.r x.1,x.2)
 |.tup rs=>let x:=H2 (gcR H) rs m;(.tup x.1,x.2)
 |.fn f rs=>let x:=H2 (gcR H) rs m;(.fn f x.1,x.2)
 |.Wl=>(.Wl,m)
def gcB (H:Nat)(b:Option aj)(m:List Nat):Option aj×List Nat:=
 match b with
 |some cs=>let x:=H2 (gcS H) cs m;(some x.1,x.2)
 |none=>(none,m)
def gcN (H:Nat)(heap:List (Option aj)):Nat->Nat->List Nat->List (Option aj)->Option (List (Option aj)×List Nat)
 |0,_,_,_=>none
 |fuel+1,i,m,acc=>match m[i]? with
  |none=>some (acc,m)
  |some b=>let x:=gcB H ((heap[b]?).getD none) m;gcN H heap fuel (i+1) x.2 (acc++[x.1])
def gcO (k:Nat)(d:List Nat)(H:Nat):List (Option aj)->Nat->List Nat->List (Option aj)×List Nat
 | [],_,m=>([],m)
 |b::l,j,m=>match v9 j k&& !d.any (z9 j) with
  |true=>let y:=gcO k d H l (j+1) m;(b::y.1,y.2)
  |false=>let x:=gcB H b m;let y:=gcO k d H l (j+1) x.2;(x.1::y.1,y.2)
def St.gc (k:Nat)(s:St)(H:Nat):Option St:=
 match wl H s.heap.length with
 |false=>none
 |true=>
 let x:=H2 (gcA H) s.tmps []
 let y:=gcO k s.dh H (s.heap.take H) 0 x.2
 match gcN H s.heap 1000 0 y.2 [] with
 |some z=>some {s with tmps:=x.1,heap:=y.1++z.1}
 |none=>none
structure Hd where
 id:Nat
 aEo:List Nat
 nils:List (Nat×List CK)
structure Sm where
 id:Nat
 kk:Nat
 run:∀{ρ:Type},St->(AX->St->Option ρ)->Option ρ
structure Jn where
 hd:Hd
 sm:Sm
structure Hs where
 hd:List Hd
 sm:List Sm
 dh:List Nat
 jn:List Jn
 rk:Option Hd
def Re:Code->Option Nat
 |.region id _ _=>some id
 |.seq a _=>Re a
 |.block _ a=>Re a
 |.loop a=>Re a
 |_=>none
def aIw (c:CV):CV:=
 match c with
 |.sl b o len z own=>match o with
  |.k c=>.sl b (.x c 0 z) len z own
  |o=>.sl b o len z own
 |c=>c
def aEp (g:CV->CV)(s:Sg):Sg:=
 match s with
 |.c v=>.c (g v)
 |s=>s
def mapA (g:CV->CV)(a:AV):AV:=
 match a with
 |.r (.c v)=>.r (.c (g v))
 |a=>a
def aiy (g:CV->CV)(k:Nat)(d:List Nat):List (Option aj)->Nat->List (Option aj)
 | [],_=>[]
 |b::l,j=>(match v9 j k&& !d.any (z9 j) with
  |true=>b
  |false=>b.map λb=>b.map (aEp g))::aiy g k d l (j+1)
def aMQ (b n x:Nat):Nat:=
 match z9 x b with
 |true=>n
 |false=>x
def aMR (b n:Nat)(c:CV):CV:=
 match c with
 |.ptr x o m=>.ptr (aMQ b n x) o m
 |.cl f x o m=>.cl f (aMQ b n x) o m
 |.sl x o l z w=>.sl (aMQ b n x) o l z w
 |c=>c
def aXB (c:CV):CV:=
 match c with
 |.sl b o len z own=>.sl b o (.s len.val) z own
 |c=>c
def a0R (c:CV):CV:=aXB (aIw c)
def aIx (s:Sg):Sg:=
 match s with
 |.c v=>.c (a0R v)
 |s=>s
def aEq (a:AV):AV:=
 match a with
 |.r (.c v)=>.r (.c (a0R v))
 |a=>a
def slC (c:CV)(l:List (Nat×Nat)):List (Nat×Nat):=
 match c with
 |.sl b _ _ z _=>(b,z)::l
 |_=>l
def a2Z (s:Sg)(l:List (Nat×Nat)):List (Nat×Nat):=
 match s with
 |.c v=>slC v l
 |_=>l
def a21 (a:AV)(l:List (Nat×Nat)):List (Nat×Nat):=
 match a with
 |.r (.c v)=>slC v l
 |_=>l
def a23 (b:Option aj)(l:List (Nat×Nat)):List (Nat×Nat):=
 match b with
 |some b=>b.foldr a2Z l
 |none=>l
def sls (s:St):List (Nat×Nat):=s.tmps.foldr a21 (s.heap.foldr a23 [])
def aXC (j:Nat):List (Nat×Nat)->Option Nat
 | []=>none
 |p::l=>match z9 p.1 j with
  |true=>some p.2
  |false=>aXC j l
def aEr (l:List (Nat×Nat))(j:Nat)(b:aj):aj:=
 match aXC j l with
 |some z=>toS (asN z (b.map aIx))
 |none=>b.map aIx
def ak8 (k:Nat)(d:List Nat)(sl:List (Nat×Nat)):List (Option aj)->Nat->List (Option aj)
 | [],_=>[]
 |b::l,j=>(match v9 j k&& !d.any (z9 j) with
  |true=>b
  |false=>b.map λb=>aEr sl j b)::ak8 k d sl l (j+1)
def aQo (k b:Nat)(s:St):St:=
 match s.bY b with
 |some bY=>match v9 b k with
  |true=>{s with tmps:=s.tmps.map (mapA (aMR b s.heap.length)),heap:=aiy (aMR b s.heap.length) k (mark k b s.dh) (s.heap.set b none++[some bY]) 0,dh:=mark k b s.dh}
  |false=>s
 |none=>s
def aIy (k:Nat)(s:St)(p:Nat×List CK):St:=
 match p.2 with
 | []=>match p.1 with
  |0=>{s with tmps:=s.tmps.map (mapA aIw),heap:=aiy aIw k s.dh s.heap 0}
  |1=>{s with tmps:=s.tmps.map aEq,heap:=ak8 k s.dh (sls s) s.heap 0}
  |b+2=>aQo k b s
 |_::_=>match s.tmp p.1 with
  |.r (.c .nils)=>{s with tmps:=s.tmps.set p.1 (.r (.c (.sl s.heap.length (.k 0) (.s 0) p.2.length true))),heap:=s.heap++[some [.a (.s 0) (p.2.map CK.nR)]]}
  |_=>s
def aSr (id:Nat):List Hd->Option Hd
 | []=>none
 |h::l=>match z9 h.id id with
  |true=>some h
  |false=>aSr id l
def aSs (id:Nat):List Sm->Option Sm
 | []=>none
 |h::l=>match z9 h.id id with
  |true=>some h
  |false=>aSs id l
def ap6 (hs:Hs)(a:Code):Option Sm:=
 match Re a with
 |none=>none
 |some id=>aSs id hs.sm
def St.abN (k:Nat)(s:St)(h:Hd):Option St:=((h.nils.foldl (aIy k) {s with tmps:=h.aEo.foldl (λl t=>l.set t Wl) s.tmps}).gc k k)
def St.head (k:Nat)(s:St)(hs:Hs)(body:Code):Option St:=
 match Re body with
 |none=>s.gc k k
 |some id=>match aSr id hs.hd with
  |none=>s.gc k k
  |some h=>s.abN k h
def aSt (id:Nat):List Jn->Option Jn
 | []=>none
 |h::l=>match z9 h.sm.id id with
  |true=>some h
  |false=>aSt id l
def azC (hs:Hs)(b:Code):Option Jn:=
 match hs.jn with
 | []=>none
 |j::l=>match Re b with
  |none=>none
  |some id=>aSt id (j::l)
def LF (hs:Hs):Code->List Code
 |.seq a b=>(match azC hs b with
  |some _=>[b]
  |none=>[])++(LF hs a++LF hs b)
 |.cond _ a b=>LF hs a++LF hs b
 |.block _ a=>LF hs a
 |.loop a=>LF hs a
 |_=>[]
def asT (id:Nat):Code->Option Code
 |.seq a b=>match(match Re b with
   |some i=>z9 i id
   |none=>false) with
  |true=>some b
  |false=>match asT id a with
   |some c=>some c
   |none=>asT id b
 |.cond _ a b=>match asT id a with
  |some c=>some c
  |none=>asT id b
 |.block _ a=>asT id a
 |.loop a=>asT id a
 |_=>none
def ZY (id:Nat):Code->Option Code
 |.seq a b=>match ZY id a with
  |some c=>some c
  |none=>ZY id b
 |.cond _ a b=>match ZY id a with
  |some c=>some c
  |none=>ZY id b
 |.block _ a=>ZY id a
 |.loop a=>match Re a with
  |some j=>match z9 j id with
   |true=>some a
   |false=>ZY id a
  |none=>ZY id a
 |_=>none
def LD:Code->List Code
 |.seq a b=>LD a++LD b
 |.cond _ a b=>LD a++LD b
 |.block _ a=>LD a
 |.loop a=>a::LD a
 |_=>[]
def ZV (P:Program)(f:FuncId):Code:=((P.funcs[f]?).bind (·.body)).getD .skip
def ZU (P:Program)(f:FuncId)(id:Nat):Code:=(ZY id (ZV P f)).getD .skip
def afV (P:Program)(f:FuncId)(id:Nat):Code:=(asT id (ZV P f)).getD .skip
def tmpsOf (P:Program)(f:FuncId):Nat:=((P.funcs[f]?).map (·.ntmps)).getD 0
def iter {ρ:Type}(hd:St->Option St)(body:St->(AX->St->Option ρ)->Option ρ)(k:AX->St->Option ρ)(n:Nat):St->Option ρ:=
 Nat.rec (λ_=>none) (λ_ ih s=>body s λe s=>match e with
   |.nrm=>match hd s with
    |none=>none
    |some s=>yo s ih
   |e=>k e s) n
def next {ρ:Type}(hd:St->Option St)(c:St->Option ρ)(k:AX->St->Option ρ):AX->St->Option ρ:=λe s=>match e with
 |.nrm=>match hd s with
  |none=>none
  |some s=>yo s c
 |e=>k e s
def HG (P:Program)(E:Env)(hs:Hs)(nt kk:Nat)(lf:Nat){ρ:Type}:Code->St->(AX->St->Option ρ)->Option ρ
 |.skip,s,k=>k .nrm s
 |.region _ ops draw,s,k=>match draw with
  |false=>LO P E nt kk ops.toList ops.toList s [] λs _=>k .nrm s
  |true=>LO P E nt kk ops.toList ops.toList s [] λs l=>match Rc ops.toList 0&&Rb (LN ops.toList []) l 0 with
   |true=>k .nrm s
   |false=>none
 |.seq a b,s,k=>HG P E hs nt kk lf a s λe s=>match e with
  |.nrm=>match azC hs b with
   |none=>HG P E hs nt kk lf b s k
   |some j=>match s.abN kk j.hd with
    |none=>none
    |some s=>yo s λs=>match z9 j.sm.kk kk with
     |true=>j.sm.run s k
     |false=>none
  |e=>k e s
 |.cond (.tmp t) a b,s,k=>match s.tmp t with
  |.r (.c (.f (.b x)))=>match x with
   |true=>HG P E hs nt kk lf a s k
   |false=>HG P E hs nt kk lf b s k
  |_=>none
 |.block id a,s,k=>HG P E hs nt kk lf a s λe s=>match e with
  |.ex j=>match z9 j id with
   |true=>k .nrm s
   |false=>k (.ex j) s
  |e=>k e s
 |.loop a,s,k=>match s.head kk hs a with
  |none=>none
  |some s=>yo s λs=>match ap6 hs a with
   |some σ=>match z9 σ.kk kk with
    |true=>σ.run s k
    |false=>none
   |none=>iter (λt=>t.head kk hs a) (HG P E hs nt kk lf a) k lf s
 |.exit id,s,k=>k (.ex id) s
 |.ret,s,k=>match hs.rk with
  |none=>k .ret s
  |some h=>match s.abN kk h with
   |none=>none
   |some s=>yo s λs=>k .ret s
 |_,_,_=>none
def aSu (P:Program)(s:St):ResultVar->Option RV
 |.tmp t=>match s.tmp t with
  |.r v=>some v
  |_=>none
 |.cell a t=>match s.tmp a with
  |.r (.c (.ptr b o m))=>match adI P t,iz P t,s.bY b,o with
   |some true,some n,some bY,.k c=>match wl n m with
    |true=>(ak1 bY c (.l 1) n).map .agg
    |false=>none
   |some false,some _,some bY,.k c=>match wl 1 m with
    |true=>match ak1 bY c (.l 1) 1 with
     |some [.c v]=>some (.c v)
     |_=>none
    |false=>none
   |_,_,_,_=>none
  |_=>none
def axN (P:Program)(s:St):List ResultVar->Option (List RV)
 | []=>some []
 |r::l=>match aSu P s r,axN P s l with
  |some v,some vs=>some (v::vs)
  |_,_=>none
def one:List RV->AV
 | [v]=>.r v
 |vs=>.tup vs
def aiz (s:List Nat):List (Option aj)->Nat->List Ch
 | [],_=>[]
 |b::l,j=>(match s.any (z9 j) with
  |false=>Ch.my
  |true=>match b with
   |some b=>.set b
   |none=>.kill)::aiz s l (j+1)
def aEs {α:Type}:List (Option α)->Option (List α)
 | []=>some []
 |some a::l=>(aEs l).map (a:: ·)
 |none::_=>none
def fin (P:Program)(fn:Func)(k:Nat)(e:AX)(s:St):Option pe:=
 match e with
 |.ex _=>none
 |_=>match axN P s fn.results.toList with
  |none=>none
  |some vs=>
   let x:=gcA k (one vs) []
   let y:=gcO k s.dh k (s.heap.take k) 0 x.2
   match gcN k s.heap 1000 0 y.2 [] with
   |some z=>match aEs z.1 with
    |some news=>some {val:=x.1,yF:=aiz s.dh y.1 0,news}
    |none=>none
   |none=>none
def start (fn:Func)(args:List AV)(h:List aj)(d:List Nat):St:=
 {tmps:=args++List.replicate (fn.ntmps-args.length) udf,heap:=h.map some,dh:=d}
def den (P:Program)(E:Env)(hs:Hs)(lf:Nat)(f:FuncId)(args:List AV)(h:List aj):Option pe:=
 match P.funcs[f]? with
 |none=>none
 |some fn=>match fn.body with
  |none=>none
  |some c=>match hs.dh.all λb=>v9 b h.length with
   |false=>none
   |true=>yo (start fn args h hs.dh) λs=>HG P E hs fn.ntmps h.length lf c s (fin P fn h.length)
end Go.Ab
