/-
  Parts of the proof: Ab
-/
import Derived.Orders
import Derived.KernelRfl
import Derived.LoopN
open Nat renaming beq→ww,ble→wd,blt→v6
set_option linter.all false
noncomputable section
namespace Go.Ab
set_option linter.defProp false
def aRV:=@Array.getElem?_setIfInBounds_ne
def apD:=@Int.mul_le_mul_of_nonneg_right
def aWF:=@Array.eq_empty_of_size_eq_zero
def apE:=@Array.getD_eq_getD_getElem?
def ac1:=@List.getElem?_append_right
def ayZ:=@Int.tdiv_eq_ediv_of_nonneg
def lX:=@List.getElem?_eq_some_iff
def TO:=@List.getElem?_append_left
def ahM:=@Array.getElem?_eq_getElem
def kE:=@List.getElem?_eq_getElem
def aaN:=@decide_eq_false_iff_not
def aDg:=@List.getElem?_cons_zero
def aJy:=@List.length_eq_zero_iff
def m6:=@Option.map_eq_some_iff
def ar7:=@Array.getElem?_eq_none
def aDh:=@Nat.dvd_of_mod_eq_zero
def oZ:=@Nat.eq_of_beq_eq_true
def IX:=@List.getElem?_eq_none
def EA:=@Nat.le_of_ble_eq_true
def Vh:=@Array.getElem?_toList
def aaO:=@Int.ediv_lt_of_lt_mul
def aw2:=@Int.mul_ediv_add_emod
def aw3:=@Nat.div_lt_iff_lt_mul
def aw4:=@List.mem_iff_getElem?
def aDi:=@Nat.ble_eq_true_of_le
def aJz:=@Array.getElem?_modify
def dJ:=@Int.ofNat_eq_natCast
def vV:=@Nat.mul_le_mul_right
def aDj:=@List.getElem?_zipIdx
def Vi:=@Array.length_toList
def ako:=@beq_eq_false_iff_ne
def pf:=@of_decide_eq_false
def xr:=@Bool.false_eq_true
def KX:=@Bool.true_eq_false
def RW:=@List.getElem?_drop
def Vj:=@Int.emod_lt_of_pos
def aaP:=@Nat.eq_zero_or_pos
def aaQ:=@List.getElem?_take
def aw5:=@List.length_append
def ae9:=@Bool.not_eq_false'
def aDk:=@Nat.lt_of_lt_of_le
def eF:=@of_decide_eq_true
def jY:=@Option.some.injEq
def lY:=@decide_eq_true_eq
def o6:=@Bool.not_eq_true'
def BA:=@List.getElem?_map
def EB:=@Int.emod_eq_of_lt
def afa:=@Nat.lt_trichotomy
def aw6:=@List.append_assoc
def aDl:=@List.getElem?_set
def bN:=@Option.bind_some
def cy:=@Bool.and_eq_true
def KY:=@Option.getD_some
def KZ:=@List.length_cons
def aaR:=@List.any_eq_true
def akp:=@Array.toList_inj
def ar8:=@List.length_drop
def aw7:=@Nat.mod_eq_of_lt
def aw8:=@List.all_eq_true
def aw9:=@Int.ediv_le_self
def dq:=@decide_eq_false
def DA:=@Int.ediv_nonneg
def NJ:=@Option.some.inj
def RX:=@Option.map_some
def aaS:=@Int.emod_nonneg
def afb:=@List.length_map
def akq:=@Bool.or_eq_true
def akr:=@ne_of_beq_false
def ar9:=@Nat.mul_add_mod
def gy:=@decide_eq_true
def IY:=@Int.mul_nonneg
def NK:=@Int.mul_le_mul
def GF:=@Bool.true_and
def qG:=@Prod.mk.injEq
def BB:=@Nat.add_assoc
def DB:=@false_implies
def K0:=@Bool.not_true
def aJA:=@Bool.or_false
def aaT:=@List.mem_cons
def aks:=@Int.mul_assoc
def gW:=@Nat.zero_add
def bZ:=@Nat.le_trans
def km:=@Nat.add_zero
def mM:=@Sum.elim_inr
def o7:=@Nat.lt_or_ge
def qH:=@Sum.elim_inl
def pg:=@Int.le_of_lt
def EC:=@Int.mul_comm
def NL:=@Nat.beq_refl
def NM:=@decide_false
def afc:=@Int.lt_or_le
def NN:=@true_implies
def NO:=@implies_true
def RY:=@Nat.zero_mul
def aaU:=@Nat.mul_comm
def As:=@Int.le_trans
def axa:=@Int.le_total
def aDm:=@Int.zero_add
def asa:=@Nat.succ_mul
def eO:=@Nat.le_refl
def eW:=@Int.le_refl
def p9:=@Nat.add_mul
def PD:=@decide_true
def Uo:=@Nat.one_mul
def afd:=@Int.add_mul
def bH:=@cond_false
def bz:=@cond_true
def PE:=@ge_iff_le
def cM:=@congrArg
def gA:=@if_false
def Aj:=@true_and
def BC:=@and_true
def lT:=@if_true
inductive FV where
 |u
 |b (x:Bool)
 |i (k:IntKind) (n:Int)
 |s (x:ByteArray)
 |q (n:Nat) (g:Nat->Bool)
inductive Sz where
 |l (n:Nat)
 |s (n:Nat)
def Sz.val:Sz->Nat
 |.l n=>n
 |.s n=>n
def Sz.add:Sz->Sz->Sz
 |.l a,.l b=>.l (a+b)
 |a,b=>.s (a.val+b.val)
def Sz.least:Sz->Sz->Sz
 |.l a,.l b=>.l (Nat.min a b)
 |a,b=>.s (Nat.min a.val b.val)
def Sz.mul (a:Sz)(k:Nat):Sz:=
 match ww k 1 with
 |true=>a
 |false=>match a with
  |.l a=>.l (a*k)
  |.s a=>.s (a*k)
inductive cA where
 |k (c:Nat)
 |x (c i z:Nat)
def cA.val:cA->Nat
 |.k c=>c
 |.x c i z=>c+i*z
def cA.add:cA->Nat->cA
 |.k c,d=>.k (c+d)
 |.x c i z,d=>.x (c+d) i z
def cA.plus:cA->cA->cA
 |.k c,.k d=>.k (c+d)
 |.x c i z,.k d=>.x (c+d) i z
 |.k c,.x d i z=>.x (c+d) i z
 |.x c i z,.x d j y=>match ww z y with
  |true=>.x (c+d) (i+j) z
  |false=>.x 0 (c+i*z+(d+j*y)) 1
def cA.idx (o:cA)(j z n:Nat):cA:=
 match o with
 |.k c=>.x c j z
 |.x c i y=>match ww y (n*z) with
  |true=>.x c (i*n+j) z
  |false=>.x 0 (c+i*y+j*z) 1
def cA.aMo (o:cA)(j z:Nat):cA:=
 match o with
 |.k c=>.x c j z
 |.x c i y=>match ww y z with
  |true=>.x c (i+j) z
  |false=>.x 0 (c+i*y+j*z) 1
inductive cP where
 |i (k:IntKind) (g:Nat->Int)
 |b (g:Nat->Bool)
 |s (g:Nat->ByteArray)
 |u
 |q (n:Nat->Nat) (g:Nat->Nat->Bool)
inductive CV where
 |f (v:FV)
 |ptr (b:Nat) (o:cA) (n:Nat)
 |ahN
 |sl (b:Nat) (o:cA) (len:Sz) (esz:Nat) (own:Bool)
 |nils
 |aRW
 |aRX
 |cl (f b:Nat) (o:cA) (n:Nat)
 |fs (n z:Nat) (cols:List cP)
 |fp (l:List FV)
inductive Sg where
 |c (v:CV)
 |a (n:Sz) (cols:List cP)
abbrev af:=List Sg
inductive RV where
 |c (v:CV)
 |agg (b:af)
inductive AV where
 |r (v:RV)
 |tup (vs:List RV)
 |fn (f:Nat) (ac2:List RV)
 |Vk
def Vk:AV:=.Vk
def udf:AV:=.tup []
def cP.at:cP->Nat->FV
 |.i k g,j=>.i k (g j)
 |.b g,j=>.b (g j)
 |.s g,j=>.s (g j)
 |.u,_=>.u
 |.q n g,j=>.q (n j) (g j)
def cP.shift (d:Nat):cP->cP
 |.i k g=>.i k λj=>g (d+j)
 |.b g=>.b λj=>g (d+j)
 |.s g=>.s λj=>g (d+j)
 |.u=>.u
 |.q n g=>.q (λj=>n (d+j)) λj=>g (d+j)
def cP.up (d:Nat):cP->cP
 |.i k g=>.i k λj=>g (j-d)
 |.b g=>.b λj=>g (j-d)
 |.s g=>.s λj=>g (j-d)
 |.u=>.u
 |.q n g=>.q (λj=>n (j-d)) λj=>g (j-d)
def cP.aRY (c:cP)(e:Nat)(v:CV):Option cP:=
 match c,v with
 |.i k g,.f (.i k' x)=>if k=k' then some (.i k λj=>cond (ww j e) x (g j)) else none
 |.b g,.f (.b x)=>some (.b λj=>cond (ww j e) x (g j))
 |.s g,.f (.s x)=>some (.s λj=>cond (ww j e) x (g j))
 |_,_=>none
def cP.mrg (p:Nat->Bool)(c d:cP):Option cP:=
 match c,d with
 |.i k g,.i k' h=>if k=k' then some (.i k λj=>cond (p j) (g j) (h j)) else none
 |.b g,.b h=>some (.b λj=>cond (p j) (g j) (h j))
 |.s g,.s h=>some (.s λj=>cond (p j) (g j) (h j))
 |_,_=>none
def atW (p:Nat->Bool):List cP->List cP->Option (List cP)
 | [],[]=>some []
 |c::cs,d::ds=>match cP.mrg p c d,atW p cs ds with
  |some e,some es=>some (e::es)
  |_,_=>none
 |_,_=>none
def Sg.size:Sg->Nat
 |.c _=>1
 |.a n cols=>n.val*cols.length
def Sg.get:Sg->Nat->CV
 |.c v,j=>match j with
  |0=>v
  |_+1=>.f .u
 |.a _ cols,j=>match cols[j%cols.length]? with
  |some q=>.f (q.at (j/cols.length))
  |none=>.f .u
def af.size:af->Nat
 | []=>0
 |s::l=>s.size+af.size l
def af.get:af->Nat->CV
 | [],_=>.f .u
 |s::l,j=>if j<s.size then s.get j else af.get l (j-s.size)
def af.list (b:af):List CV:=(List.range b.size).map b.get
def CV.fv:CV->FV
 |.f v=>v
 |_=>.u
def RV.bO:RV->af
 |.c v=>[.c v]
 |.agg b=>b
def shC (sh:Bool)(e:Nat)(cols:List cP):List cP:=
 match sh with
 |true=>cols.map (cP.shift e)
 |false=>cols
def aJB (sh:Bool)(cols:List cP)(e nQ:Nat)(cB:Sz)(z:Nat):Option af:=
 match ww nQ 0&&ww (z%cols.length) 0 with
 |true=>some [.a (cB.mul (z/cols.length)) (shC sh e cols)]
 |false=>none
def rowsOf (sh:Bool)(cols:List cP)(e nQ:Nat)(cB:Sz)(z:Nat):Option af:=
 match cB with
 |.l n=>match ww n 1&&wd (nQ+z) cols.length with
  |true=>some (((cols.drop nQ).take z).map λq=>Sg.c (.f (q.at e)))
  |false=>aJB sh cols e nQ (.l n) z
 |.s n=>aJB sh cols e nQ (.s n) z
def Vl:af->Nat->Option af
 | [],m=>match m with
  |0=>some []
  |_+1=>none
 |.c v::r,m=>match m with
  |0=>some []
  |m+1=>(Vl r m).map (.c v:: ·)
 |.a n cols::r,m=>match m with
  |0=>some []
  |m+1=>match n with
   |.s _=>none
   |.l n=>match wd (n*cols.length) (m+1) with
    |true=>(Vl r (m+1-n*cols.length)).map (.a (.l n) cols:: ·)
    |false=>rowsOf false cols 0 0 (.l 1) (m+1)
def nz:Nat->Bool
 |0=>false
 |_+1=>true
def akt:af->Nat->Sz->Nat->Option af
 | [],c,cB,z=>match cB with
  |.l n=>match ww (n*z) 0 with
   |true=>some []
   |false=>none
  |.s _=>none
 |.c v::r,c,cB,z=>match c with
  |0=>match cB with
   |.l n=>Vl (.c v::r) (n*z)
   |.s _=>none
  |c+1=>akt r c cB z
 |.a n cols::r,c,cB,z=>match r with
  | []=>rowsOf (nz (c/cols.length)) cols (c/cols.length) (c%cols.length) cB z
  |_::_=>match n,cB with
   |.l n,.l m=>match wd (n*cols.length) c with
    |true=>akt r (c-n*cols.length) cB z
    |false=>match wd (c+m*z) (n*cols.length) with
     |true=>rowsOf (nz (c/cols.length)) cols (c/cols.length) (c%cols.length) cB z
     |false=>match c with
      |0=>Vl (.a (.l n) cols::r) (m*z)
      |_+1=>none
   |_,_=>none
def elemOf (c i z zc:Nat):Nat:=
 match ww z zc with
 |true=>match c/zc with
  |0=>i
  |q+1=>q+1+i
 |false=>c/zc+i*(z/zc)
def ay0:af->Nat->Nat->Nat->Sz->Nat->Option (Bool×af)
 | [],_,_,_,_,_=>none
 |.c v::r,c,i,z,cB,y=>match c with
  |0=>(akt (.c v::r) (i*z) cB y).map λb=>(true,b)
  |c+1=>ay0 r c i z cB y
 |.a n cols::r,c,i,z,cB,y=>match r with
  | []=>match ww (z%cols.length) 0 with
   |true=>(rowsOf true cols (elemOf c i z cols.length) (c%cols.length) cB y).map λb=>(true,b)
   |false=>none
  |_::_=>match n with
   |.l n=>match wd (n*cols.length) c with
    |true=>ay0 r (c-n*cols.length) i z cB y
    |false=>match ww (z%cols.length) 0 with
     |true=>(rowsOf true cols (elemOf c i z cols.length) (c%cols.length) cB y).map λb=>(wd (c+i*z+cB.val*y) (n*cols.length),b)
     |false=>none
   |.s _=>none
def af.sub (b:af)(o:cA)(cB:Sz)(z:Nat):Option (Bool×af):=
 match o with
 |.k c=>(akt b c cB z).map λb=>(true,b)
 |.x c i y=>ay0 b c i y cB z
def afe:List cP->Nat->Nat->CV->Option (List cP)
 | [],_,_,_=>none
 |c::cs,0,e,v=>(cP.aRY c e v).map (·::cs)
 |c::cs,j+1,e,v=>(afe cs j e v).map (c:: ·)
def Di (zc:Nat):List cP->Nat->Nat->af->Option (List cP)
 |cols,_,_,[]=>some cols
 |cols,e,nQ,.c v::r=>match afe cols nQ e v with
  |some dU=>match ww (nQ+1) zc with
   |true=>Di zc dU (e+1) 0 r
   |false=>Di zc dU e (nQ+1) r
  |none=>none
 |_,_,_,.a _ _::_=>none
def aDn (cols:List cP)(e nQ:Nat)(v:af):Option (List cP):=
 match v with
 | [.a m dU]=>match ww nQ 0&&ww cols.length dU.length with
  |true=>atW (λj=>wd e j&&v6 j (e+m.val)) (dU.map (cP.up e)) cols
  |false=>none
 |v=>Di cols.length cols e nQ v
def iM:af->af->Option af
 |b,[]=>some b
 |.c _::r,.c y::vs=>(iM r vs).map (.c y:: ·)
 |.a (.l n) cols::r,.a (.l m) dU::vs=>match ww n m&&ww cols.length dU.length with
  |true=>(iM r vs).map (.a (.l m) dU:: ·)
  |false=>none
 |_,_=>none
def aJC (n:Sz)(cols:List cP)(v:af):Bool:=
 match n,v with
 |.l n,[.a (.l m) dU]=>ww n m&&ww cols.length dU.length
 |_,_=>false
def aku:af->Nat->af->Option af
 | [],_,v=>match v with
  | []=>some []
  |_::_=>none
 |.c x::r,c,v=>match c with
  |0=>iM (.c x::r) v
  |c+1=>(aku r c v).map (.c x:: ·)
 |.a n cols::r,c,v=>match r with
  | []=>match ww c 0&&aJC n cols v with
   |true=>some v
   |false=>(aDn cols (c/cols.length) (c%cols.length) v).map λcols=>[.a n cols]
  |_::_=>match n with
   |.s _=>none
   |.l n=>match wd (n*cols.length) c with
    |true=>(aku r (c-n*cols.length) v).map (.a (.l n) cols:: ·)
    |false=>match ww c 0&&aJC (.l n) cols v with
     |true=>some (v++r)
     |false=>match wd (c+af.size v) (n*cols.length) with
      |true=>(aDn cols (c/cols.length) (c%cols.length) v).map λcols=>.a (.l n) cols::r
      |false=>match c with
       |0=>iM (.a (.l n) cols::r) v
       |_+1=>none
def ay1:af->Nat->Nat->Nat->af->Option (Bool×af)
 | [],_,_,_,_=>none
 |.c x::r,c,i,z,v=>match c with
  |0=>(aku (.c x::r) (i*z) v).map λb=>(true,b)
  |c+1=>(ay1 r c i z v).map λp=>(p.1,.c x::p.2)
 |.a n cols::r,c,i,z,v=>match r with
  | []=>match ww (z%cols.length) 0 with
   |true=>(aDn cols (elemOf c i z cols.length) (c%cols.length) v).map λcols=>(true,[.a n cols])
   |false=>none
  |_::_=>match n with
   |.l n=>match wd (n*cols.length) c with
    |true=>(ay1 r (c-n*cols.length) i z v).map λp=>(p.1,.a (.l n) cols::p.2)
    |false=>match ww (z%cols.length) 0 with
     |true=>(aDn cols (elemOf c i z cols.length) (c%cols.length) v).map λcols=>(wd (c+i*z+af.size v) (n*cols.length),.a (.l n) cols::r)
     |false=>none
   |.s _=>none
def af.Ai (b:af)(o:cA)(v:af):Option (Bool×af):=
 match o with
 |.k c=>(aku b c v).map λb=>(true,b)
 |.x c i z=>ay1 b c i z v
def Vm:af->Bool
 | []=>true
 |.c _::r=>Vm r
 |.a _ _::_=>false
def aJD:FV->Option cP
 |.i k x=>some (.i k λ_=>x)
 |.b x=>some (.b λ_=>x)
 |.s x=>some (.s λ_=>x)
 |.u=>none
 |.q _ _=>none
def DU:Nat->af->Option (List cP)
 |0,_=>some []
 |z+1,.c (.f v)::r=>match aJD v,DU z r with
  |some c,some cs=>some (c::cs)
  |_,_=>none
 |_+1,_=>none
def rowOf (z:Nat)(b:af):Option af:=
 match Vm b&&(wd 1 z&&ww (b.length%z) 0) with
 |true=>match DU z b with
  |some cols=>(Di z cols 0 0 b).map λcols=>[.a (.l (b.length/z)) cols]
  |none=>none
 |false=>none
def aff (cols:List cP):List Nat->af
 | []=>[]
 |j::l=>.c (match cols[j%cols.length]? with
  |some q=>.f (q.at (j/cols.length))
  |none=>.f .u)::aff cols l
def tF:af->af
 | []=>[]
 |.c v::r=>.c v::tF r
 |.a n cols::r=>match n with
  |.l n=>aff cols (List.range (n*cols.length))++tF r
  |.s n=>.a (.s n) cols::tF r
def aMp (n:Sz)(cols:List cP)(b:af):Option af:=
 match Vm b&&(wd 1 cols.length&&ww (b.length%cols.length) 0) with
 |true=>(Di cols.length cols n.val 0 b).map λcs=>[.a (n.add (.l (b.length/cols.length))) cs]
 |false=>none
def aRZ (n:Sz)(cols:List cP)(b:af):Option af:=
 match b with
 | [.a m dU]=>match ww cols.length dU.length&&wd 1 cols.length with
  |true=>(atW (λj=>v6 j n.val) cols (dU.map (cP.up n.val))).map λcols=>[.a (n.add m) cols]
  |false=>aMp n cols (tF b)
 |b=>aMp n cols (tF b)
def aR0:af->Bool
 | []=>true
 |.c _::r=>aR0 r
 |.a (.l _) _::r=>aR0 r
 |.a (.s _) _::_=>false
def af.app (a b:af):Option af:=
 match a,b with
 | [],b=>some b
 |a,[]=>some a
 | [.a n cols],b=>aRZ n cols b
 |a,[.a m dU]=>match rowOf dU.length (tF a) with
  |some [.a n cols]=>aRZ n cols [.a m dU]
  |_=>none
 |a,b=>match aR0 a&&aR0 b with
  |true=>some (a++b)
  |false=>none
def asb (z:Nat)(b:af):af:=
 match b with
 | []=>[]
 | [.a n cols]=>match ww cols.length z with
  |true=>[.a n cols]
  |false=>match rowOf z (tF [.a n cols]) with
   |some b=>b
   |none=>[.a n cols]
 |b=>match rowOf z (tF b) with
  |some r=>r
  |none=>b
structure St where
 tmps:List AV
 heap:List (Option af)
 dt:List Nat
def St.bO (s:St)(b:Nat):Option af:=(s.heap[b]?).getD none
def akv (l:List AV):Nat->AV:=List.rec (motive:=λ_=>Nat->AV) (λ_=>udf) (λa _ ih i=>Nat.rec (motive:=λ_=>AV) a (λm _=>ih m) i) l
def St.tmp (s:St)(i:Nat):AV:=akv s.tmps i
def ay2 {α ρ:Type}(l:List α):Nat->α->(List α->Option ρ)->Option ρ:=
 List.rec (motive:=λ_=>Nat->α->(List α->Option ρ)->Option ρ) (λ_ _ _=>none)
  (λa l ih i v k=>Nat.rec (motive:=λ_=>Option ρ) (k (v::l)) (λm _=>ih m v λl'=>k (a::l')) i) l
inductive Fp where
 |t (i:Nat)
 |c (b:Nat) (r:Option (Nat×Nat))
 |z (b:Nat)
inductive Up where
 |t (i:Nat) (v:AV)
 |c (b:Nat) (o:cA) (v:af)
 |new (b:Nat) (bO:af)
 |kill (b:Nat)
def ext (o:cA)(cB:Sz)(z:Nat):Option (Nat×Nat):=
 match o,cB with
 |.k c,.l n=>some (c,n*z)
 |_,_=>none
def szL:af->Option Nat
 | []=>some 0
 |.c _::r=>(szL r).map (1+ ·)
 |.a (.l n) cols::r=>(szL r).map (n*cols.length+ ·)
 |.a (.s _) _::_=>none
def aMq (o:cA)(v:af):Option (Nat×Nat):=
 match o with
 |.k c=>(szL v).map λn=>(c,n)
 |_=>none
inductive Rd (α:Type):Type 1 where
 |ret (a:α)
 |fail
 |tm (i:Nat) (k:AV->Rd α)
 |vw (b:Nat) (o:cA) (cB:Sz) (z:Nat) (k:af->Rd α)
 |sz (b:Nat) (k:Rd α)
 |test (x:Bool) (k:Bool->Rd α)
 |opt {D:Type} (x:Option D) (k:D->Rd α)
def Rd.bind {α β:Type}:Rd α->(α->Rd β)->Rd β
 |.ret a,f=>f a
 |.fail,_=>.fail
 |.tm i k,f=>.tm i λv=>(k v).bind f
 |.vw b o cB z k,f=>.vw b o cB z λv=>(k v).bind f
 |.sz b k,f=>.sz b (k.bind f)
 |.test x k,f=>.test x λv=>(k v).bind f
 |.opt x k,f=>.opt x λv=>(k v).bind f
def ej {α:Type}:Option α->Rd α
 |some a=>.ret a
 |none=>.fail
def cI (x:Bool):Rd Unit:=.test x λ|true=>.ret ()|false=>.fail
def Rd.run {α ρ:Type}:Rd α->St->List Fp->(α->List Fp->Option ρ)->Option ρ
 |.ret a,_,l,k=>k a l
 |.fail,_,_,_=>none
 |.tm i m,s,l,k=>(m (s.tmp i)).run s (.t i::l) k
 |.vw b o cB z m,s,l,k=>
  match s.bO b with
  |some bO=>match bO.sub o cB z with
   |some p=>match p.1 with
    |true=>(m p.2).run s (.z b:: .c b (ext o cB z)::l) k
    |false=>none
   |none=>none
  |none=>none
 |.sz b m,s,l,k=>
  match s.bO b with
  |some _=>m.run s (.z b::l) k
  |none=>none
 |.test x m,s,l,k=>
  match x with
  |true=>(m true).run s l k
  |false=>(m false).run s l k
 |.opt x m,s,l,k=>
  match x with
  |some d=>(m d).run s l k
  |none=>none
def aDo (b:af)(o:cA)(cB:Sz)(z:Nat):Rd af:=
 match b.sub o cB z with
 |some p=>.test p.1 λ|true=>.ret p.2|false=>.fail
 |none=>.fail
def ofC:Value->Option CV
 |.bool b=>some (.f (.b b))
 |.int k n=>some (.f (.i k n))
 |.string s=>some (.f (.s s))
 |.pointer none=>some .ahN
 |.slice none 0 0=>some .nils
 |.nilFunc=>some .aRW
 |.nilIface=>some .aRX
 |_=>none
def aHC:List Value->Option af
 | []=>some []
 |v::vs=>match ofC v,aHC vs with
  |some c,some cs=>some (.c c::cs)
  |_,_=>none
def ofR:Value->Option RV
 |.agg cs=>(aHC cs.toList).map .agg
 |v=>(ofC v).map .c
def DD:Operand->Rd AV
 |.tmp t=>.tm t .ret
 |.const v=>(ej (ofR v)).bind λr=>.ret (.r r)
 |.func f=>.ret (.fn f [])
 |.global _=>.fail
def asR:AV->Rd RV
 |.r v=>.ret v
 |_=>.fail
def asC:AV->Rd CV
 |.r (.c v)=>.ret v
 |_=>.fail
def asI:AV->Rd (IntKind×Int)
 |.r (.c (.f (.i k n)))=>.ret (k,n)
 |_=>.fail
def asB:AV->Rd Bool
 |.r (.c (.f (.b x)))=>.ret x
 |_=>.fail
def asP:AV->Rd (Nat×cA×Nat)
 |.r (.c (.ptr b o n))=>.ret (b,o,n)
 |_=>.fail
def vX (x:Operand):Rd RV:=(DD x).bind asR
def asS:AV->Rd RV
 |.r v=>.ret v
 |.fn f [.c (.ptr b o n)]=>.ret (.c (.cl f b o n))
 |_=>.fail
def aMr (x:Operand):Rd RV:=(DD x).bind asS
def Gi (x:Operand):Rd CV:=(DD x).bind asC
def Kf (x:Operand):Rd (IntKind×Int):=(DD x).bind asI
def aHD (x:Operand):Rd Bool:=(DD x).bind asB
def aMs (x:Operand):Rd (Nat×cA×Nat):=(DD x).bind asP
def tG {α β:Type}(f:α->Rd β):List α->Rd (List β)
 | []=>.ret []
 |a::l=>(f a).bind λb=>(tG f l).bind λbs=>.ret (b::bs)
def ac3 (P:Program)(t:TypeId):Option Bool:=
 match P.underlying t with
 |some (.struct _)|some (.array _ _)=>some true
 |some _=>some false
 |none=>none
def iO (P:Program)(t:TypeId):Option Nat:=(P.info? t).map (·.size)
def afg (P:Program)(t:TypeId)(i:Nat):Option Field:=
 match P.underlying t with
 |some (.struct fs)=>fs[i]?
 |_=>none
def aR1 (P:Program)(n:Nat)(e:TypeId):Bool:=
 wd 9 n||match P.underlying e with
 |some (.int .u64)=>wd 8 n
 |some (.struct _)=>wd 4 n
 |_=>false
inductive Tm where
 |c
 |a (n z:Nat)
def aR2 {α:Type}:Nat->List α->List α
 |0,_=>[]
 |n+1,l=>l++aR2 n l
def akw (P:Program):Nat->TypeId->List Tm
 |0,_=>[]
 |d+1,t=>match P.underlying t with
  |some (.struct fs)=>(fs.toList.map λf=>akw P d f.type).flatten
  |some (.array n e)=>match aR1 P n e with
   |true=>match akw P d e with
    | [.a m z]=>[.a (n*m) z]
    |_=>[.a n ((iO P e).getD 0)]
   |false=>aR2 n (akw P d e)
  |_=>[.c]
def FV.same:FV->FV->Bool
 |.b x,.b y=>x==y
 |.i k x,.i k' y=>decide (k=k')&&x==y
 |_,_=>false
def Vn (z:Nat)(row:af):Nat->af->Option af
 |0,b=>some b
 |m+1,.c (.f v)::r=>match row[(m%z)]? with
  |some (.c (.f y))=>match v.same y with
   |true=>Vn z row m r
   |false=>none
  |_=>none
 |_+1,_=>none
def aaV:List Tm->af->Option af
 | [],[]=>some []
 |.c::tm,.c v::r=>(aaV tm r).map (.c v:: ·)
 |.a n z::tm,b=>match DU z b with
  |some cols=>match wd 1 z with
   |true=>match Vn z ((b.take z).reverse) (n*z) b with
    |some r=>(aaV tm r).map (.a (.l n) cols:: ·)
    |none=>none
   |false=>none
  |none=>none
 |_,_=>none
def At (P:Program)(t:TypeId):Option RV:=
 match((P.info? t).bind (·.zero)).bind ofR with
 |some (.agg b)=>(aaV (akw P 30 t) b).map .agg
 |r=>r
def FV.isB:FV->Bool
 |.b _=>true
 |_=>false
def FV.toB:FV->Bool
 |.b x=>x
 |_=>false
def FV.isI (k:IntKind):FV->Bool
 |.i k' _=>decide (k'=k)
 |_=>false
def FV.toI:FV->Int
 |.i _ n=>n
 |_=>0
def FV.isS:FV->Bool
 |.s _=>true
 |_=>false
def FV.toS:FV->ByteArray
 |.s x=>x
 |_=>.empty
def aHE (P:Program)(t:TypeId)(c:CV):Rd CV:=
 match P.underlying t,c with
 |some .bool,.f x=>.test x.isB λ|true=>.ret (.f (.b x.toB))|false=>.fail
 |some (.int k),.f x=>.test (x.isI k) λ|true=>.ret (.f (.i k x.toI))|false=>.fail
 |some .string,.f x=>.test x.isS λ|true=>.ret (.f (.s x.toS))|false=>.fail
 |some (.slice _),.f (.q n g)=>.ret (.fs n 1 [.b g])
 |_,c=>.ret c
def afh:List Tm->af->Option af
 | [],[]=>some []
 |.c::tm,.c v::r=>(afh tm r).map (.c v:: ·)
 |.a n z::tm,b=>match wd (n*z) b.length with
  |true=>match rowOf z (b.take (n*z)) with
   |some row=>(afh tm (b.drop (n*z))).map (row++ ·)
   |none=>none
  |false=>none
 |_,_=>none
def norm (P:Program)(t:TypeId)(l:af):af:=
 match Vm l&&wd 8 l.length with
 |true=>match afh (akw P 30 t) l with
  |some r=>r
  |none=>l
 |false=>match Vm l with
  |true=>l
  |false=>match(akw P 30 t).all (λ|.c=>true|.a _ _=>false) with
   |true=>tF l
   |false=>l
def apF (P:Program)(t:TypeId)(v:RV):Rd RV:=
 match v with
 |.c c=>(aHE P t c).bind λc=>.ret (.c c)
 |.agg l=>.ret (.agg (norm P t l))
def asc:af->Rd RV
 | [.c v]=>.ret (.c v)
 |_=>.fail
def Y' (P:Program)(t:TypeId)(b:Nat)(o:cA)(m:Nat):Rd RV:=
 (ej (ac3 P t)).bind λa=>(ej (iO P t)).bind λn=>
  match a with
  |true=>(cI (wd n m)).bind λ_=>.vw b o (.l 1) n λl=>.ret (.agg l)
  |false=>(cI (wd 1 m)).bind λ_=>.vw b o (.l 1) 1 asc
def valueOf (P:Program)(t:TypeId)(b:Nat)(o:cA)(m:Nat):Rd RV:=(Y' P t b o m).bind (apF P t)
def aJE (P:Program)(t:TypeId)(cs:af)(o:cA):Rd RV:=
 (ej (ac3 P t)).bind λa=>(ej (iO P t)).bind λn=>
  match a with
  |true=>(aDo cs o (.l 1) n).bind λl=>.ret (.agg l)
  |false=>(aDo cs o (.l 1) 1).bind asc
def partOf (P:Program)(t:TypeId)(cs:af)(o:cA):Rd RV:=(aJE P t cs o).bind (apF P t)
def NP (P:Program)(t:TypeId)(cs:af)(c:Nat):Rd RV:=
 (ej (iO P t)).bind λn=>(cI (wd 1 n&&wd (c+n) (af.size cs))).bind λ_=>partOf P t cs (.k c)
def asd (op:BinOp)(k:IntKind)(x y:Int):Option Int:=
 let a:=BitVec.ofInt k.bits x
 let b:=BitVec.ofInt k.bits y
 match op with
 |.and=>some (k.wrap (a&&&b).toNat)
 |.or=>some (k.wrap (a|||b).toNat)
 |.xor=>some (k.wrap (a^^^b).toNat)
 |.andNot=>some (k.wrap (a&&& ~~~b).toNat)
 |_=>none
def aWG (op:BinOp)(k:IntKind)(x y:Int):Rd FV:=
 match op with
 |.add=>.ret (.i k (k.wrap (x+y)))
 |.sub=>.ret (.i k (k.wrap (x-y)))
 |.mul=>.ret (.i k (k.wrap (x*y)))
 |.quo=>(cI (!decide (y=0))).bind λ_=>.ret (.i k (k.wrap (x.tdiv y)))
 |.rem=>(cI (!decide (y=0))).bind λ_=>.ret (.i k (x.tmod y))
 |.eql=>.ret (.b (x==y))
 |.neq=>.ret (.b (x !=y))
 |.lss=>.ret (.b (decide (x<y)))
 |.leq=>.ret (.b (decide (x<=y)))
 |.gtr=>.ret (.b (decide (x>y)))
 |.geq=>.ret (.b (decide (x>=y)))
 |.shl|.shr=>.fail
 |op=>(ej (asd op k x y)).bind λn=>.ret (.i k n)
def aR3 (op:BinOp)(k:IntKind)(x y:Int):Rd FV:=
 (cI (!decide (y<0))).bind λ_=>
  match op with
  |.shl=>.ret (.i k (k.wrap (x*2^(min y.toNat k.bits))))
  |.shr=>.ret (.i k (x.fdiv (2^(min y.toNat k.bits))))
  |_=>.fail
def aR4 (n:Nat)(p:Nat->Bool):Bool:=(List.range n).all p
def aDp (n:Nat):List cP->List cP->Option Bool
 | [.i k g],[.i k' h]=>if k=k' then some (aR4 n λj=>g j==h j) else none
 | [.b g],[.b h]=>some (aR4 n λj=>g j==h j)
 |_,_=>none
def ac4 (P:Program)(e:TypeId)(c:List cP):Bool:=
 match P.underlying e,c with
 |some .bool,[.b _]=>true
 |some (.int _),[.i _ _]=>true
 |_,_=>false
def aMt (P:Program)(ahO:TypeId->RV->RV->Rd Bool)(xs ys:af):List Field->Rd Bool
 | []=>.ret true
 |f::fs=>if f.name≠"_" then
   (NP P f.type xs f.offset).bind λa=>(NP P f.type ys f.offset).bind λb=>(ahO f.type a b).bind λr=>(aMt P ahO xs ys fs).bind λs=>.ret (r&&s)
  else aMt P ahO xs ys fs
def aWH (P:Program)(ahO:TypeId->RV->RV->Rd Bool)(e:TypeId)(z:Nat)(xs ys:af):List Nat->Rd Bool
 | []=>.ret true
 |i::l=>(NP P e xs (i*z)).bind λa=>(NP P e ys (i*z)).bind λb=>(ahO e a b).bind λr=>(aWH P ahO e z xs ys l).bind λs=>.ret (r&&s)
def aWI (P:Program)(d n z:Nat)(e:TypeId)(xs ys:af):Option Bool:=
 match xs,ys with
 | [.a (.l m) c],[.a (.l m') c']=>match wd 1 d&&(ww z 1&&(ww m n&&(ww m' n&&ac4 P e c))) with
  |true=>aDp n c c'
  |false=>none
 |_,_=>none
def eqT (P:Program):Nat->TypeId->RV->RV->Rd Bool
 |0,_,_,_=>.fail
 |d+1,t,x,y=>match P.underlying t,x,y with
  |some .bool,.c (.f (.b a)),.c (.f (.b b))=>.ret (a==b)
  |some (.int _),.c (.f (.i k a)),.c (.f (.i k' b))=>if k=k' then .ret (a==b) else .fail
  |some .string,.c (.f (.s a)),.c (.f (.s b))=>.ret (a==b)
  |some (.pointer _),.c .ahN,.c .ahN=>.ret true
  |some (.pointer _),.c (.ptr _ _ _),.c .ahN|some (.pointer _),.c .ahN,.c (.ptr _ _ _)=>.ret false
  |some (.struct fs),.agg xs,.agg ys=>match P.stoodInHeld t with
   |true=>.fail
   |false=>aMt P (eqT P d) xs ys fs.toList
  |some (.array n e),.agg xs,.agg ys=>(ej (iO P e)).bind λz=>match aWI P d n z e xs ys with
   |some r=>.ret r
   |none=>aWH P (eqT P d) e z xs ys (List.range n)
  |_,_,_=>.fail
def eqV (P:Program)(t:TypeId)(x y:RV):Rd Bool:=
 match x,y with
 |.agg _,.agg _=>match P.eqGuardType P.depth t with
  |true=>.fail
  |false=>eqT P 30 t x y
 |.c (.f (.i _ _)),_|.c (.f (.s _)),_|.c (.f .u),_|.c (.f (.q _ _)),_=>.fail
 |_,_=>eqT P 30 t x y
def aWJ (P:Program)(op:BinOp)(t:TypeId)(x y:RV):Rd RV:=
 match x,y with
 |.c (.f (.i k a)),.c (.f (.i k' b))=>
  match op with
  |.shl|.shr=>(aR3 op k a b).bind λv=>.ret (.c (.f v))
  |op=>if k=k' then(aWG op k a b).bind λv=>.ret (.c (.f v)) else .fail
 |x,y=>
  match op with
  |.eql=>(eqV P t x y).bind λr=>.ret (.c (.f (.b r)))
  |.neq=>(eqV P t x y).bind λr=>.ret (.c (.f (.b (!r))))
  |_=>.fail
def unV (op:UnOp)(x:RV):Rd RV:=
 match op,x with
 |.neg,.c (.f (.i k n))=>.ret (.c (.f (.i k (k.wrap (0-n)))))
 |.xor,.c (.f (.i k n))=>(ej (asd .xor k (if k.signed then -1 else k.max) n)).bind λr=>.ret (.c (.f (.i k r)))
 |.not,.c (.f (.b x))=>.ret (.c (.f (.b (!x))))
 |_,_=>.fail
def aQm (P:Program)(src dst:TypeId)(x:RV):Rd RV:=
 match P.underlying src,P.underlying dst,x with
 |some _,some (.int k),.c (.f (.i _ n))=>.ret (.c (.f (.i k (k.wrap n))))
 |_,_,_=>.fail
def bg (i:Int)(n:Nat):Bool:=decide (0<=i)&&decide (i<(n:Int))
def Kg (i:Int)(n:Nat):Bool:=decide (0<=i)&&decide (i<=(n:Int))
def apG (i:Int):Nat->Rd Nat
 |0=>.ret 0
 |n+1=>.test (i==((n+1:Nat):Int)) λ|true=>.ret (n+1)|false=>apG i n
def sel (P:Program)(o:cA)(i:Int)(n:Nat)(e:TypeId)(z:Nat):Rd cA:=
 match aR1 P n e with
 |true=>.ret (o.idx i.toNat z n)
 |false=>match wd n 8 with
  |true=>(apG i (n-1)).bind λj=>.ret (o.add (j*z))
  |false=>.ret (o.idx i.toNat z n)
def aMu (P:Program)(o:cA)(i:Int)(len:Sz)(e:TypeId)(z:Nat):Rd cA:=
 match len with
 |.l n=>match !aR1 P n e&&wd n 8 with
  |true=>(apG i (n-1)).bind λj=>.ret (o.add (j*z))
  |false=>.ret (o.aMo i.toNat z)
 |.s _=>.ret (o.aMo i.toNat z)
def aDq (l:List FV):af:=l.map λv=>.c (.f v)
def aDr (P:Program)(t:TypeId)(l:List FV):Rd RV:=
 (ej (ac3 P t)).bind λa=>(ej (iO P t)).bind λn=>
  match a with
  |true=>(cI (ww n l.length)).bind λ_=>apF P t (.agg (aDq l))
  |false=>match l with
   |v::_=>apF P t (.c (.f v))
   | []=>.fail
def axb (P:Program)(t:TypeId)(x:CV)(i:Nat):Rd CV:=
 match x with
 |.fp l=>(ej (afg P t i)).bind λf=>(ej (iO P f.type)).bind λn=>
  (cI (wd 1 n&&wd (f.offset+n) l.length)).bind λ_=>.ret (.fp ((l.drop f.offset).take n))
 |.ptr b o m=>(ej (afg P t i)).bind λf=>(ej (iO P f.type)).bind λn=>
  (cI (wd 1 n&&wd (f.offset+n) m)).bind λ_=>.ret (.ptr b (o.add f.offset) n)
 |_=>.fail
def DV (b:ByteArray)(n:Nat):Int:=match b[n]? with
 |some x=>Int.ofNat x.toNat
 |none=>0
def axc (P:Program)(t:TypeId)(x:CV)(i:Int):Rd CV:=
 match P.underlying t,x with
 |some (.array n e),.ptr b o m=>(ej (iO P e)).bind λz=>(cI (wd (n*z) m)).bind λ_=>
  (cI (bg i n)).bind λ_=>(sel P o i n e z).bind λo=>.ret (.ptr b o z)
 |some (.slice e),.sl b o len z' _=>(ej (iO P e)).bind λz=>(cI (ww z z')).bind λ_=>
  (cI (bg i len.val)).bind λ_=>(aMu P o i len e z).bind λo=>.ret (.ptr b o z)
 |some (.slice e),.fs n z' cols=>(ej (iO P e)).bind λz=>(cI (ww z z')).bind λ_=>
  (cI (bg i n)).bind λ_=>.ret (.fp (cols.map λq=>q.at i.toNat))
 |some (.array n e),.fp l=>(ej (iO P e)).bind λz=>(cI (wd (n*z) l.length&&wd n 8)).bind λ_=>
  (cI (bg i n)).bind λ_=>(apG i (n-1)).bind λj=>.ret (.fp ((l.drop (j*z)).take z))
 |_,_=>.fail
def ay3 (x:Option Operand):Rd (Option Int):=
 match x with
 |none=>.ret none
 |some x=>(Kf x).bind λi=>.ret (some i.2)
def TQ (lo hi:Option Int)(n:Nat):Rd (Nat×Nat):=
 (match hi with
  |none=>Rd.ret n
  |some h=>(cI (Kg h n)).bind λ_=>.ret h.toNat).bind λh=>
 (match lo with
  |none=>Rd.ret 0
  |some l=>(cI (Kg l h)).bind λ_=>.ret l.toNat).bind λl=>.ret (l,h)
def szQ (q:Bool)(n:Nat):Sz:=
 match q with
 |true=>.l n
 |false=>.s n
def uU (x:Option Operand):Bool:=
 match x with
 |none=>true
 |some (.const _)=>true
 |_=>false
def apH (q:Bool)(n:Sz):Bool:=
 match n with
 |.l _=>q
 |.s _=>false
def lenOf (q:Bool)(lo hi:Option Int)(n:Sz)(lh:Nat×Nat):Sz:=
 match lo,hi with
 |none,none=>n
 |none,some _=>szQ q lh.2
 |some _,_=>szQ q (lh.2-lh.1)
def afi (q:Bool)(lo:Option Int)(o:cA)(l z:Nat):cA:=
 match lo with
 |none=>o
 |some _=>match q with
  |true=>o.add (l*z)
  |false=>o.aMo l z
def atX (lo:Option Int)(l:Nat)(cols:List cP):List cP:=
 match lo with
 |none=>cols
 |some _=>cols.map (cP.shift l)
def aJF (P:Program)(t:TypeId)(x:CV)(q:Bool)(lo hi:Option Int):Rd CV:=
 match P.underlying t,x with
 |some (.array n e),.ptr b o m=>(ej (iO P e)).bind λz=>(cI (wd (n*z) m)).bind λ_=>
  (TQ lo hi n).bind λlh=>.ret (.sl b (afi q lo o lh.1 z) (lenOf q lo hi (.l n) lh) z false)
 |some (.slice e),.sl b o len z own=>(ej (iO P e)).bind λz'=>(cI (ww z z')).bind λ_=>
  (TQ lo hi len.val).bind λlh=>.ret (.sl b (afi (apH q len) lo o lh.1 z) (lenOf (apH q len) lo hi len lh) z (own&&hi.isNone))
 |some (.slice e),.nils=>(ej (iO P e)).bind λ_=>(TQ lo hi 0).bind λ_=>.ret .nils
 |some (.slice e),.fs n z cols=>(ej (iO P e)).bind λz'=>(cI (ww z z')).bind λ_=>
  (TQ lo hi n).bind λlh=>.ret (.fs (lenOf false lo hi (.s n) lh).val z (atX lo lh.1 cols))
 |_,_=>.fail
def placesOf (P:Program)(t:TypeId):Option (Nat->Option (Nat×Nat)):=
 match P.underlying t with
 |some (.struct fs)=>(fs.toList.mapM λf=>(P.info? f.type).map λi=>(f.offset,i.size)).map λl i=>l[i]?
 |some (.array _ e)=>(iO P e).map λn i=>some (i*n,n)
 |_=>none
def akx (pl:Nat->Option (Nat×Nat)):af->List (Nat×RV)->Option af
 |cs,[]=>some cs
 |cs,(i,v)::rest=>match pl i with
  |none=>none
  |some (o,n)=>match ww (af.size v.bO) n&&wd (o+n) (af.size cs) with
   |true=>match aku cs o v.bO with
    |some RZ=>akx pl RZ rest
    |none=>none
   |false=>none
def rep:Nat->af->af
 |0,_=>[]
 |n+1,l=>l++rep n l
inductive Ch where
 |mT
 |set (b:af)
 |kill
structure o9 where
 val:AV
 ya:List Ch
 news:List af
inductive T:Type 1 where
 |leaf (r:o9)
 |fail
 |test (x:Bool) (a b:T)
 |opt {D:Type} (x:Option D) (k:D->T)
def T.eval:T->Option o9
 |.leaf r=>some r
 |.fail=>none
 |.test x a b=>match x with
  |true=>a.eval
  |false=>b.eval
 |.opt x k=>match x with
  |some d=>(k d).eval
  |none=>none
def T.rd:T->Rd o9
 |.leaf r=>.ret r
 |.fail=>.fail
 |.test x a b=>.test x λ|true=>a.rd|false=>b.rd
 |.opt x k=>.opt x λd=>(k d).rd
abbrev Ey:=List AV->List af->T
abbrev Env:=Nat->Option Ey
structure Vw where
 b:Nat
 o:cA
 cB:Sz
 z:Nat
 sl:Bool
 own:Bool
def Vw.n (v:Vw):Nat:=v.cB.val*v.z
def aaW (b:Nat)(e:Option (Nat×Nat)):List Vw->Nat->Option (Nat×Nat×Bool)
 | [],_=>none
 |v::vs,i=>match ww v.b b with
  |false=>aaW b e vs (i+1)
  |true=>match e,ext v.o v.cB v.z with
   |some (o,n),some (o',n')=>match wd o' o&&wd (o+n) (o'+n') with
    |true=>some (i,o-o',v.own)
    |false=>aaW b e vs (i+1)
   |_,_=>aaW b e vs (i+1)
def atY (b:Nat)(e:Option (Nat×Nat))(vs:List Vw):Bool:=
 vs.all λv=> !Nat.beq v.b b||match e,ext v.o v.cB v.z with
  |some (o,n),some (o',n')=>wd (o+n) o'||wd (o'+n') o
  |_,_=>false
def aR5 (c:CV)(vs:List Vw):Rd (CV×List Vw):=
 match c with
 |.ptr b o n=>match aaW b (ext o (.l 1) n) vs 0 with
  |some (i,d,_)=>.ret (.ptr i (.k d) n,vs)
  |none=>(cI (atY b (ext o (.l 1) n) vs)).bind λ_=>.ret (.ptr vs.length (.k 0) n,vs++[⟨b,o,.l 1,n,false,false⟩])
 |.cl f b o n=>match aaW b (ext o (.l 1) n) vs 0 with
  |some (i,d,_)=>.ret (.cl f i (.k d) n,vs)
  |none=>(cI (atY b (ext o (.l 1) n) vs)).bind λ_=>.ret (.cl f vs.length (.k 0) n,vs++[⟨b,o,.l 1,n,false,false⟩])
 |.sl b o len z own=>match aaW b (ext o len z) vs 0 with
  |some (i,d,ow)=>.ret (.sl i (.k d) (.s len.val) z (own&&ow),vs)
  |none=>(cI (atY b (ext o len z) vs)).bind λ_=>
   .ret (.sl vs.length (.k 0) (.s len.val) z (own&&vs.all λv=> !Nat.beq v.b b|| !v.own),vs++[⟨b,o,len,z,true,own&&vs.all λv=> !Nat.beq v.b b|| !v.own⟩])
 |c=>.ret (c,vs)
def aMv:af->List Vw->Rd (af×List Vw)
 | [],vs=>.ret ([],vs)
 |.c c::cs,vs=>(aR5 c vs).bind λx=>(aMv cs x.2).bind λy=>.ret (.c x.1::y.1,y.2)
 |.a n cols::cs,vs=>(aMv cs vs).bind λy=>.ret (.a n cols::y.1,y.2)
def aR6 (r:RV)(vs:List Vw):Rd (RV×List Vw):=
 match r with
 |.c c=>(aR5 c vs).bind λx=>.ret (.c x.1,x.2)
 |.agg cs=>(aMv cs vs).bind λx=>.ret (.agg x.1,x.2)
def aDs:List RV->List Vw->Rd (List RV×List Vw)
 | [],vs=>.ret ([],vs)
 |c::cs,vs=>(aR6 c vs).bind λx=>(aDs cs x.2).bind λy=>.ret (x.1::y.1,y.2)
def aWK (a:AV)(vs:List Vw):Rd (AV×List Vw):=
 match a with
 |.r r=>(aR6 r vs).bind λx=>.ret (.r x.1,x.2)
 |.tup rs=>(aDs rs vs).bind λx=>.ret (.tup x.1,x.2)
 |.fn f rs=>(aDs rs vs).bind λx=>.ret (.fn f x.1,x.2)
 |.Vk=>.ret (.Vk,vs)
def aJG:List AV->List Vw->Rd (List AV×List Vw)
 | [],vs=>.ret ([],vs)
 |c::cs,vs=>(aWK c vs).bind λx=>(aJG cs x.2).bind λy=>.ret (x.1::y.1,y.2)
def toS (b:af):af:=
 match b with
 | [.a n cols]=>[.a (.s n.val) cols]
 |b=>b
def aQn (sl:Bool)(z:Nat)(b:af):af:=
 match sl with
 |true=>toS (asb z b)
 |false=>b
def aR7:Nat->Nat->List Vw->List af->Rd (List af×List Vw)
 |0,_,_,_=>.fail
 |fuel+1,i,vs,acc=>match vs[i]? with
  |none=>.ret (acc,vs)
  |some v=>.vw v.b v.o v.cB v.z λcs=>
   (aMv (aQn v.sl v.z cs) vs).bind λx=>aR7 fuel (i+1) x.2 (acc++[x.1])
def K1 (vs:List Vw)(aI:Nat):CV->CV
 |.ptr j d n=>match vs[j]? with
  |some v=>.ptr v.b (v.o.plus d) n
  |none=>.ptr (aI+(j-vs.length)) d n
 |.cl f j d n=>match vs[j]? with
  |some v=>.cl f v.b (v.o.plus d) n
  |none=>.cl f (aI+(j-vs.length)) d n
 |.sl j d len z own=>match vs[j]? with
  |some v=>.sl v.b (v.o.plus d) len z (own&&v.own)
  |none=>.sl (aI+(j-vs.length)) d len z own
 |c=>c
def Kh (f:CV->CV):af->af
 | []=>[]
 |.c v::r=>.c (f v)::Kh f r
 |.a n cols::r=>.a n cols::Kh f r
def aR8 (vs:List Vw)(aI:Nat):RV->RV
 |.c c=>.c (K1 vs aI c)
 |.agg cs=>.agg (Kh (K1 vs aI) cs)
def aMw (vs:List Vw)(aI:Nat):AV->AV
 |.r r=>.r (aR8 vs aI r)
 |.tup rs=>.tup (rs.map (aR8 vs aI))
 |.fn f rs=>.fn f (rs.map (aR8 vs aI))
 |.Vk=>.Vk
def GG (vs:List Vw)(aI:Nat):List af->Nat->List Up
 | [],_=>[]
 |b::bs,j=>.new (aI+j) (Kh (K1 vs aI) b)::GG vs aI bs (j+1)
def Au (all:List Vw)(aI:Nat):List Vw->List Ch->Option (Bool×List Up)
 | [],[]=>some (true,[])
 |_::vs,.mT::cs=>Au all aI vs cs
 |v::vs,.set b::cs=>match Au all aI vs cs with
  |some p=>some (p.1&&ww (af.size b) v.n,.c v.b v.o (Kh (K1 all aI) b)::p.2)
  |none=>none
 |_::vs,.kill::cs=>Au all aI vs cs
 |_,_=>none
def ph:List Vw->List Ch->List Up
 |v::vs,.kill::cs=>.kill v.b::ph vs cs
 |_::vs,_::cs=>ph vs cs
 |_,_=>[]
def dV (dst:Option Tmp)(v:AV):List Up:=
 match dst with
 |some d=>[.t d v]
 |none=>[]
def aWL (E:Env)(f:Nat)(args:List AV)(dst:Option Tmp)(aI:Nat):Rd (List Up):=
 (aJG args []).bind λx=>(aR7 1000 0 x.2 []).bind λy=>
  match E f with
  |none=>.fail
  |some F=>(F x.1 y.1).rd.bind λr=>
   (ej (Au y.2 aI y.2 r.ya)).bind λus=>(cI us.1).bind λ_=>
    .ret (dV dst (aMw y.2 aI r.val)++(us.2++(ph y.2 r.ya++GG y.2 aI r.news 0)))
def aR9:CV->Rd Nat
 |.sl _ _ n _ _=>.ret n.val
 |.nils=>.ret 0
 |.fs n _ _=>.ret n
 |.f (.s x)=>.ret x.size
 |_=>.fail
def slB (z:Nat):CV->Rd (Sz×af)
 |.sl b o n z' _=>(cI (ww z z')).bind λ_=>.vw b o n z λk=>.ret (n,k)
 |.nils=>.ret (.l 0,[])
 |.fs n z' cols=>(cI (ww z z')).bind λ_=>.ret (.s n,[.a (.s n) cols])
 |_=>.fail
def aDt (P:Program)(t:TypeId)(s x:CV)(dst:Option Tmp)(aI:Nat):Rd (List Up):=
 match P.underlying t with
 |some (.slice e)=>(ej (iO P e)).bind λz=>(ej ((P.info? e).map (·.bytes))).bind λby_=>(ej (At P e)).bind λzv=>
  (cI (wd 1 z&&(wd 1 by_&&ww (af.size zv.bO) z))).bind λ_=>
  (slB z x).bind λxb=>
  match s with
  |.nils=>(cI (wd (xb.1.val*by_) 140737488355328)).bind λ_=>
   .ret (dV dst (.r (.c (.sl aI (.k 0) xb.1 z true)))++[.new aI xb.2])
  |.sl b o n z' true=>(cI (ww z z')).bind λ_=>(cI (wd ((n.val+xb.1.val)*by_) 140737488355328)).bind λ_=>
   .sz b<|
   .vw b o n z λsb=>(ej (sb.app xb.2)).bind λnb=>
    (cI (match x with|.sl b' _ _ _ _=> !Nat.beq b b'|_=>true)).bind λ_=>
    .ret (dV dst (.r (.c (.sl aI (.k 0) (n.add xb.1) z true)))++[.kill b,.new aI nb])
  |_=>.fail
 |_=>.fail
def aHF (v:Nat):Nat->Rd Nat
 |0=>.ret 0
 |k+1=>.test (wd (k+1) v) λ|true=>.ret (k+1)|false=>aHF v k
def aMx (n n':Sz):Rd (Bool×Sz):=
 match n,n' with
 |.l k,.s v=>match wd k 8 with
  |true=>(aHF v k).bind λj=>.ret (true,.l j)
  |false=>.ret (false,Sz.least (.s v) (.l k))
 |n,n'=>.ret (false,Sz.least n' n)
def copyV (P:Program)(t:TypeId)(d x:CV)(dst:Option Tmp):Rd (List Up):=
 match P.underlying t with
 |some (.slice e)=>(ej (iO P e)).bind λz=>
  match d,x with
  |.sl b o n z1 _,.sl b' o' n' z2 _=>(cI (ww z z1&&ww z z2)).bind λ_=>
   (cI (!Nat.beq b b')).bind λ_=>(aMx n n').bind λm=>
   .vw b' o' m.2 z λl=>.sz b<|
    .ret (dV dst (.r (.c (.f (.i .i64 (m.2.val:Int)))))++[.c b o (cond m.1 (tF l) l)])
  |_,_=>.fail
 |_=>.fail
def aWM:FV->FV->Rd FV
 |.i k x,.i k' y=>if k=k' then .ret (.i k (if y<x then y else x)) else .fail
 |_,_=>.fail
def aWN:FV->FV->Rd FV
 |.i k x,.i k' y=>if k=k' then .ret (.i k (if y>x then y else x)) else .fail
 |_,_=>.fail
def atZ {α β:Type}(f:β->α->Rd β):β->List α->Rd β
 |b,[]=>.ret b
 |b,a::l=>(f b a).bind λb'=>atZ f b' l
def asF:AV->Rd FV
 |.r (.c (.f v))=>.ret v
 |_=>.fail
def biV (P:Program)(bi:Builtin)(ts:Array TypeId)(args:List AV)(dst:Option Tmp)(aI:Nat):Rd (List Up):=
 match bi,args with
 |.len,[x]=>(ej ((ts[0]?).bind P.underlying)).bind λ
  |.array n _=>.ret (dV dst (.r (.c (.f (.i .i64 (n:Int))))))
  |.slice _=>(asC x).bind λc=>(match c with|.f _=>Rd.fail|c=>aR9 c).bind λn=>.ret (dV dst (.r (.c (.f (.i .i64 (n:Int))))))
  |.string=>(asC x).bind λc=>(match c with|.f (.s x)=>Rd.ret x.size|_=>Rd.fail).bind λn=>.ret (dV dst (.r (.c (.f (.i .i64 (n:Int))))))
  |_=>.fail
 |.append,[s,x]=>(ej (ts[0]?)).bind λt=>(cI (match ts.toList with| [t1,t2]=>ww t1 t2|_=>false)).bind λ_=>
  (asC s).bind λs=>(asC x).bind λx=>aDt P t s x dst aI
 |.copy,[d,x]=>(ej (ts[0]?)).bind λt=>(asC d).bind λd=>(asC x).bind λx=>copyV P t d x dst
 |.min,x::l=>(asF x).bind λx=>(tG asF l).bind λl=>(atZ aWM x l).bind λv=>.ret (dV dst (.r (.c (.f v))))
 |.max,x::l=>(asF x).bind λx=>(tG asF l).bind λl=>(atZ aWN x l).bind λv=>.ret (dV dst (.r (.c (.f v))))
 |_,_=>.fail
def aZY:AV->Rd (Nat×List RV)
 |.fn f ac2=>.ret (f,ac2)
 |.r (.c (.cl f b o n))=>.ret (f,[.c (.ptr b o n)])
 |_=>.fail
def aoq (P:Program)(e:TypeId)(n z:Nat)(b:af):af:=
 match !aR1 P n e&&wd n 8 with
 |true=>b
 |false=>asb z b
inductive CK where
 |i (k:IntKind)
 |b
 |s
def CK.nQ:CK->cP
 |.i k=>.i k λ_=>0
 |.b=>.b λ_=>false
 |.s=>.s λ_=>.empty
def ckT (P:Program):Nat->TypeId->Option (List CK)
 |0,_=>none
 |d+1,t=>match P.underlying t with
  |some .bool=>some [.b]
  |some (.int k)=>some [.i k]
  |some .string=>some [.s]
  |some (.struct fs)=>fs.toList.foldr (λf l=>match ckT P d f.type,l with
   |some a,some b=>some (a++b)
   |_,_=>none) (some [])
  |some (.array n e)=>(ckT P d e).map (aR2 n)
  |_=>none
def aJH (P:Program):Nat->TypeId->List (Option (Nat×List CK))
 |0,_=>[]
 |d+1,t=>match P.underlying t with
  |some (.struct fs)=>(fs.toList.map λf=>aJH P d f.type).flatten
  |some (.array n e)=>aR2 n (aJH P d e)
  |some (.slice e)=>[match iO P e,ckT P 30 e with
   |some z,some ks=>some (z,ks)
   |_,_=>none]
  |_=>[none]
def R4:List (Option (Nat×List CK))->af->Nat->af×List af
 |_,[],_=>([],[])
 |ks,.a n cols::r,b=>let x:=R4 (ks.drop (n.val*cols.length)) r b;(.a n cols::x.1,x.2)
 |ks,.c v::r,b=>match v,ks with
  |.nils,some (z,k)::ks=>let x:=R4 ks r (b+1);(.c (.sl b (.k 0) (.s 0) z true)::x.1,[.a (.s 0) (k.map CK.nQ)]::x.2)
  |v,ks=>let x:=R4 (ks.drop 1) r b;(.c v::x.1,x.2)
def aSa:af->Bool
 | []=>false
 |.c .nils::_=>true
 |_::r=>aSa r
def iX (P:Program)(t:TypeId)(b:af)(aI:Nat):af×List af:=
 match aSa b with
 |true=>R4 (aJH P 30 t) b aI
 |false=>(b,[])
def BD:List af->Nat->List Up
 | [],_=>[]
 |b::bs,n=>.new n b::BD bs (n+1)
def at1 (dst:Option Tmp)(aI n:Nat)(cs:af):List Up:=dV dst (.r (.c (.ptr aI (.k 0) n)))++[.new aI cs]
def aop (P:Program)(E:Env)(o:Oper)(aI:Nat):Rd (List Up):=
 let val (m:Rd RV):Rd (List Up):=m.bind λv=>.ret (dV o.dst (.r v))
 let cel (m:Rd CV):Rd (List Up):=m.bind λv=>.ret (dV o.dst (.r (.c v)))
 match o.op with
 |.move x|.assign x=>(DD x).bind λv=>.ret (dV o.dst v)
 |.pick c a b=>(aHD c).bind λx=>.test x λ
  |true=>(DD a).bind λv=>.ret (dV o.dst v)
  |false=>(DD b).bind λv=>.ret (dV o.dst v)
 |.alloc e=>(ej (At P e)).bind λz=>.ret (BD (iX P e z.bO aI).2 aI++at1 o.dst (aI+(iX P e z.bO aI).2.length) (af.size (iX P e z.bO aI).1) (iX P e z.bO aI).1)
 |.box t x=>(vX x).bind λv=>.ret (BD (iX P t v.bO aI).2 aI++at1 o.dst (aI+(iX P t v.bO aI).2.length) (af.size (iX P t v.bO aI).1) (iX P t v.bO aI).1)
 |.makeSlice t n c=>match P.underlying t with
  |some (.slice e)=>(ej (At P e)).bind λz=>(ej (iO P e)).bind λq=>(Kf n).bind λn=>(Kf c).bind λc=>
   (cI (decide (n.2=0)&&decide (c.2=0))).bind λ_=>(ej (DU q z.bO)).bind λcols=>
   .ret (dV o.dst (.r (.c (.sl aI (.k 0) (.s 0) q true)))++[.new aI [.a (.s 0) cols]])
  |_=>.fail
 |.build t ps=>(ej (At P t)).bind λz=>(tG (λp=>(vX p.2).bind λv=>.ret (p.1,v)) ps.toList).bind λl=>
  (ej (placesOf P t)).bind λpl=>(ej (akx pl z.bO l)).bind λcs=>.ret (dV o.dst (.r (.agg cs)))
 |.buildSlice t n ps=>match P.underlying t with
  |some (.slice e)=>(ej (At P e)).bind λz=>(ej (iO P e)).bind λq=>
   (cI (wd 1 q&&wd (n*q) 16777216)).bind λ_=>
   (tG (λp=>(vX p.2).bind λv=>.ret (p.1,v)) ps.toList).bind λl=>
   (cI (ww (af.size z.bO) q)).bind λ_=>(ej (akx (λi=>some (i*q,q)) (rep n z.bO) l)).bind λcs=>.ret (dV o.dst (.r (.c (.sl aI (.k 0) (.l n) q true)))++[.new aI (aoq P e n q cs)])
  |_=>.fail
 |.load t a=>(Gi a).bind λ
  |.ptr b q n=>val (valueOf P t b q n)
  |.fp l=>val (aDr P t l)
  |_=>.fail
 |.store t a x=>(aMs a).bind λp=>(aMr x).bind λv=>(ej (iO P t)).bind λn=>
  (cI (ww (af.size v.bO) n&&wd n p.2.2)).bind λ_=>.sz p.1<|
  .ret (BD (iX P t v.bO aI).2 aI++(dV o.dst udf++[.c p.1 p.2.1 (iX P t v.bO aI).1]))
 |.nilCheck x=>(Gi x).bind λ
  |.ptr b q n=>.ret (dV o.dst (.r (.c (.ptr b q n))))
  |.fp l=>.ret (dV o.dst (.r (.c (.fp l))))
  |_=>.fail
 |.binOp op t x y _=>(vX x).bind λa=>(vX y).bind λb=>val (aWJ P op t a b)
 |.unOp op _ x=>(vX x).bind λa=>val (unV op a)
 |.convert s d x=>(vX x).bind λa=>val (aQm P s d a)
 |.sliceToArrayPointer t x=>(Gi x).bind λc=>match P.underlying t,c with
  |some (.array n _),.sl b q len z _=>(cI (wd 1 n&&wd n len.val)).bind λ_=>cel (.ret (.ptr b q (n*z)))
  |_,_=>.fail
 |.makeFunc (.func f) fs ac2=>match fs.toList with
  | []=>(tG vX ac2.toList).bind λl=>.ret (dV o.dst (.fn f l))
  |_=>.fail
 |.slice t x lo hi none=>(Gi x).bind λc=>(ay3 lo).bind λl=>(ay3 hi).bind λh=>cel (aJF P t c (uU lo&&uU hi) l h)
 |.fieldAddr t x i=>(Gi x).bind λc=>cel (axb P t c i)
 |.field t x i=>(vX x).bind λ
  |.agg cs=>(ej (afg P t i)).bind λf=>val (NP P f.type cs f.offset)
  |_=>.fail
 |.indexAddr t x i=>(Gi x).bind λc=>(Kf i).bind λi=>cel (axc P t c i.2)
 |.index t x i=>(vX x).bind λv=>(Kf i).bind λi=>match P.underlying t,v with
  |some (.array n e),.agg cs=>(ej (iO P e)).bind λz=>(cI (wd 1 z&&wd (n*z) (af.size cs))).bind λ_=>(cI (bg i.2 n)).bind λ_=>(sel P (.k 0) i.2 n e z).bind λo=>val (partOf P e cs o)
  |some .string,.c (.f (.s b))=>(cI (bg i.2 b.size)).bind λ_=>val (.ret (.c (.f (.i .u8 (DV b i.2.toNat)))))
  |_,_=>.fail
 |.extract x i=>(DD x).bind λ
  |.tup vs=>(ej (vs[i]?)).bind λv=>.ret (dV o.dst (.r v))
  |_=>.fail
 |.call c=>(tG DD c.args.toList).bind λargs=>match c.callee with
  |.builtin b=>biV P b c.argTypes args o.dst aI
  |.value f=>(DD f).bind λf=>(aZY f).bind λfc=>aWL E fc.1 (args++fc.2.map .r) o.dst aI
  |.invoke _ _=>.fail
 |_=>.fail
def mark (k:Nat)(b:Nat)(d:List Nat):List Nat:=
 match v6 b k&& !d.any (ww b) with
 |true=>b::d
 |false=>d
def Up.app (k:Nat)(s:St):Up->St
 |.t i v=>{s with tmps:=s.tmps.set i v}
 |.c b o v=>match s.bO b with
  |some bO=>match bO.Ai o v with
   |some p=>{s with heap:=s.heap.set b (some p.2),dt:=mark k b s.dt}
   |none=>s
  |none=>s
 |.new _ bO=>{s with heap:=s.heap++[some bO]}
 |.kill b=>{s with heap:=s.heap.set b none,dt:=mark k b s.dt}
def Up.ok (s:St):Up->Bool
 |.t i _=>v6 i s.tmps.length
 |.c b o v=>match s.bO b with
  |some bO=>match bO.Ai o v with
   |some p=>p.1&&wd (o.val+af.size v) (af.size bO)
   |none=>false
  |none=>false
 |.new b _=>ww b s.heap.length
 |.kill b=>v6 b s.heap.length
def jZ (k:Nat):List Up->St->Option St
 | [],s=>some s
 |u::us,s=>match u.ok s with
  |true=>jZ k us (u.app k s)
  |false=>none
def aQo (acc:List Nat)(m:Nat)(e:Edge):Nat:=match Region.binds .any e with
 |true=>(m|||2^e.on)|||acc.getD e.on 0
 |false=>m
def mask (acc:List Nat)(o:Oper):Nat:=o.after.toList.foldl (aQo acc) 0
def K2:List Oper->List Nat->List Nat
 | [],acc=>acc
 |o::l,acc=>K2 l (acc++[mask acc o])
def ovl (lo n lo' n':Nat):Bool:=v6 lo (lo'+n')&&v6 lo' (lo+n)
def meet:Option (Nat×Nat)->Option (Nat×Nat)->Bool
 |some (lo,n),some (lo',n')=>ovl lo n lo' n'
 |_,_=>true
def Fp.ay4:Fp->Up->Bool
 |.t i,.t j _=>ww i j
 |.c b r,.c b' o v=>ww b b'&&meet r (aMq o v)
 |.c b _,.new b' _|.c b _,.kill b'|.z b,.new b' _|.z b,.kill b'=>ww b b'
 |_,_=>false
def Up.ay4:Up->Up->Bool
 |.t i _,.t j _=>ww i j
 |.c b o v,.c b' o' v'=>ww b b'&&meet (aMq o v) (aMq o' v')
 |.c b _ _,.new b' _|.c b _ _,.kill b'|.new b _,.c b' _ _|.kill b,.c b' _ _|.new b _,.new b' _|.new b _,.kill b'|.kill b,.new b' _|.kill b,.kill b'=>ww b b'
 |_,_=>false
structure Tr where
 fp:List Fp
 us:List Up
def Tr.afj (x y:Tr):Bool:=
 x.us.any (λu=>y.fp.any (·.ay4 u)||y.us.any (·.ay4 u))||y.us.any (λu=>x.fp.any (·.ay4 u))
def Qv (ms:List Nat):List Tr->Nat->Bool
 | [],_=>true
 |x::rest,j=>(rest.zipIdx.all λp=>Nat.testBit (ms.getD (j+1+p.2) 0) j|| !x.afj p.1)&&Qv ms rest (j+1)
def Qw:List Oper->Nat->Bool
 | [],_=>true
 |o::l,i=>(o.after.toList.all λe=> !Region.binds .any e||v6 e.on i)&&Qw l (i+1)
def aWO (o:Oper)(nt:Nat):Bool:=
 match o.dst with
 |none=>true
 |some d=>v6 d nt
def NQ (ops:List Oper)(j:Nat):Option Tmp:=(ops[j]?).bind (·.dst)
def afk {α ρ:Type}(l:List α):(List α->ρ)->ρ:=
 List.rec (motive:=λ_=>(List α->ρ)->ρ) (λk=>k []) (λa _ ih k=>ih λl=>k (a::l)) l
def at2 {ρ:Type}(o:cA)(k:cA->ρ):ρ:=
 match o with
 |.k c=>k (.k c)
 |.x c i z=>k (.x c i z)
def aJI {ρ:Type}(n:Sz)(k:Sz->ρ):ρ:=
 match n with
 |.l n=>k (.l n)
 |.s n=>k (.s n)
def aCv {ρ:Type}(v:FV)(k:FV->ρ):ρ:=
 match v with
 |.u=>k .u
 |.b x=>k (.b x)
 |.i d n=>k (.i d n)
 |.s x=>k (.s x)
 |.q n g=>k (.q n g)
def axd {ρ:Type}(c:cP)(k:cP->ρ):ρ:=
 match c with
 |.i d g=>k (.i d g)
 |.b g=>k (.b g)
 |.s g=>k (.s g)
 |.u=>k .u
 |.q n g=>k (.q n g)
def Vo {ρ:Type}(l:List cP):(List cP->ρ)->ρ:=
 List.rec (motive:=λ_=>(List cP->ρ)->ρ) (λk=>k []) (λa _ ih k=>axd a λa=>ih λl=>k (a::l)) l
def at3 {ρ:Type}(l:List FV):(List FV->ρ)->ρ:=
 List.rec (motive:=λ_=>(List FV->ρ)->ρ) (λk=>k []) (λa _ ih k=>aCv a λa=>ih λl=>k (a::l)) l
def aCw {ρ:Type}(c:CV)(k:CV->ρ):ρ:=
 match c with
 |.f v=>aCv v λv=>k (.f v)
 |.ptr b o n=>at2 o λo=>k (.ptr b o n)
 |.cl f b o n=>at2 o λo=>k (.cl f b o n)
 |.ahN=>k .ahN
 |.sl b o l z w=>at2 o λo=>aJI l λl=>k (.sl b o l z w)
 |.nils=>k .nils
 |.aRW=>k .aRW
 |.aRX=>k .aRX
 |.fs n z cols=>Vo cols λcols=>k (.fs n z cols)
 |.fp l=>at3 l λl=>k (.fp l)
def at4 {ρ:Type}(s:Sg)(k:Sg->ρ):ρ:=
 match s with
 |.c v=>aCw v λv=>k (.c v)
 |.a n cols=>aJI n λn=>Vo cols λcols=>k (.a n cols)
def Za {ρ:Type}(l:af):(af->ρ)->ρ:=
 List.rec (motive:=λ_=>(af->ρ)->ρ) (λk=>k []) (λa _ ih k=>at4 a λa=>ih λl=>k (a::l)) l
def at5 {ρ:Type}(r:RV)(k:RV->ρ):ρ:=
 match r with
 |.c c=>aCw c λc=>k (.c c)
 |.agg b=>Za b λb=>k (.agg b)
def aky {ρ:Type}(l:List RV):(List RV->ρ)->ρ:=
 List.rec (motive:=λ_=>(List RV->ρ)->ρ) (λk=>k []) (λa _ ih k=>at5 a λa=>ih λl=>k (a::l)) l
def at6 {ρ:Type}(v:AV)(k:AV->ρ):ρ:=
 match v with
 |.r r=>at5 r λr=>k (.r r)
 |.tup rs=>aky rs λrs=>k (.tup rs)
 |.fn f rs=>aky rs λrs=>k (.fn f rs)
 |.Vk=>k .Vk
def aCx {ρ:Type}(u:Up)(k:Up->ρ):ρ:=
 match u with
 |.t i v=>at6 v λv=>k (.t i v)
 |.c b o vs=>at2 o λo=>Za vs λvs=>k (.c b o vs)
 |.new b bO=>Za bO λbO=>k (.new b bO)
 |.kill b=>k (.kill b)
def at7 {ρ:Type}(l:List Up):(List Up->ρ)->ρ:=
 List.rec (motive:=λ_=>(List Up->ρ)->ρ) (λk=>k []) (λa _ ih k=>aCx a λa=>ih λl=>k (a::l)) l
def at8 {ρ:Type}(l:List AV):(List AV->ρ)->ρ:=
 List.rec (motive:=λ_=>(List AV->ρ)->ρ) (λk=>k []) (λa _ ih k=>at6 a λa=>ih λl=>k (a::l)) l
def at9 {ρ:Type}(u:Option af)(k:Option af->ρ):ρ:=
 match u with
 |some b=>Za b λb=>k (some b)
 |none=>k none
def aua {ρ:Type}(l:List (Option af)):(List (Option af)->ρ)->ρ:=
 List.rec (motive:=λ_=>(List (Option af)->ρ)->ρ) (λk=>k []) (λa _ ih k=>at9 a λa=>ih λl=>k (a::l)) l
def xO {ρ:Type}(s:St)(k:St->ρ):ρ:=
 match s with
 | ⟨t,h,d⟩=>at8 t λt=>aua h λh=>afk d λd=>k ⟨t,h,d⟩
def Up.ac5 {ρ:Type}(k:Nat)(u:Up)(s:St)(c:St->Option ρ):Option ρ:=
 match u with
 |.t i v=>ay2 s.tmps i v λt=>c {s with tmps:=t}
 |.c b o v=>match s.bO b with
  |some bO=>match bO.Ai o v with
   |some p=>match p.1&&wd (o.val+af.size v) (af.size bO) with
    |true=>Za p.2 λbO=>ay2 s.heap b (some bO) λh=>afk (mark k b s.dt) λd=>c {s with heap:=h,dt:=d}
    |false=>none
   |none=>none
  |none=>none
 |.new b bO=>match ww b s.heap.length with
  |true=>afk (s.heap++[some bO]) λh=>c {s with heap:=h}
  |false=>none
 |.kill b=>ay2 s.heap b none λh=>afk (mark k b s.dt) λd=>c {s with heap:=h,dt:=d}
def ac5 {ρ:Type}(k:Nat)(us:List Up):St->(St->Option ρ)->Option ρ:=
 List.rec (motive:=λ_=>St->(St->Option ρ)->Option ρ) (λs c=>c s) (λu _ ih s c=>u.ac5 k s λs=>ih s c) us
def K3 (P:Program)(E:Env)(nt k:Nat)(ops:List Oper){ρ:Type}:List Oper->St->List Tr->(St->List Tr->Option ρ)->Option ρ
 | [],s,l,c=>c s l
 |o::rest,s,l,c=>
  let go (s:St) (fp:List Fp):Option ρ:=
   (aop P E o s.heap.length).run s fp λus fp=>at7 us λus=>ac5 k us s λs'=>afk (l++[⟨fp,us⟩]) λl=>K3 P E nt k ops rest s' l c
  let skip (s:St) (fp:List Fp):Option ρ:=ac5 k (dV o.dst udf) s λs'=>afk (l++[⟨fp,dV o.dst udf⟩]) λl=>K3 P E nt k ops rest s' l c
  match aWO o nt with
  |false=>none
  |true=>
  match o.guard with
  |none=>go s []
  |some (j,want)=>match NQ ops j with
   |none=>none
   |some t=>match s.tmp t with
    |.r (.c (.f (.b x)))=>match x with
     |true=>ay2 s.tmps t (.r (.c (.f (.b true)))) λts=>match want with|true=>go {s with tmps:=ts} [.t t]|false=>skip {s with tmps:=ts} [.t t]
     |false=>ay2 s.tmps t (.r (.c (.f (.b false)))) λts=>match want with|true=>skip {s with tmps:=ts} [.t t]|false=>go {s with tmps:=ts} [.t t]
    |.tup []=>skip s [.t t]
    |_=>none
inductive AX where
 |nrm
 |ex (id:Nat)
 |ret
def idx (b:Nat):List Nat->Nat->Option Nat
 | [],_=>none
 |x::l,i=>match ww x b with
  |true=>some i
  |false=>idx b l (i+1)
def akz (H b:Nat)(m:List Nat):Nat×List Nat:=
 match wd H b with
 |true=>match idx b m 0 with
  |some i=>(H+i,m)
  |none=>(H+m.length,m++[b])
 |false=>(b,m)
def gcC (H:Nat)(c:CV)(m:List Nat):CV×List Nat:=
 match c with
 |.ptr b o n=>let x:=akz H b m;(.ptr x.1 o n,x.2)
 |.cl f b o n=>let x:=akz H b m;(.cl f x.1 o n,x.2)
 |.sl b o l z w=>let x:=akz H b m;(.sl x.1 o l z w,x.2)
 |c=>(c,m)
def GH {α:Type}(g:α->List Nat->α×List Nat):List α->List Nat->List α×List Nat
 | [],m=>([],m)
 |a::l,m=>let x:=g a m;let y:=GH g l x.2;(x.1::y.1,y.2)
def gcS (H:Nat)(s:Sg)(m:List Nat):Sg×List Nat:=
 match s with
 |.c c=>let x:=gcC H c m;(.c x.1,x.2)
 |s=>(s,m)
def gcR (H:Nat)(r:RV)(m:List Nat):RV×List Nat:=
 match r with
 |.c c=>let x:=gcC H c m;(.c x.1,x.2)
 |.agg cs=>let x:=GH (gcS H) cs m;(.agg x.1,x.2)
def gcA (H:Nat)(a:AV)(m:List Nat):AV×List Nat:=
 match a with
 |.r r=>let x:=gcR H r m;(.r x.1,x.2)
 |.tup rs=>let x:=GH (gcR H) rs m;(.tup x.1,x.2)
 |.fn f rs=>let x:=GH (gcR H) rs m;(.fn f x.1,x.2)
 |.Vk=>(.Vk,m)
def gcB (H:Nat)(b:Option af)(m:List Nat):Option af×List Nat:=
 match b with
 |some cs=>let x:=GH (gcS H) cs m;(some x.1,x.2)
 |none=>(none,m)
def gcN (H:Nat)(heap:List (Option af)):Nat->Nat->List Nat->List (Option af)->Option (List (Option af)×List Nat)
 |0,_,_,_=>none
 |fuel+1,i,m,acc=>match m[i]? with
  |none=>some (acc,m)
  |some b=>let x:=gcB H ((heap[b]?).getD none) m;gcN H heap fuel (i+1) x.2 (acc++[x.1])
def gcO (k:Nat)(d:List Nat)(H:Nat):List (Option af)->Nat->List Nat->List (Option af)×List Nat
 | [],_,m=>([],m)
 |b::l,j,m=>match v6 j k&& !d.any (ww j) with
  |true=>let y:=gcO k d H l (j+1) m;(b::y.1,y.2)
  |false=>let x:=gcB H b m;let y:=gcO k d H l (j+1) x.2;(x.1::y.1,y.2)
def St.gc (k:Nat)(s:St)(H:Nat):Option St:=
 match wd H s.heap.length with
 |false=>none
 |true=>
 let x:=GH (gcA H) s.tmps []
 let y:=gcO k s.dt H (s.heap.take H) 0 x.2
 match gcN H s.heap 1000 0 y.2 [] with
 |some z=>some {s with tmps:=x.1,heap:=y.1++z.1}
 |none=>none
structure Hd where
 id:Nat
 aDu:List Nat
 nils:List (Nat×List CK)
structure Sm where
 id:Nat
 kk:Nat
 run:∀{ρ:Type},St->(AX->St->Option ρ)->Option ρ
structure Jn where
 hd:Hd
 sm:Sm
structure Hs where
 hd:List Hd
 sm:List Sm
 dt:List Nat
 jn:List Jn
 rk:Option Hd
def Qx:Code->Option Nat
 |.region id _ _=>some id
 |.seq a _=>Qx a
 |.block _ a=>Qx a
 |.loop a=>Qx a
 |_=>none
def aHG (c:CV):CV:=
 match c with
 |.sl b o len z own=>match o with
  |.k c=>.sl b (.x c 0 z) len z own
  |o=>.sl b o len z own
 |c=>c
def aDv (g:CV->CV)(s:Sg):Sg:=
 match s with
 |.c v=>.c (g v)
 |s=>s
def mapA (g:CV->CV)(a:AV):AV:=
 match a with
 |.r (.c v)=>.r (.c (g v))
 |a=>a
def ahP (g:CV->CV)(k:Nat)(d:List Nat):List (Option af)->Nat->List (Option af)
 | [],_=>[]
 |b::l,j=>(match v6 j k&& !d.any (ww j) with
  |true=>b
  |false=>b.map λb=>b.map (aDv g))::ahP g k d l (j+1)
def aMy (b n x:Nat):Nat:=
 match ww x b with
 |true=>n
 |false=>x
def aMz (b n:Nat)(c:CV):CV:=
 match c with
 |.ptr x o m=>.ptr (aMy b n x) o m
 |.cl f x o m=>.cl f (aMy b n x) o m
 |.sl x o l z w=>.sl (aMy b n x) o l z w
 |c=>c
def aWP (c:CV):CV:=
 match c with
 |.sl b o len z own=>.sl b o (.s len.val) z own
 |c=>c
def aZZ (c:CV):CV:=aWP (aHG c)
def aHH (s:Sg):Sg:=
 match s with
 |.c v=>.c (aZZ v)
 |s=>s
def aDw (a:AV):AV:=
 match a with
 |.r (.c v)=>.r (.c (aZZ v))
 |a=>a
def slC (c:CV)(l:List (Nat×Nat)):List (Nat×Nat):=
 match c with
 |.sl b _ _ z _=>(b,z)::l
 |_=>l
def a2d (s:Sg)(l:List (Nat×Nat)):List (Nat×Nat):=
 match s with
 |.c v=>slC v l
 |_=>l
def a2e (a:AV)(l:List (Nat×Nat)):List (Nat×Nat):=
 match a with
 |.r (.c v)=>slC v l
 |_=>l
def a2f (b:Option af)(l:List (Nat×Nat)):List (Nat×Nat):=
 match b with
 |some b=>b.foldr a2d l
 |none=>l
def sls (s:St):List (Nat×Nat):=s.tmps.foldr a2e (s.heap.foldr a2f [])
def aWQ (j:Nat):List (Nat×Nat)->Option Nat
 | []=>none
 |p::l=>match ww p.1 j with
  |true=>some p.2
  |false=>aWQ j l
def aDx (l:List (Nat×Nat))(j:Nat)(b:af):af:=
 match aWQ j l with
 |some z=>toS (asb z (b.map aHH))
 |none=>b.map aHH
def akA (k:Nat)(d:List Nat)(sl:List (Nat×Nat)):List (Option af)->Nat->List (Option af)
 | [],_=>[]
 |b::l,j=>(match v6 j k&& !d.any (ww j) with
  |true=>b
  |false=>b.map λb=>aDx sl j b)::akA k d sl l (j+1)
def aQp (k b:Nat)(s:St):St:=
 match s.bO b with
 |some bO=>match v6 b k with
  |true=>{s with tmps:=s.tmps.map (mapA (aMz b s.heap.length)),heap:=ahP (aMz b s.heap.length) k (mark k b s.dt) (s.heap.set b none++[some bO]) 0,dt:=mark k b s.dt}
  |false=>s
 |none=>s
def aHI (k:Nat)(s:St)(p:Nat×List CK):St:=
 match p.2 with
 | []=>match p.1 with
  |0=>{s with tmps:=s.tmps.map (mapA aHG),heap:=ahP aHG k s.dt s.heap 0}
  |1=>{s with tmps:=s.tmps.map aDw,heap:=akA k s.dt (sls s) s.heap 0}
  |b+2=>aQp k b s
 |_::_=>match s.tmp p.1 with
  |.r (.c .nils)=>{s with tmps:=s.tmps.set p.1 (.r (.c (.sl s.heap.length (.k 0) (.s 0) p.2.length true))),heap:=s.heap++[some [.a (.s 0) (p.2.map CK.nQ)]]}
  |_=>s
def aSb (id:Nat):List Hd->Option Hd
 | []=>none
 |h::l=>match ww h.id id with
  |true=>some h
  |false=>aSb id l
def aSc (id:Nat):List Sm->Option Sm
 | []=>none
 |h::l=>match ww h.id id with
  |true=>some h
  |false=>aSc id l
def apC (hs:Hs)(a:Code):Option Sm:=
 match Qx a with
 |none=>none
 |some id=>aSc id hs.sm
def St.aaX (k:Nat)(s:St)(h:Hd):Option St:=((h.nils.foldl (aHI k) {s with tmps:=h.aDu.foldl (λl t=>l.set t Vk) s.tmps}).gc k k)
def St.head (k:Nat)(s:St)(hs:Hs)(body:Code):Option St:=
 match Qx body with
 |none=>s.gc k k
 |some id=>match aSb id hs.hd with
  |none=>s.gc k k
  |some h=>s.aaX k h
def aSd (id:Nat):List Jn->Option Jn
 | []=>none
 |h::l=>match ww h.sm.id id with
  |true=>some h
  |false=>aSd id l
def ayY (hs:Hs)(b:Code):Option Jn:=
 match hs.jn with
 | []=>none
 |j::l=>match Qx b with
  |none=>none
  |some id=>aSd id (j::l)
def KV (hs:Hs):Code->List Code
 |.seq a b=>(match ayY hs b with
  |some _=>[b]
  |none=>[])++(KV hs a++KV hs b)
 |.cond _ a b=>KV hs a++KV hs b
 |.block _ a=>KV hs a
 |.loop a=>KV hs a
 |_=>[]
def ase (id:Nat):Code->Option Code
 |.seq a b=>match(match Qx b with
   |some i=>ww i id
   |none=>false) with
  |true=>some b
  |false=>match ase id a with
   |some c=>some c
   |none=>ase id b
 |.cond _ a b=>match ase id a with
  |some c=>some c
  |none=>ase id b
 |.block _ a=>ase id a
 |.loop a=>ase id a
 |_=>none
def Zb (id:Nat):Code->Option Code
 |.seq a b=>match Zb id a with
  |some c=>some c
  |none=>Zb id b
 |.cond _ a b=>match Zb id a with
  |some c=>some c
  |none=>Zb id b
 |.block _ a=>Zb id a
 |.loop a=>match Qx a with
  |some j=>match ww j id with
   |true=>some a
   |false=>Zb id a
  |none=>Zb id a
 |_=>none
def KU:Code->List Code
 |.seq a b=>KU a++KU b
 |.cond _ a b=>KU a++KU b
 |.block _ a=>KU a
 |.loop a=>a::KU a
 |_=>[]
def Y9 (P:Program)(f:FuncId):Code:=((P.funcs[f]?).bind (·.body)).getD .skip
def Y8 (P:Program)(f:FuncId)(id:Nat):Code:=(Zb id (Y9 P f)).getD .skip
def ae8 (P:Program)(f:FuncId)(id:Nat):Code:=(ase id (Y9 P f)).getD .skip
def tmpsOf (P:Program)(f:FuncId):Nat:=((P.funcs[f]?).map (·.ntmps)).getD 0
def iter {ρ:Type}(hd:St->Option St)(body:St->(AX->St->Option ρ)->Option ρ)(k:AX->St->Option ρ)(n:Nat):St->Option ρ:=
 Nat.rec (λ_=>none) (λ_ ih s=>body s λe s=>match e with
   |.nrm=>match hd s with
    |none=>none
    |some s=>xO s ih
   |e=>k e s) n
def next {ρ:Type}(hd:St->Option St)(c:St->Option ρ)(k:AX->St->Option ρ):AX->St->Option ρ:=λe s=>match e with
 |.nrm=>match hd s with
  |none=>none
  |some s=>xO s c
 |e=>k e s
def Gj (P:Program)(E:Env)(hs:Hs)(nt kk:Nat)(lf:Nat){ρ:Type}:Code->St->(AX->St->Option ρ)->Option ρ
 |.skip,s,k=>k .nrm s
 |.region _ ops draw,s,k=>match draw with
  |false=>K3 P E nt kk ops.toList ops.toList s [] λs _=>k .nrm s
  |true=>K3 P E nt kk ops.toList ops.toList s [] λs l=>match Qw ops.toList 0&&Qv (K2 ops.toList []) l 0 with
   |true=>k .nrm s
   |false=>none
 |.seq a b,s,k=>Gj P E hs nt kk lf a s λe s=>match e with
  |.nrm=>match ayY hs b with
   |none=>Gj P E hs nt kk lf b s k
   |some j=>match s.aaX kk j.hd with
    |none=>none
    |some s=>xO s λs=>match ww j.sm.kk kk with
     |true=>j.sm.run s k
     |false=>none
  |e=>k e s
 |.cond (.tmp t) a b,s,k=>match s.tmp t with
  |.r (.c (.f (.b x)))=>match x with
   |true=>Gj P E hs nt kk lf a s k
   |false=>Gj P E hs nt kk lf b s k
  |_=>none
 |.block id a,s,k=>Gj P E hs nt kk lf a s λe s=>match e with
  |.ex j=>match ww j id with
   |true=>k .nrm s
   |false=>k (.ex j) s
  |e=>k e s
 |.loop a,s,k=>match s.head kk hs a with
  |none=>none
  |some s=>xO s λs=>match apC hs a with
   |some σ=>match ww σ.kk kk with
    |true=>σ.run s k
    |false=>none
   |none=>iter (λt=>t.head kk hs a) (Gj P E hs nt kk lf a) k lf s
 |.exit id,s,k=>k (.ex id) s
 |.ret,s,k=>match hs.rk with
  |none=>k .ret s
  |some h=>match s.aaX kk h with
   |none=>none
   |some s=>xO s λs=>k .ret s
 |_,_,_=>none
def aSe (P:Program)(s:St):ResultVar->Option RV
 |.tmp t=>match s.tmp t with
  |.r v=>some v
  |_=>none
 |.cell a t=>match s.tmp a with
  |.r (.c (.ptr b o m))=>match ac3 P t,iO P t,s.bO b,o with
   |some true,some n,some bO,.k c=>match wd n m with
    |true=>(akt bO c (.l 1) n).map .agg
    |false=>none
   |some false,some _,some bO,.k c=>match wd 1 m with
    |true=>match akt bO c (.l 1) 1 with
     |some [.c v]=>some (.c v)
     |_=>none
    |false=>none
   |_,_,_,_=>none
  |_=>none
def axe (P:Program)(s:St):List ResultVar->Option (List RV)
 | []=>some []
 |r::l=>match aSe P s r,axe P s l with
  |some v,some vs=>some (v::vs)
  |_,_=>none
def one:List RV->AV
 | [v]=>.r v
 |vs=>.tup vs
def ahQ (s:List Nat):List (Option af)->Nat->List Ch
 | [],_=>[]
 |b::l,j=>(match s.any (ww j) with
  |false=>Ch.mT
  |true=>match b with
   |some b=>.set b
   |none=>.kill)::ahQ s l (j+1)
def aDy {α:Type}:List (Option α)->Option (List α)
 | []=>some []
 |some a::l=>(aDy l).map (a:: ·)
 |none::_=>none
def fin (P:Program)(fn:Func)(k:Nat)(e:AX)(s:St):Option o9:=
 match e with
 |.ex _=>none
 |_=>match axe P s fn.results.toList with
  |none=>none
  |some vs=>
   let x:=gcA k (one vs) []
   let y:=gcO k s.dt k (s.heap.take k) 0 x.2
   match gcN k s.heap 1000 0 y.2 [] with
   |some z=>match aDy z.1 with
    |some news=>some {val:=x.1,ya:=ahQ s.dt y.1 0,news}
    |none=>none
   |none=>none
def start (fn:Func)(args:List AV)(h:List af)(d:List Nat):St:=
 {tmps:=args++List.replicate (fn.ntmps-args.length) udf,heap:=h.map some,dt:=d}
def den (P:Program)(E:Env)(hs:Hs)(lf:Nat)(f:FuncId)(args:List AV)(h:List af):Option o9:=
 match P.funcs[f]? with
 |none=>none
 |some fn=>match fn.body with
  |none=>none
  |some c=>match hs.dt.all λb=>v6 b h.length with
   |false=>none
   |true=>xO (start fn args h hs.dt) λs=>Gj P E hs fn.ntmps h.length lf c s (fin P fn h.length)
end Go.Ab
