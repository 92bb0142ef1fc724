/-
  Parts of the proof: Ab
-/
import Derived.Orders
import Derived.KernelRfl
import Derived.LoopN
open Nat renaming beq→ww,ble→wl,blt→v9
set_option linter.all false
noncomputable section
namespace Go.Ab
set_option linter.defProp false
def aSQ:=@Array.getElem?_setIfInBounds_ne
def aqy:=@Int.mul_le_mul_of_nonneg_right
def aXD:=@Array.eq_empty_of_size_eq_zero
def aqz:=@Array.getD_eq_getD_getElem?
def aeg:=@List.getElem?_append_right
def aAb:=@Int.tdiv_eq_ediv_of_nonneg
def ld:=@List.getElem?_eq_some_iff
def UC:=@List.getElem?_append_left
def ai1:=@Array.getElem?_eq_getElem
def j7:=@List.getElem?_eq_getElem
def abW:=@decide_eq_false_iff_not
def aEs:=@List.getElem?_cons_zero
def aKz:=@List.length_eq_zero_iff
def mm:=@Option.map_eq_some_iff
def ata:=@Array.getElem?_eq_none
def aEt:=@Nat.dvd_of_mod_eq_zero
def mO:=@Nat.eq_of_beq_eq_true
def DS:=@List.getElem?_eq_none
def JK:=@Nat.le_of_ble_eq_true
def Wc:=@Array.getElem?_toList
def abX:=@Int.ediv_lt_of_lt_mul
def ayd:=@Int.mul_ediv_add_emod
def aye:=@Nat.div_lt_iff_lt_mul
def ayf:=@List.mem_iff_getElem?
def aKA:=@Nat.ble_eq_true_of_le
def aKB:=@Array.getElem?_modify
def cF:=@Int.ofNat_eq_natCast
def vL:=@Nat.mul_le_mul_right
def aEu:=@List.getElem?_zipIdx
def Wd:=@Array.length_toList
def als:=@beq_eq_false_iff_ne
def qk:=@of_decide_eq_false
def wS:=@Bool.false_eq_true
def Lo:=@Bool.true_eq_false
def Lp:=@List.getElem?_drop
def We:=@Int.emod_lt_of_pos
def abY:=@Nat.eq_zero_or_pos
def Wf:=@List.getElem?_take
def ayg:=@List.length_append
def ayh:=@Bool.not_eq_false'
def aEv:=@Nat.lt_of_lt_of_le
def dq:=@of_decide_eq_true
def gS:=@Option.some.injEq
def ke:=@decide_eq_true_eq
def oJ:=@Bool.not_eq_true'
def Af:=@List.getElem?_map
def E0:=@Int.emod_eq_of_lt
def Hr:=@Int.toNat_natCast
def agm:=@Nat.lt_trichotomy
def atb:=@List.append_assoc
def aEw:=@List.getElem?_set
def bM:=@Option.bind_some
def cj:=@Bool.and_eq_true
def Lq:=@Option.getD_some
def Ls:=@List.length_cons
def abZ:=@List.any_eq_true
def alu:=@Array.toList_inj
def atc:=@List.length_drop
def alv:=@Nat.mod_eq_of_lt
def ayi:=@List.all_eq_true
def ayj:=@Int.ediv_le_self
def cG:=@decide_eq_false
def DT:=@Int.ediv_nonneg
def Om:=@Option.some.inj
def Lt:=@Option.map_some
def ab0:=@Int.emod_nonneg
def yX:=@List.length_map
def agn:=@Bool.or_eq_true
def ayk:=@ne_of_beq_false
def atd:=@Nat.mul_add_mod
def dA:=@decide_eq_true
def JL:=@Int.mul_nonneg
def On:=@Int.mul_le_mul
def oK:=@Bool.true_and
def ql:=@Prod.mk.injEq
def Bw:=@Nat.add_assoc
def DU:=@false_implies
def DV:=@Bool.not_true
def SM:=@Bool.or_false
def SN:=@List.mem_cons
def alw:=@Int.mul_assoc
def eX:=@Nat.zero_add
def dw:=@Nat.le_trans
def jM:=@Nat.add_zero
def lP:=@Sum.elim_inr
def ns:=@Nat.lt_or_ge
def qo:=@Sum.elim_inl
def oS:=@Int.le_of_lt
def Ag:=@Int.mul_comm
def SO:=@Nat.beq_refl
def JM:=@decide_false
def ago:=@Int.lt_or_le
def Oo:=@true_implies
def Oq:=@implies_true
def SP:=@Nat.zero_mul
def ab1:=@Nat.mul_comm
def Wg:=@Int.le_trans
def ayl:=@Int.le_total
def ate:=@Int.zero_add
def atf:=@Nat.succ_mul
def agp:=@Int.zero_mul
def cW:=@Nat.le_refl
def eZ:=@Int.le_refl
def pR:=@Nat.add_mul
def I1:=@decide_true
def Vd:=@Nat.one_mul
def agq:=@Int.add_mul
def bA:=@cond_false
def bn:=@cond_true
def Gs:=@ge_iff_le
def c8:=@congrArg
def fY:=@if_false
def zW:=@true_and
def Bx:=@and_true
def kR:=@if_true
inductive FV where
 |u
 |b (x:Bool)
 |i (k:IntKind) (n:Int)
 |s (x:ByteArray)
 |q (n:Nat) (g:Nat->Bool)
inductive Sz where
 |l (n:Nat)
 |s (n:Nat)
def Sz.val:Sz->Nat
 |.l n=>n
 |.s n=>n
def Sz.add:Sz->Sz->Sz
 |.l a,.l b=>.l (a+b)
 |a,b=>.s (a.val+b.val)
def Sz.least:Sz->Sz->Sz
 |.l a,.l b=>.l (Nat.min a b)
 |a,b=>.s (Nat.min a.val b.val)
def Sz.mul (a:Sz)(k:Nat):Sz:=
 match ww k 1 with
 |true=>a
 |false=>match a with
  |.l a=>.l (a*k)
  |.s a=>.s (a*k)
inductive cA where
 |k (c:Nat)
 |x (c i z:Nat)
def cA.val:cA->Nat
 |.k c=>c
 |.x c i z=>c+i*z
def cA.add:cA->Nat->cA
 |.k c,d=>.k (c+d)
 |.x c i z,d=>.x (c+d) i z
def cA.plus:cA->cA->cA
 |.k c,.k d=>.k (c+d)
 |.x c i z,.k d=>.x (c+d) i z
 |.k c,.x d i z=>.x (c+d) i z
 |.x c i z,.x d j y=>match ww z y with
  |true=>.x (c+d) (i+j) z
  |false=>.x 0 (c+i*z+(d+j*y)) 1
def cA.idx (o:cA)(j z n:Nat):cA:=
 match o with
 |.k c=>.x c j z
 |.x c i y=>match ww y (n*z) with
  |true=>.x c (i*n+j) z
  |false=>.x 0 (c+i*y+j*z) 1
def cA.aMX (o:cA)(j z:Nat):cA:=
 match o with
 |.k c=>.x c j z
 |.x c i y=>match ww y z with
  |true=>.x c (i+j) z
  |false=>.x 0 (c+i*y+j*z) 1
inductive cQ where
 |i (k:IntKind) (g:Nat->Int)
 |b (g:Nat->Bool)
 |s (g:Nat->ByteArray)
 |u
 |q (n:Nat->Nat) (g:Nat->Nat->Bool)
inductive CV where
 |f (v:FV)
 |ptr (b:Nat) (o:cA) (n:Nat)
 |ai2
 |sl (b:Nat) (o:cA) (len:Sz) (esz:Nat) (own:Bool)
 |nils
 |aSR
 |aSS
 |cl (f b:Nat) (o:cA) (n:Nat)
 |fs (n z:Nat) (cols:List cQ)
 |fp (l:List FV)
inductive Sg where
 |c (v:CV)
 |a (n:Sz) (cols:List cQ)
abbrev af:=List Sg
inductive RV where
 |c (v:CV)
 |agg (b:af)
inductive AV where
 |r (v:RV)
 |tup (vs:List RV)
 |fn (f:Nat) (aeh:List RV)
 |Wh
def Wh:AV:=.Wh
def udf:AV:=.tup []
def cQ.at:cQ->Nat->FV
 |.i k g,j=>.i k (g j)
 |.b g,j=>.b (g j)
 |.s g,j=>.s (g j)
 |.u,_=>.u
 |.q n g,j=>.q (n j) (g j)
def cQ.shift (d:Nat):cQ->cQ
 |.i k g=>.i k λj=>g (d+j)
 |.b g=>.b λj=>g (d+j)
 |.s g=>.s λj=>g (d+j)
 |.u=>.u
 |.q n g=>.q (λj=>n (d+j)) λj=>g (d+j)
def cQ.up (d:Nat):cQ->cQ
 |.i k g=>.i k λj=>g (j-d)
 |.b g=>.b λj=>g (j-d)
 |.s g=>.s λj=>g (j-d)
 |.u=>.u
 |.q n g=>.q (λj=>n (j-d)) λj=>g (j-d)
def cQ.aST (c:cQ)(e:Nat)(v:CV):Option cQ:=
 match c,v with
 |.i k g,.f (.i k' x)=>if k=k' then some (.i k λj=>cond (ww j e) x (g j)) else none
 |.b g,.f (.b x)=>some (.b λj=>cond (ww j e) x (g j))
 |.s g,.f (.s x)=>some (.s λj=>cond (ww j e) x (g j))
 |_,_=>none
def cQ.mrg (p:Nat->Bool)(c d:cQ):Option cQ:=
 match c,d with
 |.i k g,.i k' h=>if k=k' then some (.i k λj=>cond (p j) (g j) (h j)) else none
 |.b g,.b h=>some (.b λj=>cond (p j) (g j) (h j))
 |.s g,.s h=>some (.s λj=>cond (p j) (g j) (h j))
 |_,_=>none
def auY (p:Nat->Bool):List cQ->List cQ->Option (List cQ)
 | [],[]=>some []
 |c::cs,d::ds=>match cQ.mrg p c d,auY p cs ds with
  |some e,some es=>some (e::es)
  |_,_=>none
 |_,_=>none
def Sg.size:Sg->Nat
 |.c _=>1
 |.a n cols=>n.val*cols.length
def Sg.get:Sg->Nat->CV
 |.c v,j=>match j with
  |0=>v
  |_+1=>.f .u
 |.a _ cols,j=>match cols[j%cols.length]? with
  |some q=>.f (q.at (j/cols.length))
  |none=>.f .u
def af.size:af->Nat
 | []=>0
 |s::l=>s.size+af.size l
def af.get:af->Nat->CV
 | [],_=>.f .u
 |s::l,j=>if j<s.size then s.get j else af.get l (j-s.size)
def af.list (b:af):List CV:=(List.range b.size).map b.get
def CV.fv:CV->FV
 |.f v=>v
 |_=>.u
def RV.bR:RV->af
 |.c v=>[.c v]
 |.agg b=>b
def shC (sh:Bool)(e:Nat)(cols:List cQ):List cQ:=
 match sh with
 |true=>cols.map (cQ.shift e)
 |false=>cols
def aKC (sh:Bool)(cols:List cQ)(e m9:Nat)(cB:Sz)(z:Nat):Option af:=
 match ww m9 0&&ww (z%cols.length) 0 with
 |true=>some [.a (cB.mul (z/cols.length)) (shC sh e cols)]
 |false=>none
def rowsOf (sh:Bool)(cols:List cQ)(e m9:Nat)(cB:Sz)(z:Nat):Option af:=
 match cB with
 |.l n=>match ww n 1&&wl (m9+z) cols.length with
  |true=>some (((cols.drop m9).take z).map λq=>Sg.c (.f (q.at e)))
  |false=>aKC sh cols e m9 (.l n) z
 |.s n=>aKC sh cols e m9 (.s n) z
def Wi:af->Nat->Option af
 | [],m=>match m with
  |0=>some []
  |_+1=>none
 |.c v::r,m=>match m with
  |0=>some []
  |m+1=>(Wi r m).map (.c v:: ·)
 |.a n cols::r,m=>match m with
  |0=>some []
  |m+1=>match n with
   |.s _=>none
   |.l n=>match wl (n*cols.length) (m+1) with
    |true=>(Wi r (m+1-n*cols.length)).map (.a (.l n) cols:: ·)
    |false=>rowsOf false cols 0 0 (.l 1) (m+1)
def nz:Nat->Bool
 |0=>false
 |_+1=>true
def alx:af->Nat->Sz->Nat->Option af
 | [],c,cB,z=>match cB with
  |.l n=>match ww (n*z) 0 with
   |true=>some []
   |false=>none
  |.s _=>none
 |.c v::r,c,cB,z=>match c with
  |0=>match cB with
   |.l n=>Wi (.c v::r) (n*z)
   |.s _=>none
  |c+1=>alx r c cB z
 |.a n cols::r,c,cB,z=>match r with
  | []=>rowsOf (nz (c/cols.length)) cols (c/cols.length) (c%cols.length) cB z
  |_::_=>match n,cB with
   |.l n,.l m=>match wl (n*cols.length) c with
    |true=>alx r (c-n*cols.length) cB z
    |false=>match wl (c+m*z) (n*cols.length) with
     |true=>rowsOf (nz (c/cols.length)) cols (c/cols.length) (c%cols.length) cB z
     |false=>match c with
      |0=>Wi (.a (.l n) cols::r) (m*z)
      |_+1=>none
   |_,_=>none
def elemOf (c i z zc:Nat):Nat:=
 match ww z zc with
 |true=>match c/zc with
  |0=>i
  |q+1=>q+1+i
 |false=>c/zc+i*(z/zc)
def aAc:af->Nat->Nat->Nat->Sz->Nat->Option (Bool×af)
 | [],_,_,_,_,_=>none
 |.c v::r,c,i,z,cB,y=>match c with
  |0=>(alx (.c v::r) (i*z) cB y).map λb=>(true,b)
  |c+1=>aAc r c i z cB y
 |.a n cols::r,c,i,z,cB,y=>match r with
  | []=>match ww (z%cols.length) 0 with
   |true=>(rowsOf true cols (elemOf c i z cols.length) (c%cols.length) cB y).map λb=>(true,b)
   |false=>none
  |_::_=>match n with
   |.l n=>match wl (n*cols.length) c with
    |true=>aAc r (c-n*cols.length) i z cB y
    |false=>match ww (z%cols.length) 0 with
     |true=>(rowsOf true cols (elemOf c i z cols.length) (c%cols.length) cB y).map λb=>(wl (c+i*z+cB.val*y) (n*cols.length),b)
     |false=>none
   |.s _=>none
def af.sub (b:af)(o:cA)(cB:Sz)(z:Nat):Option (Bool×af):=
 match o with
 |.k c=>(alx b c cB z).map λb=>(true,b)
 |.x c i y=>aAc b c i y cB z
def agr:List cQ->Nat->Nat->CV->Option (List cQ)
 | [],_,_,_=>none
 |c::cs,0,e,v=>(cQ.aST c e v).map (·::cs)
 |c::cs,j+1,e,v=>(agr cs j e v).map (c:: ·)
def DA (zc:Nat):List cQ->Nat->Nat->af->Option (List cQ)
 |cols,_,_,[]=>some cols
 |cols,e,m9,.c v::r=>match agr cols m9 e v with
  |some dN=>match ww (m9+1) zc with
   |true=>DA zc dN (e+1) 0 r
   |false=>DA zc dN e (m9+1) r
  |none=>none
 |_,_,_,.a _ _::_=>none
def aEx (cols:List cQ)(e m9:Nat)(v:af):Option (List cQ):=
 match v with
 | [.a m dN]=>match ww m9 0&&ww cols.length dN.length with
  |true=>auY (λj=>wl e j&&v9 j (e+m.val)) (dN.map (cQ.up e)) cols
  |false=>none
 |v=>DA cols.length cols e m9 v
def fH:af->af->Option af
 |b,[]=>some b
 |.c _::r,.c y::vs=>(fH r vs).map (.c y:: ·)
 |.a (.l n) cols::r,.a (.l m) dN::vs=>match ww n m&&ww cols.length dN.length with
  |true=>(fH r vs).map (.a (.l m) dN:: ·)
  |false=>none
 |_,_=>none
def aKD (n:Sz)(cols:List cQ)(v:af):Bool:=
 match n,v with
 |.l n,[.a (.l m) dN]=>ww n m&&ww cols.length dN.length
 |_,_=>false
def aly:af->Nat->af->Option af
 | [],_,v=>match v with
  | []=>some []
  |_::_=>none
 |.c x::r,c,v=>match c with
  |0=>fH (.c x::r) v
  |c+1=>(aly r c v).map (.c x:: ·)
 |.a n cols::r,c,v=>match r with
  | []=>match ww c 0&&aKD n cols v with
   |true=>some v
   |false=>(aEx cols (c/cols.length) (c%cols.length) v).map λcols=>[.a n cols]
  |_::_=>match n with
   |.s _=>none
   |.l n=>match wl (n*cols.length) c with
    |true=>(aly r (c-n*cols.length) v).map (.a (.l n) cols:: ·)
    |false=>match ww c 0&&aKD (.l n) cols v with
     |true=>some (v++r)
     |false=>match wl (c+af.size v) (n*cols.length) with
      |true=>(aEx cols (c/cols.length) (c%cols.length) v).map λcols=>.a (.l n) cols::r
      |false=>match c with
       |0=>fH (.a (.l n) cols::r) v
       |_+1=>none
def aAd:af->Nat->Nat->Nat->af->Option (Bool×af)
 | [],_,_,_,_=>none
 |.c x::r,c,i,z,v=>match c with
  |0=>(aly (.c x::r) (i*z) v).map λb=>(true,b)
  |c+1=>(aAd r c i z v).map λp=>(p.1,.c x::p.2)
 |.a n cols::r,c,i,z,v=>match r with
  | []=>match ww (z%cols.length) 0 with
   |true=>(aEx cols (elemOf c i z cols.length) (c%cols.length) v).map λcols=>(true,[.a n cols])
   |false=>none
  |_::_=>match n with
   |.l n=>match wl (n*cols.length) c with
    |true=>(aAd r (c-n*cols.length) i z v).map λp=>(p.1,.a (.l n) cols::p.2)
    |false=>match ww (z%cols.length) 0 with
     |true=>(aEx cols (elemOf c i z cols.length) (c%cols.length) v).map λcols=>(wl (c+i*z+af.size v) (n*cols.length),.a (.l n) cols::r)
     |false=>none
   |.s _=>none
def af.zV (b:af)(o:cA)(v:af):Option (Bool×af):=
 match o with
 |.k c=>(aly b c v).map λb=>(true,b)
 |.x c i z=>aAd b c i z v
def Wj:af->Bool
 | []=>true
 |.c _::r=>Wj r
 |.a _ _::_=>false
def aKE:FV->Option cQ
 |.i k x=>some (.i k λ_=>x)
 |.b x=>some (.b λ_=>x)
 |.s x=>some (.s λ_=>x)
 |.u=>none
 |.q _ _=>none
def El:Nat->af->Option (List cQ)
 |0,_=>some []
 |z+1,.c (.f v)::r=>match aKE v,El z r with
  |some c,some cs=>some (c::cs)
  |_,_=>none
 |_+1,_=>none
def rowOf (z:Nat)(b:af):Option af:=
 match Wj b&&(wl 1 z&&ww (b.length%z) 0) with
 |true=>match El z b with
  |some cols=>(DA z cols 0 0 b).map λcols=>[.a (.l (b.length/z)) cols]
  |none=>none
 |false=>none
def ags (cols:List cQ):List Nat->af
 | []=>[]
 |j::l=>.c (match cols[j%cols.length]? with
  |some q=>.f (q.at (j/cols.length))
  |none=>.f .u)::ags cols l
def tG:af->af
 | []=>[]
 |.c v::r=>.c v::tG r
 |.a n cols::r=>match n with
  |.l n=>ags cols (List.range (n*cols.length))++tG r
  |.s n=>.a (.s n) cols::tG r
def aMY (n:Sz)(cols:List cQ)(b:af):Option af:=
 match Wj b&&(wl 1 cols.length&&ww (b.length%cols.length) 0) with
 |true=>(DA cols.length cols n.val 0 b).map λcs=>[.a (n.add (.l (b.length/cols.length))) cs]
 |false=>none
def aSU (n:Sz)(cols:List cQ)(b:af):Option af:=
 match b with
 | [.a m dN]=>match ww cols.length dN.length&&wl 1 cols.length with
  |true=>(auY (λj=>v9 j n.val) cols (dN.map (cQ.up n.val))).map λcols=>[.a (n.add m) cols]
  |false=>aMY n cols (tG b)
 |b=>aMY n cols (tG b)
def aSV:af->Bool
 | []=>true
 |.c _::r=>aSV r
 |.a (.l _) _::r=>aSV r
 |.a (.s _) _::_=>false
def af.app (a b:af):Option af:=
 match a,b with
 | [],b=>some b
 |a,[]=>some a
 | [.a n cols],b=>aSU n cols b
 |a,[.a m dN]=>match rowOf dN.length (tG a) with
  |some [.a n cols]=>aSU n cols [.a m dN]
  |_=>none
 |a,b=>match aSV a&&aSV b with
  |true=>some (a++b)
  |false=>none
def atg (z:Nat)(b:af):af:=
 match b with
 | []=>[]
 | [.a n cols]=>match ww cols.length z with
  |true=>[.a n cols]
  |false=>match rowOf z (tG [.a n cols]) with
   |some b=>b
   |none=>[.a n cols]
 |b=>match rowOf z (tG b) with
  |some r=>r
  |none=>b
structure St where
 tmps:List AV
 heap:List (Option af)
 dk:List Nat
def St.bR (s:St)(b:Nat):Option af:=(s.heap[b]?).getD none
def alz (l:List AV):Nat->AV:=List.rec (motive:=λ_=>Nat->AV) (λ_=>udf) (λa _ ih i=>Nat.rec (motive:=λ_=>AV) a (λm _=>ih m) i) l
def St.tmp (s:St)(i:Nat):AV:=alz s.tmps i
def aAe {α ρ:Type}(l:List α):Nat->α->(List α->Option ρ)->Option ρ:=
 List.rec (motive:=λ_=>Nat->α->(List α->Option ρ)->Option ρ) (λ_ _ _=>none)
  (λa l ih i v k=>Nat.rec (motive:=λ_=>Option ρ) (k (v::l)) (λm _=>ih m v λl'=>k (a::l')) i) l
inductive Fp where
 |t (i:Nat)
 |c (b:Nat) (r:Option (Nat×Nat))
 |z (b:Nat)
inductive Up where
 |t (i:Nat) (v:AV)
 |c (b:Nat) (o:cA) (v:af)
 |new (b:Nat) (bR:af)
 |kill (b:Nat)
def ext (o:cA)(cB:Sz)(z:Nat):Option (Nat×Nat):=
 match o,cB with
 |.k c,.l n=>some (c,n*z)
 |_,_=>none
def szL:af->Option Nat
 | []=>some 0
 |.c _::r=>(szL r).map (1+ ·)
 |.a (.l n) cols::r=>(szL r).map (n*cols.length+ ·)
 |.a (.s _) _::_=>none
def aMZ (o:cA)(v:af):Option (Nat×Nat):=
 match o with
 |.k c=>(szL v).map λn=>(c,n)
 |_=>none
inductive Rd (α:Type):Type 1 where
 |ret (a:α)
 |fail
 |tm (i:Nat) (k:AV->Rd α)
 |vw (b:Nat) (o:cA) (cB:Sz) (z:Nat) (k:af->Rd α)
 |sz (b:Nat) (k:Rd α)
 |test (x:Bool) (k:Bool->Rd α)
 |opt {D:Type} (x:Option D) (k:D->Rd α)
def Rd.bind {α β:Type}:Rd α->(α->Rd β)->Rd β
 |.ret a,f=>f a
 |.fail,_=>.fail
 |.tm i k,f=>.tm i λv=>(k v).bind f
 |.vw b o cB z k,f=>.vw b o cB z λv=>(k v).bind f
 |.sz b k,f=>.sz b (k.bind f)
 |.test x k,f=>.test x λv=>(k v).bind f
 |.opt x k,f=>.opt x λv=>(k v).bind f
def dX {α:Type}:Option α->Rd α
 |some a=>.ret a
 |none=>.fail
def cH (x:Bool):Rd Unit:=.test x λ|true=>.ret ()|false=>.fail
def Rd.run {α ρ:Type}:Rd α->St->List Fp->(α->List Fp->Option ρ)->Option ρ
 |.ret a,_,l,k=>k a l
 |.fail,_,_,_=>none
 |.tm i m,s,l,k=>(m (s.tmp i)).run s (.t i::l) k
 |.vw b o cB z m,s,l,k=>
  match s.bR b with
  |some bR=>match bR.sub o cB z with
   |some p=>match p.1 with
    |true=>(m p.2).run s (.z b:: .c b (ext o cB z)::l) k
    |false=>none
   |none=>none
  |none=>none
 |.sz b m,s,l,k=>
  match s.bR b with
  |some _=>m.run s (.z b::l) k
  |none=>none
 |.test x m,s,l,k=>
  match x with
  |true=>(m true).run s l k
  |false=>(m false).run s l k
 |.opt x m,s,l,k=>
  match x with
  |some d=>(m d).run s l k
  |none=>none
def aEy (b:af)(o:cA)(cB:Sz)(z:Nat):Rd af:=
 match b.sub o cB z with
 |some p=>.test p.1 λ|true=>.ret p.2|false=>.fail
 |none=>.fail
def ofC:Value->Option CV
 |.bool b=>some (.f (.b b))
 |.int k n=>some (.f (.i k n))
 |.string s=>some (.f (.s s))
 |.pointer none=>some .ai2
 |.slice none 0 0=>some .nils
 |.nilFunc=>some .aSR
 |.nilIface=>some .aSS
 |_=>none
def aIO:List Value->Option af
 | []=>some []
 |v::vs=>match ofC v,aIO vs with
  |some c,some cs=>some (.c c::cs)
  |_,_=>none
def ofR:Value->Option RV
 |.agg cs=>(aIO cs.toList).map .agg
 |v=>(ofC v).map .c
def DW:Operand->Rd AV
 |.tmp t=>.tm t .ret
 |.const v=>(dX (ofR v)).bind λr=>.ret (.r r)
 |.func f=>.ret (.fn f [])
 |.global _=>.fail
def asR:AV->Rd RV
 |.r v=>.ret v
 |_=>.fail
def asC:AV->Rd CV
 |.r (.c v)=>.ret v
 |_=>.fail
def asI:AV->Rd (IntKind×Int)
 |.r (.c (.f (.i k n)))=>.ret (k,n)
 |_=>.fail
def asB:AV->Rd Bool
 |.r (.c (.f (.b x)))=>.ret x
 |_=>.fail
def asP:AV->Rd (Nat×cA×Nat)
 |.r (.c (.ptr b o n))=>.ret (b,o,n)
 |_=>.fail
def vM (x:Operand):Rd RV:=(DW x).bind asR
def asS:AV->Rd RV
 |.r v=>.ret v
 |.fn f [.c (.ptr b o n)]=>.ret (.c (.cl f b o n))
 |_=>.fail
def aM0 (x:Operand):Rd RV:=(DW x).bind asS
def G9 (x:Operand):Rd CV:=(DW x).bind asC
def KF (x:Operand):Rd (IntKind×Int):=(DW x).bind asI
def aIP (x:Operand):Rd Bool:=(DW x).bind asB
def aM1 (x:Operand):Rd (Nat×cA×Nat):=(DW x).bind asP
def tH {α β:Type}(f:α->Rd β):List α->Rd (List β)
 | []=>.ret []
 |a::l=>(f a).bind λb=>(tH f l).bind λbs=>.ret (b::bs)
def aei (P:Program)(t:TypeId):Option Bool:=
 match P.underlying t with
 |some (.struct _)|some (.array _ _)=>some true
 |some _=>some false
 |none=>none
def iH (P:Program)(t:TypeId):Option Nat:=(P.info? t).map (·.size)
def agt (P:Program)(t:TypeId)(i:Nat):Option Field:=
 match P.underlying t with
 |some (.struct fs)=>fs[i]?
 |_=>none
def aSW (P:Program)(n:Nat)(e:TypeId):Bool:=
 wl 9 n||match P.underlying e with
 |some (.int .u64)=>wl 8 n
 |some (.struct _)=>wl 4 n
 |_=>false
inductive Tm where
 |c
 |a (n z:Nat)
def aSX {α:Type}:Nat->List α->List α
 |0,_=>[]
 |n+1,l=>l++aSX n l
def alA (P:Program):Nat->TypeId->List Tm
 |0,_=>[]
 |d+1,t=>match P.underlying t with
  |some (.struct fs)=>(fs.toList.map λf=>alA P d f.type).flatten
  |some (.array n e)=>match aSW P n e with
   |true=>match alA P d e with
    | [.a m z]=>[.a (n*m) z]
    |_=>[.a n ((iH P e).getD 0)]
   |false=>aSX n (alA P d e)
  |_=>[.c]
def FV.same:FV->FV->Bool
 |.b x,.b y=>x==y
 |.i k x,.i k' y=>decide (k=k')&&x==y
 |_,_=>false
def Wk (z:Nat)(row:af):Nat->af->Option af
 |0,b=>some b
 |m+1,.c (.f v)::r=>match row[(m%z)]? with
  |some (.c (.f y))=>match v.same y with
   |true=>Wk z row m r
   |false=>none
  |_=>none
 |_+1,_=>none
def ab2:List Tm->af->Option af
 | [],[]=>some []
 |.c::tm,.c v::r=>(ab2 tm r).map (.c v:: ·)
 |.a n z::tm,b=>match El z b with
  |some cols=>match wl 1 z with
   |true=>match Wk z ((b.take z).reverse) (n*z) b with
    |some r=>(ab2 tm r).map (.a (.l n) cols:: ·)
    |none=>none
   |false=>none
  |none=>none
 |_,_=>none
def Ah (P:Program)(t:TypeId):Option RV:=
 match((P.info? t).bind (·.zero)).bind ofR with
 |some (.agg b)=>(ab2 (alA P 30 t) b).map .agg
 |r=>r
def FV.isB:FV->Bool
 |.b _=>true
 |_=>false
def FV.toB:FV->Bool
 |.b x=>x
 |_=>false
def FV.isI (k:IntKind):FV->Bool
 |.i k' _=>decide (k'=k)
 |_=>false
def FV.toI:FV->Int
 |.i _ n=>n
 |_=>0
def FV.isS:FV->Bool
 |.s _=>true
 |_=>false
def FV.toS:FV->ByteArray
 |.s x=>x
 |_=>.empty
def aIQ (P:Program)(t:TypeId)(c:CV):Rd CV:=
 match P.underlying t,c with
 |some .bool,.f x=>.test x.isB λ|true=>.ret (.f (.b x.toB))|false=>.fail
 |some (.int k),.f x=>.test (x.isI k) λ|true=>.ret (.f (.i k x.toI))|false=>.fail
 |some .string,.f x=>.test x.isS λ|true=>.ret (.f (.s x.toS))|false=>.fail
 |some (.slice _),.f (.q n g)=>.ret (.fs n 1 [.b g])
 |_,c=>.ret c
def agu:List Tm->af->Option af
 | [],[]=>some []
 |.c::tm,.c v::r=>(agu tm r).map (.c v:: ·)
 |.a n z::tm,b=>match wl (n*z) b.length with
  |true=>match rowOf z (b.take (n*z)) with
   |some row=>(agu tm (b.drop (n*z))).map (row++ ·)
   |none=>none
  |false=>none
 |_,_=>none
def norm (P:Program)(t:TypeId)(l:af):af:=
 match Wj l&&wl 8 l.length with
 |true=>match agu (alA P 30 t) l with
  |some r=>r
  |none=>l
 |false=>match Wj l with
  |true=>l
  |false=>match(alA P 30 t).all (λ|.c=>true|.a _ _=>false) with
   |true=>tG l
   |false=>l
def aqA (P:Program)(t:TypeId)(v:RV):Rd RV:=
 match v with
 |.c c=>(aIQ P t c).bind λc=>.ret (.c c)
 |.agg l=>.ret (.agg (norm P t l))
def ath:af->Rd RV
 | [.c v]=>.ret (.c v)
 |_=>.fail
def aae (P:Program)(t:TypeId)(b:Nat)(o:cA)(m:Nat):Rd RV:=
 (dX (aei P t)).bind λa=>(dX (iH P t)).bind λn=>
  match a with
  |true=>(cH (wl n m)).bind λ_=>.vw b o (.l 1) n λl=>.ret (.agg l)
  |false=>(cH (wl 1 m)).bind λ_=>.vw b o (.l 1) 1 ath
def valueOf (P:Program)(t:TypeId)(b:Nat)(o:cA)(m:Nat):Rd RV:=(aae P t b o m).bind (aqA P t)
def aKF (P:Program)(t:TypeId)(cs:af)(o:cA):Rd RV:=
 (dX (aei P t)).bind λa=>(dX (iH P t)).bind λn=>
  match a with
  |true=>(aEy cs o (.l 1) n).bind λl=>.ret (.agg l)
  |false=>(aEy cs o (.l 1) 1).bind ath
def partOf (P:Program)(t:TypeId)(cs:af)(o:cA):Rd RV:=(aKF P t cs o).bind (aqA P t)
def Ot (P:Program)(t:TypeId)(cs:af)(c:Nat):Rd RV:=
 (dX (iH P t)).bind λn=>(cH (wl 1 n&&wl (c+n) (af.size cs))).bind λ_=>partOf P t cs (.k c)
def ati (op:BinOp)(k:IntKind)(x y:Int):Option Int:=
 let a:=BitVec.ofInt k.bits x
 let b:=BitVec.ofInt k.bits y
 match op with
 |.and=>some (k.wrap (a&&&b).toNat)
 |.or=>some (k.wrap (a|||b).toNat)
 |.xor=>some (k.wrap (a^^^b).toNat)
 |.andNot=>some (k.wrap (a&&& ~~~b).toNat)
 |_=>none
def aXE (op:BinOp)(k:IntKind)(x y:Int):Rd FV:=
 match op with
 |.add=>.ret (.i k (k.wrap (x+y)))
 |.sub=>.ret (.i k (k.wrap (x-y)))
 |.mul=>.ret (.i k (k.wrap (x*y)))
 |.quo=>(cH (!decide (y=0))).bind λ_=>.ret (.i k (k.wrap (x.tdiv y)))
 |.rem=>(cH (!decide (y=0))).bind λ_=>.ret (.i k (x.tmod y))
 |.eql=>.ret (.b (x==y))
 |.neq=>.ret (.b (x !=y))
 |.lss=>.ret (.b (decide (x<y)))
 |.leq=>.ret (.b (decide (x<=y)))
 |.gtr=>.ret (.b (decide (x>y)))
 |.geq=>.ret (.b (decide (x>=y)))
 |.shl|.shr=>.fail
 |op=>(dX (ati op k x y)).bind λn=>.ret (.i k n)
def aSY (op:BinOp)(k:IntKind)(x y:Int):Rd FV:=
 (cH (!decide (y<0))).bind λ_=>
  match op with
  |.shl=>.ret (.i k (k.wrap (x*2^(min y.toNat k.bits))))
  |.shr=>.ret (.i k (x.fdiv (2^(min y.toNat k.bits))))
  |_=>.fail
def auZ (n:Nat)(p:Nat->Bool):Bool:=(List.range n).all p
def aEz (n:Nat):List cQ->List cQ->Option Bool
 | [.i k g],[.i k' h]=>if k=k' then some (auZ n λj=>g j==h j) else none
 | [.b g],[.b h]=>some (auZ n λj=>g j==h j)
 |_,_=>none
def aej (P:Program)(e:TypeId)(c:List cQ):Bool:=
 match P.underlying e,c with
 |some .bool,[.b _]=>true
 |some (.int _),[.i _ _]=>true
 |_,_=>false
def aM2 (P:Program)(ai3:TypeId->RV->RV->Rd Bool)(xs ys:af):List Field->Rd Bool
 | []=>.ret true
 |f::fs=>if f.name≠"_" then
   (Ot P f.type xs f.offset).bind λa=>(Ot P f.type ys f.offset).bind λb=>(ai3 f.type a b).bind λr=>(aM2 P ai3 xs ys fs).bind λs=>.ret (r&&s)
  else aM2 P ai3 xs ys fs
def aXF (P:Program)(ai3:TypeId->RV->RV->Rd Bool)(e:TypeId)(z:Nat)(xs ys:af):List Nat->Rd Bool
 | []=>.ret true
 |i::l=>(Ot P e xs (i*z)).bind λa=>(Ot P e ys (i*z)).bind λb=>(ai3 e a b).bind λr=>(aXF P ai3 e z xs ys l).bind λs=>.ret (r&&s)
def aXG (P:Program)(d n z:Nat)(e:TypeId)(xs ys:af):Option Bool:=
 match xs,ys with
 | [.a (.l m) c],[.a (.l m') c']=>match wl 1 d&&(ww z 1&&(ww m n&&(ww m' n&&aej P e c))) with
  |true=>aEz n c c'
  |false=>none
 |_,_=>none
def eqT (P:Program):Nat->TypeId->RV->RV->Rd Bool
 |0,_,_,_=>.fail
 |d+1,t,x,y=>match P.underlying t,x,y with
  |some .bool,.c (.f (.b a)),.c (.f (.b b))=>.ret (a==b)
  |some (.int _),.c (.f (.i k a)),.c (.f (.i k' b))=>if k=k' then .ret (a==b) else .fail
  |some .string,.c (.f (.s a)),.c (.f (.s b))=>.ret (a==b)
  |some (.pointer _),.c .ai2,.c .ai2=>.ret true
  |some (.pointer _),.c (.ptr _ _ _),.c .ai2|some (.pointer _),.c .ai2,.c (.ptr _ _ _)=>.ret false
  |some (.struct fs),.agg xs,.agg ys=>match P.stoodInHeld t with
   |true=>.fail
   |false=>aM2 P (eqT P d) xs ys fs.toList
  |some (.array n e),.agg xs,.agg ys=>(dX (iH P e)).bind λz=>match aXG P d n z e xs ys with
   |some r=>.ret r
   |none=>aXF P (eqT P d) e z xs ys (List.range n)
  |_,_,_=>.fail
def eqV (P:Program)(t:TypeId)(x y:RV):Rd Bool:=
 match x,y with
 |.agg _,.agg _=>match P.eqGuardType P.depth t with
  |true=>.fail
  |false=>eqT P 30 t x y
 |.c (.f (.i _ _)),_|.c (.f (.s _)),_|.c (.f .u),_|.c (.f (.q _ _)),_=>.fail
 |_,_=>eqT P 30 t x y
def aXH (P:Program)(op:BinOp)(t:TypeId)(x y:RV):Rd RV:=
 match x,y with
 |.c (.f (.i k a)),.c (.f (.i k' b))=>
  match op with
  |.shl|.shr=>(aSY op k a b).bind λv=>.ret (.c (.f v))
  |op=>if k=k' then(aXE op k a b).bind λv=>.ret (.c (.f v)) else .fail
 |x,y=>
  match op with
  |.eql=>(eqV P t x y).bind λr=>.ret (.c (.f (.b r)))
  |.neq=>(eqV P t x y).bind λr=>.ret (.c (.f (.b (!r))))
  |_=>.fail
def unV (op:UnOp)(x:RV):Rd RV:=
 match op,x with
 |.neg,.c (.f (.i k n))=>.ret (.c (.f (.i k (k.wrap (0-n)))))
 |.xor,.c (.f (.i k n))=>(dX (ati .xor k (if k.signed then -1 else k.max) n)).bind λr=>.ret (.c (.f (.i k r)))
 |.not,.c (.f (.b x))=>.ret (.c (.f (.b (!x))))
 |_,_=>.fail
def aRg (P:Program)(src dst:TypeId)(x:RV):Rd RV:=
 match P.underlying src,P.underlying dst,x with
 |some _,some (.int k),.c (.f (.i _ n))=>.ret (.c (.f (.i k (k.wrap n))))
 |_,_,_=>.fail
def aX (i:Int)(n:Nat):Bool:=decide (0<=i)&&decide (i<(n:Int))
def KG (i:Int)(n:Nat):Bool:=decide (0<=i)&&decide (i<=(n:Int))
def aqB (i:Int):Nat->Rd Nat
 |0=>.ret 0
 |n+1=>.test (i==((n+1:Nat):Int)) λ|true=>.ret (n+1)|false=>aqB i n
def sel (P:Program)(o:cA)(i:Int)(n:Nat)(e:TypeId)(z:Nat):Rd cA:=
 match aSW P n e with
 |true=>.ret (o.idx i.toNat z n)
 |false=>match wl n 8 with
  |true=>(aqB i (n-1)).bind λj=>.ret (o.add (j*z))
  |false=>.ret (o.idx i.toNat z n)
def aM3 (P:Program)(o:cA)(i:Int)(len:Sz)(e:TypeId)(z:Nat):Rd cA:=
 match len with
 |.l n=>match !aSW P n e&&wl n 8 with
  |true=>(aqB i (n-1)).bind λj=>.ret (o.add (j*z))
  |false=>.ret (o.aMX i.toNat z)
 |.s _=>.ret (o.aMX i.toNat z)
def aEA (l:List FV):af:=l.map λv=>.c (.f v)
def aEB (P:Program)(t:TypeId)(l:List FV):Rd RV:=
 (dX (aei P t)).bind λa=>(dX (iH P t)).bind λn=>
  match a with
  |true=>(cH (ww n l.length)).bind λ_=>aqA P t (.agg (aEA l))
  |false=>match l with
   |v::_=>aqA P t (.c (.f v))
   | []=>.fail
def aym (P:Program)(t:TypeId)(x:CV)(i:Nat):Rd CV:=
 match x with
 |.fp l=>(dX (agt P t i)).bind λf=>(dX (iH P f.type)).bind λn=>
  (cH (wl 1 n&&wl (f.offset+n) l.length)).bind λ_=>.ret (.fp ((l.drop f.offset).take n))
 |.ptr b o m=>(dX (agt P t i)).bind λf=>(dX (iH P f.type)).bind λn=>
  (cH (wl 1 n&&wl (f.offset+n) m)).bind λ_=>.ret (.ptr b (o.add f.offset) n)
 |_=>.fail
def Em (b:ByteArray)(n:Nat):Int:=match b[n]? with
 |some x=>Int.ofNat x.toNat
 |none=>0
def ayn (P:Program)(t:TypeId)(x:CV)(i:Int):Rd CV:=
 match P.underlying t,x with
 |some (.array n e),.ptr b o m=>(dX (iH P e)).bind λz=>(cH (wl (n*z) m)).bind λ_=>
  (cH (aX i n)).bind λ_=>(sel P o i n e z).bind λo=>.ret (.ptr b o z)
 |some (.slice e),.sl b o len z' _=>(dX (iH P e)).bind λz=>(cH (ww z z')).bind λ_=>
  (cH (aX i len.val)).bind λ_=>(aM3 P o i len e z).bind λo=>.ret (.ptr b o z)
 |some (.slice e),.fs n z' cols=>(dX (iH P e)).bind λz=>(cH (ww z z')).bind λ_=>
  (cH (aX i n)).bind λ_=>.ret (.fp (cols.map λq=>q.at i.toNat))
 |some (.array n e),.fp l=>(dX (iH P e)).bind λz=>(cH (wl (n*z) l.length&&wl n 8)).bind λ_=>
  (cH (aX i n)).bind λ_=>(aqB i (n-1)).bind λj=>.ret (.fp ((l.drop (j*z)).take z))
 |_,_=>.fail
def aAf (x:Option Operand):Rd (Option Int):=
 match x with
 |none=>.ret none
 |some x=>(KF x).bind λi=>.ret (some i.2)
def UD (lo hi:Option Int)(n:Nat):Rd (Nat×Nat):=
 (match hi with
  |none=>Rd.ret n
  |some h=>(cH (KG h n)).bind λ_=>.ret h.toNat).bind λh=>
 (match lo with
  |none=>Rd.ret 0
  |some l=>(cH (KG l h)).bind λ_=>.ret l.toNat).bind λl=>.ret (l,h)
def szQ (q:Bool)(n:Nat):Sz:=
 match q with
 |true=>.l n
 |false=>.s n
def uV (x:Option Operand):Bool:=
 match x with
 |none=>true
 |some (.const _)=>true
 |_=>false
def aqC (q:Bool)(n:Sz):Bool:=
 match n with
 |.l _=>q
 |.s _=>false
def lenOf (q:Bool)(lo hi:Option Int)(n:Sz)(lh:Nat×Nat):Sz:=
 match lo,hi with
 |none,none=>n
 |none,some _=>szQ q lh.2
 |some _,_=>szQ q (lh.2-lh.1)
def agv (q:Bool)(lo:Option Int)(o:cA)(l z:Nat):cA:=
 match lo with
 |none=>o
 |some _=>match q with
  |true=>o.add (l*z)
  |false=>o.aMX l z
def au0 (lo:Option Int)(l:Nat)(cols:List cQ):List cQ:=
 match lo with
 |none=>cols
 |some _=>cols.map (cQ.shift l)
def aKG (P:Program)(t:TypeId)(x:CV)(q:Bool)(lo hi:Option Int):Rd CV:=
 match P.underlying t,x with
 |some (.array n e),.ptr b o m=>(dX (iH P e)).bind λz=>(cH (wl (n*z) m)).bind λ_=>
  (UD lo hi n).bind λlh=>.ret (.sl b (agv q lo o lh.1 z) (lenOf q lo hi (.l n) lh) z false)
 |some (.slice e),.sl b o len z own=>(dX (iH P e)).bind λz'=>(cH (ww z z')).bind λ_=>
  (UD lo hi len.val).bind λlh=>.ret (.sl b (agv (aqC q len) lo o lh.1 z) (lenOf (aqC q len) lo hi len lh) z (own&&hi.isNone))
 |some (.slice e),.nils=>(dX (iH P e)).bind λ_=>(UD lo hi 0).bind λ_=>.ret .nils
 |some (.slice e),.fs n z cols=>(dX (iH P e)).bind λz'=>(cH (ww z z')).bind λ_=>
  (UD lo hi n).bind λlh=>.ret (.fs (lenOf false lo hi (.s n) lh).val z (au0 lo lh.1 cols))
 |_,_=>.fail
def placesOf (P:Program)(t:TypeId):Option (Nat->Option (Nat×Nat)):=
 match P.underlying t with
 |some (.struct fs)=>(fs.toList.mapM λf=>(P.info? f.type).map λi=>(f.offset,i.size)).map λl i=>l[i]?
 |some (.array _ e)=>(iH P e).map λn i=>some (i*n,n)
 |_=>none
def alB (pl:Nat->Option (Nat×Nat)):af->List (Nat×RV)->Option af
 |cs,[]=>some cs
 |cs,(i,v)::rest=>match pl i with
  |none=>none
  |some (o,n)=>match ww (af.size v.bR) n&&wl (o+n) (af.size cs) with
   |true=>match aly cs o v.bR with
    |some SQ=>alB pl SQ rest
    |none=>none
   |false=>none
def rep:Nat->af->af
 |0,_=>[]
 |n+1,l=>l++rep n l
inductive Ch where
 |mb
 |set (b:af)
 |kill
structure oO where
 val:AV
 xH:List Ch
 news:List af
inductive T:Type 1 where
 |leaf (r:oO)
 |fail
 |test (x:Bool) (a b:T)
 |opt {D:Type} (x:Option D) (k:D->T)
def T.eval:T->Option oO
 |.leaf r=>some r
 |.fail=>none
 |.test x a b=>match x with
  |true=>a.eval
  |false=>b.eval
 |.opt x k=>match x with
  |some d=>(k d).eval
  |none=>none
def T.rd:T->Rd oO
 |.leaf r=>.ret r
 |.fail=>.fail
 |.test x a b=>.test x λ|true=>a.rd|false=>b.rd
 |.opt x k=>.opt x λd=>(k d).rd
abbrev EY:=List AV->List af->T
abbrev Env:=Nat->Option EY
structure Vw where
 b:Nat
 o:cA
 cB:Sz
 z:Nat
 sl:Bool
 own:Bool
def Vw.n (v:Vw):Nat:=v.cB.val*v.z
def ab3 (b:Nat)(e:Option (Nat×Nat)):List Vw->Nat->Option (Nat×Nat×Bool)
 | [],_=>none
 |v::vs,i=>match ww v.b b with
  |false=>ab3 b e vs (i+1)
  |true=>match e,ext v.o v.cB v.z with
   |some (o,n),some (o',n')=>match wl o' o&&wl (o+n) (o'+n') with
    |true=>some (i,o-o',v.own)
    |false=>ab3 b e vs (i+1)
   |_,_=>ab3 b e vs (i+1)
def au1 (b:Nat)(e:Option (Nat×Nat))(vs:List Vw):Bool:=
 vs.all λv=> !Nat.beq v.b b||match e,ext v.o v.cB v.z with
  |some (o,n),some (o',n')=>wl (o+n) o'||wl (o'+n') o
  |_,_=>false
def aSZ (c:CV)(vs:List Vw):Rd (CV×List Vw):=
 match c with
 |.ptr b o n=>match ab3 b (ext o (.l 1) n) vs 0 with
  |some (i,d,_)=>.ret (.ptr i (.k d) n,vs)
  |none=>(cH (au1 b (ext o (.l 1) n) vs)).bind λ_=>.ret (.ptr vs.length (.k 0) n,vs++[⟨b,o,.l 1,n,false,false⟩])
 |.cl f b o n=>match ab3 b (ext o (.l 1) n) vs 0 with
  |some (i,d,_)=>.ret (.cl f i (.k d) n,vs)
  |none=>(cH (au1 b (ext o (.l 1) n) vs)).bind λ_=>.ret (.cl f vs.length (.k 0) n,vs++[⟨b,o,.l 1,n,false,false⟩])
 |.sl b o len z own=>match ab3 b (ext o len z) vs 0 with
  |some (i,d,ow)=>.ret (.sl i (.k d) (.s len.val) z (own&&ow),vs)
  |none=>(cH (au1 b (ext o len z) vs)).bind λ_=>
   .ret (.sl vs.length (.k 0) (.s len.val) z (own&&vs.all λv=> !Nat.beq v.b b|| !v.own),vs++[⟨b,o,len,z,true,own&&vs.all λv=> !Nat.beq v.b b|| !v.own⟩])
 |c=>.ret (c,vs)
def aM4:af->List Vw->Rd (af×List Vw)
 | [],vs=>.ret ([],vs)
 |.c c::cs,vs=>(aSZ c vs).bind λx=>(aM4 cs x.2).bind λy=>.ret (.c x.1::y.1,y.2)
 |.a n cols::cs,vs=>(aM4 cs vs).bind λy=>.ret (.a n cols::y.1,y.2)
def aS0 (r:RV)(vs:List Vw):Rd (RV×List Vw):=
 match r with
 |.c c=>(aSZ c vs).bind λx=>.ret (.c x.1,x.2)
 |.agg cs=>(aM4 cs vs).bind λx=>.ret (.agg x.1,x.2)
def aEC:List RV->List Vw->Rd (List RV×List Vw)
 | [],vs=>.ret ([],vs)
 |c::cs,vs=>(aS0 c vs).bind λx=>(aEC cs x.2).bind λy=>.ret (x.1::y.1,y.2)
def aXI (a:AV)(vs:List Vw):Rd (AV×List Vw):=
 match a with
 |.r r=>(aS0 r vs).bind λx=>.ret (.r x.1,x.2)
 |.tup rs=>(aEC rs vs).bind λx=>.ret (.tup x.1,x.2)
 |.fn f rs=>(aEC rs vs).bind λx=>.ret (.fn f x.1,x.2)
 |.Wh=>.ret (.Wh,vs)
def aKH:List AV->List Vw->Rd (List AV×List Vw)
 | [],vs=>.ret ([],vs)
 |c::cs,vs=>(aXI c vs).bind λx=>(aKH cs x.2).bind λy=>.ret (x.1::y.1,y.2)
def toS (b:af):af:=
 match b with
 | [.a n cols]=>[.a (.s n.val) cols]
 |b=>b
def aRh (sl:Bool)(z:Nat)(b:af):af:=
 match sl with
 |true=>toS (atg z b)
 |false=>b
def aS1:Nat->Nat->List Vw->List af->Rd (List af×List Vw)
 |0,_,_,_=>.fail
 |fuel+1,i,vs,acc=>match vs[i]? with
  |none=>.ret (acc,vs)
  |some v=>.vw v.b v.o v.cB v.z λcs=>
   (aM4 (aRh v.sl v.z cs) vs).bind λx=>aS1 fuel (i+1) x.2 (acc++[x.1])
def Lu (vs:List Vw)(aJ:Nat):CV->CV
 |.ptr j d n=>match vs[j]? with
  |some v=>.ptr v.b (v.o.plus d) n
  |none=>.ptr (aJ+(j-vs.length)) d n
 |.cl f j d n=>match vs[j]? with
  |some v=>.cl f v.b (v.o.plus d) n
  |none=>.cl f (aJ+(j-vs.length)) d n
 |.sl j d len z own=>match vs[j]? with
  |some v=>.sl v.b (v.o.plus d) len z (own&&v.own)
  |none=>.sl (aJ+(j-vs.length)) d len z own
 |c=>c
def KH (f:CV->CV):af->af
 | []=>[]
 |.c v::r=>.c (f v)::KH f r
 |.a n cols::r=>.a n cols::KH f r
def aS2 (vs:List Vw)(aJ:Nat):RV->RV
 |.c c=>.c (Lu vs aJ c)
 |.agg cs=>.agg (KH (Lu vs aJ) cs)
def aM5 (vs:List Vw)(aJ:Nat):AV->AV
 |.r r=>.r (aS2 vs aJ r)
 |.tup rs=>.tup (rs.map (aS2 vs aJ))
 |.fn f rs=>.fn f (rs.map (aS2 vs aJ))
 |.Wh=>.Wh
def Ht (vs:List Vw)(aJ:Nat):List af->Nat->List Up
 | [],_=>[]
 |b::bs,j=>.new (aJ+j) (KH (Lu vs aJ) b)::Ht vs aJ bs (j+1)
def Ai (all:List Vw)(aJ:Nat):List Vw->List Ch->Option (Bool×List Up)
 | [],[]=>some (true,[])
 |_::vs,.mb::cs=>Ai all aJ vs cs
 |v::vs,.set b::cs=>match Ai all aJ vs cs with
  |some p=>some (p.1&&ww (af.size b) v.n,.c v.b v.o (KH (Lu all aJ) b)::p.2)
  |none=>none
 |_::vs,.kill::cs=>Ai all aJ vs cs
 |_,_=>none
def oT:List Vw->List Ch->List Up
 |v::vs,.kill::cs=>.kill v.b::oT vs cs
 |_::vs,_::cs=>oT vs cs
 |_,_=>[]
def dO (dst:Option Tmp)(v:AV):List Up:=
 match dst with
 |some d=>[.t d v]
 |none=>[]
def aXJ (E:Env)(f:Nat)(args:List AV)(dst:Option Tmp)(aJ:Nat):Rd (List Up):=
 (aKH args []).bind λx=>(aS1 1000 0 x.2 []).bind λy=>
  match E f with
  |none=>.fail
  |some F=>(F x.1 y.1).rd.bind λr=>
   (dX (Ai y.2 aJ y.2 r.xH)).bind λus=>(cH us.1).bind λ_=>
    .ret (dO dst (aM5 y.2 aJ r.val)++(us.2++(oT y.2 r.xH++Ht y.2 aJ r.news 0)))
def aS3:CV->Rd Nat
 |.sl _ _ n _ _=>.ret n.val
 |.nils=>.ret 0
 |.fs n _ _=>.ret n
 |.f (.s x)=>.ret x.size
 |_=>.fail
def slB (z:Nat):CV->Rd (Sz×af)
 |.sl b o n z' _=>(cH (ww z z')).bind λ_=>.vw b o n z λk=>.ret (n,k)
 |.nils=>.ret (.l 0,[])
 |.fs n z' cols=>(cH (ww z z')).bind λ_=>.ret (.s n,[.a (.s n) cols])
 |_=>.fail
def aED (P:Program)(t:TypeId)(s x:CV)(dst:Option Tmp)(aJ:Nat):Rd (List Up):=
 match P.underlying t with
 |some (.slice e)=>(dX (iH P e)).bind λz=>(dX ((P.info? e).map (·.bytes))).bind λby_=>(dX (Ah P e)).bind λzv=>
  (cH (wl 1 z&&(wl 1 by_&&ww (af.size zv.bR) z))).bind λ_=>
  (slB z x).bind λxb=>
  match s with
  |.nils=>(cH (wl (xb.1.val*by_) 140737488355328)).bind λ_=>
   .ret (dO dst (.r (.c (.sl aJ (.k 0) xb.1 z true)))++[.new aJ xb.2])
  |.sl b o n z' true=>(cH (ww z z')).bind λ_=>(cH (wl ((n.val+xb.1.val)*by_) 140737488355328)).bind λ_=>
   .sz b<|
   .vw b o n z λsb=>(dX (sb.app xb.2)).bind λnb=>
    (cH (match x with|.sl b' _ _ _ _=> !Nat.beq b b'|_=>true)).bind λ_=>
    .ret (dO dst (.r (.c (.sl aJ (.k 0) (n.add xb.1) z true)))++[.kill b,.new aJ nb])
  |_=>.fail
 |_=>.fail
def aIR (v:Nat):Nat->Rd Nat
 |0=>.ret 0
 |k+1=>.test (wl (k+1) v) λ|true=>.ret (k+1)|false=>aIR v k
def aM6 (n n':Sz):Rd (Bool×Sz):=
 match n,n' with
 |.l k,.s v=>match wl k 8 with
  |true=>(aIR v k).bind λj=>.ret (true,.l j)
  |false=>.ret (false,Sz.least (.s v) (.l k))
 |n,n'=>.ret (false,Sz.least n' n)
def copyV (P:Program)(t:TypeId)(d x:CV)(dst:Option Tmp):Rd (List Up):=
 match P.underlying t with
 |some (.slice e)=>(dX (iH P e)).bind λz=>
  match d,x with
  |.sl b o n z1 _,.sl b' o' n' z2 _=>(cH (ww z z1&&ww z z2)).bind λ_=>
   (cH (!Nat.beq b b')).bind λ_=>(aM6 n n').bind λm=>
   .vw b' o' m.2 z λl=>.sz b<|
    .ret (dO dst (.r (.c (.f (.i .i64 (m.2.val:Int)))))++[.c b o (cond m.1 (tG l) l)])
  |_,_=>.fail
 |_=>.fail
def aXK:FV->FV->Rd FV
 |.i k x,.i k' y=>if k=k' then .ret (.i k (if y<x then y else x)) else .fail
 |_,_=>.fail
def aXL:FV->FV->Rd FV
 |.i k x,.i k' y=>if k=k' then .ret (.i k (if y>x then y else x)) else .fail
 |_,_=>.fail
def au2 {α β:Type}(f:β->α->Rd β):β->List α->Rd β
 |b,[]=>.ret b
 |b,a::l=>(f b a).bind λb'=>au2 f b' l
def asF:AV->Rd FV
 |.r (.c (.f v))=>.ret v
 |_=>.fail
def biV (P:Program)(bi:Builtin)(ts:Array TypeId)(args:List AV)(dst:Option Tmp)(aJ:Nat):Rd (List Up):=
 match bi,args with
 |.len,[x]=>(dX ((ts[0]?).bind P.underlying)).bind λ
  |.array n _=>.ret (dO dst (.r (.c (.f (.i .i64 (n:Int))))))
  |.slice _=>(asC x).bind λc=>(match c with|.f _=>Rd.fail|c=>aS3 c).bind λn=>.ret (dO dst (.r (.c (.f (.i .i64 (n:Int))))))
  |.string=>(asC x).bind λc=>(match c with|.f (.s x)=>Rd.ret x.size|_=>Rd.fail).bind λn=>.ret (dO dst (.r (.c (.f (.i .i64 (n:Int))))))
  |_=>.fail
 |.append,[s,x]=>(dX (ts[0]?)).bind λt=>(cH (match ts.toList with| [t1,t2]=>ww t1 t2|_=>false)).bind λ_=>
  (asC s).bind λs=>(asC x).bind λx=>aED P t s x dst aJ
 |.copy,[d,x]=>(dX (ts[0]?)).bind λt=>(asC d).bind λd=>(asC x).bind λx=>copyV P t d x dst
 |.min,x::l=>(asF x).bind λx=>(tH asF l).bind λl=>(au2 aXK x l).bind λv=>.ret (dO dst (.r (.c (.f v))))
 |.max,x::l=>(asF x).bind λx=>(tH asF l).bind λl=>(au2 aXL x l).bind λv=>.ret (dO dst (.r (.c (.f v))))
 |_,_=>.fail
def a0T:AV->Rd (Nat×List RV)
 |.fn f aeh=>.ret (f,aeh)
 |.r (.c (.cl f b o n))=>.ret (f,[.c (.ptr b o n)])
 |_=>.fail
def apo (P:Program)(e:TypeId)(n z:Nat)(b:af):af:=
 match !aSW P n e&&wl n 8 with
 |true=>b
 |false=>atg z b
inductive CK where
 |i (k:IntKind)
 |b
 |s
def CK.m9:CK->cQ
 |.i k=>.i k λ_=>0
 |.b=>.b λ_=>false
 |.s=>.s λ_=>.empty
def ckT (P:Program):Nat->TypeId->Option (List CK)
 |0,_=>none
 |d+1,t=>match P.underlying t with
  |some .bool=>some [.b]
  |some (.int k)=>some [.i k]
  |some .string=>some [.s]
  |some (.struct fs)=>fs.toList.foldr (λf l=>match ckT P d f.type,l with
   |some a,some b=>some (a++b)
   |_,_=>none) (some [])
  |some (.array n e)=>(ckT P d e).map (aSX n)
  |_=>none
def aKI (P:Program):Nat->TypeId->List (Option (Nat×List CK))
 |0,_=>[]
 |d+1,t=>match P.underlying t with
  |some (.struct fs)=>(fs.toList.map λf=>aKI P d f.type).flatten
  |some (.array n e)=>aSX n (aKI P d e)
  |some (.slice e)=>[match iH P e,ckT P 30 e with
   |some z,some ks=>some (z,ks)
   |_,_=>none]
  |_=>[none]
def SS:List (Option (Nat×List CK))->af->Nat->af×List af
 |_,[],_=>([],[])
 |ks,.a n cols::r,b=>let x:=SS (ks.drop (n.val*cols.length)) r b;(.a n cols::x.1,x.2)
 |ks,.c v::r,b=>match v,ks with
  |.nils,some (z,k)::ks=>let x:=SS ks r (b+1);(.c (.sl b (.k 0) (.s 0) z true)::x.1,[.a (.s 0) (k.map CK.m9)]::x.2)
  |v,ks=>let x:=SS (ks.drop 1) r b;(.c v::x.1,x.2)
def aS4:af->Bool
 | []=>false
 |.c .nils::_=>true
 |_::r=>aS4 r
def iN (P:Program)(t:TypeId)(b:af)(aJ:Nat):af×List af:=
 match aS4 b with
 |true=>SS (aKI P 30 t) b aJ
 |false=>(b,[])
def By:List af->Nat->List Up
 | [],_=>[]
 |b::bs,n=>.new n b::By bs (n+1)
def au3 (dst:Option Tmp)(aJ n:Nat)(cs:af):List Up:=dO dst (.r (.c (.ptr aJ (.k 0) n)))++[.new aJ cs]
def aop (P:Program)(E:Env)(o:Oper)(aJ:Nat):Rd (List Up):=
 let val (m:Rd RV):Rd (List Up):=m.bind λv=>.ret (dO o.dst (.r v))
 let cel (m:Rd CV):Rd (List Up):=m.bind λv=>.ret (dO o.dst (.r (.c v)))
 match o.op with
 |.move x|.assign x=>(DW x).bind λv=>.ret (dO o.dst v)
 |.pick c a b=>(aIP c).bind λx=>.test x λ
  |true=>(DW a).bind λv=>.ret (dO o.dst v)
  |false=>(DW b).bind λv=>.ret (dO o.dst v)
 |.alloc e=>(dX (Ah P e)).bind λz=>.ret (By (iN P e z.bR aJ).2 aJ++au3 o.dst (aJ+(iN P e z.bR aJ).2.length) (af.size (iN P e z.bR aJ).1) (iN P e z.bR aJ).1)
 |.box t x=>(vM x).bind λv=>.ret (By (iN P t v.bR aJ).2 aJ++au3 o.dst (aJ+(iN P t v.bR aJ).2.length) (af.size (iN P t v.bR aJ).1) (iN P t v.bR aJ).1)
 |.makeSlice t n c=>match P.underlying t with
  |some (.slice e)=>(dX (Ah P e)).bind λz=>(dX (iH P e)).bind λq=>(KF n).bind λn=>(KF c).bind λc=>
   (cH (decide (n.2=0)&&decide (c.2=0))).bind λ_=>(dX (El q z.bR)).bind λcols=>
   .ret (dO o.dst (.r (.c (.sl aJ (.k 0) (.s 0) q true)))++[.new aJ [.a (.s 0) cols]])
  |_=>.fail
 |.build t ps=>(dX (Ah P t)).bind λz=>(tH (λp=>(vM p.2).bind λv=>.ret (p.1,v)) ps.toList).bind λl=>
  (dX (placesOf P t)).bind λpl=>(dX (alB pl z.bR l)).bind λcs=>.ret (dO o.dst (.r (.agg cs)))
 |.buildSlice t n ps=>match P.underlying t with
  |some (.slice e)=>(dX (Ah P e)).bind λz=>(dX (iH P e)).bind λq=>
   (cH (wl 1 q&&wl (n*q) 16777216)).bind λ_=>
   (tH (λp=>(vM p.2).bind λv=>.ret (p.1,v)) ps.toList).bind λl=>
   (cH (ww (af.size z.bR) q)).bind λ_=>(dX (alB (λi=>some (i*q,q)) (rep n z.bR) l)).bind λcs=>.ret (dO o.dst (.r (.c (.sl aJ (.k 0) (.l n) q true)))++[.new aJ (apo P e n q cs)])
  |_=>.fail
 |.load t a=>(G9 a).bind λ
  |.ptr b q n=>val (valueOf P t b q n)
  |.fp l=>val (aEB P t l)
  |_=>.fail
 |.store t a x=>(aM1 a).bind λp=>(aM0 x).bind λv=>(dX (iH P t)).bind λn=>
  (cH (ww (af.size v.bR) n&&wl n p.2.2)).bind λ_=>.sz p.1<|
  .ret (By (iN P t v.bR aJ).2 aJ++(dO o.dst udf++[.c p.1 p.2.1 (iN P t v.bR aJ).1]))
 |.nilCheck x=>(G9 x).bind λ
  |.ptr b q n=>.ret (dO o.dst (.r (.c (.ptr b q n))))
  |.fp l=>.ret (dO o.dst (.r (.c (.fp l))))
  |_=>.fail
 |.binOp op t x y _=>(vM x).bind λa=>(vM y).bind λb=>val (aXH P op t a b)
 |.unOp op _ x=>(vM x).bind λa=>val (unV op a)
 |.convert s d x=>(vM x).bind λa=>val (aRg P s d a)
 |.sliceToArrayPointer t x=>(G9 x).bind λc=>match P.underlying t,c with
  |some (.array n _),.sl b q len z _=>(cH (wl 1 n&&wl n len.val)).bind λ_=>cel (.ret (.ptr b q (n*z)))
  |_,_=>.fail
 |.makeFunc (.func f) fs aeh=>match fs.toList with
  | []=>(tH vM aeh.toList).bind λl=>.ret (dO o.dst (.fn f l))
  |_=>.fail
 |.slice t x lo hi none=>(G9 x).bind λc=>(aAf lo).bind λl=>(aAf hi).bind λh=>cel (aKG P t c (uV lo&&uV hi) l h)
 |.fieldAddr t x i=>(G9 x).bind λc=>cel (aym P t c i)
 |.field t x i=>(vM x).bind λ
  |.agg cs=>(dX (agt P t i)).bind λf=>val (Ot P f.type cs f.offset)
  |_=>.fail
 |.indexAddr t x i=>(G9 x).bind λc=>(KF i).bind λi=>cel (ayn P t c i.2)
 |.index t x i=>(vM x).bind λv=>(KF i).bind λi=>match P.underlying t,v with
  |some (.array n e),.agg cs=>(dX (iH P e)).bind λz=>(cH (wl 1 z&&wl (n*z) (af.size cs))).bind λ_=>(cH (aX i.2 n)).bind λ_=>(sel P (.k 0) i.2 n e z).bind λo=>val (partOf P e cs o)
  |some .string,.c (.f (.s b))=>(cH (aX i.2 b.size)).bind λ_=>val (.ret (.c (.f (.i .u8 (Em b i.2.toNat)))))
  |_,_=>.fail
 |.extract x i=>(DW x).bind λ
  |.tup vs=>(dX (vs[i]?)).bind λv=>.ret (dO o.dst (.r v))
  |_=>.fail
 |.call c=>(tH DW c.args.toList).bind λargs=>match c.callee with
  |.builtin b=>biV P b c.argTypes args o.dst aJ
  |.value f=>(DW f).bind λf=>(a0T f).bind λfc=>aXJ E fc.1 (args++fc.2.map .r) o.dst aJ
  |.invoke _ _=>.fail
 |_=>.fail
def mark (k:Nat)(b:Nat)(d:List Nat):List Nat:=
 match v9 b k&& !d.any (ww b) with
 |true=>b::d
 |false=>d
def Up.app (k:Nat)(s:St):Up->St
 |.t i v=>{s with tmps:=s.tmps.set i v}
 |.c b o v=>match s.bR b with
  |some bR=>match bR.zV o v with
   |some p=>{s with heap:=s.heap.set b (some p.2),dk:=mark k b s.dk}
   |none=>s
  |none=>s
 |.new _ bR=>{s with heap:=s.heap++[some bR]}
 |.kill b=>{s with heap:=s.heap.set b none,dk:=mark k b s.dk}
def Up.ok (s:St):Up->Bool
 |.t i _=>v9 i s.tmps.length
 |.c b o v=>match s.bR b with
  |some bR=>match bR.zV o v with
   |some p=>p.1&&wl (o.val+af.size v) (af.size bR)
   |none=>false
  |none=>false
 |.new b _=>ww b s.heap.length
 |.kill b=>v9 b s.heap.length
def jA (k:Nat):List Up->St->Option St
 | [],s=>some s
 |u::us,s=>match u.ok s with
  |true=>jA k us (u.app k s)
  |false=>none
def aRi (acc:List Nat)(m:Nat)(e:Edge):Nat:=match Region.binds .any e with
 |true=>(m|||2^e.on)|||acc.getD e.on 0
 |false=>m
def mask (acc:List Nat)(o:Oper):Nat:=o.after.toList.foldl (aRi acc) 0
def Lv:List Oper->List Nat->List Nat
 | [],acc=>acc
 |o::l,acc=>Lv l (acc++[mask acc o])
def ovl (lo n lo' n':Nat):Bool:=v9 lo (lo'+n')&&v9 lo' (lo+n)
def meet:Option (Nat×Nat)->Option (Nat×Nat)->Bool
 |some (lo,n),some (lo',n')=>ovl lo n lo' n'
 |_,_=>true
def Fp.aAg:Fp->Up->Bool
 |.t i,.t j _=>ww i j
 |.c b r,.c b' o v=>ww b b'&&meet r (aMZ o v)
 |.c b _,.new b' _|.c b _,.kill b'|.z b,.new b' _|.z b,.kill b'=>ww b b'
 |_,_=>false
def Up.aAg:Up->Up->Bool
 |.t i _,.t j _=>ww i j
 |.c b o v,.c b' o' v'=>ww b b'&&meet (aMZ o v) (aMZ o' v')
 |.c b _ _,.new b' _|.c b _ _,.kill b'|.new b _,.c b' _ _|.kill b,.c b' _ _|.new b _,.new b' _|.new b _,.kill b'|.kill b,.new b' _|.kill b,.kill b'=>ww b b'
 |_,_=>false
structure Tr where
 fp:List Fp
 us:List Up
def Tr.agw (x y:Tr):Bool:=
 x.us.any (λu=>y.fp.any (·.aAg u)||y.us.any (·.aAg u))||y.us.any (λu=>x.fp.any (·.aAg u))
def Q9 (ms:List Nat):List Tr->Nat->Bool
 | [],_=>true
 |x::rest,j=>(rest.zipIdx.all λp=>Nat.testBit (ms.getD (j+1+p.2) 0) j|| !x.agw p.1)&&Q9 ms rest (j+1)
def Q':List Oper->Nat->Bool
 | [],_=>true
 |o::l,i=>(o.after.toList.all λe=> !Region.binds .any e||v9 e.on i)&&Q' l (i+1)
def aXM (o:Oper)(nt:Nat):Bool:=
 match o.dst with
 |none=>true
 |some d=>v9 d nt
def Ou (ops:List Oper)(j:Nat):Option Tmp:=(ops[j]?).bind (·.dst)
def agx {α ρ:Type}(l:List α):(List α->ρ)->ρ:=
 List.rec (motive:=λ_=>(List α->ρ)->ρ) (λk=>k []) (λa _ ih k=>ih λl=>k (a::l)) l
def au4 {ρ:Type}(o:cA)(k:cA->ρ):ρ:=
 match o with
 |.k c=>k (.k c)
 |.x c i z=>k (.x c i z)
def aKJ {ρ:Type}(n:Sz)(k:Sz->ρ):ρ:=
 match n with
 |.l n=>k (.l n)
 |.s n=>k (.s n)
def aDP {ρ:Type}(v:FV)(k:FV->ρ):ρ:=
 match v with
 |.u=>k .u
 |.b x=>k (.b x)
 |.i d n=>k (.i d n)
 |.s x=>k (.s x)
 |.q n g=>k (.q n g)
def ayo {ρ:Type}(c:cQ)(k:cQ->ρ):ρ:=
 match c with
 |.i d g=>k (.i d g)
 |.b g=>k (.b g)
 |.s g=>k (.s g)
 |.u=>k .u
 |.q n g=>k (.q n g)
def Wl {ρ:Type}(l:List cQ):(List cQ->ρ)->ρ:=
 List.rec (motive:=λ_=>(List cQ->ρ)->ρ) (λk=>k []) (λa _ ih k=>ayo a λa=>ih λl=>k (a::l)) l
def au5 {ρ:Type}(l:List FV):(List FV->ρ)->ρ:=
 List.rec (motive:=λ_=>(List FV->ρ)->ρ) (λk=>k []) (λa _ ih k=>aDP a λa=>ih λl=>k (a::l)) l
def aDQ {ρ:Type}(c:CV)(k:CV->ρ):ρ:=
 match c with
 |.f v=>aDP v λv=>k (.f v)
 |.ptr b o n=>au4 o λo=>k (.ptr b o n)
 |.cl f b o n=>au4 o λo=>k (.cl f b o n)
 |.ai2=>k .ai2
 |.sl b o l z w=>au4 o λo=>aKJ l λl=>k (.sl b o l z w)
 |.nils=>k .nils
 |.aSR=>k .aSR
 |.aSS=>k .aSS
 |.fs n z cols=>Wl cols λcols=>k (.fs n z cols)
 |.fp l=>au5 l λl=>k (.fp l)
def au6 {ρ:Type}(s:Sg)(k:Sg->ρ):ρ:=
 match s with
 |.c v=>aDQ v λv=>k (.c v)
 |.a n cols=>aKJ n λn=>Wl cols λcols=>k (.a n cols)
def aaf {ρ:Type}(l:af):(af->ρ)->ρ:=
 List.rec (motive:=λ_=>(af->ρ)->ρ) (λk=>k []) (λa _ ih k=>au6 a λa=>ih λl=>k (a::l)) l
def au7 {ρ:Type}(r:RV)(k:RV->ρ):ρ:=
 match r with
 |.c c=>aDQ c λc=>k (.c c)
 |.agg b=>aaf b λb=>k (.agg b)
def alC {ρ:Type}(l:List RV):(List RV->ρ)->ρ:=
 List.rec (motive:=λ_=>(List RV->ρ)->ρ) (λk=>k []) (λa _ ih k=>au7 a λa=>ih λl=>k (a::l)) l
def au8 {ρ:Type}(v:AV)(k:AV->ρ):ρ:=
 match v with
 |.r r=>au7 r λr=>k (.r r)
 |.tup rs=>alC rs λrs=>k (.tup rs)
 |.fn f rs=>alC rs λrs=>k (.fn f rs)
 |.Wh=>k .Wh
def aDR {ρ:Type}(u:Up)(k:Up->ρ):ρ:=
 match u with
 |.t i v=>au8 v λv=>k (.t i v)
 |.c b o vs=>au4 o λo=>aaf vs λvs=>k (.c b o vs)
 |.new b bR=>aaf bR λbR=>k (.new b bR)
 |.kill b=>k (.kill b)
def au9 {ρ:Type}(l:List Up):(List Up->ρ)->ρ:=
 List.rec (motive:=λ_=>(List Up->ρ)->ρ) (λk=>k []) (λa _ ih k=>aDR a λa=>ih λl=>k (a::l)) l
def ava {ρ:Type}(l:List AV):(List AV->ρ)->ρ:=
 List.rec (motive:=λ_=>(List AV->ρ)->ρ) (λk=>k []) (λa _ ih k=>au8 a λa=>ih λl=>k (a::l)) l
def avb {ρ:Type}(u:Option af)(k:Option af->ρ):ρ:=
 match u with
 |some b=>aaf b λb=>k (some b)
 |none=>k none
def avc {ρ:Type}(l:List (Option af)):(List (Option af)->ρ)->ρ:=
 List.rec (motive:=λ_=>(List (Option af)->ρ)->ρ) (λk=>k []) (λa _ ih k=>avb a λa=>ih λl=>k (a::l)) l
def xp {ρ:Type}(s:St)(k:St->ρ):ρ:=
 match s with
 | ⟨t,h,d⟩=>ava t λt=>avc h λh=>agx d λd=>k ⟨t,h,d⟩
def Up.aek {ρ:Type}(k:Nat)(u:Up)(s:St)(c:St->Option ρ):Option ρ:=
 match u with
 |.t i v=>aAe s.tmps i v λt=>c {s with tmps:=t}
 |.c b o v=>match s.bR b with
  |some bR=>match bR.zV o v with
   |some p=>match p.1&&wl (o.val+af.size v) (af.size bR) with
    |true=>aaf p.2 λbR=>aAe s.heap b (some bR) λh=>agx (mark k b s.dk) λd=>c {s with heap:=h,dk:=d}
    |false=>none
   |none=>none
  |none=>none
 |.new b bR=>match ww b s.heap.length with
  |true=>agx (s.heap++[some bR]) λh=>c {s with heap:=h}
  |false=>none
 |.kill b=>aAe s.heap b none λh=>agx (mark k b s.dk) λd=>c {s with heap:=h,dk:=d}
def aek {ρ:Type}(k:Nat)(us:List Up):St->(St->Option ρ)->Option ρ:=
 List.rec (motive:=λ_=>St->(St->Option ρ)->Option ρ) (λs c=>c s) (λu _ ih s c=>u.aek k s λs=>ih s c) us
def Lw (P:Program)(E:Env)(nt k:Nat)(ops:List Oper){ρ:Type}:List Oper->St->List Tr->(St->List Tr->Option ρ)->Option ρ
 | [],s,l,c=>c s l
 |o::rest,s,l,c=>
  let go (s:St) (fp:List Fp):Option ρ:=
   (aop P E o s.heap.length).run s fp λus fp=>au9 us λus=>aek k us s λs'=>agx (l++[⟨fp,us⟩]) λl=>Lw P E nt k ops rest s' l c
  let skip (s:St) (fp:List Fp):Option ρ:=aek k (dO o.dst udf) s λs'=>agx (l++[⟨fp,dO o.dst udf⟩]) λl=>Lw P E nt k ops rest s' l c
  match aXM o nt with
  |false=>none
  |true=>
  match o.guard with
  |none=>go s []
  |some (j,want)=>match Ou ops j with
   |none=>none
   |some t=>match s.tmp t with
    |.r (.c (.f (.b x)))=>match x with
     |true=>aAe s.tmps t (.r (.c (.f (.b true)))) λts=>match want with|true=>go {s with tmps:=ts} [.t t]|false=>skip {s with tmps:=ts} [.t t]
     |false=>aAe s.tmps t (.r (.c (.f (.b false)))) λts=>match want with|true=>skip {s with tmps:=ts} [.t t]|false=>go {s with tmps:=ts} [.t t]
    |.tup []=>skip s [.t t]
    |_=>none
inductive AX where
 |nrm
 |ex (id:Nat)
 |ret
def idx (b:Nat):List Nat->Nat->Option Nat
 | [],_=>none
 |x::l,i=>match ww x b with
  |true=>some i
  |false=>idx b l (i+1)
def alD (H b:Nat)(m:List Nat):Nat×List Nat:=
 match wl H b with
 |true=>match idx b m 0 with
  |some i=>(H+i,m)
  |none=>(H+m.length,m++[b])
 |false=>(b,m)
def gcC (H:Nat)(c:CV)(m:List Nat):CV×List Nat:=
 match c with
 |.ptr b o n=>let x:=alD H b m;(.ptr x.1 o n,x.2)
 |.cl f b o n=>let x:=alD H b m;(.cl f x.1 o n,x.2)
 |.sl b o l z w=>let x:=alD H b m;(.sl x.1 o l z w,x.2)
 |c=>(c,m)
def Hu {α:Type}(g:α->List Nat->α×List Nat):List α->List Nat->List α×List Nat
 | [],m=>([],m)
 |a::l,m=>let x:=g a m;let y:=Hu g l x.2;(x.1::y.1,y.2)
def gcS (H:Nat)(s:Sg)(m:List Nat):Sg×List Nat:=
 match s with
 |.c c=>let x:=gcC H c m;(.c x.1,x.2)
 |s=>(s,m)
def gcR (H:Nat)(r:RV)(m:List Nat):RV×List Nat:=
 match r with
 |.c c=>let x:=gcC H c m;(.c x.1,x.2)
 |.agg cs=>let x:=Hu (gcS H) cs m;(.agg x.1,x.2)
def gcA (H:Nat)(a:AV)(m:List Nat):AV×List Nat:=
 match a with
 |.r r=>let x:=gcR H r m;(.r x.1,x.2)
 |.tup rs=>let x:=Hu (gcR H) rs m;(.tup x.1,x.2)
 |.fn f rs=>let x:=Hu (gcR H) rs m;(.fn f x.1,x.2)
 |.Wh=>(.Wh,m)
def gcB (H:Nat)(b:Option af)(m:List Nat):Option af×List Nat:=
 match b with
 |some cs=>let x:=Hu (gcS H) cs m;(some x.1,x.2)
 |none=>(none,m)
def gcN (H:Nat)(heap:List (Option af)):Nat->Nat->List Nat->List (Option af)->Option (List (Option af)×List Nat)
 |0,_,_,_=>none
 |fuel+1,i,m,acc=>match m[i]? with
  |none=>some (acc,m)
  |some b=>let x:=gcB H ((heap[b]?).getD none) m;gcN H heap fuel (i+1) x.2 (acc++[x.1])
def gcO (k:Nat)(d:List Nat)(H:Nat):List (Option af)->Nat->List Nat->List (Option af)×List Nat
 | [],_,m=>([],m)
 |b::l,j,m=>match v9 j k&& !d.any (ww j) with
  |true=>let y:=gcO k d H l (j+1) m;(b::y.1,y.2)
  |false=>let x:=gcB H b m;let y:=gcO k d H l (j+1) x.2;(x.1::y.1,y.2)
def St.gc (k:Nat)(s:St)(H:Nat):Option St:=
 match wl H s.heap.length with
 |false=>none
 |true=>
 let x:=Hu (gcA H) s.tmps []
 let y:=gcO k s.dk H (s.heap.take H) 0 x.2
 match gcN H s.heap 1000 0 y.2 [] with
 |some z=>some {s with tmps:=x.1,heap:=y.1++z.1}
 |none=>none
structure Hd where
 id:Nat
 aEE:List Nat
 nils:List (Nat×List CK)
structure Sm where
 id:Nat
 kk:Nat
 run:∀{ρ:Type},St->(AX->St->Option ρ)->Option ρ
structure Jn where
 hd:Hd
 sm:Sm
structure Hs where
 hd:List Hd
 sm:List Sm
 dk:List Nat
 jn:List Jn
 rk:Option Hd
def Ra:Code->Option Nat
 |.region id _ _=>some id
 |.seq a _=>Ra a
 |.block _ a=>Ra a
 |.loop a=>Ra a
 |_=>none
def aIS (c:CV):CV:=
 match c with
 |.sl b o len z own=>match o with
  |.k c=>.sl b (.x c 0 z) len z own
  |o=>.sl b o len z own
 |c=>c
def aEF (g:CV->CV)(s:Sg):Sg:=
 match s with
 |.c v=>.c (g v)
 |s=>s
def mapA (g:CV->CV)(a:AV):AV:=
 match a with
 |.r (.c v)=>.r (.c (g v))
 |a=>a
def ai4 (g:CV->CV)(k:Nat)(d:List Nat):List (Option af)->Nat->List (Option af)
 | [],_=>[]
 |b::l,j=>(match v9 j k&& !d.any (ww j) with
  |true=>b
  |false=>b.map λb=>b.map (aEF g))::ai4 g k d l (j+1)
def aM7 (b n x:Nat):Nat:=
 match ww x b with
 |true=>n
 |false=>x
def aM8 (b n:Nat)(c:CV):CV:=
 match c with
 |.ptr x o m=>.ptr (aM7 b n x) o m
 |.cl f x o m=>.cl f (aM7 b n x) o m
 |.sl x o l z w=>.sl (aM7 b n x) o l z w
 |c=>c
def aXN (c:CV):CV:=
 match c with
 |.sl b o len z own=>.sl b o (.s len.val) z own
 |c=>c
def a0U (c:CV):CV:=aXN (aIS c)
def aIT (s:Sg):Sg:=
 match s with
 |.c v=>.c (a0U v)
 |s=>s
def aEG (a:AV):AV:=
 match a with
 |.r (.c v)=>.r (.c (a0U v))
 |a=>a
def slC (c:CV)(l:List (Nat×Nat)):List (Nat×Nat):=
 match c with
 |.sl b _ _ z _=>(b,z)::l
 |_=>l
def a3y (s:Sg)(l:List (Nat×Nat)):List (Nat×Nat):=
 match s with
 |.c v=>slC v l
 |_=>l
def a3z (a:AV)(l:List (Nat×Nat)):List (Nat×Nat):=
 match a with
 |.r (.c v)=>slC v l
 |_=>l
def a3A (b:Option af)(l:List (Nat×Nat)):List (Nat×Nat):=
 match b with
 |some b=>b.foldr a3y l
 |none=>l
def sls (s:St):List (Nat×Nat):=s.tmps.foldr a3z (s.heap.foldr a3A [])
def aXO (j:Nat):List (Nat×Nat)->Option Nat
 | []=>none
 |p::l=>match ww p.1 j with
  |true=>some p.2
  |false=>aXO j l
def aEH (l:List (Nat×Nat))(j:Nat)(b:af):af:=
 match aXO j l with
 |some z=>toS (atg z (b.map aIT))
 |none=>b.map aIT
def alE (k:Nat)(d:List Nat)(sl:List (Nat×Nat)):List (Option af)->Nat->List (Option af)
 | [],_=>[]
 |b::l,j=>(match v9 j k&& !d.any (ww j) with
  |true=>b
  |false=>b.map λb=>aEH sl j b)::alE k d sl l (j+1)
def aRj (k b:Nat)(s:St):St:=
 match s.bR b with
 |some bR=>match v9 b k with
  |true=>{s with tmps:=s.tmps.map (mapA (aM8 b s.heap.length)),heap:=ai4 (aM8 b s.heap.length) k (mark k b s.dk) (s.heap.set b none++[some bR]) 0,dk:=mark k b s.dk}
  |false=>s
 |none=>s
def aIU (k:Nat)(s:St)(p:Nat×List CK):St:=
 match p.2 with
 | []=>match p.1 with
  |0=>{s with tmps:=s.tmps.map (mapA aIS),heap:=ai4 aIS k s.dk s.heap 0}
  |1=>{s with tmps:=s.tmps.map aEG,heap:=alE k s.dk (sls s) s.heap 0}
  |b+2=>aRj k b s
 |_::_=>match s.tmp p.1 with
  |.r (.c .nils)=>{s with tmps:=s.tmps.set p.1 (.r (.c (.sl s.heap.length (.k 0) (.s 0) p.2.length true))),heap:=s.heap++[some [.a (.s 0) (p.2.map CK.m9)]]}
  |_=>s
def aS5 (id:Nat):List Hd->Option Hd
 | []=>none
 |h::l=>match ww h.id id with
  |true=>some h
  |false=>aS5 id l
def aS6 (id:Nat):List Sm->Option Sm
 | []=>none
 |h::l=>match ww h.id id with
  |true=>some h
  |false=>aS6 id l
def aqx (hs:Hs)(a:Code):Option Sm:=
 match Ra a with
 |none=>none
 |some id=>aS6 id hs.sm
def St.ab4 (k:Nat)(s:St)(h:Hd):Option St:=((h.nils.foldl (aIU k) {s with tmps:=h.aEE.foldl (λl t=>l.set t Wh) s.tmps}).gc k k)
def St.head (k:Nat)(s:St)(hs:Hs)(body:Code):Option St:=
 match Ra body with
 |none=>s.gc k k
 |some id=>match aS5 id hs.hd with
  |none=>s.gc k k
  |some h=>s.ab4 k h
def aS7 (id:Nat):List Jn->Option Jn
 | []=>none
 |h::l=>match ww h.sm.id id with
  |true=>some h
  |false=>aS7 id l
def aAa (hs:Hs)(b:Code):Option Jn:=
 match hs.jn with
 | []=>none
 |j::l=>match Ra b with
  |none=>none
  |some id=>aS7 id (j::l)
def Lm (hs:Hs):Code->List Code
 |.seq a b=>(match aAa hs b with
  |some _=>[b]
  |none=>[])++(Lm hs a++Lm hs b)
 |.cond _ a b=>Lm hs a++Lm hs b
 |.block _ a=>Lm hs a
 |.loop a=>Lm hs a
 |_=>[]
def atj (id:Nat):Code->Option Code
 |.seq a b=>match(match Ra b with
   |some i=>ww i id
   |none=>false) with
  |true=>some b
  |false=>match atj id a with
   |some c=>some c
   |none=>atj id b
 |.cond _ a b=>match atj id a with
  |some c=>some c
  |none=>atj id b
 |.block _ a=>atj id a
 |.loop a=>atj id a
 |_=>none
def aag (id:Nat):Code->Option Code
 |.seq a b=>match aag id a with
  |some c=>some c
  |none=>aag id b
 |.cond _ a b=>match aag id a with
  |some c=>some c
  |none=>aag id b
 |.block _ a=>aag id a
 |.loop a=>match Ra a with
  |some j=>match ww j id with
   |true=>some a
   |false=>aag id a
  |none=>aag id a
 |_=>none
def Ll:Code->List Code
 |.seq a b=>Ll a++Ll b
 |.cond _ a b=>Ll a++Ll b
 |.block _ a=>Ll a
 |.loop a=>a::Ll a
 |_=>[]
def aad (P:Program)(f:FuncId):Code:=((P.funcs[f]?).bind (·.body)).getD .skip
def aac (P:Program)(f:FuncId)(id:Nat):Code:=(aag id (aad P f)).getD .skip
def agl (P:Program)(f:FuncId)(id:Nat):Code:=(atj id (aad P f)).getD .skip
def tmpsOf (P:Program)(f:FuncId):Nat:=((P.funcs[f]?).map (·.ntmps)).getD 0
def iter {ρ:Type}(hd:St->Option St)(body:St->(AX->St->Option ρ)->Option ρ)(k:AX->St->Option ρ)(n:Nat):St->Option ρ:=
 Nat.rec (λ_=>none) (λ_ ih s=>body s λe s=>match e with
   |.nrm=>match hd s with
    |none=>none
    |some s=>xp s ih
   |e=>k e s) n
def next {ρ:Type}(hd:St->Option St)(c:St->Option ρ)(k:AX->St->Option ρ):AX->St->Option ρ:=λe s=>match e with
 |.nrm=>match hd s with
  |none=>none
  |some s=>xp s c
 |e=>k e s
def G' (P:Program)(E:Env)(hs:Hs)(nt kk:Nat)(lf:Nat){ρ:Type}:Code->St->(AX->St->Option ρ)->Option ρ
 |.skip,s,k=>k .nrm s
 |.region _ ops draw,s,k=>match draw with
  |false=>Lw P E nt kk ops.toList ops.toList s [] λs _=>k .nrm s
  |true=>Lw P E nt kk ops.toList ops.toList s [] λs l=>match Q' ops.toList 0&&Q9 (Lv ops.toList []) l 0 with
   |true=>k .nrm s
   |false=>none
 |.seq a b,s,k=>G' P E hs nt kk lf a s λe s=>match e with
  |.nrm=>match aAa hs b with
   |none=>G' P E hs nt kk lf b s k
   |some j=>match s.ab4 kk j.hd with
    |none=>none
    |some s=>xp s λs=>match ww j.sm.kk kk with
     |true=>j.sm.run s k
     |false=>none
  |e=>k e s
 |.cond (.tmp t) a b,s,k=>match s.tmp t with
  |.r (.c (.f (.b x)))=>match x with
   |true=>G' P E hs nt kk lf a s k
   |false=>G' P E hs nt kk lf b s k
  |_=>none
 |.block id a,s,k=>G' P E hs nt kk lf a s λe s=>match e with
  |.ex j=>match ww j id with
   |true=>k .nrm s
   |false=>k (.ex j) s
  |e=>k e s
 |.loop a,s,k=>match s.head kk hs a with
  |none=>none
  |some s=>xp s λs=>match aqx hs a with
   |some σ=>match ww σ.kk kk with
    |true=>σ.run s k
    |false=>none
   |none=>iter (λt=>t.head kk hs a) (G' P E hs nt kk lf a) k lf s
 |.exit id,s,k=>k (.ex id) s
 |.ret,s,k=>match hs.rk with
  |none=>k .ret s
  |some h=>match s.ab4 kk h with
   |none=>none
   |some s=>xp s λs=>k .ret s
 |_,_,_=>none
def aS8 (P:Program)(s:St):ResultVar->Option RV
 |.tmp t=>match s.tmp t with
  |.r v=>some v
  |_=>none
 |.cell a t=>match s.tmp a with
  |.r (.c (.ptr b o m))=>match aei P t,iH P t,s.bR b,o with
   |some true,some n,some bR,.k c=>match wl n m with
    |true=>(alx bR c (.l 1) n).map .agg
    |false=>none
   |some false,some _,some bR,.k c=>match wl 1 m with
    |true=>match alx bR c (.l 1) 1 with
     |some [.c v]=>some (.c v)
     |_=>none
    |false=>none
   |_,_,_,_=>none
  |_=>none
def ayp (P:Program)(s:St):List ResultVar->Option (List RV)
 | []=>some []
 |r::l=>match aS8 P s r,ayp P s l with
  |some v,some vs=>some (v::vs)
  |_,_=>none
def one:List RV->AV
 | [v]=>.r v
 |vs=>.tup vs
def ai5 (s:List Nat):List (Option af)->Nat->List Ch
 | [],_=>[]
 |b::l,j=>(match s.any (ww j) with
  |false=>Ch.mb
  |true=>match b with
   |some b=>.set b
   |none=>.kill)::ai5 s l (j+1)
def aEI {α:Type}:List (Option α)->Option (List α)
 | []=>some []
 |some a::l=>(aEI l).map (a:: ·)
 |none::_=>none
def fin (P:Program)(fn:Func)(k:Nat)(e:AX)(s:St):Option oO:=
 match e with
 |.ex _=>none
 |_=>match ayp P s fn.results.toList with
  |none=>none
  |some vs=>
   let x:=gcA k (one vs) []
   let y:=gcO k s.dk k (s.heap.take k) 0 x.2
   match gcN k s.heap 1000 0 y.2 [] with
   |some z=>match aEI z.1 with
    |some news=>some {val:=x.1,xH:=ai5 s.dk y.1 0,news}
    |none=>none
   |none=>none
def start (fn:Func)(args:List AV)(h:List af)(d:List Nat):St:=
 {tmps:=args++List.replicate (fn.ntmps-args.length) udf,heap:=h.map some,dk:=d}
def den (P:Program)(E:Env)(hs:Hs)(lf:Nat)(f:FuncId)(args:List AV)(h:List af):Option oO:=
 match P.funcs[f]? with
 |none=>none
 |some fn=>match fn.body with
  |none=>none
  |some c=>match hs.dk.all λb=>v9 b h.length with
   |false=>none
   |true=>xp (start fn args h hs.dk) λs=>G' P E hs fn.ntmps h.length lf c s (fin P fn h.length)
end Go.Ab
