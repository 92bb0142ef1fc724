/-
  Parts of the proof: Ab
-/
import Derived.Orders
import Derived.KernelRfl
import Derived.LoopN
open Nat renaming beq→z9,ble→wr,blt→wl
set_option linter.unusedVariables false
set_option linter.unusedSimpArgs false
noncomputable section
namespace Go.Ab
set_option linter.defProp false
def aSw:=@Array.getElem?_setIfInBounds_ne
def aam:=@Int.mul_le_mul_of_nonneg_right
def aXo:=@Array.eq_empty_of_size_eq_zero
def aqA:=@Array.getD_eq_getD_getElem?
def aej:=@List.getElem?_append_right
def az6:=@Int.tdiv_eq_ediv_of_nonneg
def lL:=@List.getElem?_eq_some_iff
def UR:=@List.getElem?_append_left
def aiX:=@Array.getElem?_eq_getElem
def kR:=@List.getElem?_eq_getElem
def OD:=@decide_eq_false_iff_not
def aEy:=@List.getElem?_cons_zero
def aKy:=@List.length_eq_zero_iff
def mL:=@Option.map_eq_some_iff
def ate:=@Array.getElem?_eq_none
def aEz:=@Nat.dvd_of_mod_eq_zero
def lE:=@Nat.eq_of_beq_eq_true
def Ke:=@List.getElem?_eq_none
def WA:=@Nat.le_of_ble_eq_true
def WB:=@Array.getElem?_toList
def ab4:=@Int.ediv_lt_of_lt_mul
def atf:=@Int.mul_ediv_add_emod
def aye:=@Nat.div_lt_iff_lt_mul
def ayf:=@List.mem_iff_getElem?
def aEA:=@Nat.ble_eq_true_of_le
def aKz:=@Array.getElem?_modify
def dz:=@Int.ofNat_eq_natCast
def wK:=@Nat.mul_le_mul_right
def aEB:=@List.getElem?_zipIdx
def WC:=@Array.length_toList
def agr:=@beq_eq_false_iff_ne
def vk:=@of_decide_eq_false
def ya:=@Bool.false_eq_true
def LS:=@Bool.true_eq_false
def Te:=@List.getElem?_drop
def Tf:=@Int.emod_lt_of_pos
def WD:=@Nat.eq_zero_or_pos
def ab5:=@List.getElem?_take
def ayg:=@List.length_append
def ayh:=@Bool.not_eq_false'
def aEC:=@Nat.lt_of_lt_of_le
def dm:=@of_decide_eq_true
def iI:=@Option.some.injEq
def jW:=@decide_eq_true_eq
def pB:=@Bool.not_eq_true'
def Ca:=@List.getElem?_map
def Fy:=@Int.emod_eq_of_lt
def Kf:=@Int.toNat_natCast
def ags:=@Nat.lt_trichotomy
def ayi:=@List.append_assoc
def aED:=@List.getElem?_set
def bG:=@Option.bind_some
def cB:=@Bool.and_eq_true
def LU:=@Option.getD_some
def LV:=@List.length_cons
def ab6:=@List.any_eq_true
def ali:=@Array.toList_inj
def atg:=@List.length_drop
def ayj:=@Nat.mod_eq_of_lt
def ath:=@List.all_eq_true
def ayk:=@Int.ediv_le_self
def cV:=@decide_eq_false
def En:=@Int.ediv_nonneg
def HX:=@Option.some.inj
def Tg:=@Option.map_some
def WE:=@Int.emod_nonneg
def agt:=@List.length_map
def agu:=@Bool.or_eq_true
def ati:=@ne_of_beq_false
def atj:=@Nat.mul_add_mod
def dW:=@decide_eq_true
def Cb:=@Int.mul_nonneg
def LW:=@Int.mul_le_mul
def nY:=@Bool.true_and
def rm:=@Prod.mk.injEq
def Cc:=@Nat.add_assoc
def Eo:=@false_implies
def Kg:=@Bool.not_true
def OF:=@Bool.or_false
def ab7:=@List.mem_cons
def alj:=@Int.mul_assoc
def dG:=@Nat.zero_add
def dL:=@Nat.le_trans
def ku:=@Nat.add_zero
def ld:=@Sum.elim_inr
def ni:=@Nat.lt_or_ge
def nZ:=@Sum.elim_inl
def pJ:=@Int.le_of_lt
def yb:=@Int.mul_comm
def Fz:=@Nat.beq_refl
def Kh:=@decide_false
def Ki:=@Int.lt_or_le
def OH:=@true_implies
def OJ:=@implies_true
def Th:=@Nat.zero_mul
def ab8:=@Nat.mul_comm
def ab9:=@Int.le_trans
def agv:=@Int.le_total
def alk:=@Int.zero_add
def atk:=@Nat.succ_mul
def agw:=@Int.zero_mul
def cZ:=@Nat.le_refl
def fk:=@Int.le_refl
def qP:=@Nat.add_mul
def Jo:=@decide_true
def Vt:=@Nat.one_mul
def aan:=@Int.add_mul
def bI:=@cond_false
def bB:=@cond_true
def EM:=@ge_iff_le
def cW:=@congrArg
def gA:=@if_false
def AF:=@true_and
def Cd:=@and_true
def lI:=@if_true
inductive FV where
 |u
 |b (x:Bool)
 |i (k:IntKind) (n:Int)
 |s (x:ByteArray)
 |q (n:Nat) (g:Nat->Bool)
inductive Sz where
 |l (n:Nat)
 |s (n:Nat)
def Sz.val:Sz->Nat
 |.l n=>n
 |.s n=>n
def Sz.add:Sz->Sz->Sz
 |.l a,.l b=>.l (a+b)
 |a,b=>.s (a.val+b.val)
def Sz.least:Sz->Sz->Sz
 |.l a,.l b=>.l (Nat.min a b)
 |a,b=>.s (Nat.min a.val b.val)
def Sz.mul (a:Sz)(k:Nat):Sz:=
 match z9 k 1 with
 |true=>a
 |false=>match a with
  |.l a=>.l (a*k)
  |.s a=>.s (a*k)
inductive cE where
 |k (c:Nat)
 |x (c i z:Nat)
def cE.val:cE->Nat
 |.k c=>c
 |.x c i z=>c+i*z
def cE.add:cE->Nat->cE
 |.k c,d=>.k (c+d)
 |.x c i z,d=>.x (c+d) i z
def cE.plus:cE->cE->cE
 |.k c,.k d=>.k (c+d)
 |.x c i z,.k d=>.x (c+d) i z
 |.k c,.x d i z=>.x (c+d) i z
 |.x c i z,.x d j y=>match z9 z y with
  |true=>.x (c+d) (i+j) z
  |false=>.x 0 (c+i*z+(d+j*y)) 1
def cE.idx (o:cE)(j z n:Nat):cE:=
 match o with
 |.k c=>.x c j z
 |.x c i y=>match z9 y (n*z) with
  |true=>.x c (i*n+j) z
  |false=>.x 0 (c+i*y+j*z) 1
def cE.aMH (o:cE)(j z:Nat):cE:=
 match o with
 |.k c=>.x c j z
 |.x c i y=>match z9 y z with
  |true=>.x c (i+j) z
  |false=>.x 0 (c+i*y+j*z) 1
inductive c7 where
 |i (k:IntKind) (g:Nat->Int)
 |b (g:Nat->Bool)
 |s (g:Nat->ByteArray)
 |u
 |q (n:Nat->Nat) (g:Nat->Nat->Bool)
inductive CV where
 |f (v:FV)
 |ptr (b:Nat) (o:cE) (n:Nat)
 |aiY
 |sl (b:Nat) (o:cE) (len:Sz) (esz:Nat) (own:Bool)
 |nils
 |aSx
 |aSy
 |cl (f b:Nat) (o:cE) (n:Nat)
 |fs (n z:Nat) (cols:List c7)
 |fp (l:List FV)
inductive Sg where
 |c (v:CV)
 |a (n:Sz) (cols:List c7)
abbrev aj:=List Sg
inductive RV where
 |c (v:CV)
 |agg (b:aj)
inductive AV where
 |r (v:RV)
 |tup (vs:List RV)
 |fn (f:Nat) (aek:List RV)
 |WG
def WG:AV:=.WG
def udf:AV:=.tup []
def c7.at:c7->Nat->FV
 |.i k g,j=>.i k (g j)
 |.b g,j=>.b (g j)
 |.s g,j=>.s (g j)
 |.u,_=>.u
 |.q n g,j=>.q (n j) (g j)
def c7.shift (d:Nat):c7->c7
 |.i k g=>.i k λj=>g (d+j)
 |.b g=>.b λj=>g (d+j)
 |.s g=>.s λj=>g (d+j)
 |.u=>.u
 |.q n g=>.q (λj=>n (d+j)) λj=>g (d+j)
def c7.up (d:Nat):c7->c7
 |.i k g=>.i k λj=>g (j-d)
 |.b g=>.b λj=>g (j-d)
 |.s g=>.s λj=>g (j-d)
 |.u=>.u
 |.q n g=>.q (λj=>n (j-d)) λj=>g (j-d)
def c7.aSz (c:c7)(e:Nat)(v:CV):Option c7:=
 match c,v with
 |.i k g,.f (.i k' x)=>if k=k' then some (.i k λj=>cond (z9 j e) x (g j)) else none
 |.b g,.f (.b x)=>some (.b λj=>cond (z9 j e) x (g j))
 |.s g,.f (.s x)=>some (.s λj=>cond (z9 j e) x (g j))
 |_,_=>none
def c7.mrg (p:Nat->Bool)(c d:c7):Option c7:=
 match c,d with
 |.i k g,.i k' h=>if k=k' then some (.i k λj=>cond (p j) (g j) (h j)) else none
 |.b g,.b h=>some (.b λj=>cond (p j) (g j) (h j))
 |.s g,.s h=>some (.s λj=>cond (p j) (g j) (h j))
 |_,_=>none
def au0 (p:Nat->Bool):List c7->List c7->Option (List c7)
 | [],[]=>some []
 |c::cs,d::ds=>match c7.mrg p c d,au0 p cs ds with
  |some e,some es=>some (e::es)
  |_,_=>none
 |_,_=>none
def Sg.size:Sg->Nat
 |.c _=>1
 |.a n cols=>n.val*cols.length
def Sg.get:Sg->Nat->CV
 |.c v,j=>match j with
  |0=>v
  |_+1=>.f .u
 |.a _ cols,j=>match cols[j%cols.length]? with
  |some q=>.f (q.at (j/cols.length))
  |none=>.f .u
def aj.size:aj->Nat
 | []=>0
 |s::l=>s.size+aj.size l
def aj.get:aj->Nat->CV
 | [],_=>.f .u
 |s::l,j=>if j<s.size then s.get j else aj.get l (j-s.size)
def aj.list (b:aj):List CV:=(List.range b.size).map b.get
def CV.fv:CV->FV
 |.f v=>v
 |_=>.u
def RV.bU:RV->aj
 |.c v=>[.c v]
 |.agg b=>b
def shC (sh:Bool)(e:Nat)(cols:List c7):List c7:=
 match sh with
 |true=>cols.map (c7.shift e)
 |false=>cols
def aKA (sh:Bool)(cols:List c7)(e nK:Nat)(cF:Sz)(z:Nat):Option aj:=
 match z9 nK 0&&z9 (z%cols.length) 0 with
 |true=>some [.a (cF.mul (z/cols.length)) (shC sh e cols)]
 |false=>none
def rowsOf (sh:Bool)(cols:List c7)(e nK:Nat)(cF:Sz)(z:Nat):Option aj:=
 match cF with
 |.l n=>match z9 n 1&&wr (nK+z) cols.length with
  |true=>some (((cols.drop nK).take z).map λq=>Sg.c (.f (q.at e)))
  |false=>aKA sh cols e nK (.l n) z
 |.s n=>aKA sh cols e nK (.s n) z
def WH:aj->Nat->Option aj
 | [],m=>match m with
  |0=>some []
  |_+1=>none
 |.c v::r,m=>match m with
  |0=>some []
  |m+1=>(WH r m).map (.c v:: ·)
 |.a n cols::r,m=>match m with
  |0=>some []
  |m+1=>match n with
   |.s _=>none
   |.l n=>match wr (n*cols.length) (m+1) with
    |true=>(WH r (m+1-n*cols.length)).map (.a (.l n) cols:: ·)
    |false=>rowsOf false cols 0 0 (.l 1) (m+1)
def nz:Nat->Bool
 |0=>false
 |_+1=>true
def alm:aj->Nat->Sz->Nat->Option aj
 | [],c,cF,z=>match cF with
  |.l n=>match z9 (n*z) 0 with
   |true=>some []
   |false=>none
  |.s _=>none
 |.c v::r,c,cF,z=>match c with
  |0=>match cF with
   |.l n=>WH (.c v::r) (n*z)
   |.s _=>none
  |c+1=>alm r c cF z
 |.a n cols::r,c,cF,z=>match r with
  | []=>rowsOf (nz (c/cols.length)) cols (c/cols.length) (c%cols.length) cF z
  |_::_=>match n,cF with
   |.l n,.l m=>match wr (n*cols.length) c with
    |true=>alm r (c-n*cols.length) cF z
    |false=>match wr (c+m*z) (n*cols.length) with
     |true=>rowsOf (nz (c/cols.length)) cols (c/cols.length) (c%cols.length) cF z
     |false=>match c with
      |0=>WH (.a (.l n) cols::r) (m*z)
      |_+1=>none
   |_,_=>none
def elemOf (c i z zc:Nat):Nat:=
 match z9 z zc with
 |true=>match c/zc with
  |0=>i
  |q+1=>q+1+i
 |false=>c/zc+i*(z/zc)
def az7:aj->Nat->Nat->Nat->Sz->Nat->Option (Bool×aj)
 | [],_,_,_,_,_=>none
 |.c v::r,c,i,z,cF,y=>match c with
  |0=>(alm (.c v::r) (i*z) cF y).map λb=>(true,b)
  |c+1=>az7 r c i z cF y
 |.a n cols::r,c,i,z,cF,y=>match r with
  | []=>match z9 (z%cols.length) 0 with
   |true=>(rowsOf true cols (elemOf c i z cols.length) (c%cols.length) cF y).map λb=>(true,b)
   |false=>none
  |_::_=>match n with
   |.l n=>match wr (n*cols.length) c with
    |true=>az7 r (c-n*cols.length) i z cF y
    |false=>match z9 (z%cols.length) 0 with
     |true=>(rowsOf true cols (elemOf c i z cols.length) (c%cols.length) cF y).map λb=>(wr (c+i*z+cF.val*y) (n*cols.length),b)
     |false=>none
   |.s _=>none
def aj.sub (b:aj)(o:cE)(cF:Sz)(z:Nat):Option (Bool×aj):=
 match o with
 |.k c=>(alm b c cF z).map λb=>(true,b)
 |.x c i y=>az7 b c i y cF z
def agx:List c7->Nat->Nat->CV->Option (List c7)
 | [],_,_,_=>none
 |c::cs,0,e,v=>(c7.aSz c e v).map (·::cs)
 |c::cs,j+1,e,v=>(agx cs j e v).map (c:: ·)
def D3 (zc:Nat):List c7->Nat->Nat->aj->Option (List c7)
 |cols,_,_,[]=>some cols
 |cols,e,nK,.c v::r=>match agx cols nK e v with
  |some dX=>match z9 (nK+1) zc with
   |true=>D3 zc dX (e+1) 0 r
   |false=>D3 zc dX e (nK+1) r
  |none=>none
 |_,_,_,.a _ _::_=>none
def aEE (cols:List c7)(e nK:Nat)(v:aj):Option (List c7):=
 match v with
 | [.a m dX]=>match z9 nK 0&&z9 cols.length dX.length with
  |true=>au0 (λj=>wr e j&&wl j (e+m.val)) (dX.map (c7.up e)) cols
  |false=>none
 |v=>D3 cols.length cols e nK v
def eN:aj->aj->Option aj
 |b,[]=>some b
 |.c _::r,.c y::vs=>(eN r vs).map (.c y:: ·)
 |.a (.l n) cols::r,.a (.l m) dX::vs=>match z9 n m&&z9 cols.length dX.length with
  |true=>(eN r vs).map (.a (.l m) dX:: ·)
  |false=>none
 |_,_=>none
def aKB (n:Sz)(cols:List c7)(v:aj):Bool:=
 match n,v with
 |.l n,[.a (.l m) dX]=>z9 n m&&z9 cols.length dX.length
 |_,_=>false
def aln:aj->Nat->aj->Option aj
 | [],_,v=>match v with
  | []=>some []
  |_::_=>none
 |.c x::r,c,v=>match c with
  |0=>eN (.c x::r) v
  |c+1=>(aln r c v).map (.c x:: ·)
 |.a n cols::r,c,v=>match r with
  | []=>match z9 c 0&&aKB n cols v with
   |true=>some v
   |false=>(aEE cols (c/cols.length) (c%cols.length) v).map λcols=>[.a n cols]
  |_::_=>match n with
   |.s _=>none
   |.l n=>match wr (n*cols.length) c with
    |true=>(aln r (c-n*cols.length) v).map (.a (.l n) cols:: ·)
    |false=>match z9 c 0&&aKB (.l n) cols v with
     |true=>some (v++r)
     |false=>match wr (c+aj.size v) (n*cols.length) with
      |true=>(aEE cols (c/cols.length) (c%cols.length) v).map λcols=>.a (.l n) cols::r
      |false=>match c with
       |0=>eN (.a (.l n) cols::r) v
       |_+1=>none
def az8:aj->Nat->Nat->Nat->aj->Option (Bool×aj)
 | [],_,_,_,_=>none
 |.c x::r,c,i,z,v=>match c with
  |0=>(aln (.c x::r) (i*z) v).map λb=>(true,b)
  |c+1=>(az8 r c i z v).map λp=>(p.1,.c x::p.2)
 |.a n cols::r,c,i,z,v=>match r with
  | []=>match z9 (z%cols.length) 0 with
   |true=>(aEE cols (elemOf c i z cols.length) (c%cols.length) v).map λcols=>(true,[.a n cols])
   |false=>none
  |_::_=>match n with
   |.l n=>match wr (n*cols.length) c with
    |true=>(az8 r (c-n*cols.length) i z v).map λp=>(p.1,.a (.l n) cols::p.2)
    |false=>match z9 (z%cols.length) 0 with
     |true=>(aEE cols (elemOf c i z cols.length) (c%cols.length) v).map λcols=>(wr (c+i*z+aj.size v) (n*cols.length),.a (.l n) cols::r)
     |false=>none
   |.s _=>none
def aj.AA (b:aj)(o:cE)(v:aj):Option (Bool×aj):=
 match o with
 |.k c=>(aln b c v).map λb=>(true,b)
 |.x c i z=>az8 b c i z v
def WI:aj->Bool
 | []=>true
 |.c _::r=>WI r
 |.a _ _::_=>false
def aKC:FV->Option c7
 |.i k x=>some (.i k λ_=>x)
 |.b x=>some (.b λ_=>x)
 |.s x=>some (.s λ_=>x)
 |.u=>none
 |.q _ _=>none
def EN:Nat->aj->Option (List c7)
 |0,_=>some []
 |z+1,.c (.f v)::r=>match aKC v,EN z r with
  |some c,some cs=>some (c::cs)
  |_,_=>none
 |_+1,_=>none
def rowOf (z:Nat)(b:aj):Option aj:=
 match WI b&&(wr 1 z&&z9 (b.length%z) 0) with
 |true=>match EN z b with
  |some cols=>(D3 z cols 0 0 b).map λcols=>[.a (.l (b.length/z)) cols]
  |none=>none
 |false=>none
def agy (cols:List c7):List Nat->aj
 | []=>[]
 |j::l=>.c (match cols[j%cols.length]? with
  |some q=>.f (q.at (j/cols.length))
  |none=>.f .u)::agy cols l
def uB:aj->aj
 | []=>[]
 |.c v::r=>.c v::uB r
 |.a n cols::r=>match n with
  |.l n=>agy cols (List.range (n*cols.length))++uB r
  |.s n=>.a (.s n) cols::uB r
def aMI (n:Sz)(cols:List c7)(b:aj):Option aj:=
 match WI b&&(wr 1 cols.length&&z9 (b.length%cols.length) 0) with
 |true=>(D3 cols.length cols n.val 0 b).map λcs=>[.a (n.add (.l (b.length/cols.length))) cs]
 |false=>none
def aSA (n:Sz)(cols:List c7)(b:aj):Option aj:=
 match b with
 | [.a m dX]=>match z9 cols.length dX.length&&wr 1 cols.length with
  |true=>(au0 (λj=>wl j n.val) cols (dX.map (c7.up n.val))).map λcols=>[.a (n.add m) cols]
  |false=>aMI n cols (uB b)
 |b=>aMI n cols (uB b)
def aSB:aj->Bool
 | []=>true
 |.c _::r=>aSB r
 |.a (.l _) _::r=>aSB r
 |.a (.s _) _::_=>false
def aj.app (a b:aj):Option aj:=
 match a,b with
 | [],b=>some b
 |a,[]=>some a
 | [.a n cols],b=>aSA n cols b
 |a,[.a m dX]=>match rowOf dX.length (uB a) with
  |some [.a n cols]=>aSA n cols [.a m dX]
  |_=>none
 |a,b=>match aSB a&&aSB b with
  |true=>some (a++b)
  |false=>none
def atl (z:Nat)(b:aj):aj:=
 match b with
 | []=>[]
 | [.a n cols]=>match z9 cols.length z with
  |true=>[.a n cols]
  |false=>match rowOf z (uB [.a n cols]) with
   |some b=>b
   |none=>[.a n cols]
 |b=>match rowOf z (uB b) with
  |some r=>r
  |none=>b
structure St where
 tmps:List AV
 heap:List (Option aj)
 du:List Nat
def St.bU (s:St)(b:Nat):Option aj:=(s.heap[b]?).getD none
def alo (l:List AV):Nat->AV:=List.rec (motive:=λ_=>Nat->AV) (λ_=>udf) (λa _ ih i=>Nat.rec (motive:=λ_=>AV) a (λm _=>ih m) i) l
def St.tmp (s:St)(i:Nat):AV:=alo s.tmps i
def az9 {α ρ:Type}(l:List α):Nat->α->(List α->Option ρ)->Option ρ:=
 List.rec (motive:=λ_=>Nat->α->(List α->Option ρ)->Option ρ) (λ_ _ _=>none)
  (λa l ih i v k=>Nat.rec (motive:=λ_=>Option ρ) (k (v::l)) (λm _=>ih m v λl'=>k (a::l')) i) l
inductive Fp where
 |t (i:Nat)
 |c (b:Nat) (r:Option (Nat×Nat))
 |z (b:Nat)
inductive Up where
 |t (i:Nat) (v:AV)
 |c (b:Nat) (o:cE) (v:aj)
 |new (b:Nat) (bU:aj)
 |kill (b:Nat)
def ext (o:cE)(cF:Sz)(z:Nat):Option (Nat×Nat):=
 match o,cF with
 |.k c,.l n=>some (c,n*z)
 |_,_=>none
def szL:aj->Option Nat
 | []=>some 0
 |.c _::r=>(szL r).map (1+ ·)
 |.a (.l n) cols::r=>(szL r).map (n*cols.length+ ·)
 |.a (.s _) _::_=>none
def aMJ (o:cE)(v:aj):Option (Nat×Nat):=
 match o with
 |.k c=>(szL v).map λn=>(c,n)
 |_=>none
inductive Rd (α:Type):Type 1 where
 |ret (a:α)
 |fail
 |tm (i:Nat) (k:AV->Rd α)
 |vw (b:Nat) (o:cE) (cF:Sz) (z:Nat) (k:aj->Rd α)
 |sz (b:Nat) (k:Rd α)
 |test (x:Bool) (k:Bool->Rd α)
 |opt {D:Type} (x:Option D) (k:D->Rd α)
def Rd.bind {α β:Type}:Rd α->(α->Rd β)->Rd β
 |.ret a,f=>f a
 |.fail,_=>.fail
 |.tm i k,f=>.tm i λv=>(k v).bind f
 |.vw b o cF z k,f=>.vw b o cF z λv=>(k v).bind f
 |.sz b k,f=>.sz b (k.bind f)
 |.test x k,f=>.test x λv=>(k v).bind f
 |.opt x k,f=>.opt x λv=>(k v).bind f
def eu {α:Type}:Option α->Rd α
 |some a=>.ret a
 |none=>.fail
def cR (x:Bool):Rd Unit:=.test x λ|true=>.ret ()|false=>.fail
def Rd.run {α ρ:Type}:Rd α->St->List Fp->(α->List Fp->Option ρ)->Option ρ
 |.ret a,_,l,k=>k a l
 |.fail,_,_,_=>none
 |.tm i m,s,l,k=>(m (s.tmp i)).run s (.t i::l) k
 |.vw b o cF z m,s,l,k=>
  match s.bU b with
  |some bU=>match bU.sub o cF z with
   |some p=>match p.1 with
    |true=>(m p.2).run s (.z b:: .c b (ext o cF z)::l) k
    |false=>none
   |none=>none
  |none=>none
 |.sz b m,s,l,k=>
  match s.bU b with
  |some _=>m.run s (.z b::l) k
  |none=>none
 |.test x m,s,l,k=>
  match x with
  |true=>(m true).run s l k
  |false=>(m false).run s l k
 |.opt x m,s,l,k=>
  match x with
  |some d=>(m d).run s l k
  |none=>none
def aEF (b:aj)(o:cE)(cF:Sz)(z:Nat):Rd aj:=
 match b.sub o cF z with
 |some p=>.test p.1 λ|true=>.ret p.2|false=>.fail
 |none=>.fail
def ofC:Value->Option CV
 |.bool b=>some (.f (.b b))
 |.int k n=>some (.f (.i k n))
 |.string s=>some (.f (.s s))
 |.pointer none=>some .aiY
 |.slice none 0 0=>some .nils
 |.nilFunc=>some .aSx
 |.nilIface=>some .aSy
 |_=>none
def aIU:List Value->Option aj
 | []=>some []
 |v::vs=>match ofC v,aIU vs with
  |some c,some cs=>some (.c c::cs)
  |_,_=>none
def ofR:Value->Option RV
 |.agg cs=>(aIU cs.toList).map .agg
 |v=>(ofC v).map .c
def Ep:Operand->Rd AV
 |.tmp t=>.tm t .ret
 |.const v=>(eu (ofR v)).bind λr=>.ret (.r r)
 |.func f=>.ret (.fn f [])
 |.global _=>.fail
def asR:AV->Rd RV
 |.r v=>.ret v
 |_=>.fail
def asC:AV->Rd CV
 |.r (.c v)=>.ret v
 |_=>.fail
def asI:AV->Rd (IntKind×Int)
 |.r (.c (.f (.i k n)))=>.ret (k,n)
 |_=>.fail
def asB:AV->Rd Bool
 |.r (.c (.f (.b x)))=>.ret x
 |_=>.fail
def asP:AV->Rd (Nat×cE×Nat)
 |.r (.c (.ptr b o n))=>.ret (b,o,n)
 |_=>.fail
def wL (x:Operand):Rd RV:=(Ep x).bind asR
def asS:AV->Rd RV
 |.r v=>.ret v
 |.fn f [.c (.ptr b o n)]=>.ret (.c (.cl f b o n))
 |_=>.fail
def aMK (x:Operand):Rd RV:=(Ep x).bind asS
def HD (x:Operand):Rd CV:=(Ep x).bind asC
def K7 (x:Operand):Rd (IntKind×Int):=(Ep x).bind asI
def aIV (x:Operand):Rd Bool:=(Ep x).bind asB
def aML (x:Operand):Rd (Nat×cE×Nat):=(Ep x).bind asP
def uC {α β:Type}(f:α->Rd β):List α->Rd (List β)
 | []=>.ret []
 |a::l=>(f a).bind λb=>(uC f l).bind λbs=>.ret (b::bs)
def ael (P:Program)(t:TypeId):Option Bool:=
 match P.underlying t with
 |some (.struct _)|some (.array _ _)=>some true
 |some _=>some false
 |none=>none
def iZ (P:Program)(t:TypeId):Option Nat:=(P.info? t).map (·.size)
def agz (P:Program)(t:TypeId)(i:Nat):Option Field:=
 match P.underlying t with
 |some (.struct fs)=>fs[i]?
 |_=>none
def aSC (P:Program)(n:Nat)(e:TypeId):Bool:=
 wr 9 n||match P.underlying e with
 |some (.int .u64)=>wr 8 n
 |some (.struct _)=>wr 4 n
 |_=>false
inductive Tm where
 |c
 |a (n z:Nat)
def aSD {α:Type}:Nat->List α->List α
 |0,_=>[]
 |n+1,l=>l++aSD n l
def alp (P:Program):Nat->TypeId->List Tm
 |0,_=>[]
 |d+1,t=>match P.underlying t with
  |some (.struct fs)=>(fs.toList.map λf=>alp P d f.type).flatten
  |some (.array n e)=>match aSC P n e with
   |true=>match alp P d e with
    | [.a m z]=>[.a (n*m) z]
    |_=>[.a n ((iZ P e).getD 0)]
   |false=>aSD n (alp P d e)
  |_=>[.c]
def FV.same:FV->FV->Bool
 |.b x,.b y=>x==y
 |.i k x,.i k' y=>decide (k=k')&&x==y
 |_,_=>false
def WJ (z:Nat)(row:aj):Nat->aj->Option aj
 |0,b=>some b
 |m+1,.c (.f v)::r=>match row[(m%z)]? with
  |some (.c (.f y))=>match v.same y with
   |true=>WJ z row m r
   |false=>none
  |_=>none
 |_+1,_=>none
def aca:List Tm->aj->Option aj
 | [],[]=>some []
 |.c::tm,.c v::r=>(aca tm r).map (.c v:: ·)
 |.a n z::tm,b=>match EN z b with
  |some cols=>match wr 1 z with
   |true=>match WJ z ((b.take z).reverse) (n*z) b with
    |some r=>(aca tm r).map (.a (.l n) cols:: ·)
    |none=>none
   |false=>none
  |none=>none
 |_,_=>none
def AW (P:Program)(t:TypeId):Option RV:=
 match((P.info? t).bind (·.zero)).bind ofR with
 |some (.agg b)=>(aca (alp P 30 t) b).map .agg
 |r=>r
def FV.isB:FV->Bool
 |.b _=>true
 |_=>false
def FV.toB:FV->Bool
 |.b x=>x
 |_=>false
def FV.isI (k:IntKind):FV->Bool
 |.i k' _=>decide (k'=k)
 |_=>false
def FV.toI:FV->Int
 |.i _ n=>n
 |_=>0
def FV.isS:FV->Bool
 |.s _=>true
 |_=>false
def FV.toS:FV->ByteArray
 |.s x=>x
 |_=>.empty
def aIW (P:Program)(t:TypeId)(c:CV):Rd CV:=
 match P.underlying t,c with
 |some .bool,.f x=>.test x.isB λ|true=>.ret (.f (.b x.toB))|false=>.fail
 |some (.int k),.f x=>.test (x.isI k) λ|true=>.ret (.f (.i k x.toI))|false=>.fail
 |some .string,.f x=>.test x.isS λ|true=>.ret (.f (.s x.toS))|false=>.fail
 |some (.slice _),.f (.q n g)=>.ret (.fs n 1 [.b g])
 |_,c=>.ret c
def agA:List Tm->aj->Option aj
 | [],[]=>some []
 |.c::tm,.c v::r=>(agA tm r).map (.c v:: ·)
 |.a n z::tm,b=>match wr (n*z) b.length with
  |true=>match rowOf z (b.take (n*z)) with
   |some row=>(agA tm (b.drop (n*z))).map (row++ ·)
   |none=>none
  |false=>none
 |_,_=>none
def norm (P:Program)(t:TypeId)(l:aj):aj:=
 match WI l&&wr 8 l.length with
 |true=>match agA (alp P 30 t) l with
  |some r=>r
  |none=>l
 |false=>match WI l with
  |true=>l
  |false=>match(alp P 30 t).all (λ|.c=>true|.a _ _=>false) with
   |true=>uB l
   |false=>l
def aqB (P:Program)(t:TypeId)(v:RV):Rd RV:=
 match v with
 |.c c=>(aIW P t c).bind λc=>.ret (.c c)
 |.agg l=>.ret (.agg (norm P t l))
def atm:aj->Rd RV
 | [.c v]=>.ret (.c v)
 |_=>.fail
def aao (P:Program)(t:TypeId)(b:Nat)(o:cE)(m:Nat):Rd RV:=
 (eu (ael P t)).bind λa=>(eu (iZ P t)).bind λn=>
  match a with
  |true=>(cR (wr n m)).bind λ_=>.vw b o (.l 1) n λl=>.ret (.agg l)
  |false=>(cR (wr 1 m)).bind λ_=>.vw b o (.l 1) 1 atm
def valueOf (P:Program)(t:TypeId)(b:Nat)(o:cE)(m:Nat):Rd RV:=(aao P t b o m).bind (aqB P t)
def aKD (P:Program)(t:TypeId)(cs:aj)(o:cE):Rd RV:=
 (eu (ael P t)).bind λa=>(eu (iZ P t)).bind λn=>
  match a with
  |true=>(aEF cs o (.l 1) n).bind λl=>.ret (.agg l)
  |false=>(aEF cs o (.l 1) 1).bind atm
def partOf (P:Program)(t:TypeId)(cs:aj)(o:cE):Rd RV:=(aKD P t cs o).bind (aqB P t)
def OK (P:Program)(t:TypeId)(cs:aj)(c:Nat):Rd RV:=
 (eu (iZ P t)).bind λn=>(cR (wr 1 n&&wr (c+n) (aj.size cs))).bind λ_=>partOf P t cs (.k c)
def atn (op:BinOp)(k:IntKind)(x y:Int):Option Int:=
 let a:=BitVec.ofInt k.bits x
 let b:=BitVec.ofInt k.bits y
 match op with
 |.and=>some (k.wrap (a&&&b).toNat)
 |.or=>some (k.wrap (a|||b).toNat)
 |.xor=>some (k.wrap (a^^^b).toNat)
 |.andNot=>some (k.wrap (a&&& ~~~b).toNat)
 |_=>none
def aXp (op:BinOp)(k:IntKind)(x y:Int):Rd FV:=
 match op with
 |.add=>.ret (.i k (k.wrap (x+y)))
 |.sub=>.ret (.i k (k.wrap (x-y)))
 |.mul=>.ret (.i k (k.wrap (x*y)))
 |.quo=>(cR (!decide (y=0))).bind λ_=>.ret (.i k (k.wrap (x.tdiv y)))
 |.rem=>(cR (!decide (y=0))).bind λ_=>.ret (.i k (x.tmod y))
 |.eql=>.ret (.b (x==y))
 |.neq=>.ret (.b (x !=y))
 |.lss=>.ret (.b (decide (x<y)))
 |.leq=>.ret (.b (decide (x<=y)))
 |.gtr=>.ret (.b (decide (x>y)))
 |.geq=>.ret (.b (decide (x>=y)))
 |.shl|.shr=>.fail
 |op=>(eu (atn op k x y)).bind λn=>.ret (.i k n)
def aSE (op:BinOp)(k:IntKind)(x y:Int):Rd FV:=
 (cR (!decide (y<0))).bind λ_=>
  match op with
  |.shl=>.ret (.i k (k.wrap (x*2^(min y.toNat k.bits))))
  |.shr=>.ret (.i k (x.fdiv (2^(min y.toNat k.bits))))
  |_=>.fail
def aSF (n:Nat)(p:Nat->Bool):Bool:=(List.range n).all p
def aEG (n:Nat):List c7->List c7->Option Bool
 | [.i k g],[.i k' h]=>if k=k' then some (aSF n λj=>g j==h j) else none
 | [.b g],[.b h]=>some (aSF n λj=>g j==h j)
 |_,_=>none
def aem (P:Program)(e:TypeId)(c:List c7):Bool:=
 match P.underlying e,c with
 |some .bool,[.b _]=>true
 |some (.int _),[.i _ _]=>true
 |_,_=>false
def aMM (P:Program)(aiZ:TypeId->RV->RV->Rd Bool)(xs ys:aj):List Field->Rd Bool
 | []=>.ret true
 |f::fs=>if f.name≠"_" then
   (OK P f.type xs f.offset).bind λa=>(OK P f.type ys f.offset).bind λb=>(aiZ f.type a b).bind λr=>(aMM P aiZ xs ys fs).bind λs=>.ret (r&&s)
  else aMM P aiZ xs ys fs
def aXq (P:Program)(aiZ:TypeId->RV->RV->Rd Bool)(e:TypeId)(z:Nat)(xs ys:aj):List Nat->Rd Bool
 | []=>.ret true
 |i::l=>(OK P e xs (i*z)).bind λa=>(OK P e ys (i*z)).bind λb=>(aiZ e a b).bind λr=>(aXq P aiZ e z xs ys l).bind λs=>.ret (r&&s)
def aXr (P:Program)(d n z:Nat)(e:TypeId)(xs ys:aj):Option Bool:=
 match xs,ys with
 | [.a (.l m) c],[.a (.l m') c']=>match wr 1 d&&(z9 z 1&&(z9 m n&&(z9 m' n&&aem P e c))) with
  |true=>aEG n c c'
  |false=>none
 |_,_=>none
def eqT (P:Program):Nat->TypeId->RV->RV->Rd Bool
 |0,_,_,_=>.fail
 |d+1,t,x,y=>match P.underlying t,x,y with
  |some .bool,.c (.f (.b a)),.c (.f (.b b))=>.ret (a==b)
  |some (.int _),.c (.f (.i k a)),.c (.f (.i k' b))=>if k=k' then .ret (a==b) else .fail
  |some .string,.c (.f (.s a)),.c (.f (.s b))=>.ret (a==b)
  |some (.pointer _),.c .aiY,.c .aiY=>.ret true
  |some (.pointer _),.c (.ptr _ _ _),.c .aiY|some (.pointer _),.c .aiY,.c (.ptr _ _ _)=>.ret false
  |some (.struct fs),.agg xs,.agg ys=>match P.stoodInHeld t with
   |true=>.fail
   |false=>aMM P (eqT P d) xs ys fs.toList
  |some (.array n e),.agg xs,.agg ys=>(eu (iZ P e)).bind λz=>match aXr P d n z e xs ys with
   |some r=>.ret r
   |none=>aXq P (eqT P d) e z xs ys (List.range n)
  |_,_,_=>.fail
def eqV (P:Program)(t:TypeId)(x y:RV):Rd Bool:=
 match x,y with
 |.agg _,.agg _=>match P.eqGuardType P.depth t with
  |true=>.fail
  |false=>eqT P 30 t x y
 |.c (.f (.i _ _)),_|.c (.f (.s _)),_|.c (.f .u),_|.c (.f (.q _ _)),_=>.fail
 |_,_=>eqT P 30 t x y
def aXs (P:Program)(op:BinOp)(t:TypeId)(x y:RV):Rd RV:=
 match x,y with
 |.c (.f (.i k a)),.c (.f (.i k' b))=>
  match op with
  |.shl|.shr=>(aSE op k a b).bind λv=>.ret (.c (.f v))
  |op=>if k=k' then(aXp op k a b).bind λv=>.ret (.c (.f v)) else .fail
 |x,y=>
  match op with
  |.eql=>(eqV P t x y).bind λr=>.ret (.c (.f (.b r)))
  |.neq=>(eqV P t x y).bind λr=>.ret (.c (.f (.b (!r))))
  |_=>.fail
def unV (op:UnOp)(x:RV):Rd RV:=
 match op,x with
 |.neg,.c (.f (.i k n))=>.ret (.c (.f (.i k (k.wrap (0-n)))))
 |.xor,.c (.f (.i k n))=>(eu (atn .xor k (if k.signed then -1 else k.max) n)).bind λr=>.ret (.c (.f (.i k r)))
 |.not,.c (.f (.b x))=>.ret (.c (.f (.b (!x))))
 |_,_=>.fail
def aQF (P:Program)(src dst:TypeId)(x:RV):Rd RV:=
 match P.underlying src,P.underlying dst,x with
 |some _,some (.int k),.c (.f (.i _ n))=>.ret (.c (.f (.i k (k.wrap n))))
 |_,_,_=>.fail
def bf (i:Int)(n:Nat):Bool:=decide (0<=i)&&decide (i<(n:Int))
def HE (i:Int)(n:Nat):Bool:=decide (0<=i)&&decide (i<=(n:Int))
def aqC (i:Int):Nat->Rd Nat
 |0=>.ret 0
 |n+1=>.test (i==((n+1:Nat):Int)) λ|true=>.ret (n+1)|false=>aqC i n
def sel (P:Program)(o:cE)(i:Int)(n:Nat)(e:TypeId)(z:Nat):Rd cE:=
 match aSC P n e with
 |true=>.ret (o.idx i.toNat z n)
 |false=>match wr n 8 with
  |true=>(aqC i (n-1)).bind λj=>.ret (o.add (j*z))
  |false=>.ret (o.idx i.toNat z n)
def aMN (P:Program)(o:cE)(i:Int)(len:Sz)(e:TypeId)(z:Nat):Rd cE:=
 match len with
 |.l n=>match !aSC P n e&&wr n 8 with
  |true=>(aqC i (n-1)).bind λj=>.ret (o.add (j*z))
  |false=>.ret (o.aMH i.toNat z)
 |.s _=>.ret (o.aMH i.toNat z)
def aEH (l:List FV):aj:=l.map λv=>.c (.f v)
def aEI (P:Program)(t:TypeId)(l:List FV):Rd RV:=
 (eu (ael P t)).bind λa=>(eu (iZ P t)).bind λn=>
  match a with
  |true=>(cR (z9 n l.length)).bind λ_=>aqB P t (.agg (aEH l))
  |false=>match l with
   |v::_=>aqB P t (.c (.f v))
   | []=>.fail
def ayl (P:Program)(t:TypeId)(x:CV)(i:Nat):Rd CV:=
 match x with
 |.fp l=>(eu (agz P t i)).bind λf=>(eu (iZ P f.type)).bind λn=>
  (cR (wr 1 n&&wr (f.offset+n) l.length)).bind λ_=>.ret (.fp ((l.drop f.offset).take n))
 |.ptr b o m=>(eu (agz P t i)).bind λf=>(eu (iZ P f.type)).bind λn=>
  (cR (wr 1 n&&wr (f.offset+n) m)).bind λ_=>.ret (.ptr b (o.add f.offset) n)
 |_=>.fail
def EO (b:ByteArray)(n:Nat):Int:=match b[n]? with
 |some x=>Int.ofNat x.toNat
 |none=>0
def aym (P:Program)(t:TypeId)(x:CV)(i:Int):Rd CV:=
 match P.underlying t,x with
 |some (.array n e),.ptr b o m=>(eu (iZ P e)).bind λz=>(cR (wr (n*z) m)).bind λ_=>
  (cR (bf i n)).bind λ_=>(sel P o i n e z).bind λo=>.ret (.ptr b o z)
 |some (.slice e),.sl b o len z' _=>(eu (iZ P e)).bind λz=>(cR (z9 z z')).bind λ_=>
  (cR (bf i len.val)).bind λ_=>(aMN P o i len e z).bind λo=>.ret (.ptr b o z)
 |some (.slice e),.fs n z' cols=>(eu (iZ P e)).bind λz=>(cR (z9 z z')).bind λ_=>
  (cR (bf i n)).bind λ_=>.ret (.fp (cols.map λq=>q.at i.toNat))
 |some (.array n e),.fp l=>(eu (iZ P e)).bind λz=>(cR (wr (n*z) l.length&&wr n 8)).bind λ_=>
  (cR (bf i n)).bind λ_=>(aqC i (n-1)).bind λj=>.ret (.fp ((l.drop (j*z)).take z))
 |_,_=>.fail
def aAa (x:Option Operand):Rd (Option Int):=
 match x with
 |none=>.ret none
 |some x=>(K7 x).bind λi=>.ret (some i.2)
def US (lo hi:Option Int)(n:Nat):Rd (Nat×Nat):=
 (match hi with
  |none=>Rd.ret n
  |some h=>(cR (HE h n)).bind λ_=>.ret h.toNat).bind λh=>
 (match lo with
  |none=>Rd.ret 0
  |some l=>(cR (HE l h)).bind λ_=>.ret l.toNat).bind λl=>.ret (l,h)
def szQ (q:Bool)(n:Nat):Sz:=
 match q with
 |true=>.l n
 |false=>.s n
def vQ (x:Option Operand):Bool:=
 match x with
 |none=>true
 |some (.const _)=>true
 |_=>false
def aqD (q:Bool)(n:Sz):Bool:=
 match n with
 |.l _=>q
 |.s _=>false
def lenOf (q:Bool)(lo hi:Option Int)(n:Sz)(lh:Nat×Nat):Sz:=
 match lo,hi with
 |none,none=>n
 |none,some _=>szQ q lh.2
 |some _,_=>szQ q (lh.2-lh.1)
def agB (q:Bool)(lo:Option Int)(o:cE)(l z:Nat):cE:=
 match lo with
 |none=>o
 |some _=>match q with
  |true=>o.add (l*z)
  |false=>o.aMH l z
def au1 (lo:Option Int)(l:Nat)(cols:List c7):List c7:=
 match lo with
 |none=>cols
 |some _=>cols.map (c7.shift l)
def aKE (P:Program)(t:TypeId)(x:CV)(q:Bool)(lo hi:Option Int):Rd CV:=
 match P.underlying t,x with
 |some (.array n e),.ptr b o m=>(eu (iZ P e)).bind λz=>(cR (wr (n*z) m)).bind λ_=>
  (US lo hi n).bind λlh=>.ret (.sl b (agB q lo o lh.1 z) (lenOf q lo hi (.l n) lh) z false)
 |some (.slice e),.sl b o len z own=>(eu (iZ P e)).bind λz'=>(cR (z9 z z')).bind λ_=>
  (US lo hi len.val).bind λlh=>.ret (.sl b (agB (aqD q len) lo o lh.1 z) (lenOf (aqD q len) lo hi len lh) z (own&&hi.isNone))
 |some (.slice e),.nils=>(eu (iZ P e)).bind λ_=>(US lo hi 0).bind λ_=>.ret .nils
 |some (.slice e),.fs n z cols=>(eu (iZ P e)).bind λz'=>(cR (z9 z z')).bind λ_=>
  (US lo hi n).bind λlh=>.ret (.fs (lenOf false lo hi (.s n) lh).val z (au1 lo lh.1 cols))
 |_,_=>.fail
def placesOf (P:Program)(t:TypeId):Option (Nat->Option (Nat×Nat)):=
 match P.underlying t with
 |some (.struct fs)=>(fs.toList.mapM λf=>(P.info? f.type).map λi=>(f.offset,i.size)).map λl i=>l[i]?
 |some (.array _ e)=>(iZ P e).map λn i=>some (i*n,n)
 |_=>none
def alq (pl:Nat->Option (Nat×Nat)):aj->List (Nat×RV)->Option aj
 |cs,[]=>some cs
 |cs,(i,v)::rest=>match pl i with
  |none=>none
  |some (o,n)=>match z9 (aj.size v.bU) n&&wr (o+n) (aj.size cs) with
   |true=>match aln cs o v.bU with
    |some Ti=>alq pl Ti rest
    |none=>none
   |false=>none
def rep:Nat->aj->aj
 |0,_=>[]
 |n+1,l=>l++rep n l
inductive Ch where
 |mB
 |set (b:aj)
 |kill
structure pD where
 val:AV
 yP:List Ch
 news:List aj
inductive T:Type 1 where
 |leaf (r:pD)
 |fail
 |test (x:Bool) (a b:T)
 |opt {D:Type} (x:Option D) (k:D->T)
def T.eval:T->Option pD
 |.leaf r=>some r
 |.fail=>none
 |.test x a b=>match x with
  |true=>a.eval
  |false=>b.eval
 |.opt x k=>match x with
  |some d=>(k d).eval
  |none=>none
def T.rd:T->Rd pD
 |.leaf r=>.ret r
 |.fail=>.fail
 |.test x a b=>.test x λ|true=>a.rd|false=>b.rd
 |.opt x k=>.opt x λd=>(k d).rd
abbrev Fw:=List AV->List aj->T
abbrev Env:=Nat->Option Fw
structure Vw where
 b:Nat
 o:cE
 cF:Sz
 z:Nat
 sl:Bool
 own:Bool
def Vw.n (v:Vw):Nat:=v.cF.val*v.z
def acb (b:Nat)(e:Option (Nat×Nat)):List Vw->Nat->Option (Nat×Nat×Bool)
 | [],_=>none
 |v::vs,i=>match z9 v.b b with
  |false=>acb b e vs (i+1)
  |true=>match e,ext v.o v.cF v.z with
   |some (o,n),some (o',n')=>match wr o' o&&wr (o+n) (o'+n') with
    |true=>some (i,o-o',v.own)
    |false=>acb b e vs (i+1)
   |_,_=>acb b e vs (i+1)
def au2 (b:Nat)(e:Option (Nat×Nat))(vs:List Vw):Bool:=
 vs.all λv=> !Nat.beq v.b b||match e,ext v.o v.cF v.z with
  |some (o,n),some (o',n')=>wr (o+n) o'||wr (o'+n') o
  |_,_=>false
def aSG (c:CV)(vs:List Vw):Rd (CV×List Vw):=
 match c with
 |.ptr b o n=>match acb b (ext o (.l 1) n) vs 0 with
  |some (i,d,_)=>.ret (.ptr i (.k d) n,vs)
  |none=>(cR (au2 b (ext o (.l 1) n) vs)).bind λ_=>.ret (.ptr vs.length (.k 0) n,vs++[⟨b,o,.l 1,n,false,false⟩])
 |.cl f b o n=>match acb b (ext o (.l 1) n) vs 0 with
  |some (i,d,_)=>.ret (.cl f i (.k d) n,vs)
  |none=>(cR (au2 b (ext o (.l 1) n) vs)).bind λ_=>.ret (.cl f vs.length (.k 0) n,vs++[⟨b,o,.l 1,n,false,false⟩])
 |.sl b o len z own=>match acb b (ext o len z) vs 0 with
  |some (i,d,ow)=>.ret (.sl i (.k d) (.s len.val) z (own&&ow),vs)
  |none=>(cR (au2 b (ext o len z) vs)).bind λ_=>
   .ret (.sl vs.length (.k 0) (.s len.val) z (own&&vs.all λv=> !Nat.beq v.b b|| !v.own),vs++[⟨b,o,len,z,true,own&&vs.all λv=> !Nat.beq v.b b|| !v.own⟩])
 |c=>.ret (c,vs)
def aMO:aj->List Vw->Rd (aj×List Vw)
 | [],vs=>.ret ([],vs)
 |.c c::cs,vs=>(aSG c vs).bind λx=>(aMO cs x.2).bind λy=>.ret (.c x.1::y.1,y.2)
 |.a n cols::cs,vs=>(aMO cs vs).bind λy=>.ret (.a n cols::y.1,y.2)
def aSH (r:RV)(vs:List Vw):Rd (RV×List Vw):=
 match r with
 |.c c=>(aSG c vs).bind λx=>.ret (.c x.1,x.2)
 |.agg cs=>(aMO cs vs).bind λx=>.ret (.agg x.1,x.2)
def aEJ:List RV->List Vw->Rd (List RV×List Vw)
 | [],vs=>.ret ([],vs)
 |c::cs,vs=>(aSH c vs).bind λx=>(aEJ cs x.2).bind λy=>.ret (x.1::y.1,y.2)
def aXt (a:AV)(vs:List Vw):Rd (AV×List Vw):=
 match a with
 |.r r=>(aSH r vs).bind λx=>.ret (.r x.1,x.2)
 |.tup rs=>(aEJ rs vs).bind λx=>.ret (.tup x.1,x.2)
 |.fn f rs=>(aEJ rs vs).bind λx=>.ret (.fn f x.1,x.2)
 |.WG=>.ret (.WG,vs)
def aKF:List AV->List Vw->Rd (List AV×List Vw)
 | [],vs=>.ret ([],vs)
 |c::cs,vs=>(aXt c vs).bind λx=>(aKF cs x.2).bind λy=>.ret (x.1::y.1,y.2)
def toS (b:aj):aj:=
 match b with
 | [.a n cols]=>[.a (.s n.val) cols]
 |b=>b
def aQG (sl:Bool)(z:Nat)(b:aj):aj:=
 match sl with
 |true=>toS (atl z b)
 |false=>b
def aSI:Nat->Nat->List Vw->List aj->Rd (List aj×List Vw)
 |0,_,_,_=>.fail
 |fuel+1,i,vs,acc=>match vs[i]? with
  |none=>.ret (acc,vs)
  |some v=>.vw v.b v.o v.cF v.z λcs=>
   (aMO (aQG v.sl v.z cs) vs).bind λx=>aSI fuel (i+1) x.2 (acc++[x.1])
def LX (vs:List Vw)(aM:Nat):CV->CV
 |.ptr j d n=>match vs[j]? with
  |some v=>.ptr v.b (v.o.plus d) n
  |none=>.ptr (aM+(j-vs.length)) d n
 |.cl f j d n=>match vs[j]? with
  |some v=>.cl f v.b (v.o.plus d) n
  |none=>.cl f (aM+(j-vs.length)) d n
 |.sl j d len z own=>match vs[j]? with
  |some v=>.sl v.b (v.o.plus d) len z (own&&v.own)
  |none=>.sl (aM+(j-vs.length)) d len z own
 |c=>c
def K8 (f:CV->CV):aj->aj
 | []=>[]
 |.c v::r=>.c (f v)::K8 f r
 |.a n cols::r=>.a n cols::K8 f r
def aSJ (vs:List Vw)(aM:Nat):RV->RV
 |.c c=>.c (LX vs aM c)
 |.agg cs=>.agg (K8 (LX vs aM) cs)
def aMP (vs:List Vw)(aM:Nat):AV->AV
 |.r r=>.r (aSJ vs aM r)
 |.tup rs=>.tup (rs.map (aSJ vs aM))
 |.fn f rs=>.fn f (rs.map (aSJ vs aM))
 |.WG=>.WG
def HY (vs:List Vw)(aM:Nat):List aj->Nat->List Up
 | [],_=>[]
 |b::bs,j=>.new (aM+j) (K8 (LX vs aM) b)::HY vs aM bs (j+1)
def AY (all:List Vw)(aM:Nat):List Vw->List Ch->Option (Bool×List Up)
 | [],[]=>some (true,[])
 |_::vs,.mB::cs=>AY all aM vs cs
 |v::vs,.set b::cs=>match AY all aM vs cs with
  |some p=>some (p.1&&z9 (aj.size b) v.n,.c v.b v.o (K8 (LX all aM) b)::p.2)
  |none=>none
 |_::vs,.kill::cs=>AY all aM vs cs
 |_,_=>none
def pK:List Vw->List Ch->List Up
 |v::vs,.kill::cs=>.kill v.b::pK vs cs
 |_::vs,_::cs=>pK vs cs
 |_,_=>[]
def dY (dst:Option Tmp)(v:AV):List Up:=
 match dst with
 |some d=>[.t d v]
 |none=>[]
def aXu (E:Env)(f:Nat)(args:List AV)(dst:Option Tmp)(aM:Nat):Rd (List Up):=
 (aKF args []).bind λx=>(aSI 1000 0 x.2 []).bind λy=>
  match E f with
  |none=>.fail
  |some F=>(F x.1 y.1).rd.bind λr=>
   (eu (AY y.2 aM y.2 r.yP)).bind λus=>(cR us.1).bind λ_=>
    .ret (dY dst (aMP y.2 aM r.val)++(us.2++(pK y.2 r.yP++HY y.2 aM r.news 0)))
def aSK:CV->Rd Nat
 |.sl _ _ n _ _=>.ret n.val
 |.nils=>.ret 0
 |.fs n _ _=>.ret n
 |.f (.s x)=>.ret x.size
 |_=>.fail
def slB (z:Nat):CV->Rd (Sz×aj)
 |.sl b o n z' _=>(cR (z9 z z')).bind λ_=>.vw b o n z λk=>.ret (n,k)
 |.nils=>.ret (.l 0,[])
 |.fs n z' cols=>(cR (z9 z z')).bind λ_=>.ret (.s n,[.a (.s n) cols])
 |_=>.fail
def aEK (P:Program)(t:TypeId)(s x:CV)(dst:Option Tmp)(aM:Nat):Rd (List Up):=
 match P.underlying t with
 |some (.slice e)=>(eu (iZ P e)).bind λz=>(eu ((P.info? e).map (·.bytes))).bind λby_=>(eu (AW P e)).bind λzv=>
  (cR (wr 1 z&&(wr 1 by_&&z9 (aj.size zv.bU) z))).bind λ_=>
  (slB z x).bind λxb=>
  match s with
  |.nils=>(cR (wr (xb.1.val*by_) 140737488355328)).bind λ_=>
   .ret (dY dst (.r (.c (.sl aM (.k 0) xb.1 z true)))++[.new aM xb.2])
  |.sl b o n z' true=>(cR (z9 z z')).bind λ_=>(cR (wr ((n.val+xb.1.val)*by_) 140737488355328)).bind λ_=>
   .sz b<|
   .vw b o n z λsb=>(eu (sb.app xb.2)).bind λnb=>
    (cR (match x with|.sl b' _ _ _ _=> !Nat.beq b b'|_=>true)).bind λ_=>
    .ret (dY dst (.r (.c (.sl aM (.k 0) (n.add xb.1) z true)))++[.kill b,.new aM nb])
  |_=>.fail
 |_=>.fail
def aIX (v:Nat):Nat->Rd Nat
 |0=>.ret 0
 |k+1=>.test (wr (k+1) v) λ|true=>.ret (k+1)|false=>aIX v k
def aMQ (n n':Sz):Rd (Bool×Sz):=
 match n,n' with
 |.l k,.s v=>match wr k 8 with
  |true=>(aIX v k).bind λj=>.ret (true,.l j)
  |false=>.ret (false,Sz.least (.s v) (.l k))
 |n,n'=>.ret (false,Sz.least n' n)
def copyV (P:Program)(t:TypeId)(d x:CV)(dst:Option Tmp):Rd (List Up):=
 match P.underlying t with
 |some (.slice e)=>(eu (iZ P e)).bind λz=>
  match d,x with
  |.sl b o n z1 _,.sl b' o' n' z2 _=>(cR (z9 z z1&&z9 z z2)).bind λ_=>
   (cR (!Nat.beq b b')).bind λ_=>(aMQ n n').bind λm=>
   .vw b' o' m.2 z λl=>.sz b<|
    .ret (dY dst (.r (.c (.f (.i .i64 (m.2.val:Int)))))++[.c b o (cond m.1 (uB l) l)])
  |_,_=>.fail
 |_=>.fail
def aXv:FV->FV->Rd FV
 |.i k x,.i k' y=>if k=k' then .ret (.i k (if y<x then y else x)) else .fail
 |_,_=>.fail
def aXw:FV->FV->Rd FV
 |.i k x,.i k' y=>if k=k' then .ret (.i k (if y>x then y else x)) else .fail
 |_,_=>.fail
def au3 {α β:Type}(f:β->α->Rd β):β->List α->Rd β
 |b,[]=>.ret b
 |b,a::l=>(f b a).bind λb'=>au3 f b' l
def asF:AV->Rd FV
 |.r (.c (.f v))=>.ret v
 |_=>.fail
def biV (P:Program)(bi:Builtin)(ts:Array TypeId)(args:List AV)(dst:Option Tmp)(aM:Nat):Rd (List Up):=
 match bi,args with
 |.len,[x]=>(eu ((ts[0]?).bind P.underlying)).bind λ
  |.array n _=>.ret (dY dst (.r (.c (.f (.i .i64 (n:Int))))))
  |.slice _=>(asC x).bind λc=>(match c with|.f _=>Rd.fail|c=>aSK c).bind λn=>.ret (dY dst (.r (.c (.f (.i .i64 (n:Int))))))
  |.string=>(asC x).bind λc=>(match c with|.f (.s x)=>Rd.ret x.size|_=>Rd.fail).bind λn=>.ret (dY dst (.r (.c (.f (.i .i64 (n:Int))))))
  |_=>.fail
 |.append,[s,x]=>(eu (ts[0]?)).bind λt=>(cR (match ts.toList with| [t1,t2]=>z9 t1 t2|_=>false)).bind λ_=>
  (asC s).bind λs=>(asC x).bind λx=>aEK P t s x dst aM
 |.copy,[d,x]=>(eu (ts[0]?)).bind λt=>(asC d).bind λd=>(asC x).bind λx=>copyV P t d x dst
 |.min,x::l=>(asF x).bind λx=>(uC asF l).bind λl=>(au3 aXv x l).bind λv=>.ret (dY dst (.r (.c (.f v))))
 |.max,x::l=>(asF x).bind λx=>(uC asF l).bind λl=>(au3 aXw x l).bind λv=>.ret (dY dst (.r (.c (.f v))))
 |_,_=>.fail
def a0R:AV->Rd (Nat×List RV)
 |.fn f aek=>.ret (f,aek)
 |.r (.c (.cl f b o n))=>.ret (f,[.c (.ptr b o n)])
 |_=>.fail
def apk (P:Program)(e:TypeId)(n z:Nat)(b:aj):aj:=
 match !aSC P n e&&wr n 8 with
 |true=>b
 |false=>atl z b
inductive CK where
 |i (k:IntKind)
 |b
 |s
def CK.nK:CK->c7
 |.i k=>.i k λ_=>0
 |.b=>.b λ_=>false
 |.s=>.s λ_=>.empty
def ckT (P:Program):Nat->TypeId->Option (List CK)
 |0,_=>none
 |d+1,t=>match P.underlying t with
  |some .bool=>some [.b]
  |some (.int k)=>some [.i k]
  |some .string=>some [.s]
  |some (.struct fs)=>fs.toList.foldr (λf l=>match ckT P d f.type,l with
   |some a,some b=>some (a++b)
   |_,_=>none) (some [])
  |some (.array n e)=>(ckT P d e).map (aSD n)
  |_=>none
def aKG (P:Program):Nat->TypeId->List (Option (Nat×List CK))
 |0,_=>[]
 |d+1,t=>match P.underlying t with
  |some (.struct fs)=>(fs.toList.map λf=>aKG P d f.type).flatten
  |some (.array n e)=>aSD n (aKG P d e)
  |some (.slice e)=>[match iZ P e,ckT P 30 e with
   |some z,some ks=>some (z,ks)
   |_,_=>none]
  |_=>[none]
def Tj:List (Option (Nat×List CK))->aj->Nat->aj×List aj
 |_,[],_=>([],[])
 |ks,.a n cols::r,b=>let x:=Tj (ks.drop (n.val*cols.length)) r b;(.a n cols::x.1,x.2)
 |ks,.c v::r,b=>match v,ks with
  |.nils,some (z,k)::ks=>let x:=Tj ks r (b+1);(.c (.sl b (.k 0) (.s 0) z true)::x.1,[.a (.s 0) (k.map CK.nK)]::x.2)
  |v,ks=>let x:=Tj (ks.drop 1) r b;(.c v::x.1,x.2)
def aSL:aj->Bool
 | []=>false
 |.c .nils::_=>true
 |_::r=>aSL r
def jf (P:Program)(t:TypeId)(b:aj)(aM:Nat):aj×List aj:=
 match aSL b with
 |true=>Tj (aKG P 30 t) b aM
 |false=>(b,[])
def Ce:List aj->Nat->List Up
 | [],_=>[]
 |b::bs,n=>.new n b::Ce bs (n+1)
def au4 (dst:Option Tmp)(aM n:Nat)(cs:aj):List Up:=dY dst (.r (.c (.ptr aM (.k 0) n)))++[.new aM cs]
def aop (P:Program)(E:Env)(o:Oper)(aM:Nat):Rd (List Up):=
 let val (m:Rd RV):Rd (List Up):=m.bind λv=>.ret (dY o.dst (.r v))
 let cel (m:Rd CV):Rd (List Up):=m.bind λv=>.ret (dY o.dst (.r (.c v)))
 match o.op with
 |.move x|.assign x=>(Ep x).bind λv=>.ret (dY o.dst v)
 |.pick c a b=>(aIV c).bind λx=>.test x λ
  |true=>(Ep a).bind λv=>.ret (dY o.dst v)
  |false=>(Ep b).bind λv=>.ret (dY o.dst v)
 |.alloc e=>(eu (AW P e)).bind λz=>.ret (Ce (jf P e z.bU aM).2 aM++au4 o.dst (aM+(jf P e z.bU aM).2.length) (aj.size (jf P e z.bU aM).1) (jf P e z.bU aM).1)
 |.box t x=>(wL x).bind λv=>.ret (Ce (jf P t v.bU aM).2 aM++au4 o.dst (aM+(jf P t v.bU aM).2.length) (aj.size (jf P t v.bU aM).1) (jf P t v.bU aM).1)
 |.makeSlice t n c=>match P.underlying t with
  |some (.slice e)=>(eu (AW P e)).bind λz=>(eu (iZ P e)).bind λq=>(K7 n).bind λn=>(K7 c).bind λc=>
   (cR (decide (n.2=0)&&decide (c.2=0))).bind λ_=>(eu (EN q z.bU)).bind λcols=>
   .ret (dY o.dst (.r (.c (.sl aM (.k 0) (.s 0) q true)))++[.new aM [.a (.s 0) cols]])
  |_=>.fail
 |.build t ps=>(eu (AW P t)).bind λz=>(uC (λp=>(wL p.2).bind λv=>.ret (p.1,v)) ps.toList).bind λl=>
  (eu (placesOf P t)).bind λpl=>(eu (alq pl z.bU l)).bind λcs=>.ret (dY o.dst (.r (.agg cs)))
 |.buildSlice t n ps=>match P.underlying t with
  |some (.slice e)=>(eu (AW P e)).bind λz=>(eu (iZ P e)).bind λq=>
   (cR (wr 1 q&&wr (n*q) 16777216)).bind λ_=>
   (uC (λp=>(wL p.2).bind λv=>.ret (p.1,v)) ps.toList).bind λl=>
   (cR (z9 (aj.size z.bU) q)).bind λ_=>(eu (alq (λi=>some (i*q,q)) (rep n z.bU) l)).bind λcs=>.ret (dY o.dst (.r (.c (.sl aM (.k 0) (.l n) q true)))++[.new aM (apk P e n q cs)])
  |_=>.fail
 |.load t a=>(HD a).bind λ
  |.ptr b q n=>val (valueOf P t b q n)
  |.fp l=>val (aEI P t l)
  |_=>.fail
 |.store t a x=>(aML a).bind λp=>(aMK x).bind λv=>(eu (iZ P t)).bind λn=>
  (cR (z9 (aj.size v.bU) n&&wr n p.2.2)).bind λ_=>.sz p.1<|
  .ret (Ce (jf P t v.bU aM).2 aM++(dY o.dst udf++[.c p.1 p.2.1 (jf P t v.bU aM).1]))
 |.nilCheck x=>(HD x).bind λ
  |.ptr b q n=>.ret (dY o.dst (.r (.c (.ptr b q n))))
  |.fp l=>.ret (dY o.dst (.r (.c (.fp l))))
  |_=>.fail
 |.binOp op t x y _=>(wL x).bind λa=>(wL y).bind λb=>val (aXs P op t a b)
 |.unOp op _ x=>(wL x).bind λa=>val (unV op a)
 |.convert s d x=>(wL x).bind λa=>val (aQF P s d a)
 |.sliceToArrayPointer t x=>(HD x).bind λc=>match P.underlying t,c with
  |some (.array n _),.sl b q len z _=>(cR (wr 1 n&&wr n len.val)).bind λ_=>cel (.ret (.ptr b q (n*z)))
  |_,_=>.fail
 |.makeFunc (.func f) fs aek=>match fs.toList with
  | []=>(uC wL aek.toList).bind λl=>.ret (dY o.dst (.fn f l))
  |_=>.fail
 |.slice t x lo hi none=>(HD x).bind λc=>(aAa lo).bind λl=>(aAa hi).bind λh=>cel (aKE P t c (vQ lo&&vQ hi) l h)
 |.fieldAddr t x i=>(HD x).bind λc=>cel (ayl P t c i)
 |.field t x i=>(wL x).bind λ
  |.agg cs=>(eu (agz P t i)).bind λf=>val (OK P f.type cs f.offset)
  |_=>.fail
 |.indexAddr t x i=>(HD x).bind λc=>(K7 i).bind λi=>cel (aym P t c i.2)
 |.index t x i=>(wL x).bind λv=>(K7 i).bind λi=>match P.underlying t,v with
  |some (.array n e),.agg cs=>(eu (iZ P e)).bind λz=>(cR (wr 1 z&&wr (n*z) (aj.size cs))).bind λ_=>(cR (bf i.2 n)).bind λ_=>(sel P (.k 0) i.2 n e z).bind λo=>val (partOf P e cs o)
  |some .string,.c (.f (.s b))=>(cR (bf i.2 b.size)).bind λ_=>val (.ret (.c (.f (.i .u8 (EO b i.2.toNat)))))
  |_,_=>.fail
 |.extract x i=>(Ep x).bind λ
  |.tup vs=>(eu (vs[i]?)).bind λv=>.ret (dY o.dst (.r v))
  |_=>.fail
 |.call c=>(uC Ep c.args.toList).bind λargs=>match c.callee with
  |.builtin b=>biV P b c.argTypes args o.dst aM
  |.value f=>(Ep f).bind λf=>(a0R f).bind λfc=>aXu E fc.1 (args++fc.2.map .r) o.dst aM
  |.invoke _ _=>.fail
 |_=>.fail
def mark (k:Nat)(b:Nat)(d:List Nat):List Nat:=
 match wl b k&& !d.any (z9 b) with
 |true=>b::d
 |false=>d
def Up.app (k:Nat)(s:St):Up->St
 |.t i v=>{s with tmps:=s.tmps.set i v}
 |.c b o v=>match s.bU b with
  |some bU=>match bU.AA o v with
   |some p=>{s with heap:=s.heap.set b (some p.2),du:=mark k b s.du}
   |none=>s
  |none=>s
 |.new _ bU=>{s with heap:=s.heap++[some bU]}
 |.kill b=>{s with heap:=s.heap.set b none,du:=mark k b s.du}
def Up.ok (s:St):Up->Bool
 |.t i _=>wl i s.tmps.length
 |.c b o v=>match s.bU b with
  |some bU=>match bU.AA o v with
   |some p=>p.1&&wr (o.val+aj.size v) (aj.size bU)
   |none=>false
  |none=>false
 |.new b _=>z9 b s.heap.length
 |.kill b=>wl b s.heap.length
def jX (k:Nat):List Up->St->Option St
 | [],s=>some s
 |u::us,s=>match u.ok s with
  |true=>jX k us (u.app k s)
  |false=>none
def aQH (acc:List Nat)(m:Nat)(e:Edge):Nat:=match Region.binds .any e with
 |true=>(m|||2^e.on)|||acc.getD e.on 0
 |false=>m
def mask (acc:List Nat)(o:Oper):Nat:=o.after.toList.foldl (aQH acc) 0
def LY:List Oper->List Nat->List Nat
 | [],acc=>acc
 |o::l,acc=>LY l (acc++[mask acc o])
def ovl (lo n lo' n':Nat):Bool:=wl lo (lo'+n')&&wl lo' (lo+n)
def meet:Option (Nat×Nat)->Option (Nat×Nat)->Bool
 |some (lo,n),some (lo',n')=>ovl lo n lo' n'
 |_,_=>true
def Fp.aAb:Fp->Up->Bool
 |.t i,.t j _=>z9 i j
 |.c b r,.c b' o v=>z9 b b'&&meet r (aMJ o v)
 |.c b _,.new b' _|.c b _,.kill b'|.z b,.new b' _|.z b,.kill b'=>z9 b b'
 |_,_=>false
def Up.aAb:Up->Up->Bool
 |.t i _,.t j _=>z9 i j
 |.c b o v,.c b' o' v'=>z9 b b'&&meet (aMJ o v) (aMJ o' v')
 |.c b _ _,.new b' _|.c b _ _,.kill b'|.new b _,.c b' _ _|.kill b,.c b' _ _|.new b _,.new b' _|.new b _,.kill b'|.kill b,.new b' _|.kill b,.kill b'=>z9 b b'
 |_,_=>false
structure Tr where
 fp:List Fp
 us:List Up
def Tr.agC (x y:Tr):Bool:=
 x.us.any (λu=>y.fp.any (·.aAb u)||y.us.any (·.aAb u))||y.us.any (λu=>x.fp.any (·.aAb u))
def Rw (ms:List Nat):List Tr->Nat->Bool
 | [],_=>true
 |x::rest,j=>(rest.zipIdx.all λp=>Nat.testBit (ms.getD (j+1+p.2) 0) j|| !x.agC p.1)&&Rw ms rest (j+1)
def Rx:List Oper->Nat->Bool
 | [],_=>true
 |o::l,i=>(o.after.toList.all λe=> !Region.binds .any e||wl e.on i)&&Rx l (i+1)
def aXx (o:Oper)(nt:Nat):Bool:=
 match o.dst with
 |none=>true
 |some d=>wl d nt
def OL (ops:List Oper)(j:Nat):Option Tmp:=(ops[j]?).bind (·.dst)
def agD {α ρ:Type}(l:List α):(List α->ρ)->ρ:=
 List.rec (motive:=λ_=>(List α->ρ)->ρ) (λk=>k []) (λa _ ih k=>ih λl=>k (a::l)) l
def au5 {ρ:Type}(o:cE)(k:cE->ρ):ρ:=
 match o with
 |.k c=>k (.k c)
 |.x c i z=>k (.x c i z)
def aKH {ρ:Type}(n:Sz)(k:Sz->ρ):ρ:=
 match n with
 |.l n=>k (.l n)
 |.s n=>k (.s n)
def aDR {ρ:Type}(v:FV)(k:FV->ρ):ρ:=
 match v with
 |.u=>k .u
 |.b x=>k (.b x)
 |.i d n=>k (.i d n)
 |.s x=>k (.s x)
 |.q n g=>k (.q n g)
def ayn {ρ:Type}(c:c7)(k:c7->ρ):ρ:=
 match c with
 |.i d g=>k (.i d g)
 |.b g=>k (.b g)
 |.s g=>k (.s g)
 |.u=>k .u
 |.q n g=>k (.q n g)
def WK {ρ:Type}(l:List c7):(List c7->ρ)->ρ:=
 List.rec (motive:=λ_=>(List c7->ρ)->ρ) (λk=>k []) (λa _ ih k=>ayn a λa=>ih λl=>k (a::l)) l
def au6 {ρ:Type}(l:List FV):(List FV->ρ)->ρ:=
 List.rec (motive:=λ_=>(List FV->ρ)->ρ) (λk=>k []) (λa _ ih k=>aDR a λa=>ih λl=>k (a::l)) l
def aDS {ρ:Type}(c:CV)(k:CV->ρ):ρ:=
 match c with
 |.f v=>aDR v λv=>k (.f v)
 |.ptr b o n=>au5 o λo=>k (.ptr b o n)
 |.cl f b o n=>au5 o λo=>k (.cl f b o n)
 |.aiY=>k .aiY
 |.sl b o l z w=>au5 o λo=>aKH l λl=>k (.sl b o l z w)
 |.nils=>k .nils
 |.aSx=>k .aSx
 |.aSy=>k .aSy
 |.fs n z cols=>WK cols λcols=>k (.fs n z cols)
 |.fp l=>au6 l λl=>k (.fp l)
def au7 {ρ:Type}(s:Sg)(k:Sg->ρ):ρ:=
 match s with
 |.c v=>aDS v λv=>k (.c v)
 |.a n cols=>aKH n λn=>WK cols λcols=>k (.a n cols)
def aap {ρ:Type}(l:aj):(aj->ρ)->ρ:=
 List.rec (motive:=λ_=>(aj->ρ)->ρ) (λk=>k []) (λa _ ih k=>au7 a λa=>ih λl=>k (a::l)) l
def au8 {ρ:Type}(r:RV)(k:RV->ρ):ρ:=
 match r with
 |.c c=>aDS c λc=>k (.c c)
 |.agg b=>aap b λb=>k (.agg b)
def alr {ρ:Type}(l:List RV):(List RV->ρ)->ρ:=
 List.rec (motive:=λ_=>(List RV->ρ)->ρ) (λk=>k []) (λa _ ih k=>au8 a λa=>ih λl=>k (a::l)) l
def au9 {ρ:Type}(v:AV)(k:AV->ρ):ρ:=
 match v with
 |.r r=>au8 r λr=>k (.r r)
 |.tup rs=>alr rs λrs=>k (.tup rs)
 |.fn f rs=>alr rs λrs=>k (.fn f rs)
 |.WG=>k .WG
def aDT {ρ:Type}(u:Up)(k:Up->ρ):ρ:=
 match u with
 |.t i v=>au9 v λv=>k (.t i v)
 |.c b o vs=>au5 o λo=>aap vs λvs=>k (.c b o vs)
 |.new b bU=>aap bU λbU=>k (.new b bU)
 |.kill b=>k (.kill b)
def ava {ρ:Type}(l:List Up):(List Up->ρ)->ρ:=
 List.rec (motive:=λ_=>(List Up->ρ)->ρ) (λk=>k []) (λa _ ih k=>aDT a λa=>ih λl=>k (a::l)) l
def avb {ρ:Type}(l:List AV):(List AV->ρ)->ρ:=
 List.rec (motive:=λ_=>(List AV->ρ)->ρ) (λk=>k []) (λa _ ih k=>au9 a λa=>ih λl=>k (a::l)) l
def avc {ρ:Type}(u:Option aj)(k:Option aj->ρ):ρ:=
 match u with
 |some b=>aap b λb=>k (some b)
 |none=>k none
def avd {ρ:Type}(l:List (Option aj)):(List (Option aj)->ρ)->ρ:=
 List.rec (motive:=λ_=>(List (Option aj)->ρ)->ρ) (λk=>k []) (λa _ ih k=>avc a λa=>ih λl=>k (a::l)) l
def yC {ρ:Type}(s:St)(k:St->ρ):ρ:=
 match s with
 | ⟨t,h,d⟩=>avb t λt=>avd h λh=>agD d λd=>k ⟨t,h,d⟩
def Up.aen {ρ:Type}(k:Nat)(u:Up)(s:St)(c:St->Option ρ):Option ρ:=
 match u with
 |.t i v=>az9 s.tmps i v λt=>c {s with tmps:=t}
 |.c b o v=>match s.bU b with
  |some bU=>match bU.AA o v with
   |some p=>match p.1&&wr (o.val+aj.size v) (aj.size bU) with
    |true=>aap p.2 λbU=>az9 s.heap b (some bU) λh=>agD (mark k b s.du) λd=>c {s with heap:=h,du:=d}
    |false=>none
   |none=>none
  |none=>none
 |.new b bU=>match z9 b s.heap.length with
  |true=>agD (s.heap++[some bU]) λh=>c {s with heap:=h}
  |false=>none
 |.kill b=>az9 s.heap b none λh=>agD (mark k b s.du) λd=>c {s with heap:=h,du:=d}
def aen {ρ:Type}(k:Nat)(us:List Up):St->(St->Option ρ)->Option ρ:=
 List.rec (motive:=λ_=>St->(St->Option ρ)->Option ρ) (λs c=>c s) (λu _ ih s c=>u.aen k s λs=>ih s c) us
def LZ (P:Program)(E:Env)(nt k:Nat)(ops:List Oper){ρ:Type}:List Oper->St->List Tr->(St->List Tr->Option ρ)->Option ρ
 | [],s,l,c=>c s l
 |o::rest,s,l,c=>
  let go (s:St) (fp:List Fp):Option ρ:=
   (aop P E o s.heap.length).run s fp λus fp=>ava us λus=>aen k us s λs'=>agD (l++[⟨fp,us⟩]) λl=>LZ P E nt k ops rest s' l c
  let skip (s:St) (fp:List Fp):Option ρ:=aen k (dY o.dst udf) s λs'=>agD (l++[⟨fp,dY o.dst udf⟩]) λl=>LZ P E nt k ops rest s' l c
  match aXx o nt with
  |false=>none
  |true=>
  match o.guard with
  |none=>go s []
  |some (j,want)=>match OL ops j with
   |none=>none
   |some t=>match s.tmp t with
    |.r (.c (.f (.b x)))=>match x with
     |true=>az9 s.tmps t (.r (.c (.f (.b true)))) λts=>match want with|true=>go {s with tmps:=ts} [.t t]|false=>skip {s with tmps:=ts} [.t t]
     |false=>az9 s.tmps t (.r (.c (.f (.b false)))) λts=>match want with|true=>skip {s with tmps:=ts} [.t t]|false=>go {s with tmps:=ts} [.t t]
    |.tup []=>skip s [.t t]
    |_=>none
inductive AX where
 |nrm
 |ex (id:Nat)
 |ret
def idx (b:Nat):List Nat->Nat->Option Nat
 | [],_=>none
 |x::l,i=>match z9 x b with
  |true=>some i
  |false=>idx b l (i+1)
def als (H b:Nat)(m:List Nat):Nat×List Nat:=
 match wr H b with
 |true=>match idx b m 0 with
  |some i=>(H+i,m)
  |none=>(H+m.length,m++[b])
 |false=>(b,m)
def gcC (H:Nat)(c:CV)(m:List Nat):CV×List Nat:=
 match c with
 |.ptr b o n=>let x:=als H b m;(.ptr x.1 o n,x.2)
 |.cl f b o n=>let x:=als H b m;(.cl f x.1 o n,x.2)
 |.sl b o l z w=>let x:=als H b m;(.sl x.1 o l z w,x.2)
 |c=>(c,m)
def HZ {α:Type}(g:α->List Nat->α×List Nat):List α->List Nat->List α×List Nat
 | [],m=>([],m)
 |a::l,m=>let x:=g a m;let y:=HZ g l x.2;(x.1::y.1,y.2)
def gcS (H:Nat)(s:Sg)(m:List Nat):Sg×List Nat:=
 match s with
 |.c c=>let x:=gcC H c m;(.c x.1,x.2)
 |s=>(s,m)
def gcR (H:Nat)(r:RV)(m:List Nat):RV×List Nat:=
 match r with
 |.c c=>let x:=gcC H c m;(.c x.1,x.2)
 |.agg cs=>let x:=HZ (gcS H) cs m;(.agg x.1,x.2)
def gcA (H:Nat)(a:AV)(m:List Nat):AV×List Nat:=
 match a with
 |.r r=>let x:=gcR H r m;(.r x.1,x.2)
 |.tup rs=>let x:=HZ (gcR H) rs m;(.tup x.1,x.2)
 |.fn f rs=>let x:=HZ (gcR H) rs m;(.fn f x.1,x.2)
 |.WG=>(.WG,m)
def gcB (H:Nat)(b:Option aj)(m:List Nat):Option aj×List Nat:=
 match b with
 |some cs=>let x:=HZ (gcS H) cs m;(some x.1,x.2)
 |none=>(none,m)
def gcN (H:Nat)(heap:List (Option aj)):Nat->Nat->List Nat->List (Option aj)->Option (List (Option aj)×List Nat)
 |0,_,_,_=>none
 |fuel+1,i,m,acc=>match m[i]? with
  |none=>some (acc,m)
  |some b=>let x:=gcB H ((heap[b]?).getD none) m;gcN H heap fuel (i+1) x.2 (acc++[x.1])
def gcO (k:Nat)(d:List Nat)(H:Nat):List (Option aj)->Nat->List Nat->List (Option aj)×List Nat
 | [],_,m=>([],m)
 |b::l,j,m=>match wl j k&& !d.any (z9 j) with
  |true=>let y:=gcO k d H l (j+1) m;(b::y.1,y.2)
  |false=>let x:=gcB H b m;let y:=gcO k d H l (j+1) x.2;(x.1::y.1,y.2)
def St.gc (k:Nat)(s:St)(H:Nat):Option St:=
 match wr H s.heap.length with
 |false=>none
 |true=>
 let x:=HZ (gcA H) s.tmps []
 let y:=gcO k s.du H (s.heap.take H) 0 x.2
 match gcN H s.heap 1000 0 y.2 [] with
 |some z=>some {s with tmps:=x.1,heap:=y.1++z.1}
 |none=>none
structure Hd where
 id:Nat
 aEL:List Nat
 nils:List (Nat×List CK)
structure Sm where
 id:Nat
 kk:Nat
 run:∀{ρ:Type},St->(AX->St->Option ρ)->Option ρ
structure Jn where
 hd:Hd
 sm:Sm
structure Hs where
 hd:List Hd
 sm:List Sm
 du:List Nat
 jn:List Jn
 rk:Option Hd
def Ry:Code->Option Nat
 |.region id _ _=>some id
 |.seq a _=>Ry a
 |.block _ a=>Ry a
 |.loop a=>Ry a
 |_=>none
def aIY (c:CV):CV:=
 match c with
 |.sl b o len z own=>match o with
  |.k c=>.sl b (.x c 0 z) len z own
  |o=>.sl b o len z own
 |c=>c
def aEM (g:CV->CV)(s:Sg):Sg:=
 match s with
 |.c v=>.c (g v)
 |s=>s
def mapA (g:CV->CV)(a:AV):AV:=
 match a with
 |.r (.c v)=>.r (.c (g v))
 |a=>a
def ai0 (g:CV->CV)(k:Nat)(d:List Nat):List (Option aj)->Nat->List (Option aj)
 | [],_=>[]
 |b::l,j=>(match wl j k&& !d.any (z9 j) with
  |true=>b
  |false=>b.map λb=>b.map (aEM g))::ai0 g k d l (j+1)
def aMR (b n x:Nat):Nat:=
 match z9 x b with
 |true=>n
 |false=>x
def aMS (b n:Nat)(c:CV):CV:=
 match c with
 |.ptr x o m=>.ptr (aMR b n x) o m
 |.cl f x o m=>.cl f (aMR b n x) o m
 |.sl x o l z w=>.sl (aMR b n x) o l z w
 |c=>c
def aXy (c:CV):CV:=
 match c with
 |.sl b o len z own=>.sl b o (.s len.val) z own
 |c=>c
def a0S (c:CV):CV:=aXy (aIY c)
def aIZ (s:Sg):Sg:=
 match s with
 |.c v=>.c (a0S v)
 |s=>s
def N8 (a:AV):AV:=
 match a with
 |.r (.c v)=>.r (.c (a0S v))
 |a=>a
def slC (c:CV)(l:List (Nat×Nat)):List (Nat×Nat):=
 match c with
 |.sl b _ _ z _=>(b,z)::l
 |_=>l
def a3l (s:Sg)(l:List (Nat×Nat)):List (Nat×Nat):=
 match s with
 |.c v=>slC v l
 |_=>l
def a3m (a:AV)(l:List (Nat×Nat)):List (Nat×Nat):=
 match a with
 |.r (.c v)=>slC v l
 |_=>l
def a3n (b:Option aj)(l:List (Nat×Nat)):List (Nat×Nat):=
 match b with
 |some b=>b.foldr a3l l
 |none=>l
def sls (s:St):List (Nat×Nat):=s.tmps.foldr a3m (s.heap.foldr a3n [])
def aXz (j:Nat):List (Nat×Nat)->Option Nat
 | []=>none
 |p::l=>match z9 p.1 j with
  |true=>some p.2
  |false=>aXz j l
def aEN (l:List (Nat×Nat))(j:Nat)(b:aj):aj:=
 match aXz j l with
 |some z=>toS (atl z (b.map aIZ))
 |none=>b.map aIZ
def alu (k:Nat)(d:List Nat)(sl:List (Nat×Nat)):List (Option aj)->Nat->List (Option aj)
 | [],_=>[]
 |b::l,j=>(match wl j k&& !d.any (z9 j) with
  |true=>b
  |false=>b.map λb=>aEN sl j b)::alu k d sl l (j+1)
def aQI (k b:Nat)(s:St):St:=
 match s.bU b with
 |some bU=>match wl b k with
  |true=>{s with tmps:=s.tmps.map (mapA (aMS b s.heap.length)),heap:=ai0 (aMS b s.heap.length) k (mark k b s.du) (s.heap.set b none++[some bU]) 0,du:=mark k b s.du}
  |false=>s
 |none=>s
def aI0 (k:Nat)(s:St)(p:Nat×List CK):St:=
 match p.2 with
 | []=>match p.1 with
  |0=>{s with tmps:=s.tmps.map (mapA aIY),heap:=ai0 aIY k s.du s.heap 0}
  |1=>{s with tmps:=s.tmps.map N8,heap:=alu k s.du (sls s) s.heap 0}
  |b+2=>aQI k b s
 |_::_=>match s.tmp p.1 with
  |.r (.c .nils)=>{s with tmps:=s.tmps.set p.1 (.r (.c (.sl s.heap.length (.k 0) (.s 0) p.2.length true))),heap:=s.heap++[some [.a (.s 0) (p.2.map CK.nK)]]}
  |_=>s
def aSM (id:Nat):List Hd->Option Hd
 | []=>none
 |h::l=>match z9 h.id id with
  |true=>some h
  |false=>aSM id l
def aSN (id:Nat):List Sm->Option Sm
 | []=>none
 |h::l=>match z9 h.id id with
  |true=>some h
  |false=>aSN id l
def aqz (hs:Hs)(a:Code):Option Sm:=
 match Ry a with
 |none=>none
 |some id=>aSN id hs.sm
def St.acd (k:Nat)(s:St)(h:Hd):Option St:=((h.nils.foldl (aI0 k) {s with tmps:=h.aEL.foldl (λl t=>l.set t WG) s.tmps}).gc k k)
def St.head (k:Nat)(s:St)(hs:Hs)(body:Code):Option St:=
 match Ry body with
 |none=>s.gc k k
 |some id=>match aSM id hs.hd with
  |none=>s.gc k k
  |some h=>s.acd k h
def aSO (id:Nat):List Jn->Option Jn
 | []=>none
 |h::l=>match z9 h.sm.id id with
  |true=>some h
  |false=>aSO id l
def az5 (hs:Hs)(b:Code):Option Jn:=
 match hs.jn with
 | []=>none
 |j::l=>match Ry b with
  |none=>none
  |some id=>aSO id (j::l)
def LQ (hs:Hs):Code->List Code
 |.seq a b=>(match az5 hs b with
  |some _=>[b]
  |none=>[])++(LQ hs a++LQ hs b)
 |.cond _ a b=>LQ hs a++LQ hs b
 |.block _ a=>LQ hs a
 |.loop a=>LQ hs a
 |_=>[]
def ato (id:Nat):Code->Option Code
 |.seq a b=>match(match Ry b with
   |some i=>z9 i id
   |none=>false) with
  |true=>some b
  |false=>match ato id a with
   |some c=>some c
   |none=>ato id b
 |.cond _ a b=>match ato id a with
  |some c=>some c
  |none=>ato id b
 |.block _ a=>ato id a
 |.loop a=>ato id a
 |_=>none
def aaq (id:Nat):Code->Option Code
 |.seq a b=>match aaq id a with
  |some c=>some c
  |none=>aaq id b
 |.cond _ a b=>match aaq id a with
  |some c=>some c
  |none=>aaq id b
 |.block _ a=>aaq id a
 |.loop a=>match Ry a with
  |some j=>match z9 j id with
   |true=>some a
   |false=>aaq id a
  |none=>aaq id a
 |_=>none
def LP:Code->List Code
 |.seq a b=>LP a++LP b
 |.cond _ a b=>LP a++LP b
 |.block _ a=>LP a
 |.loop a=>a::LP a
 |_=>[]
def aal (P:Program)(f:FuncId):Code:=((P.funcs[f]?).bind (·.body)).getD .skip
def aak (P:Program)(f:FuncId)(id:Nat):Code:=(aaq id (aal P f)).getD .skip
def agq (P:Program)(f:FuncId)(id:Nat):Code:=(ato id (aal P f)).getD .skip
def tmpsOf (P:Program)(f:FuncId):Nat:=((P.funcs[f]?).map (·.ntmps)).getD 0
def iter {ρ:Type}(hd:St->Option St)(body:St->(AX->St->Option ρ)->Option ρ)(k:AX->St->Option ρ)(n:Nat):St->Option ρ:=
 Nat.rec (λ_=>none) (λ_ ih s=>body s λe s=>match e with
   |.nrm=>match hd s with
    |none=>none
    |some s=>yC s ih
   |e=>k e s) n
def next {ρ:Type}(hd:St->Option St)(c:St->Option ρ)(k:AX->St->Option ρ):AX->St->Option ρ:=λe s=>match e with
 |.nrm=>match hd s with
  |none=>none
  |some s=>yC s c
 |e=>k e s
def HF (P:Program)(E:Env)(hs:Hs)(nt kk:Nat)(lf:Nat){ρ:Type}:Code->St->(AX->St->Option ρ)->Option ρ
 |.skip,s,k=>k .nrm s
 |.region _ ops draw,s,k=>match draw with
  |false=>LZ P E nt kk ops.toList ops.toList s [] λs _=>k .nrm s
  |true=>LZ P E nt kk ops.toList ops.toList s [] λs l=>match Rx ops.toList 0&&Rw (LY ops.toList []) l 0 with
   |true=>k .nrm s
   |false=>none
 |.seq a b,s,k=>HF P E hs nt kk lf a s λe s=>match e with
  |.nrm=>match az5 hs b with
   |none=>HF P E hs nt kk lf b s k
   |some j=>match s.acd kk j.hd with
    |none=>none
    |some s=>yC s λs=>match z9 j.sm.kk kk with
     |true=>j.sm.run s k
     |false=>none
  |e=>k e s
 |.cond (.tmp t) a b,s,k=>match s.tmp t with
  |.r (.c (.f (.b x)))=>match x with
   |true=>HF P E hs nt kk lf a s k
   |false=>HF P E hs nt kk lf b s k
  |_=>none
 |.block id a,s,k=>HF P E hs nt kk lf a s λe s=>match e with
  |.ex j=>match z9 j id with
   |true=>k .nrm s
   |false=>k (.ex j) s
  |e=>k e s
 |.loop a,s,k=>match s.head kk hs a with
  |none=>none
  |some s=>yC s λs=>match aqz hs a with
   |some σ=>match z9 σ.kk kk with
    |true=>σ.run s k
    |false=>none
   |none=>iter (λt=>t.head kk hs a) (HF P E hs nt kk lf a) k lf s
 |.exit id,s,k=>k (.ex id) s
 |.ret,s,k=>match hs.rk with
  |none=>k .ret s
  |some h=>match s.acd kk h with
   |none=>none
   |some s=>yC s λs=>k .ret s
 |_,_,_=>none
def aSP (P:Program)(s:St):ResultVar->Option RV
 |.tmp t=>match s.tmp t with
  |.r v=>some v
  |_=>none
 |.cell a t=>match s.tmp a with
  |.r (.c (.ptr b o m))=>match ael P t,iZ P t,s.bU b,o with
   |some true,some n,some bU,.k c=>match wr n m with
    |true=>(alm bU c (.l 1) n).map .agg
    |false=>none
   |some false,some _,some bU,.k c=>match wr 1 m with
    |true=>match alm bU c (.l 1) 1 with
     |some [.c v]=>some (.c v)
     |_=>none
    |false=>none
   |_,_,_,_=>none
  |_=>none
def ayo (P:Program)(s:St):List ResultVar->Option (List RV)
 | []=>some []
 |r::l=>match aSP P s r,ayo P s l with
  |some v,some vs=>some (v::vs)
  |_,_=>none
def one:List RV->AV
 | [v]=>.r v
 |vs=>.tup vs
def ai1 (s:List Nat):List (Option aj)->Nat->List Ch
 | [],_=>[]
 |b::l,j=>(match s.any (z9 j) with
  |false=>Ch.mB
  |true=>match b with
   |some b=>.set b
   |none=>.kill)::ai1 s l (j+1)
def aEO {α:Type}:List (Option α)->Option (List α)
 | []=>some []
 |some a::l=>(aEO l).map (a:: ·)
 |none::_=>none
def fin (P:Program)(fn:Func)(k:Nat)(e:AX)(s:St):Option pD:=
 match e with
 |.ex _=>none
 |_=>match ayo P s fn.results.toList with
  |none=>none
  |some vs=>
   let x:=gcA k (one vs) []
   let y:=gcO k s.du k (s.heap.take k) 0 x.2
   match gcN k s.heap 1000 0 y.2 [] with
   |some z=>match aEO z.1 with
    |some news=>some {val:=x.1,yP:=ai1 s.du y.1 0,news}
    |none=>none
   |none=>none
def start (fn:Func)(args:List AV)(h:List aj)(d:List Nat):St:=
 {tmps:=args++List.replicate (fn.ntmps-args.length) udf,heap:=h.map some,du:=d}
def den (P:Program)(E:Env)(hs:Hs)(lf:Nat)(f:FuncId)(args:List AV)(h:List aj):Option pD:=
 match P.funcs[f]? with
 |none=>none
 |some fn=>match fn.body with
  |none=>none
  |some c=>match hs.du.all λb=>wl b h.length with
   |false=>none
   |true=>yC (start fn args h hs.du) λs=>HF P E hs fn.ntmps h.length lf c s (fin P fn h.length)
end Go.Ab
