/-
  Parts of the proof: Ab
-/
import Derived.Orders
import Derived.KernelRfl
import Derived.LoopN
set_option linter.unusedVariables false
set_option linter.unusedSimpArgs false
noncomputable section
namespace Go.Ab
inductive FV where
 |u
 |b (x:Bool)
 |i (k:IntKind) (n:Int)
 |s (x:ByteArray)
 |q (n:Nat) (g:Nat->Bool)
inductive Sz where
 |l (n:Nat)
 |s (n:Nat)
def Sz.val:Sz->Nat
 |.l n=>n
 |.s n=>n
def Sz.add:Sz->Sz->Sz
 |.l a,.l b=>.l (a+b)
 |a,b=>.s (a.val+b.val)
def Sz.least:Sz->Sz->Sz
 |.l a,.l b=>.l (Nat.min a b)
 |a,b=>.s (Nat.min a.val b.val)
def Sz.mul (a:Sz)(k:Nat):Sz:=
 match Nat.beq k 1 with
 |true=>a
 |false=>match a with
  |.l a=>.l (a*k)
  |.s a=>.s (a*k)
inductive cg where
 |k (c:Nat)
 |x (c i z:Nat)
def cg.val:cg->Nat
 |.k c=>c
 |.x c i z=>c+i*z
def cg.add:cg->Nat->cg
 |.k c,d=>.k (c+d)
 |.x c i z,d=>.x (c+d) i z
def cg.plus:cg->cg->cg
 |.k c,.k d=>.k (c+d)
 |.x c i z,.k d=>.x (c+d) i z
 |.k c,.x d i z=>.x (c+d) i z
 |.x c i z,.x d j y=>match Nat.beq z y with
  |true=>.x (c+d) (i+j) z
  |false=>.x 0 (c+i*z+(d+j*y)) 1
def cg.idx (o:cg)(j z n:Nat):cg:=
 match o with
 |.k c=>.x c j z
 |.x c i y=>match Nat.beq y (n*z) with
  |true=>.x c (i*n+j) z
  |false=>.x 0 (c+i*y+j*z) 1
def cg.aIT (o:cg)(j z:Nat):cg:=
 match o with
 |.k c=>.x c j z
 |.x c i y=>match Nat.beq y z with
  |true=>.x c (i+j) z
  |false=>.x 0 (c+i*y+j*z) 1
inductive cB where
 |i (k:IntKind) (g:Nat->Int)
 |b (g:Nat->Bool)
 |s (g:Nat->ByteArray)
 |u
 |q (n:Nat->Nat) (g:Nat->Nat->Bool)
inductive CV where
 |f (v:FV)
 |ptr (b:Nat) (o:cg) (n:Nat)
 |afU
 |sl (b:Nat) (o:cg) (len:Sz) (esz:Nat) (own:Bool)
 |nils
 |aOj
 |aOk
 |cl (f b:Nat) (o:cg) (n:Nat)
 |fs (n z:Nat) (cols:List cB)
 |fp (l:List FV)
inductive Sg where
 |c (v:CV)
 |a (n:Sz) (cols:List cB)
abbrev af:=List Sg
inductive RV where
 |c (v:CV)
 |agg (b:af)
inductive AV where
 |r (v:RV)
 |tup (vs:List RV)
 |fn (f:Nat) (aa8:List RV)
 |Tv
def Tv:AV:=.Tv
def Y3:AV:=.tup []
def cB.at:cB->Nat->FV
 |.i k g,j=>.i k (g j)
 |.b g,j=>.b (g j)
 |.s g,j=>.s (g j)
 |.u,_=>.u
 |.q n g,j=>.q (n j) (g j)
def cB.shift (d:Nat):cB->cB
 |.i k g=>.i k λj=>g (d+j)
 |.b g=>.b λj=>g (d+j)
 |.s g=>.s λj=>g (d+j)
 |.u=>.u
 |.q n g=>.q (λj=>n (d+j)) λj=>g (d+j)
def cB.up (d:Nat):cB->cB
 |.i k g=>.i k λj=>g (j-d)
 |.b g=>.b λj=>g (j-d)
 |.s g=>.s λj=>g (j-d)
 |.u=>.u
 |.q n g=>.q (λj=>n (j-d)) λj=>g (j-d)
def cB.aOl (c:cB)(e:Nat)(v:CV):Option cB:=
 match c,v with
 |.i k g,.f (.i k' x)=>if k=k' then some (.i k λj=>cond (Nat.beq j e) x (g j)) else none
 |.b g,.f (.b x)=>some (.b λj=>cond (Nat.beq j e) x (g j))
 |.s g,.f (.s x)=>some (.s λj=>cond (Nat.beq j e) x (g j))
 |_,_=>none
def cB.mrg (p:Nat->Bool)(c d:cB):Option cB:=
 match c,d with
 |.i k g,.i k' h=>if k=k' then some (.i k λj=>cond (p j) (g j) (h j)) else none
 |.b g,.b h=>some (.b λj=>cond (p j) (g j) (h j))
 |.s g,.s h=>some (.s λj=>cond (p j) (g j) (h j))
 |_,_=>none
def arh (p:Nat->Bool):List cB->List cB->Option (List cB)
 | [],[]=>some []
 |c::cs,d::ds=>match cB.mrg p c d,arh p cs ds with
  |some e,some es=>some (e::es)
  |_,_=>none
 |_,_=>none
def Sg.size:Sg->Nat
 |.c _=>1
 |.a n cols=>n.val*cols.length
def Sg.get:Sg->Nat->CV
 |.c v,j=>match j with
  |0=>v
  |_+1=>.f .u
 |.a _ cols,j=>match cols[j%cols.length]? with
  |some q=>.f (q.at (j/cols.length))
  |none=>.f .u
def af.size:af->Nat
 | []=>0
 |s::l=>s.size+af.size l
def af.get:af->Nat->CV
 | [],_=>.f .u
 |s::l,j=>if j<s.size then s.get j else af.get l (j-s.size)
def af.list (b:af):List CV:=(List.range b.size).map b.get
def CV.fv:CV->FV
 |.f v=>v
 |_=>.u
def RV.bI:RV->af
 |.c v=>[.c v]
 |.agg b=>b
def shC (sh:Bool)(e:Nat)(cols:List cB):List cB:=
 match sh with
 |true=>cols.map (cB.shift e)
 |false=>cols
def aGF (sh:Bool)(cols:List cB)(e mc:Nat)(ch:Sz)(z:Nat):Option af:=
 match Nat.beq mc 0&&Nat.beq (z%cols.length) 0 with
 |true=>some [.a (ch.mul (z/cols.length)) (shC sh e cols)]
 |false=>none
def rowsOf (sh:Bool)(cols:List cB)(e mc:Nat)(ch:Sz)(z:Nat):Option af:=
 match ch with
 |.l n=>match Nat.beq n 1&&Nat.ble (mc+z) cols.length with
  |true=>some (((cols.drop mc).take z).map λq=>Sg.c (.f (q.at e)))
  |false=>aGF sh cols e mc (.l n) z
 |.s n=>aGF sh cols e mc (.s n) z
def Tw:af->Nat->Option af
 | [],m=>match m with
  |0=>some []
  |_+1=>none
 |.c v::r,m=>match m with
  |0=>some []
  |m+1=>(Tw r m).map (.c v:: ·)
 |.a n cols::r,m=>match m with
  |0=>some []
  |m+1=>match n with
   |.s _=>none
   |.l n=>match Nat.ble (n*cols.length) (m+1) with
    |true=>(Tw r (m+1-n*cols.length)).map (.a (.l n) cols:: ·)
    |false=>rowsOf false cols 0 0 (.l 1) (m+1)
def nz:Nat->Bool
 |0=>false
 |_+1=>true
def aii:af->Nat->Sz->Nat->Option af
 | [],c,ch,z=>match ch with
  |.l n=>match Nat.beq (n*z) 0 with
   |true=>some []
   |false=>none
  |.s _=>none
 |.c v::r,c,ch,z=>match c with
  |0=>match ch with
   |.l n=>Tw (.c v::r) (n*z)
   |.s _=>none
  |c+1=>aii r c ch z
 |.a n cols::r,c,ch,z=>match r with
  | []=>rowsOf (nz (c/cols.length)) cols (c/cols.length) (c%cols.length) ch z
  |_::_=>match n,ch with
   |.l n,.l m=>match Nat.ble (n*cols.length) c with
    |true=>aii r (c-n*cols.length) ch z
    |false=>match Nat.ble (c+m*z) (n*cols.length) with
     |true=>rowsOf (nz (c/cols.length)) cols (c/cols.length) (c%cols.length) ch z
     |false=>match c with
      |0=>Tw (.a (.l n) cols::r) (m*z)
      |_+1=>none
   |_,_=>none
def elemOf (c i z zc:Nat):Nat:=
 match Nat.beq z zc with
 |true=>match c/zc with
  |0=>i
  |q+1=>q+1+i
 |false=>c/zc+i*(z/zc)
def aww:af->Nat->Nat->Nat->Sz->Nat->Option (Bool×af)
 | [],_,_,_,_,_=>none
 |.c v::r,c,i,z,ch,y=>match c with
  |0=>(aii (.c v::r) (i*z) ch y).map λb=>(true,b)
  |c+1=>aww r c i z ch y
 |.a n cols::r,c,i,z,ch,y=>match r with
  | []=>match Nat.beq (z%cols.length) 0 with
   |true=>(rowsOf true cols (elemOf c i z cols.length) (c%cols.length) ch y).map λb=>(true,b)
   |false=>none
  |_::_=>match n with
   |.l n=>match Nat.ble (n*cols.length) c with
    |true=>aww r (c-n*cols.length) i z ch y
    |false=>match Nat.beq (z%cols.length) 0 with
     |true=>(rowsOf true cols (elemOf c i z cols.length) (c%cols.length) ch y).map λb=>(Nat.ble (c+i*z+ch.val*y) (n*cols.length),b)
     |false=>none
   |.s _=>none
def af.sub (b:af)(o:cg)(ch:Sz)(z:Nat):Option (Bool×af):=
 match o with
 |.k c=>(aii b c ch z).map λb=>(true,b)
 |.x c i y=>aww b c i y ch z
def adh:List cB->Nat->Nat->CV->Option (List cB)
 | [],_,_,_=>none
 |c::cs,0,e,v=>(cB.aOl c e v).map (·::cs)
 |c::cs,j+1,e,v=>(adh cs j e v).map (c:: ·)
def BM (zc:Nat):List cB->Nat->Nat->af->Option (List cB)
 |cols,_,_,[]=>some cols
 |cols,e,mc,.c v::r=>match adh cols mc e v with
  |some di=>match Nat.beq (mc+1) zc with
   |true=>BM zc di (e+1) 0 r
   |false=>BM zc di e (mc+1) r
  |none=>none
 |_,_,_,.a _ _::_=>none
def aAO (cols:List cB)(e mc:Nat)(v:af):Option (List cB):=
 match v with
 | [.a m di]=>match Nat.beq mc 0&&Nat.beq cols.length di.length with
  |true=>arh (λj=>Nat.ble e j&&Nat.blt j (e+m.val)) (di.map (cB.up e)) cols
  |false=>none
 |v=>BM cols.length cols e mc v
def eV:af->af->Option af
 |b,[]=>some b
 |.c _::r,.c y::vs=>(eV r vs).map (.c y:: ·)
 |.a (.l n) cols::r,.a (.l m) di::vs=>match Nat.beq n m&&Nat.beq cols.length di.length with
  |true=>(eV r vs).map (.a (.l m) di:: ·)
  |false=>none
 |_,_=>none
def aGG (n:Sz)(cols:List cB)(v:af):Bool:=
 match n,v with
 |.l n,[.a (.l m) di]=>Nat.beq n m&&Nat.beq cols.length di.length
 |_,_=>false
def aij:af->Nat->af->Option af
 | [],_,v=>match v with
  | []=>some []
  |_::_=>none
 |.c x::r,c,v=>match c with
  |0=>eV (.c x::r) v
  |c+1=>(aij r c v).map (.c x:: ·)
 |.a n cols::r,c,v=>match r with
  | []=>match Nat.beq c 0&&aGG n cols v with
   |true=>some v
   |false=>(aAO cols (c/cols.length) (c%cols.length) v).map λcols=>[.a n cols]
  |_::_=>match n with
   |.s _=>none
   |.l n=>match Nat.ble (n*cols.length) c with
    |true=>(aij r (c-n*cols.length) v).map (.a (.l n) cols:: ·)
    |false=>match Nat.beq c 0&&aGG (.l n) cols v with
     |true=>some (v++r)
     |false=>match Nat.ble (c+af.size v) (n*cols.length) with
      |true=>(aAO cols (c/cols.length) (c%cols.length) v).map λcols=>.a (.l n) cols::r
      |false=>match c with
       |0=>eV (.a (.l n) cols::r) v
       |_+1=>none
def awx:af->Nat->Nat->Nat->af->Option (Bool×af)
 | [],_,_,_,_=>none
 |.c x::r,c,i,z,v=>match c with
  |0=>(aij (.c x::r) (i*z) v).map λb=>(true,b)
  |c+1=>(awx r c i z v).map λp=>(p.1,.c x::p.2)
 |.a n cols::r,c,i,z,v=>match r with
  | []=>match Nat.beq (z%cols.length) 0 with
   |true=>(aAO cols (elemOf c i z cols.length) (c%cols.length) v).map λcols=>(true,[.a n cols])
   |false=>none
  |_::_=>match n with
   |.l n=>match Nat.ble (n*cols.length) c with
    |true=>(awx r (c-n*cols.length) i z v).map λp=>(p.1,.a (.l n) cols::p.2)
    |false=>match Nat.beq (z%cols.length) 0 with
     |true=>(aAO cols (elemOf c i z cols.length) (c%cols.length) v).map λcols=>(Nat.ble (c+i*z+af.size v) (n*cols.length),.a (.l n) cols::r)
     |false=>none
   |.s _=>none
def af.xT (b:af)(o:cg)(v:af):Option (Bool×af):=
 match o with
 |.k c=>(aij b c v).map λb=>(true,b)
 |.x c i z=>awx b c i z v
def Tx:af->Bool
 | []=>true
 |.c _::r=>Tx r
 |.a _ _::_=>false
def aGH:FV->Option cB
 |.i k x=>some (.i k λ_=>x)
 |.b x=>some (.b λ_=>x)
 |.s x=>some (.s λ_=>x)
 |.u=>none
 |.q _ _=>none
def Cy:Nat->af->Option (List cB)
 |0,_=>some []
 |z+1,.c (.f v)::r=>match aGH v,Cy z r with
  |some c,some cs=>some (c::cs)
  |_,_=>none
 |_+1,_=>none
def rowOf (z:Nat)(b:af):Option af:=
 match Tx b&&(Nat.ble 1 z&&Nat.beq (b.length%z) 0) with
 |true=>match Cy z b with
  |some cols=>(BM z cols 0 0 b).map λcols=>[.a (.l (b.length/z)) cols]
  |none=>none
 |false=>none
def adi (cols:List cB):List Nat->af
 | []=>[]
 |j::l=>.c (match cols[j%cols.length]? with
  |some q=>.f (q.at (j/cols.length))
  |none=>.f .u)::adi cols l
def ry:af->af
 | []=>[]
 |.c v::r=>.c v::ry r
 |.a n cols::r=>match n with
  |.l n=>adi cols (List.range (n*cols.length))++ry r
  |.s n=>.a (.s n) cols::ry r
def aIU (n:Sz)(cols:List cB)(b:af):Option af:=
 match Tx b&&(Nat.ble 1 cols.length&&Nat.beq (b.length%cols.length) 0) with
 |true=>(BM cols.length cols n.val 0 b).map λcs=>[.a (n.add (.l (b.length/cols.length))) cs]
 |false=>none
def aOm (n:Sz)(cols:List cB)(b:af):Option af:=
 match b with
 | [.a m di]=>match Nat.beq cols.length di.length&&Nat.ble 1 cols.length with
  |true=>(arh (λj=>Nat.blt j n.val) cols (di.map (cB.up n.val))).map λcols=>[.a (n.add m) cols]
  |false=>aIU n cols (ry b)
 |b=>aIU n cols (ry b)
def aOn:af->Bool
 | []=>true
 |.c _::r=>aOn r
 |.a (.l _) _::r=>aOn r
 |.a (.s _) _::_=>false
def af.app (a b:af):Option af:=
 match a,b with
 | [],b=>some b
 |a,[]=>some a
 | [.a n cols],b=>aOm n cols b
 |a,[.a m di]=>match rowOf di.length (ry a) with
  |some [.a n cols]=>aOm n cols [.a m di]
  |_=>none
 |a,b=>match aOn a&&aOn b with
  |true=>some (a++b)
  |false=>none
def apF (z:Nat)(b:af):af:=
 match b with
 | []=>[]
 | [.a n cols]=>match Nat.beq cols.length z with
  |true=>[.a n cols]
  |false=>match rowOf z (ry [.a n cols]) with
   |some b=>b
   |none=>[.a n cols]
 |b=>match rowOf z (ry b) with
  |some r=>r
  |none=>b
structure St where
 tmps:List AV
 heap:List (Option af)
 cS:List Nat
def St.bI (s:St)(b:Nat):Option af:=(s.heap[b]?).getD none
def aik (l:List AV):Nat->AV:=List.rec (motive:=λ_=>Nat->AV) (λ_=>Y3) (λa _ ih i=>Nat.rec (motive:=λ_=>AV) a (λm _=>ih m) i) l
def St.tmp (s:St)(i:Nat):AV:=aik s.tmps i
def awy {α ρ:Type}(l:List α):Nat->α->(List α->Option ρ)->Option ρ:=
 List.rec (motive:=λ_=>Nat->α->(List α->Option ρ)->Option ρ) (λ_ _ _=>none)
  (λa l ih i v k=>Nat.rec (motive:=λ_=>Option ρ) (k (v::l)) (λm _=>ih m v λl'=>k (a::l')) i) l
inductive Fp where
 |t (i:Nat)
 |c (b:Nat) (r:Option (Nat×Nat))
 |z (b:Nat)
inductive Up where
 |t (i:Nat) (v:AV)
 |c (b:Nat) (o:cg) (v:af)
 |new (b:Nat) (bI:af)
 |kill (b:Nat)
def ext (o:cg)(ch:Sz)(z:Nat):Option (Nat×Nat):=
 match o,ch with
 |.k c,.l n=>some (c,n*z)
 |_,_=>none
def szL:af->Option Nat
 | []=>some 0
 |.c _::r=>(szL r).map (1+ ·)
 |.a (.l n) cols::r=>(szL r).map (n*cols.length+ ·)
 |.a (.s _) _::_=>none
def aIV (o:cg)(v:af):Option (Nat×Nat):=
 match o with
 |.k c=>(szL v).map λn=>(c,n)
 |_=>none
inductive Rd (α:Type):Type 1 where
 |ret (a:α)
 |fail
 |tm (i:Nat) (k:AV->Rd α)
 |vw (b:Nat) (o:cg) (ch:Sz) (z:Nat) (k:af->Rd α)
 |sz (b:Nat) (k:Rd α)
 |test (x:Bool) (k:Bool->Rd α)
 |opt {D:Type} (x:Option D) (k:D->Rd α)
def Rd.bind {α β:Type}:Rd α->(α->Rd β)->Rd β
 |.ret a,f=>f a
 |.fail,_=>.fail
 |.tm i k,f=>.tm i λv=>(k v).bind f
 |.vw b o ch z k,f=>.vw b o ch z λv=>(k v).bind f
 |.sz b k,f=>.sz b (k.bind f)
 |.test x k,f=>.test x λv=>(k v).bind f
 |.opt x k,f=>.opt x λv=>(k v).bind f
def dt {α:Type}:Option α->Rd α
 |some a=>.ret a
 |none=>.fail
def cv (x:Bool):Rd Unit:=.test x λ|true=>.ret ()|false=>.fail
def Rd.run {α ρ:Type}:Rd α->St->List Fp->(α->List Fp->Option ρ)->Option ρ
 |.ret a,_,l,k=>k a l
 |.fail,_,_,_=>none
 |.tm i m,s,l,k=>(m (s.tmp i)).run s (.t i::l) k
 |.vw b o ch z m,s,l,k=>
  match s.bI b with
  |some bI=>match bI.sub o ch z with
   |some p=>match p.1 with
    |true=>(m p.2).run s (.z b:: .c b (ext o ch z)::l) k
    |false=>none
   |none=>none
  |none=>none
 |.sz b m,s,l,k=>
  match s.bI b with
  |some _=>m.run s (.z b::l) k
  |none=>none
 |.test x m,s,l,k=>
  match x with
  |true=>(m true).run s l k
  |false=>(m false).run s l k
 |.opt x m,s,l,k=>
  match x with
  |some d=>(m d).run s l k
  |none=>none
def aAP (b:af)(o:cg)(ch:Sz)(z:Nat):Rd af:=
 match b.sub o ch z with
 |some p=>.test p.1 λ|true=>.ret p.2|false=>.fail
 |none=>.fail
def ofC:Value->Option CV
 |.bool b=>some (.f (.b b))
 |.int k n=>some (.f (.i k n))
 |.string s=>some (.f (.s s))
 |.pointer none=>some .afU
 |.slice none 0 0=>some .nils
 |.nilFunc=>some .aOj
 |.nilIface=>some .aOk
 |_=>none
def aE0:List Value->Option af
 | []=>some []
 |v::vs=>match ofC v,aE0 vs with
  |some c,some cs=>some (.c c::cs)
  |_,_=>none
def ofR:Value->Option RV
 |.agg cs=>(aE0 cs.toList).map .agg
 |v=>(ofC v).map .c
def Cc:Operand->Rd AV
 |.tmp t=>.tm t .ret
 |.const v=>(dt (ofR v)).bind λr=>.ret (.r r)
 |.func f=>.ret (.fn f [])
 |.global _=>.fail
def asR:AV->Rd RV
 |.r v=>.ret v
 |_=>.fail
def asC:AV->Rd CV
 |.r (.c v)=>.ret v
 |_=>.fail
def asI:AV->Rd (IntKind×Int)
 |.r (.c (.f (.i k n)))=>.ret (k,n)
 |_=>.fail
def asB:AV->Rd Bool
 |.r (.c (.f (.b x)))=>.ret x
 |_=>.fail
def asP:AV->Rd (Nat×cg×Nat)
 |.r (.c (.ptr b o n))=>.ret (b,o,n)
 |_=>.fail
def tO (x:Operand):Rd RV:=(Cc x).bind asR
def asS:AV->Rd RV
 |.r v=>.ret v
 |.fn f [.c (.ptr b o n)]=>.ret (.c (.cl f b o n))
 |_=>.fail
def aIW (x:Operand):Rd RV:=(Cc x).bind asS
def E9 (x:Operand):Rd CV:=(Cc x).bind asC
def IE (x:Operand):Rd (IntKind×Int):=(Cc x).bind asI
def aE1 (x:Operand):Rd Bool:=(Cc x).bind asB
def aIX (x:Operand):Rd (Nat×cg×Nat):=(Cc x).bind asP
def rz {α β:Type}(f:α->Rd β):List α->Rd (List β)
 | []=>.ret []
 |a::l=>(f a).bind λb=>(rz f l).bind λbs=>.ret (b::bs)
def aa9 (P:Program)(t:TypeId):Option Bool:=
 match P.underlying t with
 |some (.struct _)|some (.array _ _)=>some true
 |some _=>some false
 |none=>none
def gK (P:Program)(t:TypeId):Option Nat:=(P.info? t).map (·.size)
def adj (P:Program)(t:TypeId)(i:Nat):Option Field:=
 match P.underlying t with
 |some (.struct fs)=>fs[i]?
 |_=>none
def aOo (P:Program)(n:Nat)(e:TypeId):Bool:=
 Nat.ble 9 n||match P.underlying e with
 |some (.int .u64)=>Nat.ble 8 n
 |some (.struct _)=>Nat.ble 4 n
 |_=>false
inductive Tm where
 |c
 |a (n z:Nat)
def aOp {α:Type}:Nat->List α->List α
 |0,_=>[]
 |n+1,l=>l++aOp n l
def ail (P:Program):Nat->TypeId->List Tm
 |0,_=>[]
 |d+1,t=>match P.underlying t with
  |some (.struct fs)=>(fs.toList.map λf=>ail P d f.type).flatten
  |some (.array n e)=>match aOo P n e with
   |true=>match ail P d e with
    | [.a m z]=>[.a (n*m) z]
    |_=>[.a n ((gK P e).getD 0)]
   |false=>aOp n (ail P d e)
  |_=>[.c]
def FV.same:FV->FV->Bool
 |.b x,.b y=>x==y
 |.i k x,.i k' y=>decide (k=k')&&x==y
 |_,_=>false
def Ty (z:Nat)(row:af):Nat->af->Option af
 |0,b=>some b
 |m+1,.c (.f v)::r=>match row[(m%z)]? with
  |some (.c (.f y))=>match v.same y with
   |true=>Ty z row m r
   |false=>none
  |_=>none
 |_+1,_=>none
def Y4:List Tm->af->Option af
 | [],[]=>some []
 |.c::tm,.c v::r=>(Y4 tm r).map (.c v:: ·)
 |.a n z::tm,b=>match Cy z b with
  |some cols=>match Nat.ble 1 z with
   |true=>match Ty z ((b.take z).reverse) (n*z) b with
    |some r=>(Y4 tm r).map (.a (.l n) cols:: ·)
    |none=>none
   |false=>none
  |none=>none
 |_,_=>none
def yj (P:Program)(t:TypeId):Option RV:=
 match((P.info? t).bind (·.zero)).bind ofR with
 |some (.agg b)=>(Y4 (ail P 30 t) b).map .agg
 |r=>r
def FV.isB:FV->Bool
 |.b _=>true
 |_=>false
def FV.toB:FV->Bool
 |.b x=>x
 |_=>false
def FV.isI (k:IntKind):FV->Bool
 |.i k' _=>decide (k'=k)
 |_=>false
def FV.toI:FV->Int
 |.i _ n=>n
 |_=>0
def FV.isS:FV->Bool
 |.s _=>true
 |_=>false
def FV.toS:FV->ByteArray
 |.s x=>x
 |_=>.empty
def aE2 (P:Program)(t:TypeId)(c:CV):Rd CV:=
 match P.underlying t,c with
 |some .bool,.f x=>.test x.isB λ|true=>.ret (.f (.b x.toB))|false=>.fail
 |some (.int k),.f x=>.test (x.isI k) λ|true=>.ret (.f (.i k x.toI))|false=>.fail
 |some .string,.f x=>.test x.isS λ|true=>.ret (.f (.s x.toS))|false=>.fail
 |some (.slice _),.f (.q n g)=>.ret (.fs n 1 [.b g])
 |_,c=>.ret c
def adk:List Tm->af->Option af
 | [],[]=>some []
 |.c::tm,.c v::r=>(adk tm r).map (.c v:: ·)
 |.a n z::tm,b=>match Nat.ble (n*z) b.length with
  |true=>match rowOf z (b.take (n*z)) with
   |some row=>(adk tm (b.drop (n*z))).map (row++ ·)
   |none=>none
  |false=>none
 |_,_=>none
def norm (P:Program)(t:TypeId)(l:af):af:=
 match Tx l&&Nat.ble 8 l.length with
 |true=>match adk (ail P 30 t) l with
  |some r=>r
  |none=>l
 |false=>match Tx l with
  |true=>l
  |false=>match(ail P 30 t).all (λ|.c=>true|.a _ _=>false) with
   |true=>ry l
   |false=>l
def anb (P:Program)(t:TypeId)(v:RV):Rd RV:=
 match v with
 |.c c=>(aE2 P t c).bind λc=>.ret (.c c)
 |.agg l=>.ret (.agg (norm P t l))
def apG:af->Rd RV
 | [.c v]=>.ret (.c v)
 |_=>.fail
def Xs (P:Program)(t:TypeId)(b:Nat)(o:cg)(m:Nat):Rd RV:=
 (dt (aa9 P t)).bind λa=>(dt (gK P t)).bind λn=>
  match a with
  |true=>(cv (Nat.ble n m)).bind λ_=>.vw b o (.l 1) n λl=>.ret (.agg l)
  |false=>(cv (Nat.ble 1 m)).bind λ_=>.vw b o (.l 1) 1 apG
def valueOf (P:Program)(t:TypeId)(b:Nat)(o:cg)(m:Nat):Rd RV:=(Xs P t b o m).bind (anb P t)
def aGI (P:Program)(t:TypeId)(cs:af)(o:cg):Rd RV:=
 (dt (aa9 P t)).bind λa=>(dt (gK P t)).bind λn=>
  match a with
  |true=>(aAP cs o (.l 1) n).bind λl=>.ret (.agg l)
  |false=>(aAP cs o (.l 1) 1).bind apG
def partOf (P:Program)(t:TypeId)(cs:af)(o:cg):Rd RV:=(aGI P t cs o).bind (anb P t)
def Ma (P:Program)(t:TypeId)(cs:af)(c:Nat):Rd RV:=
 (dt (gK P t)).bind λn=>(cv (Nat.ble 1 n&&Nat.ble (c+n) (af.size cs))).bind λ_=>partOf P t cs (.k c)
def apH (op:BinOp)(k:IntKind)(x y:Int):Option Int:=
 let a:=BitVec.ofInt k.bits x
 let b:=BitVec.ofInt k.bits y
 match op with
 |.and=>some (k.wrap (a&&&b).toNat)
 |.or=>some (k.wrap (a|||b).toNat)
 |.xor=>some (k.wrap (a^^^b).toNat)
 |.andNot=>some (k.wrap (a&&& ~~~b).toNat)
 |_=>none
def aS1 (op:BinOp)(k:IntKind)(x y:Int):Rd FV:=
 match op with
 |.add=>.ret (.i k (k.wrap (x+y)))
 |.sub=>.ret (.i k (k.wrap (x-y)))
 |.mul=>.ret (.i k (k.wrap (x*y)))
 |.quo=>(cv (!decide (y=0))).bind λ_=>.ret (.i k (k.wrap (x.tdiv y)))
 |.rem=>(cv (!decide (y=0))).bind λ_=>.ret (.i k (x.tmod y))
 |.eql=>.ret (.b (x==y))
 |.neq=>.ret (.b (x !=y))
 |.lss=>.ret (.b (decide (x<y)))
 |.leq=>.ret (.b (decide (x<=y)))
 |.gtr=>.ret (.b (decide (x>y)))
 |.geq=>.ret (.b (decide (x>=y)))
 |.shl|.shr=>.fail
 |op=>(dt (apH op k x y)).bind λn=>.ret (.i k n)
def aOq (op:BinOp)(k:IntKind)(x y:Int):Rd FV:=
 (cv (!decide (y<0))).bind λ_=>
  match op with
  |.shl=>.ret (.i k (k.wrap (x*2^(min y.toNat k.bits))))
  |.shr=>.ret (.i k (x.fdiv (2^(min y.toNat k.bits))))
  |_=>.fail
def ari (n:Nat)(p:Nat->Bool):Bool:=(List.range n).all p
def aAQ (n:Nat):List cB->List cB->Option Bool
 | [.i k g],[.i k' h]=>if k=k' then some (ari n λj=>g j==h j) else none
 | [.b g],[.b h]=>some (ari n λj=>g j==h j)
 |_,_=>none
def aba (P:Program)(e:TypeId)(c:List cB):Bool:=
 match P.underlying e,c with
 |some .bool,[.b _]=>true
 |some (.int _),[.i _ _]=>true
 |_,_=>false
def aIY (P:Program)(afV:TypeId->RV->RV->Rd Bool)(xs ys:af):List Field->Rd Bool
 | []=>.ret true
 |f::fs=>if f.name≠"_" then
   (Ma P f.type xs f.offset).bind λa=>(Ma P f.type ys f.offset).bind λb=>(afV f.type a b).bind λr=>(aIY P afV xs ys fs).bind λs=>.ret (r&&s)
  else aIY P afV xs ys fs
def aS2 (P:Program)(afV:TypeId->RV->RV->Rd Bool)(e:TypeId)(z:Nat)(xs ys:af):List Nat->Rd Bool
 | []=>.ret true
 |i::l=>(Ma P e xs (i*z)).bind λa=>(Ma P e ys (i*z)).bind λb=>(afV e a b).bind λr=>(aS2 P afV e z xs ys l).bind λs=>.ret (r&&s)
def aS3 (P:Program)(d n z:Nat)(e:TypeId)(xs ys:af):Option Bool:=
 match xs,ys with
 | [.a (.l m) c],[.a (.l m') c']=>match Nat.ble 1 d&&(Nat.beq z 1&&(Nat.beq m n&&(Nat.beq m' n&&aba P e c))) with
  |true=>aAQ n c c'
  |false=>none
 |_,_=>none
def eqT (P:Program):Nat->TypeId->RV->RV->Rd Bool
 |0,_,_,_=>.fail
 |d+1,t,x,y=>match P.underlying t,x,y with
  |some .bool,.c (.f (.b a)),.c (.f (.b b))=>.ret (a==b)
  |some (.int _),.c (.f (.i k a)),.c (.f (.i k' b))=>if k=k' then .ret (a==b) else .fail
  |some .string,.c (.f (.s a)),.c (.f (.s b))=>.ret (a==b)
  |some (.pointer _),.c .afU,.c .afU=>.ret true
  |some (.pointer _),.c (.ptr _ _ _),.c .afU|some (.pointer _),.c .afU,.c (.ptr _ _ _)=>.ret false
  |some (.struct fs),.agg xs,.agg ys=>match P.stoodInHeld t with
   |true=>.fail
   |false=>aIY P (eqT P d) xs ys fs.toList
  |some (.array n e),.agg xs,.agg ys=>(dt (gK P e)).bind λz=>match aS3 P d n z e xs ys with
   |some r=>.ret r
   |none=>aS2 P (eqT P d) e z xs ys (List.range n)
  |_,_,_=>.fail
def eqV (P:Program)(t:TypeId)(x y:RV):Rd Bool:=
 match x,y with
 |.agg _,.agg _=>match P.eqGuardType P.depth t with
  |true=>.fail
  |false=>eqT P 30 t x y
 |.c (.f (.i _ _)),_|.c (.f (.s _)),_|.c (.f .u),_|.c (.f (.q _ _)),_=>.fail
 |_,_=>eqT P 30 t x y
def aS4 (P:Program)(op:BinOp)(t:TypeId)(x y:RV):Rd RV:=
 match x,y with
 |.c (.f (.i k a)),.c (.f (.i k' b))=>
  match op with
  |.shl|.shr=>(aOq op k a b).bind λv=>.ret (.c (.f v))
  |op=>if k=k' then(aS1 op k a b).bind λv=>.ret (.c (.f v)) else .fail
 |x,y=>
  match op with
  |.eql=>(eqV P t x y).bind λr=>.ret (.c (.f (.b r)))
  |.neq=>(eqV P t x y).bind λr=>.ret (.c (.f (.b (!r))))
  |_=>.fail
def unV (op:UnOp)(x:RV):Rd RV:=
 match op,x with
 |.neg,.c (.f (.i k n))=>.ret (.c (.f (.i k (k.wrap (0-n)))))
 |.xor,.c (.f (.i k n))=>(dt (apH .xor k (if k.signed then -1 else k.max) n)).bind λr=>.ret (.c (.f (.i k r)))
 |.not,.c (.f (.b x))=>.ret (.c (.f (.b (!x))))
 |_,_=>.fail
def aMS (P:Program)(src dst:TypeId)(x:RV):Rd RV:=
 match P.underlying src,P.underlying dst,x with
 |some _,some (.int k),.c (.f (.i _ n))=>.ret (.c (.f (.i k (k.wrap n))))
 |_,_,_=>.fail
def aX (i:Int)(n:Nat):Bool:=decide (0<=i)&&decide (i<(n:Int))
def IF (i:Int)(n:Nat):Bool:=decide (0<=i)&&decide (i<=(n:Int))
def anc (i:Int):Nat->Rd Nat
 |0=>.ret 0
 |n+1=>.test (i==((n+1:Nat):Int)) λ|true=>.ret (n+1)|false=>anc i n
def sel (P:Program)(o:cg)(i:Int)(n:Nat)(e:TypeId)(z:Nat):Rd cg:=
 match aOo P n e with
 |true=>.ret (o.idx i.toNat z n)
 |false=>match Nat.ble n 8 with
  |true=>(anc i (n-1)).bind λj=>.ret (o.add (j*z))
  |false=>.ret (o.idx i.toNat z n)
def aIZ (P:Program)(o:cg)(i:Int)(len:Sz)(e:TypeId)(z:Nat):Rd cg:=
 match len with
 |.l n=>match !aOo P n e&&Nat.ble n 8 with
  |true=>(anc i (n-1)).bind λj=>.ret (o.add (j*z))
  |false=>.ret (o.aIT i.toNat z)
 |.s _=>.ret (o.aIT i.toNat z)
def aAR (l:List FV):af:=l.map λv=>.c (.f v)
def aAS (P:Program)(t:TypeId)(l:List FV):Rd RV:=
 (dt (aa9 P t)).bind λa=>(dt (gK P t)).bind λn=>
  match a with
  |true=>(cv (Nat.beq n l.length)).bind λ_=>anb P t (.agg (aAR l))
  |false=>match l with
   |v::_=>anb P t (.c (.f v))
   | []=>.fail
def auM (P:Program)(t:TypeId)(x:CV)(i:Nat):Rd CV:=
 match x with
 |.fp l=>(dt (adj P t i)).bind λf=>(dt (gK P f.type)).bind λn=>
  (cv (Nat.ble 1 n&&Nat.ble (f.offset+n) l.length)).bind λ_=>.ret (.fp ((l.drop f.offset).take n))
 |.ptr b o m=>(dt (adj P t i)).bind λf=>(dt (gK P f.type)).bind λn=>
  (cv (Nat.ble 1 n&&Nat.ble (f.offset+n) m)).bind λ_=>.ret (.ptr b (o.add f.offset) n)
 |_=>.fail
def Cz (b:ByteArray)(n:Nat):Int:=match b[n]? with
 |some x=>Int.ofNat x.toNat
 |none=>0
def auN (P:Program)(t:TypeId)(x:CV)(i:Int):Rd CV:=
 match P.underlying t,x with
 |some (.array n e),.ptr b o m=>(dt (gK P e)).bind λz=>(cv (Nat.ble (n*z) m)).bind λ_=>
  (cv (aX i n)).bind λ_=>(sel P o i n e z).bind λo=>.ret (.ptr b o z)
 |some (.slice e),.sl b o len z' _=>(dt (gK P e)).bind λz=>(cv (Nat.beq z z')).bind λ_=>
  (cv (aX i len.val)).bind λ_=>(aIZ P o i len e z).bind λo=>.ret (.ptr b o z)
 |some (.slice e),.fs n z' cols=>(dt (gK P e)).bind λz=>(cv (Nat.beq z z')).bind λ_=>
  (cv (aX i n)).bind λ_=>.ret (.fp (cols.map λq=>q.at i.toNat))
 |some (.array n e),.fp l=>(dt (gK P e)).bind λz=>(cv (Nat.ble (n*z) l.length&&Nat.ble n 8)).bind λ_=>
  (cv (aX i n)).bind λ_=>(anc i (n-1)).bind λj=>.ret (.fp ((l.drop (j*z)).take z))
 |_,_=>.fail
def awz (x:Option Operand):Rd (Option Int):=
 match x with
 |none=>.ret none
 |some x=>(IE x).bind λi=>.ret (some i.2)
def RI (lo hi:Option Int)(n:Nat):Rd (Nat×Nat):=
 (match hi with
  |none=>Rd.ret n
  |some h=>(cv (IF h n)).bind λ_=>.ret h.toNat).bind λh=>
 (match lo with
  |none=>Rd.ret 0
  |some l=>(cv (IF l h)).bind λ_=>.ret l.toNat).bind λl=>.ret (l,h)
def szQ (q:Bool)(n:Nat):Sz:=
 match q with
 |true=>.l n
 |false=>.s n
def sV (x:Option Operand):Bool:=
 match x with
 |none=>true
 |some (.const _)=>true
 |_=>false
def ane (q:Bool)(n:Sz):Bool:=
 match n with
 |.l _=>q
 |.s _=>false
def lenOf (q:Bool)(lo hi:Option Int)(n:Sz)(lh:Nat×Nat):Sz:=
 match lo,hi with
 |none,none=>n
 |none,some _=>szQ q lh.2
 |some _,_=>szQ q (lh.2-lh.1)
def adl (q:Bool)(lo:Option Int)(o:cg)(l z:Nat):cg:=
 match lo with
 |none=>o
 |some _=>match q with
  |true=>o.add (l*z)
  |false=>o.aIT l z
def arj (lo:Option Int)(l:Nat)(cols:List cB):List cB:=
 match lo with
 |none=>cols
 |some _=>cols.map (cB.shift l)
def aGJ (P:Program)(t:TypeId)(x:CV)(q:Bool)(lo hi:Option Int):Rd CV:=
 match P.underlying t,x with
 |some (.array n e),.ptr b o m=>(dt (gK P e)).bind λz=>(cv (Nat.ble (n*z) m)).bind λ_=>
  (RI lo hi n).bind λlh=>.ret (.sl b (adl q lo o lh.1 z) (lenOf q lo hi (.l n) lh) z false)
 |some (.slice e),.sl b o len z own=>(dt (gK P e)).bind λz'=>(cv (Nat.beq z z')).bind λ_=>
  (RI lo hi len.val).bind λlh=>.ret (.sl b (adl (ane q len) lo o lh.1 z) (lenOf (ane q len) lo hi len lh) z (own&&hi.isNone))
 |some (.slice e),.nils=>(dt (gK P e)).bind λ_=>(RI lo hi 0).bind λ_=>.ret .nils
 |some (.slice e),.fs n z cols=>(dt (gK P e)).bind λz'=>(cv (Nat.beq z z')).bind λ_=>
  (RI lo hi n).bind λlh=>.ret (.fs (lenOf false lo hi (.s n) lh).val z (arj lo lh.1 cols))
 |_,_=>.fail
def placesOf (P:Program)(t:TypeId):Option (Nat->Option (Nat×Nat)):=
 match P.underlying t with
 |some (.struct fs)=>(fs.toList.mapM λf=>(P.info? f.type).map λi=>(f.offset,i.size)).map λl i=>l[i]?
 |some (.array _ e)=>(gK P e).map λn i=>some (i*n,n)
 |_=>none
def aim (pl:Nat->Option (Nat×Nat)):af->List (Nat×RV)->Option af
 |cs,[]=>some cs
 |cs,(i,v)::rest=>match pl i with
  |none=>none
  |some (o,n)=>match Nat.beq (af.size v.bI) n&&Nat.ble (o+n) (af.size cs) with
   |true=>match aij cs o v.bI with
    |some P3=>aim pl P3 rest
    |none=>none
   |false=>none
def rep:Nat->af->af
 |0,_=>[]
 |n+1,l=>l++rep n l
inductive Ch where
 |kY
 |set (b:af)
 |kill
structure ns where
 val:AV
 vR:List Ch
 news:List af
inductive T:Type 1 where
 |leaf (r:ns)
 |fail
 |test (x:Bool) (a b:T)
 |opt {D:Type} (x:Option D) (k:D->T)
def T.eval:T->Option ns
 |.leaf r=>some r
 |.fail=>none
 |.test x a b=>match x with
  |true=>a.eval
  |false=>b.eval
 |.opt x k=>match x with
  |some d=>(k d).eval
  |none=>none
def T.rd:T->Rd ns
 |.leaf r=>.ret r
 |.fail=>.fail
 |.test x a b=>.test x λ|true=>a.rd|false=>b.rd
 |.opt x k=>.opt x λd=>(k d).rd
abbrev C9:=List AV->List af->T
abbrev Env:=Nat->Option C9
structure Vw where
 b:Nat
 o:cg
 ch:Sz
 z:Nat
 sl:Bool
 own:Bool
def Vw.n (v:Vw):Nat:=v.ch.val*v.z
def Y5 (b:Nat)(e:Option (Nat×Nat)):List Vw->Nat->Option (Nat×Nat×Bool)
 | [],_=>none
 |v::vs,i=>match Nat.beq v.b b with
  |false=>Y5 b e vs (i+1)
  |true=>match e,ext v.o v.ch v.z with
   |some (o,n),some (o',n')=>match Nat.ble o' o&&Nat.ble (o+n) (o'+n') with
    |true=>some (i,o-o',v.own)
    |false=>Y5 b e vs (i+1)
   |_,_=>Y5 b e vs (i+1)
def ark (b:Nat)(e:Option (Nat×Nat))(vs:List Vw):Bool:=
 vs.all λv=> !Nat.beq v.b b||match e,ext v.o v.ch v.z with
  |some (o,n),some (o',n')=>Nat.ble (o+n) o'||Nat.ble (o'+n') o
  |_,_=>false
def aOr (c:CV)(vs:List Vw):Rd (CV×List Vw):=
 match c with
 |.ptr b o n=>match Y5 b (ext o (.l 1) n) vs 0 with
  |some (i,d,_)=>.ret (.ptr i (.k d) n,vs)
  |none=>(cv (ark b (ext o (.l 1) n) vs)).bind λ_=>.ret (.ptr vs.length (.k 0) n,vs++[⟨b,o,.l 1,n,false,false⟩])
 |.cl f b o n=>match Y5 b (ext o (.l 1) n) vs 0 with
  |some (i,d,_)=>.ret (.cl f i (.k d) n,vs)
  |none=>(cv (ark b (ext o (.l 1) n) vs)).bind λ_=>.ret (.cl f vs.length (.k 0) n,vs++[⟨b,o,.l 1,n,false,false⟩])
 |.sl b o len z own=>match Y5 b (ext o len z) vs 0 with
  |some (i,d,ow)=>.ret (.sl i (.k d) (.s len.val) z (own&&ow),vs)
  |none=>(cv (ark b (ext o len z) vs)).bind λ_=>
   .ret (.sl vs.length (.k 0) (.s len.val) z (own&&vs.all λv=> !Nat.beq v.b b|| !v.own),vs++[⟨b,o,len,z,true,own&&vs.all λv=> !Nat.beq v.b b|| !v.own⟩])
 |c=>.ret (c,vs)
def aI0:af->List Vw->Rd (af×List Vw)
 | [],vs=>.ret ([],vs)
 |.c c::cs,vs=>(aOr c vs).bind λx=>(aI0 cs x.2).bind λy=>.ret (.c x.1::y.1,y.2)
 |.a n cols::cs,vs=>(aI0 cs vs).bind λy=>.ret (.a n cols::y.1,y.2)
def aOs (r:RV)(vs:List Vw):Rd (RV×List Vw):=
 match r with
 |.c c=>(aOr c vs).bind λx=>.ret (.c x.1,x.2)
 |.agg cs=>(aI0 cs vs).bind λx=>.ret (.agg x.1,x.2)
def aAT:List RV->List Vw->Rd (List RV×List Vw)
 | [],vs=>.ret ([],vs)
 |c::cs,vs=>(aOs c vs).bind λx=>(aAT cs x.2).bind λy=>.ret (x.1::y.1,y.2)
def aS5 (a:AV)(vs:List Vw):Rd (AV×List Vw):=
 match a with
 |.r r=>(aOs r vs).bind λx=>.ret (.r x.1,x.2)
 |.tup rs=>(aAT rs vs).bind λx=>.ret (.tup x.1,x.2)
 |.fn f rs=>(aAT rs vs).bind λx=>.ret (.fn f x.1,x.2)
 |.Tv=>.ret (.Tv,vs)
def aGK:List AV->List Vw->Rd (List AV×List Vw)
 | [],vs=>.ret ([],vs)
 |c::cs,vs=>(aS5 c vs).bind λx=>(aGK cs x.2).bind λy=>.ret (x.1::y.1,y.2)
def toS (b:af):af:=
 match b with
 | [.a n cols]=>[.a (.s n.val) cols]
 |b=>b
def aMT (sl:Bool)(z:Nat)(b:af):af:=
 match sl with
 |true=>toS (apF z b)
 |false=>b
def aOt:Nat->Nat->List Vw->List af->Rd (List af×List Vw)
 |0,_,_,_=>.fail
 |fuel+1,i,vs,acc=>match vs[i]? with
  |none=>.ret (acc,vs)
  |some v=>.vw v.b v.o v.ch v.z λcs=>
   (aI0 (aMT v.sl v.z cs) vs).bind λx=>aOt fuel (i+1) x.2 (acc++[x.1])
def Jx (vs:List Vw)(aJ:Nat):CV->CV
 |.ptr j d n=>match vs[j]? with
  |some v=>.ptr v.b (v.o.plus d) n
  |none=>.ptr (aJ+(j-vs.length)) d n
 |.cl f j d n=>match vs[j]? with
  |some v=>.cl f v.b (v.o.plus d) n
  |none=>.cl f (aJ+(j-vs.length)) d n
 |.sl j d len z own=>match vs[j]? with
  |some v=>.sl v.b (v.o.plus d) len z (own&&v.own)
  |none=>.sl (aJ+(j-vs.length)) d len z own
 |c=>c
def IG (f:CV->CV):af->af
 | []=>[]
 |.c v::r=>.c (f v)::IG f r
 |.a n cols::r=>.a n cols::IG f r
def aOu (vs:List Vw)(aJ:Nat):RV->RV
 |.c c=>.c (Jx vs aJ c)
 |.agg cs=>.agg (IG (Jx vs aJ) cs)
def aI1 (vs:List Vw)(aJ:Nat):AV->AV
 |.r r=>.r (aOu vs aJ r)
 |.tup rs=>.tup (rs.map (aOu vs aJ))
 |.fn f rs=>.fn f (rs.map (aOu vs aJ))
 |.Tv=>.Tv
def Fw (vs:List Vw)(aJ:Nat):List af->Nat->List Up
 | [],_=>[]
 |b::bs,j=>.new (aJ+j) (IG (Jx vs aJ) b)::Fw vs aJ bs (j+1)
def yk (all:List Vw)(aJ:Nat):List Vw->List Ch->Option (Bool×List Up)
 | [],[]=>some (true,[])
 |_::vs,.kY::cs=>yk all aJ vs cs
 |v::vs,.set b::cs=>match yk all aJ vs cs with
  |some p=>some (p.1&&Nat.beq (af.size b) v.n,.c v.b v.o (IG (Jx all aJ) b)::p.2)
  |none=>none
 |_::vs,.kill::cs=>yk all aJ vs cs
 |_,_=>none
def ny:List Vw->List Ch->List Up
 |v::vs,.kill::cs=>.kill v.b::ny vs cs
 |_::vs,_::cs=>ny vs cs
 |_,_=>[]
def dk (dst:Option Tmp)(v:AV):List Up:=
 match dst with
 |some d=>[.t d v]
 |none=>[]
def aS6 (E:Env)(f:Nat)(args:List AV)(dst:Option Tmp)(aJ:Nat):Rd (List Up):=
 (aGK args []).bind λx=>(aOt 1000 0 x.2 []).bind λy=>
  match E f with
  |none=>.fail
  |some F=>(F x.1 y.1).rd.bind λr=>
   (dt (yk y.2 aJ y.2 r.vR)).bind λus=>(cv us.1).bind λ_=>
    .ret (dk dst (aI1 y.2 aJ r.val)++(us.2++(ny y.2 r.vR++Fw y.2 aJ r.news 0)))
def aOv:CV->Rd Nat
 |.sl _ _ n _ _=>.ret n.val
 |.nils=>.ret 0
 |.fs n _ _=>.ret n
 |.f (.s x)=>.ret x.size
 |_=>.fail
def slB (z:Nat):CV->Rd (Sz×af)
 |.sl b o n z' _=>(cv (Nat.beq z z')).bind λ_=>.vw b o n z λk=>.ret (n,k)
 |.nils=>.ret (.l 0,[])
 |.fs n z' cols=>(cv (Nat.beq z z')).bind λ_=>.ret (.s n,[.a (.s n) cols])
 |_=>.fail
def aAU (P:Program)(t:TypeId)(s x:CV)(dst:Option Tmp)(aJ:Nat):Rd (List Up):=
 match P.underlying t with
 |some (.slice e)=>(dt (gK P e)).bind λz=>(dt ((P.info? e).map (·.bytes))).bind λby_=>(dt (yj P e)).bind λzv=>
  (cv (Nat.ble 1 z&&(Nat.ble 1 by_&&Nat.beq (af.size zv.bI) z))).bind λ_=>
  (slB z x).bind λxb=>
  match s with
  |.nils=>(cv (Nat.ble (xb.1.val*by_) 140737488355328)).bind λ_=>
   .ret (dk dst (.r (.c (.sl aJ (.k 0) xb.1 z true)))++[.new aJ xb.2])
  |.sl b o n z' true=>(cv (Nat.beq z z')).bind λ_=>(cv (Nat.ble ((n.val+xb.1.val)*by_) 140737488355328)).bind λ_=>
   .sz b<|
   .vw b o n z λsb=>(dt (sb.app xb.2)).bind λnb=>
    (cv (match x with|.sl b' _ _ _ _=> !Nat.beq b b'|_=>true)).bind λ_=>
    .ret (dk dst (.r (.c (.sl aJ (.k 0) (n.add xb.1) z true)))++[.kill b,.new aJ nb])
  |_=>.fail
 |_=>.fail
def aE3 (v:Nat):Nat->Rd Nat
 |0=>.ret 0
 |k+1=>.test (Nat.ble (k+1) v) λ|true=>.ret (k+1)|false=>aE3 v k
def aI2 (n n':Sz):Rd (Bool×Sz):=
 match n,n' with
 |.l k,.s v=>match Nat.ble k 8 with
  |true=>(aE3 v k).bind λj=>.ret (true,.l j)
  |false=>.ret (false,Sz.least (.s v) (.l k))
 |n,n'=>.ret (false,Sz.least n' n)
def copyV (P:Program)(t:TypeId)(d x:CV)(dst:Option Tmp):Rd (List Up):=
 match P.underlying t with
 |some (.slice e)=>(dt (gK P e)).bind λz=>
  match d,x with
  |.sl b o n z1 _,.sl b' o' n' z2 _=>(cv (Nat.beq z z1&&Nat.beq z z2)).bind λ_=>
   (cv (!Nat.beq b b')).bind λ_=>(aI2 n n').bind λm=>
   .vw b' o' m.2 z λl=>.sz b<|
    .ret (dk dst (.r (.c (.f (.i .i64 (m.2.val:Int)))))++[.c b o (cond m.1 (ry l) l)])
  |_,_=>.fail
 |_=>.fail
def aS7:FV->FV->Rd FV
 |.i k x,.i k' y=>if k=k' then .ret (.i k (if y<x then y else x)) else .fail
 |_,_=>.fail
def aS8:FV->FV->Rd FV
 |.i k x,.i k' y=>if k=k' then .ret (.i k (if y>x then y else x)) else .fail
 |_,_=>.fail
def arl {α β:Type}(f:β->α->Rd β):β->List α->Rd β
 |b,[]=>.ret b
 |b,a::l=>(f b a).bind λb'=>arl f b' l
def asF:AV->Rd FV
 |.r (.c (.f v))=>.ret v
 |_=>.fail
def biV (P:Program)(bi:Builtin)(ts:Array TypeId)(args:List AV)(dst:Option Tmp)(aJ:Nat):Rd (List Up):=
 match bi,args with
 |.len,[x]=>(dt ((ts[0]?).bind P.underlying)).bind λ
  |.array n _=>.ret (dk dst (.r (.c (.f (.i .i64 (n:Int))))))
  |.slice _=>(asC x).bind λc=>(match c with|.f _=>Rd.fail|c=>aOv c).bind λn=>.ret (dk dst (.r (.c (.f (.i .i64 (n:Int))))))
  |.string=>(asC x).bind λc=>(match c with|.f (.s x)=>Rd.ret x.size|_=>Rd.fail).bind λn=>.ret (dk dst (.r (.c (.f (.i .i64 (n:Int))))))
  |_=>.fail
 |.append,[s,x]=>(dt (ts[0]?)).bind λt=>(cv (match ts.toList with| [t1,t2]=>Nat.beq t1 t2|_=>false)).bind λ_=>
  (asC s).bind λs=>(asC x).bind λx=>aAU P t s x dst aJ
 |.copy,[d,x]=>(dt (ts[0]?)).bind λt=>(asC d).bind λd=>(asC x).bind λx=>copyV P t d x dst
 |.min,x::l=>(asF x).bind λx=>(rz asF l).bind λl=>(arl aS7 x l).bind λv=>.ret (dk dst (.r (.c (.f v))))
 |.max,x::l=>(asF x).bind λx=>(rz asF l).bind λl=>(arl aS8 x l).bind λv=>.ret (dk dst (.r (.c (.f v))))
 |_,_=>.fail
def aVY:AV->Rd (Nat×List RV)
 |.fn f aa8=>.ret (f,aa8)
 |.r (.c (.cl f b o n))=>.ret (f,[.c (.ptr b o n)])
 |_=>.fail
def al4 (P:Program)(e:TypeId)(n z:Nat)(b:af):af:=
 match !aOo P n e&&Nat.ble n 8 with
 |true=>b
 |false=>apF z b
inductive CK where
 |i (k:IntKind)
 |b
 |s
def CK.mc:CK->cB
 |.i k=>.i k λ_=>0
 |.b=>.b λ_=>false
 |.s=>.s λ_=>.empty
def ckT (P:Program):Nat->TypeId->Option (List CK)
 |0,_=>none
 |d+1,t=>match P.underlying t with
  |some .bool=>some [.b]
  |some (.int k)=>some [.i k]
  |some .string=>some [.s]
  |some (.struct fs)=>fs.toList.foldr (λf l=>match ckT P d f.type,l with
   |some a,some b=>some (a++b)
   |_,_=>none) (some [])
  |some (.array n e)=>(ckT P d e).map (aOp n)
  |_=>none
def aGL (P:Program):Nat->TypeId->List (Option (Nat×List CK))
 |0,_=>[]
 |d+1,t=>match P.underlying t with
  |some (.struct fs)=>(fs.toList.map λf=>aGL P d f.type).flatten
  |some (.array n e)=>aOp n (aGL P d e)
  |some (.slice e)=>[match gK P e,ckT P 30 e with
   |some z,some ks=>some (z,ks)
   |_,_=>none]
  |_=>[none]
def P4:List (Option (Nat×List CK))->af->Nat->af×List af
 |_,[],_=>([],[])
 |ks,.a n cols::r,b=>let x:=P4 (ks.drop (n.val*cols.length)) r b;(.a n cols::x.1,x.2)
 |ks,.c v::r,b=>match v,ks with
  |.nils,some (z,k)::ks=>let x:=P4 ks r (b+1);(.c (.sl b (.k 0) (.s 0) z true)::x.1,[.a (.s 0) (k.map CK.mc)]::x.2)
  |v,ks=>let x:=P4 (ks.drop 1) r b;(.c v::x.1,x.2)
def aOw:af->Bool
 | []=>false
 |.c .nils::_=>true
 |_::r=>aOw r
def gP (P:Program)(t:TypeId)(b:af)(aJ:Nat):af×List af:=
 match aOw b with
 |true=>P4 (aGL P 30 t) b aJ
 |false=>(b,[])
def zN:List af->Nat->List Up
 | [],_=>[]
 |b::bs,n=>.new n b::zN bs (n+1)
def arn (dst:Option Tmp)(aJ n:Nat)(cs:af):List Up:=dk dst (.r (.c (.ptr aJ (.k 0) n)))++[.new aJ cs]
def aop (P:Program)(E:Env)(o:Oper)(aJ:Nat):Rd (List Up):=
 let val (m:Rd RV):Rd (List Up):=m.bind λv=>.ret (dk o.dst (.r v))
 let cel (m:Rd CV):Rd (List Up):=m.bind λv=>.ret (dk o.dst (.r (.c v)))
 match o.op with
 |.move x|.assign x=>(Cc x).bind λv=>.ret (dk o.dst v)
 |.pick c a b=>(aE1 c).bind λx=>.test x λ
  |true=>(Cc a).bind λv=>.ret (dk o.dst v)
  |false=>(Cc b).bind λv=>.ret (dk o.dst v)
 |.alloc e=>(dt (yj P e)).bind λz=>.ret (zN (gP P e z.bI aJ).2 aJ++arn o.dst (aJ+(gP P e z.bI aJ).2.length) (af.size (gP P e z.bI aJ).1) (gP P e z.bI aJ).1)
 |.box t x=>(tO x).bind λv=>.ret (zN (gP P t v.bI aJ).2 aJ++arn o.dst (aJ+(gP P t v.bI aJ).2.length) (af.size (gP P t v.bI aJ).1) (gP P t v.bI aJ).1)
 |.makeSlice t n c=>match P.underlying t with
  |some (.slice e)=>(dt (yj P e)).bind λz=>(dt (gK P e)).bind λq=>(IE n).bind λn=>(IE c).bind λc=>
   (cv (decide (n.2=0)&&decide (c.2=0))).bind λ_=>(dt (Cy q z.bI)).bind λcols=>
   .ret (dk o.dst (.r (.c (.sl aJ (.k 0) (.s 0) q true)))++[.new aJ [.a (.s 0) cols]])
  |_=>.fail
 |.build t ps=>(dt (yj P t)).bind λz=>(rz (λp=>(tO p.2).bind λv=>.ret (p.1,v)) ps.toList).bind λl=>
  (dt (placesOf P t)).bind λpl=>(dt (aim pl z.bI l)).bind λcs=>.ret (dk o.dst (.r (.agg cs)))
 |.buildSlice t n ps=>match P.underlying t with
  |some (.slice e)=>(dt (yj P e)).bind λz=>(dt (gK P e)).bind λq=>
   (cv (Nat.ble 1 q&&Nat.ble (n*q) 16777216)).bind λ_=>
   (rz (λp=>(tO p.2).bind λv=>.ret (p.1,v)) ps.toList).bind λl=>
   (cv (Nat.beq (af.size z.bI) q)).bind λ_=>(dt (aim (λi=>some (i*q,q)) (rep n z.bI) l)).bind λcs=>.ret (dk o.dst (.r (.c (.sl aJ (.k 0) (.l n) q true)))++[.new aJ (al4 P e n q cs)])
  |_=>.fail
 |.load t a=>(E9 a).bind λ
  |.ptr b q n=>val (valueOf P t b q n)
  |.fp l=>val (aAS P t l)
  |_=>.fail
 |.store t a x=>(aIX a).bind λp=>(aIW x).bind λv=>(dt (gK P t)).bind λn=>
  (cv (Nat.beq (af.size v.bI) n&&Nat.ble n p.2.2)).bind λ_=>.sz p.1<|
  .ret (zN (gP P t v.bI aJ).2 aJ++(dk o.dst Y3++[.c p.1 p.2.1 (gP P t v.bI aJ).1]))
 |.nilCheck x=>(E9 x).bind λ
  |.ptr b q n=>.ret (dk o.dst (.r (.c (.ptr b q n))))
  |.fp l=>.ret (dk o.dst (.r (.c (.fp l))))
  |_=>.fail
 |.binOp op t x y _=>(tO x).bind λa=>(tO y).bind λb=>val (aS4 P op t a b)
 |.unOp op _ x=>(tO x).bind λa=>val (unV op a)
 |.convert s d x=>(tO x).bind λa=>val (aMS P s d a)
 |.sliceToArrayPointer t x=>(E9 x).bind λc=>match P.underlying t,c with
  |some (.array n _),.sl b q len z _=>(cv (Nat.ble 1 n&&Nat.ble n len.val)).bind λ_=>cel (.ret (.ptr b q (n*z)))
  |_,_=>.fail
 |.makeFunc (.func f) fs aa8=>match fs.toList with
  | []=>(rz tO aa8.toList).bind λl=>.ret (dk o.dst (.fn f l))
  |_=>.fail
 |.slice t x lo hi none=>(E9 x).bind λc=>(awz lo).bind λl=>(awz hi).bind λh=>cel (aGJ P t c (sV lo&&sV hi) l h)
 |.fieldAddr t x i=>(E9 x).bind λc=>cel (auM P t c i)
 |.field t x i=>(tO x).bind λ
  |.agg cs=>(dt (adj P t i)).bind λf=>val (Ma P f.type cs f.offset)
  |_=>.fail
 |.indexAddr t x i=>(E9 x).bind λc=>(IE i).bind λi=>cel (auN P t c i.2)
 |.index t x i=>(tO x).bind λv=>(IE i).bind λi=>match P.underlying t,v with
  |some (.array n e),.agg cs=>(dt (gK P e)).bind λz=>(cv (Nat.ble 1 z&&Nat.ble (n*z) (af.size cs))).bind λ_=>(cv (aX i.2 n)).bind λ_=>(sel P (.k 0) i.2 n e z).bind λo=>val (partOf P e cs o)
  |some .string,.c (.f (.s b))=>(cv (aX i.2 b.size)).bind λ_=>val (.ret (.c (.f (.i .u8 (Cz b i.2.toNat)))))
  |_,_=>.fail
 |.extract x i=>(Cc x).bind λ
  |.tup vs=>(dt (vs[i]?)).bind λv=>.ret (dk o.dst (.r v))
  |_=>.fail
 |.call c=>(rz Cc c.args.toList).bind λargs=>match c.callee with
  |.builtin b=>biV P b c.argTypes args o.dst aJ
  |.value f=>(Cc f).bind λf=>(aVY f).bind λfc=>aS6 E fc.1 (args++fc.2.map .r) o.dst aJ
  |.invoke _ _=>.fail
 |_=>.fail
def mark (k:Nat)(b:Nat)(d:List Nat):List Nat:=
 match Nat.blt b k&& !d.any (Nat.beq b) with
 |true=>b::d
 |false=>d
def Up.app (k:Nat)(s:St):Up->St
 |.t i v=>{s with tmps:=s.tmps.set i v}
 |.c b o v=>match s.bI b with
  |some bI=>match bI.xT o v with
   |some p=>{s with heap:=s.heap.set b (some p.2),cS:=mark k b s.cS}
   |none=>s
  |none=>s
 |.new _ bI=>{s with heap:=s.heap++[some bI]}
 |.kill b=>{s with heap:=s.heap.set b none,cS:=mark k b s.cS}
def Up.ok (s:St):Up->Bool
 |.t i _=>Nat.blt i s.tmps.length
 |.c b o v=>match s.bI b with
  |some bI=>match bI.xT o v with
   |some p=>p.1&&Nat.ble (o.val+af.size v) (af.size bI)
   |none=>false
  |none=>false
 |.new b _=>Nat.beq b s.heap.length
 |.kill b=>Nat.blt b s.heap.length
def iH (k:Nat):List Up->St->Option St
 | [],s=>some s
 |u::us,s=>match u.ok s with
  |true=>iH k us (u.app k s)
  |false=>none
def aMU (acc:List Nat)(m:Nat)(e:Edge):Nat:=match Region.binds .any e with
 |true=>(m|||2^e.on)|||acc.getD e.on 0
 |false=>m
def mask (acc:List Nat)(o:Oper):Nat:=o.after.toList.foldl (aMU acc) 0
def Jy:List Oper->List Nat->List Nat
 | [],acc=>acc
 |o::l,acc=>Jy l (acc++[mask acc o])
def ovl (lo n lo' n':Nat):Bool:=Nat.blt lo (lo'+n')&&Nat.blt lo' (lo+n)
def meet:Option (Nat×Nat)->Option (Nat×Nat)->Bool
 |some (lo,n),some (lo',n')=>ovl lo n lo' n'
 |_,_=>true
def Fp.awA:Fp->Up->Bool
 |.t i,.t j _=>Nat.beq i j
 |.c b r,.c b' o v=>Nat.beq b b'&&meet r (aIV o v)
 |.c b _,.new b' _|.c b _,.kill b'|.z b,.new b' _|.z b,.kill b'=>Nat.beq b b'
 |_,_=>false
def Up.awA:Up->Up->Bool
 |.t i _,.t j _=>Nat.beq i j
 |.c b o v,.c b' o' v'=>Nat.beq b b'&&meet (aIV o v) (aIV o' v')
 |.c b _ _,.new b' _|.c b _ _,.kill b'|.new b _,.c b' _ _|.kill b,.c b' _ _|.new b _,.new b' _|.new b _,.kill b'|.kill b,.new b' _|.kill b,.kill b'=>Nat.beq b b'
 |_,_=>false
structure Tr where
 fp:List Fp
 us:List Up
def Tr.adm (x y:Tr):Bool:=
 x.us.any (λu=>y.fp.any (·.awA u)||y.us.any (·.awA u))||y.us.any (λu=>x.fp.any (·.awA u))
def Oz (ms:List Nat):List Tr->Nat->Bool
 | [],_=>true
 |x::rest,j=>(rest.zipIdx.all λp=>Nat.testBit (ms.getD (j+1+p.2) 0) j|| !x.adm p.1)&&Oz ms rest (j+1)
def OA:List Oper->Nat->Bool
 | [],_=>true
 |o::l,i=>(o.after.toList.all λe=> !Region.binds .any e||Nat.blt e.on i)&&OA l (i+1)
def aS9 (o:Oper)(nt:Nat):Bool:=
 match o.dst with
 |none=>true
 |some d=>Nat.blt d nt
def Mb (ops:List Oper)(j:Nat):Option Tmp:=(ops[j]?).bind (·.dst)
def adn {α ρ:Type}(l:List α):(List α->ρ)->ρ:=
 List.rec (motive:=λ_=>(List α->ρ)->ρ) (λk=>k []) (λa _ ih k=>ih λl=>k (a::l)) l
def aro {ρ:Type}(o:cg)(k:cg->ρ):ρ:=
 match o with
 |.k c=>k (.k c)
 |.x c i z=>k (.x c i z)
def aGM {ρ:Type}(n:Sz)(k:Sz->ρ):ρ:=
 match n with
 |.l n=>k (.l n)
 |.s n=>k (.s n)
def aAg {ρ:Type}(v:FV)(k:FV->ρ):ρ:=
 match v with
 |.u=>k .u
 |.b x=>k (.b x)
 |.i d n=>k (.i d n)
 |.s x=>k (.s x)
 |.q n g=>k (.q n g)
def auO {ρ:Type}(c:cB)(k:cB->ρ):ρ:=
 match c with
 |.i d g=>k (.i d g)
 |.b g=>k (.b g)
 |.s g=>k (.s g)
 |.u=>k .u
 |.q n g=>k (.q n g)
def Tz {ρ:Type}(l:List cB):(List cB->ρ)->ρ:=
 List.rec (motive:=λ_=>(List cB->ρ)->ρ) (λk=>k []) (λa _ ih k=>auO a λa=>ih λl=>k (a::l)) l
def arp {ρ:Type}(l:List FV):(List FV->ρ)->ρ:=
 List.rec (motive:=λ_=>(List FV->ρ)->ρ) (λk=>k []) (λa _ ih k=>aAg a λa=>ih λl=>k (a::l)) l
def aAh {ρ:Type}(c:CV)(k:CV->ρ):ρ:=
 match c with
 |.f v=>aAg v λv=>k (.f v)
 |.ptr b o n=>aro o λo=>k (.ptr b o n)
 |.cl f b o n=>aro o λo=>k (.cl f b o n)
 |.afU=>k .afU
 |.sl b o l z w=>aro o λo=>aGM l λl=>k (.sl b o l z w)
 |.nils=>k .nils
 |.aOj=>k .aOj
 |.aOk=>k .aOk
 |.fs n z cols=>Tz cols λcols=>k (.fs n z cols)
 |.fp l=>arp l λl=>k (.fp l)
def arq {ρ:Type}(s:Sg)(k:Sg->ρ):ρ:=
 match s with
 |.c v=>aAh v λv=>k (.c v)
 |.a n cols=>aGM n λn=>Tz cols λcols=>k (.a n cols)
def Xt {ρ:Type}(l:af):(af->ρ)->ρ:=
 List.rec (motive:=λ_=>(af->ρ)->ρ) (λk=>k []) (λa _ ih k=>arq a λa=>ih λl=>k (a::l)) l
def ars {ρ:Type}(r:RV)(k:RV->ρ):ρ:=
 match r with
 |.c c=>aAh c λc=>k (.c c)
 |.agg b=>Xt b λb=>k (.agg b)
def ain {ρ:Type}(l:List RV):(List RV->ρ)->ρ:=
 List.rec (motive:=λ_=>(List RV->ρ)->ρ) (λk=>k []) (λa _ ih k=>ars a λa=>ih λl=>k (a::l)) l
def art {ρ:Type}(v:AV)(k:AV->ρ):ρ:=
 match v with
 |.r r=>ars r λr=>k (.r r)
 |.tup rs=>ain rs λrs=>k (.tup rs)
 |.fn f rs=>ain rs λrs=>k (.fn f rs)
 |.Tv=>k .Tv
def aAi {ρ:Type}(u:Up)(k:Up->ρ):ρ:=
 match u with
 |.t i v=>art v λv=>k (.t i v)
 |.c b o vs=>aro o λo=>Xt vs λvs=>k (.c b o vs)
 |.new b bI=>Xt bI λbI=>k (.new b bI)
 |.kill b=>k (.kill b)
def aru {ρ:Type}(l:List Up):(List Up->ρ)->ρ:=
 List.rec (motive:=λ_=>(List Up->ρ)->ρ) (λk=>k []) (λa _ ih k=>aAi a λa=>ih λl=>k (a::l)) l
def arv {ρ:Type}(l:List AV):(List AV->ρ)->ρ:=
 List.rec (motive:=λ_=>(List AV->ρ)->ρ) (λk=>k []) (λa _ ih k=>art a λa=>ih λl=>k (a::l)) l
def arw {ρ:Type}(u:Option af)(k:Option af->ρ):ρ:=
 match u with
 |some b=>Xt b λb=>k (some b)
 |none=>k none
def arx {ρ:Type}(l:List (Option af)):(List (Option af)->ρ)->ρ:=
 List.rec (motive:=λ_=>(List (Option af)->ρ)->ρ) (λk=>k []) (λa _ ih k=>arw a λa=>ih λl=>k (a::l)) l
def vA {ρ:Type}(s:St)(k:St->ρ):ρ:=
 match s with
 | ⟨t,h,d⟩=>arv t λt=>arx h λh=>adn d λd=>k ⟨t,h,d⟩
def Up.abb {ρ:Type}(k:Nat)(u:Up)(s:St)(c:St->Option ρ):Option ρ:=
 match u with
 |.t i v=>awy s.tmps i v λt=>c {s with tmps:=t}
 |.c b o v=>match s.bI b with
  |some bI=>match bI.xT o v with
   |some p=>match p.1&&Nat.ble (o.val+af.size v) (af.size bI) with
    |true=>Xt p.2 λbI=>awy s.heap b (some bI) λh=>adn (mark k b s.cS) λd=>c {s with heap:=h,cS:=d}
    |false=>none
   |none=>none
  |none=>none
 |.new b bI=>match Nat.beq b s.heap.length with
  |true=>adn (s.heap++[some bI]) λh=>c {s with heap:=h}
  |false=>none
 |.kill b=>awy s.heap b none λh=>adn (mark k b s.cS) λd=>c {s with heap:=h,cS:=d}
def abb {ρ:Type}(k:Nat)(us:List Up):St->(St->Option ρ)->Option ρ:=
 List.rec (motive:=λ_=>St->(St->Option ρ)->Option ρ) (λs c=>c s) (λu _ ih s c=>u.abb k s λs=>ih s c) us
def Jz (P:Program)(E:Env)(nt k:Nat)(ops:List Oper){ρ:Type}:List Oper->St->List Tr->(St->List Tr->Option ρ)->Option ρ
 | [],s,l,c=>c s l
 |o::rest,s,l,c=>
  let go (s:St) (fp:List Fp):Option ρ:=
   (aop P E o s.heap.length).run s fp λus fp=>aru us λus=>abb k us s λs'=>adn (l++[⟨fp,us⟩]) λl=>Jz P E nt k ops rest s' l c
  let skip (s:St) (fp:List Fp):Option ρ:=abb k (dk o.dst Y3) s λs'=>adn (l++[⟨fp,dk o.dst Y3⟩]) λl=>Jz P E nt k ops rest s' l c
  match aS9 o nt with
  |false=>none
  |true=>
  match o.guard with
  |none=>go s []
  |some (j,want)=>match Mb ops j with
   |none=>none
   |some t=>match s.tmp t with
    |.r (.c (.f (.b x)))=>match x with
     |true=>awy s.tmps t (.r (.c (.f (.b true)))) λts=>match want with|true=>go {s with tmps:=ts} [.t t]|false=>skip {s with tmps:=ts} [.t t]
     |false=>awy s.tmps t (.r (.c (.f (.b false)))) λts=>match want with|true=>skip {s with tmps:=ts} [.t t]|false=>go {s with tmps:=ts} [.t t]
    |.tup []=>skip s [.t t]
    |_=>none
inductive AX where
 |nrm
 |ex (id:Nat)
 |ret
def idx (b:Nat):List Nat->Nat->Option Nat
 | [],_=>none
 |x::l,i=>match Nat.beq x b with
  |true=>some i
  |false=>idx b l (i+1)
def aio (H b:Nat)(m:List Nat):Nat×List Nat:=
 match Nat.ble H b with
 |true=>match idx b m 0 with
  |some i=>(H+i,m)
  |none=>(H+m.length,m++[b])
 |false=>(b,m)
def gcC (H:Nat)(c:CV)(m:List Nat):CV×List Nat:=
 match c with
 |.ptr b o n=>let x:=aio H b m;(.ptr x.1 o n,x.2)
 |.cl f b o n=>let x:=aio H b m;(.cl f x.1 o n,x.2)
 |.sl b o l z w=>let x:=aio H b m;(.sl x.1 o l z w,x.2)
 |c=>(c,m)
def Fx {α:Type}(g:α->List Nat->α×List Nat):List α->List Nat->List α×List Nat
 | [],m=>([],m)
 |a::l,m=>let x:=g a m;let y:=Fx g l x.2;(x.1::y.1,y.2)
def gcS (H:Nat)(s:Sg)(m:List Nat):Sg×List Nat:=
 match s with
 |.c c=>let x:=gcC H c m;(.c x.1,x.2)
 |s=>(s,m)
def gcR (H:Nat)(r:RV)(m:List Nat):RV×List Nat:=
 match r with
 |.c c=>let x:=gcC H c m;(.c x.1,x.2)
 |.agg cs=>let x:=Fx (gcS H) cs m;(.agg x.1,x.2)
def gcA (H:Nat)(a:AV)(m:List Nat):AV×List Nat:=
 match a with
 |.r r=>let x:=gcR H r m;(.r x.1,x.2)
 |.tup rs=>let x:=Fx (gcR H) rs m;(.tup x.1,x.2)
 |.fn f rs=>let x:=Fx (gcR H) rs m;(.fn f x.1,x.2)
 |.Tv=>(.Tv,m)
def gcB (H:Nat)(b:Option af)(m:List Nat):Option af×List Nat:=
 match b with
 |some cs=>let x:=Fx (gcS H) cs m;(some x.1,x.2)
 |none=>(none,m)
def gcN (H:Nat)(heap:List (Option af)):Nat->Nat->List Nat->List (Option af)->Option (List (Option af)×List Nat)
 |0,_,_,_=>none
 |fuel+1,i,m,acc=>match m[i]? with
  |none=>some (acc,m)
  |some b=>let x:=gcB H ((heap[b]?).getD none) m;gcN H heap fuel (i+1) x.2 (acc++[x.1])
def gcO (k:Nat)(d:List Nat)(H:Nat):List (Option af)->Nat->List Nat->List (Option af)×List Nat
 | [],_,m=>([],m)
 |b::l,j,m=>match Nat.blt j k&& !d.any (Nat.beq j) with
  |true=>let y:=gcO k d H l (j+1) m;(b::y.1,y.2)
  |false=>let x:=gcB H b m;let y:=gcO k d H l (j+1) x.2;(x.1::y.1,y.2)
def St.gc (k:Nat)(s:St)(H:Nat):Option St:=
 match Nat.ble H s.heap.length with
 |false=>none
 |true=>
 let x:=Fx (gcA H) s.tmps []
 let y:=gcO k s.cS H (s.heap.take H) 0 x.2
 match gcN H s.heap 1000 0 y.2 [] with
 |some z=>some {s with tmps:=x.1,heap:=y.1++z.1}
 |none=>none
structure Hd where
 id:Nat
 aAV:List Nat
 nils:List (Nat×List CK)
structure Sm where
 id:Nat
 kk:Nat
 run:∀{ρ:Type},St->(AX->St->Option ρ)->Option ρ
structure Jn where
 hd:Hd
 sm:Sm
structure Hs where
 hd:List Hd
 sm:List Sm
 cS:List Nat
 jn:List Jn
 rk:Option Hd
def OB:Code->Option Nat
 |.region id _ _=>some id
 |.seq a _=>OB a
 |.block _ a=>OB a
 |.loop a=>OB a
 |_=>none
def aE4 (c:CV):CV:=
 match c with
 |.sl b o len z own=>match o with
  |.k c=>.sl b (.x c 0 z) len z own
  |o=>.sl b o len z own
 |c=>c
def aAW (g:CV->CV)(s:Sg):Sg:=
 match s with
 |.c v=>.c (g v)
 |s=>s
def mapA (g:CV->CV)(a:AV):AV:=
 match a with
 |.r (.c v)=>.r (.c (g v))
 |a=>a
def afW (g:CV->CV)(k:Nat)(d:List Nat):List (Option af)->Nat->List (Option af)
 | [],_=>[]
 |b::l,j=>(match Nat.blt j k&& !d.any (Nat.beq j) with
  |true=>b
  |false=>b.map λb=>b.map (aAW g))::afW g k d l (j+1)
def aI3 (b n x:Nat):Nat:=
 match Nat.beq x b with
 |true=>n
 |false=>x
def aI4 (b n:Nat)(c:CV):CV:=
 match c with
 |.ptr x o m=>.ptr (aI3 b n x) o m
 |.cl f x o m=>.cl f (aI3 b n x) o m
 |.sl x o l z w=>.sl (aI3 b n x) o l z w
 |c=>c
def aTa (c:CV):CV:=
 match c with
 |.sl b o len z own=>.sl b o (.s len.val) z own
 |c=>c
def aVZ (c:CV):CV:=aTa (aE4 c)
def aE5 (s:Sg):Sg:=
 match s with
 |.c v=>.c (aVZ v)
 |s=>s
def aAX (a:AV):AV:=
 match a with
 |.r (.c v)=>.r (.c (aVZ v))
 |a=>a
def slC (c:CV)(l:List (Nat×Nat)):List (Nat×Nat):=
 match c with
 |.sl b _ _ z _=>(b,z)::l
 |_=>l
def aYc (s:Sg)(l:List (Nat×Nat)):List (Nat×Nat):=
 match s with
 |.c v=>slC v l
 |_=>l
def aYd (a:AV)(l:List (Nat×Nat)):List (Nat×Nat):=
 match a with
 |.r (.c v)=>slC v l
 |_=>l
def aYe (b:Option af)(l:List (Nat×Nat)):List (Nat×Nat):=
 match b with
 |some b=>b.foldr aYc l
 |none=>l
def sls (s:St):List (Nat×Nat):=s.tmps.foldr aYd (s.heap.foldr aYe [])
def aTb (j:Nat):List (Nat×Nat)->Option Nat
 | []=>none
 |p::l=>match Nat.beq p.1 j with
  |true=>some p.2
  |false=>aTb j l
def aAY (l:List (Nat×Nat))(j:Nat)(b:af):af:=
 match aTb j l with
 |some z=>toS (apF z (b.map aE5))
 |none=>b.map aE5
def aip (k:Nat)(d:List Nat)(sl:List (Nat×Nat)):List (Option af)->Nat->List (Option af)
 | [],_=>[]
 |b::l,j=>(match Nat.blt j k&& !d.any (Nat.beq j) with
  |true=>b
  |false=>b.map λb=>aAY sl j b)::aip k d sl l (j+1)
def aMV (k b:Nat)(s:St):St:=
 match s.bI b with
 |some bI=>match Nat.blt b k with
  |true=>{s with tmps:=s.tmps.map (mapA (aI4 b s.heap.length)),heap:=afW (aI4 b s.heap.length) k (mark k b s.cS) (s.heap.set b none++[some bI]) 0,cS:=mark k b s.cS}
  |false=>s
 |none=>s
def aE6 (k:Nat)(s:St)(p:Nat×List CK):St:=
 match p.2 with
 | []=>match p.1 with
  |0=>{s with tmps:=s.tmps.map (mapA aE4),heap:=afW aE4 k s.cS s.heap 0}
  |1=>{s with tmps:=s.tmps.map aAX,heap:=aip k s.cS (sls s) s.heap 0}
  |b+2=>aMV k b s
 |_::_=>match s.tmp p.1 with
  |.r (.c .nils)=>{s with tmps:=s.tmps.set p.1 (.r (.c (.sl s.heap.length (.k 0) (.s 0) p.2.length true))),heap:=s.heap++[some [.a (.s 0) (p.2.map CK.mc)]]}
  |_=>s
def aOx (id:Nat):List Hd->Option Hd
 | []=>none
 |h::l=>match Nat.beq h.id id with
  |true=>some h
  |false=>aOx id l
def aOy (id:Nat):List Sm->Option Sm
 | []=>none
 |h::l=>match Nat.beq h.id id with
  |true=>some h
  |false=>aOy id l
def ana (hs:Hs)(a:Code):Option Sm:=
 match OB a with
 |none=>none
 |some id=>aOy id hs.sm
def St.Y6 (k:Nat)(s:St)(h:Hd):Option St:=((h.nils.foldl (aE6 k) {s with tmps:=h.aAV.foldl (λl t=>l.set t Tv) s.tmps}).gc k k)
def St.head (k:Nat)(s:St)(hs:Hs)(body:Code):Option St:=
 match OB body with
 |none=>s.gc k k
 |some id=>match aOx id hs.hd with
  |none=>s.gc k k
  |some h=>s.Y6 k h
def aOz (id:Nat):List Jn->Option Jn
 | []=>none
 |h::l=>match Nat.beq h.sm.id id with
  |true=>some h
  |false=>aOz id l
def awv (hs:Hs)(b:Code):Option Jn:=
 match hs.jn with
 | []=>none
 |j::l=>match OB b with
  |none=>none
  |some id=>aOz id (j::l)
def Jv (hs:Hs):Code->List Code
 |.seq a b=>(match awv hs b with
  |some _=>[b]
  |none=>[])++(Jv hs a++Jv hs b)
 |.cond _ a b=>Jv hs a++Jv hs b
 |.block _ a=>Jv hs a
 |.loop a=>Jv hs a
 |_=>[]
def apI (id:Nat):Code->Option Code
 |.seq a b=>match(match OB b with
   |some i=>Nat.beq i id
   |none=>false) with
  |true=>some b
  |false=>match apI id a with
   |some c=>some c
   |none=>apI id b
 |.cond _ a b=>match apI id a with
  |some c=>some c
  |none=>apI id b
 |.block _ a=>apI id a
 |.loop a=>apI id a
 |_=>none
def Xu (id:Nat):Code->Option Code
 |.seq a b=>match Xu id a with
  |some c=>some c
  |none=>Xu id b
 |.cond _ a b=>match Xu id a with
  |some c=>some c
  |none=>Xu id b
 |.block _ a=>Xu id a
 |.loop a=>match OB a with
  |some j=>match Nat.beq j id with
   |true=>some a
   |false=>Xu id a
  |none=>Xu id a
 |_=>none
def Ju:Code->List Code
 |.seq a b=>Ju a++Ju b
 |.cond _ a b=>Ju a++Ju b
 |.block _ a=>Ju a
 |.loop a=>a::Ju a
 |_=>[]
def Xr (P:Program)(f:FuncId):Code:=((P.funcs[f]?).bind (·.body)).getD .skip
def Xq (P:Program)(f:FuncId)(id:Nat):Code:=(Xu id (Xr P f)).getD .skip
def adg (P:Program)(f:FuncId)(id:Nat):Code:=(apI id (Xr P f)).getD .skip
def tmpsOf (P:Program)(f:FuncId):Nat:=((P.funcs[f]?).map (·.ntmps)).getD 0
def iter {ρ:Type}(hd:St->Option St)(body:St->(AX->St->Option ρ)->Option ρ)(k:AX->St->Option ρ)(n:Nat):St->Option ρ:=
 Nat.rec (λ_=>none) (λ_ ih s=>body s λe s=>match e with
   |.nrm=>match hd s with
    |none=>none
    |some s=>vA s ih
   |e=>k e s) n
def next {ρ:Type}(hd:St->Option St)(c:St->Option ρ)(k:AX->St->Option ρ):AX->St->Option ρ:=λe s=>match e with
 |.nrm=>match hd s with
  |none=>none
  |some s=>vA s c
 |e=>k e s
def E' (P:Program)(E:Env)(hs:Hs)(nt kk:Nat)(lf:Nat){ρ:Type}:Code->St->(AX->St->Option ρ)->Option ρ
 |.skip,s,k=>k .nrm s
 |.region _ ops draw,s,k=>match draw with
  |false=>Jz P E nt kk ops.toList ops.toList s [] λs _=>k .nrm s
  |true=>Jz P E nt kk ops.toList ops.toList s [] λs l=>match OA ops.toList 0&&Oz (Jy ops.toList []) l 0 with
   |true=>k .nrm s
   |false=>none
 |.seq a b,s,k=>E' P E hs nt kk lf a s λe s=>match e with
  |.nrm=>match awv hs b with
   |none=>E' P E hs nt kk lf b s k
   |some j=>match s.Y6 kk j.hd with
    |none=>none
    |some s=>vA s λs=>match Nat.beq j.sm.kk kk with
     |true=>j.sm.run s k
     |false=>none
  |e=>k e s
 |.cond (.tmp t) a b,s,k=>match s.tmp t with
  |.r (.c (.f (.b x)))=>match x with
   |true=>E' P E hs nt kk lf a s k
   |false=>E' P E hs nt kk lf b s k
  |_=>none
 |.block id a,s,k=>E' P E hs nt kk lf a s λe s=>match e with
  |.ex j=>match Nat.beq j id with
   |true=>k .nrm s
   |false=>k (.ex j) s
  |e=>k e s
 |.loop a,s,k=>match s.head kk hs a with
  |none=>none
  |some s=>vA s λs=>match ana hs a with
   |some σ=>match Nat.beq σ.kk kk with
    |true=>σ.run s k
    |false=>none
   |none=>iter (λt=>t.head kk hs a) (E' P E hs nt kk lf a) k lf s
 |.exit id,s,k=>k (.ex id) s
 |.ret,s,k=>match hs.rk with
  |none=>k .ret s
  |some h=>match s.Y6 kk h with
   |none=>none
   |some s=>vA s λs=>k .ret s
 |_,_,_=>none
def aOA (P:Program)(s:St):ResultVar->Option RV
 |.tmp t=>match s.tmp t with
  |.r v=>some v
  |_=>none
 |.cell a t=>match s.tmp a with
  |.r (.c (.ptr b o m))=>match aa9 P t,gK P t,s.bI b,o with
   |some true,some n,some bI,.k c=>match Nat.ble n m with
    |true=>(aii bI c (.l 1) n).map .agg
    |false=>none
   |some false,some _,some bI,.k c=>match Nat.ble 1 m with
    |true=>match aii bI c (.l 1) 1 with
     |some [.c v]=>some (.c v)
     |_=>none
    |false=>none
   |_,_,_,_=>none
  |_=>none
def auP (P:Program)(s:St):List ResultVar->Option (List RV)
 | []=>some []
 |r::l=>match aOA P s r,auP P s l with
  |some v,some vs=>some (v::vs)
  |_,_=>none
def one:List RV->AV
 | [v]=>.r v
 |vs=>.tup vs
def afX (s:List Nat):List (Option af)->Nat->List Ch
 | [],_=>[]
 |b::l,j=>(match s.any (Nat.beq j) with
  |false=>Ch.kY
  |true=>match b with
   |some b=>.set b
   |none=>.kill)::afX s l (j+1)
def aAZ {α:Type}:List (Option α)->Option (List α)
 | []=>some []
 |some a::l=>(aAZ l).map (a:: ·)
 |none::_=>none
def fin (P:Program)(fn:Func)(k:Nat)(e:AX)(s:St):Option ns:=
 match e with
 |.ex _=>none
 |_=>match auP P s fn.results.toList with
  |none=>none
  |some vs=>
   let x:=gcA k (one vs) []
   let y:=gcO k s.cS k (s.heap.take k) 0 x.2
   match gcN k s.heap 1000 0 y.2 [] with
   |some z=>match aAZ z.1 with
    |some news=>some {val:=x.1,vR:=afX s.cS y.1 0,news}
    |none=>none
   |none=>none
def start (fn:Func)(args:List AV)(h:List af)(d:List Nat):St:=
 {tmps:=args++List.replicate (fn.ntmps-args.length) Y3,heap:=h.map some,cS:=d}
def den (P:Program)(E:Env)(hs:Hs)(lf:Nat)(f:FuncId)(args:List AV)(h:List af):Option ns:=
 match P.funcs[f]? with
 |none=>none
 |some fn=>match fn.body with
  |none=>none
  |some c=>match hs.cS.all λb=>Nat.blt b h.length with
   |false=>none
   |true=>vA (start fn args h hs.cS) λs=>E' P E hs fn.ntmps h.length lf c s (fin P fn h.length)
end Go.Ab
