/-
  Parts of the proof: Ab
-/
import Derived.Orders
import Derived.KernelRfl
import Derived.LoopN
set_option linter.unusedVariables false
set_option linter.unusedSimpArgs false
noncomputable section
namespace Go.Ab
inductive FV where
 |u
 |b (x:Bool)
 |i (k:IntKind) (n:Int)
 |s (x:ByteArray)
 |q (n:Nat) (g:Nat->Bool)
inductive Sz where
 |l (n:Nat)
 |s (n:Nat)
def Sz.val:Sz->Nat
 |.l n=>n
 |.s n=>n
def Sz.add:Sz->Sz->Sz
 |.l a,.l b=>.l (a+b)
 |a,b=>.s (a.val+b.val)
def Sz.least:Sz->Sz->Sz
 |.l a,.l b=>.l (Nat.min a b)
 |a,b=>.s (Nat.min a.val b.val)
def Sz.mul (a:Sz)(k:Nat):Sz:=
 match Nat.beq k 1 with
 |true=>a
 |false=>match a with
  |.l a=>.l (a*k)
  |.s a=>.s (a*k)
inductive bX where
 |k (c:Nat)
 |x (c i z:Nat)
def bX.val:bX->Nat
 |.k c=>c
 |.x c i z=>c+i*z
def bX.add:bX->Nat->bX
 |.k c,d=>.k (c+d)
 |.x c i z,d=>.x (c+d) i z
def bX.plus:bX->bX->bX
 |.k c,.k d=>.k (c+d)
 |.x c i z,.k d=>.x (c+d) i z
 |.k c,.x d i z=>.x (c+d) i z
 |.x c i z,.x d j y=>match Nat.beq z y with
  |true=>.x (c+d) (i+j) z
  |false=>.x 0 (c+i*z+(d+j*y)) 1
def bX.idx (o:bX)(j z n:Nat):bX:=
 match o with
 |.k c=>.x c j z
 |.x c i y=>match Nat.beq y (n*z) with
  |true=>.x c (i*n+j) z
  |false=>.x 0 (c+i*y+j*z) 1
def bX.aHQ (o:bX)(j z:Nat):bX:=
 match o with
 |.k c=>.x c j z
 |.x c i y=>match Nat.beq y z with
  |true=>.x c (i+j) z
  |false=>.x 0 (c+i*y+j*z) 1
inductive cI where
 |i (k:IntKind) (g:Nat->Int)
 |b (g:Nat->Bool)
 |s (g:Nat->ByteArray)
 |u
 |q (n:Nat->Nat) (g:Nat->Nat->Bool)
inductive CV where
 |f (v:FV)
 |ptr (b:Nat) (o:bX) (n:Nat)
 |afJ
 |sl (b:Nat) (o:bX) (len:Sz) (esz:Nat) (own:Bool)
 |nils
 |aMP
 |aMQ
 |cl (f b:Nat) (o:bX) (n:Nat)
 |fs (n z:Nat) (cols:List cI)
 |fp (l:List FV)
inductive Sg where
 |c (v:CV)
 |a (n:Sz) (cols:List cI)
abbrev af:=List Sg
inductive RV where
 |c (v:CV)
 |agg (b:af)
inductive AV where
 |r (v:RV)
 |tup (vs:List RV)
 |fn (f:Nat) (aa1:List RV)
 |Tk
def Tk:AV:=.Tk
def YW:AV:=.tup []
def cI.at:cI->Nat->FV
 |.i k g,j=>.i k (g j)
 |.b g,j=>.b (g j)
 |.s g,j=>.s (g j)
 |.u,_=>.u
 |.q n g,j=>.q (n j) (g j)
def cI.shift (d:Nat):cI->cI
 |.i k g=>.i k λj=>g (d+j)
 |.b g=>.b λj=>g (d+j)
 |.s g=>.s λj=>g (d+j)
 |.u=>.u
 |.q n g=>.q (λj=>n (d+j)) λj=>g (d+j)
def cI.up (d:Nat):cI->cI
 |.i k g=>.i k λj=>g (j-d)
 |.b g=>.b λj=>g (j-d)
 |.s g=>.s λj=>g (j-d)
 |.u=>.u
 |.q n g=>.q (λj=>n (j-d)) λj=>g (j-d)
def cI.aMR (c:cI)(e:Nat)(v:CV):Option cI:=
 match c,v with
 |.i k g,.f (.i k' x)=>if k=k' then some (.i k λj=>cond (Nat.beq j e) x (g j)) else none
 |.b g,.f (.b x)=>some (.b λj=>cond (Nat.beq j e) x (g j))
 |.s g,.f (.s x)=>some (.s λj=>cond (Nat.beq j e) x (g j))
 |_,_=>none
def cI.mrg (p:Nat->Bool)(c d:cI):Option cI:=
 match c,d with
 |.i k g,.i k' h=>if k=k' then some (.i k λj=>cond (p j) (g j) (h j)) else none
 |.b g,.b h=>some (.b λj=>cond (p j) (g j) (h j))
 |.s g,.s h=>some (.s λj=>cond (p j) (g j) (h j))
 |_,_=>none
def aq0 (p:Nat->Bool):List cI->List cI->Option (List cI)
 | [],[]=>some []
 |c::cs,d::ds=>match cI.mrg p c d,aq0 p cs ds with
  |some e,some es=>some (e::es)
  |_,_=>none
 |_,_=>none
def Sg.size:Sg->Nat
 |.c _=>1
 |.a n cols=>n.val*cols.length
def Sg.get:Sg->Nat->CV
 |.c v,j=>match j with
  |0=>v
  |_+1=>.f .u
 |.a _ cols,j=>match cols[j%cols.length]? with
  |some q=>.f (q.at (j/cols.length))
  |none=>.f .u
def af.size:af->Nat
 | []=>0
 |s::l=>s.size+af.size l
def af.get:af->Nat->CV
 | [],_=>.f .u
 |s::l,j=>if j<s.size then s.get j else af.get l (j-s.size)
def af.list (b:af):List CV:=(List.range b.size).map b.get
def CV.fv:CV->FV
 |.f v=>v
 |_=>.u
def RV.bE:RV->af
 |.c v=>[.c v]
 |.agg b=>b
def shC (sh:Bool)(e:Nat)(cols:List cI):List cI:=
 match sh with
 |true=>cols.map (cI.shift e)
 |false=>cols
def aFS (sh:Bool)(cols:List cI)(e mx:Nat)(bY:Sz)(z:Nat):Option af:=
 match Nat.beq mx 0&&Nat.beq (z%cols.length) 0 with
 |true=>some [.a (bY.mul (z/cols.length)) (shC sh e cols)]
 |false=>none
def rowsOf (sh:Bool)(cols:List cI)(e mx:Nat)(bY:Sz)(z:Nat):Option af:=
 match bY with
 |.l n=>match Nat.beq n 1&&Nat.ble (mx+z) cols.length with
  |true=>some (((cols.drop mx).take z).map λq=>Sg.c (.f (q.at e)))
  |false=>aFS sh cols e mx (.l n) z
 |.s n=>aFS sh cols e mx (.s n) z
def Tl:af->Nat->Option af
 | [],m=>match m with
  |0=>some []
  |_+1=>none
 |.c v::r,m=>match m with
  |0=>some []
  |m+1=>(Tl r m).map (.c v:: ·)
 |.a n cols::r,m=>match m with
  |0=>some []
  |m+1=>match n with
   |.s _=>none
   |.l n=>match Nat.ble (n*cols.length) (m+1) with
    |true=>(Tl r (m+1-n*cols.length)).map (.a (.l n) cols:: ·)
    |false=>rowsOf false cols 0 0 (.l 1) (m+1)
def nz:Nat->Bool
 |0=>false
 |_+1=>true
def ah2:af->Nat->Sz->Nat->Option af
 | [],c,bY,z=>match bY with
  |.l n=>match Nat.beq (n*z) 0 with
   |true=>some []
   |false=>none
  |.s _=>none
 |.c v::r,c,bY,z=>match c with
  |0=>match bY with
   |.l n=>Tl (.c v::r) (n*z)
   |.s _=>none
  |c+1=>ah2 r c bY z
 |.a n cols::r,c,bY,z=>match r with
  | []=>rowsOf (nz (c/cols.length)) cols (c/cols.length) (c%cols.length) bY z
  |_::_=>match n,bY with
   |.l n,.l m=>match Nat.ble (n*cols.length) c with
    |true=>ah2 r (c-n*cols.length) bY z
    |false=>match Nat.ble (c+m*z) (n*cols.length) with
     |true=>rowsOf (nz (c/cols.length)) cols (c/cols.length) (c%cols.length) bY z
     |false=>match c with
      |0=>Tl (.a (.l n) cols::r) (m*z)
      |_+1=>none
   |_,_=>none
def elemOf (c i z zc:Nat):Nat:=
 match Nat.beq z zc with
 |true=>match c/zc with
  |0=>i
  |q+1=>q+1+i
 |false=>c/zc+i*(z/zc)
def awd:af->Nat->Nat->Nat->Sz->Nat->Option (Bool×af)
 | [],_,_,_,_,_=>none
 |.c v::r,c,i,z,bY,y=>match c with
  |0=>(ah2 (.c v::r) (i*z) bY y).map λb=>(true,b)
  |c+1=>awd r c i z bY y
 |.a n cols::r,c,i,z,bY,y=>match r with
  | []=>match Nat.beq (z%cols.length) 0 with
   |true=>(rowsOf true cols (elemOf c i z cols.length) (c%cols.length) bY y).map λb=>(true,b)
   |false=>none
  |_::_=>match n with
   |.l n=>match Nat.ble (n*cols.length) c with
    |true=>awd r (c-n*cols.length) i z bY y
    |false=>match Nat.beq (z%cols.length) 0 with
     |true=>(rowsOf true cols (elemOf c i z cols.length) (c%cols.length) bY y).map λb=>(Nat.ble (c+i*z+bY.val*y) (n*cols.length),b)
     |false=>none
   |.s _=>none
def af.sub (b:af)(o:bX)(bY:Sz)(z:Nat):Option (Bool×af):=
 match o with
 |.k c=>(ah2 b c bY z).map λb=>(true,b)
 |.x c i y=>awd b c i y bY z
def ac7:List cI->Nat->Nat->CV->Option (List cI)
 | [],_,_,_=>none
 |c::cs,0,e,v=>(cI.aMR c e v).map (·::cs)
 |c::cs,j+1,e,v=>(ac7 cs j e v).map (c:: ·)
def Bj (zc:Nat):List cI->Nat->Nat->af->Option (List cI)
 |cols,_,_,[]=>some cols
 |cols,e,mx,.c v::r=>match ac7 cols mx e v with
  |some dk=>match Nat.beq (mx+1) zc with
   |true=>Bj zc dk (e+1) 0 r
   |false=>Bj zc dk e (mx+1) r
  |none=>none
 |_,_,_,.a _ _::_=>none
def aAf (cols:List cI)(e mx:Nat)(v:af):Option (List cI):=
 match v with
 | [.a m dk]=>match Nat.beq mx 0&&Nat.beq cols.length dk.length with
  |true=>aq0 (λj=>Nat.ble e j&&Nat.blt j (e+m.val)) (dk.map (cI.up e)) cols
  |false=>none
 |v=>Bj cols.length cols e mx v
def eS:af->af->Option af
 |b,[]=>some b
 |.c _::r,.c y::vs=>(eS r vs).map (.c y:: ·)
 |.a (.l n) cols::r,.a (.l m) dk::vs=>match Nat.beq n m&&Nat.beq cols.length dk.length with
  |true=>(eS r vs).map (.a (.l m) dk:: ·)
  |false=>none
 |_,_=>none
def aFT (n:Sz)(cols:List cI)(v:af):Bool:=
 match n,v with
 |.l n,[.a (.l m) dk]=>Nat.beq n m&&Nat.beq cols.length dk.length
 |_,_=>false
def ah3:af->Nat->af->Option af
 | [],_,v=>match v with
  | []=>some []
  |_::_=>none
 |.c x::r,c,v=>match c with
  |0=>eS (.c x::r) v
  |c+1=>(ah3 r c v).map (.c x:: ·)
 |.a n cols::r,c,v=>match r with
  | []=>match Nat.beq c 0&&aFT n cols v with
   |true=>some v
   |false=>(aAf cols (c/cols.length) (c%cols.length) v).map λcols=>[.a n cols]
  |_::_=>match n with
   |.s _=>none
   |.l n=>match Nat.ble (n*cols.length) c with
    |true=>(ah3 r (c-n*cols.length) v).map (.a (.l n) cols:: ·)
    |false=>match Nat.beq c 0&&aFT (.l n) cols v with
     |true=>some (v++r)
     |false=>match Nat.ble (c+af.size v) (n*cols.length) with
      |true=>(aAf cols (c/cols.length) (c%cols.length) v).map λcols=>.a (.l n) cols::r
      |false=>match c with
       |0=>eS (.a (.l n) cols::r) v
       |_+1=>none
def awe:af->Nat->Nat->Nat->af->Option (Bool×af)
 | [],_,_,_,_=>none
 |.c x::r,c,i,z,v=>match c with
  |0=>(ah3 (.c x::r) (i*z) v).map λb=>(true,b)
  |c+1=>(awe r c i z v).map λp=>(p.1,.c x::p.2)
 |.a n cols::r,c,i,z,v=>match r with
  | []=>match Nat.beq (z%cols.length) 0 with
   |true=>(aAf cols (elemOf c i z cols.length) (c%cols.length) v).map λcols=>(true,[.a n cols])
   |false=>none
  |_::_=>match n with
   |.l n=>match Nat.ble (n*cols.length) c with
    |true=>(awe r (c-n*cols.length) i z v).map λp=>(p.1,.a (.l n) cols::p.2)
    |false=>match Nat.beq (z%cols.length) 0 with
     |true=>(aAf cols (elemOf c i z cols.length) (c%cols.length) v).map λcols=>(Nat.ble (c+i*z+af.size v) (n*cols.length),.a (.l n) cols::r)
     |false=>none
   |.s _=>none
def af.xw (b:af)(o:bX)(v:af):Option (Bool×af):=
 match o with
 |.k c=>(ah3 b c v).map λb=>(true,b)
 |.x c i z=>awe b c i z v
def Tn:af->Bool
 | []=>true
 |.c _::r=>Tn r
 |.a _ _::_=>false
def aFU:FV->Option cI
 |.i k x=>some (.i k λ_=>x)
 |.b x=>some (.b λ_=>x)
 |.s x=>some (.s λ_=>x)
 |.u=>none
 |.q _ _=>none
def B3:Nat->af->Option (List cI)
 |0,_=>some []
 |z+1,.c (.f v)::r=>match aFU v,B3 z r with
  |some c,some cs=>some (c::cs)
  |_,_=>none
 |_+1,_=>none
def rowOf (z:Nat)(b:af):Option af:=
 match Tn b&&(Nat.ble 1 z&&Nat.beq (b.length%z) 0) with
 |true=>match B3 z b with
  |some cols=>(Bj z cols 0 0 b).map λcols=>[.a (.l (b.length/z)) cols]
  |none=>none
 |false=>none
def ac8 (cols:List cI):List Nat->af
 | []=>[]
 |j::l=>.c (match cols[j%cols.length]? with
  |some q=>.f (q.at (j/cols.length))
  |none=>.f .u)::ac8 cols l
def qV:af->af
 | []=>[]
 |.c v::r=>.c v::qV r
 |.a n cols::r=>match n with
  |.l n=>ac8 cols (List.range (n*cols.length))++qV r
  |.s n=>.a (.s n) cols::qV r
def aHR (n:Sz)(cols:List cI)(b:af):Option af:=
 match Tn b&&(Nat.ble 1 cols.length&&Nat.beq (b.length%cols.length) 0) with
 |true=>(Bj cols.length cols n.val 0 b).map λcs=>[.a (n.add (.l (b.length/cols.length))) cs]
 |false=>none
def aMS (n:Sz)(cols:List cI)(b:af):Option af:=
 match b with
 | [.a m dk]=>match Nat.beq cols.length dk.length&&Nat.ble 1 cols.length with
  |true=>(aq0 (λj=>Nat.blt j n.val) cols (dk.map (cI.up n.val))).map λcols=>[.a (n.add m) cols]
  |false=>aHR n cols (qV b)
 |b=>aHR n cols (qV b)
def aMT:af->Bool
 | []=>true
 |.c _::r=>aMT r
 |.a (.l _) _::r=>aMT r
 |.a (.s _) _::_=>false
def af.app (a b:af):Option af:=
 match a,b with
 | [],b=>some b
 |a,[]=>some a
 | [.a n cols],b=>aMS n cols b
 |a,[.a m dk]=>match rowOf dk.length (qV a) with
  |some [.a n cols]=>aMS n cols [.a m dk]
  |_=>none
 |a,b=>match aMT a&&aMT b with
  |true=>some (a++b)
  |false=>none
def apt (z:Nat)(b:af):af:=
 match b with
 | []=>[]
 | [.a n cols]=>match Nat.beq cols.length z with
  |true=>[.a n cols]
  |false=>match rowOf z (qV [.a n cols]) with
   |some b=>b
   |none=>[.a n cols]
 |b=>match rowOf z (qV b) with
  |some r=>r
  |none=>b
structure St where
 tmps:List AV
 heap:List (Option af)
 cQ:List Nat
def St.bE (s:St)(b:Nat):Option af:=(s.heap[b]?).getD none
def ah4 (l:List AV):Nat->AV:=List.rec (motive:=λ_=>Nat->AV) (λ_=>YW) (λa _ ih i=>Nat.rec (motive:=λ_=>AV) a (λm _=>ih m) i) l
def St.tmp (s:St)(i:Nat):AV:=ah4 s.tmps i
def awf {α ρ:Type}(l:List α):Nat->α->(List α->Option ρ)->Option ρ:=
 List.rec (motive:=λ_=>Nat->α->(List α->Option ρ)->Option ρ) (λ_ _ _=>none)
  (λa l ih i v k=>Nat.rec (motive:=λ_=>Option ρ) (k (v::l)) (λm _=>ih m v λl'=>k (a::l')) i) l
inductive Fp where
 |t (i:Nat)
 |c (b:Nat) (r:Option (Nat×Nat))
 |z (b:Nat)
inductive Up where
 |t (i:Nat) (v:AV)
 |c (b:Nat) (o:bX) (v:af)
 |new (b:Nat) (bE:af)
 |kill (b:Nat)
def ext (o:bX)(bY:Sz)(z:Nat):Option (Nat×Nat):=
 match o,bY with
 |.k c,.l n=>some (c,n*z)
 |_,_=>none
def szL:af->Option Nat
 | []=>some 0
 |.c _::r=>(szL r).map (1+ ·)
 |.a (.l n) cols::r=>(szL r).map (n*cols.length+ ·)
 |.a (.s _) _::_=>none
def aHS (o:bX)(v:af):Option (Nat×Nat):=
 match o with
 |.k c=>(szL v).map λn=>(c,n)
 |_=>none
inductive Rd (α:Type):Type 1 where
 |ret (a:α)
 |fail
 |tm (i:Nat) (k:AV->Rd α)
 |vw (b:Nat) (o:bX) (bY:Sz) (z:Nat) (k:af->Rd α)
 |sz (b:Nat) (k:Rd α)
 |test (x:Bool) (k:Bool->Rd α)
 |opt {D:Type} (x:Option D) (k:D->Rd α)
def Rd.bind {α β:Type}:Rd α->(α->Rd β)->Rd β
 |.ret a,f=>f a
 |.fail,_=>.fail
 |.tm i k,f=>.tm i λv=>(k v).bind f
 |.vw b o bY z k,f=>.vw b o bY z λv=>(k v).bind f
 |.sz b k,f=>.sz b (k.bind f)
 |.test x k,f=>.test x λv=>(k v).bind f
 |.opt x k,f=>.opt x λv=>(k v).bind f
def du {α:Type}:Option α->Rd α
 |some a=>.ret a
 |none=>.fail
def ck (x:Bool):Rd Unit:=.test x λ|true=>.ret ()|false=>.fail
def Rd.run {α ρ:Type}:Rd α->St->List Fp->(α->List Fp->Option ρ)->Option ρ
 |.ret a,_,l,k=>k a l
 |.fail,_,_,_=>none
 |.tm i m,s,l,k=>(m (s.tmp i)).run s (.t i::l) k
 |.vw b o bY z m,s,l,k=>
  match s.bE b with
  |some bE=>match bE.sub o bY z with
   |some p=>match p.1 with
    |true=>(m p.2).run s (.z b:: .c b (ext o bY z)::l) k
    |false=>none
   |none=>none
  |none=>none
 |.sz b m,s,l,k=>
  match s.bE b with
  |some _=>m.run s (.z b::l) k
  |none=>none
 |.test x m,s,l,k=>
  match x with
  |true=>(m true).run s l k
  |false=>(m false).run s l k
 |.opt x m,s,l,k=>
  match x with
  |some d=>(m d).run s l k
  |none=>none
def aAg (b:af)(o:bX)(bY:Sz)(z:Nat):Rd af:=
 match b.sub o bY z with
 |some p=>.test p.1 λ|true=>.ret p.2|false=>.fail
 |none=>.fail
def ofC:Value->Option CV
 |.bool b=>some (.f (.b b))
 |.int k n=>some (.f (.i k n))
 |.string s=>some (.f (.s s))
 |.pointer none=>some .afJ
 |.slice none 0 0=>some .nils
 |.nilFunc=>some .aMP
 |.nilIface=>some .aMQ
 |_=>none
def aEg:List Value->Option af
 | []=>some []
 |v::vs=>match ofC v,aEg vs with
  |some c,some cs=>some (.c c::cs)
  |_,_=>none
def ofR:Value->Option RV
 |.agg cs=>(aEg cs.toList).map .agg
 |v=>(ofC v).map .c
def BD:Operand->Rd AV
 |.tmp t=>.tm t .ret
 |.const v=>(du (ofR v)).bind λr=>.ret (.r r)
 |.func f=>.ret (.fn f [])
 |.global _=>.fail
def asR:AV->Rd RV
 |.r v=>.ret v
 |_=>.fail
def asC:AV->Rd CV
 |.r (.c v)=>.ret v
 |_=>.fail
def asI:AV->Rd (IntKind×Int)
 |.r (.c (.f (.i k n)))=>.ret (k,n)
 |_=>.fail
def asB:AV->Rd Bool
 |.r (.c (.f (.b x)))=>.ret x
 |_=>.fail
def asP:AV->Rd (Nat×bX×Nat)
 |.r (.c (.ptr b o n))=>.ret (b,o,n)
 |_=>.fail
def tt (x:Operand):Rd RV:=(BD x).bind asR
def asS:AV->Rd RV
 |.r v=>.ret v
 |.fn f [.c (.ptr b o n)]=>.ret (.c (.cl f b o n))
 |_=>.fail
def aHT (x:Operand):Rd RV:=(BD x).bind asS
def EF (x:Operand):Rd CV:=(BD x).bind asC
def Iq (x:Operand):Rd (IntKind×Int):=(BD x).bind asI
def aEh (x:Operand):Rd Bool:=(BD x).bind asB
def aHU (x:Operand):Rd (Nat×bX×Nat):=(BD x).bind asP
def qW {α β:Type}(f:α->Rd β):List α->Rd (List β)
 | []=>.ret []
 |a::l=>(f a).bind λb=>(qW f l).bind λbs=>.ret (b::bs)
def aa2 (P:Program)(t:TypeId):Option Bool:=
 match P.underlying t with
 |some (.struct _)|some (.array _ _)=>some true
 |some _=>some false
 |none=>none
def gJ (P:Program)(t:TypeId):Option Nat:=(P.info? t).map (·.size)
def ac9 (P:Program)(t:TypeId)(i:Nat):Option Field:=
 match P.underlying t with
 |some (.struct fs)=>fs[i]?
 |_=>none
def aMU (P:Program)(n:Nat)(e:TypeId):Bool:=
 Nat.ble 9 n||match P.underlying e with
 |some (.int .u64)=>Nat.ble 8 n
 |some (.struct _)=>Nat.ble 4 n
 |_=>false
inductive Tm where
 |c
 |a (n z:Nat)
def aMV {α:Type}:Nat->List α->List α
 |0,_=>[]
 |n+1,l=>l++aMV n l
def ah5 (P:Program):Nat->TypeId->List Tm
 |0,_=>[]
 |d+1,t=>match P.underlying t with
  |some (.struct fs)=>(fs.toList.map λf=>ah5 P d f.type).flatten
  |some (.array n e)=>match aMU P n e with
   |true=>match ah5 P d e with
    | [.a m z]=>[.a (n*m) z]
    |_=>[.a n ((gJ P e).getD 0)]
   |false=>aMV n (ah5 P d e)
  |_=>[.c]
def FV.same:FV->FV->Bool
 |.b x,.b y=>x==y
 |.i k x,.i k' y=>decide (k=k')&&x==y
 |_,_=>false
def To (z:Nat)(row:af):Nat->af->Option af
 |0,b=>some b
 |m+1,.c (.f v)::r=>match row[(m%z)]? with
  |some (.c (.f y))=>match v.same y with
   |true=>To z row m r
   |false=>none
  |_=>none
 |_+1,_=>none
def YX:List Tm->af->Option af
 | [],[]=>some []
 |.c::tm,.c v::r=>(YX tm r).map (.c v:: ·)
 |.a n z::tm,b=>match B3 z b with
  |some cols=>match Nat.ble 1 z with
   |true=>match To z ((b.take z).reverse) (n*z) b with
    |some r=>(YX tm r).map (.a (.l n) cols:: ·)
    |none=>none
   |false=>none
  |none=>none
 |_,_=>none
def xH (P:Program)(t:TypeId):Option RV:=
 match((P.info? t).bind (·.zero)).bind ofR with
 |some (.agg b)=>(YX (ah5 P 30 t) b).map .agg
 |r=>r
def FV.isB:FV->Bool
 |.b _=>true
 |_=>false
def FV.toB:FV->Bool
 |.b x=>x
 |_=>false
def FV.isI (k:IntKind):FV->Bool
 |.i k' _=>decide (k'=k)
 |_=>false
def FV.toI:FV->Int
 |.i _ n=>n
 |_=>0
def FV.isS:FV->Bool
 |.s _=>true
 |_=>false
def FV.toS:FV->ByteArray
 |.s x=>x
 |_=>.empty
def aEi (P:Program)(t:TypeId)(c:CV):Rd CV:=
 match P.underlying t,c with
 |some .bool,.f x=>.test x.isB λ|true=>.ret (.f (.b x.toB))|false=>.fail
 |some (.int k),.f x=>.test (x.isI k) λ|true=>.ret (.f (.i k x.toI))|false=>.fail
 |some .string,.f x=>.test x.isS λ|true=>.ret (.f (.s x.toS))|false=>.fail
 |some (.slice _),.f (.q n g)=>.ret (.fs n 1 [.b g])
 |_,c=>.ret c
def ada:List Tm->af->Option af
 | [],[]=>some []
 |.c::tm,.c v::r=>(ada tm r).map (.c v:: ·)
 |.a n z::tm,b=>match Nat.ble (n*z) b.length with
  |true=>match rowOf z (b.take (n*z)) with
   |some row=>(ada tm (b.drop (n*z))).map (row++ ·)
   |none=>none
  |false=>none
 |_,_=>none
def norm (P:Program)(t:TypeId)(l:af):af:=
 match Tn l&&Nat.ble 8 l.length with
 |true=>match ada (ah5 P 30 t) l with
  |some r=>r
  |none=>l
 |false=>match Tn l with
  |true=>l
  |false=>match(ah5 P 30 t).all (λ|.c=>true|.a _ _=>false) with
   |true=>qV l
   |false=>l
def amX (P:Program)(t:TypeId)(v:RV):Rd RV:=
 match v with
 |.c c=>(aEi P t c).bind λc=>.ret (.c c)
 |.agg l=>.ret (.agg (norm P t l))
def apu:af->Rd RV
 | [.c v]=>.ret (.c v)
 |_=>.fail
def Xj (P:Program)(t:TypeId)(b:Nat)(o:bX)(m:Nat):Rd RV:=
 (du (aa2 P t)).bind λa=>(du (gJ P t)).bind λn=>
  match a with
  |true=>(ck (Nat.ble n m)).bind λ_=>.vw b o (.l 1) n λl=>.ret (.agg l)
  |false=>(ck (Nat.ble 1 m)).bind λ_=>.vw b o (.l 1) 1 apu
def valueOf (P:Program)(t:TypeId)(b:Nat)(o:bX)(m:Nat):Rd RV:=(Xj P t b o m).bind (amX P t)
def aFV (P:Program)(t:TypeId)(cs:af)(o:bX):Rd RV:=
 (du (aa2 P t)).bind λa=>(du (gJ P t)).bind λn=>
  match a with
  |true=>(aAg cs o (.l 1) n).bind λl=>.ret (.agg l)
  |false=>(aAg cs o (.l 1) 1).bind apu
def partOf (P:Program)(t:TypeId)(cs:af)(o:bX):Rd RV:=(aFV P t cs o).bind (amX P t)
def LQ (P:Program)(t:TypeId)(cs:af)(c:Nat):Rd RV:=
 (du (gJ P t)).bind λn=>(ck (Nat.ble 1 n&&Nat.ble (c+n) (af.size cs))).bind λ_=>partOf P t cs (.k c)
def apv (op:BinOp)(k:IntKind)(x y:Int):Option Int:=
 let a:=BitVec.ofInt k.bits x
 let b:=BitVec.ofInt k.bits y
 match op with
 |.and=>some (k.wrap (a&&&b).toNat)
 |.or=>some (k.wrap (a|||b).toNat)
 |.xor=>some (k.wrap (a^^^b).toNat)
 |.andNot=>some (k.wrap (a&&& ~~~b).toNat)
 |_=>none
def aRp (op:BinOp)(k:IntKind)(x y:Int):Rd FV:=
 match op with
 |.add=>.ret (.i k (k.wrap (x+y)))
 |.sub=>.ret (.i k (k.wrap (x-y)))
 |.mul=>.ret (.i k (k.wrap (x*y)))
 |.quo=>(ck (!decide (y=0))).bind λ_=>.ret (.i k (k.wrap (x.tdiv y)))
 |.rem=>(ck (!decide (y=0))).bind λ_=>.ret (.i k (x.tmod y))
 |.eql=>.ret (.b (x==y))
 |.neq=>.ret (.b (x !=y))
 |.lss=>.ret (.b (decide (x<y)))
 |.leq=>.ret (.b (decide (x<=y)))
 |.gtr=>.ret (.b (decide (x>y)))
 |.geq=>.ret (.b (decide (x>=y)))
 |.shl|.shr=>.fail
 |op=>(du (apv op k x y)).bind λn=>.ret (.i k n)
def aMW (op:BinOp)(k:IntKind)(x y:Int):Rd FV:=
 (ck (!decide (y<0))).bind λ_=>
  match op with
  |.shl=>.ret (.i k (k.wrap (x*2^(min y.toNat k.bits))))
  |.shr=>.ret (.i k (x.fdiv (2^(min y.toNat k.bits))))
  |_=>.fail
def aq1 (n:Nat)(p:Nat->Bool):Bool:=(List.range n).all p
def aAh (n:Nat):List cI->List cI->Option Bool
 | [.i k g],[.i k' h]=>if k=k' then some (aq1 n λj=>g j==h j) else none
 | [.b g],[.b h]=>some (aq1 n λj=>g j==h j)
 |_,_=>none
def aa3 (P:Program)(e:TypeId)(c:List cI):Bool:=
 match P.underlying e,c with
 |some .bool,[.b _]=>true
 |some (.int _),[.i _ _]=>true
 |_,_=>false
def aHV (P:Program)(afK:TypeId->RV->RV->Rd Bool)(xs ys:af):List Field->Rd Bool
 | []=>.ret true
 |f::fs=>if f.name≠"_" then
   (LQ P f.type xs f.offset).bind λa=>(LQ P f.type ys f.offset).bind λb=>(afK f.type a b).bind λr=>(aHV P afK xs ys fs).bind λs=>.ret (r&&s)
  else aHV P afK xs ys fs
def aRq (P:Program)(afK:TypeId->RV->RV->Rd Bool)(e:TypeId)(z:Nat)(xs ys:af):List Nat->Rd Bool
 | []=>.ret true
 |i::l=>(LQ P e xs (i*z)).bind λa=>(LQ P e ys (i*z)).bind λb=>(afK e a b).bind λr=>(aRq P afK e z xs ys l).bind λs=>.ret (r&&s)
def aRr (P:Program)(d n z:Nat)(e:TypeId)(xs ys:af):Option Bool:=
 match xs,ys with
 | [.a (.l m) c],[.a (.l m') c']=>match Nat.ble 1 d&&(Nat.beq z 1&&(Nat.beq m n&&(Nat.beq m' n&&aa3 P e c))) with
  |true=>aAh n c c'
  |false=>none
 |_,_=>none
def eqT (P:Program):Nat->TypeId->RV->RV->Rd Bool
 |0,_,_,_=>.fail
 |d+1,t,x,y=>match P.underlying t,x,y with
  |some .bool,.c (.f (.b a)),.c (.f (.b b))=>.ret (a==b)
  |some (.int _),.c (.f (.i k a)),.c (.f (.i k' b))=>if k=k' then .ret (a==b) else .fail
  |some .string,.c (.f (.s a)),.c (.f (.s b))=>.ret (a==b)
  |some (.pointer _),.c .afJ,.c .afJ=>.ret true
  |some (.pointer _),.c (.ptr _ _ _),.c .afJ|some (.pointer _),.c .afJ,.c (.ptr _ _ _)=>.ret false
  |some (.struct fs),.agg xs,.agg ys=>match P.stoodInHeld t with
   |true=>.fail
   |false=>aHV P (eqT P d) xs ys fs.toList
  |some (.array n e),.agg xs,.agg ys=>(du (gJ P e)).bind λz=>match aRr P d n z e xs ys with
   |some r=>.ret r
   |none=>aRq P (eqT P d) e z xs ys (List.range n)
  |_,_,_=>.fail
def eqV (P:Program)(t:TypeId)(x y:RV):Rd Bool:=
 match x,y with
 |.agg _,.agg _=>match P.eqGuardType P.depth t with
  |true=>.fail
  |false=>eqT P 30 t x y
 |.c (.f (.i _ _)),_|.c (.f (.s _)),_|.c (.f .u),_|.c (.f (.q _ _)),_=>.fail
 |_,_=>eqT P 30 t x y
def aRs (P:Program)(op:BinOp)(t:TypeId)(x y:RV):Rd RV:=
 match x,y with
 |.c (.f (.i k a)),.c (.f (.i k' b))=>
  match op with
  |.shl|.shr=>(aMW op k a b).bind λv=>.ret (.c (.f v))
  |op=>if k=k' then(aRp op k a b).bind λv=>.ret (.c (.f v)) else .fail
 |x,y=>
  match op with
  |.eql=>(eqV P t x y).bind λr=>.ret (.c (.f (.b r)))
  |.neq=>(eqV P t x y).bind λr=>.ret (.c (.f (.b (!r))))
  |_=>.fail
def unV (op:UnOp)(x:RV):Rd RV:=
 match op,x with
 |.neg,.c (.f (.i k n))=>.ret (.c (.f (.i k (k.wrap (0-n)))))
 |.xor,.c (.f (.i k n))=>(du (apv .xor k (if k.signed then -1 else k.max) n)).bind λr=>.ret (.c (.f (.i k r)))
 |.not,.c (.f (.b x))=>.ret (.c (.f (.b (!x))))
 |_,_=>.fail
def aLs (P:Program)(src dst:TypeId)(x:RV):Rd RV:=
 match P.underlying src,P.underlying dst,x with
 |some _,some (.int k),.c (.f (.i _ n))=>.ret (.c (.f (.i k (k.wrap n))))
 |_,_,_=>.fail
def aW (i:Int)(n:Nat):Bool:=decide (0<=i)&&decide (i<(n:Int))
def Ir (i:Int)(n:Nat):Bool:=decide (0<=i)&&decide (i<=(n:Int))
def amY (i:Int):Nat->Rd Nat
 |0=>.ret 0
 |n+1=>.test (i==((n+1:Nat):Int)) λ|true=>.ret (n+1)|false=>amY i n
def sel (P:Program)(o:bX)(i:Int)(n:Nat)(e:TypeId)(z:Nat):Rd bX:=
 match aMU P n e with
 |true=>.ret (o.idx i.toNat z n)
 |false=>match Nat.ble n 8 with
  |true=>(amY i (n-1)).bind λj=>.ret (o.add (j*z))
  |false=>.ret (o.idx i.toNat z n)
def aHW (P:Program)(o:bX)(i:Int)(len:Sz)(e:TypeId)(z:Nat):Rd bX:=
 match len with
 |.l n=>match !aMU P n e&&Nat.ble n 8 with
  |true=>(amY i (n-1)).bind λj=>.ret (o.add (j*z))
  |false=>.ret (o.aHQ i.toNat z)
 |.s _=>.ret (o.aHQ i.toNat z)
def aAi (l:List FV):af:=l.map λv=>.c (.f v)
def aAj (P:Program)(t:TypeId)(l:List FV):Rd RV:=
 (du (aa2 P t)).bind λa=>(du (gJ P t)).bind λn=>
  match a with
  |true=>(ck (Nat.beq n l.length)).bind λ_=>amX P t (.agg (aAi l))
  |false=>match l with
   |v::_=>amX P t (.c (.f v))
   | []=>.fail
def aum (P:Program)(t:TypeId)(x:CV)(i:Nat):Rd CV:=
 match x with
 |.fp l=>(du (ac9 P t i)).bind λf=>(du (gJ P f.type)).bind λn=>
  (ck (Nat.ble 1 n&&Nat.ble (f.offset+n) l.length)).bind λ_=>.ret (.fp ((l.drop f.offset).take n))
 |.ptr b o m=>(du (ac9 P t i)).bind λf=>(du (gJ P f.type)).bind λn=>
  (ck (Nat.ble 1 n&&Nat.ble (f.offset+n) m)).bind λ_=>.ret (.ptr b (o.add f.offset) n)
 |_=>.fail
def B4 (b:ByteArray)(n:Nat):Int:=match b[n]? with
 |some x=>Int.ofNat x.toNat
 |none=>0
def aun (P:Program)(t:TypeId)(x:CV)(i:Int):Rd CV:=
 match P.underlying t,x with
 |some (.array n e),.ptr b o m=>(du (gJ P e)).bind λz=>(ck (Nat.ble (n*z) m)).bind λ_=>
  (ck (aW i n)).bind λ_=>(sel P o i n e z).bind λo=>.ret (.ptr b o z)
 |some (.slice e),.sl b o len z' _=>(du (gJ P e)).bind λz=>(ck (Nat.beq z z')).bind λ_=>
  (ck (aW i len.val)).bind λ_=>(aHW P o i len e z).bind λo=>.ret (.ptr b o z)
 |some (.slice e),.fs n z' cols=>(du (gJ P e)).bind λz=>(ck (Nat.beq z z')).bind λ_=>
  (ck (aW i n)).bind λ_=>.ret (.fp (cols.map λq=>q.at i.toNat))
 |some (.array n e),.fp l=>(du (gJ P e)).bind λz=>(ck (Nat.ble (n*z) l.length&&Nat.ble n 8)).bind λ_=>
  (ck (aW i n)).bind λ_=>(amY i (n-1)).bind λj=>.ret (.fp ((l.drop (j*z)).take z))
 |_,_=>.fail
def awg (x:Option Operand):Rd (Option Int):=
 match x with
 |none=>.ret none
 |some x=>(Iq x).bind λi=>.ret (some i.2)
def RB (lo hi:Option Int)(n:Nat):Rd (Nat×Nat):=
 (match hi with
  |none=>Rd.ret n
  |some h=>(ck (Ir h n)).bind λ_=>.ret h.toNat).bind λh=>
 (match lo with
  |none=>Rd.ret 0
  |some l=>(ck (Ir l h)).bind λ_=>.ret l.toNat).bind λl=>.ret (l,h)
def szQ (q:Bool)(n:Nat):Sz:=
 match q with
 |true=>.l n
 |false=>.s n
def sD (x:Option Operand):Bool:=
 match x with
 |none=>true
 |some (.const _)=>true
 |_=>false
def amZ (q:Bool)(n:Sz):Bool:=
 match n with
 |.l _=>q
 |.s _=>false
def lenOf (q:Bool)(lo hi:Option Int)(n:Sz)(lh:Nat×Nat):Sz:=
 match lo,hi with
 |none,none=>n
 |none,some _=>szQ q lh.2
 |some _,_=>szQ q (lh.2-lh.1)
def adb (q:Bool)(lo:Option Int)(o:bX)(l z:Nat):bX:=
 match lo with
 |none=>o
 |some _=>match q with
  |true=>o.add (l*z)
  |false=>o.aHQ l z
def aq2 (lo:Option Int)(l:Nat)(cols:List cI):List cI:=
 match lo with
 |none=>cols
 |some _=>cols.map (cI.shift l)
def aFW (P:Program)(t:TypeId)(x:CV)(q:Bool)(lo hi:Option Int):Rd CV:=
 match P.underlying t,x with
 |some (.array n e),.ptr b o m=>(du (gJ P e)).bind λz=>(ck (Nat.ble (n*z) m)).bind λ_=>
  (RB lo hi n).bind λlh=>.ret (.sl b (adb q lo o lh.1 z) (lenOf q lo hi (.l n) lh) z false)
 |some (.slice e),.sl b o len z own=>(du (gJ P e)).bind λz'=>(ck (Nat.beq z z')).bind λ_=>
  (RB lo hi len.val).bind λlh=>.ret (.sl b (adb (amZ q len) lo o lh.1 z) (lenOf (amZ q len) lo hi len lh) z (own&&hi.isNone))
 |some (.slice e),.nils=>(du (gJ P e)).bind λ_=>(RB lo hi 0).bind λ_=>.ret .nils
 |some (.slice e),.fs n z cols=>(du (gJ P e)).bind λz'=>(ck (Nat.beq z z')).bind λ_=>
  (RB lo hi n).bind λlh=>.ret (.fs (lenOf false lo hi (.s n) lh).val z (aq2 lo lh.1 cols))
 |_,_=>.fail
def placesOf (P:Program)(t:TypeId):Option (Nat->Option (Nat×Nat)):=
 match P.underlying t with
 |some (.struct fs)=>(fs.toList.mapM λf=>(P.info? f.type).map λi=>(f.offset,i.size)).map λl i=>l[i]?
 |some (.array _ e)=>(gJ P e).map λn i=>some (i*n,n)
 |_=>none
def ah6 (pl:Nat->Option (Nat×Nat)):af->List (Nat×RV)->Option af
 |cs,[]=>some cs
 |cs,(i,v)::rest=>match pl i with
  |none=>none
  |some (o,n)=>match Nat.beq (af.size v.bE) n&&Nat.ble (o+n) (af.size cs) with
   |true=>match ah3 cs o v.bE with
    |some PY=>ah6 pl PY rest
    |none=>none
   |false=>none
def rep:Nat->af->af
 |0,_=>[]
 |n+1,l=>l++rep n l
inductive Ch where
 |kU
 |set (b:af)
 |kill
structure m4 where
 val:AV
 vv:List Ch
 news:List af
inductive T:Type 1 where
 |leaf (r:m4)
 |fail
 |test (x:Bool) (a b:T)
 |opt {D:Type} (x:Option D) (k:D->T)
def T.eval:T->Option m4
 |.leaf r=>some r
 |.fail=>none
 |.test x a b=>match x with
  |true=>a.eval
  |false=>b.eval
 |.opt x k=>match x with
  |some d=>(k d).eval
  |none=>none
def T.rd:T->Rd m4
 |.leaf r=>.ret r
 |.fail=>.fail
 |.test x a b=>.test x λ|true=>a.rd|false=>b.rd
 |.opt x k=>.opt x λd=>(k d).rd
abbrev CD:=List AV->List af->T
abbrev Env:=Nat->Option CD
structure Vw where
 b:Nat
 o:bX
 bY:Sz
 z:Nat
 sl:Bool
 own:Bool
def Vw.n (v:Vw):Nat:=v.bY.val*v.z
def YY (b:Nat)(e:Option (Nat×Nat)):List Vw->Nat->Option (Nat×Nat×Bool)
 | [],_=>none
 |v::vs,i=>match Nat.beq v.b b with
  |false=>YY b e vs (i+1)
  |true=>match e,ext v.o v.bY v.z with
   |some (o,n),some (o',n')=>match Nat.ble o' o&&Nat.ble (o+n) (o'+n') with
    |true=>some (i,o-o',v.own)
    |false=>YY b e vs (i+1)
   |_,_=>YY b e vs (i+1)
def aq3 (b:Nat)(e:Option (Nat×Nat))(vs:List Vw):Bool:=
 vs.all λv=> !Nat.beq v.b b||match e,ext v.o v.bY v.z with
  |some (o,n),some (o',n')=>Nat.ble (o+n) o'||Nat.ble (o'+n') o
  |_,_=>false
def aMX (c:CV)(vs:List Vw):Rd (CV×List Vw):=
 match c with
 |.ptr b o n=>match YY b (ext o (.l 1) n) vs 0 with
  |some (i,d,_)=>.ret (.ptr i (.k d) n,vs)
  |none=>(ck (aq3 b (ext o (.l 1) n) vs)).bind λ_=>.ret (.ptr vs.length (.k 0) n,vs++[⟨b,o,.l 1,n,false,false⟩])
 |.cl f b o n=>match YY b (ext o (.l 1) n) vs 0 with
  |some (i,d,_)=>.ret (.cl f i (.k d) n,vs)
  |none=>(ck (aq3 b (ext o (.l 1) n) vs)).bind λ_=>.ret (.cl f vs.length (.k 0) n,vs++[⟨b,o,.l 1,n,false,false⟩])
 |.sl b o len z own=>match YY b (ext o len z) vs 0 with
  |some (i,d,ow)=>.ret (.sl i (.k d) (.s len.val) z (own&&ow),vs)
  |none=>(ck (aq3 b (ext o len z) vs)).bind λ_=>
   .ret (.sl vs.length (.k 0) (.s len.val) z (own&&vs.all λv=> !Nat.beq v.b b|| !v.own),vs++[⟨b,o,len,z,true,own&&vs.all λv=> !Nat.beq v.b b|| !v.own⟩])
 |c=>.ret (c,vs)
def aHX:af->List Vw->Rd (af×List Vw)
 | [],vs=>.ret ([],vs)
 |.c c::cs,vs=>(aMX c vs).bind λx=>(aHX cs x.2).bind λy=>.ret (.c x.1::y.1,y.2)
 |.a n cols::cs,vs=>(aHX cs vs).bind λy=>.ret (.a n cols::y.1,y.2)
def aMY (r:RV)(vs:List Vw):Rd (RV×List Vw):=
 match r with
 |.c c=>(aMX c vs).bind λx=>.ret (.c x.1,x.2)
 |.agg cs=>(aHX cs vs).bind λx=>.ret (.agg x.1,x.2)
def aAk:List RV->List Vw->Rd (List RV×List Vw)
 | [],vs=>.ret ([],vs)
 |c::cs,vs=>(aMY c vs).bind λx=>(aAk cs x.2).bind λy=>.ret (x.1::y.1,y.2)
def aRt (a:AV)(vs:List Vw):Rd (AV×List Vw):=
 match a with
 |.r r=>(aMY r vs).bind λx=>.ret (.r x.1,x.2)
 |.tup rs=>(aAk rs vs).bind λx=>.ret (.tup x.1,x.2)
 |.fn f rs=>(aAk rs vs).bind λx=>.ret (.fn f x.1,x.2)
 |.Tk=>.ret (.Tk,vs)
def aFX:List AV->List Vw->Rd (List AV×List Vw)
 | [],vs=>.ret ([],vs)
 |c::cs,vs=>(aRt c vs).bind λx=>(aFX cs x.2).bind λy=>.ret (x.1::y.1,y.2)
def toS (b:af):af:=
 match b with
 | [.a n cols]=>[.a (.s n.val) cols]
 |b=>b
def aLt (sl:Bool)(z:Nat)(b:af):af:=
 match sl with
 |true=>toS (apt z b)
 |false=>b
def aMZ:Nat->Nat->List Vw->List af->Rd (List af×List Vw)
 |0,_,_,_=>.fail
 |fuel+1,i,vs,acc=>match vs[i]? with
  |none=>.ret (acc,vs)
  |some v=>.vw v.b v.o v.bY v.z λcs=>
   (aHX (aLt v.sl v.z cs) vs).bind λx=>aMZ fuel (i+1) x.2 (acc++[x.1])
def Jd (vs:List Vw)(aJ:Nat):CV->CV
 |.ptr j d n=>match vs[j]? with
  |some v=>.ptr v.b (v.o.plus d) n
  |none=>.ptr (aJ+(j-vs.length)) d n
 |.cl f j d n=>match vs[j]? with
  |some v=>.cl f v.b (v.o.plus d) n
  |none=>.cl f (aJ+(j-vs.length)) d n
 |.sl j d len z own=>match vs[j]? with
  |some v=>.sl v.b (v.o.plus d) len z (own&&v.own)
  |none=>.sl (aJ+(j-vs.length)) d len z own
 |c=>c
def Is (f:CV->CV):af->af
 | []=>[]
 |.c v::r=>.c (f v)::Is f r
 |.a n cols::r=>.a n cols::Is f r
def aM0 (vs:List Vw)(aJ:Nat):RV->RV
 |.c c=>.c (Jd vs aJ c)
 |.agg cs=>.agg (Is (Jd vs aJ) cs)
def aHY (vs:List Vw)(aJ:Nat):AV->AV
 |.r r=>.r (aM0 vs aJ r)
 |.tup rs=>.tup (rs.map (aM0 vs aJ))
 |.fn f rs=>.fn f (rs.map (aM0 vs aJ))
 |.Tk=>.Tk
def EZ (vs:List Vw)(aJ:Nat):List af->Nat->List Up
 | [],_=>[]
 |b::bs,j=>.new (aJ+j) (Is (Jd vs aJ) b)::EZ vs aJ bs (j+1)
def xI (all:List Vw)(aJ:Nat):List Vw->List Ch->Option (Bool×List Up)
 | [],[]=>some (true,[])
 |_::vs,.kU::cs=>xI all aJ vs cs
 |v::vs,.set b::cs=>match xI all aJ vs cs with
  |some p=>some (p.1&&Nat.beq (af.size b) v.n,.c v.b v.o (Is (Jd all aJ) b)::p.2)
  |none=>none
 |_::vs,.kill::cs=>xI all aJ vs cs
 |_,_=>none
def nh:List Vw->List Ch->List Up
 |v::vs,.kill::cs=>.kill v.b::nh vs cs
 |_::vs,_::cs=>nh vs cs
 |_,_=>[]
def dm (dst:Option Tmp)(v:AV):List Up:=
 match dst with
 |some d=>[.t d v]
 |none=>[]
def aRu (E:Env)(f:Nat)(args:List AV)(dst:Option Tmp)(aJ:Nat):Rd (List Up):=
 (aFX args []).bind λx=>(aMZ 1000 0 x.2 []).bind λy=>
  match E f with
  |none=>.fail
  |some F=>(F x.1 y.1).rd.bind λr=>
   (du (xI y.2 aJ y.2 r.vv)).bind λus=>(ck us.1).bind λ_=>
    .ret (dm dst (aHY y.2 aJ r.val)++(us.2++(nh y.2 r.vv++EZ y.2 aJ r.news 0)))
def aM1:CV->Rd Nat
 |.sl _ _ n _ _=>.ret n.val
 |.nils=>.ret 0
 |.fs n _ _=>.ret n
 |.f (.s x)=>.ret x.size
 |_=>.fail
def slB (z:Nat):CV->Rd (Sz×af)
 |.sl b o n z' _=>(ck (Nat.beq z z')).bind λ_=>.vw b o n z λk=>.ret (n,k)
 |.nils=>.ret (.l 0,[])
 |.fs n z' cols=>(ck (Nat.beq z z')).bind λ_=>.ret (.s n,[.a (.s n) cols])
 |_=>.fail
def aAl (P:Program)(t:TypeId)(s x:CV)(dst:Option Tmp)(aJ:Nat):Rd (List Up):=
 match P.underlying t with
 |some (.slice e)=>(du (gJ P e)).bind λz=>(du ((P.info? e).map (·.bytes))).bind λby_=>(du (xH P e)).bind λzv=>
  (ck (Nat.ble 1 z&&(Nat.ble 1 by_&&Nat.beq (af.size zv.bE) z))).bind λ_=>
  (slB z x).bind λxb=>
  match s with
  |.nils=>(ck (Nat.ble (xb.1.val*by_) 140737488355328)).bind λ_=>
   .ret (dm dst (.r (.c (.sl aJ (.k 0) xb.1 z true)))++[.new aJ xb.2])
  |.sl b o n z' true=>(ck (Nat.beq z z')).bind λ_=>(ck (Nat.ble ((n.val+xb.1.val)*by_) 140737488355328)).bind λ_=>
   .sz b<|
   .vw b o n z λsb=>(du (sb.app xb.2)).bind λnb=>
    (ck (match x with|.sl b' _ _ _ _=> !Nat.beq b b'|_=>true)).bind λ_=>
    .ret (dm dst (.r (.c (.sl aJ (.k 0) (n.add xb.1) z true)))++[.kill b,.new aJ nb])
  |_=>.fail
 |_=>.fail
def aEj (v:Nat):Nat->Rd Nat
 |0=>.ret 0
 |k+1=>.test (Nat.ble (k+1) v) λ|true=>.ret (k+1)|false=>aEj v k
def aHZ (n n':Sz):Rd (Bool×Sz):=
 match n,n' with
 |.l k,.s v=>match Nat.ble k 8 with
  |true=>(aEj v k).bind λj=>.ret (true,.l j)
  |false=>.ret (false,Sz.least (.s v) (.l k))
 |n,n'=>.ret (false,Sz.least n' n)
def copyV (P:Program)(t:TypeId)(d x:CV)(dst:Option Tmp):Rd (List Up):=
 match P.underlying t with
 |some (.slice e)=>(du (gJ P e)).bind λz=>
  match d,x with
  |.sl b o n z1 _,.sl b' o' n' z2 _=>(ck (Nat.beq z z1&&Nat.beq z z2)).bind λ_=>
   (ck (!Nat.beq b b')).bind λ_=>(aHZ n n').bind λm=>
   .vw b' o' m.2 z λl=>.sz b<|
    .ret (dm dst (.r (.c (.f (.i .i64 (m.2.val:Int)))))++[.c b o (cond m.1 (qV l) l)])
  |_,_=>.fail
 |_=>.fail
def aRv:FV->FV->Rd FV
 |.i k x,.i k' y=>if k=k' then .ret (.i k (if y<x then y else x)) else .fail
 |_,_=>.fail
def aRw:FV->FV->Rd FV
 |.i k x,.i k' y=>if k=k' then .ret (.i k (if y>x then y else x)) else .fail
 |_,_=>.fail
def aq4 {α β:Type}(f:β->α->Rd β):β->List α->Rd β
 |b,[]=>.ret b
 |b,a::l=>(f b a).bind λb'=>aq4 f b' l
def asF:AV->Rd FV
 |.r (.c (.f v))=>.ret v
 |_=>.fail
def biV (P:Program)(bi:Builtin)(ts:Array TypeId)(args:List AV)(dst:Option Tmp)(aJ:Nat):Rd (List Up):=
 match bi,args with
 |.len,[x]=>(du ((ts[0]?).bind P.underlying)).bind λ
  |.array n _=>.ret (dm dst (.r (.c (.f (.i .i64 (n:Int))))))
  |.slice _=>(asC x).bind λc=>(match c with|.f _=>Rd.fail|c=>aM1 c).bind λn=>.ret (dm dst (.r (.c (.f (.i .i64 (n:Int))))))
  |.string=>(asC x).bind λc=>(match c with|.f (.s x)=>Rd.ret x.size|_=>Rd.fail).bind λn=>.ret (dm dst (.r (.c (.f (.i .i64 (n:Int))))))
  |_=>.fail
 |.append,[s,x]=>(du (ts[0]?)).bind λt=>(ck (match ts.toList with| [t1,t2]=>Nat.beq t1 t2|_=>false)).bind λ_=>
  (asC s).bind λs=>(asC x).bind λx=>aAl P t s x dst aJ
 |.copy,[d,x]=>(du (ts[0]?)).bind λt=>(asC d).bind λd=>(asC x).bind λx=>copyV P t d x dst
 |.min,x::l=>(asF x).bind λx=>(qW asF l).bind λl=>(aq4 aRv x l).bind λv=>.ret (dm dst (.r (.c (.f v))))
 |.max,x::l=>(asF x).bind λx=>(qW asF l).bind λl=>(aq4 aRw x l).bind λv=>.ret (dm dst (.r (.c (.f v))))
 |_,_=>.fail
def aUl:AV->Rd (Nat×List RV)
 |.fn f aa1=>.ret (f,aa1)
 |.r (.c (.cl f b o n))=>.ret (f,[.c (.ptr b o n)])
 |_=>.fail
def alR (P:Program)(e:TypeId)(n z:Nat)(b:af):af:=
 match !aMU P n e&&Nat.ble n 8 with
 |true=>b
 |false=>apt z b
inductive CK where
 |i (k:IntKind)
 |b
 |s
def CK.mx:CK->cI
 |.i k=>.i k λ_=>0
 |.b=>.b λ_=>false
 |.s=>.s λ_=>.empty
def ckT (P:Program):Nat->TypeId->Option (List CK)
 |0,_=>none
 |d+1,t=>match P.underlying t with
  |some .bool=>some [.b]
  |some (.int k)=>some [.i k]
  |some .string=>some [.s]
  |some (.struct fs)=>fs.toList.foldr (λf l=>match ckT P d f.type,l with
   |some a,some b=>some (a++b)
   |_,_=>none) (some [])
  |some (.array n e)=>(ckT P d e).map (aMV n)
  |_=>none
def aFY (P:Program):Nat->TypeId->List (Option (Nat×List CK))
 |0,_=>[]
 |d+1,t=>match P.underlying t with
  |some (.struct fs)=>(fs.toList.map λf=>aFY P d f.type).flatten
  |some (.array n e)=>aMV n (aFY P d e)
  |some (.slice e)=>[match gJ P e,ckT P 30 e with
   |some z,some ks=>some (z,ks)
   |_,_=>none]
  |_=>[none]
def PZ:List (Option (Nat×List CK))->af->Nat->af×List af
 |_,[],_=>([],[])
 |ks,.a n cols::r,b=>let x:=PZ (ks.drop (n.val*cols.length)) r b;(.a n cols::x.1,x.2)
 |ks,.c v::r,b=>match v,ks with
  |.nils,some (z,k)::ks=>let x:=PZ ks r (b+1);(.c (.sl b (.k 0) (.s 0) z true)::x.1,[.a (.s 0) (k.map CK.mx)]::x.2)
  |v,ks=>let x:=PZ (ks.drop 1) r b;(.c v::x.1,x.2)
def aM2:af->Bool
 | []=>false
 |.c .nils::_=>true
 |_::r=>aM2 r
def gQ (P:Program)(t:TypeId)(b:af)(aJ:Nat):af×List af:=
 match aM2 b with
 |true=>PZ (aFY P 30 t) b aJ
 |false=>(b,[])
def ze:List af->Nat->List Up
 | [],_=>[]
 |b::bs,n=>.new n b::ze bs (n+1)
def aq5 (dst:Option Tmp)(aJ n:Nat)(cs:af):List Up:=dm dst (.r (.c (.ptr aJ (.k 0) n)))++[.new aJ cs]
def aop (P:Program)(E:Env)(o:Oper)(aJ:Nat):Rd (List Up):=
 let val (m:Rd RV):Rd (List Up):=m.bind λv=>.ret (dm o.dst (.r v))
 let cel (m:Rd CV):Rd (List Up):=m.bind λv=>.ret (dm o.dst (.r (.c v)))
 match o.op with
 |.move x|.assign x=>(BD x).bind λv=>.ret (dm o.dst v)
 |.pick c a b=>(aEh c).bind λx=>.test x λ
  |true=>(BD a).bind λv=>.ret (dm o.dst v)
  |false=>(BD b).bind λv=>.ret (dm o.dst v)
 |.alloc e=>(du (xH P e)).bind λz=>.ret (ze (gQ P e z.bE aJ).2 aJ++aq5 o.dst (aJ+(gQ P e z.bE aJ).2.length) (af.size (gQ P e z.bE aJ).1) (gQ P e z.bE aJ).1)
 |.box t x=>(tt x).bind λv=>.ret (ze (gQ P t v.bE aJ).2 aJ++aq5 o.dst (aJ+(gQ P t v.bE aJ).2.length) (af.size (gQ P t v.bE aJ).1) (gQ P t v.bE aJ).1)
 |.makeSlice t n c=>match P.underlying t with
  |some (.slice e)=>(du (xH P e)).bind λz=>(du (gJ P e)).bind λq=>(Iq n).bind λn=>(Iq c).bind λc=>
   (ck (decide (n.2=0)&&decide (c.2=0))).bind λ_=>(du (B3 q z.bE)).bind λcols=>
   .ret (dm o.dst (.r (.c (.sl aJ (.k 0) (.s 0) q true)))++[.new aJ [.a (.s 0) cols]])
  |_=>.fail
 |.build t ps=>(du (xH P t)).bind λz=>(qW (λp=>(tt p.2).bind λv=>.ret (p.1,v)) ps.toList).bind λl=>
  (du (placesOf P t)).bind λpl=>(du (ah6 pl z.bE l)).bind λcs=>.ret (dm o.dst (.r (.agg cs)))
 |.buildSlice t n ps=>match P.underlying t with
  |some (.slice e)=>(du (xH P e)).bind λz=>(du (gJ P e)).bind λq=>
   (ck (Nat.ble 1 q&&Nat.ble (n*q) 16777216)).bind λ_=>
   (qW (λp=>(tt p.2).bind λv=>.ret (p.1,v)) ps.toList).bind λl=>
   (ck (Nat.beq (af.size z.bE) q)).bind λ_=>(du (ah6 (λi=>some (i*q,q)) (rep n z.bE) l)).bind λcs=>.ret (dm o.dst (.r (.c (.sl aJ (.k 0) (.l n) q true)))++[.new aJ (alR P e n q cs)])
  |_=>.fail
 |.load t a=>(EF a).bind λ
  |.ptr b q n=>val (valueOf P t b q n)
  |.fp l=>val (aAj P t l)
  |_=>.fail
 |.store t a x=>(aHU a).bind λp=>(aHT x).bind λv=>(du (gJ P t)).bind λn=>
  (ck (Nat.beq (af.size v.bE) n&&Nat.ble n p.2.2)).bind λ_=>.sz p.1<|
  .ret (ze (gQ P t v.bE aJ).2 aJ++(dm o.dst YW++[.c p.1 p.2.1 (gQ P t v.bE aJ).1]))
 |.nilCheck x=>(EF x).bind λ
  |.ptr b q n=>.ret (dm o.dst (.r (.c (.ptr b q n))))
  |.fp l=>.ret (dm o.dst (.r (.c (.fp l))))
  |_=>.fail
 |.binOp op t x y _=>(tt x).bind λa=>(tt y).bind λb=>val (aRs P op t a b)
 |.unOp op _ x=>(tt x).bind λa=>val (unV op a)
 |.convert s d x=>(tt x).bind λa=>val (aLs P s d a)
 |.sliceToArrayPointer t x=>(EF x).bind λc=>match P.underlying t,c with
  |some (.array n _),.sl b q len z _=>(ck (Nat.ble 1 n&&Nat.ble n len.val)).bind λ_=>cel (.ret (.ptr b q (n*z)))
  |_,_=>.fail
 |.makeFunc (.func f) fs aa1=>match fs.toList with
  | []=>(qW tt aa1.toList).bind λl=>.ret (dm o.dst (.fn f l))
  |_=>.fail
 |.slice t x lo hi none=>(EF x).bind λc=>(awg lo).bind λl=>(awg hi).bind λh=>cel (aFW P t c (sD lo&&sD hi) l h)
 |.fieldAddr t x i=>(EF x).bind λc=>cel (aum P t c i)
 |.field t x i=>(tt x).bind λ
  |.agg cs=>(du (ac9 P t i)).bind λf=>val (LQ P f.type cs f.offset)
  |_=>.fail
 |.indexAddr t x i=>(EF x).bind λc=>(Iq i).bind λi=>cel (aun P t c i.2)
 |.index t x i=>(tt x).bind λv=>(Iq i).bind λi=>match P.underlying t,v with
  |some (.array n e),.agg cs=>(du (gJ P e)).bind λz=>(ck (Nat.ble 1 z&&Nat.ble (n*z) (af.size cs))).bind λ_=>(ck (aW i.2 n)).bind λ_=>(sel P (.k 0) i.2 n e z).bind λo=>val (partOf P e cs o)
  |some .string,.c (.f (.s b))=>(ck (aW i.2 b.size)).bind λ_=>val (.ret (.c (.f (.i .u8 (B4 b i.2.toNat)))))
  |_,_=>.fail
 |.extract x i=>(BD x).bind λ
  |.tup vs=>(du (vs[i]?)).bind λv=>.ret (dm o.dst (.r v))
  |_=>.fail
 |.call c=>(qW BD c.args.toList).bind λargs=>match c.callee with
  |.builtin b=>biV P b c.argTypes args o.dst aJ
  |.value f=>(BD f).bind λf=>(aUl f).bind λfc=>aRu E fc.1 (args++fc.2.map .r) o.dst aJ
  |.invoke _ _=>.fail
 |_=>.fail
def mark (k:Nat)(b:Nat)(d:List Nat):List Nat:=
 match Nat.blt b k&& !d.any (Nat.beq b) with
 |true=>b::d
 |false=>d
def Up.app (k:Nat)(s:St):Up->St
 |.t i v=>{s with tmps:=s.tmps.set i v}
 |.c b o v=>match s.bE b with
  |some bE=>match bE.xw o v with
   |some p=>{s with heap:=s.heap.set b (some p.2),cQ:=mark k b s.cQ}
   |none=>s
  |none=>s
 |.new _ bE=>{s with heap:=s.heap++[some bE]}
 |.kill b=>{s with heap:=s.heap.set b none,cQ:=mark k b s.cQ}
def Up.ok (s:St):Up->Bool
 |.t i _=>Nat.blt i s.tmps.length
 |.c b o v=>match s.bE b with
  |some bE=>match bE.xw o v with
   |some p=>p.1&&Nat.ble (o.val+af.size v) (af.size bE)
   |none=>false
  |none=>false
 |.new b _=>Nat.beq b s.heap.length
 |.kill b=>Nat.blt b s.heap.length
def iD (k:Nat):List Up->St->Option St
 | [],s=>some s
 |u::us,s=>match u.ok s with
  |true=>iD k us (u.app k s)
  |false=>none
def aLu (acc:List Nat)(m:Nat)(e:Edge):Nat:=match Region.binds .any e with
 |true=>(m|||2^e.on)|||acc.getD e.on 0
 |false=>m
def mask (acc:List Nat)(o:Oper):Nat:=o.after.toList.foldl (aLu acc) 0
def Je:List Oper->List Nat->List Nat
 | [],acc=>acc
 |o::l,acc=>Je l (acc++[mask acc o])
def ovl (lo n lo' n':Nat):Bool:=Nat.blt lo (lo'+n')&&Nat.blt lo' (lo+n)
def meet:Option (Nat×Nat)->Option (Nat×Nat)->Bool
 |some (lo,n),some (lo',n')=>ovl lo n lo' n'
 |_,_=>true
def Fp.awh:Fp->Up->Bool
 |.t i,.t j _=>Nat.beq i j
 |.c b r,.c b' o v=>Nat.beq b b'&&meet r (aHS o v)
 |.c b _,.new b' _|.c b _,.kill b'|.z b,.new b' _|.z b,.kill b'=>Nat.beq b b'
 |_,_=>false
def Up.awh:Up->Up->Bool
 |.t i _,.t j _=>Nat.beq i j
 |.c b o v,.c b' o' v'=>Nat.beq b b'&&meet (aHS o v) (aHS o' v')
 |.c b _ _,.new b' _|.c b _ _,.kill b'|.new b _,.c b' _ _|.kill b,.c b' _ _|.new b _,.new b' _|.new b _,.kill b'|.kill b,.new b' _|.kill b,.kill b'=>Nat.beq b b'
 |_,_=>false
structure Tr where
 fp:List Fp
 us:List Up
def Tr.ade (x y:Tr):Bool:=
 x.us.any (λu=>y.fp.any (·.awh u)||y.us.any (·.awh u))||y.us.any (λu=>x.fp.any (·.awh u))
def Om (ms:List Nat):List Tr->Nat->Bool
 | [],_=>true
 |x::rest,j=>(rest.zipIdx.all λp=>Nat.testBit (ms.getD (j+1+p.2) 0) j|| !x.ade p.1)&&Om ms rest (j+1)
def On:List Oper->Nat->Bool
 | [],_=>true
 |o::l,i=>(o.after.toList.all λe=> !Region.binds .any e||Nat.blt e.on i)&&On l (i+1)
def aRx (o:Oper)(nt:Nat):Bool:=
 match o.dst with
 |none=>true
 |some d=>Nat.blt d nt
def LR (ops:List Oper)(j:Nat):Option Tmp:=(ops[j]?).bind (·.dst)
def adf {α ρ:Type}(l:List α):(List α->ρ)->ρ:=
 List.rec (motive:=λ_=>(List α->ρ)->ρ) (λk=>k []) (λa _ ih k=>ih λl=>k (a::l)) l
def aq6 {ρ:Type}(o:bX)(k:bX->ρ):ρ:=
 match o with
 |.k c=>k (.k c)
 |.x c i z=>k (.x c i z)
def aFZ {ρ:Type}(n:Sz)(k:Sz->ρ):ρ:=
 match n with
 |.l n=>k (.l n)
 |.s n=>k (.s n)
def azI {ρ:Type}(v:FV)(k:FV->ρ):ρ:=
 match v with
 |.u=>k .u
 |.b x=>k (.b x)
 |.i d n=>k (.i d n)
 |.s x=>k (.s x)
 |.q n g=>k (.q n g)
def auo {ρ:Type}(c:cI)(k:cI->ρ):ρ:=
 match c with
 |.i d g=>k (.i d g)
 |.b g=>k (.b g)
 |.s g=>k (.s g)
 |.u=>k .u
 |.q n g=>k (.q n g)
def Tp {ρ:Type}(l:List cI):(List cI->ρ)->ρ:=
 List.rec (motive:=λ_=>(List cI->ρ)->ρ) (λk=>k []) (λa _ ih k=>auo a λa=>ih λl=>k (a::l)) l
def aq7 {ρ:Type}(l:List FV):(List FV->ρ)->ρ:=
 List.rec (motive:=λ_=>(List FV->ρ)->ρ) (λk=>k []) (λa _ ih k=>azI a λa=>ih λl=>k (a::l)) l
def azJ {ρ:Type}(c:CV)(k:CV->ρ):ρ:=
 match c with
 |.f v=>azI v λv=>k (.f v)
 |.ptr b o n=>aq6 o λo=>k (.ptr b o n)
 |.cl f b o n=>aq6 o λo=>k (.cl f b o n)
 |.afJ=>k .afJ
 |.sl b o l z w=>aq6 o λo=>aFZ l λl=>k (.sl b o l z w)
 |.nils=>k .nils
 |.aMP=>k .aMP
 |.aMQ=>k .aMQ
 |.fs n z cols=>Tp cols λcols=>k (.fs n z cols)
 |.fp l=>aq7 l λl=>k (.fp l)
def aq8 {ρ:Type}(s:Sg)(k:Sg->ρ):ρ:=
 match s with
 |.c v=>azJ v λv=>k (.c v)
 |.a n cols=>aFZ n λn=>Tp cols λcols=>k (.a n cols)
def Xk {ρ:Type}(l:af):(af->ρ)->ρ:=
 List.rec (motive:=λ_=>(af->ρ)->ρ) (λk=>k []) (λa _ ih k=>aq8 a λa=>ih λl=>k (a::l)) l
def aq9 {ρ:Type}(r:RV)(k:RV->ρ):ρ:=
 match r with
 |.c c=>azJ c λc=>k (.c c)
 |.agg b=>Xk b λb=>k (.agg b)
def ah7 {ρ:Type}(l:List RV):(List RV->ρ)->ρ:=
 List.rec (motive:=λ_=>(List RV->ρ)->ρ) (λk=>k []) (λa _ ih k=>aq9 a λa=>ih λl=>k (a::l)) l
def ara {ρ:Type}(v:AV)(k:AV->ρ):ρ:=
 match v with
 |.r r=>aq9 r λr=>k (.r r)
 |.tup rs=>ah7 rs λrs=>k (.tup rs)
 |.fn f rs=>ah7 rs λrs=>k (.fn f rs)
 |.Tk=>k .Tk
def azK {ρ:Type}(u:Up)(k:Up->ρ):ρ:=
 match u with
 |.t i v=>ara v λv=>k (.t i v)
 |.c b o vs=>aq6 o λo=>Xk vs λvs=>k (.c b o vs)
 |.new b bE=>Xk bE λbE=>k (.new b bE)
 |.kill b=>k (.kill b)
def arb {ρ:Type}(l:List Up):(List Up->ρ)->ρ:=
 List.rec (motive:=λ_=>(List Up->ρ)->ρ) (λk=>k []) (λa _ ih k=>azK a λa=>ih λl=>k (a::l)) l
def arc {ρ:Type}(l:List AV):(List AV->ρ)->ρ:=
 List.rec (motive:=λ_=>(List AV->ρ)->ρ) (λk=>k []) (λa _ ih k=>ara a λa=>ih λl=>k (a::l)) l
def ard {ρ:Type}(u:Option af)(k:Option af->ρ):ρ:=
 match u with
 |some b=>Xk b λb=>k (some b)
 |none=>k none
def are {ρ:Type}(l:List (Option af)):(List (Option af)->ρ)->ρ:=
 List.rec (motive:=λ_=>(List (Option af)->ρ)->ρ) (λk=>k []) (λa _ ih k=>ard a λa=>ih λl=>k (a::l)) l
def uZ {ρ:Type}(s:St)(k:St->ρ):ρ:=
 match s with
 | ⟨t,h,d⟩=>arc t λt=>are h λh=>adf d λd=>k ⟨t,h,d⟩
def Up.aa4 {ρ:Type}(k:Nat)(u:Up)(s:St)(c:St->Option ρ):Option ρ:=
 match u with
 |.t i v=>awf s.tmps i v λt=>c {s with tmps:=t}
 |.c b o v=>match s.bE b with
  |some bE=>match bE.xw o v with
   |some p=>match p.1&&Nat.ble (o.val+af.size v) (af.size bE) with
    |true=>Xk p.2 λbE=>awf s.heap b (some bE) λh=>adf (mark k b s.cQ) λd=>c {s with heap:=h,cQ:=d}
    |false=>none
   |none=>none
  |none=>none
 |.new b bE=>match Nat.beq b s.heap.length with
  |true=>adf (s.heap++[some bE]) λh=>c {s with heap:=h}
  |false=>none
 |.kill b=>awf s.heap b none λh=>adf (mark k b s.cQ) λd=>c {s with heap:=h,cQ:=d}
def aa4 {ρ:Type}(k:Nat)(us:List Up):St->(St->Option ρ)->Option ρ:=
 List.rec (motive:=λ_=>St->(St->Option ρ)->Option ρ) (λs c=>c s) (λu _ ih s c=>u.aa4 k s λs=>ih s c) us
def Jf (P:Program)(E:Env)(nt k:Nat)(ops:List Oper){ρ:Type}:List Oper->St->List Tr->(St->List Tr->Option ρ)->Option ρ
 | [],s,l,c=>c s l
 |o::rest,s,l,c=>
  let go (s:St) (fp:List Fp):Option ρ:=
   (aop P E o s.heap.length).run s fp λus fp=>arb us λus=>aa4 k us s λs'=>adf (l++[⟨fp,us⟩]) λl=>Jf P E nt k ops rest s' l c
  let skip (s:St) (fp:List Fp):Option ρ:=aa4 k (dm o.dst YW) s λs'=>adf (l++[⟨fp,dm o.dst YW⟩]) λl=>Jf P E nt k ops rest s' l c
  match aRx o nt with
  |false=>none
  |true=>
  match o.guard with
  |none=>go s []
  |some (j,want)=>match LR ops j with
   |none=>none
   |some t=>match s.tmp t with
    |.r (.c (.f (.b x)))=>match x with
     |true=>awf s.tmps t (.r (.c (.f (.b true)))) λts=>match want with|true=>go {s with tmps:=ts} [.t t]|false=>skip {s with tmps:=ts} [.t t]
     |false=>awf s.tmps t (.r (.c (.f (.b false)))) λts=>match want with|true=>skip {s with tmps:=ts} [.t t]|false=>go {s with tmps:=ts} [.t t]
    |.tup []=>skip s [.t t]
    |_=>none
inductive AX where
 |nrm
 |ex (id:Nat)
 |ret
def idx (b:Nat):List Nat->Nat->Option Nat
 | [],_=>none
 |x::l,i=>match Nat.beq x b with
  |true=>some i
  |false=>idx b l (i+1)
def ah8 (H b:Nat)(m:List Nat):Nat×List Nat:=
 match Nat.ble H b with
 |true=>match idx b m 0 with
  |some i=>(H+i,m)
  |none=>(H+m.length,m++[b])
 |false=>(b,m)
def gcC (H:Nat)(c:CV)(m:List Nat):CV×List Nat:=
 match c with
 |.ptr b o n=>let x:=ah8 H b m;(.ptr x.1 o n,x.2)
 |.cl f b o n=>let x:=ah8 H b m;(.cl f x.1 o n,x.2)
 |.sl b o l z w=>let x:=ah8 H b m;(.sl x.1 o l z w,x.2)
 |c=>(c,m)
def E0 {α:Type}(g:α->List Nat->α×List Nat):List α->List Nat->List α×List Nat
 | [],m=>([],m)
 |a::l,m=>let x:=g a m;let y:=E0 g l x.2;(x.1::y.1,y.2)
def gcS (H:Nat)(s:Sg)(m:List Nat):Sg×List Nat:=
 match s with
 |.c c=>let x:=gcC H c m;(.c x.1,x.2)
 |s=>(s,m)
def gcR (H:Nat)(r:RV)(m:List Nat):RV×List Nat:=
 match r with
 |.c c=>let x:=gcC H c m;(.c x.1,x.2)
 |.agg cs=>let x:=E0 (gcS H) cs m;(.agg x.1,x.2)
def gcA (H:Nat)(a:AV)(m:List Nat):AV×List Nat:=
 match a with
 |.r r=>let x:=gcR H r m;(.r x.1,x.2)
 |.tup rs=>let x:=E0 (gcR H) rs m;(.tup x.1,x.2)
 |.fn f rs=>let x:=E0 (gcR H) rs m;(.fn f x.1,x.2)
 |.Tk=>(.Tk,m)
def gcB (H:Nat)(b:Option af)(m:List Nat):Option af×List Nat:=
 match b with
 |some cs=>let x:=E0 (gcS H) cs m;(some x.1,x.2)
 |none=>(none,m)
def gcN (H:Nat)(heap:List (Option af)):Nat->Nat->List Nat->List (Option af)->Option (List (Option af)×List Nat)
 |0,_,_,_=>none
 |fuel+1,i,m,acc=>match m[i]? with
  |none=>some (acc,m)
  |some b=>let x:=gcB H ((heap[b]?).getD none) m;gcN H heap fuel (i+1) x.2 (acc++[x.1])
def gcO (k:Nat)(d:List Nat)(H:Nat):List (Option af)->Nat->List Nat->List (Option af)×List Nat
 | [],_,m=>([],m)
 |b::l,j,m=>match Nat.blt j k&& !d.any (Nat.beq j) with
  |true=>let y:=gcO k d H l (j+1) m;(b::y.1,y.2)
  |false=>let x:=gcB H b m;let y:=gcO k d H l (j+1) x.2;(x.1::y.1,y.2)
def St.gc (k:Nat)(s:St)(H:Nat):Option St:=
 match Nat.ble H s.heap.length with
 |false=>none
 |true=>
 let x:=E0 (gcA H) s.tmps []
 let y:=gcO k s.cQ H (s.heap.take H) 0 x.2
 match gcN H s.heap 1000 0 y.2 [] with
 |some z=>some {s with tmps:=x.1,heap:=y.1++z.1}
 |none=>none
structure Hd where
 id:Nat
 aAm:List Nat
 nils:List (Nat×List CK)
structure Sm where
 id:Nat
 kk:Nat
 run:∀{ρ:Type},St->(AX->St->Option ρ)->Option ρ
structure Jn where
 hd:Hd
 sm:Sm
structure Hs where
 hd:List Hd
 sm:List Sm
 cQ:List Nat
 jn:List Jn
 rk:Option Hd
def Oo:Code->Option Nat
 |.region id _ _=>some id
 |.seq a _=>Oo a
 |.block _ a=>Oo a
 |.loop a=>Oo a
 |_=>none
def aEk (c:CV):CV:=
 match c with
 |.sl b o len z own=>match o with
  |.k c=>.sl b (.x c 0 z) len z own
  |o=>.sl b o len z own
 |c=>c
def aAn (g:CV->CV)(s:Sg):Sg:=
 match s with
 |.c v=>.c (g v)
 |s=>s
def mapA (g:CV->CV)(a:AV):AV:=
 match a with
 |.r (.c v)=>.r (.c (g v))
 |a=>a
def afL (g:CV->CV)(k:Nat)(d:List Nat):List (Option af)->Nat->List (Option af)
 | [],_=>[]
 |b::l,j=>(match Nat.blt j k&& !d.any (Nat.beq j) with
  |true=>b
  |false=>b.map λb=>b.map (aAn g))::afL g k d l (j+1)
def aH0 (b n x:Nat):Nat:=
 match Nat.beq x b with
 |true=>n
 |false=>x
def aH1 (b n:Nat)(c:CV):CV:=
 match c with
 |.ptr x o m=>.ptr (aH0 b n x) o m
 |.cl f x o m=>.cl f (aH0 b n x) o m
 |.sl x o l z w=>.sl (aH0 b n x) o l z w
 |c=>c
def aRy (c:CV):CV:=
 match c with
 |.sl b o len z own=>.sl b o (.s len.val) z own
 |c=>c
def aUm (c:CV):CV:=aRy (aEk c)
def aEl (s:Sg):Sg:=
 match s with
 |.c v=>.c (aUm v)
 |s=>s
def aAo (a:AV):AV:=
 match a with
 |.r (.c v)=>.r (.c (aUm v))
 |a=>a
def slC (c:CV)(l:List (Nat×Nat)):List (Nat×Nat):=
 match c with
 |.sl b _ _ z _=>(b,z)::l
 |_=>l
def aWp (s:Sg)(l:List (Nat×Nat)):List (Nat×Nat):=
 match s with
 |.c v=>slC v l
 |_=>l
def aWq (a:AV)(l:List (Nat×Nat)):List (Nat×Nat):=
 match a with
 |.r (.c v)=>slC v l
 |_=>l
def aWr (b:Option af)(l:List (Nat×Nat)):List (Nat×Nat):=
 match b with
 |some b=>b.foldr aWp l
 |none=>l
def sls (s:St):List (Nat×Nat):=s.tmps.foldr aWq (s.heap.foldr aWr [])
def aRz (j:Nat):List (Nat×Nat)->Option Nat
 | []=>none
 |p::l=>match Nat.beq p.1 j with
  |true=>some p.2
  |false=>aRz j l
def aAp (l:List (Nat×Nat))(j:Nat)(b:af):af:=
 match aRz j l with
 |some z=>toS (apt z (b.map aEl))
 |none=>b.map aEl
def ah9 (k:Nat)(d:List Nat)(sl:List (Nat×Nat)):List (Option af)->Nat->List (Option af)
 | [],_=>[]
 |b::l,j=>(match Nat.blt j k&& !d.any (Nat.beq j) with
  |true=>b
  |false=>b.map λb=>aAp sl j b)::ah9 k d sl l (j+1)
def aLv (k b:Nat)(s:St):St:=
 match s.bE b with
 |some bE=>match Nat.blt b k with
  |true=>{s with tmps:=s.tmps.map (mapA (aH1 b s.heap.length)),heap:=afL (aH1 b s.heap.length) k (mark k b s.cQ) (s.heap.set b none++[some bE]) 0,cQ:=mark k b s.cQ}
  |false=>s
 |none=>s
def aEm (k:Nat)(s:St)(p:Nat×List CK):St:=
 match p.2 with
 | []=>match p.1 with
  |0=>{s with tmps:=s.tmps.map (mapA aEk),heap:=afL aEk k s.cQ s.heap 0}
  |1=>{s with tmps:=s.tmps.map aAo,heap:=ah9 k s.cQ (sls s) s.heap 0}
  |b+2=>aLv k b s
 |_::_=>match s.tmp p.1 with
  |.r (.c .nils)=>{s with tmps:=s.tmps.set p.1 (.r (.c (.sl s.heap.length (.k 0) (.s 0) p.2.length true))),heap:=s.heap++[some [.a (.s 0) (p.2.map CK.mx)]]}
  |_=>s
def aM3 (id:Nat):List Hd->Option Hd
 | []=>none
 |h::l=>match Nat.beq h.id id with
  |true=>some h
  |false=>aM3 id l
def aM4 (id:Nat):List Sm->Option Sm
 | []=>none
 |h::l=>match Nat.beq h.id id with
  |true=>some h
  |false=>aM4 id l
def amW (hs:Hs)(a:Code):Option Sm:=
 match Oo a with
 |none=>none
 |some id=>aM4 id hs.sm
def St.YZ (k:Nat)(s:St)(h:Hd):Option St:=((h.nils.foldl (aEm k) {s with tmps:=h.aAm.foldl (λl t=>l.set t Tk) s.tmps}).gc k k)
def St.head (k:Nat)(s:St)(hs:Hs)(body:Code):Option St:=
 match Oo body with
 |none=>s.gc k k
 |some id=>match aM3 id hs.hd with
  |none=>s.gc k k
  |some h=>s.YZ k h
def aM5 (id:Nat):List Jn->Option Jn
 | []=>none
 |h::l=>match Nat.beq h.sm.id id with
  |true=>some h
  |false=>aM5 id l
def awc (hs:Hs)(b:Code):Option Jn:=
 match hs.jn with
 | []=>none
 |j::l=>match Oo b with
  |none=>none
  |some id=>aM5 id (j::l)
def Jb (hs:Hs):Code->List Code
 |.seq a b=>(match awc hs b with
  |some _=>[b]
  |none=>[])++(Jb hs a++Jb hs b)
 |.cond _ a b=>Jb hs a++Jb hs b
 |.block _ a=>Jb hs a
 |.loop a=>Jb hs a
 |_=>[]
def apw (id:Nat):Code->Option Code
 |.seq a b=>match(match Oo b with
   |some i=>Nat.beq i id
   |none=>false) with
  |true=>some b
  |false=>match apw id a with
   |some c=>some c
   |none=>apw id b
 |.cond _ a b=>match apw id a with
  |some c=>some c
  |none=>apw id b
 |.block _ a=>apw id a
 |.loop a=>apw id a
 |_=>none
def Xl (id:Nat):Code->Option Code
 |.seq a b=>match Xl id a with
  |some c=>some c
  |none=>Xl id b
 |.cond _ a b=>match Xl id a with
  |some c=>some c
  |none=>Xl id b
 |.block _ a=>Xl id a
 |.loop a=>match Oo a with
  |some j=>match Nat.beq j id with
   |true=>some a
   |false=>Xl id a
  |none=>Xl id a
 |_=>none
def Ja:Code->List Code
 |.seq a b=>Ja a++Ja b
 |.cond _ a b=>Ja a++Ja b
 |.block _ a=>Ja a
 |.loop a=>a::Ja a
 |_=>[]
def Xi (P:Program)(f:FuncId):Code:=((P.funcs[f]?).bind (·.body)).getD .skip
def Xh (P:Program)(f:FuncId)(id:Nat):Code:=(Xl id (Xi P f)).getD .skip
def ac6 (P:Program)(f:FuncId)(id:Nat):Code:=(apw id (Xi P f)).getD .skip
def tmpsOf (P:Program)(f:FuncId):Nat:=((P.funcs[f]?).map (·.ntmps)).getD 0
def iter {ρ:Type}(hd:St->Option St)(body:St->(AX->St->Option ρ)->Option ρ)(k:AX->St->Option ρ)(n:Nat):St->Option ρ:=
 Nat.rec (λ_=>none) (λ_ ih s=>body s λe s=>match e with
   |.nrm=>match hd s with
    |none=>none
    |some s=>uZ s ih
   |e=>k e s) n
def next {ρ:Type}(hd:St->Option St)(c:St->Option ρ)(k:AX->St->Option ρ):AX->St->Option ρ:=λe s=>match e with
 |.nrm=>match hd s with
  |none=>none
  |some s=>uZ s c
 |e=>k e s
def EG (P:Program)(E:Env)(hs:Hs)(nt kk:Nat)(lf:Nat){ρ:Type}:Code->St->(AX->St->Option ρ)->Option ρ
 |.skip,s,k=>k .nrm s
 |.region _ ops draw,s,k=>match draw with
  |false=>Jf P E nt kk ops.toList ops.toList s [] λs _=>k .nrm s
  |true=>Jf P E nt kk ops.toList ops.toList s [] λs l=>match On ops.toList 0&&Om (Je ops.toList []) l 0 with
   |true=>k .nrm s
   |false=>none
 |.seq a b,s,k=>EG P E hs nt kk lf a s λe s=>match e with
  |.nrm=>match awc hs b with
   |none=>EG P E hs nt kk lf b s k
   |some j=>match s.YZ kk j.hd with
    |none=>none
    |some s=>uZ s λs=>match Nat.beq j.sm.kk kk with
     |true=>j.sm.run s k
     |false=>none
  |e=>k e s
 |.cond (.tmp t) a b,s,k=>match s.tmp t with
  |.r (.c (.f (.b x)))=>match x with
   |true=>EG P E hs nt kk lf a s k
   |false=>EG P E hs nt kk lf b s k
  |_=>none
 |.block id a,s,k=>EG P E hs nt kk lf a s λe s=>match e with
  |.ex j=>match Nat.beq j id with
   |true=>k .nrm s
   |false=>k (.ex j) s
  |e=>k e s
 |.loop a,s,k=>match s.head kk hs a with
  |none=>none
  |some s=>uZ s λs=>match amW hs a with
   |some σ=>match Nat.beq σ.kk kk with
    |true=>σ.run s k
    |false=>none
   |none=>iter (λt=>t.head kk hs a) (EG P E hs nt kk lf a) k lf s
 |.exit id,s,k=>k (.ex id) s
 |.ret,s,k=>match hs.rk with
  |none=>k .ret s
  |some h=>match s.YZ kk h with
   |none=>none
   |some s=>uZ s λs=>k .ret s
 |_,_,_=>none
def aM6 (P:Program)(s:St):ResultVar->Option RV
 |.tmp t=>match s.tmp t with
  |.r v=>some v
  |_=>none
 |.cell a t=>match s.tmp a with
  |.r (.c (.ptr b o m))=>match aa2 P t,gJ P t,s.bE b,o with
   |some true,some n,some bE,.k c=>match Nat.ble n m with
    |true=>(ah2 bE c (.l 1) n).map .agg
    |false=>none
   |some false,some _,some bE,.k c=>match Nat.ble 1 m with
    |true=>match ah2 bE c (.l 1) 1 with
     |some [.c v]=>some (.c v)
     |_=>none
    |false=>none
   |_,_,_,_=>none
  |_=>none
def aup (P:Program)(s:St):List ResultVar->Option (List RV)
 | []=>some []
 |r::l=>match aM6 P s r,aup P s l with
  |some v,some vs=>some (v::vs)
  |_,_=>none
def one:List RV->AV
 | [v]=>.r v
 |vs=>.tup vs
def afM (s:List Nat):List (Option af)->Nat->List Ch
 | [],_=>[]
 |b::l,j=>(match s.any (Nat.beq j) with
  |false=>Ch.kU
  |true=>match b with
   |some b=>.set b
   |none=>.kill)::afM s l (j+1)
def aAq {α:Type}:List (Option α)->Option (List α)
 | []=>some []
 |some a::l=>(aAq l).map (a:: ·)
 |none::_=>none
def fin (P:Program)(fn:Func)(k:Nat)(e:AX)(s:St):Option m4:=
 match e with
 |.ex _=>none
 |_=>match aup P s fn.results.toList with
  |none=>none
  |some vs=>
   let x:=gcA k (one vs) []
   let y:=gcO k s.cQ k (s.heap.take k) 0 x.2
   match gcN k s.heap 1000 0 y.2 [] with
   |some z=>match aAq z.1 with
    |some news=>some {val:=x.1,vv:=afM s.cQ y.1 0,news}
    |none=>none
   |none=>none
def start (fn:Func)(args:List AV)(h:List af)(d:List Nat):St:=
 {tmps:=args++List.replicate (fn.ntmps-args.length) YW,heap:=h.map some,cQ:=d}
def den (P:Program)(E:Env)(hs:Hs)(lf:Nat)(f:FuncId)(args:List AV)(h:List af):Option m4:=
 match P.funcs[f]? with
 |none=>none
 |some fn=>match fn.body with
  |none=>none
  |some c=>match hs.cQ.all λb=>Nat.blt b h.length with
   |false=>none
   |true=>uZ (start fn args h hs.cQ) λs=>EG P E hs fn.ntmps h.length lf c s (fin P fn h.length)
end Go.Ab
