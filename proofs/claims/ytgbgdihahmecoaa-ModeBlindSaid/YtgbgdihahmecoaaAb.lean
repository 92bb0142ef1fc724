/-
  An abstract machine over local heaps: the definitions alone (what it computes). Its soundness against the model stands in the texts behind it.
-/
import Derived.Orders
import Derived.KernelRfl
import Derived.LoopN
namespace Go.Ab

/-- cells without pointers -/
inductive FV where
  | u
  | b (x : Bool)
  | i (k : IntKind) (n : Int)
  | s (x : ByteArray)

/-- one cell -/
inductive CV where
  | f (v : FV)
  | ptr (b o n : Nat)
  | nilp
  | sl (b o len esz : Nat) (own : Bool)
  | nils
  | nilf
  | nili

inductive RV where
  | c (v : CV)
  | agg (cs : List CV)

inductive AV where
  | r (v : RV)
  | tup (vs : List RV)
  | fn (f : Nat) (caps : List RV)
  | und

inductive Blk where
  | mix (cs : List CV)
  | fnb (n : Nat) (g : Nat → FV)

/-- nothing is known -/
def und : AV := .und
/-- what stands in a temporary that nothing was put into -/
def udf : AV := .tup []
def Blk.size : Blk → Nat
  | .mix cs => cs.length
  | .fnb n _ => n
def Blk.get : Blk → Nat → CV
  | .mix cs, j => cs.getD j (.f .u)
  | .fnb _ g, j => .f (g j)
def CV.fv : CV → FV
  | .f v => v
  | _ => .u
def CV.isF : CV → Bool
  | .f _ => true
  | _ => false
def RV.cells : RV → List CV
  | .c v => [v]
  | .agg cs => cs

structure St where
  tmps : List AV
  heap : List (Option Blk)
  dirt : List Nat

def St.blk (s : St) (b : Nat) : Option Blk := (s.heap[b]?).getD none
def St.tmp (s : St) (i : Nat) : AV := s.tmps.getD i udf

def splice {α : Type} (cs : List α) (lo : Nat) (vs : List α) : List α := cs.take lo ++ vs ++ cs.drop (lo + vs.length)
def Blk.rng (b : Blk) (lo n : Nat) : List CV :=
  match b with
  | .mix cs => (cs.drop lo).take n
  | .fnb _ g => (List.range n).map fun j => .f (g (lo + j))
/-- a part as a block of its own: of cells without pointers as a function -/
def Blk.part (b : Blk) (lo n : Nat) : Blk :=
  match b with
  | .mix cs =>
    let l := (cs.drop lo).take n
    match l.all CV.isF with
    | true => .fnb n fun j => (l.getD j (.f .u)).fv
    | false => .mix l
  | .fnb _ g => .fnb n fun j => g (lo + j)
/-- cells put into a block -/
def Blk.list : Blk → List CV
  | .mix cs => cs
  | .fnb n g => (List.range n).map fun j => .f (g j)
def Blk.put (b : Blk) (lo : Nat) (vs : List CV) : Blk :=
  match b with
  | .mix cs => .mix (splice cs lo vs)
  | .fnb n g => match vs.all CV.isF with
    | true => .fnb n fun j => match Nat.ble lo j && Nat.blt j (lo + vs.length) with | true => (vs.getD (j - lo) (.f .u)).fv | false => g j
    | false => .mix (splice ((List.range n).map fun j => .f (g j)) lo vs)

/-- what is read -/
inductive Fp where
  | t (i : Nat)
  | c (b lo n : Nat)
  | z (b : Nat)

/-- what is written -/
inductive Up where
  | t (i : Nat) (v : AV)
  | c (b lo : Nat) (vs : List CV)
  | new (b : Nat) (blk : Blk)
  | kill (b : Nat)

inductive Rd (α : Type) where
  | ret (a : α)
  | fail
  | tm (i : Nat) (k : AV → Rd α)
  | rng (b lo n : Nat) (k : List CV → Rd α)
  | vw (b lo n : Nat) (k : Blk → Rd α)
  | sz (b : Nat) (k : Nat → Rd α)
  | test (x : Bool) (k : Bool → Rd α)

def Rd.bind {α β : Type} : Rd α → (α → Rd β) → Rd β
  | .ret a, f => f a
  | .fail, _ => .fail
  | .tm i k, f => .tm i fun v => (k v).bind f
  | .rng b lo n k, f => .rng b lo n fun v => (k v).bind f
  | .vw b lo n k, f => .vw b lo n fun v => (k v).bind f
  | .sz b k, f => .sz b fun v => (k v).bind f
  | .test x k, f => .test x fun v => (k v).bind f

def ofO {α : Type} : Option α → Rd α
  | some a => .ret a
  | none => .fail
/-- it must be so -/
def must (x : Bool) : Rd Unit := .test x fun | true => .ret () | false => .fail

/-- a reading carried out: what is read is noted; a test parts -/
def Rd.run {α ρ : Type} : Rd α → St → List Fp → (α → List Fp → Option ρ) → Option ρ
  | .ret a, _, l, k => k a l
  | .fail, _, _, _ => none
  | .tm i m, s, l, k => (m (s.tmp i)).run s (.t i :: l) k
  | .rng b lo n m, s, l, k =>
    match s.blk b with
    | some blk => match Nat.ble (lo + n) blk.size with
      | true => (m (blk.rng lo n)).run s (.z b :: .c b lo n :: l) k
      | false => none
    | none => none
  | .vw b lo n m, s, l, k =>
    match s.blk b with
    | some blk => match Nat.ble (lo + n) blk.size with
      | true => (m (blk.part lo n)).run s (.z b :: .c b lo n :: l) k
      | false => none
    | none => none
  | .sz b m, s, l, k =>
    match s.blk b with
    | some blk => (m blk.size).run s (.z b :: l) k
    | none => none
  | .test x m, s, l, k =>
    match x with
    | true => (m true).run s l k
    | false => (m false).run s l k

/-! constants -/
def ofC : Value → Option CV
  | .bool b => some (.f (.b b))
  | .int k n => some (.f (.i k n))
  | .string s => some (.f (.s s))
  | .pointer none => some .nilp
  | .slice none 0 0 => some .nils
  | .nilFunc => some .nilf
  | .nilIface => some .nili
  | _ => none
def ofCs : List Value → Option (List CV)
  | [] => some []
  | v :: vs => match ofC v, ofCs vs with
    | some c, some cs => some (c :: cs)
    | _, _ => none
def ofR : Value → Option RV
  | .agg cs => (ofCs cs.toList).map .agg
  | v => (ofC v).map .c

/-! operands -/
def opd : Operand → Rd AV
  | .tmp t => .tm t .ret
  | .const v => (ofO (ofR v)).bind fun r => .ret (.r r)
  | .func f => .ret (.fn f [])
  | .global _ => .fail
def asR : AV → Rd RV
  | .r v => .ret v
  | _ => .fail
def asC : AV → Rd CV
  | .r (.c v) => .ret v
  | _ => .fail
def asI : AV → Rd (IntKind × Int)
  | .r (.c (.f (.i k n))) => .ret (k, n)
  | _ => .fail
def asB : AV → Rd Bool
  | .r (.c (.f (.b x))) => .ret x
  | _ => .fail
def asP : AV → Rd (Nat × Nat)
  | .r (.c (.ptr b o _)) => .ret (b, o)
  | _ => .fail
def opdR (x : Operand) : Rd RV := (opd x).bind asR
def opdC (x : Operand) : Rd CV := (opd x).bind asC
def opdI (x : Operand) : Rd (IntKind × Int) := (opd x).bind asI
def opdB (x : Operand) : Rd Bool := (opd x).bind asB
def opdP (x : Operand) : Rd (Nat × Nat) := (opd x).bind asP
def mapRd {α β : Type} (f : α → Rd β) : List α → Rd (List β)
  | [] => .ret []
  | a :: l => (f a).bind fun b => (mapRd f l).bind fun bs => .ret (b :: bs)

/-! types -/
def aggT (P : Program) (t : TypeId) : Option Bool :=
  match P.underlying t with
  | some (.struct _) | some (.array _ _) => some true
  | some _ => some false
  | none => none
def sizeT (P : Program) (t : TypeId) : Option Nat := (P.info? t).map (·.size)
def zeroT (P : Program) (t : TypeId) : Option RV := ((P.info? t).bind (·.zero)).bind ofR
def fieldT (P : Program) (t : TypeId) (i : Nat) : Option Field :=
  match P.underlying t with
  | some (.struct fs) => fs[i]?
  | _ => none

/-! a cell read at a type without parts: known to be of that type -/
def FV.isB : FV → Bool
  | .b _ => true
  | _ => false
def FV.toB : FV → Bool
  | .b x => x
  | _ => false
def FV.isI (k : IntKind) : FV → Bool
  | .i k' _ => decide (k' = k)
  | _ => false
def FV.toI : FV → Int
  | .i _ n => n
  | _ => 0
def FV.isS : FV → Bool
  | .s _ => true
  | _ => false
def FV.toS : FV → ByteArray
  | .s x => x
  | _ => .empty
def typC (P : Program) (t : TypeId) (c : CV) : Rd CV :=
  match P.underlying t, c with
  | some .bool, .f x => .test x.isB fun | true => .ret (.f (.b x.toB)) | false => .fail
  | some (.int k), .f x => .test (x.isI k) fun | true => .ret (.f (.i k x.toI)) | false => .fail
  | some .string, .f x => .test x.isS fun | true => .ret (.f (.s x.toS)) | false => .fail
  | _, c => .ret c
def typR (P : Program) (t : TypeId) (v : RV) : Rd RV :=
  match v with
  | .c c => (typC P t c).bind fun c => .ret (.c c)
  | v => .ret v
def valueU (P : Program) (t : TypeId) (b o : Nat) : Rd RV :=
  (ofO (aggT P t)).bind fun a => (ofO (sizeT P t)).bind fun n =>
    match a with
    | true => .rng b o n fun l => .ret (.agg l)
    | false => .rng b o 1 fun
      | [v] => .ret (.c v)
      | _ => .fail
def valueOf (P : Program) (t : TypeId) (b o : Nat) : Rd RV := (valueU P t b o).bind (typR P t)
/-- a part of cells at a type -/
def partU (P : Program) (t : TypeId) (cs : List CV) (o : Nat) : Rd RV :=
  (ofO (aggT P t)).bind fun a => (ofO (sizeT P t)).bind fun n =>
    match a with
    | true => (must (Nat.ble (o + n) cs.length)).bind fun _ => .ret (.agg ((cs.drop o).take n))
    | false => match cs[o]? with
      | some v => .ret (.c v)
      | none => .fail
def partOf (P : Program) (t : TypeId) (cs : List CV) (o : Nat) : Rd RV := (partU P t cs o).bind (typR P t)

/-! arithmetic -/
def bitsV (op : BinOp) (k : IntKind) (x y : Int) : Option Int :=
  let a := BitVec.ofInt k.bits x
  let b := BitVec.ofInt k.bits y
  match op with
  | .and => some (k.wrap (a &&& b).toNat)
  | .or => some (k.wrap (a ||| b).toNat)
  | .xor => some (k.wrap (a ^^^ b).toNat)
  | .andNot => some (k.wrap (a &&& ~~~b).toNat)
  | _ => none
def intV (op : BinOp) (k : IntKind) (x y : Int) : Rd FV :=
  match op with
  | .add => .ret (.i k (k.wrap (x + y)))
  | .sub => .ret (.i k (k.wrap (x - y)))
  | .mul => .ret (.i k (k.wrap (x * y)))
  | .quo => (must (!decide (y = 0))).bind fun _ => .ret (.i k (k.wrap (x.tdiv y)))
  | .rem => (must (!decide (y = 0))).bind fun _ => .ret (.i k (x.tmod y))
  | .eql => .ret (.b (x == y))
  | .neq => .ret (.b (x != y))
  | .lss => .ret (.b (decide (x < y)))
  | .leq => .ret (.b (decide (x ≤ y)))
  | .gtr => .ret (.b (decide (x > y)))
  | .geq => .ret (.b (decide (x ≥ y)))
  | .shl | .shr => .fail
  | op => (ofO (bitsV op k x y)).bind fun n => .ret (.i k n)
def shiftV (op : BinOp) (k : IntKind) (x y : Int) : Rd FV :=
  (must (!decide (y < 0))).bind fun _ =>
    match op with
    | .shl => .ret (.i k (k.wrap (x * 2 ^ (min y.toNat k.bits))))
    | .shr => .ret (.i k (x.fdiv (2 ^ (min y.toNat k.bits))))
    | _ => .fail
/-- two values told apart, part by part, as their type is made -/
def eqFs (P : Program) (rec_ : TypeId → RV → RV → Rd Bool) (xs ys : List CV) : List Field → Rd Bool
  | [] => .ret true
  | f :: fs => if f.name ≠ "_" then
      (partOf P f.type xs f.offset).bind fun a => (partOf P f.type ys f.offset).bind fun b => (rec_ f.type a b).bind fun r => (eqFs P rec_ xs ys fs).bind fun s => .ret (r && s)
    else eqFs P rec_ xs ys fs
def eqAs (P : Program) (rec_ : TypeId → RV → RV → Rd Bool) (e : TypeId) (z : Nat) (xs ys : List CV) : List Nat → Rd Bool
  | [] => .ret true
  | i :: l => (partOf P e xs (i * z)).bind fun a => (partOf P e ys (i * z)).bind fun b => (rec_ e a b).bind fun r => (eqAs P rec_ e z xs ys l).bind fun s => .ret (r && s)
def eqT (P : Program) : Nat → TypeId → RV → RV → Rd Bool
  | 0, _, _, _ => .fail
  | d + 1, t, x, y => match P.underlying t, x, y with
    | some .bool, .c (.f (.b a)), .c (.f (.b b)) => .ret (a == b)
    | some (.int _), .c (.f (.i k a)), .c (.f (.i k' b)) => if k = k' then .ret (a == b) else .fail
    | some .string, .c (.f (.s a)), .c (.f (.s b)) => .ret (a == b)
    | some (.pointer _), .c .nilp, .c .nilp => .ret true
    | some (.pointer _), .c (.ptr _ _ _), .c .nilp | some (.pointer _), .c .nilp, .c (.ptr _ _ _) => .ret false
    | some (.struct fs), .agg xs, .agg ys => match P.stoodInHeld t with
      | true => .fail
      | false => eqFs P (eqT P d) xs ys fs.toList
    | some (.array n e), .agg xs, .agg ys => (ofO (sizeT P e)).bind fun z => eqAs P (eqT P d) e z xs ys (List.range n)
    | _, _, _ => .fail
def eqV (P : Program) (t : TypeId) (x y : RV) : Rd Bool :=
  match x, y with
  | .agg _, .agg _ => match P.eqGuardType P.depth t with
    | true => .fail
    | false => eqT P 30 t x y
  | .c (.f (.i _ _)), _ | .c (.f (.s _)), _ | .c (.f .u), _ => .fail
  | _, _ => eqT P 30 t x y
def binV (P : Program) (op : BinOp) (t : TypeId) (x y : RV) : Rd RV :=
  match x, y with
  | .c (.f (.i k a)), .c (.f (.i k' b)) =>
    match op with
    | .shl | .shr => (shiftV op k a b).bind fun v => .ret (.c (.f v))
    | op => if k = k' then (intV op k a b).bind fun v => .ret (.c (.f v)) else .fail
  | x, y =>
    match op with
    | .eql => (eqV P t x y).bind fun r => .ret (.c (.f (.b r)))
    | .neq => (eqV P t x y).bind fun r => .ret (.c (.f (.b (!r))))
    | _ => .fail
def unV (op : UnOp) (x : RV) : Rd RV :=
  match op, x with
  | .neg, .c (.f (.i k n)) => .ret (.c (.f (.i k (k.wrap (0 - n)))))
  | .xor, .c (.f (.i k n)) => (ofO (bitsV .xor k (if k.signed then -1 else k.max) n)).bind fun r => .ret (.c (.f (.i k r)))
  | .not, .c (.f (.b x)) => .ret (.c (.f (.b (!x))))
  | _, _ => .fail
def convV (P : Program) (src dst : TypeId) (x : RV) : Rd RV :=
  match P.underlying src, P.underlying dst, x with
  | some _, some (.int k), .c (.f (.i _ n)) => .ret (.c (.f (.i k (k.wrap n))))
  | _, _, _ => .fail

/-! addresses -/
def inR (i : Int) (n : Nat) : Bool := decide (0 ≤ i) && decide (i < (n : Int))
def inRe (i : Int) (n : Nat) : Bool := decide (0 ≤ i) && decide (i ≤ (n : Int))
/-- an index into a small array: which one it is -/
def selL (i : Int) : Nat → Rd Nat
  | 0 => .ret 0
  | n + 1 => .test (i == ((n + 1 : Nat) : Int)) fun | true => .ret (n + 1) | false => selL i n
def sel (i : Int) (n : Nat) : Rd Nat := match Nat.ble n 8 with
  | true => selL i (n - 1)
  | false => .ret i.toNat
def fieldAtV (P : Program) (t : TypeId) (x : CV) (i : Nat) : Rd CV :=
  match x with
  | .ptr b o _ => (ofO (fieldT P t i)).bind fun f => (ofO (sizeT P f.type)).bind fun n =>
    (must (Nat.ble 1 n)).bind fun _ => .ret (.ptr b (o + f.offset) n)
  | _ => .fail
def indexAtV (P : Program) (t : TypeId) (x : CV) (i : Int) : Rd CV :=
  match P.underlying t, x with
  | some (.array n e), .ptr b o _ => (ofO (sizeT P e)).bind fun z =>
    (must (inR i n)).bind fun _ => (sel i n).bind fun j => .ret (.ptr b (o + j * z) z)
  | some (.slice e), .sl b o len _ _ => (ofO (sizeT P e)).bind fun z =>
    (must (inR i len)).bind fun _ => .ret (.ptr b (o + i.toNat * z) z)
  | _, _ => .fail
def optI (x : Option Operand) : Rd (Option Int) :=
  match x with
  | none => .ret none
  | some x => (opdI x).bind fun i => .ret (some i.2)
/-- low and high of a slice expression, up to n -/
def bnds (lo hi : Option Int) (n : Nat) : Rd (Nat × Nat) :=
  (match hi with
   | none => Rd.ret n
   | some h => (must (inRe h n)).bind fun _ => .ret h.toNat).bind fun h =>
  (match lo with
   | none => Rd.ret 0
   | some l => (must (inRe l h)).bind fun _ => .ret l.toNat).bind fun l => .ret (l, h)
def sliceV (P : Program) (t : TypeId) (x : CV) (lo hi : Option Int) : Rd CV :=
  match P.underlying t, x with
  | some (.array n e), .ptr b o _ => (ofO (sizeT P e)).bind fun z =>
    (bnds lo hi n).bind fun lh => .ret (.sl b (o + lh.1 * z) (lh.2 - lh.1) z false)
  | some (.slice e), .sl b o len z own => (ofO (sizeT P e)).bind fun z' => (must (Nat.beq z z')).bind fun _ =>
    (bnds lo hi len).bind fun lh => .ret (.sl b (o + lh.1 * z) (lh.2 - lh.1) z (own && hi.isNone))
  | some (.slice e), .nils => (ofO (sizeT P e)).bind fun _ => (bnds lo hi 0).bind fun _ => .ret .nils
  | _, _ => .fail

/-! building -/
def placesOf (P : Program) (t : TypeId) : Option (Nat → Option (Nat × Nat)) :=
  match P.underlying t with
  | some (.struct fs) => (fs.toList.mapM fun f => (P.info? f.type).map fun i => (f.offset, i.size)).map fun l i => l[i]?
  | some (.array _ e) => (sizeT P e).map fun n i => some (i * n, n)
  | _ => none
def fillV (pl : Nat → Option (Nat × Nat)) : List CV → List (Nat × RV) → Option (List CV)
  | cs, [] => some cs
  | cs, (i, v) :: rest => match pl i with
    | none => none
    | some (o, n) => match Nat.beq v.cells.length n && Nat.ble (o + n) cs.length with
      | true => fillV pl (splice cs o v.cells) rest
      | false => none
def rep {α : Type} : Nat → List α → List α
  | 0, _ => []
  | n + 1, l => l ++ rep n l

/-! results of calls -/
inductive Ch where
  | keep
  | set (b : Blk)
  | kill
structure Res where
  val : AV
  chg : List Ch
  news : List Blk
inductive T where
  | leaf (r : Res)
  | fail
  | test (x : Bool) (a b : T)
def T.eval : T → Option Res
  | .leaf r => some r
  | .fail => none
  | .test x a b => match x with
    | true => a.eval
    | false => b.eval
def T.rd : T → Rd Res
  | .leaf r => .ret r
  | .fail => .fail
  | .test x a b => .test x fun | true => a.rd | false => b.rd
abbrev Sem1 := List AV → List Blk → T
abbrev Env := Nat → Option Sem1

/-! a call's own heap: views of what is handed in -/
structure Vw where
  b : Nat
  o : Nat
  n : Nat
  sl : Bool
  own : Bool
def findV (b o n : Nat) : List Vw → Nat → Option (Nat × Nat × Bool)
  | [], _ => none
  | v :: vs, i => match Nat.beq v.b b && (Nat.ble v.o o && Nat.ble (o + n) (v.o + v.n)) with
    | true => some (i, o - v.o, v.own)
    | false => findV b o n vs (i + 1)
def apartV (b o n : Nat) (vs : List Vw) : Bool :=
  vs.all fun v => !Nat.beq v.b b || (Nat.ble (o + n) v.o || Nat.ble (v.o + v.n) o)
def locC (c : CV) (vs : List Vw) : Rd (CV × List Vw) :=
  match c with
  | .ptr b o n => match findV b o n vs 0 with
    | some (i, d, _) => .ret (.ptr i d n, vs)
    | none => (must (apartV b o n vs)).bind fun _ => .ret (.ptr vs.length 0 n, vs ++ [⟨b, o, n, false, false⟩])
  | .sl b o len z own => match findV b o (len * z) vs 0 with
    | some (i, d, ow) => .ret (.sl i d len z (own && ow), vs)
    | none => (must (apartV b o (len * z) vs)).bind fun _ =>
      match own with
      | false => .ret (.sl vs.length 0 len z false, vs ++ [⟨b, o, len * z, true, false⟩])
      | true => .sz b fun n => .test (Nat.beq (o + len * z) n && vs.all fun v => !Nat.beq v.b b || !v.own) fun ow => .ret (.sl vs.length 0 len z ow, vs ++ [⟨b, o, len * z, true, ow⟩])
  | c => .ret (c, vs)
def locCs : List CV → List Vw → Rd (List CV × List Vw)
  | [], vs => .ret ([], vs)
  | c :: cs, vs => (locC c vs).bind fun x => (locCs cs x.2).bind fun y => .ret (x.1 :: y.1, y.2)
def locR (r : RV) (vs : List Vw) : Rd (RV × List Vw) :=
  match r with
  | .c c => (locC c vs).bind fun x => .ret (.c x.1, x.2)
  | .agg cs => (locCs cs vs).bind fun x => .ret (.agg x.1, x.2)
def locRs : List RV → List Vw → Rd (List RV × List Vw)
  | [], vs => .ret ([], vs)
  | c :: cs, vs => (locR c vs).bind fun x => (locRs cs x.2).bind fun y => .ret (x.1 :: y.1, y.2)
def locA (a : AV) (vs : List Vw) : Rd (AV × List Vw) :=
  match a with
  | .r r => (locR r vs).bind fun x => .ret (.r x.1, x.2)
  | .tup rs => (locRs rs vs).bind fun x => .ret (.tup x.1, x.2)
  | .fn f rs => (locRs rs vs).bind fun x => .ret (.fn f x.1, x.2)
  | .und => .ret (.und, vs)
def locAs : List AV → List Vw → Rd (List AV × List Vw)
  | [], vs => .ret ([], vs)
  | c :: cs, vs => (locA c vs).bind fun x => (locAs cs x.2).bind fun y => .ret (x.1 :: y.1, y.2)
/-- the views' contents, one by one; what they point to are views too -/
def locH : Nat → Nat → List Vw → List Blk → Rd (List Blk × List Vw)
  | 0, _, _, _ => .fail
  | fuel + 1, i, vs, acc => match vs[i]? with
    | none => .ret (acc, vs)
    | some v => match v.sl with
      | true => .vw v.b v.o v.n fun
        | .fnb n g => locH fuel (i + 1) vs (acc ++ [.fnb n g])
        | .mix cs => (locCs cs vs).bind fun x => locH fuel (i + 1) x.2 (acc ++ [.mix x.1])
      | false => .rng v.b v.o v.n fun cs => (locCs cs vs).bind fun x => locH fuel (i + 1) x.2 (acc ++ [.mix x.1])

/-! back again -/
def bckC (vs : List Vw) (nid : Nat) : CV → CV
  | .ptr j d n => match vs[j]? with
    | some v => .ptr v.b (v.o + d) n
    | none => .ptr (nid + (j - vs.length)) d n
  | .sl j d len z own => match vs[j]? with
    | some v => .sl v.b (v.o + d) len z (own && v.own)
    | none => .sl (nid + (j - vs.length)) d len z own
  | c => c
def bckR (vs : List Vw) (nid : Nat) : RV → RV
  | .c c => .c (bckC vs nid c)
  | .agg cs => .agg (cs.map (bckC vs nid))
def bckA (vs : List Vw) (nid : Nat) : AV → AV
  | .r r => .r (bckR vs nid r)
  | .tup rs => .tup (rs.map (bckR vs nid))
  | .fn f rs => .fn f (rs.map (bckR vs nid))
  | .und => .und
def bckB (vs : List Vw) (nid : Nat) : Blk → Blk
  | .mix cs => .mix (cs.map (bckC vs nid))
  | .fnb n g => .fnb n g
def newsU (vs : List Vw) (nid : Nat) : List Blk → Nat → List Up
  | [], _ => []
  | b :: bs, j => .new (nid + j) (bckB vs nid b) :: newsU vs nid bs (j + 1)
def setsU (all : List Vw) (nid : Nat) : List Vw → List Ch → Option (List Up)
  | [], [] => some []
  | _ :: vs, .keep :: cs => setsU all nid vs cs
  | v :: vs, .set b :: cs => match Nat.beq b.size v.n with
    | true => (setsU all nid vs cs).map fun l => .c v.b v.o ((bckB all nid b).list) :: l
    | false => none
  | _ :: vs, .kill :: cs => setsU all nid vs cs
  | _, _ => none
def killsU : List Vw → List Ch → List Up
  | v :: vs, .kill :: cs => .kill v.b :: killsU vs cs
  | _ :: vs, _ :: cs => killsU vs cs
  | _, _ => []

def dstU (dst : Option Tmp) (v : AV) : List Up :=
  match dst with
  | some d => [.t d v]
  | none => []
def callV (E : Env) (f : Nat) (args : List AV) (dst : Option Tmp) (nid : Nat) : Rd (List Up) :=
  (locAs args []).bind fun x => (locH 1000 0 x.2 []).bind fun y =>
    match E f with
    | none => .fail
    | some F => (F x.1 y.1).rd.bind fun r =>
      (ofO (setsU y.2 nid y.2 r.chg)).bind fun us =>
        .ret (dstU dst (bckA y.2 nid r.val) ++ (us ++ (killsU y.2 r.chg ++ newsU y.2 nid r.news 0)))

/-! append, copy, len, min, max -/
def lenV : CV → Rd Nat
  | .sl _ _ n _ _ => .ret n
  | .nils => .ret 0
  | .f (.s x) => .ret x.size
  | _ => .fail
def slB (z : Nat) : CV → Rd (Nat × Blk)
  | .sl b o n z' _ => (must (Nat.beq z z')).bind fun _ => .vw b o (n * z) fun k => .ret (n, k)
  | .nils => .ret (0, .mix [])
  | _ => .fail
def Blk.app : Blk → Blk → Blk
  | .mix a, .mix b => .mix (a ++ b)
  | a, b => .fnb (a.size + b.size) fun j => match Nat.blt j a.size with | true => (a.get j).fv | false => (b.get (j - a.size)).fv
def isFB : Blk → Bool
  | .fnb _ _ => true
  | .mix cs => cs.all CV.isF
def appOk : Blk → Blk → Bool
  | .mix _, .mix _ => true
  | a, b => isFB a && isFB b
def appendV (P : Program) (t : TypeId) (s x : CV) (dst : Option Tmp) (nid : Nat) : Rd (List Up) :=
  match P.underlying t with
  | some (.slice e) => (ofO (sizeT P e)).bind fun z => (ofO ((P.info? e).map (·.bytes))).bind fun by_ => (ofO (zeroT P e)).bind fun zv =>
    (must (Nat.ble 1 z && (Nat.ble 1 by_ && Nat.beq zv.cells.length z))).bind fun _ =>
    (slB z x).bind fun xb =>
    match s with
    | .nils => (must (Nat.ble (xb.1 * by_) 140737488355328)).bind fun _ =>
      .ret (dstU dst (.r (.c (.sl nid 0 xb.1 z true))) ++ [.new nid xb.2])
    | .sl b o n z' true => (must (Nat.beq z z')).bind fun _ => (must (Nat.ble ((n + xb.1) * by_) 140737488355328)).bind fun _ =>
      .sz b fun q => (must (Nat.beq (o + n * z) q)).bind fun _ =>
      .vw b o (n * z) fun sb => (must (appOk sb xb.2)).bind fun _ =>
        (must (match x with | .sl b' _ _ _ _ => !Nat.beq b b' | _ => true)).bind fun _ =>
        .ret (dstU dst (.r (.c (.sl nid 0 (n + xb.1) z true))) ++ [.kill b, .new nid (sb.app xb.2)])
    | _ => .fail
  | _ => .fail
def copyV (P : Program) (t : TypeId) (d x : CV) (dst : Option Tmp) : Rd (List Up) :=
  match P.underlying t with
  | some (.slice e) => (ofO (sizeT P e)).bind fun z =>
    match d, x with
    | .sl b o n z1 _, .sl b' o' n' z2 _ => (must (Nat.beq z z1 && Nat.beq z z2)).bind fun _ =>
      (must (!Nat.beq b b')).bind fun _ =>
      .rng b' o' (Nat.min n' n * z) fun l => .sz b fun q => (must (Nat.ble (o + Nat.min n' n * z) q)).bind fun _ =>
        .ret (dstU dst (.r (.c (.f (.i .i64 ((Nat.min n' n : Nat) : Int))))) ++ [.c b o l])
    | _, _ => .fail
  | _ => .fail
def minV : FV → FV → Rd FV
  | .i k x, .i k' y => if k = k' then .ret (.i k (if y < x then y else x)) else .fail
  | _, _ => .fail
def maxV : FV → FV → Rd FV
  | .i k x, .i k' y => if k = k' then .ret (.i k (if y > x then y else x)) else .fail
  | _, _ => .fail
def foldRd {α β : Type} (f : β → α → Rd β) : β → List α → Rd β
  | b, [] => .ret b
  | b, a :: l => (f b a).bind fun b' => foldRd f b' l
def asF : AV → Rd FV
  | .r (.c (.f v)) => .ret v
  | _ => .fail
def biV (P : Program) (bi : Builtin) (ts : Array TypeId) (args : List AV) (dst : Option Tmp) (nid : Nat) : Rd (List Up) :=
  match bi, args with
  | .len, [x] => (ofO ((ts[0]?).bind P.underlying)).bind fun
    | .array n _ => .ret (dstU dst (.r (.c (.f (.i .i64 (n : Int))))))
    | .slice _ => (asC x).bind fun c => (match c with | .f _ => Rd.fail | c => lenV c).bind fun n => .ret (dstU dst (.r (.c (.f (.i .i64 (n : Int))))))
    | .string => (asC x).bind fun c => (match c with | .f (.s x) => Rd.ret x.size | _ => Rd.fail).bind fun n => .ret (dstU dst (.r (.c (.f (.i .i64 (n : Int))))))
    | _ => .fail
  | .append, [s, x] => (ofO (ts[0]?)).bind fun t => (must (match ts.toList with | [t1, t2] => Nat.beq t1 t2 | _ => false)).bind fun _ =>
    (asC s).bind fun s => (asC x).bind fun x => appendV P t s x dst nid
  | .copy, [d, x] => (ofO (ts[0]?)).bind fun t => (asC d).bind fun d => (asC x).bind fun x => copyV P t d x dst
  | .min, x :: l => (asF x).bind fun x => (mapRd asF l).bind fun l => (foldRd minV x l).bind fun v => .ret (dstU dst (.r (.c (.f v))))
  | .max, x :: l => (asF x).bind fun x => (mapRd asF l).bind fun l => (foldRd maxV x l).bind fun v => .ret (dstU dst (.r (.c (.f v))))
  | _, _ => .fail

def isFn : AV → Rd (Nat × List RV)
  | .fn f caps => .ret (f, caps)
  | _ => .fail

def newU (dst : Option Tmp) (nid n : Nat) (cs : List CV) : List Up := dstU dst (.r (.c (.ptr nid 0 n))) ++ [.new nid (.mix cs)]
/-- one operation; new blocks are numbered from 'nid' on -/
def aop (P : Program) (E : Env) (o : Oper) (nid : Nat) : Rd (List Up) :=
  let val (m : Rd RV) : Rd (List Up) := m.bind fun v => .ret (dstU o.dst (.r v))
  let cel (m : Rd CV) : Rd (List Up) := m.bind fun v => .ret (dstU o.dst (.r (.c v)))
  match o.op with
  | .move x | .assign x => (opd x).bind fun v => .ret (dstU o.dst v)
  | .pick c a b => (opdB c).bind fun x => .test x fun
    | true => (opd a).bind fun v => .ret (dstU o.dst v)
    | false => (opd b).bind fun v => .ret (dstU o.dst v)
  | .alloc e => (ofO (zeroT P e)).bind fun z => .ret (newU o.dst nid z.cells.length z.cells)
  | .box _ x => (opdR x).bind fun v => .ret (newU o.dst nid v.cells.length v.cells)
  | .build t ps => (ofO (zeroT P t)).bind fun z => (mapRd (fun p => (opdR p.2).bind fun v => .ret (p.1, v)) ps.toList).bind fun l =>
    (ofO (placesOf P t)).bind fun pl => (ofO (fillV pl z.cells l)).bind fun cs => .ret (dstU o.dst (.r (.agg cs)))
  | .buildSlice t n ps => match P.underlying t with
    | some (.slice e) => (ofO (zeroT P e)).bind fun z => (ofO (sizeT P e)).bind fun q =>
      (must (Nat.ble 1 q && Nat.ble (n * q) 16777216)).bind fun _ =>
      (mapRd (fun p => (opdR p.2).bind fun v => .ret (p.1, v)) ps.toList).bind fun l =>
      (must (Nat.beq z.cells.length q)).bind fun _ => (ofO (fillV (fun i => some (i * q, q)) (rep n z.cells) l)).bind fun cs => .ret (dstU o.dst (.r (.c (.sl nid 0 n q true))) ++ [.new nid (.mix cs)])
    | _ => .fail
  | .load t a => (opdP a).bind fun p => val (valueOf P t p.1 p.2)
  | .store t a x => (opdP a).bind fun p => (opdR x).bind fun v => (ofO (sizeT P t)).bind fun n =>
    (must (Nat.beq v.cells.length n)).bind fun _ => .sz p.1 fun q => (must (Nat.ble (p.2 + n) q)).bind fun _ =>
    .ret (dstU o.dst udf ++ [.c p.1 p.2 v.cells])
  | .nilCheck x => (opdC x).bind fun
    | .ptr b q n => .ret (dstU o.dst (.r (.c (.ptr b q n))))
    | _ => .fail
  | .binOp op t x y _ => (opdR x).bind fun a => (opdR y).bind fun b => val (binV P op t a b)
  | .unOp op _ x => (opdR x).bind fun a => val (unV op a)
  | .convert s d x => (opdR x).bind fun a => val (convV P s d a)
  | .sliceToArrayPointer t x => (opdC x).bind fun c => match P.underlying t, c with
    | some (.array n _), .sl b q len z _ => (must (Nat.ble 1 n && Nat.ble n len)).bind fun _ => cel (.ret (.ptr b q (n * z)))
    | _, _ => .fail
  | .makeFunc (.func f) fs caps => match fs.toList with
    | [] => (mapRd opdR caps.toList).bind fun l => .ret (dstU o.dst (.fn f l))
    | _ => .fail
  | .slice t x lo hi none => (opdC x).bind fun c => (optI lo).bind fun lo => (optI hi).bind fun hi => cel (sliceV P t c lo hi)
  | .fieldAddr t x i => (opdC x).bind fun c => cel (fieldAtV P t c i)
  | .field t x i => (opdR x).bind fun
    | .agg cs => (ofO (fieldT P t i)).bind fun f => val (partOf P f.type cs f.offset)
    | _ => .fail
  | .indexAddr t x i => (opdC x).bind fun c => (opdI i).bind fun i => cel (indexAtV P t c i.2)
  | .index t x i => (opdR x).bind fun v => (opdI i).bind fun i => match P.underlying t, v with
    | some (.array n e), .agg cs => (ofO (sizeT P e)).bind fun z => (must (inR i.2 n)).bind fun _ => (sel i.2 n).bind fun j => val (partOf P e cs (j * z))
    | _, _ => .fail
  | .extract x i => (opd x).bind fun
    | .tup vs => (ofO (vs[i]?)).bind fun v => .ret (dstU o.dst (.r v))
    | _ => .fail
  | .call c => (mapRd opd c.args.toList).bind fun args => match c.callee with
    | .builtin b => biV P b c.argTypes args o.dst nid
    | .value f => (opd f).bind fun f => (isFn f).bind fun fc => callV E fc.1 (args ++ fc.2.map .r) o.dst nid
    | .invoke _ _ => .fail
  | _ => .fail

/-! carrying it out -/
def mark (k : Nat) (b : Nat) (d : List Nat) : List Nat :=
  match Nat.blt b k && !d.any (Nat.beq b) with
  | true => b :: d
  | false => d
def Up.app (k : Nat) (s : St) : Up → St
  | .t i v => { s with tmps := s.tmps.set i v }
  | .c b lo vs => match s.blk b with
    | some blk => { s with heap := s.heap.set b (some (blk.put lo vs)), dirt := mark k b s.dirt }
    | none => s
  | .new _ blk => { s with heap := s.heap ++ [some blk] }
  | .kill b => { s with heap := s.heap.set b none, dirt := mark k b s.dirt }

def Up.ok (s : St) : Up → Bool
  | .t i _ => Nat.blt i s.tmps.length
  | .c b lo vs => match s.blk b with
    | some blk => Nat.ble (lo + vs.length) blk.size
    | none => false
  | .new b _ => Nat.beq b s.heap.length
  | .kill b => Nat.blt b s.heap.length
def appAll (k : Nat) : List Up → St → Option St
  | [], s => some s
  | u :: us, s => match u.ok s with
    | true => appAll k us (u.app k s)
    | false => none
def mstep (acc : List Nat) (m : Nat) (e : Edge) : Nat := match Region.binds .any e with
  | true => (m ||| 2 ^ e.on) ||| acc.getD e.on 0
  | false => m
def mask (acc : List Nat) (o : Oper) : Nat := o.after.toList.foldl (mstep acc) 0
/-- the operations that come before each one -/
def masks : List Oper → List Nat → List Nat
  | [], acc => acc
  | o :: l, acc => masks l (acc ++ [mask acc o])
def ovl (lo n lo' n' : Nat) : Bool := Nat.blt lo (lo' + n') && Nat.blt lo' (lo + n)
def Fp.hits : Fp → Up → Bool
  | .t i, .t j _ => Nat.beq i j
  | .c b lo n, .c b' lo' vs => Nat.beq b b' && ovl lo n lo' vs.length
  | .c b _ _, .new b' _ | .c b _ _, .kill b' | .z b, .new b' _ | .z b, .kill b' => Nat.beq b b'
  | _, _ => false
def Up.hits : Up → Up → Bool
  | .t i _, .t j _ => Nat.beq i j
  | .c b lo vs, .c b' lo' vs' => Nat.beq b b' && ovl lo vs.length lo' vs'.length
  | .c b _ _, .new b' _ | .c b _ _, .kill b' | .new b _, .c b' _ _ | .kill b, .c b' _ _ | .new b _, .new b' _ | .new b _, .kill b' | .kill b, .new b' _ | .kill b, .kill b' => Nat.beq b b'
  | _, _ => false
structure Tr where
  fp : List Fp
  us : List Up
def Tr.clash (x y : Tr) : Bool :=
  x.us.any (fun u => y.fp.any (·.hits u) || y.us.any (·.hits u)) || y.us.any (fun u => x.fp.any (·.hits u))
/-- the last against all before it -/
def okPairs (ms : List Nat) : List Tr → Nat → Bool
  | [], _ => true
  | x :: rest, j => (rest.zipIdx.all fun p => Nat.testBit (ms.getD (j + 1 + p.2) 0) j || !x.clash p.1) && okPairs ms rest (j + 1)

/-- what binds an operation stands ahead of it in the text -/
def edgesOk : List Oper → Nat → Bool
  | [], _ => true
  | o :: l, i => (o.after.toList.all fun e => !Region.binds .any e || Nat.blt e.on i) && edgesOk l (i + 1)
def dstOk (o : Oper) (s : St) : Bool :=
  match o.dst with
  | none => true
  | some d => Nat.blt d s.tmps.length
def guardSlot (ops : List Oper) (j : Nat) : Option Tmp := (ops[j]?).bind (·.dst)
/-! what has been reckoned is written out before it is used: it says the same -/
def forceL {α ρ : Type} : List α → (List α → ρ) → ρ
  | [], k => k []
  | a :: l, k => forceL l fun l => k (a :: l)
def forceV {ρ : Type} (v : AV) (k : AV → ρ) : ρ :=
  match v with
  | .r (.c c) => match c with
    | .f v => k (.r (.c (.f v)))
    | .ptr b o n => k (.r (.c (.ptr b o n)))
    | .nilp => k (.r (.c .nilp))
    | .sl b o l z w => k (.r (.c (.sl b o l z w)))
    | .nils => k (.r (.c .nils))
    | .nilf => k (.r (.c .nilf))
    | .nili => k (.r (.c .nili))
  | .r (.agg cs) => forceL cs fun cs => k (.r (.agg cs))
  | .tup rs => forceL rs fun rs => k (.tup rs)
  | .fn f rs => forceL rs fun rs => k (.fn f rs)
  | .und => k .und
def forceB {ρ : Type} (b : Blk) (k : Blk → ρ) : ρ :=
  match b with
  | .mix cs => forceL cs fun cs => k (.mix cs)
  | .fnb n g => k (.fnb n g)
def forceU {ρ : Type} (u : Up) (k : Up → ρ) : ρ :=
  match u with
  | .t i v => forceV v fun v => k (.t i v)
  | .c b lo vs => forceL vs fun vs => k (.c b lo vs)
  | .new b blk => forceB blk fun blk => k (.new b blk)
  | .kill b => k (.kill b)
def forceUs {ρ : Type} : List Up → (List Up → ρ) → ρ
  | [], k => k []
  | u :: us, k => forceU u fun u => forceUs us fun us => k (u :: us)
def forceVs {ρ : Type} : List AV → (List AV → ρ) → ρ
  | [], k => k []
  | u :: us, k => forceV u fun u => forceVs us fun us => k (u :: us)
def forceBs {ρ : Type} : List (Option Blk) → (List (Option Blk) → ρ) → ρ
  | [], k => k []
  | some u :: us, k => forceB u fun u => forceBs us fun us => k (some u :: us)
  | none :: us, k => forceBs us fun us => k (none :: us)
def forceAt {ρ : Type} : List Up → St → (St → ρ) → ρ
  | [], s, k => k s
  | .c b _ _ :: us, s, k => match s.blk b with
    | some blk => forceB blk fun blk => forceAt us { s with heap := s.heap.set b (some blk) } k
    | none => forceAt us s k
  | _ :: us, s, k => forceAt us s k
def forceS {ρ : Type} (s : St) (k : St → ρ) : ρ :=
  match s with
  | ⟨t, h, d⟩ => forceL t fun t => forceL h fun h => forceL d fun d => k ⟨t, h, d⟩
def forceAll {ρ : Type} (s : St) (k : St → ρ) : ρ :=
  match s with
  | ⟨t, h, d⟩ => forceVs t fun t => forceBs h fun h => forceL d fun d => k ⟨t, h, d⟩
/-- the operations of a region, in the order of the text -/
def runOps (P : Program) (E : Env) (k : Nat) (ops : List Oper) {ρ : Type} : List Oper → St → List Tr → (St → List Tr → Option ρ) → Option ρ
  | [], s, l, c => c s l
  | o :: rest, s, l, c =>
    let go (s : St) (fp : List Fp) : Option ρ :=
      (aop P E o s.heap.length).run s fp fun us fp => forceUs us fun us => match appAll k us s with
        | some s' => forceAt us s' fun s' => forceS s' fun s' => forceL (l ++ [⟨fp, us⟩]) fun l => runOps P E k ops rest s' l c
        | none => none
    let skip (s : St) (fp : List Fp) : Option ρ := match appAll k (dstU o.dst udf) s with
      | some s' => forceS s' fun s' => forceL (l ++ [⟨fp, dstU o.dst udf⟩]) fun l => runOps P E k ops rest s' l c
      | none => none
    match dstOk o s with
    | false => none
    | true =>
    match o.guard with
    | none => go s []
    | some (j, want) => match guardSlot ops j with
      | none => none
      | some t => match s.tmp t with
        | .r (.c (.f (.b x))) => match x with
          | true => let s := { s with tmps := s.tmps.set t (.r (.c (.f (.b true)))) }
            match want with | true => go s [.t t] | false => skip s [.t t]
          | false => let s := { s with tmps := s.tmps.set t (.r (.c (.f (.b false)))) }
            match want with | true => skip s [.t t] | false => go s [.t t]
        | .tup [] => skip s [.t t]
        | _ => none

inductive AX where
  | nrm
  | ex (id : Nat)
  | ret

/-! what is no more reached is dropped at a loop's head and at the end; the rest is numbered anew -/
def idx (b : Nat) : List Nat → Nat → Option Nat
  | [], _ => none
  | x :: l, i => match Nat.beq x b with
    | true => some i
    | false => idx b l (i + 1)
def renId (H b : Nat) (m : List Nat) : Nat × List Nat :=
  match Nat.ble H b with
  | true => match idx b m 0 with
    | some i => (H + i, m)
    | none => (H + m.length, m ++ [b])
  | false => (b, m)
def gcC (H : Nat) (c : CV) (m : List Nat) : CV × List Nat :=
  match c with
  | .ptr b o n => let x := renId H b m; (.ptr x.1 o n, x.2)
  | .sl b o l z w => let x := renId H b m; (.sl x.1 o l z w, x.2)
  | c => (c, m)
def gcL {α : Type} (g : α → List Nat → α × List Nat) : List α → List Nat → List α × List Nat
  | [], m => ([], m)
  | a :: l, m => let x := g a m; let y := gcL g l x.2; (x.1 :: y.1, y.2)
def gcR (H : Nat) (r : RV) (m : List Nat) : RV × List Nat :=
  match r with
  | .c c => let x := gcC H c m; (.c x.1, x.2)
  | .agg cs => let x := gcL (gcC H) cs m; (.agg x.1, x.2)
def gcA (H : Nat) (a : AV) (m : List Nat) : AV × List Nat :=
  match a with
  | .r r => let x := gcR H r m; (.r x.1, x.2)
  | .tup rs => let x := gcL (gcR H) rs m; (.tup x.1, x.2)
  | .fn f rs => let x := gcL (gcR H) rs m; (.fn f x.1, x.2)
  | .und => (.und, m)
def gcB (H : Nat) (b : Option Blk) (m : List Nat) : Option Blk × List Nat :=
  match b with
  | some (.mix cs) => let x := gcL (gcC H) cs m; (some (.mix x.1), x.2)
  | b => (b, m)
def gcN (H : Nat) (heap : List (Option Blk)) : Nat → Nat → List Nat → List (Option Blk) → Option (List (Option Blk) × List Nat)
  | 0, _, _, _ => none
  | fuel + 1, i, m, acc => match m[i]? with
    | none => some (acc, m)
    | some b => let x := gcB H ((heap[b]?).getD none) m; gcN H heap fuel (i + 1) x.2 (acc ++ [x.1])
/-- the blocks that stay: one that came in and was not written stays as it is -/
def gcO (k : Nat) (d : List Nat) (H : Nat) : List (Option Blk) → Nat → List Nat → List (Option Blk) × List Nat
  | [], _, m => ([], m)
  | b :: l, j, m => match Nat.blt j k && !d.any (Nat.beq j) with
    | true => let y := gcO k d H l (j + 1) m; (b :: y.1, y.2)
    | false => let x := gcB H b m; let y := gcO k d H l (j + 1) x.2; (x.1 :: y.1, y.2)
def St.gc (k : Nat) (s : St) (H : Nat) : Option St :=
  match Nat.ble H s.heap.length with
  | false => none
  | true =>
  let x := gcL (gcA H) s.tmps []
  let y := gcO k s.dirt H (s.heap.take H) 0 x.2
  match gcN H s.heap 1000 0 y.2 [] with
  | some z => some { s with tmps := x.1, heap := y.1 ++ z.1 }
  | none => none
structure Hd where
  id : Nat
  kills : List Nat
  nils : List (Nat × Nat)
def firstId : Code → Option Nat
  | .region id _ _ => some id
  | .seq a _ => firstId a
  | .block _ a => firstId a
  | .loop a => firstId a
  | _ => none
def nilE (s : St) (p : Nat × Nat) : St :=
  match s.tmp p.1 with
  | .r (.c .nils) => { s with tmps := s.tmps.set p.1 (.r (.c (.sl s.heap.length 0 0 p.2 true))), heap := s.heap ++ [some (.fnb 0 fun _ => .u)] }
  | _ => s
def findHd (id : Nat) : List Hd → Option Hd
  | [] => none
  | h :: l => match Nat.beq h.id id with
    | true => some h
    | false => findHd id l
def St.head (k : Nat) (s : St) (hs : List Hd) (body : Code) (H : Nat) : Option St :=
  match firstId body with
  | none => s.gc k H
  | some id => match findHd id hs with
    | none => s.gc k H
    | some h => ((h.nils.foldl nilE { s with tmps := h.kills.foldl (fun l t => l.set t und) s.tmps }).gc k H)

def iter {ρ : Type} (hd : St → Option St) (body : St → (AX → St → Option ρ) → Option ρ) (k : AX → St → Option ρ) (n : Nat) : St → Option ρ :=
  Nat.rec (fun _ => none) (fun _ ih s => match hd s with
    | none => none
    | some s => forceAll s fun s => body s fun e s => match e with
      | .nrm => ih s
      | e => k e s) n

def runC (P : Program) (E : Env) (hs : List Hd) (kk : Nat) (lf : Nat) {ρ : Type} : Code → St → (AX → St → Option ρ) → Option ρ
  | .skip, s, k => k .nrm s
  | .region _ ops draw, s, k => match draw with
    | false => runOps P E kk ops.toList ops.toList s [] fun s _ => k .nrm s
    | true => runOps P E kk ops.toList ops.toList s [] fun s l => match edgesOk ops.toList 0 && okPairs (masks ops.toList []) l 0 with
      | true => k .nrm s
      | false => none
  | .seq a b, s, k => runC P E hs kk lf a s fun e s => match e with
    | .nrm => runC P E hs kk lf b s k
    | e => k e s
  | .cond (.tmp t) a b, s, k => match s.tmp t with
    | .r (.c (.f (.b x))) => match x with
      | true => runC P E hs kk lf a s k
      | false => runC P E hs kk lf b s k
    | _ => none
  | .block id a, s, k => runC P E hs kk lf a s fun e s => match e with
    | .ex j => match Nat.beq j id with
      | true => k .nrm s
      | false => k (.ex j) s
    | e => k e s
  | .loop a, s, k => iter (fun t => t.head kk hs a s.heap.length) (runC P E hs kk lf a) k lf s
  | .exit id, s, k => k (.ex id) s
  | .ret, s, k => k .ret s
  | _, _, _ => none

/-! a function -/
def resV (P : Program) (s : St) : ResultVar → Option RV
  | .tmp t => match s.tmp t with
    | .r v => some v
    | _ => none
  | .cell a t => match s.tmp a with
    | .r (.c (.ptr b o _)) => match aggT P t, sizeT P t, s.blk b with
      | some true, some n, some blk => match Nat.ble (o + n) blk.size with
        | true => some (.agg (blk.rng o n))
        | false => none
      | some false, some _, some blk => match Nat.ble (o + 1) blk.size with
        | true => some (.c (blk.get o))
        | false => none
      | _, _, _ => none
    | _ => none
def resVs (P : Program) (s : St) : List ResultVar → Option (List RV)
  | [] => some []
  | r :: l => match resV P s r, resVs P s l with
    | some v, some vs => some (v :: vs)
    | _, _ => none
def one : List RV → AV
  | [v] => .r v
  | vs => .tup vs
def chgs (s : List Nat) : List (Option Blk) → Nat → List Ch
  | [], _ => []
  | b :: l, j => (match s.any (Nat.beq j) with
    | false => Ch.keep
    | true => match b with
      | some b => .set b
      | none => .kill) :: chgs s l (j + 1)
def somes {α : Type} : List (Option α) → Option (List α)
  | [] => some []
  | some a :: l => (somes l).map (a :: ·)
  | none :: _ => none
def fin (P : Program) (fn : Func) (k : Nat) (e : AX) (s : St) : Option Res :=
  match e with
  | .ex _ => none
  | _ => match resVs P s fn.results.toList with
    | none => none
    | some vs =>
      let x := gcA k (one vs) []
      let y := gcO k s.dirt k (s.heap.take k) 0 x.2
      match gcN k s.heap 1000 0 y.2 [] with
      | some z => match somes z.1 with
        | some news => some { val := x.1, chg := chgs s.dirt y.1 0, news }
        | none => none
      | none => none
def start (fn : Func) (args : List AV) (h : List Blk) : St :=
  { tmps := args ++ List.replicate (fn.ntmps - args.length) udf, heap := h.map some, dirt := [] }
def den (P : Program) (E : Env) (hs : List Hd) (lf : Nat) (f : FuncId) (args : List AV) (h : List Blk) : Option Res :=
  match P.funcs[f]? with
  | none => none
  | some fn => match fn.body with
    | none => none
    | some c => forceAll (start fn args h) fun s => runC P E hs h.length lf c s (fin P fn h.length)

end Go.Ab
