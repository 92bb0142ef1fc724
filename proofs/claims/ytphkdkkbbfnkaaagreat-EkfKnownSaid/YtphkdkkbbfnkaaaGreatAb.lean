/-
  An abstract machine over local heaps: the definitions alone (what it computes). Its soundness against the model stands in the texts behind it.
-/
import Derived.Orders
import Derived.KernelRfl
import Derived.LoopN
noncomputable section
namespace Go.Ab

inductive FV where
  | u
  | b (x : Bool)
  | i (k : IntKind) (n : Int)
  | s (x : ByteArray)
  | q (n : Nat) (g : Nat → Bool)

inductive Sz where
  | l (n : Nat)
  | s (n : Nat)
def Sz.val : Sz → Nat
  | .l n => n
  | .s n => n
def Sz.add : Sz → Sz → Sz
  | .l a, .l b => .l (a + b)
  | a, b => .s (a.val + b.val)
def Sz.least : Sz → Sz → Sz
  | .l a, .l b => .l (Nat.min a b)
  | a, b => .s (Nat.min a.val b.val)
def Sz.mul (a : Sz) (k : Nat) : Sz :=
  match Nat.beq k 1 with
  | true => a
  | false => match a with
    | .l a => .l (a * k)
    | .s a => .s (a * k)
inductive Off where
  | k (c : Nat)
  | x (c i z : Nat)
def Off.val : Off → Nat
  | .k c => c
  | .x c i z => c + i * z
def Off.add : Off → Nat → Off
  | .k c, d => .k (c + d)
  | .x c i z, d => .x (c + d) i z
def Off.plus : Off → Off → Off
  | .k c, .k d => .k (c + d)
  | .x c i z, .k d => .x (c + d) i z
  | .k c, .x d i z => .x (c + d) i z
  | .x c i z, .x d j y => match Nat.beq z y with
    | true => .x (c + d) (i + j) z
    | false => .x 0 (c + i * z + (d + j * y)) 1
def Off.idx (o : Off) (j z n : Nat) : Off :=
  match o with
  | .k c => .x c j z
  | .x c i y => match Nat.beq y (n * z) with
    | true => .x c (i * n + j) z
    | false => .x 0 (c + i * y + j * z) 1
def Off.idxS (o : Off) (j z : Nat) : Off :=
  match o with
  | .k c => .x c j z
  | .x c i y => match Nat.beq y z with
    | true => .x c (i + j) z
    | false => .x 0 (c + i * y + j * z) 1

inductive Col where
  | i (k : IntKind) (g : Nat → Int)
  | b (g : Nat → Bool)
  | s (g : Nat → ByteArray)
  | u
  | q (n : Nat → Nat) (g : Nat → Nat → Bool)

inductive CV where
  | f (v : FV)
  | ptr (b : Nat) (o : Off) (n : Nat)
  | nilp
  | sl (b : Nat) (o : Off) (len : Sz) (esz : Nat) (own : Bool)
  | nils
  | nilf
  | nili
  | cl (f b : Nat) (o : Off) (n : Nat)
  | fs (n z : Nat) (cols : List Col)
  | fp (l : List FV)

inductive Sg where
  | c (v : CV)
  | a (n : Sz) (cols : List Col)
abbrev Blk := List Sg

inductive RV where
  | c (v : CV)
  | agg (b : Blk)

inductive AV where
  | r (v : RV)
  | tup (vs : List RV)
  | fn (f : Nat) (caps : List RV)
  | und

def und : AV := .und
def udf : AV := .tup []

def Col.at : Col → Nat → FV
  | .i k g, j => .i k (g j)
  | .b g, j => .b (g j)
  | .s g, j => .s (g j)
  | .u, _ => .u
  | .q n g, j => .q (n j) (g j)
def Col.shift (d : Nat) : Col → Col
  | .i k g => .i k fun j => g (d + j)
  | .b g => .b fun j => g (d + j)
  | .s g => .s fun j => g (d + j)
  | .u => .u
  | .q n g => .q (fun j => n (d + j)) fun j => g (d + j)
def Col.up (d : Nat) : Col → Col
  | .i k g => .i k fun j => g (j - d)
  | .b g => .b fun j => g (j - d)
  | .s g => .s fun j => g (j - d)
  | .u => .u
  | .q n g => .q (fun j => n (j - d)) fun j => g (j - d)
def Col.set1 (c : Col) (e : Nat) (v : CV) : Option Col :=
  match c, v with
  | .i k g, .f (.i k' x) => if k = k' then some (.i k fun j => cond (Nat.beq j e) x (g j)) else none
  | .b g, .f (.b x) => some (.b fun j => cond (Nat.beq j e) x (g j))
  | .s g, .f (.s x) => some (.s fun j => cond (Nat.beq j e) x (g j))
  | _, _ => none
def Col.mrg (p : Nat → Bool) (c d : Col) : Option Col :=
  match c, d with
  | .i k g, .i k' h => if k = k' then some (.i k fun j => cond (p j) (g j) (h j)) else none
  | .b g, .b h => some (.b fun j => cond (p j) (g j) (h j))
  | .s g, .s h => some (.s fun j => cond (p j) (g j) (h j))
  | _, _ => none
def mrgs (p : Nat → Bool) : List Col → List Col → Option (List Col)
  | [], [] => some []
  | c :: cs, d :: ds => match Col.mrg p c d, mrgs p cs ds with
    | some e, some es => some (e :: es)
    | _, _ => none
  | _, _ => none
def Sg.size : Sg → Nat
  | .c _ => 1
  | .a n cols => n.val * cols.length
def Sg.get : Sg → Nat → CV
  | .c v, j => match j with
    | 0 => v
    | _ + 1 => .f .u
  | .a _ cols, j => match cols[j % cols.length]? with
    | some q => .f (q.at (j / cols.length))
    | none => .f .u
def Blk.size : Blk → Nat
  | [] => 0
  | s :: l => s.size + Blk.size l
def Blk.get : Blk → Nat → CV
  | [], _ => .f .u
  | s :: l, j => if j < s.size then s.get j else Blk.get l (j - s.size)
def Blk.list (b : Blk) : List CV := (List.range b.size).map b.get
def CV.fv : CV → FV
  | .f v => v
  | _ => .u
def CV.isF : CV → Bool
  | .f _ => true
  | _ => false
def RV.blk : RV → Blk
  | .c v => [.c v]
  | .agg b => b

/-! parts of a block -/
def shC (sh : Bool) (e : Nat) (cols : List Col) : List Col :=
  match sh with
  | true => cols.map (Col.shift e)
  | false => cols
def rowsB (sh : Bool) (cols : List Col) (e col : Nat) (cnt : Sz) (z : Nat) : Option Blk :=
  match Nat.beq col 0 && Nat.beq (z % cols.length) 0 with
  | true => some [.a (cnt.mul (z / cols.length)) (shC sh e cols)]
  | false => none
def rowsOf (sh : Bool) (cols : List Col) (e col : Nat) (cnt : Sz) (z : Nat) : Option Blk :=
  match cnt with
  | .l n => match Nat.beq n 1 && Nat.ble (col + z) cols.length with
    | true => some (((cols.drop col).take z).map fun q => Sg.c (.f (q.at e)))
    | false => rowsB sh cols e col (.l n) z
  | .s n => rowsB sh cols e col (.s n) z
def takeK : Blk → Nat → Option Blk
  | [], m => match m with
    | 0 => some []
    | _ + 1 => none
  | .c v :: r, m => match m with
    | 0 => some []
    | m + 1 => (takeK r m).map (.c v :: ·)
  | .a n cols :: r, m => match m with
    | 0 => some []
    | m + 1 => match n with
      | .s _ => none
      | .l n => match Nat.ble (n * cols.length) (m + 1) with
        | true => (takeK r (m + 1 - n * cols.length)).map (.a (.l n) cols :: ·)
        | false => rowsOf false cols 0 0 (.l 1) (m + 1)
def nz : Nat → Bool
  | 0 => false
  | _ + 1 => true
def subK : Blk → Nat → Sz → Nat → Option Blk
  | [], c, cnt, z => match cnt with
    | .l n => match Nat.beq (n * z) 0 with
      | true => some []
      | false => none
    | .s _ => none
  | .c v :: r, c, cnt, z => match c with
    | 0 => match cnt with
      | .l n => takeK (.c v :: r) (n * z)
      | .s _ => none
    | c + 1 => subK r c cnt z
  | .a n cols :: r, c, cnt, z => match r with
    | [] => rowsOf (nz (c / cols.length)) cols (c / cols.length) (c % cols.length) cnt z
    | _ :: _ => match n, cnt with
      | .l n, .l m => match Nat.ble (n * cols.length) c with
        | true => subK r (c - n * cols.length) cnt z
        | false => match Nat.ble (c + m * z) (n * cols.length) with
          | true => rowsOf (nz (c / cols.length)) cols (c / cols.length) (c % cols.length) cnt z
          | false => match c with
            | 0 => takeK (.a (.l n) cols :: r) (m * z)
            | _ + 1 => none
      | _, _ => none
def elemOf (c i z zc : Nat) : Nat :=
  match Nat.beq z zc with
  | true => match c / zc with
    | 0 => i
    | q + 1 => q + 1 + i
  | false => c / zc + i * (z / zc)
def subX : Blk → Nat → Nat → Nat → Sz → Nat → Option (Bool × Blk)
  | [], _, _, _, _, _ => none
  | .c v :: r, c, i, z, cnt, y => match c with
    | 0 => (subK (.c v :: r) (i * z) cnt y).map fun b => (true, b)
    | c + 1 => subX r c i z cnt y
  | .a n cols :: r, c, i, z, cnt, y => match r with
    | [] => match Nat.beq (z % cols.length) 0 with
      | true => (rowsOf true cols (elemOf c i z cols.length) (c % cols.length) cnt y).map fun b => (true, b)
      | false => none
    | _ :: _ => match n with
      | .l n => match Nat.ble (n * cols.length) c with
        | true => subX r (c - n * cols.length) i z cnt y
        | false => match Nat.beq (z % cols.length) 0 with
          | true => (rowsOf true cols (elemOf c i z cols.length) (c % cols.length) cnt y).map fun b => (Nat.ble (c + i * z + cnt.val * y) (n * cols.length), b)
          | false => none
      | .s _ => none
def Blk.sub (b : Blk) (o : Off) (cnt : Sz) (z : Nat) : Option (Bool × Blk) :=
  match o with
  | .k c => (subK b c cnt z).map fun b => (true, b)
  | .x c i y => subX b c i y cnt z

/-! parts of a block, put anew -/
def setCol : List Col → Nat → Nat → CV → Option (List Col)
  | [], _, _, _ => none
  | c :: cs, 0, e, v => (Col.set1 c e v).map (· :: cs)
  | c :: cs, j + 1, e, v => (setCol cs j e v).map (c :: ·)
def putCells (zc : Nat) : List Col → Nat → Nat → Blk → Option (List Col)
  | cols, _, _, [] => some cols
  | cols, e, col, .c v :: r => match setCol cols col e v with
    | some cols' => match Nat.beq (col + 1) zc with
      | true => putCells zc cols' (e + 1) 0 r
      | false => putCells zc cols' e (col + 1) r
    | none => none
  | _, _, _, .a _ _ :: _ => none
def put1 (cols : List Col) (e col : Nat) (v : Blk) : Option (List Col) :=
  match v with
  | [.a m cols'] => match Nat.beq col 0 && Nat.beq cols.length cols'.length with
    | true => mrgs (fun j => Nat.ble e j && Nat.blt j (e + m.val)) (cols'.map (Col.up e)) cols
    | false => none
  | v => putCells cols.length cols e col v
def over : Blk → Blk → Option Blk
  | b, [] => some b
  | .c _ :: r, .c y :: vs => (over r vs).map (.c y :: ·)
  | .a (.l n) cols :: r, .a (.l m) cols' :: vs => match Nat.beq n m && Nat.beq cols.length cols'.length with
    | true => (over r vs).map (.a (.l m) cols' :: ·)
    | false => none
  | _, _ => none
def same1 (n : Sz) (cols : List Col) (v : Blk) : Bool :=
  match n, v with
  | .l n, [.a (.l m) cols'] => Nat.beq n m && Nat.beq cols.length cols'.length
  | _, _ => false
def updK : Blk → Nat → Blk → Option Blk
  | [], _, v => match v with
    | [] => some []
    | _ :: _ => none
  | .c x :: r, c, v => match c with
    | 0 => over (.c x :: r) v
    | c + 1 => (updK r c v).map (.c x :: ·)
  | .a n cols :: r, c, v => match r with
    | [] => match Nat.beq c 0 && same1 n cols v with
      | true => some v
      | false => (put1 cols (c / cols.length) (c % cols.length) v).map fun cols => [.a n cols]
    | _ :: _ => match n with
      | .s _ => none
      | .l n => match Nat.ble (n * cols.length) c with
        | true => (updK r (c - n * cols.length) v).map (.a (.l n) cols :: ·)
        | false => match Nat.beq c 0 && same1 (.l n) cols v with
          | true => some (v ++ r)
          | false => match Nat.ble (c + Blk.size v) (n * cols.length) with
            | true => (put1 cols (c / cols.length) (c % cols.length) v).map fun cols => .a (.l n) cols :: r
            | false => match c with
              | 0 => over (.a (.l n) cols :: r) v
              | _ + 1 => none
def updX : Blk → Nat → Nat → Nat → Blk → Option (Bool × Blk)
  | [], _, _, _, _ => none
  | .c x :: r, c, i, z, v => match c with
    | 0 => (updK (.c x :: r) (i * z) v).map fun b => (true, b)
    | c + 1 => (updX r c i z v).map fun p => (p.1, .c x :: p.2)
  | .a n cols :: r, c, i, z, v => match r with
    | [] => match Nat.beq (z % cols.length) 0 with
      | true => (put1 cols (elemOf c i z cols.length) (c % cols.length) v).map fun cols => (true, [.a n cols])
      | false => none
    | _ :: _ => match n with
      | .l n => match Nat.ble (n * cols.length) c with
        | true => (updX r (c - n * cols.length) i z v).map fun p => (p.1, .a (.l n) cols :: p.2)
        | false => match Nat.beq (z % cols.length) 0 with
          | true => (put1 cols (elemOf c i z cols.length) (c % cols.length) v).map fun cols => (Nat.ble (c + i * z + Blk.size v) (n * cols.length), .a (.l n) cols :: r)
          | false => none
      | .s _ => none
def Blk.upd (b : Blk) (o : Off) (v : Blk) : Option (Bool × Blk) :=
  match o with
  | .k c => (updK b c v).map fun b => (true, b)
  | .x c i z => updX b c i z v

/-! one block behind the other -/
def isCells : Blk → Bool
  | [] => true
  | .c _ :: r => isCells r
  | .a _ _ :: _ => false
def fvOf : Sg → Option FV
  | .c (.f v) => some v
  | _ => none
def colOf1 : FV → Option Col
  | .i k x => some (.i k fun _ => x)
  | .b x => some (.b fun _ => x)
  | .s x => some (.s fun _ => x)
  | .u => none
  | .q _ _ => none
def colsOf : Nat → Blk → Option (List Col)
  | 0, _ => some []
  | z + 1, .c (.f v) :: r => match colOf1 v, colsOf z r with
    | some c, some cs => some (c :: cs)
    | _, _ => none
  | _ + 1, _ => none
def rowOf (z : Nat) (b : Blk) : Option Blk :=
  match isCells b && (Nat.ble 1 z && Nat.beq (b.length % z) 0) with
  | true => match colsOf z b with
    | some cols => (putCells z cols 0 0 b).map fun cols => [.a (.l (b.length / z)) cols]
    | none => none
  | false => none
def cellsR (cols : List Col) : List Nat → Blk
  | [] => []
  | j :: l => .c (match cols[j % cols.length]? with
    | some q => .f (q.at (j / cols.length))
    | none => .f .u) :: cellsR cols l
def flatB : Blk → Blk
  | [] => []
  | .c v :: r => .c v :: flatB r
  | .a n cols :: r => match n with
    | .l n => cellsR cols (List.range (n * cols.length)) ++ flatB r
    | .s n => .a (.s n) cols :: flatB r
def app2 (n : Sz) (cols : List Col) (b : Blk) : Option Blk :=
  match isCells b && (Nat.ble 1 cols.length && Nat.beq (b.length % cols.length) 0) with
  | true => (putCells cols.length cols n.val 0 b).map fun cs => [.a (n.add (.l (b.length / cols.length))) cs]
  | false => none
def app1 (n : Sz) (cols : List Col) (b : Blk) : Option Blk :=
  match b with
  | [.a m cols'] => match Nat.beq cols.length cols'.length && Nat.ble 1 cols.length with
    | true => (mrgs (fun j => Nat.blt j n.val) cols (cols'.map (Col.up n.val))).map fun cols => [.a (n.add m) cols]
    | false => app2 n cols (flatB b)
  | b => app2 n cols (flatB b)
def litB : Blk → Bool
  | [] => true
  | .c _ :: r => litB r
  | .a (.l _) _ :: r => litB r
  | .a (.s _) _ :: _ => false
def Blk.app (a b : Blk) : Option Blk :=
  match a, b with
  | [], b => some b
  | a, [] => some a
  | [.a n cols], b => app1 n cols b
  | a, [.a m cols'] => match rowOf cols'.length (flatB a) with
    | some [.a n cols] => app1 n cols [.a m cols']
    | _ => none
  | a, b => match litB a && litB b with
    | true => some (a ++ b)
    | false => none

def toRow (z : Nat) (b : Blk) : Blk :=
  match b with
  | [] => []
  | [.a n cols] => match Nat.beq cols.length z with
    | true => [.a n cols]
    | false => match rowOf z (flatB [.a n cols]) with
      | some b => b
      | none => [.a n cols]
  | b => match rowOf z (flatB b) with
    | some r => r
    | none => b

structure St where
  tmps : List AV
  heap : List (Option Blk)
  dirt : List Nat

def St.blk (s : St) (b : Nat) : Option Blk := (s.heap[b]?).getD none
def tget (l : List AV) : Nat → AV := List.rec (motive := fun _ => Nat → AV) (fun _ => udf) (fun a _ ih i => Nat.rec (motive := fun _ => AV) a (fun m _ => ih m) i) l
def St.tmp (s : St) (i : Nat) : AV := tget s.tmps i
def setN {α ρ : Type} (l : List α) : Nat → α → (List α → Option ρ) → Option ρ :=
  List.rec (motive := fun _ => Nat → α → (List α → Option ρ) → Option ρ) (fun _ _ _ => none)
    (fun a l ih i v k => Nat.rec (motive := fun _ => Option ρ) (k (v :: l)) (fun m _ => ih m v fun l' => k (a :: l')) i) l

inductive Fp where
  | t (i : Nat)
  | c (b : Nat) (r : Option (Nat × Nat))
  | z (b : Nat)

inductive Up where
  | t (i : Nat) (v : AV)
  | c (b : Nat) (o : Off) (v : Blk)
  | new (b : Nat) (blk : Blk)
  | kill (b : Nat)

def ext (o : Off) (cnt : Sz) (z : Nat) : Option (Nat × Nat) :=
  match o, cnt with
  | .k c, .l n => some (c, n * z)
  | _, _ => none
def szL : Blk → Option Nat
  | [] => some 0
  | .c _ :: r => (szL r).map (1 + ·)
  | .a (.l n) cols :: r => (szL r).map (n * cols.length + ·)
  | .a (.s _) _ :: _ => none
def extB (o : Off) (v : Blk) : Option (Nat × Nat) :=
  match o with
  | .k c => (szL v).map fun n => (c, n)
  | _ => none

inductive Rd (α : Type) : Type 1 where
  | ret (a : α)
  | fail
  | tm (i : Nat) (k : AV → Rd α)
  | vw (b : Nat) (o : Off) (cnt : Sz) (z : Nat) (k : Blk → Rd α)
  | sz (b : Nat) (k : Rd α)
  | test (x : Bool) (k : Bool → Rd α)
  | opt {D : Type} (x : Option D) (k : D → Rd α)

def Rd.bind {α β : Type} : Rd α → (α → Rd β) → Rd β
  | .ret a, f => f a
  | .fail, _ => .fail
  | .tm i k, f => .tm i fun v => (k v).bind f
  | .vw b o cnt z k, f => .vw b o cnt z fun v => (k v).bind f
  | .sz b k, f => .sz b (k.bind f)
  | .test x k, f => .test x fun v => (k v).bind f
  | .opt x k, f => .opt x fun v => (k v).bind f

def ofO {α : Type} : Option α → Rd α
  | some a => .ret a
  | none => .fail
def must (x : Bool) : Rd Unit := .test x fun | true => .ret () | false => .fail

def Rd.run {α ρ : Type} : Rd α → St → List Fp → (α → List Fp → Option ρ) → Option ρ
  | .ret a, _, l, k => k a l
  | .fail, _, _, _ => none
  | .tm i m, s, l, k => (m (s.tmp i)).run s (.t i :: l) k
  | .vw b o cnt z m, s, l, k =>
    match s.blk b with
    | some blk => match blk.sub o cnt z with
      | some p => match p.1 with
        | true => (m p.2).run s (.z b :: .c b (ext o cnt z) :: l) k
        | false => none
      | none => none
    | none => none
  | .sz b m, s, l, k =>
    match s.blk b with
    | some _ => m.run s (.z b :: l) k
    | none => none
  | .test x m, s, l, k =>
    match x with
    | true => (m true).run s l k
    | false => (m false).run s l k
  | .opt x m, s, l, k =>
    match x with
    | some d => (m d).run s l k
    | none => none
def subR (b : Blk) (o : Off) (cnt : Sz) (z : Nat) : Rd Blk :=
  match b.sub o cnt z with
  | some p => .test p.1 fun | true => .ret p.2 | false => .fail
  | none => .fail

/-! constants -/
def ofC : Value → Option CV
  | .bool b => some (.f (.b b))
  | .int k n => some (.f (.i k n))
  | .string s => some (.f (.s s))
  | .pointer none => some .nilp
  | .slice none 0 0 => some .nils
  | .nilFunc => some .nilf
  | .nilIface => some .nili
  | _ => none
def ofCs : List Value → Option Blk
  | [] => some []
  | v :: vs => match ofC v, ofCs vs with
    | some c, some cs => some (.c c :: cs)
    | _, _ => none
def ofR : Value → Option RV
  | .agg cs => (ofCs cs.toList).map .agg
  | v => (ofC v).map .c

/-! operands -/
def opd : Operand → Rd AV
  | .tmp t => .tm t .ret
  | .const v => (ofO (ofR v)).bind fun r => .ret (.r r)
  | .func f => .ret (.fn f [])
  | .global _ => .fail
def asR : AV → Rd RV
  | .r v => .ret v
  | _ => .fail
def asC : AV → Rd CV
  | .r (.c v) => .ret v
  | _ => .fail
def asI : AV → Rd (IntKind × Int)
  | .r (.c (.f (.i k n))) => .ret (k, n)
  | _ => .fail
def asB : AV → Rd Bool
  | .r (.c (.f (.b x))) => .ret x
  | _ => .fail
def asP : AV → Rd (Nat × Off × Nat)
  | .r (.c (.ptr b o n)) => .ret (b, o, n)
  | _ => .fail
def opdR (x : Operand) : Rd RV := (opd x).bind asR
def asS : AV → Rd RV
  | .r v => .ret v
  | .fn f [.c (.ptr b o n)] => .ret (.c (.cl f b o n))
  | _ => .fail
def opdS (x : Operand) : Rd RV := (opd x).bind asS
def opdC (x : Operand) : Rd CV := (opd x).bind asC
def opdI (x : Operand) : Rd (IntKind × Int) := (opd x).bind asI
def opdB (x : Operand) : Rd Bool := (opd x).bind asB
def opdP (x : Operand) : Rd (Nat × Off × Nat) := (opd x).bind asP
def mapRd {α β : Type} (f : α → Rd β) : List α → Rd (List β)
  | [] => .ret []
  | a :: l => (f a).bind fun b => (mapRd f l).bind fun bs => .ret (b :: bs)

/-! types -/
def aggT (P : Program) (t : TypeId) : Option Bool :=
  match P.underlying t with
  | some (.struct _) | some (.array _ _) => some true
  | some _ => some false
  | none => none
def sizeT (P : Program) (t : TypeId) : Option Nat := (P.info? t).map (·.size)
def fieldT (P : Program) (t : TypeId) (i : Nat) : Option Field :=
  match P.underlying t with
  | some (.struct fs) => fs[i]?
  | _ => none
def funT (P : Program) (n : Nat) (e : TypeId) : Bool :=
  Nat.ble 9 n || match P.underlying e with
  | some (.int .u64) => Nat.ble 8 n
  | some (.struct _) => Nat.ble 4 n
  | _ => false
inductive Tm where
  | c
  | a (n z : Nat)
def repL {α : Type} : Nat → List α → List α
  | 0, _ => []
  | n + 1, l => l ++ repL n l
def tmplT (P : Program) : Nat → TypeId → List Tm
  | 0, _ => []
  | d + 1, t => match P.underlying t with
    | some (.struct fs) => (fs.toList.map fun f => tmplT P d f.type).flatten
    | some (.array n e) => match funT P n e with
      | true => match tmplT P d e with
        | [.a m z] => [.a (n * m) z]
        | _ => [.a n ((sizeT P e).getD 0)]
      | false => repL n (tmplT P d e)
    | _ => [.c]
def FV.same : FV → FV → Bool
  | .b x, .b y => x == y
  | .i k x, .i k' y => decide (k = k') && x == y
  | _, _ => false
def rowSame (z : Nat) (row : Blk) : Nat → Blk → Option Blk
  | 0, b => some b
  | m + 1, .c (.f v) :: r => match row[(m % z)]? with
    | some (.c (.f y)) => match v.same y with
      | true => rowSame z row m r
      | false => none
    | _ => none
  | _ + 1, _ => none
def packZ : List Tm → Blk → Option Blk
  | [], [] => some []
  | .c :: tm, .c v :: r => (packZ tm r).map (.c v :: ·)
  | .a n z :: tm, b => match colsOf z b with
    | some cols => match Nat.ble 1 z with
      | true => match rowSame z ((b.take z).reverse) (n * z) b with
        | some r => (packZ tm r).map (.a (.l n) cols :: ·)
        | none => none
      | false => none
    | none => none
  | _, _ => none
def zeroT (P : Program) (t : TypeId) : Option RV :=
  match ((P.info? t).bind (·.zero)).bind ofR with
  | some (.agg b) => (packZ (tmplT P 30 t) b).map .agg
  | r => r

/-! a cell read at a type without parts: known to be of that type -/
def FV.isB : FV → Bool
  | .b _ => true
  | _ => false
def FV.toB : FV → Bool
  | .b x => x
  | _ => false
def FV.isI (k : IntKind) : FV → Bool
  | .i k' _ => decide (k' = k)
  | _ => false
def FV.toI : FV → Int
  | .i _ n => n
  | _ => 0
def FV.isS : FV → Bool
  | .s _ => true
  | _ => false
def FV.toS : FV → ByteArray
  | .s x => x
  | _ => .empty
def typC (P : Program) (t : TypeId) (c : CV) : Rd CV :=
  match P.underlying t, c with
  | some .bool, .f x => .test x.isB fun | true => .ret (.f (.b x.toB)) | false => .fail
  | some (.int k), .f x => .test (x.isI k) fun | true => .ret (.f (.i k x.toI)) | false => .fail
  | some .string, .f x => .test x.isS fun | true => .ret (.f (.s x.toS)) | false => .fail
  | some (.slice _), .f (.q n g) => .ret (.fs n 1 [.b g])
  | _, c => .ret c
def packT : List Tm → Blk → Option Blk
  | [], [] => some []
  | .c :: tm, .c v :: r => (packT tm r).map (.c v :: ·)
  | .a n z :: tm, b => match Nat.ble (n * z) b.length with
    | true => match rowOf z (b.take (n * z)) with
      | some row => (packT tm (b.drop (n * z))).map (row ++ ·)
      | none => none
    | false => none
  | _, _ => none
def norm (P : Program) (t : TypeId) (l : Blk) : Blk :=
  match isCells l && Nat.ble 8 l.length with
  | true => match packT (tmplT P 30 t) l with
    | some r => r
    | none => l
  | false => match isCells l with
    | true => l
    | false => match (tmplT P 30 t).all (fun | .c => true | .a _ _ => false) with
      | true => flatB l
      | false => l
def typR (P : Program) (t : TypeId) (v : RV) : Rd RV :=
  match v with
  | .c c => (typC P t c).bind fun c => .ret (.c c)
  | .agg l => .ret (.agg (norm P t l))
def cell1 : Blk → Rd RV
  | [.c v] => .ret (.c v)
  | _ => .fail
def valueU (P : Program) (t : TypeId) (b : Nat) (o : Off) (m : Nat) : Rd RV :=
  (ofO (aggT P t)).bind fun a => (ofO (sizeT P t)).bind fun n =>
    match a with
    | true => (must (Nat.ble n m)).bind fun _ => .vw b o (.l 1) n fun l => .ret (.agg l)
    | false => (must (Nat.ble 1 m)).bind fun _ => .vw b o (.l 1) 1 cell1
def valueOf (P : Program) (t : TypeId) (b : Nat) (o : Off) (m : Nat) : Rd RV := (valueU P t b o m).bind (typR P t)
def partU (P : Program) (t : TypeId) (cs : Blk) (o : Off) : Rd RV :=
  (ofO (aggT P t)).bind fun a => (ofO (sizeT P t)).bind fun n =>
    match a with
    | true => (subR cs o (.l 1) n).bind fun l => .ret (.agg l)
    | false => (subR cs o (.l 1) 1).bind cell1
def partOf (P : Program) (t : TypeId) (cs : Blk) (o : Off) : Rd RV := (partU P t cs o).bind (typR P t)
def partK (P : Program) (t : TypeId) (cs : Blk) (c : Nat) : Rd RV :=
  (ofO (sizeT P t)).bind fun n => (must (Nat.ble 1 n && Nat.ble (c + n) (Blk.size cs))).bind fun _ => partOf P t cs (.k c)

/-! arithmetic -/
def bitsV (op : BinOp) (k : IntKind) (x y : Int) : Option Int :=
  let a := BitVec.ofInt k.bits x
  let b := BitVec.ofInt k.bits y
  match op with
  | .and => some (k.wrap (a &&& b).toNat)
  | .or => some (k.wrap (a ||| b).toNat)
  | .xor => some (k.wrap (a ^^^ b).toNat)
  | .andNot => some (k.wrap (a &&& ~~~b).toNat)
  | _ => none
def intV (op : BinOp) (k : IntKind) (x y : Int) : Rd FV :=
  match op with
  | .add => .ret (.i k (k.wrap (x + y)))
  | .sub => .ret (.i k (k.wrap (x - y)))
  | .mul => .ret (.i k (k.wrap (x * y)))
  | .quo => (must (!decide (y = 0))).bind fun _ => .ret (.i k (k.wrap (x.tdiv y)))
  | .rem => (must (!decide (y = 0))).bind fun _ => .ret (.i k (x.tmod y))
  | .eql => .ret (.b (x == y))
  | .neq => .ret (.b (x != y))
  | .lss => .ret (.b (decide (x < y)))
  | .leq => .ret (.b (decide (x ≤ y)))
  | .gtr => .ret (.b (decide (x > y)))
  | .geq => .ret (.b (decide (x ≥ y)))
  | .shl | .shr => .fail
  | op => (ofO (bitsV op k x y)).bind fun n => .ret (.i k n)
def shiftV (op : BinOp) (k : IntKind) (x y : Int) : Rd FV :=
  (must (!decide (y < 0))).bind fun _ =>
    match op with
    | .shl => .ret (.i k (k.wrap (x * 2 ^ (min y.toNat k.bits))))
    | .shr => .ret (.i k (x.fdiv (2 ^ (min y.toNat k.bits))))
    | _ => .fail
def allN (n : Nat) (p : Nat → Bool) : Bool := (List.range n).all p
def colEq (n : Nat) : List Col → List Col → Option Bool
  | [.i k g], [.i k' h] => if k = k' then some (allN n fun j => g j == h j) else none
  | [.b g], [.b h] => some (allN n fun j => g j == h j)
  | _, _ => none
def scalarT (P : Program) (e : TypeId) (c : List Col) : Bool :=
  match P.underlying e, c with
  | some .bool, [.b _] => true
  | some (.int _), [.i _ _] => true
  | _, _ => false
def eqFs (P : Program) (rec_ : TypeId → RV → RV → Rd Bool) (xs ys : Blk) : List Field → Rd Bool
  | [] => .ret true
  | f :: fs => if f.name ≠ "_" then
      (partK P f.type xs f.offset).bind fun a => (partK P f.type ys f.offset).bind fun b => (rec_ f.type a b).bind fun r => (eqFs P rec_ xs ys fs).bind fun s => .ret (r && s)
    else eqFs P rec_ xs ys fs
def eqAs (P : Program) (rec_ : TypeId → RV → RV → Rd Bool) (e : TypeId) (z : Nat) (xs ys : Blk) : List Nat → Rd Bool
  | [] => .ret true
  | i :: l => (partK P e xs (i * z)).bind fun a => (partK P e ys (i * z)).bind fun b => (rec_ e a b).bind fun r => (eqAs P rec_ e z xs ys l).bind fun s => .ret (r && s)
def eqRow (P : Program) (d n z : Nat) (e : TypeId) (xs ys : Blk) : Option Bool :=
  match xs, ys with
  | [.a (.l m) c], [.a (.l m') c'] => match Nat.ble 1 d && (Nat.beq z 1 && (Nat.beq m n && (Nat.beq m' n && scalarT P e c))) with
    | true => colEq n c c'
    | false => none
  | _, _ => none
def eqT (P : Program) : Nat → TypeId → RV → RV → Rd Bool
  | 0, _, _, _ => .fail
  | d + 1, t, x, y => match P.underlying t, x, y with
    | some .bool, .c (.f (.b a)), .c (.f (.b b)) => .ret (a == b)
    | some (.int _), .c (.f (.i k a)), .c (.f (.i k' b)) => if k = k' then .ret (a == b) else .fail
    | some .string, .c (.f (.s a)), .c (.f (.s b)) => .ret (a == b)
    | some (.pointer _), .c .nilp, .c .nilp => .ret true
    | some (.pointer _), .c (.ptr _ _ _), .c .nilp | some (.pointer _), .c .nilp, .c (.ptr _ _ _) => .ret false
    | some (.struct fs), .agg xs, .agg ys => match P.stoodInHeld t with
      | true => .fail
      | false => eqFs P (eqT P d) xs ys fs.toList
    | some (.array n e), .agg xs, .agg ys => (ofO (sizeT P e)).bind fun z => match eqRow P d n z e xs ys with
      | some r => .ret r
      | none => eqAs P (eqT P d) e z xs ys (List.range n)
    | _, _, _ => .fail
def eqV (P : Program) (t : TypeId) (x y : RV) : Rd Bool :=
  match x, y with
  | .agg _, .agg _ => match P.eqGuardType P.depth t with
    | true => .fail
    | false => eqT P 30 t x y
  | .c (.f (.i _ _)), _ | .c (.f (.s _)), _ | .c (.f .u), _ | .c (.f (.q _ _)), _ => .fail
  | _, _ => eqT P 30 t x y
def binV (P : Program) (op : BinOp) (t : TypeId) (x y : RV) : Rd RV :=
  match x, y with
  | .c (.f (.i k a)), .c (.f (.i k' b)) =>
    match op with
    | .shl | .shr => (shiftV op k a b).bind fun v => .ret (.c (.f v))
    | op => if k = k' then (intV op k a b).bind fun v => .ret (.c (.f v)) else .fail
  | x, y =>
    match op with
    | .eql => (eqV P t x y).bind fun r => .ret (.c (.f (.b r)))
    | .neq => (eqV P t x y).bind fun r => .ret (.c (.f (.b (!r))))
    | _ => .fail
def unV (op : UnOp) (x : RV) : Rd RV :=
  match op, x with
  | .neg, .c (.f (.i k n)) => .ret (.c (.f (.i k (k.wrap (0 - n)))))
  | .xor, .c (.f (.i k n)) => (ofO (bitsV .xor k (if k.signed then -1 else k.max) n)).bind fun r => .ret (.c (.f (.i k r)))
  | .not, .c (.f (.b x)) => .ret (.c (.f (.b (!x))))
  | _, _ => .fail
def convV (P : Program) (src dst : TypeId) (x : RV) : Rd RV :=
  match P.underlying src, P.underlying dst, x with
  | some _, some (.int k), .c (.f (.i _ n)) => .ret (.c (.f (.i k (k.wrap n))))
  | _, _, _ => .fail

/-! addresses -/
def inR (i : Int) (n : Nat) : Bool := decide (0 ≤ i) && decide (i < (n : Int))
def inRe (i : Int) (n : Nat) : Bool := decide (0 ≤ i) && decide (i ≤ (n : Int))
def selL (i : Int) : Nat → Rd Nat
  | 0 => .ret 0
  | n + 1 => .test (i == ((n + 1 : Nat) : Int)) fun | true => .ret (n + 1) | false => selL i n
def sel (P : Program) (o : Off) (i : Int) (n : Nat) (e : TypeId) (z : Nat) : Rd Off :=
  match funT P n e with
  | true => .ret (o.idx i.toNat z n)
  | false => match Nat.ble n 8 with
    | true => (selL i (n - 1)).bind fun j => .ret (o.add (j * z))
    | false => .ret (o.idx i.toNat z n)
def selS (P : Program) (o : Off) (i : Int) (len : Sz) (e : TypeId) (z : Nat) : Rd Off :=
  match len with
  | .l n => match !funT P n e && Nat.ble n 8 with
    | true => (selL i (n - 1)).bind fun j => .ret (o.add (j * z))
    | false => .ret (o.idxS i.toNat z)
  | .s _ => .ret (o.idxS i.toNat z)
def fvBlk (l : List FV) : Blk := l.map fun v => .c (.f v)
def fpVal (P : Program) (t : TypeId) (l : List FV) : Rd RV :=
  (ofO (aggT P t)).bind fun a => (ofO (sizeT P t)).bind fun n =>
    match a with
    | true => (must (Nat.beq n l.length)).bind fun _ => typR P t (.agg (fvBlk l))
    | false => match l with
      | v :: _ => typR P t (.c (.f v))
      | [] => .fail
def fieldAtV (P : Program) (t : TypeId) (x : CV) (i : Nat) : Rd CV :=
  match x with
  | .fp l => (ofO (fieldT P t i)).bind fun f => (ofO (sizeT P f.type)).bind fun n =>
    (must (Nat.ble 1 n && Nat.ble (f.offset + n) l.length)).bind fun _ => .ret (.fp ((l.drop f.offset).take n))
  | .ptr b o m => (ofO (fieldT P t i)).bind fun f => (ofO (sizeT P f.type)).bind fun n =>
    (must (Nat.ble 1 n && Nat.ble (f.offset + n) m)).bind fun _ => .ret (.ptr b (o.add f.offset) n)
  | _ => .fail
def byteAt (b : ByteArray) (n : Nat) : Int := match b[n]? with
  | some x => Int.ofNat x.toNat
  | none => 0
def indexAtV (P : Program) (t : TypeId) (x : CV) (i : Int) : Rd CV :=
  match P.underlying t, x with
  | some (.array n e), .ptr b o m => (ofO (sizeT P e)).bind fun z => (must (Nat.ble (n * z) m)).bind fun _ =>
    (must (inR i n)).bind fun _ => (sel P o i n e z).bind fun o => .ret (.ptr b o z)
  | some (.slice e), .sl b o len z' _ => (ofO (sizeT P e)).bind fun z => (must (Nat.beq z z')).bind fun _ =>
    (must (inR i len.val)).bind fun _ => (selS P o i len e z).bind fun o => .ret (.ptr b o z)
  | some (.slice e), .fs n z' cols => (ofO (sizeT P e)).bind fun z => (must (Nat.beq z z')).bind fun _ =>
    (must (inR i n)).bind fun _ => .ret (.fp (cols.map fun q => q.at i.toNat))
  | some (.array n e), .fp l => (ofO (sizeT P e)).bind fun z => (must (Nat.ble (n * z) l.length && Nat.ble n 8)).bind fun _ =>
    (must (inR i n)).bind fun _ => (selL i (n - 1)).bind fun j => .ret (.fp ((l.drop (j * z)).take z))
  | _, _ => .fail
def optI (x : Option Operand) : Rd (Option Int) :=
  match x with
  | none => .ret none
  | some x => (opdI x).bind fun i => .ret (some i.2)
def bnds (lo hi : Option Int) (n : Nat) : Rd (Nat × Nat) :=
  (match hi with
   | none => Rd.ret n
   | some h => (must (inRe h n)).bind fun _ => .ret h.toNat).bind fun h =>
  (match lo with
   | none => Rd.ret 0
   | some l => (must (inRe l h)).bind fun _ => .ret l.toNat).bind fun l => .ret (l, h)
def szQ (q : Bool) (n : Nat) : Sz :=
  match q with
  | true => .l n
  | false => .s n
def litO (x : Option Operand) : Bool :=
  match x with
  | none => true
  | some (.const _) => true
  | _ => false
def litS (q : Bool) (n : Sz) : Bool :=
  match n with
  | .l _ => q
  | .s _ => false
def lenOf (q : Bool) (lo hi : Option Int) (n : Sz) (lh : Nat × Nat) : Sz :=
  match lo, hi with
  | none, none => n
  | none, some _ => szQ q lh.2
  | some _, _ => szQ q (lh.2 - lh.1)
def offOf (q : Bool) (lo : Option Int) (o : Off) (l z : Nat) : Off :=
  match lo with
  | none => o
  | some _ => match q with
    | true => o.add (l * z)
    | false => o.idxS l z
def fsFrom (lo : Option Int) (l : Nat) (cols : List Col) : List Col :=
  match lo with
  | none => cols
  | some _ => cols.map (Col.shift l)
def sliceV (P : Program) (t : TypeId) (x : CV) (q : Bool) (lo hi : Option Int) : Rd CV :=
  match P.underlying t, x with
  | some (.array n e), .ptr b o m => (ofO (sizeT P e)).bind fun z => (must (Nat.ble (n * z) m)).bind fun _ =>
    (bnds lo hi n).bind fun lh => .ret (.sl b (offOf q lo o lh.1 z) (lenOf q lo hi (.l n) lh) z false)
  | some (.slice e), .sl b o len z own => (ofO (sizeT P e)).bind fun z' => (must (Nat.beq z z')).bind fun _ =>
    (bnds lo hi len.val).bind fun lh => .ret (.sl b (offOf (litS q len) lo o lh.1 z) (lenOf (litS q len) lo hi len lh) z (own && hi.isNone))
  | some (.slice e), .nils => (ofO (sizeT P e)).bind fun _ => (bnds lo hi 0).bind fun _ => .ret .nils
  | some (.slice e), .fs n z cols => (ofO (sizeT P e)).bind fun z' => (must (Nat.beq z z')).bind fun _ =>
    (bnds lo hi n).bind fun lh => .ret (.fs (lenOf false lo hi (.s n) lh).val z (fsFrom lo lh.1 cols))
  | _, _ => .fail

/-! building -/
def placesOf (P : Program) (t : TypeId) : Option (Nat → Option (Nat × Nat)) :=
  match P.underlying t with
  | some (.struct fs) => (fs.toList.mapM fun f => (P.info? f.type).map fun i => (f.offset, i.size)).map fun l i => l[i]?
  | some (.array _ e) => (sizeT P e).map fun n i => some (i * n, n)
  | _ => none
def fillV (pl : Nat → Option (Nat × Nat)) : Blk → List (Nat × RV) → Option Blk
  | cs, [] => some cs
  | cs, (i, v) :: rest => match pl i with
    | none => none
    | some (o, n) => match Nat.beq (Blk.size v.blk) n && Nat.ble (o + n) (Blk.size cs) with
      | true => match updK cs o v.blk with
        | some cs' => fillV pl cs' rest
        | none => none
      | false => none
def rep : Nat → Blk → Blk
  | 0, _ => []
  | n + 1, l => l ++ rep n l

/-! results of calls -/
inductive Ch where
  | keep
  | set (b : Blk)
  | kill
structure Res where
  val : AV
  chg : List Ch
  news : List Blk
inductive T : Type 1 where
  | leaf (r : Res)
  | fail
  | test (x : Bool) (a b : T)
  | opt {D : Type} (x : Option D) (k : D → T)
def T.eval : T → Option Res
  | .leaf r => some r
  | .fail => none
  | .test x a b => match x with
    | true => a.eval
    | false => b.eval
  | .opt x k => match x with
    | some d => (k d).eval
    | none => none
def T.rd : T → Rd Res
  | .leaf r => .ret r
  | .fail => .fail
  | .test x a b => .test x fun | true => a.rd | false => b.rd
  | .opt x k => .opt x fun d => (k d).rd
abbrev Sem1 := List AV → List Blk → T
abbrev Env := Nat → Option Sem1

/-! a call's own heap: views of what is handed in -/
structure Vw where
  b : Nat
  o : Off
  cnt : Sz
  z : Nat
  sl : Bool
  own : Bool
def Vw.n (v : Vw) : Nat := v.cnt.val * v.z
def findV (b : Nat) (e : Option (Nat × Nat)) : List Vw → Nat → Option (Nat × Nat × Bool)
  | [], _ => none
  | v :: vs, i => match Nat.beq v.b b with
    | false => findV b e vs (i + 1)
    | true => match e, ext v.o v.cnt v.z with
      | some (o, n), some (o', n') => match Nat.ble o' o && Nat.ble (o + n) (o' + n') with
        | true => some (i, o - o', v.own)
        | false => findV b e vs (i + 1)
      | _, _ => findV b e vs (i + 1)
def apartV (b : Nat) (e : Option (Nat × Nat)) (vs : List Vw) : Bool :=
  vs.all fun v => !Nat.beq v.b b || match e, ext v.o v.cnt v.z with
    | some (o, n), some (o', n') => Nat.ble (o + n) o' || Nat.ble (o' + n') o
    | _, _ => false
def locC (c : CV) (vs : List Vw) : Rd (CV × List Vw) :=
  match c with
  | .ptr b o n => match findV b (ext o (.l 1) n) vs 0 with
    | some (i, d, _) => .ret (.ptr i (.k d) n, vs)
    | none => (must (apartV b (ext o (.l 1) n) vs)).bind fun _ => .ret (.ptr vs.length (.k 0) n, vs ++ [⟨b, o, .l 1, n, false, false⟩])
  | .cl f b o n => match findV b (ext o (.l 1) n) vs 0 with
    | some (i, d, _) => .ret (.cl f i (.k d) n, vs)
    | none => (must (apartV b (ext o (.l 1) n) vs)).bind fun _ => .ret (.cl f vs.length (.k 0) n, vs ++ [⟨b, o, .l 1, n, false, false⟩])
  | .sl b o len z own => match findV b (ext o len z) vs 0 with
    | some (i, d, ow) => .ret (.sl i (.k d) (.s len.val) z (own && ow), vs)
    | none => (must (apartV b (ext o len z) vs)).bind fun _ =>
      .ret (.sl vs.length (.k 0) (.s len.val) z (own && vs.all fun v => !Nat.beq v.b b || !v.own), vs ++ [⟨b, o, len, z, true, own && vs.all fun v => !Nat.beq v.b b || !v.own⟩])
  | c => .ret (c, vs)
def locB : Blk → List Vw → Rd (Blk × List Vw)
  | [], vs => .ret ([], vs)
  | .c c :: cs, vs => (locC c vs).bind fun x => (locB cs x.2).bind fun y => .ret (.c x.1 :: y.1, y.2)
  | .a n cols :: cs, vs => (locB cs vs).bind fun y => .ret (.a n cols :: y.1, y.2)
def locR (r : RV) (vs : List Vw) : Rd (RV × List Vw) :=
  match r with
  | .c c => (locC c vs).bind fun x => .ret (.c x.1, x.2)
  | .agg cs => (locB cs vs).bind fun x => .ret (.agg x.1, x.2)
def locRs : List RV → List Vw → Rd (List RV × List Vw)
  | [], vs => .ret ([], vs)
  | c :: cs, vs => (locR c vs).bind fun x => (locRs cs x.2).bind fun y => .ret (x.1 :: y.1, y.2)
def locA (a : AV) (vs : List Vw) : Rd (AV × List Vw) :=
  match a with
  | .r r => (locR r vs).bind fun x => .ret (.r x.1, x.2)
  | .tup rs => (locRs rs vs).bind fun x => .ret (.tup x.1, x.2)
  | .fn f rs => (locRs rs vs).bind fun x => .ret (.fn f x.1, x.2)
  | .und => .ret (.und, vs)
def locAs : List AV → List Vw → Rd (List AV × List Vw)
  | [], vs => .ret ([], vs)
  | c :: cs, vs => (locA c vs).bind fun x => (locAs cs x.2).bind fun y => .ret (x.1 :: y.1, y.2)
def toS (b : Blk) : Blk :=
  match b with
  | [.a n cols] => [.a (.s n.val) cols]
  | b => b
def rowIf (sl : Bool) (z : Nat) (b : Blk) : Blk :=
  match sl with
  | true => toS (toRow z b)
  | false => b
def locH : Nat → Nat → List Vw → List Blk → Rd (List Blk × List Vw)
  | 0, _, _, _ => .fail
  | fuel + 1, i, vs, acc => match vs[i]? with
    | none => .ret (acc, vs)
    | some v => .vw v.b v.o v.cnt v.z fun cs =>
      (locB (rowIf v.sl v.z cs) vs).bind fun x => locH fuel (i + 1) x.2 (acc ++ [x.1])

/-! back again -/
def bckC (vs : List Vw) (nid : Nat) : CV → CV
  | .ptr j d n => match vs[j]? with
    | some v => .ptr v.b (v.o.plus d) n
    | none => .ptr (nid + (j - vs.length)) d n
  | .cl f j d n => match vs[j]? with
    | some v => .cl f v.b (v.o.plus d) n
    | none => .cl f (nid + (j - vs.length)) d n
  | .sl j d len z own => match vs[j]? with
    | some v => .sl v.b (v.o.plus d) len z (own && v.own)
    | none => .sl (nid + (j - vs.length)) d len z own
  | c => c
def mapB (f : CV → CV) : Blk → Blk
  | [] => []
  | .c v :: r => .c (f v) :: mapB f r
  | .a n cols :: r => .a n cols :: mapB f r
def bckR (vs : List Vw) (nid : Nat) : RV → RV
  | .c c => .c (bckC vs nid c)
  | .agg cs => .agg (mapB (bckC vs nid) cs)
def bckA (vs : List Vw) (nid : Nat) : AV → AV
  | .r r => .r (bckR vs nid r)
  | .tup rs => .tup (rs.map (bckR vs nid))
  | .fn f rs => .fn f (rs.map (bckR vs nid))
  | .und => .und
def newsU (vs : List Vw) (nid : Nat) : List Blk → Nat → List Up
  | [], _ => []
  | b :: bs, j => .new (nid + j) (mapB (bckC vs nid) b) :: newsU vs nid bs (j + 1)
def setsU (all : List Vw) (nid : Nat) : List Vw → List Ch → Option (Bool × List Up)
  | [], [] => some (true, [])
  | _ :: vs, .keep :: cs => setsU all nid vs cs
  | v :: vs, .set b :: cs => match setsU all nid vs cs with
    | some p => some (p.1 && Nat.beq (Blk.size b) v.n, .c v.b v.o (mapB (bckC all nid) b) :: p.2)
    | none => none
  | _ :: vs, .kill :: cs => setsU all nid vs cs
  | _, _ => none
def killsU : List Vw → List Ch → List Up
  | v :: vs, .kill :: cs => .kill v.b :: killsU vs cs
  | _ :: vs, _ :: cs => killsU vs cs
  | _, _ => []

def dstU (dst : Option Tmp) (v : AV) : List Up :=
  match dst with
  | some d => [.t d v]
  | none => []
def callV (E : Env) (f : Nat) (args : List AV) (dst : Option Tmp) (nid : Nat) : Rd (List Up) :=
  (locAs args []).bind fun x => (locH 1000 0 x.2 []).bind fun y =>
    match E f with
    | none => .fail
    | some F => (F x.1 y.1).rd.bind fun r =>
      (ofO (setsU y.2 nid y.2 r.chg)).bind fun us => (must us.1).bind fun _ =>
        .ret (dstU dst (bckA y.2 nid r.val) ++ (us.2 ++ (killsU y.2 r.chg ++ newsU y.2 nid r.news 0)))

/-! append, copy, len, min, max -/
def lenV : CV → Rd Nat
  | .sl _ _ n _ _ => .ret n.val
  | .nils => .ret 0
  | .fs n _ _ => .ret n
  | .f (.s x) => .ret x.size
  | _ => .fail
def slB (z : Nat) : CV → Rd (Sz × Blk)
  | .sl b o n z' _ => (must (Nat.beq z z')).bind fun _ => .vw b o n z fun k => .ret (n, k)
  | .nils => .ret (.l 0, [])
  | .fs n z' cols => (must (Nat.beq z z')).bind fun _ => .ret (.s n, [.a (.s n) cols])
  | _ => .fail
def appendV (P : Program) (t : TypeId) (s x : CV) (dst : Option Tmp) (nid : Nat) : Rd (List Up) :=
  match P.underlying t with
  | some (.slice e) => (ofO (sizeT P e)).bind fun z => (ofO ((P.info? e).map (·.bytes))).bind fun by_ => (ofO (zeroT P e)).bind fun zv =>
    (must (Nat.ble 1 z && (Nat.ble 1 by_ && Nat.beq (Blk.size zv.blk) z))).bind fun _ =>
    (slB z x).bind fun xb =>
    match s with
    | .nils => (must (Nat.ble (xb.1.val * by_) 140737488355328)).bind fun _ =>
      .ret (dstU dst (.r (.c (.sl nid (.k 0) xb.1 z true))) ++ [.new nid xb.2])
    | .sl b o n z' true => (must (Nat.beq z z')).bind fun _ => (must (Nat.ble ((n.val + xb.1.val) * by_) 140737488355328)).bind fun _ =>
      .sz b <|
      .vw b o n z fun sb => (ofO (sb.app xb.2)).bind fun nb =>
        (must (match x with | .sl b' _ _ _ _ => !Nat.beq b b' | _ => true)).bind fun _ =>
        .ret (dstU dst (.r (.c (.sl nid (.k 0) (n.add xb.1) z true))) ++ [.kill b, .new nid nb])
    | _ => .fail
  | _ => .fail
def selN (v : Nat) : Nat → Rd Nat
  | 0 => .ret 0
  | k + 1 => .test (Nat.ble (k + 1) v) fun | true => .ret (k + 1) | false => selN v k
def cntC (n n' : Sz) : Rd (Bool × Sz) :=
  match n, n' with
  | .l k, .s v => match Nat.ble k 8 with
    | true => (selN v k).bind fun j => .ret (true, .l j)
    | false => .ret (false, Sz.least (.s v) (.l k))
  | n, n' => .ret (false, Sz.least n' n)
def copyV (P : Program) (t : TypeId) (d x : CV) (dst : Option Tmp) : Rd (List Up) :=
  match P.underlying t with
  | some (.slice e) => (ofO (sizeT P e)).bind fun z =>
    match d, x with
    | .sl b o n z1 _, .sl b' o' n' z2 _ => (must (Nat.beq z z1 && Nat.beq z z2)).bind fun _ =>
      (must (!Nat.beq b b')).bind fun _ => (cntC n n').bind fun m =>
      .vw b' o' m.2 z fun l => .sz b <|
        .ret (dstU dst (.r (.c (.f (.i .i64 (m.2.val : Int))))) ++ [.c b o (cond m.1 (flatB l) l)])
    | _, _ => .fail
  | _ => .fail
def minV : FV → FV → Rd FV
  | .i k x, .i k' y => if k = k' then .ret (.i k (if y < x then y else x)) else .fail
  | _, _ => .fail
def maxV : FV → FV → Rd FV
  | .i k x, .i k' y => if k = k' then .ret (.i k (if y > x then y else x)) else .fail
  | _, _ => .fail
def foldRd {α β : Type} (f : β → α → Rd β) : β → List α → Rd β
  | b, [] => .ret b
  | b, a :: l => (f b a).bind fun b' => foldRd f b' l
def asF : AV → Rd FV
  | .r (.c (.f v)) => .ret v
  | _ => .fail
def biV (P : Program) (bi : Builtin) (ts : Array TypeId) (args : List AV) (dst : Option Tmp) (nid : Nat) : Rd (List Up) :=
  match bi, args with
  | .len, [x] => (ofO ((ts[0]?).bind P.underlying)).bind fun
    | .array n _ => .ret (dstU dst (.r (.c (.f (.i .i64 (n : Int))))))
    | .slice _ => (asC x).bind fun c => (match c with | .f _ => Rd.fail | c => lenV c).bind fun n => .ret (dstU dst (.r (.c (.f (.i .i64 (n : Int))))))
    | .string => (asC x).bind fun c => (match c with | .f (.s x) => Rd.ret x.size | _ => Rd.fail).bind fun n => .ret (dstU dst (.r (.c (.f (.i .i64 (n : Int))))))
    | _ => .fail
  | .append, [s, x] => (ofO (ts[0]?)).bind fun t => (must (match ts.toList with | [t1, t2] => Nat.beq t1 t2 | _ => false)).bind fun _ =>
    (asC s).bind fun s => (asC x).bind fun x => appendV P t s x dst nid
  | .copy, [d, x] => (ofO (ts[0]?)).bind fun t => (asC d).bind fun d => (asC x).bind fun x => copyV P t d x dst
  | .min, x :: l => (asF x).bind fun x => (mapRd asF l).bind fun l => (foldRd minV x l).bind fun v => .ret (dstU dst (.r (.c (.f v))))
  | .max, x :: l => (asF x).bind fun x => (mapRd asF l).bind fun l => (foldRd maxV x l).bind fun v => .ret (dstU dst (.r (.c (.f v))))
  | _, _ => .fail

def isFn : AV → Rd (Nat × List RV)
  | .fn f caps => .ret (f, caps)
  | .r (.c (.cl f b o n)) => .ret (f, [.c (.ptr b o n)])
  | _ => .fail

def bigRow (P : Program) (e : TypeId) (n z : Nat) (b : Blk) : Blk :=
  match !funT P n e && Nat.ble n 8 with
  | true => b
  | false => toRow z b
inductive CK where
  | i (k : IntKind)
  | b
  | s
def CK.col : CK → Col
  | .i k => .i k fun _ => 0
  | .b => .b fun _ => false
  | .s => .s fun _ => .empty
/-! nil slices that are put into memory become empty ones of their own -/
def ckT (P : Program) : Nat → TypeId → Option (List CK)
  | 0, _ => none
  | d + 1, t => match P.underlying t with
    | some .bool => some [.b]
    | some (.int k) => some [.i k]
    | some .string => some [.s]
    | some (.struct fs) => fs.toList.foldr (fun f l => match ckT P d f.type, l with
      | some a, some b => some (a ++ b)
      | _, _ => none) (some [])
    | some (.array n e) => (ckT P d e).map (repL n)
    | _ => none
def nilKs (P : Program) : Nat → TypeId → List (Option (Nat × List CK))
  | 0, _ => []
  | d + 1, t => match P.underlying t with
    | some (.struct fs) => (fs.toList.map fun f => nilKs P d f.type).flatten
    | some (.array n e) => repL n (nilKs P d e)
    | some (.slice e) => [match sizeT P e, ckT P 30 e with
      | some z, some ks => some (z, ks)
      | _, _ => none]
    | _ => [none]
def denil : List (Option (Nat × List CK)) → Blk → Nat → Blk × List Blk
  | _, [], _ => ([], [])
  | ks, .a n cols :: r, b => let x := denil (ks.drop (n.val * cols.length)) r b; (.a n cols :: x.1, x.2)
  | ks, .c v :: r, b => match v, ks with
    | .nils, some (z, k) :: ks => let x := denil ks r (b + 1); (.c (.sl b (.k 0) (.s 0) z true) :: x.1, [.a (.s 0) (k.map CK.col)] :: x.2)
    | v, ks => let x := denil (ks.drop 1) r b; (.c v :: x.1, x.2)
def hasNil : Blk → Bool
  | [] => false
  | .c .nils :: _ => true
  | _ :: r => hasNil r
def nilOut (P : Program) (t : TypeId) (b : Blk) (nid : Nat) : Blk × List Blk :=
  match hasNil b with
  | true => denil (nilKs P 30 t) b nid
  | false => (b, [])
def newsN : List Blk → Nat → List Up
  | [], _ => []
  | b :: bs, n => .new n b :: newsN bs (n + 1)
def newU (dst : Option Tmp) (nid n : Nat) (cs : Blk) : List Up := dstU dst (.r (.c (.ptr nid (.k 0) n))) ++ [.new nid cs]
def aop (P : Program) (E : Env) (o : Oper) (nid : Nat) : Rd (List Up) :=
  let val (m : Rd RV) : Rd (List Up) := m.bind fun v => .ret (dstU o.dst (.r v))
  let cel (m : Rd CV) : Rd (List Up) := m.bind fun v => .ret (dstU o.dst (.r (.c v)))
  match o.op with
  | .move x | .assign x => (opd x).bind fun v => .ret (dstU o.dst v)
  | .pick c a b => (opdB c).bind fun x => .test x fun
    | true => (opd a).bind fun v => .ret (dstU o.dst v)
    | false => (opd b).bind fun v => .ret (dstU o.dst v)
  | .alloc e => (ofO (zeroT P e)).bind fun z => .ret (newsN (nilOut P e z.blk nid).2 nid ++ newU o.dst (nid + (nilOut P e z.blk nid).2.length) (Blk.size (nilOut P e z.blk nid).1) (nilOut P e z.blk nid).1)
  | .box t x => (opdR x).bind fun v => .ret (newsN (nilOut P t v.blk nid).2 nid ++ newU o.dst (nid + (nilOut P t v.blk nid).2.length) (Blk.size (nilOut P t v.blk nid).1) (nilOut P t v.blk nid).1)
  | .makeSlice t n c => match P.underlying t with
    | some (.slice e) => (ofO (zeroT P e)).bind fun z => (ofO (sizeT P e)).bind fun q => (opdI n).bind fun n => (opdI c).bind fun c =>
      (must (decide (n.2 = 0) && decide (c.2 = 0))).bind fun _ => (ofO (colsOf q z.blk)).bind fun cols =>
      .ret (dstU o.dst (.r (.c (.sl nid (.k 0) (.s 0) q true))) ++ [.new nid [.a (.s 0) cols]])
    | _ => .fail
  | .build t ps => (ofO (zeroT P t)).bind fun z => (mapRd (fun p => (opdR p.2).bind fun v => .ret (p.1, v)) ps.toList).bind fun l =>
    (ofO (placesOf P t)).bind fun pl => (ofO (fillV pl z.blk l)).bind fun cs => .ret (dstU o.dst (.r (.agg cs)))
  | .buildSlice t n ps => match P.underlying t with
    | some (.slice e) => (ofO (zeroT P e)).bind fun z => (ofO (sizeT P e)).bind fun q =>
      (must (Nat.ble 1 q && Nat.ble (n * q) 16777216)).bind fun _ =>
      (mapRd (fun p => (opdR p.2).bind fun v => .ret (p.1, v)) ps.toList).bind fun l =>
      (must (Nat.beq (Blk.size z.blk) q)).bind fun _ => (ofO (fillV (fun i => some (i * q, q)) (rep n z.blk) l)).bind fun cs => .ret (dstU o.dst (.r (.c (.sl nid (.k 0) (.l n) q true))) ++ [.new nid (bigRow P e n q cs)])
    | _ => .fail
  | .load t a => (opdC a).bind fun
    | .ptr b q n => val (valueOf P t b q n)
    | .fp l => val (fpVal P t l)
    | _ => .fail
  | .store t a x => (opdP a).bind fun p => (opdS x).bind fun v => (ofO (sizeT P t)).bind fun n =>
    (must (Nat.beq (Blk.size v.blk) n && Nat.ble n p.2.2)).bind fun _ => .sz p.1 <|
    .ret (newsN (nilOut P t v.blk nid).2 nid ++ (dstU o.dst udf ++ [.c p.1 p.2.1 (nilOut P t v.blk nid).1]))
  | .nilCheck x => (opdC x).bind fun
    | .ptr b q n => .ret (dstU o.dst (.r (.c (.ptr b q n))))
    | .fp l => .ret (dstU o.dst (.r (.c (.fp l))))
    | _ => .fail
  | .binOp op t x y _ => (opdR x).bind fun a => (opdR y).bind fun b => val (binV P op t a b)
  | .unOp op _ x => (opdR x).bind fun a => val (unV op a)
  | .convert s d x => (opdR x).bind fun a => val (convV P s d a)
  | .sliceToArrayPointer t x => (opdC x).bind fun c => match P.underlying t, c with
    | some (.array n _), .sl b q len z _ => (must (Nat.ble 1 n && Nat.ble n len.val)).bind fun _ => cel (.ret (.ptr b q (n * z)))
    | _, _ => .fail
  | .makeFunc (.func f) fs caps => match fs.toList with
    | [] => (mapRd opdR caps.toList).bind fun l => .ret (dstU o.dst (.fn f l))
    | _ => .fail
  | .slice t x lo hi none => (opdC x).bind fun c => (optI lo).bind fun l => (optI hi).bind fun h => cel (sliceV P t c (litO lo && litO hi) l h)
  | .fieldAddr t x i => (opdC x).bind fun c => cel (fieldAtV P t c i)
  | .field t x i => (opdR x).bind fun
    | .agg cs => (ofO (fieldT P t i)).bind fun f => val (partK P f.type cs f.offset)
    | _ => .fail
  | .indexAddr t x i => (opdC x).bind fun c => (opdI i).bind fun i => cel (indexAtV P t c i.2)
  | .index t x i => (opdR x).bind fun v => (opdI i).bind fun i => match P.underlying t, v with
    | some (.array n e), .agg cs => (ofO (sizeT P e)).bind fun z => (must (Nat.ble 1 z && Nat.ble (n * z) (Blk.size cs))).bind fun _ => (must (inR i.2 n)).bind fun _ => (sel P (.k 0) i.2 n e z).bind fun o => val (partOf P e cs o)
    | some .string, .c (.f (.s b)) => (must (inR i.2 b.size)).bind fun _ => val (.ret (.c (.f (.i .u8 (byteAt b i.2.toNat)))))
    | _, _ => .fail
  | .extract x i => (opd x).bind fun
    | .tup vs => (ofO (vs[i]?)).bind fun v => .ret (dstU o.dst (.r v))
    | _ => .fail
  | .call c => (mapRd opd c.args.toList).bind fun args => match c.callee with
    | .builtin b => biV P b c.argTypes args o.dst nid
    | .value f => (opd f).bind fun f => (isFn f).bind fun fc => callV E fc.1 (args ++ fc.2.map .r) o.dst nid
    | .invoke _ _ => .fail
  | _ => .fail

/-! carrying it out -/
def mark (k : Nat) (b : Nat) (d : List Nat) : List Nat :=
  match Nat.blt b k && !d.any (Nat.beq b) with
  | true => b :: d
  | false => d
def Up.app (k : Nat) (s : St) : Up → St
  | .t i v => { s with tmps := s.tmps.set i v }
  | .c b o v => match s.blk b with
    | some blk => match blk.upd o v with
      | some p => { s with heap := s.heap.set b (some p.2), dirt := mark k b s.dirt }
      | none => s
    | none => s
  | .new _ blk => { s with heap := s.heap ++ [some blk] }
  | .kill b => { s with heap := s.heap.set b none, dirt := mark k b s.dirt }

def Up.ok (s : St) : Up → Bool
  | .t i _ => Nat.blt i s.tmps.length
  | .c b o v => match s.blk b with
    | some blk => match blk.upd o v with
      | some p => p.1 && Nat.ble (o.val + Blk.size v) (Blk.size blk)
      | none => false
    | none => false
  | .new b _ => Nat.beq b s.heap.length
  | .kill b => Nat.blt b s.heap.length
def appAll (k : Nat) : List Up → St → Option St
  | [], s => some s
  | u :: us, s => match u.ok s with
    | true => appAll k us (u.app k s)
    | false => none
def mstep (acc : List Nat) (m : Nat) (e : Edge) : Nat := match Region.binds .any e with
  | true => (m ||| 2 ^ e.on) ||| acc.getD e.on 0
  | false => m
def mask (acc : List Nat) (o : Oper) : Nat := o.after.toList.foldl (mstep acc) 0
def masks : List Oper → List Nat → List Nat
  | [], acc => acc
  | o :: l, acc => masks l (acc ++ [mask acc o])
def ovl (lo n lo' n' : Nat) : Bool := Nat.blt lo (lo' + n') && Nat.blt lo' (lo + n)
def meet : Option (Nat × Nat) → Option (Nat × Nat) → Bool
  | some (lo, n), some (lo', n') => ovl lo n lo' n'
  | _, _ => true
def Fp.hits : Fp → Up → Bool
  | .t i, .t j _ => Nat.beq i j
  | .c b r, .c b' o v => Nat.beq b b' && meet r (extB o v)
  | .c b _, .new b' _ | .c b _, .kill b' | .z b, .new b' _ | .z b, .kill b' => Nat.beq b b'
  | _, _ => false
def Up.hits : Up → Up → Bool
  | .t i _, .t j _ => Nat.beq i j
  | .c b o v, .c b' o' v' => Nat.beq b b' && meet (extB o v) (extB o' v')
  | .c b _ _, .new b' _ | .c b _ _, .kill b' | .new b _, .c b' _ _ | .kill b, .c b' _ _ | .new b _, .new b' _ | .new b _, .kill b' | .kill b, .new b' _ | .kill b, .kill b' => Nat.beq b b'
  | _, _ => false
structure Tr where
  fp : List Fp
  us : List Up
def Tr.clash (x y : Tr) : Bool :=
  x.us.any (fun u => y.fp.any (·.hits u) || y.us.any (·.hits u)) || y.us.any (fun u => x.fp.any (·.hits u))
def okPairs (ms : List Nat) : List Tr → Nat → Bool
  | [], _ => true
  | x :: rest, j => (rest.zipIdx.all fun p => Nat.testBit (ms.getD (j + 1 + p.2) 0) j || !x.clash p.1) && okPairs ms rest (j + 1)

def edgesOk : List Oper → Nat → Bool
  | [], _ => true
  | o :: l, i => (o.after.toList.all fun e => !Region.binds .any e || Nat.blt e.on i) && edgesOk l (i + 1)
def dstOk (o : Oper) (nt : Nat) : Bool :=
  match o.dst with
  | none => true
  | some d => Nat.blt d nt
def guardSlot (ops : List Oper) (j : Nat) : Option Tmp := (ops[j]?).bind (·.dst)
/-! what has been reckoned is written out before it is used: it says the same -/
def forceL {α ρ : Type} (l : List α) : (List α → ρ) → ρ :=
  List.rec (motive := fun _ => (List α → ρ) → ρ) (fun k => k []) (fun a _ ih k => ih fun l => k (a :: l)) l
def forceO {ρ : Type} (o : Off) (k : Off → ρ) : ρ :=
  match o with
  | .k c => k (.k c)
  | .x c i z => k (.x c i z)
def forceZ {ρ : Type} (n : Sz) (k : Sz → ρ) : ρ :=
  match n with
  | .l n => k (.l n)
  | .s n => k (.s n)
def forceF {ρ : Type} (v : FV) (k : FV → ρ) : ρ :=
  match v with
  | .u => k .u
  | .b x => k (.b x)
  | .i d n => k (.i d n)
  | .s x => k (.s x)
  | .q n g => k (.q n g)
def forceCol {ρ : Type} (c : Col) (k : Col → ρ) : ρ :=
  match c with
  | .i d g => k (.i d g)
  | .b g => k (.b g)
  | .s g => k (.s g)
  | .u => k .u
  | .q n g => k (.q n g)
def forceCols {ρ : Type} (l : List Col) : (List Col → ρ) → ρ :=
  List.rec (motive := fun _ => (List Col → ρ) → ρ) (fun k => k []) (fun a _ ih k => forceCol a fun a => ih fun l => k (a :: l)) l
def forceFs {ρ : Type} (l : List FV) : (List FV → ρ) → ρ :=
  List.rec (motive := fun _ => (List FV → ρ) → ρ) (fun k => k []) (fun a _ ih k => forceF a fun a => ih fun l => k (a :: l)) l
def forceC {ρ : Type} (c : CV) (k : CV → ρ) : ρ :=
  match c with
  | .f v => forceF v fun v => k (.f v)
  | .ptr b o n => forceO o fun o => k (.ptr b o n)
  | .cl f b o n => forceO o fun o => k (.cl f b o n)
  | .nilp => k .nilp
  | .sl b o l z w => forceO o fun o => forceZ l fun l => k (.sl b o l z w)
  | .nils => k .nils
  | .nilf => k .nilf
  | .nili => k .nili
  | .fs n z cols => forceCols cols fun cols => k (.fs n z cols)
  | .fp l => forceFs l fun l => k (.fp l)
def forceSg {ρ : Type} (s : Sg) (k : Sg → ρ) : ρ :=
  match s with
  | .c v => forceC v fun v => k (.c v)
  | .a n cols => forceZ n fun n => forceCols cols fun cols => k (.a n cols)
def forceB {ρ : Type} (l : Blk) : (Blk → ρ) → ρ :=
  List.rec (motive := fun _ => (Blk → ρ) → ρ) (fun k => k []) (fun a _ ih k => forceSg a fun a => ih fun l => k (a :: l)) l
def forceR {ρ : Type} (r : RV) (k : RV → ρ) : ρ :=
  match r with
  | .c c => forceC c fun c => k (.c c)
  | .agg b => forceB b fun b => k (.agg b)
def forceRs {ρ : Type} (l : List RV) : (List RV → ρ) → ρ :=
  List.rec (motive := fun _ => (List RV → ρ) → ρ) (fun k => k []) (fun a _ ih k => forceR a fun a => ih fun l => k (a :: l)) l
def forceV {ρ : Type} (v : AV) (k : AV → ρ) : ρ :=
  match v with
  | .r r => forceR r fun r => k (.r r)
  | .tup rs => forceRs rs fun rs => k (.tup rs)
  | .fn f rs => forceRs rs fun rs => k (.fn f rs)
  | .und => k .und
def forceU {ρ : Type} (u : Up) (k : Up → ρ) : ρ :=
  match u with
  | .t i v => forceV v fun v => k (.t i v)
  | .c b o vs => forceO o fun o => forceB vs fun vs => k (.c b o vs)
  | .new b blk => forceB blk fun blk => k (.new b blk)
  | .kill b => k (.kill b)
def forceUs {ρ : Type} (l : List Up) : (List Up → ρ) → ρ :=
  List.rec (motive := fun _ => (List Up → ρ) → ρ) (fun k => k []) (fun a _ ih k => forceU a fun a => ih fun l => k (a :: l)) l
def forceVs {ρ : Type} (l : List AV) : (List AV → ρ) → ρ :=
  List.rec (motive := fun _ => (List AV → ρ) → ρ) (fun k => k []) (fun a _ ih k => forceV a fun a => ih fun l => k (a :: l)) l
def forceOB {ρ : Type} (u : Option Blk) (k : Option Blk → ρ) : ρ :=
  match u with
  | some b => forceB b fun b => k (some b)
  | none => k none
def forceBs {ρ : Type} (l : List (Option Blk)) : (List (Option Blk) → ρ) → ρ :=
  List.rec (motive := fun _ => (List (Option Blk) → ρ) → ρ) (fun k => k []) (fun a _ ih k => forceOB a fun a => ih fun l => k (a :: l)) l
def forceAll {ρ : Type} (s : St) (k : St → ρ) : ρ :=
  match s with
  | ⟨t, h, d⟩ => forceVs t fun t => forceBs h fun h => forceL d fun d => k ⟨t, h, d⟩
def Up.appK {ρ : Type} (k : Nat) (u : Up) (s : St) (c : St → Option ρ) : Option ρ :=
  match u with
  | .t i v => setN s.tmps i v fun t => c { s with tmps := t }
  | .c b o v => match s.blk b with
    | some blk => match blk.upd o v with
      | some p => match p.1 && Nat.ble (o.val + Blk.size v) (Blk.size blk) with
        | true => forceB p.2 fun blk => setN s.heap b (some blk) fun h => forceL (mark k b s.dirt) fun d => c { s with heap := h, dirt := d }
        | false => none
      | none => none
    | none => none
  | .new b blk => match Nat.beq b s.heap.length with
    | true => forceL (s.heap ++ [some blk]) fun h => c { s with heap := h }
    | false => none
  | .kill b => setN s.heap b none fun h => forceL (mark k b s.dirt) fun d => c { s with heap := h, dirt := d }
def appK {ρ : Type} (k : Nat) (us : List Up) : St → (St → Option ρ) → Option ρ :=
  List.rec (motive := fun _ => St → (St → Option ρ) → Option ρ) (fun s c => c s) (fun u _ ih s c => u.appK k s fun s => ih s c) us
def runOps (P : Program) (E : Env) (nt k : Nat) (ops : List Oper) {ρ : Type} : List Oper → St → List Tr → (St → List Tr → Option ρ) → Option ρ
  | [], s, l, c => c s l
  | o :: rest, s, l, c =>
    let go (s : St) (fp : List Fp) : Option ρ :=
      (aop P E o s.heap.length).run s fp fun us fp => forceUs us fun us => appK k us s fun s' => forceL (l ++ [⟨fp, us⟩]) fun l => runOps P E nt k ops rest s' l c
    let skip (s : St) (fp : List Fp) : Option ρ := appK k (dstU o.dst udf) s fun s' => forceL (l ++ [⟨fp, dstU o.dst udf⟩]) fun l => runOps P E nt k ops rest s' l c
    match dstOk o nt with
    | false => none
    | true =>
    match o.guard with
    | none => go s []
    | some (j, want) => match guardSlot ops j with
      | none => none
      | some t => match s.tmp t with
        | .r (.c (.f (.b x))) => match x with
          | true => setN s.tmps t (.r (.c (.f (.b true)))) fun ts => match want with | true => go { s with tmps := ts } [.t t] | false => skip { s with tmps := ts } [.t t]
          | false => setN s.tmps t (.r (.c (.f (.b false)))) fun ts => match want with | true => skip { s with tmps := ts } [.t t] | false => go { s with tmps := ts } [.t t]
        | .tup [] => skip s [.t t]
        | _ => none

inductive AX where
  | nrm
  | ex (id : Nat)
  | ret

/-! what is no more reached is dropped at a loop's head and at the end; the rest is numbered anew -/
def idx (b : Nat) : List Nat → Nat → Option Nat
  | [], _ => none
  | x :: l, i => match Nat.beq x b with
    | true => some i
    | false => idx b l (i + 1)
def renId (H b : Nat) (m : List Nat) : Nat × List Nat :=
  match Nat.ble H b with
  | true => match idx b m 0 with
    | some i => (H + i, m)
    | none => (H + m.length, m ++ [b])
  | false => (b, m)
def gcC (H : Nat) (c : CV) (m : List Nat) : CV × List Nat :=
  match c with
  | .ptr b o n => let x := renId H b m; (.ptr x.1 o n, x.2)
  | .cl f b o n => let x := renId H b m; (.cl f x.1 o n, x.2)
  | .sl b o l z w => let x := renId H b m; (.sl x.1 o l z w, x.2)
  | c => (c, m)
def gcL {α : Type} (g : α → List Nat → α × List Nat) : List α → List Nat → List α × List Nat
  | [], m => ([], m)
  | a :: l, m => let x := g a m; let y := gcL g l x.2; (x.1 :: y.1, y.2)
def gcS (H : Nat) (s : Sg) (m : List Nat) : Sg × List Nat :=
  match s with
  | .c c => let x := gcC H c m; (.c x.1, x.2)
  | s => (s, m)
def gcR (H : Nat) (r : RV) (m : List Nat) : RV × List Nat :=
  match r with
  | .c c => let x := gcC H c m; (.c x.1, x.2)
  | .agg cs => let x := gcL (gcS H) cs m; (.agg x.1, x.2)
def gcA (H : Nat) (a : AV) (m : List Nat) : AV × List Nat :=
  match a with
  | .r r => let x := gcR H r m; (.r x.1, x.2)
  | .tup rs => let x := gcL (gcR H) rs m; (.tup x.1, x.2)
  | .fn f rs => let x := gcL (gcR H) rs m; (.fn f x.1, x.2)
  | .und => (.und, m)
def gcB (H : Nat) (b : Option Blk) (m : List Nat) : Option Blk × List Nat :=
  match b with
  | some cs => let x := gcL (gcS H) cs m; (some x.1, x.2)
  | none => (none, m)
def gcN (H : Nat) (heap : List (Option Blk)) : Nat → Nat → List Nat → List (Option Blk) → Option (List (Option Blk) × List Nat)
  | 0, _, _, _ => none
  | fuel + 1, i, m, acc => match m[i]? with
    | none => some (acc, m)
    | some b => let x := gcB H ((heap[b]?).getD none) m; gcN H heap fuel (i + 1) x.2 (acc ++ [x.1])
def gcO (k : Nat) (d : List Nat) (H : Nat) : List (Option Blk) → Nat → List Nat → List (Option Blk) × List Nat
  | [], _, m => ([], m)
  | b :: l, j, m => match Nat.blt j k && !d.any (Nat.beq j) with
    | true => let y := gcO k d H l (j + 1) m; (b :: y.1, y.2)
    | false => let x := gcB H b m; let y := gcO k d H l (j + 1) x.2; (x.1 :: y.1, y.2)
def St.gc (k : Nat) (s : St) (H : Nat) : Option St :=
  match Nat.ble H s.heap.length with
  | false => none
  | true =>
  let x := gcL (gcA H) s.tmps []
  let y := gcO k s.dirt H (s.heap.take H) 0 x.2
  match gcN H s.heap 1000 0 y.2 [] with
  | some z => some { s with tmps := x.1, heap := y.1 ++ z.1 }
  | none => none
structure Hd where
  id : Nat
  kills : List Nat
  nils : List (Nat × List CK)
structure Sm where
  id : Nat
  kk : Nat
  run : ∀ {ρ : Type}, St → (AX → St → Option ρ) → Option ρ
structure Jn where
  hd : Hd
  sm : Sm
structure Hs where
  hd : List Hd
  sm : List Sm
  dirt : List Nat
  jn : List Jn
  rk : Option Hd
def firstId : Code → Option Nat
  | .region id _ _ => some id
  | .seq a _ => firstId a
  | .block _ a => firstId a
  | .loop a => firstId a
  | _ => none
def offC (c : CV) : CV :=
  match c with
  | .sl b o len z own => match o with
    | .k c => .sl b (.x c 0 z) len z own
    | o => .sl b o len z own
  | c => c
/-! cells one by one: in temps, in blocks that may have been written -/
def mapS (g : CV → CV) (s : Sg) : Sg :=
  match s with
  | .c v => .c (g v)
  | s => s
def mapA (g : CV → CV) (a : AV) : AV :=
  match a with
  | .r (.c v) => .r (.c (g v))
  | a => a
def mapH (g : CV → CV) (k : Nat) (d : List Nat) : List (Option Blk) → Nat → List (Option Blk)
  | [], _ => []
  | b :: l, j => (match Nat.blt j k && !d.any (Nat.beq j) with
    | true => b
    | false => b.map fun b => b.map (mapS g)) :: mapH g k d l (j + 1)
def renB (b n x : Nat) : Nat :=
  match Nat.beq x b with
  | true => n
  | false => x
def renC (b n : Nat) (c : CV) : CV :=
  match c with
  | .ptr x o m => .ptr (renB b n x) o m
  | .cl f x o m => .cl f (renB b n x) o m
  | .sl x o l z w => .sl (renB b n x) o l z w
  | c => c
def lenC (c : CV) : CV :=
  match c with
  | .sl b o len z own => .sl b o (.s len.val) z own
  | c => c
def rowC (c : CV) : CV := lenC (offC c)
def rowS (s : Sg) : Sg :=
  match s with
  | .c v => .c (rowC v)
  | s => s
def rowA (a : AV) : AV :=
  match a with
  | .r (.c v) => .r (.c (rowC v))
  | a => a
def slC (c : CV) (l : List (Nat × Nat)) : List (Nat × Nat) :=
  match c with
  | .sl b _ _ z _ => (b, z) :: l
  | _ => l
def slSg (s : Sg) (l : List (Nat × Nat)) : List (Nat × Nat) :=
  match s with
  | .c v => slC v l
  | _ => l
def slAV (a : AV) (l : List (Nat × Nat)) : List (Nat × Nat) :=
  match a with
  | .r (.c v) => slC v l
  | _ => l
def slOB (b : Option Blk) (l : List (Nat × Nat)) : List (Nat × Nat) :=
  match b with
  | some b => b.foldr slSg l
  | none => l
def sls (s : St) : List (Nat × Nat) := s.tmps.foldr slAV (s.heap.foldr slOB [])
def findZ (j : Nat) : List (Nat × Nat) → Option Nat
  | [] => none
  | p :: l => match Nat.beq p.1 j with
    | true => some p.2
    | false => findZ j l
def rowZ (l : List (Nat × Nat)) (j : Nat) (b : Blk) : Blk :=
  match findZ j l with
  | some z => toS (toRow z (b.map rowS))
  | none => b.map rowS
def rowH (k : Nat) (d : List Nat) (sl : List (Nat × Nat)) : List (Option Blk) → Nat → List (Option Blk)
  | [], _ => []
  | b :: l, j => (match Nat.blt j k && !d.any (Nat.beq j) with
    | true => b
    | false => b.map fun b => rowZ sl j b) :: rowH k d sl l (j + 1)
def moveB (k b : Nat) (s : St) : St :=
  match s.blk b with
  | some blk => match Nat.blt b k with
    | true => { s with tmps := s.tmps.map (mapA (renC b s.heap.length)), heap := mapH (renC b s.heap.length) k (mark k b s.dirt) (s.heap.set b none ++ [some blk]) 0, dirt := mark k b s.dirt }
    | false => s
  | none => s
def nilE (k : Nat) (s : St) (p : Nat × List CK) : St :=
  match p.2 with
  | [] => match p.1 with
    | 0 => { s with tmps := s.tmps.map (mapA offC), heap := mapH offC k s.dirt s.heap 0 }
    | 1 => { s with tmps := s.tmps.map rowA, heap := rowH k s.dirt (sls s) s.heap 0 }
    | b + 2 => moveB k b s
  | _ :: _ => match s.tmp p.1 with
    | .r (.c .nils) => { s with tmps := s.tmps.set p.1 (.r (.c (.sl s.heap.length (.k 0) (.s 0) p.2.length true))), heap := s.heap ++ [some [.a (.s 0) (p.2.map CK.col)]] }
    | _ => s
def findHd (id : Nat) : List Hd → Option Hd
  | [] => none
  | h :: l => match Nat.beq h.id id with
    | true => some h
    | false => findHd id l
def findSm (id : Nat) : List Sm → Option Sm
  | [] => none
  | h :: l => match Nat.beq h.id id with
    | true => some h
    | false => findSm id l
def smOf (hs : Hs) (a : Code) : Option Sm :=
  match firstId a with
  | none => none
  | some id => findSm id hs.sm
def St.headH (k : Nat) (s : St) (h : Hd) : Option St := ((h.nils.foldl (nilE k) { s with tmps := h.kills.foldl (fun l t => l.set t und) s.tmps }).gc k k)
def St.head (k : Nat) (s : St) (hs : Hs) (body : Code) : Option St :=
  match firstId body with
  | none => s.gc k k
  | some id => match findHd id hs.hd with
    | none => s.gc k k
    | some h => s.headH k h
def findJn (id : Nat) : List Jn → Option Jn
  | [] => none
  | h :: l => match Nat.beq h.sm.id id with
    | true => some h
    | false => findJn id l
def jnOf (hs : Hs) (b : Code) : Option Jn :=
  match hs.jn with
  | [] => none
  | j :: l => match firstId b with
    | none => none
    | some id => findJn id (j :: l)
def joinsOf (hs : Hs) : Code → List Code
  | .seq a b => (match jnOf hs b with
    | some _ => [b]
    | none => []) ++ (joinsOf hs a ++ joinsOf hs b)
  | .cond _ a b => joinsOf hs a ++ joinsOf hs b
  | .block _ a => joinsOf hs a
  | .loop a => joinsOf hs a
  | _ => []
def seqAt (id : Nat) : Code → Option Code
  | .seq a b => match (match firstId b with
      | some i => Nat.beq i id
      | none => false) with
    | true => some b
    | false => match seqAt id a with
      | some c => some c
      | none => seqAt id b
  | .cond _ a b => match seqAt id a with
    | some c => some c
    | none => seqAt id b
  | .block _ a => seqAt id a
  | .loop a => seqAt id a
  | _ => none

def loopAt (id : Nat) : Code → Option Code
  | .seq a b => match loopAt id a with
    | some c => some c
    | none => loopAt id b
  | .cond _ a b => match loopAt id a with
    | some c => some c
    | none => loopAt id b
  | .block _ a => loopAt id a
  | .loop a => match firstId a with
    | some j => match Nat.beq j id with
      | true => some a
      | false => loopAt id a
    | none => loopAt id a
  | _ => none
def loopsOf : Code → List Code
  | .seq a b => loopsOf a ++ loopsOf b
  | .cond _ a b => loopsOf a ++ loopsOf b
  | .block _ a => loopsOf a
  | .loop a => a :: loopsOf a
  | _ => []
def bodyOf (P : Program) (f : FuncId) : Code := ((P.funcs[f]?).bind (·.body)).getD .skip
def loopIn (P : Program) (f : FuncId) (id : Nat) : Code := (loopAt id (bodyOf P f)).getD .skip
def joinIn (P : Program) (f : FuncId) (id : Nat) : Code := (seqAt id (bodyOf P f)).getD .skip
def tmpsOf (P : Program) (f : FuncId) : Nat := ((P.funcs[f]?).map (·.ntmps)).getD 0
def iter {ρ : Type} (hd : St → Option St) (body : St → (AX → St → Option ρ) → Option ρ) (k : AX → St → Option ρ) (n : Nat) : St → Option ρ :=
  Nat.rec (fun _ => none) (fun _ ih s => body s fun e s => match e with
      | .nrm => match hd s with
        | none => none
        | some s => forceAll s ih
      | e => k e s) n

def next {ρ : Type} (hd : St → Option St) (c : St → Option ρ) (k : AX → St → Option ρ) : AX → St → Option ρ := fun e s => match e with
  | .nrm => match hd s with
    | none => none
    | some s => forceAll s c
  | e => k e s
def runC (P : Program) (E : Env) (hs : Hs) (nt kk : Nat) (lf : Nat) {ρ : Type} : Code → St → (AX → St → Option ρ) → Option ρ
  | .skip, s, k => k .nrm s
  | .region _ ops draw, s, k => match draw with
    | false => runOps P E nt kk ops.toList ops.toList s [] fun s _ => k .nrm s
    | true => runOps P E nt kk ops.toList ops.toList s [] fun s l => match edgesOk ops.toList 0 && okPairs (masks ops.toList []) l 0 with
      | true => k .nrm s
      | false => none
  | .seq a b, s, k => runC P E hs nt kk lf a s fun e s => match e with
    | .nrm => match jnOf hs b with
      | none => runC P E hs nt kk lf b s k
      | some j => match s.headH kk j.hd with
        | none => none
        | some s => forceAll s fun s => match Nat.beq j.sm.kk kk with
          | true => j.sm.run s k
          | false => none
    | e => k e s
  | .cond (.tmp t) a b, s, k => match s.tmp t with
    | .r (.c (.f (.b x))) => match x with
      | true => runC P E hs nt kk lf a s k
      | false => runC P E hs nt kk lf b s k
    | _ => none
  | .block id a, s, k => runC P E hs nt kk lf a s fun e s => match e with
    | .ex j => match Nat.beq j id with
      | true => k .nrm s
      | false => k (.ex j) s
    | e => k e s
  | .loop a, s, k => match s.head kk hs a with
    | none => none
    | some s => forceAll s fun s => match smOf hs a with
      | some σ => match Nat.beq σ.kk kk with
        | true => σ.run s k
        | false => none
      | none => iter (fun t => t.head kk hs a) (runC P E hs nt kk lf a) k lf s
  | .exit id, s, k => k (.ex id) s
  | .ret, s, k => match hs.rk with
    | none => k .ret s
    | some h => match s.headH kk h with
      | none => none
      | some s => forceAll s fun s => k .ret s
  | _, _, _ => none

/-! a function -/
def resV (P : Program) (s : St) : ResultVar → Option RV
  | .tmp t => match s.tmp t with
    | .r v => some v
    | _ => none
  | .cell a t => match s.tmp a with
    | .r (.c (.ptr b o m)) => match aggT P t, sizeT P t, s.blk b, o with
      | some true, some n, some blk, .k c => match Nat.ble n m with
        | true => (subK blk c (.l 1) n).map .agg
        | false => none
      | some false, some _, some blk, .k c => match Nat.ble 1 m with
        | true => match subK blk c (.l 1) 1 with
          | some [.c v] => some (.c v)
          | _ => none
        | false => none
      | _, _, _, _ => none
    | _ => none
def resVs (P : Program) (s : St) : List ResultVar → Option (List RV)
  | [] => some []
  | r :: l => match resV P s r, resVs P s l with
    | some v, some vs => some (v :: vs)
    | _, _ => none
def one : List RV → AV
  | [v] => .r v
  | vs => .tup vs
def chgs (s : List Nat) : List (Option Blk) → Nat → List Ch
  | [], _ => []
  | b :: l, j => (match s.any (Nat.beq j) with
    | false => Ch.keep
    | true => match b with
      | some b => .set b
      | none => .kill) :: chgs s l (j + 1)
def somes {α : Type} : List (Option α) → Option (List α)
  | [] => some []
  | some a :: l => (somes l).map (a :: ·)
  | none :: _ => none
def forceRes {ρ : Type} (v : AV) (c : List Ch) (n : List Blk) (k : Res → ρ) : ρ :=
  forceV v fun v => forceL c fun c => forceL n fun n => k ⟨v, c, n⟩
def fin (P : Program) (fn : Func) (k : Nat) (e : AX) (s : St) : Option Res :=
  match e with
  | .ex _ => none
  | _ => match resVs P s fn.results.toList with
    | none => none
    | some vs =>
      let x := gcA k (one vs) []
      let y := gcO k s.dirt k (s.heap.take k) 0 x.2
      match gcN k s.heap 1000 0 y.2 [] with
      | some z => match somes z.1 with
        | some news => some { val := x.1, chg := chgs s.dirt y.1 0, news }
        | none => none
      | none => none
def start (fn : Func) (args : List AV) (h : List Blk) (d : List Nat) : St :=
  { tmps := args ++ List.replicate (fn.ntmps - args.length) udf, heap := h.map some, dirt := d }
def den (P : Program) (E : Env) (hs : Hs) (lf : Nat) (f : FuncId) (args : List AV) (h : List Blk) : Option Res :=
  match P.funcs[f]? with
  | none => none
  | some fn => match fn.body with
    | none => none
    | some c => match hs.dirt.all fun b => Nat.blt b h.length with
      | false => none
      | true => forceAll (start fn args h hs.dirt) fun s => runC P E hs fn.ntmps h.length lf c s (fin P fn h.length)

end Go.Ab
