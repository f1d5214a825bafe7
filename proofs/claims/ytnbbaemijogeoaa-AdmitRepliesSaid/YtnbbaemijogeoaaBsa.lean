/- An evaluator over plain data for a program's functions: what is read is a list, what is made is a block of a small heap. Definitions. No program in sight. Plain arithmetic of the sum of bytes: no program in sight. How slices of bytes, and slices of these, lie in memory. A region that draws its order: walked once, in the order of the text. Each operation hands back a value of which a fact is known that lasts while the world grows; it may lean on the facts of those operations alone that it waits for. No program in sight. A drawn region in which a store waits for all that stands ahead of it but for some moves of slots: as good as where it waits for these, too. No program in sight. The evaluator: calls, regions, code, functions. Definitions. No program in sight. The evaluator's values and heaps beside those of the model: the relation, and what keeps it. No program in sight. Blocks written, given up, taken over; lists of cells. No program in sight. Operations over memory: what the evaluator says is what the model does. No program in sight. Stores, places in memory, parts of values. No program in sight. append(v, s...), v the call's own bytes, s a string. No program in sight. Indexes, cuts, conversions. No program in sight. Conversions, make, append, copy. No program in sight. Sources of cells, append, copy, make. No program in sight. -/
import Derived.WalkKit
import Derived.LoopN
import Derived.Scope
import Derived.Orders
import Derived.Laws.BitsAllLaws
import Derived.Deep.Draws
import Derived.Deep.QuietTactic
import Derived.Laws.AppendOwn
import Derived.Laws.OwnMore
import Derived.ArgAppend
import Derived.Tactics
import Derived.Laws.Tables
import Derived.Laws.CopyOwn
import Derived.Lib.AppendStr
import Derived.Laws.IdiomStrings
import Derived.Laws.MakeOwn
namespace Go.Proofs.Ytnbbaemijogeoaa.Ae
open Go

/-- A value. -/
inductive AVal where
  | undef
  | bool (b : Bool)
  | int (k : IntKind) (n : Int)
  | byte (x : UInt8)
  | str (l : List UInt8)
  | nilS
  | sl (b off len sz : Nat)
  | roB (l : List UInt8)
  | ro (n sz : Nat) (f : Nat → List AVal)
  | nilP
  | ptr (b off : Nat)
  | rop (cs : List AVal)
  | agg (cs : List AVal)
  | tup (vs : List AVal)
  | fn (f : Nat) (first cap : List AVal)
  | nilF

/-- What a block of the call's own holds. 'flat': values without addresses. -/
inductive ABlk where
  | dead
  | bytes (l : List UInt8)
  | vals (cs : List AVal)
  | flat (cs : List AVal)

abbrev Hp := List ABlk
abbrev Env := List (Nat × AVal)

structure Eff where
  sets : List (Nat × ABlk)
  news : List ABlk

structure Res where
  pre : Option Prop
  v : AVal
  eff : Eff

def noEff : Eff := ⟨[], []⟩

inductive AExit where
  | normal
  | exit (id : Nat)
  | ret

structure St where
  env : Env
  heap : Hp

/-! ### small helpers -/
def natEq (a b : Nat) : Bool := Nat.beq a b
def eget (t : Nat) : Env → AVal
  | [] => .undef
  | (u, v) :: r => cond (Nat.beq t u) v (eget t r)
def elemN (k : Nat) : List Nat → Bool
  | [] => false
  | j :: r => cond (Nat.beq k j) true (elemN k r)
def pw : Nat → Int
  | 1 => 2
  | 4 => 16
  | 6 => 64
  | 8 => 256
  | 16 => 65536
  | 24 => 16777216
  | 32 => 4294967296
  | n => 2 ^ n
def I64 (n : Int) : Prop := -9223372036854775808 ≤ n ∧ n ≤ 9223372036854775807
def big : Nat := 4611686018427387904
def room : Nat := 140737488355328
def b8 (n : Int) : UInt8 := UInt8.ofNat (n % 256).toNat

def AVal.cells : AVal → List AVal
  | .agg cs => cs
  | v => [v]
/-- may it be laid into memory? -/
def okCell : AVal → Bool
  | .tup _ | .undef => false
  | _ => true
def ABlk.len : ABlk → Nat
  | .dead => 0
  | .bytes l => l.length
  | .vals cs => cs.length
  | .flat cs => cs.length

def hget (k : Nat) : Hp → ABlk
  | [] => .dead
  | b :: r => match k with
    | 0 => b
    | k + 1 => hget k r
def hset : Nat → ABlk → Hp → Hp
  | _, _, [] => []
  | 0, b, _ :: r => b :: r
  | k + 1, b, c :: r => c :: hset k b r
def hsets : List (Nat × ABlk) → Hp → Hp
  | [], H => H
  | (k, b) :: r, H => hsets r (hset k b H)
def Eff.app (e : Eff) (H : Hp) : Hp := hsets e.sets H ++ e.news

def toBytes : List AVal → Option (List UInt8)
  | [] => some []
  | .byte x :: r => match toBytes r with
    | some l => some (x :: l)
    | none => none
  | _ :: _ => none

/-- literal lists: a part, or none if there is not so much -/
def takeN : Nat → List AVal → Option (List AVal)
  | 0, _ => some []
  | _ + 1, [] => none
  | n + 1, x :: r => match takeN n r with
    | some l => some (x :: l)
    | none => none
def dropN : Nat → List AVal → Option (List AVal)
  | 0, l => some l
  | _ + 1, [] => none
  | n + 1, _ :: r => dropN n r
def partN (off n : Nat) (l : List AVal) : Option (List AVal) := match dropN off l with
  | some r => takeN n r
  | none => none
/-- cells put over others, from a place on -/
def putN : Nat → List AVal → List AVal → Option (List AVal)
  | _ + 1, _, [] => none
  | n + 1, vs, x :: r => match putN n vs r with
    | some l => some (x :: l)
    | none => none
  | 0, [], l => some l
  | 0, _ :: _, [] => none
  | 0, v :: vs, _ :: r => match putN 0 vs r with
    | some l => some (v :: l)
    | none => none

/-! ### constants and operands -/
def ofConst : Value → Option AVal
  | .bool b => some (.bool b)
  | .int .u8 n => if 0 ≤ n ∧ n < 256 then some (.byte (UInt8.ofNat n.toNat)) else none
  | .int k n => some (.int k n)
  | .string s => if s.size ≤ 1000000 then some (.str s.data.toList) else none
  | .pointer none => some .nilP
  | .slice none 0 0 => some .nilS
  | .nilFunc => some .nilF
  | _ => none
def ofConsts : List Value → Option (List AVal)
  | [] => some []
  | v :: r => match ofConst v, ofConsts r with
    | some a, some l => some (a :: l)
    | _, _ => none
/-- a type's zero value, cell by cell -/
def zeroCells' : Value → Option (List AVal)
  | .agg cs => ofConsts cs.toList
  | v => match ofConst v with
    | some a => some [a]
    | none => none
def oper (env : Env) : Operand → Option AVal
  | .tmp t => some (eget t env)
  | .const v => ofConst v
  | .func f => some (.fn f [] [])
  | .global _ => none
def opers (env : Env) : List Operand → Option (List AVal)
  | [] => some []
  | x :: r => match oper env x, opers env r with
    | some a, some l => some (a :: l)
    | _, _ => none

/-! ### arithmetic -/
def cmpF (op : BinOp) (x y : Int) : Option Bool := match op with
  | .eql => some (decide (x = y))
  | .neq => some (!decide (x = y))
  | .lss => some (decide (x < y))
  | .leq => some (decide (x ≤ y))
  | .gtr => some (decide (y < x))
  | .geq => some (decide (y ≤ x))
  | _ => none
def is64 : IntKind → Bool
  | .i64 => true
  | _ => false
def kindEq (a b : IntKind) : Bool := match a, b with
  | .i8, .i8 | .i16, .i16 | .i32, .i32 | .i64, .i64 | .u8, .u8 | .u16, .u16 | .u32, .u32 | .u64, .u64 => true
  | _, _ => false
def arithF (op : BinOp) (k : IntKind) (x y : Int) : Option (Option Prop × AVal) := match op with
  | .add => match is64 k with
    | true => some (some (I64 (x + y)), .int k (x + y))
    | false => some (none, .int k (k.wrap (x + y)))
  | .sub => match is64 k with
    | true => some (some (I64 (x - y)), .int k (x - y))
    | false => some (none, .int k (k.wrap (x - y)))
  | .mul => match is64 k with
    | true => some (some (I64 (x * y)), .int k (x * y))
    | false => some (none, .int k (k.wrap (x * y)))
  | .quo => match is64 k with
    | true => some (some (y ≠ 0 ∧ I64 (x.tdiv y)), .int k (x.tdiv y))
    | false => some (some (y ≠ 0), .int k (k.wrap (x.tdiv y)))
  | .rem => some (some (y ≠ 0), .int k (x.tmod y))
  | .and => some (none, .int k (bits .and k x y))
  | .or => some (none, .int k (bits .or k x y))
  | .xor => some (none, .int k (bits .xor k x y))
  | .andNot => some (none, .int k (bits .andNot k x y))
  | _ => none
def byteF (op : BinOp) (x y : UInt8) : Option (Option Prop × AVal) := match op with
  | .add => some (none, .byte (x + y))
  | .sub => some (none, .byte (x - y))
  | .mul => some (none, .byte (x * y))
  | .quo => some (some (y.toNat ≠ 0), .byte (UInt8.ofNat (x.toNat / y.toNat)))
  | .rem => some (some (y.toNat ≠ 0), .byte (UInt8.ofNat (x.toNat % y.toNat)))
  | .and => some (none, .byte (x &&& y))
  | .or => some (none, .byte (x ||| y))
  | .xor => some (none, .byte (x ^^^ y))
  | .andNot => some (none, .byte (x &&& ~~~y))
  | .eql => some (none, .bool (decide (x = y)))
  | .neq => some (none, .bool (!decide (x = y)))
  | .lss => some (none, .bool (decide (x.toNat < y.toNat)))
  | .leq => some (none, .bool (decide (x.toNat ≤ y.toNat)))
  | .gtr => some (none, .bool (decide (y.toNat < x.toNat)))
  | .geq => some (none, .bool (decide (y.toNat ≤ x.toNat)))
  | _ => none
def shiftF (op : BinOp) (k : IntKind) (x : Int) (n : Int) : Option (Option Prop × AVal) := match op with
  | .shl => match is64 k with
    | true => some (some (0 ≤ n ∧ n < 64 ∧ I64 (x * pw n.toNat)), .int k (x * pw n.toNat))
    | false => some (some (0 ≤ n ∧ n.toNat < k.bits), .int k (k.wrap (x * pw n.toNat)))
  | .shr => some (some (0 ≤ n ∧ n.toNat < k.bits), .int k (x / pw n.toNat))
  | _ => none
def shiftB (op : BinOp) (x : UInt8) (n : Int) : Option (Option Prop × AVal) := match op with
  | .shl => some (some (0 ≤ n ∧ n < 8), .byte (b8 ((x.toNat : Int) * pw n.toNat)))
  | .shr => some (some (0 ≤ n ∧ n < 8), .byte (b8 ((x.toNat : Int) / pw n.toNat)))
  | _ => none
def isShift : BinOp → Bool
  | .shl | .shr => true
  | _ => false
def bytesLess' := Op.bytesLess
def strF (op : BinOp) (x y : List UInt8) : Option (Option Prop × AVal) := match op with
  | .add => some (some (x.length + y.length ≤ big), .str (x ++ y))
  | .eql => some (none, .bool (decide (x = y)))
  | .neq => some (none, .bool (!decide (x = y)))
  | .lss => some (none, .bool (Op.bytesLess x y))
  | .leq => some (none, .bool (Op.bytesLess x y || decide (x = y)))
  | .gtr => some (none, .bool (!(Op.bytesLess x y || decide (x = y))))
  | .geq => some (none, .bool (!Op.bytesLess x y))
  | _ => none

/-- are two cells the same? -/
def cellEq : AVal → AVal → Option Bool
  | .bool a, .bool b => some (decide (a = b))
  | .int k a, .int k' b => match kindEq k k' with
    | true => some (decide (a = b))
    | false => none
  | .byte a, .byte b => some (decide (a = b))
  | .str a, .str b => some (decide (a = b))
  | _, _ => none
def cellsEq : List AVal → List AVal → Option Bool
  | [], [] => some true
  | [x], [y] => cellEq x y
  | x :: r, y :: q => match cellEq x y, cellsEq r q with
    | some a, some b => some (a && b)
    | _, _ => none
  | _, _ => none

def sizeT (P : Program) (t : TypeId) : Option Nat := match P.info? t with
  | some i => some i.size
  | none => none
inductive Kind where
  | agg | one
def kindOf (P : Program) (t : TypeId) : Option Kind := match P.underlying t with
  | some (.struct _) | some (.array _ _) => some .agg
  | some _ => some .one
  | none => none
/-- what the cells of a type are that is compared cell by cell (0: a bool, 1: a number, 2: a string); none: some other type is in it -/
def eqFields (P : Program) (E : TypeId → Option (List Nat)) : List Field → List Nat → Option (List Nat)
  | [], acc => some acc
  | f :: r, acc => match E f.type, sizeT P f.type with
    | some ks, some n => cond (Nat.beq ks.length n && Nat.beq f.offset acc.length && f.name != "_") (eqFields P E r (acc ++ ks)) none
    | _, _ => none
def repN : Nat → List Nat → List Nat
  | 0, _ => []
  | n + 1, z => z ++ repN n z
def eqN (P : Program) : Nat → TypeId → Option (List Nat)
  | 0, _ => none
  | d + 1, t => match P.underlying t with
    | some .bool => some [0]
    | some (.int _) => some [1]
    | some .string => some [2]
    | some (.struct fs) => cond (!P.stoodInHeld t) (eqFields P (eqN P d) fs.toList []) none
    | some (.array n e) => match eqN P d e, sizeT P e with
      | some ks, some k' => cond (Nat.beq ks.length k') (some (repN n ks)) none
      | _, _ => none
    | _ => none
def kindsOk : List Nat → List AVal → Bool
  | [], [] => true
  | 0 :: r, .bool _ :: q => kindsOk r q
  | 1 :: r, .int _ _ :: q => kindsOk r q
  | 1 :: r, .byte _ :: q => kindsOk r q
  | 2 :: r, .str _ :: q => kindsOk r q
  | _, _ => false

def eqF (P : Program) (t : TypeId) (x y : AVal) : Option Bool := match x, y with
  | .agg xs, .agg ys => match eqN P 6 t, kindOf P t with
    | some ks, some .agg => cond (kindsOk ks xs && kindsOk ks ys && Nat.ble 6 P.depth) (cellsEq xs ys) none
    | _, _ => none
  | .bool a, .bool b => match P.underlying t with
    | some .bool => some (decide (a = b))
    | _ => none
  | .nilP, .nilP => match P.underlying t with
    | some (.pointer _) => some true
    | _ => none
  | .ptr _ _, .nilP | .nilP, .ptr _ _ | .rop _, .nilP | .nilP, .rop _ => match P.underlying t with
    | some (.pointer _) => some false
    | _ => none
  | .nilF, .nilF => match P.underlying t with
    | some (.func _ _ _) => some true
    | _ => none
  | .fn _ _ _, .nilF | .nilF, .fn _ _ _ => match P.underlying t with
    | some (.func _ _ _) => some false
    | _ => none
  | .nilS, .nilS => match P.underlying t with
    | some (.slice _) => some true
    | _ => none
  | _, _ => none

def binF (P : Program) (op : BinOp) (t : TypeId) (x y : AVal) : Option (Option Prop × AVal) := match x, y with
  | .int k a, .int k' b => match isShift op with
    | true => shiftF op k a b
    | false => match kindEq k k' with
      | true => match cmpF op a b with
        | some r => some (none, .bool r)
        | none => arithF op k a b
      | false => none
  | .byte a, .int _ b => shiftB op a b
  | .int k a, .byte b => shiftF op k a (b.toNat : Int)
  | .byte a, .byte b => match isShift op with
    | true => shiftB op a (b.toNat : Int)
    | false => byteF op a b
  | .str a, .str b => strF op a b
  | x, y => match op with
    | .eql => match eqF P t x y with
      | some r => some (none, .bool r)
      | none => none
    | .neq => match eqF P t x y with
      | some r => some (none, .bool (!r))
      | none => none
    | _ => none
def unF (op : UnOp) (x : AVal) : Option (Option Prop × AVal) := match op, x with
  | .not, .bool b => some (none, .bool (!b))
  | .neg, .int k n => arithF .sub k 0 n
  | .xor, .int k n => some (none, .int k (bits .xor k (if k.signed then -1 else k.max) n))
  | .xor, .byte x => some (none, .byte (~~~x))
  | _, _ => none

/-! ### memory -/
/-- the bytes of a slice of bytes -/
def bytesOf (H : Hp) : AVal → Option (List UInt8)
  | .nilS => some []
  | .roB l => some l
  | .sl b off len sz => cond (Nat.beq sz 1) (match hget b H with
    | .bytes l => some ((l.drop off).take len)
    | .vals cs => match partN off len cs with
      | some r => toBytes r
      | none => none
    | _ => none) none
  | _ => none
def lenF : AVal → Option Nat
  | .nilS => some 0
  | .str l => some l.length
  | .roB l => some l.length
  | .ro n _ _ => some n
  | .sl _ _ len _ => some len
  | _ => none

def isU8 (P : Program) (t : TypeId) : Bool := match P.underlying t with
  | some (.int .u8) => true
  | _ => false
def zeroT (P : Program) (t : TypeId) : Option (List AVal) := match P.info? t with
  | some i => match i.zero with
    | some v => zeroCells' v
    | none => none
  | none => none

def fromCells (k : Kind) (cs : List AVal) : Option AVal := match k, cs with
  | .agg, cs => some (.agg cs)
  | .one, [v] => some v
  | _, _ => none
def copyBytesV : Nat → Nat → List UInt8 → List AVal
  | 0, _, _ => []
  | n + 1, i, l => .byte (l.getD i 0) :: copyBytesV n (i + 1) l
def loadF (P : Program) (H : Hp) (t : TypeId) (a : AVal) : Option (Option Prop × AVal) := match kindOf P t, sizeT P t with
  | some k, some n => match a with
    | .ptr b off => match hget b H with
      | .bytes l => match k with
        | .one => some (some (off < l.length), .byte (l.getD off 0))
        | .agg => some (some (off + n ≤ l.length), .agg (copyBytesV n off l))
      | .vals cs => match partN off n cs with
        | some r => match fromCells k r with
          | some v => some (none, v)
          | none => none
        | none => none
      | .flat cs => match partN off n cs with
        | some r => match fromCells k r with
          | some v => some (none, v)
          | none => none
        | none => none
      | .dead => none
    | .rop cs => match partN 0 n cs with
      | some r => match fromCells k r with
        | some v => some (none, v)
        | none => none
      | none => none
    | _ => none
  | _, _ => none
def storeF (P : Program) (H : Hp) (t : TypeId) (a v : AVal) : Option (Option Prop × Eff) := match sizeT P t with
  | some n => match a with
    | .ptr b off => match hget b H with
      | .bytes l => match v with
        | .byte x => match n with
          | 1 => some (some (off < l.length), ⟨[(b, .bytes (l.set off x))], []⟩)
          | _ => none
        | _ => none
      | .vals cs => cond (Nat.beq v.cells.length n && okCell v) (match putN off v.cells cs with
        | some r => some (none, ⟨[(b, .vals r)], []⟩)
        | none => none) none
      | _ => none
    | _ => none
  | none => none

def fieldOf (P : Program) (s : TypeId) (i : Nat) : Option (Nat × TypeId) := match P.underlying s with
  | some (.struct fs) => match fs[i]? with
    | some f => some (f.offset, f.type)
    | none => none
  | _ => none
def movePtr (a : AVal) (n : Nat) : Option AVal := match a with
  | .ptr b off => some (.ptr b (off + n))
  | .rop cs => match dropN n cs with
    | some r => some (.rop r)
    | none => none
  | _ => none
def fieldAddrF (P : Program) (s : TypeId) (a : AVal) (i : Nat) : Option AVal := match fieldOf P s i with
  | some (o, t) => match sizeT P t with
    | some (_ + 1) => movePtr a o
    | _ => none
  | none => none
def fieldF (P : Program) (s : TypeId) (x : AVal) (i : Nat) : Option AVal := match fieldOf P s i with
  | some (o, t) => match kindOf P t, sizeT P t, x with
    | some k, some n, .agg cs => match partN o n cs with
      | some r => fromCells k r
      | none => none
    | _, _, _ => none
  | none => none

def intOf : AVal → Option Int
  | .int _ n => some n
  | .byte x => some (x.toNat : Int)
  | _ => none
def indexAddrF (P : Program) (t : TypeId) (x i : AVal) : Option (Option Prop × AVal) := match intOf i with
  | some n => match P.underlying t with
    | some (.slice e) => match sizeT P e, x with
      | some sz, .sl b off len sz' => cond (Nat.beq sz sz') (some (some (0 ≤ n ∧ n < (len : Int)), .ptr b (off + n.toNat * sz))) none
      | some 1, .roB l => some (some (0 ≤ n ∧ n < (l.length : Int)), .rop [.byte (l.getD n.toNat 0)])
      | some sz, .ro m sz' f => cond (Nat.beq sz sz') (some (some (0 ≤ n ∧ n < (m : Int)), .rop (f n.toNat))) none
      | _, _ => none
    | some (.array len e) => match sizeT P e with
      | some sz => match movePtr x (n.toNat * sz) with
        | some a => some (some (0 ≤ n ∧ n < (len : Int)), a)
        | none => none
      | none => none
    | _ => none
  | none => none
def isStrT (P : Program) (t : TypeId) : Bool := match P.underlying t with
  | some .string => true
  | _ => false
def isSlT (P : Program) (t : TypeId) (sz : Nat) : Bool := match P.underlying t with
  | some (.slice e) => match sizeT P e with
    | some n => Nat.beq n sz
    | none => false
  | _ => false
def indexF (P : Program) (t : TypeId) (x i : AVal) : Option (Option Prop × AVal) := match intOf i with
  | some n => match x with
    | .str l => cond (isStrT P t) (some (some (0 ≤ n ∧ n < (l.length : Int)), .byte (l.getD n.toNat 0))) none
    | .agg cs => match P.underlying t with
      | some (.array len e) => match kindOf P e, sizeT P e with
        | some k, some sz => match partN (n.toNat * sz) sz cs with
          | some r => match fromCells k r with
            | some v => some (some (0 ≤ n ∧ n < (len : Int)), v)
            | none => none
          | none => none
        | _, _ => none
      | _ => none
    | _ => none
  | none => none

/-- the bounds of a cut of something so long -/
def bnd (x : Option AVal) : Option (Option Int) := match x with
  | none => some none
  | some v => match intOf v with
    | some n => some (some n)
    | none => none
def cutB (lo hi mx : Option Int) (len : Int) : Option (Option Prop × Int × Int) := match lo, hi, mx with
  | none, none, none => some (none, 0, len)
  | some a, none, none => some (some (0 ≤ a ∧ a ≤ len), a, len)
  | none, some b, none => some (some (0 ≤ b ∧ b ≤ len), 0, b)
  | some a, some b, none => some (some (0 ≤ a ∧ a ≤ b ∧ b ≤ len), a, b)
  | none, some b, some c => some (some (0 ≤ b ∧ b ≤ c ∧ c ≤ len), 0, b)
  | some a, some b, some c => some (some (0 ≤ a ∧ a ≤ b ∧ b ≤ c ∧ c ≤ len), a, b)
  | _, none, some _ => none
def cutL (lo hi : Option Int) (l : List UInt8) : List UInt8 := match lo, hi with
  | none, none => l
  | some a, none => l.drop a.toNat
  | none, some b => l.take b.toNat
  | some a, some b => (l.take b.toNat).drop a.toNat
def cutF (P : Program) (H : Hp) (t : TypeId) (x : AVal) (lo hi mx : Option AVal) : Option (Option Prop × AVal) :=
  match bnd lo, bnd hi, bnd mx with
  | some lo, some hi, some mx => match x with
    | .str l => match mx with
      | none => match isStrT P t, cutB lo hi none (l.length : Int) with
        | true, some (p, _, _) => some (p, .str (cutL lo hi l))
        | _, _ => none
      | some _ => none
    | .roB l => match isSlT P t 1, cutB lo hi mx (l.length : Int) with
      | true, some (p, _, _) => some (p, .roB (cutL lo hi l))
      | _, _ => none
    | .ro n sz f => match isSlT P t sz, cutB lo hi mx (n : Int) with
      | true, some (p, a, b) => some (p, .ro (b.toNat - a.toNat) sz (fun i => f (a.toNat + i)))
      | _, _ => none
    | .sl k off len sz => match isSlT P t sz, cutB lo hi mx (len : Int) with
      | true, some (p, a, b) => some (p, .sl k (off + a.toNat * sz) (b.toNat - a.toNat) sz)
      | _, _ => none
    | .ptr k off => match P.underlying t with
      | some (.array n e) => match sizeT P e, cutB lo hi mx (n : Int) with
        | some sz, some (p, a, b) => match hget k H with
          | .vals cs => cond (Nat.ble (off + n * sz) cs.length && Nat.ble n 1000000) (some (p, .sl k (off + a.toNat * sz) (b.toNat - a.toNat) sz)) none
          | _ => none
        | _, _ => none
      | _ => none
    | _ => none
  | _, _, _ => none

def isBytes (P : Program) (t : TypeId) : Bool := match P.underlying t with
  | some (.slice e) => isU8 P e && (match sizeT P e with | some n => Nat.beq n 1 | none => false)
  | _ => false
def intKind (P : Program) (t : TypeId) : Option IntKind := match P.underlying t with
  | some (.int k) => some k
  | _ => none
def mkInt (k : IntKind) (n : Int) : AVal := match k with
  | .u8 => .byte (b8 n)
  | k => .int k (k.wrap n)
def convF (P : Program) (H : Hp) (src dst : TypeId) (x : AVal) : Option (Option Prop × AVal × Eff) := match x with
  | .int k n => match intKind P dst with
    | some k' => match kindEq k k' with
      | true => match is64 k with
        | true => some (some (I64 n), .int k n, noEff)
        | false => some (none, mkInt k' n, noEff)
      | false => some (none, mkInt k' n, noEff)
    | none => none
  | .byte n => match intKind P dst with
    | some .u8 => some (none, .byte n, noEff)
    | some .i8 => none
    | some k' => some (none, .int k' (n.toNat : Int), noEff)
    | none => none
  | .str l => match isStrT P dst with
    | true => some (none, .str l, noEff)
    | false => match isBytes P dst with
      | true => cond (isStrT P src) (some (some (l.length ≤ room), .sl H.length 0 l.length 1, ⟨[], [.bytes l]⟩)) none
      | false => none
  | x => match isBytes P src, isStrT P dst, bytesOf H x with
    | true, true, some l => some (none, .str l, noEff)
    | _, _, _ => none

def toArrayF (P : Program) (t : TypeId) (x : AVal) : Option (Option Prop × AVal) := match P.underlying t with
  | some (.array n _) => match x with
    | .sl b off len _ => some (some (0 < n ∧ n ≤ len), .ptr b off)
    | _ => none
  | _ => none

/-- parts laid over zeros -/
def layParts (place : Nat → Option (Nat × Nat)) : List AVal → List (Nat × AVal) → Option (List AVal)
  | cs, [] => some cs
  | cs, (i, v) :: r => match place i with
    | some (off, n) => cond (Nat.beq v.cells.length n && okCell v) (match putN off v.cells cs with
      | some cs' => layParts place cs' r
      | none => none) none
    | none => none
def partOpers (env : Env) : List (Nat × Operand) → Option (List (Nat × AVal))
  | [] => some []
  | (i, x) :: r => match oper env x, partOpers env r with
    | some a, some l => some ((i, a) :: l)
    | _, _ => none
def fieldPlaceF (P : Program) (t : TypeId) (i : Nat) : Option (Nat × Nat) := match fieldOf P t i with
  | some (o, u) => match sizeT P u with
    | some n => some (o, n)
    | none => none
  | none => none
def rep : Nat → List AVal → List AVal
  | 0, _ => []
  | n + 1, z => z ++ rep n z
def buildF (P : Program) (t : TypeId) (parts : List (Nat × AVal)) : Option AVal := match zeroT P t, P.underlying t with
  | some z, some (.struct fs) => cond (fs.toList.all fun f => (sizeT P f.type).isSome) (match layParts (fieldPlaceF P t) z parts with
    | some cs => some (.agg cs)
    | none => none) none
  | some z, some (.array _ e) => match sizeT P e with
    | some sz => match layParts (fun i => some (i * sz, sz)) z parts with
      | some cs => some (.agg cs)
      | none => none
    | none => none
  | _, _ => none
/-- a block out of cells -/
def mkBlk (cs : List AVal) : ABlk := match toBytes cs with
  | some l => .bytes l
  | none => .vals cs
def buildSliceF (P : Program) (H : Hp) (t : TypeId) (len : Nat) (parts : List (Nat × AVal)) : Option (AVal × Eff) := match P.underlying t with
  | some (.slice e) => match sizeT P e, zeroT P e with
    | some sz, some z => cond (Nat.ble (len * sz) 100000 && Nat.beq z.length sz && Nat.ble 1 sz) (match layParts (fun i => some (i * sz, sz)) (rep len z) parts with
      | some cs => some (.sl H.length 0 len sz, ⟨[], [mkBlk cs]⟩)
      | none => none) none
    | _, _ => none
  | _ => none
def bytesT (P : Program) (t : TypeId) : Nat := P.bytesOf t
def makeF (P : Program) (H : Hp) (t : TypeId) (n c : AVal) : Option (Option Prop × AVal × Eff) := match P.underlying t, intOf n, intOf c with
  | some (.slice e), some a, some b => match sizeT P e, zeroT P e with
    | some sz, some z => match toBytes z, Nat.beq (bytesT P e) 1 && Nat.beq sz 1 with
      | some [x], true => some (some (0 ≤ a ∧ a = b ∧ a ≤ (room : Int)), .sl H.length 0 a.toNat 1, ⟨[], [.bytes (List.replicate a.toNat x)]⟩)
      | _, _ => cond (Nat.beq z.length sz && Nat.ble 1 sz && Nat.ble 1 (bytesT P e)) (some (some (0 ≤ a ∧ a = b ∧ a * (bytesT P e : Int) ≤ (room : Int)), .sl H.length 0 a.toNat sz, ⟨[], [.vals (rep a.toNat z)]⟩)) none
    | _, _ => none
  | _, _, _ => none

/-! ### builtins -/
/-- the cells of a slice, or of a string -/
inductive Src where
  | bytes (l : List UInt8)
  | vals (cs : List AVal)
  | flat (cs : List AVal)
def Src.len : Src → Nat
  | .bytes l => l.length
  | .vals cs => cs.length
  | .flat cs => cs.length
def srcOf (H : Hp) (sz : Nat) (x : AVal) : Option Src := match x with
  | .nilS => some (.vals [])
  | .str l => cond (Nat.beq sz 1) (some (.bytes l)) none
  | .roB l => cond (Nat.beq sz 1) (some (.bytes l)) none
  | .sl b off len sz' => cond (Nat.beq sz sz') (match hget b H with
    | .bytes l => cond (Nat.beq sz 1) (some (.bytes ((l.drop off).take len))) none
    | .vals cs => match partN off (len * sz) cs with
      | some r => some (.vals r)
      | none => none
    | .flat cs => some (.flat ((cs.drop off).take (len * sz)))
    | .dead => none) none
  | .ro n sz' f => cond (Nat.beq sz sz') (some (.flat ((List.range n).flatMap f))) none
  | _ => none
mutual
def closed : AVal → Bool
  | .sl _ _ _ _ => false
  | .ptr _ _ => false
  | .agg cs => closedL cs
  | .tup vs => closedL vs
  | .fn _ a b => closedL a && closedL b
  | _ => true
def closedL : List AVal → Bool
  | [] => true
  | v :: vs => closed v && closedL vs
end
def joinSrc : ABlk → Src → Option ABlk
  | .bytes l, .bytes k => some (.bytes (l ++ k))
  | .bytes l, .vals [] => some (.bytes l)
  | .bytes [], .vals (x :: k) => some (.vals (x :: k))
  | .bytes [], .flat k => some (.flat k)
  | .vals [], .bytes k => some (.bytes k)
  | .vals [], .flat k => some (.flat k)
  | .vals cs, .vals k => some (.vals (cs ++ k))
  | .flat cs, .vals [] => some (.flat cs)
  | .flat cs, .vals (x :: k) => cond (closedL (x :: k)) (some (.flat (cs ++ x :: k))) none
  | .flat cs, .flat k => some (.flat (cs ++ k))
  | _, _ => none
def zeroLen (P : Program) (e : TypeId) (n : Nat) : Bool := match zeroT P e with
  | some z => Nat.beq z.length n
  | none => false
/-- what follows sees the constructor -/
def forceB {α : Type} (b : ABlk) (k : ABlk → α) : α := match b with
  | .dead => k .dead
  | .bytes l => k (.bytes l)
  | .vals cs => k (.vals cs)
  | .flat cs => k (.flat cs)
theorem forceB_eq {α : Type} (b : ABlk) (k : ABlk → α) : forceB b k = k b := by cases b <;> rfl
def appendF (P : Program) (H : Hp) (t : TypeId) (s x : AVal) : Option (Option Prop × AVal × Eff) := match P.underlying t with
  | some (.slice e) => match sizeT P e with
    | some sz => cond (Nat.ble 1 sz && zeroLen P e sz && Nat.ble 1 (bytesT P e)) (match srcOf H sz x with
      | some src => match lenF x, s with
        | some n, .nilS => match joinSrc (.vals []) src with
          | some B => some (some (n * bytesT P e ≤ room), .sl H.length 0 n sz, ⟨[], [B]⟩)
          | none => none
        | some n, .sl b off len sz' => cond (Nat.beq off 0 && Nat.beq sz sz') (forceB (hget b H) fun B0 => match joinSrc B0 src with
          | some B => some (some ((len + n) * bytesT P e ≤ room ∧ B0.len = len * sz), .sl H.length 0 (len + n) sz, ⟨[(b, .dead)], [B]⟩)
          | none => none) none
        | _, _ => none
      | none => none) none
    | none => none
  | _ => none
def bytesSrc (H : Hp) (x : AVal) : Option (List UInt8) := match x with
  | .str l => some l
  | x => bytesOf H x
def copyF (P : Program) (H : Hp) (t : TypeId) (d x : AVal) : Option (Option Prop × AVal × Eff) := match isBytes P t, d, bytesSrc H x with
  | true, .sl b off len _, some l => match hget b H with
    | .bytes k => some (some (off + l.length ≤ k.length ∧ l.length ≤ len), .int .i64 (l.length : Int), ⟨[(b, .bytes (k.take off ++ (l ++ k.drop (off + l.length))))], []⟩)
    | .vals cs => match putN off (copyBytesV len 0 l) cs with
      | some r => some (some (len ≤ l.length), .int .i64 (len : Int), ⟨[(b, .vals r)], []⟩)
      | none => none
    | _ => none
  | _, _, _ => none
def minF : Bool → AVal → AVal → Option AVal
  | true, .int k a, .int k' b => match kindEq k k' with
    | true => some (.int k (if b < a then b else a))
    | false => none
  | false, .int k a, .int k' b => match kindEq k k' with
    | true => some (.int k (if a < b then b else a))
    | false => none
  | _, _, _ => none

def isSrcT (P : Program) (t : TypeId) : Bool := match P.underlying t with
  | some (.slice _) | some .string => true
  | _ => false
/-- a builtin -/
def builtinF (P : Program) (H : Hp) (b : Builtin) (ts : List TypeId) (args : List AVal) : Option Res := match b, ts, args with
  | .len, t :: _, [x] => match P.underlying t with
    | some (.array n _) => some ⟨none, .int .i64 (n : Int), noEff⟩
    | some .string => match x with
      | .str l => some ⟨none, .int .i64 (l.length : Int), noEff⟩
      | _ => none
    | some (.slice _) => match x with
      | .nilS => some ⟨none, .int .i64 0, noEff⟩
      | .roB l => some ⟨none, .int .i64 (l.length : Int), noEff⟩
      | .ro n _ _ => some ⟨none, .int .i64 (n : Int), noEff⟩
      | .sl _ _ n _ => some ⟨none, .int .i64 (n : Int), noEff⟩
      | _ => none
    | _ => none
  | .append, t :: u :: _, [s, x] => cond (isSrcT P u) (match appendF P H t s x with
    | some (p, v, e) => some ⟨p, v, e⟩
    | none => none) none
  | .copy, t :: _, [d, x] => match copyF P H t d x with
    | some (p, v, e) => some ⟨p, v, e⟩
    | none => none
  | .min, _, [x, y] => match minF true x y with
    | some v => some ⟨none, v, noEff⟩
    | none => none
  | .max, _, [x, y] => match minF false x y with
    | some v => some ⟨none, v, noEff⟩
    | none => none
  | _, _, _ => none

def pickF (b : Bool) (x y : AVal) : AVal := match x, y with
  | .bool u, .bool v => .bool (cond b u v)
  | x, y => cond b x y

def plain (p : Prop) (v : AVal) : Res := ⟨p, v, noEff⟩
def plain? : Option (Option Prop × AVal) → Option Res
  | some (p, v) => some ⟨p, v, noEff⟩
  | none => none
def pure? : Option AVal → Option Res
  | some v => some ⟨none, v, noEff⟩
  | none => none
def oper? (env : Env) : Option Operand → Option (Option AVal)
  | none => some none
  | some x => match oper env x with
    | some v => some (some v)
    | none => none

/-- an operation that is no call of a function -/
def opF (P : Program) (op : Op) (env : Env) (H : Hp) : Option Res := match op with
  | .move x | .assign x => match oper env x with
    | some v => some ⟨none, v, noEff⟩
    | none => none
  | .pick c a b => match oper env c, oper env a, oper env b with
    | some (.bool t), some x, some y => some ⟨none, pickF t x y, noEff⟩
    | _, _, _ => none
  | .alloc t => match zeroT P t with
    | some z => some ⟨none, .ptr H.length 0, ⟨[], [.vals z]⟩⟩
    | none => none
  | .box _ x => match oper env x with
    | some v => cond (okCell v) (some ⟨none, .ptr H.length 0, ⟨[], [.vals v.cells]⟩⟩) none
    | none => none
  | .build t parts => match partOpers env parts.toList with
    | some l => pure? (buildF P t l)
    | none => none
  | .buildSlice t len parts => match partOpers env parts.toList with
    | some l => match buildSliceF P H t len l with
      | some (v, e) => some ⟨none, v, e⟩
      | none => none
    | none => none
  | .load t a => match oper env a with
    | some v => plain? (loadF P H t v)
    | none => none
  | .store t a x => match oper env a, oper env x with
    | some p, some v => match storeF P H t p v with
      | some (c, e) => some ⟨c, .undef, e⟩
      | none => none
    | _, _ => none
  | .nilCheck x => match oper env x with
    | some (.ptr b o) => some ⟨none, .ptr b o, noEff⟩
    | some (.rop cs) => some ⟨none, .rop cs, noEff⟩
    | some (.fn f fi ca) => some ⟨none, .fn f fi ca, noEff⟩
    | _ => none
  | .binOp o t x y _ => match oper env x, oper env y with
    | some a, some b => plain? (binF P o t a b)
    | _, _ => none
  | .unOp o _ x => match oper env x with
    | some a => plain? (unF o a)
    | none => none
  | .convert s d x => match oper env x with
    | some a => cond ((P.underlying s).isSome) (match convF P H s d a with
      | some (p, v, e) => some ⟨p, v, e⟩
      | none => none) none
    | none => none
  | .sliceToArrayPointer t x => match oper env x with
    | some a => plain? (toArrayF P t a)
    | none => none
  | .makeFunc (.func f) first cap => match opers env first.toList, opers env cap.toList with
    | some a, some b => some ⟨none, .fn f a b, noEff⟩
    | _, _ => none
  | .makeSlice t n c => match oper env n, oper env c with
    | some a, some b => match makeF P H t a b with
      | some (p, v, e) => some ⟨p, v, e⟩
      | none => none
    | _, _ => none
  | .slice t x lo hi mx => match oper env x, oper? env lo, oper? env hi, oper? env mx with
    | some a, some l, some h, some m => plain? (cutF P H t a l h m)
    | _, _, _, _ => none
  | .fieldAddr t x i => match oper env x with
    | some a => pure? (fieldAddrF P t a i)
    | none => none
  | .field t x i => match oper env x with
    | some a => pure? (fieldF P t a i)
    | none => none
  | .indexAddr t x i => match oper env x, oper env i with
    | some a, some j => plain? (indexAddrF P t a j)
    | _, _ => none
  | .index t x i => match oper env x, oper env i with
    | some a, some j => plain? (indexF P t a j)
    | _, _ => none
  | .extract x i => match oper env x with
    | some (.tup vs) => match vs[i]? with
      | some v => some ⟨none, v, noEff⟩
      | none => none
    | _ => none
  | .call c => match c.callee with
    | .builtin b => match opers env c.args.toList with
      | some l => builtinF P H b c.argTypes.toList l
      | none => none
    | _ => none
  | _ => none

end Go.Proofs.Ytnbbaemijogeoaa.Ae
namespace Go.Proofs.Ytnbbaemijogeoaa

/-- what adding the high parts to the lowest sixteen bits comes to -/
def fld (n : Int) : Int := if n = 0 then 0 else (n - 1) % 65535 + 1

theorem fld_step (n : Int) (h : 65535 < n) : fld (n % 65536 + n / 65536) = fld n := by
  unfold fld
  rw [if_neg (by omega), if_neg (by omega)]
  omega
theorem fld_small (n : Int) (h0 : 0 ≤ n) (h : n ≤ 65535) : fld n = n := by
  unfold fld; split <;> omega
theorem fld_bd (n : Int) : 0 ≤ fld n ∧ fld n ≤ 65535 := by
  unfold fld; split <;> omega
theorem fld_add (a b : Int) (ha : 0 ≤ a) (hb : 0 ≤ b) : fld (fld a + b) = fld (a + b) := by
  unfold fld
  by_cases h : a = 0
  · simp [h]
  · rw [if_neg h, if_neg (by omega), if_neg (by omega)]; omega
theorem fld_mod (a : Int) : fld a % 65535 = a % 65535 := by
  unfold fld; split <;> omega

/-- the bytes' numbers, added: every second one counts 256 times -/
def raw : Bool → List UInt8 → Nat
  | _, [] => 0
  | true, x :: t => x.toNat * 256 + raw false t
  | false, x :: t => x.toNat + raw true t

@[simp] theorem raw_nil (h : Bool) : raw h [] = 0 := by cases h <;> rfl
theorem raw_cons (h : Bool) (x : UInt8) (t : List UInt8) : raw h (x :: t) = (if h then x.toNat * 256 else x.toNat) + raw (!h) t := by
  cases h <;> simp [raw]

/-- the side on which the next byte counts, behind so many -/
def side (h : Bool) (n : Nat) : Bool := if n % 2 = 0 then h else !h

@[simp] theorem side_zero (h : Bool) : side h 0 = h := by simp [side]
theorem side_succ (h : Bool) (n : Nat) : side h (n + 1) = !(side h n) := by
  unfold side
  by_cases e : n % 2 = 0
  · rw [if_neg (by omega), if_pos e]
  · rw [if_pos (by omega), if_neg e]; simp
theorem side_not (h : Bool) (n : Nat) : side (!h) n = !(side h n) := by
  unfold side; split <;> simp
theorem side_add (h : Bool) (m n : Nat) : side h (m + n) = side (side h m) n := by
  induction n with
  | zero => simp
  | succ n ih => rw [← Nat.add_assoc, side_succ, side_succ, ih]

theorem raw_append (h : Bool) (a b : List UInt8) : raw h (a ++ b) = raw h a + raw (side h a.length) b := by
  induction a generalizing h with
  | nil => simp
  | cons x t ih =>
    rw [List.cons_append, raw_cons, raw_cons, ih, List.length_cons, side_succ, side_not]
    omega
theorem raw_snoc (h : Bool) (a : List UInt8) (x : UInt8) : raw h (a ++ [x]) = raw h a + (if side h a.length then x.toNat * 256 else x.toNat) := by
  rw [raw_append, raw_cons]; simp

theorem raw_bd2 (l : List UInt8) : 2 * raw true l ≤ 65535 * l.length + 65025 ∧ 2 * raw false l ≤ 65535 * l.length := by
  induction l with
  | nil => simp
  | cons x t ih =>
    have hx := x.toNat_lt
    rw [raw_cons, raw_cons]
    simp only [List.length_cons, if_true, Bool.not_true, Bool.not_false, Bool.false_eq_true, if_false]
    omega
theorem raw_bd (h : Bool) (l : List UInt8) : 2 * raw h l ≤ 65535 * l.length + 65025 := by
  have := raw_bd2 l
  cases h <;> omega

theorem raw_zeros (h : Bool) (n : Nat) : raw h (List.replicate n 0) = 0 := by
  induction n generalizing h with
  | zero => simp
  | succ n ih => rw [List.replicate_succ, raw_cons, ih]; cases h <;> simp

/-- the sum of bytes -/
def sumB (l : List UInt8) : Int := fld (raw true l : Int)
theorem sumB_bd (l : List UInt8) : 0 ≤ sumB l ∧ sumB l ≤ 65535 := fld_bd _

theorem sumB_append (a b : List UInt8) (h : a.length % 2 = 0) : sumB (a ++ b) = fld (sumB a + raw true b) := by
  unfold sumB
  rw [raw_append, side, if_pos h, fld_add _ _ (by omega) (by omega)]
  simp

/-- a sum when a number changes -/
def upd (s a b : Int) : Int := 65535 - fld (65535 - s + (65535 - a) + b)
theorem upd_bd (s a b : Int) : 0 ≤ upd s a b ∧ upd s a b ≤ 65535 := by
  have := fld_bd (65535 - s + (65535 - a) + b); unfold upd; omega
theorem upd_mod (s a b : Int) : upd s a b % 65535 = (s + a - b) % 65535 := by
  have := fld_mod (65535 - s + (65535 - a) + b); unfold upd; omega

theorem take_succ_getD {α : Type} (l : List α) (k : Nat) (d : α) (h : k < l.length) : l.take (k + 1) = l.take k ++ [l.getD k d] := by
  rw [List.take_succ_eq_append_getElem h, List.getD_eq_getElem?_getD, List.getElem?_eq_getElem h]; rfl

end Go.Proofs.Ytnbbaemijogeoaa
namespace Go.Proofs.Ytnbbaemijogeoaa
open Go.RowKit

theorem hid {p : Prop} (h : p) : Hid p := h

/-- A byte as a value. -/
abbrev B8 (x : UInt8) : Value := .int .u8 (x.toNat : Int)

/-- The slice value at 'a', with length 'n' and capacity 'cap', holds the values 'vs' in world 'w'. -/
structure Row (w : World) (a : Option Addr) (n cap : Nat) (vs : List Value) : Prop where
  len : n = vs.length
  le : n ≤ cap
  room : n ≤ 140737488355328
  capr : cap ≤ 9223372036854775807
  cells : 0 < n → ∃ b off, a = some ⟨b, off, none⟩ ∧ ∀ i, i < n → w.cell? ⟨b, off + i, none⟩ = some (vs.getD i undef)

/-- .. the bytes 'l'. -/
def Bytes (w : World) (a : Option Addr) (n cap : Nat) (l : List UInt8) : Prop := Row w a n cap (l.map B8)

theorem Bytes.len {w : World} {a : Option Addr} {n cap : Nat} {l : List UInt8} (h : Bytes w a n cap l) : n = l.length := by
  simpa using Row.len h

theorem Bytes.at {w : World} {a : Option Addr} {n cap : Nat} {l : List UInt8} (h : Bytes w a n cap l) (hp : 0 < n) :
    ∃ b off, a = some ⟨b, off, none⟩ ∧ ∀ i, i < n → w.cell? ⟨b, off + i, none⟩ = some (.int .u8 ((l.getD i 0).toNat : Int)) := by
  obtain ⟨b, off, ha, hc⟩ := Row.cells h hp
  refine ⟨b, off, ha, fun i hi => ?_⟩
  rw [hc i hi]
  have hl := h.len
  have : i < l.length := by omega
  simp [List.getD_eq_getElem?_getD, List.getElem?_map, List.getElem?_eq_getElem this]

theorem Bytes.empty (w : World) (a : Option Addr) (c : Nat) (h : c ≤ 9223372036854775807) : Bytes w a 0 c [] := ⟨rfl, Nat.zero_le _, by omega, h, fun h => by omega⟩
theorem Bytes.nil (w : World) : Bytes w none 0 0 [] := ⟨rfl, Nat.le_refl _, by omega, by omega, fun h => by omega⟩

/-- A slice of slices of bytes. -/
structure Parts (w : World) (a : Option Addr) (n cap : Nat) (ls : List (List UInt8)) : Prop where
  len : n = ls.length
  cells : 0 < n → ∃ b off, a = some ⟨b, off, none⟩ ∧ ∀ i, i < n → ∃ x m c, w.cell? ⟨b, off + i, none⟩ = some (.slice x m c) ∧ Bytes w x m c (ls.getD i [])

theorem Row.of_cells {w w' : World} {a : Option Addr} {n cap : Nat} {vs : List Value} (h : Row w a n cap vs)
    (hc : ∀ p v, w.cell? p = some v → w'.cell? p = some v) : Row w' a n cap vs := by
  refine ⟨h.len, h.le, h.room, h.capr, fun hp => ?_⟩
  obtain ⟨b, off, ha, hcell⟩ := h.cells hp
  exact ⟨b, off, ha, fun i hi => hc _ _ (hcell i hi)⟩

theorem cell_lt {w : World} {p : Addr} {v : Value} (h : w.cell? p = some v) : p.block < w.heap.size := by
  unfold World.cell? at h
  split at h
  · rename_i hh
    exact (Array.getElem?_eq_some_iff.1 hh).1
  · exact absurd h (by simp)

theorem cell_below {w w' : World} (hb : Below w.heap.size w w') {p : Addr} {v : Value} (h : w.cell? p = some v) : w'.cell? p = some v := by
  rw [hb.cell (cell_lt h)]; exact h

theorem Row.below {w w' : World} {a : Option Addr} {n cap : Nat} {vs : List Value} (h : Row w a n cap vs) (hb : Below w.heap.size w w') : Row w' a n cap vs :=
  h.of_cells fun _ _ hc => cell_below hb hc
theorem Bytes.below {w w' : World} {a : Option Addr} {n cap : Nat} {l : List UInt8} (h : Bytes w a n cap l) (hb : Below w.heap.size w w') : Bytes w' a n cap l :=
  Row.below h hb

theorem below_alloc (w : World) (o : Obj) : Below w.heap.size w (w.alloc o) := (Below.refl _ _).alloc (Nat.le_refl _) o
theorem Row.alloc {w : World} {a : Option Addr} {n cap : Nat} {vs : List Value} (h : Row w a n cap vs) (o : Obj) : Row (w.alloc o) a n cap vs := h.below (below_alloc w o)
theorem Bytes.alloc {w : World} {a : Option Addr} {n cap : Nat} {l : List UInt8} (h : Bytes w a n cap l) (o : Obj) : Bytes (w.alloc o) a n cap l := h.below (below_alloc w o)

theorem Row.new (w : World) (cs : Array Value) (e : TypeId) (b n : Nat) (vs : List Value) (hb : b = w.heap.size) (hn : n = vs.length) (hcs : cs = vs.toArray) (hr : n ≤ 140737488355328) :
    Row (w.alloc (.cells cs e)) (some ⟨b, 0, none⟩) n n vs := by
  subst hb; subst hcs
  refine ⟨hn, Nat.le_refl _, by omega, by omega, fun _ => ⟨w.heap.size, 0, rfl, fun i hi => ?_⟩⟩
  rw [Nat.zero_add, World.cell?_alloc_new]
  have : i < vs.length := by omega
  simp [List.getD_eq_getElem?_getD, List.getElem?_eq_getElem this]
theorem Bytes.new (w : World) (cs : Array Value) (e : TypeId) (b n : Nat) (l : List UInt8) (hb : b = w.heap.size) (hn : n = l.length) (hcs : cs = (l.map B8).toArray) (hr : n ≤ 140737488355328) :
    Bytes (w.alloc (.cells cs e)) (some ⟨b, 0, none⟩) n n l := Row.new w cs e b n _ hb (by simpa using hn) hcs hr

/-- What was there is as it was. -/
def Ext (w w' : World) : Prop := Below w.heap.size w w'
theorem Ext.refl (w : World) : Ext w w := Below.refl _ _
theorem Ext.trans {a b c : World} (h : Ext a b) (k : Ext b c) : Ext a c := Below.trans h (Below.mono k h.size)
theorem Ext.alloc {a b : World} (h : Ext a b) (o : Obj) : Ext a (b.alloc o) := h.trans (below_alloc b o)
theorem Ext.drew {a b : World} (h : Ext a b) : Ext a b.drew := h.trans ((Below.refl _ b).drew)
theorem Ext.drewN {a b : World} (h : Ext a b) (n : Nat) : Ext a (b.drewN n) := h.trans ⟨rfl, rfl, rfl, Nat.le_refl _, fun _ _ => rfl⟩
theorem Ext.set {a b : World} (h : Ext a b) {p : Addr} (hp : a.heap.size ≤ p.block) (v : Value) : Ext a (b.setCell p v) := Below.setCell h hp v
theorem Ext.of_below {w w' : World} (h : Below w.heap.size w w') : Ext w w' := h
theorem Ext.below {w w' : World} (h : Ext w w') : Below w.heap.size w w' := h
theorem Bytes.ext {w w' : World} {a : Option Addr} {n cap : Nat} {l : List UInt8} (h : Bytes w a n cap l) (hb : Ext w w') : Bytes w' a n cap l := h.below hb

/-- Slices of bytes, one beside the other. -/
inductive Each (w : World) : List Value → List (List UInt8) → Prop
  | nil : Each w [] []
  | cons {x : Option Addr} {m c : Nat} {l : List UInt8} {vs : List Value} {ls : List (List UInt8)} : Bytes w x m c l → Each w vs ls → Each w (.slice x m c :: vs) (l :: ls)

theorem Each.length {w : World} {vs : List Value} {ls : List (List UInt8)} (h : Each w vs ls) : vs.length = ls.length := by
  induction h with
  | nil => rfl
  | cons _ _ ih => simp [ih]
theorem Each.get {w : World} {vs : List Value} {ls : List (List UInt8)} (h : Each w vs ls) : ∀ i, i < vs.length → ∃ x m c, vs.getD i undef = .slice x m c ∧ Bytes w x m c (ls.getD i []) := by
  induction h with
  | nil => intro i hi; simp at hi
  | cons hb _ ih =>
    intro i hi
    cases i with
    | zero => exact ⟨_, _, _, rfl, hb⟩
    | succ i => simpa using ih i (by simpa using hi)
theorem Each.old {w w' : World} {vs : List Value} {ls : List (List UInt8)} (h : Each w vs ls) (hb : Below w.heap.size w w') : Each w' vs ls := by
  induction h with
  | nil => exact .nil
  | cons h1 _ ih => exact .cons (h1.below hb) ih

theorem Parts.new (w : World) (cs : Array Value) (e : TypeId) (b n : Nat) (vs : List Value) (ls : List (List UInt8)) (h : Each w vs ls) (hb : b = w.heap.size) (hn : n = vs.length) (hcs : cs = vs.toArray) :
    Parts (w.alloc (.cells cs e)) (some ⟨b, 0, none⟩) n n ls := by
  subst hb; subst hcs
  refine ⟨by rw [hn, h.length], fun _ => ⟨w.heap.size, 0, rfl, fun i hi => ?_⟩⟩
  obtain ⟨x, m, c, h1, h2⟩ := h.get i (by omega)
  refine ⟨x, m, c, ?_, h2.alloc _⟩
  rw [Nat.zero_add, World.cell?_alloc_new, ← h1]
  have : i < vs.length := by omega
  simp [List.getD_eq_getElem?_getD, List.getElem?_eq_getElem this]
theorem Parts.one {w : World} {x : Option Addr} {m c : Nat} {l : List UInt8} (h : Bytes w x m c l) (e : TypeId) {b : Nat} (hb : b = w.heap.size) :
    Parts (w.alloc (.cells #[.slice x m c] e)) (some ⟨b, 0, none⟩) 1 1 [l] := Parts.new w _ e b 1 _ _ (.cons h .nil) hb rfl rfl
theorem Parts.two {w : World} {x y : Option Addr} {m c n d : Nat} {l k : List UInt8} (h : Bytes w x m c l) (h' : Bytes w y n d k) (e : TypeId) {b : Nat} (hb : b = w.heap.size) :
    Parts (w.alloc (.cells #[.slice x m c, .slice y n d] e)) (some ⟨b, 0, none⟩) 2 2 [l, k] := Parts.new w _ e b 2 _ _ (.cons h (.cons h' .nil)) hb rfl rfl
theorem Parts.three {w : World} {x y z : Option Addr} {m c n d p q : Nat} {l k r : List UInt8} (h : Bytes w x m c l) (h' : Bytes w y n d k) (h'' : Bytes w z p q r) (e : TypeId) {b : Nat} (hb : b = w.heap.size) :
    Parts (w.alloc (.cells #[.slice x m c, .slice y n d, .slice z p q] e)) (some ⟨b, 0, none⟩) 3 3 [l, k, r] := Parts.new w _ e b 3 _ _ (.cons h (.cons h' (.cons h'' .nil))) hb rfl rfl

theorem Parts.ext {w w' : World} {a : Option Addr} {n cap : Nat} {ls : List (List UInt8)} (h : Parts w a n cap ls) (hb : Ext w w') : Parts w' a n cap ls := by
  refine ⟨h.len, fun hp => ?_⟩
  obtain ⟨b, off, ha, hc⟩ := h.cells hp
  refine ⟨b, off, ha, fun i hi => ?_⟩
  obtain ⟨x, m, c, h1, h2⟩ := hc i hi
  exact ⟨x, m, c, cell_below hb h1, h2.ext hb⟩
theorem Parts.alloc {w : World} {a : Option Addr} {n cap : Nat} {ls : List (List UInt8)} (h : Parts w a n cap ls) (o : Obj) : Parts (w.alloc o) a n cap ls := h.ext (below_alloc w o)

/-- A part of a slice of bytes. -/
theorem Bytes.sub {w : World} {b off n cap : Nat} {l : List UInt8} (h : Bytes w (some ⟨b, off, none⟩) n cap l) (lo hi off' n' cap' : Nat) (h1 : lo ≤ hi) (h2 : hi ≤ n) (ho : lo < hi → off' = off + lo) (hn : n' = hi - lo) (hc : n' ≤ cap' ∧ cap' ≤ cap) :
    Bytes w (some ⟨b, off', none⟩) n' cap' ((l.take hi).drop lo) := by
  have hl := h.len
  have hr := h.room
  have hcr := h.capr
  have hlen : ((l.take hi).drop lo).length = hi - lo := by simp; omega
  refine ⟨by simp; omega, by omega, by omega, by omega, fun hp => ⟨b, off', rfl, fun i hi' => ?_⟩⟩
  obtain ⟨b', off2, hb', hcell⟩ := h.at (by omega)
  simp only [Option.some.injEq, Addr.mk.injEq] at hb'
  obtain ⟨rfl, rfl, _⟩ := hb'
  have h3 := hcell (lo + i) (by omega)
  rw [ho (by omega), Nat.add_assoc, h3]
  have h4 : i < ((l.take hi).drop lo).length := by omega
  have h5 : lo + i < l.length := by omega
  simp only [List.getD_eq_getElem?_getD, List.getElem?_map, List.getElem?_eq_getElem h4, List.getElem?_eq_getElem h5, Option.map_some, Option.getD_some, List.getElem_drop, List.getElem_take]

/-- .. as the walk writes it. -/
theorem Bytes.subIf {w : World} {b off n cap : Nat} {l : List UInt8} (h : Bytes w (some ⟨b, off, none⟩) n cap l) (lo hi : Nat) (h1 : lo ≤ hi) (h2 : hi ≤ n) :
    Bytes w (if cap = lo then some ⟨b, off, none⟩ else some ⟨b, off + lo, none⟩) (hi - lo) (cap - lo) ((l.take hi).drop lo) := by
  have hle := h.le
  split
  · exact h.sub lo hi off _ _ h1 h2 (fun h => by omega) rfl (by omega)
  · exact h.sub lo hi (off + lo) _ _ h1 h2 (fun _ => rfl) rfl (by omega)

theorem Bytes.take {w : World} {a : Option Addr} {n cap : Nat} {l : List UInt8} (h : Bytes w a n cap l) (m : Nat) (hm : m ≤ n) : Bytes w a m cap (l.take m) := by
  have hl := h.len
  refine ⟨by simp; omega, by have := h.le; omega, by have := h.room; omega, h.capr, fun hp => ?_⟩
  obtain ⟨b, off, ha, hc⟩ := Row.cells h (by omega)
  refine ⟨b, off, ha, fun i hi => ?_⟩
  rw [hc i (by omega)]
  simp only [List.getD_eq_getElem?_getD, List.map_take, List.getElem?_take]
  rw [if_pos hi]

theorem results_cell1 {fn : Func} {p : Tmp} {ty : TypeId} (h : fn.results = #[.cell p ty]) (tmps : Array Value) (P : Program) (w : World) :
    (results fn tmps).run P w = ((asAddr (tmps.getD p undef)).run P w).andThen fun a w₁ => (loadVar ty a).run P w₁ := by
  simp only [results, h]
  simp [Sem.run_bind, Result.andThen]

/-- At most some orders have been drawn. -/
def Drew (w w' : World) : Prop := ∃ q, w' = w.drewN q
theorem Drew.refl (w : World) : Drew w w := ⟨0, rfl⟩
theorem Drew.of_eq {w w' : World} (h : w = w') : Drew w w' := h ▸ Drew.refl w
theorem Drew.trans {a b c : World} (h : Drew a b) (k : Drew b c) : Drew a c := by
  obtain ⟨p, rfl⟩ := h; obtain ⟨q, rfl⟩ := k; exact ⟨p + q, by rw [World.drewN_drewN]⟩
theorem Drew.drew {a b : World} (h : Drew a b) : Drew a b.drew := h.trans ⟨1, rfl⟩
theorem Drew.drewN {a b : World} (h : Drew a b) (n : Nat) : Drew a (b.drewN n) := h.trans ⟨n, rfl⟩
theorem Drew.below {a b : World} (h : Drew a b) (B : Nat) : Below B a b := by
  obtain ⟨p, rfl⟩ := h; exact ⟨rfl, rfl, rfl, Nat.le_refl _, fun _ _ => rfl⟩
theorem Drew.cell {a b : World} (h : Drew a b) (p : Addr) : b.cell? p = a.cell? p := by
  obtain ⟨q, rfl⟩ := h; rfl
theorem Drew.heap {a b : World} (h : Drew a b) : b.heap = a.heap := by
  obtain ⟨q, rfl⟩ := h; rfl
theorem Row.drew {w w' : World} {a : Option Addr} {n cap : Nat} {vs : List Value} (h : Row w a n cap vs) (hd : Drew w w') : Row w' a n cap vs :=
  h.of_cells fun p v hc => by rw [hd.cell]; exact hc
theorem Bytes.drew {w w' : World} {a : Option Addr} {n cap : Nat} {l : List UInt8} (h : Bytes w a n cap l) (hd : Drew w w') : Bytes w' a n cap l := Row.drew h hd

/-- A callee that only draws, met inside a region that draws its order. -/
theorem quiet_of {P : Program} {f : FuncId} {args : Array Value} {w : World} {n : Nat} {v : Value}
    (h : Calls P f args (w.drewN n) fun e w' => e = .returned v ∧ Drew (w.drewN n) w') : Calls P f args (w.drewN n) fun e w'' => e = .returned v ∧ ∃ m, w'' = w.drewN m :=
  h.mono fun _ _ ⟨he, m, hm⟩ => ⟨he, n + m, by rw [hm, World.drewN_drewN]⟩
theorem quiet_eq {P : Program} {f : FuncId} {args : Array Value} {w : World} {n : Nat} {v : Value}
    (h : Calls P f args (w.drewN n) fun e w' => e = .returned v ∧ w.drewN n = w') : Calls P f args (w.drewN n) fun e w'' => e = .returned v ∧ ∃ m, w'' = w.drewN m :=
  h.mono fun _ _ ⟨he, hm⟩ => ⟨he, n, hm.symm⟩

/-- A value that is a slice of bytes, of parts. -/
def BytesV (l : List UInt8) (v : Value) (w : World) : Prop := ∃ a n c, v = .slice a n c ∧ Bytes w a n c l
def PartsV (ls : List (List UInt8)) (v : Value) (w : World) : Prop := ∃ a n c, v = .slice a n c ∧ n ≤ 1000 ∧ Parts w a n c ls
theorem BytesV.ext {l : List UInt8} {v : Value} {w w' : World} (h : BytesV l v w) (hx : Ext w w') : BytesV l v w' := by
  obtain ⟨a, n, c, h1, h2⟩ := h; exact ⟨a, n, c, h1, h2.ext hx⟩
theorem PartsV.ext {ls : List (List UInt8)} {v : Value} {w w' : World} (h : PartsV ls v w) (hx : Ext w w') : PartsV ls v w' := by
  obtain ⟨a, n, c, h1, h2, h3⟩ := h; exact ⟨a, n, c, h1, h2, h3.ext hx⟩

/-- A slice of bytes that the call made for itself: its row lies from block B on, and nobody else has it. -/
def OwnB (e : TypeId) (w : World) (B : Nat) (v : Value) (l : List UInt8) : Prop := w.ownsRow B e 1 v l.length (l.map B8)

theorem OwnB.nil (e : TypeId) (w : World) (B : Nat) : OwnB e w B (.slice none 0 0) [] := World.ownsRow_nil w B e 1
theorem OwnB.new (w : World) (B : Nat) (e : TypeId) (cs : Array Value) (b n : Nat) (l : List UInt8) (hB : B ≤ w.heap.size) (hb : b = w.heap.size) (hn : n = l.length) (hcs : cs = (l.map B8).toArray) (hr : n ≤ 140737488355328) :
    OwnB e (w.alloc (.cells cs e)) B (.slice (some ⟨b, 0, none⟩) n n) l := by
  subst hb; subst hn; subst hcs
  have := World.ownsRow_lit (base := B) (e := e) (size := 1) w (l.map B8).toArray l.length hB (by simp only [maxLen]; omega) (by simp)
  simpa [OwnB] using this
theorem OwnB.mono {e : TypeId} {w : World} {B B' : Nat} {v : Value} {l : List UInt8} (h : OwnB e w B v l) (hB : B' ≤ B) : OwnB e w B' v l := by
  obtain ⟨h1, h2⟩ := h
  refine ⟨h1, ?_⟩
  rcases h2 with h2 | ⟨g, cap, cur, hv, hg, r⟩
  · exact .inl h2
  · exact .inr ⟨g, cap, cur, hv, by omega, r⟩
theorem grownBy_of_below {w w' : World} (h : Below w.heap.size w w') (row : Option Nat) : w.grownBy w' row := ⟨h.os, h.tape, h.output, h.size, fun k hk _ => h.block k hk⟩
theorem OwnB.ext {e : TypeId} {w w' : World} {B : Nat} {v : Value} {l : List UInt8} (h : OwnB e w B v l) (hx : Ext w w') : OwnB e w' B v l :=
  World.ownsRow.kept h (grownBy_of_below hx none) (by cases v.ownBlock <;> simp)
theorem OwnB.bytes {e : TypeId} {w : World} {B : Nat} {v : Value} {l : List UInt8} (h : OwnB e w B v l) (hl : l.length ≤ 140737488355328) : ∃ a c, v = .slice a l.length c ∧ Bytes w a l.length c l := by
  have h' := h
  rcases h.2 with ⟨hv, h0⟩ | ⟨g, cap, cur, hv, hg, hh, hc, hm, hs, ht⟩
  · have : l = [] := List.eq_nil_of_length_eq_zero h0
    subst this
    exact ⟨none, 0, hv, Bytes.nil w⟩
  · refine ⟨some ⟨g, 0, none⟩, cap, hv, ⟨by simp, hc, hl, by simp only [maxLen] at hm; omega, fun _ => ⟨g, 0, rfl, fun i hi => ?_⟩⟩⟩
    subst hv
    have hi' : i < (l.map B8).length := by simpa using hi
    rw [Nat.zero_add, World.ownsRow.cellAt h' i (by omega), List.getElem?_eq_getElem hi', List.getD_eq_getElem?_getD, List.getElem?_eq_getElem hi']
    rfl
theorem OwnB.lt {e : TypeId} {w : World} {B : Nat} {v : Value} {l : List UInt8} (h : OwnB e w B v l) (k : Nat) (hk : v.ownBlock = some k) : B ≤ k ∧ k < w.heap.size := World.ownsRow.lt h k hk

/-- What append does to old memory: nothing, below B. -/
theorem grown_below_of {w w' : World} {B : Nat} {v : Value} {e : TypeId} {l : List UInt8} (h : OwnB e w B v l) (hB : B ≤ w.heap.size) (hg : w.grownBy w' v.ownBlock) : Below B w w' :=
  (Below.refl B w).grown hg hB fun k hk => (h.lt k hk).1

theorem news_of {w : World} {a : Option Addr} {m c : Nat} {k : List UInt8} (h : Bytes w a m c k) (hm : 0 < m) : ∃ ad : Addr, a = some ad ∧ ∀ (j : Nat) u, (k.map B8)[j]? = some u → w.cell? (ad.add j) = some u := by
  obtain ⟨b, off, ha, hc⟩ := Row.cells h hm
  refine ⟨⟨b, off, none⟩, ha, fun j u hu => ?_⟩
  have hj : j < (k.map B8).length := (List.getElem?_eq_some_iff.1 hu).1
  have hl := h.len
  simp at hj
  have := hc j (by omega)
  rw [List.getD_eq_getElem?_getD, hu] at this
  unfold Addr.add
  by_cases h0 : j = 0
  · subst h0; simpa using this
  · simpa [h0] using this

theorem one_b8 (k : List UInt8) : ∀ u ∈ k.map B8, u.oneCell' = true := by
  intro u hu
  obtain ⟨x, _, rfl⟩ := List.mem_map.1 hu
  rfl

/-- 'append(v, y...)': v is the call's own, y whatever slice of bytes. -/
theorem run_append_b {P : Program} {w : World} {t ty e : TypeId} (ht : P.underlying t = some (.slice e)) (hi : (P.info? e).map (fun i => (i.zero, i.size, i.bytes)) = some (some (.int .u8 0), 1, 1))
    {B : Nat} {v : Value} {l : List UInt8} (hown : OwnB e w B v l) {a : Option Addr} {m c : Nat} {k : List UInt8} (hy : Bytes w a m c k) (hlen : l.length + k.length ≤ 140737488355328) (hB : B ≤ w.heap.size) :
    ∃ v' w', (Builtin.append_ #[t, t] ty #[v, .slice a m c]).run P w = .ok v' w' ∧ OwnB e w' B v' (l ++ k) ∧ w.grownBy w' v.ownBlock ∧ (v' = .slice none 0 0 ↔ v = .slice none 0 0 ∧ k = []) := by
  obtain ⟨i, hi', hx⟩ := Option.map_eq_some_iff.1 hi
  simp only [Prod.mk.injEq] at hx
  obtain ⟨hz, hs, hb⟩ := hx
  have hm := hy.len
  by_cases hn : a = none
  · subst hn
    have h0 : m = 0 := by
      rcases Nat.eq_zero_or_pos m with h | h
      · exact h
      · obtain ⟨_, h', _⟩ := news_of hy h; cases h'
    subst h0
    have hk : k = [] := List.eq_nil_of_length_eq_zero hm.symm
    subst hk
    by_cases hc : c = 0
    · subst hc
      refine ⟨v, w, run_append_owned_none w B t ty e i 1 ht hi' v _ _ hown, by simpa using hown, ⟨rfl, rfl, rfl, Nat.le_refl _, fun _ _ _ => rfl⟩, by simp⟩
    · refine ⟨v, w, ?_, by simpa using hown, ⟨rfl, rfl, rfl, Nat.le_refl _, fun _ _ _ => rfl⟩, by simp⟩
      rcases hown.2 with ⟨rfl, _⟩ | ⟨g, cap, cur, rfl, _, _, hnc, _⟩
      · simp [Builtin.append_, run_underlying ht, sizeOf, typeInfo, hi', Builtin.lenOf, Builtin.firstCells]
      · simp [Builtin.append_, run_underlying ht, sizeOf, typeInfo, hi', Builtin.lenOf, Builtin.firstCells, hnc, storeCells]
  · obtain ⟨ad, rfl⟩ : ∃ ad, a = some ad := by cases a with | none => exact absurd rfl hn | some x => exact ⟨x, rfl⟩
    have hnews : ∀ (j : Nat) u, (k.map B8)[j]? = some u → w.cell? (ad.add j) = some u := by
      rcases Nat.eq_zero_or_pos m with h | h
      · have : k = [] := List.eq_nil_of_length_eq_zero (by omega)
        subst this
        intro j u hu; simp at hu
      · obtain ⟨ad', h1, h2⟩ := news_of hy h
        cases h1
        exact h2
    obtain ⟨v', w', h1, h2, h3, h4⟩ := run_append_own (P := P) w B t ty e i (.int .u8 0) 1 1 ht hi' hz hs hb rfl (by omega) v l.length (l.map B8) hown ad m c (k.map B8) (by simp; omega) hnews (one_b8 k) (by simp only [maxLen]; omega) (by omega) hB
    refine ⟨v', w', h1, ?_, h3, ?_⟩
    · unfold OwnB
      rw [List.length_append, List.map_append, ← hm]
      exact h2
    · rw [h4, hm]
      exact ⟨fun ⟨h, h'⟩ => ⟨h, List.eq_nil_of_length_eq_zero h'⟩, fun ⟨h, h'⟩ => ⟨h, by rw [h']; rfl⟩⟩

theorem wp_append_b {P : Program} {w : World} {o : Oper} {a : Act} {K : Act → World → Prop} {Q : Exit → Act → World → Prop} (s x : Operand) {t e : TypeId} (ht : P.underlying t = some (.slice e)) (hi : (P.info? e).map (fun i => (i.zero, i.size, i.bytes)) = some (some (.int .u8 0), 1, 1))
    (ho : o.op = .call { callee := .builtin .append, args := #[s, x], argTypes := #[t, t] }) {B : Nat} {v : Value} {l : List UInt8} (hs : a.eval s = v) (hown : OwnB e w B v l)
    {ad : Option Addr} {m c : Nat} {k : List UInt8} (hx : a.eval x = .slice ad m c) (hy : Bytes w ad m c k) (hlen : l.length + k.length ≤ 140737488355328) (hB : B ≤ w.heap.size)
    (h : ∀ v' w', OwnB e w' B v' (l ++ k) → w.grownBy w' v.ownBlock → (v' = .slice none 0 0 ↔ v = .slice none 0 0 ∧ k = []) → K (a.put o.dst v') w') : o.wp P a w K Q := by
  obtain ⟨v', w', hr, h2, h3, h4⟩ := run_append_b (ty := o.type) ht hi hown hy hlen hB
  unfold Oper.wp execOp
  simp only [ho, resolve, invoke, builtin, Sem.run_bind, Sem.run_pure, Result.andThen_ok, List.map_toArray, List.map_cons, List.map_nil, hs, hx, hr]
  exact h v' w' h2 h3 h4
theorem wpList_append_b {P : Program} {w : World} {ops : Array Oper} {rest : List Oper} {o : Oper} {a : Act} {Q : Exit → Act → World → Prop} (hgd : o.guard = none) (s x : Operand) {t e : TypeId} (ht : P.underlying t = some (.slice e)) (hi : (P.info? e).map (fun i => (i.zero, i.size, i.bytes)) = some (some (.int .u8 0), 1, 1))
    (ho : o.op = .call { callee := .builtin .append, args := #[s, x], argTypes := #[t, t] }) {B : Nat} {v : Value} {l : List UInt8} (hs : a.eval s = v) (hown : OwnB e w B v l)
    {ad : Option Addr} {m c : Nat} {k : List UInt8} (hx : a.eval x = .slice ad m c) (hy : Bytes w ad m c k) (hlen : l.length + k.length ≤ 140737488355328) (hB : B ≤ w.heap.size)
    (h : ∀ v' w', OwnB e w' B v' (l ++ k) → w.grownBy w' v.ownBlock → (v' = .slice none 0 0 ↔ v = .slice none 0 0 ∧ k = []) → wpList P ops Q rest (a.put o.dst v') w') : wpList P ops Q (o :: rest) a w :=
  wpList_plain hgd fun _ hK => wp_append_b s x ht hi ho hs hown hx hy hlen hB fun v' w' h2 h3 h4 => hK _ _ (h v' w' h2 h3 h4)

/-- .. with what it leaves of the caller's world. -/
theorem wpList_append_x {P : Program} {w w0 : World} {ops : Array Oper} {rest : List Oper} {o : Oper} {a : Act} {Q : Exit → Act → World → Prop} (hgd : o.guard = none) (s x : Operand) {t e : TypeId} (ht : P.underlying t = some (.slice e)) (hi : (P.info? e).map (fun i => (i.zero, i.size, i.bytes)) = some (some (.int .u8 0), 1, 1))
    (ho : o.op = .call { callee := .builtin .append, args := #[s, x], argTypes := #[t, t] }) {v : Value} {l : List UInt8} (hs : a.eval s = v) (hown : OwnB e w w0.heap.size v l) (hw : Ext w0 w)
    {ad : Option Addr} {m c : Nat} {k : List UInt8} (hx : a.eval x = .slice ad m c) (hy : Bytes w ad m c k) (hlen : l.length + k.length ≤ 140737488355328)
    (h : ∀ v' w', OwnB e w' w0.heap.size v' (l ++ k) → Ext w0 w' → wpList P ops Q rest (a.put o.dst v') w') : wpList P ops Q (o :: rest) a w :=
  wpList_append_b hgd s x ht hi ho hs hown hx hy hlen hw.size fun v' w' h2 h3 _ => h v' w' h2 (Below.trans hw (grown_below_of hown hw.size h3))

/-- 'make([]byte, n)'. -/
theorem run_make_b {P : Program} {w : World} {t e : TypeId} (ht : P.underlying t = some (.slice e)) (hi : (P.info? e).map (fun i => (i.zero, i.size, i.bytes)) = some (some (.int .u8 0), 1, 1))
    (B : Nat) (kl kc : IntKind) (x : Int) (n : Nat) (hx : x = (n : Int)) (hn : n ≤ 140737488355328) (hB : B ≤ w.heap.size) :
    ∃ w', (Instr.makeSlice t (.int kl x) (.int kc x)).run P w = .ok (.slice (some ⟨w.heap.size, 0, none⟩) n n) w' ∧ OwnB e w' B (.slice (some ⟨w.heap.size, 0, none⟩) n n) (List.replicate n 0) ∧ Ext w w' := by
  subst hx
  obtain ⟨i, hi', hx⟩ := Option.map_eq_some_iff.1 hi
  simp only [Prod.mk.injEq] at hx
  obtain ⟨hz, hs, hb⟩ := hx
  obtain ⟨w', h1, h2, h3⟩ := run_make_full (P := P) w B t e i (.int .u8 0) 1 ht hi' hz hs kl kc n (by rw [hb]; omega) (by simp only [maxLen]; omega) hB
  refine ⟨w', h1, ?_, ⟨h3.os, h3.tape, h3.output, h3.size, fun k hk => h3.block k hk (by simp)⟩⟩
  unfold OwnB
  have e1 : (madeCells (Value.int .u8 0).cells (n * 1)).toList = (List.replicate n 0).map B8 := by
    rw [Nat.mul_one, List.map_replicate]
    apply List.ext_getElem
    · simp [madeCells, Value.cells]
    · intro j h1 h2
      simp [madeCells, Value.cells, Nat.mod_one]
  rw [← e1, List.length_replicate]
  exact h2

end Go.Proofs.Ytnbbaemijogeoaa
namespace Go.Proofs.Ytnbbaemijogeoaa
open Go.RowKit

/-- A call that hands back a value of which R holds. -/
def CallsV (P : Program) (f : FuncId) (args : Array Value) (w : World) (R : Value → World → Prop) : Prop := Calls P f args w fun e w'' => ∃ v, e = .returned v ∧ R v w''
theorem CallsV.const {P : Program} {f : FuncId} {args : Array Value} {w : World} {c : Value} {S : World → Prop} (h : Calls P f args w fun e w' => e = .returned c ∧ S w') (hs : ∀ w', S w' → Ext w w') :
    CallsV P f args w fun v w' => Ext w w' ∧ v = c := h.mono fun _ w' ⟨he, h⟩ => ⟨c, he, hs w' h, rfl⟩
theorem CallsV.same {P : Program} {f : FuncId} {args : Array Value} {w : World} {c : Value} (h : Calls P f args w fun e w' => e = .returned c ∧ w = w') :
    CallsV P f args w fun v w' => Ext w w' ∧ v = c := h.mono fun _ _ ⟨he, h⟩ => ⟨c, he, h ▸ Ext.refl _, rfl⟩
theorem CallsV.below {P : Program} {f : FuncId} {args : Array Value} {w : World} {c : Value} (h : Calls P f args w fun e w' => e = .returned c ∧ Below w.heap.size w w') :
    CallsV P f args w fun v w' => Ext w w' ∧ v = c := h.mono fun _ _ ⟨he, h⟩ => ⟨c, he, h, rfl⟩
theorem CallsV.drew {P : Program} {f : FuncId} {args : Array Value} {w : World} {c : Value} (h : Calls P f args w fun e w' => e = .returned c ∧ Drew w w') :
    CallsV P f args w fun v w' => Ext w w' ∧ v = c := h.mono fun _ _ ⟨he, h⟩ => ⟨c, he, h.below _, rfl⟩
theorem CallsV.eff {P : Program} {f : FuncId} {args : Array Value} {w : World} {G : Value → World → Prop} {S : Ending → World → Prop} (h : Calls P f args w S) (k : ∀ e w', S e w' → ∃ v, e = .returned v ∧ Ext w w' ∧ G v w') :
    CallsV P f args w fun v w' => Ext w w' ∧ G v w' := h.mono fun e w' h => k e w' h

/-- What an operation comes to: a value of which R holds. -/
def givesUpon (P : Program) (R : Value → World → Prop) : Result Next → Prop
  | .ok (.value v) w' => R v w'
  | .ok .skip w' => R undef w'
  | .ok (.enter f args) w' => CallsV P f args w' R
  | _ => False
def gives (P : Program) (o : Oper) (a : Act) (w : World) (R : Value → World → Prop) : Prop := givesUpon P R ((execOp a.eval o).run P w)

theorem gives_wp {P : Program} {o : Oper} {a : Act} {w : World} {R : Value → World → Prop} {K : Act → World → Prop} {Q : Exit → Act → World → Prop}
    (h : gives P o a w R) (hk : ∀ v w', R v w' → K (a.put o.dst v) w') : o.wp P a w K Q := by
  unfold gives at h
  unfold Oper.wp
  generalize (execOp a.eval o).run P w = r at *
  cases r with
  | ok n w' =>
    cases n <;> simp only [givesUpon] at h <;> simp only [Oper.upon]
    case value u => exact hk _ _ h
    case skip => exact hk _ _ h
    case enter f args => exact Calls.mono h fun e w'' ⟨v, he, hr⟩ => by subst he; exact hk _ _ hr
  | halt x w' => simp only [givesUpon] at h

def dstOf (ops : Array Oper) (i : Nat) : Option Tmp := (ops[i]?).bind (·.dst)
def slotOf (a : Act) : Option Tmp → Value
  | some t => a.tmps.getD t undef
  | none => undef
def waits (o : Oper) (j : Nat) : Bool := o.after.toList.any fun e => e.on == j && Region.binds .any e

/-- The first 'nb' operations each write a slot of their own, wait only for earlier ones, and look only at slots of those that they wait for or at slots that none of them writes; the others wait for all of them. -/
def onsOf (o : Oper) : List Nat := (o.after.toList.filter fun e => Region.binds .any e).map (·.on)
/-- All that these wait for, straight or through others. -/
def clos (ops : Array Oper) : Nat → List Nat → List Nat
  | 0, S => S
  | k + 1, S => clos ops k (if S.contains k then (match ops[k]? with | some o => S ++ onsOf o | none => S) else S)
def factsOk (ops : Array Oper) (nb n : Nat) : Bool :=
  decide (nb ≤ ops.size) &&
  ((List.range nb).all fun i => match ops[i]? with
    | none => false
    | some o => (match o.op with | .select .. => false | _ => true) &&
      (match o.dst with | some d => decide (d < n) | none => false) &&
      ((List.range i).all fun j => dstOf ops j != o.dst) &&
      ((o.looksAt ops).all fun t => ((List.range i).any fun j => dstOf ops j == some t && waits o j) || ((List.range nb).all fun j => dstOf ops j != some t)) &&
      (o.after.all fun e => !Region.binds .any e || decide (e.on < i))) &&
  ((List.range (ops.size - nb)).all fun k => match ops[nb + k]? with
    | none => false
    | some o => let S := clos ops nb (onsOf o); (List.range nb).all fun j => S.contains j)

structure GoodG (G : Value → World → Prop) : Prop where
  stable : ∀ v w w', Ext w w' → G v w → G v w'
  some : ∃ v w, G v w
theorem GoodG.const (c : Value) : GoodG (fun v _ => v = c) := ⟨fun _ _ _ _ h => h, c, default, rfl⟩
def GoodAll : List (Value → World → Prop) → Prop
  | [] => True
  | G :: r => GoodG G ∧ GoodAll r
theorem GoodAll.get {Gs : List (Value → World → Prop)} (h : GoodAll Gs) : ∀ (j : Nat) G, Gs[j]? = some G → GoodG G := by
  induction Gs with
  | nil => intro j G hj; simp at hj
  | cons x r ih =>
    intro j G hj
    cases j with
    | zero => simp only [List.getElem?_cons_zero, Option.some.injEq] at hj; subst hj; exact h.1
    | succ j => simp only [List.getElem?_cons_succ] at hj; exact ih h.2 j G hj

section
variable (P : Program) (ops : Array Oper) (Q : Exit → Act → World → Prop) (w0 : World) (Kw : World → Prop) (Gs : List (Value → World → Prop))

/-- One operation, in the frame 'a'. -/
def Ob (i : Nat) (o : Oper) (a : Act) : Prop :=
  ∀ w, Ext w0 w → Kw w → (∀ j G, waits o j = true → Gs[j]? = some G → G (slotOf a (dstOf ops j)) w) →
    ∀ G, Gs[i]? = some G → if Region.wanted o (yielded ops a.tmps) then gives P o a w (fun v w' => Ext w w' ∧ G v w') else G undef w

def listedTo (n nb : Nat) : Array Bool := ((List.range n).map fun i => decide (i < nb)).toArray

/-- The walk in the order of the text. -/
def Txt : Nat → List Oper → Act → Prop
  | i, [], a => ∀ w, Ext w0 w → Kw w → (∀ j G, j < i → Gs[j]? = some G → G (slotOf a (dstOf ops j)) w) → wpList P ops Q (ops.toList.drop i) a w
  | i, o :: rest, a => Ob P ops w0 Kw Gs i o a ∧ ∀ v G, Gs[i]? = some G → (∃ w, G v w) → Txt (i + 1) rest (a.put o.dst v)
end

/-- From operation 'i' on they come up one behind the other. -/
def seqTail (ops : Array Oper) (i : Nat) : Bool :=
  ((List.range (ops.size - i)).all fun k => Region.ready .any ops (listedTo ops.size (i + k)) == [i + k]) && (Region.ready .any ops (listedTo ops.size ops.size) == [])

section
variable {P : Program} {ops : Array Oper} {Q : Exit → Act → World → Prop} {w0 : World} {Kw : World → Prop} {Gs : List (Value → World → Prop)}

theorem listedTo_succ (n i : Nat) : (listedTo n i).setIfInBounds i true = listedTo n (i + 1) := by
  apply Array.ext
  · simp [listedTo]
  · intro k h1 h2
    have hk : k < n := by simpa [listedTo] using h2
    by_cases e : i = k
    · subst e; simp [listedTo]
    · rw [Array.getElem_setIfInBounds_ne (by simpa [listedTo] using hk) e]
      simp only [listedTo, List.getElem_toArray, List.getElem_map, List.getElem_range]
      rw [decide_eq_decide]; omega

theorem any_of_seq : ∀ (m i : Nat), i + m = ops.size → seqTail ops i = true → ∀ a w, wpList P ops Q (ops.toList.drop i) a w → wpAny P .any ops Q m (listedTo ops.size i) a w
  | 0, i, hm, hs, a, w, h => by
    have e : i = ops.size := by omega
    subst e
    simp only [seqTail, Bool.and_eq_true] at hs
    rw [List.drop_of_length_le (by simp)] at h
    exact ⟨by simpa using hs.2, h⟩
  | m + 1, i, hm, hs, a, w, h => by
    have hs' := hs
    simp only [seqTail, Bool.and_eq_true, List.all_eq_true, List.mem_range, beq_iff_eq] at hs
    have hr : Region.ready .any ops (listedTo ops.size i) = [i] := by have := hs.1 0 (by omega); simpa using this
    have hs1 : seqTail ops (i + 1) = true := by
      simp only [seqTail, Bool.and_eq_true, List.all_eq_true, List.mem_range, beq_iff_eq]
      exact ⟨fun k hk => by have := hs.1 (k + 1) (by omega); rw [show i + 1 + k = i + (k + 1) from by omega]; exact this, hs.2⟩
    refine ⟨fun h0 => (by rw [hr] at h0; cases h0), fun j hj => ?_⟩
    rw [hr] at hj
    obtain rfl := List.mem_singleton.1 hj
    have hi : j < ops.size := by omega
    have ho : ops[j]? = some ops[j] := Array.getElem?_eq_getElem hi
    rw [List.drop_eq_getElem_cons (by simpa using hi)] at h
    rw [listedTo_succ]
    unfold wpOp
    rw [ho]
    simp only [wpList, Array.getElem_toList] at h ⊢
    split
    · rename_i hw
      rw [if_pos hw] at h
      exact h.imp (Oper.wp_mono fun a' w' h' => any_of_seq m (j + 1) (by omega) hs1 a' w' h') id
    · rename_i hw
      rw [if_neg hw] at h
      exact any_of_seq m (j + 1) (by omega) hs1 _ _ h

def fr (ops : Array Oper) (a0 : Act) (v : Nat → Value) : Nat → Act
  | 0 => a0
  | i + 1 => (fr ops a0 v i).put (dstOf ops i) (v i)

theorem put_size (a : Act) (d : Option Tmp) (v : Value) : (a.put d v).tmps.size = a.tmps.size := by
  cases d <;> simp [Act.put]
theorem put_defers (a : Act) (d : Option Tmp) (v : Value) : (a.put d v).defers = a.defers := by
  cases d <;> simp [Act.put]
theorem fr_size (a0 : Act) (v : Nat → Value) (i : Nat) : (fr ops a0 v i).tmps.size = a0.tmps.size := by
  induction i with
  | zero => rfl
  | succ i ih => rw [fr, put_size, ih]
theorem fr_defers (a0 : Act) (v : Nat → Value) (i : Nat) : (fr ops a0 v i).defers = a0.defers := by
  induction i with
  | zero => rfl
  | succ i ih => rw [fr, put_defers, ih]
theorem put_get_ne (a : Act) (d : Option Tmp) (v : Value) (t : Nat) (h : d ≠ some t) : (a.put d v).tmps[t]? = a.tmps[t]? := by
  cases d with
  | none => rfl
  | some d =>
    have : d ≠ t := fun e => h (by rw [e])
    simp [Act.put, Array.getElem?_setIfInBounds_ne this]
theorem put_get_eq (a : Act) (v : Value) (t : Nat) (h : t < a.tmps.size) : (a.put (some t) v).tmps[t]? = some v := by
  simp [Act.put, h]

theorem fr_other (a0 : Act) (v : Nat → Value) (i t : Nat) (h : ∀ j, j < i → dstOf ops j ≠ some t) : (fr ops a0 v i).tmps[t]? = a0.tmps[t]? := by
  induction i with
  | zero => rfl
  | succ i ih =>
    rw [fr, put_get_ne _ _ _ _ (h i (Nat.lt_succ_self i)), ih fun j hj => h j (Nat.lt_succ_of_lt hj)]
theorem fr_own (a0 : Act) (v : Nat → Value) (i j t : Nat) (hj : j < i) (hd : dstOf ops j = some t) (ht : t < a0.tmps.size) (hne : ∀ k, k < i → j < k → dstOf ops k ≠ some t) : (fr ops a0 v i).tmps[t]? = some (v j) := by
  induction i with
  | zero => omega
  | succ i ih =>
    rw [fr]
    by_cases h : j = i
    · subst h
      rw [hd, put_get_eq _ _ _ (by rw [fr_size]; exact ht)]
    · rw [put_get_ne _ _ _ _ (hne i (Nat.lt_succ_self i) (by omega))]
      exact ih (by omega) fun k hk hjk => hne k (by omega) hjk

structure Facts (ops : Array Oper) (nb n : Nat) : Prop where
  le : nb ≤ ops.size
  op : ∀ i, i < nb → ∃ o d, ops[i]? = some o ∧ o.dst = some d ∧ d < n ∧ (∀ cs b, o.op ≠ .select cs b) ∧ (∀ j, j < i → dstOf ops j ≠ some d) ∧
    (∀ t ∈ o.looksAt ops, (∃ j, j < i ∧ dstOf ops j = some t ∧ waits o j = true) ∨ ∀ j, j < nb → dstOf ops j ≠ some t) ∧ (∀ e ∈ o.after, Region.binds .any e = true → e.on < i)
  tail : ∀ i o, nb ≤ i → ops[i]? = some o → ∀ L : Nat → Prop, (∀ j, waits o j = true → L j) → (∀ k o', k < nb → L k → ops[k]? = some o' → ∀ j, waits o' j = true → L j) → ∀ j, j < nb → L j

theorem onsOf_iff {o : Oper} {j : Nat} : j ∈ onsOf o ↔ waits o j = true := by
  unfold onsOf waits
  simp only [List.mem_map, List.mem_filter, List.any_eq_true, Bool.and_eq_true, beq_iff_eq]
  constructor
  · rintro ⟨e, ⟨h1, h2⟩, h3⟩; exact ⟨e, h1, h3, h2⟩
  · rintro ⟨e, h1, h3, h2⟩; exact ⟨e, ⟨h1, h2⟩, h3⟩
theorem clos_sub {nb : Nat} (L : Nat → Prop) (hc : ∀ k o', k < nb → L k → ops[k]? = some o' → ∀ j, waits o' j = true → L j) :
    ∀ (k : Nat), k ≤ nb → ∀ S, (∀ j ∈ S, L j) → ∀ j ∈ clos ops k S, L j
  | 0, _, S, h, j, hj => h j hj
  | k + 1, hk, S, h, j, hj => by
    unfold clos at hj
    refine clos_sub L hc k (by omega) _ ?_ j hj
    intro q hq
    split at hq
    · rename_i hS
      split at hq
      · rename_i o ho
        rcases List.mem_append.1 hq with hq | hq
        · exact h q hq
        · exact hc k o (by omega) (h k (by simpa using hS)) ho q (onsOf_iff.1 hq)
      · exact h q hq
    · exact h q hq

theorem facts_of {nb n : Nat} (h : factsOk ops nb n = true) : Facts ops nb n := by
  unfold factsOk at h
  simp only [Bool.and_eq_true, decide_eq_true_eq, List.all_eq_true, List.mem_range] at h
  obtain ⟨⟨h1, h2⟩, h3⟩ := h
  refine ⟨h1, fun i hi => ?_, fun i o hi ho L hL hc j hj => ?_⟩
  · have h4 := h2 i hi
    cases ho : ops[i]? with
    | none => rw [ho] at h4; simp at h4
    | some o =>
      rw [ho] at h4
      simp only [Bool.and_eq_true, List.all_eq_true, List.mem_range, Bool.or_eq_true, List.any_eq_true] at h4
      obtain ⟨⟨⟨⟨h5, h6⟩, h7⟩, h8⟩, h9⟩ := h4
      cases hd : o.dst with
      | none => rw [hd] at h6; simp at h6
      | some d =>
        rw [hd] at h6
        refine ⟨o, d, rfl, hd, by simpa using h6, fun cs b hs => by rw [hs] at h5; simp at h5, fun j hj e => ?_, fun t ht => ?_, fun e he hb => ?_⟩
        · have := h7 j hj; rw [hd, e] at this; simp at this
        · rcases h8 t ht with ⟨j, hj, h10⟩ | h10
          · exact .inl ⟨j, by simpa using hj, by simpa using h10.1, h10.2⟩
          · exact .inr fun j hj e => by have := h10 j hj; rw [e] at this; simp at this
        · obtain ⟨q, hq, he'⟩ := Array.mem_iff_getElem.1 he
          have := Array.all_eq_true.1 h9 q hq
          rw [he', hb] at this
          simpa using this
  · have hlt : i < ops.size := (Array.getElem?_eq_some_iff.1 ho).1
    have h4 := h3 (i - nb) (by omega)
    rw [show nb + (i - nb) = i from by omega, ho] at h4
    simp only [List.all_eq_true, List.mem_range] at h4
    exact clos_sub L hc nb (Nat.le_refl _) _ (fun q hq => hL q (onsOf_iff.1 hq)) j (by simpa using h4 j hj)

theorem waits_iff {o : Oper} {j : Nat} : waits o j = true ↔ ∃ e ∈ o.after, e.on = j ∧ Region.binds .any e = true := by
  unfold waits
  rw [List.any_eq_true]
  simp

theorem getD_eq {α : Type} {a b : Array α} {t : Nat} {x : α} (h : a[t]? = b[t]?) : a.getD t x = b.getD t x := by
  simp [h]

/-- An operation that looks at slots that are the same does the same. -/
theorem gives_congr {o : Oper} {a a' : Act} {w : World} {R : Value → World → Prop} (hs : ∀ cs b, o.op ≠ .select cs b) (h : ∀ t ∈ o.looksAt ops, a.tmps[t]? = a'.tmps[t]?)
    (hg : gives P o a w R) : gives P o a' w R := by
  unfold gives at *
  have e : execOp a'.eval o = execOp a.eval o := execOp_congr o hs fun x hx => by
    cases x with
    | tmp t =>
      have hm : t ∈ o.looksAt ops := List.mem_append_left _ (List.mem_filterMap.2 ⟨.tmp t, by simpa using hx, rfl⟩)
      simp only [Act.eval]
      exact (getD_eq (h t hm)).symm
    | const v => rfl
    | global g => rfl
    | func f => rfl
  rw [e]; exact hg
theorem wanted_congr {o : Oper} {a a' : Act} (h : ∀ t ∈ o.looksAt ops, a.tmps[t]? = a'.tmps[t]?) : Region.wanted o (yielded ops a.tmps) = Region.wanted o (yielded ops a'.tmps) := by
  unfold Region.wanted
  cases hg : o.guard with
  | none => rfl
  | some gw =>
    obtain ⟨g, want⟩ := gw
    simp only
    have : yielded ops a.tmps g = yielded ops a'.tmps g := by
      unfold yielded
      cases hd : (ops[g]?).bind (·.dst) with
      | none => rfl
      | some d =>
        have hm : d ∈ o.looksAt ops := by
          simp [Oper.looksAt, hg, hd]
        simp only [Option.bind_some]
        rw [h d hm]
    rw [this]

/-- What the walk in the order of the text shows, whatever values the operations hand back. -/
theorem txt_obs {a0 : Act} (v : Nat → Value) (nb : Nat) (hlen : Gs.length = nb) (hv : ∀ (j : Nat) (G : Value → World → Prop), Gs[j]? = some G → ∃ w, G (v j) w) :
    ∀ (l : List Oper) (i : Nat), (∀ j, l[j]? = if i + j < nb then ops[i + j]? else none) → i ≤ nb → Txt P ops Q w0 Kw Gs i l (fr ops a0 v i) →
      (∀ k o, i ≤ k → k < nb → ops[k]? = some o → Ob P ops w0 Kw Gs k o (fr ops a0 v k)) ∧ (nb ≤ ops.size → Txt P ops Q w0 Kw Gs nb [] (fr ops a0 v nb))
  | [], i, hl, hi, h => by
    by_cases e : i = nb
    · subst e
      exact ⟨fun k o h1 h2 => by omega, fun _ => h⟩
    · have h0 := hl 0
      have hlt : i < nb := by omega
      simp [hlt] at h0
      refine ⟨fun k o h1 h2 ho => ?_, fun hle => ?_⟩
      · have := (Array.getElem?_eq_some_iff.1 ho).1
        omega
      · omega
  | o :: l, i, hl, hi, h => by
    have h0 := hl 0
    have hlt : i < nb := by
      by_cases e : i < nb
      · exact e
      · simp [e] at h0
    simp [hlt] at h0
    obtain ⟨h1, h2⟩ := h
    obtain ⟨G, hG⟩ : ∃ G, Gs[i]? = some G := ⟨_, List.getElem?_eq_getElem (by omega)⟩
    have hd : dstOf ops i = o.dst := by unfold dstOf; rw [← h0]; rfl
    have h3 := h2 (v i) G hG (hv i G hG)
    rw [← hd] at h3
    obtain ⟨h4, h5⟩ := txt_obs v nb hlen hv l (i + 1) (fun j => by have := hl (j + 1); simpa [Nat.add_assoc, Nat.add_comm 1 j] using this) (by omega) h3
    refine ⟨fun k o' hk1 hk2 ho => ?_, h5⟩
    by_cases e : k = i
    · subst e
      rw [← h0] at ho
      cases ho
      exact h1
    · exact h4 k o' (by omega) hk2 ho

structure Inv (ops : Array Oper) (nb : Nat) (Gs : List (Value → World → Prop)) (a0 : Act) (w0 : World) (Kw : World → Prop) (listed : Array Bool) (a : Act) (w : World) : Prop where
  ext : Ext w0 w
  kw : Kw w
  size : listed.size = ops.size
  defers : a.defers = a0.defers
  tsize : a.tmps.size = a0.tmps.size
  init : ∀ t, (∀ i, i < nb → listed.getD i false = true → dstOf ops i ≠ some t) → a.tmps[t]? = a0.tmps[t]?
  facts : ∀ i G, i < nb → listed.getD i false = true → Gs[i]? = some G → G (slotOf a (dstOf ops i)) w
  tail : ∀ i, nb ≤ i → listed.getD i false = false
  closed : ∀ k o, k < nb → listed.getD k false = true → ops[k]? = some o → ∀ j, waits o j = true → listed.getD j false = true

open Classical in
theorem any_of_txt {a0 : Act} {nb : Nat} (hf : Facts ops nb a0.tmps.size) (hlen : Gs.length = nb) (hgood : GoodAll Gs) (hseq : seqTail ops nb = true) (hK : ∀ w, Ext w0 w → Kw w) (ht : Txt P ops Q w0 Kw Gs 0 (ops.toList.take nb) a0) :
    ∀ (m : Nat) (listed : Array Bool) (a : Act) (w : World), Inv ops nb Gs a0 w0 Kw listed a w → ((List.range nb).filter fun i => !listed.getD i false).length = m →
      wpAny P .any ops Q (m + (ops.size - nb)) listed a w := by
  have hl0 : ∀ j, (ops.toList.take nb)[j]? = if 0 + j < nb then ops[0 + j]? else none := fun j => by
    rw [List.getElem?_take]; simp
  have pick : ∀ (j : Nat), ∃ v, ∀ (G : Value → World → Prop), Gs[j]? = some G → ∃ w, G v w := fun j => by
    cases hG : Gs[j]? with
    | none => exact ⟨undef, fun G h => by cases h⟩
    | some G =>
      obtain ⟨v, w, h⟩ := (hgood.get j G hG).some
      exact ⟨v, fun G' h' => by cases h'; exact ⟨w, h⟩⟩
  have dist : ∀ j k t, j < nb → k < nb → j ≠ k → dstOf ops j = some t → dstOf ops k ≠ some t := by
    intro j k t hj hk hne h1 h2
    rcases Nat.lt_or_gt_of_ne hne with h | h
    · obtain ⟨o, d, ho, hd, _, _, h3, _⟩ := hf.op k hk
      have : dstOf ops k = some d := by unfold dstOf; rw [ho]; exact hd
      rw [this] at h2
      exact h3 j h (by rw [h1, ← h2])
    · obtain ⟨o, d, ho, hd, _, _, h3, _⟩ := hf.op j hj
      have : dstOf ops j = some d := by unfold dstOf; rw [ho]; exact hd
      rw [this] at h1
      exact h3 k h (by rw [h2, ← h1])
  have dlt : ∀ j t, j < nb → dstOf ops j = some t → t < a0.tmps.size := by
    intro j t hj h
    obtain ⟨o, d, ho, hd, h1, _⟩ := hf.op j hj
    have : dstOf ops j = some d := by unfold dstOf; rw [ho]; exact hd
    rw [this] at h
    cases h
    exact h1
  intro m
  induction m with
  | zero =>
    intro listed a w hI hm
    have hall : ∀ i, i < nb → listed.getD i false = true := by
      intro i hi
      have : ((List.range nb).filter fun i => !listed.getD i false) = [] := List.length_eq_zero_iff.1 hm
      have h1 := List.filter_eq_nil_iff.1 this i (List.mem_range.2 hi)
      simpa using h1
    let v : Nat → Value := fun j => if j < nb then slotOf a (dstOf ops j) else Classical.choose (pick j)
    have hv : ∀ (j : Nat) (G : Value → World → Prop), Gs[j]? = some G → ∃ w, G (v j) w := fun j G hG => by
      have hj : j < nb := by rw [← hlen]; exact (List.getElem?_eq_some_iff.1 hG).1
      refine ⟨w, ?_⟩
      simp only [v, hj, if_true]
      exact hI.facts j G hj (hall j hj) hG
    have hfin := (txt_obs v nb hlen hv _ 0 hl0 (Nat.zero_le _) ht).2 hf.le
    have hfr : fr ops a0 v nb = a := by
      have e1 : (fr ops a0 v nb).tmps = a.tmps := by
        apply Array.ext
        · rw [fr_size, hI.tsize]
        · intro t h1 h2
          have : (fr ops a0 v nb).tmps[t]? = a.tmps[t]? := by
            by_cases hw : ∃ j, j < nb ∧ dstOf ops j = some t
            · obtain ⟨j, hj, hd⟩ := hw
              rw [fr_own a0 v nb j t hj hd (dlt j t hj hd) (fun k hk hjk => dist j k t hj hk (by omega) hd)]
              simp only [v, hj, if_true, hd, slotOf]
              rw [Array.getElem?_eq_getElem h2]
              simp [h2]
            · have hno : ∀ j, j < nb → dstOf ops j ≠ some t := fun j hj e => hw ⟨j, hj, e⟩
              rw [fr_other a0 v nb t hno, hI.init t fun i hi _ => hno i hi]
          rw [Array.getElem?_eq_getElem h1, Array.getElem?_eq_getElem h2] at this
          exact Option.some.inj this
      have e2 : (fr ops a0 v nb).defers = a.defers := by rw [fr_defers, hI.defers]
      generalize fr ops a0 v nb = x at e1 e2
      cases x; cases a; simp only at e1 e2; rw [e1, e2]
    rw [hfr] at hfin
    have hli : listed = listedTo ops.size nb := by
      apply Array.ext
      · simp [listedTo, hI.size]
      · intro i h1 h2
        simp only [listedTo, List.getElem_toArray, List.getElem_map, List.getElem_range]
        by_cases h : i < nb
        · have := hall i h
          simp [h1] at this
          simp [this, h]
        · have := hI.tail i (by omega)
          simp [h1] at this
          simp [this, h]
    rw [Nat.zero_add, hli]
    exact any_of_seq _ nb (by have := hf.le; omega) hseq a w (hfin w hI.ext hI.kw fun j G hj hG => hI.facts j G hj (hall j hj) hG)
  | succ m ih =>
    intro listed a w hI hm
    -- the first one that has not come up may come up
    have hex : ∃ i, i < nb ∧ listed.getD i false = false := by
      cases hF : ((List.range nb).filter fun i => !listed.getD i false) with
      | nil => rw [hF] at hm; simp at hm
      | cons x r =>
        have : x ∈ ((List.range nb).filter fun i => !listed.getD i false) := by rw [hF]; exact List.mem_cons_self ..
        rw [List.mem_filter, List.mem_range] at this
        exact ⟨x, this.1, by simpa using this.2⟩
    obtain ⟨i0, hi0, hmin⟩ : ∃ i, (i < nb ∧ listed.getD i false = false) ∧ ∀ j, j < i → ¬ (j < nb ∧ listed.getD j false = false) := by
      obtain ⟨i, hi⟩ := hex
      induction i using Nat.strongRecOn with
      | _ i ihh =>
        by_cases h : ∃ j, j < i ∧ (j < nb ∧ listed.getD j false = false)
        · obtain ⟨j, hj, hj2⟩ := h
          exact ihh j hj hj2
        · exact ⟨i, hi, fun j hj hj2 => h ⟨j, hj, hj2⟩⟩
    have getD_tf : ∀ i, i < ops.size → listed.getD i true = listed.getD i false := fun i hi => by
      have : i < listed.size := by rw [hI.size]; exact hi
      simp [this]
    have hready0 : i0 ∈ Region.ready .any ops listed := by
      obtain ⟨o, d, ho, _, _, _, _, _, haf⟩ := hf.op i0 hi0.1
      refine mem_ready.2 ⟨by rw [getD_tf i0 (by have := hf.le; omega)]; exact hi0.2, o, ho, fun e he hb => ?_⟩
      have h1 := haf e he hb
      have h2 := hmin e.on h1
      cases h3 : listed.getD e.on false with
      | true => rfl
      | false => exact absurd ⟨by omega, h3⟩ h2
    rw [show m + 1 + (ops.size - nb) = (m + (ops.size - nb)) + 1 from by omega]
    refine ⟨fun h => (by rw [h] at hready0; cases hready0), fun i hi => ?_⟩
    obtain ⟨hiun, o, ho, hpre⟩ := mem_ready.1 hi
    have hisz : i < ops.size := (Array.getElem?_eq_some_iff.1 ho).1
    have hinb : i < nb := by
      by_cases h : i < nb
      · exact h
      · have := hf.tail i o (by omega) ho (fun j => listed.getD j false = true) (fun j hj => by
          obtain ⟨e, he, he1, he2⟩ := waits_iff.1 hj
          subst he1; exact hpre e he he2) hI.closed i0 hi0.1
        rw [hi0.2] at this
        cases this
    obtain ⟨o', d, ho', hd, hdn, hsel, hdist, hlooks, haf⟩ := hf.op i hinb
    rw [ho] at ho'
    cases ho'
    have hdst : dstOf ops i = some d := by unfold dstOf; rw [ho]; exact hd
    have hwl : ∀ j, waits o j = true → j < i ∧ listed.getD j false = true := fun j hj => by
      obtain ⟨e, he, he1, he2⟩ := waits_iff.1 hj
      subst he1
      exact ⟨haf e he he2, hpre e he he2⟩
    let v : Nat → Value := fun j => if j < nb ∧ listed.getD j false = true then slotOf a (dstOf ops j) else Classical.choose (pick j)
    have hv : ∀ (j : Nat) (G : Value → World → Prop), Gs[j]? = some G → ∃ w, G (v j) w := fun j G hG => by
      have hj : j < nb := by rw [← hlen]; exact (List.getElem?_eq_some_iff.1 hG).1
      by_cases h : listed.getD j false = true
      · refine ⟨w, ?_⟩
        simp only [v, hj, h, and_self, if_true]
        exact hI.facts j G hj h hG
      · have e : v j = Classical.choose (pick j) := if_neg fun h' => h h'.2
        rw [e]
        exact Classical.choose_spec (pick j) G hG
    have hob := (txt_obs v nb hlen hv _ 0 hl0 (Nat.zero_le _) ht).1 i o (Nat.zero_le _) hinb ho
    have agree : ∀ t ∈ o.looksAt ops, (fr ops a0 v i).tmps[t]? = a.tmps[t]? := fun t ht' => by
      rcases hlooks t ht' with ⟨j, hj, hjd, hjw⟩ | hno
      · have hjl := (hwl j hjw).2
        rw [fr_own a0 v i j t hj hjd (dlt j t (by omega) hjd) (fun k hk hjk => dist j k t (by omega) (by omega) (by omega) hjd)]
        have hjn : j < nb := by omega
        simp only [v, hjn, hjl, and_self, if_true, hjd, slotOf]
        have : t < a.tmps.size := by rw [hI.tsize]; exact dlt j t hjn hjd
        simp [this]
      · rw [fr_other a0 v i t fun j hj => hno j (by omega), hI.init t fun k hk _ => hno k hk]
    obtain ⟨G, hG⟩ : ∃ G, Gs[i]? = some G := ⟨_, List.getElem?_eq_getElem (by omega)⟩
    have hob' := hob w hI.ext hI.kw (fun j G' hjw hG' => by
      obtain ⟨hj, hjl⟩ := hwl j hjw
      have hjn : j < nb := by omega
      have hfact := hI.facts j G' hjn hjl hG'
      obtain ⟨oj, dj, hoj, hdj, _⟩ := hf.op j hjn
      have hdj' : dstOf ops j = some dj := by unfold dstOf; rw [hoj]; exact hdj
      have : slotOf (fr ops a0 v i) (dstOf ops j) = slotOf a (dstOf ops j) := by
        rw [hdj']
        unfold slotOf
        refine getD_eq ?_
        rw [fr_own a0 v i j dj hj hdj' (dlt j dj hjn hdj') (fun k hk hjk => dist j k dj hjn (by omega) (by omega) hdj')]
        simp only [v, hjn, hjl, and_self, if_true, hdj', slotOf]
        have : dj < a.tmps.size := by rw [hI.tsize]; exact dlt j dj hjn hdj'
        simp [this]
      rw [this]; exact hfact) G hG
    -- what is left behind this one
    have hnext : ∀ u w', Ext w w' → G u w' → wpAny P .any ops Q (m + (ops.size - nb)) (listed.setIfInBounds i true) (a.put o.dst u) w' := by
      intro u w' hx hGu
      have hil : i < listed.size := by rw [hI.size]; exact hisz
      have hif : listed.getD i false = false := by rw [← getD_tf i hisz]; exact hiun
      have hset : ∀ j, (listed.setIfInBounds i true).getD j false = if j = i then true else listed.getD j false := fun j => by
        by_cases e : j = i
        · subst e; simp [hil]
        · rw [if_neg e, getD_set_ne false (Ne.symm e)]
      refine ih _ _ _ ⟨hI.ext.trans hx, hK _ (hI.ext.trans hx), by simp [hI.size], by rw [put_defers, hI.defers], by rw [put_size, hI.tsize], fun t hno => ?_, fun j G' hj hjl hG' => ?_, fun j hj => ?_, fun k ok hk hkl hok j hj => ?_⟩ ?_
      · rw [hd, put_get_ne _ _ _ _ (fun e => hno i hinb (by rw [hset, if_pos rfl]) (by rw [hdst, e]))]
        refine hI.init t fun k hk hkl => hno k hk ?_
        rw [hset]
        by_cases e : k = i
        · rw [if_pos e]
        · rw [if_neg e]; exact hkl
      · by_cases e : j = i
        · subst e
          rw [hG] at hG'
          cases hG'
          rw [hdst, hd]
          have : slotOf (a.put (some d) u) (some d) = u := by
            unfold slotOf
            have h1 := put_get_eq a u d (by rw [hI.tsize]; exact hdn)
            simp [h1]
          rw [this]; exact hGu
        · rw [hset, if_neg e] at hjl
          have hfact := hI.facts j G' hj hjl hG'
          obtain ⟨oj, dj, hoj, hdj, _⟩ := hf.op j hj
          have hdj' : dstOf ops j = some dj := by unfold dstOf; rw [hoj]; exact hdj
          have : slotOf (a.put o.dst u) (dstOf ops j) = slotOf a (dstOf ops j) := by
            rw [hdj', hd]
            unfold slotOf
            refine getD_eq (put_get_ne _ _ _ _ fun h => ?_)
            exact dist j i dj hj hinb e hdj' (by rw [hdst, h])
          rw [this]
          exact (hgood.get j G' hG').stable _ _ _ hx hfact
      · rw [hset, if_neg (by omega)]; exact hI.tail j hj
      · rw [hset]
        by_cases e : j = i
        · rw [if_pos e]
        · rw [if_neg e]
          by_cases e2 : k = i
          · subst e2
            rw [ho] at hok
            cases hok
            exact (hwl j hj).2
          · rw [hset, if_neg e2] at hkl
            exact hI.closed k ok hk hkl hok j hj
      · have hcount : ∀ (l : List Nat), i ∈ l → l.Nodup → (l.filter fun j => !(listed.setIfInBounds i true).getD j false).length + 1 = (l.filter fun j => !listed.getD j false).length := by
          intro l
          induction l with
          | nil => intro h; cases h
          | cons x r ihl =>
            intro hmem hnd
            rw [List.nodup_cons] at hnd
            rcases List.mem_cons.1 hmem with e | e
            · subst e
              have hr : (r.filter fun j => !(listed.setIfInBounds i true).getD j false) = r.filter fun j => !listed.getD j false := by
                apply List.filter_congr
                intro j hj
                rw [hset, if_neg fun e => hnd.1 (by rw [← e]; exact hj)]
              have a1 : (!(listed.setIfInBounds i true).getD i false) = false := by rw [hset, if_pos rfl]; rfl
              have a2 : (!listed.getD i false) = true := by rw [hif]; rfl
              simp only [List.filter_cons, a1, a2, hr, if_true, if_false, Bool.false_eq_true, List.length_cons]
            · have hxi : x ≠ i := fun h => hnd.1 (h ▸ e)
              have h1 := ihl e hnd.2
              rw [List.filter_cons, List.filter_cons, hset, if_neg hxi]
              cases listed.getD x false <;> simp at h1 ⊢ <;> omega
        have := hcount (List.range nb) (List.mem_range.2 hinb) List.nodup_range
        omega
    unfold wpOp
    rw [ho]
    simp only
    rw [wanted_congr agree] at hob'
    split
    · rename_i hw
      rw [if_pos hw] at hob'
      exact .inl (gives_wp (gives_congr hsel agree hob') fun u w' ⟨hx, hGu⟩ => hnext u w' hx hGu)
    · rename_i hw
      rw [if_neg hw] at hob'
      exact hnext undef w (Ext.refl w) hob'

/-- THE REGION. -/
theorem wp_region_facts {id : Nat} {l : List Oper} {a : Act} {w : World} (nb : Nat) (Kw : World → Prop) (Gs : List (Value → World → Prop)) (hm : P.follows .mixedOrders = true)
    (hok : factsOk l.toArray nb a.tmps.size = true) (hseq : seqTail l.toArray nb = true) (hlen : Gs.length = nb) (hK : ∀ w', Ext w w' → Kw w') (ht : Txt P l.toArray Q w Kw Gs 0 (l.take nb) a) (hgood : GoodAll Gs) :
    (Code.region id l.toArray true).wp P Q a w := by
  refine wp_region_any hm ?_
  have hf := facts_of hok
  have hrep : ∀ i, (Array.replicate l.toArray.size false).getD i false = false := fun i => by
    rw [Array.getD_eq_getD_getElem?, Array.getElem?_replicate]; split <;> rfl
  have h := any_of_txt (P := P) (Q := Q) (w0 := w) (Kw := Kw) hf hlen hgood hseq hK (by simpa using ht) nb (Array.replicate l.toArray.size false) a { w with drawn := w.drawn + 1 }
    { ext := (Ext.refl w).drew, kw := hK _ (Ext.refl w).drew, size := by simp, defers := rfl, tsize := rfl, init := fun t _ => rfl,
      facts := fun i G hi hl => (by rw [hrep i] at hl; cases hl), tail := fun i hi => hrep i, closed := fun k o hk hl => (by rw [hrep k] at hl; cases hl) }
    (by
      have : ∀ (r : List Nat), (r.filter fun i => !(Array.replicate l.toArray.size false).getD i false) = r := fun r => by
        apply List.filter_eq_self.2
        intro i _
        rw [hrep i]; rfl
      rw [this]; simp)
  have e : nb + (l.toArray.size - nb) = l.toArray.size := by have := hf.le; omega
  rw [e] at h
  exact h


/-- There are so many facts .. -/
def ExG : Nat → (List (Value → World → Prop) → Prop) → Prop
  | 0, p => p []
  | n + 1, p => ∃ G, ExG n fun l => p (G :: l)
theorem ExG.get : ∀ {n : Nat} {p : List (Value → World → Prop) → Prop}, ExG n p → ∃ l, l.length = n ∧ p l
  | 0, _, h => ⟨[], rfl, h⟩
  | _ + 1, _, ⟨G, h⟩ => let ⟨l, hl, hp⟩ := h.get; ⟨G :: l, by simp [hl], hp⟩

/-- THE REGION, the facts found on the way. -/
theorem wp_region_ex {id : Nat} {l : List Oper} {a : Act} {w : World} (nb : Nat) (Kw : World → Prop) (hm : P.follows .mixedOrders = true)
    (hok : factsOk l.toArray nb a.tmps.size = true) (hseq : seqTail l.toArray nb = true) (hK : ∀ w', Ext w w' → Kw w')
    (h : ExG nb fun Gs => Txt P l.toArray Q w Kw Gs 0 (l.take nb) a ∧ GoodAll Gs) :
    (Code.region id l.toArray true).wp P Q a w := by
  obtain ⟨Gs, hlen, ht, hgood⟩ := h.get
  exact wp_region_facts nb Kw Gs hm hok hseq hlen hK ht hgood

/-- One operation whose value is known. -/
theorem Txt.on {i : Nat} {o : Oper} {rest : List Oper} {a : Act} {c : Value} (hG : Gs[i]? = some fun v _ => v = c) (hw : Region.wanted o (yielded ops a.tmps) = true)
    (h : ∀ w, Ext w0 w → Kw w → (∀ (j : Nat) (G : Value → World → Prop), waits o j = true → Gs[j]? = some G → G (slotOf a (dstOf ops j)) w) → gives P o a w fun v w' => Ext w w' ∧ v = c)
    (hn : Txt P ops Q w0 Kw Gs (i + 1) rest (a.put o.dst c)) : Txt P ops Q w0 Kw Gs i (o :: rest) a :=
  ⟨fun w hx hk hp G hG' => by rw [hG] at hG'; cases hG'; rw [if_pos hw]; exact h w hx hk hp,
   fun v G hG' hv => by rw [hG] at hG'; cases hG'; obtain ⟨_, rfl⟩ := hv; exact hn⟩
/-- One operation whose guard says no. -/
theorem Txt.off {i : Nat} {o : Oper} {rest : List Oper} {a : Act} (hG : Gs[i]? = some fun v _ => v = undef) (hw : Region.wanted o (yielded ops a.tmps) = false)
    (hn : Txt P ops Q w0 Kw Gs (i + 1) rest (a.put o.dst undef)) : Txt P ops Q w0 Kw Gs i (o :: rest) a :=
  ⟨fun w hx hk hp G hG' => by rw [hG] at hG'; cases hG'; rw [if_neg (by rw [hw]; decide)],
   fun v G hG' hv => by rw [hG] at hG'; cases hG'; obtain ⟨_, rfl⟩ := hv; exact hn⟩
/-- One operation of whose value a fact is known. -/
theorem Txt.eff {i : Nat} {o : Oper} {rest : List Oper} {a : Act} (G : Value → World → Prop) (hG : Gs[i]? = some G) (hw : Region.wanted o (yielded ops a.tmps) = true)
    (h : ∀ w, Ext w0 w → Kw w → (∀ (j : Nat) (G : Value → World → Prop), waits o j = true → Gs[j]? = some G → G (slotOf a (dstOf ops j)) w) → gives P o a w fun v w' => Ext w w' ∧ G v w')
    (hn : ∀ v, (∃ w, G v w) → Txt P ops Q w0 Kw Gs (i + 1) rest (a.put o.dst v)) : Txt P ops Q w0 Kw Gs i (o :: rest) a :=
  ⟨fun w hx hk hp G' hG' => by rw [hG] at hG'; cases hG'; rw [if_pos hw]; exact h w hx hk hp,
   fun v G' hG' hv => by rw [hG] at hG'; cases hG'; exact hn v hv⟩

attribute [go_sem] gives givesUpon

end
end Go.Proofs.Ytnbbaemijogeoaa
set_option linter.unusedSimpArgs false
set_option linter.unusedVariables false
namespace Go.Proofs.Ytnbbaemijogeoaa.Ae
open Go

def liteOp : Op → Bool
  | .move _ => true
  | .assign _ => true
  | .extract _ _ => true
  | _ => false
def isStore : Op → Bool
  | .store _ _ _ => true
  | _ => false
/-- waits for all ahead of it -/
def lateOper (k : Nat) (o : Oper) : Oper := ⟨o.dst, o.op, o.type, o.pos, o.after ++ ((List.range k).map fun j => (⟨j, .data⟩ : Edge)).toArray, o.guard⟩
def lateL (k : Nat) : Nat → List Oper → List Oper
  | _, [] => []
  | 0, o :: r => lateOper k o :: r
  | j + 1, o :: r => o :: lateL k j r
def late (k : Nat) (ops : Array Oper) : Array Oper := (lateL k k ops.toList).toArray
def lateOk (k : Nat) (ops : Array Oper) : Bool := match ops[k]? with
  | none => false
  | some ok => isStore ok.op && ok.dst.isNone && ok.guard.isNone && ((List.range k).all fun j => match ops[j]? with
      | some o => (clos ops k (onsOf ok)).contains j || (liteOp o.op && (match o.dst with | some d => !(ok.looksAt ops).contains d | none => false) && o.guard.isNone)
      | none => false) &&
    ((List.range ops.size).all fun j => match ops[j]? with
      | some o => (o.after.all fun e => !Region.binds .any e || decide (e.on < j)) && (decide (j ≤ k) || ((List.range (k + 1)).all fun i => (clos ops j (onsOf o)).contains i))
      | none => false)
section
variable {P : Program} {ops : Array Oper} {Q : Exit → Act → World → Prop} {k : Nat}

theorem lateL_get : ∀ (l : List Oper) (j i : Nat), (lateL k j l)[i]? = if i = j then (l[i]?).map (lateOper k) else l[i]?
  | [], j, i => by simp [lateL]
  | o :: r, 0, i => by
    cases i with
    | zero => simp [lateL]
    | succ i => simp [lateL]
  | o :: r, j + 1, i => by
    cases i with
    | zero => simp [lateL]
    | succ i => simp [lateL, lateL_get r j i]
theorem late_get (i : Nat) : (late k ops)[i]? = if i = k then (ops[i]?).map (lateOper k) else ops[i]? := by
  unfold late
  rw [List.getElem?_toArray, lateL_get]
  simp
theorem lateL_length : ∀ (l : List Oper) (j : Nat), (lateL k j l).length = l.length
  | [], _ => by simp [lateL]
  | o :: r, 0 => by simp [lateL]
  | o :: r, j + 1 => by simp [lateL, lateL_length r j]
theorem late_size : (late k ops).size = ops.size := by unfold late; simp [lateL_length]
theorem late_yielded (t : Array Value) : yielded (late k ops) t = yielded ops t := by
  have h : ∀ j, ((late k ops)[j]?).bind (fun o : Oper => o.dst) = (ops[j]?).bind (fun o : Oper => o.dst) := fun j => by
    rw [late_get]
    by_cases e : j = k
    · rw [if_pos e]; cases ops[j]? <;> rfl
    · rw [if_neg e]
  funext j
  unfold yielded
  rw [h]
theorem late_ready {listed : Array Bool} {i : Nat} (hi : i ≠ k) : i ∈ Region.ready .any (late k ops) listed ↔ i ∈ Region.ready .any ops listed := by
  rw [mem_ready, mem_ready, late_get, if_neg hi]
theorem late_ready_k {listed : Array Bool} (h : k ∈ Region.ready .any (late k ops) listed) : k ∈ Region.ready .any ops listed ∧ ∀ j, j < k → listed.getD j false = true := by
  obtain ⟨h1, o, h2, h3⟩ := mem_ready.1 h
  rw [late_get, if_pos rfl] at h2
  cases ho : ops[k]? with
  | none => rw [ho] at h2; cases h2
  | some o' =>
    rw [ho] at h2
    simp only [Option.map_some, Option.some.injEq] at h2
    subst h2
    refine ⟨mem_ready.2 ⟨h1, o', ho, fun e he hb => h3 e (by simp [lateOper, he]) hb⟩, fun j hj => ?_⟩
    exact h3 ⟨j, .data⟩ (by simp [lateOper, hj]) rfl
theorem late_ready_in {listed : Array Bool} (h : k ∈ Region.ready .any ops listed) (hj : ∀ j, j < k → listed.getD j false = true) : k ∈ Region.ready .any (late k ops) listed := by
  obtain ⟨h1, o, h2, h3⟩ := mem_ready.1 h
  refine mem_ready.2 ⟨h1, lateOper k o, by rw [late_get, if_pos rfl, h2]; rfl, fun e he hb => ?_⟩
  simp only [lateOper, Array.mem_append] at he
  rcases he with he | he
  · exact h3 e he hb
  · obtain ⟨j, hj', rfl⟩ := by simpa using he
    exact hj j hj'
theorem wpOp_late {i : Nat} (hi : i ≠ k) {K : Act → World → Prop} {a : Act} {w : World} : wpOp P (late k ops) Q i K a w ↔ wpOp P ops Q i K a w := by
  unfold wpOp
  rw [late_get, if_neg hi, late_yielded]
/-- all that is listed waits for what is listed -/
def Closed (ops : Array Oper) (listed : Array Bool) : Prop := ∀ j o, ops[j]? = some o → listed.getD j false = true → ∀ q, waits o q = true → listed.getD q false = true
theorem getD_set {l : Array Bool} {i j : Nat} (hi : i < l.size) : (l.setIfInBounds i true).getD j false = if j = i then true else l.getD j false := by
  by_cases e : j = i
  · subst e; simp [hi]
  · rw [if_neg e, getD_set_ne false (Ne.symm e)]
theorem ready_waits {listed : Array Bool} {i : Nat} (h : i ∈ Region.ready .any ops listed) : ∃ o, ops[i]? = some o ∧ ∀ q, waits o q = true → listed.getD q false = true := by
  obtain ⟨_, o, h2, h3⟩ := mem_ready.1 h
  exact ⟨o, h2, fun q hq => by obtain ⟨e, he, e1, e2⟩ := waits_iff.1 hq; subst e1; exact h3 e he e2⟩
theorem ready_lt {listed : Array Bool} {i : Nat} (h : i ∈ Region.ready .any ops listed) : i < ops.size ∧ listed.getD i true = false := by
  obtain ⟨h1, o, h2, _⟩ := mem_ready.1 h
  exact ⟨(Array.getElem?_eq_some_iff.1 h2).1, h1⟩
theorem Closed.set {listed : Array Bool} (hc : Closed ops listed) (hs : listed.size = ops.size) {i : Nat} (h : i ∈ Region.ready .any ops listed) : Closed ops (listed.setIfInBounds i true) := by
  intro j o ho hl q hq
  have hi : i < listed.size := by rw [hs]; exact (ready_lt h).1
  rw [getD_set hi] at hl ⊢
  split
  · rfl
  · by_cases e : j = i
    · subst e
      obtain ⟨o', ho', h3⟩ := ready_waits h
      rw [ho] at ho'; cases ho'
      exact h3 q hq
    · rw [if_neg e] at hl
      exact hc j o ho hl q hq
/-- once it is listed, there is no difference -/
theorem any_listed : ∀ (n : Nat) (listed : Array Bool) (a : Act) (w : World), listed.size = ops.size → listed.getD k false = true → wpAny P .any (late k ops) Q n listed a w → wpAny P .any ops Q n listed a w := by
  intro n
  have rd : ∀ listed : Array Bool, listed.size = ops.size → listed.getD k false = true → ∀ i, i ∈ Region.ready .any ops listed → i ≠ k := fun listed hs hk i hi e => by
    subst e
    have h := ready_lt hi
    have : i < listed.size := by rw [hs]; exact h.1
    simp [this] at hk h
    rw [hk] at h; simp at h
  have nl : ∀ listed : Array Bool, listed.size = ops.size → listed.getD k false = true → (Region.ready .any (late k ops) listed = [] ↔ Region.ready .any ops listed = []) := fun listed hs hk => by
    constructor
    · intro h
      rw [List.eq_nil_iff_forall_not_mem] at h ⊢
      intro i hi
      exact h i ((late_ready (rd listed hs hk i hi)).2 hi)
    · intro h
      rw [List.eq_nil_iff_forall_not_mem] at h ⊢
      intro i hi
      by_cases e : i = k
      · subst e; exact h i (late_ready_k hi).1
      · exact h i ((late_ready e).1 hi)
  induction n with
  | zero => intro listed a w hs hk h; exact ⟨(nl listed hs hk).1 h.1, h.2⟩
  | succ n ih =>
    intro listed a w hs hk h
    refine ⟨fun hn => h.1 ((nl listed hs hk).2 hn), fun i hi => ?_⟩
    have hik := rd listed hs hk i hi
    have hw := h.2 i ((late_ready hik).2 hi)
    rw [wpOp_late hik] at hw
    refine wpOp_mono (fun a w hh => ih _ a w (by simp [hs]) ?_ hh) hw
    rw [getD_set (by rw [hs]; exact (ready_lt hi).1)]
    split <;> first | rfl | exact hk
theorem lite_run {o : Oper} (h : liteOp o.op = true) {ρ : Operand → Value} {w : World} {r : Next} {w' : World} (hr : (execOp ρ o).run P w = .ok r w') : ∃ v, r = .value v ∧ w' = w ∧ ∀ w2, (execOp ρ o).run P w2 = .ok (.value v) w2 := by
  obtain ⟨dst, op, type, pos, after, guard⟩ := o
  cases op with
  | move x => simp only [execOp, Sem.run_pure] at hr ⊢; cases hr; exact ⟨_, rfl, rfl, fun _ => rfl⟩
  | assign x => simp only [execOp, Sem.run_pure] at hr ⊢; cases hr; exact ⟨_, rfl, rfl, fun _ => rfl⟩
  | extract t ix =>
    simp only [execOp, Instr.extract, Sem.run_bind] at hr ⊢
    cases hv : ρ t with
    | tuple vs =>
      rw [hv] at hr
      simp only at hr ⊢
      cases hx : vs[ix]? with
      | none => rw [hx] at hr; simp at hr
      | some v => rw [hx] at hr; simp at hr; obtain ⟨h1, h2⟩ := hr; subst h1 h2; exact ⟨v, rfl, rfl, fun _ => by simp⟩
    | _ => rw [hv] at hr; simp at hr
  | _ => cases h
structure Late (k : Nat) (ops : Array Oper) (ok : Oper) : Prop where
  at_ : ops[k]? = some ok
  op : isStore ok.op = true
  dst : ok.dst = none
  guard : ok.guard = none
  lt : ∀ j o, ops[j]? = some o → ∀ q, waits o q = true → q < j
  lite : ∀ j o, j < k → ops[j]? = some o → j ∈ clos ops k (onsOf ok) ∨ (liteOp o.op = true ∧ (∃ d, o.dst = some d ∧ d ∉ ok.looksAt ops) ∧ o.guard = none)
  rest : ∀ j o, k < j → ops[j]? = some o → ∀ i, i ≤ k → i ∈ clos ops j (onsOf o)
theorem late_of (h : lateOk k ops = true) : ∃ ok, Late k ops ok := by
  unfold lateOk at h
  split at h
  · cases h
  · rename_i ok hk
    simp only [Bool.and_eq_true, List.all_eq_true, List.mem_range] at h
    obtain ⟨⟨⟨⟨h1, h2⟩, h3⟩, h4⟩, h5⟩ := h
    refine ⟨ok, hk, h1, by simpa using h2, by simpa using h3, fun j o ho q hq => ?_, fun j o hj ho => ?_, fun j o hj ho i hi => ?_⟩
    · have h6 := h5 j (Array.getElem?_eq_some_iff.1 ho).1
      rw [ho] at h6
      simp only [Bool.and_eq_true] at h6
      obtain ⟨e, he, e1, e2⟩ := waits_iff.1 hq
      subst e1
      have := Array.all_eq_true_iff_forall_mem.1 h6.1 e he
      rw [e2] at this
      simpa using this
    · have h6 := h4 j hj
      rw [ho] at h6
      simp only [Bool.or_eq_true, Bool.and_eq_true] at h6
      rcases h6 with h6 | ⟨⟨h6, h7⟩, h8⟩
      · exact .inl (by simpa using h6)
      · refine .inr ⟨h6, ?_, by simpa using h8⟩
        cases hd : o.dst with
        | none => rw [hd] at h7; cases h7
        | some d => rw [hd] at h7; exact ⟨d, rfl, by simpa using h7⟩
    · have h6 := h5 j (Array.getElem?_eq_some_iff.1 ho).1
      rw [ho] at h6
      simp only [Bool.and_eq_true, Bool.or_eq_true, decide_eq_true_eq, List.all_eq_true, List.mem_range] at h6
      rcases h6.2 with h7 | h7
      · omega
      · simpa using h7 i (by omega)
theorem wpAny_pos {n : Nat} {listed : Array Bool} {a : Act} {w : World} {i : Nat} (hr : i ∈ Region.ready .any ops listed) (h : wpAny P .any ops Q n listed a w) : ∃ m, n = m + 1 := by
  cases n with
  | zero => rw [h.1] at hr; cases hr
  | succ m => exact ⟨m, rfl⟩
section
variable {ok : Oper}
theorem Late.closed_lt (L : Late k ops ok) {listed : Array Bool} (hc : Closed ops listed) {i : Nat} {o : Oper} (ho : ops[i]? = some o) (hw : ∀ q, waits o q = true → listed.getD q false = true) : ∀ j ∈ clos ops i (onsOf o), listed.getD j false = true :=
  clos_sub (nb := i) (fun j => listed.getD j false = true) (fun q o' _ hl ho' => hc q o' ho' hl) i (Nat.le_refl _) _ (fun q hq => hw q (onsOf_iff.1 hq))
/-- the least that is not listed is ready -/
theorem Late.least (L : Late k ops ok) {listed : Array Bool} (hs : listed.size = ops.size) {u : Nat} (hu : u < ops.size) (hul : listed.getD u false = false) : ∃ i, i ≤ u ∧ i ∈ Region.ready .any ops listed := by
  induction u using Nat.strongRecOn with
  | _ u ih =>
    obtain ⟨o, ho⟩ : ∃ o, ops[u]? = some o := ⟨_, Array.getElem?_eq_getElem hu⟩
    by_cases h : ∃ q, waits o q = true ∧ listed.getD q false = false
    · obtain ⟨q, hq, hql⟩ := h
      have hlt := L.lt u o ho q hq
      obtain ⟨i, hi, hr⟩ := ih q hlt (by omega) hql
      exact ⟨i, by omega, hr⟩
    · refine ⟨u, Nat.le_refl _, mem_ready.2 ⟨?_, o, ho, fun e he hb => ?_⟩⟩
      · have : u < listed.size := by omega
        simp [this] at hul ⊢; exact hul
      · cases hl : listed.getD e.on false with
        | true => rfl
        | false => exact absurd ⟨e.on, waits_iff.2 ⟨e, he, rfl, hb⟩, hl⟩ h
theorem set_set {l : Array Bool} {i j : Nat} : (l.setIfInBounds i true).setIfInBounds j true = (l.setIfInBounds j true).setIfInBounds i true := by
  by_cases e : i = j
  · subst e; rfl
  · exact Array.setIfInBounds_comm _ _ e
/-- it may be run as soon as it is ready -/
theorem Late.early (L : Late k ops ok) (hQ : ∀ e a w, Q e a w → e = .normal) : ∀ (n : Nat) (listed : Array Bool) (a : Act) (w : World), listed.size = ops.size → Closed ops listed → k ∈ Region.ready .any ops listed → wpAny P .any (late k ops) Q n listed a w →
    ∃ m r w', n = m + 1 ∧ (execOp a.eval ok).run P w = .ok r w' ∧ (r = .skip ∨ ∃ v, r = .value v) ∧ wpAny P .any ops Q m (listed.setIfInBounds k true) a w' := by
  intro n
  induction n with
  | zero =>
    intro listed a w hs hc hk h
    exfalso
    by_cases hall : ∀ j, j < k → listed.getD j false = true
    · have := late_ready_in hk hall
      rw [h.1] at this; cases this
    · have ⟨j, hj⟩ := Classical.not_forall.1 hall
      have ⟨hj1, hj2⟩ := Classical.not_imp.1 hj
      have hj2 : listed.getD j false = false := by simpa using hj2
      have hklt := (ready_lt hk).1
      obtain ⟨i, hi, hr⟩ := L.least hs (by omega : j < ops.size) hj2
      have := (late_ready (k := k) (by omega : i ≠ k)).2 hr
      rw [h.1] at this; cases this
  | succ n ih =>
    intro listed a w hs hc hk h
    have hklt := (ready_lt hk).1
    have hkun : listed.getD k false = false := by
      have h1 := (ready_lt hk).2
      have : k < listed.size := by omega
      simp [this] at h1 ⊢; exact h1
    by_cases hall : ∀ j, j < k → listed.getD j false = true
    · have hk' := late_ready_in hk hall
      have hw := h.2 k hk'
      unfold wpOp at hw
      rw [late_get, if_pos rfl, L.at_] at hw
      simp only [Option.map_some] at hw
      have hwant : Region.wanted (lateOper k ok) (yielded (late k ops) a.tmps) = true := by unfold Region.wanted lateOper; rw [L.guard]
      rw [if_pos hwant] at hw
      rcases hw with hw | ⟨_, a', w', ho⟩
      · unfold Oper.wp at hw
        have hex : execOp a.eval (lateOper k ok) = execOp a.eval ok := rfl
        rw [hex] at hw
        have hst : isStore ok.op = true := L.op
        generalize hrr : (execOp a.eval ok).run P w = res at hw ⊢
        cases res with
        | ok r w' =>
          have hput : ∀ v, a.put (lateOper k ok).dst v = a := fun v => by show a.put ok.dst v = a; rw [L.dst]; rfl
          cases r with
          | value v =>
            rw [Oper.upon_value, hput] at hw
            exact ⟨n, _, w', rfl, rfl, .inr ⟨v, rfl⟩, any_listed n _ a w' (by simp [hs]) (by rw [getD_set (by omega), if_pos rfl]) hw⟩
          | skip =>
            rw [Oper.upon_skip, hput] at hw
            exact ⟨n, _, w', rfl, rfl, .inl rfl, any_listed n _ a w' (by simp [hs]) (by rw [getD_set (by omega), if_pos rfl]) hw⟩
          | _ =>
            exfalso
            have : ∀ (s : Sem Unit) x, ((do s; pure .skip : Sem Next)).run P w = .ok x w' → x = .skip := fun s x hx => by
              rw [Sem.run_bind] at hx
              cases hs : s.run P w with
              | ok _ _ => rw [hs] at hx; simp at hx; exact hx.1.symm
              | halt _ _ => rw [hs] at hx; simp at hx
            cases hop : ok.op with
            | store t x v =>
              have hh := hrr
              unfold execOp at hh
              rw [hop] at hh
              have := this _ _ hh
              cases this
            | _ => rw [hop] at hst; cases hst
        | halt x w' =>
          exfalso
          cases x with
          | panic v => rw [Oper.upon_panic] at hw; have := hQ _ _ _ hw; cases this
          | _ => exact hw
      · have := hQ _ _ _ ho; cases this
    · have ⟨j, hj⟩ := Classical.not_forall.1 hall
      have ⟨hj1, hj2⟩ := Classical.not_imp.1 hj
      have hj2 : listed.getD j false = false := by simpa using hj2
      obtain ⟨i0, hi0, hr0⟩ := L.least hs (by omega : j < ops.size) hj2
      -- what is ready now is a move of slots
      have hcl := L.closed_lt hc L.at_ (by obtain ⟨o, ho, h3⟩ := ready_waits hk; rw [L.at_] at ho; cases ho; exact h3)
      have small : ∀ i, i ∈ Region.ready .any ops listed → i ≠ k → i < k ∧ ∃ o d, ops[i]? = some o ∧ liteOp o.op = true ∧ o.dst = some d ∧ d ∉ ok.looksAt ops ∧ o.guard = none := by
        intro i hi hik
        obtain ⟨o, ho, hw⟩ := ready_waits hi
        have hiun := (ready_lt hi)
        have hil : listed.getD i false = false := by
          have : i < listed.size := by omega
          have h2 := hiun.2
          simp [this] at h2 ⊢; exact h2
        rcases Nat.lt_or_ge i k with hlt | hge
        · refine ⟨hlt, ?_⟩
          rcases L.lite i o hlt ho with hh | ⟨h1, ⟨d, h2, h3⟩, h4⟩
          · rw [hcl i hh] at hil; cases hil
          · exact ⟨o, d, ho, h1, h2, h3, h4⟩
        · have := L.closed_lt hc ho hw k (L.rest i o (by omega) ho k (Nat.le_refl _))
          rw [this] at hkun; cases hkun
      -- one round: a move, in either world
      have round : ∀ i, i ∈ Region.ready .any ops listed → i ≠ k → ∃ m r w' o v, n = m + 1 ∧ (execOp a.eval ok).run P w = .ok r w' ∧ (r = .skip ∨ ∃ v, r = .value v) ∧ ops[i]? = some o ∧ o.guard = none ∧ (∀ w2, (execOp a.eval o).run P w2 = .ok (.value v) w2) ∧
          wpAny P .any ops Q m ((listed.setIfInBounds i true).setIfInBounds k true) (a.put o.dst v) w' := by
        intro i hi hik
        obtain ⟨hlt, o, d, ho, h1, h2, h3, h4⟩ := small i hi hik
        have hw := h.2 i ((late_ready hik).2 hi)
        rw [wpOp_late hik] at hw
        unfold wpOp at hw
        rw [ho] at hw
        simp only at hw
        rw [if_pos (by unfold Region.wanted; rw [h4])] at hw
        rcases hw with hw | ⟨_, a', w', hx⟩
        · unfold Oper.wp at hw
          generalize hrr : (execOp a.eval o).run P w = res at hw
          cases res with
          | ok r w1 =>
            obtain ⟨v, rfl, rfl, hall⟩ := lite_run h1 hrr
            rw [Oper.upon_value] at hw
            have hki : k ∈ Region.ready .any ops (listed.setIfInBounds i true) := by
              obtain ⟨c1, c2, c3, c4⟩ := mem_ready.1 hk
              refine mem_ready.2 ⟨?_, c2, c3, fun e he hb => ?_⟩
              · rw [getD_set_ne true hik]; exact c1
              · rw [getD_set (by have := (ready_lt hi).1; omega)]
                split
                · rfl
                · exact c4 e he hb
            obtain ⟨m, r, w', e1, e2, e3, e4⟩ := ih _ _ _ (by simp [hs]) (hc.set hs hi) hki hw
            refine ⟨m, r, w', o, v, e1, ?_, e3, ho, h4, hall, e4⟩
            rw [← e2, execOp_put ok (fun cs b he => by have := L.op; rw [he] at this; cases this) a o.dst v (fun d' hd' => by rw [h2] at hd'; cases hd'; exact h3)]
          | halt x w1 =>
            exfalso
            cases x with
            | panic v => rw [Oper.upon_panic] at hw; have := hQ _ _ _ hw; cases this
            | _ => exact hw
        · have := hQ _ _ _ hx; cases this
      obtain ⟨m, r, w', _, _, hn, hrun, hr, _⟩ := round i0 hr0 (by omega)
      refine ⟨n, r, w', rfl, hrun, hr, ?_⟩
      subst hn
      have hc' := hc.set hs hk
      refine ⟨fun hnil => ?_, fun i hi => ?_⟩
      · exfalso
        have : i0 ∈ Region.ready .any ops (listed.setIfInBounds k true) := by
          obtain ⟨c1, c2, c3, c4⟩ := mem_ready.1 hr0
          refine mem_ready.2 ⟨?_, c2, c3, fun e he hb => ?_⟩
          · rw [getD_set_ne true (by omega : k ≠ i0)]; exact c1
          · rw [getD_set (by omega)]
            split
            · rfl
            · exact c4 e he hb
        rw [hnil] at this; cases this
      · have hik : i ≠ k := fun e => by
          subst e
          have := (ready_lt hi).2
          have h2 : i < listed.size := by omega
          simp [h2] at this
        obtain ⟨o, ho, hw⟩ := ready_waits hi
        -- it does not wait for the store
        have hil : i < k := by
          rcases Nat.lt_or_ge i k with h1 | h1
          · exact h1
          · exfalso
            have := L.closed_lt hc' ho hw j (L.rest i o (by omega) ho j (by omega))
            rw [getD_set (by omega), if_neg (by omega)] at this
            rw [this] at hj2; cases hj2
        have hi' : i ∈ Region.ready .any ops listed := by
          obtain ⟨c1, c2, c3, c4⟩ := mem_ready.1 hi
          refine mem_ready.2 ⟨?_, c2, c3, fun e he hb => ?_⟩
          · rw [getD_set_ne true (Ne.symm hik)] at c1; exact c1
          · have := c4 e he hb
            rw [ho] at c3; cases c3
            have hlt := L.lt i o ho e.on (waits_iff.2 ⟨e, he, rfl, hb⟩)
            rw [getD_set (by omega), if_neg (by omega)] at this
            exact this
        obtain ⟨m', r', w'', o', v, hn', hrun', hr', ho', hg, hall, hgo⟩ := round i hi' hik
        rw [hrun] at hrun'
        cases hrun'
        rw [ho] at ho'; cases ho'
        obtain rfl : m = m' := by omega
        unfold wpOp
        rw [ho]
        simp only
        rw [if_pos (by unfold Region.wanted; rw [hg])]
        left
        unfold Oper.wp
        rw [hall w', Oper.upon_value, set_set]
        exact hgo
/-- a store that waits for some moves of slots, too, waits for nothing that matters -/
theorem Late.any (L : Late k ops ok) (hQ : ∀ e a w, Q e a w → e = .normal) : ∀ (n : Nat) (listed : Array Bool) (a : Act) (w : World), listed.size = ops.size → Closed ops listed → listed.getD k false = false → wpAny P .any (late k ops) Q n listed a w → wpAny P .any ops Q n listed a w := by
  intro n
  induction n with
  | zero =>
    intro listed a w hs hc hk h
    refine ⟨?_, h.2⟩
    rw [List.eq_nil_iff_forall_not_mem]
    intro i hi
    by_cases e : i = k
    · subst e
      obtain ⟨m, _, _, hm, _⟩ := L.early hQ 0 listed a w hs hc hi h
      omega
    · have := (late_ready e).2 hi
      rw [h.1] at this; cases this
  | succ n ih =>
    intro listed a w hs hc hk h
    refine ⟨fun hnil => h.1 ?_, fun i hi => ?_⟩
    · rw [List.eq_nil_iff_forall_not_mem] at hnil ⊢
      intro i hi
      by_cases e : i = k
      · subst e; exact hnil i (late_ready_k hi).1
      · exact hnil i ((late_ready e).1 hi)
    · by_cases e : i = k
      · subst e
        obtain ⟨m, r, w', hm, hrun, hr, hgo⟩ := L.early hQ (n + 1) listed a w hs hc hi h
        obtain rfl : n = m := by omega
        unfold wpOp
        rw [L.at_]
        simp only
        rw [if_pos (by unfold Region.wanted; rw [L.guard])]
        left
        unfold Oper.wp
        rw [hrun]
        have hput : ∀ v, a.put ok.dst v = a := fun v => by rw [L.dst]; rfl
        rcases hr with rfl | ⟨v, rfl⟩
        · rw [Oper.upon_skip, hput]; exact hgo
        · rw [Oper.upon_value, hput]; exact hgo
      · have hw := h.2 i ((late_ready e).2 hi)
        rw [wpOp_late e] at hw
        refine wpOp_mono (fun a w hh => ih _ a w (by simp [hs]) (hc.set hs hi) ?_ hh) hw
        rw [getD_set (by have := (ready_lt hi).1; omega), if_neg (Ne.symm e)]
        exact hk
end
end
end Go.Proofs.Ytnbbaemijogeoaa.Ae
namespace Go.Proofs.Ytnbbaemijogeoaa.Ae
open Go

/-! ### addresses in values -/
mutual
def ren (r : Nat → Option Nat) : AVal → AVal
  | .sl b off len sz => match r b with
    | some k => .sl k off len sz
    | none => .undef
  | .ptr b off => match r b with
    | some k => .ptr k off
    | none => .undef
  | .agg cs => .agg (renL r cs)
  | .tup vs => .tup (renL r vs)
  | .fn f a b => .fn f (renL r a) (renL r b)
  | .undef => .undef
  | .bool b => .bool b
  | .int k n => .int k n
  | .byte x => .byte x
  | .str l => .str l
  | .nilS => .nilS
  | .roB l => .roB l
  | .ro n sz f => .ro n sz f
  | .nilP => .nilP
  | .rop cs => .rop cs
  | .nilF => .nilF
def renL (r : Nat → Option Nat) : List AVal → List AVal
  | [] => []
  | v :: vs => ren r v :: renL r vs
end
def renB (r : Nat → Option Nat) : ABlk → ABlk
  | .vals cs => .vals (renL r cs)
  | .dead => .dead
  | .bytes l => .bytes l
  | .flat cs => .flat cs
mutual
def refs : AVal → List Nat
  | .sl b _ _ _ => [b]
  | .ptr b _ => [b]
  | .agg cs => refsL cs
  | .tup vs => refsL vs
  | .fn _ a b => refsL a ++ refsL b
  | _ => []
def refsL : List AVal → List Nat
  | [] => []
  | v :: vs => refs v ++ refsL vs
end
-- of pointers alone
mutual
def pins : AVal → List Nat
  | .ptr b _ => [b]
  | .agg cs => pinsL cs
  | .tup vs => pinsL vs
  | .fn _ a b => refsL a ++ refsL b
  | _ => []
def pinsL : List AVal → List Nat
  | [] => []
  | v :: vs => pins v ++ pinsL vs
end
def refsB : ABlk → List Nat
  | .vals cs => refsL cs
  | _ => []
/-- all blocks that can be reached -/
def reach (H : Hp) : Nat → List Nat → List Nat → List Nat
  | 0, _, seen => seen
  | _ + 1, [], seen => seen
  | n + 1, k :: r, seen => cond (elemN k seen) (reach H n r seen) (reach H n (r ++ refsB (hget k H)) (seen ++ [k]))
mutual
def noRo : AVal → Bool
  | .roB _ => false
  | .ro _ _ _ => false
  | .rop _ => false
  | .agg cs => noRoL cs
  | .tup vs => noRoL vs
  | .fn _ a b => noRoL a && noRoL b
  | _ => true
def noRoL : List AVal → Bool
  | [] => true
  | v :: vs => noRo v && noRoL vs
end
def noRoB : ABlk → Bool
  | .vals cs => noRoL cs
  | .flat _ => false
  | _ => true
def noRoH : Hp → Bool
  | [] => true
  | b :: r => noRoB b && noRoH r

/-! ### calls -/
def rowsOf (sz : Nat) (cs : List AVal) (i : Nat) : List AVal := (cs.drop (i * sz)).take sz
mutual
def snapC (imps : List Nat) (H : Hp) : AVal → Option AVal
  | .sl b off len sz => cond (elemN b imps) (some (.sl b off len sz)) (match hget b H with
    | .bytes l => cond (Nat.beq sz 1) (some (.roB ((l.drop off).take len))) none
    | .vals cs => match partN off (len * sz) cs with
      | some r => match toBytes r with
        | some l => cond (Nat.beq sz 1) (some (.roB l)) none
        | none => cond (closedL r && Nat.ble 1 sz) (some (.ro len sz (rowsOf sz r))) none
      | none => none
    | .flat cs => cond (Nat.ble 1 sz) (some (.ro len sz (rowsOf sz ((cs.drop off).take (len * sz))))) none
    | .dead => none)
  | .agg cs => match snapCL imps H cs with
    | some l => some (.agg l)
    | none => none
  | .tup _ => none
  | .fn f a b => some (.fn f a b)
  | .ptr b o => some (.ptr b o)
  | .undef => some .undef
  | .bool b => some (.bool b)
  | .int k n => some (.int k n)
  | .byte x => some (.byte x)
  | .str l => some (.str l)
  | .nilS => some .nilS
  | .roB l => some (.roB l)
  | .ro n sz f => some (.ro n sz f)
  | .nilP => some .nilP
  | .rop cs => some (.rop cs)
  | .nilF => some .nilF
def snapCL (imps : List Nat) (H : Hp) : List AVal → Option (List AVal)
  | [] => some []
  | v :: vs => match snapC imps H v, snapCL imps H vs with
    | some a, some l => some (a :: l)
    | _, _ => none
end
mutual
def snapsC (imps : List Nat) : AVal → List Nat
  | .sl b _ _ _ => cond (elemN b imps) [] [b]
  | .agg cs => snapsCL imps cs
  | _ => []
def snapsCL (imps : List Nat) : List AVal → List Nat
  | [] => []
  | v :: vs => snapsC imps v ++ snapsCL imps vs
end
/-- a slice of slices -/
def snapN (imps : List Nat) (H : Hp) (b off len sz : Nat) : Option AVal := match hget b H with
  | .vals cs => match partN off (len * sz) cs with
    | some r => match snapCL imps H r with
      | some r' => cond (closedL r' && Nat.ble 1 sz) (some (.ro len sz (rowsOf sz r'))) none
      | none => none
    | none => none
  | _ => none
def innerN (imps : List Nat) (H : Hp) (b off len sz : Nat) : List Nat := match hget b H with
  | .vals cs => match partN off (len * sz) cs with
    | some r => snapsCL imps r
    | none => []
  | _ => []
mutual
def snap (imps : List Nat) (H : Hp) : AVal → Option AVal
  | .sl b off len sz => match snapC imps H (.sl b off len sz) with
    | some v => some v
    | none => cond (elemN b imps) none (snapN imps H b off len sz)
  | .agg cs => match snapL imps H cs with
    | some l => some (.agg l)
    | none => none
  | .tup _ => none
  | .fn f a b => some (.fn f a b)
  | .ptr b o => some (.ptr b o)
  | .undef => some .undef
  | .bool b => some (.bool b)
  | .int k n => some (.int k n)
  | .byte x => some (.byte x)
  | .str l => some (.str l)
  | .nilS => some .nilS
  | .roB l => some (.roB l)
  | .ro n sz f => some (.ro n sz f)
  | .nilP => some .nilP
  | .rop cs => some (.rop cs)
  | .nilF => some .nilF
def snapL (imps : List Nat) (H : Hp) : List AVal → Option (List AVal)
  | [] => some []
  | v :: vs => match snap imps H v, snapL imps H vs with
    | some a, some l => some (a :: l)
    | _, _ => none
end
mutual
def snaps (imps : List Nat) (H : Hp) : AVal → List Nat
  | .sl b off len sz => cond (elemN b imps) [] (b :: innerN imps H b off len sz)
  | .agg cs => snapsL imps H cs
  | _ => []
def snapsL (imps : List Nat) (H : Hp) : List AVal → List Nat
  | [] => []
  | v :: vs => snaps imps H v ++ snapsL imps H vs
end
def backN (base : Nat) : List Nat → Nat → Option Nat
  | [], j => some (base + j)
  | k :: _, 0 => some k
  | _ :: r, j + 1 => backN base r j
/-- where it stands in a list -/
def idxO (k : Nat) : List Nat → Option Nat
  | [] => none
  | j :: r => cond (Nat.beq k j) (some 0) (match idxO k r with
    | some i => some (i + 1)
    | none => none)
def subHeap (r : Nat → Option Nat) (H : Hp) : List Nat → Hp
  | [] => []
  | k :: ks => renB r (hget k H) :: subHeap r H ks
def renH (r : Nat → Option Nat) : Hp → Hp
  | [] => []
  | b :: bs => renB r b :: renH r bs
/-- the first blocks of a heap, under the caller's numbers -/
def zipSets (r : Nat → Option Nat) : List Nat → Hp → List (Nat × ABlk)
  | k :: ks, b :: bs => (k, renB r b) :: zipSets r ks bs
  | _, _ => []
def dropH : List Nat → Hp → Hp
  | _ :: ks, _ :: bs => dropH ks bs
  | _, bs => bs
def deads : List Nat → List (Nat × ABlk)
  | [] => []
  | k :: ks => (k, .dead) :: deads ks

/-- what follows sees the constructor -/
def forceV (v : AVal) (k : AVal → Prop) : Prop := match v with
  | .undef => k .undef
  | .bool b => k (.bool b)
  | .int q n => k (.int q n)
  | .byte x => k (.byte x)
  | .str l => k (.str l)
  | .nilS => k .nilS
  | .sl b off len sz => k (.sl b off len sz)
  | .roB l => k (.roB l)
  | .ro n sz f => k (.ro n sz f)
  | .nilP => k .nilP
  | .ptr b off => k (.ptr b off)
  | .rop cs => k (.rop cs)
  | .agg cs => k (.agg cs)
  | .tup vs => k (.tup vs)
  | .fn f a b => k (.fn f a b)
  | .nilF => k .nilF
/-- .. the list -/
def forceL {α : Type} : List α → (List α → Prop) → Prop
  | [], k => k []
  | x :: r, k => forceL r fun l => k (x :: l)
def allLt : List Nat → Nat → Bool
  | [], _ => true
  | k :: r, n => Nat.blt k n && allLt r n
abbrev Specs := Nat → List AVal → Hp → (AVal → Hp → Prop) → Prop

def backE (imps ks : List Nat) (H : Hp) (v : AVal) (Hc : Hp) : Eff :=
  ⟨zipSets (backN H.length imps) imps Hc ++ deads (cond (noRo v && noRoH Hc) [] ks), renH (backN H.length imps) (dropH imps Hc)⟩
def backK (imps ks : List Nat) (H : Hp) (K : AVal → Eff → Prop) (v : AVal) (Hc : Hp) : Prop :=
  K (ren (backN H.length imps) v) (backE imps ks H v Hc)
def callP (T : Specs) (f : Nat) (args : List AVal) (H : Hp) (K : AVal → Eff → Prop) : Prop :=
  forceL (reach H 60 (pinsL args) []) fun imps => cond (allLt imps H.length) (match snapL imps H args with
    | some as1 => T f (renL (fun k => idxO k imps) as1) (subHeap (fun k => idxO k imps) H imps) (backK imps (snapsL imps H args) H K)
    | none => False) False

/-! ### regions -/
structure Cx where
  P : Program
  T : Specs
  nt : Nat
  n0 : Nat
  ann : Nat → List Nat × Nat × List (List Nat)

def joinK {α : Type} : List α → List α → (List α → Prop) → Prop
  | [], b, k => k b
  | x :: r, b, k => joinK r b fun l => k (x :: l)
def hsetsK : List (Nat × ABlk) → Hp → (Hp → Prop) → Prop
  | [], H, k => k H
  | (j, b) :: r, H, k => forceL (hset j b H) fun H' => hsetsK r H' k
def effK (e : Eff) (H : Hp) (k : Hp → Prop) : Prop := match e.sets, e.news with
  | [], [] => k H
  | [], n :: ns => joinK H (n :: ns) k
  | s :: ss, ns => hsetsK (s :: ss) H fun H' => joinK H' ns k
def andP : Option Prop → Prop → Prop
  | none, q => q
  | some p, q => p ∧ q
def opK (r : Option Res) (K : AVal → Eff → Prop) : Prop := match r with
  | some ⟨p, v, e⟩ => andP p (forceV v fun v => K v e)
  | none => False
/-- a branch -/
def brP (b : Bool) (x y : Prop) : Prop := cond b x y
/-- a check of the text alone -/
def chkP (b : Bool) (x : Prop) : Prop := cond b x False
def opP (X : Cx) (o : Op) (env : Env) (H : Hp) (K : AVal → Eff → Prop) : Prop := match o with
  | .call ⟨.value f, args, _⟩ => match oper env f, opers env args.toList with
    | some (.fn g first cap), some l => callP X.T g (first ++ (l ++ cap)) H fun v e => forceV v fun v => K v e
    | _, _ => False
  | o => opK (opF X.P o env H) K
def putEnv (dst : Option Nat) (v : AVal) (env : Env) : Env := match dst with
  | some t => (t, v) :: env
  | none => env
def putK (dst : Option Nat) (v : AVal) (env : Env) (k : Env → Prop) : Prop := match dst with
  | some t => k ((t, v) :: env)
  | none => k env
def dstOk (nt : Nat) : Option Nat → Bool
  | some t => Nat.blt t nt
  | none => true
def gslot : List Oper → Nat → Option Nat
  | [], _ => none
  | o :: _, 0 => o.dst
  | _ :: r, j + 1 => gslot r j
def doP (X : Cx) (o : Oper) (env : Env) (H : Hp) (K : St → Prop) : Prop :=
  opP X o.op env H fun v e => effK e H fun H' => putK o.dst v env fun env' => K ⟨env', H'⟩
def skipP (o : Oper) (env : Env) (H : Hp) (K : St → Prop) : Prop := putK o.dst (.tup []) env fun env' => K ⟨env', H⟩
def operP (X : Cx) (ops : List Oper) (o : Oper) (s : St) (K : St → Prop) : Prop :=
  cond (dstOk X.nt o.dst) (match o.guard with
    | none => doP X o s.env s.heap K
    | some (j, want) => match gslot ops j with
      | some t => match eget t s.env with
        | .bool b => brP b
          (cond want (doP X o ((t, .bool true) :: s.env) s.heap K) (skipP o ((t, .bool true) :: s.env) s.heap K))
          (cond want (skipP o ((t, .bool false) :: s.env) s.heap K) (doP X o ((t, .bool false) :: s.env) s.heap K))
        | .tup [] => skipP o s.env s.heap K
        | _ => False
      | none => False) False
def opsP (X : Cx) (ops : List Oper) : List Oper → St → (St → Prop) → Prop
  | [], s, K => K s
  | o :: r, s, K => operP X ops o s fun s' => opsP X ops r s' K

/-- what an operation of a drawn region came to -/
structure Done where
  i : Nat
  dst : Option Nat
  v : AVal
  news : List ABlk
def deadL : List ABlk → List ABlk
  | [] => []
  | _ :: r => .dead :: deadL r
def maskEnv (ps : List Nat) (env : Env) : List Done → Env
  | [] => env
  | d :: r => cond (elemN d.i ps) (putEnv d.dst d.v (maskEnv ps env r)) (maskEnv ps env r)
def maskEnvK (ps : List Nat) (env : Env) : List Done → (Env → Prop) → Prop
  | [], k => k env
  | d :: r, k => maskEnvK ps env r fun e => cond (elemN d.i ps) (putK d.dst d.v e k) (k e)
def maskHeap (ps : List Nat) (H : Hp) : List Done → Hp
  | [] => H
  | d :: r => maskHeap ps H r ++ cond (elemN d.i ps) d.news (deadL d.news)
def maskHeapK (ps : List Nat) (H : Hp) : List Done → (Hp → Prop) → Prop
  | [], k => k H
  | d :: r, k => maskHeapK ps H r fun H' => match d.news with
    | [] => k H'
    | n :: ns => joinK H' (cond (elemN d.i ps) (n :: ns) (deadL (n :: ns))) k
def doneV (j : Nat) : List Done → AVal
  | [] => .undef
  | d :: r => cond (Nat.beq j d.i) d.v (doneV j r)
def doneSet (j : Nat) (v : AVal) : List Done → List Done
  | [] => []
  | d :: r => cond (Nat.beq j d.i) (⟨d.i, d.dst, v, d.news⟩ :: r) (d :: doneSet j v r)
def undefs : List Oper → Env → Env
  | [], env => env
  | o :: r, env => putEnv o.dst .undef (undefs r env)
def newsK (K : AVal → List ABlk → Prop) (v : AVal) (e : Eff) : Prop := match e.sets with
  | [] => K v e.news
  | _ :: _ => False
def aliveB : ABlk → Bool
  | .dead => false
  | _ => true
/-- all addresses lead to the first blocks, or to live ones -/
def refsIn (base : Nat) (G : Hp) : List Nat → Bool
  | [] => true
  | k :: r => (Nat.blt k base || aliveB (hget k G)) && refsIn base G r
def refsBs : List ABlk → List Nat
  | [] => []
  | b :: r => refsB b ++ refsBs r
def refsE : Env → List Nat
  | [] => []
  | (_, v) :: r => refs v ++ refsE r
def drawOne (X : Cx) (env : Env) (H : Hp) (o : Oper) (ps : List Nat) (i : Nat) (D : List Done) (K : List Done → Prop) : Prop :=
  maskEnvK ps env D fun env' => maskHeapK ps H D fun H' => opP X o.op env' H' (newsK fun v n => chkP (refsIn H.length (H' ++ n) (refs v ++ refsBs n)) (K (⟨i, o.dst, v, n⟩ :: D)))
def drawP (X : Cx) (env : Env) (H : Hp) : List Oper → List (List Nat) → Nat → List Done → (List Done → Prop) → Prop
  | [], _, _, D, K => K D
  | _ :: _, [], _, _, _ => False
  | o :: r, ps :: pss, i, D, K => match o.guard with
    | none => drawOne X env H o ps i D fun D => drawP X env H r pss (i + 1) D K
    | some (j, want) => cond (elemN j ps) (match doneV j D with
      | .bool b => brP b
        (forceL (doneSet j (.bool true) D) fun D => cond want (drawOne X env H o ps i D fun D => drawP X env H r pss (i + 1) D K) (drawP X env H r pss (i + 1) (⟨i, o.dst, .tup [], []⟩ :: D) K))
        (forceL (doneSet j (.bool false) D) fun D => cond want (drawP X env H r pss (i + 1) (⟨i, o.dst, .tup [], []⟩ :: D) K) (drawOne X env H o ps i D fun D => drawP X env H r pss (i + 1) D K))
      | .tup [] => drawP X env H r pss (i + 1) (⟨i, o.dst, .tup [], []⟩ :: D) K
      | _ => False) False
def predsOk (ops : Array Oper) : Nat → List (List Nat) → Bool
  | _, [] => true
  | i, ps :: r => (match ops[i]? with
    | some o => match clos ops i (onsOf o) with
      | S => ps.all fun j => elemN j S
    | none => false) && predsOk ops (i + 1) r
def nthL (j : Nat) : List (List Nat) → List Nat
  | [] => []
  | a :: r => match j with
    | 0 => a
    | j + 1 => nthL j r
def subL : List Nat → List Nat → Bool
  | [], _ => true
  | k :: r, l => elemN k l && subL r l
def predsTrans (pss : List (List Nat)) : Nat → List (List Nat) → Bool
  | _, [] => true
  | i, ps :: r => allLt ps i && (ps.all fun j => subL (nthL j pss) ps) && predsTrans pss (i + 1) r
def regOk (ops : Array Oper) (nt nb : Nat) (pss : List (List Nat)) : Bool := predsTrans pss 0 pss && factsOk ops nb nt && seqTail ops nb && Nat.beq pss.length nb && predsOk ops 0 pss
/-! a drawn region in which what changes memory comes up one behind the other -/
def refs1 : AVal → List Nat
  | .sl b _ _ _ => [b]
  | .ptr b _ => [b]
  | _ => []
def refP : AVal → List Nat
  | .ptr b _ => [b]
  | _ => []
def operRefs (f : AVal → List Nat) (env : Env) (x : Operand) : List Nat := match oper env x with
  | some v => f v
  | none => []
/-- the blocks that an operation looks at which changes none; none: it may change some -/
def readRefs (env : Env) : Op → Option (List Nat)
  | .move _ => some []
  | .assign _ => some []
  | .pick _ _ _ => some []
  | .build _ _ => some []
  | .nilCheck _ => some []
  | .binOp _ _ _ _ _ => some []
  | .unOp _ _ _ => some []
  | .makeFunc _ _ _ => some []
  | .fieldAddr _ _ _ => some []
  | .field _ _ _ => some []
  | .indexAddr _ _ _ => some []
  | .index _ _ _ => some []
  | .extract _ _ => some []
  | .load _ a => some (operRefs refs1 env a)
  | .convert _ _ x => some (operRefs refs1 env x)
  | .slice _ x _ _ _ => some (operRefs refP env x)
  | .call c => match c.callee with
    | .builtin .len => some []
    | .builtin .min => some []
    | .builtin .max => some []
    | _ => none
  | _ => none
def keysOf : List (Nat × ABlk) → List Nat
  | [] => []
  | (k, _) :: r => k :: keysOf r
def pureK (e : Eff) (p : Prop) : Prop := match e.sets, e.news with
  | [], [] => p
  | _, _ => False
/-- does it stand on one side of each of these, in any order? -/
def settled (hards : List Nat) (pr : List (List Nat)) (i : Nat) : Bool := hards.all fun j => cond (Nat.blt j i) (elemN j (nthL i pr)) (cond (Nat.blt i j) (elemN i (nthL j pr)) true)
def chainOne (X : Cx) (env : Env) (o : Oper) (ps : List Nat) (i : Nat) (hard st : Bool) (D : List Done) (H : Hp) (S Rd : List Nat) (K : List Done → Hp → List Nat → List Nat → Prop) : Prop :=
  maskEnvK ps env D fun env' => cond hard
    (opP X o.op env' H fun v e => effK e H fun H' => K (⟨i, o.dst, v, []⟩ :: D) H' (keysOf e.sets ++ S) Rd)
    (match readRefs env' o.op with
      | some l => chkP (allLt l H.length) (opK (opF X.P o.op env' H) fun v e => pureK e (K (⟨i, o.dst, v, []⟩ :: D) H S (cond st Rd (l ++ Rd))))
      | none => False)
/-- what the slots hold as operation i is run: those of operations that wait for it are as they were -/
def undefsX (i : Nat) : List Oper → List (List Nat) → Env → Env
  | [], _, env => env
  | o :: r, [], env => putEnv o.dst .undef (undefsX i r [] env)
  | o :: r, ps :: pss, env => cond (elemN i ps) (undefsX i r pss env) (putEnv o.dst .undef (undefsX i r pss env))
def chainP (X : Cx) (base : Nat → Env) (hards : List Nat) (pr : List (List Nat)) : List Oper → List (List Nat) → Nat → List Done → Hp → List Nat → List Nat → (List Done → Hp → List Nat → List Nat → Prop) → Prop
  | [], _, _, D, H, S, Rd, K => K D H S Rd
  | _ :: _, [], _, _, _, _, _, _ => False
  | o :: r, ps :: pss, i, D, H, S, Rd, K => match o.guard with
    | none => forceL (base i) fun env => chainOne X env o ps i (elemN i hards) (settled hards pr i) D H S Rd fun D H S Rd => chainP X base hards pr r pss (i + 1) D H S Rd K
    | some (j, want) => cond (elemN j ps) (match doneV j D with
      | .bool b => brP b
        (forceL (doneSet j (.bool true) D) fun D => cond want (forceL (base i) fun env => chainOne X env o ps i (elemN i hards) (settled hards pr i) D H S Rd fun D H S Rd => chainP X base hards pr r pss (i + 1) D H S Rd K) (chainP X base hards pr r pss (i + 1) (⟨i, o.dst, .tup [], []⟩ :: D) H S Rd K))
        (forceL (doneSet j (.bool false) D) fun D => cond want (chainP X base hards pr r pss (i + 1) (⟨i, o.dst, .tup [], []⟩ :: D) H S Rd K) (forceL (base i) fun env => chainOne X env o ps i (elemN i hards) (settled hards pr i) D H S Rd fun D H S Rd => chainP X base hards pr r pss (i + 1) D H S Rd K))
      | .tup [] => chainP X base hards pr r pss (i + 1) (⟨i, o.dst, .tup [], []⟩ :: D) H S Rd K
      | _ => False) False
def disjL : List Nat → List Nat → Bool
  | [], _ => true
  | k :: r, l => !elemN k l && disjL r l
/-- the first operations write slots of their own, if any, and wait for earlier ones alone; the others wait for all of them -/
def factsOkC (ops : Array Oper) (nb n : Nat) : Bool :=
  decide (nb ≤ ops.size) &&
  ((List.range nb).all fun i => match ops[i]? with
    | none => false
    | some o => (match o.dst with | some d => decide (d < n) && ((List.range i).all fun j => dstOf ops j != some d) | none => true) &&
      (match o.guard with | some (j, _) => (dstOf ops j).isSome | none => true) &&
      (o.after.all fun e => !Region.binds .any e || decide (e.on < i))) &&
  ((List.range (ops.size - nb)).all fun k => match ops[nb + k]? with
    | none => false
    | some o => let S := clos ops nb (onsOf o); (List.range nb).all fun j => S.contains j)
/-- each of these is run after all of them that stand ahead of it -/
def hardsOk (hards : List Nat) (pss : List (List Nat)) : Bool := hards.all fun i => hards.all fun j => !Nat.blt j i || elemN j (nthL i pss)
def chainOk (ops : Array Oper) (nt nb : Nat) (hards : List Nat) (pss : List (List Nat)) : Bool := predsTrans pss 0 pss && factsOkC ops nb nt && seqTail ops nb && Nat.beq pss.length nb && predsOk ops 0 pss && hardsOk hards pss
def chainR (X : Cx) (ops : Array Oper) (nb : Nat) (hards : List Nat) (pss : List (List Nat)) (s : St) (K : St → Prop) : Prop :=
  chkP (chainOk ops X.nt nb hards pss) (chainP X (fun i => undefsX i (ops.toList.take nb) pss s.env) hards pss (ops.toList.take nb) pss 0 [] s.heap [] [] fun D H' S Rd =>
    chkP (disjL Rd S) (maskEnvK (D.map (·.i)) s.env D fun env' => opsP X ops.toList (ops.toList.drop nb) ⟨env', H'⟩ K))
def drawR (X : Cx) (ops : Array Oper) (nb : Nat) (pss : List (List Nat)) (s : St) (K : St → Prop) : Prop :=
  chkP (regOk ops X.nt nb pss)
      (chkP (allLt (refsE s.env) s.heap.length && allLt (refsBs s.heap) s.heap.length) (forceL (undefs (ops.toList.take nb) s.env) fun env0 => drawP X env0 s.heap (ops.toList.take nb) pss 0 [] fun D =>
        maskEnvK (D.map (·.i)) s.env D fun env' => maskHeapK (D.map (·.i)) s.heap D fun H' => opsP X ops.toList (ops.toList.drop nb) ⟨env', H'⟩ K))
/-! a region of operations that change no memory: values, each under a condition -/
structure PD where
  i : Nat
  dst : Option Nat
  v : AVal
  g : Bool
  ch : List (Nat × Bool)
def pairIn (j : Nat) (b : Bool) : List (Nat × Bool) → Bool
  | [] => false
  | (k, c) :: r => cond (Nat.beq j k && cond c b (!b)) true (pairIn j b r)
def subCh : List (Nat × Bool) → List (Nat × Bool) → Bool
  | [], _ => true
  | (j, b) :: r, l => pairIn j b l && subCh r l
def pMask (ps : List Nat) (ch : List (Nat × Bool)) (env0 : Env) : List PD → Env
  | [] => env0
  | d :: r => cond (elemN d.i ps && subCh d.ch ch) (putEnv d.dst d.v (pMask ps ch env0 r)) (pMask ps ch env0 r)
def pMaskK (ps : List Nat) (ch : List (Nat × Bool)) (env0 : Env) : List PD → (Env → Prop) → Prop
  | [], k => k env0
  | d :: r, k => pMaskK ps ch env0 r fun e => cond (elemN d.i ps && subCh d.ch ch) (putK d.dst d.v e k) (k e)
def pFind (j : Nat) : List PD → Option PD
  | [] => none
  | d :: r => cond (Nat.beq j d.i) (some d) (pFind j r)
def pDst (t : Nat) : List PD → Option PD
  | [] => none
  | d :: r => match d.dst with
    | some u => cond (Nat.beq t u) (some d) (pDst t r)
    | none => pDst t r
def pickV (t : Bool) (x y : AVal) : Option AVal := match x, y with
  | .bool u, .bool v => some (.bool (cond t u v))
  | .int k a, .int k' b => match kindEq k k' with
    | true => some (.int k (cond t a b))
    | false => none
  | .byte a, .byte b => some (.byte (cond t a b))
  | .str a, .str b => some (.str (cond t a b))
  | _, _ => none
def pGuard (ps : List Nat) (D : List PD) (o : Oper) : Option (Bool × List (Nat × Bool)) := match o.guard with
  | none => some (true, [])
  | some (j, want) => cond (elemN j ps) (match pFind j D with
    | some d => match d.v with
      | .bool b => some (cond d.g (cond want b (!b)) false, (j, want) :: d.ch)
      | _ => none
    | none => none) none
def impP (g : Bool) (p : Prop) : Prop := g = true → p
def impK (g : Bool) (p : Option Prop) (q : Prop) : Prop := match p with
  | none => q
  | some p => impP g p ∧ q
def pEvalK (P : Program) (op : Op) (env0 : Env) (H : Hp) (ps : List Nat) (ch : List (Nat × Bool)) (D : List PD) (k : Option Prop → AVal → Prop) : Prop := match op with
  | .pick (.tmp c) a b => match pDst c D with
    | some e => cond (elemN e.i ps && subCh e.ch ch) (match e.v with
      | .bool t => pMaskK ps ((e.i, true) :: ch) env0 D fun e1 => pMaskK ps ((e.i, false) :: ch) env0 D fun e2 => match oper e1 a, oper e2 b with
        | some x, some y => match pickV t x y with
          | some v => k none v
          | none => False
        | _, _ => False
      | _ => False) False
    | none => False
  | op => pMaskK ps ch env0 D fun e => match readRefs e op with
    | some _ => match opF P op e H with
      | some ⟨p, v, ⟨[], []⟩⟩ => k p v
      | _ => False
    | none => False
def pureP (P : Program) (env0 : Env) (H : Hp) : List Oper → List (List Nat) → Nat → List PD → (List PD → Prop) → Prop
  | [], _, _, D, K => K D
  | _ :: _, [], _, _, _ => False
  | o :: r, ps :: pss, i, D, K => match pGuard ps D o with
    | some (g, ch) => pEvalK P o.op env0 H ps ch D fun p v => impK g p (forceV v fun v => pureP P env0 H r pss (i + 1) (⟨i, o.dst, v, g, ch⟩ :: D) K)
    | none => False
def pLast (d : PD) : AVal := match d.ch with
  | [] => d.v
  | _ :: _ => .undef
def pEnd (env : Env) : List PD → Env
  | [] => env
  | d :: r => putEnv d.dst (pLast d) (pEnd env r)
def pEndK (env : Env) : List PD → (Env → Prop) → Prop
  | [], k => k env
  | d :: r, k => pEndK env r fun e => forceV (pLast d) fun v => putK d.dst v e k
def pureOk (draw : Bool) (ops : Array Oper) (nt nb : Nat) (pss : List (List Nat)) : Bool :=
  predsTrans pss 0 pss && factsOkC ops nb nt && Nat.beq pss.length nb && cond draw (seqTail ops nb && predsOk ops 0 pss) true
def pureR (X : Cx) (ops : Array Oper) (draw : Bool) (nb : Nat) (pss : List (List Nat)) (s : St) (K : St → Prop) : Prop :=
  chkP (pureOk draw ops X.nt nb pss) (forceL (undefs (ops.toList.take nb) s.env) fun env0 => pureP X.P env0 s.heap (ops.toList.take nb) pss 0 [] fun D =>
    pEndK s.env D fun env' => opsP X ops.toList (ops.toList.drop nb) ⟨env', s.heap⟩ K)
def oldR (X : Cx) (id : Nat) (ops : Array Oper) (draw : Bool) (s : St) (K : St → Prop) : Prop := match draw with
  | false => opsP X ops.toList ops.toList s K
  | true => match X.ann id with
    | (_, nb, pss) => match pss with
      | [] => drawR X ops nb [] s K
      | ps :: r => cond (Nat.beq r.length nb) (chainR X ops nb ps r s K) (drawR X ops nb (ps :: r) s K)
/-- stores that wait for some moves of slots, too -/
def lateP : List Nat → Array Oper → (Array Oper → Prop) → Prop
  | [], ops, K => K ops
  | k :: r, ops, K => chkP (lateOk k ops) (lateP r (late k ops) K)
def region1 (X : Cx) (id : Nat) (ops : Array Oper) (draw : Bool) (s : St) (K : St → Prop) : Prop := match (X.ann (id + 2000000)).2.1 with
  | 0 => oldR X id ops draw s K
  | nb + 1 => pureR X ops draw nb (X.ann (id + 2000000)).2.2 s K

def region0 (X : Cx) (id : Nat) (ops : Array Oper) (draw : Bool) (s : St) (K : St → Prop) : Prop := match (X.ann (id + 3000000)).1 with
  | [] => region1 X id ops draw s K
  | k :: r => cond draw (lateP (k :: r) ops fun ops' => oldR X id ops' true s K) False
/-- ahead of a region: a cell of a block that a slot points to. 0: a slice of nothing is a row of its own from now on; 1: the row that the cell leads to is only read from now on; 2: a block of values without addresses may be written to -/
def hook1 (kd t j sz : Nat) (s : St) (K : St → Prop) : Prop := match eget t s.env with
  | .ptr b _ => match hget b s.heap with
    | .vals cs => match takeN j cs, dropN j cs with
      | some l, some (v :: r) => match v with
        | .nilS => match kd with
          | 0 => forceL (hset b (.vals (l ++ .sl s.heap.length 0 0 sz :: r)) (s.heap ++ [.flat []])) fun H => K ⟨s.env, H⟩
          | _ + 1 => forceL (hset b (.vals (l ++ .ro 0 sz (fun _ => []) :: r)) s.heap) fun H => K ⟨s.env, H⟩
        | .sl k off len sz' => cond (Nat.beq k b) False (match snapC [] s.heap (.sl k off len sz') with
          | some v' => forceL (hset b (.vals (l ++ v' :: r)) (hset k .dead s.heap)) fun H => K ⟨s.env, H⟩
          | none => False)
        | _ => False
      | _, _ => False
    | .flat cs => match kd with
      | 2 => forceL (hset b (.vals cs) s.heap) fun H => K ⟨s.env, H⟩
      | _ => False
    | _ => False
  | _ => False
def hookP : List Nat → St → (St → Prop) → Prop
  | kd :: t :: j :: sz :: r, s, K => hook1 kd t j sz s fun s' => hookP r s' K
  | _, s, K => K s
/-- an operation; a sum of numbers may be too large -/
def operW (X : Cx) (ops : List Oper) (o : Oper) (s : St) (K : St → Prop) : Prop := match o.op with
  | .binOp .add _ x y _ => match oper s.env x, oper s.env y with
    | some (.int .i64 a), some (.int .i64 b) => cond (dstOk X.nt o.dst && o.guard.isNone) (putK o.dst (.int .i64 (IntKind.i64.wrap (a + b))) s.env fun env' => K ⟨env', s.heap⟩) False
    | _, _ => False
  | _ => operP X ops o s K
def opsW (X : Cx) (ops : List Oper) : List Oper → St → (St → Prop) → Prop
  | [], s, K => K s
  | o :: r, s, K => operW X ops o s fun s' => opsW X ops r s' K
def regionP (X : Cx) (id : Nat) (ops : Array Oper) (draw : Bool) (s : St) (K : St → Prop) : Prop := match (X.ann (id + 4000000)).2.1 with
  | 0 => match (X.ann (id + 4000000)).1 with
    | [] => region0 X id ops draw s K
    | k :: r => hookP (k :: r) s fun s' => region0 X id ops draw s' K
  | _ + 1 => cond draw False (opsW X ops.toList ops.toList s K)

/-! ### code -/
def refsLow : Nat → Hp → List Nat
  | 0, _ => []
  | _, [] => []
  | n + 1, b :: r => refsB b ++ refsLow n r
def seek (H : Hp) (n0 : Nat) (vs : List AVal) : List Nat := reach H 200 (refsLow n0 H ++ refsL vs) (List.range n0)
def egets (env : Env) : List Nat → List AVal
  | [] => []
  | t :: r => eget t env :: egets env r
def zipEnv : List Nat → List AVal → Env
  | t :: ts, v :: vs => (t, v) :: zipEnv ts vs
  | _, _ => []
def normEnv (S live : List Nat) (s : St) : Env := zipEnv live (renL (fun k => idxO k S) (egets s.env live))
/-- cells without addresses -/
def flatB (b : ABlk) : ABlk := match b with
  | .vals cs => cond (closedL cs) (.flat cs) (.vals cs)
  | b => b
/-- .. from a block on -/
def flatN : Nat → Hp → Hp
  | _, [] => []
  | 0, b :: r => flatB b :: flatN 0 r
  | n + 1, b :: r => b :: flatN n r
/-- the state with what is needed alone; 999999 among the slots: rows without addresses are taken as such -/
def normK (n0 : Nat) (live : List Nat) (s : St) (k : St → Prop) : Prop :=
  forceL (seek s.heap n0 (egets s.env live)) fun S => forceL (normEnv S live s) fun env => forceL (subHeap (fun k => idxO k S) s.heap S) fun H => cond (elemN 999999 live) (forceL (flatN n0 H) fun H => k ⟨env, H⟩) (k ⟨env, H⟩)
def flatC (n0 : Nat) (live : List Nat) (H : Hp) : Hp := cond (elemN 999999 live) (flatN n0 H) H
def firstReg : Code → Nat
  | .region id _ _ => id
  | .seq a _ => firstReg a
  | .block _ b => firstReg b
  | .loop b => firstReg b
  | .scope b => firstReg b
  | .cond _ a _ => firstReg a
  | _ => 0
abbrev Post := AExit → St → Prop
def seqK (k : St → Prop) (K : Post) : Post
  | .normal, s => k s
  | e, s => K e s
def blockK (id : Nat) (K : Post) : Post
  | .exit j, s => cond (Nat.beq j id) (K .normal s) (K (.exit j) s)
  | e, s => K e s
def loopP (step : St → Post → Prop) (n0 : Nat) (live : List Nat) : Nat → St → Post → Prop
  | 0, _, _ => False
  | n + 1, s, K => step s (seqK (fun s' => normK n0 live s' fun s' => loopP step n0 live n s' K) K)
/-- some number of rounds, or a given one -/
def fuelP : Nat → (Nat → Prop) → Prop
  | 0, f => ∃ n, f n
  | k + 1, f => f (k + 1)
theorem fuelP_ex {k : Nat} {f : Nat → Prop} (h : fuelP k f) : ∃ n, f n := by
  cases k with
  | zero => exact h
  | succ k => exact ⟨k + 1, h⟩
def setTmp (c : Operand) (b : Bool) (s : St) : St := match c with
  | .tmp t => ⟨(t, .bool b) :: s.env, s.heap⟩
  | _ => s
def awp (X : Cx) : Code → St → Post → Prop
  | .skip, s, K => K .normal s
  | .label _, s, K => K .normal s
  | .region id ops draw, s, K => regionP X id ops draw s (K .normal)
  | .seq a b, s, K => awp X a s (seqK (fun s' => awp X b s' K) K)
  | .cond c a b, s, K => match oper s.env c with
    | some (.bool t) => brP t (awp X a (setTmp c true s) K) (awp X b (setTmp c false s) K)
    | _ => False
  | .block id b, s, K => awp X b s (blockK id K)
  | .loop b, s, K => normK X.n0 (X.ann (firstReg b)).1 s fun s' => fuelP (X.ann (firstReg b + 1000000)).2.1 fun n => loopP (awp X b) X.n0 (X.ann (firstReg b)).1 n s' K
  | .scope b, s, K => awp X b s K
  | .exit id, s, K => K (.exit id) s
  | .ret, s, K => K .ret s
  | _, _, _ => False

/-! ### functions -/
def andO : Option Prop → Option Prop → Option Prop
  | none, q => q
  | some p, none => some p
  | some p, some q => some (p ∧ q)
def resF (P : Program) (s : St) : List ResultVar → Option (Option Prop × List AVal)
  | [] => some (none, [])
  | .tmp t :: r => match resF P s r with
    | some (p, l) => some (p, eget t s.env :: l)
    | none => none
  | .cell a t :: r => match loadF P s.heap t (eget a s.env), resF P s r with
    | some (q, v), some (p, l) => some (andO q p, v :: l)
    | _, _ => none
def retV : List AVal → AVal
  | [v] => v
  | vs => .tup vs
/-- the result, and of the heap what is reached -/
def retK (n0 : Nat) (H : Hp) (K : AVal → Hp → Prop) (v : AVal) : Prop := forceL (seek H n0 [v]) fun S => K (ren (fun k => idxO k S) v) (subHeap (fun k => idxO k S) H S)
def endK (P : Program) (n0 : Nat) (rs : List ResultVar) (K : AVal → Hp → Prop) (s : St) : Prop := match resF P s rs with
  | some (p, vs) => andP p (retK n0 s.heap K (retV vs))
  | none => False
def fnK (P : Program) (n0 : Nat) (rs : List ResultVar) (K : AVal → Hp → Prop) : Post
  | .normal, s => endK P n0 rs K s
  | .ret, s => endK P n0 rs K s
  | _, _ => False
def argEnv : Nat → List AVal → Env
  | _, [] => []
  | i, v :: r => (i, v) :: argEnv (i + 1) r
def fnP (P : Program) (T : Specs) (ann : Nat → List Nat × Nat × List (List Nat)) (fn : Func) (args : List AVal) (H : Hp) (K : AVal → Hp → Prop) : Prop := match fn.body with
  | some c => cond (Nat.ble args.length fn.ntmps) (awp ⟨P, T, fn.ntmps, H.length, ann⟩ c ⟨argEnv 0 args, H⟩ (fnK P H.length fn.results.toList K)) False
  | none => False

end Go.Proofs.Ytnbbaemijogeoaa.Ae
namespace Go.Proofs.Ytnbbaemijogeoaa.Ae
open Go

def maxI : Nat := 9223372036854775807
/-- no cell is frozen -/
def Soft (n : Nat) (fr : Nat × Nat) : Prop := ∀ i, i < n → ¬ (fr.1 ≤ i ∧ i < fr.2)
def rowSize (w : World) (g : Nat) : Option Nat := (w.shape? g).map (·.2)
abbrev Mp := Nat → Option Nat
def Mp.nil : Mp := fun _ => none

inductive VR (R : Nat → Prop) (w : World) : Mp → Hp → AVal → Value → Prop
  | undef {m : Mp} {H : Hp} (x : Value) : VR R w m H .undef x
  | bool {m : Mp} {H : Hp} (b : Bool) : VR R w m H (.bool b) (.bool b)
  | int {m : Mp} {H : Hp} (k : IntKind) (n : Int) : VR R w m H (.int k n) (.int k n)
  | byte {m : Mp} {H : Hp} (x : UInt8) : VR R w m H (.byte x) (.int .u8 (x.toNat : Int))
  | str {m : Mp} {H : Hp} (l : List UInt8) (h : l.length ≤ big) : VR R w m H (.str l) (.string ⟨l.toArray⟩)
  | nilS {m : Mp} {H : Hp} : VR R w m H .nilS (.slice none 0 0)
  | sl {m : Mp} {H : Hp} (b off len sz : Nat) (a : Option Addr) (c : Nat) (h1 : len ≤ c) (h2 : c ≤ maxI) (h3 : len ≤ room) (h4 : b < H.length)
      (h5 : 0 < c → ∃ g n, m b = some g ∧ a = some ⟨g, off, none⟩ ∧ rowSize w g = some n ∧ off + c * sz ≤ n)
      (h6 : hget b H = .dead ∨ off + len * sz ≤ (hget b H).len) : VR R w m H (.sl b off len sz) (.slice a len c)
  | roB {m : Mp} {H : Hp} (l : List UInt8) (a : Option Addr) (c g off : Nat) (h1 : l.length ≤ c) (h2 : c ≤ maxI) (h3 : l.length ≤ room)
      (h4 : 0 < l.length → a = some ⟨g, off, none⟩ ∧ R g) (h5 : ∀ i x, l[i]? = some x → w.cell? ⟨g, off + i, none⟩ = some (.int .u8 (x.toNat : Int))) : VR R w m H (.roB l) (.slice a l.length c)
  | ro {m : Mp} {H : Hp} (n sz : Nat) (f : Nat → List AVal) (a : Option Addr) (c g off : Nat) (X : Nat → Nat → Value) (h1 : n ≤ c) (h2 : c ≤ maxI) (h3 : n ≤ room)
      (h4 : 0 < n → a = some ⟨g, off, none⟩ ∧ R g) (h5 : ∀ i j v, i < n → (f i)[j]? = some v → w.cell? ⟨g, off + i * sz + j, none⟩ = some (X i j) ∧ (X i j).oneCell' = true)
      (h6 : ∀ i j v, i < n → (f i)[j]? = some v → VR R w Mp.nil [] v (X i j)) (h7 : ∀ i, i < n → (f i).length = sz) : VR R w m H (.ro n sz f) (.slice a n c)
  | nilP {m : Mp} {H : Hp} : VR R w m H .nilP (.pointer none)
  | ptr {m : Mp} {H : Hp} (b off g : Nat) (h : m b = some g) : VR R w m H (.ptr b off) (.pointer (some ⟨g, off, none⟩))
  | rop {m : Mp} {H : Hp} (cs : List AVal) (g off : Nat) (X : Nat → Value) (h4 : R g) (h5 : ∀ j v, cs[j]? = some v → w.cell? ⟨g, off + j, none⟩ = some (X j) ∧ (X j).oneCell' = true)
      (h6 : ∀ j v, cs[j]? = some v → VR R w Mp.nil [] v (X j)) : VR R w m H (.rop cs) (.pointer (some ⟨g, off, none⟩))
  | agg {m : Mp} {H : Hp} (cs : List AVal) (xs : List Value) (h1 : cs.length = xs.length) (h2 : ∀ (i : Nat) v x, cs[i]? = some v → xs[i]? = some x → VR R w m H v x) (h3 : ∀ x ∈ xs, x.oneCell' = true) :
      VR R w m H (.agg cs) (.agg xs.toArray)
  | tup {m : Mp} {H : Hp} (cs : List AVal) (xs : List Value) (h1 : cs.length = xs.length) (h2 : ∀ (i : Nat) v x, cs[i]? = some v → xs[i]? = some x → VR R w m H v x) :
      VR R w m H (.tup cs) (.tuple xs.toArray)
  | fn {m : Mp} {H : Hp} (f : Nat) (a b : List AVal) (xs ys : List Value) (h1 : a.length = xs.length) (h2 : ∀ (i : Nat) v x, a[i]? = some v → xs[i]? = some x → VR R w m H v x)
      (h3 : b.length = ys.length) (h4 : ∀ (i : Nat) v x, b[i]? = some v → ys[i]? = some x → VR R w m H v x) : VR R w m H (.fn f a b) (.func (.func f) xs.toArray ys.toArray)
  | nilF {m : Mp} {H : Hp} : VR R w m H .nilF .nilFunc

/-- lists of values -/
def VL (R : Nat → Prop) (w : World) (m : Mp) (H : Hp) (vs : List AVal) (xs : List Value) : Prop :=
  vs.length = xs.length ∧ ∀ (i : Nat) v x, vs[i]? = some v → xs[i]? = some x → VR R w m H v x

/-- what a block holds -/
def BR (R : Nat → Prop) (w : World) (m : Mp) (H : Hp) (B : ABlk) (xs : List Value) : Prop := match B with
  | .dead => True
  | .bytes l => ∃ r, xs = l.map (fun x => Value.int .u8 (x.toNat : Int)) ++ r
  | .vals cs => ∃ ys r, xs = ys ++ r ∧ VL R w m H cs ys
  | .flat cs => ∃ ys r, xs = ys ++ r ∧ VL R w Mp.nil [] cs ys

structure Sim (R : Nat → Prop) (w : World) (m : Mp) (H : Hp) : Prop where
  rlt : ∀ g, R g → g < w.heap.size
  out : ∀ k, H.length ≤ k → m k = none
  own : ∀ k g, hget k H ≠ .dead → m k = some g → ¬ R g ∧ ∃ (xs : List Value) (e : TypeId) (fr : Nat × Nat), w.heap[g]? = some (.cells xs.toArray e fr) ∧ Soft xs.length fr ∧ (∀ x ∈ xs, x.oneCell' = true) ∧ BR R w m H (hget k H) xs
  ph : ∀ k, hget k H ≠ .dead → m k = none → (hget k H).len = 0
  inj : ∀ k k' g, hget k H ≠ .dead → hget k' H ≠ .dead → m k = some g → m k' = some g → k = k'

structure Stp (R : Nat → Prop) (w : World) (m : Mp) (H : Hp) (w' : World) (m' : Mp) (H' : Hp) : Prop where
  sim : Sim R w' m' H'
  os : w'.os = w.os
  tape : w'.tape = w.tape
  output : w'.output = w.output
  size : w.heap.size ≤ w'.heap.size
  shape : ∀ g, g < w.heap.size → rowSize w' g = rowSize w g
  frame : ∀ g, g < w.heap.size → (∀ k, hget k H ≠ .dead → m k ≠ some g) → w'.heap[g]? = w.heap[g]?
  agree : ∀ k g, m k = some g → m' k = some g
  hlen : H.length ≤ H'.length
  hext : ∀ k, k < H.length → hget k H' = .dead ∨ (hget k H ≠ .dead ∧ (hget k H').len = (hget k H).len)
  news : ∀ k g, hget k H' ≠ .dead → m' k = some g → w.heap.size ≤ g ∨ ∃ k0, hget k0 H ≠ .dead ∧ m k0 = some g
  same : ∀ k, k < H.length → m' k = m k

theorem hget_out : ∀ {k : Nat} {H : Hp}, H.length ≤ k → hget k H = .dead
  | _, [], _ => by simp [hget]
  | 0, _ :: _, h => by simp at h
  | k + 1, _ :: r, h => by simpa [hget] using hget_out (k := k) (H := r) (by simpa using h)
theorem hget_lt {k : Nat} {H : Hp} (h : hget k H ≠ .dead) : k < H.length := by
  rcases Nat.lt_or_ge k H.length with h' | h'
  · exact h'
  · exact absurd (hget_out h') h
theorem hget_append_lt : ∀ {k : Nat} {H G : Hp}, k < H.length → hget k (H ++ G) = hget k H
  | _, [], _, h => by simp at h
  | 0, _ :: _, _, _ => rfl
  | k + 1, _ :: r, G, h => by simpa [hget] using hget_append_lt (k := k) (H := r) (G := G) (by simpa using h)
theorem hget_append_ge : ∀ {k : Nat} {H G : Hp}, hget (H.length + k) (H ++ G) = hget k G
  | _, [], _ => by simp
  | k, _ :: r, G => by
    rw [List.length_cons, show r.length + 1 + k = (r.length + k) + 1 by omega, List.cons_append]
    exact hget_append_ge (k := k) (H := r) (G := G)
theorem hset_length : ∀ (k : Nat) (B : ABlk) (H : Hp), (hset k B H).length = H.length
  | _, _, [] => by simp [hset]
  | 0, _, _ :: _ => by simp [hset]
  | k + 1, B, _ :: r => by simp [hset, hset_length k B r]
theorem hget_hset_same : ∀ {k : Nat} {B : ABlk} {H : Hp}, k < H.length → hget k (hset k B H) = B
  | _, _, [], h => by simp at h
  | 0, _, _ :: _, _ => rfl
  | k + 1, B, _ :: r, h => by simpa [hget, hset] using hget_hset_same (k := k) (B := B) (H := r) (by simpa using h)
theorem hget_hset_ne : ∀ {k j : Nat} {B : ABlk} {H : Hp}, j ≠ k → hget j (hset k B H) = hget j H
  | _, _, _, [], _ => by simp [hset]
  | 0, 0, _, _ :: _, h => absurd rfl h
  | 0, j + 1, _, _ :: _, _ => by simp [hset, hget]
  | k + 1, 0, _, _ :: _, _ => by simp [hset, hget]
  | k + 1, j + 1, B, _ :: r, h => by simpa [hget, hset] using hget_hset_ne (k := k) (j := j) (B := B) (H := r) (by simpa using h)

theorem VR.mono {R R' : Nat → Prop} {w w' : World} (hR : ∀ g, R g → R' g) (hw : ∀ g, R g → w'.heap[g]? = w.heap[g]?) (hs : ∀ g n, rowSize w g = some n → rowSize w' g = some n)
    {m : Mp} {H : Hp} {v : AVal} {x : Value} (h : VR R w m H v x) :
    ∀ {m' : Mp} {H' : Hp}, (∀ k g, m k = some g → m' k = some g) → H.length ≤ H'.length → (∀ k, k < H.length → hget k H' = .dead ∨ (hget k H ≠ .dead ∧ (hget k H').len = (hget k H).len)) → VR R' w' m' H' v x := by
  have hcell : ∀ g off, R g → w'.cell? ⟨g, off, none⟩ = w.cell? ⟨g, off, none⟩ := fun g off hg => by
    unfold World.cell?; simp only [hw g hg]
  have nilc : ∀ k : Nat, k < ([] : Hp).length → hget k [] = .dead ∨ (hget k [] ≠ .dead ∧ (hget k []).len = (hget k []).len) := fun k hk => by simp at hk
  induction h with
  | undef x => intros; exact .undef x
  | bool b => intros; exact .bool b
  | int k n => intros; exact .int k n
  | byte x => intros; exact .byte x
  | str l h => intros; exact .str l h
  | nilS => intros; exact .nilS
  | @sl m H b off len sz a c h1 h2 h3 h4 h5 h6 =>
    intro m' H' hm hl hH
    refine .sl b off len sz a c h1 h2 h3 (by omega) (fun hc => ?_) ?_
    · obtain ⟨g, n, e1, e2, e3, e4⟩ := h5 hc
      exact ⟨g, n, hm _ _ e1, e2, hs _ _ e3, e4⟩
    · rcases hH b h4 with hd | ⟨hd, he⟩
      · exact .inl hd
      · rcases h6 with h6 | h6
        · exact absurd h6 hd
        · exact .inr (by rw [he]; exact h6)
  | roB l a c g off h1 h2 h3 h4 h5 =>
    intros
    refine .roB l a c g off h1 h2 h3 (fun hp => ⟨(h4 hp).1, hR _ (h4 hp).2⟩) fun i x hx => ?_
    rw [hcell g _ (h4 (by have := (List.getElem?_eq_some_iff.1 hx).1; omega)).2]; exact h5 i x hx
  | ro n sz f a c g off X h1 h2 h3 h4 h5 h6 h7 ih =>
    intros
    refine .ro n sz f a c g off X h1 h2 h3 (fun hp => ⟨(h4 hp).1, hR _ (h4 hp).2⟩) (fun i j v hi hv => ?_) (fun i j v hi hv => ?_) h7
    · rw [hcell g _ (h4 (by omega)).2]; exact h5 i j v hi hv
    · exact ih i j v hi hv (fun _ _ h => h) (Nat.le_refl _) nilc
  | nilP => intros; exact .nilP
  | ptr b off g h => intro m' H' hm _ _; exact .ptr b off g (hm _ _ h)
  | rop cs g off X h4 h5 h6 ih =>
    intros
    refine .rop cs g off X (hR _ h4) (fun j v hv => ?_) fun j v hv => ?_
    · rw [hcell g _ h4]; exact h5 j v hv
    · exact ih j v hv (fun _ _ h => h) (Nat.le_refl _) nilc
  | agg cs xs h1 h2 h3 ih => intro m' H' hm hl hH; exact .agg cs xs h1 (fun i v x hv hx => ih i v x hv hx hm hl hH) h3
  | tup cs xs h1 h2 ih => intro m' H' hm hl hH; exact .tup cs xs h1 (fun i v x hv hx => ih i v x hv hx hm hl hH)
  | fn f a b xs ys h1 h2 h3 h4 ih1 ih2 =>
    intro m' H' hm hl hH
    exact .fn f a b xs ys h1 (fun i v x hv hx => ih1 i v x hv hx hm hl hH) h3 (fun i v x hv hx => ih2 i v x hv hx hm hl hH)
  | nilF => intros; exact .nilF

theorem VL.mono {R R' : Nat → Prop} {w w' : World} (hR : ∀ g, R g → R' g) (hw : ∀ g, R g → w'.heap[g]? = w.heap[g]?) (hs : ∀ g n, rowSize w g = some n → rowSize w' g = some n)
    {m m' : Mp} {H H' : Hp} {vs : List AVal} {xs : List Value} (h : VL R w m H vs xs)
    (hm : ∀ k g, m k = some g → m' k = some g) (hl : H.length ≤ H'.length) (hH : ∀ k, k < H.length → hget k H' = .dead ∨ (hget k H ≠ .dead ∧ (hget k H').len = (hget k H).len)) : VL R' w' m' H' vs xs :=
  ⟨h.1, fun i v x hv hx => (h.2 i v x hv hx).mono hR hw hs hm hl hH⟩
theorem BR.mono {R R' : Nat → Prop} {w w' : World} (hR : ∀ g, R g → R' g) (hw : ∀ g, R g → w'.heap[g]? = w.heap[g]?) (hs : ∀ g n, rowSize w g = some n → rowSize w' g = some n)
    {m m' : Mp} {H H' : Hp} {B : ABlk} {xs : List Value} (h : BR R w m H B xs)
    (hm : ∀ k g, m k = some g → m' k = some g) (hl : H.length ≤ H'.length) (hH : ∀ k, k < H.length → hget k H' = .dead ∨ (hget k H ≠ .dead ∧ (hget k H').len = (hget k H).len)) : BR R' w' m' H' B xs := by
  cases B with
  | dead => trivial
  | bytes l => exact h
  | vals cs => obtain ⟨ys, r, e, h⟩ := h; exact ⟨ys, r, e, h.mono hR hw hs hm hl hH⟩
  | flat cs => obtain ⟨ys, r, e, h⟩ := h; exact ⟨ys, r, e, h.mono hR hw hs (fun _ _ h => h) (Nat.le_refl _) (fun k hk => by simp at hk)⟩

theorem rowSize_lt {w : World} {g n : Nat} (h : rowSize w g = some n) : g < w.heap.size := by
  unfold rowSize World.shape? at h
  rcases Nat.lt_or_ge g w.heap.size with h' | h'
  · exact h'
  · simp [Array.getElem?_eq_none h'] at h
theorem rowSize_of {w : World} {g : Nat} {xs : List Value} {e : TypeId} {fr : Nat × Nat} (h : w.heap[g]? = some (.cells xs.toArray e fr)) : rowSize w g = some xs.length := by
  simp [rowSize, World.shape?, h]

section
variable {R : Nat → Prop} {w w' w'' : World} {m m' m'' : Mp} {H H' H'' : Hp}

theorem Stp.rsame (s : Stp R w m H w' m' H') (hS : Sim R w m H) (g : Nat) (hg : R g) : w'.heap[g]? = w.heap[g]? :=
  s.frame g (hS.rlt g hg) fun k hk e => (hS.own k g hk e).1 hg
theorem Stp.rows (s : Stp R w m H w' m' H') (g n : Nat) (h : rowSize w g = some n) : rowSize w' g = some n := by
  rw [s.shape g (rowSize_lt h)]; exact h
theorem VR.step (s : Stp R w m H w' m' H') (hS : Sim R w m H) {v : AVal} {x : Value} (h : VR R w m H v x) : VR R w' m' H' v x :=
  h.mono (fun _ h => h) (s.rsame hS) s.rows s.agree s.hlen s.hext
theorem VL.step (s : Stp R w m H w' m' H') (hS : Sim R w m H) {vs : List AVal} {xs : List Value} (h : VL R w m H vs xs) : VL R w' m' H' vs xs :=
  h.mono (fun _ h => h) (s.rsame hS) s.rows s.agree s.hlen s.hext
theorem Stp.refl (hS : Sim R w m H) : Stp R w m H w m H :=
  ⟨hS, rfl, rfl, rfl, Nat.le_refl _, fun _ _ => rfl, fun _ _ _ => rfl, fun _ _ h => h, Nat.le_refl _, fun k hk => by
    by_cases h : hget k H = .dead
    · exact .inl h
    · exact .inr ⟨h, rfl⟩, fun k g hk hg => .inr ⟨k, hk, hg⟩, fun _ _ => rfl⟩
theorem Stp.trans (s : Stp R w m H w' m' H') (t : Stp R w' m' H' w'' m'' H'') : Stp R w m H w'' m'' H'' := by
  refine ⟨t.sim, t.os.trans s.os, t.tape.trans s.tape, t.output.trans s.output, Nat.le_trans s.size t.size, fun g hg => ?_, fun g hg hn => ?_, fun k g h => t.agree _ _ (s.agree _ _ h), Nat.le_trans s.hlen t.hlen, fun k hk => ?_, fun k g hk hg => ?_, fun k hk => (t.same k (Nat.lt_of_lt_of_le hk s.hlen)).trans (s.same k hk)⟩
  · rw [t.shape g (Nat.lt_of_lt_of_le hg s.size), s.shape g hg]
  · rw [t.frame g (Nat.lt_of_lt_of_le hg s.size) fun k hk e => ?_, s.frame g hg hn]
    rcases s.news k g hk e with h | ⟨k0, h1, h2⟩
    · omega
    · exact hn k0 h1 h2
  · rcases t.hext k (Nat.lt_of_lt_of_le hk s.hlen) with h | ⟨h1, h2⟩
    · exact .inl h
    · rcases s.hext k hk with h | ⟨h3, h4⟩
      · exact absurd h h1
      · exact .inr ⟨h3, h2.trans h4⟩
  · rcases t.news k g hk hg with h | ⟨k0, h1, h2⟩
    · exact .inl (Nat.le_trans s.size h)
    · exact s.news k0 g h1 h2

/-- a draw alone -/
theorem Sim.drew (hS : Sim R w m H) : Stp R w m H w.drew m H := by
  have hv : ∀ (v : AVal) (x : Value) (m : Mp) (H : Hp), VR R w m H v x → VR R w.drew m H v x := fun v x m H h =>
    VR.mono (w := w) (w' := w.drew) (fun _ h => h) (fun _ _ => rfl) (fun _ _ h => h) h (fun _ _ h => h) (Nat.le_refl _) fun k _ => by
      by_cases h : hget k H = .dead
      · exact .inl h
      · exact .inr ⟨h, rfl⟩
  have hS' : Sim R w.drew m H := by
    refine ⟨hS.rlt, hS.out, fun k g hk hg => ?_, hS.ph, hS.inj⟩
    obtain ⟨h1, xs, e, fr, h2, h3, h4, h5⟩ := hS.own k g hk hg
    refine ⟨h1, xs, e, fr, h2, h3, h4, ?_⟩
    cases hb : hget k H with
    | dead => trivial
    | bytes l => rw [hb] at h5; exact h5
    | vals cs => rw [hb] at h5; obtain ⟨ys, r, e, h5⟩ := h5; exact ⟨ys, r, e, h5.1, fun i v x a b => hv _ _ _ _ (h5.2 i v x a b)⟩
    | flat cs => rw [hb] at h5; obtain ⟨ys, r, e, h5⟩ := h5; exact ⟨ys, r, e, h5.1, fun i v x a b => hv _ _ _ _ (h5.2 i v x a b)⟩
  exact ⟨hS', rfl, rfl, rfl, Nat.le_refl _, fun _ _ => rfl, fun _ _ _ => rfl, fun _ _ h => h, Nat.le_refl _, fun k _ => by
    by_cases h : hget k H = .dead
    · exact .inl h
    · exact .inr ⟨h, rfl⟩, fun k g hk hg => .inr ⟨k, hk, hg⟩, fun _ _ => rfl⟩

def upd (m : Mp) (k g : Nat) : Mp := fun j => if j = k then some g else m j

theorem BR.len {B : ABlk} {xs : List Value} (h : BR R w m H B xs) : B.len ≤ xs.length := by
  cases B with
  | dead => exact Nat.zero_le _
  | bytes l => obtain ⟨r, rfl⟩ := h; simp [ABlk.len]
  | vals cs => obtain ⟨ys, r, rfl, h⟩ := h; simp [ABlk.len, h.1]
  | flat cs => obtain ⟨ys, r, rfl, h⟩ := h; simp [ABlk.len, h.1]

/-- a new block -/
theorem Sim.alloc (hS : Sim R w m H) (B : ABlk) (xs : List Value) (e : TypeId) (fr : Nat × Nat) (hfr : Soft xs.length fr) (h1 : ∀ x ∈ xs, x.oneCell' = true) (hB : BR R w m H B xs) :
    Stp R w m H (w.alloc (.cells xs.toArray e fr)) (upd m H.length w.heap.size) (H ++ [B]) := by
  have hheap : ∀ g, g < w.heap.size → (w.alloc (.cells xs.toArray e fr)).heap[g]? = w.heap[g]? := fun g hg => by
    show (w.heap.push _)[g]? = _
    rw [Array.getElem?_push, if_neg (by omega)]
  have hrow : ∀ g n, rowSize w g = some n → rowSize (w.alloc (.cells xs.toArray e fr)) g = some n := fun g n h => by
    have := rowSize_lt h
    unfold rowSize World.shape? at *
    rw [hheap g this]; exact h
  have hm : ∀ k g, m k = some g → upd m H.length w.heap.size k = some g := fun k g h => by
    unfold upd
    split
    · rename_i hk; subst hk; rw [hS.out _ (Nat.le_refl _)] at h; cases h
    · exact h
  have hH : ∀ k, k < H.length → hget k (H ++ [B]) = .dead ∨ (hget k H ≠ .dead ∧ (hget k (H ++ [B])).len = (hget k H).len) := fun k hk => by
    rw [hget_append_lt hk]
    by_cases h : hget k H = .dead
    · exact .inl h
    · exact .inr ⟨h, rfl⟩
  have hw : ∀ g, R g → (w.alloc (.cells xs.toArray e fr)).heap[g]? = w.heap[g]? := fun g hg => hheap g (hS.rlt g hg)
  have hlast : hget H.length (H ++ [B]) = B := by have := hget_append_ge (k := 0) (H := H) (G := [B]); simpa [hget] using this
  have hk : ∀ k, hget k (H ++ [B]) ≠ .dead → k < H.length ∨ k = H.length := fun k h => by have := hget_lt h; simp at this; omega
  refine ⟨⟨fun g hg => ?_, fun k hk' => ?_, fun k g h hg => ?_, fun k h hn => ?_, fun k k' g h h' hg hg' => ?_⟩, rfl, rfl, rfl, by simp, fun g hg => ?_, fun g hg _ => hheap g hg, hm, by simp, hH, fun k g h hg => ?_, fun k hk => if_neg (by omega)⟩
  · have := hS.rlt g hg; simp; omega
  · simp at hk'
    unfold upd; rw [if_neg (by omega)]; exact hS.out k (by omega)
  · rcases hk k h with hlt | rfl
    · rw [hget_append_lt hlt] at h ⊢
      unfold upd at hg; rw [if_neg (by omega)] at hg
      obtain ⟨a1, ys, e', fr', a2, a3, a4, a5⟩ := hS.own k g h hg
      exact ⟨a1, ys, e', fr', by rw [hheap g (Array.getElem?_eq_some_iff.1 a2).1]; exact a2, a3, a4, a5.mono (fun _ h => h) hw hrow hm (by simp) hH⟩
    · unfold upd at hg; rw [if_pos rfl] at hg
      obtain rfl := Option.some.inj hg
      refine ⟨fun hr => by have := hS.rlt _ hr; omega, xs, e, fr, Array.getElem?_push_size, hfr, h1, ?_⟩
      rw [hlast]; exact hB.mono (fun _ h => h) hw hrow hm (by simp) hH
  · rcases hk k h with hlt | rfl
    · rw [hget_append_lt hlt] at h ⊢
      unfold upd at hn; rw [if_neg (by omega)] at hn
      exact hS.ph k h hn
    · unfold upd at hn; rw [if_pos rfl] at hn; cases hn
  · have aux : ∀ k, hget k (H ++ [B]) ≠ .dead → ∀ g, upd m H.length w.heap.size k = some g → (k < H.length ∧ hget k H ≠ .dead ∧ m k = some g ∧ g < w.heap.size) ∨ (k = H.length ∧ g = w.heap.size) := fun k h g hg => by
      rcases hk k h with hlt | rfl
      · rw [hget_append_lt hlt] at h
        unfold upd at hg; rw [if_neg (by omega)] at hg
        obtain ⟨_, ys, e', fr', a2, _⟩ := hS.own k g h hg
        exact .inl ⟨hlt, h, hg, (Array.getElem?_eq_some_iff.1 a2).1⟩
      · unfold upd at hg; rw [if_pos rfl] at hg
        exact .inr ⟨rfl, (Option.some.inj hg).symm⟩
    rcases aux k h g hg with ⟨_, a1, a2, a3⟩ | ⟨a1, a2⟩ <;> rcases aux k' h' g hg' with ⟨_, b1, b2, b3⟩ | ⟨b1, b2⟩
    · exact hS.inj k k' g a1 b1 a2 b2
    · omega
    · omega
    · omega
  · unfold rowSize World.shape?; rw [hheap g hg]
  · rcases hk k h with hlt | rfl
    · rw [hget_append_lt hlt] at h
      unfold upd at hg; rw [if_neg (by omega)] at hg
      exact .inr ⟨k, h, hg⟩
    · unfold upd at hg; rw [if_pos rfl] at hg
      exact .inl (by rw [← Option.some.inj hg]; exact Nat.le_refl _)
end

end Go.Proofs.Ytnbbaemijogeoaa.Ae
namespace Go.Proofs.Ytnbbaemijogeoaa.Ae
open Go
section
variable {R : Nat → Prop} {w w' : World} {m m' : Mp} {H H' : Hp}

theorem hext_self (H : Hp) : ∀ k, k < H.length → hget k H = .dead ∨ (hget k H ≠ .dead ∧ (hget k H).len = (hget k H).len) := fun k _ => by
  by_cases h : hget k H = .dead
  · exact .inl h
  · exact .inr ⟨h, rfl⟩

theorem heap_setRow_ne (w : World) (g j : Nat) (cs : Array Value) (h : j ≠ g) : (w.setRow g cs).heap[j]? = w.heap[j]? := setRow_other w g j cs h
theorem rowSize_setRow (w : World) (g : Nat) (xs xs' : List Value) (e : TypeId) (fr : Nat × Nat) (hg : w.heap[g]? = some (.cells xs.toArray e fr)) (hl : xs'.length = xs.length) (j : Nat) :
    rowSize (w.setRow g xs'.toArray) j = rowSize w j := by
  by_cases h : j = g
  · subst h
    rw [rowSize_of hg, rowSize_of (setRow_heap w j _ _ e fr hg), hl]
  · unfold rowSize World.shape?; rw [heap_setRow_ne w g j _ h]

/-- a block is written -/
theorem Sim.put (hS : Sim R w m H) {k g : Nat} (hk : hget k H ≠ .dead) (hg : m k = some g) {xs xs' : List Value} {e : TypeId} {fr : Nat × Nat} (hh : w.heap[g]? = some (.cells xs.toArray e fr))
    (B : ABlk) (hlen : B.len = (hget k H).len) (hl : xs'.length = xs.length) (h1 : ∀ x ∈ xs', x.oneCell' = true) (hB : BR R w m H B xs') :
    Stp R w m H (w.setRow g xs'.toArray) m (hset k B H) := by
  obtain ⟨hR, xs0, e0, fr0, hh0, hsoft, _, _⟩ := hS.own k g hk hg
  rw [hh] at hh0
  obtain ⟨rfl, rfl, rfl⟩ : xs = xs0 ∧ e = e0 ∧ fr = fr0 := by simpa using hh0
  have hklt := hget_lt hk
  have hw : ∀ j, R j → (w.setRow g xs'.toArray).heap[j]? = w.heap[j]? := fun j hj => heap_setRow_ne w g j _ (fun e => hR (e ▸ hj))
  have hrow : ∀ j n, rowSize w j = some n → rowSize (w.setRow g xs'.toArray) j = some n := fun j n h => by rw [rowSize_setRow w g xs xs' e fr hh hl]; exact h
  have hH : ∀ j, j < H.length → hget j (hset k B H) = .dead ∨ (hget j H ≠ .dead ∧ (hget j (hset k B H)).len = (hget j H).len) := fun j hj => by
    by_cases h : j = k
    · subst h; rw [hget_hset_same hj]; exact .inr ⟨hk, hlen⟩
    · rw [hget_hset_ne h]; exact hext_self H j hj
  have live : ∀ j, hget j (hset k B H) ≠ .dead → hget j H ≠ .dead := fun j h => by
    by_cases e : j = k
    · subst e; exact hk
    · rwa [hget_hset_ne e] at h
  have hll : (hset k B H).length = H.length := hset_length ..
  refine ⟨⟨fun j hj => by have := hS.rlt j hj; simpa using this, fun j hj => hS.out j (by omega), fun j g' h hg' => ?_, fun j h hn => ?_, fun j j' g' h h' => hS.inj j j' g' (live j h) (live j' h')⟩, rfl, rfl, rfl, by simp,
    fun j _ => rowSize_setRow w g xs xs' e fr hh hl j, fun j _ hn => heap_setRow_ne w g j _ (fun e => hn k hk (e ▸ hg)), fun _ _ h => h, by omega, hH, fun j g' h hg' => .inr ⟨j, live j h, hg'⟩, fun _ _ => rfl⟩
  · by_cases hj : j = k
    · subst hj
      obtain rfl : g = g' := by rw [hg] at hg'; exact Option.some.inj hg'
      refine ⟨hR, xs', e, fr, setRow_heap w g _ _ e fr hh, by rw [hl]; exact hsoft, h1, ?_⟩
      rw [hget_hset_same hklt]
      exact hB.mono (fun _ h => h) hw hrow (fun _ _ h => h) (by omega) hH
    · have hl' := live j h
      obtain ⟨a1, ys, e', fr', a2, a3, a4, a5⟩ := hS.own j g' hl' hg'
      have hne : g' ≠ g := fun e => hj (hS.inj j k g' hl' hk hg' (e ▸ hg))
      rw [hget_hset_ne hj]
      exact ⟨a1, ys, e', fr', by rw [heap_setRow_ne w g g' _ hne]; exact a2, a3, a4, a5.mono (fun _ h => h) hw hrow (fun _ _ h => h) (by omega) hH⟩
  · by_cases hj : j = k
    · subst hj; rw [hg] at hn; cases hn
    · rw [hget_hset_ne hj] at h ⊢; exact hS.ph j h hn

/-- a block is given up -/
theorem Sim.kill (hS : Sim R w m H) (k : Nat) : Stp R w m H w m (hset k .dead H) := by
  have hH : ∀ j, j < H.length → hget j (hset k .dead H) = .dead ∨ (hget j H ≠ .dead ∧ (hget j (hset k .dead H)).len = (hget j H).len) := fun j hj => by
    by_cases h : j = k
    · subst h; rw [hget_hset_same hj]; exact .inl rfl
    · rw [hget_hset_ne h]; exact hext_self H j hj
  have live : ∀ j, hget j (hset k .dead H) ≠ .dead → hget j H ≠ .dead ∧ hget j (hset k .dead H) = hget j H := fun j h => by
    have hlt := hget_lt h
    rw [hset_length] at hlt
    by_cases e : j = k
    · subst e; rw [hget_hset_same hlt] at h; exact absurd rfl h
    · rw [hget_hset_ne e] at h ⊢; exact ⟨h, rfl⟩
  have hll : (hset k .dead H).length = H.length := hset_length ..
  refine ⟨⟨hS.rlt, fun j hj => hS.out j (by omega), fun j g' h hg' => ?_, fun j h hn => ?_, fun j j' g' h h' => hS.inj j j' g' (live j h).1 (live j' h').1⟩, rfl, rfl, rfl, Nat.le_refl _,
    fun j _ => rfl, fun j _ hn => rfl, fun _ _ h => h, by omega, hH, fun j g' h hg' => .inr ⟨j, (live j h).1, hg'⟩, fun _ _ => rfl⟩
  · obtain ⟨hl, he⟩ := live j h
    obtain ⟨a1, ys, e', fr', a2, a3, a4, a5⟩ := hS.own j g' hl hg'
    rw [he]
    exact ⟨a1, ys, e', fr', a2, a3, a4, a5.mono (fun _ h => h) (fun _ _ => rfl) (fun _ _ h => h) (fun _ _ h => h) (by omega) hH⟩
  · obtain ⟨hl, he⟩ := live j h
    rw [he]; exact hS.ph j hl hn

/-- a block that is no block: nothing is in it -/
theorem Sim.ghost (hS : Sim R w m H) (B : ABlk) (hB : B.len = 0) : Stp R w m H w m (H ++ [B]) := by
  have hH : ∀ k, k < H.length → hget k (H ++ [B]) = .dead ∨ (hget k H ≠ .dead ∧ (hget k (H ++ [B])).len = (hget k H).len) := fun k hk => by
    rw [hget_append_lt hk]; exact hext_self H k hk
  have hlast : hget H.length (H ++ [B]) = B := by have := hget_append_ge (k := 0) (H := H) (G := [B]); simpa [hget] using this
  have hm : m H.length = none := hS.out _ (Nat.le_refl _)
  have live : ∀ j, hget j (H ++ [B]) ≠ .dead → (j < H.length ∧ hget j H ≠ .dead ∧ hget j (H ++ [B]) = hget j H) ∨ j = H.length := fun j h => by
    have := hget_lt h
    simp at this
    rcases Nat.lt_or_ge j H.length with h' | h'
    · rw [hget_append_lt h'] at h ⊢; exact .inl ⟨h', h, rfl⟩
    · exact .inr (by omega)
  refine ⟨⟨hS.rlt, fun j hj => hS.out j (by simp at hj; omega), fun j g' h hg' => ?_, fun j h hn => ?_, fun j j' g' h h' hg hg' => ?_⟩, rfl, rfl, rfl, Nat.le_refl _,
    fun j _ => rfl, fun j _ hn => rfl, fun _ _ h => h, by simp, hH, fun j g' h hg' => ?_, fun _ _ => rfl⟩
  · rcases live j h with ⟨_, hl, he⟩ | rfl
    · obtain ⟨a1, ys, e', fr', a2, a3, a4, a5⟩ := hS.own j g' hl hg'
      rw [he]
      exact ⟨a1, ys, e', fr', a2, a3, a4, a5.mono (fun _ h => h) (fun _ _ => rfl) (fun _ _ h => h) (fun _ _ h => h) (by simp) hH⟩
    · rw [hm] at hg'; cases hg'
  · rcases live j h with ⟨_, hl, he⟩ | rfl
    · rw [he]; exact hS.ph j hl hn
    · rw [hlast]; exact hB
  · rcases live j h with ⟨_, hl, he⟩ | rfl
    · rcases live j' h' with ⟨_, hl', he'⟩ | rfl
      · exact hS.inj j j' g' hl hl' hg hg'
      · rw [hm] at hg'; cases hg'
    · rw [hm] at hg; cases hg
  · rcases live j h with ⟨_, hl, he⟩ | rfl
    · exact .inr ⟨j, hl, hg'⟩
    · rw [hm] at hg'; cases hg'

/-- a block is given up, and another one takes its place in memory -/
theorem Sim.move (hS : Sim R w m H) {k g : Nat} (hk : hget k H ≠ .dead) (hg : m k = some g) {xs xs' : List Value} {e : TypeId} {fr : Nat × Nat} (hh : w.heap[g]? = some (.cells xs.toArray e fr))
    (B : ABlk) (hl : xs'.length = xs.length) (h1 : ∀ x ∈ xs', x.oneCell' = true) (hB : BR R w m H B xs') :
    Stp R w m H (w.setRow g xs'.toArray) (upd m H.length g) (hset k .dead H ++ [B]) := by
  obtain ⟨hR, xs0, e0, fr0, hh0, hsoft, _, _⟩ := hS.own k g hk hg
  rw [hh] at hh0
  obtain ⟨rfl, rfl, rfl⟩ : xs = xs0 ∧ e = e0 ∧ fr = fr0 := by simpa using hh0
  have hklt := hget_lt hk
  have hw : ∀ j, R j → (w.setRow g xs'.toArray).heap[j]? = w.heap[j]? := fun j hj => heap_setRow_ne w g j _ (fun e => hR (e ▸ hj))
  have hrow : ∀ j n, rowSize w j = some n → rowSize (w.setRow g xs'.toArray) j = some n := fun j n h => by rw [rowSize_setRow w g xs xs' e fr hh hl]; exact h
  have hll : (hset k .dead H).length = H.length := hset_length ..
  have hm : ∀ j g', m j = some g' → upd m H.length g j = some g' := fun j g' h => by
    unfold upd
    split
    · rename_i hj; subst hj; rw [hS.out _ (Nat.le_refl _)] at h; cases h
    · exact h
  have hH : ∀ j, j < H.length → hget j (hset k .dead H ++ [B]) = .dead ∨ (hget j H ≠ .dead ∧ (hget j (hset k .dead H ++ [B])).len = (hget j H).len) := fun j hj => by
    rw [hget_append_lt (by omega)]
    by_cases h : j = k
    · subst h; rw [hget_hset_same hj]; exact .inl rfl
    · rw [hget_hset_ne h]; exact hext_self H j hj
  have hlast : hget H.length (hset k .dead H ++ [B]) = B := by
    have := hget_append_ge (k := 0) (H := hset k .dead H) (G := [B])
    rw [hll] at this
    simpa [hget] using this
  have live : ∀ j, hget j (hset k .dead H ++ [B]) ≠ .dead → (j < H.length ∧ j ≠ k ∧ hget j H ≠ .dead ∧ hget j (hset k .dead H ++ [B]) = hget j H) ∨ j = H.length := fun j h => by
    have := hget_lt h
    simp [hll] at this
    rcases Nat.lt_or_ge j H.length with h' | h'
    · rw [hget_append_lt (by omega)] at h ⊢
      by_cases e : j = k
      · subst e; rw [hget_hset_same h'] at h; exact absurd rfl h
      · rw [hget_hset_ne e] at h ⊢; exact .inl ⟨h', e, h, rfl⟩
    · exact .inr (by omega)
  have mold : ∀ j g', j < H.length → upd m H.length g j = some g' → m j = some g' := fun j g' hj h => by
    unfold upd at h; rwa [if_neg (by omega)] at h
  have mnew : ∀ g', upd m H.length g H.length = some g' → g = g' := fun g' h => by
    unfold upd at h; rw [if_pos rfl] at h; exact Option.some.inj h
  refine ⟨⟨fun j hj => by have := hS.rlt j hj; simpa using this, fun j hj => ?_, fun j g' h hg' => ?_, fun j h hn => ?_, fun j j' g' h h' hj hj' => ?_⟩, rfl, rfl, rfl, by simp,
    fun j _ => rowSize_setRow w g xs xs' e fr hh hl j, fun j _ hn => heap_setRow_ne w g j _ (fun e => hn k hk (e ▸ hg)), hm, by simp [hll], hH, fun j g' h hg' => ?_, fun j hj => if_neg (by omega)⟩
  · simp [hll] at hj
    unfold upd; rw [if_neg (by omega)]; exact hS.out j (by omega)
  · rcases live j h with ⟨h1', h2', hl', he⟩ | rfl
    · have hg0 := mold j g' h1' hg'
      obtain ⟨a1, ys, e', fr', a2, a3, a4, a5⟩ := hS.own j g' hl' hg0
      have hne : g' ≠ g := fun e => h2' (hS.inj j k g' hl' hk hg0 (e ▸ hg))
      rw [he]
      exact ⟨a1, ys, e', fr', by rw [heap_setRow_ne w g g' _ hne]; exact a2, a3, a4, a5.mono (fun _ h => h) hw hrow hm (by simp [hll]) hH⟩
    · obtain rfl := mnew g' hg'
      refine ⟨hR, xs', e, fr, setRow_heap w g _ _ e fr hh, by rw [hl]; exact hsoft, h1, ?_⟩
      rw [hlast]
      exact hB.mono (fun _ h => h) hw hrow hm (by simp [hll]) hH
  · rcases live j h with ⟨h1', h2', hl', he⟩ | rfl
    · rw [he]
      refine hS.ph j hl' ?_
      unfold upd at hn; rwa [if_neg (by omega)] at hn
    · unfold upd at hn; rw [if_pos rfl] at hn; cases hn
  · rcases live j h with ⟨h1', h2', hl', he⟩ | rfl <;> rcases live j' h' with ⟨h3', h4', hl'', he'⟩ | rfl
    · exact hS.inj j j' g' hl' hl'' (mold j g' h1' hj) (mold j' g' h3' hj')
    · have := mnew g' hj'; subst this
      exact absurd (hS.inj j k g hl' hk (mold j g h1' hj) hg) h2'
    · have := mnew g' hj; subst this
      exact absurd (hS.inj j' k g hl'' hk (mold j' g h3' hj') hg) h4'
    · rfl
  · rcases live j h with ⟨h1', h2', hl', he⟩ | rfl
    · exact .inr ⟨j, hl', mold j g' h1' hg'⟩
    · have := mnew g' hg'; subst this
      exact .inr ⟨k, hk, hg⟩

/-! ### lists -/
theorem VL.nil : VL R w m H [] [] := ⟨rfl, fun i v x h => by simp at h⟩
theorem VL.cons {v : AVal} {x : Value} {vs : List AVal} {xs : List Value} (h : VR R w m H v x) (hs : VL R w m H vs xs) : VL R w m H (v :: vs) (x :: xs) := by
  refine ⟨by simp [hs.1], fun i v' x' hv hx => ?_⟩
  cases i with
  | zero => simp at hv hx; subst hv; subst hx; exact h
  | succ i => exact hs.2 i v' x' (by simpa using hv) (by simpa using hx)
theorem VL.nil_inv {xs : List Value} (h : VL R w m H [] xs) : xs = [] := by
  have := h.1; simp at this; exact List.eq_nil_of_length_eq_zero this.symm
theorem VL.cons_inv {v : AVal} {vs : List AVal} {xs : List Value} (h : VL R w m H (v :: vs) xs) : ∃ x r, xs = x :: r ∧ VR R w m H v x ∧ VL R w m H vs r := by
  match xs, h with
  | [], h => have := h.1; simp at this
  | x :: r, h => exact ⟨x, r, rfl, h.2 0 v x rfl rfl, by have := h.1; simpa using this, fun i v' x' hv hx => h.2 (i + 1) v' x' (by simpa using hv) (by simpa using hx)⟩
theorem VL.append {vs us : List AVal} {xs ys : List Value} (h : VL R w m H vs xs) (h' : VL R w m H us ys) : VL R w m H (vs ++ us) (xs ++ ys) := by
  induction vs generalizing xs with
  | nil => rw [h.nil_inv]; exact h'
  | cons v vs ih => obtain ⟨x, r, rfl, h1, h2⟩ := h.cons_inv; exact VL.cons h1 (ih h2)
theorem VL.take {vs : List AVal} {xs : List Value} (h : VL R w m H vs xs) (n : Nat) : VL R w m H (vs.take n) (xs.take n) := by
  refine ⟨by simp [h.1], fun i v x hv hx => ?_⟩
  rw [List.getElem?_take] at hv hx
  split at hv
  · rename_i hi; rw [if_pos hi] at hx; exact h.2 i v x hv hx
  · cases hv
theorem VL.drop {vs : List AVal} {xs : List Value} (h : VL R w m H vs xs) (n : Nat) : VL R w m H (vs.drop n) (xs.drop n) := by
  refine ⟨by simp [h.1], fun i v x hv hx => ?_⟩
  rw [List.getElem?_drop] at hv hx
  exact h.2 _ v x hv hx
theorem VL.agg {cs : List AVal} {xs : List Value} (h : VL R w m H cs xs) (h1 : ∀ x ∈ xs, x.oneCell' = true) : VR R w m H (.agg cs) (.agg xs.toArray) := .agg cs xs h.1 h.2 h1
theorem VL.split {vs us : List AVal} {xs : List Value} (h : VL R w m H (vs ++ us) xs) : ∃ a b, xs = a ++ b ∧ VL R w m H vs a ∧ VL R w m H us b := by
  refine ⟨xs.take vs.length, xs.drop vs.length, (List.take_append_drop ..).symm, ?_, ?_⟩
  · have := h.take vs.length; simpa using this
  · have := h.drop vs.length; simpa using this
theorem VL.of_bytes (l : List UInt8) : VL R w m H (l.map AVal.byte) (l.map fun x => Value.int .u8 (x.toNat : Int)) := by
  induction l with
  | nil => exact VL.nil
  | cons x l ih => exact VL.cons (.byte x) ih

theorem takeN_eq : ∀ {n : Nat} {l r : List AVal}, takeN n l = some r → r = l.take n ∧ n ≤ l.length
  | 0, l, r, h => by simp [takeN] at h; simp [h]
  | n + 1, [], r, h => by simp [takeN] at h
  | n + 1, x :: l, r, h => by
    simp only [takeN] at h
    split at h
    · rename_i q hq
      obtain ⟨rfl, h2⟩ := takeN_eq hq
      cases h; exact ⟨by simp, by simpa using h2⟩
    · cases h
theorem dropN_eq : ∀ {n : Nat} {l r : List AVal}, dropN n l = some r → r = l.drop n ∧ n ≤ l.length
  | 0, l, r, h => by simp [dropN] at h; simp [h]
  | n + 1, [], r, h => by simp [dropN] at h
  | n + 1, x :: l, r, h => by
    simp only [dropN] at h
    obtain ⟨rfl, h2⟩ := dropN_eq h
    exact ⟨by simp, by simpa using h2⟩
theorem partN_eq {off n : Nat} {l r : List AVal} (h : partN off n l = some r) : r = (l.drop off).take n ∧ off + n ≤ l.length := by
  unfold partN at h
  split at h
  · rename_i q hq
    obtain ⟨rfl, h2⟩ := dropN_eq hq
    obtain ⟨rfl, h3⟩ := takeN_eq h
    simp at h3; exact ⟨rfl, by omega⟩
  · cases h
theorem putN_eq : ∀ {off : Nat} {vs l r : List AVal}, putN off vs l = some r → r = l.take off ++ (vs ++ l.drop (off + vs.length)) ∧ off + vs.length ≤ l.length
  | off + 1, vs, [], r, h => by simp [putN] at h
  | off + 1, vs, x :: l, r, h => by
    simp only [putN] at h
    split at h
    · rename_i q hq
      obtain ⟨rfl, h2⟩ := putN_eq hq
      cases h
      refine ⟨?_, by simp; omega⟩
      rw [show off + 1 + vs.length = (off + vs.length) + 1 by omega]; simp
    · cases h
  | 0, [], l, r, h => by simp [putN] at h; simp [h]
  | 0, v :: vs, [], r, h => by simp [putN] at h
  | 0, v :: vs, x :: l, r, h => by
    simp only [putN] at h
    split at h
    · rename_i q hq
      obtain ⟨rfl, h2⟩ := putN_eq hq
      cases h
      refine ⟨?_, by simp at h2 ⊢; omega⟩
      simp
    · cases h
theorem toBytes_eq : ∀ {cs : List AVal} {l : List UInt8}, toBytes cs = some l → cs = l.map AVal.byte
  | [], l, h => by simp [toBytes] at h; simp [h]
  | c :: cs, l, h => by
    cases c <;> simp only [toBytes] at h <;> try (cases h; done)
    split at h
    · rename_i q hq; cases h; simp [toBytes_eq hq]
    · cases h
theorem VL.bytes_inv {l : List UInt8} {xs : List Value} (h : VL R w m H (l.map AVal.byte) xs) : xs = l.map fun x => Value.int .u8 (x.toNat : Int) := by
  induction l generalizing xs with
  | nil => exact h.nil_inv
  | cons x l ih =>
    obtain ⟨y, r, rfl, h1, h2⟩ := VL.cons_inv h
    cases h1
    rw [ih h2]; rfl
/-- values without addresses are what they are in any heap -/
theorem VL.lift {vs : List AVal} {xs : List Value} (h : VL R w Mp.nil [] vs xs) : VL R w m H vs xs :=
  h.mono (fun _ h => h) (fun _ _ => rfl) (fun _ _ h => h) (fun k g h => by cases h) (Nat.zero_le _) (fun k hk => by simp at hk)
theorem VR.lift {v : AVal} {x : Value} (h : VR R w Mp.nil [] v x) : VR R w m H v x :=
  h.mono (fun _ h => h) (fun _ _ => rfl) (fun _ _ h => h) (fun k g h => by cases h) (Nat.zero_le _) (fun k hk => by simp at hk)
/-- a block's cells, as values -/
def _root_.Go.Proofs.Ytnbbaemijogeoaa.Ae.ABlk.av : ABlk → List AVal
  | .dead => []
  | .bytes l => l.map AVal.byte
  | .vals cs => cs
  | .flat cs => cs
theorem av_len (B : ABlk) : B.av.length = B.len := by cases B <;> simp [ABlk.av, ABlk.len]
theorem BR.vl {B : ABlk} {xs : List Value} (h : BR R w m H B xs) : ∃ ys r, xs = ys ++ r ∧ VL R w m H B.av ys := by
  cases B with
  | dead => exact ⟨[], xs, rfl, VL.nil⟩
  | bytes l => obtain ⟨r, rfl⟩ := h; exact ⟨_, r, rfl, VL.of_bytes l⟩
  | vals cs => obtain ⟨ys, r, rfl, h⟩ := h; exact ⟨ys, r, rfl, h⟩
  | flat cs => obtain ⟨ys, r, rfl, h⟩ := h; exact ⟨ys, r, rfl, h.lift⟩
/-- the cells that lie at a pointer into a block -/
theorem Sim.cells (hS : Sim R w m H) {b g : Nat} (hb : hget b H ≠ .dead) (hg : m b = some g) : ∃ (xs : List Value) (e : TypeId) (fr : Nat × Nat), w.heap[g]? = some (.cells xs.toArray e fr) ∧ Soft xs.length fr ∧ (∀ x ∈ xs, x.oneCell' = true) ∧
    BR R w m H (hget b H) xs ∧ ∃ ys r, xs = ys ++ r ∧ VL R w m H (hget b H).av ys := by
  obtain ⟨_, xs, e, fr, h1, h2, h3, h4⟩ := hS.own b g hb hg
  exact ⟨xs, e, fr, h1, h2, h3, h4, h4.vl⟩
theorem cell_of {xs : List Value} {e : TypeId} {fr : Nat × Nat} {g : Nat} (h : w.heap[g]? = some (.cells xs.toArray e fr)) (i : Nat) : w.cell? ⟨g, i, none⟩ = xs[i]? := by
  unfold World.cell?; simp [h]
theorem frozen_of {xs : List Value} {e : TypeId} {fr : Nat × Nat} {g : Nat} (h : w.heap[g]? = some (.cells xs.toArray e fr)) (hs : Soft xs.length fr) {i : Nat} (hi : i < xs.length) : w.frozen? ⟨g, i, none⟩ = false := by
  unfold World.frozen?; simp only [h, Bool.and_eq_false_iff, decide_eq_false_iff_not]
  have := hs i hi
  omega
theorem add_off (g off j : Nat) : (⟨g, off, none⟩ : Addr).add j = ⟨g, off + j, none⟩ := by unfold Addr.add; split <;> simp_all
theorem one_of {v : AVal} {x : Value} (h : VR R w m H v x) (hv : match v with | .agg _ => False | .tup _ => False | .undef => False | _ => True) : x.oneCell' = true := by
  cases h <;> first | rfl | exact hv.elim
end

end Go.Proofs.Ytnbbaemijogeoaa.Ae

namespace Go.Proofs.Ytnbbaemijogeoaa.Ae
open Go
section
variable {P : Program} {R : Nat → Prop} {w : World} {m : Mp} {H : Hp} {env : Env} {a : Act}

/-- what an operation comes to -/
def Runs (P : Program) (o : Oper) (a : Act) (w : World) (x : Value) (w' : World) : Prop :=
  (execOp a.eval o).run P w = .ok (.value x) w' ∨ ((execOp a.eval o).run P w = .ok .skip w' ∧ x = undef)
def EnvR (R : Nat → Prop) (w : World) (m : Mp) (H : Hp) (env : Env) (a : Act) : Prop := ∀ t, VR R w m H (eget t env) (a.tmps.getD t undef)

theorem ofConst_sound {c : Value} {v : AVal} (h : ofConst c = some v) : VR R w m H v c ∧ c.oneCell' = true := by
  cases c with
  | bool b => simp [ofConst] at h; subst h; exact ⟨.bool b, rfl⟩
  | int k n =>
    by_cases hk : k = .u8
    · subst hk
      simp only [ofConst] at h
      split at h
      · rename_i hn
        cases h
        have hx : ((UInt8.ofNat n.toNat).toNat : Int) = n := by rw [UInt8.toNat_ofNat']; omega
        refine ⟨?_, rfl⟩
        generalize UInt8.ofNat n.toNat = x at *
        rw [← hx]; exact .byte _
      · cases h
    · have : v = .int k n := by cases k <;> simp [ofConst] at h hk <;> exact h.symm
      subst this; exact ⟨.int k n, rfl⟩
  | string s =>
    simp only [ofConst] at h
    split at h
    · rename_i hs
      cases h
      have : s = ⟨s.data.toList.toArray⟩ := by simp
      refine ⟨?_, rfl⟩
      conv => arg 6; rw [this]
      exact .str _ (by have e : s.data.toList.length = s.size := rfl; rw [e]; unfold big; omega)
    · cases h
  | pointer p => cases p <;> simp [ofConst] at h; subst h; exact ⟨.nilP, rfl⟩
  | slice p l c =>
    cases p with
    | none =>
      match l, c, h with
      | 0, 0, h => simp [ofConst] at h; subst h; exact ⟨.nilS, rfl⟩
      | 0, _ + 1, h => simp [ofConst] at h
      | _ + 1, _, h => simp [ofConst] at h
    | some _ => simp [ofConst] at h
  | nilFunc => simp [ofConst] at h; subst h; exact ⟨.nilF, rfl⟩
  | _ => simp [ofConst] at h
theorem oper_sound (hE : EnvR R w m H env a) {x : Operand} {v : AVal} (h : oper env x = some v) : VR R w m H v (a.eval x) := by
  cases x with
  | tmp t => simp [oper] at h; subst h; exact hE t
  | const c => exact (ofConst_sound h).1
  | func f => simp [oper] at h; subst h; exact .fn f [] [] [] [] rfl (fun i v x h => by simp at h) rfl (fun i v x h => by simp at h)
  | global g => simp [oper] at h
theorem opers_sound (hE : EnvR R w m H env a) : ∀ {xs : List Operand} {vs : List AVal}, opers env xs = some vs → VL R w m H vs (xs.map a.eval)
  | [], vs, h => by simp [opers] at h; subst h; exact VL.nil
  | x :: xs, vs, h => by
    simp only [opers] at h
    split at h
    · rename_i v l h1 h2
      cases h; exact VL.cons (oper_sound hE h1) (opers_sound hE h2)
    · cases h

theorem sizeT_run {t : TypeId} {n : Nat} (h : sizeT P t = some n) (w : World) : (sizeOf t).run P w = .ok n w := by
  unfold sizeT at h
  split at h
  · rename_i i hi; cases h; simp [sizeOf, typeInfo, hi]
  · cases h
theorem kindOf_run {t : TypeId} {k : Kind} (h : kindOf P t = some k) (w : World) : (isAgg t).run P w = .ok (match k with | .agg => true | .one => false) w := by
  unfold kindOf at h
  split at h
  · rename_i fs hu; cases h; simp [isAgg, run_underlying hu]
  · rename_i n e hu; cases h; simp [isAgg, run_underlying hu]
  · rename_i d h1 h2 hu
    cases h
    simp only [isAgg, Sem.run_bind, run_underlying hu, Result.andThen_ok]
    cases d <;> first | rfl | (exact absurd hu (h1 _)) | (exact absurd hu (h2 _ _))
  · cases h
theorem zeroT_run {t : TypeId} {z : List AVal} (h : zeroT P t = some z) (w : World) :
    ∃ v : Value, (zeroValue t).run P w = .ok v w ∧ (∀ R w m H, VL R w m H z v.cells.toList) ∧ (∀ x ∈ v.cells.toList, x.oneCell' = true) := by
  have cs : ∀ (l : List Value) (r : List AVal), ofConsts l = some r → (∀ R w m H, VL R w m H r l) ∧ ∀ x ∈ l, x.oneCell' = true := by
    intro l
    induction l with
    | nil => intro r h; simp [ofConsts] at h; subst h; exact ⟨fun _ _ _ _ => VL.nil, by simp⟩
    | cons c l ih =>
      intro r h
      simp only [ofConsts] at h
      split at h
      · rename_i v q h1 h2
        cases h
        obtain ⟨a1, a2⟩ := ih q h2
        refine ⟨fun R w m H => VL.cons (ofConst_sound h1).1 (a1 R w m H), fun x hx => ?_⟩
        rcases List.mem_cons.1 hx with rfl | hx
        · exact (ofConst_sound (R := fun _ => False) (w := default) (m := Mp.nil) (H := []) h1).2
        · exact a2 x hx
      · cases h
  unfold zeroT at h
  split at h
  · rename_i i hi
    split at h
    · rename_i v hv
      refine ⟨v, by simp [zeroValue, typeInfo, hi, hv], ?_⟩
      have one : ∀ (v : Value) (c : AVal), (∀ cs, v ≠ .agg cs) → ofConst v = some c → (∀ R w m H, VL R w m H [c] v.cells.toList) ∧ ∀ x ∈ v.cells.toList, x.oneCell' = true := by
        intro v c hna hc
        have e : v.cells = #[v] := by cases v <;> first | rfl | exact absurd rfl (hna _)
        rw [e]
        exact ⟨fun R w m H => VL.cons (ofConst_sound hc).1 VL.nil, fun x hx => by simp at hx; subst hx; exact (ofConst_sound (R := fun _ => False) (w := default) (m := Mp.nil) (H := []) hc).2⟩
      by_cases hagg : ∃ cs, v = .agg cs
      · obtain ⟨xs, rfl⟩ := hagg
        simp only [zeroCells'] at h
        exact cs _ _ h
      · have hna : ∀ cs, v ≠ .agg cs := fun cs e => hagg ⟨cs, e⟩
        have h' : (match ofConst v with | some a => some [a] | none => none) = some z := by
          cases v <;> first | exact h | exact absurd rfl (hna _)
        split at h'
        · rename_i c hc; cases h'; exact one v c hna hc
        · cases h'
    · cases h
  · cases h

theorem VR.cells {v : AVal} {x : Value} (h : VR R w m H v x) (hv : okCell v = true) : VL R w m H v.cells x.cells.toList ∧ ∀ y ∈ x.cells.toList, y.oneCell' = true := by
  by_cases hagg : ∃ cs, v = .agg cs
  · obtain ⟨cs, rfl⟩ := hagg
    cases h with
    | agg cs xs h1 h2 h3 => exact ⟨by simpa [AVal.cells, Value.cells] using ⟨h1, h2⟩, by simpa [Value.cells] using h3⟩
  · have e1 : v.cells = [v] := by cases v <;> first | rfl | exact absurd ⟨_, rfl⟩ hagg
    have e2 : x.cells = #[x] ∧ x.oneCell' = true := by
      cases h <;> first | exact ⟨rfl, rfl⟩ | (simp [okCell] at hv; done) | exact absurd ⟨_, rfl⟩ hagg
    rw [e1, e2.1]
    exact ⟨VL.cons h VL.nil, fun y hy => by simp at hy; subst hy; exact e2.2⟩

/-- a block out of a list of cells -/
theorem new_blk (hS : Sim R w m H) {vs : List AVal} {xs : List Value} (hv : VL R w m H vs xs) (h1 : ∀ x ∈ xs, x.oneCell' = true) (e : TypeId) (B : ABlk) (hB : B = .vals vs ∨ ∃ l, toBytes vs = some l ∧ B = .bytes l) :
    Stp R w m H (w.alloc (.cells xs.toArray e)) (upd m H.length w.heap.size) (H ++ [B]) := by
  refine hS.alloc B xs e (0, 0) (fun i _ => by omega) h1 ?_
  rcases hB with rfl | ⟨l, hl, rfl⟩
  · exact ⟨xs, [], by simp, hv⟩
  · rw [toBytes_eq hl] at hv
    exact ⟨[], by rw [hv.bytes_inv]; simp⟩
theorem upd_self (m : Mp) (k g : Nat) : upd m k g k = some g := by unfold upd; simp

theorem alloc_sound (hS : Sim R w m H) {t : TypeId} {z : List AVal} (h : zeroT P t = some z) {o : Oper} (ho : o.op = .alloc t) :
    ∃ x w' m', Runs P o a w x w' ∧ Stp R w m H w' m' (H ++ [.vals z]) ∧ VR R w' m' (H ++ [.vals z]) (.ptr H.length 0) x := by
  obtain ⟨v, h1, h2, h3⟩ := zeroT_run h w
  have s := new_blk hS (h2 R w m H) h3 t (.vals z) (.inl rfl)
  refine ⟨_, _, _, .inl ?_, s, .ptr _ _ w.heap.size (upd_self _ _ _)⟩
  simp [execOp, ho, Instr.alloc, h1, newVar, newRow]
theorem box_sound (hS : Sim R w m H) {t : TypeId} {x : Operand} {v : AVal} (hv : VR R w m H v (a.eval x)) (hok : okCell v = true) {o : Oper} (ho : o.op = .box t x) :
    ∃ x w' m', Runs P o a w x w' ∧ Stp R w m H w' m' (H ++ [.vals v.cells]) ∧ VR R w' m' (H ++ [.vals v.cells]) (.ptr H.length 0) x := by
  obtain ⟨h2, h3⟩ := hv.cells hok
  have s := new_blk hS h2 h3 t (.vals v.cells) (.inl rfl)
  refine ⟨_, _, _, .inl ?_, s, .ptr _ _ w.heap.size (upd_self _ _ _)⟩
  simp [execOp, ho, Instr.box, newVar, newRow]

/-- the cells from a place on -/
theorem load_run {g off n : Nat} {xs : List Value} (hc : ∀ j x, xs[j]? = some x → w.cell? ⟨g, off + j, none⟩ = some x) (hn : n ≤ xs.length) {t : TypeId} {k : Kind} (hk : kindOf P t = some k) (hsz : sizeT P t = some n)
    {vs : List AVal} {v : AVal} (hv : VL R w m H vs (xs.take n)) (h1 : ∀ x ∈ xs, x.oneCell' = true) (hf : fromCells k vs = some v) :
    ∃ x, (loadVar t ⟨g, off, none⟩).run P w = .ok x w ∧ VR R w m H v x := by
  have hlen : (xs.take n).length = n := by simp; omega
  cases k with
  | agg =>
    simp only [fromCells, Option.some.injEq] at hf
    subst hf
    refine ⟨.agg (xs.take n).toArray, ?_, hv.agg fun x hx => h1 x (List.mem_of_mem_take hx)⟩
    have hl := run_loadCells_list (P := P) w ⟨g, off, none⟩ (xs.take n) (fun j x hx => by
      rw [add_off]
      rw [List.getElem?_take] at hx
      split at hx
      · exact hc j x hx
      · cases hx)
    rw [hlen] at hl
    simp [loadVar, kindOf_run hk, sizeT_run hsz, hl]
  | one =>
    match vs, hf with
    | [u], hf =>
      simp only [fromCells, Option.some.injEq] at hf
      subst hf
      obtain ⟨y, r, e, hy, hr⟩ := hv.cons_inv
      have hxy : xs[0]? = some y := by
        have : (xs.take n)[0]? = some y := by rw [e]; rfl
        rw [List.getElem?_take] at this
        split at this
        · exact this
        · cases this
      refine ⟨y, ?_, hy⟩
      have := hc 0 y hxy
      simp [loadVar, kindOf_run hk]
      simp at this
      rw [this]
theorem getD_get {l : List UInt8} {i : Nat} (h : i < l.length) : l[i]? = some (l.getD i 0) := by
  rw [List.getD_eq_getElem?_getD, List.getElem?_eq_getElem h]; rfl

theorem copyBytesV_eq (l : List UInt8) : ∀ (n i : Nat), i + n ≤ l.length → copyBytesV n i l = ((l.drop i).take n).map AVal.byte
  | 0, i, _ => by simp [copyBytesV]
  | n + 1, i, h => by
    rw [copyBytesV, copyBytesV_eq l n (i + 1) (by omega)]
    have : l.drop i = l.getD i 0 :: l.drop (i + 1) := by
      rw [List.getD_eq_getElem?_getD, List.getElem?_eq_getElem (by omega)]
      exact List.drop_eq_getElem_cons (by omega)
    rw [this]; simp

theorem loadF_sound (hS : Sim R w m H) {t : TypeId} {p v : AVal} {y : Value} {c : Option Prop} (hp : VR R w m H p y) (h : loadF P H t p = some (c, v)) (hc : ∀ q, c = some q → q) :
    ∃ ad x, y = .pointer (some ad) ∧ (loadVar t ad).run P w = .ok x w ∧ VR R w m H v x := by
  unfold loadF at h
  split at h
  case h_2 => cases h
  rename_i k n hk hsz
  cases hp with
  | ptr b off g hg =>
    refine ⟨⟨g, off, none⟩, ?_⟩
    simp only at h
    have key : ∀ cs : List AVal, (hget b H).av = cs → hget b H ≠ .dead → ∀ r, (r = (cs.drop off).take n ∧ off + n ≤ cs.length) → fromCells k r = some v → ∃ x, Value.pointer (some ⟨g, off, none⟩) = .pointer (some ⟨g, off, none⟩) ∧ (loadVar t ⟨g, off, none⟩).run P w = .ok x w ∧ VR R w m H v x := by
      intro cs hcs hlive r hr hf
      obtain ⟨xs, e, fr, h1, h2, h3, h4, ys, q, hys, hvl⟩ := hS.cells hlive hg
      obtain ⟨rfl, hle⟩ := hr
      rw [hcs] at hvl
      have hl : cs.length = ys.length := hvl.1
      obtain ⟨x, hx1, hx2⟩ := load_run (P := P) (R := R) (m := m) (H := H) (w := w) (g := g) (off := off) (n := n) (xs := ys.drop off) (fun j x hx => by
        rw [cell_of h1, hys]
        rw [List.getElem?_drop] at hx
        have := (List.getElem?_eq_some_iff.1 hx).1
        rw [List.getElem?_append_left this]; exact hx) (by simp; omega) hk hsz ((hvl.drop off).take n) (fun x hx => h3 x (by rw [hys]; exact List.mem_append_left _ (List.mem_of_mem_drop hx))) hf
      exact ⟨x, rfl, hx1, hx2⟩
    cases hb : hget b H with
    | dead => rw [hb] at h; cases h
    | bytes l =>
      rw [hb] at h
      cases k with
      | agg =>
        simp only [Option.some.injEq, Prod.mk.injEq] at h
        obtain ⟨rfl, rfl⟩ := h
        have hlt : off + n ≤ l.length := hc _ rfl
        exact key (l.map AVal.byte) (by rw [hb]; rfl) (by rw [hb]; simp) _ ⟨by rw [copyBytesV_eq l n off hlt, List.map_take, List.map_drop], by simpa using hlt⟩ rfl
      | one =>
        simp only [Option.some.injEq, Prod.mk.injEq] at h
        obtain ⟨rfl, rfl⟩ := h
        have hlt := hc _ rfl
        obtain ⟨xs, e, fr, h1, h2, h3, h4, _⟩ := hS.cells (by rw [hb]; simp) hg
        rw [hb] at h4
        obtain ⟨r, rfl⟩ := h4
        refine ⟨.int .u8 ((l.getD off 0).toNat : Int), rfl, ?_, .byte _⟩
        have : w.cell? ⟨g, off, none⟩ = some (.int .u8 ((l.getD off 0).toNat : Int)) := by
          rw [cell_of h1, List.getElem?_append_left (by simpa using hlt), List.getElem?_map, getD_get hlt]; rfl
        simp [loadVar, kindOf_run hk, this]
    | vals cs =>
      rw [hb] at h
      simp only at h
      split at h
      · rename_i r hr
        split at h
        · rename_i u hu; cases h; exact key cs (by rw [hb]; rfl) (by rw [hb]; simp) r (partN_eq hr) hu
        · cases h
      · cases h
    | flat cs =>
      rw [hb] at h
      simp only at h
      split at h
      · rename_i r hr
        split at h
        · rename_i u hu; cases h; exact key cs (by rw [hb]; rfl) (by rw [hb]; simp) r (partN_eq hr) hu
        · cases h
      · cases h
  | rop cs g off X h4 h5 h6 =>
    refine ⟨⟨g, off, none⟩, ?_⟩
    simp only at h
    split at h
    · rename_i r hr
      split at h
      · rename_i u hu
        cases h
        obtain ⟨rfl, hle⟩ := partN_eq hr
        simp at hle
        have hvl : VL R w m H cs ((List.range cs.length).map X) := ⟨by simp, fun i v x hv hx => by
          have hi := (List.getElem?_eq_some_iff.1 hv).1
          simp [hi] at hx
          subst hx
          exact (h6 i v hv).lift⟩
        obtain ⟨x, hx1, hx2⟩ := load_run (P := P) (R := R) (m := m) (H := H) (w := w) (g := g) (off := off) (n := n) (xs := (List.range cs.length).map X) (fun j x hx => by
          have hj := (List.getElem?_eq_some_iff.1 hx).1
          simp at hj
          simp [hj] at hx
          subst hx
          exact (h5 j _ (List.getElem?_eq_getElem hj)).1) (by simpa using hle) hk hsz (by simpa using hvl.take n) (fun x hx => by
            obtain ⟨j, hj, rfl⟩ := List.mem_map.1 hx
            simp at hj
            exact (h5 j _ (List.getElem?_eq_getElem hj)).2) hu
        exact ⟨x, rfl, hx1, hx2⟩
      · cases h
    · cases h
  | _ => cases h
end
end Go.Proofs.Ytnbbaemijogeoaa.Ae

namespace Go.Proofs.Ytnbbaemijogeoaa.Ae
open Go

theorem app_set (b : Nat) (B : ABlk) (H : Hp) : Eff.app ⟨[(b, B)], []⟩ H = hset b B H := by simp [Eff.app, hsets]
theorem app_no (H : Hp) : Eff.app noEff H = H := by simp [Eff.app, hsets, noEff]
theorem app_new (Bs : List ABlk) (H : Hp) : Eff.app ⟨[], Bs⟩ H = H ++ Bs := by simp [Eff.app, hsets]
theorem list_set (l : List Value) (k : Nat) (v : Value) (rest : List Value) (h : k + (rest.length + 1) ≤ l.length) :
    (l.set k v).take (k + 1) ++ (rest ++ (l.set k v).drop (k + 1 + rest.length)) = l.take k ++ (v :: rest ++ l.drop (k + (rest.length + 1))) := by
  rw [List.set_eq_take_append_cons_drop, if_pos (by omega)]
  have h1 : (l.take k).length = k := by simp; omega
  rw [List.take_append, List.drop_append, h1]
  have e1 : List.take (k + 1) (l.take k) = l.take k := List.take_of_length_le (by omega)
  have e2 : List.drop (k + 1 + rest.length) (l.take k) = [] := List.drop_of_length_le (by omega)
  rw [e1, e2, show k + 1 - k = 1 by omega, show k + 1 + rest.length - k = rest.length + 1 by omega]
  simp [List.drop_drop, show k + 1 + rest.length = k + (rest.length + 1) by omega]

theorem storeG (P : Program) (g off : Nat) (e : TypeId) (fr : Nat × Nat) : ∀ (vs : List Value) (i : Nat) (cur : List Value) (w : World), w.heap[g]? = some (.cells cur.toArray e fr) → Soft cur.length fr → off + i + vs.length ≤ cur.length → (∀ v ∈ vs, v.oneCell' = true) →
    (storeCells ⟨g, off, none⟩ vs i).run P w = .ok () (w.setRow g (cur.take (off + i) ++ (vs ++ cur.drop (off + i + vs.length))).toArray)
  | [], i, cur, w, hg, _, _, _ => by
    simp only [storeCells, List.nil_append, List.length_nil, Nat.add_zero, List.take_append_drop]
    rw [setRow_self w g cur.toArray e fr hg]
    rfl
  | v :: rest, i, cur, w, hg, hs, hl, h1 => by
    have hi : off + i < cur.length := by simp at hl; omega
    have hst : (store ((⟨g, off, none⟩ : Addr).add i) v).run P w = .ok () (w.setRow g (cur.set (off + i) v).toArray) := by
      rw [add_off, run_store P w _ v _ (h1 v (by simp)), cell_of hg, List.getElem?_eq_getElem hi]
      simp [frozen_of hg hs hi, setCell_eq_setRow w g (off + i) cur.toArray e fr v hg]
    have ih := storeG P g off e fr rest (i + 1) (cur.set (off + i) v) (w.setRow g (cur.set (off + i) v).toArray) (setRow_heap w g cur.toArray _ e _ hg) (by simpa using hs) (by simp at hl ⊢; omega) (fun x hx => h1 x (by simp [hx]))
    simp only [storeCells, Sem.run_bind, hst, Result.andThen_ok, ih, setRow_setRow]
    congr 3
    have := list_set cur (off + i) v rest (by simp at hl; omega)
    rw [← Nat.add_assoc, this]
    simp

section
variable {P : Program} {R : Nat → Prop} {w : World} {m : Mp} {H : Hp} {env : Env} {a : Act}

theorem storeF_sound (hS : Sim R w m H) {t : TypeId} {p v : AVal} {y x : Value} {c : Option Prop} {ef : Eff} (hp : VR R w m H p y) (hv : VR R w m H v x) (h : storeF P H t p v = some (c, ef)) (hc : ∀ q, c = some q → q) :
    ∃ ad w', y = .pointer (some ad) ∧ (storeVar t ad x).run P w = .ok () w' ∧ Stp R w m H w' m (ef.app H) := by
  unfold storeF at h
  split at h
  case h_2 => cases h
  rename_i n hsz
  cases hp with
  | ptr b off g hg =>
    refine ⟨⟨g, off, none⟩, ?_⟩
    simp only at h
    cases hb : hget b H with
    | dead => rw [hb] at h; cases h
    | flat cs => rw [hb] at h; cases h
    | bytes l =>
      rw [hb] at h
      cases hv <;> simp only [reduceCtorEq] at h
      rename_i u
      split at h
      case h_2 => cases h
      simp only [Option.some.injEq, Prod.mk.injEq] at h
      obtain ⟨rfl, rfl⟩ := h
      have hlt := hc _ rfl
      have hlive : hget b H ≠ .dead := by rw [hb]; simp
      obtain ⟨xs, e, fr, h1, h2, h3, h4, _⟩ := hS.cells hlive hg
      rw [hb] at h4
      obtain ⟨r, rfl⟩ := h4
      have hst := storeG P g off e fr [.int .u8 (u.toNat : Int)] 0 _ w h1 h2 (by simp; omega) (by simp [Value.oneCell'])
      have hbl : off + 1 ≤ l.length := hlt
      have e1 : List.take (off + 0) (l.map (fun x => Value.int .u8 (x.toNat : Int)) ++ r) ++ ([Value.int .u8 (u.toNat : Int)] ++ List.drop (off + 0 + [Value.int .u8 (u.toNat : Int)].length) (l.map (fun x => Value.int .u8 (x.toNat : Int)) ++ r))
          = (l.set off u).map (fun x => Value.int .u8 (x.toNat : Int)) ++ r := by
        rw [List.set_eq_take_append_cons_drop, if_pos hlt]
        simp only [Nat.add_zero, List.length_cons, List.length_nil, Nat.zero_add]
        rw [List.take_append_of_le_length (by simp; omega), List.drop_append_of_le_length (by simp; omega)]
        simp
      rw [e1] at hst
      rw [app_set]
      refine ⟨_, rfl, ?_, hS.put hlive hg h1 (.bytes (l.set off u)) (by rw [hb]; simp [ABlk.len]) ?_ ?_ ⟨r, rfl⟩⟩
      · simpa [storeVar, Value.cells, sizeT_run hsz] using hst
      · simp
      · intro y hy
        rcases List.mem_append.1 hy with hy | hy
        · obtain ⟨q, _, rfl⟩ := List.mem_map.1 hy; rfl
        · exact h3 y (List.mem_append_right _ hy)
    | vals cs =>
      rw [hb] at h
      simp only at h
      cases hck : (Nat.beq v.cells.length n && okCell v) with
      | false => rw [hck] at h; cases h
      | true =>
        rw [hck] at h
        simp only [cond_true] at h
        simp only [Bool.and_eq_true] at hck
        have hn : v.cells.length = n := Nat.eq_of_beq_eq_true hck.1
        split at h
        case h_2 => cases h
        rename_i r hr
        simp only [Option.some.injEq, Prod.mk.injEq] at h
        obtain ⟨rfl, rfl⟩ := h
        obtain ⟨rfl, hle⟩ := putN_eq hr
        have hlive : hget b H ≠ .dead := by rw [hb]; simp
        obtain ⟨xs, e, fr, h1, h2, h3, h4, _⟩ := hS.cells hlive hg
        rw [hb] at h4
        obtain ⟨ys, q, rfl, hvl⟩ := h4
        obtain ⟨hcl, hc1⟩ := hv.cells hck.2
        have hl1 := hvl.1
        have hl2 := hcl.1
        have hst := storeG P g off e fr x.cells.toList 0 _ w h1 h2 (by simp at hl2 ⊢; omega) hc1
        have e1 : List.take (off + 0) (ys ++ q) ++ (x.cells.toList ++ List.drop (off + 0 + x.cells.toList.length) (ys ++ q)) = (ys.take off ++ (x.cells.toList ++ ys.drop (off + v.cells.length))) ++ q := by
          rw [Nat.add_zero, List.take_append_of_le_length (by omega), List.drop_append_of_le_length (by omega), ← hl2]
          simp
        rw [e1] at hst
        rw [app_set]
        refine ⟨_, rfl, ?_, hS.put hlive hg h1 (.vals (cs.take off ++ (v.cells ++ cs.drop (off + v.cells.length)))) (by rw [hb]; simp [ABlk.len]; omega) (by simp at hl2 ⊢; omega) ?_ ⟨_, q, rfl, (hvl.take off).append (hcl.append (hvl.drop _))⟩⟩
        · have : x.cells.size = n := by rw [← hn, hl2]; simp
          simpa [storeVar, sizeT_run hsz, this] using hst
        · intro y hy
          rcases List.mem_append.1 hy with hy | hy
          · rcases List.mem_append.1 hy with hy | hy
            · exact h3 y (List.mem_append_left _ (List.mem_of_mem_take hy))
            · rcases List.mem_append.1 hy with hy | hy
              · exact hc1 y hy
              · exact h3 y (List.mem_append_left _ (List.mem_of_mem_drop hy))
          · exact h3 y (List.mem_append_right _ hy)
  | _ => cases h

theorem movePtr_sound {p q : AVal} {y : Value} {n : Nat} (hp : VR R w m H p y) (h : movePtr p n = some q) : ∃ g off, y = .pointer (some ⟨g, off, none⟩) ∧ VR R w m H q (.pointer (some ⟨g, off + n, none⟩)) := by
  cases hp with
  | ptr b off g hg => simp only [movePtr, Option.some.injEq] at h; subst h; exact ⟨g, off, rfl, .ptr b (off + n) g hg⟩
  | rop cs g off X h4 h5 h6 =>
    simp only [movePtr] at h
    split at h
    · rename_i r hr
      cases h
      obtain ⟨rfl, hle⟩ := dropN_eq hr
      refine ⟨g, off, rfl, .rop _ g (off + n) (fun j => X (n + j)) h4 (fun j v hv => ?_) fun j v hv => ?_⟩
      · rw [List.getElem?_drop] at hv; rw [Nat.add_assoc]; exact h5 _ v hv
      · rw [List.getElem?_drop] at hv; exact h6 _ v hv
    · cases h
  | _ => simp [movePtr] at h
theorem fieldOf_eq {s : TypeId} {i o : Nat} {t : TypeId} (h : fieldOf P s i = some (o, t)) : ∃ fs f, P.underlying s = some (.struct fs) ∧ fs[i]? = some f ∧ f.offset = o ∧ f.type = t := by
  unfold fieldOf at h
  split at h
  · rename_i fs hu
    split at h
    · rename_i f hf; cases h; exact ⟨fs, f, hu, hf, rfl, rfl⟩
    · cases h
  · cases h
theorem fieldAddrF_sound {s : TypeId} {p q : AVal} {y : Value} {i : Nat} (hp : VR R w m H p y) (h : fieldAddrF P s p i = some q) : ∃ x, (Instr.fieldAt s y i).run P w = .ok x w ∧ VR R w m H q x := by
  unfold fieldAddrF at h
  split at h
  case h_2 => cases h
  rename_i o t hf
  split at h
  case h_2 => cases h
  rename_i n hsz
  obtain ⟨fs, f, hu, hfi, rfl, rfl⟩ := fieldOf_eq hf
  obtain ⟨g, off, rfl, hq⟩ := movePtr_sound hp h
  refine ⟨_, ?_, hq⟩
  simp [Instr.fieldAt, run_underlying hu, hfi, Instr.sureAddr, fieldPlace, sizeT_run hsz, add_off]
theorem part_sound {t : TypeId} {k : Kind} {o n : Nat} {cs r : List AVal} {xs : List Value} {v : AVal} (hk : kindOf P t = some k) (hsz : sizeT P t = some n) (hcs : VL R w m H cs xs) (h1 : ∀ x ∈ xs, x.oneCell' = true)
    (hr : partN o n cs = some r) (hf : fromCells k r = some v) : ∃ x, (part t xs.toArray o).run P w = .ok x w ∧ VR R w m H v x := by
  obtain ⟨rfl, hle⟩ := partN_eq hr
  have hl := hcs.1
  have hv := (hcs.drop o).take n
  cases k with
  | agg =>
    simp only [fromCells, Option.some.injEq] at hf
    subst hf
    refine ⟨.agg ((xs.drop o).take n).toArray, ?_, hv.agg fun x hx => h1 x (List.mem_of_mem_drop (List.mem_of_mem_take hx))⟩
    simp [part, kindOf_run hk, sizeT_run hsz, List.extract_toArray, List.extract]
  | one =>
    generalize hq : (cs.drop o).take n = q at *
    match q, hf with
    | [u], hf =>
      simp only [fromCells, Option.some.injEq] at hf
      subst hf
      obtain ⟨y, r, e, hy, hr⟩ := hv.cons_inv
      refine ⟨y, ?_, hy⟩
      have hxy : xs[o]? = some y := by
        have : ((xs.drop o).take n)[0]? = some y := by rw [e]; rfl
        rw [List.getElem?_take] at this
        split at this
        · rwa [List.getElem?_drop, Nat.add_zero] at this
        · cases this
      simp [part, kindOf_run hk, hxy]
theorem fieldF_sound {s : TypeId} {p q : AVal} {y : Value} {i : Nat} (hp : VR R w m H p y) (h : fieldF P s p i = some q) : ∃ x, (Instr.field s y i).run P w = .ok x w ∧ VR R w m H q x := by
  unfold fieldF at h
  split at h
  case h_2 => cases h
  rename_i o t hf
  obtain ⟨fs, f, hu, hfi, rfl, rfl⟩ := fieldOf_eq hf
  split at h
  case h_2 => cases h
  rename_i k n cs hk hsz
  cases hp with
  | agg cs xs g1 g2 g3 =>
    split at h
    case h_2 => cases h
    rename_i r hr
    obtain ⟨x, h1, h2⟩ := part_sound (P := P) hk hsz ⟨g1, g2⟩ g3 hr h
    exact ⟨x, by simp [Instr.field, run_underlying hu, hfi, asAgg, h1], h2⟩

theorem intOf_sound {v : AVal} {x : Value} {n : Int} (h : VR R w m H v x) (hn : intOf v = some n) : ∃ k, x = .int k n := by
  cases h <;> simp [intOf] at hn
  · subst hn; exact ⟨_, rfl⟩
  · subst hn; exact ⟨_, rfl⟩
end
end Go.Proofs.Ytnbbaemijogeoaa.Ae
namespace Go.Proofs.Ytnbbaemijogeoaa
open Go.RowKit

theorem strCells_b8 (s : ByteArray) : Lib.strCells s = s.data.toList.map B8 := by
  simp [Lib.strCells]

theorem wpList_append_str {P : Program} {w w0 : World} {ops : Array Oper} {rest : List Oper} {o : Oper} {a : Act} {Q : Exit → Act → World → Prop} (hgd : o.guard = none) (s x : Operand) {t u e : TypeId} (ht : P.underlying t = some (.slice e)) (hu : P.underlying u = some .string) (hi : (P.info? e).map (fun i => (i.zero, i.size, i.bytes)) = some (some (.int .u8 0), 1, 1))
    (ho : o.op = .call { callee := .builtin .append, args := #[s, x], argTypes := #[t, u] }) {v : Value} {l : List UInt8} (hs : a.eval s = v) (hown : OwnB e w w0.heap.size v l) (hw : Ext w0 w)
    {str : ByteArray} (hx : a.eval x = .string str) (hlen : l.length + str.size ≤ 140737488355328)
    (h : ∀ v' w', OwnB e w' w0.heap.size v' (l ++ str.data.toList) → Ext w0 w' → wpList P ops Q rest (a.put o.dst v') w') : wpList P ops Q (o :: rest) a w := by
  obtain ⟨i, hi', hx'⟩ := Option.map_eq_some_iff.1 hi
  simp only [Prod.mk.injEq] at hx'
  obtain ⟨hz, hs', hb⟩ := hx'
  refine wpList_plain hgd fun K hK => ?_
  obtain ⟨v', w', h1, h2, h3, _⟩ := Lib.run_append_own_string (P := P) w w0.heap.size t u o.type e i ht hu hi' hz hs' hb v l.length (l.map B8) hown str (by unfold maxLen; omega) hlen hw.size
  unfold Oper.wp execOp
  simp only [ho, resolve, invoke, builtin, Sem.run_bind, Sem.run_pure, Result.andThen_ok, List.map_toArray, List.map_cons, List.map_nil, hs, hx, h1]
  refine hK _ _ (h v' w' ?_ (Below.trans hw (grown_below_of hown hw.size h3)))
  rw [strCells_b8, ← List.map_append] at h2
  unfold OwnB
  rw [List.length_append]
  simpa using h2
end Go.Proofs.Ytnbbaemijogeoaa
namespace Go.Proofs.Ytnbbaemijogeoaa.Ae
open Go
section
variable {P : Program} {R : Nat → Prop} {w : World} {m : Mp} {H : Hp} {env : Env} {a : Act}

theorem indexAddrF_sound {t : TypeId} {x i q : AVal} {y j : Value} {c : Option Prop} (hx : VR R w m H x y) (hi : VR R w m H i j) (h : indexAddrF P t x i = some (c, q)) (hc : ∀ p, c = some p → p) :
    ∃ z, (Instr.indexAt t y j).run P w = .ok z w ∧ VR R w m H q z := by
  unfold indexAddrF at h
  split at h
  case h_2 => cases h
  rename_i n hn
  obtain ⟨kk, rfl⟩ := intOf_sound hi hn
  split at h
  · rename_i e hu
    split at h
    · rename_i sz b off len sz' hsz
      cases hb : Nat.beq sz sz' with
      | false => rw [hb] at h; cases h
      | true =>
        rw [hb] at h
        obtain rfl := Nat.eq_of_beq_eq_true hb
        simp only [cond_true, Option.some.injEq, Prod.mk.injEq] at h
        obtain ⟨rfl, rfl⟩ := h
        obtain ⟨h0, h1⟩ := hc _ rfl
        cases hx with
        | sl _ _ _ _ ad cp g1 g2 g3 g4 g5 g6 =>
          obtain ⟨g, nn, e1, rfl, _, _⟩ := g5 (by omega)
          refine ⟨_, ?_, .ptr b _ g e1⟩
          simp [Instr.indexAt, asIntOf, run_underlying hu, sizeT_run hsz, h0, h1, add_off]
    · rename_i l hsz
      simp only [Option.some.injEq, Prod.mk.injEq] at h
      obtain ⟨rfl, rfl⟩ := h
      obtain ⟨h0, h1⟩ := hc _ rfl
      cases hx with
      | roB _ ad cp g off g1 g2 g3 g4 g5 =>
        obtain ⟨rfl, hr⟩ := g4 (by omega)
        have hlt : n.toNat < l.length := by omega
        refine ⟨.pointer (some ⟨g, off + n.toNat, none⟩), ?_, .rop _ g (off + n.toNat) (fun _ => .int .u8 ((l.getD n.toNat 0).toNat : Int)) hr (fun j v hv => ?_) fun j v hv => ?_⟩
        · simp [Instr.indexAt, asIntOf, run_underlying hu, sizeT_run hsz, h0, h1, add_off]
        · have hj : j = 0 := by have := (List.getElem?_eq_some_iff.1 hv).1; simp at this; exact this
          subst hj
          exact ⟨by simpa using g5 n.toNat _ (getD_get hlt), rfl⟩
        · have hj : j = 0 := by have := (List.getElem?_eq_some_iff.1 hv).1; simp at this; exact this
          subst hj
          simp only [List.getElem?_cons_zero, Option.some.injEq] at hv
          subst hv; exact .byte _
    · rename_i sz mm sz' f hsz
      cases hb : Nat.beq sz sz' with
      | false => rw [hb] at h; cases h
      | true =>
        rw [hb] at h
        obtain rfl := Nat.eq_of_beq_eq_true hb
        simp only [cond_true, Option.some.injEq, Prod.mk.injEq] at h
        obtain ⟨rfl, rfl⟩ := h
        obtain ⟨h0, h1⟩ := hc _ rfl
        cases hx with
        | ro _ _ _ ad cp g off X g1 g2 g3 g4 g5 g6 g7 =>
          obtain ⟨rfl, hr⟩ := g4 (by omega)
          have hlt : n.toNat < mm := by omega
          refine ⟨.pointer (some ⟨g, off + n.toNat * sz, none⟩), ?_, .rop _ g (off + n.toNat * sz) (X n.toNat) hr (fun j v hv => g5 _ j v hlt hv) fun j v hv => g6 _ j v hlt hv⟩
          simp [Instr.indexAt, asIntOf, run_underlying hu, sizeT_run hsz, h0, h1, add_off]
    · cases h
  · rename_i len e hu
    split at h
    · rename_i sz hsz
      split at h
      · rename_i ad had
        simp only [Option.some.injEq, Prod.mk.injEq] at h
        obtain ⟨rfl, rfl⟩ := h
        obtain ⟨h0, h1⟩ := hc _ rfl
        obtain ⟨g, off, rfl, hq⟩ := movePtr_sound hx had
        refine ⟨_, ?_, hq⟩
        simp [Instr.indexAt, asIntOf, run_underlying hu, sizeT_run hsz, h0, h1, add_off, Instr.sureAddr]
      · cases h
    · cases h
  · cases h

theorem indexF_sound {t : TypeId} {x i q : AVal} {y j : Value} {c : Option Prop} (hx : VR R w m H x y) (hi : VR R w m H i j) (h : indexF P t x i = some (c, q)) (hc : ∀ p, c = some p → p) :
    ∃ z, (Instr.index t y j).run P w = .ok z w ∧ VR R w m H q z := by
  unfold indexF at h
  split at h
  case h_2 => cases h
  rename_i n hn
  obtain ⟨kk, rfl⟩ := intOf_sound hi hn
  split at h
  · rename_i l
    cases ht : isStrT P t with
    | false => rw [ht] at h; cases h
    | true =>
    rw [ht] at h
    simp only [cond_true, Option.some.injEq, Prod.mk.injEq] at h
    obtain ⟨rfl, rfl⟩ := h
    obtain ⟨h0, h1⟩ := hc _ rfl
    have hlt : n.toNat < l.length := by omega
    cases hx with
    | str _ hl =>
      refine ⟨.int .u8 ((l.getD n.toNat 0).toNat : Int), ?_, .byte _⟩
      unfold isStrT at ht
      split at ht
      · rename_i hu
        have e : (⟨l.toArray⟩ : ByteArray)[n.toNat]? = some (l.getD n.toNat 0) := by
          have : n.toNat < (⟨l.toArray⟩ : ByteArray).size := by show _ < l.toArray.size; simpa using hlt
          rw [getElem?_pos (⟨l.toArray⟩ : ByteArray) n.toNat this]
          show some (l.toArray[n.toNat]) = _
          simp [List.getD_eq_getElem?_getD, List.getElem?_eq_getElem hlt]
        simp [Instr.index, asIntOf, run_underlying hu, h0, e]
      · cases ht
  · rename_i cs
    split at h
    · rename_i len e hu
      split at h
      · rename_i k sz hk hsz
        split at h
        · rename_i r hr
          split at h
          · rename_i v hv
            simp only [Option.some.injEq, Prod.mk.injEq] at h
            obtain ⟨rfl, rfl⟩ := h
            obtain ⟨h0, h1⟩ := hc _ rfl
            cases hx with
            | agg _ xs g1 g2 g3 =>
              obtain ⟨z, e1, e2⟩ := part_sound (P := P) hk hsz ⟨g1, g2⟩ g3 hr hv
              exact ⟨z, by simp [Instr.index, asIntOf, run_underlying hu, sizeT_run hsz, h0, h1, e1], e2⟩
          · cases h
        · cases h
      · cases h
    · cases h
  · cases h

/-! ### cuts -/
/-- an optional bound, and what the model has for it -/
def BndR (x : Option Int) (y : Option Value) : Prop := (x = none ∧ y = none) ∨ ∃ k n, x = some n ∧ y = some (.int k n)
theorem bnd_sound {x : Option AVal} {y : Option Value} {b : Option Int} (hxy : match x, y with | none, none => True | some v, some u => VR R w m H v u | _, _ => False) (h : bnd x = some b) : BndR b y := by
  cases x with
  | none => cases y with
    | none => simp [bnd] at h; exact .inl ⟨h.symm, rfl⟩
    | some u => exact hxy.elim
  | some v => cases y with
    | none => exact hxy.elim
    | some u =>
      simp only [bnd] at h
      split at h
      · rename_i n hn; cases h; obtain ⟨k, rfl⟩ := intOf_sound hxy hn; exact .inr ⟨k, n, rfl, rfl⟩
      · cases h
theorem sliceBound_run {k : IntKind} {n : Int} {y : Nat} {c : BoundsCode} (h0 : 0 ≤ n) (h1 : n ≤ y) (w : World) : (Instr.sliceBound (.int k n) y c).run P w = .ok n.toNat w := by
  simp [Instr.sliceBound, asIntOf, h0, h1]
/-- the bounds of a cut, as the model finds them -/
theorem bounds_run {isS : Bool} {len cap : Nat} {lo hi mx : Option Int} {lo' hi' mx' : Option Value} {a b : Int} {p : Option Prop}
    (e1 : BndR lo lo') (e2 : BndR hi hi') (e3 : BndR mx mx') (h : cutB lo hi mx (len : Int) = some (p, a, b)) (hp : ∀ q, p = some q → q) (hl : len ≤ cap) (w : World) :
    ∃ M, (Instr.sliceBounds isS len cap lo' hi' mx').run P w = .ok (a.toNat, b.toNat, M) w ∧ 0 ≤ a ∧ a ≤ b ∧ b ≤ (len : Int) ∧ b.toNat ≤ M ∧ M ≤ cap ∧ (mx' = none → M = cap) := by
  rcases e1 with ⟨rfl, rfl⟩ | ⟨k1, n1, rfl, rfl⟩ <;> rcases e2 with ⟨rfl, rfl⟩ | ⟨k2, n2, rfl, rfl⟩ <;> rcases e3 with ⟨rfl, rfl⟩ | ⟨k3, n3, rfl, rfl⟩ <;>
    simp only [cutB, Option.some.injEq, Prod.mk.injEq, reduceCtorEq] at h
  · obtain ⟨rfl, rfl, rfl⟩ := h
    exact ⟨cap, by simp [Instr.sliceBounds], by omega, by omega, by omega, by omega, by omega, fun _ => rfl⟩
  · obtain ⟨rfl, rfl, rfl⟩ := h
    have q := hp _ rfl
    have h1 : n2 ≤ (cap : Int) := by omega
    exact ⟨cap, by simp [Instr.sliceBounds, sliceBound_run (P := P) q.1 h1], by omega, by omega, by omega, by omega, by omega, fun _ => rfl⟩
  · obtain ⟨rfl, rfl, rfl⟩ := h
    obtain ⟨q1, q2, q3⟩ := hp _ rfl
    have h1 : n3 ≤ (cap : Int) := by omega
    have h2 : n2 ≤ ((n3.toNat : Nat) : Int) := by omega
    exact ⟨n3.toNat, by simp [Instr.sliceBounds, sliceBound_run (P := P) (show 0 ≤ n3 by omega) h1, sliceBound_run (P := P) q1 h2], by omega, by omega, by omega, by omega, by omega, fun h => by cases h⟩
  · obtain ⟨rfl, rfl, rfl⟩ := h
    have q := hp _ rfl
    exact ⟨cap, by simp [Instr.sliceBounds, sliceBound_run (P := P) q.1 q.2], by omega, by omega, by omega, by omega, by omega, fun _ => rfl⟩
  · obtain ⟨rfl, rfl, rfl⟩ := h
    obtain ⟨q1, q2, q3⟩ := hp _ rfl
    have h1 : n2 ≤ (cap : Int) := by omega
    have h2 : n1 ≤ ((n2.toNat : Nat) : Int) := by omega
    exact ⟨cap, by simp [Instr.sliceBounds, sliceBound_run (P := P) (show 0 ≤ n2 by omega) h1, sliceBound_run (P := P) q1 h2], by omega, by omega, by omega, by omega, by omega, fun _ => rfl⟩
  · obtain ⟨rfl, rfl, rfl⟩ := h
    obtain ⟨q1, q2, q3, q4⟩ := hp _ rfl
    have h1 : n3 ≤ (cap : Int) := by omega
    have h2 : n2 ≤ ((n3.toNat : Nat) : Int) := by omega
    have h3 : n1 ≤ ((n2.toNat : Nat) : Int) := by omega
    exact ⟨n3.toNat, by simp [Instr.sliceBounds, sliceBound_run (P := P) (show 0 ≤ n3 by omega) h1, sliceBound_run (P := P) (show 0 ≤ n2 by omega) h2, sliceBound_run (P := P) q1 h3], by omega, by omega, by omega, by omega, by omega, fun h => by cases h⟩
theorem cutL_eq {lo hi mx : Option Int} {l : List UInt8} {p : Option Prop} {a b : Int} (h : cutB lo hi mx (l.length : Int) = some (p, a, b)) : cutL lo hi l = (l.take b.toNat).drop a.toNat := by
  rcases lo with _ | lo <;> rcases hi with _ | hi <;> rcases mx with _ | mx <;> simp only [cutB, Option.some.injEq, Prod.mk.injEq, reduceCtorEq] at h <;> obtain ⟨_, rfl, rfl⟩ := h <;> simp [cutL]
theorem isSlT_eq {t : TypeId} {sz : Nat} (h : isSlT P t sz = true) : ∃ e, P.underlying t = some (.slice e) ∧ sizeT P e = some sz := by
  unfold isSlT at h
  split at h
  · rename_i e hu
    split at h
    · rename_i n hn; exact ⟨e, hu, by rw [hn, Nat.eq_of_beq_eq_true h]⟩
    · cases h
  · cases h
theorem isStrT_eq {t : TypeId} (h : isStrT P t = true) : P.underlying t = some .string := by
  unfold isStrT at h
  split at h
  · assumption
  · cases h

theorem cutF_sound (hS : Sim R w m H) {t : TypeId} {x q : AVal} {y : Value} {lo hi mx : Option AVal} {lo' hi' mx' : Option Value} {c : Option Prop} (hx : VR R w m H x y)
    (e1 : match lo, lo' with | none, none => True | some v, some u => VR R w m H v u | _, _ => False) (e2 : match hi, hi' with | none, none => True | some v, some u => VR R w m H v u | _, _ => False) (e3 : match mx, mx' with | none, none => True | some v, some u => VR R w m H v u | _, _ => False)
    (h : cutF P H t x lo hi mx = some (c, q)) (hc : ∀ p, c = some p → p) : ∃ z, (Instr.sliceAt t y lo' hi' mx').run P w = .ok z w ∧ VR R w m H q z := by
  unfold cutF at h
  split at h
  case h_2 => cases h
  rename_i lo1 hi1 mx1 b1 b2 b3
  have f1 := bnd_sound e1 b1
  have f2 := bnd_sound e2 b2
  have f3 := bnd_sound e3 b3
  have addif : ∀ (g off M l sz : Nat), l ≤ M → ∃ o, (if M = l then (some (⟨g, off, none⟩ : Addr)) else some ⟨g, off + l * sz, none⟩) = some ⟨g, o, none⟩ ∧ (l < M → o = off + l * sz) := fun g off M l sz hl => by
    by_cases e : M = l
    · exact ⟨off, by rw [if_pos e], fun h => by omega⟩
    · exact ⟨off + l * sz, by rw [if_neg e], fun _ => rfl⟩
  split at h
  · rename_i l
    split at h
    case h_2 => cases h
    split at h
    case h_2 => cases h
    rename_i p a b ht hcut
    simp only [Option.some.injEq, Prod.mk.injEq] at h
    obtain ⟨rfl, rfl⟩ := h
    obtain rfl : mx' = none := by rcases f3 with ⟨_, h⟩ | ⟨_, _, h, _⟩; exact h; cases h
    cases hx with
    | str _ hl =>
      obtain ⟨M, hr, h0, h1, h2, _⟩ := bounds_run (P := P) (isS := false) (cap := l.length) f1 f2 f3 hcut hc (Nat.le_refl _) w
      have hsz : (⟨l.toArray⟩ : ByteArray).size = l.length := by show l.toArray.size = _; simp
      refine ⟨.string ((⟨l.toArray⟩ : ByteArray).extract a.toNat b.toNat), ?_, ?_⟩
      · simp [Instr.sliceAt, Instr.slice, run_underlying (isStrT_eq ht), hsz, hr]
      · rw [cutL_eq hcut]
        have : (⟨l.toArray⟩ : ByteArray).extract a.toNat b.toNat = ⟨((l.take b.toNat).drop a.toNat).toArray⟩ := by
          apply ByteArray.ext
          rw [ByteArray.data_extract]
          simp [List.extract_toArray, List.extract, List.drop_take]
        rw [this]
        exact .str _ (by simp at hl ⊢; omega)
  · rename_i l
    split at h
    case h_2 => cases h
    rename_i p a b ht hcut
    simp only [Option.some.injEq, Prod.mk.injEq] at h
    obtain ⟨rfl, rfl⟩ := h
    obtain ⟨e, hu, hsz⟩ := isSlT_eq ht
    cases hx with
    | roB _ ad cp g off g1 g2 g3 g4 g5 =>
      obtain ⟨M, hr, h0, h1, h2, h3, h4, _⟩ := bounds_run (P := P) (isS := true) f1 f2 f3 hcut hc g1 w
      have hlen : ((l.take b.toNat).drop a.toNat).length = b.toNat - a.toNat := by simp; omega
      by_cases hpos : 0 < l.length
      · obtain ⟨rfl, hR⟩ := g4 hpos
        obtain ⟨o, ho1, ho2⟩ := addif g off M a.toNat 1 (by omega)
        refine ⟨.slice (some ⟨g, o, none⟩) (b.toNat - a.toNat) (M - a.toNat), ?_, ?_⟩
        · simp [Instr.sliceAt, Instr.slice, run_underlying hu, hr, sizeT_run hsz, add_off]
          simpa using ho1
        · rw [cutL_eq hcut, ← hlen]
          refine .roB _ _ _ g o (by omega) (by omega) (by omega) (fun _ => ⟨rfl, hR⟩) fun i x hx => ?_
          have hi := (List.getElem?_eq_some_iff.1 hx).1
          rw [ho2 (by omega), Nat.mul_one, Nat.add_assoc]
          rw [List.getElem?_drop, List.getElem?_take] at hx
          split at hx
          · exact g5 _ x hx
          · cases hx
      · have : a.toNat = 0 ∧ b.toNat = 0 := by omega
        have hl0 : l = [] := List.eq_nil_of_length_eq_zero (by omega)
        refine ⟨.slice (if M = a.toNat then ad else ad.map (·.add (a.toNat * 1))) (b.toNat - a.toNat) (M - a.toNat), ?_, ?_⟩
        · simp [Instr.sliceAt, Instr.slice, run_underlying hu, hr, sizeT_run hsz]
        · rw [cutL_eq hcut, ← hlen]
          exact .roB _ _ _ 0 0 (by omega) (by omega) (by omega) (fun h => by omega) (fun i x hx => by have := (List.getElem?_eq_some_iff.1 hx).1; omega)
  · rename_i n sz f
    split at h
    case h_2 => cases h
    rename_i p a b ht hcut
    simp only [Option.some.injEq, Prod.mk.injEq] at h
    obtain ⟨rfl, rfl⟩ := h
    obtain ⟨e, hu, hsz⟩ := isSlT_eq ht
    cases hx with
    | ro _ _ _ ad cp g off X g1 g2 g3 g4 g5 g6 g7 =>
      obtain ⟨M, hr, h0, h1, h2, h3, h4, _⟩ := bounds_run (P := P) (isS := true) f1 f2 f3 hcut hc g1 w
      by_cases hpos : 0 < n
      · obtain ⟨rfl, hR⟩ := g4 hpos
        obtain ⟨o, ho1, ho2⟩ := addif g off M a.toNat sz (by omega)
        refine ⟨.slice (some ⟨g, o, none⟩) (b.toNat - a.toNat) (M - a.toNat), ?_, ?_⟩
        · simp [Instr.sliceAt, Instr.slice, run_underlying hu, hr, sizeT_run hsz, add_off]
          simpa using ho1
        · refine .ro _ _ _ _ _ g o (fun i j => X (a.toNat + i) j) (by omega) (by omega) (by omega) (fun _ => ⟨rfl, hR⟩) (fun i j v hi hv => ?_) (fun i j v hi hv => g6 _ j v (by omega) hv) (fun i hi => g7 _ (by omega))
          rw [ho2 (by omega)]
          have := g5 (a.toNat + i) j v (by omega) hv
          rw [Nat.add_mul, ← Nat.add_assoc] at this
          exact this
      · refine ⟨.slice (if M = a.toNat then ad else ad.map (·.add (a.toNat * sz))) (b.toNat - a.toNat) (M - a.toNat), ?_, ?_⟩
        · simp [Instr.sliceAt, Instr.slice, run_underlying hu, hr, sizeT_run hsz]
        · exact .ro _ _ _ _ _ 0 0 (fun _ _ => undef) (by omega) (by omega) (by omega) (fun h => by omega) (fun i j v hi hv => by omega) (fun i j v hi hv => by omega) (fun i hi => by omega)
  · rename_i k off len sz
    split at h
    case h_2 => cases h
    rename_i p a b ht hcut
    simp only [Option.some.injEq, Prod.mk.injEq] at h
    obtain ⟨rfl, rfl⟩ := h
    obtain ⟨e, hu, hsz⟩ := isSlT_eq ht
    cases hx with
    | sl _ _ _ _ ad cp g1 g2 g3 g4 g5 g6 =>
      obtain ⟨M, hr, h0, h1, h2, h3, h4, _⟩ := bounds_run (P := P) (isS := true) f1 f2 f3 hcut hc g1 w
      have hmul : a.toNat * sz + (b.toNat - a.toNat) * sz ≤ len * sz := by rw [← Nat.add_mul]; exact Nat.mul_le_mul_right _ (by omega)
      refine ⟨.slice (if M = a.toNat then ad else ad.map (·.add (a.toNat * sz))) (b.toNat - a.toNat) (M - a.toNat), ?_, ?_⟩
      · simp [Instr.sliceAt, Instr.slice, run_underlying hu, hr, sizeT_run hsz]
      · refine .sl _ _ _ _ _ _ (by clear g5; omega) (by clear g5; omega) (by clear g5; omega) g4 (fun hc => ?_) ?_
        · have hcp : 0 < cp := by clear g5; omega
          have hne : ¬ M = a.toNat := by clear g5; omega
          obtain ⟨g, nn, q1, rfl, q3, q4⟩ := g5 hcp
          clear g5
          refine ⟨g, nn, q1, ?_, q3, ?_⟩
          · rw [if_neg hne]; simp [add_off]
          · have : a.toNat * sz + (M - a.toNat) * sz ≤ cp * sz := by rw [← Nat.add_mul]; exact Nat.mul_le_mul_right _ (by omega)
            omega
        · rcases g6 with g6 | g6
          · exact .inl g6
          · exact .inr (by clear g5; omega)
  · rename_i k off
    split at h
    case h_2 => cases h
    rename_i n e hu
    split at h
    case h_2 => cases h
    rename_i sz p a b hsz hcut
    split at h
    case h_2 => cases h
    rename_i cs hb
    cases hck : (Nat.ble (off + n * sz) cs.length && Nat.ble n 1000000) with
    | false => rw [hck] at h; cases h
    | true =>
    rw [hck] at h
    simp only [cond_true, Option.some.injEq, Prod.mk.injEq] at h
    obtain ⟨rfl, rfl⟩ := h
    simp only [Bool.and_eq_true] at hck
    have hfit := Nat.le_of_ble_eq_true hck.1
    have hn := Nat.le_of_ble_eq_true hck.2
    cases hx with
    | ptr _ _ g hg =>
      obtain ⟨M, hr, h0, h1, h2, h3, h4, _⟩ := bounds_run (P := P) (isS := false) f1 f2 f3 hcut hc (Nat.le_refl _) w
      obtain ⟨o, ho1, ho2⟩ := addif g off M a.toNat sz (by omega)
      have hlive : hget k H ≠ .dead := by rw [hb]; simp
      obtain ⟨xs, e', fr, q1, q2, q3, q4, _⟩ := hS.cells hlive hg
      have hlen := q4.len
      rw [hb] at hlen
      simp only [ABlk.len] at hlen
      have hmul : a.toNat * sz + (b.toNat - a.toNat) * sz ≤ n * sz := by rw [← Nat.add_mul]; exact Nat.mul_le_mul_right _ (by omega)
      refine ⟨.slice (some ⟨g, o, none⟩) (b.toNat - a.toNat) (M - a.toNat), ?_, ?_⟩
      · simp [Instr.sliceAt, run_underlying hu, Instr.sureAddr, hr, sizeT_run hsz, add_off]
        split
        · rename_i e; rw [if_pos e] at ho1; simp only [Option.some.injEq] at ho1; exact ho1
        · rename_i e; rw [if_neg e] at ho1; simp only [Option.some.injEq] at ho1; exact ho1
      · refine .sl _ _ _ _ _ _ (by omega) (by unfold maxI; omega) (by unfold room; omega) (hget_lt hlive) (fun hc => ⟨g, xs.length, hg, by rw [ho2 (by omega)], rowSize_of q1, ?_⟩) (.inr (by rw [hb]; simp only [ABlk.len]; omega))
        have : a.toNat * sz + (M - a.toNat) * sz ≤ n * sz := by rw [← Nat.add_mul]; exact Nat.mul_le_mul_right _ (by omega)
        omega
  · cases h
end
end Go.Proofs.Ytnbbaemijogeoaa.Ae

namespace Go.Proofs.Ytnbbaemijogeoaa.Ae
open Go
section
variable {P : Program} {R : Nat → Prop} {w : World} {m : Mp} {H : Hp} {env : Env} {a : Act}

def bcell (x : UInt8) : Value := .int .u8 (x.toNat : Int)
theorem one_bytes (l : List UInt8) : ∀ x ∈ l.map bcell, x.oneCell' = true := by
  intro x hx; obtain ⟨y, _, rfl⟩ := List.mem_map.1 hx; rfl

/-- the bytes of a slice of bytes, as they lie -/
theorem bytesOf_sound (hS : Sim R w m H) {x : AVal} {y : Value} {l : List UInt8} (hx : VR R w m H x y) (h : bytesOf H x = some l) :
    ∃ ad c, y = .slice ad l.length c ∧ l.length ≤ room ∧ l.length ≤ c ∧ (0 < l.length → ∃ g off, ad = some ⟨g, off, none⟩ ∧ ∀ i u, l[i]? = some u → w.cell? ⟨g, off + i, none⟩ = some (bcell u)) := by
  cases hx with
  | nilS => simp [bytesOf] at h; subst h; exact ⟨none, 0, rfl, Nat.zero_le _, Nat.zero_le _, fun h => by simp at h⟩
  | roB l' ad c g off h1 h2 h3 h4 h5 =>
    simp [bytesOf] at h; subst h
    exact ⟨ad, c, rfl, h3, h1, fun hp => ⟨g, off, (h4 hp).1, h5⟩⟩
  | sl b off len sz ad c h1 h2 h3 h4 h5 h6 =>
    simp only [bytesOf] at h
    cases hsb : Nat.beq sz 1 with
    | false => rw [hsb] at h; cases h
    | true =>
    rw [hsb] at h
    obtain rfl := Nat.eq_of_beq_eq_true hsb
    simp only [cond_true] at h
    have fin : ∀ (B : ABlk), hget b H = B → B ≠ .dead → ∀ (q : List UInt8), ((B.av.drop off).take len) = q.map AVal.byte → off + len ≤ B.len → ∃ ad' c', Value.slice ad len c = .slice ad' q.length c' ∧ q.length ≤ room ∧ q.length ≤ c' ∧ (0 < q.length → ∃ g off, ad' = some ⟨g, off, none⟩ ∧ ∀ i u, q[i]? = some u → w.cell? ⟨g, off + i, none⟩ = some (bcell u)) := by
      intro B hB hlive q hq hle
      have hql : q.length = len := by
        have := congrArg List.length hq
        simp [av_len] at this
        omega
      refine ⟨ad, c, by rw [hql], by omega, by omega, fun hp => ?_⟩
      obtain ⟨g, n, e1, e2, _, _⟩ := h5 (by omega)
      refine ⟨g, off, e2, fun i u hu => ?_⟩
      obtain ⟨xs, e, fr, q1, q2, q3, q4, ys, r, hys, hvl⟩ := hS.cells (by rw [hB]; exact hlive) e1
      rw [hB] at hvl
      have h7 := (hvl.drop off).take len
      rw [hq] at h7
      have h8 := h7.bytes_inv
      have hi := (List.getElem?_eq_some_iff.1 hu).1
      rw [cell_of q1, hys]
      have h9 : ((ys.drop off).take len)[i]? = some (bcell u) := by rw [h8, List.getElem?_map, hu]; rfl
      rw [List.getElem?_take, if_pos (by omega), List.getElem?_drop] at h9
      rw [List.getElem?_append_left (List.getElem?_eq_some_iff.1 h9).1]; exact h9
    cases hb : hget b H with
    | dead => rw [hb] at h; cases h
    | flat cs => rw [hb] at h; cases h
    | bytes k =>
      rw [hb] at h
      simp only [Option.some.injEq] at h
      subst h
      rcases h6 with h6 | h6
      · rw [hb] at h6; cases h6
      · rw [hb] at h6
        exact fin _ hb (by simp) _ (by simp [ABlk.av, List.map_take, List.map_drop]) (by simp only [ABlk.len] at h6 ⊢; omega)
    | vals cs =>
      rw [hb] at h
      simp only at h
      split at h
      · rename_i r hr
        obtain ⟨rfl, hle⟩ := partN_eq hr
        exact fin _ hb (by simp) _ (toBytes_eq h) (by simpa [ABlk.len] using hle)
      · cases h
  | _ => simp [bytesOf] at h

theorem isBytes_eq {t : TypeId} (h : isBytes P t = true) : ∃ e, P.underlying t = some (.slice e) ∧ P.underlying e = some (.int .u8) ∧ sizeT P e = some 1 := by
  unfold isBytes at h
  split at h
  · rename_i e hu
    simp only [Bool.and_eq_true] at h
    obtain ⟨h1, h2⟩ := h
    refine ⟨e, hu, ?_, ?_⟩
    · unfold isU8 at h1; split at h1
      · assumption
      · cases h1
    · split at h2
      · rename_i n hn; rw [hn, Nat.eq_of_beq_eq_true h2]
      · cases h2
  · cases h
theorem intKind_eq {t : TypeId} {k : IntKind} (h : intKind P t = some k) : P.underlying t = some (.int k) := by
  unfold intKind at h
  split at h
  · rename_i hu; cases h; exact hu
  · cases h
theorem kindEq_eq {a b : IntKind} (h : kindEq a b = true) : a = b := by cases a <;> cases b <;> first | rfl | cases h
theorem is64_eq {a : IntKind} (h : is64 a = true) : a = .i64 := by cases a <;> first | rfl | cases h
theorem wrap_I64 {n : Int} (h : I64 n) : IntKind.i64.wrap n = n := by unfold I64 at h; rw [IntKind.wrap_i64]; omega
theorem b8_wrap (n : Int) : ((b8 n).toNat : Int) = IntKind.u8.wrap n := by
  rw [IntKind.wrap_u8']; unfold b8; rw [UInt8.toNat_ofNat']; omega
theorem mkInt_sound (k : IntKind) (n : Int) : VR R w m H (mkInt k n) (.int k (k.wrap n)) := by
  unfold mkInt
  split
  · rw [← b8_wrap]; exact .byte _
  · exact .int _ _

theorem under_some {src : TypeId} (h : (P.underlying src).isSome = true) : ∃ d, P.underlying src = some d := Option.isSome_iff_exists.1 h
theorem convF_sound (hS : Sim R w m H) {src dst : TypeId} (hsrc : (P.underlying src).isSome = true) {x q : AVal} {y : Value} {c : Option Prop} {ef : Eff} (hx : VR R w m H x y) (h : convF P H src dst x = some (c, q, ef)) (hc : ∀ p, c = some p → p) :
    ∃ z w' m', (convert src dst y).run P w = .ok z w' ∧ Stp R w m H w' m' (ef.app H) ∧ VR R w' m' (ef.app H) q z := by
  obtain ⟨sd, hsd⟩ := under_some hsrc
  have stay : ∀ {q : AVal} {z : Value}, (convert src dst y).run P w = .ok z w → VR R w m H q z → ∃ z w' m', (convert src dst y).run P w = .ok z w' ∧ Stp R w m H w' m' (noEff.app H) ∧ VR R w' m' (noEff.app H) q z := fun h1 h2 => by
    rw [app_no]; exact ⟨_, w, m, h1, .refl hS, h2⟩
  have toInt : ∀ (k k' : IntKind) (n : Int), P.underlying dst = some (.int k') → (convert src dst (.int k n)).run P w = .ok (.int k' (k'.wrap n)) w := fun k k' n hd => by
    simp [convert, run_underlying hsd, run_underlying hd, Conv.intToInt]
  unfold convF at h
  split at h
  · rename_i k n
    cases hx with
    | int =>
    split at h
    · rename_i k' hk
      have hd := intKind_eq hk
      split at h
      · rename_i hkk
        obtain rfl := kindEq_eq hkk
        split at h
        · rename_i h64
          obtain rfl := is64_eq h64
          simp only [Option.some.injEq, Prod.mk.injEq] at h
          obtain ⟨rfl, rfl, rfl⟩ := h
          refine stay (toInt _ _ n hd) ?_
          rw [wrap_I64 (hc _ rfl)]; exact .int _ _
        · simp only [Option.some.injEq, Prod.mk.injEq] at h
          obtain ⟨rfl, rfl, rfl⟩ := h
          exact stay (toInt _ _ n hd) (mkInt_sound _ _)
      · simp only [Option.some.injEq, Prod.mk.injEq] at h
        obtain ⟨rfl, rfl, rfl⟩ := h
        exact stay (toInt _ _ n hd) (mkInt_sound _ _)
    · cases h
  · rename_i n
    cases hx with
    | byte =>
    have hn := n.toNat_lt
    split at h
    · rename_i hk
      simp only [Option.some.injEq, Prod.mk.injEq] at h
      obtain ⟨rfl, rfl, rfl⟩ := h
      refine stay (toInt _ _ _ (intKind_eq hk)) ?_
      rw [IntKind.wrap_u8', show (n.toNat : Int) % 256 = (n.toNat : Int) by omega]; exact .byte _
    · cases h
    · rename_i k' h1 h2 hk
      simp only [Option.some.injEq, Prod.mk.injEq] at h
      obtain ⟨rfl, rfl, rfl⟩ := h
      refine stay (toInt _ _ _ (intKind_eq hk)) ?_
      have : k'.wrap (n.toNat : Int) = (n.toNat : Int) := by
        cases k' <;> first | exact absurd rfl h1 | exact absurd rfl h2 | (simp only [IntKind.wrap, IntKind.bits, IntKind.signed]; simp; try omega)
      rw [this]; exact .int _ _
    · cases h
  · rename_i l
    cases hx with
    | str _ hl =>
    split at h
    · rename_i hd
      simp only [Option.some.injEq, Prod.mk.injEq] at h
      obtain ⟨rfl, rfl, rfl⟩ := h
      exact stay (by simp [convert, run_underlying hsd, run_underlying (isStrT_eq hd)]) (.str _ hl)
    · split at h
      · rename_i hd
        cases hst : isStrT P src with
        | false => rw [hst] at h; cases h
        | true =>
        rw [hst] at h
        simp only [cond_true, Option.some.injEq, Prod.mk.injEq] at h
        obtain ⟨rfl, rfl, rfl⟩ := h
        have hroom := hc _ rfl
        obtain ⟨e, hu, he, _⟩ := isBytes_eq hd
        have hr := run_bytes_of_string (P := P) w src dst e ⟨l.toArray⟩ (isStrT_eq hst) hu he
        have hsz : (⟨l.toArray⟩ : ByteArray).size = l.length := by show l.toArray.size = _; simp
        rw [hsz] at hr
        have hcap := grownCap_ge w l.length 0 e
        have hcap2 := grownCap_le_maxLen w l.length 0 e (by simp only [maxLen]; unfold room at hroom; omega)
        generalize grownCap w l.length 0 e = cap at *
        have hrow : bytesRow ⟨l.toArray⟩ cap = (l.map bcell ++ List.replicate (cap - l.length) (Value.int .u8 0)).toArray := by
          unfold bytesRow; rw [hsz]
          apply Array.ext'
          simp [bcell]
        have hlen : (l.map bcell ++ List.replicate (cap - l.length) (Value.int .u8 0)).length = cap := by simp; omega
        have hA : (l.map bcell ++ List.replicate (cap - l.length) (Value.int .u8 0)).toArray.size = cap := by simpa using hlen
        rw [hrow, hA] at hr
        have s1 := hS.drew
        have s2 := s1.sim.alloc (.bytes l) (l.map bcell ++ List.replicate (cap - l.length) (Value.int .u8 0)) e (cap, cap + 1) (fun i hi => by rw [hlen] at hi; simp; omega) (fun x hx => by
          rcases List.mem_append.1 hx with hx | hx
          · exact one_bytes l x hx
          · rw [List.eq_of_mem_replicate hx]; rfl) ⟨_, rfl⟩
        rw [app_new]
        refine ⟨_, _, upd m H.length w.drew.heap.size, hr, s1.trans s2, ?_⟩
        · refine .sl _ _ _ _ _ _ hcap (by simp only [maxLen] at hcap2; exact hcap2) hroom (by simp) (fun _ => ⟨w.heap.size, cap, upd_self _ _ _, rfl, ?_, by omega⟩) (.inr ?_)
          · have hh : (w.drew.alloc (.cells (l.map bcell ++ List.replicate (cap - l.length) (Value.int .u8 0)).toArray e (cap, cap + 1))).heap[w.heap.size]? = some (.cells (l.map bcell ++ List.replicate (cap - l.length) (Value.int .u8 0)).toArray e (cap, cap + 1)) := Array.getElem?_push_size
            rw [rowSize_of hh, hlen]
          · rw [show hget H.length (H ++ [ABlk.bytes l]) = .bytes l by have := hget_append_ge (k := 0) (H := H) (G := [ABlk.bytes l]); simpa [hget] using this]
            simp [ABlk.len]
      · cases h
  · split at h
    · rename_i l hb hd hl
      simp only [Option.some.injEq, Prod.mk.injEq] at h
      obtain ⟨rfl, rfl, rfl⟩ := h
      obtain ⟨e, hu, he, _⟩ := isBytes_eq hb
      obtain ⟨ad, cp, rfl, h1, _, h2⟩ := bytesOf_sound hS hx hl
      refine stay ?_ (.str l (by unfold room at h1; unfold big; omega))
      by_cases h0 : 0 < l.length
      · obtain ⟨g, off, rfl, h3⟩ := h2 h0
        exact run_convert_bytes_back w src dst e _ cp l hu he (isStrT_eq hd) fun j hj => by rw [add_off]; exact h3 j _ (List.getElem?_eq_getElem hj)
      · have : l = [] := List.eq_nil_of_length_eq_zero (by omega)
        subst this
        cases ad with
        | none => simp [run_convert_bytes_string w src dst e none 0 cp hu he (isStrT_eq hd), Conv.bytesToString]; rfl
        | some ad => exact run_convert_bytes_back w src dst e ad cp [] hu he (isStrT_eq hd) fun j hj => by simp at hj
    · cases h
end
end Go.Proofs.Ytnbbaemijogeoaa.Ae

namespace Go.Proofs.Ytnbbaemijogeoaa.Ae
open Go

def Src.av : Src → List AVal
  | .bytes l => l.map AVal.byte
  | .vals cs => cs
  | .flat cs => cs

theorem flatMap_len (f : Nat → List AVal) (sz : Nat) : ∀ n, (∀ i, i < n → (f i).length = sz) → ((List.range n).flatMap f).length = n * sz
  | 0, _ => by simp
  | n + 1, h => by
    rw [List.range_succ, List.flatMap_append, List.length_append, flatMap_len f sz n (fun i hi => h i (by omega))]
    simp [h n (by omega), Nat.add_mul]
theorem flatMap_get (f : Nat → List AVal) (sz : Nat) (hsz : 1 ≤ sz) : ∀ n, (∀ i, i < n → (f i).length = sz) → ∀ j, j < n * sz → ((List.range n).flatMap f)[j]? = (f (j / sz))[j % sz]?
  | 0, _, j, hj => by simp at hj
  | n + 1, h, j, hj => by
    have hl := flatMap_len f sz n (fun i hi => h i (by omega))
    rw [List.range_succ, List.flatMap_append]
    by_cases hlt : j < n * sz
    · rw [List.getElem?_append_left (by omega)]
      exact flatMap_get f sz hsz n (fun i hi => h i (by omega)) j hlt
    · rw [List.getElem?_append_right (by omega), hl]
      have hj2 : j < n * sz + sz := by rw [Nat.add_mul] at hj; omega
      have e1 : j / sz = n := by
        apply Nat.div_eq_of_lt_le
        · omega
        · rw [Nat.add_mul]; omega
      have e2 : j % sz = j - n * sz := by
        have := Nat.div_add_mod j sz
        rw [e1, Nat.mul_comm] at this
        omega
      rw [e1, e2]; simp

section
variable {P : Program} {R : Nat → Prop} {w : World} {m : Mp} {H : Hp} {env : Env} {a : Act}

/-- what a source is in memory -/
structure SrcR (P : Program) (R : Nat → Prop) (w : World) (m : Mp) (H : Hp) (src : Src) (n sz : Nat) (y : Value) (news : List Value) : Prop where
  len : news.length = n * sz
  one : ∀ v ∈ news, v.oneCell' = true
  vl : VL R w m H src.av news
  flat : ∀ cs, src = .flat cs → VL R w Mp.nil [] cs news
  lenOf : (Builtin.lenOf y).run P w = .ok n w
  first : (Builtin.firstCells sz n y).run P w = .ok news.toArray w
  le : n ≤ big

theorem src_sound (hS : Sim R w m H) {x : AVal} {y : Value} {src : Src} {n sz : Nat} (hx : VR R w m H x y) (h : srcOf H sz x = some src) (hn : lenF x = some n) (hsz : 1 ≤ sz) : ∃ news, SrcR P R w m H src n sz y news := by
  cases hx with
  | nilS =>
    simp [srcOf] at h; subst h
    simp [lenF] at hn; subst hn
    exact ⟨[], by simp, by simp, VL.nil, (fun cs e => by cases e), by simp [Builtin.lenOf], by simp [Builtin.firstCells], Nat.zero_le _⟩
  | str l hl =>
    simp only [srcOf] at h
    cases hb : Nat.beq sz 1 with
    | false => rw [hb] at h; cases h
    | true =>
    rw [hb] at h
    obtain rfl := Nat.eq_of_beq_eq_true hb
    simp only [cond_true, Option.some.injEq] at h; subst h
    simp [lenF] at hn; subst hn
    have hs : (⟨l.toArray⟩ : ByteArray).size = l.length := by show l.toArray.size = _; simp
    refine ⟨l.map bcell, by simp, one_bytes l, VL.of_bytes l, (fun cs e => by cases e), by simp [Builtin.lenOf, hs], ?_, hl⟩
    simp [Builtin.firstCells, bcell]
  | roB l ad c g off h1 h2 h3 h4 h5 =>
    simp only [srcOf] at h
    cases hb : Nat.beq sz 1 with
    | false => rw [hb] at h; cases h
    | true =>
    rw [hb] at h
    obtain rfl := Nat.eq_of_beq_eq_true hb
    simp only [cond_true, Option.some.injEq] at h; subst h
    simp [lenF] at hn; subst hn
    refine ⟨l.map bcell, by simp, one_bytes l, VL.of_bytes l, (fun cs e => by cases e), by simp [Builtin.lenOf], ?_, by unfold room at h3; unfold big; omega⟩
    by_cases h0 : 0 < l.length
    · obtain ⟨rfl, _⟩ := h4 h0
      exact run_firstCells_some w 1 l.length _ _ _ _ (by simp) fun j v hv => by
        rw [add_off]
        rw [List.getElem?_map] at hv
        obtain ⟨u, hu, rfl⟩ := Option.map_eq_some_iff.1 hv
        exact h5 j u hu
    · have : l = [] := List.eq_nil_of_length_eq_zero (by omega)
      subst this
      cases ad with
      | none => simp [Builtin.firstCells]
      | some ad => exact run_firstCells_some w 1 0 _ _ _ _ (by simp) fun j v hv => by simp at hv
  | ro n' sz' f ad c g off X h1 h2 h3 h4 h5 h6 h7 =>
    simp only [srcOf] at h
    cases hb : Nat.beq sz sz' with
    | false => rw [hb] at h; cases h
    | true =>
    rw [hb] at h
    obtain rfl := Nat.eq_of_beq_eq_true hb
    simp only [cond_true, Option.some.injEq] at h; subst h
    simp [lenF] at hn; subst hn
    have hget : ∀ j, j < n' * sz → ∃ v, (f (j / sz))[j % sz]? = some v ∧ j / sz < n' := fun j hj => by
      have hd : j / sz < n' := by rw [Nat.div_lt_iff_lt_mul (by omega)]; exact hj
      have : j % sz < (f (j / sz)).length := by rw [h7 _ hd]; exact Nat.mod_lt _ (by omega)
      exact ⟨_, List.getElem?_eq_getElem this, hd⟩
    have hvl : VL R w Mp.nil [] ((List.range n').flatMap f) ((List.range (n' * sz)).map fun j => X (j / sz) (j % sz)) := by
      refine ⟨by rw [flatMap_len f sz n' h7]; simp, fun j v u hv hu => ?_⟩
      have hj : j < n' * sz := by have := (List.getElem?_eq_some_iff.1 hv).1; rwa [flatMap_len f sz n' h7] at this
      rw [flatMap_get f sz hsz n' h7 j hj] at hv
      simp [hj] at hu
      subst hu
      obtain ⟨_, _, hd⟩ := hget j hj
      exact h6 _ _ v hd hv
    refine ⟨(List.range (n' * sz)).map fun j => X (j / sz) (j % sz), by simp, fun v hv => ?_, hvl.lift, fun cs e => by cases e; exact hvl, by simp [Builtin.lenOf], ?_, by unfold room at h3; unfold big; omega⟩
    · obtain ⟨j, hj, rfl⟩ := List.mem_map.1 hv
      obtain ⟨u, hu, hd⟩ := hget j (by simpa using hj)
      exact (h5 _ _ u hd hu).2
    · by_cases h0 : 0 < n'
      · obtain ⟨rfl, _⟩ := h4 h0
        refine run_firstCells_some w sz n' _ _ _ _ (by simp) fun j v hv => ?_
        have hj : j < n' * sz := by have := (List.getElem?_eq_some_iff.1 hv).1; simpa using this
        simp [hj] at hv
        subst hv
        obtain ⟨u, hu, hd⟩ := hget j hj
        rw [add_off]
        have := (h5 _ _ u hd hu).1
        rw [Nat.add_assoc, Nat.mul_comm, Nat.div_add_mod] at this
        exact this
      · have : n' = 0 := by omega
        subst this
        cases ad with
        | none => simp [Builtin.firstCells]
        | some ad => exact run_firstCells_some w sz 0 _ _ _ _ (by simp) fun j v hv => by simp at hv
  | sl b off len sz' ad c h1 h2 h3 h4 h5 h6 =>
    simp only [srcOf] at h
    cases hb : Nat.beq sz sz' with
    | false => rw [hb] at h; cases h
    | true =>
    rw [hb] at h
    obtain rfl := Nat.eq_of_beq_eq_true hb
    simp only [cond_true] at h
    simp [lenF] at hn; subst hn
    have hbig : len ≤ big := by unfold room at h3; unfold big; omega
    have hlen : (Builtin.lenOf (.slice ad len c)).run P w = .ok len w := by simp [Builtin.lenOf]
    have fin : hget b H ≠ .dead → src.av = ((hget b H).av.drop off).take (len * sz) → off + len * sz ≤ (hget b H).len → (∀ cs, src = .flat cs → ∃ ds, hget b H = .flat ds ∧ cs = (ds.drop off).take (len * sz)) → ∃ news, SrcR P R w m H src len sz (.slice ad len c) news := by
      intro hlive hav hle hfl
      by_cases hc0 : 0 < c
      · obtain ⟨g, nn, e1, rfl, _, _⟩ := h5 hc0
        obtain ⟨xs, e, fr, q1, q2, q3, q4, ys, r, hys, hvl⟩ := hS.cells hlive e1
        have hyl : (hget b H).len = ys.length := by rw [← av_len]; exact hvl.1
        refine ⟨(ys.drop off).take (len * sz), by simp; omega, fun v hv => q3 v (by rw [hys]; exact List.mem_append_left _ (List.mem_of_mem_drop (List.mem_of_mem_take hv))), by rw [hav]; exact (hvl.drop off).take _, fun cs hcs => ?_, hlen, ?_, hbig⟩
        · obtain ⟨ds, hd, rfl⟩ := hfl cs hcs
          rw [hd] at q4 hyl
          obtain ⟨ys', r', hys', hvl'⟩ := q4
          have : ys = ys' := by
            have e : ys ++ r = ys' ++ r' := by rw [← hys, ← hys']
            exact (List.append_inj e (by rw [← hyl, ← hvl'.1]; rfl)).1
          rw [this]
          exact (hvl'.drop off).take _
        · refine run_firstCells_some w sz len _ _ _ _ (by simp; omega) fun j v hv => ?_
          rw [add_off, cell_of q1, hys]
          rw [List.getElem?_take] at hv
          split at hv
          · rw [List.getElem?_drop] at hv
            rw [List.getElem?_append_left (List.getElem?_eq_some_iff.1 hv).1]; exact hv
          · cases hv
      · have hl0 : len = 0 := by omega
        subst hl0
        refine ⟨[], by simp, by simp, ?_, fun cs hcs => ?_, hlen, ?_, hbig⟩
        · rw [hav]; simp; exact VL.nil
        · obtain ⟨ds, hd, rfl⟩ := hfl cs hcs
          simp; exact VL.nil
        · cases ad with
          | none => simp [Builtin.firstCells]
          | some ad => exact run_firstCells_some w sz 0 _ _ _ _ (by simp) fun j v hv => by simp at hv
    cases hbk : hget b H with
    | dead => rw [hbk] at h; cases h
    | bytes l =>
      rw [hbk] at h
      cases hb1 : Nat.beq sz 1 with
      | false => simp only [hb1] at h; cases h
      | true =>
      simp only [hb1, cond_true, Option.some.injEq] at h; subst h
      obtain rfl := Nat.eq_of_beq_eq_true hb1
      exact fin (by rw [hbk]; simp) (by rw [hbk]; simp [Src.av, ABlk.av, List.map_take, List.map_drop]) (h6.resolve_left (by rw [hbk]; simp)) (fun cs e => by cases e)
    | vals cs =>
      rw [hbk] at h
      simp only at h
      split at h
      · rename_i r hr
        cases h
        obtain ⟨rfl, hle⟩ := partN_eq hr
        exact fin (by rw [hbk]; simp) (by rw [hbk]; rfl) (by rw [hbk]; exact hle) (fun cs e => by cases e)
      · cases h
    | flat cs =>
      rw [hbk] at h
      simp only [Option.some.injEq] at h; subst h
      exact fin (by rw [hbk]; simp) (by rw [hbk]; rfl) (h6.resolve_left (by rw [hbk]; simp)) (fun ds e => by cases e; exact ⟨cs, hbk, rfl⟩)
  | _ => simp [srcOf] at h
end
end Go.Proofs.Ytnbbaemijogeoaa.Ae
