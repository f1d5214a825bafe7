/- An evaluator over plain data for a program's functions: what is read is a list, what is made is a block of a small heap. Definitions. No program in sight. -/
import Derived.WalkKit
import Derived.LoopN
import Derived.Scope
import Derived.Orders
import Derived.Laws.BitsAllLaws
namespace Go.Proofs.Ytnbbaemijogeoaa.Ae
open Go

/-- A value. -/
inductive AVal where
  | undef
  | bool (b : Bool)
  | int (k : IntKind) (n : Int)
  | byte (x : UInt8)
  | str (l : List UInt8)
  | nilS
  | sl (b off len sz : Nat)
  | roB (l : List UInt8)
  | ro (n sz : Nat) (f : Nat → List AVal)
  | nilP
  | ptr (b off : Nat)
  | rop (cs : List AVal)
  | agg (cs : List AVal)
  | tup (vs : List AVal)
  | fn (f : Nat) (first cap : List AVal)
  | nilF

/-- What a block of the call's own holds. 'flat': values without addresses. -/
inductive ABlk where
  | dead
  | bytes (l : List UInt8)
  | vals (cs : List AVal)
  | flat (cs : List AVal)

abbrev Hp := List ABlk
abbrev Env := List (Nat × AVal)

structure Eff where
  sets : List (Nat × ABlk)
  news : List ABlk

structure Res where
  pre : Option Prop
  v : AVal
  eff : Eff

def noEff : Eff := ⟨[], []⟩

inductive AExit where
  | normal
  | exit (id : Nat)
  | ret

structure St where
  env : Env
  heap : Hp

/-! ### small helpers -/
def natEq (a b : Nat) : Bool := Nat.beq a b
def eget (t : Nat) : Env → AVal
  | [] => .undef
  | (u, v) :: r => cond (Nat.beq t u) v (eget t r)
def elemN (k : Nat) : List Nat → Bool
  | [] => false
  | j :: r => cond (Nat.beq k j) true (elemN k r)
def pw : Nat → Int
  | 1 => 2
  | 4 => 16
  | 6 => 64
  | 8 => 256
  | 16 => 65536
  | 24 => 16777216
  | 32 => 4294967296
  | n => 2 ^ n
def I64 (n : Int) : Prop := -9223372036854775808 ≤ n ∧ n ≤ 9223372036854775807
def big : Nat := 4611686018427387904
def room : Nat := 140737488355328
def b8 (n : Int) : UInt8 := UInt8.ofNat (n % 256).toNat

def AVal.cells : AVal → List AVal
  | .agg cs => cs
  | v => [v]
/-- may it be laid into memory? -/
def okCell : AVal → Bool
  | .tup _ | .undef => false
  | _ => true
def ABlk.len : ABlk → Nat
  | .dead => 0
  | .bytes l => l.length
  | .vals cs => cs.length
  | .flat cs => cs.length

def hget (k : Nat) : Hp → ABlk
  | [] => .dead
  | b :: r => match k with
    | 0 => b
    | k + 1 => hget k r
def hset : Nat → ABlk → Hp → Hp
  | _, _, [] => []
  | 0, b, _ :: r => b :: r
  | k + 1, b, c :: r => c :: hset k b r
def hsets : List (Nat × ABlk) → Hp → Hp
  | [], H => H
  | (k, b) :: r, H => hsets r (hset k b H)
def Eff.app (e : Eff) (H : Hp) : Hp := hsets e.sets H ++ e.news

def toBytes : List AVal → Option (List UInt8)
  | [] => some []
  | .byte x :: r => match toBytes r with
    | some l => some (x :: l)
    | none => none
  | _ :: _ => none

/-- literal lists: a part, or none if there is not so much -/
def takeN : Nat → List AVal → Option (List AVal)
  | 0, _ => some []
  | _ + 1, [] => none
  | n + 1, x :: r => match takeN n r with
    | some l => some (x :: l)
    | none => none
def dropN : Nat → List AVal → Option (List AVal)
  | 0, l => some l
  | _ + 1, [] => none
  | n + 1, _ :: r => dropN n r
def partN (off n : Nat) (l : List AVal) : Option (List AVal) := match dropN off l with
  | some r => takeN n r
  | none => none
/-- cells put over others, from a place on -/
def putN : Nat → List AVal → List AVal → Option (List AVal)
  | _ + 1, _, [] => none
  | n + 1, vs, x :: r => match putN n vs r with
    | some l => some (x :: l)
    | none => none
  | 0, [], l => some l
  | 0, _ :: _, [] => none
  | 0, v :: vs, _ :: r => match putN 0 vs r with
    | some l => some (v :: l)
    | none => none

/-! ### constants and operands -/
def ofConst : Value → Option AVal
  | .bool b => some (.bool b)
  | .int .u8 n => if 0 ≤ n ∧ n < 256 then some (.byte (UInt8.ofNat n.toNat)) else none
  | .int k n => some (.int k n)
  | .string s => if s.size ≤ 1000000 then some (.str s.data.toList) else none
  | .pointer none => some .nilP
  | .slice none 0 0 => some .nilS
  | .nilFunc => some .nilF
  | _ => none
def ofConsts : List Value → Option (List AVal)
  | [] => some []
  | v :: r => match ofConst v, ofConsts r with
    | some a, some l => some (a :: l)
    | _, _ => none
/-- a type's zero value, cell by cell -/
def zeroCells' : Value → Option (List AVal)
  | .agg cs => ofConsts cs.toList
  | v => match ofConst v with
    | some a => some [a]
    | none => none
def oper (env : Env) : Operand → Option AVal
  | .tmp t => some (eget t env)
  | .const v => ofConst v
  | .func f => some (.fn f [] [])
  | .global _ => none
def opers (env : Env) : List Operand → Option (List AVal)
  | [] => some []
  | x :: r => match oper env x, opers env r with
    | some a, some l => some (a :: l)
    | _, _ => none

/-! ### arithmetic -/
def cmpF (op : BinOp) (x y : Int) : Option Bool := match op with
  | .eql => some (decide (x = y))
  | .neq => some (!decide (x = y))
  | .lss => some (decide (x < y))
  | .leq => some (decide (x ≤ y))
  | .gtr => some (decide (y < x))
  | .geq => some (decide (y ≤ x))
  | _ => none
def is64 : IntKind → Bool
  | .i64 => true
  | _ => false
def kindEq (a b : IntKind) : Bool := match a, b with
  | .i8, .i8 | .i16, .i16 | .i32, .i32 | .i64, .i64 | .u8, .u8 | .u16, .u16 | .u32, .u32 | .u64, .u64 => true
  | _, _ => false
def arithF (op : BinOp) (k : IntKind) (x y : Int) : Option (Option Prop × AVal) := match op with
  | .add => match is64 k with
    | true => some (some (I64 (x + y)), .int k (x + y))
    | false => some (none, .int k (k.wrap (x + y)))
  | .sub => match is64 k with
    | true => some (some (I64 (x - y)), .int k (x - y))
    | false => some (none, .int k (k.wrap (x - y)))
  | .mul => match is64 k with
    | true => some (some (I64 (x * y)), .int k (x * y))
    | false => some (none, .int k (k.wrap (x * y)))
  | .quo => match is64 k with
    | true => some (some (y ≠ 0 ∧ I64 (x.tdiv y)), .int k (x.tdiv y))
    | false => some (some (y ≠ 0), .int k (k.wrap (x.tdiv y)))
  | .rem => some (some (y ≠ 0), .int k (x.tmod y))
  | .and => some (none, .int k (bits .and k x y))
  | .or => some (none, .int k (bits .or k x y))
  | .xor => some (none, .int k (bits .xor k x y))
  | .andNot => some (none, .int k (bits .andNot k x y))
  | _ => none
def byteF (op : BinOp) (x y : UInt8) : Option (Option Prop × AVal) := match op with
  | .add => some (none, .byte (x + y))
  | .sub => some (none, .byte (x - y))
  | .mul => some (none, .byte (x * y))
  | .quo => some (some (y.toNat ≠ 0), .byte (UInt8.ofNat (x.toNat / y.toNat)))
  | .rem => some (some (y.toNat ≠ 0), .byte (UInt8.ofNat (x.toNat % y.toNat)))
  | .and => some (none, .byte (x &&& y))
  | .or => some (none, .byte (x ||| y))
  | .xor => some (none, .byte (x ^^^ y))
  | .andNot => some (none, .byte (x &&& ~~~y))
  | .eql => some (none, .bool (decide (x = y)))
  | .neq => some (none, .bool (!decide (x = y)))
  | .lss => some (none, .bool (decide (x.toNat < y.toNat)))
  | .leq => some (none, .bool (decide (x.toNat ≤ y.toNat)))
  | .gtr => some (none, .bool (decide (y.toNat < x.toNat)))
  | .geq => some (none, .bool (decide (y.toNat ≤ x.toNat)))
  | _ => none
def shiftF (op : BinOp) (k : IntKind) (x : Int) (n : Int) : Option (Option Prop × AVal) := match op with
  | .shl => match is64 k with
    | true => some (some (0 ≤ n ∧ n < 64 ∧ I64 (x * pw n.toNat)), .int k (x * pw n.toNat))
    | false => some (some (0 ≤ n ∧ n.toNat < k.bits), .int k (k.wrap (x * pw n.toNat)))
  | .shr => some (some (0 ≤ n ∧ n.toNat < k.bits), .int k (x / pw n.toNat))
  | _ => none
def shiftB (op : BinOp) (x : UInt8) (n : Int) : Option (Option Prop × AVal) := match op with
  | .shl => some (some (0 ≤ n ∧ n < 8), .byte (b8 ((x.toNat : Int) * pw n.toNat)))
  | .shr => some (some (0 ≤ n ∧ n < 8), .byte (b8 ((x.toNat : Int) / pw n.toNat)))
  | _ => none
def isShift : BinOp → Bool
  | .shl | .shr => true
  | _ => false
def bytesLess' := Op.bytesLess
def strF (op : BinOp) (x y : List UInt8) : Option (Option Prop × AVal) := match op with
  | .add => some (some (x.length + y.length ≤ big), .str (x ++ y))
  | .eql => some (none, .bool (decide (x = y)))
  | .neq => some (none, .bool (!decide (x = y)))
  | .lss => some (none, .bool (Op.bytesLess x y))
  | .leq => some (none, .bool (Op.bytesLess x y || decide (x = y)))
  | .gtr => some (none, .bool (!(Op.bytesLess x y || decide (x = y))))
  | .geq => some (none, .bool (!Op.bytesLess x y))
  | _ => none

/-- are two cells the same? -/
def cellEq : AVal → AVal → Option Bool
  | .bool a, .bool b => some (decide (a = b))
  | .int k a, .int k' b => match kindEq k k' with
    | true => some (decide (a = b))
    | false => none
  | .byte a, .byte b => some (decide (a = b))
  | .str a, .str b => some (decide (a = b))
  | _, _ => none
def cellsEq : List AVal → List AVal → Option Bool
  | [], [] => some true
  | [x], [y] => cellEq x y
  | x :: r, y :: q => match cellEq x y, cellsEq r q with
    | some a, some b => some (a && b)
    | _, _ => none
  | _, _ => none

def sizeT (P : Program) (t : TypeId) : Option Nat := match P.info? t with
  | some i => some i.size
  | none => none
inductive Kind where
  | agg | one
def kindOf (P : Program) (t : TypeId) : Option Kind := match P.underlying t with
  | some (.struct _) | some (.array _ _) => some .agg
  | some _ => some .one
  | none => none
/-- what the cells of a type are that is compared cell by cell (0: a bool, 1: a number, 2: a string); none: some other type is in it -/
def eqFields (P : Program) (E : TypeId → Option (List Nat)) : List Field → List Nat → Option (List Nat)
  | [], acc => some acc
  | f :: r, acc => match E f.type, sizeT P f.type with
    | some ks, some n => cond (Nat.beq ks.length n && Nat.beq f.offset acc.length && f.name != "_") (eqFields P E r (acc ++ ks)) none
    | _, _ => none
def repN : Nat → List Nat → List Nat
  | 0, _ => []
  | n + 1, z => z ++ repN n z
def eqN (P : Program) : Nat → TypeId → Option (List Nat)
  | 0, _ => none
  | d + 1, t => match P.underlying t with
    | some .bool => some [0]
    | some (.int _) => some [1]
    | some .string => some [2]
    | some (.struct fs) => cond (!P.stoodInHeld t) (eqFields P (eqN P d) fs.toList []) none
    | some (.array n e) => match eqN P d e, sizeT P e with
      | some ks, some k' => cond (Nat.beq ks.length k') (some (repN n ks)) none
      | _, _ => none
    | _ => none
def kindsOk : List Nat → List AVal → Bool
  | [], [] => true
  | 0 :: r, .bool _ :: q => kindsOk r q
  | 1 :: r, .int _ _ :: q => kindsOk r q
  | 1 :: r, .byte _ :: q => kindsOk r q
  | 2 :: r, .str _ :: q => kindsOk r q
  | _, _ => false

def eqF (P : Program) (t : TypeId) (x y : AVal) : Option Bool := match x, y with
  | .agg xs, .agg ys => match eqN P 6 t, kindOf P t with
    | some ks, some .agg => cond (kindsOk ks xs && kindsOk ks ys && Nat.ble 6 P.depth) (cellsEq xs ys) none
    | _, _ => none
  | .bool a, .bool b => match P.underlying t with
    | some .bool => some (decide (a = b))
    | _ => none
  | .nilP, .nilP => match P.underlying t with
    | some (.pointer _) => some true
    | _ => none
  | .ptr _ _, .nilP | .nilP, .ptr _ _ | .rop _, .nilP | .nilP, .rop _ => match P.underlying t with
    | some (.pointer _) => some false
    | _ => none
  | .nilF, .nilF => match P.underlying t with
    | some (.func _ _ _) => some true
    | _ => none
  | .fn _ _ _, .nilF | .nilF, .fn _ _ _ => match P.underlying t with
    | some (.func _ _ _) => some false
    | _ => none
  | .nilS, .nilS => match P.underlying t with
    | some (.slice _) => some true
    | _ => none
  | _, _ => none

def binF (P : Program) (op : BinOp) (t : TypeId) (x y : AVal) : Option (Option Prop × AVal) := match x, y with
  | .int k a, .int k' b => match isShift op with
    | true => shiftF op k a b
    | false => match kindEq k k' with
      | true => match cmpF op a b with
        | some r => some (none, .bool r)
        | none => arithF op k a b
      | false => none
  | .byte a, .int _ b => shiftB op a b
  | .int k a, .byte b => shiftF op k a (b.toNat : Int)
  | .byte a, .byte b => match isShift op with
    | true => shiftB op a (b.toNat : Int)
    | false => byteF op a b
  | .str a, .str b => strF op a b
  | x, y => match op with
    | .eql => match eqF P t x y with
      | some r => some (none, .bool r)
      | none => none
    | .neq => match eqF P t x y with
      | some r => some (none, .bool (!r))
      | none => none
    | _ => none
def unF (op : UnOp) (x : AVal) : Option (Option Prop × AVal) := match op, x with
  | .not, .bool b => some (none, .bool (!b))
  | .neg, .int k n => arithF .sub k 0 n
  | .xor, .int k n => some (none, .int k (bits .xor k (if k.signed then -1 else k.max) n))
  | .xor, .byte x => some (none, .byte (~~~x))
  | _, _ => none

/-! ### memory -/
/-- the bytes of a slice of bytes -/
def bytesOf (H : Hp) : AVal → Option (List UInt8)
  | .nilS => some []
  | .roB l => some l
  | .sl b off len sz => cond (Nat.beq sz 1) (match hget b H with
    | .bytes l => some ((l.drop off).take len)
    | .vals cs => match partN off len cs with
      | some r => toBytes r
      | none => none
    | _ => none) none
  | _ => none
def lenF : AVal → Option Nat
  | .nilS => some 0
  | .str l => some l.length
  | .roB l => some l.length
  | .ro n _ _ => some n
  | .sl _ _ len _ => some len
  | _ => none

def isU8 (P : Program) (t : TypeId) : Bool := match P.underlying t with
  | some (.int .u8) => true
  | _ => false
def zeroT (P : Program) (t : TypeId) : Option (List AVal) := match P.info? t with
  | some i => match i.zero with
    | some v => zeroCells' v
    | none => none
  | none => none

def fromCells (k : Kind) (cs : List AVal) : Option AVal := match k, cs with
  | .agg, cs => some (.agg cs)
  | .one, [v] => some v
  | _, _ => none
def copyBytesV : Nat → Nat → List UInt8 → List AVal
  | 0, _, _ => []
  | n + 1, i, l => .byte (l.getD i 0) :: copyBytesV n (i + 1) l
def loadF (P : Program) (H : Hp) (t : TypeId) (a : AVal) : Option (Option Prop × AVal) := match kindOf P t, sizeT P t with
  | some k, some n => match a with
    | .ptr b off => match hget b H with
      | .bytes l => match k with
        | .one => some (some (off < l.length), .byte (l.getD off 0))
        | .agg => some (some (off + n ≤ l.length), .agg (copyBytesV n off l))
      | .vals cs => match partN off n cs with
        | some r => match fromCells k r with
          | some v => some (none, v)
          | none => none
        | none => none
      | .flat cs => match partN off n cs with
        | some r => match fromCells k r with
          | some v => some (none, v)
          | none => none
        | none => none
      | .dead => none
    | .rop cs => match partN 0 n cs with
      | some r => match fromCells k r with
        | some v => some (none, v)
        | none => none
      | none => none
    | _ => none
  | _, _ => none
def storeF (P : Program) (H : Hp) (t : TypeId) (a v : AVal) : Option (Option Prop × Eff) := match sizeT P t with
  | some n => match a with
    | .ptr b off => match hget b H with
      | .bytes l => match v with
        | .byte x => match n with
          | 1 => some (some (off < l.length), ⟨[(b, .bytes (l.set off x))], []⟩)
          | _ => none
        | _ => none
      | .vals cs => cond (Nat.beq v.cells.length n && okCell v) (match putN off v.cells cs with
        | some r => some (none, ⟨[(b, .vals r)], []⟩)
        | none => none) none
      | _ => none
    | _ => none
  | none => none

def fieldOf (P : Program) (s : TypeId) (i : Nat) : Option (Nat × TypeId) := match P.underlying s with
  | some (.struct fs) => match fs[i]? with
    | some f => some (f.offset, f.type)
    | none => none
  | _ => none
def movePtr (a : AVal) (n : Nat) : Option AVal := match a with
  | .ptr b off => some (.ptr b (off + n))
  | .rop cs => match dropN n cs with
    | some r => some (.rop r)
    | none => none
  | _ => none
def fieldAddrF (P : Program) (s : TypeId) (a : AVal) (i : Nat) : Option AVal := match fieldOf P s i with
  | some (o, t) => match sizeT P t with
    | some (_ + 1) => movePtr a o
    | _ => none
  | none => none
def fieldF (P : Program) (s : TypeId) (x : AVal) (i : Nat) : Option AVal := match fieldOf P s i with
  | some (o, t) => match kindOf P t, sizeT P t, x with
    | some k, some n, .agg cs => match partN o n cs with
      | some r => fromCells k r
      | none => none
    | _, _, _ => none
  | none => none

def intOf : AVal → Option Int
  | .int _ n => some n
  | .byte x => some (x.toNat : Int)
  | _ => none
def indexAddrF (P : Program) (t : TypeId) (x i : AVal) : Option (Option Prop × AVal) := match intOf i with
  | some n => match P.underlying t with
    | some (.slice e) => match sizeT P e, x with
      | some sz, .sl b off len sz' => cond (Nat.beq sz sz') (some (some (0 ≤ n ∧ n < (len : Int)), .ptr b (off + n.toNat * sz))) none
      | some 1, .roB l => some (some (0 ≤ n ∧ n < (l.length : Int)), .rop [.byte (l.getD n.toNat 0)])
      | some sz, .ro m sz' f => cond (Nat.beq sz sz') (some (some (0 ≤ n ∧ n < (m : Int)), .rop (f n.toNat))) none
      | _, _ => none
    | some (.array len e) => match sizeT P e with
      | some sz => match movePtr x (n.toNat * sz) with
        | some a => some (some (0 ≤ n ∧ n < (len : Int)), a)
        | none => none
      | none => none
    | _ => none
  | none => none
def isStrT (P : Program) (t : TypeId) : Bool := match P.underlying t with
  | some .string => true
  | _ => false
def isSlT (P : Program) (t : TypeId) (sz : Nat) : Bool := match P.underlying t with
  | some (.slice e) => match sizeT P e with
    | some n => Nat.beq n sz
    | none => false
  | _ => false
def indexF (P : Program) (t : TypeId) (x i : AVal) : Option (Option Prop × AVal) := match intOf i with
  | some n => match x with
    | .str l => cond (isStrT P t) (some (some (0 ≤ n ∧ n < (l.length : Int)), .byte (l.getD n.toNat 0))) none
    | .agg cs => match P.underlying t with
      | some (.array len e) => match kindOf P e, sizeT P e with
        | some k, some sz => match partN (n.toNat * sz) sz cs with
          | some r => match fromCells k r with
            | some v => some (some (0 ≤ n ∧ n < (len : Int)), v)
            | none => none
          | none => none
        | _, _ => none
      | _ => none
    | _ => none
  | none => none

/-- the bounds of a cut of something so long -/
def bnd (x : Option AVal) : Option (Option Int) := match x with
  | none => some none
  | some v => match intOf v with
    | some n => some (some n)
    | none => none
def cutB (lo hi mx : Option Int) (len : Int) : Option (Option Prop × Int × Int) := match lo, hi, mx with
  | none, none, none => some (none, 0, len)
  | some a, none, none => some (some (0 ≤ a ∧ a ≤ len), a, len)
  | none, some b, none => some (some (0 ≤ b ∧ b ≤ len), 0, b)
  | some a, some b, none => some (some (0 ≤ a ∧ a ≤ b ∧ b ≤ len), a, b)
  | none, some b, some c => some (some (0 ≤ b ∧ b ≤ c ∧ c ≤ len), 0, b)
  | some a, some b, some c => some (some (0 ≤ a ∧ a ≤ b ∧ b ≤ c ∧ c ≤ len), a, b)
  | _, none, some _ => none
def cutL (lo hi : Option Int) (l : List UInt8) : List UInt8 := match lo, hi with
  | none, none => l
  | some a, none => l.drop a.toNat
  | none, some b => l.take b.toNat
  | some a, some b => (l.take b.toNat).drop a.toNat
def cutF (P : Program) (H : Hp) (t : TypeId) (x : AVal) (lo hi mx : Option AVal) : Option (Option Prop × AVal) :=
  match bnd lo, bnd hi, bnd mx with
  | some lo, some hi, some mx => match x with
    | .str l => match mx with
      | none => match isStrT P t, cutB lo hi none (l.length : Int) with
        | true, some (p, _, _) => some (p, .str (cutL lo hi l))
        | _, _ => none
      | some _ => none
    | .roB l => match isSlT P t 1, cutB lo hi mx (l.length : Int) with
      | true, some (p, _, _) => some (p, .roB (cutL lo hi l))
      | _, _ => none
    | .ro n sz f => match isSlT P t sz, cutB lo hi mx (n : Int) with
      | true, some (p, a, b) => some (p, .ro (b.toNat - a.toNat) sz (fun i => f (a.toNat + i)))
      | _, _ => none
    | .sl k off len sz => match isSlT P t sz, cutB lo hi mx (len : Int) with
      | true, some (p, a, b) => some (p, .sl k (off + a.toNat * sz) (b.toNat - a.toNat) sz)
      | _, _ => none
    | .ptr k off => match P.underlying t with
      | some (.array n e) => match sizeT P e, cutB lo hi mx (n : Int) with
        | some sz, some (p, a, b) => match hget k H with
          | .vals cs => cond (Nat.ble (off + n * sz) cs.length && Nat.ble n 1000000) (some (p, .sl k (off + a.toNat * sz) (b.toNat - a.toNat) sz)) none
          | _ => none
        | _, _ => none
      | _ => none
    | _ => none
  | _, _, _ => none

def isBytes (P : Program) (t : TypeId) : Bool := match P.underlying t with
  | some (.slice e) => isU8 P e && (match sizeT P e with | some n => Nat.beq n 1 | none => false)
  | _ => false
def intKind (P : Program) (t : TypeId) : Option IntKind := match P.underlying t with
  | some (.int k) => some k
  | _ => none
def mkInt (k : IntKind) (n : Int) : AVal := match k with
  | .u8 => .byte (b8 n)
  | k => .int k (k.wrap n)
def convF (P : Program) (H : Hp) (src dst : TypeId) (x : AVal) : Option (Option Prop × AVal × Eff) := match x with
  | .int k n => match intKind P dst with
    | some k' => match kindEq k k' with
      | true => match is64 k with
        | true => some (some (I64 n), .int k n, noEff)
        | false => some (none, mkInt k' n, noEff)
      | false => some (none, mkInt k' n, noEff)
    | none => none
  | .byte n => match intKind P dst with
    | some .u8 => some (none, .byte n, noEff)
    | some .i8 => none
    | some k' => some (none, .int k' (n.toNat : Int), noEff)
    | none => none
  | .str l => match isStrT P dst with
    | true => some (none, .str l, noEff)
    | false => match isBytes P dst with
      | true => cond (isStrT P src) (some (some (l.length ≤ room), .sl H.length 0 l.length 1, ⟨[], [.bytes l]⟩)) none
      | false => none
  | x => match isBytes P src, isStrT P dst, bytesOf H x with
    | true, true, some l => some (none, .str l, noEff)
    | _, _, _ => none

def toArrayF (P : Program) (t : TypeId) (x : AVal) : Option (Option Prop × AVal) := match P.underlying t with
  | some (.array n _) => match x with
    | .sl b off len _ => some (some (0 < n ∧ n ≤ len), .ptr b off)
    | _ => none
  | _ => none

/-- parts laid over zeros -/
def layParts (place : Nat → Option (Nat × Nat)) : List AVal → List (Nat × AVal) → Option (List AVal)
  | cs, [] => some cs
  | cs, (i, v) :: r => match place i with
    | some (off, n) => cond (Nat.beq v.cells.length n && okCell v) (match putN off v.cells cs with
      | some cs' => layParts place cs' r
      | none => none) none
    | none => none
def partOpers (env : Env) : List (Nat × Operand) → Option (List (Nat × AVal))
  | [] => some []
  | (i, x) :: r => match oper env x, partOpers env r with
    | some a, some l => some ((i, a) :: l)
    | _, _ => none
def fieldPlaceF (P : Program) (t : TypeId) (i : Nat) : Option (Nat × Nat) := match fieldOf P t i with
  | some (o, u) => match sizeT P u with
    | some n => some (o, n)
    | none => none
  | none => none
def rep : Nat → List AVal → List AVal
  | 0, _ => []
  | n + 1, z => z ++ rep n z
def buildF (P : Program) (t : TypeId) (parts : List (Nat × AVal)) : Option AVal := match zeroT P t, P.underlying t with
  | some z, some (.struct fs) => cond (fs.toList.all fun f => (sizeT P f.type).isSome) (match layParts (fieldPlaceF P t) z parts with
    | some cs => some (.agg cs)
    | none => none) none
  | some z, some (.array _ e) => match sizeT P e with
    | some sz => match layParts (fun i => some (i * sz, sz)) z parts with
      | some cs => some (.agg cs)
      | none => none
    | none => none
  | _, _ => none
/-- a block out of cells -/
def mkBlk (cs : List AVal) : ABlk := match toBytes cs with
  | some l => .bytes l
  | none => .vals cs
def buildSliceF (P : Program) (H : Hp) (t : TypeId) (len : Nat) (parts : List (Nat × AVal)) : Option (AVal × Eff) := match P.underlying t with
  | some (.slice e) => match sizeT P e, zeroT P e with
    | some sz, some z => cond (Nat.ble (len * sz) 100000 && Nat.beq z.length sz && Nat.ble 1 sz) (match layParts (fun i => some (i * sz, sz)) (rep len z) parts with
      | some cs => some (.sl H.length 0 len sz, ⟨[], [mkBlk cs]⟩)
      | none => none) none
    | _, _ => none
  | _ => none
def bytesT (P : Program) (t : TypeId) : Nat := P.bytesOf t
def makeF (P : Program) (H : Hp) (t : TypeId) (n c : AVal) : Option (Option Prop × AVal × Eff) := match P.underlying t, intOf n, intOf c with
  | some (.slice e), some a, some b => match sizeT P e, zeroT P e with
    | some sz, some z => match toBytes z, Nat.beq (bytesT P e) 1 && Nat.beq sz 1 with
      | some [x], true => some (some (0 ≤ a ∧ a = b ∧ a ≤ (room : Int)), .sl H.length 0 a.toNat 1, ⟨[], [.bytes (List.replicate a.toNat x)]⟩)
      | _, _ => cond (Nat.beq z.length sz && Nat.ble 1 sz && Nat.ble 1 (bytesT P e)) (some (some (0 ≤ a ∧ a = b ∧ a * (bytesT P e : Int) ≤ (room : Int)), .sl H.length 0 a.toNat sz, ⟨[], [.vals (rep a.toNat z)]⟩)) none
    | _, _ => none
  | _, _, _ => none

/-! ### builtins -/
/-- the cells of a slice, or of a string -/
inductive Src where
  | bytes (l : List UInt8)
  | vals (cs : List AVal)
  | flat (cs : List AVal)
def Src.len : Src → Nat
  | .bytes l => l.length
  | .vals cs => cs.length
  | .flat cs => cs.length
def srcOf (H : Hp) (sz : Nat) (x : AVal) : Option Src := match x with
  | .nilS => some (.vals [])
  | .str l => cond (Nat.beq sz 1) (some (.bytes l)) none
  | .roB l => cond (Nat.beq sz 1) (some (.bytes l)) none
  | .sl b off len sz' => cond (Nat.beq sz sz') (match hget b H with
    | .bytes l => cond (Nat.beq sz 1) (some (.bytes ((l.drop off).take len))) none
    | .vals cs => match partN off (len * sz) cs with
      | some r => some (.vals r)
      | none => none
    | .flat cs => some (.flat ((cs.drop off).take (len * sz)))
    | .dead => none) none
  | .ro n sz' f => cond (Nat.beq sz sz') (some (.flat ((List.range n).flatMap f))) none
  | _ => none
mutual
def closed : AVal → Bool
  | .sl _ _ _ _ => false
  | .ptr _ _ => false
  | .agg cs => closedL cs
  | .tup vs => closedL vs
  | .fn _ a b => closedL a && closedL b
  | _ => true
def closedL : List AVal → Bool
  | [] => true
  | v :: vs => closed v && closedL vs
end
def joinSrc : ABlk → Src → Option ABlk
  | .bytes l, .bytes k => some (.bytes (l ++ k))
  | .bytes l, .vals [] => some (.bytes l)
  | .bytes [], .vals (x :: k) => some (.vals (x :: k))
  | .bytes [], .flat k => some (.flat k)
  | .vals [], .bytes k => some (.bytes k)
  | .vals [], .flat k => some (.flat k)
  | .vals cs, .vals k => some (.vals (cs ++ k))
  | .flat cs, .vals [] => some (.flat cs)
  | .flat cs, .vals (x :: k) => cond (closedL (x :: k)) (some (.flat (cs ++ x :: k))) none
  | .flat cs, .flat k => some (.flat (cs ++ k))
  | _, _ => none
def zeroLen (P : Program) (e : TypeId) (n : Nat) : Bool := match zeroT P e with
  | some z => Nat.beq z.length n
  | none => false
/-- what follows sees the constructor -/
def forceB {α : Type} (b : ABlk) (k : ABlk → α) : α := match b with
  | .dead => k .dead
  | .bytes l => k (.bytes l)
  | .vals cs => k (.vals cs)
  | .flat cs => k (.flat cs)
theorem forceB_eq {α : Type} (b : ABlk) (k : ABlk → α) : forceB b k = k b := by cases b <;> rfl
def appendF (P : Program) (H : Hp) (t : TypeId) (s x : AVal) : Option (Option Prop × AVal × Eff) := match P.underlying t with
  | some (.slice e) => match sizeT P e with
    | some sz => cond (Nat.ble 1 sz && zeroLen P e sz && Nat.ble 1 (bytesT P e)) (match srcOf H sz x with
      | some src => match lenF x, s with
        | some n, .nilS => match joinSrc (.vals []) src with
          | some B => some (some (n * bytesT P e ≤ room), .sl H.length 0 n sz, ⟨[], [B]⟩)
          | none => none
        | some n, .sl b off len sz' => cond (Nat.beq off 0 && Nat.beq sz sz') (forceB (hget b H) fun B0 => match joinSrc B0 src with
          | some B => some (some ((len + n) * bytesT P e ≤ room ∧ B0.len = len * sz), .sl H.length 0 (len + n) sz, ⟨[(b, .dead)], [B]⟩)
          | none => none) none
        | _, _ => none
      | none => none) none
    | none => none
  | _ => none
def bytesSrc (H : Hp) (x : AVal) : Option (List UInt8) := match x with
  | .str l => some l
  | x => bytesOf H x
def copyF (P : Program) (H : Hp) (t : TypeId) (d x : AVal) : Option (Option Prop × AVal × Eff) := match isBytes P t, d, bytesSrc H x with
  | true, .sl b off len _, some l => match hget b H with
    | .bytes k => some (some (off + l.length ≤ k.length ∧ l.length ≤ len), .int .i64 (l.length : Int), ⟨[(b, .bytes (k.take off ++ (l ++ k.drop (off + l.length))))], []⟩)
    | .vals cs => match putN off (copyBytesV len 0 l) cs with
      | some r => some (some (len ≤ l.length), .int .i64 (len : Int), ⟨[(b, .vals r)], []⟩)
      | none => none
    | _ => none
  | _, _, _ => none
def minF : Bool → AVal → AVal → Option AVal
  | true, .int k a, .int k' b => match kindEq k k' with
    | true => some (.int k (if b < a then b else a))
    | false => none
  | false, .int k a, .int k' b => match kindEq k k' with
    | true => some (.int k (if a < b then b else a))
    | false => none
  | _, _, _ => none

def isSrcT (P : Program) (t : TypeId) : Bool := match P.underlying t with
  | some (.slice _) | some .string => true
  | _ => false
/-- a builtin -/
def builtinF (P : Program) (H : Hp) (b : Builtin) (ts : List TypeId) (args : List AVal) : Option Res := match b, ts, args with
  | .len, t :: _, [x] => match P.underlying t with
    | some (.array n _) => some ⟨none, .int .i64 (n : Int), noEff⟩
    | some .string => match x with
      | .str l => some ⟨none, .int .i64 (l.length : Int), noEff⟩
      | _ => none
    | some (.slice _) => match x with
      | .nilS => some ⟨none, .int .i64 0, noEff⟩
      | .roB l => some ⟨none, .int .i64 (l.length : Int), noEff⟩
      | .ro n _ _ => some ⟨none, .int .i64 (n : Int), noEff⟩
      | .sl _ _ n _ => some ⟨none, .int .i64 (n : Int), noEff⟩
      | _ => none
    | _ => none
  | .append, t :: u :: _, [s, x] => cond (isSrcT P u) (match appendF P H t s x with
    | some (p, v, e) => some ⟨p, v, e⟩
    | none => none) none
  | .copy, t :: _, [d, x] => match copyF P H t d x with
    | some (p, v, e) => some ⟨p, v, e⟩
    | none => none
  | .min, _, [x, y] => match minF true x y with
    | some v => some ⟨none, v, noEff⟩
    | none => none
  | .max, _, [x, y] => match minF false x y with
    | some v => some ⟨none, v, noEff⟩
    | none => none
  | _, _, _ => none

def pickF (b : Bool) (x y : AVal) : AVal := match x, y with
  | .bool u, .bool v => .bool (cond b u v)
  | x, y => cond b x y

def plain (p : Prop) (v : AVal) : Res := ⟨p, v, noEff⟩
def plain? : Option (Option Prop × AVal) → Option Res
  | some (p, v) => some ⟨p, v, noEff⟩
  | none => none
def pure? : Option AVal → Option Res
  | some v => some ⟨none, v, noEff⟩
  | none => none
def oper? (env : Env) : Option Operand → Option (Option AVal)
  | none => some none
  | some x => match oper env x with
    | some v => some (some v)
    | none => none

/-- an operation that is no call of a function -/
def opF (P : Program) (op : Op) (env : Env) (H : Hp) : Option Res := match op with
  | .move x | .assign x => match oper env x with
    | some v => some ⟨none, v, noEff⟩
    | none => none
  | .pick c a b => match oper env c, oper env a, oper env b with
    | some (.bool t), some x, some y => some ⟨none, pickF t x y, noEff⟩
    | _, _, _ => none
  | .alloc t => match zeroT P t with
    | some z => some ⟨none, .ptr H.length 0, ⟨[], [.vals z]⟩⟩
    | none => none
  | .box _ x => match oper env x with
    | some v => cond (okCell v) (some ⟨none, .ptr H.length 0, ⟨[], [.vals v.cells]⟩⟩) none
    | none => none
  | .build t parts => match partOpers env parts.toList with
    | some l => pure? (buildF P t l)
    | none => none
  | .buildSlice t len parts => match partOpers env parts.toList with
    | some l => match buildSliceF P H t len l with
      | some (v, e) => some ⟨none, v, e⟩
      | none => none
    | none => none
  | .load t a => match oper env a with
    | some v => plain? (loadF P H t v)
    | none => none
  | .store t a x => match oper env a, oper env x with
    | some p, some v => match storeF P H t p v with
      | some (c, e) => some ⟨c, .undef, e⟩
      | none => none
    | _, _ => none
  | .nilCheck x => match oper env x with
    | some (.ptr b o) => some ⟨none, .ptr b o, noEff⟩
    | some (.rop cs) => some ⟨none, .rop cs, noEff⟩
    | some (.fn f fi ca) => some ⟨none, .fn f fi ca, noEff⟩
    | _ => none
  | .binOp o t x y _ => match oper env x, oper env y with
    | some a, some b => plain? (binF P o t a b)
    | _, _ => none
  | .unOp o _ x => match oper env x with
    | some a => plain? (unF o a)
    | none => none
  | .convert s d x => match oper env x with
    | some a => cond ((P.underlying s).isSome) (match convF P H s d a with
      | some (p, v, e) => some ⟨p, v, e⟩
      | none => none) none
    | none => none
  | .sliceToArrayPointer t x => match oper env x with
    | some a => plain? (toArrayF P t a)
    | none => none
  | .makeFunc (.func f) first cap => match opers env first.toList, opers env cap.toList with
    | some a, some b => some ⟨none, .fn f a b, noEff⟩
    | _, _ => none
  | .makeSlice t n c => match oper env n, oper env c with
    | some a, some b => match makeF P H t a b with
      | some (p, v, e) => some ⟨p, v, e⟩
      | none => none
    | _, _ => none
  | .slice t x lo hi mx => match oper env x, oper? env lo, oper? env hi, oper? env mx with
    | some a, some l, some h, some m => plain? (cutF P H t a l h m)
    | _, _, _, _ => none
  | .fieldAddr t x i => match oper env x with
    | some a => pure? (fieldAddrF P t a i)
    | none => none
  | .field t x i => match oper env x with
    | some a => pure? (fieldF P t a i)
    | none => none
  | .indexAddr t x i => match oper env x, oper env i with
    | some a, some j => plain? (indexAddrF P t a j)
    | _, _ => none
  | .index t x i => match oper env x, oper env i with
    | some a, some j => plain? (indexF P t a j)
    | _, _ => none
  | .extract x i => match oper env x with
    | some (.tup vs) => match vs[i]? with
      | some v => some ⟨none, v, noEff⟩
      | none => none
    | _ => none
  | .call c => match c.callee with
    | .builtin b => match opers env c.args.toList with
      | some l => builtinF P H b c.argTypes.toList l
      | none => none
    | _ => none
  | _ => none

end Go.Proofs.Ytnbbaemijogeoaa.Ae
