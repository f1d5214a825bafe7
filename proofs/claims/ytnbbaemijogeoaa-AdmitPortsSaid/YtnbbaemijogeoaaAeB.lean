/- The evaluator: calls, regions, code, functions. Definitions. No program in sight. -/
import Derived.Test.YtnbbaemijogeoaaAeA
import Derived.Test.YtnbbaemijogeoaaReg
import Derived.Test.YtnbbaemijogeoaaAeY
namespace Go.Proofs.Ytnbbaemijogeoaa.Ae
open Go

/-! ### addresses in values -/
mutual
def ren (r : Nat → Option Nat) : AVal → AVal
  | .sl b off len sz => match r b with
    | some k => .sl k off len sz
    | none => .undef
  | .ptr b off => match r b with
    | some k => .ptr k off
    | none => .undef
  | .agg cs => .agg (renL r cs)
  | .tup vs => .tup (renL r vs)
  | .fn f a b => .fn f (renL r a) (renL r b)
  | .undef => .undef
  | .bool b => .bool b
  | .int k n => .int k n
  | .byte x => .byte x
  | .str l => .str l
  | .nilS => .nilS
  | .roB l => .roB l
  | .ro n sz f => .ro n sz f
  | .nilP => .nilP
  | .rop cs => .rop cs
  | .nilF => .nilF
def renL (r : Nat → Option Nat) : List AVal → List AVal
  | [] => []
  | v :: vs => ren r v :: renL r vs
end
def renB (r : Nat → Option Nat) : ABlk → ABlk
  | .vals cs => .vals (renL r cs)
  | .dead => .dead
  | .bytes l => .bytes l
  | .flat cs => .flat cs
mutual
def refs : AVal → List Nat
  | .sl b _ _ _ => [b]
  | .ptr b _ => [b]
  | .agg cs => refsL cs
  | .tup vs => refsL vs
  | .fn _ a b => refsL a ++ refsL b
  | _ => []
def refsL : List AVal → List Nat
  | [] => []
  | v :: vs => refs v ++ refsL vs
end
-- of pointers alone
mutual
def pins : AVal → List Nat
  | .ptr b _ => [b]
  | .agg cs => pinsL cs
  | .tup vs => pinsL vs
  | .fn _ a b => refsL a ++ refsL b
  | _ => []
def pinsL : List AVal → List Nat
  | [] => []
  | v :: vs => pins v ++ pinsL vs
end
def refsB : ABlk → List Nat
  | .vals cs => refsL cs
  | _ => []
/-- all blocks that can be reached -/
def reach (H : Hp) : Nat → List Nat → List Nat → List Nat
  | 0, _, seen => seen
  | _ + 1, [], seen => seen
  | n + 1, k :: r, seen => cond (elemN k seen) (reach H n r seen) (reach H n (r ++ refsB (hget k H)) (seen ++ [k]))
mutual
def noRo : AVal → Bool
  | .roB _ => false
  | .ro _ _ _ => false
  | .rop _ => false
  | .agg cs => noRoL cs
  | .tup vs => noRoL vs
  | .fn _ a b => noRoL a && noRoL b
  | _ => true
def noRoL : List AVal → Bool
  | [] => true
  | v :: vs => noRo v && noRoL vs
end
def noRoB : ABlk → Bool
  | .vals cs => noRoL cs
  | .flat _ => false
  | _ => true
def noRoH : Hp → Bool
  | [] => true
  | b :: r => noRoB b && noRoH r

/-! ### calls -/
def rowsOf (sz : Nat) (cs : List AVal) (i : Nat) : List AVal := (cs.drop (i * sz)).take sz
mutual
def snapC (imps : List Nat) (H : Hp) : AVal → Option AVal
  | .sl b off len sz => cond (elemN b imps) (some (.sl b off len sz)) (match hget b H with
    | .bytes l => cond (Nat.beq sz 1) (some (.roB ((l.drop off).take len))) none
    | .vals cs => match partN off (len * sz) cs with
      | some r => match toBytes r with
        | some l => cond (Nat.beq sz 1) (some (.roB l)) none
        | none => cond (closedL r && Nat.ble 1 sz) (some (.ro len sz (rowsOf sz r))) none
      | none => none
    | .flat cs => cond (Nat.ble 1 sz) (some (.ro len sz (rowsOf sz ((cs.drop off).take (len * sz))))) none
    | .dead => none)
  | .agg cs => match snapCL imps H cs with
    | some l => some (.agg l)
    | none => none
  | .tup _ => none
  | .fn f a b => some (.fn f a b)
  | .ptr b o => some (.ptr b o)
  | .undef => some .undef
  | .bool b => some (.bool b)
  | .int k n => some (.int k n)
  | .byte x => some (.byte x)
  | .str l => some (.str l)
  | .nilS => some .nilS
  | .roB l => some (.roB l)
  | .ro n sz f => some (.ro n sz f)
  | .nilP => some .nilP
  | .rop cs => some (.rop cs)
  | .nilF => some .nilF
def snapCL (imps : List Nat) (H : Hp) : List AVal → Option (List AVal)
  | [] => some []
  | v :: vs => match snapC imps H v, snapCL imps H vs with
    | some a, some l => some (a :: l)
    | _, _ => none
end
mutual
def snapsC (imps : List Nat) : AVal → List Nat
  | .sl b _ _ _ => cond (elemN b imps) [] [b]
  | .agg cs => snapsCL imps cs
  | _ => []
def snapsCL (imps : List Nat) : List AVal → List Nat
  | [] => []
  | v :: vs => snapsC imps v ++ snapsCL imps vs
end
/-- a slice of slices -/
def snapN (imps : List Nat) (H : Hp) (b off len sz : Nat) : Option AVal := match hget b H with
  | .vals cs => match partN off (len * sz) cs with
    | some r => match snapCL imps H r with
      | some r' => cond (closedL r' && Nat.ble 1 sz) (some (.ro len sz (rowsOf sz r'))) none
      | none => none
    | none => none
  | _ => none
def innerN (imps : List Nat) (H : Hp) (b off len sz : Nat) : List Nat := match hget b H with
  | .vals cs => match partN off (len * sz) cs with
    | some r => snapsCL imps r
    | none => []
  | _ => []
mutual
def snap (imps : List Nat) (H : Hp) : AVal → Option AVal
  | .sl b off len sz => match snapC imps H (.sl b off len sz) with
    | some v => some v
    | none => cond (elemN b imps) none (snapN imps H b off len sz)
  | .agg cs => match snapL imps H cs with
    | some l => some (.agg l)
    | none => none
  | .tup _ => none
  | .fn f a b => some (.fn f a b)
  | .ptr b o => some (.ptr b o)
  | .undef => some .undef
  | .bool b => some (.bool b)
  | .int k n => some (.int k n)
  | .byte x => some (.byte x)
  | .str l => some (.str l)
  | .nilS => some .nilS
  | .roB l => some (.roB l)
  | .ro n sz f => some (.ro n sz f)
  | .nilP => some .nilP
  | .rop cs => some (.rop cs)
  | .nilF => some .nilF
def snapL (imps : List Nat) (H : Hp) : List AVal → Option (List AVal)
  | [] => some []
  | v :: vs => match snap imps H v, snapL imps H vs with
    | some a, some l => some (a :: l)
    | _, _ => none
end
mutual
def snaps (imps : List Nat) (H : Hp) : AVal → List Nat
  | .sl b off len sz => cond (elemN b imps) [] (b :: innerN imps H b off len sz)
  | .agg cs => snapsL imps H cs
  | _ => []
def snapsL (imps : List Nat) (H : Hp) : List AVal → List Nat
  | [] => []
  | v :: vs => snaps imps H v ++ snapsL imps H vs
end
def backN (base : Nat) : List Nat → Nat → Option Nat
  | [], j => some (base + j)
  | k :: _, 0 => some k
  | _ :: r, j + 1 => backN base r j
/-- where it stands in a list -/
def idxO (k : Nat) : List Nat → Option Nat
  | [] => none
  | j :: r => cond (Nat.beq k j) (some 0) (match idxO k r with
    | some i => some (i + 1)
    | none => none)
def subHeap (r : Nat → Option Nat) (H : Hp) : List Nat → Hp
  | [] => []
  | k :: ks => renB r (hget k H) :: subHeap r H ks
def renH (r : Nat → Option Nat) : Hp → Hp
  | [] => []
  | b :: bs => renB r b :: renH r bs
/-- the first blocks of a heap, under the caller's numbers -/
def zipSets (r : Nat → Option Nat) : List Nat → Hp → List (Nat × ABlk)
  | k :: ks, b :: bs => (k, renB r b) :: zipSets r ks bs
  | _, _ => []
def dropH : List Nat → Hp → Hp
  | _ :: ks, _ :: bs => dropH ks bs
  | _, bs => bs
def deads : List Nat → List (Nat × ABlk)
  | [] => []
  | k :: ks => (k, .dead) :: deads ks

/-- what follows sees the constructor -/
def forceV (v : AVal) (k : AVal → Prop) : Prop := match v with
  | .undef => k .undef
  | .bool b => k (.bool b)
  | .int q n => k (.int q n)
  | .byte x => k (.byte x)
  | .str l => k (.str l)
  | .nilS => k .nilS
  | .sl b off len sz => k (.sl b off len sz)
  | .roB l => k (.roB l)
  | .ro n sz f => k (.ro n sz f)
  | .nilP => k .nilP
  | .ptr b off => k (.ptr b off)
  | .rop cs => k (.rop cs)
  | .agg cs => k (.agg cs)
  | .tup vs => k (.tup vs)
  | .fn f a b => k (.fn f a b)
  | .nilF => k .nilF
/-- .. the list -/
def forceL {α : Type} : List α → (List α → Prop) → Prop
  | [], k => k []
  | x :: r, k => forceL r fun l => k (x :: l)
def allLt : List Nat → Nat → Bool
  | [], _ => true
  | k :: r, n => Nat.blt k n && allLt r n
abbrev Specs := Nat → List AVal → Hp → (AVal → Hp → Prop) → Prop

def backE (imps ks : List Nat) (H : Hp) (v : AVal) (Hc : Hp) : Eff :=
  ⟨zipSets (backN H.length imps) imps Hc ++ deads (cond (noRo v && noRoH Hc) [] ks), renH (backN H.length imps) (dropH imps Hc)⟩
def backK (imps ks : List Nat) (H : Hp) (K : AVal → Eff → Prop) (v : AVal) (Hc : Hp) : Prop :=
  K (ren (backN H.length imps) v) (backE imps ks H v Hc)
def callP (T : Specs) (f : Nat) (args : List AVal) (H : Hp) (K : AVal → Eff → Prop) : Prop :=
  forceL (reach H 60 (pinsL args) []) fun imps => cond (allLt imps H.length) (match snapL imps H args with
    | some as => T f (renL (fun k => idxO k imps) as) (subHeap (fun k => idxO k imps) H imps) (backK imps (snapsL imps H args) H K)
    | none => False) False

/-! ### regions -/
structure Cx where
  P : Program
  T : Specs
  nt : Nat
  n0 : Nat
  ann : Nat → List Nat × Nat × List (List Nat)

def joinK {α : Type} : List α → List α → (List α → Prop) → Prop
  | [], b, k => k b
  | x :: r, b, k => joinK r b fun l => k (x :: l)
def hsetsK : List (Nat × ABlk) → Hp → (Hp → Prop) → Prop
  | [], H, k => k H
  | (j, b) :: r, H, k => forceL (hset j b H) fun H' => hsetsK r H' k
def effK (e : Eff) (H : Hp) (k : Hp → Prop) : Prop := match e.sets, e.news with
  | [], [] => k H
  | [], n :: ns => joinK H (n :: ns) k
  | s :: ss, ns => hsetsK (s :: ss) H fun H' => joinK H' ns k
def andP : Option Prop → Prop → Prop
  | none, q => q
  | some p, q => p ∧ q
def opK (r : Option Res) (K : AVal → Eff → Prop) : Prop := match r with
  | some ⟨p, v, e⟩ => andP p (forceV v fun v => K v e)
  | none => False
/-- a branch -/
def brP (b : Bool) (x y : Prop) : Prop := cond b x y
/-- a check of the text alone -/
def chkP (b : Bool) (x : Prop) : Prop := cond b x False
def opP (X : Cx) (o : Op) (env : Env) (H : Hp) (K : AVal → Eff → Prop) : Prop := match o with
  | .call ⟨.value f, args, _⟩ => match oper env f, opers env args.toList with
    | some (.fn g first cap), some l => callP X.T g (first ++ (l ++ cap)) H fun v e => forceV v fun v => K v e
    | _, _ => False
  | o => opK (opF X.P o env H) K
def putEnv (dst : Option Nat) (v : AVal) (env : Env) : Env := match dst with
  | some t => (t, v) :: env
  | none => env
def putK (dst : Option Nat) (v : AVal) (env : Env) (k : Env → Prop) : Prop := match dst with
  | some t => k ((t, v) :: env)
  | none => k env
def dstOk (nt : Nat) : Option Nat → Bool
  | some t => Nat.blt t nt
  | none => true
def gslot : List Oper → Nat → Option Nat
  | [], _ => none
  | o :: _, 0 => o.dst
  | _ :: r, j + 1 => gslot r j
def doP (X : Cx) (o : Oper) (env : Env) (H : Hp) (K : St → Prop) : Prop :=
  opP X o.op env H fun v e => effK e H fun H' => putK o.dst v env fun env' => K ⟨env', H'⟩
def skipP (o : Oper) (env : Env) (H : Hp) (K : St → Prop) : Prop := putK o.dst (.tup []) env fun env' => K ⟨env', H⟩
def operP (X : Cx) (ops : List Oper) (o : Oper) (s : St) (K : St → Prop) : Prop :=
  cond (dstOk X.nt o.dst) (match o.guard with
    | none => doP X o s.env s.heap K
    | some (j, want) => match gslot ops j with
      | some t => match eget t s.env with
        | .bool b => brP b
          (cond want (doP X o ((t, .bool true) :: s.env) s.heap K) (skipP o ((t, .bool true) :: s.env) s.heap K))
          (cond want (skipP o ((t, .bool false) :: s.env) s.heap K) (doP X o ((t, .bool false) :: s.env) s.heap K))
        | .tup [] => skipP o s.env s.heap K
        | _ => False
      | none => False) False
def opsP (X : Cx) (ops : List Oper) : List Oper → St → (St → Prop) → Prop
  | [], s, K => K s
  | o :: r, s, K => operP X ops o s fun s' => opsP X ops r s' K

/-- what an operation of a drawn region came to -/
structure Done where
  i : Nat
  dst : Option Nat
  v : AVal
  news : List ABlk
def deadL : List ABlk → List ABlk
  | [] => []
  | _ :: r => .dead :: deadL r
def maskEnv (ps : List Nat) (env : Env) : List Done → Env
  | [] => env
  | d :: r => cond (elemN d.i ps) (putEnv d.dst d.v (maskEnv ps env r)) (maskEnv ps env r)
def maskEnvK (ps : List Nat) (env : Env) : List Done → (Env → Prop) → Prop
  | [], k => k env
  | d :: r, k => maskEnvK ps env r fun e => cond (elemN d.i ps) (putK d.dst d.v e k) (k e)
def maskHeap (ps : List Nat) (H : Hp) : List Done → Hp
  | [] => H
  | d :: r => maskHeap ps H r ++ cond (elemN d.i ps) d.news (deadL d.news)
def maskHeapK (ps : List Nat) (H : Hp) : List Done → (Hp → Prop) → Prop
  | [], k => k H
  | d :: r, k => maskHeapK ps H r fun H' => match d.news with
    | [] => k H'
    | n :: ns => joinK H' (cond (elemN d.i ps) (n :: ns) (deadL (n :: ns))) k
def doneV (j : Nat) : List Done → AVal
  | [] => .undef
  | d :: r => cond (Nat.beq j d.i) d.v (doneV j r)
def doneSet (j : Nat) (v : AVal) : List Done → List Done
  | [] => []
  | d :: r => cond (Nat.beq j d.i) (⟨d.i, d.dst, v, d.news⟩ :: r) (d :: doneSet j v r)
def undefs : List Oper → Env → Env
  | [], env => env
  | o :: r, env => putEnv o.dst .undef (undefs r env)
def newsK (K : AVal → List ABlk → Prop) (v : AVal) (e : Eff) : Prop := match e.sets with
  | [] => K v e.news
  | _ :: _ => False
def aliveB : ABlk → Bool
  | .dead => false
  | _ => true
/-- all addresses lead to the first blocks, or to live ones -/
def refsIn (base : Nat) (G : Hp) : List Nat → Bool
  | [] => true
  | k :: r => (Nat.blt k base || aliveB (hget k G)) && refsIn base G r
def refsBs : List ABlk → List Nat
  | [] => []
  | b :: r => refsB b ++ refsBs r
def refsE : Env → List Nat
  | [] => []
  | (_, v) :: r => refs v ++ refsE r
def drawOne (X : Cx) (env : Env) (H : Hp) (o : Oper) (ps : List Nat) (i : Nat) (D : List Done) (K : List Done → Prop) : Prop :=
  maskEnvK ps env D fun env' => maskHeapK ps H D fun H' => opP X o.op env' H' (newsK fun v n => chkP (refsIn H.length (H' ++ n) (refs v ++ refsBs n)) (K (⟨i, o.dst, v, n⟩ :: D)))
def drawP (X : Cx) (env : Env) (H : Hp) : List Oper → List (List Nat) → Nat → List Done → (List Done → Prop) → Prop
  | [], _, _, D, K => K D
  | _ :: _, [], _, _, _ => False
  | o :: r, ps :: pss, i, D, K => match o.guard with
    | none => drawOne X env H o ps i D fun D => drawP X env H r pss (i + 1) D K
    | some (j, want) => cond (elemN j ps) (match doneV j D with
      | .bool b => brP b
        (forceL (doneSet j (.bool true) D) fun D => cond want (drawOne X env H o ps i D fun D => drawP X env H r pss (i + 1) D K) (drawP X env H r pss (i + 1) (⟨i, o.dst, .tup [], []⟩ :: D) K))
        (forceL (doneSet j (.bool false) D) fun D => cond want (drawP X env H r pss (i + 1) (⟨i, o.dst, .tup [], []⟩ :: D) K) (drawOne X env H o ps i D fun D => drawP X env H r pss (i + 1) D K))
      | .tup [] => drawP X env H r pss (i + 1) (⟨i, o.dst, .tup [], []⟩ :: D) K
      | _ => False) False
def predsOk (ops : Array Oper) : Nat → List (List Nat) → Bool
  | _, [] => true
  | i, ps :: r => (match ops[i]? with
    | some o => match clos ops i (onsOf o) with
      | S => ps.all fun j => elemN j S
    | none => false) && predsOk ops (i + 1) r
def nthL (j : Nat) : List (List Nat) → List Nat
  | [] => []
  | a :: r => match j with
    | 0 => a
    | j + 1 => nthL j r
def subL : List Nat → List Nat → Bool
  | [], _ => true
  | k :: r, l => elemN k l && subL r l
def predsTrans (pss : List (List Nat)) : Nat → List (List Nat) → Bool
  | _, [] => true
  | i, ps :: r => allLt ps i && (ps.all fun j => subL (nthL j pss) ps) && predsTrans pss (i + 1) r
def regOk (ops : Array Oper) (nt nb : Nat) (pss : List (List Nat)) : Bool := predsTrans pss 0 pss && factsOk ops nb nt && seqTail ops nb && Nat.beq pss.length nb && predsOk ops 0 pss
/-! a drawn region in which what changes memory comes up one behind the other -/
def refs1 : AVal → List Nat
  | .sl b _ _ _ => [b]
  | .ptr b _ => [b]
  | _ => []
def refP : AVal → List Nat
  | .ptr b _ => [b]
  | _ => []
def operRefs (f : AVal → List Nat) (env : Env) (x : Operand) : List Nat := match oper env x with
  | some v => f v
  | none => []
/-- the blocks that an operation looks at which changes none; none: it may change some -/
def readRefs (env : Env) : Op → Option (List Nat)
  | .move _ => some []
  | .assign _ => some []
  | .pick _ _ _ => some []
  | .build _ _ => some []
  | .nilCheck _ => some []
  | .binOp _ _ _ _ _ => some []
  | .unOp _ _ _ => some []
  | .makeFunc _ _ _ => some []
  | .fieldAddr _ _ _ => some []
  | .field _ _ _ => some []
  | .indexAddr _ _ _ => some []
  | .index _ _ _ => some []
  | .extract _ _ => some []
  | .load _ a => some (operRefs refs1 env a)
  | .convert _ _ x => some (operRefs refs1 env x)
  | .slice _ x _ _ _ => some (operRefs refP env x)
  | .call c => match c.callee with
    | .builtin .len => some []
    | .builtin .min => some []
    | .builtin .max => some []
    | _ => none
  | _ => none
def keysOf : List (Nat × ABlk) → List Nat
  | [] => []
  | (k, _) :: r => k :: keysOf r
def pureK (e : Eff) (p : Prop) : Prop := match e.sets, e.news with
  | [], [] => p
  | _, _ => False
/-- does it stand on one side of each of these, in any order? -/
def settled (hards : List Nat) (pr : List (List Nat)) (i : Nat) : Bool := hards.all fun j => cond (Nat.blt j i) (elemN j (nthL i pr)) (cond (Nat.blt i j) (elemN i (nthL j pr)) true)
def chainOne (X : Cx) (env : Env) (o : Oper) (ps : List Nat) (i : Nat) (hard st : Bool) (D : List Done) (H : Hp) (S Rd : List Nat) (K : List Done → Hp → List Nat → List Nat → Prop) : Prop :=
  maskEnvK ps env D fun env' => cond hard
    (opP X o.op env' H fun v e => effK e H fun H' => K (⟨i, o.dst, v, []⟩ :: D) H' (keysOf e.sets ++ S) Rd)
    (match readRefs env' o.op with
      | some l => chkP (allLt l H.length) (opK (opF X.P o.op env' H) fun v e => pureK e (K (⟨i, o.dst, v, []⟩ :: D) H S (cond st Rd (l ++ Rd))))
      | none => False)
/-- what the slots hold as operation i is run: those of operations that wait for it are as they were -/
def undefsX (i : Nat) : List Oper → List (List Nat) → Env → Env
  | [], _, env => env
  | o :: r, [], env => putEnv o.dst .undef (undefsX i r [] env)
  | o :: r, ps :: pss, env => cond (elemN i ps) (undefsX i r pss env) (putEnv o.dst .undef (undefsX i r pss env))
def chainP (X : Cx) (base : Nat → Env) (hards : List Nat) (pr : List (List Nat)) : List Oper → List (List Nat) → Nat → List Done → Hp → List Nat → List Nat → (List Done → Hp → List Nat → List Nat → Prop) → Prop
  | [], _, _, D, H, S, Rd, K => K D H S Rd
  | _ :: _, [], _, _, _, _, _, _ => False
  | o :: r, ps :: pss, i, D, H, S, Rd, K => match o.guard with
    | none => forceL (base i) fun env => chainOne X env o ps i (elemN i hards) (settled hards pr i) D H S Rd fun D H S Rd => chainP X base hards pr r pss (i + 1) D H S Rd K
    | some (j, want) => cond (elemN j ps) (match doneV j D with
      | .bool b => brP b
        (forceL (doneSet j (.bool true) D) fun D => cond want (forceL (base i) fun env => chainOne X env o ps i (elemN i hards) (settled hards pr i) D H S Rd fun D H S Rd => chainP X base hards pr r pss (i + 1) D H S Rd K) (chainP X base hards pr r pss (i + 1) (⟨i, o.dst, .tup [], []⟩ :: D) H S Rd K))
        (forceL (doneSet j (.bool false) D) fun D => cond want (chainP X base hards pr r pss (i + 1) (⟨i, o.dst, .tup [], []⟩ :: D) H S Rd K) (forceL (base i) fun env => chainOne X env o ps i (elemN i hards) (settled hards pr i) D H S Rd fun D H S Rd => chainP X base hards pr r pss (i + 1) D H S Rd K))
      | .tup [] => chainP X base hards pr r pss (i + 1) (⟨i, o.dst, .tup [], []⟩ :: D) H S Rd K
      | _ => False) False
def disjL : List Nat → List Nat → Bool
  | [], _ => true
  | k :: r, l => !elemN k l && disjL r l
/-- the first operations write slots of their own, if any, and wait for earlier ones alone; the others wait for all of them -/
def factsOkC (ops : Array Oper) (nb n : Nat) : Bool :=
  decide (nb ≤ ops.size) &&
  ((List.range nb).all fun i => match ops[i]? with
    | none => false
    | some o => (match o.dst with | some d => decide (d < n) && ((List.range i).all fun j => dstOf ops j != some d) | none => true) &&
      (match o.guard with | some (j, _) => (dstOf ops j).isSome | none => true) &&
      (o.after.all fun e => !Region.binds .any e || decide (e.on < i))) &&
  ((List.range (ops.size - nb)).all fun k => match ops[nb + k]? with
    | none => false
    | some o => let S := clos ops nb (onsOf o); (List.range nb).all fun j => S.contains j)
/-- each of these is run after all of them that stand ahead of it -/
def hardsOk (hards : List Nat) (pss : List (List Nat)) : Bool := hards.all fun i => hards.all fun j => !Nat.blt j i || elemN j (nthL i pss)
def chainOk (ops : Array Oper) (nt nb : Nat) (hards : List Nat) (pss : List (List Nat)) : Bool := predsTrans pss 0 pss && factsOkC ops nb nt && seqTail ops nb && Nat.beq pss.length nb && predsOk ops 0 pss && hardsOk hards pss
def chainR (X : Cx) (ops : Array Oper) (nb : Nat) (hards : List Nat) (pss : List (List Nat)) (s : St) (K : St → Prop) : Prop :=
  chkP (chainOk ops X.nt nb hards pss) (chainP X (fun i => undefsX i (ops.toList.take nb) pss s.env) hards pss (ops.toList.take nb) pss 0 [] s.heap [] [] fun D H' S Rd =>
    chkP (disjL Rd S) (maskEnvK (D.map (·.i)) s.env D fun env' => opsP X ops.toList (ops.toList.drop nb) ⟨env', H'⟩ K))
def drawR (X : Cx) (ops : Array Oper) (nb : Nat) (pss : List (List Nat)) (s : St) (K : St → Prop) : Prop :=
  chkP (regOk ops X.nt nb pss)
      (chkP (allLt (refsE s.env) s.heap.length && allLt (refsBs s.heap) s.heap.length) (forceL (undefs (ops.toList.take nb) s.env) fun env0 => drawP X env0 s.heap (ops.toList.take nb) pss 0 [] fun D =>
        maskEnvK (D.map (·.i)) s.env D fun env' => maskHeapK (D.map (·.i)) s.heap D fun H' => opsP X ops.toList (ops.toList.drop nb) ⟨env', H'⟩ K))
/-! a region of operations that change no memory: values, each under a condition -/
structure PD where
  i : Nat
  dst : Option Nat
  v : AVal
  g : Bool
  ch : List (Nat × Bool)
def pairIn (j : Nat) (b : Bool) : List (Nat × Bool) → Bool
  | [] => false
  | (k, c) :: r => cond (Nat.beq j k && cond c b (!b)) true (pairIn j b r)
def subCh : List (Nat × Bool) → List (Nat × Bool) → Bool
  | [], _ => true
  | (j, b) :: r, l => pairIn j b l && subCh r l
def pMask (ps : List Nat) (ch : List (Nat × Bool)) (env0 : Env) : List PD → Env
  | [] => env0
  | d :: r => cond (elemN d.i ps && subCh d.ch ch) (putEnv d.dst d.v (pMask ps ch env0 r)) (pMask ps ch env0 r)
def pMaskK (ps : List Nat) (ch : List (Nat × Bool)) (env0 : Env) : List PD → (Env → Prop) → Prop
  | [], k => k env0
  | d :: r, k => pMaskK ps ch env0 r fun e => cond (elemN d.i ps && subCh d.ch ch) (putK d.dst d.v e k) (k e)
def pFind (j : Nat) : List PD → Option PD
  | [] => none
  | d :: r => cond (Nat.beq j d.i) (some d) (pFind j r)
def pDst (t : Nat) : List PD → Option PD
  | [] => none
  | d :: r => match d.dst with
    | some u => cond (Nat.beq t u) (some d) (pDst t r)
    | none => pDst t r
def pickV (t : Bool) (x y : AVal) : Option AVal := match x, y with
  | .bool u, .bool v => some (.bool (cond t u v))
  | .int k a, .int k' b => match kindEq k k' with
    | true => some (.int k (cond t a b))
    | false => none
  | .byte a, .byte b => some (.byte (cond t a b))
  | .str a, .str b => some (.str (cond t a b))
  | _, _ => none
def pGuard (ps : List Nat) (D : List PD) (o : Oper) : Option (Bool × List (Nat × Bool)) := match o.guard with
  | none => some (true, [])
  | some (j, want) => cond (elemN j ps) (match pFind j D with
    | some d => match d.v with
      | .bool b => some (cond d.g (cond want b (!b)) false, (j, want) :: d.ch)
      | _ => none
    | none => none) none
def impP (g : Bool) (p : Prop) : Prop := g = true → p
def impK (g : Bool) (p : Option Prop) (q : Prop) : Prop := match p with
  | none => q
  | some p => impP g p ∧ q
def pEvalK (P : Program) (op : Op) (env0 : Env) (H : Hp) (ps : List Nat) (ch : List (Nat × Bool)) (D : List PD) (k : Option Prop → AVal → Prop) : Prop := match op with
  | .pick (.tmp c) a b => match pDst c D with
    | some e => cond (elemN e.i ps && subCh e.ch ch) (match e.v with
      | .bool t => pMaskK ps ((e.i, true) :: ch) env0 D fun e1 => pMaskK ps ((e.i, false) :: ch) env0 D fun e2 => match oper e1 a, oper e2 b with
        | some x, some y => match pickV t x y with
          | some v => k none v
          | none => False
        | _, _ => False
      | _ => False) False
    | none => False
  | op => pMaskK ps ch env0 D fun e => match readRefs e op with
    | some _ => match opF P op e H with
      | some ⟨p, v, ⟨[], []⟩⟩ => k p v
      | _ => False
    | none => False
def pureP (P : Program) (env0 : Env) (H : Hp) : List Oper → List (List Nat) → Nat → List PD → (List PD → Prop) → Prop
  | [], _, _, D, K => K D
  | _ :: _, [], _, _, _ => False
  | o :: r, ps :: pss, i, D, K => match pGuard ps D o with
    | some (g, ch) => pEvalK P o.op env0 H ps ch D fun p v => impK g p (forceV v fun v => pureP P env0 H r pss (i + 1) (⟨i, o.dst, v, g, ch⟩ :: D) K)
    | none => False
def pLast (d : PD) : AVal := match d.ch with
  | [] => d.v
  | _ :: _ => .undef
def pEnd (env : Env) : List PD → Env
  | [] => env
  | d :: r => putEnv d.dst (pLast d) (pEnd env r)
def pEndK (env : Env) : List PD → (Env → Prop) → Prop
  | [], k => k env
  | d :: r, k => pEndK env r fun e => forceV (pLast d) fun v => putK d.dst v e k
def pureOk (draw : Bool) (ops : Array Oper) (nt nb : Nat) (pss : List (List Nat)) : Bool :=
  predsTrans pss 0 pss && factsOkC ops nb nt && Nat.beq pss.length nb && cond draw (seqTail ops nb && predsOk ops 0 pss) true
def pureR (X : Cx) (ops : Array Oper) (draw : Bool) (nb : Nat) (pss : List (List Nat)) (s : St) (K : St → Prop) : Prop :=
  chkP (pureOk draw ops X.nt nb pss) (forceL (undefs (ops.toList.take nb) s.env) fun env0 => pureP X.P env0 s.heap (ops.toList.take nb) pss 0 [] fun D =>
    pEndK s.env D fun env' => opsP X ops.toList (ops.toList.drop nb) ⟨env', s.heap⟩ K)
def oldR (X : Cx) (id : Nat) (ops : Array Oper) (draw : Bool) (s : St) (K : St → Prop) : Prop := match draw with
  | false => opsP X ops.toList ops.toList s K
  | true => match X.ann id with
    | (_, nb, pss) => match pss with
      | [] => drawR X ops nb [] s K
      | ps :: r => cond (Nat.beq r.length nb) (chainR X ops nb ps r s K) (drawR X ops nb (ps :: r) s K)
/-- stores that wait for some moves of slots, too -/
def lateP : List Nat → Array Oper → (Array Oper → Prop) → Prop
  | [], ops, K => K ops
  | k :: r, ops, K => chkP (lateOk k ops) (lateP r (late k ops) K)
def region1 (X : Cx) (id : Nat) (ops : Array Oper) (draw : Bool) (s : St) (K : St → Prop) : Prop := match (X.ann (id + 2000000)).2.1 with
  | 0 => oldR X id ops draw s K
  | nb + 1 => pureR X ops draw nb (X.ann (id + 2000000)).2.2 s K

def region0 (X : Cx) (id : Nat) (ops : Array Oper) (draw : Bool) (s : St) (K : St → Prop) : Prop := match (X.ann (id + 3000000)).1 with
  | [] => region1 X id ops draw s K
  | k :: r => cond draw (lateP (k :: r) ops fun ops' => oldR X id ops' true s K) False
/-- ahead of a region: a cell of a block that a slot points to. 0: a slice of nothing is a row of its own from now on; 1: the row that the cell leads to is only read from now on; 2: a block of values without addresses may be written to -/
def hook1 (kd t j sz : Nat) (s : St) (K : St → Prop) : Prop := match eget t s.env with
  | .ptr b _ => match hget b s.heap with
    | .vals cs => match takeN j cs, dropN j cs with
      | some l, some (v :: r) => match v with
        | .nilS => match kd with
          | 0 => forceL (hset b (.vals (l ++ .sl s.heap.length 0 0 sz :: r)) (s.heap ++ [.flat []])) fun H => K ⟨s.env, H⟩
          | _ + 1 => forceL (hset b (.vals (l ++ .ro 0 sz (fun _ => []) :: r)) s.heap) fun H => K ⟨s.env, H⟩
        | .sl k off len sz' => cond (Nat.beq k b) False (match snapC [] s.heap (.sl k off len sz') with
          | some v' => forceL (hset b (.vals (l ++ v' :: r)) (hset k .dead s.heap)) fun H => K ⟨s.env, H⟩
          | none => False)
        | _ => False
      | _, _ => False
    | .flat cs => match kd with
      | 2 => forceL (hset b (.vals cs) s.heap) fun H => K ⟨s.env, H⟩
      | _ => False
    | _ => False
  | _ => False
def hookP : List Nat → St → (St → Prop) → Prop
  | kd :: t :: j :: sz :: r, s, K => hook1 kd t j sz s fun s' => hookP r s' K
  | _, s, K => K s
/-- an operation; a sum of numbers may be too large -/
def operW (X : Cx) (ops : List Oper) (o : Oper) (s : St) (K : St → Prop) : Prop := match o.op with
  | .binOp .add _ x y _ => match oper s.env x, oper s.env y with
    | some (.int .i64 a), some (.int .i64 b) => cond (dstOk X.nt o.dst && o.guard.isNone) (putK o.dst (.int .i64 (IntKind.i64.wrap (a + b))) s.env fun env' => K ⟨env', s.heap⟩) False
    | _, _ => False
  | _ => operP X ops o s K
def opsW (X : Cx) (ops : List Oper) : List Oper → St → (St → Prop) → Prop
  | [], s, K => K s
  | o :: r, s, K => operW X ops o s fun s' => opsW X ops r s' K
def regionP (X : Cx) (id : Nat) (ops : Array Oper) (draw : Bool) (s : St) (K : St → Prop) : Prop := match (X.ann (id + 4000000)).2.1 with
  | 0 => match (X.ann (id + 4000000)).1 with
    | [] => region0 X id ops draw s K
    | k :: r => hookP (k :: r) s fun s' => region0 X id ops draw s' K
  | _ + 1 => cond draw False (opsW X ops.toList ops.toList s K)

/-! ### code -/
def refsLow : Nat → Hp → List Nat
  | 0, _ => []
  | _, [] => []
  | n + 1, b :: r => refsB b ++ refsLow n r
def seek (H : Hp) (n0 : Nat) (vs : List AVal) : List Nat := reach H 200 (refsLow n0 H ++ refsL vs) (List.range n0)
def egets (env : Env) : List Nat → List AVal
  | [] => []
  | t :: r => eget t env :: egets env r
def zipEnv : List Nat → List AVal → Env
  | t :: ts, v :: vs => (t, v) :: zipEnv ts vs
  | _, _ => []
def normEnv (S live : List Nat) (s : St) : Env := zipEnv live (renL (fun k => idxO k S) (egets s.env live))
/-- cells without addresses -/
def flatB (b : ABlk) : ABlk := match b with
  | .vals cs => cond (closedL cs) (.flat cs) (.vals cs)
  | b => b
/-- .. from a block on -/
def flatN : Nat → Hp → Hp
  | _, [] => []
  | 0, b :: r => flatB b :: flatN 0 r
  | n + 1, b :: r => b :: flatN n r
/-- the state with what is needed alone; 999999 among the slots: rows without addresses are taken as such -/
def normK (n0 : Nat) (live : List Nat) (s : St) (k : St → Prop) : Prop :=
  forceL (seek s.heap n0 (egets s.env live)) fun S => forceL (normEnv S live s) fun env => forceL (subHeap (fun k => idxO k S) s.heap S) fun H => cond (elemN 999999 live) (forceL (flatN n0 H) fun H => k ⟨env, H⟩) (k ⟨env, H⟩)
def flatC (n0 : Nat) (live : List Nat) (H : Hp) : Hp := cond (elemN 999999 live) (flatN n0 H) H
def firstReg : Code → Nat
  | .region id _ _ => id
  | .seq a _ => firstReg a
  | .block _ b => firstReg b
  | .loop b => firstReg b
  | .scope b => firstReg b
  | .cond _ a _ => firstReg a
  | _ => 0
abbrev Post := AExit → St → Prop
def seqK (k : St → Prop) (K : Post) : Post
  | .normal, s => k s
  | e, s => K e s
def blockK (id : Nat) (K : Post) : Post
  | .exit j, s => cond (Nat.beq j id) (K .normal s) (K (.exit j) s)
  | e, s => K e s
def loopP (step : St → Post → Prop) (n0 : Nat) (live : List Nat) : Nat → St → Post → Prop
  | 0, _, _ => False
  | n + 1, s, K => step s (seqK (fun s' => normK n0 live s' fun s' => loopP step n0 live n s' K) K)
/-- some number of rounds, or a given one -/
def fuelP : Nat → (Nat → Prop) → Prop
  | 0, f => ∃ n, f n
  | k + 1, f => f (k + 1)
theorem fuelP_ex {k : Nat} {f : Nat → Prop} (h : fuelP k f) : ∃ n, f n := by
  cases k with
  | zero => exact h
  | succ k => exact ⟨k + 1, h⟩
def setTmp (c : Operand) (b : Bool) (s : St) : St := match c with
  | .tmp t => ⟨(t, .bool b) :: s.env, s.heap⟩
  | _ => s
def awp (X : Cx) : Code → St → Post → Prop
  | .skip, s, K => K .normal s
  | .label _, s, K => K .normal s
  | .region id ops draw, s, K => regionP X id ops draw s (K .normal)
  | .seq a b, s, K => awp X a s (seqK (fun s' => awp X b s' K) K)
  | .cond c a b, s, K => match oper s.env c with
    | some (.bool t) => brP t (awp X a (setTmp c true s) K) (awp X b (setTmp c false s) K)
    | _ => False
  | .block id b, s, K => awp X b s (blockK id K)
  | .loop b, s, K => normK X.n0 (X.ann (firstReg b)).1 s fun s' => fuelP (X.ann (firstReg b + 1000000)).2.1 fun n => loopP (awp X b) X.n0 (X.ann (firstReg b)).1 n s' K
  | .scope b, s, K => awp X b s K
  | .exit id, s, K => K (.exit id) s
  | .ret, s, K => K .ret s
  | _, _, _ => False

/-! ### functions -/
def andO : Option Prop → Option Prop → Option Prop
  | none, q => q
  | some p, none => some p
  | some p, some q => some (p ∧ q)
def resF (P : Program) (s : St) : List ResultVar → Option (Option Prop × List AVal)
  | [] => some (none, [])
  | .tmp t :: r => match resF P s r with
    | some (p, l) => some (p, eget t s.env :: l)
    | none => none
  | .cell a t :: r => match loadF P s.heap t (eget a s.env), resF P s r with
    | some (q, v), some (p, l) => some (andO q p, v :: l)
    | _, _ => none
def retV : List AVal → AVal
  | [v] => v
  | vs => .tup vs
/-- the result, and of the heap what is reached -/
def retK (n0 : Nat) (H : Hp) (K : AVal → Hp → Prop) (v : AVal) : Prop := forceL (seek H n0 [v]) fun S => K (ren (fun k => idxO k S) v) (subHeap (fun k => idxO k S) H S)
def endK (P : Program) (n0 : Nat) (rs : List ResultVar) (K : AVal → Hp → Prop) (s : St) : Prop := match resF P s rs with
  | some (p, vs) => andP p (retK n0 s.heap K (retV vs))
  | none => False
def fnK (P : Program) (n0 : Nat) (rs : List ResultVar) (K : AVal → Hp → Prop) : Post
  | .normal, s => endK P n0 rs K s
  | .ret, s => endK P n0 rs K s
  | _, _ => False
def argEnv : Nat → List AVal → Env
  | _, [] => []
  | i, v :: r => (i, v) :: argEnv (i + 1) r
def fnP (P : Program) (T : Specs) (ann : Nat → List Nat × Nat × List (List Nat)) (fn : Func) (args : List AVal) (H : Hp) (K : AVal → Hp → Prop) : Prop := match fn.body with
  | some c => cond (Nat.ble args.length fn.ntmps) (awp ⟨P, T, fn.ntmps, H.length, ann⟩ c ⟨argEnv 0 args, H⟩ (fnK P H.length fn.results.toList K)) False
  | none => False

end Go.Proofs.Ytnbbaemijogeoaa.Ae
