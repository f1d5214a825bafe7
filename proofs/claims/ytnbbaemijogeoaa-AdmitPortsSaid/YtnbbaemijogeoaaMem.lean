/- How slices of bytes, and slices of these, lie in memory. -/
import Derived.Test.YtnbbaemijogeoaaMa
import Derived.Deep.Draws
import Derived.Deep.QuietTactic
import Derived.Laws.AppendOwn
import Derived.Laws.OwnMore
import Derived.ArgAppend
namespace Go.Proofs.Ytnbbaemijogeoaa
open Go.RowKit

theorem hid {p : Prop} (h : p) : Hid p := h

/-- A byte as a value. -/
abbrev B8 (x : UInt8) : Value := .int .u8 (x.toNat : Int)

/-- The slice value at 'a', with length 'n' and capacity 'cap', holds the values 'vs' in world 'w'. -/
structure Row (w : World) (a : Option Addr) (n cap : Nat) (vs : List Value) : Prop where
  len : n = vs.length
  le : n ≤ cap
  room : n ≤ 140737488355328
  capr : cap ≤ 9223372036854775807
  cells : 0 < n → ∃ b off, a = some ⟨b, off, none⟩ ∧ ∀ i, i < n → w.cell? ⟨b, off + i, none⟩ = some (vs.getD i undef)

/-- .. the bytes 'l'. -/
def Bytes (w : World) (a : Option Addr) (n cap : Nat) (l : List UInt8) : Prop := Row w a n cap (l.map B8)

theorem Bytes.len {w : World} {a : Option Addr} {n cap : Nat} {l : List UInt8} (h : Bytes w a n cap l) : n = l.length := by
  simpa using Row.len h

theorem Bytes.at {w : World} {a : Option Addr} {n cap : Nat} {l : List UInt8} (h : Bytes w a n cap l) (hp : 0 < n) :
    ∃ b off, a = some ⟨b, off, none⟩ ∧ ∀ i, i < n → w.cell? ⟨b, off + i, none⟩ = some (.int .u8 ((l.getD i 0).toNat : Int)) := by
  obtain ⟨b, off, ha, hc⟩ := Row.cells h hp
  refine ⟨b, off, ha, fun i hi => ?_⟩
  rw [hc i hi]
  have hl := h.len
  have : i < l.length := by omega
  simp [List.getD_eq_getElem?_getD, List.getElem?_map, List.getElem?_eq_getElem this]

theorem Bytes.empty (w : World) (a : Option Addr) (c : Nat) (h : c ≤ 9223372036854775807) : Bytes w a 0 c [] := ⟨rfl, Nat.zero_le _, by omega, h, fun h => by omega⟩
theorem Bytes.nil (w : World) : Bytes w none 0 0 [] := ⟨rfl, Nat.le_refl _, by omega, by omega, fun h => by omega⟩

/-- A slice of slices of bytes. -/
structure Parts (w : World) (a : Option Addr) (n cap : Nat) (ls : List (List UInt8)) : Prop where
  len : n = ls.length
  cells : 0 < n → ∃ b off, a = some ⟨b, off, none⟩ ∧ ∀ i, i < n → ∃ x m c, w.cell? ⟨b, off + i, none⟩ = some (.slice x m c) ∧ Bytes w x m c (ls.getD i [])

theorem Row.of_cells {w w' : World} {a : Option Addr} {n cap : Nat} {vs : List Value} (h : Row w a n cap vs)
    (hc : ∀ p v, w.cell? p = some v → w'.cell? p = some v) : Row w' a n cap vs := by
  refine ⟨h.len, h.le, h.room, h.capr, fun hp => ?_⟩
  obtain ⟨b, off, ha, hcell⟩ := h.cells hp
  exact ⟨b, off, ha, fun i hi => hc _ _ (hcell i hi)⟩

theorem cell_lt {w : World} {p : Addr} {v : Value} (h : w.cell? p = some v) : p.block < w.heap.size := by
  unfold World.cell? at h
  split at h
  · rename_i hh
    exact (Array.getElem?_eq_some_iff.1 hh).1
  · exact absurd h (by simp)

theorem cell_below {w w' : World} (hb : Below w.heap.size w w') {p : Addr} {v : Value} (h : w.cell? p = some v) : w'.cell? p = some v := by
  rw [hb.cell (cell_lt h)]; exact h

theorem Row.below {w w' : World} {a : Option Addr} {n cap : Nat} {vs : List Value} (h : Row w a n cap vs) (hb : Below w.heap.size w w') : Row w' a n cap vs :=
  h.of_cells fun _ _ hc => cell_below hb hc
theorem Bytes.below {w w' : World} {a : Option Addr} {n cap : Nat} {l : List UInt8} (h : Bytes w a n cap l) (hb : Below w.heap.size w w') : Bytes w' a n cap l :=
  Row.below h hb

theorem below_alloc (w : World) (o : Obj) : Below w.heap.size w (w.alloc o) := (Below.refl _ _).alloc (Nat.le_refl _) o
theorem Row.alloc {w : World} {a : Option Addr} {n cap : Nat} {vs : List Value} (h : Row w a n cap vs) (o : Obj) : Row (w.alloc o) a n cap vs := h.below (below_alloc w o)
theorem Bytes.alloc {w : World} {a : Option Addr} {n cap : Nat} {l : List UInt8} (h : Bytes w a n cap l) (o : Obj) : Bytes (w.alloc o) a n cap l := h.below (below_alloc w o)

theorem Row.new (w : World) (cs : Array Value) (e : TypeId) (b n : Nat) (vs : List Value) (hb : b = w.heap.size) (hn : n = vs.length) (hcs : cs = vs.toArray) (hr : n ≤ 140737488355328) :
    Row (w.alloc (.cells cs e)) (some ⟨b, 0, none⟩) n n vs := by
  subst hb; subst hcs
  refine ⟨hn, Nat.le_refl _, by omega, by omega, fun _ => ⟨w.heap.size, 0, rfl, fun i hi => ?_⟩⟩
  rw [Nat.zero_add, World.cell?_alloc_new]
  have : i < vs.length := by omega
  simp [List.getD_eq_getElem?_getD, List.getElem?_eq_getElem this]
theorem Bytes.new (w : World) (cs : Array Value) (e : TypeId) (b n : Nat) (l : List UInt8) (hb : b = w.heap.size) (hn : n = l.length) (hcs : cs = (l.map B8).toArray) (hr : n ≤ 140737488355328) :
    Bytes (w.alloc (.cells cs e)) (some ⟨b, 0, none⟩) n n l := Row.new w cs e b n _ hb (by simpa using hn) hcs hr

/-- What was there is as it was. -/
def Ext (w w' : World) : Prop := Below w.heap.size w w'
theorem Ext.refl (w : World) : Ext w w := Below.refl _ _
theorem Ext.trans {a b c : World} (h : Ext a b) (k : Ext b c) : Ext a c := Below.trans h (Below.mono k h.size)
theorem Ext.alloc {a b : World} (h : Ext a b) (o : Obj) : Ext a (b.alloc o) := h.trans (below_alloc b o)
theorem Ext.drew {a b : World} (h : Ext a b) : Ext a b.drew := h.trans ((Below.refl _ b).drew)
theorem Ext.drewN {a b : World} (h : Ext a b) (n : Nat) : Ext a (b.drewN n) := h.trans ⟨rfl, rfl, rfl, Nat.le_refl _, fun _ _ => rfl⟩
theorem Ext.set {a b : World} (h : Ext a b) {p : Addr} (hp : a.heap.size ≤ p.block) (v : Value) : Ext a (b.setCell p v) := Below.setCell h hp v
theorem Ext.of_below {w w' : World} (h : Below w.heap.size w w') : Ext w w' := h
theorem Ext.below {w w' : World} (h : Ext w w') : Below w.heap.size w w' := h
theorem Bytes.ext {w w' : World} {a : Option Addr} {n cap : Nat} {l : List UInt8} (h : Bytes w a n cap l) (hb : Ext w w') : Bytes w' a n cap l := h.below hb

/-- Slices of bytes, one beside the other. -/
inductive Each (w : World) : List Value → List (List UInt8) → Prop
  | nil : Each w [] []
  | cons {x : Option Addr} {m c : Nat} {l : List UInt8} {vs : List Value} {ls : List (List UInt8)} : Bytes w x m c l → Each w vs ls → Each w (.slice x m c :: vs) (l :: ls)

theorem Each.length {w : World} {vs : List Value} {ls : List (List UInt8)} (h : Each w vs ls) : vs.length = ls.length := by
  induction h with
  | nil => rfl
  | cons _ _ ih => simp [ih]
theorem Each.get {w : World} {vs : List Value} {ls : List (List UInt8)} (h : Each w vs ls) : ∀ i, i < vs.length → ∃ x m c, vs.getD i undef = .slice x m c ∧ Bytes w x m c (ls.getD i []) := by
  induction h with
  | nil => intro i hi; simp at hi
  | cons hb _ ih =>
    intro i hi
    cases i with
    | zero => exact ⟨_, _, _, rfl, hb⟩
    | succ i => simpa using ih i (by simpa using hi)
theorem Each.old {w w' : World} {vs : List Value} {ls : List (List UInt8)} (h : Each w vs ls) (hb : Below w.heap.size w w') : Each w' vs ls := by
  induction h with
  | nil => exact .nil
  | cons h1 _ ih => exact .cons (h1.below hb) ih

theorem Parts.new (w : World) (cs : Array Value) (e : TypeId) (b n : Nat) (vs : List Value) (ls : List (List UInt8)) (h : Each w vs ls) (hb : b = w.heap.size) (hn : n = vs.length) (hcs : cs = vs.toArray) :
    Parts (w.alloc (.cells cs e)) (some ⟨b, 0, none⟩) n n ls := by
  subst hb; subst hcs
  refine ⟨by rw [hn, h.length], fun _ => ⟨w.heap.size, 0, rfl, fun i hi => ?_⟩⟩
  obtain ⟨x, m, c, h1, h2⟩ := h.get i (by omega)
  refine ⟨x, m, c, ?_, h2.alloc _⟩
  rw [Nat.zero_add, World.cell?_alloc_new, ← h1]
  have : i < vs.length := by omega
  simp [List.getD_eq_getElem?_getD, List.getElem?_eq_getElem this]
theorem Parts.one {w : World} {x : Option Addr} {m c : Nat} {l : List UInt8} (h : Bytes w x m c l) (e : TypeId) {b : Nat} (hb : b = w.heap.size) :
    Parts (w.alloc (.cells #[.slice x m c] e)) (some ⟨b, 0, none⟩) 1 1 [l] := Parts.new w _ e b 1 _ _ (.cons h .nil) hb rfl rfl
theorem Parts.two {w : World} {x y : Option Addr} {m c n d : Nat} {l k : List UInt8} (h : Bytes w x m c l) (h' : Bytes w y n d k) (e : TypeId) {b : Nat} (hb : b = w.heap.size) :
    Parts (w.alloc (.cells #[.slice x m c, .slice y n d] e)) (some ⟨b, 0, none⟩) 2 2 [l, k] := Parts.new w _ e b 2 _ _ (.cons h (.cons h' .nil)) hb rfl rfl
theorem Parts.three {w : World} {x y z : Option Addr} {m c n d p q : Nat} {l k r : List UInt8} (h : Bytes w x m c l) (h' : Bytes w y n d k) (h'' : Bytes w z p q r) (e : TypeId) {b : Nat} (hb : b = w.heap.size) :
    Parts (w.alloc (.cells #[.slice x m c, .slice y n d, .slice z p q] e)) (some ⟨b, 0, none⟩) 3 3 [l, k, r] := Parts.new w _ e b 3 _ _ (.cons h (.cons h' (.cons h'' .nil))) hb rfl rfl

theorem Parts.ext {w w' : World} {a : Option Addr} {n cap : Nat} {ls : List (List UInt8)} (h : Parts w a n cap ls) (hb : Ext w w') : Parts w' a n cap ls := by
  refine ⟨h.len, fun hp => ?_⟩
  obtain ⟨b, off, ha, hc⟩ := h.cells hp
  refine ⟨b, off, ha, fun i hi => ?_⟩
  obtain ⟨x, m, c, h1, h2⟩ := hc i hi
  exact ⟨x, m, c, cell_below hb h1, h2.ext hb⟩
theorem Parts.alloc {w : World} {a : Option Addr} {n cap : Nat} {ls : List (List UInt8)} (h : Parts w a n cap ls) (o : Obj) : Parts (w.alloc o) a n cap ls := h.ext (below_alloc w o)

/-- A part of a slice of bytes. -/
theorem Bytes.sub {w : World} {b off n cap : Nat} {l : List UInt8} (h : Bytes w (some ⟨b, off, none⟩) n cap l) (lo hi off' n' cap' : Nat) (h1 : lo ≤ hi) (h2 : hi ≤ n) (ho : lo < hi → off' = off + lo) (hn : n' = hi - lo) (hc : n' ≤ cap' ∧ cap' ≤ cap) :
    Bytes w (some ⟨b, off', none⟩) n' cap' ((l.take hi).drop lo) := by
  have hl := h.len
  have hr := h.room
  have hcr := h.capr
  have hlen : ((l.take hi).drop lo).length = hi - lo := by simp; omega
  refine ⟨by simp; omega, by omega, by omega, by omega, fun hp => ⟨b, off', rfl, fun i hi' => ?_⟩⟩
  obtain ⟨b', off2, hb', hcell⟩ := h.at (by omega)
  simp only [Option.some.injEq, Addr.mk.injEq] at hb'
  obtain ⟨rfl, rfl, _⟩ := hb'
  have h3 := hcell (lo + i) (by omega)
  rw [ho (by omega), Nat.add_assoc, h3]
  have h4 : i < ((l.take hi).drop lo).length := by omega
  have h5 : lo + i < l.length := by omega
  simp only [List.getD_eq_getElem?_getD, List.getElem?_map, List.getElem?_eq_getElem h4, List.getElem?_eq_getElem h5, Option.map_some, Option.getD_some, List.getElem_drop, List.getElem_take]

/-- .. as the walk writes it. -/
theorem Bytes.subIf {w : World} {b off n cap : Nat} {l : List UInt8} (h : Bytes w (some ⟨b, off, none⟩) n cap l) (lo hi : Nat) (h1 : lo ≤ hi) (h2 : hi ≤ n) :
    Bytes w (if cap = lo then some ⟨b, off, none⟩ else some ⟨b, off + lo, none⟩) (hi - lo) (cap - lo) ((l.take hi).drop lo) := by
  have hle := h.le
  split
  · exact h.sub lo hi off _ _ h1 h2 (fun h => by omega) rfl (by omega)
  · exact h.sub lo hi (off + lo) _ _ h1 h2 (fun _ => rfl) rfl (by omega)

theorem Bytes.take {w : World} {a : Option Addr} {n cap : Nat} {l : List UInt8} (h : Bytes w a n cap l) (m : Nat) (hm : m ≤ n) : Bytes w a m cap (l.take m) := by
  have hl := h.len
  refine ⟨by simp; omega, by have := h.le; omega, by have := h.room; omega, h.capr, fun hp => ?_⟩
  obtain ⟨b, off, ha, hc⟩ := Row.cells h (by omega)
  refine ⟨b, off, ha, fun i hi => ?_⟩
  rw [hc i (by omega)]
  simp only [List.getD_eq_getElem?_getD, List.map_take, List.getElem?_take]
  rw [if_pos hi]

theorem results_cell1 {fn : Func} {p : Tmp} {ty : TypeId} (h : fn.results = #[.cell p ty]) (tmps : Array Value) (P : Program) (w : World) :
    (results fn tmps).run P w = ((asAddr (tmps.getD p undef)).run P w).andThen fun a w₁ => (loadVar ty a).run P w₁ := by
  simp only [results, h]
  simp [Sem.run_bind, Result.andThen]

/-- At most some orders have been drawn. -/
def Drew (w w' : World) : Prop := ∃ q, w' = w.drewN q
theorem Drew.refl (w : World) : Drew w w := ⟨0, rfl⟩
theorem Drew.of_eq {w w' : World} (h : w = w') : Drew w w' := h ▸ Drew.refl w
theorem Drew.trans {a b c : World} (h : Drew a b) (k : Drew b c) : Drew a c := by
  obtain ⟨p, rfl⟩ := h; obtain ⟨q, rfl⟩ := k; exact ⟨p + q, by rw [World.drewN_drewN]⟩
theorem Drew.drew {a b : World} (h : Drew a b) : Drew a b.drew := h.trans ⟨1, rfl⟩
theorem Drew.drewN {a b : World} (h : Drew a b) (n : Nat) : Drew a (b.drewN n) := h.trans ⟨n, rfl⟩
theorem Drew.below {a b : World} (h : Drew a b) (B : Nat) : Below B a b := by
  obtain ⟨p, rfl⟩ := h; exact ⟨rfl, rfl, rfl, Nat.le_refl _, fun _ _ => rfl⟩
theorem Drew.cell {a b : World} (h : Drew a b) (p : Addr) : b.cell? p = a.cell? p := by
  obtain ⟨q, rfl⟩ := h; rfl
theorem Drew.heap {a b : World} (h : Drew a b) : b.heap = a.heap := by
  obtain ⟨q, rfl⟩ := h; rfl
theorem Row.drew {w w' : World} {a : Option Addr} {n cap : Nat} {vs : List Value} (h : Row w a n cap vs) (hd : Drew w w') : Row w' a n cap vs :=
  h.of_cells fun p v hc => by rw [hd.cell]; exact hc
theorem Bytes.drew {w w' : World} {a : Option Addr} {n cap : Nat} {l : List UInt8} (h : Bytes w a n cap l) (hd : Drew w w') : Bytes w' a n cap l := Row.drew h hd

/-- A callee that only draws, met inside a region that draws its order. -/
theorem quiet_of {P : Program} {f : FuncId} {args : Array Value} {w : World} {n : Nat} {v : Value}
    (h : Calls P f args (w.drewN n) fun e w' => e = .returned v ∧ Drew (w.drewN n) w') : Calls P f args (w.drewN n) fun e w'' => e = .returned v ∧ ∃ m, w'' = w.drewN m :=
  h.mono fun _ _ ⟨he, m, hm⟩ => ⟨he, n + m, by rw [hm, World.drewN_drewN]⟩
theorem quiet_eq {P : Program} {f : FuncId} {args : Array Value} {w : World} {n : Nat} {v : Value}
    (h : Calls P f args (w.drewN n) fun e w' => e = .returned v ∧ w.drewN n = w') : Calls P f args (w.drewN n) fun e w'' => e = .returned v ∧ ∃ m, w'' = w.drewN m :=
  h.mono fun _ _ ⟨he, hm⟩ => ⟨he, n, hm.symm⟩

/-- A value that is a slice of bytes, of parts. -/
def BytesV (l : List UInt8) (v : Value) (w : World) : Prop := ∃ a n c, v = .slice a n c ∧ Bytes w a n c l
def PartsV (ls : List (List UInt8)) (v : Value) (w : World) : Prop := ∃ a n c, v = .slice a n c ∧ n ≤ 1000 ∧ Parts w a n c ls
theorem BytesV.ext {l : List UInt8} {v : Value} {w w' : World} (h : BytesV l v w) (hx : Ext w w') : BytesV l v w' := by
  obtain ⟨a, n, c, h1, h2⟩ := h; exact ⟨a, n, c, h1, h2.ext hx⟩
theorem PartsV.ext {ls : List (List UInt8)} {v : Value} {w w' : World} (h : PartsV ls v w) (hx : Ext w w') : PartsV ls v w' := by
  obtain ⟨a, n, c, h1, h2, h3⟩ := h; exact ⟨a, n, c, h1, h2, h3.ext hx⟩

/-- A slice of bytes that the call made for itself: its row lies from block B on, and nobody else has it. -/
def OwnB (e : TypeId) (w : World) (B : Nat) (v : Value) (l : List UInt8) : Prop := w.ownsRow B e 1 v l.length (l.map B8)

theorem OwnB.nil (e : TypeId) (w : World) (B : Nat) : OwnB e w B (.slice none 0 0) [] := World.ownsRow_nil w B e 1
theorem OwnB.new (w : World) (B : Nat) (e : TypeId) (cs : Array Value) (b n : Nat) (l : List UInt8) (hB : B ≤ w.heap.size) (hb : b = w.heap.size) (hn : n = l.length) (hcs : cs = (l.map B8).toArray) (hr : n ≤ 140737488355328) :
    OwnB e (w.alloc (.cells cs e)) B (.slice (some ⟨b, 0, none⟩) n n) l := by
  subst hb; subst hn; subst hcs
  have := World.ownsRow_lit (base := B) (e := e) (size := 1) w (l.map B8).toArray l.length hB (by simp only [maxLen]; omega) (by simp)
  simpa [OwnB] using this
theorem OwnB.mono {e : TypeId} {w : World} {B B' : Nat} {v : Value} {l : List UInt8} (h : OwnB e w B v l) (hB : B' ≤ B) : OwnB e w B' v l := by
  obtain ⟨h1, h2⟩ := h
  refine ⟨h1, ?_⟩
  rcases h2 with h2 | ⟨g, cap, cur, hv, hg, r⟩
  · exact .inl h2
  · exact .inr ⟨g, cap, cur, hv, by omega, r⟩
theorem grownBy_of_below {w w' : World} (h : Below w.heap.size w w') (row : Option Nat) : w.grownBy w' row := ⟨h.os, h.tape, h.output, h.size, fun k hk _ => h.block k hk⟩
theorem OwnB.ext {e : TypeId} {w w' : World} {B : Nat} {v : Value} {l : List UInt8} (h : OwnB e w B v l) (hx : Ext w w') : OwnB e w' B v l :=
  World.ownsRow.kept h (grownBy_of_below hx none) (by cases v.ownBlock <;> simp)
theorem OwnB.bytes {e : TypeId} {w : World} {B : Nat} {v : Value} {l : List UInt8} (h : OwnB e w B v l) (hl : l.length ≤ 140737488355328) : ∃ a c, v = .slice a l.length c ∧ Bytes w a l.length c l := by
  have h' := h
  rcases h.2 with ⟨hv, h0⟩ | ⟨g, cap, cur, hv, hg, hh, hc, hm, hs, ht⟩
  · have : l = [] := List.eq_nil_of_length_eq_zero h0
    subst this
    exact ⟨none, 0, hv, Bytes.nil w⟩
  · refine ⟨some ⟨g, 0, none⟩, cap, hv, ⟨by simp, hc, hl, by simp only [maxLen] at hm; omega, fun _ => ⟨g, 0, rfl, fun i hi => ?_⟩⟩⟩
    subst hv
    have hi' : i < (l.map B8).length := by simpa using hi
    rw [Nat.zero_add, World.ownsRow.cellAt h' i (by omega), List.getElem?_eq_getElem hi', List.getD_eq_getElem?_getD, List.getElem?_eq_getElem hi']
    rfl
theorem OwnB.lt {e : TypeId} {w : World} {B : Nat} {v : Value} {l : List UInt8} (h : OwnB e w B v l) (k : Nat) (hk : v.ownBlock = some k) : B ≤ k ∧ k < w.heap.size := World.ownsRow.lt h k hk

/-- What append does to old memory: nothing, below B. -/
theorem grown_below_of {w w' : World} {B : Nat} {v : Value} {e : TypeId} {l : List UInt8} (h : OwnB e w B v l) (hB : B ≤ w.heap.size) (hg : w.grownBy w' v.ownBlock) : Below B w w' :=
  (Below.refl B w).grown hg hB fun k hk => (h.lt k hk).1

theorem news_of {w : World} {a : Option Addr} {m c : Nat} {k : List UInt8} (h : Bytes w a m c k) (hm : 0 < m) : ∃ ad : Addr, a = some ad ∧ ∀ (j : Nat) u, (k.map B8)[j]? = some u → w.cell? (ad.add j) = some u := by
  obtain ⟨b, off, ha, hc⟩ := Row.cells h hm
  refine ⟨⟨b, off, none⟩, ha, fun j u hu => ?_⟩
  have hj : j < (k.map B8).length := (List.getElem?_eq_some_iff.1 hu).1
  have hl := h.len
  simp at hj
  have := hc j (by omega)
  rw [List.getD_eq_getElem?_getD, hu] at this
  unfold Addr.add
  by_cases h0 : j = 0
  · subst h0; simpa using this
  · simpa [h0] using this

theorem one_b8 (k : List UInt8) : ∀ u ∈ k.map B8, u.oneCell' = true := by
  intro u hu
  obtain ⟨x, _, rfl⟩ := List.mem_map.1 hu
  rfl

/-- 'append(v, y...)': v is the call's own, y whatever slice of bytes. -/
theorem run_append_b {P : Program} {w : World} {t ty e : TypeId} (ht : P.underlying t = some (.slice e)) (hi : (P.info? e).map (fun i => (i.zero, i.size, i.bytes)) = some (some (.int .u8 0), 1, 1))
    {B : Nat} {v : Value} {l : List UInt8} (hown : OwnB e w B v l) {a : Option Addr} {m c : Nat} {k : List UInt8} (hy : Bytes w a m c k) (hlen : l.length + k.length ≤ 140737488355328) (hB : B ≤ w.heap.size) :
    ∃ v' w', (Builtin.append_ #[t, t] ty #[v, .slice a m c]).run P w = .ok v' w' ∧ OwnB e w' B v' (l ++ k) ∧ w.grownBy w' v.ownBlock ∧ (v' = .slice none 0 0 ↔ v = .slice none 0 0 ∧ k = []) := by
  obtain ⟨i, hi', hx⟩ := Option.map_eq_some_iff.1 hi
  simp only [Prod.mk.injEq] at hx
  obtain ⟨hz, hs, hb⟩ := hx
  have hm := hy.len
  by_cases hn : a = none
  · subst hn
    have h0 : m = 0 := by
      rcases Nat.eq_zero_or_pos m with h | h
      · exact h
      · obtain ⟨_, h', _⟩ := news_of hy h; cases h'
    subst h0
    have hk : k = [] := List.eq_nil_of_length_eq_zero hm.symm
    subst hk
    by_cases hc : c = 0
    · subst hc
      refine ⟨v, w, run_append_owned_none w B t ty e i 1 ht hi' v _ _ hown, by simpa using hown, ⟨rfl, rfl, rfl, Nat.le_refl _, fun _ _ _ => rfl⟩, by simp⟩
    · refine ⟨v, w, ?_, by simpa using hown, ⟨rfl, rfl, rfl, Nat.le_refl _, fun _ _ _ => rfl⟩, by simp⟩
      rcases hown.2 with ⟨rfl, _⟩ | ⟨g, cap, cur, rfl, _, _, hnc, _⟩
      · simp [Builtin.append_, run_underlying ht, sizeOf, typeInfo, hi', Builtin.lenOf, Builtin.firstCells]
      · simp [Builtin.append_, run_underlying ht, sizeOf, typeInfo, hi', Builtin.lenOf, Builtin.firstCells, hnc, storeCells]
  · obtain ⟨ad, rfl⟩ : ∃ ad, a = some ad := by cases a with | none => exact absurd rfl hn | some x => exact ⟨x, rfl⟩
    have hnews : ∀ (j : Nat) u, (k.map B8)[j]? = some u → w.cell? (ad.add j) = some u := by
      rcases Nat.eq_zero_or_pos m with h | h
      · have : k = [] := List.eq_nil_of_length_eq_zero (by omega)
        subst this
        intro j u hu; simp at hu
      · obtain ⟨ad', h1, h2⟩ := news_of hy h
        cases h1
        exact h2
    obtain ⟨v', w', h1, h2, h3, h4⟩ := run_append_own (P := P) w B t ty e i (.int .u8 0) 1 1 ht hi' hz hs hb rfl (by omega) v l.length (l.map B8) hown ad m c (k.map B8) (by simp; omega) hnews (one_b8 k) (by simp only [maxLen]; omega) (by omega) hB
    refine ⟨v', w', h1, ?_, h3, ?_⟩
    · unfold OwnB
      rw [List.length_append, List.map_append, ← hm]
      exact h2
    · rw [h4, hm]
      exact ⟨fun ⟨h, h'⟩ => ⟨h, List.eq_nil_of_length_eq_zero h'⟩, fun ⟨h, h'⟩ => ⟨h, by rw [h']; rfl⟩⟩

theorem wp_append_b {P : Program} {w : World} {o : Oper} {a : Act} {K : Act → World → Prop} {Q : Exit → Act → World → Prop} (s x : Operand) {t e : TypeId} (ht : P.underlying t = some (.slice e)) (hi : (P.info? e).map (fun i => (i.zero, i.size, i.bytes)) = some (some (.int .u8 0), 1, 1))
    (ho : o.op = .call { callee := .builtin .append, args := #[s, x], argTypes := #[t, t] }) {B : Nat} {v : Value} {l : List UInt8} (hs : a.eval s = v) (hown : OwnB e w B v l)
    {ad : Option Addr} {m c : Nat} {k : List UInt8} (hx : a.eval x = .slice ad m c) (hy : Bytes w ad m c k) (hlen : l.length + k.length ≤ 140737488355328) (hB : B ≤ w.heap.size)
    (h : ∀ v' w', OwnB e w' B v' (l ++ k) → w.grownBy w' v.ownBlock → (v' = .slice none 0 0 ↔ v = .slice none 0 0 ∧ k = []) → K (a.put o.dst v') w') : o.wp P a w K Q := by
  obtain ⟨v', w', hr, h2, h3, h4⟩ := run_append_b (ty := o.type) ht hi hown hy hlen hB
  unfold Oper.wp execOp
  simp only [ho, resolve, invoke, builtin, Sem.run_bind, Sem.run_pure, Result.andThen_ok, List.map_toArray, List.map_cons, List.map_nil, hs, hx, hr]
  exact h v' w' h2 h3 h4
theorem wpList_append_b {P : Program} {w : World} {ops : Array Oper} {rest : List Oper} {o : Oper} {a : Act} {Q : Exit → Act → World → Prop} (hgd : o.guard = none) (s x : Operand) {t e : TypeId} (ht : P.underlying t = some (.slice e)) (hi : (P.info? e).map (fun i => (i.zero, i.size, i.bytes)) = some (some (.int .u8 0), 1, 1))
    (ho : o.op = .call { callee := .builtin .append, args := #[s, x], argTypes := #[t, t] }) {B : Nat} {v : Value} {l : List UInt8} (hs : a.eval s = v) (hown : OwnB e w B v l)
    {ad : Option Addr} {m c : Nat} {k : List UInt8} (hx : a.eval x = .slice ad m c) (hy : Bytes w ad m c k) (hlen : l.length + k.length ≤ 140737488355328) (hB : B ≤ w.heap.size)
    (h : ∀ v' w', OwnB e w' B v' (l ++ k) → w.grownBy w' v.ownBlock → (v' = .slice none 0 0 ↔ v = .slice none 0 0 ∧ k = []) → wpList P ops Q rest (a.put o.dst v') w') : wpList P ops Q (o :: rest) a w :=
  wpList_plain hgd fun _ hK => wp_append_b s x ht hi ho hs hown hx hy hlen hB fun v' w' h2 h3 h4 => hK _ _ (h v' w' h2 h3 h4)

/-- .. with what it leaves of the caller's world. -/
theorem wpList_append_x {P : Program} {w w0 : World} {ops : Array Oper} {rest : List Oper} {o : Oper} {a : Act} {Q : Exit → Act → World → Prop} (hgd : o.guard = none) (s x : Operand) {t e : TypeId} (ht : P.underlying t = some (.slice e)) (hi : (P.info? e).map (fun i => (i.zero, i.size, i.bytes)) = some (some (.int .u8 0), 1, 1))
    (ho : o.op = .call { callee := .builtin .append, args := #[s, x], argTypes := #[t, t] }) {v : Value} {l : List UInt8} (hs : a.eval s = v) (hown : OwnB e w w0.heap.size v l) (hw : Ext w0 w)
    {ad : Option Addr} {m c : Nat} {k : List UInt8} (hx : a.eval x = .slice ad m c) (hy : Bytes w ad m c k) (hlen : l.length + k.length ≤ 140737488355328)
    (h : ∀ v' w', OwnB e w' w0.heap.size v' (l ++ k) → Ext w0 w' → wpList P ops Q rest (a.put o.dst v') w') : wpList P ops Q (o :: rest) a w :=
  wpList_append_b hgd s x ht hi ho hs hown hx hy hlen hw.size fun v' w' h2 h3 _ => h v' w' h2 (Below.trans hw (grown_below_of hown hw.size h3))

/-- 'make([]byte, n)'. -/
theorem run_make_b {P : Program} {w : World} {t e : TypeId} (ht : P.underlying t = some (.slice e)) (hi : (P.info? e).map (fun i => (i.zero, i.size, i.bytes)) = some (some (.int .u8 0), 1, 1))
    (B : Nat) (kl kc : IntKind) (x : Int) (n : Nat) (hx : x = (n : Int)) (hn : n ≤ 140737488355328) (hB : B ≤ w.heap.size) :
    ∃ w', (Instr.makeSlice t (.int kl x) (.int kc x)).run P w = .ok (.slice (some ⟨w.heap.size, 0, none⟩) n n) w' ∧ OwnB e w' B (.slice (some ⟨w.heap.size, 0, none⟩) n n) (List.replicate n 0) ∧ Ext w w' := by
  subst hx
  obtain ⟨i, hi', hx⟩ := Option.map_eq_some_iff.1 hi
  simp only [Prod.mk.injEq] at hx
  obtain ⟨hz, hs, hb⟩ := hx
  obtain ⟨w', h1, h2, h3⟩ := run_make_full (P := P) w B t e i (.int .u8 0) 1 ht hi' hz hs kl kc n (by rw [hb]; omega) (by simp only [maxLen]; omega) hB
  refine ⟨w', h1, ?_, ⟨h3.os, h3.tape, h3.output, h3.size, fun k hk => h3.block k hk (by simp)⟩⟩
  unfold OwnB
  have e1 : (madeCells (Value.int .u8 0).cells (n * 1)).toList = (List.replicate n 0).map B8 := by
    rw [Nat.mul_one, List.map_replicate]
    apply List.ext_getElem
    · simp [madeCells, Value.cells]
    · intro j h1 h2
      simp [madeCells, Value.cells, Nat.mod_one]
  rw [← e1, List.length_replicate]
  exact h2

end Go.Proofs.Ytnbbaemijogeoaa
