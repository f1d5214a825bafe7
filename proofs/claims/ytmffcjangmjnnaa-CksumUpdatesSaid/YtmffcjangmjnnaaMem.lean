/- How slices of bytes, and slices of these, lie in memory. -/
import Derived.Test.YtmffcjangmjnnaaMa
import Derived.Deep.Draws
import Derived.Deep.QuietTactic
namespace Go.Proofs.Ytmffcjangmjnnaa
open Go.RowKit

theorem hid {p : Prop} (h : p) : Hid p := h

/-- A byte as a value. -/
abbrev B8 (x : UInt8) : Value := .int .u8 (x.toNat : Int)

/-- The slice value at 'a', with length 'n' and capacity 'cap', holds the values 'vs' in world 'w'. -/
structure Row (w : World) (a : Option Addr) (n cap : Nat) (vs : List Value) : Prop where
  len : n = vs.length
  le : n ≤ cap
  room : cap ≤ 140737488351232
  cells : 0 < n → ∃ b off, a = some ⟨b, off, none⟩ ∧ ∀ i, i < n → w.cell? ⟨b, off + i, none⟩ = some (vs.getD i undef)

/-- .. the bytes 'l'. -/
def Bytes (w : World) (a : Option Addr) (n cap : Nat) (l : List UInt8) : Prop := Row w a n cap (l.map B8)

theorem Bytes.len {w : World} {a : Option Addr} {n cap : Nat} {l : List UInt8} (h : Bytes w a n cap l) : n = l.length := by
  simpa using Row.len h

theorem Bytes.at {w : World} {a : Option Addr} {n cap : Nat} {l : List UInt8} (h : Bytes w a n cap l) (hp : 0 < n) :
    ∃ b off, a = some ⟨b, off, none⟩ ∧ ∀ i, i < n → w.cell? ⟨b, off + i, none⟩ = some (.int .u8 ((l.getD i 0).toNat : Int)) := by
  obtain ⟨b, off, ha, hc⟩ := Row.cells h hp
  refine ⟨b, off, ha, fun i hi => ?_⟩
  rw [hc i hi]
  have hl := h.len
  have : i < l.length := by omega
  simp [List.getD_eq_getElem?_getD, List.getElem?_map, List.getElem?_eq_getElem this]

theorem Bytes.nil (w : World) : Bytes w none 0 0 [] := ⟨rfl, Nat.le_refl _, by omega, fun h => by omega⟩

/-- A slice of slices of bytes. -/
structure Parts (w : World) (a : Option Addr) (n cap : Nat) (ls : List (List UInt8)) : Prop where
  len : n = ls.length
  cells : 0 < n → ∃ b off, a = some ⟨b, off, none⟩ ∧ ∀ i, i < n → ∃ x m c, w.cell? ⟨b, off + i, none⟩ = some (.slice x m c) ∧ Bytes w x m c (ls.getD i [])

theorem Row.of_cells {w w' : World} {a : Option Addr} {n cap : Nat} {vs : List Value} (h : Row w a n cap vs)
    (hc : ∀ p v, w.cell? p = some v → w'.cell? p = some v) : Row w' a n cap vs := by
  refine ⟨h.len, h.le, h.room, fun hp => ?_⟩
  obtain ⟨b, off, ha, hcell⟩ := h.cells hp
  exact ⟨b, off, ha, fun i hi => hc _ _ (hcell i hi)⟩

theorem cell_lt {w : World} {p : Addr} {v : Value} (h : w.cell? p = some v) : p.block < w.heap.size := by
  unfold World.cell? at h
  split at h
  · rename_i hh
    exact (Array.getElem?_eq_some_iff.1 hh).1
  · exact absurd h (by simp)

theorem cell_below {w w' : World} (hb : Below w.heap.size w w') {p : Addr} {v : Value} (h : w.cell? p = some v) : w'.cell? p = some v := by
  rw [hb.cell (cell_lt h)]; exact h

theorem Row.below {w w' : World} {a : Option Addr} {n cap : Nat} {vs : List Value} (h : Row w a n cap vs) (hb : Below w.heap.size w w') : Row w' a n cap vs :=
  h.of_cells fun _ _ hc => cell_below hb hc
theorem Bytes.below {w w' : World} {a : Option Addr} {n cap : Nat} {l : List UInt8} (h : Bytes w a n cap l) (hb : Below w.heap.size w w') : Bytes w' a n cap l :=
  Row.below h hb

theorem below_alloc (w : World) (o : Obj) : Below w.heap.size w (w.alloc o) := (Below.refl _ _).alloc (Nat.le_refl _) o
theorem Row.alloc {w : World} {a : Option Addr} {n cap : Nat} {vs : List Value} (h : Row w a n cap vs) (o : Obj) : Row (w.alloc o) a n cap vs := h.below (below_alloc w o)
theorem Bytes.alloc {w : World} {a : Option Addr} {n cap : Nat} {l : List UInt8} (h : Bytes w a n cap l) (o : Obj) : Bytes (w.alloc o) a n cap l := h.below (below_alloc w o)

theorem Row.new (w : World) (cs : Array Value) (e : TypeId) (b n : Nat) (vs : List Value) (hb : b = w.heap.size) (hn : n = vs.length) (hcs : cs = vs.toArray) (hr : n ≤ 140737488351232) :
    Row (w.alloc (.cells cs e)) (some ⟨b, 0, none⟩) n n vs := by
  subst hb; subst hcs
  refine ⟨hn, Nat.le_refl _, hr, fun _ => ⟨w.heap.size, 0, rfl, fun i hi => ?_⟩⟩
  rw [Nat.zero_add, World.cell?_alloc_new]
  have : i < vs.length := by omega
  simp [List.getD_eq_getElem?_getD, List.getElem?_eq_getElem this]
theorem Bytes.new (w : World) (cs : Array Value) (e : TypeId) (b n : Nat) (l : List UInt8) (hb : b = w.heap.size) (hn : n = l.length) (hcs : cs = (l.map B8).toArray) (hr : n ≤ 140737488351232) :
    Bytes (w.alloc (.cells cs e)) (some ⟨b, 0, none⟩) n n l := Row.new w cs e b n _ hb (by simpa using hn) hcs hr

/-- Slices of bytes, one beside the other. -/
inductive Each (w : World) : List Value → List (List UInt8) → Prop
  | nil : Each w [] []
  | cons {x : Option Addr} {m c : Nat} {l : List UInt8} {vs : List Value} {ls : List (List UInt8)} : Bytes w x m c l → Each w vs ls → Each w (.slice x m c :: vs) (l :: ls)

theorem Each.length {w : World} {vs : List Value} {ls : List (List UInt8)} (h : Each w vs ls) : vs.length = ls.length := by
  induction h with
  | nil => rfl
  | cons _ _ ih => simp [ih]
theorem Each.get {w : World} {vs : List Value} {ls : List (List UInt8)} (h : Each w vs ls) : ∀ i, i < vs.length → ∃ x m c, vs.getD i undef = .slice x m c ∧ Bytes w x m c (ls.getD i []) := by
  induction h with
  | nil => intro i hi; simp at hi
  | cons hb _ ih =>
    intro i hi
    cases i with
    | zero => exact ⟨_, _, _, rfl, hb⟩
    | succ i => simpa using ih i (by simpa using hi)
theorem Each.old {w w' : World} {vs : List Value} {ls : List (List UInt8)} (h : Each w vs ls) (hb : Below w.heap.size w w') : Each w' vs ls := by
  induction h with
  | nil => exact .nil
  | cons h1 _ ih => exact .cons (h1.below hb) ih

theorem Parts.new (w : World) (cs : Array Value) (e : TypeId) (b n : Nat) (vs : List Value) (ls : List (List UInt8)) (h : Each w vs ls) (hb : b = w.heap.size) (hn : n = vs.length) (hcs : cs = vs.toArray) :
    Parts (w.alloc (.cells cs e)) (some ⟨b, 0, none⟩) n n ls := by
  subst hb; subst hcs
  refine ⟨by rw [hn, h.length], fun _ => ⟨w.heap.size, 0, rfl, fun i hi => ?_⟩⟩
  obtain ⟨x, m, c, h1, h2⟩ := h.get i (by omega)
  refine ⟨x, m, c, ?_, h2.alloc _⟩
  rw [Nat.zero_add, World.cell?_alloc_new, ← h1]
  have : i < vs.length := by omega
  simp [List.getD_eq_getElem?_getD, List.getElem?_eq_getElem this]
theorem Parts.one {w : World} {x : Option Addr} {m c : Nat} {l : List UInt8} (h : Bytes w x m c l) (e : TypeId) {b : Nat} (hb : b = w.heap.size) :
    Parts (w.alloc (.cells #[.slice x m c] e)) (some ⟨b, 0, none⟩) 1 1 [l] := Parts.new w _ e b 1 _ _ (.cons h .nil) hb rfl rfl
theorem Parts.two {w : World} {x y : Option Addr} {m c n d : Nat} {l k : List UInt8} (h : Bytes w x m c l) (h' : Bytes w y n d k) (e : TypeId) {b : Nat} (hb : b = w.heap.size) :
    Parts (w.alloc (.cells #[.slice x m c, .slice y n d] e)) (some ⟨b, 0, none⟩) 2 2 [l, k] := Parts.new w _ e b 2 _ _ (.cons h (.cons h' .nil)) hb rfl rfl
theorem Parts.three {w : World} {x y z : Option Addr} {m c n d p q : Nat} {l k r : List UInt8} (h : Bytes w x m c l) (h' : Bytes w y n d k) (h'' : Bytes w z p q r) (e : TypeId) {b : Nat} (hb : b = w.heap.size) :
    Parts (w.alloc (.cells #[.slice x m c, .slice y n d, .slice z p q] e)) (some ⟨b, 0, none⟩) 3 3 [l, k, r] := Parts.new w _ e b 3 _ _ (.cons h (.cons h' (.cons h'' .nil))) hb rfl rfl

/-- At most some orders have been drawn. -/
def Drew (w w' : World) : Prop := ∃ q, w' = w.drewN q
theorem Drew.refl (w : World) : Drew w w := ⟨0, rfl⟩
theorem Drew.of_eq {w w' : World} (h : w = w') : Drew w w' := h ▸ Drew.refl w
theorem Drew.trans {a b c : World} (h : Drew a b) (k : Drew b c) : Drew a c := by
  obtain ⟨p, rfl⟩ := h; obtain ⟨q, rfl⟩ := k; exact ⟨p + q, by rw [World.drewN_drewN]⟩
theorem Drew.drew {a b : World} (h : Drew a b) : Drew a b.drew := h.trans ⟨1, rfl⟩
theorem Drew.drewN {a b : World} (h : Drew a b) (n : Nat) : Drew a (b.drewN n) := h.trans ⟨n, rfl⟩
theorem Drew.below {a b : World} (h : Drew a b) (B : Nat) : Below B a b := by
  obtain ⟨p, rfl⟩ := h; exact ⟨rfl, rfl, rfl, Nat.le_refl _, fun _ _ => rfl⟩
theorem Drew.cell {a b : World} (h : Drew a b) (p : Addr) : b.cell? p = a.cell? p := by
  obtain ⟨q, rfl⟩ := h; rfl
theorem Drew.heap {a b : World} (h : Drew a b) : b.heap = a.heap := by
  obtain ⟨q, rfl⟩ := h; rfl
theorem Row.drew {w w' : World} {a : Option Addr} {n cap : Nat} {vs : List Value} (h : Row w a n cap vs) (hd : Drew w w') : Row w' a n cap vs :=
  h.of_cells fun p v hc => by rw [hd.cell]; exact hc
theorem Bytes.drew {w w' : World} {a : Option Addr} {n cap : Nat} {l : List UInt8} (h : Bytes w a n cap l) (hd : Drew w w') : Bytes w' a n cap l := Row.drew h hd

/-- A callee that only draws, met inside a region that draws its order. -/
theorem quiet_of {P : Program} {f : FuncId} {args : Array Value} {w : World} {n : Nat} {v : Value}
    (h : Calls P f args (w.drewN n) fun e w' => e = .returned v ∧ Drew (w.drewN n) w') : Calls P f args (w.drewN n) fun e w'' => e = .returned v ∧ ∃ m, w'' = w.drewN m :=
  h.mono fun _ _ ⟨he, m, hm⟩ => ⟨he, n + m, by rw [hm, World.drewN_drewN]⟩
theorem quiet_eq {P : Program} {f : FuncId} {args : Array Value} {w : World} {n : Nat} {v : Value}
    (h : Calls P f args (w.drewN n) fun e w' => e = .returned v ∧ w.drewN n = w') : Calls P f args (w.drewN n) fun e w'' => e = .returned v ∧ ∃ m, w'' = w.drewN m :=
  h.mono fun _ _ ⟨he, hm⟩ => ⟨he, n, hm.symm⟩

end Go.Proofs.Ytmffcjangmjnnaa
