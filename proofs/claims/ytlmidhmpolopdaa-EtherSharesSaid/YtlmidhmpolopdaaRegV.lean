/- Facts that last, for 'wp_region_facts'. -/
import Derived.Test.YtlmidhmpolopdaaReg
namespace Go.Proofs.Ytlmidhmpolopdaa
open Go.RowKit
theorem bytes_some (l : List UInt8) (h : l.length ≤ 140737488355328) : ∃ v w, BytesV l v w :=
  ⟨.slice (some ⟨(default : World).heap.size, 0, none⟩) l.length l.length, (default : World).alloc (.cells (l.map B8).toArray 0), _, _, _, rfl, Bytes.new _ _ _ _ _ _ rfl rfl rfl h⟩
theorem good_bytes (l : List UInt8) (h : l.length ≤ 140737488355328) : GoodG (BytesV l) := ⟨fun _ _ _ hx h => h.ext hx, bytes_some l h⟩
theorem each_some (ls : List (List UInt8)) (h : ∀ l ∈ ls, l.length ≤ 140737488355328) : ∃ vs w, Each w vs ls := by
  induction ls with
  | nil => exact ⟨[], default, .nil⟩
  | cons l r ih =>
    obtain ⟨vs, w, hr⟩ := ih fun x hx => h x (List.mem_cons_of_mem _ hx)
    exact ⟨_ :: vs, w.alloc (.cells (l.map B8).toArray 0), .cons (Bytes.new w _ _ _ _ l rfl rfl rfl (h l (List.mem_cons_self ..))) (hr.old (below_alloc _ _))⟩
theorem good_parts (ls : List (List UInt8)) (hn : ls.length ≤ 1000) (h : ∀ l ∈ ls, l.length ≤ 140737488355328) : GoodG (PartsV ls) := by
  refine ⟨fun _ _ _ hx h => h.ext hx, ?_⟩
  obtain ⟨vs, w, hr⟩ := each_some ls h
  exact ⟨_, _, _, _, _, rfl, by rw [hr.length]; exact hn, Parts.new w vs.toArray 0 _ vs.length vs ls hr rfl rfl rfl⟩
theorem BytesV.mk {w : World} {a : Option Addr} {n c : Nat} {l : List UInt8} (h : Bytes w a n c l) : BytesV l (.slice a n c) w := ⟨a, n, c, rfl, h⟩
theorem PartsV.mk {W : World} {cs : Array Value} {e : TypeId} {b n : Nat} {vs : List Value} {ls : List (List UInt8)} (h : Each W vs ls) (hb : b = W.heap.size) (hn : n = vs.length) (hcs : cs = vs.toArray) (hm : n ≤ 1000) :
    PartsV ls (.slice (some ⟨b, 0, none⟩) n n) (W.alloc (.cells cs e)) := ⟨_, _, _, rfl, hm, Parts.new W cs e b n vs ls h hb hn hcs⟩
theorem BytesV.of_own {e : TypeId} {w : World} {B : Nat} {v : Value} {l : List UInt8} (h : OwnB e w B v l) (hl : l.length ≤ 140737488355328) : BytesV l v w := by
  obtain ⟨a, c, rfl, hb⟩ := h.bytes hl
  exact ⟨_, _, _, rfl, hb⟩
/-- Slices as values, one beside the other. -/
theorem Each.consV {w : World} {v : Value} {l : List UInt8} {vs : List Value} {ls : List (List UInt8)} (h : BytesV l v w) (hr : Each w vs ls) : Each w (v :: vs) (l :: ls) := by
  obtain ⟨a, n, c, rfl, hb⟩ := h
  exact .cons hb hr
end Go.Proofs.Ytlmidhmpolopdaa
