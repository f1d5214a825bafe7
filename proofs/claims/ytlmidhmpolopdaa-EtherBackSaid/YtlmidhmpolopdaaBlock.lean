/- A block of known cells, in a world that is otherwise a variable: stored whole, copied into. No program in sight. -/
import Derived.Test.YtlmidhmpolopdaaFill
import Derived.Deep.MidRow
namespace Go.Proofs.Ytlmidhmpolopdaa
open Go.RowKit

/-- Block 'g' holds these cells, and none of them is frozen. -/
def Holds (w : World) (g : Nat) (cs : List Value) (t : TypeId) : Prop := w.heap[g]? = some (.cells cs.toArray t (0, 0))
theorem Holds.new (w : World) (cs : List Value) (t : TypeId) : Holds (w.alloc (.cells cs.toArray t)) w.heap.size cs t := heap_new w _
theorem Holds.lt {w : World} {g : Nat} {cs : List Value} {t : TypeId} (h : Holds w g cs t) : g < w.heap.size := (Array.getElem?_eq_some_iff.1 h).1
theorem Holds.ext {w w' : World} {g : Nat} {cs : List Value} {t : TypeId} (h : Holds w g cs t) (hx : Ext w w') : Holds w' g cs t := heap_ext hx h
theorem Holds.under {w w' : World} {g B : Nat} {cs : List Value} {t : TypeId} (h : Holds w g cs t) (hx : Below B w w') (hg : g < B) : Holds w' g cs t := heap_under hx hg h
theorem Holds.cell {w : World} {g : Nat} {cs : List Value} {t : TypeId} (h : Holds w g cs t) (i : Nat) : w.cell? ⟨g, i, none⟩ = cs[i]? := by
  have := cell_heap h i
  rw [this]; simp
theorem Holds.soft {w : World} {g : Nat} {cs : List Value} {t : TypeId} (h : Holds w g cs t) (i : Nat) : w.frozen? ⟨g, i, none⟩ = false := by
  unfold Holds at h
  unfold World.frozen?
  simp [h]

/-- What has become of the rest when block 'g' alone is written. -/
structure Only (g : Nat) (w w' : World) : Prop where
  os : w'.os = w.os
  tape : w'.tape = w.tape
  output : w'.output = w.output
  size : w'.heap.size = w.heap.size
  block : ∀ k, k ≠ g → w'.heap[k]? = w.heap[k]?
theorem only_setRow (w : World) (g : Nat) (cs : Array Value) : Only g w (w.setRow g cs) := ⟨rfl, rfl, rfl, by simp [World.setRow], fun k hk => setRow_other w g k cs hk⟩
theorem Only.below {g B : Nat} {w w' : World} (h : Only g w w') (hB : B ≤ g) : Below B w w' := ⟨h.os, h.tape, h.output, by rw [h.size]; exact Nat.le_refl _, fun k hk => h.block k (by omega)⟩
theorem Only.holds {g k : Nat} {w w' : World} {cs : List Value} {t : TypeId} (h : Only g w w') (hk : k ≠ g) (hh : Holds w k cs t) : Holds w' k cs t := (h.block k hk).trans hh

theorem two_blocks (w : World) (cs ds : List Value) (t t' : TypeId) : Ext w (((w.alloc (.cells cs.toArray t)).alloc (.cells ds.toArray t')).drew) ∧ Holds (((w.alloc (.cells cs.toArray t)).alloc (.cells ds.toArray t')).drew) w.heap.size cs t ∧
    Holds (((w.alloc (.cells cs.toArray t)).alloc (.cells ds.toArray t')).drew) (w.heap.size + 1) ds t' := by
  refine ⟨(((Ext.refl w).alloc _).alloc _).drew, ((Holds.new w cs t).ext (below_alloc _ _)).ext (Ext.refl _).drew, ?_⟩
  have := (Holds.new (w.alloc (.cells cs.toArray t)) ds t').ext (Ext.refl _).drew
  rwa [World.size_alloc] at this

theorem wpList_store_block {P : Program} {w : World} {ops : Array Oper} {rest : List Oper} {o : Oper} {a : Act} {Q : Exit → Act → World → Prop} (hgd : o.guard = none) (x y : Operand) (ty : TypeId)
    (ho : o.op = .store ty x y) {g : Nat} {cs cur : List Value} {t : TypeId} (hx : a.eval x = .pointer (some ⟨g, 0, none⟩)) (hy : a.eval y = .agg cs.toArray) (hg : Holds w g cur t)
    (hi : (P.info? ty).map (·.size) = some cs.length) (hl : cur.length = cs.length) (h1 : cs.all (·.oneCell') = true)
    (h : ∀ w', Holds w' g cs t → Only g w w' → wpList P ops Q rest (a.put o.dst undef) w') : wpList P ops Q (o :: rest) a w := by
  refine wpList_plain hgd fun K hK => ?_
  have hst := run_storeCells_at P g 0 t cs 0 cur.toArray w hg (by simp [hl]) (List.all_eq_true.1 h1)
  obtain ⟨i, hq, hs⟩ := Option.map_eq_some_iff.1 hi
  have e : (List.take (0 + 0) cur.toArray.toList ++ cs ++ List.drop (0 + 0 + cs.length) cur.toArray.toList).toArray = cs.toArray := by
    simp [hl]
  rw [e] at hst
  unfold Oper.wp execOp
  simp only [ho, hx, hy, Instr.storeAt, Instr.sureAddr, Sem.run_bind, Sem.run_pure, Result.andThen_ok, storeVar, sizeOf, typeInfo]
  simp [hq, Value.cells, hs, hst]
  exact hK _ _ (h _ (setRow_heap w g _ _ t (0, 0) hg) (only_setRow w g _))

/-- copy into a part of the block: K is what goes over, cs what the block holds then. -/
theorem wpList_copy_block {P : Program} {w : World} {ops : Array Oper} {rest : List Oper} {o : Oper} {a : Act} {Q : Exit → Act → World → Prop} (hgd : o.guard = none) (d s : Operand) (dT sT elem : TypeId)
    (ho : o.op = .call { callee := .builtin .copy, args := #[d, s], argTypes := #[dT, sT] }) (hu : P.underlying dT = some (.slice elem)) (hsz : (P.info? elem).map (·.size) = some 1)
    {g off dLen dCap sLen sCap kCap : Nat} {sp : Option Addr} (hd : a.eval d = .slice (some ⟨g, off, none⟩) dLen dCap) (hs : a.eval s = .slice sp sLen sCap)
    {cur : List Value} {t : TypeId} (hg : Holds w g cur t) {K : List UInt8} {k : Nat} (hK : Bytes w sp k kCap K) (h0 : 0 < k) (hn : k = Nat.min sLen dLen) (cs : List Value)
    (hfit : off + k ≤ cur.length) (hcs : cur.take off ++ (K.map B8 ++ cur.drop (off + K.length)) = cs)
    (h : ∀ w', Holds w' g cs t → Only g w w' → wpList P ops Q rest (a.put o.dst (goInt k)) w') : wpList P ops Q (o :: rest) a w := by
  have hl := hK.len
  obtain ⟨ad, rfl, hc⟩ := news_of hK h0
  refine wpList_copy_own hgd d s dT sT ho elem hu hsz g off dLen dCap ad sLen sCap hd hs cur.toArray t hg (K.map B8) (by simp; omega) hc (by simp; omega) (fun v hv => by obtain ⟨x, _, rfl⟩ := List.mem_map.1 hv; rfl) ?_
  have e : (cur.toArray.toList.take off ++ (K.map B8 ++ cur.toArray.toList.drop (off + (K.map B8).length))) = cs := by rw [← hcs]; simp
  rw [e, List.length_map, ← hl]
  exact h _ (setRow_heap w g _ _ t (0, 0) hg) (only_setRow w g _)
end Go.Proofs.Ytlmidhmpolopdaa
