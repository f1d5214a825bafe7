/- A row of bytes that the call made and fills from its head on: copies and stores. No program in sight. -/
import Derived.Test.YtlmidhmpolopdaaMem
import Derived.Laws.CopyOwn
import Derived.Laws.Tables
namespace Go.Proofs.Ytlmidhmpolopdaa
open Go.RowKit

/-- Block 'g' holds the bytes A, then z times 0. -/
def Fill (w : World) (g : Nat) (e : TypeId) (A : List UInt8) (z : Nat) : Prop := w.heap[g]? = some (.cells ((A ++ List.replicate z 0).map B8).toArray e (0, 0))

theorem Fill.of_own {e : TypeId} {w : World} {B g n : Nat} (h : OwnB e w B (.slice (some ⟨g, 0, none⟩) n n) (List.replicate n 0)) : Fill w g e [] n := by
  obtain ⟨h1, h2⟩ := h
  rcases h2 with ⟨h2, _⟩ | ⟨g', cap, cur, hv, _, hh, hc, _, hs, ht⟩
  · cases h2
  · simp only [Value.slice.injEq, Option.some.injEq, Addr.mk.injEq, List.length_replicate] at hv
    obtain ⟨⟨rfl, _⟩, _, rfl⟩ := hv
    unfold Fill
    rw [hh]
    have e1 : cur.toList = (List.replicate n 0).map B8 := by
      rw [← ht, List.length_replicate, Nat.mul_one, List.take_of_length_le (by simp [hs])]
    congr 2
    rw [List.nil_append, ← e1]

theorem Fill.lt {w : World} {g : Nat} {e : TypeId} {A : List UInt8} {z : Nat} (h : Fill w g e A z) : g < w.heap.size := (Array.getElem?_eq_some_iff.1 h).1

theorem Fill.below {w w' : World} {g B : Nat} {e : TypeId} {A : List UInt8} {z : Nat} (h : Fill w g e A z) (hb : Below B w w') (hg : g < B) : Fill w' g e A z := by
  unfold Fill at *
  rw [hb.block g hg, h]
theorem Fill.ext {w w' : World} {g : Nat} {e : TypeId} {A : List UInt8} {z : Nat} (h : Fill w g e A z) (hb : Ext w w') : Fill w' g e A z := h.below hb h.lt

theorem Fill.bytes {w : World} {g : Nat} {e : TypeId} {A : List UInt8} {z : Nat} (h : Fill w g e A z) (n : Nat) (hn : n = A.length + z) (hr : n ≤ 140737488355328) : Bytes w (some ⟨g, 0, none⟩) n n (A ++ List.replicate z 0) := by
  subst hn
  refine ⟨by simp, Nat.le_refl _, hr, by omega, fun _ => ⟨g, 0, rfl, fun i hi => ?_⟩⟩
  unfold Fill at h
  unfold World.cell?
  simp only [Nat.zero_add, h]
  have : i < ((A ++ List.replicate z 0).map B8).length := by simpa using hi
  simp only [Option.isSome_none, Bool.false_eq_true, if_false, List.getElem?_toArray, List.getD_eq_getElem?_getD, List.getElem?_eq_getElem this, Option.getD_some]

theorem fill_splice (A K : List UInt8) (z : Nat) :
    splice ((A ++ List.replicate z 0).map B8) A.length (K.map B8) = ((A ++ K) ++ List.replicate (z - K.length) 0).map B8 := by
  unfold splice
  rw [← List.map_take, ← List.map_drop, ← List.map_append, ← List.map_append]
  congr 1
  rw [List.take_left', List.append_assoc, List.length_map, List.drop_append, List.drop_of_length_le (by omega), List.nil_append, Nat.add_sub_cancel_left, List.drop_replicate]
  rfl

theorem Fill.cell0 {w : World} {g : Nat} {e : TypeId} {A : List UInt8} {z : Nat} (h : Fill w g e A z) (i : Nat) (h1 : A.length ≤ i) (h2 : i < A.length + z) : w.cell? ⟨g, i, none⟩ = some (.int .u8 0) := by
  unfold Fill at h
  unfold World.cell?
  simp only [h]
  have : i < ((A ++ List.replicate z 0).map B8).length := by simpa using h2
  simp only [Option.isSome_none, Bool.false_eq_true, if_false, List.getElem?_toArray, List.getElem?_eq_getElem this, List.getElem_map]
  rw [List.getElem_append_right h1, List.getElem_replicate]
  rfl
theorem Fill.soft {w : World} {g : Nat} {e : TypeId} {A : List UInt8} {z : Nat} (h : Fill w g e A z) (i : Nat) : w.frozen? ⟨g, i, none⟩ = false := by
  unfold Fill at h
  unfold World.frozen?
  simp [h]
theorem Bytes.cell {w : World} {b off n cap : Nat} {l : List UInt8} (h : Bytes w (some ⟨b, off, none⟩) n cap l) (i : Nat) (hi : i < n) {x : Int} (hx : ((l.getD i 0).toNat : Int) = x) : w.cell? ⟨b, off + i, none⟩ = some (.int .u8 x) := by
  obtain ⟨b', off', he, hc⟩ := h.at (by omega)
  simp only [Option.some.injEq, Addr.mk.injEq] at he
  obtain ⟨rfl, rfl, _⟩ := he
  rw [hc i hi, hx]

theorem cell_heap {w : World} {g : Nat} {cs : Array Value} {t : TypeId} {fr : Nat × Nat} (h : w.heap[g]? = some (.cells cs t fr)) (i : Nat) : w.cell? ⟨g, i, none⟩ = cs[i]? := by
  unfold World.cell?
  simp [h]
theorem cells6 {w : World} {g : Nat} {a b c d e f : Value} {t : TypeId} {fr : Nat × Nat} (h : w.heap[g]? = some (.cells #[a, b, c, d, e, f] t fr)) :
    w.cell? ⟨g, 0, none⟩ = some a ∧ w.cell? ⟨g, 1, none⟩ = some b ∧ w.cell? ⟨g, 2, none⟩ = some c ∧ w.cell? ⟨g, 3, none⟩ = some d ∧ w.cell? ⟨g, 4, none⟩ = some e ∧ w.cell? ⟨g, 5, none⟩ = some f :=
  ⟨cell_heap h 0, cell_heap h 1, cell_heap h 2, cell_heap h 3, cell_heap h 4, cell_heap h 5⟩
theorem cells14 {w : World} {g : Nat} {v0 v1 v2 v3 v4 v5 v6 v7 v8 v9 v10 v11 v12 v13 : Value} {t : TypeId} {fr : Nat × Nat} (h : w.heap[g]? = some (.cells #[v0, v1, v2, v3, v4, v5, v6, v7, v8, v9, v10, v11, v12, v13] t fr)) :
    w.cell? ⟨g, 0, none⟩ = some v0 ∧ w.cell? ⟨g, 1, none⟩ = some v1 ∧ w.cell? ⟨g, 2, none⟩ = some v2 ∧ w.cell? ⟨g, 3, none⟩ = some v3 ∧ w.cell? ⟨g, 4, none⟩ = some v4 ∧ w.cell? ⟨g, 5, none⟩ = some v5 ∧ w.cell? ⟨g, 6, none⟩ = some v6 ∧ w.cell? ⟨g, 7, none⟩ = some v7 ∧ w.cell? ⟨g, 8, none⟩ = some v8 ∧ w.cell? ⟨g, 9, none⟩ = some v9 ∧ w.cell? ⟨g, 10, none⟩ = some v10 ∧ w.cell? ⟨g, 11, none⟩ = some v11 ∧ w.cell? ⟨g, 12, none⟩ = some v12 ∧ w.cell? ⟨g, 13, none⟩ = some v13 :=
  ⟨cell_heap h 0, cell_heap h 1, cell_heap h 2, cell_heap h 3, cell_heap h 4, cell_heap h 5, cell_heap h 6, cell_heap h 7, cell_heap h 8, cell_heap h 9, cell_heap h 10, cell_heap h 11, cell_heap h 12, cell_heap h 13⟩
theorem heap_new (w : World) (o : Obj) : (w.alloc o).heap[w.heap.size]? = some o := Array.getElem?_push_size
theorem heap_under {w w' : World} {B b : Nat} {o : Obj} (hb : Below B w w') (h : b < B) (ho : w.heap[b]? = some o) : w'.heap[b]? = some o := by rw [hb.block b h, ho]
theorem heap_ext {w w' : World} {b : Nat} {o : Obj} (hb : Ext w w') (ho : w.heap[b]? = some o) : w'.heap[b]? = some o := heap_under hb (Array.getElem?_eq_some_iff.1 ho).1 ho
theorem cell_under {w w' : World} {B b i : Nat} (hb : Below B w w') (h : b < B) : w'.cell? ⟨b, i, none⟩ = w.cell? ⟨b, i, none⟩ := by
  unfold World.cell?
  simp only [hb.block b h]
theorem Bytes.under {w w' : World} {B b off n cap : Nat} {l : List UInt8} (h : Bytes w (some ⟨b, off, none⟩) n cap l) (hb : Below B w w') (hB : b < B) : Bytes w' (some ⟨b, off, none⟩) n cap l := by
  refine ⟨h.1, h.2, h.3, h.4, fun hp => ?_⟩
  obtain ⟨b', off', ha, hc⟩ := Row.cells h hp
  simp only [Option.some.injEq, Addr.mk.injEq] at ha
  obtain ⟨rfl, rfl, _⟩ := ha
  exact ⟨b, off, rfl, fun i hi => by rw [cell_under hb hB]; exact hc i hi⟩

/-- copy from a slice of bytes -/
theorem wpList_copy_fill {P : Program} {w : World} {ops : Array Oper} {rest : List Oper} {o : Oper} {a : Act} {Q : Exit → Act → World → Prop} (hgd : o.guard = none) (d s : Operand) (dT sT elem : TypeId)
    (ho : o.op = .call { callee := .builtin .copy, args := #[d, s], argTypes := #[dT, sT] }) (hu : P.underlying dT = some (.slice elem)) (hsz : (P.info? elem).map (·.size) = some 1)
    {dp sp : Option Addr} {dLen dCap sLen sCap : Nat} (hd : a.eval d = .slice dp dLen dCap) (hs : a.eval s = .slice sp sLen sCap)
    {g : Nat} {e : TypeId} {A K : List UInt8} {z : Nat} (hg : Fill w g e A z) (hK : Bytes w sp sLen sCap K) (hlen : sLen ≤ dLen) (A' : List UInt8) (z' : Nat) (hA : A ++ K = A') (hz : z = sLen + z') (hp : 0 < K.length → dp = some ⟨g, A.length, none⟩)
    (h : ∀ w', Fill w' g e A' z' → Below g w w' → wpList P ops Q rest (a.put o.dst (goInt K.length)) w') :
    wpList P ops Q (o :: rest) a w := by
  have hl := hK.len
  have hg' : w.heap[g]? = some (.cells ((A ++ List.replicate z 0).map B8).toArray e (0, 0)) := hg
  refine wpList_copy_splice hgd d s dT sT ho elem hu hsz dp sp dLen dCap sLen sCap hd hs g A.length ((A ++ List.replicate z 0).map B8) e hg' (K.map B8) (by rw [List.length_map, ← hl]; exact (Nat.min_eq_left hlen).symm)
    (fun h0 => ?_) (by simp; omega) (fun v hv => ?_) g w (Below.refl g w) (Nat.le_refl g) fun w' h1 h2 => ?_
  · rw [List.length_map] at h0
    obtain ⟨ad, had, hc⟩ := news_of hK (by omega)
    exact ⟨hp h0, ad, had, hc⟩
  · obtain ⟨x, _, rfl⟩ := List.mem_map.1 hv; rfl
  · rw [List.length_map]
    refine h w' ?_ h2
    have h3 := h1.out
    rw [fill_splice A K z, hA, hz, hl, Nat.add_sub_cancel_left] at h3
    exact h3

/-- copy from a string -/
theorem wpList_copy_string {P : Program} {w : World} {ops : Array Oper} {rest : List Oper} {o : Oper} {a : Act} {Q : Exit → Act → World → Prop} (hgd : o.guard = none) (d s : Operand) (dT sT elem : TypeId)
    (ho : o.op = .call { callee := .builtin .copy, args := #[d, s], argTypes := #[dT, sT] }) (hu : P.underlying dT = some (.slice elem)) (hsz : (P.info? elem).map (·.size) = some 1)
    {dp : Option Addr} {dLen dCap : Nat} {str : ByteArray} (hd : a.eval d = .slice dp dLen dCap) (hs : a.eval s = .string str)
    {g : Nat} {e : TypeId} {A : List UInt8} {z : Nat} (hg : Fill w g e A z) (hlen : str.size ≤ dLen) (A' : List UInt8) (z' : Nat) (hA : A ++ str.data.toList = A') (hz : z = str.size + z') (hdp : dp ≠ none) (hp : 0 < str.size → dp = some ⟨g, A.length, none⟩)
    (h : ∀ w', Fill w' g e A' z' → Below g w w' → wpList P ops Q rest (a.put o.dst (goInt str.size)) w') :
    wpList P ops Q (o :: rest) a w := by
  refine wpList_plain hgd fun K hK => ?_
  obtain ⟨i, hq, hi⟩ := Option.map_eq_some_iff.1 hsz
  obtain ⟨p, rfl⟩ := Option.ne_none_iff_exists'.1 hdp
  have hmin : Nat.min str.size dLen = str.size := Nat.min_eq_left hlen
  by_cases h0 : str.size = 0
  · have hnil : str.data.toList = [] := List.eq_nil_of_length_eq_zero (by simpa using h0)
    unfold Oper.wp
    simp [execOp, ho, resolve, invoke, builtin, hd, hs, Builtin.copy_, run_underlying hu, Builtin.lenOf, Builtin.firstCells, sizeOf, typeInfo, hq, hmin, hnil, storeCells, Result.andThen]
    refine hK _ _ (h w ?_ (Below.refl g w))
    rw [← hA, hnil, List.append_nil, show z' = z by omega]; exact hg
  · obtain rfl : p = ⟨g, A.length, none⟩ := by simpa using hp (by omega)
    have hst := run_storeCells_at P g A.length e (str.data.toList.map B8) 0 _ w hg (by simp; omega) (fun v hv => by obtain ⟨x, _, rfl⟩ := List.mem_map.1 hv; rfl)
    unfold Oper.wp
    simp [execOp, ho, resolve, invoke, builtin, hd, hs, Builtin.copy_, run_underlying hu, Builtin.lenOf, Builtin.firstCells, sizeOf, typeInfo, hq, hmin, Result.andThen]
    have e1 : List.take str.size (List.map (fun b : UInt8 => Value.int .u8 (b.toNat : Int)) str.data.toList) = str.data.toList.map B8 := List.take_of_length_le (by simp)
    have e2 := fill_splice A str.data.toList z
    unfold splice at e2
    rw [e1, hst]
    refine hK _ _ (h _ ?_ (below_setRow (Below.refl g w) (Nat.le_refl g) _))
    unfold Fill
    rw [setRow_heap w g _ _ e (0, 0) hg]
    congr 2
    rw [← List.append_assoc] at e2
    rw [← hA]
    have e3 : z - str.data.toList.length = z' := by simp; omega
    rw [e3] at e2
    simpa using e2

/-- a store behind what is filled -/
theorem Fill.setCell {w : World} {g i : Nat} {e : TypeId} {A : List UInt8} {z : Nat} (h : Fill w g e A z) (hi : i = A.length) (x : UInt8) (A' : List UInt8) (z' : Nat) (hA : A ++ [x] = A') (hz : z = z' + 1) : Fill (w.setCell ⟨g, i, none⟩ (B8 x)) g e A' z' := by
  subst hi; subst hA; subst hz
  have h' : w.heap[g]? = some (.cells ((A ++ List.replicate (z' + 1) 0).map B8).toArray e (0, 0)) := h
  rw [setCell_eq_setRow w g A.length _ e (0, 0) (B8 x) h']
  unfold Fill
  rw [setRow_heap w g _ _ e (0, 0) h']
  congr 2
  simp [List.replicate_succ]

/-- 'make([]byte, n)' -/
theorem wpList_make_fill {P : Program} {w : World} {ops : Array Oper} {rest : List Oper} {o : Oper} {a : Act} {Q : Exit → Act → World → Prop} (hgd : o.guard = none) (d s : Operand) (t : TypeId) {e : TypeId}
    (ho : o.op = .makeSlice t d s) (ht : P.underlying t = some (.slice e)) (hi : (P.info? e).map (fun i => (i.zero, i.size, i.bytes)) = some (some (.int .u8 0), 1, 1))
    {x : Int} {n : Nat} (hd : a.eval d = .int .i64 x) (hs : a.eval s = .int .i64 x) (hx : x = (n : Int)) (hn : n ≤ 140737488355328)
    (h : ∀ w', Fill w' w.heap.size e [] n → Ext w w' → wpList P ops Q rest (a.put o.dst (.slice (some ⟨w.heap.size, 0, none⟩) n n)) w') :
    wpList P ops Q (o :: rest) a w := by
  refine wpList_plain hgd fun K hK => ?_
  obtain ⟨w', h1, h2, h3⟩ := run_make_b (w := w) ht hi 0 .i64 .i64 x n hx hn (Nat.zero_le _)
  unfold Oper.wp
  simp [execOp, ho, hd, hs, h1]
  exact hK _ _ (h w' (Fill.of_own h2) h3)
end Go.Proofs.Ytlmidhmpolopdaa
