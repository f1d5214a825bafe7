/- From 'the walk returns true and writes nothing that was there' to the given statement: for every law of this seat. Opening what came in. -/
import Derived.Test.YtnbbaemijogeoaaRows
import Derived.Test.YtnbbaemijogeoaaMem
import Derived.ProofKit
import Derived.OpenShut
import Derived.JoinedCond
import Derived.SizedLaws
namespace Go.Proofs.Ytnbbaemijogeoaa
open Go.ChangeShapes Go.WideShapes Go.ChangeAt Go.RowKit

/-- How great a datum may be: by the form's own reach ('m' false), or by the second form's bulk ('m' true). -/
def Lim {H : Type} (m : Bool) (P : Program) (t : TypeId) (d : DataW H) : Prop :=
  match m with
  | true => Rows.uptoBulk d ≤ 1048576
  | false => ∀ n ∈ d.weights P t, n ≤ reachBytes

/-- The bound on one string's bytes, on one slice's bytes. -/
def lim (m : Bool) : Nat := match m with | true => 1048576 | false => 140737488351232
theorem lim_le (m : Bool) : lim m ≤ 140737488351232 := by cases m <;> simp [lim]

/-- The cells 'cs' are read as a value of type 't'. -/
def Rd {H : Type} (enc : TypeId × Value → H) (m : Bool) (P : Program) (W : World) (t : TypeId) (cs : List Value) : Prop :=
  ∃ fuel d ps, DataW.trod enc P W 0 (fun _ => true) true fuel t cs = some (d, ps) ∧ Lim m P t d

/-- An argument. -/
def RdV {H : Type} (enc : TypeId × Value → H) (m : Bool) (P : Program) (W : World) (t : TypeId) (v : Value) : Prop :=
  (∃ base, Value.okWide P W .any base t v) ∧ Rd enc m P W t v.cells.toList

section
variable {H : Type} {enc : TypeId × Value → H} {m : Bool} {P : Program} {W : World} {t : TypeId}

theorem bulk_one_le (d : DataW H) : 1 ≤ Rows.uptoBulk d := by
  cases d with
  | lit l => cases l <;> simp [Rows.uptoBulk]
  | nil => simp [Rows.uptoBulk]
  | ptr d => simp [Rows.uptoBulk]
  | slice elems spare => simp [Rows.uptoBulk]
  | agg parts => simp [Rows.uptoBulk]
  | iface t d => simp [Rows.uptoBulk]
  | map entries => simp [Rows.uptoBulk]
  | held h => simp [Rows.uptoBulk]
theorem bulk_part_le {d : DataW H} {l : List (DataW H)} (h : d ∈ l) : Rows.uptoBulk d ≤ Rows.uptoBulkAll l := by
  induction l with
  | nil => cases h
  | cons x r ih =>
    simp only [Rows.uptoBulkAll]
    cases List.mem_cons.1 h with
    | inl e => subst e; omega
    | inr e => have := ih e; omega
theorem bulk_append (l r : List (DataW H)) : Rows.uptoBulkAll (l ++ r) = Rows.uptoBulkAll l + Rows.uptoBulkAll r := by
  induction l with
  | nil => simp [Rows.uptoBulkAll]
  | cons x l ih => simp only [List.cons_append, Rows.uptoBulkAll, ih]; omega
theorem bulk_length_le (l : List (DataW H)) : l.length ≤ Rows.uptoBulkAll l := by
  induction l with
  | nil => simp [Rows.uptoBulkAll]
  | cons x r ih => have := bulk_one_le x; simp only [Rows.uptoBulkAll, List.length_cons]; omega

theorem weightsAll_mem {e : TypeId} {d : DataW H} {l : List (DataW H)} (h : d ∈ l) : ∀ n ∈ d.weights P e, n ∈ DataW.weightsAll P e l := by
  induction l with
  | nil => cases h
  | cons x r ih =>
    intro n hn
    simp only [DataW.weightsAll, List.mem_append]
    cases List.mem_cons.1 h with
    | inl e => subst e; exact .inl hn
    | inr e => exact .inr (ih e n hn)

theorem Rd.int {k : IntKind} {cs : List Value} (ht : P.underlying t = some (.int k)) (h : Rd enc m P W t cs) : ∃ n, cs = [.int k n] ∧ (Lit.int k n).wf = true := by
  obtain ⟨fuel, d, ps, h, _⟩ := h
  obtain ⟨n, h1, _, h2⟩ := DataW.trod_int ht h
  exact ⟨n, h1, h2⟩
theorem Rd.bool {cs : List Value} (ht : P.underlying t = some .bool) (h : Rd enc m P W t cs) : ∃ b, cs = [.bool b] := by
  obtain ⟨fuel, d, ps, h, _⟩ := h
  obtain ⟨n, h1, _⟩ := DataW.trod_bool ht h
  exact ⟨n, h1⟩
theorem Rd.string {cs : List Value} (ht : P.underlying t = some .string) (h : Rd enc m P W t cs) : ∃ s : ByteArray, cs = [.string s] ∧ s.size ≤ lim m := by
  obtain ⟨fuel, d, ps, h, hl⟩ := h
  obtain ⟨s, h1, h2, _⟩ := DataW.trod_string ht h
  obtain ⟨rfl, rfl⟩ := Prod.mk.injEq .. ▸ h2
  refine ⟨s, h1, ?_⟩
  cases m with
  | true =>
    simp only [Lim, Rows.uptoBulk] at hl
    have e : s.data.toList.length = s.size := by simp
    unfold lim; simp only; omega
  | false =>
    have := hl s.data.toList.length (by simp [DataW.weights])
    have e : s.data.toList.length = s.size := by simp
    unfold lim; simp only; unfold reachBytes at this; omega
theorem Rd.struct {fs : Array Field} {cs : List Value} (ht : P.underlying t = some (.struct fs)) (h : Rd enc m P W t cs) :
    cs.length = P.cellsOf t ∧ ∀ (i : Nat) (f : Field), fs[i]? = some f → Rd enc m P W f.type ((cs.drop f.offset).take (P.cellsOf f.type)) := by
  obtain ⟨fuel, d, ps, h, hl⟩ := h
  obtain ⟨xs, n, _, h2, h3, h4, h5⟩ := DataW.trod_struct ht h
  obtain ⟨rfl, rfl⟩ := Prod.mk.injEq .. ▸ h2
  refine ⟨h3, fun i f hf => ?_⟩
  have hi : i < xs.length := by rw [h4]; exact (Array.getElem?_eq_some_iff.1 hf).1
  have hx := List.getElem?_eq_getElem hi
  refine ⟨n, xs[i].1, xs[i].2, by rw [h5 i f hf, hx], ?_⟩
  have hmem : xs[i].1 ∈ xs.map (·.1) := List.mem_map.2 ⟨xs[i], List.getElem_mem hi, rfl⟩
  cases m with
  | true =>
    simp only [Lim, Rows.uptoBulk] at hl ⊢
    have := bulk_part_le hmem
    omega
  | false =>
    intro q hq
    refine hl q ?_
    simp only [DataW.weights, ht]
    refine DataW.weights_mem_each (j := i) (t := f.type) (d := xs[i].1) ?_ ?_ q hq
    · rw [List.getElem?_map, Array.getElem?_toList, hf]; rfl
    · rw [List.getElem?_map, hx]; rfl
theorem Rd.array {n : Nat} {e : TypeId} {cs : List Value} (ht : P.underlying t = some (.array n e)) (h : Rd enc m P W t cs) :
    cs.length = P.cellsOf t ∧ ∀ i, i < n → Rd enc m P W e ((cs.drop (i * P.cellsOf e)).take (P.cellsOf e)) := by
  obtain ⟨fuel, d, ps, h, hl⟩ := h
  obtain ⟨xs, k, _, h2, h3, h4, h5⟩ := DataW.trod_array ht h
  obtain ⟨rfl, rfl⟩ := Prod.mk.injEq .. ▸ h2
  refine ⟨h3, fun i hi => ?_⟩
  have hi' : i < xs.length := by omega
  have hx := List.getElem?_eq_getElem hi'
  refine ⟨k, xs[i].1, xs[i].2, by rw [h5 i hi, hx], ?_⟩
  have hmem : xs[i].1 ∈ xs.map (·.1) := List.mem_map.2 ⟨xs[i], List.getElem_mem hi', rfl⟩
  cases m with
  | true =>
    simp only [Lim, Rows.uptoBulk] at hl ⊢
    have := bulk_part_le hmem
    omega
  | false =>
    intro q hq
    refine hl q ?_
    simp only [DataW.weights, ht]
    exact weightsAll_mem hmem q hq
theorem Rd.slice {e : TypeId} {cs : List Value} (ht : P.underlying t = some (.slice e)) (h : Rd enc m P W t cs) :
    cs = [.slice none 0 0] ∨ ∃ a len cap, cs = [.slice (some a) len cap] ∧ len ≤ cap ∧ cap * (match m with | true => 1 | false => P.bytesOf e) ≤ lim m ∧
      ∀ i, i < len → ∃ xs, W.cells? 0 (a.add (i * P.cellsOf e)) (P.cellsOf e) = some xs ∧ Rd enc m P W e xs := by
  obtain ⟨fuel, d, ps, h, hl⟩ := h
  rcases DataW.trod_slice ht h with ⟨h1, h2⟩ | ⟨a, len, cap, elems, rest, n, _, h1, h2, _, h3, h4, h5, h6, h7, h8⟩
  · exact .inl h1
  · right
    obtain ⟨rfl, rfl⟩ := Prod.mk.injEq .. ▸ h2
    obtain ⟨h9, h10⟩ := h7 rfl
    refine ⟨a, len, cap, h1, h3, ?_, fun i hi => ?_⟩
    · cases m with
      | true =>
        simp only [Lim, Rows.uptoBulk] at hl
        have l1 := bulk_length_le (elems.map (·.1))
        have l2 := bulk_length_le (rest.map (·.1))
        simp only [List.length_map] at l1 l2
        unfold lim; simp only; omega
      | false =>
        have := hl (((elems.map (·.1)).length + (rest.map (·.1)).length) * P.bytesOf e) (by simp only [DataW.weights, ht]; exact List.mem_cons_self ..)
        simp only [List.length_map, h5, h9] at this
        rw [show len + (cap - len) = cap from by omega] at this
        unfold lim; simp only; unfold reachBytes at this; omega
    · have hi' : i < elems.length := by omega
      have hx := List.getElem?_eq_getElem hi'
      have hb := h6 i hi
      rw [hx] at hb
      cases hc : W.cells? 0 (a.add (i * P.cellsOf e)) (P.cellsOf e) with
      | none => rw [hc] at hb; simp at hb
      | some xs =>
        rw [hc] at hb
        refine ⟨xs, rfl, n, elems[i].1, elems[i].2, hb, ?_⟩
        have hmem : elems[i].1 ∈ elems.map (·.1) := List.mem_map.2 ⟨elems[i], List.getElem_mem hi', rfl⟩
        cases m with
        | true =>
          simp only [Lim, Rows.uptoBulk] at hl ⊢
          have := bulk_part_le hmem
          omega
        | false =>
          intro q hq
          refine hl q ?_
          simp only [DataW.weights, ht]
          exact List.mem_cons_of_mem _ (List.mem_append_left _ (weightsAll_mem hmem q hq))

theorem RdV.int {k : IntKind} {v : Value} (ht : P.underlying t = some (.int k)) (h : RdV enc m P W t v) : ∃ n, v = .int k n ∧ (Lit.int k n).wf = true := by
  obtain ⟨⟨base, h1⟩, h2⟩ := h
  obtain ⟨n, rfl⟩ := okWide_int ht h1
  obtain ⟨n', h3, h4⟩ := h2.int ht
  simp [Value.cells] at h3
  exact ⟨n, rfl, h3 ▸ h4⟩
theorem RdV.bool {v : Value} (ht : P.underlying t = some .bool) (h : RdV enc m P W t v) : ∃ b, v = .bool b := by
  obtain ⟨⟨base, h1⟩, h2⟩ := h
  exact okWide_bool ht h1
theorem RdV.string {v : Value} (ht : P.underlying t = some .string) (h : RdV enc m P W t v) : ∃ s : ByteArray, v = .string s ∧ s.size ≤ lim m := by
  obtain ⟨⟨base, h1⟩, h2⟩ := h
  obtain ⟨n, rfl⟩ := okWide_string ht h1
  obtain ⟨n', h3, h4⟩ := h2.string ht
  simp [Value.cells] at h3
  exact ⟨n, rfl, h3 ▸ h4⟩
theorem RdV.agg {v : Value} (ht : (∃ fs, P.underlying t = some (.struct fs)) ∨ (∃ n e, P.underlying t = some (.array n e))) (h : RdV enc m P W t v) :
    ∃ cs : List Value, v = .agg cs.toArray ∧ Rd enc m P W t cs := by
  obtain ⟨⟨base, h1⟩, h2⟩ := h
  rcases ht with ⟨fs, ht⟩ | ⟨n, e, ht⟩ <;>
  · simp only [Value.okWide, ht] at h1
    obtain ⟨cs, rfl, _⟩ := h1
    exact ⟨cs.toList, by simp, by simpa [Value.cells] using h2⟩
theorem RdV.slice {e : TypeId} {v : Value} (ht : P.underlying t = some (.slice e)) (h : RdV enc m P W t v) : ∃ a n c, v = .slice a n c ∧ Rd enc m P W t [.slice a n c] := by
  obtain ⟨⟨base, h1⟩, h2⟩ := h
  obtain ⟨a, n, c, rfl⟩ := okWide_slice ht h1
  exact ⟨a, n, c, rfl, by simpa [Value.cells] using h2⟩

theorem cells_one {w : World} {a : Addr} {xs : List Value} (h : w.cells? 0 a 1 = some xs) : ∃ v, xs = [v] ∧ w.cell? a = some v := by
  unfold World.cells? at h
  simp [List.range_succ, Addr.add] at h
  cases hc : w.cell? a with
  | none => rw [hc] at h; simp at h
  | some v => rw [hc] at h; simp at h; exact ⟨v, h.symm, rfl⟩

/-- A slice whose elements are of one cell each. -/
theorem Rd.slice1 {e : TypeId} {a : Option Addr} {n c : Nat} (ht : P.underlying t = some (.slice e)) (he : P.cellsOf e = 1) (hb : m = false → 1 ≤ P.bytesOf e) (h : Rd enc m P W t [.slice a n c]) :
    n ≤ c ∧ c ≤ lim m ∧ (0 < n → ∃ b off, a = some ⟨b, off, none⟩ ∧ ∀ i, i < n → ∃ v, W.cell? ⟨b, off + i, none⟩ = some v ∧ Rd enc m P W e [v]) := by
  rcases h.slice ht with h1 | ⟨x, n', c', h1, h2, h3, h4⟩
  · simp at h1
    obtain ⟨rfl, rfl, rfl⟩ := h1
    exact ⟨Nat.le_refl _, by omega, fun h => by omega⟩
  · simp at h1
    obtain ⟨rfl, rfl, rfl⟩ := h1
    refine ⟨h2, ?_, fun hp => ?_⟩
    · cases m with
      | true => simpa using h3
      | false =>
        have := hb rfl
        simp only at h3
        have := Nat.mul_le_mul_left c this
        omega
    · obtain ⟨b, off, spot⟩ := x
      have hs : spot = none := by
        obtain ⟨xs, hx, _⟩ := h4 0 hp
        rw [he] at hx
        obtain ⟨v, _, hv⟩ := cells_one hx
        simpa [Addr.add] using World.cell?_spot hv
      subst hs
      refine ⟨b, off, rfl, fun i hi => ?_⟩
      obtain ⟨xs, hx, hr⟩ := h4 i hi
      rw [he] at hx
      obtain ⟨v, rfl, hv⟩ := cells_one hx
      refine ⟨v, ?_, hr⟩
      rw [← hv]
      unfold Addr.add
      by_cases h0 : i = 0
      · subst h0; simp
      · simp [h0]

theorem u8_of {n : Int} (h : (Lit.int .u8 n).wf = true) : ∃ x : UInt8, n = (x.toNat : Int) := by
  have hx : 0 ≤ n ∧ n ≤ 255 := by simpa [Lit.wf, IntKind.min, IntKind.max, IntKind.signed, IntKind.bits] using h
  refine ⟨UInt8.ofNat n.toNat, ?_⟩
  simp; omega

/-- A slice of bytes. -/
theorem Rd.bytes {e : TypeId} {a : Option Addr} {n c : Nat} (ht : P.underlying t = some (.slice e)) (hu : P.underlying e = some (.int .u8)) (he : P.cellsOf e = 1) (hb : P.bytesOf e = 1) (h : Rd enc m P W t [.slice a n c]) :
    ∃ l, Bytes W a n c l ∧ c ≤ lim m := by
  obtain ⟨h1, h2, h3⟩ := h.slice1 ht he (fun _ => by omega)
  have hlm := lim_le m
  by_cases hn : n = 0
  · subst hn
    exact ⟨[], ⟨rfl, h1, by omega, by omega, fun h => by omega⟩, h2⟩
  · obtain ⟨b, off, rfl, h4⟩ := h3 (by omega)
    have h5 : ∀ i, ∃ x : UInt8, i < n → W.cell? ⟨b, off + i, none⟩ = some (.int .u8 (x.toNat : Int)) := by
      intro i
      by_cases hi : i < n
      · obtain ⟨v, hv, hr⟩ := h4 i hi
        obtain ⟨k, hk, hw⟩ := hr.int hu
        simp at hk
        subst hk
        obtain ⟨x, rfl⟩ := u8_of hw
        exact ⟨x, fun _ => hv⟩
      · exact ⟨0, fun h => absurd h hi⟩
    refine ⟨(List.range n).map fun i => Classical.choose (h5 i), ⟨by simp, h1, by omega, by omega, fun _ => ⟨b, off, rfl, fun i hi => ?_⟩⟩, h2⟩
    rw [Classical.choose_spec (h5 i) hi]
    simp [List.getD_eq_getElem?_getD, hi]

theorem RdV.bytes {e : TypeId} {v : Value} (ht : P.underlying t = some (.slice e)) (hu : P.underlying e = some (.int .u8)) (he : P.cellsOf e = 1) (hb : P.bytesOf e = 1) (h : RdV enc m P W t v) :
    ∃ a n c l, v = .slice a n c ∧ Bytes W a n c l ∧ c ≤ lim m := by
  obtain ⟨a, n, c, rfl, hr⟩ := h.slice ht
  obtain ⟨l, h1, h2⟩ := hr.bytes ht hu he hb
  exact ⟨a, n, c, l, rfl, h1, h2⟩

end

section
variable {H : Type} {enc : TypeId × Value → H} {P : Program}

/-- What was read below the heap's old size reads as it did. -/
theorem trodAll_below (hl : laidOutB P = true) {W W' : World} (hb : Below W.heap.size W W') : ∀ {ts : List TypeId} {vs : List Value} {ds : List (DataW H)} {ps : List MemPlace},
    (∀ t ∈ ts, P.readableRec t = true ∧ t < P.types.size) → DataW.TrodAll enc P W 0 (fun _ => true) true ts vs ds ps →
    DataW.TrodAll enc P W' 0 (fun b => decide (b < W.heap.size)) true ts vs ds ps
  | [], [], [], _, _, h => h
  | t :: ts, v :: vs, d :: ds, ps, hr, h => by
    obtain ⟨p, q, h1, h2, rfl⟩ := h
    have hlt : ∀ x ∈ p, x.block < W.heap.size := by obtain ⟨m, hm⟩ := h1; exact DataW.trod_lt m _ _ _ hm
    exact ⟨p, q, Below.trod hl (hr t (List.mem_cons_self ..)).1 (hr t (List.mem_cons_self ..)).2 h1 hb hlt, trodAll_below hl hb (fun t ht => hr t (List.mem_cons_of_mem _ ht)) h2, rfl⟩
  | [], [], _ :: _, _, _, h => by simp [DataW.TrodAll] at h
  | [], _ :: _, _, _, _, h => by simp [DataW.TrodAll] at h
  | _ :: _, [], _, _, _, h => by simp [DataW.TrodAll] at h
  | _ :: _, _ :: _, [], _, _, h => by simp [DataW.TrodAll] at h

theorem trodAll_get {W : World} : ∀ {ts : List TypeId} {vs : List Value} {ds : List (DataW H)} {ps : List MemPlace}, DataW.TrodAll enc P W 0 (fun _ => true) true ts vs ds ps →
    vs.length = ts.length ∧ ds.length = ts.length ∧ ∀ (j : Nat) t v, ts[j]? = some t → vs[j]? = some v → ∃ d p, ds[j]? = some d ∧ DataW.Trod enc P W 0 (fun _ => true) true t v d p
  | [], [], [], _, _ => ⟨rfl, rfl, fun j t v h => by simp at h⟩
  | t :: ts, v :: vs, d :: ds, ps, h => by
    obtain ⟨p, q, h1, h2, rfl⟩ := h
    obtain ⟨l1, l2, h3⟩ := trodAll_get h2
    refine ⟨by simp [l1], by simp [l2], fun j t' v' ht hv => ?_⟩
    cases j with
    | zero =>
      simp only [List.getElem?_cons_zero, Option.some.injEq] at ht hv
      subst ht; subst hv
      exact ⟨d, p, rfl, h1⟩
    | succ j =>
      simp only [List.getElem?_cons_succ] at ht hv ⊢
      exact h3 j t' v' ht hv
  | [], [], _ :: _, _, h => by simp [DataW.TrodAll] at h
  | [], _ :: _, _, _, h => by simp [DataW.TrodAll] at h
  | _ :: _, [], _, _, h => by simp [DataW.TrodAll] at h
  | _ :: _, _ :: _, [], _, h => by simp [DataW.TrodAll] at h

/-- The post of a law that returned true and wrote nothing that was there. -/
theorem law_post {fn : Func} {s : ChangeSpec} {W W' : World} {args : Array Value} {ds gs : List (DataW H)} {before : List MemPlace} {tb : TypeId}
    (hv : s.vars = []) (hspec : ∀ ds : List (DataW H), ds.length = fn.params.size → s.fn H ds = { results := [.lit (.bool true)], args := ds })
    (hres : fn.resultTypes = #[tb]) (htb : P.underlying tb = some .bool) (hl : laidOutB P = true) (hread : ∀ t ∈ fn.params.toList, P.readableRec t = true ∧ t < P.types.size)
    (hW : DataW.Whole enc P fn.params.toList s.vars false W args.toList ds gs before) (hb : Below W.heap.size W W') :
    s.post enc P fn false true false false W args (.bool true) W' := by
  have hW' := hW
  obtain ⟨p, q, hA, hV, rfl, hfz, hnd⟩ := hW
  rw [hv] at hV
  obtain ⟨rfl, rfl⟩ := trodVars_none hV
  have hlen := (trodAll_get hA).2.1
  have e := hspec (ds ++ []) (by simpa using hlen)
  refine ⟨ds, [], _, [], p, [], hW', ?_, ?_, ?_, ?_, fun h => by cases h⟩
  · rw [e, hres]; exact trodAll_mk1 (shut_bool htb _)
  · rw [e]; simpa using trodAll_below hl hb hread hA
  · rw [e, hv]; rfl
  · exact hb.frame _

/-- THE FIRST FORM's STEP, for every law. -/
theorem lifted_said {C : Checked} {os : Os} {f : FuncId} {fn : Func} {s : ChangeSpec} {tb : TypeId}
    (own : ownKnob C.prog.godebug = none) (started : os.Started) (noInit : C.prog.inits.idxOf? f = none) (hfn : C.prog.funcs[f]? = some fn)
    (witness : ∃ (w : World) (tape : Tape) (i : Input), w.os = os ∧ (w.forCall tape i).Shaped C.prog ∧ i.vars = [] ∧ Input.okWide C.prog (w.forCall tape i) .any w.heap.size f i ∧
      s.pre6 enc C.prog fn [] false (w.forCall tape i).memory i.args ∧ ({} : Assume).holds C.prog (lone (Frame.enter C.prog f i.args .normal) [] (w.forCall tape i)))
    (hv : s.vars = []) (hspec : ∀ ds : List (DataW H), ds.length = fn.params.size → s.fn H ds = { results := [.lit (.bool true)], args := ds })
    (hres : fn.resultTypes = #[tb]) (htb : C.prog.underlying tb = some .bool) (hl : laidOutB C.prog = true) (hreadB : (fn.params.toList.all fun t => C.prog.readableRec t && decide (t < C.prog.types.size)) = true)
    (walk : ∀ (W : World) (args : Array Value), args.size = fn.params.size → (∀ (j : Nat) t v, fn.params[j]? = some t → args[j]? = some v → RdV enc false C.prog W t v) →
      Calls C.prog f args W fun e W' => e = .returned (.bool true) ∧ Below W.heap.size W W') :
    ReturnsInHanded {} C os f .any (s.pre6 enc C.prog fn [] false) (s.post enc C.prog fn false true false false) := by
  have hread : ∀ t ∈ fn.params.toList, C.prog.readableRec t = true ∧ t < C.prog.types.size := fun t ht => by simpa using List.all_eq_true.1 hreadB t ht
  refine returnsInHanded_of_change_sized own started noInit hfn witness ?_
  intro W base args ds gs before hval hW _ hsz _
  have hW' := hW
  obtain ⟨p, q, hA, hV, _⟩ := hW
  rw [hv] at hV
  obtain ⟨rfl, _⟩ := trodVars_none hV
  obtain ⟨l1, l2, hget⟩ := trodAll_get hA
  refine (walk W args (by simpa using l1) fun j t v ht hv' => ?_).mono fun e W' ⟨he, hb⟩ => ⟨_, he, law_post hv hspec hres htb hl hread hW' hb⟩
  obtain ⟨d, p', hd, fuel, ht'⟩ := hget j t v (by simpa using ht) (by simpa using hv')
  refine ⟨⟨base, hval j t v ht hv'⟩, fuel, d, p', ht', fun n hn => ?_⟩
  have := List.all_eq_true.1 hsz n (DataW.weights_mem_each (j := j) (t := t) (d := d) ?_ (by simpa using hd) n hn)
  · simpa using this
  · rw [List.getElem?_append_left (by have := (Array.getElem?_eq_some_iff.1 ht).1; simpa using this)]
    simpa using ht

/-- THE SECOND FORM's STEP. -/
theorem lifted_upto {C : Checked} {os : Os} {f : FuncId} {fn : Func} {s : ChangeSpec} {tb : TypeId} {F : Stop.Interp}
    (own : ownKnob C.prog.godebug = none) (started : os.Started) (noInit : C.prog.inits.idxOf? f = none) (hfn : C.prog.funcs[f]? = some fn)
    (witness : ∃ (w : World) (tape : Tape) (i : Input), w.os = os ∧ (w.forCall tape i).Shaped C.prog ∧ i.vars = [] ∧ Input.okWide C.prog (w.forCall tape i) .any w.heap.size f i ∧
      (Rows.OpenSpec.upto s).pre6 enc C.prog fn [] false (w.forCall tape i).memory i.args ∧ ({} : Assume).holds C.prog (lone (Frame.enter C.prog f i.args .normal) [] (w.forCall tape i)))
    (hv : s.vars = []) (hspec : ∀ ds : List (DataW H), ds.length = fn.params.size → s.fn H ds = { results := [.lit (.bool true)], args := ds })
    (hres : fn.resultTypes = #[tb]) (htb : C.prog.underlying tb = some .bool) (hl : laidOutB C.prog = true) (hreadB : (fn.params.toList.all fun t => C.prog.readableRec t && decide (t < C.prog.types.size)) = true)
    (walk : ∀ (W : World) (args : Array Value), args.size = fn.params.size → (∀ (j : Nat) t v, fn.params[j]? = some t → args[j]? = some v → RdV enc true C.prog W t v) →
      Calls C.prog f args W fun e W' => e = .returned (.bool true) ∧ Below W.heap.size W W') :
    ReturnsInHanded {} C os f .any ((Rows.OpenSpec.upto s).pre6 enc C.prog fn [] false) (((Rows.OpenSpec.upto s).at F).post enc C.prog fn false true false false) := by
  have hread : ∀ t ∈ fn.params.toList, C.prog.readableRec t = true ∧ t < C.prog.types.size := fun t ht => by simpa using List.all_eq_true.1 hreadB t ht
  refine returnsInHanded_of_cond (k := Rows.uptoSmall) rfl own started noInit hfn witness ?_
  intro W base args ds gs before hval hW _ hk _
  have hW1 : DataW.Whole enc C.prog fn.params.toList s.vars false W args.toList ds gs before := hW
  have hW' := hW1
  obtain ⟨p, q, hA, hV, _⟩ := hW1
  rw [hv] at hV
  obtain ⟨rfl, _⟩ := trodVars_none hV
  obtain ⟨l1, l2, hget⟩ := trodAll_get hA
  refine (walk W args (by simpa using l1) fun j t v ht hv' => ?_).mono fun e W' ⟨he, hb⟩ => ⟨_, he, law_post (s := s) hv hspec hres htb hl hread hW' hb⟩
  obtain ⟨d, p', hd, fuel, ht'⟩ := hget j t v (by simpa using ht) (by simpa using hv')
  refine ⟨⟨base, hval j t v ht hv'⟩, fuel, d, p', ht', ?_⟩
  have h1 : Rows.uptoBulkAll (ds ++ []) ≤ 1048576 := of_decide_eq_true hk
  rw [List.append_nil] at h1
  have h2 := bulk_part_le (List.mem_of_getElem? hd)
  show Rows.uptoBulk d ≤ 1048576
  omega

end

theorem u16_bd {n : Int} (h : (Lit.int .u16 n).wf = true) : 0 ≤ n ∧ n ≤ 65535 := by simpa [Lit.wf, IntKind.min, IntKind.max, IntKind.signed, IntKind.bits] using h
theorem u8_bd {n : Int} (h : (Lit.int .u8 n).wf = true) : 0 ≤ n ∧ n ≤ 255 := by simpa [Lit.wf, IntKind.min, IntKind.max, IntKind.signed, IntKind.bits] using h
theorem i64_bd {n : Int} (h : (Lit.int .i64 n).wf = true) : -9223372036854775808 ≤ n ∧ n ≤ 9223372036854775807 := by simpa [Lit.wf, IntKind.min, IntKind.max, IntKind.signed, IntKind.bits] using h

theorem own : ownKnob Try.prog.godebug = none := by kernel_rfl
theorem laidOut : laidOutB Try.prog = true := by kernel_rfl

theorem info_u8 : (Try.prog.info? 5).map (fun i => (i.zero, i.size, i.bytes)) = some (some (.int .u8 0), 1, 1) := by kernel_rfl

theorem args1 {args : Array Value} (h : args.size = 1) : ∃ a, args = #[a] := by
  obtain ⟨l⟩ := args
  match l, h with
  | [a], _ => exact ⟨a, rfl⟩
theorem args2 {args : Array Value} (h : args.size = 2) : ∃ a b, args = #[a, b] := by
  obtain ⟨l⟩ := args
  match l, h with
  | [a, b], _ => exact ⟨a, b, rfl⟩
theorem args3 {args : Array Value} (h : args.size = 3) : ∃ a b c, args = #[a, b, c] := by
  obtain ⟨l⟩ := args
  match l, h with
  | [a, b, c], _ => exact ⟨a, b, c, rfl⟩

end Go.Proofs.Ytnbbaemijogeoaa
