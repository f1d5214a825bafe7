/- A law's arguments as things of any type: slices of strings, of structs. No program in sight. -/
import Derived.Test.YtnbbaemijogeoaaAeAr
set_option linter.unusedSimpArgs false
set_option linter.unusedVariables false
namespace Go.Proofs.Ytnbbaemijogeoaa.Ae
open Go Go.RowKit

section
variable {H : Type} (enc : TypeId × Value → H) (b : Bool) (P : Program) (W : World)

/-- the cells of a type, read as a thing -/
def OpenAs (t : TypeId) {α : Type} (en : α → List AVal) (Q : α → Prop) : Prop :=
  ∀ cs, Rd enc b P W t cs → ∃ a, Q a ∧ VL (old W) W Mp.nil [] (en a) cs ∧ ∀ x ∈ cs, x.oneCell' = true
def fieldsCells : List Field → Nat
  | [] => 0
  | x :: r => P.cellsOf x.type + fieldsCells r
def FieldsAs (fs : List Field) (off : Nat) {α : Type} (en : α → List AVal) (Q : α → Prop) : Prop :=
  ∀ cs : List Value, (∀ x ∈ fs, Rd enc b P W x.type ((cs.drop x.offset).take (P.cellsOf x.type))) → ∃ a, Q a ∧ VL (old W) W Mp.nil [] (en a) ((cs.drop off).take (fieldsCells P fs)) ∧ ∀ x ∈ (cs.drop off).take (fieldsCells P fs), x.oneCell' = true
variable {enc b P W}

theorem OpenAs.map {t : TypeId} {α β : Type} {en : α → List AVal} {Q : α → Prop} (h : OpenAs enc b P W t en Q) {en' : β → List AVal} {Q' : β → Prop} (g : α → β) (h1 : ∀ a, Q a → en' (g a) = en a) (h2 : ∀ a, Q a → Q' (g a)) : OpenAs enc b P W t en' Q' :=
  fun cs hr => let ⟨a, x, y, z⟩ := h cs hr
  ⟨g a, h2 a x, by rw [h1 a x]; exact y, z⟩
theorem open_int {t : TypeId} {k : IntKind} (ht : P.underlying t = some (.int k)) : OpenAs enc b P W t (fun n : Int => [.int k n]) (fun n => (Lit.int k n).wf = true) := by
  intro cs hr
  obtain ⟨n, rfl, hw⟩ := hr.int ht
  exact ⟨n, hw, vl_cons (.int k n) vl_nil, fun x hx => by simp at hx; subst hx; rfl⟩
theorem open_i64 {t : TypeId} (ht : P.underlying t = some (.int .i64)) : OpenAs enc b P W t (fun n : Int => [.int .i64 n]) (fun n => I64 n) :=
  (open_int ht).map id (fun _ _ => rfl) fun _ h => i64_bd h
theorem open_bool {t : TypeId} (ht : P.underlying t = some .bool) : OpenAs enc b P W t (fun c : Bool => [.bool c]) (fun _ => True) := by
  intro cs hr
  obtain ⟨c, rfl⟩ := hr.bool ht
  exact ⟨c, trivial, vl_cons (.bool c) vl_nil, fun x hx => by simp at hx; subst hx; rfl⟩
theorem open_str {t : TypeId} (ht : P.underlying t = some .string) : OpenAs enc b P W t (fun l : List UInt8 => [.str l]) (fun l => l.length ≤ 140737488351232) := by
  intro cs hr
  obtain ⟨s, rfl, hs⟩ := hr.string ht
  have e : s = ⟨s.data.toList.toArray⟩ := by simp
  have hl : s.data.toList.length = s.size := rfl
  have := lim_le b
  refine ⟨s.data.toList, by show s.data.toList.length ≤ _; omega, vl_cons ?_ vl_nil, fun x hx => by simp at hx; subst hx; rfl⟩
  conv => arg 6; rw [e]
  exact .str _ (by rw [hl]; unfold big; omega)
/-- by the type's shape -/
theorem open_shape {t : TypeId} {d : Nat} {ks : List Lf} (hs : shapeT P d t = some ks) : OpenAs enc b P W t (fun vs : List AVal => vs) (LfsR b ks) :=
  fun cs hr => let ⟨vs, h1, h2, h3⟩ := opens d t ks cs hs hr
  ⟨vs, h1, h2, h3⟩
theorem fields_nil {off : Nat} : FieldsAs enc b P W [] off (fun _ : Unit => []) (fun _ => True) := by
  intro cs _
  exact ⟨(), trivial, by simp only [fieldsCells, List.take_zero]; exact vl_nil, fun x hx => by simp [fieldsCells] at hx⟩
theorem fields_cons {x : Field} {r : List Field} {off : Nat} {α β : Type} {en : α → List AVal} {Q : α → Prop} {en' : β → List AVal} {Q' : β → Prop} (ho : x.offset = off) (h : OpenAs enc b P W x.type en Q)
    (h' : FieldsAs enc b P W r (off + P.cellsOf x.type) en' Q') : FieldsAs enc b P W (x :: r) off (fun a : α × β => en a.1 ++ en' a.2) (fun a => Q a.1 ∧ Q' a.2) := by
  intro cs hr
  obtain ⟨a, a1, a2, a3⟩ := h _ (hr x (List.mem_cons_self ..))
  obtain ⟨c, c1, c2, c3⟩ := h' cs fun y hy => hr y (List.mem_cons_of_mem _ hy)
  rw [ho] at a2 a3
  refine ⟨(a, c), ⟨a1, c1⟩, ?_, fun y hy => ?_⟩
  · simp only [fieldsCells]
    rw [List.take_add, List.drop_drop]
    exact VL.append a2 c2
  · simp only [fieldsCells] at hy
    rw [List.take_add, List.drop_drop] at hy
    rcases List.mem_append.1 hy with hy | hy
    · exact a3 y hy
    · exact c3 y hy
theorem open_struct {t : TypeId} {fs : Array Field} {α : Type} {en : α → List AVal} {Q : α → Prop} (ht : P.underlying t = some (.struct fs)) (hn : fieldsCells P fs.toList = P.cellsOf t) (h : FieldsAs enc b P W fs.toList 0 en Q) : OpenAs enc b P W t en Q := by
  intro cs hr
  obtain ⟨h1, h2⟩ := hr.struct ht
  obtain ⟨a, a1, a2, a3⟩ := h cs fun x hx => by
    obtain ⟨i, hi⟩ := List.getElem?_of_mem hx
    exact h2 i x (by rw [← Array.getElem?_toList]; exact hi)
  rw [hn, List.drop_zero, ← h1, List.take_length] at a2 a3
  exact ⟨a, a1, a2, a3⟩
theorem cell_old {w : World} {g off : Nat} {v : Value} (h : w.cell? ⟨g, off, none⟩ = some v) : old w g := by
  unfold old
  rcases Nat.lt_or_ge g w.heap.size with h' | h'
  · exact h'
  · unfold World.cell? at h
    simp [Array.getElem?_eq_none h'] at h
theorem open_slice {t e : TypeId} {α : Type} {en : α → List AVal} {Q : α → Prop} {sz : Nat} (d : α) (ht : P.underlying t = some (.slice e)) (hsz : P.cellsOf e = sz) (h1 : 1 ≤ sz) (hb : 1 ≤ P.bytesOf e) (hb2 : P.bytesOf e ≤ 1000000) (he : OpenAs enc b P W e en Q) (hlen : ∀ a, (en a).length = sz) :
    OpenAs enc b P W t (fun l : List α => [.ro l.length sz (fun i => en (l.getD i d))]) (fun l => (∀ a ∈ l, Q a) ∧ l.length * P.bytesOf e ≤ 140737488351232) := by
  intro cs hr
  have hlim := lim_le b
  rcases hr.slice ht with rfl | ⟨a, n, c, rfl, h2, h3, h4⟩
  · refine ⟨[], ⟨fun _ h => by simp at h, by simp⟩, vl_cons ?_ vl_nil, fun x hx => by simp at hx; subst hx; rfl⟩
    exact .ro 0 sz _ none 0 0 0 (fun _ _ => .bool true) (Nat.le_refl _) (Nat.zero_le _) (Nat.zero_le _) (fun h => by omega) (fun i j v h _ => by omega) (fun i j v h _ => by omega) (fun i h => by omega)
  · have hnb : n * P.bytesOf e ≤ 140737488351232 := by
      cases b with
      | true =>
        simp only [Nat.mul_one] at h3
        have h5 : n ≤ 1048576 := by unfold lim at h3; simp only at h3; omega
        calc n * P.bytesOf e ≤ 1048576 * 1000000 := Nat.mul_le_mul h5 hb2
          _ ≤ _ := by omega
      | false =>
        simp only at h3
        have := Nat.mul_le_mul_right (P.bytesOf e) h2
        omega
    have hc : c ≤ lim b := by
      cases b with
      | true => simpa using h3
      | false =>
        simp only at h3
        have := Nat.mul_le_mul_left c hb
        omega
    -- the elements
    have h5 : ∀ i, ∃ z : α × List Value, i < n → Q z.1 ∧ VL (old W) W Mp.nil [] (en z.1) z.2 ∧ (∀ x ∈ z.2, x.oneCell' = true) ∧ W.cells? 0 (a.add (i * P.cellsOf e)) (P.cellsOf e) = some z.2 := by
      intro i
      by_cases hi : i < n
      · obtain ⟨xs, hx, hr'⟩ := h4 i hi
        obtain ⟨z, q1, q2, q3⟩ := he xs hr'
        exact ⟨(z, xs), fun _ => ⟨q1, q2, q3, hx⟩⟩
      · exact ⟨(d, []), fun h => absurd h hi⟩
    let z : Nat → α × List Value := fun i => Classical.choose (h5 i)
    have hz : ∀ i, i < n → Q (z i).1 ∧ VL (old W) W Mp.nil [] (en (z i).1) (z i).2 ∧ (∀ x ∈ (z i).2, x.oneCell' = true) ∧ W.cells? 0 (a.add (i * P.cellsOf e)) (P.cellsOf e) = some (z i).2 := fun i => Classical.choose_spec (h5 i)
    have hget : ∀ i, i < n → ((List.range n).map fun i => (z i).1).getD i d = (z i).1 := fun i hi => by
      rw [List.getD_eq_getElem?_getD, List.getElem?_map, List.getElem?_range hi]; rfl
    refine ⟨(List.range n).map fun i => (z i).1, ⟨fun x hx => ?_, by simpa using hnb⟩, vl_cons ?_ vl_nil, fun x hx => by simp at hx; subst hx; rfl⟩
    · obtain ⟨i, hi, rfl⟩ := List.mem_map.1 hx
      exact (hz i (by simpa using hi)).1
    obtain ⟨g, off, spot⟩ := a
    have hsome : 0 < n → spot = none := fun hp => by
      have := (World.cells?_some (hz 0 hp).2.2.2).2.2 0 (by omega)
      rw [Nat.zero_mul] at this
      have hl := (hz 0 hp).2.1.1
      rw [hlen] at hl
      rw [List.getElem?_eq_getElem (by omega)] at this
      simpa [Addr.add] using World.cell?_spot this
    have key : ∀ i j v, i < n → (en (z i).1)[j]? = some v → ∃ x, (z i).2[j]? = some x ∧ W.cell? ⟨g, off + i * sz + j, none⟩ = some x ∧ x.oneCell' = true ∧ VR (old W) W Mp.nil [] v x := by
      intro i j v hi hv
      obtain ⟨q1, q2, q3, q4⟩ := hz i hi
      have hj := (List.getElem?_eq_some_iff.1 hv).1
      rw [hlen] at hj
      have hl := q2.1
      rw [hlen] at hl
      have hx := List.getElem?_eq_getElem (l := (z i).2) (i := j) (by omega)
      refine ⟨_, hx, ?_, q3 _ (List.getElem_mem _), q2.2 j _ _ hv hx⟩
      have := (World.cells?_some q4).2.2 j (by omega)
      rw [hx] at this
      rw [← this]
      have hs := hsome (by omega)
      subst hs
      rw [hsz]
      unfold Addr.add
      by_cases h0 : i * sz = 0
      · rw [if_pos h0]
        by_cases h00 : j = 0
        · rw [if_pos h00]; simp [h0, h00]
        · rw [if_neg h00]; simp [h0]
      · rw [if_neg h0]
        by_cases h00 : j = 0
        · rw [if_pos h00]; simp [h00]
        · rw [if_neg h00]
    have hgen := VR.ro (R := old W) (w := W) (m := Mp.nil) (H := []) n sz (fun i => en (((List.range n).map fun i => (z i).1).getD i d)) (some ⟨g, off, spot⟩) c g off (fun i j => ((z i).2[j]?).getD (.bool true)) h2 (by unfold maxI; omega) (by unfold room; omega) ?_ ?_ ?_ ?_
    · have hnl : ((List.range n).map fun i => (z i).1).length = n := by simp
      conv => arg 5; rw [hnl]
      exact hgen
    · intro hp
      refine ⟨by rw [hsome hp], ?_⟩
      have hl : 0 < (en (z 0).1).length := by rw [hlen]; omega
      obtain ⟨x, _, hc, _⟩ := key 0 0 _ hp (List.getElem?_eq_getElem hl)
      exact cell_old hc
    · intro i j v hi hv
      rw [hget i hi] at hv
      obtain ⟨x, k1, k2, k3, _⟩ := key i j v hi hv
      rw [k1]
      exact ⟨k2, k3⟩
    · intro i j v hi hv
      rw [hget i hi] at hv
      obtain ⟨x, k1, _, _, k4⟩ := key i j v hi hv
      rw [k1]
      exact k4
    · intro i _
      exact hlen _
/-- an argument that is one cell -/
theorem arg_one {t : TypeId} {v : Value} {α : Type} {en : α → AVal} {Q : α → Prop} (h : OpenAs enc b P W t (fun a => [en a]) Q) (hv : RdV enc b P W t v) (hc : v.cells.toList = [v]) : ∃ a, Q a ∧ VR (old W) W Mp.nil [] (en a) v := by
  obtain ⟨a, h1, h2, h3⟩ := h _ hv.2
  rw [hc] at h2
  obtain ⟨u, hu, h4⟩ := h2.one
  cases hu
  exact ⟨a, h1, h4⟩
theorem arg_slice {t e : TypeId} {v : Value} {α : Type} {en : α → AVal} {Q : α → Prop} (ht : P.underlying t = some (.slice e)) (h : OpenAs enc b P W t (fun a => [en a]) Q) (hv : RdV enc b P W t v) : ∃ a, Q a ∧ VR (old W) W Mp.nil [] (en a) v := by
  obtain ⟨x, n, c, rfl, _⟩ := hv.slice ht
  exact arg_one h hv rfl
theorem arg_struct {t : TypeId} {v : Value} {α : Type} {en : α → List AVal} {Q : α → Prop} (ht : (∃ fs, P.underlying t = some (.struct fs)) ∨ (∃ n e, P.underlying t = some (.array n e))) (h : OpenAs enc b P W t en Q) (hv : RdV enc b P W t v) : ∃ a, Q a ∧ VR (old W) W Mp.nil [] (.agg (en a)) v := by
  obtain ⟨cs, rfl, hc⟩ := hv.agg ht
  obtain ⟨a, h1, h2, h3⟩ := h cs hc
  exact ⟨a, h1, .agg _ cs h2.1 h2.2 h3⟩
end
end Go.Proofs.Ytnbbaemijogeoaa.Ae
