/- A law's arguments, of any shape, as the evaluator's values. No program in sight. -/
import Derived.Test.YtnbbaemijogeoaaAeLw
set_option linter.unusedSimpArgs false
set_option linter.unusedVariables false
namespace Go.Proofs.Ytnbbaemijogeoaa.Ae
open Go Go.RowKit

/-- what a type's cells are -/
inductive Lf where
  | bool | int (k : IntKind) | byte | str | bytes
def repLf : Nat → List Lf → List Lf
  | 0, _ => []
  | n + 1, ks => ks ++ repLf n ks
def fieldsShape (P : Program) (f : TypeId → Option (List Lf)) : List Field → Nat → Option (List Lf)
  | [], _ => some []
  | x :: r, off => match f x.type, fieldsShape P f r (off + P.cellsOf x.type) with
    | some ks, some l => cond (Nat.beq x.offset off && Nat.beq ks.length (P.cellsOf x.type)) (some (ks ++ l)) none
    | _, _ => none
def shapeT (P : Program) : Nat → TypeId → Option (List Lf)
  | 0, _ => none
  | d + 1, t => match P.underlying t with
    | some .bool => some [.bool]
    | some (.int .u8) => some [.byte]
    | some (.int k) => some [.int k]
    | some .string => some [.str]
    | some (.struct fs) => match fieldsShape P (shapeT P d) fs.toList 0 with
      | some ks => cond (Nat.beq ks.length (P.cellsOf t)) (some ks) none
      | none => none
    | some (.array n e) => match shapeT P d e with
      | some ks => cond (Nat.beq ks.length (P.cellsOf e) && Nat.beq (n * P.cellsOf e) (P.cellsOf t)) (some (repLf n ks)) none
      | none => none
    | some (.slice e) => match P.underlying e with
      | some (.int .u8) => cond (Nat.beq (P.cellsOf e) 1 && Nat.beq (P.bytesOf e) 1) (some [.bytes]) none
      | _ => none
    | _ => none
def LfR (b : Bool) : Lf → AVal → Prop
  | .bool, v => ∃ c, v = .bool c
  | .int k, v => ∃ n, v = .int k n ∧ (Lit.int k n).wf = true
  | .byte, v => ∃ x, v = .byte x
  | .str, v => ∃ l, v = .str l ∧ l.length ≤ lim b
  | .bytes, v => ∃ l, v = .roB l ∧ l.length ≤ lim b
def LfsR (b : Bool) : List Lf → List AVal → Prop
  | [], vs => vs = []
  | k :: ks, vs => ∃ v r, vs = v :: r ∧ LfR b k v ∧ LfsR b ks r
theorem LfsR.append {b : Bool} : ∀ {ks ls : List Lf} {vs us : List AVal}, LfsR b ks vs → LfsR b ls us → LfsR b (ks ++ ls) (vs ++ us)
  | [], ls, vs, us, h, g => by simp only [LfsR] at h; subst h; exact g
  | k :: ks, ls, vs, us, ⟨v, r, h1, h2, h3⟩, g => by subst h1; exact ⟨v, r ++ us, rfl, h2, h3.append g⟩
theorem LfsR.length {b : Bool} : ∀ {ks : List Lf} {vs : List AVal}, LfsR b ks vs → vs.length = ks.length
  | [], vs, h => by simp only [LfsR] at h; subst h; rfl
  | k :: ks, vs, ⟨v, r, h1, h2, h3⟩ => by subst h1; simp [h3.length]

section
variable {H : Type} {enc : TypeId × Value → H} {b : Bool} {P : Program} {W : World}

/-- values, and that cells hold them -/
def Opens (b : Bool) (W : World) (ks : List Lf) (cs : List Value) : Prop := ∃ vs, LfsR b ks vs ∧ VL (old W) W Mp.nil [] vs cs ∧ ∀ x ∈ cs, x.oneCell' = true
theorem Opens.append {ks ls : List Lf} {cs ds : List Value} (h : Opens b W ks cs) (g : Opens b W ls ds) : Opens b W (ks ++ ls) (cs ++ ds) := by
  obtain ⟨vs, h1, h2, h3⟩ := h
  obtain ⟨us, g1, g2, g3⟩ := g
  refine ⟨vs ++ us, h1.append g1, VL.append h2 g2, fun x hx => ?_⟩
  rcases List.mem_append.1 hx with hx | hx
  · exact h3 x hx
  · exact g3 x hx
theorem Opens.one {k : Lf} {v : AVal} {c : Value} (h : LfR b k v) (hv : VR (old W) W Mp.nil [] v c) (hc : c.oneCell' = true) : Opens b W [k] [c] :=
  ⟨[v], ⟨v, [], rfl, h, rfl⟩, ⟨rfl, fun i u x hu hx => by
    cases i with
    | zero => simp at hu hx; subst hu hx; exact hv
    | succ i => simp at hu⟩, fun x hx => by simp at hx; subst hx; exact hc⟩
theorem Opens.nil : Opens b W [] [] := ⟨[], rfl, ⟨rfl, fun i v x h _ => by simp at h⟩, fun x hx => by simp at hx⟩

theorem opens_fields {f : TypeId → Option (List Lf)} {cs : List Value} (ih : ∀ t ks ds, f t = some ks → Rd enc b P W t ds → Opens b W ks ds) : ∀ (fs : List Field) (off : Nat) (ks : List Lf), fieldsShape P f fs off = some ks →
    (∀ x ∈ fs, Rd enc b P W x.type ((cs.drop x.offset).take (P.cellsOf x.type))) → Opens b W ks ((cs.drop off).take ks.length)
  | [], off, ks, h, _ => by simp only [fieldsShape, Option.some.injEq] at h; subst h; exact .nil
  | x :: r, off, ks, h, hr => by
    simp only [fieldsShape] at h
    split at h
    · rename_i k1 l h1 h2
      cases hc : Nat.beq x.offset off && Nat.beq k1.length (P.cellsOf x.type) with
      | false => rw [hc] at h; cases h
      | true =>
        rw [hc] at h
        simp only [cond_true, Option.some.injEq] at h
        subst h
        rw [Bool.and_eq_true] at hc
        have e1 := Nat.eq_of_beq_eq_true hc.1
        have e2 := Nat.eq_of_beq_eq_true hc.2
        have a1 := ih _ _ _ h1 (hr x (List.mem_cons_self ..))
        have a2 := opens_fields ih r _ _ h2 fun y hy => hr y (List.mem_cons_of_mem _ hy)
        rw [e1] at a1
        rw [List.length_append, List.take_add, List.drop_drop]
        rw [← e2] at a1 a2
        exact a1.append a2
    · cases h
theorem opens_array {ks : List Lf} {e : TypeId} {cs : List Value} (hk : ks.length = P.cellsOf e) (ih : ∀ ds, Rd enc b P W e ds → Opens b W ks ds) : ∀ (n i : Nat), (∀ j, j < n → Rd enc b P W e ((cs.drop ((i + j) * P.cellsOf e)).take (P.cellsOf e))) →
    Opens b W (repLf n ks) ((cs.drop (i * P.cellsOf e)).take (n * P.cellsOf e))
  | 0, i, _ => by simp only [repLf, Nat.zero_mul, List.take_zero]; exact .nil
  | n + 1, i, h => by
    have a1 := ih _ (h 0 (by omega))
    have a2 := opens_array hk ih n (i + 1) fun j hj => by
      have := h (j + 1) (by omega)
      rw [show i + 1 + j = i + (j + 1) by omega]; exact this
    rw [Nat.add_zero] at a1
    simp only [repLf]
    rw [Nat.add_mul, Nat.one_mul, Nat.add_comm (n * P.cellsOf e), List.take_add, List.drop_drop]
    rw [show (i + 1) * P.cellsOf e = i * P.cellsOf e + P.cellsOf e by rw [Nat.add_mul, Nat.one_mul]] at a2
    exact a1.append a2

theorem opens : ∀ (d : Nat) (t : TypeId) (ks : List Lf) (cs : List Value), shapeT P d t = some ks → Rd enc b P W t cs → Opens b W ks cs
  | 0, t, ks, cs, h, _ => by simp [shapeT] at h
  | d + 1, t, ks, cs, h, hr => by
    simp only [shapeT] at h
    split at h
    · rename_i ht; cases h
      obtain ⟨c, rfl⟩ := hr.bool ht
      exact .one ⟨c, rfl⟩ (.bool c) rfl
    · rename_i ht; cases h
      obtain ⟨n, rfl, hw⟩ := hr.int ht
      obtain ⟨x, rfl⟩ := u8_of hw
      exact .one ⟨x, rfl⟩ (.byte x) rfl
    · rename_i k _ ht; cases h
      obtain ⟨n, rfl, hw⟩ := hr.int ht
      exact .one ⟨n, rfl, hw⟩ (.int k n) rfl
    · rename_i ht; cases h
      obtain ⟨s, rfl, hs⟩ := hr.string ht
      have e : s = ⟨s.data.toList.toArray⟩ := by simp
      have hl : s.data.toList.length = s.size := rfl
      have := lim_le b
      refine .one (v := .str s.data.toList) ⟨_, rfl, by rw [hl]; exact hs⟩ ?_ rfl
      conv => arg 6; rw [e]
      exact .str _ (by rw [hl]; unfold big; omega)
    · rename_i fs ht
      obtain ⟨h1, h2⟩ := hr.struct ht
      split at h
      · rename_i ks' hk
        cases hc : Nat.beq ks'.length (P.cellsOf t) with
        | false => rw [hc] at h; cases h
        | true =>
          rw [hc] at h
          simp only [cond_true, Option.some.injEq] at h
          subst h
          have e := Nat.eq_of_beq_eq_true hc
          have := opens_fields (cs := cs) (fun t ks ds => opens d t ks ds) fs.toList 0 _ hk fun x hx => by
            obtain ⟨i, hi⟩ := List.getElem?_of_mem hx
            exact h2 i x (by rw [← Array.getElem?_toList]; exact hi)
          rwa [List.drop_zero, e, ← h1, List.take_length] at this
      · cases h
    · rename_i n e ht
      obtain ⟨h1, h2⟩ := hr.array ht
      split at h
      · rename_i ks' hk
        cases hc : Nat.beq ks'.length (P.cellsOf e) && Nat.beq (n * P.cellsOf e) (P.cellsOf t) with
        | false => rw [hc] at h; cases h
        | true =>
          rw [hc] at h
          simp only [cond_true, Option.some.injEq] at h
          subst h
          rw [Bool.and_eq_true] at hc
          have e1 := Nat.eq_of_beq_eq_true hc.1
          have e2 := Nat.eq_of_beq_eq_true hc.2
          have := opens_array (cs := cs) e1 (fun ds => opens d e _ ds hk) n 0 fun j hj => by rw [Nat.zero_add]; exact h2 j hj
          rwa [Nat.zero_mul, List.drop_zero, e2, ← h1, List.take_length] at this
      · cases h
    · rename_i e ht
      split at h
      · rename_i hu
        cases hc : Nat.beq (P.cellsOf e) 1 && Nat.beq (P.bytesOf e) 1 with
        | false => rw [hc] at h; cases h
        | true =>
          rw [hc] at h
          simp only [cond_true, Option.some.injEq] at h
          subst h
          rw [Bool.and_eq_true] at hc
          have hx : ∃ a n c, cs = [.slice a n c] := by
            rcases hr.slice ht with h1 | ⟨a, n, c, h1, _⟩
            · exact ⟨_, _, _, h1⟩
            · exact ⟨_, _, _, h1⟩
          obtain ⟨a, n, c, rfl⟩ := hx
          obtain ⟨l, hB, hc'⟩ := hr.bytes ht hu (Nat.eq_of_beq_eq_true hc.1) (Nat.eq_of_beq_eq_true hc.2)
          obtain ⟨l', hl, hv⟩ := bytes_arg (b := b) (W := W) (m := Mp.nil) (G := []) hB hc'
          exact .one ⟨l', rfl, hl⟩ hv rfl
      · cases h
    · cases h

theorem vl_nil : VL (old W) W Mp.nil [] [] [] := ⟨rfl, fun i v x h _ => by simp at h⟩
theorem vl_cons {a : AVal} {x : Value} {us : List AVal} {xs : List Value} (h : VR (old W) W Mp.nil [] a x) (hs : VL (old W) W Mp.nil [] us xs) : VL (old W) W Mp.nil [] (a :: us) (x :: xs) :=
  ⟨by simp [hs.1], fun i v y hv hy => by
    cases i with
    | zero => simp at hv hy; subst hv hy; exact h
    | succ i => exact hs.2 i v y (by simpa using hv) (by simpa using hy)⟩
theorem len_lim {l : List UInt8} (h : l.length ≤ lim b) : l.length ≤ 140737488351232 := Nat.le_trans h (lim_le b)
/-- one argument -/
theorem arg_of {t : TypeId} {v : Value} {d : Nat} {ks : List Lf} (hs : shapeT P d t = some ks) (h : RdV enc b P W t v) : ∃ vs, LfsR b ks vs ∧ VL (old W) W Mp.nil [] vs v.cells.toList ∧ ∀ x ∈ v.cells.toList, x.oneCell' = true :=
  opens d t ks _ hs h.2
theorem arg_agg {t : TypeId} {v : Value} {d : Nat} {ks : List Lf} (ht : (∃ fs, P.underlying t = some (.struct fs)) ∨ (∃ n e, P.underlying t = some (.array n e))) (hs : shapeT P d t = some ks) (h : RdV enc b P W t v) :
    ∃ vs, LfsR b ks vs ∧ VR (old W) W Mp.nil [] (.agg vs) v := by
  obtain ⟨cs, rfl, hc⟩ := h.agg ht
  obtain ⟨vs, h1, h2, h3⟩ := opens d t ks cs hs hc
  exact ⟨vs, h1, .agg vs cs h2.1 h2.2 h3⟩
end
end Go.Proofs.Ytnbbaemijogeoaa.Ae
