/- Indexes, cuts, conversions. No program in sight. Conversions, make, append, copy. No program in sight. Sources of cells, append, copy, make. No program in sight. -/
import Derived.Test.YtnbbaemijogeoaaAeD
import Derived.Test.YtnbbaemijogeoaaStr
import Derived.Laws.IdiomStrings
import Derived.Laws.MakeOwn
namespace Go.Proofs.Ytnbbaemijogeoaa.Ae
open Go
section
variable {P : Program} {R : Nat → Prop} {w : World} {m : Mp} {H : Hp} {env : Env} {a : Act}

theorem indexAddrF_sound {t : TypeId} {x i q : AVal} {y j : Value} {c : Option Prop} (hx : VR R w m H x y) (hi : VR R w m H i j) (h : indexAddrF P t x i = some (c, q)) (hc : ∀ p, c = some p → p) :
    ∃ z, (Instr.indexAt t y j).run P w = .ok z w ∧ VR R w m H q z := by
  unfold indexAddrF at h
  split at h
  case h_2 => cases h
  rename_i n hn
  obtain ⟨kk, rfl⟩ := intOf_sound hi hn
  split at h
  · rename_i e hu
    split at h
    · rename_i sz b off len sz' hsz
      cases hb : Nat.beq sz sz' with
      | false => rw [hb] at h; cases h
      | true =>
        rw [hb] at h
        obtain rfl := Nat.eq_of_beq_eq_true hb
        simp only [cond_true, Option.some.injEq, Prod.mk.injEq] at h
        obtain ⟨rfl, rfl⟩ := h
        obtain ⟨h0, h1⟩ := hc _ rfl
        cases hx with
        | sl _ _ _ _ ad cp g1 g2 g3 g4 g5 g6 =>
          obtain ⟨g, nn, e1, rfl, _, _⟩ := g5 (by omega)
          refine ⟨_, ?_, .ptr b _ g e1⟩
          simp [Instr.indexAt, asIntOf, run_underlying hu, sizeT_run hsz, h0, h1, add_off]
    · rename_i l hsz
      simp only [Option.some.injEq, Prod.mk.injEq] at h
      obtain ⟨rfl, rfl⟩ := h
      obtain ⟨h0, h1⟩ := hc _ rfl
      cases hx with
      | roB _ ad cp g off g1 g2 g3 g4 g5 =>
        obtain ⟨rfl, hr⟩ := g4 (by omega)
        have hlt : n.toNat < l.length := by omega
        refine ⟨.pointer (some ⟨g, off + n.toNat, none⟩), ?_, .rop _ g (off + n.toNat) (fun _ => .int .u8 ((l.getD n.toNat 0).toNat : Int)) hr (fun j v hv => ?_) fun j v hv => ?_⟩
        · simp [Instr.indexAt, asIntOf, run_underlying hu, sizeT_run hsz, h0, h1, add_off]
        · have hj : j = 0 := by have := (List.getElem?_eq_some_iff.1 hv).1; simp at this; exact this
          subst hj
          exact ⟨by simpa using g5 n.toNat _ (getD_get hlt), rfl⟩
        · have hj : j = 0 := by have := (List.getElem?_eq_some_iff.1 hv).1; simp at this; exact this
          subst hj
          simp only [List.getElem?_cons_zero, Option.some.injEq] at hv
          subst hv; exact .byte _
    · rename_i sz mm sz' f hsz
      cases hb : Nat.beq sz sz' with
      | false => rw [hb] at h; cases h
      | true =>
        rw [hb] at h
        obtain rfl := Nat.eq_of_beq_eq_true hb
        simp only [cond_true, Option.some.injEq, Prod.mk.injEq] at h
        obtain ⟨rfl, rfl⟩ := h
        obtain ⟨h0, h1⟩ := hc _ rfl
        cases hx with
        | ro _ _ _ ad cp g off X g1 g2 g3 g4 g5 g6 g7 =>
          obtain ⟨rfl, hr⟩ := g4 (by omega)
          have hlt : n.toNat < mm := by omega
          refine ⟨.pointer (some ⟨g, off + n.toNat * sz, none⟩), ?_, .rop _ g (off + n.toNat * sz) (X n.toNat) hr (fun j v hv => g5 _ j v hlt hv) fun j v hv => g6 _ j v hlt hv⟩
          simp [Instr.indexAt, asIntOf, run_underlying hu, sizeT_run hsz, h0, h1, add_off]
    · cases h
  · rename_i len e hu
    split at h
    · rename_i sz hsz
      split at h
      · rename_i ad had
        simp only [Option.some.injEq, Prod.mk.injEq] at h
        obtain ⟨rfl, rfl⟩ := h
        obtain ⟨h0, h1⟩ := hc _ rfl
        obtain ⟨g, off, rfl, hq⟩ := movePtr_sound hx had
        refine ⟨_, ?_, hq⟩
        simp [Instr.indexAt, asIntOf, run_underlying hu, sizeT_run hsz, h0, h1, add_off, Instr.sureAddr]
      · cases h
    · cases h
  · cases h

theorem indexF_sound {t : TypeId} {x i q : AVal} {y j : Value} {c : Option Prop} (hx : VR R w m H x y) (hi : VR R w m H i j) (h : indexF P t x i = some (c, q)) (hc : ∀ p, c = some p → p) :
    ∃ z, (Instr.index t y j).run P w = .ok z w ∧ VR R w m H q z := by
  unfold indexF at h
  split at h
  case h_2 => cases h
  rename_i n hn
  obtain ⟨kk, rfl⟩ := intOf_sound hi hn
  split at h
  · rename_i l
    cases ht : isStrT P t with
    | false => rw [ht] at h; cases h
    | true =>
    rw [ht] at h
    simp only [cond_true, Option.some.injEq, Prod.mk.injEq] at h
    obtain ⟨rfl, rfl⟩ := h
    obtain ⟨h0, h1⟩ := hc _ rfl
    have hlt : n.toNat < l.length := by omega
    cases hx with
    | str _ hl =>
      refine ⟨.int .u8 ((l.getD n.toNat 0).toNat : Int), ?_, .byte _⟩
      unfold isStrT at ht
      split at ht
      · rename_i hu
        have e : (⟨l.toArray⟩ : ByteArray)[n.toNat]? = some (l.getD n.toNat 0) := by
          have : n.toNat < (⟨l.toArray⟩ : ByteArray).size := by show _ < l.toArray.size; simpa using hlt
          rw [getElem?_pos (⟨l.toArray⟩ : ByteArray) n.toNat this]
          show some (l.toArray[n.toNat]) = _
          simp [List.getD_eq_getElem?_getD, List.getElem?_eq_getElem hlt]
        simp [Instr.index, asIntOf, run_underlying hu, h0, e]
      · cases ht
  · rename_i cs
    split at h
    · rename_i len e hu
      split at h
      · rename_i k sz hk hsz
        split at h
        · rename_i r hr
          split at h
          · rename_i v hv
            simp only [Option.some.injEq, Prod.mk.injEq] at h
            obtain ⟨rfl, rfl⟩ := h
            obtain ⟨h0, h1⟩ := hc _ rfl
            cases hx with
            | agg _ xs g1 g2 g3 =>
              obtain ⟨z, e1, e2⟩ := part_sound (P := P) hk hsz ⟨g1, g2⟩ g3 hr hv
              exact ⟨z, by simp [Instr.index, asIntOf, run_underlying hu, sizeT_run hsz, h0, h1, e1], e2⟩
          · cases h
        · cases h
      · cases h
    · cases h
  · cases h

/-! ### cuts -/
/-- an optional bound, and what the model has for it -/
def BndR (x : Option Int) (y : Option Value) : Prop := (x = none ∧ y = none) ∨ ∃ k n, x = some n ∧ y = some (.int k n)
theorem bnd_sound {x : Option AVal} {y : Option Value} {b : Option Int} (hxy : match x, y with | none, none => True | some v, some u => VR R w m H v u | _, _ => False) (h : bnd x = some b) : BndR b y := by
  cases x with
  | none => cases y with
    | none => simp [bnd] at h; exact .inl ⟨h.symm, rfl⟩
    | some u => exact hxy.elim
  | some v => cases y with
    | none => exact hxy.elim
    | some u =>
      simp only [bnd] at h
      split at h
      · rename_i n hn; cases h; obtain ⟨k, rfl⟩ := intOf_sound hxy hn; exact .inr ⟨k, n, rfl, rfl⟩
      · cases h
theorem sliceBound_run {k : IntKind} {n : Int} {y : Nat} {c : BoundsCode} (h0 : 0 ≤ n) (h1 : n ≤ y) (w : World) : (Instr.sliceBound (.int k n) y c).run P w = .ok n.toNat w := by
  simp [Instr.sliceBound, asIntOf, h0, h1]
/-- the bounds of a cut, as the model finds them -/
theorem bounds_run {isS : Bool} {len cap : Nat} {lo hi mx : Option Int} {lo' hi' mx' : Option Value} {a b : Int} {p : Option Prop}
    (e1 : BndR lo lo') (e2 : BndR hi hi') (e3 : BndR mx mx') (h : cutB lo hi mx (len : Int) = some (p, a, b)) (hp : ∀ q, p = some q → q) (hl : len ≤ cap) (w : World) :
    ∃ M, (Instr.sliceBounds isS len cap lo' hi' mx').run P w = .ok (a.toNat, b.toNat, M) w ∧ 0 ≤ a ∧ a ≤ b ∧ b ≤ (len : Int) ∧ b.toNat ≤ M ∧ M ≤ cap ∧ (mx' = none → M = cap) := by
  rcases e1 with ⟨rfl, rfl⟩ | ⟨k1, n1, rfl, rfl⟩ <;> rcases e2 with ⟨rfl, rfl⟩ | ⟨k2, n2, rfl, rfl⟩ <;> rcases e3 with ⟨rfl, rfl⟩ | ⟨k3, n3, rfl, rfl⟩ <;>
    simp only [cutB, Option.some.injEq, Prod.mk.injEq, reduceCtorEq] at h
  · obtain ⟨rfl, rfl, rfl⟩ := h
    exact ⟨cap, by simp [Instr.sliceBounds], by omega, by omega, by omega, by omega, by omega, fun _ => rfl⟩
  · obtain ⟨rfl, rfl, rfl⟩ := h
    have q := hp _ rfl
    have h1 : n2 ≤ (cap : Int) := by omega
    exact ⟨cap, by simp [Instr.sliceBounds, sliceBound_run (P := P) q.1 h1], by omega, by omega, by omega, by omega, by omega, fun _ => rfl⟩
  · obtain ⟨rfl, rfl, rfl⟩ := h
    obtain ⟨q1, q2, q3⟩ := hp _ rfl
    have h1 : n3 ≤ (cap : Int) := by omega
    have h2 : n2 ≤ ((n3.toNat : Nat) : Int) := by omega
    exact ⟨n3.toNat, by simp [Instr.sliceBounds, sliceBound_run (P := P) (show 0 ≤ n3 by omega) h1, sliceBound_run (P := P) q1 h2], by omega, by omega, by omega, by omega, by omega, fun h => by cases h⟩
  · obtain ⟨rfl, rfl, rfl⟩ := h
    have q := hp _ rfl
    exact ⟨cap, by simp [Instr.sliceBounds, sliceBound_run (P := P) q.1 q.2], by omega, by omega, by omega, by omega, by omega, fun _ => rfl⟩
  · obtain ⟨rfl, rfl, rfl⟩ := h
    obtain ⟨q1, q2, q3⟩ := hp _ rfl
    have h1 : n2 ≤ (cap : Int) := by omega
    have h2 : n1 ≤ ((n2.toNat : Nat) : Int) := by omega
    exact ⟨cap, by simp [Instr.sliceBounds, sliceBound_run (P := P) (show 0 ≤ n2 by omega) h1, sliceBound_run (P := P) q1 h2], by omega, by omega, by omega, by omega, by omega, fun _ => rfl⟩
  · obtain ⟨rfl, rfl, rfl⟩ := h
    obtain ⟨q1, q2, q3, q4⟩ := hp _ rfl
    have h1 : n3 ≤ (cap : Int) := by omega
    have h2 : n2 ≤ ((n3.toNat : Nat) : Int) := by omega
    have h3 : n1 ≤ ((n2.toNat : Nat) : Int) := by omega
    exact ⟨n3.toNat, by simp [Instr.sliceBounds, sliceBound_run (P := P) (show 0 ≤ n3 by omega) h1, sliceBound_run (P := P) (show 0 ≤ n2 by omega) h2, sliceBound_run (P := P) q1 h3], by omega, by omega, by omega, by omega, by omega, fun h => by cases h⟩
theorem cutL_eq {lo hi mx : Option Int} {l : List UInt8} {p : Option Prop} {a b : Int} (h : cutB lo hi mx (l.length : Int) = some (p, a, b)) : cutL lo hi l = (l.take b.toNat).drop a.toNat := by
  rcases lo with _ | lo <;> rcases hi with _ | hi <;> rcases mx with _ | mx <;> simp only [cutB, Option.some.injEq, Prod.mk.injEq, reduceCtorEq] at h <;> obtain ⟨_, rfl, rfl⟩ := h <;> simp [cutL]
theorem isSlT_eq {t : TypeId} {sz : Nat} (h : isSlT P t sz = true) : ∃ e, P.underlying t = some (.slice e) ∧ sizeT P e = some sz := by
  unfold isSlT at h
  split at h
  · rename_i e hu
    split at h
    · rename_i n hn; exact ⟨e, hu, by rw [hn, Nat.eq_of_beq_eq_true h]⟩
    · cases h
  · cases h
theorem isStrT_eq {t : TypeId} (h : isStrT P t = true) : P.underlying t = some .string := by
  unfold isStrT at h
  split at h
  · assumption
  · cases h

theorem cutF_sound (hS : Sim R w m H) {t : TypeId} {x q : AVal} {y : Value} {lo hi mx : Option AVal} {lo' hi' mx' : Option Value} {c : Option Prop} (hx : VR R w m H x y)
    (e1 : match lo, lo' with | none, none => True | some v, some u => VR R w m H v u | _, _ => False) (e2 : match hi, hi' with | none, none => True | some v, some u => VR R w m H v u | _, _ => False) (e3 : match mx, mx' with | none, none => True | some v, some u => VR R w m H v u | _, _ => False)
    (h : cutF P H t x lo hi mx = some (c, q)) (hc : ∀ p, c = some p → p) : ∃ z, (Instr.sliceAt t y lo' hi' mx').run P w = .ok z w ∧ VR R w m H q z := by
  unfold cutF at h
  split at h
  case h_2 => cases h
  rename_i lo1 hi1 mx1 b1 b2 b3
  have f1 := bnd_sound e1 b1
  have f2 := bnd_sound e2 b2
  have f3 := bnd_sound e3 b3
  have addif : ∀ (g off M l sz : Nat), l ≤ M → ∃ o, (if M = l then (some (⟨g, off, none⟩ : Addr)) else some ⟨g, off + l * sz, none⟩) = some ⟨g, o, none⟩ ∧ (l < M → o = off + l * sz) := fun g off M l sz hl => by
    by_cases e : M = l
    · exact ⟨off, by rw [if_pos e], fun h => by omega⟩
    · exact ⟨off + l * sz, by rw [if_neg e], fun _ => rfl⟩
  split at h
  · rename_i l
    split at h
    case h_2 => cases h
    split at h
    case h_2 => cases h
    rename_i p a b ht hcut
    simp only [Option.some.injEq, Prod.mk.injEq] at h
    obtain ⟨rfl, rfl⟩ := h
    obtain rfl : mx' = none := by rcases f3 with ⟨_, h⟩ | ⟨_, _, h, _⟩; exact h; cases h
    cases hx with
    | str _ hl =>
      obtain ⟨M, hr, h0, h1, h2, _⟩ := bounds_run (P := P) (isS := false) (cap := l.length) f1 f2 f3 hcut hc (Nat.le_refl _) w
      have hsz : (⟨l.toArray⟩ : ByteArray).size = l.length := by show l.toArray.size = _; simp
      refine ⟨.string ((⟨l.toArray⟩ : ByteArray).extract a.toNat b.toNat), ?_, ?_⟩
      · simp [Instr.sliceAt, Instr.slice, run_underlying (isStrT_eq ht), hsz, hr]
      · rw [cutL_eq hcut]
        have : (⟨l.toArray⟩ : ByteArray).extract a.toNat b.toNat = ⟨((l.take b.toNat).drop a.toNat).toArray⟩ := by
          apply ByteArray.ext
          rw [ByteArray.data_extract]
          simp [List.extract_toArray, List.extract, List.drop_take]
        rw [this]
        exact .str _ (by simp at hl ⊢; omega)
  · rename_i l
    split at h
    case h_2 => cases h
    rename_i p a b ht hcut
    simp only [Option.some.injEq, Prod.mk.injEq] at h
    obtain ⟨rfl, rfl⟩ := h
    obtain ⟨e, hu, hsz⟩ := isSlT_eq ht
    cases hx with
    | roB _ ad cp g off g1 g2 g3 g4 g5 =>
      obtain ⟨M, hr, h0, h1, h2, h3, h4, _⟩ := bounds_run (P := P) (isS := true) f1 f2 f3 hcut hc g1 w
      have hlen : ((l.take b.toNat).drop a.toNat).length = b.toNat - a.toNat := by simp; omega
      by_cases hpos : 0 < l.length
      · obtain ⟨rfl, hR⟩ := g4 hpos
        obtain ⟨o, ho1, ho2⟩ := addif g off M a.toNat 1 (by omega)
        refine ⟨.slice (some ⟨g, o, none⟩) (b.toNat - a.toNat) (M - a.toNat), ?_, ?_⟩
        · simp [Instr.sliceAt, Instr.slice, run_underlying hu, hr, sizeT_run hsz, add_off]
          simpa using ho1
        · rw [cutL_eq hcut, ← hlen]
          refine .roB _ _ _ g o (by omega) (by omega) (by omega) (fun _ => ⟨rfl, hR⟩) fun i x hx => ?_
          have hi := (List.getElem?_eq_some_iff.1 hx).1
          rw [ho2 (by omega), Nat.mul_one, Nat.add_assoc]
          rw [List.getElem?_drop, List.getElem?_take] at hx
          split at hx
          · exact g5 _ x hx
          · cases hx
      · have : a.toNat = 0 ∧ b.toNat = 0 := by omega
        have hl0 : l = [] := List.eq_nil_of_length_eq_zero (by omega)
        refine ⟨.slice (if M = a.toNat then ad else ad.map (·.add (a.toNat * 1))) (b.toNat - a.toNat) (M - a.toNat), ?_, ?_⟩
        · simp [Instr.sliceAt, Instr.slice, run_underlying hu, hr, sizeT_run hsz]
        · rw [cutL_eq hcut, ← hlen]
          exact .roB _ _ _ 0 0 (by omega) (by omega) (by omega) (fun h => by omega) (fun i x hx => by have := (List.getElem?_eq_some_iff.1 hx).1; omega)
  · rename_i n sz f
    split at h
    case h_2 => cases h
    rename_i p a b ht hcut
    simp only [Option.some.injEq, Prod.mk.injEq] at h
    obtain ⟨rfl, rfl⟩ := h
    obtain ⟨e, hu, hsz⟩ := isSlT_eq ht
    cases hx with
    | ro _ _ _ ad cp g off X g1 g2 g3 g4 g5 g6 g7 =>
      obtain ⟨M, hr, h0, h1, h2, h3, h4, _⟩ := bounds_run (P := P) (isS := true) f1 f2 f3 hcut hc g1 w
      by_cases hpos : 0 < n
      · obtain ⟨rfl, hR⟩ := g4 hpos
        obtain ⟨o, ho1, ho2⟩ := addif g off M a.toNat sz (by omega)
        refine ⟨.slice (some ⟨g, o, none⟩) (b.toNat - a.toNat) (M - a.toNat), ?_, ?_⟩
        · simp [Instr.sliceAt, Instr.slice, run_underlying hu, hr, sizeT_run hsz, add_off]
          simpa using ho1
        · refine .ro _ _ _ _ _ g o (fun i j => X (a.toNat + i) j) (by omega) (by omega) (by omega) (fun _ => ⟨rfl, hR⟩) (fun i j v hi hv => ?_) (fun i j v hi hv => g6 _ j v (by omega) hv) (fun i hi => g7 _ (by omega))
          rw [ho2 (by omega)]
          have := g5 (a.toNat + i) j v (by omega) hv
          rw [Nat.add_mul, ← Nat.add_assoc] at this
          exact this
      · refine ⟨.slice (if M = a.toNat then ad else ad.map (·.add (a.toNat * sz))) (b.toNat - a.toNat) (M - a.toNat), ?_, ?_⟩
        · simp [Instr.sliceAt, Instr.slice, run_underlying hu, hr, sizeT_run hsz]
        · exact .ro _ _ _ _ _ 0 0 (fun _ _ => undef) (by omega) (by omega) (by omega) (fun h => by omega) (fun i j v hi hv => by omega) (fun i j v hi hv => by omega) (fun i hi => by omega)
  · rename_i k off len sz
    split at h
    case h_2 => cases h
    rename_i p a b ht hcut
    simp only [Option.some.injEq, Prod.mk.injEq] at h
    obtain ⟨rfl, rfl⟩ := h
    obtain ⟨e, hu, hsz⟩ := isSlT_eq ht
    cases hx with
    | sl _ _ _ _ ad cp g1 g2 g3 g4 g5 g6 =>
      obtain ⟨M, hr, h0, h1, h2, h3, h4, _⟩ := bounds_run (P := P) (isS := true) f1 f2 f3 hcut hc g1 w
      have hmul : a.toNat * sz + (b.toNat - a.toNat) * sz ≤ len * sz := by rw [← Nat.add_mul]; exact Nat.mul_le_mul_right _ (by omega)
      refine ⟨.slice (if M = a.toNat then ad else ad.map (·.add (a.toNat * sz))) (b.toNat - a.toNat) (M - a.toNat), ?_, ?_⟩
      · simp [Instr.sliceAt, Instr.slice, run_underlying hu, hr, sizeT_run hsz]
      · refine .sl _ _ _ _ _ _ (by clear g5; omega) (by clear g5; omega) (by clear g5; omega) g4 (fun hc => ?_) ?_
        · have hcp : 0 < cp := by clear g5; omega
          have hne : ¬ M = a.toNat := by clear g5; omega
          obtain ⟨g, nn, q1, rfl, q3, q4⟩ := g5 hcp
          clear g5
          refine ⟨g, nn, q1, ?_, q3, ?_⟩
          · rw [if_neg hne]; simp [add_off]
          · have : a.toNat * sz + (M - a.toNat) * sz ≤ cp * sz := by rw [← Nat.add_mul]; exact Nat.mul_le_mul_right _ (by omega)
            omega
        · rcases g6 with g6 | g6
          · exact .inl g6
          · exact .inr (by clear g5; omega)
  · rename_i k off
    split at h
    case h_2 => cases h
    rename_i n e hu
    split at h
    case h_2 => cases h
    rename_i sz p a b hsz hcut
    split at h
    case h_2 => cases h
    rename_i cs hb
    cases hck : (Nat.ble (off + n * sz) cs.length && Nat.ble n 1000000) with
    | false => rw [hck] at h; cases h
    | true =>
    rw [hck] at h
    simp only [cond_true, Option.some.injEq, Prod.mk.injEq] at h
    obtain ⟨rfl, rfl⟩ := h
    simp only [Bool.and_eq_true] at hck
    have hfit := Nat.le_of_ble_eq_true hck.1
    have hn := Nat.le_of_ble_eq_true hck.2
    cases hx with
    | ptr _ _ g hg =>
      obtain ⟨M, hr, h0, h1, h2, h3, h4, _⟩ := bounds_run (P := P) (isS := false) f1 f2 f3 hcut hc (Nat.le_refl _) w
      obtain ⟨o, ho1, ho2⟩ := addif g off M a.toNat sz (by omega)
      have hlive : hget k H ≠ .dead := by rw [hb]; simp
      obtain ⟨xs, e', fr, q1, q2, q3, q4, _⟩ := hS.cells hlive hg
      have hlen := q4.len
      rw [hb] at hlen
      simp only [ABlk.len] at hlen
      have hmul : a.toNat * sz + (b.toNat - a.toNat) * sz ≤ n * sz := by rw [← Nat.add_mul]; exact Nat.mul_le_mul_right _ (by omega)
      refine ⟨.slice (some ⟨g, o, none⟩) (b.toNat - a.toNat) (M - a.toNat), ?_, ?_⟩
      · simp [Instr.sliceAt, run_underlying hu, Instr.sureAddr, hr, sizeT_run hsz, add_off]
        split
        · rename_i e; rw [if_pos e] at ho1; simp only [Option.some.injEq] at ho1; exact ho1
        · rename_i e; rw [if_neg e] at ho1; simp only [Option.some.injEq] at ho1; exact ho1
      · refine .sl _ _ _ _ _ _ (by omega) (by unfold maxI; omega) (by unfold room; omega) (hget_lt hlive) (fun hc => ⟨g, xs.length, hg, by rw [ho2 (by omega)], rowSize_of q1, ?_⟩) (.inr (by rw [hb]; simp only [ABlk.len]; omega))
        have : a.toNat * sz + (M - a.toNat) * sz ≤ n * sz := by rw [← Nat.add_mul]; exact Nat.mul_le_mul_right _ (by omega)
        omega
  · cases h
end
end Go.Proofs.Ytnbbaemijogeoaa.Ae

namespace Go.Proofs.Ytnbbaemijogeoaa.Ae
open Go
section
variable {P : Program} {R : Nat → Prop} {w : World} {m : Mp} {H : Hp} {env : Env} {a : Act}

def bcell (x : UInt8) : Value := .int .u8 (x.toNat : Int)
theorem one_bytes (l : List UInt8) : ∀ x ∈ l.map bcell, x.oneCell' = true := by
  intro x hx; obtain ⟨y, _, rfl⟩ := List.mem_map.1 hx; rfl

/-- the bytes of a slice of bytes, as they lie -/
theorem bytesOf_sound (hS : Sim R w m H) {x : AVal} {y : Value} {l : List UInt8} (hx : VR R w m H x y) (h : bytesOf H x = some l) :
    ∃ ad c, y = .slice ad l.length c ∧ l.length ≤ room ∧ l.length ≤ c ∧ (0 < l.length → ∃ g off, ad = some ⟨g, off, none⟩ ∧ ∀ i u, l[i]? = some u → w.cell? ⟨g, off + i, none⟩ = some (bcell u)) := by
  cases hx with
  | nilS => simp [bytesOf] at h; subst h; exact ⟨none, 0, rfl, Nat.zero_le _, Nat.zero_le _, fun h => by simp at h⟩
  | roB l' ad c g off h1 h2 h3 h4 h5 =>
    simp [bytesOf] at h; subst h
    exact ⟨ad, c, rfl, h3, h1, fun hp => ⟨g, off, (h4 hp).1, h5⟩⟩
  | sl b off len sz ad c h1 h2 h3 h4 h5 h6 =>
    simp only [bytesOf] at h
    cases hsb : Nat.beq sz 1 with
    | false => rw [hsb] at h; cases h
    | true =>
    rw [hsb] at h
    obtain rfl := Nat.eq_of_beq_eq_true hsb
    simp only [cond_true] at h
    have fin : ∀ (B : ABlk), hget b H = B → B ≠ .dead → ∀ (q : List UInt8), ((B.av.drop off).take len) = q.map AVal.byte → off + len ≤ B.len → ∃ ad' c', Value.slice ad len c = .slice ad' q.length c' ∧ q.length ≤ room ∧ q.length ≤ c' ∧ (0 < q.length → ∃ g off, ad' = some ⟨g, off, none⟩ ∧ ∀ i u, q[i]? = some u → w.cell? ⟨g, off + i, none⟩ = some (bcell u)) := by
      intro B hB hlive q hq hle
      have hql : q.length = len := by
        have := congrArg List.length hq
        simp [av_len] at this
        omega
      refine ⟨ad, c, by rw [hql], by omega, by omega, fun hp => ?_⟩
      obtain ⟨g, n, e1, e2, _, _⟩ := h5 (by omega)
      refine ⟨g, off, e2, fun i u hu => ?_⟩
      obtain ⟨xs, e, fr, q1, q2, q3, q4, ys, r, hys, hvl⟩ := hS.cells (by rw [hB]; exact hlive) e1
      rw [hB] at hvl
      have h7 := (hvl.drop off).take len
      rw [hq] at h7
      have h8 := h7.bytes_inv
      have hi := (List.getElem?_eq_some_iff.1 hu).1
      rw [cell_of q1, hys]
      have h9 : ((ys.drop off).take len)[i]? = some (bcell u) := by rw [h8, List.getElem?_map, hu]; rfl
      rw [List.getElem?_take, if_pos (by omega), List.getElem?_drop] at h9
      rw [List.getElem?_append_left (List.getElem?_eq_some_iff.1 h9).1]; exact h9
    cases hb : hget b H with
    | dead => rw [hb] at h; cases h
    | flat cs => rw [hb] at h; cases h
    | bytes k =>
      rw [hb] at h
      simp only [Option.some.injEq] at h
      subst h
      rcases h6 with h6 | h6
      · rw [hb] at h6; cases h6
      · rw [hb] at h6
        exact fin _ hb (by simp) _ (by simp [ABlk.av, List.map_take, List.map_drop]) (by simp only [ABlk.len] at h6 ⊢; omega)
    | vals cs =>
      rw [hb] at h
      simp only at h
      split at h
      · rename_i r hr
        obtain ⟨rfl, hle⟩ := partN_eq hr
        exact fin _ hb (by simp) _ (toBytes_eq h) (by simpa [ABlk.len] using hle)
      · cases h
  | _ => simp [bytesOf] at h

theorem isBytes_eq {t : TypeId} (h : isBytes P t = true) : ∃ e, P.underlying t = some (.slice e) ∧ P.underlying e = some (.int .u8) ∧ sizeT P e = some 1 := by
  unfold isBytes at h
  split at h
  · rename_i e hu
    simp only [Bool.and_eq_true] at h
    obtain ⟨h1, h2⟩ := h
    refine ⟨e, hu, ?_, ?_⟩
    · unfold isU8 at h1; split at h1
      · assumption
      · cases h1
    · split at h2
      · rename_i n hn; rw [hn, Nat.eq_of_beq_eq_true h2]
      · cases h2
  · cases h
theorem intKind_eq {t : TypeId} {k : IntKind} (h : intKind P t = some k) : P.underlying t = some (.int k) := by
  unfold intKind at h
  split at h
  · rename_i hu; cases h; exact hu
  · cases h
theorem kindEq_eq {a b : IntKind} (h : kindEq a b = true) : a = b := by cases a <;> cases b <;> first | rfl | cases h
theorem is64_eq {a : IntKind} (h : is64 a = true) : a = .i64 := by cases a <;> first | rfl | cases h
theorem wrap_I64 {n : Int} (h : I64 n) : IntKind.i64.wrap n = n := by unfold I64 at h; rw [IntKind.wrap_i64]; omega
theorem b8_wrap (n : Int) : ((b8 n).toNat : Int) = IntKind.u8.wrap n := by
  rw [IntKind.wrap_u8']; unfold b8; rw [UInt8.toNat_ofNat']; omega
theorem mkInt_sound (k : IntKind) (n : Int) : VR R w m H (mkInt k n) (.int k (k.wrap n)) := by
  unfold mkInt
  split
  · rw [← b8_wrap]; exact .byte _
  · exact .int _ _

theorem under_some {src : TypeId} (h : (P.underlying src).isSome = true) : ∃ d, P.underlying src = some d := Option.isSome_iff_exists.1 h
theorem convF_sound (hS : Sim R w m H) {src dst : TypeId} (hsrc : (P.underlying src).isSome = true) {x q : AVal} {y : Value} {c : Option Prop} {ef : Eff} (hx : VR R w m H x y) (h : convF P H src dst x = some (c, q, ef)) (hc : ∀ p, c = some p → p) :
    ∃ z w' m', (convert src dst y).run P w = .ok z w' ∧ Stp R w m H w' m' (ef.app H) ∧ VR R w' m' (ef.app H) q z := by
  obtain ⟨sd, hsd⟩ := under_some hsrc
  have stay : ∀ {q : AVal} {z : Value}, (convert src dst y).run P w = .ok z w → VR R w m H q z → ∃ z w' m', (convert src dst y).run P w = .ok z w' ∧ Stp R w m H w' m' (noEff.app H) ∧ VR R w' m' (noEff.app H) q z := fun h1 h2 => by
    rw [app_no]; exact ⟨_, w, m, h1, .refl hS, h2⟩
  have toInt : ∀ (k k' : IntKind) (n : Int), P.underlying dst = some (.int k') → (convert src dst (.int k n)).run P w = .ok (.int k' (k'.wrap n)) w := fun k k' n hd => by
    simp [convert, run_underlying hsd, run_underlying hd, Conv.intToInt]
  unfold convF at h
  split at h
  · rename_i k n
    cases hx with
    | int =>
    split at h
    · rename_i k' hk
      have hd := intKind_eq hk
      split at h
      · rename_i hkk
        obtain rfl := kindEq_eq hkk
        split at h
        · rename_i h64
          obtain rfl := is64_eq h64
          simp only [Option.some.injEq, Prod.mk.injEq] at h
          obtain ⟨rfl, rfl, rfl⟩ := h
          refine stay (toInt _ _ n hd) ?_
          rw [wrap_I64 (hc _ rfl)]; exact .int _ _
        · simp only [Option.some.injEq, Prod.mk.injEq] at h
          obtain ⟨rfl, rfl, rfl⟩ := h
          exact stay (toInt _ _ n hd) (mkInt_sound _ _)
      · simp only [Option.some.injEq, Prod.mk.injEq] at h
        obtain ⟨rfl, rfl, rfl⟩ := h
        exact stay (toInt _ _ n hd) (mkInt_sound _ _)
    · cases h
  · rename_i n
    cases hx with
    | byte =>
    have hn := n.toNat_lt
    split at h
    · rename_i hk
      simp only [Option.some.injEq, Prod.mk.injEq] at h
      obtain ⟨rfl, rfl, rfl⟩ := h
      refine stay (toInt _ _ _ (intKind_eq hk)) ?_
      rw [IntKind.wrap_u8', show (n.toNat : Int) % 256 = (n.toNat : Int) by omega]; exact .byte _
    · cases h
    · rename_i k' h1 h2 hk
      simp only [Option.some.injEq, Prod.mk.injEq] at h
      obtain ⟨rfl, rfl, rfl⟩ := h
      refine stay (toInt _ _ _ (intKind_eq hk)) ?_
      have : k'.wrap (n.toNat : Int) = (n.toNat : Int) := by
        cases k' <;> first | exact absurd rfl h1 | exact absurd rfl h2 | (simp only [IntKind.wrap, IntKind.bits, IntKind.signed]; simp; try omega)
      rw [this]; exact .int _ _
    · cases h
  · rename_i l
    cases hx with
    | str _ hl =>
    split at h
    · rename_i hd
      simp only [Option.some.injEq, Prod.mk.injEq] at h
      obtain ⟨rfl, rfl, rfl⟩ := h
      exact stay (by simp [convert, run_underlying hsd, run_underlying (isStrT_eq hd)]) (.str _ hl)
    · split at h
      · rename_i hd
        cases hst : isStrT P src with
        | false => rw [hst] at h; cases h
        | true =>
        rw [hst] at h
        simp only [cond_true, Option.some.injEq, Prod.mk.injEq] at h
        obtain ⟨rfl, rfl, rfl⟩ := h
        have hroom := hc _ rfl
        obtain ⟨e, hu, he, _⟩ := isBytes_eq hd
        have hr := run_bytes_of_string (P := P) w src dst e ⟨l.toArray⟩ (isStrT_eq hst) hu he
        have hsz : (⟨l.toArray⟩ : ByteArray).size = l.length := by show l.toArray.size = _; simp
        rw [hsz] at hr
        have hcap := grownCap_ge w l.length 0 e
        have hcap2 := grownCap_le_maxLen w l.length 0 e (by simp only [maxLen]; unfold room at hroom; omega)
        generalize grownCap w l.length 0 e = cap at *
        have hrow : bytesRow ⟨l.toArray⟩ cap = (l.map bcell ++ List.replicate (cap - l.length) (Value.int .u8 0)).toArray := by
          unfold bytesRow; rw [hsz]
          apply Array.ext'
          simp [bcell]
        have hlen : (l.map bcell ++ List.replicate (cap - l.length) (Value.int .u8 0)).length = cap := by simp; omega
        have hA : (l.map bcell ++ List.replicate (cap - l.length) (Value.int .u8 0)).toArray.size = cap := by simpa using hlen
        rw [hrow, hA] at hr
        have s1 := hS.drew
        have s2 := s1.sim.alloc (.bytes l) (l.map bcell ++ List.replicate (cap - l.length) (Value.int .u8 0)) e (cap, cap + 1) (fun i hi => by rw [hlen] at hi; simp; omega) (fun x hx => by
          rcases List.mem_append.1 hx with hx | hx
          · exact one_bytes l x hx
          · rw [List.eq_of_mem_replicate hx]; rfl) ⟨_, rfl⟩
        rw [app_new]
        refine ⟨_, _, upd m H.length w.drew.heap.size, hr, s1.trans s2, ?_⟩
        · refine .sl _ _ _ _ _ _ hcap (by simp only [maxLen] at hcap2; exact hcap2) hroom (by simp) (fun _ => ⟨w.heap.size, cap, upd_self _ _ _, rfl, ?_, by omega⟩) (.inr ?_)
          · have hh : (w.drew.alloc (.cells (l.map bcell ++ List.replicate (cap - l.length) (Value.int .u8 0)).toArray e (cap, cap + 1))).heap[w.heap.size]? = some (.cells (l.map bcell ++ List.replicate (cap - l.length) (Value.int .u8 0)).toArray e (cap, cap + 1)) := Array.getElem?_push_size
            rw [rowSize_of hh, hlen]
          · rw [show hget H.length (H ++ [ABlk.bytes l]) = .bytes l by have := hget_append_ge (k := 0) (H := H) (G := [ABlk.bytes l]); simpa [hget] using this]
            simp [ABlk.len]
      · cases h
  · split at h
    · rename_i l hb hd hl
      simp only [Option.some.injEq, Prod.mk.injEq] at h
      obtain ⟨rfl, rfl, rfl⟩ := h
      obtain ⟨e, hu, he, _⟩ := isBytes_eq hb
      obtain ⟨ad, cp, rfl, h1, _, h2⟩ := bytesOf_sound hS hx hl
      refine stay ?_ (.str l (by unfold room at h1; unfold big; omega))
      by_cases h0 : 0 < l.length
      · obtain ⟨g, off, rfl, h3⟩ := h2 h0
        exact run_convert_bytes_back w src dst e _ cp l hu he (isStrT_eq hd) fun j hj => by rw [add_off]; exact h3 j _ (List.getElem?_eq_getElem hj)
      · have : l = [] := List.eq_nil_of_length_eq_zero (by omega)
        subst this
        cases ad with
        | none => simp [run_convert_bytes_string w src dst e none 0 cp hu he (isStrT_eq hd), Conv.bytesToString]; rfl
        | some ad => exact run_convert_bytes_back w src dst e ad cp [] hu he (isStrT_eq hd) fun j hj => by simp at hj
    · cases h
end
end Go.Proofs.Ytnbbaemijogeoaa.Ae

namespace Go.Proofs.Ytnbbaemijogeoaa.Ae
open Go

def Src.av : Src → List AVal
  | .bytes l => l.map AVal.byte
  | .vals cs => cs
  | .flat cs => cs

theorem flatMap_len (f : Nat → List AVal) (sz : Nat) : ∀ n, (∀ i, i < n → (f i).length = sz) → ((List.range n).flatMap f).length = n * sz
  | 0, _ => by simp
  | n + 1, h => by
    rw [List.range_succ, List.flatMap_append, List.length_append, flatMap_len f sz n (fun i hi => h i (by omega))]
    simp [h n (by omega), Nat.add_mul]
theorem flatMap_get (f : Nat → List AVal) (sz : Nat) (hsz : 1 ≤ sz) : ∀ n, (∀ i, i < n → (f i).length = sz) → ∀ j, j < n * sz → ((List.range n).flatMap f)[j]? = (f (j / sz))[j % sz]?
  | 0, _, j, hj => by simp at hj
  | n + 1, h, j, hj => by
    have hl := flatMap_len f sz n (fun i hi => h i (by omega))
    rw [List.range_succ, List.flatMap_append]
    by_cases hlt : j < n * sz
    · rw [List.getElem?_append_left (by omega)]
      exact flatMap_get f sz hsz n (fun i hi => h i (by omega)) j hlt
    · rw [List.getElem?_append_right (by omega), hl]
      have hj2 : j < n * sz + sz := by rw [Nat.add_mul] at hj; omega
      have e1 : j / sz = n := by
        apply Nat.div_eq_of_lt_le
        · omega
        · rw [Nat.add_mul]; omega
      have e2 : j % sz = j - n * sz := by
        have := Nat.div_add_mod j sz
        rw [e1, Nat.mul_comm] at this
        omega
      rw [e1, e2]; simp

section
variable {P : Program} {R : Nat → Prop} {w : World} {m : Mp} {H : Hp} {env : Env} {a : Act}

/-- what a source is in memory -/
structure SrcR (P : Program) (R : Nat → Prop) (w : World) (m : Mp) (H : Hp) (src : Src) (n sz : Nat) (y : Value) (news : List Value) : Prop where
  len : news.length = n * sz
  one : ∀ v ∈ news, v.oneCell' = true
  vl : VL R w m H src.av news
  flat : ∀ cs, src = .flat cs → VL R w Mp.nil [] cs news
  lenOf : (Builtin.lenOf y).run P w = .ok n w
  first : (Builtin.firstCells sz n y).run P w = .ok news.toArray w
  le : n ≤ big

theorem src_sound (hS : Sim R w m H) {x : AVal} {y : Value} {src : Src} {n sz : Nat} (hx : VR R w m H x y) (h : srcOf H sz x = some src) (hn : lenF x = some n) (hsz : 1 ≤ sz) : ∃ news, SrcR P R w m H src n sz y news := by
  cases hx with
  | nilS =>
    simp [srcOf] at h; subst h
    simp [lenF] at hn; subst hn
    exact ⟨[], by simp, by simp, VL.nil, (fun cs e => by cases e), by simp [Builtin.lenOf], by simp [Builtin.firstCells], Nat.zero_le _⟩
  | str l hl =>
    simp only [srcOf] at h
    cases hb : Nat.beq sz 1 with
    | false => rw [hb] at h; cases h
    | true =>
    rw [hb] at h
    obtain rfl := Nat.eq_of_beq_eq_true hb
    simp only [cond_true, Option.some.injEq] at h; subst h
    simp [lenF] at hn; subst hn
    have hs : (⟨l.toArray⟩ : ByteArray).size = l.length := by show l.toArray.size = _; simp
    refine ⟨l.map bcell, by simp, one_bytes l, VL.of_bytes l, (fun cs e => by cases e), by simp [Builtin.lenOf, hs], ?_, hl⟩
    simp [Builtin.firstCells, bcell]
  | roB l ad c g off h1 h2 h3 h4 h5 =>
    simp only [srcOf] at h
    cases hb : Nat.beq sz 1 with
    | false => rw [hb] at h; cases h
    | true =>
    rw [hb] at h
    obtain rfl := Nat.eq_of_beq_eq_true hb
    simp only [cond_true, Option.some.injEq] at h; subst h
    simp [lenF] at hn; subst hn
    refine ⟨l.map bcell, by simp, one_bytes l, VL.of_bytes l, (fun cs e => by cases e), by simp [Builtin.lenOf], ?_, by unfold room at h3; unfold big; omega⟩
    by_cases h0 : 0 < l.length
    · obtain ⟨rfl, _⟩ := h4 h0
      exact run_firstCells_some w 1 l.length _ _ _ _ (by simp) fun j v hv => by
        rw [add_off]
        rw [List.getElem?_map] at hv
        obtain ⟨u, hu, rfl⟩ := Option.map_eq_some_iff.1 hv
        exact h5 j u hu
    · have : l = [] := List.eq_nil_of_length_eq_zero (by omega)
      subst this
      cases ad with
      | none => simp [Builtin.firstCells]
      | some ad => exact run_firstCells_some w 1 0 _ _ _ _ (by simp) fun j v hv => by simp at hv
  | ro n' sz' f ad c g off X h1 h2 h3 h4 h5 h6 h7 =>
    simp only [srcOf] at h
    cases hb : Nat.beq sz sz' with
    | false => rw [hb] at h; cases h
    | true =>
    rw [hb] at h
    obtain rfl := Nat.eq_of_beq_eq_true hb
    simp only [cond_true, Option.some.injEq] at h; subst h
    simp [lenF] at hn; subst hn
    have hget : ∀ j, j < n' * sz → ∃ v, (f (j / sz))[j % sz]? = some v ∧ j / sz < n' := fun j hj => by
      have hd : j / sz < n' := by rw [Nat.div_lt_iff_lt_mul (by omega)]; exact hj
      have : j % sz < (f (j / sz)).length := by rw [h7 _ hd]; exact Nat.mod_lt _ (by omega)
      exact ⟨_, List.getElem?_eq_getElem this, hd⟩
    have hvl : VL R w Mp.nil [] ((List.range n').flatMap f) ((List.range (n' * sz)).map fun j => X (j / sz) (j % sz)) := by
      refine ⟨by rw [flatMap_len f sz n' h7]; simp, fun j v u hv hu => ?_⟩
      have hj : j < n' * sz := by have := (List.getElem?_eq_some_iff.1 hv).1; rwa [flatMap_len f sz n' h7] at this
      rw [flatMap_get f sz hsz n' h7 j hj] at hv
      simp [hj] at hu
      subst hu
      obtain ⟨_, _, hd⟩ := hget j hj
      exact h6 _ _ v hd hv
    refine ⟨(List.range (n' * sz)).map fun j => X (j / sz) (j % sz), by simp, fun v hv => ?_, hvl.lift, fun cs e => by cases e; exact hvl, by simp [Builtin.lenOf], ?_, by unfold room at h3; unfold big; omega⟩
    · obtain ⟨j, hj, rfl⟩ := List.mem_map.1 hv
      obtain ⟨u, hu, hd⟩ := hget j (by simpa using hj)
      exact (h5 _ _ u hd hu).2
    · by_cases h0 : 0 < n'
      · obtain ⟨rfl, _⟩ := h4 h0
        refine run_firstCells_some w sz n' _ _ _ _ (by simp) fun j v hv => ?_
        have hj : j < n' * sz := by have := (List.getElem?_eq_some_iff.1 hv).1; simpa using this
        simp [hj] at hv
        subst hv
        obtain ⟨u, hu, hd⟩ := hget j hj
        rw [add_off]
        have := (h5 _ _ u hd hu).1
        rw [Nat.add_assoc, Nat.mul_comm, Nat.div_add_mod] at this
        exact this
      · have : n' = 0 := by omega
        subst this
        cases ad with
        | none => simp [Builtin.firstCells]
        | some ad => exact run_firstCells_some w sz 0 _ _ _ _ (by simp) fun j v hv => by simp at hv
  | sl b off len sz' ad c h1 h2 h3 h4 h5 h6 =>
    simp only [srcOf] at h
    cases hb : Nat.beq sz sz' with
    | false => rw [hb] at h; cases h
    | true =>
    rw [hb] at h
    obtain rfl := Nat.eq_of_beq_eq_true hb
    simp only [cond_true] at h
    simp [lenF] at hn; subst hn
    have hbig : len ≤ big := by unfold room at h3; unfold big; omega
    have hlen : (Builtin.lenOf (.slice ad len c)).run P w = .ok len w := by simp [Builtin.lenOf]
    have fin : hget b H ≠ .dead → src.av = ((hget b H).av.drop off).take (len * sz) → off + len * sz ≤ (hget b H).len → (∀ cs, src = .flat cs → ∃ ds, hget b H = .flat ds ∧ cs = (ds.drop off).take (len * sz)) → ∃ news, SrcR P R w m H src len sz (.slice ad len c) news := by
      intro hlive hav hle hfl
      by_cases hc0 : 0 < c
      · obtain ⟨g, nn, e1, rfl, _, _⟩ := h5 hc0
        obtain ⟨xs, e, fr, q1, q2, q3, q4, ys, r, hys, hvl⟩ := hS.cells hlive e1
        have hyl : (hget b H).len = ys.length := by rw [← av_len]; exact hvl.1
        refine ⟨(ys.drop off).take (len * sz), by simp; omega, fun v hv => q3 v (by rw [hys]; exact List.mem_append_left _ (List.mem_of_mem_drop (List.mem_of_mem_take hv))), by rw [hav]; exact (hvl.drop off).take _, fun cs hcs => ?_, hlen, ?_, hbig⟩
        · obtain ⟨ds, hd, rfl⟩ := hfl cs hcs
          rw [hd] at q4 hyl
          obtain ⟨ys', r', hys', hvl'⟩ := q4
          have : ys = ys' := by
            have e : ys ++ r = ys' ++ r' := by rw [← hys, ← hys']
            exact (List.append_inj e (by rw [← hyl, ← hvl'.1]; rfl)).1
          rw [this]
          exact (hvl'.drop off).take _
        · refine run_firstCells_some w sz len _ _ _ _ (by simp; omega) fun j v hv => ?_
          rw [add_off, cell_of q1, hys]
          rw [List.getElem?_take] at hv
          split at hv
          · rw [List.getElem?_drop] at hv
            rw [List.getElem?_append_left (List.getElem?_eq_some_iff.1 hv).1]; exact hv
          · cases hv
      · have hl0 : len = 0 := by omega
        subst hl0
        refine ⟨[], by simp, by simp, ?_, fun cs hcs => ?_, hlen, ?_, hbig⟩
        · rw [hav]; simp; exact VL.nil
        · obtain ⟨ds, hd, rfl⟩ := hfl cs hcs
          simp; exact VL.nil
        · cases ad with
          | none => simp [Builtin.firstCells]
          | some ad => exact run_firstCells_some w sz 0 _ _ _ _ (by simp) fun j v hv => by simp at hv
    cases hbk : hget b H with
    | dead => rw [hbk] at h; cases h
    | bytes l =>
      rw [hbk] at h
      cases hb1 : Nat.beq sz 1 with
      | false => simp only [hb1] at h; cases h
      | true =>
      simp only [hb1, cond_true, Option.some.injEq] at h; subst h
      obtain rfl := Nat.eq_of_beq_eq_true hb1
      exact fin (by rw [hbk]; simp) (by rw [hbk]; simp [Src.av, ABlk.av, List.map_take, List.map_drop]) (h6.resolve_left (by rw [hbk]; simp)) (fun cs e => by cases e)
    | vals cs =>
      rw [hbk] at h
      simp only at h
      split at h
      · rename_i r hr
        cases h
        obtain ⟨rfl, hle⟩ := partN_eq hr
        exact fin (by rw [hbk]; simp) (by rw [hbk]; rfl) (by rw [hbk]; exact hle) (fun cs e => by cases e)
      · cases h
    | flat cs =>
      rw [hbk] at h
      simp only [Option.some.injEq] at h; subst h
      exact fin (by rw [hbk]; simp) (by rw [hbk]; rfl) (h6.resolve_left (by rw [hbk]; simp)) (fun ds e => by cases e; exact ⟨cs, hbk, rfl⟩)
  | _ => simp [srcOf] at h
end
end Go.Proofs.Ytnbbaemijogeoaa.Ae
