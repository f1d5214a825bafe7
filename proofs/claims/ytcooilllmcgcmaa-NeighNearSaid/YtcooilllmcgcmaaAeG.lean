/- Indexes, cuts, conversions. No program in sight. -/
import Derived.Test.YtcooilllmcgcmaaAeF
import Derived.Test.YtcooilllmcgcmaaStr
namespace Go.Proofs.Ytcooilllmcgcmaa.Ae
open Go
section
variable {P : Program} {R : Nat → Prop} {w : World} {m : Mp} {H : Hp} {env : Env} {a : Act}

theorem indexAddrF_sound {t : TypeId} {x i q : AVal} {y j : Value} {c : Option Prop} (hx : VR R w m H x y) (hi : VR R w m H i j) (h : indexAddrF P t x i = some (c, q)) (hc : ∀ p, c = some p → p) :
    ∃ z, (Instr.indexAt t y j).run P w = .ok z w ∧ VR R w m H q z := by
  unfold indexAddrF at h
  split at h
  case h_2 => cases h
  rename_i n hn
  obtain ⟨kk, rfl⟩ := intOf_sound hi hn
  split at h
  · rename_i e hu
    split at h
    · rename_i sz b off len sz' hsz
      cases hb : Nat.beq sz sz' with
      | false => rw [hb] at h; cases h
      | true =>
        rw [hb] at h
        obtain rfl := Nat.eq_of_beq_eq_true hb
        simp only [cond_true, Option.some.injEq, Prod.mk.injEq] at h
        obtain ⟨rfl, rfl⟩ := h
        obtain ⟨h0, h1⟩ := hc _ rfl
        cases hx with
        | sl _ _ _ _ ad cp g1 g2 g3 g4 g5 g6 =>
          obtain ⟨g, nn, e1, rfl, _, _⟩ := g5 (by omega)
          refine ⟨_, ?_, .ptr b _ g e1⟩
          simp [Instr.indexAt, asIntOf, run_underlying hu, sizeT_run hsz, h0, h1, add_off]
    · rename_i l hsz
      simp only [Option.some.injEq, Prod.mk.injEq] at h
      obtain ⟨rfl, rfl⟩ := h
      obtain ⟨h0, h1⟩ := hc _ rfl
      cases hx with
      | roB _ ad cp g off g1 g2 g3 g4 g5 =>
        obtain ⟨rfl, hr⟩ := g4 (by omega)
        have hlt : n.toNat < l.length := by omega
        refine ⟨.pointer (some ⟨g, off + n.toNat, none⟩), ?_, .rop _ g (off + n.toNat) (fun _ => .int .u8 ((l.getD n.toNat 0).toNat : Int)) hr (fun j v hv => ?_) fun j v hv => ?_⟩
        · simp [Instr.indexAt, asIntOf, run_underlying hu, sizeT_run hsz, h0, h1, add_off]
        · have hj : j = 0 := by have := (List.getElem?_eq_some_iff.1 hv).1; simp at this; exact this
          subst hj
          exact ⟨by simpa using g5 n.toNat _ (getD_get hlt), rfl⟩
        · have hj : j = 0 := by have := (List.getElem?_eq_some_iff.1 hv).1; simp at this; exact this
          subst hj
          simp only [List.getElem?_cons_zero, Option.some.injEq] at hv
          subst hv; exact .byte _
    · rename_i sz mm sz' f hsz
      cases hb : Nat.beq sz sz' with
      | false => rw [hb] at h; cases h
      | true =>
        rw [hb] at h
        obtain rfl := Nat.eq_of_beq_eq_true hb
        simp only [cond_true, Option.some.injEq, Prod.mk.injEq] at h
        obtain ⟨rfl, rfl⟩ := h
        obtain ⟨h0, h1⟩ := hc _ rfl
        cases hx with
        | ro _ _ _ ad cp g off X g1 g2 g3 g4 g5 g6 g7 =>
          obtain ⟨rfl, hr⟩ := g4 (by omega)
          have hlt : n.toNat < mm := by omega
          refine ⟨.pointer (some ⟨g, off + n.toNat * sz, none⟩), ?_, .rop _ g (off + n.toNat * sz) (X n.toNat) hr (fun j v hv => g5 _ j v hlt hv) fun j v hv => g6 _ j v hlt hv⟩
          simp [Instr.indexAt, asIntOf, run_underlying hu, sizeT_run hsz, h0, h1, add_off]
    · cases h
  · rename_i len e hu
    split at h
    · rename_i sz hsz
      split at h
      · rename_i ad had
        simp only [Option.some.injEq, Prod.mk.injEq] at h
        obtain ⟨rfl, rfl⟩ := h
        obtain ⟨h0, h1⟩ := hc _ rfl
        obtain ⟨g, off, rfl, hq⟩ := movePtr_sound hx had
        refine ⟨_, ?_, hq⟩
        simp [Instr.indexAt, asIntOf, run_underlying hu, sizeT_run hsz, h0, h1, add_off, Instr.sureAddr]
      · cases h
    · cases h
  · cases h

theorem indexF_sound {t : TypeId} {x i q : AVal} {y j : Value} {c : Option Prop} (hx : VR R w m H x y) (hi : VR R w m H i j) (h : indexF P t x i = some (c, q)) (hc : ∀ p, c = some p → p) :
    ∃ z, (Instr.index t y j).run P w = .ok z w ∧ VR R w m H q z := by
  unfold indexF at h
  split at h
  case h_2 => cases h
  rename_i n hn
  obtain ⟨kk, rfl⟩ := intOf_sound hi hn
  split at h
  · rename_i l
    cases ht : isStrT P t with
    | false => rw [ht] at h; cases h
    | true =>
    rw [ht] at h
    simp only [cond_true, Option.some.injEq, Prod.mk.injEq] at h
    obtain ⟨rfl, rfl⟩ := h
    obtain ⟨h0, h1⟩ := hc _ rfl
    have hlt : n.toNat < l.length := by omega
    cases hx with
    | str _ hl =>
      refine ⟨.int .u8 ((l.getD n.toNat 0).toNat : Int), ?_, .byte _⟩
      unfold isStrT at ht
      split at ht
      · rename_i hu
        have e : (⟨l.toArray⟩ : ByteArray)[n.toNat]? = some (l.getD n.toNat 0) := by
          have : n.toNat < (⟨l.toArray⟩ : ByteArray).size := by show _ < l.toArray.size; simpa using hlt
          rw [getElem?_pos (⟨l.toArray⟩ : ByteArray) n.toNat this]
          show some (l.toArray[n.toNat]) = _
          simp [List.getD_eq_getElem?_getD, List.getElem?_eq_getElem hlt]
        simp [Instr.index, asIntOf, run_underlying hu, h0, e]
      · cases ht
  · rename_i cs
    split at h
    · rename_i len e hu
      split at h
      · rename_i k sz hk hsz
        split at h
        · rename_i r hr
          split at h
          · rename_i v hv
            simp only [Option.some.injEq, Prod.mk.injEq] at h
            obtain ⟨rfl, rfl⟩ := h
            obtain ⟨h0, h1⟩ := hc _ rfl
            cases hx with
            | agg _ xs g1 g2 g3 =>
              obtain ⟨z, e1, e2⟩ := part_sound (P := P) hk hsz ⟨g1, g2⟩ g3 hr hv
              exact ⟨z, by simp [Instr.index, asIntOf, run_underlying hu, sizeT_run hsz, h0, h1, e1], e2⟩
          · cases h
        · cases h
      · cases h
    · cases h
  · cases h

/-! ### cuts -/
/-- an optional bound, and what the model has for it -/
def BndR (x : Option Int) (y : Option Value) : Prop := (x = none ∧ y = none) ∨ ∃ k n, x = some n ∧ y = some (.int k n)
theorem bnd_sound {x : Option AVal} {y : Option Value} {b : Option Int} (hxy : match x, y with | none, none => True | some v, some u => VR R w m H v u | _, _ => False) (h : bnd x = some b) : BndR b y := by
  cases x with
  | none => cases y with
    | none => simp [bnd] at h; exact .inl ⟨h.symm, rfl⟩
    | some u => exact hxy.elim
  | some v => cases y with
    | none => exact hxy.elim
    | some u =>
      simp only [bnd] at h
      split at h
      · rename_i n hn; cases h; obtain ⟨k, rfl⟩ := intOf_sound hxy hn; exact .inr ⟨k, n, rfl, rfl⟩
      · cases h
theorem sliceBound_run {k : IntKind} {n : Int} {y : Nat} {c : BoundsCode} (h0 : 0 ≤ n) (h1 : n ≤ y) (w : World) : (Instr.sliceBound (.int k n) y c).run P w = .ok n.toNat w := by
  simp [Instr.sliceBound, asIntOf, h0, h1]
/-- the bounds of a cut, as the model finds them -/
theorem bounds_run {isS : Bool} {len cap : Nat} {lo hi mx : Option Int} {lo' hi' mx' : Option Value} {a b : Int} {p : Option Prop}
    (e1 : BndR lo lo') (e2 : BndR hi hi') (e3 : BndR mx mx') (h : cutB lo hi mx (len : Int) = some (p, a, b)) (hp : ∀ q, p = some q → q) (hl : len ≤ cap) (w : World) :
    ∃ M, (Instr.sliceBounds isS len cap lo' hi' mx').run P w = .ok (a.toNat, b.toNat, M) w ∧ 0 ≤ a ∧ a ≤ b ∧ b ≤ (len : Int) ∧ b.toNat ≤ M ∧ M ≤ cap ∧ (mx' = none → M = cap) := by
  rcases e1 with ⟨rfl, rfl⟩ | ⟨k1, n1, rfl, rfl⟩ <;> rcases e2 with ⟨rfl, rfl⟩ | ⟨k2, n2, rfl, rfl⟩ <;> rcases e3 with ⟨rfl, rfl⟩ | ⟨k3, n3, rfl, rfl⟩ <;>
    simp only [cutB, Option.some.injEq, Prod.mk.injEq, reduceCtorEq] at h
  · obtain ⟨rfl, rfl, rfl⟩ := h
    exact ⟨cap, by simp [Instr.sliceBounds], by omega, by omega, by omega, by omega, by omega, fun _ => rfl⟩
  · obtain ⟨rfl, rfl, rfl⟩ := h
    have q := hp _ rfl
    have h1 : n2 ≤ (cap : Int) := by omega
    exact ⟨cap, by simp [Instr.sliceBounds, sliceBound_run (P := P) q.1 h1], by omega, by omega, by omega, by omega, by omega, fun _ => rfl⟩
  · obtain ⟨rfl, rfl, rfl⟩ := h
    obtain ⟨q1, q2, q3⟩ := hp _ rfl
    have h1 : n3 ≤ (cap : Int) := by omega
    have h2 : n2 ≤ ((n3.toNat : Nat) : Int) := by omega
    exact ⟨n3.toNat, by simp [Instr.sliceBounds, sliceBound_run (P := P) (show 0 ≤ n3 by omega) h1, sliceBound_run (P := P) q1 h2], by omega, by omega, by omega, by omega, by omega, fun h => by cases h⟩
  · obtain ⟨rfl, rfl, rfl⟩ := h
    have q := hp _ rfl
    exact ⟨cap, by simp [Instr.sliceBounds, sliceBound_run (P := P) q.1 q.2], by omega, by omega, by omega, by omega, by omega, fun _ => rfl⟩
  · obtain ⟨rfl, rfl, rfl⟩ := h
    obtain ⟨q1, q2, q3⟩ := hp _ rfl
    have h1 : n2 ≤ (cap : Int) := by omega
    have h2 : n1 ≤ ((n2.toNat : Nat) : Int) := by omega
    exact ⟨cap, by simp [Instr.sliceBounds, sliceBound_run (P := P) (show 0 ≤ n2 by omega) h1, sliceBound_run (P := P) q1 h2], by omega, by omega, by omega, by omega, by omega, fun _ => rfl⟩
  · obtain ⟨rfl, rfl, rfl⟩ := h
    obtain ⟨q1, q2, q3, q4⟩ := hp _ rfl
    have h1 : n3 ≤ (cap : Int) := by omega
    have h2 : n2 ≤ ((n3.toNat : Nat) : Int) := by omega
    have h3 : n1 ≤ ((n2.toNat : Nat) : Int) := by omega
    exact ⟨n3.toNat, by simp [Instr.sliceBounds, sliceBound_run (P := P) (show 0 ≤ n3 by omega) h1, sliceBound_run (P := P) (show 0 ≤ n2 by omega) h2, sliceBound_run (P := P) q1 h3], by omega, by omega, by omega, by omega, by omega, fun h => by cases h⟩
theorem cutL_eq {lo hi mx : Option Int} {l : List UInt8} {p : Option Prop} {a b : Int} (h : cutB lo hi mx (l.length : Int) = some (p, a, b)) : cutL lo hi l = (l.take b.toNat).drop a.toNat := by
  rcases lo with _ | lo <;> rcases hi with _ | hi <;> rcases mx with _ | mx <;> simp only [cutB, Option.some.injEq, Prod.mk.injEq, reduceCtorEq] at h <;> obtain ⟨_, rfl, rfl⟩ := h <;> simp [cutL]
theorem isSlT_eq {t : TypeId} {sz : Nat} (h : isSlT P t sz = true) : ∃ e, P.underlying t = some (.slice e) ∧ sizeT P e = some sz := by
  unfold isSlT at h
  split at h
  · rename_i e hu
    split at h
    · rename_i n hn; exact ⟨e, hu, by rw [hn, Nat.eq_of_beq_eq_true h]⟩
    · cases h
  · cases h
theorem isStrT_eq {t : TypeId} (h : isStrT P t = true) : P.underlying t = some .string := by
  unfold isStrT at h
  split at h
  · assumption
  · cases h

theorem cutF_sound (hS : Sim R w m H) {t : TypeId} {x q : AVal} {y : Value} {lo hi mx : Option AVal} {lo' hi' mx' : Option Value} {c : Option Prop} (hx : VR R w m H x y)
    (e1 : match lo, lo' with | none, none => True | some v, some u => VR R w m H v u | _, _ => False) (e2 : match hi, hi' with | none, none => True | some v, some u => VR R w m H v u | _, _ => False) (e3 : match mx, mx' with | none, none => True | some v, some u => VR R w m H v u | _, _ => False)
    (h : cutF P H t x lo hi mx = some (c, q)) (hc : ∀ p, c = some p → p) : ∃ z, (Instr.sliceAt t y lo' hi' mx').run P w = .ok z w ∧ VR R w m H q z := by
  unfold cutF at h
  split at h
  case h_2 => cases h
  rename_i lo1 hi1 mx1 b1 b2 b3
  have f1 := bnd_sound e1 b1
  have f2 := bnd_sound e2 b2
  have f3 := bnd_sound e3 b3
  have addif : ∀ (g off M l sz : Nat), l ≤ M → ∃ o, (if M = l then (some (⟨g, off, none⟩ : Addr)) else some ⟨g, off + l * sz, none⟩) = some ⟨g, o, none⟩ ∧ (l < M → o = off + l * sz) := fun g off M l sz hl => by
    by_cases e : M = l
    · exact ⟨off, by rw [if_pos e], fun h => by omega⟩
    · exact ⟨off + l * sz, by rw [if_neg e], fun _ => rfl⟩
  split at h
  · rename_i l
    split at h
    case h_2 => cases h
    split at h
    case h_2 => cases h
    rename_i p a b ht hcut
    simp only [Option.some.injEq, Prod.mk.injEq] at h
    obtain ⟨rfl, rfl⟩ := h
    obtain rfl : mx' = none := by rcases f3 with ⟨_, h⟩ | ⟨_, _, h, _⟩; exact h; cases h
    cases hx with
    | str _ hl =>
      obtain ⟨M, hr, h0, h1, h2, _⟩ := bounds_run (P := P) (isS := false) (cap := l.length) f1 f2 f3 hcut hc (Nat.le_refl _) w
      have hsz : (⟨l.toArray⟩ : ByteArray).size = l.length := by show l.toArray.size = _; simp
      refine ⟨.string ((⟨l.toArray⟩ : ByteArray).extract a.toNat b.toNat), ?_, ?_⟩
      · simp [Instr.sliceAt, Instr.slice, run_underlying (isStrT_eq ht), hsz, hr]
      · rw [cutL_eq hcut]
        have : (⟨l.toArray⟩ : ByteArray).extract a.toNat b.toNat = ⟨((l.take b.toNat).drop a.toNat).toArray⟩ := by
          apply ByteArray.ext
          rw [ByteArray.data_extract]
          simp [List.extract_toArray, List.extract, List.drop_take]
        rw [this]
        exact .str _ (by simp at hl ⊢; omega)
  · rename_i l
    split at h
    case h_2 => cases h
    rename_i p a b ht hcut
    simp only [Option.some.injEq, Prod.mk.injEq] at h
    obtain ⟨rfl, rfl⟩ := h
    obtain ⟨e, hu, hsz⟩ := isSlT_eq ht
    cases hx with
    | roB _ ad cp g off g1 g2 g3 g4 g5 =>
      obtain ⟨M, hr, h0, h1, h2, h3, h4, _⟩ := bounds_run (P := P) (isS := true) f1 f2 f3 hcut hc g1 w
      have hlen : ((l.take b.toNat).drop a.toNat).length = b.toNat - a.toNat := by simp; omega
      by_cases hpos : 0 < l.length
      · obtain ⟨rfl, hR⟩ := g4 hpos
        obtain ⟨o, ho1, ho2⟩ := addif g off M a.toNat 1 (by omega)
        refine ⟨.slice (some ⟨g, o, none⟩) (b.toNat - a.toNat) (M - a.toNat), ?_, ?_⟩
        · simp [Instr.sliceAt, Instr.slice, run_underlying hu, hr, sizeT_run hsz, add_off]
          simpa using ho1
        · rw [cutL_eq hcut, ← hlen]
          refine .roB _ _ _ g o (by omega) (by omega) (by omega) (fun _ => ⟨rfl, hR⟩) fun i x hx => ?_
          have hi := (List.getElem?_eq_some_iff.1 hx).1
          rw [ho2 (by omega), Nat.mul_one, Nat.add_assoc]
          rw [List.getElem?_drop, List.getElem?_take] at hx
          split at hx
          · exact g5 _ x hx
          · cases hx
      · have : a.toNat = 0 ∧ b.toNat = 0 := by omega
        have hl0 : l = [] := List.eq_nil_of_length_eq_zero (by omega)
        refine ⟨.slice (if M = a.toNat then ad else ad.map (·.add (a.toNat * 1))) (b.toNat - a.toNat) (M - a.toNat), ?_, ?_⟩
        · simp [Instr.sliceAt, Instr.slice, run_underlying hu, hr, sizeT_run hsz]
        · rw [cutL_eq hcut, ← hlen]
          exact .roB _ _ _ 0 0 (by omega) (by omega) (by omega) (fun h => by omega) (fun i x hx => by have := (List.getElem?_eq_some_iff.1 hx).1; omega)
  · rename_i n sz f
    split at h
    case h_2 => cases h
    rename_i p a b ht hcut
    simp only [Option.some.injEq, Prod.mk.injEq] at h
    obtain ⟨rfl, rfl⟩ := h
    obtain ⟨e, hu, hsz⟩ := isSlT_eq ht
    cases hx with
    | ro _ _ _ ad cp g off X g1 g2 g3 g4 g5 g6 g7 =>
      obtain ⟨M, hr, h0, h1, h2, h3, h4, _⟩ := bounds_run (P := P) (isS := true) f1 f2 f3 hcut hc g1 w
      by_cases hpos : 0 < n
      · obtain ⟨rfl, hR⟩ := g4 hpos
        obtain ⟨o, ho1, ho2⟩ := addif g off M a.toNat sz (by omega)
        refine ⟨.slice (some ⟨g, o, none⟩) (b.toNat - a.toNat) (M - a.toNat), ?_, ?_⟩
        · simp [Instr.sliceAt, Instr.slice, run_underlying hu, hr, sizeT_run hsz, add_off]
          simpa using ho1
        · refine .ro _ _ _ _ _ g o (fun i j => X (a.toNat + i) j) (by omega) (by omega) (by omega) (fun _ => ⟨rfl, hR⟩) (fun i j v hi hv => ?_) (fun i j v hi hv => g6 _ j v (by omega) hv) (fun i hi => g7 _ (by omega))
          rw [ho2 (by omega)]
          have := g5 (a.toNat + i) j v (by omega) hv
          rw [Nat.add_mul, ← Nat.add_assoc] at this
          exact this
      · refine ⟨.slice (if M = a.toNat then ad else ad.map (·.add (a.toNat * sz))) (b.toNat - a.toNat) (M - a.toNat), ?_, ?_⟩
        · simp [Instr.sliceAt, Instr.slice, run_underlying hu, hr, sizeT_run hsz]
        · exact .ro _ _ _ _ _ 0 0 (fun _ _ => undef) (by omega) (by omega) (by omega) (fun h => by omega) (fun i j v hi hv => by omega) (fun i j v hi hv => by omega) (fun i hi => by omega)
  · rename_i k off len sz
    split at h
    case h_2 => cases h
    rename_i p a b ht hcut
    simp only [Option.some.injEq, Prod.mk.injEq] at h
    obtain ⟨rfl, rfl⟩ := h
    obtain ⟨e, hu, hsz⟩ := isSlT_eq ht
    cases hx with
    | sl _ _ _ _ ad cp g1 g2 g3 g4 g5 g6 =>
      obtain ⟨M, hr, h0, h1, h2, h3, h4, _⟩ := bounds_run (P := P) (isS := true) f1 f2 f3 hcut hc g1 w
      have hmul : a.toNat * sz + (b.toNat - a.toNat) * sz ≤ len * sz := by rw [← Nat.add_mul]; exact Nat.mul_le_mul_right _ (by omega)
      refine ⟨.slice (if M = a.toNat then ad else ad.map (·.add (a.toNat * sz))) (b.toNat - a.toNat) (M - a.toNat), ?_, ?_⟩
      · simp [Instr.sliceAt, Instr.slice, run_underlying hu, hr, sizeT_run hsz]
      · refine .sl _ _ _ _ _ _ (by clear g5; omega) (by clear g5; omega) (by clear g5; omega) g4 (fun hc => ?_) ?_
        · have hcp : 0 < cp := by clear g5; omega
          have hne : ¬ M = a.toNat := by clear g5; omega
          obtain ⟨g, nn, q1, rfl, q3, q4⟩ := g5 hcp
          clear g5
          refine ⟨g, nn, q1, ?_, q3, ?_⟩
          · rw [if_neg hne]; simp [add_off]
          · have : a.toNat * sz + (M - a.toNat) * sz ≤ cp * sz := by rw [← Nat.add_mul]; exact Nat.mul_le_mul_right _ (by omega)
            omega
        · rcases g6 with g6 | g6
          · exact .inl g6
          · exact .inr (by clear g5; omega)
  · rename_i k off
    split at h
    case h_2 => cases h
    rename_i n e hu
    split at h
    case h_2 => cases h
    rename_i sz p a b hsz hcut
    split at h
    case h_2 => cases h
    rename_i cs hb
    cases hck : (Nat.ble (off + n * sz) cs.length && Nat.ble n 1000000) with
    | false => rw [hck] at h; cases h
    | true =>
    rw [hck] at h
    simp only [cond_true, Option.some.injEq, Prod.mk.injEq] at h
    obtain ⟨rfl, rfl⟩ := h
    simp only [Bool.and_eq_true] at hck
    have hfit := Nat.le_of_ble_eq_true hck.1
    have hn := Nat.le_of_ble_eq_true hck.2
    cases hx with
    | ptr _ _ g hg =>
      obtain ⟨M, hr, h0, h1, h2, h3, h4, _⟩ := bounds_run (P := P) (isS := false) f1 f2 f3 hcut hc (Nat.le_refl _) w
      obtain ⟨o, ho1, ho2⟩ := addif g off M a.toNat sz (by omega)
      have hlive : hget k H ≠ .dead := by rw [hb]; simp
      obtain ⟨xs, e', fr, q1, q2, q3, q4, _⟩ := hS.cells hlive hg
      have hlen := q4.len
      rw [hb] at hlen
      simp only [ABlk.len] at hlen
      have hmul : a.toNat * sz + (b.toNat - a.toNat) * sz ≤ n * sz := by rw [← Nat.add_mul]; exact Nat.mul_le_mul_right _ (by omega)
      refine ⟨.slice (some ⟨g, o, none⟩) (b.toNat - a.toNat) (M - a.toNat), ?_, ?_⟩
      · simp [Instr.sliceAt, run_underlying hu, Instr.sureAddr, hr, sizeT_run hsz, add_off]
        split
        · rename_i e; rw [if_pos e] at ho1; simp only [Option.some.injEq] at ho1; exact ho1
        · rename_i e; rw [if_neg e] at ho1; simp only [Option.some.injEq] at ho1; exact ho1
      · refine .sl _ _ _ _ _ _ (by omega) (by unfold maxI; omega) (by unfold room; omega) (hget_lt hlive) (fun hc => ⟨g, xs.length, hg, by rw [ho2 (by omega)], rowSize_of q1, ?_⟩) (.inr (by rw [hb]; simp only [ABlk.len]; omega))
        have : a.toNat * sz + (M - a.toNat) * sz ≤ n * sz := by rw [← Nat.add_mul]; exact Nat.mul_le_mul_right _ (by omega)
        omega
  · cases h
end
end Go.Proofs.Ytcooilllmcgcmaa.Ae
