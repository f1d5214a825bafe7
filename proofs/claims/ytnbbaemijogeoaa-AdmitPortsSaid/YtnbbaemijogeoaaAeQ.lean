/- What a stretch of code leaves behind; blocks under other numbers. No program in sight. What a call sees of the caller's blocks. No program in sight. -/
import Derived.Test.YtnbbaemijogeoaaAeM
namespace Go.Proofs.Ytnbbaemijogeoaa.Ae
open Go

/-- what a stretch of code leaves behind: more may be frozen than before -/
structure Far (R : Nat → Prop) (w : World) (m : Mp) (H : Hp) (R' : Nat → Prop) (w' : World) (m' : Mp) (H' : Hp) : Prop where
  sub : ∀ g, R g → R' g
  newR : ∀ g, R' g → R g ∨ w.heap.size ≤ g ∨ ∃ k, hget k H ≠ .dead ∧ m k = some g
  sim : Sim R' w' m' H'
  os : w'.os = w.os
  tape : w'.tape = w.tape
  output : w'.output = w.output
  size : w.heap.size ≤ w'.heap.size
  shape : ∀ g, g < w.heap.size → rowSize w' g = rowSize w g
  frame : ∀ g, g < w.heap.size → (∀ k, hget k H ≠ .dead → m k ≠ some g) → w'.heap[g]? = w.heap[g]?
  agree : ∀ k g, m k = some g → m' k = some g
  hlen : H.length ≤ H'.length
  hext : ∀ k, k < H.length → hget k H' = .dead ∨ (hget k H ≠ .dead ∧ (hget k H').len = (hget k H).len)
  news : ∀ k g, hget k H' ≠ .dead → m' k = some g → w.heap.size ≤ g ∨ ∃ k0, hget k0 H ≠ .dead ∧ m k0 = some g
  same : ∀ k, k < H.length → m' k = m k

section
variable {R R' R'' : Nat → Prop} {w w' w'' : World} {m m' m'' : Mp} {H H' H'' : Hp}

theorem Stp.far (s : Stp R w m H w' m' H') : Far R w m H R w' m' H' :=
  ⟨fun _ h => h, fun _ h => .inl h, s.sim, s.os, s.tape, s.output, s.size, s.shape, s.frame, s.agree, s.hlen, s.hext, s.news, s.same⟩
theorem Far.refl (hS : Sim R w m H) : Far R w m H R w m H := (Stp.refl hS).far
theorem Far.trans (s : Far R w m H R' w' m' H') (t : Far R' w' m' H' R'' w'' m'' H'') : Far R w m H R'' w'' m'' H'' := by
  refine ⟨fun g h => t.sub g (s.sub g h), fun g h => ?_, t.sim, t.os.trans s.os, t.tape.trans s.tape, t.output.trans s.output, Nat.le_trans s.size t.size, fun g hg => ?_, fun g hg hn => ?_, fun k g h => t.agree _ _ (s.agree _ _ h), Nat.le_trans s.hlen t.hlen, fun k hk => ?_, fun k g hk hg => ?_, fun k hk => (t.same k (Nat.lt_of_lt_of_le hk s.hlen)).trans (s.same k hk)⟩
  · rcases t.newR g h with h | h | ⟨k, h1, h2⟩
    · exact s.newR g h
    · exact .inr (.inl (Nat.le_trans s.size h))
    · rcases s.news k g h1 h2 with h | h
      · exact .inr (.inl h)
      · exact .inr (.inr h)
  · rw [t.shape g (Nat.lt_of_lt_of_le hg s.size), s.shape g hg]
  · rw [t.frame g (Nat.lt_of_lt_of_le hg s.size) fun k hk e => ?_, s.frame g hg hn]
    rcases s.news k g hk e with h | ⟨k0, h1, h2⟩
    · omega
    · exact hn k0 h1 h2
  · rcases t.hext k (Nat.lt_of_lt_of_le hk s.hlen) with h | ⟨h1, h2⟩
    · exact .inl h
    · rcases s.hext k hk with h | ⟨h3, h4⟩
      · exact absurd h h1
      · exact .inr ⟨h3, h2.trans h4⟩
  · rcases t.news k g hk hg with h | ⟨k0, h1, h2⟩
    · exact .inl (Nat.le_trans s.size h)
    · exact s.news k0 g h1 h2
theorem Far.rsame (s : Far R w m H R' w' m' H') (hS : Sim R w m H) (g : Nat) (hg : R g) : w'.heap[g]? = w.heap[g]? :=
  s.frame g (hS.rlt g hg) fun k hk e => (hS.own k g hk e).1 hg
theorem Far.rows (s : Far R w m H R' w' m' H') (g n : Nat) (h : rowSize w g = some n) : rowSize w' g = some n := by
  rw [s.shape g (rowSize_lt h)]; exact h
theorem VR.far (s : Far R w m H R' w' m' H') (hS : Sim R w m H) {v : AVal} {x : Value} (h : VR R w m H v x) : VR R' w' m' H' v x :=
  h.mono s.sub (s.rsame hS) s.rows s.agree s.hlen s.hext
theorem VL.far (s : Far R w m H R' w' m' H') (hS : Sim R w m H) {vs : List AVal} {xs : List Value} (h : VL R w m H vs xs) : VL R' w' m' H' vs xs :=
  h.mono s.sub (s.rsame hS) s.rows s.agree s.hlen s.hext

/-! ### other numbers -/
/-- one heap's blocks are found in the other one -/
structure Num (r : Nat → Option Nat) (m : Mp) (H : Hp) (m' : Mp) (H' : Hp) : Prop where
  map : ∀ k k' g, r k = some k' → m k = some g → m' k' = some g
  lt : ∀ k k', r k = some k' → k < H.length → k' < H'.length
  len : ∀ k k', r k = some k' → k < H.length → hget k' H' = .dead ∨ (hget k H ≠ .dead ∧ (hget k' H').len = (hget k H).len)

theorem renL_get (r : Nat → Option Nat) : ∀ (l : List AVal) (i : Nat), (renL r l)[i]? = (l[i]?).map (ren r)
  | [], i => by simp [renL]
  | v :: l, 0 => by simp [renL]
  | v :: l, i + 1 => by simpa [renL] using renL_get r l i
theorem renL_length (r : Nat → Option Nat) : ∀ (l : List AVal), (renL r l).length = l.length
  | [] => rfl
  | v :: l => by simp [renL, renL_length r l]
theorem renL_some {r : Nat → Option Nat} {l : List AVal} {i : Nat} {v : AVal} (h : (renL r l)[i]? = some v) : ∃ u, l[i]? = some u ∧ v = ren r u := by
  rw [renL_get] at h
  cases hl : l[i]? with
  | none => rw [hl] at h; cases h
  | some u => rw [hl] at h; exact ⟨u, rfl, (Option.some.inj h).symm⟩

theorem VR.ren {r : Nat → Option Nat} {v : AVal} {x : Value} (h : VR R w m H v x) : ∀ {m' : Mp} {H' : Hp}, Num r m H m' H' → VR R w m' H' (ren r v) x := by
  induction h with
  | undef x => intros; exact .undef x
  | bool b => intros; exact .bool b
  | int k n => intros; exact .int k n
  | byte x => intros; exact .byte x
  | str l h => intros; exact .str l h
  | nilS => intros; exact .nilS
  | sl b off len sz a c h1 h2 h3 h4 h5 h6 =>
    intro m' H' hN
    simp only [Ae.ren]
    cases hb : r b with
    | none => exact .undef _
    | some k =>
      refine .sl k off len sz a c h1 h2 h3 (hN.lt _ _ hb h4) (fun hc => ?_) ?_
      · obtain ⟨g, n, e1, e2⟩ := h5 hc
        exact ⟨g, n, hN.map _ _ _ hb e1, e2⟩
      · rcases hN.len _ _ hb h4 with hd | ⟨hd, he⟩
        · exact .inl hd
        · rcases h6 with h6 | h6
          · exact absurd h6 hd
          · exact .inr (by rw [he]; exact h6)
  | roB l a c g off h1 h2 h3 h4 h5 => intros; exact .roB l a c g off h1 h2 h3 h4 h5
  | ro n sz f a c g off X h1 h2 h3 h4 h5 h6 h7 ih => intros; exact .ro n sz f a c g off X h1 h2 h3 h4 h5 h6 h7
  | nilP => intros; exact .nilP
  | ptr b off g h =>
    intro m' H' hN
    simp only [Ae.ren]
    cases hb : r b with
    | none => exact .undef _
    | some k => exact .ptr k off g (hN.map _ _ _ hb h)
  | rop cs g off X h4 h5 h6 ih => intros; exact .rop cs g off X h4 h5 h6
  | agg cs xs h1 h2 h3 ih =>
    intro m' H' hN
    simp only [Ae.ren]
    refine .agg _ xs (by rw [renL_length]; exact h1) (fun i v x hv hx => ?_) h3
    obtain ⟨u, hu, rfl⟩ := renL_some hv
    exact ih i u x hu hx hN
  | tup cs xs h1 h2 ih =>
    intro m' H' hN
    simp only [Ae.ren]
    refine .tup _ xs (by rw [renL_length]; exact h1) (fun i v x hv hx => ?_)
    obtain ⟨u, hu, rfl⟩ := renL_some hv
    exact ih i u x hu hx hN
  | fn f a b xs ys h1 h2 h3 h4 ih1 ih2 =>
    intro m' H' hN
    simp only [Ae.ren]
    refine .fn f _ _ xs ys (by rw [renL_length]; exact h1) (fun i v x hv hx => ?_) (by rw [renL_length]; exact h3) (fun i v x hv hx => ?_)
    · obtain ⟨u, hu, rfl⟩ := renL_some hv
      exact ih1 i u x hu hx hN
    · obtain ⟨u, hu, rfl⟩ := renL_some hv
      exact ih2 i u x hu hx hN
  | nilF => intros; exact .nilF
theorem VL.ren {r : Nat → Option Nat} {vs : List AVal} {xs : List Value} (h : VL R w m H vs xs) (hN : Num r m H m' H') : VL R w m' H' (renL r vs) xs := by
  refine ⟨by rw [renL_length]; exact h.1, fun i v x hv hx => ?_⟩
  obtain ⟨u, hu, rfl⟩ := renL_some hv
  exact (h.2 i u x hu hx).ren hN
theorem BR.ren {r : Nat → Option Nat} {B : ABlk} {xs : List Value} (h : BR R w m H B xs) (hN : Num r m H m' H') : BR R w m' H' (renB r B) xs := by
  cases B with
  | dead => trivial
  | bytes l => exact h
  | vals cs => obtain ⟨ys, q, e, h⟩ := h; exact ⟨ys, q, e, h.ren hN⟩
  | flat cs => exact h
theorem renB_len (r : Nat → Option Nat) (B : ABlk) : (renB r B).len = B.len := by cases B <;> simp [renB, ABlk.len, renL_length]
theorem renB_dead {r : Nat → Option Nat} {B : ABlk} : renB r B = .dead ↔ B = .dead := by cases B <;> simp [renB]

/-! ### lists of numbers -/
theorem elemN_iff {k : Nat} : ∀ {l : List Nat}, elemN k l = true ↔ k ∈ l
  | [] => by simp [elemN]
  | j :: r => by
    simp only [elemN]
    cases hk : Nat.beq k j with
    | true => have := Nat.eq_of_beq_eq_true hk; simp [this]
    | false =>
      have : k ≠ j := fun e => by subst e; simp [Nat.beq_refl] at hk
      simp [this, elemN_iff (l := r)]
theorem idxO_get {k : Nat} : ∀ {l : List Nat} {i : Nat}, idxO k l = some i → l[i]? = some k
  | [], i, h => by simp [idxO] at h
  | j :: r, i, h => by
    simp only [idxO] at h
    cases hk : Nat.beq k j with
    | true => rw [hk] at h; have := Nat.eq_of_beq_eq_true hk; simp at h; subst h this; rfl
    | false =>
      rw [hk] at h
      simp only [cond] at h
      split at h
      · rename_i i' hi; cases h; simpa using idxO_get hi
      · cases h
theorem idxO_mem {k : Nat} : ∀ {l : List Nat}, k ∈ l → ∃ i, idxO k l = some i
  | [], h => by simp at h
  | j :: r, h => by
    simp only [idxO]
    cases hk : Nat.beq k j with
    | true => exact ⟨0, rfl⟩
    | false =>
      have hne : k ≠ j := fun e => by subst e; simp [Nat.beq_refl] at hk
      obtain ⟨i, hi⟩ := idxO_mem (l := r) (by simpa [hne] using h)
      exact ⟨i + 1, by simp [hi]⟩
theorem reach_seen (H : Hp) : ∀ (n : Nat) (todo seen : List Nat), ∃ more, reach H n todo seen = seen ++ more ∧ (seen.Nodup → (reach H n todo seen).Nodup)
  | 0, _, seen => ⟨[], by simp [reach], fun h => h⟩
  | n + 1, [], seen => ⟨[], by simp [reach], fun h => h⟩
  | n + 1, k :: r, seen => by
    simp only [reach]
    cases hk : elemN k seen with
    | true => exact reach_seen H n r seen
    | false =>
      obtain ⟨more, e, hn⟩ := reach_seen H n (r ++ refsB (hget k H)) (seen ++ [k])
      refine ⟨k :: more, by simp only [cond]; rw [e]; simp, fun h => hn ?_⟩
      have : k ∉ seen := fun h => by rw [elemN_iff.2 h] at hk; cases hk
      rw [List.nodup_append]
      exact ⟨h, by simp, fun a ha b hb => by simp at hb; subst hb; exact fun e => this (e ▸ ha)⟩
theorem seek_ok (H : Hp) (n0 : Nat) (vs : List AVal) : (seek H n0 vs).Nodup ∧ (∀ i, i < n0 → (seek H n0 vs)[i]? = some i) := by
  obtain ⟨more, e, hn⟩ := reach_seen H 200 (refsLow n0 H ++ refsL vs) (List.range n0)
  refine ⟨hn List.nodup_range, fun i hi => ?_⟩
  unfold seek
  rw [e, List.getElem?_append_left (by simpa using hi)]
  simp [hi]

theorem subHeap_length (r : Nat → Option Nat) (H : Hp) : ∀ S, (subHeap r H S).length = S.length
  | [] => rfl
  | k :: S => by simp [subHeap, subHeap_length r H S]
theorem subHeap_get (r : Nat → Option Nat) (H : Hp) : ∀ (S : List Nat) (i k : Nat), S[i]? = some k → hget i (subHeap r H S) = renB r (hget k H)
  | [], i, k, h => by simp at h
  | j :: S, 0, k, h => by simp at h; subst h; rfl
  | j :: S, i + 1, k, h => by simpa [subHeap, hget] using subHeap_get r H S i k (by simpa using h)

theorem nodup_inj {l : List Nat} (h : l.Nodup) {i j k : Nat} (hi : l[i]? = some k) (hj : l[j]? = some k) : i = j := by
  obtain ⟨i1, i2⟩ := List.getElem?_eq_some_iff.1 hi
  obtain ⟨j1, j2⟩ := List.getElem?_eq_some_iff.1 hj
  rw [List.Nodup, List.pairwise_iff_getElem] at h
  rcases Nat.lt_trichotomy i j with hl | hl | hl
  · exact absurd (i2.trans j2.symm) (h i j i1 j1 hl)
  · exact hl
  · exact absurd (j2.trans i2.symm) (h j i j1 i1 hl)
/-- the heap of the blocks of a list -/
def subM (S : List Nat) (m : Mp) : Mp := fun i => (S[i]?).bind m

theorem sub_num (S : List Nat) (m : Mp) (H : Hp) : Num (fun k => idxO k S) m H (subM S m) (subHeap (fun k => idxO k S) H S) := by
  refine ⟨fun k k' g h hm => ?_, fun k k' h _ => ?_, fun k k' h _ => ?_⟩
  · simp [subM, idxO_get h, hm]
  · rw [subHeap_length]; exact (List.getElem?_eq_some_iff.1 (idxO_get h)).1
  · rw [subHeap_get _ _ _ _ _ (idxO_get h), renB_len]
    by_cases hd : hget k H = .dead
    · exact .inl (by rw [hd]; rfl)
    · exact .inr ⟨hd, rfl⟩

theorem Sim.sub (hS : Sim R w m H) {S : List Nat} (hn : S.Nodup) : Sim R w (subM S m) (subHeap (fun k => idxO k S) H S) := by
  have hN := sub_num S m H
  have key : ∀ i, hget i (subHeap (fun k => idxO k S) H S) ≠ .dead → ∃ k, S[i]? = some k ∧ hget k H ≠ .dead ∧ hget i (subHeap (fun k => idxO k S) H S) = renB (fun k => idxO k S) (hget k H) ∧ subM S m i = m k := fun i hi => by
    have hlt := hget_lt hi
    rw [subHeap_length] at hlt
    refine ⟨S[i], List.getElem?_eq_getElem hlt, fun hd => hi ?_, subHeap_get _ _ _ _ _ (List.getElem?_eq_getElem hlt), by simp [subM, hlt]⟩
    rw [subHeap_get _ _ _ _ _ (List.getElem?_eq_getElem hlt), hd]; rfl
  refine ⟨hS.rlt, fun k hk => ?_, fun k g hk hg => ?_, fun k hk hm => ?_, fun k k' g hk hk' hg hg' => ?_⟩
  · rw [subHeap_length] at hk; simp [subM, List.getElem?_eq_none hk]
  · obtain ⟨j, e1, e2, e3, e4⟩ := key k hk
    rw [e4] at hg
    obtain ⟨a1, xs, e, fr, a2, a3, a4, a5⟩ := hS.own j g e2 hg
    exact ⟨a1, xs, e, fr, a2, a3, a4, by rw [e3]; exact a5.ren hN⟩
  · obtain ⟨j, e1, e2, e3, e4⟩ := key k hk
    rw [e4] at hm
    rw [e3, renB_len]; exact hS.ph j e2 hm
  · obtain ⟨j, e1, e2, e3, e4⟩ := key k hk
    obtain ⟨j', f1, f2, f3, f4⟩ := key k' hk'
    rw [e4] at hg; rw [f4] at hg'
    have := hS.inj j j' g e2 f2 hg hg'
    subst this
    exact nodup_inj hn e1 f1

/-- the blocks that are needed alone -/
theorem Far.restrict {R0 : Nat → Prop} {w0 : World} {m0 : Mp} {H0 : Hp} (s : Far R0 w0 m0 H0 R w m H) (hS0 : Sim R0 w0 m0 H0) {S : List Nat} (hn : S.Nodup) (hp : ∀ i, i < H0.length → S[i]? = some i) :
    Far R0 w0 m0 H0 R w (subM S m) (subHeap (fun k => idxO k S) H S) := by
  refine ⟨s.sub, s.newR, s.sim.sub hn, s.os, s.tape, s.output, s.size, s.shape, s.frame, fun k g h => ?_, ?_, fun k hk => ?_, fun k g hk hg => ?_, fun k hk => by simp [subM, hp k hk, s.same k hk]⟩
  · have hk : k < H0.length := by
      rcases Nat.lt_or_ge k H0.length with h' | h'
      · exact h'
      · rw [hS0.out k h'] at h; cases h
    simp [subM, hp k hk, s.agree k g h]
  · rw [subHeap_length]
    rcases Nat.eq_zero_or_pos H0.length with h | h
    · omega
    · have := (List.getElem?_eq_some_iff.1 (hp (H0.length - 1) (by omega))).1; omega
  · rw [subHeap_get _ _ _ _ _ (hp k hk), renB_len, renB_dead]
    exact s.hext k hk
  · have hlt := hget_lt hk
    rw [subHeap_length] at hlt
    have e := List.getElem?_eq_getElem hlt
    have hd : hget S[k] H ≠ .dead := fun hd => hk (by rw [subHeap_get _ _ _ _ _ e, hd]; rfl)
    simp only [subM, e, Option.bind_some] at hg
    exact s.news _ g hd hg
end
end Go.Proofs.Ytnbbaemijogeoaa.Ae

namespace Go.Proofs.Ytnbbaemijogeoaa.Ae
open Go
section
variable {P : Program} {R R' : Nat → Prop} {w w' : World} {m m' : Mp} {H H' : Hp}

theorem noRoL_get : ∀ {l : List AVal} {i : Nat} {v : AVal}, noRoL l = true → l[i]? = some v → noRo v = true
  | [], _, _, _, h => by simp at h
  | u :: l, 0, v, hc, h => by simp [noRoL] at hc h; subst h; exact hc.1
  | u :: l, i + 1, v, hc, h => by simp [noRoL] at hc; exact noRoL_get hc.2 (by simpa using h)

theorem VR.noRo {v : AVal} {x : Value} (h : VR R w m H v x) : Ae.noRo v = true → ∀ (R' : Nat → Prop), VR R' w m H v x := by
  induction h with
  | undef x => intros; exact .undef x
  | bool b => intros; exact .bool b
  | int k n => intros; exact .int k n
  | byte x => intros; exact .byte x
  | str l h => intros; exact .str l h
  | nilS => intros; exact .nilS
  | sl b off len sz a c h1 h2 h3 h4 h5 h6 => intros; exact .sl b off len sz a c h1 h2 h3 h4 h5 h6
  | roB l a c g off h1 h2 h3 h4 h5 => intro hc; simp [Ae.noRo] at hc
  | ro n sz f a c g off X h1 h2 h3 h4 h5 h6 h7 ih => intro hc; simp [Ae.noRo] at hc
  | nilP => intros; exact .nilP
  | ptr b off g h => intros; exact .ptr b off g h
  | rop cs g off X h4 h5 h6 ih => intro hc; simp [Ae.noRo] at hc
  | agg cs xs h1 h2 h3 ih =>
    intro hc R'
    simp only [Ae.noRo] at hc
    exact .agg cs xs h1 (fun i v x hv hx => ih i v x hv hx (noRoL_get hc hv) R') h3
  | tup cs xs h1 h2 ih =>
    intro hc R'
    simp only [Ae.noRo] at hc
    exact .tup cs xs h1 (fun i v x hv hx => ih i v x hv hx (noRoL_get hc hv) R')
  | fn f a b xs ys h1 h2 h3 h4 ih1 ih2 =>
    intro hc R'
    simp only [Ae.noRo, Bool.and_eq_true] at hc
    exact .fn f a b xs ys h1 (fun i v x hv hx => ih1 i v x hv hx (noRoL_get hc.1 hv) R') h3 (fun i v x hv hx => ih2 i v x hv hx (noRoL_get hc.2 hv) R')
  | nilF => intros; exact .nilF
theorem BR.noRo {B : ABlk} {xs : List Value} (h : BR R w m H B xs) (hB : noRoB B = true) (R' : Nat → Prop) : BR R' w m H B xs := by
  cases B with
  | dead => trivial
  | bytes l => exact h
  | vals cs => obtain ⟨ys, q, e, h⟩ := h; exact ⟨ys, q, e, h.1, fun i v x hv hx => (h.2 i v x hv hx).noRo (noRoL_get hB hv) R'⟩
  | flat cs => simp [noRoB] at hB

theorem ro_of {len sz off : Nat} {a : Option Addr} {c : Nat} {r : List AVal} (h1 : len ≤ c) (h2 : c ≤ maxI) (h3 : len ≤ room) (hr : r.length = len * sz)
    (h : 0 < len → ∃ g, a = some ⟨g, off, none⟩ ∧ R g ∧ ∀ j v, r[j]? = some v → ∃ x, w.cell? ⟨g, off + j, none⟩ = some x ∧ x.oneCell' = true ∧ VR R w Mp.nil [] v x) : VR R w m H (.ro len sz (rowsOf sz r)) (.slice a len c) := by
  have hrow : ∀ i, i < len → i * sz + sz ≤ len * sz := fun i hi => by
    have := Nat.mul_le_mul_right sz (show i + 1 ≤ len from hi)
    rw [Nat.add_mul] at this; omega
  have hget : ∀ i j v, (rowsOf sz r i)[j]? = some v → r[i * sz + j]? = some v := fun i j v h => by
    unfold rowsOf at h
    rw [List.getElem?_take] at h
    split at h
    · rwa [List.getElem?_drop] at h
    · cases h
  by_cases h0 : 0 < len
  · obtain ⟨g, ha, hR, hc⟩ := h h0
    refine .ro len sz _ a c g off (fun i j => (w.cell? ⟨g, off + i * sz + j, none⟩).getD undef) h1 h2 h3 (fun _ => ⟨ha, hR⟩) (fun i j v hi hv => ?_) (fun i j v hi hv => ?_) fun i hi => ?_
    · obtain ⟨x, e1, e2, e3⟩ := hc _ v (hget i j v hv)
      rw [← Nat.add_assoc] at e1
      simp only [e1, Option.getD_some]; exact ⟨trivial, e2⟩
    · obtain ⟨x, e1, e2, e3⟩ := hc _ v (hget i j v hv)
      rw [← Nat.add_assoc] at e1
      simp only [e1, Option.getD_some]; exact e3
    · unfold rowsOf
      have := hrow i hi
      simp; omega
  · obtain rfl : len = 0 := by omega
    exact .ro 0 sz _ a c 0 off (fun _ _ => undef) h1 h2 h3 (fun h => absurd h (by omega)) (fun i j v hi _ => absurd hi (by omega)) (fun i j v hi _ => absurd hi (by omega)) fun i hi => absurd hi (by omega)

theorem roB_of {off : Nat} {a : Option Addr} {c : Nat} {l : List UInt8} (h1 : l.length ≤ c) (h2 : c ≤ maxI) (h3 : l.length ≤ room)
    (h : 0 < l.length → ∃ g, a = some ⟨g, off, none⟩ ∧ R g ∧ ∀ (i : Nat) x, l[i]? = some x → w.cell? ⟨g, off + i, none⟩ = some (.int .u8 (x.toNat : Int))) : VR R w m H (.roB l) (.slice a l.length c) := by
  by_cases h0 : 0 < l.length
  · obtain ⟨g, ha, hR, hc⟩ := h h0
    exact .roB l a c g off h1 h2 h3 (fun _ => ⟨ha, hR⟩) hc
  · exact .roB l a c 0 off h1 h2 h3 (fun h => absurd h h0) fun i x hx => by have := (List.getElem?_eq_some_iff.1 hx).1; omega

/-- what is frozen for the call -/
def RC (R : Nat → Prop) (m : Mp) (H : Hp) (ks : List Nat) (g : Nat) : Prop := R g ∨ ∃ k, k ∈ ks ∧ hget k H ≠ .dead ∧ m k = some g

theorem snapCL_get {imps : List Nat} : ∀ {cs l : List AVal}, snapCL imps H cs = some l → cs.length = l.length ∧ ∀ (i : Nat) v, l[i]? = some v → ∃ u, cs[i]? = some u ∧ snapC imps H u = some v
  | [], l, h => by simp [snapCL] at h; subst h; exact ⟨rfl, fun i v h => by simp at h⟩
  | u :: cs, l, h => by
    simp only [snapCL] at h
    split at h
    · rename_i a q h1 h2
      cases h
      obtain ⟨e1, e2⟩ := snapCL_get h2
      refine ⟨by simp [e1], fun i v hv => ?_⟩
      cases i with
      | zero => simp at hv; subst hv; exact ⟨u, rfl, h1⟩
      | succ i => simpa using e2 i v (by simpa using hv)
    · cases h
theorem snapsCL_sub {imps : List Nat} : ∀ {cs : List AVal} {i : Nat} {u : AVal}, cs[i]? = some u → ∀ k ∈ snapsC imps u, k ∈ snapsCL imps cs
  | [], i, u, h => by simp at h
  | v :: cs, 0, u, h => fun k hk => by simp at h; subst h; simp [snapsCL, hk]
  | v :: cs, i + 1, u, h => fun k hk => by simp [snapsCL]; exact .inr (snapsCL_sub (by simpa using h) k hk)

theorem snapC_sound (hS : Sim R w m H) {imps ks : List Nat} {v : AVal} {x : Value} (h : VR R w m H v x) : ∀ {v' : AVal}, snapC imps H v = some v' → (∀ k ∈ snapsC imps v, k ∈ ks) → VR (RC R m H ks) w m H v' x := by
  have same : ∀ {v : AVal} {x : Value}, VR R w m H v x → VR (RC R m H ks) w m H v x := fun h => VR.mono (fun _ h => .inl h) (fun _ _ => rfl) (fun _ _ h => h) h (fun _ _ h => h) (Nat.le_refl _) (hext_self H)
  suffices go : ∀ {m1 : Mp} {H1 : Hp}, m1 = m → H1 = H → VR R w m1 H1 v x → ∀ {v' : AVal}, snapC imps H v = some v' → (∀ k ∈ snapsC imps v, k ∈ ks) → VR (RC R m H ks) w m H v' x from fun {_} h1 h2 => go rfl rfl h h1 h2
  clear h
  intro m1 H1 hm hH h
  induction h with
  | undef x => intro v' h _; simp only [snapC, Option.some.injEq] at h; subst h; exact .undef x
  | bool b => intro v' h _; simp only [snapC, Option.some.injEq] at h; subst h; exact .bool b
  | int k n => intro v' h _; simp only [snapC, Option.some.injEq] at h; subst h; exact .int k n
  | byte x => intro v' h _; simp only [snapC, Option.some.injEq] at h; subst h; exact .byte x
  | str l hl => intro v' h _; simp only [snapC, Option.some.injEq] at h; subst h; exact .str l hl
  | nilS => intro v' h _; simp only [snapC, Option.some.injEq] at h; subst h; exact .nilS
  | @sl m1 H1 b off len sz a c h1 h2 h3 h4 h5 h6 =>
    subst hm hH
    intro v' h hk
    simp only [snapC] at h
    cases hb : elemN b imps with
    | true =>
      rw [hb] at h; simp only [cond_true, Option.some.injEq] at h; subst h
      exact same (.sl b off len sz a c h1 h2 h3 h4 h5 h6)
    | false =>
      rw [hb] at h; simp only [cond_false] at h
      have hbk : b ∈ ks := hk b (by simp [snapsC, hb])
      have src : ∀ B, hget b H1 = B → B ≠ .dead → 0 < len → ∃ g, a = some ⟨g, off, none⟩ ∧ RC R m1 H1 ks g ∧ ∀ j v, (B.av.drop off)[j]? = some v → ∃ x, w.cell? ⟨g, off + j, none⟩ = some x ∧ x.oneCell' = true ∧ VR R w m1 H1 v x ∧ (∀ cs, B = .flat cs → VR R w Mp.nil [] v x) := by
        intro B hB hd hp
        obtain ⟨g, n, e1, e2, _, _⟩ := h5 (by omega)
        refine ⟨g, e2, .inr ⟨b, hbk, by rw [hB]; exact hd, e1⟩, fun j v hv => ?_⟩
        obtain ⟨xs, e, fr, q1, q2, q3, q4, ys, r, hys, hvl⟩ := hS.cells (by rw [hB]; exact hd) e1
        rw [hB] at hvl q4
        rw [List.getElem?_drop] at hv
        have hlt : off + j < ys.length := by rw [← hvl.1]; exact (List.getElem?_eq_some_iff.1 hv).1
        have hx : xs[off + j]? = some ys[off + j] := by rw [hys, List.getElem?_append_left hlt, List.getElem?_eq_getElem hlt]
        refine ⟨ys[off + j], by rw [cell_of q1]; exact hx, q3 _ (by rw [hys]; exact List.mem_append_left _ (List.getElem_mem hlt)), hvl.2 _ _ _ hv (List.getElem?_eq_getElem hlt), fun cs hc => ?_⟩
        subst hc
        obtain ⟨zs, r', hz, hfl⟩ := q4
        have hlt' : off + j < zs.length := by rw [← hfl.1]; exact (List.getElem?_eq_some_iff.1 hv).1
        refine hfl.2 _ _ _ hv ?_
        rw [hz, List.getElem?_append_left hlt'] at hx; exact hx
      have lift : ∀ {v : AVal} {x : Value}, VR R w Mp.nil [] v x → VR (RC R m1 H1 ks) w Mp.nil [] v x := fun h => VR.mono (fun _ h => .inl h) (fun _ _ => rfl) (fun _ _ h => h) h (fun _ _ h => h) (Nat.le_refl _) (hext_self [])
      have take_get : ∀ (l : List AVal) (n j : Nat) (v : AVal), (l.take n)[j]? = some v → l[j]? = some v := fun l n j v h => by
        rw [List.getElem?_take] at h
        split at h
        · exact h
        · cases h
      split at h
      · rename_i l hl
        cases hsz : Nat.beq sz 1 with
        | false => rw [hsz] at h; cases h
        | true =>
          rw [hsz] at h; simp only [cond_true, Option.some.injEq] at h; subst h
          obtain rfl := Nat.eq_of_beq_eq_true hsz
          have hlen : ((l.drop off).take len).length = len := by
            rcases h6 with h6 | h6
            · rw [hl] at h6; cases h6
            · rw [hl] at h6; simp [ABlk.len] at h6 ⊢; omega
          have := roB_of (R := RC R m1 H1 ks) (w := w) (m := m1) (H := H1) (off := off) (a := a) (c := c) (l := (l.drop off).take len) (by omega) h2 (by omega) fun hp => by
            obtain ⟨g, e1, e2, e3⟩ := src _ hl (by simp) (by omega)
            refine ⟨g, e1, e2, fun i x hx => ?_⟩
            obtain ⟨y, f1, f2, f3, _⟩ := e3 i (.byte x) (by
              have := take_get _ _ i (.byte x) (show (((ABlk.bytes l).av.drop off).take len)[i]? = some (.byte x) by
                simp only [ABlk.av, ← List.map_drop, ← List.map_take, List.getElem?_map, hx]; rfl)
              exact this)
            cases f3; exact f1
          rw [hlen] at this; exact this
      · rename_i cs hl
        split at h
        · rename_i r hr
          obtain ⟨rfl, hle⟩ := partN_eq hr
          have hrl : ((cs.drop off).take (len * sz)).length = len * sz := by simp; omega
          split at h
          · rename_i l hb'
            cases hsz : Nat.beq sz 1 with
            | false => rw [hsz] at h; cases h
            | true =>
              rw [hsz] at h; simp only [cond_true, Option.some.injEq] at h; subst h
              obtain rfl := Nat.eq_of_beq_eq_true hsz
              have hbs := toBytes_eq hb'
              have hlen : l.length = len := by have := congrArg List.length hbs; rw [hrl] at this; simp at this; omega
              have := roB_of (R := RC R m1 H1 ks) (w := w) (m := m1) (H := H1) (off := off) (a := a) (c := c) (l := l) (by omega) h2 (by omega) fun hp => by
                obtain ⟨g, e1, e2, e3⟩ := src _ hl (by simp) (by omega)
                refine ⟨g, e1, e2, fun i x hx => ?_⟩
                obtain ⟨y, f1, f2, f3, _⟩ := e3 i (.byte x) (by
                  have := take_get _ _ i (.byte x) (show ((cs.drop off).take (len * 1))[i]? = some (.byte x) by
                    rw [hbs, List.getElem?_map, hx]; rfl)
                  exact this)
                cases f3; exact f1
              rw [hlen] at this; exact this
          · cases hcl : closedL ((cs.drop off).take (len * sz)) && Nat.ble 1 sz with
            | false => rw [hcl] at h; cases h
            | true =>
              rw [hcl] at h; simp only [cond_true, Option.some.injEq] at h; subst h
              rw [Bool.and_eq_true] at hcl
              refine ro_of (off := off) h1 h2 h3 hrl fun hp => ?_
              obtain ⟨g, e1, e2, e3⟩ := src _ hl (by simp) hp
              refine ⟨g, e1, e2, fun j v hv => ?_⟩
              obtain ⟨y, f1, f2, f3, _⟩ := e3 j v (take_get _ _ j v hv)
              exact ⟨y, f1, f2, lift (f3.closed (closedL_get hcl.1 hv))⟩
        · cases h
      · rename_i cs hl
        cases hsz : Nat.ble 1 sz with
        | false => rw [hsz] at h; cases h
        | true =>
          rw [hsz] at h; simp only [cond_true, Option.some.injEq] at h; subst h
          have hrl : ((cs.drop off).take (len * sz)).length = len * sz := by
            rcases h6 with h6 | h6
            · rw [hl] at h6; cases h6
            · rw [hl] at h6; simp [ABlk.len] at h6 ⊢; omega
          refine ro_of (off := off) h1 h2 h3 hrl fun hp => ?_
          obtain ⟨g, e1, e2, e3⟩ := src _ hl (by simp) hp
          refine ⟨g, e1, e2, fun j v hv => ?_⟩
          obtain ⟨y, f1, f2, _, f3⟩ := e3 j v (take_get _ _ j v hv)
          exact ⟨y, f1, f2, lift (f3 _ rfl)⟩
      · cases h
  | roB l a c g off h1 h2 h3 h4 h5 => intro v' h _; simp only [snapC, Option.some.injEq] at h; subst h; exact .roB l a c g off h1 h2 h3 (fun h => ⟨(h4 h).1, .inl (h4 h).2⟩) h5
  | ro n sz f a c g off X h1 h2 h3 h4 h5 h6 h7 ih =>
    intro v' h _; simp only [snapC, Option.some.injEq] at h; subst h
    refine same (.ro n sz f a c g off X h1 h2 h3 h4 h5 h6 h7)
  | nilP => intro v' h _; simp only [snapC, Option.some.injEq] at h; subst h; exact .nilP
  | ptr b off g hp => intro v' h _; simp only [snapC, Option.some.injEq] at h; subst h; subst hm hH; exact .ptr b off g hp
  | rop cs g off X h4 h5 h6 ih => intro v' h _; simp only [snapC, Option.some.injEq] at h; subst h; exact same (.rop cs g off X h4 h5 h6)
  | agg cs xs h1 h2 h3 ih =>
    intro v' h hk
    simp only [snapC] at h
    split at h
    · rename_i l hl
      cases h
      obtain ⟨e1, e2⟩ := snapCL_get hl
      refine .agg l xs (by omega) (fun i v x hv hx => ?_) h3
      obtain ⟨u, hu, hs⟩ := e2 i v hv
      exact ih i u x hu hx hm hH hs fun k hk' => hk k (by simp only [snapsC]; exact snapsCL_sub hu k hk')
    · cases h
  | tup cs xs h1 h2 ih => intro v' h hk; simp [snapC] at h
  | fn f a b xs ys h1 h2 h3 h4 ih1 ih2 =>
    intro v' h _; simp only [snapC, Option.some.injEq] at h; subst h; subst hm hH
    exact same (.fn f a b xs ys h1 h2 h3 h4)
  | nilF => intro v' h _; simp only [snapC, Option.some.injEq] at h; subst h; exact .nilF

theorem snapL_get {imps : List Nat} : ∀ {cs l : List AVal}, snapL imps H cs = some l → cs.length = l.length ∧ ∀ (i : Nat) v, l[i]? = some v → ∃ u, cs[i]? = some u ∧ snap imps H u = some v
  | [], l, h => by simp [snapL] at h; subst h; exact ⟨rfl, fun i v h => by simp at h⟩
  | u :: cs, l, h => by
    simp only [snapL] at h
    split at h
    · rename_i a q h1 h2
      cases h
      obtain ⟨e1, e2⟩ := snapL_get h2
      refine ⟨by simp [e1], fun i v hv => ?_⟩
      cases i with
      | zero => simp at hv; subst hv; exact ⟨u, rfl, h1⟩
      | succ i => simpa using e2 i v (by simpa using hv)
    · cases h
theorem snapsL_sub {imps : List Nat} : ∀ {cs : List AVal} {i : Nat} {u : AVal}, cs[i]? = some u → ∀ k ∈ snaps imps H u, k ∈ snapsL imps H cs
  | [], i, u, h => by simp at h
  | v :: cs, 0, u, h => fun k hk => by simp at h; subst h; simp [snapsL, hk]
  | v :: cs, i + 1, u, h => fun k hk => by simp [snapsL]; exact .inr (snapsL_sub (by simpa using h) k hk)

theorem snapN_sound (hS : Sim R w m H) {imps ks : List Nat} {b off len sz : Nat} {x : Value} (h : VR R w m H (.sl b off len sz) x) {v' : AVal} (hs : snapN imps H b off len sz = some v') (hb : b ∈ ks) (hk : ∀ k ∈ innerN imps H b off len sz, k ∈ ks) : VR (RC R m H ks) w m H v' x := by
  cases h with
  | sl b off len sz a c h1 h2 h3 h4 h5 h6 =>
  unfold snapN at hs
  unfold innerN at hk
  split at hs
  · rename_i cs hl
    rw [hl] at hk
    split at hs
    · rename_i r hr
      simp only [hr] at hk
      obtain ⟨rfl, hle⟩ := partN_eq hr
      split at hs
      · rename_i r' hr'
        cases hc : closedL r' && Nat.ble 1 sz with
        | false => rw [hc] at hs; cases hs
        | true =>
          rw [hc] at hs
          simp only [cond_true, Option.some.injEq] at hs
          subst hs
          rw [Bool.and_eq_true] at hc
          obtain ⟨g1, g2⟩ := snapCL_get hr'
          have hrl : r'.length = len * sz := by rw [← g1]; simp; omega
          refine ro_of (off := off) h1 h2 h3 hrl fun hp => ?_
          obtain ⟨g, n, e1, e2, _, _⟩ := h5 (by omega)
          refine ⟨g, e2, .inr ⟨b, hb, by rw [hl]; simp, e1⟩, fun j v hv => ?_⟩
          obtain ⟨u, hu, hsn⟩ := g2 j v hv
          obtain ⟨xs, e, fr, q1, q2, q3, q4, ys, rr, hys, hvl⟩ := hS.cells (by rw [hl]; simp) e1
          rw [hl] at hvl
          have hu' : cs[off + j]? = some u := by
            rw [List.getElem?_take] at hu
            split at hu
            · rwa [List.getElem?_drop] at hu
            · cases hu
          have hlt : off + j < ys.length := by rw [← hvl.1]; exact (List.getElem?_eq_some_iff.1 hu').1
          have hx : xs[off + j]? = some ys[off + j] := by rw [hys, List.getElem?_append_left hlt, List.getElem?_eq_getElem hlt]
          have hvr := hvl.2 (off + j) u _ hu' (List.getElem?_eq_getElem hlt)
          have := snapC_sound hS hvr hsn (ks := ks) fun k hk' => hk k (snapsCL_sub hu k hk')
          exact ⟨ys[off + j], by rw [cell_of q1]; exact hx, q3 _ (by rw [hys]; exact List.mem_append_left _ (List.getElem_mem hlt)), this.closed (closedL_get hc.1 hv)⟩
      · cases hs
    · cases hs
  · cases hs

theorem snap_sound (hS : Sim R w m H) {imps ks : List Nat} {v : AVal} : ∀ {x : Value}, VR R w m H v x → ∀ {v' : AVal}, snap imps H v = some v' → (∀ k ∈ snaps imps H v, k ∈ ks) → VR (RC R m H ks) w m H v' x := by
  refine AVal.rec (motive_1 := fun v => ∀ {x : Value}, VR R w m H v x → ∀ {v' : AVal}, snap imps H v = some v' → (∀ k ∈ snaps imps H v, k ∈ ks) → VR (RC R m H ks) w m H v' x)
    (motive_2 := fun vs => ∀ (i : Nat) v, vs[i]? = some v → ∀ {x : Value}, VR R w m H v x → ∀ {v' : AVal}, snap imps H v = some v' → (∀ k ∈ snaps imps H v, k ∈ ks) → VR (RC R m H ks) w m H v' x) ?_ ?_ ?_ ?_ ?_ ?_ ?_ ?_ ?_ ?_ ?_ ?_ ?_ ?_ ?_ ?_ ?_ ?_ v
  · intro x h v' hs hk; exact snapC_sound (imps := imps) hS h hs hk
  · intro b x h v' hs hk; exact snapC_sound (imps := imps) hS h hs hk
  · intro k n x h v' hs hk; exact snapC_sound (imps := imps) hS h hs hk
  · intro y x h v' hs hk; exact snapC_sound (imps := imps) hS h hs hk
  · intro l x h v' hs hk; exact snapC_sound (imps := imps) hS h hs hk
  · intro x h v' hs hk; exact snapC_sound (imps := imps) hS h hs hk
  · intro b off len sz x h v' hs hk
    simp only [snap] at hs
    split at hs
    · rename_i v hv
      cases hs
      refine snapC_sound hS h hv fun k hk' => ?_
      simp only [snapsC] at hk'
      simp only [snaps] at hk
      cases hb : elemN b imps with
      | true => rw [hb] at hk'; simp at hk'
      | false => rw [hb] at hk'; simp at hk'; rw [hb] at hk; exact hk k (by simp [hk'])
    · cases hb : elemN b imps with
      | true => rw [hb] at hs; cases hs
      | false =>
        rw [hb] at hs
        simp only [cond_false] at hs
        simp only [snaps, hb, cond_false] at hk
        exact snapN_sound hS h hs (hk b (by simp)) fun k hk' => hk k (by simp [hk'])
  · intro l x h v' hs hk; exact snapC_sound (imps := imps) hS h hs hk
  · intro n sz f ih x h v' hs hk; exact snapC_sound (imps := imps) hS h hs hk
  · intro x h v' hs hk; exact snapC_sound (imps := imps) hS h hs hk
  · intro b off x h v' hs hk; exact snapC_sound (imps := imps) hS h hs hk
  · intro cs ih x h v' hs hk; exact snapC_sound (imps := imps) hS h hs hk
  · intro cs ih x h v' hs hk
    cases h with
    | agg cs xs h1 h2 h3 =>
      simp only [snap] at hs
      split at hs
      · rename_i l hl
        cases hs
        obtain ⟨e1, e2⟩ := snapL_get hl
        refine .agg l xs (by omega) (fun i v x hv hx => ?_) h3
        obtain ⟨u, hu, hs⟩ := e2 i v hv
        exact ih i u hu (h2 i u x hu hx) hs fun k hk' => hk k (by simp only [snaps]; exact snapsL_sub hu k hk')
      · cases hs
  · intro cs ih x h v' hs hk; simp [snap] at hs
  · intro f a b iha ihb x h v' hs hk; exact snapC_sound (imps := imps) hS h hs hk
  · intro x h v' hs hk; exact snapC_sound (imps := imps) hS h hs hk
  · intro i v h; simp at h
  · intro v vs h1 h2 i u hu
    cases i with
    | zero => simp at hu; subst hu; exact h1
    | succ i => exact h2 i u (by simpa using hu)

end
end Go.Proofs.Ytnbbaemijogeoaa.Ae
