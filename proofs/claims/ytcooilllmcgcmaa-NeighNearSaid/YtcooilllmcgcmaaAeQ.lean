/- What a stretch of code leaves behind; blocks under other numbers. No program in sight. -/
import Derived.Test.YtcooilllmcgcmaaAeP
namespace Go.Proofs.Ytcooilllmcgcmaa.Ae
open Go

/-- what a stretch of code leaves behind: more may be frozen than before -/
structure Far (R : Nat → Prop) (w : World) (m : Mp) (H : Hp) (R' : Nat → Prop) (w' : World) (m' : Mp) (H' : Hp) : Prop where
  sub : ∀ g, R g → R' g
  newR : ∀ g, R' g → R g ∨ w.heap.size ≤ g ∨ ∃ k, hget k H ≠ .dead ∧ m k = some g
  sim : Sim R' w' m' H'
  os : w'.os = w.os
  tape : w'.tape = w.tape
  output : w'.output = w.output
  size : w.heap.size ≤ w'.heap.size
  shape : ∀ g, g < w.heap.size → rowSize w' g = rowSize w g
  frame : ∀ g, g < w.heap.size → (∀ k, hget k H ≠ .dead → m k ≠ some g) → w'.heap[g]? = w.heap[g]?
  agree : ∀ k g, m k = some g → m' k = some g
  hlen : H.length ≤ H'.length
  hext : ∀ k, k < H.length → hget k H' = .dead ∨ (hget k H ≠ .dead ∧ (hget k H').len = (hget k H).len)
  news : ∀ k g, hget k H' ≠ .dead → m' k = some g → w.heap.size ≤ g ∨ ∃ k0, hget k0 H ≠ .dead ∧ m k0 = some g
  same : ∀ k, k < H.length → m' k = m k

section
variable {R R' R'' : Nat → Prop} {w w' w'' : World} {m m' m'' : Mp} {H H' H'' : Hp}

theorem Stp.far (s : Stp R w m H w' m' H') : Far R w m H R w' m' H' :=
  ⟨fun _ h => h, fun _ h => .inl h, s.sim, s.os, s.tape, s.output, s.size, s.shape, s.frame, s.agree, s.hlen, s.hext, s.news, s.same⟩
theorem Far.refl (hS : Sim R w m H) : Far R w m H R w m H := (Stp.refl hS).far
theorem Far.trans (s : Far R w m H R' w' m' H') (t : Far R' w' m' H' R'' w'' m'' H'') : Far R w m H R'' w'' m'' H'' := by
  refine ⟨fun g h => t.sub g (s.sub g h), fun g h => ?_, t.sim, t.os.trans s.os, t.tape.trans s.tape, t.output.trans s.output, Nat.le_trans s.size t.size, fun g hg => ?_, fun g hg hn => ?_, fun k g h => t.agree _ _ (s.agree _ _ h), Nat.le_trans s.hlen t.hlen, fun k hk => ?_, fun k g hk hg => ?_, fun k hk => (t.same k (Nat.lt_of_lt_of_le hk s.hlen)).trans (s.same k hk)⟩
  · rcases t.newR g h with h | h | ⟨k, h1, h2⟩
    · exact s.newR g h
    · exact .inr (.inl (Nat.le_trans s.size h))
    · rcases s.news k g h1 h2 with h | h
      · exact .inr (.inl h)
      · exact .inr (.inr h)
  · rw [t.shape g (Nat.lt_of_lt_of_le hg s.size), s.shape g hg]
  · rw [t.frame g (Nat.lt_of_lt_of_le hg s.size) fun k hk e => ?_, s.frame g hg hn]
    rcases s.news k g hk e with h | ⟨k0, h1, h2⟩
    · omega
    · exact hn k0 h1 h2
  · rcases t.hext k (Nat.lt_of_lt_of_le hk s.hlen) with h | ⟨h1, h2⟩
    · exact .inl h
    · rcases s.hext k hk with h | ⟨h3, h4⟩
      · exact absurd h h1
      · exact .inr ⟨h3, h2.trans h4⟩
  · rcases t.news k g hk hg with h | ⟨k0, h1, h2⟩
    · exact .inl (Nat.le_trans s.size h)
    · exact s.news k0 g h1 h2
theorem Far.rsame (s : Far R w m H R' w' m' H') (hS : Sim R w m H) (g : Nat) (hg : R g) : w'.heap[g]? = w.heap[g]? :=
  s.frame g (hS.rlt g hg) fun k hk e => (hS.own k g hk e).1 hg
theorem Far.rows (s : Far R w m H R' w' m' H') (g n : Nat) (h : rowSize w g = some n) : rowSize w' g = some n := by
  rw [s.shape g (rowSize_lt h)]; exact h
theorem VR.far (s : Far R w m H R' w' m' H') (hS : Sim R w m H) {v : AVal} {x : Value} (h : VR R w m H v x) : VR R' w' m' H' v x :=
  h.mono s.sub (s.rsame hS) s.rows s.agree s.hlen s.hext
theorem VL.far (s : Far R w m H R' w' m' H') (hS : Sim R w m H) {vs : List AVal} {xs : List Value} (h : VL R w m H vs xs) : VL R' w' m' H' vs xs :=
  h.mono s.sub (s.rsame hS) s.rows s.agree s.hlen s.hext

/-! ### other numbers -/
/-- one heap's blocks are found in the other one -/
structure Num (r : Nat → Option Nat) (m : Mp) (H : Hp) (m' : Mp) (H' : Hp) : Prop where
  map : ∀ k k' g, r k = some k' → m k = some g → m' k' = some g
  lt : ∀ k k', r k = some k' → k < H.length → k' < H'.length
  len : ∀ k k', r k = some k' → k < H.length → hget k' H' = .dead ∨ (hget k H ≠ .dead ∧ (hget k' H').len = (hget k H).len)

theorem renL_get (r : Nat → Option Nat) : ∀ (l : List AVal) (i : Nat), (renL r l)[i]? = (l[i]?).map (ren r)
  | [], i => by simp [renL]
  | v :: l, 0 => by simp [renL]
  | v :: l, i + 1 => by simpa [renL] using renL_get r l i
theorem renL_length (r : Nat → Option Nat) : ∀ (l : List AVal), (renL r l).length = l.length
  | [] => rfl
  | v :: l => by simp [renL, renL_length r l]
theorem renL_some {r : Nat → Option Nat} {l : List AVal} {i : Nat} {v : AVal} (h : (renL r l)[i]? = some v) : ∃ u, l[i]? = some u ∧ v = ren r u := by
  rw [renL_get] at h
  cases hl : l[i]? with
  | none => rw [hl] at h; cases h
  | some u => rw [hl] at h; exact ⟨u, rfl, (Option.some.inj h).symm⟩

theorem VR.ren {r : Nat → Option Nat} {v : AVal} {x : Value} (h : VR R w m H v x) : ∀ {m' : Mp} {H' : Hp}, Num r m H m' H' → VR R w m' H' (ren r v) x := by
  induction h with
  | undef x => intros; exact .undef x
  | bool b => intros; exact .bool b
  | int k n => intros; exact .int k n
  | byte x => intros; exact .byte x
  | str l h => intros; exact .str l h
  | nilS => intros; exact .nilS
  | sl b off len sz a c h1 h2 h3 h4 h5 h6 =>
    intro m' H' hN
    simp only [Ae.ren]
    cases hb : r b with
    | none => exact .undef _
    | some k =>
      refine .sl k off len sz a c h1 h2 h3 (hN.lt _ _ hb h4) (fun hc => ?_) ?_
      · obtain ⟨g, n, e1, e2⟩ := h5 hc
        exact ⟨g, n, hN.map _ _ _ hb e1, e2⟩
      · rcases hN.len _ _ hb h4 with hd | ⟨hd, he⟩
        · exact .inl hd
        · rcases h6 with h6 | h6
          · exact absurd h6 hd
          · exact .inr (by rw [he]; exact h6)
  | roB l a c g off h1 h2 h3 h4 h5 => intros; exact .roB l a c g off h1 h2 h3 h4 h5
  | ro n sz f a c g off X h1 h2 h3 h4 h5 h6 h7 ih => intros; exact .ro n sz f a c g off X h1 h2 h3 h4 h5 h6 h7
  | nilP => intros; exact .nilP
  | ptr b off g h =>
    intro m' H' hN
    simp only [Ae.ren]
    cases hb : r b with
    | none => exact .undef _
    | some k => exact .ptr k off g (hN.map _ _ _ hb h)
  | rop cs g off X h4 h5 h6 ih => intros; exact .rop cs g off X h4 h5 h6
  | agg cs xs h1 h2 h3 ih =>
    intro m' H' hN
    simp only [Ae.ren]
    refine .agg _ xs (by rw [renL_length]; exact h1) (fun i v x hv hx => ?_) h3
    obtain ⟨u, hu, rfl⟩ := renL_some hv
    exact ih i u x hu hx hN
  | tup cs xs h1 h2 ih =>
    intro m' H' hN
    simp only [Ae.ren]
    refine .tup _ xs (by rw [renL_length]; exact h1) (fun i v x hv hx => ?_)
    obtain ⟨u, hu, rfl⟩ := renL_some hv
    exact ih i u x hu hx hN
  | fn f a b xs ys h1 h2 h3 h4 ih1 ih2 =>
    intro m' H' hN
    simp only [Ae.ren]
    refine .fn f _ _ xs ys (by rw [renL_length]; exact h1) (fun i v x hv hx => ?_) (by rw [renL_length]; exact h3) (fun i v x hv hx => ?_)
    · obtain ⟨u, hu, rfl⟩ := renL_some hv
      exact ih1 i u x hu hx hN
    · obtain ⟨u, hu, rfl⟩ := renL_some hv
      exact ih2 i u x hu hx hN
  | nilF => intros; exact .nilF
theorem VL.ren {r : Nat → Option Nat} {vs : List AVal} {xs : List Value} (h : VL R w m H vs xs) (hN : Num r m H m' H') : VL R w m' H' (renL r vs) xs := by
  refine ⟨by rw [renL_length]; exact h.1, fun i v x hv hx => ?_⟩
  obtain ⟨u, hu, rfl⟩ := renL_some hv
  exact (h.2 i u x hu hx).ren hN
theorem BR.ren {r : Nat → Option Nat} {B : ABlk} {xs : List Value} (h : BR R w m H B xs) (hN : Num r m H m' H') : BR R w m' H' (renB r B) xs := by
  cases B with
  | dead => trivial
  | bytes l => exact h
  | vals cs => obtain ⟨ys, q, e, h⟩ := h; exact ⟨ys, q, e, h.ren hN⟩
  | flat cs => exact h
theorem renB_len (r : Nat → Option Nat) (B : ABlk) : (renB r B).len = B.len := by cases B <;> simp [renB, ABlk.len, renL_length]
theorem renB_dead {r : Nat → Option Nat} {B : ABlk} : renB r B = .dead ↔ B = .dead := by cases B <;> simp [renB]

/-! ### lists of numbers -/
theorem elemN_iff {k : Nat} : ∀ {l : List Nat}, elemN k l = true ↔ k ∈ l
  | [] => by simp [elemN]
  | j :: r => by
    simp only [elemN]
    cases hk : Nat.beq k j with
    | true => have := Nat.eq_of_beq_eq_true hk; simp [this]
    | false =>
      have : k ≠ j := fun e => by subst e; simp [Nat.beq_refl] at hk
      simp [this, elemN_iff (l := r)]
theorem idxO_get {k : Nat} : ∀ {l : List Nat} {i : Nat}, idxO k l = some i → l[i]? = some k
  | [], i, h => by simp [idxO] at h
  | j :: r, i, h => by
    simp only [idxO] at h
    cases hk : Nat.beq k j with
    | true => rw [hk] at h; have := Nat.eq_of_beq_eq_true hk; simp at h; subst h this; rfl
    | false =>
      rw [hk] at h
      simp only [cond] at h
      split at h
      · rename_i i' hi; cases h; simpa using idxO_get hi
      · cases h
theorem idxO_mem {k : Nat} : ∀ {l : List Nat}, k ∈ l → ∃ i, idxO k l = some i
  | [], h => by simp at h
  | j :: r, h => by
    simp only [idxO]
    cases hk : Nat.beq k j with
    | true => exact ⟨0, rfl⟩
    | false =>
      have hne : k ≠ j := fun e => by subst e; simp [Nat.beq_refl] at hk
      obtain ⟨i, hi⟩ := idxO_mem (l := r) (by simpa [hne] using h)
      exact ⟨i + 1, by simp [hi]⟩
theorem reach_seen (H : Hp) : ∀ (n : Nat) (todo seen : List Nat), ∃ more, reach H n todo seen = seen ++ more ∧ (seen.Nodup → (reach H n todo seen).Nodup)
  | 0, _, seen => ⟨[], by simp [reach], fun h => h⟩
  | n + 1, [], seen => ⟨[], by simp [reach], fun h => h⟩
  | n + 1, k :: r, seen => by
    simp only [reach]
    cases hk : elemN k seen with
    | true => exact reach_seen H n r seen
    | false =>
      obtain ⟨more, e, hn⟩ := reach_seen H n (r ++ refsB (hget k H)) (seen ++ [k])
      refine ⟨k :: more, by simp only [cond]; rw [e]; simp, fun h => hn ?_⟩
      have : k ∉ seen := fun h => by rw [elemN_iff.2 h] at hk; cases hk
      rw [List.nodup_append]
      exact ⟨h, by simp, fun a ha b hb => by simp at hb; subst hb; exact fun e => this (e ▸ ha)⟩
theorem seek_ok (H : Hp) (n0 : Nat) (vs : List AVal) : (seek H n0 vs).Nodup ∧ (∀ i, i < n0 → (seek H n0 vs)[i]? = some i) := by
  obtain ⟨more, e, hn⟩ := reach_seen H 200 (refsLow n0 H ++ refsL vs) (List.range n0)
  refine ⟨hn List.nodup_range, fun i hi => ?_⟩
  unfold seek
  rw [e, List.getElem?_append_left (by simpa using hi)]
  simp [hi]

theorem subHeap_length (r : Nat → Option Nat) (H : Hp) : ∀ S, (subHeap r H S).length = S.length
  | [] => rfl
  | k :: S => by simp [subHeap, subHeap_length r H S]
theorem subHeap_get (r : Nat → Option Nat) (H : Hp) : ∀ (S : List Nat) (i k : Nat), S[i]? = some k → hget i (subHeap r H S) = renB r (hget k H)
  | [], i, k, h => by simp at h
  | j :: S, 0, k, h => by simp at h; subst h; rfl
  | j :: S, i + 1, k, h => by simpa [subHeap, hget] using subHeap_get r H S i k (by simpa using h)

theorem nodup_inj {l : List Nat} (h : l.Nodup) {i j k : Nat} (hi : l[i]? = some k) (hj : l[j]? = some k) : i = j := by
  obtain ⟨i1, i2⟩ := List.getElem?_eq_some_iff.1 hi
  obtain ⟨j1, j2⟩ := List.getElem?_eq_some_iff.1 hj
  rw [List.Nodup, List.pairwise_iff_getElem] at h
  rcases Nat.lt_trichotomy i j with hl | hl | hl
  · exact absurd (i2.trans j2.symm) (h i j i1 j1 hl)
  · exact hl
  · exact absurd (j2.trans i2.symm) (h j i j1 i1 hl)
/-- the heap of the blocks of a list -/
def subM (S : List Nat) (m : Mp) : Mp := fun i => (S[i]?).bind m

theorem sub_num (S : List Nat) (m : Mp) (H : Hp) : Num (fun k => idxO k S) m H (subM S m) (subHeap (fun k => idxO k S) H S) := by
  refine ⟨fun k k' g h hm => ?_, fun k k' h _ => ?_, fun k k' h _ => ?_⟩
  · simp [subM, idxO_get h, hm]
  · rw [subHeap_length]; exact (List.getElem?_eq_some_iff.1 (idxO_get h)).1
  · rw [subHeap_get _ _ _ _ _ (idxO_get h), renB_len]
    by_cases hd : hget k H = .dead
    · exact .inl (by rw [hd]; rfl)
    · exact .inr ⟨hd, rfl⟩

theorem Sim.sub (hS : Sim R w m H) {S : List Nat} (hn : S.Nodup) : Sim R w (subM S m) (subHeap (fun k => idxO k S) H S) := by
  have hN := sub_num S m H
  have key : ∀ i, hget i (subHeap (fun k => idxO k S) H S) ≠ .dead → ∃ k, S[i]? = some k ∧ hget k H ≠ .dead ∧ hget i (subHeap (fun k => idxO k S) H S) = renB (fun k => idxO k S) (hget k H) ∧ subM S m i = m k := fun i hi => by
    have hlt := hget_lt hi
    rw [subHeap_length] at hlt
    refine ⟨S[i], List.getElem?_eq_getElem hlt, fun hd => hi ?_, subHeap_get _ _ _ _ _ (List.getElem?_eq_getElem hlt), by simp [subM, hlt]⟩
    rw [subHeap_get _ _ _ _ _ (List.getElem?_eq_getElem hlt), hd]; rfl
  refine ⟨hS.rlt, fun k hk => ?_, fun k g hk hg => ?_, fun k hk hm => ?_, fun k k' g hk hk' hg hg' => ?_⟩
  · rw [subHeap_length] at hk; simp [subM, List.getElem?_eq_none hk]
  · obtain ⟨j, e1, e2, e3, e4⟩ := key k hk
    rw [e4] at hg
    obtain ⟨a1, xs, e, fr, a2, a3, a4, a5⟩ := hS.own j g e2 hg
    exact ⟨a1, xs, e, fr, a2, a3, a4, by rw [e3]; exact a5.ren hN⟩
  · obtain ⟨j, e1, e2, e3, e4⟩ := key k hk
    rw [e4] at hm
    rw [e3, renB_len]; exact hS.ph j e2 hm
  · obtain ⟨j, e1, e2, e3, e4⟩ := key k hk
    obtain ⟨j', f1, f2, f3, f4⟩ := key k' hk'
    rw [e4] at hg; rw [f4] at hg'
    have := hS.inj j j' g e2 f2 hg hg'
    subst this
    exact nodup_inj hn e1 f1

/-- the blocks that are needed alone -/
theorem Far.restrict {R0 : Nat → Prop} {w0 : World} {m0 : Mp} {H0 : Hp} (s : Far R0 w0 m0 H0 R w m H) (hS0 : Sim R0 w0 m0 H0) {S : List Nat} (hn : S.Nodup) (hp : ∀ i, i < H0.length → S[i]? = some i) :
    Far R0 w0 m0 H0 R w (subM S m) (subHeap (fun k => idxO k S) H S) := by
  refine ⟨s.sub, s.newR, s.sim.sub hn, s.os, s.tape, s.output, s.size, s.shape, s.frame, fun k g h => ?_, ?_, fun k hk => ?_, fun k g hk hg => ?_, fun k hk => by simp [subM, hp k hk, s.same k hk]⟩
  · have hk : k < H0.length := by
      rcases Nat.lt_or_ge k H0.length with h' | h'
      · exact h'
      · rw [hS0.out k h'] at h; cases h
    simp [subM, hp k hk, s.agree k g h]
  · rw [subHeap_length]
    rcases Nat.eq_zero_or_pos H0.length with h | h
    · omega
    · have := (List.getElem?_eq_some_iff.1 (hp (H0.length - 1) (by omega))).1; omega
  · rw [subHeap_get _ _ _ _ _ (hp k hk), renB_len, renB_dead]
    exact s.hext k hk
  · have hlt := hget_lt hk
    rw [subHeap_length] at hlt
    have e := List.getElem?_eq_getElem hlt
    have hd : hget S[k] H ≠ .dead := fun hd => hk (by rw [subHeap_get _ _ _ _ _ e, hd]; rfl)
    simp only [subM, e, Option.bind_some] at hg
    exact s.news _ g hd hg
end
end Go.Proofs.Ytcooilllmcgcmaa.Ae
