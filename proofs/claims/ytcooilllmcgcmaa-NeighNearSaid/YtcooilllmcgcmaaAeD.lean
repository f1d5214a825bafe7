/- Blocks written, given up, taken over; lists of cells. No program in sight. -/
import Derived.Test.YtcooilllmcgcmaaAeC
namespace Go.Proofs.Ytcooilllmcgcmaa.Ae
open Go
section
variable {R : Nat → Prop} {w w' : World} {m m' : Mp} {H H' : Hp}

theorem hext_self (H : Hp) : ∀ k, k < H.length → hget k H = .dead ∨ (hget k H ≠ .dead ∧ (hget k H).len = (hget k H).len) := fun k _ => by
  by_cases h : hget k H = .dead
  · exact .inl h
  · exact .inr ⟨h, rfl⟩

theorem heap_setRow_ne (w : World) (g j : Nat) (cs : Array Value) (h : j ≠ g) : (w.setRow g cs).heap[j]? = w.heap[j]? := setRow_other w g j cs h
theorem rowSize_setRow (w : World) (g : Nat) (xs xs' : List Value) (e : TypeId) (fr : Nat × Nat) (hg : w.heap[g]? = some (.cells xs.toArray e fr)) (hl : xs'.length = xs.length) (j : Nat) :
    rowSize (w.setRow g xs'.toArray) j = rowSize w j := by
  by_cases h : j = g
  · subst h
    rw [rowSize_of hg, rowSize_of (setRow_heap w j _ _ e fr hg), hl]
  · unfold rowSize World.shape?; rw [heap_setRow_ne w g j _ h]

/-- a block is written -/
theorem Sim.put (hS : Sim R w m H) {k g : Nat} (hk : hget k H ≠ .dead) (hg : m k = some g) {xs xs' : List Value} {e : TypeId} {fr : Nat × Nat} (hh : w.heap[g]? = some (.cells xs.toArray e fr))
    (B : ABlk) (hlen : B.len = (hget k H).len) (hl : xs'.length = xs.length) (h1 : ∀ x ∈ xs', x.oneCell' = true) (hB : BR R w m H B xs') :
    Stp R w m H (w.setRow g xs'.toArray) m (hset k B H) := by
  obtain ⟨hR, xs0, e0, fr0, hh0, hsoft, _, _⟩ := hS.own k g hk hg
  rw [hh] at hh0
  obtain ⟨rfl, rfl, rfl⟩ : xs = xs0 ∧ e = e0 ∧ fr = fr0 := by simpa using hh0
  have hklt := hget_lt hk
  have hw : ∀ j, R j → (w.setRow g xs'.toArray).heap[j]? = w.heap[j]? := fun j hj => heap_setRow_ne w g j _ (fun e => hR (e ▸ hj))
  have hrow : ∀ j n, rowSize w j = some n → rowSize (w.setRow g xs'.toArray) j = some n := fun j n h => by rw [rowSize_setRow w g xs xs' e fr hh hl]; exact h
  have hH : ∀ j, j < H.length → hget j (hset k B H) = .dead ∨ (hget j H ≠ .dead ∧ (hget j (hset k B H)).len = (hget j H).len) := fun j hj => by
    by_cases h : j = k
    · subst h; rw [hget_hset_same hj]; exact .inr ⟨hk, hlen⟩
    · rw [hget_hset_ne h]; exact hext_self H j hj
  have live : ∀ j, hget j (hset k B H) ≠ .dead → hget j H ≠ .dead := fun j h => by
    by_cases e : j = k
    · subst e; exact hk
    · rwa [hget_hset_ne e] at h
  have hll : (hset k B H).length = H.length := hset_length ..
  refine ⟨⟨fun j hj => by have := hS.rlt j hj; simpa using this, fun j hj => hS.out j (by omega), fun j g' h hg' => ?_, fun j h hn => ?_, fun j j' g' h h' => hS.inj j j' g' (live j h) (live j' h')⟩, rfl, rfl, rfl, by simp,
    fun j _ => rowSize_setRow w g xs xs' e fr hh hl j, fun j _ hn => heap_setRow_ne w g j _ (fun e => hn k hk (e ▸ hg)), fun _ _ h => h, by omega, hH, fun j g' h hg' => .inr ⟨j, live j h, hg'⟩, fun _ _ => rfl⟩
  · by_cases hj : j = k
    · subst hj
      obtain rfl : g = g' := by rw [hg] at hg'; exact Option.some.inj hg'
      refine ⟨hR, xs', e, fr, setRow_heap w g _ _ e fr hh, by rw [hl]; exact hsoft, h1, ?_⟩
      rw [hget_hset_same hklt]
      exact hB.mono (fun _ h => h) hw hrow (fun _ _ h => h) (by omega) hH
    · have hl' := live j h
      obtain ⟨a1, ys, e', fr', a2, a3, a4, a5⟩ := hS.own j g' hl' hg'
      have hne : g' ≠ g := fun e => hj (hS.inj j k g' hl' hk hg' (e ▸ hg))
      rw [hget_hset_ne hj]
      exact ⟨a1, ys, e', fr', by rw [heap_setRow_ne w g g' _ hne]; exact a2, a3, a4, a5.mono (fun _ h => h) hw hrow (fun _ _ h => h) (by omega) hH⟩
  · by_cases hj : j = k
    · subst hj; rw [hg] at hn; cases hn
    · rw [hget_hset_ne hj] at h ⊢; exact hS.ph j h hn

/-- a block is given up -/
theorem Sim.kill (hS : Sim R w m H) (k : Nat) : Stp R w m H w m (hset k .dead H) := by
  have hH : ∀ j, j < H.length → hget j (hset k .dead H) = .dead ∨ (hget j H ≠ .dead ∧ (hget j (hset k .dead H)).len = (hget j H).len) := fun j hj => by
    by_cases h : j = k
    · subst h; rw [hget_hset_same hj]; exact .inl rfl
    · rw [hget_hset_ne h]; exact hext_self H j hj
  have live : ∀ j, hget j (hset k .dead H) ≠ .dead → hget j H ≠ .dead ∧ hget j (hset k .dead H) = hget j H := fun j h => by
    have hlt := hget_lt h
    rw [hset_length] at hlt
    by_cases e : j = k
    · subst e; rw [hget_hset_same hlt] at h; exact absurd rfl h
    · rw [hget_hset_ne e] at h ⊢; exact ⟨h, rfl⟩
  have hll : (hset k .dead H).length = H.length := hset_length ..
  refine ⟨⟨hS.rlt, fun j hj => hS.out j (by omega), fun j g' h hg' => ?_, fun j h hn => ?_, fun j j' g' h h' => hS.inj j j' g' (live j h).1 (live j' h').1⟩, rfl, rfl, rfl, Nat.le_refl _,
    fun j _ => rfl, fun j _ hn => rfl, fun _ _ h => h, by omega, hH, fun j g' h hg' => .inr ⟨j, (live j h).1, hg'⟩, fun _ _ => rfl⟩
  · obtain ⟨hl, he⟩ := live j h
    obtain ⟨a1, ys, e', fr', a2, a3, a4, a5⟩ := hS.own j g' hl hg'
    rw [he]
    exact ⟨a1, ys, e', fr', a2, a3, a4, a5.mono (fun _ h => h) (fun _ _ => rfl) (fun _ _ h => h) (fun _ _ h => h) (by omega) hH⟩
  · obtain ⟨hl, he⟩ := live j h
    rw [he]; exact hS.ph j hl hn

/-- a block that is no block: nothing is in it -/
theorem Sim.ghost (hS : Sim R w m H) (B : ABlk) (hB : B.len = 0) : Stp R w m H w m (H ++ [B]) := by
  have hH : ∀ k, k < H.length → hget k (H ++ [B]) = .dead ∨ (hget k H ≠ .dead ∧ (hget k (H ++ [B])).len = (hget k H).len) := fun k hk => by
    rw [hget_append_lt hk]; exact hext_self H k hk
  have hlast : hget H.length (H ++ [B]) = B := by have := hget_append_ge (k := 0) (H := H) (G := [B]); simpa [hget] using this
  have hm : m H.length = none := hS.out _ (Nat.le_refl _)
  have live : ∀ j, hget j (H ++ [B]) ≠ .dead → (j < H.length ∧ hget j H ≠ .dead ∧ hget j (H ++ [B]) = hget j H) ∨ j = H.length := fun j h => by
    have := hget_lt h
    simp at this
    rcases Nat.lt_or_ge j H.length with h' | h'
    · rw [hget_append_lt h'] at h ⊢; exact .inl ⟨h', h, rfl⟩
    · exact .inr (by omega)
  refine ⟨⟨hS.rlt, fun j hj => hS.out j (by simp at hj; omega), fun j g' h hg' => ?_, fun j h hn => ?_, fun j j' g' h h' hg hg' => ?_⟩, rfl, rfl, rfl, Nat.le_refl _,
    fun j _ => rfl, fun j _ hn => rfl, fun _ _ h => h, by simp, hH, fun j g' h hg' => ?_, fun _ _ => rfl⟩
  · rcases live j h with ⟨_, hl, he⟩ | rfl
    · obtain ⟨a1, ys, e', fr', a2, a3, a4, a5⟩ := hS.own j g' hl hg'
      rw [he]
      exact ⟨a1, ys, e', fr', a2, a3, a4, a5.mono (fun _ h => h) (fun _ _ => rfl) (fun _ _ h => h) (fun _ _ h => h) (by simp) hH⟩
    · rw [hm] at hg'; cases hg'
  · rcases live j h with ⟨_, hl, he⟩ | rfl
    · rw [he]; exact hS.ph j hl hn
    · rw [hlast]; exact hB
  · rcases live j h with ⟨_, hl, he⟩ | rfl
    · rcases live j' h' with ⟨_, hl', he'⟩ | rfl
      · exact hS.inj j j' g' hl hl' hg hg'
      · rw [hm] at hg'; cases hg'
    · rw [hm] at hg; cases hg
  · rcases live j h with ⟨_, hl, he⟩ | rfl
    · exact .inr ⟨j, hl, hg'⟩
    · rw [hm] at hg'; cases hg'

/-- a block is given up, and another one takes its place in memory -/
theorem Sim.move (hS : Sim R w m H) {k g : Nat} (hk : hget k H ≠ .dead) (hg : m k = some g) {xs xs' : List Value} {e : TypeId} {fr : Nat × Nat} (hh : w.heap[g]? = some (.cells xs.toArray e fr))
    (B : ABlk) (hl : xs'.length = xs.length) (h1 : ∀ x ∈ xs', x.oneCell' = true) (hB : BR R w m H B xs') :
    Stp R w m H (w.setRow g xs'.toArray) (upd m H.length g) (hset k .dead H ++ [B]) := by
  obtain ⟨hR, xs0, e0, fr0, hh0, hsoft, _, _⟩ := hS.own k g hk hg
  rw [hh] at hh0
  obtain ⟨rfl, rfl, rfl⟩ : xs = xs0 ∧ e = e0 ∧ fr = fr0 := by simpa using hh0
  have hklt := hget_lt hk
  have hw : ∀ j, R j → (w.setRow g xs'.toArray).heap[j]? = w.heap[j]? := fun j hj => heap_setRow_ne w g j _ (fun e => hR (e ▸ hj))
  have hrow : ∀ j n, rowSize w j = some n → rowSize (w.setRow g xs'.toArray) j = some n := fun j n h => by rw [rowSize_setRow w g xs xs' e fr hh hl]; exact h
  have hll : (hset k .dead H).length = H.length := hset_length ..
  have hm : ∀ j g', m j = some g' → upd m H.length g j = some g' := fun j g' h => by
    unfold upd
    split
    · rename_i hj; subst hj; rw [hS.out _ (Nat.le_refl _)] at h; cases h
    · exact h
  have hH : ∀ j, j < H.length → hget j (hset k .dead H ++ [B]) = .dead ∨ (hget j H ≠ .dead ∧ (hget j (hset k .dead H ++ [B])).len = (hget j H).len) := fun j hj => by
    rw [hget_append_lt (by omega)]
    by_cases h : j = k
    · subst h; rw [hget_hset_same hj]; exact .inl rfl
    · rw [hget_hset_ne h]; exact hext_self H j hj
  have hlast : hget H.length (hset k .dead H ++ [B]) = B := by
    have := hget_append_ge (k := 0) (H := hset k .dead H) (G := [B])
    rw [hll] at this
    simpa [hget] using this
  have live : ∀ j, hget j (hset k .dead H ++ [B]) ≠ .dead → (j < H.length ∧ j ≠ k ∧ hget j H ≠ .dead ∧ hget j (hset k .dead H ++ [B]) = hget j H) ∨ j = H.length := fun j h => by
    have := hget_lt h
    simp [hll] at this
    rcases Nat.lt_or_ge j H.length with h' | h'
    · rw [hget_append_lt (by omega)] at h ⊢
      by_cases e : j = k
      · subst e; rw [hget_hset_same h'] at h; exact absurd rfl h
      · rw [hget_hset_ne e] at h ⊢; exact .inl ⟨h', e, h, rfl⟩
    · exact .inr (by omega)
  have mold : ∀ j g', j < H.length → upd m H.length g j = some g' → m j = some g' := fun j g' hj h => by
    unfold upd at h; rwa [if_neg (by omega)] at h
  have mnew : ∀ g', upd m H.length g H.length = some g' → g = g' := fun g' h => by
    unfold upd at h; rw [if_pos rfl] at h; exact Option.some.inj h
  refine ⟨⟨fun j hj => by have := hS.rlt j hj; simpa using this, fun j hj => ?_, fun j g' h hg' => ?_, fun j h hn => ?_, fun j j' g' h h' hj hj' => ?_⟩, rfl, rfl, rfl, by simp,
    fun j _ => rowSize_setRow w g xs xs' e fr hh hl j, fun j _ hn => heap_setRow_ne w g j _ (fun e => hn k hk (e ▸ hg)), hm, by simp [hll], hH, fun j g' h hg' => ?_, fun j hj => if_neg (by omega)⟩
  · simp [hll] at hj
    unfold upd; rw [if_neg (by omega)]; exact hS.out j (by omega)
  · rcases live j h with ⟨h1', h2', hl', he⟩ | rfl
    · have hg0 := mold j g' h1' hg'
      obtain ⟨a1, ys, e', fr', a2, a3, a4, a5⟩ := hS.own j g' hl' hg0
      have hne : g' ≠ g := fun e => h2' (hS.inj j k g' hl' hk hg0 (e ▸ hg))
      rw [he]
      exact ⟨a1, ys, e', fr', by rw [heap_setRow_ne w g g' _ hne]; exact a2, a3, a4, a5.mono (fun _ h => h) hw hrow hm (by simp [hll]) hH⟩
    · obtain rfl := mnew g' hg'
      refine ⟨hR, xs', e, fr, setRow_heap w g _ _ e fr hh, by rw [hl]; exact hsoft, h1, ?_⟩
      rw [hlast]
      exact hB.mono (fun _ h => h) hw hrow hm (by simp [hll]) hH
  · rcases live j h with ⟨h1', h2', hl', he⟩ | rfl
    · rw [he]
      refine hS.ph j hl' ?_
      unfold upd at hn; rwa [if_neg (by omega)] at hn
    · unfold upd at hn; rw [if_pos rfl] at hn; cases hn
  · rcases live j h with ⟨h1', h2', hl', he⟩ | rfl <;> rcases live j' h' with ⟨h3', h4', hl'', he'⟩ | rfl
    · exact hS.inj j j' g' hl' hl'' (mold j g' h1' hj) (mold j' g' h3' hj')
    · have := mnew g' hj'; subst this
      exact absurd (hS.inj j k g hl' hk (mold j g h1' hj) hg) h2'
    · have := mnew g' hj; subst this
      exact absurd (hS.inj j' k g hl'' hk (mold j' g h3' hj') hg) h4'
    · rfl
  · rcases live j h with ⟨h1', h2', hl', he⟩ | rfl
    · exact .inr ⟨j, hl', mold j g' h1' hg'⟩
    · have := mnew g' hg'; subst this
      exact .inr ⟨k, hk, hg⟩

/-! ### lists -/
theorem VL.nil : VL R w m H [] [] := ⟨rfl, fun i v x h => by simp at h⟩
theorem VL.cons {v : AVal} {x : Value} {vs : List AVal} {xs : List Value} (h : VR R w m H v x) (hs : VL R w m H vs xs) : VL R w m H (v :: vs) (x :: xs) := by
  refine ⟨by simp [hs.1], fun i v' x' hv hx => ?_⟩
  cases i with
  | zero => simp at hv hx; subst hv; subst hx; exact h
  | succ i => exact hs.2 i v' x' (by simpa using hv) (by simpa using hx)
theorem VL.nil_inv {xs : List Value} (h : VL R w m H [] xs) : xs = [] := by
  have := h.1; simp at this; exact List.eq_nil_of_length_eq_zero this.symm
theorem VL.cons_inv {v : AVal} {vs : List AVal} {xs : List Value} (h : VL R w m H (v :: vs) xs) : ∃ x r, xs = x :: r ∧ VR R w m H v x ∧ VL R w m H vs r := by
  match xs, h with
  | [], h => have := h.1; simp at this
  | x :: r, h => exact ⟨x, r, rfl, h.2 0 v x rfl rfl, by have := h.1; simpa using this, fun i v' x' hv hx => h.2 (i + 1) v' x' (by simpa using hv) (by simpa using hx)⟩
theorem VL.append {vs us : List AVal} {xs ys : List Value} (h : VL R w m H vs xs) (h' : VL R w m H us ys) : VL R w m H (vs ++ us) (xs ++ ys) := by
  induction vs generalizing xs with
  | nil => rw [h.nil_inv]; exact h'
  | cons v vs ih => obtain ⟨x, r, rfl, h1, h2⟩ := h.cons_inv; exact VL.cons h1 (ih h2)
theorem VL.take {vs : List AVal} {xs : List Value} (h : VL R w m H vs xs) (n : Nat) : VL R w m H (vs.take n) (xs.take n) := by
  refine ⟨by simp [h.1], fun i v x hv hx => ?_⟩
  rw [List.getElem?_take] at hv hx
  split at hv
  · rename_i hi; rw [if_pos hi] at hx; exact h.2 i v x hv hx
  · cases hv
theorem VL.drop {vs : List AVal} {xs : List Value} (h : VL R w m H vs xs) (n : Nat) : VL R w m H (vs.drop n) (xs.drop n) := by
  refine ⟨by simp [h.1], fun i v x hv hx => ?_⟩
  rw [List.getElem?_drop] at hv hx
  exact h.2 _ v x hv hx
theorem VL.agg {cs : List AVal} {xs : List Value} (h : VL R w m H cs xs) (h1 : ∀ x ∈ xs, x.oneCell' = true) : VR R w m H (.agg cs) (.agg xs.toArray) := .agg cs xs h.1 h.2 h1
theorem VL.split {vs us : List AVal} {xs : List Value} (h : VL R w m H (vs ++ us) xs) : ∃ a b, xs = a ++ b ∧ VL R w m H vs a ∧ VL R w m H us b := by
  refine ⟨xs.take vs.length, xs.drop vs.length, (List.take_append_drop ..).symm, ?_, ?_⟩
  · have := h.take vs.length; simpa using this
  · have := h.drop vs.length; simpa using this
theorem VL.of_bytes (l : List UInt8) : VL R w m H (l.map AVal.byte) (l.map fun x => Value.int .u8 (x.toNat : Int)) := by
  induction l with
  | nil => exact VL.nil
  | cons x l ih => exact VL.cons (.byte x) ih

theorem takeN_eq : ∀ {n : Nat} {l r : List AVal}, takeN n l = some r → r = l.take n ∧ n ≤ l.length
  | 0, l, r, h => by simp [takeN] at h; simp [h]
  | n + 1, [], r, h => by simp [takeN] at h
  | n + 1, x :: l, r, h => by
    simp only [takeN] at h
    split at h
    · rename_i q hq
      obtain ⟨rfl, h2⟩ := takeN_eq hq
      cases h; exact ⟨by simp, by simpa using h2⟩
    · cases h
theorem dropN_eq : ∀ {n : Nat} {l r : List AVal}, dropN n l = some r → r = l.drop n ∧ n ≤ l.length
  | 0, l, r, h => by simp [dropN] at h; simp [h]
  | n + 1, [], r, h => by simp [dropN] at h
  | n + 1, x :: l, r, h => by
    simp only [dropN] at h
    obtain ⟨rfl, h2⟩ := dropN_eq h
    exact ⟨by simp, by simpa using h2⟩
theorem partN_eq {off n : Nat} {l r : List AVal} (h : partN off n l = some r) : r = (l.drop off).take n ∧ off + n ≤ l.length := by
  unfold partN at h
  split at h
  · rename_i q hq
    obtain ⟨rfl, h2⟩ := dropN_eq hq
    obtain ⟨rfl, h3⟩ := takeN_eq h
    simp at h3; exact ⟨rfl, by omega⟩
  · cases h
theorem putN_eq : ∀ {off : Nat} {vs l r : List AVal}, putN off vs l = some r → r = l.take off ++ (vs ++ l.drop (off + vs.length)) ∧ off + vs.length ≤ l.length
  | off + 1, vs, [], r, h => by simp [putN] at h
  | off + 1, vs, x :: l, r, h => by
    simp only [putN] at h
    split at h
    · rename_i q hq
      obtain ⟨rfl, h2⟩ := putN_eq hq
      cases h
      refine ⟨?_, by simp; omega⟩
      rw [show off + 1 + vs.length = (off + vs.length) + 1 by omega]; simp
    · cases h
  | 0, [], l, r, h => by simp [putN] at h; simp [h]
  | 0, v :: vs, [], r, h => by simp [putN] at h
  | 0, v :: vs, x :: l, r, h => by
    simp only [putN] at h
    split at h
    · rename_i q hq
      obtain ⟨rfl, h2⟩ := putN_eq hq
      cases h
      refine ⟨?_, by simp at h2 ⊢; omega⟩
      simp
    · cases h
theorem toBytes_eq : ∀ {cs : List AVal} {l : List UInt8}, toBytes cs = some l → cs = l.map AVal.byte
  | [], l, h => by simp [toBytes] at h; simp [h]
  | c :: cs, l, h => by
    cases c <;> simp only [toBytes] at h <;> try (cases h; done)
    split at h
    · rename_i q hq; cases h; simp [toBytes_eq hq]
    · cases h
theorem VL.bytes_inv {l : List UInt8} {xs : List Value} (h : VL R w m H (l.map AVal.byte) xs) : xs = l.map fun x => Value.int .u8 (x.toNat : Int) := by
  induction l generalizing xs with
  | nil => exact h.nil_inv
  | cons x l ih =>
    obtain ⟨y, r, rfl, h1, h2⟩ := VL.cons_inv h
    cases h1
    rw [ih h2]; rfl
/-- values without addresses are what they are in any heap -/
theorem VL.lift {vs : List AVal} {xs : List Value} (h : VL R w Mp.nil [] vs xs) : VL R w m H vs xs :=
  h.mono (fun _ h => h) (fun _ _ => rfl) (fun _ _ h => h) (fun k g h => by cases h) (Nat.zero_le _) (fun k hk => by simp at hk)
theorem VR.lift {v : AVal} {x : Value} (h : VR R w Mp.nil [] v x) : VR R w m H v x :=
  h.mono (fun _ h => h) (fun _ _ => rfl) (fun _ _ h => h) (fun k g h => by cases h) (Nat.zero_le _) (fun k hk => by simp at hk)
/-- a block's cells, as values -/
def _root_.Go.Proofs.Ytcooilllmcgcmaa.Ae.ABlk.av : ABlk → List AVal
  | .dead => []
  | .bytes l => l.map AVal.byte
  | .vals cs => cs
  | .flat cs => cs
theorem av_len (B : ABlk) : B.av.length = B.len := by cases B <;> simp [ABlk.av, ABlk.len]
theorem BR.vl {B : ABlk} {xs : List Value} (h : BR R w m H B xs) : ∃ ys r, xs = ys ++ r ∧ VL R w m H B.av ys := by
  cases B with
  | dead => exact ⟨[], xs, rfl, VL.nil⟩
  | bytes l => obtain ⟨r, rfl⟩ := h; exact ⟨_, r, rfl, VL.of_bytes l⟩
  | vals cs => obtain ⟨ys, r, rfl, h⟩ := h; exact ⟨ys, r, rfl, h⟩
  | flat cs => obtain ⟨ys, r, rfl, h⟩ := h; exact ⟨ys, r, rfl, h.lift⟩
/-- the cells that lie at a pointer into a block -/
theorem Sim.cells (hS : Sim R w m H) {b g : Nat} (hb : hget b H ≠ .dead) (hg : m b = some g) : ∃ (xs : List Value) (e : TypeId) (fr : Nat × Nat), w.heap[g]? = some (.cells xs.toArray e fr) ∧ Soft xs.length fr ∧ (∀ x ∈ xs, x.oneCell' = true) ∧
    BR R w m H (hget b H) xs ∧ ∃ ys r, xs = ys ++ r ∧ VL R w m H (hget b H).av ys := by
  obtain ⟨_, xs, e, fr, h1, h2, h3, h4⟩ := hS.own b g hb hg
  exact ⟨xs, e, fr, h1, h2, h3, h4, h4.vl⟩
theorem cell_of {xs : List Value} {e : TypeId} {fr : Nat × Nat} {g : Nat} (h : w.heap[g]? = some (.cells xs.toArray e fr)) (i : Nat) : w.cell? ⟨g, i, none⟩ = xs[i]? := by
  unfold World.cell?; simp [h]
theorem frozen_of {xs : List Value} {e : TypeId} {fr : Nat × Nat} {g : Nat} (h : w.heap[g]? = some (.cells xs.toArray e fr)) (hs : Soft xs.length fr) {i : Nat} (hi : i < xs.length) : w.frozen? ⟨g, i, none⟩ = false := by
  unfold World.frozen?; simp only [h, Bool.and_eq_false_iff, decide_eq_false_iff_not]
  have := hs i hi
  omega
theorem add_off (g off j : Nat) : (⟨g, off, none⟩ : Addr).add j = ⟨g, off + j, none⟩ := by unfold Addr.add; split <;> simp_all
theorem one_of {v : AVal} {x : Value} (h : VR R w m H v x) (hv : match v with | .agg _ => False | .tup _ => False | .undef => False | _ => True) : x.oneCell' = true := by
  cases h <;> first | rfl | exact hv.elim
end

end Go.Proofs.Ytcooilllmcgcmaa.Ae
