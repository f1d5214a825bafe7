/- Blocks written, given up, taken over; lists of cells. No program in sight. Operations over memory: what the evaluator says is what the model does. No program in sight. Stores, places in memory, parts of values. No program in sight. -/
import Derived.Test.YtnbbaemijogeoaaAeC
namespace Go.Proofs.Ytnbbaemijogeoaa.Ae
open Go
section
variable {R : Nat → Prop} {w w' : World} {m m' : Mp} {H H' : Hp}

theorem hext_self (H : Hp) : ∀ k, k < H.length → hget k H = .dead ∨ (hget k H ≠ .dead ∧ (hget k H).len = (hget k H).len) := fun k _ => by
  by_cases h : hget k H = .dead
  · exact .inl h
  · exact .inr ⟨h, rfl⟩

theorem heap_setRow_ne (w : World) (g j : Nat) (cs : Array Value) (h : j ≠ g) : (w.setRow g cs).heap[j]? = w.heap[j]? := setRow_other w g j cs h
theorem rowSize_setRow (w : World) (g : Nat) (xs xs' : List Value) (e : TypeId) (fr : Nat × Nat) (hg : w.heap[g]? = some (.cells xs.toArray e fr)) (hl : xs'.length = xs.length) (j : Nat) :
    rowSize (w.setRow g xs'.toArray) j = rowSize w j := by
  by_cases h : j = g
  · subst h
    rw [rowSize_of hg, rowSize_of (setRow_heap w j _ _ e fr hg), hl]
  · unfold rowSize World.shape?; rw [heap_setRow_ne w g j _ h]

/-- a block is written -/
theorem Sim.put (hS : Sim R w m H) {k g : Nat} (hk : hget k H ≠ .dead) (hg : m k = some g) {xs xs' : List Value} {e : TypeId} {fr : Nat × Nat} (hh : w.heap[g]? = some (.cells xs.toArray e fr))
    (B : ABlk) (hlen : B.len = (hget k H).len) (hl : xs'.length = xs.length) (h1 : ∀ x ∈ xs', x.oneCell' = true) (hB : BR R w m H B xs') :
    Stp R w m H (w.setRow g xs'.toArray) m (hset k B H) := by
  obtain ⟨hR, xs0, e0, fr0, hh0, hsoft, _, _⟩ := hS.own k g hk hg
  rw [hh] at hh0
  obtain ⟨rfl, rfl, rfl⟩ : xs = xs0 ∧ e = e0 ∧ fr = fr0 := by simpa using hh0
  have hklt := hget_lt hk
  have hw : ∀ j, R j → (w.setRow g xs'.toArray).heap[j]? = w.heap[j]? := fun j hj => heap_setRow_ne w g j _ (fun e => hR (e ▸ hj))
  have hrow : ∀ j n, rowSize w j = some n → rowSize (w.setRow g xs'.toArray) j = some n := fun j n h => by rw [rowSize_setRow w g xs xs' e fr hh hl]; exact h
  have hH : ∀ j, j < H.length → hget j (hset k B H) = .dead ∨ (hget j H ≠ .dead ∧ (hget j (hset k B H)).len = (hget j H).len) := fun j hj => by
    by_cases h : j = k
    · subst h; rw [hget_hset_same hj]; exact .inr ⟨hk, hlen⟩
    · rw [hget_hset_ne h]; exact hext_self H j hj
  have live : ∀ j, hget j (hset k B H) ≠ .dead → hget j H ≠ .dead := fun j h => by
    by_cases e : j = k
    · subst e; exact hk
    · rwa [hget_hset_ne e] at h
  have hll : (hset k B H).length = H.length := hset_length ..
  refine ⟨⟨fun j hj => by have := hS.rlt j hj; simpa using this, fun j hj => hS.out j (by omega), fun j g' h hg' => ?_, fun j h hn => ?_, fun j j' g' h h' => hS.inj j j' g' (live j h) (live j' h')⟩, rfl, rfl, rfl, by simp,
    fun j _ => rowSize_setRow w g xs xs' e fr hh hl j, fun j _ hn => heap_setRow_ne w g j _ (fun e => hn k hk (e ▸ hg)), fun _ _ h => h, by omega, hH, fun j g' h hg' => .inr ⟨j, live j h, hg'⟩, fun _ _ => rfl⟩
  · by_cases hj : j = k
    · subst hj
      obtain rfl : g = g' := by rw [hg] at hg'; exact Option.some.inj hg'
      refine ⟨hR, xs', e, fr, setRow_heap w g _ _ e fr hh, by rw [hl]; exact hsoft, h1, ?_⟩
      rw [hget_hset_same hklt]
      exact hB.mono (fun _ h => h) hw hrow (fun _ _ h => h) (by omega) hH
    · have hl' := live j h
      obtain ⟨a1, ys, e', fr', a2, a3, a4, a5⟩ := hS.own j g' hl' hg'
      have hne : g' ≠ g := fun e => hj (hS.inj j k g' hl' hk hg' (e ▸ hg))
      rw [hget_hset_ne hj]
      exact ⟨a1, ys, e', fr', by rw [heap_setRow_ne w g g' _ hne]; exact a2, a3, a4, a5.mono (fun _ h => h) hw hrow (fun _ _ h => h) (by omega) hH⟩
  · by_cases hj : j = k
    · subst hj; rw [hg] at hn; cases hn
    · rw [hget_hset_ne hj] at h ⊢; exact hS.ph j h hn

/-- a block is given up -/
theorem Sim.kill (hS : Sim R w m H) (k : Nat) : Stp R w m H w m (hset k .dead H) := by
  have hH : ∀ j, j < H.length → hget j (hset k .dead H) = .dead ∨ (hget j H ≠ .dead ∧ (hget j (hset k .dead H)).len = (hget j H).len) := fun j hj => by
    by_cases h : j = k
    · subst h; rw [hget_hset_same hj]; exact .inl rfl
    · rw [hget_hset_ne h]; exact hext_self H j hj
  have live : ∀ j, hget j (hset k .dead H) ≠ .dead → hget j H ≠ .dead ∧ hget j (hset k .dead H) = hget j H := fun j h => by
    have hlt := hget_lt h
    rw [hset_length] at hlt
    by_cases e : j = k
    · subst e; rw [hget_hset_same hlt] at h; exact absurd rfl h
    · rw [hget_hset_ne e] at h ⊢; exact ⟨h, rfl⟩
  have hll : (hset k .dead H).length = H.length := hset_length ..
  refine ⟨⟨hS.rlt, fun j hj => hS.out j (by omega), fun j g' h hg' => ?_, fun j h hn => ?_, fun j j' g' h h' => hS.inj j j' g' (live j h).1 (live j' h').1⟩, rfl, rfl, rfl, Nat.le_refl _,
    fun j _ => rfl, fun j _ hn => rfl, fun _ _ h => h, by omega, hH, fun j g' h hg' => .inr ⟨j, (live j h).1, hg'⟩, fun _ _ => rfl⟩
  · obtain ⟨hl, he⟩ := live j h
    obtain ⟨a1, ys, e', fr', a2, a3, a4, a5⟩ := hS.own j g' hl hg'
    rw [he]
    exact ⟨a1, ys, e', fr', a2, a3, a4, a5.mono (fun _ h => h) (fun _ _ => rfl) (fun _ _ h => h) (fun _ _ h => h) (by omega) hH⟩
  · obtain ⟨hl, he⟩ := live j h
    rw [he]; exact hS.ph j hl hn

/-- a block that is no block: nothing is in it -/
theorem Sim.ghost (hS : Sim R w m H) (B : ABlk) (hB : B.len = 0) : Stp R w m H w m (H ++ [B]) := by
  have hH : ∀ k, k < H.length → hget k (H ++ [B]) = .dead ∨ (hget k H ≠ .dead ∧ (hget k (H ++ [B])).len = (hget k H).len) := fun k hk => by
    rw [hget_append_lt hk]; exact hext_self H k hk
  have hlast : hget H.length (H ++ [B]) = B := by have := hget_append_ge (k := 0) (H := H) (G := [B]); simpa [hget] using this
  have hm : m H.length = none := hS.out _ (Nat.le_refl _)
  have live : ∀ j, hget j (H ++ [B]) ≠ .dead → (j < H.length ∧ hget j H ≠ .dead ∧ hget j (H ++ [B]) = hget j H) ∨ j = H.length := fun j h => by
    have := hget_lt h
    simp at this
    rcases Nat.lt_or_ge j H.length with h' | h'
    · rw [hget_append_lt h'] at h ⊢; exact .inl ⟨h', h, rfl⟩
    · exact .inr (by omega)
  refine ⟨⟨hS.rlt, fun j hj => hS.out j (by simp at hj; omega), fun j g' h hg' => ?_, fun j h hn => ?_, fun j j' g' h h' hg hg' => ?_⟩, rfl, rfl, rfl, Nat.le_refl _,
    fun j _ => rfl, fun j _ hn => rfl, fun _ _ h => h, by simp, hH, fun j g' h hg' => ?_, fun _ _ => rfl⟩
  · rcases live j h with ⟨_, hl, he⟩ | rfl
    · obtain ⟨a1, ys, e', fr', a2, a3, a4, a5⟩ := hS.own j g' hl hg'
      rw [he]
      exact ⟨a1, ys, e', fr', a2, a3, a4, a5.mono (fun _ h => h) (fun _ _ => rfl) (fun _ _ h => h) (fun _ _ h => h) (by simp) hH⟩
    · rw [hm] at hg'; cases hg'
  · rcases live j h with ⟨_, hl, he⟩ | rfl
    · rw [he]; exact hS.ph j hl hn
    · rw [hlast]; exact hB
  · rcases live j h with ⟨_, hl, he⟩ | rfl
    · rcases live j' h' with ⟨_, hl', he'⟩ | rfl
      · exact hS.inj j j' g' hl hl' hg hg'
      · rw [hm] at hg'; cases hg'
    · rw [hm] at hg; cases hg
  · rcases live j h with ⟨_, hl, he⟩ | rfl
    · exact .inr ⟨j, hl, hg'⟩
    · rw [hm] at hg'; cases hg'

/-- a block is given up, and another one takes its place in memory -/
theorem Sim.move (hS : Sim R w m H) {k g : Nat} (hk : hget k H ≠ .dead) (hg : m k = some g) {xs xs' : List Value} {e : TypeId} {fr : Nat × Nat} (hh : w.heap[g]? = some (.cells xs.toArray e fr))
    (B : ABlk) (hl : xs'.length = xs.length) (h1 : ∀ x ∈ xs', x.oneCell' = true) (hB : BR R w m H B xs') :
    Stp R w m H (w.setRow g xs'.toArray) (upd m H.length g) (hset k .dead H ++ [B]) := by
  obtain ⟨hR, xs0, e0, fr0, hh0, hsoft, _, _⟩ := hS.own k g hk hg
  rw [hh] at hh0
  obtain ⟨rfl, rfl, rfl⟩ : xs = xs0 ∧ e = e0 ∧ fr = fr0 := by simpa using hh0
  have hklt := hget_lt hk
  have hw : ∀ j, R j → (w.setRow g xs'.toArray).heap[j]? = w.heap[j]? := fun j hj => heap_setRow_ne w g j _ (fun e => hR (e ▸ hj))
  have hrow : ∀ j n, rowSize w j = some n → rowSize (w.setRow g xs'.toArray) j = some n := fun j n h => by rw [rowSize_setRow w g xs xs' e fr hh hl]; exact h
  have hll : (hset k .dead H).length = H.length := hset_length ..
  have hm : ∀ j g', m j = some g' → upd m H.length g j = some g' := fun j g' h => by
    unfold upd
    split
    · rename_i hj; subst hj; rw [hS.out _ (Nat.le_refl _)] at h; cases h
    · exact h
  have hH : ∀ j, j < H.length → hget j (hset k .dead H ++ [B]) = .dead ∨ (hget j H ≠ .dead ∧ (hget j (hset k .dead H ++ [B])).len = (hget j H).len) := fun j hj => by
    rw [hget_append_lt (by omega)]
    by_cases h : j = k
    · subst h; rw [hget_hset_same hj]; exact .inl rfl
    · rw [hget_hset_ne h]; exact hext_self H j hj
  have hlast : hget H.length (hset k .dead H ++ [B]) = B := by
    have := hget_append_ge (k := 0) (H := hset k .dead H) (G := [B])
    rw [hll] at this
    simpa [hget] using this
  have live : ∀ j, hget j (hset k .dead H ++ [B]) ≠ .dead → (j < H.length ∧ j ≠ k ∧ hget j H ≠ .dead ∧ hget j (hset k .dead H ++ [B]) = hget j H) ∨ j = H.length := fun j h => by
    have := hget_lt h
    simp [hll] at this
    rcases Nat.lt_or_ge j H.length with h' | h'
    · rw [hget_append_lt (by omega)] at h ⊢
      by_cases e : j = k
      · subst e; rw [hget_hset_same h'] at h; exact absurd rfl h
      · rw [hget_hset_ne e] at h ⊢; exact .inl ⟨h', e, h, rfl⟩
    · exact .inr (by omega)
  have mold : ∀ j g', j < H.length → upd m H.length g j = some g' → m j = some g' := fun j g' hj h => by
    unfold upd at h; rwa [if_neg (by omega)] at h
  have mnew : ∀ g', upd m H.length g H.length = some g' → g = g' := fun g' h => by
    unfold upd at h; rw [if_pos rfl] at h; exact Option.some.inj h
  refine ⟨⟨fun j hj => by have := hS.rlt j hj; simpa using this, fun j hj => ?_, fun j g' h hg' => ?_, fun j h hn => ?_, fun j j' g' h h' hj hj' => ?_⟩, rfl, rfl, rfl, by simp,
    fun j _ => rowSize_setRow w g xs xs' e fr hh hl j, fun j _ hn => heap_setRow_ne w g j _ (fun e => hn k hk (e ▸ hg)), hm, by simp [hll], hH, fun j g' h hg' => ?_, fun j hj => if_neg (by omega)⟩
  · simp [hll] at hj
    unfold upd; rw [if_neg (by omega)]; exact hS.out j (by omega)
  · rcases live j h with ⟨h1', h2', hl', he⟩ | rfl
    · have hg0 := mold j g' h1' hg'
      obtain ⟨a1, ys, e', fr', a2, a3, a4, a5⟩ := hS.own j g' hl' hg0
      have hne : g' ≠ g := fun e => h2' (hS.inj j k g' hl' hk hg0 (e ▸ hg))
      rw [he]
      exact ⟨a1, ys, e', fr', by rw [heap_setRow_ne w g g' _ hne]; exact a2, a3, a4, a5.mono (fun _ h => h) hw hrow hm (by simp [hll]) hH⟩
    · obtain rfl := mnew g' hg'
      refine ⟨hR, xs', e, fr, setRow_heap w g _ _ e fr hh, by rw [hl]; exact hsoft, h1, ?_⟩
      rw [hlast]
      exact hB.mono (fun _ h => h) hw hrow hm (by simp [hll]) hH
  · rcases live j h with ⟨h1', h2', hl', he⟩ | rfl
    · rw [he]
      refine hS.ph j hl' ?_
      unfold upd at hn; rwa [if_neg (by omega)] at hn
    · unfold upd at hn; rw [if_pos rfl] at hn; cases hn
  · rcases live j h with ⟨h1', h2', hl', he⟩ | rfl <;> rcases live j' h' with ⟨h3', h4', hl'', he'⟩ | rfl
    · exact hS.inj j j' g' hl' hl'' (mold j g' h1' hj) (mold j' g' h3' hj')
    · have := mnew g' hj'; subst this
      exact absurd (hS.inj j k g hl' hk (mold j g h1' hj) hg) h2'
    · have := mnew g' hj; subst this
      exact absurd (hS.inj j' k g hl'' hk (mold j' g h3' hj') hg) h4'
    · rfl
  · rcases live j h with ⟨h1', h2', hl', he⟩ | rfl
    · exact .inr ⟨j, hl', mold j g' h1' hg'⟩
    · have := mnew g' hg'; subst this
      exact .inr ⟨k, hk, hg⟩

/-! ### lists -/
theorem VL.nil : VL R w m H [] [] := ⟨rfl, fun i v x h => by simp at h⟩
theorem VL.cons {v : AVal} {x : Value} {vs : List AVal} {xs : List Value} (h : VR R w m H v x) (hs : VL R w m H vs xs) : VL R w m H (v :: vs) (x :: xs) := by
  refine ⟨by simp [hs.1], fun i v' x' hv hx => ?_⟩
  cases i with
  | zero => simp at hv hx; subst hv; subst hx; exact h
  | succ i => exact hs.2 i v' x' (by simpa using hv) (by simpa using hx)
theorem VL.nil_inv {xs : List Value} (h : VL R w m H [] xs) : xs = [] := by
  have := h.1; simp at this; exact List.eq_nil_of_length_eq_zero this.symm
theorem VL.cons_inv {v : AVal} {vs : List AVal} {xs : List Value} (h : VL R w m H (v :: vs) xs) : ∃ x r, xs = x :: r ∧ VR R w m H v x ∧ VL R w m H vs r := by
  match xs, h with
  | [], h => have := h.1; simp at this
  | x :: r, h => exact ⟨x, r, rfl, h.2 0 v x rfl rfl, by have := h.1; simpa using this, fun i v' x' hv hx => h.2 (i + 1) v' x' (by simpa using hv) (by simpa using hx)⟩
theorem VL.append {vs us : List AVal} {xs ys : List Value} (h : VL R w m H vs xs) (h' : VL R w m H us ys) : VL R w m H (vs ++ us) (xs ++ ys) := by
  induction vs generalizing xs with
  | nil => rw [h.nil_inv]; exact h'
  | cons v vs ih => obtain ⟨x, r, rfl, h1, h2⟩ := h.cons_inv; exact VL.cons h1 (ih h2)
theorem VL.take {vs : List AVal} {xs : List Value} (h : VL R w m H vs xs) (n : Nat) : VL R w m H (vs.take n) (xs.take n) := by
  refine ⟨by simp [h.1], fun i v x hv hx => ?_⟩
  rw [List.getElem?_take] at hv hx
  split at hv
  · rename_i hi; rw [if_pos hi] at hx; exact h.2 i v x hv hx
  · cases hv
theorem VL.drop {vs : List AVal} {xs : List Value} (h : VL R w m H vs xs) (n : Nat) : VL R w m H (vs.drop n) (xs.drop n) := by
  refine ⟨by simp [h.1], fun i v x hv hx => ?_⟩
  rw [List.getElem?_drop] at hv hx
  exact h.2 _ v x hv hx
theorem VL.agg {cs : List AVal} {xs : List Value} (h : VL R w m H cs xs) (h1 : ∀ x ∈ xs, x.oneCell' = true) : VR R w m H (.agg cs) (.agg xs.toArray) := .agg cs xs h.1 h.2 h1
theorem VL.split {vs us : List AVal} {xs : List Value} (h : VL R w m H (vs ++ us) xs) : ∃ a b, xs = a ++ b ∧ VL R w m H vs a ∧ VL R w m H us b := by
  refine ⟨xs.take vs.length, xs.drop vs.length, (List.take_append_drop ..).symm, ?_, ?_⟩
  · have := h.take vs.length; simpa using this
  · have := h.drop vs.length; simpa using this
theorem VL.of_bytes (l : List UInt8) : VL R w m H (l.map AVal.byte) (l.map fun x => Value.int .u8 (x.toNat : Int)) := by
  induction l with
  | nil => exact VL.nil
  | cons x l ih => exact VL.cons (.byte x) ih

theorem takeN_eq : ∀ {n : Nat} {l r : List AVal}, takeN n l = some r → r = l.take n ∧ n ≤ l.length
  | 0, l, r, h => by simp [takeN] at h; simp [h]
  | n + 1, [], r, h => by simp [takeN] at h
  | n + 1, x :: l, r, h => by
    simp only [takeN] at h
    split at h
    · rename_i q hq
      obtain ⟨rfl, h2⟩ := takeN_eq hq
      cases h; exact ⟨by simp, by simpa using h2⟩
    · cases h
theorem dropN_eq : ∀ {n : Nat} {l r : List AVal}, dropN n l = some r → r = l.drop n ∧ n ≤ l.length
  | 0, l, r, h => by simp [dropN] at h; simp [h]
  | n + 1, [], r, h => by simp [dropN] at h
  | n + 1, x :: l, r, h => by
    simp only [dropN] at h
    obtain ⟨rfl, h2⟩ := dropN_eq h
    exact ⟨by simp, by simpa using h2⟩
theorem partN_eq {off n : Nat} {l r : List AVal} (h : partN off n l = some r) : r = (l.drop off).take n ∧ off + n ≤ l.length := by
  unfold partN at h
  split at h
  · rename_i q hq
    obtain ⟨rfl, h2⟩ := dropN_eq hq
    obtain ⟨rfl, h3⟩ := takeN_eq h
    simp at h3; exact ⟨rfl, by omega⟩
  · cases h
theorem putN_eq : ∀ {off : Nat} {vs l r : List AVal}, putN off vs l = some r → r = l.take off ++ (vs ++ l.drop (off + vs.length)) ∧ off + vs.length ≤ l.length
  | off + 1, vs, [], r, h => by simp [putN] at h
  | off + 1, vs, x :: l, r, h => by
    simp only [putN] at h
    split at h
    · rename_i q hq
      obtain ⟨rfl, h2⟩ := putN_eq hq
      cases h
      refine ⟨?_, by simp; omega⟩
      rw [show off + 1 + vs.length = (off + vs.length) + 1 by omega]; simp
    · cases h
  | 0, [], l, r, h => by simp [putN] at h; simp [h]
  | 0, v :: vs, [], r, h => by simp [putN] at h
  | 0, v :: vs, x :: l, r, h => by
    simp only [putN] at h
    split at h
    · rename_i q hq
      obtain ⟨rfl, h2⟩ := putN_eq hq
      cases h
      refine ⟨?_, by simp at h2 ⊢; omega⟩
      simp
    · cases h
theorem toBytes_eq : ∀ {cs : List AVal} {l : List UInt8}, toBytes cs = some l → cs = l.map AVal.byte
  | [], l, h => by simp [toBytes] at h; simp [h]
  | c :: cs, l, h => by
    cases c <;> simp only [toBytes] at h <;> try (cases h; done)
    split at h
    · rename_i q hq; cases h; simp [toBytes_eq hq]
    · cases h
theorem VL.bytes_inv {l : List UInt8} {xs : List Value} (h : VL R w m H (l.map AVal.byte) xs) : xs = l.map fun x => Value.int .u8 (x.toNat : Int) := by
  induction l generalizing xs with
  | nil => exact h.nil_inv
  | cons x l ih =>
    obtain ⟨y, r, rfl, h1, h2⟩ := VL.cons_inv h
    cases h1
    rw [ih h2]; rfl
/-- values without addresses are what they are in any heap -/
theorem VL.lift {vs : List AVal} {xs : List Value} (h : VL R w Mp.nil [] vs xs) : VL R w m H vs xs :=
  h.mono (fun _ h => h) (fun _ _ => rfl) (fun _ _ h => h) (fun k g h => by cases h) (Nat.zero_le _) (fun k hk => by simp at hk)
theorem VR.lift {v : AVal} {x : Value} (h : VR R w Mp.nil [] v x) : VR R w m H v x :=
  h.mono (fun _ h => h) (fun _ _ => rfl) (fun _ _ h => h) (fun k g h => by cases h) (Nat.zero_le _) (fun k hk => by simp at hk)
/-- a block's cells, as values -/
def _root_.Go.Proofs.Ytnbbaemijogeoaa.Ae.ABlk.av : ABlk → List AVal
  | .dead => []
  | .bytes l => l.map AVal.byte
  | .vals cs => cs
  | .flat cs => cs
theorem av_len (B : ABlk) : B.av.length = B.len := by cases B <;> simp [ABlk.av, ABlk.len]
theorem BR.vl {B : ABlk} {xs : List Value} (h : BR R w m H B xs) : ∃ ys r, xs = ys ++ r ∧ VL R w m H B.av ys := by
  cases B with
  | dead => exact ⟨[], xs, rfl, VL.nil⟩
  | bytes l => obtain ⟨r, rfl⟩ := h; exact ⟨_, r, rfl, VL.of_bytes l⟩
  | vals cs => obtain ⟨ys, r, rfl, h⟩ := h; exact ⟨ys, r, rfl, h⟩
  | flat cs => obtain ⟨ys, r, rfl, h⟩ := h; exact ⟨ys, r, rfl, h.lift⟩
/-- the cells that lie at a pointer into a block -/
theorem Sim.cells (hS : Sim R w m H) {b g : Nat} (hb : hget b H ≠ .dead) (hg : m b = some g) : ∃ (xs : List Value) (e : TypeId) (fr : Nat × Nat), w.heap[g]? = some (.cells xs.toArray e fr) ∧ Soft xs.length fr ∧ (∀ x ∈ xs, x.oneCell' = true) ∧
    BR R w m H (hget b H) xs ∧ ∃ ys r, xs = ys ++ r ∧ VL R w m H (hget b H).av ys := by
  obtain ⟨_, xs, e, fr, h1, h2, h3, h4⟩ := hS.own b g hb hg
  exact ⟨xs, e, fr, h1, h2, h3, h4, h4.vl⟩
theorem cell_of {xs : List Value} {e : TypeId} {fr : Nat × Nat} {g : Nat} (h : w.heap[g]? = some (.cells xs.toArray e fr)) (i : Nat) : w.cell? ⟨g, i, none⟩ = xs[i]? := by
  unfold World.cell?; simp [h]
theorem frozen_of {xs : List Value} {e : TypeId} {fr : Nat × Nat} {g : Nat} (h : w.heap[g]? = some (.cells xs.toArray e fr)) (hs : Soft xs.length fr) {i : Nat} (hi : i < xs.length) : w.frozen? ⟨g, i, none⟩ = false := by
  unfold World.frozen?; simp only [h, Bool.and_eq_false_iff, decide_eq_false_iff_not]
  have := hs i hi
  omega
theorem add_off (g off j : Nat) : (⟨g, off, none⟩ : Addr).add j = ⟨g, off + j, none⟩ := by unfold Addr.add; split <;> simp_all
theorem one_of {v : AVal} {x : Value} (h : VR R w m H v x) (hv : match v with | .agg _ => False | .tup _ => False | .undef => False | _ => True) : x.oneCell' = true := by
  cases h <;> first | rfl | exact hv.elim
end

end Go.Proofs.Ytnbbaemijogeoaa.Ae

namespace Go.Proofs.Ytnbbaemijogeoaa.Ae
open Go
section
variable {P : Program} {R : Nat → Prop} {w : World} {m : Mp} {H : Hp} {env : Env} {a : Act}

/-- what an operation comes to -/
def Runs (P : Program) (o : Oper) (a : Act) (w : World) (x : Value) (w' : World) : Prop :=
  (execOp a.eval o).run P w = .ok (.value x) w' ∨ ((execOp a.eval o).run P w = .ok .skip w' ∧ x = undef)
def EnvR (R : Nat → Prop) (w : World) (m : Mp) (H : Hp) (env : Env) (a : Act) : Prop := ∀ t, VR R w m H (eget t env) (a.tmps.getD t undef)

theorem ofConst_sound {c : Value} {v : AVal} (h : ofConst c = some v) : VR R w m H v c ∧ c.oneCell' = true := by
  cases c with
  | bool b => simp [ofConst] at h; subst h; exact ⟨.bool b, rfl⟩
  | int k n =>
    by_cases hk : k = .u8
    · subst hk
      simp only [ofConst] at h
      split at h
      · rename_i hn
        cases h
        have hx : ((UInt8.ofNat n.toNat).toNat : Int) = n := by rw [UInt8.toNat_ofNat']; omega
        refine ⟨?_, rfl⟩
        generalize UInt8.ofNat n.toNat = x at *
        rw [← hx]; exact .byte _
      · cases h
    · have : v = .int k n := by cases k <;> simp [ofConst] at h hk <;> exact h.symm
      subst this; exact ⟨.int k n, rfl⟩
  | string s =>
    simp only [ofConst] at h
    split at h
    · rename_i hs
      cases h
      have : s = ⟨s.data.toList.toArray⟩ := by simp
      refine ⟨?_, rfl⟩
      conv => arg 6; rw [this]
      exact .str _ (by have e : s.data.toList.length = s.size := rfl; rw [e]; unfold big; omega)
    · cases h
  | pointer p => cases p <;> simp [ofConst] at h; subst h; exact ⟨.nilP, rfl⟩
  | slice p l c =>
    cases p with
    | none =>
      match l, c, h with
      | 0, 0, h => simp [ofConst] at h; subst h; exact ⟨.nilS, rfl⟩
      | 0, _ + 1, h => simp [ofConst] at h
      | _ + 1, _, h => simp [ofConst] at h
    | some _ => simp [ofConst] at h
  | nilFunc => simp [ofConst] at h; subst h; exact ⟨.nilF, rfl⟩
  | _ => simp [ofConst] at h
theorem oper_sound (hE : EnvR R w m H env a) {x : Operand} {v : AVal} (h : oper env x = some v) : VR R w m H v (a.eval x) := by
  cases x with
  | tmp t => simp [oper] at h; subst h; exact hE t
  | const c => exact (ofConst_sound h).1
  | func f => simp [oper] at h; subst h; exact .fn f [] [] [] [] rfl (fun i v x h => by simp at h) rfl (fun i v x h => by simp at h)
  | global g => simp [oper] at h
theorem opers_sound (hE : EnvR R w m H env a) : ∀ {xs : List Operand} {vs : List AVal}, opers env xs = some vs → VL R w m H vs (xs.map a.eval)
  | [], vs, h => by simp [opers] at h; subst h; exact VL.nil
  | x :: xs, vs, h => by
    simp only [opers] at h
    split at h
    · rename_i v l h1 h2
      cases h; exact VL.cons (oper_sound hE h1) (opers_sound hE h2)
    · cases h

theorem sizeT_run {t : TypeId} {n : Nat} (h : sizeT P t = some n) (w : World) : (sizeOf t).run P w = .ok n w := by
  unfold sizeT at h
  split at h
  · rename_i i hi; cases h; simp [sizeOf, typeInfo, hi]
  · cases h
theorem kindOf_run {t : TypeId} {k : Kind} (h : kindOf P t = some k) (w : World) : (isAgg t).run P w = .ok (match k with | .agg => true | .one => false) w := by
  unfold kindOf at h
  split at h
  · rename_i fs hu; cases h; simp [isAgg, run_underlying hu]
  · rename_i n e hu; cases h; simp [isAgg, run_underlying hu]
  · rename_i d h1 h2 hu
    cases h
    simp only [isAgg, Sem.run_bind, run_underlying hu, Result.andThen_ok]
    cases d <;> first | rfl | (exact absurd hu (h1 _)) | (exact absurd hu (h2 _ _))
  · cases h
theorem zeroT_run {t : TypeId} {z : List AVal} (h : zeroT P t = some z) (w : World) :
    ∃ v : Value, (zeroValue t).run P w = .ok v w ∧ (∀ R w m H, VL R w m H z v.cells.toList) ∧ (∀ x ∈ v.cells.toList, x.oneCell' = true) := by
  have cs : ∀ (l : List Value) (r : List AVal), ofConsts l = some r → (∀ R w m H, VL R w m H r l) ∧ ∀ x ∈ l, x.oneCell' = true := by
    intro l
    induction l with
    | nil => intro r h; simp [ofConsts] at h; subst h; exact ⟨fun _ _ _ _ => VL.nil, by simp⟩
    | cons c l ih =>
      intro r h
      simp only [ofConsts] at h
      split at h
      · rename_i v q h1 h2
        cases h
        obtain ⟨a1, a2⟩ := ih q h2
        refine ⟨fun R w m H => VL.cons (ofConst_sound h1).1 (a1 R w m H), fun x hx => ?_⟩
        rcases List.mem_cons.1 hx with rfl | hx
        · exact (ofConst_sound (R := fun _ => False) (w := default) (m := Mp.nil) (H := []) h1).2
        · exact a2 x hx
      · cases h
  unfold zeroT at h
  split at h
  · rename_i i hi
    split at h
    · rename_i v hv
      refine ⟨v, by simp [zeroValue, typeInfo, hi, hv], ?_⟩
      have one : ∀ (v : Value) (c : AVal), (∀ cs, v ≠ .agg cs) → ofConst v = some c → (∀ R w m H, VL R w m H [c] v.cells.toList) ∧ ∀ x ∈ v.cells.toList, x.oneCell' = true := by
        intro v c hna hc
        have e : v.cells = #[v] := by cases v <;> first | rfl | exact absurd rfl (hna _)
        rw [e]
        exact ⟨fun R w m H => VL.cons (ofConst_sound hc).1 VL.nil, fun x hx => by simp at hx; subst hx; exact (ofConst_sound (R := fun _ => False) (w := default) (m := Mp.nil) (H := []) hc).2⟩
      by_cases hagg : ∃ cs, v = .agg cs
      · obtain ⟨xs, rfl⟩ := hagg
        simp only [zeroCells'] at h
        exact cs _ _ h
      · have hna : ∀ cs, v ≠ .agg cs := fun cs e => hagg ⟨cs, e⟩
        have h' : (match ofConst v with | some a => some [a] | none => none) = some z := by
          cases v <;> first | exact h | exact absurd rfl (hna _)
        split at h'
        · rename_i c hc; cases h'; exact one v c hna hc
        · cases h'
    · cases h
  · cases h

theorem VR.cells {v : AVal} {x : Value} (h : VR R w m H v x) (hv : okCell v = true) : VL R w m H v.cells x.cells.toList ∧ ∀ y ∈ x.cells.toList, y.oneCell' = true := by
  by_cases hagg : ∃ cs, v = .agg cs
  · obtain ⟨cs, rfl⟩ := hagg
    cases h with
    | agg cs xs h1 h2 h3 => exact ⟨by simpa [AVal.cells, Value.cells] using ⟨h1, h2⟩, by simpa [Value.cells] using h3⟩
  · have e1 : v.cells = [v] := by cases v <;> first | rfl | exact absurd ⟨_, rfl⟩ hagg
    have e2 : x.cells = #[x] ∧ x.oneCell' = true := by
      cases h <;> first | exact ⟨rfl, rfl⟩ | (simp [okCell] at hv; done) | exact absurd ⟨_, rfl⟩ hagg
    rw [e1, e2.1]
    exact ⟨VL.cons h VL.nil, fun y hy => by simp at hy; subst hy; exact e2.2⟩

/-- a block out of a list of cells -/
theorem new_blk (hS : Sim R w m H) {vs : List AVal} {xs : List Value} (hv : VL R w m H vs xs) (h1 : ∀ x ∈ xs, x.oneCell' = true) (e : TypeId) (B : ABlk) (hB : B = .vals vs ∨ ∃ l, toBytes vs = some l ∧ B = .bytes l) :
    Stp R w m H (w.alloc (.cells xs.toArray e)) (upd m H.length w.heap.size) (H ++ [B]) := by
  refine hS.alloc B xs e (0, 0) (fun i _ => by omega) h1 ?_
  rcases hB with rfl | ⟨l, hl, rfl⟩
  · exact ⟨xs, [], by simp, hv⟩
  · rw [toBytes_eq hl] at hv
    exact ⟨[], by rw [hv.bytes_inv]; simp⟩
theorem upd_self (m : Mp) (k g : Nat) : upd m k g k = some g := by unfold upd; simp

theorem alloc_sound (hS : Sim R w m H) {t : TypeId} {z : List AVal} (h : zeroT P t = some z) {o : Oper} (ho : o.op = .alloc t) :
    ∃ x w' m', Runs P o a w x w' ∧ Stp R w m H w' m' (H ++ [.vals z]) ∧ VR R w' m' (H ++ [.vals z]) (.ptr H.length 0) x := by
  obtain ⟨v, h1, h2, h3⟩ := zeroT_run h w
  have s := new_blk hS (h2 R w m H) h3 t (.vals z) (.inl rfl)
  refine ⟨_, _, _, .inl ?_, s, .ptr _ _ w.heap.size (upd_self _ _ _)⟩
  simp [execOp, ho, Instr.alloc, h1, newVar, newRow]
theorem box_sound (hS : Sim R w m H) {t : TypeId} {x : Operand} {v : AVal} (hv : VR R w m H v (a.eval x)) (hok : okCell v = true) {o : Oper} (ho : o.op = .box t x) :
    ∃ x w' m', Runs P o a w x w' ∧ Stp R w m H w' m' (H ++ [.vals v.cells]) ∧ VR R w' m' (H ++ [.vals v.cells]) (.ptr H.length 0) x := by
  obtain ⟨h2, h3⟩ := hv.cells hok
  have s := new_blk hS h2 h3 t (.vals v.cells) (.inl rfl)
  refine ⟨_, _, _, .inl ?_, s, .ptr _ _ w.heap.size (upd_self _ _ _)⟩
  simp [execOp, ho, Instr.box, newVar, newRow]

/-- the cells from a place on -/
theorem load_run {g off n : Nat} {xs : List Value} (hc : ∀ j x, xs[j]? = some x → w.cell? ⟨g, off + j, none⟩ = some x) (hn : n ≤ xs.length) {t : TypeId} {k : Kind} (hk : kindOf P t = some k) (hsz : sizeT P t = some n)
    {vs : List AVal} {v : AVal} (hv : VL R w m H vs (xs.take n)) (h1 : ∀ x ∈ xs, x.oneCell' = true) (hf : fromCells k vs = some v) :
    ∃ x, (loadVar t ⟨g, off, none⟩).run P w = .ok x w ∧ VR R w m H v x := by
  have hlen : (xs.take n).length = n := by simp; omega
  cases k with
  | agg =>
    simp only [fromCells, Option.some.injEq] at hf
    subst hf
    refine ⟨.agg (xs.take n).toArray, ?_, hv.agg fun x hx => h1 x (List.mem_of_mem_take hx)⟩
    have hl := run_loadCells_list (P := P) w ⟨g, off, none⟩ (xs.take n) (fun j x hx => by
      rw [add_off]
      rw [List.getElem?_take] at hx
      split at hx
      · exact hc j x hx
      · cases hx)
    rw [hlen] at hl
    simp [loadVar, kindOf_run hk, sizeT_run hsz, hl]
  | one =>
    match vs, hf with
    | [u], hf =>
      simp only [fromCells, Option.some.injEq] at hf
      subst hf
      obtain ⟨y, r, e, hy, hr⟩ := hv.cons_inv
      have hxy : xs[0]? = some y := by
        have : (xs.take n)[0]? = some y := by rw [e]; rfl
        rw [List.getElem?_take] at this
        split at this
        · exact this
        · cases this
      refine ⟨y, ?_, hy⟩
      have := hc 0 y hxy
      simp [loadVar, kindOf_run hk]
      simp at this
      rw [this]
theorem getD_get {l : List UInt8} {i : Nat} (h : i < l.length) : l[i]? = some (l.getD i 0) := by
  rw [List.getD_eq_getElem?_getD, List.getElem?_eq_getElem h]; rfl

theorem copyBytesV_eq (l : List UInt8) : ∀ (n i : Nat), i + n ≤ l.length → copyBytesV n i l = ((l.drop i).take n).map AVal.byte
  | 0, i, _ => by simp [copyBytesV]
  | n + 1, i, h => by
    rw [copyBytesV, copyBytesV_eq l n (i + 1) (by omega)]
    have : l.drop i = l.getD i 0 :: l.drop (i + 1) := by
      rw [List.getD_eq_getElem?_getD, List.getElem?_eq_getElem (by omega)]
      exact List.drop_eq_getElem_cons (by omega)
    rw [this]; simp

theorem loadF_sound (hS : Sim R w m H) {t : TypeId} {p v : AVal} {y : Value} {c : Option Prop} (hp : VR R w m H p y) (h : loadF P H t p = some (c, v)) (hc : ∀ q, c = some q → q) :
    ∃ ad x, y = .pointer (some ad) ∧ (loadVar t ad).run P w = .ok x w ∧ VR R w m H v x := by
  unfold loadF at h
  split at h
  case h_2 => cases h
  rename_i k n hk hsz
  cases hp with
  | ptr b off g hg =>
    refine ⟨⟨g, off, none⟩, ?_⟩
    simp only at h
    have key : ∀ cs : List AVal, (hget b H).av = cs → hget b H ≠ .dead → ∀ r, (r = (cs.drop off).take n ∧ off + n ≤ cs.length) → fromCells k r = some v → ∃ x, Value.pointer (some ⟨g, off, none⟩) = .pointer (some ⟨g, off, none⟩) ∧ (loadVar t ⟨g, off, none⟩).run P w = .ok x w ∧ VR R w m H v x := by
      intro cs hcs hlive r hr hf
      obtain ⟨xs, e, fr, h1, h2, h3, h4, ys, q, hys, hvl⟩ := hS.cells hlive hg
      obtain ⟨rfl, hle⟩ := hr
      rw [hcs] at hvl
      have hl : cs.length = ys.length := hvl.1
      obtain ⟨x, hx1, hx2⟩ := load_run (P := P) (R := R) (m := m) (H := H) (w := w) (g := g) (off := off) (n := n) (xs := ys.drop off) (fun j x hx => by
        rw [cell_of h1, hys]
        rw [List.getElem?_drop] at hx
        have := (List.getElem?_eq_some_iff.1 hx).1
        rw [List.getElem?_append_left this]; exact hx) (by simp; omega) hk hsz ((hvl.drop off).take n) (fun x hx => h3 x (by rw [hys]; exact List.mem_append_left _ (List.mem_of_mem_drop hx))) hf
      exact ⟨x, rfl, hx1, hx2⟩
    cases hb : hget b H with
    | dead => rw [hb] at h; cases h
    | bytes l =>
      rw [hb] at h
      cases k with
      | agg =>
        simp only [Option.some.injEq, Prod.mk.injEq] at h
        obtain ⟨rfl, rfl⟩ := h
        have hlt : off + n ≤ l.length := hc _ rfl
        exact key (l.map AVal.byte) (by rw [hb]; rfl) (by rw [hb]; simp) _ ⟨by rw [copyBytesV_eq l n off hlt, List.map_take, List.map_drop], by simpa using hlt⟩ rfl
      | one =>
        simp only [Option.some.injEq, Prod.mk.injEq] at h
        obtain ⟨rfl, rfl⟩ := h
        have hlt := hc _ rfl
        obtain ⟨xs, e, fr, h1, h2, h3, h4, _⟩ := hS.cells (by rw [hb]; simp) hg
        rw [hb] at h4
        obtain ⟨r, rfl⟩ := h4
        refine ⟨.int .u8 ((l.getD off 0).toNat : Int), rfl, ?_, .byte _⟩
        have : w.cell? ⟨g, off, none⟩ = some (.int .u8 ((l.getD off 0).toNat : Int)) := by
          rw [cell_of h1, List.getElem?_append_left (by simpa using hlt), List.getElem?_map, getD_get hlt]; rfl
        simp [loadVar, kindOf_run hk, this]
    | vals cs =>
      rw [hb] at h
      simp only at h
      split at h
      · rename_i r hr
        split at h
        · rename_i u hu; cases h; exact key cs (by rw [hb]; rfl) (by rw [hb]; simp) r (partN_eq hr) hu
        · cases h
      · cases h
    | flat cs =>
      rw [hb] at h
      simp only at h
      split at h
      · rename_i r hr
        split at h
        · rename_i u hu; cases h; exact key cs (by rw [hb]; rfl) (by rw [hb]; simp) r (partN_eq hr) hu
        · cases h
      · cases h
  | rop cs g off X h4 h5 h6 =>
    refine ⟨⟨g, off, none⟩, ?_⟩
    simp only at h
    split at h
    · rename_i r hr
      split at h
      · rename_i u hu
        cases h
        obtain ⟨rfl, hle⟩ := partN_eq hr
        simp at hle
        have hvl : VL R w m H cs ((List.range cs.length).map X) := ⟨by simp, fun i v x hv hx => by
          have hi := (List.getElem?_eq_some_iff.1 hv).1
          simp [hi] at hx
          subst hx
          exact (h6 i v hv).lift⟩
        obtain ⟨x, hx1, hx2⟩ := load_run (P := P) (R := R) (m := m) (H := H) (w := w) (g := g) (off := off) (n := n) (xs := (List.range cs.length).map X) (fun j x hx => by
          have hj := (List.getElem?_eq_some_iff.1 hx).1
          simp at hj
          simp [hj] at hx
          subst hx
          exact (h5 j _ (List.getElem?_eq_getElem hj)).1) (by simpa using hle) hk hsz (by simpa using hvl.take n) (fun x hx => by
            obtain ⟨j, hj, rfl⟩ := List.mem_map.1 hx
            simp at hj
            exact (h5 j _ (List.getElem?_eq_getElem hj)).2) hu
        exact ⟨x, rfl, hx1, hx2⟩
      · cases h
    · cases h
  | _ => cases h
end
end Go.Proofs.Ytnbbaemijogeoaa.Ae

namespace Go.Proofs.Ytnbbaemijogeoaa.Ae
open Go

theorem app_set (b : Nat) (B : ABlk) (H : Hp) : Eff.app ⟨[(b, B)], []⟩ H = hset b B H := by simp [Eff.app, hsets]
theorem app_no (H : Hp) : Eff.app noEff H = H := by simp [Eff.app, hsets, noEff]
theorem app_new (Bs : List ABlk) (H : Hp) : Eff.app ⟨[], Bs⟩ H = H ++ Bs := by simp [Eff.app, hsets]
theorem list_set (l : List Value) (k : Nat) (v : Value) (rest : List Value) (h : k + (rest.length + 1) ≤ l.length) :
    (l.set k v).take (k + 1) ++ (rest ++ (l.set k v).drop (k + 1 + rest.length)) = l.take k ++ (v :: rest ++ l.drop (k + (rest.length + 1))) := by
  rw [List.set_eq_take_append_cons_drop, if_pos (by omega)]
  have h1 : (l.take k).length = k := by simp; omega
  rw [List.take_append, List.drop_append, h1]
  have e1 : List.take (k + 1) (l.take k) = l.take k := List.take_of_length_le (by omega)
  have e2 : List.drop (k + 1 + rest.length) (l.take k) = [] := List.drop_of_length_le (by omega)
  rw [e1, e2, show k + 1 - k = 1 by omega, show k + 1 + rest.length - k = rest.length + 1 by omega]
  simp [List.drop_drop, show k + 1 + rest.length = k + (rest.length + 1) by omega]

theorem storeG (P : Program) (g off : Nat) (e : TypeId) (fr : Nat × Nat) : ∀ (vs : List Value) (i : Nat) (cur : List Value) (w : World), w.heap[g]? = some (.cells cur.toArray e fr) → Soft cur.length fr → off + i + vs.length ≤ cur.length → (∀ v ∈ vs, v.oneCell' = true) →
    (storeCells ⟨g, off, none⟩ vs i).run P w = .ok () (w.setRow g (cur.take (off + i) ++ (vs ++ cur.drop (off + i + vs.length))).toArray)
  | [], i, cur, w, hg, _, _, _ => by
    simp only [storeCells, List.nil_append, List.length_nil, Nat.add_zero, List.take_append_drop]
    rw [setRow_self w g cur.toArray e fr hg]
    rfl
  | v :: rest, i, cur, w, hg, hs, hl, h1 => by
    have hi : off + i < cur.length := by simp at hl; omega
    have hst : (store ((⟨g, off, none⟩ : Addr).add i) v).run P w = .ok () (w.setRow g (cur.set (off + i) v).toArray) := by
      rw [add_off, run_store P w _ v _ (h1 v (by simp)), cell_of hg, List.getElem?_eq_getElem hi]
      simp [frozen_of hg hs hi, setCell_eq_setRow w g (off + i) cur.toArray e fr v hg]
    have ih := storeG P g off e fr rest (i + 1) (cur.set (off + i) v) (w.setRow g (cur.set (off + i) v).toArray) (setRow_heap w g cur.toArray _ e _ hg) (by simpa using hs) (by simp at hl ⊢; omega) (fun x hx => h1 x (by simp [hx]))
    simp only [storeCells, Sem.run_bind, hst, Result.andThen_ok, ih, setRow_setRow]
    congr 3
    have := list_set cur (off + i) v rest (by simp at hl; omega)
    rw [← Nat.add_assoc, this]
    simp

section
variable {P : Program} {R : Nat → Prop} {w : World} {m : Mp} {H : Hp} {env : Env} {a : Act}

theorem storeF_sound (hS : Sim R w m H) {t : TypeId} {p v : AVal} {y x : Value} {c : Option Prop} {ef : Eff} (hp : VR R w m H p y) (hv : VR R w m H v x) (h : storeF P H t p v = some (c, ef)) (hc : ∀ q, c = some q → q) :
    ∃ ad w', y = .pointer (some ad) ∧ (storeVar t ad x).run P w = .ok () w' ∧ Stp R w m H w' m (ef.app H) := by
  unfold storeF at h
  split at h
  case h_2 => cases h
  rename_i n hsz
  cases hp with
  | ptr b off g hg =>
    refine ⟨⟨g, off, none⟩, ?_⟩
    simp only at h
    cases hb : hget b H with
    | dead => rw [hb] at h; cases h
    | flat cs => rw [hb] at h; cases h
    | bytes l =>
      rw [hb] at h
      cases hv <;> simp only [reduceCtorEq] at h
      rename_i u
      split at h
      case h_2 => cases h
      simp only [Option.some.injEq, Prod.mk.injEq] at h
      obtain ⟨rfl, rfl⟩ := h
      have hlt := hc _ rfl
      have hlive : hget b H ≠ .dead := by rw [hb]; simp
      obtain ⟨xs, e, fr, h1, h2, h3, h4, _⟩ := hS.cells hlive hg
      rw [hb] at h4
      obtain ⟨r, rfl⟩ := h4
      have hst := storeG P g off e fr [.int .u8 (u.toNat : Int)] 0 _ w h1 h2 (by simp; omega) (by simp [Value.oneCell'])
      have hbl : off + 1 ≤ l.length := hlt
      have e1 : List.take (off + 0) (l.map (fun x => Value.int .u8 (x.toNat : Int)) ++ r) ++ ([Value.int .u8 (u.toNat : Int)] ++ List.drop (off + 0 + [Value.int .u8 (u.toNat : Int)].length) (l.map (fun x => Value.int .u8 (x.toNat : Int)) ++ r))
          = (l.set off u).map (fun x => Value.int .u8 (x.toNat : Int)) ++ r := by
        rw [List.set_eq_take_append_cons_drop, if_pos hlt]
        simp only [Nat.add_zero, List.length_cons, List.length_nil, Nat.zero_add]
        rw [List.take_append_of_le_length (by simp; omega), List.drop_append_of_le_length (by simp; omega)]
        simp
      rw [e1] at hst
      rw [app_set]
      refine ⟨_, rfl, ?_, hS.put hlive hg h1 (.bytes (l.set off u)) (by rw [hb]; simp [ABlk.len]) ?_ ?_ ⟨r, rfl⟩⟩
      · simpa [storeVar, Value.cells, sizeT_run hsz] using hst
      · simp
      · intro y hy
        rcases List.mem_append.1 hy with hy | hy
        · obtain ⟨q, _, rfl⟩ := List.mem_map.1 hy; rfl
        · exact h3 y (List.mem_append_right _ hy)
    | vals cs =>
      rw [hb] at h
      simp only at h
      cases hck : (Nat.beq v.cells.length n && okCell v) with
      | false => rw [hck] at h; cases h
      | true =>
        rw [hck] at h
        simp only [cond_true] at h
        simp only [Bool.and_eq_true] at hck
        have hn : v.cells.length = n := Nat.eq_of_beq_eq_true hck.1
        split at h
        case h_2 => cases h
        rename_i r hr
        simp only [Option.some.injEq, Prod.mk.injEq] at h
        obtain ⟨rfl, rfl⟩ := h
        obtain ⟨rfl, hle⟩ := putN_eq hr
        have hlive : hget b H ≠ .dead := by rw [hb]; simp
        obtain ⟨xs, e, fr, h1, h2, h3, h4, _⟩ := hS.cells hlive hg
        rw [hb] at h4
        obtain ⟨ys, q, rfl, hvl⟩ := h4
        obtain ⟨hcl, hc1⟩ := hv.cells hck.2
        have hl1 := hvl.1
        have hl2 := hcl.1
        have hst := storeG P g off e fr x.cells.toList 0 _ w h1 h2 (by simp at hl2 ⊢; omega) hc1
        have e1 : List.take (off + 0) (ys ++ q) ++ (x.cells.toList ++ List.drop (off + 0 + x.cells.toList.length) (ys ++ q)) = (ys.take off ++ (x.cells.toList ++ ys.drop (off + v.cells.length))) ++ q := by
          rw [Nat.add_zero, List.take_append_of_le_length (by omega), List.drop_append_of_le_length (by omega), ← hl2]
          simp
        rw [e1] at hst
        rw [app_set]
        refine ⟨_, rfl, ?_, hS.put hlive hg h1 (.vals (cs.take off ++ (v.cells ++ cs.drop (off + v.cells.length)))) (by rw [hb]; simp [ABlk.len]; omega) (by simp at hl2 ⊢; omega) ?_ ⟨_, q, rfl, (hvl.take off).append (hcl.append (hvl.drop _))⟩⟩
        · have : x.cells.size = n := by rw [← hn, hl2]; simp
          simpa [storeVar, sizeT_run hsz, this] using hst
        · intro y hy
          rcases List.mem_append.1 hy with hy | hy
          · rcases List.mem_append.1 hy with hy | hy
            · exact h3 y (List.mem_append_left _ (List.mem_of_mem_take hy))
            · rcases List.mem_append.1 hy with hy | hy
              · exact hc1 y hy
              · exact h3 y (List.mem_append_left _ (List.mem_of_mem_drop hy))
          · exact h3 y (List.mem_append_right _ hy)
  | _ => cases h

theorem movePtr_sound {p q : AVal} {y : Value} {n : Nat} (hp : VR R w m H p y) (h : movePtr p n = some q) : ∃ g off, y = .pointer (some ⟨g, off, none⟩) ∧ VR R w m H q (.pointer (some ⟨g, off + n, none⟩)) := by
  cases hp with
  | ptr b off g hg => simp only [movePtr, Option.some.injEq] at h; subst h; exact ⟨g, off, rfl, .ptr b (off + n) g hg⟩
  | rop cs g off X h4 h5 h6 =>
    simp only [movePtr] at h
    split at h
    · rename_i r hr
      cases h
      obtain ⟨rfl, hle⟩ := dropN_eq hr
      refine ⟨g, off, rfl, .rop _ g (off + n) (fun j => X (n + j)) h4 (fun j v hv => ?_) fun j v hv => ?_⟩
      · rw [List.getElem?_drop] at hv; rw [Nat.add_assoc]; exact h5 _ v hv
      · rw [List.getElem?_drop] at hv; exact h6 _ v hv
    · cases h
  | _ => simp [movePtr] at h
theorem fieldOf_eq {s : TypeId} {i o : Nat} {t : TypeId} (h : fieldOf P s i = some (o, t)) : ∃ fs f, P.underlying s = some (.struct fs) ∧ fs[i]? = some f ∧ f.offset = o ∧ f.type = t := by
  unfold fieldOf at h
  split at h
  · rename_i fs hu
    split at h
    · rename_i f hf; cases h; exact ⟨fs, f, hu, hf, rfl, rfl⟩
    · cases h
  · cases h
theorem fieldAddrF_sound {s : TypeId} {p q : AVal} {y : Value} {i : Nat} (hp : VR R w m H p y) (h : fieldAddrF P s p i = some q) : ∃ x, (Instr.fieldAt s y i).run P w = .ok x w ∧ VR R w m H q x := by
  unfold fieldAddrF at h
  split at h
  case h_2 => cases h
  rename_i o t hf
  split at h
  case h_2 => cases h
  rename_i n hsz
  obtain ⟨fs, f, hu, hfi, rfl, rfl⟩ := fieldOf_eq hf
  obtain ⟨g, off, rfl, hq⟩ := movePtr_sound hp h
  refine ⟨_, ?_, hq⟩
  simp [Instr.fieldAt, run_underlying hu, hfi, Instr.sureAddr, fieldPlace, sizeT_run hsz, add_off]
theorem part_sound {t : TypeId} {k : Kind} {o n : Nat} {cs r : List AVal} {xs : List Value} {v : AVal} (hk : kindOf P t = some k) (hsz : sizeT P t = some n) (hcs : VL R w m H cs xs) (h1 : ∀ x ∈ xs, x.oneCell' = true)
    (hr : partN o n cs = some r) (hf : fromCells k r = some v) : ∃ x, (part t xs.toArray o).run P w = .ok x w ∧ VR R w m H v x := by
  obtain ⟨rfl, hle⟩ := partN_eq hr
  have hl := hcs.1
  have hv := (hcs.drop o).take n
  cases k with
  | agg =>
    simp only [fromCells, Option.some.injEq] at hf
    subst hf
    refine ⟨.agg ((xs.drop o).take n).toArray, ?_, hv.agg fun x hx => h1 x (List.mem_of_mem_drop (List.mem_of_mem_take hx))⟩
    simp [part, kindOf_run hk, sizeT_run hsz, List.extract_toArray, List.extract]
  | one =>
    generalize hq : (cs.drop o).take n = q at *
    match q, hf with
    | [u], hf =>
      simp only [fromCells, Option.some.injEq] at hf
      subst hf
      obtain ⟨y, r, e, hy, hr⟩ := hv.cons_inv
      refine ⟨y, ?_, hy⟩
      have hxy : xs[o]? = some y := by
        have : ((xs.drop o).take n)[0]? = some y := by rw [e]; rfl
        rw [List.getElem?_take] at this
        split at this
        · rwa [List.getElem?_drop, Nat.add_zero] at this
        · cases this
      simp [part, kindOf_run hk, hxy]
theorem fieldF_sound {s : TypeId} {p q : AVal} {y : Value} {i : Nat} (hp : VR R w m H p y) (h : fieldF P s p i = some q) : ∃ x, (Instr.field s y i).run P w = .ok x w ∧ VR R w m H q x := by
  unfold fieldF at h
  split at h
  case h_2 => cases h
  rename_i o t hf
  obtain ⟨fs, f, hu, hfi, rfl, rfl⟩ := fieldOf_eq hf
  split at h
  case h_2 => cases h
  rename_i k n cs hk hsz
  cases hp with
  | agg cs xs g1 g2 g3 =>
    split at h
    case h_2 => cases h
    rename_i r hr
    obtain ⟨x, h1, h2⟩ := part_sound (P := P) hk hsz ⟨g1, g2⟩ g3 hr h
    exact ⟨x, by simp [Instr.field, run_underlying hu, hfi, asAgg, h1], h2⟩

theorem intOf_sound {v : AVal} {x : Value} {n : Int} (h : VR R w m H v x) (hn : intOf v = some n) : ∃ k, x = .int k n := by
  cases h <;> simp [intOf] at hn
  · subst hn; exact ⟨_, rfl⟩
  · subst hn; exact ⟨_, rfl⟩
end
end Go.Proofs.Ytnbbaemijogeoaa.Ae
