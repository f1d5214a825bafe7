/- The evaluator's values and heaps beside those of the model: the relation, and what keeps it. No program in sight. -/
import Derived.Test.YtnbbaemijogeoaaAeB
import Derived.Laws.AppendOwn
import Derived.Laws.Tables
import Derived.Laws.CopyOwn
import Derived.Deep.Draws
namespace Go.Proofs.Ytnbbaemijogeoaa.Ae
open Go

def maxI : Nat := 9223372036854775807
/-- no cell is frozen -/
def Soft (n : Nat) (fr : Nat × Nat) : Prop := ∀ i, i < n → ¬ (fr.1 ≤ i ∧ i < fr.2)
def rowSize (w : World) (g : Nat) : Option Nat := (w.shape? g).map (·.2)
abbrev Mp := Nat → Option Nat
def Mp.nil : Mp := fun _ => none

inductive VR (R : Nat → Prop) (w : World) : Mp → Hp → AVal → Value → Prop
  | undef {m : Mp} {H : Hp} (x : Value) : VR R w m H .undef x
  | bool {m : Mp} {H : Hp} (b : Bool) : VR R w m H (.bool b) (.bool b)
  | int {m : Mp} {H : Hp} (k : IntKind) (n : Int) : VR R w m H (.int k n) (.int k n)
  | byte {m : Mp} {H : Hp} (x : UInt8) : VR R w m H (.byte x) (.int .u8 (x.toNat : Int))
  | str {m : Mp} {H : Hp} (l : List UInt8) (h : l.length ≤ big) : VR R w m H (.str l) (.string ⟨l.toArray⟩)
  | nilS {m : Mp} {H : Hp} : VR R w m H .nilS (.slice none 0 0)
  | sl {m : Mp} {H : Hp} (b off len sz : Nat) (a : Option Addr) (c : Nat) (h1 : len ≤ c) (h2 : c ≤ maxI) (h3 : len ≤ room) (h4 : b < H.length)
      (h5 : 0 < c → ∃ g n, m b = some g ∧ a = some ⟨g, off, none⟩ ∧ rowSize w g = some n ∧ off + c * sz ≤ n)
      (h6 : hget b H = .dead ∨ off + len * sz ≤ (hget b H).len) : VR R w m H (.sl b off len sz) (.slice a len c)
  | roB {m : Mp} {H : Hp} (l : List UInt8) (a : Option Addr) (c g off : Nat) (h1 : l.length ≤ c) (h2 : c ≤ maxI) (h3 : l.length ≤ room)
      (h4 : 0 < l.length → a = some ⟨g, off, none⟩ ∧ R g) (h5 : ∀ i x, l[i]? = some x → w.cell? ⟨g, off + i, none⟩ = some (.int .u8 (x.toNat : Int))) : VR R w m H (.roB l) (.slice a l.length c)
  | ro {m : Mp} {H : Hp} (n sz : Nat) (f : Nat → List AVal) (a : Option Addr) (c g off : Nat) (X : Nat → Nat → Value) (h1 : n ≤ c) (h2 : c ≤ maxI) (h3 : n ≤ room)
      (h4 : 0 < n → a = some ⟨g, off, none⟩ ∧ R g) (h5 : ∀ i j v, i < n → (f i)[j]? = some v → w.cell? ⟨g, off + i * sz + j, none⟩ = some (X i j) ∧ (X i j).oneCell' = true)
      (h6 : ∀ i j v, i < n → (f i)[j]? = some v → VR R w Mp.nil [] v (X i j)) (h7 : ∀ i, i < n → (f i).length = sz) : VR R w m H (.ro n sz f) (.slice a n c)
  | nilP {m : Mp} {H : Hp} : VR R w m H .nilP (.pointer none)
  | ptr {m : Mp} {H : Hp} (b off g : Nat) (h : m b = some g) : VR R w m H (.ptr b off) (.pointer (some ⟨g, off, none⟩))
  | rop {m : Mp} {H : Hp} (cs : List AVal) (g off : Nat) (X : Nat → Value) (h4 : R g) (h5 : ∀ j v, cs[j]? = some v → w.cell? ⟨g, off + j, none⟩ = some (X j) ∧ (X j).oneCell' = true)
      (h6 : ∀ j v, cs[j]? = some v → VR R w Mp.nil [] v (X j)) : VR R w m H (.rop cs) (.pointer (some ⟨g, off, none⟩))
  | agg {m : Mp} {H : Hp} (cs : List AVal) (xs : List Value) (h1 : cs.length = xs.length) (h2 : ∀ (i : Nat) v x, cs[i]? = some v → xs[i]? = some x → VR R w m H v x) (h3 : ∀ x ∈ xs, x.oneCell' = true) :
      VR R w m H (.agg cs) (.agg xs.toArray)
  | tup {m : Mp} {H : Hp} (cs : List AVal) (xs : List Value) (h1 : cs.length = xs.length) (h2 : ∀ (i : Nat) v x, cs[i]? = some v → xs[i]? = some x → VR R w m H v x) :
      VR R w m H (.tup cs) (.tuple xs.toArray)
  | fn {m : Mp} {H : Hp} (f : Nat) (a b : List AVal) (xs ys : List Value) (h1 : a.length = xs.length) (h2 : ∀ (i : Nat) v x, a[i]? = some v → xs[i]? = some x → VR R w m H v x)
      (h3 : b.length = ys.length) (h4 : ∀ (i : Nat) v x, b[i]? = some v → ys[i]? = some x → VR R w m H v x) : VR R w m H (.fn f a b) (.func (.func f) xs.toArray ys.toArray)
  | nilF {m : Mp} {H : Hp} : VR R w m H .nilF .nilFunc

/-- lists of values -/
def VL (R : Nat → Prop) (w : World) (m : Mp) (H : Hp) (vs : List AVal) (xs : List Value) : Prop :=
  vs.length = xs.length ∧ ∀ (i : Nat) v x, vs[i]? = some v → xs[i]? = some x → VR R w m H v x

/-- what a block holds -/
def BR (R : Nat → Prop) (w : World) (m : Mp) (H : Hp) (B : ABlk) (xs : List Value) : Prop := match B with
  | .dead => True
  | .bytes l => ∃ r, xs = l.map (fun x => Value.int .u8 (x.toNat : Int)) ++ r
  | .vals cs => ∃ ys r, xs = ys ++ r ∧ VL R w m H cs ys
  | .flat cs => ∃ ys r, xs = ys ++ r ∧ VL R w Mp.nil [] cs ys

structure Sim (R : Nat → Prop) (w : World) (m : Mp) (H : Hp) : Prop where
  rlt : ∀ g, R g → g < w.heap.size
  out : ∀ k, H.length ≤ k → m k = none
  own : ∀ k g, hget k H ≠ .dead → m k = some g → ¬ R g ∧ ∃ (xs : List Value) (e : TypeId) (fr : Nat × Nat), w.heap[g]? = some (.cells xs.toArray e fr) ∧ Soft xs.length fr ∧ (∀ x ∈ xs, x.oneCell' = true) ∧ BR R w m H (hget k H) xs
  ph : ∀ k, hget k H ≠ .dead → m k = none → (hget k H).len = 0
  inj : ∀ k k' g, hget k H ≠ .dead → hget k' H ≠ .dead → m k = some g → m k' = some g → k = k'

structure Stp (R : Nat → Prop) (w : World) (m : Mp) (H : Hp) (w' : World) (m' : Mp) (H' : Hp) : Prop where
  sim : Sim R w' m' H'
  os : w'.os = w.os
  tape : w'.tape = w.tape
  output : w'.output = w.output
  size : w.heap.size ≤ w'.heap.size
  shape : ∀ g, g < w.heap.size → rowSize w' g = rowSize w g
  frame : ∀ g, g < w.heap.size → (∀ k, hget k H ≠ .dead → m k ≠ some g) → w'.heap[g]? = w.heap[g]?
  agree : ∀ k g, m k = some g → m' k = some g
  hlen : H.length ≤ H'.length
  hext : ∀ k, k < H.length → hget k H' = .dead ∨ (hget k H ≠ .dead ∧ (hget k H').len = (hget k H).len)
  news : ∀ k g, hget k H' ≠ .dead → m' k = some g → w.heap.size ≤ g ∨ ∃ k0, hget k0 H ≠ .dead ∧ m k0 = some g
  same : ∀ k, k < H.length → m' k = m k

theorem hget_out : ∀ {k : Nat} {H : Hp}, H.length ≤ k → hget k H = .dead
  | _, [], _ => by simp [hget]
  | 0, _ :: _, h => by simp at h
  | k + 1, _ :: r, h => by simpa [hget] using hget_out (k := k) (H := r) (by simpa using h)
theorem hget_lt {k : Nat} {H : Hp} (h : hget k H ≠ .dead) : k < H.length := by
  rcases Nat.lt_or_ge k H.length with h' | h'
  · exact h'
  · exact absurd (hget_out h') h
theorem hget_append_lt : ∀ {k : Nat} {H G : Hp}, k < H.length → hget k (H ++ G) = hget k H
  | _, [], _, h => by simp at h
  | 0, _ :: _, _, _ => rfl
  | k + 1, _ :: r, G, h => by simpa [hget] using hget_append_lt (k := k) (H := r) (G := G) (by simpa using h)
theorem hget_append_ge : ∀ {k : Nat} {H G : Hp}, hget (H.length + k) (H ++ G) = hget k G
  | _, [], _ => by simp
  | k, _ :: r, G => by
    rw [List.length_cons, show r.length + 1 + k = (r.length + k) + 1 by omega, List.cons_append]
    exact hget_append_ge (k := k) (H := r) (G := G)
theorem hset_length : ∀ (k : Nat) (B : ABlk) (H : Hp), (hset k B H).length = H.length
  | _, _, [] => by simp [hset]
  | 0, _, _ :: _ => by simp [hset]
  | k + 1, B, _ :: r => by simp [hset, hset_length k B r]
theorem hget_hset_same : ∀ {k : Nat} {B : ABlk} {H : Hp}, k < H.length → hget k (hset k B H) = B
  | _, _, [], h => by simp at h
  | 0, _, _ :: _, _ => rfl
  | k + 1, B, _ :: r, h => by simpa [hget, hset] using hget_hset_same (k := k) (B := B) (H := r) (by simpa using h)
theorem hget_hset_ne : ∀ {k j : Nat} {B : ABlk} {H : Hp}, j ≠ k → hget j (hset k B H) = hget j H
  | _, _, _, [], _ => by simp [hset]
  | 0, 0, _, _ :: _, h => absurd rfl h
  | 0, j + 1, _, _ :: _, _ => by simp [hset, hget]
  | k + 1, 0, _, _ :: _, _ => by simp [hset, hget]
  | k + 1, j + 1, B, _ :: r, h => by simpa [hget, hset] using hget_hset_ne (k := k) (j := j) (B := B) (H := r) (by simpa using h)

theorem VR.mono {R R' : Nat → Prop} {w w' : World} (hR : ∀ g, R g → R' g) (hw : ∀ g, R g → w'.heap[g]? = w.heap[g]?) (hs : ∀ g n, rowSize w g = some n → rowSize w' g = some n)
    {m : Mp} {H : Hp} {v : AVal} {x : Value} (h : VR R w m H v x) :
    ∀ {m' : Mp} {H' : Hp}, (∀ k g, m k = some g → m' k = some g) → H.length ≤ H'.length → (∀ k, k < H.length → hget k H' = .dead ∨ (hget k H ≠ .dead ∧ (hget k H').len = (hget k H).len)) → VR R' w' m' H' v x := by
  have hcell : ∀ g off, R g → w'.cell? ⟨g, off, none⟩ = w.cell? ⟨g, off, none⟩ := fun g off hg => by
    unfold World.cell?; simp only [hw g hg]
  have nilc : ∀ k : Nat, k < ([] : Hp).length → hget k [] = .dead ∨ (hget k [] ≠ .dead ∧ (hget k []).len = (hget k []).len) := fun k hk => by simp at hk
  induction h with
  | undef x => intros; exact .undef x
  | bool b => intros; exact .bool b
  | int k n => intros; exact .int k n
  | byte x => intros; exact .byte x
  | str l h => intros; exact .str l h
  | nilS => intros; exact .nilS
  | @sl m H b off len sz a c h1 h2 h3 h4 h5 h6 =>
    intro m' H' hm hl hH
    refine .sl b off len sz a c h1 h2 h3 (by omega) (fun hc => ?_) ?_
    · obtain ⟨g, n, e1, e2, e3, e4⟩ := h5 hc
      exact ⟨g, n, hm _ _ e1, e2, hs _ _ e3, e4⟩
    · rcases hH b h4 with hd | ⟨hd, he⟩
      · exact .inl hd
      · rcases h6 with h6 | h6
        · exact absurd h6 hd
        · exact .inr (by rw [he]; exact h6)
  | roB l a c g off h1 h2 h3 h4 h5 =>
    intros
    refine .roB l a c g off h1 h2 h3 (fun hp => ⟨(h4 hp).1, hR _ (h4 hp).2⟩) fun i x hx => ?_
    rw [hcell g _ (h4 (by have := (List.getElem?_eq_some_iff.1 hx).1; omega)).2]; exact h5 i x hx
  | ro n sz f a c g off X h1 h2 h3 h4 h5 h6 h7 ih =>
    intros
    refine .ro n sz f a c g off X h1 h2 h3 (fun hp => ⟨(h4 hp).1, hR _ (h4 hp).2⟩) (fun i j v hi hv => ?_) (fun i j v hi hv => ?_) h7
    · rw [hcell g _ (h4 (by omega)).2]; exact h5 i j v hi hv
    · exact ih i j v hi hv (fun _ _ h => h) (Nat.le_refl _) nilc
  | nilP => intros; exact .nilP
  | ptr b off g h => intro m' H' hm _ _; exact .ptr b off g (hm _ _ h)
  | rop cs g off X h4 h5 h6 ih =>
    intros
    refine .rop cs g off X (hR _ h4) (fun j v hv => ?_) fun j v hv => ?_
    · rw [hcell g _ h4]; exact h5 j v hv
    · exact ih j v hv (fun _ _ h => h) (Nat.le_refl _) nilc
  | agg cs xs h1 h2 h3 ih => intro m' H' hm hl hH; exact .agg cs xs h1 (fun i v x hv hx => ih i v x hv hx hm hl hH) h3
  | tup cs xs h1 h2 ih => intro m' H' hm hl hH; exact .tup cs xs h1 (fun i v x hv hx => ih i v x hv hx hm hl hH)
  | fn f a b xs ys h1 h2 h3 h4 ih1 ih2 =>
    intro m' H' hm hl hH
    exact .fn f a b xs ys h1 (fun i v x hv hx => ih1 i v x hv hx hm hl hH) h3 (fun i v x hv hx => ih2 i v x hv hx hm hl hH)
  | nilF => intros; exact .nilF

theorem VL.mono {R R' : Nat → Prop} {w w' : World} (hR : ∀ g, R g → R' g) (hw : ∀ g, R g → w'.heap[g]? = w.heap[g]?) (hs : ∀ g n, rowSize w g = some n → rowSize w' g = some n)
    {m m' : Mp} {H H' : Hp} {vs : List AVal} {xs : List Value} (h : VL R w m H vs xs)
    (hm : ∀ k g, m k = some g → m' k = some g) (hl : H.length ≤ H'.length) (hH : ∀ k, k < H.length → hget k H' = .dead ∨ (hget k H ≠ .dead ∧ (hget k H').len = (hget k H).len)) : VL R' w' m' H' vs xs :=
  ⟨h.1, fun i v x hv hx => (h.2 i v x hv hx).mono hR hw hs hm hl hH⟩
theorem BR.mono {R R' : Nat → Prop} {w w' : World} (hR : ∀ g, R g → R' g) (hw : ∀ g, R g → w'.heap[g]? = w.heap[g]?) (hs : ∀ g n, rowSize w g = some n → rowSize w' g = some n)
    {m m' : Mp} {H H' : Hp} {B : ABlk} {xs : List Value} (h : BR R w m H B xs)
    (hm : ∀ k g, m k = some g → m' k = some g) (hl : H.length ≤ H'.length) (hH : ∀ k, k < H.length → hget k H' = .dead ∨ (hget k H ≠ .dead ∧ (hget k H').len = (hget k H).len)) : BR R' w' m' H' B xs := by
  cases B with
  | dead => trivial
  | bytes l => exact h
  | vals cs => obtain ⟨ys, r, e, h⟩ := h; exact ⟨ys, r, e, h.mono hR hw hs hm hl hH⟩
  | flat cs => obtain ⟨ys, r, e, h⟩ := h; exact ⟨ys, r, e, h.mono hR hw hs (fun _ _ h => h) (Nat.le_refl _) (fun k hk => by simp at hk)⟩

theorem rowSize_lt {w : World} {g n : Nat} (h : rowSize w g = some n) : g < w.heap.size := by
  unfold rowSize World.shape? at h
  rcases Nat.lt_or_ge g w.heap.size with h' | h'
  · exact h'
  · simp [Array.getElem?_eq_none h'] at h
theorem rowSize_of {w : World} {g : Nat} {xs : List Value} {e : TypeId} {fr : Nat × Nat} (h : w.heap[g]? = some (.cells xs.toArray e fr)) : rowSize w g = some xs.length := by
  simp [rowSize, World.shape?, h]

section
variable {R : Nat → Prop} {w w' w'' : World} {m m' m'' : Mp} {H H' H'' : Hp}

theorem Stp.rsame (s : Stp R w m H w' m' H') (hS : Sim R w m H) (g : Nat) (hg : R g) : w'.heap[g]? = w.heap[g]? :=
  s.frame g (hS.rlt g hg) fun k hk e => (hS.own k g hk e).1 hg
theorem Stp.rows (s : Stp R w m H w' m' H') (g n : Nat) (h : rowSize w g = some n) : rowSize w' g = some n := by
  rw [s.shape g (rowSize_lt h)]; exact h
theorem VR.step (s : Stp R w m H w' m' H') (hS : Sim R w m H) {v : AVal} {x : Value} (h : VR R w m H v x) : VR R w' m' H' v x :=
  h.mono (fun _ h => h) (s.rsame hS) s.rows s.agree s.hlen s.hext
theorem VL.step (s : Stp R w m H w' m' H') (hS : Sim R w m H) {vs : List AVal} {xs : List Value} (h : VL R w m H vs xs) : VL R w' m' H' vs xs :=
  h.mono (fun _ h => h) (s.rsame hS) s.rows s.agree s.hlen s.hext
theorem Stp.refl (hS : Sim R w m H) : Stp R w m H w m H :=
  ⟨hS, rfl, rfl, rfl, Nat.le_refl _, fun _ _ => rfl, fun _ _ _ => rfl, fun _ _ h => h, Nat.le_refl _, fun k hk => by
    by_cases h : hget k H = .dead
    · exact .inl h
    · exact .inr ⟨h, rfl⟩, fun k g hk hg => .inr ⟨k, hk, hg⟩, fun _ _ => rfl⟩
theorem Stp.trans (s : Stp R w m H w' m' H') (t : Stp R w' m' H' w'' m'' H'') : Stp R w m H w'' m'' H'' := by
  refine ⟨t.sim, t.os.trans s.os, t.tape.trans s.tape, t.output.trans s.output, Nat.le_trans s.size t.size, fun g hg => ?_, fun g hg hn => ?_, fun k g h => t.agree _ _ (s.agree _ _ h), Nat.le_trans s.hlen t.hlen, fun k hk => ?_, fun k g hk hg => ?_, fun k hk => (t.same k (Nat.lt_of_lt_of_le hk s.hlen)).trans (s.same k hk)⟩
  · rw [t.shape g (Nat.lt_of_lt_of_le hg s.size), s.shape g hg]
  · rw [t.frame g (Nat.lt_of_lt_of_le hg s.size) fun k hk e => ?_, s.frame g hg hn]
    rcases s.news k g hk e with h | ⟨k0, h1, h2⟩
    · omega
    · exact hn k0 h1 h2
  · rcases t.hext k (Nat.lt_of_lt_of_le hk s.hlen) with h | ⟨h1, h2⟩
    · exact .inl h
    · rcases s.hext k hk with h | ⟨h3, h4⟩
      · exact absurd h h1
      · exact .inr ⟨h3, h2.trans h4⟩
  · rcases t.news k g hk hg with h | ⟨k0, h1, h2⟩
    · exact .inl (Nat.le_trans s.size h)
    · exact s.news k0 g h1 h2

/-- a draw alone -/
theorem Sim.drew (hS : Sim R w m H) : Stp R w m H w.drew m H := by
  have hv : ∀ (v : AVal) (x : Value) (m : Mp) (H : Hp), VR R w m H v x → VR R w.drew m H v x := fun v x m H h =>
    VR.mono (w := w) (w' := w.drew) (fun _ h => h) (fun _ _ => rfl) (fun _ _ h => h) h (fun _ _ h => h) (Nat.le_refl _) fun k _ => by
      by_cases h : hget k H = .dead
      · exact .inl h
      · exact .inr ⟨h, rfl⟩
  have hS' : Sim R w.drew m H := by
    refine ⟨hS.rlt, hS.out, fun k g hk hg => ?_, hS.ph, hS.inj⟩
    obtain ⟨h1, xs, e, fr, h2, h3, h4, h5⟩ := hS.own k g hk hg
    refine ⟨h1, xs, e, fr, h2, h3, h4, ?_⟩
    cases hb : hget k H with
    | dead => trivial
    | bytes l => rw [hb] at h5; exact h5
    | vals cs => rw [hb] at h5; obtain ⟨ys, r, e, h5⟩ := h5; exact ⟨ys, r, e, h5.1, fun i v x a b => hv _ _ _ _ (h5.2 i v x a b)⟩
    | flat cs => rw [hb] at h5; obtain ⟨ys, r, e, h5⟩ := h5; exact ⟨ys, r, e, h5.1, fun i v x a b => hv _ _ _ _ (h5.2 i v x a b)⟩
  exact ⟨hS', rfl, rfl, rfl, Nat.le_refl _, fun _ _ => rfl, fun _ _ _ => rfl, fun _ _ h => h, Nat.le_refl _, fun k _ => by
    by_cases h : hget k H = .dead
    · exact .inl h
    · exact .inr ⟨h, rfl⟩, fun k g hk hg => .inr ⟨k, hk, hg⟩, fun _ _ => rfl⟩

def upd (m : Mp) (k g : Nat) : Mp := fun j => if j = k then some g else m j

theorem BR.len {B : ABlk} {xs : List Value} (h : BR R w m H B xs) : B.len ≤ xs.length := by
  cases B with
  | dead => exact Nat.zero_le _
  | bytes l => obtain ⟨r, rfl⟩ := h; simp [ABlk.len]
  | vals cs => obtain ⟨ys, r, rfl, h⟩ := h; simp [ABlk.len, h.1]
  | flat cs => obtain ⟨ys, r, rfl, h⟩ := h; simp [ABlk.len, h.1]

/-- a new block -/
theorem Sim.alloc (hS : Sim R w m H) (B : ABlk) (xs : List Value) (e : TypeId) (fr : Nat × Nat) (hfr : Soft xs.length fr) (h1 : ∀ x ∈ xs, x.oneCell' = true) (hB : BR R w m H B xs) :
    Stp R w m H (w.alloc (.cells xs.toArray e fr)) (upd m H.length w.heap.size) (H ++ [B]) := by
  have hheap : ∀ g, g < w.heap.size → (w.alloc (.cells xs.toArray e fr)).heap[g]? = w.heap[g]? := fun g hg => by
    show (w.heap.push _)[g]? = _
    rw [Array.getElem?_push, if_neg (by omega)]
  have hrow : ∀ g n, rowSize w g = some n → rowSize (w.alloc (.cells xs.toArray e fr)) g = some n := fun g n h => by
    have := rowSize_lt h
    unfold rowSize World.shape? at *
    rw [hheap g this]; exact h
  have hm : ∀ k g, m k = some g → upd m H.length w.heap.size k = some g := fun k g h => by
    unfold upd
    split
    · rename_i hk; subst hk; rw [hS.out _ (Nat.le_refl _)] at h; cases h
    · exact h
  have hH : ∀ k, k < H.length → hget k (H ++ [B]) = .dead ∨ (hget k H ≠ .dead ∧ (hget k (H ++ [B])).len = (hget k H).len) := fun k hk => by
    rw [hget_append_lt hk]
    by_cases h : hget k H = .dead
    · exact .inl h
    · exact .inr ⟨h, rfl⟩
  have hw : ∀ g, R g → (w.alloc (.cells xs.toArray e fr)).heap[g]? = w.heap[g]? := fun g hg => hheap g (hS.rlt g hg)
  have hlast : hget H.length (H ++ [B]) = B := by have := hget_append_ge (k := 0) (H := H) (G := [B]); simpa [hget] using this
  have hk : ∀ k, hget k (H ++ [B]) ≠ .dead → k < H.length ∨ k = H.length := fun k h => by have := hget_lt h; simp at this; omega
  refine ⟨⟨fun g hg => ?_, fun k hk' => ?_, fun k g h hg => ?_, fun k h hn => ?_, fun k k' g h h' hg hg' => ?_⟩, rfl, rfl, rfl, by simp, fun g hg => ?_, fun g hg _ => hheap g hg, hm, by simp, hH, fun k g h hg => ?_, fun k hk => if_neg (by omega)⟩
  · have := hS.rlt g hg; simp; omega
  · simp at hk'
    unfold upd; rw [if_neg (by omega)]; exact hS.out k (by omega)
  · rcases hk k h with hlt | rfl
    · rw [hget_append_lt hlt] at h ⊢
      unfold upd at hg; rw [if_neg (by omega)] at hg
      obtain ⟨a1, ys, e', fr', a2, a3, a4, a5⟩ := hS.own k g h hg
      exact ⟨a1, ys, e', fr', by rw [hheap g (Array.getElem?_eq_some_iff.1 a2).1]; exact a2, a3, a4, a5.mono (fun _ h => h) hw hrow hm (by simp) hH⟩
    · unfold upd at hg; rw [if_pos rfl] at hg
      obtain rfl := Option.some.inj hg
      refine ⟨fun hr => by have := hS.rlt _ hr; omega, xs, e, fr, Array.getElem?_push_size, hfr, h1, ?_⟩
      rw [hlast]; exact hB.mono (fun _ h => h) hw hrow hm (by simp) hH
  · rcases hk k h with hlt | rfl
    · rw [hget_append_lt hlt] at h ⊢
      unfold upd at hn; rw [if_neg (by omega)] at hn
      exact hS.ph k h hn
    · unfold upd at hn; rw [if_pos rfl] at hn; cases hn
  · have aux : ∀ k, hget k (H ++ [B]) ≠ .dead → ∀ g, upd m H.length w.heap.size k = some g → (k < H.length ∧ hget k H ≠ .dead ∧ m k = some g ∧ g < w.heap.size) ∨ (k = H.length ∧ g = w.heap.size) := fun k h g hg => by
      rcases hk k h with hlt | rfl
      · rw [hget_append_lt hlt] at h
        unfold upd at hg; rw [if_neg (by omega)] at hg
        obtain ⟨_, ys, e', fr', a2, _⟩ := hS.own k g h hg
        exact .inl ⟨hlt, h, hg, (Array.getElem?_eq_some_iff.1 a2).1⟩
      · unfold upd at hg; rw [if_pos rfl] at hg
        exact .inr ⟨rfl, (Option.some.inj hg).symm⟩
    rcases aux k h g hg with ⟨_, a1, a2, a3⟩ | ⟨a1, a2⟩ <;> rcases aux k' h' g hg' with ⟨_, b1, b2, b3⟩ | ⟨b1, b2⟩
    · exact hS.inj k k' g a1 b1 a2 b2
    · omega
    · omega
    · omega
  · unfold rowSize World.shape?; rw [hheap g hg]
  · rcases hk k h with hlt | rfl
    · rw [hget_append_lt hlt] at h
      unfold upd at hg; rw [if_neg (by omega)] at hg
      exact .inr ⟨k, h, hg⟩
    · unfold upd at hg; rw [if_pos rfl] at hg
      exact .inl (by rw [← Option.some.inj hg]; exact Nat.le_refl _)
end

end Go.Proofs.Ytnbbaemijogeoaa.Ae
