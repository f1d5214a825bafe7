/- A heap of which one says less: blocks under other numbers, blocks that are only read from now on, nil as a row of none. No program in sight. -/
import Derived.Test.YtbjolilknkbehaaAeWk
set_option linter.unusedSimpArgs false
set_option linter.unusedVariables false
namespace Go.Proofs.Ytbjolilknkbehaa.Ae
open Go Go.RowKit

/-- each live block of the second heap is one of the first (o), or holds nothing -/
structure Turn (R : Nat → Prop) (w : World) (m : Mp) (H : Hp) (R2 : Nat → Prop) (m2 : Mp) (H2 : Hp) (o : Nat → Option Nat) : Prop where
  sub : ∀ g, R g → R2 g
  newR : ∀ g, R2 g → R g ∨ ∃ k0, hget k0 H ≠ .dead ∧ m k0 = some g ∧ ∀ k, hget k H2 ≠ .dead → o k ≠ some k0
  out : ∀ k, H2.length ≤ k → m2 k = none
  orig : ∀ k, hget k H2 ≠ .dead → (o k = none ∧ m2 k = none ∧ (hget k H2).len = 0) ∨
    ∃ k0, o k = some k0 ∧ hget k0 H ≠ .dead ∧ m2 k = m k0 ∧ (hget k H2).len = (hget k0 H).len ∧ ∀ xs, BR R w m H (hget k0 H) xs → BR R2 w m2 H2 (hget k H2) xs
  inj : ∀ k k' k0, hget k H2 ≠ .dead → hget k' H2 ≠ .dead → o k = some k0 → o k' = some k0 → k = k'
  len : H.length ≤ H2.length
  same : ∀ k, k < H.length → m2 k = m k
  old : ∀ k, k < H.length → hget k H2 = .dead ∨ o k = some k
theorem Turn.far {R : Nat → Prop} {w : World} {m : Mp} {H : Hp} {R2 : Nat → Prop} {m2 : Mp} {H2 : Hp} {o : Nat → Option Nat} (t : Turn R w m H R2 m2 H2 o) (hS : Sim R w m H) : Far R w m H R2 w m2 H2 := by
  have hS2 : Sim R2 w m2 H2 := by
    refine ⟨fun g hg => ?_, t.out, fun k g hk hg => ?_, fun k hk hn => ?_, fun k k' g hk hk' hg hg' => ?_⟩
    · rcases t.newR g hg with h | ⟨k0, h1, h2, _⟩
      · exact hS.rlt g h
      · obtain ⟨_, xs, e, fr, h3, _⟩ := hS.own k0 g h1 h2
        exact (Array.getElem?_eq_some_iff.1 h3).1
    · rcases t.orig k hk with ⟨_, h, _⟩ | ⟨k0, h0, h1, h2, h3, h4⟩
      · rw [h] at hg; cases hg
      · rw [h2] at hg
        obtain ⟨a1, xs, e, fr, a2, a3, a4, a5⟩ := hS.own k0 g h1 hg
        refine ⟨fun hr => ?_, xs, e, fr, a2, a3, a4, h4 xs a5⟩
        rcases t.newR g hr with h | ⟨k1, c1, c2, c3⟩
        · exact a1 h
        · have := hS.inj k0 k1 g h1 c1 hg c2
          subst this
          exact c3 k hk h0
    · rcases t.orig k hk with ⟨_, _, h⟩ | ⟨k0, h0, h1, h2, h3, h4⟩
      · exact h
      · rw [h3]; rw [h2] at hn; exact hS.ph k0 h1 hn
    · rcases t.orig k hk with ⟨_, h, _⟩ | ⟨k0, h0, h1, h2, _, _⟩
      · rw [h] at hg; cases hg
      rcases t.orig k' hk' with ⟨_, h, _⟩ | ⟨k1, c0, c1, c2, _, _⟩
      · rw [h] at hg'; cases hg'
      rw [h2] at hg; rw [c2] at hg'
      have := hS.inj k0 k1 g h1 c1 hg hg'
      subst this
      exact t.inj k k' k0 hk hk' h0 c0
  refine ⟨t.sub, fun g hg => ?_, hS2, rfl, rfl, rfl, Nat.le_refl _, fun _ _ => rfl, fun _ _ _ => rfl, fun k g hg => ?_, t.len, fun k hk => ?_, fun k g hk hg => ?_, t.same⟩
  · rcases t.newR g hg with h | ⟨k0, h1, h2, _⟩
    · exact .inl h
    · exact .inr (.inr ⟨k0, h1, h2⟩)
  · rcases Nat.lt_or_ge k H.length with h | h
    · rw [t.same k h]; exact hg
    · rw [hS.out k h] at hg; cases hg
  · by_cases hd : hget k H2 = .dead
    · exact .inl hd
    · rcases t.old k hk with h | h
      · exact .inl h
      · rcases t.orig k hd with ⟨h1, _⟩ | ⟨k0, h0, h1, h2, h3, _⟩
        · rw [h] at h1; cases h1
        · rw [h] at h0; cases h0
          exact .inr ⟨h1, h3⟩
  · rcases t.orig k hk with ⟨_, h, _⟩ | ⟨k0, h0, h1, h2, _, _⟩
    · rw [h] at hg; cases hg
    · rw [h2] at hg; exact .inr ⟨k0, h1, hg⟩

theorem hget_big {k : Nat} {H : Hp} (h : hget k H ≠ .dead) : k < H.length := hget_lt h
section
variable {pre cs : List AVal} {k : Nat}
theorem vl_swap {R R2 : Nat → Prop} {w : World} {m m2 : Mp} {H H2 : Hp} {u v : AVal} (hpre : closedL pre = true) (hR : ∀ g, R g → R2 g) (h : ∀ x, VR R w m H u x → VR R2 w m2 H2 v x) {xs : List Value} (hx : VL R w m H (pre ++ [u]) xs) : VL R2 w m2 H2 (pre ++ [v]) xs := by
  obtain ⟨a, b, rfl, h1, h2⟩ := hx.split
  obtain ⟨x, rfl, h3⟩ := h2.one
  have h1' : VL R w Mp.nil [] pre a := VL.closed h1 hpre
  have h1'' : VL R2 w Mp.nil [] pre a := ⟨h1'.1, fun i v x hv hx => (h1'.2 i v x hv hx).mono hR (fun _ _ => rfl) (fun _ _ h => h) (fun _ _ h => h) (Nat.le_refl _) (fun k hk => by simp at hk)⟩
  exact VL.append (VL.closed h1'' hpre) (VL.cons (h x h3) VL.nil)
theorem br_swap {R R2 : Nat → Prop} {w : World} {m m2 : Mp} {H H2 : Hp} {u v : AVal} (hpre : closedL pre = true) (hR : ∀ g, R g → R2 g) (h : ∀ x, VR R w m H u x → VR R2 w m2 H2 v x) {xs : List Value} (hx : BR R w m H (.vals (pre ++ [u])) xs) : BR R2 w m2 H2 (.vals (pre ++ [v])) xs := by
  obtain ⟨ys, r, rfl, hv⟩ := hx
  exact ⟨ys, r, rfl, vl_swap hpre hR h hv⟩
theorem br_flat {R R2 : Nat → Prop} {w : World} {m m2 : Mp} {H H2 : Hp} (hR : ∀ g, R g → R2 g) {xs : List Value} (hx : BR R w m H (.flat cs) xs) : BR R2 w m2 H2 (.flat cs) xs := by
  obtain ⟨ys, r, rfl, hv⟩ := hx
  exact ⟨ys, r, rfl, hv.1, fun i v x hv' hx => (hv.2 i v x hv' hx).mono hR (fun _ _ => rfl) (fun _ _ h => h) (fun _ _ h => h) (Nat.le_refl _) (fun k hk => by simp at hk)⟩
/-- the row stands under the next number -/
theorem ResLe.move {v : AVal} (hv : closed v = true) (hpre : closedL pre = true) {sz : Nat} : ResLe v [.vals (pre ++ [.sl 1 0 k sz]), .flat cs] v [.vals (pre ++ [.sl 2 0 k sz]), .dead, .flat cs] := by
  intro R w m x hS hx
  have h2 : m 2 = none := hS.out 2 (by simp)
  refine ⟨R, fun j => if j = 2 then m 1 else m j, Turn.far (o := fun j => if j = 0 then some 0 else if j = 2 then some 1 else none) ⟨fun _ h => h, fun g h => .inl h, fun j hj => ?_, fun j hj => ?_, fun j j' k0 hj hj' h h' => ?_, by simp, fun j hj => ?_, fun j hj => ?_⟩ hS, hx.closed hv⟩
  · simp at hj
    rw [if_neg (by omega)]; exact hS.out j (by simp; omega)
  · have := hget_lt hj
    simp at this
    have : j = 0 ∨ j = 1 ∨ j = 2 := by omega
    rcases this with rfl | rfl | rfl
    · refine .inr ⟨0, rfl, by simp [hget], by simp, by simp [hget, ABlk.len], fun xs hb => ?_⟩
      refine br_swap (u := .sl 1 0 k sz) hpre (fun _ h => h) (fun y hy => ?_) hb
      cases hy with
      | sl _ _ _ _ a c q1 q2 q3 q4 q5 q6 =>
        refine .sl 2 0 k sz a c q1 q2 q3 (by simp) (fun hc => ?_) ?_
        · simpa using q5 hc
        · simpa [hget] using q6
    · simp [hget] at hj
    · refine .inr ⟨1, rfl, by simp [hget], by simp, by simp [hget], fun xs hb => ?_⟩
      exact br_flat (fun _ h => h) hb
  · have l1 := hget_lt hj
    have l2 := hget_lt hj'
    simp at l1 l2
    have c1 : j = 0 ∨ j = 1 ∨ j = 2 := by omega
    have c2 : j' = 0 ∨ j' = 1 ∨ j' = 2 := by omega
    rcases c1 with rfl | rfl | rfl <;> rcases c2 with rfl | rfl | rfl <;> simp at h h' <;> first | rfl | omega | (subst h; simp at h')
  · simp at hj
    rw [if_neg (by omega)]
  · simp at hj
    have : j = 0 ∨ j = 1 := by omega
    rcases this with rfl | rfl
    · exact .inr rfl
    · exact .inl rfl
/-- the row is only read from now on; a new one holds nothing -/
theorem ResLe.taken {sz : Nat} (hsz : 1 ≤ sz) (hpre : closedL pre = true) : ResLe (.sl 1 0 k sz) [.vals (pre ++ [.nilS]), .flat cs] (.ro k sz (rowsOf sz ((cs.drop 0).take (k * sz)))) [.vals (pre ++ [.sl 2 0 0 sz]), .dead, .flat []] := by
  intro R w m x hS hx
  have h2 : m 2 = none := hS.out 2 (by simp)
  have hb : Nat.ble 1 sz = true := Nat.ble_eq_true_of_le hsz
  have hsn := snapC_sound hS (imps := []) (ks := [1]) hx (v' := .ro k sz (rowsOf sz ((cs.drop 0).take (k * sz)))) (by simp [snapC, elemN, hget, hb]) (fun j hj => by simpa [snapsC, elemN] using hj)
  have hsub : ∀ g, R g → RC R m [.vals (pre ++ [.nilS]), .flat cs] [1] g := fun g h => .inl h
  refine ⟨RC R m [.vals (pre ++ [.nilS]), .flat cs] [1], m, Turn.far (o := fun j => if j = 0 then some 0 else none) ⟨hsub, fun g h => ?_, fun j hj => ?_, fun j hj => ?_, fun j j' k0 hj hj' h h' => ?_, by simp, fun j hj => rfl, fun j hj => ?_⟩ hS, hsn.closed rfl⟩
  · rcases h with h | ⟨j, hj, h3, h4⟩
    · exact .inl h
    · have : j = 1 := by simpa using hj
      subst this
      exact .inr ⟨1, h3, h4, fun j _ he => by split at he <;> simp at he⟩
  · simp at hj; exact hS.out j (by simp; omega)
  · have := hget_lt hj
    simp at this
    have : j = 0 ∨ j = 1 ∨ j = 2 := by omega
    rcases this with rfl | rfl | rfl
    · refine .inr ⟨0, rfl, by simp [hget], rfl, by simp [hget, ABlk.len], fun xs hb => ?_⟩
      refine br_swap (u := .nilS) hpre hsub (fun y hy => ?_) hb
      cases hy with
      | nilS => exact .sl 2 0 0 sz none 0 (Nat.le_refl _) (Nat.zero_le _) (Nat.zero_le _) (by simp) (fun hc => by omega) (.inr (by simp))
    · simp [hget] at hj
    · exact .inl ⟨rfl, h2, by simp [hget, ABlk.len]⟩
  · split at h <;> split at h' <;> simp_all
  · simp at hj
    have : j = 0 ∨ j = 1 := by omega
    rcases this with rfl | rfl
    · exact .inr rfl
    · exact .inl rfl
/-- nil, as a row of none -/
theorem ResLe.none {sz : Nat} (hpre : closedL pre = true) {v v2 : AVal} (hv : ∀ R w m x, Sim R w m [.vals (pre ++ [.nilS])] → VR R w m [.vals (pre ++ [.nilS])] v x → VR R w m [.vals (pre ++ [.sl 1 0 0 sz]), .flat []] v2 x) : ResLe v [.vals (pre ++ [.nilS])] v2 [.vals (pre ++ [.sl 1 0 0 sz]), .flat []] := by
  intro R w m x hS hx
  have h1 : m 1 = Option.none := hS.out 1 (by simp)
  refine ⟨R, m, Turn.far (o := fun j => if j = 0 then some 0 else Option.none) ⟨fun _ h => h, fun g h => .inl h, fun j hj => ?_, fun j hj => ?_, fun j j' k0 hj hj' h h' => ?_, by simp, fun j hj => rfl, fun j hj => ?_⟩ hS, hv R w m x hS hx⟩
  · simp at hj; exact hS.out j (by simp; omega)
  · have := hget_lt hj
    simp at this
    have : j = 0 ∨ j = 1 := by omega
    rcases this with rfl | rfl
    · refine .inr ⟨0, rfl, by simp [hget], rfl, by simp [hget, ABlk.len], fun xs hb => ?_⟩
      refine br_swap (u := .nilS) hpre (fun _ h => h) (fun y hy => ?_) hb
      cases hy with
      | nilS => exact .sl 1 0 0 sz _ 0 (Nat.le_refl _) (Nat.zero_le _) (Nat.zero_le _) (by simp) (fun hc => by omega) (.inr (by simp))
    · exact .inl ⟨rfl, h1, by simp [hget, ABlk.len]⟩
  · split at h <;> split at h' <;> simp_all
  · simp at hj
    subst hj
    exact .inr rfl
end
/-- a row of the call's own is only read from now on -/
theorem VE.nil_ro {H : Hp} {sz : Nat} {f : Nat → List AVal} : VE H .nilS (.ro 0 sz f) := by
  intro R w m x _ hv
  cases hv with
  | nilS => exact .ro 0 sz f Option.none 0 0 0 (fun _ _ => .bool true) (Nat.le_refl _) (Nat.zero_le _) (Nat.zero_le _) (fun h => by omega) (fun i j v h _ => by omega) (fun i j v h _ => by omega) (fun i h => by omega)
/-- what a row says that is only read -/
theorem ResLe.flat {v : AVal} {A cs cs' : List AVal} (hlen : cs.length = cs'.length) (h : ∀ R w xs, VL R w Mp.nil [] cs xs → VL R w Mp.nil [] cs' xs) : ResLe v [.vals A, .dead, .flat cs] v [.vals A, .dead, .flat cs'] := by
  intro R w m x hS hx
  have hh : ∀ k, k < ([.vals A, .dead, .flat cs] : Hp).length → hget k [.vals A, .dead, .flat cs'] = .dead ∨ (hget k [.vals A, .dead, .flat cs] ≠ .dead ∧ (hget k [.vals A, .dead, .flat cs']).len = (hget k [.vals A, .dead, .flat cs]).len) := fun k hk => by
    simp at hk
    have : k = 0 ∨ k = 1 ∨ k = 2 := by omega
    rcases this with rfl | rfl | rfl
    · exact .inr ⟨by simp [hget], rfl⟩
    · exact .inl rfl
    · exact .inr ⟨by simp [hget], by simp [hget, ABlk.len, hlen]⟩
  refine ⟨R, m, Turn.far (o := some) ⟨fun _ h => h, fun g h => .inl h, fun j hj => hS.out j (by simpa using hj), fun j hj => ?_, fun j j' k0 _ _ h h' => ?_, by simp, fun _ _ => rfl, fun _ _ => .inr rfl⟩ hS, hx.mono (fun _ h => h) (fun _ _ => rfl) (fun _ _ h => h) (fun _ _ h => h) (by simp) hh⟩
  · have := hget_lt hj
    simp at this
    have : j = 0 ∨ j = 1 ∨ j = 2 := by omega
    rcases this with rfl | rfl | rfl
    · refine .inr ⟨0, rfl, by simp [hget], rfl, rfl, fun xs hb => ?_⟩
      obtain ⟨ys, r, rfl, hv⟩ := hb
      exact ⟨ys, r, rfl, hv.mono (fun _ h => h) (fun _ _ => rfl) (fun _ _ h => h) (fun _ _ h => h) (by simp) hh⟩
    · simp [hget] at hj
    · refine .inr ⟨2, rfl, by simp [hget], rfl, by simp [hget, ABlk.len, hlen], fun xs hb => ?_⟩
      obtain ⟨ys, r, rfl, hv⟩ := hb
      exact ⟨ys, r, rfl, h _ _ _ hv⟩
  · cases h; cases h'; rfl
theorem ResLe.flat1 {v : AVal} {cs cs' : List AVal} (hlen : cs.length = cs'.length) (h : ∀ R w xs, VL R w Mp.nil [] cs xs → VL R w Mp.nil [] cs' xs) : ResLe v [.flat cs] v [.flat cs'] := by
  intro R w m x hS hx
  have hh : ∀ k, k < ([.flat cs] : Hp).length → hget k [.flat cs'] = .dead ∨ (hget k [.flat cs] ≠ .dead ∧ (hget k [.flat cs']).len = (hget k [.flat cs]).len) := fun k hk => by
    simp at hk
    subst hk
    exact .inr ⟨by simp [hget], by simp [hget, ABlk.len, hlen]⟩
  refine ⟨R, m, Turn.far (o := some) ⟨fun _ h => h, fun g h => .inl h, fun j hj => hS.out j (by simpa using hj), fun j hj => ?_, fun j j' k0 _ _ h h' => ?_, by simp, fun _ _ => rfl, fun _ _ => .inr rfl⟩ hS, hx.mono (fun _ h => h) (fun _ _ => rfl) (fun _ _ h => h) (fun _ _ h => h) (by simp) hh⟩
  · have := hget_lt hj
    simp at this
    subst this
    refine .inr ⟨0, rfl, by simp [hget], rfl, by simp [hget, ABlk.len, hlen], fun xs hb => ?_⟩
    obtain ⟨ys, r, rfl, hv⟩ := hb
    exact ⟨ys, r, rfl, h _ _ _ hv⟩
  · cases h; cases h'; rfl
/-- a block of nothing more -/
theorem ResLe.pad {v : AVal} (hv : closed v = true) : ResLe v [] v [.dead] := by
  intro R w m x hS hx
  refine ⟨R, m, Turn.far (o := some) ⟨fun _ h => h, fun g h => .inl h, fun j hj => hS.out j (by simp), fun j hj => ?_, fun j j' k0 _ _ h h' => ?_, by simp, fun _ _ => rfl, fun j hj => by simp at hj⟩ hS, hx.closed hv⟩
  · have := hget_lt hj
    simp at this
    subst this
    simp [hget] at hj
  · cases h; cases h'; rfl
/-- a row in a value is only read from now on -/
theorem ResLe.frz {pre cs : List AVal} {k sz : Nat} (hsz : 1 ≤ sz) (hpre : closedL pre = true) : ResLe (.agg (pre ++ [.sl 0 0 k sz])) [.flat cs] (.agg (pre ++ [.ro k sz (rowsOf sz ((cs.drop 0).take (k * sz)))])) [.dead] := by
  intro R w m x hS hx
  have hb : Nat.ble 1 sz = true := Nat.ble_eq_true_of_le hsz
  have hsub : ∀ g, R g → RC R m [.flat cs] [0] g := fun g h => .inl h
  cases hx with
  | agg _ xs h1 h2 h3 =>
    have hV := vl_swap (R2 := RC R m [.flat cs] [0]) (m2 := m) (H2 := [.dead]) (u := .sl 0 0 k sz) (v := .ro k sz (rowsOf sz ((cs.drop 0).take (k * sz)))) hpre hsub (fun y hy => ?_) ⟨h1, h2⟩
    · refine ⟨RC R m [.flat cs] [0], m, Turn.far (o := fun _ => Option.none) ⟨hsub, fun g h => ?_, fun j hj => hS.out j (by simpa using hj), fun j hj => ?_, fun j j' k0 _ _ h h' => (by cases h), by simp, fun _ _ => rfl, fun j hj => ?_⟩ hS, .agg _ xs hV.1 hV.2 h3⟩
      · rcases h with h | ⟨j, hj, h3, h4⟩
        · exact .inl h
        · have : j = 0 := by simpa using hj
          subst this
          exact .inr ⟨0, h3, h4, fun j _ he => by cases he⟩
      · have := hget_lt hj
        simp at this
        subst this
        simp [hget] at hj
      · simp at hj; subst hj; exact .inl rfl
    · exact (snapC_sound hS (imps := []) (ks := [0]) hy (v' := .ro k sz (rowsOf sz ((cs.drop 0).take (k * sz)))) (by simp [snapC, elemN, hget, hb]) (fun j hj => by simpa [snapsC, elemN] using hj)).closed rfl
end Go.Proofs.Ytbjolilknkbehaa.Ae
