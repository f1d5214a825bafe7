/- What a call sees of the caller's blocks. No program in sight. -/
import Derived.Test.YtcooilllmcgcmaaAeQ
namespace Go.Proofs.Ytcooilllmcgcmaa.Ae
open Go
section
variable {P : Program} {R R' : Nat → Prop} {w w' : World} {m m' : Mp} {H H' : Hp}

theorem closedL_get : ∀ {l : List AVal} {i : Nat} {v : AVal}, closedL l = true → l[i]? = some v → closed v = true
  | [], _, _, _, h => by simp at h
  | u :: l, 0, v, hc, h => by simp [closedL] at hc h; subst h; exact hc.1
  | u :: l, i + 1, v, hc, h => by simp [closedL] at hc; exact closedL_get hc.2 (by simpa using h)
theorem noRoL_get : ∀ {l : List AVal} {i : Nat} {v : AVal}, noRoL l = true → l[i]? = some v → noRo v = true
  | [], _, _, _, h => by simp at h
  | u :: l, 0, v, hc, h => by simp [noRoL] at hc h; subst h; exact hc.1
  | u :: l, i + 1, v, hc, h => by simp [noRoL] at hc; exact noRoL_get hc.2 (by simpa using h)

theorem VR.closed {v : AVal} {x : Value} (h : VR R w m H v x) : Ae.closed v = true → ∀ {m' : Mp} {H' : Hp}, VR R w m' H' v x := by
  induction h with
  | undef x => intros; exact .undef x
  | bool b => intros; exact .bool b
  | int k n => intros; exact .int k n
  | byte x => intros; exact .byte x
  | str l h => intros; exact .str l h
  | nilS => intros; exact .nilS
  | sl b off len sz a c h1 h2 h3 h4 h5 h6 => intro hc; simp [Ae.closed] at hc
  | roB l a c g off h1 h2 h3 h4 h5 => intros; exact .roB l a c g off h1 h2 h3 h4 h5
  | ro n sz f a c g off X h1 h2 h3 h4 h5 h6 h7 ih => intros; exact .ro n sz f a c g off X h1 h2 h3 h4 h5 h6 h7
  | nilP => intros; exact .nilP
  | ptr b off g h => intro hc; simp [Ae.closed] at hc
  | rop cs g off X h4 h5 h6 ih => intros; exact .rop cs g off X h4 h5 h6
  | agg cs xs h1 h2 h3 ih =>
    intro hc m' H'
    simp only [Ae.closed] at hc
    exact .agg cs xs h1 (fun i v x hv hx => ih i v x hv hx (closedL_get hc hv)) h3
  | tup cs xs h1 h2 ih =>
    intro hc m' H'
    simp only [Ae.closed] at hc
    exact .tup cs xs h1 (fun i v x hv hx => ih i v x hv hx (closedL_get hc hv))
  | fn f a b xs ys h1 h2 h3 h4 ih1 ih2 =>
    intro hc m' H'
    simp only [Ae.closed, Bool.and_eq_true] at hc
    exact .fn f a b xs ys h1 (fun i v x hv hx => ih1 i v x hv hx (closedL_get hc.1 hv)) h3 (fun i v x hv hx => ih2 i v x hv hx (closedL_get hc.2 hv))
  | nilF => intros; exact .nilF

theorem VR.noRo {v : AVal} {x : Value} (h : VR R w m H v x) : Ae.noRo v = true → ∀ (R' : Nat → Prop), VR R' w m H v x := by
  induction h with
  | undef x => intros; exact .undef x
  | bool b => intros; exact .bool b
  | int k n => intros; exact .int k n
  | byte x => intros; exact .byte x
  | str l h => intros; exact .str l h
  | nilS => intros; exact .nilS
  | sl b off len sz a c h1 h2 h3 h4 h5 h6 => intros; exact .sl b off len sz a c h1 h2 h3 h4 h5 h6
  | roB l a c g off h1 h2 h3 h4 h5 => intro hc; simp [Ae.noRo] at hc
  | ro n sz f a c g off X h1 h2 h3 h4 h5 h6 h7 ih => intro hc; simp [Ae.noRo] at hc
  | nilP => intros; exact .nilP
  | ptr b off g h => intros; exact .ptr b off g h
  | rop cs g off X h4 h5 h6 ih => intro hc; simp [Ae.noRo] at hc
  | agg cs xs h1 h2 h3 ih =>
    intro hc R'
    simp only [Ae.noRo] at hc
    exact .agg cs xs h1 (fun i v x hv hx => ih i v x hv hx (noRoL_get hc hv) R') h3
  | tup cs xs h1 h2 ih =>
    intro hc R'
    simp only [Ae.noRo] at hc
    exact .tup cs xs h1 (fun i v x hv hx => ih i v x hv hx (noRoL_get hc hv) R')
  | fn f a b xs ys h1 h2 h3 h4 ih1 ih2 =>
    intro hc R'
    simp only [Ae.noRo, Bool.and_eq_true] at hc
    exact .fn f a b xs ys h1 (fun i v x hv hx => ih1 i v x hv hx (noRoL_get hc.1 hv) R') h3 (fun i v x hv hx => ih2 i v x hv hx (noRoL_get hc.2 hv) R')
  | nilF => intros; exact .nilF
theorem BR.noRo {B : ABlk} {xs : List Value} (h : BR R w m H B xs) (hB : noRoB B = true) (R' : Nat → Prop) : BR R' w m H B xs := by
  cases B with
  | dead => trivial
  | bytes l => exact h
  | vals cs => obtain ⟨ys, q, e, h⟩ := h; exact ⟨ys, q, e, h.1, fun i v x hv hx => (h.2 i v x hv hx).noRo (noRoL_get hB hv) R'⟩
  | flat cs => simp [noRoB] at hB

theorem ro_of {len sz off : Nat} {a : Option Addr} {c : Nat} {r : List AVal} (h1 : len ≤ c) (h2 : c ≤ maxI) (h3 : len ≤ room) (hr : r.length = len * sz)
    (h : 0 < len → ∃ g, a = some ⟨g, off, none⟩ ∧ R g ∧ ∀ j v, r[j]? = some v → ∃ x, w.cell? ⟨g, off + j, none⟩ = some x ∧ x.oneCell' = true ∧ VR R w Mp.nil [] v x) : VR R w m H (.ro len sz (rowsOf sz r)) (.slice a len c) := by
  have hrow : ∀ i, i < len → i * sz + sz ≤ len * sz := fun i hi => by
    have := Nat.mul_le_mul_right sz (show i + 1 ≤ len from hi)
    rw [Nat.add_mul] at this; omega
  have hget : ∀ i j v, (rowsOf sz r i)[j]? = some v → r[i * sz + j]? = some v := fun i j v h => by
    unfold rowsOf at h
    rw [List.getElem?_take] at h
    split at h
    · rwa [List.getElem?_drop] at h
    · cases h
  by_cases h0 : 0 < len
  · obtain ⟨g, ha, hR, hc⟩ := h h0
    refine .ro len sz _ a c g off (fun i j => (w.cell? ⟨g, off + i * sz + j, none⟩).getD undef) h1 h2 h3 (fun _ => ⟨ha, hR⟩) (fun i j v hi hv => ?_) (fun i j v hi hv => ?_) fun i hi => ?_
    · obtain ⟨x, e1, e2, e3⟩ := hc _ v (hget i j v hv)
      rw [← Nat.add_assoc] at e1
      simp only [e1, Option.getD_some]; exact ⟨trivial, e2⟩
    · obtain ⟨x, e1, e2, e3⟩ := hc _ v (hget i j v hv)
      rw [← Nat.add_assoc] at e1
      simp only [e1, Option.getD_some]; exact e3
    · unfold rowsOf
      have := hrow i hi
      simp; omega
  · obtain rfl : len = 0 := by omega
    exact .ro 0 sz _ a c 0 off (fun _ _ => undef) h1 h2 h3 (fun h => absurd h (by omega)) (fun i j v hi _ => absurd hi (by omega)) (fun i j v hi _ => absurd hi (by omega)) fun i hi => absurd hi (by omega)

theorem roB_of {off : Nat} {a : Option Addr} {c : Nat} {l : List UInt8} (h1 : l.length ≤ c) (h2 : c ≤ maxI) (h3 : l.length ≤ room)
    (h : 0 < l.length → ∃ g, a = some ⟨g, off, none⟩ ∧ R g ∧ ∀ (i : Nat) x, l[i]? = some x → w.cell? ⟨g, off + i, none⟩ = some (.int .u8 (x.toNat : Int))) : VR R w m H (.roB l) (.slice a l.length c) := by
  by_cases h0 : 0 < l.length
  · obtain ⟨g, ha, hR, hc⟩ := h h0
    exact .roB l a c g off h1 h2 h3 (fun _ => ⟨ha, hR⟩) hc
  · exact .roB l a c 0 off h1 h2 h3 (fun h => absurd h h0) fun i x hx => by have := (List.getElem?_eq_some_iff.1 hx).1; omega

/-- what is frozen for the call -/
def RC (R : Nat → Prop) (m : Mp) (H : Hp) (ks : List Nat) (g : Nat) : Prop := R g ∨ ∃ k, k ∈ ks ∧ hget k H ≠ .dead ∧ m k = some g

theorem snapCL_get {imps : List Nat} : ∀ {cs l : List AVal}, snapCL imps H cs = some l → cs.length = l.length ∧ ∀ (i : Nat) v, l[i]? = some v → ∃ u, cs[i]? = some u ∧ snapC imps H u = some v
  | [], l, h => by simp [snapCL] at h; subst h; exact ⟨rfl, fun i v h => by simp at h⟩
  | u :: cs, l, h => by
    simp only [snapCL] at h
    split at h
    · rename_i a q h1 h2
      cases h
      obtain ⟨e1, e2⟩ := snapCL_get h2
      refine ⟨by simp [e1], fun i v hv => ?_⟩
      cases i with
      | zero => simp at hv; subst hv; exact ⟨u, rfl, h1⟩
      | succ i => simpa using e2 i v (by simpa using hv)
    · cases h
theorem snapsCL_sub {imps : List Nat} : ∀ {cs : List AVal} {i : Nat} {u : AVal}, cs[i]? = some u → ∀ k ∈ snapsC imps u, k ∈ snapsCL imps cs
  | [], i, u, h => by simp at h
  | v :: cs, 0, u, h => fun k hk => by simp at h; subst h; simp [snapsCL, hk]
  | v :: cs, i + 1, u, h => fun k hk => by simp [snapsCL]; exact .inr (snapsCL_sub (by simpa using h) k hk)

theorem snapC_sound (hS : Sim R w m H) {imps ks : List Nat} {v : AVal} {x : Value} (h : VR R w m H v x) : ∀ {v' : AVal}, snapC imps H v = some v' → (∀ k ∈ snapsC imps v, k ∈ ks) → VR (RC R m H ks) w m H v' x := by
  have same : ∀ {v : AVal} {x : Value}, VR R w m H v x → VR (RC R m H ks) w m H v x := fun h => VR.mono (fun _ h => .inl h) (fun _ _ => rfl) (fun _ _ h => h) h (fun _ _ h => h) (Nat.le_refl _) (hext_self H)
  suffices go : ∀ {m1 : Mp} {H1 : Hp}, m1 = m → H1 = H → VR R w m1 H1 v x → ∀ {v' : AVal}, snapC imps H v = some v' → (∀ k ∈ snapsC imps v, k ∈ ks) → VR (RC R m H ks) w m H v' x from fun {_} h1 h2 => go rfl rfl h h1 h2
  clear h
  intro m1 H1 hm hH h
  induction h with
  | undef x => intro v' h _; simp only [snapC, Option.some.injEq] at h; subst h; exact .undef x
  | bool b => intro v' h _; simp only [snapC, Option.some.injEq] at h; subst h; exact .bool b
  | int k n => intro v' h _; simp only [snapC, Option.some.injEq] at h; subst h; exact .int k n
  | byte x => intro v' h _; simp only [snapC, Option.some.injEq] at h; subst h; exact .byte x
  | str l hl => intro v' h _; simp only [snapC, Option.some.injEq] at h; subst h; exact .str l hl
  | nilS => intro v' h _; simp only [snapC, Option.some.injEq] at h; subst h; exact .nilS
  | @sl m1 H1 b off len sz a c h1 h2 h3 h4 h5 h6 =>
    subst hm hH
    intro v' h hk
    simp only [snapC] at h
    cases hb : elemN b imps with
    | true =>
      rw [hb] at h; simp only [cond_true, Option.some.injEq] at h; subst h
      exact same (.sl b off len sz a c h1 h2 h3 h4 h5 h6)
    | false =>
      rw [hb] at h; simp only [cond_false] at h
      have hbk : b ∈ ks := hk b (by simp [snapsC, hb])
      have src : ∀ B, hget b H1 = B → B ≠ .dead → 0 < len → ∃ g, a = some ⟨g, off, none⟩ ∧ RC R m1 H1 ks g ∧ ∀ j v, (B.av.drop off)[j]? = some v → ∃ x, w.cell? ⟨g, off + j, none⟩ = some x ∧ x.oneCell' = true ∧ VR R w m1 H1 v x ∧ (∀ cs, B = .flat cs → VR R w Mp.nil [] v x) := by
        intro B hB hd hp
        obtain ⟨g, n, e1, e2, _, _⟩ := h5 (by omega)
        refine ⟨g, e2, .inr ⟨b, hbk, by rw [hB]; exact hd, e1⟩, fun j v hv => ?_⟩
        obtain ⟨xs, e, fr, q1, q2, q3, q4, ys, r, hys, hvl⟩ := hS.cells (by rw [hB]; exact hd) e1
        rw [hB] at hvl q4
        rw [List.getElem?_drop] at hv
        have hlt : off + j < ys.length := by rw [← hvl.1]; exact (List.getElem?_eq_some_iff.1 hv).1
        have hx : xs[off + j]? = some ys[off + j] := by rw [hys, List.getElem?_append_left hlt, List.getElem?_eq_getElem hlt]
        refine ⟨ys[off + j], by rw [cell_of q1]; exact hx, q3 _ (by rw [hys]; exact List.mem_append_left _ (List.getElem_mem hlt)), hvl.2 _ _ _ hv (List.getElem?_eq_getElem hlt), fun cs hc => ?_⟩
        subst hc
        obtain ⟨zs, r', hz, hfl⟩ := q4
        have hlt' : off + j < zs.length := by rw [← hfl.1]; exact (List.getElem?_eq_some_iff.1 hv).1
        refine hfl.2 _ _ _ hv ?_
        rw [hz, List.getElem?_append_left hlt'] at hx; exact hx
      have lift : ∀ {v : AVal} {x : Value}, VR R w Mp.nil [] v x → VR (RC R m1 H1 ks) w Mp.nil [] v x := fun h => VR.mono (fun _ h => .inl h) (fun _ _ => rfl) (fun _ _ h => h) h (fun _ _ h => h) (Nat.le_refl _) (hext_self [])
      have take_get : ∀ (l : List AVal) (n j : Nat) (v : AVal), (l.take n)[j]? = some v → l[j]? = some v := fun l n j v h => by
        rw [List.getElem?_take] at h
        split at h
        · exact h
        · cases h
      split at h
      · rename_i l hl
        cases hsz : Nat.beq sz 1 with
        | false => rw [hsz] at h; cases h
        | true =>
          rw [hsz] at h; simp only [cond_true, Option.some.injEq] at h; subst h
          obtain rfl := Nat.eq_of_beq_eq_true hsz
          have hlen : ((l.drop off).take len).length = len := by
            rcases h6 with h6 | h6
            · rw [hl] at h6; cases h6
            · rw [hl] at h6; simp [ABlk.len] at h6 ⊢; omega
          have := roB_of (R := RC R m1 H1 ks) (w := w) (m := m1) (H := H1) (off := off) (a := a) (c := c) (l := (l.drop off).take len) (by omega) h2 (by omega) fun hp => by
            obtain ⟨g, e1, e2, e3⟩ := src _ hl (by simp) (by omega)
            refine ⟨g, e1, e2, fun i x hx => ?_⟩
            obtain ⟨y, f1, f2, f3, _⟩ := e3 i (.byte x) (by
              have := take_get _ _ i (.byte x) (show (((ABlk.bytes l).av.drop off).take len)[i]? = some (.byte x) by
                simp only [ABlk.av, ← List.map_drop, ← List.map_take, List.getElem?_map, hx]; rfl)
              exact this)
            cases f3; exact f1
          rw [hlen] at this; exact this
      · rename_i cs hl
        split at h
        · rename_i r hr
          obtain ⟨rfl, hle⟩ := partN_eq hr
          have hrl : ((cs.drop off).take (len * sz)).length = len * sz := by simp; omega
          split at h
          · rename_i l hb'
            cases hsz : Nat.beq sz 1 with
            | false => rw [hsz] at h; cases h
            | true =>
              rw [hsz] at h; simp only [cond_true, Option.some.injEq] at h; subst h
              obtain rfl := Nat.eq_of_beq_eq_true hsz
              have hbs := toBytes_eq hb'
              have hlen : l.length = len := by have := congrArg List.length hbs; rw [hrl] at this; simp at this; omega
              have := roB_of (R := RC R m1 H1 ks) (w := w) (m := m1) (H := H1) (off := off) (a := a) (c := c) (l := l) (by omega) h2 (by omega) fun hp => by
                obtain ⟨g, e1, e2, e3⟩ := src _ hl (by simp) (by omega)
                refine ⟨g, e1, e2, fun i x hx => ?_⟩
                obtain ⟨y, f1, f2, f3, _⟩ := e3 i (.byte x) (by
                  have := take_get _ _ i (.byte x) (show ((cs.drop off).take (len * 1))[i]? = some (.byte x) by
                    rw [hbs, List.getElem?_map, hx]; rfl)
                  exact this)
                cases f3; exact f1
              rw [hlen] at this; exact this
          · cases hcl : closedL ((cs.drop off).take (len * sz)) && Nat.ble 1 sz with
            | false => rw [hcl] at h; cases h
            | true =>
              rw [hcl] at h; simp only [cond_true, Option.some.injEq] at h; subst h
              rw [Bool.and_eq_true] at hcl
              refine ro_of (off := off) h1 h2 h3 hrl fun hp => ?_
              obtain ⟨g, e1, e2, e3⟩ := src _ hl (by simp) hp
              refine ⟨g, e1, e2, fun j v hv => ?_⟩
              obtain ⟨y, f1, f2, f3, _⟩ := e3 j v (take_get _ _ j v hv)
              exact ⟨y, f1, f2, lift (f3.closed (closedL_get hcl.1 hv))⟩
        · cases h
      · rename_i cs hl
        cases hsz : Nat.ble 1 sz with
        | false => rw [hsz] at h; cases h
        | true =>
          rw [hsz] at h; simp only [cond_true, Option.some.injEq] at h; subst h
          have hrl : ((cs.drop off).take (len * sz)).length = len * sz := by
            rcases h6 with h6 | h6
            · rw [hl] at h6; cases h6
            · rw [hl] at h6; simp [ABlk.len] at h6 ⊢; omega
          refine ro_of (off := off) h1 h2 h3 hrl fun hp => ?_
          obtain ⟨g, e1, e2, e3⟩ := src _ hl (by simp) hp
          refine ⟨g, e1, e2, fun j v hv => ?_⟩
          obtain ⟨y, f1, f2, _, f3⟩ := e3 j v (take_get _ _ j v hv)
          exact ⟨y, f1, f2, lift (f3 _ rfl)⟩
      · cases h
  | roB l a c g off h1 h2 h3 h4 h5 => intro v' h _; simp only [snapC, Option.some.injEq] at h; subst h; exact .roB l a c g off h1 h2 h3 (fun h => ⟨(h4 h).1, .inl (h4 h).2⟩) h5
  | ro n sz f a c g off X h1 h2 h3 h4 h5 h6 h7 ih =>
    intro v' h _; simp only [snapC, Option.some.injEq] at h; subst h
    refine same (.ro n sz f a c g off X h1 h2 h3 h4 h5 h6 h7)
  | nilP => intro v' h _; simp only [snapC, Option.some.injEq] at h; subst h; exact .nilP
  | ptr b off g hp => intro v' h _; simp only [snapC, Option.some.injEq] at h; subst h; subst hm hH; exact .ptr b off g hp
  | rop cs g off X h4 h5 h6 ih => intro v' h _; simp only [snapC, Option.some.injEq] at h; subst h; exact same (.rop cs g off X h4 h5 h6)
  | agg cs xs h1 h2 h3 ih =>
    intro v' h hk
    simp only [snapC] at h
    split at h
    · rename_i l hl
      cases h
      obtain ⟨e1, e2⟩ := snapCL_get hl
      refine .agg l xs (by omega) (fun i v x hv hx => ?_) h3
      obtain ⟨u, hu, hs⟩ := e2 i v hv
      exact ih i u x hu hx hm hH hs fun k hk' => hk k (by simp only [snapsC]; exact snapsCL_sub hu k hk')
    · cases h
  | tup cs xs h1 h2 ih => intro v' h hk; simp [snapC] at h
  | fn f a b xs ys h1 h2 h3 h4 ih1 ih2 =>
    intro v' h _; simp only [snapC, Option.some.injEq] at h; subst h; subst hm hH
    exact same (.fn f a b xs ys h1 h2 h3 h4)
  | nilF => intro v' h _; simp only [snapC, Option.some.injEq] at h; subst h; exact .nilF

theorem snapL_get {imps : List Nat} : ∀ {cs l : List AVal}, snapL imps H cs = some l → cs.length = l.length ∧ ∀ (i : Nat) v, l[i]? = some v → ∃ u, cs[i]? = some u ∧ snap imps H u = some v
  | [], l, h => by simp [snapL] at h; subst h; exact ⟨rfl, fun i v h => by simp at h⟩
  | u :: cs, l, h => by
    simp only [snapL] at h
    split at h
    · rename_i a q h1 h2
      cases h
      obtain ⟨e1, e2⟩ := snapL_get h2
      refine ⟨by simp [e1], fun i v hv => ?_⟩
      cases i with
      | zero => simp at hv; subst hv; exact ⟨u, rfl, h1⟩
      | succ i => simpa using e2 i v (by simpa using hv)
    · cases h
theorem snapsL_sub {imps : List Nat} : ∀ {cs : List AVal} {i : Nat} {u : AVal}, cs[i]? = some u → ∀ k ∈ snaps imps H u, k ∈ snapsL imps H cs
  | [], i, u, h => by simp at h
  | v :: cs, 0, u, h => fun k hk => by simp at h; subst h; simp [snapsL, hk]
  | v :: cs, i + 1, u, h => fun k hk => by simp [snapsL]; exact .inr (snapsL_sub (by simpa using h) k hk)

theorem snapN_sound (hS : Sim R w m H) {imps ks : List Nat} {b off len sz : Nat} {x : Value} (h : VR R w m H (.sl b off len sz) x) {v' : AVal} (hs : snapN imps H b off len sz = some v') (hb : b ∈ ks) (hk : ∀ k ∈ innerN imps H b off len sz, k ∈ ks) : VR (RC R m H ks) w m H v' x := by
  cases h with
  | sl b off len sz a c h1 h2 h3 h4 h5 h6 =>
  unfold snapN at hs
  unfold innerN at hk
  split at hs
  · rename_i cs hl
    rw [hl] at hk
    split at hs
    · rename_i r hr
      simp only [hr] at hk
      obtain ⟨rfl, hle⟩ := partN_eq hr
      split at hs
      · rename_i r' hr'
        cases hc : closedL r' && Nat.ble 1 sz with
        | false => rw [hc] at hs; cases hs
        | true =>
          rw [hc] at hs
          simp only [cond_true, Option.some.injEq] at hs
          subst hs
          rw [Bool.and_eq_true] at hc
          obtain ⟨g1, g2⟩ := snapCL_get hr'
          have hrl : r'.length = len * sz := by rw [← g1]; simp; omega
          refine ro_of (off := off) h1 h2 h3 hrl fun hp => ?_
          obtain ⟨g, n, e1, e2, _, _⟩ := h5 (by omega)
          refine ⟨g, e2, .inr ⟨b, hb, by rw [hl]; simp, e1⟩, fun j v hv => ?_⟩
          obtain ⟨u, hu, hsn⟩ := g2 j v hv
          obtain ⟨xs, e, fr, q1, q2, q3, q4, ys, rr, hys, hvl⟩ := hS.cells (by rw [hl]; simp) e1
          rw [hl] at hvl
          have hu' : cs[off + j]? = some u := by
            rw [List.getElem?_take] at hu
            split at hu
            · rwa [List.getElem?_drop] at hu
            · cases hu
          have hlt : off + j < ys.length := by rw [← hvl.1]; exact (List.getElem?_eq_some_iff.1 hu').1
          have hx : xs[off + j]? = some ys[off + j] := by rw [hys, List.getElem?_append_left hlt, List.getElem?_eq_getElem hlt]
          have hvr := hvl.2 (off + j) u _ hu' (List.getElem?_eq_getElem hlt)
          have := snapC_sound hS hvr hsn (ks := ks) fun k hk' => hk k (snapsCL_sub hu k hk')
          exact ⟨ys[off + j], by rw [cell_of q1]; exact hx, q3 _ (by rw [hys]; exact List.mem_append_left _ (List.getElem_mem hlt)), this.closed (closedL_get hc.1 hv)⟩
      · cases hs
    · cases hs
  · cases hs

theorem snap_sound (hS : Sim R w m H) {imps ks : List Nat} {v : AVal} : ∀ {x : Value}, VR R w m H v x → ∀ {v' : AVal}, snap imps H v = some v' → (∀ k ∈ snaps imps H v, k ∈ ks) → VR (RC R m H ks) w m H v' x := by
  refine AVal.rec (motive_1 := fun v => ∀ {x : Value}, VR R w m H v x → ∀ {v' : AVal}, snap imps H v = some v' → (∀ k ∈ snaps imps H v, k ∈ ks) → VR (RC R m H ks) w m H v' x)
    (motive_2 := fun vs => ∀ (i : Nat) v, vs[i]? = some v → ∀ {x : Value}, VR R w m H v x → ∀ {v' : AVal}, snap imps H v = some v' → (∀ k ∈ snaps imps H v, k ∈ ks) → VR (RC R m H ks) w m H v' x) ?_ ?_ ?_ ?_ ?_ ?_ ?_ ?_ ?_ ?_ ?_ ?_ ?_ ?_ ?_ ?_ ?_ ?_ v
  · intro x h v' hs hk; exact snapC_sound (imps := imps) hS h hs hk
  · intro b x h v' hs hk; exact snapC_sound (imps := imps) hS h hs hk
  · intro k n x h v' hs hk; exact snapC_sound (imps := imps) hS h hs hk
  · intro y x h v' hs hk; exact snapC_sound (imps := imps) hS h hs hk
  · intro l x h v' hs hk; exact snapC_sound (imps := imps) hS h hs hk
  · intro x h v' hs hk; exact snapC_sound (imps := imps) hS h hs hk
  · intro b off len sz x h v' hs hk
    simp only [snap] at hs
    split at hs
    · rename_i v hv
      cases hs
      refine snapC_sound hS h hv fun k hk' => ?_
      simp only [snapsC] at hk'
      simp only [snaps] at hk
      cases hb : elemN b imps with
      | true => rw [hb] at hk'; simp at hk'
      | false => rw [hb] at hk'; simp at hk'; rw [hb] at hk; exact hk k (by simp [hk'])
    · cases hb : elemN b imps with
      | true => rw [hb] at hs; cases hs
      | false =>
        rw [hb] at hs
        simp only [cond_false] at hs
        simp only [snaps, hb, cond_false] at hk
        exact snapN_sound hS h hs (hk b (by simp)) fun k hk' => hk k (by simp [hk'])
  · intro l x h v' hs hk; exact snapC_sound (imps := imps) hS h hs hk
  · intro n sz f ih x h v' hs hk; exact snapC_sound (imps := imps) hS h hs hk
  · intro x h v' hs hk; exact snapC_sound (imps := imps) hS h hs hk
  · intro b off x h v' hs hk; exact snapC_sound (imps := imps) hS h hs hk
  · intro cs ih x h v' hs hk; exact snapC_sound (imps := imps) hS h hs hk
  · intro cs ih x h v' hs hk
    cases h with
    | agg cs xs h1 h2 h3 =>
      simp only [snap] at hs
      split at hs
      · rename_i l hl
        cases hs
        obtain ⟨e1, e2⟩ := snapL_get hl
        refine .agg l xs (by omega) (fun i v x hv hx => ?_) h3
        obtain ⟨u, hu, hs⟩ := e2 i v hv
        exact ih i u hu (h2 i u x hu hx) hs fun k hk' => hk k (by simp only [snaps]; exact snapsL_sub hu k hk')
      · cases hs
  · intro cs ih x h v' hs hk; simp [snap] at hs
  · intro f a b iha ihb x h v' hs hk; exact snapC_sound (imps := imps) hS h hs hk
  · intro x h v' hs hk; exact snapC_sound (imps := imps) hS h hs hk
  · intro i v h; simp at h
  · intro v vs h1 h2 i u hu
    cases i with
    | zero => simp at hu; subst hu; exact h1
    | succ i => exact h2 i u (by simpa using hu)

end
end Go.Proofs.Ytcooilllmcgcmaa.Ae
