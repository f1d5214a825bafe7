/- A call: what the callee gives, under the caller's numbers. No program in sight. Operations in sequence. No program in sight. -/
import Derived.Test.YtnbbaemijogeoaaAeQ
namespace Go.Proofs.Ytnbbaemijogeoaa.Ae
open Go

/-- what a function comes to -/
structure Gives (P : Program) (f : Nat) (args : List AVal) (H : Hp) (v : AVal) (H' : Hp) : Prop where
  fn : ∃ g, P.funcs[f]? = some g ∧ (g.name == "runtime.NumGoroutine") = false ∧ g.body.isNone = false
  run : ∀ (R : Nat → Prop) (w : World) (m : Mp) (xs : List Value), Sim R w m H → VL R w m H args xs → Calls P f xs.toArray w fun e w' => ∃ R' m' x, e = .returned x ∧ Far R w m H R' w' m' H' ∧ VR R' w' m' H' v x
/-- a table of what functions come to -/
def TSound (P : Program) (T : Specs) : Prop := ∀ f args H K, T f args H K → ∃ v H', K v H' ∧ Gives P f args H v H'

theorem forceV_iff {v : AVal} {k : AVal → Prop} : forceV v k ↔ k v := by cases v <;> exact Iff.rfl
theorem forceL_iff {α : Type} : ∀ {l : List α} {k : List α → Prop}, forceL l k ↔ k l
  | [], k => Iff.rfl
  | x :: r, k => by simp only [forceL]; exact forceL_iff

section
variable {P : Program} {R R' : Nat → Prop} {w w' : World} {m m' : Mp} {H H' : Hp}

theorem backN_lt {base : Nat} : ∀ {imps : List Nat} {j k : Nat}, imps[j]? = some k → backN base imps j = some k
  | [], j, k, h => by simp at h
  | i :: r, 0, k, h => by simp at h; subst h; rfl
  | i :: r, j + 1, k, h => by simpa [backN] using backN_lt (base := base) (imps := r) (by simpa using h)
theorem backN_ge {base : Nat} : ∀ {imps : List Nat} {j : Nat}, backN base imps (imps.length + j) = some (base + j)
  | [], j => by simp [backN]
  | i :: r, j => by
    rw [List.length_cons, show r.length + 1 + j = (r.length + j) + 1 by omega]
    simpa [backN] using backN_ge (base := base) (imps := r) (j := j)
theorem dropH_get : ∀ {imps : List Nat} {Hc : Hp} {j : Nat}, imps.length ≤ Hc.length → hget j (dropH imps Hc) = hget (imps.length + j) Hc
  | [], Hc, j, _ => by simp [dropH]
  | i :: r, [], j, h => by simp at h
  | i :: r, b :: bs, j, h => by
    rw [List.length_cons, show r.length + 1 + j = (r.length + j) + 1 by omega]
    simpa [dropH, hget] using dropH_get (imps := r) (Hc := bs) (j := j) (by simpa using h)
theorem dropH_length : ∀ {imps : List Nat} {Hc : Hp}, imps.length ≤ Hc.length → (dropH imps Hc).length = Hc.length - imps.length
  | [], Hc, _ => by simp [dropH]
  | i :: r, [], h => by simp at h
  | i :: r, b :: bs, h => by simpa [dropH] using dropH_length (imps := r) (Hc := bs) (by simpa using h)
theorem renH_get (r : Nat → Option Nat) : ∀ (H : Hp) (k : Nat), hget k (renH r H) = renB r (hget k H)
  | [], k => by simp [renH, hget, renB]
  | b :: bs, 0 => rfl
  | b :: bs, k + 1 => by simpa [renH, hget] using renH_get r bs k
theorem renH_length (r : Nat → Option Nat) : ∀ (H : Hp), (renH r H).length = H.length
  | [] => rfl
  | b :: bs => by simp [renH, renH_length r bs]
theorem hsets_length : ∀ (l : List (Nat × ABlk)) (H : Hp), (hsets l H).length = H.length
  | [], H => rfl
  | (k, b) :: r, H => by simp only [hsets]; rw [hsets_length r, hset_length]
theorem hsets_append : ∀ (l l' : List (Nat × ABlk)) (H : Hp), hsets (l ++ l') H = hsets l' (hsets l H)
  | [], l', H => rfl
  | (k, b) :: r, l', H => by simp only [List.cons_append, hsets]; exact hsets_append r l' _
theorem hsets_zip_ne (r : Nat → Option Nat) {k : Nat} : ∀ {imps : List Nat} {Hc H : Hp}, k ∉ imps → hget k (hsets (zipSets r imps Hc) H) = hget k H
  | [], Hc, H, _ => by cases Hc <;> rfl
  | i :: is, [], H, _ => rfl
  | i :: is, b :: bs, H, h => by
    simp only [zipSets, hsets]
    rw [hsets_zip_ne r (imps := is) (fun hm => h (by simp [hm])), hget_hset_ne (fun e => h (by simp [e]))]
theorem hsets_zip (r : Nat → Option Nat) {k : Nat} : ∀ {imps : List Nat} {Hc H : Hp} {j : Nat}, imps.Nodup → imps.length ≤ Hc.length → imps[j]? = some k → k < H.length → hget k (hsets (zipSets r imps Hc) H) = renB r (hget j Hc)
  | [], Hc, H, j, _, _, h, _ => by simp at h
  | i :: is, [], H, j, _, h, _, _ => by simp at h
  | i :: is, b :: bs, H, 0, hn, hl, h, hk => by
    simp at h; subst h
    simp only [zipSets, hsets]
    rw [hsets_zip_ne r (List.nodup_cons.1 hn).1, hget_hset_same hk]; rfl
  | i :: is, b :: bs, H, j + 1, hn, hl, h, hk => by
    simp only [zipSets, hsets]
    rw [hsets_zip r (imps := is) (Hc := bs) (j := j) (List.nodup_cons.1 hn).2 (by simpa using hl) (by simpa using h) (by rw [hset_length]; exact hk)]
    rfl
theorem deads_in {k : Nat} : ∀ {ks : List Nat} {H : Hp}, k ∈ ks → hget k (hsets (deads ks) H) = .dead
  | [], H, h => by simp at h
  | i :: r, H, h => by
    simp only [deads, hsets]
    by_cases hr : k ∈ r
    · exact deads_in hr
    · have : k = i := by simpa [hr] using h
      subst this
      have keep : ∀ (l : List Nat) (H : Hp), hget k H = .dead → hget k (hsets (deads l) H) = .dead := by
        intro l
        induction l with
        | nil => intro H h; exact h
        | cons j l ih =>
          intro H h
          simp only [deads, hsets]
          refine ih _ ?_
          by_cases hj : k = j
          · subst hj
            rcases Nat.lt_or_ge k H.length with hlt | hge
            · exact hget_hset_same hlt
            · exact hget_out (by rw [hset_length]; exact hge)
          · rw [hget_hset_ne hj]; exact h
      refine keep r _ ?_
      rcases Nat.lt_or_ge k H.length with hlt | hge
      · exact hget_hset_same hlt
      · exact hget_out (by rw [hset_length]; exact hge)
theorem deads_out {k : Nat} : ∀ {ks : List Nat} {H : Hp}, k ∉ ks → hget k (hsets (deads ks) H) = hget k H
  | [], H, _ => rfl
  | i :: r, H, h => by
    simp only [deads, hsets]
    rw [deads_out (fun hm => h (by simp [hm])), hget_hset_ne (fun e => h (by simp [e]))]
theorem noRoH_get : ∀ {H : Hp} {k : Nat}, noRoH H = true → noRoB (hget k H) = true
  | [], k, _ => by simp [hget, noRoB]
  | b :: r, 0, h => by simp [noRoH] at h; exact h.1
  | b :: r, k + 1, h => by simp [noRoH] at h; simpa [hget] using noRoH_get (k := k) h.2
theorem snapsC_imps {imps : List Nat} : ∀ {vs : List AVal} {k : Nat}, k ∈ snapsCL imps vs → k ∉ imps := by
  have one : ∀ (v : AVal) (k : Nat), k ∈ snapsC imps v → k ∉ imps := by
    intro v
    refine AVal.rec (motive_1 := fun v => ∀ k, k ∈ snapsC imps v → k ∉ imps) (motive_2 := fun vs => ∀ k, k ∈ snapsCL imps vs → k ∉ imps) ?_ ?_ ?_ ?_ ?_ ?_ ?_ ?_ ?_ ?_ ?_ ?_ ?_ ?_ ?_ ?_ ?_ ?_ v
    all_goals try (intros; simp_all [snapsC, snapsCL]; done)
    · intro b off len sz k hk
      simp only [snapsC] at hk
      cases hb : elemN b imps with
      | true => rw [hb] at hk; simp at hk
      | false => rw [hb] at hk; simp at hk; subst hk; exact fun h => by rw [elemN_iff.2 h] at hb; cases hb
    · intro v vs h1 h2 k hk
      simp only [snapsCL, List.mem_append] at hk
      exact hk.elim (h1 k) (h2 k)
  intro vs
  induction vs with
  | nil => intro k h; simp [snapsCL] at h
  | cons v vs ih => intro k h; simp only [snapsCL, List.mem_append] at h; exact h.elim (one v k) ih
theorem snaps_imps {imps : List Nat} {H : Hp} : ∀ {vs : List AVal} {k : Nat}, k ∈ snapsL imps H vs → k ∉ imps := by
  have one : ∀ (v : AVal) (k : Nat), k ∈ snaps imps H v → k ∉ imps := by
    intro v
    refine AVal.rec (motive_1 := fun v => ∀ k, k ∈ snaps imps H v → k ∉ imps) (motive_2 := fun vs => ∀ k, k ∈ snapsL imps H vs → k ∉ imps) ?_ ?_ ?_ ?_ ?_ ?_ ?_ ?_ ?_ ?_ ?_ ?_ ?_ ?_ ?_ ?_ ?_ ?_ v
    all_goals try (intros; simp_all [snaps, snapsL]; done)
    · intro b off len sz k hk
      simp only [snaps] at hk
      cases hb : elemN b imps with
      | true => rw [hb] at hk; simp at hk
      | false =>
        rw [hb] at hk
        simp only [cond_false, List.mem_cons] at hk
        rcases hk with rfl | hk
        · exact fun h => by rw [elemN_iff.2 h] at hb; cases hb
        · unfold innerN at hk
          split at hk
          · split at hk
            · exact snapsC_imps hk
            · simp at hk
          · simp at hk
    · intro v vs h1 h2 k hk
      simp only [snapsL, List.mem_append] at hk
      exact hk.elim (h1 k) (h2 k)
  intro vs
  induction vs with
  | nil => intro k h; simp [snapsL] at h
  | cons v vs ih => intro k h; simp only [snapsL, List.mem_append] at h; exact h.elim (one v k) ih

theorem idxO_none {k : Nat} {l : List Nat} (h : idxO k l = none) : k ∉ l := fun hm => by
  obtain ⟨i, hi⟩ := idxO_mem hm
  rw [h] at hi; cases hi
theorem allLt_get : ∀ {l : List Nat} {n : Nat}, allLt l n = true → ∀ k ∈ l, k < n
  | [], n, _, k, h => by simp at h
  | j :: r, n, h, k, hk => by
    simp only [allLt, Bool.and_eq_true] at h
    rcases List.mem_cons.1 hk with rfl | hk
    · exact Nat.le_of_ble_eq_true h.1
    · exact allLt_get h.2 k hk

theorem call_sound (hS : Sim R w m H) {args as : List AVal} {xs : List Value} (hx : VL R w m H args xs) {imps : List Nat} (hn : imps.Nodup) (hlt : ∀ k ∈ imps, k < H.length)
    (hs : snapL imps H args = some as) {f : Nat} {v : AVal} {Hc : Hp} (hg : Gives P f (renL (fun k => idxO k imps) as) (subHeap (fun k => idxO k imps) H imps) v Hc) :
    Calls P f xs.toArray w fun e w' => ∃ R' m' x, e = .returned x ∧ Far R w m H R' w' m' ((backE imps (snapsL imps H args) H v Hc).app H) ∧ VR R' w' m' ((backE imps (snapsL imps H args) H v Hc).app H) (ren (backN H.length imps) v) x := by
  have hks : ∀ k ∈ snapsL imps H args, k ∉ imps := fun k => snaps_imps
  generalize hksd : snapsL imps H args = ks at *
  have hN := sub_num imps m H
  have hS1 := hS.sub hn
  generalize hHs : subHeap (fun k => idxO k imps) H imps = Hs at *
  have hHl : Hs.length = imps.length := by rw [← hHs, subHeap_length]
  have hsub : ∀ (j k : Nat), imps[j]? = some k → hget j Hs = renB (fun k => idxO k imps) (hget k H) ∧ subM imps m j = m k := fun j k h => ⟨by rw [← hHs]; exact subHeap_get _ _ _ _ _ h, by simp [subM, h]⟩
  have hsubl : ∀ j, hget j Hs ≠ .dead → ∃ k, imps[j]? = some k ∧ hget k H ≠ .dead ∧ subM imps m j = m k := fun j hj => by
    have h1 : j < imps.length := by rw [← hHl]; exact hget_lt hj
    have h2 := List.getElem?_eq_getElem h1
    exact ⟨_, h2, fun hd => hj (by rw [(hsub _ _ h2).1, hd]; rfl), (hsub _ _ h2).2⟩
  have hSc : Sim (RC R m H ks) w (subM imps m) Hs := by
    refine ⟨fun g hg => ?_, hS1.out, fun k g hk hg => ?_, hS1.ph, hS1.inj⟩
    · rcases hg with hg | ⟨k, _, h1, h2⟩
      · exact hS.rlt g hg
      · obtain ⟨_, ys, e, fr, h3, _⟩ := hS.own k g h1 h2
        exact (Array.getElem?_eq_some_iff.1 h3).1
    · obtain ⟨a1, ys, e, fr, a2, a3, a4, a5⟩ := hS1.own k g hk hg
      refine ⟨fun hr => ?_, ys, e, fr, a2, a3, a4, a5.mono (fun _ h => .inl h) (fun _ _ => rfl) (fun _ _ h => h) (fun _ _ h => h) (Nat.le_refl _) (hext_self _)⟩
      rcases hr with hr | ⟨k', b1, b2, b3⟩
      · exact a1 hr
      · obtain ⟨q, q1, q2, q3⟩ := hsubl k hk
        rw [q3] at hg
        have := hS.inj _ _ _ b2 q2 b3 hg
        subst this
        exact hks k' b1 (List.mem_of_getElem? q1)
  have hxc : VL (RC R m H ks) w (subM imps m) Hs (renL (fun k => idxO k imps) as) xs := by
    obtain ⟨e1, e2⟩ := snapL_get hs
    refine ⟨by rw [renL_length, ← e1]; exact hx.1, fun i v x hv hx' => ?_⟩
    obtain ⟨u, hu, rfl⟩ := renL_some hv
    obtain ⟨u', hu', hsn⟩ := e2 i u hu
    exact (snap_sound hS (hx.2 i u' x hu' hx') hsn fun k hk => by rw [← hksd]; exact snapsL_sub hu' k hk).ren hN
  refine (hg.run _ w _ xs hSc hxc).mono fun e w' ⟨R', m', x, he, F, V⟩ => ?_
  have hic : imps.length ≤ Hc.length := by rw [← hHl]; exact F.hlen
  generalize hkeep : (noRo v && noRoH Hc) = keep
  generalize hβ : backN H.length imps = β
  generalize hm2 : (fun k => if k < H.length then (match idxO k imps with | some j => m' j | none => m k) else m' (imps.length + (k - H.length)) : Mp) = m2
  generalize hH2 : (backE imps ks H v Hc).app H = H2
  have hzl : ∀ (k : Nat), k < H.length → hget k H2 = hget k (hsets (deads (cond keep [] ks)) (hsets (zipSets β imps Hc) H)) := fun k hk => by
    rw [← hH2]
    simp only [Eff.app, backE, hkeep, hβ]
    rw [hget_append_lt (by rw [hsets_length]; exact hk), hsets_append]
  have hlen2 : H2.length = H.length + (Hc.length - imps.length) := by
    rw [← hH2]; simp only [Eff.app, backE, List.length_append, hsets_length, renH_length]; rw [dropH_length hic]
  have hnew : ∀ j, hget (H.length + j) H2 = renB β (hget (imps.length + j) Hc) := fun j => by
    rw [← hH2]
    simp only [Eff.app, backE, hβ]
    rw [show H.length + j = (hsets (zipSets β imps Hc ++ deads (cond (noRo v && noRoH Hc) [] ks)) H).length + j by rw [hsets_length], hget_append_ge, renH_get, dropH_get hic]
  have himp : ∀ (j k : Nat), imps[j]? = some k → hget k H2 = renB β (hget j Hc) ∧ m2 k = m' j ∧ β j = some k := fun j k h => by
    have hk := hlt k (List.mem_of_getElem? h)
    have hnk : k ∉ ks := fun hm => hks k hm (List.mem_of_getElem? h)
    refine ⟨?_, ?_, by rw [← hβ]; exact backN_lt h⟩
    · rw [hzl k hk, deads_out (fun hm => hnk (by cases keep with | true => simp at hm | false => exact hm)), hsets_zip β hn hic h hk]
    · obtain ⟨i, hi⟩ := idxO_mem (List.mem_of_getElem? h)
      have := nodup_inj hn (idxO_get hi) h
      subst this
      rw [← hm2]; simp [hk, hi]
  have hold : ∀ k, k < H.length → k ∉ imps → m2 k = m k ∧ (hget k H2 = .dead ∨ (hget k H2 = hget k H ∧ (keep = true ∨ k ∉ ks))) := fun k hk hni => by
    refine ⟨?_, ?_⟩
    · have : idxO k imps = none := by
        cases hi : idxO k imps with
        | none => rfl
        | some i => exact absurd (List.mem_of_getElem? (idxO_get hi)) hni
      rw [← hm2]; simp [hk, this]
    · rw [hzl k hk]
      cases keep with
      | true => exact .inr ⟨by simp only [cond]; rw [show hsets (deads []) (hsets (zipSets β imps Hc) H) = hsets (zipSets β imps Hc) H from rfl, hsets_zip_ne β hni], .inl rfl⟩
      | false =>
        by_cases hkk : k ∈ ks
        · exact .inl (deads_in hkk)
        · exact .inr ⟨by rw [deads_out (by simpa using hkk), hsets_zip_ne β hni], .inr hkk⟩
  have hnewm : ∀ j, m2 (H.length + j) = m' (imps.length + j) ∧ β (imps.length + j) = some (H.length + j) := fun j => by
    refine ⟨by rw [← hm2]; exact (if_neg (by omega)).trans (by rw [show H.length + j - H.length = j by omega]), by rw [← hβ]; exact backN_ge⟩
  -- every block is the callee's or the caller's alone
  have cls : ∀ k, hget k H2 ≠ .dead → (∃ j, β j = some k ∧ hget k H2 = renB β (hget j Hc) ∧ m2 k = m' j ∧ hget j Hc ≠ .dead) ∨ (k < H.length ∧ k ∉ imps ∧ m2 k = m k ∧ hget k H2 = hget k H ∧ (keep = true ∨ k ∉ ks)) := fun k hk => by
    by_cases h : k < H.length
    · by_cases hi : k ∈ imps
      · obtain ⟨j, hj⟩ := List.getElem?_of_mem hi
        obtain ⟨a, b, c⟩ := himp j k hj
        exact .inl ⟨j, c, a, b, fun hd => hk (by rw [a, hd]; rfl)⟩
      · obtain ⟨a, b⟩ := hold k h hi
        rcases b with b | ⟨b, c⟩
        · exact absurd b hk
        · exact .inr ⟨h, hi, a, b, c⟩
    · have e : k = H.length + (k - H.length) := by omega
      rw [e] at hk ⊢
      obtain ⟨a, b⟩ := hnewm (k - H.length)
      exact .inl ⟨_, b, hnew _, a, fun hd => hk (by rw [hnew, hd]; rfl)⟩
  have hβi : ∀ j j' k, β j = some k → β j' = some k → hget k H2 ≠ .dead → j = j' := by
    have aux : ∀ j k, β j = some k → (imps[j]? = some k) ∨ (imps.length ≤ j ∧ k = H.length + (j - imps.length)) := fun j k h => by
      rcases Nat.lt_or_ge j imps.length with hj | hj
      · have h1 := List.getElem?_eq_getElem hj
        rw [← hβ, backN_lt h1] at h
        exact .inl (by rw [h1]; exact h)
      · have e : j = imps.length + (j - imps.length) := by omega
        rw [e, (hnewm _).2] at h
        exact .inr ⟨hj, (Option.some.inj h).symm⟩
    intro j j' k h h' _
    rcases aux j k h with h1 | ⟨h1, h2⟩ <;> rcases aux j' k h' with h3 | ⟨h3, h4⟩
    · exact nodup_inj hn h1 h3
    · have := hlt k (List.mem_of_getElem? h1); omega
    · have := hlt k (List.mem_of_getElem? h3); omega
    · omega
  have hNb : Num β m' Hc m2 H2 := by
    have aux : ∀ j k, β j = some k → m2 k = m' j ∧ hget k H2 = renB β (hget j Hc) ∧ (j < Hc.length → k < H2.length) := fun j k h => by
      rcases Nat.lt_or_ge j imps.length with hj | hj
      · have h1 := List.getElem?_eq_getElem hj
        have h2 := h1
        rw [← hβ, backN_lt h1] at h
        rw [h] at h2
        obtain ⟨a, b, _⟩ := himp j k h2
        exact ⟨b, a, fun _ => by have := hlt k (List.mem_of_getElem? h2); omega⟩
      · have e : j = imps.length + (j - imps.length) := by omega
        rw [e, (hnewm _).2] at h
        obtain rfl := Option.some.inj h
        refine ⟨by rw [(hnewm _).1, ← e], by rw [hnew, ← e], fun hjl => by omega⟩
    refine ⟨fun j k g h hm => by rw [(aux j k h).1]; exact hm, fun j k h hj => (aux j k h).2.2 hj, fun j k h hj => ?_⟩
    rw [(aux j k h).2.1, renB_len, renB_dead]
    by_cases hd : hget j Hc = .dead
    · exact .inl hd
    · exact .inr ⟨hd, rfl⟩
  have hagree : ∀ k g, m k = some g → m2 k = some g := fun k g h => by
    have hk : k < H.length := by
      rcases Nat.lt_or_ge k H.length with h' | h'
      · exact h'
      · rw [hS.out k h'] at h; cases h
    by_cases hi : k ∈ imps
    · obtain ⟨j, hj⟩ := List.getElem?_of_mem hi
      rw [(himp j k hj).2.1]
      exact F.agree j g (by rw [(hsub j k hj).2]; exact h)
    · rw [(hold k hk hi).1]; exact h
  have hsame : ∀ k, k < H.length → m2 k = m k := fun k hk => by
    by_cases hi : k ∈ imps
    · obtain ⟨j, hj⟩ := List.getElem?_of_mem hi
      rw [(himp j k hj).2.1, F.same j (by rw [hHl]; exact (List.getElem?_eq_some_iff.1 hj).1), (hsub j k hj).2]
    · exact (hold k hk hi).1
  have hext : ∀ k, k < H.length → hget k H2 = .dead ∨ (hget k H ≠ .dead ∧ (hget k H2).len = (hget k H).len) := fun k hk => by
    by_cases hi : k ∈ imps
    · obtain ⟨j, hj⟩ := List.getElem?_of_mem hi
      rw [(himp j k hj).1, renB_len, renB_dead]
      rcases F.hext j (by rw [hHl]; exact (List.getElem?_eq_some_iff.1 hj).1) with h | ⟨h1, h2⟩
      · exact .inl h
      · rw [(hsub j k hj).1, renB_len] at h2
        rw [(hsub j k hj).1] at h1
        exact .inr ⟨fun hd => h1 (renB_dead.2 hd), h2⟩
    · rcases (hold k hk hi).2 with h | ⟨h, _⟩
      · exact .inl h
      · by_cases hd : hget k H = .dead
        · exact .inl (by rw [h]; exact hd)
        · exact .inr ⟨hd, by rw [h]⟩
  have hlen : H.length ≤ H2.length := by omega
  have hR2 : ∀ g, R g → R' g := fun g h => F.sub g (.inl h)
  have gone : ∀ k g, k < H.length → k ∉ imps → hget k H ≠ .dead → m k = some g → g < w.heap.size ∧ ∀ j, hget j Hs ≠ .dead → subM imps m j ≠ some g := fun k g _ hi hd hg => by
    obtain ⟨_, ys, e, fr, h3, _⟩ := hS.own k g hd hg
    refine ⟨(Array.getElem?_eq_some_iff.1 h3).1, fun j hj hm => ?_⟩
    obtain ⟨q, q1, q2, q3⟩ := hsubl j hj
    rw [q3] at hm
    have := hS.inj _ _ _ hd q2 hg hm
    subst this
    exact hi (List.mem_of_getElem? q1)
  -- both ways at once: what is frozen afterwards
  have main : ∀ R2 : Nat → Prop, (∀ g, R g → R2 g) → (∀ g, R2 g → R' g) → (keep = true → R2 = R) → (keep = false → R2 = R') → Sim R2 w' m2 H2 := by
    intro R2 hl hr hk1 hk0
    have br : ∀ (j : Nat) (B : ABlk) (xs : List Value), hget j Hc = B → BR R' w' m' Hc B xs → BR R2 w' m2 H2 (renB β B) xs := fun j B xs hB hb => by
      refine BR.ren ?_ hNb
      cases hkk : keep with
      | true =>
        rw [hkk, Bool.and_eq_true] at hkeep
        exact hb.noRo (by rw [← hB]; exact noRoH_get hkeep.2) R2
      | false => rw [hk0 hkk]; exact hb
    refine ⟨fun g hg => F.sim.rlt g (hr g hg), fun k hk => ?_, fun k g hk hg => ?_, fun k hk hg => ?_, fun k k' g hk hk' hg hg' => ?_⟩
    · have e : k = H.length + (k - H.length) := by omega
      rw [e, (hnewm _).1]
      exact F.sim.out _ (by omega)
    · rcases cls k hk with ⟨j, b1, b2, b3, b4⟩ | ⟨b1, b2, b3, b4, b5⟩
      · rw [b3] at hg
        obtain ⟨a1, ys, e, fr, a2, a3, a4, a5⟩ := F.sim.own j g b4 hg
        exact ⟨fun h => a1 (hr g h), ys, e, fr, a2, a3, a4, by rw [b2]; exact br j _ ys rfl a5⟩
      · rw [b3] at hg
        have hd : hget k H ≠ .dead := by rw [← b4]; exact hk
        obtain ⟨a1, ys, e, fr, a2, a3, a4, a5⟩ := hS.own k g hd hg
        obtain ⟨c1, c2⟩ := gone k g b1 b2 hd hg
        refine ⟨fun h => ?_, ys, e, fr, by rw [F.frame g c1 c2]; exact a2, a3, a4, ?_⟩
        · cases hkk : keep with
          | true => rw [hk1 hkk] at h; exact a1 h
          | false =>
            rcases F.newR g (hr g h) with (h | ⟨k', d1, d2, d3⟩) | h | ⟨j, d1, d2⟩
            · exact a1 h
            · have := hS.inj _ _ _ d2 hd d3 hg
              subst this
              rcases b5 with b5 | b5
              · rw [hkk] at b5; cases b5
              · exact b5 d1
            · omega
            · exact c2 j d1 d2
        · rw [b4]
          exact a5.mono hl (fun g hg => F.rsame hSc g (.inl hg)) F.rows hagree hlen hext
    · rcases cls k hk with ⟨j, b1, b2, b3, b4⟩ | ⟨b1, b2, b3, b4, b5⟩
      · rw [b3] at hg; rw [b2, renB_len]; exact F.sim.ph j b4 hg
      · rw [b3] at hg; rw [b4] at hk ⊢; exact hS.ph k hk hg
    · have mix : ∀ k k', hget k H2 ≠ .dead → hget k' H2 ≠ .dead → (∃ j, β j = some k ∧ hget k H2 = renB β (hget j Hc) ∧ m2 k = m' j ∧ hget j Hc ≠ .dead) → (k' < H.length ∧ k' ∉ imps ∧ m2 k' = m k' ∧ hget k' H2 = hget k' H ∧ (keep = true ∨ k' ∉ ks)) → m2 k = some g → m2 k' = some g → False := by
        rintro k k' hk hk' ⟨j, b1, b2, b3, b4⟩ ⟨c1, c2, c3, c4, c5⟩ hg hg'
        rw [b3] at hg; rw [c3] at hg'
        obtain ⟨d1, d2⟩ := gone k' g c1 c2 (by rw [← c4]; exact hk') hg'
        rcases F.news j g b4 hg with h | ⟨j0, h1, h2⟩
        · omega
        · exact d2 j0 h1 h2
      have ck := cls k hk
      have ck' := cls k' hk'
      rcases ck with b | b <;> rcases ck' with c | c
      · obtain ⟨j, b1, b2, b3, b4⟩ := b
        obtain ⟨j', c1, c2, c3, c4⟩ := c
        rw [b3] at hg; rw [c3] at hg'
        have := F.sim.inj j j' g b4 c4 hg hg'
        subst this
        exact Option.some.inj (b1.symm.trans c1)
      · exact (mix k k' hk hk' b c hg hg').elim
      · exact (mix k' k hk' hk c b hg' hg).elim
      · obtain ⟨b1, b2, b3, b4, _⟩ := b
        obtain ⟨c1, c2, c3, c4, _⟩ := c
        rw [b3] at hg; rw [c3] at hg'
        rw [b4] at hk; rw [c4] at hk'
        exact hS.inj k k' g hk hk' hg hg'
  have far : ∀ R2 : Nat → Prop, (∀ g, R g → R2 g) → (∀ g, R2 g → R' g) → (keep = true → R2 = R) → (keep = false → R2 = R') → Far R w m H R2 w' m2 H2 := by
    intro R2 hl hr hk1 hk0
    refine ⟨hl, fun g hg => ?_, main R2 hl hr hk1 hk0, F.os, F.tape, F.output, F.size, F.shape, fun g hg hno => F.frame g hg fun j hj hm => ?_, hagree, hlen, hext, fun k g hk hg => ?_, hsame⟩
    · rcases F.newR g (hr g hg) with (h | ⟨k', _, d2, d3⟩) | h | ⟨j, d1, d2⟩
      · exact .inl h
      · exact .inr (.inr ⟨k', d2, d3⟩)
      · exact .inr (.inl h)
      · obtain ⟨q, q1, q2, q3⟩ := hsubl j d1
        exact .inr (.inr ⟨q, q2, by rw [← q3]; exact d2⟩)
    · obtain ⟨q, q1, q2, q3⟩ := hsubl j hj
      exact hno q q2 (by rw [← q3]; exact hm)
    · rcases cls k hk with ⟨j, b1, b2, b3, b4⟩ | ⟨b1, b2, b3, b4, b5⟩
      · rw [b3] at hg
        rcases F.news j g b4 hg with h | ⟨j0, h1, h2⟩
        · exact .inl h
        · obtain ⟨q, q1, q2, q3⟩ := hsubl j0 h1
          exact .inr ⟨q, q2, by rw [← q3]; exact h2⟩
      · rw [b3] at hg; rw [b4] at hk
        exact .inr ⟨k, hk, hg⟩
  cases hkk : keep with
  | true =>
    have hk2 := hkeep
    rw [hkk, Bool.and_eq_true] at hk2
    exact ⟨R, m2, x, he, far R (fun _ h => h) hR2 (fun _ => rfl) (fun h => by rw [hkk] at h; cases h), (V.noRo hk2.1 R).ren hNb⟩
  | false => exact ⟨R', m2, x, he, far R' hR2 (fun _ h => h) (fun h => by rw [hkk] at h; cases h) (fun _ => rfl), V.ren hNb⟩

theorem callP_sound {T : Specs} (hT : TSound P T) {f : Nat} {args : List AVal} {H : Hp} {K : AVal → Eff → Prop} (h : callP T f args H K) :
    ∃ v e, K v e ∧ (∃ g, P.funcs[f]? = some g ∧ (g.name == "runtime.NumGoroutine") = false ∧ g.body.isNone = false) ∧ ∀ (R : Nat → Prop) (w : World) (m : Mp) (xs : List Value), Sim R w m H → VL R w m H args xs →
      Calls P f xs.toArray w fun en w' => ∃ R' m' x, en = .returned x ∧ Far R w m H R' w' m' (e.app H) ∧ VR R' w' m' (e.app H) v x := by
  unfold callP at h
  rw [forceL_iff] at h
  obtain ⟨_, _, hn⟩ := reach_seen H 60 (pinsL args) []
  generalize reach H 60 (pinsL args) [] = imps at *
  cases hlt : allLt imps H.length with
  | false => rw [hlt] at h; exact h.elim
  | true =>
    rw [hlt] at h
    simp only [cond_true] at h
    split at h
    · rename_i as has
      obtain ⟨v, Hc, hk, hg⟩ := hT _ _ _ _ h
      exact ⟨_, _, hk, hg.fn, fun R w m xs hS hx => call_sound hS hx (hn List.nodup_nil) (allLt_get hlt) has hg⟩
    · exact h.elim

end
end Go.Proofs.Ytnbbaemijogeoaa.Ae

namespace Go.Proofs.Ytnbbaemijogeoaa.Ae
open Go
section
variable {P : Program} {R R' : Nat → Prop} {w w' : World} {m m' : Mp} {H H' : Hp} {env : Env} {a : Act}

theorem andP_iff {p : Option Prop} {q : Prop} (h : andP p q) : (∀ r, p = some r → r) ∧ q := by
  cases p with
  | none => exact ⟨fun r h => (by cases h), h⟩
  | some p => exact ⟨fun r e => (by cases e; exact h.1), h.2⟩

/-- an operation's word and what it does -/
def OpDoes (P : Program) (o : Oper) (env : Env) (H : Hp) (v : AVal) (e : Eff) : Prop :=
  ∀ (R : Nat → Prop) (w : World) (m : Mp) (a : Act), Sim R w m H → EnvR R w m H env a → gives P o a w fun x w' => ∃ R' m', Far R w m H R' w' m' (e.app H) ∧ VR R' w' m' (e.app H) v x

theorem exec_call {o : Oper} {f : Operand} {args : Array Operand} {ts : Array TypeId} {g : Nat} {xs ys : List Value} (ho : o.op = .call ⟨.value f, args, ts⟩) (hf : a.eval f = .func (.func g) xs.toArray ys.toArray)
    (hg : ∃ fn, P.funcs[g]? = some fn ∧ (fn.name == "runtime.NumGoroutine") = false ∧ fn.body.isNone = false) (w : World) :
    (execOp a.eval o).run P w = .ok (.enter g (xs ++ (args.toList.map a.eval ++ ys)).toArray) w := by
  obtain ⟨fn, h1, h2, h3⟩ := hg
  have e : xs.toArray ++ args.map a.eval ++ ys.toArray = (xs ++ (args.toList.map a.eval ++ ys)).toArray := by
    apply Array.ext'
    simp
  have h2' : ¬ fn.name = "runtime.NumGoroutine" := by simpa using h2
  have h3' : ¬ fn.body = none := fun e => by rw [e] at h3; cases h3
  rw [← e]
  simp only [execOp, ho, resolve, hf, Deferred.ofValue]
  simp [invoke, callFunc, h1, h2', h3']

theorem opP_sound {X : Cx} (hT : TSound X.P X.T) {o : Oper} {K : AVal → Eff → Prop} (h : opP X o.op env H K) : ∃ v e, K v e ∧ OpDoes X.P o env H v e := by
  have plainCase : opK (opF X.P o.op env H) K → ∃ v e, K v e ∧ OpDoes X.P o env H v e := fun h => by
    unfold opK at h
    split at h
    · rename_i p v e hop
      obtain ⟨hp, hk⟩ := andP_iff h
      rw [forceV_iff] at hk
      refine ⟨v, e, hk, fun R w m a hS hE => ?_⟩
      obtain ⟨x, w', m', hr, hs, hv⟩ := opF_sound (P := X.P) hS hE hop hp
      unfold gives
      rcases hr with hr | ⟨hr, rfl⟩
      · rw [hr]; exact ⟨R, m', hs.far, hv⟩
      · rw [hr]; exact ⟨R, m', hs.far, hv⟩
    · exact h.elim
  unfold opP at h
  split at h
  · rename_i op f args ts ho
    split at h
    · rename_i g first cap l hf hl
      obtain ⟨v, e, hk, hg, hrun⟩ := callP_sound hT h
      rw [forceV_iff] at hk
      refine ⟨v, e, hk, fun R w m a hS hE => ?_⟩
      have k1 := oper_sound hE hf
      have k2 := opers_sound hE hl
      generalize hfv : a.eval f = fv at k1
      cases k1 with
      | fn _ _ _ xs ys h1 h2 h3 h4 =>
        have hx : VL R w m H (first ++ (l ++ cap)) (xs ++ (args.toList.map a.eval ++ ys)) := VL.append ⟨h1, h2⟩ (VL.append k2 ⟨h3, h4⟩)
        unfold gives
        rw [exec_call ho hfv hg w]
        refine (hrun R w m _ hS hx).mono fun en w'' ⟨R', m', x, he, hF, hV⟩ => ⟨x, he, R', m', hF, hV⟩
    · exact h.elim
  · exact plainCase h

theorem effK_app : ∀ {e : Eff} {H : Hp} {k : Hp → Prop}, effK e H k ↔ k (e.app H) := by
  have jn : ∀ (a b : Hp) (k : Hp → Prop), joinK a b k ↔ k (a ++ b) := by
    intro a
    induction a with
    | nil => intro b k; exact Iff.rfl
    | cons x r ih => intro b k; simp only [joinK]; rw [ih]; rfl
  have hs : ∀ (l : List (Nat × ABlk)) (H : Hp) (k : Hp → Prop), hsetsK l H k ↔ k (hsets l H) := by
    intro l
    induction l with
    | nil => intro H k; exact Iff.rfl
    | cons p r ih => intro H k; obtain ⟨j, b⟩ := p; simp only [hsetsK]; rw [forceL_iff, ih]; rfl
  intro e H k
  obtain ⟨ss, ns⟩ := e
  unfold effK Eff.app
  cases ss with
  | nil => cases ns with
    | nil => simp [hsets]
    | cons n ns => simp only [hsets]; exact jn _ _ _
  | cons s ss => simp only; rw [hs]; exact jn _ _ _

theorem joinK_iff {α : Type} : ∀ {a b : List α} {k : List α → Prop}, joinK a b k ↔ k (a ++ b)
  | [], b, k => Iff.rfl
  | x :: r, b, k => by simp only [joinK]; rw [joinK_iff]; rfl

theorem putK_iff {d : Option Nat} {v : AVal} {env : Env} {k : Env → Prop} : putK d v env k ↔ k (putEnv d v env) := by
  cases d <;> exact Iff.rfl

theorem EnvR.put (hE : EnvR R w m H env a) {d : Option Nat} {v : AVal} {x : Value} (hd : dstOk a.tmps.size d = true) (hv : VR R w m H v x) : EnvR R w m H (putEnv d v env) (a.put d x) := by
  cases d with
  | none => exact hE
  | some t =>
    have ht : t < a.tmps.size := Nat.le_of_ble_eq_true hd
    intro u
    simp only [putEnv, eget]
    cases hu : Nat.beq u t with
    | true =>
      obtain rfl := Nat.eq_of_beq_eq_true hu
      have e : (a.put (some u) x).tmps.getD u undef = x := by
        rw [Array.getD_eq_getD_getElem?, put_get_eq a x u ht]; rfl
      rw [e]; exact hv
    | false =>
      have hne : some t ≠ some u := fun e => by cases e; simp [Nat.beq_refl] at hu
      rw [getD_eq (put_get_ne a (some t) x u hne)]
      exact hE u
theorem EnvR.far (s : Far R w m H R' w' m' H') (hS : Sim R w m H) (hE : EnvR R w m H env a) : EnvR R' w' m' H' env a := fun t => (hE t).far s hS

/-- the state beside the model's, since the function's start -/
structure Inv (nt : Nat) (R0 : Nat → Prop) (w0 : World) (m0 : Mp) (H0 : Hp) (a : Act) (w : World) (s : St) : Prop where
  ex : ∃ R m, Far R0 w0 m0 H0 R w m s.heap ∧ EnvR R w m s.heap s.env a
  size : a.tmps.size = nt
  nod : a.defers = []

theorem Act.put_size' (a : Act) (d : Option Tmp) (v : Value) : (a.put d v).tmps.size = a.tmps.size := by cases d <;> simp [Act.put]
theorem Act.put_defers' (a : Act) (d : Option Tmp) (v : Value) : (a.put d v).defers = a.defers := by cases d <;> rfl

theorem VR.skip : VR R w m H (.tup []) Go.undef := by
  refine VR.tup [] [] rfl (fun i v x h _ => ?_)
  simp at h
theorem yielded_none {ops : Array Oper} {a : Act} {j t : Nat} (ht : (ops[j]?).bind (·.dst) = some t) (hv : a.tmps.getD t undef = .tuple #[]) : yielded ops a.tmps j = none := by
  unfold yielded
  rw [ht]
  simp only [Option.bind_some]
  cases hx : a.tmps[t]? with
  | none => rfl
  | some x =>
    have : x = .tuple #[] := by rw [Array.getD_eq_getD_getElem?, hx] at hv; exact hv
    rw [this]
/-- an operation, or its being left out -/
def OpStep (P : Program) (ops : Array Oper) (o : Oper) (next : Act → World → Prop) (Q : Exit → Act → World → Prop) (a : Act) (w : World) : Prop :=
  if Region.wanted o (yielded ops a.tmps) then o.wp P a w next Q ∨ (o.asks P a w ∧ LetsOut Q) else next (a.put o.dst undef) w

theorem gslot_eq {ops : Array Oper} {j : Nat} : gslot ops.toList j = (ops[j]?).bind (·.dst) := by
  have : ∀ (l : List Oper) (j : Nat), gslot l j = (l[j]?).bind (·.dst) := by
    intro l
    induction l with
    | nil => intro j; simp [gslot]
    | cons o r ih => intro j; cases j with
      | zero => simp [gslot]
      | succ j => simp [gslot, ih]
  rw [this]; simp

theorem doP_sound {X : Cx} (hT : TSound X.P X.T) {o : Oper} {env : Env} {H : Hp} {K : St → Prop} (hd : dstOk X.nt o.dst = true) (h : doP X o env H K) :
    ∃ s', K s' ∧ ∀ R0 w0 m0 H0, ∀ a w, Inv X.nt R0 w0 m0 H0 a w ⟨env, H⟩ → ∀ (next : Act → World → Prop) Q, (∀ a' w', Inv X.nt R0 w0 m0 H0 a' w' s' → next a' w') → o.wp X.P a w next Q := by
  obtain ⟨v, e, hk, hdo⟩ := opP_sound hT h
  rw [effK_app, putK_iff] at hk
  refine ⟨_, hk, fun R0 w0 m0 H0 a w hI next Q hn => ?_⟩
  obtain ⟨⟨R, m, hF, hE⟩, hsz, hnd⟩ := hI
  refine gives_wp (hdo R w m a hF.sim hE) fun x w' ⟨R', m', hF', hV⟩ => hn _ _ ⟨⟨R', m', hF.trans hF', ?_⟩, by rw [Act.put_size']; exact hsz, by rw [Act.put_defers']; exact hnd⟩
  exact (hE.far hF' hF.sim).put (by rw [hsz]; exact hd) hV
theorem skipP_sound {X : Cx} {o : Oper} {env : Env} {H : Hp} {K : St → Prop} (hd : dstOk X.nt o.dst = true) (h : skipP o env H K) :
    ∃ s', K s' ∧ ∀ R0 w0 m0 H0, ∀ a w, Inv X.nt R0 w0 m0 H0 a w ⟨env, H⟩ → Inv X.nt R0 w0 m0 H0 (a.put o.dst undef) w s' := by
  unfold skipP at h
  rw [putK_iff] at h
  refine ⟨_, h, fun R0 w0 m0 H0 a w hI => ?_⟩
  obtain ⟨⟨R, m, hF, hE⟩, hsz, hnd⟩ := hI
  exact ⟨⟨R, m, hF, hE.put (by rw [hsz]; exact hd) VR.skip⟩, by rw [Act.put_size']; exact hsz, by rw [Act.put_defers']; exact hnd⟩

theorem Inv.known {nt : Nat} {R0 : Nat → Prop} {w0 : World} {m0 : Mp} {H0 : Hp} {a : Act} {w : World} {env : Env} {H : Hp} {t : Nat} {v : AVal} (h : Inv nt R0 w0 m0 H0 a w ⟨env, H⟩) (ht : eget t env = v) : Inv nt R0 w0 m0 H0 a w ⟨(t, v) :: env, H⟩ := by
  obtain ⟨⟨R, m, hF, hE⟩, hsz, hnd⟩ := h
  refine ⟨⟨R, m, hF, fun u => ?_⟩, hsz, hnd⟩
  simp only [eget]
  cases hu : Nat.beq u t with
  | true => have := Nat.eq_of_beq_eq_true hu; subst this; have := hE u; rw [ht] at this; exact this
  | false => exact hE u

theorem operP_sound {X : Cx} (hT : TSound X.P X.T) {ops : Array Oper} {o : Oper} {s : St} {K : St → Prop} (h : operP X ops.toList o s K) :
    ∃ s', K s' ∧ ∀ R0 w0 m0 H0, ∀ a w, Inv X.nt R0 w0 m0 H0 a w s → ∀ (next : Act → World → Prop) Q, (∀ a' w', Inv X.nt R0 w0 m0 H0 a' w' s' → next a' w') → OpStep X.P ops o next Q a w := by
  unfold operP at h
  cases hd : dstOk X.nt o.dst with
  | false => rw [hd] at h; exact h.elim
  | true =>
    rw [hd] at h
    simp only [cond_true] at h
    split at h
    · rename_i hg
      obtain ⟨s', hk, hs⟩ := doP_sound hT hd h
      refine ⟨s', hk, fun R0 w0 m0 H0 a w hI next Q hn => ?_⟩
      unfold OpStep
      rw [if_pos (by simp [Region.wanted, hg])]
      exact .inl (hs R0 w0 m0 H0 a w hI next Q hn)
    · rename_i j want hg
      split at h
      · rename_i t ht
        rw [gslot_eq] at ht
        split at h
        · rename_i b hb
          have hw : ∀ R0 w0 m0 H0 a w, Inv X.nt R0 w0 m0 H0 a w s → Region.wanted o (yielded ops a.tmps) = (b == want) := fun R0 w0 m0 H0 a w hI => by
            obtain ⟨⟨R, m, hF, hE⟩, hsz, hnd⟩ := hI
            have := hE t
            rw [hb] at this
            generalize hv : a.tmps.getD t undef = v at this
            cases this
            have hlt : t < a.tmps.size := by
              rcases Nat.lt_or_ge t a.tmps.size with h' | h'
              · exact h'
              · simp [Array.getD, Nat.not_lt.2 h', undef] at hv
            have hy : yielded ops a.tmps j = some b := by
              unfold yielded
              rw [ht]
              simp only [Array.getD, hlt, dif_pos] at hv
              simp [hlt]
              simp at hv
              rw [hv]
            simp [Region.wanted, hg, hy]
          obtain ⟨env, H⟩ := s
          cases b with
          | true =>
            cases want with
            | true =>
              obtain ⟨s', hk, hs⟩ := doP_sound hT hd h
              refine ⟨s', hk, fun R0 w0 m0 H0 a w hI next Q hn => ?_⟩
              unfold OpStep
              rw [if_pos (by rw [hw _ _ _ _ a w hI]; rfl)]
              exact .inl (hs R0 w0 m0 H0 a w (hI.known hb) next Q hn)
            | false =>
              obtain ⟨s', hk, hs⟩ := skipP_sound hd h
              refine ⟨s', hk, fun R0 w0 m0 H0 a w hI next Q hn => ?_⟩
              unfold OpStep
              rw [if_neg (by rw [hw _ _ _ _ a w hI]; decide)]
              exact hn _ _ (hs R0 w0 m0 H0 a w (hI.known hb))
          | false =>
            cases want with
            | true =>
              obtain ⟨s', hk, hs⟩ := skipP_sound hd h
              refine ⟨s', hk, fun R0 w0 m0 H0 a w hI next Q hn => ?_⟩
              unfold OpStep
              rw [if_neg (by rw [hw _ _ _ _ a w hI]; decide)]
              exact hn _ _ (hs R0 w0 m0 H0 a w (hI.known hb))
            | false =>
              obtain ⟨s', hk, hs⟩ := doP_sound hT hd h
              refine ⟨s', hk, fun R0 w0 m0 H0 a w hI next Q hn => ?_⟩
              unfold OpStep
              rw [if_pos (by rw [hw _ _ _ _ a w hI]; rfl)]
              exact .inl (hs R0 w0 m0 H0 a w (hI.known hb) next Q hn)
        · rename_i hb
          obtain ⟨env, H⟩ := s
          obtain ⟨s', hk, hs⟩ := skipP_sound hd h
          refine ⟨s', hk, fun R0 w0 m0 H0 a w hI next Q hn => ?_⟩
          have hI0 := hI
          obtain ⟨⟨R, m, hF, hE⟩, hsz, hnd⟩ := hI
          have hv := hE t
          rw [hb] at hv
          generalize hvv : a.tmps.getD t undef = v at hv
          have hv0 : v = .tuple #[] := by
            cases hv with
            | tup cs xs h1 h2 =>
              cases xs with
              | nil => rfl
              | cons x xs => simp at h1
          have hy := yielded_none ht (hvv.trans hv0)
          unfold OpStep
          rw [if_neg (by simp [Region.wanted, hg, hy])]
          exact hn _ _ (hs R0 w0 m0 H0 a w hI0)
        · exact h.elim
      · exact h.elim

theorem opsP_sound {X : Cx} (hT : TSound X.P X.T) {ops : Array Oper} : ∀ {l : List Oper} {s : St} {K : St → Prop}, opsP X ops.toList l s K →
    ∃ s', K s' ∧ ∀ R0 w0 m0 H0, ∀ a w, Inv X.nt R0 w0 m0 H0 a w s → ∀ Q : Exit → Act → World → Prop, (∀ a' w', Inv X.nt R0 w0 m0 H0 a' w' s' → Q .normal a' w') → wpList X.P ops Q l a w
  | [], s, K, h => ⟨s, h, fun R0 w0 m0 H0 a w hI Q hQ => hQ a w hI⟩
  | o :: r, s, K, h => by
    obtain ⟨s1, h1, hs1⟩ := operP_sound hT h
    obtain ⟨s2, h2, hs2⟩ := opsP_sound hT (l := r) h1
    refine ⟨s2, h2, fun R0 w0 m0 H0 a w hI Q hQ => ?_⟩
    exact hs1 R0 w0 m0 H0 a w hI _ Q fun a' w' hI' => hs2 R0 w0 m0 H0 a' w' hI' Q hQ

end
end Go.Proofs.Ytnbbaemijogeoaa.Ae
