/- Sources of cells, append, copy, make. No program in sight. -/
import Derived.Test.YtcooilllmcgcmaaAeH
namespace Go.Proofs.Ytcooilllmcgcmaa.Ae
open Go

def Src.av : Src → List AVal
  | .bytes l => l.map AVal.byte
  | .vals cs => cs
  | .flat cs => cs

theorem flatMap_len (f : Nat → List AVal) (sz : Nat) : ∀ n, (∀ i, i < n → (f i).length = sz) → ((List.range n).flatMap f).length = n * sz
  | 0, _ => by simp
  | n + 1, h => by
    rw [List.range_succ, List.flatMap_append, List.length_append, flatMap_len f sz n (fun i hi => h i (by omega))]
    simp [h n (by omega), Nat.add_mul]
theorem flatMap_get (f : Nat → List AVal) (sz : Nat) (hsz : 1 ≤ sz) : ∀ n, (∀ i, i < n → (f i).length = sz) → ∀ j, j < n * sz → ((List.range n).flatMap f)[j]? = (f (j / sz))[j % sz]?
  | 0, _, j, hj => by simp at hj
  | n + 1, h, j, hj => by
    have hl := flatMap_len f sz n (fun i hi => h i (by omega))
    rw [List.range_succ, List.flatMap_append]
    by_cases hlt : j < n * sz
    · rw [List.getElem?_append_left (by omega)]
      exact flatMap_get f sz hsz n (fun i hi => h i (by omega)) j hlt
    · rw [List.getElem?_append_right (by omega), hl]
      have hj2 : j < n * sz + sz := by rw [Nat.add_mul] at hj; omega
      have e1 : j / sz = n := by
        apply Nat.div_eq_of_lt_le
        · omega
        · rw [Nat.add_mul]; omega
      have e2 : j % sz = j - n * sz := by
        have := Nat.div_add_mod j sz
        rw [e1, Nat.mul_comm] at this
        omega
      rw [e1, e2]; simp

section
variable {P : Program} {R : Nat → Prop} {w : World} {m : Mp} {H : Hp} {env : Env} {a : Act}

/-- what a source is in memory -/
structure SrcR (P : Program) (R : Nat → Prop) (w : World) (m : Mp) (H : Hp) (src : Src) (n sz : Nat) (y : Value) (news : List Value) : Prop where
  len : news.length = n * sz
  one : ∀ v ∈ news, v.oneCell' = true
  vl : VL R w m H src.av news
  flat : ∀ cs, src = .flat cs → VL R w Mp.nil [] cs news
  lenOf : (Builtin.lenOf y).run P w = .ok n w
  first : (Builtin.firstCells sz n y).run P w = .ok news.toArray w
  le : n ≤ big

theorem src_sound (hS : Sim R w m H) {x : AVal} {y : Value} {src : Src} {n sz : Nat} (hx : VR R w m H x y) (h : srcOf H sz x = some src) (hn : lenF x = some n) (hsz : 1 ≤ sz) : ∃ news, SrcR P R w m H src n sz y news := by
  cases hx with
  | nilS =>
    simp [srcOf] at h; subst h
    simp [lenF] at hn; subst hn
    exact ⟨[], by simp, by simp, VL.nil, (fun cs e => by cases e), by simp [Builtin.lenOf], by simp [Builtin.firstCells], Nat.zero_le _⟩
  | str l hl =>
    simp only [srcOf] at h
    cases hb : Nat.beq sz 1 with
    | false => rw [hb] at h; cases h
    | true =>
    rw [hb] at h
    obtain rfl := Nat.eq_of_beq_eq_true hb
    simp only [cond_true, Option.some.injEq] at h; subst h
    simp [lenF] at hn; subst hn
    have hs : (⟨l.toArray⟩ : ByteArray).size = l.length := by show l.toArray.size = _; simp
    refine ⟨l.map bcell, by simp, one_bytes l, VL.of_bytes l, (fun cs e => by cases e), by simp [Builtin.lenOf, hs], ?_, hl⟩
    simp [Builtin.firstCells, bcell]
  | roB l ad c g off h1 h2 h3 h4 h5 =>
    simp only [srcOf] at h
    cases hb : Nat.beq sz 1 with
    | false => rw [hb] at h; cases h
    | true =>
    rw [hb] at h
    obtain rfl := Nat.eq_of_beq_eq_true hb
    simp only [cond_true, Option.some.injEq] at h; subst h
    simp [lenF] at hn; subst hn
    refine ⟨l.map bcell, by simp, one_bytes l, VL.of_bytes l, (fun cs e => by cases e), by simp [Builtin.lenOf], ?_, by unfold room at h3; unfold big; omega⟩
    by_cases h0 : 0 < l.length
    · obtain ⟨rfl, _⟩ := h4 h0
      exact run_firstCells_some w 1 l.length _ _ _ _ (by simp) fun j v hv => by
        rw [add_off]
        rw [List.getElem?_map] at hv
        obtain ⟨u, hu, rfl⟩ := Option.map_eq_some_iff.1 hv
        exact h5 j u hu
    · have : l = [] := List.eq_nil_of_length_eq_zero (by omega)
      subst this
      cases ad with
      | none => simp [Builtin.firstCells]
      | some ad => exact run_firstCells_some w 1 0 _ _ _ _ (by simp) fun j v hv => by simp at hv
  | ro n' sz' f ad c g off X h1 h2 h3 h4 h5 h6 h7 =>
    simp only [srcOf] at h
    cases hb : Nat.beq sz sz' with
    | false => rw [hb] at h; cases h
    | true =>
    rw [hb] at h
    obtain rfl := Nat.eq_of_beq_eq_true hb
    simp only [cond_true, Option.some.injEq] at h; subst h
    simp [lenF] at hn; subst hn
    have hget : ∀ j, j < n' * sz → ∃ v, (f (j / sz))[j % sz]? = some v ∧ j / sz < n' := fun j hj => by
      have hd : j / sz < n' := by rw [Nat.div_lt_iff_lt_mul (by omega)]; exact hj
      have : j % sz < (f (j / sz)).length := by rw [h7 _ hd]; exact Nat.mod_lt _ (by omega)
      exact ⟨_, List.getElem?_eq_getElem this, hd⟩
    have hvl : VL R w Mp.nil [] ((List.range n').flatMap f) ((List.range (n' * sz)).map fun j => X (j / sz) (j % sz)) := by
      refine ⟨by rw [flatMap_len f sz n' h7]; simp, fun j v u hv hu => ?_⟩
      have hj : j < n' * sz := by have := (List.getElem?_eq_some_iff.1 hv).1; rwa [flatMap_len f sz n' h7] at this
      rw [flatMap_get f sz hsz n' h7 j hj] at hv
      simp [hj] at hu
      subst hu
      obtain ⟨_, _, hd⟩ := hget j hj
      exact h6 _ _ v hd hv
    refine ⟨(List.range (n' * sz)).map fun j => X (j / sz) (j % sz), by simp, fun v hv => ?_, hvl.lift, fun cs e => by cases e; exact hvl, by simp [Builtin.lenOf], ?_, by unfold room at h3; unfold big; omega⟩
    · obtain ⟨j, hj, rfl⟩ := List.mem_map.1 hv
      obtain ⟨u, hu, hd⟩ := hget j (by simpa using hj)
      exact (h5 _ _ u hd hu).2
    · by_cases h0 : 0 < n'
      · obtain ⟨rfl, _⟩ := h4 h0
        refine run_firstCells_some w sz n' _ _ _ _ (by simp) fun j v hv => ?_
        have hj : j < n' * sz := by have := (List.getElem?_eq_some_iff.1 hv).1; simpa using this
        simp [hj] at hv
        subst hv
        obtain ⟨u, hu, hd⟩ := hget j hj
        rw [add_off]
        have := (h5 _ _ u hd hu).1
        rw [Nat.add_assoc, Nat.mul_comm, Nat.div_add_mod] at this
        exact this
      · have : n' = 0 := by omega
        subst this
        cases ad with
        | none => simp [Builtin.firstCells]
        | some ad => exact run_firstCells_some w sz 0 _ _ _ _ (by simp) fun j v hv => by simp at hv
  | sl b off len sz' ad c h1 h2 h3 h4 h5 h6 =>
    simp only [srcOf] at h
    cases hb : Nat.beq sz sz' with
    | false => rw [hb] at h; cases h
    | true =>
    rw [hb] at h
    obtain rfl := Nat.eq_of_beq_eq_true hb
    simp only [cond_true] at h
    simp [lenF] at hn; subst hn
    have hbig : len ≤ big := by unfold room at h3; unfold big; omega
    have hlen : (Builtin.lenOf (.slice ad len c)).run P w = .ok len w := by simp [Builtin.lenOf]
    have fin : hget b H ≠ .dead → src.av = ((hget b H).av.drop off).take (len * sz) → off + len * sz ≤ (hget b H).len → (∀ cs, src = .flat cs → ∃ ds, hget b H = .flat ds ∧ cs = (ds.drop off).take (len * sz)) → ∃ news, SrcR P R w m H src len sz (.slice ad len c) news := by
      intro hlive hav hle hfl
      by_cases hc0 : 0 < c
      · obtain ⟨g, nn, e1, rfl, _, _⟩ := h5 hc0
        obtain ⟨xs, e, fr, q1, q2, q3, q4, ys, r, hys, hvl⟩ := hS.cells hlive e1
        have hyl : (hget b H).len = ys.length := by rw [← av_len]; exact hvl.1
        refine ⟨(ys.drop off).take (len * sz), by simp; omega, fun v hv => q3 v (by rw [hys]; exact List.mem_append_left _ (List.mem_of_mem_drop (List.mem_of_mem_take hv))), by rw [hav]; exact (hvl.drop off).take _, fun cs hcs => ?_, hlen, ?_, hbig⟩
        · obtain ⟨ds, hd, rfl⟩ := hfl cs hcs
          rw [hd] at q4 hyl
          obtain ⟨ys', r', hys', hvl'⟩ := q4
          have : ys = ys' := by
            have e : ys ++ r = ys' ++ r' := by rw [← hys, ← hys']
            exact (List.append_inj e (by rw [← hyl, ← hvl'.1]; rfl)).1
          rw [this]
          exact (hvl'.drop off).take _
        · refine run_firstCells_some w sz len _ _ _ _ (by simp; omega) fun j v hv => ?_
          rw [add_off, cell_of q1, hys]
          rw [List.getElem?_take] at hv
          split at hv
          · rw [List.getElem?_drop] at hv
            rw [List.getElem?_append_left (List.getElem?_eq_some_iff.1 hv).1]; exact hv
          · cases hv
      · have hl0 : len = 0 := by omega
        subst hl0
        refine ⟨[], by simp, by simp, ?_, fun cs hcs => ?_, hlen, ?_, hbig⟩
        · rw [hav]; simp; exact VL.nil
        · obtain ⟨ds, hd, rfl⟩ := hfl cs hcs
          simp; exact VL.nil
        · cases ad with
          | none => simp [Builtin.firstCells]
          | some ad => exact run_firstCells_some w sz 0 _ _ _ _ (by simp) fun j v hv => by simp at hv
    cases hbk : hget b H with
    | dead => rw [hbk] at h; cases h
    | bytes l =>
      rw [hbk] at h
      cases hb1 : Nat.beq sz 1 with
      | false => simp only [hb1] at h; cases h
      | true =>
      simp only [hb1, cond_true, Option.some.injEq] at h; subst h
      obtain rfl := Nat.eq_of_beq_eq_true hb1
      exact fin (by rw [hbk]; simp) (by rw [hbk]; simp [Src.av, ABlk.av, List.map_take, List.map_drop]) (h6.resolve_left (by rw [hbk]; simp)) (fun cs e => by cases e)
    | vals cs =>
      rw [hbk] at h
      simp only at h
      split at h
      · rename_i r hr
        cases h
        obtain ⟨rfl, hle⟩ := partN_eq hr
        exact fin (by rw [hbk]; simp) (by rw [hbk]; rfl) (by rw [hbk]; exact hle) (fun cs e => by cases e)
      · cases h
    | flat cs =>
      rw [hbk] at h
      simp only [Option.some.injEq] at h; subst h
      exact fin (by rw [hbk]; simp) (by rw [hbk]; rfl) (h6.resolve_left (by rw [hbk]; simp)) (fun ds e => by cases e; exact ⟨cs, hbk, rfl⟩)
  | _ => simp [srcOf] at h
end
end Go.Proofs.Ytcooilllmcgcmaa.Ae
