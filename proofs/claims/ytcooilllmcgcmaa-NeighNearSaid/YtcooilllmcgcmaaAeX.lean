/- Drawn regions: any order. No program in sight. -/
import Derived.Test.YtcooilllmcgcmaaAeW
namespace Go.Proofs.Ytcooilllmcgcmaa.Ae
open Go
section
variable {X : Cx} {ops : Array Oper} {pss : List (List Nat)} {env0 : Env} {H : Hp}

/-- with one, all that it was run after -/
def Clo (pss : List (List Nat)) (p : Nat → Bool) (n : Nat) : Prop := ∀ i, i < n → p i = true → ∀ j ∈ nthL i pss, p j = true

theorem DOk.tail {d : Done} {D : List Done} (h : DOk X ops pss env0 H (d :: D)) : DOk X ops pss env0 H D := h.1
theorem DOk.suffix : ∀ {pre D : List Done}, DOk X ops pss env0 H (pre ++ D) → DOk X ops pss env0 H D
  | [], _, h => h
  | _ :: pre, _, h => DOk.suffix (pre := pre) h.1
theorem DOk.lt : ∀ {D : List Done}, DOk X ops pss env0 H D → ∀ d ∈ D, d.i < D.length
  | [], _, d, hd => by simp at hd
  | e :: D, h, d, hd => by
    rcases List.mem_cons.1 hd with rfl | hd
    · rw [h.2.1]; simp
    · have := DOk.lt h.1 d hd; simp; omega
theorem DOk.find : ∀ {D : List Done} {i : Nat}, DOk X ops pss env0 H D → i < D.length → ∃ pre d D', D = pre ++ d :: D' ∧ d.i = i ∧ D'.length = i
  | [], i, _, h => by simp at h
  | e :: D, i, h, hi => by
    by_cases hd : e.i = i
    · exact ⟨[], e, D, rfl, hd, by rw [← hd, h.2.1]⟩
    · have h1 := h.2.1
      simp at hi
      obtain ⟨pre, d, D', h2, h3, h4⟩ := DOk.find (i := i) h.1 (by omega)
      exact ⟨e :: pre, d, D', by rw [h2]; rfl, h3, h4⟩
theorem DOk.apart : ∀ {pre D : List Done} {d : Done}, DOk X ops pss env0 H (pre ++ d :: D) → (∀ e ∈ pre, e.i ≠ d.i) ∧ (∀ e ∈ D, e.i ≠ d.i) := by
  intro pre D d h
  have h1 := DOk.suffix h
  refine ⟨?_, fun e he => by have := DOk.lt h1.1 e he; rw [h1.2.1]; omega⟩
  induction pre with
  | nil => intro e he; simp at he
  | cons f pre ih =>
    intro e he
    rcases List.mem_cons.1 he with rfl | he
    · have h2 := h.2.1
      have h3 := DOk.lt h.1 d (by simp)
      omega
    · exact ih h.1 e he

/-- live blocks lead to live ones -/
theorem live_refs (hbase : allLt (refsBs H) H.length = true) {p : Nat → Bool} : ∀ {D : List Done}, DOk X ops pss env0 H D → Clo pss p D.length → ∀ k, hget k (mHeap p H D) ≠ .dead → ∀ j ∈ refsB (hget k (mHeap p H D)), In H.length (mHeap p H D) j
  | [], _, _, k, hk, j, hj => by
    simp only [mHeap] at hj
    exact .inl (allLt_get hbase j (refsBs_get j hj))
  | d :: D, h, hc, k, hk, j, hj => by
    have keep : ∀ j, In H.length (mHeap p H D) j → In H.length (mHeap p H (d :: D)) j := fun j h => by
      rcases h with h | h
      · exact .inl h
      · refine .inr ?_
        simp only [mHeap]; rw [hget_append_lt (hget_lt h)]; exact h
    rcases Nat.lt_or_ge k (mHeap p H D).length with hlt | hge
    · have e : hget k (mHeap p H (d :: D)) = hget k (mHeap p H D) := by simp only [mHeap]; rw [hget_append_lt hlt]
      rw [e] at hk hj
      exact keep j (live_refs hbase h.1 (fun i hi => hc i (by simp; omega)) k hk j hj)
    · have e : k = (mHeap p H D).length + (k - (mHeap p H D).length) := by omega
      rw [e, mHeap_new] at hk hj
      cases hp : p d.i with
      | false => rw [hp] at hk; exact absurd rfl hk
      | true =>
        rw [hp] at hj hk
        simp only [cond_true] at hj hk
        obtain ⟨_, hi, o, _, _, hF⟩ := h
        rcases hF with ⟨_, _, hr⟩ | ⟨_, _, hn⟩
        · rcases refsIn_get hr j (List.mem_append_right _ (refsBs_get j hj)) with h1 | h1
          · exact .inl h1
          · refine .inr ?_
            have hl : (mHeap (fun k => elemN k (nthL d.i pss)) H D).length = (mHeap p H D).length := mHeap_length _ _ _ _
            rcases Nat.lt_or_ge j (mHeap p H D).length with hjl | hjl
            · rw [hget_append_lt (by omega)] at h1
              have h2 := mHeap_live _ p H (fun d' _ hd' => hc d.i (by rw [hi]; simp) hp d'.i (elemN_iff.1 hd')) h1
              simp only [mHeap]; rw [hget_append_lt hjl, h2]; exact h1
            · have e2 : j = (mHeap p H D).length + (j - (mHeap p H D).length) := by omega
              rw [e2, ← hl, hget_append_ge] at h1
              rw [e2, mHeap_new, hp]
              rw [hl] at h1
              exact h1
        · rw [hn] at hk; simp [hget] at hk
/-- and so do values -/
theorem val_refs {p : Nat → Bool} {pre D : List Done} {d : Done} (h : DOk X ops pss env0 H (pre ++ d :: D)) (hc : Clo pss p (pre ++ d :: D).length) (hp : p d.i = true) : ∀ j ∈ refs d.v, In H.length (mHeap p H (pre ++ d :: D)) j := by
  intro j hj
  have hs := DOk.suffix h
  obtain ⟨_, hi, o, _, _, hF⟩ := hs
  rcases hF with ⟨_, _, hr⟩ | ⟨_, hv, _⟩
  · rcases refsIn_get hr j (List.mem_append_left _ hj) with h1 | h1
    · exact .inl h1
    · refine .inr ?_
      have hl : (mHeap (fun k => elemN k (nthL d.i pss)) H D).length = (mHeap p H D).length := mHeap_length _ _ _ _
      have hlt : j < (mHeap p H (d :: D)).length := by
        have := hget_lt h1
        rw [List.length_append] at this
        rw [mHeap_len_cons]; omega
      rw [(mHeap_low p H pre hlt).1]
      rcases Nat.lt_or_ge j (mHeap p H D).length with hjl | hjl
      · rw [hget_append_lt (by omega)] at h1
        have h2 := mHeap_live _ p H (fun d' _ hd' => hc d.i (by rw [hi]; simp; omega) hp d'.i (elemN_iff.1 hd')) h1
        simp only [mHeap]; rw [hget_append_lt hjl, h2]; exact h1
      · have e2 : j = (mHeap p H D).length + (j - (mHeap p H D).length) := by omega
        rw [e2, ← hl, hget_append_ge] at h1
        rw [e2, mHeap_new, hp]
        rw [hl] at h1
        exact h1
  · rw [hv] at hj; simp [refs, refsL] at hj

/-! ### the temporaries -/
def Dist (D : List Done) : Prop := ∀ d ∈ D, ∀ e ∈ D, ∀ t, d.dst = some t → e.dst = some t → d.i = e.i
theorem mEnv_no {p : Nat → Bool} {t : Nat} : ∀ {D : List Done}, (∀ d ∈ D, p d.i = true → d.dst ≠ some t) → eget t (mEnv p env0 D) = eget t env0
  | [], _ => rfl
  | d :: D, h => by
    have ih := mEnv_no (p := p) (t := t) (D := D) (fun e he => h e (List.mem_cons_of_mem _ he))
    simp only [mEnv]
    cases hp : p d.i with
    | false => exact ih
    | true =>
      simp only [cond_true]
      have := h d (List.mem_cons_self ..) hp
      cases hd : d.dst with
      | none => exact ih
      | some u =>
        simp only [putEnv, eget]
        have hne : Nat.beq t u = false := by
          cases hb : Nat.beq t u with
          | false => rfl
          | true => have := Nat.eq_of_beq_eq_true hb; subst this; exact absurd hd (h d (List.mem_cons_self ..) hp)
        rw [hne]; exact ih
theorem mEnv_own {p : Nat → Bool} {t : Nat} {d : Done} : ∀ {pre D : List Done}, (∀ e ∈ pre, e.dst ≠ some t) → p d.i = true → d.dst = some t → eget t (mEnv p env0 (pre ++ d :: D)) = d.v
  | [], D, _, hp, hd => by simp [mEnv, hp, hd, putEnv, eget, Nat.beq_refl]
  | e :: pre, D, h, hp, hd => by
    have ih := mEnv_own (p := p) (t := t) (d := d) (pre := pre) (D := D) (fun f hf => h f (List.mem_cons_of_mem _ hf)) hp hd
    simp only [List.cons_append, mEnv]
    cases hpe : p e.i with
    | false => exact ih
    | true =>
      simp only [cond_true]
      cases hde : e.dst with
      | none => exact ih
      | some u =>
        simp only [putEnv, eget]
        have hne : Nat.beq t u = false := by
          cases hb : Nat.beq t u with
          | false => rfl
          | true => have := Nat.eq_of_beq_eq_true hb; subst this; exact absurd hde (h e (List.mem_cons_self ..))
        rw [hne]; exact ih
theorem Dist.pre {pre D : List Done} {d : Done} {t : Nat} (h : Dist (pre ++ d :: D)) (ha : ∀ e ∈ pre, e.i ≠ d.i) (hd : d.dst = some t) : ∀ e ∈ pre, e.dst ≠ some t := fun e he hed =>
  ha e he (h e (List.mem_append_left _ he) d (List.mem_append_right _ (List.mem_cons_self ..)) t hed hd)
theorem Dist.suf {pre D : List Done} (h : Dist (pre ++ D)) : Dist D := fun d hd e he t => h d (List.mem_append_right _ hd) e (List.mem_append_right _ he) t

end
end Go.Proofs.Ytcooilllmcgcmaa.Ae
