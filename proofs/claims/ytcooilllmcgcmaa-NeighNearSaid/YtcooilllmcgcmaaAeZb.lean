/- Drawn regions in which what changes memory comes up one behind the other: any order that may be drawn. No program in sight. -/
import Derived.Test.YtcooilllmcgcmaaAeZa
namespace Go.Proofs.Ytcooilllmcgcmaa.Ae
open Go

section
variable {X : Cx} {ops : Array Oper} {pr : List (List Nat)} {Q : Exit → Act → World → Prop}

structure FactsC (ops : Array Oper) (nb n : Nat) : Prop where
  le : nb ≤ ops.size
  op : ∀ i, i < nb → ∃ o, ops[i]? = some o ∧ (∀ d, o.dst = some d → d < n ∧ ∀ j, j < i → dstOf ops j ≠ some d) ∧ (∀ j b, o.guard = some (j, b) → (dstOf ops j).isSome = true) ∧ (∀ e ∈ o.after, Region.binds .any e = true → e.on < i)
  tail : ∀ i o, nb ≤ i → ops[i]? = some o → ∀ L : Nat → Prop, (∀ j, waits o j = true → L j) → (∀ k o', k < nb → L k → ops[k]? = some o' → ∀ j, waits o' j = true → L j) → ∀ j, j < nb → L j
theorem factsC_of {nb n : Nat} (h : factsOkC ops nb n = true) : FactsC ops nb n := by
  unfold factsOkC at h
  simp only [Bool.and_eq_true, decide_eq_true_eq, List.all_eq_true, List.mem_range] at h
  obtain ⟨⟨h1, h2⟩, h3⟩ := h
  refine ⟨h1, fun i hi => ?_, fun i o hi ho L hL hc j hj => ?_⟩
  · have h4 := h2 i hi
    cases ho : ops[i]? with
    | none => rw [ho] at h4; simp at h4
    | some o =>
      rw [ho] at h4
      simp only [Bool.and_eq_true] at h4
      obtain ⟨⟨h5, h6⟩, h7⟩ := h4
      refine ⟨o, rfl, fun d hd => ?_, fun j b hg => ?_, fun e he hb => ?_⟩
      · rw [hd] at h5
        simp only [Bool.and_eq_true, decide_eq_true_eq, List.all_eq_true, List.mem_range] at h5
        exact ⟨h5.1, fun j hj e => by have := h5.2 j hj; rw [e] at this; simp at this⟩
      · rw [hg] at h6; exact h6
      · obtain ⟨q, hq, he'⟩ := Array.mem_iff_getElem.1 he
        have := Array.all_eq_true.1 h7 q hq
        rw [he', hb] at this
        simpa using this
  · have hlt : i < ops.size := (Array.getElem?_eq_some_iff.1 ho).1
    have h4 := h3 (i - nb) (by omega)
    rw [show nb + (i - nb) = i from by omega, ho] at h4
    simp only [List.all_eq_true, List.mem_range] at h4
    exact clos_sub L hc nb (Nat.le_refl _) _ (fun q hq => hL q (onsOf_iff.1 hq)) j (by simpa using h4 j hj)

open Classical in
/-- any order: what an operation does, if all are run that it waits for, is enough -/
theorem any_gen {nb nt : Nat} {A : (Nat → Bool) → Act → World → Prop} (hf : FactsC ops nb nt) (hseq : seqTail ops nb = true)
    (hpre : ∀ i, i < nb → ∃ o, ops[i]? = some o ∧ ∀ j ∈ nthL i pr, j ∈ clos ops i (onsOf o))
    (hstep : ∀ (p p' : Nat → Bool) (i : Nat) (o : Oper) (a : Act) (w : World), i < nb → ops[i]? = some o → Clo pr p nb → p i = false → (∀ j ∈ nthL i pr, p j = true) → p' i = true → (∀ k, k ≠ i → p' k = p k) → a.tmps.size = nt → A p a w →
      (Region.wanted o (yielded ops a.tmps) = true ∧ gives X.P o a w fun x w' => A p' (a.put o.dst x) w') ∨ (Region.wanted o (yielded ops a.tmps) = false ∧ A p' (a.put o.dst undef) w))
    (hend : ∀ a w, A (fun k => decide (k < nb)) a w → a.tmps.size = nt → a.defers = [] → wpList X.P ops Q (ops.toList.drop nb) a w) :
    ∀ (m : Nat) (listed : Array Bool) (a : Act) (w : World), A (fun k => listed.getD k false) a w → a.tmps.size = nt → a.defers = [] → listed.size = ops.size → (∀ i, nb ≤ i → listed.getD i false = false) →
      (∀ k o, k < nb → listed.getD k false = true → ops[k]? = some o → ∀ j, waits o j = true → listed.getD j false = true) → ((List.range nb).filter fun i => !listed.getD i false).length = m →
      wpAny X.P .any ops Q (m + (ops.size - nb)) listed a w := by
  intro m
  induction m with
  | zero =>
    intro listed a w hA hsz hnod hls htail hcl hm
    have hall : ∀ i, i < nb → listed.getD i false = true := by
      intro i hi
      have : ((List.range nb).filter fun i => !listed.getD i false) = [] := List.length_eq_zero_iff.1 hm
      have h1 := List.filter_eq_nil_iff.1 this i (List.mem_range.2 hi)
      simpa using h1
    have hli : listed = listedTo ops.size nb := by
      apply Array.ext
      · simp [listedTo, hls]
      · intro i h1 h2
        simp only [listedTo, List.getElem_toArray, List.getElem_map, List.getElem_range]
        by_cases h : i < nb
        · have := hall i h
          simp [h1] at this
          simp [this, h]
        · have := htail i (by omega)
          simp [h1] at this
          simp [this, h]
    have hp : (fun k => listed.getD k false) = fun k => decide (k < nb) := by
      funext k
      by_cases h : k < nb
      · rw [hall k h]; simp [h]
      · rw [htail k (by omega)]; simp [h]
    rw [Nat.zero_add, hli]
    refine any_of_seq _ nb (by have := hf.le; omega) hseq a w (hend a w ?_ hsz hnod)
    rw [hp] at hA; exact hA
  | succ m ih =>
    intro listed a w hA hsz hnod hls htail hcl hm
    have hex : ∃ i, i < nb ∧ listed.getD i false = false := by
      cases hF : ((List.range nb).filter fun i => !listed.getD i false) with
      | nil => rw [hF] at hm; simp at hm
      | cons x r =>
        have : x ∈ ((List.range nb).filter fun i => !listed.getD i false) := by rw [hF]; exact List.mem_cons_self ..
        rw [List.mem_filter, List.mem_range] at this
        exact ⟨x, this.1, by simpa using this.2⟩
    obtain ⟨i0, hi0, hmin⟩ : ∃ i, (i < nb ∧ listed.getD i false = false) ∧ ∀ j, j < i → ¬ (j < nb ∧ listed.getD j false = false) := by
      obtain ⟨i, hi⟩ := hex
      induction i using Nat.strongRecOn with
      | _ i ihh =>
        by_cases h : ∃ j, j < i ∧ (j < nb ∧ listed.getD j false = false)
        · obtain ⟨j, hj, hj2⟩ := h
          exact ihh j hj hj2
        · exact ⟨i, hi, fun j hj hj2 => h ⟨j, hj, hj2⟩⟩
    have getD_tf : ∀ i, i < ops.size → listed.getD i true = listed.getD i false := fun i hi => by
      have : i < listed.size := by rw [hls]; exact hi
      simp [this]
    have hready0 : i0 ∈ Region.ready .any ops listed := by
      obtain ⟨o, ho, _, _, haf⟩ := hf.op i0 hi0.1
      refine mem_ready.2 ⟨by rw [getD_tf i0 (by have := hf.le; omega)]; exact hi0.2, o, ho, fun e he hb => ?_⟩
      have h1 := haf e he hb
      have h2 := hmin e.on h1
      cases h3 : listed.getD e.on false with
      | true => rfl
      | false => exact absurd ⟨by omega, h3⟩ h2
    rw [show m + 1 + (ops.size - nb) = (m + (ops.size - nb)) + 1 from by omega]
    refine ⟨fun h => (by rw [h] at hready0; cases hready0), fun i hi => ?_⟩
    obtain ⟨hiun, o, ho, hprem⟩ := mem_ready.1 hi
    have hisz : i < ops.size := (Array.getElem?_eq_some_iff.1 ho).1
    have hinb : i < nb := by
      by_cases h : i < nb
      · exact h
      · have := hf.tail i o (by omega) ho (fun j => listed.getD j false = true) (fun j hj => by
          obtain ⟨e, he, he1, he2⟩ := waits_iff.1 hj
          subst he1; exact hprem e he he2) hcl i0 hi0.1
        rw [hi0.2] at this
        cases this
    have hwl : ∀ j, waits o j = true → listed.getD j false = true := fun j hj => by
      obtain ⟨e, he, he1, he2⟩ := waits_iff.1 hj
      subst he1; exact hprem e he he2
    have hpin : ∀ i o, i < nb → ops[i]? = some o → (∀ j, waits o j = true → listed.getD j false = true) → ∀ j ∈ nthL i pr, listed.getD j false = true := fun i o hi ho hw j hj => by
      obtain ⟨o', ho', h1⟩ := hpre i hi
      rw [ho] at ho'; cases ho'
      exact clos_sub (nb := nb) (fun j => listed.getD j false = true) hcl i (by omega) _ (fun q hq => hw q (onsOf_iff.1 hq)) j (h1 j hj)
    have hclo : Clo pr (fun k => listed.getD k false) nb := fun k hk hkl j hj => by
      obtain ⟨o', ho', _⟩ := hpre k hk
      exact hpin k o' hk ho' (fun j hj => hcl k o' hk hkl ho' j hj) j hj
    have hil : i < listed.size := by rw [hls]; exact hisz
    have hif : listed.getD i false = false := by rw [← getD_tf i hisz]; exact hiun
    have hset : ∀ j, (listed.setIfInBounds i true).getD j false = if j = i then true else listed.getD j false := fun j => by
      by_cases e : j = i
      · subst e; simp [hil]
      · rw [if_neg e, getD_set_ne false (Ne.symm e)]
    have hnext : ∀ a' w', A (fun k => (listed.setIfInBounds i true).getD k false) a' w' → a'.tmps.size = nt → a'.defers = [] → wpAny X.P .any ops Q (m + (ops.size - nb)) (listed.setIfInBounds i true) a' w' := by
      intro a' w' hA hs hn
      refine ih _ _ _ hA hs hn (by simp [hls]) (fun j hj => ?_) (fun k ok hk hkl hok j hj => ?_) ?_
      · rw [hset, if_neg (by omega)]; exact htail j hj
      · rw [hset] at hkl ⊢
        by_cases e : j = i
        · rw [if_pos e]
        · rw [if_neg e]
          by_cases e2 : k = i
          · subst e2
            rw [ho] at hok; cases hok
            exact hwl j hj
          · rw [if_neg e2] at hkl
            exact hcl k ok hk hkl hok j hj
      · have h1 : ((List.range nb).filter fun k => !(listed.setIfInBounds i true).getD k false) = ((List.range nb).filter fun k => !listed.getD k false).erase i := by
          rw [List.Nodup.erase_eq_filter (List.Nodup.sublist List.filter_sublist List.nodup_range), List.filter_filter]
          apply List.filter_congr
          intro k _
          rw [hset]
          by_cases e : k = i
          · subst e; simp
          · simp [e]
        rw [h1, List.length_erase_of_mem (List.mem_filter.2 ⟨List.mem_range.2 hinb, by rw [hif]; rfl⟩), hm]
        rfl
    have hst := hstep (fun k => listed.getD k false) (fun k => (listed.setIfInBounds i true).getD k false) i o a w hinb ho hclo hif (fun j hj => hpin i o hinb ho hwl j hj)
      (by show (listed.setIfInBounds i true).getD i false = true; rw [hset, if_pos rfl]) (fun k hk => by show (listed.setIfInBounds i true).getD k false = _; rw [hset, if_neg hk]) hsz hA
    unfold wpOp
    rw [ho]
    simp only
    rcases hst with ⟨hW, hg⟩ | ⟨hW, hA⟩
    · rw [if_pos hW]
      left
      exact gives_wp hg fun x w' hA => hnext _ _ hA (by rw [Act.put_size']; exact hsz) (by rw [Act.put_defers']; exact hnod)
    · rw [if_neg (by rw [hW]; decide)]
      exact hnext _ _ hA (by rw [Act.put_size']; exact hsz) (by rw [Act.put_defers']; exact hnod)
end

section
variable {P : Program} {R R' : Nat → Prop} {w w' : World} {m m' : Mp} {H H' : Hp} {env : Env} {a : Act}

theorem opDoes_of {o : Oper} {p : Option Prop} {v : AVal} {e : Eff} (hop : opF P o.op env H = some ⟨p, v, e⟩) (hp : ∀ q, p = some q → q) : OpDoes P o env H v e := fun R w m a hS hE => by
  obtain ⟨x, w', m', hr, hs, hv⟩ := opF_sound (P := P) hS hE hop hp
  unfold gives
  rcases hr with hr | ⟨hr, rfl⟩
  · rw [hr]; exact ⟨R, m', hs.far, hv⟩
  · rw [hr]; exact ⟨R, m', hs.far, hv⟩

theorem operRefs_lt (hS : Sim R w m H) (hE : EnvR R w m H env a) {x : Operand} {k : Nat} : (k ∈ operRefs refs1 env x → k < H.length) ∧ (k ∈ operRefs refP env x → k < H.length) := by
  have pt : ∀ b o y, VR R w m H (.ptr b o) y → b < H.length := fun b o y h => by
    cases h with
    | ptr _ _ g hm =>
      rcases Nat.lt_or_ge b H.length with h | h
      · exact h
      · rw [hS.out b h] at hm; cases hm
  unfold operRefs
  cases ho : oper env x with
  | none => exact ⟨fun h => by simp at h, fun h => by simp at h⟩
  | some v =>
    have hv := oper_sound hE ho
    simp only
    constructor
    · intro h
      cases v with
      | sl b off len sz =>
        simp only [refs1, List.mem_singleton] at h; subst h
        generalize a.eval x = y at hv
        cases hv with
        | sl _ _ _ _ _ _ _ _ _ h4 _ _ => exact h4
      | ptr b off => simp only [refs1, List.mem_singleton] at h; subst h; exact pt _ _ _ hv
      | _ => simp [refs1] at h
    · intro h
      cases v with
      | ptr b off => simp only [refP, List.mem_singleton] at h; subst h; exact pt _ _ _ hv
      | _ => simp [refP] at h
theorem readRefs_lt (hS : Sim R w m H) (hE : EnvR R w m H env a) {op : Op} {l : List Nat} (h : readRefs env op = some l) : ∀ k ∈ l, k < H.length := by
  intro k hk
  unfold readRefs at h
  split at h <;> first
    | (cases h; simp at hk; done)
    | (cases h; exact (operRefs_lt hS hE).1 hk)
    | (cases h; exact (operRefs_lt hS hE).2 hk)
    | (split at h <;> first | (cases h; simp at hk; done) | cases h)
    | cases h
end
end Go.Proofs.Ytcooilllmcgcmaa.Ae
