/- Drawn regions: the theorem. No program in sight. Drawn regions in which what changes memory comes up one behind the other. No program in sight. Drawn regions in which what changes memory comes up one behind the other: any order that may be drawn. No program in sight. -/
import Derived.Test.YtnbbaemijogeoaaAeU
namespace Go.Proofs.Ytnbbaemijogeoaa.Ae
open Go
section
variable {X : Cx} {ops : Array Oper} {pss : List (List Nat)}

theorem refsE_get {t : Nat} : ∀ {env : Env}, ∀ j ∈ refs (eget t env), j ∈ refsE env
  | [], j, h => by simp [eget, refs] at h
  | (u, v) :: r, j, h => by
    simp only [eget] at h
    simp only [refsE, List.mem_append]
    cases hb : Nat.beq t u with
    | true => rw [hb] at h; exact .inl h
    | false => rw [hb] at h; exact .inr (refsE_get (env := r) j h)
theorem undefs_get {env : Env} {t : Nat} : ∀ (l : List Oper), (eget t (undefs l env) = .undef ∧ ∃ o ∈ l, o.dst = some t) ∨ (eget t (undefs l env) = eget t env ∧ ∀ o ∈ l, o.dst ≠ some t)
  | [] => .inr ⟨rfl, fun o h => by simp at h⟩
  | o :: r => by
    simp only [undefs]
    cases hd : o.dst with
    | none =>
      rcases undefs_get (env := env) (t := t) r with ⟨h1, o', h2, h3⟩ | ⟨h1, h2⟩
      · exact .inl ⟨h1, o', List.mem_cons_of_mem _ h2, h3⟩
      · exact .inr ⟨h1, fun o' ho' => by
          rcases List.mem_cons.1 ho' with rfl | ho'
          · rw [hd]; simp
          · exact h2 o' ho'⟩
    | some u =>
      simp only [putEnv, eget]
      cases hb : Nat.beq t u with
      | true => have := Nat.eq_of_beq_eq_true hb; subst this; exact .inl ⟨rfl, o, List.mem_cons_self .., hd⟩
      | false =>
        have hne : t ≠ u := fun e => by subst e; simp [Nat.beq_refl] at hb
        rcases undefs_get (env := env) (t := t) r with ⟨h1, o', h2, h3⟩ | ⟨h1, h2⟩
        · exact .inl ⟨h1, o', List.mem_cons_of_mem _ h2, h3⟩
        · exact .inr ⟨h1, fun o' ho' => by
            rcases List.mem_cons.1 ho' with rfl | ho'
            · rw [hd]; simp; exact fun e => hne e.symm
            · exact h2 o' ho'⟩
theorem undefsX_get {i t : Nat} {env : Env} : ∀ (l : List Oper) (pss : List (List Nat)), (eget t (undefsX i l pss env) = .undef ∧ ∃ (j : Nat) (o : Oper), l[j]? = some o ∧ o.dst = some t) ∨
    (eget t (undefsX i l pss env) = eget t env ∧ ∀ (j : Nat) (o : Oper), l[j]? = some o → o.dst = some t → i ∈ nthL j pss)
  | [], _ => .inr ⟨rfl, fun j o h => by simp at h⟩
  | o :: r, pss => by
    have put : ∀ (qs : List (List Nat)), (eget t (undefsX i r qs env) = .undef ∧ ∃ (j : Nat) (o : Oper), r[j]? = some o ∧ o.dst = some t) ∨ (eget t (undefsX i r qs env) = eget t env ∧ ∀ (j : Nat) (o : Oper), r[j]? = some o → o.dst = some t → i ∈ nthL j qs) →
        (eget t (putEnv o.dst .undef (undefsX i r qs env)) = .undef ∧ ∃ (j : Nat) (o' : Oper), (o :: r)[j]? = some o' ∧ o'.dst = some t) ∨ (o.dst ≠ some t ∧ eget t (putEnv o.dst .undef (undefsX i r qs env)) = eget t (undefsX i r qs env)) := fun qs _ => by
      by_cases h : o.dst = some t
      · left
        rw [h]
        exact ⟨by simp [putEnv, eget], 0, o, rfl, h⟩
      · right
        refine ⟨h, ?_⟩
        cases hd : o.dst with
        | none => rfl
        | some u =>
          have hu : t ≠ u := fun e => h (by rw [hd, e])
          simp only [putEnv, eget]
          have : Nat.beq t u = false := by cases hb : Nat.beq t u with
            | true => exact absurd (Nat.eq_of_beq_eq_true hb) hu
            | false => rfl
          rw [this]; rfl
    cases pss with
    | nil =>
      have ih := undefsX_get (i := i) (t := t) (env := env) r []
      show (eget t (putEnv o.dst .undef (undefsX i r [] env)) = .undef ∧ _) ∨ (eget t (putEnv o.dst .undef (undefsX i r [] env)) = eget t env ∧ _)
      rcases put [] ih with h | ⟨h1, h2⟩
      · exact .inl h
      · rw [h2]
        rcases ih with ⟨g, j, o', g1, g2⟩ | ⟨g, g1⟩
        · exact .inl ⟨g, j + 1, o', by simpa using g1, g2⟩
        · refine .inr ⟨g, fun j o' hj hd => ?_⟩
          cases j with
          | zero => simp at hj; subst hj; exact absurd hd h1
          | succ j => have := g1 j o' (by simpa using hj) hd; simp [nthL] at this
    | cons ps pss =>
      have ih := undefsX_get (i := i) (t := t) (env := env) r pss
      show (eget t (cond (elemN i ps) (undefsX i r pss env) (putEnv o.dst .undef (undefsX i r pss env))) = .undef ∧ _) ∨ (eget t (cond (elemN i ps) (undefsX i r pss env) (putEnv o.dst .undef (undefsX i r pss env))) = eget t env ∧ _)
      cases he : elemN i ps with
      | true =>
        simp only [cond_true]
        rcases ih with ⟨g, j, o', g1, g2⟩ | ⟨g, g1⟩
        · exact .inl ⟨g, j + 1, o', by simpa using g1, g2⟩
        · refine .inr ⟨g, fun j o' hj hd => ?_⟩
          cases j with
          | zero => exact elemN_iff.1 he
          | succ j => exact g1 j o' (by simpa using hj) hd
      | false =>
        simp only [cond_false]
        rcases put pss ih with h | ⟨h1, h2⟩
        · exact .inl h
        · rw [h2]
          rcases ih with ⟨g, j, o', g1, g2⟩ | ⟨g, g1⟩
          · exact .inl ⟨g, j + 1, o', by simpa using g1, g2⟩
          · refine .inr ⟨g, fun j o' hj hd => ?_⟩
            cases j with
            | zero => simp at hj; subst hj; exact absurd hd h1
            | succ j => exact g1 j o' (by simpa using hj) hd
theorem predsTrans_get {all : List (List Nat)} : ∀ {l : List (List Nat)} {i : Nat}, predsTrans all i l = true → ∀ q, q < l.length → ∀ j ∈ nthL q l, j < i + q ∧ ∀ k ∈ nthL j all, k ∈ nthL q l
  | [], i, _, q, hq => by simp at hq
  | ps :: r, i, h, q, hq => by
    simp only [predsTrans, Bool.and_eq_true] at h
    cases q with
    | zero =>
      intro j hj
      exact ⟨allLt_get h.1.1 j hj, subL_get (List.all_eq_true.1 h.1.2 j hj)⟩
    | succ q =>
      intro j hj
      obtain ⟨h1, h2⟩ := predsTrans_get h.2 q (by simpa using hq) j hj
      exact ⟨by omega, h2⟩
theorem predsOk_get : ∀ {l : List (List Nat)} {i : Nat}, predsOk ops i l = true → ∀ q, q < l.length → ∃ o, ops[i + q]? = some o ∧ ∀ j ∈ nthL q l, j ∈ clos ops (i + q) (onsOf o)
  | [], i, _, q, hq => by simp at hq
  | ps :: r, i, h, q, hq => by
    simp only [predsOk, Bool.and_eq_true] at h
    cases q with
    | zero =>
      have h1 := h.1
      split at h1
      · rename_i o ho
        exact ⟨o, ho, fun j hj => elemN_iff.1 (List.all_eq_true.1 h1 j hj)⟩
      · cases h1
    | succ q =>
      obtain ⟨o, h1, h2⟩ := predsOk_get h.2 q (by simpa using hq)
      exact ⟨o, by rw [← h1]; congr 1; omega, by rw [show i + (q + 1) = i + 1 + q by omega]; exact h2⟩

structure DInv (X : Cx) (ops : Array Oper) (R1 : Nat → Prop) (w1 : World) (m1 : Mp) (H : Hp) (env0 : Env) (Df : List Done) (listed : Array Bool) (a : Act) (w : World) : Prop where
  st : At R1 w1 m1 H env0 Df (fun k => listed.getD k false) a w
  size : a.tmps.size = X.nt
  nod : a.defers = []
  lsize : listed.size = ops.size
  tail : ∀ i, Df.length ≤ i → listed.getD i false = false
  closed : ∀ k o, k < Df.length → listed.getD k false = true → ops[k]? = some o → ∀ j, waits o j = true → listed.getD j false = true

open Classical in
theorem any_of_done {env0 : Env} {H : Hp} {Df : List Done} {R1 : Nat → Prop} {w1 : World} {m1 : Mp} {Q : Exit → Act → World → Prop} (hf : Facts ops Df.length X.nt) (hseq : seqTail ops Df.length = true) (r : Ran X ops pss env0 H Df)
    (hpre : ∀ i, i < Df.length → ∃ o, ops[i]? = some o ∧ ∀ j ∈ nthL i pss, j ∈ clos ops i (onsOf o))
    (hend : ∀ a w, At R1 w1 m1 H env0 Df (fun k => decide (k < Df.length)) a w → a.tmps.size = X.nt → a.defers = [] → wpList X.P ops Q (ops.toList.drop Df.length) a w) :
    ∀ (m : Nat) (listed : Array Bool) (a : Act) (w : World), DInv X ops R1 w1 m1 H env0 Df listed a w → ((List.range Df.length).filter fun i => !listed.getD i false).length = m →
      wpAny X.P .any ops Q (m + (ops.size - Df.length)) listed a w := by
  intro m
  induction m with
  | zero =>
    intro listed a w hI hm
    have hall : ∀ i, i < Df.length → listed.getD i false = true := by
      intro i hi
      have : ((List.range Df.length).filter fun i => !listed.getD i false) = [] := List.length_eq_zero_iff.1 hm
      have h1 := List.filter_eq_nil_iff.1 this i (List.mem_range.2 hi)
      simpa using h1
    have hli : listed = listedTo ops.size Df.length := by
      apply Array.ext
      · simp [listedTo, hI.lsize]
      · intro i h1 h2
        simp only [listedTo, List.getElem_toArray, List.getElem_map, List.getElem_range]
        by_cases h : i < Df.length
        · have := hall i h
          simp [h1] at this
          simp [this, h]
        · have := hI.tail i (by omega)
          simp [h1] at this
          simp [this, h]
    have hp : (fun k => listed.getD k false) = fun k => decide (k < Df.length) := by
      funext k
      by_cases h : k < Df.length
      · rw [hall k h]; simp [h]
      · rw [hI.tail k (by omega)]; simp [h]
    rw [Nat.zero_add, hli]
    refine any_of_seq _ Df.length (by have := hf.le; omega) hseq a w (hend a w ?_ hI.size hI.nod)
    have := hI.st
    rw [hp] at this; exact this
  | succ m ih =>
    intro listed a w hI hm
    have hex : ∃ i, i < Df.length ∧ listed.getD i false = false := by
      cases hF : ((List.range Df.length).filter fun i => !listed.getD i false) with
      | nil => rw [hF] at hm; simp at hm
      | cons x r =>
        have : x ∈ ((List.range Df.length).filter fun i => !listed.getD i false) := by rw [hF]; exact List.mem_cons_self ..
        rw [List.mem_filter, List.mem_range] at this
        exact ⟨x, this.1, by simpa using this.2⟩
    obtain ⟨i0, hi0, hmin⟩ : ∃ i, (i < Df.length ∧ listed.getD i false = false) ∧ ∀ j, j < i → ¬ (j < Df.length ∧ listed.getD j false = false) := by
      obtain ⟨i, hi⟩ := hex
      induction i using Nat.strongRecOn with
      | _ i ihh =>
        by_cases h : ∃ j, j < i ∧ (j < Df.length ∧ listed.getD j false = false)
        · obtain ⟨j, hj, hj2⟩ := h
          exact ihh j hj hj2
        · exact ⟨i, hi, fun j hj hj2 => h ⟨j, hj, hj2⟩⟩
    have getD_tf : ∀ i, i < ops.size → listed.getD i true = listed.getD i false := fun i hi => by
      have : i < listed.size := by rw [hI.lsize]; exact hi
      simp [this]
    have hready0 : i0 ∈ Region.ready .any ops listed := by
      obtain ⟨o, d, ho, _, _, _, _, _, haf⟩ := hf.op i0 hi0.1
      refine mem_ready.2 ⟨by rw [getD_tf i0 (by have := hf.le; omega)]; exact hi0.2, o, ho, fun e he hb => ?_⟩
      have h1 := haf e he hb
      have h2 := hmin e.on h1
      cases h3 : listed.getD e.on false with
      | true => rfl
      | false => exact absurd ⟨by omega, h3⟩ h2
    rw [show m + 1 + (ops.size - Df.length) = (m + (ops.size - Df.length)) + 1 from by omega]
    refine ⟨fun h => (by rw [h] at hready0; cases hready0), fun i hi => ?_⟩
    obtain ⟨hiun, o, ho, hprem⟩ := mem_ready.1 hi
    have hisz : i < ops.size := (Array.getElem?_eq_some_iff.1 ho).1
    have hinb : i < Df.length := by
      by_cases h : i < Df.length
      · exact h
      · have := hf.tail i o (by omega) ho (fun j => listed.getD j false = true) (fun j hj => by
          obtain ⟨e, he, he1, he2⟩ := waits_iff.1 hj
          subst he1; exact hprem e he he2) hI.closed i0 hi0.1
        rw [hi0.2] at this
        cases this
    have hwl : ∀ j, waits o j = true → listed.getD j false = true := fun j hj => by
      obtain ⟨e, he, he1, he2⟩ := waits_iff.1 hj
      subst he1; exact hprem e he he2
    have hpin : ∀ i o, i < Df.length → ops[i]? = some o → (∀ j, waits o j = true → listed.getD j false = true) → ∀ j ∈ nthL i pss, listed.getD j false = true := fun i o hi ho hw j hj => by
      obtain ⟨o', ho', h1⟩ := hpre i hi
      rw [ho] at ho'; cases ho'
      exact clos_sub (nb := Df.length) (fun j => listed.getD j false = true) hI.closed i (by omega) _ (fun q hq => hw q (onsOf_iff.1 hq)) j (h1 j hj)
    have hclo : Clo pss (fun k => listed.getD k false) Df.length := fun k hk hkl j hj => by
      obtain ⟨o', ho', _⟩ := hpre k hk
      exact hpin k o' hk ho' (fun j hj => hI.closed k o' hk hkl ho' j hj) j hj
    obtain ⟨pre, d, D, hDf, hdi, hDl⟩ := DOk.find r.ok hinb
    have hil : i < listed.size := by rw [hI.lsize]; exact hisz
    have hif : listed.getD i false = false := by rw [← getD_tf i hisz]; exact hiun
    have hset : ∀ j, (listed.setIfInBounds i true).getD j false = if j = i then true else listed.getD j false := fun j => by
      by_cases e : j = i
      · subst e; simp [hil]
      · rw [if_neg e, getD_set_ne false (Ne.symm e)]
    have hnext : ∀ a' w', At R1 w1 m1 H env0 Df (fun k => (listed.setIfInBounds i true).getD k false) a' w' → a'.tmps.size = X.nt → a'.defers = [] → wpAny X.P .any ops Q (m + (ops.size - Df.length)) (listed.setIfInBounds i true) a' w' := by
      intro a' w' hA hs hn
      refine ih _ _ _ ⟨hA, hs, hn, by simp [hI.lsize], fun j hj => ?_, fun k ok hk hkl hok j hj => ?_⟩ ?_
      · rw [hset, if_neg (by omega)]; exact hI.tail j hj
      · rw [hset] at hkl ⊢
        by_cases e : j = i
        · rw [if_pos e]
        · rw [if_neg e]
          by_cases e2 : k = i
          · subst e2
            rw [ho] at hok; cases hok
            exact hwl j hj
          · rw [if_neg e2] at hkl
            exact hI.closed k ok hk hkl hok j hj
      · have h1 : ((List.range Df.length).filter fun k => !(listed.setIfInBounds i true).getD k false) = ((List.range Df.length).filter fun k => !listed.getD k false).erase i := by
          rw [List.Nodup.erase_eq_filter (List.Nodup.sublist List.filter_sublist List.nodup_range), List.filter_filter]
          apply List.filter_congr
          intro k _
          rw [hset]
          by_cases e : k = i
          · subst e; simp
          · simp [e]
        rw [h1, List.length_erase_of_mem (List.mem_filter.2 ⟨List.mem_range.2 hinb, by rw [hif]; rfl⟩), hm]
        rfl
    subst hDf
    obtain ⟨_, hdi', o', ho', hdo, hF⟩ := DOk.suffix r.ok
    rw [hdi, ho] at ho'; cases ho'
    have hst := At.step r (p := fun k => listed.getD k false) (p' := fun k => (listed.setIfInBounds i true).getD k false) hclo (by rw [hdi]; exact hif) (fun j hj => hpin i o hinb ho hwl j (by rw [← hdi]; exact hj))
      (by rw [hdi, hset, if_pos rfl]) (fun k hk => by show (listed.setIfInBounds i true).getD k false = _; rw [hset, if_neg (by rw [← hdi]; exact hk)]) hI.size hI.st hF
    -- is it wanted?
    have hwant : ∀ b, Want (nthL d.i pss) o D b → Region.wanted o (yielded ops a.tmps) = b := fun b hW => by
      unfold Want at hW
      unfold Region.wanted
      split at hW
      · rename_i hg; rw [hg]; exact hW.symm
      · rename_i j want hg
        rw [hg]
        obtain ⟨hj, hWc⟩ := hW
        have hjl := hpin i o hinb ho hwl j (by rw [← hdi]; exact hj)
        have hjd : j < D.length := by have := (r.tr d.i (by rw [hdi]; exact hinb) j hj).1; rw [hdi'] at this; exact this
        have hokD : DOk X ops pss env0 H D := (DOk.suffix r.ok).1
        obtain ⟨pre', e, D', hD, hei, _⟩ := DOk.find hokD hjd
        have hem : e ∈ pre ++ d :: D := List.mem_append_right _ (List.mem_cons_of_mem _ (by rw [hD]; simp))
        have hev0 : doneV j D = e.v := by
          have : ∀ (l : List Done), DOk X ops pss env0 H l → e ∈ l → doneV j l = e.v := by
            intro l
            induction l with
            | nil => intro _ h; simp at h
            | cons f l ihl =>
              intro hl hel
              simp only [doneV]
              rcases List.mem_cons.1 hel with rfl | hel
              · rw [← hei, Nat.beq_refl]; rfl
              · have h1 := DOk.lt hl.1 e hel
                have : Nat.beq j f.i = false := by
                  cases hb : Nat.beq j f.i with
                  | false => rfl
                  | true => have := Nat.eq_of_beq_eq_true hb; rw [hl.2.1] at this; omega
                rw [this]; exact ihl hl.1 hel
          exact this D hokD (by rw [hD]; simp)
        obtain ⟨oj, dj, hoj, hdj, hdn, _⟩ := hf.op j (by omega)
        obtain ⟨_, hej, oe, hoe, hde, _⟩ := DOk.suffix (pre := pre') (by rw [← hD]; exact hokD)
        rw [hei, hoj] at hoe; cases hoe
        obtain ⟨R, mm, F0, hE, _⟩ := hI.st
        have h3 := hE dj
        rw [r.own hem (by rw [hei]; exact hjl) (by rw [hde]; exact hdj), ← hev0] at h3
        have hlt : dj < a.tmps.size := by rw [hI.size]; exact hdn
        generalize hv : a.tmps.getD dj undef = v at h3
        rcases hWc with ⟨c, hc, rfl⟩ | ⟨hc, rfl⟩
        · rw [hc] at h3
          cases h3
          have hy : yielded ops a.tmps j = some c := by
            unfold yielded
            rw [hoj]
            simp only [Option.bind_some, hdj]
            simp only [Array.getD, hlt, dif_pos] at hv
            simp [hlt]
            simp at hv
            rw [hv]
          show (yielded ops a.tmps j == some want) = (c == want)
          rw [hy]; cases c <;> cases want <;> rfl
        · rw [hc] at h3
          have hv0 : v = .tuple #[] := by
            cases h3 with
            | tup cs xs h1 h2 =>
              cases xs with
              | nil => rfl
              | cons x xs => simp at h1
          have hy := yielded_none (ops := ops) (a := a) (j := j) (t := dj) (by rw [hoj]; exact hdj) (hv.trans hv0)
          show (yielded ops a.tmps j == some want) = false
          rw [hy]; cases want <;> rfl
    unfold wpOp
    rw [ho]
    simp only
    rcases hst with ⟨hW, hg⟩ | ⟨hW, hA⟩
    · rw [if_pos (hwant true hW)]
      left
      refine gives_wp hg fun x w' hA => hnext _ _ (by rw [← hdo]; exact hA) (by rw [Act.put_size']; exact hI.size) (by rw [Act.put_defers']; exact hI.nod)
    · rw [if_neg (by rw [hwant false hW]; decide)]
      exact hnext _ _ (by rw [← hdo]; exact hA) (by rw [Act.put_size']; exact hI.size) (by rw [Act.put_defers']; exact hI.nod)

theorem draw_old (hT : TSound X.P X.T) {ops : Array Oper} {nb : Nat} {pss : List (List Nat)} {s : St} {K : St → Prop} (h : drawR X ops nb pss s K) : ∃ s', K s' ∧ AnyOk X ops s s' := by
  unfold drawR at h
  simp only [chkP] at h
  cases hok : regOk ops X.nt nb pss with
  | false => rw [hok] at h; exact h.elim
  | true =>
  rw [hok] at h
  simp only [cond_true] at h
  cases hrb : allLt (refsE s.env) s.heap.length && allLt (refsBs s.heap) s.heap.length with
  | false => rw [hrb] at h; exact h.elim
  | true =>
  rw [hrb] at h
  simp only [cond_true] at h
  rw [forceL_iff] at h
  rw [Bool.and_eq_true] at hrb
  unfold regOk at hok
  simp only [Bool.and_eq_true] at hok
  obtain ⟨⟨⟨⟨htr, hfa⟩, hseq⟩, hlen⟩, hpo⟩ := hok
  have hlen := Nat.eq_of_beq_eq_true hlen
  have hf := facts_of hfa
  have hnb : (ops.toList.take nb).length = nb := by have := hf.le; simp; omega
  have htake : ∀ j, j < nb → (ops.toList.take nb)[j]? = ops[j]? := fun j hj => by rw [List.getElem?_take, if_pos hj]; simp
  obtain ⟨Df, hD, hDl, hK⟩ := drawP_sound hT (ops := ops) (pss := pss) (env0 := undefs (ops.toList.take nb) s.env) (H := s.heap) (ops.toList.take nb) pss [] _ trivial (fun j o hj => by
    rw [List.length_nil, Nat.zero_add, ← htake j (by have := (List.getElem?_eq_some_iff.1 hj).1; omega)]; exact hj) (fun j => by rw [List.length_nil, Nat.zero_add]) h
  rw [List.length_nil, Nat.zero_add, hnb] at hDl
  rw [maskEnvK_iff, maskHeapK_iff] at hK
  obtain ⟨s', hk, hs⟩ := opsP_sound hT hK
  have hdst : ∀ d ∈ Df, ∃ o u, ops[d.i]? = some o ∧ d.dst = some u ∧ o.dst = some u ∧ u < X.nt ∧ (∀ j, j < d.i → dstOf ops j ≠ some u) ∧ d.i < nb := fun d hd => by
    have hlt := DOk.lt hD d hd
    rw [hDl] at hlt
    obtain ⟨o, u, h1, h2, h3, _, h4, _⟩ := hf.op d.i hlt
    obtain ⟨pre, D', hsp⟩ := split_mem hd
    obtain ⟨_, _, o', h5, h6, _⟩ := DOk.suffix (pre := pre) (by rw [← hsp]; exact hD)
    rw [h1] at h5; cases h5
    exact ⟨o, u, h1, by rw [h6]; exact h2, h2, h3, h4, hlt⟩
  have r : Ran X ops pss (undefs (ops.toList.take nb) s.env) s.heap Df := by
    refine ⟨hD, fun d hd e he t hdt het => ?_, hrb.2, fun t j hj => ?_, fun d hd t hdt => ?_, fun i hi j hj => ?_, fun d hd => ?_⟩
    · obtain ⟨o, u, h1, h2, h3, h4, h5, _⟩ := hdst d hd
      obtain ⟨o', u', g1, g2, g3, g4, g5, _⟩ := hdst e he
      rw [hdt] at h2; cases h2
      rw [het] at g2; cases g2
      rcases Nat.lt_trichotomy d.i e.i with hl | hl | hl
      · exact absurd (show dstOf ops d.i = some t by unfold dstOf; rw [h1]; exact h3) (g5 d.i hl)
      · exact hl
      · exact absurd (show dstOf ops e.i = some t by unfold dstOf; rw [g1]; exact g3) (h5 e.i hl)
    · rcases undefs_get (env := s.env) (t := t) (ops.toList.take nb) with ⟨h1, _⟩ | ⟨h1, _⟩
      · rw [h1] at hj; simp [refs] at hj
      · rw [h1] at hj; exact allLt_get hrb.1 j (refsE_get j hj)
    · obtain ⟨o, u, h1, h2, h3, _, _, h6⟩ := hdst d hd
      rcases undefs_get (env := s.env) (t := t) (ops.toList.take nb) with ⟨g1, _⟩ | ⟨_, g2⟩
      · exact g1
      · rw [hdt] at h2; cases h2
        exact absurd h3 (g2 o (List.mem_of_getElem? (by rw [htake d.i h6]; exact h1)))
    · have := predsTrans_get htr i (by omega) j hj
      rw [Nat.zero_add] at this; exact this
    · obtain ⟨o, u, _, h2, _, h4, _⟩ := hdst d hd
      rw [h2]; exact Nat.ble_eq_true_of_le h4
  refine ⟨s', hk, fun R0 w0 m0 H0 _ _ a w hI => ?_⟩
  obtain ⟨⟨R, m, F0, hE⟩, hsz, hnd⟩ := hI
  have hdr := F0.sim.drew
  have F1 := F0.trans hdr.far
  have hE1 := hE.far hdr.far F0.sim
  have hrep : ∀ i, (Array.replicate ops.size false).getD i false = false := fun i => by
    rw [Array.getD_eq_getD_getElem?, Array.getElem?_replicate]; split <;> rfl
  have hh : ∀ k, hget k (mHeap (fun k => (Array.replicate ops.size false).getD k false) s.heap Df) = hget k s.heap := by
    intro k
    have : ∀ D : List Done, hget k (mHeap (fun k => (Array.replicate ops.size false).getD k false) s.heap D) = hget k s.heap := by
      intro D
      induction D with
      | nil => rfl
      | cons d D ih =>
        rcases Nat.lt_or_ge k (mHeap (fun k => (Array.replicate ops.size false).getD k false) s.heap D).length with hlt | hge
        · simp only [mHeap]; rw [hget_append_lt hlt]; exact ih
        · have e : k = (mHeap (fun k => (Array.replicate ops.size false).getD k false) s.heap D).length + (k - (mHeap (fun k => (Array.replicate ops.size false).getD k false) s.heap D).length) := by omega
          have := mHeap_base_le (fun k => (Array.replicate ops.size false).getD k false) s.heap D
          rw [hget_out (H := s.heap) (by omega), e, mHeap_new]
          simp only [hrep]; rfl
    exact this Df
  have hhl := mHeap_base_le (fun k => (Array.replicate ops.size false).getD k false) s.heap Df
  have hS1 : Sim R w.drew m s.heap := hdr.sim
  have hext : ∀ k, k < s.heap.length → hget k (mHeap (fun k => (Array.replicate ops.size false).getD k false) s.heap Df) = .dead ∨ (hget k s.heap ≠ .dead ∧ (hget k (mHeap (fun k => (Array.replicate ops.size false).getD k false) s.heap Df)).len = (hget k s.heap).len) := fun k hk => by
    rw [hh]; exact hext_self _ k hk
  have hS2 : Sim R w.drew m (mHeap (fun k => (Array.replicate ops.size false).getD k false) s.heap Df) := by
    refine ⟨hS1.rlt, fun k hk => hS1.out k (by omega), fun k g hk hg => ?_, fun k hk hg => ?_, fun k k' g hk hk' => ?_⟩
    · rw [hh] at hk ⊢
      obtain ⟨a1, xs, e, fr, a2, a3, a4, a5⟩ := hS1.own k g hk hg
      exact ⟨a1, xs, e, fr, a2, a3, a4, a5.mono (fun _ h => h) (fun _ _ => rfl) (fun _ _ h => h) (fun _ _ h => h) hhl hext⟩
    · rw [hh] at hk ⊢; exact hS1.ph k hk hg
    · rw [hh] at hk hk'; exact hS1.inj k k' g hk hk'
  have F2 : Far R w.drew m s.heap R w.drew m (mHeap (fun k => (Array.replicate ops.size false).getD k false) s.heap Df) :=
    ⟨fun _ h => h, fun _ h => .inl h, hS2, rfl, rfl, rfl, Nat.le_refl _, fun _ _ => rfl, fun _ _ _ => rfl, fun _ _ h => h, hhl, hext, fun k g hk hg => .inr ⟨k, by rw [hh] at hk; exact hk, hg⟩, fun _ _ => rfl⟩
  have hA0 : At R w.drew m s.heap (undefs (ops.toList.take nb) s.env) Df (fun k => (Array.replicate ops.size false).getD k false) a w.drew := by
    refine ⟨R, m, F2, fun t => ?_, fun pre d D _ _ q _ => hS1.out _ ?_⟩
    · rw [mEnv_no fun d _ hp _ => by rw [hrep] at hp; cases hp]
      rcases undefs_get (env := s.env) (t := t) (ops.toList.take nb) with ⟨h1, _⟩ | ⟨h1, _⟩
      · rw [h1]; exact .undef _
      · rw [h1]; exact (hE1 t).far F2 hS1
    · have := mHeap_base_le (fun k => (Array.replicate ops.size false).getD k false) s.heap D; omega
  have key := any_of_done (X := X) (ops := ops) (pss := pss) (Q := fun e1 a1 w1 => ExR .normal e1 ∧ Inv X.nt R0 w0 m0 H0 a1 w1 s') (R1 := R) (w1 := w.drew) (m1 := m) (by rw [hDl]; exact hf) (by rw [hDl]; exact hseq) r (fun i hi => by
      obtain ⟨o, h1, h2⟩ := predsOk_get hpo i (by omega)
      rw [Nat.zero_add] at h1 h2
      exact ⟨o, h1, h2⟩) (fun a' w' hA hs' hn' => by
      obtain ⟨R', m', F3, hE3, _⟩ := hA
      rw [hDl]
      have hmem : ∀ d ∈ Df, decide (d.i < Df.length) = elemN d.i (Df.map (·.i)) := fun d hd => by
        rw [elemN_iff.2 (List.mem_map.2 ⟨d, hd, rfl⟩)]
        simpa using DOk.lt hD d hd
      have e1 : mHeap (fun k => decide (k < Df.length)) s.heap Df = mHeap (fun k => elemN k (Df.map (·.i))) s.heap Df := mHeap_congr _ _ _ hmem
      rw [e1] at F3 hE3
      refine hs R0 w0 m0 H0 a' w' ⟨⟨R', m', F1.trans F3, fun t => ?_⟩, hs', hn'⟩ _ fun a2 w2 hI2 => ⟨rfl, hI2⟩
      have h3 := hE3 t
      by_cases hex : ∃ d ∈ Df, d.dst = some t
      · obtain ⟨d, hd, hdt⟩ := hex
        rw [r.own hd (by simpa using DOk.lt hD d hd) hdt] at h3
        obtain ⟨pre, D', rfl⟩ := split_mem hd
        have h4 : eget t (mEnv (fun k => elemN k ((pre ++ d :: D').map (·.i))) s.env (pre ++ d :: D')) = d.v := mEnv_own (r.dist.pre (DOk.apart r.ok).1 hdt) (elemN_iff.2 (List.mem_map.2 ⟨d, hd, rfl⟩)) hdt
        show VR _ _ _ _ (eget t (mEnv (fun k => elemN k ((pre ++ d :: D').map (·.i))) s.env (pre ++ d :: D'))) _
        rw [h4]; exact h3
      · rw [mEnv_no fun d hd _ hdt => hex ⟨d, hd, hdt⟩] at h3
        show VR _ _ _ _ (eget t (mEnv (fun k => elemN k (Df.map (·.i))) s.env Df)) _
        rw [mEnv_no fun d hd _ hdt => hex ⟨d, hd, hdt⟩]
        rcases undefs_get (env := s.env) (t := t) (ops.toList.take nb) with ⟨_, o, ho, hot⟩ | ⟨h1, _⟩
        · exfalso
          obtain ⟨j, hj⟩ := List.getElem?_of_mem ho
          have hjl : j < nb := by have := (List.getElem?_eq_some_iff.1 hj).1; omega
          obtain ⟨pre, d, D', hsp, hdi, _⟩ := DOk.find hD (show j < Df.length by omega)
          have hdm : d ∈ Df := by rw [hsp]; simp
          obtain ⟨o', u, g1, g2, g3, _⟩ := hdst d hdm
          rw [hdi, ← htake j hjl, hj] at g1; cases g1
          rw [hot] at g3; cases g3
          exact hex ⟨d, hdm, g2⟩
        · rw [h1] at h3; exact h3) nb (Array.replicate ops.size false) a w.drew
    ⟨hA0, hsz, hnd, by simp, fun i _ => hrep i, fun k o _ hkl => by rw [hrep] at hkl; cases hkl⟩ (by
      have : ∀ (r : List Nat), (r.filter fun i => !(Array.replicate ops.size false).getD i false) = r := fun r => by
        apply List.filter_eq_self.2
        intro i _
        rw [hrep i]; rfl
      rw [this, hDl]; simp)
  have e : nb + (ops.size - Df.length) = ops.size := by have := hf.le; omega
  rw [e] at key
  exact key


end
end Go.Proofs.Ytnbbaemijogeoaa.Ae

namespace Go.Proofs.Ytnbbaemijogeoaa.Ae
open Go

section
variable {P : Program} {H H' : Hp} {env : Env}

theorem bytesOf_congr {x : AVal} (h : ∀ k ∈ refs1 x, hget k H = hget k H') : bytesOf H x = bytesOf H' x := by
  cases x <;> try rfl
  rename_i b off len sz
  have := h b (by simp [refs1])
  simp only [bytesOf, this]
theorem convF_congr {s d : TypeId} {x : AVal} {p : Option Prop} {v : AVal} (h : ∀ k ∈ refs1 x, hget k H = hget k H') (hc : convF P H s d x = some (p, v, noEff)) : convF P H' s d x = some (p, v, noEff) := by
  cases x with
  | int k n => exact hc
  | byte n => exact hc
  | str l =>
    simp only [convF] at hc ⊢
    split at hc
    · rename_i h1; exact hc
    · rename_i h1
      split at hc
      · rename_i h2
        cases hs : isStrT P s with
        | false => rw [hs] at hc; simp at hc
        | true => rw [hs] at hc; simp [noEff] at hc
      · cases hc
  | sl b off len sz => simp only [convF] at hc ⊢; rw [← bytesOf_congr h]; exact hc
  | _ => exact hc
theorem cutF_congr {t : TypeId} {x : AVal} {lo hi mx : Option AVal} (h : ∀ k ∈ refP x, hget k H = hget k H') : cutF P H t x lo hi mx = cutF P H' t x lo hi mx := by
  cases x <;> try rfl
  rename_i b off
  have := h b (by simp [refP])
  simp only [cutF, this]
theorem loadF_congr {t : TypeId} {x : AVal} (h : ∀ k ∈ refs1 x, hget k H = hget k H') : loadF P H t x = loadF P H' t x := by
  cases x <;> try rfl
  rename_i b off
  have := h b (by simp [refs1])
  simp only [loadF, this]

theorem builtin_congr {b : Builtin} (hb : b = .len ∨ b = .min ∨ b = .max) {ts : List TypeId} {l : List AVal} : builtinF P H b ts l = builtinF P H' b ts l := by
  rcases hb with rfl | rfl | rfl
  · unfold builtinF; rcases ts with _ | ⟨t, ts⟩ <;> rcases l with _ | ⟨x, _ | ⟨y, l⟩⟩ <;> rfl
  · unfold builtinF; rcases l with _ | ⟨x, _ | ⟨y, _ | ⟨z, l⟩⟩⟩ <;> rcases ts with _ | ⟨t, _ | ⟨u, ts⟩⟩ <;> rfl
  · unfold builtinF; rcases l with _ | ⟨x, _ | ⟨y, _ | ⟨z, l⟩⟩⟩ <;> rcases ts with _ | ⟨t, _ | ⟨u, ts⟩⟩ <;> rfl
theorem read_congr {op : Op} {l : List Nat} {p : Option Prop} {v : AVal} (hr : readRefs env op = some l) (hl : ∀ k ∈ l, hget k H = hget k H') (h : opF P op env H = some ⟨p, v, noEff⟩) : opF P op env H' = some ⟨p, v, noEff⟩ := by
  cases op with
  | move x => exact h
  | assign x => exact h
  | pick c a b => exact h
  | build t parts => exact h
  | nilCheck x => exact h
  | binOp o t x y z => exact h
  | unOp o t x => exact h
  | makeFunc f a b => cases f <;> exact h
  | fieldAddr t x i => exact h
  | field t x i => exact h
  | indexAddr t x i => exact h
  | index t x i => exact h
  | extract x i => exact h
  | load t a =>
    simp only [readRefs, Option.some.injEq] at hr
    subst hr
    simp only [opF] at h ⊢
    unfold operRefs at hl
    split at h
    · rename_i u hu
      rw [hu] at hl
      simp only at hl ⊢
      rw [← loadF_congr hl]; exact h
    · cases h
  | convert s d x =>
    simp only [readRefs, Option.some.injEq] at hr
    subst hr
    simp only [opF] at h ⊢
    unfold operRefs at hl
    split at h
    · rename_i u hu
      rw [hu] at hl
      simp only at hl ⊢
      cases hc : (P.underlying s).isSome with
      | false => rw [hc] at h; simp at h
      | true =>
        rw [hc] at h
        simp only [cond_true] at h ⊢
        split at h
        · rename_i p' v' e' hcv
          simp only [Option.some.injEq, Res.mk.injEq] at h
          obtain ⟨rfl, rfl, rfl⟩ := h
          rw [convF_congr hl hcv]
        · cases h
    · cases h
  | slice t x lo hi mx =>
    simp only [readRefs, Option.some.injEq] at hr
    subst hr
    simp only [opF] at h ⊢
    unfold operRefs at hl
    split at h
    · rename_i a1 a2 a3 a4 h1 h2 h3 h4
      rw [h1] at hl
      simp only at hl ⊢
      rw [← cutF_congr hl]; exact h
    · cases h
  | call c =>
    simp only [opF] at h ⊢
    simp only [readRefs] at hr
    split at hr
    · rename_i hc
      rw [hc] at h ⊢
      simp only at h ⊢
      split at h
      · rename_i q hq
        exact (builtin_congr (by simp)).symm.trans h
      · cases h
    · rename_i hc
      rw [hc] at h ⊢
      simp only at h ⊢
      split at h
      · rename_i q hq
        exact (builtin_congr (by simp)).symm.trans h
      · cases h
    · rename_i hc
      rw [hc] at h ⊢
      simp only at h ⊢
      split at h
      · rename_i q hq
        exact (builtin_congr (by simp)).symm.trans h
      · cases h
    · cases hr
  | _ => simp [readRefs] at hr

/-! ### heaps that follow one another -/
theorem keysOf_mem : ∀ {l : List (Nat × ABlk)} {k : Nat}, k ∉ keysOf l → ∀ (H : Hp), hget k (hsets l H) = hget k H
  | [], _, _, H => rfl
  | (j, b) :: r, k, h, H => by
    simp only [keysOf, List.mem_cons, not_or] at h
    simp only [hsets]
    rw [keysOf_mem h.2, hget_hset_ne h.1]
theorem app_get {e : Eff} {k : Nat} (h : k ∉ keysOf e.sets) (hk : k < H.length) : hget k (e.app H) = hget k H := by
  unfold Eff.app
  rw [hget_append_lt (by rw [hsets_length]; exact hk), keysOf_mem h]
theorem app_len (e : Eff) (H : Hp) : H.length ≤ (e.app H).length := by
  unfold Eff.app
  rw [List.length_append, hsets_length]; omega
end

/-! ### what the run in text order says -/
/-- an operation that was run, or left out: 'A' the heap ahead of it, 'B' the heap behind -/
def CFact (X : Cx) (pr : List (List Nat)) (env0 : Env) (ps : List Nat) (hards S Rd : List Nat) (o : Oper) (d : Done) (D : List Done) (A B : Hp) : Prop :=
  (Want ps o D true ∧
    ((d.i ∈ hards ∧ ∃ e, OpDoes X.P o (mEnv (fun k => elemN k ps) env0 D) A d.v e ∧ B = e.app A ∧ ∀ k ∈ keysOf e.sets, k ∈ S) ∨
      (d.i ∉ hards ∧ B = A ∧ ∃ l p, readRefs (mEnv (fun k => elemN k ps) env0 D) o.op = some l ∧ (∀ k ∈ l, k < A.length ∧ (settled hards pr d.i = false → k ∈ Rd)) ∧ opF X.P o.op (mEnv (fun k => elemN k ps) env0 D) A = some ⟨p, d.v, noEff⟩ ∧ (∀ q, p = some q → q) ∧ ∀ f as ts, o.op ≠ .call ⟨.value f, as, ts⟩))) ∨
  (Want ps o D false ∧ d.v = .tup [] ∧ B = A)
def COk (X : Cx) (ops : Array Oper) (pr : List (List Nat)) (hards : List Nat) (base : Nat → Env) (Df : List Done) (Hs : Nat → Hp) (S Rd : List Nat) (n m : Nat) : Prop :=
  ∀ k, n ≤ k → k < m → ∃ pre d D, Df = pre ++ d :: D ∧ D.length = k ∧ d.i = k ∧ ∃ o, ops[k]? = some o ∧ d.dst = o.dst ∧ CFact X pr (base k) (nthL k pr) hards S Rd o d D (Hs k) (Hs (k + 1))

theorem CFact.sup {X : Cx} {pr : List (List Nat)} {env0 : Env} {ps hards S Rd S' Rd' : List Nat} {o : Oper} {d : Done} {D : List Done} {A B : Hp} (h : CFact X pr env0 ps hards S Rd o d D A B) (hS : ∀ k ∈ S, k ∈ S') (hR : ∀ k ∈ Rd, k ∈ Rd') : CFact X pr env0 ps hards S' Rd' o d D A B := by
  rcases h with ⟨h1, h2⟩ | h
  · refine .inl ⟨h1, ?_⟩
    rcases h2 with ⟨g1, e, g2, g3, g4⟩ | ⟨g1, g2, l, p, g3, g4, g5⟩
    · exact .inl ⟨g1, e, g2, g3, fun k hk => hS k (g4 k hk)⟩
    · exact .inr ⟨g1, g2, l, p, g3, fun k hk => ⟨(g4 k hk).1, fun hs => hR k ((g4 k hk).2 hs)⟩, g5⟩
  · exact .inr h

theorem chainOne_sound {X : Cx} (hT : TSound X.P X.T) {pr : List (List Nat)} {env0 : Env} {o : Oper} {ps hards : List Nat} {i : Nat} {D : List Done} {H : Hp} {S Rd : List Nat} {K : List Done → Hp → List Nat → List Nat → Prop} (hw : Want ps o D true)
    (h : chainOne X env0 o ps i (elemN i hards) (settled hards pr i) D H S Rd K) : ∃ d H' S' Rd', K (d :: D) H' S' Rd' ∧ d.i = i ∧ d.dst = o.dst ∧ (∀ k ∈ S, k ∈ S') ∧ (∀ k ∈ Rd, k ∈ Rd') ∧ CFact X pr env0 ps hards S' Rd' o d D H H' := by
  unfold chainOne at h
  rw [maskEnvK_iff] at h
  cases hh : elemN i hards with
  | true =>
    rw [hh] at h
    simp only [cond_true] at h
    obtain ⟨v, e, hk, hdo⟩ := opP_sound hT h
    rw [effK_app] at hk
    exact ⟨_, _, _, _, hk, rfl, rfl, fun k hk => List.mem_append_right _ hk, fun k hk => hk, .inl ⟨hw, .inl ⟨elemN_iff.1 hh, e, hdo, rfl, fun k hk => List.mem_append_left _ hk⟩⟩⟩
  | false =>
    rw [hh] at h
    simp only [cond_false] at h
    split at h
    · rename_i l hl
      simp only [chkP] at h
      cases ha : allLt l H.length with
      | false => rw [ha] at h; exact h.elim
      | true =>
        rw [ha] at h
        simp only [cond_true] at h
        unfold opK at h
        split at h
        · rename_i p v e hop
          obtain ⟨hp, hk⟩ := andP_iff h
          rw [forceV_iff] at hk
          unfold pureK at hk
          obtain ⟨ss, nn⟩ := e
          cases ss with
          | cons s ss => exact hk.elim
          | nil =>
            cases nn with
            | cons s ss => exact hk.elim
            | nil =>
              refine ⟨_, _, _, _, hk, rfl, rfl, fun k hk => hk, fun k hk => by cases settled hards pr i <;> simp [hk], .inl ⟨hw, .inr ⟨fun hm => ?_, rfl, l, p, hl, fun k hk => ⟨allLt_get ha k hk, fun hs => by rw [show settled hards pr i = false from hs]; exact List.mem_append_left _ hk⟩, hop, hp, fun f as ts he => ?_⟩⟩⟩
              · rw [elemN_iff.2 hm] at hh; cases hh
              · rw [he] at hl; simp [readRefs] at hl
        · exact h.elim
    · exact h.elim

def CGoal (X : Cx) (ops : Array Oper) (pr : List (List Nat)) (hards : List Nat) (base : Nat → Env) (D : List Done) (H : Hp) (S Rd : List Nat) (K : List Done → Hp → List Nat → List Nat → Prop) (n : Nat) : Prop :=
  ∃ Df Hs S' Rd', (∃ pre, Df = pre ++ D) ∧ Hs D.length = H ∧ Df.length = n ∧ COk X ops pr hards base Df Hs S' Rd' D.length n ∧ K Df (Hs n) S' Rd' ∧ (∀ k ∈ S, k ∈ S') ∧ (∀ k ∈ Rd, k ∈ Rd')
theorem chainP_sound {X : Cx} (hT : TSound X.P X.T) {ops : Array Oper} {pr : List (List Nat)} {hards : List Nat} {base : Nat → Env} : ∀ (l : List Oper) (ps : List (List Nat)) (D : List Done) (H : Hp) (S Rd : List Nat) (K : List Done → Hp → List Nat → List Nat → Prop),
    (∀ j o, l[j]? = some o → ops[D.length + j]? = some o) → (∀ j, nthL j ps = nthL (D.length + j) pr) → chainP X base hards pr l ps D.length D H S Rd K →
    CGoal X ops pr hards base D H S Rd K (D.length + l.length)
  | [], ps, D, H, S, Rd, K, _, _, h => ⟨D, fun _ => H, S, Rd, ⟨[], rfl⟩, rfl, rfl, fun k h1 h2 => by simp at h2; omega, h, fun k hk => hk, fun k hk => hk⟩
  | o :: r, [], D, H, S, Rd, K, _, _, h => h.elim
  | o :: r, p :: ps, D, H, S, Rd, K, hl, hp, h => by
    have ho : ops[D.length]? = some o := hl 0 o rfl
    have hps : p = nthL D.length pr := hp 0
    have step : ∀ (d : Done) (H1 : Hp) (S1 Rd1 : List Nat), d.i = D.length → d.dst = o.dst → (∀ k ∈ S, k ∈ S1) → (∀ k ∈ Rd, k ∈ Rd1) → CFact X pr (base D.length) p hards S1 Rd1 o d D H H1 → chainP X base hards pr r ps (D.length + 1) (d :: D) H1 S1 Rd1 K →
        CGoal X ops pr hards base D H S Rd K (D.length + (o :: r).length) := fun d H1 S1 Rd1 hi hd hS hR hF h => by
      obtain ⟨Df, Hs, S', Rd', ⟨pre, hpre⟩, h1, h2, h3, h4, h5, h6⟩ := chainP_sound hT (ops := ops) (pr := pr) r ps (d :: D) H1 S1 Rd1 K (fun j o' hj => by
        have := hl (j + 1) o' (by simpa using hj)
        rw [List.length_cons, show D.length + 1 + j = D.length + (j + 1) by omega]; exact this) (fun j => by
        have := hp (j + 1)
        rw [List.length_cons, show D.length + 1 + j = D.length + (j + 1) by omega]; exact this) h
      simp only [List.length_cons] at h1 h2 h3 h4
      have e1 : D.length + 1 + r.length = D.length + (o :: r).length := by simp; omega
      refine ⟨Df, fun k => if k = D.length then H else Hs k, S', Rd', ⟨pre ++ [d], by rw [hpre]; simp⟩, if_pos rfl, by rw [h2, e1], fun k hk1 hk2 => ?_, ?_, fun k hk => h5 k (hS k hk), fun k hk => h6 k (hR k hk)⟩
      · by_cases e : k = D.length
        · subst e
          refine ⟨pre, d, D, hpre, rfl, hi, o, ho, hd, ?_⟩
          show CFact X pr (base D.length) (nthL D.length pr) hards S' Rd' o d D (if D.length = D.length then H else Hs D.length) (if D.length + 1 = D.length then H else Hs (D.length + 1))
          rw [if_pos rfl, if_neg (by omega), h1, ← hps]
          exact hF.sup h5 h6
        · obtain ⟨pre', d', D', g1, g2, g3, o', g4, g5, g6⟩ := h3 k (by omega) (by omega)
          refine ⟨pre', d', D', g1, g2, g3, o', g4, g5, ?_⟩
          show CFact X pr (base k) (nthL k pr) hards S' Rd' o' d' D' (if k = D.length then H else Hs k) (if k + 1 = D.length then H else Hs (k + 1))
          rw [if_neg e, if_neg (by omega)]; exact g6
      · simp only
        rw [if_neg (by simp), ← e1]; exact h4
    have one : ∀ (hw : Want p o D true), chainOne X (base D.length) o p D.length (elemN D.length hards) (settled hards pr D.length) D H S Rd (fun D' H' S' Rd' => chainP X base hards pr r ps (D.length + 1) D' H' S' Rd' K) → CGoal X ops pr hards base D H S Rd K (D.length + (o :: r).length) := fun hw h => by
      obtain ⟨d, H1, S1, Rd1, hk, hi, hd, hS, hR, hF⟩ := chainOne_sound hT hw h
      exact step d H1 S1 Rd1 hi hd hS hR hF hk
    have off : ∀ (hw : Want p o D false), chainP X base hards pr r ps (D.length + 1) (⟨D.length, o.dst, .tup [], []⟩ :: D) H S Rd K → CGoal X ops pr hards base D H S Rd K (D.length + (o :: r).length) := fun hw h =>
      step ⟨D.length, o.dst, .tup [], []⟩ H S Rd rfl rfl (fun k hk => hk) (fun k hk => hk) (.inr ⟨hw, rfl, rfl⟩) h
    unfold chainP at h
    split at h
    · rename_i hg
      rw [forceL_iff] at h
      exact one (by simp [Want, hg]) h
    · rename_i j want hg
      cases hj : elemN j p with
      | false => rw [hj] at h; exact h.elim
      | true =>
        rw [hj] at h
        simp only [cond_true] at h
        split at h
        · rename_i b hb
          have hw : Want p o D (b == want) := by simp only [Want, hg]; exact ⟨elemN_iff.1 hj, .inl ⟨b, hb, rfl⟩⟩
          cases b with
          | true =>
            simp only [brP, cond_true] at h
            rw [forceL_iff, doneSet_self hb] at h
            cases want with
            | true => simp only [cond_true] at h; rw [forceL_iff] at h; exact one hw h
            | false => exact off hw h
          | false =>
            simp only [brP, cond_false] at h
            rw [forceL_iff, doneSet_self hb] at h
            cases want with
            | true => exact off hw h
            | false => simp only [cond_false] at h; rw [forceL_iff] at h; exact one hw h
        · rename_i hb
          exact off (by simp only [Want, hg]; exact ⟨elemN_iff.1 hj, .inr ⟨hb, trivial⟩⟩) h
        · exact h.elim
end Go.Proofs.Ytnbbaemijogeoaa.Ae

namespace Go.Proofs.Ytnbbaemijogeoaa.Ae
open Go

section
variable {X : Cx} {ops : Array Oper} {pr : List (List Nat)} {Q : Exit → Act → World → Prop}

structure FactsC (ops : Array Oper) (nb n : Nat) : Prop where
  le : nb ≤ ops.size
  op : ∀ i, i < nb → ∃ o, ops[i]? = some o ∧ (∀ d, o.dst = some d → d < n ∧ ∀ j, j < i → dstOf ops j ≠ some d) ∧ (∀ j b, o.guard = some (j, b) → (dstOf ops j).isSome = true) ∧ (∀ e ∈ o.after, Region.binds .any e = true → e.on < i)
  tail : ∀ i o, nb ≤ i → ops[i]? = some o → ∀ L : Nat → Prop, (∀ j, waits o j = true → L j) → (∀ k o', k < nb → L k → ops[k]? = some o' → ∀ j, waits o' j = true → L j) → ∀ j, j < nb → L j
theorem factsC_of {nb n : Nat} (h : factsOkC ops nb n = true) : FactsC ops nb n := by
  unfold factsOkC at h
  simp only [Bool.and_eq_true, decide_eq_true_eq, List.all_eq_true, List.mem_range] at h
  obtain ⟨⟨h1, h2⟩, h3⟩ := h
  refine ⟨h1, fun i hi => ?_, fun i o hi ho L hL hc j hj => ?_⟩
  · have h4 := h2 i hi
    cases ho : ops[i]? with
    | none => rw [ho] at h4; simp at h4
    | some o =>
      rw [ho] at h4
      simp only [Bool.and_eq_true] at h4
      obtain ⟨⟨h5, h6⟩, h7⟩ := h4
      refine ⟨o, rfl, fun d hd => ?_, fun j b hg => ?_, fun e he hb => ?_⟩
      · rw [hd] at h5
        simp only [Bool.and_eq_true, decide_eq_true_eq, List.all_eq_true, List.mem_range] at h5
        exact ⟨h5.1, fun j hj e => by have := h5.2 j hj; rw [e] at this; simp at this⟩
      · rw [hg] at h6; exact h6
      · obtain ⟨q, hq, he'⟩ := Array.mem_iff_getElem.1 he
        have := Array.all_eq_true.1 h7 q hq
        rw [he', hb] at this
        simpa using this
  · have hlt : i < ops.size := (Array.getElem?_eq_some_iff.1 ho).1
    have h4 := h3 (i - nb) (by omega)
    rw [show nb + (i - nb) = i from by omega, ho] at h4
    simp only [List.all_eq_true, List.mem_range] at h4
    exact clos_sub L hc nb (Nat.le_refl _) _ (fun q hq => hL q (onsOf_iff.1 hq)) j (by simpa using h4 j hj)

open Classical in
/-- any order: what an operation does, if all are run that it waits for, is enough -/
theorem any_gen {nb nt : Nat} {A : (Nat → Bool) → Act → World → Prop} (hf : FactsC ops nb nt) (hseq : seqTail ops nb = true)
    (hpre : ∀ i, i < nb → ∃ o, ops[i]? = some o ∧ ∀ j ∈ nthL i pr, j ∈ clos ops i (onsOf o))
    (hstep : ∀ (p p' : Nat → Bool) (i : Nat) (o : Oper) (a : Act) (w : World), i < nb → ops[i]? = some o → Clo pr p nb → p i = false → (∀ j ∈ nthL i pr, p j = true) → p' i = true → (∀ k, k ≠ i → p' k = p k) → a.tmps.size = nt → A p a w →
      (Region.wanted o (yielded ops a.tmps) = true ∧ gives X.P o a w fun x w' => A p' (a.put o.dst x) w') ∨ (Region.wanted o (yielded ops a.tmps) = false ∧ A p' (a.put o.dst undef) w))
    (hend : ∀ a w, A (fun k => decide (k < nb)) a w → a.tmps.size = nt → a.defers = [] → wpList X.P ops Q (ops.toList.drop nb) a w) :
    ∀ (m : Nat) (listed : Array Bool) (a : Act) (w : World), A (fun k => listed.getD k false) a w → a.tmps.size = nt → a.defers = [] → listed.size = ops.size → (∀ i, nb ≤ i → listed.getD i false = false) →
      (∀ k o, k < nb → listed.getD k false = true → ops[k]? = some o → ∀ j, waits o j = true → listed.getD j false = true) → ((List.range nb).filter fun i => !listed.getD i false).length = m →
      wpAny X.P .any ops Q (m + (ops.size - nb)) listed a w := by
  intro m
  induction m with
  | zero =>
    intro listed a w hA hsz hnod hls htail hcl hm
    have hall : ∀ i, i < nb → listed.getD i false = true := by
      intro i hi
      have : ((List.range nb).filter fun i => !listed.getD i false) = [] := List.length_eq_zero_iff.1 hm
      have h1 := List.filter_eq_nil_iff.1 this i (List.mem_range.2 hi)
      simpa using h1
    have hli : listed = listedTo ops.size nb := by
      apply Array.ext
      · simp [listedTo, hls]
      · intro i h1 h2
        simp only [listedTo, List.getElem_toArray, List.getElem_map, List.getElem_range]
        by_cases h : i < nb
        · have := hall i h
          simp [h1] at this
          simp [this, h]
        · have := htail i (by omega)
          simp [h1] at this
          simp [this, h]
    have hp : (fun k => listed.getD k false) = fun k => decide (k < nb) := by
      funext k
      by_cases h : k < nb
      · rw [hall k h]; simp [h]
      · rw [htail k (by omega)]; simp [h]
    rw [Nat.zero_add, hli]
    refine any_of_seq _ nb (by have := hf.le; omega) hseq a w (hend a w ?_ hsz hnod)
    rw [hp] at hA; exact hA
  | succ m ih =>
    intro listed a w hA hsz hnod hls htail hcl hm
    have hex : ∃ i, i < nb ∧ listed.getD i false = false := by
      cases hF : ((List.range nb).filter fun i => !listed.getD i false) with
      | nil => rw [hF] at hm; simp at hm
      | cons x r =>
        have : x ∈ ((List.range nb).filter fun i => !listed.getD i false) := by rw [hF]; exact List.mem_cons_self ..
        rw [List.mem_filter, List.mem_range] at this
        exact ⟨x, this.1, by simpa using this.2⟩
    obtain ⟨i0, hi0, hmin⟩ : ∃ i, (i < nb ∧ listed.getD i false = false) ∧ ∀ j, j < i → ¬ (j < nb ∧ listed.getD j false = false) := by
      obtain ⟨i, hi⟩ := hex
      induction i using Nat.strongRecOn with
      | _ i ihh =>
        by_cases h : ∃ j, j < i ∧ (j < nb ∧ listed.getD j false = false)
        · obtain ⟨j, hj, hj2⟩ := h
          exact ihh j hj hj2
        · exact ⟨i, hi, fun j hj hj2 => h ⟨j, hj, hj2⟩⟩
    have getD_tf : ∀ i, i < ops.size → listed.getD i true = listed.getD i false := fun i hi => by
      have : i < listed.size := by rw [hls]; exact hi
      simp [this]
    have hready0 : i0 ∈ Region.ready .any ops listed := by
      obtain ⟨o, ho, _, _, haf⟩ := hf.op i0 hi0.1
      refine mem_ready.2 ⟨by rw [getD_tf i0 (by have := hf.le; omega)]; exact hi0.2, o, ho, fun e he hb => ?_⟩
      have h1 := haf e he hb
      have h2 := hmin e.on h1
      cases h3 : listed.getD e.on false with
      | true => rfl
      | false => exact absurd ⟨by omega, h3⟩ h2
    rw [show m + 1 + (ops.size - nb) = (m + (ops.size - nb)) + 1 from by omega]
    refine ⟨fun h => (by rw [h] at hready0; cases hready0), fun i hi => ?_⟩
    obtain ⟨hiun, o, ho, hprem⟩ := mem_ready.1 hi
    have hisz : i < ops.size := (Array.getElem?_eq_some_iff.1 ho).1
    have hinb : i < nb := by
      by_cases h : i < nb
      · exact h
      · have := hf.tail i o (by omega) ho (fun j => listed.getD j false = true) (fun j hj => by
          obtain ⟨e, he, he1, he2⟩ := waits_iff.1 hj
          subst he1; exact hprem e he he2) hcl i0 hi0.1
        rw [hi0.2] at this
        cases this
    have hwl : ∀ j, waits o j = true → listed.getD j false = true := fun j hj => by
      obtain ⟨e, he, he1, he2⟩ := waits_iff.1 hj
      subst he1; exact hprem e he he2
    have hpin : ∀ i o, i < nb → ops[i]? = some o → (∀ j, waits o j = true → listed.getD j false = true) → ∀ j ∈ nthL i pr, listed.getD j false = true := fun i o hi ho hw j hj => by
      obtain ⟨o', ho', h1⟩ := hpre i hi
      rw [ho] at ho'; cases ho'
      exact clos_sub (nb := nb) (fun j => listed.getD j false = true) hcl i (by omega) _ (fun q hq => hw q (onsOf_iff.1 hq)) j (h1 j hj)
    have hclo : Clo pr (fun k => listed.getD k false) nb := fun k hk hkl j hj => by
      obtain ⟨o', ho', _⟩ := hpre k hk
      exact hpin k o' hk ho' (fun j hj => hcl k o' hk hkl ho' j hj) j hj
    have hil : i < listed.size := by rw [hls]; exact hisz
    have hif : listed.getD i false = false := by rw [← getD_tf i hisz]; exact hiun
    have hset : ∀ j, (listed.setIfInBounds i true).getD j false = if j = i then true else listed.getD j false := fun j => by
      by_cases e : j = i
      · subst e; simp [hil]
      · rw [if_neg e, getD_set_ne false (Ne.symm e)]
    have hnext : ∀ a' w', A (fun k => (listed.setIfInBounds i true).getD k false) a' w' → a'.tmps.size = nt → a'.defers = [] → wpAny X.P .any ops Q (m + (ops.size - nb)) (listed.setIfInBounds i true) a' w' := by
      intro a' w' hA hs hn
      refine ih _ _ _ hA hs hn (by simp [hls]) (fun j hj => ?_) (fun k ok hk hkl hok j hj => ?_) ?_
      · rw [hset, if_neg (by omega)]; exact htail j hj
      · rw [hset] at hkl ⊢
        by_cases e : j = i
        · rw [if_pos e]
        · rw [if_neg e]
          by_cases e2 : k = i
          · subst e2
            rw [ho] at hok; cases hok
            exact hwl j hj
          · rw [if_neg e2] at hkl
            exact hcl k ok hk hkl hok j hj
      · have h1 : ((List.range nb).filter fun k => !(listed.setIfInBounds i true).getD k false) = ((List.range nb).filter fun k => !listed.getD k false).erase i := by
          rw [List.Nodup.erase_eq_filter (List.Nodup.sublist List.filter_sublist List.nodup_range), List.filter_filter]
          apply List.filter_congr
          intro k _
          rw [hset]
          by_cases e : k = i
          · subst e; simp
          · simp [e]
        rw [h1, List.length_erase_of_mem (List.mem_filter.2 ⟨List.mem_range.2 hinb, by rw [hif]; rfl⟩), hm]
        rfl
    have hst := hstep (fun k => listed.getD k false) (fun k => (listed.setIfInBounds i true).getD k false) i o a w hinb ho hclo hif (fun j hj => hpin i o hinb ho hwl j hj)
      (by show (listed.setIfInBounds i true).getD i false = true; rw [hset, if_pos rfl]) (fun k hk => by show (listed.setIfInBounds i true).getD k false = _; rw [hset, if_neg hk]) hsz hA
    unfold wpOp
    rw [ho]
    simp only
    rcases hst with ⟨hW, hg⟩ | ⟨hW, hA⟩
    · rw [if_pos hW]
      left
      exact gives_wp hg fun x w' hA => hnext _ _ hA (by rw [Act.put_size']; exact hsz) (by rw [Act.put_defers']; exact hnod)
    · rw [if_neg (by rw [hW]; decide)]
      exact hnext _ _ hA (by rw [Act.put_size']; exact hsz) (by rw [Act.put_defers']; exact hnod)
end

section
variable {P : Program} {R R' : Nat → Prop} {w w' : World} {m m' : Mp} {H H' : Hp} {env : Env} {a : Act}

theorem opDoes_of {o : Oper} {p : Option Prop} {v : AVal} {e : Eff} (hop : opF P o.op env H = some ⟨p, v, e⟩) (hp : ∀ q, p = some q → q) : OpDoes P o env H v e := fun R w m a hS hE => by
  obtain ⟨x, w', m', hr, hs, hv⟩ := opF_sound (P := P) hS hE hop hp
  unfold gives
  rcases hr with hr | ⟨hr, rfl⟩
  · rw [hr]; exact ⟨R, m', hs.far, hv⟩
  · rw [hr]; exact ⟨R, m', hs.far, hv⟩

theorem operRefs_lt (hS : Sim R w m H) (hE : EnvR R w m H env a) {x : Operand} {k : Nat} : (k ∈ operRefs refs1 env x → k < H.length) ∧ (k ∈ operRefs refP env x → k < H.length) := by
  have pt : ∀ b o y, VR R w m H (.ptr b o) y → b < H.length := fun b o y h => by
    cases h with
    | ptr _ _ g hm =>
      rcases Nat.lt_or_ge b H.length with h | h
      · exact h
      · rw [hS.out b h] at hm; cases hm
  unfold operRefs
  cases ho : oper env x with
  | none => exact ⟨fun h => by simp at h, fun h => by simp at h⟩
  | some v =>
    have hv := oper_sound hE ho
    simp only
    constructor
    · intro h
      cases v with
      | sl b off len sz =>
        simp only [refs1, List.mem_singleton] at h; subst h
        generalize a.eval x = y at hv
        cases hv with
        | sl _ _ _ _ _ _ _ _ _ h4 _ _ => exact h4
      | ptr b off => simp only [refs1, List.mem_singleton] at h; subst h; exact pt _ _ _ hv
      | _ => simp [refs1] at h
    · intro h
      cases v with
      | ptr b off => simp only [refP, List.mem_singleton] at h; subst h; exact pt _ _ _ hv
      | _ => simp [refP] at h
theorem readRefs_lt (hS : Sim R w m H) (hE : EnvR R w m H env a) {op : Op} {l : List Nat} (h : readRefs env op = some l) : ∀ k ∈ l, k < H.length := by
  intro k hk
  unfold readRefs at h
  split at h <;> first
    | (cases h; simp at hk; done)
    | (cases h; exact (operRefs_lt hS hE).1 hk)
    | (cases h; exact (operRefs_lt hS hE).2 hk)
    | (split at h <;> first | (cases h; simp at hk; done) | cases h)
    | cases h
end
end Go.Proofs.Ytnbbaemijogeoaa.Ae
