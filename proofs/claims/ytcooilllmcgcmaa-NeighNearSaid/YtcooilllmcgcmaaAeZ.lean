/- Drawn regions: the theorem. No program in sight. -/
import Derived.Test.YtcooilllmcgcmaaAeV
import Derived.Test.YtcooilllmcgcmaaAeY
namespace Go.Proofs.Ytcooilllmcgcmaa.Ae
open Go
section
variable {X : Cx} {ops : Array Oper} {pss : List (List Nat)}

theorem refsE_get {t : Nat} : ∀ {env : Env}, ∀ j ∈ refs (eget t env), j ∈ refsE env
  | [], j, h => by simp [eget, refs] at h
  | (u, v) :: r, j, h => by
    simp only [eget] at h
    simp only [refsE, List.mem_append]
    cases hb : Nat.beq t u with
    | true => rw [hb] at h; exact .inl h
    | false => rw [hb] at h; exact .inr (refsE_get (env := r) j h)
theorem undefs_get {env : Env} {t : Nat} : ∀ (l : List Oper), (eget t (undefs l env) = .undef ∧ ∃ o ∈ l, o.dst = some t) ∨ (eget t (undefs l env) = eget t env ∧ ∀ o ∈ l, o.dst ≠ some t)
  | [] => .inr ⟨rfl, fun o h => by simp at h⟩
  | o :: r => by
    simp only [undefs]
    cases hd : o.dst with
    | none =>
      rcases undefs_get (env := env) (t := t) r with ⟨h1, o', h2, h3⟩ | ⟨h1, h2⟩
      · exact .inl ⟨h1, o', List.mem_cons_of_mem _ h2, h3⟩
      · exact .inr ⟨h1, fun o' ho' => by
          rcases List.mem_cons.1 ho' with rfl | ho'
          · rw [hd]; simp
          · exact h2 o' ho'⟩
    | some u =>
      simp only [putEnv, eget]
      cases hb : Nat.beq t u with
      | true => have := Nat.eq_of_beq_eq_true hb; subst this; exact .inl ⟨rfl, o, List.mem_cons_self .., hd⟩
      | false =>
        have hne : t ≠ u := fun e => by subst e; simp [Nat.beq_refl] at hb
        rcases undefs_get (env := env) (t := t) r with ⟨h1, o', h2, h3⟩ | ⟨h1, h2⟩
        · exact .inl ⟨h1, o', List.mem_cons_of_mem _ h2, h3⟩
        · exact .inr ⟨h1, fun o' ho' => by
            rcases List.mem_cons.1 ho' with rfl | ho'
            · rw [hd]; simp; exact fun e => hne e.symm
            · exact h2 o' ho'⟩
theorem predsTrans_get {all : List (List Nat)} : ∀ {l : List (List Nat)} {i : Nat}, predsTrans all i l = true → ∀ q, q < l.length → ∀ j ∈ nthL q l, j < i + q ∧ ∀ k ∈ nthL j all, k ∈ nthL q l
  | [], i, _, q, hq => by simp at hq
  | ps :: r, i, h, q, hq => by
    simp only [predsTrans, Bool.and_eq_true] at h
    cases q with
    | zero =>
      intro j hj
      exact ⟨allLt_get h.1.1 j hj, subL_get (List.all_eq_true.1 h.1.2 j hj)⟩
    | succ q =>
      intro j hj
      obtain ⟨h1, h2⟩ := predsTrans_get h.2 q (by simpa using hq) j hj
      exact ⟨by omega, h2⟩
theorem predsOk_get : ∀ {l : List (List Nat)} {i : Nat}, predsOk ops i l = true → ∀ q, q < l.length → ∃ o, ops[i + q]? = some o ∧ ∀ j ∈ nthL q l, j ∈ clos ops (i + q) (onsOf o)
  | [], i, _, q, hq => by simp at hq
  | ps :: r, i, h, q, hq => by
    simp only [predsOk, Bool.and_eq_true] at h
    cases q with
    | zero =>
      have h1 := h.1
      split at h1
      · rename_i o ho
        exact ⟨o, ho, fun j hj => elemN_iff.1 (List.all_eq_true.1 h1 j hj)⟩
      · cases h1
    | succ q =>
      obtain ⟨o, h1, h2⟩ := predsOk_get h.2 q (by simpa using hq)
      exact ⟨o, by rw [← h1]; congr 1; omega, by rw [show i + (q + 1) = i + 1 + q by omega]; exact h2⟩

structure DInv (X : Cx) (ops : Array Oper) (R1 : Nat → Prop) (w1 : World) (m1 : Mp) (H : Hp) (env0 : Env) (Df : List Done) (listed : Array Bool) (a : Act) (w : World) : Prop where
  st : At R1 w1 m1 H env0 Df (fun k => listed.getD k false) a w
  size : a.tmps.size = X.nt
  nod : a.defers = []
  lsize : listed.size = ops.size
  tail : ∀ i, Df.length ≤ i → listed.getD i false = false
  closed : ∀ k o, k < Df.length → listed.getD k false = true → ops[k]? = some o → ∀ j, waits o j = true → listed.getD j false = true

open Classical in
theorem any_of_done {env0 : Env} {H : Hp} {Df : List Done} {R1 : Nat → Prop} {w1 : World} {m1 : Mp} {Q : Exit → Act → World → Prop} (hf : Facts ops Df.length X.nt) (hseq : seqTail ops Df.length = true) (r : Ran X ops pss env0 H Df)
    (hpre : ∀ i, i < Df.length → ∃ o, ops[i]? = some o ∧ ∀ j ∈ nthL i pss, j ∈ clos ops i (onsOf o))
    (hend : ∀ a w, At R1 w1 m1 H env0 Df (fun k => decide (k < Df.length)) a w → a.tmps.size = X.nt → a.defers = [] → wpList X.P ops Q (ops.toList.drop Df.length) a w) :
    ∀ (m : Nat) (listed : Array Bool) (a : Act) (w : World), DInv X ops R1 w1 m1 H env0 Df listed a w → ((List.range Df.length).filter fun i => !listed.getD i false).length = m →
      wpAny X.P .any ops Q (m + (ops.size - Df.length)) listed a w := by
  intro m
  induction m with
  | zero =>
    intro listed a w hI hm
    have hall : ∀ i, i < Df.length → listed.getD i false = true := by
      intro i hi
      have : ((List.range Df.length).filter fun i => !listed.getD i false) = [] := List.length_eq_zero_iff.1 hm
      have h1 := List.filter_eq_nil_iff.1 this i (List.mem_range.2 hi)
      simpa using h1
    have hli : listed = listedTo ops.size Df.length := by
      apply Array.ext
      · simp [listedTo, hI.lsize]
      · intro i h1 h2
        simp only [listedTo, List.getElem_toArray, List.getElem_map, List.getElem_range]
        by_cases h : i < Df.length
        · have := hall i h
          simp [h1] at this
          simp [this, h]
        · have := hI.tail i (by omega)
          simp [h1] at this
          simp [this, h]
    have hp : (fun k => listed.getD k false) = fun k => decide (k < Df.length) := by
      funext k
      by_cases h : k < Df.length
      · rw [hall k h]; simp [h]
      · rw [hI.tail k (by omega)]; simp [h]
    rw [Nat.zero_add, hli]
    refine any_of_seq _ Df.length (by have := hf.le; omega) hseq a w (hend a w ?_ hI.size hI.nod)
    have := hI.st
    rw [hp] at this; exact this
  | succ m ih =>
    intro listed a w hI hm
    have hex : ∃ i, i < Df.length ∧ listed.getD i false = false := by
      cases hF : ((List.range Df.length).filter fun i => !listed.getD i false) with
      | nil => rw [hF] at hm; simp at hm
      | cons x r =>
        have : x ∈ ((List.range Df.length).filter fun i => !listed.getD i false) := by rw [hF]; exact List.mem_cons_self ..
        rw [List.mem_filter, List.mem_range] at this
        exact ⟨x, this.1, by simpa using this.2⟩
    obtain ⟨i0, hi0, hmin⟩ : ∃ i, (i < Df.length ∧ listed.getD i false = false) ∧ ∀ j, j < i → ¬ (j < Df.length ∧ listed.getD j false = false) := by
      obtain ⟨i, hi⟩ := hex
      induction i using Nat.strongRecOn with
      | _ i ihh =>
        by_cases h : ∃ j, j < i ∧ (j < Df.length ∧ listed.getD j false = false)
        · obtain ⟨j, hj, hj2⟩ := h
          exact ihh j hj hj2
        · exact ⟨i, hi, fun j hj hj2 => h ⟨j, hj, hj2⟩⟩
    have getD_tf : ∀ i, i < ops.size → listed.getD i true = listed.getD i false := fun i hi => by
      have : i < listed.size := by rw [hI.lsize]; exact hi
      simp [this]
    have hready0 : i0 ∈ Region.ready .any ops listed := by
      obtain ⟨o, d, ho, _, _, _, _, _, haf⟩ := hf.op i0 hi0.1
      refine mem_ready.2 ⟨by rw [getD_tf i0 (by have := hf.le; omega)]; exact hi0.2, o, ho, fun e he hb => ?_⟩
      have h1 := haf e he hb
      have h2 := hmin e.on h1
      cases h3 : listed.getD e.on false with
      | true => rfl
      | false => exact absurd ⟨by omega, h3⟩ h2
    rw [show m + 1 + (ops.size - Df.length) = (m + (ops.size - Df.length)) + 1 from by omega]
    refine ⟨fun h => (by rw [h] at hready0; cases hready0), fun i hi => ?_⟩
    obtain ⟨hiun, o, ho, hprem⟩ := mem_ready.1 hi
    have hisz : i < ops.size := (Array.getElem?_eq_some_iff.1 ho).1
    have hinb : i < Df.length := by
      by_cases h : i < Df.length
      · exact h
      · have := hf.tail i o (by omega) ho (fun j => listed.getD j false = true) (fun j hj => by
          obtain ⟨e, he, he1, he2⟩ := waits_iff.1 hj
          subst he1; exact hprem e he he2) hI.closed i0 hi0.1
        rw [hi0.2] at this
        cases this
    have hwl : ∀ j, waits o j = true → listed.getD j false = true := fun j hj => by
      obtain ⟨e, he, he1, he2⟩ := waits_iff.1 hj
      subst he1; exact hprem e he he2
    have hpin : ∀ i o, i < Df.length → ops[i]? = some o → (∀ j, waits o j = true → listed.getD j false = true) → ∀ j ∈ nthL i pss, listed.getD j false = true := fun i o hi ho hw j hj => by
      obtain ⟨o', ho', h1⟩ := hpre i hi
      rw [ho] at ho'; cases ho'
      exact clos_sub (nb := Df.length) (fun j => listed.getD j false = true) hI.closed i (by omega) _ (fun q hq => hw q (onsOf_iff.1 hq)) j (h1 j hj)
    have hclo : Clo pss (fun k => listed.getD k false) Df.length := fun k hk hkl j hj => by
      obtain ⟨o', ho', _⟩ := hpre k hk
      exact hpin k o' hk ho' (fun j hj => hI.closed k o' hk hkl ho' j hj) j hj
    obtain ⟨pre, d, D, hDf, hdi, hDl⟩ := DOk.find r.ok hinb
    have hil : i < listed.size := by rw [hI.lsize]; exact hisz
    have hif : listed.getD i false = false := by rw [← getD_tf i hisz]; exact hiun
    have hset : ∀ j, (listed.setIfInBounds i true).getD j false = if j = i then true else listed.getD j false := fun j => by
      by_cases e : j = i
      · subst e; simp [hil]
      · rw [if_neg e, getD_set_ne false (Ne.symm e)]
    have hnext : ∀ a' w', At R1 w1 m1 H env0 Df (fun k => (listed.setIfInBounds i true).getD k false) a' w' → a'.tmps.size = X.nt → a'.defers = [] → wpAny X.P .any ops Q (m + (ops.size - Df.length)) (listed.setIfInBounds i true) a' w' := by
      intro a' w' hA hs hn
      refine ih _ _ _ ⟨hA, hs, hn, by simp [hI.lsize], fun j hj => ?_, fun k ok hk hkl hok j hj => ?_⟩ ?_
      · rw [hset, if_neg (by omega)]; exact hI.tail j hj
      · rw [hset] at hkl ⊢
        by_cases e : j = i
        · rw [if_pos e]
        · rw [if_neg e]
          by_cases e2 : k = i
          · subst e2
            rw [ho] at hok; cases hok
            exact hwl j hj
          · rw [if_neg e2] at hkl
            exact hI.closed k ok hk hkl hok j hj
      · have h1 : ((List.range Df.length).filter fun k => !(listed.setIfInBounds i true).getD k false) = ((List.range Df.length).filter fun k => !listed.getD k false).erase i := by
          rw [List.Nodup.erase_eq_filter (List.Nodup.sublist List.filter_sublist List.nodup_range), List.filter_filter]
          apply List.filter_congr
          intro k _
          rw [hset]
          by_cases e : k = i
          · subst e; simp
          · simp [e]
        rw [h1, List.length_erase_of_mem (List.mem_filter.2 ⟨List.mem_range.2 hinb, by rw [hif]; rfl⟩), hm]
        rfl
    subst hDf
    obtain ⟨_, hdi', o', ho', hdo, hF⟩ := DOk.suffix r.ok
    rw [hdi, ho] at ho'; cases ho'
    have hst := At.step r (p := fun k => listed.getD k false) (p' := fun k => (listed.setIfInBounds i true).getD k false) hclo (by rw [hdi]; exact hif) (fun j hj => hpin i o hinb ho hwl j (by rw [← hdi]; exact hj))
      (by rw [hdi, hset, if_pos rfl]) (fun k hk => by show (listed.setIfInBounds i true).getD k false = _; rw [hset, if_neg (by rw [← hdi]; exact hk)]) hI.size hI.st hF
    -- is it wanted?
    have hwant : ∀ b, Want (nthL d.i pss) o D b → Region.wanted o (yielded ops a.tmps) = b := fun b hW => by
      unfold Want at hW
      unfold Region.wanted
      split at hW
      · rename_i hg; rw [hg]; exact hW.symm
      · rename_i j want hg
        rw [hg]
        obtain ⟨hj, hWc⟩ := hW
        have hjl := hpin i o hinb ho hwl j (by rw [← hdi]; exact hj)
        have hjd : j < D.length := by have := (r.tr d.i (by rw [hdi]; exact hinb) j hj).1; rw [hdi'] at this; exact this
        have hokD : DOk X ops pss env0 H D := (DOk.suffix r.ok).1
        obtain ⟨pre', e, D', hD, hei, _⟩ := DOk.find hokD hjd
        have hem : e ∈ pre ++ d :: D := List.mem_append_right _ (List.mem_cons_of_mem _ (by rw [hD]; simp))
        have hev0 : doneV j D = e.v := by
          have : ∀ (l : List Done), DOk X ops pss env0 H l → e ∈ l → doneV j l = e.v := by
            intro l
            induction l with
            | nil => intro _ h; simp at h
            | cons f l ihl =>
              intro hl hel
              simp only [doneV]
              rcases List.mem_cons.1 hel with rfl | hel
              · rw [← hei, Nat.beq_refl]; rfl
              · have h1 := DOk.lt hl.1 e hel
                have : Nat.beq j f.i = false := by
                  cases hb : Nat.beq j f.i with
                  | false => rfl
                  | true => have := Nat.eq_of_beq_eq_true hb; rw [hl.2.1] at this; omega
                rw [this]; exact ihl hl.1 hel
          exact this D hokD (by rw [hD]; simp)
        obtain ⟨oj, dj, hoj, hdj, hdn, _⟩ := hf.op j (by omega)
        obtain ⟨_, hej, oe, hoe, hde, _⟩ := DOk.suffix (pre := pre') (by rw [← hD]; exact hokD)
        rw [hei, hoj] at hoe; cases hoe
        obtain ⟨R, mm, F0, hE, _⟩ := hI.st
        have h3 := hE dj
        rw [r.own hem (by rw [hei]; exact hjl) (by rw [hde]; exact hdj), ← hev0] at h3
        have hlt : dj < a.tmps.size := by rw [hI.size]; exact hdn
        generalize hv : a.tmps.getD dj undef = v at h3
        rcases hWc with ⟨c, hc, rfl⟩ | ⟨hc, rfl⟩
        · rw [hc] at h3
          cases h3
          have hy : yielded ops a.tmps j = some c := by
            unfold yielded
            rw [hoj]
            simp only [Option.bind_some, hdj]
            simp only [Array.getD, hlt, dif_pos] at hv
            simp [hlt]
            simp at hv
            rw [hv]
          show (yielded ops a.tmps j == some want) = (c == want)
          rw [hy]; cases c <;> cases want <;> rfl
        · rw [hc] at h3
          have hv0 : v = .tuple #[] := by
            cases h3 with
            | tup cs xs h1 h2 =>
              cases xs with
              | nil => rfl
              | cons x xs => simp at h1
          have hy := yielded_none (ops := ops) (a := a) (j := j) (t := dj) (by rw [hoj]; exact hdj) (hv.trans hv0)
          show (yielded ops a.tmps j == some want) = false
          rw [hy]; cases want <;> rfl
    unfold wpOp
    rw [ho]
    simp only
    rcases hst with ⟨hW, hg⟩ | ⟨hW, hA⟩
    · rw [if_pos (hwant true hW)]
      left
      refine gives_wp hg fun x w' hA => hnext _ _ (by rw [← hdo]; exact hA) (by rw [Act.put_size']; exact hI.size) (by rw [Act.put_defers']; exact hI.nod)
    · rw [if_neg (by rw [hwant false hW]; decide)]
      exact hnext _ _ (by rw [← hdo]; exact hA) (by rw [Act.put_size']; exact hI.size) (by rw [Act.put_defers']; exact hI.nod)

theorem draw_old (hT : TSound X.P X.T) (hm : X.P.follows .mixedOrders = true) (id : Nat) {ops : Array Oper} {nb : Nat} {pss : List (List Nat)} {s : St} {K : St → Prop} (h : drawR X ops nb pss s K) : ∃ s', K s' ∧ CodeOk X (.region id ops true) s .normal s' := by
  unfold drawR at h
  simp only [chkP] at h
  cases hok : regOk ops X.nt nb pss with
  | false => rw [hok] at h; exact h.elim
  | true =>
  rw [hok] at h
  simp only [cond_true] at h
  cases hrb : allLt (refsE s.env) s.heap.length && allLt (refsBs s.heap) s.heap.length with
  | false => rw [hrb] at h; exact h.elim
  | true =>
  rw [hrb] at h
  simp only [cond_true] at h
  rw [forceL_iff] at h
  rw [Bool.and_eq_true] at hrb
  unfold regOk at hok
  simp only [Bool.and_eq_true] at hok
  obtain ⟨⟨⟨⟨htr, hfa⟩, hseq⟩, hlen⟩, hpo⟩ := hok
  have hlen := Nat.eq_of_beq_eq_true hlen
  have hf := facts_of hfa
  have hnb : (ops.toList.take nb).length = nb := by have := hf.le; simp; omega
  have htake : ∀ j, j < nb → (ops.toList.take nb)[j]? = ops[j]? := fun j hj => by rw [List.getElem?_take, if_pos hj]; simp
  obtain ⟨Df, hD, hDl, hK⟩ := drawP_sound hT (ops := ops) (pss := pss) (env0 := undefs (ops.toList.take nb) s.env) (H := s.heap) (ops.toList.take nb) pss [] _ trivial (fun j o hj => by
    rw [List.length_nil, Nat.zero_add, ← htake j (by have := (List.getElem?_eq_some_iff.1 hj).1; omega)]; exact hj) (fun j => by rw [List.length_nil, Nat.zero_add]) h
  rw [List.length_nil, Nat.zero_add, hnb] at hDl
  rw [maskEnvK_iff, maskHeapK_iff] at hK
  obtain ⟨s', hk, hs⟩ := opsP_sound hT hK
  have hdst : ∀ d ∈ Df, ∃ o u, ops[d.i]? = some o ∧ d.dst = some u ∧ o.dst = some u ∧ u < X.nt ∧ (∀ j, j < d.i → dstOf ops j ≠ some u) ∧ d.i < nb := fun d hd => by
    have hlt := DOk.lt hD d hd
    rw [hDl] at hlt
    obtain ⟨o, u, h1, h2, h3, _, h4, _⟩ := hf.op d.i hlt
    obtain ⟨pre, D', hsp⟩ := split_mem hd
    obtain ⟨_, _, o', h5, h6, _⟩ := DOk.suffix (pre := pre) (by rw [← hsp]; exact hD)
    rw [h1] at h5; cases h5
    exact ⟨o, u, h1, by rw [h6]; exact h2, h2, h3, h4, hlt⟩
  have r : Ran X ops pss (undefs (ops.toList.take nb) s.env) s.heap Df := by
    refine ⟨hD, fun d hd e he t hdt het => ?_, hrb.2, fun t j hj => ?_, fun d hd t hdt => ?_, fun i hi j hj => ?_, fun d hd => ?_⟩
    · obtain ⟨o, u, h1, h2, h3, h4, h5, _⟩ := hdst d hd
      obtain ⟨o', u', g1, g2, g3, g4, g5, _⟩ := hdst e he
      rw [hdt] at h2; cases h2
      rw [het] at g2; cases g2
      rcases Nat.lt_trichotomy d.i e.i with hl | hl | hl
      · exact absurd (show dstOf ops d.i = some t by unfold dstOf; rw [h1]; exact h3) (g5 d.i hl)
      · exact hl
      · exact absurd (show dstOf ops e.i = some t by unfold dstOf; rw [g1]; exact g3) (h5 e.i hl)
    · rcases undefs_get (env := s.env) (t := t) (ops.toList.take nb) with ⟨h1, _⟩ | ⟨h1, _⟩
      · rw [h1] at hj; simp [refs] at hj
      · rw [h1] at hj; exact allLt_get hrb.1 j (refsE_get j hj)
    · obtain ⟨o, u, h1, h2, h3, _, _, h6⟩ := hdst d hd
      rcases undefs_get (env := s.env) (t := t) (ops.toList.take nb) with ⟨g1, _⟩ | ⟨_, g2⟩
      · exact g1
      · rw [hdt] at h2; cases h2
        exact absurd h3 (g2 o (List.mem_of_getElem? (by rw [htake d.i h6]; exact h1)))
    · have := predsTrans_get htr i (by omega) j hj
      rw [Nat.zero_add] at this; exact this
    · obtain ⟨o, u, _, h2, _, h4, _⟩ := hdst d hd
      rw [h2]; exact Nat.ble_eq_true_of_le h4
  refine ⟨s', hk, fun R0 w0 m0 H0 _ _ a w hI => wp_region_any hm ?_⟩
  obtain ⟨⟨R, m, F0, hE⟩, hsz, hnd⟩ := hI
  have hdr := F0.sim.drew
  have F1 := F0.trans hdr.far
  have hE1 := hE.far hdr.far F0.sim
  have hrep : ∀ i, (Array.replicate ops.size false).getD i false = false := fun i => by
    rw [Array.getD_eq_getD_getElem?, Array.getElem?_replicate]; split <;> rfl
  have hh : ∀ k, hget k (mHeap (fun k => (Array.replicate ops.size false).getD k false) s.heap Df) = hget k s.heap := by
    intro k
    have : ∀ D : List Done, hget k (mHeap (fun k => (Array.replicate ops.size false).getD k false) s.heap D) = hget k s.heap := by
      intro D
      induction D with
      | nil => rfl
      | cons d D ih =>
        rcases Nat.lt_or_ge k (mHeap (fun k => (Array.replicate ops.size false).getD k false) s.heap D).length with hlt | hge
        · simp only [mHeap]; rw [hget_append_lt hlt]; exact ih
        · have e : k = (mHeap (fun k => (Array.replicate ops.size false).getD k false) s.heap D).length + (k - (mHeap (fun k => (Array.replicate ops.size false).getD k false) s.heap D).length) := by omega
          have := mHeap_base_le (fun k => (Array.replicate ops.size false).getD k false) s.heap D
          rw [hget_out (H := s.heap) (by omega), e, mHeap_new]
          simp only [hrep]; rfl
    exact this Df
  have hhl := mHeap_base_le (fun k => (Array.replicate ops.size false).getD k false) s.heap Df
  have hS1 : Sim R w.drew m s.heap := hdr.sim
  have hext : ∀ k, k < s.heap.length → hget k (mHeap (fun k => (Array.replicate ops.size false).getD k false) s.heap Df) = .dead ∨ (hget k s.heap ≠ .dead ∧ (hget k (mHeap (fun k => (Array.replicate ops.size false).getD k false) s.heap Df)).len = (hget k s.heap).len) := fun k hk => by
    rw [hh]; exact hext_self _ k hk
  have hS2 : Sim R w.drew m (mHeap (fun k => (Array.replicate ops.size false).getD k false) s.heap Df) := by
    refine ⟨hS1.rlt, fun k hk => hS1.out k (by omega), fun k g hk hg => ?_, fun k hk hg => ?_, fun k k' g hk hk' => ?_⟩
    · rw [hh] at hk ⊢
      obtain ⟨a1, xs, e, fr, a2, a3, a4, a5⟩ := hS1.own k g hk hg
      exact ⟨a1, xs, e, fr, a2, a3, a4, a5.mono (fun _ h => h) (fun _ _ => rfl) (fun _ _ h => h) (fun _ _ h => h) hhl hext⟩
    · rw [hh] at hk ⊢; exact hS1.ph k hk hg
    · rw [hh] at hk hk'; exact hS1.inj k k' g hk hk'
  have F2 : Far R w.drew m s.heap R w.drew m (mHeap (fun k => (Array.replicate ops.size false).getD k false) s.heap Df) :=
    ⟨fun _ h => h, fun _ h => .inl h, hS2, rfl, rfl, rfl, Nat.le_refl _, fun _ _ => rfl, fun _ _ _ => rfl, fun _ _ h => h, hhl, hext, fun k g hk hg => .inr ⟨k, by rw [hh] at hk; exact hk, hg⟩, fun _ _ => rfl⟩
  have hA0 : At R w.drew m s.heap (undefs (ops.toList.take nb) s.env) Df (fun k => (Array.replicate ops.size false).getD k false) a w.drew := by
    refine ⟨R, m, F2, fun t => ?_, fun pre d D _ _ q _ => hS1.out _ ?_⟩
    · rw [mEnv_no fun d _ hp _ => by rw [hrep] at hp; cases hp]
      rcases undefs_get (env := s.env) (t := t) (ops.toList.take nb) with ⟨h1, _⟩ | ⟨h1, _⟩
      · rw [h1]; exact .undef _
      · rw [h1]; exact (hE1 t).far F2 hS1
    · have := mHeap_base_le (fun k => (Array.replicate ops.size false).getD k false) s.heap D; omega
  have key := any_of_done (X := X) (ops := ops) (pss := pss) (Q := fun e1 a1 w1 => ExR .normal e1 ∧ Inv X.nt R0 w0 m0 H0 a1 w1 s') (R1 := R) (w1 := w.drew) (m1 := m) (by rw [hDl]; exact hf) (by rw [hDl]; exact hseq) r (fun i hi => by
      obtain ⟨o, h1, h2⟩ := predsOk_get hpo i (by omega)
      rw [Nat.zero_add] at h1 h2
      exact ⟨o, h1, h2⟩) (fun a' w' hA hs' hn' => by
      obtain ⟨R', m', F3, hE3, _⟩ := hA
      rw [hDl]
      have hmem : ∀ d ∈ Df, decide (d.i < Df.length) = elemN d.i (Df.map (·.i)) := fun d hd => by
        rw [elemN_iff.2 (List.mem_map.2 ⟨d, hd, rfl⟩)]
        simpa using DOk.lt hD d hd
      have e1 : mHeap (fun k => decide (k < Df.length)) s.heap Df = mHeap (fun k => elemN k (Df.map (·.i))) s.heap Df := mHeap_congr _ _ _ hmem
      rw [e1] at F3 hE3
      refine hs R0 w0 m0 H0 a' w' ⟨⟨R', m', F1.trans F3, fun t => ?_⟩, hs', hn'⟩ _ fun a2 w2 hI2 => ⟨rfl, hI2⟩
      have h3 := hE3 t
      by_cases hex : ∃ d ∈ Df, d.dst = some t
      · obtain ⟨d, hd, hdt⟩ := hex
        rw [r.own hd (by simpa using DOk.lt hD d hd) hdt] at h3
        obtain ⟨pre, D', rfl⟩ := split_mem hd
        have h4 : eget t (mEnv (fun k => elemN k ((pre ++ d :: D').map (·.i))) s.env (pre ++ d :: D')) = d.v := mEnv_own (r.dist.pre (DOk.apart r.ok).1 hdt) (elemN_iff.2 (List.mem_map.2 ⟨d, hd, rfl⟩)) hdt
        show VR _ _ _ _ (eget t (mEnv (fun k => elemN k ((pre ++ d :: D').map (·.i))) s.env (pre ++ d :: D'))) _
        rw [h4]; exact h3
      · rw [mEnv_no fun d hd _ hdt => hex ⟨d, hd, hdt⟩] at h3
        show VR _ _ _ _ (eget t (mEnv (fun k => elemN k (Df.map (·.i))) s.env Df)) _
        rw [mEnv_no fun d hd _ hdt => hex ⟨d, hd, hdt⟩]
        rcases undefs_get (env := s.env) (t := t) (ops.toList.take nb) with ⟨_, o, ho, hot⟩ | ⟨h1, _⟩
        · exfalso
          obtain ⟨j, hj⟩ := List.getElem?_of_mem ho
          have hjl : j < nb := by have := (List.getElem?_eq_some_iff.1 hj).1; omega
          obtain ⟨pre, d, D', hsp, hdi, _⟩ := DOk.find hD (show j < Df.length by omega)
          have hdm : d ∈ Df := by rw [hsp]; simp
          obtain ⟨o', u, g1, g2, g3, _⟩ := hdst d hdm
          rw [hdi, ← htake j hjl, hj] at g1; cases g1
          rw [hot] at g3; cases g3
          exact hex ⟨d, hdm, g2⟩
        · rw [h1] at h3; exact h3) nb (Array.replicate ops.size false) a w.drew
    ⟨hA0, hsz, hnd, by simp, fun i _ => hrep i, fun k o _ hkl => by rw [hrep] at hkl; cases hkl⟩ (by
      have : ∀ (r : List Nat), (r.filter fun i => !(Array.replicate ops.size false).getD i false) = r := fun r => by
        apply List.filter_eq_self.2
        intro i _
        rw [hrep i]; rfl
      rw [this, hDl]; simp)
  have e : nb + (ops.size - Df.length) = ops.size := by have := hf.le; omega
  rw [e] at key
  exact key


end
end Go.Proofs.Ytcooilllmcgcmaa.Ae
