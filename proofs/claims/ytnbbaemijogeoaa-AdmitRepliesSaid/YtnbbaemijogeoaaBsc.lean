/- Drawn regions: the theorem. No program in sight. Drawn regions in which what changes memory comes up one behind the other. No program in sight. Drawn regions in which what changes memory comes up one behind the other: any order that may be drawn. No program in sight. Drawn regions: both kinds; a function's text is sound. No program in sight. Regions of operations that change no memory, in any order; all kinds of regions; a function's text is sound. No program in sight. From 'the walk returns true and writes nothing that was there' to the given statement: for every law of this seat. Opening what came in. A law's arguments as the evaluator's values; what a law's walk wants. No program in sight. Tables, one function at a time; places in code. No program in sight. What the functions of package cksum, and of its reference, come to. What cksum.Sum, and its reference, come to. The reference's Sum, and both Changes. Chapter 1's functions as rows of a table. Chapter 1's functions as a table. Two bytes as one number. No program in sight. Numbers, lists of bytes: normal forms. No program in sight. What chapter 3's functions compute. No program in sight. Chapter 3's functions as a table. -/
import Derived.Test.YtnbbaemijogeoaaBsb
import Derived.Test.YtnbbaemijogeoaaRows
import Derived.Test.YtnbbaemijogeoaaBsa
import Derived.ProofKit
import Derived.OpenShut
import Derived.JoinedCond
import Derived.SizedLaws
import Derived.Test.YtnbbaemijogeoaaProg
import Derived.BigQuiet
import Derived.Deep.QuietTactic
import Derived.Deep.LoopGhost
import Derived.Laws.BitsAllLaws
namespace Go.Proofs.Ytnbbaemijogeoaa.Ae
open Go
section
variable {X : Cx} {ops : Array Oper} {pss : List (List Nat)}

theorem refsE_get {t : Nat} : ∀ {env : Env}, ∀ j ∈ refs (eget t env), j ∈ refsE env
  | [], j, h => by simp [eget, refs] at h
  | (u, v) :: r, j, h => by
    simp only [eget] at h
    simp only [refsE, List.mem_append]
    cases hb : Nat.beq t u with
    | true => rw [hb] at h; exact .inl h
    | false => rw [hb] at h; exact .inr (refsE_get (env := r) j h)
theorem undefs_get {env : Env} {t : Nat} : ∀ (l : List Oper), (eget t (undefs l env) = .undef ∧ ∃ o ∈ l, o.dst = some t) ∨ (eget t (undefs l env) = eget t env ∧ ∀ o ∈ l, o.dst ≠ some t)
  | [] => .inr ⟨rfl, fun o h => by simp at h⟩
  | o :: r => by
    simp only [undefs]
    cases hd : o.dst with
    | none =>
      rcases undefs_get (env := env) (t := t) r with ⟨h1, o', h2, h3⟩ | ⟨h1, h2⟩
      · exact .inl ⟨h1, o', List.mem_cons_of_mem _ h2, h3⟩
      · exact .inr ⟨h1, fun o' ho' => by
          rcases List.mem_cons.1 ho' with rfl | ho'
          · rw [hd]; simp
          · exact h2 o' ho'⟩
    | some u =>
      simp only [putEnv, eget]
      cases hb : Nat.beq t u with
      | true => have := Nat.eq_of_beq_eq_true hb; subst this; exact .inl ⟨rfl, o, List.mem_cons_self .., hd⟩
      | false =>
        have hne : t ≠ u := fun e => by subst e; simp [Nat.beq_refl] at hb
        rcases undefs_get (env := env) (t := t) r with ⟨h1, o', h2, h3⟩ | ⟨h1, h2⟩
        · exact .inl ⟨h1, o', List.mem_cons_of_mem _ h2, h3⟩
        · exact .inr ⟨h1, fun o' ho' => by
            rcases List.mem_cons.1 ho' with rfl | ho'
            · rw [hd]; simp; exact fun e => hne e.symm
            · exact h2 o' ho'⟩
theorem undefsX_get {i t : Nat} {env : Env} : ∀ (l : List Oper) (pss : List (List Nat)), (eget t (undefsX i l pss env) = .undef ∧ ∃ (j : Nat) (o : Oper), l[j]? = some o ∧ o.dst = some t) ∨
    (eget t (undefsX i l pss env) = eget t env ∧ ∀ (j : Nat) (o : Oper), l[j]? = some o → o.dst = some t → i ∈ nthL j pss)
  | [], _ => .inr ⟨rfl, fun j o h => by simp at h⟩
  | o :: r, pss => by
    have put : ∀ (qs : List (List Nat)), (eget t (undefsX i r qs env) = .undef ∧ ∃ (j : Nat) (o : Oper), r[j]? = some o ∧ o.dst = some t) ∨ (eget t (undefsX i r qs env) = eget t env ∧ ∀ (j : Nat) (o : Oper), r[j]? = some o → o.dst = some t → i ∈ nthL j qs) →
        (eget t (putEnv o.dst .undef (undefsX i r qs env)) = .undef ∧ ∃ (j : Nat) (o' : Oper), (o :: r)[j]? = some o' ∧ o'.dst = some t) ∨ (o.dst ≠ some t ∧ eget t (putEnv o.dst .undef (undefsX i r qs env)) = eget t (undefsX i r qs env)) := fun qs _ => by
      by_cases h : o.dst = some t
      · left
        rw [h]
        exact ⟨by simp [putEnv, eget], 0, o, rfl, h⟩
      · right
        refine ⟨h, ?_⟩
        cases hd : o.dst with
        | none => rfl
        | some u =>
          have hu : t ≠ u := fun e => h (by rw [hd, e])
          simp only [putEnv, eget]
          have : Nat.beq t u = false := by cases hb : Nat.beq t u with
            | true => exact absurd (Nat.eq_of_beq_eq_true hb) hu
            | false => rfl
          rw [this]; rfl
    cases pss with
    | nil =>
      have ih := undefsX_get (i := i) (t := t) (env := env) r []
      show (eget t (putEnv o.dst .undef (undefsX i r [] env)) = .undef ∧ _) ∨ (eget t (putEnv o.dst .undef (undefsX i r [] env)) = eget t env ∧ _)
      rcases put [] ih with h | ⟨h1, h2⟩
      · exact .inl h
      · rw [h2]
        rcases ih with ⟨g, j, o', g1, g2⟩ | ⟨g, g1⟩
        · exact .inl ⟨g, j + 1, o', by simpa using g1, g2⟩
        · refine .inr ⟨g, fun j o' hj hd => ?_⟩
          cases j with
          | zero => simp at hj; subst hj; exact absurd hd h1
          | succ j => have := g1 j o' (by simpa using hj) hd; simp [nthL] at this
    | cons ps pss =>
      have ih := undefsX_get (i := i) (t := t) (env := env) r pss
      show (eget t (cond (elemN i ps) (undefsX i r pss env) (putEnv o.dst .undef (undefsX i r pss env))) = .undef ∧ _) ∨ (eget t (cond (elemN i ps) (undefsX i r pss env) (putEnv o.dst .undef (undefsX i r pss env))) = eget t env ∧ _)
      cases he : elemN i ps with
      | true =>
        simp only [cond_true]
        rcases ih with ⟨g, j, o', g1, g2⟩ | ⟨g, g1⟩
        · exact .inl ⟨g, j + 1, o', by simpa using g1, g2⟩
        · refine .inr ⟨g, fun j o' hj hd => ?_⟩
          cases j with
          | zero => exact elemN_iff.1 he
          | succ j => exact g1 j o' (by simpa using hj) hd
      | false =>
        simp only [cond_false]
        rcases put pss ih with h | ⟨h1, h2⟩
        · exact .inl h
        · rw [h2]
          rcases ih with ⟨g, j, o', g1, g2⟩ | ⟨g, g1⟩
          · exact .inl ⟨g, j + 1, o', by simpa using g1, g2⟩
          · refine .inr ⟨g, fun j o' hj hd => ?_⟩
            cases j with
            | zero => simp at hj; subst hj; exact absurd hd h1
            | succ j => exact g1 j o' (by simpa using hj) hd
theorem predsTrans_get {all : List (List Nat)} : ∀ {l : List (List Nat)} {i : Nat}, predsTrans all i l = true → ∀ q, q < l.length → ∀ j ∈ nthL q l, j < i + q ∧ ∀ k ∈ nthL j all, k ∈ nthL q l
  | [], i, _, q, hq => by simp at hq
  | ps :: r, i, h, q, hq => by
    simp only [predsTrans, Bool.and_eq_true] at h
    cases q with
    | zero =>
      intro j hj
      exact ⟨allLt_get h.1.1 j hj, subL_get (List.all_eq_true.1 h.1.2 j hj)⟩
    | succ q =>
      intro j hj
      obtain ⟨h1, h2⟩ := predsTrans_get h.2 q (by simpa using hq) j hj
      exact ⟨by omega, h2⟩
theorem predsOk_get : ∀ {l : List (List Nat)} {i : Nat}, predsOk ops i l = true → ∀ q, q < l.length → ∃ o, ops[i + q]? = some o ∧ ∀ j ∈ nthL q l, j ∈ clos ops (i + q) (onsOf o)
  | [], i, _, q, hq => by simp at hq
  | ps :: r, i, h, q, hq => by
    simp only [predsOk, Bool.and_eq_true] at h
    cases q with
    | zero =>
      have h1 := h.1
      split at h1
      · rename_i o ho
        exact ⟨o, ho, fun j hj => elemN_iff.1 (List.all_eq_true.1 h1 j hj)⟩
      · cases h1
    | succ q =>
      obtain ⟨o, h1, h2⟩ := predsOk_get h.2 q (by simpa using hq)
      exact ⟨o, by rw [← h1]; congr 1; omega, by rw [show i + (q + 1) = i + 1 + q by omega]; exact h2⟩

structure DInv (X : Cx) (ops : Array Oper) (R1 : Nat → Prop) (w1 : World) (m1 : Mp) (H : Hp) (env0 : Env) (Df : List Done) (listed : Array Bool) (a : Act) (w : World) : Prop where
  st : At R1 w1 m1 H env0 Df (fun k => listed.getD k false) a w
  size : a.tmps.size = X.nt
  nod : a.defers = []
  lsize : listed.size = ops.size
  tail : ∀ i, Df.length ≤ i → listed.getD i false = false
  closed : ∀ k o, k < Df.length → listed.getD k false = true → ops[k]? = some o → ∀ j, waits o j = true → listed.getD j false = true

open Classical in
theorem any_of_done {env0 : Env} {H : Hp} {Df : List Done} {R1 : Nat → Prop} {w1 : World} {m1 : Mp} {Q : Exit → Act → World → Prop} (hf : Facts ops Df.length X.nt) (hseq : seqTail ops Df.length = true) (r : Ran X ops pss env0 H Df)
    (hpre : ∀ i, i < Df.length → ∃ o, ops[i]? = some o ∧ ∀ j ∈ nthL i pss, j ∈ clos ops i (onsOf o))
    (hend : ∀ a w, At R1 w1 m1 H env0 Df (fun k => decide (k < Df.length)) a w → a.tmps.size = X.nt → a.defers = [] → wpList X.P ops Q (ops.toList.drop Df.length) a w) :
    ∀ (m : Nat) (listed : Array Bool) (a : Act) (w : World), DInv X ops R1 w1 m1 H env0 Df listed a w → ((List.range Df.length).filter fun i => !listed.getD i false).length = m →
      wpAny X.P .any ops Q (m + (ops.size - Df.length)) listed a w := by
  intro m
  induction m with
  | zero =>
    intro listed a w hI hm
    have hall : ∀ i, i < Df.length → listed.getD i false = true := by
      intro i hi
      have : ((List.range Df.length).filter fun i => !listed.getD i false) = [] := List.length_eq_zero_iff.1 hm
      have h1 := List.filter_eq_nil_iff.1 this i (List.mem_range.2 hi)
      simpa using h1
    have hli : listed = listedTo ops.size Df.length := by
      apply Array.ext
      · simp [listedTo, hI.lsize]
      · intro i h1 h2
        simp only [listedTo, List.getElem_toArray, List.getElem_map, List.getElem_range]
        by_cases h : i < Df.length
        · have := hall i h
          simp [h1] at this
          simp [this, h]
        · have := hI.tail i (by omega)
          simp [h1] at this
          simp [this, h]
    have hp : (fun k => listed.getD k false) = fun k => decide (k < Df.length) := by
      funext k
      by_cases h : k < Df.length
      · rw [hall k h]; simp [h]
      · rw [hI.tail k (by omega)]; simp [h]
    rw [Nat.zero_add, hli]
    refine any_of_seq _ Df.length (by have := hf.le; omega) hseq a w (hend a w ?_ hI.size hI.nod)
    have := hI.st
    rw [hp] at this; exact this
  | succ m ih =>
    intro listed a w hI hm
    have hex : ∃ i, i < Df.length ∧ listed.getD i false = false := by
      cases hF : ((List.range Df.length).filter fun i => !listed.getD i false) with
      | nil => rw [hF] at hm; simp at hm
      | cons x r =>
        have : x ∈ ((List.range Df.length).filter fun i => !listed.getD i false) := by rw [hF]; exact List.mem_cons_self ..
        rw [List.mem_filter, List.mem_range] at this
        exact ⟨x, this.1, by simpa using this.2⟩
    obtain ⟨i0, hi0, hmin⟩ : ∃ i, (i < Df.length ∧ listed.getD i false = false) ∧ ∀ j, j < i → ¬ (j < Df.length ∧ listed.getD j false = false) := by
      obtain ⟨i, hi⟩ := hex
      induction i using Nat.strongRecOn with
      | _ i ihh =>
        by_cases h : ∃ j, j < i ∧ (j < Df.length ∧ listed.getD j false = false)
        · obtain ⟨j, hj, hj2⟩ := h
          exact ihh j hj hj2
        · exact ⟨i, hi, fun j hj hj2 => h ⟨j, hj, hj2⟩⟩
    have getD_tf : ∀ i, i < ops.size → listed.getD i true = listed.getD i false := fun i hi => by
      have : i < listed.size := by rw [hI.lsize]; exact hi
      simp [this]
    have hready0 : i0 ∈ Region.ready .any ops listed := by
      obtain ⟨o, d, ho, _, _, _, _, _, haf⟩ := hf.op i0 hi0.1
      refine mem_ready.2 ⟨by rw [getD_tf i0 (by have := hf.le; omega)]; exact hi0.2, o, ho, fun e he hb => ?_⟩
      have h1 := haf e he hb
      have h2 := hmin e.on h1
      cases h3 : listed.getD e.on false with
      | true => rfl
      | false => exact absurd ⟨by omega, h3⟩ h2
    rw [show m + 1 + (ops.size - Df.length) = (m + (ops.size - Df.length)) + 1 from by omega]
    refine ⟨fun h => (by rw [h] at hready0; cases hready0), fun i hi => ?_⟩
    obtain ⟨hiun, o, ho, hprem⟩ := mem_ready.1 hi
    have hisz : i < ops.size := (Array.getElem?_eq_some_iff.1 ho).1
    have hinb : i < Df.length := by
      by_cases h : i < Df.length
      · exact h
      · have := hf.tail i o (by omega) ho (fun j => listed.getD j false = true) (fun j hj => by
          obtain ⟨e, he, he1, he2⟩ := waits_iff.1 hj
          subst he1; exact hprem e he he2) hI.closed i0 hi0.1
        rw [hi0.2] at this
        cases this
    have hwl : ∀ j, waits o j = true → listed.getD j false = true := fun j hj => by
      obtain ⟨e, he, he1, he2⟩ := waits_iff.1 hj
      subst he1; exact hprem e he he2
    have hpin : ∀ i o, i < Df.length → ops[i]? = some o → (∀ j, waits o j = true → listed.getD j false = true) → ∀ j ∈ nthL i pss, listed.getD j false = true := fun i o hi ho hw j hj => by
      obtain ⟨o', ho', h1⟩ := hpre i hi
      rw [ho] at ho'; cases ho'
      exact clos_sub (nb := Df.length) (fun j => listed.getD j false = true) hI.closed i (by omega) _ (fun q hq => hw q (onsOf_iff.1 hq)) j (h1 j hj)
    have hclo : Clo pss (fun k => listed.getD k false) Df.length := fun k hk hkl j hj => by
      obtain ⟨o', ho', _⟩ := hpre k hk
      exact hpin k o' hk ho' (fun j hj => hI.closed k o' hk hkl ho' j hj) j hj
    obtain ⟨pre, d, D, hDf, hdi, hDl⟩ := DOk.find r.ok hinb
    have hil : i < listed.size := by rw [hI.lsize]; exact hisz
    have hif : listed.getD i false = false := by rw [← getD_tf i hisz]; exact hiun
    have hset : ∀ j, (listed.setIfInBounds i true).getD j false = if j = i then true else listed.getD j false := fun j => by
      by_cases e : j = i
      · subst e; simp [hil]
      · rw [if_neg e, getD_set_ne false (Ne.symm e)]
    have hnext : ∀ a' w', At R1 w1 m1 H env0 Df (fun k => (listed.setIfInBounds i true).getD k false) a' w' → a'.tmps.size = X.nt → a'.defers = [] → wpAny X.P .any ops Q (m + (ops.size - Df.length)) (listed.setIfInBounds i true) a' w' := by
      intro a' w' hA hs hn
      refine ih _ _ _ ⟨hA, hs, hn, by simp [hI.lsize], fun j hj => ?_, fun k ok hk hkl hok j hj => ?_⟩ ?_
      · rw [hset, if_neg (by omega)]; exact hI.tail j hj
      · rw [hset] at hkl ⊢
        by_cases e : j = i
        · rw [if_pos e]
        · rw [if_neg e]
          by_cases e2 : k = i
          · subst e2
            rw [ho] at hok; cases hok
            exact hwl j hj
          · rw [if_neg e2] at hkl
            exact hI.closed k ok hk hkl hok j hj
      · have h1 : ((List.range Df.length).filter fun k => !(listed.setIfInBounds i true).getD k false) = ((List.range Df.length).filter fun k => !listed.getD k false).erase i := by
          rw [List.Nodup.erase_eq_filter (List.Nodup.sublist List.filter_sublist List.nodup_range), List.filter_filter]
          apply List.filter_congr
          intro k _
          rw [hset]
          by_cases e : k = i
          · subst e; simp
          · simp [e]
        rw [h1, List.length_erase_of_mem (List.mem_filter.2 ⟨List.mem_range.2 hinb, by rw [hif]; rfl⟩), hm]
        rfl
    subst hDf
    obtain ⟨_, hdi', o', ho', hdo, hF⟩ := DOk.suffix r.ok
    rw [hdi, ho] at ho'; cases ho'
    have hst := At.step r (p := fun k => listed.getD k false) (p' := fun k => (listed.setIfInBounds i true).getD k false) hclo (by rw [hdi]; exact hif) (fun j hj => hpin i o hinb ho hwl j (by rw [← hdi]; exact hj))
      (by rw [hdi, hset, if_pos rfl]) (fun k hk => by show (listed.setIfInBounds i true).getD k false = _; rw [hset, if_neg (by rw [← hdi]; exact hk)]) hI.size hI.st hF
    -- is it wanted?
    have hwant : ∀ b, Want (nthL d.i pss) o D b → Region.wanted o (yielded ops a.tmps) = b := fun b hW => by
      unfold Want at hW
      unfold Region.wanted
      split at hW
      · rename_i hg; rw [hg]; exact hW.symm
      · rename_i j want hg
        rw [hg]
        obtain ⟨hj, hWc⟩ := hW
        have hjl := hpin i o hinb ho hwl j (by rw [← hdi]; exact hj)
        have hjd : j < D.length := by have := (r.tr d.i (by rw [hdi]; exact hinb) j hj).1; rw [hdi'] at this; exact this
        have hokD : DOk X ops pss env0 H D := (DOk.suffix r.ok).1
        obtain ⟨pre', e, D', hD, hei, _⟩ := DOk.find hokD hjd
        have hem : e ∈ pre ++ d :: D := List.mem_append_right _ (List.mem_cons_of_mem _ (by rw [hD]; simp))
        have hev0 : doneV j D = e.v := by
          have : ∀ (l : List Done), DOk X ops pss env0 H l → e ∈ l → doneV j l = e.v := by
            intro l
            induction l with
            | nil => intro _ h; simp at h
            | cons f l ihl =>
              intro hl hel
              simp only [doneV]
              rcases List.mem_cons.1 hel with rfl | hel
              · rw [← hei, Nat.beq_refl]; rfl
              · have h1 := DOk.lt hl.1 e hel
                have : Nat.beq j f.i = false := by
                  cases hb : Nat.beq j f.i with
                  | false => rfl
                  | true => have := Nat.eq_of_beq_eq_true hb; rw [hl.2.1] at this; omega
                rw [this]; exact ihl hl.1 hel
          exact this D hokD (by rw [hD]; simp)
        obtain ⟨oj, dj, hoj, hdj, hdn, _⟩ := hf.op j (by omega)
        obtain ⟨_, hej, oe, hoe, hde, _⟩ := DOk.suffix (pre := pre') (by rw [← hD]; exact hokD)
        rw [hei, hoj] at hoe; cases hoe
        obtain ⟨R, mm, F0, hE, _⟩ := hI.st
        have h3 := hE dj
        rw [r.own hem (by rw [hei]; exact hjl) (by rw [hde]; exact hdj), ← hev0] at h3
        have hlt : dj < a.tmps.size := by rw [hI.size]; exact hdn
        generalize hv : a.tmps.getD dj undef = v at h3
        rcases hWc with ⟨c, hc, rfl⟩ | ⟨hc, rfl⟩
        · rw [hc] at h3
          cases h3
          have hy : yielded ops a.tmps j = some c := by
            unfold yielded
            rw [hoj]
            simp only [Option.bind_some, hdj]
            simp only [Array.getD, hlt, dif_pos] at hv
            simp [hlt]
            simp at hv
            rw [hv]
          show (yielded ops a.tmps j == some want) = (c == want)
          rw [hy]; cases c <;> cases want <;> rfl
        · rw [hc] at h3
          have hv0 : v = .tuple #[] := by
            cases h3 with
            | tup cs xs h1 h2 =>
              cases xs with
              | nil => rfl
              | cons x xs => simp at h1
          have hy := yielded_none (ops := ops) (a := a) (j := j) (t := dj) (by rw [hoj]; exact hdj) (hv.trans hv0)
          show (yielded ops a.tmps j == some want) = false
          rw [hy]; cases want <;> rfl
    unfold wpOp
    rw [ho]
    simp only
    rcases hst with ⟨hW, hg⟩ | ⟨hW, hA⟩
    · rw [if_pos (hwant true hW)]
      left
      refine gives_wp hg fun x w' hA => hnext _ _ (by rw [← hdo]; exact hA) (by rw [Act.put_size']; exact hI.size) (by rw [Act.put_defers']; exact hI.nod)
    · rw [if_neg (by rw [hwant false hW]; decide)]
      exact hnext _ _ (by rw [← hdo]; exact hA) (by rw [Act.put_size']; exact hI.size) (by rw [Act.put_defers']; exact hI.nod)

theorem draw_old (hT : TSound X.P X.T) {ops : Array Oper} {nb : Nat} {pss : List (List Nat)} {s : St} {K : St → Prop} (h : drawR X ops nb pss s K) : ∃ s', K s' ∧ AnyOk X ops s s' := by
  unfold drawR at h
  simp only [chkP] at h
  cases hok : regOk ops X.nt nb pss with
  | false => rw [hok] at h; exact h.elim
  | true =>
  rw [hok] at h
  simp only [cond_true] at h
  cases hrb : allLt (refsE s.env) s.heap.length && allLt (refsBs s.heap) s.heap.length with
  | false => rw [hrb] at h; exact h.elim
  | true =>
  rw [hrb] at h
  simp only [cond_true] at h
  rw [forceL_iff] at h
  rw [Bool.and_eq_true] at hrb
  unfold regOk at hok
  simp only [Bool.and_eq_true] at hok
  obtain ⟨⟨⟨⟨htr, hfa⟩, hseq⟩, hlen⟩, hpo⟩ := hok
  have hlen := Nat.eq_of_beq_eq_true hlen
  have hf := facts_of hfa
  have hnb : (ops.toList.take nb).length = nb := by have := hf.le; simp; omega
  have htake : ∀ j, j < nb → (ops.toList.take nb)[j]? = ops[j]? := fun j hj => by rw [List.getElem?_take, if_pos hj]; simp
  obtain ⟨Df, hD, hDl, hK⟩ := drawP_sound hT (ops := ops) (pss := pss) (env0 := undefs (ops.toList.take nb) s.env) (H := s.heap) (ops.toList.take nb) pss [] _ trivial (fun j o hj => by
    rw [List.length_nil, Nat.zero_add, ← htake j (by have := (List.getElem?_eq_some_iff.1 hj).1; omega)]; exact hj) (fun j => by rw [List.length_nil, Nat.zero_add]) h
  rw [List.length_nil, Nat.zero_add, hnb] at hDl
  rw [maskEnvK_iff, maskHeapK_iff] at hK
  obtain ⟨s', hk, hs⟩ := opsP_sound hT hK
  have hdst : ∀ d ∈ Df, ∃ o u, ops[d.i]? = some o ∧ d.dst = some u ∧ o.dst = some u ∧ u < X.nt ∧ (∀ j, j < d.i → dstOf ops j ≠ some u) ∧ d.i < nb := fun d hd => by
    have hlt := DOk.lt hD d hd
    rw [hDl] at hlt
    obtain ⟨o, u, h1, h2, h3, _, h4, _⟩ := hf.op d.i hlt
    obtain ⟨pre, D', hsp⟩ := split_mem hd
    obtain ⟨_, _, o', h5, h6, _⟩ := DOk.suffix (pre := pre) (by rw [← hsp]; exact hD)
    rw [h1] at h5; cases h5
    exact ⟨o, u, h1, by rw [h6]; exact h2, h2, h3, h4, hlt⟩
  have r : Ran X ops pss (undefs (ops.toList.take nb) s.env) s.heap Df := by
    refine ⟨hD, fun d hd e he t hdt het => ?_, hrb.2, fun t j hj => ?_, fun d hd t hdt => ?_, fun i hi j hj => ?_, fun d hd => ?_⟩
    · obtain ⟨o, u, h1, h2, h3, h4, h5, _⟩ := hdst d hd
      obtain ⟨o', u', g1, g2, g3, g4, g5, _⟩ := hdst e he
      rw [hdt] at h2; cases h2
      rw [het] at g2; cases g2
      rcases Nat.lt_trichotomy d.i e.i with hl | hl | hl
      · exact absurd (show dstOf ops d.i = some t by unfold dstOf; rw [h1]; exact h3) (g5 d.i hl)
      · exact hl
      · exact absurd (show dstOf ops e.i = some t by unfold dstOf; rw [g1]; exact g3) (h5 e.i hl)
    · rcases undefs_get (env := s.env) (t := t) (ops.toList.take nb) with ⟨h1, _⟩ | ⟨h1, _⟩
      · rw [h1] at hj; simp [refs] at hj
      · rw [h1] at hj; exact allLt_get hrb.1 j (refsE_get j hj)
    · obtain ⟨o, u, h1, h2, h3, _, _, h6⟩ := hdst d hd
      rcases undefs_get (env := s.env) (t := t) (ops.toList.take nb) with ⟨g1, _⟩ | ⟨_, g2⟩
      · exact g1
      · rw [hdt] at h2; cases h2
        exact absurd h3 (g2 o (List.mem_of_getElem? (by rw [htake d.i h6]; exact h1)))
    · have := predsTrans_get htr i (by omega) j hj
      rw [Nat.zero_add] at this; exact this
    · obtain ⟨o, u, _, h2, _, h4, _⟩ := hdst d hd
      rw [h2]; exact Nat.ble_eq_true_of_le h4
  refine ⟨s', hk, fun R0 w0 m0 H0 _ _ a w hI => ?_⟩
  obtain ⟨⟨R, m, F0, hE⟩, hsz, hnd⟩ := hI
  have hdr := F0.sim.drew
  have F1 := F0.trans hdr.far
  have hE1 := hE.far hdr.far F0.sim
  have hrep : ∀ i, (Array.replicate ops.size false).getD i false = false := fun i => by
    rw [Array.getD_eq_getD_getElem?, Array.getElem?_replicate]; split <;> rfl
  have hh : ∀ k, hget k (mHeap (fun k => (Array.replicate ops.size false).getD k false) s.heap Df) = hget k s.heap := by
    intro k
    have : ∀ D : List Done, hget k (mHeap (fun k => (Array.replicate ops.size false).getD k false) s.heap D) = hget k s.heap := by
      intro D
      induction D with
      | nil => rfl
      | cons d D ih =>
        rcases Nat.lt_or_ge k (mHeap (fun k => (Array.replicate ops.size false).getD k false) s.heap D).length with hlt | hge
        · simp only [mHeap]; rw [hget_append_lt hlt]; exact ih
        · have e : k = (mHeap (fun k => (Array.replicate ops.size false).getD k false) s.heap D).length + (k - (mHeap (fun k => (Array.replicate ops.size false).getD k false) s.heap D).length) := by omega
          have := mHeap_base_le (fun k => (Array.replicate ops.size false).getD k false) s.heap D
          rw [hget_out (H := s.heap) (by omega), e, mHeap_new]
          simp only [hrep]; rfl
    exact this Df
  have hhl := mHeap_base_le (fun k => (Array.replicate ops.size false).getD k false) s.heap Df
  have hS1 : Sim R w.drew m s.heap := hdr.sim
  have hext : ∀ k, k < s.heap.length → hget k (mHeap (fun k => (Array.replicate ops.size false).getD k false) s.heap Df) = .dead ∨ (hget k s.heap ≠ .dead ∧ (hget k (mHeap (fun k => (Array.replicate ops.size false).getD k false) s.heap Df)).len = (hget k s.heap).len) := fun k hk => by
    rw [hh]; exact hext_self _ k hk
  have hS2 : Sim R w.drew m (mHeap (fun k => (Array.replicate ops.size false).getD k false) s.heap Df) := by
    refine ⟨hS1.rlt, fun k hk => hS1.out k (by omega), fun k g hk hg => ?_, fun k hk hg => ?_, fun k k' g hk hk' => ?_⟩
    · rw [hh] at hk ⊢
      obtain ⟨a1, xs, e, fr, a2, a3, a4, a5⟩ := hS1.own k g hk hg
      exact ⟨a1, xs, e, fr, a2, a3, a4, a5.mono (fun _ h => h) (fun _ _ => rfl) (fun _ _ h => h) (fun _ _ h => h) hhl hext⟩
    · rw [hh] at hk ⊢; exact hS1.ph k hk hg
    · rw [hh] at hk hk'; exact hS1.inj k k' g hk hk'
  have F2 : Far R w.drew m s.heap R w.drew m (mHeap (fun k => (Array.replicate ops.size false).getD k false) s.heap Df) :=
    ⟨fun _ h => h, fun _ h => .inl h, hS2, rfl, rfl, rfl, Nat.le_refl _, fun _ _ => rfl, fun _ _ _ => rfl, fun _ _ h => h, hhl, hext, fun k g hk hg => .inr ⟨k, by rw [hh] at hk; exact hk, hg⟩, fun _ _ => rfl⟩
  have hA0 : At R w.drew m s.heap (undefs (ops.toList.take nb) s.env) Df (fun k => (Array.replicate ops.size false).getD k false) a w.drew := by
    refine ⟨R, m, F2, fun t => ?_, fun pre d D _ _ q _ => hS1.out _ ?_⟩
    · rw [mEnv_no fun d _ hp _ => by rw [hrep] at hp; cases hp]
      rcases undefs_get (env := s.env) (t := t) (ops.toList.take nb) with ⟨h1, _⟩ | ⟨h1, _⟩
      · rw [h1]; exact .undef _
      · rw [h1]; exact (hE1 t).far F2 hS1
    · have := mHeap_base_le (fun k => (Array.replicate ops.size false).getD k false) s.heap D; omega
  have key := any_of_done (X := X) (ops := ops) (pss := pss) (Q := fun e1 a1 w1 => ExR .normal e1 ∧ Inv X.nt R0 w0 m0 H0 a1 w1 s') (R1 := R) (w1 := w.drew) (m1 := m) (by rw [hDl]; exact hf) (by rw [hDl]; exact hseq) r (fun i hi => by
      obtain ⟨o, h1, h2⟩ := predsOk_get hpo i (by omega)
      rw [Nat.zero_add] at h1 h2
      exact ⟨o, h1, h2⟩) (fun a' w' hA hs' hn' => by
      obtain ⟨R', m', F3, hE3, _⟩ := hA
      rw [hDl]
      have hmem : ∀ d ∈ Df, decide (d.i < Df.length) = elemN d.i (Df.map (·.i)) := fun d hd => by
        rw [elemN_iff.2 (List.mem_map.2 ⟨d, hd, rfl⟩)]
        simpa using DOk.lt hD d hd
      have e1 : mHeap (fun k => decide (k < Df.length)) s.heap Df = mHeap (fun k => elemN k (Df.map (·.i))) s.heap Df := mHeap_congr _ _ _ hmem
      rw [e1] at F3 hE3
      refine hs R0 w0 m0 H0 a' w' ⟨⟨R', m', F1.trans F3, fun t => ?_⟩, hs', hn'⟩ _ fun a2 w2 hI2 => ⟨rfl, hI2⟩
      have h3 := hE3 t
      by_cases hex : ∃ d ∈ Df, d.dst = some t
      · obtain ⟨d, hd, hdt⟩ := hex
        rw [r.own hd (by simpa using DOk.lt hD d hd) hdt] at h3
        obtain ⟨pre, D', rfl⟩ := split_mem hd
        have h4 : eget t (mEnv (fun k => elemN k ((pre ++ d :: D').map (·.i))) s.env (pre ++ d :: D')) = d.v := mEnv_own (r.dist.pre (DOk.apart r.ok).1 hdt) (elemN_iff.2 (List.mem_map.2 ⟨d, hd, rfl⟩)) hdt
        show VR _ _ _ _ (eget t (mEnv (fun k => elemN k ((pre ++ d :: D').map (·.i))) s.env (pre ++ d :: D'))) _
        rw [h4]; exact h3
      · rw [mEnv_no fun d hd _ hdt => hex ⟨d, hd, hdt⟩] at h3
        show VR _ _ _ _ (eget t (mEnv (fun k => elemN k (Df.map (·.i))) s.env Df)) _
        rw [mEnv_no fun d hd _ hdt => hex ⟨d, hd, hdt⟩]
        rcases undefs_get (env := s.env) (t := t) (ops.toList.take nb) with ⟨_, o, ho, hot⟩ | ⟨h1, _⟩
        · exfalso
          obtain ⟨j, hj⟩ := List.getElem?_of_mem ho
          have hjl : j < nb := by have := (List.getElem?_eq_some_iff.1 hj).1; omega
          obtain ⟨pre, d, D', hsp, hdi, _⟩ := DOk.find hD (show j < Df.length by omega)
          have hdm : d ∈ Df := by rw [hsp]; simp
          obtain ⟨o', u, g1, g2, g3, _⟩ := hdst d hdm
          rw [hdi, ← htake j hjl, hj] at g1; cases g1
          rw [hot] at g3; cases g3
          exact hex ⟨d, hdm, g2⟩
        · rw [h1] at h3; exact h3) nb (Array.replicate ops.size false) a w.drew
    ⟨hA0, hsz, hnd, by simp, fun i _ => hrep i, fun k o _ hkl => by rw [hrep] at hkl; cases hkl⟩ (by
      have : ∀ (r : List Nat), (r.filter fun i => !(Array.replicate ops.size false).getD i false) = r := fun r => by
        apply List.filter_eq_self.2
        intro i _
        rw [hrep i]; rfl
      rw [this, hDl]; simp)
  have e : nb + (ops.size - Df.length) = ops.size := by have := hf.le; omega
  rw [e] at key
  exact key


end
end Go.Proofs.Ytnbbaemijogeoaa.Ae

namespace Go.Proofs.Ytnbbaemijogeoaa.Ae
open Go

section
variable {P : Program} {H H' : Hp} {env : Env}

theorem bytesOf_congr {x : AVal} (h : ∀ k ∈ refs1 x, hget k H = hget k H') : bytesOf H x = bytesOf H' x := by
  cases x <;> try rfl
  rename_i b off len sz
  have := h b (by simp [refs1])
  simp only [bytesOf, this]
theorem convF_congr {s d : TypeId} {x : AVal} {p : Option Prop} {v : AVal} (h : ∀ k ∈ refs1 x, hget k H = hget k H') (hc : convF P H s d x = some (p, v, noEff)) : convF P H' s d x = some (p, v, noEff) := by
  cases x with
  | int k n => exact hc
  | byte n => exact hc
  | str l =>
    simp only [convF] at hc ⊢
    split at hc
    · rename_i h1; exact hc
    · rename_i h1
      split at hc
      · rename_i h2
        cases hs : isStrT P s with
        | false => rw [hs] at hc; simp at hc
        | true => rw [hs] at hc; simp [noEff] at hc
      · cases hc
  | sl b off len sz => simp only [convF] at hc ⊢; rw [← bytesOf_congr h]; exact hc
  | _ => exact hc
theorem cutF_congr {t : TypeId} {x : AVal} {lo hi mx : Option AVal} (h : ∀ k ∈ refP x, hget k H = hget k H') : cutF P H t x lo hi mx = cutF P H' t x lo hi mx := by
  cases x <;> try rfl
  rename_i b off
  have := h b (by simp [refP])
  simp only [cutF, this]
theorem loadF_congr {t : TypeId} {x : AVal} (h : ∀ k ∈ refs1 x, hget k H = hget k H') : loadF P H t x = loadF P H' t x := by
  cases x <;> try rfl
  rename_i b off
  have := h b (by simp [refs1])
  simp only [loadF, this]

theorem builtin_congr {b : Builtin} (hb : b = .len ∨ b = .min ∨ b = .max) {ts : List TypeId} {l : List AVal} : builtinF P H b ts l = builtinF P H' b ts l := by
  rcases hb with rfl | rfl | rfl
  · unfold builtinF; rcases ts with _ | ⟨t, ts⟩ <;> rcases l with _ | ⟨x, _ | ⟨y, l⟩⟩ <;> rfl
  · unfold builtinF; rcases l with _ | ⟨x, _ | ⟨y, _ | ⟨z, l⟩⟩⟩ <;> rcases ts with _ | ⟨t, _ | ⟨u, ts⟩⟩ <;> rfl
  · unfold builtinF; rcases l with _ | ⟨x, _ | ⟨y, _ | ⟨z, l⟩⟩⟩ <;> rcases ts with _ | ⟨t, _ | ⟨u, ts⟩⟩ <;> rfl
theorem read_congr {op : Op} {l : List Nat} {p : Option Prop} {v : AVal} (hr : readRefs env op = some l) (hl : ∀ k ∈ l, hget k H = hget k H') (h : opF P op env H = some ⟨p, v, noEff⟩) : opF P op env H' = some ⟨p, v, noEff⟩ := by
  cases op with
  | move x => exact h
  | assign x => exact h
  | pick c a b => exact h
  | build t parts => exact h
  | nilCheck x => exact h
  | binOp o t x y z => exact h
  | unOp o t x => exact h
  | makeFunc f a b => cases f <;> exact h
  | fieldAddr t x i => exact h
  | field t x i => exact h
  | indexAddr t x i => exact h
  | index t x i => exact h
  | extract x i => exact h
  | load t a =>
    simp only [readRefs, Option.some.injEq] at hr
    subst hr
    simp only [opF] at h ⊢
    unfold operRefs at hl
    split at h
    · rename_i u hu
      rw [hu] at hl
      simp only at hl ⊢
      rw [← loadF_congr hl]; exact h
    · cases h
  | convert s d x =>
    simp only [readRefs, Option.some.injEq] at hr
    subst hr
    simp only [opF] at h ⊢
    unfold operRefs at hl
    split at h
    · rename_i u hu
      rw [hu] at hl
      simp only at hl ⊢
      cases hc : (P.underlying s).isSome with
      | false => rw [hc] at h; simp at h
      | true =>
        rw [hc] at h
        simp only [cond_true] at h ⊢
        split at h
        · rename_i p' v' e' hcv
          simp only [Option.some.injEq, Res.mk.injEq] at h
          obtain ⟨rfl, rfl, rfl⟩ := h
          rw [convF_congr hl hcv]
        · cases h
    · cases h
  | slice t x lo hi mx =>
    simp only [readRefs, Option.some.injEq] at hr
    subst hr
    simp only [opF] at h ⊢
    unfold operRefs at hl
    split at h
    · rename_i a1 a2 a3 a4 h1 h2 h3 h4
      rw [h1] at hl
      simp only at hl ⊢
      rw [← cutF_congr hl]; exact h
    · cases h
  | call c =>
    simp only [opF] at h ⊢
    simp only [readRefs] at hr
    split at hr
    · rename_i hc
      rw [hc] at h ⊢
      simp only at h ⊢
      split at h
      · rename_i q hq
        exact (builtin_congr (by simp)).symm.trans h
      · cases h
    · rename_i hc
      rw [hc] at h ⊢
      simp only at h ⊢
      split at h
      · rename_i q hq
        exact (builtin_congr (by simp)).symm.trans h
      · cases h
    · rename_i hc
      rw [hc] at h ⊢
      simp only at h ⊢
      split at h
      · rename_i q hq
        exact (builtin_congr (by simp)).symm.trans h
      · cases h
    · cases hr
  | _ => simp [readRefs] at hr

/-! ### heaps that follow one another -/
theorem keysOf_mem : ∀ {l : List (Nat × ABlk)} {k : Nat}, k ∉ keysOf l → ∀ (H : Hp), hget k (hsets l H) = hget k H
  | [], _, _, H => rfl
  | (j, b) :: r, k, h, H => by
    simp only [keysOf, List.mem_cons, not_or] at h
    simp only [hsets]
    rw [keysOf_mem h.2, hget_hset_ne h.1]
theorem app_get {e : Eff} {k : Nat} (h : k ∉ keysOf e.sets) (hk : k < H.length) : hget k (e.app H) = hget k H := by
  unfold Eff.app
  rw [hget_append_lt (by rw [hsets_length]; exact hk), keysOf_mem h]
theorem app_len (e : Eff) (H : Hp) : H.length ≤ (e.app H).length := by
  unfold Eff.app
  rw [List.length_append, hsets_length]; omega
end

/-! ### what the run in text order says -/
/-- an operation that was run, or left out: 'A' the heap ahead of it, 'B' the heap behind -/
def CFact (X : Cx) (pr : List (List Nat)) (env0 : Env) (ps : List Nat) (hards S Rd : List Nat) (o : Oper) (d : Done) (D : List Done) (A B : Hp) : Prop :=
  (Want ps o D true ∧
    ((d.i ∈ hards ∧ ∃ e, OpDoes X.P o (mEnv (fun k => elemN k ps) env0 D) A d.v e ∧ B = e.app A ∧ ∀ k ∈ keysOf e.sets, k ∈ S) ∨
      (d.i ∉ hards ∧ B = A ∧ ∃ l p, readRefs (mEnv (fun k => elemN k ps) env0 D) o.op = some l ∧ (∀ k ∈ l, k < A.length ∧ (settled hards pr d.i = false → k ∈ Rd)) ∧ opF X.P o.op (mEnv (fun k => elemN k ps) env0 D) A = some ⟨p, d.v, noEff⟩ ∧ (∀ q, p = some q → q) ∧ ∀ f as1 ts, o.op ≠ .call ⟨.value f, as1, ts⟩))) ∨
  (Want ps o D false ∧ d.v = .tup [] ∧ B = A)
def COk (X : Cx) (ops : Array Oper) (pr : List (List Nat)) (hards : List Nat) (base : Nat → Env) (Df : List Done) (Hs : Nat → Hp) (S Rd : List Nat) (n m : Nat) : Prop :=
  ∀ k, n ≤ k → k < m → ∃ pre d D, Df = pre ++ d :: D ∧ D.length = k ∧ d.i = k ∧ ∃ o, ops[k]? = some o ∧ d.dst = o.dst ∧ CFact X pr (base k) (nthL k pr) hards S Rd o d D (Hs k) (Hs (k + 1))

theorem CFact.sup {X : Cx} {pr : List (List Nat)} {env0 : Env} {ps hards S Rd S' Rd' : List Nat} {o : Oper} {d : Done} {D : List Done} {A B : Hp} (h : CFact X pr env0 ps hards S Rd o d D A B) (hS : ∀ k ∈ S, k ∈ S') (hR : ∀ k ∈ Rd, k ∈ Rd') : CFact X pr env0 ps hards S' Rd' o d D A B := by
  rcases h with ⟨h1, h2⟩ | h
  · refine .inl ⟨h1, ?_⟩
    rcases h2 with ⟨g1, e, g2, g3, g4⟩ | ⟨g1, g2, l, p, g3, g4, g5⟩
    · exact .inl ⟨g1, e, g2, g3, fun k hk => hS k (g4 k hk)⟩
    · exact .inr ⟨g1, g2, l, p, g3, fun k hk => ⟨(g4 k hk).1, fun hs => hR k ((g4 k hk).2 hs)⟩, g5⟩
  · exact .inr h

theorem chainOne_sound {X : Cx} (hT : TSound X.P X.T) {pr : List (List Nat)} {env0 : Env} {o : Oper} {ps hards : List Nat} {i : Nat} {D : List Done} {H : Hp} {S Rd : List Nat} {K : List Done → Hp → List Nat → List Nat → Prop} (hw : Want ps o D true)
    (h : chainOne X env0 o ps i (elemN i hards) (settled hards pr i) D H S Rd K) : ∃ d H' S' Rd', K (d :: D) H' S' Rd' ∧ d.i = i ∧ d.dst = o.dst ∧ (∀ k ∈ S, k ∈ S') ∧ (∀ k ∈ Rd, k ∈ Rd') ∧ CFact X pr env0 ps hards S' Rd' o d D H H' := by
  unfold chainOne at h
  rw [maskEnvK_iff] at h
  cases hh : elemN i hards with
  | true =>
    rw [hh] at h
    simp only [cond_true] at h
    obtain ⟨v, e, hk, hdo⟩ := opP_sound hT h
    rw [effK_app] at hk
    exact ⟨_, _, _, _, hk, rfl, rfl, fun k hk => List.mem_append_right _ hk, fun k hk => hk, .inl ⟨hw, .inl ⟨elemN_iff.1 hh, e, hdo, rfl, fun k hk => List.mem_append_left _ hk⟩⟩⟩
  | false =>
    rw [hh] at h
    simp only [cond_false] at h
    split at h
    · rename_i l hl
      simp only [chkP] at h
      cases ha : allLt l H.length with
      | false => rw [ha] at h; exact h.elim
      | true =>
        rw [ha] at h
        simp only [cond_true] at h
        unfold opK at h
        split at h
        · rename_i p v e hop
          obtain ⟨hp, hk⟩ := andP_iff h
          rw [forceV_iff] at hk
          unfold pureK at hk
          obtain ⟨ss, nn⟩ := e
          cases ss with
          | cons s ss => exact hk.elim
          | nil =>
            cases nn with
            | cons s ss => exact hk.elim
            | nil =>
              refine ⟨_, _, _, _, hk, rfl, rfl, fun k hk => hk, fun k hk => by cases settled hards pr i <;> simp [hk], .inl ⟨hw, .inr ⟨fun hm => ?_, rfl, l, p, hl, fun k hk => ⟨allLt_get ha k hk, fun hs => by rw [show settled hards pr i = false from hs]; exact List.mem_append_left _ hk⟩, hop, hp, fun f as1 ts he => ?_⟩⟩⟩
              · rw [elemN_iff.2 hm] at hh; cases hh
              · rw [he] at hl; simp [readRefs] at hl
        · exact h.elim
    · exact h.elim

def CGoal (X : Cx) (ops : Array Oper) (pr : List (List Nat)) (hards : List Nat) (base : Nat → Env) (D : List Done) (H : Hp) (S Rd : List Nat) (K : List Done → Hp → List Nat → List Nat → Prop) (n : Nat) : Prop :=
  ∃ Df Hs S' Rd', (∃ pre, Df = pre ++ D) ∧ Hs D.length = H ∧ Df.length = n ∧ COk X ops pr hards base Df Hs S' Rd' D.length n ∧ K Df (Hs n) S' Rd' ∧ (∀ k ∈ S, k ∈ S') ∧ (∀ k ∈ Rd, k ∈ Rd')
theorem chainP_sound {X : Cx} (hT : TSound X.P X.T) {ops : Array Oper} {pr : List (List Nat)} {hards : List Nat} {base : Nat → Env} : ∀ (l : List Oper) (ps : List (List Nat)) (D : List Done) (H : Hp) (S Rd : List Nat) (K : List Done → Hp → List Nat → List Nat → Prop),
    (∀ j o, l[j]? = some o → ops[D.length + j]? = some o) → (∀ j, nthL j ps = nthL (D.length + j) pr) → chainP X base hards pr l ps D.length D H S Rd K →
    CGoal X ops pr hards base D H S Rd K (D.length + l.length)
  | [], ps, D, H, S, Rd, K, _, _, h => ⟨D, fun _ => H, S, Rd, ⟨[], rfl⟩, rfl, rfl, fun k h1 h2 => by simp at h2; omega, h, fun k hk => hk, fun k hk => hk⟩
  | o :: r, [], D, H, S, Rd, K, _, _, h => h.elim
  | o :: r, p :: ps, D, H, S, Rd, K, hl, hp, h => by
    have ho : ops[D.length]? = some o := hl 0 o rfl
    have hps : p = nthL D.length pr := hp 0
    have step : ∀ (d : Done) (H1 : Hp) (S1 Rd1 : List Nat), d.i = D.length → d.dst = o.dst → (∀ k ∈ S, k ∈ S1) → (∀ k ∈ Rd, k ∈ Rd1) → CFact X pr (base D.length) p hards S1 Rd1 o d D H H1 → chainP X base hards pr r ps (D.length + 1) (d :: D) H1 S1 Rd1 K →
        CGoal X ops pr hards base D H S Rd K (D.length + (o :: r).length) := fun d H1 S1 Rd1 hi hd hS hR hF h => by
      obtain ⟨Df, Hs, S', Rd', ⟨pre, hpre⟩, h1, h2, h3, h4, h5, h6⟩ := chainP_sound hT (ops := ops) (pr := pr) r ps (d :: D) H1 S1 Rd1 K (fun j o' hj => by
        have := hl (j + 1) o' (by simpa using hj)
        rw [List.length_cons, show D.length + 1 + j = D.length + (j + 1) by omega]; exact this) (fun j => by
        have := hp (j + 1)
        rw [List.length_cons, show D.length + 1 + j = D.length + (j + 1) by omega]; exact this) h
      simp only [List.length_cons] at h1 h2 h3 h4
      have e1 : D.length + 1 + r.length = D.length + (o :: r).length := by simp; omega
      refine ⟨Df, fun k => if k = D.length then H else Hs k, S', Rd', ⟨pre ++ [d], by rw [hpre]; simp⟩, if_pos rfl, by rw [h2, e1], fun k hk1 hk2 => ?_, ?_, fun k hk => h5 k (hS k hk), fun k hk => h6 k (hR k hk)⟩
      · by_cases e : k = D.length
        · subst e
          refine ⟨pre, d, D, hpre, rfl, hi, o, ho, hd, ?_⟩
          show CFact X pr (base D.length) (nthL D.length pr) hards S' Rd' o d D (if D.length = D.length then H else Hs D.length) (if D.length + 1 = D.length then H else Hs (D.length + 1))
          rw [if_pos rfl, if_neg (by omega), h1, ← hps]
          exact hF.sup h5 h6
        · obtain ⟨pre', d', D', g1, g2, g3, o', g4, g5, g6⟩ := h3 k (by omega) (by omega)
          refine ⟨pre', d', D', g1, g2, g3, o', g4, g5, ?_⟩
          show CFact X pr (base k) (nthL k pr) hards S' Rd' o' d' D' (if k = D.length then H else Hs k) (if k + 1 = D.length then H else Hs (k + 1))
          rw [if_neg e, if_neg (by omega)]; exact g6
      · simp only
        rw [if_neg (by simp), ← e1]; exact h4
    have one : ∀ (hw : Want p o D true), chainOne X (base D.length) o p D.length (elemN D.length hards) (settled hards pr D.length) D H S Rd (fun D' H' S' Rd' => chainP X base hards pr r ps (D.length + 1) D' H' S' Rd' K) → CGoal X ops pr hards base D H S Rd K (D.length + (o :: r).length) := fun hw h => by
      obtain ⟨d, H1, S1, Rd1, hk, hi, hd, hS, hR, hF⟩ := chainOne_sound hT hw h
      exact step d H1 S1 Rd1 hi hd hS hR hF hk
    have off : ∀ (hw : Want p o D false), chainP X base hards pr r ps (D.length + 1) (⟨D.length, o.dst, .tup [], []⟩ :: D) H S Rd K → CGoal X ops pr hards base D H S Rd K (D.length + (o :: r).length) := fun hw h =>
      step ⟨D.length, o.dst, .tup [], []⟩ H S Rd rfl rfl (fun k hk => hk) (fun k hk => hk) (.inr ⟨hw, rfl, rfl⟩) h
    unfold chainP at h
    split at h
    · rename_i hg
      rw [forceL_iff] at h
      exact one (by simp [Want, hg]) h
    · rename_i j want hg
      cases hj : elemN j p with
      | false => rw [hj] at h; exact h.elim
      | true =>
        rw [hj] at h
        simp only [cond_true] at h
        split at h
        · rename_i b hb
          have hw : Want p o D (b == want) := by simp only [Want, hg]; exact ⟨elemN_iff.1 hj, .inl ⟨b, hb, rfl⟩⟩
          cases b with
          | true =>
            simp only [brP, cond_true] at h
            rw [forceL_iff, doneSet_self hb] at h
            cases want with
            | true => simp only [cond_true] at h; rw [forceL_iff] at h; exact one hw h
            | false => exact off hw h
          | false =>
            simp only [brP, cond_false] at h
            rw [forceL_iff, doneSet_self hb] at h
            cases want with
            | true => exact off hw h
            | false => simp only [cond_false] at h; rw [forceL_iff] at h; exact one hw h
        · rename_i hb
          exact off (by simp only [Want, hg]; exact ⟨elemN_iff.1 hj, .inr ⟨hb, trivial⟩⟩) h
        · exact h.elim
end Go.Proofs.Ytnbbaemijogeoaa.Ae

namespace Go.Proofs.Ytnbbaemijogeoaa.Ae
open Go

section
variable {X : Cx} {ops : Array Oper} {pr : List (List Nat)} {Q : Exit → Act → World → Prop}

structure FactsC (ops : Array Oper) (nb n : Nat) : Prop where
  le : nb ≤ ops.size
  op : ∀ i, i < nb → ∃ o, ops[i]? = some o ∧ (∀ d, o.dst = some d → d < n ∧ ∀ j, j < i → dstOf ops j ≠ some d) ∧ (∀ j b, o.guard = some (j, b) → (dstOf ops j).isSome = true) ∧ (∀ e ∈ o.after, Region.binds .any e = true → e.on < i)
  tail : ∀ i o, nb ≤ i → ops[i]? = some o → ∀ L : Nat → Prop, (∀ j, waits o j = true → L j) → (∀ k o', k < nb → L k → ops[k]? = some o' → ∀ j, waits o' j = true → L j) → ∀ j, j < nb → L j
theorem factsC_of {nb n : Nat} (h : factsOkC ops nb n = true) : FactsC ops nb n := by
  unfold factsOkC at h
  simp only [Bool.and_eq_true, decide_eq_true_eq, List.all_eq_true, List.mem_range] at h
  obtain ⟨⟨h1, h2⟩, h3⟩ := h
  refine ⟨h1, fun i hi => ?_, fun i o hi ho L hL hc j hj => ?_⟩
  · have h4 := h2 i hi
    cases ho : ops[i]? with
    | none => rw [ho] at h4; simp at h4
    | some o =>
      rw [ho] at h4
      simp only [Bool.and_eq_true] at h4
      obtain ⟨⟨h5, h6⟩, h7⟩ := h4
      refine ⟨o, rfl, fun d hd => ?_, fun j b hg => ?_, fun e he hb => ?_⟩
      · rw [hd] at h5
        simp only [Bool.and_eq_true, decide_eq_true_eq, List.all_eq_true, List.mem_range] at h5
        exact ⟨h5.1, fun j hj e => by have := h5.2 j hj; rw [e] at this; simp at this⟩
      · rw [hg] at h6; exact h6
      · obtain ⟨q, hq, he'⟩ := Array.mem_iff_getElem.1 he
        have := Array.all_eq_true.1 h7 q hq
        rw [he', hb] at this
        simpa using this
  · have hlt : i < ops.size := (Array.getElem?_eq_some_iff.1 ho).1
    have h4 := h3 (i - nb) (by omega)
    rw [show nb + (i - nb) = i from by omega, ho] at h4
    simp only [List.all_eq_true, List.mem_range] at h4
    exact clos_sub L hc nb (Nat.le_refl _) _ (fun q hq => hL q (onsOf_iff.1 hq)) j (by simpa using h4 j hj)

open Classical in
/-- any order: what an operation does, if all are run that it waits for, is enough -/
theorem any_gen {nb nt : Nat} {A : (Nat → Bool) → Act → World → Prop} (hf : FactsC ops nb nt) (hseq : seqTail ops nb = true)
    (hpre : ∀ i, i < nb → ∃ o, ops[i]? = some o ∧ ∀ j ∈ nthL i pr, j ∈ clos ops i (onsOf o))
    (hstep : ∀ (p p' : Nat → Bool) (i : Nat) (o : Oper) (a : Act) (w : World), i < nb → ops[i]? = some o → Clo pr p nb → p i = false → (∀ j ∈ nthL i pr, p j = true) → p' i = true → (∀ k, k ≠ i → p' k = p k) → a.tmps.size = nt → A p a w →
      (Region.wanted o (yielded ops a.tmps) = true ∧ gives X.P o a w fun x w' => A p' (a.put o.dst x) w') ∨ (Region.wanted o (yielded ops a.tmps) = false ∧ A p' (a.put o.dst undef) w))
    (hend : ∀ a w, A (fun k => decide (k < nb)) a w → a.tmps.size = nt → a.defers = [] → wpList X.P ops Q (ops.toList.drop nb) a w) :
    ∀ (m : Nat) (listed : Array Bool) (a : Act) (w : World), A (fun k => listed.getD k false) a w → a.tmps.size = nt → a.defers = [] → listed.size = ops.size → (∀ i, nb ≤ i → listed.getD i false = false) →
      (∀ k o, k < nb → listed.getD k false = true → ops[k]? = some o → ∀ j, waits o j = true → listed.getD j false = true) → ((List.range nb).filter fun i => !listed.getD i false).length = m →
      wpAny X.P .any ops Q (m + (ops.size - nb)) listed a w := by
  intro m
  induction m with
  | zero =>
    intro listed a w hA hsz hnod hls htail hcl hm
    have hall : ∀ i, i < nb → listed.getD i false = true := by
      intro i hi
      have : ((List.range nb).filter fun i => !listed.getD i false) = [] := List.length_eq_zero_iff.1 hm
      have h1 := List.filter_eq_nil_iff.1 this i (List.mem_range.2 hi)
      simpa using h1
    have hli : listed = listedTo ops.size nb := by
      apply Array.ext
      · simp [listedTo, hls]
      · intro i h1 h2
        simp only [listedTo, List.getElem_toArray, List.getElem_map, List.getElem_range]
        by_cases h : i < nb
        · have := hall i h
          simp [h1] at this
          simp [this, h]
        · have := htail i (by omega)
          simp [h1] at this
          simp [this, h]
    have hp : (fun k => listed.getD k false) = fun k => decide (k < nb) := by
      funext k
      by_cases h : k < nb
      · rw [hall k h]; simp [h]
      · rw [htail k (by omega)]; simp [h]
    rw [Nat.zero_add, hli]
    refine any_of_seq _ nb (by have := hf.le; omega) hseq a w (hend a w ?_ hsz hnod)
    rw [hp] at hA; exact hA
  | succ m ih =>
    intro listed a w hA hsz hnod hls htail hcl hm
    have hex : ∃ i, i < nb ∧ listed.getD i false = false := by
      cases hF : ((List.range nb).filter fun i => !listed.getD i false) with
      | nil => rw [hF] at hm; simp at hm
      | cons x r =>
        have : x ∈ ((List.range nb).filter fun i => !listed.getD i false) := by rw [hF]; exact List.mem_cons_self ..
        rw [List.mem_filter, List.mem_range] at this
        exact ⟨x, this.1, by simpa using this.2⟩
    obtain ⟨i0, hi0, hmin⟩ : ∃ i, (i < nb ∧ listed.getD i false = false) ∧ ∀ j, j < i → ¬ (j < nb ∧ listed.getD j false = false) := by
      obtain ⟨i, hi⟩ := hex
      induction i using Nat.strongRecOn with
      | _ i ihh =>
        by_cases h : ∃ j, j < i ∧ (j < nb ∧ listed.getD j false = false)
        · obtain ⟨j, hj, hj2⟩ := h
          exact ihh j hj hj2
        · exact ⟨i, hi, fun j hj hj2 => h ⟨j, hj, hj2⟩⟩
    have getD_tf : ∀ i, i < ops.size → listed.getD i true = listed.getD i false := fun i hi => by
      have : i < listed.size := by rw [hls]; exact hi
      simp [this]
    have hready0 : i0 ∈ Region.ready .any ops listed := by
      obtain ⟨o, ho, _, _, haf⟩ := hf.op i0 hi0.1
      refine mem_ready.2 ⟨by rw [getD_tf i0 (by have := hf.le; omega)]; exact hi0.2, o, ho, fun e he hb => ?_⟩
      have h1 := haf e he hb
      have h2 := hmin e.on h1
      cases h3 : listed.getD e.on false with
      | true => rfl
      | false => exact absurd ⟨by omega, h3⟩ h2
    rw [show m + 1 + (ops.size - nb) = (m + (ops.size - nb)) + 1 from by omega]
    refine ⟨fun h => (by rw [h] at hready0; cases hready0), fun i hi => ?_⟩
    obtain ⟨hiun, o, ho, hprem⟩ := mem_ready.1 hi
    have hisz : i < ops.size := (Array.getElem?_eq_some_iff.1 ho).1
    have hinb : i < nb := by
      by_cases h : i < nb
      · exact h
      · have := hf.tail i o (by omega) ho (fun j => listed.getD j false = true) (fun j hj => by
          obtain ⟨e, he, he1, he2⟩ := waits_iff.1 hj
          subst he1; exact hprem e he he2) hcl i0 hi0.1
        rw [hi0.2] at this
        cases this
    have hwl : ∀ j, waits o j = true → listed.getD j false = true := fun j hj => by
      obtain ⟨e, he, he1, he2⟩ := waits_iff.1 hj
      subst he1; exact hprem e he he2
    have hpin : ∀ i o, i < nb → ops[i]? = some o → (∀ j, waits o j = true → listed.getD j false = true) → ∀ j ∈ nthL i pr, listed.getD j false = true := fun i o hi ho hw j hj => by
      obtain ⟨o', ho', h1⟩ := hpre i hi
      rw [ho] at ho'; cases ho'
      exact clos_sub (nb := nb) (fun j => listed.getD j false = true) hcl i (by omega) _ (fun q hq => hw q (onsOf_iff.1 hq)) j (h1 j hj)
    have hclo : Clo pr (fun k => listed.getD k false) nb := fun k hk hkl j hj => by
      obtain ⟨o', ho', _⟩ := hpre k hk
      exact hpin k o' hk ho' (fun j hj => hcl k o' hk hkl ho' j hj) j hj
    have hil : i < listed.size := by rw [hls]; exact hisz
    have hif : listed.getD i false = false := by rw [← getD_tf i hisz]; exact hiun
    have hset : ∀ j, (listed.setIfInBounds i true).getD j false = if j = i then true else listed.getD j false := fun j => by
      by_cases e : j = i
      · subst e; simp [hil]
      · rw [if_neg e, getD_set_ne false (Ne.symm e)]
    have hnext : ∀ a' w', A (fun k => (listed.setIfInBounds i true).getD k false) a' w' → a'.tmps.size = nt → a'.defers = [] → wpAny X.P .any ops Q (m + (ops.size - nb)) (listed.setIfInBounds i true) a' w' := by
      intro a' w' hA hs hn
      refine ih _ _ _ hA hs hn (by simp [hls]) (fun j hj => ?_) (fun k ok hk hkl hok j hj => ?_) ?_
      · rw [hset, if_neg (by omega)]; exact htail j hj
      · rw [hset] at hkl ⊢
        by_cases e : j = i
        · rw [if_pos e]
        · rw [if_neg e]
          by_cases e2 : k = i
          · subst e2
            rw [ho] at hok; cases hok
            exact hwl j hj
          · rw [if_neg e2] at hkl
            exact hcl k ok hk hkl hok j hj
      · have h1 : ((List.range nb).filter fun k => !(listed.setIfInBounds i true).getD k false) = ((List.range nb).filter fun k => !listed.getD k false).erase i := by
          rw [List.Nodup.erase_eq_filter (List.Nodup.sublist List.filter_sublist List.nodup_range), List.filter_filter]
          apply List.filter_congr
          intro k _
          rw [hset]
          by_cases e : k = i
          · subst e; simp
          · simp [e]
        rw [h1, List.length_erase_of_mem (List.mem_filter.2 ⟨List.mem_range.2 hinb, by rw [hif]; rfl⟩), hm]
        rfl
    have hst := hstep (fun k => listed.getD k false) (fun k => (listed.setIfInBounds i true).getD k false) i o a w hinb ho hclo hif (fun j hj => hpin i o hinb ho hwl j hj)
      (by show (listed.setIfInBounds i true).getD i false = true; rw [hset, if_pos rfl]) (fun k hk => by show (listed.setIfInBounds i true).getD k false = _; rw [hset, if_neg hk]) hsz hA
    unfold wpOp
    rw [ho]
    simp only
    rcases hst with ⟨hW, hg⟩ | ⟨hW, hA⟩
    · rw [if_pos hW]
      left
      exact gives_wp hg fun x w' hA => hnext _ _ hA (by rw [Act.put_size']; exact hsz) (by rw [Act.put_defers']; exact hnod)
    · rw [if_neg (by rw [hW]; decide)]
      exact hnext _ _ hA (by rw [Act.put_size']; exact hsz) (by rw [Act.put_defers']; exact hnod)
end

section
variable {P : Program} {R R' : Nat → Prop} {w w' : World} {m m' : Mp} {H H' : Hp} {env : Env} {a : Act}

theorem opDoes_of {o : Oper} {p : Option Prop} {v : AVal} {e : Eff} (hop : opF P o.op env H = some ⟨p, v, e⟩) (hp : ∀ q, p = some q → q) : OpDoes P o env H v e := fun R w m a hS hE => by
  obtain ⟨x, w', m', hr, hs, hv⟩ := opF_sound (P := P) hS hE hop hp
  unfold gives
  rcases hr with hr | ⟨hr, rfl⟩
  · rw [hr]; exact ⟨R, m', hs.far, hv⟩
  · rw [hr]; exact ⟨R, m', hs.far, hv⟩

theorem operRefs_lt (hS : Sim R w m H) (hE : EnvR R w m H env a) {x : Operand} {k : Nat} : (k ∈ operRefs refs1 env x → k < H.length) ∧ (k ∈ operRefs refP env x → k < H.length) := by
  have pt : ∀ b o y, VR R w m H (.ptr b o) y → b < H.length := fun b o y h => by
    cases h with
    | ptr _ _ g hm =>
      rcases Nat.lt_or_ge b H.length with h | h
      · exact h
      · rw [hS.out b h] at hm; cases hm
  unfold operRefs
  cases ho : oper env x with
  | none => exact ⟨fun h => by simp at h, fun h => by simp at h⟩
  | some v =>
    have hv := oper_sound hE ho
    simp only
    constructor
    · intro h
      cases v with
      | sl b off len sz =>
        simp only [refs1, List.mem_singleton] at h; subst h
        generalize a.eval x = y at hv
        cases hv with
        | sl _ _ _ _ _ _ _ _ _ h4 _ _ => exact h4
      | ptr b off => simp only [refs1, List.mem_singleton] at h; subst h; exact pt _ _ _ hv
      | _ => simp [refs1] at h
    · intro h
      cases v with
      | ptr b off => simp only [refP, List.mem_singleton] at h; subst h; exact pt _ _ _ hv
      | _ => simp [refP] at h
theorem readRefs_lt (hS : Sim R w m H) (hE : EnvR R w m H env a) {op : Op} {l : List Nat} (h : readRefs env op = some l) : ∀ k ∈ l, k < H.length := by
  intro k hk
  unfold readRefs at h
  split at h <;> first
    | (cases h; simp at hk; done)
    | (cases h; exact (operRefs_lt hS hE).1 hk)
    | (cases h; exact (operRefs_lt hS hE).2 hk)
    | (split at h <;> first | (cases h; simp at hk; done) | cases h)
    | cases h
end
end Go.Proofs.Ytnbbaemijogeoaa.Ae
namespace Go.Proofs.Ytnbbaemijogeoaa.Ae
open Go

section
variable {X : Cx} {ops : Array Oper} {pr : List (List Nat)} {hards : List Nat} {base : Nat → Env} {env0 : Env} {Df : List Done} {Hs : Nat → Hp} {S Rd : List Nat} {nb : Nat}

/-- what holds of the text's run -/
structure CRan (X : Cx) (ops : Array Oper) (pr : List (List Nat)) (hards : List Nat) (base : Nat → Env) (env0 : Env) (Df : List Done) (Hs : Nat → Hp) (S Rd : List Nat) (nb : Nat) : Prop where
  len : Df.length = nb
  ok : COk X ops pr hards base Df Hs S Rd 0 nb
  dist : ∀ i j o o' t, i < nb → j < nb → ops[i]? = some o → ops[j]? = some o' → o.dst = some t → o'.dst = some t → i = j
  und : ∀ q i o t, i < nb → ops[i]? = some o → o.dst = some t → eget t (base q) = .undef ∨ (q ∈ nthL i pr ∧ eget t (base q) = eget t env0)
  out : ∀ q t, (∀ i o, i < nb → ops[i]? = some o → o.dst ≠ some t) → eget t (base q) = eget t env0
  tr : ∀ i, i < nb → ∀ j ∈ nthL i pr, j < i
  dst : ∀ i o, i < nb → ops[i]? = some o → ∀ t, o.dst = some t → t < X.nt
  grd : ∀ i o j b, i < nb → ops[i]? = some o → o.guard = some (j, b) → (dstOf ops j).isSome = true
  hard : ∀ i ∈ hards, ∀ j ∈ hards, j < i → j ∈ nthL i pr
  disj : ∀ k ∈ Rd, k ∉ S

theorem CRan.split (r : CRan X ops pr hards base env0 Df Hs S Rd nb) {pre D : List Done} {d : Done} (h : Df = pre ++ d :: D) :
    D.length < nb ∧ d.i = D.length ∧ ∃ o, ops[D.length]? = some o ∧ d.dst = o.dst ∧ CFact X pr (base D.length) (nthL D.length pr) hards S Rd o d D (Hs D.length) (Hs (D.length + 1)) := by
  have hl : D.length < nb := by rw [← r.len, h]; simp; omega
  obtain ⟨pre', d', D', h1, h2, h3, o, h4, h5, h6⟩ := r.ok D.length (Nat.zero_le _) hl
  rw [h] at h1
  obtain ⟨e1, e2⟩ := List.append_inj' h1 (by simp [h2])
  cases e2
  exact ⟨hl, h3, o, h4, h5, h6⟩
theorem CRan.at (r : CRan X ops pr hards base env0 Df Hs S Rd nb) {i : Nat} (hi : i < nb) : ∃ pre d D, Df = pre ++ d :: D ∧ D.length = i ∧ d.i = i := by
  obtain ⟨pre, d, D, h1, h2, h3, _⟩ := r.ok i (Nat.zero_le _) hi
  exact ⟨pre, d, D, h1, h2, h3⟩
theorem CRan.mem (r : CRan X ops pr hards base env0 Df Hs S Rd nb) {e : Done} (he : e ∈ Df) : e.i < nb ∧ ∃ o, ops[e.i]? = some o ∧ e.dst = o.dst := by
  obtain ⟨pre, D, h⟩ := split_mem he
  obtain ⟨h1, h2, o, h3, h4, _⟩ := r.split h
  rw [h2]; exact ⟨h1, o, h3, h4⟩
theorem CRan.inj (r : CRan X ops pr hards base env0 Df Hs S Rd nb) {e f : Done} {t : Nat} (he : e ∈ Df) (hf : f ∈ Df) (h1 : e.dst = some t) (h2 : f.dst = some t) : e.i = f.i := by
  obtain ⟨a1, o, a2, a3⟩ := r.mem he
  obtain ⟨b1, o', b2, b3⟩ := r.mem hf
  exact r.dist _ _ _ _ t a1 b1 a2 b2 (by rw [← a3]; exact h1) (by rw [← b3]; exact h2)
theorem CRan.idx (r : CRan X ops pr hards base env0 Df Hs S Rd nb) {pre D : List Done} {d : Done} (h : Df = pre ++ d :: D) : (∀ e ∈ pre, d.i < e.i) ∧ (∀ e ∈ D, e.i < d.i) := by
  have hd := (r.split h).2.1
  constructor
  · intro e he
    obtain ⟨p1, p2, hp⟩ := split_mem he
    have := (r.split (pre := p1) (d := e) (D := p2 ++ d :: D) (by rw [h, hp]; simp)).2.1
    rw [this, hd]; simp; omega
  · intro e he
    obtain ⟨p1, p2, hp⟩ := split_mem he
    have := (r.split (pre := pre ++ d :: p1) (d := e) (D := p2) (by rw [h, hp]; simp)).2.1
    rw [this, hd, hp]; simp; omega
theorem CRan.own (r : CRan X ops pr hards base env0 Df Hs S Rd nb) {p : Nat → Bool} {e : Done} {t : Nat} (he : e ∈ Df) (hp : p e.i = true) (hd : e.dst = some t) : eget t (mEnv p env0 Df) = e.v := by
  obtain ⟨pre, D, h⟩ := split_mem he
  have hi := r.idx h
  subst h
  refine mEnv_own (fun f hf hft => ?_) hp hd
  have := r.inj (List.mem_append_left _ hf) he hft hd
  have := hi.1 f hf
  omega
theorem CRan.ownD (r : CRan X ops pr hards base env0 Df Hs S Rd nb) {env1 : Env} {p : Nat → Bool} {pre0 D0 : List Done} {d0 : Done} (h0 : Df = pre0 ++ d0 :: D0) {e : Done} {t : Nat} (he : e ∈ D0) (hp : p e.i = true) (hd : e.dst = some t) : eget t (mEnv p env1 D0) = e.v := by
  obtain ⟨pre, D, h⟩ := split_mem he
  have hi := r.idx (pre := pre0 ++ d0 :: pre) (d := e) (D := D) (by rw [h0, h]; simp)
  have hm : ∀ f ∈ D0, f ∈ Df := fun f hf => by rw [h0]; exact List.mem_append_right _ (List.mem_cons_of_mem _ hf)
  subst h
  refine mEnv_own (fun f hf hft => ?_) hp hd
  have := r.inj (hm f (List.mem_append_left _ hf)) (hm e he) hft hd
  have := hi.1 f (List.mem_append_right _ (List.mem_cons_of_mem _ hf))
  omega

theorem CFact.heap {env0 : Env} {ps : List Nat} {o : Oper} {d : Done} {D : List Done} {A B : Hp} (h : CFact X pr env0 ps hards S Rd o d D A B) : (d.i ∉ hards → B = A) ∧ A.length ≤ B.length ∧ ∀ k, k < A.length → k ∉ S → hget k B = hget k A := by
  rcases h with ⟨_, ⟨h1, e, _, rfl, h3⟩ | ⟨h1, rfl, _⟩⟩ | ⟨_, _, rfl⟩
  · exact ⟨fun h => absurd h1 h, app_len _ _, fun k hk hS => app_get (fun hm => hS (h3 k hm)) hk⟩
  · exact ⟨fun _ => rfl, Nat.le_refl _, fun _ _ _ => rfl⟩
  · exact ⟨fun _ => rfl, Nat.le_refl _, fun _ _ _ => rfl⟩
theorem CRan.step (r : CRan X ops pr hards base env0 Df Hs S Rd nb) {i : Nat} (hi : i < nb) : (i ∉ hards → Hs (i + 1) = Hs i) ∧ (Hs i).length ≤ (Hs (i + 1)).length ∧ ∀ k, k < (Hs i).length → k ∉ S → hget k (Hs (i + 1)) = hget k (Hs i) := by
  obtain ⟨pre, d, D, h1, h2, h3⟩ := r.at hi
  obtain ⟨_, _, o, _, _, hF⟩ := r.split h1
  have := hF.heap
  rw [h3, h2] at this
  exact this
theorem CRan.same (r : CRan X ops pr hards base env0 Df Hs S Rd nb) {a : Nat} : ∀ n, a + n ≤ nb → (∀ i, a ≤ i → i < a + n → i ∉ hards) → Hs (a + n) = Hs a
  | 0, _, _ => rfl
  | n + 1, hn, h => by
    have := (r.step (i := a + n) (by omega)).1 (h _ (by omega) (by omega))
    rw [show a + (n + 1) = a + n + 1 by omega, this]
    exact r.same n (by omega) fun i h1 h2 => h i h1 (by omega)
theorem CRan.keep (r : CRan X ops pr hards base env0 Df Hs S Rd nb) {a : Nat} : ∀ n, a + n ≤ nb → (Hs a).length ≤ (Hs (a + n)).length ∧ ∀ k, k < (Hs a).length → k ∉ S → hget k (Hs (a + n)) = hget k (Hs a)
  | 0, _ => ⟨Nat.le_refl _, fun _ _ _ => rfl⟩
  | n + 1, hn => by
    obtain ⟨h1, h2⟩ := r.keep (a := a) n (by omega)
    obtain ⟨_, g1, g2⟩ := r.step (i := a + n) (by omega)
    rw [show a + (n + 1) = a + n + 1 by omega]
    exact ⟨by omega, fun k hk hS => by rw [g2 k (by omega) hS, h2 k hk hS]⟩
/-- no more hard ones ahead of one than of the other -/
theorem CRan.between (r : CRan X ops pr hards base env0 Df Hs S Rd nb) {a b : Nat} (ha : a ≤ nb) (hb : b ≤ nb) (h : ∀ i, i < nb → i ∈ hards → (i < a ↔ i < b)) : Hs a = Hs b := by
  rcases Nat.le_total a b with hl | hl
  · have := r.same (a := a) (b - a) (by omega) fun i h1 h2 hm => by have := h i (by omega) hm; omega
    rw [← this]; congr 1; omega
  · have := r.same (a := b) (a - b) (by omega) fun i h1 h2 hm => by have := h i (by omega) hm; omega
    rw [← this]; congr 1; omega
theorem CRan.read (r : CRan X ops pr hards base env0 Df Hs S Rd nb) {a b k : Nat} (ha : a ≤ nb) (hb : b ≤ nb) (h1 : k < (Hs a).length) (h2 : k < (Hs b).length) (hS : k ∉ S) : hget k (Hs a) = hget k (Hs b) := by
  rcases Nat.le_total a b with hl | hl
  · have := (r.keep (a := a) (b - a) (by omega)).2 k h1 hS
    rw [← this]; congr 2; omega
  · have := (r.keep (a := b) (a - b) (by omega)).2 k h2 hS
    rw [← this]; congr 2; omega

theorem settled_iff {i : Nat} : settled hards pr i = true ↔ ∀ j ∈ hards, (j < i → j ∈ nthL i pr) ∧ (i < j → i ∈ nthL j pr) := by
  unfold settled
  rw [List.all_eq_true]
  refine forall_congr' fun j => forall_congr' fun _ => ?_
  cases h1 : Nat.blt j i with
  | true =>
    have h1 : j < i := Nat.blt_eq ▸ h1
    simp only [cond_true, elemN_iff]
    exact ⟨fun h => ⟨fun _ => h, fun h2 => by omega⟩, fun h => h.1 h1⟩
  | false =>
    have h1 : ¬ j < i := fun h => by rw [show Nat.blt j i = true from Nat.blt_eq ▸ h] at h1; cases h1
    cases h2 : Nat.blt i j with
    | true =>
      have h2 : i < j := Nat.blt_eq ▸ h2
      simp only [cond_true, cond_false, elemN_iff]
      exact ⟨fun h => ⟨fun h3 => by omega, fun _ => h⟩, fun h => h.2 h2⟩
    | false =>
      have h2 : ¬ i < j := fun h => by rw [show Nat.blt i j = true from Nat.blt_eq ▸ h] at h2; cases h2
      simp only [cond_false, true_iff]
      exact ⟨fun h => by omega, fun h => by omega⟩

/-- the state when some have run -/
def CAt (R1 : Nat → Prop) (w1 : World) (m1 : Mp) (hards : List Nat) (env0 : Env) (Df : List Done) (Hs : Nat → Hp) (nb : Nat) (p : Nat → Bool) (a : Act) (w : World) : Prop :=
  ∃ R m k, k ≤ nb ∧ (∀ i, i < nb → i ∈ hards → (p i = true ↔ i < k)) ∧ Far R1 w1 m1 (Hs 0) R w m (Hs k) ∧ EnvR R w m (Hs k) (mEnv p env0 Df) a

theorem CAt.step (r : CRan X ops pr hards base env0 Df Hs S Rd nb) {R1 : Nat → Prop} {w1 : World} {m1 : Mp} {p p' : Nat → Bool} {i : Nat} {o : Oper} {a : Act} {w : World} (hi : i < nb) (ho : ops[i]? = some o) (hc : Clo pr p nb) (hno : p i = false) (hps : ∀ j ∈ nthL i pr, p j = true)
    (h1 : p' i = true) (h2 : ∀ k, k ≠ i → p' k = p k) (hsz : a.tmps.size = X.nt) (hA : CAt R1 w1 m1 hards env0 Df Hs nb p a w) :
    (Region.wanted o (yielded ops a.tmps) = true ∧ gives X.P o a w fun x w' => CAt R1 w1 m1 hards env0 Df Hs nb p' (a.put o.dst x) w') ∨ (Region.wanted o (yielded ops a.tmps) = false ∧ CAt R1 w1 m1 hards env0 Df Hs nb p' (a.put o.dst undef) w) := by
  obtain ⟨R, m, k, hk, hcut, F0, hE⟩ := hA
  obtain ⟨pre, d, D, hDf, hDl, hdi⟩ := r.at hi
  obtain ⟨_, _, o', ho', hdo, hF⟩ := r.split hDf
  rw [hDl, ho] at ho'; cases ho'
  rw [hDl] at hF
  have hdm : d ∈ Df := by rw [hDf]; simp
  have hidx := r.idx hDf
  have hsub : ∀ e ∈ D, e ∈ Df := fun e he => by rw [hDf]; exact List.mem_append_right _ (List.mem_cons_of_mem _ he)
  -- slots
  have other : ∀ t, o.dst ≠ some t → eget t (mEnv p' env0 Df) = eget t (mEnv p env0 Df) := fun t ht => mEnv_congr fun e he hed => h2 e.i fun hei => ht (by
    obtain ⟨_, oe, g1, g2⟩ := r.mem he
    rw [hei, ho] at g1; cases g1
    rw [← g2]; exact hed)
  have put : ∀ {R' : Nat → Prop} {w' : World} {m' : Mp} {H' : Hp} {x : Value}, EnvR R' w' m' H' (mEnv p env0 Df) a → VR R' w' m' H' d.v x → EnvR R' w' m' H' (mEnv p' env0 Df) (a.put o.dst x) := fun {R' w' m' H' x} hE' hV t => by
    by_cases ht : o.dst = some t
    · rw [r.own hdm (by rw [hdi]; exact h1) (by rw [hdo]; exact ht), ht]
      have e : (a.put (some t) x).tmps.getD t undef = x := by
        rw [Array.getD_eq_getD_getElem?, put_get_eq a x t (by rw [hsz]; exact r.dst i o hi ho t ht)]; rfl
      rw [e]; exact hV
    · rw [other t ht, getD_eq (put_get_ne a o.dst x t ht)]
      exact hE' t
  have hEs : EnvR R w m (Hs k) (mEnv (fun j => elemN j (nthL i pr)) (base i) D) a := by
    intro t
    by_cases h : ∃ e ∈ D, elemN e.i (nthL i pr) = true ∧ e.dst = some t
    · obtain ⟨e, he, hpe, hd⟩ := h
      have e1 : eget t (mEnv (fun j => elemN j (nthL i pr)) (base i) D) = e.v := r.ownD (p := fun j => elemN j (nthL i pr)) hDf he hpe hd
      have e2 : eget t (mEnv p env0 Df) = e.v := r.own (hsub e he) (hps _ (elemN_iff.1 hpe)) hd
      have h3 := hE t
      rw [e2] at h3
      rw [e1]; exact h3
    · rw [mEnv_no fun e he hp hdt => h ⟨e, he, hp, hdt⟩]
      by_cases h' : ∃ e ∈ Df, e.dst = some t
      · obtain ⟨e, he, hd⟩ := h'
        obtain ⟨g0, oe, g1, g2⟩ := r.mem he
        rcases r.und i e.i oe t g0 g1 (by rw [← g2]; exact hd) with hu | ⟨hu1, hu2⟩
        · rw [hu]; exact .undef _
        · rw [hu2]
          have hpe : p e.i = false := by
            cases hpp : p e.i with
            | false => rfl
            | true => have := hc e.i g0 hpp i hu1; rw [hno] at this; cases this
          have h3 := hE t
          rw [mEnv_no fun f hf hfp hfd => (by
            have := r.inj hf he hfd hd
            rw [this, hpe] at hfp; cases hfp)] at h3
          exact h3
      · have h3 := hE t
        rw [mEnv_no fun e he _ hdt => h' ⟨e, he, hdt⟩] at h3
        rw [r.out i t fun j o hj ho hot => ?_]
        · exact h3
        · obtain ⟨pj, d', D', hsp, _, hdi'⟩ := r.at hj
          have hdm' : d' ∈ Df := by rw [hsp]; simp
          obtain ⟨_, o', g1, g2⟩ := r.mem hdm'
          rw [hdi', ho] at g1; cases g1
          exact h' ⟨d', hdm', by rw [g2]; exact hot⟩
  -- is it wanted?
  have hwant : ∀ b, Want (nthL i pr) o D b → Region.wanted o (yielded ops a.tmps) = b := fun b hW => by
    unfold Want at hW
    unfold Region.wanted
    split at hW
    · rename_i hg; rw [hg]; exact hW.symm
    · rename_i j want hg
      rw [hg]
      obtain ⟨hj, hWc⟩ := hW
      have hjl := hps j hj
      have hji := r.tr i hi j hj
      have hjnb : j < nb := by omega
      obtain ⟨pj, e, Dj, hDj, hDjl, hej⟩ := r.at hjnb
      have heD : e ∈ D := by
        have : e ∈ Df := by rw [hDj]; simp
        rw [hDf] at this
        rcases List.mem_append.1 this with h | h
        · have := hidx.1 e h; omega
        · rcases List.mem_cons.1 h with h | h
          · rw [h] at hej; omega
          · exact h
      have hev0 : doneV j D = e.v := by
        have hlt : ∀ l : List Done, (∀ f ∈ l, f ∈ Df) → e ∈ l → doneV j l = e.v := by
          intro l
          induction l with
          | nil => intro _ h; simp at h
          | cons f l ihl =>
            intro hl hel
            simp only [doneV]
            cases hb : Nat.beq j f.i with
            | true =>
              have hb := Nat.eq_of_beq_eq_true hb
              have hfD := hl f (List.mem_cons_self ..)
              obtain ⟨pf, Df', hf'⟩ := split_mem hfD
              have hfl := (r.split hf').2.1
              have : f = e := by
                rw [hDj] at hf'
                obtain ⟨_, e2⟩ := List.append_inj' hf' (by simp; omega)
                cases e2; rfl
              rw [this]; rfl
            | false =>
              rcases List.mem_cons.1 hel with rfl | hel
              · rw [hej, Nat.beq_refl] at hb; cases hb
              · exact ihl (fun f hf => hl f (List.mem_cons_of_mem _ hf)) hel
        exact hlt D hsub heD
      obtain ⟨_, oj, hoj, hdj⟩ := r.mem (hsub e heD)
      rw [hej] at hoj
      have hsome := r.grd i o j want hi ho hg
      unfold dstOf at hsome
      rw [hoj] at hsome
      simp only [Option.bind_some] at hsome
      obtain ⟨tj, htj⟩ := Option.isSome_iff_exists.1 hsome
      have htn := r.dst j oj hjnb hoj tj htj
      have h3 := hE tj
      rw [r.own (hsub e heD) (by rw [hej]; exact hjl) (by rw [hdj]; exact htj), ← hev0] at h3
      have hlt : tj < a.tmps.size := by rw [hsz]; exact htn
      generalize hv : a.tmps.getD tj undef = v at h3
      rcases hWc with ⟨c, hcv, rfl⟩ | ⟨hcv, rfl⟩
      · rw [hcv] at h3
        cases h3
        have hy : yielded ops a.tmps j = some c := by
          unfold yielded
          rw [hoj]
          simp only [Option.bind_some, htj]
          simp only [Array.getD, hlt, dif_pos] at hv
          simp [hlt]
          simp at hv
          rw [hv]
        show (yielded ops a.tmps j == some want) = (c == want)
        rw [hy]; cases c <;> cases want <;> rfl
      · rw [hcv] at h3
        have hv0 : v = .tuple #[] := by
          cases h3 with
          | tup cs xs h1 h2 =>
            cases xs with
            | nil => rfl
            | cons x xs => simp at h1
        have hy := yielded_none (ops := ops) (a := a) (j := j) (t := tj) (by rw [hoj]; exact htj) (hv.trans hv0)
        show (yielded ops a.tmps j == some want) = false
        rw [hy]; cases want <;> rfl
  have mono : ∀ {S S' : Value → World → Prop} {z : Result Next}, (∀ x w', S x w' → S' x w') → givesUpon X.P S z → givesUpon X.P S' z := fun hss h => by
    rename_i S S' z
    cases z with
    | ok n w' =>
      cases n <;> simp only [givesUpon] at h ⊢
      case value u => exact hss _ _ h
      case skip => exact hss _ _ h
      case enter f args => exact Calls.mono h fun e w'' ⟨v, he, hr⟩ => ⟨v, he, hss _ _ hr⟩
    | halt x w' => simp only [givesUpon] at h
  -- the hard ones that have run are those ahead
  have hcut' : i ∈ hards → (∀ j, j < nb → j ∈ hards → (j < k ↔ j < i)) ∧ ∀ j, j < nb → j ∈ hards → (p' j = true ↔ j < i + 1) := fun hm => by
    have key : ∀ j, j < nb → j ∈ hards → (p j = true ↔ j < i) := fun j hj hjm => by
      constructor
      · intro hpj
        rcases Nat.lt_trichotomy j i with h | h | h
        · exact h
        · subst h; rw [hno] at hpj; cases hpj
        · have := hc j hj hpj i (r.hard j hjm i hm h)
          rw [hno] at this; cases this
      · exact fun h => hps j (r.hard i hm j hjm h)
    refine ⟨fun j hj hjm => by rw [← hcut j hj hjm]; exact key j hj hjm, fun j hj hjm => ?_⟩
    by_cases e : j = i
    · subst e; rw [h1]; simp
    · rw [h2 j e, key j hj hjm]; omega
  have soft : i ∉ hards → ∀ j, j < nb → j ∈ hards → (p' j = true ↔ j < k) := fun hm j hj hjm => by
    rw [h2 j fun e => hm (e ▸ hjm)]; exact hcut j hj hjm
  rcases hF with ⟨hw, ⟨hh, e, hdoes, hB, _⟩ | ⟨hh, hB, l, q, hl, hlr, hop, hq, _⟩⟩ | ⟨hw, hv, hB⟩
  · left
    refine ⟨hwant true hw, ?_⟩
    rw [hdi] at hh
    obtain ⟨g1, g2⟩ := hcut' hh
    have hki : Hs k = Hs i := r.between hk (by omega) g1
    rw [hki] at F0 hE hEs
    have hg := hdoes R w m a F0.sim hEs
    unfold gives at hg ⊢
    refine mono (fun x w' ⟨R', m', F, hV⟩ => ?_) hg
    rw [← hB] at F hV
    exact ⟨R', m', i + 1, by omega, g2, F0.trans F, put (hE.far F F0.sim) hV⟩
  · left
    refine ⟨hwant true hw, ?_⟩
    rw [hdi] at hh
    have hlt := readRefs_lt F0.sim hEs hl
    have hsame : ∀ b ∈ l, hget b (Hs i) = hget b (Hs k) := fun b hb => by
      cases hst : settled hards pr d.i with
      | false => exact r.read (by omega) hk (hlr b hb).1 (hlt b hb) (r.disj b ((hlr b hb).2 hst))
      | true =>
        rw [hdi] at hst
        have hst := settled_iff.1 hst
        rw [r.between (a := i) (b := k) (by omega) hk fun j hj hjm => ?_]
        obtain ⟨s1, s2⟩ := hst j hjm
        constructor
        · intro hji; exact (hcut j hj hjm).1 (hps j (s1 hji))
        · intro hjk
          have hpj := (hcut j hj hjm).2 hjk
          rcases Nat.lt_trichotomy j i with h | h | h
          · exact h
          · subst h; exact absurd hjm hh
          · have := hc j hj hpj i (s2 h)
            rw [hno] at this; cases this
    have hop' := read_congr (H' := Hs k) hl hsame hop
    have hg := opDoes_of hop' hq R w m a F0.sim hEs
    unfold gives at hg ⊢
    refine mono (fun x w' ⟨R', m', F, hV⟩ => ?_) hg
    rw [noEff_app] at F hV
    exact ⟨R', m', k, hk, soft hh, F0.trans F, put (hE.far F F0.sim) hV⟩
  · right
    refine ⟨hwant false hw, ?_⟩
    by_cases hh : i ∈ hards
    · obtain ⟨g1, g2⟩ := hcut' hh
      have hki : Hs k = Hs i := r.between hk (by omega) g1
      rw [hki] at F0 hE
      rw [← hB] at F0 hE
      exact ⟨R, m, i + 1, by omega, g2, F0, put hE (by rw [hv]; exact VR.skip)⟩
    · exact ⟨R, m, k, hk, soft hh, F0, put hE (by rw [hv]; exact VR.skip)⟩

theorem chain_sound (hT : TSound X.P X.T) {s : St} {K : St → Prop} (h : chainR X ops nb hards pr s K) : ∃ s', K s' ∧ AnyOk X ops s s' := by
  unfold chainR at h
  simp only [chkP] at h
  cases hok : chainOk ops X.nt nb hards pr with
  | false => rw [hok] at h; exact h.elim
  | true =>
  rw [hok] at h
  simp only [cond_true] at h
  unfold chainOk at hok
  simp only [Bool.and_eq_true] at hok
  obtain ⟨⟨⟨⟨⟨htr, hfa⟩, hseq⟩, hlen⟩, hpo⟩, hho⟩ := hok
  have hlen := Nat.eq_of_beq_eq_true hlen
  have hf := factsC_of hfa
  have hnb : (ops.toList.take nb).length = nb := by have := hf.le; simp; omega
  have htake : ∀ j, j < nb → (ops.toList.take nb)[j]? = ops[j]? := fun j hj => by rw [List.getElem?_take, if_pos hj]; simp
  obtain ⟨Df, Hs, S, Rd, _, hH0, hDl, hCO, hK, _, _⟩ := chainP_sound hT (ops := ops) (pr := pr) (hards := hards) (base := fun i => undefsX i (ops.toList.take nb) pr s.env) (ops.toList.take nb) pr [] s.heap [] [] _ (fun j o hj => by
    rw [List.length_nil, Nat.zero_add, ← htake j (by have := (List.getElem?_eq_some_iff.1 hj).1; omega)]; exact hj) (fun j => by rw [List.length_nil, Nat.zero_add]) h
  rw [List.length_nil, Nat.zero_add, hnb] at hDl hCO hK
  rw [List.length_nil] at hH0
  cases hdj : disjL Rd S with
  | false => rw [hdj] at hK; exact hK.elim
  | true =>
  rw [hdj] at hK
  simp only [cond_true] at hK
  rw [maskEnvK_iff] at hK
  obtain ⟨s', hk, hs⟩ := opsP_sound hT hK
  have hdj' : ∀ k ∈ Rd, k ∉ S := by
    have : ∀ (a b : List Nat), disjL a b = true → ∀ k ∈ a, k ∉ b := by
      intro a b
      induction a with
      | nil => intro _ k hk; simp at hk
      | cons x a ih =>
        intro h k hk
        simp only [disjL, Bool.and_eq_true] at h
        rcases List.mem_cons.1 hk with rfl | hk
        · intro hb; rw [elemN_iff.2 hb] at h; simp at h
        · exact ih h.2 k hk
    exact this Rd S hdj
  have r : CRan X ops pr hards (fun i => undefsX i (ops.toList.take nb) pr s.env) s.env Df Hs S Rd nb := by
    refine ⟨hDl, hCO, fun i j o o' t hi hj ho ho' hd hd' => ?_, fun q i o t hi ho hd => ?_, fun q t ht => ?_, fun i hi j hj => ?_, fun i o hi ho t ht => ?_, fun i o j b hi ho hg => ?_, fun i hi j hj hji => ?_, hdj'⟩
    · obtain ⟨o1, a1, a2, _⟩ := hf.op i hi
      obtain ⟨o2, b1, b2, _⟩ := hf.op j hj
      rw [ho] at a1; cases a1
      rw [ho'] at b1; cases b1
      have a3 := (a2 t hd).2
      have b3 := (b2 t hd').2
      rcases Nat.lt_trichotomy i j with hl | hl | hl
      · exact absurd (show dstOf ops i = some t by unfold dstOf; rw [ho]; exact hd) (b3 i hl)
      · exact hl
      · exact absurd (show dstOf ops j = some t by unfold dstOf; rw [ho']; exact hd') (a3 j hl)
    · rcases undefsX_get (i := q) (env := s.env) (t := t) (ops.toList.take nb) pr with ⟨g1, _⟩ | ⟨g1, g2⟩
      · exact .inl g1
      · exact .inr ⟨g2 i o (by rw [htake i hi]; exact ho) hd, g1⟩
    · rcases undefsX_get (i := q) (env := s.env) (t := t) (ops.toList.take nb) pr with ⟨_, j, o, g1, g2⟩ | ⟨g1, _⟩
      · have hj : j < nb := by have := (List.getElem?_eq_some_iff.1 g1).1; omega
        exact absurd g2 (ht j o hj (by rw [← htake j hj]; exact g1))
      · exact g1
    · have := (predsTrans_get htr i (by omega) j hj).1
      omega
    · obtain ⟨o1, a1, a2, _⟩ := hf.op i hi
      rw [ho] at a1; cases a1
      exact (a2 t ht).1
    · obtain ⟨o1, a1, _, a2, _⟩ := hf.op i hi
      rw [ho] at a1; cases a1
      exact a2 j b hg
    · unfold hardsOk at hho
      rw [List.all_eq_true] at hho
      have := hho i hi
      rw [List.all_eq_true] at this
      have := this j hj
      rw [Bool.or_eq_true] at this
      rcases this with h | h
      · have : Nat.blt j i = true := Nat.ble_eq_true_of_le hji
        rw [this] at h; cases h
      · exact elemN_iff.1 h
  refine ⟨s', hk, fun R0 w0 m0 H0 _ _ a w hI => ?_⟩
  obtain ⟨⟨R, m, F0, hE⟩, hsz, hnd⟩ := hI
  have hdr := F0.sim.drew
  have F1 := F0.trans hdr.far
  have hE1 := hE.far hdr.far F0.sim
  have hrep : ∀ i, (Array.replicate ops.size false).getD i false = false := fun i => by
    rw [Array.getD_eq_getD_getElem?, Array.getElem?_replicate]; split <;> rfl
  have hS1 : Sim R w.drew m s.heap := hdr.sim
  have hA0 : CAt R w.drew m hards s.env Df Hs nb (fun k => (Array.replicate ops.size false).getD k false) a w.drew := by
    refine ⟨R, m, 0, Nat.zero_le _, fun i _ _ => by show (Array.replicate ops.size false).getD i false = true ↔ i < 0; rw [hrep]; simp, by rw [hH0]; exact .refl hS1, fun t => ?_⟩
    rw [hH0, mEnv_no fun d _ hp _ => (by rw [hrep] at hp; cases hp)]
    exact hE1 t
  have key := any_gen (X := X) (ops := ops) (pr := pr) (nb := nb) (nt := X.nt) (Q := fun e1 a1 w1 => ExR .normal e1 ∧ Inv X.nt R0 w0 m0 H0 a1 w1 s') (A := CAt R w.drew m hards s.env Df Hs nb) hf hseq (fun i hi => by
      obtain ⟨o, h1, h2⟩ := predsOk_get hpo i (by omega)
      rw [Nat.zero_add] at h1 h2
      exact ⟨o, h1, h2⟩) (fun p p' i o a w hi ho hc hno hps h1 h2 hs' hA => CAt.step r hi ho hc hno hps h1 h2 hs' hA) (fun a' w' hA hs' hn' => by
      obtain ⟨R', m', k, hk', hcut, F3, hE3⟩ := hA
      have hkn : Hs k = Hs nb := r.between hk' (Nat.le_refl _) fun i hi hm => by
        rw [← hcut i hi hm]; simp
      rw [hkn] at F3 hE3
      rw [hH0] at F3
      refine hs R0 w0 m0 H0 a' w' ⟨⟨R', m', F1.trans F3, fun t => ?_⟩, hs', hn'⟩ _ fun a2 w2 hI2 => ⟨rfl, hI2⟩
      have h3 := hE3 t
      have hall : ∀ d ∈ Df, decide (d.i < nb) = true := fun d hd => by simpa using (r.mem hd).1
      by_cases hex : ∃ d ∈ Df, d.dst = some t
      · obtain ⟨d, hd, hdt⟩ := hex
        rw [r.own (p := fun k => decide (k < nb)) hd (hall d hd) hdt] at h3
        have h4 : eget t (mEnv (fun k => elemN k (Df.map (·.i))) s.env Df) = d.v := by
          obtain ⟨pre, D', h⟩ := split_mem hd
          have hi := r.idx h
          have hm : elemN d.i (Df.map (·.i)) = true := elemN_iff.2 (List.mem_map.2 ⟨d, hd, rfl⟩)
          generalize Df.map (·.i) = li at hm ⊢
          rw [h]
          refine mEnv_own (p := fun k => elemN k li) (fun f hf hft => ?_) hm hdt
          have := r.inj (by rw [h]; exact List.mem_append_left _ hf) hd hft hdt
          have := hi.1 f hf
          omega
        show VR _ _ _ _ (eget t (mEnv (fun k => elemN k (Df.map (·.i))) s.env Df)) _
        rw [h4]; exact h3
      · rw [mEnv_no fun d hd _ hdt => hex ⟨d, hd, hdt⟩] at h3
        show VR _ _ _ _ (eget t (mEnv (fun k => elemN k (Df.map (·.i))) s.env Df)) _
        rw [mEnv_no fun d hd _ hdt => hex ⟨d, hd, hdt⟩]
        exact h3) nb (Array.replicate ops.size false) a w.drew hA0 hsz hnd (by simp) (fun i _ => hrep i) (fun k o _ hkl => by rw [hrep] at hkl; cases hkl) (by
      have : ∀ (r : List Nat), (r.filter fun i => !(Array.replicate ops.size false).getD i false) = r := fun r => by
        apply List.filter_eq_self.2
        intro i _
        rw [hrep i]; rfl
      rw [this]; simp)
  have e : nb + (ops.size - nb) = ops.size := by have := hf.le; omega
  rw [e] at key
  exact key
end

theorem old_any {X : Cx} (hT : TSound X.P X.T) {id : Nat} {ops : Array Oper} {s : St} {K : St → Prop} (h : oldR X id ops true s K) : ∃ s', K s' ∧ AnyOk X ops s s' := by
  unfold oldR at h
  simp only at h
  split at h
  · exact draw_old hT h
  · rename_i ps r _
    cases hb : Nat.beq r.length (X.ann id).2.1 with
    | true => rw [hb] at h; exact chain_sound hT h
    | false => rw [hb] at h; exact draw_old hT h
theorem AnyOk.code {X : Cx} (hm : X.P.follows .mixedOrders = true) {id : Nat} {ops : Array Oper} {s s' : St} (h : AnyOk X ops s s') : CodeOk X (.region id ops true) s .normal s' :=
  fun R0 w0 m0 H0 hl hS a w hI => wp_region_any hm (h R0 w0 m0 H0 hl hS a w hI)
theorem old_sound {X : Cx} (hT : TSound X.P X.T) (hm : X.P.follows .mixedOrders = true) {id : Nat} {ops : Array Oper} {b : Bool} {s : St} {K : St → Prop} (h : oldR X id ops b s K) : ∃ s', K s' ∧ CodeOk X (.region id ops b) s .normal s' := by
  cases b with
  | false => unfold oldR at h; exact seq_sound hT h
  | true =>
    obtain ⟨s', hk, hs⟩ := old_any hT h
    exact ⟨s', hk, hs.code hm⟩
/-- stores that wait for some moves, too -/
theorem late_any {X : Cx} : ∀ {ks : List Nat} {ops : Array Oper} {K : Array Oper → Prop}, lateP ks ops K → ∃ ops', K ops' ∧ ∀ s s', AnyOk X ops' s s' → AnyOk X ops s s'
  | [], ops, K, h => ⟨ops, h, fun _ _ h => h⟩
  | k :: r, ops, K, h => by
    simp only [lateP, chkP] at h
    cases hl : lateOk k ops with
    | false => rw [hl] at h; exact h.elim
    | true =>
      rw [hl] at h
      simp only [cond_true] at h
      obtain ⟨ops', hK, himp⟩ := late_any h
      refine ⟨ops', hK, fun s s' ha => ?_⟩
      have h1 := himp s s' ha
      obtain ⟨ok, L⟩ := late_of hl
      intro R0 w0 m0 H0 hl hS a w hI
      have h2 := h1 R0 w0 m0 H0 hl hS a w hI
      rw [late_size] at h2
      have hrep : ∀ i, (Array.replicate ops.size false).getD i false = false := fun i => by
        rw [Array.getD_eq_getD_getElem?, Array.getElem?_replicate]; split <;> rfl
      refine L.any (fun e a w hq => ?_) ops.size _ a w.drew (by simp) (fun j o _ hj => ?_) (hrep k) h2
      · have := hq.1
        cases e <;> first | rfl | cases this
      · rw [hrep] at hj; cases hj
end Go.Proofs.Ytnbbaemijogeoaa.Ae

namespace Go.Proofs.Ytnbbaemijogeoaa.Ae
open Go

section
variable {X : Cx} {ops : Array Oper} {pss : List (List Nat)} {env0 env : Env} {H : Hp} {Df : List PD} {nb : Nat}

theorem pMaskK_iff {ps : List Nat} {ch : List (Nat × Bool)} : ∀ {D : List PD} {k : Env → Prop}, pMaskK ps ch env0 D k ↔ k (pMask ps ch env0 D)
  | [], k => Iff.rfl
  | d :: r, k => by
    simp only [pMaskK, pMask]
    rw [pMaskK_iff]
    cases elemN d.i ps && subCh d.ch ch with
    | true => simp only [cond_true]; exact putK_iff
    | false => exact Iff.rfl
theorem pEndK_iff : ∀ {D : List PD} {k : Env → Prop}, pEndK env D k ↔ k (pEnd env D)
  | [], k => Iff.rfl
  | d :: r, k => by simp only [pEndK, pEnd]; rw [pEndK_iff, forceV_iff]; exact putK_iff
theorem impK_iff {g : Bool} {p : Option Prop} {q : Prop} (h : impK g p q) : (g = true → ∀ r, p = some r → r) ∧ q := by
  cases p with
  | none => exact ⟨fun _ r e => (by cases e), h⟩
  | some p => exact ⟨fun hg r e => (by cases e; exact h.1 hg), h.2⟩

/-- an operation's value -/
def PEv (P : Program) (op : Op) (env0 : Env) (H : Hp) (ps : List Nat) (ch : List (Nat × Bool)) (D : List PD) (g : Bool) (v : AVal) : Prop :=
  (∃ c a b e t x y, op = .pick (.tmp c) a b ∧ pDst c D = some e ∧ e.i ∈ ps ∧ subCh e.ch ch = true ∧ e.v = .bool t ∧ oper (pMask ps ((e.i, true) :: ch) env0 D) a = some x ∧ oper (pMask ps ((e.i, false) :: ch) env0 D) b = some y ∧ pickV t x y = some v) ∨
  (∃ p, opF P op (pMask ps ch env0 D) H = some ⟨p, v, noEff⟩ ∧ (g = true → ∀ q, p = some q → q))
theorem pEvalK_inv {P : Program} {op : Op} {ps : List Nat} {ch : List (Nat × Bool)} {D : List PD} {g : Bool} {Q : AVal → Prop} (h : pEvalK P op env0 H ps ch D fun p v => impK g p (Q v)) : ∃ v, Q v ∧ PEv P op env0 H ps ch D g v := by
  unfold pEvalK at h
  split at h
  · rename_i c a b
    split at h
    · rename_i e he
      cases hc : elemN e.i ps && subCh e.ch ch with
      | false => rw [hc] at h; exact h.elim
      | true =>
        rw [hc] at h
        simp only [cond_true] at h
        rw [Bool.and_eq_true] at hc
        split at h
        · rename_i t ht
          rw [pMaskK_iff, pMaskK_iff] at h
          split at h
          · rename_i x y hx hy
            split at h
            · rename_i v hv
              exact ⟨v, h, .inl ⟨c, a, b, e, t, x, y, rfl, he, elemN_iff.1 hc.1, hc.2, ht, hx, hy, hv⟩⟩
            · exact h.elim
          · exact h.elim
        · exact h.elim
    · exact h.elim
  · rw [pMaskK_iff] at h
    split at h
    · split at h
      · rename_i p v hop
        obtain ⟨h1, h2⟩ := impK_iff h
        exact ⟨v, h2, .inr ⟨p, hop, h1⟩⟩
      · exact h.elim
    · exact h.elim

def PFact (X : Cx) (ops : Array Oper) (pss : List (List Nat)) (env0 : Env) (H : Hp) (d : PD) (D : List PD) : Prop :=
  d.i = D.length ∧ ∃ o, ops[D.length]? = some o ∧ d.dst = o.dst ∧ pGuard (nthL D.length pss) D o = some (d.g, d.ch) ∧ PEv X.P o.op env0 H (nthL D.length pss) d.ch D d.g d.v
def POk (X : Cx) (ops : Array Oper) (pss : List (List Nat)) (env0 : Env) (H : Hp) : List PD → Prop
  | [] => True
  | d :: D => POk X ops pss env0 H D ∧ PFact X ops pss env0 H d D

theorem pureP_sound : ∀ (l : List Oper) (pr : List (List Nat)) (D : List PD) (K : List PD → Prop), POk X ops pss env0 H D → (∀ j o, l[j]? = some o → ops[D.length + j]? = some o) → (∀ j, nthL j pr = nthL (D.length + j) pss) →
    pureP X.P env0 H l pr D.length D K → ∃ Df, POk X ops pss env0 H Df ∧ Df.length = D.length + l.length ∧ K Df
  | [], pr, D, K, hD, _, _, h => ⟨D, hD, rfl, h⟩
  | o :: r, [], D, K, _, _, _, h => h.elim
  | o :: r, ps :: pr, D, K, hD, hl, hp, h => by
    have ho : ops[D.length]? = some o := hl 0 o rfl
    have hps : ps = nthL D.length pss := hp 0
    simp only [pureP] at h
    split at h
    · rename_i g ch hg
      obtain ⟨v, hk, he⟩ := pEvalK_inv h
      rw [forceV_iff] at hk
      obtain ⟨Df, h1, h2, h3⟩ := pureP_sound r pr (⟨D.length, o.dst, v, g, ch⟩ :: D) K ⟨hD, rfl, o, ho, rfl, by rw [← hps]; exact hg, by rw [← hps]; exact he⟩ (fun j o' hj => by
        have := hl (j + 1) o' (by simpa using hj)
        rw [List.length_cons, show D.length + 1 + j = D.length + (j + 1) by omega]; exact this) (fun j => by
        have := hp (j + 1)
        rw [List.length_cons, show D.length + 1 + j = D.length + (j + 1) by omega]; exact this) hk
      exact ⟨Df, h1, by simp at h2 ⊢; omega, h3⟩
    · exact h.elim

theorem POk.suffix : ∀ {pre D : List PD}, POk X ops pss env0 H (pre ++ D) → POk X ops pss env0 H D
  | [], _, h => h
  | _ :: pre, _, h => POk.suffix (pre := pre) h.1
theorem POk.lt : ∀ {D : List PD}, POk X ops pss env0 H D → ∀ d ∈ D, d.i < D.length
  | [], _, d, hd => by simp at hd
  | e :: D, h, d, hd => by
    rcases List.mem_cons.1 hd with hd' | hd'
    · rw [hd', h.2.1]; simp
    · have := POk.lt h.1 d hd'; simp; omega
theorem POk.uniq : ∀ {D : List PD}, POk X ops pss env0 H D → ∀ d ∈ D, ∀ e ∈ D, d.i = e.i → d = e
  | [], _, d, hd, _, _, _ => by simp at hd
  | f :: D, h, d, hd, e, he, hi => by
    rcases List.mem_cons.1 hd with hd' | hd' <;> rcases List.mem_cons.1 he with he' | he'
    · rw [hd', he']
    · have := POk.lt h.1 e he'; rw [← hi, hd', h.2.1] at this; omega
    · have := POk.lt h.1 d hd'; rw [hi, he', h.2.1] at this; omega
    · exact POk.uniq h.1 d hd' e he' hi
theorem POk.at (h : POk X ops pss env0 H Df) {d : PD} (hd : d ∈ Df) : ∃ pre D, Df = pre ++ d :: D ∧ PFact X ops pss env0 H d D := by
  obtain ⟨pre, D, e⟩ := List.append_of_mem hd
  have h' : POk X ops pss env0 H (d :: D) := POk.suffix (pre := pre) (by rw [← e]; exact h)
  exact ⟨pre, D, e, h'.2⟩
theorem POk.find : ∀ {D : List PD} {i : Nat}, POk X ops pss env0 H D → i < D.length → ∃ d ∈ D, d.i = i
  | [], i, _, hi => by simp at hi
  | d :: D, i, h, hi => by
    by_cases e : i = D.length
    · exact ⟨d, List.mem_cons_self .., by rw [h.2.1, e]⟩
    · obtain ⟨f, hf, hfi⟩ := POk.find h.1 (show i < D.length by simp at hi; omega)
      exact ⟨f, List.mem_cons_of_mem _ hf, hfi⟩

theorem pFind_mem {j : Nat} : ∀ {D : List PD} {e : PD}, pFind j D = some e → e ∈ D ∧ e.i = j
  | [], e, h => by simp [pFind] at h
  | d :: D, e, h => by
    simp only [pFind] at h
    cases hb : Nat.beq j d.i with
    | true => rw [hb] at h; simp at h; subst h; exact ⟨List.mem_cons_self .., (Nat.eq_of_beq_eq_true hb).symm⟩
    | false => rw [hb] at h; obtain ⟨h1, h2⟩ := pFind_mem (D := D) h; exact ⟨List.mem_cons_of_mem _ h1, h2⟩
theorem pDst_mem {t : Nat} : ∀ {D : List PD} {e : PD}, pDst t D = some e → e ∈ D ∧ e.dst = some t
  | [], e, h => by simp [pDst] at h
  | d :: D, e, h => by
    simp only [pDst] at h
    split at h
    · rename_i u hu
      cases hb : Nat.beq t u with
      | true => rw [hb] at h; simp at h; subst h; exact ⟨List.mem_cons_self .., by rw [hu, Nat.eq_of_beq_eq_true hb]⟩
      | false => rw [hb] at h; obtain ⟨h1, h2⟩ := pDst_mem (D := D) h; exact ⟨List.mem_cons_of_mem _ h1, h2⟩
    · obtain ⟨h1, h2⟩ := pDst_mem (D := D) h; exact ⟨List.mem_cons_of_mem _ h1, h2⟩

/-- all conditions of a list hold -/
def Holds (Df : List PD) (ch : List (Nat × Bool)) : Prop := ∀ j b, (j, b) ∈ ch → ∃ e ∈ Df, e.i = j ∧ e.g = true ∧ e.v = .bool b
theorem pairIn_mem {j : Nat} {b : Bool} : ∀ {l : List (Nat × Bool)}, pairIn j b l = true → (j, b) ∈ l
  | [], h => by simp [pairIn] at h
  | (k, c) :: r, h => by
    simp only [pairIn] at h
    cases hb : Nat.beq j k && cond c b (!b) with
    | true =>
      rw [Bool.and_eq_true] at hb
      have := Nat.eq_of_beq_eq_true hb.1
      subst this
      have : b = c := by cases b <;> cases c <;> simp_all
      subst this
      exact List.mem_cons_self ..
    | false => rw [hb] at h; exact List.mem_cons_of_mem _ (pairIn_mem h)
theorem Holds.sub : ∀ {a b : List (Nat × Bool)}, subCh a b = true → Holds Df b → Holds Df a
  | [], b, _, _ => fun j c h => by simp at h
  | (k, c) :: r, b, h, hb => by
    simp only [subCh, Bool.and_eq_true] at h
    intro j d hm
    rcases List.mem_cons.1 hm with e | hm
    · cases e; exact hb k c (pairIn_mem h.1)
    · exact Holds.sub h.2 hb j d hm
theorem POk.g_iff (h : POk X ops pss env0 H Df) : ∀ (n : Nat), ∀ d ∈ Df, d.i = n → (d.g = true ↔ Holds Df d.ch) := by
  intro n
  induction n using Nat.strongRecOn with
  | _ n ih =>
    intro d hd hn
    obtain ⟨pre, D, hs, hi, o, ho, hdst, hg, _⟩ := h.at hd
    unfold pGuard at hg
    split at hg
    · simp only [Option.some.injEq, Prod.mk.injEq] at hg
      obtain ⟨h1, h2⟩ := hg
      rw [← h1, ← h2]
      exact ⟨fun _ j b hm => by simp at hm, fun _ => rfl⟩
    · rename_i j want _
      cases hj : elemN j (nthL D.length pss) with
      | false => rw [hj] at hg; simp at hg
      | true =>
        rw [hj] at hg
        simp only [cond_true] at hg
        split at hg
        · rename_i e he
          split at hg
          · rename_i b hb
            simp only [Option.some.injEq, Prod.mk.injEq] at hg
            obtain ⟨h1, h2⟩ := hg
            obtain ⟨he1, he2⟩ := pFind_mem he
            have hem : e ∈ Df := by rw [hs]; exact List.mem_append_right _ (List.mem_cons_of_mem _ he1)
            have hlt : e.i < n := by
              have := POk.lt (POk.suffix (pre := pre ++ [d]) (by rw [List.append_assoc]; exact hs ▸ h)) e he1
              omega
            rw [← h1, ← h2]
            constructor
            · intro hh
              have hg1 : e.g = true := by
                cases hq : e.g with
                | true => rfl
                | false => rw [hq] at hh; cases hh
              rw [hg1] at hh
              have hbw : b = want := by cases b <;> cases want <;> simp_all
              subst hbw
              intro k c hm
              rcases List.mem_cons.1 hm with q | hm
              · cases q; exact ⟨e, hem, he2, hg1, hb⟩
              · exact (ih e.i hlt e hem rfl).1 hg1 k c hm
            · intro hh
              obtain ⟨e', h1', h2', h3', h4'⟩ := hh j want (List.mem_cons_self ..)
              have : e' = e := POk.uniq h e' h1' e hem (by rw [h2', he2])
              subst this
              rw [hb] at h4'
              have hbw : b = want := AVal.bool.inj h4'
              rw [h3', hbw]
              cases want <;> rfl
          · cases hg
        · cases hg

structure PRan (X : Cx) (ops : Array Oper) (pss : List (List Nat)) (env0 env : Env) (H : Hp) (Df : List PD) (nb : Nat) : Prop where
  ok : POk X ops pss env0 H Df
  len : Df.length = nb
  fac : FactsC ops nb X.nt
  und : ∀ d ∈ Df, ∀ t, d.dst = some t → eget t env0 = .undef
  out : ∀ t, (∀ d ∈ Df, d.dst ≠ some t) → eget t env0 = eget t env

theorem PRan.oper (r : PRan X ops pss env0 env H Df nb) {d : PD} (hd : d ∈ Df) : d.i < nb ∧ ∃ o, ops[d.i]? = some o ∧ d.dst = o.dst := by
  obtain ⟨pre, D, hs, hi, o, ho, hdst, _⟩ := r.ok.at hd
  refine ⟨by rw [← r.len]; exact POk.lt r.ok d hd, o, by rw [hi]; exact ho, hdst⟩
theorem PRan.dist (r : PRan X ops pss env0 env H Df nb) {d e : PD} (hd : d ∈ Df) (he : e ∈ Df) {t : Nat} (h1 : d.dst = some t) (h2 : e.dst = some t) : d = e := by
  obtain ⟨a1, o, a2, a3⟩ := r.oper hd
  obtain ⟨b1, o', b2, b3⟩ := r.oper he
  refine POk.uniq r.ok d hd e he ?_
  rw [h1] at a3; rw [h2] at b3
  obtain ⟨q, q1, q2, _⟩ := r.fac.op d.i a1
  obtain ⟨q', p1, p2, _⟩ := r.fac.op e.i b1
  rw [a2] at q1; cases q1
  rw [b2] at p1; cases p1
  rcases Nat.lt_trichotomy d.i e.i with hl | hl | hl
  · exact absurd (show dstOf ops d.i = some t by unfold dstOf; rw [a2]; exact a3.symm) ((p2 t b3.symm).2 d.i hl)
  · exact hl
  · exact absurd (show dstOf ops e.i = some t by unfold dstOf; rw [b2]; exact b3.symm) ((q2 t a3.symm).2 e.i hl)

theorem eget_put_ne {dst : Option Nat} {v : AVal} {e : Env} {t : Nat} (h : dst ≠ some t) : eget t (putEnv dst v e) = eget t e := by
  cases dst with
  | none => rfl
  | some u =>
    simp only [putEnv, eget]
    cases hb : Nat.beq t u with
    | false => rfl
    | true => have := Nat.eq_of_beq_eq_true hb; subst this; exact absurd rfl h
theorem eget_put_eq {v : AVal} {e : Env} {t : Nat} : eget t (putEnv (some t) v e) = v := by
  simp only [putEnv, eget, Nat.beq_refl, cond_true]
theorem pMask_own {ps : List Nat} {ch : List (Nat × Bool)} {t : Nat} {e : PD} (hd : e.dst = some t) (hc : (elemN e.i ps && subCh e.ch ch) = true) : ∀ {D : List PD}, (∀ f ∈ D, f.dst = some t → f = e) → e ∈ D → eget t (pMask ps ch env0 D) = e.v
  | [], _, h => by simp at h
  | f :: D, hu, h => by
    simp only [pMask]
    by_cases hf : f = e
    · subst hf; rw [hc]; simp only [cond_true]; rw [hd]; exact eget_put_eq
    · have hne : f.dst ≠ some t := fun q => hf (hu f (List.mem_cons_self ..) q)
      have ih := pMask_own hd hc (D := D) (fun g hg => hu g (List.mem_cons_of_mem _ hg)) (by
        rcases List.mem_cons.1 h with q | q
        · exact absurd q.symm hf
        · exact q)
      cases elemN f.i ps && subCh f.ch ch with
      | true => simp only [cond_true]; rw [eget_put_ne hne]; exact ih
      | false => exact ih
theorem pMask_no {ps : List Nat} {ch : List (Nat × Bool)} {t : Nat} : ∀ {D : List PD}, (∀ f ∈ D, (elemN f.i ps && subCh f.ch ch) = true → f.dst ≠ some t) → eget t (pMask ps ch env0 D) = eget t env0
  | [], _ => rfl
  | f :: D, h => by
    simp only [pMask]
    have ih := pMask_no (D := D) (fun g hg => h g (List.mem_cons_of_mem _ hg))
    cases hc : elemN f.i ps && subCh f.ch ch with
    | true => simp only [cond_true]; rw [eget_put_ne (h f (List.mem_cons_self ..) hc)]; exact ih
    | false => exact ih

/-- the state when some have run -/
def PAt (R1 : Nat → Prop) (w1 : World) (m1 : Mp) (H : Hp) (env : Env) (Df : List PD) (p : Nat → Bool) (a : Act) (w : World) : Prop :=
  ∃ R m, Far R1 w1 m1 H R w m H ∧ (∀ t, (∀ d ∈ Df, d.dst ≠ some t) → VR R w m H (eget t env) (a.tmps.getD t undef)) ∧
    ∀ d ∈ Df, ∀ t, d.dst = some t → p d.i = true → (d.g = true → VR R w m H d.v (a.tmps.getD t undef)) ∧ (d.g = false → a.tmps.getD t undef = undef)

theorem PAt.mask (r : PRan X ops pss env0 env H Df nb) {R : Nat → Prop} {w : World} {m : Mp} {a : Act} {p : Nat → Bool} (h1 : ∀ t, (∀ d ∈ Df, d.dst ≠ some t) → VR R w m H (eget t env) (a.tmps.getD t undef))
    (h2 : ∀ d ∈ Df, ∀ t, d.dst = some t → p d.i = true → (d.g = true → VR R w m H d.v (a.tmps.getD t undef)) ∧ (d.g = false → a.tmps.getD t undef = undef))
    {D : List PD} (hD : ∀ e ∈ D, e ∈ Df) {ps : List Nat} (hps : ∀ j ∈ ps, p j = true) {ch : List (Nat × Bool)} (hch : Holds Df ch) : EnvR R w m H (pMask ps ch env0 D) a := by
  intro t
  by_cases h : ∃ e ∈ D, (elemN e.i ps && subCh e.ch ch) = true ∧ e.dst = some t
  · obtain ⟨e, he, hc, hd⟩ := h
    rw [pMask_own hd hc (fun f hf hft => r.dist (hD f hf) (hD e he) hft hd) he]
    rw [Bool.and_eq_true] at hc
    exact (h2 e (hD e he) t hd (hps _ (elemN_iff.1 hc.1))).1 ((r.ok.g_iff _ e (hD e he) rfl).2 (hch.sub hc.2))
  · rw [pMask_no fun f hf hc hft => h ⟨f, hf, hc, hft⟩]
    by_cases h' : ∃ d ∈ Df, d.dst = some t
    · obtain ⟨d, hd, hdt⟩ := h'
      rw [r.und d hd t hdt]; exact .undef _
    · have hno : ∀ d ∈ Df, d.dst ≠ some t := fun d hd hdt => h' ⟨d, hd, hdt⟩
      rw [r.out t hno]; exact h1 t hno

theorem PAt.step (r : PRan X ops pss env0 env H Df nb) {R1 : Nat → Prop} {w1 : World} {m1 : Mp} {p p' : Nat → Bool} {i : Nat} {o : Oper} {a : Act} {w : World} (hi : i < nb) (ho : ops[i]? = some o) (_ : p i = false) (hps : ∀ j ∈ nthL i pss, p j = true)
    (_ : p' i = true) (hp2 : ∀ k, k ≠ i → p' k = p k) (hsz : a.tmps.size = X.nt) (hA : PAt R1 w1 m1 H env Df p a w) :
    (Region.wanted o (yielded ops a.tmps) = true ∧ gives X.P o a w fun x w' => PAt R1 w1 m1 H env Df p' (a.put o.dst x) w') ∨ (Region.wanted o (yielded ops a.tmps) = false ∧ PAt R1 w1 m1 H env Df p' (a.put o.dst undef) w) := by
  obtain ⟨R, m, F0, h1, h2⟩ := hA
  obtain ⟨d, hd, hdi⟩ := POk.find r.ok (by rw [r.len]; exact hi)
  obtain ⟨pre, D, hs, hDl, o', ho', hdst, hg, hev⟩ := r.ok.at hd
  rw [← hDl, hdi] at ho' hg hev
  rw [ho] at ho'; cases ho'
  have hsub : ∀ e ∈ D, e ∈ Df := fun e he => by rw [hs]; exact List.mem_append_right _ (List.mem_cons_of_mem _ he)
  have slot : ∀ t, o.dst = some t → t < a.tmps.size := fun t ht => by
    obtain ⟨q, q1, q2, _⟩ := r.fac.op i hi
    rw [ho] at q1; cases q1
    rw [hsz]; exact (q2 t ht).1
  -- the new state
  have next : ∀ {R' : Nat → Prop} {w' : World} {m' : Mp} {x : Value}, Far R w m H R' w' m' H → (d.g = true → VR R' w' m' H d.v x) → (d.g = false → x = undef) → PAt R1 w1 m1 H env Df p' (a.put o.dst x) w' := fun {R' w' m' x} F hv hu => by
    refine ⟨R', m', F0.trans F, fun t ht => ?_, fun e he t het hpe => ?_⟩
    · rw [getD_eq (put_get_ne a o.dst x t (by rw [← hdst]; exact ht d hd))]
      exact (h1 t ht).far F F0.sim
    · by_cases q : e = d
      · subst q
        rw [hdst] at het
        have e1 : (a.put o.dst x).tmps.getD t undef = x := by
          rw [het, Array.getD_eq_getD_getElem?, put_get_eq a x t (slot t het)]; rfl
        rw [e1]; exact ⟨hv, hu⟩
      · have hne : o.dst ≠ some t := fun q' => q (r.dist he hd het (by rw [hdst]; exact q'))
        have hei : e.i ≠ i := fun q' => q (POk.uniq r.ok e he d hd (by rw [q', hdi]))
        rw [getD_eq (put_get_ne a o.dst x t hne)]
        rw [hp2 e.i hei] at hpe
        obtain ⟨g1, g2⟩ := h2 e he t het hpe
        exact ⟨fun h => (g1 h).far F F0.sim, g2⟩
  -- is it wanted?
  have hwant : Region.wanted o (yielded ops a.tmps) = d.g := by
    unfold pGuard at hg
    unfold Region.wanted
    split at hg
    · rename_i hgd
      simp only [Option.some.injEq, Prod.mk.injEq] at hg
      rw [hgd, ← hg.1]
    · rename_i j want hgd
      cases hj : elemN j (nthL i pss) with
      | false => rw [hj] at hg; simp at hg
      | true =>
        rw [hj] at hg
        simp only [cond_true] at hg
        split at hg
        · rename_i e he
          split at hg
          · rename_i b hb
            simp only [Option.some.injEq, Prod.mk.injEq] at hg
            obtain ⟨he1, he2⟩ := pFind_mem he
            obtain ⟨q, q1, _, q3, _⟩ := r.fac.op i hi
            rw [ho] at q1; cases q1
            have hsome := q3 j want hgd
            obtain ⟨_, oj, hoj, hej⟩ := r.oper (hsub e he1)
            rw [he2] at hoj
            unfold dstOf at hsome
            rw [hoj] at hsome
            simp only [Option.bind_some] at hsome
            obtain ⟨tj, htj⟩ := Option.isSome_iff_exists.1 hsome
            obtain ⟨g1, g2⟩ := h2 e (hsub e he1) tj (by rw [hej]; exact htj) (by rw [he2]; exact hps j (elemN_iff.1 hj))
            rw [hgd, ← hg.1]
            simp only
            cases heg : e.g with
            | true =>
              have h3 := g1 heg
              rw [hb] at h3
              generalize hv : a.tmps.getD tj undef = v at h3
              cases h3
              have hlt : tj < a.tmps.size := by
                rcases Nat.lt_or_ge tj a.tmps.size with h' | h'
                · exact h'
                · simp [Array.getD, Nat.not_lt.2 h', undef] at hv
              have hy : yielded ops a.tmps j = some b := by
                unfold yielded
                rw [hoj]
                simp only [Option.bind_some, htj]
                simp only [Array.getD, hlt, dif_pos] at hv
                simp [hlt]
                simp at hv
                rw [hv]
              rw [hy]; cases b <;> cases want <;> rfl
            | false =>
              have hy := yielded_none (ops := ops) (a := a) (j := j) (t := tj) (by rw [hoj]; exact htj) (g2 heg)
              rw [hy]; cases want <;> rfl
          · cases hg
        · cases hg
  cases hdg : d.g with
  | false =>
    right
    exact ⟨by rw [hwant, hdg], next (.refl F0.sim) (fun h => by rw [hdg] at h; cases h) (fun _ => rfl)⟩
  | true =>
    left
    refine ⟨by rw [hwant, hdg], ?_⟩
    have hch : Holds Df d.ch := (r.ok.g_iff _ d hd rfl).1 hdg
    rcases hev with ⟨c, x, y, e, t, u, v, hop, hec, hei, hesub, het, hx, hy, hpv⟩ | ⟨q, hop, hq⟩
    · obtain ⟨he1, he2⟩ := pDst_mem hec
      have heg : e.g = true := (r.ok.g_iff _ e (hsub e he1) rfl).2 (hch.sub hesub)
      have h3 := (h2 e (hsub e he1) c he2 (hps _ hei)).1 heg
      rw [het] at h3
      generalize hcv : a.tmps.getD c undef = cv at h3
      cases h3
      have hch' : Holds Df ((e.i, t) :: d.ch) := fun j b hm => by
        rcases List.mem_cons.1 hm with q | hm
        · cases q; exact ⟨e, hsub e he1, rfl, heg, het⟩
        · exact hch j b hm
      unfold gives
      have hrun : (execOp a.eval o).run X.P w = .ok (.value (if t then a.eval x else a.eval y)) w := by
        have : a.eval (.tmp c) = .bool t := hcv
        simp [execOp, hop, this, asBool]
      rw [hrun]
      refine next (.refl F0.sim) (fun _ => ?_) (fun h => by rw [hdg] at h; cases h)
      have pick : VR R w m H d.v (if t then a.eval x else a.eval y) := by
        cases t with
        | true =>
          have k1 := oper_sound (PAt.mask r h1 h2 hsub hps hch') hx
          simp only [if_true]
          unfold pickV at hpv
          split at hpv
          · rw [← Option.some.inj hpv]; exact k1
          · rename_i k n k' n'
            cases hk : kindEq k k' with
            | false => rw [hk] at hpv; cases hpv
            | true => rw [hk] at hpv; rw [← Option.some.inj hpv]; exact k1
          · rw [← Option.some.inj hpv]; exact k1
          · rw [← Option.some.inj hpv]; exact k1
          · cases hpv
        | false =>
          have k1 := oper_sound (PAt.mask r h1 h2 hsub hps hch') hy
          simp only [Bool.false_eq_true, if_false]
          unfold pickV at hpv
          split at hpv
          · rw [← Option.some.inj hpv]; exact k1
          · rename_i k n k' n'
            cases hk : kindEq k k' with
            | false => rw [hk] at hpv; cases hpv
            | true =>
              rw [hk] at hpv
              rw [← Option.some.inj hpv]
              have hkk : k = k' := by cases k <;> cases k' <;> first | rfl | cases hk
              rw [hkk]; exact k1
          · rw [← Option.some.inj hpv]; exact k1
          · rw [← Option.some.inj hpv]; exact k1
          · cases hpv
      exact pick
    · have hg := opDoes_of hop (hq hdg) R w m a F0.sim (PAt.mask r h1 h2 hsub hps hch)
      have mono : ∀ {S S' : Value → World → Prop} {z : Result Next}, (∀ x w', S x w' → S' x w') → givesUpon X.P S z → givesUpon X.P S' z := fun hss h => by
        rename_i S S' z
        cases z with
        | ok n w' =>
          cases n <;> simp only [givesUpon] at h ⊢
          case value u => exact hss _ _ h
          case skip => exact hss _ _ h
          case enter f args => exact Calls.mono h fun e w'' ⟨v, he, hr⟩ => ⟨v, he, hss _ _ hr⟩
        | halt x w' => simp only [givesUpon] at h
      unfold gives at hg ⊢
      refine mono (fun x w' ⟨R', m', F, hV⟩ => ?_) hg
      rw [noEff_app] at F hV
      exact next F (fun _ => hV) (fun h => by rw [hdg] at h; cases h)

theorem pEnd_get (r : PRan X ops pss env0 env H Df nb) {t : Nat} {d : PD} (hd : d ∈ Df) (hdt : d.dst = some t) : eget t (pEnd env Df) = pLast d := by
  have : ∀ D : List PD, (∀ e ∈ D, e ∈ Df) → d ∈ D → eget t (pEnd env D) = pLast d := by
    intro D
    induction D with
    | nil => intro _ h; simp at h
    | cons e D ih =>
      intro hs h
      simp only [pEnd]
      by_cases q : e = d
      · subst q; rw [hdt]; exact eget_put_eq
      · rw [eget_put_ne fun q' => q (r.dist (hs e (List.mem_cons_self ..)) hd q' hdt)]
        refine ih (fun f hf => hs f (List.mem_cons_of_mem _ hf)) ?_
        rcases List.mem_cons.1 h with h | h
        · exact absurd h.symm q
        · exact h
  exact this Df (fun _ h => h) hd
theorem pEnd_no {t : Nat} : ∀ {D : List PD}, (∀ d ∈ D, d.dst ≠ some t) → eget t (pEnd env D) = eget t env
  | [], _ => rfl
  | d :: D, h => by
    simp only [pEnd]
    rw [eget_put_ne (h d (List.mem_cons_self ..))]
    exact pEnd_no fun e he => h e (List.mem_cons_of_mem _ he)
theorem PAt.fin (r : PRan X ops pss env0 env H Df nb) {R : Nat → Prop} {w : World} {m : Mp} {p : Nat → Bool} {a : Act} (hall : ∀ d ∈ Df, p d.i = true) (h1 : ∀ t, (∀ d ∈ Df, d.dst ≠ some t) → VR R w m H (eget t env) (a.tmps.getD t undef))
    (h2 : ∀ d ∈ Df, ∀ t, d.dst = some t → p d.i = true → (d.g = true → VR R w m H d.v (a.tmps.getD t undef)) ∧ (d.g = false → a.tmps.getD t undef = undef)) : EnvR R w m H (pEnd env Df) a := by
  intro t
  by_cases h : ∃ d ∈ Df, d.dst = some t
  · obtain ⟨d, hd, hdt⟩ := h
    rw [pEnd_get r hd hdt]
    unfold pLast
    split
    · rename_i hc
      exact (h2 d hd t hdt (hall d hd)).1 ((r.ok.g_iff _ d hd rfl).2 (by rw [hc]; exact fun j b hm => by simp at hm))
    · exact .undef _
  · have hno : ∀ d ∈ Df, d.dst ≠ some t := fun d hd hdt => h ⟨d, hd, hdt⟩
    rw [pEnd_no hno]; exact h1 t hno

theorem pure_sound (hT : TSound X.P X.T) (hm : X.P.follows .mixedOrders = true) (id : Nat) {b : Bool} {s : St} {K : St → Prop} (h : pureR X ops b nb pss s K) : ∃ s', K s' ∧ CodeOk X (.region id ops b) s .normal s' := by
  unfold pureR at h
  simp only [chkP] at h
  cases hok : pureOk b ops X.nt nb pss with
  | false => rw [hok] at h; exact h.elim
  | true =>
  rw [hok] at h
  simp only [cond_true] at h
  rw [forceL_iff] at h
  unfold pureOk at hok
  simp only [Bool.and_eq_true] at hok
  obtain ⟨⟨⟨htr, hfa⟩, hlen⟩, hdraw⟩ := hok
  have hlen := Nat.eq_of_beq_eq_true hlen
  have hf := factsC_of hfa
  have hnb : (ops.toList.take nb).length = nb := by have := hf.le; simp; omega
  have htake : ∀ j, j < nb → (ops.toList.take nb)[j]? = ops[j]? := fun j hj => by rw [List.getElem?_take, if_pos hj]; simp
  obtain ⟨Df, hD, hDl, hK⟩ := pureP_sound (X := X) (ops := ops) (pss := pss) (env0 := undefs (ops.toList.take nb) s.env) (H := s.heap) (ops.toList.take nb) pss [] _ trivial (fun j o hj => by
    rw [List.length_nil, Nat.zero_add, ← htake j (by have := (List.getElem?_eq_some_iff.1 hj).1; omega)]; exact hj) (fun j => by rw [List.length_nil, Nat.zero_add]) h
  rw [List.length_nil, Nat.zero_add, hnb] at hDl
  rw [pEndK_iff] at hK
  obtain ⟨s', hk, hs⟩ := opsP_sound hT hK
  have opr : ∀ d ∈ Df, d.i < nb ∧ ∃ o, ops[d.i]? = some o ∧ d.dst = o.dst := fun d hd => by
    obtain ⟨pre, D, _, hi, o, ho, hdst, _⟩ := hD.at hd
    exact ⟨by rw [← hDl]; exact POk.lt hD d hd, o, by rw [hi]; exact ho, hdst⟩
  have r : PRan X ops pss (undefs (ops.toList.take nb) s.env) s.env s.heap Df nb := by
    refine ⟨hD, hDl, hf, fun d hd t hdt => ?_, fun t hno => ?_⟩
    · obtain ⟨h1, o, h2, h3⟩ := opr d hd
      rcases undefs_get (env := s.env) (t := t) (ops.toList.take nb) with ⟨g1, _⟩ | ⟨_, g2⟩
      · exact g1
      · exact absurd (by rw [← h3]; exact hdt) (g2 o (List.mem_of_getElem? (by rw [htake d.i h1]; exact h2)))
    · rcases undefs_get (env := s.env) (t := t) (ops.toList.take nb) with ⟨_, o, ho, hot⟩ | ⟨g1, _⟩
      · exfalso
        obtain ⟨j, hj⟩ := List.getElem?_of_mem ho
        have hjl : j < nb := by have := (List.getElem?_eq_some_iff.1 hj).1; omega
        obtain ⟨d, hd, hdi⟩ := POk.find hD (show j < Df.length by omega)
        obtain ⟨_, o', h2, h3⟩ := opr d hd
        rw [hdi, ← htake j hjl, hj] at h2; cases h2
        exact hno d hd (by rw [h3]; exact hot)
      · exact g1
  have hpsj : ∀ i, i < nb → ∀ j ∈ nthL i pss, j < i := fun i hi j hj => by
    have := (predsTrans_get htr i (by omega) j hj).1
    omega
  refine ⟨s', hk, fun R0 w0 m0 H0 _ _ a w hI => ?_⟩
  obtain ⟨⟨R, m, F0, hE⟩, hsz, hnd⟩ := hI
  cases b with
  | false =>
    refine wp_region_list ?_
    have hA0 : PAt R w m s.heap s.env Df (fun k => decide (k < 0)) a w := ⟨R, m, .refl F0.sim, fun t _ => hE t, fun d _ t _ hp => by simp at hp⟩
    have key : ∀ (n k : Nat), k + n = nb → ∀ (a1 : Act) (w1 : World), a1.tmps.size = X.nt → a1.defers = [] → PAt R w m s.heap s.env Df (fun j => decide (j < k)) a1 w1 →
        wpList X.P ops (fun e1 a1 w1 => ExR .normal e1 ∧ Inv X.nt R0 w0 m0 H0 a1 w1 s') (ops.toList.drop k) a1 w1 := by
      intro n
      induction n with
      | zero =>
        intro k hkn a1 w1 hs1 hn1 hA
        obtain rfl : k = nb := by omega
        obtain ⟨R', m', F3, h1, h2⟩ := hA
        have hE3 := PAt.fin (p := fun j => decide (j < k)) r (fun d hd => by simpa using (opr d hd).1) h1 h2
        exact hs R0 w0 m0 H0 a1 w1 ⟨⟨R', m', F0.trans F3, hE3⟩, hs1, hn1⟩ _ fun a2 w2 hI2 => ⟨rfl, hI2⟩
      | succ n ih =>
        intro k hkn a1 w1 hs1 hn1 hA
        have hkl : k < ops.size := by have := hf.le; omega
        have ho : ops[k]? = some ops[k] := Array.getElem?_eq_getElem hkl
        have hst := PAt.step r (p' := fun j => decide (j < k + 1)) (by omega) ho (by simp) (fun j hj => by simpa using hpsj k (by omega) j hj) (by simp) (fun q hq => by
          simp only [decide_eq_decide]; omega) hs1 hA
        rw [List.drop_eq_getElem_cons (by simpa using hkl)]
        simp only [wpList, Array.getElem_toList]
        rcases hst with ⟨hW, hg⟩ | ⟨hW, hA'⟩
        · rw [if_pos hW]
          exact .inl (gives_wp hg fun x w' hA' => ih (k + 1) (by omega) _ _ (by rw [Act.put_size']; exact hs1) (by rw [Act.put_defers']; exact hn1) hA')
        · rw [if_neg (by rw [hW]; decide)]
          exact ih (k + 1) (by omega) _ _ (by rw [Act.put_size']; exact hs1) (by rw [Act.put_defers']; exact hn1) hA'
    have := key nb 0 (by omega) a w hsz hnd hA0
    simpa using this
  | true =>
    simp only [cond_true, Bool.and_eq_true] at hdraw
    obtain ⟨hseq, hpo⟩ := hdraw
    refine wp_region_any hm ?_
    have hdr := F0.sim.drew
    have F1 := F0.trans hdr.far
    have hE1 := hE.far hdr.far F0.sim
    have hrep : ∀ i, (Array.replicate ops.size false).getD i false = false := fun i => by
      rw [Array.getD_eq_getD_getElem?, Array.getElem?_replicate]; split <;> rfl
    have hA0 : PAt R w.drew m s.heap s.env Df (fun k => (Array.replicate ops.size false).getD k false) a w.drew := ⟨R, m, .refl hdr.sim, fun t _ => hE1 t, fun d _ t _ hp => by
      have hp' : (Array.replicate ops.size false).getD d.i false = true := hp
      rw [hrep] at hp'; cases hp'⟩
    have key := any_gen (X := X) (ops := ops) (pr := pss) (nb := nb) (nt := X.nt) (Q := fun e1 a1 w1 => ExR .normal e1 ∧ Inv X.nt R0 w0 m0 H0 a1 w1 s') (A := PAt R w.drew m s.heap s.env Df) hf hseq (fun i hi => by
        obtain ⟨o, h1, h2⟩ := predsOk_get hpo i (by omega)
        rw [Nat.zero_add] at h1 h2
        exact ⟨o, h1, h2⟩) (fun p p' i o a w hi ho hc hno hps h1 h2 hs' hA => PAt.step r hi ho hno hps h1 h2 hs' hA) (fun a' w' hA hs' hn' => by
        obtain ⟨R', m', F3, h1, h2⟩ := hA
        have hE3 := PAt.fin (p := fun k => decide (k < nb)) r (fun d hd => by simpa using (opr d hd).1) h1 h2
        exact hs R0 w0 m0 H0 a' w' ⟨⟨R', m', F1.trans F3, hE3⟩, hs', hn'⟩ _ fun a2 w2 hI2 => ⟨rfl, hI2⟩) nb (Array.replicate ops.size false) a w.drew hA0 hsz hnd (by simp) (fun i _ => hrep i) (fun k o _ hkl => by rw [hrep] at hkl; cases hkl) (by
        have : ∀ (r : List Nat), (r.filter fun i => !(Array.replicate ops.size false).getD i false) = r := fun r => by
          apply List.filter_eq_self.2
          intro i _
          rw [hrep i]; rfl
        rw [this]; simp)
    have e : nb + (ops.size - nb) = ops.size := by have := hf.le; omega
    rw [e] at key
    exact key
end

theorem region0_sound {X : Cx} (hT : TSound X.P X.T) (hm : X.P.follows .mixedOrders = true) {id : Nat} {ops : Array Oper} {b : Bool} {s : St} {K : St → Prop} (h : region0 X id ops b s K) : ∃ s', K s' ∧ CodeOk X (.region id ops b) s .normal s' := by
  unfold region0 at h
  split at h
  · unfold region1 at h
    split at h
    · exact old_sound hT hm h
    · exact pure_sound hT hm id h
  · cases b with
    | false => exact h.elim
    | true =>
      simp only [cond_true] at h
      obtain ⟨ops', ho, himp⟩ := late_any h
      obtain ⟨s', hk, hs⟩ := old_any hT ho
      exact ⟨s', hk, (himp _ _ hs).code hm⟩

/-! ### what a cell leads to is only read from now on -/
section
variable {R R' R0 : Nat → Prop} {w w0 : World} {m m0 : Mp} {H H0 H' : Hp} {env : Env} {a : Act}
/-- a block's cells are told otherwise, and some blocks are only read from now on -/
theorem blk_far (hS : Sim R w m H) {b : Nat} {B : ABlk} (hbd : hget b H ≠ .dead) (hb' : hget b H' = B) (hlen : H'.length = H.length) (hl : B.len = (hget b H).len)
    (oth : ∀ j, j ≠ b → hget j H' ≠ .dead → hget j H' = hget j H) (sub : ∀ g, R g → R' g) (new : ∀ g, R' g → R g ∨ ∃ k, hget k H ≠ .dead ∧ hget k H' = .dead ∧ m k = some g)
    (hB : ∀ xs, BR R w m H (hget b H) xs → BR R' w m H' B xs) : Far R w m H R' w m H' := by
  have live : ∀ j, hget j H' ≠ .dead → hget j H ≠ .dead := fun j h => by
    by_cases e : j = b
    · subst e; exact hbd
    · rw [← oth j e h]; exact h
  have hlenB : ∀ j, hget j H' ≠ .dead → (hget j H').len = (hget j H).len := fun j h => by
    by_cases e : j = b
    · subst e; rw [hb']; exact hl
    · rw [oth j e h]
  have hext : ∀ j, j < H.length → hget j H' = .dead ∨ (hget j H ≠ .dead ∧ (hget j H').len = (hget j H).len) := fun j _ => by
    by_cases h : hget j H' = .dead
    · exact .inl h
    · exact .inr ⟨live j h, hlenB j h⟩
  refine ⟨sub, fun g hg => ?_, ⟨fun g hg => ?_, fun j hj => hS.out j (by omega), fun j g hj hg => ?_, fun j hj hn => ?_, fun j j' g h h' => hS.inj j j' g (live j h) (live j' h')⟩, rfl, rfl, rfl, Nat.le_refl _, fun g _ => rfl, fun g _ _ => rfl, fun _ _ h => h, by omega, hext, fun j g hj hg => .inr ⟨j, live j hj, hg⟩, fun _ _ => rfl⟩
  · rcases new g hg with h | ⟨k, h1, h2, h3⟩
    · exact .inl h
    · exact .inr (.inr ⟨k, h1, h3⟩)
  · rcases new g hg with h | ⟨k, h1, h2, h3⟩
    · exact hS.rlt g h
    · obtain ⟨_, xs, e, fr, h4, _⟩ := hS.own k g h1 h3
      exact (Array.getElem?_eq_some_iff.1 h4).1
  · obtain ⟨a1, xs, e, fr, a2, a3, a4, a5⟩ := hS.own j g (live j hj) hg
    refine ⟨fun h => ?_, xs, e, fr, a2, a3, a4, ?_⟩
    · rcases new g h with h | ⟨q, q1, q2, q3⟩
      · exact a1 h
      · have := hS.inj j q g (live j hj) q1 hg q3
        subst this
        exact hj q2
    · by_cases e : j = b
      · subst e
        rw [hb']
        exact hB _ a5
      · rw [oth j e hj]
        exact a5.mono sub (fun _ _ => rfl) (fun _ _ h => h) (fun _ _ h => h) (by omega) hext
  · rw [hlenB j hj]; exact hS.ph j (live j hj) hn
theorem reblk_far (hS : Sim R w m H) {b : Nat} {cs cs' : List AVal} (hb : hget b H = .vals cs) (hb' : hget b H' = .vals cs') (hlen : H'.length = H.length) (hl : cs'.length = cs.length)
    (oth : ∀ j, j ≠ b → hget j H' ≠ .dead → hget j H' = hget j H) (sub : ∀ g, R g → R' g) (new : ∀ g, R' g → R g ∨ ∃ k, hget k H ≠ .dead ∧ hget k H' = .dead ∧ m k = some g)
    (cells : ∀ (i : Nat) v v' x, cs[i]? = some v → cs'[i]? = some v' → VR R w m H v x → VR R' w m H' v' x) : Far R w m H R' w m H' := by
  refine blk_far hS (by rw [hb]; simp) hb' hlen (by rw [hb]; exact hl) oth sub new fun xs h => ?_
  rw [hb] at h
  obtain ⟨ys, r, rfl, hv⟩ := h
  refine ⟨ys, r, rfl, by rw [hl]; exact hv.1, fun i v' x hv' hx => ?_⟩
  have hi : i < cs.length := by rw [← hl]; exact (List.getElem?_eq_some_iff.1 hv').1
  exact cells i cs[i] v' x (List.getElem?_eq_getElem hi) hv' (hv.2 i _ x (List.getElem?_eq_getElem hi) hx)
theorem put_cells {j : Nat} {cs l r : List AVal} {v : AVal} (v' : AVal) (h1 : takeN j cs = some l) (h2 : dropN j cs = some (v :: r)) : (l ++ v' :: r).length = cs.length ∧ ∀ (i : Nat) u u', cs[i]? = some u → (l ++ v' :: r)[i]? = some u' → (i ≠ j ∧ u = u') ∨ (u = v ∧ u' = v') := by
  obtain ⟨rfl, hl⟩ := takeN_eq h1
  obtain ⟨e, _⟩ := dropN_eq h2
  have hc : cs = cs.take j ++ v :: r := by rw [e, List.take_append_drop]
  have hlen : (cs.take j).length = j := by rw [List.length_take]; omega
  refine ⟨by conv => rhs; rw [hc]
             simp, fun i u u' hu hu' => ?_⟩
  rw [hc] at hu
  by_cases h : i < j
  · refine .inl ⟨by omega, ?_⟩
    rw [List.getElem?_append_left (by omega)] at hu hu'
    rw [hu] at hu'; exact Option.some.inj hu'
  · rw [List.getElem?_append_right (by omega), hlen] at hu hu'
    by_cases h' : i = j
    · subst h'
      simp at hu hu'
      exact .inr ⟨hu.symm, hu'.symm⟩
    · refine .inl ⟨h', ?_⟩
      obtain ⟨q, hq⟩ : ∃ q, i - j = q + 1 := ⟨i - j - 1, by omega⟩
      rw [hq] at hu hu'
      simp at hu hu'
      rw [hu] at hu'; exact Option.some.inj hu'
theorem Inv.step {nt : Nat} (h : Inv nt R0 w0 m0 H0 a w ⟨env, H⟩) (hs : ∀ R m, Sim R w m H → ∃ R', Far R w m H R' w m H') : Inv nt R0 w0 m0 H0 a w ⟨env, H'⟩ := by
  obtain ⟨⟨R, m, hF, hE⟩, hsz, hnd⟩ := h
  obtain ⟨R', F⟩ := hs R m hF.sim
  exact ⟨⟨R', m, hF.trans F, hE.far F hF.sim⟩, hsz, hnd⟩
theorem hook1_ok {kd t j sz : Nat} {s : St} {K : St → Prop} (h : hook1 kd t j sz s K) : ∃ s', K s' ∧ ∀ {nt : Nat} {R0 : Nat → Prop} {w0 : World} {m0 : Mp} {H0 : Hp} {a : Act} {w : World}, Inv nt R0 w0 m0 H0 a w s → Inv nt R0 w0 m0 H0 a w s' := by
  obtain ⟨env, H⟩ := s
  unfold hook1 at h
  split at h
  case h_2 => exact h.elim
  rename_i b off _
  split at h
  case h_3 => exact h.elim
  case h_2 =>
    rename_i cs hb
    have hbl : b < H.length := hget_lt (by rw [hb]; simp)
    split at h
    · rw [forceL_iff] at h
      refine ⟨_, h, fun hI => hI.step fun R m hS => ⟨R, ?_⟩⟩
      refine blk_far hS (by rw [hb]; simp) (hget_hset_same hbl) (hset_length ..) (by rw [hb]; rfl) (fun j hj _ => hget_hset_ne hj) (fun _ h => h) (fun _ h => .inl h) fun xs h => ?_
      rw [hb] at h
      obtain ⟨ys, r, rfl, hv⟩ := h
      exact ⟨ys, r, rfl, hv.1, fun i v x e1 e2 => (hv.2 i v x e1 e2).mono (fun _ h => h) (fun _ _ => rfl) (fun _ _ h => h) (fun _ _ h => by cases h) (Nat.zero_le _) (fun k hk => absurd hk (Nat.not_lt_zero k))⟩
    · exact h.elim
  rename_i cs hb
  have hbl : b < H.length := hget_lt (by rw [hb]; simp)
  split at h
  case h_2 => exact h.elim
  rename_i l v r h1 h2
  have same : ∀ {R : Nat → Prop} {w : World} {m : Mp} {H1 H2 : Hp} {v : AVal} {x : Value}, VR R w m H1 v x → H1.length ≤ H2.length → (∀ j, j < H1.length → hget j H2 = .dead ∨ (hget j H1 ≠ .dead ∧ (hget j H2).len = (hget j H1).len)) → VR R w m H2 v x := fun h h1 h2 => h.mono (fun _ h => h) (fun _ _ => rfl) (fun _ _ h => h) (fun _ _ h => h) h1 h2
  split at h
  · -- nothing
    split at h
    · rw [forceL_iff] at h
      refine ⟨_, h, fun hI => hI.step fun R m hS => ⟨R, ?_⟩⟩
      have G := (Sim.ghost hS (.flat []) rfl).far
      refine G.trans ?_
      have hb2 : hget b (H ++ [.flat []]) = .vals cs := by rw [hget_append_lt hbl]; exact hb
      obtain ⟨e1, e2⟩ := put_cells (.sl H.length 0 0 sz) h1 h2
      have hext : ∀ j, j < (H ++ [ABlk.flat []]).length → hget j (hset b (.vals (l ++ .sl H.length 0 0 sz :: r)) (H ++ [.flat []])) = .dead ∨ (hget j (H ++ [.flat []]) ≠ .dead ∧ (hget j (hset b (.vals (l ++ .sl H.length 0 0 sz :: r)) (H ++ [.flat []]))).len = (hget j (H ++ [.flat []])).len) := fun j hj => by
        by_cases e : j = b
        · subst e; rw [hget_hset_same hj, hb2]; exact .inr ⟨by simp, e1⟩
        · rw [hget_hset_ne e]; exact hext_self _ j hj
      refine reblk_far G.sim hb2 (cs' := l ++ .sl H.length 0 0 sz :: r) (hget_hset_same (by simp; omega)) (hset_length ..) e1 (fun j hj _ => hget_hset_ne hj) (fun _ h => h) (fun _ h => .inl h) (fun i v v' x hv hv' hx => ?_)
      rcases e2 i v v' hv hv' with ⟨_, rfl⟩ | ⟨rfl, rfl⟩
      · exact same hx (by rw [hset_length]; exact Nat.le_refl _) hext
      · cases hx
        refine .sl H.length 0 0 sz none 0 (Nat.le_refl _) (by unfold maxI; omega) (by omega) (by rw [hset_length]; simp) (fun h => by omega) (.inr (by omega))
    · rw [forceL_iff] at h
      refine ⟨_, h, fun hI => hI.step fun R m hS => ⟨R, ?_⟩⟩
      obtain ⟨e1, e2⟩ := put_cells (.ro 0 sz (fun _ => [])) h1 h2
      have hext : ∀ j, j < H.length → hget j (hset b (.vals (l ++ .ro 0 sz (fun _ => []) :: r)) H) = .dead ∨ (hget j H ≠ .dead ∧ (hget j (hset b (.vals (l ++ .ro 0 sz (fun _ => []) :: r)) H)).len = (hget j H).len) := fun j hj => by
        by_cases e : j = b
        · subst e; rw [hget_hset_same hj, hb]; exact .inr ⟨by simp, e1⟩
        · rw [hget_hset_ne e]; exact hext_self _ j hj
      refine reblk_far hS hb (cs' := l ++ .ro 0 sz (fun _ => []) :: r) (hget_hset_same hbl) (hset_length ..) e1 (fun j hj _ => hget_hset_ne hj) (fun _ h => h) (fun _ h => .inl h) (fun i v v' x hv hv' hx => ?_)
      rcases e2 i v v' hv hv' with ⟨_, rfl⟩ | ⟨rfl, rfl⟩
      · exact same hx (by rw [hset_length]; exact Nat.le_refl _) hext
      · cases hx
        exact .ro 0 sz _ none 0 0 0 (fun _ _ => undef) (Nat.le_refl _) (by unfold maxI; omega) (by omega) (fun h => absurd h (by omega)) (fun i j v hi _ => absurd hi (by omega)) (fun i j v hi _ => absurd hi (by omega)) fun i hi => absurd hi (by omega)
  · rename_i k o len sz'
    cases hkb : Nat.beq k b with
    | true => rw [hkb] at h; exact h.elim
    | false =>
      rw [hkb] at h
      simp only [cond_false] at h
      have hne : b ≠ k := fun e => by subst e; rw [Nat.beq_refl] at hkb; cases hkb
      split at h
      case h_2 => exact h.elim
      rename_i v' hv'
      rw [forceL_iff] at h
      refine ⟨_, h, fun hI => hI.step fun R m hS => ⟨RC R m H [k], ?_⟩⟩
      have hkd : hget k H ≠ .dead := fun e => by
        simp only [snapC, elemN, cond_false, e] at hv'
        cases hv'
      have hkl := hget_lt hkd
      obtain ⟨e1, e2⟩ := put_cells v' h1 h2
      have hbl2 : b < (hset k .dead H).length := by rw [hset_length]; exact hbl
      have hkk : hget k (hset b (.vals (l ++ v' :: r)) (hset k .dead H)) = .dead := by rw [hget_hset_ne (Ne.symm hne), hget_hset_same hkl]
      have hoth : ∀ j, j ≠ b → j ≠ k → hget j (hset b (.vals (l ++ v' :: r)) (hset k .dead H)) = hget j H := fun j hj hj' => by rw [hget_hset_ne hj, hget_hset_ne hj']
      have hext : ∀ j, j < H.length → hget j (hset b (.vals (l ++ v' :: r)) (hset k .dead H)) = .dead ∨ (hget j H ≠ .dead ∧ (hget j (hset b (.vals (l ++ v' :: r)) (hset k .dead H))).len = (hget j H).len) := fun j hj => by
        by_cases e : j = b
        · subst e; rw [hget_hset_same hbl2, hb]; exact .inr ⟨by simp, e1⟩
        · by_cases e' : j = k
          · subst e'; exact .inl hkk
          · rw [hoth j e e']; exact hext_self _ j hj
      have hll : (hset b (.vals (l ++ v' :: r)) (hset k .dead H)).length = H.length := by rw [hset_length, hset_length]
      refine reblk_far hS hb (cs' := l ++ v' :: r) (hget_hset_same hbl2) hll e1 (fun j hj hd => ?_) (fun _ h => .inl h) (fun g hg => ?_) (fun i v u' x hv hu' hx => ?_)
      · by_cases e' : j = k
        · subst e'; exact absurd hkk hd
        · exact hoth j hj e'
      · rcases hg with h | ⟨q, q1, q2, q3⟩
        · exact .inl h
        · have : q = k := by simpa using q1
          subst this
          exact .inr ⟨q, q2, hkk, q3⟩
      · rcases e2 i v u' hv hu' with ⟨_, rfl⟩ | ⟨rfl, rfl⟩
        · exact hx.mono (fun _ h => .inl h) (fun _ _ => rfl) (fun _ _ h => h) (fun _ _ h => h) (by omega) hext
        · exact same (snapC_sound hS (imps := []) (ks := [k]) hx hv' (fun q hq => by simpa [snapsC, elemN] using hq)) (by omega) hext
  · exact h.elim
theorem hookP_ok : ∀ {l : List Nat} {s : St} {K : St → Prop}, hookP l s K → ∃ s', K s' ∧ ∀ {nt : Nat} {R0 : Nat → Prop} {w0 : World} {m0 : Mp} {H0 : Hp} {a : Act} {w : World}, Inv nt R0 w0 m0 H0 a w s → Inv nt R0 w0 m0 H0 a w s'
  | [], s, K, h => ⟨s, h, fun h => h⟩
  | [_], s, K, h => ⟨s, h, fun h => h⟩
  | [_, _], s, K, h => ⟨s, h, fun h => h⟩
  | [_, _, _], s, K, h => ⟨s, h, fun h => h⟩
  | kd :: t :: j :: sz :: r, s, K, h => by
    obtain ⟨s1, h1, i1⟩ := hook1_ok (show hook1 kd t j sz s _ from h)
    obtain ⟨s2, h2, i2⟩ := hookP_ok h1
    exact ⟨s2, h2, fun h => i2 (i1 h)⟩
end
theorem addW_does {P : Program} {o : Oper} {env : Env} {H : Hp} {t u : TypeId} {x y : Operand} {a b : Int} (ho : o.op = .binOp .add t x y u) (hx : oper env x = some (.int .i64 a)) (hy : oper env y = some (.int .i64 b)) : OpDoes P o env H (.int .i64 (IntKind.i64.wrap (a + b))) noEff := fun R w m ac hS hE => by
  have h1 := oper_sound hE hx
  have h2 := oper_sound hE hy
  generalize hu : ac.eval x = u1 at h1
  generalize hv : ac.eval y = v1 at h2
  cases h1
  cases h2
  have hr : (execOp ac.eval o).run P w = .ok (.value (.int .i64 (IntKind.i64.wrap (a + b)))) w := by
    simp [execOp, ho, hu, hv, eqGuard, binOp, Op.intArith]
  unfold gives
  rw [hr, noEff_app]
  exact ⟨R, m, .refl hS, .int _ _⟩
theorem operW_sound {X : Cx} (hT : TSound X.P X.T) {ops : Array Oper} {o : Oper} {s : St} {K : St → Prop} (h : operW X ops.toList o s K) :
    ∃ s', K s' ∧ ∀ R0 w0 m0 H0, ∀ a w, Inv X.nt R0 w0 m0 H0 a w s → ∀ (next : Act → World → Prop) Q, (∀ a' w', Inv X.nt R0 w0 m0 H0 a' w' s' → next a' w') → OpStep X.P ops o next Q a w := by
  unfold operW at h
  split at h
  · rename_i t x y u ho
    split at h
    · rename_i a b hx hy
      cases hd : (dstOk X.nt o.dst && o.guard.isNone) with
      | false => rw [hd] at h; exact h.elim
      | true =>
        rw [hd] at h
        simp only [cond_true] at h
        rw [putK_iff] at h
        simp only [Bool.and_eq_true, Option.isNone_iff_eq_none] at hd
        refine ⟨_, h, fun R0 w0 m0 H0 ac w hI next Q hn => ?_⟩
        obtain ⟨env, H⟩ := s
        obtain ⟨⟨R, m, hF, hE⟩, hsz, hnd⟩ := hI
        unfold OpStep
        rw [if_pos (by simp [Region.wanted, hd.2])]
        refine .inl (gives_wp (addW_does ho hx hy R w m ac hF.sim hE) fun x w' ⟨R', m', hF', hV⟩ => hn _ _ ?_)
        rw [noEff_app] at hF' hV
        exact ⟨⟨R', m', hF.trans hF', (hE.far hF' hF.sim).put (by rw [hsz]; exact hd.1) hV⟩, by rw [Act.put_size']; exact hsz, by rw [Act.put_defers']; exact hnd⟩
    · exact h.elim
  · exact operP_sound hT h
theorem opsW_sound {X : Cx} (hT : TSound X.P X.T) {ops : Array Oper} : ∀ {l : List Oper} {s : St} {K : St → Prop}, opsW X ops.toList l s K →
    ∃ s', K s' ∧ ∀ R0 w0 m0 H0, ∀ a w, Inv X.nt R0 w0 m0 H0 a w s → ∀ Q : Exit → Act → World → Prop, (∀ a' w', Inv X.nt R0 w0 m0 H0 a' w' s' → Q .normal a' w') → wpList X.P ops Q l a w
  | [], s, K, h => ⟨s, h, fun R0 w0 m0 H0 a w hI Q hQ => hQ a w hI⟩
  | o :: r, s, K, h => by
    obtain ⟨s1, h1, hs1⟩ := operW_sound hT h
    obtain ⟨s2, h2, hs2⟩ := opsW_sound hT (l := r) h1
    refine ⟨s2, h2, fun R0 w0 m0 H0 a w hI Q hQ => ?_⟩
    exact hs1 R0 w0 m0 H0 a w hI _ Q fun a' w' hI' => hs2 R0 w0 m0 H0 a' w' hI' Q hQ
theorem draw_sound {X : Cx} (hT : TSound X.P X.T) (hm : X.P.follows .mixedOrders = true) : DrawSound X := by
  intro id ops b s K h
  unfold regionP at h
  split at h
  · split at h
    · exact region0_sound hT hm h
    · obtain ⟨s1, h1, i1⟩ := hookP_ok h
      obtain ⟨s2, h2, ok⟩ := region0_sound hT hm h1
      exact ⟨s2, h2, fun R0 w0 m0 H0 hl hS0 a w hI => ok R0 w0 m0 H0 hl hS0 a w (i1 hI)⟩
  · cases b with
    | true => exact h.elim
    | false =>
      simp only [cond_false] at h
      obtain ⟨s', hk, hs⟩ := opsW_sound (X := X) hT (ops := ops) h
      exact ⟨s', hk, fun R0 w0 m0 H0 _ _ a w hI => wp_region_list (hs R0 w0 m0 H0 a w hI _ fun a' w' hI' => ⟨rfl, hI'⟩)⟩

/-- what a function's text says, it does -/
theorem fn_sound {P : Program} {T : Specs} {ann : Nat → List Nat × Nat × List (List Nat)} {f : Nat} {fn : Func} {args : List AVal} {H : Hp} {K : AVal → Hp → Prop} (hT : TSound P T) (hm : P.follows .mixedOrders = true)
    (hf : P.funcs[f]? = some fn) (hname : (fn.name == "runtime.NumGoroutine") = false) (h : fnP P T ann fn args H K) : ∃ v H', K v H' ∧ Gives P f args H v H' :=
  fnP_sound hT (draw_sound (X := ⟨P, T, fn.ntmps, H.length, ann⟩) hT hm) hf hname h
end Go.Proofs.Ytnbbaemijogeoaa.Ae
namespace Go.Proofs.Ytnbbaemijogeoaa
open Go.ChangeShapes Go.WideShapes Go.ChangeAt Go.RowKit

/-- How great a datum may be: by the form's own reach ('m' false), or by the second form's bulk ('m' true). -/
def Lim {H : Type} (m : Bool) (P : Program) (t : TypeId) (d : DataW H) : Prop :=
  match m with
  | true => Rows.uptoBulk d ≤ 1048576
  | false => ∀ n ∈ d.weights P t, n ≤ reachBytes

/-- The bound on one string's bytes, on one slice's bytes. -/
def lim (m : Bool) : Nat := match m with | true => 1048576 | false => 140737488351232
theorem lim_le (m : Bool) : lim m ≤ 140737488351232 := by cases m <;> simp [lim]

/-- The cells 'cs' are read as a value of type 't'. -/
def Rd {H : Type} (enc : TypeId × Value → H) (m : Bool) (P : Program) (W : World) (t : TypeId) (cs : List Value) : Prop :=
  ∃ fuel d ps, DataW.trod enc P W 0 (fun _ => true) true fuel t cs = some (d, ps) ∧ Lim m P t d

/-- An argument. -/
def RdV {H : Type} (enc : TypeId × Value → H) (m : Bool) (P : Program) (W : World) (t : TypeId) (v : Value) : Prop :=
  (∃ base, Value.okWide P W .any base t v) ∧ Rd enc m P W t v.cells.toList

section
variable {H : Type} {enc : TypeId × Value → H} {m : Bool} {P : Program} {W : World} {t : TypeId}

theorem bulk_one_le (d : DataW H) : 1 ≤ Rows.uptoBulk d := by
  cases d with
  | lit l => cases l <;> simp [Rows.uptoBulk]
  | nil => simp [Rows.uptoBulk]
  | ptr d => simp [Rows.uptoBulk]
  | slice elems spare => simp [Rows.uptoBulk]
  | agg parts => simp [Rows.uptoBulk]
  | iface t d => simp [Rows.uptoBulk]
  | map entries => simp [Rows.uptoBulk]
  | held h => simp [Rows.uptoBulk]
theorem bulk_part_le {d : DataW H} {l : List (DataW H)} (h : d ∈ l) : Rows.uptoBulk d ≤ Rows.uptoBulkAll l := by
  induction l with
  | nil => cases h
  | cons x r ih =>
    simp only [Rows.uptoBulkAll]
    cases List.mem_cons.1 h with
    | inl e => subst e; omega
    | inr e => have := ih e; omega
theorem bulk_append (l r : List (DataW H)) : Rows.uptoBulkAll (l ++ r) = Rows.uptoBulkAll l + Rows.uptoBulkAll r := by
  induction l with
  | nil => simp [Rows.uptoBulkAll]
  | cons x l ih => simp only [List.cons_append, Rows.uptoBulkAll, ih]; omega
theorem bulk_length_le (l : List (DataW H)) : l.length ≤ Rows.uptoBulkAll l := by
  induction l with
  | nil => simp [Rows.uptoBulkAll]
  | cons x r ih => have := bulk_one_le x; simp only [Rows.uptoBulkAll, List.length_cons]; omega

theorem weightsAll_mem {e : TypeId} {d : DataW H} {l : List (DataW H)} (h : d ∈ l) : ∀ n ∈ d.weights P e, n ∈ DataW.weightsAll P e l := by
  induction l with
  | nil => cases h
  | cons x r ih =>
    intro n hn
    simp only [DataW.weightsAll, List.mem_append]
    cases List.mem_cons.1 h with
    | inl e => subst e; exact .inl hn
    | inr e => exact .inr (ih e n hn)

theorem Rd.int {k : IntKind} {cs : List Value} (ht : P.underlying t = some (.int k)) (h : Rd enc m P W t cs) : ∃ n, cs = [.int k n] ∧ (Lit.int k n).wf = true := by
  obtain ⟨fuel, d, ps, h, _⟩ := h
  obtain ⟨n, h1, _, h2⟩ := DataW.trod_int ht h
  exact ⟨n, h1, h2⟩
theorem Rd.bool {cs : List Value} (ht : P.underlying t = some .bool) (h : Rd enc m P W t cs) : ∃ b, cs = [.bool b] := by
  obtain ⟨fuel, d, ps, h, _⟩ := h
  obtain ⟨n, h1, _⟩ := DataW.trod_bool ht h
  exact ⟨n, h1⟩
theorem Rd.string {cs : List Value} (ht : P.underlying t = some .string) (h : Rd enc m P W t cs) : ∃ s : ByteArray, cs = [.string s] ∧ s.size ≤ lim m := by
  obtain ⟨fuel, d, ps, h, hl⟩ := h
  obtain ⟨s, h1, h2, _⟩ := DataW.trod_string ht h
  obtain ⟨rfl, rfl⟩ := Prod.mk.injEq .. ▸ h2
  refine ⟨s, h1, ?_⟩
  cases m with
  | true =>
    simp only [Lim, Rows.uptoBulk] at hl
    have e : s.data.toList.length = s.size := by simp
    unfold lim; simp only; omega
  | false =>
    have := hl s.data.toList.length (by simp [DataW.weights])
    have e : s.data.toList.length = s.size := by simp
    unfold lim; simp only; unfold reachBytes at this; omega
theorem Rd.struct {fs : Array Field} {cs : List Value} (ht : P.underlying t = some (.struct fs)) (h : Rd enc m P W t cs) :
    cs.length = P.cellsOf t ∧ ∀ (i : Nat) (f : Field), fs[i]? = some f → Rd enc m P W f.type ((cs.drop f.offset).take (P.cellsOf f.type)) := by
  obtain ⟨fuel, d, ps, h, hl⟩ := h
  obtain ⟨xs, n, _, h2, h3, h4, h5⟩ := DataW.trod_struct ht h
  obtain ⟨rfl, rfl⟩ := Prod.mk.injEq .. ▸ h2
  refine ⟨h3, fun i f hf => ?_⟩
  have hi : i < xs.length := by rw [h4]; exact (Array.getElem?_eq_some_iff.1 hf).1
  have hx := List.getElem?_eq_getElem hi
  refine ⟨n, xs[i].1, xs[i].2, by rw [h5 i f hf, hx], ?_⟩
  have hmem : xs[i].1 ∈ xs.map (·.1) := List.mem_map.2 ⟨xs[i], List.getElem_mem hi, rfl⟩
  cases m with
  | true =>
    simp only [Lim, Rows.uptoBulk] at hl ⊢
    have := bulk_part_le hmem
    omega
  | false =>
    intro q hq
    refine hl q ?_
    simp only [DataW.weights, ht]
    refine DataW.weights_mem_each (j := i) (t := f.type) (d := xs[i].1) ?_ ?_ q hq
    · rw [List.getElem?_map, Array.getElem?_toList, hf]; rfl
    · rw [List.getElem?_map, hx]; rfl
theorem Rd.array {n : Nat} {e : TypeId} {cs : List Value} (ht : P.underlying t = some (.array n e)) (h : Rd enc m P W t cs) :
    cs.length = P.cellsOf t ∧ ∀ i, i < n → Rd enc m P W e ((cs.drop (i * P.cellsOf e)).take (P.cellsOf e)) := by
  obtain ⟨fuel, d, ps, h, hl⟩ := h
  obtain ⟨xs, k, _, h2, h3, h4, h5⟩ := DataW.trod_array ht h
  obtain ⟨rfl, rfl⟩ := Prod.mk.injEq .. ▸ h2
  refine ⟨h3, fun i hi => ?_⟩
  have hi' : i < xs.length := by omega
  have hx := List.getElem?_eq_getElem hi'
  refine ⟨k, xs[i].1, xs[i].2, by rw [h5 i hi, hx], ?_⟩
  have hmem : xs[i].1 ∈ xs.map (·.1) := List.mem_map.2 ⟨xs[i], List.getElem_mem hi', rfl⟩
  cases m with
  | true =>
    simp only [Lim, Rows.uptoBulk] at hl ⊢
    have := bulk_part_le hmem
    omega
  | false =>
    intro q hq
    refine hl q ?_
    simp only [DataW.weights, ht]
    exact weightsAll_mem hmem q hq
theorem Rd.slice {e : TypeId} {cs : List Value} (ht : P.underlying t = some (.slice e)) (h : Rd enc m P W t cs) :
    cs = [.slice none 0 0] ∨ ∃ a len cap, cs = [.slice (some a) len cap] ∧ len ≤ cap ∧ cap * (match m with | true => 1 | false => P.bytesOf e) ≤ lim m ∧
      ∀ i, i < len → ∃ xs, W.cells? 0 (a.add (i * P.cellsOf e)) (P.cellsOf e) = some xs ∧ Rd enc m P W e xs := by
  obtain ⟨fuel, d, ps, h, hl⟩ := h
  rcases DataW.trod_slice ht h with ⟨h1, h2⟩ | ⟨a, len, cap, elems, rest, n, _, h1, h2, _, h3, h4, h5, h6, h7, h8⟩
  · exact .inl h1
  · right
    obtain ⟨rfl, rfl⟩ := Prod.mk.injEq .. ▸ h2
    obtain ⟨h9, h10⟩ := h7 rfl
    refine ⟨a, len, cap, h1, h3, ?_, fun i hi => ?_⟩
    · cases m with
      | true =>
        simp only [Lim, Rows.uptoBulk] at hl
        have l1 := bulk_length_le (elems.map (·.1))
        have l2 := bulk_length_le (rest.map (·.1))
        simp only [List.length_map] at l1 l2
        unfold lim; simp only; omega
      | false =>
        have := hl (((elems.map (·.1)).length + (rest.map (·.1)).length) * P.bytesOf e) (by simp only [DataW.weights, ht]; exact List.mem_cons_self ..)
        simp only [List.length_map, h5, h9] at this
        rw [show len + (cap - len) = cap from by omega] at this
        unfold lim; simp only; unfold reachBytes at this; omega
    · have hi' : i < elems.length := by omega
      have hx := List.getElem?_eq_getElem hi'
      have hb := h6 i hi
      rw [hx] at hb
      cases hc : W.cells? 0 (a.add (i * P.cellsOf e)) (P.cellsOf e) with
      | none => rw [hc] at hb; simp at hb
      | some xs =>
        rw [hc] at hb
        refine ⟨xs, rfl, n, elems[i].1, elems[i].2, hb, ?_⟩
        have hmem : elems[i].1 ∈ elems.map (·.1) := List.mem_map.2 ⟨elems[i], List.getElem_mem hi', rfl⟩
        cases m with
        | true =>
          simp only [Lim, Rows.uptoBulk] at hl ⊢
          have := bulk_part_le hmem
          omega
        | false =>
          intro q hq
          refine hl q ?_
          simp only [DataW.weights, ht]
          exact List.mem_cons_of_mem _ (List.mem_append_left _ (weightsAll_mem hmem q hq))

theorem RdV.int {k : IntKind} {v : Value} (ht : P.underlying t = some (.int k)) (h : RdV enc m P W t v) : ∃ n, v = .int k n ∧ (Lit.int k n).wf = true := by
  obtain ⟨⟨base, h1⟩, h2⟩ := h
  obtain ⟨n, rfl⟩ := okWide_int ht h1
  obtain ⟨n', h3, h4⟩ := h2.int ht
  simp [Value.cells] at h3
  exact ⟨n, rfl, h3 ▸ h4⟩
theorem RdV.bool {v : Value} (ht : P.underlying t = some .bool) (h : RdV enc m P W t v) : ∃ b, v = .bool b := by
  obtain ⟨⟨base, h1⟩, h2⟩ := h
  exact okWide_bool ht h1
theorem RdV.string {v : Value} (ht : P.underlying t = some .string) (h : RdV enc m P W t v) : ∃ s : ByteArray, v = .string s ∧ s.size ≤ lim m := by
  obtain ⟨⟨base, h1⟩, h2⟩ := h
  obtain ⟨n, rfl⟩ := okWide_string ht h1
  obtain ⟨n', h3, h4⟩ := h2.string ht
  simp [Value.cells] at h3
  exact ⟨n, rfl, h3 ▸ h4⟩
theorem RdV.agg {v : Value} (ht : (∃ fs, P.underlying t = some (.struct fs)) ∨ (∃ n e, P.underlying t = some (.array n e))) (h : RdV enc m P W t v) :
    ∃ cs : List Value, v = .agg cs.toArray ∧ Rd enc m P W t cs := by
  obtain ⟨⟨base, h1⟩, h2⟩ := h
  rcases ht with ⟨fs, ht⟩ | ⟨n, e, ht⟩ <;>
  · simp only [Value.okWide, ht] at h1
    obtain ⟨cs, rfl, _⟩ := h1
    exact ⟨cs.toList, by simp, by simpa [Value.cells] using h2⟩
theorem RdV.slice {e : TypeId} {v : Value} (ht : P.underlying t = some (.slice e)) (h : RdV enc m P W t v) : ∃ a n c, v = .slice a n c ∧ Rd enc m P W t [.slice a n c] := by
  obtain ⟨⟨base, h1⟩, h2⟩ := h
  obtain ⟨a, n, c, rfl⟩ := okWide_slice ht h1
  exact ⟨a, n, c, rfl, by simpa [Value.cells] using h2⟩

theorem cells_one {w : World} {a : Addr} {xs : List Value} (h : w.cells? 0 a 1 = some xs) : ∃ v, xs = [v] ∧ w.cell? a = some v := by
  unfold World.cells? at h
  simp [List.range_succ, Addr.add] at h
  cases hc : w.cell? a with
  | none => rw [hc] at h; simp at h
  | some v => rw [hc] at h; simp at h; exact ⟨v, h.symm, rfl⟩

/-- A slice whose elements are of one cell each. -/
theorem Rd.slice1 {e : TypeId} {a : Option Addr} {n c : Nat} (ht : P.underlying t = some (.slice e)) (he : P.cellsOf e = 1) (hb : m = false → 1 ≤ P.bytesOf e) (h : Rd enc m P W t [.slice a n c]) :
    n ≤ c ∧ c ≤ lim m ∧ (0 < n → ∃ b off, a = some ⟨b, off, none⟩ ∧ ∀ i, i < n → ∃ v, W.cell? ⟨b, off + i, none⟩ = some v ∧ Rd enc m P W e [v]) := by
  rcases h.slice ht with h1 | ⟨x, n', c', h1, h2, h3, h4⟩
  · simp at h1
    obtain ⟨rfl, rfl, rfl⟩ := h1
    exact ⟨Nat.le_refl _, by omega, fun h => by omega⟩
  · simp at h1
    obtain ⟨rfl, rfl, rfl⟩ := h1
    refine ⟨h2, ?_, fun hp => ?_⟩
    · cases m with
      | true => simpa using h3
      | false =>
        have := hb rfl
        simp only at h3
        have := Nat.mul_le_mul_left c this
        omega
    · obtain ⟨b, off, spot⟩ := x
      have hs : spot = none := by
        obtain ⟨xs, hx, _⟩ := h4 0 hp
        rw [he] at hx
        obtain ⟨v, _, hv⟩ := cells_one hx
        simpa [Addr.add] using World.cell?_spot hv
      subst hs
      refine ⟨b, off, rfl, fun i hi => ?_⟩
      obtain ⟨xs, hx, hr⟩ := h4 i hi
      rw [he] at hx
      obtain ⟨v, rfl, hv⟩ := cells_one hx
      refine ⟨v, ?_, hr⟩
      rw [← hv]
      unfold Addr.add
      by_cases h0 : i = 0
      · subst h0; simp
      · simp [h0]

theorem u8_of {n : Int} (h : (Lit.int .u8 n).wf = true) : ∃ x : UInt8, n = (x.toNat : Int) := by
  have hx : 0 ≤ n ∧ n ≤ 255 := by simpa [Lit.wf, IntKind.min, IntKind.max, IntKind.signed, IntKind.bits] using h
  refine ⟨UInt8.ofNat n.toNat, ?_⟩
  simp; omega

/-- A slice of bytes. -/
theorem Rd.bytes {e : TypeId} {a : Option Addr} {n c : Nat} (ht : P.underlying t = some (.slice e)) (hu : P.underlying e = some (.int .u8)) (he : P.cellsOf e = 1) (hb : P.bytesOf e = 1) (h : Rd enc m P W t [.slice a n c]) :
    ∃ l, Bytes W a n c l ∧ c ≤ lim m := by
  obtain ⟨h1, h2, h3⟩ := h.slice1 ht he (fun _ => by omega)
  have hlm := lim_le m
  by_cases hn : n = 0
  · subst hn
    exact ⟨[], ⟨rfl, h1, by omega, by omega, fun h => by omega⟩, h2⟩
  · obtain ⟨b, off, rfl, h4⟩ := h3 (by omega)
    have h5 : ∀ i, ∃ x : UInt8, i < n → W.cell? ⟨b, off + i, none⟩ = some (.int .u8 (x.toNat : Int)) := by
      intro i
      by_cases hi : i < n
      · obtain ⟨v, hv, hr⟩ := h4 i hi
        obtain ⟨k, hk, hw⟩ := hr.int hu
        simp at hk
        subst hk
        obtain ⟨x, rfl⟩ := u8_of hw
        exact ⟨x, fun _ => hv⟩
      · exact ⟨0, fun h => absurd h hi⟩
    refine ⟨(List.range n).map fun i => Classical.choose (h5 i), ⟨by simp, h1, by omega, by omega, fun _ => ⟨b, off, rfl, fun i hi => ?_⟩⟩, h2⟩
    rw [Classical.choose_spec (h5 i) hi]
    simp [List.getD_eq_getElem?_getD, hi]

theorem RdV.bytes {e : TypeId} {v : Value} (ht : P.underlying t = some (.slice e)) (hu : P.underlying e = some (.int .u8)) (he : P.cellsOf e = 1) (hb : P.bytesOf e = 1) (h : RdV enc m P W t v) :
    ∃ a n c l, v = .slice a n c ∧ Bytes W a n c l ∧ c ≤ lim m := by
  obtain ⟨a, n, c, rfl, hr⟩ := h.slice ht
  obtain ⟨l, h1, h2⟩ := hr.bytes ht hu he hb
  exact ⟨a, n, c, l, rfl, h1, h2⟩

end

section
variable {H : Type} {enc : TypeId × Value → H} {P : Program}

/-- What was read below the heap's old size reads as it did. -/
theorem trodAll_below (hl : laidOutB P = true) {W W' : World} (hb : Below W.heap.size W W') : ∀ {ts : List TypeId} {vs : List Value} {ds : List (DataW H)} {ps : List MemPlace},
    (∀ t ∈ ts, P.readableRec t = true ∧ t < P.types.size) → DataW.TrodAll enc P W 0 (fun _ => true) true ts vs ds ps →
    DataW.TrodAll enc P W' 0 (fun b => decide (b < W.heap.size)) true ts vs ds ps
  | [], [], [], _, _, h => h
  | t :: ts, v :: vs, d :: ds, ps, hr, h => by
    obtain ⟨p, q, h1, h2, rfl⟩ := h
    have hlt : ∀ x ∈ p, x.block < W.heap.size := by obtain ⟨m, hm⟩ := h1; exact DataW.trod_lt m _ _ _ hm
    exact ⟨p, q, Below.trod hl (hr t (List.mem_cons_self ..)).1 (hr t (List.mem_cons_self ..)).2 h1 hb hlt, trodAll_below hl hb (fun t ht => hr t (List.mem_cons_of_mem _ ht)) h2, rfl⟩
  | [], [], _ :: _, _, _, h => by simp [DataW.TrodAll] at h
  | [], _ :: _, _, _, _, h => by simp [DataW.TrodAll] at h
  | _ :: _, [], _, _, _, h => by simp [DataW.TrodAll] at h
  | _ :: _, _ :: _, [], _, _, h => by simp [DataW.TrodAll] at h

theorem trodAll_get {W : World} : ∀ {ts : List TypeId} {vs : List Value} {ds : List (DataW H)} {ps : List MemPlace}, DataW.TrodAll enc P W 0 (fun _ => true) true ts vs ds ps →
    vs.length = ts.length ∧ ds.length = ts.length ∧ ∀ (j : Nat) t v, ts[j]? = some t → vs[j]? = some v → ∃ d p, ds[j]? = some d ∧ DataW.Trod enc P W 0 (fun _ => true) true t v d p
  | [], [], [], _, _ => ⟨rfl, rfl, fun j t v h => by simp at h⟩
  | t :: ts, v :: vs, d :: ds, ps, h => by
    obtain ⟨p, q, h1, h2, rfl⟩ := h
    obtain ⟨l1, l2, h3⟩ := trodAll_get h2
    refine ⟨by simp [l1], by simp [l2], fun j t' v' ht hv => ?_⟩
    cases j with
    | zero =>
      simp only [List.getElem?_cons_zero, Option.some.injEq] at ht hv
      subst ht; subst hv
      exact ⟨d, p, rfl, h1⟩
    | succ j =>
      simp only [List.getElem?_cons_succ] at ht hv ⊢
      exact h3 j t' v' ht hv
  | [], [], _ :: _, _, h => by simp [DataW.TrodAll] at h
  | [], _ :: _, _, _, h => by simp [DataW.TrodAll] at h
  | _ :: _, [], _, _, h => by simp [DataW.TrodAll] at h
  | _ :: _, _ :: _, [], _, h => by simp [DataW.TrodAll] at h

/-- The post of a law that returned true and wrote nothing that was there. -/
theorem law_post {fn : Func} {s : ChangeSpec} {W W' : World} {args : Array Value} {ds gs : List (DataW H)} {before : List MemPlace} {tb : TypeId}
    (hv : s.vars = []) (hspec : ∀ ds : List (DataW H), ds.length = fn.params.size → s.fn H ds = { results := [.lit (.bool true)], args := ds })
    (hres : fn.resultTypes = #[tb]) (htb : P.underlying tb = some .bool) (hl : laidOutB P = true) (hread : ∀ t ∈ fn.params.toList, P.readableRec t = true ∧ t < P.types.size)
    (hW : DataW.Whole enc P fn.params.toList s.vars false W args.toList ds gs before) (hb : Below W.heap.size W W') :
    s.post enc P fn false true false false W args (.bool true) W' := by
  have hW' := hW
  obtain ⟨p, q, hA, hV, rfl, hfz, hnd⟩ := hW
  rw [hv] at hV
  obtain ⟨rfl, rfl⟩ := trodVars_none hV
  have hlen := (trodAll_get hA).2.1
  have e := hspec (ds ++ []) (by simpa using hlen)
  refine ⟨ds, [], _, [], p, [], hW', ?_, ?_, ?_, ?_, fun h => by cases h⟩
  · rw [e, hres]; exact trodAll_mk1 (shut_bool htb _)
  · rw [e]; simpa using trodAll_below hl hb hread hA
  · rw [e, hv]; rfl
  · exact hb.frame _

/-- THE FIRST FORM's STEP, for every law. -/
theorem lifted_said {C : Checked} {os : Os} {f : FuncId} {fn : Func} {s : ChangeSpec} {tb : TypeId}
    (own : ownKnob C.prog.godebug = none) (started : os.Started) (noInit : C.prog.inits.idxOf? f = none) (hfn : C.prog.funcs[f]? = some fn)
    (witness : ∃ (w : World) (tape : Tape) (i : Input), w.os = os ∧ (w.forCall tape i).Shaped C.prog ∧ i.vars = [] ∧ Input.okWide C.prog (w.forCall tape i) .any w.heap.size f i ∧
      s.pre6 enc C.prog fn [] false (w.forCall tape i).memory i.args ∧ ({} : Assume).holds C.prog (lone (Frame.enter C.prog f i.args .normal) [] (w.forCall tape i)))
    (hv : s.vars = []) (hspec : ∀ ds : List (DataW H), ds.length = fn.params.size → s.fn H ds = { results := [.lit (.bool true)], args := ds })
    (hres : fn.resultTypes = #[tb]) (htb : C.prog.underlying tb = some .bool) (hl : laidOutB C.prog = true) (hreadB : (fn.params.toList.all fun t => C.prog.readableRec t && decide (t < C.prog.types.size)) = true)
    (walk : ∀ (W : World) (args : Array Value), args.size = fn.params.size → (∀ (j : Nat) t v, fn.params[j]? = some t → args[j]? = some v → RdV enc false C.prog W t v) →
      Calls C.prog f args W fun e W' => e = .returned (.bool true) ∧ Below W.heap.size W W') :
    ReturnsInHanded {} C os f .any (s.pre6 enc C.prog fn [] false) (s.post enc C.prog fn false true false false) := by
  have hread : ∀ t ∈ fn.params.toList, C.prog.readableRec t = true ∧ t < C.prog.types.size := fun t ht => by simpa using List.all_eq_true.1 hreadB t ht
  refine returnsInHanded_of_change_sized own started noInit hfn witness ?_
  intro W base args ds gs before hval hW _ hsz _
  have hW' := hW
  obtain ⟨p, q, hA, hV, _⟩ := hW
  rw [hv] at hV
  obtain ⟨rfl, _⟩ := trodVars_none hV
  obtain ⟨l1, l2, hget⟩ := trodAll_get hA
  refine (walk W args (by simpa using l1) fun j t v ht hv' => ?_).mono fun e W' ⟨he, hb⟩ => ⟨_, he, law_post hv hspec hres htb hl hread hW' hb⟩
  obtain ⟨d, p', hd, fuel, ht'⟩ := hget j t v (by simpa using ht) (by simpa using hv')
  refine ⟨⟨base, hval j t v ht hv'⟩, fuel, d, p', ht', fun n hn => ?_⟩
  have := List.all_eq_true.1 hsz n (DataW.weights_mem_each (j := j) (t := t) (d := d) ?_ (by simpa using hd) n hn)
  · simpa using this
  · rw [List.getElem?_append_left (by have := (Array.getElem?_eq_some_iff.1 ht).1; simpa using this)]
    simpa using ht

/-- THE SECOND FORM's STEP. -/
theorem lifted_upto {C : Checked} {os : Os} {f : FuncId} {fn : Func} {s : ChangeSpec} {tb : TypeId} {F : Stop.Interp}
    (own : ownKnob C.prog.godebug = none) (started : os.Started) (noInit : C.prog.inits.idxOf? f = none) (hfn : C.prog.funcs[f]? = some fn)
    (witness : ∃ (w : World) (tape : Tape) (i : Input), w.os = os ∧ (w.forCall tape i).Shaped C.prog ∧ i.vars = [] ∧ Input.okWide C.prog (w.forCall tape i) .any w.heap.size f i ∧
      (Rows.OpenSpec.upto s).pre6 enc C.prog fn [] false (w.forCall tape i).memory i.args ∧ ({} : Assume).holds C.prog (lone (Frame.enter C.prog f i.args .normal) [] (w.forCall tape i)))
    (hv : s.vars = []) (hspec : ∀ ds : List (DataW H), ds.length = fn.params.size → s.fn H ds = { results := [.lit (.bool true)], args := ds })
    (hres : fn.resultTypes = #[tb]) (htb : C.prog.underlying tb = some .bool) (hl : laidOutB C.prog = true) (hreadB : (fn.params.toList.all fun t => C.prog.readableRec t && decide (t < C.prog.types.size)) = true)
    (walk : ∀ (W : World) (args : Array Value), args.size = fn.params.size → (∀ (j : Nat) t v, fn.params[j]? = some t → args[j]? = some v → RdV enc true C.prog W t v) →
      Calls C.prog f args W fun e W' => e = .returned (.bool true) ∧ Below W.heap.size W W') :
    ReturnsInHanded {} C os f .any ((Rows.OpenSpec.upto s).pre6 enc C.prog fn [] false) (((Rows.OpenSpec.upto s).at F).post enc C.prog fn false true false false) := by
  have hread : ∀ t ∈ fn.params.toList, C.prog.readableRec t = true ∧ t < C.prog.types.size := fun t ht => by simpa using List.all_eq_true.1 hreadB t ht
  refine returnsInHanded_of_cond (k := Rows.uptoSmall) rfl own started noInit hfn witness ?_
  intro W base args ds gs before hval hW _ hk _
  have hW1 : DataW.Whole enc C.prog fn.params.toList s.vars false W args.toList ds gs before := hW
  have hW' := hW1
  obtain ⟨p, q, hA, hV, _⟩ := hW1
  rw [hv] at hV
  obtain ⟨rfl, _⟩ := trodVars_none hV
  obtain ⟨l1, l2, hget⟩ := trodAll_get hA
  refine (walk W args (by simpa using l1) fun j t v ht hv' => ?_).mono fun e W' ⟨he, hb⟩ => ⟨_, he, law_post (s := s) hv hspec hres htb hl hread hW' hb⟩
  obtain ⟨d, p', hd, fuel, ht'⟩ := hget j t v (by simpa using ht) (by simpa using hv')
  refine ⟨⟨base, hval j t v ht hv'⟩, fuel, d, p', ht', ?_⟩
  have h1 : Rows.uptoBulkAll (ds ++ []) ≤ 1048576 := of_decide_eq_true hk
  rw [List.append_nil] at h1
  have h2 := bulk_part_le (List.mem_of_getElem? hd)
  show Rows.uptoBulk d ≤ 1048576
  omega

end

theorem u16_bd {n : Int} (h : (Lit.int .u16 n).wf = true) : 0 ≤ n ∧ n ≤ 65535 := by simpa [Lit.wf, IntKind.min, IntKind.max, IntKind.signed, IntKind.bits] using h
theorem u8_bd {n : Int} (h : (Lit.int .u8 n).wf = true) : 0 ≤ n ∧ n ≤ 255 := by simpa [Lit.wf, IntKind.min, IntKind.max, IntKind.signed, IntKind.bits] using h
theorem i64_bd {n : Int} (h : (Lit.int .i64 n).wf = true) : -9223372036854775808 ≤ n ∧ n ≤ 9223372036854775807 := by simpa [Lit.wf, IntKind.min, IntKind.max, IntKind.signed, IntKind.bits] using h

theorem own : ownKnob Try.prog.godebug = none := by kernel_rfl
theorem laidOut : laidOutB Try.prog = true := by kernel_rfl

theorem info_u8 : (Try.prog.info? 5).map (fun i => (i.zero, i.size, i.bytes)) = some (some (.int .u8 0), 1, 1) := by kernel_rfl

theorem args1 {args : Array Value} (h : args.size = 1) : ∃ a, args = #[a] := by
  obtain ⟨l⟩ := args
  match l, h with
  | [a], _ => exact ⟨a, rfl⟩
theorem args2 {args : Array Value} (h : args.size = 2) : ∃ a b, args = #[a, b] := by
  obtain ⟨l⟩ := args
  match l, h with
  | [a, b], _ => exact ⟨a, b, rfl⟩
theorem args3 {args : Array Value} (h : args.size = 3) : ∃ a b c, args = #[a, b, c] := by
  obtain ⟨l⟩ := args
  match l, h with
  | [a, b, c], _ => exact ⟨a, b, c, rfl⟩

end Go.Proofs.Ytnbbaemijogeoaa
namespace Go.Proofs.Ytnbbaemijogeoaa.Ae
open Go Go.RowKit

/-- all that stood there before the call is only read -/
def old (W : World) (g : Nat) : Prop := g < W.heap.size
theorem sim_old (W : World) : Sim (old W) W Mp.nil [] :=
  ⟨fun _ h => h, fun _ _ => rfl, fun k _ h _ => absurd (hget_out (Nat.zero_le k)) h, fun k h _ => absurd (hget_out (Nat.zero_le k)) h, fun k _ _ h _ _ _ => absurd (hget_out (Nat.zero_le k)) h⟩

theorem law_walk {P : Program} {f : Nat} {args : List AVal} {H' : Hp} {W : World} {xs : List Value} (hG : Gives P f args [] (.bool true) H') (hx : VL (old W) W Mp.nil [] args xs) :
    Calls P f xs.toArray W fun e w' => e = .returned (.bool true) ∧ Below W.heap.size W w' := by
  refine (hG.run (old W) W Mp.nil xs (sim_old W) hx).mono fun e w' ⟨R', m', x, he, F, V⟩ => ?_
  cases V
  exact ⟨he, F.os, F.tape, F.output, F.size, fun k hk => F.frame k hk fun j hj => absurd (hget_out (Nat.zero_le j)) hj⟩

section
variable {H : Type} {enc : TypeId × Value → H} {b : Bool} {P : Program} {W : World} {t : TypeId} {v : Value} {m : Mp} {G : Hp}

theorem arg_int {k : IntKind} (ht : P.underlying t = some (.int k)) (h : RdV enc b P W t v) : ∃ n, v = .int k n ∧ (Lit.int k n).wf = true ∧ VR (old W) W m G (.int k n) v := by
  obtain ⟨n, rfl, hw⟩ := h.int ht
  exact ⟨n, rfl, hw, .int k n⟩
theorem arg_byte (ht : P.underlying t = some (.int .u8)) (h : RdV enc b P W t v) : ∃ x : UInt8, VR (old W) W m G (.byte x) v := by
  obtain ⟨n, rfl, hw⟩ := h.int ht
  obtain ⟨x, rfl⟩ := u8_of hw
  exact ⟨x, .byte x⟩
theorem arg_bool (ht : P.underlying t = some .bool) (h : RdV enc b P W t v) : ∃ c, VR (old W) W m G (.bool c) v := by
  obtain ⟨c, rfl⟩ := h.bool ht
  exact ⟨c, .bool c⟩
theorem arg_str (ht : P.underlying t = some .string) (h : RdV enc b P W t v) : ∃ l : List UInt8, l.length ≤ lim b ∧ VR (old W) W m G (.str l) v := by
  obtain ⟨s, rfl, hs⟩ := h.string ht
  have e : s = ⟨s.data.toList.toArray⟩ := by simp
  have hl : s.data.toList.length = s.size := rfl
  refine ⟨s.data.toList, by rw [hl]; exact hs, ?_⟩
  conv => arg 6; rw [e]
  have := lim_le b
  exact .str _ (by rw [hl]; unfold big; omega)
theorem bytes_arg {a : Option Addr} {n c : Nat} {l : List UInt8} (hB : Bytes W a n c l) (hc : c ≤ lim b) : ∃ l' : List UInt8, l'.length ≤ lim b ∧ VR (old W) W m G (.roB l') (.slice a n c) := by
  have hn := hB.len
  have hle := hB.le
  have hroom := hB.room
  have hcap := hB.capr
  have hat := hB.at
  subst hn
  refine ⟨l, by omega, ?_⟩
  by_cases hp : 0 < l.length
  case neg => exact roB_of (off := 0) hle hcap hroom fun h => absurd h hp
  obtain ⟨g, off, ha, hc'⟩ := hat hp
  refine roB_of (off := off) hle hcap hroom fun _ => ?_
  have cell : ∀ (i : Nat) x, l[i]? = some x → W.cell? ⟨g, off + i, none⟩ = some (.int .u8 (x.toNat : Int)) := fun i x hx => by
    have hi := (List.getElem?_eq_some_iff.1 hx).1
    rw [hc' i hi, List.getD_eq_getElem?_getD, hx]; rfl
  refine ⟨g, ha, ?_, cell⟩
  have h0 := cell 0 _ (List.getElem?_eq_getElem hp)
  unfold old
  rcases Nat.lt_or_ge g W.heap.size with h' | h'
  · exact h'
  · unfold World.cell? at h0
    simp [Array.getElem?_eq_none h'] at h0
theorem arg_bytes {e : TypeId} (ht : P.underlying t = some (.slice e)) (hu : P.underlying e = some (.int .u8)) (he : P.cellsOf e = 1) (hb : P.bytesOf e = 1) (h : RdV enc b P W t v) : ∃ l : List UInt8, l.length ≤ lim b ∧ VR (old W) W m G (.roB l) v := by
  obtain ⟨a, n, c, l, rfl, hB, hc⟩ := h.bytes ht hu he hb
  have hn := hB.len
  have hle := hB.le
  have hroom := hB.room
  have hcap := hB.capr
  have hat := hB.at
  subst hn
  refine ⟨l, by omega, ?_⟩
  by_cases hp : 0 < l.length
  case neg => exact roB_of (off := 0) hle hcap hroom fun h => absurd h hp
  obtain ⟨g, off, ha, hc'⟩ := hat hp
  refine roB_of (off := off) hle hcap hroom fun _ => ?_
  have cell : ∀ (i : Nat) x, l[i]? = some x → W.cell? ⟨g, off + i, none⟩ = some (.int .u8 (x.toNat : Int)) := fun i x hx => by
    have hi := (List.getElem?_eq_some_iff.1 hx).1
    rw [hc' i hi, List.getD_eq_getElem?_getD, hx]; rfl
  refine ⟨g, ha, ?_, cell⟩
  have h0 := cell 0 _ (List.getElem?_eq_getElem hp)
  unfold old
  rcases Nat.lt_or_ge g W.heap.size with h' | h'
  · exact h'
  · unfold World.cell? at h0
    simp [Array.getElem?_eq_none h'] at h0
end
end Go.Proofs.Ytnbbaemijogeoaa.Ae
namespace Go.Proofs.Ytnbbaemijogeoaa.Ae
open Go Go.RowKit

abbrev Srow := List AVal → Hp → (AVal → Hp → Prop) → Prop
def RSound (P : Program) (k : Nat) (S : Srow) : Prop := ∀ args H K, S args H K → ∃ v H', K v H' ∧ Gives P k args H v H'
def ext (T : Specs) (k : Nat) (S : Srow) : Specs := fun f args H K => cond (Nat.beq f k) (S args H K) (T f args H K)
def noT : Specs := fun _ _ _ _ => False
theorem noT_sound {P : Program} : TSound P noT := fun _ _ _ _ h => h.elim
theorem ext_sound {P : Program} {T : Specs} {k : Nat} {S : Srow} (hT : TSound P T) (hS : RSound P k S) : TSound P (ext T k S) := by
  intro f args H K h
  unfold ext at h
  cases hb : Nat.beq f k with
  | true =>
    rw [hb] at h
    obtain rfl := Nat.eq_of_beq_eq_true hb
    exact hS _ _ _ h
  | false =>
    rw [hb] at h
    exact hT _ _ _ _ h
theorem fn_row {P : Program} {T : Specs} {ann : Nat → List Nat × Nat × List (List Nat)} {k : Nat} {fn : Func} (hT : TSound P T) (hm : P.follows .mixedOrders = true)
    (hf : P.funcs[k]? = some fn) (hname : (fn.name == "runtime.NumGoroutine") = false) : RSound P k (fnP P T ann fn) :=
  fun _ _ _ h => fn_sound hT hm hf hname h
theorem row_of {P : Program} {T : Specs} {ann : Nat → List Nat × Nat × List (List Nat)} {k : Nat} {fn : Func} {S : Srow} (hT : TSound P T) (hm : P.follows .mixedOrders = true)
    (hf : P.funcs[k]? = some fn) (hname : (fn.name == "runtime.NumGoroutine") = false) (hS : ∀ args H K, S args H K → fnP P T ann fn args H K) : RSound P k S :=
  fun args H K h => fn_sound hT hm hf hname (hS args H K h)

/-! ### places in code -/
inductive Dir where
  | l | r | b | t | e
def cAt : List Dir → Code → Code
  | .l :: p, .seq a _ => cAt p a
  | .r :: p, .seq _ c => cAt p c
  | .b :: p, .block _ c => cAt p c
  | .b :: p, .scope c => cAt p c
  | .b :: p, .loop c => cAt p c
  | .t :: p, .cond _ a _ => cAt p a
  | .e :: p, .cond _ _ c => cAt p c
  | _, c => c
/-- what follows there -/
def kAt (X : Cx) : List Dir → Code → Post → Post
  | .l :: p, .seq a c, K => kAt X p a (seqK (fun s => awp X c s K) K)
  | .r :: p, .seq _ c, K => kAt X p c K
  | .b :: p, .block id c, K => kAt X p c (blockK id K)
  | .b :: p, .scope c, K => kAt X p c K
  | .t :: p, .cond _ a _, K => kAt X p a K
  | .e :: p, .cond _ _ c, K => kAt X p c K
  | _, _, K => K
def bodyOf (fn : Func) : Code := match fn.body with
  | some c => c
  | none => .skip
def loopB : Code → Code
  | .loop c => c
  | c => c
/-- a loop at a place: the body's code 'loopB c' -/
def loopFrom (X : Cx) (c : Code) (live : List Nat) (s : St) (K : Post) : Prop := ∃ n, loopP (awp X (loopB c)) X.n0 live n s K
/-- one round -/
theorem loop_one {X : Cx} {c : Code} {live : List Nat} {s : St} {K : Post} (h : ∃ n, awp X (loopB c) s (seqK (fun s' => normK X.n0 live s' fun s' => loopP (awp X (loopB c)) X.n0 live n s' K) K)) : loopFrom X c live s K :=
  let ⟨n, h⟩ := h
  ⟨n + 1, h⟩

/-! ### branches -/
theorem brP_i {b : Bool} {x y : Prop} (h1 : b = true → x) (h2 : b = false → y) : brP b x y := by
  cases b
  · exact h2 rfl
  · exact h1 rfl
theorem brP_d {p : Prop} [Decidable p] {x y : Prop} (h1 : p → x) (h2 : ¬p → y) : brP (decide p) x y := brP_i (fun h => h1 (of_decide_eq_true h)) (fun h => h2 (of_decide_eq_false h))
theorem brP_nd {p : Prop} [Decidable p] {x y : Prop} (h1 : ¬p → x) (h2 : p → y) : brP (!decide p) x y :=
  brP_i (fun h => h1 (by simpa using h)) (fun h => h2 (by simpa using h))
theorem impP_i {g : Bool} {p : Prop} (h : g = true → p) : impP g p := h
/-- something, or nothing -/
def optP {α : Type} (o : Option α) (k : α → Prop) (d : Prop) : Prop := match o with
  | some x => k x
  | none => d
theorem optP_i {α : Type} {o : Option α} {k : α → Prop} {d : Prop} (h1 : ∀ x, o = some x → k x) (h2 : o = none → d) : optP o k d := by
  cases o with
  | none => exact h2 rfl
  | some x => exact h1 x rfl
/-- an end: what is handed back is as told -/
theorem endK_eq {K : AVal → Hp → Prop} {v v' : AVal} {H H' : Hp} (h : K v H) (hv : v = v') (hH : H = H') : K v' H' := by subst hv hH; exact h
theorem end2 {K : AVal → Hp → Prop} {r r' : AVal × Hp} (h : K r.1 r.2) (e : r = r') : K r'.1 r'.2 := by subst e; exact h
end Go.Proofs.Ytnbbaemijogeoaa.Ae
namespace Go.Proofs.Ytnbbaemijogeoaa
open Go.RowKit

theorem ret_int {k : IntKind} {a b : Int} (h : a = b) : Ending.returned (.int k a) = .returned (.int k b) := by rw [h]
theorem ret_bool {a b : Bool} (h : a = b) : Ending.returned (.bool a) = .returned (.bool b) := by rw [h]

theorem and_ffff (m : Int) (h0 : 0 ≤ m) (h1 : m < 18446744073709551616) : bits .and .u64 m 65535 = m % 65536 := by
  rw [u64_and m 65535 h0 h1 (by omega) (by omega)]
  rw [show (65535 : Int).toNat = 65535 from rfl, nat_mask16]
  omega

set_option maxHeartbeats 400000 in
theorem fold_c (n : Int) (h0 : 0 ≤ n) (h1 : n < 18446744073709551616) (w : World) :
    Calls Try.prog 90 #[.int .u64 n] w fun e w' => e = .returned (.int .u16 (fld n)) ∧ w = w' := by
  go_enter Try.func90, Try.ntmps90
  go_wp2
  go_loop [0] (fun v => ∃ m : Int, 0 ≤ m ∧ m < 18446744073709551616 ∧ v = .int .u64 m ∧ fld m = fld n) (fun v => (intOf v).toNat)
  case atStart => exact ⟨n, h0, h1, rfl, rfl⟩
  case round =>
    obtain ⟨m, hm0, hm1, rfl, hm⟩ := hrel
    have HM := hid hm
    clear hm
    by_cases hlt : 65535 < m
    · have hb := hid (and_ffff m hm0 hm1)
      go_wp2
      rw [hb.out, IntWalk.u64_in _ (by omega)]
      go_round
      case rel => exact ⟨_, by omega, by omega, rfl, by rw [fld_step _ hlt]; exact HM.out⟩
      case measure => simp [intOf]; omega
    · go_wp2
      go_ret
      refine ⟨ret_int ?_, rfl⟩
      rw [← HM.out, fld_small _ hm0 (by omega)]

set_option maxHeartbeats 400000 in
theorem added_c (n : Int) (h0 : 0 ≤ n) (h1 : n < 9223372036854775808) (w : World) :
    Calls Try.prog 87 #[.int .i64 n] w fun e w' => e = .returned (.int .i64 (fld n)) ∧ w = w' := by
  go_enter Try.func87, Try.ntmps87
  go_wp2
  go_loop [0] (fun v => ∃ m : Int, 0 ≤ m ∧ m < 9223372036854775808 ∧ v = .int .i64 m ∧ fld m = fld n) (fun v => (intOf v).toNat)
  case atStart => exact ⟨n, h0, h1, rfl, rfl⟩
  case round =>
    obtain ⟨m, hm0, hm1, rfl, hm⟩ := hrel
    have HM := hid hm
    clear hm
    by_cases hlt : 65535 < m
    · go_wp2
      go_round
      case rel => exact ⟨_, by omega, by omega, rfl, by rw [fld_step _ hlt]; exact HM.out⟩
      case measure => simp [intOf]; omega
    · go_wp2
      go_ret
      refine ⟨ret_int ?_, rfl⟩
      rw [← HM.out, fld_small _ hm0 (by omega)]

theorem nat_not16 (n : Nat) (h : n < 65536) : n ^^^ 65535 = 65535 - n := by
  apply Nat.eq_of_testBit_eq
  intro i
  have h2 : n < 2 ^ 16 := h
  have e : (65535 : Nat) - n = 2 ^ 16 - (n + 1) := by omega
  rw [e, Nat.testBit_two_pow_sub_succ h2, Nat.testBit_xor]
  rw [show (65535 : Nat) = 2 ^ 16 - 1 from rfl, Nat.testBit_two_pow_sub_one]
  by_cases hi : i < 16
  · simp [hi]
  · have : n.testBit i = false := Nat.testBit_lt_two_pow (Nat.lt_of_lt_of_le h2 (Nat.pow_le_pow_right (by omega) (by omega)))
    simp [hi, this]
theorem not16 (a : Int) (h0 : 0 ≤ a) (h1 : a ≤ 65535) : bits .xor .u16 IntKind.u16.max a = 65535 - a := by
  rw [show IntKind.u16.max = 65535 from by decide, u16_xor 65535 a (by omega) (by omega) h0 (by omega)]
  rw [show (65535 : Int).toNat = 65535 from rfl, Nat.xor_comm, nat_not16 _ (by omega)]
  omega



/-- do two sums count alike? -/
def same (a b : Int) : Bool := decide (a % 65535 = b % 65535)


end Go.Proofs.Ytnbbaemijogeoaa
namespace Go.Proofs.Ytnbbaemijogeoaa
open Go.RowKit

def tot (ls : List (List UInt8)) (k : Nat) : List UInt8 := (ls.take k).flatten
theorem tot_succ (ls : List (List UInt8)) (k : Nat) (h : k < ls.length) : tot ls (k + 1) = tot ls k ++ ls.getD k [] := by
  unfold tot; rw [take_succ_getD ls k [] h]; simp
theorem tot_all (ls : List (List UInt8)) : tot ls ls.length = ls.flatten := by unfold tot; simp
theorem tot_le (ls : List (List UInt8)) (k : Nat) : (tot ls k).length ≤ ls.flatten.length := by
  have h := congrArg List.length (congrArg List.flatten (List.take_append_drop k ls))
  rw [List.flatten_append, List.length_append] at h
  unfold tot; omega

set_option maxHeartbeats 1000000 in
theorem sum_c (a : Option Addr) (n cap : Nat) (ls : List (List UInt8)) (w : World) (hp : Parts w a n cap ls) (hn : n ≤ 1000) (hb : ls.flatten.length ≤ 562949953421312) :
    Calls Try.prog 83 #[.slice a n cap] w fun e w' => e = .returned (.int .u16 (sumB ls.flatten)) ∧ w = w' := by
  go_enter Try.func83, Try.ntmps83
  go_wp2
  go_step3
  go_wp2
  go_step3
  go_wp2
  go_loopg [3, 4, 11] n (fun g v3 v4 v11 wx => ∃ k : Nat, k + g = n ∧ v3 = .int .u64 (raw true (tot ls k) : Int) ∧ v4 = .bool (side true (tot ls k).length) ∧ v11 = .int .i64 k ∧ w = wx)
  case atStart => exact ⟨0, by omega, rfl, rfl, rfl, rfl⟩
  case round =>
    obtain ⟨k, hkg, rfl, rfl, rfl, rfl⟩ := hrel
    have hrb := raw_bd true (tot ls k)
    have htl := tot_le ls k
    cases gk with
    | zero =>
      have hkn : ¬ ((k : Int) < (n : Int)) := by omega
      go_wp2_with (go_at_call 90; refine (fold_c _ (by omega) (by omega) _).mono ?_; rintro e w' ⟨rfl, rfl⟩)
      rw [Exit.noGoto_ret]
      go_ret
      refine ⟨ret_int ?_, rfl⟩
      have hk : k = ls.length := by have := hp.len; omega
      unfold sumB; rw [hk, tot_all]
    | succ g =>
      have hkn : (k : Int) < (n : Int) := by omega
      obtain ⟨b, off, rfl, hc⟩ := hp.cells (by omega)
      obtain ⟨x, m, c, hcell, hB⟩ := hc k (by omega)
      have hml := hB.len
      have hmr := hB.room
      have hts := hid (tot_succ ls k (by have := hp.len; omega))
      have hmx := tot_le ls (k + 1)
      rw [tot_succ ls k (by have := hp.len; omega), List.length_append, ← hml] at hmx
      by_cases hm : m = 0
      · subst hm
        have hnil : ls.getD k [] = [] := by cases h : ls.getD k [] with | nil => rfl | cons _ _ => rw [h] at hml; simp at hml
        have HN := hid hnil
        clear hnil hml hB hc
        go_wp2
        go_roundg g
        case measure => omega
        case rel => exact ⟨k + 1, by omega, by rw [hts.out, HN.out, List.append_nil], by rw [hts.out, HN.out, List.append_nil], by go_num, rfl⟩
      · have hm0 : ((m : Int) == 0) = false := by simp; omega
        obtain ⟨b2, off2, rfl, hc2⟩ := hB.at (by omega)
        have HM := hid hml
        clear hml hc hB hrb htl
        generalize hL : ls.getD k [] = L at *
        generalize hT : tot ls k = T at *
        clear hL hT
        go_wp2
        go_loopg [3, 4, 20] m (fun g2 v3 v4 v20 wx => ∃ j : Nat, j + g2 = m ∧ v3 = .int .u64 (raw true (T ++ L.take j) : Int) ∧ v4 = .bool (side true (T.length + j)) ∧ v20 = .int .i64 j ∧ w = wx)
        case atStart => exact ⟨0, by omega, by simp, by simp, rfl, rfl⟩
        case round =>
          obtain ⟨j, hjg, rfl, rfl, rfl, rfl⟩ := hrel
          cases gk with
          | zero =>
            have hjm : ¬ ((j : Int) < (m : Int)) := by omega
            go_wp2
            go_roundg g
            case measure => omega
            case rel =>
              have hj : j = L.length := by have := HM.out; omega
              exact ⟨k + 1, by omega, by rw [hts.out, hj, List.take_length], by rw [hts.out, hj, List.length_append], by go_num, rfl⟩
          | succ g2 =>
            have hjm : (j : Int) < (m : Int) := by omega
            have hcj := hc2 j (by omega)
            have hjL : j < L.length := by have := HM.out; omega
            have hsn := hid (show raw true (T ++ L.take (j + 1)) = raw true (T ++ L.take j) + (if side true (T.length + j) then (L.getD j 0).toNat * 256 else (L.getD j 0).toNat) by
              rw [take_succ_getD L j 0 hjL, ← List.append_assoc, raw_snoc]; simp [List.length_take, Nat.min_eq_left (Nat.le_of_lt hjL)])
            have hbd : 2 * raw true (T ++ L.take j) ≤ 65535 * 562949953421312 + 65025 := by
              have h1 := raw_bd true (T ++ L.take j)
              have h2 : (T ++ L.take j).length ≤ T.length + m := by simp only [List.length_append, List.length_take]; omega
              omega
            have hss := hid (side_succ true (T.length + j))
            have hx := (L.getD j 0).toNat_lt
            generalize hG : L.getD j 0 = y at *
            clear hG hc2 hjL
            cases hsd : side true (T.length + j)
            all_goals
              have HS := hid hsd
              clear hsd
              go_wp2
              go_roundg g2
              case measure => omega
              case rel =>
                refine ⟨j + 1, by omega, ?_, ?_, by go_num, rfl⟩
                · have e := hsn.out
                  rw [HS.out] at e
                  rw [e]
                  simp only [Bool.false_eq_true, if_false, if_true]
                  go_num
                · rw [← Nat.add_assoc, hss.out, HS.out]; rfl


theorem good_c (a : Option Addr) (n cap : Nat) (ls : List (List UInt8)) (w : World) (hp : Parts w a n cap ls) (hn : n ≤ 1000) (hb : ls.flatten.length ≤ 562949953421312) :
    Calls Try.prog 64 #[.slice a n cap] w fun e w' => e = .returned (.bool (sumB ls.flatten == 65535)) ∧ w = w' := by
  have hf := sumB_bd ls.flatten
  go_enter Try.func64, Try.ntmps64
  go_wp2_with (go_at_call 83; refine (sum_c _ _ _ _ _ hp hn hb).mono ?_; rintro e w' ⟨rfl, rfl⟩)
  go_ret
  exact ⟨rfl, rfl⟩
theorem sum_is (a : Option Addr) (n cap : Nat) (ls : List (List UInt8)) (s : Int) (w : World) (hs : sumB ls.flatten = s) (hp : Parts w a n cap ls) (hn : n ≤ 1000) (hb : ls.flatten.length ≤ 562949953421312) :
    Calls Try.prog 83 #[.slice a n cap] w fun e w' => e = .returned (.int .u16 s) ∧ w = w' := hs ▸ sum_c a n cap ls w hp hn hb
theorem good_is (a : Option Addr) (n cap : Nat) (ls : List (List UInt8)) (s : Bool) (w : World) (hs : (sumB ls.flatten == 65535) = s) (hp : Parts w a n cap ls) (hn : n ≤ 1000) (hb : ls.flatten.length ≤ 562949953421312) :
    Calls Try.prog 64 #[.slice a n cap] w fun e w' => e = .returned (.bool s) ∧ w = w' := hs ▸ good_c a n cap ls w hp hn hb
theorem sum_v {v : Value} {w : World} {ls : List (List UInt8)} (h : PartsV ls v w) (hb : ls.flatten.length ≤ 562949953421312) :
    Calls Try.prog 83 #[v] w fun e w' => e = .returned (.int .u16 (sumB ls.flatten)) ∧ w = w' := by
  obtain ⟨a, n, c, rfl, hn, hp⟩ := h
  exact sum_c a n c ls w hp hn hb

theorem sum_vis {v : Value} {w : World} {ls : List (List UInt8)} {s : Int} (hs : sumB ls.flatten = s) (h : PartsV ls v w) (hb : ls.flatten.length ≤ 562949953421312) :
    Calls Try.prog 83 #[v] w fun e w' => e = .returned (.int .u16 s) ∧ w = w' := hs ▸ sum_v h hb

theorem good_vis {v : Value} {w : World} {ls : List (List UInt8)} {s : Bool} (hs : (sumB ls.flatten == 65535) = s) (h : PartsV ls v w) (hb : ls.flatten.length ≤ 562949953421312) :
    Calls Try.prog 64 #[v] w fun e w' => e = .returned (.bool s) ∧ w = w' := by
  obtain ⟨a, n, c, rfl, hn, hp⟩ := h
  exact hs ▸ good_c a n c ls w hp hn hb
end Go.Proofs.Ytnbbaemijogeoaa
namespace Go.Proofs.Ytnbbaemijogeoaa
open Go.RowKit

theorem raw_take2 (l : List UInt8) (j : Nat) (h : j + 1 < l.length) (he : j % 2 = 0) :
    raw true (l.take (j + 2)) = raw true (l.take j) + ((l.getD j 0).toNat * 256 + (l.getD (j + 1) 0).toNat) := by
  rw [take_succ_getD l (j + 1) 0 h, take_succ_getD l j 0 (by omega), raw_snoc, raw_snoc]
  have e1 : (l.take j).length = j := by simp; omega
  have e2 : (l.take j ++ [l.getD j 0]).length = j + 1 := by simp; omega
  rw [e1, e2, side_succ, side, if_pos he]
  simp; omega
theorem raw_take1 (l : List UInt8) (j : Nat) (h : j + 1 = l.length) (he : j % 2 = 0) :
    raw true l = raw true (l.take j) + (l.getD j 0).toNat * 256 := by
  have e1 : (l.take j).length = j := by simp; omega
  have e := raw_snoc true (l.take j) (l.getD j 0)
  rw [← take_succ_getD l j 0 (by omega), h, List.take_length, e1, side, if_pos he] at e
  simpa using e

set_option maxHeartbeats 1000000 in
theorem refSum_c (a : Option Addr) (n cap : Nat) (l : List UInt8) (w : World) (hp : Bytes w a n cap l) :
    Calls Try.prog 78 #[.slice a n cap] w fun e w' => e = .returned (.int .i64 (sumB l)) ∧ w = w' := by
  have hl := hid hp.len
  have hle := hp.le
  have hroom := hp.room
  have hcap := hp.capr
  go_enter Try.func78, Try.ntmps78
  go_wp2
  go_loopg [3, 4] (n + 2) (fun g v3 v4 wx => ∃ j : Nat, n + 2 ≤ j + g ∧ j % 2 = 0 ∧ j ≤ n + 1 ∧ v3 = .int .i64 (fld (raw true (l.take j) : Int)) ∧ v4 = .int .i64 j ∧ w = wx)
  case atStart => exact ⟨0, by omega, rfl, by omega, by simp [fld], rfl, rfl⟩
  case round =>
    obtain ⟨j, hjg, hj2, hjn, rfl, rfl, rfl⟩ := hrel
    have hfb := fld_bd (raw true (l.take j) : Int)
    by_cases hlt : j < n
    · have hlt' : (j : Int) < (n : Int) := by omega
      obtain ⟨b, off, rfl, hc⟩ := hp.at (by omega)
      have hc0 := hc j hlt
      have hx := (l.getD j 0).toNat_lt
      obtain ⟨g, rfl⟩ : ∃ m, gk = m + 1 := ⟨gk - 1, by omega⟩
      have hl2 := hl.out
      by_cases hlt1 : j + 1 < n
      · have hlt1' : (j : Int) + 1 < (n : Int) := by omega
        have hc1 := hc (j + 1) hlt1
        have hx1 := (l.getD (j + 1) 0).toNat_lt
        have HR := hid (raw_take2 l j (by omega) hj2)
        have HJ := hid hj2
        clear hl2 hc hj2
        generalize l.getD j 0 = x0 at *
        generalize l.getD (j + 1) 0 = x1 at *
        go_wp2_with (go_at_call 87; refine (added_c _ (by omega) (by omega) _).mono ?_; rintro e w' ⟨rfl, rfl⟩)
        go_roundg g
        case measure => omega
        case rel =>
          refine ⟨j + 2, by omega, by have := HJ.out; omega, by omega, ?_, by go_num, rfl⟩
          rw [HR.out, fld_add _ _ (by omega) (by omega)]; go_num
      · have hlt1' : ¬ (j : Int) + 1 < (n : Int) := by omega
        have HR := hid (raw_take1 l j (by omega) hj2)
        have HJ := hid hj2
        clear hl2 hc hj2
        generalize l.getD j 0 = x0 at *
        go_wp2_with (go_at_call 87; refine (added_c _ (by omega) (by omega) _).mono ?_; rintro e w' ⟨rfl, rfl⟩)
        go_roundg g
        case measure => omega
        case rel =>
          refine ⟨j + 2, by omega, by have := HJ.out; omega, by omega, ?_, by go_num, rfl⟩
          rw [show l.take (j + 2) = l from List.take_of_length_le (by have := hl.out; omega), HR.out, fld_add _ _ (by omega) (by omega)]; go_num
    · have hlt' : ¬ (j : Int) < (n : Int) := by omega
      have HJ := hid hj2
      clear hj2
      go_wp2
      go_ret
      refine ⟨ret_int ?_, rfl⟩
      unfold sumB
      rw [List.take_of_length_le (by have := hl.out; omega)]

/-- a sum when bytes change, pair by pair -/
def chg : Int → List UInt8 → List UInt8 → Int
  | s, a :: b :: t, c :: d :: t' => chg (upd s (a.toNat * 256 + b.toNat : Nat) (c.toNat * 256 + d.toNat : Nat)) t t'
  | s, _, _ => s

theorem chg_bd (s : Int) (l m : List UInt8) (h : 0 ≤ s ∧ s ≤ 65535) : 0 ≤ chg s l m ∧ chg s l m ≤ 65535 := by
  fun_induction chg s l m with
  | case1 s a b t c d t' ih => exact ih (upd_bd _ _ _)
  | case2 s l m hne => exact h

theorem chg_take (s : Int) (l m : List UInt8) (k : Nat) (h : k % 2 = 0) (hl : k + 1 < l.length) (hm : k + 1 < m.length) :
    chg s (l.take (k + 2)) (m.take (k + 2)) = upd (chg s (l.take k) (m.take k)) ((l.getD k 0).toNat * 256 + (l.getD (k + 1) 0).toNat : Nat) ((m.getD k 0).toNat * 256 + (m.getD (k + 1) 0).toNat : Nat) := by
  obtain ⟨q, rfl⟩ : ∃ q, k = 2 * q := ⟨k / 2, by omega⟩
  clear h
  induction q generalizing s l m with
  | zero =>
    match l, m with
    | a :: b :: t, c :: d :: t' => simp [chg]
    | [], _ => simp at hl
    | [_], _ => simp at hl
    | _, [] => simp at hm
    | _, [_] => simp at hm
  | succ q ih =>
    match l, m with
    | a :: b :: t, c :: d :: t' =>
      simp only [List.length_cons] at hl hm
      have := ih (upd s (a.toNat * 256 + b.toNat : Nat) (c.toNat * 256 + d.toNat : Nat)) t t' (by omega) (by omega)
      rw [show 2 * (q + 1) = 2 * q + 2 from by omega]
      simpa [chg] using this
    | [], _ => simp at hl
    | [_], _ => simp at hl
    | _, [] => simp at hm
    | _, [_] => simp at hm

theorem or16 (x y : UInt8) : bits .or .u16 ((x.toNat : Int) * 256) (y.toNat : Int) = ((x.toNat * 256 + y.toNat : Nat) : Int) := by
  have hx := x.toNat_lt
  have hy := y.toNat_lt
  rw [u16_or _ _ (by omega) (by omega) (by omega) (by omega)]
  rw [show ((x.toNat : Int) * 256).toNat = x.toNat * 2 ^ 8 from by omega, Int.toNat_natCast]
  rw [show x.toNat * 2 ^ 8 = 2 ^ 8 * x.toNat from by omega, ← Nat.two_pow_add_eq_or_of_lt (by omega)]



end Go.Proofs.Ytnbbaemijogeoaa
namespace Go.Proofs.Ytnbbaemijogeoaa.Ae
open Go Go.RowKit

/-- parts: a literal list of slices of bytes -/
def partsOf : Nat → (Nat → List AVal) → Option (List (List UInt8))
  | 0, _ => some []
  | n + 1, f => match f 0 with
    | [.roB l] => match partsOf n (fun i => f (i + 1)) with
      | some r => some (l :: r)
      | none => none
    | [.nilS] => match partsOf n (fun i => f (i + 1)) with
      | some r => some ([] :: r)
      | none => none
    | _ => none
theorem partsOf_get : ∀ {n : Nat} {f : Nat → List AVal} {ls : List (List UInt8)}, partsOf n f = some ls → ls.length = n ∧ ∀ i, i < n → f i = [.roB (ls.getD i [])] ∨ (f i = [.nilS] ∧ ls.getD i [] = [])
  | 0, f, ls, h => by simp [partsOf] at h; subst h; exact ⟨rfl, fun i hi => by omega⟩
  | n + 1, f, ls, h => by
    simp only [partsOf] at h
    have aux : ∀ (l : List UInt8) (r : List (List UInt8)), partsOf n (fun i => f (i + 1)) = some r → ls = l :: r → (f 0 = [.roB l] ∨ (f 0 = [.nilS] ∧ l = [])) → ls.length = n + 1 ∧ ∀ i, i < n + 1 → f i = [.roB (ls.getD i [])] ∨ (f i = [.nilS] ∧ ls.getD i [] = []) := fun l r hr hls h0 => by
      obtain ⟨h1, h2⟩ := partsOf_get hr
      subst hls
      refine ⟨by simp [h1], fun i hi => ?_⟩
      cases i with
      | zero => simpa using h0
      | succ i => simpa using h2 i (by omega)
    split at h
    · rename_i l h0
      split at h
      · rename_i r hr; cases h; exact aux l r hr rfl (.inl h0)
      · cases h
    · rename_i h0
      split at h
      · rename_i r hr; cases h; exact aux [] r hr rfl (.inr ⟨h0, rfl⟩)
      · cases h
    · cases h

section
variable {R : Nat → Prop} {w : World} {m : Mp} {H : Hp}
theorem bytes_of {l : List UInt8} {v : Value} (h : VR R w m H (.roB l) v) : ∃ a c, v = .slice a l.length c ∧ Bytes w a l.length c l := by
  cases h with
  | roB l a c g off h1 h2 h3 h4 h5 =>
    refine ⟨a, c, rfl, by simp, h1, h3, h2, fun hp => ⟨g, off, (h4 hp).1, fun i hi => ?_⟩⟩
    rw [h5 i _ (List.getElem?_eq_getElem hi)]
    simp [hi, B8]
theorem parts_of {n : Nat} {f : Nat → List AVal} {v : Value} {ls : List (List UInt8)} (h : VR R w m H (.ro n 1 f) v) (hf : partsOf n f = some ls) (hn : n ≤ 1000) : PartsV ls v w := by
  obtain ⟨g1, g2⟩ := partsOf_get hf
  cases h with
  | ro n sz f a c g off X h1 h2 h3 h4 h5 h6 h7 =>
    refine ⟨a, n, c, rfl, hn, g1.symm, fun hp => ⟨g, off, (h4 hp).1, fun i hi => ?_⟩⟩
    rcases g2 i hi with e | ⟨e, e2⟩
    · have k5 := h5 i 0 (.roB (ls.getD i [])) hi (by rw [e]; rfl)
      have k6 := h6 i 0 (.roB (ls.getD i [])) hi (by rw [e]; rfl)
      obtain ⟨x, c', hx, hB⟩ := bytes_of k6
      rw [hx] at k5
      refine ⟨x, _, c', by simpa using k5.1, hB⟩
    · have k5 := h5 i 0 .nilS hi (by rw [e]; rfl)
      have k6 := h6 i 0 .nilS hi (by rw [e]; rfl)
      generalize X i 0 = x at k5 k6
      cases k6
      refine ⟨none, 0, 0, by simpa using k5.1, ?_⟩
      rw [e2]
      exact ⟨rfl, Nat.le_refl _, by omega, by omega, fun h => absurd h (by omega)⟩
end

/-- a row over parts -/
def partsRow (g : List (List UInt8) → AVal) (args : List AVal) (H : Hp) (K : AVal → Hp → Prop) : Prop := match args, H with
  | [.ro n sz f], [] => cond (Nat.beq sz 1) (match partsOf n f with
    | some ls => (n ≤ 1000 ∧ ls.flatten.length ≤ 562949953421312) ∧ K (g ls) []
    | none => False) False
  | _, _ => False

theorem partsRow_sound {P : Program} {f : Nat} {g : List (List UInt8) → AVal} {r : List (List UInt8) → Value} (hg : ∀ ls R w m H, VR R w m H (g ls) (r ls)) (hfn : ∃ fn, P.funcs[f]? = some fn ∧ (fn.name == "runtime.NumGoroutine") = false ∧ fn.body.isNone = false)
    (hc : ∀ (v : Value) (w : World) (ls : List (List UInt8)), PartsV ls v w → ls.flatten.length ≤ 562949953421312 → Calls P f #[v] w fun e w' => e = .returned (r ls) ∧ w = w')
    {args : List AVal} {H : Hp} {K : AVal → Hp → Prop} (h : partsRow g args H K) : ∃ v H', K v H' ∧ Gives P f args H v H' := by
  unfold partsRow at h
  split at h
  · rename_i n sz q
    cases hs : Nat.beq sz 1 with
    | false => rw [hs] at h; exact h.elim
    | true =>
      rw [hs] at h
      obtain rfl := Nat.eq_of_beq_eq_true hs
      simp only [cond_true] at h
      split at h
      · rename_i ls hl
        obtain ⟨⟨h1, h2⟩, h3⟩ := h
        refine ⟨g ls, [], h3, hfn, fun R w m xs hS hx => ?_⟩
        obtain ⟨u, rfl, hu⟩ := hx.one
        refine (hc u w ls (parts_of hu hl h1) h2).mono ?_
        rintro e w' ⟨he, rfl⟩
        exact ⟨R, m, r ls, he, .refl hS, hg ls R w m []⟩
      · exact h.elim
  · exact h.elim

theorem sum_row {args : List AVal} {H : Hp} {K : AVal → Hp → Prop} (h : partsRow (fun ls => .int .u16 (sumB ls.flatten)) args H K) : ∃ v H', K v H' ∧ Gives Try.prog 83 args H v H' :=
  partsRow_sound (r := fun ls => .int .u16 (sumB ls.flatten)) (fun _ _ _ _ _ => .int _ _) ⟨_, Try.func83, by decide +kernel, rfl⟩ (fun _ _ _ hp hb => sum_v hp hb) h
theorem good_row {args : List AVal} {H : Hp} {K : AVal → Hp → Prop} (h : partsRow (fun ls => .bool (sumB ls.flatten == 65535)) args H K) : ∃ v H', K v H' ∧ Gives Try.prog 64 args H v H' :=
  partsRow_sound (r := fun ls => .bool (sumB ls.flatten == 65535)) (fun _ _ _ _ _ => .bool _) ⟨_, Try.func64, by decide +kernel, rfl⟩ (fun _ _ _ hp hb => good_vis rfl hp hb) h

/-- a row over bytes -/
def bytesRow (g : List UInt8 → AVal) (args : List AVal) (H : Hp) (K : AVal → Hp → Prop) : Prop := match args, H with
  | [.roB l], [] => K (g l) []
  | [.nilS], [] => K (g []) []
  | _, _ => False
theorem bytesRow_sound {P : Program} {f : Nat} {g : List UInt8 → AVal} {r : List UInt8 → Value} (hg : ∀ l R w m H, VR R w m H (g l) (r l)) (hfn : ∃ fn, P.funcs[f]? = some fn ∧ (fn.name == "runtime.NumGoroutine") = false ∧ fn.body.isNone = false)
    (hc : ∀ (a : Option Addr) (n cap : Nat) (l : List UInt8) (w : World), Bytes w a n cap l → Calls P f #[.slice a n cap] w fun e w' => e = .returned (r l) ∧ w = w')
    {args : List AVal} {H : Hp} {K : AVal → Hp → Prop} (h : bytesRow g args H K) : ∃ v H', K v H' ∧ Gives P f args H v H' := by
  unfold bytesRow at h
  split at h
  · rename_i l
    refine ⟨g l, [], h, hfn, fun R w m xs hS hx => ?_⟩
    obtain ⟨u, rfl, hu⟩ := hx.one
    obtain ⟨a, c, rfl, hB⟩ := bytes_of hu
    refine (hc a _ c l w hB).mono ?_
    rintro e w' ⟨he, rfl⟩
    exact ⟨R, m, r l, he, .refl hS, hg l R w m []⟩
  · refine ⟨g [], [], h, hfn, fun R w m xs hS hx => ?_⟩
    obtain ⟨u, rfl, hu⟩ := hx.one
    cases hu
    refine (hc none 0 0 [] w ⟨rfl, Nat.le_refl _, by omega, by omega, fun h => absurd h (by omega)⟩).mono ?_
    rintro e w' ⟨he, rfl⟩
    exact ⟨R, m, r [], he, .refl hS, hg [] R w m []⟩
  · exact h.elim
theorem refSum_row {args : List AVal} {H : Hp} {K : AVal → Hp → Prop} (h : bytesRow (fun l => .int .i64 (sumB l)) args H K) : ∃ v H', K v H' ∧ Gives Try.prog 78 args H v H' :=
  bytesRow_sound (r := fun l => .int .i64 (sumB l)) (fun _ _ _ _ _ => .int _ _) ⟨_, Try.func78, by decide +kernel, rfl⟩ (fun a n c l w hB => refSum_c a n c l w hB) h

end Go.Proofs.Ytnbbaemijogeoaa.Ae
namespace Go.Proofs.Ytnbbaemijogeoaa.Ae
open Go
theorem mixed : Try.prog.follows .mixedOrders = true := by kernel_rfl
def Tck1 : Specs := ext noT 64 (partsRow (fun ls => .bool (sumB ls.flatten == 65535)))
theorem Tck1_sound : TSound Try.prog Tck1 := ext_sound noT_sound ((fun _ _ _ h => good_row h))
abbrev Tck2 : Specs := Tck1
theorem Tck2_sound : TSound Try.prog Tck2 := Tck1_sound
def Tck3 : Specs := ext Tck2 83 (partsRow (fun ls => .int .u16 (sumB ls.flatten)))
theorem Tck3_sound : TSound Try.prog Tck3 := ext_sound Tck2_sound ((fun _ _ _ h => sum_row h))
def Tck4 : Specs := ext Tck3 78 (bytesRow (fun l => .int .i64 (sumB l)))
theorem Tck4_sound : TSound Try.prog Tck4 := ext_sound Tck3_sound ((fun _ _ _ h => refSum_row h))
def ann_outriderref01_Put : Nat → List Nat × Nat × List (List Nat)
  | _ => ([], 0, [])
def Tck5 : Specs := ext Tck4 50 (fnP Try.prog Tck4 ann_outriderref01_Put Try.f50)
theorem Tck5_sound : TSound Try.prog Tck5 := ext_sound Tck4_sound (fn_row Tck4_sound mixed Try.func50 (by decide +kernel))
abbrev Tck : Specs := Tck5
theorem Tck_sound : TSound Try.prog Tck := Tck5_sound
end Go.Proofs.Ytnbbaemijogeoaa.Ae

namespace Go.Proofs.Ytnbbaemijogeoaa
open Go.RowKit

theorem or_256 (x y : Nat) (hy : y < 256) : x * 256 ||| y = x * 256 + y := by
  have h := Nat.two_pow_add_eq_or_of_lt (i := 8) (b := y) hy x
  rw [show 2 ^ 8 * x = x * 256 by omega] at h
  exact h.symm

theorem i64_or_nat (a b : Nat) (ha : a < 9223372036854775808) (hb : b < 9223372036854775808) : bits .or .i64 (a : Int) (b : Int) = ((a ||| b : Nat) : Int) := by
  have hx : a ||| b < 2 ^ 63 := Nat.or_lt_two_pow (by omega) (by omega)
  have h : ∀ n : Nat, n < 9223372036854775808 → (BitVec.ofInt 64 (n : Int)).toNat = n := fun n hn => by
    rw [BitVec.ofInt_natCast, BitVec.toNat_ofNat]; exact Nat.mod_eq_of_lt (by omega)
  show IntKind.i64.wrap ((BitVec.ofInt 64 (a : Int) ||| BitVec.ofInt 64 (b : Int)).toNat : Int) = _
  rw [BitVec.toNat_or, h a ha, h b hb, IntKind.wrap_i64]
  omega

theorem or_two (x y : UInt8) : bits BinOp.or IntKind.i64 (wrap64 (wrap64 (x.toNat : Int) * 256)) (wrap64 (y.toNat : Int)) = ((x.toNat * 256 + y.toNat : Nat) : Int) := by
  have hx := x.toNat_lt
  have hy := y.toNat_lt
  have e1 : wrap64 (x.toNat : Int) = (x.toNat : Int) := by unfold wrap64; omega
  have e2 : wrap64 ((x.toNat : Int) * 256) = ((x.toNat * 256 : Nat) : Int) := by unfold wrap64; omega
  have e3 : wrap64 (y.toNat : Int) = (y.toNat : Int) := by unfold wrap64; omega
  rw [e1, e2, e3, i64_or_nat _ _ (by omega) (by omega), or_256 _ _ hy]
theorem add_two (x y : UInt8) : wrap64 (wrap64 (wrap64 (x.toNat : Int) * 256) + wrap64 (y.toNat : Int)) = ((x.toNat * 256 + y.toNat : Nat) : Int) := by
  have hx := x.toNat_lt
  have hy := y.toNat_lt
  unfold wrap64
  omega
end Go.Proofs.Ytnbbaemijogeoaa
set_option linter.unusedSimpArgs false
set_option linter.unusedVariables false
namespace Go.Proofs.Ytnbbaemijogeoaa
def w16 (a b : UInt8) : Int := (a.toNat : Int) * 256 + (b.toNat : Int)
theorem w16_bd (a b : UInt8) : 0 ≤ w16 a b ∧ w16 a b ≤ 65535 := by
  have := a.toNat_lt
  have := b.toNat_lt
  unfold w16; omega
namespace Ae
open Go

theorem or_w16 (x y : UInt8) : bits BinOp.or IntKind.i64 ((x.toNat : Int) * 256) (y.toNat : Int) = w16 x y := by
  have hx := x.toNat_lt
  have hy := y.toNat_lt
  rw [show ((x.toNat : Int) * 256) = ((x.toNat * 256 : Nat) : Int) by omega, i64_or_nat _ _ (by omega) (by omega), or_256 _ _ hy]
  unfold w16; omega
theorem add_w16 (x y : UInt8) : (x.toNat : Int) * 256 + (y.toNat : Int) = w16 x y := rfl
theorem i64_w16 (x y : UInt8) : I64 (w16 x y) := by
  have := w16_bd x y
  unfold I64; omega
theorem i64_w16' (x y : UInt8) (n : Int) (h : 0 ≤ n ∧ n ≤ 100000000) : I64 (n + w16 x y) := by
  have := w16_bd x y
  unfold I64; omega
theorem div2 (n : Int) : n / 256 / 256 = n / 65536 := by omega
theorem div3 (n : Int) : n / 65536 / 256 = n / 16777216 := by omega
theorem i64_sum (l : List UInt8) : I64 (65535 - sumB l) := by
  have := sumB_bd l
  unfold I64; omega
theorem ofNat_div (x y : UInt8) (n : Nat) : (UInt8.ofNat (x.toNat / n) = y) ↔ x.toNat / n = y.toNat := by
  have hx := x.toNat_lt
  have h2 : x.toNat / n ≤ x.toNat := Nat.div_le_self _ _
  rw [← UInt8.toNat_inj, UInt8.toNat_ofNat_of_lt' (show x.toNat / n < 256 by omega)]
theorem u8_and15 (x y : UInt8) : (x &&& 15 = y) ↔ x.toNat % 16 = y.toNat := by
  rw [← UInt8.toNat_inj, UInt8.toNat_and, show (15 : UInt8).toNat = 15 by rfl, nat_mask4]
theorem i64_x256 (x : UInt8) : I64 ((x.toNat : Int) * 256) := by
  have := x.toNat_lt
  unfold I64; omega
theorem getD_drop (l : List UInt8) (n i : Nat) (d : UInt8) : (l.drop n).getD i d = l.getD (n + i) d := by
  simp [List.getD_eq_getElem?_getD, List.getElem?_drop]
theorem getD_take (l : List UInt8) (n i : Nat) (d : UInt8) (h : i < n) : (l.take n).getD i d = l.getD i d := by
  simp [List.getD_eq_getElem?_getD, List.getElem?_take, h]
theorem nat_andNot_i64 (a b : Nat) (ha : a < 9223372036854775808) (hb : b < 9223372036854775808) : bits BinOp.andNot IntKind.i64 (a : Int) (b : Int) = ((a &&& (18446744073709551615 - b) : Nat) : Int) := by
  have h : ∀ n : Nat, n < 9223372036854775808 → (BitVec.ofInt 64 (n : Int)).toNat = n := fun n hn => by
    rw [BitVec.ofInt_natCast, BitVec.toNat_ofNat]; exact Nat.mod_eq_of_lt (by omega)
  have hx : a &&& (18446744073709551615 - b) ≤ a := Nat.and_le_left
  show IntKind.i64.wrap ((BitVec.ofInt 64 (a : Int) &&& ~~~ BitVec.ofInt 64 (b : Int)).toNat : Int) = _
  rw [BitVec.toNat_and, BitVec.toNat_not, h a ha, h b hb, IntKind.wrap_i64]
  simp only [show 2 ^ 64 - 1 - b = 18446744073709551615 - b by omega]
  omega
theorem andNot_4000 (x y : UInt8) : bits BinOp.andNot IntKind.i64 (w16 x y) 16384 = 0 ↔ y = 0 ∧ (x = 0 ∨ x = 64) := by
  have hx := x.toNat_lt
  have hy := y.toNat_lt
  have e : w16 x y = ((x.toNat * 256 + y.toNat : Nat) : Int) := by unfold w16; omega
  rw [e, show (16384 : Int) = ((16384 : Nat) : Int) by rfl, nat_andNot_i64 _ _ (by omega) (by omega)]
  generalize hw : x.toNat * 256 + y.toNat = w
  have m1 : (w &&& (18446744073709551615 - 16384)) % 2 ^ 8 = (w % 2 ^ 8) &&& ((18446744073709551615 - 16384) % 2 ^ 8) := Nat.and_mod_two_pow
  have m2 : (w &&& (18446744073709551615 - 16384)) / 2 ^ 8 = (w / 2 ^ 8) &&& ((18446744073709551615 - 16384) / 2 ^ 8) := Nat.and_div_two_pow
  rw [show w % 2 ^ 8 = y.toNat by omega, show (18446744073709551615 - 16384) % 2 ^ 8 = 255 by rfl, nat_mask8] at m1
  rw [show w / 2 ^ 8 = x.toNat by omega, show (18446744073709551615 - 16384) / 2 ^ 8 = 72057594037927871 by rfl] at m2
  have m3 : ∀ z : Nat, z < 256 → (z &&& 72057594037927871 = 0 ↔ z = 0 ∨ z = 64) := by decide +kernel
  have m4 := m3 x.toNat hx
  have u1 : y = 0 ↔ y.toNat = 0 := ⟨fun h => by rw [h]; rfl, fun h => UInt8.toNat_inj.1 h⟩
  have u2 : x = 0 ↔ x.toNat = 0 := ⟨fun h => by rw [h]; rfl, fun h => UInt8.toNat_inj.1 h⟩
  have u3 : x = 64 ↔ x.toNat = 64 := ⟨fun h => by rw [h]; rfl, fun h => UInt8.toNat_inj.1 h⟩
  rw [u1, u2, u3, ← m4, ← m2]
  generalize w &&& (18446744073709551615 - 16384) = v at *
  omega
theorem and255 (n : Int) : bits BinOp.and IntKind.i64 n 255 = n % 256 := by
  show IntKind.i64.wrap ((BitVec.ofInt 64 n &&& BitVec.ofInt 64 255).toNat : Int) = _
  rw [BitVec.toNat_and, BitVec.toNat_ofInt, show (BitVec.ofInt 64 255).toNat = 255 by rfl, nat_mask8, IntKind.wrap_i64]
  omega
theorem b8_mod (n : Int) : b8 (n % 256) = b8 n := by
  unfold b8
  rw [Int.emod_emod_of_dvd _ (by omega)]
theorem b8_byte (x : UInt8) : b8 (x.toNat : Int) = x := by
  have := x.toNat_lt
  unfold b8
  rw [show (((x.toNat : Int) % 256).toNat) = x.toNat by omega]
  simp
theorem b8_toNat (n : Int) : ((b8 n).toNat : Int) = n % 256 := by
  unfold b8
  have h1 : 0 ≤ n % 256 := by omega
  have h2 : (n % 256).toNat < 256 := by omega
  rw [UInt8.toNat_ofNat_of_lt' h2]; omega
theorem b8_toNatN (n : Int) : (b8 n).toNat = (n % 256).toNat := by
  have := b8_toNat n
  omega
theorem b8_div (x y : UInt8) (n : Int) (hn : 0 < n) : (b8 ((x.toNat : Int) / n) = y) ↔ (x.toNat : Int) / n = (y.toNat : Int) := by
  have h1 := b8_toNat ((x.toNat : Int) / n)
  have hx := x.toNat_lt
  have h2 : 0 ≤ (x.toNat : Int) / n := Int.ediv_nonneg (by omega) (by omega)
  have h3 : (x.toNat : Int) / n ≤ x.toNat := Int.ediv_le_self _ (by omega)
  rw [← UInt8.toNat_inj]
  generalize b8 ((x.toNat : Int) / n) = z at *
  omega
theorem nat_240 (x : UInt8) : x.toNat &&& 240 = x.toNat / 16 * 16 := by
  have h : ∀ n : Nat, n < 256 → n &&& 240 = n / 16 * 16 := by decide +kernel
  exact h _ x.toNat_lt
theorem dtd (b : List UInt8) (a c k : Nat) : List.drop a (List.take c (List.drop k b)) = List.drop (k + a) (List.take (k + c) b) := by
  rw [List.take_drop, List.drop_drop]
theorem u8_eq_iff (x y : UInt8) : x = y ↔ x.toNat = y.toNat := UInt8.toNat_inj.symm
theorem u8_and_toNat (x y : UInt8) : (x &&& y).toNat = x.toNat &&& y.toNat := UInt8.toNat_and x y
end Ae
end Go.Proofs.Ytnbbaemijogeoaa
namespace Go.Proofs.Ytnbbaemijogeoaa
open Ae (b8)

structure Ip where
  src : List UInt8
  dst : List UInt8
  proto : Int
  ttl : Int
  body : List UInt8
deriving DecidableEq
def noIp : Ip := ⟨[], [], 0, 0, []⟩
def rightA (a : List UInt8) : Bool := decide (a.length = 4) || decide (a.length = 16)

def ipOk (p : Ip) : Bool :=
  rightA p.src && decide (p.dst.length = p.src.length) && decide (0 ≤ p.proto) && decide (p.proto ≤ 255) && decide (0 ≤ p.ttl) && decide (p.ttl ≤ 255) &&
    decide (p.body.length + (if p.src.length = 16 then 40 else 20) ≤ 1500)
def ipHead4 (p : Ip) : List UInt8 :=
  [69, 0, b8 ((20 + (p.body.length : Int)) / 256), b8 (20 + (p.body.length : Int)), 0, 0, 64, 0, b8 p.ttl, b8 p.proto, 0, 0] ++ p.src ++ p.dst
def ipSum4 (p : Ip) : Int := 65535 - sumB (ipHead4 p)
def ipBytes4 (p : Ip) : List UInt8 := ((ipHead4 p).set 10 (b8 (ipSum4 p / 256))).set 11 (b8 (ipSum4 p)) ++ p.body
def ipBytes6 (p : Ip) : List UInt8 :=
  [96, 0, 0, 0, b8 ((p.body.length : Int) / 256), b8 (p.body.length : Int), b8 p.proto, b8 p.ttl] ++ p.src ++ p.dst ++ p.body
def ipBytes (p : Ip) : List UInt8 := if p.src.length = 16 then ipBytes6 p else ipBytes4 p
def ipEncode (p : Ip) : Option (List UInt8) := if ipOk p then some (ipBytes p) else none

theorem ipOk_iff (p : Ip) : ipOk p = true ↔ ((p.src.length = 4 ∧ p.body.length ≤ 1480) ∨ (p.src.length = 16 ∧ p.body.length ≤ 1460)) ∧ p.dst.length = p.src.length ∧ 0 ≤ p.proto ∧ p.proto ≤ 255 ∧ 0 ≤ p.ttl ∧ p.ttl ≤ 255 := by
  unfold ipOk rightA
  simp only [Bool.and_eq_true, Bool.or_eq_true, decide_eq_true_eq]
  constructor
  · rintro ⟨⟨⟨⟨⟨⟨h1 | h1, h2⟩, h3⟩, h4⟩, h5⟩, h6⟩, h7⟩
    · rw [if_neg (by omega)] at h7; exact ⟨.inl ⟨h1, by omega⟩, h2, h3, h4, h5, h6⟩
    · rw [if_pos h1] at h7; exact ⟨.inr ⟨h1, by omega⟩, h2, h3, h4, h5, h6⟩
  · rintro ⟨⟨h1, h7⟩ | ⟨h1, h7⟩, h2, h3, h4, h5, h6⟩
    · exact ⟨⟨⟨⟨⟨⟨.inl h1, h2⟩, h3⟩, h4⟩, h5⟩, h6⟩, by rw [if_neg (by omega)]; omega⟩
    · exact ⟨⟨⟨⟨⟨⟨.inr h1, h2⟩, h3⟩, h4⟩, h5⟩, h6⟩, by rw [if_pos h1]; omega⟩
theorem ipEnc_cases {p : Ip} {k : List UInt8 → Prop} {d : Prop} (h : Ae.optP (ipEncode p) k d) : (ipOk p = true ∧ k (ipBytes p)) ∨ (¬ ipOk p = true ∧ d) := by
  unfold ipEncode at h
  split at h
  · rename_i h1; exact .inl ⟨h1, h⟩
  · rename_i h1; exact .inr ⟨h1, h⟩

def ipDec4 (l : List UInt8) : Ip × Int :=
  if l.length < 20 then (noIp, 30)
  else if (l.getD 0 0).toNat % 16 ≠ 5 then (noIp, 32)
  else if w16 (l.getD 2 0) (l.getD 3 0) < 20 ∨ (l.length : Int) < w16 (l.getD 2 0) (l.getD 3 0) then (noIp, 33)
  else if sumB (l.take 20) ≠ 65535 then (noIp, 34)
  else if (l.getD 7 0).toNat ≠ 0 ∨ ((l.getD 6 0).toNat ≠ 0 ∧ (l.getD 6 0).toNat ≠ 64) then (noIp, 32)
  else (⟨(l.take 16).drop 12, (l.take 20).drop 16, (l.getD 9 0).toNat, (l.getD 8 0).toNat, (l.take (w16 (l.getD 2 0) (l.getD 3 0)).toNat).drop 20⟩, 0)
def ipDec6 (l : List UInt8) : Ip × Int :=
  if l.length < 40 then (noIp, 30)
  else if (l.length : Int) < 40 + w16 (l.getD 4 0) (l.getD 5 0) then (noIp, 33)
  else (⟨(l.take 24).drop 8, (l.take 40).drop 24, (l.getD 6 0).toNat, (l.getD 7 0).toNat, (l.take (40 + w16 (l.getD 4 0) (l.getD 5 0)).toNat).drop 40⟩, 0)
def ipDecode (l : List UInt8) : Ip × Int :=
  if l.length = 0 then (noIp, 30)
  else if (l.getD 0 0).toNat / 16 = 4 then ipDec4 l
  else if (l.getD 0 0).toNat / 16 = 6 then ipDec6 l
  else (noIp, 31)

def pseudoB (src dst : List UInt8) (proto long : Int) : List UInt8 :=
  if src.length = 16 then src ++ dst ++ [b8 (long / 16777216), b8 (long / 65536), b8 (long / 256), b8 long, 0, 0, 0, b8 proto]
  else src ++ dst ++ [0, b8 proto, b8 (long / 256), b8 long]
def pseudo (src dst : List UInt8) (proto long : Int) : Option (List UInt8) :=
  if (src.length = 4 ∨ src.length = 16) ∧ dst.length = src.length then some (pseudoB src dst proto long) else none
theorem pseudo_cases {src dst : List UInt8} {proto long : Int} {k : List UInt8 → Prop} {d : Prop} (h : Ae.optP (pseudo src dst proto long) k d) :
    (((src.length = 4 ∨ src.length = 16) ∧ dst.length = src.length) ∧ k (pseudoB src dst proto long)) ∨ (¬ ((src.length = 4 ∨ src.length = 16) ∧ dst.length = src.length) ∧ d) := by
  unfold pseudo at h
  split at h
  · rename_i h1; exact .inl ⟨h1, h⟩
  · rename_i h1; exact .inr ⟨h1, h⟩
end Go.Proofs.Ytnbbaemijogeoaa
set_option linter.unusedSimpArgs false
set_option linter.unusedVariables false
namespace Go.Proofs.Ytnbbaemijogeoaa.Ae
open Go
attribute [local irreducible] I64

/-- bytes to a packet -/
def ipRow (f : List UInt8 → Ip × Int) : Srow := fun args H K => match args, H with
  | [.roB l], [] => K (.tup [.agg [.str (f l).1.src, .str (f l).1.dst, .int .i64 (f l).1.proto, .int .i64 (f l).1.ttl, .str (f l).1.body], .int .i64 (f l).2]) []
  | [.nilS], [] => K (.tup [.agg [.str (f []).1.src, .str (f []).1.dst, .int .i64 (f []).1.proto, .int .i64 (f []).1.ttl, .str (f []).1.body], .int .i64 (f []).2]) []
  | _, _ => False
def ipRow' (f : List UInt8 → Ip × Int) : Srow := fun args H K => match args, H with
  | [.roB l], [] => K (.tup [.agg [.str (f l).1.src, .str (f l).1.dst, .int .i64 (f l).1.proto, .int .i64 (f l).1.ttl, .str (f l).1.body], .int .i64 (f l).2]) []
  | _, _ => False
def ipRowB (f : List UInt8 → Ip × Int) : Srow := fun args H K => match args, H with
  | [.roB l], [] => l.length ≤ 140737488355328 ∧ K (.tup [.agg [.str (f l).1.src, .str (f l).1.dst, .int .i64 (f l).1.proto, .int .i64 (f l).1.ttl, .str (f l).1.body], .int .i64 (f l).2]) []
  | [.nilS], [] => K (.tup [.agg [.str (f []).1.src, .str (f []).1.dst, .int .i64 (f []).1.proto, .int .i64 (f []).1.ttl, .str (f []).1.body], .int .i64 (f []).2]) []
  | _, _ => False
def ipRowB' (f : List UInt8 → Ip × Int) : Srow := fun args H K => match args, H with
  | [.roB l], [] => l.length ≤ 140737488355328 ∧ K (.tup [.agg [.str (f l).1.src, .str (f l).1.dst, .int .i64 (f l).1.proto, .int .i64 (f l).1.ttl, .str (f l).1.body], .int .i64 (f l).2]) []
  | _, _ => False
/-- a packet to bytes -/
def ipEncRow : Srow := fun args H K => match args, H with
  | [.agg [.str f, .str t, .int .i64 p, .int .i64 q, .str b]], [] => optP (ipEncode ⟨f, t, p, q, b⟩) (fun l => K (.tup [.sl 0 0 l.length 1, .int .i64 0]) [.bytes l]) (K (.tup [.nilS, .int .i64 1]) [])
  | _, _ => False
def pseudoRow : Srow := fun args H K => match args, H with
  | [.str f, .str t, .int .i64 p, .int .i64 n], [] => optP (pseudo f t p n) (fun l => K (.sl 0 0 l.length 1) [.bytes l]) (K .nilS [])
  | _, _ => False
def ann_ipv_Six : Nat → List Nat × Nat × List (List Nat)
  | _ => ([], 0, [])
def Tip1 : Specs := ext Tck 34 (fnP Try.prog Tck ann_ipv_Six Try.f34)
theorem Tip1_sound : TSound Try.prog Tip1 := ext_sound Tck_sound (fn_row Tck_sound mixed Try.func34 (by decide +kernel))
def ann_ipv_Right : Nat → List Nat × Nat × List (List Nat)
  | _ => ([], 0, [])
def Tip2 : Specs := ext Tip1 59 (fnP Try.prog Tip1 ann_ipv_Right Try.f59)
theorem Tip2_sound : TSound Try.prog Tip2 := ext_sound Tip1_sound (fn_row Tip1_sound mixed Try.func59 (by decide +kernel))
abbrev Tip3 : Specs := Tip2
theorem Tip3_sound : TSound Try.prog Tip3 := Tip2_sound
abbrev Tip4 : Specs := Tip3
theorem Tip4_sound : TSound Try.prog Tip4 := Tip3_sound
def ann_ipv_two : Nat → List Nat × Nat × List (List Nat)
  | 1 => ([], 10, [[], [0], [0, 1], [0, 1, 2], [0, 1, 2, 3], [], [5], [5, 6], [5, 6, 7], [0, 1, 2, 3, 4, 5, 6, 7, 8]])
  | _ => ([], 0, [])
def Tip5 : Specs := ext Tip4 82 (fnP Try.prog Tip4 ann_ipv_two Try.f82)
theorem Tip5_sound : TSound Try.prog Tip5 := ext_sound Tip4_sound (fn_row Tip4_sound mixed Try.func82 (by decide +kernel))
def ann_outriderref03_Right : Nat → List Nat × Nat × List (List Nat)
  | _ => ([], 0, [])
def Tip6 : Specs := ext Tip5 49 (fnP Try.prog Tip5 ann_outriderref03_Right Try.f49)
theorem Tip6_sound : TSound Try.prog Tip6 := ext_sound Tip5_sound (fn_row Tip5_sound mixed Try.func49 (by decide +kernel))
def lowRow : Srow := fun args H K => match args, H with
  | [.int .i64 n, .int .i64 1], [] => K (.sl 0 0 1 1) [.bytes [b8 n]]
  | [.int .i64 n, .int .i64 2], [] => K (.sl 0 0 2 1) [.bytes [b8 (n / 256), b8 n]]
  | [.int .i64 n, .int .i64 4], [] => K (.sl 0 0 4 1) [.bytes [b8 (n / 16777216), b8 (n / 65536), b8 (n / 256), b8 n]]
  | _, _ => False
def ann_outriderref03_low : Nat → List Nat × Nat × List (List Nat)
  | 3 => ([0, 1, 5, 6], 0, [])
  | 1000003 => ([], 6, [])
  | _ => ([], 0, [])
set_option maxRecDepth 100000 in
theorem ref03_low_1 (n : Int) (K : AVal → Hp → Prop) : fnP Try.prog Tip6 ann_outriderref03_low Try.f79 [.int .i64 n, .int .i64 1] [] K = (
 ((0 : Int) ≤ (1 : Int) ∧ (1 : Int) = (1 : Int) ∧ (1 : Int) ≤ (140737488355328 : Int)) ∧ I64 (0 : Int) ∧ I64 (0 : Int) ∧ ((0 : Int) ≤ (0 : Int) ∧ (0 : Int) < (1 : Int)) ∧ (0 : Nat) < (1 : Nat) ∧ ((0 : Int) ≤ (8 : Int) ∧ (8 : Nat) < (64 : Nat)) ∧ I64 (1 : Int) ∧ K (.sl (0 : Nat) (0 : Nat) (1 : Nat) (1 : Nat)) [.bytes (List.set [(0 : UInt8)] (0 : Nat) (b8 (bits BinOp.and IntKind.i64 n (255 : Int))))]) := by kernel_rfl
set_option maxRecDepth 100000 in
theorem ref03_low_2 (n : Int) (K : AVal → Hp → Prop) : fnP Try.prog Tip6 ann_outriderref03_low Try.f79 [.int .i64 n, .int .i64 2] [] K = (
 ((0 : Int) ≤ (2 : Int) ∧ (2 : Int) = (2 : Int) ∧ (2 : Int) ≤ (140737488355328 : Int)) ∧ I64 (1 : Int) ∧ I64 (1 : Int) ∧ ((0 : Int) ≤ (1 : Int) ∧ (1 : Int) < (2 : Int)) ∧ (1 : Nat) < (2 : Nat) ∧ ((0 : Int) ≤ (8 : Int) ∧ (8 : Nat) < (64 : Nat)) ∧ I64 (1 : Int) ∧ I64 (1 : Int) ∧ I64 (0 : Int) ∧ ((0 : Int) ≤ (0 : Int) ∧ (0 : Int) < (2 : Int)) ∧ (0 : Nat) < (2 : Nat) ∧ ((0 : Int) ≤ (8 : Int) ∧ (8 : Nat) < (64 : Nat)) ∧ I64 (2 : Int) ∧ K (.sl (0 : Nat) (0 : Nat) (2 : Nat) (1 : Nat)) [.bytes (List.set (List.set [(0 : UInt8), (0 : UInt8)] (1 : Nat) (b8 (bits BinOp.and IntKind.i64 n (255 : Int)))) (0 : Nat) (b8 (bits BinOp.and IntKind.i64 (n / (256 : Int)) (255 : Int))))]) := by kernel_rfl
set_option maxRecDepth 100000 in
theorem ref03_low_4 (n : Int) (K : AVal → Hp → Prop) : fnP Try.prog Tip6 ann_outriderref03_low Try.f79 [.int .i64 n, .int .i64 4] [] K = (
 ((0 : Int) ≤ (4 : Int) ∧ (4 : Int) = (4 : Int) ∧ (4 : Int) ≤ (140737488355328 : Int)) ∧ I64 (3 : Int) ∧ I64 (3 : Int) ∧ ((0 : Int) ≤ (3 : Int) ∧ (3 : Int) < (4 : Int)) ∧ (3 : Nat) < (4 : Nat) ∧ ((0 : Int) ≤ (8 : Int) ∧ (8 : Nat) < (64 : Nat)) ∧ I64 (1 : Int) ∧ I64 (3 : Int) ∧ I64 (2 : Int) ∧ ((0 : Int) ≤ (2 : Int) ∧ (2 : Int) < (4 : Int)) ∧ (2 : Nat) < (4 : Nat) ∧ ((0 : Int) ≤ (8 : Int) ∧ (8 : Nat) < (64 : Nat)) ∧ I64 (2 : Int) ∧ I64 (3 : Int) ∧ I64 (1 : Int) ∧ ((0 : Int) ≤ (1 : Int) ∧ (1 : Int) < (4 : Int)) ∧ (1 : Nat) < (4 : Nat) ∧ ((0 : Int) ≤ (8 : Int) ∧ (8 : Nat) < (64 : Nat)) ∧ I64 (3 : Int) ∧ I64 (3 : Int) ∧ I64 (0 : Int) ∧ ((0 : Int) ≤ (0 : Int) ∧ (0 : Int) < (4 : Int)) ∧ (0 : Nat) < (4 : Nat) ∧ ((0 : Int) ≤ (8 : Int) ∧ (8 : Nat) < (64 : Nat)) ∧ I64 (4 : Int) ∧ K (.sl (0 : Nat) (0 : Nat) (4 : Nat) (1 : Nat)) [.bytes (List.set (List.set (List.set (List.set [(0 : UInt8), (0 : UInt8), (0 : UInt8), (0 : UInt8)] (3 : Nat) (b8 (bits BinOp.and IntKind.i64 n (255 : Int)))) (2 : Nat) (b8 (bits BinOp.and IntKind.i64 (n / (256 : Int)) (255 : Int)))) (1 : Nat) (b8 (bits BinOp.and IntKind.i64 (n / (256 : Int) / (256 : Int)) (255 : Int)))) (0 : Nat) (b8 (bits BinOp.and IntKind.i64 (n / (256 : Int) / (256 : Int) / (256 : Int)) (255 : Int))))]) := by kernel_rfl
theorem outriderref03_low_p : ∀ args H K, lowRow args H K → fnP Try.prog Tip6 ann_outriderref03_low Try.f79 args H K := by
  intro args H K h
  unfold lowRow at h
  split at h
  · rw [ref03_low_1]
    simp only [or_w16, div2, div3, add_w16, and255, b8_mod, List.set_cons_zero, List.set_cons_succ, andNot_4000, getD_drop, getD_take, b8_byte, b8_toNatN, UInt8.toNat_ofNat', UInt8.toNat_and, nat_mask4, u8_eq_iff, UInt8.reduceToNat, Int.reduceLT, List.take_succ_cons, List.take_zero, List.drop_zero, List.flatten_cons, List.flatten_nil, List.append_nil, Nat.mul_one, Nat.zero_add, Nat.reduceAdd, Nat.reduceLT]
    repeat' first
      | (refine And.intro (by first | omega | with_reducible exact i64_x256 _ | with_reducible exact i64_w16 _ _ | with_reducible exact i64_sum _ | (repeat' first | with_reducible exact i64_x256 _ | with_reducible exact i64_w16 _ _ | with_reducible exact i64_sum _ | with_reducible apply And.intro) <;> first | omega | (simp only [I64]; omega) | (simp; omega) | (simp; done) | (simp [I64]; omega)) ?_)
      | (refine brP_d (fun h => ?_) (fun h => ?_))
      | (refine brP_nd (fun h => ?_) (fun h => ?_))
      | (refine brP_i (fun h => ?_) (fun h => ?_))
    exact h
  · rw [ref03_low_2]
    simp only [or_w16, div2, div3, add_w16, and255, b8_mod, List.set_cons_zero, List.set_cons_succ, andNot_4000, getD_drop, getD_take, b8_byte, b8_toNatN, UInt8.toNat_ofNat', UInt8.toNat_and, nat_mask4, u8_eq_iff, UInt8.reduceToNat, Int.reduceLT, List.take_succ_cons, List.take_zero, List.drop_zero, List.flatten_cons, List.flatten_nil, List.append_nil, Nat.mul_one, Nat.zero_add, Nat.reduceAdd, Nat.reduceLT]
    repeat' first
      | (refine And.intro (by first | omega | with_reducible exact i64_x256 _ | with_reducible exact i64_w16 _ _ | with_reducible exact i64_sum _ | (repeat' first | with_reducible exact i64_x256 _ | with_reducible exact i64_w16 _ _ | with_reducible exact i64_sum _ | with_reducible apply And.intro) <;> first | omega | (simp only [I64]; omega) | (simp; omega) | (simp; done) | (simp [I64]; omega)) ?_)
      | (refine brP_d (fun h => ?_) (fun h => ?_))
      | (refine brP_nd (fun h => ?_) (fun h => ?_))
      | (refine brP_i (fun h => ?_) (fun h => ?_))
    exact h
  · rw [ref03_low_4]
    simp only [or_w16, div2, div3, add_w16, and255, b8_mod, List.set_cons_zero, List.set_cons_succ, andNot_4000, getD_drop, getD_take, b8_byte, b8_toNatN, UInt8.toNat_ofNat', UInt8.toNat_and, nat_mask4, u8_eq_iff, UInt8.reduceToNat, Int.reduceLT, List.take_succ_cons, List.take_zero, List.drop_zero, List.flatten_cons, List.flatten_nil, List.append_nil, Nat.mul_one, Nat.zero_add, Nat.reduceAdd, Nat.reduceLT]
    repeat' first
      | (refine And.intro (by first | omega | with_reducible exact i64_x256 _ | with_reducible exact i64_w16 _ _ | with_reducible exact i64_sum _ | (repeat' first | with_reducible exact i64_x256 _ | with_reducible exact i64_w16 _ _ | with_reducible exact i64_sum _ | with_reducible apply And.intro) <;> first | omega | (simp only [I64]; omega) | (simp; omega) | (simp; done) | (simp [I64]; omega)) ?_)
      | (refine brP_d (fun h => ?_) (fun h => ?_))
      | (refine brP_nd (fun h => ?_) (fun h => ?_))
      | (refine brP_i (fun h => ?_) (fun h => ?_))
    exact h
  · exact h.elim
def Tip7 : Specs := ext Tip6 79 (lowRow)
theorem Tip7_sound : TSound Try.prog Tip7 := ext_sound Tip6_sound (row_of Tip6_sound mixed Try.func79 (by decide +kernel) outriderref03_low_p)
def ann_ipv_four : Nat → List Nat × Nat × List (List Nat)
  | 3 => ([], 5, [[], [0], [], [2], [2, 3]])
  | 12 => ([], 20, [[], [0], [0, 1], [], [3], [3, 4], [], [6], [6, 7], [6, 7, 8], [], [10], [10, 11], [10, 11, 12], [], [], [], [14, 15, 16], [14, 15, 16, 17], [0, 1, 2, 3, 4, 5, 6, 7, 8, 9, 10, 11, 12, 13, 14, 15, 16, 17, 18]])
  | _ => ([], 0, [])
set_option maxRecDepth 100000 in
theorem ipv_four_eq (l : List UInt8) (K : AVal → Hp → Prop) : fnP Try.prog Tip7 ann_ipv_four Try.f55 [.roB l] [] K = (
 brP (decide ((↑(List.length l) : Int) < (20 : Int))) (K (.tup [.agg [.str [], .str [], .int .i64 0, .int .i64 0, .str []], .int .i64 30]) []) (((0 : Int) ≤ (20 : Int) ∧ (20 : Int) ≤ (20 : Int) ∧ (20 : Int) ≤ (↑(List.length l) : Int)) ∧ ((0 : Int) ≤ (2 : Int) ∧ (2 : Int) ≤ (↑(List.length l) : Int)) ∧ ((0 : Int) ≤ (0 : Int) ∧ (0 : Int) < (↑(List.length (List.drop (2 : Nat) l)) : Int)) ∧ ((0 : Int) ≤ (8 : Int) ∧ (8 : Int) < (64 : Int) ∧ I64 ((↑(UInt8.toNat (List.getD (List.drop (2 : Nat) l) (0 : Nat) (0 : UInt8))) : Int) * (256 : Int))) ∧ ((0 : Int) ≤ (1 : Int) ∧ (1 : Int) < (↑(List.length (List.drop (2 : Nat) l)) : Int)) ∧ ((0 : Int) ≤ (0 : Int) ∧ (0 : Int) < (↑(List.length (List.take (20 : Nat) l)) : Int)) ∧ brP (!decide (List.getD (List.take (20 : Nat) l) (0 : Nat) (0 : UInt8) &&& (15 : UInt8) = (5 : UInt8))) (K (.tup [.agg [.str [], .str [], .int .i64 0, .int .i64 0, .str []], .int .i64 32]) []) (brP (decide (bits BinOp.or IntKind.i64 ((↑(UInt8.toNat (List.getD (List.drop (2 : Nat) l) (0 : Nat) (0 : UInt8))) : Int) * (256 : Int)) (↑(UInt8.toNat (List.getD (List.drop (2 : Nat) l) (1 : Nat) (0 : UInt8))) : Int) < (20 : Int))) (K (.tup [.agg [.str [], .str [], .int .i64 0, .int .i64 0, .str []], .int .i64 33]) []) (brP (decide ((↑(List.length l) : Int) < bits BinOp.or IntKind.i64 ((↑(UInt8.toNat (List.getD (List.drop (2 : Nat) l) (0 : Nat) (0 : UInt8))) : Int) * (256 : Int)) (↑(UInt8.toNat (List.getD (List.drop (2 : Nat) l) (1 : Nat) (0 : UInt8))) : Int))) (K (.tup [.agg [.str [], .str [], .int .i64 0, .int .i64 0, .str []], .int .i64 33]) []) (((1 : Nat) ≤ (1000 : Nat) ∧ List.length (List.flatten [List.take (20 : Nat) l]) ≤ (562949953421312 : Nat)) ∧ brP (!sumB (List.flatten [List.take (20 : Nat) l]) == (65535 : Int)) (K (.tup [.agg [.str [], .str [], .int .i64 0, .int .i64 0, .str []], .int .i64 34]) []) (((0 : Int) ≤ (6 : Int) ∧ (6 : Int) ≤ (↑(List.length (List.take (20 : Nat) l)) : Int)) ∧ ((0 : Int) ≤ (0 : Int) ∧
 (0 : Int) < (↑(List.length (List.drop (6 : Nat) (List.take (20 : Nat) l))) : Int)) ∧ ((0 : Int) ≤ (8 : Int) ∧ (8 : Int) < (64 : Int) ∧ I64 ((↑(UInt8.toNat (List.getD (List.drop (6 : Nat) (List.take (20 : Nat) l)) (0 : Nat) (0 : UInt8))) : Int) * (256 : Int))) ∧ ((0 : Int) ≤ (1 : Int) ∧ (1 : Int) < (↑(List.length (List.drop (6 : Nat) (List.take (20 : Nat) l))) : Int)) ∧ brP (!decide (bits BinOp.andNot IntKind.i64 (bits BinOp.or IntKind.i64 ((↑(UInt8.toNat (List.getD (List.drop (6 : Nat) (List.take (20 : Nat) l)) (0 : Nat) (0 : UInt8))) : Int) * (256 : Int)) (↑(UInt8.toNat (List.getD (List.drop (6 : Nat) (List.take (20 : Nat) l)) (1 : Nat) (0 : UInt8))) : Int)) (16384 : Int) = (0 : Int))) (K (.tup [.agg [.str [], .str [], .int .i64 0, .int .i64 0, .str []], .int .i64 32]) []) (((0 : Int) ≤ (12 : Int) ∧ (12 : Int) ≤ (16 : Int) ∧ (16 : Int) ≤ (↑(List.length (List.take (20 : Nat) l)) : Int)) ∧ ((0 : Int) ≤ (16 : Int) ∧ (16 : Int) ≤ (↑(List.length (List.take (20 : Nat) l)) : Int)) ∧ ((0 : Int) ≤ (9 : Int) ∧ (9 : Int) < (↑(List.length (List.take (20 : Nat) l)) : Int)) ∧ ((0 : Int) ≤ (8 : Int) ∧ (8 : Int) < (↑(List.length (List.take (20 : Nat) l)) : Int)) ∧ ((0 : Int) ≤ (20 : Int) ∧ (20 : Int) ≤ bits BinOp.or IntKind.i64 ((↑(UInt8.toNat (List.getD (List.drop (2 : Nat) l) (0 : Nat) (0 : UInt8))) : Int) * (256 : Int)) (↑(UInt8.toNat (List.getD (List.drop (2 : Nat) l) (1 : Nat) (0 : UInt8))) : Int) ∧ bits BinOp.or IntKind.i64 ((↑(UInt8.toNat (List.getD (List.drop (2 : Nat) l) (0 : Nat) (0 : UInt8))) : Int) * (256 : Int)) (↑(UInt8.toNat (List.getD (List.drop (2 : Nat) l) (1 : Nat) (0 : UInt8))) : Int) ≤ bits BinOp.or IntKind.i64 ((↑(UInt8.toNat (List.getD (List.drop (2 : Nat) l) (0 : Nat) (0 : UInt8))) : Int) * (256 : Int)) (↑(UInt8.toNat (List.getD (List.drop (2 : Nat) l) (1 : Nat) (0 : UInt8))) : Int) ∧ bits BinOp.or IntKind.i64 ((↑(UInt8.toNat (List.getD (List.drop (2 : Nat) l) (0 : Nat) (0 : UInt8))) : Int) * (256 : Int))
 (↑(UInt8.toNat (List.getD (List.drop (2 : Nat) l) (1 : Nat) (0 : UInt8))) : Int) ≤ (↑(List.length l) : Int)) ∧ K (.tup [.agg [.str (List.drop (12 : Nat) (List.take (16 : Nat) (List.take (20 : Nat) l))), .str (List.drop (16 : Nat) (List.take (20 : Nat) l)), .int .i64 (↑(UInt8.toNat (List.getD (List.take (20 : Nat) l) (9 : Nat) (0 : UInt8))) : Int), .int .i64 (↑(UInt8.toNat (List.getD (List.take (20 : Nat) l) (8 : Nat) (0 : UInt8))) : Int), .str (List.drop (20 : Nat) (List.take (Int.toNat (bits BinOp.or IntKind.i64 ((↑(UInt8.toNat (List.getD (List.drop (2 : Nat) l) (0 : Nat) (0 : UInt8))) : Int) * (256 : Int)) (↑(UInt8.toNat (List.getD (List.drop (2 : Nat) l) (1 : Nat) (0 : UInt8))) : Int))) l))], .int .i64 0]) []))))))) := by kernel_rfl
theorem ipv_four_p : ∀ args H K, ipRow' ipDec4 args H K → fnP Try.prog Tip7 ann_ipv_four Try.f55 args H K := by
  intro args H K h
  unfold ipRow' at h
  split at h
  · rename_i l
    rw [ipv_four_eq]
    try simp only [or_w16, div2, div3, add_w16, and255, b8_mod, List.set_cons_zero, List.set_cons_succ, andNot_4000, getD_drop, getD_take, b8_byte, b8_toNatN, UInt8.toNat_ofNat', UInt8.toNat_and, nat_mask4, u8_eq_iff, UInt8.reduceToNat, Int.reduceLT, List.take_succ_cons, List.take_zero, List.drop_zero, List.flatten_cons, List.flatten_nil, List.append_nil, Nat.mul_one, Nat.zero_add, Nat.reduceAdd, Nat.reduceLT]
    revert h; intro hK
    repeat' first
      | (refine And.intro (by first | omega | with_reducible exact i64_x256 _ | with_reducible exact i64_w16 _ _ | with_reducible exact i64_sum _ | (repeat' first | with_reducible exact i64_x256 _ | with_reducible exact i64_w16 _ _ | with_reducible exact i64_sum _ | with_reducible apply And.intro) <;> first | omega | (simp only [I64]; omega) | (simp; omega) | (simp; done) | (simp [I64]; omega)) ?_)
      | (refine brP_d (fun h => ?_) (fun h => ?_))
      | (refine brP_nd (fun h => ?_) (fun h => ?_))
      | (refine brP_i (fun h => ?_) (fun h => ?_))
    all_goals unfold ipDec4 at hK
    all_goals try simp only [noIp] at hK
    all_goals repeat' split at hK
    all_goals first
      | exact hK
      | (exfalso; omega)
      | grind
  · exact h.elim
def Tip8 : Specs := ext Tip7 55 (ipRow' ipDec4)
theorem Tip8_sound : TSound Try.prog Tip8 := ext_sound Tip7_sound (row_of Tip7_sound mixed Try.func55 (by decide +kernel) ipv_four_p)
def ann_ipv_six : Nat → List Nat × Nat × List (List Nat)
  | 6 => ([], 20, [[], [0], [0, 1], [], [3], [3, 4], [], [6], [6, 7], [6, 7, 8], [], [10], [10, 11], [10, 11, 12], [], [], [], [14, 15, 16], [14, 15, 16, 17], [0, 1, 2, 3, 4, 5, 6, 7, 8, 9, 10, 11, 12, 13, 14, 15, 16, 17, 18]])
  | _ => ([], 0, [])
set_option maxRecDepth 100000 in
theorem ipv_six_eq (l : List UInt8) (K : AVal → Hp → Prop) : fnP Try.prog Tip8 ann_ipv_six Try.f54 [.roB l] [] K = (
 brP (decide ((↑(List.length l) : Int) < (40 : Int))) (K (.tup [.agg [.str [], .str [], .int .i64 0, .int .i64 0, .str []], .int .i64 30]) []) (((0 : Int) ≤ (4 : Int) ∧ (4 : Int) ≤ (↑(List.length l) : Int)) ∧ ((0 : Int) ≤ (0 : Int) ∧ (0 : Int) < (↑(List.length (List.drop (4 : Nat) l)) : Int)) ∧ ((0 : Int) ≤ (8 : Int) ∧ (8 : Int) < (64 : Int) ∧ I64 ((↑(UInt8.toNat (List.getD (List.drop (4 : Nat) l) (0 : Nat) (0 : UInt8))) : Int) * (256 : Int))) ∧ ((0 : Int) ≤ (1 : Int) ∧ (1 : Int) < (↑(List.length (List.drop (4 : Nat) l)) : Int)) ∧ I64 ((40 : Int) + bits BinOp.or IntKind.i64 ((↑(UInt8.toNat (List.getD (List.drop (4 : Nat) l) (0 : Nat) (0 : UInt8))) : Int) * (256 : Int)) (↑(UInt8.toNat (List.getD (List.drop (4 : Nat) l) (1 : Nat) (0 : UInt8))) : Int)) ∧ brP (decide ((↑(List.length l) : Int) < (40 : Int) + bits BinOp.or IntKind.i64 ((↑(UInt8.toNat (List.getD (List.drop (4 : Nat) l) (0 : Nat) (0 : UInt8))) : Int) * (256 : Int)) (↑(UInt8.toNat (List.getD (List.drop (4 : Nat) l) (1 : Nat) (0 : UInt8))) : Int))) (K (.tup [.agg [.str [], .str [], .int .i64 0, .int .i64 0, .str []], .int .i64 33]) []) (((0 : Int) ≤ (8 : Int) ∧ (8 : Int) ≤ (24 : Int) ∧ (24 : Int) ≤ (24 : Int) ∧ (24 : Int) ≤ (↑(List.length l) : Int)) ∧ ((0 : Int) ≤ (24 : Int) ∧ (24 : Int) ≤ (40 : Int) ∧ (40 : Int) ≤ (40 : Int) ∧ (40 : Int) ≤ (↑(List.length l) : Int)) ∧ ((0 : Int) ≤ (6 : Int) ∧ (6 : Int) < (↑(List.length l) : Int)) ∧ ((0 : Int) ≤ (7 : Int) ∧ (7 : Int) < (↑(List.length l) : Int)) ∧ ((0 : Int) ≤ (40 : Int) ∧ (40 : Int) ≤ (40 : Int) + bits BinOp.or IntKind.i64 ((↑(UInt8.toNat (List.getD (List.drop (4 : Nat) l) (0 : Nat) (0 : UInt8))) : Int) * (256 : Int)) (↑(UInt8.toNat (List.getD (List.drop (4 : Nat) l) (1 : Nat) (0 : UInt8))) : Int) ∧ (40 : Int) + bits BinOp.or IntKind.i64 ((↑(UInt8.toNat (List.getD (List.drop (4 : Nat) l) (0 : Nat) (0 : UInt8))) : Int) * (256 : Int)) (↑(UInt8.toNat (List.getD (List.drop (4 : Nat) l) (1 : Nat) (0 : UInt8))) : Int) ≤ (40 : Int) + bits BinOp.or IntKind.i64
 ((↑(UInt8.toNat (List.getD (List.drop (4 : Nat) l) (0 : Nat) (0 : UInt8))) : Int) * (256 : Int)) (↑(UInt8.toNat (List.getD (List.drop (4 : Nat) l) (1 : Nat) (0 : UInt8))) : Int) ∧ (40 : Int) + bits BinOp.or IntKind.i64 ((↑(UInt8.toNat (List.getD (List.drop (4 : Nat) l) (0 : Nat) (0 : UInt8))) : Int) * (256 : Int)) (↑(UInt8.toNat (List.getD (List.drop (4 : Nat) l) (1 : Nat) (0 : UInt8))) : Int) ≤ (↑(List.length l) : Int)) ∧ K (.tup [.agg [.str (List.drop (8 : Nat) (List.take (24 : Nat) l)), .str (List.drop (24 : Nat) (List.take (40 : Nat) l)), .int .i64 (↑(UInt8.toNat (List.getD l (6 : Nat) (0 : UInt8))) : Int), .int .i64 (↑(UInt8.toNat (List.getD l (7 : Nat) (0 : UInt8))) : Int), .str (List.drop (40 : Nat) (List.take (Int.toNat ((40 : Int) + bits BinOp.or IntKind.i64 ((↑(UInt8.toNat (List.getD (List.drop (4 : Nat) l) (0 : Nat) (0 : UInt8))) : Int) * (256 : Int)) (↑(UInt8.toNat (List.getD (List.drop (4 : Nat) l) (1 : Nat) (0 : UInt8))) : Int))) l))], .int .i64 0]) []))) := by kernel_rfl
theorem ipv_six_p : ∀ args H K, ipRow' ipDec6 args H K → fnP Try.prog Tip8 ann_ipv_six Try.f54 args H K := by
  intro args H K h
  unfold ipRow' at h
  split at h
  · rename_i l
    rw [ipv_six_eq]
    try simp only [or_w16, div2, div3, add_w16, and255, b8_mod, List.set_cons_zero, List.set_cons_succ, andNot_4000, getD_drop, getD_take, b8_byte, b8_toNatN, UInt8.toNat_ofNat', UInt8.toNat_and, nat_mask4, u8_eq_iff, UInt8.reduceToNat, Int.reduceLT, List.take_succ_cons, List.take_zero, List.drop_zero, List.flatten_cons, List.flatten_nil, List.append_nil, Nat.mul_one, Nat.zero_add, Nat.reduceAdd, Nat.reduceLT]
    have hw := w16_bd (l.getD 4 0) (l.getD 5 0)
    revert h; intro hK
    repeat' first
      | (refine And.intro (by first | omega | with_reducible exact i64_x256 _ | with_reducible exact i64_w16 _ _ | with_reducible exact i64_sum _ | (repeat' first | with_reducible exact i64_x256 _ | with_reducible exact i64_w16 _ _ | with_reducible exact i64_sum _ | with_reducible apply And.intro) <;> first | omega | (simp only [I64]; omega) | (simp; omega) | (simp; done) | (simp [I64]; omega)) ?_)
      | (refine brP_d (fun h => ?_) (fun h => ?_))
      | (refine brP_nd (fun h => ?_) (fun h => ?_))
      | (refine brP_i (fun h => ?_) (fun h => ?_))
    all_goals unfold ipDec6 at hK
    all_goals try simp only [noIp] at hK
    all_goals repeat' split at hK
    all_goals first
      | exact hK
      | (exfalso; omega)
      | grind
  · exact h.elim
def Tip9 : Specs := ext Tip8 54 (ipRow' ipDec6)
theorem Tip9_sound : TSound Try.prog Tip9 := ext_sound Tip8_sound (row_of Tip8_sound mixed Try.func54 (by decide +kernel) ipv_six_p)
def ann_ipv_Decode : Nat → List Nat × Nat × List (List Nat)
  | _ => ([], 0, [])
set_option maxRecDepth 100000 in
theorem ipv_Decode_eq (l : List UInt8) (K : AVal → Hp → Prop) : fnP Try.prog Tip9 ann_ipv_Decode Try.f37 [.roB l] [] K = (
 brP (decide ((↑(List.length l) : Int) = (0 : Int))) (K (.tup [.agg [.str [], .str [], .int .i64 0, .int .i64 0, .str []], .int .i64 30]) []) (((0 : Int) ≤ (0 : Int) ∧ (0 : Int) < (↑(List.length l) : Int)) ∧ ((0 : Int) ≤ (4 : Int) ∧ (4 : Int) < (8 : Int)) ∧ brP (decide (b8 ((↑(UInt8.toNat (List.getD l (0 : Nat) (0 : UInt8))) : Int) / (16 : Int)) = (4 : UInt8))) (K (.tup [.agg [.str (ipDec4 l).fst.src, .str (ipDec4 l).fst.dst, .int .i64 (ipDec4 l).fst.proto, .int .i64 (ipDec4 l).fst.ttl, .str (ipDec4 l).fst.body], .int .i64 (ipDec4 l).snd]) []) (brP (decide (b8 ((↑(UInt8.toNat (List.getD l (0 : Nat) (0 : UInt8))) : Int) / (16 : Int)) = (6 : UInt8))) (K (.tup [.agg [.str (ipDec6 l).fst.src, .str (ipDec6 l).fst.dst, .int .i64 (ipDec6 l).fst.proto, .int .i64 (ipDec6 l).fst.ttl, .str (ipDec6 l).fst.body], .int .i64 (ipDec6 l).snd]) []) (K (.tup [.agg [.str [], .str [], .int .i64 0, .int .i64 0, .str []], .int .i64 31]) [])))) := by kernel_rfl
set_option maxRecDepth 100000 in
theorem ipv_Decode_nil  (K : AVal → Hp → Prop) : fnP Try.prog Tip9 ann_ipv_Decode Try.f37 [.nilS] [] K = (
 K (.tup [.agg [.str [], .str [], .int .i64 0, .int .i64 0, .str []], .int .i64 30]) []) := by kernel_rfl
theorem ipv_Decode_p : ∀ args H K, ipRow ipDecode args H K → fnP Try.prog Tip9 ann_ipv_Decode Try.f37 args H K := by
  intro args H K h
  unfold ipRow at h
  split at h
  · rename_i l
    have hx := (l.getD 0 0).toNat_lt
    rw [ipv_Decode_eq]
    try simp only [or_w16, div2, div3, add_w16, and255, b8_mod, List.set_cons_zero, List.set_cons_succ, andNot_4000, getD_drop, getD_take, b8_byte, b8_toNatN, UInt8.toNat_ofNat', UInt8.toNat_and, nat_mask4, u8_eq_iff, UInt8.reduceToNat, Int.reduceLT, List.take_succ_cons, List.take_zero, List.drop_zero, List.flatten_cons, List.flatten_nil, List.append_nil, Nat.mul_one, Nat.zero_add, Nat.reduceAdd, Nat.reduceLT]
    revert h; intro hK
    repeat' first
      | (refine And.intro (by first | omega | with_reducible exact i64_x256 _ | with_reducible exact i64_w16 _ _ | with_reducible exact i64_sum _ | (repeat' first | with_reducible exact i64_x256 _ | with_reducible exact i64_w16 _ _ | with_reducible exact i64_sum _ | with_reducible apply And.intro) <;> first | omega | (simp only [I64]; omega) | (simp; omega) | (simp; done) | (simp [I64]; omega)) ?_)
      | (refine brP_d (fun h => ?_) (fun h => ?_))
      | (refine brP_nd (fun h => ?_) (fun h => ?_))
      | (refine brP_i (fun h => ?_) (fun h => ?_))
    all_goals unfold ipDecode at hK
    all_goals try simp only [noIp] at hK
    all_goals repeat' split at hK
    all_goals first
      | exact hK
      | (exfalso; omega)
      | grind
  · rw [ipv_Decode_nil]; exact h
  · exact h.elim
def Tip10 : Specs := ext Tip9 37 (ipRow ipDecode)
theorem Tip10_sound : TSound Try.prog Tip10 := ext_sound Tip9_sound (row_of Tip9_sound mixed Try.func37 (by decide +kernel) ipv_Decode_p)
abbrev Tip11 : Specs := Tip10
theorem Tip11_sound : TSound Try.prog Tip11 := Tip10_sound
def ann_ipv_Pseudo : Nat → List Nat × Nat × List (List Nat)
  | _ => ([], 0, [])
set_option maxRecDepth 100000 in
theorem ipv_Pseudo_eq (f t : List UInt8) (p n : Int) (K : AVal → Hp → Prop) : fnP Try.prog Tip11 ann_ipv_Pseudo Try.f65 [.str f, .str t, .int .i64 p, .int .i64 n] [] K = (
 brP (decide ((↑(List.length f) : Int) = (4 : Int))) (brP (!decide ((↑(List.length f) : Int) = (↑(List.length t) : Int))) (K .nilS []) (List.length f ≤ (140737488355328 : Nat) ∧ ((List.length f + List.length t) * (1 : Nat) ≤ (140737488355328 : Nat) ∧ List.length f = List.length f * (1 : Nat)) ∧ brP (decide ((↑(List.length f) : Int) = (16 : Int))) (((0 : Int) ≤ (24 : Int) ∧ (24 : Nat) < (64 : Nat)) ∧ ((0 : Int) ≤ (16 : Int) ∧ (16 : Nat) < (64 : Nat)) ∧ ((0 : Int) ≤ (8 : Int) ∧ (8 : Nat) < (64 : Nat)) ∧ ((List.length f + List.length t + (8 : Nat)) * (1 : Nat) ≤ (140737488355328 : Nat) ∧ List.length (f ++ t) = (List.length f + List.length t) * (1 : Nat)) ∧ K (.sl (0 : Nat) (0 : Nat) (List.length f + List.length t + (8 : Nat)) (1 : Nat)) [.bytes (f ++ t ++ List.take (8 : Nat) (List.drop (0 : Nat) [b8 (n / (16777216 : Int)), b8 (n / (65536 : Int)), b8 (n / (256 : Int)), b8 n, (0 : UInt8), (0 : UInt8), (0 : UInt8), b8 p]))]) (((0 : Int) ≤ (8 : Int) ∧ (8 : Nat) < (64 : Nat)) ∧ ((List.length f + List.length t + (4 : Nat)) * (1 : Nat) ≤ (140737488355328 : Nat) ∧ List.length (f ++ t) = (List.length f + List.length t) * (1 : Nat)) ∧ K (.sl (0 : Nat) (0 : Nat) (List.length f + List.length t + (4 : Nat)) (1 : Nat)) [.bytes (f ++ t ++ List.take (4 : Nat) (List.drop (0 : Nat) [(0 : UInt8), b8 p, b8 (n / (256 : Int)), b8 n]))]))) (brP (!decide ((↑(List.length f) : Int) = (16 : Int))) (K .nilS []) (brP (!decide ((↑(List.length f) : Int) = (↑(List.length t) : Int))) (K .nilS []) (List.length f ≤ (140737488355328 : Nat) ∧ ((List.length f + List.length t) * (1 : Nat) ≤ (140737488355328 : Nat) ∧ List.length f = List.length f * (1 : Nat)) ∧ brP (decide ((↑(List.length f) : Int) = (16 : Int))) (((0 : Int) ≤ (24 : Int) ∧ (24 : Nat) < (64 : Nat)) ∧ ((0 : Int) ≤ (16 : Int) ∧ (16 : Nat) < (64 : Nat)) ∧ ((0 : Int) ≤ (8 : Int) ∧ (8 : Nat) < (64 : Nat)) ∧ ((List.length f + List.length t + (8 : Nat)) * (1 : Nat) ≤ (140737488355328 : Nat) ∧
 List.length (f ++ t) = (List.length f + List.length t) * (1 : Nat)) ∧ K (.sl (0 : Nat) (0 : Nat) (List.length f + List.length t + (8 : Nat)) (1 : Nat)) [.bytes (f ++ t ++ List.take (8 : Nat) (List.drop (0 : Nat) [b8 (n / (16777216 : Int)), b8 (n / (65536 : Int)), b8 (n / (256 : Int)), b8 n, (0 : UInt8), (0 : UInt8), (0 : UInt8), b8 p]))]) (((0 : Int) ≤ (8 : Int) ∧ (8 : Nat) < (64 : Nat)) ∧ ((List.length f + List.length t + (4 : Nat)) * (1 : Nat) ≤ (140737488355328 : Nat) ∧ List.length (f ++ t) = (List.length f + List.length t) * (1 : Nat)) ∧ K (.sl (0 : Nat) (0 : Nat) (List.length f + List.length t + (4 : Nat)) (1 : Nat)) [.bytes (f ++ t ++ List.take (4 : Nat) (List.drop (0 : Nat) [(0 : UInt8), b8 p, b8 (n / (256 : Int)), b8 n]))]))))) := by kernel_rfl
theorem ipv_Pseudo_p : ∀ args H K, pseudoRow args H K → fnP Try.prog Tip11 ann_ipv_Pseudo Try.f65 args H K := by
  intro args H K h
  unfold pseudoRow at h
  split at h
  · rename_i f t p n
    rw [ipv_Pseudo_eq]
    try simp only [or_w16, div2, div3, add_w16, and255, b8_mod, List.set_cons_zero, List.set_cons_succ, andNot_4000, getD_drop, getD_take, b8_byte, b8_toNatN, UInt8.toNat_ofNat', UInt8.toNat_and, nat_mask4, u8_eq_iff, UInt8.reduceToNat, Int.reduceLT, List.take_succ_cons, List.take_zero, List.drop_zero, List.flatten_cons, List.flatten_nil, List.append_nil, Nat.mul_one, Nat.zero_add, Nat.reduceAdd, Nat.reduceLT]
    revert h; intro hK
    rcases pseudo_cases hK with ⟨h1, h2⟩ | ⟨h1, h2⟩
    · repeat' first
        | (refine And.intro (by first | omega | with_reducible exact i64_x256 _ | with_reducible exact i64_w16 _ _ | with_reducible exact i64_sum _ | (repeat' first | with_reducible exact i64_x256 _ | with_reducible exact i64_w16 _ _ | with_reducible exact i64_sum _ | with_reducible apply And.intro) <;> first | omega | (simp only [I64]; omega) | (simp; omega) | (simp; done) | (simp [I64]; omega)) ?_)
        | (refine brP_d (fun h => ?_) (fun h => ?_))
        | (refine brP_nd (fun h => ?_) (fun h => ?_))
        | (refine brP_i (fun h => ?_) (fun h => ?_))
      all_goals first
        | (exfalso; omega)
        | (rw [show pseudoB f t p n = f ++ t ++ [b8 (n / 16777216), b8 (n / 65536), b8 (n / 256), b8 n, 0, 0, 0, b8 p] from if_pos (by omega)] at h2
           refine endK_eq h2 ?_ ?_ <;> simp <;> omega)
        | (rw [show pseudoB f t p n = f ++ t ++ [0, b8 p, b8 (n / 256), b8 n] from if_neg (by omega)] at h2
           refine endK_eq h2 ?_ ?_ <;> simp <;> omega)
    · repeat' first
        | (refine And.intro (by first | omega | with_reducible exact i64_x256 _ | with_reducible exact i64_w16 _ _ | with_reducible exact i64_sum _ | (repeat' first | with_reducible exact i64_x256 _ | with_reducible exact i64_w16 _ _ | with_reducible exact i64_sum _ | with_reducible apply And.intro) <;> first | omega | (simp only [I64]; omega) | (simp; omega) | (simp; done) | (simp [I64]; omega)) ?_)
        | (refine brP_d (fun h => ?_) (fun h => ?_))
        | (refine brP_nd (fun h => ?_) (fun h => ?_))
        | (refine brP_i (fun h => ?_) (fun h => ?_))
      all_goals first
        | exact h2
        | (exfalso; omega)
  · exact h.elim
def Tip12 : Specs := ext Tip11 65 (pseudoRow)
theorem Tip12_sound : TSound Try.prog Tip12 := ext_sound Tip11_sound (row_of Tip11_sound mixed Try.func65 (by decide +kernel) ipv_Pseudo_p)
def ann_outriderref03_Pseudo : Nat → List Nat × Nat × List (List Nat)
  | _ => ([], 0, [])
set_option maxRecDepth 100000 in
theorem ref03_Pseudo_eq (f t : List UInt8) (p n : Int) (K : AVal → Hp → Prop) : fnP Try.prog Tip12 ann_outriderref03_Pseudo Try.f51 [.str f, .str t, .int .i64 p, .int .i64 n] [] K = (
 brP (decide ((↑(List.length f) : Int) = (4 : Int))) (brP (!decide ((↑(List.length f) : Int) = (↑(List.length t) : Int))) (K .nilS []) (List.length f + List.length t ≤ (4611686018427387904 : Nat) ∧ List.length (f ++ t) ≤ (140737488355328 : Nat) ∧ brP (decide ((↑(List.length f) : Int) = (4 : Int))) (((List.length (f ++ t) + (1 : Nat)) * (1 : Nat) ≤ (140737488355328 : Nat) ∧ List.length (f ++ t) = List.length (f ++ t) * (1 : Nat)) ∧ ((List.length (f ++ t) + (1 : Nat) + (1 : Nat)) * (1 : Nat) ≤ (140737488355328 : Nat) ∧ List.length (f ++ t ++ [(0 : UInt8)]) = (List.length (f ++ t) + (1 : Nat)) * (1 : Nat)) ∧ ((List.length (f ++ t) + (1 : Nat) + (1 : Nat) + (2 : Nat)) * (1 : Nat) ≤ (140737488355328 : Nat) ∧ List.length (f ++ t ++ [(0 : UInt8)] ++ List.take (1 : Nat) (List.drop (0 : Nat) [b8 p])) = (List.length (f ++ t) + (1 : Nat) + (1 : Nat)) * (1 : Nat)) ∧ K (.sl (0 : Nat) (0 : Nat) (List.length (f ++ t) + (1 : Nat) + (1 : Nat) + (2 : Nat)) (1 : Nat)) [.bytes (f ++ t ++ [(0 : UInt8)] ++ List.take (1 : Nat) (List.drop (0 : Nat) [b8 p]) ++ List.take (2 : Nat) (List.drop (0 : Nat) [b8 (n / (256 : Int)), b8 n]))]) (((List.length (f ++ t) + (4 : Nat)) * (1 : Nat) ≤ (140737488355328 : Nat) ∧ List.length (f ++ t) = List.length (f ++ t) * (1 : Nat)) ∧ ((List.length (f ++ t) + (4 : Nat) + (3 : Nat)) * (1 : Nat) ≤ (140737488355328 : Nat) ∧ List.length (f ++ t ++ List.take (4 : Nat) (List.drop (0 : Nat) [b8 (n / (16777216 : Int)), b8 (n / (65536 : Int)), b8 (n / (256 : Int)), b8 n])) = (List.length (f ++ t) + (4 : Nat)) * (1 : Nat)) ∧ ((List.length (f ++ t) + (4 : Nat) + (3 : Nat) + (1 : Nat)) * (1 : Nat) ≤ (140737488355328 : Nat) ∧ List.length (f ++ t ++ List.take (4 : Nat) (List.drop (0 : Nat) [b8 (n / (16777216 : Int)), b8 (n / (65536 : Int)), b8 (n / (256 : Int)), b8 n]) ++ [(0 : UInt8), (0 : UInt8), (0 : UInt8)]) = (List.length (f ++ t) + (4 : Nat) + (3 : Nat)) * (1 : Nat)) ∧ K (.sl (0 : Nat) (0 : Nat) (List.length (f ++ t) + (4 : Nat) + (3 : Nat) + (1 : Nat)) (1 : Nat))
 [.bytes (f ++ t ++ List.take (4 : Nat) (List.drop (0 : Nat) [b8 (n / (16777216 : Int)), b8 (n / (65536 : Int)), b8 (n / (256 : Int)), b8 n]) ++ [(0 : UInt8), (0 : UInt8), (0 : UInt8)] ++ List.take (1 : Nat) (List.drop (0 : Nat) [b8 p]))]))) (brP (!decide ((↑(List.length f) : Int) = (16 : Int))) (K .nilS []) (brP (!decide ((↑(List.length f) : Int) = (↑(List.length t) : Int))) (K .nilS []) (List.length f + List.length t ≤ (4611686018427387904 : Nat) ∧ List.length (f ++ t) ≤ (140737488355328 : Nat) ∧ brP (decide ((↑(List.length f) : Int) = (4 : Int))) (((List.length (f ++ t) + (1 : Nat)) * (1 : Nat) ≤ (140737488355328 : Nat) ∧ List.length (f ++ t) = List.length (f ++ t) * (1 : Nat)) ∧ ((List.length (f ++ t) + (1 : Nat) + (1 : Nat)) * (1 : Nat) ≤ (140737488355328 : Nat) ∧ List.length (f ++ t ++ [(0 : UInt8)]) = (List.length (f ++ t) + (1 : Nat)) * (1 : Nat)) ∧ ((List.length (f ++ t) + (1 : Nat) + (1 : Nat) + (2 : Nat)) * (1 : Nat) ≤ (140737488355328 : Nat) ∧ List.length (f ++ t ++ [(0 : UInt8)] ++ List.take (1 : Nat) (List.drop (0 : Nat) [b8 p])) = (List.length (f ++ t) + (1 : Nat) + (1 : Nat)) * (1 : Nat)) ∧ K (.sl (0 : Nat) (0 : Nat) (List.length (f ++ t) + (1 : Nat) + (1 : Nat) + (2 : Nat)) (1 : Nat)) [.bytes (f ++ t ++ [(0 : UInt8)] ++ List.take (1 : Nat) (List.drop (0 : Nat) [b8 p]) ++ List.take (2 : Nat) (List.drop (0 : Nat) [b8 (n / (256 : Int)), b8 n]))]) (((List.length (f ++ t) + (4 : Nat)) * (1 : Nat) ≤ (140737488355328 : Nat) ∧ List.length (f ++ t) = List.length (f ++ t) * (1 : Nat)) ∧ ((List.length (f ++ t) + (4 : Nat) + (3 : Nat)) * (1 : Nat) ≤ (140737488355328 : Nat) ∧ List.length (f ++ t ++ List.take (4 : Nat) (List.drop (0 : Nat) [b8 (n / (16777216 : Int)), b8 (n / (65536 : Int)), b8 (n / (256 : Int)), b8 n])) = (List.length (f ++ t) + (4 : Nat)) * (1 : Nat)) ∧ ((List.length (f ++ t) + (4 : Nat) + (3 : Nat) + (1 : Nat)) * (1 : Nat) ≤ (140737488355328 : Nat) ∧ List.length (f ++ t ++ List.take (4 : Nat)
 (List.drop (0 : Nat) [b8 (n / (16777216 : Int)), b8 (n / (65536 : Int)), b8 (n / (256 : Int)), b8 n]) ++ [(0 : UInt8), (0 : UInt8), (0 : UInt8)]) = (List.length (f ++ t) + (4 : Nat) + (3 : Nat)) * (1 : Nat)) ∧ K (.sl (0 : Nat) (0 : Nat) (List.length (f ++ t) + (4 : Nat) + (3 : Nat) + (1 : Nat)) (1 : Nat)) [.bytes (f ++ t ++ List.take (4 : Nat) (List.drop (0 : Nat) [b8 (n / (16777216 : Int)), b8 (n / (65536 : Int)), b8 (n / (256 : Int)), b8 n]) ++ [(0 : UInt8), (0 : UInt8), (0 : UInt8)] ++ List.take (1 : Nat) (List.drop (0 : Nat) [b8 p]))]))))) := by kernel_rfl
theorem outriderref03_Pseudo_p : ∀ args H K, pseudoRow args H K → fnP Try.prog Tip12 ann_outriderref03_Pseudo Try.f51 args H K := by
  intro args H K h
  unfold pseudoRow at h
  split at h
  · rename_i f t p n
    rw [ref03_Pseudo_eq]
    try simp only [or_w16, div2, div3, add_w16, and255, b8_mod, List.set_cons_zero, List.set_cons_succ, andNot_4000, getD_drop, getD_take, b8_byte, b8_toNatN, UInt8.toNat_ofNat', UInt8.toNat_and, nat_mask4, u8_eq_iff, UInt8.reduceToNat, Int.reduceLT, List.take_succ_cons, List.take_zero, List.drop_zero, List.flatten_cons, List.flatten_nil, List.append_nil, Nat.mul_one, Nat.zero_add, Nat.reduceAdd, Nat.reduceLT]
    revert h; intro hK
    rcases pseudo_cases hK with ⟨h1, h2⟩ | ⟨h1, h2⟩
    · repeat' first
        | (refine And.intro (by first | omega | with_reducible exact i64_x256 _ | with_reducible exact i64_w16 _ _ | with_reducible exact i64_sum _ | (repeat' first | with_reducible exact i64_x256 _ | with_reducible exact i64_w16 _ _ | with_reducible exact i64_sum _ | with_reducible apply And.intro) <;> first | omega | (simp only [I64]; omega) | (simp; omega) | (simp; done) | (simp [I64]; omega)) ?_)
        | (refine brP_d (fun h => ?_) (fun h => ?_))
        | (refine brP_nd (fun h => ?_) (fun h => ?_))
        | (refine brP_i (fun h => ?_) (fun h => ?_))
      all_goals first
        | (exfalso; omega)
        | (rw [show pseudoB f t p n = f ++ t ++ [b8 (n / 16777216), b8 (n / 65536), b8 (n / 256), b8 n, 0, 0, 0, b8 p] from if_pos (by omega)] at h2
           refine endK_eq h2 ?_ ?_ <;> simp <;> omega)
        | (rw [show pseudoB f t p n = f ++ t ++ [0, b8 p, b8 (n / 256), b8 n] from if_neg (by omega)] at h2
           refine endK_eq h2 ?_ ?_ <;> simp <;> omega)
    · repeat' first
        | (refine And.intro (by first | omega | with_reducible exact i64_x256 _ | with_reducible exact i64_w16 _ _ | with_reducible exact i64_sum _ | (repeat' first | with_reducible exact i64_x256 _ | with_reducible exact i64_w16 _ _ | with_reducible exact i64_sum _ | with_reducible apply And.intro) <;> first | omega | (simp only [I64]; omega) | (simp; omega) | (simp; done) | (simp [I64]; omega)) ?_)
        | (refine brP_d (fun h => ?_) (fun h => ?_))
        | (refine brP_nd (fun h => ?_) (fun h => ?_))
        | (refine brP_i (fun h => ?_) (fun h => ?_))
      all_goals first
        | exact h2
        | (exfalso; omega)
  · exact h.elim
def Tip13 : Specs := ext Tip12 51 (pseudoRow)
theorem Tip13_sound : TSound Try.prog Tip13 := ext_sound Tip12_sound (row_of Tip12_sound mixed Try.func51 (by decide +kernel) outriderref03_Pseudo_p)
abbrev Tip14 : Specs := Tip13
theorem Tip14_sound : TSound Try.prog Tip14 := Tip13_sound
abbrev Tip15 : Specs := Tip14
theorem Tip15_sound : TSound Try.prog Tip15 := Tip14_sound
def ann_outriderref03_Encode : Nat → List Nat × Nat × List (List Nat)
  | _ => ([], 0, [])
set_option maxRecDepth 100000 in
theorem ref03_Encode_eq (f t : List UInt8) (p q : Int) (b : List UInt8) (K : AVal → Hp → Prop) : fnP Try.prog Tip15 ann_outriderref03_Encode Try.f52 [.agg [.str f, .str t, .int .i64 p, .int .i64 q, .str b]] [] K = (
 brP (decide ((↑(List.length f) : Int) = (4 : Int))) (brP (decide ((↑(List.length t) : Int) = (4 : Int))) (brP (!decide ((↑(List.length f) : Int) = (↑(List.length t) : Int))) (K (.tup [.nilS, .int .i64 1]) []) (brP (decide (p < (0 : Int))) (K (.tup [.nilS, .int .i64 1]) []) (brP (decide ((255 : Int) < p)) (K (.tup [.nilS, .int .i64 1]) []) (brP (decide (q < (0 : Int))) (K (.tup [.nilS, .int .i64 1]) []) (brP (decide ((255 : Int) < q)) (K (.tup [.nilS, .int .i64 1]) []) (brP (decide ((↑(List.length f) : Int) = (16 : Int))) (brP (decide ((1460 : Int) < (↑(List.length b) : Int))) (K (.tup [.nilS, .int .i64 1]) []) (((6 : Nat) ≤ (140737488355328 : Nat) ∧ (4 : Nat) = (4 : Nat)) ∧ ((8 : Nat) ≤ (140737488355328 : Nat) ∧ (6 : Nat) = (6 : Nat)) ∧ List.length f + List.length t ≤ (4611686018427387904 : Nat) ∧ List.length (f ++ t) + List.length b ≤ (4611686018427387904 : Nat) ∧ (((8 : Nat) + List.length (f ++ t ++ b)) * (1 : Nat) ≤ (140737488355328 : Nat) ∧ (8 : Nat) = (8 : Nat)) ∧ K (.tup [.sl (0 : Nat) (0 : Nat) ((8 : Nat) + List.length (f ++ t ++ b)) (1 : Nat), .int .i64 0]) [.bytes ([(96 : UInt8), (0 : UInt8), (0 : UInt8), (0 : UInt8)] ++ List.take (2 : Nat) (List.drop (0 : Nat) [b8 ((↑(List.length b) : Int) / (256 : Int)), b8 (↑(List.length b) : Int)]) ++ List.take (2 : Nat) (List.drop (0 : Nat) [b8 p, b8 q]) ++ (f ++ t ++ b))])) (brP (decide ((1480 : Int) < (↑(List.length b) : Int))) (K (.tup [.nilS, .int .i64 1]) []) (I64 ((20 : Int) + (↑(List.length b) : Int)) ∧ ((4 : Nat) ≤ (140737488355328 : Nat) ∧ (2 : Nat) = (2 : Nat)) ∧ ((10 : Nat) ≤ (140737488355328 : Nat) ∧ (4 : Nat) = (4 : Nat)) ∧ List.length f + List.length t ≤ (4611686018427387904 : Nat) ∧ List.length (f ++ t) ≤ (140737488355328 : Nat) ∧ ((10 : Nat) ≤ (140737488355328 : Nat) ∧ (0 : Nat) = (0 : Nat)) ∧ ((12 : Nat) ≤ (140737488355328 : Nat) ∧ (10 : Nat) = (10 : Nat)) ∧ (((12 : Nat) + List.length (f ++ t)) * (1 : Nat) ≤ (140737488355328 : Nat) ∧ (12 : Nat) = (12 : Nat)) ∧ I64 ((65535 : Int) - sumB
 (List.take ((12 : Nat) + List.length (f ++ t)) (List.drop (0 : Nat) ([] ++ List.take (10 : Nat) (List.drop (0 : Nat) ([(69 : UInt8), (0 : UInt8)] ++ List.take (2 : Nat) (List.drop (0 : Nat) [b8 (((20 : Int) + (↑(List.length b) : Int)) / (256 : Int)), b8 ((20 : Int) + (↑(List.length b) : Int))]) ++ List.take (6 : Nat) (List.drop (0 : Nat) [(0 : UInt8), (0 : UInt8), (64 : UInt8), (0 : UInt8), b8 q, b8 p]))) ++ [(0 : UInt8), (0 : UInt8)] ++ List.take (List.length (f ++ t)) (List.drop (0 : Nat) (f ++ t)))))) ∧ ((12 : Nat) ≤ (140737488355328 : Nat) ∧ (10 : Nat) = (10 : Nat)) ∧ (((12 : Nat) + List.length (f ++ t)) * (1 : Nat) ≤ (140737488355328 : Nat) ∧ (12 : Nat) = (12 : Nat)) ∧ (((12 : Nat) + List.length (f ++ t) + List.length b) * (1 : Nat) ≤ (140737488355328 : Nat) ∧ List.length ([(69 : UInt8), (0 : UInt8)] ++ List.take (2 : Nat) (List.drop (0 : Nat) [b8 (((20 : Int) + (↑(List.length b) : Int)) / (256 : Int)), b8 ((20 : Int) + (↑(List.length b) : Int))]) ++ List.take (6 : Nat) (List.drop (0 : Nat) [(0 : UInt8), (0 : UInt8), (64 : UInt8), (0 : UInt8), b8 q, b8 p]) ++ List.take (2 : Nat) (List.drop (0 : Nat) [b8 (((65535 : Int) - sumB (List.take ((12 : Nat) + List.length (f ++ t)) (List.drop (0 : Nat) ([] ++ List.take (10 : Nat) (List.drop (0 : Nat) ([(69 : UInt8), (0 : UInt8)] ++ List.take (2 : Nat) (List.drop (0 : Nat) [b8 (((20 : Int) + (↑(List.length b) : Int)) / (256 : Int)), b8 ((20 : Int) + (↑(List.length b) : Int))]) ++ List.take (6 : Nat) (List.drop (0 : Nat) [(0 : UInt8), (0 : UInt8), (64 : UInt8), (0 : UInt8), b8 q, b8 p]))) ++ [(0 : UInt8), (0 : UInt8)] ++ List.take (List.length (f ++ t)) (List.drop (0 : Nat) (f ++ t)))))) / (256 : Int)), b8 ((65535 : Int) - sumB (List.take ((12 : Nat) + List.length (f ++ t)) (List.drop (0 : Nat) ([] ++ List.take (10 : Nat) (List.drop (0 : Nat) ([(69 : UInt8), (0 : UInt8)] ++ List.take (2 : Nat) (List.drop (0 : Nat) [b8 (((20 : Int) + (↑(List.length b) : Int)) / (256 : Int)), b8 ((20 : Int) + (↑(List.length b) : Int))]) ++
 List.take (6 : Nat) (List.drop (0 : Nat) [(0 : UInt8), (0 : UInt8), (64 : UInt8), (0 : UInt8), b8 q, b8 p]))) ++ [(0 : UInt8), (0 : UInt8)] ++ List.take (List.length (f ++ t)) (List.drop (0 : Nat) (f ++ t))))))]) ++ List.take (List.length (f ++ t)) (List.drop (0 : Nat) (f ++ t))) = ((12 : Nat) + List.length (f ++ t)) * (1 : Nat)) ∧ K (.tup [.sl (0 : Nat) (0 : Nat) ((12 : Nat) + List.length (f ++ t) + List.length b) (1 : Nat), .int .i64 0]) [.bytes ([(69 : UInt8), (0 : UInt8)] ++ List.take (2 : Nat) (List.drop (0 : Nat) [b8 (((20 : Int) + (↑(List.length b) : Int)) / (256 : Int)), b8 ((20 : Int) + (↑(List.length b) : Int))]) ++ List.take (6 : Nat) (List.drop (0 : Nat) [(0 : UInt8), (0 : UInt8), (64 : UInt8), (0 : UInt8), b8 q, b8 p]) ++ List.take (2 : Nat) (List.drop (0 : Nat) [b8 (((65535 : Int) - sumB (List.take ((12 : Nat) + List.length (f ++ t)) (List.drop (0 : Nat) ([] ++ List.take (10 : Nat) (List.drop (0 : Nat) ([(69 : UInt8), (0 : UInt8)] ++ List.take (2 : Nat) (List.drop (0 : Nat) [b8 (((20 : Int) + (↑(List.length b) : Int)) / (256 : Int)), b8 ((20 : Int) + (↑(List.length b) : Int))]) ++ List.take (6 : Nat) (List.drop (0 : Nat) [(0 : UInt8), (0 : UInt8), (64 : UInt8), (0 : UInt8), b8 q, b8 p]))) ++ [(0 : UInt8), (0 : UInt8)] ++ List.take (List.length (f ++ t)) (List.drop (0 : Nat) (f ++ t)))))) / (256 : Int)), b8 ((65535 : Int) - sumB (List.take ((12 : Nat) + List.length (f ++ t)) (List.drop (0 : Nat) ([] ++ List.take (10 : Nat) (List.drop (0 : Nat) ([(69 : UInt8), (0 : UInt8)] ++ List.take (2 : Nat) (List.drop (0 : Nat) [b8 (((20 : Int) + (↑(List.length b) : Int)) / (256 : Int)), b8 ((20 : Int) + (↑(List.length b) : Int))]) ++ List.take (6 : Nat) (List.drop (0 : Nat) [(0 : UInt8), (0 : UInt8), (64 : UInt8), (0 : UInt8), b8 q, b8 p]))) ++ [(0 : UInt8), (0 : UInt8)] ++ List.take (List.length (f ++ t)) (List.drop (0 : Nat) (f ++ t))))))]) ++ List.take (List.length (f ++ t)) (List.drop (0 : Nat) (f ++ t)) ++ b)]))))))))
 (brP (!decide ((↑(List.length t) : Int) = (16 : Int))) (K (.tup [.nilS, .int .i64 1]) []) (brP (!decide ((↑(List.length f) : Int) = (↑(List.length t) : Int))) (K (.tup [.nilS, .int .i64 1]) []) (brP (decide (p < (0 : Int))) (K (.tup [.nilS, .int .i64 1]) []) (brP (decide ((255 : Int) < p)) (K (.tup [.nilS, .int .i64 1]) []) (brP (decide (q < (0 : Int))) (K (.tup [.nilS, .int .i64 1]) []) (brP (decide ((255 : Int) < q)) (K (.tup [.nilS, .int .i64 1]) []) (brP (decide ((↑(List.length f) : Int) = (16 : Int))) (brP (decide ((1460 : Int) < (↑(List.length b) : Int))) (K (.tup [.nilS, .int .i64 1]) []) (((6 : Nat) ≤ (140737488355328 : Nat) ∧ (4 : Nat) = (4 : Nat)) ∧ ((8 : Nat) ≤ (140737488355328 : Nat) ∧ (6 : Nat) = (6 : Nat)) ∧ List.length f + List.length t ≤ (4611686018427387904 : Nat) ∧ List.length (f ++ t) + List.length b ≤ (4611686018427387904 : Nat) ∧ (((8 : Nat) + List.length (f ++ t ++ b)) * (1 : Nat) ≤ (140737488355328 : Nat) ∧ (8 : Nat) = (8 : Nat)) ∧ K (.tup [.sl (0 : Nat) (0 : Nat) ((8 : Nat) + List.length (f ++ t ++ b)) (1 : Nat), .int .i64 0]) [.bytes ([(96 : UInt8), (0 : UInt8), (0 : UInt8), (0 : UInt8)] ++ List.take (2 : Nat) (List.drop (0 : Nat) [b8 ((↑(List.length b) : Int) / (256 : Int)), b8 (↑(List.length b) : Int)]) ++ List.take (2 : Nat) (List.drop (0 : Nat) [b8 p, b8 q]) ++ (f ++ t ++ b))])) (brP (decide ((1480 : Int) < (↑(List.length b) : Int))) (K (.tup [.nilS, .int .i64 1]) []) (I64 ((20 : Int) + (↑(List.length b) : Int)) ∧ ((4 : Nat) ≤ (140737488355328 : Nat) ∧ (2 : Nat) = (2 : Nat)) ∧ ((10 : Nat) ≤ (140737488355328 : Nat) ∧ (4 : Nat) = (4 : Nat)) ∧ List.length f + List.length t ≤ (4611686018427387904 : Nat) ∧ List.length (f ++ t) ≤ (140737488355328 : Nat) ∧ ((10 : Nat) ≤ (140737488355328 : Nat) ∧ (0 : Nat) = (0 : Nat)) ∧ ((12 : Nat) ≤ (140737488355328 : Nat) ∧ (10 : Nat) = (10 : Nat)) ∧ (((12 : Nat) + List.length (f ++ t)) * (1 : Nat) ≤ (140737488355328 : Nat) ∧ (12 : Nat) = (12 : Nat)) ∧ I64 ((65535 : Int) - sumB
 (List.take ((12 : Nat) + List.length (f ++ t)) (List.drop (0 : Nat) ([] ++ List.take (10 : Nat) (List.drop (0 : Nat) ([(69 : UInt8), (0 : UInt8)] ++ List.take (2 : Nat) (List.drop (0 : Nat) [b8 (((20 : Int) + (↑(List.length b) : Int)) / (256 : Int)), b8 ((20 : Int) + (↑(List.length b) : Int))]) ++ List.take (6 : Nat) (List.drop (0 : Nat) [(0 : UInt8), (0 : UInt8), (64 : UInt8), (0 : UInt8), b8 q, b8 p]))) ++ [(0 : UInt8), (0 : UInt8)] ++ List.take (List.length (f ++ t)) (List.drop (0 : Nat) (f ++ t)))))) ∧ ((12 : Nat) ≤ (140737488355328 : Nat) ∧ (10 : Nat) = (10 : Nat)) ∧ (((12 : Nat) + List.length (f ++ t)) * (1 : Nat) ≤ (140737488355328 : Nat) ∧ (12 : Nat) = (12 : Nat)) ∧ (((12 : Nat) + List.length (f ++ t) + List.length b) * (1 : Nat) ≤ (140737488355328 : Nat) ∧ List.length ([(69 : UInt8), (0 : UInt8)] ++ List.take (2 : Nat) (List.drop (0 : Nat) [b8 (((20 : Int) + (↑(List.length b) : Int)) / (256 : Int)), b8 ((20 : Int) + (↑(List.length b) : Int))]) ++ List.take (6 : Nat) (List.drop (0 : Nat) [(0 : UInt8), (0 : UInt8), (64 : UInt8), (0 : UInt8), b8 q, b8 p]) ++ List.take (2 : Nat) (List.drop (0 : Nat) [b8 (((65535 : Int) - sumB (List.take ((12 : Nat) + List.length (f ++ t)) (List.drop (0 : Nat) ([] ++ List.take (10 : Nat) (List.drop (0 : Nat) ([(69 : UInt8), (0 : UInt8)] ++ List.take (2 : Nat) (List.drop (0 : Nat) [b8 (((20 : Int) + (↑(List.length b) : Int)) / (256 : Int)), b8 ((20 : Int) + (↑(List.length b) : Int))]) ++ List.take (6 : Nat) (List.drop (0 : Nat) [(0 : UInt8), (0 : UInt8), (64 : UInt8), (0 : UInt8), b8 q, b8 p]))) ++ [(0 : UInt8), (0 : UInt8)] ++ List.take (List.length (f ++ t)) (List.drop (0 : Nat) (f ++ t)))))) / (256 : Int)), b8 ((65535 : Int) - sumB (List.take ((12 : Nat) + List.length (f ++ t)) (List.drop (0 : Nat) ([] ++ List.take (10 : Nat) (List.drop (0 : Nat) ([(69 : UInt8), (0 : UInt8)] ++ List.take (2 : Nat) (List.drop (0 : Nat) [b8 (((20 : Int) + (↑(List.length b) : Int)) / (256 : Int)), b8 ((20 : Int) + (↑(List.length b) : Int))]) ++
 List.take (6 : Nat) (List.drop (0 : Nat) [(0 : UInt8), (0 : UInt8), (64 : UInt8), (0 : UInt8), b8 q, b8 p]))) ++ [(0 : UInt8), (0 : UInt8)] ++ List.take (List.length (f ++ t)) (List.drop (0 : Nat) (f ++ t))))))]) ++ List.take (List.length (f ++ t)) (List.drop (0 : Nat) (f ++ t))) = ((12 : Nat) + List.length (f ++ t)) * (1 : Nat)) ∧ K (.tup [.sl (0 : Nat) (0 : Nat) ((12 : Nat) + List.length (f ++ t) + List.length b) (1 : Nat), .int .i64 0]) [.bytes ([(69 : UInt8), (0 : UInt8)] ++ List.take (2 : Nat) (List.drop (0 : Nat) [b8 (((20 : Int) + (↑(List.length b) : Int)) / (256 : Int)), b8 ((20 : Int) + (↑(List.length b) : Int))]) ++ List.take (6 : Nat) (List.drop (0 : Nat) [(0 : UInt8), (0 : UInt8), (64 : UInt8), (0 : UInt8), b8 q, b8 p]) ++ List.take (2 : Nat) (List.drop (0 : Nat) [b8 (((65535 : Int) - sumB (List.take ((12 : Nat) + List.length (f ++ t)) (List.drop (0 : Nat) ([] ++ List.take (10 : Nat) (List.drop (0 : Nat) ([(69 : UInt8), (0 : UInt8)] ++ List.take (2 : Nat) (List.drop (0 : Nat) [b8 (((20 : Int) + (↑(List.length b) : Int)) / (256 : Int)), b8 ((20 : Int) + (↑(List.length b) : Int))]) ++ List.take (6 : Nat) (List.drop (0 : Nat) [(0 : UInt8), (0 : UInt8), (64 : UInt8), (0 : UInt8), b8 q, b8 p]))) ++ [(0 : UInt8), (0 : UInt8)] ++ List.take (List.length (f ++ t)) (List.drop (0 : Nat) (f ++ t)))))) / (256 : Int)), b8 ((65535 : Int) - sumB (List.take ((12 : Nat) + List.length (f ++ t)) (List.drop (0 : Nat) ([] ++ List.take (10 : Nat) (List.drop (0 : Nat) ([(69 : UInt8), (0 : UInt8)] ++ List.take (2 : Nat) (List.drop (0 : Nat) [b8 (((20 : Int) + (↑(List.length b) : Int)) / (256 : Int)), b8 ((20 : Int) + (↑(List.length b) : Int))]) ++ List.take (6 : Nat) (List.drop (0 : Nat) [(0 : UInt8), (0 : UInt8), (64 : UInt8), (0 : UInt8), b8 q, b8 p]))) ++ [(0 : UInt8), (0 : UInt8)] ++ List.take (List.length (f ++ t)) (List.drop (0 : Nat) (f ++ t))))))]) ++ List.take (List.length (f ++ t)) (List.drop (0 : Nat) (f ++ t)) ++ b)]))))))))))
 (brP (!decide ((↑(List.length f) : Int) = (16 : Int))) (K (.tup [.nilS, .int .i64 1]) []) (brP (decide ((↑(List.length t) : Int) = (4 : Int))) (brP (!decide ((↑(List.length f) : Int) = (↑(List.length t) : Int))) (K (.tup [.nilS, .int .i64 1]) []) (brP (decide (p < (0 : Int))) (K (.tup [.nilS, .int .i64 1]) []) (brP (decide ((255 : Int) < p)) (K (.tup [.nilS, .int .i64 1]) []) (brP (decide (q < (0 : Int))) (K (.tup [.nilS, .int .i64 1]) []) (brP (decide ((255 : Int) < q)) (K (.tup [.nilS, .int .i64 1]) []) (brP (decide ((↑(List.length f) : Int) = (16 : Int))) (brP (decide ((1460 : Int) < (↑(List.length b) : Int))) (K (.tup [.nilS, .int .i64 1]) []) (((6 : Nat) ≤ (140737488355328 : Nat) ∧ (4 : Nat) = (4 : Nat)) ∧ ((8 : Nat) ≤ (140737488355328 : Nat) ∧ (6 : Nat) = (6 : Nat)) ∧ List.length f + List.length t ≤ (4611686018427387904 : Nat) ∧ List.length (f ++ t) + List.length b ≤ (4611686018427387904 : Nat) ∧ (((8 : Nat) + List.length (f ++ t ++ b)) * (1 : Nat) ≤ (140737488355328 : Nat) ∧ (8 : Nat) = (8 : Nat)) ∧ K (.tup [.sl (0 : Nat) (0 : Nat) ((8 : Nat) + List.length (f ++ t ++ b)) (1 : Nat), .int .i64 0]) [.bytes ([(96 : UInt8), (0 : UInt8), (0 : UInt8), (0 : UInt8)] ++ List.take (2 : Nat) (List.drop (0 : Nat) [b8 ((↑(List.length b) : Int) / (256 : Int)), b8 (↑(List.length b) : Int)]) ++ List.take (2 : Nat) (List.drop (0 : Nat) [b8 p, b8 q]) ++ (f ++ t ++ b))])) (brP (decide ((1480 : Int) < (↑(List.length b) : Int))) (K (.tup [.nilS, .int .i64 1]) []) (I64 ((20 : Int) + (↑(List.length b) : Int)) ∧ ((4 : Nat) ≤ (140737488355328 : Nat) ∧ (2 : Nat) = (2 : Nat)) ∧ ((10 : Nat) ≤ (140737488355328 : Nat) ∧ (4 : Nat) = (4 : Nat)) ∧ List.length f + List.length t ≤ (4611686018427387904 : Nat) ∧ List.length (f ++ t) ≤ (140737488355328 : Nat) ∧ ((10 : Nat) ≤ (140737488355328 : Nat) ∧ (0 : Nat) = (0 : Nat)) ∧ ((12 : Nat) ≤ (140737488355328 : Nat) ∧ (10 : Nat) = (10 : Nat)) ∧ (((12 : Nat) + List.length (f ++ t)) * (1 : Nat) ≤ (140737488355328 : Nat) ∧ (12 : Nat) = (12 : Nat)) ∧ I64
 ((65535 : Int) - sumB (List.take ((12 : Nat) + List.length (f ++ t)) (List.drop (0 : Nat) ([] ++ List.take (10 : Nat) (List.drop (0 : Nat) ([(69 : UInt8), (0 : UInt8)] ++ List.take (2 : Nat) (List.drop (0 : Nat) [b8 (((20 : Int) + (↑(List.length b) : Int)) / (256 : Int)), b8 ((20 : Int) + (↑(List.length b) : Int))]) ++ List.take (6 : Nat) (List.drop (0 : Nat) [(0 : UInt8), (0 : UInt8), (64 : UInt8), (0 : UInt8), b8 q, b8 p]))) ++ [(0 : UInt8), (0 : UInt8)] ++ List.take (List.length (f ++ t)) (List.drop (0 : Nat) (f ++ t)))))) ∧ ((12 : Nat) ≤ (140737488355328 : Nat) ∧ (10 : Nat) = (10 : Nat)) ∧ (((12 : Nat) + List.length (f ++ t)) * (1 : Nat) ≤ (140737488355328 : Nat) ∧ (12 : Nat) = (12 : Nat)) ∧ (((12 : Nat) + List.length (f ++ t) + List.length b) * (1 : Nat) ≤ (140737488355328 : Nat) ∧ List.length ([(69 : UInt8), (0 : UInt8)] ++ List.take (2 : Nat) (List.drop (0 : Nat) [b8 (((20 : Int) + (↑(List.length b) : Int)) / (256 : Int)), b8 ((20 : Int) + (↑(List.length b) : Int))]) ++ List.take (6 : Nat) (List.drop (0 : Nat) [(0 : UInt8), (0 : UInt8), (64 : UInt8), (0 : UInt8), b8 q, b8 p]) ++ List.take (2 : Nat) (List.drop (0 : Nat) [b8 (((65535 : Int) - sumB (List.take ((12 : Nat) + List.length (f ++ t)) (List.drop (0 : Nat) ([] ++ List.take (10 : Nat) (List.drop (0 : Nat) ([(69 : UInt8), (0 : UInt8)] ++ List.take (2 : Nat) (List.drop (0 : Nat) [b8 (((20 : Int) + (↑(List.length b) : Int)) / (256 : Int)), b8 ((20 : Int) + (↑(List.length b) : Int))]) ++ List.take (6 : Nat) (List.drop (0 : Nat) [(0 : UInt8), (0 : UInt8), (64 : UInt8), (0 : UInt8), b8 q, b8 p]))) ++ [(0 : UInt8), (0 : UInt8)] ++ List.take (List.length (f ++ t)) (List.drop (0 : Nat) (f ++ t)))))) / (256 : Int)), b8 ((65535 : Int) - sumB (List.take ((12 : Nat) + List.length (f ++ t)) (List.drop (0 : Nat) ([] ++ List.take (10 : Nat) (List.drop (0 : Nat) ([(69 : UInt8), (0 : UInt8)] ++ List.take (2 : Nat) (List.drop (0 : Nat) [b8 (((20 : Int) + (↑(List.length b) : Int)) / (256 : Int)),
 b8 ((20 : Int) + (↑(List.length b) : Int))]) ++ List.take (6 : Nat) (List.drop (0 : Nat) [(0 : UInt8), (0 : UInt8), (64 : UInt8), (0 : UInt8), b8 q, b8 p]))) ++ [(0 : UInt8), (0 : UInt8)] ++ List.take (List.length (f ++ t)) (List.drop (0 : Nat) (f ++ t))))))]) ++ List.take (List.length (f ++ t)) (List.drop (0 : Nat) (f ++ t))) = ((12 : Nat) + List.length (f ++ t)) * (1 : Nat)) ∧ K (.tup [.sl (0 : Nat) (0 : Nat) ((12 : Nat) + List.length (f ++ t) + List.length b) (1 : Nat), .int .i64 0]) [.bytes ([(69 : UInt8), (0 : UInt8)] ++ List.take (2 : Nat) (List.drop (0 : Nat) [b8 (((20 : Int) + (↑(List.length b) : Int)) / (256 : Int)), b8 ((20 : Int) + (↑(List.length b) : Int))]) ++ List.take (6 : Nat) (List.drop (0 : Nat) [(0 : UInt8), (0 : UInt8), (64 : UInt8), (0 : UInt8), b8 q, b8 p]) ++ List.take (2 : Nat) (List.drop (0 : Nat) [b8 (((65535 : Int) - sumB (List.take ((12 : Nat) + List.length (f ++ t)) (List.drop (0 : Nat) ([] ++ List.take (10 : Nat) (List.drop (0 : Nat) ([(69 : UInt8), (0 : UInt8)] ++ List.take (2 : Nat) (List.drop (0 : Nat) [b8 (((20 : Int) + (↑(List.length b) : Int)) / (256 : Int)), b8 ((20 : Int) + (↑(List.length b) : Int))]) ++ List.take (6 : Nat) (List.drop (0 : Nat) [(0 : UInt8), (0 : UInt8), (64 : UInt8), (0 : UInt8), b8 q, b8 p]))) ++ [(0 : UInt8), (0 : UInt8)] ++ List.take (List.length (f ++ t)) (List.drop (0 : Nat) (f ++ t)))))) / (256 : Int)), b8 ((65535 : Int) - sumB (List.take ((12 : Nat) + List.length (f ++ t)) (List.drop (0 : Nat) ([] ++ List.take (10 : Nat) (List.drop (0 : Nat) ([(69 : UInt8), (0 : UInt8)] ++ List.take (2 : Nat) (List.drop (0 : Nat) [b8 (((20 : Int) + (↑(List.length b) : Int)) / (256 : Int)), b8 ((20 : Int) + (↑(List.length b) : Int))]) ++ List.take (6 : Nat) (List.drop (0 : Nat) [(0 : UInt8), (0 : UInt8), (64 : UInt8), (0 : UInt8), b8 q, b8 p]))) ++ [(0 : UInt8), (0 : UInt8)] ++ List.take (List.length (f ++ t)) (List.drop (0 : Nat) (f ++ t))))))]) ++ List.take (List.length (f ++ t)) (List.drop (0 : Nat) (f ++ t)) ++
 b)])))))))) (brP (!decide ((↑(List.length t) : Int) = (16 : Int))) (K (.tup [.nilS, .int .i64 1]) []) (brP (!decide ((↑(List.length f) : Int) = (↑(List.length t) : Int))) (K (.tup [.nilS, .int .i64 1]) []) (brP (decide (p < (0 : Int))) (K (.tup [.nilS, .int .i64 1]) []) (brP (decide ((255 : Int) < p)) (K (.tup [.nilS, .int .i64 1]) []) (brP (decide (q < (0 : Int))) (K (.tup [.nilS, .int .i64 1]) []) (brP (decide ((255 : Int) < q)) (K (.tup [.nilS, .int .i64 1]) []) (brP (decide ((↑(List.length f) : Int) = (16 : Int))) (brP (decide ((1460 : Int) < (↑(List.length b) : Int))) (K (.tup [.nilS, .int .i64 1]) []) (((6 : Nat) ≤ (140737488355328 : Nat) ∧ (4 : Nat) = (4 : Nat)) ∧ ((8 : Nat) ≤ (140737488355328 : Nat) ∧ (6 : Nat) = (6 : Nat)) ∧ List.length f + List.length t ≤ (4611686018427387904 : Nat) ∧ List.length (f ++ t) + List.length b ≤ (4611686018427387904 : Nat) ∧ (((8 : Nat) + List.length (f ++ t ++ b)) * (1 : Nat) ≤ (140737488355328 : Nat) ∧ (8 : Nat) = (8 : Nat)) ∧ K (.tup [.sl (0 : Nat) (0 : Nat) ((8 : Nat) + List.length (f ++ t ++ b)) (1 : Nat), .int .i64 0]) [.bytes ([(96 : UInt8), (0 : UInt8), (0 : UInt8), (0 : UInt8)] ++ List.take (2 : Nat) (List.drop (0 : Nat) [b8 ((↑(List.length b) : Int) / (256 : Int)), b8 (↑(List.length b) : Int)]) ++ List.take (2 : Nat) (List.drop (0 : Nat) [b8 p, b8 q]) ++ (f ++ t ++ b))])) (brP (decide ((1480 : Int) < (↑(List.length b) : Int))) (K (.tup [.nilS, .int .i64 1]) []) (I64 ((20 : Int) + (↑(List.length b) : Int)) ∧ ((4 : Nat) ≤ (140737488355328 : Nat) ∧ (2 : Nat) = (2 : Nat)) ∧ ((10 : Nat) ≤ (140737488355328 : Nat) ∧ (4 : Nat) = (4 : Nat)) ∧ List.length f + List.length t ≤ (4611686018427387904 : Nat) ∧ List.length (f ++ t) ≤ (140737488355328 : Nat) ∧ ((10 : Nat) ≤ (140737488355328 : Nat) ∧ (0 : Nat) = (0 : Nat)) ∧ ((12 : Nat) ≤ (140737488355328 : Nat) ∧ (10 : Nat) = (10 : Nat)) ∧ (((12 : Nat) + List.length (f ++ t)) * (1 : Nat) ≤ (140737488355328 : Nat) ∧ (12 : Nat) = (12 : Nat)) ∧ I64 ((65535 : Int) - sumB
 (List.take ((12 : Nat) + List.length (f ++ t)) (List.drop (0 : Nat) ([] ++ List.take (10 : Nat) (List.drop (0 : Nat) ([(69 : UInt8), (0 : UInt8)] ++ List.take (2 : Nat) (List.drop (0 : Nat) [b8 (((20 : Int) + (↑(List.length b) : Int)) / (256 : Int)), b8 ((20 : Int) + (↑(List.length b) : Int))]) ++ List.take (6 : Nat) (List.drop (0 : Nat) [(0 : UInt8), (0 : UInt8), (64 : UInt8), (0 : UInt8), b8 q, b8 p]))) ++ [(0 : UInt8), (0 : UInt8)] ++ List.take (List.length (f ++ t)) (List.drop (0 : Nat) (f ++ t)))))) ∧ ((12 : Nat) ≤ (140737488355328 : Nat) ∧ (10 : Nat) = (10 : Nat)) ∧ (((12 : Nat) + List.length (f ++ t)) * (1 : Nat) ≤ (140737488355328 : Nat) ∧ (12 : Nat) = (12 : Nat)) ∧ (((12 : Nat) + List.length (f ++ t) + List.length b) * (1 : Nat) ≤ (140737488355328 : Nat) ∧ List.length ([(69 : UInt8), (0 : UInt8)] ++ List.take (2 : Nat) (List.drop (0 : Nat) [b8 (((20 : Int) + (↑(List.length b) : Int)) / (256 : Int)), b8 ((20 : Int) + (↑(List.length b) : Int))]) ++ List.take (6 : Nat) (List.drop (0 : Nat) [(0 : UInt8), (0 : UInt8), (64 : UInt8), (0 : UInt8), b8 q, b8 p]) ++ List.take (2 : Nat) (List.drop (0 : Nat) [b8 (((65535 : Int) - sumB (List.take ((12 : Nat) + List.length (f ++ t)) (List.drop (0 : Nat) ([] ++ List.take (10 : Nat) (List.drop (0 : Nat) ([(69 : UInt8), (0 : UInt8)] ++ List.take (2 : Nat) (List.drop (0 : Nat) [b8 (((20 : Int) + (↑(List.length b) : Int)) / (256 : Int)), b8 ((20 : Int) + (↑(List.length b) : Int))]) ++ List.take (6 : Nat) (List.drop (0 : Nat) [(0 : UInt8), (0 : UInt8), (64 : UInt8), (0 : UInt8), b8 q, b8 p]))) ++ [(0 : UInt8), (0 : UInt8)] ++ List.take (List.length (f ++ t)) (List.drop (0 : Nat) (f ++ t)))))) / (256 : Int)), b8 ((65535 : Int) - sumB (List.take ((12 : Nat) + List.length (f ++ t)) (List.drop (0 : Nat) ([] ++ List.take (10 : Nat) (List.drop (0 : Nat) ([(69 : UInt8), (0 : UInt8)] ++ List.take (2 : Nat) (List.drop (0 : Nat) [b8 (((20 : Int) + (↑(List.length b) : Int)) / (256 : Int)), b8 ((20 : Int) + (↑(List.length b) : Int))]) ++
 List.take (6 : Nat) (List.drop (0 : Nat) [(0 : UInt8), (0 : UInt8), (64 : UInt8), (0 : UInt8), b8 q, b8 p]))) ++ [(0 : UInt8), (0 : UInt8)] ++ List.take (List.length (f ++ t)) (List.drop (0 : Nat) (f ++ t))))))]) ++ List.take (List.length (f ++ t)) (List.drop (0 : Nat) (f ++ t))) = ((12 : Nat) + List.length (f ++ t)) * (1 : Nat)) ∧ K (.tup [.sl (0 : Nat) (0 : Nat) ((12 : Nat) + List.length (f ++ t) + List.length b) (1 : Nat), .int .i64 0]) [.bytes ([(69 : UInt8), (0 : UInt8)] ++ List.take (2 : Nat) (List.drop (0 : Nat) [b8 (((20 : Int) + (↑(List.length b) : Int)) / (256 : Int)), b8 ((20 : Int) + (↑(List.length b) : Int))]) ++ List.take (6 : Nat) (List.drop (0 : Nat) [(0 : UInt8), (0 : UInt8), (64 : UInt8), (0 : UInt8), b8 q, b8 p]) ++ List.take (2 : Nat) (List.drop (0 : Nat) [b8 (((65535 : Int) - sumB (List.take ((12 : Nat) + List.length (f ++ t)) (List.drop (0 : Nat) ([] ++ List.take (10 : Nat) (List.drop (0 : Nat) ([(69 : UInt8), (0 : UInt8)] ++ List.take (2 : Nat) (List.drop (0 : Nat) [b8 (((20 : Int) + (↑(List.length b) : Int)) / (256 : Int)), b8 ((20 : Int) + (↑(List.length b) : Int))]) ++ List.take (6 : Nat) (List.drop (0 : Nat) [(0 : UInt8), (0 : UInt8), (64 : UInt8), (0 : UInt8), b8 q, b8 p]))) ++ [(0 : UInt8), (0 : UInt8)] ++ List.take (List.length (f ++ t)) (List.drop (0 : Nat) (f ++ t)))))) / (256 : Int)), b8 ((65535 : Int) - sumB (List.take ((12 : Nat) + List.length (f ++ t)) (List.drop (0 : Nat) ([] ++ List.take (10 : Nat) (List.drop (0 : Nat) ([(69 : UInt8), (0 : UInt8)] ++ List.take (2 : Nat) (List.drop (0 : Nat) [b8 (((20 : Int) + (↑(List.length b) : Int)) / (256 : Int)), b8 ((20 : Int) + (↑(List.length b) : Int))]) ++ List.take (6 : Nat) (List.drop (0 : Nat) [(0 : UInt8), (0 : UInt8), (64 : UInt8), (0 : UInt8), b8 q, b8 p]))) ++ [(0 : UInt8), (0 : UInt8)] ++ List.take (List.length (f ++ t)) (List.drop (0 : Nat) (f ++ t))))))]) ++ List.take (List.length (f ++ t)) (List.drop (0 : Nat) (f ++ t)) ++ b)])))))))))))) := by kernel_rfl
theorem outriderref03_Encode_p : ∀ args H K, ipEncRow args H K → fnP Try.prog Tip15 ann_outriderref03_Encode Try.f52 args H K := by
  intro args H K h
  unfold ipEncRow at h
  split at h
  · rename_i f t p q b
    rw [ref03_Encode_eq]
    try simp only [or_w16, div2, div3, add_w16, and255, b8_mod, List.set_cons_zero, List.set_cons_succ, andNot_4000, getD_drop, getD_take, b8_byte, b8_toNatN, UInt8.toNat_ofNat', UInt8.toNat_and, nat_mask4, u8_eq_iff, UInt8.reduceToNat, Int.reduceLT, List.take_succ_cons, List.take_zero, List.drop_zero, List.flatten_cons, List.flatten_nil, List.append_nil, Nat.mul_one, Nat.zero_add, Nat.reduceAdd, Nat.reduceLT]
    revert h; intro hK
    have L1 : (ipHead4 ⟨f, t, p, q, b⟩).length = 12 + f.length + t.length := by simp [ipHead4]; omega
    rcases ipEnc_cases hK with ⟨h1, h2⟩ | ⟨h1, h2⟩ <;> rw [ipOk_iff] at h1 <;> simp only at h1
    · have hft : List.take (f.length + t.length) (f ++ t) = f ++ t := List.take_of_length_le (by simp)
      by_cases h16 : f.length = 16
      · rw [show ipBytes ⟨f, t, p, q, b⟩ = ipBytes6 ⟨f, t, p, q, b⟩ from if_pos h16] at h2
        have L6 : (ipBytes6 ⟨f, t, p, q, b⟩).length = 8 + (f.length + t.length) + b.length := by simp [ipBytes6]; omega
        rw [L6] at h2
        repeat' first
          | (refine And.intro (by first | omega | with_reducible exact i64_x256 _ | with_reducible exact i64_w16 _ _ | with_reducible exact i64_sum _ | (repeat' first | with_reducible exact i64_x256 _ | with_reducible exact i64_w16 _ _ | with_reducible exact i64_sum _ | with_reducible apply And.intro) <;> first | omega | (simp only [I64]; omega) | (simp; omega) | (simp; done) | (simp [I64]; omega)) ?_)
          | (refine brP_d (fun h => ?_) (fun h => ?_))
          | (refine brP_nd (fun h => ?_) (fun h => ?_))
          | (refine brP_i (fun h => ?_) (fun h => ?_))
        all_goals first
          | (exfalso; omega)
          | skip
        all_goals refine endK_eq h2 ?_ ?_
        all_goals simp [ipBytes6]
        all_goals omega
      · rw [show ipBytes ⟨f, t, p, q, b⟩ = ipBytes4 ⟨f, t, p, q, b⟩ from if_neg h16] at h2
        have L4 : (ipBytes4 ⟨f, t, p, q, b⟩).length = 12 + (f.length + t.length) + b.length := by simp [ipBytes4, L1]; omega
        rw [L4] at h2
        repeat' first
          | (refine And.intro (by first | omega | with_reducible exact i64_x256 _ | with_reducible exact i64_w16 _ _ | with_reducible exact i64_sum _ | (repeat' first | with_reducible exact i64_x256 _ | with_reducible exact i64_w16 _ _ | with_reducible exact i64_sum _ | with_reducible apply And.intro) <;> first | omega | (simp only [I64]; omega) | (simp; omega) | (simp; done) | (simp [I64]; omega)) ?_)
          | (refine brP_d (fun h => ?_) (fun h => ?_))
          | (refine brP_nd (fun h => ?_) (fun h => ?_))
          | (refine brP_i (fun h => ?_) (fun h => ?_))
        all_goals first
          | (exfalso; omega)
          | skip
        all_goals refine endK_eq h2 ?_ ?_
        · simp
        · have hft2 : ∀ l : List UInt8, l.length = 12 + (f.length + t.length) → List.take (12 + (f.length + t.length)) l = l := fun l h => List.take_of_length_le (by omega)
          simp [ipBytes4, ipSum4, ipHead4, hft]
          rw [hft2 _ (by simp; omega)]
          exact ⟨rfl, rfl⟩
    · repeat' first
        | (refine And.intro (by first | omega | with_reducible exact i64_x256 _ | with_reducible exact i64_w16 _ _ | with_reducible exact i64_sum _ | (repeat' first | with_reducible exact i64_x256 _ | with_reducible exact i64_w16 _ _ | with_reducible exact i64_sum _ | with_reducible apply And.intro) <;> first | omega | (simp only [I64]; omega) | (simp; omega) | (simp; done) | (simp [I64]; omega)) ?_)
        | (refine brP_d (fun h => ?_) (fun h => ?_))
        | (refine brP_nd (fun h => ?_) (fun h => ?_))
        | (refine brP_i (fun h => ?_) (fun h => ?_))
      all_goals first
        | exact h2
        | (exfalso; omega)
  · exact h.elim
def Tip16 : Specs := ext Tip15 52 (ipEncRow)
theorem Tip16_sound : TSound Try.prog Tip16 := ext_sound Tip15_sound (row_of Tip15_sound mixed Try.func52 (by decide +kernel) outriderref03_Encode_p)
abbrev Tip : Specs := Tip16
theorem Tip_sound : TSound Try.prog Tip := Tip16_sound
end Go.Proofs.Ytnbbaemijogeoaa.Ae

