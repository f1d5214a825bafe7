/- Drawn regions: one more operation. No program in sight. -/
import Derived.Test.YtcooilllmcgcmaaAeX
namespace Go.Proofs.Ytcooilllmcgcmaa.Ae
open Go
section
variable {X : Cx} {ops : Array Oper} {pss : List (List Nat)} {env0 : Env} {H : Hp}

/-- what holds of the text's run -/
structure Ran (X : Cx) (ops : Array Oper) (pss : List (List Nat)) (env0 : Env) (H : Hp) (Df : List Done) : Prop where
  ok : DOk X ops pss env0 H Df
  dist : Dist Df
  base : allLt (refsBs H) H.length = true
  env : ∀ t, ∀ j ∈ refs (eget t env0), j < H.length
  und : ∀ d ∈ Df, ∀ t, d.dst = some t → eget t env0 = .undef
  tr : ∀ i, i < Df.length → ∀ j ∈ nthL i pss, j < i ∧ ∀ k ∈ nthL j pss, k ∈ nthL i pss
  dst : ∀ d ∈ Df, dstOk X.nt d.dst = true

/-- the state when some have run -/
def At (R1 : Nat → Prop) (w1 : World) (m1 : Mp) (H : Hp) (env0 : Env) (Df : List Done) (p : Nat → Bool) (a : Act) (w : World) : Prop :=
  ∃ R m, Far R1 w1 m1 H R w m (mHeap p H Df) ∧ EnvR R w m (mHeap p H Df) (mEnv p env0 Df) a ∧ ∀ pre d D, Df = pre ++ d :: D → p d.i = false → ∀ q, q < d.news.length → m ((mHeap p H D).length + q) = none

theorem mEnv_congr {p q : Nat → Bool} {t : Nat} : ∀ {D : List Done}, (∀ e ∈ D, e.dst = some t → p e.i = q e.i) → eget t (mEnv p env0 D) = eget t (mEnv q env0 D)
  | [], _ => rfl
  | e :: D, h => by
    have ih := mEnv_congr (p := p) (q := q) (t := t) (D := D) (fun f hf => h f (List.mem_cons_of_mem _ hf))
    have put : ∀ env : Env, e.dst ≠ some t → eget t (putEnv e.dst e.v env) = eget t env := fun env hne => by
      cases hd : e.dst with
      | none => rfl
      | some u =>
        simp only [putEnv, eget]
        cases hb : Nat.beq t u with
        | false => rfl
        | true => have := Nat.eq_of_beq_eq_true hb; subst this; exact absurd hd hne
    simp only [mEnv]
    by_cases hd : e.dst = some t
    · rw [h e (List.mem_cons_self ..) hd]
      cases q e.i with
      | false => exact ih
      | true => simp only [cond_true, hd, putEnv, eget, Nat.beq_refl]
    · cases p e.i <;> cases q e.i <;> simp only [cond_true, cond_false] <;> (try rw [put _ hd]) <;> (try rw [put _ hd]) <;> exact ih

theorem split_mem {e : Done} {D : List Done} (h : e ∈ D) : ∃ pre D', D = pre ++ e :: D' := List.append_of_mem h

theorem Ran.own {Df : List Done} (r : Ran X ops pss env0 H Df) {p : Nat → Bool} {e : Done} {t : Nat} (he : e ∈ Df) (hp : p e.i = true) (hd : e.dst = some t) : eget t (mEnv p env0 Df) = e.v := by
  obtain ⟨pre, D', rfl⟩ := split_mem he
  exact mEnv_own (r.dist.pre (DOk.apart r.ok).1 hd) hp hd
open Classical in
theorem Ran.envRefs {Df : List Done} (r : Ran X ops pss env0 H Df) {p : Nat → Bool} (hc : Clo pss p Df.length) (t : Nat) : ∀ j ∈ refs (eget t (mEnv p env0 Df)), In H.length (mHeap p H Df) j := by
  by_cases h : ∃ e ∈ Df, p e.i = true ∧ e.dst = some t
  · obtain ⟨e, he, hp, hd⟩ := h
    rw [r.own he hp hd]
    obtain ⟨pre, D', rfl⟩ := split_mem he
    exact val_refs r.ok hc hp
  · rw [mEnv_no fun d hd hp hdt => h ⟨d, hd, hp, hdt⟩]
    exact fun j hj => .inl (r.env t j hj)
theorem Ran.suf {pre D : List Done} (r : Ran X ops pss env0 H (pre ++ D)) : Ran X ops pss env0 H D :=
  ⟨DOk.suffix r.ok, r.dist.suf, r.base, r.env, fun d hd => r.und d (List.mem_append_right _ hd), fun i hi => r.tr i (by simp; omega), fun d hd => r.dst d (List.mem_append_right _ hd)⟩

theorem Ran.fit {pre D : List Done} {d : Done} (r : Ran X ops pss env0 H (pre ++ d :: D)) {p p' : Nat → Bool} (hc : Clo pss p (pre ++ d :: D).length) (hno : p d.i = false) (hps : ∀ j ∈ nthL d.i pss, p j = true)
    (h1 : p' d.i = true) (h2 : ∀ k, k ≠ d.i → p' k = p k) (hn : ∀ j ∈ refsBs d.news, In H.length (mHeap (fun k => elemN k (nthL d.i pss)) H D ++ d.news) j) :
    Fit H.length (mHeap (fun k => elemN k (nthL d.i pss)) H D) (mHeap p H (pre ++ d :: D)) (mHeap p' H (pre ++ d :: D)) d.news := by
  have hl : ∀ q : Nat → Bool, (mHeap (fun k => elemN k (nthL d.i pss)) H D).length = (mHeap q H D).length := fun q => mHeap_length _ _ _ _
  have hap := DOk.apart r.ok
  have hdi : d.i = D.length := (DOk.suffix r.ok).2.1
  have hdl : d.i < (pre ++ d :: D).length := by rw [hdi]; simp; omega
  have low : ∀ (q : Nat → Bool) (k : Nat), k < (mHeap q H D).length → hget k (mHeap q H (pre ++ d :: D)) = hget k (mHeap q H D) := fun q k hk => by
    rw [(mHeap_low q H pre (by rw [mHeap_len_cons]; omega)).1]
    simp only [mHeap]; rw [hget_append_lt hk]
  have at' : ∀ (q : Nat → Bool) (j : Nat), j < d.news.length → hget ((mHeap q H D).length + j) (mHeap q H (pre ++ d :: D)) = cond (q d.i) (hget j d.news) .dead := fun q j hj => by
    rw [(mHeap_low q H pre (by rw [mHeap_len_cons]; omega)).1, mHeap_new]
  refine ⟨mHeap_base_le _ _ _, fun k hk => by rw [mHeap_base _ _ _ hk, mHeap_base _ _ _ hk], fun k hk => ?_, fun q hq => ?_, fun q hq => ?_, fun k hk => ?_, mHeap_length _ _ _ _, ?_, ?_, ?_, fun q hq j hj => hn j (refsBs_get j hj)⟩
  · rw [low p k (by rw [← hl p]; exact hget_lt hk)]
    exact mHeap_live _ p H (fun e _ he => hps e.i (elemN_iff.1 he)) hk
  · rw [hl p, at' p q hq, hno]; rfl
  · rw [hl p', at' p' q hq, h1]; rfl
  · rcases hk with hk | hk
    · rw [low p' k (by rw [← hl p']; exact hk), low p k (by rw [← hl p]; exact hk), mHeap_congr p' p H fun e he => h2 e.i (hap.2 e he)]
    · refine mHeap_high p' p H ?_ fun e he => h2 e.i (hap.1 e he)
      rw [mHeap_len_cons, ← hl p']; exact hk
  · have := mHeap_len_le p H (D := d :: D) pre
    rw [mHeap_len_cons, ← hl p] at this; exact this
  · refine live_refs r.base (DOk.suffix r.ok).1 fun i _ hi j hj => ?_
    have hi' := elemN_iff.1 hi
    exact elemN_iff.2 ((r.tr d.i hdl i hi').2 j hj)
  · exact live_refs r.base r.ok hc

theorem At.step {R1 : Nat → Prop} {w1 : World} {m1 : Mp} {pre D : List Done} {d : Done} (r : Ran X ops pss env0 H (pre ++ d :: D)) {p p' : Nat → Bool} (hc : Clo pss p (pre ++ d :: D).length) (hno : p d.i = false) (hps : ∀ j ∈ nthL d.i pss, p j = true)
    (h1 : p' d.i = true) (h2 : ∀ k, k ≠ d.i → p' k = p k) {a : Act} {w : World} (hsz : a.tmps.size = X.nt) (hA : At R1 w1 m1 H env0 (pre ++ d :: D) p a w) {o : Oper} (hF : Fact X env0 H (nthL d.i pss) o d D) :
    (Want (nthL d.i pss) o D true ∧ gives X.P o a w fun x w' => At R1 w1 m1 H env0 (pre ++ d :: D) p' (a.put d.dst x) w') ∨ (Want (nthL d.i pss) o D false ∧ At R1 w1 m1 H env0 (pre ++ d :: D) p' (a.put d.dst undef) w) := by
  obtain ⟨R, m, F0, hE, hgap⟩ := hA
  have hap := DOk.apart r.ok
  have hdm : d ∈ pre ++ d :: D := List.mem_append_right _ (List.mem_cons_self ..)
  have hdi : d.i = D.length := (DOk.suffix r.ok).2.1
  have hdl : d.i < (pre ++ d :: D).length := by rw [hdi]; simp; omega
  have hdst : dstOk a.tmps.size d.dst = true := by rw [hsz]; exact r.dst d hdm
  have uniq : ∀ e ∈ pre ++ d :: D, e.i = d.i → e = d := fun e he hei => by
    rcases List.mem_append.1 he with h | h
    · exact absurd hei (hap.1 e h)
    · rcases List.mem_cons.1 h with h | h
      · exact h
      · exact absurd hei (hap.2 e h)
  have other : ∀ t, d.dst ≠ some t → eget t (mEnv p' env0 (pre ++ d :: D)) = eget t (mEnv p env0 (pre ++ d :: D)) := fun t ht => mEnv_congr fun e he hed => h2 e.i fun hei => ht (by rw [← uniq e he hei]; exact hed)
  -- the rest, when the new state is given
  have gaps : ∀ (m2 : Mp), (∀ k, (k < (mHeap p H D).length ∨ (mHeap p H D).length + d.news.length ≤ k) → m2 k = m k) → ∀ pre2 d2 D2, pre ++ d :: D = pre2 ++ d2 :: D2 → p' d2.i = false → ∀ q, q < d2.news.length → m2 ((mHeap p' H D2).length + q) = none := by
    intro m2 hm2 pre2 d2 D2 he hp2 q hq
    have hne : d2.i ≠ d.i := fun e => by rw [e, h1] at hp2; cases hp2
    have hok2 : DOk X ops pss env0 H (d2 :: D2) := DOk.suffix (pre := pre2) (by rw [← he]; exact r.ok)
    have hd2 : d2.i = D2.length := hok2.2.1
    rw [mHeap_length p' p, hm2]
    · exact hgap pre2 d2 D2 he (by rw [← h2 d2.i hne]; exact hp2) q hq
    · have s1 : (d :: D) <:+ (pre ++ d :: D) := ⟨pre, rfl⟩
      have s2 : (d2 :: D2) <:+ (pre ++ d :: D) := ⟨pre2, he.symm⟩
      rcases Nat.lt_or_gt_of_ne hne with h | h
      · left
        obtain ⟨mid, hmid⟩ := List.suffix_of_suffix_length_le s2 (⟨pre ++ [d], by simp⟩ : D <:+ (pre ++ d :: D)) (by simp; omega)
        have := mHeap_len_le p H (D := d2 :: D2) mid
        rw [hmid, mHeap_len_cons] at this
        omega
      · right
        obtain ⟨mid, hmid⟩ := List.suffix_of_suffix_length_le s1 (⟨pre2 ++ [d2], by simp [he]⟩ : D2 <:+ (pre ++ d :: D)) (by simp; omega)
        have := mHeap_len_le p H (D := d :: D) mid
        rw [hmid, mHeap_len_cons] at this
        omega
  rcases hF with ⟨hw, hdo, hr⟩ | ⟨hw, hv, hn⟩
  · left
    refine ⟨hw, ?_⟩
    have f := r.fit hc hno hps h1 h2 fun j hj => refsIn_get hr j (List.mem_append_right _ hj)
    have hSs := f.simS F0.sim
    have hnum := f.numS m
    have hEs : EnvR R w (cutM m (mHeap (fun k => elemN k (nthL d.i pss)) H D).length) (mHeap (fun k => elemN k (nthL d.i pss)) H D) (mEnv (fun k => elemN k (nthL d.i pss)) env0 D) a := by
      have rD : Ran X ops pss env0 H D := (Ran.suf (pre := [d]) (Ran.suf r))
      intro t
      by_cases h : ∃ e ∈ D, elemN e.i (nthL d.i pss) = true ∧ e.dst = some t
      · obtain ⟨e, he, hpe, hd⟩ := h
        have e1 : eget t (mEnv (fun k => elemN k (nthL d.i pss)) env0 D) = e.v := rD.own (p := fun k => elemN k (nthL d.i pss)) he hpe hd
        have e2 : eget t (mEnv p env0 (pre ++ d :: D)) = e.v := r.own (List.mem_append_right _ (List.mem_cons_of_mem _ he)) (hps _ (elemN_iff.1 hpe)) hd
        have h3 := hE t
        rw [e2] at h3
        have h4 := h3.ren hnum
        rw [e1]
        rwa [ren_id fun j hj => rOn_in ?_] at h4
        obtain ⟨pre', D', hD⟩ := split_mem he
        have := val_refs (p := fun k => elemN k (nthL d.i pss)) (pre := pre') (D := D') (d := e) (by rw [← hD]; exact rD.ok) (fun i _ hi j hj => elemN_iff.2 ((r.tr d.i hdl i (elemN_iff.1 hi)).2 j hj)) hpe j hj
        rw [← hD] at this; exact this
      · rw [mEnv_no fun e he hp hdt => h ⟨e, he, hp, hdt⟩]
        by_cases h' : ∃ e ∈ pre ++ d :: D, e.dst = some t
        · obtain ⟨e, he, hd⟩ := h'
          rw [r.und e he t hd]; exact .undef _
        · have h3 := hE t
          rw [mEnv_no fun e he _ hdt => h' ⟨e, he, hdt⟩] at h3
          have h4 := h3.ren hnum
          rwa [ren_id fun j hj => rOn_in (.inl (r.env t j hj))] at h4
    have hg := hdo R w _ a hSs hEs
    unfold gives at hg ⊢
    have mono : ∀ {S S' : Value → World → Prop} {z : Result Next}, (∀ x w', S x w' → S' x w') → givesUpon X.P S z → givesUpon X.P S' z := fun hss h => by
      rename_i S S' z
      cases z with
      | ok n w' =>
        cases n <;> simp only [givesUpon] at h ⊢
        case value u => exact hss _ _ h
        case skip => exact hss _ _ h
        case enter f args => exact Calls.mono h fun e w'' ⟨v, he, hr⟩ => ⟨v, he, hss _ _ hr⟩
      | halt x w' => simp only [givesUpon] at h
    refine mono (fun x w' ⟨R', m', F, hV⟩ => ?_) hg
    have hap' : (⟨[], d.news⟩ : Eff).app (mHeap (fun k => elemN k (nthL d.i pss)) H D) = mHeap (fun k => elemN k (nthL d.i pss)) H D ++ d.news := rfl
    rw [hap'] at F hV
    obtain ⟨F1, n1, n2, hR, hw', hrow⟩ := f.lift F0 (fun q hq => by
      rw [mHeap_length _ p]; exact hgap pre d D rfl hno q hq) F
    refine ⟨R', _, F1, fun t => ?_, gaps _ fun k hk => ?_⟩
    · by_cases hdt : d.dst = some t
      · rw [r.own hdm h1 hdt, hdt]
        have e : (a.put (some t) x).tmps.getD t undef = x := by
          rw [Array.getD_eq_getD_getElem?, put_get_eq a x t (by rw [hdt] at hdst; exact Nat.le_of_ble_eq_true hdst)]; rfl
        rw [e]
        have h4 := hV.ren n1
        rwa [ren_id fun j hj => rOn_in (refsIn_get hr j (List.mem_append_left _ hj))] at h4
      · rw [other t hdt, getD_eq (put_get_ne a d.dst x t hdt)]
        have h3 : VR R' w' m (mHeap p H (pre ++ d :: D)) (eget t (mEnv p env0 (pre ++ d :: D))) (a.tmps.getD t undef) := (hE t).mono hR hw' hrow (fun _ _ h => h) (Nat.le_refl _) (hext_self _)
        have h4 := h3.ren n2
        rwa [ren_id fun j hj => rOn_in (r.envRefs hc t j hj)] at h4
    · exact if_neg (by rw [mHeap_length _ p]; omega)
  · right
    refine ⟨hw, R, m, ?_, fun t => ?_, gaps m fun _ _ => rfl⟩
    · have e : mHeap p' H (pre ++ d :: D) = mHeap p H (pre ++ d :: D) := by
        have key : ∀ q : List Done, (∀ e ∈ q, p' e.i = p e.i ∨ e.news = []) → mHeap p' H q = mHeap p H q := by
          intro q
          induction q with
          | nil => intro _; rfl
          | cons e q ih =>
            intro hq
            simp only [mHeap]
            rw [ih fun f hf => hq f (List.mem_cons_of_mem _ hf)]
            rcases hq e (List.mem_cons_self ..) with h | h
            · rw [h]
            · rw [h]; cases p' e.i <;> cases p e.i <;> rfl
        refine key _ fun e he => ?_
        by_cases hei : e.i = d.i
        · right; rw [uniq e he hei]; exact hn
        · left; exact h2 _ hei
      rw [e]; exact F0
    · have e : mHeap p' H (pre ++ d :: D) = mHeap p H (pre ++ d :: D) := by
        have key : ∀ q : List Done, (∀ e ∈ q, p' e.i = p e.i ∨ e.news = []) → mHeap p' H q = mHeap p H q := by
          intro q
          induction q with
          | nil => intro _; rfl
          | cons e q ih =>
            intro hq
            simp only [mHeap]
            rw [ih fun f hf => hq f (List.mem_cons_of_mem _ hf)]
            rcases hq e (List.mem_cons_self ..) with h | h
            · rw [h]
            · rw [h]; cases p' e.i <;> cases p e.i <;> rfl
        refine key _ fun e he => ?_
        by_cases hei : e.i = d.i
        · right; rw [uniq e he hei]; exact hn
        · left; exact h2 _ hei
      rw [e]
      by_cases hdt : d.dst = some t
      · rw [r.own hdm h1 hdt, hv, hdt]
        have e : (a.put (some t) undef).tmps.getD t undef = undef := by
          rw [Array.getD_eq_getD_getElem?, put_get_eq a undef t (by rw [hdt] at hdst; exact Nat.le_of_ble_eq_true hdst)]; rfl
        rw [e]; exact VR.skip
      · rw [other t hdt, getD_eq (put_get_ne a d.dst undef t hdt)]; exact hE t

end
end Go.Proofs.Ytcooilllmcgcmaa.Ae
