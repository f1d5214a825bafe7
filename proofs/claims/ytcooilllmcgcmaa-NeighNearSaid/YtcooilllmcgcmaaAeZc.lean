/- Drawn regions: both kinds; a function's text is sound. No program in sight. -/
import Derived.Test.YtcooilllmcgcmaaAeZb
namespace Go.Proofs.Ytcooilllmcgcmaa.Ae
open Go

section
variable {X : Cx} {ops : Array Oper} {pr : List (List Nat)} {hards : List Nat} {env0 : Env} {Df : List Done} {Hs : Nat → Hp} {S Rd : List Nat} {nb : Nat}

/-- what holds of the text's run -/
structure CRan (X : Cx) (ops : Array Oper) (pr : List (List Nat)) (hards : List Nat) (env0 : Env) (Df : List Done) (Hs : Nat → Hp) (S Rd : List Nat) (nb : Nat) : Prop where
  len : Df.length = nb
  ok : COk X ops pr hards env0 Df Hs S Rd 0 nb
  dist : ∀ i j o o' t, i < nb → j < nb → ops[i]? = some o → ops[j]? = some o' → o.dst = some t → o'.dst = some t → i = j
  und : ∀ i o t, i < nb → ops[i]? = some o → o.dst = some t → eget t env0 = .undef
  tr : ∀ i, i < nb → ∀ j ∈ nthL i pr, j < i
  dst : ∀ i o, i < nb → ops[i]? = some o → ∀ t, o.dst = some t → t < X.nt
  grd : ∀ i o j b, i < nb → ops[i]? = some o → o.guard = some (j, b) → (dstOf ops j).isSome = true
  hard : ∀ i ∈ hards, ∀ j ∈ hards, j < i → j ∈ nthL i pr
  disj : ∀ k ∈ Rd, k ∉ S

theorem CRan.split (r : CRan X ops pr hards env0 Df Hs S Rd nb) {pre D : List Done} {d : Done} (h : Df = pre ++ d :: D) :
    D.length < nb ∧ d.i = D.length ∧ ∃ o, ops[D.length]? = some o ∧ d.dst = o.dst ∧ CFact X pr env0 (nthL D.length pr) hards S Rd o d D (Hs D.length) (Hs (D.length + 1)) := by
  have hl : D.length < nb := by rw [← r.len, h]; simp; omega
  obtain ⟨pre', d', D', h1, h2, h3, o, h4, h5, h6⟩ := r.ok D.length (Nat.zero_le _) hl
  rw [h] at h1
  obtain ⟨e1, e2⟩ := List.append_inj' h1 (by simp [h2])
  cases e2
  exact ⟨hl, h3, o, h4, h5, h6⟩
theorem CRan.at (r : CRan X ops pr hards env0 Df Hs S Rd nb) {i : Nat} (hi : i < nb) : ∃ pre d D, Df = pre ++ d :: D ∧ D.length = i ∧ d.i = i := by
  obtain ⟨pre, d, D, h1, h2, h3, _⟩ := r.ok i (Nat.zero_le _) hi
  exact ⟨pre, d, D, h1, h2, h3⟩
theorem CRan.mem (r : CRan X ops pr hards env0 Df Hs S Rd nb) {e : Done} (he : e ∈ Df) : e.i < nb ∧ ∃ o, ops[e.i]? = some o ∧ e.dst = o.dst := by
  obtain ⟨pre, D, h⟩ := split_mem he
  obtain ⟨h1, h2, o, h3, h4, _⟩ := r.split h
  rw [h2]; exact ⟨h1, o, h3, h4⟩
theorem CRan.inj (r : CRan X ops pr hards env0 Df Hs S Rd nb) {e f : Done} {t : Nat} (he : e ∈ Df) (hf : f ∈ Df) (h1 : e.dst = some t) (h2 : f.dst = some t) : e.i = f.i := by
  obtain ⟨a1, o, a2, a3⟩ := r.mem he
  obtain ⟨b1, o', b2, b3⟩ := r.mem hf
  exact r.dist _ _ _ _ t a1 b1 a2 b2 (by rw [← a3]; exact h1) (by rw [← b3]; exact h2)
theorem CRan.idx (r : CRan X ops pr hards env0 Df Hs S Rd nb) {pre D : List Done} {d : Done} (h : Df = pre ++ d :: D) : (∀ e ∈ pre, d.i < e.i) ∧ (∀ e ∈ D, e.i < d.i) := by
  have hd := (r.split h).2.1
  constructor
  · intro e he
    obtain ⟨p1, p2, hp⟩ := split_mem he
    have := (r.split (pre := p1) (d := e) (D := p2 ++ d :: D) (by rw [h, hp]; simp)).2.1
    rw [this, hd]; simp; omega
  · intro e he
    obtain ⟨p1, p2, hp⟩ := split_mem he
    have := (r.split (pre := pre ++ d :: p1) (d := e) (D := p2) (by rw [h, hp]; simp)).2.1
    rw [this, hd, hp]; simp; omega
theorem CRan.own (r : CRan X ops pr hards env0 Df Hs S Rd nb) {p : Nat → Bool} {e : Done} {t : Nat} (he : e ∈ Df) (hp : p e.i = true) (hd : e.dst = some t) : eget t (mEnv p env0 Df) = e.v := by
  obtain ⟨pre, D, h⟩ := split_mem he
  have hi := r.idx h
  subst h
  refine mEnv_own (fun f hf hft => ?_) hp hd
  have := r.inj (List.mem_append_left _ hf) he hft hd
  have := hi.1 f hf
  omega
theorem CRan.ownD (r : CRan X ops pr hards env0 Df Hs S Rd nb) {p : Nat → Bool} {pre0 D0 : List Done} {d0 : Done} (h0 : Df = pre0 ++ d0 :: D0) {e : Done} {t : Nat} (he : e ∈ D0) (hp : p e.i = true) (hd : e.dst = some t) : eget t (mEnv p env0 D0) = e.v := by
  obtain ⟨pre, D, h⟩ := split_mem he
  have hi := r.idx (pre := pre0 ++ d0 :: pre) (d := e) (D := D) (by rw [h0, h]; simp)
  have hm : ∀ f ∈ D0, f ∈ Df := fun f hf => by rw [h0]; exact List.mem_append_right _ (List.mem_cons_of_mem _ hf)
  subst h
  refine mEnv_own (fun f hf hft => ?_) hp hd
  have := r.inj (hm f (List.mem_append_left _ hf)) (hm e he) hft hd
  have := hi.1 f (List.mem_append_right _ (List.mem_cons_of_mem _ hf))
  omega

theorem CFact.heap {ps : List Nat} {o : Oper} {d : Done} {D : List Done} {A B : Hp} (h : CFact X pr env0 ps hards S Rd o d D A B) : (d.i ∉ hards → B = A) ∧ A.length ≤ B.length ∧ ∀ k, k < A.length → k ∉ S → hget k B = hget k A := by
  rcases h with ⟨_, ⟨h1, e, _, rfl, h3⟩ | ⟨h1, rfl, _⟩⟩ | ⟨_, _, rfl⟩
  · exact ⟨fun h => absurd h1 h, app_len _ _, fun k hk hS => app_get (fun hm => hS (h3 k hm)) hk⟩
  · exact ⟨fun _ => rfl, Nat.le_refl _, fun _ _ _ => rfl⟩
  · exact ⟨fun _ => rfl, Nat.le_refl _, fun _ _ _ => rfl⟩
theorem CRan.step (r : CRan X ops pr hards env0 Df Hs S Rd nb) {i : Nat} (hi : i < nb) : (i ∉ hards → Hs (i + 1) = Hs i) ∧ (Hs i).length ≤ (Hs (i + 1)).length ∧ ∀ k, k < (Hs i).length → k ∉ S → hget k (Hs (i + 1)) = hget k (Hs i) := by
  obtain ⟨pre, d, D, h1, h2, h3⟩ := r.at hi
  obtain ⟨_, _, o, _, _, hF⟩ := r.split h1
  have := hF.heap
  rw [h3, h2] at this
  exact this
theorem CRan.same (r : CRan X ops pr hards env0 Df Hs S Rd nb) {a : Nat} : ∀ n, a + n ≤ nb → (∀ i, a ≤ i → i < a + n → i ∉ hards) → Hs (a + n) = Hs a
  | 0, _, _ => rfl
  | n + 1, hn, h => by
    have := (r.step (i := a + n) (by omega)).1 (h _ (by omega) (by omega))
    rw [show a + (n + 1) = a + n + 1 by omega, this]
    exact r.same n (by omega) fun i h1 h2 => h i h1 (by omega)
theorem CRan.keep (r : CRan X ops pr hards env0 Df Hs S Rd nb) {a : Nat} : ∀ n, a + n ≤ nb → (Hs a).length ≤ (Hs (a + n)).length ∧ ∀ k, k < (Hs a).length → k ∉ S → hget k (Hs (a + n)) = hget k (Hs a)
  | 0, _ => ⟨Nat.le_refl _, fun _ _ _ => rfl⟩
  | n + 1, hn => by
    obtain ⟨h1, h2⟩ := r.keep (a := a) n (by omega)
    obtain ⟨_, g1, g2⟩ := r.step (i := a + n) (by omega)
    rw [show a + (n + 1) = a + n + 1 by omega]
    exact ⟨by omega, fun k hk hS => by rw [g2 k (by omega) hS, h2 k hk hS]⟩
/-- no more hard ones ahead of one than of the other -/
theorem CRan.between (r : CRan X ops pr hards env0 Df Hs S Rd nb) {a b : Nat} (ha : a ≤ nb) (hb : b ≤ nb) (h : ∀ i, i < nb → i ∈ hards → (i < a ↔ i < b)) : Hs a = Hs b := by
  rcases Nat.le_total a b with hl | hl
  · have := r.same (a := a) (b - a) (by omega) fun i h1 h2 hm => by have := h i (by omega) hm; omega
    rw [← this]; congr 1; omega
  · have := r.same (a := b) (a - b) (by omega) fun i h1 h2 hm => by have := h i (by omega) hm; omega
    rw [← this]; congr 1; omega
theorem CRan.read (r : CRan X ops pr hards env0 Df Hs S Rd nb) {a b k : Nat} (ha : a ≤ nb) (hb : b ≤ nb) (h1 : k < (Hs a).length) (h2 : k < (Hs b).length) (hS : k ∉ S) : hget k (Hs a) = hget k (Hs b) := by
  rcases Nat.le_total a b with hl | hl
  · have := (r.keep (a := a) (b - a) (by omega)).2 k h1 hS
    rw [← this]; congr 2; omega
  · have := (r.keep (a := b) (a - b) (by omega)).2 k h2 hS
    rw [← this]; congr 2; omega

theorem settled_iff {i : Nat} : settled hards pr i = true ↔ ∀ j ∈ hards, (j < i → j ∈ nthL i pr) ∧ (i < j → i ∈ nthL j pr) := by
  unfold settled
  rw [List.all_eq_true]
  refine forall_congr' fun j => forall_congr' fun _ => ?_
  cases h1 : Nat.blt j i with
  | true =>
    have h1 : j < i := Nat.blt_eq ▸ h1
    simp only [cond_true, elemN_iff]
    exact ⟨fun h => ⟨fun _ => h, fun h2 => by omega⟩, fun h => h.1 h1⟩
  | false =>
    have h1 : ¬ j < i := fun h => by rw [show Nat.blt j i = true from Nat.blt_eq ▸ h] at h1; cases h1
    cases h2 : Nat.blt i j with
    | true =>
      have h2 : i < j := Nat.blt_eq ▸ h2
      simp only [cond_true, cond_false, elemN_iff]
      exact ⟨fun h => ⟨fun h3 => by omega, fun _ => h⟩, fun h => h.2 h2⟩
    | false =>
      have h2 : ¬ i < j := fun h => by rw [show Nat.blt i j = true from Nat.blt_eq ▸ h] at h2; cases h2
      simp only [cond_false, true_iff]
      exact ⟨fun h => by omega, fun h => by omega⟩

/-- the state when some have run -/
def CAt (R1 : Nat → Prop) (w1 : World) (m1 : Mp) (hards : List Nat) (env0 : Env) (Df : List Done) (Hs : Nat → Hp) (nb : Nat) (p : Nat → Bool) (a : Act) (w : World) : Prop :=
  ∃ R m k, k ≤ nb ∧ (∀ i, i < nb → i ∈ hards → (p i = true ↔ i < k)) ∧ Far R1 w1 m1 (Hs 0) R w m (Hs k) ∧ EnvR R w m (Hs k) (mEnv p env0 Df) a

theorem CAt.step (r : CRan X ops pr hards env0 Df Hs S Rd nb) {R1 : Nat → Prop} {w1 : World} {m1 : Mp} {p p' : Nat → Bool} {i : Nat} {o : Oper} {a : Act} {w : World} (hi : i < nb) (ho : ops[i]? = some o) (hc : Clo pr p nb) (hno : p i = false) (hps : ∀ j ∈ nthL i pr, p j = true)
    (h1 : p' i = true) (h2 : ∀ k, k ≠ i → p' k = p k) (hsz : a.tmps.size = X.nt) (hA : CAt R1 w1 m1 hards env0 Df Hs nb p a w) :
    (Region.wanted o (yielded ops a.tmps) = true ∧ gives X.P o a w fun x w' => CAt R1 w1 m1 hards env0 Df Hs nb p' (a.put o.dst x) w') ∨ (Region.wanted o (yielded ops a.tmps) = false ∧ CAt R1 w1 m1 hards env0 Df Hs nb p' (a.put o.dst undef) w) := by
  obtain ⟨R, m, k, hk, hcut, F0, hE⟩ := hA
  obtain ⟨pre, d, D, hDf, hDl, hdi⟩ := r.at hi
  obtain ⟨_, _, o', ho', hdo, hF⟩ := r.split hDf
  rw [hDl, ho] at ho'; cases ho'
  rw [hDl] at hF
  have hdm : d ∈ Df := by rw [hDf]; simp
  have hidx := r.idx hDf
  have hsub : ∀ e ∈ D, e ∈ Df := fun e he => by rw [hDf]; exact List.mem_append_right _ (List.mem_cons_of_mem _ he)
  -- slots
  have other : ∀ t, o.dst ≠ some t → eget t (mEnv p' env0 Df) = eget t (mEnv p env0 Df) := fun t ht => mEnv_congr fun e he hed => h2 e.i fun hei => ht (by
    obtain ⟨_, oe, g1, g2⟩ := r.mem he
    rw [hei, ho] at g1; cases g1
    rw [← g2]; exact hed)
  have put : ∀ {R' : Nat → Prop} {w' : World} {m' : Mp} {H' : Hp} {x : Value}, EnvR R' w' m' H' (mEnv p env0 Df) a → VR R' w' m' H' d.v x → EnvR R' w' m' H' (mEnv p' env0 Df) (a.put o.dst x) := fun {R' w' m' H' x} hE' hV t => by
    by_cases ht : o.dst = some t
    · rw [r.own hdm (by rw [hdi]; exact h1) (by rw [hdo]; exact ht), ht]
      have e : (a.put (some t) x).tmps.getD t undef = x := by
        rw [Array.getD_eq_getD_getElem?, put_get_eq a x t (by rw [hsz]; exact r.dst i o hi ho t ht)]; rfl
      rw [e]; exact hV
    · rw [other t ht, getD_eq (put_get_ne a o.dst x t ht)]
      exact hE' t
  have hEs : EnvR R w m (Hs k) (mEnv (fun j => elemN j (nthL i pr)) env0 D) a := by
    intro t
    by_cases h : ∃ e ∈ D, elemN e.i (nthL i pr) = true ∧ e.dst = some t
    · obtain ⟨e, he, hpe, hd⟩ := h
      have e1 : eget t (mEnv (fun j => elemN j (nthL i pr)) env0 D) = e.v := r.ownD (p := fun j => elemN j (nthL i pr)) hDf he hpe hd
      have e2 : eget t (mEnv p env0 Df) = e.v := r.own (hsub e he) (hps _ (elemN_iff.1 hpe)) hd
      have h3 := hE t
      rw [e2] at h3
      rw [e1]; exact h3
    · rw [mEnv_no fun e he hp hdt => h ⟨e, he, hp, hdt⟩]
      by_cases h' : ∃ e ∈ Df, e.dst = some t
      · obtain ⟨e, he, hd⟩ := h'
        obtain ⟨g0, oe, g1, g2⟩ := r.mem he
        rw [r.und e.i oe t g0 g1 (by rw [← g2]; exact hd)]; exact .undef _
      · have h3 := hE t
        rw [mEnv_no fun e he _ hdt => h' ⟨e, he, hdt⟩] at h3
        exact h3
  -- is it wanted?
  have hwant : ∀ b, Want (nthL i pr) o D b → Region.wanted o (yielded ops a.tmps) = b := fun b hW => by
    unfold Want at hW
    unfold Region.wanted
    split at hW
    · rename_i hg; rw [hg]; exact hW.symm
    · rename_i j want hg
      rw [hg]
      obtain ⟨hj, hWc⟩ := hW
      have hjl := hps j hj
      have hji := r.tr i hi j hj
      have hjnb : j < nb := by omega
      obtain ⟨pj, e, Dj, hDj, hDjl, hej⟩ := r.at hjnb
      have heD : e ∈ D := by
        have : e ∈ Df := by rw [hDj]; simp
        rw [hDf] at this
        rcases List.mem_append.1 this with h | h
        · have := hidx.1 e h; omega
        · rcases List.mem_cons.1 h with h | h
          · rw [h] at hej; omega
          · exact h
      have hev0 : doneV j D = e.v := by
        have hlt : ∀ l : List Done, (∀ f ∈ l, f ∈ Df) → e ∈ l → doneV j l = e.v := by
          intro l
          induction l with
          | nil => intro _ h; simp at h
          | cons f l ihl =>
            intro hl hel
            simp only [doneV]
            cases hb : Nat.beq j f.i with
            | true =>
              have hb := Nat.eq_of_beq_eq_true hb
              have hfD := hl f (List.mem_cons_self ..)
              obtain ⟨pf, Df', hf'⟩ := split_mem hfD
              have hfl := (r.split hf').2.1
              have : f = e := by
                rw [hDj] at hf'
                obtain ⟨_, e2⟩ := List.append_inj' hf' (by simp; omega)
                cases e2; rfl
              rw [this]; rfl
            | false =>
              rcases List.mem_cons.1 hel with rfl | hel
              · rw [hej, Nat.beq_refl] at hb; cases hb
              · exact ihl (fun f hf => hl f (List.mem_cons_of_mem _ hf)) hel
        exact hlt D hsub heD
      obtain ⟨_, oj, hoj, hdj⟩ := r.mem (hsub e heD)
      rw [hej] at hoj
      have hsome := r.grd i o j want hi ho hg
      unfold dstOf at hsome
      rw [hoj] at hsome
      simp only [Option.bind_some] at hsome
      obtain ⟨tj, htj⟩ := Option.isSome_iff_exists.1 hsome
      have htn := r.dst j oj hjnb hoj tj htj
      have h3 := hE tj
      rw [r.own (hsub e heD) (by rw [hej]; exact hjl) (by rw [hdj]; exact htj), ← hev0] at h3
      have hlt : tj < a.tmps.size := by rw [hsz]; exact htn
      generalize hv : a.tmps.getD tj undef = v at h3
      rcases hWc with ⟨c, hcv, rfl⟩ | ⟨hcv, rfl⟩
      · rw [hcv] at h3
        cases h3
        have hy : yielded ops a.tmps j = some c := by
          unfold yielded
          rw [hoj]
          simp only [Option.bind_some, htj]
          simp only [Array.getD, hlt, dif_pos] at hv
          simp [hlt]
          simp at hv
          rw [hv]
        show (yielded ops a.tmps j == some want) = (c == want)
        rw [hy]; cases c <;> cases want <;> rfl
      · rw [hcv] at h3
        have hv0 : v = .tuple #[] := by
          cases h3 with
          | tup cs xs h1 h2 =>
            cases xs with
            | nil => rfl
            | cons x xs => simp at h1
        have hy := yielded_none (ops := ops) (a := a) (j := j) (t := tj) (by rw [hoj]; exact htj) (hv.trans hv0)
        show (yielded ops a.tmps j == some want) = false
        rw [hy]; cases want <;> rfl
  have mono : ∀ {S S' : Value → World → Prop} {z : Result Next}, (∀ x w', S x w' → S' x w') → givesUpon X.P S z → givesUpon X.P S' z := fun hss h => by
    rename_i S S' z
    cases z with
    | ok n w' =>
      cases n <;> simp only [givesUpon] at h ⊢
      case value u => exact hss _ _ h
      case skip => exact hss _ _ h
      case enter f args => exact Calls.mono h fun e w'' ⟨v, he, hr⟩ => ⟨v, he, hss _ _ hr⟩
    | halt x w' => simp only [givesUpon] at h
  -- the hard ones that have run are those ahead
  have hcut' : i ∈ hards → (∀ j, j < nb → j ∈ hards → (j < k ↔ j < i)) ∧ ∀ j, j < nb → j ∈ hards → (p' j = true ↔ j < i + 1) := fun hm => by
    have key : ∀ j, j < nb → j ∈ hards → (p j = true ↔ j < i) := fun j hj hjm => by
      constructor
      · intro hpj
        rcases Nat.lt_trichotomy j i with h | h | h
        · exact h
        · subst h; rw [hno] at hpj; cases hpj
        · have := hc j hj hpj i (r.hard j hjm i hm h)
          rw [hno] at this; cases this
      · exact fun h => hps j (r.hard i hm j hjm h)
    refine ⟨fun j hj hjm => by rw [← hcut j hj hjm]; exact key j hj hjm, fun j hj hjm => ?_⟩
    by_cases e : j = i
    · subst e; rw [h1]; simp
    · rw [h2 j e, key j hj hjm]; omega
  have soft : i ∉ hards → ∀ j, j < nb → j ∈ hards → (p' j = true ↔ j < k) := fun hm j hj hjm => by
    rw [h2 j fun e => hm (e ▸ hjm)]; exact hcut j hj hjm
  rcases hF with ⟨hw, ⟨hh, e, hdoes, hB, _⟩ | ⟨hh, hB, l, q, hl, hlr, hop, hq, _⟩⟩ | ⟨hw, hv, hB⟩
  · left
    refine ⟨hwant true hw, ?_⟩
    rw [hdi] at hh
    obtain ⟨g1, g2⟩ := hcut' hh
    have hki : Hs k = Hs i := r.between hk (by omega) g1
    rw [hki] at F0 hE hEs
    have hg := hdoes R w m a F0.sim hEs
    unfold gives at hg ⊢
    refine mono (fun x w' ⟨R', m', F, hV⟩ => ?_) hg
    rw [← hB] at F hV
    exact ⟨R', m', i + 1, by omega, g2, F0.trans F, put (hE.far F F0.sim) hV⟩
  · left
    refine ⟨hwant true hw, ?_⟩
    rw [hdi] at hh
    have hlt := readRefs_lt F0.sim hEs hl
    have hsame : ∀ b ∈ l, hget b (Hs i) = hget b (Hs k) := fun b hb => by
      cases hst : settled hards pr d.i with
      | false => exact r.read (by omega) hk (hlr b hb).1 (hlt b hb) (r.disj b ((hlr b hb).2 hst))
      | true =>
        rw [hdi] at hst
        have hst := settled_iff.1 hst
        rw [r.between (a := i) (b := k) (by omega) hk fun j hj hjm => ?_]
        obtain ⟨s1, s2⟩ := hst j hjm
        constructor
        · intro hji; exact (hcut j hj hjm).1 (hps j (s1 hji))
        · intro hjk
          have hpj := (hcut j hj hjm).2 hjk
          rcases Nat.lt_trichotomy j i with h | h | h
          · exact h
          · subst h; exact absurd hjm hh
          · have := hc j hj hpj i (s2 h)
            rw [hno] at this; cases this
    have hop' := read_congr (H' := Hs k) hl hsame hop
    have hg := opDoes_of hop' hq R w m a F0.sim hEs
    unfold gives at hg ⊢
    refine mono (fun x w' ⟨R', m', F, hV⟩ => ?_) hg
    rw [noEff_app] at F hV
    exact ⟨R', m', k, hk, soft hh, F0.trans F, put (hE.far F F0.sim) hV⟩
  · right
    refine ⟨hwant false hw, ?_⟩
    by_cases hh : i ∈ hards
    · obtain ⟨g1, g2⟩ := hcut' hh
      have hki : Hs k = Hs i := r.between hk (by omega) g1
      rw [hki] at F0 hE
      rw [← hB] at F0 hE
      exact ⟨R, m, i + 1, by omega, g2, F0, put hE (by rw [hv]; exact VR.skip)⟩
    · exact ⟨R, m, k, hk, soft hh, F0, put hE (by rw [hv]; exact VR.skip)⟩

theorem chain_sound (hT : TSound X.P X.T) (hm : X.P.follows .mixedOrders = true) (id : Nat) {s : St} {K : St → Prop} (h : chainR X ops nb hards pr s K) : ∃ s', K s' ∧ CodeOk X (.region id ops true) s .normal s' := by
  unfold chainR at h
  simp only [chkP] at h
  cases hok : chainOk ops X.nt nb hards pr with
  | false => rw [hok] at h; exact h.elim
  | true =>
  rw [hok] at h
  simp only [cond_true] at h
  rw [forceL_iff] at h
  unfold chainOk at hok
  simp only [Bool.and_eq_true] at hok
  obtain ⟨⟨⟨⟨⟨htr, hfa⟩, hseq⟩, hlen⟩, hpo⟩, hho⟩ := hok
  have hlen := Nat.eq_of_beq_eq_true hlen
  have hf := factsC_of hfa
  have hnb : (ops.toList.take nb).length = nb := by have := hf.le; simp; omega
  have htake : ∀ j, j < nb → (ops.toList.take nb)[j]? = ops[j]? := fun j hj => by rw [List.getElem?_take, if_pos hj]; simp
  obtain ⟨Df, Hs, S, Rd, _, hH0, hDl, hCO, hK, _, _⟩ := chainP_sound hT (ops := ops) (pr := pr) (hards := hards) (env0 := undefs (ops.toList.take nb) s.env) (ops.toList.take nb) pr [] s.heap [] [] _ (fun j o hj => by
    rw [List.length_nil, Nat.zero_add, ← htake j (by have := (List.getElem?_eq_some_iff.1 hj).1; omega)]; exact hj) (fun j => by rw [List.length_nil, Nat.zero_add]) h
  rw [List.length_nil, Nat.zero_add, hnb] at hDl hCO hK
  rw [List.length_nil] at hH0
  cases hdj : disjL Rd S with
  | false => rw [hdj] at hK; exact hK.elim
  | true =>
  rw [hdj] at hK
  simp only [cond_true] at hK
  rw [maskEnvK_iff] at hK
  obtain ⟨s', hk, hs⟩ := opsP_sound hT hK
  have hdj' : ∀ k ∈ Rd, k ∉ S := by
    have : ∀ (a b : List Nat), disjL a b = true → ∀ k ∈ a, k ∉ b := by
      intro a b
      induction a with
      | nil => intro _ k hk; simp at hk
      | cons x a ih =>
        intro h k hk
        simp only [disjL, Bool.and_eq_true] at h
        rcases List.mem_cons.1 hk with rfl | hk
        · intro hb; rw [elemN_iff.2 hb] at h; simp at h
        · exact ih h.2 k hk
    exact this Rd S hdj
  have r : CRan X ops pr hards (undefs (ops.toList.take nb) s.env) Df Hs S Rd nb := by
    refine ⟨hDl, hCO, fun i j o o' t hi hj ho ho' hd hd' => ?_, fun i o t hi ho hd => ?_, fun i hi j hj => ?_, fun i o hi ho t ht => ?_, fun i o j b hi ho hg => ?_, fun i hi j hj hji => ?_, hdj'⟩
    · obtain ⟨o1, a1, a2, _⟩ := hf.op i hi
      obtain ⟨o2, b1, b2, _⟩ := hf.op j hj
      rw [ho] at a1; cases a1
      rw [ho'] at b1; cases b1
      have a3 := (a2 t hd).2
      have b3 := (b2 t hd').2
      rcases Nat.lt_trichotomy i j with hl | hl | hl
      · exact absurd (show dstOf ops i = some t by unfold dstOf; rw [ho]; exact hd) (b3 i hl)
      · exact hl
      · exact absurd (show dstOf ops j = some t by unfold dstOf; rw [ho']; exact hd') (a3 j hl)
    · rcases undefs_get (env := s.env) (t := t) (ops.toList.take nb) with ⟨g1, _⟩ | ⟨_, g2⟩
      · exact g1
      · exact absurd hd (g2 o (List.mem_of_getElem? (by rw [htake i hi]; exact ho)))
    · have := (predsTrans_get htr i (by omega) j hj).1
      omega
    · obtain ⟨o1, a1, a2, _⟩ := hf.op i hi
      rw [ho] at a1; cases a1
      exact (a2 t ht).1
    · obtain ⟨o1, a1, _, a2, _⟩ := hf.op i hi
      rw [ho] at a1; cases a1
      exact a2 j b hg
    · unfold hardsOk at hho
      rw [List.all_eq_true] at hho
      have := hho i hi
      rw [List.all_eq_true] at this
      have := this j hj
      rw [Bool.or_eq_true] at this
      rcases this with h | h
      · have : Nat.blt j i = true := Nat.ble_eq_true_of_le hji
        rw [this] at h; cases h
      · exact elemN_iff.1 h
  refine ⟨s', hk, fun R0 w0 m0 H0 _ _ a w hI => wp_region_any hm ?_⟩
  obtain ⟨⟨R, m, F0, hE⟩, hsz, hnd⟩ := hI
  have hdr := F0.sim.drew
  have F1 := F0.trans hdr.far
  have hE1 := hE.far hdr.far F0.sim
  have hrep : ∀ i, (Array.replicate ops.size false).getD i false = false := fun i => by
    rw [Array.getD_eq_getD_getElem?, Array.getElem?_replicate]; split <;> rfl
  have hS1 : Sim R w.drew m s.heap := hdr.sim
  have hA0 : CAt R w.drew m hards (undefs (ops.toList.take nb) s.env) Df Hs nb (fun k => (Array.replicate ops.size false).getD k false) a w.drew := by
    refine ⟨R, m, 0, Nat.zero_le _, fun i _ _ => by show (Array.replicate ops.size false).getD i false = true ↔ i < 0; rw [hrep]; simp, by rw [hH0]; exact .refl hS1, fun t => ?_⟩
    rw [hH0, mEnv_no fun d _ hp _ => (by rw [hrep] at hp; cases hp)]
    rcases undefs_get (env := s.env) (t := t) (ops.toList.take nb) with ⟨h1, _⟩ | ⟨h1, _⟩
    · rw [h1]; exact .undef _
    · rw [h1]; exact hE1 t
  have key := any_gen (X := X) (ops := ops) (pr := pr) (nb := nb) (nt := X.nt) (Q := fun e1 a1 w1 => ExR .normal e1 ∧ Inv X.nt R0 w0 m0 H0 a1 w1 s') (A := CAt R w.drew m hards (undefs (ops.toList.take nb) s.env) Df Hs nb) hf hseq (fun i hi => by
      obtain ⟨o, h1, h2⟩ := predsOk_get hpo i (by omega)
      rw [Nat.zero_add] at h1 h2
      exact ⟨o, h1, h2⟩) (fun p p' i o a w hi ho hc hno hps h1 h2 hs' hA => CAt.step r hi ho hc hno hps h1 h2 hs' hA) (fun a' w' hA hs' hn' => by
      obtain ⟨R', m', k, hk', hcut, F3, hE3⟩ := hA
      have hkn : Hs k = Hs nb := r.between hk' (Nat.le_refl _) fun i hi hm => by
        rw [← hcut i hi hm]; simp
      rw [hkn] at F3 hE3
      rw [hH0] at F3
      refine hs R0 w0 m0 H0 a' w' ⟨⟨R', m', F1.trans F3, fun t => ?_⟩, hs', hn'⟩ _ fun a2 w2 hI2 => ⟨rfl, hI2⟩
      have h3 := hE3 t
      have hall : ∀ d ∈ Df, decide (d.i < nb) = true := fun d hd => by simpa using (r.mem hd).1
      by_cases hex : ∃ d ∈ Df, d.dst = some t
      · obtain ⟨d, hd, hdt⟩ := hex
        rw [r.own (p := fun k => decide (k < nb)) hd (hall d hd) hdt] at h3
        have h4 : eget t (mEnv (fun k => elemN k (Df.map (·.i))) s.env Df) = d.v := by
          obtain ⟨pre, D', h⟩ := split_mem hd
          have hi := r.idx h
          have hm : elemN d.i (Df.map (·.i)) = true := elemN_iff.2 (List.mem_map.2 ⟨d, hd, rfl⟩)
          generalize Df.map (·.i) = li at hm ⊢
          rw [h]
          refine mEnv_own (p := fun k => elemN k li) (fun f hf hft => ?_) hm hdt
          have := r.inj (by rw [h]; exact List.mem_append_left _ hf) hd hft hdt
          have := hi.1 f hf
          omega
        show VR _ _ _ _ (eget t (mEnv (fun k => elemN k (Df.map (·.i))) s.env Df)) _
        rw [h4]; exact h3
      · rw [mEnv_no fun d hd _ hdt => hex ⟨d, hd, hdt⟩] at h3
        show VR _ _ _ _ (eget t (mEnv (fun k => elemN k (Df.map (·.i))) s.env Df)) _
        rw [mEnv_no fun d hd _ hdt => hex ⟨d, hd, hdt⟩]
        rcases undefs_get (env := s.env) (t := t) (ops.toList.take nb) with ⟨_, o, ho, hot⟩ | ⟨h1, _⟩
        · exfalso
          obtain ⟨j, hj⟩ := List.getElem?_of_mem ho
          have hjl : j < nb := by have := (List.getElem?_eq_some_iff.1 hj).1; omega
          obtain ⟨pre, d, D', hsp, hDl', hdi⟩ := r.at hjl
          have hdm : d ∈ Df := by rw [hsp]; simp
          obtain ⟨_, o', g1, g2⟩ := r.mem hdm
          rw [hdi, ← htake j hjl, hj] at g1; cases g1
          exact hex ⟨d, hdm, by rw [g2]; exact hot⟩
        · rw [h1] at h3; exact h3) nb (Array.replicate ops.size false) a w.drew hA0 hsz hnd (by simp) (fun i _ => hrep i) (fun k o _ hkl => by rw [hrep] at hkl; cases hkl) (by
      have : ∀ (r : List Nat), (r.filter fun i => !(Array.replicate ops.size false).getD i false) = r := fun r => by
        apply List.filter_eq_self.2
        intro i _
        rw [hrep i]; rfl
      rw [this]; simp)
  have e : nb + (ops.size - nb) = ops.size := by have := hf.le; omega
  rw [e] at key
  exact key
end

theorem old_sound {X : Cx} (hT : TSound X.P X.T) (hm : X.P.follows .mixedOrders = true) {id : Nat} {ops : Array Oper} {b : Bool} {s : St} {K : St → Prop} (h : oldR X id ops b s K) : ∃ s', K s' ∧ CodeOk X (.region id ops b) s .normal s' := by
  unfold oldR at h
  cases b with
  | false => exact seq_sound hT h
  | true =>
    simp only at h
    split at h
    · exact draw_old hT hm id h
    · rename_i ps r _
      cases hb : Nat.beq r.length (X.ann id).2.1 with
      | true => rw [hb] at h; exact chain_sound hT hm id h
      | false => rw [hb] at h; exact draw_old hT hm id h
end Go.Proofs.Ytcooilllmcgcmaa.Ae
