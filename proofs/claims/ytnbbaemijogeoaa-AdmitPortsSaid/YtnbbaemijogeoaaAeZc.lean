/- Drawn regions: both kinds; a function's text is sound. No program in sight. Regions of operations that change no memory, in any order; all kinds of regions; a function's text is sound. No program in sight. -/
import Derived.Test.YtnbbaemijogeoaaAeZ
namespace Go.Proofs.Ytnbbaemijogeoaa.Ae
open Go

section
variable {X : Cx} {ops : Array Oper} {pr : List (List Nat)} {hards : List Nat} {base : Nat → Env} {env0 : Env} {Df : List Done} {Hs : Nat → Hp} {S Rd : List Nat} {nb : Nat}

/-- what holds of the text's run -/
structure CRan (X : Cx) (ops : Array Oper) (pr : List (List Nat)) (hards : List Nat) (base : Nat → Env) (env0 : Env) (Df : List Done) (Hs : Nat → Hp) (S Rd : List Nat) (nb : Nat) : Prop where
  len : Df.length = nb
  ok : COk X ops pr hards base Df Hs S Rd 0 nb
  dist : ∀ i j o o' t, i < nb → j < nb → ops[i]? = some o → ops[j]? = some o' → o.dst = some t → o'.dst = some t → i = j
  und : ∀ q i o t, i < nb → ops[i]? = some o → o.dst = some t → eget t (base q) = .undef ∨ (q ∈ nthL i pr ∧ eget t (base q) = eget t env0)
  out : ∀ q t, (∀ i o, i < nb → ops[i]? = some o → o.dst ≠ some t) → eget t (base q) = eget t env0
  tr : ∀ i, i < nb → ∀ j ∈ nthL i pr, j < i
  dst : ∀ i o, i < nb → ops[i]? = some o → ∀ t, o.dst = some t → t < X.nt
  grd : ∀ i o j b, i < nb → ops[i]? = some o → o.guard = some (j, b) → (dstOf ops j).isSome = true
  hard : ∀ i ∈ hards, ∀ j ∈ hards, j < i → j ∈ nthL i pr
  disj : ∀ k ∈ Rd, k ∉ S

theorem CRan.split (r : CRan X ops pr hards base env0 Df Hs S Rd nb) {pre D : List Done} {d : Done} (h : Df = pre ++ d :: D) :
    D.length < nb ∧ d.i = D.length ∧ ∃ o, ops[D.length]? = some o ∧ d.dst = o.dst ∧ CFact X pr (base D.length) (nthL D.length pr) hards S Rd o d D (Hs D.length) (Hs (D.length + 1)) := by
  have hl : D.length < nb := by rw [← r.len, h]; simp; omega
  obtain ⟨pre', d', D', h1, h2, h3, o, h4, h5, h6⟩ := r.ok D.length (Nat.zero_le _) hl
  rw [h] at h1
  obtain ⟨e1, e2⟩ := List.append_inj' h1 (by simp [h2])
  cases e2
  exact ⟨hl, h3, o, h4, h5, h6⟩
theorem CRan.at (r : CRan X ops pr hards base env0 Df Hs S Rd nb) {i : Nat} (hi : i < nb) : ∃ pre d D, Df = pre ++ d :: D ∧ D.length = i ∧ d.i = i := by
  obtain ⟨pre, d, D, h1, h2, h3, _⟩ := r.ok i (Nat.zero_le _) hi
  exact ⟨pre, d, D, h1, h2, h3⟩
theorem CRan.mem (r : CRan X ops pr hards base env0 Df Hs S Rd nb) {e : Done} (he : e ∈ Df) : e.i < nb ∧ ∃ o, ops[e.i]? = some o ∧ e.dst = o.dst := by
  obtain ⟨pre, D, h⟩ := split_mem he
  obtain ⟨h1, h2, o, h3, h4, _⟩ := r.split h
  rw [h2]; exact ⟨h1, o, h3, h4⟩
theorem CRan.inj (r : CRan X ops pr hards base env0 Df Hs S Rd nb) {e f : Done} {t : Nat} (he : e ∈ Df) (hf : f ∈ Df) (h1 : e.dst = some t) (h2 : f.dst = some t) : e.i = f.i := by
  obtain ⟨a1, o, a2, a3⟩ := r.mem he
  obtain ⟨b1, o', b2, b3⟩ := r.mem hf
  exact r.dist _ _ _ _ t a1 b1 a2 b2 (by rw [← a3]; exact h1) (by rw [← b3]; exact h2)
theorem CRan.idx (r : CRan X ops pr hards base env0 Df Hs S Rd nb) {pre D : List Done} {d : Done} (h : Df = pre ++ d :: D) : (∀ e ∈ pre, d.i < e.i) ∧ (∀ e ∈ D, e.i < d.i) := by
  have hd := (r.split h).2.1
  constructor
  · intro e he
    obtain ⟨p1, p2, hp⟩ := split_mem he
    have := (r.split (pre := p1) (d := e) (D := p2 ++ d :: D) (by rw [h, hp]; simp)).2.1
    rw [this, hd]; simp; omega
  · intro e he
    obtain ⟨p1, p2, hp⟩ := split_mem he
    have := (r.split (pre := pre ++ d :: p1) (d := e) (D := p2) (by rw [h, hp]; simp)).2.1
    rw [this, hd, hp]; simp; omega
theorem CRan.own (r : CRan X ops pr hards base env0 Df Hs S Rd nb) {p : Nat → Bool} {e : Done} {t : Nat} (he : e ∈ Df) (hp : p e.i = true) (hd : e.dst = some t) : eget t (mEnv p env0 Df) = e.v := by
  obtain ⟨pre, D, h⟩ := split_mem he
  have hi := r.idx h
  subst h
  refine mEnv_own (fun f hf hft => ?_) hp hd
  have := r.inj (List.mem_append_left _ hf) he hft hd
  have := hi.1 f hf
  omega
theorem CRan.ownD (r : CRan X ops pr hards base env0 Df Hs S Rd nb) {env1 : Env} {p : Nat → Bool} {pre0 D0 : List Done} {d0 : Done} (h0 : Df = pre0 ++ d0 :: D0) {e : Done} {t : Nat} (he : e ∈ D0) (hp : p e.i = true) (hd : e.dst = some t) : eget t (mEnv p env1 D0) = e.v := by
  obtain ⟨pre, D, h⟩ := split_mem he
  have hi := r.idx (pre := pre0 ++ d0 :: pre) (d := e) (D := D) (by rw [h0, h]; simp)
  have hm : ∀ f ∈ D0, f ∈ Df := fun f hf => by rw [h0]; exact List.mem_append_right _ (List.mem_cons_of_mem _ hf)
  subst h
  refine mEnv_own (fun f hf hft => ?_) hp hd
  have := r.inj (hm f (List.mem_append_left _ hf)) (hm e he) hft hd
  have := hi.1 f (List.mem_append_right _ (List.mem_cons_of_mem _ hf))
  omega

theorem CFact.heap {env0 : Env} {ps : List Nat} {o : Oper} {d : Done} {D : List Done} {A B : Hp} (h : CFact X pr env0 ps hards S Rd o d D A B) : (d.i ∉ hards → B = A) ∧ A.length ≤ B.length ∧ ∀ k, k < A.length → k ∉ S → hget k B = hget k A := by
  rcases h with ⟨_, ⟨h1, e, _, rfl, h3⟩ | ⟨h1, rfl, _⟩⟩ | ⟨_, _, rfl⟩
  · exact ⟨fun h => absurd h1 h, app_len _ _, fun k hk hS => app_get (fun hm => hS (h3 k hm)) hk⟩
  · exact ⟨fun _ => rfl, Nat.le_refl _, fun _ _ _ => rfl⟩
  · exact ⟨fun _ => rfl, Nat.le_refl _, fun _ _ _ => rfl⟩
theorem CRan.step (r : CRan X ops pr hards base env0 Df Hs S Rd nb) {i : Nat} (hi : i < nb) : (i ∉ hards → Hs (i + 1) = Hs i) ∧ (Hs i).length ≤ (Hs (i + 1)).length ∧ ∀ k, k < (Hs i).length → k ∉ S → hget k (Hs (i + 1)) = hget k (Hs i) := by
  obtain ⟨pre, d, D, h1, h2, h3⟩ := r.at hi
  obtain ⟨_, _, o, _, _, hF⟩ := r.split h1
  have := hF.heap
  rw [h3, h2] at this
  exact this
theorem CRan.same (r : CRan X ops pr hards base env0 Df Hs S Rd nb) {a : Nat} : ∀ n, a + n ≤ nb → (∀ i, a ≤ i → i < a + n → i ∉ hards) → Hs (a + n) = Hs a
  | 0, _, _ => rfl
  | n + 1, hn, h => by
    have := (r.step (i := a + n) (by omega)).1 (h _ (by omega) (by omega))
    rw [show a + (n + 1) = a + n + 1 by omega, this]
    exact r.same n (by omega) fun i h1 h2 => h i h1 (by omega)
theorem CRan.keep (r : CRan X ops pr hards base env0 Df Hs S Rd nb) {a : Nat} : ∀ n, a + n ≤ nb → (Hs a).length ≤ (Hs (a + n)).length ∧ ∀ k, k < (Hs a).length → k ∉ S → hget k (Hs (a + n)) = hget k (Hs a)
  | 0, _ => ⟨Nat.le_refl _, fun _ _ _ => rfl⟩
  | n + 1, hn => by
    obtain ⟨h1, h2⟩ := r.keep (a := a) n (by omega)
    obtain ⟨_, g1, g2⟩ := r.step (i := a + n) (by omega)
    rw [show a + (n + 1) = a + n + 1 by omega]
    exact ⟨by omega, fun k hk hS => by rw [g2 k (by omega) hS, h2 k hk hS]⟩
/-- no more hard ones ahead of one than of the other -/
theorem CRan.between (r : CRan X ops pr hards base env0 Df Hs S Rd nb) {a b : Nat} (ha : a ≤ nb) (hb : b ≤ nb) (h : ∀ i, i < nb → i ∈ hards → (i < a ↔ i < b)) : Hs a = Hs b := by
  rcases Nat.le_total a b with hl | hl
  · have := r.same (a := a) (b - a) (by omega) fun i h1 h2 hm => by have := h i (by omega) hm; omega
    rw [← this]; congr 1; omega
  · have := r.same (a := b) (a - b) (by omega) fun i h1 h2 hm => by have := h i (by omega) hm; omega
    rw [← this]; congr 1; omega
theorem CRan.read (r : CRan X ops pr hards base env0 Df Hs S Rd nb) {a b k : Nat} (ha : a ≤ nb) (hb : b ≤ nb) (h1 : k < (Hs a).length) (h2 : k < (Hs b).length) (hS : k ∉ S) : hget k (Hs a) = hget k (Hs b) := by
  rcases Nat.le_total a b with hl | hl
  · have := (r.keep (a := a) (b - a) (by omega)).2 k h1 hS
    rw [← this]; congr 2; omega
  · have := (r.keep (a := b) (a - b) (by omega)).2 k h2 hS
    rw [← this]; congr 2; omega

theorem settled_iff {i : Nat} : settled hards pr i = true ↔ ∀ j ∈ hards, (j < i → j ∈ nthL i pr) ∧ (i < j → i ∈ nthL j pr) := by
  unfold settled
  rw [List.all_eq_true]
  refine forall_congr' fun j => forall_congr' fun _ => ?_
  cases h1 : Nat.blt j i with
  | true =>
    have h1 : j < i := Nat.blt_eq ▸ h1
    simp only [cond_true, elemN_iff]
    exact ⟨fun h => ⟨fun _ => h, fun h2 => by omega⟩, fun h => h.1 h1⟩
  | false =>
    have h1 : ¬ j < i := fun h => by rw [show Nat.blt j i = true from Nat.blt_eq ▸ h] at h1; cases h1
    cases h2 : Nat.blt i j with
    | true =>
      have h2 : i < j := Nat.blt_eq ▸ h2
      simp only [cond_true, cond_false, elemN_iff]
      exact ⟨fun h => ⟨fun h3 => by omega, fun _ => h⟩, fun h => h.2 h2⟩
    | false =>
      have h2 : ¬ i < j := fun h => by rw [show Nat.blt i j = true from Nat.blt_eq ▸ h] at h2; cases h2
      simp only [cond_false, true_iff]
      exact ⟨fun h => by omega, fun h => by omega⟩

/-- the state when some have run -/
def CAt (R1 : Nat → Prop) (w1 : World) (m1 : Mp) (hards : List Nat) (env0 : Env) (Df : List Done) (Hs : Nat → Hp) (nb : Nat) (p : Nat → Bool) (a : Act) (w : World) : Prop :=
  ∃ R m k, k ≤ nb ∧ (∀ i, i < nb → i ∈ hards → (p i = true ↔ i < k)) ∧ Far R1 w1 m1 (Hs 0) R w m (Hs k) ∧ EnvR R w m (Hs k) (mEnv p env0 Df) a

theorem CAt.step (r : CRan X ops pr hards base env0 Df Hs S Rd nb) {R1 : Nat → Prop} {w1 : World} {m1 : Mp} {p p' : Nat → Bool} {i : Nat} {o : Oper} {a : Act} {w : World} (hi : i < nb) (ho : ops[i]? = some o) (hc : Clo pr p nb) (hno : p i = false) (hps : ∀ j ∈ nthL i pr, p j = true)
    (h1 : p' i = true) (h2 : ∀ k, k ≠ i → p' k = p k) (hsz : a.tmps.size = X.nt) (hA : CAt R1 w1 m1 hards env0 Df Hs nb p a w) :
    (Region.wanted o (yielded ops a.tmps) = true ∧ gives X.P o a w fun x w' => CAt R1 w1 m1 hards env0 Df Hs nb p' (a.put o.dst x) w') ∨ (Region.wanted o (yielded ops a.tmps) = false ∧ CAt R1 w1 m1 hards env0 Df Hs nb p' (a.put o.dst undef) w) := by
  obtain ⟨R, m, k, hk, hcut, F0, hE⟩ := hA
  obtain ⟨pre, d, D, hDf, hDl, hdi⟩ := r.at hi
  obtain ⟨_, _, o', ho', hdo, hF⟩ := r.split hDf
  rw [hDl, ho] at ho'; cases ho'
  rw [hDl] at hF
  have hdm : d ∈ Df := by rw [hDf]; simp
  have hidx := r.idx hDf
  have hsub : ∀ e ∈ D, e ∈ Df := fun e he => by rw [hDf]; exact List.mem_append_right _ (List.mem_cons_of_mem _ he)
  -- slots
  have other : ∀ t, o.dst ≠ some t → eget t (mEnv p' env0 Df) = eget t (mEnv p env0 Df) := fun t ht => mEnv_congr fun e he hed => h2 e.i fun hei => ht (by
    obtain ⟨_, oe, g1, g2⟩ := r.mem he
    rw [hei, ho] at g1; cases g1
    rw [← g2]; exact hed)
  have put : ∀ {R' : Nat → Prop} {w' : World} {m' : Mp} {H' : Hp} {x : Value}, EnvR R' w' m' H' (mEnv p env0 Df) a → VR R' w' m' H' d.v x → EnvR R' w' m' H' (mEnv p' env0 Df) (a.put o.dst x) := fun {R' w' m' H' x} hE' hV t => by
    by_cases ht : o.dst = some t
    · rw [r.own hdm (by rw [hdi]; exact h1) (by rw [hdo]; exact ht), ht]
      have e : (a.put (some t) x).tmps.getD t undef = x := by
        rw [Array.getD_eq_getD_getElem?, put_get_eq a x t (by rw [hsz]; exact r.dst i o hi ho t ht)]; rfl
      rw [e]; exact hV
    · rw [other t ht, getD_eq (put_get_ne a o.dst x t ht)]
      exact hE' t
  have hEs : EnvR R w m (Hs k) (mEnv (fun j => elemN j (nthL i pr)) (base i) D) a := by
    intro t
    by_cases h : ∃ e ∈ D, elemN e.i (nthL i pr) = true ∧ e.dst = some t
    · obtain ⟨e, he, hpe, hd⟩ := h
      have e1 : eget t (mEnv (fun j => elemN j (nthL i pr)) (base i) D) = e.v := r.ownD (p := fun j => elemN j (nthL i pr)) hDf he hpe hd
      have e2 : eget t (mEnv p env0 Df) = e.v := r.own (hsub e he) (hps _ (elemN_iff.1 hpe)) hd
      have h3 := hE t
      rw [e2] at h3
      rw [e1]; exact h3
    · rw [mEnv_no fun e he hp hdt => h ⟨e, he, hp, hdt⟩]
      by_cases h' : ∃ e ∈ Df, e.dst = some t
      · obtain ⟨e, he, hd⟩ := h'
        obtain ⟨g0, oe, g1, g2⟩ := r.mem he
        rcases r.und i e.i oe t g0 g1 (by rw [← g2]; exact hd) with hu | ⟨hu1, hu2⟩
        · rw [hu]; exact .undef _
        · rw [hu2]
          have hpe : p e.i = false := by
            cases hpp : p e.i with
            | false => rfl
            | true => have := hc e.i g0 hpp i hu1; rw [hno] at this; cases this
          have h3 := hE t
          rw [mEnv_no fun f hf hfp hfd => (by
            have := r.inj hf he hfd hd
            rw [this, hpe] at hfp; cases hfp)] at h3
          exact h3
      · have h3 := hE t
        rw [mEnv_no fun e he _ hdt => h' ⟨e, he, hdt⟩] at h3
        rw [r.out i t fun j o hj ho hot => ?_]
        · exact h3
        · obtain ⟨pj, d', D', hsp, _, hdi'⟩ := r.at hj
          have hdm' : d' ∈ Df := by rw [hsp]; simp
          obtain ⟨_, o', g1, g2⟩ := r.mem hdm'
          rw [hdi', ho] at g1; cases g1
          exact h' ⟨d', hdm', by rw [g2]; exact hot⟩
  -- is it wanted?
  have hwant : ∀ b, Want (nthL i pr) o D b → Region.wanted o (yielded ops a.tmps) = b := fun b hW => by
    unfold Want at hW
    unfold Region.wanted
    split at hW
    · rename_i hg; rw [hg]; exact hW.symm
    · rename_i j want hg
      rw [hg]
      obtain ⟨hj, hWc⟩ := hW
      have hjl := hps j hj
      have hji := r.tr i hi j hj
      have hjnb : j < nb := by omega
      obtain ⟨pj, e, Dj, hDj, hDjl, hej⟩ := r.at hjnb
      have heD : e ∈ D := by
        have : e ∈ Df := by rw [hDj]; simp
        rw [hDf] at this
        rcases List.mem_append.1 this with h | h
        · have := hidx.1 e h; omega
        · rcases List.mem_cons.1 h with h | h
          · rw [h] at hej; omega
          · exact h
      have hev0 : doneV j D = e.v := by
        have hlt : ∀ l : List Done, (∀ f ∈ l, f ∈ Df) → e ∈ l → doneV j l = e.v := by
          intro l
          induction l with
          | nil => intro _ h; simp at h
          | cons f l ihl =>
            intro hl hel
            simp only [doneV]
            cases hb : Nat.beq j f.i with
            | true =>
              have hb := Nat.eq_of_beq_eq_true hb
              have hfD := hl f (List.mem_cons_self ..)
              obtain ⟨pf, Df', hf'⟩ := split_mem hfD
              have hfl := (r.split hf').2.1
              have : f = e := by
                rw [hDj] at hf'
                obtain ⟨_, e2⟩ := List.append_inj' hf' (by simp; omega)
                cases e2; rfl
              rw [this]; rfl
            | false =>
              rcases List.mem_cons.1 hel with rfl | hel
              · rw [hej, Nat.beq_refl] at hb; cases hb
              · exact ihl (fun f hf => hl f (List.mem_cons_of_mem _ hf)) hel
        exact hlt D hsub heD
      obtain ⟨_, oj, hoj, hdj⟩ := r.mem (hsub e heD)
      rw [hej] at hoj
      have hsome := r.grd i o j want hi ho hg
      unfold dstOf at hsome
      rw [hoj] at hsome
      simp only [Option.bind_some] at hsome
      obtain ⟨tj, htj⟩ := Option.isSome_iff_exists.1 hsome
      have htn := r.dst j oj hjnb hoj tj htj
      have h3 := hE tj
      rw [r.own (hsub e heD) (by rw [hej]; exact hjl) (by rw [hdj]; exact htj), ← hev0] at h3
      have hlt : tj < a.tmps.size := by rw [hsz]; exact htn
      generalize hv : a.tmps.getD tj undef = v at h3
      rcases hWc with ⟨c, hcv, rfl⟩ | ⟨hcv, rfl⟩
      · rw [hcv] at h3
        cases h3
        have hy : yielded ops a.tmps j = some c := by
          unfold yielded
          rw [hoj]
          simp only [Option.bind_some, htj]
          simp only [Array.getD, hlt, dif_pos] at hv
          simp [hlt]
          simp at hv
          rw [hv]
        show (yielded ops a.tmps j == some want) = (c == want)
        rw [hy]; cases c <;> cases want <;> rfl
      · rw [hcv] at h3
        have hv0 : v = .tuple #[] := by
          cases h3 with
          | tup cs xs h1 h2 =>
            cases xs with
            | nil => rfl
            | cons x xs => simp at h1
        have hy := yielded_none (ops := ops) (a := a) (j := j) (t := tj) (by rw [hoj]; exact htj) (hv.trans hv0)
        show (yielded ops a.tmps j == some want) = false
        rw [hy]; cases want <;> rfl
  have mono : ∀ {S S' : Value → World → Prop} {z : Result Next}, (∀ x w', S x w' → S' x w') → givesUpon X.P S z → givesUpon X.P S' z := fun hss h => by
    rename_i S S' z
    cases z with
    | ok n w' =>
      cases n <;> simp only [givesUpon] at h ⊢
      case value u => exact hss _ _ h
      case skip => exact hss _ _ h
      case enter f args => exact Calls.mono h fun e w'' ⟨v, he, hr⟩ => ⟨v, he, hss _ _ hr⟩
    | halt x w' => simp only [givesUpon] at h
  -- the hard ones that have run are those ahead
  have hcut' : i ∈ hards → (∀ j, j < nb → j ∈ hards → (j < k ↔ j < i)) ∧ ∀ j, j < nb → j ∈ hards → (p' j = true ↔ j < i + 1) := fun hm => by
    have key : ∀ j, j < nb → j ∈ hards → (p j = true ↔ j < i) := fun j hj hjm => by
      constructor
      · intro hpj
        rcases Nat.lt_trichotomy j i with h | h | h
        · exact h
        · subst h; rw [hno] at hpj; cases hpj
        · have := hc j hj hpj i (r.hard j hjm i hm h)
          rw [hno] at this; cases this
      · exact fun h => hps j (r.hard i hm j hjm h)
    refine ⟨fun j hj hjm => by rw [← hcut j hj hjm]; exact key j hj hjm, fun j hj hjm => ?_⟩
    by_cases e : j = i
    · subst e; rw [h1]; simp
    · rw [h2 j e, key j hj hjm]; omega
  have soft : i ∉ hards → ∀ j, j < nb → j ∈ hards → (p' j = true ↔ j < k) := fun hm j hj hjm => by
    rw [h2 j fun e => hm (e ▸ hjm)]; exact hcut j hj hjm
  rcases hF with ⟨hw, ⟨hh, e, hdoes, hB, _⟩ | ⟨hh, hB, l, q, hl, hlr, hop, hq, _⟩⟩ | ⟨hw, hv, hB⟩
  · left
    refine ⟨hwant true hw, ?_⟩
    rw [hdi] at hh
    obtain ⟨g1, g2⟩ := hcut' hh
    have hki : Hs k = Hs i := r.between hk (by omega) g1
    rw [hki] at F0 hE hEs
    have hg := hdoes R w m a F0.sim hEs
    unfold gives at hg ⊢
    refine mono (fun x w' ⟨R', m', F, hV⟩ => ?_) hg
    rw [← hB] at F hV
    exact ⟨R', m', i + 1, by omega, g2, F0.trans F, put (hE.far F F0.sim) hV⟩
  · left
    refine ⟨hwant true hw, ?_⟩
    rw [hdi] at hh
    have hlt := readRefs_lt F0.sim hEs hl
    have hsame : ∀ b ∈ l, hget b (Hs i) = hget b (Hs k) := fun b hb => by
      cases hst : settled hards pr d.i with
      | false => exact r.read (by omega) hk (hlr b hb).1 (hlt b hb) (r.disj b ((hlr b hb).2 hst))
      | true =>
        rw [hdi] at hst
        have hst := settled_iff.1 hst
        rw [r.between (a := i) (b := k) (by omega) hk fun j hj hjm => ?_]
        obtain ⟨s1, s2⟩ := hst j hjm
        constructor
        · intro hji; exact (hcut j hj hjm).1 (hps j (s1 hji))
        · intro hjk
          have hpj := (hcut j hj hjm).2 hjk
          rcases Nat.lt_trichotomy j i with h | h | h
          · exact h
          · subst h; exact absurd hjm hh
          · have := hc j hj hpj i (s2 h)
            rw [hno] at this; cases this
    have hop' := read_congr (H' := Hs k) hl hsame hop
    have hg := opDoes_of hop' hq R w m a F0.sim hEs
    unfold gives at hg ⊢
    refine mono (fun x w' ⟨R', m', F, hV⟩ => ?_) hg
    rw [noEff_app] at F hV
    exact ⟨R', m', k, hk, soft hh, F0.trans F, put (hE.far F F0.sim) hV⟩
  · right
    refine ⟨hwant false hw, ?_⟩
    by_cases hh : i ∈ hards
    · obtain ⟨g1, g2⟩ := hcut' hh
      have hki : Hs k = Hs i := r.between hk (by omega) g1
      rw [hki] at F0 hE
      rw [← hB] at F0 hE
      exact ⟨R, m, i + 1, by omega, g2, F0, put hE (by rw [hv]; exact VR.skip)⟩
    · exact ⟨R, m, k, hk, soft hh, F0, put hE (by rw [hv]; exact VR.skip)⟩

theorem chain_sound (hT : TSound X.P X.T) {s : St} {K : St → Prop} (h : chainR X ops nb hards pr s K) : ∃ s', K s' ∧ AnyOk X ops s s' := by
  unfold chainR at h
  simp only [chkP] at h
  cases hok : chainOk ops X.nt nb hards pr with
  | false => rw [hok] at h; exact h.elim
  | true =>
  rw [hok] at h
  simp only [cond_true] at h
  unfold chainOk at hok
  simp only [Bool.and_eq_true] at hok
  obtain ⟨⟨⟨⟨⟨htr, hfa⟩, hseq⟩, hlen⟩, hpo⟩, hho⟩ := hok
  have hlen := Nat.eq_of_beq_eq_true hlen
  have hf := factsC_of hfa
  have hnb : (ops.toList.take nb).length = nb := by have := hf.le; simp; omega
  have htake : ∀ j, j < nb → (ops.toList.take nb)[j]? = ops[j]? := fun j hj => by rw [List.getElem?_take, if_pos hj]; simp
  obtain ⟨Df, Hs, S, Rd, _, hH0, hDl, hCO, hK, _, _⟩ := chainP_sound hT (ops := ops) (pr := pr) (hards := hards) (base := fun i => undefsX i (ops.toList.take nb) pr s.env) (ops.toList.take nb) pr [] s.heap [] [] _ (fun j o hj => by
    rw [List.length_nil, Nat.zero_add, ← htake j (by have := (List.getElem?_eq_some_iff.1 hj).1; omega)]; exact hj) (fun j => by rw [List.length_nil, Nat.zero_add]) h
  rw [List.length_nil, Nat.zero_add, hnb] at hDl hCO hK
  rw [List.length_nil] at hH0
  cases hdj : disjL Rd S with
  | false => rw [hdj] at hK; exact hK.elim
  | true =>
  rw [hdj] at hK
  simp only [cond_true] at hK
  rw [maskEnvK_iff] at hK
  obtain ⟨s', hk, hs⟩ := opsP_sound hT hK
  have hdj' : ∀ k ∈ Rd, k ∉ S := by
    have : ∀ (a b : List Nat), disjL a b = true → ∀ k ∈ a, k ∉ b := by
      intro a b
      induction a with
      | nil => intro _ k hk; simp at hk
      | cons x a ih =>
        intro h k hk
        simp only [disjL, Bool.and_eq_true] at h
        rcases List.mem_cons.1 hk with rfl | hk
        · intro hb; rw [elemN_iff.2 hb] at h; simp at h
        · exact ih h.2 k hk
    exact this Rd S hdj
  have r : CRan X ops pr hards (fun i => undefsX i (ops.toList.take nb) pr s.env) s.env Df Hs S Rd nb := by
    refine ⟨hDl, hCO, fun i j o o' t hi hj ho ho' hd hd' => ?_, fun q i o t hi ho hd => ?_, fun q t ht => ?_, fun i hi j hj => ?_, fun i o hi ho t ht => ?_, fun i o j b hi ho hg => ?_, fun i hi j hj hji => ?_, hdj'⟩
    · obtain ⟨o1, a1, a2, _⟩ := hf.op i hi
      obtain ⟨o2, b1, b2, _⟩ := hf.op j hj
      rw [ho] at a1; cases a1
      rw [ho'] at b1; cases b1
      have a3 := (a2 t hd).2
      have b3 := (b2 t hd').2
      rcases Nat.lt_trichotomy i j with hl | hl | hl
      · exact absurd (show dstOf ops i = some t by unfold dstOf; rw [ho]; exact hd) (b3 i hl)
      · exact hl
      · exact absurd (show dstOf ops j = some t by unfold dstOf; rw [ho']; exact hd') (a3 j hl)
    · rcases undefsX_get (i := q) (env := s.env) (t := t) (ops.toList.take nb) pr with ⟨g1, _⟩ | ⟨g1, g2⟩
      · exact .inl g1
      · exact .inr ⟨g2 i o (by rw [htake i hi]; exact ho) hd, g1⟩
    · rcases undefsX_get (i := q) (env := s.env) (t := t) (ops.toList.take nb) pr with ⟨_, j, o, g1, g2⟩ | ⟨g1, _⟩
      · have hj : j < nb := by have := (List.getElem?_eq_some_iff.1 g1).1; omega
        exact absurd g2 (ht j o hj (by rw [← htake j hj]; exact g1))
      · exact g1
    · have := (predsTrans_get htr i (by omega) j hj).1
      omega
    · obtain ⟨o1, a1, a2, _⟩ := hf.op i hi
      rw [ho] at a1; cases a1
      exact (a2 t ht).1
    · obtain ⟨o1, a1, _, a2, _⟩ := hf.op i hi
      rw [ho] at a1; cases a1
      exact a2 j b hg
    · unfold hardsOk at hho
      rw [List.all_eq_true] at hho
      have := hho i hi
      rw [List.all_eq_true] at this
      have := this j hj
      rw [Bool.or_eq_true] at this
      rcases this with h | h
      · have : Nat.blt j i = true := Nat.ble_eq_true_of_le hji
        rw [this] at h; cases h
      · exact elemN_iff.1 h
  refine ⟨s', hk, fun R0 w0 m0 H0 _ _ a w hI => ?_⟩
  obtain ⟨⟨R, m, F0, hE⟩, hsz, hnd⟩ := hI
  have hdr := F0.sim.drew
  have F1 := F0.trans hdr.far
  have hE1 := hE.far hdr.far F0.sim
  have hrep : ∀ i, (Array.replicate ops.size false).getD i false = false := fun i => by
    rw [Array.getD_eq_getD_getElem?, Array.getElem?_replicate]; split <;> rfl
  have hS1 : Sim R w.drew m s.heap := hdr.sim
  have hA0 : CAt R w.drew m hards s.env Df Hs nb (fun k => (Array.replicate ops.size false).getD k false) a w.drew := by
    refine ⟨R, m, 0, Nat.zero_le _, fun i _ _ => by show (Array.replicate ops.size false).getD i false = true ↔ i < 0; rw [hrep]; simp, by rw [hH0]; exact .refl hS1, fun t => ?_⟩
    rw [hH0, mEnv_no fun d _ hp _ => (by rw [hrep] at hp; cases hp)]
    exact hE1 t
  have key := any_gen (X := X) (ops := ops) (pr := pr) (nb := nb) (nt := X.nt) (Q := fun e1 a1 w1 => ExR .normal e1 ∧ Inv X.nt R0 w0 m0 H0 a1 w1 s') (A := CAt R w.drew m hards s.env Df Hs nb) hf hseq (fun i hi => by
      obtain ⟨o, h1, h2⟩ := predsOk_get hpo i (by omega)
      rw [Nat.zero_add] at h1 h2
      exact ⟨o, h1, h2⟩) (fun p p' i o a w hi ho hc hno hps h1 h2 hs' hA => CAt.step r hi ho hc hno hps h1 h2 hs' hA) (fun a' w' hA hs' hn' => by
      obtain ⟨R', m', k, hk', hcut, F3, hE3⟩ := hA
      have hkn : Hs k = Hs nb := r.between hk' (Nat.le_refl _) fun i hi hm => by
        rw [← hcut i hi hm]; simp
      rw [hkn] at F3 hE3
      rw [hH0] at F3
      refine hs R0 w0 m0 H0 a' w' ⟨⟨R', m', F1.trans F3, fun t => ?_⟩, hs', hn'⟩ _ fun a2 w2 hI2 => ⟨rfl, hI2⟩
      have h3 := hE3 t
      have hall : ∀ d ∈ Df, decide (d.i < nb) = true := fun d hd => by simpa using (r.mem hd).1
      by_cases hex : ∃ d ∈ Df, d.dst = some t
      · obtain ⟨d, hd, hdt⟩ := hex
        rw [r.own (p := fun k => decide (k < nb)) hd (hall d hd) hdt] at h3
        have h4 : eget t (mEnv (fun k => elemN k (Df.map (·.i))) s.env Df) = d.v := by
          obtain ⟨pre, D', h⟩ := split_mem hd
          have hi := r.idx h
          have hm : elemN d.i (Df.map (·.i)) = true := elemN_iff.2 (List.mem_map.2 ⟨d, hd, rfl⟩)
          generalize Df.map (·.i) = li at hm ⊢
          rw [h]
          refine mEnv_own (p := fun k => elemN k li) (fun f hf hft => ?_) hm hdt
          have := r.inj (by rw [h]; exact List.mem_append_left _ hf) hd hft hdt
          have := hi.1 f hf
          omega
        show VR _ _ _ _ (eget t (mEnv (fun k => elemN k (Df.map (·.i))) s.env Df)) _
        rw [h4]; exact h3
      · rw [mEnv_no fun d hd _ hdt => hex ⟨d, hd, hdt⟩] at h3
        show VR _ _ _ _ (eget t (mEnv (fun k => elemN k (Df.map (·.i))) s.env Df)) _
        rw [mEnv_no fun d hd _ hdt => hex ⟨d, hd, hdt⟩]
        exact h3) nb (Array.replicate ops.size false) a w.drew hA0 hsz hnd (by simp) (fun i _ => hrep i) (fun k o _ hkl => by rw [hrep] at hkl; cases hkl) (by
      have : ∀ (r : List Nat), (r.filter fun i => !(Array.replicate ops.size false).getD i false) = r := fun r => by
        apply List.filter_eq_self.2
        intro i _
        rw [hrep i]; rfl
      rw [this]; simp)
  have e : nb + (ops.size - nb) = ops.size := by have := hf.le; omega
  rw [e] at key
  exact key
end

theorem old_any {X : Cx} (hT : TSound X.P X.T) {id : Nat} {ops : Array Oper} {s : St} {K : St → Prop} (h : oldR X id ops true s K) : ∃ s', K s' ∧ AnyOk X ops s s' := by
  unfold oldR at h
  simp only at h
  split at h
  · exact draw_old hT h
  · rename_i ps r _
    cases hb : Nat.beq r.length (X.ann id).2.1 with
    | true => rw [hb] at h; exact chain_sound hT h
    | false => rw [hb] at h; exact draw_old hT h
theorem AnyOk.code {X : Cx} (hm : X.P.follows .mixedOrders = true) {id : Nat} {ops : Array Oper} {s s' : St} (h : AnyOk X ops s s') : CodeOk X (.region id ops true) s .normal s' :=
  fun R0 w0 m0 H0 hl hS a w hI => wp_region_any hm (h R0 w0 m0 H0 hl hS a w hI)
theorem old_sound {X : Cx} (hT : TSound X.P X.T) (hm : X.P.follows .mixedOrders = true) {id : Nat} {ops : Array Oper} {b : Bool} {s : St} {K : St → Prop} (h : oldR X id ops b s K) : ∃ s', K s' ∧ CodeOk X (.region id ops b) s .normal s' := by
  cases b with
  | false => unfold oldR at h; exact seq_sound hT h
  | true =>
    obtain ⟨s', hk, hs⟩ := old_any hT h
    exact ⟨s', hk, hs.code hm⟩
/-- stores that wait for some moves, too -/
theorem late_any {X : Cx} : ∀ {ks : List Nat} {ops : Array Oper} {K : Array Oper → Prop}, lateP ks ops K → ∃ ops', K ops' ∧ ∀ s s', AnyOk X ops' s s' → AnyOk X ops s s'
  | [], ops, K, h => ⟨ops, h, fun _ _ h => h⟩
  | k :: r, ops, K, h => by
    simp only [lateP, chkP] at h
    cases hl : lateOk k ops with
    | false => rw [hl] at h; exact h.elim
    | true =>
      rw [hl] at h
      simp only [cond_true] at h
      obtain ⟨ops', hK, himp⟩ := late_any h
      refine ⟨ops', hK, fun s s' ha => ?_⟩
      have h1 := himp s s' ha
      obtain ⟨ok, L⟩ := late_of hl
      intro R0 w0 m0 H0 hl hS a w hI
      have h2 := h1 R0 w0 m0 H0 hl hS a w hI
      rw [late_size] at h2
      have hrep : ∀ i, (Array.replicate ops.size false).getD i false = false := fun i => by
        rw [Array.getD_eq_getD_getElem?, Array.getElem?_replicate]; split <;> rfl
      refine L.any (fun e a w hq => ?_) ops.size _ a w.drew (by simp) (fun j o _ hj => ?_) (hrep k) h2
      · have := hq.1
        cases e <;> first | rfl | cases this
      · rw [hrep] at hj; cases hj
end Go.Proofs.Ytnbbaemijogeoaa.Ae

namespace Go.Proofs.Ytnbbaemijogeoaa.Ae
open Go

section
variable {X : Cx} {ops : Array Oper} {pss : List (List Nat)} {env0 env : Env} {H : Hp} {Df : List PD} {nb : Nat}

theorem pMaskK_iff {ps : List Nat} {ch : List (Nat × Bool)} : ∀ {D : List PD} {k : Env → Prop}, pMaskK ps ch env0 D k ↔ k (pMask ps ch env0 D)
  | [], k => Iff.rfl
  | d :: r, k => by
    simp only [pMaskK, pMask]
    rw [pMaskK_iff]
    cases elemN d.i ps && subCh d.ch ch with
    | true => simp only [cond_true]; exact putK_iff
    | false => exact Iff.rfl
theorem pEndK_iff : ∀ {D : List PD} {k : Env → Prop}, pEndK env D k ↔ k (pEnd env D)
  | [], k => Iff.rfl
  | d :: r, k => by simp only [pEndK, pEnd]; rw [pEndK_iff, forceV_iff]; exact putK_iff
theorem impK_iff {g : Bool} {p : Option Prop} {q : Prop} (h : impK g p q) : (g = true → ∀ r, p = some r → r) ∧ q := by
  cases p with
  | none => exact ⟨fun _ r e => (by cases e), h⟩
  | some p => exact ⟨fun hg r e => (by cases e; exact h.1 hg), h.2⟩

/-- an operation's value -/
def PEv (P : Program) (op : Op) (env0 : Env) (H : Hp) (ps : List Nat) (ch : List (Nat × Bool)) (D : List PD) (g : Bool) (v : AVal) : Prop :=
  (∃ c a b e t x y, op = .pick (.tmp c) a b ∧ pDst c D = some e ∧ e.i ∈ ps ∧ subCh e.ch ch = true ∧ e.v = .bool t ∧ oper (pMask ps ((e.i, true) :: ch) env0 D) a = some x ∧ oper (pMask ps ((e.i, false) :: ch) env0 D) b = some y ∧ pickV t x y = some v) ∨
  (∃ p, opF P op (pMask ps ch env0 D) H = some ⟨p, v, noEff⟩ ∧ (g = true → ∀ q, p = some q → q))
theorem pEvalK_inv {P : Program} {op : Op} {ps : List Nat} {ch : List (Nat × Bool)} {D : List PD} {g : Bool} {Q : AVal → Prop} (h : pEvalK P op env0 H ps ch D fun p v => impK g p (Q v)) : ∃ v, Q v ∧ PEv P op env0 H ps ch D g v := by
  unfold pEvalK at h
  split at h
  · rename_i c a b
    split at h
    · rename_i e he
      cases hc : elemN e.i ps && subCh e.ch ch with
      | false => rw [hc] at h; exact h.elim
      | true =>
        rw [hc] at h
        simp only [cond_true] at h
        rw [Bool.and_eq_true] at hc
        split at h
        · rename_i t ht
          rw [pMaskK_iff, pMaskK_iff] at h
          split at h
          · rename_i x y hx hy
            split at h
            · rename_i v hv
              exact ⟨v, h, .inl ⟨c, a, b, e, t, x, y, rfl, he, elemN_iff.1 hc.1, hc.2, ht, hx, hy, hv⟩⟩
            · exact h.elim
          · exact h.elim
        · exact h.elim
    · exact h.elim
  · rw [pMaskK_iff] at h
    split at h
    · split at h
      · rename_i p v hop
        obtain ⟨h1, h2⟩ := impK_iff h
        exact ⟨v, h2, .inr ⟨p, hop, h1⟩⟩
      · exact h.elim
    · exact h.elim

def PFact (X : Cx) (ops : Array Oper) (pss : List (List Nat)) (env0 : Env) (H : Hp) (d : PD) (D : List PD) : Prop :=
  d.i = D.length ∧ ∃ o, ops[D.length]? = some o ∧ d.dst = o.dst ∧ pGuard (nthL D.length pss) D o = some (d.g, d.ch) ∧ PEv X.P o.op env0 H (nthL D.length pss) d.ch D d.g d.v
def POk (X : Cx) (ops : Array Oper) (pss : List (List Nat)) (env0 : Env) (H : Hp) : List PD → Prop
  | [] => True
  | d :: D => POk X ops pss env0 H D ∧ PFact X ops pss env0 H d D

theorem pureP_sound : ∀ (l : List Oper) (pr : List (List Nat)) (D : List PD) (K : List PD → Prop), POk X ops pss env0 H D → (∀ j o, l[j]? = some o → ops[D.length + j]? = some o) → (∀ j, nthL j pr = nthL (D.length + j) pss) →
    pureP X.P env0 H l pr D.length D K → ∃ Df, POk X ops pss env0 H Df ∧ Df.length = D.length + l.length ∧ K Df
  | [], pr, D, K, hD, _, _, h => ⟨D, hD, rfl, h⟩
  | o :: r, [], D, K, _, _, _, h => h.elim
  | o :: r, ps :: pr, D, K, hD, hl, hp, h => by
    have ho : ops[D.length]? = some o := hl 0 o rfl
    have hps : ps = nthL D.length pss := hp 0
    simp only [pureP] at h
    split at h
    · rename_i g ch hg
      obtain ⟨v, hk, he⟩ := pEvalK_inv h
      rw [forceV_iff] at hk
      obtain ⟨Df, h1, h2, h3⟩ := pureP_sound r pr (⟨D.length, o.dst, v, g, ch⟩ :: D) K ⟨hD, rfl, o, ho, rfl, by rw [← hps]; exact hg, by rw [← hps]; exact he⟩ (fun j o' hj => by
        have := hl (j + 1) o' (by simpa using hj)
        rw [List.length_cons, show D.length + 1 + j = D.length + (j + 1) by omega]; exact this) (fun j => by
        have := hp (j + 1)
        rw [List.length_cons, show D.length + 1 + j = D.length + (j + 1) by omega]; exact this) hk
      exact ⟨Df, h1, by simp at h2 ⊢; omega, h3⟩
    · exact h.elim

theorem POk.suffix : ∀ {pre D : List PD}, POk X ops pss env0 H (pre ++ D) → POk X ops pss env0 H D
  | [], _, h => h
  | _ :: pre, _, h => POk.suffix (pre := pre) h.1
theorem POk.lt : ∀ {D : List PD}, POk X ops pss env0 H D → ∀ d ∈ D, d.i < D.length
  | [], _, d, hd => by simp at hd
  | e :: D, h, d, hd => by
    rcases List.mem_cons.1 hd with hd' | hd'
    · rw [hd', h.2.1]; simp
    · have := POk.lt h.1 d hd'; simp; omega
theorem POk.uniq : ∀ {D : List PD}, POk X ops pss env0 H D → ∀ d ∈ D, ∀ e ∈ D, d.i = e.i → d = e
  | [], _, d, hd, _, _, _ => by simp at hd
  | f :: D, h, d, hd, e, he, hi => by
    rcases List.mem_cons.1 hd with hd' | hd' <;> rcases List.mem_cons.1 he with he' | he'
    · rw [hd', he']
    · have := POk.lt h.1 e he'; rw [← hi, hd', h.2.1] at this; omega
    · have := POk.lt h.1 d hd'; rw [hi, he', h.2.1] at this; omega
    · exact POk.uniq h.1 d hd' e he' hi
theorem POk.at (h : POk X ops pss env0 H Df) {d : PD} (hd : d ∈ Df) : ∃ pre D, Df = pre ++ d :: D ∧ PFact X ops pss env0 H d D := by
  obtain ⟨pre, D, e⟩ := List.append_of_mem hd
  have h' : POk X ops pss env0 H (d :: D) := POk.suffix (pre := pre) (by rw [← e]; exact h)
  exact ⟨pre, D, e, h'.2⟩
theorem POk.find : ∀ {D : List PD} {i : Nat}, POk X ops pss env0 H D → i < D.length → ∃ d ∈ D, d.i = i
  | [], i, _, hi => by simp at hi
  | d :: D, i, h, hi => by
    by_cases e : i = D.length
    · exact ⟨d, List.mem_cons_self .., by rw [h.2.1, e]⟩
    · obtain ⟨f, hf, hfi⟩ := POk.find h.1 (show i < D.length by simp at hi; omega)
      exact ⟨f, List.mem_cons_of_mem _ hf, hfi⟩

theorem pFind_mem {j : Nat} : ∀ {D : List PD} {e : PD}, pFind j D = some e → e ∈ D ∧ e.i = j
  | [], e, h => by simp [pFind] at h
  | d :: D, e, h => by
    simp only [pFind] at h
    cases hb : Nat.beq j d.i with
    | true => rw [hb] at h; simp at h; subst h; exact ⟨List.mem_cons_self .., (Nat.eq_of_beq_eq_true hb).symm⟩
    | false => rw [hb] at h; obtain ⟨h1, h2⟩ := pFind_mem (D := D) h; exact ⟨List.mem_cons_of_mem _ h1, h2⟩
theorem pDst_mem {t : Nat} : ∀ {D : List PD} {e : PD}, pDst t D = some e → e ∈ D ∧ e.dst = some t
  | [], e, h => by simp [pDst] at h
  | d :: D, e, h => by
    simp only [pDst] at h
    split at h
    · rename_i u hu
      cases hb : Nat.beq t u with
      | true => rw [hb] at h; simp at h; subst h; exact ⟨List.mem_cons_self .., by rw [hu, Nat.eq_of_beq_eq_true hb]⟩
      | false => rw [hb] at h; obtain ⟨h1, h2⟩ := pDst_mem (D := D) h; exact ⟨List.mem_cons_of_mem _ h1, h2⟩
    · obtain ⟨h1, h2⟩ := pDst_mem (D := D) h; exact ⟨List.mem_cons_of_mem _ h1, h2⟩

/-- all conditions of a list hold -/
def Holds (Df : List PD) (ch : List (Nat × Bool)) : Prop := ∀ j b, (j, b) ∈ ch → ∃ e ∈ Df, e.i = j ∧ e.g = true ∧ e.v = .bool b
theorem pairIn_mem {j : Nat} {b : Bool} : ∀ {l : List (Nat × Bool)}, pairIn j b l = true → (j, b) ∈ l
  | [], h => by simp [pairIn] at h
  | (k, c) :: r, h => by
    simp only [pairIn] at h
    cases hb : Nat.beq j k && cond c b (!b) with
    | true =>
      rw [Bool.and_eq_true] at hb
      have := Nat.eq_of_beq_eq_true hb.1
      subst this
      have : b = c := by cases b <;> cases c <;> simp_all
      subst this
      exact List.mem_cons_self ..
    | false => rw [hb] at h; exact List.mem_cons_of_mem _ (pairIn_mem h)
theorem Holds.sub : ∀ {a b : List (Nat × Bool)}, subCh a b = true → Holds Df b → Holds Df a
  | [], b, _, _ => fun j c h => by simp at h
  | (k, c) :: r, b, h, hb => by
    simp only [subCh, Bool.and_eq_true] at h
    intro j d hm
    rcases List.mem_cons.1 hm with e | hm
    · cases e; exact hb k c (pairIn_mem h.1)
    · exact Holds.sub h.2 hb j d hm
theorem POk.g_iff (h : POk X ops pss env0 H Df) : ∀ (n : Nat), ∀ d ∈ Df, d.i = n → (d.g = true ↔ Holds Df d.ch) := by
  intro n
  induction n using Nat.strongRecOn with
  | _ n ih =>
    intro d hd hn
    obtain ⟨pre, D, hs, hi, o, ho, hdst, hg, _⟩ := h.at hd
    unfold pGuard at hg
    split at hg
    · simp only [Option.some.injEq, Prod.mk.injEq] at hg
      obtain ⟨h1, h2⟩ := hg
      rw [← h1, ← h2]
      exact ⟨fun _ j b hm => by simp at hm, fun _ => rfl⟩
    · rename_i j want _
      cases hj : elemN j (nthL D.length pss) with
      | false => rw [hj] at hg; simp at hg
      | true =>
        rw [hj] at hg
        simp only [cond_true] at hg
        split at hg
        · rename_i e he
          split at hg
          · rename_i b hb
            simp only [Option.some.injEq, Prod.mk.injEq] at hg
            obtain ⟨h1, h2⟩ := hg
            obtain ⟨he1, he2⟩ := pFind_mem he
            have hem : e ∈ Df := by rw [hs]; exact List.mem_append_right _ (List.mem_cons_of_mem _ he1)
            have hlt : e.i < n := by
              have := POk.lt (POk.suffix (pre := pre ++ [d]) (by rw [List.append_assoc]; exact hs ▸ h)) e he1
              omega
            rw [← h1, ← h2]
            constructor
            · intro hh
              have hg1 : e.g = true := by
                cases hq : e.g with
                | true => rfl
                | false => rw [hq] at hh; cases hh
              rw [hg1] at hh
              have hbw : b = want := by cases b <;> cases want <;> simp_all
              subst hbw
              intro k c hm
              rcases List.mem_cons.1 hm with q | hm
              · cases q; exact ⟨e, hem, he2, hg1, hb⟩
              · exact (ih e.i hlt e hem rfl).1 hg1 k c hm
            · intro hh
              obtain ⟨e', h1', h2', h3', h4'⟩ := hh j want (List.mem_cons_self ..)
              have : e' = e := POk.uniq h e' h1' e hem (by rw [h2', he2])
              subst this
              rw [hb] at h4'
              have hbw : b = want := AVal.bool.inj h4'
              rw [h3', hbw]
              cases want <;> rfl
          · cases hg
        · cases hg

structure PRan (X : Cx) (ops : Array Oper) (pss : List (List Nat)) (env0 env : Env) (H : Hp) (Df : List PD) (nb : Nat) : Prop where
  ok : POk X ops pss env0 H Df
  len : Df.length = nb
  fac : FactsC ops nb X.nt
  und : ∀ d ∈ Df, ∀ t, d.dst = some t → eget t env0 = .undef
  out : ∀ t, (∀ d ∈ Df, d.dst ≠ some t) → eget t env0 = eget t env

theorem PRan.oper (r : PRan X ops pss env0 env H Df nb) {d : PD} (hd : d ∈ Df) : d.i < nb ∧ ∃ o, ops[d.i]? = some o ∧ d.dst = o.dst := by
  obtain ⟨pre, D, hs, hi, o, ho, hdst, _⟩ := r.ok.at hd
  refine ⟨by rw [← r.len]; exact POk.lt r.ok d hd, o, by rw [hi]; exact ho, hdst⟩
theorem PRan.dist (r : PRan X ops pss env0 env H Df nb) {d e : PD} (hd : d ∈ Df) (he : e ∈ Df) {t : Nat} (h1 : d.dst = some t) (h2 : e.dst = some t) : d = e := by
  obtain ⟨a1, o, a2, a3⟩ := r.oper hd
  obtain ⟨b1, o', b2, b3⟩ := r.oper he
  refine POk.uniq r.ok d hd e he ?_
  rw [h1] at a3; rw [h2] at b3
  obtain ⟨q, q1, q2, _⟩ := r.fac.op d.i a1
  obtain ⟨q', p1, p2, _⟩ := r.fac.op e.i b1
  rw [a2] at q1; cases q1
  rw [b2] at p1; cases p1
  rcases Nat.lt_trichotomy d.i e.i with hl | hl | hl
  · exact absurd (show dstOf ops d.i = some t by unfold dstOf; rw [a2]; exact a3.symm) ((p2 t b3.symm).2 d.i hl)
  · exact hl
  · exact absurd (show dstOf ops e.i = some t by unfold dstOf; rw [b2]; exact b3.symm) ((q2 t a3.symm).2 e.i hl)

theorem eget_put_ne {dst : Option Nat} {v : AVal} {e : Env} {t : Nat} (h : dst ≠ some t) : eget t (putEnv dst v e) = eget t e := by
  cases dst with
  | none => rfl
  | some u =>
    simp only [putEnv, eget]
    cases hb : Nat.beq t u with
    | false => rfl
    | true => have := Nat.eq_of_beq_eq_true hb; subst this; exact absurd rfl h
theorem eget_put_eq {v : AVal} {e : Env} {t : Nat} : eget t (putEnv (some t) v e) = v := by
  simp only [putEnv, eget, Nat.beq_refl, cond_true]
theorem pMask_own {ps : List Nat} {ch : List (Nat × Bool)} {t : Nat} {e : PD} (hd : e.dst = some t) (hc : (elemN e.i ps && subCh e.ch ch) = true) : ∀ {D : List PD}, (∀ f ∈ D, f.dst = some t → f = e) → e ∈ D → eget t (pMask ps ch env0 D) = e.v
  | [], _, h => by simp at h
  | f :: D, hu, h => by
    simp only [pMask]
    by_cases hf : f = e
    · subst hf; rw [hc]; simp only [cond_true]; rw [hd]; exact eget_put_eq
    · have hne : f.dst ≠ some t := fun q => hf (hu f (List.mem_cons_self ..) q)
      have ih := pMask_own hd hc (D := D) (fun g hg => hu g (List.mem_cons_of_mem _ hg)) (by
        rcases List.mem_cons.1 h with q | q
        · exact absurd q.symm hf
        · exact q)
      cases elemN f.i ps && subCh f.ch ch with
      | true => simp only [cond_true]; rw [eget_put_ne hne]; exact ih
      | false => exact ih
theorem pMask_no {ps : List Nat} {ch : List (Nat × Bool)} {t : Nat} : ∀ {D : List PD}, (∀ f ∈ D, (elemN f.i ps && subCh f.ch ch) = true → f.dst ≠ some t) → eget t (pMask ps ch env0 D) = eget t env0
  | [], _ => rfl
  | f :: D, h => by
    simp only [pMask]
    have ih := pMask_no (D := D) (fun g hg => h g (List.mem_cons_of_mem _ hg))
    cases hc : elemN f.i ps && subCh f.ch ch with
    | true => simp only [cond_true]; rw [eget_put_ne (h f (List.mem_cons_self ..) hc)]; exact ih
    | false => exact ih

/-- the state when some have run -/
def PAt (R1 : Nat → Prop) (w1 : World) (m1 : Mp) (H : Hp) (env : Env) (Df : List PD) (p : Nat → Bool) (a : Act) (w : World) : Prop :=
  ∃ R m, Far R1 w1 m1 H R w m H ∧ (∀ t, (∀ d ∈ Df, d.dst ≠ some t) → VR R w m H (eget t env) (a.tmps.getD t undef)) ∧
    ∀ d ∈ Df, ∀ t, d.dst = some t → p d.i = true → (d.g = true → VR R w m H d.v (a.tmps.getD t undef)) ∧ (d.g = false → a.tmps.getD t undef = undef)

theorem PAt.mask (r : PRan X ops pss env0 env H Df nb) {R : Nat → Prop} {w : World} {m : Mp} {a : Act} {p : Nat → Bool} (h1 : ∀ t, (∀ d ∈ Df, d.dst ≠ some t) → VR R w m H (eget t env) (a.tmps.getD t undef))
    (h2 : ∀ d ∈ Df, ∀ t, d.dst = some t → p d.i = true → (d.g = true → VR R w m H d.v (a.tmps.getD t undef)) ∧ (d.g = false → a.tmps.getD t undef = undef))
    {D : List PD} (hD : ∀ e ∈ D, e ∈ Df) {ps : List Nat} (hps : ∀ j ∈ ps, p j = true) {ch : List (Nat × Bool)} (hch : Holds Df ch) : EnvR R w m H (pMask ps ch env0 D) a := by
  intro t
  by_cases h : ∃ e ∈ D, (elemN e.i ps && subCh e.ch ch) = true ∧ e.dst = some t
  · obtain ⟨e, he, hc, hd⟩ := h
    rw [pMask_own hd hc (fun f hf hft => r.dist (hD f hf) (hD e he) hft hd) he]
    rw [Bool.and_eq_true] at hc
    exact (h2 e (hD e he) t hd (hps _ (elemN_iff.1 hc.1))).1 ((r.ok.g_iff _ e (hD e he) rfl).2 (hch.sub hc.2))
  · rw [pMask_no fun f hf hc hft => h ⟨f, hf, hc, hft⟩]
    by_cases h' : ∃ d ∈ Df, d.dst = some t
    · obtain ⟨d, hd, hdt⟩ := h'
      rw [r.und d hd t hdt]; exact .undef _
    · have hno : ∀ d ∈ Df, d.dst ≠ some t := fun d hd hdt => h' ⟨d, hd, hdt⟩
      rw [r.out t hno]; exact h1 t hno

theorem PAt.step (r : PRan X ops pss env0 env H Df nb) {R1 : Nat → Prop} {w1 : World} {m1 : Mp} {p p' : Nat → Bool} {i : Nat} {o : Oper} {a : Act} {w : World} (hi : i < nb) (ho : ops[i]? = some o) (_ : p i = false) (hps : ∀ j ∈ nthL i pss, p j = true)
    (_ : p' i = true) (hp2 : ∀ k, k ≠ i → p' k = p k) (hsz : a.tmps.size = X.nt) (hA : PAt R1 w1 m1 H env Df p a w) :
    (Region.wanted o (yielded ops a.tmps) = true ∧ gives X.P o a w fun x w' => PAt R1 w1 m1 H env Df p' (a.put o.dst x) w') ∨ (Region.wanted o (yielded ops a.tmps) = false ∧ PAt R1 w1 m1 H env Df p' (a.put o.dst undef) w) := by
  obtain ⟨R, m, F0, h1, h2⟩ := hA
  obtain ⟨d, hd, hdi⟩ := POk.find r.ok (by rw [r.len]; exact hi)
  obtain ⟨pre, D, hs, hDl, o', ho', hdst, hg, hev⟩ := r.ok.at hd
  rw [← hDl, hdi] at ho' hg hev
  rw [ho] at ho'; cases ho'
  have hsub : ∀ e ∈ D, e ∈ Df := fun e he => by rw [hs]; exact List.mem_append_right _ (List.mem_cons_of_mem _ he)
  have slot : ∀ t, o.dst = some t → t < a.tmps.size := fun t ht => by
    obtain ⟨q, q1, q2, _⟩ := r.fac.op i hi
    rw [ho] at q1; cases q1
    rw [hsz]; exact (q2 t ht).1
  -- the new state
  have next : ∀ {R' : Nat → Prop} {w' : World} {m' : Mp} {x : Value}, Far R w m H R' w' m' H → (d.g = true → VR R' w' m' H d.v x) → (d.g = false → x = undef) → PAt R1 w1 m1 H env Df p' (a.put o.dst x) w' := fun {R' w' m' x} F hv hu => by
    refine ⟨R', m', F0.trans F, fun t ht => ?_, fun e he t het hpe => ?_⟩
    · rw [getD_eq (put_get_ne a o.dst x t (by rw [← hdst]; exact ht d hd))]
      exact (h1 t ht).far F F0.sim
    · by_cases q : e = d
      · subst q
        rw [hdst] at het
        have e1 : (a.put o.dst x).tmps.getD t undef = x := by
          rw [het, Array.getD_eq_getD_getElem?, put_get_eq a x t (slot t het)]; rfl
        rw [e1]; exact ⟨hv, hu⟩
      · have hne : o.dst ≠ some t := fun q' => q (r.dist he hd het (by rw [hdst]; exact q'))
        have hei : e.i ≠ i := fun q' => q (POk.uniq r.ok e he d hd (by rw [q', hdi]))
        rw [getD_eq (put_get_ne a o.dst x t hne)]
        rw [hp2 e.i hei] at hpe
        obtain ⟨g1, g2⟩ := h2 e he t het hpe
        exact ⟨fun h => (g1 h).far F F0.sim, g2⟩
  -- is it wanted?
  have hwant : Region.wanted o (yielded ops a.tmps) = d.g := by
    unfold pGuard at hg
    unfold Region.wanted
    split at hg
    · rename_i hgd
      simp only [Option.some.injEq, Prod.mk.injEq] at hg
      rw [hgd, ← hg.1]
    · rename_i j want hgd
      cases hj : elemN j (nthL i pss) with
      | false => rw [hj] at hg; simp at hg
      | true =>
        rw [hj] at hg
        simp only [cond_true] at hg
        split at hg
        · rename_i e he
          split at hg
          · rename_i b hb
            simp only [Option.some.injEq, Prod.mk.injEq] at hg
            obtain ⟨he1, he2⟩ := pFind_mem he
            obtain ⟨q, q1, _, q3, _⟩ := r.fac.op i hi
            rw [ho] at q1; cases q1
            have hsome := q3 j want hgd
            obtain ⟨_, oj, hoj, hej⟩ := r.oper (hsub e he1)
            rw [he2] at hoj
            unfold dstOf at hsome
            rw [hoj] at hsome
            simp only [Option.bind_some] at hsome
            obtain ⟨tj, htj⟩ := Option.isSome_iff_exists.1 hsome
            obtain ⟨g1, g2⟩ := h2 e (hsub e he1) tj (by rw [hej]; exact htj) (by rw [he2]; exact hps j (elemN_iff.1 hj))
            rw [hgd, ← hg.1]
            simp only
            cases heg : e.g with
            | true =>
              have h3 := g1 heg
              rw [hb] at h3
              generalize hv : a.tmps.getD tj undef = v at h3
              cases h3
              have hlt : tj < a.tmps.size := by
                rcases Nat.lt_or_ge tj a.tmps.size with h' | h'
                · exact h'
                · simp [Array.getD, Nat.not_lt.2 h', undef] at hv
              have hy : yielded ops a.tmps j = some b := by
                unfold yielded
                rw [hoj]
                simp only [Option.bind_some, htj]
                simp only [Array.getD, hlt, dif_pos] at hv
                simp [hlt]
                simp at hv
                rw [hv]
              rw [hy]; cases b <;> cases want <;> rfl
            | false =>
              have hy := yielded_none (ops := ops) (a := a) (j := j) (t := tj) (by rw [hoj]; exact htj) (g2 heg)
              rw [hy]; cases want <;> rfl
          · cases hg
        · cases hg
  cases hdg : d.g with
  | false =>
    right
    exact ⟨by rw [hwant, hdg], next (.refl F0.sim) (fun h => by rw [hdg] at h; cases h) (fun _ => rfl)⟩
  | true =>
    left
    refine ⟨by rw [hwant, hdg], ?_⟩
    have hch : Holds Df d.ch := (r.ok.g_iff _ d hd rfl).1 hdg
    rcases hev with ⟨c, x, y, e, t, u, v, hop, hec, hei, hesub, het, hx, hy, hpv⟩ | ⟨q, hop, hq⟩
    · obtain ⟨he1, he2⟩ := pDst_mem hec
      have heg : e.g = true := (r.ok.g_iff _ e (hsub e he1) rfl).2 (hch.sub hesub)
      have h3 := (h2 e (hsub e he1) c he2 (hps _ hei)).1 heg
      rw [het] at h3
      generalize hcv : a.tmps.getD c undef = cv at h3
      cases h3
      have hch' : Holds Df ((e.i, t) :: d.ch) := fun j b hm => by
        rcases List.mem_cons.1 hm with q | hm
        · cases q; exact ⟨e, hsub e he1, rfl, heg, het⟩
        · exact hch j b hm
      unfold gives
      have hrun : (execOp a.eval o).run X.P w = .ok (.value (if t then a.eval x else a.eval y)) w := by
        have : a.eval (.tmp c) = .bool t := hcv
        simp [execOp, hop, this, asBool]
      rw [hrun]
      refine next (.refl F0.sim) (fun _ => ?_) (fun h => by rw [hdg] at h; cases h)
      have pick : VR R w m H d.v (if t then a.eval x else a.eval y) := by
        cases t with
        | true =>
          have k1 := oper_sound (PAt.mask r h1 h2 hsub hps hch') hx
          simp only [if_true]
          unfold pickV at hpv
          split at hpv
          · rw [← Option.some.inj hpv]; exact k1
          · rename_i k n k' n'
            cases hk : kindEq k k' with
            | false => rw [hk] at hpv; cases hpv
            | true => rw [hk] at hpv; rw [← Option.some.inj hpv]; exact k1
          · rw [← Option.some.inj hpv]; exact k1
          · rw [← Option.some.inj hpv]; exact k1
          · cases hpv
        | false =>
          have k1 := oper_sound (PAt.mask r h1 h2 hsub hps hch') hy
          simp only [Bool.false_eq_true, if_false]
          unfold pickV at hpv
          split at hpv
          · rw [← Option.some.inj hpv]; exact k1
          · rename_i k n k' n'
            cases hk : kindEq k k' with
            | false => rw [hk] at hpv; cases hpv
            | true =>
              rw [hk] at hpv
              rw [← Option.some.inj hpv]
              have hkk : k = k' := by cases k <;> cases k' <;> first | rfl | cases hk
              rw [hkk]; exact k1
          · rw [← Option.some.inj hpv]; exact k1
          · rw [← Option.some.inj hpv]; exact k1
          · cases hpv
      exact pick
    · have hg := opDoes_of hop (hq hdg) R w m a F0.sim (PAt.mask r h1 h2 hsub hps hch)
      have mono : ∀ {S S' : Value → World → Prop} {z : Result Next}, (∀ x w', S x w' → S' x w') → givesUpon X.P S z → givesUpon X.P S' z := fun hss h => by
        rename_i S S' z
        cases z with
        | ok n w' =>
          cases n <;> simp only [givesUpon] at h ⊢
          case value u => exact hss _ _ h
          case skip => exact hss _ _ h
          case enter f args => exact Calls.mono h fun e w'' ⟨v, he, hr⟩ => ⟨v, he, hss _ _ hr⟩
        | halt x w' => simp only [givesUpon] at h
      unfold gives at hg ⊢
      refine mono (fun x w' ⟨R', m', F, hV⟩ => ?_) hg
      rw [noEff_app] at F hV
      exact next F (fun _ => hV) (fun h => by rw [hdg] at h; cases h)

theorem pEnd_get (r : PRan X ops pss env0 env H Df nb) {t : Nat} {d : PD} (hd : d ∈ Df) (hdt : d.dst = some t) : eget t (pEnd env Df) = pLast d := by
  have : ∀ D : List PD, (∀ e ∈ D, e ∈ Df) → d ∈ D → eget t (pEnd env D) = pLast d := by
    intro D
    induction D with
    | nil => intro _ h; simp at h
    | cons e D ih =>
      intro hs h
      simp only [pEnd]
      by_cases q : e = d
      · subst q; rw [hdt]; exact eget_put_eq
      · rw [eget_put_ne fun q' => q (r.dist (hs e (List.mem_cons_self ..)) hd q' hdt)]
        refine ih (fun f hf => hs f (List.mem_cons_of_mem _ hf)) ?_
        rcases List.mem_cons.1 h with h | h
        · exact absurd h.symm q
        · exact h
  exact this Df (fun _ h => h) hd
theorem pEnd_no {t : Nat} : ∀ {D : List PD}, (∀ d ∈ D, d.dst ≠ some t) → eget t (pEnd env D) = eget t env
  | [], _ => rfl
  | d :: D, h => by
    simp only [pEnd]
    rw [eget_put_ne (h d (List.mem_cons_self ..))]
    exact pEnd_no fun e he => h e (List.mem_cons_of_mem _ he)
theorem PAt.fin (r : PRan X ops pss env0 env H Df nb) {R : Nat → Prop} {w : World} {m : Mp} {p : Nat → Bool} {a : Act} (hall : ∀ d ∈ Df, p d.i = true) (h1 : ∀ t, (∀ d ∈ Df, d.dst ≠ some t) → VR R w m H (eget t env) (a.tmps.getD t undef))
    (h2 : ∀ d ∈ Df, ∀ t, d.dst = some t → p d.i = true → (d.g = true → VR R w m H d.v (a.tmps.getD t undef)) ∧ (d.g = false → a.tmps.getD t undef = undef)) : EnvR R w m H (pEnd env Df) a := by
  intro t
  by_cases h : ∃ d ∈ Df, d.dst = some t
  · obtain ⟨d, hd, hdt⟩ := h
    rw [pEnd_get r hd hdt]
    unfold pLast
    split
    · rename_i hc
      exact (h2 d hd t hdt (hall d hd)).1 ((r.ok.g_iff _ d hd rfl).2 (by rw [hc]; exact fun j b hm => by simp at hm))
    · exact .undef _
  · have hno : ∀ d ∈ Df, d.dst ≠ some t := fun d hd hdt => h ⟨d, hd, hdt⟩
    rw [pEnd_no hno]; exact h1 t hno

theorem pure_sound (hT : TSound X.P X.T) (hm : X.P.follows .mixedOrders = true) (id : Nat) {b : Bool} {s : St} {K : St → Prop} (h : pureR X ops b nb pss s K) : ∃ s', K s' ∧ CodeOk X (.region id ops b) s .normal s' := by
  unfold pureR at h
  simp only [chkP] at h
  cases hok : pureOk b ops X.nt nb pss with
  | false => rw [hok] at h; exact h.elim
  | true =>
  rw [hok] at h
  simp only [cond_true] at h
  rw [forceL_iff] at h
  unfold pureOk at hok
  simp only [Bool.and_eq_true] at hok
  obtain ⟨⟨⟨htr, hfa⟩, hlen⟩, hdraw⟩ := hok
  have hlen := Nat.eq_of_beq_eq_true hlen
  have hf := factsC_of hfa
  have hnb : (ops.toList.take nb).length = nb := by have := hf.le; simp; omega
  have htake : ∀ j, j < nb → (ops.toList.take nb)[j]? = ops[j]? := fun j hj => by rw [List.getElem?_take, if_pos hj]; simp
  obtain ⟨Df, hD, hDl, hK⟩ := pureP_sound (X := X) (ops := ops) (pss := pss) (env0 := undefs (ops.toList.take nb) s.env) (H := s.heap) (ops.toList.take nb) pss [] _ trivial (fun j o hj => by
    rw [List.length_nil, Nat.zero_add, ← htake j (by have := (List.getElem?_eq_some_iff.1 hj).1; omega)]; exact hj) (fun j => by rw [List.length_nil, Nat.zero_add]) h
  rw [List.length_nil, Nat.zero_add, hnb] at hDl
  rw [pEndK_iff] at hK
  obtain ⟨s', hk, hs⟩ := opsP_sound hT hK
  have opr : ∀ d ∈ Df, d.i < nb ∧ ∃ o, ops[d.i]? = some o ∧ d.dst = o.dst := fun d hd => by
    obtain ⟨pre, D, _, hi, o, ho, hdst, _⟩ := hD.at hd
    exact ⟨by rw [← hDl]; exact POk.lt hD d hd, o, by rw [hi]; exact ho, hdst⟩
  have r : PRan X ops pss (undefs (ops.toList.take nb) s.env) s.env s.heap Df nb := by
    refine ⟨hD, hDl, hf, fun d hd t hdt => ?_, fun t hno => ?_⟩
    · obtain ⟨h1, o, h2, h3⟩ := opr d hd
      rcases undefs_get (env := s.env) (t := t) (ops.toList.take nb) with ⟨g1, _⟩ | ⟨_, g2⟩
      · exact g1
      · exact absurd (by rw [← h3]; exact hdt) (g2 o (List.mem_of_getElem? (by rw [htake d.i h1]; exact h2)))
    · rcases undefs_get (env := s.env) (t := t) (ops.toList.take nb) with ⟨_, o, ho, hot⟩ | ⟨g1, _⟩
      · exfalso
        obtain ⟨j, hj⟩ := List.getElem?_of_mem ho
        have hjl : j < nb := by have := (List.getElem?_eq_some_iff.1 hj).1; omega
        obtain ⟨d, hd, hdi⟩ := POk.find hD (show j < Df.length by omega)
        obtain ⟨_, o', h2, h3⟩ := opr d hd
        rw [hdi, ← htake j hjl, hj] at h2; cases h2
        exact hno d hd (by rw [h3]; exact hot)
      · exact g1
  have hpsj : ∀ i, i < nb → ∀ j ∈ nthL i pss, j < i := fun i hi j hj => by
    have := (predsTrans_get htr i (by omega) j hj).1
    omega
  refine ⟨s', hk, fun R0 w0 m0 H0 _ _ a w hI => ?_⟩
  obtain ⟨⟨R, m, F0, hE⟩, hsz, hnd⟩ := hI
  cases b with
  | false =>
    refine wp_region_list ?_
    have hA0 : PAt R w m s.heap s.env Df (fun k => decide (k < 0)) a w := ⟨R, m, .refl F0.sim, fun t _ => hE t, fun d _ t _ hp => by simp at hp⟩
    have key : ∀ (n k : Nat), k + n = nb → ∀ (a1 : Act) (w1 : World), a1.tmps.size = X.nt → a1.defers = [] → PAt R w m s.heap s.env Df (fun j => decide (j < k)) a1 w1 →
        wpList X.P ops (fun e1 a1 w1 => ExR .normal e1 ∧ Inv X.nt R0 w0 m0 H0 a1 w1 s') (ops.toList.drop k) a1 w1 := by
      intro n
      induction n with
      | zero =>
        intro k hkn a1 w1 hs1 hn1 hA
        obtain rfl : k = nb := by omega
        obtain ⟨R', m', F3, h1, h2⟩ := hA
        have hE3 := PAt.fin (p := fun j => decide (j < k)) r (fun d hd => by simpa using (opr d hd).1) h1 h2
        exact hs R0 w0 m0 H0 a1 w1 ⟨⟨R', m', F0.trans F3, hE3⟩, hs1, hn1⟩ _ fun a2 w2 hI2 => ⟨rfl, hI2⟩
      | succ n ih =>
        intro k hkn a1 w1 hs1 hn1 hA
        have hkl : k < ops.size := by have := hf.le; omega
        have ho : ops[k]? = some ops[k] := Array.getElem?_eq_getElem hkl
        have hst := PAt.step r (p' := fun j => decide (j < k + 1)) (by omega) ho (by simp) (fun j hj => by simpa using hpsj k (by omega) j hj) (by simp) (fun q hq => by
          simp only [decide_eq_decide]; omega) hs1 hA
        rw [List.drop_eq_getElem_cons (by simpa using hkl)]
        simp only [wpList, Array.getElem_toList]
        rcases hst with ⟨hW, hg⟩ | ⟨hW, hA'⟩
        · rw [if_pos hW]
          exact .inl (gives_wp hg fun x w' hA' => ih (k + 1) (by omega) _ _ (by rw [Act.put_size']; exact hs1) (by rw [Act.put_defers']; exact hn1) hA')
        · rw [if_neg (by rw [hW]; decide)]
          exact ih (k + 1) (by omega) _ _ (by rw [Act.put_size']; exact hs1) (by rw [Act.put_defers']; exact hn1) hA'
    have := key nb 0 (by omega) a w hsz hnd hA0
    simpa using this
  | true =>
    simp only [cond_true, Bool.and_eq_true] at hdraw
    obtain ⟨hseq, hpo⟩ := hdraw
    refine wp_region_any hm ?_
    have hdr := F0.sim.drew
    have F1 := F0.trans hdr.far
    have hE1 := hE.far hdr.far F0.sim
    have hrep : ∀ i, (Array.replicate ops.size false).getD i false = false := fun i => by
      rw [Array.getD_eq_getD_getElem?, Array.getElem?_replicate]; split <;> rfl
    have hA0 : PAt R w.drew m s.heap s.env Df (fun k => (Array.replicate ops.size false).getD k false) a w.drew := ⟨R, m, .refl hdr.sim, fun t _ => hE1 t, fun d _ t _ hp => by
      have hp' : (Array.replicate ops.size false).getD d.i false = true := hp
      rw [hrep] at hp'; cases hp'⟩
    have key := any_gen (X := X) (ops := ops) (pr := pss) (nb := nb) (nt := X.nt) (Q := fun e1 a1 w1 => ExR .normal e1 ∧ Inv X.nt R0 w0 m0 H0 a1 w1 s') (A := PAt R w.drew m s.heap s.env Df) hf hseq (fun i hi => by
        obtain ⟨o, h1, h2⟩ := predsOk_get hpo i (by omega)
        rw [Nat.zero_add] at h1 h2
        exact ⟨o, h1, h2⟩) (fun p p' i o a w hi ho hc hno hps h1 h2 hs' hA => PAt.step r hi ho hno hps h1 h2 hs' hA) (fun a' w' hA hs' hn' => by
        obtain ⟨R', m', F3, h1, h2⟩ := hA
        have hE3 := PAt.fin (p := fun k => decide (k < nb)) r (fun d hd => by simpa using (opr d hd).1) h1 h2
        exact hs R0 w0 m0 H0 a' w' ⟨⟨R', m', F1.trans F3, hE3⟩, hs', hn'⟩ _ fun a2 w2 hI2 => ⟨rfl, hI2⟩) nb (Array.replicate ops.size false) a w.drew hA0 hsz hnd (by simp) (fun i _ => hrep i) (fun k o _ hkl => by rw [hrep] at hkl; cases hkl) (by
        have : ∀ (r : List Nat), (r.filter fun i => !(Array.replicate ops.size false).getD i false) = r := fun r => by
          apply List.filter_eq_self.2
          intro i _
          rw [hrep i]; rfl
        rw [this]; simp)
    have e : nb + (ops.size - nb) = ops.size := by have := hf.le; omega
    rw [e] at key
    exact key
end

theorem region0_sound {X : Cx} (hT : TSound X.P X.T) (hm : X.P.follows .mixedOrders = true) {id : Nat} {ops : Array Oper} {b : Bool} {s : St} {K : St → Prop} (h : region0 X id ops b s K) : ∃ s', K s' ∧ CodeOk X (.region id ops b) s .normal s' := by
  unfold region0 at h
  split at h
  · unfold region1 at h
    split at h
    · exact old_sound hT hm h
    · exact pure_sound hT hm id h
  · cases b with
    | false => exact h.elim
    | true =>
      simp only [cond_true] at h
      obtain ⟨ops', ho, himp⟩ := late_any h
      obtain ⟨s', hk, hs⟩ := old_any hT ho
      exact ⟨s', hk, (himp _ _ hs).code hm⟩

/-! ### what a cell leads to is only read from now on -/
section
variable {R R' R0 : Nat → Prop} {w w0 : World} {m m0 : Mp} {H H0 H' : Hp} {env : Env} {a : Act}
/-- a block's cells are told otherwise, and some blocks are only read from now on -/
theorem blk_far (hS : Sim R w m H) {b : Nat} {B : ABlk} (hbd : hget b H ≠ .dead) (hb' : hget b H' = B) (hlen : H'.length = H.length) (hl : B.len = (hget b H).len)
    (oth : ∀ j, j ≠ b → hget j H' ≠ .dead → hget j H' = hget j H) (sub : ∀ g, R g → R' g) (new : ∀ g, R' g → R g ∨ ∃ k, hget k H ≠ .dead ∧ hget k H' = .dead ∧ m k = some g)
    (hB : ∀ xs, BR R w m H (hget b H) xs → BR R' w m H' B xs) : Far R w m H R' w m H' := by
  have live : ∀ j, hget j H' ≠ .dead → hget j H ≠ .dead := fun j h => by
    by_cases e : j = b
    · subst e; exact hbd
    · rw [← oth j e h]; exact h
  have hlenB : ∀ j, hget j H' ≠ .dead → (hget j H').len = (hget j H).len := fun j h => by
    by_cases e : j = b
    · subst e; rw [hb']; exact hl
    · rw [oth j e h]
  have hext : ∀ j, j < H.length → hget j H' = .dead ∨ (hget j H ≠ .dead ∧ (hget j H').len = (hget j H).len) := fun j _ => by
    by_cases h : hget j H' = .dead
    · exact .inl h
    · exact .inr ⟨live j h, hlenB j h⟩
  refine ⟨sub, fun g hg => ?_, ⟨fun g hg => ?_, fun j hj => hS.out j (by omega), fun j g hj hg => ?_, fun j hj hn => ?_, fun j j' g h h' => hS.inj j j' g (live j h) (live j' h')⟩, rfl, rfl, rfl, Nat.le_refl _, fun g _ => rfl, fun g _ _ => rfl, fun _ _ h => h, by omega, hext, fun j g hj hg => .inr ⟨j, live j hj, hg⟩, fun _ _ => rfl⟩
  · rcases new g hg with h | ⟨k, h1, h2, h3⟩
    · exact .inl h
    · exact .inr (.inr ⟨k, h1, h3⟩)
  · rcases new g hg with h | ⟨k, h1, h2, h3⟩
    · exact hS.rlt g h
    · obtain ⟨_, xs, e, fr, h4, _⟩ := hS.own k g h1 h3
      exact (Array.getElem?_eq_some_iff.1 h4).1
  · obtain ⟨a1, xs, e, fr, a2, a3, a4, a5⟩ := hS.own j g (live j hj) hg
    refine ⟨fun h => ?_, xs, e, fr, a2, a3, a4, ?_⟩
    · rcases new g h with h | ⟨q, q1, q2, q3⟩
      · exact a1 h
      · have := hS.inj j q g (live j hj) q1 hg q3
        subst this
        exact hj q2
    · by_cases e : j = b
      · subst e
        rw [hb']
        exact hB _ a5
      · rw [oth j e hj]
        exact a5.mono sub (fun _ _ => rfl) (fun _ _ h => h) (fun _ _ h => h) (by omega) hext
  · rw [hlenB j hj]; exact hS.ph j (live j hj) hn
theorem reblk_far (hS : Sim R w m H) {b : Nat} {cs cs' : List AVal} (hb : hget b H = .vals cs) (hb' : hget b H' = .vals cs') (hlen : H'.length = H.length) (hl : cs'.length = cs.length)
    (oth : ∀ j, j ≠ b → hget j H' ≠ .dead → hget j H' = hget j H) (sub : ∀ g, R g → R' g) (new : ∀ g, R' g → R g ∨ ∃ k, hget k H ≠ .dead ∧ hget k H' = .dead ∧ m k = some g)
    (cells : ∀ (i : Nat) v v' x, cs[i]? = some v → cs'[i]? = some v' → VR R w m H v x → VR R' w m H' v' x) : Far R w m H R' w m H' := by
  refine blk_far hS (by rw [hb]; simp) hb' hlen (by rw [hb]; exact hl) oth sub new fun xs h => ?_
  rw [hb] at h
  obtain ⟨ys, r, rfl, hv⟩ := h
  refine ⟨ys, r, rfl, by rw [hl]; exact hv.1, fun i v' x hv' hx => ?_⟩
  have hi : i < cs.length := by rw [← hl]; exact (List.getElem?_eq_some_iff.1 hv').1
  exact cells i cs[i] v' x (List.getElem?_eq_getElem hi) hv' (hv.2 i _ x (List.getElem?_eq_getElem hi) hx)
theorem put_cells {j : Nat} {cs l r : List AVal} {v : AVal} (v' : AVal) (h1 : takeN j cs = some l) (h2 : dropN j cs = some (v :: r)) : (l ++ v' :: r).length = cs.length ∧ ∀ (i : Nat) u u', cs[i]? = some u → (l ++ v' :: r)[i]? = some u' → (i ≠ j ∧ u = u') ∨ (u = v ∧ u' = v') := by
  obtain ⟨rfl, hl⟩ := takeN_eq h1
  obtain ⟨e, _⟩ := dropN_eq h2
  have hc : cs = cs.take j ++ v :: r := by rw [e, List.take_append_drop]
  have hlen : (cs.take j).length = j := by rw [List.length_take]; omega
  refine ⟨by conv => rhs; rw [hc]
             simp, fun i u u' hu hu' => ?_⟩
  rw [hc] at hu
  by_cases h : i < j
  · refine .inl ⟨by omega, ?_⟩
    rw [List.getElem?_append_left (by omega)] at hu hu'
    rw [hu] at hu'; exact Option.some.inj hu'
  · rw [List.getElem?_append_right (by omega), hlen] at hu hu'
    by_cases h' : i = j
    · subst h'
      simp at hu hu'
      exact .inr ⟨hu.symm, hu'.symm⟩
    · refine .inl ⟨h', ?_⟩
      obtain ⟨q, hq⟩ : ∃ q, i - j = q + 1 := ⟨i - j - 1, by omega⟩
      rw [hq] at hu hu'
      simp at hu hu'
      rw [hu] at hu'; exact Option.some.inj hu'
theorem Inv.step {nt : Nat} (h : Inv nt R0 w0 m0 H0 a w ⟨env, H⟩) (hs : ∀ R m, Sim R w m H → ∃ R', Far R w m H R' w m H') : Inv nt R0 w0 m0 H0 a w ⟨env, H'⟩ := by
  obtain ⟨⟨R, m, hF, hE⟩, hsz, hnd⟩ := h
  obtain ⟨R', F⟩ := hs R m hF.sim
  exact ⟨⟨R', m, hF.trans F, hE.far F hF.sim⟩, hsz, hnd⟩
theorem hook1_ok {kd t j sz : Nat} {s : St} {K : St → Prop} (h : hook1 kd t j sz s K) : ∃ s', K s' ∧ ∀ {nt : Nat} {R0 : Nat → Prop} {w0 : World} {m0 : Mp} {H0 : Hp} {a : Act} {w : World}, Inv nt R0 w0 m0 H0 a w s → Inv nt R0 w0 m0 H0 a w s' := by
  obtain ⟨env, H⟩ := s
  unfold hook1 at h
  split at h
  case h_2 => exact h.elim
  rename_i b off _
  split at h
  case h_3 => exact h.elim
  case h_2 =>
    rename_i cs hb
    have hbl : b < H.length := hget_lt (by rw [hb]; simp)
    split at h
    · rw [forceL_iff] at h
      refine ⟨_, h, fun hI => hI.step fun R m hS => ⟨R, ?_⟩⟩
      refine blk_far hS (by rw [hb]; simp) (hget_hset_same hbl) (hset_length ..) (by rw [hb]; rfl) (fun j hj _ => hget_hset_ne hj) (fun _ h => h) (fun _ h => .inl h) fun xs h => ?_
      rw [hb] at h
      obtain ⟨ys, r, rfl, hv⟩ := h
      exact ⟨ys, r, rfl, hv.1, fun i v x e1 e2 => (hv.2 i v x e1 e2).mono (fun _ h => h) (fun _ _ => rfl) (fun _ _ h => h) (fun _ _ h => by cases h) (Nat.zero_le _) (fun k hk => absurd hk (Nat.not_lt_zero k))⟩
    · exact h.elim
  rename_i cs hb
  have hbl : b < H.length := hget_lt (by rw [hb]; simp)
  split at h
  case h_2 => exact h.elim
  rename_i l v r h1 h2
  have same : ∀ {R : Nat → Prop} {w : World} {m : Mp} {H1 H2 : Hp} {v : AVal} {x : Value}, VR R w m H1 v x → H1.length ≤ H2.length → (∀ j, j < H1.length → hget j H2 = .dead ∨ (hget j H1 ≠ .dead ∧ (hget j H2).len = (hget j H1).len)) → VR R w m H2 v x := fun h h1 h2 => h.mono (fun _ h => h) (fun _ _ => rfl) (fun _ _ h => h) (fun _ _ h => h) h1 h2
  split at h
  · -- nothing
    split at h
    · rw [forceL_iff] at h
      refine ⟨_, h, fun hI => hI.step fun R m hS => ⟨R, ?_⟩⟩
      have G := (Sim.ghost hS (.flat []) rfl).far
      refine G.trans ?_
      have hb2 : hget b (H ++ [.flat []]) = .vals cs := by rw [hget_append_lt hbl]; exact hb
      obtain ⟨e1, e2⟩ := put_cells (.sl H.length 0 0 sz) h1 h2
      have hext : ∀ j, j < (H ++ [ABlk.flat []]).length → hget j (hset b (.vals (l ++ .sl H.length 0 0 sz :: r)) (H ++ [.flat []])) = .dead ∨ (hget j (H ++ [.flat []]) ≠ .dead ∧ (hget j (hset b (.vals (l ++ .sl H.length 0 0 sz :: r)) (H ++ [.flat []]))).len = (hget j (H ++ [.flat []])).len) := fun j hj => by
        by_cases e : j = b
        · subst e; rw [hget_hset_same hj, hb2]; exact .inr ⟨by simp, e1⟩
        · rw [hget_hset_ne e]; exact hext_self _ j hj
      refine reblk_far G.sim hb2 (cs' := l ++ .sl H.length 0 0 sz :: r) (hget_hset_same (by simp; omega)) (hset_length ..) e1 (fun j hj _ => hget_hset_ne hj) (fun _ h => h) (fun _ h => .inl h) (fun i v v' x hv hv' hx => ?_)
      rcases e2 i v v' hv hv' with ⟨_, rfl⟩ | ⟨rfl, rfl⟩
      · exact same hx (by rw [hset_length]; exact Nat.le_refl _) hext
      · cases hx
        refine .sl H.length 0 0 sz none 0 (Nat.le_refl _) (by unfold maxI; omega) (by omega) (by rw [hset_length]; simp) (fun h => by omega) (.inr (by omega))
    · rw [forceL_iff] at h
      refine ⟨_, h, fun hI => hI.step fun R m hS => ⟨R, ?_⟩⟩
      obtain ⟨e1, e2⟩ := put_cells (.ro 0 sz (fun _ => [])) h1 h2
      have hext : ∀ j, j < H.length → hget j (hset b (.vals (l ++ .ro 0 sz (fun _ => []) :: r)) H) = .dead ∨ (hget j H ≠ .dead ∧ (hget j (hset b (.vals (l ++ .ro 0 sz (fun _ => []) :: r)) H)).len = (hget j H).len) := fun j hj => by
        by_cases e : j = b
        · subst e; rw [hget_hset_same hj, hb]; exact .inr ⟨by simp, e1⟩
        · rw [hget_hset_ne e]; exact hext_self _ j hj
      refine reblk_far hS hb (cs' := l ++ .ro 0 sz (fun _ => []) :: r) (hget_hset_same hbl) (hset_length ..) e1 (fun j hj _ => hget_hset_ne hj) (fun _ h => h) (fun _ h => .inl h) (fun i v v' x hv hv' hx => ?_)
      rcases e2 i v v' hv hv' with ⟨_, rfl⟩ | ⟨rfl, rfl⟩
      · exact same hx (by rw [hset_length]; exact Nat.le_refl _) hext
      · cases hx
        exact .ro 0 sz _ none 0 0 0 (fun _ _ => undef) (Nat.le_refl _) (by unfold maxI; omega) (by omega) (fun h => absurd h (by omega)) (fun i j v hi _ => absurd hi (by omega)) (fun i j v hi _ => absurd hi (by omega)) fun i hi => absurd hi (by omega)
  · rename_i k o len sz'
    cases hkb : Nat.beq k b with
    | true => rw [hkb] at h; exact h.elim
    | false =>
      rw [hkb] at h
      simp only [cond_false] at h
      have hne : b ≠ k := fun e => by subst e; rw [Nat.beq_refl] at hkb; cases hkb
      split at h
      case h_2 => exact h.elim
      rename_i v' hv'
      rw [forceL_iff] at h
      refine ⟨_, h, fun hI => hI.step fun R m hS => ⟨RC R m H [k], ?_⟩⟩
      have hkd : hget k H ≠ .dead := fun e => by
        simp only [snapC, elemN, cond_false, e] at hv'
        cases hv'
      have hkl := hget_lt hkd
      obtain ⟨e1, e2⟩ := put_cells v' h1 h2
      have hbl2 : b < (hset k .dead H).length := by rw [hset_length]; exact hbl
      have hkk : hget k (hset b (.vals (l ++ v' :: r)) (hset k .dead H)) = .dead := by rw [hget_hset_ne (Ne.symm hne), hget_hset_same hkl]
      have hoth : ∀ j, j ≠ b → j ≠ k → hget j (hset b (.vals (l ++ v' :: r)) (hset k .dead H)) = hget j H := fun j hj hj' => by rw [hget_hset_ne hj, hget_hset_ne hj']
      have hext : ∀ j, j < H.length → hget j (hset b (.vals (l ++ v' :: r)) (hset k .dead H)) = .dead ∨ (hget j H ≠ .dead ∧ (hget j (hset b (.vals (l ++ v' :: r)) (hset k .dead H))).len = (hget j H).len) := fun j hj => by
        by_cases e : j = b
        · subst e; rw [hget_hset_same hbl2, hb]; exact .inr ⟨by simp, e1⟩
        · by_cases e' : j = k
          · subst e'; exact .inl hkk
          · rw [hoth j e e']; exact hext_self _ j hj
      have hll : (hset b (.vals (l ++ v' :: r)) (hset k .dead H)).length = H.length := by rw [hset_length, hset_length]
      refine reblk_far hS hb (cs' := l ++ v' :: r) (hget_hset_same hbl2) hll e1 (fun j hj hd => ?_) (fun _ h => .inl h) (fun g hg => ?_) (fun i v u' x hv hu' hx => ?_)
      · by_cases e' : j = k
        · subst e'; exact absurd hkk hd
        · exact hoth j hj e'
      · rcases hg with h | ⟨q, q1, q2, q3⟩
        · exact .inl h
        · have : q = k := by simpa using q1
          subst this
          exact .inr ⟨q, q2, hkk, q3⟩
      · rcases e2 i v u' hv hu' with ⟨_, rfl⟩ | ⟨rfl, rfl⟩
        · exact hx.mono (fun _ h => .inl h) (fun _ _ => rfl) (fun _ _ h => h) (fun _ _ h => h) (by omega) hext
        · exact same (snapC_sound hS (imps := []) (ks := [k]) hx hv' (fun q hq => by simpa [snapsC, elemN] using hq)) (by omega) hext
  · exact h.elim
theorem hookP_ok : ∀ {l : List Nat} {s : St} {K : St → Prop}, hookP l s K → ∃ s', K s' ∧ ∀ {nt : Nat} {R0 : Nat → Prop} {w0 : World} {m0 : Mp} {H0 : Hp} {a : Act} {w : World}, Inv nt R0 w0 m0 H0 a w s → Inv nt R0 w0 m0 H0 a w s'
  | [], s, K, h => ⟨s, h, fun h => h⟩
  | [_], s, K, h => ⟨s, h, fun h => h⟩
  | [_, _], s, K, h => ⟨s, h, fun h => h⟩
  | [_, _, _], s, K, h => ⟨s, h, fun h => h⟩
  | kd :: t :: j :: sz :: r, s, K, h => by
    obtain ⟨s1, h1, i1⟩ := hook1_ok (show hook1 kd t j sz s _ from h)
    obtain ⟨s2, h2, i2⟩ := hookP_ok h1
    exact ⟨s2, h2, fun h => i2 (i1 h)⟩
end
theorem addW_does {P : Program} {o : Oper} {env : Env} {H : Hp} {t u : TypeId} {x y : Operand} {a b : Int} (ho : o.op = .binOp .add t x y u) (hx : oper env x = some (.int .i64 a)) (hy : oper env y = some (.int .i64 b)) : OpDoes P o env H (.int .i64 (IntKind.i64.wrap (a + b))) noEff := fun R w m ac hS hE => by
  have h1 := oper_sound hE hx
  have h2 := oper_sound hE hy
  generalize hu : ac.eval x = u1 at h1
  generalize hv : ac.eval y = v1 at h2
  cases h1
  cases h2
  have hr : (execOp ac.eval o).run P w = .ok (.value (.int .i64 (IntKind.i64.wrap (a + b)))) w := by
    simp [execOp, ho, hu, hv, eqGuard, binOp, Op.intArith]
  unfold gives
  rw [hr, noEff_app]
  exact ⟨R, m, .refl hS, .int _ _⟩
theorem operW_sound {X : Cx} (hT : TSound X.P X.T) {ops : Array Oper} {o : Oper} {s : St} {K : St → Prop} (h : operW X ops.toList o s K) :
    ∃ s', K s' ∧ ∀ R0 w0 m0 H0, ∀ a w, Inv X.nt R0 w0 m0 H0 a w s → ∀ (next : Act → World → Prop) Q, (∀ a' w', Inv X.nt R0 w0 m0 H0 a' w' s' → next a' w') → OpStep X.P ops o next Q a w := by
  unfold operW at h
  split at h
  · rename_i t x y u ho
    split at h
    · rename_i a b hx hy
      cases hd : (dstOk X.nt o.dst && o.guard.isNone) with
      | false => rw [hd] at h; exact h.elim
      | true =>
        rw [hd] at h
        simp only [cond_true] at h
        rw [putK_iff] at h
        simp only [Bool.and_eq_true, Option.isNone_iff_eq_none] at hd
        refine ⟨_, h, fun R0 w0 m0 H0 ac w hI next Q hn => ?_⟩
        obtain ⟨env, H⟩ := s
        obtain ⟨⟨R, m, hF, hE⟩, hsz, hnd⟩ := hI
        unfold OpStep
        rw [if_pos (by simp [Region.wanted, hd.2])]
        refine .inl (gives_wp (addW_does ho hx hy R w m ac hF.sim hE) fun x w' ⟨R', m', hF', hV⟩ => hn _ _ ?_)
        rw [noEff_app] at hF' hV
        exact ⟨⟨R', m', hF.trans hF', (hE.far hF' hF.sim).put (by rw [hsz]; exact hd.1) hV⟩, by rw [Act.put_size']; exact hsz, by rw [Act.put_defers']; exact hnd⟩
    · exact h.elim
  · exact operP_sound hT h
theorem opsW_sound {X : Cx} (hT : TSound X.P X.T) {ops : Array Oper} : ∀ {l : List Oper} {s : St} {K : St → Prop}, opsW X ops.toList l s K →
    ∃ s', K s' ∧ ∀ R0 w0 m0 H0, ∀ a w, Inv X.nt R0 w0 m0 H0 a w s → ∀ Q : Exit → Act → World → Prop, (∀ a' w', Inv X.nt R0 w0 m0 H0 a' w' s' → Q .normal a' w') → wpList X.P ops Q l a w
  | [], s, K, h => ⟨s, h, fun R0 w0 m0 H0 a w hI Q hQ => hQ a w hI⟩
  | o :: r, s, K, h => by
    obtain ⟨s1, h1, hs1⟩ := operW_sound hT h
    obtain ⟨s2, h2, hs2⟩ := opsW_sound hT (l := r) h1
    refine ⟨s2, h2, fun R0 w0 m0 H0 a w hI Q hQ => ?_⟩
    exact hs1 R0 w0 m0 H0 a w hI _ Q fun a' w' hI' => hs2 R0 w0 m0 H0 a' w' hI' Q hQ
theorem draw_sound {X : Cx} (hT : TSound X.P X.T) (hm : X.P.follows .mixedOrders = true) : DrawSound X := by
  intro id ops b s K h
  unfold regionP at h
  split at h
  · split at h
    · exact region0_sound hT hm h
    · obtain ⟨s1, h1, i1⟩ := hookP_ok h
      obtain ⟨s2, h2, ok⟩ := region0_sound hT hm h1
      exact ⟨s2, h2, fun R0 w0 m0 H0 hl hS0 a w hI => ok R0 w0 m0 H0 hl hS0 a w (i1 hI)⟩
  · cases b with
    | true => exact h.elim
    | false =>
      simp only [cond_false] at h
      obtain ⟨s', hk, hs⟩ := opsW_sound (X := X) hT (ops := ops) h
      exact ⟨s', hk, fun R0 w0 m0 H0 _ _ a w hI => wp_region_list (hs R0 w0 m0 H0 a w hI _ fun a' w' hI' => ⟨rfl, hI'⟩)⟩

/-- what a function's text says, it does -/
theorem fn_sound {P : Program} {T : Specs} {ann : Nat → List Nat × Nat × List (List Nat)} {f : Nat} {fn : Func} {args : List AVal} {H : Hp} {K : AVal → Hp → Prop} (hT : TSound P T) (hm : P.follows .mixedOrders = true)
    (hf : P.funcs[f]? = some fn) (hname : (fn.name == "runtime.NumGoroutine") = false) (h : fnP P T ann fn args H K) : ∃ v H', K v H' ∧ Gives P f args H v H' :=
  fnP_sound hT (draw_sound (X := ⟨P, T, fn.ntmps, H.length, ann⟩) hT hm) hf hname h
end Go.Proofs.Ytnbbaemijogeoaa.Ae
