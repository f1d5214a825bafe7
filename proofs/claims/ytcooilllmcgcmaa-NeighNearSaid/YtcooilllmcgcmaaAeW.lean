/- Drawn regions: what the evaluator's run in text order says of every order. No program in sight. -/
import Derived.Test.YtcooilllmcgcmaaAeU
namespace Go.Proofs.Ytcooilllmcgcmaa.Ae
open Go

def mEnv (p : Nat → Bool) (env : Env) : List Done → Env
  | [] => env
  | d :: r => cond (p d.i) (putEnv d.dst d.v (mEnv p env r)) (mEnv p env r)
def mHeap (p : Nat → Bool) (H : Hp) : List Done → Hp
  | [] => H
  | d :: r => mHeap p H r ++ cond (p d.i) d.news (deadL d.news)
theorem maskEnv_eq (ps : List Nat) (env : Env) : ∀ D, maskEnv ps env D = mEnv (fun k => elemN k ps) env D
  | [] => rfl
  | d :: r => by simp only [maskEnv, mEnv, maskEnv_eq ps env r]
theorem maskHeap_eq (ps : List Nat) (H : Hp) : ∀ D, maskHeap ps H D = mHeap (fun k => elemN k ps) H D
  | [] => rfl
  | d :: r => by simp only [maskHeap, mHeap, maskHeap_eq ps H r]
theorem maskEnvK_iff {ps : List Nat} {env : Env} : ∀ {D : List Done} {k : Env → Prop}, maskEnvK ps env D k ↔ k (mEnv (fun k => elemN k ps) env D)
  | [], k => Iff.rfl
  | d :: r, k => by
    simp only [maskEnvK, maskEnvK_iff (D := r), mEnv]
    cases elemN d.i ps with
    | true => exact putK_iff
    | false => exact Iff.rfl
theorem maskHeapK_iff {ps : List Nat} {H : Hp} : ∀ {D : List Done} {k : Hp → Prop}, maskHeapK ps H D k ↔ k (mHeap (fun k => elemN k ps) H D)
  | [], k => Iff.rfl
  | d :: r, k => by
    simp only [maskHeapK, maskHeapK_iff (D := r), mHeap]
    cases hn : d.news with
    | nil => cases elemN d.i ps <;> simp [deadL]
    | cons n ns => exact joinK_iff

theorem deadL_length : ∀ l : List ABlk, (deadL l).length = l.length
  | [] => rfl
  | _ :: r => by simp [deadL, deadL_length r]
theorem deadL_get : ∀ (l : List ABlk) (k : Nat), hget k (deadL l) = .dead
  | [], k => by simp [deadL, hget]
  | _ :: r, 0 => rfl
  | _ :: r, k + 1 => by simpa [deadL, hget] using deadL_get r k
theorem mHeap_length (p q : Nat → Bool) (H : Hp) : ∀ D, (mHeap p H D).length = (mHeap q H D).length
  | [] => rfl
  | d :: r => by
    simp only [mHeap, List.length_append, mHeap_length p q H r]
    cases p d.i <;> cases q d.i <;> simp [deadL_length]
theorem mHeap_len_cons (p : Nat → Bool) (H : Hp) (d : Done) (r : List Done) : (mHeap p H (d :: r)).length = (mHeap p H r).length + d.news.length := by
  simp only [mHeap, List.length_append]
  cases p d.i <;> simp [deadL_length]
theorem mHeap_base_le (p : Nat → Bool) (H : Hp) : ∀ D, H.length ≤ (mHeap p H D).length
  | [] => Nat.le_refl _
  | d :: r => by rw [mHeap_len_cons]; have := mHeap_base_le p H r; omega
theorem mHeap_low (p : Nat → Bool) (H : Hp) {D : List Done} {k : Nat} : ∀ pre : List Done, k < (mHeap p H D).length → hget k (mHeap p H (pre ++ D)) = hget k (mHeap p H D) ∧ (mHeap p H D).length ≤ (mHeap p H (pre ++ D)).length
  | [], _ => ⟨rfl, Nat.le_refl _⟩
  | e :: pre, h => by
    obtain ⟨h1, h2⟩ := mHeap_low p H pre h
    refine ⟨?_, ?_⟩
    · simp only [List.cons_append, mHeap]
      rw [hget_append_lt (by omega)]; exact h1
    · rw [List.cons_append, mHeap_len_cons]; omega
theorem mHeap_len_le (p : Nat → Bool) (H : Hp) {D : List Done} : ∀ pre : List Done, (mHeap p H D).length ≤ (mHeap p H (pre ++ D)).length
  | [] => Nat.le_refl _
  | e :: pre => by rw [List.cons_append, mHeap_len_cons]; have := mHeap_len_le p H (D := D) pre; omega
theorem mHeap_base (p : Nat → Bool) (H : Hp) (D : List Done) {k : Nat} (h : k < H.length) : hget k (mHeap p H D) = hget k H := by
  have := (mHeap_low p H (D := []) D h).1
  simpa [mHeap] using this
theorem mHeap_new (p : Nat → Bool) (H : Hp) (d : Done) (D : List Done) (q : Nat) : hget ((mHeap p H D).length + q) (mHeap p H (d :: D)) = cond (p d.i) (hget q d.news) .dead := by
  simp only [mHeap]
  rw [hget_append_ge]
  cases p d.i
  · exact deadL_get _ _
  · rfl
theorem mHeap_live (p q : Nat → Bool) (H : Hp) : ∀ {D : List Done} {k : Nat}, (∀ d ∈ D, p d.i = true → q d.i = true) → hget k (mHeap p H D) ≠ .dead → hget k (mHeap q H D) = hget k (mHeap p H D)
  | [], k, _, _ => rfl
  | d :: r, k, h, hk => by
    rcases Nat.lt_or_ge k (mHeap p H r).length with hlt | hge
    · simp only [mHeap] at hk ⊢
      rw [hget_append_lt hlt] at hk
      rw [hget_append_lt hlt, hget_append_lt (by rw [mHeap_length q p]; exact hlt)]
      exact mHeap_live p q H (fun d hd => h d (List.mem_cons_of_mem _ hd)) hk
    · have e : k = (mHeap p H r).length + (k - (mHeap p H r).length) := by omega
      rw [e, mHeap_new] at hk ⊢
      rw [mHeap_length p q, mHeap_new]
      cases hp : p d.i with
      | false => rw [hp] at hk; exact absurd rfl hk
      | true => rw [h d (List.mem_cons_self ..) hp]
theorem mHeap_congr (p q : Nat → Bool) (H : Hp) : ∀ {D : List Done}, (∀ d ∈ D, p d.i = q d.i) → mHeap p H D = mHeap q H D
  | [], _ => rfl
  | d :: r, h => by simp only [mHeap]; rw [mHeap_congr p q H (fun d hd => h d (List.mem_cons_of_mem _ hd)), h d (List.mem_cons_self ..)]
theorem mHeap_high (p q : Nat → Bool) (H : Hp) {D : List Done} {k : Nat} (hk : (mHeap p H D).length ≤ k) : ∀ {pre : List Done}, (∀ d ∈ pre, p d.i = q d.i) → hget k (mHeap p H (pre ++ D)) = hget k (mHeap q H (pre ++ D))
  | [], _ => by
    rw [List.nil_append, hget_out hk, hget_out (by rw [mHeap_length q p]; exact hk)]
  | e :: pre, h => by
    have ih := mHeap_high p q H hk (pre := pre) (fun d hd => h d (List.mem_cons_of_mem _ hd))
    rcases Nat.lt_or_ge k (mHeap p H (pre ++ D)).length with hlt | hge
    · simp only [List.cons_append, mHeap]
      rw [hget_append_lt hlt, hget_append_lt (by rw [mHeap_length q p]; exact hlt)]; exact ih
    · have e' : k = (mHeap p H (pre ++ D)).length + (k - (mHeap p H (pre ++ D)).length) := by omega
      rw [List.cons_append, e', mHeap_new, mHeap_length p q, mHeap_new, h e (List.mem_cons_self ..)]

theorem refsIn_get {base : Nat} {G : Hp} : ∀ {l : List Nat}, refsIn base G l = true → ∀ k ∈ l, In base G k
  | [], _, k, h => by simp at h
  | j :: r, h, k, hk => by
    simp only [refsIn, Bool.and_eq_true, Bool.or_eq_true] at h
    rcases List.mem_cons.1 hk with rfl | hk
    · rcases h.1 with h1 | h1
      · exact .inl (Nat.le_of_ble_eq_true h1)
      · exact .inr fun hd => by rw [hd] at h1; cases h1
    · exact refsIn_get h.2 k hk
theorem refsBs_get : ∀ {l : List ABlk} {q : Nat}, ∀ k ∈ refsB (hget q l), k ∈ refsBs l
  | [], q, k, h => by simp [hget, refsB] at h
  | b :: r, 0, k, h => by simp only [hget] at h; simp [refsBs, h]
  | b :: r, q + 1, k, h => by simp only [hget] at h; simp [refsBs, refsBs_get (l := r) k h]
theorem subL_get : ∀ {a b : List Nat}, subL a b = true → ∀ k ∈ a, k ∈ b
  | [], b, _, k, h => by simp at h
  | j :: r, b, h, k, hk => by
    simp only [subL, Bool.and_eq_true] at h
    rcases List.mem_cons.1 hk with rfl | hk
    · exact elemN_iff.1 h.1
    · exact subL_get h.2 k hk

/-! ### what the run in text order says -/
def Want (ps : List Nat) (o : Oper) (D : List Done) (r : Bool) : Prop := match o.guard with
  | none => r = true
  | some (j, want) => j ∈ ps ∧ ((∃ c, doneV j D = .bool c ∧ r = (c == want)) ∨ (doneV j D = .tup [] ∧ r = false))
def Fact (X : Cx) (env0 : Env) (H : Hp) (ps : List Nat) (o : Oper) (d : Done) (D : List Done) : Prop :=
  (Want ps o D true ∧ OpDoes X.P o (mEnv (fun k => elemN k ps) env0 D) (mHeap (fun k => elemN k ps) H D) d.v ⟨[], d.news⟩ ∧
    refsIn H.length (mHeap (fun k => elemN k ps) H D ++ d.news) (refs d.v ++ refsBs d.news) = true) ∨ (Want ps o D false ∧ d.v = .tup [] ∧ d.news = [])
def DOk (X : Cx) (ops : Array Oper) (pss : List (List Nat)) (env0 : Env) (H : Hp) : List Done → Prop
  | [] => True
  | d :: D => DOk X ops pss env0 H D ∧ d.i = D.length ∧ ∃ o, ops[d.i]? = some o ∧ d.dst = o.dst ∧ Fact X env0 H (nthL d.i pss) o d D

theorem doneSet_self {j : Nat} {v : AVal} : ∀ {D : List Done}, doneV j D = v → doneSet j v D = D
  | [], _ => rfl
  | d :: r, h => by
    simp only [doneV] at h
    simp only [doneSet]
    cases hj : Nat.beq j d.i with
    | true => rw [hj] at h; simp only [cond] at h ⊢; rw [← h]
    | false => rw [hj] at h; simp only [cond] at h ⊢; rw [doneSet_self h]

theorem drawOne_sound {X : Cx} (hT : TSound X.P X.T) {env0 : Env} {H : Hp} {o : Oper} {ps : List Nat} {i : Nat} {D : List Done} {K : List Done → Prop} (h : drawOne X env0 H o ps i D K) :
    ∃ v n, K (⟨i, o.dst, v, n⟩ :: D) ∧ OpDoes X.P o (mEnv (fun k => elemN k ps) env0 D) (mHeap (fun k => elemN k ps) H D) v ⟨[], n⟩ ∧ refsIn H.length (mHeap (fun k => elemN k ps) H D ++ n) (refs v ++ refsBs n) = true := by
  unfold drawOne at h
  rw [maskEnvK_iff, maskHeapK_iff] at h
  obtain ⟨v, e, hk, hdo⟩ := opP_sound hT h
  obtain ⟨ss, n⟩ := e
  unfold newsK at hk
  cases ss with
  | cons s ss => exact hk.elim
  | nil =>
    simp only [chkP] at hk
    cases hr : refsIn H.length (mHeap (fun k => elemN k ps) H D ++ n) (refs v ++ refsBs n) with
    | false => rw [hr] at hk; exact hk.elim
    | true => rw [hr] at hk; exact ⟨v, n, hk, hdo, hr⟩

theorem drawP_sound {X : Cx} (hT : TSound X.P X.T) {ops : Array Oper} {pss : List (List Nat)} {env0 : Env} {H : Hp} : ∀ (l : List Oper) (pr : List (List Nat)) (D : List Done) (K : List Done → Prop), DOk X ops pss env0 H D →
    (∀ j o, l[j]? = some o → ops[D.length + j]? = some o) → (∀ j, nthL j pr = nthL (D.length + j) pss) → drawP X env0 H l pr D.length D K → ∃ Df, DOk X ops pss env0 H Df ∧ Df.length = D.length + l.length ∧ K Df
  | [], pr, D, K, hD, _, _, h => ⟨D, hD, rfl, by simpa [drawP] using h⟩
  | o :: r, [], D, K, _, _, _, h => h.elim
  | o :: r, ps :: pr, D, K, hD, hl, hp, h => by
    have ho : ops[D.length]? = some o := hl 0 o rfl
    have hps : ps = nthL D.length pss := hp 0
    have step : ∀ (d : Done), d.i = D.length → d.dst = o.dst → Fact X env0 H ps o d D → drawP X env0 H r pr (D.length + 1) (d :: D) K → ∃ Df, DOk X ops pss env0 H Df ∧ Df.length = D.length + (o :: r).length ∧ K Df := fun d hi hd hF h => by
      obtain ⟨Df, h1, h2, h3⟩ := drawP_sound hT r pr (d :: D) K ⟨hD, hi, o, by rw [hi]; exact ho, hd, by rw [hi, ← hps]; exact hF⟩ (fun j o' hj => by
        have := hl (j + 1) o' (by simpa using hj)
        rw [List.length_cons, show D.length + 1 + j = D.length + (j + 1) by omega]; exact this) (fun j => by
        have := hp (j + 1)
        rw [List.length_cons, show D.length + 1 + j = D.length + (j + 1) by omega]; exact this) h
      exact ⟨Df, h1, by simp at h2 ⊢; omega, h3⟩
    have one : ∀ (hw : Want ps o D true), drawOne X env0 H o ps D.length D (fun D' => drawP X env0 H r pr (D.length + 1) D' K) → ∃ Df, DOk X ops pss env0 H Df ∧ Df.length = D.length + (o :: r).length ∧ K Df := fun hw h => by
      obtain ⟨v, n, hk, hdo, hr⟩ := drawOne_sound hT h
      exact step ⟨D.length, o.dst, v, n⟩ rfl rfl (.inl ⟨hw, hdo, hr⟩) hk
    have off : ∀ (hw : Want ps o D false), drawP X env0 H r pr (D.length + 1) (⟨D.length, o.dst, .tup [], []⟩ :: D) K → ∃ Df, DOk X ops pss env0 H Df ∧ Df.length = D.length + (o :: r).length ∧ K Df := fun hw h =>
      step ⟨D.length, o.dst, .tup [], []⟩ rfl rfl (.inr ⟨hw, rfl, rfl⟩) h
    unfold drawP at h
    split at h
    · rename_i hg
      exact one (by simp [Want, hg]) h
    · rename_i j want hg
      cases hj : elemN j ps with
      | false => rw [hj] at h; exact h.elim
      | true =>
        rw [hj] at h
        simp only [cond_true] at h
        split at h
        · rename_i b hb
          have hw : Want ps o D (b == want) := by simp only [Want, hg]; exact ⟨elemN_iff.1 hj, .inl ⟨b, hb, rfl⟩⟩
          cases b with
          | true =>
            simp only [brP, cond_true] at h
            rw [forceL_iff, doneSet_self hb] at h
            cases want with
            | true => exact one hw h
            | false => exact off hw h
          | false =>
            simp only [brP, cond_false] at h
            rw [forceL_iff, doneSet_self hb] at h
            cases want with
            | true => exact off hw h
            | false => exact one hw h
        · rename_i hb
          exact off (by simp only [Want, hg]; exact ⟨elemN_iff.1 hj, .inr ⟨hb, trivial⟩⟩) h
        · exact h.elim

end Go.Proofs.Ytcooilllmcgcmaa.Ae
