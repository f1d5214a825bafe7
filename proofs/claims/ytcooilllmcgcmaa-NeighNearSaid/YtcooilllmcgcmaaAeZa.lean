/- Drawn regions in which what changes memory comes up one behind the other. No program in sight. -/
import Derived.Test.YtcooilllmcgcmaaAeZ
namespace Go.Proofs.Ytcooilllmcgcmaa.Ae
open Go

section
variable {P : Program} {H H' : Hp} {env : Env}

theorem bytesOf_congr {x : AVal} (h : ∀ k ∈ refs1 x, hget k H = hget k H') : bytesOf H x = bytesOf H' x := by
  cases x <;> try rfl
  rename_i b off len sz
  have := h b (by simp [refs1])
  simp only [bytesOf, this]
theorem convF_congr {s d : TypeId} {x : AVal} {p : Option Prop} {v : AVal} (h : ∀ k ∈ refs1 x, hget k H = hget k H') (hc : convF P H s d x = some (p, v, noEff)) : convF P H' s d x = some (p, v, noEff) := by
  cases x with
  | int k n => exact hc
  | byte n => exact hc
  | str l =>
    simp only [convF] at hc ⊢
    split at hc
    · rename_i h1; exact hc
    · rename_i h1
      split at hc
      · rename_i h2
        cases hs : isStrT P s with
        | false => rw [hs] at hc; simp at hc
        | true => rw [hs] at hc; simp [noEff] at hc
      · cases hc
  | sl b off len sz => simp only [convF] at hc ⊢; rw [← bytesOf_congr h]; exact hc
  | _ => exact hc
theorem cutF_congr {t : TypeId} {x : AVal} {lo hi mx : Option AVal} (h : ∀ k ∈ refP x, hget k H = hget k H') : cutF P H t x lo hi mx = cutF P H' t x lo hi mx := by
  cases x <;> try rfl
  rename_i b off
  have := h b (by simp [refP])
  simp only [cutF, this]
theorem loadF_congr {t : TypeId} {x : AVal} (h : ∀ k ∈ refs1 x, hget k H = hget k H') : loadF P H t x = loadF P H' t x := by
  cases x <;> try rfl
  rename_i b off
  have := h b (by simp [refs1])
  simp only [loadF, this]

theorem builtin_congr {b : Builtin} (hb : b = .len ∨ b = .min ∨ b = .max) {ts : List TypeId} {l : List AVal} : builtinF P H b ts l = builtinF P H' b ts l := by
  rcases hb with rfl | rfl | rfl
  · unfold builtinF; rcases ts with _ | ⟨t, ts⟩ <;> rcases l with _ | ⟨x, _ | ⟨y, l⟩⟩ <;> rfl
  · unfold builtinF; rcases l with _ | ⟨x, _ | ⟨y, _ | ⟨z, l⟩⟩⟩ <;> rcases ts with _ | ⟨t, _ | ⟨u, ts⟩⟩ <;> rfl
  · unfold builtinF; rcases l with _ | ⟨x, _ | ⟨y, _ | ⟨z, l⟩⟩⟩ <;> rcases ts with _ | ⟨t, _ | ⟨u, ts⟩⟩ <;> rfl
theorem read_congr {op : Op} {l : List Nat} {p : Option Prop} {v : AVal} (hr : readRefs env op = some l) (hl : ∀ k ∈ l, hget k H = hget k H') (h : opF P op env H = some ⟨p, v, noEff⟩) : opF P op env H' = some ⟨p, v, noEff⟩ := by
  cases op with
  | move x => exact h
  | assign x => exact h
  | pick c a b => exact h
  | build t parts => exact h
  | nilCheck x => exact h
  | binOp o t x y z => exact h
  | unOp o t x => exact h
  | makeFunc f a b => cases f <;> exact h
  | fieldAddr t x i => exact h
  | field t x i => exact h
  | indexAddr t x i => exact h
  | index t x i => exact h
  | extract x i => exact h
  | load t a =>
    simp only [readRefs, Option.some.injEq] at hr
    subst hr
    simp only [opF] at h ⊢
    unfold operRefs at hl
    split at h
    · rename_i u hu
      rw [hu] at hl
      simp only at hl ⊢
      rw [← loadF_congr hl]; exact h
    · cases h
  | convert s d x =>
    simp only [readRefs, Option.some.injEq] at hr
    subst hr
    simp only [opF] at h ⊢
    unfold operRefs at hl
    split at h
    · rename_i u hu
      rw [hu] at hl
      simp only at hl ⊢
      cases hc : (P.underlying s).isSome with
      | false => rw [hc] at h; simp at h
      | true =>
        rw [hc] at h
        simp only [cond_true] at h ⊢
        split at h
        · rename_i p' v' e' hcv
          simp only [Option.some.injEq, Res.mk.injEq] at h
          obtain ⟨rfl, rfl, rfl⟩ := h
          rw [convF_congr hl hcv]
        · cases h
    · cases h
  | slice t x lo hi mx =>
    simp only [readRefs, Option.some.injEq] at hr
    subst hr
    simp only [opF] at h ⊢
    unfold operRefs at hl
    split at h
    · rename_i a1 a2 a3 a4 h1 h2 h3 h4
      rw [h1] at hl
      simp only at hl ⊢
      rw [← cutF_congr hl]; exact h
    · cases h
  | call c =>
    simp only [opF] at h ⊢
    simp only [readRefs] at hr
    split at hr
    · rename_i hc
      rw [hc] at h ⊢
      simp only at h ⊢
      split at h
      · rename_i q hq
        exact (builtin_congr (by simp)).symm.trans h
      · cases h
    · rename_i hc
      rw [hc] at h ⊢
      simp only at h ⊢
      split at h
      · rename_i q hq
        exact (builtin_congr (by simp)).symm.trans h
      · cases h
    · rename_i hc
      rw [hc] at h ⊢
      simp only at h ⊢
      split at h
      · rename_i q hq
        exact (builtin_congr (by simp)).symm.trans h
      · cases h
    · cases hr
  | _ => simp [readRefs] at hr

/-! ### heaps that follow one another -/
theorem keysOf_mem : ∀ {l : List (Nat × ABlk)} {k : Nat}, k ∉ keysOf l → ∀ (H : Hp), hget k (hsets l H) = hget k H
  | [], _, _, H => rfl
  | (j, b) :: r, k, h, H => by
    simp only [keysOf, List.mem_cons, not_or] at h
    simp only [hsets]
    rw [keysOf_mem h.2, hget_hset_ne h.1]
theorem app_get {e : Eff} {k : Nat} (h : k ∉ keysOf e.sets) (hk : k < H.length) : hget k (e.app H) = hget k H := by
  unfold Eff.app
  rw [hget_append_lt (by rw [hsets_length]; exact hk), keysOf_mem h]
theorem app_len (e : Eff) (H : Hp) : H.length ≤ (e.app H).length := by
  unfold Eff.app
  rw [List.length_append, hsets_length]; omega
end

/-! ### what the run in text order says -/
/-- an operation that was run, or left out: 'A' the heap ahead of it, 'B' the heap behind -/
def CFact (X : Cx) (pr : List (List Nat)) (env0 : Env) (ps : List Nat) (hards S Rd : List Nat) (o : Oper) (d : Done) (D : List Done) (A B : Hp) : Prop :=
  (Want ps o D true ∧
    ((d.i ∈ hards ∧ ∃ e, OpDoes X.P o (mEnv (fun k => elemN k ps) env0 D) A d.v e ∧ B = e.app A ∧ ∀ k ∈ keysOf e.sets, k ∈ S) ∨
      (d.i ∉ hards ∧ B = A ∧ ∃ l p, readRefs (mEnv (fun k => elemN k ps) env0 D) o.op = some l ∧ (∀ k ∈ l, k < A.length ∧ (settled hards pr d.i = false → k ∈ Rd)) ∧ opF X.P o.op (mEnv (fun k => elemN k ps) env0 D) A = some ⟨p, d.v, noEff⟩ ∧ (∀ q, p = some q → q) ∧ ∀ f as ts, o.op ≠ .call ⟨.value f, as, ts⟩))) ∨
  (Want ps o D false ∧ d.v = .tup [] ∧ B = A)
def COk (X : Cx) (ops : Array Oper) (pr : List (List Nat)) (hards : List Nat) (env0 : Env) (Df : List Done) (Hs : Nat → Hp) (S Rd : List Nat) (n m : Nat) : Prop :=
  ∀ k, n ≤ k → k < m → ∃ pre d D, Df = pre ++ d :: D ∧ D.length = k ∧ d.i = k ∧ ∃ o, ops[k]? = some o ∧ d.dst = o.dst ∧ CFact X pr env0 (nthL k pr) hards S Rd o d D (Hs k) (Hs (k + 1))

theorem CFact.sup {X : Cx} {pr : List (List Nat)} {env0 : Env} {ps hards S Rd S' Rd' : List Nat} {o : Oper} {d : Done} {D : List Done} {A B : Hp} (h : CFact X pr env0 ps hards S Rd o d D A B) (hS : ∀ k ∈ S, k ∈ S') (hR : ∀ k ∈ Rd, k ∈ Rd') : CFact X pr env0 ps hards S' Rd' o d D A B := by
  rcases h with ⟨h1, h2⟩ | h
  · refine .inl ⟨h1, ?_⟩
    rcases h2 with ⟨g1, e, g2, g3, g4⟩ | ⟨g1, g2, l, p, g3, g4, g5⟩
    · exact .inl ⟨g1, e, g2, g3, fun k hk => hS k (g4 k hk)⟩
    · exact .inr ⟨g1, g2, l, p, g3, fun k hk => ⟨(g4 k hk).1, fun hs => hR k ((g4 k hk).2 hs)⟩, g5⟩
  · exact .inr h

theorem chainOne_sound {X : Cx} (hT : TSound X.P X.T) {pr : List (List Nat)} {env0 : Env} {o : Oper} {ps hards : List Nat} {i : Nat} {D : List Done} {H : Hp} {S Rd : List Nat} {K : List Done → Hp → List Nat → List Nat → Prop} (hw : Want ps o D true)
    (h : chainOne X env0 o ps i (elemN i hards) (settled hards pr i) D H S Rd K) : ∃ d H' S' Rd', K (d :: D) H' S' Rd' ∧ d.i = i ∧ d.dst = o.dst ∧ (∀ k ∈ S, k ∈ S') ∧ (∀ k ∈ Rd, k ∈ Rd') ∧ CFact X pr env0 ps hards S' Rd' o d D H H' := by
  unfold chainOne at h
  rw [maskEnvK_iff] at h
  cases hh : elemN i hards with
  | true =>
    rw [hh] at h
    simp only [cond_true] at h
    obtain ⟨v, e, hk, hdo⟩ := opP_sound hT h
    rw [effK_app] at hk
    exact ⟨_, _, _, _, hk, rfl, rfl, fun k hk => List.mem_append_right _ hk, fun k hk => hk, .inl ⟨hw, .inl ⟨elemN_iff.1 hh, e, hdo, rfl, fun k hk => List.mem_append_left _ hk⟩⟩⟩
  | false =>
    rw [hh] at h
    simp only [cond_false] at h
    split at h
    · rename_i l hl
      simp only [chkP] at h
      cases ha : allLt l H.length with
      | false => rw [ha] at h; exact h.elim
      | true =>
        rw [ha] at h
        simp only [cond_true] at h
        unfold opK at h
        split at h
        · rename_i p v e hop
          obtain ⟨hp, hk⟩ := andP_iff h
          rw [forceV_iff] at hk
          unfold pureK at hk
          obtain ⟨ss, nn⟩ := e
          cases ss with
          | cons s ss => exact hk.elim
          | nil =>
            cases nn with
            | cons s ss => exact hk.elim
            | nil =>
              refine ⟨_, _, _, _, hk, rfl, rfl, fun k hk => hk, fun k hk => by cases settled hards pr i <;> simp [hk], .inl ⟨hw, .inr ⟨fun hm => ?_, rfl, l, p, hl, fun k hk => ⟨allLt_get ha k hk, fun hs => by rw [show settled hards pr i = false from hs]; exact List.mem_append_left _ hk⟩, hop, hp, fun f as ts he => ?_⟩⟩⟩
              · rw [elemN_iff.2 hm] at hh; cases hh
              · rw [he] at hl; simp [readRefs] at hl
        · exact h.elim
    · exact h.elim

def CGoal (X : Cx) (ops : Array Oper) (pr : List (List Nat)) (hards : List Nat) (env0 : Env) (D : List Done) (H : Hp) (S Rd : List Nat) (K : List Done → Hp → List Nat → List Nat → Prop) (n : Nat) : Prop :=
  ∃ Df Hs S' Rd', (∃ pre, Df = pre ++ D) ∧ Hs D.length = H ∧ Df.length = n ∧ COk X ops pr hards env0 Df Hs S' Rd' D.length n ∧ K Df (Hs n) S' Rd' ∧ (∀ k ∈ S, k ∈ S') ∧ (∀ k ∈ Rd, k ∈ Rd')
theorem chainP_sound {X : Cx} (hT : TSound X.P X.T) {ops : Array Oper} {pr : List (List Nat)} {hards : List Nat} {env0 : Env} : ∀ (l : List Oper) (ps : List (List Nat)) (D : List Done) (H : Hp) (S Rd : List Nat) (K : List Done → Hp → List Nat → List Nat → Prop),
    (∀ j o, l[j]? = some o → ops[D.length + j]? = some o) → (∀ j, nthL j ps = nthL (D.length + j) pr) → chainP X env0 hards pr l ps D.length D H S Rd K →
    CGoal X ops pr hards env0 D H S Rd K (D.length + l.length)
  | [], ps, D, H, S, Rd, K, _, _, h => ⟨D, fun _ => H, S, Rd, ⟨[], rfl⟩, rfl, rfl, fun k h1 h2 => by simp at h2; omega, h, fun k hk => hk, fun k hk => hk⟩
  | o :: r, [], D, H, S, Rd, K, _, _, h => h.elim
  | o :: r, p :: ps, D, H, S, Rd, K, hl, hp, h => by
    have ho : ops[D.length]? = some o := hl 0 o rfl
    have hps : p = nthL D.length pr := hp 0
    have step : ∀ (d : Done) (H1 : Hp) (S1 Rd1 : List Nat), d.i = D.length → d.dst = o.dst → (∀ k ∈ S, k ∈ S1) → (∀ k ∈ Rd, k ∈ Rd1) → CFact X pr env0 p hards S1 Rd1 o d D H H1 → chainP X env0 hards pr r ps (D.length + 1) (d :: D) H1 S1 Rd1 K →
        CGoal X ops pr hards env0 D H S Rd K (D.length + (o :: r).length) := fun d H1 S1 Rd1 hi hd hS hR hF h => by
      obtain ⟨Df, Hs, S', Rd', ⟨pre, hpre⟩, h1, h2, h3, h4, h5, h6⟩ := chainP_sound hT (ops := ops) (pr := pr) r ps (d :: D) H1 S1 Rd1 K (fun j o' hj => by
        have := hl (j + 1) o' (by simpa using hj)
        rw [List.length_cons, show D.length + 1 + j = D.length + (j + 1) by omega]; exact this) (fun j => by
        have := hp (j + 1)
        rw [List.length_cons, show D.length + 1 + j = D.length + (j + 1) by omega]; exact this) h
      simp only [List.length_cons] at h1 h2 h3 h4
      have e1 : D.length + 1 + r.length = D.length + (o :: r).length := by simp; omega
      refine ⟨Df, fun k => if k = D.length then H else Hs k, S', Rd', ⟨pre ++ [d], by rw [hpre]; simp⟩, if_pos rfl, by rw [h2, e1], fun k hk1 hk2 => ?_, ?_, fun k hk => h5 k (hS k hk), fun k hk => h6 k (hR k hk)⟩
      · by_cases e : k = D.length
        · subst e
          refine ⟨pre, d, D, hpre, rfl, hi, o, ho, hd, ?_⟩
          show CFact X pr env0 (nthL D.length pr) hards S' Rd' o d D (if D.length = D.length then H else Hs D.length) (if D.length + 1 = D.length then H else Hs (D.length + 1))
          rw [if_pos rfl, if_neg (by omega), h1, ← hps]
          exact hF.sup h5 h6
        · obtain ⟨pre', d', D', g1, g2, g3, o', g4, g5, g6⟩ := h3 k (by omega) (by omega)
          refine ⟨pre', d', D', g1, g2, g3, o', g4, g5, ?_⟩
          show CFact X pr env0 (nthL k pr) hards S' Rd' o' d' D' (if k = D.length then H else Hs k) (if k + 1 = D.length then H else Hs (k + 1))
          rw [if_neg e, if_neg (by omega)]; exact g6
      · simp only
        rw [if_neg (by simp), ← e1]; exact h4
    have one : ∀ (hw : Want p o D true), chainOne X env0 o p D.length (elemN D.length hards) (settled hards pr D.length) D H S Rd (fun D' H' S' Rd' => chainP X env0 hards pr r ps (D.length + 1) D' H' S' Rd' K) → CGoal X ops pr hards env0 D H S Rd K (D.length + (o :: r).length) := fun hw h => by
      obtain ⟨d, H1, S1, Rd1, hk, hi, hd, hS, hR, hF⟩ := chainOne_sound hT hw h
      exact step d H1 S1 Rd1 hi hd hS hR hF hk
    have off : ∀ (hw : Want p o D false), chainP X env0 hards pr r ps (D.length + 1) (⟨D.length, o.dst, .tup [], []⟩ :: D) H S Rd K → CGoal X ops pr hards env0 D H S Rd K (D.length + (o :: r).length) := fun hw h =>
      step ⟨D.length, o.dst, .tup [], []⟩ H S Rd rfl rfl (fun k hk => hk) (fun k hk => hk) (.inr ⟨hw, rfl, rfl⟩) h
    unfold chainP at h
    split at h
    · rename_i hg
      exact one (by simp [Want, hg]) h
    · rename_i j want hg
      cases hj : elemN j p with
      | false => rw [hj] at h; exact h.elim
      | true =>
        rw [hj] at h
        simp only [cond_true] at h
        split at h
        · rename_i b hb
          have hw : Want p o D (b == want) := by simp only [Want, hg]; exact ⟨elemN_iff.1 hj, .inl ⟨b, hb, rfl⟩⟩
          cases b with
          | true =>
            simp only [brP, cond_true] at h
            rw [forceL_iff, doneSet_self hb] at h
            cases want with
            | true => exact one hw h
            | false => exact off hw h
          | false =>
            simp only [brP, cond_false] at h
            rw [forceL_iff, doneSet_self hb] at h
            cases want with
            | true => exact off hw h
            | false => exact one hw h
        · rename_i hb
          exact off (by simp only [Want, hg]; exact ⟨elemN_iff.1 hj, .inr ⟨hb, trivial⟩⟩) h
        · exact h.elim
end Go.Proofs.Ytcooilllmcgcmaa.Ae
