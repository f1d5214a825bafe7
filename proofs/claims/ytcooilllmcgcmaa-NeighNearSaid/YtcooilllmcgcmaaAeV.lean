/- Code and functions: what the evaluator says is what the model does. No program in sight. -/
import Derived.Test.YtcooilllmcgcmaaAeT
namespace Go.Proofs.Ytcooilllmcgcmaa.Ae
open Go

def ExR : AExit → Exit → Prop
  | .normal, e => e = .normal
  | .exit i, e => e = .exit i
  | .ret, e => e = .ret

/-- a stretch of code leads from a state to a state -/
def CodeOk (X : Cx) (c : Code) (s : St) (e : AExit) (s' : St) : Prop :=
  ∀ (R0 : Nat → Prop) (w0 : World) (m0 : Mp) (H0 : Hp), H0.length = X.n0 → Sim R0 w0 m0 H0 → ∀ (a : Act) (w : World), Inv X.nt R0 w0 m0 H0 a w s → c.wp X.P (fun e1 a1 w1 => ExR e e1 ∧ Inv X.nt R0 w0 m0 H0 a1 w1 s') a w
/-- drawn regions -/
def DrawSound (X : Cx) : Prop := ∀ (id : Nat) (ops : Array Oper) (b : Bool) (s : St) (K : St → Prop), regionP X id ops b s K → ∃ s', K s' ∧ CodeOk X (.region id ops b) s .normal s'

section
variable {X : Cx}

theorem region_sound (_ : TSound X.P X.T) (hD : DrawSound X) {id : Nat} {ops : Array Oper} {b : Bool} {s : St} {K : St → Prop} (h : regionP X id ops b s K) : ∃ s', K s' ∧ CodeOk X (.region id ops b) s .normal s' := hD id ops b s K h
theorem seq_sound (hT : TSound X.P X.T) {id : Nat} {ops : Array Oper} {s : St} {K : St → Prop} (h : opsP X ops.toList ops.toList s K) : ∃ s', K s' ∧ CodeOk X (.region id ops false) s .normal s' := by
  obtain ⟨s', hk, hs⟩ := opsP_sound (X := X) hT (ops := ops) h
  exact ⟨s', hk, fun R0 w0 m0 H0 _ _ a w hI => wp_region_list (hs R0 w0 m0 H0 a w hI _ fun a' w' hI' => ⟨rfl, hI'⟩)⟩

theorem egets_get (env : Env) : ∀ (l : List Nat) (i : Nat), (egets env l)[i]? = (l[i]?).map fun t => eget t env
  | [], i => by simp [egets]
  | t :: l, 0 => by simp [egets]
  | t :: l, i + 1 => by simpa [egets] using egets_get env l i
theorem zipEnv_get {r : Nat → Option Nat} {env : Env} {t : Nat} : ∀ (live : List Nat), eget t (zipEnv live (renL r (egets env live))) = .undef ∨ eget t (zipEnv live (renL r (egets env live))) = ren r (eget t env)
  | [] => .inl rfl
  | u :: live => by
    simp only [egets, renL, zipEnv, eget]
    cases hu : Nat.beq t u with
    | true => have := Nat.eq_of_beq_eq_true hu; subst this; exact .inr rfl
    | false => exact zipEnv_get live

theorem normK_iff {n0 : Nat} {live : List Nat} {s : St} {k : St → Prop} : normK n0 live s k ↔ k ⟨normEnv (seek s.heap n0 (egets s.env live)) live s, subHeap (fun k => idxO k (seek s.heap n0 (egets s.env live))) s.heap (seek s.heap n0 (egets s.env live))⟩ := by
  unfold normK
  rw [forceL_iff, forceL_iff, forceL_iff]

theorem Inv.norm {nt : Nat} {R0 : Nat → Prop} {w0 : World} {m0 : Mp} {H0 : Hp} {a : Act} {w : World} {s : St} (h : Inv nt R0 w0 m0 H0 a w s) (hS0 : Sim R0 w0 m0 H0) (live : List Nat) :
    Inv nt R0 w0 m0 H0 a w ⟨normEnv (seek s.heap H0.length (egets s.env live)) live s, subHeap (fun k => idxO k (seek s.heap H0.length (egets s.env live))) s.heap (seek s.heap H0.length (egets s.env live))⟩ := by
  obtain ⟨⟨R, m, hF, hE⟩, hsz, hnd⟩ := h
  obtain ⟨hn, hp⟩ := seek_ok s.heap H0.length (egets s.env live)
  generalize seek s.heap H0.length (egets s.env live) = S at *
  refine ⟨⟨R, subM S m, hF.restrict hS0 hn hp, fun t => ?_⟩, hsz, hnd⟩
  show VR R w _ _ (eget t (zipEnv live (renL (fun k => idxO k S) (egets s.env live)))) _
  rcases zipEnv_get (r := fun k => idxO k S) (env := s.env) (t := t) live with h | h
  · rw [h]; exact .undef _
  · rw [h]; exact (hE t).ren (sub_num S m s.heap)

theorem loop_sound {b : Code} (ih : ∀ s K, awp X b s K → ∃ e s', K e s' ∧ CodeOk X b s e s') {live : List Nat} : ∀ (n : Nat) (s : St) (K : Post), loopP (awp X b) X.n0 live n s K → ∃ e s', K e s' ∧
    ∀ (R0 : Nat → Prop) (w0 : World) (m0 : Mp) (H0 : Hp), H0.length = X.n0 → Sim R0 w0 m0 H0 → ∀ (a : Act) (w : World), Inv X.nt R0 w0 m0 H0 a w s → Code.rounds X.P b (fun e1 a1 w1 => ExR e e1 ∧ Inv X.nt R0 w0 m0 H0 a1 w1 s') n a w
  | 0, s, K, h => h.elim
  | n + 1, s, K, h => by
    obtain ⟨e, s1, hk, ok⟩ := ih s _ h
    cases e with
    | normal =>
      rw [show seqK (fun s' => normK X.n0 live s' fun s' => loopP (awp X b) X.n0 live n s' K) K .normal s1 = normK X.n0 live s1 (fun s' => loopP (awp X b) X.n0 live n s' K) from rfl, normK_iff] at hk
      obtain ⟨e2, s2, hk2, ok2⟩ := loop_sound ih n _ K hk
      refine ⟨e2, s2, hk2, fun R0 w0 m0 H0 hl hS0 a w hI => ?_⟩
      rw [rounds_succ]
      refine wp_mono (ok R0 w0 m0 H0 hl hS0 a w hI) fun e1 a1 w1 ⟨he, hI1⟩ => ?_
      cases he
      have h2 := hI1.norm hS0 live
      rw [hl] at h2
      exact ok2 R0 w0 m0 H0 hl hS0 a1 w1 h2
    | exit i =>
      refine ⟨.exit i, s1, hk, fun R0 w0 m0 H0 hl hS0 a w hI => ?_⟩
      rw [rounds_succ]
      refine wp_mono (ok R0 w0 m0 H0 hl hS0 a w hI) fun e1 a1 w1 ⟨he, hI1⟩ => ?_
      cases he
      exact ⟨rfl, hI1⟩
    | ret =>
      refine ⟨.ret, s1, hk, fun R0 w0 m0 H0 hl hS0 a w hI => ?_⟩
      rw [rounds_succ]
      refine wp_mono (ok R0 w0 m0 H0 hl hS0 a w hI) fun e1 a1 w1 ⟨he, hI1⟩ => ?_
      cases he
      exact ⟨rfl, hI1⟩

theorem Inv.evalBool {nt : Nat} {R0 : Nat → Prop} {w0 : World} {m0 : Mp} {H0 : Hp} {a : Act} {w : World} {s : St} {c : Operand} {t : Bool} (h : Inv nt R0 w0 m0 H0 a w s) (hc : oper s.env c = some (.bool t)) :
    a.eval c = .bool t ∧ Inv nt R0 w0 m0 H0 a w (setTmp c t s) := by
  refine ⟨?_, ?_⟩
  · obtain ⟨⟨R, m, hF, hE⟩, hsz, hnd⟩ := h
    have := oper_sound hE hc
    generalize a.eval c = v at this
    cases this; rfl
  · cases c with
    | tmp u => obtain ⟨env, H⟩ := s; exact h.known (by simpa [oper] using hc)
    | const v => exact h
    | func f => exact h
    | global g => exact h

theorem awp_sound (hT : TSound X.P X.T) (hD : DrawSound X) : ∀ (c : Code) (s : St) (K : Post), awp X c s K → ∃ e s', K e s' ∧ CodeOk X c s e s' := by
  intro c
  induction c with
  | skip => exact fun s K h => ⟨.normal, s, h, fun R0 w0 m0 H0 _ _ a w hI => wp_skip ⟨rfl, hI⟩⟩
  | label l => exact fun s K h => ⟨.normal, s, h, fun R0 w0 m0 H0 _ _ a w hI => wp_label ⟨rfl, hI⟩⟩
  | region id ops b =>
    intro s K h
    obtain ⟨s', hk, ok⟩ := region_sound hT hD (show regionP X id ops b s (K .normal) from h)
    exact ⟨.normal, s', hk, ok⟩
  | seq x y ihx ihy =>
    intro s K h
    obtain ⟨e, s1, hk, ok⟩ := ihx s _ h
    cases e with
    | normal =>
      obtain ⟨e2, s2, hk2, ok2⟩ := ihy s1 K hk
      refine ⟨e2, s2, hk2, fun R0 w0 m0 H0 hl hS0 a w hI => wp_seq (wp_mono (ok R0 w0 m0 H0 hl hS0 a w hI) fun e1 a1 w1 ⟨he, hI1⟩ => ?_)⟩
      cases he
      exact ok2 R0 w0 m0 H0 hl hS0 a1 w1 hI1
    | exit i =>
      refine ⟨.exit i, s1, hk, fun R0 w0 m0 H0 hl hS0 a w hI => wp_seq (wp_mono (ok R0 w0 m0 H0 hl hS0 a w hI) fun e1 a1 w1 ⟨he, hI1⟩ => ?_)⟩
      cases he
      exact ⟨rfl, hI1⟩
    | ret =>
      refine ⟨.ret, s1, hk, fun R0 w0 m0 H0 hl hS0 a w hI => wp_seq (wp_mono (ok R0 w0 m0 H0 hl hS0 a w hI) fun e1 a1 w1 ⟨he, hI1⟩ => ?_)⟩
      cases he
      exact ⟨rfl, hI1⟩
  | cond c x y ihx ihy =>
    intro s K h
    simp only [awp] at h
    split at h
    · rename_i t hc
      cases t with
      | true =>
        obtain ⟨e, s', hk, ok⟩ := ihx _ K h
        refine ⟨e, s', hk, fun R0 w0 m0 H0 hl hS0 a w hI => ?_⟩
        obtain ⟨h1, h2⟩ := hI.evalBool hc
        exact wp_cond_true h1 (ok R0 w0 m0 H0 hl hS0 a w h2)
      | false =>
        obtain ⟨e, s', hk, ok⟩ := ihy _ K h
        refine ⟨e, s', hk, fun R0 w0 m0 H0 hl hS0 a w hI => ?_⟩
        obtain ⟨h1, h2⟩ := hI.evalBool hc
        exact wp_cond_false h1 (ok R0 w0 m0 H0 hl hS0 a w h2)
    · exact h.elim
  | block id b ih =>
    intro s K h
    obtain ⟨e, s1, hk, ok⟩ := ih s _ h
    cases e with
    | normal =>
      refine ⟨.normal, s1, hk, fun R0 w0 m0 H0 hl hS0 a w hI => wp_block (wp_mono (ok R0 w0 m0 H0 hl hS0 a w hI) fun e1 a1 w1 ⟨he, hI1⟩ => ?_)⟩
      cases he
      exact ⟨rfl, hI1⟩
    | exit i =>
      simp only [blockK] at hk
      cases hi : Nat.beq i id with
      | true =>
        rw [hi] at hk
        have := Nat.eq_of_beq_eq_true hi
        subst this
        refine ⟨.normal, s1, hk, fun R0 w0 m0 H0 hl hS0 a w hI => wp_block (wp_mono (ok R0 w0 m0 H0 hl hS0 a w hI) fun e1 a1 w1 ⟨he, hI1⟩ => ?_)⟩
        cases he
        simp only [Exit.inBlock, if_true]
        exact ⟨rfl, hI1⟩
      | false =>
        rw [hi] at hk
        have hne : i ≠ id := fun e => by subst e; simp [Nat.beq_refl] at hi
        refine ⟨.exit i, s1, hk, fun R0 w0 m0 H0 hl hS0 a w hI => wp_block (wp_mono (ok R0 w0 m0 H0 hl hS0 a w hI) fun e1 a1 w1 ⟨he, hI1⟩ => ?_)⟩
        cases he
        simp only [Exit.inBlock, if_neg hne]
        exact ⟨rfl, hI1⟩
    | ret =>
      refine ⟨.ret, s1, hk, fun R0 w0 m0 H0 hl hS0 a w hI => wp_block (wp_mono (ok R0 w0 m0 H0 hl hS0 a w hI) fun e1 a1 w1 ⟨he, hI1⟩ => ?_)⟩
      cases he
      exact ⟨rfl, hI1⟩
  | loop b ih =>
    intro s K h
    simp only [awp] at h
    rw [normK_iff] at h
    obtain ⟨n, hn⟩ := fuelP_ex h
    obtain ⟨e, s', hk, ok⟩ := loop_sound ih n _ K hn
    refine ⟨e, s', hk, fun R0 w0 m0 H0 hl hS0 a w hI => ?_⟩
    have h2 := hI.norm hS0 (X.ann (firstReg b)).1
    rw [hl] at h2
    exact wp_loop_rounds n (ok R0 w0 m0 H0 hl hS0 a w h2)
  | scope b ih =>
    intro s K h
    obtain ⟨e, s1, hk, ok⟩ := ih s K h
    refine ⟨e, s1, hk, fun R0 w0 m0 H0 hl hS0 a w hI => wp_scope_straight (wp_mono (ok R0 w0 m0 H0 hl hS0 a w hI) fun e1 a1 w1 ⟨he, hI1⟩ => ?_)⟩
    cases e <;> cases he <;> exact ⟨rfl, hI1⟩
  | exit id => exact fun s K h => ⟨.exit id, s, h, fun R0 w0 m0 H0 _ _ a w hI => wp_exit ⟨rfl, hI⟩⟩
  | ret => exact fun s K h => ⟨.ret, s, h, fun R0 w0 m0 H0 _ _ a w hI => wp_ret ⟨rfl, hI⟩⟩
  | _ => exact fun s K h => h.elim

/-! ### functions -/
theorem andO_iff {p q : Option Prop} : (∀ r, andO p q = some r → r) → (∀ r, p = some r → r) ∧ (∀ r, q = some r → r) := by
  intro h
  cases p with
  | none => exact ⟨fun r e => (by cases e), h⟩
  | some p => cases q with
    | none => exact ⟨h, fun r e => (by cases e)⟩
    | some q => have := h _ rfl; exact ⟨fun r e => (by cases e; exact this.1), fun r e => (by cases e; exact this.2)⟩

def resOp (tmps : Array Value) : ResultVar → Sem Value
  | .tmp t => pure (tmps.getD t undef)
  | .cell a t => do loadVar t (← asAddr (tmps.getD a undef))
theorem resF_sound {P : Program} {R : Nat → Prop} {w : World} {m : Mp} {s : St} {a : Act} (hS : Sim R w m s.heap) (hE : EnvR R w m s.heap s.env a) : ∀ {rs : List ResultVar} {p : Option Prop} {l : List AVal}, resF P s rs = some (p, l) → (∀ q, p = some q → q) →
    ∃ xs : List Value, (rs.mapM (resOp a.tmps)).run P w = .ok xs w ∧ VL R w m s.heap l xs
  | [], p, l, h, _ => by
    simp only [resF, Option.some.injEq, Prod.mk.injEq] at h
    obtain ⟨-, rfl⟩ := h
    exact ⟨[], by simp, VL.nil⟩
  | .tmp t :: r, p, l, h, hp => by
    simp only [resF] at h
    split at h
    · rename_i p' l' hr
      cases h
      obtain ⟨xs, h1, h2⟩ := resF_sound hS hE hr hp
      exact ⟨_ :: xs, by simp only [List.mapM_cons, Sem.run_bind, resOp, Sem.run_pure, Result.andThen_ok, h1], .cons (hE t) h2⟩
    · cases h
  | .cell b t :: r, p, l, h, hp => by
    simp only [resF] at h
    split at h
    · rename_i q v p' l' hq hr
      cases h
      obtain ⟨g1, g2⟩ := andO_iff hp
      obtain ⟨xs, h1, h2⟩ := resF_sound hS hE hr g2
      obtain ⟨ad, x, e1, e2, e3⟩ := loadF_sound hS (hE b) hq g1
      refine ⟨x :: xs, ?_, .cons e3 h2⟩
      simp only [List.mapM_cons, Sem.run_bind, resOp, e1, asAddr, Sem.run_pure, Result.andThen_ok, e2, h1]
    · cases h

theorem retV_sound {R : Nat → Prop} {w : World} {m : Mp} {H : Hp} {l : List AVal} {xs : List Value} (h : VL R w m H l xs) : VR R w m H (retV l) (if h : xs.toArray.size = 1 then xs.toArray[0] else .tuple xs.toArray) := by
  obtain ⟨h1, h2⟩ := h
  match l, xs, h1 with
  | [], [], _ => exact .tup [] [] rfl fun i v x hv _ => by simp at hv
  | [v], [x], _ => exact h2 0 v x rfl rfl
  | v :: u :: l, x :: y :: xs, h1 => exact .tup _ _ h1 h2
theorem results_run {P : Program} {R : Nat → Prop} {w : World} {m : Mp} {s : St} {a : Act} (hS : Sim R w m s.heap) (hE : EnvR R w m s.heap s.env a) {fn : Func} {p : Option Prop} {l : List AVal} (h : resF P s fn.results.toList = some (p, l)) (hp : ∀ q, p = some q → q) :
    ∃ x, (results fn a.tmps).run P w = .ok x w ∧ VR R w m s.heap (retV l) x := by
  obtain ⟨xs, h1, h2⟩ := resF_sound hS hE h hp
  refine ⟨_, ?_, retV_sound h2⟩
  have e : (fn.results.mapM (resOp a.tmps)).run P w = .ok xs.toArray w := by
    rw [Array.mapM_eq_mapM_toList, Sem.run_map, h1]; rfl
  have e2 : (results fn a.tmps).run P w = (do let vs ← fn.results.mapM (resOp a.tmps); pure (if h : vs.size = 1 then vs[0] else .tuple vs) : Sem Value).run P w := by
    unfold results
    congr 2
  rw [e2, Sem.run_bind, e]
  rfl

theorem argEnv_get : ∀ (l : List AVal) (i t : Nat), eget t (argEnv i l) = .undef ∨ (i ≤ t ∧ ∃ v, l[t - i]? = some v ∧ eget t (argEnv i l) = v)
  | [], i, t => .inl rfl
  | v :: l, i, t => by
    simp only [argEnv, eget]
    cases hu : Nat.beq t i with
    | true => have := Nat.eq_of_beq_eq_true hu; subst this; exact .inr ⟨Nat.le_refl _, v, by simp, rfl⟩
    | false =>
      have hne : t ≠ i := fun e => by subst e; simp [Nat.beq_refl] at hu
      rcases argEnv_get l (i + 1) t with h | ⟨h1, v', h2, h3⟩
      · exact .inl h
      · refine .inr ⟨by omega, v', ?_, h3⟩
        rw [show t - i = (t - (i + 1)) + 1 by omega]; simpa using h2

/-- what a function's text says, it does -/
theorem fnP_sound {P : Program} {T : Specs} {ann : Nat → List Nat × Nat × List (List Nat)} {f : Nat} {fn : Func} {args : List AVal} {H : Hp} {K : AVal → Hp → Prop} (hT : TSound P T) (hD : DrawSound ⟨P, T, fn.ntmps, H.length, ann⟩)
    (hf : P.funcs[f]? = some fn) (hname : (fn.name == "runtime.NumGoroutine") = false) (h : fnP P T ann fn args H K) : ∃ v H', K v H' ∧ Gives P f args H v H' := by
  unfold fnP at h
  split at h
  · rename_i c hb
    cases hl : Nat.ble args.length fn.ntmps with
    | false => rw [hl] at h; exact h.elim
    | true =>
      rw [hl] at h
      have hle := Nat.le_of_ble_eq_true hl
      obtain ⟨e, s, hk, ok⟩ := awp_sound (X := ⟨P, T, fn.ntmps, H.length, ann⟩) hT hD c _ _ h
      have fin : endK P H.length fn.results.toList K s → (e = .normal ∨ e = .ret) → ∃ v H', K v H' ∧ Gives P f args H v H' := by
        intro hend hee
        unfold endK at hend
        split at hend
        · rename_i p vs hr
          obtain ⟨hp, hret⟩ := andP_iff hend
          unfold retK at hret
          rw [forceL_iff] at hret
          refine ⟨_, _, hret, ⟨fn, hf, hname, by rw [hb]; rfl⟩, fun R w m xs hS hx => ?_⟩
          refine calls_of_wp hf hb (wp_mono (ok R w m H rfl hS _ w ⟨⟨R, m, .refl hS, fun t => ?_⟩, ?_, rfl⟩) fun e1 a1 w1 ⟨he, hI⟩ => ?_)
          · rcases argEnv_get args 0 t with h | ⟨_, v, h1, h2⟩
            · rw [h]; exact .undef _
            · rw [h2]
              rw [Nat.sub_zero] at h1
              have hlt : t < xs.length := by rw [← hx.1]; exact (List.getElem?_eq_some_iff.1 h1).1
              have hg : (xs.toArray ++ Array.replicate (fn.ntmps - xs.toArray.size) undef).getD t undef = xs[t] := by
                rw [Array.getD_eq_getD_getElem?, Array.getElem?_append_left (by simpa using hlt)]
                simp [hlt]
              show VR R w m H v ((xs.toArray ++ Array.replicate (fn.ntmps - xs.toArray.size) undef).getD t undef)
              rw [hg]
              exact hx.2 t v _ h1 (List.getElem?_eq_getElem hlt)
          · have := hx.1
            show (xs.toArray ++ Array.replicate (fn.ntmps - xs.toArray.size) undef).size = fn.ntmps
            simp; omega
          · obtain ⟨⟨R', m', hF, hE⟩, _, hnd⟩ := hI
            obtain ⟨x, hx1, hx2⟩ := results_run hF.sim hE hr hp
            obtain ⟨hn, hpp⟩ := seek_ok s.heap H.length [retV vs]
            have post : a1.defers = [] ∧ ∃ v, (results fn a1.tmps).run P w1 = .ok v w1 ∧ ∃ R' m' x, Ending.returned v = .returned x ∧ Far R w m H R' w1 m' (subHeap (fun k => idxO k (seek s.heap H.length [retV vs])) s.heap (seek s.heap H.length [retV vs])) ∧ VR R' w1 m' (subHeap (fun k => idxO k (seek s.heap H.length [retV vs])) s.heap (seek s.heap H.length [retV vs])) (ren (fun k => idxO k (seek s.heap H.length [retV vs])) (retV vs)) x :=
              ⟨hnd, x, hx1, R', _, x, rfl, hF.restrict hS hn hpp, hx2.ren (sub_num _ _ _)⟩
            rcases hee with rfl | rfl <;> cases he <;> exact post
        · exact hend.elim
      cases e with
      | normal => exact fin hk (.inl rfl)
      | ret => exact fin hk (.inr rfl)
      | exit i => exact hk.elim
  · exact h.elim

end
end Go.Proofs.Ytcooilllmcgcmaa.Ae
