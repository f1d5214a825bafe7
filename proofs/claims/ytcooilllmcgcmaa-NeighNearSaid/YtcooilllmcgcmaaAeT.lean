/- Operations in sequence. No program in sight. -/
import Derived.Test.YtcooilllmcgcmaaAeS
namespace Go.Proofs.Ytcooilllmcgcmaa.Ae
open Go
section
variable {P : Program} {R R' : Nat → Prop} {w w' : World} {m m' : Mp} {H H' : Hp} {env : Env} {a : Act}

theorem andP_iff {p : Option Prop} {q : Prop} (h : andP p q) : (∀ r, p = some r → r) ∧ q := by
  cases p with
  | none => exact ⟨fun r h => (by cases h), h⟩
  | some p => exact ⟨fun r e => (by cases e; exact h.1), h.2⟩

/-- an operation's word and what it does -/
def OpDoes (P : Program) (o : Oper) (env : Env) (H : Hp) (v : AVal) (e : Eff) : Prop :=
  ∀ (R : Nat → Prop) (w : World) (m : Mp) (a : Act), Sim R w m H → EnvR R w m H env a → gives P o a w fun x w' => ∃ R' m', Far R w m H R' w' m' (e.app H) ∧ VR R' w' m' (e.app H) v x

theorem exec_call {o : Oper} {f : Operand} {args : Array Operand} {ts : Array TypeId} {g : Nat} {xs ys : List Value} (ho : o.op = .call ⟨.value f, args, ts⟩) (hf : a.eval f = .func (.func g) xs.toArray ys.toArray)
    (hg : ∃ fn, P.funcs[g]? = some fn ∧ (fn.name == "runtime.NumGoroutine") = false ∧ fn.body.isNone = false) (w : World) :
    (execOp a.eval o).run P w = .ok (.enter g (xs ++ (args.toList.map a.eval ++ ys)).toArray) w := by
  obtain ⟨fn, h1, h2, h3⟩ := hg
  have e : xs.toArray ++ args.map a.eval ++ ys.toArray = (xs ++ (args.toList.map a.eval ++ ys)).toArray := by
    apply Array.ext'
    simp
  have h2' : ¬ fn.name = "runtime.NumGoroutine" := by simpa using h2
  have h3' : ¬ fn.body = none := fun e => by rw [e] at h3; cases h3
  rw [← e]
  simp only [execOp, ho, resolve, hf, Deferred.ofValue]
  simp [invoke, callFunc, h1, h2', h3']

theorem opP_sound {X : Cx} (hT : TSound X.P X.T) {o : Oper} {K : AVal → Eff → Prop} (h : opP X o.op env H K) : ∃ v e, K v e ∧ OpDoes X.P o env H v e := by
  have plainCase : opK (opF X.P o.op env H) K → ∃ v e, K v e ∧ OpDoes X.P o env H v e := fun h => by
    unfold opK at h
    split at h
    · rename_i p v e hop
      obtain ⟨hp, hk⟩ := andP_iff h
      rw [forceV_iff] at hk
      refine ⟨v, e, hk, fun R w m a hS hE => ?_⟩
      obtain ⟨x, w', m', hr, hs, hv⟩ := opF_sound (P := X.P) hS hE hop hp
      unfold gives
      rcases hr with hr | ⟨hr, rfl⟩
      · rw [hr]; exact ⟨R, m', hs.far, hv⟩
      · rw [hr]; exact ⟨R, m', hs.far, hv⟩
    · exact h.elim
  unfold opP at h
  split at h
  · rename_i op f args ts ho
    split at h
    · rename_i g first cap l hf hl
      obtain ⟨v, e, hk, hg, hrun⟩ := callP_sound hT h
      rw [forceV_iff] at hk
      refine ⟨v, e, hk, fun R w m a hS hE => ?_⟩
      have k1 := oper_sound hE hf
      have k2 := opers_sound hE hl
      generalize hfv : a.eval f = fv at k1
      cases k1 with
      | fn _ _ _ xs ys h1 h2 h3 h4 =>
        have hx : VL R w m H (first ++ (l ++ cap)) (xs ++ (args.toList.map a.eval ++ ys)) := VL.append ⟨h1, h2⟩ (VL.append k2 ⟨h3, h4⟩)
        unfold gives
        rw [exec_call ho hfv hg w]
        refine (hrun R w m _ hS hx).mono fun en w'' ⟨R', m', x, he, hF, hV⟩ => ⟨x, he, R', m', hF, hV⟩
    · exact h.elim
  · exact plainCase h

theorem effK_app : ∀ {e : Eff} {H : Hp} {k : Hp → Prop}, effK e H k ↔ k (e.app H) := by
  have jn : ∀ (a b : Hp) (k : Hp → Prop), joinK a b k ↔ k (a ++ b) := by
    intro a
    induction a with
    | nil => intro b k; exact Iff.rfl
    | cons x r ih => intro b k; simp only [joinK]; rw [ih]; rfl
  have hs : ∀ (l : List (Nat × ABlk)) (H : Hp) (k : Hp → Prop), hsetsK l H k ↔ k (hsets l H) := by
    intro l
    induction l with
    | nil => intro H k; exact Iff.rfl
    | cons p r ih => intro H k; obtain ⟨j, b⟩ := p; simp only [hsetsK]; rw [forceL_iff, ih]; rfl
  intro e H k
  obtain ⟨ss, ns⟩ := e
  unfold effK Eff.app
  cases ss with
  | nil => cases ns with
    | nil => simp [hsets]
    | cons n ns => simp only [hsets]; exact jn _ _ _
  | cons s ss => simp only; rw [hs]; exact jn _ _ _

theorem joinK_iff {α : Type} : ∀ {a b : List α} {k : List α → Prop}, joinK a b k ↔ k (a ++ b)
  | [], b, k => Iff.rfl
  | x :: r, b, k => by simp only [joinK]; rw [joinK_iff]; rfl

theorem putK_iff {d : Option Nat} {v : AVal} {env : Env} {k : Env → Prop} : putK d v env k ↔ k (putEnv d v env) := by
  cases d <;> exact Iff.rfl

theorem EnvR.put (hE : EnvR R w m H env a) {d : Option Nat} {v : AVal} {x : Value} (hd : dstOk a.tmps.size d = true) (hv : VR R w m H v x) : EnvR R w m H (putEnv d v env) (a.put d x) := by
  cases d with
  | none => exact hE
  | some t =>
    have ht : t < a.tmps.size := Nat.le_of_ble_eq_true hd
    intro u
    simp only [putEnv, eget]
    cases hu : Nat.beq u t with
    | true =>
      obtain rfl := Nat.eq_of_beq_eq_true hu
      have e : (a.put (some u) x).tmps.getD u undef = x := by
        rw [Array.getD_eq_getD_getElem?, put_get_eq a x u ht]; rfl
      rw [e]; exact hv
    | false =>
      have hne : some t ≠ some u := fun e => by cases e; simp [Nat.beq_refl] at hu
      rw [getD_eq (put_get_ne a (some t) x u hne)]
      exact hE u
theorem EnvR.far (s : Far R w m H R' w' m' H') (hS : Sim R w m H) (hE : EnvR R w m H env a) : EnvR R' w' m' H' env a := fun t => (hE t).far s hS

/-- the state beside the model's, since the function's start -/
structure Inv (nt : Nat) (R0 : Nat → Prop) (w0 : World) (m0 : Mp) (H0 : Hp) (a : Act) (w : World) (s : St) : Prop where
  ex : ∃ R m, Far R0 w0 m0 H0 R w m s.heap ∧ EnvR R w m s.heap s.env a
  size : a.tmps.size = nt
  nod : a.defers = []

theorem Act.put_size' (a : Act) (d : Option Tmp) (v : Value) : (a.put d v).tmps.size = a.tmps.size := by cases d <;> simp [Act.put]
theorem Act.put_defers' (a : Act) (d : Option Tmp) (v : Value) : (a.put d v).defers = a.defers := by cases d <;> rfl

theorem VR.skip : VR R w m H (.tup []) Go.undef := by
  refine VR.tup [] [] rfl (fun i v x h _ => ?_)
  simp at h
theorem yielded_none {ops : Array Oper} {a : Act} {j t : Nat} (ht : (ops[j]?).bind (·.dst) = some t) (hv : a.tmps.getD t undef = .tuple #[]) : yielded ops a.tmps j = none := by
  unfold yielded
  rw [ht]
  simp only [Option.bind_some]
  cases hx : a.tmps[t]? with
  | none => rfl
  | some x =>
    have : x = .tuple #[] := by rw [Array.getD_eq_getD_getElem?, hx] at hv; exact hv
    rw [this]
/-- an operation, or its being left out -/
def OpStep (P : Program) (ops : Array Oper) (o : Oper) (next : Act → World → Prop) (Q : Exit → Act → World → Prop) (a : Act) (w : World) : Prop :=
  if Region.wanted o (yielded ops a.tmps) then o.wp P a w next Q ∨ (o.asks P a w ∧ LetsOut Q) else next (a.put o.dst undef) w

theorem gslot_eq {ops : Array Oper} {j : Nat} : gslot ops.toList j = (ops[j]?).bind (·.dst) := by
  have : ∀ (l : List Oper) (j : Nat), gslot l j = (l[j]?).bind (·.dst) := by
    intro l
    induction l with
    | nil => intro j; simp [gslot]
    | cons o r ih => intro j; cases j with
      | zero => simp [gslot]
      | succ j => simp [gslot, ih]
  rw [this]; simp

theorem doP_sound {X : Cx} (hT : TSound X.P X.T) {o : Oper} {env : Env} {H : Hp} {K : St → Prop} (hd : dstOk X.nt o.dst = true) (h : doP X o env H K) :
    ∃ s', K s' ∧ ∀ R0 w0 m0 H0, ∀ a w, Inv X.nt R0 w0 m0 H0 a w ⟨env, H⟩ → ∀ (next : Act → World → Prop) Q, (∀ a' w', Inv X.nt R0 w0 m0 H0 a' w' s' → next a' w') → o.wp X.P a w next Q := by
  obtain ⟨v, e, hk, hdo⟩ := opP_sound hT h
  rw [effK_app, putK_iff] at hk
  refine ⟨_, hk, fun R0 w0 m0 H0 a w hI next Q hn => ?_⟩
  obtain ⟨⟨R, m, hF, hE⟩, hsz, hnd⟩ := hI
  refine gives_wp (hdo R w m a hF.sim hE) fun x w' ⟨R', m', hF', hV⟩ => hn _ _ ⟨⟨R', m', hF.trans hF', ?_⟩, by rw [Act.put_size']; exact hsz, by rw [Act.put_defers']; exact hnd⟩
  exact (hE.far hF' hF.sim).put (by rw [hsz]; exact hd) hV
theorem skipP_sound {X : Cx} {o : Oper} {env : Env} {H : Hp} {K : St → Prop} (hd : dstOk X.nt o.dst = true) (h : skipP o env H K) :
    ∃ s', K s' ∧ ∀ R0 w0 m0 H0, ∀ a w, Inv X.nt R0 w0 m0 H0 a w ⟨env, H⟩ → Inv X.nt R0 w0 m0 H0 (a.put o.dst undef) w s' := by
  unfold skipP at h
  rw [putK_iff] at h
  refine ⟨_, h, fun R0 w0 m0 H0 a w hI => ?_⟩
  obtain ⟨⟨R, m, hF, hE⟩, hsz, hnd⟩ := hI
  exact ⟨⟨R, m, hF, hE.put (by rw [hsz]; exact hd) VR.skip⟩, by rw [Act.put_size']; exact hsz, by rw [Act.put_defers']; exact hnd⟩

theorem Inv.known {nt : Nat} {R0 : Nat → Prop} {w0 : World} {m0 : Mp} {H0 : Hp} {a : Act} {w : World} {env : Env} {H : Hp} {t : Nat} {v : AVal} (h : Inv nt R0 w0 m0 H0 a w ⟨env, H⟩) (ht : eget t env = v) : Inv nt R0 w0 m0 H0 a w ⟨(t, v) :: env, H⟩ := by
  obtain ⟨⟨R, m, hF, hE⟩, hsz, hnd⟩ := h
  refine ⟨⟨R, m, hF, fun u => ?_⟩, hsz, hnd⟩
  simp only [eget]
  cases hu : Nat.beq u t with
  | true => have := Nat.eq_of_beq_eq_true hu; subst this; have := hE u; rw [ht] at this; exact this
  | false => exact hE u

theorem operP_sound {X : Cx} (hT : TSound X.P X.T) {ops : Array Oper} {o : Oper} {s : St} {K : St → Prop} (h : operP X ops.toList o s K) :
    ∃ s', K s' ∧ ∀ R0 w0 m0 H0, ∀ a w, Inv X.nt R0 w0 m0 H0 a w s → ∀ (next : Act → World → Prop) Q, (∀ a' w', Inv X.nt R0 w0 m0 H0 a' w' s' → next a' w') → OpStep X.P ops o next Q a w := by
  unfold operP at h
  cases hd : dstOk X.nt o.dst with
  | false => rw [hd] at h; exact h.elim
  | true =>
    rw [hd] at h
    simp only [cond_true] at h
    split at h
    · rename_i hg
      obtain ⟨s', hk, hs⟩ := doP_sound hT hd h
      refine ⟨s', hk, fun R0 w0 m0 H0 a w hI next Q hn => ?_⟩
      unfold OpStep
      rw [if_pos (by simp [Region.wanted, hg])]
      exact .inl (hs R0 w0 m0 H0 a w hI next Q hn)
    · rename_i j want hg
      split at h
      · rename_i t ht
        rw [gslot_eq] at ht
        split at h
        · rename_i b hb
          have hw : ∀ R0 w0 m0 H0 a w, Inv X.nt R0 w0 m0 H0 a w s → Region.wanted o (yielded ops a.tmps) = (b == want) := fun R0 w0 m0 H0 a w hI => by
            obtain ⟨⟨R, m, hF, hE⟩, hsz, hnd⟩ := hI
            have := hE t
            rw [hb] at this
            generalize hv : a.tmps.getD t undef = v at this
            cases this
            have hlt : t < a.tmps.size := by
              rcases Nat.lt_or_ge t a.tmps.size with h' | h'
              · exact h'
              · simp [Array.getD, Nat.not_lt.2 h', undef] at hv
            have hy : yielded ops a.tmps j = some b := by
              unfold yielded
              rw [ht]
              simp only [Array.getD, hlt, dif_pos] at hv
              simp [hlt]
              simp at hv
              rw [hv]
            simp [Region.wanted, hg, hy]
          obtain ⟨env, H⟩ := s
          cases b with
          | true =>
            cases want with
            | true =>
              obtain ⟨s', hk, hs⟩ := doP_sound hT hd h
              refine ⟨s', hk, fun R0 w0 m0 H0 a w hI next Q hn => ?_⟩
              unfold OpStep
              rw [if_pos (by rw [hw _ _ _ _ a w hI]; rfl)]
              exact .inl (hs R0 w0 m0 H0 a w (hI.known hb) next Q hn)
            | false =>
              obtain ⟨s', hk, hs⟩ := skipP_sound hd h
              refine ⟨s', hk, fun R0 w0 m0 H0 a w hI next Q hn => ?_⟩
              unfold OpStep
              rw [if_neg (by rw [hw _ _ _ _ a w hI]; decide)]
              exact hn _ _ (hs R0 w0 m0 H0 a w (hI.known hb))
          | false =>
            cases want with
            | true =>
              obtain ⟨s', hk, hs⟩ := skipP_sound hd h
              refine ⟨s', hk, fun R0 w0 m0 H0 a w hI next Q hn => ?_⟩
              unfold OpStep
              rw [if_neg (by rw [hw _ _ _ _ a w hI]; decide)]
              exact hn _ _ (hs R0 w0 m0 H0 a w (hI.known hb))
            | false =>
              obtain ⟨s', hk, hs⟩ := doP_sound hT hd h
              refine ⟨s', hk, fun R0 w0 m0 H0 a w hI next Q hn => ?_⟩
              unfold OpStep
              rw [if_pos (by rw [hw _ _ _ _ a w hI]; rfl)]
              exact .inl (hs R0 w0 m0 H0 a w (hI.known hb) next Q hn)
        · rename_i hb
          obtain ⟨env, H⟩ := s
          obtain ⟨s', hk, hs⟩ := skipP_sound hd h
          refine ⟨s', hk, fun R0 w0 m0 H0 a w hI next Q hn => ?_⟩
          have hI0 := hI
          obtain ⟨⟨R, m, hF, hE⟩, hsz, hnd⟩ := hI
          have hv := hE t
          rw [hb] at hv
          generalize hvv : a.tmps.getD t undef = v at hv
          have hv0 : v = .tuple #[] := by
            cases hv with
            | tup cs xs h1 h2 =>
              cases xs with
              | nil => rfl
              | cons x xs => simp at h1
          have hy := yielded_none ht (hvv.trans hv0)
          unfold OpStep
          rw [if_neg (by simp [Region.wanted, hg, hy])]
          exact hn _ _ (hs R0 w0 m0 H0 a w hI0)
        · exact h.elim
      · exact h.elim

theorem opsP_sound {X : Cx} (hT : TSound X.P X.T) {ops : Array Oper} : ∀ {l : List Oper} {s : St} {K : St → Prop}, opsP X ops.toList l s K →
    ∃ s', K s' ∧ ∀ R0 w0 m0 H0, ∀ a w, Inv X.nt R0 w0 m0 H0 a w s → ∀ Q : Exit → Act → World → Prop, (∀ a' w', Inv X.nt R0 w0 m0 H0 a' w' s' → Q .normal a' w') → wpList X.P ops Q l a w
  | [], s, K, h => ⟨s, h, fun R0 w0 m0 H0 a w hI Q hQ => hQ a w hI⟩
  | o :: r, s, K, h => by
    obtain ⟨s1, h1, hs1⟩ := operP_sound hT h
    obtain ⟨s2, h2, hs2⟩ := opsP_sound hT (l := r) h1
    refine ⟨s2, h2, fun R0 w0 m0 H0 a w hI Q hQ => ?_⟩
    exact hs1 R0 w0 m0 H0 a w hI _ Q fun a' w' hI' => hs2 R0 w0 m0 H0 a' w' hI' Q hQ

end
end Go.Proofs.Ytcooilllmcgcmaa.Ae
