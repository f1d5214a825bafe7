/- A drawn region in which a store waits for all that stands ahead of it but for some moves of slots: as good as where it waits for these, too. No program in sight. -/
import Derived.Test.YtnbbaemijogeoaaReg
set_option linter.unusedSimpArgs false
set_option linter.unusedVariables false
namespace Go.Proofs.Ytnbbaemijogeoaa.Ae
open Go

def liteOp : Op → Bool
  | .move _ => true
  | .assign _ => true
  | .extract _ _ => true
  | _ => false
def isStore : Op → Bool
  | .store _ _ _ => true
  | _ => false
/-- waits for all ahead of it -/
def lateOper (k : Nat) (o : Oper) : Oper := ⟨o.dst, o.op, o.type, o.pos, o.after ++ ((List.range k).map fun j => (⟨j, .data⟩ : Edge)).toArray, o.guard⟩
def lateL (k : Nat) : Nat → List Oper → List Oper
  | _, [] => []
  | 0, o :: r => lateOper k o :: r
  | j + 1, o :: r => o :: lateL k j r
def late (k : Nat) (ops : Array Oper) : Array Oper := (lateL k k ops.toList).toArray
def lateOk (k : Nat) (ops : Array Oper) : Bool := match ops[k]? with
  | none => false
  | some ok => isStore ok.op && ok.dst.isNone && ok.guard.isNone && ((List.range k).all fun j => match ops[j]? with
      | some o => (clos ops k (onsOf ok)).contains j || (liteOp o.op && (match o.dst with | some d => !(ok.looksAt ops).contains d | none => false) && o.guard.isNone)
      | none => false) &&
    ((List.range ops.size).all fun j => match ops[j]? with
      | some o => (o.after.all fun e => !Region.binds .any e || decide (e.on < j)) && (decide (j ≤ k) || ((List.range (k + 1)).all fun i => (clos ops j (onsOf o)).contains i))
      | none => false)
section
variable {P : Program} {ops : Array Oper} {Q : Exit → Act → World → Prop} {k : Nat}

theorem lateL_get : ∀ (l : List Oper) (j i : Nat), (lateL k j l)[i]? = if i = j then (l[i]?).map (lateOper k) else l[i]?
  | [], j, i => by simp [lateL]
  | o :: r, 0, i => by
    cases i with
    | zero => simp [lateL]
    | succ i => simp [lateL]
  | o :: r, j + 1, i => by
    cases i with
    | zero => simp [lateL]
    | succ i => simp [lateL, lateL_get r j i]
theorem late_get (i : Nat) : (late k ops)[i]? = if i = k then (ops[i]?).map (lateOper k) else ops[i]? := by
  unfold late
  rw [List.getElem?_toArray, lateL_get]
  simp
theorem lateL_length : ∀ (l : List Oper) (j : Nat), (lateL k j l).length = l.length
  | [], _ => by simp [lateL]
  | o :: r, 0 => by simp [lateL]
  | o :: r, j + 1 => by simp [lateL, lateL_length r j]
theorem late_size : (late k ops).size = ops.size := by unfold late; simp [lateL_length]
theorem late_yielded (t : Array Value) : yielded (late k ops) t = yielded ops t := by
  have h : ∀ j, ((late k ops)[j]?).bind (fun o : Oper => o.dst) = (ops[j]?).bind (fun o : Oper => o.dst) := fun j => by
    rw [late_get]
    by_cases e : j = k
    · rw [if_pos e]; cases ops[j]? <;> rfl
    · rw [if_neg e]
  funext j
  unfold yielded
  rw [h]
theorem late_ready {listed : Array Bool} {i : Nat} (hi : i ≠ k) : i ∈ Region.ready .any (late k ops) listed ↔ i ∈ Region.ready .any ops listed := by
  rw [mem_ready, mem_ready, late_get, if_neg hi]
theorem late_ready_k {listed : Array Bool} (h : k ∈ Region.ready .any (late k ops) listed) : k ∈ Region.ready .any ops listed ∧ ∀ j, j < k → listed.getD j false = true := by
  obtain ⟨h1, o, h2, h3⟩ := mem_ready.1 h
  rw [late_get, if_pos rfl] at h2
  cases ho : ops[k]? with
  | none => rw [ho] at h2; cases h2
  | some o' =>
    rw [ho] at h2
    simp only [Option.map_some, Option.some.injEq] at h2
    subst h2
    refine ⟨mem_ready.2 ⟨h1, o', ho, fun e he hb => h3 e (by simp [lateOper, he]) hb⟩, fun j hj => ?_⟩
    exact h3 ⟨j, .data⟩ (by simp [lateOper, hj]) rfl
theorem late_ready_in {listed : Array Bool} (h : k ∈ Region.ready .any ops listed) (hj : ∀ j, j < k → listed.getD j false = true) : k ∈ Region.ready .any (late k ops) listed := by
  obtain ⟨h1, o, h2, h3⟩ := mem_ready.1 h
  refine mem_ready.2 ⟨h1, lateOper k o, by rw [late_get, if_pos rfl, h2]; rfl, fun e he hb => ?_⟩
  simp only [lateOper, Array.mem_append] at he
  rcases he with he | he
  · exact h3 e he hb
  · obtain ⟨j, hj', rfl⟩ := by simpa using he
    exact hj j hj'
theorem wpOp_late {i : Nat} (hi : i ≠ k) {K : Act → World → Prop} {a : Act} {w : World} : wpOp P (late k ops) Q i K a w ↔ wpOp P ops Q i K a w := by
  unfold wpOp
  rw [late_get, if_neg hi, late_yielded]
/-- all that is listed waits for what is listed -/
def Closed (ops : Array Oper) (listed : Array Bool) : Prop := ∀ j o, ops[j]? = some o → listed.getD j false = true → ∀ q, waits o q = true → listed.getD q false = true
theorem getD_set {l : Array Bool} {i j : Nat} (hi : i < l.size) : (l.setIfInBounds i true).getD j false = if j = i then true else l.getD j false := by
  by_cases e : j = i
  · subst e; simp [hi]
  · rw [if_neg e, getD_set_ne false (Ne.symm e)]
theorem ready_waits {listed : Array Bool} {i : Nat} (h : i ∈ Region.ready .any ops listed) : ∃ o, ops[i]? = some o ∧ ∀ q, waits o q = true → listed.getD q false = true := by
  obtain ⟨_, o, h2, h3⟩ := mem_ready.1 h
  exact ⟨o, h2, fun q hq => by obtain ⟨e, he, e1, e2⟩ := waits_iff.1 hq; subst e1; exact h3 e he e2⟩
theorem ready_lt {listed : Array Bool} {i : Nat} (h : i ∈ Region.ready .any ops listed) : i < ops.size ∧ listed.getD i true = false := by
  obtain ⟨h1, o, h2, _⟩ := mem_ready.1 h
  exact ⟨(Array.getElem?_eq_some_iff.1 h2).1, h1⟩
theorem Closed.set {listed : Array Bool} (hc : Closed ops listed) (hs : listed.size = ops.size) {i : Nat} (h : i ∈ Region.ready .any ops listed) : Closed ops (listed.setIfInBounds i true) := by
  intro j o ho hl q hq
  have hi : i < listed.size := by rw [hs]; exact (ready_lt h).1
  rw [getD_set hi] at hl ⊢
  split
  · rfl
  · by_cases e : j = i
    · subst e
      obtain ⟨o', ho', h3⟩ := ready_waits h
      rw [ho] at ho'; cases ho'
      exact h3 q hq
    · rw [if_neg e] at hl
      exact hc j o ho hl q hq
/-- once it is listed, there is no difference -/
theorem any_listed : ∀ (n : Nat) (listed : Array Bool) (a : Act) (w : World), listed.size = ops.size → listed.getD k false = true → wpAny P .any (late k ops) Q n listed a w → wpAny P .any ops Q n listed a w := by
  intro n
  have rd : ∀ listed : Array Bool, listed.size = ops.size → listed.getD k false = true → ∀ i, i ∈ Region.ready .any ops listed → i ≠ k := fun listed hs hk i hi e => by
    subst e
    have h := ready_lt hi
    have : i < listed.size := by rw [hs]; exact h.1
    simp [this] at hk h
    rw [hk] at h; simp at h
  have nl : ∀ listed : Array Bool, listed.size = ops.size → listed.getD k false = true → (Region.ready .any (late k ops) listed = [] ↔ Region.ready .any ops listed = []) := fun listed hs hk => by
    constructor
    · intro h
      rw [List.eq_nil_iff_forall_not_mem] at h ⊢
      intro i hi
      exact h i ((late_ready (rd listed hs hk i hi)).2 hi)
    · intro h
      rw [List.eq_nil_iff_forall_not_mem] at h ⊢
      intro i hi
      by_cases e : i = k
      · subst e; exact h i (late_ready_k hi).1
      · exact h i ((late_ready e).1 hi)
  induction n with
  | zero => intro listed a w hs hk h; exact ⟨(nl listed hs hk).1 h.1, h.2⟩
  | succ n ih =>
    intro listed a w hs hk h
    refine ⟨fun hn => h.1 ((nl listed hs hk).2 hn), fun i hi => ?_⟩
    have hik := rd listed hs hk i hi
    have hw := h.2 i ((late_ready hik).2 hi)
    rw [wpOp_late hik] at hw
    refine wpOp_mono (fun a w hh => ih _ a w (by simp [hs]) ?_ hh) hw
    rw [getD_set (by rw [hs]; exact (ready_lt hi).1)]
    split <;> first | rfl | exact hk
theorem lite_run {o : Oper} (h : liteOp o.op = true) {ρ : Operand → Value} {w : World} {r : Next} {w' : World} (hr : (execOp ρ o).run P w = .ok r w') : ∃ v, r = .value v ∧ w' = w ∧ ∀ w2, (execOp ρ o).run P w2 = .ok (.value v) w2 := by
  obtain ⟨dst, op, type, pos, after, guard⟩ := o
  cases op with
  | move x => simp only [execOp, Sem.run_pure] at hr ⊢; cases hr; exact ⟨_, rfl, rfl, fun _ => rfl⟩
  | assign x => simp only [execOp, Sem.run_pure] at hr ⊢; cases hr; exact ⟨_, rfl, rfl, fun _ => rfl⟩
  | extract t ix =>
    simp only [execOp, Instr.extract, Sem.run_bind] at hr ⊢
    cases hv : ρ t with
    | tuple vs =>
      rw [hv] at hr
      simp only at hr ⊢
      cases hx : vs[ix]? with
      | none => rw [hx] at hr; simp at hr
      | some v => rw [hx] at hr; simp at hr; obtain ⟨h1, h2⟩ := hr; subst h1 h2; exact ⟨v, rfl, rfl, fun _ => by simp⟩
    | _ => rw [hv] at hr; simp at hr
  | _ => cases h
structure Late (k : Nat) (ops : Array Oper) (ok : Oper) : Prop where
  at_ : ops[k]? = some ok
  op : isStore ok.op = true
  dst : ok.dst = none
  guard : ok.guard = none
  lt : ∀ j o, ops[j]? = some o → ∀ q, waits o q = true → q < j
  lite : ∀ j o, j < k → ops[j]? = some o → j ∈ clos ops k (onsOf ok) ∨ (liteOp o.op = true ∧ (∃ d, o.dst = some d ∧ d ∉ ok.looksAt ops) ∧ o.guard = none)
  rest : ∀ j o, k < j → ops[j]? = some o → ∀ i, i ≤ k → i ∈ clos ops j (onsOf o)
theorem late_of (h : lateOk k ops = true) : ∃ ok, Late k ops ok := by
  unfold lateOk at h
  split at h
  · cases h
  · rename_i ok hk
    simp only [Bool.and_eq_true, List.all_eq_true, List.mem_range] at h
    obtain ⟨⟨⟨⟨h1, h2⟩, h3⟩, h4⟩, h5⟩ := h
    refine ⟨ok, hk, h1, by simpa using h2, by simpa using h3, fun j o ho q hq => ?_, fun j o hj ho => ?_, fun j o hj ho i hi => ?_⟩
    · have h6 := h5 j (Array.getElem?_eq_some_iff.1 ho).1
      rw [ho] at h6
      simp only [Bool.and_eq_true] at h6
      obtain ⟨e, he, e1, e2⟩ := waits_iff.1 hq
      subst e1
      have := Array.all_eq_true_iff_forall_mem.1 h6.1 e he
      rw [e2] at this
      simpa using this
    · have h6 := h4 j hj
      rw [ho] at h6
      simp only [Bool.or_eq_true, Bool.and_eq_true] at h6
      rcases h6 with h6 | ⟨⟨h6, h7⟩, h8⟩
      · exact .inl (by simpa using h6)
      · refine .inr ⟨h6, ?_, by simpa using h8⟩
        cases hd : o.dst with
        | none => rw [hd] at h7; cases h7
        | some d => rw [hd] at h7; exact ⟨d, rfl, by simpa using h7⟩
    · have h6 := h5 j (Array.getElem?_eq_some_iff.1 ho).1
      rw [ho] at h6
      simp only [Bool.and_eq_true, Bool.or_eq_true, decide_eq_true_eq, List.all_eq_true, List.mem_range] at h6
      rcases h6.2 with h7 | h7
      · omega
      · simpa using h7 i (by omega)
theorem wpAny_pos {n : Nat} {listed : Array Bool} {a : Act} {w : World} {i : Nat} (hr : i ∈ Region.ready .any ops listed) (h : wpAny P .any ops Q n listed a w) : ∃ m, n = m + 1 := by
  cases n with
  | zero => rw [h.1] at hr; cases hr
  | succ m => exact ⟨m, rfl⟩
section
variable {ok : Oper}
theorem Late.closed_lt (L : Late k ops ok) {listed : Array Bool} (hc : Closed ops listed) {i : Nat} {o : Oper} (ho : ops[i]? = some o) (hw : ∀ q, waits o q = true → listed.getD q false = true) : ∀ j ∈ clos ops i (onsOf o), listed.getD j false = true :=
  clos_sub (nb := i) (fun j => listed.getD j false = true) (fun q o' _ hl ho' => hc q o' ho' hl) i (Nat.le_refl _) _ (fun q hq => hw q (onsOf_iff.1 hq))
/-- the least that is not listed is ready -/
theorem Late.least (L : Late k ops ok) {listed : Array Bool} (hs : listed.size = ops.size) {u : Nat} (hu : u < ops.size) (hul : listed.getD u false = false) : ∃ i, i ≤ u ∧ i ∈ Region.ready .any ops listed := by
  induction u using Nat.strongRecOn with
  | _ u ih =>
    obtain ⟨o, ho⟩ : ∃ o, ops[u]? = some o := ⟨_, Array.getElem?_eq_getElem hu⟩
    by_cases h : ∃ q, waits o q = true ∧ listed.getD q false = false
    · obtain ⟨q, hq, hql⟩ := h
      have hlt := L.lt u o ho q hq
      obtain ⟨i, hi, hr⟩ := ih q hlt (by omega) hql
      exact ⟨i, by omega, hr⟩
    · refine ⟨u, Nat.le_refl _, mem_ready.2 ⟨?_, o, ho, fun e he hb => ?_⟩⟩
      · have : u < listed.size := by omega
        simp [this] at hul ⊢; exact hul
      · cases hl : listed.getD e.on false with
        | true => rfl
        | false => exact absurd ⟨e.on, waits_iff.2 ⟨e, he, rfl, hb⟩, hl⟩ h
theorem set_set {l : Array Bool} {i j : Nat} : (l.setIfInBounds i true).setIfInBounds j true = (l.setIfInBounds j true).setIfInBounds i true := by
  by_cases e : i = j
  · subst e; rfl
  · exact Array.setIfInBounds_comm _ _ e
/-- it may be run as soon as it is ready -/
theorem Late.early (L : Late k ops ok) (hQ : ∀ e a w, Q e a w → e = .normal) : ∀ (n : Nat) (listed : Array Bool) (a : Act) (w : World), listed.size = ops.size → Closed ops listed → k ∈ Region.ready .any ops listed → wpAny P .any (late k ops) Q n listed a w →
    ∃ m r w', n = m + 1 ∧ (execOp a.eval ok).run P w = .ok r w' ∧ (r = .skip ∨ ∃ v, r = .value v) ∧ wpAny P .any ops Q m (listed.setIfInBounds k true) a w' := by
  intro n
  induction n with
  | zero =>
    intro listed a w hs hc hk h
    exfalso
    by_cases hall : ∀ j, j < k → listed.getD j false = true
    · have := late_ready_in hk hall
      rw [h.1] at this; cases this
    · have ⟨j, hj⟩ := Classical.not_forall.1 hall
      have ⟨hj1, hj2⟩ := Classical.not_imp.1 hj
      have hj2 : listed.getD j false = false := by simpa using hj2
      have hklt := (ready_lt hk).1
      obtain ⟨i, hi, hr⟩ := L.least hs (by omega : j < ops.size) hj2
      have := (late_ready (k := k) (by omega : i ≠ k)).2 hr
      rw [h.1] at this; cases this
  | succ n ih =>
    intro listed a w hs hc hk h
    have hklt := (ready_lt hk).1
    have hkun : listed.getD k false = false := by
      have h1 := (ready_lt hk).2
      have : k < listed.size := by omega
      simp [this] at h1 ⊢; exact h1
    by_cases hall : ∀ j, j < k → listed.getD j false = true
    · have hk' := late_ready_in hk hall
      have hw := h.2 k hk'
      unfold wpOp at hw
      rw [late_get, if_pos rfl, L.at_] at hw
      simp only [Option.map_some] at hw
      have hwant : Region.wanted (lateOper k ok) (yielded (late k ops) a.tmps) = true := by unfold Region.wanted lateOper; rw [L.guard]
      rw [if_pos hwant] at hw
      rcases hw with hw | ⟨_, a', w', ho⟩
      · unfold Oper.wp at hw
        have hex : execOp a.eval (lateOper k ok) = execOp a.eval ok := rfl
        rw [hex] at hw
        have hst : isStore ok.op = true := L.op
        generalize hrr : (execOp a.eval ok).run P w = res at hw ⊢
        cases res with
        | ok r w' =>
          have hput : ∀ v, a.put (lateOper k ok).dst v = a := fun v => by show a.put ok.dst v = a; rw [L.dst]; rfl
          cases r with
          | value v =>
            rw [Oper.upon_value, hput] at hw
            exact ⟨n, _, w', rfl, rfl, .inr ⟨v, rfl⟩, any_listed n _ a w' (by simp [hs]) (by rw [getD_set (by omega), if_pos rfl]) hw⟩
          | skip =>
            rw [Oper.upon_skip, hput] at hw
            exact ⟨n, _, w', rfl, rfl, .inl rfl, any_listed n _ a w' (by simp [hs]) (by rw [getD_set (by omega), if_pos rfl]) hw⟩
          | _ =>
            exfalso
            have : ∀ (s : Sem Unit) x, ((do s; pure .skip : Sem Next)).run P w = .ok x w' → x = .skip := fun s x hx => by
              rw [Sem.run_bind] at hx
              cases hs : s.run P w with
              | ok _ _ => rw [hs] at hx; simp at hx; exact hx.1.symm
              | halt _ _ => rw [hs] at hx; simp at hx
            cases hop : ok.op with
            | store t x v =>
              have hh := hrr
              unfold execOp at hh
              rw [hop] at hh
              have := this _ _ hh
              cases this
            | _ => rw [hop] at hst; cases hst
        | halt x w' =>
          exfalso
          cases x with
          | panic v => rw [Oper.upon_panic] at hw; have := hQ _ _ _ hw; cases this
          | _ => exact hw
      · have := hQ _ _ _ ho; cases this
    · have ⟨j, hj⟩ := Classical.not_forall.1 hall
      have ⟨hj1, hj2⟩ := Classical.not_imp.1 hj
      have hj2 : listed.getD j false = false := by simpa using hj2
      obtain ⟨i0, hi0, hr0⟩ := L.least hs (by omega : j < ops.size) hj2
      -- what is ready now is a move of slots
      have hcl := L.closed_lt hc L.at_ (by obtain ⟨o, ho, h3⟩ := ready_waits hk; rw [L.at_] at ho; cases ho; exact h3)
      have small : ∀ i, i ∈ Region.ready .any ops listed → i ≠ k → i < k ∧ ∃ o d, ops[i]? = some o ∧ liteOp o.op = true ∧ o.dst = some d ∧ d ∉ ok.looksAt ops ∧ o.guard = none := by
        intro i hi hik
        obtain ⟨o, ho, hw⟩ := ready_waits hi
        have hiun := (ready_lt hi)
        have hil : listed.getD i false = false := by
          have : i < listed.size := by omega
          have h2 := hiun.2
          simp [this] at h2 ⊢; exact h2
        rcases Nat.lt_or_ge i k with hlt | hge
        · refine ⟨hlt, ?_⟩
          rcases L.lite i o hlt ho with hh | ⟨h1, ⟨d, h2, h3⟩, h4⟩
          · rw [hcl i hh] at hil; cases hil
          · exact ⟨o, d, ho, h1, h2, h3, h4⟩
        · have := L.closed_lt hc ho hw k (L.rest i o (by omega) ho k (Nat.le_refl _))
          rw [this] at hkun; cases hkun
      -- one round: a move, in either world
      have round : ∀ i, i ∈ Region.ready .any ops listed → i ≠ k → ∃ m r w' o v, n = m + 1 ∧ (execOp a.eval ok).run P w = .ok r w' ∧ (r = .skip ∨ ∃ v, r = .value v) ∧ ops[i]? = some o ∧ o.guard = none ∧ (∀ w2, (execOp a.eval o).run P w2 = .ok (.value v) w2) ∧
          wpAny P .any ops Q m ((listed.setIfInBounds i true).setIfInBounds k true) (a.put o.dst v) w' := by
        intro i hi hik
        obtain ⟨hlt, o, d, ho, h1, h2, h3, h4⟩ := small i hi hik
        have hw := h.2 i ((late_ready hik).2 hi)
        rw [wpOp_late hik] at hw
        unfold wpOp at hw
        rw [ho] at hw
        simp only at hw
        rw [if_pos (by unfold Region.wanted; rw [h4])] at hw
        rcases hw with hw | ⟨_, a', w', hx⟩
        · unfold Oper.wp at hw
          generalize hrr : (execOp a.eval o).run P w = res at hw
          cases res with
          | ok r w1 =>
            obtain ⟨v, rfl, rfl, hall⟩ := lite_run h1 hrr
            rw [Oper.upon_value] at hw
            have hki : k ∈ Region.ready .any ops (listed.setIfInBounds i true) := by
              obtain ⟨c1, c2, c3, c4⟩ := mem_ready.1 hk
              refine mem_ready.2 ⟨?_, c2, c3, fun e he hb => ?_⟩
              · rw [getD_set_ne true hik]; exact c1
              · rw [getD_set (by have := (ready_lt hi).1; omega)]
                split
                · rfl
                · exact c4 e he hb
            obtain ⟨m, r, w', e1, e2, e3, e4⟩ := ih _ _ _ (by simp [hs]) (hc.set hs hi) hki hw
            refine ⟨m, r, w', o, v, e1, ?_, e3, ho, h4, hall, e4⟩
            rw [← e2, execOp_put ok (fun cs b he => by have := L.op; rw [he] at this; cases this) a o.dst v (fun d' hd' => by rw [h2] at hd'; cases hd'; exact h3)]
          | halt x w1 =>
            exfalso
            cases x with
            | panic v => rw [Oper.upon_panic] at hw; have := hQ _ _ _ hw; cases this
            | _ => exact hw
        · have := hQ _ _ _ hx; cases this
      obtain ⟨m, r, w', _, _, hn, hrun, hr, _⟩ := round i0 hr0 (by omega)
      refine ⟨n, r, w', rfl, hrun, hr, ?_⟩
      subst hn
      have hc' := hc.set hs hk
      refine ⟨fun hnil => ?_, fun i hi => ?_⟩
      · exfalso
        have : i0 ∈ Region.ready .any ops (listed.setIfInBounds k true) := by
          obtain ⟨c1, c2, c3, c4⟩ := mem_ready.1 hr0
          refine mem_ready.2 ⟨?_, c2, c3, fun e he hb => ?_⟩
          · rw [getD_set_ne true (by omega : k ≠ i0)]; exact c1
          · rw [getD_set (by omega)]
            split
            · rfl
            · exact c4 e he hb
        rw [hnil] at this; cases this
      · have hik : i ≠ k := fun e => by
          subst e
          have := (ready_lt hi).2
          have h2 : i < listed.size := by omega
          simp [h2] at this
        obtain ⟨o, ho, hw⟩ := ready_waits hi
        -- it does not wait for the store
        have hil : i < k := by
          rcases Nat.lt_or_ge i k with h1 | h1
          · exact h1
          · exfalso
            have := L.closed_lt hc' ho hw j (L.rest i o (by omega) ho j (by omega))
            rw [getD_set (by omega), if_neg (by omega)] at this
            rw [this] at hj2; cases hj2
        have hi' : i ∈ Region.ready .any ops listed := by
          obtain ⟨c1, c2, c3, c4⟩ := mem_ready.1 hi
          refine mem_ready.2 ⟨?_, c2, c3, fun e he hb => ?_⟩
          · rw [getD_set_ne true (Ne.symm hik)] at c1; exact c1
          · have := c4 e he hb
            rw [ho] at c3; cases c3
            have hlt := L.lt i o ho e.on (waits_iff.2 ⟨e, he, rfl, hb⟩)
            rw [getD_set (by omega), if_neg (by omega)] at this
            exact this
        obtain ⟨m', r', w'', o', v, hn', hrun', hr', ho', hg, hall, hgo⟩ := round i hi' hik
        rw [hrun] at hrun'
        cases hrun'
        rw [ho] at ho'; cases ho'
        obtain rfl : m = m' := by omega
        unfold wpOp
        rw [ho]
        simp only
        rw [if_pos (by unfold Region.wanted; rw [hg])]
        left
        unfold Oper.wp
        rw [hall w', Oper.upon_value, set_set]
        exact hgo
/-- a store that waits for some moves of slots, too, waits for nothing that matters -/
theorem Late.any (L : Late k ops ok) (hQ : ∀ e a w, Q e a w → e = .normal) : ∀ (n : Nat) (listed : Array Bool) (a : Act) (w : World), listed.size = ops.size → Closed ops listed → listed.getD k false = false → wpAny P .any (late k ops) Q n listed a w → wpAny P .any ops Q n listed a w := by
  intro n
  induction n with
  | zero =>
    intro listed a w hs hc hk h
    refine ⟨?_, h.2⟩
    rw [List.eq_nil_iff_forall_not_mem]
    intro i hi
    by_cases e : i = k
    · subst e
      obtain ⟨m, _, _, hm, _⟩ := L.early hQ 0 listed a w hs hc hi h
      omega
    · have := (late_ready e).2 hi
      rw [h.1] at this; cases this
  | succ n ih =>
    intro listed a w hs hc hk h
    refine ⟨fun hnil => h.1 ?_, fun i hi => ?_⟩
    · rw [List.eq_nil_iff_forall_not_mem] at hnil ⊢
      intro i hi
      by_cases e : i = k
      · subst e; exact hnil i (late_ready_k hi).1
      · exact hnil i ((late_ready e).1 hi)
    · by_cases e : i = k
      · subst e
        obtain ⟨m, r, w', hm, hrun, hr, hgo⟩ := L.early hQ (n + 1) listed a w hs hc hi h
        obtain rfl : n = m := by omega
        unfold wpOp
        rw [L.at_]
        simp only
        rw [if_pos (by unfold Region.wanted; rw [L.guard])]
        left
        unfold Oper.wp
        rw [hrun]
        have hput : ∀ v, a.put ok.dst v = a := fun v => by rw [L.dst]; rfl
        rcases hr with rfl | ⟨v, rfl⟩
        · rw [Oper.upon_skip, hput]; exact hgo
        · rw [Oper.upon_value, hput]; exact hgo
      · have hw := h.2 i ((late_ready e).2 hi)
        rw [wpOp_late e] at hw
        refine wpOp_mono (fun a w hh => ih _ a w (by simp [hs]) (hc.set hs hi) ?_ hh) hw
        rw [getD_set (by have := (ready_lt hi).1; omega), if_neg (Ne.symm e)]
        exact hk
end
end
end Go.Proofs.Ytnbbaemijogeoaa.Ae
