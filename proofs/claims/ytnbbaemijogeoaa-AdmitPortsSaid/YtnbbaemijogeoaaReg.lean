/- A region that draws its order: walked once, in the order of the text. Each operation hands back a value of which a fact is known that lasts while the world grows; it may lean on the facts of those operations alone that it waits for. No program in sight. -/
import Derived.Test.YtnbbaemijogeoaaMem
import Derived.Orders
import Derived.Tactics
namespace Go.Proofs.Ytnbbaemijogeoaa
open Go.RowKit

/-- A call that hands back a value of which R holds. -/
def CallsV (P : Program) (f : FuncId) (args : Array Value) (w : World) (R : Value → World → Prop) : Prop := Calls P f args w fun e w'' => ∃ v, e = .returned v ∧ R v w''
theorem CallsV.const {P : Program} {f : FuncId} {args : Array Value} {w : World} {c : Value} {S : World → Prop} (h : Calls P f args w fun e w' => e = .returned c ∧ S w') (hs : ∀ w', S w' → Ext w w') :
    CallsV P f args w fun v w' => Ext w w' ∧ v = c := h.mono fun _ w' ⟨he, h⟩ => ⟨c, he, hs w' h, rfl⟩
theorem CallsV.same {P : Program} {f : FuncId} {args : Array Value} {w : World} {c : Value} (h : Calls P f args w fun e w' => e = .returned c ∧ w = w') :
    CallsV P f args w fun v w' => Ext w w' ∧ v = c := h.mono fun _ _ ⟨he, h⟩ => ⟨c, he, h ▸ Ext.refl _, rfl⟩
theorem CallsV.below {P : Program} {f : FuncId} {args : Array Value} {w : World} {c : Value} (h : Calls P f args w fun e w' => e = .returned c ∧ Below w.heap.size w w') :
    CallsV P f args w fun v w' => Ext w w' ∧ v = c := h.mono fun _ _ ⟨he, h⟩ => ⟨c, he, h, rfl⟩
theorem CallsV.drew {P : Program} {f : FuncId} {args : Array Value} {w : World} {c : Value} (h : Calls P f args w fun e w' => e = .returned c ∧ Drew w w') :
    CallsV P f args w fun v w' => Ext w w' ∧ v = c := h.mono fun _ _ ⟨he, h⟩ => ⟨c, he, h.below _, rfl⟩
theorem CallsV.eff {P : Program} {f : FuncId} {args : Array Value} {w : World} {G : Value → World → Prop} {S : Ending → World → Prop} (h : Calls P f args w S) (k : ∀ e w', S e w' → ∃ v, e = .returned v ∧ Ext w w' ∧ G v w') :
    CallsV P f args w fun v w' => Ext w w' ∧ G v w' := h.mono fun e w' h => k e w' h

/-- What an operation comes to: a value of which R holds. -/
def givesUpon (P : Program) (R : Value → World → Prop) : Result Next → Prop
  | .ok (.value v) w' => R v w'
  | .ok .skip w' => R undef w'
  | .ok (.enter f args) w' => CallsV P f args w' R
  | _ => False
def gives (P : Program) (o : Oper) (a : Act) (w : World) (R : Value → World → Prop) : Prop := givesUpon P R ((execOp a.eval o).run P w)

theorem gives_wp {P : Program} {o : Oper} {a : Act} {w : World} {R : Value → World → Prop} {K : Act → World → Prop} {Q : Exit → Act → World → Prop}
    (h : gives P o a w R) (hk : ∀ v w', R v w' → K (a.put o.dst v) w') : o.wp P a w K Q := by
  unfold gives at h
  unfold Oper.wp
  generalize (execOp a.eval o).run P w = r at *
  cases r with
  | ok n w' =>
    cases n <;> simp only [givesUpon] at h <;> simp only [Oper.upon]
    case value u => exact hk _ _ h
    case skip => exact hk _ _ h
    case enter f args => exact Calls.mono h fun e w'' ⟨v, he, hr⟩ => by subst he; exact hk _ _ hr
  | halt x w' => simp only [givesUpon] at h

def dstOf (ops : Array Oper) (i : Nat) : Option Tmp := (ops[i]?).bind (·.dst)
def slotOf (a : Act) : Option Tmp → Value
  | some t => a.tmps.getD t undef
  | none => undef
def waits (o : Oper) (j : Nat) : Bool := o.after.toList.any fun e => e.on == j && Region.binds .any e

/-- The first 'nb' operations each write a slot of their own, wait only for earlier ones, and look only at slots of those that they wait for or at slots that none of them writes; the others wait for all of them. -/
def onsOf (o : Oper) : List Nat := (o.after.toList.filter fun e => Region.binds .any e).map (·.on)
/-- All that these wait for, straight or through others. -/
def clos (ops : Array Oper) : Nat → List Nat → List Nat
  | 0, S => S
  | k + 1, S => clos ops k (if S.contains k then (match ops[k]? with | some o => S ++ onsOf o | none => S) else S)
def factsOk (ops : Array Oper) (nb n : Nat) : Bool :=
  decide (nb ≤ ops.size) &&
  ((List.range nb).all fun i => match ops[i]? with
    | none => false
    | some o => (match o.op with | .select .. => false | _ => true) &&
      (match o.dst with | some d => decide (d < n) | none => false) &&
      ((List.range i).all fun j => dstOf ops j != o.dst) &&
      ((o.looksAt ops).all fun t => ((List.range i).any fun j => dstOf ops j == some t && waits o j) || ((List.range nb).all fun j => dstOf ops j != some t)) &&
      (o.after.all fun e => !Region.binds .any e || decide (e.on < i))) &&
  ((List.range (ops.size - nb)).all fun k => match ops[nb + k]? with
    | none => false
    | some o => let S := clos ops nb (onsOf o); (List.range nb).all fun j => S.contains j)

structure GoodG (G : Value → World → Prop) : Prop where
  stable : ∀ v w w', Ext w w' → G v w → G v w'
  some : ∃ v w, G v w
theorem GoodG.const (c : Value) : GoodG (fun v _ => v = c) := ⟨fun _ _ _ _ h => h, c, default, rfl⟩
def GoodAll : List (Value → World → Prop) → Prop
  | [] => True
  | G :: r => GoodG G ∧ GoodAll r
theorem GoodAll.get {Gs : List (Value → World → Prop)} (h : GoodAll Gs) : ∀ (j : Nat) G, Gs[j]? = some G → GoodG G := by
  induction Gs with
  | nil => intro j G hj; simp at hj
  | cons x r ih =>
    intro j G hj
    cases j with
    | zero => simp only [List.getElem?_cons_zero, Option.some.injEq] at hj; subst hj; exact h.1
    | succ j => simp only [List.getElem?_cons_succ] at hj; exact ih h.2 j G hj

section
variable (P : Program) (ops : Array Oper) (Q : Exit → Act → World → Prop) (w0 : World) (Kw : World → Prop) (Gs : List (Value → World → Prop))

/-- One operation, in the frame 'a'. -/
def Ob (i : Nat) (o : Oper) (a : Act) : Prop :=
  ∀ w, Ext w0 w → Kw w → (∀ j G, waits o j = true → Gs[j]? = some G → G (slotOf a (dstOf ops j)) w) →
    ∀ G, Gs[i]? = some G → if Region.wanted o (yielded ops a.tmps) then gives P o a w (fun v w' => Ext w w' ∧ G v w') else G undef w

def listedTo (n nb : Nat) : Array Bool := ((List.range n).map fun i => decide (i < nb)).toArray

/-- The walk in the order of the text. -/
def Txt : Nat → List Oper → Act → Prop
  | i, [], a => ∀ w, Ext w0 w → Kw w → (∀ j G, j < i → Gs[j]? = some G → G (slotOf a (dstOf ops j)) w) → wpList P ops Q (ops.toList.drop i) a w
  | i, o :: rest, a => Ob P ops w0 Kw Gs i o a ∧ ∀ v G, Gs[i]? = some G → (∃ w, G v w) → Txt (i + 1) rest (a.put o.dst v)
end

/-- From operation 'i' on they come up one behind the other. -/
def seqTail (ops : Array Oper) (i : Nat) : Bool :=
  ((List.range (ops.size - i)).all fun k => Region.ready .any ops (listedTo ops.size (i + k)) == [i + k]) && (Region.ready .any ops (listedTo ops.size ops.size) == [])

section
variable {P : Program} {ops : Array Oper} {Q : Exit → Act → World → Prop} {w0 : World} {Kw : World → Prop} {Gs : List (Value → World → Prop)}

theorem listedTo_succ (n i : Nat) : (listedTo n i).setIfInBounds i true = listedTo n (i + 1) := by
  apply Array.ext
  · simp [listedTo]
  · intro k h1 h2
    have hk : k < n := by simpa [listedTo] using h2
    by_cases e : i = k
    · subst e; simp [listedTo]
    · rw [Array.getElem_setIfInBounds_ne (by simpa [listedTo] using hk) e]
      simp only [listedTo, List.getElem_toArray, List.getElem_map, List.getElem_range]
      rw [decide_eq_decide]; omega

theorem any_of_seq : ∀ (m i : Nat), i + m = ops.size → seqTail ops i = true → ∀ a w, wpList P ops Q (ops.toList.drop i) a w → wpAny P .any ops Q m (listedTo ops.size i) a w
  | 0, i, hm, hs, a, w, h => by
    have e : i = ops.size := by omega
    subst e
    simp only [seqTail, Bool.and_eq_true] at hs
    rw [List.drop_of_length_le (by simp)] at h
    exact ⟨by simpa using hs.2, h⟩
  | m + 1, i, hm, hs, a, w, h => by
    have hs' := hs
    simp only [seqTail, Bool.and_eq_true, List.all_eq_true, List.mem_range, beq_iff_eq] at hs
    have hr : Region.ready .any ops (listedTo ops.size i) = [i] := by have := hs.1 0 (by omega); simpa using this
    have hs1 : seqTail ops (i + 1) = true := by
      simp only [seqTail, Bool.and_eq_true, List.all_eq_true, List.mem_range, beq_iff_eq]
      exact ⟨fun k hk => by have := hs.1 (k + 1) (by omega); rw [show i + 1 + k = i + (k + 1) from by omega]; exact this, hs.2⟩
    refine ⟨fun h0 => (by rw [hr] at h0; cases h0), fun j hj => ?_⟩
    rw [hr] at hj
    obtain rfl := List.mem_singleton.1 hj
    have hi : j < ops.size := by omega
    have ho : ops[j]? = some ops[j] := Array.getElem?_eq_getElem hi
    rw [List.drop_eq_getElem_cons (by simpa using hi)] at h
    rw [listedTo_succ]
    unfold wpOp
    rw [ho]
    simp only [wpList, Array.getElem_toList] at h ⊢
    split
    · rename_i hw
      rw [if_pos hw] at h
      exact h.imp (Oper.wp_mono fun a' w' h' => any_of_seq m (j + 1) (by omega) hs1 a' w' h') id
    · rename_i hw
      rw [if_neg hw] at h
      exact any_of_seq m (j + 1) (by omega) hs1 _ _ h

def fr (ops : Array Oper) (a0 : Act) (v : Nat → Value) : Nat → Act
  | 0 => a0
  | i + 1 => (fr ops a0 v i).put (dstOf ops i) (v i)

theorem put_size (a : Act) (d : Option Tmp) (v : Value) : (a.put d v).tmps.size = a.tmps.size := by
  cases d <;> simp [Act.put]
theorem put_defers (a : Act) (d : Option Tmp) (v : Value) : (a.put d v).defers = a.defers := by
  cases d <;> simp [Act.put]
theorem fr_size (a0 : Act) (v : Nat → Value) (i : Nat) : (fr ops a0 v i).tmps.size = a0.tmps.size := by
  induction i with
  | zero => rfl
  | succ i ih => rw [fr, put_size, ih]
theorem fr_defers (a0 : Act) (v : Nat → Value) (i : Nat) : (fr ops a0 v i).defers = a0.defers := by
  induction i with
  | zero => rfl
  | succ i ih => rw [fr, put_defers, ih]
theorem put_get_ne (a : Act) (d : Option Tmp) (v : Value) (t : Nat) (h : d ≠ some t) : (a.put d v).tmps[t]? = a.tmps[t]? := by
  cases d with
  | none => rfl
  | some d =>
    have : d ≠ t := fun e => h (by rw [e])
    simp [Act.put, Array.getElem?_setIfInBounds_ne this]
theorem put_get_eq (a : Act) (v : Value) (t : Nat) (h : t < a.tmps.size) : (a.put (some t) v).tmps[t]? = some v := by
  simp [Act.put, h]

theorem fr_other (a0 : Act) (v : Nat → Value) (i t : Nat) (h : ∀ j, j < i → dstOf ops j ≠ some t) : (fr ops a0 v i).tmps[t]? = a0.tmps[t]? := by
  induction i with
  | zero => rfl
  | succ i ih =>
    rw [fr, put_get_ne _ _ _ _ (h i (Nat.lt_succ_self i)), ih fun j hj => h j (Nat.lt_succ_of_lt hj)]
theorem fr_own (a0 : Act) (v : Nat → Value) (i j t : Nat) (hj : j < i) (hd : dstOf ops j = some t) (ht : t < a0.tmps.size) (hne : ∀ k, k < i → j < k → dstOf ops k ≠ some t) : (fr ops a0 v i).tmps[t]? = some (v j) := by
  induction i with
  | zero => omega
  | succ i ih =>
    rw [fr]
    by_cases h : j = i
    · subst h
      rw [hd, put_get_eq _ _ _ (by rw [fr_size]; exact ht)]
    · rw [put_get_ne _ _ _ _ (hne i (Nat.lt_succ_self i) (by omega))]
      exact ih (by omega) fun k hk hjk => hne k (by omega) hjk

structure Facts (ops : Array Oper) (nb n : Nat) : Prop where
  le : nb ≤ ops.size
  op : ∀ i, i < nb → ∃ o d, ops[i]? = some o ∧ o.dst = some d ∧ d < n ∧ (∀ cs b, o.op ≠ .select cs b) ∧ (∀ j, j < i → dstOf ops j ≠ some d) ∧
    (∀ t ∈ o.looksAt ops, (∃ j, j < i ∧ dstOf ops j = some t ∧ waits o j = true) ∨ ∀ j, j < nb → dstOf ops j ≠ some t) ∧ (∀ e ∈ o.after, Region.binds .any e = true → e.on < i)
  tail : ∀ i o, nb ≤ i → ops[i]? = some o → ∀ L : Nat → Prop, (∀ j, waits o j = true → L j) → (∀ k o', k < nb → L k → ops[k]? = some o' → ∀ j, waits o' j = true → L j) → ∀ j, j < nb → L j

theorem onsOf_iff {o : Oper} {j : Nat} : j ∈ onsOf o ↔ waits o j = true := by
  unfold onsOf waits
  simp only [List.mem_map, List.mem_filter, List.any_eq_true, Bool.and_eq_true, beq_iff_eq]
  constructor
  · rintro ⟨e, ⟨h1, h2⟩, h3⟩; exact ⟨e, h1, h3, h2⟩
  · rintro ⟨e, h1, h3, h2⟩; exact ⟨e, ⟨h1, h2⟩, h3⟩
theorem clos_sub {nb : Nat} (L : Nat → Prop) (hc : ∀ k o', k < nb → L k → ops[k]? = some o' → ∀ j, waits o' j = true → L j) :
    ∀ (k : Nat), k ≤ nb → ∀ S, (∀ j ∈ S, L j) → ∀ j ∈ clos ops k S, L j
  | 0, _, S, h, j, hj => h j hj
  | k + 1, hk, S, h, j, hj => by
    unfold clos at hj
    refine clos_sub L hc k (by omega) _ ?_ j hj
    intro q hq
    split at hq
    · rename_i hS
      split at hq
      · rename_i o ho
        rcases List.mem_append.1 hq with hq | hq
        · exact h q hq
        · exact hc k o (by omega) (h k (by simpa using hS)) ho q (onsOf_iff.1 hq)
      · exact h q hq
    · exact h q hq

theorem facts_of {nb n : Nat} (h : factsOk ops nb n = true) : Facts ops nb n := by
  unfold factsOk at h
  simp only [Bool.and_eq_true, decide_eq_true_eq, List.all_eq_true, List.mem_range] at h
  obtain ⟨⟨h1, h2⟩, h3⟩ := h
  refine ⟨h1, fun i hi => ?_, fun i o hi ho L hL hc j hj => ?_⟩
  · have h4 := h2 i hi
    cases ho : ops[i]? with
    | none => rw [ho] at h4; simp at h4
    | some o =>
      rw [ho] at h4
      simp only [Bool.and_eq_true, List.all_eq_true, List.mem_range, Bool.or_eq_true, List.any_eq_true] at h4
      obtain ⟨⟨⟨⟨h5, h6⟩, h7⟩, h8⟩, h9⟩ := h4
      cases hd : o.dst with
      | none => rw [hd] at h6; simp at h6
      | some d =>
        rw [hd] at h6
        refine ⟨o, d, rfl, hd, by simpa using h6, fun cs b hs => by rw [hs] at h5; simp at h5, fun j hj e => ?_, fun t ht => ?_, fun e he hb => ?_⟩
        · have := h7 j hj; rw [hd, e] at this; simp at this
        · rcases h8 t ht with ⟨j, hj, h10⟩ | h10
          · exact .inl ⟨j, by simpa using hj, by simpa using h10.1, h10.2⟩
          · exact .inr fun j hj e => by have := h10 j hj; rw [e] at this; simp at this
        · obtain ⟨q, hq, he'⟩ := Array.mem_iff_getElem.1 he
          have := Array.all_eq_true.1 h9 q hq
          rw [he', hb] at this
          simpa using this
  · have hlt : i < ops.size := (Array.getElem?_eq_some_iff.1 ho).1
    have h4 := h3 (i - nb) (by omega)
    rw [show nb + (i - nb) = i from by omega, ho] at h4
    simp only [List.all_eq_true, List.mem_range] at h4
    exact clos_sub L hc nb (Nat.le_refl _) _ (fun q hq => hL q (onsOf_iff.1 hq)) j (by simpa using h4 j hj)

theorem waits_iff {o : Oper} {j : Nat} : waits o j = true ↔ ∃ e ∈ o.after, e.on = j ∧ Region.binds .any e = true := by
  unfold waits
  rw [List.any_eq_true]
  simp

theorem getD_eq {α : Type} {a b : Array α} {t : Nat} {x : α} (h : a[t]? = b[t]?) : a.getD t x = b.getD t x := by
  simp [h]

/-- An operation that looks at slots that are the same does the same. -/
theorem gives_congr {o : Oper} {a a' : Act} {w : World} {R : Value → World → Prop} (hs : ∀ cs b, o.op ≠ .select cs b) (h : ∀ t ∈ o.looksAt ops, a.tmps[t]? = a'.tmps[t]?)
    (hg : gives P o a w R) : gives P o a' w R := by
  unfold gives at *
  have e : execOp a'.eval o = execOp a.eval o := execOp_congr o hs fun x hx => by
    cases x with
    | tmp t =>
      have hm : t ∈ o.looksAt ops := List.mem_append_left _ (List.mem_filterMap.2 ⟨.tmp t, by simpa using hx, rfl⟩)
      simp only [Act.eval]
      exact (getD_eq (h t hm)).symm
    | const v => rfl
    | global g => rfl
    | func f => rfl
  rw [e]; exact hg
theorem wanted_congr {o : Oper} {a a' : Act} (h : ∀ t ∈ o.looksAt ops, a.tmps[t]? = a'.tmps[t]?) : Region.wanted o (yielded ops a.tmps) = Region.wanted o (yielded ops a'.tmps) := by
  unfold Region.wanted
  cases hg : o.guard with
  | none => rfl
  | some gw =>
    obtain ⟨g, want⟩ := gw
    simp only
    have : yielded ops a.tmps g = yielded ops a'.tmps g := by
      unfold yielded
      cases hd : (ops[g]?).bind (·.dst) with
      | none => rfl
      | some d =>
        have hm : d ∈ o.looksAt ops := by
          simp [Oper.looksAt, hg, hd]
        simp only [Option.bind_some]
        rw [h d hm]
    rw [this]

/-- What the walk in the order of the text shows, whatever values the operations hand back. -/
theorem txt_obs {a0 : Act} (v : Nat → Value) (nb : Nat) (hlen : Gs.length = nb) (hv : ∀ (j : Nat) (G : Value → World → Prop), Gs[j]? = some G → ∃ w, G (v j) w) :
    ∀ (l : List Oper) (i : Nat), (∀ j, l[j]? = if i + j < nb then ops[i + j]? else none) → i ≤ nb → Txt P ops Q w0 Kw Gs i l (fr ops a0 v i) →
      (∀ k o, i ≤ k → k < nb → ops[k]? = some o → Ob P ops w0 Kw Gs k o (fr ops a0 v k)) ∧ (nb ≤ ops.size → Txt P ops Q w0 Kw Gs nb [] (fr ops a0 v nb))
  | [], i, hl, hi, h => by
    by_cases e : i = nb
    · subst e
      exact ⟨fun k o h1 h2 => by omega, fun _ => h⟩
    · have h0 := hl 0
      have hlt : i < nb := by omega
      simp [hlt] at h0
      refine ⟨fun k o h1 h2 ho => ?_, fun hle => ?_⟩
      · have := (Array.getElem?_eq_some_iff.1 ho).1
        omega
      · omega
  | o :: l, i, hl, hi, h => by
    have h0 := hl 0
    have hlt : i < nb := by
      by_cases e : i < nb
      · exact e
      · simp [e] at h0
    simp [hlt] at h0
    obtain ⟨h1, h2⟩ := h
    obtain ⟨G, hG⟩ : ∃ G, Gs[i]? = some G := ⟨_, List.getElem?_eq_getElem (by omega)⟩
    have hd : dstOf ops i = o.dst := by unfold dstOf; rw [← h0]; rfl
    have h3 := h2 (v i) G hG (hv i G hG)
    rw [← hd] at h3
    obtain ⟨h4, h5⟩ := txt_obs v nb hlen hv l (i + 1) (fun j => by have := hl (j + 1); simpa [Nat.add_assoc, Nat.add_comm 1 j] using this) (by omega) h3
    refine ⟨fun k o' hk1 hk2 ho => ?_, h5⟩
    by_cases e : k = i
    · subst e
      rw [← h0] at ho
      cases ho
      exact h1
    · exact h4 k o' (by omega) hk2 ho

structure Inv (ops : Array Oper) (nb : Nat) (Gs : List (Value → World → Prop)) (a0 : Act) (w0 : World) (Kw : World → Prop) (listed : Array Bool) (a : Act) (w : World) : Prop where
  ext : Ext w0 w
  kw : Kw w
  size : listed.size = ops.size
  defers : a.defers = a0.defers
  tsize : a.tmps.size = a0.tmps.size
  init : ∀ t, (∀ i, i < nb → listed.getD i false = true → dstOf ops i ≠ some t) → a.tmps[t]? = a0.tmps[t]?
  facts : ∀ i G, i < nb → listed.getD i false = true → Gs[i]? = some G → G (slotOf a (dstOf ops i)) w
  tail : ∀ i, nb ≤ i → listed.getD i false = false
  closed : ∀ k o, k < nb → listed.getD k false = true → ops[k]? = some o → ∀ j, waits o j = true → listed.getD j false = true

open Classical in
theorem any_of_txt {a0 : Act} {nb : Nat} (hf : Facts ops nb a0.tmps.size) (hlen : Gs.length = nb) (hgood : GoodAll Gs) (hseq : seqTail ops nb = true) (hK : ∀ w, Ext w0 w → Kw w) (ht : Txt P ops Q w0 Kw Gs 0 (ops.toList.take nb) a0) :
    ∀ (m : Nat) (listed : Array Bool) (a : Act) (w : World), Inv ops nb Gs a0 w0 Kw listed a w → ((List.range nb).filter fun i => !listed.getD i false).length = m →
      wpAny P .any ops Q (m + (ops.size - nb)) listed a w := by
  have hl0 : ∀ j, (ops.toList.take nb)[j]? = if 0 + j < nb then ops[0 + j]? else none := fun j => by
    rw [List.getElem?_take]; simp
  have pick : ∀ (j : Nat), ∃ v, ∀ (G : Value → World → Prop), Gs[j]? = some G → ∃ w, G v w := fun j => by
    cases hG : Gs[j]? with
    | none => exact ⟨undef, fun G h => by cases h⟩
    | some G =>
      obtain ⟨v, w, h⟩ := (hgood.get j G hG).some
      exact ⟨v, fun G' h' => by cases h'; exact ⟨w, h⟩⟩
  have dist : ∀ j k t, j < nb → k < nb → j ≠ k → dstOf ops j = some t → dstOf ops k ≠ some t := by
    intro j k t hj hk hne h1 h2
    rcases Nat.lt_or_gt_of_ne hne with h | h
    · obtain ⟨o, d, ho, hd, _, _, h3, _⟩ := hf.op k hk
      have : dstOf ops k = some d := by unfold dstOf; rw [ho]; exact hd
      rw [this] at h2
      exact h3 j h (by rw [h1, ← h2])
    · obtain ⟨o, d, ho, hd, _, _, h3, _⟩ := hf.op j hj
      have : dstOf ops j = some d := by unfold dstOf; rw [ho]; exact hd
      rw [this] at h1
      exact h3 k h (by rw [h2, ← h1])
  have dlt : ∀ j t, j < nb → dstOf ops j = some t → t < a0.tmps.size := by
    intro j t hj h
    obtain ⟨o, d, ho, hd, h1, _⟩ := hf.op j hj
    have : dstOf ops j = some d := by unfold dstOf; rw [ho]; exact hd
    rw [this] at h
    cases h
    exact h1
  intro m
  induction m with
  | zero =>
    intro listed a w hI hm
    have hall : ∀ i, i < nb → listed.getD i false = true := by
      intro i hi
      have : ((List.range nb).filter fun i => !listed.getD i false) = [] := List.length_eq_zero_iff.1 hm
      have h1 := List.filter_eq_nil_iff.1 this i (List.mem_range.2 hi)
      simpa using h1
    let v : Nat → Value := fun j => if j < nb then slotOf a (dstOf ops j) else Classical.choose (pick j)
    have hv : ∀ (j : Nat) (G : Value → World → Prop), Gs[j]? = some G → ∃ w, G (v j) w := fun j G hG => by
      have hj : j < nb := by rw [← hlen]; exact (List.getElem?_eq_some_iff.1 hG).1
      refine ⟨w, ?_⟩
      simp only [v, hj, if_true]
      exact hI.facts j G hj (hall j hj) hG
    have hfin := (txt_obs v nb hlen hv _ 0 hl0 (Nat.zero_le _) ht).2 hf.le
    have hfr : fr ops a0 v nb = a := by
      have e1 : (fr ops a0 v nb).tmps = a.tmps := by
        apply Array.ext
        · rw [fr_size, hI.tsize]
        · intro t h1 h2
          have : (fr ops a0 v nb).tmps[t]? = a.tmps[t]? := by
            by_cases hw : ∃ j, j < nb ∧ dstOf ops j = some t
            · obtain ⟨j, hj, hd⟩ := hw
              rw [fr_own a0 v nb j t hj hd (dlt j t hj hd) (fun k hk hjk => dist j k t hj hk (by omega) hd)]
              simp only [v, hj, if_true, hd, slotOf]
              rw [Array.getElem?_eq_getElem h2]
              simp [h2]
            · have hno : ∀ j, j < nb → dstOf ops j ≠ some t := fun j hj e => hw ⟨j, hj, e⟩
              rw [fr_other a0 v nb t hno, hI.init t fun i hi _ => hno i hi]
          rw [Array.getElem?_eq_getElem h1, Array.getElem?_eq_getElem h2] at this
          exact Option.some.inj this
      have e2 : (fr ops a0 v nb).defers = a.defers := by rw [fr_defers, hI.defers]
      generalize fr ops a0 v nb = x at e1 e2
      cases x; cases a; simp only at e1 e2; rw [e1, e2]
    rw [hfr] at hfin
    have hli : listed = listedTo ops.size nb := by
      apply Array.ext
      · simp [listedTo, hI.size]
      · intro i h1 h2
        simp only [listedTo, List.getElem_toArray, List.getElem_map, List.getElem_range]
        by_cases h : i < nb
        · have := hall i h
          simp [h1] at this
          simp [this, h]
        · have := hI.tail i (by omega)
          simp [h1] at this
          simp [this, h]
    rw [Nat.zero_add, hli]
    exact any_of_seq _ nb (by have := hf.le; omega) hseq a w (hfin w hI.ext hI.kw fun j G hj hG => hI.facts j G hj (hall j hj) hG)
  | succ m ih =>
    intro listed a w hI hm
    -- the first one that has not come up may come up
    have hex : ∃ i, i < nb ∧ listed.getD i false = false := by
      cases hF : ((List.range nb).filter fun i => !listed.getD i false) with
      | nil => rw [hF] at hm; simp at hm
      | cons x r =>
        have : x ∈ ((List.range nb).filter fun i => !listed.getD i false) := by rw [hF]; exact List.mem_cons_self ..
        rw [List.mem_filter, List.mem_range] at this
        exact ⟨x, this.1, by simpa using this.2⟩
    obtain ⟨i0, hi0, hmin⟩ : ∃ i, (i < nb ∧ listed.getD i false = false) ∧ ∀ j, j < i → ¬ (j < nb ∧ listed.getD j false = false) := by
      obtain ⟨i, hi⟩ := hex
      induction i using Nat.strongRecOn with
      | _ i ihh =>
        by_cases h : ∃ j, j < i ∧ (j < nb ∧ listed.getD j false = false)
        · obtain ⟨j, hj, hj2⟩ := h
          exact ihh j hj hj2
        · exact ⟨i, hi, fun j hj hj2 => h ⟨j, hj, hj2⟩⟩
    have getD_tf : ∀ i, i < ops.size → listed.getD i true = listed.getD i false := fun i hi => by
      have : i < listed.size := by rw [hI.size]; exact hi
      simp [this]
    have hready0 : i0 ∈ Region.ready .any ops listed := by
      obtain ⟨o, d, ho, _, _, _, _, _, haf⟩ := hf.op i0 hi0.1
      refine mem_ready.2 ⟨by rw [getD_tf i0 (by have := hf.le; omega)]; exact hi0.2, o, ho, fun e he hb => ?_⟩
      have h1 := haf e he hb
      have h2 := hmin e.on h1
      cases h3 : listed.getD e.on false with
      | true => rfl
      | false => exact absurd ⟨by omega, h3⟩ h2
    rw [show m + 1 + (ops.size - nb) = (m + (ops.size - nb)) + 1 from by omega]
    refine ⟨fun h => (by rw [h] at hready0; cases hready0), fun i hi => ?_⟩
    obtain ⟨hiun, o, ho, hpre⟩ := mem_ready.1 hi
    have hisz : i < ops.size := (Array.getElem?_eq_some_iff.1 ho).1
    have hinb : i < nb := by
      by_cases h : i < nb
      · exact h
      · have := hf.tail i o (by omega) ho (fun j => listed.getD j false = true) (fun j hj => by
          obtain ⟨e, he, he1, he2⟩ := waits_iff.1 hj
          subst he1; exact hpre e he he2) hI.closed i0 hi0.1
        rw [hi0.2] at this
        cases this
    obtain ⟨o', d, ho', hd, hdn, hsel, hdist, hlooks, haf⟩ := hf.op i hinb
    rw [ho] at ho'
    cases ho'
    have hdst : dstOf ops i = some d := by unfold dstOf; rw [ho]; exact hd
    have hwl : ∀ j, waits o j = true → j < i ∧ listed.getD j false = true := fun j hj => by
      obtain ⟨e, he, he1, he2⟩ := waits_iff.1 hj
      subst he1
      exact ⟨haf e he he2, hpre e he he2⟩
    let v : Nat → Value := fun j => if j < nb ∧ listed.getD j false = true then slotOf a (dstOf ops j) else Classical.choose (pick j)
    have hv : ∀ (j : Nat) (G : Value → World → Prop), Gs[j]? = some G → ∃ w, G (v j) w := fun j G hG => by
      have hj : j < nb := by rw [← hlen]; exact (List.getElem?_eq_some_iff.1 hG).1
      by_cases h : listed.getD j false = true
      · refine ⟨w, ?_⟩
        simp only [v, hj, h, and_self, if_true]
        exact hI.facts j G hj h hG
      · have e : v j = Classical.choose (pick j) := if_neg fun h' => h h'.2
        rw [e]
        exact Classical.choose_spec (pick j) G hG
    have hob := (txt_obs v nb hlen hv _ 0 hl0 (Nat.zero_le _) ht).1 i o (Nat.zero_le _) hinb ho
    have agree : ∀ t ∈ o.looksAt ops, (fr ops a0 v i).tmps[t]? = a.tmps[t]? := fun t ht' => by
      rcases hlooks t ht' with ⟨j, hj, hjd, hjw⟩ | hno
      · have hjl := (hwl j hjw).2
        rw [fr_own a0 v i j t hj hjd (dlt j t (by omega) hjd) (fun k hk hjk => dist j k t (by omega) (by omega) (by omega) hjd)]
        have hjn : j < nb := by omega
        simp only [v, hjn, hjl, and_self, if_true, hjd, slotOf]
        have : t < a.tmps.size := by rw [hI.tsize]; exact dlt j t hjn hjd
        simp [this]
      · rw [fr_other a0 v i t fun j hj => hno j (by omega), hI.init t fun k hk _ => hno k hk]
    obtain ⟨G, hG⟩ : ∃ G, Gs[i]? = some G := ⟨_, List.getElem?_eq_getElem (by omega)⟩
    have hob' := hob w hI.ext hI.kw (fun j G' hjw hG' => by
      obtain ⟨hj, hjl⟩ := hwl j hjw
      have hjn : j < nb := by omega
      have hfact := hI.facts j G' hjn hjl hG'
      obtain ⟨oj, dj, hoj, hdj, _⟩ := hf.op j hjn
      have hdj' : dstOf ops j = some dj := by unfold dstOf; rw [hoj]; exact hdj
      have : slotOf (fr ops a0 v i) (dstOf ops j) = slotOf a (dstOf ops j) := by
        rw [hdj']
        unfold slotOf
        refine getD_eq ?_
        rw [fr_own a0 v i j dj hj hdj' (dlt j dj hjn hdj') (fun k hk hjk => dist j k dj hjn (by omega) (by omega) hdj')]
        simp only [v, hjn, hjl, and_self, if_true, hdj', slotOf]
        have : dj < a.tmps.size := by rw [hI.tsize]; exact dlt j dj hjn hdj'
        simp [this]
      rw [this]; exact hfact) G hG
    -- what is left behind this one
    have hnext : ∀ u w', Ext w w' → G u w' → wpAny P .any ops Q (m + (ops.size - nb)) (listed.setIfInBounds i true) (a.put o.dst u) w' := by
      intro u w' hx hGu
      have hil : i < listed.size := by rw [hI.size]; exact hisz
      have hif : listed.getD i false = false := by rw [← getD_tf i hisz]; exact hiun
      have hset : ∀ j, (listed.setIfInBounds i true).getD j false = if j = i then true else listed.getD j false := fun j => by
        by_cases e : j = i
        · subst e; simp [hil]
        · rw [if_neg e, getD_set_ne false (Ne.symm e)]
      refine ih _ _ _ ⟨hI.ext.trans hx, hK _ (hI.ext.trans hx), by simp [hI.size], by rw [put_defers, hI.defers], by rw [put_size, hI.tsize], fun t hno => ?_, fun j G' hj hjl hG' => ?_, fun j hj => ?_, fun k ok hk hkl hok j hj => ?_⟩ ?_
      · rw [hd, put_get_ne _ _ _ _ (fun e => hno i hinb (by rw [hset, if_pos rfl]) (by rw [hdst, e]))]
        refine hI.init t fun k hk hkl => hno k hk ?_
        rw [hset]
        by_cases e : k = i
        · rw [if_pos e]
        · rw [if_neg e]; exact hkl
      · by_cases e : j = i
        · subst e
          rw [hG] at hG'
          cases hG'
          rw [hdst, hd]
          have : slotOf (a.put (some d) u) (some d) = u := by
            unfold slotOf
            have h1 := put_get_eq a u d (by rw [hI.tsize]; exact hdn)
            simp [h1]
          rw [this]; exact hGu
        · rw [hset, if_neg e] at hjl
          have hfact := hI.facts j G' hj hjl hG'
          obtain ⟨oj, dj, hoj, hdj, _⟩ := hf.op j hj
          have hdj' : dstOf ops j = some dj := by unfold dstOf; rw [hoj]; exact hdj
          have : slotOf (a.put o.dst u) (dstOf ops j) = slotOf a (dstOf ops j) := by
            rw [hdj', hd]
            unfold slotOf
            refine getD_eq (put_get_ne _ _ _ _ fun h => ?_)
            exact dist j i dj hj hinb e hdj' (by rw [hdst, h])
          rw [this]
          exact (hgood.get j G' hG').stable _ _ _ hx hfact
      · rw [hset, if_neg (by omega)]; exact hI.tail j hj
      · rw [hset]
        by_cases e : j = i
        · rw [if_pos e]
        · rw [if_neg e]
          by_cases e2 : k = i
          · subst e2
            rw [ho] at hok
            cases hok
            exact (hwl j hj).2
          · rw [hset, if_neg e2] at hkl
            exact hI.closed k ok hk hkl hok j hj
      · have hcount : ∀ (l : List Nat), i ∈ l → l.Nodup → (l.filter fun j => !(listed.setIfInBounds i true).getD j false).length + 1 = (l.filter fun j => !listed.getD j false).length := by
          intro l
          induction l with
          | nil => intro h; cases h
          | cons x r ihl =>
            intro hmem hnd
            rw [List.nodup_cons] at hnd
            rcases List.mem_cons.1 hmem with e | e
            · subst e
              have hr : (r.filter fun j => !(listed.setIfInBounds i true).getD j false) = r.filter fun j => !listed.getD j false := by
                apply List.filter_congr
                intro j hj
                rw [hset, if_neg fun e => hnd.1 (by rw [← e]; exact hj)]
              have a1 : (!(listed.setIfInBounds i true).getD i false) = false := by rw [hset, if_pos rfl]; rfl
              have a2 : (!listed.getD i false) = true := by rw [hif]; rfl
              simp only [List.filter_cons, a1, a2, hr, if_true, if_false, Bool.false_eq_true, List.length_cons]
            · have hxi : x ≠ i := fun h => hnd.1 (h ▸ e)
              have h1 := ihl e hnd.2
              rw [List.filter_cons, List.filter_cons, hset, if_neg hxi]
              cases listed.getD x false <;> simp at h1 ⊢ <;> omega
        have := hcount (List.range nb) (List.mem_range.2 hinb) List.nodup_range
        omega
    unfold wpOp
    rw [ho]
    simp only
    rw [wanted_congr agree] at hob'
    split
    · rename_i hw
      rw [if_pos hw] at hob'
      exact .inl (gives_wp (gives_congr hsel agree hob') fun u w' ⟨hx, hGu⟩ => hnext u w' hx hGu)
    · rename_i hw
      rw [if_neg hw] at hob'
      exact hnext undef w (Ext.refl w) hob'

/-- THE REGION. -/
theorem wp_region_facts {id : Nat} {l : List Oper} {a : Act} {w : World} (nb : Nat) (Kw : World → Prop) (Gs : List (Value → World → Prop)) (hm : P.follows .mixedOrders = true)
    (hok : factsOk l.toArray nb a.tmps.size = true) (hseq : seqTail l.toArray nb = true) (hlen : Gs.length = nb) (hK : ∀ w', Ext w w' → Kw w') (ht : Txt P l.toArray Q w Kw Gs 0 (l.take nb) a) (hgood : GoodAll Gs) :
    (Code.region id l.toArray true).wp P Q a w := by
  refine wp_region_any hm ?_
  have hf := facts_of hok
  have hrep : ∀ i, (Array.replicate l.toArray.size false).getD i false = false := fun i => by
    rw [Array.getD_eq_getD_getElem?, Array.getElem?_replicate]; split <;> rfl
  have h := any_of_txt (P := P) (Q := Q) (w0 := w) (Kw := Kw) hf hlen hgood hseq hK (by simpa using ht) nb (Array.replicate l.toArray.size false) a { w with drawn := w.drawn + 1 }
    { ext := (Ext.refl w).drew, kw := hK _ (Ext.refl w).drew, size := by simp, defers := rfl, tsize := rfl, init := fun t _ => rfl,
      facts := fun i G hi hl => (by rw [hrep i] at hl; cases hl), tail := fun i hi => hrep i, closed := fun k o hk hl => (by rw [hrep k] at hl; cases hl) }
    (by
      have : ∀ (r : List Nat), (r.filter fun i => !(Array.replicate l.toArray.size false).getD i false) = r := fun r => by
        apply List.filter_eq_self.2
        intro i _
        rw [hrep i]; rfl
      rw [this]; simp)
  have e : nb + (l.toArray.size - nb) = l.toArray.size := by have := hf.le; omega
  rw [e] at h
  exact h


/-- There are so many facts .. -/
def ExG : Nat → (List (Value → World → Prop) → Prop) → Prop
  | 0, p => p []
  | n + 1, p => ∃ G, ExG n fun l => p (G :: l)
theorem ExG.get : ∀ {n : Nat} {p : List (Value → World → Prop) → Prop}, ExG n p → ∃ l, l.length = n ∧ p l
  | 0, _, h => ⟨[], rfl, h⟩
  | _ + 1, _, ⟨G, h⟩ => let ⟨l, hl, hp⟩ := h.get; ⟨G :: l, by simp [hl], hp⟩

/-- THE REGION, the facts found on the way. -/
theorem wp_region_ex {id : Nat} {l : List Oper} {a : Act} {w : World} (nb : Nat) (Kw : World → Prop) (hm : P.follows .mixedOrders = true)
    (hok : factsOk l.toArray nb a.tmps.size = true) (hseq : seqTail l.toArray nb = true) (hK : ∀ w', Ext w w' → Kw w')
    (h : ExG nb fun Gs => Txt P l.toArray Q w Kw Gs 0 (l.take nb) a ∧ GoodAll Gs) :
    (Code.region id l.toArray true).wp P Q a w := by
  obtain ⟨Gs, hlen, ht, hgood⟩ := h.get
  exact wp_region_facts nb Kw Gs hm hok hseq hlen hK ht hgood

/-- One operation whose value is known. -/
theorem Txt.on {i : Nat} {o : Oper} {rest : List Oper} {a : Act} {c : Value} (hG : Gs[i]? = some fun v _ => v = c) (hw : Region.wanted o (yielded ops a.tmps) = true)
    (h : ∀ w, Ext w0 w → Kw w → (∀ (j : Nat) (G : Value → World → Prop), waits o j = true → Gs[j]? = some G → G (slotOf a (dstOf ops j)) w) → gives P o a w fun v w' => Ext w w' ∧ v = c)
    (hn : Txt P ops Q w0 Kw Gs (i + 1) rest (a.put o.dst c)) : Txt P ops Q w0 Kw Gs i (o :: rest) a :=
  ⟨fun w hx hk hp G hG' => by rw [hG] at hG'; cases hG'; rw [if_pos hw]; exact h w hx hk hp,
   fun v G hG' hv => by rw [hG] at hG'; cases hG'; obtain ⟨_, rfl⟩ := hv; exact hn⟩
/-- One operation whose guard says no. -/
theorem Txt.off {i : Nat} {o : Oper} {rest : List Oper} {a : Act} (hG : Gs[i]? = some fun v _ => v = undef) (hw : Region.wanted o (yielded ops a.tmps) = false)
    (hn : Txt P ops Q w0 Kw Gs (i + 1) rest (a.put o.dst undef)) : Txt P ops Q w0 Kw Gs i (o :: rest) a :=
  ⟨fun w hx hk hp G hG' => by rw [hG] at hG'; cases hG'; rw [if_neg (by rw [hw]; decide)],
   fun v G hG' hv => by rw [hG] at hG'; cases hG'; obtain ⟨_, rfl⟩ := hv; exact hn⟩
/-- One operation of whose value a fact is known. -/
theorem Txt.eff {i : Nat} {o : Oper} {rest : List Oper} {a : Act} (G : Value → World → Prop) (hG : Gs[i]? = some G) (hw : Region.wanted o (yielded ops a.tmps) = true)
    (h : ∀ w, Ext w0 w → Kw w → (∀ (j : Nat) (G : Value → World → Prop), waits o j = true → Gs[j]? = some G → G (slotOf a (dstOf ops j)) w) → gives P o a w fun v w' => Ext w w' ∧ G v w')
    (hn : ∀ v, (∃ w, G v w) → Txt P ops Q w0 Kw Gs (i + 1) rest (a.put o.dst v)) : Txt P ops Q w0 Kw Gs i (o :: rest) a :=
  ⟨fun w hx hk hp G' hG' => by rw [hG] at hG'; cases hG'; rw [if_pos hw]; exact h w hx hk hp,
   fun v G' hG' hv => by rw [hG] at hG'; cases hG'; exact hn v hv⟩

attribute [go_sem] gives givesUpon

end
end Go.Proofs.Ytnbbaemijogeoaa
