/- Blocks that are only read from now on; operations in any frame; worlds that have grown elsewhere. No program in sight. -/
import Derived.Test.YtbjolilknkbehaaAeWk
import Derived.OwnWalkIn
import Derived.RangeFuncFrom
set_option linter.unusedSimpArgs false
set_option linter.unusedVariables false
namespace Go.Proofs.Ytbjolilknkbehaa.Ae
open Go Go.RowKit
section
variable {R R0 : Nat → Prop} {w w0 : World} {m m0 : Mp} {H H0 : Hp} {env env' : Env} {a : Act}

theorem EnvR.sub (hE : EnvR R w m H env a) (h : ∀ t, eget t env' = eget t env ∨ eget t env' = .undef) : EnvR R w m H env' a := fun t => by
  rcases h t with e | e
  · rw [e]; exact hE t
  · rw [e]; exact .undef _
/-- a block is only read from now on -/
theorem frz_far (hS : Sim R w m H) {k : Nat} {cs : List AVal} (hk : hget k H = .vals cs) (hc : closedL cs = true) : Far R w m H (RC R m H [k]) w m (hset k .dead H) := by
  have K := hS.kill k
  have hl : hget k H ≠ .dead := by rw [hk]; simp
  have sub : ∀ g, R g → RC R m H [k] g := fun g h => .inl h
  have live : ∀ j, hget j (hset k .dead H) ≠ .dead → j ≠ k ∧ hget j H ≠ .dead ∧ hget j (hset k .dead H) = hget j H := fun j h => by
    have hlt := hget_lt h
    rw [hset_length] at hlt
    by_cases e : j = k
    · subst e; rw [hget_hset_same hlt] at h; exact absurd rfl h
    · rw [hget_hset_ne e] at h ⊢; exact ⟨e, h, rfl⟩
  refine ⟨sub, fun g hg => ?_, ⟨fun g hg => ?_, K.sim.out, fun j g hj hg => ?_, K.sim.ph, K.sim.inj⟩, rfl, rfl, rfl, Nat.le_refl _, fun g _ => rfl, fun g _ _ => rfl, fun _ _ h => h, by rw [hset_length]; exact Nat.le_refl _, K.hext, fun j g hj hg => .inr ⟨j, (live j hj).2.1, hg⟩, fun _ _ => rfl⟩
  · rcases hg with h | ⟨j, h1, h2, h3⟩
    · exact .inl h
    · exact .inr (.inr ⟨j, h2, h3⟩)
  · rcases hg with h | ⟨j, h1, h2, h3⟩
    · exact hS.rlt g h
    · obtain ⟨_, xs, e, fr, h4, _⟩ := hS.own j g h2 h3
      exact (Array.getElem?_eq_some_iff.1 h4).1
  · obtain ⟨h1, h2, h3⟩ := live j hj
    obtain ⟨a1, xs, e, fr, a2, a3, a4, a5⟩ := K.sim.own j g hj hg
    refine ⟨fun h => ?_, xs, e, fr, a2, a3, a4, a5.mono sub (fun _ _ => rfl) (fun _ _ h => h) (fun _ _ h => h) (Nat.le_refl _) (hext_self _)⟩
    rcases h with h | ⟨q, q1, q2, q3⟩
    · exact a1 h
    · have : q = k := by simpa using q1
      subst this
      exact h1 (hS.inj j q g h2 q2 hg q3)
theorem frz_ptr (hS : Sim R w m H) {k : Nat} {cs : List AVal} (hk : hget k H = .vals cs) (hc : closedL cs = true) {x : Value} (hx : VR R w m H (.ptr k 0) x) {m' : Mp} {H' : Hp} : VR (RC R m H [k]) w m' H' (.rop cs) x := by
  cases hx with
  | ptr _ _ g hg =>
    have hl : hget k H ≠ .dead := by rw [hk]; simp
    obtain ⟨_, xs, e, fr, h1, h2, h3, h4⟩ := hS.own k g hl hg
    rw [hk] at h4
    obtain ⟨ys, r, rfl, hv⟩ := h4
    have hcell : ∀ j v, cs[j]? = some v → ∃ x, ys[j]? = some x ∧ w.cell? ⟨g, 0 + j, none⟩ = some x ∧ x.oneCell' = true := fun j v hj => by
      have hj' := (List.getElem?_eq_some_iff.1 hj).1
      rw [hv.1] at hj'
      refine ⟨ys[j], List.getElem?_eq_getElem hj', ?_, h3 _ (List.mem_append_left _ (List.getElem_mem hj'))⟩
      rw [cell_of h1, Nat.zero_add, List.getElem?_append_left hj', List.getElem?_eq_getElem hj']
    refine .rop cs g 0 (fun j => (ys[j]?).getD undef) (.inr ⟨k, by simp, hl, hg⟩) (fun j v hj => ?_) (fun j v hj => ?_)
    · obtain ⟨x, e1, e2, e3⟩ := hcell j v hj
      simp only [e1, Option.getD_some]
      exact ⟨e2, e3⟩
    · obtain ⟨x, e1, e2, e3⟩ := hcell j v hj
      simp only [e1, Option.getD_some]
      exact ((hv.2 j v x hj e1).mono (fun _ h => .inl h) (fun _ _ => rfl) (fun _ _ h => h) (fun _ _ h => h) (Nat.le_refl _) (hext_self H)).closed (closedL_get hc hj)
theorem Inv.frz {nt : Nat} (h : Inv nt R0 w0 m0 H0 a w ⟨env, H⟩) {k : Nat} {cs : List AVal} (hk : hget k H = .vals cs) (hc : closedL cs = true)
    (he : ∀ t, eget t env' = eget t env ∨ eget t env' = .undef ∨ (eget t env = .ptr k 0 ∧ eget t env' = .rop cs)) : Inv nt R0 w0 m0 H0 a w ⟨env', hset k .dead H⟩ := by
  obtain ⟨⟨R, m, hF, hE⟩, hsz, hnd⟩ := h
  have F := frz_far hF.sim hk hc
  refine ⟨⟨_, m, hF.trans F, fun t => ?_⟩, hsz, hnd⟩
  show VR _ w m _ (eget t env') _
  rcases he t with e | e | ⟨e1, e2⟩
  · rw [e]; exact (hE t).far F hF.sim
  · rw [e]; exact .undef _
  · rw [e2]
    have := hE t
    simp only at this
    rw [e1] at this
    exact frz_ptr hF.sim hk hc this
/-- an operation on plain data, whatever order it comes in -/
theorem gstep {P : Program} {o : Oper} {v : AVal} {e : Eff} (hF : Far R0 w0 m0 H0 R w m H) (hE : EnvR R w m H env a) (hop : opF P o.op env H = some ⟨none, v, e⟩) (hd : dstOk a.tmps.size o.dst = true) :
    gives P o a w fun x w' => ∃ R' m', Far R0 w0 m0 H0 R' w' m' (e.app H) ∧ EnvR R' w' m' (e.app H) (putEnv o.dst v env) (a.put o.dst x) := by
  have h := opDoes_of (P := P) hop (fun q h => by cases h) R w m a hF.sim hE
  have mono : ∀ {S S' : Value → World → Prop} {r : Result Next}, givesUpon P S r → (∀ x w', S x w' → S' x w') → givesUpon P S' r := fun {S S' r} h hs => by
    cases r with
    | ok n w' =>
      cases n <;> simp only [givesUpon] at h ⊢
      case value u => exact hs _ _ h
      case skip => exact hs _ _ h
      case enter f args => exact Calls.mono h fun e w'' ⟨v, he, hr⟩ => ⟨v, he, hs _ _ hr⟩
    | halt x w' => simp only [givesUpon] at h
  refine mono h fun x w' ⟨R', m', F, V⟩ => ⟨R', m', hF.trans F, (hE.far F hF.sim).put hd V⟩

/-! ### in any frame -/
def simpleOp : Op → Bool
  | .call ⟨.builtin _, _, _⟩ => true
  | .call _ => false
  | .defer _ => false
  | .go _ => false
  | _ => true
def simpleL : List Oper → Bool
  | [] => true
  | o :: r => simpleOp o.op && o.guard.isNone && simpleL r
theorem opP_simple {X : Cx} {o : Oper} {K : AVal → Eff → Prop} (hs : simpleOp o.op = true) (h : opP X o.op env H K) : opK (opF X.P o.op env H) K := by
  unfold opP at h
  split at h
  · rename_i ho; rw [ho] at hs; cases hs
  · exact h
/-- operations on plain data, none of them a call of a function, in any frame -/
theorem opsP_in {X : Cx} {F : Fence} {n : Nat} (hF : ∀ f, F.fn f) {ops : Array Oper} : ∀ {l : List Oper} {s : St} {K : St → Prop}, simpleL l = true → opsP X ops.toList l s K →
    ∃ s', K s' ∧ ∀ (R : Nat → Prop) (w : World) (m : Mp) (a : Act), Sim R w m s.heap → EnvR R w m s.heap s.env a → a.tmps.size = X.nt → ∀ Q : Exit → Act → World → Prop,
      (∀ a' w' m', Far R w m s.heap R w' m' s'.heap → EnvR R w' m' s'.heap s'.env a' → a'.tmps.size = X.nt → a'.defers = a.defers → Q .normal a' w') → wpListIn F n X.P ops Q l a w
  | [], s, K, _, h => ⟨s, h, fun R w m a hS hE hsz Q hq => hq a w m (.refl hS) hE hsz rfl⟩
  | o :: r, s, K, hs, h => by
    simp only [simpleL, Bool.and_eq_true, Option.isNone_iff_eq_none] at hs
    obtain ⟨⟨hs1, hg⟩, hs2⟩ := hs
    unfold opsP operP at h
    cases hd : dstOk X.nt o.dst with
    | false => rw [hd] at h; exact h.elim
    | true =>
      rw [hd, hg] at h
      simp only [cond_true] at h
      unfold doP at h
      have h1 := opP_simple hs1 h
      unfold opK at h1
      split at h1
      · rename_i p v e hop
        obtain ⟨hp, hk⟩ := andP_iff h1
        rw [forceV_iff, effK_app, putK_iff] at hk
        obtain ⟨s', hK, ih⟩ := opsP_in hF hs2 hk
        refine ⟨s', hK, fun R w m a hS hE hsz Q hq => ?_⟩
        obtain ⟨x, w', m', hr, hst, hv⟩ := opF_sound (P := X.P) hS hE hop hp
        refine wpListIn_plain hg fun K' hK' => ⟨fun f _ => hF f, ?_⟩
        have hnd : ∀ c, o.op ≠ .defer c := fun c e => by rw [e] at hs1; cases hs1
        rw [Oper.semAt_plain F _ _ hnd]
        have hE' := (hE.far hst.far hS).put (d := o.dst) (x := x) (by rw [hsz]; exact hd) hv
        have nx : wpListIn F n X.P ops Q r (a.put o.dst x) w' := ih R w' m' (a.put o.dst x) hst.sim hE' (by rw [Act.put_size']; exact hsz) Q fun a2 w2 m2 F2 E2 z2 d2 => hq a2 w2 m2 (hst.far.trans F2) E2 z2 (by rw [d2, Act.put_defers'])
        rcases hr with hr | ⟨hr, rfl⟩
        · rw [hr, Oper.uponIn_value]; exact hK' _ _ nx
        · rw [hr, Oper.uponIn_skip]; exact hK' _ _ nx
      · exact h1.elim

/-! ### a world that has grown elsewhere -/
theorem Far.grown (F : Far R0 w0 m0 H0 R w m H) {W : World} {row : Option Nat} (hg : w.grownBy W row) (hB : ∀ r, row = some r → w0.heap.size ≤ r ∧ ¬ R r ∧ ∃ o : Obj, w.heap[r]? = some o ∧ o.isCells = false) :
    Far R0 w0 m0 H0 R W m H ∧ ∀ {v : AVal} {x : Value}, VR R w m H v x → VR R W m H v x := by
  have same : ∀ g, g < w.heap.size → some g ≠ row → W.heap[g]? = w.heap[g]? := fun g h1 h2 => hg.block g h1 h2
  have cells : ∀ g (o : Obj), w.heap[g]? = some o → o.isCells = true → W.heap[g]? = w.heap[g]? := fun g o h1 h2 => by
    refine same g (Array.getElem?_eq_some_iff.1 h1).1 fun e => ?_
    obtain ⟨_, _, o', h3, h4⟩ := hB g e.symm
    rw [h1] at h3; cases h3; rw [h2] at h4; cases h4
  have rw' : ∀ g, R g → W.heap[g]? = w.heap[g]? := fun g h => same g (F.sim.rlt g h) fun e => (hB g e.symm).2.1 h
  have rows : ∀ g n, rowSize w g = some n → rowSize W g = some n := fun g n h => by
    have hl := rowSize_lt h
    obtain ⟨o, ho⟩ : ∃ o, w.heap[g]? = some o := ⟨_, Array.getElem?_eq_getElem hl⟩
    have hc : o.isCells = true := by
      unfold rowSize World.shape? at h
      rw [ho] at h
      cases o <;> simp_all [Obj.isCells]
    unfold rowSize World.shape? at h ⊢
    rw [cells g o ho hc]; exact h
  have vr : ∀ {v : AVal} {x : Value}, VR R w m H v x → VR R W m H v x := fun h => h.mono (fun _ h => h) rw' rows (fun _ _ h => h) (Nat.le_refl _) (hext_self H)
  have base : ∀ g, g < w0.heap.size → W.heap[g]? = w.heap[g]? := fun g h => same g (Nat.lt_of_lt_of_le h F.size) fun e => by
    have := (hB g e.symm).1; omega
  refine ⟨⟨F.sub, F.newR, ⟨fun g h => Nat.lt_of_lt_of_le (F.sim.rlt g h) hg.size, F.sim.out, fun k g hk hm => ?_, F.sim.ph, F.sim.inj⟩, hg.os.trans F.os, hg.tape.trans F.tape, hg.output.trans F.output, Nat.le_trans F.size hg.size, fun g h => ?_, fun g h hn => (base g h).trans (F.frame g h hn), F.agree, F.hlen, F.hext, F.news, F.same⟩, vr⟩
  · obtain ⟨a1, xs, e, fr, a2, a3, a4, a5⟩ := F.sim.own k g hk hm
    exact ⟨a1, xs, e, fr, (cells g _ a2 rfl).trans a2, a3, a4, a5.mono (fun _ h => h) rw' rows (fun _ _ h => h) (Nat.le_refl _) (hext_self H)⟩
  · rw [← F.shape g h]
    unfold rowSize World.shape?
    rw [base g h]
theorem Far.others {R' : Nat → Prop} {w' : World} {m' : Mp} {H' : Hp} (F : Far R w m H R' w' m' H') (hS : Sim R w m H) : KeepsOthers w w' :=
  ⟨F.size, fun k o hk ho => by
    rw [F.frame k (Array.getElem?_eq_some_iff.1 hk).1 fun j hj hm => ?_]
    · exact hk
    · obtain ⟨_, xs, e, fr, h2, _⟩ := hS.own j k hj hm
      rw [hk] at h2; cases h2; cases ho⟩
/-- the state with what is needed alone -/
theorem norm_far (hF : Far R0 w0 m0 H0 R w m H) (hE : EnvR R w m H env a) (hS0 : Sim R0 w0 m0 H0) (live : List Nat) : ∃ m', Far R0 w0 m0 H0 R w m' (flatC H0.length live (subHeap (fun k => idxO k (seek H H0.length (egets env live))) H (seek H H0.length (egets env live)))) ∧
    EnvR R w m' (flatC H0.length live (subHeap (fun k => idxO k (seek H H0.length (egets env live))) H (seek H H0.length (egets env live)))) (normEnv (seek H H0.length (egets env live)) live ⟨env, H⟩) a := by
  obtain ⟨hn, hp⟩ := seek_ok H H0.length (egets env live)
  generalize seek H H0.length (egets env live) = S at *
  have hF2 := hF.restrict hS0 hn hp
  have hE2 : EnvR R w (subM S m) (subHeap (fun k => idxO k S) H S) (normEnv S live ⟨env, H⟩) a := fun t => by
    show VR R w _ _ (eget t (zipEnv live (renL (fun k => idxO k S) (egets env live)))) _
    rcases zipEnv_get (r := fun k => idxO k S) (env := env) (t := t) live with h | h
    · rw [h]; exact .undef _
    · rw [h]; exact (hE t).ren (sub_num S m H)
  unfold flatC
  cases elemN 999999 live with
  | false => exact ⟨subM S m, hF2, hE2⟩
  | true =>
    have hs := (flat_stp hF2.sim H0.length).far
    exact ⟨subM S m, hF2.trans hs, hE2.far hs hF2.sim⟩
theorem VE.tup {us bs : List AVal} (h : ArgsLe H us bs) : VE H (.tup us) (.tup bs) := by
  intro R w m x hS hv
  cases hv with
  | tup _ xs h1 h2 =>
    have := h R w m xs hS ⟨h1, h2⟩
    exact .tup bs xs this.1 this.2
/-- code, and what follows it -/
theorem seq_step {X : Cx} (hT : TSound X.P X.T) (hD : DrawSound X) {n : Nat} {x y : Code} {G : St → Prop} {K : Post} {s : St} {Q : Exit → Act → World → Prop} (h : awp X x s (seqK G K)) (hl : H0.length = X.n0) (hS0 : Sim R0 w0 m0 H0) (hI : Inv X.nt R0 w0 m0 H0 a w s)
    (hn : ∀ s' a' w', G s' → Inv X.nt R0 w0 m0 H0 a' w' s' → y.wpIn Fence.wide n X.P Q a' w') (he : ∀ e s' a' w' e1, e ≠ .normal → K e s' → ExR e e1 → Inv X.nt R0 w0 m0 H0 a' w' s' → Q e1 a' w') : (Code.seq x y).wpIn Fence.wide n X.P Q a w := by
  obtain ⟨e, s', hk, ok⟩ := awp_sound hT hD x s _ h
  refine wpIn_seq (wpIn_wide.2 (wp_mono (ok R0 w0 m0 H0 hl hS0 a w hI) fun e1 a1 w1 ⟨he1, hI1⟩ => ?_))
  cases e with
  | normal => cases he1; exact hn s' a1 w1 hk hI1
  | exit i => cases he1; exact he (.exit i) s' a1 w1 (.exit i) (by simp) hk rfl hI1
  | ret => cases he1; exact he .ret s' a1 w1 .ret (by simp) hk rfl hI1
theorem seq_ok {X : Cx} {n : Nat} {x y : Code} {s s' : St} {Q : Exit → Act → World → Prop} (ok : CodeOk X x s .normal s') (hl : H0.length = X.n0) (hS0 : Sim R0 w0 m0 H0) (hI : Inv X.nt R0 w0 m0 H0 a w s)
    (hn : ∀ a' w', Inv X.nt R0 w0 m0 H0 a' w' s' → y.wpIn Fence.wide n X.P Q a' w') : (Code.seq x y).wpIn Fence.wide n X.P Q a w :=
  wpIn_seq (wpIn_wide.2 (wp_mono (ok R0 w0 m0 H0 hl hS0 a w hI) fun e1 a1 w1 ⟨he1, hI1⟩ => by cases he1; exact hn a1 w1 hI1))
end
end Go.Proofs.Ytbjolilknkbehaa.Ae
