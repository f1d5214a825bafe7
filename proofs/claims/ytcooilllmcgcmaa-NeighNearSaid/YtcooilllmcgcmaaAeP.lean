/- One operation: what the evaluator says is what the model does. No program in sight. -/
import Derived.Test.YtcooilllmcgcmaaAeO
namespace Go.Proofs.Ytcooilllmcgcmaa.Ae
open Go
section
variable {P : Program} {R : Nat → Prop} {w : World} {m : Mp} {H : Hp} {env : Env} {a : Act}

theorem noEff_app (H : Hp) : noEff.app H = H := by simp [Eff.app, noEff, hsets]

/-- what an operation comes to, beside the evaluator's word -/
def Does (P : Program) (R : Nat → Prop) (w : World) (m : Mp) (H : Hp) (a : Act) (o : Oper) (v : AVal) (e : Eff) : Prop :=
  ∃ x w' m', Runs P o a w x w' ∧ Stp R w m H w' m' (e.app H) ∧ VR R w' m' (e.app H) v x
theorem Does.pure (hS : Sim R w m H) {o : Oper} {v : AVal} {x : Value} (h : (execOp a.eval o).run P w = .ok (.value x) w) (hv : VR R w m H v x) : Does P R w m H a o v noEff :=
  ⟨x, w, m, .inl h, by rw [noEff_app]; exact .refl hS, by rw [noEff_app]; exact hv⟩

theorem toArrayF_sound {t : TypeId} {x q : AVal} {y : Value} {c : Option Prop} (hx : VR R w m H x y) (h : toArrayF P t x = some (c, q)) (hc : ∀ p, c = some p → p) :
    ∃ z, (Instr.arrayAt t y).run P w = .ok z w ∧ VR R w m H q z := by
  unfold toArrayF at h
  split at h
  · rename_i n e hu
    split at h
    · rename_i b off len sz
      cases h
      obtain ⟨h0, h1⟩ := hc _ rfl
      cases hx with
      | sl b off len sz ad c e1 e2 e3 e4 e5 e6 =>
        obtain ⟨g, n', f1, rfl, _⟩ := e5 (by omega)
        refine ⟨_, by simp [Instr.arrayAt, run_underlying hu, Nat.not_lt.2 h1], .ptr b off g f1⟩
    · cases h
  · cases h

theorem minF_sound {b : Bool} {x y q : AVal} {u v : Value} (hx : VR R w m H x u) (hy : VR R w m H y v) (h : minF b x y = some q) (ts : Array TypeId) (ty : TypeId) :
    ∃ z, (match b with | true => Builtin.min_ ts ty #[u, v] | false => Builtin.max_ ts ty #[u, v]).run P w = .ok z w ∧ VR R w m H q z := by
  unfold minF at h
  split at h
  · split at h
    · rename_i k a k' b hk
      cases h; cases hx; cases hy
      exact ⟨_, by simp [Builtin.min_, Builtin.min2], .int _ _⟩
    · cases h
  · split at h
    · rename_i k a k' b hk
      cases h; cases hx; cases hy
      exact ⟨_, by simp [Builtin.max_, Builtin.max2], .int _ _⟩
    · cases h
  · cases h

theorem VL.two {x y : AVal} {us : List Value} (h : VL R w m H [x, y] us) : ∃ u v, us = [u, v] ∧ VR R w m H x u ∧ VR R w m H y v := by
  obtain ⟨h1, h2⟩ := h
  match us, h1 with
  | [u, v], _ => exact ⟨u, v, rfl, h2 0 _ _ rfl rfl, h2 1 _ _ rfl rfl⟩
theorem VL.one {x : AVal} {us : List Value} (h : VL R w m H [x] us) : ∃ u, us = [u] ∧ VR R w m H x u := by
  obtain ⟨h1, h2⟩ := h
  match us, h1 with
  | [u], _ => exact ⟨u, rfl, h2 0 _ _ rfl rfl⟩

theorem builtinF_sound (hS : Sim R w m H) {b : Builtin} {ts : Array TypeId} {args : List AVal} {us : List Value} {c : Option Prop} {q : AVal} {ef : Eff} (hx : VL R w m H args us)
    (h : builtinF P H b ts.toList args = some ⟨c, q, ef⟩) (hc : ∀ p, c = some p → p) (ty : TypeId) (cs : Array Bool) :
    ∃ z w' m', (builtin b ts ty cs us.toArray).run P w = .ok (.value z) w' ∧ Stp R w m H w' m' (ef.app H) ∧ VR R w' m' (ef.app H) q z := by
  have fin : ∀ {s : Sem Value} {z : Value} {w' : World}, s.run P w = .ok z w' → (do Pure.pure (Next.value (← s)) : Sem Next).run P w = .ok (.value z) w' := fun h => by simp [h]
  obtain ⟨tl⟩ := ts
  simp only at h
  unfold builtinF at h
  split at h
  · rename_i _ _ _ t r x
    obtain ⟨u, rfl, hu1⟩ := hx.one
    clear hx
    split at h
    · rename_i n e hu
      cases h
      exact ⟨_, w, m, fin (by simp [Builtin.len_, run_underlying hu]; rfl), by rw [noEff_app]; exact .refl hS, by rw [noEff_app]; exact .int _ _⟩
    · rename_i hu
      split at h
      · cases h; cases hu1
        exact ⟨_, w, m, fin (by simp [Builtin.len_, run_underlying hu]; rfl), by rw [noEff_app]; exact .refl hS, by rw [noEff_app]; exact .int _ _⟩
      · cases h
    · rename_i e hu
      split at h
      · cases h; cases hu1
        exact ⟨_, w, m, fin (by simp [Builtin.len_, run_underlying hu]; rfl), by rw [noEff_app]; exact .refl hS, by rw [noEff_app]; exact .int _ _⟩
      · cases h; cases hu1
        exact ⟨_, w, m, fin (by simp [Builtin.len_, run_underlying hu]; rfl), by rw [noEff_app]; exact .refl hS, by rw [noEff_app]; exact .int _ _⟩
      · cases h; cases hu1
        exact ⟨_, w, m, fin (by simp [Builtin.len_, run_underlying hu]; rfl), by rw [noEff_app]; exact .refl hS, by rw [noEff_app]; exact .int _ _⟩
      · cases h; cases hu1
        exact ⟨_, w, m, fin (by simp [Builtin.len_, run_underlying hu]; rfl), by rw [noEff_app]; exact .refl hS, by rw [noEff_app]; exact .int _ _⟩
      · cases h
    · cases h
  · rename_i _ _ _ t u' r s x
    obtain ⟨sv, y, rfl, hs, hy⟩ := hx.two
    cases hu : isSrcT P u' with
    | false => rw [hu] at h; cases h
    | true =>
      rw [hu] at h
      simp only [cond] at h
      split at h
      · rename_i p v e ha
        cases h
        obtain ⟨z, w', m', f1, f2, f3⟩ := appendF_sound hS (ty := ty) hu hs hy ha hc
        exact ⟨z, w', m', fin ((congrArg (fun s => Sem.run P s w) (show Builtin.append_ ⟨t :: u' :: r⟩ ty #[sv, y] = Builtin.append_ #[t, u'] ty #[sv, y] from rfl)).trans f1), f2, f3⟩
      · cases h
  · rename_i _ _ _ t r d x
    obtain ⟨dv, y, rfl, hd, hy⟩ := hx.two
    split at h
    · rename_i p v e ha
      cases h
      obtain ⟨z, w', f1, f2, f3⟩ := copyF_sound hS (u := t) (ty := ty) hd hy ha hc
      exact ⟨z, w', m, fin ((congrArg (fun s => Sem.run P s w) (show Builtin.copy_ ⟨t :: r⟩ ty #[dv, y] = Builtin.copy_ #[t, t] ty #[dv, y] from rfl)).trans f1), f2, f3⟩
    · cases h
  · rename_i _ _ _ x y
    obtain ⟨u, v, rfl, hu, hv⟩ := hx.two
    split at h
    · rename_i r hr
      cases h
      obtain ⟨z, f1, f2⟩ := minF_sound hu hv hr ⟨tl⟩ ty
      exact ⟨z, w, m, fin f1, by rw [noEff_app]; exact .refl hS, by rw [noEff_app]; exact f2⟩
    · cases h
  · rename_i _ _ _ x y
    obtain ⟨u, v, rfl, hu, hv⟩ := hx.two
    split at h
    · rename_i r hr
      cases h
      obtain ⟨z, f1, f2⟩ := minF_sound hu hv hr ⟨tl⟩ ty
      exact ⟨z, w, m, fin f1, by rw [noEff_app]; exact .refl hS, by rw [noEff_app]; exact f2⟩
    · cases h
  · cases h

theorem oper?_sound (hE : EnvR R w m H env a) {x : Option Operand} {v : Option AVal} (h : oper? env x = some v) : match (generalizing := false) v, x.map a.eval with | none, none => True | some v, some u => VR R w m H v u | _, _ => False := by
  cases x with
  | none => simp [oper?] at h; subst h; trivial
  | some x =>
    simp only [oper?] at h
    split at h
    · rename_i u hu; cases h; exact oper_sound hE hu
    · cases h

theorem plain?_some {r : Option (Option Prop × AVal)} {p : Option Prop} {v : AVal} {e : Eff} (h : plain? r = some ⟨p, v, e⟩) : r = some (p, v) ∧ e = noEff := by
  unfold plain? at h
  split at h
  · cases h; exact ⟨rfl, rfl⟩
  · cases h
theorem pure?_some {r : Option AVal} {p : Option Prop} {v : AVal} {e : Eff} (h : pure? r = some ⟨p, v, e⟩) : r = some v ∧ p = none ∧ e = noEff := by
  unfold pure? at h
  split at h
  · cases h; exact ⟨rfl, rfl, rfl⟩
  · cases h

theorem exec_builtin {o : Oper} {c : Call} {b : Builtin} (ho : o.op = .call c) (hb : c.callee = .builtin b) : ∃ cs, ∀ P w, (execOp a.eval o).run P w = (builtin b c.argTypes o.type cs (c.args.map a.eval)).run P w := by
  refine ⟨?_, fun P w => ?_⟩
  rotate_left
  · simp only [execOp, ho, resolve, hb, invoke, Sem.run_bind, Sem.run_pure]
    rfl

theorem opF_sound (hS : Sim R w m H) (hE : EnvR R w m H env a) {o : Oper} {p : Option Prop} {v : AVal} {e : Eff} (h : opF P o.op env H = some ⟨p, v, e⟩) (hc : ∀ q, p = some q → q) : Does P R w m H a o v e := by
  have fin : ∀ {s : Sem Value} {z : Value} {w' : World}, s.run P w = .ok z w' → (do Pure.pure (Next.value (← s)) : Sem Next).run P w = .ok (.value z) w' := fun h => by simp [h]
  have ex : ∀ {s : Sem Next}, execOp a.eval o = s → ∀ {x : Next} {w' : World}, s.run P w = .ok x w' → (execOp a.eval o).run P w = .ok x w' := fun h1 _ _ h2 => by rw [h1]; exact h2
  have pu : ∀ {s : Sem Value} {q : AVal}, execOp a.eval o = (do Pure.pure (Next.value (← s)) : Sem Next) → (∃ z, s.run P w = .ok z w ∧ VR R w m H q z) → Does P R w m H a o q noEff := fun h1 ⟨z, h2, h3⟩ => .pure hS (ex h1 (fin h2)) h3
  have st : ∀ {s : Sem Value} {q : AVal} {e : Eff}, execOp a.eval o = (do Pure.pure (Next.value (← s)) : Sem Next) → (∃ z w' m', s.run P w = .ok z w' ∧ Stp R w m H w' m' (e.app H) ∧ VR R w' m' (e.app H) q z) → Does P R w m H a o q e := fun h1 ⟨z, w', m', h2, h3, h4⟩ => ⟨z, w', m', .inl (ex h1 (fin h2)), h3, h4⟩
  unfold opF at h
  split at h
  · rename_i x ho
    split at h
    · rename_i u hu; cases h
      exact .pure hS (x := a.eval x) (by simp [execOp, ho]) (oper_sound hE hu)
    · cases h
  · rename_i x ho
    split at h
    · rename_i u hu; cases h
      exact .pure hS (x := a.eval x) (by simp [execOp, ho]) (oper_sound hE hu)
    · cases h
  · rename_i c x y ho
    split at h
    · rename_i t u u' h1 h2 h3
      cases h
      have k1 := oper_sound hE h1
      have k2 := oper_sound hE h2
      have k3 := oper_sound hE h3
      generalize hcv : a.eval c = cv at k1
      cases k1
      refine .pure hS (x := if t then a.eval x else a.eval y) (by simp [execOp, ho, hcv, asBool]) ?_
      unfold pickF
      split
      · cases t <;> simpa
      · cases t <;> simpa
    · cases h
  · rename_i t ho
    split at h
    · rename_i z hz; cases h
      obtain ⟨x, w', m', f1, f2, f3⟩ := alloc_sound (a := a) hS hz ho
      exact ⟨x, w', m', f1, f2, f3⟩
    · cases h
  · rename_i t x ho
    split at h
    · rename_i u hu
      cases hk : okCell u with
      | false => rw [hk] at h; cases h
      | true =>
        rw [hk] at h; cases h
        obtain ⟨x, w', m', f1, f2, f3⟩ := box_sound hS (oper_sound hE hu) hk ho
        exact ⟨x, w', m', f1, f2, f3⟩
    · cases h
  · rename_i t parts ho
    split at h
    · rename_i l hl
      obtain ⟨h1, rfl, rfl⟩ := pure?_some h
      exact pu (by simp only [execOp, ho]) (buildF_sound hE hl h1)
    · cases h
  · rename_i t len parts ho
    split at h
    · rename_i l hl
      split at h
      · rename_i v' e' h1
        cases h
        exact st (by simp only [execOp, ho]) (buildSliceF_sound hS hE hl h1)
      · cases h
    · cases h
  · rename_i t x ho
    split at h
    · rename_i u hu
      obtain ⟨h1, rfl⟩ := plain?_some h
      obtain ⟨ad, y, f1, f2, f3⟩ := loadF_sound hS (oper_sound hE hu) h1 hc
      exact pu (s := Instr.loadAt t (a.eval x)) (by simp only [execOp, ho]) ⟨y, by simp [Instr.loadAt, f1, Instr.sureAddr, f2], f3⟩
    · cases h
  · rename_i t x y ho
    split at h
    · rename_i u u' h1 h2
      split at h
      · rename_i c' e' h3
        cases h
        obtain ⟨ad, w', f1, f2, f3⟩ := storeF_sound hS (oper_sound hE h1) (oper_sound hE h2) h3 hc
        exact ⟨undef, w', m, .inr ⟨by simp [execOp, ho, Instr.storeAt, f1, Instr.sureAddr, f2], rfl⟩, f3, .undef _⟩
      · cases h
    · cases h
  · rename_i x ho
    split at h
    · rename_i b of hu; cases h
      have k := oper_sound hE hu
      generalize hx : a.eval x = y at k
      refine .pure hS (x := y) ?_ k
      cases k; simp [execOp, ho, hx]
    · rename_i cs hu; cases h
      have k := oper_sound hE hu
      generalize hx : a.eval x = y at k
      refine .pure hS (x := y) ?_ k
      cases k; simp [execOp, ho, hx]
    · rename_i f fi ca hu; cases h
      have k := oper_sound hE hu
      generalize hx : a.eval x = y at k
      refine .pure hS (x := y) ?_ k
      cases k; simp [execOp, ho, hx]
    · cases h
  · rename_i op t x y po ho
    split at h
    · rename_i u u' h1 h2
      obtain ⟨h3, rfl⟩ := plain?_some h
      exact pu (by simp only [execOp, ho]) (binF_sound (oper_sound hE h1) (oper_sound hE h2) h3 hc x y)
    · cases h
  · rename_i op t x ho
    split at h
    · rename_i u h1
      obtain ⟨h3, rfl⟩ := plain?_some h
      exact pu (by simp only [execOp, ho]) (unF_sound (oper_sound hE h1) h3 hc)
    · cases h
  · rename_i s d x ho
    split at h
    · rename_i u h1
      cases hk : (P.underlying s).isSome with
      | false => rw [hk] at h; cases h
      | true =>
        rw [hk] at h
        simp only [cond] at h
        split at h
        · rename_i c' v' e' h3
          cases h
          exact st (by simp only [execOp, ho]) (convF_sound hS hk (oper_sound hE h1) h3 hc)
        · cases h
    · cases h
  · rename_i t x ho
    split at h
    · rename_i u h1
      obtain ⟨h3, rfl⟩ := plain?_some h
      exact pu (by simp only [execOp, ho]) (toArrayF_sound (oper_sound hE h1) h3 hc)
    · cases h
  · rename_i f fi ca ho
    split at h
    · rename_i l l' h1 h2
      cases h
      have k1 := opers_sound hE h1
      have k2 := opers_sound hE h2
      refine .pure hS (x := .func (.func f) (fi.map a.eval) (ca.map a.eval)) (by simp [execOp, ho, Instr.makeFunc]) ?_
      have := VR.fn (R := R) (w := w) (m := m) (H := H) f l l' _ _ k1.1 k1.2 k2.1 k2.2
      have e : ∀ x : Array Operand, (x.toList.map a.eval).toArray = x.map a.eval := fun x => by rw [← Array.toList_map]
      rw [e, e] at this; exact this
    · cases h
  · rename_i t n c ho
    split at h
    · rename_i u u' h1 h2
      split at h
      · rename_i c' v' e' h3
        cases h
        exact st (by simp only [execOp, ho]) (makeF_sound hS (oper_sound hE h1) (oper_sound hE h2) h3 hc)
      · cases h
    · cases h
  · rename_i t x lo hi mx ho
    split at h
    · rename_i u l' h' m' h1 h2 h3 h4
      obtain ⟨h5, rfl⟩ := plain?_some h
      exact pu (s := Instr.sliceAt t (a.eval x) (lo.map a.eval) (hi.map a.eval) (mx.map a.eval)) (by simp only [execOp, ho]) (cutF_sound hS (oper_sound hE h1) (oper?_sound hE h2) (oper?_sound hE h3) (oper?_sound hE h4) h5 hc)
    · cases h
  · rename_i t x i ho
    split at h
    · rename_i u h1
      obtain ⟨h3, rfl, rfl⟩ := pure?_some h
      exact pu (by simp only [execOp, ho]) (fieldAddrF_sound (oper_sound hE h1) h3)
    · cases h
  · rename_i t x i ho
    split at h
    · rename_i u h1
      obtain ⟨h3, rfl, rfl⟩ := pure?_some h
      exact pu (by simp only [execOp, ho]) (fieldF_sound (oper_sound hE h1) h3)
    · cases h
  · rename_i t x i ho
    split at h
    · rename_i u u' h1 h2
      obtain ⟨h3, rfl⟩ := plain?_some h
      exact pu (by simp only [execOp, ho]) (indexAddrF_sound (oper_sound hE h1) (oper_sound hE h2) h3 hc)
    · cases h
  · rename_i t x i ho
    split at h
    · rename_i u u' h1 h2
      obtain ⟨h3, rfl⟩ := plain?_some h
      exact pu (by simp only [execOp, ho]) (indexF_sound (oper_sound hE h1) (oper_sound hE h2) h3 hc)
    · cases h
  · rename_i x i ho
    split at h
    · rename_i vs h1
      split at h
      · rename_i v' h2
        cases h
        have k := oper_sound hE h1
        generalize hx : a.eval x = y at k
        cases k with
        | tup _ xs e1 e2 =>
          have hi : i < xs.length := by rw [← e1]; exact (List.getElem?_eq_some_iff.1 h2).1
          exact pu (s := Instr.extract (a.eval x) i) (by simp only [execOp, ho]) ⟨xs[i], by simp [Instr.extract, hx, hi], e2 i _ _ h2 (List.getElem?_eq_getElem hi)⟩
      · cases h
    · cases h
  · rename_i c ho
    split at h
    · rename_i b hb
      split at h
      · rename_i l hl
        obtain ⟨cs, hcs⟩ := exec_builtin (a := a) ho hb
        obtain ⟨z, w', m', f1, f2, f3⟩ := builtinF_sound hS (opers_sound hE hl) h hc o.type cs
        refine ⟨z, w', m', .inl ?_, f2, f3⟩
        have e : (c.args.toList.map a.eval).toArray = c.args.map a.eval := by rw [← Array.toList_map]
        rw [e] at f1
        rw [hcs]; exact f1
      · cases h
    · cases h
  · cases h

end
end Go.Proofs.Ytcooilllmcgcmaa.Ae
