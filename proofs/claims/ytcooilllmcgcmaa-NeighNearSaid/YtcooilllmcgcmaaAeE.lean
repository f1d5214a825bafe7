/- Operations over memory: what the evaluator says is what the model does. No program in sight. -/
import Derived.Test.YtcooilllmcgcmaaAeD
namespace Go.Proofs.Ytcooilllmcgcmaa.Ae
open Go
section
variable {P : Program} {R : Nat → Prop} {w : World} {m : Mp} {H : Hp} {env : Env} {a : Act}

/-- what an operation comes to -/
def Runs (P : Program) (o : Oper) (a : Act) (w : World) (x : Value) (w' : World) : Prop :=
  (execOp a.eval o).run P w = .ok (.value x) w' ∨ ((execOp a.eval o).run P w = .ok .skip w' ∧ x = undef)
def EnvR (R : Nat → Prop) (w : World) (m : Mp) (H : Hp) (env : Env) (a : Act) : Prop := ∀ t, VR R w m H (eget t env) (a.tmps.getD t undef)

theorem ofConst_sound {c : Value} {v : AVal} (h : ofConst c = some v) : VR R w m H v c ∧ c.oneCell' = true := by
  cases c with
  | bool b => simp [ofConst] at h; subst h; exact ⟨.bool b, rfl⟩
  | int k n =>
    by_cases hk : k = .u8
    · subst hk
      simp only [ofConst] at h
      split at h
      · rename_i hn
        cases h
        have hx : ((UInt8.ofNat n.toNat).toNat : Int) = n := by rw [UInt8.toNat_ofNat']; omega
        refine ⟨?_, rfl⟩
        generalize UInt8.ofNat n.toNat = x at *
        rw [← hx]; exact .byte _
      · cases h
    · have : v = .int k n := by cases k <;> simp [ofConst] at h hk <;> exact h.symm
      subst this; exact ⟨.int k n, rfl⟩
  | string s =>
    simp only [ofConst] at h
    split at h
    · rename_i hs
      cases h
      have : s = ⟨s.data.toList.toArray⟩ := by simp
      refine ⟨?_, rfl⟩
      conv => arg 6; rw [this]
      exact .str _ (by have e : s.data.toList.length = s.size := rfl; rw [e]; unfold big; omega)
    · cases h
  | pointer p => cases p <;> simp [ofConst] at h; subst h; exact ⟨.nilP, rfl⟩
  | slice p l c =>
    cases p with
    | none =>
      match l, c, h with
      | 0, 0, h => simp [ofConst] at h; subst h; exact ⟨.nilS, rfl⟩
      | 0, _ + 1, h => simp [ofConst] at h
      | _ + 1, _, h => simp [ofConst] at h
    | some _ => simp [ofConst] at h
  | nilFunc => simp [ofConst] at h; subst h; exact ⟨.nilF, rfl⟩
  | _ => simp [ofConst] at h
theorem oper_sound (hE : EnvR R w m H env a) {x : Operand} {v : AVal} (h : oper env x = some v) : VR R w m H v (a.eval x) := by
  cases x with
  | tmp t => simp [oper] at h; subst h; exact hE t
  | const c => exact (ofConst_sound h).1
  | func f => simp [oper] at h; subst h; exact .fn f [] [] [] [] rfl (fun i v x h => by simp at h) rfl (fun i v x h => by simp at h)
  | global g => simp [oper] at h
theorem opers_sound (hE : EnvR R w m H env a) : ∀ {xs : List Operand} {vs : List AVal}, opers env xs = some vs → VL R w m H vs (xs.map a.eval)
  | [], vs, h => by simp [opers] at h; subst h; exact VL.nil
  | x :: xs, vs, h => by
    simp only [opers] at h
    split at h
    · rename_i v l h1 h2
      cases h; exact VL.cons (oper_sound hE h1) (opers_sound hE h2)
    · cases h

theorem sizeT_run {t : TypeId} {n : Nat} (h : sizeT P t = some n) (w : World) : (sizeOf t).run P w = .ok n w := by
  unfold sizeT at h
  split at h
  · rename_i i hi; cases h; simp [sizeOf, typeInfo, hi]
  · cases h
theorem kindOf_run {t : TypeId} {k : Kind} (h : kindOf P t = some k) (w : World) : (isAgg t).run P w = .ok (match k with | .agg => true | .one => false) w := by
  unfold kindOf at h
  split at h
  · rename_i fs hu; cases h; simp [isAgg, run_underlying hu]
  · rename_i n e hu; cases h; simp [isAgg, run_underlying hu]
  · rename_i d h1 h2 hu
    cases h
    simp only [isAgg, Sem.run_bind, run_underlying hu, Result.andThen_ok]
    cases d <;> first | rfl | (exact absurd hu (h1 _)) | (exact absurd hu (h2 _ _))
  · cases h
theorem zeroT_run {t : TypeId} {z : List AVal} (h : zeroT P t = some z) (w : World) :
    ∃ v : Value, (zeroValue t).run P w = .ok v w ∧ (∀ R w m H, VL R w m H z v.cells.toList) ∧ (∀ x ∈ v.cells.toList, x.oneCell' = true) := by
  have cs : ∀ (l : List Value) (r : List AVal), ofConsts l = some r → (∀ R w m H, VL R w m H r l) ∧ ∀ x ∈ l, x.oneCell' = true := by
    intro l
    induction l with
    | nil => intro r h; simp [ofConsts] at h; subst h; exact ⟨fun _ _ _ _ => VL.nil, by simp⟩
    | cons c l ih =>
      intro r h
      simp only [ofConsts] at h
      split at h
      · rename_i v q h1 h2
        cases h
        obtain ⟨a1, a2⟩ := ih q h2
        refine ⟨fun R w m H => VL.cons (ofConst_sound h1).1 (a1 R w m H), fun x hx => ?_⟩
        rcases List.mem_cons.1 hx with rfl | hx
        · exact (ofConst_sound (R := fun _ => False) (w := default) (m := Mp.nil) (H := []) h1).2
        · exact a2 x hx
      · cases h
  unfold zeroT at h
  split at h
  · rename_i i hi
    split at h
    · rename_i v hv
      refine ⟨v, by simp [zeroValue, typeInfo, hi, hv], ?_⟩
      have one : ∀ (v : Value) (c : AVal), (∀ cs, v ≠ .agg cs) → ofConst v = some c → (∀ R w m H, VL R w m H [c] v.cells.toList) ∧ ∀ x ∈ v.cells.toList, x.oneCell' = true := by
        intro v c hna hc
        have e : v.cells = #[v] := by cases v <;> first | rfl | exact absurd rfl (hna _)
        rw [e]
        exact ⟨fun R w m H => VL.cons (ofConst_sound hc).1 VL.nil, fun x hx => by simp at hx; subst hx; exact (ofConst_sound (R := fun _ => False) (w := default) (m := Mp.nil) (H := []) hc).2⟩
      by_cases hagg : ∃ cs, v = .agg cs
      · obtain ⟨xs, rfl⟩ := hagg
        simp only [zeroCells'] at h
        exact cs _ _ h
      · have hna : ∀ cs, v ≠ .agg cs := fun cs e => hagg ⟨cs, e⟩
        have h' : (match ofConst v with | some a => some [a] | none => none) = some z := by
          cases v <;> first | exact h | exact absurd rfl (hna _)
        split at h'
        · rename_i c hc; cases h'; exact one v c hna hc
        · cases h'
    · cases h
  · cases h

theorem VR.cells {v : AVal} {x : Value} (h : VR R w m H v x) (hv : okCell v = true) : VL R w m H v.cells x.cells.toList ∧ ∀ y ∈ x.cells.toList, y.oneCell' = true := by
  by_cases hagg : ∃ cs, v = .agg cs
  · obtain ⟨cs, rfl⟩ := hagg
    cases h with
    | agg cs xs h1 h2 h3 => exact ⟨by simpa [AVal.cells, Value.cells] using ⟨h1, h2⟩, by simpa [Value.cells] using h3⟩
  · have e1 : v.cells = [v] := by cases v <;> first | rfl | exact absurd ⟨_, rfl⟩ hagg
    have e2 : x.cells = #[x] ∧ x.oneCell' = true := by
      cases h <;> first | exact ⟨rfl, rfl⟩ | (simp [okCell] at hv; done) | exact absurd ⟨_, rfl⟩ hagg
    rw [e1, e2.1]
    exact ⟨VL.cons h VL.nil, fun y hy => by simp at hy; subst hy; exact e2.2⟩

/-- a block out of a list of cells -/
theorem new_blk (hS : Sim R w m H) {vs : List AVal} {xs : List Value} (hv : VL R w m H vs xs) (h1 : ∀ x ∈ xs, x.oneCell' = true) (e : TypeId) (B : ABlk) (hB : B = .vals vs ∨ ∃ l, toBytes vs = some l ∧ B = .bytes l) :
    Stp R w m H (w.alloc (.cells xs.toArray e)) (upd m H.length w.heap.size) (H ++ [B]) := by
  refine hS.alloc B xs e (0, 0) (fun i _ => by omega) h1 ?_
  rcases hB with rfl | ⟨l, hl, rfl⟩
  · exact ⟨xs, [], by simp, hv⟩
  · rw [toBytes_eq hl] at hv
    exact ⟨[], by rw [hv.bytes_inv]; simp⟩
theorem upd_self (m : Mp) (k g : Nat) : upd m k g k = some g := by unfold upd; simp

theorem alloc_sound (hS : Sim R w m H) {t : TypeId} {z : List AVal} (h : zeroT P t = some z) {o : Oper} (ho : o.op = .alloc t) :
    ∃ x w' m', Runs P o a w x w' ∧ Stp R w m H w' m' (H ++ [.vals z]) ∧ VR R w' m' (H ++ [.vals z]) (.ptr H.length 0) x := by
  obtain ⟨v, h1, h2, h3⟩ := zeroT_run h w
  have s := new_blk hS (h2 R w m H) h3 t (.vals z) (.inl rfl)
  refine ⟨_, _, _, .inl ?_, s, .ptr _ _ w.heap.size (upd_self _ _ _)⟩
  simp [execOp, ho, Instr.alloc, h1, newVar, newRow]
theorem box_sound (hS : Sim R w m H) {t : TypeId} {x : Operand} {v : AVal} (hv : VR R w m H v (a.eval x)) (hok : okCell v = true) {o : Oper} (ho : o.op = .box t x) :
    ∃ x w' m', Runs P o a w x w' ∧ Stp R w m H w' m' (H ++ [.vals v.cells]) ∧ VR R w' m' (H ++ [.vals v.cells]) (.ptr H.length 0) x := by
  obtain ⟨h2, h3⟩ := hv.cells hok
  have s := new_blk hS h2 h3 t (.vals v.cells) (.inl rfl)
  refine ⟨_, _, _, .inl ?_, s, .ptr _ _ w.heap.size (upd_self _ _ _)⟩
  simp [execOp, ho, Instr.box, newVar, newRow]

/-- the cells from a place on -/
theorem load_run {g off n : Nat} {xs : List Value} (hc : ∀ j x, xs[j]? = some x → w.cell? ⟨g, off + j, none⟩ = some x) (hn : n ≤ xs.length) {t : TypeId} {k : Kind} (hk : kindOf P t = some k) (hsz : sizeT P t = some n)
    {vs : List AVal} {v : AVal} (hv : VL R w m H vs (xs.take n)) (h1 : ∀ x ∈ xs, x.oneCell' = true) (hf : fromCells k vs = some v) :
    ∃ x, (loadVar t ⟨g, off, none⟩).run P w = .ok x w ∧ VR R w m H v x := by
  have hlen : (xs.take n).length = n := by simp; omega
  cases k with
  | agg =>
    simp only [fromCells, Option.some.injEq] at hf
    subst hf
    refine ⟨.agg (xs.take n).toArray, ?_, hv.agg fun x hx => h1 x (List.mem_of_mem_take hx)⟩
    have hl := run_loadCells_list (P := P) w ⟨g, off, none⟩ (xs.take n) (fun j x hx => by
      rw [add_off]
      rw [List.getElem?_take] at hx
      split at hx
      · exact hc j x hx
      · cases hx)
    rw [hlen] at hl
    simp [loadVar, kindOf_run hk, sizeT_run hsz, hl]
  | one =>
    match vs, hf with
    | [u], hf =>
      simp only [fromCells, Option.some.injEq] at hf
      subst hf
      obtain ⟨y, r, e, hy, hr⟩ := hv.cons_inv
      have hxy : xs[0]? = some y := by
        have : (xs.take n)[0]? = some y := by rw [e]; rfl
        rw [List.getElem?_take] at this
        split at this
        · exact this
        · cases this
      refine ⟨y, ?_, hy⟩
      have := hc 0 y hxy
      simp [loadVar, kindOf_run hk]
      simp at this
      rw [this]
theorem getD_get {l : List UInt8} {i : Nat} (h : i < l.length) : l[i]? = some (l.getD i 0) := by
  rw [List.getD_eq_getElem?_getD, List.getElem?_eq_getElem h]; rfl

theorem copyBytesV_eq (l : List UInt8) : ∀ (n i : Nat), i + n ≤ l.length → copyBytesV n i l = ((l.drop i).take n).map AVal.byte
  | 0, i, _ => by simp [copyBytesV]
  | n + 1, i, h => by
    rw [copyBytesV, copyBytesV_eq l n (i + 1) (by omega)]
    have : l.drop i = l.getD i 0 :: l.drop (i + 1) := by
      rw [List.getD_eq_getElem?_getD, List.getElem?_eq_getElem (by omega)]
      exact List.drop_eq_getElem_cons (by omega)
    rw [this]; simp

theorem loadF_sound (hS : Sim R w m H) {t : TypeId} {p v : AVal} {y : Value} {c : Option Prop} (hp : VR R w m H p y) (h : loadF P H t p = some (c, v)) (hc : ∀ q, c = some q → q) :
    ∃ ad x, y = .pointer (some ad) ∧ (loadVar t ad).run P w = .ok x w ∧ VR R w m H v x := by
  unfold loadF at h
  split at h
  case h_2 => cases h
  rename_i k n hk hsz
  cases hp with
  | ptr b off g hg =>
    refine ⟨⟨g, off, none⟩, ?_⟩
    simp only at h
    have key : ∀ cs : List AVal, (hget b H).av = cs → hget b H ≠ .dead → ∀ r, (r = (cs.drop off).take n ∧ off + n ≤ cs.length) → fromCells k r = some v → ∃ x, Value.pointer (some ⟨g, off, none⟩) = .pointer (some ⟨g, off, none⟩) ∧ (loadVar t ⟨g, off, none⟩).run P w = .ok x w ∧ VR R w m H v x := by
      intro cs hcs hlive r hr hf
      obtain ⟨xs, e, fr, h1, h2, h3, h4, ys, q, hys, hvl⟩ := hS.cells hlive hg
      obtain ⟨rfl, hle⟩ := hr
      rw [hcs] at hvl
      have hl : cs.length = ys.length := hvl.1
      obtain ⟨x, hx1, hx2⟩ := load_run (P := P) (R := R) (m := m) (H := H) (w := w) (g := g) (off := off) (n := n) (xs := ys.drop off) (fun j x hx => by
        rw [cell_of h1, hys]
        rw [List.getElem?_drop] at hx
        have := (List.getElem?_eq_some_iff.1 hx).1
        rw [List.getElem?_append_left this]; exact hx) (by simp; omega) hk hsz ((hvl.drop off).take n) (fun x hx => h3 x (by rw [hys]; exact List.mem_append_left _ (List.mem_of_mem_drop hx))) hf
      exact ⟨x, rfl, hx1, hx2⟩
    cases hb : hget b H with
    | dead => rw [hb] at h; cases h
    | bytes l =>
      rw [hb] at h
      cases k with
      | agg =>
        simp only [Option.some.injEq, Prod.mk.injEq] at h
        obtain ⟨rfl, rfl⟩ := h
        have hlt : off + n ≤ l.length := hc _ rfl
        exact key (l.map AVal.byte) (by rw [hb]; rfl) (by rw [hb]; simp) _ ⟨by rw [copyBytesV_eq l n off hlt, List.map_take, List.map_drop], by simpa using hlt⟩ rfl
      | one =>
        simp only [Option.some.injEq, Prod.mk.injEq] at h
        obtain ⟨rfl, rfl⟩ := h
        have hlt := hc _ rfl
        obtain ⟨xs, e, fr, h1, h2, h3, h4, _⟩ := hS.cells (by rw [hb]; simp) hg
        rw [hb] at h4
        obtain ⟨r, rfl⟩ := h4
        refine ⟨.int .u8 ((l.getD off 0).toNat : Int), rfl, ?_, .byte _⟩
        have : w.cell? ⟨g, off, none⟩ = some (.int .u8 ((l.getD off 0).toNat : Int)) := by
          rw [cell_of h1, List.getElem?_append_left (by simpa using hlt), List.getElem?_map, getD_get hlt]; rfl
        simp [loadVar, kindOf_run hk, this]
    | vals cs =>
      rw [hb] at h
      simp only at h
      split at h
      · rename_i r hr
        split at h
        · rename_i u hu; cases h; exact key cs (by rw [hb]; rfl) (by rw [hb]; simp) r (partN_eq hr) hu
        · cases h
      · cases h
    | flat cs =>
      rw [hb] at h
      simp only at h
      split at h
      · rename_i r hr
        split at h
        · rename_i u hu; cases h; exact key cs (by rw [hb]; rfl) (by rw [hb]; simp) r (partN_eq hr) hu
        · cases h
      · cases h
  | rop cs g off X h4 h5 h6 =>
    refine ⟨⟨g, off, none⟩, ?_⟩
    simp only at h
    split at h
    · rename_i r hr
      split at h
      · rename_i u hu
        cases h
        obtain ⟨rfl, hle⟩ := partN_eq hr
        simp at hle
        have hvl : VL R w m H cs ((List.range cs.length).map X) := ⟨by simp, fun i v x hv hx => by
          have hi := (List.getElem?_eq_some_iff.1 hv).1
          simp [hi] at hx
          subst hx
          exact (h6 i v hv).lift⟩
        obtain ⟨x, hx1, hx2⟩ := load_run (P := P) (R := R) (m := m) (H := H) (w := w) (g := g) (off := off) (n := n) (xs := (List.range cs.length).map X) (fun j x hx => by
          have hj := (List.getElem?_eq_some_iff.1 hx).1
          simp at hj
          simp [hj] at hx
          subst hx
          exact (h5 j _ (List.getElem?_eq_getElem hj)).1) (by simpa using hle) hk hsz (by simpa using hvl.take n) (fun x hx => by
            obtain ⟨j, hj, rfl⟩ := List.mem_map.1 hx
            simp at hj
            exact (h5 j _ (List.getElem?_eq_getElem hj)).2) hu
        exact ⟨x, rfl, hx1, hx2⟩
      · cases h
    · cases h
  | _ => cases h
end
end Go.Proofs.Ytcooilllmcgcmaa.Ae
