/- Every operation that is no call: what the evaluator says is what the model does. No program in sight. -/
import Derived.Test.YtcooilllmcgcmaaAeN
namespace Go.Proofs.Ytcooilllmcgcmaa.Ae
open Go
section
variable {P : Program} {R : Nat → Prop} {w : World} {m : Mp} {H : Hp} {env : Env} {a : Act}

theorem binF_sound {op : BinOp} {t : TypeId} {x y : AVal} {u v : Value} {c : Option Prop} {q : AVal} (hx : VR R w m H x u) (hy : VR R w m H y v) (h : binF P op t x y = some (c, q)) (hc : ∀ p, c = some p → p) (xo yo : Operand) :
    ∃ z, (do eqGuard op t xo yo u v; binOp op t u v).run P w = .ok z w ∧ VR R w m H q z := by
  have plainG : (∀ cs ds, ¬ (u = .agg cs ∧ v = .agg ds)) → ¬ (u = .nilIface ∧ v = .nilIface) → (eqGuard op t xo yo u v).run P w = .ok () w := by
    intro h1 h2
    unfold eqGuard
    cases op <;> simp <;> (cases u <;> cases v <;> first | rfl | exact absurd ⟨rfl, rfl⟩ (h1 _ _) | exact absurd ⟨rfl, rfl⟩ h2)
  have fin : ∀ {z : Value}, (eqGuard op t xo yo u v).run P w = .ok () w → (binOp op t u v).run P w = .ok z w → VR R w m H q z → ∃ z, (do eqGuard op t xo yo u v; binOp op t u v).run P w = .ok z w ∧ VR R w m H q z := by
    intro z h1 h2 h3
    exact ⟨z, by simp only [Sem.run_bind, h1, Result.andThen_ok, h2], h3⟩
  unfold binF at h
  split at h
  · rename_i k n k' n'
    cases hx with
    | int =>
    cases hy with
    | int =>
    have g := plainG (by simp) (by simp)
    split at h
    · obtain ⟨z, h1, h2⟩ := shiftF_sound (P := P) (R := R) (w := w) (m := m) (H := H) (k' := k') h hc t w
      exact fin g h1 h2
    · split at h
      · rename_i hk
        obtain rfl := kindEq_eq hk
        split at h
        · rename_i r hr
          simp only [Option.some.injEq, Prod.mk.injEq] at h
          obtain ⟨rfl, rfl⟩ := h
          exact fin g (cmpF_sound hr t w) (.bool _)
        · obtain ⟨z, h1, h2⟩ := arithF_sound (P := P) (R := R) (w := w) (m := m) (H := H) h hc t w
          exact fin g h1 h2
      · cases h
  · cases hx with
    | byte =>
    cases hy with
    | int =>
    obtain ⟨z, h1, h2⟩ := shiftB_sound (P := P) (R := R) (w := w) (m := m) (H := H) (k' := _) h hc t w
    exact fin (plainG (by simp) (by simp)) h1 h2
  · cases hx with
    | int =>
    cases hy with
    | byte =>
    obtain ⟨z, h1, h2⟩ := shiftF_sound (P := P) (R := R) (w := w) (m := m) (H := H) (k' := .u8) h hc t w
    exact fin (plainG (by simp) (by simp)) h1 h2
  · cases hx with
    | byte =>
    cases hy with
    | byte =>
    have g := plainG (by simp) (by simp)
    split at h
    · obtain ⟨z, h1, h2⟩ := shiftB_sound (P := P) (R := R) (w := w) (m := m) (H := H) (k' := .u8) h hc t w
      exact fin g h1 h2
    · rename_i hs
      obtain ⟨z, h1, h2⟩ := byteF_sound (P := P) (R := R) (w := w) (m := m) (H := H) hs h hc t w
      exact fin g h1 h2
  · cases hx with
    | str =>
    cases hy with
    | str =>
    obtain ⟨z, h1, h2⟩ := strF_sound (P := P) (R := R) (w := w) (m := m) (H := H) h hc t w
    exact fin (plainG (by simp) (by simp)) h1 h2
  · have gen : ∀ op', (op' = .eql ∨ op' = .neq) → ∀ r, eqF P t x y = some r → ∀ b, (Op.equal t u v).run P w = .ok b w → (binOp op' t u v).run P w = .ok (.bool (if op' = .eql then b else !b)) w := by
      intro op' ho r hr b hb
      have : binOp op' t u v = if op' = .eql then (do pure (.bool (← Op.equal t u v))) else (do pure (.bool (!(← Op.equal t u v)))) := by
        rcases ho with rfl | rfl <;> cases hx <;> cases hy <;> first
          | (simp only [eqF, reduceCtorEq] at hr; done)
          | rfl
      rw [this]
      rcases ho with rfl | rfl <;> simp [hb]
    split at h
    · split at h
      · rename_i r hr
        simp only [Option.some.injEq, Prod.mk.injEq] at h
        obtain ⟨rfl, rfl⟩ := h
        obtain ⟨e1, e2, e3⟩ := eqF_sound hx hy hr xo yo w
        exact fin e2 (by simpa using gen .eql (.inl rfl) r hr r e1) (.bool _)
      · cases h
    · split at h
      · rename_i r hr
        simp only [Option.some.injEq, Prod.mk.injEq] at h
        obtain ⟨rfl, rfl⟩ := h
        obtain ⟨e1, e2, e3⟩ := eqF_sound hx hy hr xo yo w
        exact fin e3 (by simpa using gen .neq (.inr rfl) r hr r e1) (.bool _)
      · cases h
    · cases h
theorem unF_sound {op : UnOp} {x : AVal} {u : Value} {c : Option Prop} {q : AVal} (hx : VR R w m H x u) (h : unF op x = some (c, q)) (hc : ∀ p, c = some p → p) : ∃ z, (Op.unary op u).run P w = .ok z w ∧ VR R w m H q z := by
  unfold unF at h
  split at h
  · cases hx with
    | bool b =>
    simp only [Option.some.injEq, Prod.mk.injEq] at h
    obtain ⟨rfl, rfl⟩ := h
    exact ⟨_, by simp [Op.unary] <;> rfl, .bool _⟩
  · rename_i k n
    cases hx with
    | int =>
    obtain ⟨z, h1, h2⟩ := arithF_sound (P := P) (R := R) (w := w) (m := m) (H := H) h hc 0 w
    exact ⟨z, by show (Op.intArith .sub k 0 n).run P w = _; simpa [binOp] using h1, h2⟩
  · rename_i k n
    cases hx with
    | int =>
    simp only [Option.some.injEq, Prod.mk.injEq] at h
    obtain ⟨rfl, rfl⟩ := h
    exact ⟨_, by simp [Op.unary, intBits_xor] <;> rfl, .int _ _⟩
  · rename_i n
    cases hx with
    | byte =>
    simp only [Option.some.injEq, Prod.mk.injEq] at h
    obtain ⟨rfl, rfl⟩ := h
    refine ⟨.int .u8 (bits .xor .u8 255 (n.toNat : Int)), by simp [Op.unary, intBits_xor, IntKind.signed, IntKind.max, IntKind.bits], ret_byte ?_⟩
    have h1 := xor_u8 255 n
    rw [show ((255 : UInt8).toNat : Int) = 255 from rfl] at h1
    rw [h1]
    congr 1
  · cases h

theorem partOpers_sound (hE : EnvR R w m H env a) : ∀ {ps : List (Nat × Operand)} {l : List (Nat × AVal)}, partOpers env ps = some l →
    l.length = (ps.map fun (p : Nat × Operand) => (p.1, a.eval p.2)).length ∧ ∀ (i : Nat) p q, l[i]? = some p → (ps.map fun (p : Nat × Operand) => (p.1, a.eval p.2))[i]? = some q → p.1 = q.1 ∧ VR R w m H p.2 q.2
  | [], l, h => by simp [partOpers] at h; subst h; exact ⟨rfl, fun i p q h => by simp at h⟩
  | (j, x) :: ps, l, h => by
    simp only [partOpers] at h
    split at h
    · rename_i v l' h1 h2
      cases h
      obtain ⟨a1, a2⟩ := partOpers_sound hE h2
      refine ⟨by simpa using a1, fun i p q hp hq => ?_⟩
      cases i with
      | zero =>
        simp at hp hq; subst hp; subst hq
        exact ⟨rfl, oper_sound hE h1⟩
      | succ i => exact a2 i p q (by simpa using hp) (by simpa using hq)
    · cases h

theorem sizes_run : ∀ (l : List Field), (l.all fun f => (sizeT P f.type).isSome) = true → ∀ w : World, (l.mapM fun (f : Field) => (do pure (f.offset, ← sizeOf f.type) : Sem (Nat × Nat))).run P w = .ok (l.map fun f => (f.offset, (sizeT P f.type).getD 0)) w
  | [], _, w => by simp
  | f :: l, h, w => by
    simp only [List.all_cons, Bool.and_eq_true] at h
    obtain ⟨n, hn⟩ := Option.isSome_iff_exists.1 h.1
    have ih := sizes_run l h.2 w
    simp only [List.mapM_cons, Sem.run_bind, sizeT_run hn, Result.andThen_ok, Sem.run_pure, ih, List.map_cons, hn, Option.getD_some]
theorem place_eq {t : TypeId} {fs : Array Field} (hu : P.underlying t = some (.struct fs)) (hs : (fs.toList.all fun f => (sizeT P f.type).isSome) = true) :
    fieldPlaceF P t = fun i => (fs.toList.map fun f => (f.offset, (sizeT P f.type).getD 0)).toArray[i]? := by
  funext i
  simp only [fieldPlaceF, fieldOf, hu]
  cases hf : fs[i]? with
  | none =>
    have : fs.toList[i]? = none := by rw [Array.getElem?_toList]; exact hf
    simp [this]
  | some f =>
    have h1 : fs.toList[i]? = some f := by rw [Array.getElem?_toList]; exact hf
    obtain ⟨n, hn⟩ := Option.isSome_iff_exists.1 (List.all_eq_true.1 hs f (List.mem_of_getElem? h1))
    simp [h1, hn]
theorem buildF_sound (hE : EnvR R w m H env a) {t : TypeId} {parts : Array (Nat × Operand)} {l : List (Nat × AVal)} {v : AVal} (hl : partOpers env parts.toList = some l) (h : buildF P t l = some v) :
    ∃ x, (Instr.build t (parts.map fun (p : Nat × Operand) => (p.1, a.eval p.2))).run P w = .ok x w ∧ VR R w m H v x := by
  have hp := partOpers_sound hE hl
  unfold buildF at h
  split at h
  · rename_i z fs hz hu
    obtain ⟨zv, g1, g2, g3⟩ := zeroT_run hz w
    cases hck : (fs.toList.all fun f => (sizeT P f.type).isSome) with
    | false => rw [hck] at h; cases h
    | true =>
    rw [hck] at h
    simp only [cond_true] at h
    split at h
    case h_2 => cases h
    rename_i cs hcs
    cases h
    rw [place_eq hu hck] at hcs
    obtain ⟨ys, f1, f2, f3⟩ := fill_sound (g2 R w m H) g3 hp hcs
    refine ⟨.agg ys.toArray, ?_, f2.agg f3⟩
    have hm : (fs.mapM fun (f : Field) => (do pure (f.offset, ← sizeOf f.type) : Sem (Nat × Nat))).run P w = .ok (fs.toList.map fun f => (f.offset, (sizeT P f.type).getD 0)).toArray w := by
      rw [Array.mapM_eq_mapM_toList, Sem.run_map, sizes_run fs.toList hck w]; rfl
    simp only [Instr.build, Sem.run_bind, g1, Result.andThen_ok, run_underlying hu, hm]
    simp only [Array.toArray_toList] at f1
    rw [Array.toList_map, f1]
    rfl
  · rename_i z n e hz hu
    obtain ⟨zv, g1, g2, g3⟩ := zeroT_run hz w
    split at h
    case h_2 => cases h
    rename_i sz hsz
    split at h
    case h_2 => cases h
    rename_i cs hcs
    cases h
    obtain ⟨ys, f1, f2, f3⟩ := fill_sound (g2 R w m H) g3 hp hcs
    refine ⟨.agg ys.toArray, ?_, f2.agg f3⟩
    simp only [Instr.build, Sem.run_bind, g1, Result.andThen_ok, run_underlying hu, sizeT_run hsz]
    simp only [Array.toArray_toList] at f1
    rw [Array.toList_map, f1]
    rfl
  · cases h
theorem BR_mk {cs : List AVal} {ys : List Value} (h : VL R w m H cs ys) : BR R w m H (mkBlk cs) ys ∧ (mkBlk cs).len = cs.length := by
  unfold mkBlk
  split
  · rename_i l hl
    have e := toBytes_eq hl
    rw [e] at h
    exact ⟨⟨[], by rw [h.bytes_inv]; simp⟩, by rw [e]; simp [ABlk.len]⟩
  · exact ⟨⟨ys, [], by simp, h⟩, rfl⟩
theorem buildSliceF_sound (hS : Sim R w m H) (hE : EnvR R w m H env a) {t : TypeId} {len : Nat} {parts : Array (Nat × Operand)} {l : List (Nat × AVal)} {v : AVal} {ef : Eff} (hl : partOpers env parts.toList = some l) (h : buildSliceF P H t len l = some (v, ef)) :
    ∃ x w' m', (Instr.buildSlice t len (parts.map fun (p : Nat × Operand) => (p.1, a.eval p.2))).run P w = .ok x w' ∧ Stp R w m H w' m' (ef.app H) ∧ VR R w' m' (ef.app H) v x := by
  have hp := partOpers_sound hE hl
  unfold buildSliceF at h
  split at h
  case h_2 => cases h
  rename_i e hu
  split at h
  case h_2 => cases h
  rename_i sz z hsz hz
  cases hck : (Nat.ble (len * sz) 100000 && Nat.beq z.length sz && Nat.ble 1 sz) with
  | false => rw [hck] at h; cases h
  | true =>
  rw [hck] at h
  simp only [cond_true] at h
  simp only [Bool.and_eq_true] at hck
  have hle := Nat.le_of_ble_eq_true hck.1.1
  have hzl := Nat.eq_of_beq_eq_true hck.1.2
  have hs1 := Nat.le_of_ble_eq_true hck.2
  split at h
  case h_2 => cases h
  rename_i cs hcs
  simp only [Option.some.injEq, Prod.mk.injEq] at h
  obtain ⟨rfl, rfl⟩ := h
  obtain ⟨zv, g1, g2, g3⟩ := zeroT_run hz w
  have hzv : z.length = zv.cells.size := by have := (g2 R w m H).1; simpa using this
  have hmade := (g2 R w m H).made (by omega) len
  have hone := one_made g3 (by omega) (len * z.length)
  obtain ⟨ys, f1, f2, f3⟩ := fill_sound hmade hone hp hcs
  have hyl : ys.length = len * sz := by
    have h1 := f2.1
    have h2 : ∀ {place : Nat → Option (Nat × Nat)} {ps : List (Nat × AVal)} {cs r : List AVal}, layParts place cs ps = some r → r.length = cs.length := by
      intro place ps
      induction ps with
      | nil => intro cs r h; simp [layParts] at h; rw [h]
      | cons p ps ih =>
        intro cs r h
        obtain ⟨i, v⟩ := p
        simp only [layParts] at h
        split at h
        case h_2 => cases h
        rename_i off n _
        cases hc : (Nat.beq v.cells.length n && okCell v) with
        | false => rw [hc] at h; cases h
        | true =>
        rw [hc] at h
        simp only [cond_true] at h
        split at h
        case h_2 => cases h
        rename_i cs' hput
        obtain ⟨rfl, hle⟩ := putN_eq hput
        rw [ih h]; simp; omega
    rw [← h1, h2 hcs, rep_len, hzl]
  have hroom : len ≤ room := by
    have := Nat.le_mul_of_pos_right len hs1
    unfold room; omega
  obtain ⟨s1, s2⟩ := new_sl hS (B := mkBlk cs) (xs := ys) (e := e) f3 (BR_mk f2).1 (n := len) (sz := sz) hyl (by rw [(BR_mk f2).2, f2.1, hyl]) hroom
  rw [app_new]
  refine ⟨_, _, _, ?_, s1, s2⟩
  have hmk : (Array.range (len * sz)).map (fun x => zv.cells[x % zv.cells.size]!) = madeCells zv.cells (len * z.length) := by rw [hzl]; rfl
  by_cases h0 : len * sz = 0
  · have hl0 : len = 0 := by rcases Nat.mul_eq_zero.1 h0 with h | h <;> omega
    subst hl0
    have hy0 : ys = [] := List.eq_nil_of_length_eq_zero (by rw [hyl]; simp)
    subst hy0
    have e0 : (madeCells zv.cells (0 * z.length)).toList.toArray = (#[] : Array Value) := by simp [madeCells]
    rw [e0] at f1
    simp only [Instr.buildSlice, Sem.run_bind, run_underlying hu, Result.andThen_ok, sizeT_run hsz, Nat.zero_mul]
    simp [newRow]
    rw [show (Array.map (fun _ => (default : Value)) (Array.range 0)) = #[] by simp, f1]
    simp
  · have e0 : (madeCells zv.cells (len * z.length)).toList.toArray = madeCells zv.cells (len * z.length) := by simp
    rw [e0, ← hmk] at f1
    have hng : ¬ (len * sz > 2 ^ 24) := by omega
    simp only [Instr.buildSlice, Sem.run_bind, run_underlying hu, Result.andThen_ok, sizeT_run hsz]
    rw [if_neg hng]
    simp [h0, newRow, g1]
    rw [f1]
    simp
end
end Go.Proofs.Ytcooilllmcgcmaa.Ae
