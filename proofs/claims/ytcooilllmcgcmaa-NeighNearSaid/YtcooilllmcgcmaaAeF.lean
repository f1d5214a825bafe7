/- Stores, places in memory, parts of values. No program in sight. -/
import Derived.Test.YtcooilllmcgcmaaAeE
namespace Go.Proofs.Ytcooilllmcgcmaa.Ae
open Go

theorem app_set (b : Nat) (B : ABlk) (H : Hp) : Eff.app ⟨[(b, B)], []⟩ H = hset b B H := by simp [Eff.app, hsets]
theorem app_no (H : Hp) : Eff.app noEff H = H := by simp [Eff.app, hsets, noEff]
theorem app_new (Bs : List ABlk) (H : Hp) : Eff.app ⟨[], Bs⟩ H = H ++ Bs := by simp [Eff.app, hsets]
theorem list_set (l : List Value) (k : Nat) (v : Value) (rest : List Value) (h : k + (rest.length + 1) ≤ l.length) :
    (l.set k v).take (k + 1) ++ (rest ++ (l.set k v).drop (k + 1 + rest.length)) = l.take k ++ (v :: rest ++ l.drop (k + (rest.length + 1))) := by
  rw [List.set_eq_take_append_cons_drop, if_pos (by omega)]
  have h1 : (l.take k).length = k := by simp; omega
  rw [List.take_append, List.drop_append, h1]
  have e1 : List.take (k + 1) (l.take k) = l.take k := List.take_of_length_le (by omega)
  have e2 : List.drop (k + 1 + rest.length) (l.take k) = [] := List.drop_of_length_le (by omega)
  rw [e1, e2, show k + 1 - k = 1 by omega, show k + 1 + rest.length - k = rest.length + 1 by omega]
  simp [List.drop_drop, show k + 1 + rest.length = k + (rest.length + 1) by omega]

theorem storeG (P : Program) (g off : Nat) (e : TypeId) (fr : Nat × Nat) : ∀ (vs : List Value) (i : Nat) (cur : List Value) (w : World), w.heap[g]? = some (.cells cur.toArray e fr) → Soft cur.length fr → off + i + vs.length ≤ cur.length → (∀ v ∈ vs, v.oneCell' = true) →
    (storeCells ⟨g, off, none⟩ vs i).run P w = .ok () (w.setRow g (cur.take (off + i) ++ (vs ++ cur.drop (off + i + vs.length))).toArray)
  | [], i, cur, w, hg, _, _, _ => by
    simp only [storeCells, List.nil_append, List.length_nil, Nat.add_zero, List.take_append_drop]
    rw [setRow_self w g cur.toArray e fr hg]
    rfl
  | v :: rest, i, cur, w, hg, hs, hl, h1 => by
    have hi : off + i < cur.length := by simp at hl; omega
    have hst : (store ((⟨g, off, none⟩ : Addr).add i) v).run P w = .ok () (w.setRow g (cur.set (off + i) v).toArray) := by
      rw [add_off, run_store P w _ v _ (h1 v (by simp)), cell_of hg, List.getElem?_eq_getElem hi]
      simp [frozen_of hg hs hi, setCell_eq_setRow w g (off + i) cur.toArray e fr v hg]
    have ih := storeG P g off e fr rest (i + 1) (cur.set (off + i) v) (w.setRow g (cur.set (off + i) v).toArray) (setRow_heap w g cur.toArray _ e _ hg) (by simpa using hs) (by simp at hl ⊢; omega) (fun x hx => h1 x (by simp [hx]))
    simp only [storeCells, Sem.run_bind, hst, Result.andThen_ok, ih, setRow_setRow]
    congr 3
    have := list_set cur (off + i) v rest (by simp at hl; omega)
    rw [← Nat.add_assoc, this]
    simp

section
variable {P : Program} {R : Nat → Prop} {w : World} {m : Mp} {H : Hp} {env : Env} {a : Act}

theorem storeF_sound (hS : Sim R w m H) {t : TypeId} {p v : AVal} {y x : Value} {c : Option Prop} {ef : Eff} (hp : VR R w m H p y) (hv : VR R w m H v x) (h : storeF P H t p v = some (c, ef)) (hc : ∀ q, c = some q → q) :
    ∃ ad w', y = .pointer (some ad) ∧ (storeVar t ad x).run P w = .ok () w' ∧ Stp R w m H w' m (ef.app H) := by
  unfold storeF at h
  split at h
  case h_2 => cases h
  rename_i n hsz
  cases hp with
  | ptr b off g hg =>
    refine ⟨⟨g, off, none⟩, ?_⟩
    simp only at h
    cases hb : hget b H with
    | dead => rw [hb] at h; cases h
    | flat cs => rw [hb] at h; cases h
    | bytes l =>
      rw [hb] at h
      cases hv <;> simp only [reduceCtorEq] at h
      rename_i u
      split at h
      case h_2 => cases h
      simp only [Option.some.injEq, Prod.mk.injEq] at h
      obtain ⟨rfl, rfl⟩ := h
      have hlt := hc _ rfl
      have hlive : hget b H ≠ .dead := by rw [hb]; simp
      obtain ⟨xs, e, fr, h1, h2, h3, h4, _⟩ := hS.cells hlive hg
      rw [hb] at h4
      obtain ⟨r, rfl⟩ := h4
      have hst := storeG P g off e fr [.int .u8 (u.toNat : Int)] 0 _ w h1 h2 (by simp; omega) (by simp [Value.oneCell'])
      have hbl : off + 1 ≤ l.length := hlt
      have e1 : List.take (off + 0) (l.map (fun x => Value.int .u8 (x.toNat : Int)) ++ r) ++ ([Value.int .u8 (u.toNat : Int)] ++ List.drop (off + 0 + [Value.int .u8 (u.toNat : Int)].length) (l.map (fun x => Value.int .u8 (x.toNat : Int)) ++ r))
          = (l.set off u).map (fun x => Value.int .u8 (x.toNat : Int)) ++ r := by
        rw [List.set_eq_take_append_cons_drop, if_pos hlt]
        simp only [Nat.add_zero, List.length_cons, List.length_nil, Nat.zero_add]
        rw [List.take_append_of_le_length (by simp; omega), List.drop_append_of_le_length (by simp; omega)]
        simp
      rw [e1] at hst
      rw [app_set]
      refine ⟨_, rfl, ?_, hS.put hlive hg h1 (.bytes (l.set off u)) (by rw [hb]; simp [ABlk.len]) ?_ ?_ ⟨r, rfl⟩⟩
      · simpa [storeVar, Value.cells, sizeT_run hsz] using hst
      · simp
      · intro y hy
        rcases List.mem_append.1 hy with hy | hy
        · obtain ⟨q, _, rfl⟩ := List.mem_map.1 hy; rfl
        · exact h3 y (List.mem_append_right _ hy)
    | vals cs =>
      rw [hb] at h
      simp only at h
      cases hck : (Nat.beq v.cells.length n && okCell v) with
      | false => rw [hck] at h; cases h
      | true =>
        rw [hck] at h
        simp only [cond_true] at h
        simp only [Bool.and_eq_true] at hck
        have hn : v.cells.length = n := Nat.eq_of_beq_eq_true hck.1
        split at h
        case h_2 => cases h
        rename_i r hr
        simp only [Option.some.injEq, Prod.mk.injEq] at h
        obtain ⟨rfl, rfl⟩ := h
        obtain ⟨rfl, hle⟩ := putN_eq hr
        have hlive : hget b H ≠ .dead := by rw [hb]; simp
        obtain ⟨xs, e, fr, h1, h2, h3, h4, _⟩ := hS.cells hlive hg
        rw [hb] at h4
        obtain ⟨ys, q, rfl, hvl⟩ := h4
        obtain ⟨hcl, hc1⟩ := hv.cells hck.2
        have hl1 := hvl.1
        have hl2 := hcl.1
        have hst := storeG P g off e fr x.cells.toList 0 _ w h1 h2 (by simp at hl2 ⊢; omega) hc1
        have e1 : List.take (off + 0) (ys ++ q) ++ (x.cells.toList ++ List.drop (off + 0 + x.cells.toList.length) (ys ++ q)) = (ys.take off ++ (x.cells.toList ++ ys.drop (off + v.cells.length))) ++ q := by
          rw [Nat.add_zero, List.take_append_of_le_length (by omega), List.drop_append_of_le_length (by omega), ← hl2]
          simp
        rw [e1] at hst
        rw [app_set]
        refine ⟨_, rfl, ?_, hS.put hlive hg h1 (.vals (cs.take off ++ (v.cells ++ cs.drop (off + v.cells.length)))) (by rw [hb]; simp [ABlk.len]; omega) (by simp at hl2 ⊢; omega) ?_ ⟨_, q, rfl, (hvl.take off).append (hcl.append (hvl.drop _))⟩⟩
        · have : x.cells.size = n := by rw [← hn, hl2]; simp
          simpa [storeVar, sizeT_run hsz, this] using hst
        · intro y hy
          rcases List.mem_append.1 hy with hy | hy
          · rcases List.mem_append.1 hy with hy | hy
            · exact h3 y (List.mem_append_left _ (List.mem_of_mem_take hy))
            · rcases List.mem_append.1 hy with hy | hy
              · exact hc1 y hy
              · exact h3 y (List.mem_append_left _ (List.mem_of_mem_drop hy))
          · exact h3 y (List.mem_append_right _ hy)
  | _ => cases h

theorem movePtr_sound {p q : AVal} {y : Value} {n : Nat} (hp : VR R w m H p y) (h : movePtr p n = some q) : ∃ g off, y = .pointer (some ⟨g, off, none⟩) ∧ VR R w m H q (.pointer (some ⟨g, off + n, none⟩)) := by
  cases hp with
  | ptr b off g hg => simp only [movePtr, Option.some.injEq] at h; subst h; exact ⟨g, off, rfl, .ptr b (off + n) g hg⟩
  | rop cs g off X h4 h5 h6 =>
    simp only [movePtr] at h
    split at h
    · rename_i r hr
      cases h
      obtain ⟨rfl, hle⟩ := dropN_eq hr
      refine ⟨g, off, rfl, .rop _ g (off + n) (fun j => X (n + j)) h4 (fun j v hv => ?_) fun j v hv => ?_⟩
      · rw [List.getElem?_drop] at hv; rw [Nat.add_assoc]; exact h5 _ v hv
      · rw [List.getElem?_drop] at hv; exact h6 _ v hv
    · cases h
  | _ => simp [movePtr] at h
theorem fieldOf_eq {s : TypeId} {i o : Nat} {t : TypeId} (h : fieldOf P s i = some (o, t)) : ∃ fs f, P.underlying s = some (.struct fs) ∧ fs[i]? = some f ∧ f.offset = o ∧ f.type = t := by
  unfold fieldOf at h
  split at h
  · rename_i fs hu
    split at h
    · rename_i f hf; cases h; exact ⟨fs, f, hu, hf, rfl, rfl⟩
    · cases h
  · cases h
theorem fieldAddrF_sound {s : TypeId} {p q : AVal} {y : Value} {i : Nat} (hp : VR R w m H p y) (h : fieldAddrF P s p i = some q) : ∃ x, (Instr.fieldAt s y i).run P w = .ok x w ∧ VR R w m H q x := by
  unfold fieldAddrF at h
  split at h
  case h_2 => cases h
  rename_i o t hf
  split at h
  case h_2 => cases h
  rename_i n hsz
  obtain ⟨fs, f, hu, hfi, rfl, rfl⟩ := fieldOf_eq hf
  obtain ⟨g, off, rfl, hq⟩ := movePtr_sound hp h
  refine ⟨_, ?_, hq⟩
  simp [Instr.fieldAt, run_underlying hu, hfi, Instr.sureAddr, fieldPlace, sizeT_run hsz, add_off]
theorem part_sound {t : TypeId} {k : Kind} {o n : Nat} {cs r : List AVal} {xs : List Value} {v : AVal} (hk : kindOf P t = some k) (hsz : sizeT P t = some n) (hcs : VL R w m H cs xs) (h1 : ∀ x ∈ xs, x.oneCell' = true)
    (hr : partN o n cs = some r) (hf : fromCells k r = some v) : ∃ x, (part t xs.toArray o).run P w = .ok x w ∧ VR R w m H v x := by
  obtain ⟨rfl, hle⟩ := partN_eq hr
  have hl := hcs.1
  have hv := (hcs.drop o).take n
  cases k with
  | agg =>
    simp only [fromCells, Option.some.injEq] at hf
    subst hf
    refine ⟨.agg ((xs.drop o).take n).toArray, ?_, hv.agg fun x hx => h1 x (List.mem_of_mem_drop (List.mem_of_mem_take hx))⟩
    simp [part, kindOf_run hk, sizeT_run hsz, List.extract_toArray, List.extract]
  | one =>
    generalize hq : (cs.drop o).take n = q at *
    match q, hf with
    | [u], hf =>
      simp only [fromCells, Option.some.injEq] at hf
      subst hf
      obtain ⟨y, r, e, hy, hr⟩ := hv.cons_inv
      refine ⟨y, ?_, hy⟩
      have hxy : xs[o]? = some y := by
        have : ((xs.drop o).take n)[0]? = some y := by rw [e]; rfl
        rw [List.getElem?_take] at this
        split at this
        · rwa [List.getElem?_drop, Nat.add_zero] at this
        · cases this
      simp [part, kindOf_run hk, hxy]
theorem fieldF_sound {s : TypeId} {p q : AVal} {y : Value} {i : Nat} (hp : VR R w m H p y) (h : fieldF P s p i = some q) : ∃ x, (Instr.field s y i).run P w = .ok x w ∧ VR R w m H q x := by
  unfold fieldF at h
  split at h
  case h_2 => cases h
  rename_i o t hf
  obtain ⟨fs, f, hu, hfi, rfl, rfl⟩ := fieldOf_eq hf
  split at h
  case h_2 => cases h
  rename_i k n cs hk hsz
  cases hp with
  | agg cs xs g1 g2 g3 =>
    split at h
    case h_2 => cases h
    rename_i r hr
    obtain ⟨x, h1, h2⟩ := part_sound (P := P) hk hsz ⟨g1, g2⟩ g3 hr h
    exact ⟨x, by simp [Instr.field, run_underlying hu, hfi, asAgg, h1], h2⟩

theorem intOf_sound {v : AVal} {x : Value} {n : Int} (h : VR R w m H v x) (hn : intOf v = some n) : ∃ k, x = .int k n := by
  cases h <;> simp [intOf] at hn
  · subst hn; exact ⟨_, rfl⟩
  · subst hn; exact ⟨_, rfl⟩
end
end Go.Proofs.Ytcooilllmcgcmaa.Ae
