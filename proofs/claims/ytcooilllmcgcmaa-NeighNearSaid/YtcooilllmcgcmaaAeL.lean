/- Copy; structs, arrays and slices built of parts. No program in sight. -/
import Derived.Test.YtcooilllmcgcmaaAeK
namespace Go.Proofs.Ytcooilllmcgcmaa.Ae
open Go
section
variable {P : Program} {R : Nat → Prop} {w : World} {m : Mp} {H : Hp} {env : Env} {a : Act}

/-- the first bytes of a source -/
theorem srcBytes (hS : Sim R w m H) {x : AVal} {y : Value} {l : List UInt8} (hx : VR R w m H x y) (h : bytesSrc H x = some l) :
    (Builtin.lenOf y).run P w = .ok l.length w ∧ ∀ n, n ≤ l.length → (Builtin.firstCells 1 n y).run P w = .ok ((l.take n).map bcell).toArray w := by
  by_cases hs : ∃ k, x = .str k
  · obtain ⟨k, rfl⟩ := hs
    simp only [bytesSrc, Option.some.injEq] at h; subst h
    cases hx with
    | str _ hl =>
    have hsz : (⟨k.toArray⟩ : ByteArray).size = k.length := by show k.toArray.size = _; simp
    refine ⟨by simp [Builtin.lenOf, hsz], fun n hn => ?_⟩
    have : (⟨k.toArray⟩ : ByteArray).extract 0 n = ⟨(k.take n).toArray⟩ := by
      apply ByteArray.ext; rw [ByteArray.data_extract]; simp [List.extract_toArray, List.extract]
    simp [Builtin.firstCells]
    rfl
  · have h' : bytesOf H x = some l := by unfold bytesSrc at h; cases x <;> first | exact h | exact absurd ⟨_, rfl⟩ hs
    obtain ⟨ad, c, rfl, h1, h2, h3⟩ := bytesOf_sound hS hx h'
    refine ⟨by simp [Builtin.lenOf], fun n hn => ?_⟩
    by_cases h0 : 0 < l.length
    · obtain ⟨g, off, rfl, h4⟩ := h3 h0
      refine run_firstCells_some w 1 n _ _ _ _ (by simp; omega) fun j v hv => ?_
      rw [add_off]
      rw [List.getElem?_map] at hv
      obtain ⟨u, hu, rfl⟩ := Option.map_eq_some_iff.1 hv
      rw [List.getElem?_take] at hu
      split at hu
      · exact h4 j u hu
      · cases hu
    · have hl0 : l = [] := List.eq_nil_of_length_eq_zero (by omega)
      subst hl0
      have : n = 0 := by simpa using hn
      subst this
      cases ad with
      | none => simp [Builtin.firstCells]
      | some ad => exact run_firstCells_some w 1 0 _ _ _ _ (by simp) fun j v hv => by simp at hv

theorem copyF_sound (hS : Sim R w m H) {t u ty : TypeId} {d x q : AVal} {dv y : Value} {c : Option Prop} {ef : Eff} (hd : VR R w m H d dv) (hx : VR R w m H x y) (h : copyF P H t d x = some (c, q, ef)) (hc : ∀ p, c = some p → p) :
    ∃ z w', (Builtin.copy_ #[t, u] ty #[dv, y]).run P w = .ok z w' ∧ Stp R w m H w' m (ef.app H) ∧ VR R w' m (ef.app H) q z := by
  unfold copyF at h
  split at h
  case h_2 => cases h
  rename_i b off len sz l hb hl
  obtain ⟨e, ht, he, hsz⟩ := isBytes_eq hb
  obtain ⟨q1, q2⟩ := srcBytes (P := P) hS hx hl
  have step : ∀ (base : Option Addr) (cp n : Nat) (w' : World), dv = .slice base len cp → n = Nat.min l.length len → (match base with | none => w' = w | some ad => (storeCells ad ((l.take n).map bcell)).run P w = .ok () w') →
      (Builtin.copy_ #[t, u] ty #[dv, y]).run P w = .ok (.int .i64 (n : Int)) w' := by
    intro base cp n w' hdv hn hst
    subst hdv
    have h1 := q2 n (by rw [hn]; exact Nat.min_le_left _ _)
    subst hn
    cases base with
    | none =>
      simp only at hst
      subst hst
      simp [Builtin.copy_, run_underlying ht, q1, sizeT_run hsz, h1, goInt]
    | some ad =>
      simp only at hst
      simp [Builtin.copy_, run_underlying ht, q1, sizeT_run hsz, h1, goInt] at hst ⊢
      rw [hst]; simp
  cases hd with
  | sl _ _ _ _ ad cp g1 g2 g3 g4 g5 g6 =>
  cases hbk : hget b H with
  | dead => rw [hbk] at h; cases h
  | flat cs => rw [hbk] at h; cases h
  | bytes k =>
    rw [hbk] at h
    simp only [Option.some.injEq, Prod.mk.injEq] at h
    obtain ⟨rfl, rfl, rfl⟩ := h
    obtain ⟨p1, p2⟩ := hc _ rfl
    have hmin : l.length = Nat.min l.length len := (Nat.min_eq_left p2).symm
    rw [app_set]
    by_cases h0 : 0 < l.length
    · obtain ⟨g, nn, e1, rfl, e3, e4⟩ := g5 (by clear g5; omega)
      clear g5
      have hlive : hget b H ≠ .dead := by rw [hbk]; simp
      obtain ⟨xs, e', fr, r1, r2, r3, r4, _⟩ := hS.cells hlive e1
      rw [hbk] at r4
      obtain ⟨rest, rfl⟩ := r4
      have hst := storeG P g off e' fr ((l.take l.length).map bcell) 0 _ w r1 r2 (by simp; omega) (one_bytes _)
      rw [Nat.add_zero] at hst
      have e5 : List.take off (k.map (fun x => Value.int .u8 (x.toNat : Int)) ++ rest) ++ ((l.take l.length).map bcell ++ List.drop (off + ((l.take l.length).map bcell).length) (k.map (fun x => Value.int .u8 (x.toNat : Int)) ++ rest)) =
          (k.take off ++ (l ++ k.drop (off + l.length))).map (fun x => Value.int .u8 (x.toNat : Int)) ++ rest := by
        rw [List.take_append_of_le_length (by simp; omega), List.drop_append_of_le_length (by simp; omega)]
        simp [bcell, List.map_take, List.map_drop]
      rw [e5] at hst
      exact ⟨_, _, step _ cp _ _ rfl hmin hst, hS.put hlive e1 r1 (.bytes _) (by rw [hbk]; simp [ABlk.len]; omega) (by simp; omega) (fun x hx => by
        rcases List.mem_append.1 hx with hx | hx
        · obtain ⟨u, _, rfl⟩ := List.mem_map.1 hx; rfl
        · exact r3 x (List.mem_append_right _ hx)) ⟨rest, rfl⟩, .int _ _⟩
    · have hl0 : l = [] := List.eq_nil_of_length_eq_zero (by clear g5; omega)
      subst hl0
      have e5 : hset b (.bytes (k.take off ++ (([] : List UInt8) ++ k.drop (off + ([] : List UInt8).length)))) H = H := by
        have : k.take off ++ (([] : List UInt8) ++ k.drop (off + ([] : List UInt8).length)) = k := by simp
        rw [this, ← hbk, hset_self]
      rw [e5]
      refine ⟨_, w, step ad cp _ w rfl hmin ?_, .refl hS, .int _ _⟩
      cases ad with
      | none => rfl
      | some ad => rfl
  | vals cs =>
    rw [hbk] at h
    simp only at h
    split at h
    case h_2 => cases h
    rename_i r hr
    simp only [Option.some.injEq, Prod.mk.injEq] at h
    obtain ⟨rfl, rfl, rfl⟩ := h
    have p1 := hc _ rfl
    have hmin : len = Nat.min l.length len := (Nat.min_eq_right p1).symm
    have hcb := copyBytesV_eq l len 0 (by omega)
    rw [List.drop_zero] at hcb
    rw [hcb] at hr
    obtain ⟨rfl, hle⟩ := putN_eq hr
    have htl : ((l.take len).map AVal.byte).length = len := by simp; omega
    rw [htl] at hle
    rw [app_set]
    by_cases h0 : 0 < len
    · obtain ⟨g, nn, e1, rfl, e3, e4⟩ := g5 (by clear g5; omega)
      clear g5
      have hlive : hget b H ≠ .dead := by rw [hbk]; simp
      obtain ⟨xs, e', fr, r1, r2, r3, r4, _⟩ := hS.cells hlive e1
      rw [hbk] at r4
      obtain ⟨ys, rest, rfl, hvl⟩ := r4
      have hyl := hvl.1
      have hsl : ((l.take len).map bcell).length = len := by simp; omega
      have hst := storeG P g off e' fr ((l.take len).map bcell) 0 _ w r1 r2 (by simp; omega) (one_bytes _)
      rw [Nat.add_zero] at hst
      have e5 : List.take off (ys ++ rest) ++ ((l.take len).map bcell ++ List.drop (off + ((l.take len).map bcell).length) (ys ++ rest)) = (ys.take off ++ ((l.take len).map bcell ++ ys.drop (off + len))) ++ rest := by
        rw [hsl, List.take_append_of_le_length (by omega), List.drop_append_of_le_length (by omega)]; simp
      rw [e5] at hst
      refine ⟨_, _, step _ cp _ _ rfl hmin hst, hS.put hlive e1 r1 (.vals _) (by rw [hbk]; simp [ABlk.len]; omega) (by simp; omega) (fun x hx => ?_) ⟨_, rest, rfl, (hvl.take off).append ((VL.of_bytes _).append (by rw [htl]; exact hvl.drop _))⟩, .int _ _⟩
      rcases List.mem_append.1 hx with hx | hx
      · rcases List.mem_append.1 hx with hx | hx
        · exact r3 x (List.mem_append_left _ (List.mem_of_mem_take hx))
        · rcases List.mem_append.1 hx with hx | hx
          · exact one_bytes _ x hx
          · exact r3 x (List.mem_append_left _ (List.mem_of_mem_drop hx))
      · exact r3 x (List.mem_append_right _ hx)
    · have hl0 : len = 0 := by clear g5; omega
      subst hl0
      have e5 : hset b (.vals (cs.take off ++ ((l.take 0).map AVal.byte ++ cs.drop (off + ((l.take 0).map AVal.byte).length)))) H = H := by
        have : cs.take off ++ ((l.take 0).map AVal.byte ++ cs.drop (off + ((l.take 0).map AVal.byte).length)) = cs := by simp
        rw [this, ← hbk, hset_self]
      rw [e5]
      refine ⟨_, w, step ad cp _ w rfl hmin ?_, .refl hS, .int _ _⟩
      cases ad with
      | none => rfl
      | some ad => rfl

/-! ### parts -/
theorem fold_set (off : Nat) : ∀ (vs : List Value) (k : Nat) (cells : List Value), off + k + vs.length ≤ cells.length →
    (vs.zipIdx k).foldl (fun (cs : Array Value) (p : Value × Nat) => cs.setIfInBounds (off + p.2) p.1) cells.toArray = (cells.take (off + k) ++ (vs ++ cells.drop (off + k + vs.length))).toArray
  | [], k, cells, _ => by simp
  | v :: vs, k, cells, h => by
    simp only [List.length_cons] at h
    rw [List.zipIdx_cons, List.foldl_cons]
    have e : (cells.toArray.setIfInBounds (off + k) v) = (cells.set (off + k) v).toArray := by simp
    rw [e, fold_set off vs (k + 1) (cells.set (off + k) v) (by simp; omega)]
    have := list_set cells (off + k) v vs (by omega)
    rw [← Nat.add_assoc, this]; simp
/-- 'fill', as lists -/
theorem fill_sound {place : Nat → Option (Nat × Nat)} : ∀ {parts : List (Nat × AVal)} {vps : List (Nat × Value)} {cs r : List AVal} {xs : List Value}, VL R w m H cs xs → (∀ x ∈ xs, x.oneCell' = true) →
    (parts.length = vps.length ∧ ∀ (i : Nat) p q, parts[i]? = some p → vps[i]? = some q → p.1 = q.1 ∧ VR R w m H p.2 q.2) → layParts place cs parts = some r →
    ∃ ys : List Value, Instr.fill place xs.toArray vps = some ys.toArray ∧ VL R w m H r ys ∧ (∀ y ∈ ys, y.oneCell' = true)
  | [], vps, cs, r, xs, hv, h1, hp, h => by
    have : vps = [] := List.eq_nil_of_length_eq_zero (by simpa using hp.1.symm)
    subst this
    simp [layParts] at h; subst h
    exact ⟨xs, by simp [Instr.fill], hv, h1⟩
  | (i, v) :: parts, vps, cs, r, xs, hv, h1, hp, h => by
    match vps, hp with
    | [], hp => simp at hp
    | (i', x) :: vps, hp =>
      obtain ⟨rfl, hvx⟩ := hp.2 0 (i, v) (i', x) rfl rfl
      simp only at hvx
      simp only [layParts] at h
      cases hpl : place i with
      | none => rw [hpl] at h; cases h
      | some on =>
        obtain ⟨off, n⟩ := on
        rw [hpl] at h
        simp only at h
        cases hck : (Nat.beq v.cells.length n && okCell v) with
        | false => rw [hck] at h; cases h
        | true =>
        rw [hck] at h
        simp only [cond_true] at h
        simp only [Bool.and_eq_true] at hck
        have hn := Nat.eq_of_beq_eq_true hck.1
        obtain ⟨c1, c2⟩ := hvx.cells hck.2
        have hl := hv.1
        have hcl : v.cells.length = x.cells.size := by have := c1.1; simpa using this
        split at h
        case h_2 => cases h
        rename_i cs' hput
        obtain ⟨rfl, hle⟩ := putN_eq hput
        have hfold := fold_set off x.cells.toList 0 xs (by simp; omega)
        have e1 : (xs.take (off + 0) ++ (x.cells.toList ++ xs.drop (off + 0 + x.cells.toList.length))) = xs.take off ++ (x.cells.toList ++ xs.drop (off + v.cells.length)) := by simp [hcl]
        rw [e1] at hfold
        obtain ⟨ys, f1, f2, f3⟩ := fill_sound (place := place) (vps := vps) (xs := xs.take off ++ (x.cells.toList ++ xs.drop (off + v.cells.length))) ((hv.take off).append (c1.append (hv.drop _))) (fun y hy => by
          rcases List.mem_append.1 hy with hy | hy
          · exact h1 y (List.mem_of_mem_take hy)
          · rcases List.mem_append.1 hy with hy | hy
            · exact c2 y hy
            · exact h1 y (List.mem_of_mem_drop hy)) ⟨by have := hp.1; simpa using this, fun j p q hpj hqj => hp.2 (j + 1) p q (by simpa using hpj) (by simpa using hqj)⟩ h
        refine ⟨ys, ?_, f2, f3⟩
        have hsz : ¬ x.cells.size ≠ n := by omega
        have hfit : ¬ (off + x.cells.size > xs.length) := by omega
        rw [← f1, ← hfold]
        simp only [Instr.fill, hpl]
        have hc1 : (decide (x.cells.size ≠ n) || decide (off + x.cells.size > xs.toArray.size)) = false := by simp; omega
        rw [if_neg (by simpa using hc1)]
        congr 1
        rw [← Array.foldl_toList]
        simp
end
end Go.Proofs.Ytcooilllmcgcmaa.Ae
