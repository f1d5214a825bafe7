/- Copy, make, built values. No program in sight. -/
import Derived.Test.YtcooilllmcgcmaaAeJ
namespace Go.Proofs.Ytcooilllmcgcmaa.Ae
open Go

theorem hset_self : ∀ (k : Nat) (H : Hp), hset k (hget k H) H = H
  | _, [] => by simp [hset]
  | 0, _ :: _ => by simp [hset, hget]
  | k + 1, _ :: r => by simp [hset, hget, hset_self k r]
theorem rep_len (n : Nat) (z : List AVal) : (rep n z).length = n * z.length := by
  induction n with
  | zero => simp [rep]
  | succ n ih => simp [rep, ih, Nat.add_mul]; omega
theorem rep_get (z : List AVal) (hz : 1 ≤ z.length) : ∀ (n j : Nat), j < n * z.length → (rep n z)[j]? = z[j % z.length]?
  | 0, j, h => by simp at h
  | n + 1, j, h => by
    rw [rep]
    by_cases hj : j < z.length
    · rw [List.getElem?_append_left hj, Nat.mod_eq_of_lt hj]
    · rw [List.getElem?_append_right (by omega), rep_get z hz n (j - z.length) (by rw [Nat.add_mul, Nat.one_mul] at h; omega), ← Nat.mod_eq_sub_mod (by omega : z.length ≤ j)]

section
variable {P : Program} {R : Nat → Prop} {w : World} {m : Mp} {H : Hp} {env : Env} {a : Act}

theorem VL.made {z : List AVal} {zs : Array Value} (h : VL R w m H z zs.toList) (hz : 1 ≤ z.length) (n : Nat) : VL R w m H (rep n z) (madeCells zs (n * z.length)).toList := by
  have hl : z.length = zs.size := by simpa using h.1
  refine ⟨by rw [rep_len]; simp [madeCells], fun i v x hv hx => ?_⟩
  have hi : i < n * z.length := by have := (List.getElem?_eq_some_iff.1 hv).1; rwa [rep_len] at this
  rw [rep_get z hz n i hi] at hv
  have hm : i % zs.size < zs.size := Nat.mod_lt _ (by omega)
  simp [madeCells, hi] at hx
  rw [hl] at hv
  refine h.2 _ v x hv ?_
  rw [← hx, getElem?_pos zs.toList _ (by simpa using hm)]
  simp [getElem!_pos zs (i % zs.size) hm]
theorem one_made {zs : Array Value} (hz : ∀ x ∈ zs.toList, x.oneCell' = true) (hp : 0 < zs.size) (n : Nat) : ∀ x ∈ (madeCells zs n).toList, x.oneCell' = true := by
  intro x hx
  simp only [madeCells, Array.toList_map, List.mem_map] at hx
  obtain ⟨i, _, rfl⟩ := hx
  have hm : i % zs.size < zs.size := Nat.mod_lt _ hp
  rw [getElem!_pos zs (i % zs.size) hm]
  exact hz _ (by simp)

theorem isU8_eq {t : TypeId} (h : isU8 P t = true) : P.underlying t = some (.int .u8) := by
  unfold isU8 at h; split at h
  · assumption
  · cases h
theorem new_sl (hS : Sim R w m H) {B : ABlk} {xs : List Value} {e : TypeId} (h1 : ∀ x ∈ xs, x.oneCell' = true) (hB : BR R w m H B xs) {n sz : Nat} (hx : xs.length = n * sz) (hb : B.len = n * sz) (hr : n ≤ room) :
    Stp R w m H (w.alloc (.cells xs.toArray e)) (upd m H.length w.heap.size) (H ++ [B]) ∧ VR R (w.alloc (.cells xs.toArray e)) (upd m H.length w.heap.size) (H ++ [B]) (.sl H.length 0 n sz) (.slice (some ⟨w.heap.size, 0, none⟩) n n) := by
  refine ⟨hS.alloc B xs e (0, 0) (fun i _ => by omega) h1 hB, .sl _ _ _ _ _ _ (Nat.le_refl _) (by unfold room at hr; unfold maxI; omega) hr (by simp) (fun _ => ⟨w.heap.size, xs.length, upd_self _ _ _, rfl, rowSize_of (e := e) (fr := (0, 0)) Array.getElem?_push_size, by omega⟩) (.inr (by rw [last_blk, hb]; omega))⟩
theorem toArray_made (zs : Array Value) (n : Nat) : madeCells zs n = (madeCells zs n).toList.toArray := by simp
theorem makeF_sound (hS : Sim R w m H) {t : TypeId} {nv cv q : AVal} {ny cy : Value} {c : Option Prop} {ef : Eff} (hn : VR R w m H nv ny) (hcv : VR R w m H cv cy) (h : makeF P H t nv cv = some (c, q, ef)) (hc : ∀ p, c = some p → p) :
    ∃ z w' m', (Instr.makeSlice t ny cy).run P w = .ok z w' ∧ Stp R w m H w' m' (ef.app H) ∧ VR R w' m' (ef.app H) q z := by
  unfold makeF at h
  split at h
  case h_2 => cases h
  rename_i e a b ht ha hb
  obtain ⟨k1, rfl⟩ := intOf_sound hn ha
  obtain ⟨k2, rfl⟩ := intOf_sound hcv hb
  split at h
  case h_2 => cases h
  rename_i sz0 z hsz hz
  obtain ⟨i, hi, hsz0⟩ := sizeT_info hsz
  obtain ⟨zv, g1, g2, g3⟩ := zeroT_run hz w
  have hzz : i.zero = some zv := by
    unfold zeroValue at g1
    simp only [Sem.run_bind, typeInfo, run_program, Result.andThen_ok, hi, Sem.run_pure] at g1
    cases hz : i.zero with
    | none => rw [hz] at g1; simp at g1
    | some u => rw [hz] at g1; simp at g1; rw [g1]
  have hzl : z.length = zv.cells.size := by have := (g2 R w m H).1; simpa using this
  split at h
  · rename_i x hx hck
    simp only [Bool.and_eq_true] at hck
    simp only [Option.some.injEq, Prod.mk.injEq] at h
    obtain ⟨rfl, rfl, rfl⟩ := h
    obtain ⟨p1, rfl, p3⟩ := hc _ rfl
    have hb1 := Nat.eq_of_beq_eq_true hck.1
    have hs1 := Nat.eq_of_beq_eq_true hck.2
    rw [bytesT_eq hi] at hb1
    have hr := run_make (P := P) w t e i zv ht hi hzz k1 k2 a a p1 (Int.le_refl _) (by rw [hb1]; unfold room at p3; omega) (by unfold room at p3; omega)
    rw [hsz0, hs1, Nat.mul_one] at hr
    have hzc : zv.cells = #[bcell x] := by
      have := g2 R w m H
      rw [toBytes_eq hx] at this
      have := this.bytes_inv
      apply Array.ext'
      rw [this]; rfl
    have hmade : madeCells zv.cells a.toNat = (List.replicate a.toNat (bcell x)).toArray := by
      apply Array.ext'
      rw [hzc]
      apply List.ext_getElem
      · simp [madeCells]
      · intro j h1 h2
        simp [madeCells, Nat.mod_one]
    rw [hmade] at hr
    obtain ⟨s1, s2⟩ := new_sl hS (B := .bytes (List.replicate a.toNat x)) (xs := List.replicate a.toNat (bcell x)) (e := e) (fun y hy => by rw [List.eq_of_mem_replicate hy]; rfl) ⟨[], by simp [bcell]⟩ (n := a.toNat) (sz := 1) (by simp) (by simp [ABlk.len]) (by omega)
    rw [app_new]
    exact ⟨_, _, _, hr, s1, s2⟩
  · cases hck : (Nat.beq z.length sz0 && Nat.ble 1 sz0 && Nat.ble 1 (bytesT P e)) with
    | false => rw [hck] at h; cases h
    | true =>
    rw [hck] at h
    simp only [cond_true, Option.some.injEq, Prod.mk.injEq] at h
    obtain ⟨rfl, rfl, rfl⟩ := h
    obtain ⟨p1, rfl, p3⟩ := hc _ rfl
    simp only [Bool.and_eq_true] at hck
    have hz1 := Nat.eq_of_beq_eq_true hck.1.1
    have hsz1 := Nat.le_of_ble_eq_true hck.1.2
    have hb1 := Nat.le_of_ble_eq_true hck.2
    rw [bytesT_eq hi] at p3 hb1
    have hroom : a.toNat ≤ room := by
      have h1 : a * 1 ≤ a * (i.bytes : Int) := Int.mul_le_mul_of_nonneg_left (by omega) p1
      omega
    have hr := run_make (P := P) w t e i zv ht hi hzz k1 k2 a a p1 (Int.le_refl _) (by rw [Int.mul_comm]; unfold room at p3; omega) (by unfold room at hroom; omega)
    rw [toArray_made, hsz0] at hr
    have hvl := (g2 R w m H).made (by omega) a.toNat
    have hml : (madeCells zv.cells (a.toNat * z.length)).toList.length = a.toNat * sz0 := by simp [madeCells, hz1]
    rw [hz1] at hml hvl
    obtain ⟨s1, s2⟩ := new_sl hS (B := .vals (rep a.toNat z)) (xs := (madeCells zv.cells (a.toNat * sz0)).toList) (e := e) (one_made g3 (by omega) _) ⟨_, [], by simp, hvl⟩ (n := a.toNat) (sz := sz0) hml (by simp [ABlk.len, rep_len, hz1]) hroom
    rw [app_new]
    exact ⟨_, _, _, hr, s1, s2⟩
end
end Go.Proofs.Ytcooilllmcgcmaa.Ae
