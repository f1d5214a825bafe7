/- Conversions, make, append, copy. No program in sight. -/
import Derived.Test.YtcooilllmcgcmaaAeG
import Derived.Laws.IdiomStrings
import Derived.Laws.MakeOwn
namespace Go.Proofs.Ytcooilllmcgcmaa.Ae
open Go
section
variable {P : Program} {R : Nat → Prop} {w : World} {m : Mp} {H : Hp} {env : Env} {a : Act}

def bcell (x : UInt8) : Value := .int .u8 (x.toNat : Int)
theorem one_bytes (l : List UInt8) : ∀ x ∈ l.map bcell, x.oneCell' = true := by
  intro x hx; obtain ⟨y, _, rfl⟩ := List.mem_map.1 hx; rfl

/-- the bytes of a slice of bytes, as they lie -/
theorem bytesOf_sound (hS : Sim R w m H) {x : AVal} {y : Value} {l : List UInt8} (hx : VR R w m H x y) (h : bytesOf H x = some l) :
    ∃ ad c, y = .slice ad l.length c ∧ l.length ≤ room ∧ l.length ≤ c ∧ (0 < l.length → ∃ g off, ad = some ⟨g, off, none⟩ ∧ ∀ i u, l[i]? = some u → w.cell? ⟨g, off + i, none⟩ = some (bcell u)) := by
  cases hx with
  | nilS => simp [bytesOf] at h; subst h; exact ⟨none, 0, rfl, Nat.zero_le _, Nat.zero_le _, fun h => by simp at h⟩
  | roB l' ad c g off h1 h2 h3 h4 h5 =>
    simp [bytesOf] at h; subst h
    exact ⟨ad, c, rfl, h3, h1, fun hp => ⟨g, off, (h4 hp).1, h5⟩⟩
  | sl b off len sz ad c h1 h2 h3 h4 h5 h6 =>
    simp only [bytesOf] at h
    cases hsb : Nat.beq sz 1 with
    | false => rw [hsb] at h; cases h
    | true =>
    rw [hsb] at h
    obtain rfl := Nat.eq_of_beq_eq_true hsb
    simp only [cond_true] at h
    have fin : ∀ (B : ABlk), hget b H = B → B ≠ .dead → ∀ (q : List UInt8), ((B.av.drop off).take len) = q.map AVal.byte → off + len ≤ B.len → ∃ ad' c', Value.slice ad len c = .slice ad' q.length c' ∧ q.length ≤ room ∧ q.length ≤ c' ∧ (0 < q.length → ∃ g off, ad' = some ⟨g, off, none⟩ ∧ ∀ i u, q[i]? = some u → w.cell? ⟨g, off + i, none⟩ = some (bcell u)) := by
      intro B hB hlive q hq hle
      have hql : q.length = len := by
        have := congrArg List.length hq
        simp [av_len] at this
        omega
      refine ⟨ad, c, by rw [hql], by omega, by omega, fun hp => ?_⟩
      obtain ⟨g, n, e1, e2, _, _⟩ := h5 (by omega)
      refine ⟨g, off, e2, fun i u hu => ?_⟩
      obtain ⟨xs, e, fr, q1, q2, q3, q4, ys, r, hys, hvl⟩ := hS.cells (by rw [hB]; exact hlive) e1
      rw [hB] at hvl
      have h7 := (hvl.drop off).take len
      rw [hq] at h7
      have h8 := h7.bytes_inv
      have hi := (List.getElem?_eq_some_iff.1 hu).1
      rw [cell_of q1, hys]
      have h9 : ((ys.drop off).take len)[i]? = some (bcell u) := by rw [h8, List.getElem?_map, hu]; rfl
      rw [List.getElem?_take, if_pos (by omega), List.getElem?_drop] at h9
      rw [List.getElem?_append_left (List.getElem?_eq_some_iff.1 h9).1]; exact h9
    cases hb : hget b H with
    | dead => rw [hb] at h; cases h
    | flat cs => rw [hb] at h; cases h
    | bytes k =>
      rw [hb] at h
      simp only [Option.some.injEq] at h
      subst h
      rcases h6 with h6 | h6
      · rw [hb] at h6; cases h6
      · rw [hb] at h6
        exact fin _ hb (by simp) _ (by simp [ABlk.av, List.map_take, List.map_drop]) (by simp only [ABlk.len] at h6 ⊢; omega)
    | vals cs =>
      rw [hb] at h
      simp only at h
      split at h
      · rename_i r hr
        obtain ⟨rfl, hle⟩ := partN_eq hr
        exact fin _ hb (by simp) _ (toBytes_eq h) (by simpa [ABlk.len] using hle)
      · cases h
  | _ => simp [bytesOf] at h

theorem isBytes_eq {t : TypeId} (h : isBytes P t = true) : ∃ e, P.underlying t = some (.slice e) ∧ P.underlying e = some (.int .u8) ∧ sizeT P e = some 1 := by
  unfold isBytes at h
  split at h
  · rename_i e hu
    simp only [Bool.and_eq_true] at h
    obtain ⟨h1, h2⟩ := h
    refine ⟨e, hu, ?_, ?_⟩
    · unfold isU8 at h1; split at h1
      · assumption
      · cases h1
    · split at h2
      · rename_i n hn; rw [hn, Nat.eq_of_beq_eq_true h2]
      · cases h2
  · cases h
theorem intKind_eq {t : TypeId} {k : IntKind} (h : intKind P t = some k) : P.underlying t = some (.int k) := by
  unfold intKind at h
  split at h
  · rename_i hu; cases h; exact hu
  · cases h
theorem kindEq_eq {a b : IntKind} (h : kindEq a b = true) : a = b := by cases a <;> cases b <;> first | rfl | cases h
theorem is64_eq {a : IntKind} (h : is64 a = true) : a = .i64 := by cases a <;> first | rfl | cases h
theorem wrap_I64 {n : Int} (h : I64 n) : IntKind.i64.wrap n = n := by unfold I64 at h; rw [IntKind.wrap_i64]; omega
theorem b8_wrap (n : Int) : ((b8 n).toNat : Int) = IntKind.u8.wrap n := by
  rw [IntKind.wrap_u8']; unfold b8; rw [UInt8.toNat_ofNat']; omega
theorem mkInt_sound (k : IntKind) (n : Int) : VR R w m H (mkInt k n) (.int k (k.wrap n)) := by
  unfold mkInt
  split
  · rw [← b8_wrap]; exact .byte _
  · exact .int _ _

theorem under_some {src : TypeId} (h : (P.underlying src).isSome = true) : ∃ d, P.underlying src = some d := Option.isSome_iff_exists.1 h
theorem convF_sound (hS : Sim R w m H) {src dst : TypeId} (hsrc : (P.underlying src).isSome = true) {x q : AVal} {y : Value} {c : Option Prop} {ef : Eff} (hx : VR R w m H x y) (h : convF P H src dst x = some (c, q, ef)) (hc : ∀ p, c = some p → p) :
    ∃ z w' m', (convert src dst y).run P w = .ok z w' ∧ Stp R w m H w' m' (ef.app H) ∧ VR R w' m' (ef.app H) q z := by
  obtain ⟨sd, hsd⟩ := under_some hsrc
  have stay : ∀ {q : AVal} {z : Value}, (convert src dst y).run P w = .ok z w → VR R w m H q z → ∃ z w' m', (convert src dst y).run P w = .ok z w' ∧ Stp R w m H w' m' (noEff.app H) ∧ VR R w' m' (noEff.app H) q z := fun h1 h2 => by
    rw [app_no]; exact ⟨_, w, m, h1, .refl hS, h2⟩
  have toInt : ∀ (k k' : IntKind) (n : Int), P.underlying dst = some (.int k') → (convert src dst (.int k n)).run P w = .ok (.int k' (k'.wrap n)) w := fun k k' n hd => by
    simp [convert, run_underlying hsd, run_underlying hd, Conv.intToInt]
  unfold convF at h
  split at h
  · rename_i k n
    cases hx with
    | int =>
    split at h
    · rename_i k' hk
      have hd := intKind_eq hk
      split at h
      · rename_i hkk
        obtain rfl := kindEq_eq hkk
        split at h
        · rename_i h64
          obtain rfl := is64_eq h64
          simp only [Option.some.injEq, Prod.mk.injEq] at h
          obtain ⟨rfl, rfl, rfl⟩ := h
          refine stay (toInt _ _ n hd) ?_
          rw [wrap_I64 (hc _ rfl)]; exact .int _ _
        · simp only [Option.some.injEq, Prod.mk.injEq] at h
          obtain ⟨rfl, rfl, rfl⟩ := h
          exact stay (toInt _ _ n hd) (mkInt_sound _ _)
      · simp only [Option.some.injEq, Prod.mk.injEq] at h
        obtain ⟨rfl, rfl, rfl⟩ := h
        exact stay (toInt _ _ n hd) (mkInt_sound _ _)
    · cases h
  · rename_i n
    cases hx with
    | byte =>
    have hn := n.toNat_lt
    split at h
    · rename_i hk
      simp only [Option.some.injEq, Prod.mk.injEq] at h
      obtain ⟨rfl, rfl, rfl⟩ := h
      refine stay (toInt _ _ _ (intKind_eq hk)) ?_
      rw [IntKind.wrap_u8', show (n.toNat : Int) % 256 = (n.toNat : Int) by omega]; exact .byte _
    · cases h
    · rename_i k' h1 h2 hk
      simp only [Option.some.injEq, Prod.mk.injEq] at h
      obtain ⟨rfl, rfl, rfl⟩ := h
      refine stay (toInt _ _ _ (intKind_eq hk)) ?_
      have : k'.wrap (n.toNat : Int) = (n.toNat : Int) := by
        cases k' <;> first | exact absurd rfl h1 | exact absurd rfl h2 | (simp only [IntKind.wrap, IntKind.bits, IntKind.signed]; simp; try omega)
      rw [this]; exact .int _ _
    · cases h
  · rename_i l
    cases hx with
    | str _ hl =>
    split at h
    · rename_i hd
      simp only [Option.some.injEq, Prod.mk.injEq] at h
      obtain ⟨rfl, rfl, rfl⟩ := h
      exact stay (by simp [convert, run_underlying hsd, run_underlying (isStrT_eq hd)]) (.str _ hl)
    · split at h
      · rename_i hd
        cases hst : isStrT P src with
        | false => rw [hst] at h; cases h
        | true =>
        rw [hst] at h
        simp only [cond_true, Option.some.injEq, Prod.mk.injEq] at h
        obtain ⟨rfl, rfl, rfl⟩ := h
        have hroom := hc _ rfl
        obtain ⟨e, hu, he, _⟩ := isBytes_eq hd
        have hr := run_bytes_of_string (P := P) w src dst e ⟨l.toArray⟩ (isStrT_eq hst) hu he
        have hsz : (⟨l.toArray⟩ : ByteArray).size = l.length := by show l.toArray.size = _; simp
        rw [hsz] at hr
        have hcap := grownCap_ge w l.length 0 e
        have hcap2 := grownCap_le_maxLen w l.length 0 e (by simp only [maxLen]; unfold room at hroom; omega)
        generalize grownCap w l.length 0 e = cap at *
        have hrow : bytesRow ⟨l.toArray⟩ cap = (l.map bcell ++ List.replicate (cap - l.length) (Value.int .u8 0)).toArray := by
          unfold bytesRow; rw [hsz]
          apply Array.ext'
          simp [bcell]
        have hlen : (l.map bcell ++ List.replicate (cap - l.length) (Value.int .u8 0)).length = cap := by simp; omega
        have hA : (l.map bcell ++ List.replicate (cap - l.length) (Value.int .u8 0)).toArray.size = cap := by simpa using hlen
        rw [hrow, hA] at hr
        have s1 := hS.drew
        have s2 := s1.sim.alloc (.bytes l) (l.map bcell ++ List.replicate (cap - l.length) (Value.int .u8 0)) e (cap, cap + 1) (fun i hi => by rw [hlen] at hi; simp; omega) (fun x hx => by
          rcases List.mem_append.1 hx with hx | hx
          · exact one_bytes l x hx
          · rw [List.eq_of_mem_replicate hx]; rfl) ⟨_, rfl⟩
        rw [app_new]
        refine ⟨_, _, upd m H.length w.drew.heap.size, hr, s1.trans s2, ?_⟩
        · refine .sl _ _ _ _ _ _ hcap (by simp only [maxLen] at hcap2; exact hcap2) hroom (by simp) (fun _ => ⟨w.heap.size, cap, upd_self _ _ _, rfl, ?_, by omega⟩) (.inr ?_)
          · have hh : (w.drew.alloc (.cells (l.map bcell ++ List.replicate (cap - l.length) (Value.int .u8 0)).toArray e (cap, cap + 1))).heap[w.heap.size]? = some (.cells (l.map bcell ++ List.replicate (cap - l.length) (Value.int .u8 0)).toArray e (cap, cap + 1)) := Array.getElem?_push_size
            rw [rowSize_of hh, hlen]
          · rw [show hget H.length (H ++ [ABlk.bytes l]) = .bytes l by have := hget_append_ge (k := 0) (H := H) (G := [ABlk.bytes l]); simpa [hget] using this]
            simp [ABlk.len]
      · cases h
  · split at h
    · rename_i l hb hd hl
      simp only [Option.some.injEq, Prod.mk.injEq] at h
      obtain ⟨rfl, rfl, rfl⟩ := h
      obtain ⟨e, hu, he, _⟩ := isBytes_eq hb
      obtain ⟨ad, cp, rfl, h1, _, h2⟩ := bytesOf_sound hS hx hl
      refine stay ?_ (.str l (by unfold room at h1; unfold big; omega))
      by_cases h0 : 0 < l.length
      · obtain ⟨g, off, rfl, h3⟩ := h2 h0
        exact run_convert_bytes_back w src dst e _ cp l hu he (isStrT_eq hd) fun j hj => by rw [add_off]; exact h3 j _ (List.getElem?_eq_getElem hj)
      · have : l = [] := List.eq_nil_of_length_eq_zero (by omega)
        subst this
        cases ad with
        | none => simp [run_convert_bytes_string w src dst e none 0 cp hu he (isStrT_eq hd), Conv.bytesToString]; rfl
        | some ad => exact run_convert_bytes_back w src dst e ad cp [] hu he (isStrT_eq hd) fun j hj => by simp at hj
    · cases h
end
end Go.Proofs.Ytcooilllmcgcmaa.Ae
