/- Contract of the document's Encode of chapter 2. -/
import Derived.Test.YtlmidhmpolopdaaEtB
import Derived.Test.YtlmidhmpolopdaaStr
import Derived.Test.YtlmidhmpolopdaaFrame
namespace Go.Proofs.Ytlmidhmpolopdaa
open Go.RowKit

set_option maxHeartbeats 1000000 in
theorem refEncode_core (a b c d e f a' b' c' d' e' f' : UInt8) (t : Int) (s : ByteArray) (w : World) (hs : s.size ≤ 140737488355328) :
    Calls Try.prog 11 #[frameV a b c d e f a' b' c' d' e' f' t s] w fun r w' => Ext w w' ∧ 
      ((t < 1536 ∨ 65535 < t ∨ 1500 < s.size) → r = .returned (.tuple #[.slice none 0 0, .int .i64 1])) ∧
      (1536 ≤ t → t ≤ 65535 → s.size ≤ 1500 → ∃ p n q, r = .returned (.tuple #[.slice p n q, .int .i64 0]) ∧ Bytes w' p n q ([a, b, c, d, e, f, a', b', c', d', e', f', UInt8.ofNat (t / 256).toNat, UInt8.ofNat t.toNat] ++ s.data.toList)) := by
  have U1 := hid (show 0 ≤ t → t ≤ 65535 → (t / 256) = ((UInt8.ofNat (t / 256).toNat).toNat : Int) by intro h1 h2; rw [UInt8.toNat_ofNat']; omega)
  have U2 := hid (show 0 ≤ t → (t % 256) = ((UInt8.ofNat t.toNat).toNat : Int) by intro h1; rw [UInt8.toNat_ofNat']; omega)
  generalize UInt8.ofNat (t / 256).toNat = y1 at *
  generalize UInt8.ofNat t.toNat = y2 at *
  have h0 := heap_new w (.cells #[B8 a, B8 b, B8 c, B8 d, B8 e, B8 f, B8 a', B8 b', B8 c', B8 d', B8 e', B8 f', .int .i64 t, .string s] 25)
  have f0 := frame_facts h0
  obtain ⟨W, hW⟩ : ∃ W, W = w.alloc (.cells #[B8 a, B8 b, B8 c, B8 d, B8 e, B8 f, B8 a', B8 b', B8 c', B8 d', B8 e', B8 f', .int .i64 t, .string s] 25) := ⟨_, rfl⟩
  have xW : Ext w W := hW ▸ below_alloc w _
  rw [← hW] at h0 f0
  have HB := hid f0
  clear h0 f0
  simp only [frameV, B8] at hW ⊢
  go_enter Try.func11, Try.ntmps11
  go_wp2_with fail
  rw [← hW]
  clear hW
  go_loopg [4, 5] 6 (fun g v4 v5 wx => ∃ k : Nat, OwnB 5 wx W.heap.size v4 ([a, b, c, d, e, f].take k) ∧ Ext W wx ∧ v5 = .int .i64 k ∧ k + g = 6)
  case atStart => exact ⟨0, OwnB.nil _ _ _, Ext.refl _, rfl, rfl⟩
  case round =>
    obtain ⟨k, hO, hX, rfl, hk⟩ := hrel
    cases gk with
    | zero =>
      obtain rfl : k = 6 := by omega
      have HO := hid hO
      clear hO
      go_wp2_with fail
      go_loopg [4, 6] 6 (fun g v4 v6 wx => ∃ k : Nat, OwnB 5 wx W.heap.size v4 ([a, b, c, d, e, f] ++ [a', b', c', d', e', f'].take k) ∧ Ext W wx ∧ v6 = .int .i64 k ∧ k + g = 6)
      case atStart => exact ⟨0, HO.out, hX, rfl, rfl⟩
      case round =>
        obtain ⟨k, hO, hX, rfl, hk⟩ := hrel
        cases gk with
        | zero =>
          obtain rfl : k = 6 := by omega
          have HO := hid hO
          clear hO
          have hbx := HB.out
          have c1 := cell_below hX hbx.2.2.1
          have c2 := cell_below hX hbx.2.2.2
          clear hbx hk
          have q0 : IntKind.i64.wrap ((s.size : Int) + 14) = (s.size : Int) + 14 := IntWalk.i64_in _ (by omega)
          by_cases t1 : t < 1536
          · go_wp2
            go_ret2
            exact ⟨xW.trans hX, by intros; rfl, by first | trivial | (intros; omega)⟩
          have q1 : (t < 1536) = False := by simp; omega
          by_cases t2 : 65535 < t
          · go_wp2
            go_ret2
            exact ⟨xW.trans hX, by intros; rfl, by first | trivial | (intros; omega)⟩
          have q2 : (65535 < t) = False := by simp; omega
          by_cases t3 : 1500 < s.size
          · have q3 : ((1514 : Int) < (s.size : Int) + 14) = True := by simp; omega
            go_wp2
            go_ret2
            exact ⟨xW.trans hX, by intros; rfl, by first | trivial | (intros; omega)⟩
          have q3 : ((1514 : Int) < (s.size : Int) + 14) = False := by simp; omega
          have u1 := U1.out (by omega) (by omega)
          have u2 := U2.out (by omega)
          have h12 : ([a, b, c, d, e, f] ++ List.take 6 [a', b', c', d', e', f']).length + [y1, y2].length ≤ 140737488355328 := by simp
          have h13 : ([a, b, c, d, e, f] ++ List.take 6 [a', b', c', d', e', f'] ++ [y1, y2]).length + s.size ≤ 140737488355328 := by simp; omega
          go_wp2_with (first
            | (at_builtin; refine wpList_append_x rfl (.tmp 44) (.tmp 53) (t := 26) (by kernel_rfl) info_u8 rfl rfl (HO.out.ext (below_alloc _ _)) (hX.alloc _) rfl (Bytes.new _ _ _ _ _ [y1, y2] rfl rfl rfl (by decide)) h12 ?_; intro v1 w1 o1 e1; have c3 := cell_below e1 HB.out.2.2.2)
            | (at_builtin; refine wpList_append_str rfl (.tmp 55) (.tmp 57) (t := 26) (by kernel_rfl) (by kernel_rfl) info_u8 rfl rfl o1 e1 rfl h13 ?_; intro v2 w2 o2 e2))
          go_ret2
          obtain ⟨p, q, rfl, B2⟩ := o2.bytes (by simp; omega)
          exact ⟨xW.trans e2, fun _ => ⟨p, _, q, rfl, B2⟩⟩
        | succ g2 =>
          have q1 : (k : Int) < 6 := by omega
          have c1 := (HB.out.2.1.below hX).cell k (by omega) rfl
          have hT := hid (take_succ_getD [a', b', c', d', e', f'] k 0 (show k < 6 by omega))
          generalize [a', b', c', d', e', f'].getD k 0 = x at *
          have q2 : IntKind.i64.wrap ((k : Int) + 1) = (k : Int) + 1 := IntWalk.i64_in _ (by omega)
          have hl := hid (show ([a, b, c, d, e, f] ++ [a', b', c', d', e', f'].take k).length = 6 + k by simp; omega)
          have h1 : ([a, b, c, d, e, f] ++ List.take k [a', b', c', d', e', f']).length + [x].length ≤ 140737488355328 := by rw [hl.out]; simp; omega
          generalize hA : [a, b, c, d, e, f] ++ List.take k [a', b', c', d', e', f'] = A at *
          have HA := hid hA
          clear hA
          go_wp2_with (first
            | (at_builtin; refine wpList_append_x rfl (.tmp 22) (.tmp 27) (t := 26) (by kernel_rfl) info_u8 rfl rfl (hO.ext (below_alloc _ _)) (hX.alloc _) rfl (Bytes.new _ _ _ _ _ [x] rfl rfl rfl (by decide)) h1 ?_; intro v1 w1 o1 e1))
          go_roundg g2
          case measure => omega
          case rel => exact ⟨k + 1, by rw [hT.out, ← List.append_assoc, HA.out]; exact o1, e1, by go_num, by omega⟩
    | succ g =>
      have q1 : (k : Int) < 6 := by omega
      have c1 := (HB.out.1.below hX).cell k (by omega) rfl
      rw [Nat.zero_add] at c1
      have hT := hid (take_succ_getD [a, b, c, d, e, f] k 0 (show k < 6 by omega))
      have hl := hid (show ([a, b, c, d, e, f].take k).length = k by simp; omega)
      generalize [a, b, c, d, e, f].getD k 0 = x at *
      have q2 : IntKind.i64.wrap ((k : Int) + 1) = (k : Int) + 1 := IntWalk.i64_in _ (by omega)
      have h1 : (List.take k [a, b, c, d, e, f]).length + [x].length ≤ 140737488355328 := by rw [hl.out]; simp; omega
      go_wp2_with (first
        | (at_builtin; refine wpList_append_x rfl (.tmp 11) (.tmp 16) (t := 26) (by kernel_rfl) info_u8 rfl rfl (hO.ext (below_alloc _ _)) (hX.alloc _) rfl (Bytes.new _ _ _ _ _ [x] rfl rfl rfl (by decide)) h1 ?_; intro v1 w1 o1 e1))
      go_roundg g
      case measure => omega
      case rel => exact ⟨k + 1, by rw [hT.out]; exact o1, e1, by go_num, by omega⟩

theorem refEncode_no (a b c d e f a' b' c' d' e' f' : UInt8) (t : Int) (s : ByteArray) (w : World) (hs : s.size ≤ 140737488355328) (h : t < 1536 ∨ 65535 < t ∨ 1500 < s.size) :
    Calls Try.prog 11 #[frameV a b c d e f a' b' c' d' e' f' t s] w fun r w' => r = .returned (.tuple #[.slice none 0 0, .int .i64 1]) ∧ Ext w w' :=
  (refEncode_core a b c d e f a' b' c' d' e' f' t s w hs).mono fun _ _ ⟨h1, h2, _⟩ => ⟨h2 h, h1⟩
theorem refEncode_yes (a b c d e f a' b' c' d' e' f' : UInt8) (t : Nat) (s : ByteArray) (w : World) (h1 : 1536 ≤ t) (h2 : t ≤ 65535) (h3 : s.size ≤ 1500) :
    Calls Try.prog 11 #[frameV a b c d e f a' b' c' d' e' f' t s] w fun r w' => ∃ p n q, r = .returned (.tuple #[.slice p n q, .int .i64 0]) ∧ Ext w w' ∧ Bytes w' p n q ([a, b, c, d, e, f, a', b', c', d', e', f', UInt8.ofNat (t / 256), UInt8.ofNat t] ++ s.data.toList) :=
  (refEncode_core a b c d e f a' b' c' d' e' f' t s w (by omega)).mono fun _ _ ⟨x, _, h⟩ => by
    obtain ⟨p, n, q, hr, hB⟩ := h (by omega) (by omega) h3
    rw [show ((t : Int) / 256).toNat = t / 256 by omega, show ((t : Int)).toNat = t by omega] at hB
    exact ⟨p, n, q, hr, x, hB⟩

set_option maxHeartbeats 1000000 in
theorem encode_no (a b c d e f a' b' c' d' e' f' : UInt8) (t : Int) (s : ByteArray) (w : World) (h : t < 1536 ∨ 65535 < t ∨ 1500 < s.size) :
    Calls Try.prog 10 #[frameV a b c d e f a' b' c' d' e' f' t s] w fun r w' => r = .returned (.tuple #[.slice none 0 0, .int .i64 1]) ∧ Ext w w' := by
  simp only [frameV, B8]
  by_cases t1 : t < 1536
  · clear h
    go_enter Try.func10, Try.ntmps10
    go_wp2
    go_ret2
    exact ⟨rfl, (Ext.refl w).alloc _⟩
  by_cases t2 : 65535 < t
  · clear h
    go_enter Try.func10, Try.ntmps10
    go_wp2
    go_ret2
    exact ⟨rfl, (Ext.refl w).alloc _⟩
  have t3 : ((1500 : Int) < (s.size : Int)) = True := by simp; omega
  have q1 : (t < 1536) = False := by simp; omega
  have q2 : (65535 < t) = False := by simp; omega
  clear h
  go_enter Try.func10, Try.ntmps10
  go_wp2
  go_ret2
  exact ⟨rfl, (Ext.refl w).alloc _⟩
end Go.Proofs.Ytlmidhmpolopdaa
