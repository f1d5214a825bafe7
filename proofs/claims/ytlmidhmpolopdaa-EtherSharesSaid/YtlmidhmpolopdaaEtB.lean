/- Contracts of chapter 2's Encode and Decode. -/
import Derived.Test.YtlmidhmpolopdaaEtA
import Derived.Test.YtlmidhmpolopdaaFill
import Derived.Test.YtlmidhmpolopdaaRegV
namespace Go.Proofs.Ytlmidhmpolopdaa
open Go.RowKit

abbrev frameV (a b c d e f a' b' c' d' e' f' : UInt8) (t : Int) (s : ByteArray) : Value := .agg #[B8 a, B8 b, B8 c, B8 d, B8 e, B8 f, B8 a', B8 b', B8 c', B8 d', B8 e', B8 f', .int .i64 t, .string s]

theorem frame_facts {w : World} {g : Nat} {ty : TypeId} {a b c d e f a' b' c' d' e' f' : UInt8} {t : Int} {s : ByteArray}
    (h : w.heap[g]? = some (.cells #[B8 a, B8 b, B8 c, B8 d, B8 e, B8 f, B8 a', B8 b', B8 c', B8 d', B8 e', B8 f', .int .i64 t, .string s] ty (0, 0))) :
    Bytes w (some ⟨g, 0, none⟩) 6 6 [a, b, c, d, e, f] ∧ Bytes w (some ⟨g, 6, none⟩) 6 6 [a', b', c', d', e', f'] ∧ w.cell? ⟨g, 12, none⟩ = some (.int .i64 t) ∧ w.cell? ⟨g, 13, none⟩ = some (.string s) := by
  have hc : ∀ i, w.cell? ⟨g, i, none⟩ = #[B8 a, B8 b, B8 c, B8 d, B8 e, B8 f, B8 a', B8 b', B8 c', B8 d', B8 e', B8 f', .int .i64 t, .string s][i]? := fun i => by
    unfold World.cell?
    simp [h]
  refine ⟨⟨rfl, by decide, by decide, by decide, fun _ => ⟨g, 0, rfl, fun i hi => ?_⟩⟩, ⟨rfl, by decide, by decide, by decide, fun _ => ⟨g, 6, rfl, fun i hi => ?_⟩⟩, hc 12, hc 13⟩
  · rw [hc]
    match i, hi with
    | 0, _ => rfl | 1, _ => rfl | 2, _ => rfl | 3, _ => rfl | 4, _ => rfl | 5, _ => rfl
  · rw [hc]
    match i, hi with
    | 0, _ => rfl | 1, _ => rfl | 2, _ => rfl | 3, _ => rfl | 4, _ => rfl | 5, _ => rfl

set_option maxHeartbeats 1000000 in
theorem encode_yes (a b c d e f a' b' c' d' e' f' : UInt8) (t : Nat) (s : ByteArray) (w : World) (h1 : 1536 ≤ t) (h2 : t ≤ 65535) (h3 : s.size ≤ 1500) :
    Calls Try.prog 10 #[frameV a b c d e f a' b' c' d' e' f' t s] w fun r w' => r = .returned (.tuple #[.slice (some ⟨w.heap.size + 1, 0, none⟩) (14 + s.size) (14 + s.size), .int .i64 0]) ∧ Ext w w' ∧
      Bytes w' (some ⟨w.heap.size + 1, 0, none⟩) (14 + s.size) (14 + s.size) ([a, b, c, d, e, f, a', b', c', d', e', f', UInt8.ofNat (t / 256), UInt8.ofNat t] ++ s.data.toList) := by
  have q1 : ((t : Int) < 1536) = False := by simp; omega
  have q2 : ((65535 : Int) < (t : Int)) = False := by simp; omega
  have q3 : ((1500 : Int) < (s.size : Int)) = False := by simp; omega
  have q4 : IntKind.i64.wrap (14 + (s.size : Int)) = 14 + (s.size : Int) := IntWalk.i64_in _ (by omega)
  have U1 := hid (show ((t : Int) / 256) = ((UInt8.ofNat (t / 256)).toNat : Int) by rw [UInt8.toNat_ofNat']; omega)
  have U2 := hid (show ((t : Int) % 256) = ((UInt8.ofNat t).toNat : Int) by rw [UInt8.toNat_ofNat']; omega)
  generalize UInt8.ofNat (t / 256) = y1 at *
  generalize UInt8.ofNat t = y2 at *
  obtain ⟨n, hn⟩ : ∃ n, n = 14 + s.size := ⟨_, rfl⟩
  rw [← hn]
  have HN := hid hn
  have h0 : (w.alloc (.cells #[B8 a, B8 b, B8 c, B8 d, B8 e, B8 f, B8 a', B8 b', B8 c', B8 d', B8 e', B8 f', .int .i64 (t : Int), .string s] 30)).heap[w.heap.size]? = some (.cells #[B8 a, B8 b, B8 c, B8 d, B8 e, B8 f, B8 a', B8 b', B8 c', B8 d', B8 e', B8 f', .int .i64 (t : Int), .string s] 30 (0, 0)) := Array.getElem?_push_size
  have H0 := hid h0
  clear h0 hn
  simp only [frameV, B8] at H0 ⊢
  go_enter Try.func10, Try.ntmps10
  go_wp2_with (first
    | (at_make; refine wpList_make_fill rfl (.tmp 22) (.tmp 22) 26 rfl Try.underlying26 (by kernel_rfl) rfl rfl (n := n) (by have := HN.out; omega) (by have := HN.out; omega) ?_; intro w1 F1 x1; have F1' : Fill w1 (w.heap.size + 1) 5 [] n := (by simpa using F1); clear F1)
    | (refine wpList_copy_fill rfl (.tmp 24) (.tmp 26) 26 26 5 rfl Try.underlying26 (by kernel_rfl) rfl rfl F1' (frame_facts (heap_ext x1 H0.out)).1 (by have := HN.out; omega) [a, b, c, d, e, f] (n - 6) rfl (by have := HN.out; omega) (fun _ => rfl) ?_; intro w2 F2 x2)
    | fail)
  simp only [Act.put, List.setIfInBounds_toArray, List.set_cons_succ, List.set_cons_zero]
  have q5 : (n = 6) = False := by have := HN.out; simp; omega
  have q6 : (6 : Int) ≤ (n : Int) := by have := HN.out; omega
  refine wp_region_ex 4 (fun _ => True) (by kernel_rfl) (by kernel_rfl) (by kernel_rfl) (fun _ _ => trivial) ?_
  iterate 4 apply Exists.intro
  refine ⟨?rtxt, ?rgood⟩
  case rtxt =>
    simp only [List.take_succ_cons, List.take_zero]
    apply Txt.on rfl rfl
    · intro w1 hx hk hp; exact ⟨Ext.refl _, rfl⟩
    simp only [Act.put, List.setIfInBounds_toArray, List.set_cons_succ, List.set_cons_zero]
    apply Txt.on rfl rfl
    · intro w1 hx hk hp
      go_simp
      exact ⟨Ext.refl _, rfl⟩
    simp only [Act.put, List.setIfInBounds_toArray, List.set_cons_succ, List.set_cons_zero]
    apply Txt.on rfl rfl
    · intro w1 hx hk hp
      go_simp
      exact ⟨Ext.refl _, rfl⟩
    simp only [Act.put, List.setIfInBounds_toArray, List.set_cons_succ, List.set_cons_zero]
    apply Txt.on rfl rfl
    · intro w1 hx hk hp
      go_simp
      exact ⟨Ext.refl _, rfl⟩
    simp only [Act.put, List.setIfInBounds_toArray, List.set_cons_succ, List.set_cons_zero]
    intro w1 hx hk hp
    simp only [List.drop_succ_cons, List.drop_zero]
    have hs1 := hx.size
    have g2 : w.heap.size + 1 < w2.heap.size := F2.lt
    have H2 := heap_ext hx (heap_under x2 (by omega) (heap_ext x1 H0.out))
    refine wpList_copy_fill rfl (.tmp 29) (.tmp 31) 26 26 5 rfl Try.underlying26 (by kernel_rfl) rfl rfl (F2.ext hx) (frame_facts H2).2.1 (by have := HN.out; omega) [a, b, c, d, e, f, a', b', c', d', e', f'] (n - 12) rfl (by have := HN.out; omega) (fun _ => rfl) ?_
    intro w4 F4 x4
    have X2 : Ext w w2 := Below.trans (((Ext.refl w).alloc _).trans x1) (Below.mono x2 (by omega))
    have X4 : Ext w w4 := Below.trans (X2.trans hx) (Below.mono x4 (by omega))
    have H4 := heap_under x4 (by omega) H2
    have c1 := (frame_facts H4).2.2.1
    have c2 := F4.cell0 12 (by simp) (by have := HN.out; simp; omega)
    have c3 := F4.cell0 13 (by simp) (by have := HN.out; simp; omega)
    have z1 := F4.soft 12
    have z2 := F4.soft 13
    have q7 : (12 : Int) < (n : Int) := by have := HN.out; omega
    have q8 : (13 : Int) < (n : Int) := by have := HN.out; omega
    clear H2 F2 F1'
    go_wp2
    have F5 := (F4.setCell (i := 12) rfl (y1) _ (n - 13) rfl (by have := HN.out; omega)).setCell (i := 13) rfl (y2) [a, b, c, d, e, f, a', b', c', d', e', f', y1, y2] s.size rfl (by have := HN.out; omega)
    have X5 := (X4.set (p := ⟨w.heap.size + 1, 12, none⟩) (by simp) (.int .u8 ((y1).toNat : Int))).set (p := ⟨w.heap.size + 1, 13, none⟩) (by simp) (.int .u8 ((y2).toNat : Int))
    have c5 : ((w4.setCell ⟨w.heap.size + 1, 12, none⟩ (.int .u8 ((y1).toNat : Int))).setCell ⟨w.heap.size + 1, 13, none⟩ (.int .u8 ((y2).toNat : Int))).cell? ⟨w.heap.size, 13, none⟩ = some (.string s) := by
      have := (frame_facts H4).2.2.2
      exact (World.cell?_setCell_other _ _ _ _ fun h => by have := congrArg Addr.block h; simp at this).trans ((World.cell?_setCell_other _ _ _ _ fun h => by have := congrArg Addr.block h; simp at this).trans this)
    rw [U1.out, U2.out]
    generalize (w4.setCell ⟨w.heap.size + 1, 12, none⟩ (.int .u8 ((y1).toNat : Int))).setCell ⟨w.heap.size + 1, 13, none⟩ (.int .u8 ((y2).toNat : Int)) = w5 at *
    have q9 : (14 : Int) ≤ (n : Int) := by have := HN.out; omega
    clear c1 c2 c3 z1 z2 H4 F4
    refine wp_region_ex 4 (fun w' => w'.cell? ⟨w.heap.size, 13, none⟩ = some (.string s)) (by kernel_rfl) (by kernel_rfl) (by kernel_rfl) (fun w' hx => cell_below hx c5) ?_
    iterate 4 apply Exists.intro
    refine ⟨?ytxt, ?ygood⟩
    case ytxt =>
      simp only [List.take_succ_cons, List.take_zero]
      apply Txt.on rfl rfl
      · intro w1 hx hk hp; exact ⟨Ext.refl _, rfl⟩
      simp only [Act.put, List.setIfInBounds_toArray, List.set_cons_succ, List.set_cons_zero]
      apply Txt.on rfl rfl
      · intro w1 hx hk hp
        go_simp
        exact ⟨Ext.refl _, rfl⟩
      simp only [Act.put, List.setIfInBounds_toArray, List.set_cons_succ, List.set_cons_zero]
      apply Txt.on rfl rfl
      · intro w1 hx hk hp
        go_simp
        exact ⟨Ext.refl _, rfl⟩
      simp only [Act.put, List.setIfInBounds_toArray, List.set_cons_succ, List.set_cons_zero]
      apply Txt.on rfl rfl
      · intro w1 hx hk hp
        go_simp
        exact ⟨Ext.refl _, rfl⟩
      simp only [Act.put, List.setIfInBounds_toArray, List.set_cons_succ, List.set_cons_zero]
      intro w1 hx hk hp
      simp only [List.drop_succ_cons, List.drop_zero]
      have hn0 : (if n = 14 then some (⟨w.heap.size + 1, 0, none⟩ : Addr) else some ⟨w.heap.size + 1, 14, none⟩) ≠ none := by split <;> simp
      refine wpList_copy_string rfl (.tmp 45) (.tmp 47) 26 9 5 rfl Try.underlying26 (by kernel_rfl) rfl rfl (F5.ext hx) (by have := HN.out; omega) ([a, b, c, d, e, f, a', b', c', d', e', f', y1, y2] ++ s.data.toList) 0 rfl rfl hn0 (fun h => by rw [if_neg (by have := HN.out; omega)]; rfl) ?_
      intro w6 F6 x6
      have B6 := F6.bytes n (by have := HN.out; simp; omega) (by have := HN.out; omega)
      have X6 : Ext w w6 := Below.trans (X5.trans hx) (Below.mono x6 (by omega))
      rw [List.replicate_zero, List.append_nil] at B6
      clear F5 F6 q5 q6 q7 q8 q9 hn0
      generalize (if n = 14 then some (⟨w.heap.size + 1, 0, none⟩ : Addr) else some ⟨w.heap.size + 1, 14, none⟩) = dp
      go_wp2
      go_ret2
      exact ⟨rfl, X6, B6⟩
    case ygood => exact ⟨GoodG.const _, GoodG.const _, GoodG.const _, GoodG.const _, trivial⟩
  case rgood => exact ⟨GoodG.const _, GoodG.const _, GoodG.const _, GoodG.const _, trivial⟩
end Go.Proofs.Ytlmidhmpolopdaa
