/- A frame and a card's address, as they are handed in. -/
import Derived.Test.YtlmidhmpolopdaaEtB
import Derived.Test.YtlmidhmpolopdaaFrame
namespace Go.Proofs.Ytlmidhmpolopdaa
open Go.RowKit

theorem rd_u8 {H : Type} {enc : TypeId × Value → H} {m : Bool} {W : World} {cs : List Value} (h : Rd enc m Try.prog W 5 cs) : ∃ x : UInt8, cs = [B8 x] := by
  obtain ⟨n, rfl, hw⟩ := h.int Try.underlying5
  have hb := u8_bd hw
  refine ⟨UInt8.ofNat n.toNat, ?_⟩
  have e : ((UInt8.ofNat n.toNat).toNat : Int) = n := by rw [UInt8.toNat_ofNat']; omega
  simp only [B8]
  rw [e]

theorem list6 {α : Type} {cs : List α} (h : cs.length = 6) : ∃ a b c d e f, cs = [a, b, c, d, e, f] := by
  match cs, h with
  | [a, b, c, d, e, f], _ => exact ⟨a, b, c, d, e, f, rfl⟩
theorem list14 {α : Type} {cs : List α} (h : cs.length = 14) : ∃ a b c d e f g i j k l m n o, cs = [a, b, c, d, e, f, g, i, j, k, l, m, n, o] := by
  match cs, h with
  | [a, b, c, d, e, f, g, i, j, k, l, m, n, o], _ => exact ⟨a, b, c, d, e, f, g, i, j, k, l, m, n, o, rfl⟩

theorem rd_mac {H : Type} {enc : TypeId × Value → H} {m : Bool} {W : World} {cs : List Value} (h : Rd enc m Try.prog W 23 cs) : ∃ a b c d e f : UInt8, cs = [B8 a, B8 b, B8 c, B8 d, B8 e, B8 f] := by
  have h6 : Try.prog.cellsOf 23 = 6 := by kernel_rfl
  have h1 : Try.prog.cellsOf 5 = 1 := by kernel_rfl
  obtain ⟨hl, hi⟩ := h.array Try.underlying23
  rw [h6] at hl
  rw [h1] at hi
  obtain ⟨v0, v1, v2, v3, v4, v5, rfl⟩ := list6 hl
  obtain ⟨a, ha⟩ := rd_u8 (hi 0 (by decide))
  obtain ⟨b, hb⟩ := rd_u8 (hi 1 (by decide))
  obtain ⟨c, hc⟩ := rd_u8 (hi 2 (by decide))
  obtain ⟨d, hd⟩ := rd_u8 (hi 3 (by decide))
  obtain ⟨e, he⟩ := rd_u8 (hi 4 (by decide))
  obtain ⟨f, hf⟩ := rd_u8 (hi 5 (by decide))
  simp only [Nat.mul_one, List.drop_succ_cons, List.drop_zero, List.take_succ_cons, List.take_zero, List.cons.injEq, and_true] at ha hb hc hd he hf
  subst ha hb hc hd he hf
  exact ⟨a, b, c, d, e, f, rfl⟩

theorem rd_frame {H : Type} {enc : TypeId × Value → H} {m : Bool} {W : World} {v : Value} (h : RdV enc m Try.prog W 25 v) :
    ∃ (a b c d e f a' b' c' d' e' f' : UInt8) (t : Int) (s : ByteArray), v = frameV a b c d e f a' b' c' d' e' f' t s ∧ (Lit.int .i64 t).wf = true ∧ s.size ≤ lim m := by
  obtain ⟨cs, rfl, hc⟩ := h.agg (.inl ⟨_, Try.underlying25⟩)
  obtain ⟨hl, hi⟩ := hc.struct Try.underlying25
  rw [show Try.prog.cellsOf 25 = 14 by kernel_rfl] at hl
  obtain ⟨v0, v1, v2, v3, v4, v5, v6, v7, v8, v9, v10, v11, v12, v13, rfl⟩ := list14 hl
  have h0 : Rd enc m Try.prog W 23 (([v0, v1, v2, v3, v4, v5, v6, v7, v8, v9, v10, v11, v12, v13].drop 0).take (Try.prog.cellsOf 23)) := hi 0 _ rfl
  have h1 : Rd enc m Try.prog W 23 (([v0, v1, v2, v3, v4, v5, v6, v7, v8, v9, v10, v11, v12, v13].drop 6).take (Try.prog.cellsOf 23)) := hi 1 _ rfl
  have h2 : Rd enc m Try.prog W 3 (([v0, v1, v2, v3, v4, v5, v6, v7, v8, v9, v10, v11, v12, v13].drop 12).take (Try.prog.cellsOf 3)) := hi 2 _ rfl
  have h3 : Rd enc m Try.prog W 9 (([v0, v1, v2, v3, v4, v5, v6, v7, v8, v9, v10, v11, v12, v13].drop 13).take (Try.prog.cellsOf 9)) := hi 3 _ rfl
  rw [show Try.prog.cellsOf 23 = 6 by kernel_rfl] at h0 h1
  rw [show Try.prog.cellsOf 3 = 1 by kernel_rfl] at h2
  rw [show Try.prog.cellsOf 9 = 1 by kernel_rfl] at h3
  obtain ⟨a, b, c, d, e, f, hA⟩ := rd_mac h0
  obtain ⟨a', b', c', d', e', f', hB⟩ := rd_mac h1
  obtain ⟨t, hC, ht⟩ := h2.int Try.underlying3
  obtain ⟨s, hD, hs⟩ := h3.string Try.underlying9
  simp only [List.drop_succ_cons, List.drop_zero, List.take_succ_cons, List.take_zero, List.cons.injEq, and_true] at hA hB hC hD
  obtain ⟨rfl, rfl, rfl, rfl, rfl, rfl⟩ := hA
  obtain ⟨rfl, rfl, rfl, rfl, rfl, rfl⟩ := hB
  subst hC hD
  exact ⟨a, b, c, d, e, f, a', b', c', d', e', f', t, s, rfl, ht, hs⟩
end Go.Proofs.Ytlmidhmpolopdaa
