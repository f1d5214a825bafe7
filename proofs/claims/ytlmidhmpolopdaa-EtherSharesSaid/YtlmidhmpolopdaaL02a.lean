/- alive of chapter 2. -/
import Derived.Test.YtlmidhmpolopdaaEtB
import Derived.Test.YtlmidhmpolopdaaEqM
import Derived.Test.YtlmidhmpolopdaaFrame
namespace Go.Proofs.Ytlmidhmpolopdaa
open Go.RowKit

theorem encode_at {v : Value} (w : World) (a b c d e f a' b' c' d' e' f' : UInt8) (t : Nat) (s : ByteArray) (hv : v = frameV a b c d e f a' b' c' d' e' f' t s) (h1 : 1536 ≤ t) (h2 : t ≤ 65535) (h3 : s.size ≤ 1500) (n : Nat) (hn : n = 14 + s.size) :
    Calls Try.prog 10 #[v] w fun r w' => r = .returned (.tuple #[.slice (some ⟨w.heap.size + 1, 0, none⟩) n n, .int .i64 0]) ∧ Ext w w' ∧
      Bytes w' (some ⟨w.heap.size + 1, 0, none⟩) n n ([a, b, c, d, e, f, a', b', c', d', e', f', UInt8.ofNat (t / 256), UInt8.ofNat t] ++ s.data.toList) := by
  subst hv; subst hn
  exact encode_yes a b c d e f a' b' c' d' e' f' t s w h1 h2 h3

set_option maxHeartbeats 1000000 in
theorem alive_c (w : World) : Calls Try.prog 12 #[] w fun e w' => e = .returned (.bool true) ∧ Below w.heap.size w w' := by
  go_enter Try.func12, Try.ntmps12
  go_wp2_with (go_at_call 13; refine (virtual_yes 7 false _ (by decide) (by decide)).mono ?_; rintro e w1 ⟨rfl, x1⟩)
  go_at_call 10
  refine (encode_at _ 0 0 94 0 1 7 0 0 0 0 0 0 2048 ⟨#[120]⟩ (by rfl) (by decide) (by decide) (by decide) 15 (by rfl)).mono ?_
  rintro e w2 ⟨rfl, x2, B2⟩
  have c5 := B2.cell 5 (by decide) (x := 7) (by decide)
  have c12 := B2.cell 12 (by decide) (x := 8) (by decide)
  have X := ((x1.alloc (.cells #[.int .u8 0, .int .u8 0, .int .u8 94, .int .u8 0, .int .u8 1, .int .u8 7] 23)).trans x2)
  obtain ⟨m0, m1, m2, m3, m4, m5⟩ := cells6 (heap_ext x2 (heap_new w1 _))
  clear B2
  simp only [World.size_alloc, Nat.zero_add] at c5 c12
  go_wp2_with (go_at_call 21; refine (all_c _).mono ?_; rintro e w3 ⟨rfl, x3⟩)

  go_ret
  exact ⟨rfl, X.trans x3⟩
end Go.Proofs.Ytlmidhmpolopdaa
