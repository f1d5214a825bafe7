/- EtherWrites: any frame is written as the document says, or refused. No condition. -/
import Derived.Test.YtlmidhmpolopdaaL02a
import Derived.Test.YtlmidhmpolopdaaEtC
import Derived.Test.YtlmidhmpolopdaaRdF
import Derived.Test.YtlmidhmpolopdaaConv
namespace Go.Proofs.Ytlmidhmpolopdaa
open Go.RowKit

set_option maxHeartbeats 1000000 in
theorem etherWrites.yes (a b c d e f a' b' c' d' e' f' : UInt8) (t : Nat) (s : ByteArray) (w : World) (h1 : 1536 ≤ t) (h2 : t ≤ 65535) (h3 : s.size ≤ 1500) :
    Calls Try.prog 3 #[frameV a b c d e f a' b' c' d' e' f' t s] w fun r w' => r = .returned (.bool true) ∧ Below w.heap.size w w' := by
  have E := fun w' => encode_yes a b c d e f a' b' c' d' e' f' t s w' h1 h2 h3
  have R := fun w' => refEncode_yes a b c d e f a' b' c' d' e' f' t s w' h1 h2 h3
  have H0 := hid (heap_new w (.cells #[B8 a, B8 b, B8 c, B8 d, B8 e, B8 f, B8 a', B8 b', B8 c', B8 d', B8 e', B8 f', .int .i64 t, .string s] 25))
  have x0 := below_alloc w (.cells #[B8 a, B8 b, B8 c, B8 d, B8 e, B8 f, B8 a', B8 b', B8 c', B8 d', B8 e', B8 f', .int .i64 t, .string s] 25)
  simp only [frameV, B8] at H0 E R x0 ⊢
  go_enter Try.func3, Try.ntmps3
  go_wp2_with fail
  go_at_call 10
  refine (E _).mono ?_
  rintro e1 w1 ⟨rfl, x1, B1⟩
  obtain ⟨m0, m1, m2, m3, m4, m5, m6, m7, m8, m9, m10, m11, m12, m13⟩ := cells14 (heap_ext x1 H0.out)
  go_wp2_with fail
  clear m0 m1 m2 m3 m4 m5 m6 m7 m8 m9 m10 m11 m12 m13
  go_at_call 11
  refine (R _).mono ?_
  rintro e1 w2 ⟨p, n, q, rfl, x2, B2⟩
  have X2 := (Ext.trans x0 x1).trans x2
  rw [World.size_alloc] at B1
  have C1 := B1.ext x2
  generalize [a, b, c, d, e, f, a', b', c', d', e', f', UInt8.ofNat (t / 256), UInt8.ofNat t] ++ s.data.toList = L at *
  clear E R B1
  go_wp2_with (go_at_call 12; refine (alive_c _).mono ?_; rintro e1 w3 ⟨rfl, x3⟩; have s1 := conv_string (P := Try.prog) Try.underlying26 Try.underlying5 Try.underlying9 (C1.below x3); have s2 := conv_string (P := Try.prog) Try.underlying26 Try.underlying5 Try.underlying9 (B2.below x3))
  go_ret
  exact ⟨rfl, X2.trans x3⟩

set_option maxHeartbeats 1000000 in
theorem etherWrites.no (a b c d e f a' b' c' d' e' f' : UInt8) (t : Int) (s : ByteArray) (w : World) (hs : s.size ≤ 140737488355328) (h : t < 1536 ∨ 65535 < t ∨ 1500 < s.size) :
    Calls Try.prog 3 #[frameV a b c d e f a' b' c' d' e' f' t s] w fun r w' => r = .returned (.bool true) ∧ Below w.heap.size w w' := by
  have E := fun w' => encode_no a b c d e f a' b' c' d' e' f' t s w' h
  have R := fun w' => refEncode_no a b c d e f a' b' c' d' e' f' t s w' hs h
  have H0 := hid (heap_new w (.cells #[B8 a, B8 b, B8 c, B8 d, B8 e, B8 f, B8 a', B8 b', B8 c', B8 d', B8 e', B8 f', .int .i64 t, .string s] 25))
  have x0 := below_alloc w (.cells #[B8 a, B8 b, B8 c, B8 d, B8 e, B8 f, B8 a', B8 b', B8 c', B8 d', B8 e', B8 f', .int .i64 t, .string s] 25)
  simp only [frameV, B8] at H0 E R x0 ⊢
  clear h
  go_enter Try.func3, Try.ntmps3
  go_wp2_with fail
  go_at_call 10
  refine (E _).mono ?_
  rintro e1 w1 ⟨rfl, x1⟩
  obtain ⟨m0, m1, m2, m3, m4, m5, m6, m7, m8, m9, m10, m11, m12, m13⟩ := cells14 (heap_ext x1 H0.out)
  go_wp2_with fail
  clear m0 m1 m2 m3 m4 m5 m6 m7 m8 m9 m10 m11 m12 m13
  go_at_call 11
  refine (R _).mono ?_
  rintro e1 w2 ⟨rfl, x2⟩
  have X2 := (Ext.trans x0 x1).trans x2
  clear E R
  go_wp2_with (go_at_call 12; refine (alive_c _).mono ?_; rintro e1 w3 ⟨rfl, x3⟩; have s1 := conv_string (P := Try.prog) Try.underlying26 Try.underlying5 Try.underlying9 (Bytes.nil w3))
  go_ret
  exact ⟨rfl, X2.trans x3⟩

theorem etherWrites.walk {H : Type} {enc : TypeId × Value → H} (W : World) (args : Array Value) (hn : args.size = 1)
    (h : ∀ (j : Nat) t v, Try.f3.params[j]? = some t → args[j]? = some v → RdV enc false Try.prog W t v) :
    Calls Try.prog 3 args W fun e w' => e = .returned (.bool true) ∧ Below W.heap.size W w' := by
  obtain ⟨v0, rfl⟩ := args1 hn
  obtain ⟨a, b, c, d, e, f, a', b', c', d', e', f', t, s, rfl, ht, hs⟩ := rd_frame (h 0 25 v0 rfl rfl)
  have := lim_le false
  by_cases hno : t < 1536 ∨ 65535 < t ∨ 1500 < s.size
  · exact etherWrites.no a b c d e f a' b' c' d' e' f' t s W (by omega) hno
  · obtain ⟨t, rfl⟩ := Int.eq_ofNat_of_zero_le (show 0 ≤ t by omega)
    exact etherWrites.yes a b c d e f a' b' c' d' e' f' t s W (by omega) (by omega) (by omega)

namespace etherWrites
theorem spec {H : Type} (ds : List (DataW H)) (h : ds.length = Try.f3.params.size) : Rows.etherWritesSpec.fn H ds = { results := [.lit (.bool true)], args := ds } := by
  have h' : ds.length = 1 := h
  match ds, h' with
  | [_], _ => rfl

set_option maxRecDepth 100000 in
theorem lifted (os : Os) (started : os.Started) (H : Type) (enc : TypeId × Value → H) :
    ReturnsInHanded {} Try.checked os 3 .any (Rows.etherWritesSpec.pre6 enc Try.prog Try.f3 Rows.etherWritesRow.domain false) (Rows.etherWritesSpec.post enc Try.prog Try.f3 false true false false) :=
  lifted_said (C := Try.checked) (tb := 4) own started (by kernel_rfl) Try.func3
    (ChangeSpec.witness6 (enc := enc) (C := Try.checked) false ⟨#[], #[.agg #[.int .u8 0, .int .u8 0, .int .u8 0, .int .u8 0, .int .u8 0, .int .u8 0, .int .u8 0, .int .u8 0, .int .u8 0, .int .u8 0, .int .u8 0, .int .u8 0, .int .i64 0, .string .empty]], []⟩ 8 (by kernel_rfl) (by kernel_rfl) (by kernel_rfl) (by kernel_rfl))
    rfl spec rfl Try.underlying4 laidOut (by kernel_rfl) walk

theorem over : Rows.etherWritesRow.holds Try.pinned (OpenSpec.ofChange Rows.etherWritesSpec) :=
  OpenClaim.holds_of_wide 3 Try.f3 rfl rfl rfl rfl rfl rfl rfl ⟨rfl, rfl, rfl, rfl, rfl⟩ rfl rfl rfl rfl rfl (by kernel_rfl) Try.func3 (by kernel_rfl)
    (of_decide_eq_true (by kernel_rfl)) (by unfold Func.isWrapper; first | (rw [if_pos (by decide +kernel)]; kernel_rfl) | (rw [if_neg (by decide +kernel)]; exact ⟨rfl, rfl⟩))
    (fun os started H enc _ => lifted os started H enc)

theorem proved : Rows.EtherWritesSaid := over
#print axioms proved
end etherWrites

end Go.Proofs.Ytlmidhmpolopdaa
