/- EtherCut: a frame that is cut behind its head is the same frame with less of its body; in its head it is none. No condition. -/
import Derived.Test.YtlmidhmpolopdaaEtherReads
import Derived.Test.YtlmidhmpolopdaaEtC
namespace Go.Proofs.Ytlmidhmpolopdaa
open Go.RowKit

theorem extract_take (s : ByteArray) (k : Nat) : s.extract 0 k = ⟨(s.data.toList.take k).toArray⟩ := by
  apply ByteArray.ext
  simp only [ByteArray.data_extract]
  apply Array.ext'
  simp

set_option maxHeartbeats 1000000 in
theorem etherCut.no (a b c d e f a' b' c' d' e' f' : UInt8) (t : Int) (s : ByteArray) (n : Int) (w : World) (h : t < 1536 ∨ 65535 < t ∨ 1500 < s.size) :
    Calls Try.prog 9 #[frameV a b c d e f a' b' c' d' e' f' t s, .int .i64 n] w fun x w' => x = .returned (.bool true) ∧ Below w.heap.size w w' := by
  have E := fun w' => encode_no a b c d e f a' b' c' d' e' f' t s w' h
  simp only [frameV, B8] at E ⊢
  clear h
  go_enter Try.func9, Try.ntmps9
  go_wp2_with fail
  go_at_call 10
  refine (E _).mono ?_
  rintro e1 w1 ⟨rfl, x1⟩
  have X1 := Ext.trans (below_alloc w _) x1
  clear E
  go_wp2_with (go_at_call 12; refine (alive_c _).mono ?_; rintro e w4 ⟨rfl, x4⟩)
  go_ret
  exact ⟨rfl, X1.trans x4⟩

set_option maxHeartbeats 1000000 in
theorem etherCut.low (a b c d e f a' b' c' d' e' f' : UInt8) (t : Nat) (s : ByteArray) (n : Int) (w : World) (h1 : 1536 ≤ t) (h2 : t ≤ 65535) (h3 : s.size ≤ 1500) (h : n < 0) :
    Calls Try.prog 9 #[frameV a b c d e f a' b' c' d' e' f' t s, .int .i64 n] w fun x w' => x = .returned (.bool true) ∧ Below w.heap.size w w' := by
  have E := fun w' => encode_yes a b c d e f a' b' c' d' e' f' t s w' h1 h2 h3
  have H0 := hid (heap_new w (.cells #[.int .u8 (a.toNat : Int), .int .u8 (b.toNat : Int), .int .u8 (c.toNat : Int), .int .u8 (d.toNat : Int), .int .u8 (e.toNat : Int), .int .u8 (f.toNat : Int), .int .u8 (a'.toNat : Int), .int .u8 (b'.toNat : Int), .int .u8 (c'.toNat : Int), .int .u8 (d'.toNat : Int), .int .u8 (e'.toNat : Int), .int .u8 (f'.toNat : Int), .int .i64 t, .string s] 25))
  have x0 := below_alloc w (.cells #[.int .u8 (a.toNat : Int), .int .u8 (b.toNat : Int), .int .u8 (c.toNat : Int), .int .u8 (d.toNat : Int), .int .u8 (e.toNat : Int), .int .u8 (f.toNat : Int), .int .u8 (a'.toNat : Int), .int .u8 (b'.toNat : Int), .int .u8 (c'.toNat : Int), .int .u8 (d'.toNat : Int), .int .u8 (e'.toNat : Int), .int .u8 (f'.toNat : Int), .int .i64 t, .string s] 25)
  simp only [frameV, B8] at E ⊢
  have q1 : (n < 0) = True := by simp; omega
  go_enter Try.func9, Try.ntmps9
  go_wp2_with fail
  go_at_call 10
  refine (E _).mono ?_
  rintro e1 w1 ⟨rfl, x1, B1⟩
  rw [World.size_alloc] at B1
  have X1 := Ext.trans x0 x1
  have H1 := hid (heap_ext x1 H0.out)
  clear E H0
  clear B1 H1
  go_wp2_with (go_at_call 12; refine (alive_c _).mono ?_; rintro e w4 ⟨rfl, x4⟩)
  go_ret
  exact ⟨rfl, X1.trans x4⟩

set_option maxHeartbeats 1000000 in
theorem etherCut.high (a b c d e f a' b' c' d' e' f' : UInt8) (t : Nat) (s : ByteArray) (n : Int) (w : World) (h1 : 1536 ≤ t) (h2 : t ≤ 65535) (h3 : s.size ≤ 1500) (h : 14 + (s.size : Int) < n) :
    Calls Try.prog 9 #[frameV a b c d e f a' b' c' d' e' f' t s, .int .i64 n] w fun x w' => x = .returned (.bool true) ∧ Below w.heap.size w w' := by
  have E := fun w' => encode_yes a b c d e f a' b' c' d' e' f' t s w' h1 h2 h3
  have H0 := hid (heap_new w (.cells #[.int .u8 (a.toNat : Int), .int .u8 (b.toNat : Int), .int .u8 (c.toNat : Int), .int .u8 (d.toNat : Int), .int .u8 (e.toNat : Int), .int .u8 (f.toNat : Int), .int .u8 (a'.toNat : Int), .int .u8 (b'.toNat : Int), .int .u8 (c'.toNat : Int), .int .u8 (d'.toNat : Int), .int .u8 (e'.toNat : Int), .int .u8 (f'.toNat : Int), .int .i64 t, .string s] 25))
  have x0 := below_alloc w (.cells #[.int .u8 (a.toNat : Int), .int .u8 (b.toNat : Int), .int .u8 (c.toNat : Int), .int .u8 (d.toNat : Int), .int .u8 (e.toNat : Int), .int .u8 (f.toNat : Int), .int .u8 (a'.toNat : Int), .int .u8 (b'.toNat : Int), .int .u8 (c'.toNat : Int), .int .u8 (d'.toNat : Int), .int .u8 (e'.toNat : Int), .int .u8 (f'.toNat : Int), .int .i64 t, .string s] 25)
  simp only [frameV, B8] at E ⊢
  have q1 : (n < 0) = False := by simp; omega
  have q2 : (14 + (s.size : Int) < n) = True := by simp; omega
  go_enter Try.func9, Try.ntmps9
  go_wp2_with fail
  go_at_call 10
  refine (E _).mono ?_
  rintro e1 w1 ⟨rfl, x1, B1⟩
  rw [World.size_alloc] at B1
  have X1 := Ext.trans x0 x1
  have H1 := hid (heap_ext x1 H0.out)
  clear E H0
  clear B1 H1
  go_wp2_with (go_at_call 12; refine (alive_c _).mono ?_; rintro e w4 ⟨rfl, x4⟩)
  go_ret
  exact ⟨rfl, X1.trans x4⟩

set_option maxHeartbeats 1000000 in
theorem etherCut.head (a b c d e f a' b' c' d' e' f' : UInt8) (t : Nat) (s : ByteArray) (n : Nat) (w : World) (h1 : 1536 ≤ t) (h2 : t ≤ 65535) (h3 : s.size ≤ 1500) (h : n < 14) :
    Calls Try.prog 9 #[frameV a b c d e f a' b' c' d' e' f' t s, .int .i64 n] w fun x w' => x = .returned (.bool true) ∧ Below w.heap.size w w' := by
  have E := fun w' => encode_yes a b c d e f a' b' c' d' e' f' t s w' h1 h2 h3
  have H0 := hid (heap_new w (.cells #[.int .u8 (a.toNat : Int), .int .u8 (b.toNat : Int), .int .u8 (c.toNat : Int), .int .u8 (d.toNat : Int), .int .u8 (e.toNat : Int), .int .u8 (f.toNat : Int), .int .u8 (a'.toNat : Int), .int .u8 (b'.toNat : Int), .int .u8 (c'.toNat : Int), .int .u8 (d'.toNat : Int), .int .u8 (e'.toNat : Int), .int .u8 (f'.toNat : Int), .int .i64 t, .string s] 25))
  have x0 := below_alloc w (.cells #[.int .u8 (a.toNat : Int), .int .u8 (b.toNat : Int), .int .u8 (c.toNat : Int), .int .u8 (d.toNat : Int), .int .u8 (e.toNat : Int), .int .u8 (f.toNat : Int), .int .u8 (a'.toNat : Int), .int .u8 (b'.toNat : Int), .int .u8 (c'.toNat : Int), .int .u8 (d'.toNat : Int), .int .u8 (e'.toNat : Int), .int .u8 (f'.toNat : Int), .int .i64 t, .string s] 25)
  simp only [frameV, B8] at E ⊢
  have D := fun p c w' => decode_short p n c w' (.inl h)
  have q1 : ((n : Int) < 0) = False := by simp
  have q2 : (14 + (s.size : Int) < (n : Int)) = False := by simp; omega
  have q3 : (n : Int) ≤ 14 + (s.size : Int) := by omega
  have q4 : ((n : Int) < 14) = True := by simp; omega
  go_enter Try.func9, Try.ntmps9
  go_wp2_with fail
  go_at_call 10
  refine (E _).mono ?_
  rintro e1 w1 ⟨rfl, x1, B1⟩
  rw [World.size_alloc] at B1
  have X1 := Ext.trans x0 x1
  have H1 := hid (heap_ext x1 H0.out)
  clear E H0
  clear B1 H1
  go_wp2_with fail
  go_at_call 15
  refine (D _ _ _).mono ?_
  rintro e1 w2 ⟨rfl, x2⟩
  have H2 := hid (heap_new w2 (.cells #[.int .u8 0, .int .u8 0, .int .u8 0, .int .u8 0, .int .u8 0, .int .u8 0, .int .u8 0, .int .u8 0, .int .u8 0, .int .u8 0, .int .u8 0, .int .u8 0, .int .i64 0, .string ⟨#[]⟩] 30))
  have X2 := (X1.trans x2).alloc (.cells #[.int .u8 0, .int .u8 0, .int .u8 0, .int .u8 0, .int .u8 0, .int .u8 0, .int .u8 0, .int .u8 0, .int .u8 0, .int .u8 0, .int .u8 0, .int .u8 0, .int .i64 0, .string ⟨#[]⟩] 30)
  clear D
  go_wp2_with (go_at_call 12; refine (alive_c _).mono ?_; rintro e w4 ⟨rfl, x4⟩; obtain ⟨n0, n1, n2, n3, n4, n5, n6, n7, n8, n9, n10, n11, n12, n13⟩ := cells14 (heap_ext x4 H2.out))
  go_ret
  exact ⟨rfl, X2.trans x4⟩

set_option maxHeartbeats 1000000 in
theorem etherCut.body (a b c d e f a' b' c' d' e' f' : UInt8) (t : Nat) (s : ByteArray) (n : Nat) (w : World) (h1 : 1536 ≤ t) (h2 : t ≤ 65535) (h3 : s.size ≤ 1500) (h : 14 ≤ n) (h' : n ≤ 14 + s.size) :
    Calls Try.prog 9 #[frameV a b c d e f a' b' c' d' e' f' t s, .int .i64 n] w fun x w' => x = .returned (.bool true) ∧ Below w.heap.size w w' := by
  have E := fun w' => encode_yes a b c d e f a' b' c' d' e' f' t s w' h1 h2 h3
  have H0 := hid (heap_new w (.cells #[.int .u8 (a.toNat : Int), .int .u8 (b.toNat : Int), .int .u8 (c.toNat : Int), .int .u8 (d.toNat : Int), .int .u8 (e.toNat : Int), .int .u8 (f.toNat : Int), .int .u8 (a'.toNat : Int), .int .u8 (b'.toNat : Int), .int .u8 (c'.toNat : Int), .int .u8 (d'.toNat : Int), .int .u8 (e'.toNat : Int), .int .u8 (f'.toNat : Int), .int .i64 t, .string s] 25))
  have x0 := below_alloc w (.cells #[.int .u8 (a.toNat : Int), .int .u8 (b.toNat : Int), .int .u8 (c.toNat : Int), .int .u8 (d.toNat : Int), .int .u8 (e.toNat : Int), .int .u8 (f.toNat : Int), .int .u8 (a'.toNat : Int), .int .u8 (b'.toNat : Int), .int .u8 (c'.toNat : Int), .int .u8 (d'.toNat : Int), .int .u8 (e'.toNat : Int), .int .u8 (f'.toNat : Int), .int .i64 t, .string s] 25)
  simp only [frameV, B8] at E ⊢
  have q1 : ((n : Int) < 0) = False := by simp
  have q2 : (14 + (s.size : Int) < (n : Int)) = False := by simp; omega
  have q3 : (n : Int) ≤ 14 + (s.size : Int) := by omega
  have q4 : ((n : Int) < 14) = False := by simp; omega
  go_enter Try.func9, Try.ntmps9
  go_wp2_with fail
  go_at_call 10
  refine (E _).mono ?_
  rintro e1 w1 ⟨rfl, x1, B1⟩
  rw [World.size_alloc] at B1
  have X1 := Ext.trans x0 x1
  have H1 := hid (heap_ext x1 H0.out)
  clear E H0
  go_wp2_with fail
  go_at_call 15
  have B2 := B1.take n (by omega)
  have e0 : ([a, b, c, d, e, f, a', b', c', d', e', f', UInt8.ofNat (t / 256), UInt8.ofNat t] ++ s.data.toList).take n = [a, b, c, d, e, f, a', b', c', d', e', f', UInt8.ofNat (t / 256), UInt8.ofNat t] ++ s.data.toList.take (n - 14) := by
    rw [List.take_append]
    rw [List.take_of_length_le (by simp; omega)]
    rfl
  rw [e0] at B2
  have ht : t = (UInt8.ofNat (t / 256)).toNat * 256 + (UInt8.ofNat t).toNat := by rw [UInt8.toNat_ofNat', UInt8.toNat_ofNat']; omega
  have D := decode_long a b c d e f a' b' c' d' e' f' _ _ _ _ _ n _ _ B2 (by omega) t ht _ (by rw [if_pos h1])
  simp only [frameV, B8] at D
  refine D.mono ?_
  rintro e1 w2 ⟨rfl, x2⟩
  clear D B1 B2 e0 ht
  obtain ⟨S, hS⟩ : ∃ S : ByteArray, S = ⟨(s.data.toList.take (n - 14)).toArray⟩ := ⟨_, rfl⟩
  rw [← hS]
  have hx : s.extract 0 (n - 14) = S := by
    rw [hS]; exact extract_take s (n - 14)
  clear hS
  have X2 := (X1.trans x2).alloc (.cells #[.int .u8 (a.toNat : Int), .int .u8 (b.toNat : Int), .int .u8 (c.toNat : Int), .int .u8 (d.toNat : Int), .int .u8 (e.toNat : Int), .int .u8 (f.toNat : Int), .int .u8 (a'.toNat : Int), .int .u8 (b'.toNat : Int), .int .u8 (c'.toNat : Int), .int .u8 (d'.toNat : Int), .int .u8 (e'.toNat : Int), .int .u8 (f'.toNat : Int), .int .i64 t, .string S] 30)
  have HG : Holds (w2.alloc (.cells #[.int .u8 (a.toNat : Int), .int .u8 (b.toNat : Int), .int .u8 (c.toNat : Int), .int .u8 (d.toNat : Int), .int .u8 (e.toNat : Int), .int .u8 (f.toNat : Int), .int .u8 (a'.toNat : Int), .int .u8 (b'.toNat : Int), .int .u8 (c'.toNat : Int), .int .u8 (d'.toNat : Int), .int .u8 (e'.toNat : Int), .int .u8 (f'.toNat : Int), .int .i64 t, .string S] 30)) w.heap.size [.int .u8 (a.toNat : Int), .int .u8 (b.toNat : Int), .int .u8 (c.toNat : Int), .int .u8 (d.toNat : Int), .int .u8 (e.toNat : Int), .int .u8 (f.toNat : Int), .int .u8 (a'.toNat : Int), .int .u8 (b'.toNat : Int), .int .u8 (c'.toNat : Int), .int .u8 (d'.toNat : Int), .int .u8 (e'.toNat : Int), .int .u8 (f'.toNat : Int), .int .i64 t, .string s] 25 := heap_ext (x2.alloc _) H1.out
  have HD : Holds (w2.alloc (.cells #[.int .u8 (a.toNat : Int), .int .u8 (b.toNat : Int), .int .u8 (c.toNat : Int), .int .u8 (d.toNat : Int), .int .u8 (e.toNat : Int), .int .u8 (f.toNat : Int), .int .u8 (a'.toNat : Int), .int .u8 (b'.toNat : Int), .int .u8 (c'.toNat : Int), .int .u8 (d'.toNat : Int), .int .u8 (e'.toNat : Int), .int .u8 (f'.toNat : Int), .int .i64 t, .string S] 30)) w2.heap.size [.int .u8 (a.toNat : Int), .int .u8 (b.toNat : Int), .int .u8 (c.toNat : Int), .int .u8 (d.toNat : Int), .int .u8 (e.toNat : Int), .int .u8 (f.toNat : Int), .int .u8 (a'.toNat : Int), .int .u8 (b'.toNat : Int), .int .u8 (c'.toNat : Int), .int .u8 (d'.toNat : Int), .int .u8 (e'.toNat : Int), .int .u8 (f'.toNat : Int), .int .i64 t, .string S] 30 := heap_new w2 _
  have c13 := HG.cell 13
  have s13 := HG.soft 13
  have hlt : w.heap.size < w2.heap.size := Nat.lt_of_lt_of_le (Array.getElem?_eq_some_iff.1 H1.out).1 x2.size
  have G2 := hid (HG.setCell 13 (.string S))
  have D2 := hid (HD.setCell_other ⟨w.heap.size, 13, none⟩ (by show w2.heap.size ≠ w.heap.size; omega) (.string S))
  have X3 := X2.set (p := ⟨w.heap.size, 13, none⟩) (Nat.le_refl _) (.string S)
  have q5 : IntKind.i64.wrap ((n : Int) - 14) = (n : Int) - 14 := IntWalk.i64_in _ (by omega)
  have q6 : (0 : Int) ≤ (n : Int) - 14 := by omega
  have q7 : (n : Int) - 14 ≤ (s.size : Int) := by omega
  have q8 : ((n : Int) - 14).toNat = n - 14 := by omega
  clear HG HD hlt
  go_wp2_with (go_at_call 12; refine (alive_c _).mono ?_; rintro e w4 ⟨rfl, x4⟩; obtain ⟨m0, m1, m2, m3, m4, m5, m6, m7, m8, m9, m10, m11, m12, m13⟩ := cells14 (heap_ext x4 (show _ = _ from G2.out)); obtain ⟨n0, n1, n2, n3, n4, n5, n6, n7, n8, n9, n10, n11, n12, n13⟩ := cells14 (heap_ext x4 (show _ = _ from D2.out)))
  go_ret
  exact ⟨rfl, X3.trans x4⟩

theorem etherCut.walk {H : Type} {enc : TypeId × Value → H} (W : World) (args : Array Value) (hn : args.size = 2)
    (h : ∀ (j : Nat) t v, Try.f9.params[j]? = some t → args[j]? = some v → RdV enc false Try.prog W t v) :
    Calls Try.prog 9 args W fun e w' => e = .returned (.bool true) ∧ Below W.heap.size W w' := by
  obtain ⟨v0, v1, rfl⟩ := args2 hn
  obtain ⟨a, b, c, d, e, f, a', b', c', d', e', f', t, s, rfl, ht, hs⟩ := rd_frame (h 0 25 v0 rfl rfl)
  obtain ⟨n, rfl, wn⟩ := (h 1 3 v1 rfl rfl).int Try.underlying3
  by_cases hno : t < 1536 ∨ 65535 < t ∨ 1500 < s.size
  · exact etherCut.no a b c d e f a' b' c' d' e' f' t s n W hno
  obtain ⟨t, rfl⟩ := Int.eq_ofNat_of_zero_le (show 0 ≤ t by omega)
  by_cases n1 : n < 0
  · exact etherCut.low a b c d e f a' b' c' d' e' f' t s n W (by omega) (by omega) (by omega) n1
  by_cases n2 : 14 + (s.size : Int) < n
  · exact etherCut.high a b c d e f a' b' c' d' e' f' t s n W (by omega) (by omega) (by omega) n2
  obtain ⟨n, rfl⟩ := Int.eq_ofNat_of_zero_le (show 0 ≤ n by omega)
  by_cases n3 : n < 14
  · exact etherCut.head a b c d e f a' b' c' d' e' f' t s n W (by omega) (by omega) (by omega) n3
  · exact etherCut.body a b c d e f a' b' c' d' e' f' t s n W (by omega) (by omega) (by omega) (by omega) (by omega)

namespace etherCut
theorem spec {H : Type} (ds : List (DataW H)) (h : ds.length = Try.f9.params.size) : Rows.etherCutSpec.fn H ds = { results := [.lit (.bool true)], args := ds } := by
  have h' : ds.length = 2 := h
  match ds, h' with
  | [_, _], _ => rfl

set_option maxRecDepth 100000 in
theorem lifted (os : Os) (started : os.Started) (H : Type) (enc : TypeId × Value → H) :
    ReturnsInHanded {} Try.checked os 9 .any (Rows.etherCutSpec.pre6 enc Try.prog Try.f9 Rows.etherCutRow.domain false) (Rows.etherCutSpec.post enc Try.prog Try.f9 false true false false) :=
  lifted_said (C := Try.checked) (tb := 4) own started (by kernel_rfl) Try.func9
    (ChangeSpec.witness6 (enc := enc) (C := Try.checked) false ⟨#[], #[.agg #[.int .u8 0, .int .u8 0, .int .u8 0, .int .u8 0, .int .u8 0, .int .u8 0, .int .u8 0, .int .u8 0, .int .u8 0, .int .u8 0, .int .u8 0, .int .u8 0, .int .i64 0, .string .empty], .int .i64 0], []⟩ 8 (by kernel_rfl) (by kernel_rfl) (by kernel_rfl) (by kernel_rfl))
    rfl spec rfl Try.underlying4 laidOut (by kernel_rfl) walk

theorem over : Rows.etherCutRow.holds Try.pinned (OpenSpec.ofChange Rows.etherCutSpec) :=
  OpenClaim.holds_of_wide 9 Try.f9 rfl rfl rfl rfl rfl rfl rfl ⟨rfl, rfl, rfl, rfl, rfl⟩ rfl rfl rfl rfl rfl (by kernel_rfl) Try.func9 (by kernel_rfl)
    (of_decide_eq_true (by kernel_rfl)) (by unfold Func.isWrapper; first | (rw [if_pos (by decide +kernel)]; kernel_rfl) | (rw [if_neg (by decide +kernel)]; exact ⟨rfl, rfl⟩))
    (fun os started H enc _ => lifted os started H enc)

theorem proved : Rows.EtherCutSaid := over
#print axioms proved
end etherCut

end Go.Proofs.Ytlmidhmpolopdaa
