/- EtherBack: what was written is read as it was; what was read is written as the same bytes. No condition. -/
import Derived.Test.YtlmidhmpolopdaaEtherReads
import Derived.Test.YtlmidhmpolopdaaEtC
import Derived.Test.YtlmidhmpolopdaaConv
namespace Go.Proofs.Ytlmidhmpolopdaa
open Go.RowKit

set_option maxHeartbeats 2000000 in
theorem etherBack.noNo (a b c d e f a' b' c' d' e' f' : UInt8) (t : Int) (s : ByteArray) (p : Option Addr) (n q : Nat) (k : Int) (h : t < 1536 ∨ 65535 < t ∨ 1500 < s.size) (hk : k ≠ 0) (w : World) (D : ∀ w', Ext w w' → Calls Try.prog 15 #[.slice p n q] w' fun x w'' => x = .returned (.tuple #[frame0, .int .i64 k]) ∧ Ext w' w'') :
    Calls Try.prog 7 #[frameV a b c d e f a' b' c' d' e' f' t s, .slice p n q] w fun x w' => x = .returned (.bool true) ∧ Below w.heap.size w w' := by
  have E := fun w' => encode_no a b c d e f a' b' c' d' e' f' t s w' h
  have H0 := hid (heap_new w (.cells #[.int .u8 (a.toNat : Int), .int .u8 (b.toNat : Int), .int .u8 (c.toNat : Int), .int .u8 (d.toNat : Int), .int .u8 (e.toNat : Int), .int .u8 (f.toNat : Int), .int .u8 (a'.toNat : Int), .int .u8 (b'.toNat : Int), .int .u8 (c'.toNat : Int), .int .u8 (d'.toNat : Int), .int .u8 (e'.toNat : Int), .int .u8 (f'.toNat : Int), .int .i64 t, .string s] 25))
  have x0 := below_alloc w (.cells #[.int .u8 (a.toNat : Int), .int .u8 (b.toNat : Int), .int .u8 (c.toNat : Int), .int .u8 (d.toNat : Int), .int .u8 (e.toNat : Int), .int .u8 (f.toNat : Int), .int .u8 (a'.toNat : Int), .int .u8 (b'.toNat : Int), .int .u8 (c'.toNat : Int), .int .u8 (d'.toNat : Int), .int .u8 (e'.toNat : Int), .int .u8 (f'.toNat : Int), .int .i64 t, .string s] 25)
  have hk' : (k == 0) = false := by simp; exact hk
  have hk2 : (k != 0) = true := by simp; exact hk
  simp only [frameV, B8] at E ⊢
  clear h
  go_enter Try.func7, Try.ntmps7
  go_wp2_with fail
  go_at_call 10
  refine (E _).mono ?_
  rintro e1 w1 ⟨rfl, x1⟩
  have X2 := Ext.trans x0 x1
  clear E H0
  go_wp2_with fail
  go_at_call 15
  refine (D _ X2).mono ?_
  rintro e1 w3 ⟨rfl, x3⟩
  have X3 := (X2.trans x3).alloc (.cells #[.int .u8 0, .int .u8 0, .int .u8 0, .int .u8 0, .int .u8 0, .int .u8 0, .int .u8 0, .int .u8 0, .int .u8 0, .int .u8 0, .int .u8 0, .int .u8 0, .int .i64 0, .string ⟨#[]⟩] 30)
  have H3 := hid (heap_new w3 (.cells #[.int .u8 0, .int .u8 0, .int .u8 0, .int .u8 0, .int .u8 0, .int .u8 0, .int .u8 0, .int .u8 0, .int .u8 0, .int .u8 0, .int .u8 0, .int .u8 0, .int .i64 0, .string ⟨#[]⟩] 30))
  clear D
  go_wp2_with (go_at_call 12; refine (alive_c _).mono ?_; rintro e w5 ⟨rfl, x5⟩; obtain ⟨n0, n1, n2, n3, n4, n5, n6, n7, n8, n9, n10, n11, n12, n13⟩ := cells14 (heap_ext x5 H3.out))
  go_ret
  exact ⟨rfl, X3.trans x5⟩

set_option maxHeartbeats 2000000 in
theorem etherBack.noOk (a b c d e f a' b' c' d' e' f' : UInt8) (t : Int) (s : ByteArray) (p off n q : Nat) (g0 g1 g2 g3 g4 g5 g6 g7 g8 g9 g10 g11 y1 y2 : UInt8) (r : List UInt8) (t' : Nat) (h : t < 1536 ∨ 65535 < t ∨ 1500 < s.size) (w : World) (hB : Bytes w (some ⟨p, off, none⟩) n q ([g0, g1, g2, g3, g4, g5, g6, g7, g8, g9, g10, g11, y1, y2] ++ r)) (hn : n ≤ 1514) (ht : t' = y1.toNat * 256 + y2.toNat) (ht' : 1536 ≤ t') :
    Calls Try.prog 7 #[frameV a b c d e f a' b' c' d' e' f' t s, .slice (some ⟨p, off, none⟩) n q] w fun x w' => x = .returned (.bool true) ∧ Below w.heap.size w w' := by
  have E := fun w' => encode_no a b c d e f a' b' c' d' e' f' t s w' h
  have H0 := hid (heap_new w (.cells #[.int .u8 (a.toNat : Int), .int .u8 (b.toNat : Int), .int .u8 (c.toNat : Int), .int .u8 (d.toNat : Int), .int .u8 (e.toNat : Int), .int .u8 (f.toNat : Int), .int .u8 (a'.toNat : Int), .int .u8 (b'.toNat : Int), .int .u8 (c'.toNat : Int), .int .u8 (d'.toNat : Int), .int .u8 (e'.toNat : Int), .int .u8 (f'.toNat : Int), .int .i64 t, .string s] 25))
  have x0 := below_alloc w (.cells #[.int .u8 (a.toNat : Int), .int .u8 (b.toNat : Int), .int .u8 (c.toNat : Int), .int .u8 (d.toNat : Int), .int .u8 (e.toNat : Int), .int .u8 (f.toNat : Int), .int .u8 (a'.toNat : Int), .int .u8 (b'.toNat : Int), .int .u8 (c'.toNat : Int), .int .u8 (d'.toNat : Int), .int .u8 (e'.toNat : Int), .int .u8 (f'.toNat : Int), .int .i64 t, .string s] 25)
  have hl := hB.len
  have hr : r.length ≤ 1500 := by simp at hl; omega
  have hnl : n = 14 + (⟨r.toArray⟩ : ByteArray).size := by rw [hl]; simp [ByteArray.size]; omega
  have D := fun w' (x : Ext w w') => decode_long g0 g1 g2 g3 g4 g5 g6 g7 g8 g9 g10 g11 y1 y2 r p off n q w' (hB.ext x) hn t' ht _ (by rw [if_pos ht'])
  have E2 := fun w' => encode_at (v := frameV g0 g1 g2 g3 g4 g5 g6 g7 g8 g9 g10 g11 t' ⟨r.toArray⟩) w' g0 g1 g2 g3 g4 g5 g6 g7 g8 g9 g10 g11 t' ⟨r.toArray⟩ rfl ht' (by have := y1.toNat_lt; have := y2.toNat_lt; omega) (by simpa [ByteArray.size] using hr) n hnl
  have hy1 : UInt8.ofNat (t' / 256) = y1 := by
    apply UInt8.toNat_inj.1; rw [UInt8.toNat_ofNat']; have := y1.toNat_lt; have := y2.toNat_lt; omega
  have hy2 : UInt8.ofNat t' = y2 := by
    apply UInt8.toNat_inj.1; rw [UInt8.toNat_ofNat']; have := y1.toNat_lt; have := y2.toNat_lt; omega
  rw [hy1, hy2] at E2
  have HB := hid hB
  clear hy1 hy2 hl hnl hr hB ht
  simp only [frameV, B8] at D E E2 ⊢
  clear h
  go_enter Try.func7, Try.ntmps7
  go_wp2_with fail
  go_at_call 10
  refine (E _).mono ?_
  rintro e1 w1 ⟨rfl, x1⟩
  have X2 := Ext.trans x0 x1
  clear E H0
  go_wp2_with fail
  go_at_call 15
  refine (D _ X2).mono ?_
  rintro e1 w3 ⟨rfl, x3⟩
  have X3 := (X2.trans x3).alloc (.cells #[.int .u8 (g0.toNat : Int), .int .u8 (g1.toNat : Int), .int .u8 (g2.toNat : Int), .int .u8 (g3.toNat : Int), .int .u8 (g4.toNat : Int), .int .u8 (g5.toNat : Int), .int .u8 (g6.toNat : Int), .int .u8 (g7.toNat : Int), .int .u8 (g8.toNat : Int), .int .u8 (g9.toNat : Int), .int .u8 (g10.toNat : Int), .int .u8 (g11.toNat : Int), .int .i64 t', .string ⟨r.toArray⟩] 30)
  clear D
  go_wp2_with fail
  go_at_call 10
  refine (E2 _).mono ?_
  rintro e1 w4 ⟨rfl, x4, B4⟩
  rw [World.size_alloc] at B4
  have C4 := HB.out.ext (X3.trans x4)
  generalize ([g0, g1, g2, g3, g4, g5, g6, g7, g8, g9, g10, g11, y1, y2] ++ r) = LL at *
  clear E2
  go_wp2_with (go_at_call 12; refine (alive_c _).mono ?_; rintro e w5 ⟨rfl, x5⟩; have s1 := conv_string (P := Try.prog) Try.underlying26 Try.underlying5 Try.underlying9 (B4.below x5); have s2 := conv_string (P := Try.prog) Try.underlying26 Try.underlying5 Try.underlying9 (C4.below x5))
  go_ret
  exact ⟨rfl, (X3.trans x4).trans x5⟩

set_option maxHeartbeats 2000000 in
theorem etherBack.yesNo (a b c d e f a' b' c' d' e' f' : UInt8) (t : Nat) (s : ByteArray) (p : Option Addr) (n q : Nat) (k : Int) (h1 : 1536 ≤ t) (h2 : t ≤ 65535) (h3 : s.size ≤ 1500) (hk : k ≠ 0) (w : World) (D : ∀ w', Ext w w' → Calls Try.prog 15 #[.slice p n q] w' fun x w'' => x = .returned (.tuple #[frame0, .int .i64 k]) ∧ Ext w' w'') :
    Calls Try.prog 7 #[frameV a b c d e f a' b' c' d' e' f' t s, .slice p n q] w fun x w' => x = .returned (.bool true) ∧ Below w.heap.size w w' := by
  have E := fun w' => encode_yes a b c d e f a' b' c' d' e' f' t s w' h1 h2 h3
  have H0 := hid (heap_new w (.cells #[.int .u8 (a.toNat : Int), .int .u8 (b.toNat : Int), .int .u8 (c.toNat : Int), .int .u8 (d.toNat : Int), .int .u8 (e.toNat : Int), .int .u8 (f.toNat : Int), .int .u8 (a'.toNat : Int), .int .u8 (b'.toNat : Int), .int .u8 (c'.toNat : Int), .int .u8 (d'.toNat : Int), .int .u8 (e'.toNat : Int), .int .u8 (f'.toNat : Int), .int .i64 t, .string s] 25))
  have x0 := below_alloc w (.cells #[.int .u8 (a.toNat : Int), .int .u8 (b.toNat : Int), .int .u8 (c.toNat : Int), .int .u8 (d.toNat : Int), .int .u8 (e.toNat : Int), .int .u8 (f.toNat : Int), .int .u8 (a'.toNat : Int), .int .u8 (b'.toNat : Int), .int .u8 (c'.toNat : Int), .int .u8 (d'.toNat : Int), .int .u8 (e'.toNat : Int), .int .u8 (f'.toNat : Int), .int .i64 t, .string s] 25)
  have hk' : (k == 0) = false := by simp; exact hk
  have hk2 : (k != 0) = true := by simp; exact hk
  simp only [frameV, B8] at E ⊢
  go_enter Try.func7, Try.ntmps7
  go_wp2_with fail
  go_at_call 10
  refine (E _).mono ?_
  rintro e1 w1 ⟨rfl, x1, B1⟩
  rw [World.size_alloc] at B1
  have X1 := Ext.trans x0 x1
  have H1 := hid (heap_ext x1 H0.out)
  clear E H0
  go_wp2_with fail
  go_at_call 15
  have ht3 : t = (UInt8.ofNat (t / 256)).toNat * 256 + (UInt8.ofNat t).toNat := by rw [UInt8.toNat_ofNat', UInt8.toNat_ofNat']; omega
  have D1 := decode_long a b c d e f a' b' c' d' e' f' _ _ _ _ _ _ _ _ B1 (by omega) t ht3 _ (by rw [if_pos h1])
  have hs : (⟨s.data.toList.toArray⟩ : ByteArray) = s := by cases s; simp
  rw [hs] at D1
  simp only [frameV, B8] at D1
  refine D1.mono ?_
  rintro e1 w2 ⟨rfl, x2⟩
  have X2 := (X1.trans x2).alloc (.cells #[.int .u8 (a.toNat : Int), .int .u8 (b.toNat : Int), .int .u8 (c.toNat : Int), .int .u8 (d.toNat : Int), .int .u8 (e.toNat : Int), .int .u8 (f.toNat : Int), .int .u8 (a'.toNat : Int), .int .u8 (b'.toNat : Int), .int .u8 (c'.toNat : Int), .int .u8 (d'.toNat : Int), .int .u8 (e'.toNat : Int), .int .u8 (f'.toNat : Int), .int .i64 t, .string s] 30)
  have H2 := heap_ext (x2.alloc (.cells #[.int .u8 (a.toNat : Int), .int .u8 (b.toNat : Int), .int .u8 (c.toNat : Int), .int .u8 (d.toNat : Int), .int .u8 (e.toNat : Int), .int .u8 (f.toNat : Int), .int .u8 (a'.toNat : Int), .int .u8 (b'.toNat : Int), .int .u8 (c'.toNat : Int), .int .u8 (d'.toNat : Int), .int .u8 (e'.toNat : Int), .int .u8 (f'.toNat : Int), .int .i64 t, .string s] 30)) H1.out
  obtain ⟨m0, m1, m2, m3, m4, m5, m6, m7, m8, m9, m10, m11, m12, m13⟩ := cells14 H2
  clear D1 B1 ht3 hs H2 H1
  go_wp2_with fail
  clear m0 m1 m2 m3 m4 m5 m6 m7 m8 m9 m10 m11 m12 m13
  go_at_call 15
  refine (D _ X2).mono ?_
  rintro e1 w3 ⟨rfl, x3⟩
  have X3 := (X2.trans x3).alloc (.cells #[.int .u8 0, .int .u8 0, .int .u8 0, .int .u8 0, .int .u8 0, .int .u8 0, .int .u8 0, .int .u8 0, .int .u8 0, .int .u8 0, .int .u8 0, .int .u8 0, .int .i64 0, .string ⟨#[]⟩] 30)
  have H3 := hid (heap_new w3 (.cells #[.int .u8 0, .int .u8 0, .int .u8 0, .int .u8 0, .int .u8 0, .int .u8 0, .int .u8 0, .int .u8 0, .int .u8 0, .int .u8 0, .int .u8 0, .int .u8 0, .int .i64 0, .string ⟨#[]⟩] 30))
  clear D
  go_wp2_with (go_at_call 12; refine (alive_c _).mono ?_; rintro e w5 ⟨rfl, x5⟩; obtain ⟨n0, n1, n2, n3, n4, n5, n6, n7, n8, n9, n10, n11, n12, n13⟩ := cells14 (heap_ext x5 H3.out))
  go_ret
  exact ⟨rfl, X3.trans x5⟩

set_option maxHeartbeats 2000000 in
theorem etherBack.yesOk (a b c d e f a' b' c' d' e' f' : UInt8) (t : Nat) (s : ByteArray) (p off n q : Nat) (g0 g1 g2 g3 g4 g5 g6 g7 g8 g9 g10 g11 y1 y2 : UInt8) (r : List UInt8) (t' : Nat) (h1 : 1536 ≤ t) (h2 : t ≤ 65535) (h3 : s.size ≤ 1500) (w : World) (hB : Bytes w (some ⟨p, off, none⟩) n q ([g0, g1, g2, g3, g4, g5, g6, g7, g8, g9, g10, g11, y1, y2] ++ r)) (hn : n ≤ 1514) (ht : t' = y1.toNat * 256 + y2.toNat) (ht' : 1536 ≤ t') :
    Calls Try.prog 7 #[frameV a b c d e f a' b' c' d' e' f' t s, .slice (some ⟨p, off, none⟩) n q] w fun x w' => x = .returned (.bool true) ∧ Below w.heap.size w w' := by
  have E := fun w' => encode_yes a b c d e f a' b' c' d' e' f' t s w' h1 h2 h3
  have H0 := hid (heap_new w (.cells #[.int .u8 (a.toNat : Int), .int .u8 (b.toNat : Int), .int .u8 (c.toNat : Int), .int .u8 (d.toNat : Int), .int .u8 (e.toNat : Int), .int .u8 (f.toNat : Int), .int .u8 (a'.toNat : Int), .int .u8 (b'.toNat : Int), .int .u8 (c'.toNat : Int), .int .u8 (d'.toNat : Int), .int .u8 (e'.toNat : Int), .int .u8 (f'.toNat : Int), .int .i64 t, .string s] 25))
  have x0 := below_alloc w (.cells #[.int .u8 (a.toNat : Int), .int .u8 (b.toNat : Int), .int .u8 (c.toNat : Int), .int .u8 (d.toNat : Int), .int .u8 (e.toNat : Int), .int .u8 (f.toNat : Int), .int .u8 (a'.toNat : Int), .int .u8 (b'.toNat : Int), .int .u8 (c'.toNat : Int), .int .u8 (d'.toNat : Int), .int .u8 (e'.toNat : Int), .int .u8 (f'.toNat : Int), .int .i64 t, .string s] 25)
  have hl := hB.len
  have hr : r.length ≤ 1500 := by simp at hl; omega
  have hnl : n = 14 + (⟨r.toArray⟩ : ByteArray).size := by rw [hl]; simp [ByteArray.size]; omega
  have D := fun w' (x : Ext w w') => decode_long g0 g1 g2 g3 g4 g5 g6 g7 g8 g9 g10 g11 y1 y2 r p off n q w' (hB.ext x) hn t' ht _ (by rw [if_pos ht'])
  have E2 := fun w' => encode_at (v := frameV g0 g1 g2 g3 g4 g5 g6 g7 g8 g9 g10 g11 t' ⟨r.toArray⟩) w' g0 g1 g2 g3 g4 g5 g6 g7 g8 g9 g10 g11 t' ⟨r.toArray⟩ rfl ht' (by have := y1.toNat_lt; have := y2.toNat_lt; omega) (by simpa [ByteArray.size] using hr) n hnl
  have hy1 : UInt8.ofNat (t' / 256) = y1 := by
    apply UInt8.toNat_inj.1; rw [UInt8.toNat_ofNat']; have := y1.toNat_lt; have := y2.toNat_lt; omega
  have hy2 : UInt8.ofNat t' = y2 := by
    apply UInt8.toNat_inj.1; rw [UInt8.toNat_ofNat']; have := y1.toNat_lt; have := y2.toNat_lt; omega
  rw [hy1, hy2] at E2
  have HB := hid hB
  clear hy1 hy2 hl hnl hr hB ht
  simp only [frameV, B8] at D E E2 ⊢
  go_enter Try.func7, Try.ntmps7
  go_wp2_with fail
  go_at_call 10
  refine (E _).mono ?_
  rintro e1 w1 ⟨rfl, x1, B1⟩
  rw [World.size_alloc] at B1
  have X1 := Ext.trans x0 x1
  have H1 := hid (heap_ext x1 H0.out)
  clear E H0
  go_wp2_with fail
  go_at_call 15
  have ht3 : t = (UInt8.ofNat (t / 256)).toNat * 256 + (UInt8.ofNat t).toNat := by rw [UInt8.toNat_ofNat', UInt8.toNat_ofNat']; omega
  have D1 := decode_long a b c d e f a' b' c' d' e' f' _ _ _ _ _ _ _ _ B1 (by omega) t ht3 _ (by rw [if_pos h1])
  have hs : (⟨s.data.toList.toArray⟩ : ByteArray) = s := by cases s; simp
  rw [hs] at D1
  simp only [frameV, B8] at D1
  refine D1.mono ?_
  rintro e1 w2 ⟨rfl, x2⟩
  have X2 := (X1.trans x2).alloc (.cells #[.int .u8 (a.toNat : Int), .int .u8 (b.toNat : Int), .int .u8 (c.toNat : Int), .int .u8 (d.toNat : Int), .int .u8 (e.toNat : Int), .int .u8 (f.toNat : Int), .int .u8 (a'.toNat : Int), .int .u8 (b'.toNat : Int), .int .u8 (c'.toNat : Int), .int .u8 (d'.toNat : Int), .int .u8 (e'.toNat : Int), .int .u8 (f'.toNat : Int), .int .i64 t, .string s] 30)
  have H2 := heap_ext (x2.alloc (.cells #[.int .u8 (a.toNat : Int), .int .u8 (b.toNat : Int), .int .u8 (c.toNat : Int), .int .u8 (d.toNat : Int), .int .u8 (e.toNat : Int), .int .u8 (f.toNat : Int), .int .u8 (a'.toNat : Int), .int .u8 (b'.toNat : Int), .int .u8 (c'.toNat : Int), .int .u8 (d'.toNat : Int), .int .u8 (e'.toNat : Int), .int .u8 (f'.toNat : Int), .int .i64 t, .string s] 30)) H1.out
  obtain ⟨m0, m1, m2, m3, m4, m5, m6, m7, m8, m9, m10, m11, m12, m13⟩ := cells14 H2
  clear D1 B1 ht3 hs H2 H1
  go_wp2_with fail
  clear m0 m1 m2 m3 m4 m5 m6 m7 m8 m9 m10 m11 m12 m13
  go_at_call 15
  refine (D _ X2).mono ?_
  rintro e1 w3 ⟨rfl, x3⟩
  have X3 := (X2.trans x3).alloc (.cells #[.int .u8 (g0.toNat : Int), .int .u8 (g1.toNat : Int), .int .u8 (g2.toNat : Int), .int .u8 (g3.toNat : Int), .int .u8 (g4.toNat : Int), .int .u8 (g5.toNat : Int), .int .u8 (g6.toNat : Int), .int .u8 (g7.toNat : Int), .int .u8 (g8.toNat : Int), .int .u8 (g9.toNat : Int), .int .u8 (g10.toNat : Int), .int .u8 (g11.toNat : Int), .int .i64 t', .string ⟨r.toArray⟩] 30)
  clear D
  go_wp2_with fail
  go_at_call 10
  refine (E2 _).mono ?_
  rintro e1 w4 ⟨rfl, x4, B4⟩
  rw [World.size_alloc] at B4
  have C4 := HB.out.ext (X3.trans x4)
  generalize ([g0, g1, g2, g3, g4, g5, g6, g7, g8, g9, g10, g11, y1, y2] ++ r) = LL at *
  clear E2
  go_wp2_with (go_at_call 12; refine (alive_c _).mono ?_; rintro e w5 ⟨rfl, x5⟩; have s1 := conv_string (P := Try.prog) Try.underlying26 Try.underlying5 Try.underlying9 (B4.below x5); have s2 := conv_string (P := Try.prog) Try.underlying26 Try.underlying5 Try.underlying9 (C4.below x5))
  go_ret
  exact ⟨rfl, (X3.trans x4).trans x5⟩


theorem etherBack.walk {H : Type} {enc : TypeId × Value → H} (W : World) (args : Array Value) (hn : args.size = 2)
    (h : ∀ (j : Nat) t v, Try.f7.params[j]? = some t → args[j]? = some v → RdV enc false Try.prog W t v) :
    Calls Try.prog 7 args W fun e w' => e = .returned (.bool true) ∧ Below W.heap.size W w' := by
  obtain ⟨v0, v1, rfl⟩ := args2 hn
  obtain ⟨a, b, c, d, e, f, a', b', c', d', e', f', t, s, rfl, ht, hs⟩ := rd_frame (h 0 25 v0 rfl rfl)
  obtain ⟨p, n, q, l, rfl, hB, hc⟩ := (h 1 26 v1 rfl rfl).bytes Try.underlying26 Try.underlying5 (by kernel_rfl) (by kernel_rfl)
  have hl := hB.len
  have key : (∃ k : Int, k ≠ 0 ∧ ∀ w', Ext W w' → Calls Try.prog 15 #[.slice p n q] w' fun x w'' => x = .returned (.tuple #[frame0, .int .i64 k]) ∧ Ext w' w'') ∨
      (∃ (b0 off : Nat) (g0 g1 g2 g3 g4 g5 g6 g7 g8 g9 g10 g11 y1 y2 : UInt8) (r : List UInt8), p = some ⟨b0, off, none⟩ ∧ l = [g0, g1, g2, g3, g4, g5, g6, g7, g8, g9, g10, g11, y1, y2] ++ r ∧ n ≤ 1514 ∧ 1536 ≤ y1.toNat * 256 + y2.toNat) := by
    by_cases hno : n < 14 ∨ 1514 < n
    · exact .inl ⟨20, by decide, fun w' _ => decode_short p n q w' hno⟩
    · obtain ⟨g0, g1, g2, g3, g4, g5, g6, g7, g8, g9, g10, g11, y1, y2, r, rfl⟩ := list14up (l := l) (by omega)
      obtain ⟨b0, off, rfl, _⟩ := hB.at (by omega)
      by_cases ht : 1536 ≤ y1.toNat * 256 + y2.toNat
      · exact .inr ⟨b0, off, g0, g1, g2, g3, g4, g5, g6, g7, g8, g9, g10, g11, y1, y2, r, rfl, rfl, by omega, ht⟩
      · exact .inl ⟨1, by decide, fun w' x => decode_long g0 g1 g2 g3 g4 g5 g6 g7 g8 g9 g10 g11 y1 y2 r b0 off n q w' (hB.ext x) (by omega) _ rfl _ (by rw [if_neg ht])⟩
  by_cases hno : t < 1536 ∨ 65535 < t ∨ 1500 < s.size
  · rcases key with ⟨k, hk, D⟩ | ⟨b0, off, g0, g1, g2, g3, g4, g5, g6, g7, g8, g9, g10, g11, y1, y2, r, rfl, rfl, hn', ht'⟩
    · exact etherBack.noNo a b c d e f a' b' c' d' e' f' t s p n q k hno hk W D
    · exact etherBack.noOk a b c d e f a' b' c' d' e' f' t s b0 off n q g0 g1 g2 g3 g4 g5 g6 g7 g8 g9 g10 g11 y1 y2 r _ hno W hB hn' rfl ht'
  · obtain ⟨t, rfl⟩ := Int.eq_ofNat_of_zero_le (show 0 ≤ t by omega)
    rcases key with ⟨k, hk, D⟩ | ⟨b0, off, g0, g1, g2, g3, g4, g5, g6, g7, g8, g9, g10, g11, y1, y2, r, rfl, rfl, hn', ht'⟩
    · exact etherBack.yesNo a b c d e f a' b' c' d' e' f' t s p n q k (by omega) (by omega) (by omega) hk W D
    · exact etherBack.yesOk a b c d e f a' b' c' d' e' f' t s b0 off n q g0 g1 g2 g3 g4 g5 g6 g7 g8 g9 g10 g11 y1 y2 r _ (by omega) (by omega) (by omega) W hB hn' rfl ht'

namespace etherBack
theorem spec {H : Type} (ds : List (DataW H)) (h : ds.length = Try.f7.params.size) : Rows.etherBackSpec.fn H ds = { results := [.lit (.bool true)], args := ds } := by
  have h' : ds.length = 2 := h
  match ds, h' with
  | [_, _], _ => rfl

set_option maxRecDepth 100000 in
theorem lifted (os : Os) (started : os.Started) (H : Type) (enc : TypeId × Value → H) :
    ReturnsInHanded {} Try.checked os 7 .any (Rows.etherBackSpec.pre6 enc Try.prog Try.f7 Rows.etherBackRow.domain false) (Rows.etherBackSpec.post enc Try.prog Try.f7 false true false false) :=
  lifted_said (C := Try.checked) (tb := 4) own started (by kernel_rfl) Try.func7
    (ChangeSpec.witness6 (enc := enc) (C := Try.checked) false ⟨#[], #[.agg #[.int .u8 0, .int .u8 0, .int .u8 0, .int .u8 0, .int .u8 0, .int .u8 0, .int .u8 0, .int .u8 0, .int .u8 0, .int .u8 0, .int .u8 0, .int .u8 0, .int .i64 0, .string .empty], .slice none 0 0], []⟩ 8 (by kernel_rfl) (by kernel_rfl) (by kernel_rfl) (by kernel_rfl))
    rfl spec rfl Try.underlying4 laidOut (by kernel_rfl) walk

theorem over : Rows.etherBackRow.holds Try.pinned (OpenSpec.ofChange Rows.etherBackSpec) :=
  OpenClaim.holds_of_wide 7 Try.f7 rfl rfl rfl rfl rfl rfl rfl ⟨rfl, rfl, rfl, rfl, rfl⟩ rfl rfl rfl rfl rfl (by kernel_rfl) Try.func7 (by kernel_rfl)
    (of_decide_eq_true (by kernel_rfl)) (by unfold Func.isWrapper; first | (rw [if_pos (by decide +kernel)]; kernel_rfl) | (rw [if_neg (by decide +kernel)]; exact ⟨rfl, rfl⟩))
    (fun os started H enc _ => lifted os started H enc)

theorem proved : Rows.EtherBackSaid := over
#print axioms proved
end etherBack

end Go.Proofs.Ytlmidhmpolopdaa
