/- EtherReads: any bytes are read as the document says, or refused. No condition. -/
import Derived.Test.YtlmidhmpolopdaaL02a
import Derived.Test.YtlmidhmpolopdaaEtE
import Derived.Test.YtlmidhmpolopdaaRdF
namespace Go.Proofs.Ytlmidhmpolopdaa
open Go.RowKit

theorem decode_short (a : Option Addr) (n c : Nat) (w : World) (h : n < 14 ∨ 1514 < n) :
    Calls Try.prog 15 #[.slice a n c] w fun x w' => x = .returned (.tuple #[frame0, .int .i64 20]) ∧ Ext w w' := by
  by_cases h1 : n < 14
  · have q1 : ((n : Int) < 14) = True := by simp; omega
    clear h h1
    go_enter Try.func15, Try.ntmps15
    go_wp2
    exact bodyPost_ret (by rw [results_cell_tmp rfl]; go_simp) rfl ⟨rfl, (Ext.refl w).alloc _⟩
  · have q1 : ((n : Int) < 14) = False := by simp; omega
    have q2 : ((1514 : Int) < (n : Int)) = True := by simp; omega
    clear h h1
    go_enter Try.func15, Try.ntmps15
    go_wp2
    exact bodyPost_ret (by rw [results_cell_tmp rfl]; go_simp) rfl ⟨rfl, (Ext.refl w).alloc _⟩
theorem refDecode_short (a : Option Addr) (n c : Nat) (w : World) (h : n < 14 ∨ 1514 < n) :
    Calls Try.prog 16 #[.slice a n c] w fun x w' => x = .returned (.tuple #[frame0, .int .i64 20]) ∧ Ext w w' := by
  by_cases h1 : n < 14
  · have q1 : ((n : Int) < 14) = True := by simp; omega
    clear h h1
    go_enter Try.func16, Try.ntmps16
    go_wp2
    exact bodyPost_ret (by rw [results_cell_tmp rfl]; go_simp) rfl ⟨rfl, (Ext.refl w).alloc _⟩
  · have q1 : ((n : Int) < 14) = False := by simp; omega
    have q2 : ((1514 : Int) < (n : Int)) = True := by simp; omega
    clear h h1
    go_enter Try.func16, Try.ntmps16
    go_wp2
    exact bodyPost_ret (by rw [results_cell_tmp rfl]; go_simp) rfl ⟨rfl, (Ext.refl w).alloc _⟩

set_option maxHeartbeats 1000000 in
theorem etherReads.core (p : Option Addr) (n q : Nat) (a b c d e f a' b' c' d' e' f' : UInt8) (t : Int) (s : ByteArray) (k : Int) (w : World)
    (D : ∀ w', Ext w w' → Calls Try.prog 15 #[.slice p n q] w' fun x w'' => x = .returned (.tuple #[frameV a b c d e f a' b' c' d' e' f' t s, .int .i64 k]) ∧ Ext w' w'')
    (R : ∀ w', Ext w w' → Calls Try.prog 16 #[.slice p n q] w' fun x w'' => x = .returned (.tuple #[frameV a b c d e f a' b' c' d' e' f' t s, .int .i64 k]) ∧ Ext w' w'') :
    Calls Try.prog 6 #[.slice p n q] w fun e w' => e = .returned (.bool true) ∧ Below w.heap.size w w' := by
  simp only [frameV, B8] at D R
  have D0 := D w (Ext.refl w)
  go_enter Try.func6, Try.ntmps6
  go_wp2_with fail
  go_at_call 15
  refine D0.mono ?_
  rintro e1 w1 ⟨rfl, x1⟩
  have h1 := heap_new w1 (.cells #[.int .u8 (a.toNat : Int), .int .u8 (b.toNat : Int), .int .u8 (c.toNat : Int), .int .u8 (d.toNat : Int), .int .u8 (e.toNat : Int), .int .u8 (f.toNat : Int), .int .u8 (a'.toNat : Int), .int .u8 (b'.toNat : Int), .int .u8 (c'.toNat : Int), .int .u8 (d'.toNat : Int), .int .u8 (e'.toNat : Int), .int .u8 (f'.toNat : Int), .int .i64 t, .string s] 30)
  have X1 := x1.alloc (.cells #[.int .u8 (a.toNat : Int), .int .u8 (b.toNat : Int), .int .u8 (c.toNat : Int), .int .u8 (d.toNat : Int), .int .u8 (e.toNat : Int), .int .u8 (f.toNat : Int), .int .u8 (a'.toNat : Int), .int .u8 (b'.toNat : Int), .int .u8 (c'.toNat : Int), .int .u8 (d'.toNat : Int), .int .u8 (e'.toNat : Int), .int .u8 (f'.toNat : Int), .int .i64 t, .string s] 30)
  have R1 := R _ X1
  have H1 := hid h1
  clear D0 D h1 R
  go_wp2_with fail
  go_at_call 16
  refine R1.mono ?_
  rintro e1 w2 ⟨rfl, x2⟩
  have h2 := heap_new w2 (.cells #[.int .u8 (a.toNat : Int), .int .u8 (b.toNat : Int), .int .u8 (c.toNat : Int), .int .u8 (d.toNat : Int), .int .u8 (e.toNat : Int), .int .u8 (f.toNat : Int), .int .u8 (a'.toNat : Int), .int .u8 (b'.toNat : Int), .int .u8 (c'.toNat : Int), .int .u8 (d'.toNat : Int), .int .u8 (e'.toNat : Int), .int .u8 (f'.toNat : Int), .int .i64 t, .string s] 25)
  have X2 := (Ext.trans X1 x2).alloc (.cells #[.int .u8 (a.toNat : Int), .int .u8 (b.toNat : Int), .int .u8 (c.toNat : Int), .int .u8 (d.toNat : Int), .int .u8 (e.toNat : Int), .int .u8 (f.toNat : Int), .int .u8 (a'.toNat : Int), .int .u8 (b'.toNat : Int), .int .u8 (c'.toNat : Int), .int .u8 (d'.toNat : Int), .int .u8 (e'.toNat : Int), .int .u8 (f'.toNat : Int), .int .i64 t, .string s] 25)
  have h3 := heap_ext (below_alloc w2 (.cells #[.int .u8 (a.toNat : Int), .int .u8 (b.toNat : Int), .int .u8 (c.toNat : Int), .int .u8 (d.toNat : Int), .int .u8 (e.toNat : Int), .int .u8 (f.toNat : Int), .int .u8 (a'.toNat : Int), .int .u8 (b'.toNat : Int), .int .u8 (c'.toNat : Int), .int .u8 (d'.toNat : Int), .int .u8 (e'.toNat : Int), .int .u8 (f'.toNat : Int), .int .i64 t, .string s] 25)) (heap_ext x2 H1.out)
  have H2 := hid h2
  have H3 := hid h3
  clear h2 h3 R1
  go_wp2_with (go_at_call 12; refine (alive_c _).mono ?_; rintro e w4 ⟨rfl, x4⟩; obtain ⟨m0, m1, m2, m3, m4, m5, m6, m7, m8, m9, m10, m11, m12, m13⟩ := cells14 (heap_ext x4 H2.out); obtain ⟨n0, n1, n2, n3, n4, n5, n6, n7, n8, n9, n10, n11, n12, n13⟩ := cells14 (heap_ext x4 H3.out))
  go_ret
  exact ⟨rfl, X2.trans x4⟩

theorem list14up {l : List UInt8} (h : 14 ≤ l.length) : ∃ a b c d e f g i j k m n o p r, l = [a, b, c, d, e, f, g, i, j, k, m, n, o, p] ++ r := by
  match l, h with
  | a :: b :: c :: d :: e :: f :: g :: i :: j :: k :: m :: n :: o :: p :: r, _ => exact ⟨a, b, c, d, e, f, g, i, j, k, m, n, o, p, r, rfl⟩

theorem etherReads.walk {H : Type} {enc : TypeId × Value → H} (W : World) (args : Array Value) (hn : args.size = 1)
    (h : ∀ (j : Nat) t v, Try.f6.params[j]? = some t → args[j]? = some v → RdV enc false Try.prog W t v) :
    Calls Try.prog 6 args W fun e w' => e = .returned (.bool true) ∧ Below W.heap.size W w' := by
  obtain ⟨v0, rfl⟩ := args1 hn
  obtain ⟨p, n, q, l, rfl, hB, hc⟩ := (h 0 26 v0 rfl rfl).bytes Try.underlying26 Try.underlying5 (by kernel_rfl) (by kernel_rfl)
  by_cases hno : n < 14 ∨ 1514 < n
  · exact etherReads.core p n q 0 0 0 0 0 0 0 0 0 0 0 0 0 ⟨#[]⟩ 20 W (fun w' _ => decode_short p n q w' hno) (fun w' _ => refDecode_short p n q w' hno)
  · have hl := hB.len
    obtain ⟨a, b, c, d, e, f, a', b', c', d', e', f', y1, y2, r, rfl⟩ := list14up (l := l) (by omega)
    obtain ⟨b0, off, rfl, _⟩ := hB.at (by omega)
    by_cases ht : 1536 ≤ y1.toNat * 256 + y2.toNat
    · exact etherReads.core _ n q a b c d e f a' b' c' d' e' f' _ ⟨r.toArray⟩ 0 W
        (fun w' x => decode_long a b c d e f a' b' c' d' e' f' y1 y2 r b0 off n q w' (hB.ext x) (by omega) _ rfl _ (by rw [if_pos ht]))
        (fun w' x => refDecode_long a b c d e f a' b' c' d' e' f' y1 y2 r b0 off n q w' (hB.ext x) (by omega) _ rfl _ (by rw [if_pos ht]))
    · exact etherReads.core _ n q 0 0 0 0 0 0 0 0 0 0 0 0 0 ⟨#[]⟩ 1 W
        (fun w' x => decode_long a b c d e f a' b' c' d' e' f' y1 y2 r b0 off n q w' (hB.ext x) (by omega) _ rfl _ (by rw [if_neg ht]; rfl))
        (fun w' x => refDecode_long a b c d e f a' b' c' d' e' f' y1 y2 r b0 off n q w' (hB.ext x) (by omega) _ rfl _ (by rw [if_neg ht]; rfl))

namespace etherReads
theorem spec {H : Type} (ds : List (DataW H)) (h : ds.length = Try.f6.params.size) : Rows.etherReadsSpec.fn H ds = { results := [.lit (.bool true)], args := ds } := by
  have h' : ds.length = 1 := h
  match ds, h' with
  | [_], _ => rfl

set_option maxRecDepth 100000 in
theorem lifted (os : Os) (started : os.Started) (H : Type) (enc : TypeId × Value → H) :
    ReturnsInHanded {} Try.checked os 6 .any (Rows.etherReadsSpec.pre6 enc Try.prog Try.f6 Rows.etherReadsRow.domain false) (Rows.etherReadsSpec.post enc Try.prog Try.f6 false true false false) :=
  lifted_said (C := Try.checked) (tb := 4) own started (by kernel_rfl) Try.func6
    (ChangeSpec.witness6 (enc := enc) (C := Try.checked) false ⟨#[], #[.slice none 0 0], []⟩ 8 (by kernel_rfl) (by kernel_rfl) (by kernel_rfl) (by kernel_rfl))
    rfl spec rfl Try.underlying4 laidOut (by kernel_rfl) walk

theorem over : Rows.etherReadsRow.holds Try.pinned (OpenSpec.ofChange Rows.etherReadsSpec) :=
  OpenClaim.holds_of_wide 6 Try.f6 rfl rfl rfl rfl rfl rfl rfl ⟨rfl, rfl, rfl, rfl, rfl⟩ rfl rfl rfl rfl rfl (by kernel_rfl) Try.func6 (by kernel_rfl)
    (of_decide_eq_true (by kernel_rfl)) (by unfold Func.isWrapper; first | (rw [if_pos (by decide +kernel)]; kernel_rfl) | (rw [if_neg (by decide +kernel)]; exact ⟨rfl, rfl⟩))
    (fun os started H enc _ => lifted os started H enc)

theorem proved : Rows.EtherReadsSaid := over
#print axioms proved
end etherReads

end Go.Proofs.Ytlmidhmpolopdaa
