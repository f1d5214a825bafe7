/- EtherShares: of a group's address of four bytes the highest bit of the second one is not seen in the card's. No condition. -/
import Derived.Test.YtlmidhmpolopdaaL02a
import Derived.Test.YtlmidhmpolopdaaEtM
import Derived.Test.YtlmidhmpolopdaaRdF
import Derived.Test.YtlmidhmpolopdaaConv
namespace Go.Proofs.Ytlmidhmpolopdaa
open Go.RowKit

theorem xor_128 (x : UInt8) : ∃ y : UInt8, bits BinOp.xor IntKind.u8 (x.toNat : Int) 128 = (y.toNat : Int) ∧ (y.toNat : Int) % 128 = (x.toNat : Int) % 128 := by
  have h : ∀ k : Fin 256, bits BinOp.xor IntKind.u8 ((k.val : Nat) : Int) 128 = (((k.val + 128) % 256 : Nat) : Int) := by decide +kernel
  refine ⟨UInt8.ofNat ((x.toNat + 128) % 256), ?_, ?_⟩
  · rw [UInt8.toNat_ofNat', h ⟨x.toNat, x.toNat_lt⟩]; simp
  · rw [UInt8.toNat_ofNat']; omega

set_option maxHeartbeats 1000000 in
theorem etherShares.core (a b c d : UInt8) (w : World) :
    Calls Try.prog 5 #[.agg #[.int .u8 (a.toNat : Int), .int .u8 (b.toNat : Int), .int .u8 (c.toNat : Int), .int .u8 (d.toNat : Int)]] w fun x w' => x = .returned (.bool true) ∧ Below w.heap.size w w' := by
  obtain ⟨y1, u1, u2⟩ := xor_128 b
  obtain ⟨y0, u0, g1, g2⟩ : ∃ y : UInt8, (224 + (a.toNat : Int) % 16) = (y.toNat : Int) ∧ 224 ≤ y.toNat ∧ y.toNat ≤ 239 := by
    refine ⟨UInt8.ofNat (224 + a.toNat % 16), ?_, ?_, ?_⟩ <;> rw [UInt8.toNat_ofNat'] <;> omega
  have B0 : Bytes (w.alloc (.cells #[.int .u8 (y0.toNat : Int), .int .u8 (b.toNat : Int), .int .u8 (c.toNat : Int), .int .u8 (d.toNat : Int)] 37)) (some ⟨w.heap.size, 0, none⟩) 4 4 [y0, b, c, d] := Bytes.new _ _ _ _ _ _ rfl rfl rfl (by decide)
  have B1 := B0.ext (below_alloc _ (.cells #[.int .u8 (y0.toNat : Int), .int .u8 (y1.toNat : Int), .int .u8 (c.toNat : Int), .int .u8 (d.toNat : Int)] 37))
  have B2 : Bytes ((w.alloc (.cells #[.int .u8 (y0.toNat : Int), .int .u8 (b.toNat : Int), .int .u8 (c.toNat : Int), .int .u8 (d.toNat : Int)] 37)).alloc (.cells #[.int .u8 (y0.toNat : Int), .int .u8 (y1.toNat : Int), .int .u8 (c.toNat : Int), .int .u8 (d.toNat : Int)] 37)) (some ⟨(w.alloc (.cells #[.int .u8 (y0.toNat : Int), .int .u8 (b.toNat : Int), .int .u8 (c.toNat : Int), .int .u8 (d.toNat : Int)] 37)).heap.size, 0, none⟩) 4 4 [y0, y1, c, d] := Bytes.new _ _ _ _ _ _ rfl rfl rfl (by decide)
  rw [World.size_alloc] at B2
  have s1 : (convert 26 39 (.slice (some ⟨w.heap.size, 0, none⟩) 4 4)).run Try.prog ((w.alloc (.cells #[.int .u8 (y0.toNat : Int), .int .u8 (b.toNat : Int), .int .u8 (c.toNat : Int), .int .u8 (d.toNat : Int)] 37)).alloc (.cells #[.int .u8 (y0.toNat : Int), .int .u8 (y1.toNat : Int), .int .u8 (c.toNat : Int), .int .u8 (d.toNat : Int)] 37)) = .ok (.string ⟨#[y0, b, c, d]⟩) ((w.alloc (.cells #[.int .u8 (y0.toNat : Int), .int .u8 (b.toNat : Int), .int .u8 (c.toNat : Int), .int .u8 (d.toNat : Int)] 37)).alloc (.cells #[.int .u8 (y0.toNat : Int), .int .u8 (y1.toNat : Int), .int .u8 (c.toNat : Int), .int .u8 (d.toNat : Int)] 37)) := conv_string (P := Try.prog) (src := 26) (dst := 39) Try.underlying26 Try.underlying5 Try.underlying39 B1
  have X0 := ((Ext.refl w).alloc (.cells #[.int .u8 (y0.toNat : Int), .int .u8 (b.toNat : Int), .int .u8 (c.toNat : Int), .int .u8 (d.toNat : Int)] 37)).alloc (.cells #[.int .u8 (y0.toNat : Int), .int .u8 (y1.toNat : Int), .int .u8 (c.toNat : Int), .int .u8 (d.toNat : Int)] 37)
  have Y1 := hid B1
  have Y2 := hid B2
  clear B0 B1 B2
  go_enter Try.func5, Try.ntmps5
  go_wp2_with fail
  go_at_call 14
  refine (many_four y0 b c d _ g1 g2).mono ?_
  rintro e1 w1 ⟨rfl, x1⟩
  have z1 := x1.alloc (.cells #[.int .u8 1, .int .u8 0, .int .u8 94, .int .u8 ((b.toNat : Int) % 128), .int .u8 (c.toNat : Int), .int .u8 (d.toNat : Int)] 23)
  have s2 : (convert 26 39 (.slice (some ⟨w.heap.size + 1, 0, none⟩) 4 4)).run Try.prog (w1.alloc (.cells #[.int .u8 1, .int .u8 0, .int .u8 94, .int .u8 ((b.toNat : Int) % 128), .int .u8 (c.toNat : Int), .int .u8 (d.toNat : Int)] 23)) = .ok (.string ⟨#[y0, y1, c, d]⟩) (w1.alloc (.cells #[.int .u8 1, .int .u8 0, .int .u8 94, .int .u8 ((b.toNat : Int) % 128), .int .u8 (c.toNat : Int), .int .u8 (d.toNat : Int)] 23)) := conv_string (P := Try.prog) (src := 26) (dst := 39) Try.underlying26 Try.underlying5 Try.underlying39 (Y2.out.ext z1)
  have h1 := hid (heap_new w1 (.cells #[.int .u8 1, .int .u8 0, .int .u8 94, .int .u8 ((b.toNat : Int) % 128), .int .u8 (c.toNat : Int), .int .u8 (d.toNat : Int)] 23))
  clear s1
  go_wp2_with fail
  go_at_call 14
  have D := many_four y0 y1 c d (w1.alloc (.cells #[.int .u8 1, .int .u8 0, .int .u8 94, .int .u8 ((b.toNat : Int) % 128), .int .u8 (c.toNat : Int), .int .u8 (d.toNat : Int)] 23)) g1 g2
  rw [u2] at D
  refine D.mono ?_
  rintro e1 w2 ⟨rfl, x2⟩
  have z2 := x2.alloc (.cells #[.int .u8 1, .int .u8 0, .int .u8 94, .int .u8 ((b.toNat : Int) % 128), .int .u8 (c.toNat : Int), .int .u8 (d.toNat : Int)] 23)
  have h2 := hid (heap_ext z2 h1.out)
  have h3 := hid (heap_new w2 (.cells #[.int .u8 1, .int .u8 0, .int .u8 94, .int .u8 ((b.toNat : Int) % 128), .int .u8 (c.toNat : Int), .int .u8 (d.toNat : Int)] 23))
  have X2 := (X0.trans z1).trans z2
  have b3 := hid ((Y1.out.ext z1).ext z2)
  clear D s2
  go_wp2_with (go_at_call 12; refine (alive_c _).mono ?_; rintro e w4 ⟨rfl, x4⟩; obtain ⟨m0, m1, m2, m3, m4, m5⟩ := cells6 (heap_ext x4 h2.out); obtain ⟨n0, n1, n2, n3, n4, n5⟩ := cells6 (heap_ext x4 h3.out); have q3 : w4.cell? ⟨w.heap.size, 3, none⟩ = some (.int .u8 (d.toNat : Int)) := (b3.out.below x4).cell 3 (by decide) rfl)
  go_ret
  exact ⟨rfl, X2.trans x4⟩

theorem list4 {α : Type} {cs : List α} (h : cs.length = 4) : ∃ a b c d, cs = [a, b, c, d] := by
  match cs, h with
  | [a, b, c, d], _ => exact ⟨a, b, c, d, rfl⟩

theorem etherShares.walk {H : Type} {enc : TypeId × Value → H} (W : World) (args : Array Value) (hn : args.size = 1)
    (h : ∀ (j : Nat) t v, Try.f5.params[j]? = some t → args[j]? = some v → RdV enc false Try.prog W t v) :
    Calls Try.prog 5 args W fun e w' => e = .returned (.bool true) ∧ Below W.heap.size W w' := by
  obtain ⟨v0, rfl⟩ := args1 hn
  have h1 : Try.prog.cellsOf 5 = 1 := by kernel_rfl
  obtain ⟨cs, rfl, hc⟩ := (h 0 37 v0 rfl rfl).agg (.inr ⟨_, _, Try.underlying37⟩)
  obtain ⟨hl, hi⟩ := hc.array Try.underlying37
  rw [show Try.prog.cellsOf 37 = 4 by kernel_rfl] at hl
  rw [h1] at hi
  obtain ⟨v0, v1, v2, v3, rfl⟩ := list4 hl
  obtain ⟨a, ha⟩ := rd_u8 (hi 0 (by decide))
  obtain ⟨b, hb⟩ := rd_u8 (hi 1 (by decide))
  obtain ⟨c, hc'⟩ := rd_u8 (hi 2 (by decide))
  obtain ⟨d, hd⟩ := rd_u8 (hi 3 (by decide))
  simp only [Nat.mul_one, List.drop_succ_cons, List.drop_zero, List.take_succ_cons, List.take_zero, List.cons.injEq, and_true] at ha hb hc' hd
  subst ha hb hc' hd
  exact etherShares.core a b c d W

namespace etherShares
theorem spec {H : Type} (ds : List (DataW H)) (h : ds.length = Try.f5.params.size) : Rows.etherSharesSpec.fn H ds = { results := [.lit (.bool true)], args := ds } := by
  have h' : ds.length = 1 := h
  match ds, h' with
  | [_], _ => rfl

set_option maxRecDepth 100000 in
theorem lifted (os : Os) (started : os.Started) (H : Type) (enc : TypeId × Value → H) :
    ReturnsInHanded {} Try.checked os 5 .any (Rows.etherSharesSpec.pre6 enc Try.prog Try.f5 Rows.etherSharesRow.domain false) (Rows.etherSharesSpec.post enc Try.prog Try.f5 false true false false) :=
  lifted_said (C := Try.checked) (tb := 4) own started (by kernel_rfl) Try.func5
    (ChangeSpec.witness6 (enc := enc) (C := Try.checked) false ⟨#[], #[.agg #[.int .u8 0, .int .u8 0, .int .u8 0, .int .u8 0]], []⟩ 8 (by kernel_rfl) (by kernel_rfl) (by kernel_rfl) (by kernel_rfl))
    rfl spec rfl Try.underlying4 laidOut (by kernel_rfl) walk

theorem over : Rows.etherSharesRow.holds Try.pinned (OpenSpec.ofChange Rows.etherSharesSpec) :=
  OpenClaim.holds_of_wide 5 Try.f5 rfl rfl rfl rfl rfl rfl rfl ⟨rfl, rfl, rfl, rfl, rfl⟩ rfl rfl rfl rfl rfl (by kernel_rfl) Try.func5 (by kernel_rfl)
    (of_decide_eq_true (by kernel_rfl)) (by unfold Func.isWrapper; first | (rw [if_pos (by decide +kernel)]; kernel_rfl) | (rw [if_neg (by decide +kernel)]; exact ⟨rfl, rfl⟩))
    (fun os started H enc _ => lifted os started H enc)

theorem proved : Rows.EtherSharesSaid := over
#print axioms proved
end etherShares

end Go.Proofs.Ytlmidhmpolopdaa
