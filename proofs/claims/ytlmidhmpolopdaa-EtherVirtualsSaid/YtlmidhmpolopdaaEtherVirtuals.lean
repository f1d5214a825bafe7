/- EtherVirtuals: two numbers share a card just if they are the same; the two kinds never do. No condition. -/
import Derived.Test.YtlmidhmpolopdaaL02a
namespace Go.Proofs.Ytlmidhmpolopdaa
open Go.RowKit

set_option maxHeartbeats 1000000 in
theorem etherVirtuals.yes (a b : Int) (w : World) (a1 : 1 ≤ a) (a2 : a ≤ 255) (b1 : 1 ≤ b) (b2 : b ≤ 255) :
    Calls Try.prog 4 #[.int .i64 a, .int .i64 b] w fun e w' => e = .returned (.bool true) ∧ Below w.heap.size w w' := by
  go_enter Try.func4, Try.ntmps4
  go_wp2_with fail
  go_at_call 13
  refine (virtual_yes a false _ a1 a2).mono ?_
  rintro e w1 ⟨rfl, x1⟩
  go_wp2_with fail
  go_at_call 13
  refine (virtual_yes b false _ b1 b2).mono ?_
  rintro e w2 ⟨rfl, x2⟩
  go_wp2_with fail
  go_at_call 13
  refine (virtual_yes b true _ b1 b2).mono ?_
  rintro e w3 ⟨rfl, x3⟩
  have y2 := x2.trans (below_alloc w2 (.cells #[.int .u8 0, .int .u8 0, .int .u8 94, .int .u8 0, .int .u8 1, .int .u8 b] 23))
  have y3 := x3.trans (below_alloc w3 (.cells #[.int .u8 0, .int .u8 0, .int .u8 94, .int .u8 0, .int .u8 2, .int .u8 b] 23))
  have h1 := heap_ext y3 (heap_ext y2 (heap_new w1 (.cells #[.int .u8 0, .int .u8 0, .int .u8 94, .int .u8 0, .int .u8 1, .int .u8 a] 23)))
  have h2 := heap_ext y3 (heap_new w2 (.cells #[.int .u8 0, .int .u8 0, .int .u8 94, .int .u8 0, .int .u8 1, .int .u8 b] 23))
  have h3 := heap_new w3 (.cells #[.int .u8 0, .int .u8 0, .int .u8 94, .int .u8 0, .int .u8 2, .int .u8 b] 23)
  have X3 := ((x1.alloc (.cells #[.int .u8 0, .int .u8 0, .int .u8 94, .int .u8 0, .int .u8 1, .int .u8 a] 23)).trans y2).trans y3
  have H1 := hid h1
  have H2 := hid h2
  have H3 := hid h3
  clear h1 h2 h3 y2 y3
  go_wp2_with (go_at_call 12; refine (alive_c _).mono ?_; rintro e w4 ⟨rfl, x4⟩; obtain ⟨m0, m1, m2, m3, m4, m5⟩ := cells6 (heap_ext x4 H1.out); obtain ⟨n0, n1, n2, n3, n4, n5⟩ := cells6 (heap_ext x4 H2.out); obtain ⟨p0, p1, p2, p3, p4, p5⟩ := cells6 (heap_ext x4 H3.out))
  go_ret
  exact ⟨rfl, X3.trans x4⟩


theorem etherVirtuals.fin {w0 w1 w2 w3 w4 : World} {o1 o2 o3 : Obj} (x1 : Ext w0 w1) (x2 : Ext (w1.alloc o1) w2) (x3 : Ext (w2.alloc o2) w3) (x4 : Below (w3.alloc o3).heap.size (w3.alloc o3) w4) : Below w0.heap.size w0 w4 :=
  Ext.trans (((((x1.alloc _).trans x2).alloc _).trans x3).alloc _) x4
theorem virtual_any (id : Int) (six : Bool) (w : World) : Calls Try.prog 13 #[.int .i64 id, .bool six] w fun e w' => (∃ c d f t, e = .returned (.tuple #[.agg #[.int .u8 0, .int .u8 0, .int .u8 c, .int .u8 0, .int .u8 d, .int .u8 f], .bool t])) ∧ Ext w w' := by
  by_cases h : id < 1 ∨ 255 < id
  · exact (virtual_no id six w h).mono fun e w' h => ⟨⟨0, 0, 0, false, h.1⟩, h.2⟩
  · exact (virtual_yes id six w (by omega) (by omega)).mono fun e w' h => ⟨⟨_, _, _, true, h.1⟩, h.2⟩

set_option maxHeartbeats 1000000 in
theorem etherVirtuals.no1 (a b : Int) (w : World) (h : a < 1) :
    Calls Try.prog 4 #[.int .i64 a, .int .i64 b] w fun e w' => e = .returned (.bool true) ∧ Below w.heap.size w w' := by
  go_enter Try.func4, Try.ntmps4
  go_wp2_with fail
  go_at_call 13
  refine (virtual_no a false _ (.inl h)).mono ?_
  rintro e w1 ⟨rfl, x1⟩
  go_wp2_with fail
  go_at_call 13
  refine (virtual_any b false _).mono ?_
  rintro e w2 ⟨⟨c2, d2, f2, t2, rfl⟩, x2⟩
  go_wp2_with fail
  go_at_call 13
  refine (virtual_any b true _).mono ?_
  rintro e w3 ⟨⟨c3, d3, f3, t3, rfl⟩, x3⟩
  have X3 := fun o w4 x4 => etherVirtuals.fin (o3 := o) (w4 := w4) x1 x2 x3 x4
  go_wp2_with (go_at_call 12; refine (alive_c _).mono ?_; rintro e w4 ⟨rfl, x4⟩; have X4 := X3 _ w4 x4)
  go_ret
  exact ⟨rfl, X4⟩

set_option maxHeartbeats 1000000 in
theorem etherVirtuals.no2 (a b : Int) (w : World) (h : 255 < a) :
    Calls Try.prog 4 #[.int .i64 a, .int .i64 b] w fun e w' => e = .returned (.bool true) ∧ Below w.heap.size w w' := by
  have q : (a < 1) = False := by simp; omega
  go_enter Try.func4, Try.ntmps4
  go_wp2_with fail
  go_at_call 13
  refine (virtual_no a false _ (.inr h)).mono ?_
  rintro e w1 ⟨rfl, x1⟩
  go_wp2_with fail
  go_at_call 13
  refine (virtual_any b false _).mono ?_
  rintro e w2 ⟨⟨c2, d2, f2, t2, rfl⟩, x2⟩
  go_wp2_with fail
  go_at_call 13
  refine (virtual_any b true _).mono ?_
  rintro e w3 ⟨⟨c3, d3, f3, t3, rfl⟩, x3⟩
  have X3 := fun o w4 x4 => etherVirtuals.fin (o3 := o) (w4 := w4) x1 x2 x3 x4
  go_wp2_with (go_at_call 12; refine (alive_c _).mono ?_; rintro e w4 ⟨rfl, x4⟩; have X4 := X3 _ w4 x4)
  go_ret
  exact ⟨rfl, X4⟩

set_option maxHeartbeats 1000000 in
theorem etherVirtuals.no3 (a b : Int) (w : World) (a1 : 1 ≤ a) (a2 : a ≤ 255) (h : b < 1) :
    Calls Try.prog 4 #[.int .i64 a, .int .i64 b] w fun e w' => e = .returned (.bool true) ∧ Below w.heap.size w w' := by
  have q : (a < 1) = False := by simp; omega
  have q2 : (255 < a) = False := by simp; omega
  go_enter Try.func4, Try.ntmps4
  go_wp2_with fail
  go_at_call 13
  refine (virtual_yes a false _ a1 a2).mono ?_
  rintro e w1 ⟨rfl, x1⟩
  go_wp2_with fail
  go_at_call 13
  refine (virtual_no b false _ (.inl h)).mono ?_
  rintro e w2 ⟨rfl, x2⟩
  go_wp2_with fail
  go_at_call 13
  refine (virtual_any b true _).mono ?_
  rintro e w3 ⟨⟨c3, d3, f3, t3, rfl⟩, x3⟩
  have X3 := fun o w4 x4 => etherVirtuals.fin (o3 := o) (w4 := w4) x1 x2 x3 x4
  go_wp2_with (go_at_call 12; refine (alive_c _).mono ?_; rintro e w4 ⟨rfl, x4⟩; have X4 := X3 _ w4 x4)
  go_ret
  exact ⟨rfl, X4⟩

set_option maxHeartbeats 1000000 in
theorem etherVirtuals.no4 (a b : Int) (w : World) (a1 : 1 ≤ a) (a2 : a ≤ 255) (h : 255 < b) :
    Calls Try.prog 4 #[.int .i64 a, .int .i64 b] w fun e w' => e = .returned (.bool true) ∧ Below w.heap.size w w' := by
  have q : (a < 1) = False := by simp; omega
  have q2 : (255 < a) = False := by simp; omega
  have q3 : (b < 1) = False := by simp; omega
  go_enter Try.func4, Try.ntmps4
  go_wp2_with fail
  go_at_call 13
  refine (virtual_yes a false _ a1 a2).mono ?_
  rintro e w1 ⟨rfl, x1⟩
  go_wp2_with fail
  go_at_call 13
  refine (virtual_no b false _ (.inr h)).mono ?_
  rintro e w2 ⟨rfl, x2⟩
  go_wp2_with fail
  go_at_call 13
  refine (virtual_any b true _).mono ?_
  rintro e w3 ⟨⟨c3, d3, f3, t3, rfl⟩, x3⟩
  have X3 := fun o w4 x4 => etherVirtuals.fin (o3 := o) (w4 := w4) x1 x2 x3 x4
  go_wp2_with (go_at_call 12; refine (alive_c _).mono ?_; rintro e w4 ⟨rfl, x4⟩; have X4 := X3 _ w4 x4)
  go_ret
  exact ⟨rfl, X4⟩

theorem etherVirtuals.core (a b : Int) (w : World) :
    Calls Try.prog 4 #[.int .i64 a, .int .i64 b] w fun e w' => e = .returned (.bool true) ∧ Below w.heap.size w w' := by
  by_cases h1 : a < 1
  · exact etherVirtuals.no1 a b w h1
  by_cases h2 : 255 < a
  · exact etherVirtuals.no2 a b w h2
  by_cases h3 : b < 1
  · exact etherVirtuals.no3 a b w (by omega) (by omega) h3
  by_cases h4 : 255 < b
  · exact etherVirtuals.no4 a b w (by omega) (by omega) h4
  exact etherVirtuals.yes a b w (by omega) (by omega) (by omega) (by omega)

theorem etherVirtuals.walk {H : Type} {enc : TypeId × Value → H} (W : World) (args : Array Value) (hn : args.size = 2)
    (h : ∀ (j : Nat) t v, Try.f4.params[j]? = some t → args[j]? = some v → RdV enc false Try.prog W t v) :
    Calls Try.prog 4 args W fun e w' => e = .returned (.bool true) ∧ Below W.heap.size W w' := by
  obtain ⟨v0, v1, rfl⟩ := args2 hn
  obtain ⟨a, rfl, wa⟩ := (h 0 3 v0 rfl rfl).int Try.underlying3
  obtain ⟨b, rfl, wb⟩ := (h 1 3 v1 rfl rfl).int Try.underlying3
  exact etherVirtuals.core a b W

namespace etherVirtuals
theorem spec {H : Type} (ds : List (DataW H)) (h : ds.length = Try.f4.params.size) : Rows.etherVirtualsSpec.fn H ds = { results := [.lit (.bool true)], args := ds } := by
  have h' : ds.length = 2 := h
  match ds, h' with
  | [_, _], _ => rfl

set_option maxRecDepth 100000 in
theorem lifted (os : Os) (started : os.Started) (H : Type) (enc : TypeId × Value → H) :
    ReturnsInHanded {} Try.checked os 4 .any (Rows.etherVirtualsSpec.pre6 enc Try.prog Try.f4 Rows.etherVirtualsRow.domain false) (Rows.etherVirtualsSpec.post enc Try.prog Try.f4 false true false false) :=
  lifted_said (C := Try.checked) (tb := 4) own started (by kernel_rfl) Try.func4
    (ChangeSpec.witness6 (enc := enc) (C := Try.checked) false ⟨#[], #[.int .i64 0, .int .i64 0], []⟩ 8 (by kernel_rfl) (by kernel_rfl) (by kernel_rfl) (by kernel_rfl))
    rfl spec rfl Try.underlying4 laidOut (by kernel_rfl) walk

theorem over : Rows.etherVirtualsRow.holds Try.pinned (OpenSpec.ofChange Rows.etherVirtualsSpec) :=
  OpenClaim.holds_of_wide 4 Try.f4 rfl rfl rfl rfl rfl rfl rfl ⟨rfl, rfl, rfl, rfl, rfl⟩ rfl rfl rfl rfl rfl (by kernel_rfl) Try.func4 (by kernel_rfl)
    (of_decide_eq_true (by kernel_rfl)) (by unfold Func.isWrapper; first | (rw [if_pos (by decide +kernel)]; kernel_rfl) | (rw [if_neg (by decide +kernel)]; exact ⟨rfl, rfl⟩))
    (fun os started H enc _ => lifted os started H enc)

theorem proved : Rows.EtherVirtualsSaid := over
#print axioms proved
end etherVirtuals

end Go.Proofs.Ytlmidhmpolopdaa
