/- CksumUpdates: any sum, when any number becomes any other one, is the one that the document says; which sums count alike, too. No condition. -/
import Derived.Test.YtmffcjangmjnnaaL01a
namespace Go.Proofs.Ytmffcjangmjnnaa
open Go.RowKit

set_option maxHeartbeats 400000 in
theorem cksumUpdates.core (s a b : Int) (hs : 0 ≤ s ∧ s ≤ 65535) (ha : 0 ≤ a ∧ a ≤ 65535) (hb : 0 ≤ b ∧ b ≤ 65535) (w : World) :
    Calls Try.prog 7 #[.int .u16 s, .int .u16 a, .int .u16 b] w fun e w' => e = .returned (.bool true) ∧ Below w.heap.size w w' := by
  have hu := upd_bd s a b
  go_enter Try.func7, Try.ntmps7
  go_wp2_with (first
    | (go_at_call 13; refine (alive_c _).mono ?_; rintro e w1 ⟨rfl, hb1⟩)
    | (go_at_call 18; refine (update_c _ _ _ hs ha hb _).mono ?_; rintro e w2 ⟨rfl, rfl⟩)
    | (go_at_call 19; refine (refUpdate_c _ _ _ hs ha hb _).mono ?_; rintro e w2 ⟨rfl, rfl⟩)
    | (go_at_call 20; refine (same_c _ _ ha hb _).mono ?_; rintro e w2 ⟨rfl, rfl⟩)
    | (go_at_call 21; refine (refSame_c _ _ ha hb _).mono ?_; rintro e w2 ⟨rfl, rfl⟩))
  go_ret
  exact ⟨rfl, hb1⟩

theorem cksumUpdates.walk {H : Type} {enc : TypeId × Value → H} (W : World) (args : Array Value) (hn : args.size = 3)
    (h : ∀ (j : Nat) t v, Try.f7.params[j]? = some t → args[j]? = some v → RdV enc false Try.prog W t v) :
    Calls Try.prog 7 args W fun e w' => e = .returned (.bool true) ∧ Below W.heap.size W w' := by
  obtain ⟨v0, v1, v2, rfl⟩ := args3 hn
  obtain ⟨s, rfl, ws⟩ := (h 0 24 v0 rfl rfl).int Try.underlying24
  obtain ⟨a, rfl, wa⟩ := (h 1 24 v1 rfl rfl).int Try.underlying24
  obtain ⟨b, rfl, wb⟩ := (h 2 24 v2 rfl rfl).int Try.underlying24
  exact cksumUpdates.core s a b (u16_bd ws) (u16_bd wa) (u16_bd wb) W

namespace cksumUpdates
theorem spec {H : Type} (ds : List (DataW H)) (h : ds.length = Try.f7.params.size) : Rows.cksumUpdatesSpec.fn H ds = { results := [.lit (.bool true)], args := ds } := by
  have h' : ds.length = 3 := h
  match ds, h' with
  | [_, _, _], _ => rfl

set_option maxRecDepth 100000 in
theorem lifted (os : Os) (started : os.Started) (H : Type) (enc : TypeId × Value → H) :
    ReturnsInHanded {} Try.checked os 7 .any (Rows.cksumUpdatesSpec.pre6 enc Try.prog Try.f7 Rows.cksumUpdatesRow.domain false) (Rows.cksumUpdatesSpec.post enc Try.prog Try.f7 false true false false) :=
  lifted_said (C := Try.checked) (tb := 4) own started (by kernel_rfl) Try.func7
    (ChangeSpec.witness6 (enc := enc) (C := Try.checked) false ⟨#[], #[.int .u16 0, .int .u16 0, .int .u16 0], []⟩ 8 (by kernel_rfl) (by kernel_rfl) (by kernel_rfl) (by kernel_rfl))
    rfl spec rfl Try.underlying4 laidOut (by kernel_rfl) walk

theorem over : Rows.cksumUpdatesRow.holds Try.pinned (OpenSpec.ofChange Rows.cksumUpdatesSpec) :=
  OpenClaim.holds_of_wide 7 Try.f7 rfl rfl rfl rfl rfl rfl rfl ⟨rfl, rfl, rfl, rfl, rfl⟩ rfl rfl rfl rfl rfl (by kernel_rfl) Try.func7 (by kernel_rfl)
    (of_decide_eq_true (by kernel_rfl)) (by unfold Func.isWrapper; first | (rw [if_pos (by decide +kernel)]; kernel_rfl) | (rw [if_neg (by decide +kernel)]; exact ⟨rfl, rfl⟩))
    (fun os started H enc _ => lifted os started H enc)

theorem proved : Rows.CksumUpdatesSaid := over
#print axioms proved
end cksumUpdates
end Go.Proofs.Ytmffcjangmjnnaa
