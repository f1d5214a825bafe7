/- CksumBoth: where a number becomes another one, and that the first one again, the sum counts as it did. No condition. -/
import Derived.Test.YtmffcjangmjnnaaL01a
namespace Go.Proofs.Ytmffcjangmjnnaa
open Go.RowKit

theorem same_mod (a b : Int) (h : a % 65535 = b % 65535) : same a b = true := by unfold same; simp [h]

set_option maxHeartbeats 400000 in
theorem cksumBoth.core (s a b : Int) (hs : 0 ≤ s ∧ s ≤ 65535) (ha : 0 ≤ a ∧ a ≤ 65535) (hb : 0 ≤ b ∧ b ≤ 65535) (w : World) :
    Calls Try.prog 9 #[.int .u16 s, .int .u16 a, .int .u16 b] w fun e w' => e = .returned (.bool true) ∧ Below w.heap.size w w' := by
  have h1 := upd_bd s a b
  have h2 := upd_bd (upd s a b) b a
  have h3 := upd_bd s a a
  have m1 := upd_mod s a b
  have m2 := upd_mod (upd s a b) b a
  have m3 := upd_mod s a a
  have e1 := same_mod (upd (upd s a b) b a) s (by omega)
  have e2 := same_mod (upd s a a) s (by omega)
  clear m1 m2 m3
  go_enter Try.func9, Try.ntmps9
  go_wp2_with (first
    | (go_at_call 13; refine (alive_c _).mono ?_; rintro e w1 ⟨rfl, hb1⟩)
    | (go_at_call 18; refine (update_c _ _ _ (by assumption) (by assumption) (by assumption) _).mono ?_; rintro e w2 ⟨rfl, rfl⟩)
    | (go_at_call 20; refine (same_c _ _ (by assumption) (by assumption) _).mono ?_; rintro e w2 ⟨rfl, rfl⟩))
  go_ret
  exact ⟨rfl, hb1⟩

theorem cksumBoth.walk {H : Type} {enc : TypeId × Value → H} (W : World) (args : Array Value) (hn : args.size = 3)
    (h : ∀ (j : Nat) t v, Try.f9.params[j]? = some t → args[j]? = some v → RdV enc false Try.prog W t v) :
    Calls Try.prog 9 args W fun e w' => e = .returned (.bool true) ∧ Below W.heap.size W w' := by
  obtain ⟨v0, v1, v2, rfl⟩ := args3 hn
  obtain ⟨s, rfl, ws⟩ := (h 0 24 v0 rfl rfl).int Try.underlying24
  obtain ⟨a, rfl, wa⟩ := (h 1 24 v1 rfl rfl).int Try.underlying24
  obtain ⟨b, rfl, wb⟩ := (h 2 24 v2 rfl rfl).int Try.underlying24
  exact cksumBoth.core s a b (u16_bd ws) (u16_bd wa) (u16_bd wb) W

namespace cksumBoth
theorem spec {H : Type} (ds : List (DataW H)) (h : ds.length = Try.f9.params.size) : Rows.cksumBothSpec.fn H ds = { results := [.lit (.bool true)], args := ds } := by
  have h' : ds.length = 3 := h
  match ds, h' with
  | [_, _, _], _ => rfl

set_option maxRecDepth 100000 in
theorem lifted (os : Os) (started : os.Started) (H : Type) (enc : TypeId × Value → H) :
    ReturnsInHanded {} Try.checked os 9 .any (Rows.cksumBothSpec.pre6 enc Try.prog Try.f9 Rows.cksumBothRow.domain false) (Rows.cksumBothSpec.post enc Try.prog Try.f9 false true false false) :=
  lifted_said (C := Try.checked) (tb := 4) own started (by kernel_rfl) Try.func9
    (ChangeSpec.witness6 (enc := enc) (C := Try.checked) false ⟨#[], #[.int .u16 0, .int .u16 0, .int .u16 0], []⟩ 8 (by kernel_rfl) (by kernel_rfl) (by kernel_rfl) (by kernel_rfl))
    rfl spec rfl Try.underlying4 laidOut (by kernel_rfl) walk

theorem over : Rows.cksumBothRow.holds Try.pinned (OpenSpec.ofChange Rows.cksumBothSpec) :=
  OpenClaim.holds_of_wide 9 Try.f9 rfl rfl rfl rfl rfl rfl rfl ⟨rfl, rfl, rfl, rfl, rfl⟩ rfl rfl rfl rfl rfl (by kernel_rfl) Try.func9 (by kernel_rfl)
    (of_decide_eq_true (by kernel_rfl)) (by unfold Func.isWrapper; first | (rw [if_pos (by decide +kernel)]; kernel_rfl) | (rw [if_neg (by decide +kernel)]; exact ⟨rfl, rfl⟩))
    (fun os started H enc _ => lifted os started H enc)

theorem proved : Rows.CksumBothSaid := over
#print axioms proved
end cksumBoth

end Go.Proofs.Ytmffcjangmjnnaa
