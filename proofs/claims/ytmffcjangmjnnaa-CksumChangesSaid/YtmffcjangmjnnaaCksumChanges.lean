/- CksumChanges: any sum, when any bytes become others, is the one that the document says. No condition. -/
import Derived.Test.YtmffcjangmjnnaaL01a
namespace Go.Proofs.Ytmffcjangmjnnaa
open Go.RowKit

set_option maxHeartbeats 400000 in
theorem cksumChanges.yes (s : Int) (a b : Option Addr) (n c d : Nat) (l m : List UInt8) (hs : 0 ≤ s ∧ s ≤ 65535) (w : World) (hp : Bytes w a n c l) (hq : Bytes w b n d m) (h2 : n % 2 = 0) :
    Calls Try.prog 11 #[.int .u16 s, .slice a n c, .slice b n d] w fun e w' => e = .returned (.bool true) ∧ Below w.heap.size w w' := by
  have hcb := chg_bd s l m hs
  have H2 := hid h2
  clear h2
  go_enter Try.func11, Try.ntmps11
  go_wp2_with (first
    | (go_at_call 13; refine (alive_c _).mono ?_; rintro e w1 ⟨rfl, hb1⟩)
    | (go_at_call 22; refine (change_c _ _ _ _ _ _ l m _ hs hp hq H2.out).mono ?_; rintro e w2 ⟨rfl, hd2⟩; have hp2 := hp.drew hd2; have hq2 := hq.drew hd2)
    | (go_at_call 23; refine (refChange_c _ _ _ _ _ _ l m _ hs hp2 hq2 H2.out).mono ?_; rintro e w3 ⟨rfl, hd3⟩))
  go_ret
  exact ⟨rfl, (hd2.below _).trans ((hd3.below _).trans (hb1.mono (by rw [hd3.heap, hd2.heap]; exact Nat.le_refl _)))⟩

set_option maxHeartbeats 400000 in
theorem cksumChanges.no (s : Int) (a b : Option Addr) (n m c d : Nat) (hs : 0 ≤ s ∧ s ≤ 65535) (w : World) (hno : n ≠ m ∨ n % 2 ≠ 0) :
    Calls Try.prog 11 #[.int .u16 s, .slice a n c, .slice b m d] w fun e w' => e = .returned (.bool true) ∧ Below w.heap.size w w' := by
  have H2 := hid hno
  clear hno
  go_enter Try.func11, Try.ntmps11
  go_wp2_with (first
    | (go_at_call 13; refine (alive_c _).mono ?_; rintro e w1 ⟨rfl, hb1⟩)
    | (go_at_call 22; refine (change_no _ _ _ _ _ _ _ _ H2.out).mono ?_; rintro e w2 ⟨rfl, rfl⟩)
    | (go_at_call 23; refine (refChange_no _ _ _ _ _ _ _ _ H2.out).mono ?_; rintro e w3 ⟨rfl, rfl⟩))
  go_ret
  exact ⟨rfl, hb1⟩

theorem cksumChanges.walk {H : Type} {enc : TypeId × Value → H} (W : World) (args : Array Value) (hn : args.size = 3)
    (h : ∀ (j : Nat) t v, Try.f11.params[j]? = some t → args[j]? = some v → RdV enc false Try.prog W t v) :
    Calls Try.prog 11 args W fun e w' => e = .returned (.bool true) ∧ Below W.heap.size W w' := by
  obtain ⟨v0, v1, v2, rfl⟩ := args3 hn
  obtain ⟨s, rfl, ws⟩ := (h 0 24 v0 rfl rfl).int Try.underlying24
  obtain ⟨a, n, c, l, rfl, hA, hc⟩ := (h 1 22 v1 rfl rfl).bytes Try.underlying22 Try.underlying5 (by kernel_rfl) (by kernel_rfl)
  obtain ⟨b, m, d, k, rfl, hB, hd⟩ := (h 2 22 v2 rfl rfl).bytes Try.underlying22 Try.underlying5 (by kernel_rfl) (by kernel_rfl)
  by_cases hno : n ≠ m ∨ n % 2 ≠ 0
  · exact cksumChanges.no s a b n m c d (u16_bd ws) W hno
  · obtain rfl : n = m := by omega
    exact cksumChanges.yes s a b n c d l k (u16_bd ws) W hA hB (by omega)

namespace cksumChanges
theorem spec {H : Type} (ds : List (DataW H)) (h : ds.length = Try.f11.params.size) : Rows.cksumChangesSpec.fn H ds = { results := [.lit (.bool true)], args := ds } := by
  have h' : ds.length = 3 := h
  match ds, h' with
  | [_, _, _], _ => rfl

set_option maxRecDepth 100000 in
theorem lifted (os : Os) (started : os.Started) (H : Type) (enc : TypeId × Value → H) :
    ReturnsInHanded {} Try.checked os 11 .any (Rows.cksumChangesSpec.pre6 enc Try.prog Try.f11 Rows.cksumChangesRow.domain false) (Rows.cksumChangesSpec.post enc Try.prog Try.f11 false true false false) :=
  lifted_said (C := Try.checked) (tb := 4) own started (by kernel_rfl) Try.func11
    (ChangeSpec.witness6 (enc := enc) (C := Try.checked) false ⟨#[], #[.int .u16 0, .slice none 0 0, .slice none 0 0], []⟩ 8 (by kernel_rfl) (by kernel_rfl) (by kernel_rfl) (by kernel_rfl))
    rfl spec rfl Try.underlying4 laidOut (by kernel_rfl) walk

theorem over : Rows.cksumChangesRow.holds Try.pinned (OpenSpec.ofChange Rows.cksumChangesSpec) :=
  OpenClaim.holds_of_wide 11 Try.f11 rfl rfl rfl rfl rfl rfl rfl ⟨rfl, rfl, rfl, rfl, rfl⟩ rfl rfl rfl rfl rfl (by kernel_rfl) Try.func11 (by kernel_rfl)
    (of_decide_eq_true (by kernel_rfl)) (by unfold Func.isWrapper; first | (rw [if_pos (by decide +kernel)]; kernel_rfl) | (rw [if_neg (by decide +kernel)]; exact ⟨rfl, rfl⟩))
    (fun os started H enc _ => lifted os started H enc)

theorem proved : Rows.CksumChangesSaid := over
#print axioms proved
end cksumChanges

end Go.Proofs.Ytmffcjangmjnnaa
