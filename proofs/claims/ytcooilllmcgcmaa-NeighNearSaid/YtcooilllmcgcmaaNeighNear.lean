/- NeighNear: the group of an address hangs on its last three bytes alone, and has a card's address. No conditions. -/
import Derived.Test.YtcooilllmcgcmaaAl
set_option linter.unusedSimpArgs false
set_option linter.unusedVariables false
namespace Go.Proofs.Ytcooilllmcgcmaa.Ae
open Go Go.RowKit
def ann_outriderlaw04_NeighNear : Nat → List Nat × Nat × List (List Nat)
  | 1 => ([], 3, [[2], [], [], [0, 1]])
  | 2 => ([], 6, [[], [0], [0, 1], [], [3], [0, 1, 2, 3, 4]])
  | _ => ([], 0, [])
set_option maxRecDepth 100000 in
theorem NeighNear_eq (a0 a1 a2 a3 a4 a5 a6 a7 a8 a9 a10 a11 a12 a13 a14 a15 b0 b1 b2 b3 b4 b5 b6 b7 b8 b9 b10 b11 b12 b13 b14 b15 : UInt8) (K : AVal → Hp → Prop) : fnP Try.prog Tlw ann_outriderlaw04_NeighNear Try.f5 [.agg [.byte a0, .byte a1, .byte a2, .byte a3, .byte a4, .byte a5, .byte a6, .byte a7, .byte a8, .byte a9, .byte a10, .byte a11, .byte a12, .byte a13, .byte a14, .byte a15], .agg [.byte b0, .byte b1, .byte b2, .byte b3, .byte b4, .byte b5, .byte b6, .byte b7, .byte b8, .byte b9, .byte b10, .byte b11, .byte b12, .byte b13, .byte b14, .byte b15]] [] K = (
  ((0 : Int) ≤ (13 : Int) ∧ (13 : Int) ≤ (16 : Int)) ∧
    ((0 : Int) ≤ (13 : Int) ∧ (13 : Int) ≤ (16 : Int)) ∧
     (3 : Nat) ≤ (3 : Nat) ∧
      brP
       (decide
        (nbNear [a0, a1, a2, a3, a4, a5, a6, a7, a8, a9, a10, a11, a12, a13, a14, a15] =
         nbNear
          [b0, b1, b2, b3, b4, b5, b6, b7, b8, b9, b10, b11, b12, List.getD [a13, a14, a15] (0 : Nat) (0 : UInt8),
           List.getD [a13, a14, a15] (1 : Nat) (0 : UInt8), List.getD [a13, a14, a15] (2 : Nat) (0 : UInt8)]))
       (((0 : Int) ≤ (13 : Int) ∧ (13 : Int) < (16 : Int)) ∧
        ((0 : Int) ≤ (14 : Int) ∧ (14 : Int) < (16 : Int)) ∧
         ((0 : Int) ≤ (15 : Int) ∧ (15 : Int) < (16 : Int)) ∧
          K
           (AVal.bool
            (decide
              ((etMany (nbNear [a0, a1, a2, a3, a4, a5, a6, a7, a8, a9, a10, a11, a12, a13, a14, a15])).fst.a0 =
               (51 : UInt8)) &&
             (decide
               ((etMany (nbNear [a0, a1, a2, a3, a4, a5, a6, a7, a8, a9, a10, a11, a12, a13, a14, a15])).fst.a1 =
                (51 : UInt8)) &&
              (decide
                ((etMany (nbNear [a0, a1, a2, a3, a4, a5, a6, a7, a8, a9, a10, a11, a12, a13, a14, a15])).fst.a2 =
                 (255 : UInt8)) &&
               (decide
                 ((etMany (nbNear [a0, a1, a2, a3, a4, a5, a6, a7, a8, a9, a10, a11, a12, a13, a14, a15])).fst.a3 =
                  a13) &&
                (decide
                  ((etMany (nbNear [a0, a1, a2, a3, a4, a5, a6, a7, a8, a9, a10, a11, a12, a13, a14, a15])).fst.a4 =
                   a14) &&
                 decide
                  ((etMany (nbNear [a0, a1, a2, a3, a4, a5, a6, a7, a8, a9, a10, a11, a12, a13, a14, a15])).fst.a5 =
                   a15)))))))
           [])
       (K (AVal.bool false) [])) := by kernel_rfl
theorem neighNear.core (a0 a1 a2 a3 a4 a5 a6 a7 a8 a9 a10 a11 a12 a13 a14 a15 b0 b1 b2 b3 b4 b5 b6 b7 b8 b9 b10 b11 b12 b13 b14 b15 : UInt8)  :
    fnP Try.prog Tlw ann_outriderlaw04_NeighNear Try.f5 [.agg [.byte a0, .byte a1, .byte a2, .byte a3, .byte a4, .byte a5, .byte a6, .byte a7, .byte a8, .byte a9, .byte a10, .byte a11, .byte a12, .byte a13, .byte a14, .byte a15], .agg [.byte b0, .byte b1, .byte b2, .byte b3, .byte b4, .byte b5, .byte b6, .byte b7, .byte b8, .byte b9, .byte b10, .byte b11, .byte b12, .byte b13, .byte b14, .byte b15]] [] (fun v _ => v = .bool true) := by
  rw [NeighNear_eq]
  refine ⟨by omega, by omega, by omega, ?_⟩
  rw [near_many rfl]
  simp [nbNear, brP]
end Go.Proofs.Ytcooilllmcgcmaa.Ae
namespace Go.Proofs.Ytcooilllmcgcmaa
open Go Go.RowKit Ae
attribute [local irreducible] fnP in
set_option maxRecDepth 100000 in
theorem neighNear.walk {H : Type} {enc : TypeId × Value → H} (W : World) (args : Array Value) (hn : args.size = 2)
    (h : ∀ (j : Nat) t v, Try.f5.params[j]? = some t → args[j]? = some v → RdV enc false Try.prog W t v) :
    Calls Try.prog 5 args W fun e w' => e = .returned (.bool true) ∧ Below W.heap.size W w' := by
  obtain ⟨v0, v1, rfl⟩ := args2 hn
  obtain ⟨vs0, hs0, hv0⟩ := arg_agg (b := false) (d := 6) (ks := [.byte, .byte, .byte, .byte, .byte, .byte, .byte, .byte, .byte, .byte, .byte, .byte, .byte, .byte, .byte, .byte]) (.inr ⟨_, _, Try.underlying46⟩) (by kernel_rfl) (h 0 46 v0 rfl rfl)
  obtain ⟨_, _, rfl, ⟨a0, rfl⟩, _, _, rfl, ⟨a1, rfl⟩, _, _, rfl, ⟨a2, rfl⟩, _, _, rfl, ⟨a3, rfl⟩, _, _, rfl, ⟨a4, rfl⟩, _, _, rfl, ⟨a5, rfl⟩, _, _, rfl, ⟨a6, rfl⟩, _, _, rfl, ⟨a7, rfl⟩, _, _, rfl, ⟨a8, rfl⟩, _, _, rfl, ⟨a9, rfl⟩, _, _, rfl, ⟨a10, rfl⟩, _, _, rfl, ⟨a11, rfl⟩, _, _, rfl, ⟨a12, rfl⟩, _, _, rfl, ⟨a13, rfl⟩, _, _, rfl, ⟨a14, rfl⟩, _, _, rfl, ⟨a15, rfl⟩, rfl⟩ := hs0
  obtain ⟨vs1, hs1, hv1⟩ := arg_agg (b := false) (d := 6) (ks := [.byte, .byte, .byte, .byte, .byte, .byte, .byte, .byte, .byte, .byte, .byte, .byte, .byte, .byte, .byte, .byte]) (.inr ⟨_, _, Try.underlying46⟩) (by kernel_rfl) (h 1 46 v1 rfl rfl)
  obtain ⟨_, _, rfl, ⟨b0, rfl⟩, _, _, rfl, ⟨b1, rfl⟩, _, _, rfl, ⟨b2, rfl⟩, _, _, rfl, ⟨b3, rfl⟩, _, _, rfl, ⟨b4, rfl⟩, _, _, rfl, ⟨b5, rfl⟩, _, _, rfl, ⟨b6, rfl⟩, _, _, rfl, ⟨b7, rfl⟩, _, _, rfl, ⟨b8, rfl⟩, _, _, rfl, ⟨b9, rfl⟩, _, _, rfl, ⟨b10, rfl⟩, _, _, rfl, ⟨b11, rfl⟩, _, _, rfl, ⟨b12, rfl⟩, _, _, rfl, ⟨b13, rfl⟩, _, _, rfl, ⟨b14, rfl⟩, _, _, rfl, ⟨b15, rfl⟩, rfl⟩ := hs1
  obtain ⟨r, H1, hr, hG⟩ := fn_sound Tlw_sound mixed Try.func5 (by decide +kernel) (neighNear.core a0 a1 a2 a3 a4 a5 a6 a7 a8 a9 a10 a11 a12 a13 a14 a15 b0 b1 b2 b3 b4 b5 b6 b7 b8 b9 b10 b11 b12 b13 b14 b15 )
  subst hr
  exact law_walk hG (vl_cons hv0 (vl_cons hv1 vl_nil))

namespace neighNear
theorem spec {H : Type} (ds : List (DataW H)) (h : ds.length = Try.f5.params.size) : Rows.neighNearSpec.fn H ds = { results := [.lit (.bool true)], args := ds } := by
  have h' : ds.length = 2 := h
  match ds, h' with
  | [_, _], _ => rfl

set_option maxRecDepth 100000 in
theorem lifted (os : Os) (started : os.Started) (H : Type) (enc : TypeId × Value → H) :
    ReturnsInHanded {} Try.checked os 5 .any (Rows.neighNearSpec.pre6 enc Try.prog Try.f5 Rows.neighNearRow.domain false) (Rows.neighNearSpec.post enc Try.prog Try.f5 false true false false) :=
  lifted_said (C := Try.checked) (tb := 4) own started (by kernel_rfl) Try.func5
    (ChangeSpec.witness6 (enc := enc) (C := Try.checked) false ⟨#[], #[.agg #[.int .u8 0, .int .u8 0, .int .u8 0, .int .u8 0, .int .u8 0, .int .u8 0, .int .u8 0, .int .u8 0, .int .u8 0, .int .u8 0, .int .u8 0, .int .u8 0, .int .u8 0, .int .u8 0, .int .u8 0, .int .u8 0], .agg #[.int .u8 0, .int .u8 0, .int .u8 0, .int .u8 0, .int .u8 0, .int .u8 0, .int .u8 0, .int .u8 0, .int .u8 0, .int .u8 0, .int .u8 0, .int .u8 0, .int .u8 0, .int .u8 0, .int .u8 0, .int .u8 0]], []⟩ 8 (by kernel_rfl) (by kernel_rfl) (by kernel_rfl) (by kernel_rfl))
    rfl spec rfl Try.underlying4 laidOut (by kernel_rfl) walk

theorem over : Rows.neighNearRow.holds Try.pinned (OpenSpec.ofChange Rows.neighNearSpec) :=
  OpenClaim.holds_of_wide 5 Try.f5 rfl rfl rfl rfl rfl rfl rfl ⟨rfl, rfl, rfl, rfl, rfl⟩ rfl rfl rfl rfl rfl (by kernel_rfl) Try.func5 (by kernel_rfl)
    (of_decide_eq_true (by kernel_rfl)) (by unfold Func.isWrapper; first | (rw [if_pos (by decide +kernel)]; kernel_rfl) | (rw [if_neg (by decide +kernel)]; exact ⟨rfl, rfl⟩))
    (fun os started H enc _ => lifted os started H enc)

theorem proved : Rows.NeighNearSaid := over
#print axioms proved
end neighNear

end Go.Proofs.Ytcooilllmcgcmaa

