/- Chapter 5: that the program is alive. -/
import Derived.Test.YtbaolkfdkjljjaaFpr
import Derived.Test.YtbaolkfdkjljjaaAeAr
set_option linter.unusedSimpArgs false
set_option linter.unusedVariables false
namespace Go.Proofs.Ytbaolkfdkjljjaa.Ae
open Go
def trueRow : Srow := fun args H K => match args, H with
  | [], [] => K (.bool true) []
  | _, _ => False
def ann_outriderlaw05_alive : Nat → List Nat × Nat × List (List Nat)
  | _ => ([], 0, [])
set_option maxRecDepth 100000 in
theorem alive05_eq  (K : AVal → Hp → Prop) : fnP Try.prog Tpr ann_outriderlaw05_alive Try.f9 [] [] K = (
  (1 : Nat) ≤ (140737488351232 : Nat) ∧ (9 : Nat) ≤ (140737488351232 : Nat) ∧ K (AVal.bool true) []) := by kernel_rfl
theorem outriderlaw05_alive_p : ∀ args H K, trueRow args H K → fnP Try.prog Tpr ann_outriderlaw05_alive Try.f9 args H K := by
  intro args H K h
  unfold trueRow at h
  split at h
  · rw [alive05_eq]; exact ⟨by omega, by omega, h⟩
  · exact h.elim
def Tlw1 : Specs := ext Tpr 9 (trueRow)
theorem Tlw1_sound : TSound Try.prog Tlw1 := ext_sound Tpr_sound (row_of Tpr_sound mixed Try.func9 (by decide +kernel) outriderlaw05_alive_p)
abbrev Tlw : Specs := Tlw1
theorem Tlw_sound : TSound Try.prog Tlw := Tlw1_sound
end Go.Proofs.Ytbaolkfdkjljjaa.Ae

