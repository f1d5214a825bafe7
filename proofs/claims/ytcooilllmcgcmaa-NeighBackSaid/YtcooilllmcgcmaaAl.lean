/- Chapter 4: that the program is alive. -/
import Derived.Test.YtcooilllmcgcmaaFnb
import Derived.Test.YtcooilllmcgcmaaAeAr
import Derived.Test.YtcooilllmcgcmaaAeQk
set_option linter.unusedSimpArgs false
set_option linter.unusedVariables false
namespace Go.Proofs.Ytcooilllmcgcmaa.Ae
open Go
def trueRow : Srow := fun args H K => match args, H with
  | [], [] => K (.bool true) []
  | _, _ => False
def ann_outriderlaw04_alive : Nat → List Nat × Nat × List (List Nat)
  | _ => ([], 0, [])
set_option maxRecDepth 100000 in
theorem alive04_eq  (K : AVal → Hp → Prop) : fnP Try.prog Tnb ann_outriderlaw04_alive Try.f11 [] [] K = (
  (42 : Nat) ≤ (140737488355328 : Nat) ∧ (28 : Nat) ≤ (140737488351232 : Nat) ∧ K (AVal.bool true) []) := by kernel_rfl
theorem outriderlaw04_alive_p : ∀ args H K, trueRow args H K → fnP Try.prog Tnb ann_outriderlaw04_alive Try.f11 args H K := by
  intro args H K h
  unfold trueRow at h
  split at h
  · rw [alive04_eq]; exact ⟨by omega, by omega, h⟩
  · exact h.elim
def Tlw1 : Specs := ext Tnb 11 (trueRow)
theorem Tlw1_sound : TSound Try.prog Tlw1 := ext_sound Tnb_sound (row_of Tnb_sound mixed Try.func11 (by decide +kernel) outriderlaw04_alive_p)
def ann_outriderlaw04_read : Nat → List Nat × Nat × List (List Nat)
  | _ => ([], 0, [])
def Tlw2 : Specs := ext Tlw1 13 (fnP Try.prog Tlw1 ann_outriderlaw04_read Try.f13)
theorem Tlw2_sound : TSound Try.prog Tlw2 := ext_sound Tlw1_sound (fn_row Tlw1_sound mixed Try.func13 (by decide +kernel))
abbrev Tlw : Specs := Tlw2
theorem Tlw_sound : TSound Try.prog Tlw := Tlw2_sound
end Go.Proofs.Ytcooilllmcgcmaa.Ae

