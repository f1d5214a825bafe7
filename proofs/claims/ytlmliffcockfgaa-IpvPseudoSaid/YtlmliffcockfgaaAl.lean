/- Chapter 3: that the program is alive. -/
import Derived.Test.YtlmliffcockfgaaFip
import Derived.Test.YtlmliffcockfgaaAeAr
set_option linter.unusedSimpArgs false
set_option linter.unusedVariables false
namespace Go.Proofs.Ytlmliffcockfgaa.Ae
open Go
def trueRow : Srow := fun args H K => match args, H with
  | [], [] => K (.bool true) []
  | _, _ => False
def ann_outriderlaw03_alive : Nat → List Nat × Nat × List (List Nat)
  | _ => ([], 0, [])
set_option maxRecDepth 100000 in
theorem alive_eq  (K : AVal → Hp → Prop) : fnP Try.prog Tip ann_outriderlaw03_alive Try.f12 [] [] K = (
  K (AVal.bool true) []) := by kernel_rfl
theorem outriderlaw03_alive_p : ∀ args H K, trueRow args H K → fnP Try.prog Tip ann_outriderlaw03_alive Try.f12 args H K := by
  intro args H K h
  unfold trueRow at h
  split at h
  · rw [alive_eq]; exact h
  · exact h.elim
def Tlw1 : Specs := ext Tip 12 (trueRow)
theorem Tlw1_sound : TSound Try.prog Tlw1 := ext_sound Tip_sound (row_of Tip_sound mixed Try.func12 (by decide +kernel) outriderlaw03_alive_p)
abbrev Tlw : Specs := Tlw1
theorem Tlw_sound : TSound Try.prog Tlw := Tlw1_sound
end Go.Proofs.Ytlmliffcockfgaa.Ae

