/- Chapter 6: that the program is alive. -/
import Derived.Test.YtbjolilknkbehaaFas
import Derived.Test.YtbjolilknkbehaaAeOp
set_option linter.unusedSimpArgs false
set_option linter.unusedVariables false
set_option maxRecDepth 100000
namespace Go.Proofs.Ytbjolilknkbehaa.Ae
open Go
def trueRow : Srow := fun args H K => match args, H with
  | [], [] => K (.bool true) []
  | _, _ => False
def ann_outriderlaw06_alive : Nat → List Nat × Nat × List (List Nat)
  | _ => ([], 0, [])
set_option maxRecDepth 100000 in
theorem alive06_eq  (K : AVal → Hp → Prop) : fnP Try.prog Tde ann_outriderlaw06_alive Try.f8 [] [] K = (
 (IsStrs (1 : Nat) (rowsOf (1 : Nat) [AVal.str [(10 : UInt8), (0 : UInt8), (0 : UInt8), (100 : UInt8)]]) ∧
 (1 : Nat) ≤ (140737488351232 : Nat)) ∧
 (12 : Nat) ≤ (140737488351232 : Nat) ∧ ((0 : Int) ≤ (6 : Int) ∧ (6 : Int) ≤ (12 : Int)) ∧ K (AVal.bool true) []) := by kernel_rfl
theorem outriderlaw06_alive_p : ∀ args H K, trueRow args H K → fnP Try.prog Tde ann_outriderlaw06_alive Try.f8 args H K := by
  intro args H K h
  unfold trueRow at h
  split at h
  · rw [alive06_eq]
    refine ⟨⟨fun i hi => ?_, by omega⟩, by omega, by omega, h⟩
    obtain rfl : i = 0 := by omega
    rfl
  · exact h.elim
def Tlw1 : Specs := ext Tde 8 (trueRow)
theorem Tlw1_sound : TSound Try.prog Tlw1 := ext_sound Tde_sound (row_of Tde_sound mixed Try.func8 (by decide +kernel) outriderlaw06_alive_p)
abbrev Tlw : Specs := Tlw1
theorem Tlw_sound : TSound Try.prog Tlw := Tlw1_sound
end Go.Proofs.Ytbjolilknkbehaa.Ae

