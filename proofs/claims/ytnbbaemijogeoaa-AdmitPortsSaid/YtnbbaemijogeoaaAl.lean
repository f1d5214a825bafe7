/- Chapter 20's law: that the program is alive; ports. -/
import Derived.Test.YtnbbaemijogeoaaCf
set_option linter.unusedSimpArgs false
set_option linter.unusedVariables false
set_option maxRecDepth 100000
namespace Go.Proofs.Ytnbbaemijogeoaa.Ae
open Go
def trueRow : Srow := fun args H K => match args, H with
  | [], [] => K (.bool true) []
  | _, _ => False
def ann_ether_Virtual : Nat → List Nat × Nat × List (List Nat)
  | 2000001 => ([], 7, [[], [0], [0, 1], [0, 1, 2], [0, 1, 2, 3], [0, 1, 2, 3, 4]])
  | _ => ([], 0, [])
def Tlw1 : Specs := ext Tcf 33 (fnP Try.prog Tcf ann_ether_Virtual Try.f33)
theorem Tlw1_sound : TSound Try.prog Tlw1 := ext_sound Tcf_sound (fn_row Tcf_sound mixed Try.func33 (by decide +kernel))
def ann_ether_Group : Nat → List Nat × Nat × List (List Nat)
  | _ => ([], 0, [])
def Tlw2 : Specs := ext Tlw1 35 (fnP Try.prog Tlw1 ann_ether_Group Try.f35)
theorem Tlw2_sound : TSound Try.prog Tlw2 := ext_sound Tlw1_sound (fn_row Tlw1_sound mixed Try.func35 (by decide +kernel))
def ann___outrider_admit_gate__is : Nat → List Nat × Nat × List (List Nat)
  | _ => ([], 0, [])
def Tlw3 : Specs := ext Tlw2 39 (fnP Try.prog Tlw2 ann___outrider_admit_gate__is Try.f39)
theorem Tlw3_sound : TSound Try.prog Tlw3 := ext_sound Tlw2_sound (fn_row Tlw2_sound mixed Try.func39 (by decide +kernel))
def ann___outrider_admit_gate__drop : Nat → List Nat × Nat × List (List Nat)
  | _ => ([], 0, [])
def Tlw4 : Specs := ext Tlw3 18 (fnP Try.prog Tlw3 ann___outrider_admit_gate__drop Try.f18)
theorem Tlw4_sound : TSound Try.prog Tlw4 := ext_sound Tlw3_sound (fn_row Tlw3_sound mixed Try.func18 (by decide +kernel))
def ann___outrider_admit_gate__frame : Nat → List Nat × Nat × List (List Nat)
  | 2 => ([], 16, [[], [0], [0, 1], [0, 1, 2], [0, 1, 2, 3], [], [5], [5, 6], [5, 6, 7], [5, 6, 7, 8], [5, 6, 7, 8, 9], [0, 1, 2, 3, 4, 5, 6, 7, 8, 9, 10], [0, 1, 2, 3, 4, 5, 6, 7, 8, 9, 10, 11], [0, 1, 2, 3, 4, 5, 6, 7, 8, 9, 10, 11, 12], [0, 1, 2, 3, 4, 5, 6, 7, 8, 9, 10, 11, 12], []])
  | 3 => ([], 25, [[], [], [1], [1, 2], [1, 2, 3], [1, 2, 3, 4], [0, 1, 2, 3, 4, 5], [0, 1, 2, 3, 4, 5, 6], [0, 1, 2, 3, 4, 5, 6, 7], [0, 1, 2, 3, 4, 5, 6, 7, 8], [0, 1, 2, 3, 4, 5, 6, 7, 8, 9], [0, 1, 2, 3, 4, 5, 6, 7, 8, 9, 10], [0, 1, 2, 3, 4, 5, 6, 7, 8, 9, 10, 11], [0, 1, 2, 3, 4, 5, 6, 7, 8, 9, 10, 11, 12], [0, 1, 2, 3, 4, 5, 6, 7, 8, 9, 10, 11, 12, 13], [0, 1, 2, 3, 4, 5, 6, 7, 8, 9, 10, 11, 12, 13, 14], [0, 1, 2, 3, 4, 5, 6, 7, 8, 9, 10, 11, 12, 13, 14, 15], [0, 1, 2, 3, 4, 5, 6, 7, 8, 9, 10, 11, 12, 13, 14, 15, 16], [0, 1, 2, 3, 4, 5, 6, 7, 8, 9, 10, 11, 12, 13, 14, 15, 16, 17], [0, 1, 2, 3, 4, 5, 6, 7, 8, 9, 10, 11, 12, 13, 14, 15, 16, 17, 18], [0, 1, 2, 3, 4, 5, 6, 7, 8, 9, 10, 11, 12, 13, 14, 15, 16, 17, 18, 19], [0, 1, 2, 3, 4, 5, 6, 7, 8, 9, 10, 11, 12, 13, 14, 15, 16, 17, 18, 19], [0, 1, 2, 3, 4, 5, 6, 7, 8, 9, 10, 11, 12, 13, 14, 15, 16, 17, 18, 19, 20, 21], [0, 1, 2, 3, 4, 5, 6, 7, 8, 9, 10, 11, 12, 13, 14, 15, 16, 17, 18, 19, 20, 21, 22], [0, 1, 2, 3, 4, 5, 6, 7, 8, 9, 10, 11, 12, 13, 14, 15, 16, 17, 18, 19, 20, 21, 22, 23]])
  | 3000002 => ([16], 0, [])
  | _ => ([], 0, [])
def Tlw5 : Specs := ext Tlw4 19 (fnP Try.prog Tlw4 ann___outrider_admit_gate__frame Try.f19)
theorem Tlw5_sound : TSound Try.prog Tlw5 := ext_sound Tlw4_sound (fn_row Tlw4_sound mixed Try.func19 (by decide +kernel))
def ann___outrider_admit_gate__note : Nat → List Nat × Nat × List (List Nat)
  | _ => ([], 0, [])
def Tlw6 : Specs := ext Tlw5 36 (fnP Try.prog Tlw5 ann___outrider_admit_gate__note Try.f36)
theorem Tlw6_sound : TSound Try.prog Tlw6 := ext_sound Tlw5_sound (fn_row Tlw5_sound mixed Try.func36 (by decide +kernel))
def ann___outrider_admit_gate__packet : Nat → List Nat × Nat × List (List Nat)
  | 11 => ([], 7, [[], [0], [0, 1], [], [3], [3, 4], [0, 1, 2, 3, 4, 5]])
  | 2000014 => ([], 21, [[], [0], [0, 1], [0, 1, 2], [0, 1, 2, 3], [0, 1, 2, 3, 4], [0, 1, 2, 3, 4, 5], [0, 1, 2, 3, 4, 5, 6], [0, 1, 2, 3, 4, 5, 6, 7], [0, 1, 2, 3, 4, 5, 6, 7, 8], [0, 1, 2, 3, 4, 5, 6, 7, 8, 9], [0, 1, 2, 3, 4, 5, 6, 7, 8, 9, 10], [0, 1, 2, 3, 4, 5, 6, 7, 8, 9, 10, 11], [0, 1, 2, 3, 4, 5, 6, 7, 8, 9, 10, 11, 12], [0, 1, 2, 3, 4, 5, 6, 7, 8, 9, 10, 11, 12, 13], [0, 1, 2, 3, 4, 5, 6, 7, 8, 9, 10, 11, 12, 13, 14], [0, 1, 2, 3, 4, 5, 6, 7, 8, 9, 10, 11, 12, 13, 14, 15], [0, 1, 2, 3, 4, 5, 6, 7, 8, 9, 10, 11, 12, 13, 14, 15, 16], [0, 1, 2, 3, 4, 5, 6, 7, 8, 9, 10, 11, 12, 13, 14, 15, 16, 17], [0, 1, 2, 3, 4, 5, 6, 7, 8, 9, 10, 11, 12, 13, 14, 15, 16, 17, 18]])
  | _ => ([], 0, [])
def Tlw7 : Specs := ext Tlw6 20 (fnP Try.prog Tlw6 ann___outrider_admit_gate__packet Try.f20)
theorem Tlw7_sound : TSound Try.prog Tlw7 := ext_sound Tlw6_sound (fn_row Tlw6_sound mixed Try.func20 (by decide +kernel))
def ann_admit_Sort : Nat → List Nat × Nat × List (List Nat)
  | 6 => ([6, 9, 30, 31, 32], 0, [])
  | 1000006 => ([], 7, [])
  | _ => ([], 0, [])
def Tlw8 : Specs := ext Tlw7 12 (fnP Try.prog Tlw7 ann_admit_Sort Try.f12)
theorem Tlw8_sound : TSound Try.prog Tlw8 := ext_sound Tlw7_sound (fn_row Tlw7_sound mixed Try.func12 (by decide +kernel))
def ann_admit_Port : Nat → List Nat × Nat × List (List Nat)
  | 2000001 => ([], 10, [[], [0], [0, 1], [0, 1, 2], [0, 1, 2, 3], [0, 1, 2, 3, 4], [0, 1, 2, 3, 4, 5], [0, 1, 2, 3, 4, 5, 6], [0, 1, 2, 3, 4, 5, 6, 7]])
  | _ => ([], 0, [])
def Tlw9 : Specs := ext Tlw8 9 (fnP Try.prog Tlw8 ann_admit_Port Try.f9)
theorem Tlw9_sound : TSound Try.prog Tlw9 := ext_sound Tlw8_sound (fn_row Tlw8_sound mixed Try.func9 (by decide +kernel))
def ann_outriderref20_Port : Nat → List Nat × Nat × List (List Nat)
  | 2000001 => ([], 10, [[], [0], [0, 1], [0, 1, 2], [0, 1, 2, 3], [0, 1, 2, 3, 4], [0, 1, 2, 3, 4, 5], [0, 1, 2, 3, 4, 5, 6], [0, 1, 2, 3, 4, 5, 6, 7]])
  | _ => ([], 0, [])
def Tlw10 : Specs := ext Tlw9 11 (fnP Try.prog Tlw9 ann_outriderref20_Port Try.f11)
theorem Tlw10_sound : TSound Try.prog Tlw10 := ext_sound Tlw9_sound (fn_row Tlw9_sound mixed Try.func11 (by decide +kernel))
def ann_outriderlaw20_alive : Nat → List Nat × Nat × List (List Nat)
  | _ => ([], 0, [])
set_option maxRecDepth 100000 in
theorem alive20_eq  (K : AVal → Hp → Prop) : fnP Try.prog Tlw10 ann_outriderlaw20_alive Try.f8 [] [] K = (
 (42 : Nat) ≤ (140737488355328 : Nat) ∧
 ((0 : Int) ≤ (0 : Int) ∧ (0 : Int) < (6 : Int)) ∧
 ((0 : Int) ≤ (0 : Int) ∧ (0 : Int) < (6 : Int)) ∧
 I64 (1 : Int) ∧
 ((0 : Int) ≤ (1 : Int) ∧ (1 : Int) < (6 : Int)) ∧
 (28 : Nat) ≤ (140737488351232 : Nat) ∧
 ((0 : Int) ≤ (1 : Int) ∧ (1 : Int) = (1 : Int) ∧ (56 : Int) ≤ (140737488355328 : Int)) ∧
 ((0 : Int) ≤ (0 : Int) ∧ (0 : Int) < (1 : Int)) ∧ K (AVal.bool true) []) := by kernel_rfl
theorem outriderlaw20_alive_p : ∀ args H K, trueRow args H K → fnP Try.prog Tlw10 ann_outriderlaw20_alive Try.f8 args H K := by
  intro args H K h
  unfold trueRow at h
  split at h
  · rw [alive20_eq]
    exact ⟨by omega, by omega, by omega, by unfold I64; omega, by omega, by omega, by omega, by omega, h⟩
  · exact h.elim
def Tlw11 : Specs := ext Tlw10 8 (trueRow)
theorem Tlw11_sound : TSound Try.prog Tlw11 := ext_sound Tlw10_sound (row_of Tlw10_sound mixed Try.func8 (by decide +kernel) outriderlaw20_alive_p)
abbrev Tlw : Specs := Tlw11
theorem Tlw_sound : TSound Try.prog Tlw := Tlw11_sound
end Go.Proofs.Ytnbbaemijogeoaa.Ae

