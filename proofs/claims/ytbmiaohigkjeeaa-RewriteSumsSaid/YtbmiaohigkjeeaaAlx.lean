/- Chapter 19: that the program is alive. -/
import Derived.Test.YtbmiaohigkjeeaaFrx
import Derived.Test.YtbmiaohigkjeeaaAeAr
import Derived.Test.YtbmiaohigkjeeaaAeQk
set_option linter.unusedSimpArgs false
set_option linter.unusedVariables false
namespace Go.Proofs.Ytbmiaohigkjeeaa.Ae
open Go
def trueRow : Srow := fun args H K => match args, H with
  | [], [] => K (.bool true) []
  | _, _ => False
def ann_outriderlaw19_packet : Nat → List Nat × Nat × List (List Nat)
  | _ => ([], 0, [])
def Tlx1 : Specs := ext Trx 25 (fnP Try.prog Trx ann_outriderlaw19_packet Try.f25)
theorem Tlx1_sound : TSound Try.prog Tlx1 := ext_sound Trx_sound (fn_row Trx_sound mixed Try.func25 (by decide +kernel))
def ann_outriderlaw19_alive : Nat → List Nat × Nat × List (List Nat)
  | 2000004 => ([], 26, [[], [0], [0, 1], [0, 1, 2], [0, 1, 2, 3], [0, 1, 2, 3, 4], [0, 1, 2, 3, 4, 5], [0, 1, 2, 3, 4, 5, 6], [0, 1, 2, 3, 4, 5, 6, 7], [0, 1, 2, 3, 4, 5, 6, 7, 8], [0, 1, 2, 3, 4, 5, 6, 7, 8, 9], [0, 1, 2, 3, 4, 5, 6, 7, 8, 9, 10], [0, 1, 2, 3, 4, 5, 6, 7, 8, 9, 10, 11], [0, 1, 2, 3, 4, 5, 6, 7, 8, 9, 10, 11, 12], [0, 1, 2, 3, 4, 5, 6, 7, 8, 9, 10, 11, 12, 13], [0, 1, 2, 3, 4, 5, 6, 7, 8, 9, 10, 11, 12, 13, 14], [0, 1, 2, 3, 4, 5, 6, 7, 8, 9, 10, 11, 12, 13, 14, 15], [0, 1, 2, 3, 4, 5, 6, 7, 8, 9, 10, 11, 12, 13, 14, 15, 16], [0, 1, 2, 3, 4, 5, 6, 7, 8, 9, 10, 11, 12, 13, 14, 15, 16, 17], [0, 1, 2, 3, 4, 5, 6, 7, 8, 9, 10, 11, 12, 13, 14, 15, 16, 17, 18], [0, 1, 2, 3, 4, 5, 6, 7, 8, 9, 10, 11, 12, 13, 14, 15, 16, 17, 18, 19], [0, 1, 2, 3, 4, 5, 6, 7, 8, 9, 10, 11, 12, 13, 14, 15, 16, 17, 18, 19, 20], [0, 1, 2, 3, 4, 5, 6, 7, 8, 9, 10, 11, 12, 13, 14, 15, 16, 17, 18, 19, 20, 21], [0, 1, 2, 3, 4, 5, 6, 7, 8, 9, 10, 11, 12, 13, 14, 15, 16, 17, 18, 19, 20, 21, 22], [0, 1, 2, 3, 4, 5, 6, 7, 8, 9, 10, 11, 12, 13, 14, 15, 16, 17, 18, 19, 20, 21, 22, 23]])
  | _ => ([], 0, [])
set_option maxRecDepth 100000 in
theorem alive19x_eq  (K : AVal → Hp → Prop) : fnP Try.prog Tlx1 ann_outriderlaw19_alive Try.f9 [] [] K = (
 (1 : Nat) ≤ (140737488351232 : Nat) ∧
 (21 : Nat) ≤ (140737488351232 : Nat) ∧ I64 (64 : Int) ∧ (21 : Nat) ≤ (140737488351232 : Nat) ∧ K (AVal.bool true) []) := by kernel_rfl
theorem outriderlaw19_alive_p : ∀ args H K, trueRow args H K → fnP Try.prog Tlx1 ann_outriderlaw19_alive Try.f9 args H K := by
  intro args H K h
  unfold trueRow at h
  split at h
  · rw [alive19x_eq]; exact ⟨by omega, by omega, by unfold I64; omega, by omega, h⟩
  · exact h.elim
def Tlx2 : Specs := ext Tlx1 9 (trueRow)
theorem Tlx2_sound : TSound Try.prog Tlx2 := ext_sound Tlx1_sound (row_of Tlx1_sound mixed Try.func9 (by decide +kernel) outriderlaw19_alive_p)
abbrev Tlx : Specs := Tlx2
theorem Tlx_sound : TSound Try.prog Tlx := Tlx2_sound
end Go.Proofs.Ytbmiaohigkjeeaa.Ae

