/- Conditions that are known: the text shrinks ahead of the walk. -/
import Derived.Test.YtnbbaemijogeoaaAeRw
namespace Go.Proofs.Ytnbbaemijogeoaa.Ae
open Go
theorem brP_t (x y : Prop) : brP true x y = x := rfl
theorem brP_f (x y : Prop) : brP false x y = y := rfl
theorem impP_t (p : Prop) : impP true p = p := by unfold impP; simp
theorem impP_f (p : Prop) : impP false p = True := by unfold impP; simp
end Go.Proofs.Ytnbbaemijogeoaa.Ae
