/- Chapter 1's functions as a table. -/
import Derived.Test.YtnbbaemijogeoaaAeRw
import Derived.Test.YtnbbaemijogeoaaAeCk
namespace Go.Proofs.Ytnbbaemijogeoaa.Ae
open Go
theorem mixed : Try.prog.follows .mixedOrders = true := by kernel_rfl
def Tck1 : Specs := ext noT 64 (partsRow (fun ls => .bool (sumB ls.flatten == 65535)))
theorem Tck1_sound : TSound Try.prog Tck1 := ext_sound noT_sound ((fun _ _ _ h => good_row h))
abbrev Tck2 : Specs := Tck1
theorem Tck2_sound : TSound Try.prog Tck2 := Tck1_sound
def Tck3 : Specs := ext Tck2 83 (partsRow (fun ls => .int .u16 (sumB ls.flatten)))
theorem Tck3_sound : TSound Try.prog Tck3 := ext_sound Tck2_sound ((fun _ _ _ h => sum_row h))
def Tck4 : Specs := ext Tck3 78 (bytesRow (fun l => .int .i64 (sumB l)))
theorem Tck4_sound : TSound Try.prog Tck4 := ext_sound Tck3_sound ((fun _ _ _ h => refSum_row h))
def ann_outriderref01_Put : Nat → List Nat × Nat × List (List Nat)
  | _ => ([], 0, [])
def Tck5 : Specs := ext Tck4 50 (fnP Try.prog Tck4 ann_outriderref01_Put Try.f50)
theorem Tck5_sound : TSound Try.prog Tck5 := ext_sound Tck4_sound (fn_row Tck4_sound mixed Try.func50 (by decide +kernel))
abbrev Tck : Specs := Tck5
theorem Tck_sound : TSound Try.prog Tck := Tck5_sound
end Go.Proofs.Ytnbbaemijogeoaa.Ae

