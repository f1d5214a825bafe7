/- Chapter 1's functions as a table. -/
import Derived.Test.YtbjolilknkbehaaAeRw
import Derived.Test.YtbjolilknkbehaaAeCk
namespace Go.Proofs.Ytbjolilknkbehaa.Ae
open Go
theorem mixed : Try.prog.follows .mixedOrders = true := by kernel_rfl
def Tck1 : Specs := ext noT 29 (partsRow (fun ls => .bool (sumB ls.flatten == 65535)))
theorem Tck1_sound : TSound Try.prog Tck1 := ext_sound noT_sound ((fun _ _ _ h => good_row h))
def Tck2 : Specs := ext Tck1 17 (partsRow (fun ls => .int .u16 (65535 - sumB ls.flatten)))
theorem Tck2_sound : TSound Try.prog Tck2 := ext_sound Tck1_sound ((fun _ _ _ h => put_row h))
def Tck3 : Specs := ext Tck2 34 (partsRow (fun ls => .int .u16 (sumB ls.flatten)))
theorem Tck3_sound : TSound Try.prog Tck3 := ext_sound Tck2_sound ((fun _ _ _ h => sum_row h))
def Tck4 : Specs := ext Tck3 35 (bytesRow (fun l => .int .i64 (sumB l)))
theorem Tck4_sound : TSound Try.prog Tck4 := ext_sound Tck3_sound ((fun _ _ _ h => refSum_row h))
abbrev Tck5 : Specs := Tck4
theorem Tck5_sound : TSound Try.prog Tck5 := Tck4_sound
abbrev Tck : Specs := Tck5
theorem Tck_sound : TSound Try.prog Tck := Tck5_sound
end Go.Proofs.Ytbjolilknkbehaa.Ae

