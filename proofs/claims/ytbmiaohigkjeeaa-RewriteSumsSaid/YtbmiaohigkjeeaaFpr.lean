/- Chapter 5's document answers as a table. -/
import Derived.Test.YtbmiaohigkjeeaaFpt
import Derived.Test.YtbmiaohigkjeeaaAeQk
set_option linter.unusedSimpArgs false
set_option linter.unusedVariables false
namespace Go.Proofs.Ytbmiaohigkjeeaa.Ae
open Go

abbrev Tpr1 : Specs := Tpt
theorem Tpr1_sound : TSound Try.prog Tpr1 := Tpt_sound
      
abbrev Tpr2 : Specs := Tpr1
theorem Tpr2_sound : TSound Try.prog Tpr2 := Tpr1_sound
abbrev Tpr3 : Specs := Tpr2
theorem Tpr3_sound : TSound Try.prog Tpr3 := Tpr2_sound
abbrev Tpr4 : Specs := Tpr3
theorem Tpr4_sound : TSound Try.prog Tpr4 := Tpr3_sound
abbrev Tpr : Specs := Tpr4
theorem Tpr_sound : TSound Try.prog Tpr := Tpr4_sound
end Go.Proofs.Ytbmiaohigkjeeaa.Ae

