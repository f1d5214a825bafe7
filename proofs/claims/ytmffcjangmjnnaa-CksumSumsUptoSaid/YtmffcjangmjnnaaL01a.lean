/- 'alive' of the statements of layer 1. -/
import Derived.Test.YtmffcjangmjnnaaCk2
import Derived.Test.YtmffcjangmjnnaaFrame
namespace Go.Proofs.Ytmffcjangmjnnaa
open Go.RowKit
set_option maxHeartbeats 1000000 in
theorem alive_c (w : World) : Calls Try.prog 13 #[] w fun e w' => e = .returned (.bool true) ∧ Below w.heap.size w w' := by
  have e3 : upd 8717 61955 61956 = 8716 := by decide +kernel
  go_enter Try.func13, Try.ntmps13
  go_wp2_with fail
  refine (sum_is _ _ _ [[0, 1, 0xf2, 3, 0xf4, 0xf5, 0xf6, 0xf7]] 56818 _ (by decide +kernel) (Parts.one (Bytes.new _ _ _ _ _ _ rfl (by rfl) (by rfl) (by decide)) _ (by simp)) (by omega) (by decide)).mono ?_
  rintro e w' ⟨rfl, rfl⟩
  go_wp2_with fail
  refine (put_is _ _ _ [[0, 1, 0xf2, 3, 0xf4, 0xf5, 0xf6, 0xf7]] 8717 _ (by decide +kernel) (Parts.one ((Bytes.new _ _ _ _ _ _ rfl (by rfl) (by rfl) (by decide)).alloc _) _ (by simp)) (by omega) (by decide)).mono ?_
  rintro e w' ⟨rfl, rfl⟩
  go_wp2_with fail
  refine (update_c _ _ _ (by omega) (by omega) (by omega) _).mono ?_
  rintro e w' ⟨rfl, rfl⟩
  go_wp2_with fail
  refine (sum_is _ _ _ [[1]] 256 _ (by decide +kernel) (Parts.one (Bytes.new _ _ _ _ _ _ (by simp) (by rfl) (by rfl) (by decide)) _ (by simp)) (by omega) (by decide)).mono ?_
  rintro e w' ⟨rfl, rfl⟩
  go_wp2_with fail
  go_ret
  refine ⟨rfl, ?_⟩
  repeat (first | exact Below.refl _ _ | (refine Below.alloc ?_ (by simp <;> omega) _))

end Go.Proofs.Ytmffcjangmjnnaa
