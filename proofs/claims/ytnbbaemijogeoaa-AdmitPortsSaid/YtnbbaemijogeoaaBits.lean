/- Two bytes as one number. No program in sight. -/
import Derived.Test.YtnbbaemijogeoaaMem
import Derived.Laws.BitsAllLaws
namespace Go.Proofs.Ytnbbaemijogeoaa
open Go.RowKit

theorem or_256 (x y : Nat) (hy : y < 256) : x * 256 ||| y = x * 256 + y := by
  have h := Nat.two_pow_add_eq_or_of_lt (i := 8) (b := y) hy x
  rw [show 2 ^ 8 * x = x * 256 by omega] at h
  exact h.symm

theorem i64_or_nat (a b : Nat) (ha : a < 9223372036854775808) (hb : b < 9223372036854775808) : bits .or .i64 (a : Int) (b : Int) = ((a ||| b : Nat) : Int) := by
  have hx : a ||| b < 2 ^ 63 := Nat.or_lt_two_pow (by omega) (by omega)
  have h : ∀ n : Nat, n < 9223372036854775808 → (BitVec.ofInt 64 (n : Int)).toNat = n := fun n hn => by
    rw [BitVec.ofInt_natCast, BitVec.toNat_ofNat]; exact Nat.mod_eq_of_lt (by omega)
  show IntKind.i64.wrap ((BitVec.ofInt 64 (a : Int) ||| BitVec.ofInt 64 (b : Int)).toNat : Int) = _
  rw [BitVec.toNat_or, h a ha, h b hb, IntKind.wrap_i64]
  omega

theorem or_two (x y : UInt8) : bits BinOp.or IntKind.i64 (wrap64 (wrap64 (x.toNat : Int) * 256)) (wrap64 (y.toNat : Int)) = ((x.toNat * 256 + y.toNat : Nat) : Int) := by
  have hx := x.toNat_lt
  have hy := y.toNat_lt
  have e1 : wrap64 (x.toNat : Int) = (x.toNat : Int) := by unfold wrap64; omega
  have e2 : wrap64 ((x.toNat : Int) * 256) = ((x.toNat * 256 : Nat) : Int) := by unfold wrap64; omega
  have e3 : wrap64 (y.toNat : Int) = (y.toNat : Int) := by unfold wrap64; omega
  rw [e1, e2, e3, i64_or_nat _ _ (by omega) (by omega), or_256 _ _ hy]
theorem add_two (x y : UInt8) : wrap64 (wrap64 (wrap64 (x.toNat : Int) * 256) + wrap64 (y.toNat : Int)) = ((x.toNat * 256 + y.toNat : Nat) : Int) := by
  have hx := x.toNat_lt
  have hy := y.toNat_lt
  unfold wrap64
  omega
end Go.Proofs.Ytnbbaemijogeoaa
