/- Numbers, lists of bytes: normal forms. No program in sight. -/
import Derived.Test.YtnbbaemijogeoaaAeRw
import Derived.Test.YtnbbaemijogeoaaBits
import Derived.Laws.BitsAllLaws
set_option linter.unusedSimpArgs false
set_option linter.unusedVariables false
namespace Go.Proofs.Ytnbbaemijogeoaa
def w16 (a b : UInt8) : Int := (a.toNat : Int) * 256 + (b.toNat : Int)
theorem w16_bd (a b : UInt8) : 0 ≤ w16 a b ∧ w16 a b ≤ 65535 := by
  have := a.toNat_lt
  have := b.toNat_lt
  unfold w16; omega
namespace Ae
open Go

theorem or_w16 (x y : UInt8) : bits BinOp.or IntKind.i64 ((x.toNat : Int) * 256) (y.toNat : Int) = w16 x y := by
  have hx := x.toNat_lt
  have hy := y.toNat_lt
  rw [show ((x.toNat : Int) * 256) = ((x.toNat * 256 : Nat) : Int) by omega, i64_or_nat _ _ (by omega) (by omega), or_256 _ _ hy]
  unfold w16; omega
theorem add_w16 (x y : UInt8) : (x.toNat : Int) * 256 + (y.toNat : Int) = w16 x y := rfl
theorem i64_w16 (x y : UInt8) : I64 (w16 x y) := by
  have := w16_bd x y
  unfold I64; omega
theorem i64_w16' (x y : UInt8) (n : Int) (h : 0 ≤ n ∧ n ≤ 100000000) : I64 (n + w16 x y) := by
  have := w16_bd x y
  unfold I64; omega
theorem div2 (n : Int) : n / 256 / 256 = n / 65536 := by omega
theorem div3 (n : Int) : n / 65536 / 256 = n / 16777216 := by omega
theorem i64_sum (l : List UInt8) : I64 (65535 - sumB l) := by
  have := sumB_bd l
  unfold I64; omega
theorem ofNat_div (x y : UInt8) (n : Nat) : (UInt8.ofNat (x.toNat / n) = y) ↔ x.toNat / n = y.toNat := by
  have hx := x.toNat_lt
  have h2 : x.toNat / n ≤ x.toNat := Nat.div_le_self _ _
  rw [← UInt8.toNat_inj, UInt8.toNat_ofNat_of_lt' (show x.toNat / n < 256 by omega)]
theorem u8_and15 (x y : UInt8) : (x &&& 15 = y) ↔ x.toNat % 16 = y.toNat := by
  rw [← UInt8.toNat_inj, UInt8.toNat_and, show (15 : UInt8).toNat = 15 by rfl, nat_mask4]
theorem i64_x256 (x : UInt8) : I64 ((x.toNat : Int) * 256) := by
  have := x.toNat_lt
  unfold I64; omega
theorem getD_drop (l : List UInt8) (n i : Nat) (d : UInt8) : (l.drop n).getD i d = l.getD (n + i) d := by
  simp [List.getD_eq_getElem?_getD, List.getElem?_drop]
theorem getD_take (l : List UInt8) (n i : Nat) (d : UInt8) (h : i < n) : (l.take n).getD i d = l.getD i d := by
  simp [List.getD_eq_getElem?_getD, List.getElem?_take, h]
theorem nat_andNot_i64 (a b : Nat) (ha : a < 9223372036854775808) (hb : b < 9223372036854775808) : bits BinOp.andNot IntKind.i64 (a : Int) (b : Int) = ((a &&& (18446744073709551615 - b) : Nat) : Int) := by
  have h : ∀ n : Nat, n < 9223372036854775808 → (BitVec.ofInt 64 (n : Int)).toNat = n := fun n hn => by
    rw [BitVec.ofInt_natCast, BitVec.toNat_ofNat]; exact Nat.mod_eq_of_lt (by omega)
  have hx : a &&& (18446744073709551615 - b) ≤ a := Nat.and_le_left
  show IntKind.i64.wrap ((BitVec.ofInt 64 (a : Int) &&& ~~~ BitVec.ofInt 64 (b : Int)).toNat : Int) = _
  rw [BitVec.toNat_and, BitVec.toNat_not, h a ha, h b hb, IntKind.wrap_i64]
  simp only [show 2 ^ 64 - 1 - b = 18446744073709551615 - b by omega]
  omega
theorem andNot_4000 (x y : UInt8) : bits BinOp.andNot IntKind.i64 (w16 x y) 16384 = 0 ↔ y = 0 ∧ (x = 0 ∨ x = 64) := by
  have hx := x.toNat_lt
  have hy := y.toNat_lt
  have e : w16 x y = ((x.toNat * 256 + y.toNat : Nat) : Int) := by unfold w16; omega
  rw [e, show (16384 : Int) = ((16384 : Nat) : Int) by rfl, nat_andNot_i64 _ _ (by omega) (by omega)]
  generalize hw : x.toNat * 256 + y.toNat = w
  have m1 : (w &&& (18446744073709551615 - 16384)) % 2 ^ 8 = (w % 2 ^ 8) &&& ((18446744073709551615 - 16384) % 2 ^ 8) := Nat.and_mod_two_pow
  have m2 : (w &&& (18446744073709551615 - 16384)) / 2 ^ 8 = (w / 2 ^ 8) &&& ((18446744073709551615 - 16384) / 2 ^ 8) := Nat.and_div_two_pow
  rw [show w % 2 ^ 8 = y.toNat by omega, show (18446744073709551615 - 16384) % 2 ^ 8 = 255 by rfl, nat_mask8] at m1
  rw [show w / 2 ^ 8 = x.toNat by omega, show (18446744073709551615 - 16384) / 2 ^ 8 = 72057594037927871 by rfl] at m2
  have m3 : ∀ z : Nat, z < 256 → (z &&& 72057594037927871 = 0 ↔ z = 0 ∨ z = 64) := by decide +kernel
  have m4 := m3 x.toNat hx
  have u1 : y = 0 ↔ y.toNat = 0 := ⟨fun h => by rw [h]; rfl, fun h => UInt8.toNat_inj.1 h⟩
  have u2 : x = 0 ↔ x.toNat = 0 := ⟨fun h => by rw [h]; rfl, fun h => UInt8.toNat_inj.1 h⟩
  have u3 : x = 64 ↔ x.toNat = 64 := ⟨fun h => by rw [h]; rfl, fun h => UInt8.toNat_inj.1 h⟩
  rw [u1, u2, u3, ← m4, ← m2]
  generalize w &&& (18446744073709551615 - 16384) = v at *
  omega
theorem and255 (n : Int) : bits BinOp.and IntKind.i64 n 255 = n % 256 := by
  show IntKind.i64.wrap ((BitVec.ofInt 64 n &&& BitVec.ofInt 64 255).toNat : Int) = _
  rw [BitVec.toNat_and, BitVec.toNat_ofInt, show (BitVec.ofInt 64 255).toNat = 255 by rfl, nat_mask8, IntKind.wrap_i64]
  omega
theorem b8_mod (n : Int) : b8 (n % 256) = b8 n := by
  unfold b8
  rw [Int.emod_emod_of_dvd _ (by omega)]
theorem b8_byte (x : UInt8) : b8 (x.toNat : Int) = x := by
  have := x.toNat_lt
  unfold b8
  rw [show (((x.toNat : Int) % 256).toNat) = x.toNat by omega]
  simp
theorem b8_toNat (n : Int) : ((b8 n).toNat : Int) = n % 256 := by
  unfold b8
  have h1 : 0 ≤ n % 256 := by omega
  have h2 : (n % 256).toNat < 256 := by omega
  rw [UInt8.toNat_ofNat_of_lt' h2]; omega
theorem b8_toNatN (n : Int) : (b8 n).toNat = (n % 256).toNat := by
  have := b8_toNat n
  omega
theorem b8_div (x y : UInt8) (n : Int) (hn : 0 < n) : (b8 ((x.toNat : Int) / n) = y) ↔ (x.toNat : Int) / n = (y.toNat : Int) := by
  have h1 := b8_toNat ((x.toNat : Int) / n)
  have hx := x.toNat_lt
  have h2 : 0 ≤ (x.toNat : Int) / n := Int.ediv_nonneg (by omega) (by omega)
  have h3 : (x.toNat : Int) / n ≤ x.toNat := Int.ediv_le_self _ (by omega)
  rw [← UInt8.toNat_inj]
  generalize b8 ((x.toNat : Int) / n) = z at *
  omega
theorem nat_240 (x : UInt8) : x.toNat &&& 240 = x.toNat / 16 * 16 := by
  have h : ∀ n : Nat, n < 256 → n &&& 240 = n / 16 * 16 := by decide +kernel
  exact h _ x.toNat_lt
theorem dtd (b : List UInt8) (a c k : Nat) : List.drop a (List.take c (List.drop k b)) = List.drop (k + a) (List.take (k + c) b) := by
  rw [List.take_drop, List.drop_drop]
theorem u8_eq_iff (x y : UInt8) : x = y ↔ x.toNat = y.toNat := UInt8.toNat_inj.symm
theorem u8_and_toNat (x y : UInt8) : (x &&& y).toNat = x.toNat &&& y.toNat := UInt8.toNat_and x y
end Ae
end Go.Proofs.Ytnbbaemijogeoaa
