/- What the functions of package cksum, and of its reference, come to. -/
import Derived.Test.YtnbbaemijogeoaaMem
import Derived.Test.YtnbbaemijogeoaaProg
import Derived.ProofKit
import Derived.BigQuiet
import Derived.Deep.QuietTactic
import Derived.Deep.LoopGhost
namespace Go.Proofs.Ytnbbaemijogeoaa
open Go.RowKit

theorem ret_int {k : IntKind} {a b : Int} (h : a = b) : Ending.returned (.int k a) = .returned (.int k b) := by rw [h]
theorem ret_bool {a b : Bool} (h : a = b) : Ending.returned (.bool a) = .returned (.bool b) := by rw [h]

theorem and_ffff (m : Int) (h0 : 0 ≤ m) (h1 : m < 18446744073709551616) : bits .and .u64 m 65535 = m % 65536 := by
  rw [u64_and m 65535 h0 h1 (by omega) (by omega)]
  rw [show (65535 : Int).toNat = 65535 from rfl, nat_mask16]
  omega

set_option maxHeartbeats 400000 in
theorem fold_c (n : Int) (h0 : 0 ≤ n) (h1 : n < 18446744073709551616) (w : World) :
    Calls Try.prog 90 #[.int .u64 n] w fun e w' => e = .returned (.int .u16 (fld n)) ∧ w = w' := by
  go_enter Try.func90, Try.ntmps90
  go_wp2
  go_loop [0] (fun v => ∃ m : Int, 0 ≤ m ∧ m < 18446744073709551616 ∧ v = .int .u64 m ∧ fld m = fld n) (fun v => (intOf v).toNat)
  case atStart => exact ⟨n, h0, h1, rfl, rfl⟩
  case round =>
    obtain ⟨m, hm0, hm1, rfl, hm⟩ := hrel
    have HM := hid hm
    clear hm
    by_cases hlt : 65535 < m
    · have hb := hid (and_ffff m hm0 hm1)
      go_wp2
      rw [hb.out, IntWalk.u64_in _ (by omega)]
      go_round
      case rel => exact ⟨_, by omega, by omega, rfl, by rw [fld_step _ hlt]; exact HM.out⟩
      case measure => simp [intOf]; omega
    · go_wp2
      go_ret
      refine ⟨ret_int ?_, rfl⟩
      rw [← HM.out, fld_small _ hm0 (by omega)]

set_option maxHeartbeats 400000 in
theorem added_c (n : Int) (h0 : 0 ≤ n) (h1 : n < 9223372036854775808) (w : World) :
    Calls Try.prog 87 #[.int .i64 n] w fun e w' => e = .returned (.int .i64 (fld n)) ∧ w = w' := by
  go_enter Try.func87, Try.ntmps87
  go_wp2
  go_loop [0] (fun v => ∃ m : Int, 0 ≤ m ∧ m < 9223372036854775808 ∧ v = .int .i64 m ∧ fld m = fld n) (fun v => (intOf v).toNat)
  case atStart => exact ⟨n, h0, h1, rfl, rfl⟩
  case round =>
    obtain ⟨m, hm0, hm1, rfl, hm⟩ := hrel
    have HM := hid hm
    clear hm
    by_cases hlt : 65535 < m
    · go_wp2
      go_round
      case rel => exact ⟨_, by omega, by omega, rfl, by rw [fld_step _ hlt]; exact HM.out⟩
      case measure => simp [intOf]; omega
    · go_wp2
      go_ret
      refine ⟨ret_int ?_, rfl⟩
      rw [← HM.out, fld_small _ hm0 (by omega)]

theorem nat_not16 (n : Nat) (h : n < 65536) : n ^^^ 65535 = 65535 - n := by
  apply Nat.eq_of_testBit_eq
  intro i
  have h2 : n < 2 ^ 16 := h
  have e : (65535 : Nat) - n = 2 ^ 16 - (n + 1) := by omega
  rw [e, Nat.testBit_two_pow_sub_succ h2, Nat.testBit_xor]
  rw [show (65535 : Nat) = 2 ^ 16 - 1 from rfl, Nat.testBit_two_pow_sub_one]
  by_cases hi : i < 16
  · simp [hi]
  · have : n.testBit i = false := Nat.testBit_lt_two_pow (Nat.lt_of_lt_of_le h2 (Nat.pow_le_pow_right (by omega) (by omega)))
    simp [hi, this]
theorem not16 (a : Int) (h0 : 0 ≤ a) (h1 : a ≤ 65535) : bits .xor .u16 IntKind.u16.max a = 65535 - a := by
  rw [show IntKind.u16.max = 65535 from by decide, u16_xor 65535 a (by omega) (by omega) h0 (by omega)]
  rw [show (65535 : Int).toNat = 65535 from rfl, Nat.xor_comm, nat_not16 _ (by omega)]
  omega



/-- do two sums count alike? -/
def same (a b : Int) : Bool := decide (a % 65535 = b % 65535)


end Go.Proofs.Ytnbbaemijogeoaa
