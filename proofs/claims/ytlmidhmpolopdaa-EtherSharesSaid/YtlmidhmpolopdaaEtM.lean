/- Contract of ether.Many at a group's address of four bytes. -/
import Derived.Test.YtlmidhmpolopdaaEtA
import Derived.Test.YtlmidhmpolopdaaEqM
import Derived.RegionTactic
import Derived.ChangeAlike
namespace Go.Proofs.Ytlmidhmpolopdaa
open Go.RowKit

theorem and_240 (x : UInt8) (h1 : 224 ≤ x.toNat) (h2 : x.toNat ≤ 239) : bits BinOp.and IntKind.u8 (x.toNat : Int) 240 = 224 := by
  have h : ∀ k : Fin 16, bits BinOp.and IntKind.u8 ((224 + k.val : Nat) : Int) 240 = 224 := by decide +kernel
  have := h ⟨x.toNat - 224, by omega⟩
  rwa [show 224 + (x.toNat - 224) = x.toNat by omega] at this
theorem and_127 (x : UInt8) : bits BinOp.and IntKind.u8 (x.toNat : Int) 127 = (x.toNat : Int) % 128 := by
  have h : ∀ k : Fin 256, bits BinOp.and IntKind.u8 ((k.val : Nat) : Int) 127 = ((k.val : Nat) : Int) % 128 := by decide +kernel
  exact h ⟨x.toNat, x.toNat_lt⟩

set_option maxHeartbeats 1000000 in
theorem many_four (a b c d : UInt8) (w : World) (h1 : 224 ≤ a.toNat) (h2 : a.toNat ≤ 239) :
    Calls Try.prog 14 #[.string ⟨#[a, b, c, d]⟩] w fun x w' => x = .returned (.tuple #[.agg #[.int .u8 1, .int .u8 0, .int .u8 94, .int .u8 ((b.toNat : Int) % 128), .int .u8 (c.toNat : Int), .int .u8 (d.toNat : Int)], .bool true]) ∧ Ext w w' := by
  have e1 := and_240 a h1 h2
  have e2 := and_127 b
  have z : (⟨#[a, b, c, d]⟩ : ByteArray).size = 4 := rfl
  have g0 : ∀ h, (⟨#[a, b, c, d]⟩ : ByteArray)[0]'h = a := fun _ => rfl
  have g1 : ∀ h, (⟨#[a, b, c, d]⟩ : ByteArray)[1]'h = b := fun _ => rfl
  have g2 : ∀ h, (⟨#[a, b, c, d]⟩ : ByteArray)[2]'h = c := fun _ => rfl
  have g3 : ∀ h, (⟨#[a, b, c, d]⟩ : ByteArray)[3]'h = d := fun _ => rfl
  generalize (⟨#[a, b, c, d]⟩ : ByteArray) = S at *
  go_enter Try.func14, Try.ntmps14
  go_wp2_with fail
  go_region
  go_wp2_with fail
  go_region
  go_wp2
  exact bodyPost_ret (by rw [results_cell_tmp rfl]; go_simp) rfl ⟨rfl, ((((Ext.refl w).alloc _).alloc _).drew).drew⟩
end Go.Proofs.Ytlmidhmpolopdaa
