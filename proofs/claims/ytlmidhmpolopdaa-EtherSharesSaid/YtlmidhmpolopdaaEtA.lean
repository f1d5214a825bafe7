/- Contracts of chapter 2's small functions. -/
import Derived.Test.YtlmidhmpolopdaaMem
import Derived.Test.YtlmidhmpolopdaaProg
import Derived.ProofKit
import Derived.BigQuiet
import Derived.Deep.QuietTactic
import Derived.Deep.LoopGhost
import Derived.Laws.ResultCell
import Derived.Laws.Rows
namespace Go.Proofs.Ytlmidhmpolopdaa
open Go.RowKit


theorem and_one (a : Int) (h1 : 0 ≤ a) (h2 : a ≤ 255) : bits BinOp.and IntKind.u8 a 1 = a % 2 := by
  have h : ∀ k : Fin 256, bits BinOp.and IntKind.u8 ((k.val : Nat) : Int) 1 = ((k.val : Nat) : Int) % 2 := by decide +kernel
  obtain ⟨n, rfl⟩ := Int.eq_ofNat_of_zero_le h1
  exact h ⟨n, by omega⟩

theorem virtual_no (id : Int) (six : Bool) (w : World) (h : id < 1 ∨ 255 < id) : Calls Try.prog 13 #[.int .i64 id, .bool six] w fun e w' => e = .returned (.tuple #[.agg #[.int .u8 0, .int .u8 0, .int .u8 0, .int .u8 0, .int .u8 0, .int .u8 0], .bool false]) ∧ Ext w w' := by
  have hx : ∀ o : Obj, Ext w (w.alloc o) := fun o => below_alloc w o
  by_cases h1 : id < 1
  · clear h
    go_enter Try.func13, Try.ntmps13
    go_wp2
    exact bodyPost_ret (by rw [results_cell_tmp rfl]; go_simp) rfl ⟨rfl, hx _⟩
  · have h2 : 255 < id := by omega
    clear h
    go_enter Try.func13, Try.ntmps13
    go_wp2
    exact bodyPost_ret (by rw [results_cell_tmp rfl]; go_simp) rfl ⟨rfl, hx _⟩

theorem virtual_yes (id : Int) (six : Bool) (w : World) (h1 : 1 ≤ id) (h2 : id ≤ 255) : Calls Try.prog 13 #[.int .i64 id, .bool six] w fun e w' => e = .returned (.tuple #[.agg #[.int .u8 0, .int .u8 0, .int .u8 94, .int .u8 0, .int .u8 (if six then 2 else 1), .int .u8 id], .bool true]) ∧ Ext w w' := by
  have q1 : (id < 1) = False := by simp; omega
  have q2 : (255 < id) = False := by simp; omega
  go_enter Try.func13, Try.ntmps13
  go_wp2
  all_goals subst_vars
  all_goals first
    | exact bodyPost_ret (by rw [results_cell_tmp rfl]; go_simp) rfl ⟨rfl, ((Ext.refl w).alloc _).alloc _⟩
    | exact bodyPost_ret (by rw [results_cell_tmp rfl]; go_simp) rfl ⟨rfl, (Ext.refl w).alloc _⟩
    | trace_state

theorem refVirtual_no (id : Int) (six : Bool) (w : World) (h : id < 1 ∨ 255 < id) : Calls Try.prog 17 #[.int .i64 id, .bool six] w fun e w' => e = .returned (.tuple #[.agg #[.int .u8 0, .int .u8 0, .int .u8 0, .int .u8 0, .int .u8 0, .int .u8 0], .bool false]) ∧ Ext w w' := by
  have hx : ∀ o : Obj, Ext w (w.alloc o) := fun o => below_alloc w o
  by_cases h1 : id < 1
  · clear h
    go_enter Try.func17, Try.ntmps17
    go_wp2
    exact bodyPost_ret (by rw [results_cell_tmp rfl]; go_simp) rfl ⟨rfl, hx _⟩
  · have h2 : 255 < id := by omega
    clear h
    go_enter Try.func17, Try.ntmps17
    go_wp2
    exact bodyPost_ret (by rw [results_cell_tmp rfl]; go_simp) rfl ⟨rfl, hx _⟩

theorem refVirtual_yes (id : Int) (six : Bool) (w : World) (h1 : 1 ≤ id) (h2 : id ≤ 255) : Calls Try.prog 17 #[.int .i64 id, .bool six] w fun e w' => e = .returned (.tuple #[.agg #[.int .u8 0, .int .u8 0, .int .u8 94, .int .u8 0, .int .u8 (if six then 2 else 1), .int .u8 id], .bool true]) ∧ Ext w w' := by
  have q1 : (id < 1) = False := by simp; omega
  have q2 : (255 < id) = False := by simp; omega
  go_enter Try.func17, Try.ntmps17
  go_wp2
  all_goals subst_vars
  all_goals first
    | exact bodyPost_ret (by rw [results_cell_tmp rfl]; go_simp) rfl ⟨rfl, ((Ext.refl w).alloc _).alloc _⟩
    | exact bodyPost_ret (by rw [results_cell_tmp rfl]; go_simp) rfl ⟨rfl, (Ext.refl w).alloc _⟩
    | trace_state

theorem group_c (a b c d e f : Int) (ha : 0 ≤ a ∧ a ≤ 255) (w : World) : Calls Try.prog 18 #[.agg #[.int .u8 a, .int .u8 b, .int .u8 c, .int .u8 d, .int .u8 e, .int .u8 f]] w fun r w' => r = .returned (.bool (a % 2 == 1)) ∧ Ext w w' := by
  go_enter Try.func18, Try.ntmps18
  have e1 : bits BinOp.and IntKind.u8 a 1 = a % 2 := and_one a ha.1 ha.2
  go_wp2
  go_ret
  exact ⟨rfl, (Ext.refl w).alloc _⟩

theorem refGroup_c (a b c d e f : Int) (ha : 0 ≤ a ∧ a ≤ 255) (w : World) : Calls Try.prog 20 #[.agg #[.int .u8 a, .int .u8 b, .int .u8 c, .int .u8 d, .int .u8 e, .int .u8 f]] w fun r w' => r = .returned (.bool (a % 2 == 1)) ∧ Ext w w' := by
  go_enter Try.func20, Try.ntmps20
  have e1 : bits BinOp.and IntKind.u8 a 1 = a % 2 := and_one a ha.1 ha.2
  go_wp2
  go_ret
  exact ⟨rfl, (Ext.refl w).alloc _⟩

theorem all_c (w : World) : Calls Try.prog 21 #[] w fun r w' => r = .returned (.agg #[.int .u8 255, .int .u8 255, .int .u8 255, .int .u8 255, .int .u8 255, .int .u8 255]) ∧ Ext w w' := by
  go_enter Try.func21, Try.ntmps21
  go_wp2
  exact bodyPost_ret (by rw [results_cell1 rfl]; go_simp) rfl ⟨rfl, (Ext.refl w).alloc _⟩

end Go.Proofs.Ytlmidhmpolopdaa
