/- AdmitPorts: where any backend of any service is asked is what the document says. No conditions. -/
import Derived.Test.YtnbbaemijogeoaaAr
set_option linter.unusedSimpArgs false
set_option linter.unusedVariables false
set_option maxRecDepth 100000
namespace Go.Proofs.Ytnbbaemijogeoaa.Ae
open Go Go.RowKit
def ann_outriderlaw20_AdmitPorts : Nat → List Nat × Nat × List (List Nat)
  | 3 => ([], 19, [[0, 3, 9, 16], [], [0], [0, 1], [0, 1, 2], [0, 1, 2, 3], [0, 1], [0, 1, 2, 3, 4, 5], [0, 1, 2, 3, 4, 5, 6], [0, 1], [0, 1, 2, 3, 4, 5, 6, 7, 8], [0, 1], [0, 1, 10], [0, 1], [0, 1, 10, 11, 12], [0, 1, 10, 11, 12, 13], [0, 1], [0, 1, 2, 3, 4, 5, 6, 7, 8, 9, 10, 11, 12, 13, 14, 15], [0, 1, 2, 3, 4, 5, 6, 7, 8, 9, 10, 11, 12, 13, 14, 15, 16], [0, 1, 2, 3, 4, 5, 6, 7, 8, 9, 10, 11, 12, 13, 14, 15, 16, 17]])
  | _ => ([], 0, [])
set_option maxRecDepth 100000 in
theorem AdmitPorts_eq (c : CfV) (k i : Int) (K : AVal → Hp → Prop) : fnP Try.prog Tlw ann_outriderlaw20_AdmitPorts Try.f3 [.agg (cfCells c), .int .i64 k, .int .i64 i] [] K = (
 brP (decide (k < (0 : Int))) (K (AVal.bool true) [])
 (brP (decide ((↑(List.length c.svs) : Int) ≤ k)) (K (AVal.bool true) [])
 (IsCf
 [AVal.byte c.mac.b0, AVal.byte c.mac.b1, AVal.byte c.mac.b2, AVal.byte c.mac.b3, AVal.byte c.mac.b4,
 AVal.byte c.mac.b5, AVal.str c.addr, AVal.str c.peer, AVal.int IntKind.i64 c.id, AVal.int IntKind.i64 c.pri,
 AVal.int IntKind.i64 c.every, AVal.bool c.pre,
 AVal.ro (List.length c.vips) (1 : Nat) fun i => [AVal.str (List.getD c.vips i [])],
 AVal.ro (List.length c.trs) (2 : Nat) fun i =>
 [AVal.str (List.getD c.trs i tr0).name, AVal.int IntKind.i64 (List.getD c.trs i tr0).weight],
 AVal.ro (List.length c.svs) (10 : Nat) fun i =>
 [AVal.str (List.getD c.svs i sv0).name, AVal.str (List.getD c.svs i sv0).vip,
 AVal.int IntKind.i64 (List.getD c.svs i sv0).proto, AVal.int IntKind.i64 (List.getD c.svs i sv0).port,
 AVal.int IntKind.i64 (List.getD c.svs i sv0).mode, AVal.int IntKind.i64 (List.getD c.svs i sv0).sched,
 AVal.int IntKind.i64 (List.getD c.svs i sv0).rise, AVal.int IntKind.i64 (List.getD c.svs i sv0).fall,
 AVal.int IntKind.i64 (List.getD c.svs i sv0).probe,
 AVal.ro (List.length (List.getD c.svs i sv0).bks) (10 : Nat) fun i_1 =>
 [AVal.str (List.getD (List.getD c.svs i sv0).bks i_1 bk0).name,
 AVal.str (List.getD (List.getD c.svs i sv0).bks i_1 bk0).addr,
 AVal.byte (List.getD (List.getD c.svs i sv0).bks i_1 bk0).mac.b0,
 AVal.byte (List.getD (List.getD c.svs i sv0).bks i_1 bk0).mac.b1,
 AVal.byte (List.getD (List.getD c.svs i sv0).bks i_1 bk0).mac.b2,
 AVal.byte (List.getD (List.getD c.svs i sv0).bks i_1 bk0).mac.b3,
 AVal.byte (List.getD (List.getD c.svs i sv0).bks i_1 bk0).mac.b4,
 AVal.byte (List.getD (List.getD c.svs i sv0).bks i_1 bk0).mac.b5,
 AVal.int IntKind.i64 (List.getD (List.getD c.svs i sv0).bks i_1 bk0).port,
 AVal.int IntKind.i64 (List.getD (List.getD c.svs i sv0).bks i_1 bk0).weight]]] ∧
 brP
 (!fewB
 [AVal.byte c.mac.b0, AVal.byte c.mac.b1, AVal.byte c.mac.b2, AVal.byte c.mac.b3, AVal.byte c.mac.b4,
 AVal.byte c.mac.b5, AVal.str c.addr, AVal.str c.peer, AVal.int IntKind.i64 c.id, AVal.int IntKind.i64 c.pri,
 AVal.int IntKind.i64 c.every, AVal.bool c.pre,
 AVal.ro (List.length c.vips) (1 : Nat) fun i => [AVal.str (List.getD c.vips i [])],
 AVal.ro (List.length c.trs) (2 : Nat) fun i =>
 [AVal.str (List.getD c.trs i tr0).name, AVal.int IntKind.i64 (List.getD c.trs i tr0).weight],
 AVal.ro (List.length c.svs) (10 : Nat) fun i =>
 [AVal.str (List.getD c.svs i sv0).name, AVal.str (List.getD c.svs i sv0).vip,
 AVal.int IntKind.i64 (List.getD c.svs i sv0).proto, AVal.int IntKind.i64 (List.getD c.svs i sv0).port,
 AVal.int IntKind.i64 (List.getD c.svs i sv0).mode, AVal.int IntKind.i64 (List.getD c.svs i sv0).sched,
 AVal.int IntKind.i64 (List.getD c.svs i sv0).rise, AVal.int IntKind.i64 (List.getD c.svs i sv0).fall,
 AVal.int IntKind.i64 (List.getD c.svs i sv0).probe,
 AVal.ro (List.length (List.getD c.svs i sv0).bks) (10 : Nat) fun i_1 =>
 [AVal.str (List.getD (List.getD c.svs i sv0).bks i_1 bk0).name,
 AVal.str (List.getD (List.getD c.svs i sv0).bks i_1 bk0).addr,
 AVal.byte (List.getD (List.getD c.svs i sv0).bks i_1 bk0).mac.b0,
 AVal.byte (List.getD (List.getD c.svs i sv0).bks i_1 bk0).mac.b1,
 AVal.byte (List.getD (List.getD c.svs i sv0).bks i_1 bk0).mac.b2,
 AVal.byte (List.getD (List.getD c.svs i sv0).bks i_1 bk0).mac.b3,
 AVal.byte (List.getD (List.getD c.svs i sv0).bks i_1 bk0).mac.b4,
 AVal.byte (List.getD (List.getD c.svs i sv0).bks i_1 bk0).mac.b5,
 AVal.int IntKind.i64 (List.getD (List.getD c.svs i sv0).bks i_1 bk0).port,
 AVal.int IntKind.i64 (List.getD (List.getD c.svs i sv0).bks i_1 bk0).weight]]])
 (K (AVal.bool true) [])
 (IsCf
 [AVal.byte c.mac.b0, AVal.byte c.mac.b1, AVal.byte c.mac.b2, AVal.byte c.mac.b3, AVal.byte c.mac.b4,
 AVal.byte c.mac.b5, AVal.str c.addr, AVal.str c.peer, AVal.int IntKind.i64 c.id, AVal.int IntKind.i64 c.pri,
 AVal.int IntKind.i64 c.every, AVal.bool c.pre,
 AVal.ro (List.length c.vips) (1 : Nat) fun i => [AVal.str (List.getD c.vips i [])],
 AVal.ro (List.length c.trs) (2 : Nat) fun i =>
 [AVal.str (List.getD c.trs i tr0).name, AVal.int IntKind.i64 (List.getD c.trs i tr0).weight],
 AVal.ro (List.length c.svs) (10 : Nat) fun i =>
 [AVal.str (List.getD c.svs i sv0).name, AVal.str (List.getD c.svs i sv0).vip,
 AVal.int IntKind.i64 (List.getD c.svs i sv0).proto, AVal.int IntKind.i64 (List.getD c.svs i sv0).port,
 AVal.int IntKind.i64 (List.getD c.svs i sv0).mode, AVal.int IntKind.i64 (List.getD c.svs i sv0).sched,
 AVal.int IntKind.i64 (List.getD c.svs i sv0).rise, AVal.int IntKind.i64 (List.getD c.svs i sv0).fall,
 AVal.int IntKind.i64 (List.getD c.svs i sv0).probe,
 AVal.ro (List.length (List.getD c.svs i sv0).bks) (10 : Nat) fun i_1 =>
 [AVal.str (List.getD (List.getD c.svs i sv0).bks i_1 bk0).name,
 AVal.str (List.getD (List.getD c.svs i sv0).bks i_1 bk0).addr,
 AVal.byte (List.getD (List.getD c.svs i sv0).bks i_1 bk0).mac.b0,
 AVal.byte (List.getD (List.getD c.svs i sv0).bks i_1 bk0).mac.b1,
 AVal.byte (List.getD (List.getD c.svs i sv0).bks i_1 bk0).mac.b2,
 AVal.byte (List.getD (List.getD c.svs i sv0).bks i_1 bk0).mac.b3,
 AVal.byte (List.getD (List.getD c.svs i sv0).bks i_1 bk0).mac.b4,
 AVal.byte (List.getD (List.getD c.svs i sv0).bks i_1 bk0).mac.b5,
 AVal.int IntKind.i64 (List.getD (List.getD c.svs i sv0).bks i_1 bk0).port,
 AVal.int IntKind.i64 (List.getD (List.getD c.svs i sv0).bks i_1 bk0).weight]]] ∧
 ((0 : Int) ≤ k ∧ k < (↑(List.length c.svs) : Int)) ∧
 brP (decide (i < (0 : Int)) || decide ((↑(List.length (List.getD c.svs (Int.toNat k) sv0).bks) : Int) ≤ i))
 (((0 : Int) ≤ k ∧ k < (↑(List.length c.svs) : Int)) ∧
 brP (decide (i < (0 : Int)) || decide ((↑(List.length (List.getD c.svs (Int.toNat k) sv0).bks) : Int) ≤ i))
 (K (AVal.bool true) [])
 (((0 : Int) ≤ i ∧ i < (↑(List.length (List.getD c.svs (Int.toNat k) sv0).bks) : Int)) ∧
 brP (decide ((List.getD (List.getD c.svs (Int.toNat k) sv0).bks (Int.toNat i) bk0).port = (0 : Int)))
 (K (AVal.bool (decide ((0 : Int) = (List.getD c.svs (Int.toNat k) sv0).port))) [])
 (((0 : Int) ≤ i ∧ i < (↑(List.length (List.getD c.svs (Int.toNat k) sv0).bks) : Int)) ∧
 K
 (AVal.bool
 (decide ((0 : Int) = (List.getD (List.getD c.svs (Int.toNat k) sv0).bks (Int.toNat i) bk0).port)))
 [])))
 (((0 : Int) ≤ i ∧ i < (↑(List.length (List.getD c.svs (Int.toNat k) sv0).bks) : Int)) ∧
 brP (!decide ((List.getD (List.getD c.svs (Int.toNat k) sv0).bks (Int.toNat i) bk0).port = (0 : Int)))
 (((0 : Int) ≤ i ∧ i < (↑(List.length (List.getD c.svs (Int.toNat k) sv0).bks) : Int)) ∧
 ((0 : Int) ≤ k ∧ k < (↑(List.length c.svs) : Int)) ∧
 brP (decide (i < (0 : Int)) || decide ((↑(List.length (List.getD c.svs (Int.toNat k) sv0).bks) : Int) ≤ i))
 (K
 (AVal.bool
 (decide ((List.getD (List.getD c.svs (Int.toNat k) sv0).bks (Int.toNat i) bk0).port = (0 : Int))))
 [])
 (((0 : Int) ≤ i ∧ i < (↑(List.length (List.getD c.svs (Int.toNat k) sv0).bks) : Int)) ∧
 brP (decide ((List.getD (List.getD c.svs (Int.toNat k) sv0).bks (Int.toNat i) bk0).port = (0 : Int)))
 (K
 (AVal.bool
 (decide
 ((List.getD (List.getD c.svs (Int.toNat k) sv0).bks (Int.toNat i) bk0).port =
 (List.getD c.svs (Int.toNat k) sv0).port)))
 [])
 (((0 : Int) ≤ i ∧ i < (↑(List.length (List.getD c.svs (Int.toNat k) sv0).bks) : Int)) ∧
 K
 (AVal.bool
 (decide
 ((List.getD (List.getD c.svs (Int.toNat k) sv0).bks (Int.toNat i) bk0).port =
 (List.getD (List.getD c.svs (Int.toNat k) sv0).bks (Int.toNat i) bk0).port)))
 [])))
 (((0 : Int) ≤ k ∧ k < (↑(List.length c.svs) : Int)) ∧
 brP (decide (i < (0 : Int)) || decide ((↑(List.length (List.getD c.svs (Int.toNat k) sv0).bks) : Int) ≤ i))
 (K (AVal.bool (decide ((List.getD c.svs (Int.toNat k) sv0).port = (0 : Int)))) [])
 (((0 : Int) ≤ i ∧ i < (↑(List.length (List.getD c.svs (Int.toNat k) sv0).bks) : Int)) ∧
 brP (decide ((List.getD (List.getD c.svs (Int.toNat k) sv0).bks (Int.toNat i) bk0).port = (0 : Int)))
 (K
 (AVal.bool
 (decide ((List.getD c.svs (Int.toNat k) sv0).port = (List.getD c.svs (Int.toNat k) sv0).port)))
 [])
 (((0 : Int) ≤ i ∧ i < (↑(List.length (List.getD c.svs (Int.toNat k) sv0).bks) : Int)) ∧
 K
 (AVal.bool
 (decide
 ((List.getD c.svs (Int.toNat k) sv0).port =
 (List.getD (List.getD c.svs (Int.toNat k) sv0).bks (Int.toNat i) bk0).port)))
 [])))))))) := by kernel_rfl
attribute [local irreducible] fnP in
theorem admitPorts.core (c : CfV) (k i : Int) (h_c : CfOk c) (h_k : -9223372036854775808 ≤ k ∧ k ≤ 9223372036854775807) (h_i : -9223372036854775808 ≤ i ∧ i ≤ 9223372036854775807) :
    fnP Try.prog Tlw ann_outriderlaw20_AdmitPorts Try.f3 [.agg (cfCells c), .int .i64 k, .int .i64 i] [] (fun v _ => v = .bool true) := by
  rw [AdmitPorts_eq]
  have hIs : IsCf (cfCells c) := ⟨c, rfl, h_c⟩
  refine brP_d (fun _ => rfl) (fun h1 => brP_d (fun _ => rfl) (fun h2 => ⟨hIs, brP_i (fun _ => rfl) (fun _ => ⟨hIs, by omega, ?_⟩)⟩))
  have hk : 0 ≤ k ∧ k < (c.svs.length : Int) := by omega
  generalize (c.svs.getD k.toNat sv0).port = sp
  generalize ((c.svs.getD k.toNat sv0).bks.getD i.toNat bk0).port = bp
  generalize (c.svs.getD k.toNat sv0).bks.length = n
  generalize c.svs.length = m at *
  by_cases hi : 0 ≤ i ∧ i < (n : Int)
  · have e : (decide (i < 0) || decide ((n : Int) ≤ i)) = false := by simp; omega
    rw [e]
    by_cases hp : bp = 0
    · simp [brP, hp, hi, hk]
    · simp [brP, hp, hi, hk]
  · have e : (decide (i < 0) || decide ((n : Int) ≤ i)) = true := by simp; omega
    rw [e]
    simp [brP, hk]
end Go.Proofs.Ytnbbaemijogeoaa.Ae
namespace Go.Proofs.Ytnbbaemijogeoaa
open Go Go.RowKit Ae
attribute [local irreducible] fnP in
set_option maxRecDepth 100000 in
theorem admitPorts.walk {H : Type} {enc : TypeId × Value → H} (W : World) (args : Array Value) (hn : args.size = 3)
    (h : ∀ (j : Nat) t v, Try.f3.params[j]? = some t → args[j]? = some v → RdV enc false Try.prog W t v) :
    Calls Try.prog 3 args W fun e w' => e = .returned (.bool true) ∧ Below W.heap.size W w' := by
  obtain ⟨v0, v1, v2, rfl⟩ := args3 hn
  obtain ⟨c, h_c, hv0⟩ := arg_struct (b := false) (.inl ⟨_, Try.underlying29⟩) open_cf (h 0 29 v0 rfl rfl)
  obtain ⟨k, rfl, h_k, hv1⟩ := arg_int (b := false) (m := Mp.nil) (G := []) Try.underlying3 (h 1 3 v1 rfl rfl)
  obtain ⟨i, rfl, h_i, hv2⟩ := arg_int (b := false) (m := Mp.nil) (G := []) Try.underlying3 (h 2 3 v2 rfl rfl)
  obtain ⟨r, H1, hr, hG⟩ := fn_sound Tlw_sound mixed Try.func3 (by decide +kernel) (admitPorts.core c k i h_c (i64_bd h_k) (i64_bd h_i))
  subst hr
  exact law_walk hG (vl_cons hv0 (vl_cons hv1 (vl_cons hv2 vl_nil)))

namespace admitPorts
theorem spec {H : Type} (ds : List (DataW H)) (h : ds.length = Try.f3.params.size) : Rows.admitPortsSpec.fn H ds = { results := [.lit (.bool true)], args := ds } := by
  have h' : ds.length = 3 := h
  match ds, h' with
  | [_, _, _], _ => rfl

set_option maxRecDepth 100000 in
theorem lifted (os : Os) (started : os.Started) (H : Type) (enc : TypeId × Value → H) :
    ReturnsInHanded {} Try.checked os 3 .any (Rows.admitPortsSpec.pre6 enc Try.prog Try.f3 Rows.admitPortsRow.domain false) (Rows.admitPortsSpec.post enc Try.prog Try.f3 false true false false) :=
  lifted_said (C := Try.checked) (tb := 4) own started (by kernel_rfl) Try.func3
    (ChangeSpec.witness6 (enc := enc) (C := Try.checked) false ⟨#[], #[.agg #[.int .u8 0, .int .u8 0, .int .u8 0, .int .u8 0, .int .u8 0, .int .u8 0, .string .empty, .string .empty, .int .i64 0, .int .i64 0, .int .i64 0, .bool false, .slice none 0 0, .slice none 0 0, .slice none 0 0], .int .i64 0, .int .i64 0], []⟩ 8 (by kernel_rfl) (by kernel_rfl) (by kernel_rfl) (by kernel_rfl))
    rfl spec rfl Try.underlying4 laidOut (by kernel_rfl) walk

theorem over : Rows.admitPortsRow.holds Try.pinned (OpenSpec.ofChange Rows.admitPortsSpec) :=
  OpenClaim.holds_of_wide 3 Try.f3 rfl rfl rfl rfl rfl rfl rfl ⟨rfl, rfl, rfl, rfl, rfl⟩ rfl rfl rfl rfl rfl (by kernel_rfl) Try.func3 (by kernel_rfl)
    (of_decide_eq_true (by kernel_rfl)) (by unfold Func.isWrapper; first | (rw [if_pos (by decide +kernel)]; kernel_rfl) | (rw [if_neg (by decide +kernel)]; exact ⟨rfl, rfl⟩))
    (fun os started H enc _ => lifted os started H enc)

theorem proved : Rows.AdmitPortsSaid := over
#print axioms proved
end admitPorts

end Go.Proofs.Ytnbbaemijogeoaa

