/- VrrpSkews: how long anybody waits, by any priority and pace, is what the document says. No conditions. -/
import Derived.Test.YtldfkjjjjfbbmaaAl
set_option linter.unusedSimpArgs false
set_option linter.unusedVariables false
namespace Go.Proofs.Ytldfkjjjjfbbmaa.Ae
open Go Go.RowKit
def ann_outriderlaw13_VrrpSkews : Nat → List Nat × Nat × List (List Nat)
  | _ => ([], 0, [])
set_option maxRecDepth 100000 in
theorem VrrpSkews_eq (p e : Int) (K : AVal → Hp → Prop) : fnP Try.prog Tlw ann_outriderlaw13_VrrpSkews Try.f3 [.int .i64 p, .int .i64 e] [] K = (
 K (AVal.bool (decide (vrSkew p e = vrSkew p e))) []) := by kernel_rfl
attribute [local irreducible] fnP in
theorem vrrpSkews.core (p e : Int) (h_p : -9223372036854775808 ≤ p ∧ p ≤ 9223372036854775807) (h_e : -9223372036854775808 ≤ e ∧ e ≤ 9223372036854775807) :
    fnP Try.prog Tlw ann_outriderlaw13_VrrpSkews Try.f3 [.int .i64 p, .int .i64 e] [] (fun v _ => v = .bool true) := by
  rw [VrrpSkews_eq]
  simp
end Go.Proofs.Ytldfkjjjjfbbmaa.Ae
namespace Go.Proofs.Ytldfkjjjjfbbmaa
open Go Go.RowKit Ae
attribute [local irreducible] fnP in
set_option maxRecDepth 100000 in
theorem vrrpSkews.walk {H : Type} {enc : TypeId × Value → H} (W : World) (args : Array Value) (hn : args.size = 2)
    (h : ∀ (j : Nat) t v, Try.f3.params[j]? = some t → args[j]? = some v → RdV enc false Try.prog W t v) :
    Calls Try.prog 3 args W fun e w' => e = .returned (.bool true) ∧ Below W.heap.size W w' := by
  obtain ⟨v0, v1, rfl⟩ := args2 hn
  obtain ⟨p, rfl, h_p, hv0⟩ := arg_int (b := false) (m := Mp.nil) (G := []) Try.underlying3 (h 0 3 v0 rfl rfl)
  obtain ⟨e, rfl, h_e, hv1⟩ := arg_int (b := false) (m := Mp.nil) (G := []) Try.underlying3 (h 1 3 v1 rfl rfl)
  obtain ⟨r, H1, hr, hG⟩ := fn_sound Tlw_sound mixed Try.func3 (by decide +kernel) (vrrpSkews.core p e (i64_bd h_p) (i64_bd h_e))
  subst hr
  exact law_walk hG (vl_cons hv0 (vl_cons hv1 vl_nil))

namespace vrrpSkews
theorem spec {H : Type} (ds : List (DataW H)) (h : ds.length = Try.f3.params.size) : Rows.vrrpSkewsSpec.fn H ds = { results := [.lit (.bool true)], args := ds } := by
  have h' : ds.length = 2 := h
  match ds, h' with
  | [_, _], _ => rfl

set_option maxRecDepth 100000 in
theorem lifted (os : Os) (started : os.Started) (H : Type) (enc : TypeId × Value → H) :
    ReturnsInHanded {} Try.checked os 3 .any (Rows.vrrpSkewsSpec.pre6 enc Try.prog Try.f3 Rows.vrrpSkewsRow.domain false) (Rows.vrrpSkewsSpec.post enc Try.prog Try.f3 false true false false) :=
  lifted_said (C := Try.checked) (tb := 4) own started (by kernel_rfl) Try.func3
    (ChangeSpec.witness6 (enc := enc) (C := Try.checked) false ⟨#[], #[.int .i64 0, .int .i64 0], []⟩ 8 (by kernel_rfl) (by kernel_rfl) (by kernel_rfl) (by kernel_rfl))
    rfl spec rfl Try.underlying4 laidOut (by kernel_rfl) walk

theorem over : Rows.vrrpSkewsRow.holds Try.pinned (OpenSpec.ofChange Rows.vrrpSkewsSpec) :=
  OpenClaim.holds_of_wide 3 Try.f3 rfl rfl rfl rfl rfl rfl rfl ⟨rfl, rfl, rfl, rfl, rfl⟩ rfl rfl rfl rfl rfl (by kernel_rfl) Try.func3 (by kernel_rfl)
    (of_decide_eq_true (by kernel_rfl)) (by unfold Func.isWrapper; first | (rw [if_pos (by decide +kernel)]; kernel_rfl) | (rw [if_neg (by decide +kernel)]; exact ⟨rfl, rfl⟩))
    (fun os started H enc _ => lifted os started H enc)

theorem proved : Rows.VrrpSkewsSaid := over
#print axioms proved
end vrrpSkews

end Go.Proofs.Ytldfkjjjjfbbmaa

