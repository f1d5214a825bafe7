/- IpvReads: any bytes are read as the packet that they are, or it is told what is amiss first. No conditions. -/
import Derived.Test.YtlmliffcockfgaaAl
import Derived.Test.YtlmliffcockfgaaMip2
set_option linter.unusedSimpArgs false
set_option linter.unusedVariables false
namespace Go.Proofs.Ytlmliffcockfgaa.Ae
open Go Go.RowKit
def ann_outriderlaw03_IpvReads : Nat → List Nat × Nat × List (List Nat)
  | _ => ([], 0, [])
set_option maxRecDepth 100000 in
theorem IpvReads_eq (l : List UInt8) (K : AVal → Hp → Prop) : fnP Try.prog Tlw ann_outriderlaw03_IpvReads Try.f4 [.roB l] [] K = (
  List.length l ≤ (140737488355328 : Nat) ∧
    brP
     (decide ((ipDecode l).fst.src = (ipDecode l).fst.src) &&
      (decide ((ipDecode l).fst.dst = (ipDecode l).fst.dst) &&
       (decide ((ipDecode l).fst.proto = (ipDecode l).fst.proto) &&
        (decide ((ipDecode l).fst.ttl = (ipDecode l).fst.ttl) &&
         decide ((ipDecode l).fst.body = (ipDecode l).fst.body)))))
     (K (AVal.bool (decide ((ipDecode l).snd = (ipDecode l).snd))) []) (K (AVal.bool false) [])) := by kernel_rfl
theorem ipvReads.core (l : List UInt8) (hl : l.length ≤ 140737488351232) :
    fnP Try.prog Tlw ann_outriderlaw03_IpvReads Try.f4 [.roB l] [] (fun v _ => v = .bool true) := by
  rw [IpvReads_eq]
  refine ⟨by omega, ?_⟩
  simp [brP]
end Go.Proofs.Ytlmliffcockfgaa.Ae
namespace Go.Proofs.Ytlmliffcockfgaa
open Go Go.RowKit Ae
set_option maxRecDepth 100000 in
theorem ipvReads.walk {H : Type} {enc : TypeId × Value → H} (W : World) (args : Array Value) (hn : args.size = 1)
    (h : ∀ (j : Nat) t v, Try.f4.params[j]? = some t → args[j]? = some v → RdV enc false Try.prog W t v) :
    Calls Try.prog 4 args W fun e w' => e = .returned (.bool true) ∧ Below W.heap.size W w' := by
  obtain ⟨v0, rfl⟩ := args1 hn
  obtain ⟨l, h_l, hv0⟩ := arg_bytes (b := false) (m := Mp.nil) (G := []) Try.underlying25 Try.underlying5 (by kernel_rfl) (by kernel_rfl) (h 0 25 v0 rfl rfl)
  obtain ⟨r, H1, hr, hG⟩ := fn_sound Tlw_sound mixed Try.func4 (by decide +kernel) (ipvReads.core l (len_lim h_l))
  subst hr
  exact law_walk hG (vl_cons hv0 vl_nil)

namespace ipvReads
theorem spec {H : Type} (ds : List (DataW H)) (h : ds.length = Try.f4.params.size) : Rows.ipvReadsSpec.fn H ds = { results := [.lit (.bool true)], args := ds } := by
  have h' : ds.length = 1 := h
  match ds, h' with
  | [_], _ => rfl

set_option maxRecDepth 100000 in
theorem lifted (os : Os) (started : os.Started) (H : Type) (enc : TypeId × Value → H) :
    ReturnsInHanded {} Try.checked os 4 .any (Rows.ipvReadsSpec.pre6 enc Try.prog Try.f4 Rows.ipvReadsRow.domain false) (Rows.ipvReadsSpec.post enc Try.prog Try.f4 false true false false) :=
  lifted_said (C := Try.checked) (tb := 4) own started (by kernel_rfl) Try.func4
    (ChangeSpec.witness6 (enc := enc) (C := Try.checked) false ⟨#[], #[.slice none 0 0], []⟩ 8 (by kernel_rfl) (by kernel_rfl) (by kernel_rfl) (by kernel_rfl))
    rfl spec rfl Try.underlying4 laidOut (by kernel_rfl) walk

theorem over : Rows.ipvReadsRow.holds Try.pinned (OpenSpec.ofChange Rows.ipvReadsSpec) :=
  OpenClaim.holds_of_wide 4 Try.f4 rfl rfl rfl rfl rfl rfl rfl ⟨rfl, rfl, rfl, rfl, rfl⟩ rfl rfl rfl rfl rfl (by kernel_rfl) Try.func4 (by kernel_rfl)
    (of_decide_eq_true (by kernel_rfl)) (by unfold Func.isWrapper; first | (rw [if_pos (by decide +kernel)]; kernel_rfl) | (rw [if_neg (by decide +kernel)]; exact ⟨rfl, rfl⟩))
    (fun os started H enc _ => lifted os started H enc)

theorem proved : Rows.IpvReadsSaid := over
#print axioms proved
end ipvReads

end Go.Proofs.Ytlmliffcockfgaa

