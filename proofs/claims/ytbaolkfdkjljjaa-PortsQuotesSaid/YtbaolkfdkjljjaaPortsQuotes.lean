/- PortsQuotes: what any packet says an error is about is told as the document says, or that it is none. No conditions. -/
import Derived.Test.YtbaolkfdkjljjaaAl
set_option linter.unusedSimpArgs false
set_option linter.unusedVariables false
namespace Go.Proofs.Ytbaolkfdkjljjaa.Ae
open Go Go.RowKit
def ann_outriderlaw05_PortsQuotes : Nat → List Nat × Nat × List (List Nat)
  | _ => ([], 0, [])
set_option maxRecDepth 100000 in
theorem PortsQuotes_eq (f t : List UInt8) (p q : Int) (b : List UInt8) (K : AVal → Hp → Prop) : fnP Try.prog Tlw ann_outriderlaw05_PortsQuotes Try.f7 [.agg [.str f, .str t, .int .i64 p, .int .i64 q, .str b]] [] K = (
  brP (decide ((3000 : Int) < (↑(List.length b) : Int))) (K (AVal.bool true) [])
    (List.length b ≤ (140737488351232 : Nat) ∧
     List.length b ≤ (140737488351232 : Nat) ∧
      brP
       (decide ((ptQuoted (Ip.mk f t p q b)).fst.proto = (ptQuoted (Ip.mk f t p q b)).fst.proto) &&
        (decide ((ptQuoted (Ip.mk f t p q b)).fst.src = (ptQuoted (Ip.mk f t p q b)).fst.src) &&
         (decide ((ptQuoted (Ip.mk f t p q b)).fst.dst = (ptQuoted (Ip.mk f t p q b)).fst.dst) &&
          (decide ((ptQuoted (Ip.mk f t p q b)).fst.port = (ptQuoted (Ip.mk f t p q b)).fst.port) &&
           decide ((ptQuoted (Ip.mk f t p q b)).fst.dest = (ptQuoted (Ip.mk f t p q b)).fst.dest)))))
       (K (AVal.bool (decide ((ptQuoted (Ip.mk f t p q b)).snd = (ptQuoted (Ip.mk f t p q b)).snd))) [])
       (K (AVal.bool false) []))) := by kernel_rfl
theorem portsQuotes.core (f t : List UInt8) (p q : Int) (b : List UInt8)  (h_f : f.length ≤ 140737488351232) (h_t : t.length ≤ 140737488351232) (h_p : -9223372036854775808 ≤ p ∧ p ≤ 9223372036854775807) (h_q : -9223372036854775808 ≤ q ∧ q ≤ 9223372036854775807) (h_b : b.length ≤ 140737488351232) :
    fnP Try.prog Tlw ann_outriderlaw05_PortsQuotes Try.f7 [.agg [.str f, .str t, .int .i64 p, .int .i64 q, .str b]] [] (fun v _ => v = .bool true) := by
  rw [PortsQuotes_eq]
  refine brP_d (fun _ => rfl) (fun _ => ⟨h_b, h_b, ?_⟩)
  simp [brP]
end Go.Proofs.Ytbaolkfdkjljjaa.Ae
namespace Go.Proofs.Ytbaolkfdkjljjaa
open Go Go.RowKit Ae
attribute [local irreducible] fnP in
set_option maxRecDepth 100000 in
theorem portsQuotes.walk {H : Type} {enc : TypeId × Value → H} (W : World) (args : Array Value) (hn : args.size = 1)
    (h : ∀ (j : Nat) t v, Try.f7.params[j]? = some t → args[j]? = some v → RdV enc false Try.prog W t v) :
    Calls Try.prog 7 args W fun e w' => e = .returned (.bool true) ∧ Below W.heap.size W w' := by
  obtain ⟨v0, rfl⟩ := args1 hn
  obtain ⟨vs0, hs0, hv0⟩ := arg_agg (b := false) (d := 6) (ks := [.str, .str, .int .i64, .int .i64, .str]) (.inl ⟨_, Try.underlying24⟩) (by kernel_rfl) (h 0 24 v0 rfl rfl)
  obtain ⟨_, _, rfl, ⟨f, rfl, h_f⟩, _, _, rfl, ⟨t, rfl, h_t⟩, _, _, rfl, ⟨p, rfl, h_p⟩, _, _, rfl, ⟨q, rfl, h_q⟩, _, _, rfl, ⟨b, rfl, h_b⟩, rfl⟩ := hs0
  obtain ⟨r, H1, hr, hG⟩ := fn_sound Tlw_sound mixed Try.func7 (by decide +kernel) (portsQuotes.core f t p q b (len_lim h_f) (len_lim h_t) (i64_bd h_p) (i64_bd h_q) (len_lim h_b))
  subst hr
  exact law_walk hG (vl_cons hv0 vl_nil)

namespace portsQuotes
theorem spec {H : Type} (ds : List (DataW H)) (h : ds.length = Try.f7.params.size) : Rows.portsQuotesSpec.fn H ds = { results := [.lit (.bool true)], args := ds } := by
  have h' : ds.length = 1 := h
  match ds, h' with
  | [_], _ => rfl

set_option maxRecDepth 100000 in
theorem lifted (os : Os) (started : os.Started) (H : Type) (enc : TypeId × Value → H) :
    ReturnsInHanded {} Try.checked os 7 .any (Rows.portsQuotesSpec.pre6 enc Try.prog Try.f7 Rows.portsQuotesRow.domain false) (Rows.portsQuotesSpec.post enc Try.prog Try.f7 false true false false) :=
  lifted_said (C := Try.checked) (tb := 4) own started (by kernel_rfl) Try.func7
    (ChangeSpec.witness6 (enc := enc) (C := Try.checked) false ⟨#[], #[.agg #[.string .empty, .string .empty, .int .i64 0, .int .i64 0, .string .empty]], []⟩ 8 (by kernel_rfl) (by kernel_rfl) (by kernel_rfl) (by kernel_rfl))
    rfl spec rfl Try.underlying4 laidOut (by kernel_rfl) walk

theorem over : Rows.portsQuotesRow.holds Try.pinned (OpenSpec.ofChange Rows.portsQuotesSpec) :=
  OpenClaim.holds_of_wide 7 Try.f7 rfl rfl rfl rfl rfl rfl rfl ⟨rfl, rfl, rfl, rfl, rfl⟩ rfl rfl rfl rfl rfl (by kernel_rfl) Try.func7 (by kernel_rfl)
    (of_decide_eq_true (by kernel_rfl)) (by unfold Func.isWrapper; first | (rw [if_pos (by decide +kernel)]; kernel_rfl) | (rw [if_neg (by decide +kernel)]; exact ⟨rfl, rfl⟩))
    (fun os started H enc _ => lifted os started H enc)

theorem proved : Rows.PortsQuotesSaid := over
#print axioms proved
end portsQuotes

end Go.Proofs.Ytbaolkfdkjljjaa

