/- IpvWrites: any packet is written as the document says, or refused. No conditions. -/
import Derived.Test.YtlmliffcockfgaaAl
set_option linter.unusedSimpArgs false
set_option linter.unusedVariables false
namespace Go.Proofs.Ytlmliffcockfgaa.Ae
open Go Go.RowKit
def ann_outriderlaw03_IpvWrites : Nat → List Nat × Nat × List (List Nat)
  | _ => ([], 0, [])
set_option maxRecDepth 100000 in
theorem IpvWrites_eq (f t : List UInt8) (p q : Int) (b : List UInt8) (K : AVal → Hp → Prop) : fnP Try.prog Tlw ann_outriderlaw03_IpvWrites Try.f3 [.agg [.str f, .str t, .int .i64 p, .int .i64 q, .str b]] [] K = (
  optP (ipEncode { src := f, dst := t, proto := p, ttl := q, body := b })
    (fun x =>
     optP (ipEncode { src := f, dst := t, proto := p, ttl := q, body := b })
      (fun x_1 =>
       brP
        (decide
         (List.take (List.length x) (List.drop (0 : Nat) x) = List.take (List.length x_1) (List.drop (0 : Nat) x_1)))
        (K (AVal.bool true) []) (K (AVal.bool false) []))
      (brP (decide (List.take (List.length x) (List.drop (0 : Nat) x) = [])) (K (AVal.bool false) [])
       (K (AVal.bool false) [])))
    (optP (ipEncode { src := f, dst := t, proto := p, ttl := q, body := b })
     (fun x =>
      brP (decide ([] = List.take (List.length x) (List.drop (0 : Nat) x))) (K (AVal.bool false) [])
       (K (AVal.bool false) []))
     (K (AVal.bool true) []))) := by kernel_rfl
theorem ipvWrites.core (f t : List UInt8) (p q : Int) (b : List UInt8) (hf : f.length ≤ 140737488351232) (ht : t.length ≤ 140737488351232) (hp : -9223372036854775808 ≤ p ∧ p ≤ 9223372036854775807) (hq : -9223372036854775808 ≤ q ∧ q ≤ 9223372036854775807) (hb : b.length ≤ 140737488351232) :
    fnP Try.prog Tlw ann_outriderlaw03_IpvWrites Try.f3 [.agg [.str f, .str t, .int .i64 p, .int .i64 q, .str b]] [] (fun v _ => v = .bool true) := by
  rw [IpvWrites_eq]
  cases ipEncode ⟨f, t, p, q, b⟩ with
  | none => rfl
  | some l => simp only [optP]; exact brP_d (fun _ => trivial) (fun h => absurd trivial h)
end Go.Proofs.Ytlmliffcockfgaa.Ae
namespace Go.Proofs.Ytlmliffcockfgaa
open Go Go.RowKit Ae
set_option maxRecDepth 100000 in
theorem ipvWrites.walk {H : Type} {enc : TypeId × Value → H} (W : World) (args : Array Value) (hn : args.size = 1)
    (h : ∀ (j : Nat) t v, Try.f3.params[j]? = some t → args[j]? = some v → RdV enc false Try.prog W t v) :
    Calls Try.prog 3 args W fun e w' => e = .returned (.bool true) ∧ Below W.heap.size W w' := by
  obtain ⟨v0, rfl⟩ := args1 hn
  obtain ⟨vs0, hs0, hv0⟩ := arg_agg (b := false) (d := 6) (ks := [.str, .str, .int .i64, .int .i64, .str]) (.inl ⟨_, Try.underlying24⟩) (by kernel_rfl) (h 0 24 v0 rfl rfl)
  obtain ⟨_, _, rfl, ⟨f, rfl, h_f⟩, _, _, rfl, ⟨t, rfl, h_t⟩, _, _, rfl, ⟨p, rfl, h_p⟩, _, _, rfl, ⟨q, rfl, h_q⟩, _, _, rfl, ⟨b, rfl, h_b⟩, rfl⟩ := hs0
  obtain ⟨r, H1, hr, hG⟩ := fn_sound Tlw_sound mixed Try.func3 (by decide +kernel) (ipvWrites.core f t p q b (len_lim h_f) (len_lim h_t) (i64_bd h_p) (i64_bd h_q) (len_lim h_b))
  subst hr
  exact law_walk hG (vl_cons hv0 vl_nil)

namespace ipvWrites
theorem spec {H : Type} (ds : List (DataW H)) (h : ds.length = Try.f3.params.size) : Rows.ipvWritesSpec.fn H ds = { results := [.lit (.bool true)], args := ds } := by
  have h' : ds.length = 1 := h
  match ds, h' with
  | [_], _ => rfl

set_option maxRecDepth 100000 in
theorem lifted (os : Os) (started : os.Started) (H : Type) (enc : TypeId × Value → H) :
    ReturnsInHanded {} Try.checked os 3 .any (Rows.ipvWritesSpec.pre6 enc Try.prog Try.f3 Rows.ipvWritesRow.domain false) (Rows.ipvWritesSpec.post enc Try.prog Try.f3 false true false false) :=
  lifted_said (C := Try.checked) (tb := 4) own started (by kernel_rfl) Try.func3
    (ChangeSpec.witness6 (enc := enc) (C := Try.checked) false ⟨#[], #[.agg #[.string .empty, .string .empty, .int .i64 0, .int .i64 0, .string .empty]], []⟩ 8 (by kernel_rfl) (by kernel_rfl) (by kernel_rfl) (by kernel_rfl))
    rfl spec rfl Try.underlying4 laidOut (by kernel_rfl) walk

theorem over : Rows.ipvWritesRow.holds Try.pinned (OpenSpec.ofChange Rows.ipvWritesSpec) :=
  OpenClaim.holds_of_wide 3 Try.f3 rfl rfl rfl rfl rfl rfl rfl ⟨rfl, rfl, rfl, rfl, rfl⟩ rfl rfl rfl rfl rfl (by kernel_rfl) Try.func3 (by kernel_rfl)
    (of_decide_eq_true (by kernel_rfl)) (by unfold Func.isWrapper; first | (rw [if_pos (by decide +kernel)]; kernel_rfl) | (rw [if_neg (by decide +kernel)]; exact ⟨rfl, rfl⟩))
    (fun os started H enc _ => lifted os started H enc)

theorem proved : Rows.IpvWritesSaid := over
#print axioms proved
end ipvWrites

end Go.Proofs.Ytlmliffcockfgaa

