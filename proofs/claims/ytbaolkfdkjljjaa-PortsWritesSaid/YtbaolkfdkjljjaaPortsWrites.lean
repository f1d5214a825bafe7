/- PortsWrites: any packet is written as the document says, or refused. No conditions. -/
import Derived.Test.YtbaolkfdkjljjaaAl
set_option linter.unusedSimpArgs false
set_option linter.unusedVariables false
namespace Go.Proofs.Ytbaolkfdkjljjaa.Ae
open Go Go.RowKit
def ann_outriderlaw05_PortsWrites : Nat → List Nat × Nat × List (List Nat)
  | _ => ([], 0, [])
set_option maxRecDepth 100000 in
theorem PortsWrites_eq (f t : List UInt8) (p q : Int) (b : List UInt8) (h1 h2 h3 h4 h5 : Int) (d : List UInt8) (K : AVal → Hp → Prop) : fnP Try.prog Tlw ann_outriderlaw05_PortsWrites Try.f3 [.agg [.str f, .str t, .int .i64 p, .int .i64 q, .str b], .agg [.int .i64 h1, .int .i64 h2, .int .i64 h3, .int .i64 h4, .int .i64 h5], .str d] [] K = (
  brP (decide ((3000 : Int) < (↑(List.length d) : Int))) (K (AVal.bool true) [])
    (List.length d ≤ (140737488351232 : Nat) ∧
     List.length d ≤ (140737488351232 : Nat) ∧
      brP
       (decide
         ((ptWrite (Ip.mk f t p q b) (Hd.mk h1 h2 h3 h4 h5) d).fst.src =
          (ptWrite (Ip.mk f t p q b) (Hd.mk h1 h2 h3 h4 h5) d).fst.src) &&
        (decide
          ((ptWrite (Ip.mk f t p q b) (Hd.mk h1 h2 h3 h4 h5) d).fst.dst =
           (ptWrite (Ip.mk f t p q b) (Hd.mk h1 h2 h3 h4 h5) d).fst.dst) &&
         (decide
           ((ptWrite (Ip.mk f t p q b) (Hd.mk h1 h2 h3 h4 h5) d).fst.proto =
            (ptWrite (Ip.mk f t p q b) (Hd.mk h1 h2 h3 h4 h5) d).fst.proto) &&
          (decide
            ((ptWrite (Ip.mk f t p q b) (Hd.mk h1 h2 h3 h4 h5) d).fst.ttl =
             (ptWrite (Ip.mk f t p q b) (Hd.mk h1 h2 h3 h4 h5) d).fst.ttl) &&
           decide
            ((ptWrite (Ip.mk f t p q b) (Hd.mk h1 h2 h3 h4 h5) d).fst.body =
             (ptWrite (Ip.mk f t p q b) (Hd.mk h1 h2 h3 h4 h5) d).fst.body)))))
       (K
        (AVal.bool
         (decide
          ((ptWrite (Ip.mk f t p q b) (Hd.mk h1 h2 h3 h4 h5) d).snd =
           (ptWrite (Ip.mk f t p q b) (Hd.mk h1 h2 h3 h4 h5) d).snd)))
        [])
       (K (AVal.bool false) []))) := by kernel_rfl
theorem portsWrites.core (f t : List UInt8) (p q : Int) (b : List UInt8) (h1 h2 h3 h4 h5 : Int) (d : List UInt8)  (h_f : f.length ≤ 140737488351232) (h_t : t.length ≤ 140737488351232) (h_p : -9223372036854775808 ≤ p ∧ p ≤ 9223372036854775807) (h_q : -9223372036854775808 ≤ q ∧ q ≤ 9223372036854775807) (h_b : b.length ≤ 140737488351232) (h_h1 : -9223372036854775808 ≤ h1 ∧ h1 ≤ 9223372036854775807) (h_h2 : -9223372036854775808 ≤ h2 ∧ h2 ≤ 9223372036854775807) (h_h3 : -9223372036854775808 ≤ h3 ∧ h3 ≤ 9223372036854775807) (h_h4 : -9223372036854775808 ≤ h4 ∧ h4 ≤ 9223372036854775807) (h_h5 : -9223372036854775808 ≤ h5 ∧ h5 ≤ 9223372036854775807) (h_d : d.length ≤ 140737488351232) :
    fnP Try.prog Tlw ann_outriderlaw05_PortsWrites Try.f3 [.agg [.str f, .str t, .int .i64 p, .int .i64 q, .str b], .agg [.int .i64 h1, .int .i64 h2, .int .i64 h3, .int .i64 h4, .int .i64 h5], .str d] [] (fun v _ => v = .bool true) := by
  rw [PortsWrites_eq]
  refine brP_d (fun _ => rfl) (fun _ => ⟨h_d, h_d, ?_⟩)
  simp [brP]
end Go.Proofs.Ytbaolkfdkjljjaa.Ae
namespace Go.Proofs.Ytbaolkfdkjljjaa
open Go Go.RowKit Ae
attribute [local irreducible] fnP in
set_option maxRecDepth 100000 in
theorem portsWrites.walk {H : Type} {enc : TypeId × Value → H} (W : World) (args : Array Value) (hn : args.size = 3)
    (h : ∀ (j : Nat) t v, Try.f3.params[j]? = some t → args[j]? = some v → RdV enc false Try.prog W t v) :
    Calls Try.prog 3 args W fun e w' => e = .returned (.bool true) ∧ Below W.heap.size W w' := by
  obtain ⟨v0, v1, v2, rfl⟩ := args3 hn
  obtain ⟨vs0, hs0, hv0⟩ := arg_agg (b := false) (d := 6) (ks := [.str, .str, .int .i64, .int .i64, .str]) (.inl ⟨_, Try.underlying24⟩) (by kernel_rfl) (h 0 24 v0 rfl rfl)
  obtain ⟨_, _, rfl, ⟨f, rfl, h_f⟩, _, _, rfl, ⟨t, rfl, h_t⟩, _, _, rfl, ⟨p, rfl, h_p⟩, _, _, rfl, ⟨q, rfl, h_q⟩, _, _, rfl, ⟨b, rfl, h_b⟩, rfl⟩ := hs0
  obtain ⟨vs1, hs1, hv1⟩ := arg_agg (b := false) (d := 6) (ks := [.int .i64, .int .i64, .int .i64, .int .i64, .int .i64]) (.inl ⟨_, Try.underlying26⟩) (by kernel_rfl) (h 1 26 v1 rfl rfl)
  obtain ⟨_, _, rfl, ⟨h1, rfl, h_h1⟩, _, _, rfl, ⟨h2, rfl, h_h2⟩, _, _, rfl, ⟨h3, rfl, h_h3⟩, _, _, rfl, ⟨h4, rfl, h_h4⟩, _, _, rfl, ⟨h5, rfl, h_h5⟩, rfl⟩ := hs1
  obtain ⟨d, h_d, hv2⟩ := arg_str (b := false) (m := Mp.nil) (G := []) Try.underlying9 (h 2 9 v2 rfl rfl)
  obtain ⟨r, H1, hr, hG⟩ := fn_sound Tlw_sound mixed Try.func3 (by decide +kernel) (portsWrites.core f t p q b h1 h2 h3 h4 h5 d (len_lim h_f) (len_lim h_t) (i64_bd h_p) (i64_bd h_q) (len_lim h_b) (i64_bd h_h1) (i64_bd h_h2) (i64_bd h_h3) (i64_bd h_h4) (i64_bd h_h5) (len_lim h_d))
  subst hr
  exact law_walk hG (vl_cons hv0 (vl_cons hv1 (vl_cons hv2 vl_nil)))

namespace portsWrites
theorem spec {H : Type} (ds : List (DataW H)) (h : ds.length = Try.f3.params.size) : Rows.portsWritesSpec.fn H ds = { results := [.lit (.bool true)], args := ds } := by
  have h' : ds.length = 3 := h
  match ds, h' with
  | [_, _, _], _ => rfl

set_option maxRecDepth 100000 in
theorem lifted (os : Os) (started : os.Started) (H : Type) (enc : TypeId × Value → H) :
    ReturnsInHanded {} Try.checked os 3 .any (Rows.portsWritesSpec.pre6 enc Try.prog Try.f3 Rows.portsWritesRow.domain false) (Rows.portsWritesSpec.post enc Try.prog Try.f3 false true false false) :=
  lifted_said (C := Try.checked) (tb := 4) own started (by kernel_rfl) Try.func3
    (ChangeSpec.witness6 (enc := enc) (C := Try.checked) false ⟨#[], #[.agg #[.string .empty, .string .empty, .int .i64 0, .int .i64 0, .string .empty], .agg #[.int .i64 0, .int .i64 0, .int .i64 0, .int .i64 0, .int .i64 0], .string .empty], []⟩ 8 (by kernel_rfl) (by kernel_rfl) (by kernel_rfl) (by kernel_rfl))
    rfl spec rfl Try.underlying4 laidOut (by kernel_rfl) walk

theorem over : Rows.portsWritesRow.holds Try.pinned (OpenSpec.ofChange Rows.portsWritesSpec) :=
  OpenClaim.holds_of_wide 3 Try.f3 rfl rfl rfl rfl rfl rfl rfl ⟨rfl, rfl, rfl, rfl, rfl⟩ rfl rfl rfl rfl rfl (by kernel_rfl) Try.func3 (by kernel_rfl)
    (of_decide_eq_true (by kernel_rfl)) (by unfold Func.isWrapper; first | (rw [if_pos (by decide +kernel)]; kernel_rfl) | (rw [if_neg (by decide +kernel)]; exact ⟨rfl, rfl⟩))
    (fun os started H enc _ => lifted os started H enc)

theorem proved : Rows.PortsWritesSaid := over
#print axioms proved
end portsWrites

end Go.Proofs.Ytbaolkfdkjljjaa

