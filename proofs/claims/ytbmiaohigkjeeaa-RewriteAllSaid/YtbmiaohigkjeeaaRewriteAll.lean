/- RewriteAll: any packet that goes to, or comes from, any other one, one hop on, is what the document says, or refused. No conditions. -/
import Derived.Test.YtbmiaohigkjeeaaAlx
set_option linter.unusedSimpArgs false
set_option linter.unusedVariables false
namespace Go.Proofs.Ytbmiaohigkjeeaa.Ae
open Go Go.RowKit
def ann_outriderlaw19_RewriteAll : Nat → List Nat × Nat × List (List Nat)
  | 2000005 => ([], 9, [[], [0], [0, 1], [0, 1, 2], [0, 1, 2, 3], [0, 1, 2, 3, 4], [0, 1, 2, 3, 4, 5], [0, 1, 2, 3, 4, 5, 6]])
  | 2000009 => ([], 9, [[], [0], [0, 1], [0, 1, 2], [0, 1, 2, 3], [0, 1, 2, 3, 4], [0, 1, 2, 3, 4, 5], [0, 1, 2, 3, 4, 5, 6]])
  | _ => ([], 0, [])
set_option maxRecDepth 100000 in
theorem RewriteAll_eq (f t : List UInt8) (p q : Int) (b : List UInt8) (a : List UInt8) (n : Int) (K : AVal → Hp → Prop) : fnP Try.prog Tlx ann_outriderlaw19_RewriteAll Try.f5 [.agg [.str f, .str t, .int .i64 p, .int .i64 q, .str b], .str a, .int .i64 n] [] K = (
 brP (decide ((3000 : Int) < (↑(List.length b) : Int))) (K (AVal.bool true) [])
 (List.length b ≤ (140737488351232 : Nat) ∧
 I64 q ∧
 (List.length b ≤ (140737488351232 : Nat) ∧ I64 q) ∧
 brP
 (!(decide ((rwTo (Ip.mk f t p q b) a n).fst.src = (rwTo (Ip.mk f t p q b) a n).fst.src) &&
 (decide ((rwTo (Ip.mk f t p q b) a n).fst.dst = (rwTo (Ip.mk f t p q b) a n).fst.dst) &&
 (decide ((rwTo (Ip.mk f t p q b) a n).fst.proto = (rwTo (Ip.mk f t p q b) a n).fst.proto) &&
 (decide ((rwTo (Ip.mk f t p q b) a n).fst.ttl = (rwTo (Ip.mk f t p q b) a n).fst.ttl) &&
 decide ((rwTo (Ip.mk f t p q b) a n).fst.body = (rwTo (Ip.mk f t p q b) a n).fst.body))))) ||
 !decide ((rwTo (Ip.mk f t p q b) a n).snd = (rwTo (Ip.mk f t p q b) a n).snd))
 (K (AVal.bool false) [])
 (List.length b ≤ (140737488351232 : Nat) ∧
 I64 q ∧
 (List.length b ≤ (140737488351232 : Nat) ∧ I64 q) ∧
 brP
 (!(decide ((rwFrom (Ip.mk f t p q b) a n).fst.src = (rwFrom (Ip.mk f t p q b) a n).fst.src) &&
 (decide ((rwFrom (Ip.mk f t p q b) a n).fst.dst = (rwFrom (Ip.mk f t p q b) a n).fst.dst) &&
 (decide ((rwFrom (Ip.mk f t p q b) a n).fst.proto = (rwFrom (Ip.mk f t p q b) a n).fst.proto) &&
 (decide ((rwFrom (Ip.mk f t p q b) a n).fst.ttl = (rwFrom (Ip.mk f t p q b) a n).fst.ttl) &&
 decide ((rwFrom (Ip.mk f t p q b) a n).fst.body = (rwFrom (Ip.mk f t p q b) a n).fst.body))))) ||
 !decide ((rwFrom (Ip.mk f t p q b) a n).snd = (rwFrom (Ip.mk f t p q b) a n).snd))
 (K (AVal.bool false) [])
 (brP (decide (q ≤ (1 : Int)))
 (brP (decide (q ≤ (1 : Int))) (K (AVal.bool true) [])
 (I64 (q - (1 : Int)) ∧
 brP
 (decide ([] = f) &&
 (decide ([] = t) && (decide ((0 : Int) = p) && (decide ((0 : Int) = q - (1 : Int)) && decide ([] = b)))))
 (K (AVal.bool false) []) (K (AVal.bool false) [])))
 (I64 (q - (1 : Int)) ∧
 brP (decide (q ≤ (1 : Int)))
 (brP
 (decide (f = []) &&
 (decide (t = []) && (decide (p = (0 : Int)) && (decide (q - (1 : Int) = (0 : Int)) && decide (b = [])))))
 (K (AVal.bool false) []) (K (AVal.bool false) []))
 (I64 (q - (1 : Int)) ∧
 brP
 (decide (f = f) &&
 (decide (t = t) && (decide (p = p) && (decide (q - (1 : Int) = q - (1 : Int)) && decide (b = b)))))
 (K (AVal.bool true) []) (K (AVal.bool false) []))))))) := by kernel_rfl
theorem rewriteAll.core (f t : List UInt8) (p q : Int) (b : List UInt8) (a : List UInt8) (n : Int)  (h_f : f.length ≤ 140737488351232) (h_t : t.length ≤ 140737488351232) (h_p : -9223372036854775808 ≤ p ∧ p ≤ 9223372036854775807) (h_q : -9223372036854775808 ≤ q ∧ q ≤ 9223372036854775807) (h_b : b.length ≤ 140737488351232) (h_a : a.length ≤ 140737488351232) (h_n : -9223372036854775808 ≤ n ∧ n ≤ 9223372036854775807) :
    fnP Try.prog Tlx ann_outriderlaw19_RewriteAll Try.f5 [.agg [.str f, .str t, .int .i64 p, .int .i64 q, .str b], .str a, .int .i64 n] [] (fun v _ => v = .bool true) := by
  rw [RewriteAll_eq]
  have iq : I64 q := by unfold I64; omega
  have iq1 : ¬ q ≤ 1 → I64 (q - 1) := fun h => by unfold I64; omega
  by_cases h1 : q ≤ 1
  · simp [brP, h_b, iq, h1]
  · have iq2 := iq1 h1
    simp [brP, h_b, iq, h1, iq2]
end Go.Proofs.Ytbmiaohigkjeeaa.Ae
namespace Go.Proofs.Ytbmiaohigkjeeaa
open Go Go.RowKit Ae
attribute [local irreducible] fnP in
set_option maxRecDepth 100000 in
theorem rewriteAll.walk {H : Type} {enc : TypeId × Value → H} (W : World) (args : Array Value) (hn : args.size = 3)
    (h : ∀ (j : Nat) t v, Try.f5.params[j]? = some t → args[j]? = some v → RdV enc false Try.prog W t v) :
    Calls Try.prog 5 args W fun e w' => e = .returned (.bool true) ∧ Below W.heap.size W w' := by
  obtain ⟨v0, v1, v2, rfl⟩ := args3 hn
  obtain ⟨vs0, hs0, hv0⟩ := arg_agg (b := false) (d := 6) (ks := [.str, .str, .int .i64, .int .i64, .str]) (.inl ⟨_, Try.underlying24⟩) (by kernel_rfl) (h 0 24 v0 rfl rfl)
  obtain ⟨_, _, rfl, ⟨f, rfl, h_f⟩, _, _, rfl, ⟨t, rfl, h_t⟩, _, _, rfl, ⟨p, rfl, h_p⟩, _, _, rfl, ⟨q, rfl, h_q⟩, _, _, rfl, ⟨b, rfl, h_b⟩, rfl⟩ := hs0
  obtain ⟨a, h_a, hv1⟩ := arg_str (b := false) (m := Mp.nil) (G := []) Try.underlying22 (h 1 22 v1 rfl rfl)
  obtain ⟨n, rfl, h_n, hv2⟩ := arg_int (b := false) (m := Mp.nil) (G := []) Try.underlying3 (h 2 3 v2 rfl rfl)
  obtain ⟨r, H1, hr, hG⟩ := fn_sound Tlx_sound mixed Try.func5 (by decide +kernel) (rewriteAll.core f t p q b a n (len_lim h_f) (len_lim h_t) (i64_bd h_p) (i64_bd h_q) (len_lim h_b) (len_lim h_a) (i64_bd h_n))
  subst hr
  exact law_walk hG (vl_cons hv0 (vl_cons hv1 (vl_cons hv2 vl_nil)))

namespace rewriteAll
theorem spec {H : Type} (ds : List (DataW H)) (h : ds.length = Try.f5.params.size) : Rows.rewriteAllSpec.fn H ds = { results := [.lit (.bool true)], args := ds } := by
  have h' : ds.length = 3 := h
  match ds, h' with
  | [_, _, _], _ => rfl

set_option maxRecDepth 100000 in
theorem lifted (os : Os) (started : os.Started) (H : Type) (enc : TypeId × Value → H) :
    ReturnsInHanded {} Try.checked os 5 .any (Rows.rewriteAllSpec.pre6 enc Try.prog Try.f5 Rows.rewriteAllRow.domain false) (Rows.rewriteAllSpec.post enc Try.prog Try.f5 false true false false) :=
  lifted_said (C := Try.checked) (tb := 4) own started (by kernel_rfl) Try.func5
    (ChangeSpec.witness6 (enc := enc) (C := Try.checked) false ⟨#[], #[.agg #[.string .empty, .string .empty, .int .i64 0, .int .i64 0, .string .empty], .string .empty, .int .i64 0], []⟩ 8 (by kernel_rfl) (by kernel_rfl) (by kernel_rfl) (by kernel_rfl))
    rfl spec rfl Try.underlying4 laidOut (by kernel_rfl) walk

theorem over : Rows.rewriteAllRow.holds Try.pinned (OpenSpec.ofChange Rows.rewriteAllSpec) :=
  OpenClaim.holds_of_wide 5 Try.f5 rfl rfl rfl rfl rfl rfl rfl ⟨rfl, rfl, rfl, rfl, rfl⟩ rfl rfl rfl rfl rfl (by kernel_rfl) Try.func5 (by kernel_rfl)
    (of_decide_eq_true (by kernel_rfl)) (by unfold Func.isWrapper; first | (rw [if_pos (by decide +kernel)]; kernel_rfl) | (rw [if_neg (by decide +kernel)]; exact ⟨rfl, rfl⟩))
    (fun os started H enc _ => lifted os started H enc)

theorem proved : Rows.RewriteAllSaid := over
#print axioms proved
end rewriteAll

end Go.Proofs.Ytbmiaohigkjeeaa

