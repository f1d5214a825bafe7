/- RewriteWraps: any packet in another one, and what is in any, is what the document says, or refused. No conditions. -/
import Derived.Test.YtbmiaohigkjeeaaAl
import Derived.Test.YtbmiaohigkjeeaaMrw2
set_option linter.unusedSimpArgs false
set_option linter.unusedVariables false
namespace Go.Proofs.Ytbmiaohigkjeeaa.Ae
open Go Go.RowKit
def ann_outriderlaw19_RewriteWraps : Nat → List Nat × Nat × List (List Nat)
  | 2000005 => ([], 9, [[], [0], [0, 1], [0, 1, 2], [0, 1, 2, 3], [0, 1, 2, 3, 4], [0, 1, 2, 3, 4, 5], [0, 1, 2, 3, 4, 5, 6]])
  | 2000009 => ([], 9, [[], [0], [0, 1], [0, 1, 2], [0, 1, 2, 3], [0, 1, 2, 3, 4], [0, 1, 2, 3, 4, 5], [0, 1, 2, 3, 4, 5, 6]])
  | _ => ([], 0, [])
set_option maxRecDepth 100000 in
theorem RewriteWraps_eq (f t : List UInt8) (p q : Int) (b : List UInt8) (x y : List UInt8) (K : AVal → Hp → Prop) : fnP Try.prog Tlw ann_outriderlaw19_RewriteWraps Try.f7 [.agg [.str f, .str t, .int .i64 p, .int .i64 q, .str b], .str x, .str y] [] K = (
 brP (decide ((3000 : Int) < (↑(List.length b) : Int))) (K (AVal.bool true) [])
 (I64 q ∧
 I64 q ∧
 brP
 (!(decide ((rwWrap (Ip.mk f t p q b) x y).fst.src = (rwWrap (Ip.mk f t p q b) x y).fst.src) &&
 (decide ((rwWrap (Ip.mk f t p q b) x y).fst.dst = (rwWrap (Ip.mk f t p q b) x y).fst.dst) &&
 (decide ((rwWrap (Ip.mk f t p q b) x y).fst.proto = (rwWrap (Ip.mk f t p q b) x y).fst.proto) &&
 (decide ((rwWrap (Ip.mk f t p q b) x y).fst.ttl = (rwWrap (Ip.mk f t p q b) x y).fst.ttl) &&
 decide ((rwWrap (Ip.mk f t p q b) x y).fst.body = (rwWrap (Ip.mk f t p q b) x y).fst.body))))) ||
 !decide ((rwWrap (Ip.mk f t p q b) x y).snd = (rwWrap (Ip.mk f t p q b) x y).snd))
 (K (AVal.bool false) [])
 (List.length b ≤ (140737488351232 : Nat) ∧
 List.length b ≤ (140737488351232 : Nat) ∧
 brP
 (!(decide ((rwUnwrap (Ip.mk f t p q b)).fst.src = (rwUnwrap (Ip.mk f t p q b)).fst.src) &&
 (decide ((rwUnwrap (Ip.mk f t p q b)).fst.dst = (rwUnwrap (Ip.mk f t p q b)).fst.dst) &&
 (decide ((rwUnwrap (Ip.mk f t p q b)).fst.proto = (rwUnwrap (Ip.mk f t p q b)).fst.proto) &&
 (decide ((rwUnwrap (Ip.mk f t p q b)).fst.ttl = (rwUnwrap (Ip.mk f t p q b)).fst.ttl) &&
 decide ((rwUnwrap (Ip.mk f t p q b)).fst.body = (rwUnwrap (Ip.mk f t p q b)).fst.body))))) ||
 !decide ((rwUnwrap (Ip.mk f t p q b)).snd = (rwUnwrap (Ip.mk f t p q b)).snd))
 (K (AVal.bool false) [])
 (brP (!decide ((rwWrap (Ip.mk f t p q b) x y).snd = (0 : Int))) (K (AVal.bool true) [])
 (List.length (rwWrap (Ip.mk f t p q b) x y).fst.body ≤ (140737488351232 : Nat) ∧
 brP (decide (q ≤ (1 : Int)))
 (brP
 (decide
 ((rwUnwrap
 (Ip.mk (rwWrap (Ip.mk f t p q b) x y).fst.src (rwWrap (Ip.mk f t p q b) x y).fst.dst
 (rwWrap (Ip.mk f t p q b) x y).fst.proto (rwWrap (Ip.mk f t p q b) x y).fst.ttl
 (rwWrap (Ip.mk f t p q b) x y).fst.body)).snd =
 (0 : Int)))
 (K
 (AVal.bool
 (decide
 ((rwUnwrap
 (Ip.mk (rwWrap (Ip.mk f t p q b) x y).fst.src (rwWrap (Ip.mk f t p q b) x y).fst.dst
 (rwWrap (Ip.mk f t p q b) x y).fst.proto (rwWrap (Ip.mk f t p q b) x y).fst.ttl
 (rwWrap (Ip.mk f t p q b) x y).fst.body)).fst.src =
 []) &&
 (decide
 ((rwUnwrap
 (Ip.mk (rwWrap (Ip.mk f t p q b) x y).fst.src (rwWrap (Ip.mk f t p q b) x y).fst.dst
 (rwWrap (Ip.mk f t p q b) x y).fst.proto (rwWrap (Ip.mk f t p q b) x y).fst.ttl
 (rwWrap (Ip.mk f t p q b) x y).fst.body)).fst.dst =
 []) &&
 (decide
 ((rwUnwrap
 (Ip.mk (rwWrap (Ip.mk f t p q b) x y).fst.src (rwWrap (Ip.mk f t p q b) x y).fst.dst
 (rwWrap (Ip.mk f t p q b) x y).fst.proto (rwWrap (Ip.mk f t p q b) x y).fst.ttl
 (rwWrap (Ip.mk f t p q b) x y).fst.body)).fst.proto =
 (0 : Int)) &&
 (decide
 ((rwUnwrap
 (Ip.mk (rwWrap (Ip.mk f t p q b) x y).fst.src (rwWrap (Ip.mk f t p q b) x y).fst.dst
 (rwWrap (Ip.mk f t p q b) x y).fst.proto (rwWrap (Ip.mk f t p q b) x y).fst.ttl
 (rwWrap (Ip.mk f t p q b) x y).fst.body)).fst.ttl =
 (0 : Int)) &&
 decide
 ((rwUnwrap
 (Ip.mk (rwWrap (Ip.mk f t p q b) x y).fst.src (rwWrap (Ip.mk f t p q b) x y).fst.dst
 (rwWrap (Ip.mk f t p q b) x y).fst.proto (rwWrap (Ip.mk f t p q b) x y).fst.ttl
 (rwWrap (Ip.mk f t p q b) x y).fst.body)).fst.body =
 []))))))
 [])
 (K (AVal.bool false) []))
 (I64 (q - (1 : Int)) ∧
 brP
 (decide
 ((rwUnwrap
 (Ip.mk (rwWrap (Ip.mk f t p q b) x y).fst.src (rwWrap (Ip.mk f t p q b) x y).fst.dst
 (rwWrap (Ip.mk f t p q b) x y).fst.proto (rwWrap (Ip.mk f t p q b) x y).fst.ttl
 (rwWrap (Ip.mk f t p q b) x y).fst.body)).snd =
 (0 : Int)))
 (K
 (AVal.bool
 (decide
 ((rwUnwrap
 (Ip.mk (rwWrap (Ip.mk f t p q b) x y).fst.src (rwWrap (Ip.mk f t p q b) x y).fst.dst
 (rwWrap (Ip.mk f t p q b) x y).fst.proto (rwWrap (Ip.mk f t p q b) x y).fst.ttl
 (rwWrap (Ip.mk f t p q b) x y).fst.body)).fst.src =
 f) &&
 (decide
 ((rwUnwrap
 (Ip.mk (rwWrap (Ip.mk f t p q b) x y).fst.src (rwWrap (Ip.mk f t p q b) x y).fst.dst
 (rwWrap (Ip.mk f t p q b) x y).fst.proto (rwWrap (Ip.mk f t p q b) x y).fst.ttl
 (rwWrap (Ip.mk f t p q b) x y).fst.body)).fst.dst =
 t) &&
 (decide
 ((rwUnwrap
 (Ip.mk (rwWrap (Ip.mk f t p q b) x y).fst.src (rwWrap (Ip.mk f t p q b) x y).fst.dst
 (rwWrap (Ip.mk f t p q b) x y).fst.proto (rwWrap (Ip.mk f t p q b) x y).fst.ttl
 (rwWrap (Ip.mk f t p q b) x y).fst.body)).fst.proto =
 p) &&
 (decide
 ((rwUnwrap
 (Ip.mk (rwWrap (Ip.mk f t p q b) x y).fst.src (rwWrap (Ip.mk f t p q b) x y).fst.dst
 (rwWrap (Ip.mk f t p q b) x y).fst.proto (rwWrap (Ip.mk f t p q b) x y).fst.ttl
 (rwWrap (Ip.mk f t p q b) x y).fst.body)).fst.ttl =
 q - (1 : Int)) &&
 decide
 ((rwUnwrap
 (Ip.mk (rwWrap (Ip.mk f t p q b) x y).fst.src (rwWrap (Ip.mk f t p q b) x y).fst.dst
 (rwWrap (Ip.mk f t p q b) x y).fst.proto (rwWrap (Ip.mk f t p q b) x y).fst.ttl
 (rwWrap (Ip.mk f t p q b) x y).fst.body)).fst.body =
 b))))))
 [])
 (K (AVal.bool false) []))))))) := by kernel_rfl
theorem rewriteWraps.core (f t : List UInt8) (p q : Int) (b : List UInt8) (x y : List UInt8)  (h_f : f.length ≤ 140737488351232) (h_t : t.length ≤ 140737488351232) (h_p : -9223372036854775808 ≤ p ∧ p ≤ 9223372036854775807) (h_q : -9223372036854775808 ≤ q ∧ q ≤ 9223372036854775807) (h_b : b.length ≤ 140737488351232) (h_x : x.length ≤ 140737488351232) (h_y : y.length ≤ 140737488351232) :
    fnP Try.prog Tlw ann_outriderlaw19_RewriteWraps Try.f7 [.agg [.str f, .str t, .int .i64 p, .int .i64 q, .str b], .str x, .str y] [] (fun v _ => v = .bool true) := by
  rw [RewriteWraps_eq]
  have iq : I64 q := by unfold I64; omega
  have iq1 : ¬ q ≤ 1 → I64 (q - 1) := fun h => by unfold I64; omega
  refine brP_d (fun _ => rfl) (fun hb => ⟨iq, iq, ?_⟩)
  rcases wrap_cases ⟨f, t, p, q, b⟩ x y with h | ⟨h1, W, h2, h3, h4⟩
  · generalize rwWrap ⟨f, t, p, q, b⟩ x y = X at h ⊢
    simp [brP, h_b, h]
  · simp only at h1 h3
    rw [h2]
    have h4' : W.body.length ≤ 140737488351232 := by omega
    have iq2 := iq1 h1
    have eta : (⟨W.src, W.dst, W.proto, W.ttl, W.body⟩ : Ip) = W := rfl
    simp [brP, h_b, h1, eta, h3, h4', iq2]
end Go.Proofs.Ytbmiaohigkjeeaa.Ae
namespace Go.Proofs.Ytbmiaohigkjeeaa
open Go Go.RowKit Ae
attribute [local irreducible] fnP in
set_option maxRecDepth 100000 in
theorem rewriteWraps.walk {H : Type} {enc : TypeId × Value → H} (W : World) (args : Array Value) (hn : args.size = 3)
    (h : ∀ (j : Nat) t v, Try.f7.params[j]? = some t → args[j]? = some v → RdV enc false Try.prog W t v) :
    Calls Try.prog 7 args W fun e w' => e = .returned (.bool true) ∧ Below W.heap.size W w' := by
  obtain ⟨v0, v1, v2, rfl⟩ := args3 hn
  obtain ⟨vs0, hs0, hv0⟩ := arg_agg (b := false) (d := 6) (ks := [.str, .str, .int .i64, .int .i64, .str]) (.inl ⟨_, Try.underlying24⟩) (by kernel_rfl) (h 0 24 v0 rfl rfl)
  obtain ⟨_, _, rfl, ⟨f, rfl, h_f⟩, _, _, rfl, ⟨t, rfl, h_t⟩, _, _, rfl, ⟨p, rfl, h_p⟩, _, _, rfl, ⟨q, rfl, h_q⟩, _, _, rfl, ⟨b, rfl, h_b⟩, rfl⟩ := hs0
  obtain ⟨x, h_x, hv1⟩ := arg_str (b := false) (m := Mp.nil) (G := []) Try.underlying22 (h 1 22 v1 rfl rfl)
  obtain ⟨y, h_y, hv2⟩ := arg_str (b := false) (m := Mp.nil) (G := []) Try.underlying22 (h 2 22 v2 rfl rfl)
  obtain ⟨r, H1, hr, hG⟩ := fn_sound Tlw_sound mixed Try.func7 (by decide +kernel) (rewriteWraps.core f t p q b x y (len_lim h_f) (len_lim h_t) (i64_bd h_p) (i64_bd h_q) (len_lim h_b) (len_lim h_x) (len_lim h_y))
  subst hr
  exact law_walk hG (vl_cons hv0 (vl_cons hv1 (vl_cons hv2 vl_nil)))

namespace rewriteWraps
theorem spec {H : Type} (ds : List (DataW H)) (h : ds.length = Try.f7.params.size) : Rows.rewriteWrapsSpec.fn H ds = { results := [.lit (.bool true)], args := ds } := by
  have h' : ds.length = 3 := h
  match ds, h' with
  | [_, _, _], _ => rfl

set_option maxRecDepth 100000 in
theorem lifted (os : Os) (started : os.Started) (H : Type) (enc : TypeId × Value → H) :
    ReturnsInHanded {} Try.checked os 7 .any (Rows.rewriteWrapsSpec.pre6 enc Try.prog Try.f7 Rows.rewriteWrapsRow.domain false) (Rows.rewriteWrapsSpec.post enc Try.prog Try.f7 false true false false) :=
  lifted_said (C := Try.checked) (tb := 4) own started (by kernel_rfl) Try.func7
    (ChangeSpec.witness6 (enc := enc) (C := Try.checked) false ⟨#[], #[.agg #[.string .empty, .string .empty, .int .i64 0, .int .i64 0, .string .empty], .string .empty, .string .empty], []⟩ 8 (by kernel_rfl) (by kernel_rfl) (by kernel_rfl) (by kernel_rfl))
    rfl spec rfl Try.underlying4 laidOut (by kernel_rfl) walk

theorem over : Rows.rewriteWrapsRow.holds Try.pinned (OpenSpec.ofChange Rows.rewriteWrapsSpec) :=
  OpenClaim.holds_of_wide 7 Try.f7 rfl rfl rfl rfl rfl rfl rfl ⟨rfl, rfl, rfl, rfl, rfl⟩ rfl rfl rfl rfl rfl (by kernel_rfl) Try.func7 (by kernel_rfl)
    (of_decide_eq_true (by kernel_rfl)) (by unfold Func.isWrapper; first | (rw [if_pos (by decide +kernel)]; kernel_rfl) | (rw [if_neg (by decide +kernel)]; exact ⟨rfl, rfl⟩))
    (fun os started H enc _ => lifted os started H enc)

theorem proved : Rows.RewriteWrapsSaid := over
#print axioms proved
end rewriteWraps

end Go.Proofs.Ytbmiaohigkjeeaa

