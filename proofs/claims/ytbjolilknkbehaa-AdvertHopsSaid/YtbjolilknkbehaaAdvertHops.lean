/- AdvertHops: one that came from further on, or is no Proto of an advertisement, is refused. No conditions. -/
import Derived.Test.YtbjolilknkbehaaAr
import Derived.Test.YtbjolilknkbehaaMad2
import Derived.Test.YtbjolilknkbehaaAeQk
set_option linter.unusedSimpArgs false
set_option linter.unusedVariables false
set_option maxRecDepth 100000
namespace Go.Proofs.Ytbjolilknkbehaa.Ae
open Go Go.RowKit
def ann_outriderlaw06_AdvertHops : Nat → List Nat × Nat × List (List Nat)
  | 2000002 => ([], 7, [[], [0], [0, 1], [0, 1, 2], [0, 1, 2, 3], [0, 1, 2, 3, 4]])
  | _ => ([], 0, [])
set_option maxRecDepth 100000 in
theorem AdvertHops_eq (a : Adv) (s : List UInt8) (n : Int) (K : AVal → Hp → Prop) : fnP Try.prog Tlw ann_outriderlaw06_AdvertHops Try.f7 [.agg (advCells a), .str s, .int .i64 n] [] K = (
 ((IsStrs (List.length a.addrs) fun i => [AVal.str (List.getD a.addrs i [])]) ∧
 List.length a.addrs ≤ (140737488351232 : Nat)) ∧
 brP
 (!decide
 ((adEncode (Adv.mk a.id a.pri a.every (strs (List.length a.addrs) fun i => [AVal.str (List.getD a.addrs i [])]))
 s).snd =
 (0 : Int)) ||
 decide (n = (255 : Int)))
 (K (AVal.bool true) [])
 (List.length
 (adEncode (Adv.mk a.id a.pri a.every (strs (List.length a.addrs) fun i => [AVal.str (List.getD a.addrs i [])]))
 s).fst.body ≤
 (140737488351232 : Nat) ∧
 List.length
 (adEncode (Adv.mk a.id a.pri a.every (strs (List.length a.addrs) fun i => [AVal.str (List.getD a.addrs i [])]))
 s).fst.body ≤
 (140737488351232 : Nat) ∧
 brP
 (decide
 ((adDecode
 (Ip.mk
 (adEncode
 (Adv.mk a.id a.pri a.every (strs (List.length a.addrs) fun i => [AVal.str (List.getD a.addrs i [])]))
 s).fst.src
 (adEncode
 (Adv.mk a.id a.pri a.every (strs (List.length a.addrs) fun i => [AVal.str (List.getD a.addrs i [])]))
 s).fst.dst
 (adEncode
 (Adv.mk a.id a.pri a.every (strs (List.length a.addrs) fun i => [AVal.str (List.getD a.addrs i [])]))
 s).fst.proto
 n
 (adEncode
 (Adv.mk a.id a.pri a.every (strs (List.length a.addrs) fun i => [AVal.str (List.getD a.addrs i [])]))
 s).fst.body)).snd =
 (65 : Int)))
 (K
 (AVal.bool
 (decide
 ((adDecode
 (Ip.mk
 (adEncode
 (Adv.mk a.id a.pri a.every (strs (List.length a.addrs) fun i => [AVal.str (List.getD a.addrs i [])]))
 s).fst.src
 (adEncode
 (Adv.mk a.id a.pri a.every (strs (List.length a.addrs) fun i => [AVal.str (List.getD a.addrs i [])]))
 s).fst.dst
 (17 : Int)
 (adEncode
 (Adv.mk a.id a.pri a.every (strs (List.length a.addrs) fun i => [AVal.str (List.getD a.addrs i [])]))
 s).fst.ttl
 (adEncode
 (Adv.mk a.id a.pri a.every (strs (List.length a.addrs) fun i => [AVal.str (List.getD a.addrs i [])]))
 s).fst.body)).snd =
 (65 : Int))))
 [])
 (K (AVal.bool false) []))) := by kernel_rfl
attribute [local irreducible] fnP in
theorem advertHops.core (a : Adv) (s : List UInt8) (n : Int) (h_a : AdvOk a) (h_s : s.length ≤ 140737488351232) (h_n : -9223372036854775808 ≤ n ∧ n ≤ 9223372036854775807) :
    fnP Try.prog Tlw ann_outriderlaw06_AdvertHops Try.f7 [.agg (advCells a), .str s, .int .i64 n] [] (fun v _ => v = .bool true) := by
  rw [AdvertHops_eq]
  obtain ⟨a1, a2, a3, a4⟩ := h_a
  have eta : (⟨a.id, a.pri, a.every, a.addrs⟩ : Adv) = a := rfl
  have eip : ∀ P : Ip, (⟨P.src, P.dst, P.proto, P.ttl, P.body⟩ : Ip) = P := fun _ => rfl
  simp only [strs_of, eta]
  have hs : IsStrs a.addrs.length (fun i => [AVal.str (a.addrs.getD i [])]) ∧ a.addrs.length ≤ 140737488351232 := ⟨isStrs_of _ _, by omega⟩
  refine ⟨hs, ?_⟩
  by_cases hr : adRight a s = true
  case neg =>
    rw [adEncode_no hr]
    exact brP_i (fun _ => trivial) (fun h => by simp at h)
  have f := ad_facts hr
  have hbl : (adPacket a s).body.length ≤ 136 := by
    show (adBody a (adSum a s)).length ≤ 136
    have := (ad_len hr).2
    rw [f.len]; omega
  rw [adEncode_yes hr]
  simp only [eip]
  refine brP_i (fun _ => trivial) (fun h => ⟨by omega, by omega, ?_⟩)
  have hn : n ≠ 255 := by simpa using h
  rw [ad_hops hn, ad_proto]
  exact brP_i (fun _ => rfl) (fun h => by simp at h)
end Go.Proofs.Ytbjolilknkbehaa.Ae
namespace Go.Proofs.Ytbjolilknkbehaa
open Go Go.RowKit Ae
attribute [local irreducible] fnP in
set_option maxRecDepth 100000 in
theorem advertHops.walk {H : Type} {enc : TypeId × Value → H} (W : World) (args : Array Value) (hn : args.size = 3)
    (h : ∀ (j : Nat) t v, Try.f7.params[j]? = some t → args[j]? = some v → RdV enc false Try.prog W t v) :
    Calls Try.prog 7 args W fun e w' => e = .returned (.bool true) ∧ Below W.heap.size W w' := by
  obtain ⟨v0, v1, v2, rfl⟩ := args3 hn
  obtain ⟨a, h_a, hv0⟩ := arg_struct (b := false) (.inl ⟨_, Try.underlying24⟩) open_adv (h 0 24 v0 rfl rfl)
  obtain ⟨s, h_s, hv1⟩ := arg_str (b := false) (m := Mp.nil) (G := []) Try.underlying25 (h 1 25 v1 rfl rfl)
  obtain ⟨n, rfl, h_n, hv2⟩ := arg_int (b := false) (m := Mp.nil) (G := []) Try.underlying3 (h 2 3 v2 rfl rfl)
  obtain ⟨r, H1, hr, hG⟩ := fn_sound Tlw_sound mixed Try.func7 (by decide +kernel) (advertHops.core a s n h_a (len_lim h_s) (i64_bd h_n))
  subst hr
  exact law_walk hG (vl_cons hv0 (vl_cons hv1 (vl_cons hv2 vl_nil)))

namespace advertHops
theorem spec {H : Type} (ds : List (DataW H)) (h : ds.length = Try.f7.params.size) : Rows.advertHopsSpec.fn H ds = { results := [.lit (.bool true)], args := ds } := by
  have h' : ds.length = 3 := h
  match ds, h' with
  | [_, _, _], _ => rfl

set_option maxRecDepth 100000 in
theorem lifted (os : Os) (started : os.Started) (H : Type) (enc : TypeId × Value → H) :
    ReturnsInHanded {} Try.checked os 7 .any (Rows.advertHopsSpec.pre6 enc Try.prog Try.f7 Rows.advertHopsRow.domain false) (Rows.advertHopsSpec.post enc Try.prog Try.f7 false true false false) :=
  lifted_said (C := Try.checked) (tb := 4) own started (by kernel_rfl) Try.func7
    (ChangeSpec.witness6 (enc := enc) (C := Try.checked) false ⟨#[], #[.agg #[.int .i64 0, .int .i64 0, .int .i64 0, .slice none 0 0], .string .empty, .int .i64 0], []⟩ 8 (by kernel_rfl) (by kernel_rfl) (by kernel_rfl) (by kernel_rfl))
    rfl spec rfl Try.underlying4 laidOut (by kernel_rfl) walk

theorem over : Rows.advertHopsRow.holds Try.pinned (OpenSpec.ofChange Rows.advertHopsSpec) :=
  OpenClaim.holds_of_wide 7 Try.f7 rfl rfl rfl rfl rfl rfl rfl ⟨rfl, rfl, rfl, rfl, rfl⟩ rfl rfl rfl rfl rfl (by kernel_rfl) Try.func7 (by kernel_rfl)
    (of_decide_eq_true (by kernel_rfl)) (by unfold Func.isWrapper; first | (rw [if_pos (by decide +kernel)]; kernel_rfl) | (rw [if_neg (by decide +kernel)]; exact ⟨rfl, rfl⟩))
    (fun os started H enc _ => lifted os started H enc)

theorem proved : Rows.AdvertHopsSaid := over
#print axioms proved
end advertHops

end Go.Proofs.Ytbjolilknkbehaa

