/- AdvertBack: what was written is read as it was. No conditions. -/
import Derived.Test.YtbjolilknkbehaaAr
import Derived.Test.YtbjolilknkbehaaMad2
import Derived.Test.YtbjolilknkbehaaAeQk
set_option linter.unusedSimpArgs false
set_option linter.unusedVariables false
set_option maxRecDepth 100000
namespace Go.Proofs.Ytbjolilknkbehaa.Ae
open Go Go.RowKit
def ann_outriderlaw06_AdvertBack : Nat → List Nat × Nat × List (List Nat)
  | _ => ([], 0, [])
set_option maxRecDepth 100000 in
theorem AdvertBack_eq (a : Adv) (s : List UInt8) (K : AVal → Hp → Prop) : fnP Try.prog Tlw ann_outriderlaw06_AdvertBack Try.f4 [.agg (advCells a), .str s] [] K = (
 ((IsStrs (List.length a.addrs) fun i => [AVal.str (List.getD a.addrs i [])]) ∧
 List.length a.addrs ≤ (140737488351232 : Nat)) ∧
 brP
 (!decide
 ((adEncode (Adv.mk a.id a.pri a.every (strs (List.length a.addrs) fun i => [AVal.str (List.getD a.addrs i [])]))
 s).snd =
 (0 : Int)))
 (K
 (AVal.bool
 (decide
 ((adEncode (Adv.mk a.id a.pri a.every (strs (List.length a.addrs) fun i => [AVal.str (List.getD a.addrs i [])]))
 s).fst.src =
 []) &&
 (decide
 ((adEncode (Adv.mk a.id a.pri a.every (strs (List.length a.addrs) fun i => [AVal.str (List.getD a.addrs i [])]))
 s).fst.dst =
 []) &&
 (decide
 ((adEncode
 (Adv.mk a.id a.pri a.every (strs (List.length a.addrs) fun i => [AVal.str (List.getD a.addrs i [])]))
 s).fst.proto =
 (0 : Int)) &&
 (decide
 ((adEncode
 (Adv.mk a.id a.pri a.every (strs (List.length a.addrs) fun i => [AVal.str (List.getD a.addrs i [])]))
 s).fst.ttl =
 (0 : Int)) &&
 decide
 ((adEncode
 (Adv.mk a.id a.pri a.every (strs (List.length a.addrs) fun i => [AVal.str (List.getD a.addrs i [])]))
 s).fst.body =
 []))))))
 [])
 (List.length
 (adEncode (Adv.mk a.id a.pri a.every (strs (List.length a.addrs) fun i => [AVal.str (List.getD a.addrs i [])]))
 s).fst.body ≤
 (140737488351232 : Nat) ∧
 brP
 (decide
 ((adDecode
 (Ip.mk
 (adEncode
 (Adv.mk a.id a.pri a.every (strs (List.length a.addrs) fun i => [AVal.str (List.getD a.addrs i [])]))
 s).fst.src
 (adEncode
 (Adv.mk a.id a.pri a.every (strs (List.length a.addrs) fun i => [AVal.str (List.getD a.addrs i [])]))
 s).fst.dst
 (adEncode
 (Adv.mk a.id a.pri a.every (strs (List.length a.addrs) fun i => [AVal.str (List.getD a.addrs i [])]))
 s).fst.proto
 (adEncode
 (Adv.mk a.id a.pri a.every (strs (List.length a.addrs) fun i => [AVal.str (List.getD a.addrs i [])]))
 s).fst.ttl
 (adEncode
 (Adv.mk a.id a.pri a.every (strs (List.length a.addrs) fun i => [AVal.str (List.getD a.addrs i [])]))
 s).fst.body)).snd =
 (0 : Int)))
 (((IsStrs
 (List.length
 (adDecode
 (Ip.mk
 (adEncode
 (Adv.mk a.id a.pri a.every (strs (List.length a.addrs) fun i => [AVal.str (List.getD a.addrs i [])]))
 s).fst.src
 (adEncode
 (Adv.mk a.id a.pri a.every (strs (List.length a.addrs) fun i => [AVal.str (List.getD a.addrs i [])]))
 s).fst.dst
 (adEncode
 (Adv.mk a.id a.pri a.every (strs (List.length a.addrs) fun i => [AVal.str (List.getD a.addrs i [])]))
 s).fst.proto
 (adEncode
 (Adv.mk a.id a.pri a.every (strs (List.length a.addrs) fun i => [AVal.str (List.getD a.addrs i [])]))
 s).fst.ttl
 (adEncode
 (Adv.mk a.id a.pri a.every (strs (List.length a.addrs) fun i => [AVal.str (List.getD a.addrs i [])]))
 s).fst.body)).fst.addrs)
 fun i =>
 [AVal.str
 (List.getD
 (adDecode
 (Ip.mk
 (adEncode
 (Adv.mk a.id a.pri a.every (strs (List.length a.addrs) fun i => [AVal.str (List.getD a.addrs i [])]))
 s).fst.src
 (adEncode
 (Adv.mk a.id a.pri a.every (strs (List.length a.addrs) fun i => [AVal.str (List.getD a.addrs i [])]))
 s).fst.dst
 (adEncode
 (Adv.mk a.id a.pri a.every (strs (List.length a.addrs) fun i => [AVal.str (List.getD a.addrs i [])]))
 s).fst.proto
 (adEncode
 (Adv.mk a.id a.pri a.every (strs (List.length a.addrs) fun i => [AVal.str (List.getD a.addrs i [])]))
 s).fst.ttl
 (adEncode
 (Adv.mk a.id a.pri a.every (strs (List.length a.addrs) fun i => [AVal.str (List.getD a.addrs i [])]))
 s).fst.body)).fst.addrs
 i [])]) ∧
 (IsStrs (List.length a.addrs) fun i => [AVal.str (List.getD a.addrs i [])]) ∧
 List.length
 (adDecode
 (Ip.mk
 (adEncode
 (Adv.mk a.id a.pri a.every (strs (List.length a.addrs) fun i => [AVal.str (List.getD a.addrs i [])]))
 s).fst.src
 (adEncode
 (Adv.mk a.id a.pri a.every (strs (List.length a.addrs) fun i => [AVal.str (List.getD a.addrs i [])]))
 s).fst.dst
 (adEncode
 (Adv.mk a.id a.pri a.every (strs (List.length a.addrs) fun i => [AVal.str (List.getD a.addrs i [])]))
 s).fst.proto
 (adEncode
 (Adv.mk a.id a.pri a.every (strs (List.length a.addrs) fun i => [AVal.str (List.getD a.addrs i [])]))
 s).fst.ttl
 (adEncode
 (Adv.mk a.id a.pri a.every (strs (List.length a.addrs) fun i => [AVal.str (List.getD a.addrs i [])]))
 s).fst.body)).fst.addrs ≤
 (8796093022000 : Nat)) ∧
 K
 (AVal.bool
 (sameA
 (adDecode
 (Ip.mk
 (adEncode
 (Adv.mk a.id a.pri a.every (strs (List.length a.addrs) fun i => [AVal.str (List.getD a.addrs i [])]))
 s).fst.src
 (adEncode
 (Adv.mk a.id a.pri a.every (strs (List.length a.addrs) fun i => [AVal.str (List.getD a.addrs i [])]))
 s).fst.dst
 (adEncode
 (Adv.mk a.id a.pri a.every (strs (List.length a.addrs) fun i => [AVal.str (List.getD a.addrs i [])]))
 s).fst.proto
 (adEncode
 (Adv.mk a.id a.pri a.every (strs (List.length a.addrs) fun i => [AVal.str (List.getD a.addrs i [])]))
 s).fst.ttl
 (adEncode
 (Adv.mk a.id a.pri a.every (strs (List.length a.addrs) fun i => [AVal.str (List.getD a.addrs i [])]))
 s).fst.body)).fst.id
 (adDecode
 (Ip.mk
 (adEncode
 (Adv.mk a.id a.pri a.every (strs (List.length a.addrs) fun i => [AVal.str (List.getD a.addrs i [])]))
 s).fst.src
 (adEncode
 (Adv.mk a.id a.pri a.every (strs (List.length a.addrs) fun i => [AVal.str (List.getD a.addrs i [])]))
 s).fst.dst
 (adEncode
 (Adv.mk a.id a.pri a.every (strs (List.length a.addrs) fun i => [AVal.str (List.getD a.addrs i [])]))
 s).fst.proto
 (adEncode
 (Adv.mk a.id a.pri a.every (strs (List.length a.addrs) fun i => [AVal.str (List.getD a.addrs i [])]))
 s).fst.ttl
 (adEncode
 (Adv.mk a.id a.pri a.every (strs (List.length a.addrs) fun i => [AVal.str (List.getD a.addrs i [])]))
 s).fst.body)).fst.pri
 (adDecode
 (Ip.mk
 (adEncode
 (Adv.mk a.id a.pri a.every (strs (List.length a.addrs) fun i => [AVal.str (List.getD a.addrs i [])]))
 s).fst.src
 (adEncode
 (Adv.mk a.id a.pri a.every (strs (List.length a.addrs) fun i => [AVal.str (List.getD a.addrs i [])]))
 s).fst.dst
 (adEncode
 (Adv.mk a.id a.pri a.every (strs (List.length a.addrs) fun i => [AVal.str (List.getD a.addrs i [])]))
 s).fst.proto
 (adEncode
 (Adv.mk a.id a.pri a.every (strs (List.length a.addrs) fun i => [AVal.str (List.getD a.addrs i [])]))
 s).fst.ttl
 (adEncode
 (Adv.mk a.id a.pri a.every (strs (List.length a.addrs) fun i => [AVal.str (List.getD a.addrs i [])]))
 s).fst.body)).fst.every
 (List.length
 (adDecode
 (Ip.mk
 (adEncode
 (Adv.mk a.id a.pri a.every (strs (List.length a.addrs) fun i => [AVal.str (List.getD a.addrs i [])]))
 s).fst.src
 (adEncode
 (Adv.mk a.id a.pri a.every (strs (List.length a.addrs) fun i => [AVal.str (List.getD a.addrs i [])]))
 s).fst.dst
 (adEncode
 (Adv.mk a.id a.pri a.every (strs (List.length a.addrs) fun i => [AVal.str (List.getD a.addrs i [])]))
 s).fst.proto
 (adEncode
 (Adv.mk a.id a.pri a.every (strs (List.length a.addrs) fun i => [AVal.str (List.getD a.addrs i [])]))
 s).fst.ttl
 (adEncode
 (Adv.mk a.id a.pri a.every (strs (List.length a.addrs) fun i => [AVal.str (List.getD a.addrs i [])]))
 s).fst.body)).fst.addrs)
 (fun i =>
 [AVal.str
 (List.getD
 (adDecode
 (Ip.mk
 (adEncode
 (Adv.mk a.id a.pri a.every
 (strs (List.length a.addrs) fun i => [AVal.str (List.getD a.addrs i [])]))
 s).fst.src
 (adEncode
 (Adv.mk a.id a.pri a.every
 (strs (List.length a.addrs) fun i => [AVal.str (List.getD a.addrs i [])]))
 s).fst.dst
 (adEncode
 (Adv.mk a.id a.pri a.every
 (strs (List.length a.addrs) fun i => [AVal.str (List.getD a.addrs i [])]))
 s).fst.proto
 (adEncode
 (Adv.mk a.id a.pri a.every
 (strs (List.length a.addrs) fun i => [AVal.str (List.getD a.addrs i [])]))
 s).fst.ttl
 (adEncode
 (Adv.mk a.id a.pri a.every
 (strs (List.length a.addrs) fun i => [AVal.str (List.getD a.addrs i [])]))
 s).fst.body)).fst.addrs
 i [])])
 a.id a.pri a.every (List.length a.addrs) fun i => [AVal.str (List.getD a.addrs i [])]))
 [])
 (K (AVal.bool false) []))) := by kernel_rfl
attribute [local irreducible] fnP in
theorem advertBack.core (a : Adv) (s : List UInt8) (h_a : AdvOk a) (h_s : s.length ≤ 140737488351232) :
    fnP Try.prog Tlw ann_outriderlaw06_AdvertBack Try.f4 [.agg (advCells a), .str s] [] (fun v _ => v = .bool true) := by
  rw [AdvertBack_eq]
  obtain ⟨a1, a2, a3, a4⟩ := h_a
  have eta : (⟨a.id, a.pri, a.every, a.addrs⟩ : Adv) = a := rfl
  have eip : ∀ P : Ip, (⟨P.src, P.dst, P.proto, P.ttl, P.body⟩ : Ip) = P := fun _ => rfl
  simp only [strs_of, eta]
  have hs : IsStrs a.addrs.length (fun i => [AVal.str (a.addrs.getD i [])]) ∧ a.addrs.length ≤ 140737488351232 := ⟨isStrs_of _ _, by omega⟩
  refine ⟨hs, ?_⟩
  by_cases hr : adRight a s = true
  case neg =>
    rw [adEncode_no hr]
    exact brP_i (fun _ => rfl) (fun h => by simp at h)
  have f := ad_facts hr
  have hbl : (adPacket a s).body.length ≤ 136 := by
    show (adBody a (adSum a s)).length ≤ 136
    have := (ad_len hr).2
    rw [f.len]; omega
  rw [adEncode_yes hr]
  simp only [eip]
  refine brP_i (fun h => by simp at h) (fun _ => ⟨by omega, ?_⟩)
  rw [ad_back hr]
  refine brP_i (fun _ => ⟨⟨isStrs_of _ _, isStrs_of _ _, by show a.addrs.length ≤ _; omega⟩, ?_⟩) (fun h => by simp at h)
  show AVal.bool (sameA a.id a.pri a.every a.addrs.length _ a.id a.pri a.every a.addrs.length _) = _
  unfold sameA
  simp
end Go.Proofs.Ytbjolilknkbehaa.Ae
namespace Go.Proofs.Ytbjolilknkbehaa
open Go Go.RowKit Ae
attribute [local irreducible] fnP in
set_option maxRecDepth 100000 in
theorem advertBack.walk {H : Type} {enc : TypeId × Value → H} (W : World) (args : Array Value) (hn : args.size = 2)
    (h : ∀ (j : Nat) t v, Try.f4.params[j]? = some t → args[j]? = some v → RdV enc false Try.prog W t v) :
    Calls Try.prog 4 args W fun e w' => e = .returned (.bool true) ∧ Below W.heap.size W w' := by
  obtain ⟨v0, v1, rfl⟩ := args2 hn
  obtain ⟨a, h_a, hv0⟩ := arg_struct (b := false) (.inl ⟨_, Try.underlying24⟩) open_adv (h 0 24 v0 rfl rfl)
  obtain ⟨s, h_s, hv1⟩ := arg_str (b := false) (m := Mp.nil) (G := []) Try.underlying25 (h 1 25 v1 rfl rfl)
  obtain ⟨r, H1, hr, hG⟩ := fn_sound Tlw_sound mixed Try.func4 (by decide +kernel) (advertBack.core a s h_a (len_lim h_s))
  subst hr
  exact law_walk hG (vl_cons hv0 (vl_cons hv1 vl_nil))

namespace advertBack
theorem spec {H : Type} (ds : List (DataW H)) (h : ds.length = Try.f4.params.size) : Rows.advertBackSpec.fn H ds = { results := [.lit (.bool true)], args := ds } := by
  have h' : ds.length = 2 := h
  match ds, h' with
  | [_, _], _ => rfl

set_option maxRecDepth 100000 in
theorem lifted (os : Os) (started : os.Started) (H : Type) (enc : TypeId × Value → H) :
    ReturnsInHanded {} Try.checked os 4 .any (Rows.advertBackSpec.pre6 enc Try.prog Try.f4 Rows.advertBackRow.domain false) (Rows.advertBackSpec.post enc Try.prog Try.f4 false true false false) :=
  lifted_said (C := Try.checked) (tb := 4) own started (by kernel_rfl) Try.func4
    (ChangeSpec.witness6 (enc := enc) (C := Try.checked) false ⟨#[], #[.agg #[.int .i64 0, .int .i64 0, .int .i64 0, .slice none 0 0], .string .empty], []⟩ 8 (by kernel_rfl) (by kernel_rfl) (by kernel_rfl) (by kernel_rfl))
    rfl spec rfl Try.underlying4 laidOut (by kernel_rfl) walk

theorem over : Rows.advertBackRow.holds Try.pinned (OpenSpec.ofChange Rows.advertBackSpec) :=
  OpenClaim.holds_of_wide 4 Try.f4 rfl rfl rfl rfl rfl rfl rfl ⟨rfl, rfl, rfl, rfl, rfl⟩ rfl rfl rfl rfl rfl (by kernel_rfl) Try.func4 (by kernel_rfl)
    (of_decide_eq_true (by kernel_rfl)) (by unfold Func.isWrapper; first | (rw [if_pos (by decide +kernel)]; kernel_rfl) | (rw [if_neg (by decide +kernel)]; exact ⟨rfl, rfl⟩))
    (fun os started H enc _ => lifted os started H enc)

theorem proved : Rows.AdvertBackSaid := over
#print axioms proved
end advertBack

end Go.Proofs.Ytbjolilknkbehaa

