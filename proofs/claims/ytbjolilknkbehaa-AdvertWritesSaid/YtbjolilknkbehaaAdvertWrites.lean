/- AdvertWrites: any advertisement is written as the document says, or refused. No conditions. -/
import Derived.Test.YtbjolilknkbehaaAr
import Derived.Test.YtbjolilknkbehaaMad2
import Derived.Test.YtbjolilknkbehaaAeQk
set_option linter.unusedSimpArgs false
set_option linter.unusedVariables false
set_option maxRecDepth 100000
namespace Go.Proofs.Ytbjolilknkbehaa.Ae
open Go Go.RowKit
def ann_outriderlaw06_AdvertWrites : Nat → List Nat × Nat × List (List Nat)
  | _ => ([], 0, [])
set_option maxRecDepth 100000 in
theorem AdvertWrites_eq (a : Adv) (s : List UInt8) (K : AVal → Hp → Prop) : fnP Try.prog Tlw ann_outriderlaw06_AdvertWrites Try.f3 [.agg (advCells a), .str s] [] K = (
 brP (decide ((300 : Int) < (↑(List.length a.addrs) : Int))) (K (AVal.bool true) [])
 (((IsStrs (List.length a.addrs) fun i => [AVal.str (List.getD a.addrs i [])]) ∧
 List.length a.addrs ≤ (140737488351232 : Nat)) ∧
 ((IsStrs (List.length a.addrs) fun i => [AVal.str (List.getD a.addrs i [])]) ∧
 List.length a.addrs ≤ (140737488351232 : Nat)) ∧
 brP
 (decide
 ((adEncode (Adv.mk a.id a.pri a.every (strs (List.length a.addrs) fun i => [AVal.str (List.getD a.addrs i [])]))
 s).fst.src =
 (adEncode (Adv.mk a.id a.pri a.every (strs (List.length a.addrs) fun i => [AVal.str (List.getD a.addrs i [])]))
 s).fst.src) &&
 (decide
 ((adEncode (Adv.mk a.id a.pri a.every (strs (List.length a.addrs) fun i => [AVal.str (List.getD a.addrs i [])]))
 s).fst.dst =
 (adEncode (Adv.mk a.id a.pri a.every (strs (List.length a.addrs) fun i => [AVal.str (List.getD a.addrs i [])]))
 s).fst.dst) &&
 (decide
 ((adEncode
 (Adv.mk a.id a.pri a.every (strs (List.length a.addrs) fun i => [AVal.str (List.getD a.addrs i [])]))
 s).fst.proto =
 (adEncode
 (Adv.mk a.id a.pri a.every (strs (List.length a.addrs) fun i => [AVal.str (List.getD a.addrs i [])]))
 s).fst.proto) &&
 (decide
 ((adEncode
 (Adv.mk a.id a.pri a.every (strs (List.length a.addrs) fun i => [AVal.str (List.getD a.addrs i [])]))
 s).fst.ttl =
 (adEncode
 (Adv.mk a.id a.pri a.every (strs (List.length a.addrs) fun i => [AVal.str (List.getD a.addrs i [])]))
 s).fst.ttl) &&
 decide
 ((adEncode
 (Adv.mk a.id a.pri a.every (strs (List.length a.addrs) fun i => [AVal.str (List.getD a.addrs i [])]))
 s).fst.body =
 (adEncode
 (Adv.mk a.id a.pri a.every (strs (List.length a.addrs) fun i => [AVal.str (List.getD a.addrs i [])]))
 s).fst.body)))))
 (brP
 (decide
 ((adEncode (Adv.mk a.id a.pri a.every (strs (List.length a.addrs) fun i => [AVal.str (List.getD a.addrs i [])]))
 s).snd =
 (adEncode (Adv.mk a.id a.pri a.every (strs (List.length a.addrs) fun i => [AVal.str (List.getD a.addrs i [])]))
 s).snd))
 (((0 : Int) ≤ (16 : Int) ∧ (16 : Int) = (16 : Int) ∧ (16 : Int) ≤ (140737488355328 : Int)) ∧
 ((0 : Int) ≤ (0 : Int) ∧ (0 : Int) < (16 : Int)) ∧
 (0 : Nat) < (16 : Nat) ∧
 ((0 : Int) ≤ (1 : Int) ∧ (1 : Int) < (16 : Int)) ∧
 (1 : Nat) < (16 : Nat) ∧
 ((0 : Int) ≤ (15 : Int) ∧ (15 : Int) < (16 : Int)) ∧
 (15 : Nat) < (16 : Nat) ∧
 K
 (AVal.bool
 (decide
 ([(255 : UInt8), (2 : UInt8), (0 : UInt8), (0 : UInt8), (0 : UInt8), (0 : UInt8), (0 : UInt8),
 (0 : UInt8), (0 : UInt8), (0 : UInt8), (0 : UInt8), (0 : UInt8), (0 : UInt8), (0 : UInt8),
 (0 : UInt8), (18 : UInt8)] =
 List.take (16 : Nat)
 (List.drop (0 : Nat)
 (List.set
 (List.set
 (List.set
 [(0 : UInt8), (0 : UInt8), (0 : UInt8), (0 : UInt8), (0 : UInt8), (0 : UInt8), (0 : UInt8),
 (0 : UInt8), (0 : UInt8), (0 : UInt8), (0 : UInt8), (0 : UInt8), (0 : UInt8), (0 : UInt8),
 (0 : UInt8), (0 : UInt8)]
 (0 : Nat) (255 : UInt8))
 (1 : Nat) (2 : UInt8))
 (15 : Nat) (18 : UInt8))))))
 [])
 (K (AVal.bool false) []))
 (K (AVal.bool false) []))) := by kernel_rfl
attribute [local irreducible] fnP in
theorem advertWrites.core (a : Adv) (s : List UInt8) (h_a : AdvOk a) (h_s : s.length ≤ 140737488351232) :
    fnP Try.prog Tlw ann_outriderlaw06_AdvertWrites Try.f3 [.agg (advCells a), .str s] [] (fun v _ => v = .bool true) := by
  rw [AdvertWrites_eq]
  obtain ⟨a1, a2, a3, a4⟩ := h_a
  have eta : (⟨a.id, a.pri, a.every, a.addrs⟩ : Adv) = a := rfl
  have eip : ∀ P : Ip, (⟨P.src, P.dst, P.proto, P.ttl, P.body⟩ : Ip) = P := fun _ => rfl
  simp only [strs_of, eta]
  have hs : IsStrs a.addrs.length (fun i => [AVal.str (a.addrs.getD i [])]) ∧ a.addrs.length ≤ 140737488351232 := ⟨isStrs_of _ _, by omega⟩
  simp only [decide_true, Bool.and_self, brP_t]
  refine brP_d (fun _ => trivial) (fun _ => ⟨hs, hs, ⟨by omega, trivial, by omega⟩, ⟨by omega, by omega⟩, by omega, ⟨by omega, by omega⟩, by omega, ⟨by omega, by omega⟩, by omega, ?_⟩)
  exact congrArg AVal.bool (by decide)
end Go.Proofs.Ytbjolilknkbehaa.Ae
namespace Go.Proofs.Ytbjolilknkbehaa
open Go Go.RowKit Ae
attribute [local irreducible] fnP in
set_option maxRecDepth 100000 in
theorem advertWrites.walk {H : Type} {enc : TypeId × Value → H} (W : World) (args : Array Value) (hn : args.size = 2)
    (h : ∀ (j : Nat) t v, Try.f3.params[j]? = some t → args[j]? = some v → RdV enc false Try.prog W t v) :
    Calls Try.prog 3 args W fun e w' => e = .returned (.bool true) ∧ Below W.heap.size W w' := by
  obtain ⟨v0, v1, rfl⟩ := args2 hn
  obtain ⟨a, h_a, hv0⟩ := arg_struct (b := false) (.inl ⟨_, Try.underlying24⟩) open_adv (h 0 24 v0 rfl rfl)
  obtain ⟨s, h_s, hv1⟩ := arg_str (b := false) (m := Mp.nil) (G := []) Try.underlying25 (h 1 25 v1 rfl rfl)
  obtain ⟨r, H1, hr, hG⟩ := fn_sound Tlw_sound mixed Try.func3 (by decide +kernel) (advertWrites.core a s h_a (len_lim h_s))
  subst hr
  exact law_walk hG (vl_cons hv0 (vl_cons hv1 vl_nil))

namespace advertWrites
theorem spec {H : Type} (ds : List (DataW H)) (h : ds.length = Try.f3.params.size) : Rows.advertWritesSpec.fn H ds = { results := [.lit (.bool true)], args := ds } := by
  have h' : ds.length = 2 := h
  match ds, h' with
  | [_, _], _ => rfl

set_option maxRecDepth 100000 in
theorem lifted (os : Os) (started : os.Started) (H : Type) (enc : TypeId × Value → H) :
    ReturnsInHanded {} Try.checked os 3 .any (Rows.advertWritesSpec.pre6 enc Try.prog Try.f3 Rows.advertWritesRow.domain false) (Rows.advertWritesSpec.post enc Try.prog Try.f3 false true false false) :=
  lifted_said (C := Try.checked) (tb := 4) own started (by kernel_rfl) Try.func3
    (ChangeSpec.witness6 (enc := enc) (C := Try.checked) false ⟨#[], #[.agg #[.int .i64 0, .int .i64 0, .int .i64 0, .slice none 0 0], .string .empty], []⟩ 8 (by kernel_rfl) (by kernel_rfl) (by kernel_rfl) (by kernel_rfl))
    rfl spec rfl Try.underlying4 laidOut (by kernel_rfl) walk

theorem over : Rows.advertWritesRow.holds Try.pinned (OpenSpec.ofChange Rows.advertWritesSpec) :=
  OpenClaim.holds_of_wide 3 Try.f3 rfl rfl rfl rfl rfl rfl rfl ⟨rfl, rfl, rfl, rfl, rfl⟩ rfl rfl rfl rfl rfl (by kernel_rfl) Try.func3 (by kernel_rfl)
    (of_decide_eq_true (by kernel_rfl)) (by unfold Func.isWrapper; first | (rw [if_pos (by decide +kernel)]; kernel_rfl) | (rw [if_neg (by decide +kernel)]; exact ⟨rfl, rfl⟩))
    (fun os started H enc _ => lifted os started H enc)

theorem proved : Rows.AdvertWritesSaid := over
#print axioms proved
end advertWrites

end Go.Proofs.Ytbjolilknkbehaa

