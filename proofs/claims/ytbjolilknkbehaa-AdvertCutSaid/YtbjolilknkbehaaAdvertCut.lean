/- AdvertCut: an advertisement that is cut is refused. No conditions. -/
import Derived.Test.YtbjolilknkbehaaAr
import Derived.Test.YtbjolilknkbehaaMad2
import Derived.Test.YtbjolilknkbehaaAeQk
set_option linter.unusedSimpArgs false
set_option linter.unusedVariables false
set_option maxRecDepth 100000
namespace Go.Proofs.Ytbjolilknkbehaa.Ae
open Go Go.RowKit
def ann_outriderlaw06_AdvertCut : Nat → List Nat × Nat × List (List Nat)
  | 2000002 => ([], 14, [[], [0], [0, 1], [0, 1, 2], [0, 1, 2, 3], [0, 1, 2, 3, 4], [0, 1, 2, 3, 4, 5], [0, 1, 2, 3, 4, 5, 6], [0, 1, 2, 3, 4, 5, 6, 7], [0, 1, 2, 3, 4, 5, 6, 7, 8], [0, 1, 2, 3, 4, 5, 6, 7, 8, 9], [0, 1, 2, 3, 4, 5, 6, 7, 8, 9, 10], [0, 1, 2, 3, 4, 5, 6, 7, 8, 9, 10, 11]])
  | _ => ([], 0, [])
set_option maxRecDepth 100000 in
theorem AdvertCut_eq (a : Adv) (s : List UInt8) (n : Int) (K : AVal → Hp → Prop) : fnP Try.prog Tlw ann_outriderlaw06_AdvertCut Try.f6 [.agg (advCells a), .str s, .int .i64 n] [] K = (
 ((IsStrs (List.length a.addrs) fun i => [AVal.str (List.getD a.addrs i [])]) ∧
 List.length a.addrs ≤ (140737488351232 : Nat)) ∧
 brP
 (!decide
 ((adEncode (Adv.mk a.id a.pri a.every (strs (List.length a.addrs) fun i => [AVal.str (List.getD a.addrs i [])]))
 s).snd =
 (0 : Int)) ||
 decide (n < (0 : Int)) ||
 decide
 ((↑(List.length
 (adEncode (Adv.mk a.id a.pri a.every (strs (List.length a.addrs) fun i => [AVal.str (List.getD a.addrs i [])]))
 s).fst.body) :
 Int) ≤
 n))
 (K (AVal.bool true) [])
 (((0 : Int) ≤ n ∧
 n ≤
 (↑(List.length
 (adEncode (Adv.mk a.id a.pri a.every (strs (List.length a.addrs) fun i => [AVal.str (List.getD a.addrs i [])]))
 s).fst.body) :
 Int)) ∧
 List.length
 (List.take (Int.toNat n)
 (adEncode (Adv.mk a.id a.pri a.every (strs (List.length a.addrs) fun i => [AVal.str (List.getD a.addrs i [])]))
 s).fst.body) ≤
 (140737488351232 : Nat) ∧
 brP (decide (n < (8 : Int)))
 (brP
 (decide
 ((adDecode
 (Ip.mk
 (adEncode
 (Adv.mk a.id a.pri a.every (strs (List.length a.addrs) fun i => [AVal.str (List.getD a.addrs i [])]))
 s).fst.src
 (adEncode
 (Adv.mk a.id a.pri a.every (strs (List.length a.addrs) fun i => [AVal.str (List.getD a.addrs i [])]))
 s).fst.dst
 (adEncode
 (Adv.mk a.id a.pri a.every (strs (List.length a.addrs) fun i => [AVal.str (List.getD a.addrs i [])]))
 s).fst.proto
 (adEncode
 (Adv.mk a.id a.pri a.every (strs (List.length a.addrs) fun i => [AVal.str (List.getD a.addrs i [])]))
 s).fst.ttl
 (List.take (Int.toNat n)
 (adEncode
 (Adv.mk a.id a.pri a.every (strs (List.length a.addrs) fun i => [AVal.str (List.getD a.addrs i [])]))
 s).fst.body))).snd =
 (60 : Int)))
 (((IsStrs
 (List.length
 (adDecode
 (Ip.mk
 (adEncode
 (Adv.mk a.id a.pri a.every (strs (List.length a.addrs) fun i => [AVal.str (List.getD a.addrs i [])]))
 s).fst.src
 (adEncode
 (Adv.mk a.id a.pri a.every (strs (List.length a.addrs) fun i => [AVal.str (List.getD a.addrs i [])]))
 s).fst.dst
 (adEncode
 (Adv.mk a.id a.pri a.every (strs (List.length a.addrs) fun i => [AVal.str (List.getD a.addrs i [])]))
 s).fst.proto
 (adEncode
 (Adv.mk a.id a.pri a.every (strs (List.length a.addrs) fun i => [AVal.str (List.getD a.addrs i [])]))
 s).fst.ttl
 (List.take (Int.toNat n)
 (adEncode
 (Adv.mk a.id a.pri a.every (strs (List.length a.addrs) fun i => [AVal.str (List.getD a.addrs i [])]))
 s).fst.body))).fst.addrs)
 fun i =>
 [AVal.str
 (List.getD
 (adDecode
 (Ip.mk
 (adEncode
 (Adv.mk a.id a.pri a.every
 (strs (List.length a.addrs) fun i => [AVal.str (List.getD a.addrs i [])]))
 s).fst.src
 (adEncode
 (Adv.mk a.id a.pri a.every
 (strs (List.length a.addrs) fun i => [AVal.str (List.getD a.addrs i [])]))
 s).fst.dst
 (adEncode
 (Adv.mk a.id a.pri a.every
 (strs (List.length a.addrs) fun i => [AVal.str (List.getD a.addrs i [])]))
 s).fst.proto
 (adEncode
 (Adv.mk a.id a.pri a.every
 (strs (List.length a.addrs) fun i => [AVal.str (List.getD a.addrs i [])]))
 s).fst.ttl
 (List.take (Int.toNat n)
 (adEncode
 (Adv.mk a.id a.pri a.every
 (strs (List.length a.addrs) fun i => [AVal.str (List.getD a.addrs i [])]))
 s).fst.body))).fst.addrs
 i [])]) ∧
 (IsStrs (0 : Nat) fun x => []) ∧
 List.length
 (adDecode
 (Ip.mk
 (adEncode
 (Adv.mk a.id a.pri a.every (strs (List.length a.addrs) fun i => [AVal.str (List.getD a.addrs i [])]))
 s).fst.src
 (adEncode
 (Adv.mk a.id a.pri a.every (strs (List.length a.addrs) fun i => [AVal.str (List.getD a.addrs i [])]))
 s).fst.dst
 (adEncode
 (Adv.mk a.id a.pri a.every (strs (List.length a.addrs) fun i => [AVal.str (List.getD a.addrs i [])]))
 s).fst.proto
 (adEncode
 (Adv.mk a.id a.pri a.every (strs (List.length a.addrs) fun i => [AVal.str (List.getD a.addrs i [])]))
 s).fst.ttl
 (List.take (Int.toNat n)
 (adEncode
 (Adv.mk a.id a.pri a.every
 (strs (List.length a.addrs) fun i => [AVal.str (List.getD a.addrs i [])]))
 s).fst.body))).fst.addrs ≤
 (8796093022000 : Nat)) ∧
 K
 (AVal.bool
 (sameA
 (adDecode
 (Ip.mk
 (adEncode
 (Adv.mk a.id a.pri a.every (strs (List.length a.addrs) fun i => [AVal.str (List.getD a.addrs i [])]))
 s).fst.src
 (adEncode
 (Adv.mk a.id a.pri a.every (strs (List.length a.addrs) fun i => [AVal.str (List.getD a.addrs i [])]))
 s).fst.dst
 (adEncode
 (Adv.mk a.id a.pri a.every (strs (List.length a.addrs) fun i => [AVal.str (List.getD a.addrs i [])]))
 s).fst.proto
 (adEncode
 (Adv.mk a.id a.pri a.every (strs (List.length a.addrs) fun i => [AVal.str (List.getD a.addrs i [])]))
 s).fst.ttl
 (List.take (Int.toNat n)
 (adEncode
 (Adv.mk a.id a.pri a.every (strs (List.length a.addrs) fun i => [AVal.str (List.getD a.addrs i [])]))
 s).fst.body))).fst.id
 (adDecode
 (Ip.mk
 (adEncode
 (Adv.mk a.id a.pri a.every (strs (List.length a.addrs) fun i => [AVal.str (List.getD a.addrs i [])]))
 s).fst.src
 (adEncode
 (Adv.mk a.id a.pri a.every (strs (List.length a.addrs) fun i => [AVal.str (List.getD a.addrs i [])]))
 s).fst.dst
 (adEncode
 (Adv.mk a.id a.pri a.every (strs (List.length a.addrs) fun i => [AVal.str (List.getD a.addrs i [])]))
 s).fst.proto
 (adEncode
 (Adv.mk a.id a.pri a.every (strs (List.length a.addrs) fun i => [AVal.str (List.getD a.addrs i [])]))
 s).fst.ttl
 (List.take (Int.toNat n)
 (adEncode
 (Adv.mk a.id a.pri a.every (strs (List.length a.addrs) fun i => [AVal.str (List.getD a.addrs i [])]))
 s).fst.body))).fst.pri
 (adDecode
 (Ip.mk
 (adEncode
 (Adv.mk a.id a.pri a.every (strs (List.length a.addrs) fun i => [AVal.str (List.getD a.addrs i [])]))
 s).fst.src
 (adEncode
 (Adv.mk a.id a.pri a.every (strs (List.length a.addrs) fun i => [AVal.str (List.getD a.addrs i [])]))
 s).fst.dst
 (adEncode
 (Adv.mk a.id a.pri a.every (strs (List.length a.addrs) fun i => [AVal.str (List.getD a.addrs i [])]))
 s).fst.proto
 (adEncode
 (Adv.mk a.id a.pri a.every (strs (List.length a.addrs) fun i => [AVal.str (List.getD a.addrs i [])]))
 s).fst.ttl
 (List.take (Int.toNat n)
 (adEncode
 (Adv.mk a.id a.pri a.every (strs (List.length a.addrs) fun i => [AVal.str (List.getD a.addrs i [])]))
 s).fst.body))).fst.every
 (List.length
 (adDecode
 (Ip.mk
 (adEncode
 (Adv.mk a.id a.pri a.every (strs (List.length a.addrs) fun i => [AVal.str (List.getD a.addrs i [])]))
 s).fst.src
 (adEncode
 (Adv.mk a.id a.pri a.every (strs (List.length a.addrs) fun i => [AVal.str (List.getD a.addrs i [])]))
 s).fst.dst
 (adEncode
 (Adv.mk a.id a.pri a.every (strs (List.length a.addrs) fun i => [AVal.str (List.getD a.addrs i [])]))
 s).fst.proto
 (adEncode
 (Adv.mk a.id a.pri a.every (strs (List.length a.addrs) fun i => [AVal.str (List.getD a.addrs i [])]))
 s).fst.ttl
 (List.take (Int.toNat n)
 (adEncode
 (Adv.mk a.id a.pri a.every
 (strs (List.length a.addrs) fun i => [AVal.str (List.getD a.addrs i [])]))
 s).fst.body))).fst.addrs)
 (fun i =>
 [AVal.str
 (List.getD
 (adDecode
 (Ip.mk
 (adEncode
 (Adv.mk a.id a.pri a.every
 (strs (List.length a.addrs) fun i => [AVal.str (List.getD a.addrs i [])]))
 s).fst.src
 (adEncode
 (Adv.mk a.id a.pri a.every
 (strs (List.length a.addrs) fun i => [AVal.str (List.getD a.addrs i [])]))
 s).fst.dst
 (adEncode
 (Adv.mk a.id a.pri a.every
 (strs (List.length a.addrs) fun i => [AVal.str (List.getD a.addrs i [])]))
 s).fst.proto
 (adEncode
 (Adv.mk a.id a.pri a.every
 (strs (List.length a.addrs) fun i => [AVal.str (List.getD a.addrs i [])]))
 s).fst.ttl
 (List.take (Int.toNat n)
 (adEncode
 (Adv.mk a.id a.pri a.every
 (strs (List.length a.addrs) fun i => [AVal.str (List.getD a.addrs i [])]))
 s).fst.body))).fst.addrs
 i [])])
 (0 : Int) (0 : Int) (0 : Int) (0 : Nat) fun x => []))
 [])
 (K (AVal.bool false) []))
 (brP
 (decide
 ((adDecode
 (Ip.mk
 (adEncode
 (Adv.mk a.id a.pri a.every (strs (List.length a.addrs) fun i => [AVal.str (List.getD a.addrs i [])]))
 s).fst.src
 (adEncode
 (Adv.mk a.id a.pri a.every (strs (List.length a.addrs) fun i => [AVal.str (List.getD a.addrs i [])]))
 s).fst.dst
 (adEncode
 (Adv.mk a.id a.pri a.every (strs (List.length a.addrs) fun i => [AVal.str (List.getD a.addrs i [])]))
 s).fst.proto
 (adEncode
 (Adv.mk a.id a.pri a.every (strs (List.length a.addrs) fun i => [AVal.str (List.getD a.addrs i [])]))
 s).fst.ttl
 (List.take (Int.toNat n)
 (adEncode
 (Adv.mk a.id a.pri a.every (strs (List.length a.addrs) fun i => [AVal.str (List.getD a.addrs i [])]))
 s).fst.body))).snd =
 (63 : Int)))
 (((IsStrs
 (List.length
 (adDecode
 (Ip.mk
 (adEncode
 (Adv.mk a.id a.pri a.every (strs (List.length a.addrs) fun i => [AVal.str (List.getD a.addrs i [])]))
 s).fst.src
 (adEncode
 (Adv.mk a.id a.pri a.every (strs (List.length a.addrs) fun i => [AVal.str (List.getD a.addrs i [])]))
 s).fst.dst
 (adEncode
 (Adv.mk a.id a.pri a.every (strs (List.length a.addrs) fun i => [AVal.str (List.getD a.addrs i [])]))
 s).fst.proto
 (adEncode
 (Adv.mk a.id a.pri a.every (strs (List.length a.addrs) fun i => [AVal.str (List.getD a.addrs i [])]))
 s).fst.ttl
 (List.take (Int.toNat n)
 (adEncode
 (Adv.mk a.id a.pri a.every (strs (List.length a.addrs) fun i => [AVal.str (List.getD a.addrs i [])]))
 s).fst.body))).fst.addrs)
 fun i =>
 [AVal.str
 (List.getD
 (adDecode
 (Ip.mk
 (adEncode
 (Adv.mk a.id a.pri a.every
 (strs (List.length a.addrs) fun i => [AVal.str (List.getD a.addrs i [])]))
 s).fst.src
 (adEncode
 (Adv.mk a.id a.pri a.every
 (strs (List.length a.addrs) fun i => [AVal.str (List.getD a.addrs i [])]))
 s).fst.dst
 (adEncode
 (Adv.mk a.id a.pri a.every
 (strs (List.length a.addrs) fun i => [AVal.str (List.getD a.addrs i [])]))
 s).fst.proto
 (adEncode
 (Adv.mk a.id a.pri a.every
 (strs (List.length a.addrs) fun i => [AVal.str (List.getD a.addrs i [])]))
 s).fst.ttl
 (List.take (Int.toNat n)
 (adEncode
 (Adv.mk a.id a.pri a.every
 (strs (List.length a.addrs) fun i => [AVal.str (List.getD a.addrs i [])]))
 s).fst.body))).fst.addrs
 i [])]) ∧
 (IsStrs (0 : Nat) fun x => []) ∧
 List.length
 (adDecode
 (Ip.mk
 (adEncode
 (Adv.mk a.id a.pri a.every (strs (List.length a.addrs) fun i => [AVal.str (List.getD a.addrs i [])]))
 s).fst.src
 (adEncode
 (Adv.mk a.id a.pri a.every (strs (List.length a.addrs) fun i => [AVal.str (List.getD a.addrs i [])]))
 s).fst.dst
 (adEncode
 (Adv.mk a.id a.pri a.every (strs (List.length a.addrs) fun i => [AVal.str (List.getD a.addrs i [])]))
 s).fst.proto
 (adEncode
 (Adv.mk a.id a.pri a.every (strs (List.length a.addrs) fun i => [AVal.str (List.getD a.addrs i [])]))
 s).fst.ttl
 (List.take (Int.toNat n)
 (adEncode
 (Adv.mk a.id a.pri a.every
 (strs (List.length a.addrs) fun i => [AVal.str (List.getD a.addrs i [])]))
 s).fst.body))).fst.addrs ≤
 (8796093022000 : Nat)) ∧
 K
 (AVal.bool
 (sameA
 (adDecode
 (Ip.mk
 (adEncode
 (Adv.mk a.id a.pri a.every (strs (List.length a.addrs) fun i => [AVal.str (List.getD a.addrs i [])]))
 s).fst.src
 (adEncode
 (Adv.mk a.id a.pri a.every (strs (List.length a.addrs) fun i => [AVal.str (List.getD a.addrs i [])]))
 s).fst.dst
 (adEncode
 (Adv.mk a.id a.pri a.every (strs (List.length a.addrs) fun i => [AVal.str (List.getD a.addrs i [])]))
 s).fst.proto
 (adEncode
 (Adv.mk a.id a.pri a.every (strs (List.length a.addrs) fun i => [AVal.str (List.getD a.addrs i [])]))
 s).fst.ttl
 (List.take (Int.toNat n)
 (adEncode
 (Adv.mk a.id a.pri a.every (strs (List.length a.addrs) fun i => [AVal.str (List.getD a.addrs i [])]))
 s).fst.body))).fst.id
 (adDecode
 (Ip.mk
 (adEncode
 (Adv.mk a.id a.pri a.every (strs (List.length a.addrs) fun i => [AVal.str (List.getD a.addrs i [])]))
 s).fst.src
 (adEncode
 (Adv.mk a.id a.pri a.every (strs (List.length a.addrs) fun i => [AVal.str (List.getD a.addrs i [])]))
 s).fst.dst
 (adEncode
 (Adv.mk a.id a.pri a.every (strs (List.length a.addrs) fun i => [AVal.str (List.getD a.addrs i [])]))
 s).fst.proto
 (adEncode
 (Adv.mk a.id a.pri a.every (strs (List.length a.addrs) fun i => [AVal.str (List.getD a.addrs i [])]))
 s).fst.ttl
 (List.take (Int.toNat n)
 (adEncode
 (Adv.mk a.id a.pri a.every (strs (List.length a.addrs) fun i => [AVal.str (List.getD a.addrs i [])]))
 s).fst.body))).fst.pri
 (adDecode
 (Ip.mk
 (adEncode
 (Adv.mk a.id a.pri a.every (strs (List.length a.addrs) fun i => [AVal.str (List.getD a.addrs i [])]))
 s).fst.src
 (adEncode
 (Adv.mk a.id a.pri a.every (strs (List.length a.addrs) fun i => [AVal.str (List.getD a.addrs i [])]))
 s).fst.dst
 (adEncode
 (Adv.mk a.id a.pri a.every (strs (List.length a.addrs) fun i => [AVal.str (List.getD a.addrs i [])]))
 s).fst.proto
 (adEncode
 (Adv.mk a.id a.pri a.every (strs (List.length a.addrs) fun i => [AVal.str (List.getD a.addrs i [])]))
 s).fst.ttl
 (List.take (Int.toNat n)
 (adEncode
 (Adv.mk a.id a.pri a.every (strs (List.length a.addrs) fun i => [AVal.str (List.getD a.addrs i [])]))
 s).fst.body))).fst.every
 (List.length
 (adDecode
 (Ip.mk
 (adEncode
 (Adv.mk a.id a.pri a.every (strs (List.length a.addrs) fun i => [AVal.str (List.getD a.addrs i [])]))
 s).fst.src
 (adEncode
 (Adv.mk a.id a.pri a.every (strs (List.length a.addrs) fun i => [AVal.str (List.getD a.addrs i [])]))
 s).fst.dst
 (adEncode
 (Adv.mk a.id a.pri a.every (strs (List.length a.addrs) fun i => [AVal.str (List.getD a.addrs i [])]))
 s).fst.proto
 (adEncode
 (Adv.mk a.id a.pri a.every (strs (List.length a.addrs) fun i => [AVal.str (List.getD a.addrs i [])]))
 s).fst.ttl
 (List.take (Int.toNat n)
 (adEncode
 (Adv.mk a.id a.pri a.every
 (strs (List.length a.addrs) fun i => [AVal.str (List.getD a.addrs i [])]))
 s).fst.body))).fst.addrs)
 (fun i =>
 [AVal.str
 (List.getD
 (adDecode
 (Ip.mk
 (adEncode
 (Adv.mk a.id a.pri a.every
 (strs (List.length a.addrs) fun i => [AVal.str (List.getD a.addrs i [])]))
 s).fst.src
 (adEncode
 (Adv.mk a.id a.pri a.every
 (strs (List.length a.addrs) fun i => [AVal.str (List.getD a.addrs i [])]))
 s).fst.dst
 (adEncode
 (Adv.mk a.id a.pri a.every
 (strs (List.length a.addrs) fun i => [AVal.str (List.getD a.addrs i [])]))
 s).fst.proto
 (adEncode
 (Adv.mk a.id a.pri a.every
 (strs (List.length a.addrs) fun i => [AVal.str (List.getD a.addrs i [])]))
 s).fst.ttl
 (List.take (Int.toNat n)
 (adEncode
 (Adv.mk a.id a.pri a.every
 (strs (List.length a.addrs) fun i => [AVal.str (List.getD a.addrs i [])]))
 s).fst.body))).fst.addrs
 i [])])
 (0 : Int) (0 : Int) (0 : Int) (0 : Nat) fun x => []))
 [])
 (K (AVal.bool false) [])))) := by kernel_rfl
attribute [local irreducible] fnP in
theorem advertCut.core (a : Adv) (s : List UInt8) (n : Int) (h_a : AdvOk a) (h_s : s.length ≤ 140737488351232) (h_n : -9223372036854775808 ≤ n ∧ n ≤ 9223372036854775807) :
    fnP Try.prog Tlw ann_outriderlaw06_AdvertCut Try.f6 [.agg (advCells a), .str s, .int .i64 n] [] (fun v _ => v = .bool true) := by
  rw [AdvertCut_eq]
  obtain ⟨a1, a2, a3, a4⟩ := h_a
  have eta : (⟨a.id, a.pri, a.every, a.addrs⟩ : Adv) = a := rfl
  have eip : ∀ P : Ip, (⟨P.src, P.dst, P.proto, P.ttl, P.body⟩ : Ip) = P := fun _ => rfl
  simp only [strs_of, eta]
  have hs : IsStrs a.addrs.length (fun i => [AVal.str (a.addrs.getD i [])]) ∧ a.addrs.length ≤ 140737488351232 := ⟨isStrs_of _ _, by omega⟩
  refine ⟨hs, ?_⟩
  by_cases hr : adRight a s = true
  case neg =>
    rw [adEncode_no hr]
    exact brP_i (fun _ => trivial) (fun h => by simp at h)
  have f := ad_facts hr
  have hbl : (adPacket a s).body.length ≤ 136 := by
    show (adBody a (adSum a s)).length ≤ 136
    have := (ad_len hr).2
    rw [f.len]; omega
  rw [adEncode_yes hr]
  simp only [eip]
  refine brP_i (fun _ => trivial) (fun h => ?_)
  have hn : 0 ≤ n ∧ n < ((adPacket a s).body.length : Int) := by
    simp only [Bool.and_eq_true, Bool.or_eq_true, Bool.and_eq_false_iff, Bool.or_eq_false_iff, decide_eq_true_eq, decide_eq_false_iff_not, Bool.not_eq_true', Bool.not_eq_false', Bool.not_true, Bool.not_false, Bool.true_and, Bool.and_true, Bool.false_or, Bool.or_false, beq_iff_eq, beq_eq_false_iff_ne, ne_eq] at h
    omega
  have hc := ad_cut hr (n := n.toNat) (by omega)
  refine ⟨by omega, by rw [List.length_take]; omega, ?_⟩
  rw [hc]
  refine brP_d (fun h8 => ?_) (fun h8 => ?_)
  · rw [if_pos (by omega)]
    exact brP_i (fun _ => ⟨⟨fun i hi => by simp [noAdv] at hi, fun i hi => by omega, by simp [noAdv]⟩, rfl⟩) (fun h => by simp at h)
  · rw [if_neg (by omega)]
    exact brP_i (fun _ => ⟨⟨fun i hi => by simp [noAdv] at hi, fun i hi => by omega, by simp [noAdv]⟩, rfl⟩) (fun h => by simp at h)
end Go.Proofs.Ytbjolilknkbehaa.Ae
namespace Go.Proofs.Ytbjolilknkbehaa
open Go Go.RowKit Ae
attribute [local irreducible] fnP in
set_option maxRecDepth 100000 in
theorem advertCut.walk {H : Type} {enc : TypeId × Value → H} (W : World) (args : Array Value) (hn : args.size = 3)
    (h : ∀ (j : Nat) t v, Try.f6.params[j]? = some t → args[j]? = some v → RdV enc false Try.prog W t v) :
    Calls Try.prog 6 args W fun e w' => e = .returned (.bool true) ∧ Below W.heap.size W w' := by
  obtain ⟨v0, v1, v2, rfl⟩ := args3 hn
  obtain ⟨a, h_a, hv0⟩ := arg_struct (b := false) (.inl ⟨_, Try.underlying24⟩) open_adv (h 0 24 v0 rfl rfl)
  obtain ⟨s, h_s, hv1⟩ := arg_str (b := false) (m := Mp.nil) (G := []) Try.underlying25 (h 1 25 v1 rfl rfl)
  obtain ⟨n, rfl, h_n, hv2⟩ := arg_int (b := false) (m := Mp.nil) (G := []) Try.underlying3 (h 2 3 v2 rfl rfl)
  obtain ⟨r, H1, hr, hG⟩ := fn_sound Tlw_sound mixed Try.func6 (by decide +kernel) (advertCut.core a s n h_a (len_lim h_s) (i64_bd h_n))
  subst hr
  exact law_walk hG (vl_cons hv0 (vl_cons hv1 (vl_cons hv2 vl_nil)))

namespace advertCut
theorem spec {H : Type} (ds : List (DataW H)) (h : ds.length = Try.f6.params.size) : Rows.advertCutSpec.fn H ds = { results := [.lit (.bool true)], args := ds } := by
  have h' : ds.length = 3 := h
  match ds, h' with
  | [_, _, _], _ => rfl

set_option maxRecDepth 100000 in
theorem lifted (os : Os) (started : os.Started) (H : Type) (enc : TypeId × Value → H) :
    ReturnsInHanded {} Try.checked os 6 .any (Rows.advertCutSpec.pre6 enc Try.prog Try.f6 Rows.advertCutRow.domain false) (Rows.advertCutSpec.post enc Try.prog Try.f6 false true false false) :=
  lifted_said (C := Try.checked) (tb := 4) own started (by kernel_rfl) Try.func6
    (ChangeSpec.witness6 (enc := enc) (C := Try.checked) false ⟨#[], #[.agg #[.int .i64 0, .int .i64 0, .int .i64 0, .slice none 0 0], .string .empty, .int .i64 0], []⟩ 8 (by kernel_rfl) (by kernel_rfl) (by kernel_rfl) (by kernel_rfl))
    rfl spec rfl Try.underlying4 laidOut (by kernel_rfl) walk

theorem over : Rows.advertCutRow.holds Try.pinned (OpenSpec.ofChange Rows.advertCutSpec) :=
  OpenClaim.holds_of_wide 6 Try.f6 rfl rfl rfl rfl rfl rfl rfl ⟨rfl, rfl, rfl, rfl, rfl⟩ rfl rfl rfl rfl rfl (by kernel_rfl) Try.func6 (by kernel_rfl)
    (of_decide_eq_true (by kernel_rfl)) (by unfold Func.isWrapper; first | (rw [if_pos (by decide +kernel)]; kernel_rfl) | (rw [if_neg (by decide +kernel)]; exact ⟨rfl, rfl⟩))
    (fun os started H enc _ => lifted os started H enc)

theorem proved : Rows.AdvertCutSaid := over
#print axioms proved
end advertCut

end Go.Proofs.Ytbjolilknkbehaa

