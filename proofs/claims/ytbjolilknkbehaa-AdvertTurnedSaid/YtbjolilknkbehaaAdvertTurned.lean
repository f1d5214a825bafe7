/- AdvertTurned: one of which a byte of the body, or of who sent it, is another one is refused. No conditions. -/
import Derived.Test.YtbjolilknkbehaaAr
import Derived.Test.YtbjolilknkbehaaMad2
import Derived.Test.YtbjolilknkbehaaAeQk
set_option linter.unusedSimpArgs false
set_option linter.unusedVariables false
set_option maxRecDepth 100000
namespace Go.Proofs.Ytbjolilknkbehaa.Ae
open Go Go.RowKit
def ann_outriderlaw06_AdvertTurned : Nat → List Nat × Nat × List (List Nat)
  | 6 => ([], 10, [[], [], [1], [0, 1, 2], [0, 1, 2, 3], [], [5], [5, 6], [0, 1, 2, 3, 4, 5, 6, 7], [0, 1, 2, 3, 4, 5, 6, 7, 8]])
  | 10 => ([], 14, [[], [], [1], [], [3], [3, 4], [1, 2, 3, 4, 5], [0, 1, 2, 3, 4, 5, 6], [0, 1, 2, 3, 4, 5, 6, 7], [], [9], [9, 10], [0, 1, 2, 3, 4, 5, 6, 7, 8, 9, 10, 11], [0, 1, 2, 3, 4, 5, 6, 7, 8, 9, 10, 11, 12]])
  | 2000002 => ([], 18, [[], [0], [0, 1], [0, 1, 2], [0, 1, 2, 3], [0, 1, 2, 3, 4], [0, 1, 2, 3, 4, 5], [0, 1, 2, 3, 4, 5, 6], [0, 1, 2, 3, 4, 5, 6, 7], [0, 1, 2, 3, 4, 5, 6, 7, 8], [0, 1, 2, 3, 4, 5, 6, 7, 8, 9], [0, 1, 2, 3, 4, 5, 6, 7, 8, 9, 10], [0, 1, 2, 3, 4, 5, 6, 7, 8, 9, 10, 11], [0, 1, 2, 3, 4, 5, 6, 7, 8, 9, 10, 11, 12], [0, 1, 2, 3, 4, 5, 6, 7, 8, 9, 10, 11, 12, 13], [0, 1, 2, 3, 4, 5, 6, 7, 8, 9, 10, 11, 12, 13, 14], [0, 1, 2, 3, 4, 5, 6, 7, 8, 9, 10, 11, 12, 13, 14, 15]])
  | _ => ([], 0, [])
set_option maxRecDepth 100000 in
theorem AdvertTurned_eq (a : Adv) (s : List UInt8) (x y : Int) (K : AVal → Hp → Prop) : fnP Try.prog Tlw ann_outriderlaw06_AdvertTurned Try.f5 [.agg (advCells a), .str s, .agg [.int .i64 x, .int .i64 y]] [] K = (
 ((IsStrs (List.length a.addrs) fun i => [AVal.str (List.getD a.addrs i [])]) ∧
 List.length a.addrs ≤ (140737488351232 : Nat)) ∧
 impP
 (!!decide
 ((adEncode (Adv.mk a.id a.pri a.every (strs (List.length a.addrs) fun i => [AVal.str (List.getD a.addrs i [])]))
 s).snd =
 (0 : Int)))
 ((0 : Int) ≤ (0 : Int) ∧ (0 : Int) < (2 : Int)) ∧
 impP
 (!(!decide
 ((adEncode
 (Adv.mk a.id a.pri a.every (strs (List.length a.addrs) fun i => [AVal.str (List.getD a.addrs i [])]))
 s).snd =
 (0 : Int)) ||
 decide (x < (0 : Int))))
 ((0 : Int) ≤ (1 : Int) ∧ (1 : Int) < (2 : Int)) ∧
 impP
 (!(!decide
 ((adEncode
 (Adv.mk a.id a.pri a.every (strs (List.length a.addrs) fun i => [AVal.str (List.getD a.addrs i [])]))
 s).snd =
 (0 : Int)) ||
 decide (x < (0 : Int)) ||
 decide (y < (1 : Int))))
 ((0 : Int) ≤ (1 : Int) ∧ (1 : Int) < (2 : Int)) ∧
 brP
 (!decide
 ((adEncode
 (Adv.mk a.id a.pri a.every (strs (List.length a.addrs) fun i => [AVal.str (List.getD a.addrs i [])]))
 s).snd =
 (0 : Int)) ||
 decide (x < (0 : Int)) ||
 decide (y < (1 : Int)) ||
 decide ((255 : Int) < y))
 (K (AVal.bool true) [])
 (((0 : Int) ≤ (0 : Int) ∧ (0 : Int) < (2 : Int)) ∧
 brP
 (decide
 (x <
 (↑(List.length
 (adEncode
 (Adv.mk a.id a.pri a.every (strs (List.length a.addrs) fun i => [AVal.str (List.getD a.addrs i [])]))
 s).fst.body) :
 Int)))
 (List.length
 (adEncode
 (Adv.mk a.id a.pri a.every (strs (List.length a.addrs) fun i => [AVal.str (List.getD a.addrs i [])]))
 s).fst.body ≤
 (140737488355328 : Nat) ∧
 ((0 : Int) ≤ (0 : Int) ∧ (0 : Int) < (2 : Int)) ∧
 ((0 : Int) ≤ x ∧
 x <
 (↑(List.length
 (adEncode
 (Adv.mk a.id a.pri a.every (strs (List.length a.addrs) fun i => [AVal.str (List.getD a.addrs i [])]))
 s).fst.body) :
 Int)) ∧
 (0 : Nat) + Int.toNat x * (1 : Nat) <
 List.length
 (adEncode
 (Adv.mk a.id a.pri a.every (strs (List.length a.addrs) fun i => [AVal.str (List.getD a.addrs i [])]))
 s).fst.body ∧
 ((0 : Int) ≤ (1 : Int) ∧ (1 : Int) < (2 : Int)) ∧
 ((0 : Int) ≤ x ∧
 x <
 (↑(List.length
 (adEncode
 (Adv.mk a.id a.pri a.every
 (strs (List.length a.addrs) fun i => [AVal.str (List.getD a.addrs i [])]))
 s).fst.body) :
 Int)) ∧
 (0 : Nat) + Int.toNat x * (1 : Nat) <
 List.length
 (adEncode
 (Adv.mk a.id a.pri a.every
 (strs (List.length a.addrs) fun i => [AVal.str (List.getD a.addrs i [])]))
 s).fst.body ∧
 List.length
 (List.take
 (List.length
 (adEncode
 (Adv.mk a.id a.pri a.every
 (strs (List.length a.addrs) fun i => [AVal.str (List.getD a.addrs i [])]))
 s).fst.body)
 (List.drop (0 : Nat)
 (List.set
 (adEncode
 (Adv.mk a.id a.pri a.every
 (strs (List.length a.addrs) fun i => [AVal.str (List.getD a.addrs i [])]))
 s).fst.body
 ((0 : Nat) + Int.toNat x * (1 : Nat))
 (List.getD
 (adEncode
 (Adv.mk a.id a.pri a.every
 (strs (List.length a.addrs) fun i => [AVal.str (List.getD a.addrs i [])]))
 s).fst.body
 ((0 : Nat) + Int.toNat x * (1 : Nat)) (0 : UInt8) ^^^
 b8 y)))) ≤
 (140737488351232 : Nat) ∧
 brP
 (!decide
 ((adDecode
 (Ip.mk
 (adEncode
 (Adv.mk a.id a.pri a.every
 (strs (List.length a.addrs) fun i => [AVal.str (List.getD a.addrs i [])]))
 s).fst.src
 (adEncode
 (Adv.mk a.id a.pri a.every
 (strs (List.length a.addrs) fun i => [AVal.str (List.getD a.addrs i [])]))
 s).fst.dst
 (adEncode
 (Adv.mk a.id a.pri a.every
 (strs (List.length a.addrs) fun i => [AVal.str (List.getD a.addrs i [])]))
 s).fst.proto
 (adEncode
 (Adv.mk a.id a.pri a.every
 (strs (List.length a.addrs) fun i => [AVal.str (List.getD a.addrs i [])]))
 s).fst.ttl
 (List.take
 (List.length
 (adEncode
 (Adv.mk a.id a.pri a.every
 (strs (List.length a.addrs) fun i => [AVal.str (List.getD a.addrs i [])]))
 s).fst.body)
 (List.drop (0 : Nat)
 (List.set
 (adEncode
 (Adv.mk a.id a.pri a.every
 (strs (List.length a.addrs) fun i => [AVal.str (List.getD a.addrs i [])]))
 s).fst.body
 ((0 : Nat) + Int.toNat x * (1 : Nat))
 (List.getD
 (adEncode
 (Adv.mk a.id a.pri a.every
 (strs (List.length a.addrs) fun i => [AVal.str (List.getD a.addrs i [])]))
 s).fst.body
 ((0 : Nat) + Int.toNat x * (1 : Nat)) (0 : UInt8) ^^^
 b8 y)))))).snd =
 (0 : Int)))
 (((IsStrs
 (List.length
 (adDecode
 (Ip.mk
 (adEncode
 (Adv.mk a.id a.pri a.every
 (strs (List.length a.addrs) fun i => [AVal.str (List.getD a.addrs i [])]))
 s).fst.src
 (adEncode
 (Adv.mk a.id a.pri a.every
 (strs (List.length a.addrs) fun i => [AVal.str (List.getD a.addrs i [])]))
 s).fst.dst
 (adEncode
 (Adv.mk a.id a.pri a.every
 (strs (List.length a.addrs) fun i => [AVal.str (List.getD a.addrs i [])]))
 s).fst.proto
 (adEncode
 (Adv.mk a.id a.pri a.every
 (strs (List.length a.addrs) fun i => [AVal.str (List.getD a.addrs i [])]))
 s).fst.ttl
 (List.take
 (List.length
 (adEncode
 (Adv.mk a.id a.pri a.every
 (strs (List.length a.addrs) fun i => [AVal.str (List.getD a.addrs i [])]))
 s).fst.body)
 (List.drop (0 : Nat)
 (List.set
 (adEncode
 (Adv.mk a.id a.pri a.every
 (strs (List.length a.addrs) fun i => [AVal.str (List.getD a.addrs i [])]))
 s).fst.body
 ((0 : Nat) + Int.toNat x * (1 : Nat))
 (List.getD
 (adEncode
 (Adv.mk a.id a.pri a.every
 (strs (List.length a.addrs) fun i => [AVal.str (List.getD a.addrs i [])]))
 s).fst.body
 ((0 : Nat) + Int.toNat x * (1 : Nat)) (0 : UInt8) ^^^
 b8 y)))))).fst.addrs)
 fun i =>
 [AVal.str
 (List.getD
 (adDecode
 (Ip.mk
 (adEncode
 (Adv.mk a.id a.pri a.every
 (strs (List.length a.addrs) fun i => [AVal.str (List.getD a.addrs i [])]))
 s).fst.src
 (adEncode
 (Adv.mk a.id a.pri a.every
 (strs (List.length a.addrs) fun i => [AVal.str (List.getD a.addrs i [])]))
 s).fst.dst
 (adEncode
 (Adv.mk a.id a.pri a.every
 (strs (List.length a.addrs) fun i => [AVal.str (List.getD a.addrs i [])]))
 s).fst.proto
 (adEncode
 (Adv.mk a.id a.pri a.every
 (strs (List.length a.addrs) fun i => [AVal.str (List.getD a.addrs i [])]))
 s).fst.ttl
 (List.take
 (List.length
 (adEncode
 (Adv.mk a.id a.pri a.every
 (strs (List.length a.addrs) fun i => [AVal.str (List.getD a.addrs i [])]))
 s).fst.body)
 (List.drop (0 : Nat)
 (List.set
 (adEncode
 (Adv.mk a.id a.pri a.every
 (strs (List.length a.addrs) fun i => [AVal.str (List.getD a.addrs i [])]))
 s).fst.body
 ((0 : Nat) + Int.toNat x * (1 : Nat))
 (List.getD
 (adEncode
 (Adv.mk a.id a.pri a.every
 (strs (List.length a.addrs) fun i => [AVal.str (List.getD a.addrs i [])]))
 s).fst.body
 ((0 : Nat) + Int.toNat x * (1 : Nat)) (0 : UInt8) ^^^
 b8 y)))))).fst.addrs
 i [])]) ∧
 (IsStrs (0 : Nat) fun x => []) ∧
 List.length
 (adDecode
 (Ip.mk
 (adEncode
 (Adv.mk a.id a.pri a.every
 (strs (List.length a.addrs) fun i => [AVal.str (List.getD a.addrs i [])]))
 s).fst.src
 (adEncode
 (Adv.mk a.id a.pri a.every
 (strs (List.length a.addrs) fun i => [AVal.str (List.getD a.addrs i [])]))
 s).fst.dst
 (adEncode
 (Adv.mk a.id a.pri a.every
 (strs (List.length a.addrs) fun i => [AVal.str (List.getD a.addrs i [])]))
 s).fst.proto
 (adEncode
 (Adv.mk a.id a.pri a.every
 (strs (List.length a.addrs) fun i => [AVal.str (List.getD a.addrs i [])]))
 s).fst.ttl
 (List.take
 (List.length
 (adEncode
 (Adv.mk a.id a.pri a.every
 (strs (List.length a.addrs) fun i => [AVal.str (List.getD a.addrs i [])]))
 s).fst.body)
 (List.drop (0 : Nat)
 (List.set
 (adEncode
 (Adv.mk a.id a.pri a.every
 (strs (List.length a.addrs) fun i => [AVal.str (List.getD a.addrs i [])]))
 s).fst.body
 ((0 : Nat) + Int.toNat x * (1 : Nat))
 (List.getD
 (adEncode
 (Adv.mk a.id a.pri a.every
 (strs (List.length a.addrs) fun i => [AVal.str (List.getD a.addrs i [])]))
 s).fst.body
 ((0 : Nat) + Int.toNat x * (1 : Nat)) (0 : UInt8) ^^^
 b8 y)))))).fst.addrs ≤
 (8796093022000 : Nat)) ∧
 K
 (AVal.bool
 (sameA
 (adDecode
 (Ip.mk
 (adEncode
 (Adv.mk a.id a.pri a.every
 (strs (List.length a.addrs) fun i => [AVal.str (List.getD a.addrs i [])]))
 s).fst.src
 (adEncode
 (Adv.mk a.id a.pri a.every
 (strs (List.length a.addrs) fun i => [AVal.str (List.getD a.addrs i [])]))
 s).fst.dst
 (adEncode
 (Adv.mk a.id a.pri a.every
 (strs (List.length a.addrs) fun i => [AVal.str (List.getD a.addrs i [])]))
 s).fst.proto
 (adEncode
 (Adv.mk a.id a.pri a.every
 (strs (List.length a.addrs) fun i => [AVal.str (List.getD a.addrs i [])]))
 s).fst.ttl
 (List.take
 (List.length
 (adEncode
 (Adv.mk a.id a.pri a.every
 (strs (List.length a.addrs) fun i => [AVal.str (List.getD a.addrs i [])]))
 s).fst.body)
 (List.drop (0 : Nat)
 (List.set
 (adEncode
 (Adv.mk a.id a.pri a.every
 (strs (List.length a.addrs) fun i => [AVal.str (List.getD a.addrs i [])]))
 s).fst.body
 ((0 : Nat) + Int.toNat x * (1 : Nat))
 (List.getD
 (adEncode
 (Adv.mk a.id a.pri a.every
 (strs (List.length a.addrs) fun i => [AVal.str (List.getD a.addrs i [])]))
 s).fst.body
 ((0 : Nat) + Int.toNat x * (1 : Nat)) (0 : UInt8) ^^^
 b8 y)))))).fst.id
 (adDecode
 (Ip.mk
 (adEncode
 (Adv.mk a.id a.pri a.every
 (strs (List.length a.addrs) fun i => [AVal.str (List.getD a.addrs i [])]))
 s).fst.src
 (adEncode
 (Adv.mk a.id a.pri a.every
 (strs (List.length a.addrs) fun i => [AVal.str (List.getD a.addrs i [])]))
 s).fst.dst
 (adEncode
 (Adv.mk a.id a.pri a.every
 (strs (List.length a.addrs) fun i => [AVal.str (List.getD a.addrs i [])]))
 s).fst.proto
 (adEncode
 (Adv.mk a.id a.pri a.every
 (strs (List.length a.addrs) fun i => [AVal.str (List.getD a.addrs i [])]))
 s).fst.ttl
 (List.take
 (List.length
 (adEncode
 (Adv.mk a.id a.pri a.every
 (strs (List.length a.addrs) fun i => [AVal.str (List.getD a.addrs i [])]))
 s).fst.body)
 (List.drop (0 : Nat)
 (List.set
 (adEncode
 (Adv.mk a.id a.pri a.every
 (strs (List.length a.addrs) fun i => [AVal.str (List.getD a.addrs i [])]))
 s).fst.body
 ((0 : Nat) + Int.toNat x * (1 : Nat))
 (List.getD
 (adEncode
 (Adv.mk a.id a.pri a.every
 (strs (List.length a.addrs) fun i => [AVal.str (List.getD a.addrs i [])]))
 s).fst.body
 ((0 : Nat) + Int.toNat x * (1 : Nat)) (0 : UInt8) ^^^
 b8 y)))))).fst.pri
 (adDecode
 (Ip.mk
 (adEncode
 (Adv.mk a.id a.pri a.every
 (strs (List.length a.addrs) fun i => [AVal.str (List.getD a.addrs i [])]))
 s).fst.src
 (adEncode
 (Adv.mk a.id a.pri a.every
 (strs (List.length a.addrs) fun i => [AVal.str (List.getD a.addrs i [])]))
 s).fst.dst
 (adEncode
 (Adv.mk a.id a.pri a.every
 (strs (List.length a.addrs) fun i => [AVal.str (List.getD a.addrs i [])]))
 s).fst.proto
 (adEncode
 (Adv.mk a.id a.pri a.every
 (strs (List.length a.addrs) fun i => [AVal.str (List.getD a.addrs i [])]))
 s).fst.ttl
 (List.take
 (List.length
 (adEncode
 (Adv.mk a.id a.pri a.every
 (strs (List.length a.addrs) fun i => [AVal.str (List.getD a.addrs i [])]))
 s).fst.body)
 (List.drop (0 : Nat)
 (List.set
 (adEncode
 (Adv.mk a.id a.pri a.every
 (strs (List.length a.addrs) fun i => [AVal.str (List.getD a.addrs i [])]))
 s).fst.body
 ((0 : Nat) + Int.toNat x * (1 : Nat))
 (List.getD
 (adEncode
 (Adv.mk a.id a.pri a.every
 (strs (List.length a.addrs) fun i => [AVal.str (List.getD a.addrs i [])]))
 s).fst.body
 ((0 : Nat) + Int.toNat x * (1 : Nat)) (0 : UInt8) ^^^
 b8 y)))))).fst.every
 (List.length
 (adDecode
 (Ip.mk
 (adEncode
 (Adv.mk a.id a.pri a.every
 (strs (List.length a.addrs) fun i => [AVal.str (List.getD a.addrs i [])]))
 s).fst.src
 (adEncode
 (Adv.mk a.id a.pri a.every
 (strs (List.length a.addrs) fun i => [AVal.str (List.getD a.addrs i [])]))
 s).fst.dst
 (adEncode
 (Adv.mk a.id a.pri a.every
 (strs (List.length a.addrs) fun i => [AVal.str (List.getD a.addrs i [])]))
 s).fst.proto
 (adEncode
 (Adv.mk a.id a.pri a.every
 (strs (List.length a.addrs) fun i => [AVal.str (List.getD a.addrs i [])]))
 s).fst.ttl
 (List.take
 (List.length
 (adEncode
 (Adv.mk a.id a.pri a.every
 (strs (List.length a.addrs) fun i => [AVal.str (List.getD a.addrs i [])]))
 s).fst.body)
 (List.drop (0 : Nat)
 (List.set
 (adEncode
 (Adv.mk a.id a.pri a.every
 (strs (List.length a.addrs) fun i => [AVal.str (List.getD a.addrs i [])]))
 s).fst.body
 ((0 : Nat) + Int.toNat x * (1 : Nat))
 (List.getD
 (adEncode
 (Adv.mk a.id a.pri a.every
 (strs (List.length a.addrs) fun i => [AVal.str (List.getD a.addrs i [])]))
 s).fst.body
 ((0 : Nat) + Int.toNat x * (1 : Nat)) (0 : UInt8) ^^^
 b8 y)))))).fst.addrs)
 (fun i =>
 [AVal.str
 (List.getD
 (adDecode
 (Ip.mk
 (adEncode
 (Adv.mk a.id a.pri a.every
 (strs (List.length a.addrs) fun i => [AVal.str (List.getD a.addrs i [])]))
 s).fst.src
 (adEncode
 (Adv.mk a.id a.pri a.every
 (strs (List.length a.addrs) fun i => [AVal.str (List.getD a.addrs i [])]))
 s).fst.dst
 (adEncode
 (Adv.mk a.id a.pri a.every
 (strs (List.length a.addrs) fun i => [AVal.str (List.getD a.addrs i [])]))
 s).fst.proto
 (adEncode
 (Adv.mk a.id a.pri a.every
 (strs (List.length a.addrs) fun i => [AVal.str (List.getD a.addrs i [])]))
 s).fst.ttl
 (List.take
 (List.length
 (adEncode
 (Adv.mk a.id a.pri a.every
 (strs (List.length a.addrs) fun i => [AVal.str (List.getD a.addrs i [])]))
 s).fst.body)
 (List.drop (0 : Nat)
 (List.set
 (adEncode
 (Adv.mk a.id a.pri a.every
 (strs (List.length a.addrs) fun i => [AVal.str (List.getD a.addrs i [])]))
 s).fst.body
 ((0 : Nat) + Int.toNat x * (1 : Nat))
 (List.getD
 (adEncode
 (Adv.mk a.id a.pri a.every
 (strs (List.length a.addrs) fun i => [AVal.str (List.getD a.addrs i [])]))
 s).fst.body
 ((0 : Nat) + Int.toNat x * (1 : Nat)) (0 : UInt8) ^^^
 b8 y)))))).fst.addrs
 i [])])
 (0 : Int) (0 : Int) (0 : Int) (0 : Nat) fun x => []))
 [])
 (K (AVal.bool false) []))
 (((0 : Int) ≤ (0 : Int) ∧ (0 : Int) < (2 : Int)) ∧
 I64
 (x -
 (↑(List.length
 (adEncode
 (Adv.mk a.id a.pri a.every (strs (List.length a.addrs) fun i => [AVal.str (List.getD a.addrs i [])]))
 s).fst.body) :
 Int)) ∧
 brP
 (decide
 (x -
 (↑(List.length
 (adEncode
 (Adv.mk a.id a.pri a.every
 (strs (List.length a.addrs) fun i => [AVal.str (List.getD a.addrs i [])]))
 s).fst.body) :
 Int) <
 (↑(List.length s) : Int)))
 (List.length s ≤ (140737488355328 : Nat) ∧
 ((0 : Int) ≤ (0 : Int) ∧ (0 : Int) < (2 : Int)) ∧
 I64
 (x -
 (↑(List.length
 (adEncode
 (Adv.mk a.id a.pri a.every
 (strs (List.length a.addrs) fun i => [AVal.str (List.getD a.addrs i [])]))
 s).fst.body) :
 Int)) ∧
 ((0 : Int) ≤
 x -
 (↑(List.length
 (adEncode
 (Adv.mk a.id a.pri a.every
 (strs (List.length a.addrs) fun i => [AVal.str (List.getD a.addrs i [])]))
 s).fst.body) :
 Int) ∧
 x -
 (↑(List.length
 (adEncode
 (Adv.mk a.id a.pri a.every
 (strs (List.length a.addrs) fun i => [AVal.str (List.getD a.addrs i [])]))
 s).fst.body) :
 Int) <
 (↑(List.length s) : Int)) ∧
 (0 : Nat) +
 Int.toNat
 (x -
 (↑(List.length
 (adEncode
 (Adv.mk a.id a.pri a.every
 (strs (List.length a.addrs) fun i => [AVal.str (List.getD a.addrs i [])]))
 s).fst.body) :
 Int)) *
 (1 : Nat) <
 List.length s ∧
 ((0 : Int) ≤ (1 : Int) ∧ (1 : Int) < (2 : Int)) ∧
 ((0 : Int) ≤
 x -
 (↑(List.length
 (adEncode
 (Adv.mk a.id a.pri a.every
 (strs (List.length a.addrs) fun i => [AVal.str (List.getD a.addrs i [])]))
 s).fst.body) :
 Int) ∧
 x -
 (↑(List.length
 (adEncode
 (Adv.mk a.id a.pri a.every
 (strs (List.length a.addrs) fun i => [AVal.str (List.getD a.addrs i [])]))
 s).fst.body) :
 Int) <
 (↑(List.length s) : Int)) ∧
 (0 : Nat) +
 Int.toNat
 (x -
 (↑(List.length
 (adEncode
 (Adv.mk a.id a.pri a.every
 (strs (List.length a.addrs) fun i => [AVal.str (List.getD a.addrs i [])]))
 s).fst.body) :
 Int)) *
 (1 : Nat) <
 List.length s ∧
 List.length
 (adEncode
 (Adv.mk a.id a.pri a.every
 (strs (List.length a.addrs) fun i => [AVal.str (List.getD a.addrs i [])]))
 s).fst.body ≤
 (140737488351232 : Nat) ∧
 brP
 (!decide
 ((adDecode
 (Ip.mk
 (List.take (List.length s)
 (List.drop (0 : Nat)
 (List.set s
 ((0 : Nat) +
 Int.toNat
 (x -
 (↑(List.length
 (adEncode
 (Adv.mk a.id a.pri a.every
 (strs (List.length a.addrs) fun i => [AVal.str (List.getD a.addrs i [])]))
 s).fst.body) :
 Int)) *
 (1 : Nat))
 (List.getD s
 ((0 : Nat) +
 Int.toNat
 (x -
 (↑(List.length
 (adEncode
 (Adv.mk a.id a.pri a.every
 (strs (List.length a.addrs) fun i => [AVal.str (List.getD a.addrs i [])]))
 s).fst.body) :
 Int)) *
 (1 : Nat))
 (0 : UInt8) ^^^
 b8 y))))
 (adEncode
 (Adv.mk a.id a.pri a.every
 (strs (List.length a.addrs) fun i => [AVal.str (List.getD a.addrs i [])]))
 s).fst.dst
 (adEncode
 (Adv.mk a.id a.pri a.every
 (strs (List.length a.addrs) fun i => [AVal.str (List.getD a.addrs i [])]))
 s).fst.proto
 (adEncode
 (Adv.mk a.id a.pri a.every
 (strs (List.length a.addrs) fun i => [AVal.str (List.getD a.addrs i [])]))
 s).fst.ttl
 (adEncode
 (Adv.mk a.id a.pri a.every
 (strs (List.length a.addrs) fun i => [AVal.str (List.getD a.addrs i [])]))
 s).fst.body)).snd =
 (0 : Int)))
 (((IsStrs
 (List.length
 (adDecode
 (Ip.mk
 (List.take (List.length s)
 (List.drop (0 : Nat)
 (List.set s
 ((0 : Nat) +
 Int.toNat
 (x -
 (↑(List.length
 (adEncode
 (Adv.mk a.id a.pri a.every
 (strs (List.length a.addrs) fun i => [AVal.str (List.getD a.addrs i [])]))
 s).fst.body) :
 Int)) *
 (1 : Nat))
 (List.getD s
 ((0 : Nat) +
 Int.toNat
 (x -
 (↑(List.length
 (adEncode
 (Adv.mk a.id a.pri a.every
 (strs (List.length a.addrs) fun i => [AVal.str (List.getD a.addrs i [])]))
 s).fst.body) :
 Int)) *
 (1 : Nat))
 (0 : UInt8) ^^^
 b8 y))))
 (adEncode
 (Adv.mk a.id a.pri a.every
 (strs (List.length a.addrs) fun i => [AVal.str (List.getD a.addrs i [])]))
 s).fst.dst
 (adEncode
 (Adv.mk a.id a.pri a.every
 (strs (List.length a.addrs) fun i => [AVal.str (List.getD a.addrs i [])]))
 s).fst.proto
 (adEncode
 (Adv.mk a.id a.pri a.every
 (strs (List.length a.addrs) fun i => [AVal.str (List.getD a.addrs i [])]))
 s).fst.ttl
 (adEncode
 (Adv.mk a.id a.pri a.every
 (strs (List.length a.addrs) fun i => [AVal.str (List.getD a.addrs i [])]))
 s).fst.body)).fst.addrs)
 fun i =>
 [AVal.str
 (List.getD
 (adDecode
 (Ip.mk
 (List.take (List.length s)
 (List.drop (0 : Nat)
 (List.set s
 ((0 : Nat) +
 Int.toNat
 (x -
 (↑(List.length
 (adEncode
 (Adv.mk a.id a.pri a.every
 (strs (List.length a.addrs) fun i => [AVal.str (List.getD a.addrs i [])]))
 s).fst.body) :
 Int)) *
 (1 : Nat))
 (List.getD s
 ((0 : Nat) +
 Int.toNat
 (x -
 (↑(List.length
 (adEncode
 (Adv.mk a.id a.pri a.every
 (strs (List.length a.addrs) fun i =>
 [AVal.str (List.getD a.addrs i [])]))
 s).fst.body) :
 Int)) *
 (1 : Nat))
 (0 : UInt8) ^^^
 b8 y))))
 (adEncode
 (Adv.mk a.id a.pri a.every
 (strs (List.length a.addrs) fun i => [AVal.str (List.getD a.addrs i [])]))
 s).fst.dst
 (adEncode
 (Adv.mk a.id a.pri a.every
 (strs (List.length a.addrs) fun i => [AVal.str (List.getD a.addrs i [])]))
 s).fst.proto
 (adEncode
 (Adv.mk a.id a.pri a.every
 (strs (List.length a.addrs) fun i => [AVal.str (List.getD a.addrs i [])]))
 s).fst.ttl
 (adEncode
 (Adv.mk a.id a.pri a.every
 (strs (List.length a.addrs) fun i => [AVal.str (List.getD a.addrs i [])]))
 s).fst.body)).fst.addrs
 i [])]) ∧
 (IsStrs (0 : Nat) fun x => []) ∧
 List.length
 (adDecode
 (Ip.mk
 (List.take (List.length s)
 (List.drop (0 : Nat)
 (List.set s
 ((0 : Nat) +
 Int.toNat
 (x -
 (↑(List.length
 (adEncode
 (Adv.mk a.id a.pri a.every
 (strs (List.length a.addrs) fun i => [AVal.str (List.getD a.addrs i [])]))
 s).fst.body) :
 Int)) *
 (1 : Nat))
 (List.getD s
 ((0 : Nat) +
 Int.toNat
 (x -
 (↑(List.length
 (adEncode
 (Adv.mk a.id a.pri a.every
 (strs (List.length a.addrs) fun i => [AVal.str (List.getD a.addrs i [])]))
 s).fst.body) :
 Int)) *
 (1 : Nat))
 (0 : UInt8) ^^^
 b8 y))))
 (adEncode
 (Adv.mk a.id a.pri a.every
 (strs (List.length a.addrs) fun i => [AVal.str (List.getD a.addrs i [])]))
 s).fst.dst
 (adEncode
 (Adv.mk a.id a.pri a.every
 (strs (List.length a.addrs) fun i => [AVal.str (List.getD a.addrs i [])]))
 s).fst.proto
 (adEncode
 (Adv.mk a.id a.pri a.every
 (strs (List.length a.addrs) fun i => [AVal.str (List.getD a.addrs i [])]))
 s).fst.ttl
 (adEncode
 (Adv.mk a.id a.pri a.every
 (strs (List.length a.addrs) fun i => [AVal.str (List.getD a.addrs i [])]))
 s).fst.body)).fst.addrs ≤
 (8796093022000 : Nat)) ∧
 K
 (AVal.bool
 (sameA
 (adDecode
 (Ip.mk
 (List.take (List.length s)
 (List.drop (0 : Nat)
 (List.set s
 ((0 : Nat) +
 Int.toNat
 (x -
 (↑(List.length
 (adEncode
 (Adv.mk a.id a.pri a.every
 (strs (List.length a.addrs) fun i => [AVal.str (List.getD a.addrs i [])]))
 s).fst.body) :
 Int)) *
 (1 : Nat))
 (List.getD s
 ((0 : Nat) +
 Int.toNat
 (x -
 (↑(List.length
 (adEncode
 (Adv.mk a.id a.pri a.every
 (strs (List.length a.addrs) fun i => [AVal.str (List.getD a.addrs i [])]))
 s).fst.body) :
 Int)) *
 (1 : Nat))
 (0 : UInt8) ^^^
 b8 y))))
 (adEncode
 (Adv.mk a.id a.pri a.every
 (strs (List.length a.addrs) fun i => [AVal.str (List.getD a.addrs i [])]))
 s).fst.dst
 (adEncode
 (Adv.mk a.id a.pri a.every
 (strs (List.length a.addrs) fun i => [AVal.str (List.getD a.addrs i [])]))
 s).fst.proto
 (adEncode
 (Adv.mk a.id a.pri a.every
 (strs (List.length a.addrs) fun i => [AVal.str (List.getD a.addrs i [])]))
 s).fst.ttl
 (adEncode
 (Adv.mk a.id a.pri a.every
 (strs (List.length a.addrs) fun i => [AVal.str (List.getD a.addrs i [])]))
 s).fst.body)).fst.id
 (adDecode
 (Ip.mk
 (List.take (List.length s)
 (List.drop (0 : Nat)
 (List.set s
 ((0 : Nat) +
 Int.toNat
 (x -
 (↑(List.length
 (adEncode
 (Adv.mk a.id a.pri a.every
 (strs (List.length a.addrs) fun i => [AVal.str (List.getD a.addrs i [])]))
 s).fst.body) :
 Int)) *
 (1 : Nat))
 (List.getD s
 ((0 : Nat) +
 Int.toNat
 (x -
 (↑(List.length
 (adEncode
 (Adv.mk a.id a.pri a.every
 (strs (List.length a.addrs) fun i => [AVal.str (List.getD a.addrs i [])]))
 s).fst.body) :
 Int)) *
 (1 : Nat))
 (0 : UInt8) ^^^
 b8 y))))
 (adEncode
 (Adv.mk a.id a.pri a.every
 (strs (List.length a.addrs) fun i => [AVal.str (List.getD a.addrs i [])]))
 s).fst.dst
 (adEncode
 (Adv.mk a.id a.pri a.every
 (strs (List.length a.addrs) fun i => [AVal.str (List.getD a.addrs i [])]))
 s).fst.proto
 (adEncode
 (Adv.mk a.id a.pri a.every
 (strs (List.length a.addrs) fun i => [AVal.str (List.getD a.addrs i [])]))
 s).fst.ttl
 (adEncode
 (Adv.mk a.id a.pri a.every
 (strs (List.length a.addrs) fun i => [AVal.str (List.getD a.addrs i [])]))
 s).fst.body)).fst.pri
 (adDecode
 (Ip.mk
 (List.take (List.length s)
 (List.drop (0 : Nat)
 (List.set s
 ((0 : Nat) +
 Int.toNat
 (x -
 (↑(List.length
 (adEncode
 (Adv.mk a.id a.pri a.every
 (strs (List.length a.addrs) fun i => [AVal.str (List.getD a.addrs i [])]))
 s).fst.body) :
 Int)) *
 (1 : Nat))
 (List.getD s
 ((0 : Nat) +
 Int.toNat
 (x -
 (↑(List.length
 (adEncode
 (Adv.mk a.id a.pri a.every
 (strs (List.length a.addrs) fun i => [AVal.str (List.getD a.addrs i [])]))
 s).fst.body) :
 Int)) *
 (1 : Nat))
 (0 : UInt8) ^^^
 b8 y))))
 (adEncode
 (Adv.mk a.id a.pri a.every
 (strs (List.length a.addrs) fun i => [AVal.str (List.getD a.addrs i [])]))
 s).fst.dst
 (adEncode
 (Adv.mk a.id a.pri a.every
 (strs (List.length a.addrs) fun i => [AVal.str (List.getD a.addrs i [])]))
 s).fst.proto
 (adEncode
 (Adv.mk a.id a.pri a.every
 (strs (List.length a.addrs) fun i => [AVal.str (List.getD a.addrs i [])]))
 s).fst.ttl
 (adEncode
 (Adv.mk a.id a.pri a.every
 (strs (List.length a.addrs) fun i => [AVal.str (List.getD a.addrs i [])]))
 s).fst.body)).fst.every
 (List.length
 (adDecode
 (Ip.mk
 (List.take (List.length s)
 (List.drop (0 : Nat)
 (List.set s
 ((0 : Nat) +
 Int.toNat
 (x -
 (↑(List.length
 (adEncode
 (Adv.mk a.id a.pri a.every
 (strs (List.length a.addrs) fun i => [AVal.str (List.getD a.addrs i [])]))
 s).fst.body) :
 Int)) *
 (1 : Nat))
 (List.getD s
 ((0 : Nat) +
 Int.toNat
 (x -
 (↑(List.length
 (adEncode
 (Adv.mk a.id a.pri a.every
 (strs (List.length a.addrs) fun i => [AVal.str (List.getD a.addrs i [])]))
 s).fst.body) :
 Int)) *
 (1 : Nat))
 (0 : UInt8) ^^^
 b8 y))))
 (adEncode
 (Adv.mk a.id a.pri a.every
 (strs (List.length a.addrs) fun i => [AVal.str (List.getD a.addrs i [])]))
 s).fst.dst
 (adEncode
 (Adv.mk a.id a.pri a.every
 (strs (List.length a.addrs) fun i => [AVal.str (List.getD a.addrs i [])]))
 s).fst.proto
 (adEncode
 (Adv.mk a.id a.pri a.every
 (strs (List.length a.addrs) fun i => [AVal.str (List.getD a.addrs i [])]))
 s).fst.ttl
 (adEncode
 (Adv.mk a.id a.pri a.every
 (strs (List.length a.addrs) fun i => [AVal.str (List.getD a.addrs i [])]))
 s).fst.body)).fst.addrs)
 (fun i =>
 [AVal.str
 (List.getD
 (adDecode
 (Ip.mk
 (List.take (List.length s)
 (List.drop (0 : Nat)
 (List.set s
 ((0 : Nat) +
 Int.toNat
 (x -
 (↑(List.length
 (adEncode
 (Adv.mk a.id a.pri a.every
 (strs (List.length a.addrs) fun i =>
 [AVal.str (List.getD a.addrs i [])]))
 s).fst.body) :
 Int)) *
 (1 : Nat))
 (List.getD s
 ((0 : Nat) +
 Int.toNat
 (x -
 (↑(List.length
 (adEncode
 (Adv.mk a.id a.pri a.every
 (strs (List.length a.addrs) fun i =>
 [AVal.str (List.getD a.addrs i [])]))
 s).fst.body) :
 Int)) *
 (1 : Nat))
 (0 : UInt8) ^^^
 b8 y))))
 (adEncode
 (Adv.mk a.id a.pri a.every
 (strs (List.length a.addrs) fun i => [AVal.str (List.getD a.addrs i [])]))
 s).fst.dst
 (adEncode
 (Adv.mk a.id a.pri a.every
 (strs (List.length a.addrs) fun i => [AVal.str (List.getD a.addrs i [])]))
 s).fst.proto
 (adEncode
 (Adv.mk a.id a.pri a.every
 (strs (List.length a.addrs) fun i => [AVal.str (List.getD a.addrs i [])]))
 s).fst.ttl
 (adEncode
 (Adv.mk a.id a.pri a.every
 (strs (List.length a.addrs) fun i => [AVal.str (List.getD a.addrs i [])]))
 s).fst.body)).fst.addrs
 i [])])
 (0 : Int) (0 : Int) (0 : Int) (0 : Nat) fun x => []))
 [])
 (K (AVal.bool false) []))
 (K (AVal.bool true) [])))) := by kernel_rfl
attribute [local irreducible] fnP in
theorem advertTurned.core (a : Adv) (s : List UInt8) (x y : Int) (h_a : AdvOk a) (h_s : s.length ≤ 140737488351232) (h_x : -9223372036854775808 ≤ x ∧ x ≤ 9223372036854775807) (h_y : -9223372036854775808 ≤ y ∧ y ≤ 9223372036854775807) :
    fnP Try.prog Tlw ann_outriderlaw06_AdvertTurned Try.f5 [.agg (advCells a), .str s, .agg [.int .i64 x, .int .i64 y]] [] (fun v _ => v = .bool true) := by
  rw [AdvertTurned_eq]
  obtain ⟨a1, a2, a3, a4⟩ := h_a
  have eta : (⟨a.id, a.pri, a.every, a.addrs⟩ : Adv) = a := rfl
  have eip : ∀ P : Ip, (⟨P.src, P.dst, P.proto, P.ttl, P.body⟩ : Ip) = P := fun _ => rfl
  simp only [strs_of, eta]
  have hs : IsStrs a.addrs.length (fun i => [AVal.str (a.addrs.getD i [])]) ∧ a.addrs.length ≤ 140737488351232 := ⟨isStrs_of _ _, by omega⟩
  refine ⟨hs, ?_⟩
  by_cases hr : adRight a s = true
  case neg =>
    rw [adEncode_no hr]
    exact ⟨impP_i (fun _ => by omega), impP_i (fun _ => by omega), impP_i (fun _ => by omega), brP_i (fun _ => trivial) (fun h => by simp at h)⟩
  have f := ad_facts hr
  have hbl : (adPacket a s).body.length ≤ 136 := by
    show (adBody a (adSum a s)).length ≤ 136
    have := (ad_len hr).2
    rw [f.len]; omega
  rw [adEncode_yes hr]
  simp only [eip]
  refine ⟨impP_i (fun _ => by omega), impP_i (fun _ => by omega), impP_i (fun _ => by omega), brP_i (fun _ => trivial) (fun h => ?_)⟩
  have hxy : 0 ≤ x ∧ 1 ≤ y ∧ y ≤ 255 := by
    simp only [Bool.and_eq_true, Bool.or_eq_true, Bool.and_eq_false_iff, Bool.or_eq_false_iff, decide_eq_true_eq, decide_eq_false_iff_not, Bool.not_eq_true', Bool.not_eq_false', Bool.not_true, Bool.not_false, Bool.true_and, Bool.and_true, Bool.false_or, Bool.or_false, beq_iff_eq, beq_eq_false_iff_ne, ne_eq] at h
    omega
  have hz := b8_ne (m := y) ⟨hxy.2.1, hxy.2.2⟩
  have t1 := fun k hk => ad_turned1 hr (k := k) hk hz
  have t2 := fun k hk => ad_turned2 hr (k := k) hk hz
  simp only [List.drop_zero, Nat.zero_add, Nat.mul_one]
  refine ⟨by omega, brP_d (fun hl => ?_) (fun hl => ?_)⟩
  · rw [List.take_of_length_le (l := (adPacket a s).body.set _ _) (by simp)]
    simp only [List.length_set]
    obtain ⟨e, he, hne⟩ := t1 x.toNat (by omega)
    simp only [he]
    refine ⟨by omega, by omega, by omega, by omega, by omega, by omega, by omega, by omega, ?_⟩
    exact brP_i (fun _ => ⟨⟨fun i hi => by simp [noAdv] at hi, fun i hi => by omega, by simp [noAdv]⟩, rfl⟩) (fun h => absurd (by simpa using h) hne)
  · refine ⟨by omega, by unfold I64; omega, brP_d (fun hk => ?_) (fun _ => trivial)⟩
    rw [List.take_of_length_le (l := s.set _ _) (by simp)]
    obtain ⟨e, he, hne⟩ := t2 (x - ((adPacket a s).body.length : Int)).toNat (by omega)
    simp only [he]
    refine ⟨by omega, by omega, by unfold I64; omega, by omega, by omega, by omega, by omega, by omega, by omega, ?_⟩
    exact brP_i (fun _ => ⟨⟨fun i hi => by simp [noAdv] at hi, fun i hi => by omega, by simp [noAdv]⟩, rfl⟩) (fun h => absurd (by simpa using h) hne)
end Go.Proofs.Ytbjolilknkbehaa.Ae
namespace Go.Proofs.Ytbjolilknkbehaa
open Go Go.RowKit Ae
attribute [local irreducible] fnP in
set_option maxRecDepth 100000 in
theorem advertTurned.walk {H : Type} {enc : TypeId × Value → H} (W : World) (args : Array Value) (hn : args.size = 3)
    (h : ∀ (j : Nat) t v, Try.f5.params[j]? = some t → args[j]? = some v → RdV enc false Try.prog W t v) :
    Calls Try.prog 5 args W fun e w' => e = .returned (.bool true) ∧ Below W.heap.size W w' := by
  obtain ⟨v0, v1, v2, rfl⟩ := args3 hn
  obtain ⟨a, h_a, hv0⟩ := arg_struct (b := false) (.inl ⟨_, Try.underlying24⟩) open_adv (h 0 24 v0 rfl rfl)
  obtain ⟨s, h_s, hv1⟩ := arg_str (b := false) (m := Mp.nil) (G := []) Try.underlying25 (h 1 25 v1 rfl rfl)
  obtain ⟨vs2, hs2, hv2⟩ := arg_agg (b := false) (d := 6) (ks := [.int .i64, .int .i64]) (.inr ⟨_, _, Try.underlying39⟩) (by kernel_rfl) (h 2 39 v2 rfl rfl)
  obtain ⟨_, _, rfl, ⟨x, rfl, h_x⟩, _, _, rfl, ⟨y, rfl, h_y⟩, rfl⟩ := hs2
  obtain ⟨r, H1, hr, hG⟩ := fn_sound Tlw_sound mixed Try.func5 (by decide +kernel) (advertTurned.core a s x y h_a (len_lim h_s) (i64_bd h_x) (i64_bd h_y))
  subst hr
  exact law_walk hG (vl_cons hv0 (vl_cons hv1 (vl_cons hv2 vl_nil)))

namespace advertTurned
theorem spec {H : Type} (ds : List (DataW H)) (h : ds.length = Try.f5.params.size) : Rows.advertTurnedSpec.fn H ds = { results := [.lit (.bool true)], args := ds } := by
  have h' : ds.length = 3 := h
  match ds, h' with
  | [_, _, _], _ => rfl

set_option maxRecDepth 100000 in
theorem lifted (os : Os) (started : os.Started) (H : Type) (enc : TypeId × Value → H) :
    ReturnsInHanded {} Try.checked os 5 .any (Rows.advertTurnedSpec.pre6 enc Try.prog Try.f5 Rows.advertTurnedRow.domain false) (Rows.advertTurnedSpec.post enc Try.prog Try.f5 false true false false) :=
  lifted_said (C := Try.checked) (tb := 4) own started (by kernel_rfl) Try.func5
    (ChangeSpec.witness6 (enc := enc) (C := Try.checked) false ⟨#[], #[.agg #[.int .i64 0, .int .i64 0, .int .i64 0, .slice none 0 0], .string .empty, .agg #[.int .i64 0, .int .i64 0]], []⟩ 8 (by kernel_rfl) (by kernel_rfl) (by kernel_rfl) (by kernel_rfl))
    rfl spec rfl Try.underlying4 laidOut (by kernel_rfl) walk

theorem over : Rows.advertTurnedRow.holds Try.pinned (OpenSpec.ofChange Rows.advertTurnedSpec) :=
  OpenClaim.holds_of_wide 5 Try.f5 rfl rfl rfl rfl rfl rfl rfl ⟨rfl, rfl, rfl, rfl, rfl⟩ rfl rfl rfl rfl rfl (by kernel_rfl) Try.func5 (by kernel_rfl)
    (of_decide_eq_true (by kernel_rfl)) (by unfold Func.isWrapper; first | (rw [if_pos (by decide +kernel)]; kernel_rfl) | (rw [if_neg (by decide +kernel)]; exact ⟨rfl, rfl⟩))
    (fun os started H enc _ => lifted os started H enc)

theorem proved : Rows.AdvertTurnedSaid := over
#print axioms proved
end advertTurned

end Go.Proofs.Ytbjolilknkbehaa

