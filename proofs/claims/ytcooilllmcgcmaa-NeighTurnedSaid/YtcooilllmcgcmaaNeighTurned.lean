/- NeighTurned: an ND of which one byte is another one is refused. No conditions. -/
import Derived.Test.YtcooilllmcgcmaaAl
import Derived.Test.YtcooilllmcgcmaaMnb2
set_option linter.unusedSimpArgs false
set_option linter.unusedVariables false
namespace Go.Proofs.Ytcooilllmcgcmaa.Ae
open Go Go.RowKit
def ann_outriderlaw04_NeighTurned : Nat → List Nat × Nat × List (List Nat)
  | 7 => ([], 11, [[], [], [1], [1, 2], [0, 1, 2, 3], [0, 1, 2, 3, 4], [], [6], [6, 7], [0, 1, 2, 3, 4, 5, 6, 7, 8], [0, 1, 2, 3, 4, 5, 6, 7, 8, 9]])
  | 2000001 => ([], 31, [[], [0], [0, 1], [0, 1, 2], [0, 1, 2, 3], [0, 1, 2, 3, 4], [0, 1, 2, 3, 4, 5], [0, 1, 2, 3, 4, 5, 6], [0, 1, 2, 3, 4, 5, 6, 7], [0, 1, 2, 3, 4, 5, 6, 7, 8], [0, 1, 2, 3, 4, 5, 6, 7, 8, 9], [0, 1, 2, 3, 4, 5, 6, 7, 8, 9, 10], [0, 1, 2, 3, 4, 5, 6, 7, 8, 9, 10, 11], [0, 1, 2, 3, 4, 5, 6, 7, 8, 9, 10, 11, 12], [0, 1, 2, 3, 4, 5, 6, 7, 8, 9, 10, 11, 12, 13], [0, 1, 2, 3, 4, 5, 6, 7, 8, 9, 10, 11, 12, 13, 14], [0, 1, 2, 3, 4, 5, 6, 7, 8, 9, 10, 11, 12, 13, 14, 15], [0, 1, 2, 3, 4, 5, 6, 7, 8, 9, 10, 11, 12, 13, 14, 15, 16], [0, 1, 2, 3, 4, 5, 6, 7, 8, 9, 10, 11, 12, 13, 14, 15, 16, 17], [0, 1, 2, 3, 4, 5, 6, 7, 8, 9, 10, 11, 12, 13, 14, 15, 16, 17, 18], [0, 1, 2, 3, 4, 5, 6, 7, 8, 9, 10, 11, 12, 13, 14, 15, 16, 17, 18, 19], [0, 1, 2, 3, 4, 5, 6, 7, 8, 9, 10, 11, 12, 13, 14, 15, 16, 17, 18, 19, 20], [0, 1, 2, 3, 4, 5, 6, 7, 8, 9, 10, 11, 12, 13, 14, 15, 16, 17, 18, 19, 20, 21], [0, 1, 2, 3, 4, 5, 6, 7, 8, 9, 10, 11, 12, 13, 14, 15, 16, 17, 18, 19, 20, 21, 22], [0, 1, 2, 3, 4, 5, 6, 7, 8, 9, 10, 11, 12, 13, 14, 15, 16, 17, 18, 19, 20, 21, 22, 23], [0, 1, 2, 3, 4, 5, 6, 7, 8, 9, 10, 11, 12, 13, 14, 15, 16, 17, 18, 19, 20, 21, 22, 23, 24], [0, 1, 2, 3, 4, 5, 6, 7, 8, 9, 10, 11, 12, 13, 14, 15, 16, 17, 18, 19, 20, 21, 22, 23, 24, 25], [0, 1, 2, 3, 4, 5, 6, 7, 8, 9, 10, 11, 12, 13, 14, 15, 16, 17, 18, 19, 20, 21, 22, 23, 24, 25, 26], [0, 1, 2, 3, 4, 5, 6, 7, 8, 9, 10, 11, 12, 13, 14, 15, 16, 17, 18, 19, 20, 21, 22, 23, 24, 25, 26, 27], [0, 1, 2, 3, 4, 5, 6, 7, 8, 9, 10, 11, 12, 13, 14, 15, 16, 17, 18, 19, 20, 21, 22, 23, 24, 25, 26, 27, 28]])
  | 2000004 => ([], 8, [[], [0], [0, 1], [0, 1, 2], [0, 1, 2, 3], [0, 1, 2, 3, 4], [0, 1, 2, 3, 4, 5]])
  | _ => ([], 0, [])
set_option maxRecDepth 100000 in
theorem NeighTurned_eq (m0 m1 m2 m3 m4 m5 : UInt8) (a b : List UInt8) (x y : Int) (K : AVal → Hp → Prop) : fnP Try.prog Tlw ann_outriderlaw04_NeighTurned Try.f4 [.agg [.byte m0, .byte m1, .byte m2, .byte m3, .byte m4, .byte m5], .agg [.str a, .str b], .agg [.int .i64 x, .int .i64 y]] [] K = (
 impP true ((0 : Int) ≤ (0 : Int) ∧ (0 : Int) < (2 : Int)) ∧
 impP (!!decide ((↑(List.length a) : Int) = (16 : Int))) ((0 : Int) ≤ (1 : Int) ∧ (1 : Int) < (2 : Int)) ∧
 impP (!(!decide ((↑(List.length a) : Int) = (16 : Int)) || !decide ((↑(List.length b) : Int) = (16 : Int))))
 ((0 : Int) ≤ (0 : Int) ∧ (0 : Int) < (2 : Int)) ∧
 impP
 (!(!decide ((↑(List.length a) : Int) = (16 : Int)) || !decide ((↑(List.length b) : Int) = (16 : Int)) ||
 decide (x < (0 : Int))))
 ((0 : Int) ≤ (0 : Int) ∧ (0 : Int) < (2 : Int)) ∧
 impP
 (!(!decide ((↑(List.length a) : Int) = (16 : Int)) || !decide ((↑(List.length b) : Int) = (16 : Int)) ||
 decide (x < (0 : Int)) ||
 decide ((31 : Int) < x)))
 ((0 : Int) ≤ (1 : Int) ∧ (1 : Int) < (2 : Int)) ∧
 impP
 (!(!decide ((↑(List.length a) : Int) = (16 : Int)) || !decide ((↑(List.length b) : Int) = (16 : Int)) ||
 decide (x < (0 : Int)) ||
 decide ((31 : Int) < x) ||
 decide (y < (1 : Int))))
 ((0 : Int) ≤ (1 : Int) ∧ (1 : Int) < (2 : Int)) ∧
 brP
 (!decide ((↑(List.length a) : Int) = (16 : Int)) || !decide ((↑(List.length b) : Int) = (16 : Int)) ||
 decide (x < (0 : Int)) ||
 decide ((31 : Int) < x) ||
 decide (y < (1 : Int)) ||
 decide ((255 : Int) < y))
 (K (AVal.bool true) [])
 (((0 : Int) ≤ (0 : Int) ∧ (0 : Int) < (2 : Int)) ∧
 ((0 : Int) ≤ (1 : Int) ∧ (1 : Int) < (2 : Int)) ∧
 optP (nbTell (Mc.mk m0 m1 m2 m3 m4 m5) a (Mc.mk m0 m1 m2 m3 m4 m5) b)
 (fun x_1 =>
 brP (!decide ((↑(List.length x_1) : Int) = (86 : Int))) (K (AVal.bool false) [])
 (List.length (List.take (List.length x_1) (List.drop (0 : Nat) x_1)) ≤ (140737488355328 : Nat) ∧
 List.length (etDecode (List.take (List.length x_1) (List.drop (0 : Nat) x_1))).fst.body ≤
 (140737488351232 : Nat) ∧
 brP (decide ((etDecode (List.take (List.length x_1) (List.drop (0 : Nat) x_1))).snd = (0 : Int)))
 (((0 : Int) ≤ (0 : Int) ∧ (0 : Int) < (2 : Int)) ∧
 I64 ((54 : Int) + x) ∧
 ((0 : Int) ≤ (54 : Int) + x ∧ (54 : Int) + x < (↑(List.length x_1) : Int)) ∧
 (0 : Nat) + Int.toNat ((54 : Int) + x) * (1 : Nat) < List.length x_1 ∧
 ((0 : Int) ≤ (1 : Int) ∧ (1 : Int) < (2 : Int)) ∧
 ((0 : Int) ≤ (54 : Int) + x ∧ (54 : Int) + x < (↑(List.length x_1) : Int)) ∧
 (0 : Nat) + Int.toNat ((54 : Int) + x) * (1 : Nat) < List.length x_1 ∧
 List.length
 (List.take (List.length x_1)
 (List.drop (0 : Nat)
 (List.set x_1 ((0 : Nat) + Int.toNat ((54 : Int) + x) * (1 : Nat))
 (List.getD x_1 ((0 : Nat) + Int.toNat ((54 : Int) + x) * (1 : Nat)) (0 : UInt8) ^^^
 b8 y)))) ≤
 (140737488355328 : Nat) ∧
 List.length
 (etDecode
 (List.take (List.length x_1)
 (List.drop (0 : Nat)
 (List.set x_1 ((0 : Nat) + Int.toNat ((54 : Int) + x) * (1 : Nat))
 (List.getD x_1 ((0 : Nat) + Int.toNat ((54 : Int) + x) * (1 : Nat)) (0 : UInt8) ^^^
 b8 y))))).fst.body ≤
 (140737488351232 : Nat) ∧
 brP
 (decide
 ((etDecode
 (List.take (List.length x_1)
 (List.drop (0 : Nat)
 (List.set x_1 ((0 : Nat) + Int.toNat ((54 : Int) + x) * (1 : Nat))
 (List.getD x_1 ((0 : Nat) + Int.toNat ((54 : Int) + x) * (1 : Nat)) (0 : UInt8) ^^^
 b8 y))))).snd =
 (0 : Int)))
 (brP
 (decide
 ((nbRead
 (Fm.mk
 (Mc.mk (etDecode (List.take (List.length x_1) (List.drop (0 : Nat) x_1))).fst.a.a0
 (etDecode (List.take (List.length x_1) (List.drop (0 : Nat) x_1))).fst.a.a1
 (etDecode (List.take (List.length x_1) (List.drop (0 : Nat) x_1))).fst.a.a2
 (etDecode (List.take (List.length x_1) (List.drop (0 : Nat) x_1))).fst.a.a3
 (etDecode (List.take (List.length x_1) (List.drop (0 : Nat) x_1))).fst.a.a4
 (etDecode (List.take (List.length x_1) (List.drop (0 : Nat) x_1))).fst.a.a5)
 (Mc.mk (etDecode (List.take (List.length x_1) (List.drop (0 : Nat) x_1))).fst.b.a0
 (etDecode (List.take (List.length x_1) (List.drop (0 : Nat) x_1))).fst.b.a1
 (etDecode (List.take (List.length x_1) (List.drop (0 : Nat) x_1))).fst.b.a2
 (etDecode (List.take (List.length x_1) (List.drop (0 : Nat) x_1))).fst.b.a3
 (etDecode (List.take (List.length x_1) (List.drop (0 : Nat) x_1))).fst.b.a4
 (etDecode (List.take (List.length x_1) (List.drop (0 : Nat) x_1))).fst.b.a5)
 (etDecode (List.take (List.length x_1) (List.drop (0 : Nat) x_1))).fst.ty
 (etDecode
 (List.take (List.length x_1) (List.drop (0 : Nat) x_1))).fst.body)).fst.kind =
 (2 : Int)))
 (brP
 (!decide
 ((nbRead
 (Fm.mk
 (Mc.mk
 (etDecode
 (List.take (List.length x_1)
 (List.drop (0 : Nat)
 (List.set x_1 ((0 : Nat) + Int.toNat ((54 : Int) + x) * (1 : Nat))
 (List.getD x_1 ((0 : Nat) + Int.toNat ((54 : Int) + x) * (1 : Nat))
 (0 : UInt8) ^^^
 b8 y))))).fst.a.a0
 (etDecode
 (List.take (List.length x_1)
 (List.drop (0 : Nat)
 (List.set x_1 ((0 : Nat) + Int.toNat ((54 : Int) + x) * (1 : Nat))
 (List.getD x_1 ((0 : Nat) + Int.toNat ((54 : Int) + x) * (1 : Nat))
 (0 : UInt8) ^^^
 b8 y))))).fst.a.a1
 (etDecode
 (List.take (List.length x_1)
 (List.drop (0 : Nat)
 (List.set x_1 ((0 : Nat) + Int.toNat ((54 : Int) + x) * (1 : Nat))
 (List.getD x_1 ((0 : Nat) + Int.toNat ((54 : Int) + x) * (1 : Nat))
 (0 : UInt8) ^^^
 b8 y))))).fst.a.a2
 (etDecode
 (List.take (List.length x_1)
 (List.drop (0 : Nat)
 (List.set x_1 ((0 : Nat) + Int.toNat ((54 : Int) + x) * (1 : Nat))
 (List.getD x_1 ((0 : Nat) + Int.toNat ((54 : Int) + x) * (1 : Nat))
 (0 : UInt8) ^^^
 b8 y))))).fst.a.a3
 (etDecode
 (List.take (List.length x_1)
 (List.drop (0 : Nat)
 (List.set x_1 ((0 : Nat) + Int.toNat ((54 : Int) + x) * (1 : Nat))
 (List.getD x_1 ((0 : Nat) + Int.toNat ((54 : Int) + x) * (1 : Nat))
 (0 : UInt8) ^^^
 b8 y))))).fst.a.a4
 (etDecode
 (List.take (List.length x_1)
 (List.drop (0 : Nat)
 (List.set x_1 ((0 : Nat) + Int.toNat ((54 : Int) + x) * (1 : Nat))
 (List.getD x_1 ((0 : Nat) + Int.toNat ((54 : Int) + x) * (1 : Nat))
 (0 : UInt8) ^^^
 b8 y))))).fst.a.a5)
 (Mc.mk
 (etDecode
 (List.take (List.length x_1)
 (List.drop (0 : Nat)
 (List.set x_1 ((0 : Nat) + Int.toNat ((54 : Int) + x) * (1 : Nat))
 (List.getD x_1 ((0 : Nat) + Int.toNat ((54 : Int) + x) * (1 : Nat))
 (0 : UInt8) ^^^
 b8 y))))).fst.b.a0
 (etDecode
 (List.take (List.length x_1)
 (List.drop (0 : Nat)
 (List.set x_1 ((0 : Nat) + Int.toNat ((54 : Int) + x) * (1 : Nat))
 (List.getD x_1 ((0 : Nat) + Int.toNat ((54 : Int) + x) * (1 : Nat))
 (0 : UInt8) ^^^
 b8 y))))).fst.b.a1
 (etDecode
 (List.take (List.length x_1)
 (List.drop (0 : Nat)
 (List.set x_1 ((0 : Nat) + Int.toNat ((54 : Int) + x) * (1 : Nat))
 (List.getD x_1 ((0 : Nat) + Int.toNat ((54 : Int) + x) * (1 : Nat))
 (0 : UInt8) ^^^
 b8 y))))).fst.b.a2
 (etDecode
 (List.take (List.length x_1)
 (List.drop (0 : Nat)
 (List.set x_1 ((0 : Nat) + Int.toNat ((54 : Int) + x) * (1 : Nat))
 (List.getD x_1 ((0 : Nat) + Int.toNat ((54 : Int) + x) * (1 : Nat))
 (0 : UInt8) ^^^
 b8 y))))).fst.b.a3
 (etDecode
 (List.take (List.length x_1)
 (List.drop (0 : Nat)
 (List.set x_1 ((0 : Nat) + Int.toNat ((54 : Int) + x) * (1 : Nat))
 (List.getD x_1 ((0 : Nat) + Int.toNat ((54 : Int) + x) * (1 : Nat))
 (0 : UInt8) ^^^
 b8 y))))).fst.b.a4
 (etDecode
 (List.take (List.length x_1)
 (List.drop (0 : Nat)
 (List.set x_1 ((0 : Nat) + Int.toNat ((54 : Int) + x) * (1 : Nat))
 (List.getD x_1 ((0 : Nat) + Int.toNat ((54 : Int) + x) * (1 : Nat))
 (0 : UInt8) ^^^
 b8 y))))).fst.b.a5)
 (etDecode
 (List.take (List.length x_1)
 (List.drop (0 : Nat)
 (List.set x_1 ((0 : Nat) + Int.toNat ((54 : Int) + x) * (1 : Nat))
 (List.getD x_1 ((0 : Nat) + Int.toNat ((54 : Int) + x) * (1 : Nat))
 (0 : UInt8) ^^^
 b8 y))))).fst.ty
 (etDecode
 (List.take (List.length x_1)
 (List.drop (0 : Nat)
 (List.set x_1 ((0 : Nat) + Int.toNat ((54 : Int) + x) * (1 : Nat))
 (List.getD x_1 ((0 : Nat) + Int.toNat ((54 : Int) + x) * (1 : Nat))
 (0 : UInt8) ^^^
 b8 y))))).fst.body)).snd =
 (0 : Int)))
 (K
 (AVal.bool
 (decide
 ((nbRead
 (Fm.mk
 (Mc.mk
 (etDecode
 (List.take (List.length x_1)
 (List.drop (0 : Nat)
 (List.set x_1 ((0 : Nat) + Int.toNat ((54 : Int) + x) * (1 : Nat))
 (List.getD x_1 ((0 : Nat) + Int.toNat ((54 : Int) + x) * (1 : Nat))
 (0 : UInt8) ^^^
 b8 y))))).fst.a.a0
 (etDecode
 (List.take (List.length x_1)
 (List.drop (0 : Nat)
 (List.set x_1 ((0 : Nat) + Int.toNat ((54 : Int) + x) * (1 : Nat))
 (List.getD x_1 ((0 : Nat) + Int.toNat ((54 : Int) + x) * (1 : Nat))
 (0 : UInt8) ^^^
 b8 y))))).fst.a.a1
 (etDecode
 (List.take (List.length x_1)
 (List.drop (0 : Nat)
 (List.set x_1 ((0 : Nat) + Int.toNat ((54 : Int) + x) * (1 : Nat))
 (List.getD x_1 ((0 : Nat) + Int.toNat ((54 : Int) + x) * (1 : Nat))
 (0 : UInt8) ^^^
 b8 y))))).fst.a.a2
 (etDecode
 (List.take (List.length x_1)
 (List.drop (0 : Nat)
 (List.set x_1 ((0 : Nat) + Int.toNat ((54 : Int) + x) * (1 : Nat))
 (List.getD x_1 ((0 : Nat) + Int.toNat ((54 : Int) + x) * (1 : Nat))
 (0 : UInt8) ^^^
 b8 y))))).fst.a.a3
 (etDecode
 (List.take (List.length x_1)
 (List.drop (0 : Nat)
 (List.set x_1 ((0 : Nat) + Int.toNat ((54 : Int) + x) * (1 : Nat))
 (List.getD x_1 ((0 : Nat) + Int.toNat ((54 : Int) + x) * (1 : Nat))
 (0 : UInt8) ^^^
 b8 y))))).fst.a.a4
 (etDecode
 (List.take (List.length x_1)
 (List.drop (0 : Nat)
 (List.set x_1 ((0 : Nat) + Int.toNat ((54 : Int) + x) * (1 : Nat))
 (List.getD x_1 ((0 : Nat) + Int.toNat ((54 : Int) + x) * (1 : Nat))
 (0 : UInt8) ^^^
 b8 y))))).fst.a.a5)
 (Mc.mk
 (etDecode
 (List.take (List.length x_1)
 (List.drop (0 : Nat)
 (List.set x_1 ((0 : Nat) + Int.toNat ((54 : Int) + x) * (1 : Nat))
 (List.getD x_1 ((0 : Nat) + Int.toNat ((54 : Int) + x) * (1 : Nat))
 (0 : UInt8) ^^^
 b8 y))))).fst.b.a0
 (etDecode
 (List.take (List.length x_1)
 (List.drop (0 : Nat)
 (List.set x_1 ((0 : Nat) + Int.toNat ((54 : Int) + x) * (1 : Nat))
 (List.getD x_1 ((0 : Nat) + Int.toNat ((54 : Int) + x) * (1 : Nat))
 (0 : UInt8) ^^^
 b8 y))))).fst.b.a1
 (etDecode
 (List.take (List.length x_1)
 (List.drop (0 : Nat)
 (List.set x_1 ((0 : Nat) + Int.toNat ((54 : Int) + x) * (1 : Nat))
 (List.getD x_1 ((0 : Nat) + Int.toNat ((54 : Int) + x) * (1 : Nat))
 (0 : UInt8) ^^^
 b8 y))))).fst.b.a2
 (etDecode
 (List.take (List.length x_1)
 (List.drop (0 : Nat)
 (List.set x_1 ((0 : Nat) + Int.toNat ((54 : Int) + x) * (1 : Nat))
 (List.getD x_1 ((0 : Nat) + Int.toNat ((54 : Int) + x) * (1 : Nat))
 (0 : UInt8) ^^^
 b8 y))))).fst.b.a3
 (etDecode
 (List.take (List.length x_1)
 (List.drop (0 : Nat)
 (List.set x_1 ((0 : Nat) + Int.toNat ((54 : Int) + x) * (1 : Nat))
 (List.getD x_1 ((0 : Nat) + Int.toNat ((54 : Int) + x) * (1 : Nat))
 (0 : UInt8) ^^^
 b8 y))))).fst.b.a4
 (etDecode
 (List.take (List.length x_1)
 (List.drop (0 : Nat)
 (List.set x_1 ((0 : Nat) + Int.toNat ((54 : Int) + x) * (1 : Nat))
 (List.getD x_1 ((0 : Nat) + Int.toNat ((54 : Int) + x) * (1 : Nat))
 (0 : UInt8) ^^^
 b8 y))))).fst.b.a5)
 (etDecode
 (List.take (List.length x_1)
 (List.drop (0 : Nat)
 (List.set x_1 ((0 : Nat) + Int.toNat ((54 : Int) + x) * (1 : Nat))
 (List.getD x_1 ((0 : Nat) + Int.toNat ((54 : Int) + x) * (1 : Nat))
 (0 : UInt8) ^^^
 b8 y))))).fst.ty
 (etDecode
 (List.take (List.length x_1)
 (List.drop (0 : Nat)
 (List.set x_1 ((0 : Nat) + Int.toNat ((54 : Int) + x) * (1 : Nat))
 (List.getD x_1 ((0 : Nat) + Int.toNat ((54 : Int) + x) * (1 : Nat))
 (0 : UInt8) ^^^
 b8 y))))).fst.body)).fst.kind =
 (0 : Int)) &&
 (decide
 ((nbRead
 (Fm.mk
 (Mc.mk
 (etDecode
 (List.take (List.length x_1)
 (List.drop (0 : Nat)
 (List.set x_1 ((0 : Nat) + Int.toNat ((54 : Int) + x) * (1 : Nat))
 (List.getD x_1 ((0 : Nat) + Int.toNat ((54 : Int) + x) * (1 : Nat))
 (0 : UInt8) ^^^
 b8 y))))).fst.a.a0
 (etDecode
 (List.take (List.length x_1)
 (List.drop (0 : Nat)
 (List.set x_1 ((0 : Nat) + Int.toNat ((54 : Int) + x) * (1 : Nat))
 (List.getD x_1 ((0 : Nat) + Int.toNat ((54 : Int) + x) * (1 : Nat))
 (0 : UInt8) ^^^
 b8 y))))).fst.a.a1
 (etDecode
 (List.take (List.length x_1)
 (List.drop (0 : Nat)
 (List.set x_1 ((0 : Nat) + Int.toNat ((54 : Int) + x) * (1 : Nat))
 (List.getD x_1 ((0 : Nat) + Int.toNat ((54 : Int) + x) * (1 : Nat))
 (0 : UInt8) ^^^
 b8 y))))).fst.a.a2
 (etDecode
 (List.take (List.length x_1)
 (List.drop (0 : Nat)
 (List.set x_1 ((0 : Nat) + Int.toNat ((54 : Int) + x) * (1 : Nat))
 (List.getD x_1 ((0 : Nat) + Int.toNat ((54 : Int) + x) * (1 : Nat))
 (0 : UInt8) ^^^
 b8 y))))).fst.a.a3
 (etDecode
 (List.take (List.length x_1)
 (List.drop (0 : Nat)
 (List.set x_1 ((0 : Nat) + Int.toNat ((54 : Int) + x) * (1 : Nat))
 (List.getD x_1 ((0 : Nat) + Int.toNat ((54 : Int) + x) * (1 : Nat))
 (0 : UInt8) ^^^
 b8 y))))).fst.a.a4
 (etDecode
 (List.take (List.length x_1)
 (List.drop (0 : Nat)
 (List.set x_1 ((0 : Nat) + Int.toNat ((54 : Int) + x) * (1 : Nat))
 (List.getD x_1 ((0 : Nat) + Int.toNat ((54 : Int) + x) * (1 : Nat))
 (0 : UInt8) ^^^
 b8 y))))).fst.a.a5)
 (Mc.mk
 (etDecode
 (List.take (List.length x_1)
 (List.drop (0 : Nat)
 (List.set x_1 ((0 : Nat) + Int.toNat ((54 : Int) + x) * (1 : Nat))
 (List.getD x_1 ((0 : Nat) + Int.toNat ((54 : Int) + x) * (1 : Nat))
 (0 : UInt8) ^^^
 b8 y))))).fst.b.a0
 (etDecode
 (List.take (List.length x_1)
 (List.drop (0 : Nat)
 (List.set x_1 ((0 : Nat) + Int.toNat ((54 : Int) + x) * (1 : Nat))
 (List.getD x_1 ((0 : Nat) + Int.toNat ((54 : Int) + x) * (1 : Nat))
 (0 : UInt8) ^^^
 b8 y))))).fst.b.a1
 (etDecode
 (List.take (List.length x_1)
 (List.drop (0 : Nat)
 (List.set x_1 ((0 : Nat) + Int.toNat ((54 : Int) + x) * (1 : Nat))
 (List.getD x_1 ((0 : Nat) + Int.toNat ((54 : Int) + x) * (1 : Nat))
 (0 : UInt8) ^^^
 b8 y))))).fst.b.a2
 (etDecode
 (List.take (List.length x_1)
 (List.drop (0 : Nat)
 (List.set x_1 ((0 : Nat) + Int.toNat ((54 : Int) + x) * (1 : Nat))
 (List.getD x_1 ((0 : Nat) + Int.toNat ((54 : Int) + x) * (1 : Nat))
 (0 : UInt8) ^^^
 b8 y))))).fst.b.a3
 (etDecode
 (List.take (List.length x_1)
 (List.drop (0 : Nat)
 (List.set x_1 ((0 : Nat) + Int.toNat ((54 : Int) + x) * (1 : Nat))
 (List.getD x_1 ((0 : Nat) + Int.toNat ((54 : Int) + x) * (1 : Nat))
 (0 : UInt8) ^^^
 b8 y))))).fst.b.a4
 (etDecode
 (List.take (List.length x_1)
 (List.drop (0 : Nat)
 (List.set x_1 ((0 : Nat) + Int.toNat ((54 : Int) + x) * (1 : Nat))
 (List.getD x_1 ((0 : Nat) + Int.toNat ((54 : Int) + x) * (1 : Nat))
 (0 : UInt8) ^^^
 b8 y))))).fst.b.a5)
 (etDecode
 (List.take (List.length x_1)
 (List.drop (0 : Nat)
 (List.set x_1 ((0 : Nat) + Int.toNat ((54 : Int) + x) * (1 : Nat))
 (List.getD x_1 ((0 : Nat) + Int.toNat ((54 : Int) + x) * (1 : Nat))
 (0 : UInt8) ^^^
 b8 y))))).fst.ty
 (etDecode
 (List.take (List.length x_1)
 (List.drop (0 : Nat)
 (List.set x_1 ((0 : Nat) + Int.toNat ((54 : Int) + x) * (1 : Nat))
 (List.getD x_1 ((0 : Nat) + Int.toNat ((54 : Int) + x) * (1 : Nat))
 (0 : UInt8) ^^^
 b8 y))))).fst.body)).fst.mac.a0 =
 (0 : UInt8)) &&
 (decide
 ((nbRead
 (Fm.mk
 (Mc.mk
 (etDecode
 (List.take (List.length x_1)
 (List.drop (0 : Nat)
 (List.set x_1 ((0 : Nat) + Int.toNat ((54 : Int) + x) * (1 : Nat))
 (List.getD x_1 ((0 : Nat) + Int.toNat ((54 : Int) + x) * (1 : Nat))
 (0 : UInt8) ^^^
 b8 y))))).fst.a.a0
 (etDecode
 (List.take (List.length x_1)
 (List.drop (0 : Nat)
 (List.set x_1 ((0 : Nat) + Int.toNat ((54 : Int) + x) * (1 : Nat))
 (List.getD x_1 ((0 : Nat) + Int.toNat ((54 : Int) + x) * (1 : Nat))
 (0 : UInt8) ^^^
 b8 y))))).fst.a.a1
 (etDecode
 (List.take (List.length x_1)
 (List.drop (0 : Nat)
 (List.set x_1 ((0 : Nat) + Int.toNat ((54 : Int) + x) * (1 : Nat))
 (List.getD x_1 ((0 : Nat) + Int.toNat ((54 : Int) + x) * (1 : Nat))
 (0 : UInt8) ^^^
 b8 y))))).fst.a.a2
 (etDecode
 (List.take (List.length x_1)
 (List.drop (0 : Nat)
 (List.set x_1 ((0 : Nat) + Int.toNat ((54 : Int) + x) * (1 : Nat))
 (List.getD x_1 ((0 : Nat) + Int.toNat ((54 : Int) + x) * (1 : Nat))
 (0 : UInt8) ^^^
 b8 y))))).fst.a.a3
 (etDecode
 (List.take (List.length x_1)
 (List.drop (0 : Nat)
 (List.set x_1 ((0 : Nat) + Int.toNat ((54 : Int) + x) * (1 : Nat))
 (List.getD x_1 ((0 : Nat) + Int.toNat ((54 : Int) + x) * (1 : Nat))
 (0 : UInt8) ^^^
 b8 y))))).fst.a.a4
 (etDecode
 (List.take (List.length x_1)
 (List.drop (0 : Nat)
 (List.set x_1 ((0 : Nat) + Int.toNat ((54 : Int) + x) * (1 : Nat))
 (List.getD x_1 ((0 : Nat) + Int.toNat ((54 : Int) + x) * (1 : Nat))
 (0 : UInt8) ^^^
 b8 y))))).fst.a.a5)
 (Mc.mk
 (etDecode
 (List.take (List.length x_1)
 (List.drop (0 : Nat)
 (List.set x_1 ((0 : Nat) + Int.toNat ((54 : Int) + x) * (1 : Nat))
 (List.getD x_1 ((0 : Nat) + Int.toNat ((54 : Int) + x) * (1 : Nat))
 (0 : UInt8) ^^^
 b8 y))))).fst.b.a0
 (etDecode
 (List.take (List.length x_1)
 (List.drop (0 : Nat)
 (List.set x_1 ((0 : Nat) + Int.toNat ((54 : Int) + x) * (1 : Nat))
 (List.getD x_1 ((0 : Nat) + Int.toNat ((54 : Int) + x) * (1 : Nat))
 (0 : UInt8) ^^^
 b8 y))))).fst.b.a1
 (etDecode
 (List.take (List.length x_1)
 (List.drop (0 : Nat)
 (List.set x_1 ((0 : Nat) + Int.toNat ((54 : Int) + x) * (1 : Nat))
 (List.getD x_1 ((0 : Nat) + Int.toNat ((54 : Int) + x) * (1 : Nat))
 (0 : UInt8) ^^^
 b8 y))))).fst.b.a2
 (etDecode
 (List.take (List.length x_1)
 (List.drop (0 : Nat)
 (List.set x_1 ((0 : Nat) + Int.toNat ((54 : Int) + x) * (1 : Nat))
 (List.getD x_1 ((0 : Nat) + Int.toNat ((54 : Int) + x) * (1 : Nat))
 (0 : UInt8) ^^^
 b8 y))))).fst.b.a3
 (etDecode
 (List.take (List.length x_1)
 (List.drop (0 : Nat)
 (List.set x_1 ((0 : Nat) + Int.toNat ((54 : Int) + x) * (1 : Nat))
 (List.getD x_1 ((0 : Nat) + Int.toNat ((54 : Int) + x) * (1 : Nat))
 (0 : UInt8) ^^^
 b8 y))))).fst.b.a4
 (etDecode
 (List.take (List.length x_1)
 (List.drop (0 : Nat)
 (List.set x_1 ((0 : Nat) + Int.toNat ((54 : Int) + x) * (1 : Nat))
 (List.getD x_1 ((0 : Nat) + Int.toNat ((54 : Int) + x) * (1 : Nat))
 (0 : UInt8) ^^^
 b8 y))))).fst.b.a5)
 (etDecode
 (List.take (List.length x_1)
 (List.drop (0 : Nat)
 (List.set x_1 ((0 : Nat) + Int.toNat ((54 : Int) + x) * (1 : Nat))
 (List.getD x_1 ((0 : Nat) + Int.toNat ((54 : Int) + x) * (1 : Nat))
 (0 : UInt8) ^^^
 b8 y))))).fst.ty
 (etDecode
 (List.take (List.length x_1)
 (List.drop (0 : Nat)
 (List.set x_1 ((0 : Nat) + Int.toNat ((54 : Int) + x) * (1 : Nat))
 (List.getD x_1 ((0 : Nat) + Int.toNat ((54 : Int) + x) * (1 : Nat))
 (0 : UInt8) ^^^
 b8 y))))).fst.body)).fst.mac.a1 =
 (0 : UInt8)) &&
 (decide
 ((nbRead
 (Fm.mk
 (Mc.mk
 (etDecode
 (List.take (List.length x_1)
 (List.drop (0 : Nat)
 (List.set x_1 ((0 : Nat) + Int.toNat ((54 : Int) + x) * (1 : Nat))
 (List.getD x_1 ((0 : Nat) + Int.toNat ((54 : Int) + x) * (1 : Nat))
 (0 : UInt8) ^^^
 b8 y))))).fst.a.a0
 (etDecode
 (List.take (List.length x_1)
 (List.drop (0 : Nat)
 (List.set x_1 ((0 : Nat) + Int.toNat ((54 : Int) + x) * (1 : Nat))
 (List.getD x_1 ((0 : Nat) + Int.toNat ((54 : Int) + x) * (1 : Nat))
 (0 : UInt8) ^^^
 b8 y))))).fst.a.a1
 (etDecode
 (List.take (List.length x_1)
 (List.drop (0 : Nat)
 (List.set x_1 ((0 : Nat) + Int.toNat ((54 : Int) + x) * (1 : Nat))
 (List.getD x_1 ((0 : Nat) + Int.toNat ((54 : Int) + x) * (1 : Nat))
 (0 : UInt8) ^^^
 b8 y))))).fst.a.a2
 (etDecode
 (List.take (List.length x_1)
 (List.drop (0 : Nat)
 (List.set x_1 ((0 : Nat) + Int.toNat ((54 : Int) + x) * (1 : Nat))
 (List.getD x_1 ((0 : Nat) + Int.toNat ((54 : Int) + x) * (1 : Nat))
 (0 : UInt8) ^^^
 b8 y))))).fst.a.a3
 (etDecode
 (List.take (List.length x_1)
 (List.drop (0 : Nat)
 (List.set x_1 ((0 : Nat) + Int.toNat ((54 : Int) + x) * (1 : Nat))
 (List.getD x_1 ((0 : Nat) + Int.toNat ((54 : Int) + x) * (1 : Nat))
 (0 : UInt8) ^^^
 b8 y))))).fst.a.a4
 (etDecode
 (List.take (List.length x_1)
 (List.drop (0 : Nat)
 (List.set x_1 ((0 : Nat) + Int.toNat ((54 : Int) + x) * (1 : Nat))
 (List.getD x_1 ((0 : Nat) + Int.toNat ((54 : Int) + x) * (1 : Nat))
 (0 : UInt8) ^^^
 b8 y))))).fst.a.a5)
 (Mc.mk
 (etDecode
 (List.take (List.length x_1)
 (List.drop (0 : Nat)
 (List.set x_1 ((0 : Nat) + Int.toNat ((54 : Int) + x) * (1 : Nat))
 (List.getD x_1 ((0 : Nat) + Int.toNat ((54 : Int) + x) * (1 : Nat))
 (0 : UInt8) ^^^
 b8 y))))).fst.b.a0
 (etDecode
 (List.take (List.length x_1)
 (List.drop (0 : Nat)
 (List.set x_1 ((0 : Nat) + Int.toNat ((54 : Int) + x) * (1 : Nat))
 (List.getD x_1 ((0 : Nat) + Int.toNat ((54 : Int) + x) * (1 : Nat))
 (0 : UInt8) ^^^
 b8 y))))).fst.b.a1
 (etDecode
 (List.take (List.length x_1)
 (List.drop (0 : Nat)
 (List.set x_1 ((0 : Nat) + Int.toNat ((54 : Int) + x) * (1 : Nat))
 (List.getD x_1 ((0 : Nat) + Int.toNat ((54 : Int) + x) * (1 : Nat))
 (0 : UInt8) ^^^
 b8 y))))).fst.b.a2
 (etDecode
 (List.take (List.length x_1)
 (List.drop (0 : Nat)
 (List.set x_1 ((0 : Nat) + Int.toNat ((54 : Int) + x) * (1 : Nat))
 (List.getD x_1 ((0 : Nat) + Int.toNat ((54 : Int) + x) * (1 : Nat))
 (0 : UInt8) ^^^
 b8 y))))).fst.b.a3
 (etDecode
 (List.take (List.length x_1)
 (List.drop (0 : Nat)
 (List.set x_1 ((0 : Nat) + Int.toNat ((54 : Int) + x) * (1 : Nat))
 (List.getD x_1 ((0 : Nat) + Int.toNat ((54 : Int) + x) * (1 : Nat))
 (0 : UInt8) ^^^
 b8 y))))).fst.b.a4
 (etDecode
 (List.take (List.length x_1)
 (List.drop (0 : Nat)
 (List.set x_1 ((0 : Nat) + Int.toNat ((54 : Int) + x) * (1 : Nat))
 (List.getD x_1 ((0 : Nat) + Int.toNat ((54 : Int) + x) * (1 : Nat))
 (0 : UInt8) ^^^
 b8 y))))).fst.b.a5)
 (etDecode
 (List.take (List.length x_1)
 (List.drop (0 : Nat)
 (List.set x_1 ((0 : Nat) + Int.toNat ((54 : Int) + x) * (1 : Nat))
 (List.getD x_1 ((0 : Nat) + Int.toNat ((54 : Int) + x) * (1 : Nat))
 (0 : UInt8) ^^^
 b8 y))))).fst.ty
 (etDecode
 (List.take (List.length x_1)
 (List.drop (0 : Nat)
 (List.set x_1 ((0 : Nat) + Int.toNat ((54 : Int) + x) * (1 : Nat))
 (List.getD x_1 ((0 : Nat) + Int.toNat ((54 : Int) + x) * (1 : Nat))
 (0 : UInt8) ^^^
 b8 y))))).fst.body)).fst.mac.a2 =
 (0 : UInt8)) &&
 (decide
 ((nbRead
 (Fm.mk
 (Mc.mk
 (etDecode
 (List.take (List.length x_1)
 (List.drop (0 : Nat)
 (List.set x_1 ((0 : Nat) + Int.toNat ((54 : Int) + x) * (1 : Nat))
 (List.getD x_1 ((0 : Nat) + Int.toNat ((54 : Int) + x) * (1 : Nat))
 (0 : UInt8) ^^^
 b8 y))))).fst.a.a0
 (etDecode
 (List.take (List.length x_1)
 (List.drop (0 : Nat)
 (List.set x_1 ((0 : Nat) + Int.toNat ((54 : Int) + x) * (1 : Nat))
 (List.getD x_1 ((0 : Nat) + Int.toNat ((54 : Int) + x) * (1 : Nat))
 (0 : UInt8) ^^^
 b8 y))))).fst.a.a1
 (etDecode
 (List.take (List.length x_1)
 (List.drop (0 : Nat)
 (List.set x_1 ((0 : Nat) + Int.toNat ((54 : Int) + x) * (1 : Nat))
 (List.getD x_1 ((0 : Nat) + Int.toNat ((54 : Int) + x) * (1 : Nat))
 (0 : UInt8) ^^^
 b8 y))))).fst.a.a2
 (etDecode
 (List.take (List.length x_1)
 (List.drop (0 : Nat)
 (List.set x_1 ((0 : Nat) + Int.toNat ((54 : Int) + x) * (1 : Nat))
 (List.getD x_1 ((0 : Nat) + Int.toNat ((54 : Int) + x) * (1 : Nat))
 (0 : UInt8) ^^^
 b8 y))))).fst.a.a3
 (etDecode
 (List.take (List.length x_1)
 (List.drop (0 : Nat)
 (List.set x_1 ((0 : Nat) + Int.toNat ((54 : Int) + x) * (1 : Nat))
 (List.getD x_1 ((0 : Nat) + Int.toNat ((54 : Int) + x) * (1 : Nat))
 (0 : UInt8) ^^^
 b8 y))))).fst.a.a4
 (etDecode
 (List.take (List.length x_1)
 (List.drop (0 : Nat)
 (List.set x_1 ((0 : Nat) + Int.toNat ((54 : Int) + x) * (1 : Nat))
 (List.getD x_1 ((0 : Nat) + Int.toNat ((54 : Int) + x) * (1 : Nat))
 (0 : UInt8) ^^^
 b8 y))))).fst.a.a5)
 (Mc.mk
 (etDecode
 (List.take (List.length x_1)
 (List.drop (0 : Nat)
 (List.set x_1 ((0 : Nat) + Int.toNat ((54 : Int) + x) * (1 : Nat))
 (List.getD x_1 ((0 : Nat) + Int.toNat ((54 : Int) + x) * (1 : Nat))
 (0 : UInt8) ^^^
 b8 y))))).fst.b.a0
 (etDecode
 (List.take (List.length x_1)
 (List.drop (0 : Nat)
 (List.set x_1 ((0 : Nat) + Int.toNat ((54 : Int) + x) * (1 : Nat))
 (List.getD x_1 ((0 : Nat) + Int.toNat ((54 : Int) + x) * (1 : Nat))
 (0 : UInt8) ^^^
 b8 y))))).fst.b.a1
 (etDecode
 (List.take (List.length x_1)
 (List.drop (0 : Nat)
 (List.set x_1 ((0 : Nat) + Int.toNat ((54 : Int) + x) * (1 : Nat))
 (List.getD x_1 ((0 : Nat) + Int.toNat ((54 : Int) + x) * (1 : Nat))
 (0 : UInt8) ^^^
 b8 y))))).fst.b.a2
 (etDecode
 (List.take (List.length x_1)
 (List.drop (0 : Nat)
 (List.set x_1 ((0 : Nat) + Int.toNat ((54 : Int) + x) * (1 : Nat))
 (List.getD x_1 ((0 : Nat) + Int.toNat ((54 : Int) + x) * (1 : Nat))
 (0 : UInt8) ^^^
 b8 y))))).fst.b.a3
 (etDecode
 (List.take (List.length x_1)
 (List.drop (0 : Nat)
 (List.set x_1 ((0 : Nat) + Int.toNat ((54 : Int) + x) * (1 : Nat))
 (List.getD x_1 ((0 : Nat) + Int.toNat ((54 : Int) + x) * (1 : Nat))
 (0 : UInt8) ^^^
 b8 y))))).fst.b.a4
 (etDecode
 (List.take (List.length x_1)
 (List.drop (0 : Nat)
 (List.set x_1 ((0 : Nat) + Int.toNat ((54 : Int) + x) * (1 : Nat))
 (List.getD x_1 ((0 : Nat) + Int.toNat ((54 : Int) + x) * (1 : Nat))
 (0 : UInt8) ^^^
 b8 y))))).fst.b.a5)
 (etDecode
 (List.take (List.length x_1)
 (List.drop (0 : Nat)
 (List.set x_1 ((0 : Nat) + Int.toNat ((54 : Int) + x) * (1 : Nat))
 (List.getD x_1 ((0 : Nat) + Int.toNat ((54 : Int) + x) * (1 : Nat))
 (0 : UInt8) ^^^
 b8 y))))).fst.ty
 (etDecode
 (List.take (List.length x_1)
 (List.drop (0 : Nat)
 (List.set x_1 ((0 : Nat) + Int.toNat ((54 : Int) + x) * (1 : Nat))
 (List.getD x_1 ((0 : Nat) + Int.toNat ((54 : Int) + x) * (1 : Nat))
 (0 : UInt8) ^^^
 b8 y))))).fst.body)).fst.mac.a3 =
 (0 : UInt8)) &&
 (decide
 ((nbRead
 (Fm.mk
 (Mc.mk
 (etDecode
 (List.take (List.length x_1)
 (List.drop (0 : Nat)
 (List.set x_1 ((0 : Nat) + Int.toNat ((54 : Int) + x) * (1 : Nat))
 (List.getD x_1 ((0 : Nat) + Int.toNat ((54 : Int) + x) * (1 : Nat))
 (0 : UInt8) ^^^
 b8 y))))).fst.a.a0
 (etDecode
 (List.take (List.length x_1)
 (List.drop (0 : Nat)
 (List.set x_1 ((0 : Nat) + Int.toNat ((54 : Int) + x) * (1 : Nat))
 (List.getD x_1 ((0 : Nat) + Int.toNat ((54 : Int) + x) * (1 : Nat))
 (0 : UInt8) ^^^
 b8 y))))).fst.a.a1
 (etDecode
 (List.take (List.length x_1)
 (List.drop (0 : Nat)
 (List.set x_1 ((0 : Nat) + Int.toNat ((54 : Int) + x) * (1 : Nat))
 (List.getD x_1 ((0 : Nat) + Int.toNat ((54 : Int) + x) * (1 : Nat))
 (0 : UInt8) ^^^
 b8 y))))).fst.a.a2
 (etDecode
 (List.take (List.length x_1)
 (List.drop (0 : Nat)
 (List.set x_1 ((0 : Nat) + Int.toNat ((54 : Int) + x) * (1 : Nat))
 (List.getD x_1 ((0 : Nat) + Int.toNat ((54 : Int) + x) * (1 : Nat))
 (0 : UInt8) ^^^
 b8 y))))).fst.a.a3
 (etDecode
 (List.take (List.length x_1)
 (List.drop (0 : Nat)
 (List.set x_1 ((0 : Nat) + Int.toNat ((54 : Int) + x) * (1 : Nat))
 (List.getD x_1 ((0 : Nat) + Int.toNat ((54 : Int) + x) * (1 : Nat))
 (0 : UInt8) ^^^
 b8 y))))).fst.a.a4
 (etDecode
 (List.take (List.length x_1)
 (List.drop (0 : Nat)
 (List.set x_1 ((0 : Nat) + Int.toNat ((54 : Int) + x) * (1 : Nat))
 (List.getD x_1 ((0 : Nat) + Int.toNat ((54 : Int) + x) * (1 : Nat))
 (0 : UInt8) ^^^
 b8 y))))).fst.a.a5)
 (Mc.mk
 (etDecode
 (List.take (List.length x_1)
 (List.drop (0 : Nat)
 (List.set x_1 ((0 : Nat) + Int.toNat ((54 : Int) + x) * (1 : Nat))
 (List.getD x_1 ((0 : Nat) + Int.toNat ((54 : Int) + x) * (1 : Nat))
 (0 : UInt8) ^^^
 b8 y))))).fst.b.a0
 (etDecode
 (List.take (List.length x_1)
 (List.drop (0 : Nat)
 (List.set x_1 ((0 : Nat) + Int.toNat ((54 : Int) + x) * (1 : Nat))
 (List.getD x_1 ((0 : Nat) + Int.toNat ((54 : Int) + x) * (1 : Nat))
 (0 : UInt8) ^^^
 b8 y))))).fst.b.a1
 (etDecode
 (List.take (List.length x_1)
 (List.drop (0 : Nat)
 (List.set x_1 ((0 : Nat) + Int.toNat ((54 : Int) + x) * (1 : Nat))
 (List.getD x_1 ((0 : Nat) + Int.toNat ((54 : Int) + x) * (1 : Nat))
 (0 : UInt8) ^^^
 b8 y))))).fst.b.a2
 (etDecode
 (List.take (List.length x_1)
 (List.drop (0 : Nat)
 (List.set x_1 ((0 : Nat) + Int.toNat ((54 : Int) + x) * (1 : Nat))
 (List.getD x_1 ((0 : Nat) + Int.toNat ((54 : Int) + x) * (1 : Nat))
 (0 : UInt8) ^^^
 b8 y))))).fst.b.a3
 (etDecode
 (List.take (List.length x_1)
 (List.drop (0 : Nat)
 (List.set x_1 ((0 : Nat) + Int.toNat ((54 : Int) + x) * (1 : Nat))
 (List.getD x_1 ((0 : Nat) + Int.toNat ((54 : Int) + x) * (1 : Nat))
 (0 : UInt8) ^^^
 b8 y))))).fst.b.a4
 (etDecode
 (List.take (List.length x_1)
 (List.drop (0 : Nat)
 (List.set x_1 ((0 : Nat) + Int.toNat ((54 : Int) + x) * (1 : Nat))
 (List.getD x_1 ((0 : Nat) + Int.toNat ((54 : Int) + x) * (1 : Nat))
 (0 : UInt8) ^^^
 b8 y))))).fst.b.a5)
 (etDecode
 (List.take (List.length x_1)
 (List.drop (0 : Nat)
 (List.set x_1 ((0 : Nat) + Int.toNat ((54 : Int) + x) * (1 : Nat))
 (List.getD x_1 ((0 : Nat) + Int.toNat ((54 : Int) + x) * (1 : Nat))
 (0 : UInt8) ^^^
 b8 y))))).fst.ty
 (etDecode
 (List.take (List.length x_1)
 (List.drop (0 : Nat)
 (List.set x_1 ((0 : Nat) + Int.toNat ((54 : Int) + x) * (1 : Nat))
 (List.getD x_1 ((0 : Nat) + Int.toNat ((54 : Int) + x) * (1 : Nat))
 (0 : UInt8) ^^^
 b8 y))))).fst.body)).fst.mac.a4 =
 (0 : UInt8)) &&
 (decide
 ((nbRead
 (Fm.mk
 (Mc.mk
 (etDecode
 (List.take (List.length x_1)
 (List.drop (0 : Nat)
 (List.set x_1 ((0 : Nat) + Int.toNat ((54 : Int) + x) * (1 : Nat))
 (List.getD x_1 ((0 : Nat) + Int.toNat ((54 : Int) + x) * (1 : Nat))
 (0 : UInt8) ^^^
 b8 y))))).fst.a.a0
 (etDecode
 (List.take (List.length x_1)
 (List.drop (0 : Nat)
 (List.set x_1 ((0 : Nat) + Int.toNat ((54 : Int) + x) * (1 : Nat))
 (List.getD x_1 ((0 : Nat) + Int.toNat ((54 : Int) + x) * (1 : Nat))
 (0 : UInt8) ^^^
 b8 y))))).fst.a.a1
 (etDecode
 (List.take (List.length x_1)
 (List.drop (0 : Nat)
 (List.set x_1 ((0 : Nat) + Int.toNat ((54 : Int) + x) * (1 : Nat))
 (List.getD x_1 ((0 : Nat) + Int.toNat ((54 : Int) + x) * (1 : Nat))
 (0 : UInt8) ^^^
 b8 y))))).fst.a.a2
 (etDecode
 (List.take (List.length x_1)
 (List.drop (0 : Nat)
 (List.set x_1 ((0 : Nat) + Int.toNat ((54 : Int) + x) * (1 : Nat))
 (List.getD x_1 ((0 : Nat) + Int.toNat ((54 : Int) + x) * (1 : Nat))
 (0 : UInt8) ^^^
 b8 y))))).fst.a.a3
 (etDecode
 (List.take (List.length x_1)
 (List.drop (0 : Nat)
 (List.set x_1 ((0 : Nat) + Int.toNat ((54 : Int) + x) * (1 : Nat))
 (List.getD x_1 ((0 : Nat) + Int.toNat ((54 : Int) + x) * (1 : Nat))
 (0 : UInt8) ^^^
 b8 y))))).fst.a.a4
 (etDecode
 (List.take (List.length x_1)
 (List.drop (0 : Nat)
 (List.set x_1 ((0 : Nat) + Int.toNat ((54 : Int) + x) * (1 : Nat))
 (List.getD x_1 ((0 : Nat) + Int.toNat ((54 : Int) + x) * (1 : Nat))
 (0 : UInt8) ^^^
 b8 y))))).fst.a.a5)
 (Mc.mk
 (etDecode
 (List.take (List.length x_1)
 (List.drop (0 : Nat)
 (List.set x_1 ((0 : Nat) + Int.toNat ((54 : Int) + x) * (1 : Nat))
 (List.getD x_1 ((0 : Nat) + Int.toNat ((54 : Int) + x) * (1 : Nat))
 (0 : UInt8) ^^^
 b8 y))))).fst.b.a0
 (etDecode
 (List.take (List.length x_1)
 (List.drop (0 : Nat)
 (List.set x_1 ((0 : Nat) + Int.toNat ((54 : Int) + x) * (1 : Nat))
 (List.getD x_1 ((0 : Nat) + Int.toNat ((54 : Int) + x) * (1 : Nat))
 (0 : UInt8) ^^^
 b8 y))))).fst.b.a1
 (etDecode
 (List.take (List.length x_1)
 (List.drop (0 : Nat)
 (List.set x_1 ((0 : Nat) + Int.toNat ((54 : Int) + x) * (1 : Nat))
 (List.getD x_1 ((0 : Nat) + Int.toNat ((54 : Int) + x) * (1 : Nat))
 (0 : UInt8) ^^^
 b8 y))))).fst.b.a2
 (etDecode
 (List.take (List.length x_1)
 (List.drop (0 : Nat)
 (List.set x_1 ((0 : Nat) + Int.toNat ((54 : Int) + x) * (1 : Nat))
 (List.getD x_1 ((0 : Nat) + Int.toNat ((54 : Int) + x) * (1 : Nat))
 (0 : UInt8) ^^^
 b8 y))))).fst.b.a3
 (etDecode
 (List.take (List.length x_1)
 (List.drop (0 : Nat)
 (List.set x_1 ((0 : Nat) + Int.toNat ((54 : Int) + x) * (1 : Nat))
 (List.getD x_1 ((0 : Nat) + Int.toNat ((54 : Int) + x) * (1 : Nat))
 (0 : UInt8) ^^^
 b8 y))))).fst.b.a4
 (etDecode
 (List.take (List.length x_1)
 (List.drop (0 : Nat)
 (List.set x_1 ((0 : Nat) + Int.toNat ((54 : Int) + x) * (1 : Nat))
 (List.getD x_1 ((0 : Nat) + Int.toNat ((54 : Int) + x) * (1 : Nat))
 (0 : UInt8) ^^^
 b8 y))))).fst.b.a5)
 (etDecode
 (List.take (List.length x_1)
 (List.drop (0 : Nat)
 (List.set x_1 ((0 : Nat) + Int.toNat ((54 : Int) + x) * (1 : Nat))
 (List.getD x_1 ((0 : Nat) + Int.toNat ((54 : Int) + x) * (1 : Nat))
 (0 : UInt8) ^^^
 b8 y))))).fst.ty
 (etDecode
 (List.take (List.length x_1)
 (List.drop (0 : Nat)
 (List.set x_1 ((0 : Nat) + Int.toNat ((54 : Int) + x) * (1 : Nat))
 (List.getD x_1 ((0 : Nat) + Int.toNat ((54 : Int) + x) * (1 : Nat))
 (0 : UInt8) ^^^
 b8 y))))).fst.body)).fst.mac.a5 =
 (0 : UInt8)) &&
 (decide
 ((nbRead
 (Fm.mk
 (Mc.mk
 (etDecode
 (List.take (List.length x_1)
 (List.drop (0 : Nat)
 (List.set x_1 ((0 : Nat) + Int.toNat ((54 : Int) + x) * (1 : Nat))
 (List.getD x_1 ((0 : Nat) + Int.toNat ((54 : Int) + x) * (1 : Nat))
 (0 : UInt8) ^^^
 b8 y))))).fst.a.a0
 (etDecode
 (List.take (List.length x_1)
 (List.drop (0 : Nat)
 (List.set x_1 ((0 : Nat) + Int.toNat ((54 : Int) + x) * (1 : Nat))
 (List.getD x_1 ((0 : Nat) + Int.toNat ((54 : Int) + x) * (1 : Nat))
 (0 : UInt8) ^^^
 b8 y))))).fst.a.a1
 (etDecode
 (List.take (List.length x_1)
 (List.drop (0 : Nat)
 (List.set x_1 ((0 : Nat) + Int.toNat ((54 : Int) + x) * (1 : Nat))
 (List.getD x_1 ((0 : Nat) + Int.toNat ((54 : Int) + x) * (1 : Nat))
 (0 : UInt8) ^^^
 b8 y))))).fst.a.a2
 (etDecode
 (List.take (List.length x_1)
 (List.drop (0 : Nat)
 (List.set x_1 ((0 : Nat) + Int.toNat ((54 : Int) + x) * (1 : Nat))
 (List.getD x_1 ((0 : Nat) + Int.toNat ((54 : Int) + x) * (1 : Nat))
 (0 : UInt8) ^^^
 b8 y))))).fst.a.a3
 (etDecode
 (List.take (List.length x_1)
 (List.drop (0 : Nat)
 (List.set x_1 ((0 : Nat) + Int.toNat ((54 : Int) + x) * (1 : Nat))
 (List.getD x_1 ((0 : Nat) + Int.toNat ((54 : Int) + x) * (1 : Nat))
 (0 : UInt8) ^^^
 b8 y))))).fst.a.a4
 (etDecode
 (List.take (List.length x_1)
 (List.drop (0 : Nat)
 (List.set x_1 ((0 : Nat) + Int.toNat ((54 : Int) + x) * (1 : Nat))
 (List.getD x_1 ((0 : Nat) + Int.toNat ((54 : Int) + x) * (1 : Nat))
 (0 : UInt8) ^^^
 b8 y))))).fst.a.a5)
 (Mc.mk
 (etDecode
 (List.take (List.length x_1)
 (List.drop (0 : Nat)
 (List.set x_1 ((0 : Nat) + Int.toNat ((54 : Int) + x) * (1 : Nat))
 (List.getD x_1 ((0 : Nat) + Int.toNat ((54 : Int) + x) * (1 : Nat))
 (0 : UInt8) ^^^
 b8 y))))).fst.b.a0
 (etDecode
 (List.take (List.length x_1)
 (List.drop (0 : Nat)
 (List.set x_1 ((0 : Nat) + Int.toNat ((54 : Int) + x) * (1 : Nat))
 (List.getD x_1 ((0 : Nat) + Int.toNat ((54 : Int) + x) * (1 : Nat))
 (0 : UInt8) ^^^
 b8 y))))).fst.b.a1
 (etDecode
 (List.take (List.length x_1)
 (List.drop (0 : Nat)
 (List.set x_1 ((0 : Nat) + Int.toNat ((54 : Int) + x) * (1 : Nat))
 (List.getD x_1 ((0 : Nat) + Int.toNat ((54 : Int) + x) * (1 : Nat))
 (0 : UInt8) ^^^
 b8 y))))).fst.b.a2
 (etDecode
 (List.take (List.length x_1)
 (List.drop (0 : Nat)
 (List.set x_1 ((0 : Nat) + Int.toNat ((54 : Int) + x) * (1 : Nat))
 (List.getD x_1 ((0 : Nat) + Int.toNat ((54 : Int) + x) * (1 : Nat))
 (0 : UInt8) ^^^
 b8 y))))).fst.b.a3
 (etDecode
 (List.take (List.length x_1)
 (List.drop (0 : Nat)
 (List.set x_1 ((0 : Nat) + Int.toNat ((54 : Int) + x) * (1 : Nat))
 (List.getD x_1 ((0 : Nat) + Int.toNat ((54 : Int) + x) * (1 : Nat))
 (0 : UInt8) ^^^
 b8 y))))).fst.b.a4
 (etDecode
 (List.take (List.length x_1)
 (List.drop (0 : Nat)
 (List.set x_1 ((0 : Nat) + Int.toNat ((54 : Int) + x) * (1 : Nat))
 (List.getD x_1 ((0 : Nat) + Int.toNat ((54 : Int) + x) * (1 : Nat))
 (0 : UInt8) ^^^
 b8 y))))).fst.b.a5)
 (etDecode
 (List.take (List.length x_1)
 (List.drop (0 : Nat)
 (List.set x_1 ((0 : Nat) + Int.toNat ((54 : Int) + x) * (1 : Nat))
 (List.getD x_1 ((0 : Nat) + Int.toNat ((54 : Int) + x) * (1 : Nat))
 (0 : UInt8) ^^^
 b8 y))))).fst.ty
 (etDecode
 (List.take (List.length x_1)
 (List.drop (0 : Nat)
 (List.set x_1 ((0 : Nat) + Int.toNat ((54 : Int) + x) * (1 : Nat))
 (List.getD x_1 ((0 : Nat) + Int.toNat ((54 : Int) + x) * (1 : Nat))
 (0 : UInt8) ^^^
 b8 y))))).fst.body)).fst.addr =
 []) &&
 (decide
 ((nbRead
 (Fm.mk
 (Mc.mk
 (etDecode
 (List.take (List.length x_1)
 (List.drop (0 : Nat)
 (List.set x_1 ((0 : Nat) + Int.toNat ((54 : Int) + x) * (1 : Nat))
 (List.getD x_1 ((0 : Nat) + Int.toNat ((54 : Int) + x) * (1 : Nat))
 (0 : UInt8) ^^^
 b8 y))))).fst.a.a0
 (etDecode
 (List.take (List.length x_1)
 (List.drop (0 : Nat)
 (List.set x_1 ((0 : Nat) + Int.toNat ((54 : Int) + x) * (1 : Nat))
 (List.getD x_1 ((0 : Nat) + Int.toNat ((54 : Int) + x) * (1 : Nat))
 (0 : UInt8) ^^^
 b8 y))))).fst.a.a1
 (etDecode
 (List.take (List.length x_1)
 (List.drop (0 : Nat)
 (List.set x_1 ((0 : Nat) + Int.toNat ((54 : Int) + x) * (1 : Nat))
 (List.getD x_1 ((0 : Nat) + Int.toNat ((54 : Int) + x) * (1 : Nat))
 (0 : UInt8) ^^^
 b8 y))))).fst.a.a2
 (etDecode
 (List.take (List.length x_1)
 (List.drop (0 : Nat)
 (List.set x_1 ((0 : Nat) + Int.toNat ((54 : Int) + x) * (1 : Nat))
 (List.getD x_1 ((0 : Nat) + Int.toNat ((54 : Int) + x) * (1 : Nat))
 (0 : UInt8) ^^^
 b8 y))))).fst.a.a3
 (etDecode
 (List.take (List.length x_1)
 (List.drop (0 : Nat)
 (List.set x_1 ((0 : Nat) + Int.toNat ((54 : Int) + x) * (1 : Nat))
 (List.getD x_1 ((0 : Nat) + Int.toNat ((54 : Int) + x) * (1 : Nat))
 (0 : UInt8) ^^^
 b8 y))))).fst.a.a4
 (etDecode
 (List.take (List.length x_1)
 (List.drop (0 : Nat)
 (List.set x_1 ((0 : Nat) + Int.toNat ((54 : Int) + x) * (1 : Nat))
 (List.getD x_1 ((0 : Nat) + Int.toNat ((54 : Int) + x) * (1 : Nat))
 (0 : UInt8) ^^^
 b8 y))))).fst.a.a5)
 (Mc.mk
 (etDecode
 (List.take (List.length x_1)
 (List.drop (0 : Nat)
 (List.set x_1 ((0 : Nat) + Int.toNat ((54 : Int) + x) * (1 : Nat))
 (List.getD x_1 ((0 : Nat) + Int.toNat ((54 : Int) + x) * (1 : Nat))
 (0 : UInt8) ^^^
 b8 y))))).fst.b.a0
 (etDecode
 (List.take (List.length x_1)
 (List.drop (0 : Nat)
 (List.set x_1 ((0 : Nat) + Int.toNat ((54 : Int) + x) * (1 : Nat))
 (List.getD x_1 ((0 : Nat) + Int.toNat ((54 : Int) + x) * (1 : Nat))
 (0 : UInt8) ^^^
 b8 y))))).fst.b.a1
 (etDecode
 (List.take (List.length x_1)
 (List.drop (0 : Nat)
 (List.set x_1 ((0 : Nat) + Int.toNat ((54 : Int) + x) * (1 : Nat))
 (List.getD x_1 ((0 : Nat) + Int.toNat ((54 : Int) + x) * (1 : Nat))
 (0 : UInt8) ^^^
 b8 y))))).fst.b.a2
 (etDecode
 (List.take (List.length x_1)
 (List.drop (0 : Nat)
 (List.set x_1 ((0 : Nat) + Int.toNat ((54 : Int) + x) * (1 : Nat))
 (List.getD x_1 ((0 : Nat) + Int.toNat ((54 : Int) + x) * (1 : Nat))
 (0 : UInt8) ^^^
 b8 y))))).fst.b.a3
 (etDecode
 (List.take (List.length x_1)
 (List.drop (0 : Nat)
 (List.set x_1 ((0 : Nat) + Int.toNat ((54 : Int) + x) * (1 : Nat))
 (List.getD x_1 ((0 : Nat) + Int.toNat ((54 : Int) + x) * (1 : Nat))
 (0 : UInt8) ^^^
 b8 y))))).fst.b.a4
 (etDecode
 (List.take (List.length x_1)
 (List.drop (0 : Nat)
 (List.set x_1 ((0 : Nat) + Int.toNat ((54 : Int) + x) * (1 : Nat))
 (List.getD x_1 ((0 : Nat) + Int.toNat ((54 : Int) + x) * (1 : Nat))
 (0 : UInt8) ^^^
 b8 y))))).fst.b.a5)
 (etDecode
 (List.take (List.length x_1)
 (List.drop (0 : Nat)
 (List.set x_1 ((0 : Nat) + Int.toNat ((54 : Int) + x) * (1 : Nat))
 (List.getD x_1 ((0 : Nat) + Int.toNat ((54 : Int) + x) * (1 : Nat))
 (0 : UInt8) ^^^
 b8 y))))).fst.ty
 (etDecode
 (List.take (List.length x_1)
 (List.drop (0 : Nat)
 (List.set x_1 ((0 : Nat) + Int.toNat ((54 : Int) + x) * (1 : Nat))
 (List.getD x_1 ((0 : Nat) + Int.toNat ((54 : Int) + x) * (1 : Nat))
 (0 : UInt8) ^^^
 b8 y))))).fst.body)).fst.target =
 []) &&
 decide
 ((nbRead
 (Fm.mk
 (Mc.mk
 (etDecode
 (List.take (List.length x_1)
 (List.drop (0 : Nat)
 (List.set x_1 ((0 : Nat) + Int.toNat ((54 : Int) + x) * (1 : Nat))
 (List.getD x_1 ((0 : Nat) + Int.toNat ((54 : Int) + x) * (1 : Nat))
 (0 : UInt8) ^^^
 b8 y))))).fst.a.a0
 (etDecode
 (List.take (List.length x_1)
 (List.drop (0 : Nat)
 (List.set x_1 ((0 : Nat) + Int.toNat ((54 : Int) + x) * (1 : Nat))
 (List.getD x_1 ((0 : Nat) + Int.toNat ((54 : Int) + x) * (1 : Nat))
 (0 : UInt8) ^^^
 b8 y))))).fst.a.a1
 (etDecode
 (List.take (List.length x_1)
 (List.drop (0 : Nat)
 (List.set x_1 ((0 : Nat) + Int.toNat ((54 : Int) + x) * (1 : Nat))
 (List.getD x_1 ((0 : Nat) + Int.toNat ((54 : Int) + x) * (1 : Nat))
 (0 : UInt8) ^^^
 b8 y))))).fst.a.a2
 (etDecode
 (List.take (List.length x_1)
 (List.drop (0 : Nat)
 (List.set x_1 ((0 : Nat) + Int.toNat ((54 : Int) + x) * (1 : Nat))
 (List.getD x_1 ((0 : Nat) + Int.toNat ((54 : Int) + x) * (1 : Nat))
 (0 : UInt8) ^^^
 b8 y))))).fst.a.a3
 (etDecode
 (List.take (List.length x_1)
 (List.drop (0 : Nat)
 (List.set x_1 ((0 : Nat) + Int.toNat ((54 : Int) + x) * (1 : Nat))
 (List.getD x_1 ((0 : Nat) + Int.toNat ((54 : Int) + x) * (1 : Nat))
 (0 : UInt8) ^^^
 b8 y))))).fst.a.a4
 (etDecode
 (List.take (List.length x_1)
 (List.drop (0 : Nat)
 (List.set x_1 ((0 : Nat) + Int.toNat ((54 : Int) + x) * (1 : Nat))
 (List.getD x_1 ((0 : Nat) + Int.toNat ((54 : Int) + x) * (1 : Nat))
 (0 : UInt8) ^^^
 b8 y))))).fst.a.a5)
 (Mc.mk
 (etDecode
 (List.take (List.length x_1)
 (List.drop (0 : Nat)
 (List.set x_1 ((0 : Nat) + Int.toNat ((54 : Int) + x) * (1 : Nat))
 (List.getD x_1 ((0 : Nat) + Int.toNat ((54 : Int) + x) * (1 : Nat))
 (0 : UInt8) ^^^
 b8 y))))).fst.b.a0
 (etDecode
 (List.take (List.length x_1)
 (List.drop (0 : Nat)
 (List.set x_1 ((0 : Nat) + Int.toNat ((54 : Int) + x) * (1 : Nat))
 (List.getD x_1 ((0 : Nat) + Int.toNat ((54 : Int) + x) * (1 : Nat))
 (0 : UInt8) ^^^
 b8 y))))).fst.b.a1
 (etDecode
 (List.take (List.length x_1)
 (List.drop (0 : Nat)
 (List.set x_1 ((0 : Nat) + Int.toNat ((54 : Int) + x) * (1 : Nat))
 (List.getD x_1 ((0 : Nat) + Int.toNat ((54 : Int) + x) * (1 : Nat))
 (0 : UInt8) ^^^
 b8 y))))).fst.b.a2
 (etDecode
 (List.take (List.length x_1)
 (List.drop (0 : Nat)
 (List.set x_1 ((0 : Nat) + Int.toNat ((54 : Int) + x) * (1 : Nat))
 (List.getD x_1 ((0 : Nat) + Int.toNat ((54 : Int) + x) * (1 : Nat))
 (0 : UInt8) ^^^
 b8 y))))).fst.b.a3
 (etDecode
 (List.take (List.length x_1)
 (List.drop (0 : Nat)
 (List.set x_1 ((0 : Nat) + Int.toNat ((54 : Int) + x) * (1 : Nat))
 (List.getD x_1 ((0 : Nat) + Int.toNat ((54 : Int) + x) * (1 : Nat))
 (0 : UInt8) ^^^
 b8 y))))).fst.b.a4
 (etDecode
 (List.take (List.length x_1)
 (List.drop (0 : Nat)
 (List.set x_1 ((0 : Nat) + Int.toNat ((54 : Int) + x) * (1 : Nat))
 (List.getD x_1 ((0 : Nat) + Int.toNat ((54 : Int) + x) * (1 : Nat))
 (0 : UInt8) ^^^
 b8 y))))).fst.b.a5)
 (etDecode
 (List.take (List.length x_1)
 (List.drop (0 : Nat)
 (List.set x_1 ((0 : Nat) + Int.toNat ((54 : Int) + x) * (1 : Nat))
 (List.getD x_1 ((0 : Nat) + Int.toNat ((54 : Int) + x) * (1 : Nat))
 (0 : UInt8) ^^^
 b8 y))))).fst.ty
 (etDecode
 (List.take (List.length x_1)
 (List.drop (0 : Nat)
 (List.set x_1 ((0 : Nat) + Int.toNat ((54 : Int) + x) * (1 : Nat))
 (List.getD x_1 ((0 : Nat) + Int.toNat ((54 : Int) + x) * (1 : Nat))
 (0 : UInt8) ^^^
 b8 y))))).fst.body)).fst.asked =
 false)))))))))))
 [])
 (K (AVal.bool false) []))
 (K (AVal.bool false) []))
 (brP
 (decide
 ((nbRead
 (Fm.mk
 (Mc.mk (etDecode (List.take (List.length x_1) (List.drop (0 : Nat) x_1))).fst.a.a0
 (etDecode (List.take (List.length x_1) (List.drop (0 : Nat) x_1))).fst.a.a1
 (etDecode (List.take (List.length x_1) (List.drop (0 : Nat) x_1))).fst.a.a2
 (etDecode (List.take (List.length x_1) (List.drop (0 : Nat) x_1))).fst.a.a3
 (etDecode (List.take (List.length x_1) (List.drop (0 : Nat) x_1))).fst.a.a4
 (etDecode (List.take (List.length x_1) (List.drop (0 : Nat) x_1))).fst.a.a5)
 (Mc.mk (etDecode (List.take (List.length x_1) (List.drop (0 : Nat) x_1))).fst.b.a0
 (etDecode (List.take (List.length x_1) (List.drop (0 : Nat) x_1))).fst.b.a1
 (etDecode (List.take (List.length x_1) (List.drop (0 : Nat) x_1))).fst.b.a2
 (etDecode (List.take (List.length x_1) (List.drop (0 : Nat) x_1))).fst.b.a3
 (etDecode (List.take (List.length x_1) (List.drop (0 : Nat) x_1))).fst.b.a4
 (etDecode (List.take (List.length x_1) (List.drop (0 : Nat) x_1))).fst.b.a5)
 (etDecode (List.take (List.length x_1) (List.drop (0 : Nat) x_1))).fst.ty
 (etDecode
 (List.take (List.length x_1) (List.drop (0 : Nat) x_1))).fst.body)).fst.kind =
 (2 : Int)))
 (K
 (AVal.bool
 (decide
 ((nbRead
 (Fm.mk
 (Mc.mk
 (etDecode
 (List.take (List.length x_1)
 (List.drop (0 : Nat)
 (List.set x_1 ((0 : Nat) + Int.toNat ((54 : Int) + x) * (1 : Nat))
 (List.getD x_1 ((0 : Nat) + Int.toNat ((54 : Int) + x) * (1 : Nat))
 (0 : UInt8) ^^^
 b8 y))))).fst.a.a0
 (etDecode
 (List.take (List.length x_1)
 (List.drop (0 : Nat)
 (List.set x_1 ((0 : Nat) + Int.toNat ((54 : Int) + x) * (1 : Nat))
 (List.getD x_1 ((0 : Nat) + Int.toNat ((54 : Int) + x) * (1 : Nat))
 (0 : UInt8) ^^^
 b8 y))))).fst.a.a1
 (etDecode
 (List.take (List.length x_1)
 (List.drop (0 : Nat)
 (List.set x_1 ((0 : Nat) + Int.toNat ((54 : Int) + x) * (1 : Nat))
 (List.getD x_1 ((0 : Nat) + Int.toNat ((54 : Int) + x) * (1 : Nat))
 (0 : UInt8) ^^^
 b8 y))))).fst.a.a2
 (etDecode
 (List.take (List.length x_1)
 (List.drop (0 : Nat)
 (List.set x_1 ((0 : Nat) + Int.toNat ((54 : Int) + x) * (1 : Nat))
 (List.getD x_1 ((0 : Nat) + Int.toNat ((54 : Int) + x) * (1 : Nat))
 (0 : UInt8) ^^^
 b8 y))))).fst.a.a3
 (etDecode
 (List.take (List.length x_1)
 (List.drop (0 : Nat)
 (List.set x_1 ((0 : Nat) + Int.toNat ((54 : Int) + x) * (1 : Nat))
 (List.getD x_1 ((0 : Nat) + Int.toNat ((54 : Int) + x) * (1 : Nat))
 (0 : UInt8) ^^^
 b8 y))))).fst.a.a4
 (etDecode
 (List.take (List.length x_1)
 (List.drop (0 : Nat)
 (List.set x_1 ((0 : Nat) + Int.toNat ((54 : Int) + x) * (1 : Nat))
 (List.getD x_1 ((0 : Nat) + Int.toNat ((54 : Int) + x) * (1 : Nat))
 (0 : UInt8) ^^^
 b8 y))))).fst.a.a5)
 (Mc.mk
 (etDecode
 (List.take (List.length x_1)
 (List.drop (0 : Nat)
 (List.set x_1 ((0 : Nat) + Int.toNat ((54 : Int) + x) * (1 : Nat))
 (List.getD x_1 ((0 : Nat) + Int.toNat ((54 : Int) + x) * (1 : Nat))
 (0 : UInt8) ^^^
 b8 y))))).fst.b.a0
 (etDecode
 (List.take (List.length x_1)
 (List.drop (0 : Nat)
 (List.set x_1 ((0 : Nat) + Int.toNat ((54 : Int) + x) * (1 : Nat))
 (List.getD x_1 ((0 : Nat) + Int.toNat ((54 : Int) + x) * (1 : Nat))
 (0 : UInt8) ^^^
 b8 y))))).fst.b.a1
 (etDecode
 (List.take (List.length x_1)
 (List.drop (0 : Nat)
 (List.set x_1 ((0 : Nat) + Int.toNat ((54 : Int) + x) * (1 : Nat))
 (List.getD x_1 ((0 : Nat) + Int.toNat ((54 : Int) + x) * (1 : Nat))
 (0 : UInt8) ^^^
 b8 y))))).fst.b.a2
 (etDecode
 (List.take (List.length x_1)
 (List.drop (0 : Nat)
 (List.set x_1 ((0 : Nat) + Int.toNat ((54 : Int) + x) * (1 : Nat))
 (List.getD x_1 ((0 : Nat) + Int.toNat ((54 : Int) + x) * (1 : Nat))
 (0 : UInt8) ^^^
 b8 y))))).fst.b.a3
 (etDecode
 (List.take (List.length x_1)
 (List.drop (0 : Nat)
 (List.set x_1 ((0 : Nat) + Int.toNat ((54 : Int) + x) * (1 : Nat))
 (List.getD x_1 ((0 : Nat) + Int.toNat ((54 : Int) + x) * (1 : Nat))
 (0 : UInt8) ^^^
 b8 y))))).fst.b.a4
 (etDecode
 (List.take (List.length x_1)
 (List.drop (0 : Nat)
 (List.set x_1 ((0 : Nat) + Int.toNat ((54 : Int) + x) * (1 : Nat))
 (List.getD x_1 ((0 : Nat) + Int.toNat ((54 : Int) + x) * (1 : Nat))
 (0 : UInt8) ^^^
 b8 y))))).fst.b.a5)
 (etDecode
 (List.take (List.length x_1)
 (List.drop (0 : Nat)
 (List.set x_1 ((0 : Nat) + Int.toNat ((54 : Int) + x) * (1 : Nat))
 (List.getD x_1 ((0 : Nat) + Int.toNat ((54 : Int) + x) * (1 : Nat))
 (0 : UInt8) ^^^
 b8 y))))).fst.ty
 (etDecode
 (List.take (List.length x_1)
 (List.drop (0 : Nat)
 (List.set x_1 ((0 : Nat) + Int.toNat ((54 : Int) + x) * (1 : Nat))
 (List.getD x_1 ((0 : Nat) + Int.toNat ((54 : Int) + x) * (1 : Nat))
 (0 : UInt8) ^^^
 b8 y))))).fst.body)).fst.kind =
 (0 : Int)) &&
 (decide
 ((nbRead
 (Fm.mk
 (Mc.mk
 (etDecode
 (List.take (List.length x_1)
 (List.drop (0 : Nat)
 (List.set x_1 ((0 : Nat) + Int.toNat ((54 : Int) + x) * (1 : Nat))
 (List.getD x_1 ((0 : Nat) + Int.toNat ((54 : Int) + x) * (1 : Nat))
 (0 : UInt8) ^^^
 b8 y))))).fst.a.a0
 (etDecode
 (List.take (List.length x_1)
 (List.drop (0 : Nat)
 (List.set x_1 ((0 : Nat) + Int.toNat ((54 : Int) + x) * (1 : Nat))
 (List.getD x_1 ((0 : Nat) + Int.toNat ((54 : Int) + x) * (1 : Nat))
 (0 : UInt8) ^^^
 b8 y))))).fst.a.a1
 (etDecode
 (List.take (List.length x_1)
 (List.drop (0 : Nat)
 (List.set x_1 ((0 : Nat) + Int.toNat ((54 : Int) + x) * (1 : Nat))
 (List.getD x_1 ((0 : Nat) + Int.toNat ((54 : Int) + x) * (1 : Nat))
 (0 : UInt8) ^^^
 b8 y))))).fst.a.a2
 (etDecode
 (List.take (List.length x_1)
 (List.drop (0 : Nat)
 (List.set x_1 ((0 : Nat) + Int.toNat ((54 : Int) + x) * (1 : Nat))
 (List.getD x_1 ((0 : Nat) + Int.toNat ((54 : Int) + x) * (1 : Nat))
 (0 : UInt8) ^^^
 b8 y))))).fst.a.a3
 (etDecode
 (List.take (List.length x_1)
 (List.drop (0 : Nat)
 (List.set x_1 ((0 : Nat) + Int.toNat ((54 : Int) + x) * (1 : Nat))
 (List.getD x_1 ((0 : Nat) + Int.toNat ((54 : Int) + x) * (1 : Nat))
 (0 : UInt8) ^^^
 b8 y))))).fst.a.a4
 (etDecode
 (List.take (List.length x_1)
 (List.drop (0 : Nat)
 (List.set x_1 ((0 : Nat) + Int.toNat ((54 : Int) + x) * (1 : Nat))
 (List.getD x_1 ((0 : Nat) + Int.toNat ((54 : Int) + x) * (1 : Nat))
 (0 : UInt8) ^^^
 b8 y))))).fst.a.a5)
 (Mc.mk
 (etDecode
 (List.take (List.length x_1)
 (List.drop (0 : Nat)
 (List.set x_1 ((0 : Nat) + Int.toNat ((54 : Int) + x) * (1 : Nat))
 (List.getD x_1 ((0 : Nat) + Int.toNat ((54 : Int) + x) * (1 : Nat))
 (0 : UInt8) ^^^
 b8 y))))).fst.b.a0
 (etDecode
 (List.take (List.length x_1)
 (List.drop (0 : Nat)
 (List.set x_1 ((0 : Nat) + Int.toNat ((54 : Int) + x) * (1 : Nat))
 (List.getD x_1 ((0 : Nat) + Int.toNat ((54 : Int) + x) * (1 : Nat))
 (0 : UInt8) ^^^
 b8 y))))).fst.b.a1
 (etDecode
 (List.take (List.length x_1)
 (List.drop (0 : Nat)
 (List.set x_1 ((0 : Nat) + Int.toNat ((54 : Int) + x) * (1 : Nat))
 (List.getD x_1 ((0 : Nat) + Int.toNat ((54 : Int) + x) * (1 : Nat))
 (0 : UInt8) ^^^
 b8 y))))).fst.b.a2
 (etDecode
 (List.take (List.length x_1)
 (List.drop (0 : Nat)
 (List.set x_1 ((0 : Nat) + Int.toNat ((54 : Int) + x) * (1 : Nat))
 (List.getD x_1 ((0 : Nat) + Int.toNat ((54 : Int) + x) * (1 : Nat))
 (0 : UInt8) ^^^
 b8 y))))).fst.b.a3
 (etDecode
 (List.take (List.length x_1)
 (List.drop (0 : Nat)
 (List.set x_1 ((0 : Nat) + Int.toNat ((54 : Int) + x) * (1 : Nat))
 (List.getD x_1 ((0 : Nat) + Int.toNat ((54 : Int) + x) * (1 : Nat))
 (0 : UInt8) ^^^
 b8 y))))).fst.b.a4
 (etDecode
 (List.take (List.length x_1)
 (List.drop (0 : Nat)
 (List.set x_1 ((0 : Nat) + Int.toNat ((54 : Int) + x) * (1 : Nat))
 (List.getD x_1 ((0 : Nat) + Int.toNat ((54 : Int) + x) * (1 : Nat))
 (0 : UInt8) ^^^
 b8 y))))).fst.b.a5)
 (etDecode
 (List.take (List.length x_1)
 (List.drop (0 : Nat)
 (List.set x_1 ((0 : Nat) + Int.toNat ((54 : Int) + x) * (1 : Nat))
 (List.getD x_1 ((0 : Nat) + Int.toNat ((54 : Int) + x) * (1 : Nat))
 (0 : UInt8) ^^^
 b8 y))))).fst.ty
 (etDecode
 (List.take (List.length x_1)
 (List.drop (0 : Nat)
 (List.set x_1 ((0 : Nat) + Int.toNat ((54 : Int) + x) * (1 : Nat))
 (List.getD x_1 ((0 : Nat) + Int.toNat ((54 : Int) + x) * (1 : Nat))
 (0 : UInt8) ^^^
 b8 y))))).fst.body)).fst.mac.a0 =
 (0 : UInt8)) &&
 (decide
 ((nbRead
 (Fm.mk
 (Mc.mk
 (etDecode
 (List.take (List.length x_1)
 (List.drop (0 : Nat)
 (List.set x_1 ((0 : Nat) + Int.toNat ((54 : Int) + x) * (1 : Nat))
 (List.getD x_1 ((0 : Nat) + Int.toNat ((54 : Int) + x) * (1 : Nat))
 (0 : UInt8) ^^^
 b8 y))))).fst.a.a0
 (etDecode
 (List.take (List.length x_1)
 (List.drop (0 : Nat)
 (List.set x_1 ((0 : Nat) + Int.toNat ((54 : Int) + x) * (1 : Nat))
 (List.getD x_1 ((0 : Nat) + Int.toNat ((54 : Int) + x) * (1 : Nat))
 (0 : UInt8) ^^^
 b8 y))))).fst.a.a1
 (etDecode
 (List.take (List.length x_1)
 (List.drop (0 : Nat)
 (List.set x_1 ((0 : Nat) + Int.toNat ((54 : Int) + x) * (1 : Nat))
 (List.getD x_1 ((0 : Nat) + Int.toNat ((54 : Int) + x) * (1 : Nat))
 (0 : UInt8) ^^^
 b8 y))))).fst.a.a2
 (etDecode
 (List.take (List.length x_1)
 (List.drop (0 : Nat)
 (List.set x_1 ((0 : Nat) + Int.toNat ((54 : Int) + x) * (1 : Nat))
 (List.getD x_1 ((0 : Nat) + Int.toNat ((54 : Int) + x) * (1 : Nat))
 (0 : UInt8) ^^^
 b8 y))))).fst.a.a3
 (etDecode
 (List.take (List.length x_1)
 (List.drop (0 : Nat)
 (List.set x_1 ((0 : Nat) + Int.toNat ((54 : Int) + x) * (1 : Nat))
 (List.getD x_1 ((0 : Nat) + Int.toNat ((54 : Int) + x) * (1 : Nat))
 (0 : UInt8) ^^^
 b8 y))))).fst.a.a4
 (etDecode
 (List.take (List.length x_1)
 (List.drop (0 : Nat)
 (List.set x_1 ((0 : Nat) + Int.toNat ((54 : Int) + x) * (1 : Nat))
 (List.getD x_1 ((0 : Nat) + Int.toNat ((54 : Int) + x) * (1 : Nat))
 (0 : UInt8) ^^^
 b8 y))))).fst.a.a5)
 (Mc.mk
 (etDecode
 (List.take (List.length x_1)
 (List.drop (0 : Nat)
 (List.set x_1 ((0 : Nat) + Int.toNat ((54 : Int) + x) * (1 : Nat))
 (List.getD x_1 ((0 : Nat) + Int.toNat ((54 : Int) + x) * (1 : Nat))
 (0 : UInt8) ^^^
 b8 y))))).fst.b.a0
 (etDecode
 (List.take (List.length x_1)
 (List.drop (0 : Nat)
 (List.set x_1 ((0 : Nat) + Int.toNat ((54 : Int) + x) * (1 : Nat))
 (List.getD x_1 ((0 : Nat) + Int.toNat ((54 : Int) + x) * (1 : Nat))
 (0 : UInt8) ^^^
 b8 y))))).fst.b.a1
 (etDecode
 (List.take (List.length x_1)
 (List.drop (0 : Nat)
 (List.set x_1 ((0 : Nat) + Int.toNat ((54 : Int) + x) * (1 : Nat))
 (List.getD x_1 ((0 : Nat) + Int.toNat ((54 : Int) + x) * (1 : Nat))
 (0 : UInt8) ^^^
 b8 y))))).fst.b.a2
 (etDecode
 (List.take (List.length x_1)
 (List.drop (0 : Nat)
 (List.set x_1 ((0 : Nat) + Int.toNat ((54 : Int) + x) * (1 : Nat))
 (List.getD x_1 ((0 : Nat) + Int.toNat ((54 : Int) + x) * (1 : Nat))
 (0 : UInt8) ^^^
 b8 y))))).fst.b.a3
 (etDecode
 (List.take (List.length x_1)
 (List.drop (0 : Nat)
 (List.set x_1 ((0 : Nat) + Int.toNat ((54 : Int) + x) * (1 : Nat))
 (List.getD x_1 ((0 : Nat) + Int.toNat ((54 : Int) + x) * (1 : Nat))
 (0 : UInt8) ^^^
 b8 y))))).fst.b.a4
 (etDecode
 (List.take (List.length x_1)
 (List.drop (0 : Nat)
 (List.set x_1 ((0 : Nat) + Int.toNat ((54 : Int) + x) * (1 : Nat))
 (List.getD x_1 ((0 : Nat) + Int.toNat ((54 : Int) + x) * (1 : Nat))
 (0 : UInt8) ^^^
 b8 y))))).fst.b.a5)
 (etDecode
 (List.take (List.length x_1)
 (List.drop (0 : Nat)
 (List.set x_1 ((0 : Nat) + Int.toNat ((54 : Int) + x) * (1 : Nat))
 (List.getD x_1 ((0 : Nat) + Int.toNat ((54 : Int) + x) * (1 : Nat))
 (0 : UInt8) ^^^
 b8 y))))).fst.ty
 (etDecode
 (List.take (List.length x_1)
 (List.drop (0 : Nat)
 (List.set x_1 ((0 : Nat) + Int.toNat ((54 : Int) + x) * (1 : Nat))
 (List.getD x_1 ((0 : Nat) + Int.toNat ((54 : Int) + x) * (1 : Nat))
 (0 : UInt8) ^^^
 b8 y))))).fst.body)).fst.mac.a1 =
 (0 : UInt8)) &&
 (decide
 ((nbRead
 (Fm.mk
 (Mc.mk
 (etDecode
 (List.take (List.length x_1)
 (List.drop (0 : Nat)
 (List.set x_1 ((0 : Nat) + Int.toNat ((54 : Int) + x) * (1 : Nat))
 (List.getD x_1 ((0 : Nat) + Int.toNat ((54 : Int) + x) * (1 : Nat))
 (0 : UInt8) ^^^
 b8 y))))).fst.a.a0
 (etDecode
 (List.take (List.length x_1)
 (List.drop (0 : Nat)
 (List.set x_1 ((0 : Nat) + Int.toNat ((54 : Int) + x) * (1 : Nat))
 (List.getD x_1 ((0 : Nat) + Int.toNat ((54 : Int) + x) * (1 : Nat))
 (0 : UInt8) ^^^
 b8 y))))).fst.a.a1
 (etDecode
 (List.take (List.length x_1)
 (List.drop (0 : Nat)
 (List.set x_1 ((0 : Nat) + Int.toNat ((54 : Int) + x) * (1 : Nat))
 (List.getD x_1 ((0 : Nat) + Int.toNat ((54 : Int) + x) * (1 : Nat))
 (0 : UInt8) ^^^
 b8 y))))).fst.a.a2
 (etDecode
 (List.take (List.length x_1)
 (List.drop (0 : Nat)
 (List.set x_1 ((0 : Nat) + Int.toNat ((54 : Int) + x) * (1 : Nat))
 (List.getD x_1 ((0 : Nat) + Int.toNat ((54 : Int) + x) * (1 : Nat))
 (0 : UInt8) ^^^
 b8 y))))).fst.a.a3
 (etDecode
 (List.take (List.length x_1)
 (List.drop (0 : Nat)
 (List.set x_1 ((0 : Nat) + Int.toNat ((54 : Int) + x) * (1 : Nat))
 (List.getD x_1 ((0 : Nat) + Int.toNat ((54 : Int) + x) * (1 : Nat))
 (0 : UInt8) ^^^
 b8 y))))).fst.a.a4
 (etDecode
 (List.take (List.length x_1)
 (List.drop (0 : Nat)
 (List.set x_1 ((0 : Nat) + Int.toNat ((54 : Int) + x) * (1 : Nat))
 (List.getD x_1 ((0 : Nat) + Int.toNat ((54 : Int) + x) * (1 : Nat))
 (0 : UInt8) ^^^
 b8 y))))).fst.a.a5)
 (Mc.mk
 (etDecode
 (List.take (List.length x_1)
 (List.drop (0 : Nat)
 (List.set x_1 ((0 : Nat) + Int.toNat ((54 : Int) + x) * (1 : Nat))
 (List.getD x_1 ((0 : Nat) + Int.toNat ((54 : Int) + x) * (1 : Nat))
 (0 : UInt8) ^^^
 b8 y))))).fst.b.a0
 (etDecode
 (List.take (List.length x_1)
 (List.drop (0 : Nat)
 (List.set x_1 ((0 : Nat) + Int.toNat ((54 : Int) + x) * (1 : Nat))
 (List.getD x_1 ((0 : Nat) + Int.toNat ((54 : Int) + x) * (1 : Nat))
 (0 : UInt8) ^^^
 b8 y))))).fst.b.a1
 (etDecode
 (List.take (List.length x_1)
 (List.drop (0 : Nat)
 (List.set x_1 ((0 : Nat) + Int.toNat ((54 : Int) + x) * (1 : Nat))
 (List.getD x_1 ((0 : Nat) + Int.toNat ((54 : Int) + x) * (1 : Nat))
 (0 : UInt8) ^^^
 b8 y))))).fst.b.a2
 (etDecode
 (List.take (List.length x_1)
 (List.drop (0 : Nat)
 (List.set x_1 ((0 : Nat) + Int.toNat ((54 : Int) + x) * (1 : Nat))
 (List.getD x_1 ((0 : Nat) + Int.toNat ((54 : Int) + x) * (1 : Nat))
 (0 : UInt8) ^^^
 b8 y))))).fst.b.a3
 (etDecode
 (List.take (List.length x_1)
 (List.drop (0 : Nat)
 (List.set x_1 ((0 : Nat) + Int.toNat ((54 : Int) + x) * (1 : Nat))
 (List.getD x_1 ((0 : Nat) + Int.toNat ((54 : Int) + x) * (1 : Nat))
 (0 : UInt8) ^^^
 b8 y))))).fst.b.a4
 (etDecode
 (List.take (List.length x_1)
 (List.drop (0 : Nat)
 (List.set x_1 ((0 : Nat) + Int.toNat ((54 : Int) + x) * (1 : Nat))
 (List.getD x_1 ((0 : Nat) + Int.toNat ((54 : Int) + x) * (1 : Nat))
 (0 : UInt8) ^^^
 b8 y))))).fst.b.a5)
 (etDecode
 (List.take (List.length x_1)
 (List.drop (0 : Nat)
 (List.set x_1 ((0 : Nat) + Int.toNat ((54 : Int) + x) * (1 : Nat))
 (List.getD x_1 ((0 : Nat) + Int.toNat ((54 : Int) + x) * (1 : Nat))
 (0 : UInt8) ^^^
 b8 y))))).fst.ty
 (etDecode
 (List.take (List.length x_1)
 (List.drop (0 : Nat)
 (List.set x_1 ((0 : Nat) + Int.toNat ((54 : Int) + x) * (1 : Nat))
 (List.getD x_1 ((0 : Nat) + Int.toNat ((54 : Int) + x) * (1 : Nat))
 (0 : UInt8) ^^^
 b8 y))))).fst.body)).fst.mac.a2 =
 (0 : UInt8)) &&
 (decide
 ((nbRead
 (Fm.mk
 (Mc.mk
 (etDecode
 (List.take (List.length x_1)
 (List.drop (0 : Nat)
 (List.set x_1 ((0 : Nat) + Int.toNat ((54 : Int) + x) * (1 : Nat))
 (List.getD x_1 ((0 : Nat) + Int.toNat ((54 : Int) + x) * (1 : Nat))
 (0 : UInt8) ^^^
 b8 y))))).fst.a.a0
 (etDecode
 (List.take (List.length x_1)
 (List.drop (0 : Nat)
 (List.set x_1 ((0 : Nat) + Int.toNat ((54 : Int) + x) * (1 : Nat))
 (List.getD x_1 ((0 : Nat) + Int.toNat ((54 : Int) + x) * (1 : Nat))
 (0 : UInt8) ^^^
 b8 y))))).fst.a.a1
 (etDecode
 (List.take (List.length x_1)
 (List.drop (0 : Nat)
 (List.set x_1 ((0 : Nat) + Int.toNat ((54 : Int) + x) * (1 : Nat))
 (List.getD x_1 ((0 : Nat) + Int.toNat ((54 : Int) + x) * (1 : Nat))
 (0 : UInt8) ^^^
 b8 y))))).fst.a.a2
 (etDecode
 (List.take (List.length x_1)
 (List.drop (0 : Nat)
 (List.set x_1 ((0 : Nat) + Int.toNat ((54 : Int) + x) * (1 : Nat))
 (List.getD x_1 ((0 : Nat) + Int.toNat ((54 : Int) + x) * (1 : Nat))
 (0 : UInt8) ^^^
 b8 y))))).fst.a.a3
 (etDecode
 (List.take (List.length x_1)
 (List.drop (0 : Nat)
 (List.set x_1 ((0 : Nat) + Int.toNat ((54 : Int) + x) * (1 : Nat))
 (List.getD x_1 ((0 : Nat) + Int.toNat ((54 : Int) + x) * (1 : Nat))
 (0 : UInt8) ^^^
 b8 y))))).fst.a.a4
 (etDecode
 (List.take (List.length x_1)
 (List.drop (0 : Nat)
 (List.set x_1 ((0 : Nat) + Int.toNat ((54 : Int) + x) * (1 : Nat))
 (List.getD x_1 ((0 : Nat) + Int.toNat ((54 : Int) + x) * (1 : Nat))
 (0 : UInt8) ^^^
 b8 y))))).fst.a.a5)
 (Mc.mk
 (etDecode
 (List.take (List.length x_1)
 (List.drop (0 : Nat)
 (List.set x_1 ((0 : Nat) + Int.toNat ((54 : Int) + x) * (1 : Nat))
 (List.getD x_1 ((0 : Nat) + Int.toNat ((54 : Int) + x) * (1 : Nat))
 (0 : UInt8) ^^^
 b8 y))))).fst.b.a0
 (etDecode
 (List.take (List.length x_1)
 (List.drop (0 : Nat)
 (List.set x_1 ((0 : Nat) + Int.toNat ((54 : Int) + x) * (1 : Nat))
 (List.getD x_1 ((0 : Nat) + Int.toNat ((54 : Int) + x) * (1 : Nat))
 (0 : UInt8) ^^^
 b8 y))))).fst.b.a1
 (etDecode
 (List.take (List.length x_1)
 (List.drop (0 : Nat)
 (List.set x_1 ((0 : Nat) + Int.toNat ((54 : Int) + x) * (1 : Nat))
 (List.getD x_1 ((0 : Nat) + Int.toNat ((54 : Int) + x) * (1 : Nat))
 (0 : UInt8) ^^^
 b8 y))))).fst.b.a2
 (etDecode
 (List.take (List.length x_1)
 (List.drop (0 : Nat)
 (List.set x_1 ((0 : Nat) + Int.toNat ((54 : Int) + x) * (1 : Nat))
 (List.getD x_1 ((0 : Nat) + Int.toNat ((54 : Int) + x) * (1 : Nat))
 (0 : UInt8) ^^^
 b8 y))))).fst.b.a3
 (etDecode
 (List.take (List.length x_1)
 (List.drop (0 : Nat)
 (List.set x_1 ((0 : Nat) + Int.toNat ((54 : Int) + x) * (1 : Nat))
 (List.getD x_1 ((0 : Nat) + Int.toNat ((54 : Int) + x) * (1 : Nat))
 (0 : UInt8) ^^^
 b8 y))))).fst.b.a4
 (etDecode
 (List.take (List.length x_1)
 (List.drop (0 : Nat)
 (List.set x_1 ((0 : Nat) + Int.toNat ((54 : Int) + x) * (1 : Nat))
 (List.getD x_1 ((0 : Nat) + Int.toNat ((54 : Int) + x) * (1 : Nat))
 (0 : UInt8) ^^^
 b8 y))))).fst.b.a5)
 (etDecode
 (List.take (List.length x_1)
 (List.drop (0 : Nat)
 (List.set x_1 ((0 : Nat) + Int.toNat ((54 : Int) + x) * (1 : Nat))
 (List.getD x_1 ((0 : Nat) + Int.toNat ((54 : Int) + x) * (1 : Nat))
 (0 : UInt8) ^^^
 b8 y))))).fst.ty
 (etDecode
 (List.take (List.length x_1)
 (List.drop (0 : Nat)
 (List.set x_1 ((0 : Nat) + Int.toNat ((54 : Int) + x) * (1 : Nat))
 (List.getD x_1 ((0 : Nat) + Int.toNat ((54 : Int) + x) * (1 : Nat))
 (0 : UInt8) ^^^
 b8 y))))).fst.body)).fst.mac.a3 =
 (0 : UInt8)) &&
 (decide
 ((nbRead
 (Fm.mk
 (Mc.mk
 (etDecode
 (List.take (List.length x_1)
 (List.drop (0 : Nat)
 (List.set x_1 ((0 : Nat) + Int.toNat ((54 : Int) + x) * (1 : Nat))
 (List.getD x_1 ((0 : Nat) + Int.toNat ((54 : Int) + x) * (1 : Nat))
 (0 : UInt8) ^^^
 b8 y))))).fst.a.a0
 (etDecode
 (List.take (List.length x_1)
 (List.drop (0 : Nat)
 (List.set x_1 ((0 : Nat) + Int.toNat ((54 : Int) + x) * (1 : Nat))
 (List.getD x_1 ((0 : Nat) + Int.toNat ((54 : Int) + x) * (1 : Nat))
 (0 : UInt8) ^^^
 b8 y))))).fst.a.a1
 (etDecode
 (List.take (List.length x_1)
 (List.drop (0 : Nat)
 (List.set x_1 ((0 : Nat) + Int.toNat ((54 : Int) + x) * (1 : Nat))
 (List.getD x_1 ((0 : Nat) + Int.toNat ((54 : Int) + x) * (1 : Nat))
 (0 : UInt8) ^^^
 b8 y))))).fst.a.a2
 (etDecode
 (List.take (List.length x_1)
 (List.drop (0 : Nat)
 (List.set x_1 ((0 : Nat) + Int.toNat ((54 : Int) + x) * (1 : Nat))
 (List.getD x_1 ((0 : Nat) + Int.toNat ((54 : Int) + x) * (1 : Nat))
 (0 : UInt8) ^^^
 b8 y))))).fst.a.a3
 (etDecode
 (List.take (List.length x_1)
 (List.drop (0 : Nat)
 (List.set x_1 ((0 : Nat) + Int.toNat ((54 : Int) + x) * (1 : Nat))
 (List.getD x_1 ((0 : Nat) + Int.toNat ((54 : Int) + x) * (1 : Nat))
 (0 : UInt8) ^^^
 b8 y))))).fst.a.a4
 (etDecode
 (List.take (List.length x_1)
 (List.drop (0 : Nat)
 (List.set x_1 ((0 : Nat) + Int.toNat ((54 : Int) + x) * (1 : Nat))
 (List.getD x_1 ((0 : Nat) + Int.toNat ((54 : Int) + x) * (1 : Nat))
 (0 : UInt8) ^^^
 b8 y))))).fst.a.a5)
 (Mc.mk
 (etDecode
 (List.take (List.length x_1)
 (List.drop (0 : Nat)
 (List.set x_1 ((0 : Nat) + Int.toNat ((54 : Int) + x) * (1 : Nat))
 (List.getD x_1 ((0 : Nat) + Int.toNat ((54 : Int) + x) * (1 : Nat))
 (0 : UInt8) ^^^
 b8 y))))).fst.b.a0
 (etDecode
 (List.take (List.length x_1)
 (List.drop (0 : Nat)
 (List.set x_1 ((0 : Nat) + Int.toNat ((54 : Int) + x) * (1 : Nat))
 (List.getD x_1 ((0 : Nat) + Int.toNat ((54 : Int) + x) * (1 : Nat))
 (0 : UInt8) ^^^
 b8 y))))).fst.b.a1
 (etDecode
 (List.take (List.length x_1)
 (List.drop (0 : Nat)
 (List.set x_1 ((0 : Nat) + Int.toNat ((54 : Int) + x) * (1 : Nat))
 (List.getD x_1 ((0 : Nat) + Int.toNat ((54 : Int) + x) * (1 : Nat))
 (0 : UInt8) ^^^
 b8 y))))).fst.b.a2
 (etDecode
 (List.take (List.length x_1)
 (List.drop (0 : Nat)
 (List.set x_1 ((0 : Nat) + Int.toNat ((54 : Int) + x) * (1 : Nat))
 (List.getD x_1 ((0 : Nat) + Int.toNat ((54 : Int) + x) * (1 : Nat))
 (0 : UInt8) ^^^
 b8 y))))).fst.b.a3
 (etDecode
 (List.take (List.length x_1)
 (List.drop (0 : Nat)
 (List.set x_1 ((0 : Nat) + Int.toNat ((54 : Int) + x) * (1 : Nat))
 (List.getD x_1 ((0 : Nat) + Int.toNat ((54 : Int) + x) * (1 : Nat))
 (0 : UInt8) ^^^
 b8 y))))).fst.b.a4
 (etDecode
 (List.take (List.length x_1)
 (List.drop (0 : Nat)
 (List.set x_1 ((0 : Nat) + Int.toNat ((54 : Int) + x) * (1 : Nat))
 (List.getD x_1 ((0 : Nat) + Int.toNat ((54 : Int) + x) * (1 : Nat))
 (0 : UInt8) ^^^
 b8 y))))).fst.b.a5)
 (etDecode
 (List.take (List.length x_1)
 (List.drop (0 : Nat)
 (List.set x_1 ((0 : Nat) + Int.toNat ((54 : Int) + x) * (1 : Nat))
 (List.getD x_1 ((0 : Nat) + Int.toNat ((54 : Int) + x) * (1 : Nat))
 (0 : UInt8) ^^^
 b8 y))))).fst.ty
 (etDecode
 (List.take (List.length x_1)
 (List.drop (0 : Nat)
 (List.set x_1 ((0 : Nat) + Int.toNat ((54 : Int) + x) * (1 : Nat))
 (List.getD x_1 ((0 : Nat) + Int.toNat ((54 : Int) + x) * (1 : Nat))
 (0 : UInt8) ^^^
 b8 y))))).fst.body)).fst.mac.a4 =
 (0 : UInt8)) &&
 (decide
 ((nbRead
 (Fm.mk
 (Mc.mk
 (etDecode
 (List.take (List.length x_1)
 (List.drop (0 : Nat)
 (List.set x_1 ((0 : Nat) + Int.toNat ((54 : Int) + x) * (1 : Nat))
 (List.getD x_1 ((0 : Nat) + Int.toNat ((54 : Int) + x) * (1 : Nat))
 (0 : UInt8) ^^^
 b8 y))))).fst.a.a0
 (etDecode
 (List.take (List.length x_1)
 (List.drop (0 : Nat)
 (List.set x_1 ((0 : Nat) + Int.toNat ((54 : Int) + x) * (1 : Nat))
 (List.getD x_1 ((0 : Nat) + Int.toNat ((54 : Int) + x) * (1 : Nat))
 (0 : UInt8) ^^^
 b8 y))))).fst.a.a1
 (etDecode
 (List.take (List.length x_1)
 (List.drop (0 : Nat)
 (List.set x_1 ((0 : Nat) + Int.toNat ((54 : Int) + x) * (1 : Nat))
 (List.getD x_1 ((0 : Nat) + Int.toNat ((54 : Int) + x) * (1 : Nat))
 (0 : UInt8) ^^^
 b8 y))))).fst.a.a2
 (etDecode
 (List.take (List.length x_1)
 (List.drop (0 : Nat)
 (List.set x_1 ((0 : Nat) + Int.toNat ((54 : Int) + x) * (1 : Nat))
 (List.getD x_1 ((0 : Nat) + Int.toNat ((54 : Int) + x) * (1 : Nat))
 (0 : UInt8) ^^^
 b8 y))))).fst.a.a3
 (etDecode
 (List.take (List.length x_1)
 (List.drop (0 : Nat)
 (List.set x_1 ((0 : Nat) + Int.toNat ((54 : Int) + x) * (1 : Nat))
 (List.getD x_1 ((0 : Nat) + Int.toNat ((54 : Int) + x) * (1 : Nat))
 (0 : UInt8) ^^^
 b8 y))))).fst.a.a4
 (etDecode
 (List.take (List.length x_1)
 (List.drop (0 : Nat)
 (List.set x_1 ((0 : Nat) + Int.toNat ((54 : Int) + x) * (1 : Nat))
 (List.getD x_1 ((0 : Nat) + Int.toNat ((54 : Int) + x) * (1 : Nat))
 (0 : UInt8) ^^^
 b8 y))))).fst.a.a5)
 (Mc.mk
 (etDecode
 (List.take (List.length x_1)
 (List.drop (0 : Nat)
 (List.set x_1 ((0 : Nat) + Int.toNat ((54 : Int) + x) * (1 : Nat))
 (List.getD x_1 ((0 : Nat) + Int.toNat ((54 : Int) + x) * (1 : Nat))
 (0 : UInt8) ^^^
 b8 y))))).fst.b.a0
 (etDecode
 (List.take (List.length x_1)
 (List.drop (0 : Nat)
 (List.set x_1 ((0 : Nat) + Int.toNat ((54 : Int) + x) * (1 : Nat))
 (List.getD x_1 ((0 : Nat) + Int.toNat ((54 : Int) + x) * (1 : Nat))
 (0 : UInt8) ^^^
 b8 y))))).fst.b.a1
 (etDecode
 (List.take (List.length x_1)
 (List.drop (0 : Nat)
 (List.set x_1 ((0 : Nat) + Int.toNat ((54 : Int) + x) * (1 : Nat))
 (List.getD x_1 ((0 : Nat) + Int.toNat ((54 : Int) + x) * (1 : Nat))
 (0 : UInt8) ^^^
 b8 y))))).fst.b.a2
 (etDecode
 (List.take (List.length x_1)
 (List.drop (0 : Nat)
 (List.set x_1 ((0 : Nat) + Int.toNat ((54 : Int) + x) * (1 : Nat))
 (List.getD x_1 ((0 : Nat) + Int.toNat ((54 : Int) + x) * (1 : Nat))
 (0 : UInt8) ^^^
 b8 y))))).fst.b.a3
 (etDecode
 (List.take (List.length x_1)
 (List.drop (0 : Nat)
 (List.set x_1 ((0 : Nat) + Int.toNat ((54 : Int) + x) * (1 : Nat))
 (List.getD x_1 ((0 : Nat) + Int.toNat ((54 : Int) + x) * (1 : Nat))
 (0 : UInt8) ^^^
 b8 y))))).fst.b.a4
 (etDecode
 (List.take (List.length x_1)
 (List.drop (0 : Nat)
 (List.set x_1 ((0 : Nat) + Int.toNat ((54 : Int) + x) * (1 : Nat))
 (List.getD x_1 ((0 : Nat) + Int.toNat ((54 : Int) + x) * (1 : Nat))
 (0 : UInt8) ^^^
 b8 y))))).fst.b.a5)
 (etDecode
 (List.take (List.length x_1)
 (List.drop (0 : Nat)
 (List.set x_1 ((0 : Nat) + Int.toNat ((54 : Int) + x) * (1 : Nat))
 (List.getD x_1 ((0 : Nat) + Int.toNat ((54 : Int) + x) * (1 : Nat))
 (0 : UInt8) ^^^
 b8 y))))).fst.ty
 (etDecode
 (List.take (List.length x_1)
 (List.drop (0 : Nat)
 (List.set x_1 ((0 : Nat) + Int.toNat ((54 : Int) + x) * (1 : Nat))
 (List.getD x_1 ((0 : Nat) + Int.toNat ((54 : Int) + x) * (1 : Nat))
 (0 : UInt8) ^^^
 b8 y))))).fst.body)).fst.mac.a5 =
 (0 : UInt8)) &&
 (decide
 ((nbRead
 (Fm.mk
 (Mc.mk
 (etDecode
 (List.take (List.length x_1)
 (List.drop (0 : Nat)
 (List.set x_1 ((0 : Nat) + Int.toNat ((54 : Int) + x) * (1 : Nat))
 (List.getD x_1 ((0 : Nat) + Int.toNat ((54 : Int) + x) * (1 : Nat))
 (0 : UInt8) ^^^
 b8 y))))).fst.a.a0
 (etDecode
 (List.take (List.length x_1)
 (List.drop (0 : Nat)
 (List.set x_1 ((0 : Nat) + Int.toNat ((54 : Int) + x) * (1 : Nat))
 (List.getD x_1 ((0 : Nat) + Int.toNat ((54 : Int) + x) * (1 : Nat))
 (0 : UInt8) ^^^
 b8 y))))).fst.a.a1
 (etDecode
 (List.take (List.length x_1)
 (List.drop (0 : Nat)
 (List.set x_1 ((0 : Nat) + Int.toNat ((54 : Int) + x) * (1 : Nat))
 (List.getD x_1 ((0 : Nat) + Int.toNat ((54 : Int) + x) * (1 : Nat))
 (0 : UInt8) ^^^
 b8 y))))).fst.a.a2
 (etDecode
 (List.take (List.length x_1)
 (List.drop (0 : Nat)
 (List.set x_1 ((0 : Nat) + Int.toNat ((54 : Int) + x) * (1 : Nat))
 (List.getD x_1 ((0 : Nat) + Int.toNat ((54 : Int) + x) * (1 : Nat))
 (0 : UInt8) ^^^
 b8 y))))).fst.a.a3
 (etDecode
 (List.take (List.length x_1)
 (List.drop (0 : Nat)
 (List.set x_1 ((0 : Nat) + Int.toNat ((54 : Int) + x) * (1 : Nat))
 (List.getD x_1 ((0 : Nat) + Int.toNat ((54 : Int) + x) * (1 : Nat))
 (0 : UInt8) ^^^
 b8 y))))).fst.a.a4
 (etDecode
 (List.take (List.length x_1)
 (List.drop (0 : Nat)
 (List.set x_1 ((0 : Nat) + Int.toNat ((54 : Int) + x) * (1 : Nat))
 (List.getD x_1 ((0 : Nat) + Int.toNat ((54 : Int) + x) * (1 : Nat))
 (0 : UInt8) ^^^
 b8 y))))).fst.a.a5)
 (Mc.mk
 (etDecode
 (List.take (List.length x_1)
 (List.drop (0 : Nat)
 (List.set x_1 ((0 : Nat) + Int.toNat ((54 : Int) + x) * (1 : Nat))
 (List.getD x_1 ((0 : Nat) + Int.toNat ((54 : Int) + x) * (1 : Nat))
 (0 : UInt8) ^^^
 b8 y))))).fst.b.a0
 (etDecode
 (List.take (List.length x_1)
 (List.drop (0 : Nat)
 (List.set x_1 ((0 : Nat) + Int.toNat ((54 : Int) + x) * (1 : Nat))
 (List.getD x_1 ((0 : Nat) + Int.toNat ((54 : Int) + x) * (1 : Nat))
 (0 : UInt8) ^^^
 b8 y))))).fst.b.a1
 (etDecode
 (List.take (List.length x_1)
 (List.drop (0 : Nat)
 (List.set x_1 ((0 : Nat) + Int.toNat ((54 : Int) + x) * (1 : Nat))
 (List.getD x_1 ((0 : Nat) + Int.toNat ((54 : Int) + x) * (1 : Nat))
 (0 : UInt8) ^^^
 b8 y))))).fst.b.a2
 (etDecode
 (List.take (List.length x_1)
 (List.drop (0 : Nat)
 (List.set x_1 ((0 : Nat) + Int.toNat ((54 : Int) + x) * (1 : Nat))
 (List.getD x_1 ((0 : Nat) + Int.toNat ((54 : Int) + x) * (1 : Nat))
 (0 : UInt8) ^^^
 b8 y))))).fst.b.a3
 (etDecode
 (List.take (List.length x_1)
 (List.drop (0 : Nat)
 (List.set x_1 ((0 : Nat) + Int.toNat ((54 : Int) + x) * (1 : Nat))
 (List.getD x_1 ((0 : Nat) + Int.toNat ((54 : Int) + x) * (1 : Nat))
 (0 : UInt8) ^^^
 b8 y))))).fst.b.a4
 (etDecode
 (List.take (List.length x_1)
 (List.drop (0 : Nat)
 (List.set x_1 ((0 : Nat) + Int.toNat ((54 : Int) + x) * (1 : Nat))
 (List.getD x_1 ((0 : Nat) + Int.toNat ((54 : Int) + x) * (1 : Nat))
 (0 : UInt8) ^^^
 b8 y))))).fst.b.a5)
 (etDecode
 (List.take (List.length x_1)
 (List.drop (0 : Nat)
 (List.set x_1 ((0 : Nat) + Int.toNat ((54 : Int) + x) * (1 : Nat))
 (List.getD x_1 ((0 : Nat) + Int.toNat ((54 : Int) + x) * (1 : Nat))
 (0 : UInt8) ^^^
 b8 y))))).fst.ty
 (etDecode
 (List.take (List.length x_1)
 (List.drop (0 : Nat)
 (List.set x_1 ((0 : Nat) + Int.toNat ((54 : Int) + x) * (1 : Nat))
 (List.getD x_1 ((0 : Nat) + Int.toNat ((54 : Int) + x) * (1 : Nat))
 (0 : UInt8) ^^^
 b8 y))))).fst.body)).fst.addr =
 []) &&
 (decide
 ((nbRead
 (Fm.mk
 (Mc.mk
 (etDecode
 (List.take (List.length x_1)
 (List.drop (0 : Nat)
 (List.set x_1 ((0 : Nat) + Int.toNat ((54 : Int) + x) * (1 : Nat))
 (List.getD x_1 ((0 : Nat) + Int.toNat ((54 : Int) + x) * (1 : Nat))
 (0 : UInt8) ^^^
 b8 y))))).fst.a.a0
 (etDecode
 (List.take (List.length x_1)
 (List.drop (0 : Nat)
 (List.set x_1 ((0 : Nat) + Int.toNat ((54 : Int) + x) * (1 : Nat))
 (List.getD x_1 ((0 : Nat) + Int.toNat ((54 : Int) + x) * (1 : Nat))
 (0 : UInt8) ^^^
 b8 y))))).fst.a.a1
 (etDecode
 (List.take (List.length x_1)
 (List.drop (0 : Nat)
 (List.set x_1 ((0 : Nat) + Int.toNat ((54 : Int) + x) * (1 : Nat))
 (List.getD x_1 ((0 : Nat) + Int.toNat ((54 : Int) + x) * (1 : Nat))
 (0 : UInt8) ^^^
 b8 y))))).fst.a.a2
 (etDecode
 (List.take (List.length x_1)
 (List.drop (0 : Nat)
 (List.set x_1 ((0 : Nat) + Int.toNat ((54 : Int) + x) * (1 : Nat))
 (List.getD x_1 ((0 : Nat) + Int.toNat ((54 : Int) + x) * (1 : Nat))
 (0 : UInt8) ^^^
 b8 y))))).fst.a.a3
 (etDecode
 (List.take (List.length x_1)
 (List.drop (0 : Nat)
 (List.set x_1 ((0 : Nat) + Int.toNat ((54 : Int) + x) * (1 : Nat))
 (List.getD x_1 ((0 : Nat) + Int.toNat ((54 : Int) + x) * (1 : Nat))
 (0 : UInt8) ^^^
 b8 y))))).fst.a.a4
 (etDecode
 (List.take (List.length x_1)
 (List.drop (0 : Nat)
 (List.set x_1 ((0 : Nat) + Int.toNat ((54 : Int) + x) * (1 : Nat))
 (List.getD x_1 ((0 : Nat) + Int.toNat ((54 : Int) + x) * (1 : Nat))
 (0 : UInt8) ^^^
 b8 y))))).fst.a.a5)
 (Mc.mk
 (etDecode
 (List.take (List.length x_1)
 (List.drop (0 : Nat)
 (List.set x_1 ((0 : Nat) + Int.toNat ((54 : Int) + x) * (1 : Nat))
 (List.getD x_1 ((0 : Nat) + Int.toNat ((54 : Int) + x) * (1 : Nat))
 (0 : UInt8) ^^^
 b8 y))))).fst.b.a0
 (etDecode
 (List.take (List.length x_1)
 (List.drop (0 : Nat)
 (List.set x_1 ((0 : Nat) + Int.toNat ((54 : Int) + x) * (1 : Nat))
 (List.getD x_1 ((0 : Nat) + Int.toNat ((54 : Int) + x) * (1 : Nat))
 (0 : UInt8) ^^^
 b8 y))))).fst.b.a1
 (etDecode
 (List.take (List.length x_1)
 (List.drop (0 : Nat)
 (List.set x_1 ((0 : Nat) + Int.toNat ((54 : Int) + x) * (1 : Nat))
 (List.getD x_1 ((0 : Nat) + Int.toNat ((54 : Int) + x) * (1 : Nat))
 (0 : UInt8) ^^^
 b8 y))))).fst.b.a2
 (etDecode
 (List.take (List.length x_1)
 (List.drop (0 : Nat)
 (List.set x_1 ((0 : Nat) + Int.toNat ((54 : Int) + x) * (1 : Nat))
 (List.getD x_1 ((0 : Nat) + Int.toNat ((54 : Int) + x) * (1 : Nat))
 (0 : UInt8) ^^^
 b8 y))))).fst.b.a3
 (etDecode
 (List.take (List.length x_1)
 (List.drop (0 : Nat)
 (List.set x_1 ((0 : Nat) + Int.toNat ((54 : Int) + x) * (1 : Nat))
 (List.getD x_1 ((0 : Nat) + Int.toNat ((54 : Int) + x) * (1 : Nat))
 (0 : UInt8) ^^^
 b8 y))))).fst.b.a4
 (etDecode
 (List.take (List.length x_1)
 (List.drop (0 : Nat)
 (List.set x_1 ((0 : Nat) + Int.toNat ((54 : Int) + x) * (1 : Nat))
 (List.getD x_1 ((0 : Nat) + Int.toNat ((54 : Int) + x) * (1 : Nat))
 (0 : UInt8) ^^^
 b8 y))))).fst.b.a5)
 (etDecode
 (List.take (List.length x_1)
 (List.drop (0 : Nat)
 (List.set x_1 ((0 : Nat) + Int.toNat ((54 : Int) + x) * (1 : Nat))
 (List.getD x_1 ((0 : Nat) + Int.toNat ((54 : Int) + x) * (1 : Nat))
 (0 : UInt8) ^^^
 b8 y))))).fst.ty
 (etDecode
 (List.take (List.length x_1)
 (List.drop (0 : Nat)
 (List.set x_1 ((0 : Nat) + Int.toNat ((54 : Int) + x) * (1 : Nat))
 (List.getD x_1 ((0 : Nat) + Int.toNat ((54 : Int) + x) * (1 : Nat))
 (0 : UInt8) ^^^
 b8 y))))).fst.body)).fst.target =
 []) &&
 decide
 ((nbRead
 (Fm.mk
 (Mc.mk
 (etDecode
 (List.take (List.length x_1)
 (List.drop (0 : Nat)
 (List.set x_1 ((0 : Nat) + Int.toNat ((54 : Int) + x) * (1 : Nat))
 (List.getD x_1 ((0 : Nat) + Int.toNat ((54 : Int) + x) * (1 : Nat))
 (0 : UInt8) ^^^
 b8 y))))).fst.a.a0
 (etDecode
 (List.take (List.length x_1)
 (List.drop (0 : Nat)
 (List.set x_1 ((0 : Nat) + Int.toNat ((54 : Int) + x) * (1 : Nat))
 (List.getD x_1 ((0 : Nat) + Int.toNat ((54 : Int) + x) * (1 : Nat))
 (0 : UInt8) ^^^
 b8 y))))).fst.a.a1
 (etDecode
 (List.take (List.length x_1)
 (List.drop (0 : Nat)
 (List.set x_1 ((0 : Nat) + Int.toNat ((54 : Int) + x) * (1 : Nat))
 (List.getD x_1 ((0 : Nat) + Int.toNat ((54 : Int) + x) * (1 : Nat))
 (0 : UInt8) ^^^
 b8 y))))).fst.a.a2
 (etDecode
 (List.take (List.length x_1)
 (List.drop (0 : Nat)
 (List.set x_1 ((0 : Nat) + Int.toNat ((54 : Int) + x) * (1 : Nat))
 (List.getD x_1 ((0 : Nat) + Int.toNat ((54 : Int) + x) * (1 : Nat))
 (0 : UInt8) ^^^
 b8 y))))).fst.a.a3
 (etDecode
 (List.take (List.length x_1)
 (List.drop (0 : Nat)
 (List.set x_1 ((0 : Nat) + Int.toNat ((54 : Int) + x) * (1 : Nat))
 (List.getD x_1 ((0 : Nat) + Int.toNat ((54 : Int) + x) * (1 : Nat))
 (0 : UInt8) ^^^
 b8 y))))).fst.a.a4
 (etDecode
 (List.take (List.length x_1)
 (List.drop (0 : Nat)
 (List.set x_1 ((0 : Nat) + Int.toNat ((54 : Int) + x) * (1 : Nat))
 (List.getD x_1 ((0 : Nat) + Int.toNat ((54 : Int) + x) * (1 : Nat))
 (0 : UInt8) ^^^
 b8 y))))).fst.a.a5)
 (Mc.mk
 (etDecode
 (List.take (List.length x_1)
 (List.drop (0 : Nat)
 (List.set x_1 ((0 : Nat) + Int.toNat ((54 : Int) + x) * (1 : Nat))
 (List.getD x_1 ((0 : Nat) + Int.toNat ((54 : Int) + x) * (1 : Nat))
 (0 : UInt8) ^^^
 b8 y))))).fst.b.a0
 (etDecode
 (List.take (List.length x_1)
 (List.drop (0 : Nat)
 (List.set x_1 ((0 : Nat) + Int.toNat ((54 : Int) + x) * (1 : Nat))
 (List.getD x_1 ((0 : Nat) + Int.toNat ((54 : Int) + x) * (1 : Nat))
 (0 : UInt8) ^^^
 b8 y))))).fst.b.a1
 (etDecode
 (List.take (List.length x_1)
 (List.drop (0 : Nat)
 (List.set x_1 ((0 : Nat) + Int.toNat ((54 : Int) + x) * (1 : Nat))
 (List.getD x_1 ((0 : Nat) + Int.toNat ((54 : Int) + x) * (1 : Nat))
 (0 : UInt8) ^^^
 b8 y))))).fst.b.a2
 (etDecode
 (List.take (List.length x_1)
 (List.drop (0 : Nat)
 (List.set x_1 ((0 : Nat) + Int.toNat ((54 : Int) + x) * (1 : Nat))
 (List.getD x_1 ((0 : Nat) + Int.toNat ((54 : Int) + x) * (1 : Nat))
 (0 : UInt8) ^^^
 b8 y))))).fst.b.a3
 (etDecode
 (List.take (List.length x_1)
 (List.drop (0 : Nat)
 (List.set x_1 ((0 : Nat) + Int.toNat ((54 : Int) + x) * (1 : Nat))
 (List.getD x_1 ((0 : Nat) + Int.toNat ((54 : Int) + x) * (1 : Nat))
 (0 : UInt8) ^^^
 b8 y))))).fst.b.a4
 (etDecode
 (List.take (List.length x_1)
 (List.drop (0 : Nat)
 (List.set x_1 ((0 : Nat) + Int.toNat ((54 : Int) + x) * (1 : Nat))
 (List.getD x_1 ((0 : Nat) + Int.toNat ((54 : Int) + x) * (1 : Nat))
 (0 : UInt8) ^^^
 b8 y))))).fst.b.a5)
 (etDecode
 (List.take (List.length x_1)
 (List.drop (0 : Nat)
 (List.set x_1 ((0 : Nat) + Int.toNat ((54 : Int) + x) * (1 : Nat))
 (List.getD x_1 ((0 : Nat) + Int.toNat ((54 : Int) + x) * (1 : Nat))
 (0 : UInt8) ^^^
 b8 y))))).fst.ty
 (etDecode
 (List.take (List.length x_1)
 (List.drop (0 : Nat)
 (List.set x_1 ((0 : Nat) + Int.toNat ((54 : Int) + x) * (1 : Nat))
 (List.getD x_1 ((0 : Nat) + Int.toNat ((54 : Int) + x) * (1 : Nat))
 (0 : UInt8) ^^^
 b8 y))))).fst.body)).fst.asked =
 false)))))))))))
 [])
 (K (AVal.bool false) [])))
 (((0 : Int) ≤ (0 : Int) ∧ (0 : Int) < (2 : Int)) ∧
 I64 ((54 : Int) + x) ∧
 ((0 : Int) ≤ (54 : Int) + x ∧ (54 : Int) + x < (↑(List.length x_1) : Int)) ∧
 (0 : Nat) + Int.toNat ((54 : Int) + x) * (1 : Nat) < List.length x_1 ∧
 ((0 : Int) ≤ (1 : Int) ∧ (1 : Int) < (2 : Int)) ∧
 ((0 : Int) ≤ (54 : Int) + x ∧ (54 : Int) + x < (↑(List.length x_1) : Int)) ∧
 (0 : Nat) + Int.toNat ((54 : Int) + x) * (1 : Nat) < List.length x_1 ∧
 List.length
 (List.take (List.length x_1)
 (List.drop (0 : Nat)
 (List.set x_1 ((0 : Nat) + Int.toNat ((54 : Int) + x) * (1 : Nat))
 (List.getD x_1 ((0 : Nat) + Int.toNat ((54 : Int) + x) * (1 : Nat)) (0 : UInt8) ^^^
 b8 y)))) ≤
 (140737488355328 : Nat) ∧
 List.length
 (etDecode
 (List.take (List.length x_1)
 (List.drop (0 : Nat)
 (List.set x_1 ((0 : Nat) + Int.toNat ((54 : Int) + x) * (1 : Nat))
 (List.getD x_1 ((0 : Nat) + Int.toNat ((54 : Int) + x) * (1 : Nat)) (0 : UInt8) ^^^
 b8 y))))).fst.body ≤
 (140737488351232 : Nat) ∧
 brP
 (decide
 ((etDecode
 (List.take (List.length x_1)
 (List.drop (0 : Nat)
 (List.set x_1 ((0 : Nat) + Int.toNat ((54 : Int) + x) * (1 : Nat))
 (List.getD x_1 ((0 : Nat) + Int.toNat ((54 : Int) + x) * (1 : Nat)) (0 : UInt8) ^^^
 b8 y))))).snd =
 (0 : Int)))
 (brP
 (decide
 ((nbRead
 (Fm.mk
 (Mc.mk (etDecode (List.take (List.length x_1) (List.drop (0 : Nat) x_1))).fst.a.a0
 (etDecode (List.take (List.length x_1) (List.drop (0 : Nat) x_1))).fst.a.a1
 (etDecode (List.take (List.length x_1) (List.drop (0 : Nat) x_1))).fst.a.a2
 (etDecode (List.take (List.length x_1) (List.drop (0 : Nat) x_1))).fst.a.a3
 (etDecode (List.take (List.length x_1) (List.drop (0 : Nat) x_1))).fst.a.a4
 (etDecode (List.take (List.length x_1) (List.drop (0 : Nat) x_1))).fst.a.a5)
 (Mc.mk (etDecode (List.take (List.length x_1) (List.drop (0 : Nat) x_1))).fst.b.a0
 (etDecode (List.take (List.length x_1) (List.drop (0 : Nat) x_1))).fst.b.a1
 (etDecode (List.take (List.length x_1) (List.drop (0 : Nat) x_1))).fst.b.a2
 (etDecode (List.take (List.length x_1) (List.drop (0 : Nat) x_1))).fst.b.a3
 (etDecode (List.take (List.length x_1) (List.drop (0 : Nat) x_1))).fst.b.a4
 (etDecode (List.take (List.length x_1) (List.drop (0 : Nat) x_1))).fst.b.a5)
 (etDecode (List.take (List.length x_1) (List.drop (0 : Nat) x_1))).fst.ty
 (etDecode
 (List.take (List.length x_1) (List.drop (0 : Nat) x_1))).fst.body)).fst.kind =
 (2 : Int)))
 (brP
 (!decide
 ((nbRead
 (Fm.mk
 (Mc.mk
 (etDecode
 (List.take (List.length x_1)
 (List.drop (0 : Nat)
 (List.set x_1 ((0 : Nat) + Int.toNat ((54 : Int) + x) * (1 : Nat))
 (List.getD x_1 ((0 : Nat) + Int.toNat ((54 : Int) + x) * (1 : Nat))
 (0 : UInt8) ^^^
 b8 y))))).fst.a.a0
 (etDecode
 (List.take (List.length x_1)
 (List.drop (0 : Nat)
 (List.set x_1 ((0 : Nat) + Int.toNat ((54 : Int) + x) * (1 : Nat))
 (List.getD x_1 ((0 : Nat) + Int.toNat ((54 : Int) + x) * (1 : Nat))
 (0 : UInt8) ^^^
 b8 y))))).fst.a.a1
 (etDecode
 (List.take (List.length x_1)
 (List.drop (0 : Nat)
 (List.set x_1 ((0 : Nat) + Int.toNat ((54 : Int) + x) * (1 : Nat))
 (List.getD x_1 ((0 : Nat) + Int.toNat ((54 : Int) + x) * (1 : Nat))
 (0 : UInt8) ^^^
 b8 y))))).fst.a.a2
 (etDecode
 (List.take (List.length x_1)
 (List.drop (0 : Nat)
 (List.set x_1 ((0 : Nat) + Int.toNat ((54 : Int) + x) * (1 : Nat))
 (List.getD x_1 ((0 : Nat) + Int.toNat ((54 : Int) + x) * (1 : Nat))
 (0 : UInt8) ^^^
 b8 y))))).fst.a.a3
 (etDecode
 (List.take (List.length x_1)
 (List.drop (0 : Nat)
 (List.set x_1 ((0 : Nat) + Int.toNat ((54 : Int) + x) * (1 : Nat))
 (List.getD x_1 ((0 : Nat) + Int.toNat ((54 : Int) + x) * (1 : Nat))
 (0 : UInt8) ^^^
 b8 y))))).fst.a.a4
 (etDecode
 (List.take (List.length x_1)
 (List.drop (0 : Nat)
 (List.set x_1 ((0 : Nat) + Int.toNat ((54 : Int) + x) * (1 : Nat))
 (List.getD x_1 ((0 : Nat) + Int.toNat ((54 : Int) + x) * (1 : Nat))
 (0 : UInt8) ^^^
 b8 y))))).fst.a.a5)
 (Mc.mk
 (etDecode
 (List.take (List.length x_1)
 (List.drop (0 : Nat)
 (List.set x_1 ((0 : Nat) + Int.toNat ((54 : Int) + x) * (1 : Nat))
 (List.getD x_1 ((0 : Nat) + Int.toNat ((54 : Int) + x) * (1 : Nat))
 (0 : UInt8) ^^^
 b8 y))))).fst.b.a0
 (etDecode
 (List.take (List.length x_1)
 (List.drop (0 : Nat)
 (List.set x_1 ((0 : Nat) + Int.toNat ((54 : Int) + x) * (1 : Nat))
 (List.getD x_1 ((0 : Nat) + Int.toNat ((54 : Int) + x) * (1 : Nat))
 (0 : UInt8) ^^^
 b8 y))))).fst.b.a1
 (etDecode
 (List.take (List.length x_1)
 (List.drop (0 : Nat)
 (List.set x_1 ((0 : Nat) + Int.toNat ((54 : Int) + x) * (1 : Nat))
 (List.getD x_1 ((0 : Nat) + Int.toNat ((54 : Int) + x) * (1 : Nat))
 (0 : UInt8) ^^^
 b8 y))))).fst.b.a2
 (etDecode
 (List.take (List.length x_1)
 (List.drop (0 : Nat)
 (List.set x_1 ((0 : Nat) + Int.toNat ((54 : Int) + x) * (1 : Nat))
 (List.getD x_1 ((0 : Nat) + Int.toNat ((54 : Int) + x) * (1 : Nat))
 (0 : UInt8) ^^^
 b8 y))))).fst.b.a3
 (etDecode
 (List.take (List.length x_1)
 (List.drop (0 : Nat)
 (List.set x_1 ((0 : Nat) + Int.toNat ((54 : Int) + x) * (1 : Nat))
 (List.getD x_1 ((0 : Nat) + Int.toNat ((54 : Int) + x) * (1 : Nat))
 (0 : UInt8) ^^^
 b8 y))))).fst.b.a4
 (etDecode
 (List.take (List.length x_1)
 (List.drop (0 : Nat)
 (List.set x_1 ((0 : Nat) + Int.toNat ((54 : Int) + x) * (1 : Nat))
 (List.getD x_1 ((0 : Nat) + Int.toNat ((54 : Int) + x) * (1 : Nat))
 (0 : UInt8) ^^^
 b8 y))))).fst.b.a5)
 (etDecode
 (List.take (List.length x_1)
 (List.drop (0 : Nat)
 (List.set x_1 ((0 : Nat) + Int.toNat ((54 : Int) + x) * (1 : Nat))
 (List.getD x_1 ((0 : Nat) + Int.toNat ((54 : Int) + x) * (1 : Nat))
 (0 : UInt8) ^^^
 b8 y))))).fst.ty
 (etDecode
 (List.take (List.length x_1)
 (List.drop (0 : Nat)
 (List.set x_1 ((0 : Nat) + Int.toNat ((54 : Int) + x) * (1 : Nat))
 (List.getD x_1 ((0 : Nat) + Int.toNat ((54 : Int) + x) * (1 : Nat))
 (0 : UInt8) ^^^
 b8 y))))).fst.body)).snd =
 (0 : Int)))
 (K
 (AVal.bool
 (decide
 ((nbRead
 (Fm.mk
 (Mc.mk
 (etDecode
 (List.take (List.length x_1)
 (List.drop (0 : Nat)
 (List.set x_1 ((0 : Nat) + Int.toNat ((54 : Int) + x) * (1 : Nat))
 (List.getD x_1 ((0 : Nat) + Int.toNat ((54 : Int) + x) * (1 : Nat))
 (0 : UInt8) ^^^
 b8 y))))).fst.a.a0
 (etDecode
 (List.take (List.length x_1)
 (List.drop (0 : Nat)
 (List.set x_1 ((0 : Nat) + Int.toNat ((54 : Int) + x) * (1 : Nat))
 (List.getD x_1 ((0 : Nat) + Int.toNat ((54 : Int) + x) * (1 : Nat))
 (0 : UInt8) ^^^
 b8 y))))).fst.a.a1
 (etDecode
 (List.take (List.length x_1)
 (List.drop (0 : Nat)
 (List.set x_1 ((0 : Nat) + Int.toNat ((54 : Int) + x) * (1 : Nat))
 (List.getD x_1 ((0 : Nat) + Int.toNat ((54 : Int) + x) * (1 : Nat))
 (0 : UInt8) ^^^
 b8 y))))).fst.a.a2
 (etDecode
 (List.take (List.length x_1)
 (List.drop (0 : Nat)
 (List.set x_1 ((0 : Nat) + Int.toNat ((54 : Int) + x) * (1 : Nat))
 (List.getD x_1 ((0 : Nat) + Int.toNat ((54 : Int) + x) * (1 : Nat))
 (0 : UInt8) ^^^
 b8 y))))).fst.a.a3
 (etDecode
 (List.take (List.length x_1)
 (List.drop (0 : Nat)
 (List.set x_1 ((0 : Nat) + Int.toNat ((54 : Int) + x) * (1 : Nat))
 (List.getD x_1 ((0 : Nat) + Int.toNat ((54 : Int) + x) * (1 : Nat))
 (0 : UInt8) ^^^
 b8 y))))).fst.a.a4
 (etDecode
 (List.take (List.length x_1)
 (List.drop (0 : Nat)
 (List.set x_1 ((0 : Nat) + Int.toNat ((54 : Int) + x) * (1 : Nat))
 (List.getD x_1 ((0 : Nat) + Int.toNat ((54 : Int) + x) * (1 : Nat))
 (0 : UInt8) ^^^
 b8 y))))).fst.a.a5)
 (Mc.mk
 (etDecode
 (List.take (List.length x_1)
 (List.drop (0 : Nat)
 (List.set x_1 ((0 : Nat) + Int.toNat ((54 : Int) + x) * (1 : Nat))
 (List.getD x_1 ((0 : Nat) + Int.toNat ((54 : Int) + x) * (1 : Nat))
 (0 : UInt8) ^^^
 b8 y))))).fst.b.a0
 (etDecode
 (List.take (List.length x_1)
 (List.drop (0 : Nat)
 (List.set x_1 ((0 : Nat) + Int.toNat ((54 : Int) + x) * (1 : Nat))
 (List.getD x_1 ((0 : Nat) + Int.toNat ((54 : Int) + x) * (1 : Nat))
 (0 : UInt8) ^^^
 b8 y))))).fst.b.a1
 (etDecode
 (List.take (List.length x_1)
 (List.drop (0 : Nat)
 (List.set x_1 ((0 : Nat) + Int.toNat ((54 : Int) + x) * (1 : Nat))
 (List.getD x_1 ((0 : Nat) + Int.toNat ((54 : Int) + x) * (1 : Nat))
 (0 : UInt8) ^^^
 b8 y))))).fst.b.a2
 (etDecode
 (List.take (List.length x_1)
 (List.drop (0 : Nat)
 (List.set x_1 ((0 : Nat) + Int.toNat ((54 : Int) + x) * (1 : Nat))
 (List.getD x_1 ((0 : Nat) + Int.toNat ((54 : Int) + x) * (1 : Nat))
 (0 : UInt8) ^^^
 b8 y))))).fst.b.a3
 (etDecode
 (List.take (List.length x_1)
 (List.drop (0 : Nat)
 (List.set x_1 ((0 : Nat) + Int.toNat ((54 : Int) + x) * (1 : Nat))
 (List.getD x_1 ((0 : Nat) + Int.toNat ((54 : Int) + x) * (1 : Nat))
 (0 : UInt8) ^^^
 b8 y))))).fst.b.a4
 (etDecode
 (List.take (List.length x_1)
 (List.drop (0 : Nat)
 (List.set x_1 ((0 : Nat) + Int.toNat ((54 : Int) + x) * (1 : Nat))
 (List.getD x_1 ((0 : Nat) + Int.toNat ((54 : Int) + x) * (1 : Nat))
 (0 : UInt8) ^^^
 b8 y))))).fst.b.a5)
 (etDecode
 (List.take (List.length x_1)
 (List.drop (0 : Nat)
 (List.set x_1 ((0 : Nat) + Int.toNat ((54 : Int) + x) * (1 : Nat))
 (List.getD x_1 ((0 : Nat) + Int.toNat ((54 : Int) + x) * (1 : Nat))
 (0 : UInt8) ^^^
 b8 y))))).fst.ty
 (etDecode
 (List.take (List.length x_1)
 (List.drop (0 : Nat)
 (List.set x_1 ((0 : Nat) + Int.toNat ((54 : Int) + x) * (1 : Nat))
 (List.getD x_1 ((0 : Nat) + Int.toNat ((54 : Int) + x) * (1 : Nat))
 (0 : UInt8) ^^^
 b8 y))))).fst.body)).fst.kind =
 (0 : Int)) &&
 (decide
 ((nbRead
 (Fm.mk
 (Mc.mk
 (etDecode
 (List.take (List.length x_1)
 (List.drop (0 : Nat)
 (List.set x_1 ((0 : Nat) + Int.toNat ((54 : Int) + x) * (1 : Nat))
 (List.getD x_1 ((0 : Nat) + Int.toNat ((54 : Int) + x) * (1 : Nat))
 (0 : UInt8) ^^^
 b8 y))))).fst.a.a0
 (etDecode
 (List.take (List.length x_1)
 (List.drop (0 : Nat)
 (List.set x_1 ((0 : Nat) + Int.toNat ((54 : Int) + x) * (1 : Nat))
 (List.getD x_1 ((0 : Nat) + Int.toNat ((54 : Int) + x) * (1 : Nat))
 (0 : UInt8) ^^^
 b8 y))))).fst.a.a1
 (etDecode
 (List.take (List.length x_1)
 (List.drop (0 : Nat)
 (List.set x_1 ((0 : Nat) + Int.toNat ((54 : Int) + x) * (1 : Nat))
 (List.getD x_1 ((0 : Nat) + Int.toNat ((54 : Int) + x) * (1 : Nat))
 (0 : UInt8) ^^^
 b8 y))))).fst.a.a2
 (etDecode
 (List.take (List.length x_1)
 (List.drop (0 : Nat)
 (List.set x_1 ((0 : Nat) + Int.toNat ((54 : Int) + x) * (1 : Nat))
 (List.getD x_1 ((0 : Nat) + Int.toNat ((54 : Int) + x) * (1 : Nat))
 (0 : UInt8) ^^^
 b8 y))))).fst.a.a3
 (etDecode
 (List.take (List.length x_1)
 (List.drop (0 : Nat)
 (List.set x_1 ((0 : Nat) + Int.toNat ((54 : Int) + x) * (1 : Nat))
 (List.getD x_1 ((0 : Nat) + Int.toNat ((54 : Int) + x) * (1 : Nat))
 (0 : UInt8) ^^^
 b8 y))))).fst.a.a4
 (etDecode
 (List.take (List.length x_1)
 (List.drop (0 : Nat)
 (List.set x_1 ((0 : Nat) + Int.toNat ((54 : Int) + x) * (1 : Nat))
 (List.getD x_1 ((0 : Nat) + Int.toNat ((54 : Int) + x) * (1 : Nat))
 (0 : UInt8) ^^^
 b8 y))))).fst.a.a5)
 (Mc.mk
 (etDecode
 (List.take (List.length x_1)
 (List.drop (0 : Nat)
 (List.set x_1 ((0 : Nat) + Int.toNat ((54 : Int) + x) * (1 : Nat))
 (List.getD x_1 ((0 : Nat) + Int.toNat ((54 : Int) + x) * (1 : Nat))
 (0 : UInt8) ^^^
 b8 y))))).fst.b.a0
 (etDecode
 (List.take (List.length x_1)
 (List.drop (0 : Nat)
 (List.set x_1 ((0 : Nat) + Int.toNat ((54 : Int) + x) * (1 : Nat))
 (List.getD x_1 ((0 : Nat) + Int.toNat ((54 : Int) + x) * (1 : Nat))
 (0 : UInt8) ^^^
 b8 y))))).fst.b.a1
 (etDecode
 (List.take (List.length x_1)
 (List.drop (0 : Nat)
 (List.set x_1 ((0 : Nat) + Int.toNat ((54 : Int) + x) * (1 : Nat))
 (List.getD x_1 ((0 : Nat) + Int.toNat ((54 : Int) + x) * (1 : Nat))
 (0 : UInt8) ^^^
 b8 y))))).fst.b.a2
 (etDecode
 (List.take (List.length x_1)
 (List.drop (0 : Nat)
 (List.set x_1 ((0 : Nat) + Int.toNat ((54 : Int) + x) * (1 : Nat))
 (List.getD x_1 ((0 : Nat) + Int.toNat ((54 : Int) + x) * (1 : Nat))
 (0 : UInt8) ^^^
 b8 y))))).fst.b.a3
 (etDecode
 (List.take (List.length x_1)
 (List.drop (0 : Nat)
 (List.set x_1 ((0 : Nat) + Int.toNat ((54 : Int) + x) * (1 : Nat))
 (List.getD x_1 ((0 : Nat) + Int.toNat ((54 : Int) + x) * (1 : Nat))
 (0 : UInt8) ^^^
 b8 y))))).fst.b.a4
 (etDecode
 (List.take (List.length x_1)
 (List.drop (0 : Nat)
 (List.set x_1 ((0 : Nat) + Int.toNat ((54 : Int) + x) * (1 : Nat))
 (List.getD x_1 ((0 : Nat) + Int.toNat ((54 : Int) + x) * (1 : Nat))
 (0 : UInt8) ^^^
 b8 y))))).fst.b.a5)
 (etDecode
 (List.take (List.length x_1)
 (List.drop (0 : Nat)
 (List.set x_1 ((0 : Nat) + Int.toNat ((54 : Int) + x) * (1 : Nat))
 (List.getD x_1 ((0 : Nat) + Int.toNat ((54 : Int) + x) * (1 : Nat))
 (0 : UInt8) ^^^
 b8 y))))).fst.ty
 (etDecode
 (List.take (List.length x_1)
 (List.drop (0 : Nat)
 (List.set x_1 ((0 : Nat) + Int.toNat ((54 : Int) + x) * (1 : Nat))
 (List.getD x_1 ((0 : Nat) + Int.toNat ((54 : Int) + x) * (1 : Nat))
 (0 : UInt8) ^^^
 b8 y))))).fst.body)).fst.mac.a0 =
 (0 : UInt8)) &&
 (decide
 ((nbRead
 (Fm.mk
 (Mc.mk
 (etDecode
 (List.take (List.length x_1)
 (List.drop (0 : Nat)
 (List.set x_1 ((0 : Nat) + Int.toNat ((54 : Int) + x) * (1 : Nat))
 (List.getD x_1 ((0 : Nat) + Int.toNat ((54 : Int) + x) * (1 : Nat))
 (0 : UInt8) ^^^
 b8 y))))).fst.a.a0
 (etDecode
 (List.take (List.length x_1)
 (List.drop (0 : Nat)
 (List.set x_1 ((0 : Nat) + Int.toNat ((54 : Int) + x) * (1 : Nat))
 (List.getD x_1 ((0 : Nat) + Int.toNat ((54 : Int) + x) * (1 : Nat))
 (0 : UInt8) ^^^
 b8 y))))).fst.a.a1
 (etDecode
 (List.take (List.length x_1)
 (List.drop (0 : Nat)
 (List.set x_1 ((0 : Nat) + Int.toNat ((54 : Int) + x) * (1 : Nat))
 (List.getD x_1 ((0 : Nat) + Int.toNat ((54 : Int) + x) * (1 : Nat))
 (0 : UInt8) ^^^
 b8 y))))).fst.a.a2
 (etDecode
 (List.take (List.length x_1)
 (List.drop (0 : Nat)
 (List.set x_1 ((0 : Nat) + Int.toNat ((54 : Int) + x) * (1 : Nat))
 (List.getD x_1 ((0 : Nat) + Int.toNat ((54 : Int) + x) * (1 : Nat))
 (0 : UInt8) ^^^
 b8 y))))).fst.a.a3
 (etDecode
 (List.take (List.length x_1)
 (List.drop (0 : Nat)
 (List.set x_1 ((0 : Nat) + Int.toNat ((54 : Int) + x) * (1 : Nat))
 (List.getD x_1 ((0 : Nat) + Int.toNat ((54 : Int) + x) * (1 : Nat))
 (0 : UInt8) ^^^
 b8 y))))).fst.a.a4
 (etDecode
 (List.take (List.length x_1)
 (List.drop (0 : Nat)
 (List.set x_1 ((0 : Nat) + Int.toNat ((54 : Int) + x) * (1 : Nat))
 (List.getD x_1 ((0 : Nat) + Int.toNat ((54 : Int) + x) * (1 : Nat))
 (0 : UInt8) ^^^
 b8 y))))).fst.a.a5)
 (Mc.mk
 (etDecode
 (List.take (List.length x_1)
 (List.drop (0 : Nat)
 (List.set x_1 ((0 : Nat) + Int.toNat ((54 : Int) + x) * (1 : Nat))
 (List.getD x_1 ((0 : Nat) + Int.toNat ((54 : Int) + x) * (1 : Nat))
 (0 : UInt8) ^^^
 b8 y))))).fst.b.a0
 (etDecode
 (List.take (List.length x_1)
 (List.drop (0 : Nat)
 (List.set x_1 ((0 : Nat) + Int.toNat ((54 : Int) + x) * (1 : Nat))
 (List.getD x_1 ((0 : Nat) + Int.toNat ((54 : Int) + x) * (1 : Nat))
 (0 : UInt8) ^^^
 b8 y))))).fst.b.a1
 (etDecode
 (List.take (List.length x_1)
 (List.drop (0 : Nat)
 (List.set x_1 ((0 : Nat) + Int.toNat ((54 : Int) + x) * (1 : Nat))
 (List.getD x_1 ((0 : Nat) + Int.toNat ((54 : Int) + x) * (1 : Nat))
 (0 : UInt8) ^^^
 b8 y))))).fst.b.a2
 (etDecode
 (List.take (List.length x_1)
 (List.drop (0 : Nat)
 (List.set x_1 ((0 : Nat) + Int.toNat ((54 : Int) + x) * (1 : Nat))
 (List.getD x_1 ((0 : Nat) + Int.toNat ((54 : Int) + x) * (1 : Nat))
 (0 : UInt8) ^^^
 b8 y))))).fst.b.a3
 (etDecode
 (List.take (List.length x_1)
 (List.drop (0 : Nat)
 (List.set x_1 ((0 : Nat) + Int.toNat ((54 : Int) + x) * (1 : Nat))
 (List.getD x_1 ((0 : Nat) + Int.toNat ((54 : Int) + x) * (1 : Nat))
 (0 : UInt8) ^^^
 b8 y))))).fst.b.a4
 (etDecode
 (List.take (List.length x_1)
 (List.drop (0 : Nat)
 (List.set x_1 ((0 : Nat) + Int.toNat ((54 : Int) + x) * (1 : Nat))
 (List.getD x_1 ((0 : Nat) + Int.toNat ((54 : Int) + x) * (1 : Nat))
 (0 : UInt8) ^^^
 b8 y))))).fst.b.a5)
 (etDecode
 (List.take (List.length x_1)
 (List.drop (0 : Nat)
 (List.set x_1 ((0 : Nat) + Int.toNat ((54 : Int) + x) * (1 : Nat))
 (List.getD x_1 ((0 : Nat) + Int.toNat ((54 : Int) + x) * (1 : Nat))
 (0 : UInt8) ^^^
 b8 y))))).fst.ty
 (etDecode
 (List.take (List.length x_1)
 (List.drop (0 : Nat)
 (List.set x_1 ((0 : Nat) + Int.toNat ((54 : Int) + x) * (1 : Nat))
 (List.getD x_1 ((0 : Nat) + Int.toNat ((54 : Int) + x) * (1 : Nat))
 (0 : UInt8) ^^^
 b8 y))))).fst.body)).fst.mac.a1 =
 (0 : UInt8)) &&
 (decide
 ((nbRead
 (Fm.mk
 (Mc.mk
 (etDecode
 (List.take (List.length x_1)
 (List.drop (0 : Nat)
 (List.set x_1 ((0 : Nat) + Int.toNat ((54 : Int) + x) * (1 : Nat))
 (List.getD x_1 ((0 : Nat) + Int.toNat ((54 : Int) + x) * (1 : Nat))
 (0 : UInt8) ^^^
 b8 y))))).fst.a.a0
 (etDecode
 (List.take (List.length x_1)
 (List.drop (0 : Nat)
 (List.set x_1 ((0 : Nat) + Int.toNat ((54 : Int) + x) * (1 : Nat))
 (List.getD x_1 ((0 : Nat) + Int.toNat ((54 : Int) + x) * (1 : Nat))
 (0 : UInt8) ^^^
 b8 y))))).fst.a.a1
 (etDecode
 (List.take (List.length x_1)
 (List.drop (0 : Nat)
 (List.set x_1 ((0 : Nat) + Int.toNat ((54 : Int) + x) * (1 : Nat))
 (List.getD x_1 ((0 : Nat) + Int.toNat ((54 : Int) + x) * (1 : Nat))
 (0 : UInt8) ^^^
 b8 y))))).fst.a.a2
 (etDecode
 (List.take (List.length x_1)
 (List.drop (0 : Nat)
 (List.set x_1 ((0 : Nat) + Int.toNat ((54 : Int) + x) * (1 : Nat))
 (List.getD x_1 ((0 : Nat) + Int.toNat ((54 : Int) + x) * (1 : Nat))
 (0 : UInt8) ^^^
 b8 y))))).fst.a.a3
 (etDecode
 (List.take (List.length x_1)
 (List.drop (0 : Nat)
 (List.set x_1 ((0 : Nat) + Int.toNat ((54 : Int) + x) * (1 : Nat))
 (List.getD x_1 ((0 : Nat) + Int.toNat ((54 : Int) + x) * (1 : Nat))
 (0 : UInt8) ^^^
 b8 y))))).fst.a.a4
 (etDecode
 (List.take (List.length x_1)
 (List.drop (0 : Nat)
 (List.set x_1 ((0 : Nat) + Int.toNat ((54 : Int) + x) * (1 : Nat))
 (List.getD x_1 ((0 : Nat) + Int.toNat ((54 : Int) + x) * (1 : Nat))
 (0 : UInt8) ^^^
 b8 y))))).fst.a.a5)
 (Mc.mk
 (etDecode
 (List.take (List.length x_1)
 (List.drop (0 : Nat)
 (List.set x_1 ((0 : Nat) + Int.toNat ((54 : Int) + x) * (1 : Nat))
 (List.getD x_1 ((0 : Nat) + Int.toNat ((54 : Int) + x) * (1 : Nat))
 (0 : UInt8) ^^^
 b8 y))))).fst.b.a0
 (etDecode
 (List.take (List.length x_1)
 (List.drop (0 : Nat)
 (List.set x_1 ((0 : Nat) + Int.toNat ((54 : Int) + x) * (1 : Nat))
 (List.getD x_1 ((0 : Nat) + Int.toNat ((54 : Int) + x) * (1 : Nat))
 (0 : UInt8) ^^^
 b8 y))))).fst.b.a1
 (etDecode
 (List.take (List.length x_1)
 (List.drop (0 : Nat)
 (List.set x_1 ((0 : Nat) + Int.toNat ((54 : Int) + x) * (1 : Nat))
 (List.getD x_1 ((0 : Nat) + Int.toNat ((54 : Int) + x) * (1 : Nat))
 (0 : UInt8) ^^^
 b8 y))))).fst.b.a2
 (etDecode
 (List.take (List.length x_1)
 (List.drop (0 : Nat)
 (List.set x_1 ((0 : Nat) + Int.toNat ((54 : Int) + x) * (1 : Nat))
 (List.getD x_1 ((0 : Nat) + Int.toNat ((54 : Int) + x) * (1 : Nat))
 (0 : UInt8) ^^^
 b8 y))))).fst.b.a3
 (etDecode
 (List.take (List.length x_1)
 (List.drop (0 : Nat)
 (List.set x_1 ((0 : Nat) + Int.toNat ((54 : Int) + x) * (1 : Nat))
 (List.getD x_1 ((0 : Nat) + Int.toNat ((54 : Int) + x) * (1 : Nat))
 (0 : UInt8) ^^^
 b8 y))))).fst.b.a4
 (etDecode
 (List.take (List.length x_1)
 (List.drop (0 : Nat)
 (List.set x_1 ((0 : Nat) + Int.toNat ((54 : Int) + x) * (1 : Nat))
 (List.getD x_1 ((0 : Nat) + Int.toNat ((54 : Int) + x) * (1 : Nat))
 (0 : UInt8) ^^^
 b8 y))))).fst.b.a5)
 (etDecode
 (List.take (List.length x_1)
 (List.drop (0 : Nat)
 (List.set x_1 ((0 : Nat) + Int.toNat ((54 : Int) + x) * (1 : Nat))
 (List.getD x_1 ((0 : Nat) + Int.toNat ((54 : Int) + x) * (1 : Nat))
 (0 : UInt8) ^^^
 b8 y))))).fst.ty
 (etDecode
 (List.take (List.length x_1)
 (List.drop (0 : Nat)
 (List.set x_1 ((0 : Nat) + Int.toNat ((54 : Int) + x) * (1 : Nat))
 (List.getD x_1 ((0 : Nat) + Int.toNat ((54 : Int) + x) * (1 : Nat))
 (0 : UInt8) ^^^
 b8 y))))).fst.body)).fst.mac.a2 =
 (0 : UInt8)) &&
 (decide
 ((nbRead
 (Fm.mk
 (Mc.mk
 (etDecode
 (List.take (List.length x_1)
 (List.drop (0 : Nat)
 (List.set x_1 ((0 : Nat) + Int.toNat ((54 : Int) + x) * (1 : Nat))
 (List.getD x_1 ((0 : Nat) + Int.toNat ((54 : Int) + x) * (1 : Nat))
 (0 : UInt8) ^^^
 b8 y))))).fst.a.a0
 (etDecode
 (List.take (List.length x_1)
 (List.drop (0 : Nat)
 (List.set x_1 ((0 : Nat) + Int.toNat ((54 : Int) + x) * (1 : Nat))
 (List.getD x_1 ((0 : Nat) + Int.toNat ((54 : Int) + x) * (1 : Nat))
 (0 : UInt8) ^^^
 b8 y))))).fst.a.a1
 (etDecode
 (List.take (List.length x_1)
 (List.drop (0 : Nat)
 (List.set x_1 ((0 : Nat) + Int.toNat ((54 : Int) + x) * (1 : Nat))
 (List.getD x_1 ((0 : Nat) + Int.toNat ((54 : Int) + x) * (1 : Nat))
 (0 : UInt8) ^^^
 b8 y))))).fst.a.a2
 (etDecode
 (List.take (List.length x_1)
 (List.drop (0 : Nat)
 (List.set x_1 ((0 : Nat) + Int.toNat ((54 : Int) + x) * (1 : Nat))
 (List.getD x_1 ((0 : Nat) + Int.toNat ((54 : Int) + x) * (1 : Nat))
 (0 : UInt8) ^^^
 b8 y))))).fst.a.a3
 (etDecode
 (List.take (List.length x_1)
 (List.drop (0 : Nat)
 (List.set x_1 ((0 : Nat) + Int.toNat ((54 : Int) + x) * (1 : Nat))
 (List.getD x_1 ((0 : Nat) + Int.toNat ((54 : Int) + x) * (1 : Nat))
 (0 : UInt8) ^^^
 b8 y))))).fst.a.a4
 (etDecode
 (List.take (List.length x_1)
 (List.drop (0 : Nat)
 (List.set x_1 ((0 : Nat) + Int.toNat ((54 : Int) + x) * (1 : Nat))
 (List.getD x_1 ((0 : Nat) + Int.toNat ((54 : Int) + x) * (1 : Nat))
 (0 : UInt8) ^^^
 b8 y))))).fst.a.a5)
 (Mc.mk
 (etDecode
 (List.take (List.length x_1)
 (List.drop (0 : Nat)
 (List.set x_1 ((0 : Nat) + Int.toNat ((54 : Int) + x) * (1 : Nat))
 (List.getD x_1 ((0 : Nat) + Int.toNat ((54 : Int) + x) * (1 : Nat))
 (0 : UInt8) ^^^
 b8 y))))).fst.b.a0
 (etDecode
 (List.take (List.length x_1)
 (List.drop (0 : Nat)
 (List.set x_1 ((0 : Nat) + Int.toNat ((54 : Int) + x) * (1 : Nat))
 (List.getD x_1 ((0 : Nat) + Int.toNat ((54 : Int) + x) * (1 : Nat))
 (0 : UInt8) ^^^
 b8 y))))).fst.b.a1
 (etDecode
 (List.take (List.length x_1)
 (List.drop (0 : Nat)
 (List.set x_1 ((0 : Nat) + Int.toNat ((54 : Int) + x) * (1 : Nat))
 (List.getD x_1 ((0 : Nat) + Int.toNat ((54 : Int) + x) * (1 : Nat))
 (0 : UInt8) ^^^
 b8 y))))).fst.b.a2
 (etDecode
 (List.take (List.length x_1)
 (List.drop (0 : Nat)
 (List.set x_1 ((0 : Nat) + Int.toNat ((54 : Int) + x) * (1 : Nat))
 (List.getD x_1 ((0 : Nat) + Int.toNat ((54 : Int) + x) * (1 : Nat))
 (0 : UInt8) ^^^
 b8 y))))).fst.b.a3
 (etDecode
 (List.take (List.length x_1)
 (List.drop (0 : Nat)
 (List.set x_1 ((0 : Nat) + Int.toNat ((54 : Int) + x) * (1 : Nat))
 (List.getD x_1 ((0 : Nat) + Int.toNat ((54 : Int) + x) * (1 : Nat))
 (0 : UInt8) ^^^
 b8 y))))).fst.b.a4
 (etDecode
 (List.take (List.length x_1)
 (List.drop (0 : Nat)
 (List.set x_1 ((0 : Nat) + Int.toNat ((54 : Int) + x) * (1 : Nat))
 (List.getD x_1 ((0 : Nat) + Int.toNat ((54 : Int) + x) * (1 : Nat))
 (0 : UInt8) ^^^
 b8 y))))).fst.b.a5)
 (etDecode
 (List.take (List.length x_1)
 (List.drop (0 : Nat)
 (List.set x_1 ((0 : Nat) + Int.toNat ((54 : Int) + x) * (1 : Nat))
 (List.getD x_1 ((0 : Nat) + Int.toNat ((54 : Int) + x) * (1 : Nat))
 (0 : UInt8) ^^^
 b8 y))))).fst.ty
 (etDecode
 (List.take (List.length x_1)
 (List.drop (0 : Nat)
 (List.set x_1 ((0 : Nat) + Int.toNat ((54 : Int) + x) * (1 : Nat))
 (List.getD x_1 ((0 : Nat) + Int.toNat ((54 : Int) + x) * (1 : Nat))
 (0 : UInt8) ^^^
 b8 y))))).fst.body)).fst.mac.a3 =
 (0 : UInt8)) &&
 (decide
 ((nbRead
 (Fm.mk
 (Mc.mk
 (etDecode
 (List.take (List.length x_1)
 (List.drop (0 : Nat)
 (List.set x_1 ((0 : Nat) + Int.toNat ((54 : Int) + x) * (1 : Nat))
 (List.getD x_1 ((0 : Nat) + Int.toNat ((54 : Int) + x) * (1 : Nat))
 (0 : UInt8) ^^^
 b8 y))))).fst.a.a0
 (etDecode
 (List.take (List.length x_1)
 (List.drop (0 : Nat)
 (List.set x_1 ((0 : Nat) + Int.toNat ((54 : Int) + x) * (1 : Nat))
 (List.getD x_1 ((0 : Nat) + Int.toNat ((54 : Int) + x) * (1 : Nat))
 (0 : UInt8) ^^^
 b8 y))))).fst.a.a1
 (etDecode
 (List.take (List.length x_1)
 (List.drop (0 : Nat)
 (List.set x_1 ((0 : Nat) + Int.toNat ((54 : Int) + x) * (1 : Nat))
 (List.getD x_1 ((0 : Nat) + Int.toNat ((54 : Int) + x) * (1 : Nat))
 (0 : UInt8) ^^^
 b8 y))))).fst.a.a2
 (etDecode
 (List.take (List.length x_1)
 (List.drop (0 : Nat)
 (List.set x_1 ((0 : Nat) + Int.toNat ((54 : Int) + x) * (1 : Nat))
 (List.getD x_1 ((0 : Nat) + Int.toNat ((54 : Int) + x) * (1 : Nat))
 (0 : UInt8) ^^^
 b8 y))))).fst.a.a3
 (etDecode
 (List.take (List.length x_1)
 (List.drop (0 : Nat)
 (List.set x_1 ((0 : Nat) + Int.toNat ((54 : Int) + x) * (1 : Nat))
 (List.getD x_1 ((0 : Nat) + Int.toNat ((54 : Int) + x) * (1 : Nat))
 (0 : UInt8) ^^^
 b8 y))))).fst.a.a4
 (etDecode
 (List.take (List.length x_1)
 (List.drop (0 : Nat)
 (List.set x_1 ((0 : Nat) + Int.toNat ((54 : Int) + x) * (1 : Nat))
 (List.getD x_1 ((0 : Nat) + Int.toNat ((54 : Int) + x) * (1 : Nat))
 (0 : UInt8) ^^^
 b8 y))))).fst.a.a5)
 (Mc.mk
 (etDecode
 (List.take (List.length x_1)
 (List.drop (0 : Nat)
 (List.set x_1 ((0 : Nat) + Int.toNat ((54 : Int) + x) * (1 : Nat))
 (List.getD x_1 ((0 : Nat) + Int.toNat ((54 : Int) + x) * (1 : Nat))
 (0 : UInt8) ^^^
 b8 y))))).fst.b.a0
 (etDecode
 (List.take (List.length x_1)
 (List.drop (0 : Nat)
 (List.set x_1 ((0 : Nat) + Int.toNat ((54 : Int) + x) * (1 : Nat))
 (List.getD x_1 ((0 : Nat) + Int.toNat ((54 : Int) + x) * (1 : Nat))
 (0 : UInt8) ^^^
 b8 y))))).fst.b.a1
 (etDecode
 (List.take (List.length x_1)
 (List.drop (0 : Nat)
 (List.set x_1 ((0 : Nat) + Int.toNat ((54 : Int) + x) * (1 : Nat))
 (List.getD x_1 ((0 : Nat) + Int.toNat ((54 : Int) + x) * (1 : Nat))
 (0 : UInt8) ^^^
 b8 y))))).fst.b.a2
 (etDecode
 (List.take (List.length x_1)
 (List.drop (0 : Nat)
 (List.set x_1 ((0 : Nat) + Int.toNat ((54 : Int) + x) * (1 : Nat))
 (List.getD x_1 ((0 : Nat) + Int.toNat ((54 : Int) + x) * (1 : Nat))
 (0 : UInt8) ^^^
 b8 y))))).fst.b.a3
 (etDecode
 (List.take (List.length x_1)
 (List.drop (0 : Nat)
 (List.set x_1 ((0 : Nat) + Int.toNat ((54 : Int) + x) * (1 : Nat))
 (List.getD x_1 ((0 : Nat) + Int.toNat ((54 : Int) + x) * (1 : Nat))
 (0 : UInt8) ^^^
 b8 y))))).fst.b.a4
 (etDecode
 (List.take (List.length x_1)
 (List.drop (0 : Nat)
 (List.set x_1 ((0 : Nat) + Int.toNat ((54 : Int) + x) * (1 : Nat))
 (List.getD x_1 ((0 : Nat) + Int.toNat ((54 : Int) + x) * (1 : Nat))
 (0 : UInt8) ^^^
 b8 y))))).fst.b.a5)
 (etDecode
 (List.take (List.length x_1)
 (List.drop (0 : Nat)
 (List.set x_1 ((0 : Nat) + Int.toNat ((54 : Int) + x) * (1 : Nat))
 (List.getD x_1 ((0 : Nat) + Int.toNat ((54 : Int) + x) * (1 : Nat))
 (0 : UInt8) ^^^
 b8 y))))).fst.ty
 (etDecode
 (List.take (List.length x_1)
 (List.drop (0 : Nat)
 (List.set x_1 ((0 : Nat) + Int.toNat ((54 : Int) + x) * (1 : Nat))
 (List.getD x_1 ((0 : Nat) + Int.toNat ((54 : Int) + x) * (1 : Nat))
 (0 : UInt8) ^^^
 b8 y))))).fst.body)).fst.mac.a4 =
 (0 : UInt8)) &&
 (decide
 ((nbRead
 (Fm.mk
 (Mc.mk
 (etDecode
 (List.take (List.length x_1)
 (List.drop (0 : Nat)
 (List.set x_1 ((0 : Nat) + Int.toNat ((54 : Int) + x) * (1 : Nat))
 (List.getD x_1 ((0 : Nat) + Int.toNat ((54 : Int) + x) * (1 : Nat))
 (0 : UInt8) ^^^
 b8 y))))).fst.a.a0
 (etDecode
 (List.take (List.length x_1)
 (List.drop (0 : Nat)
 (List.set x_1 ((0 : Nat) + Int.toNat ((54 : Int) + x) * (1 : Nat))
 (List.getD x_1 ((0 : Nat) + Int.toNat ((54 : Int) + x) * (1 : Nat))
 (0 : UInt8) ^^^
 b8 y))))).fst.a.a1
 (etDecode
 (List.take (List.length x_1)
 (List.drop (0 : Nat)
 (List.set x_1 ((0 : Nat) + Int.toNat ((54 : Int) + x) * (1 : Nat))
 (List.getD x_1 ((0 : Nat) + Int.toNat ((54 : Int) + x) * (1 : Nat))
 (0 : UInt8) ^^^
 b8 y))))).fst.a.a2
 (etDecode
 (List.take (List.length x_1)
 (List.drop (0 : Nat)
 (List.set x_1 ((0 : Nat) + Int.toNat ((54 : Int) + x) * (1 : Nat))
 (List.getD x_1 ((0 : Nat) + Int.toNat ((54 : Int) + x) * (1 : Nat))
 (0 : UInt8) ^^^
 b8 y))))).fst.a.a3
 (etDecode
 (List.take (List.length x_1)
 (List.drop (0 : Nat)
 (List.set x_1 ((0 : Nat) + Int.toNat ((54 : Int) + x) * (1 : Nat))
 (List.getD x_1 ((0 : Nat) + Int.toNat ((54 : Int) + x) * (1 : Nat))
 (0 : UInt8) ^^^
 b8 y))))).fst.a.a4
 (etDecode
 (List.take (List.length x_1)
 (List.drop (0 : Nat)
 (List.set x_1 ((0 : Nat) + Int.toNat ((54 : Int) + x) * (1 : Nat))
 (List.getD x_1 ((0 : Nat) + Int.toNat ((54 : Int) + x) * (1 : Nat))
 (0 : UInt8) ^^^
 b8 y))))).fst.a.a5)
 (Mc.mk
 (etDecode
 (List.take (List.length x_1)
 (List.drop (0 : Nat)
 (List.set x_1 ((0 : Nat) + Int.toNat ((54 : Int) + x) * (1 : Nat))
 (List.getD x_1 ((0 : Nat) + Int.toNat ((54 : Int) + x) * (1 : Nat))
 (0 : UInt8) ^^^
 b8 y))))).fst.b.a0
 (etDecode
 (List.take (List.length x_1)
 (List.drop (0 : Nat)
 (List.set x_1 ((0 : Nat) + Int.toNat ((54 : Int) + x) * (1 : Nat))
 (List.getD x_1 ((0 : Nat) + Int.toNat ((54 : Int) + x) * (1 : Nat))
 (0 : UInt8) ^^^
 b8 y))))).fst.b.a1
 (etDecode
 (List.take (List.length x_1)
 (List.drop (0 : Nat)
 (List.set x_1 ((0 : Nat) + Int.toNat ((54 : Int) + x) * (1 : Nat))
 (List.getD x_1 ((0 : Nat) + Int.toNat ((54 : Int) + x) * (1 : Nat))
 (0 : UInt8) ^^^
 b8 y))))).fst.b.a2
 (etDecode
 (List.take (List.length x_1)
 (List.drop (0 : Nat)
 (List.set x_1 ((0 : Nat) + Int.toNat ((54 : Int) + x) * (1 : Nat))
 (List.getD x_1 ((0 : Nat) + Int.toNat ((54 : Int) + x) * (1 : Nat))
 (0 : UInt8) ^^^
 b8 y))))).fst.b.a3
 (etDecode
 (List.take (List.length x_1)
 (List.drop (0 : Nat)
 (List.set x_1 ((0 : Nat) + Int.toNat ((54 : Int) + x) * (1 : Nat))
 (List.getD x_1 ((0 : Nat) + Int.toNat ((54 : Int) + x) * (1 : Nat))
 (0 : UInt8) ^^^
 b8 y))))).fst.b.a4
 (etDecode
 (List.take (List.length x_1)
 (List.drop (0 : Nat)
 (List.set x_1 ((0 : Nat) + Int.toNat ((54 : Int) + x) * (1 : Nat))
 (List.getD x_1 ((0 : Nat) + Int.toNat ((54 : Int) + x) * (1 : Nat))
 (0 : UInt8) ^^^
 b8 y))))).fst.b.a5)
 (etDecode
 (List.take (List.length x_1)
 (List.drop (0 : Nat)
 (List.set x_1 ((0 : Nat) + Int.toNat ((54 : Int) + x) * (1 : Nat))
 (List.getD x_1 ((0 : Nat) + Int.toNat ((54 : Int) + x) * (1 : Nat))
 (0 : UInt8) ^^^
 b8 y))))).fst.ty
 (etDecode
 (List.take (List.length x_1)
 (List.drop (0 : Nat)
 (List.set x_1 ((0 : Nat) + Int.toNat ((54 : Int) + x) * (1 : Nat))
 (List.getD x_1 ((0 : Nat) + Int.toNat ((54 : Int) + x) * (1 : Nat))
 (0 : UInt8) ^^^
 b8 y))))).fst.body)).fst.mac.a5 =
 (0 : UInt8)) &&
 (decide
 ((nbRead
 (Fm.mk
 (Mc.mk
 (etDecode
 (List.take (List.length x_1)
 (List.drop (0 : Nat)
 (List.set x_1 ((0 : Nat) + Int.toNat ((54 : Int) + x) * (1 : Nat))
 (List.getD x_1 ((0 : Nat) + Int.toNat ((54 : Int) + x) * (1 : Nat))
 (0 : UInt8) ^^^
 b8 y))))).fst.a.a0
 (etDecode
 (List.take (List.length x_1)
 (List.drop (0 : Nat)
 (List.set x_1 ((0 : Nat) + Int.toNat ((54 : Int) + x) * (1 : Nat))
 (List.getD x_1 ((0 : Nat) + Int.toNat ((54 : Int) + x) * (1 : Nat))
 (0 : UInt8) ^^^
 b8 y))))).fst.a.a1
 (etDecode
 (List.take (List.length x_1)
 (List.drop (0 : Nat)
 (List.set x_1 ((0 : Nat) + Int.toNat ((54 : Int) + x) * (1 : Nat))
 (List.getD x_1 ((0 : Nat) + Int.toNat ((54 : Int) + x) * (1 : Nat))
 (0 : UInt8) ^^^
 b8 y))))).fst.a.a2
 (etDecode
 (List.take (List.length x_1)
 (List.drop (0 : Nat)
 (List.set x_1 ((0 : Nat) + Int.toNat ((54 : Int) + x) * (1 : Nat))
 (List.getD x_1 ((0 : Nat) + Int.toNat ((54 : Int) + x) * (1 : Nat))
 (0 : UInt8) ^^^
 b8 y))))).fst.a.a3
 (etDecode
 (List.take (List.length x_1)
 (List.drop (0 : Nat)
 (List.set x_1 ((0 : Nat) + Int.toNat ((54 : Int) + x) * (1 : Nat))
 (List.getD x_1 ((0 : Nat) + Int.toNat ((54 : Int) + x) * (1 : Nat))
 (0 : UInt8) ^^^
 b8 y))))).fst.a.a4
 (etDecode
 (List.take (List.length x_1)
 (List.drop (0 : Nat)
 (List.set x_1 ((0 : Nat) + Int.toNat ((54 : Int) + x) * (1 : Nat))
 (List.getD x_1 ((0 : Nat) + Int.toNat ((54 : Int) + x) * (1 : Nat))
 (0 : UInt8) ^^^
 b8 y))))).fst.a.a5)
 (Mc.mk
 (etDecode
 (List.take (List.length x_1)
 (List.drop (0 : Nat)
 (List.set x_1 ((0 : Nat) + Int.toNat ((54 : Int) + x) * (1 : Nat))
 (List.getD x_1 ((0 : Nat) + Int.toNat ((54 : Int) + x) * (1 : Nat))
 (0 : UInt8) ^^^
 b8 y))))).fst.b.a0
 (etDecode
 (List.take (List.length x_1)
 (List.drop (0 : Nat)
 (List.set x_1 ((0 : Nat) + Int.toNat ((54 : Int) + x) * (1 : Nat))
 (List.getD x_1 ((0 : Nat) + Int.toNat ((54 : Int) + x) * (1 : Nat))
 (0 : UInt8) ^^^
 b8 y))))).fst.b.a1
 (etDecode
 (List.take (List.length x_1)
 (List.drop (0 : Nat)
 (List.set x_1 ((0 : Nat) + Int.toNat ((54 : Int) + x) * (1 : Nat))
 (List.getD x_1 ((0 : Nat) + Int.toNat ((54 : Int) + x) * (1 : Nat))
 (0 : UInt8) ^^^
 b8 y))))).fst.b.a2
 (etDecode
 (List.take (List.length x_1)
 (List.drop (0 : Nat)
 (List.set x_1 ((0 : Nat) + Int.toNat ((54 : Int) + x) * (1 : Nat))
 (List.getD x_1 ((0 : Nat) + Int.toNat ((54 : Int) + x) * (1 : Nat))
 (0 : UInt8) ^^^
 b8 y))))).fst.b.a3
 (etDecode
 (List.take (List.length x_1)
 (List.drop (0 : Nat)
 (List.set x_1 ((0 : Nat) + Int.toNat ((54 : Int) + x) * (1 : Nat))
 (List.getD x_1 ((0 : Nat) + Int.toNat ((54 : Int) + x) * (1 : Nat))
 (0 : UInt8) ^^^
 b8 y))))).fst.b.a4
 (etDecode
 (List.take (List.length x_1)
 (List.drop (0 : Nat)
 (List.set x_1 ((0 : Nat) + Int.toNat ((54 : Int) + x) * (1 : Nat))
 (List.getD x_1 ((0 : Nat) + Int.toNat ((54 : Int) + x) * (1 : Nat))
 (0 : UInt8) ^^^
 b8 y))))).fst.b.a5)
 (etDecode
 (List.take (List.length x_1)
 (List.drop (0 : Nat)
 (List.set x_1 ((0 : Nat) + Int.toNat ((54 : Int) + x) * (1 : Nat))
 (List.getD x_1 ((0 : Nat) + Int.toNat ((54 : Int) + x) * (1 : Nat))
 (0 : UInt8) ^^^
 b8 y))))).fst.ty
 (etDecode
 (List.take (List.length x_1)
 (List.drop (0 : Nat)
 (List.set x_1 ((0 : Nat) + Int.toNat ((54 : Int) + x) * (1 : Nat))
 (List.getD x_1 ((0 : Nat) + Int.toNat ((54 : Int) + x) * (1 : Nat))
 (0 : UInt8) ^^^
 b8 y))))).fst.body)).fst.addr =
 []) &&
 (decide
 ((nbRead
 (Fm.mk
 (Mc.mk
 (etDecode
 (List.take (List.length x_1)
 (List.drop (0 : Nat)
 (List.set x_1 ((0 : Nat) + Int.toNat ((54 : Int) + x) * (1 : Nat))
 (List.getD x_1 ((0 : Nat) + Int.toNat ((54 : Int) + x) * (1 : Nat))
 (0 : UInt8) ^^^
 b8 y))))).fst.a.a0
 (etDecode
 (List.take (List.length x_1)
 (List.drop (0 : Nat)
 (List.set x_1 ((0 : Nat) + Int.toNat ((54 : Int) + x) * (1 : Nat))
 (List.getD x_1 ((0 : Nat) + Int.toNat ((54 : Int) + x) * (1 : Nat))
 (0 : UInt8) ^^^
 b8 y))))).fst.a.a1
 (etDecode
 (List.take (List.length x_1)
 (List.drop (0 : Nat)
 (List.set x_1 ((0 : Nat) + Int.toNat ((54 : Int) + x) * (1 : Nat))
 (List.getD x_1 ((0 : Nat) + Int.toNat ((54 : Int) + x) * (1 : Nat))
 (0 : UInt8) ^^^
 b8 y))))).fst.a.a2
 (etDecode
 (List.take (List.length x_1)
 (List.drop (0 : Nat)
 (List.set x_1 ((0 : Nat) + Int.toNat ((54 : Int) + x) * (1 : Nat))
 (List.getD x_1 ((0 : Nat) + Int.toNat ((54 : Int) + x) * (1 : Nat))
 (0 : UInt8) ^^^
 b8 y))))).fst.a.a3
 (etDecode
 (List.take (List.length x_1)
 (List.drop (0 : Nat)
 (List.set x_1 ((0 : Nat) + Int.toNat ((54 : Int) + x) * (1 : Nat))
 (List.getD x_1 ((0 : Nat) + Int.toNat ((54 : Int) + x) * (1 : Nat))
 (0 : UInt8) ^^^
 b8 y))))).fst.a.a4
 (etDecode
 (List.take (List.length x_1)
 (List.drop (0 : Nat)
 (List.set x_1 ((0 : Nat) + Int.toNat ((54 : Int) + x) * (1 : Nat))
 (List.getD x_1 ((0 : Nat) + Int.toNat ((54 : Int) + x) * (1 : Nat))
 (0 : UInt8) ^^^
 b8 y))))).fst.a.a5)
 (Mc.mk
 (etDecode
 (List.take (List.length x_1)
 (List.drop (0 : Nat)
 (List.set x_1 ((0 : Nat) + Int.toNat ((54 : Int) + x) * (1 : Nat))
 (List.getD x_1 ((0 : Nat) + Int.toNat ((54 : Int) + x) * (1 : Nat))
 (0 : UInt8) ^^^
 b8 y))))).fst.b.a0
 (etDecode
 (List.take (List.length x_1)
 (List.drop (0 : Nat)
 (List.set x_1 ((0 : Nat) + Int.toNat ((54 : Int) + x) * (1 : Nat))
 (List.getD x_1 ((0 : Nat) + Int.toNat ((54 : Int) + x) * (1 : Nat))
 (0 : UInt8) ^^^
 b8 y))))).fst.b.a1
 (etDecode
 (List.take (List.length x_1)
 (List.drop (0 : Nat)
 (List.set x_1 ((0 : Nat) + Int.toNat ((54 : Int) + x) * (1 : Nat))
 (List.getD x_1 ((0 : Nat) + Int.toNat ((54 : Int) + x) * (1 : Nat))
 (0 : UInt8) ^^^
 b8 y))))).fst.b.a2
 (etDecode
 (List.take (List.length x_1)
 (List.drop (0 : Nat)
 (List.set x_1 ((0 : Nat) + Int.toNat ((54 : Int) + x) * (1 : Nat))
 (List.getD x_1 ((0 : Nat) + Int.toNat ((54 : Int) + x) * (1 : Nat))
 (0 : UInt8) ^^^
 b8 y))))).fst.b.a3
 (etDecode
 (List.take (List.length x_1)
 (List.drop (0 : Nat)
 (List.set x_1 ((0 : Nat) + Int.toNat ((54 : Int) + x) * (1 : Nat))
 (List.getD x_1 ((0 : Nat) + Int.toNat ((54 : Int) + x) * (1 : Nat))
 (0 : UInt8) ^^^
 b8 y))))).fst.b.a4
 (etDecode
 (List.take (List.length x_1)
 (List.drop (0 : Nat)
 (List.set x_1 ((0 : Nat) + Int.toNat ((54 : Int) + x) * (1 : Nat))
 (List.getD x_1 ((0 : Nat) + Int.toNat ((54 : Int) + x) * (1 : Nat))
 (0 : UInt8) ^^^
 b8 y))))).fst.b.a5)
 (etDecode
 (List.take (List.length x_1)
 (List.drop (0 : Nat)
 (List.set x_1 ((0 : Nat) + Int.toNat ((54 : Int) + x) * (1 : Nat))
 (List.getD x_1 ((0 : Nat) + Int.toNat ((54 : Int) + x) * (1 : Nat))
 (0 : UInt8) ^^^
 b8 y))))).fst.ty
 (etDecode
 (List.take (List.length x_1)
 (List.drop (0 : Nat)
 (List.set x_1 ((0 : Nat) + Int.toNat ((54 : Int) + x) * (1 : Nat))
 (List.getD x_1 ((0 : Nat) + Int.toNat ((54 : Int) + x) * (1 : Nat))
 (0 : UInt8) ^^^
 b8 y))))).fst.body)).fst.target =
 []) &&
 decide
 ((nbRead
 (Fm.mk
 (Mc.mk
 (etDecode
 (List.take (List.length x_1)
 (List.drop (0 : Nat)
 (List.set x_1 ((0 : Nat) + Int.toNat ((54 : Int) + x) * (1 : Nat))
 (List.getD x_1 ((0 : Nat) + Int.toNat ((54 : Int) + x) * (1 : Nat))
 (0 : UInt8) ^^^
 b8 y))))).fst.a.a0
 (etDecode
 (List.take (List.length x_1)
 (List.drop (0 : Nat)
 (List.set x_1 ((0 : Nat) + Int.toNat ((54 : Int) + x) * (1 : Nat))
 (List.getD x_1 ((0 : Nat) + Int.toNat ((54 : Int) + x) * (1 : Nat))
 (0 : UInt8) ^^^
 b8 y))))).fst.a.a1
 (etDecode
 (List.take (List.length x_1)
 (List.drop (0 : Nat)
 (List.set x_1 ((0 : Nat) + Int.toNat ((54 : Int) + x) * (1 : Nat))
 (List.getD x_1 ((0 : Nat) + Int.toNat ((54 : Int) + x) * (1 : Nat))
 (0 : UInt8) ^^^
 b8 y))))).fst.a.a2
 (etDecode
 (List.take (List.length x_1)
 (List.drop (0 : Nat)
 (List.set x_1 ((0 : Nat) + Int.toNat ((54 : Int) + x) * (1 : Nat))
 (List.getD x_1 ((0 : Nat) + Int.toNat ((54 : Int) + x) * (1 : Nat))
 (0 : UInt8) ^^^
 b8 y))))).fst.a.a3
 (etDecode
 (List.take (List.length x_1)
 (List.drop (0 : Nat)
 (List.set x_1 ((0 : Nat) + Int.toNat ((54 : Int) + x) * (1 : Nat))
 (List.getD x_1 ((0 : Nat) + Int.toNat ((54 : Int) + x) * (1 : Nat))
 (0 : UInt8) ^^^
 b8 y))))).fst.a.a4
 (etDecode
 (List.take (List.length x_1)
 (List.drop (0 : Nat)
 (List.set x_1 ((0 : Nat) + Int.toNat ((54 : Int) + x) * (1 : Nat))
 (List.getD x_1 ((0 : Nat) + Int.toNat ((54 : Int) + x) * (1 : Nat))
 (0 : UInt8) ^^^
 b8 y))))).fst.a.a5)
 (Mc.mk
 (etDecode
 (List.take (List.length x_1)
 (List.drop (0 : Nat)
 (List.set x_1 ((0 : Nat) + Int.toNat ((54 : Int) + x) * (1 : Nat))
 (List.getD x_1 ((0 : Nat) + Int.toNat ((54 : Int) + x) * (1 : Nat))
 (0 : UInt8) ^^^
 b8 y))))).fst.b.a0
 (etDecode
 (List.take (List.length x_1)
 (List.drop (0 : Nat)
 (List.set x_1 ((0 : Nat) + Int.toNat ((54 : Int) + x) * (1 : Nat))
 (List.getD x_1 ((0 : Nat) + Int.toNat ((54 : Int) + x) * (1 : Nat))
 (0 : UInt8) ^^^
 b8 y))))).fst.b.a1
 (etDecode
 (List.take (List.length x_1)
 (List.drop (0 : Nat)
 (List.set x_1 ((0 : Nat) + Int.toNat ((54 : Int) + x) * (1 : Nat))
 (List.getD x_1 ((0 : Nat) + Int.toNat ((54 : Int) + x) * (1 : Nat))
 (0 : UInt8) ^^^
 b8 y))))).fst.b.a2
 (etDecode
 (List.take (List.length x_1)
 (List.drop (0 : Nat)
 (List.set x_1 ((0 : Nat) + Int.toNat ((54 : Int) + x) * (1 : Nat))
 (List.getD x_1 ((0 : Nat) + Int.toNat ((54 : Int) + x) * (1 : Nat))
 (0 : UInt8) ^^^
 b8 y))))).fst.b.a3
 (etDecode
 (List.take (List.length x_1)
 (List.drop (0 : Nat)
 (List.set x_1 ((0 : Nat) + Int.toNat ((54 : Int) + x) * (1 : Nat))
 (List.getD x_1 ((0 : Nat) + Int.toNat ((54 : Int) + x) * (1 : Nat))
 (0 : UInt8) ^^^
 b8 y))))).fst.b.a4
 (etDecode
 (List.take (List.length x_1)
 (List.drop (0 : Nat)
 (List.set x_1 ((0 : Nat) + Int.toNat ((54 : Int) + x) * (1 : Nat))
 (List.getD x_1 ((0 : Nat) + Int.toNat ((54 : Int) + x) * (1 : Nat))
 (0 : UInt8) ^^^
 b8 y))))).fst.b.a5)
 (etDecode
 (List.take (List.length x_1)
 (List.drop (0 : Nat)
 (List.set x_1 ((0 : Nat) + Int.toNat ((54 : Int) + x) * (1 : Nat))
 (List.getD x_1 ((0 : Nat) + Int.toNat ((54 : Int) + x) * (1 : Nat))
 (0 : UInt8) ^^^
 b8 y))))).fst.ty
 (etDecode
 (List.take (List.length x_1)
 (List.drop (0 : Nat)
 (List.set x_1 ((0 : Nat) + Int.toNat ((54 : Int) + x) * (1 : Nat))
 (List.getD x_1 ((0 : Nat) + Int.toNat ((54 : Int) + x) * (1 : Nat))
 (0 : UInt8) ^^^
 b8 y))))).fst.body)).fst.asked =
 false)))))))))))
 [])
 (K (AVal.bool false) []))
 (K (AVal.bool false) []))
 (brP
 (decide
 ((nbRead
 (Fm.mk
 (Mc.mk (etDecode (List.take (List.length x_1) (List.drop (0 : Nat) x_1))).fst.a.a0
 (etDecode (List.take (List.length x_1) (List.drop (0 : Nat) x_1))).fst.a.a1
 (etDecode (List.take (List.length x_1) (List.drop (0 : Nat) x_1))).fst.a.a2
 (etDecode (List.take (List.length x_1) (List.drop (0 : Nat) x_1))).fst.a.a3
 (etDecode (List.take (List.length x_1) (List.drop (0 : Nat) x_1))).fst.a.a4
 (etDecode (List.take (List.length x_1) (List.drop (0 : Nat) x_1))).fst.a.a5)
 (Mc.mk (etDecode (List.take (List.length x_1) (List.drop (0 : Nat) x_1))).fst.b.a0
 (etDecode (List.take (List.length x_1) (List.drop (0 : Nat) x_1))).fst.b.a1
 (etDecode (List.take (List.length x_1) (List.drop (0 : Nat) x_1))).fst.b.a2
 (etDecode (List.take (List.length x_1) (List.drop (0 : Nat) x_1))).fst.b.a3
 (etDecode (List.take (List.length x_1) (List.drop (0 : Nat) x_1))).fst.b.a4
 (etDecode (List.take (List.length x_1) (List.drop (0 : Nat) x_1))).fst.b.a5)
 (etDecode (List.take (List.length x_1) (List.drop (0 : Nat) x_1))).fst.ty
 (etDecode
 (List.take (List.length x_1) (List.drop (0 : Nat) x_1))).fst.body)).fst.kind =
 (2 : Int)))
 (K
 (AVal.bool
 (decide
 ((nbRead
 (Fm.mk
 (Mc.mk
 (etDecode
 (List.take (List.length x_1)
 (List.drop (0 : Nat)
 (List.set x_1 ((0 : Nat) + Int.toNat ((54 : Int) + x) * (1 : Nat))
 (List.getD x_1 ((0 : Nat) + Int.toNat ((54 : Int) + x) * (1 : Nat))
 (0 : UInt8) ^^^
 b8 y))))).fst.a.a0
 (etDecode
 (List.take (List.length x_1)
 (List.drop (0 : Nat)
 (List.set x_1 ((0 : Nat) + Int.toNat ((54 : Int) + x) * (1 : Nat))
 (List.getD x_1 ((0 : Nat) + Int.toNat ((54 : Int) + x) * (1 : Nat))
 (0 : UInt8) ^^^
 b8 y))))).fst.a.a1
 (etDecode
 (List.take (List.length x_1)
 (List.drop (0 : Nat)
 (List.set x_1 ((0 : Nat) + Int.toNat ((54 : Int) + x) * (1 : Nat))
 (List.getD x_1 ((0 : Nat) + Int.toNat ((54 : Int) + x) * (1 : Nat))
 (0 : UInt8) ^^^
 b8 y))))).fst.a.a2
 (etDecode
 (List.take (List.length x_1)
 (List.drop (0 : Nat)
 (List.set x_1 ((0 : Nat) + Int.toNat ((54 : Int) + x) * (1 : Nat))
 (List.getD x_1 ((0 : Nat) + Int.toNat ((54 : Int) + x) * (1 : Nat))
 (0 : UInt8) ^^^
 b8 y))))).fst.a.a3
 (etDecode
 (List.take (List.length x_1)
 (List.drop (0 : Nat)
 (List.set x_1 ((0 : Nat) + Int.toNat ((54 : Int) + x) * (1 : Nat))
 (List.getD x_1 ((0 : Nat) + Int.toNat ((54 : Int) + x) * (1 : Nat))
 (0 : UInt8) ^^^
 b8 y))))).fst.a.a4
 (etDecode
 (List.take (List.length x_1)
 (List.drop (0 : Nat)
 (List.set x_1 ((0 : Nat) + Int.toNat ((54 : Int) + x) * (1 : Nat))
 (List.getD x_1 ((0 : Nat) + Int.toNat ((54 : Int) + x) * (1 : Nat))
 (0 : UInt8) ^^^
 b8 y))))).fst.a.a5)
 (Mc.mk
 (etDecode
 (List.take (List.length x_1)
 (List.drop (0 : Nat)
 (List.set x_1 ((0 : Nat) + Int.toNat ((54 : Int) + x) * (1 : Nat))
 (List.getD x_1 ((0 : Nat) + Int.toNat ((54 : Int) + x) * (1 : Nat))
 (0 : UInt8) ^^^
 b8 y))))).fst.b.a0
 (etDecode
 (List.take (List.length x_1)
 (List.drop (0 : Nat)
 (List.set x_1 ((0 : Nat) + Int.toNat ((54 : Int) + x) * (1 : Nat))
 (List.getD x_1 ((0 : Nat) + Int.toNat ((54 : Int) + x) * (1 : Nat))
 (0 : UInt8) ^^^
 b8 y))))).fst.b.a1
 (etDecode
 (List.take (List.length x_1)
 (List.drop (0 : Nat)
 (List.set x_1 ((0 : Nat) + Int.toNat ((54 : Int) + x) * (1 : Nat))
 (List.getD x_1 ((0 : Nat) + Int.toNat ((54 : Int) + x) * (1 : Nat))
 (0 : UInt8) ^^^
 b8 y))))).fst.b.a2
 (etDecode
 (List.take (List.length x_1)
 (List.drop (0 : Nat)
 (List.set x_1 ((0 : Nat) + Int.toNat ((54 : Int) + x) * (1 : Nat))
 (List.getD x_1 ((0 : Nat) + Int.toNat ((54 : Int) + x) * (1 : Nat))
 (0 : UInt8) ^^^
 b8 y))))).fst.b.a3
 (etDecode
 (List.take (List.length x_1)
 (List.drop (0 : Nat)
 (List.set x_1 ((0 : Nat) + Int.toNat ((54 : Int) + x) * (1 : Nat))
 (List.getD x_1 ((0 : Nat) + Int.toNat ((54 : Int) + x) * (1 : Nat))
 (0 : UInt8) ^^^
 b8 y))))).fst.b.a4
 (etDecode
 (List.take (List.length x_1)
 (List.drop (0 : Nat)
 (List.set x_1 ((0 : Nat) + Int.toNat ((54 : Int) + x) * (1 : Nat))
 (List.getD x_1 ((0 : Nat) + Int.toNat ((54 : Int) + x) * (1 : Nat))
 (0 : UInt8) ^^^
 b8 y))))).fst.b.a5)
 (etDecode
 (List.take (List.length x_1)
 (List.drop (0 : Nat)
 (List.set x_1 ((0 : Nat) + Int.toNat ((54 : Int) + x) * (1 : Nat))
 (List.getD x_1 ((0 : Nat) + Int.toNat ((54 : Int) + x) * (1 : Nat))
 (0 : UInt8) ^^^
 b8 y))))).fst.ty
 (etDecode
 (List.take (List.length x_1)
 (List.drop (0 : Nat)
 (List.set x_1 ((0 : Nat) + Int.toNat ((54 : Int) + x) * (1 : Nat))
 (List.getD x_1 ((0 : Nat) + Int.toNat ((54 : Int) + x) * (1 : Nat))
 (0 : UInt8) ^^^
 b8 y))))).fst.body)).fst.kind =
 (0 : Int)) &&
 (decide
 ((nbRead
 (Fm.mk
 (Mc.mk
 (etDecode
 (List.take (List.length x_1)
 (List.drop (0 : Nat)
 (List.set x_1 ((0 : Nat) + Int.toNat ((54 : Int) + x) * (1 : Nat))
 (List.getD x_1 ((0 : Nat) + Int.toNat ((54 : Int) + x) * (1 : Nat))
 (0 : UInt8) ^^^
 b8 y))))).fst.a.a0
 (etDecode
 (List.take (List.length x_1)
 (List.drop (0 : Nat)
 (List.set x_1 ((0 : Nat) + Int.toNat ((54 : Int) + x) * (1 : Nat))
 (List.getD x_1 ((0 : Nat) + Int.toNat ((54 : Int) + x) * (1 : Nat))
 (0 : UInt8) ^^^
 b8 y))))).fst.a.a1
 (etDecode
 (List.take (List.length x_1)
 (List.drop (0 : Nat)
 (List.set x_1 ((0 : Nat) + Int.toNat ((54 : Int) + x) * (1 : Nat))
 (List.getD x_1 ((0 : Nat) + Int.toNat ((54 : Int) + x) * (1 : Nat))
 (0 : UInt8) ^^^
 b8 y))))).fst.a.a2
 (etDecode
 (List.take (List.length x_1)
 (List.drop (0 : Nat)
 (List.set x_1 ((0 : Nat) + Int.toNat ((54 : Int) + x) * (1 : Nat))
 (List.getD x_1 ((0 : Nat) + Int.toNat ((54 : Int) + x) * (1 : Nat))
 (0 : UInt8) ^^^
 b8 y))))).fst.a.a3
 (etDecode
 (List.take (List.length x_1)
 (List.drop (0 : Nat)
 (List.set x_1 ((0 : Nat) + Int.toNat ((54 : Int) + x) * (1 : Nat))
 (List.getD x_1 ((0 : Nat) + Int.toNat ((54 : Int) + x) * (1 : Nat))
 (0 : UInt8) ^^^
 b8 y))))).fst.a.a4
 (etDecode
 (List.take (List.length x_1)
 (List.drop (0 : Nat)
 (List.set x_1 ((0 : Nat) + Int.toNat ((54 : Int) + x) * (1 : Nat))
 (List.getD x_1 ((0 : Nat) + Int.toNat ((54 : Int) + x) * (1 : Nat))
 (0 : UInt8) ^^^
 b8 y))))).fst.a.a5)
 (Mc.mk
 (etDecode
 (List.take (List.length x_1)
 (List.drop (0 : Nat)
 (List.set x_1 ((0 : Nat) + Int.toNat ((54 : Int) + x) * (1 : Nat))
 (List.getD x_1 ((0 : Nat) + Int.toNat ((54 : Int) + x) * (1 : Nat))
 (0 : UInt8) ^^^
 b8 y))))).fst.b.a0
 (etDecode
 (List.take (List.length x_1)
 (List.drop (0 : Nat)
 (List.set x_1 ((0 : Nat) + Int.toNat ((54 : Int) + x) * (1 : Nat))
 (List.getD x_1 ((0 : Nat) + Int.toNat ((54 : Int) + x) * (1 : Nat))
 (0 : UInt8) ^^^
 b8 y))))).fst.b.a1
 (etDecode
 (List.take (List.length x_1)
 (List.drop (0 : Nat)
 (List.set x_1 ((0 : Nat) + Int.toNat ((54 : Int) + x) * (1 : Nat))
 (List.getD x_1 ((0 : Nat) + Int.toNat ((54 : Int) + x) * (1 : Nat))
 (0 : UInt8) ^^^
 b8 y))))).fst.b.a2
 (etDecode
 (List.take (List.length x_1)
 (List.drop (0 : Nat)
 (List.set x_1 ((0 : Nat) + Int.toNat ((54 : Int) + x) * (1 : Nat))
 (List.getD x_1 ((0 : Nat) + Int.toNat ((54 : Int) + x) * (1 : Nat))
 (0 : UInt8) ^^^
 b8 y))))).fst.b.a3
 (etDecode
 (List.take (List.length x_1)
 (List.drop (0 : Nat)
 (List.set x_1 ((0 : Nat) + Int.toNat ((54 : Int) + x) * (1 : Nat))
 (List.getD x_1 ((0 : Nat) + Int.toNat ((54 : Int) + x) * (1 : Nat))
 (0 : UInt8) ^^^
 b8 y))))).fst.b.a4
 (etDecode
 (List.take (List.length x_1)
 (List.drop (0 : Nat)
 (List.set x_1 ((0 : Nat) + Int.toNat ((54 : Int) + x) * (1 : Nat))
 (List.getD x_1 ((0 : Nat) + Int.toNat ((54 : Int) + x) * (1 : Nat))
 (0 : UInt8) ^^^
 b8 y))))).fst.b.a5)
 (etDecode
 (List.take (List.length x_1)
 (List.drop (0 : Nat)
 (List.set x_1 ((0 : Nat) + Int.toNat ((54 : Int) + x) * (1 : Nat))
 (List.getD x_1 ((0 : Nat) + Int.toNat ((54 : Int) + x) * (1 : Nat))
 (0 : UInt8) ^^^
 b8 y))))).fst.ty
 (etDecode
 (List.take (List.length x_1)
 (List.drop (0 : Nat)
 (List.set x_1 ((0 : Nat) + Int.toNat ((54 : Int) + x) * (1 : Nat))
 (List.getD x_1 ((0 : Nat) + Int.toNat ((54 : Int) + x) * (1 : Nat))
 (0 : UInt8) ^^^
 b8 y))))).fst.body)).fst.mac.a0 =
 (0 : UInt8)) &&
 (decide
 ((nbRead
 (Fm.mk
 (Mc.mk
 (etDecode
 (List.take (List.length x_1)
 (List.drop (0 : Nat)
 (List.set x_1 ((0 : Nat) + Int.toNat ((54 : Int) + x) * (1 : Nat))
 (List.getD x_1 ((0 : Nat) + Int.toNat ((54 : Int) + x) * (1 : Nat))
 (0 : UInt8) ^^^
 b8 y))))).fst.a.a0
 (etDecode
 (List.take (List.length x_1)
 (List.drop (0 : Nat)
 (List.set x_1 ((0 : Nat) + Int.toNat ((54 : Int) + x) * (1 : Nat))
 (List.getD x_1 ((0 : Nat) + Int.toNat ((54 : Int) + x) * (1 : Nat))
 (0 : UInt8) ^^^
 b8 y))))).fst.a.a1
 (etDecode
 (List.take (List.length x_1)
 (List.drop (0 : Nat)
 (List.set x_1 ((0 : Nat) + Int.toNat ((54 : Int) + x) * (1 : Nat))
 (List.getD x_1 ((0 : Nat) + Int.toNat ((54 : Int) + x) * (1 : Nat))
 (0 : UInt8) ^^^
 b8 y))))).fst.a.a2
 (etDecode
 (List.take (List.length x_1)
 (List.drop (0 : Nat)
 (List.set x_1 ((0 : Nat) + Int.toNat ((54 : Int) + x) * (1 : Nat))
 (List.getD x_1 ((0 : Nat) + Int.toNat ((54 : Int) + x) * (1 : Nat))
 (0 : UInt8) ^^^
 b8 y))))).fst.a.a3
 (etDecode
 (List.take (List.length x_1)
 (List.drop (0 : Nat)
 (List.set x_1 ((0 : Nat) + Int.toNat ((54 : Int) + x) * (1 : Nat))
 (List.getD x_1 ((0 : Nat) + Int.toNat ((54 : Int) + x) * (1 : Nat))
 (0 : UInt8) ^^^
 b8 y))))).fst.a.a4
 (etDecode
 (List.take (List.length x_1)
 (List.drop (0 : Nat)
 (List.set x_1 ((0 : Nat) + Int.toNat ((54 : Int) + x) * (1 : Nat))
 (List.getD x_1 ((0 : Nat) + Int.toNat ((54 : Int) + x) * (1 : Nat))
 (0 : UInt8) ^^^
 b8 y))))).fst.a.a5)
 (Mc.mk
 (etDecode
 (List.take (List.length x_1)
 (List.drop (0 : Nat)
 (List.set x_1 ((0 : Nat) + Int.toNat ((54 : Int) + x) * (1 : Nat))
 (List.getD x_1 ((0 : Nat) + Int.toNat ((54 : Int) + x) * (1 : Nat))
 (0 : UInt8) ^^^
 b8 y))))).fst.b.a0
 (etDecode
 (List.take (List.length x_1)
 (List.drop (0 : Nat)
 (List.set x_1 ((0 : Nat) + Int.toNat ((54 : Int) + x) * (1 : Nat))
 (List.getD x_1 ((0 : Nat) + Int.toNat ((54 : Int) + x) * (1 : Nat))
 (0 : UInt8) ^^^
 b8 y))))).fst.b.a1
 (etDecode
 (List.take (List.length x_1)
 (List.drop (0 : Nat)
 (List.set x_1 ((0 : Nat) + Int.toNat ((54 : Int) + x) * (1 : Nat))
 (List.getD x_1 ((0 : Nat) + Int.toNat ((54 : Int) + x) * (1 : Nat))
 (0 : UInt8) ^^^
 b8 y))))).fst.b.a2
 (etDecode
 (List.take (List.length x_1)
 (List.drop (0 : Nat)
 (List.set x_1 ((0 : Nat) + Int.toNat ((54 : Int) + x) * (1 : Nat))
 (List.getD x_1 ((0 : Nat) + Int.toNat ((54 : Int) + x) * (1 : Nat))
 (0 : UInt8) ^^^
 b8 y))))).fst.b.a3
 (etDecode
 (List.take (List.length x_1)
 (List.drop (0 : Nat)
 (List.set x_1 ((0 : Nat) + Int.toNat ((54 : Int) + x) * (1 : Nat))
 (List.getD x_1 ((0 : Nat) + Int.toNat ((54 : Int) + x) * (1 : Nat))
 (0 : UInt8) ^^^
 b8 y))))).fst.b.a4
 (etDecode
 (List.take (List.length x_1)
 (List.drop (0 : Nat)
 (List.set x_1 ((0 : Nat) + Int.toNat ((54 : Int) + x) * (1 : Nat))
 (List.getD x_1 ((0 : Nat) + Int.toNat ((54 : Int) + x) * (1 : Nat))
 (0 : UInt8) ^^^
 b8 y))))).fst.b.a5)
 (etDecode
 (List.take (List.length x_1)
 (List.drop (0 : Nat)
 (List.set x_1 ((0 : Nat) + Int.toNat ((54 : Int) + x) * (1 : Nat))
 (List.getD x_1 ((0 : Nat) + Int.toNat ((54 : Int) + x) * (1 : Nat))
 (0 : UInt8) ^^^
 b8 y))))).fst.ty
 (etDecode
 (List.take (List.length x_1)
 (List.drop (0 : Nat)
 (List.set x_1 ((0 : Nat) + Int.toNat ((54 : Int) + x) * (1 : Nat))
 (List.getD x_1 ((0 : Nat) + Int.toNat ((54 : Int) + x) * (1 : Nat))
 (0 : UInt8) ^^^
 b8 y))))).fst.body)).fst.mac.a1 =
 (0 : UInt8)) &&
 (decide
 ((nbRead
 (Fm.mk
 (Mc.mk
 (etDecode
 (List.take (List.length x_1)
 (List.drop (0 : Nat)
 (List.set x_1 ((0 : Nat) + Int.toNat ((54 : Int) + x) * (1 : Nat))
 (List.getD x_1 ((0 : Nat) + Int.toNat ((54 : Int) + x) * (1 : Nat))
 (0 : UInt8) ^^^
 b8 y))))).fst.a.a0
 (etDecode
 (List.take (List.length x_1)
 (List.drop (0 : Nat)
 (List.set x_1 ((0 : Nat) + Int.toNat ((54 : Int) + x) * (1 : Nat))
 (List.getD x_1 ((0 : Nat) + Int.toNat ((54 : Int) + x) * (1 : Nat))
 (0 : UInt8) ^^^
 b8 y))))).fst.a.a1
 (etDecode
 (List.take (List.length x_1)
 (List.drop (0 : Nat)
 (List.set x_1 ((0 : Nat) + Int.toNat ((54 : Int) + x) * (1 : Nat))
 (List.getD x_1 ((0 : Nat) + Int.toNat ((54 : Int) + x) * (1 : Nat))
 (0 : UInt8) ^^^
 b8 y))))).fst.a.a2
 (etDecode
 (List.take (List.length x_1)
 (List.drop (0 : Nat)
 (List.set x_1 ((0 : Nat) + Int.toNat ((54 : Int) + x) * (1 : Nat))
 (List.getD x_1 ((0 : Nat) + Int.toNat ((54 : Int) + x) * (1 : Nat))
 (0 : UInt8) ^^^
 b8 y))))).fst.a.a3
 (etDecode
 (List.take (List.length x_1)
 (List.drop (0 : Nat)
 (List.set x_1 ((0 : Nat) + Int.toNat ((54 : Int) + x) * (1 : Nat))
 (List.getD x_1 ((0 : Nat) + Int.toNat ((54 : Int) + x) * (1 : Nat))
 (0 : UInt8) ^^^
 b8 y))))).fst.a.a4
 (etDecode
 (List.take (List.length x_1)
 (List.drop (0 : Nat)
 (List.set x_1 ((0 : Nat) + Int.toNat ((54 : Int) + x) * (1 : Nat))
 (List.getD x_1 ((0 : Nat) + Int.toNat ((54 : Int) + x) * (1 : Nat))
 (0 : UInt8) ^^^
 b8 y))))).fst.a.a5)
 (Mc.mk
 (etDecode
 (List.take (List.length x_1)
 (List.drop (0 : Nat)
 (List.set x_1 ((0 : Nat) + Int.toNat ((54 : Int) + x) * (1 : Nat))
 (List.getD x_1 ((0 : Nat) + Int.toNat ((54 : Int) + x) * (1 : Nat))
 (0 : UInt8) ^^^
 b8 y))))).fst.b.a0
 (etDecode
 (List.take (List.length x_1)
 (List.drop (0 : Nat)
 (List.set x_1 ((0 : Nat) + Int.toNat ((54 : Int) + x) * (1 : Nat))
 (List.getD x_1 ((0 : Nat) + Int.toNat ((54 : Int) + x) * (1 : Nat))
 (0 : UInt8) ^^^
 b8 y))))).fst.b.a1
 (etDecode
 (List.take (List.length x_1)
 (List.drop (0 : Nat)
 (List.set x_1 ((0 : Nat) + Int.toNat ((54 : Int) + x) * (1 : Nat))
 (List.getD x_1 ((0 : Nat) + Int.toNat ((54 : Int) + x) * (1 : Nat))
 (0 : UInt8) ^^^
 b8 y))))).fst.b.a2
 (etDecode
 (List.take (List.length x_1)
 (List.drop (0 : Nat)
 (List.set x_1 ((0 : Nat) + Int.toNat ((54 : Int) + x) * (1 : Nat))
 (List.getD x_1 ((0 : Nat) + Int.toNat ((54 : Int) + x) * (1 : Nat))
 (0 : UInt8) ^^^
 b8 y))))).fst.b.a3
 (etDecode
 (List.take (List.length x_1)
 (List.drop (0 : Nat)
 (List.set x_1 ((0 : Nat) + Int.toNat ((54 : Int) + x) * (1 : Nat))
 (List.getD x_1 ((0 : Nat) + Int.toNat ((54 : Int) + x) * (1 : Nat))
 (0 : UInt8) ^^^
 b8 y))))).fst.b.a4
 (etDecode
 (List.take (List.length x_1)
 (List.drop (0 : Nat)
 (List.set x_1 ((0 : Nat) + Int.toNat ((54 : Int) + x) * (1 : Nat))
 (List.getD x_1 ((0 : Nat) + Int.toNat ((54 : Int) + x) * (1 : Nat))
 (0 : UInt8) ^^^
 b8 y))))).fst.b.a5)
 (etDecode
 (List.take (List.length x_1)
 (List.drop (0 : Nat)
 (List.set x_1 ((0 : Nat) + Int.toNat ((54 : Int) + x) * (1 : Nat))
 (List.getD x_1 ((0 : Nat) + Int.toNat ((54 : Int) + x) * (1 : Nat))
 (0 : UInt8) ^^^
 b8 y))))).fst.ty
 (etDecode
 (List.take (List.length x_1)
 (List.drop (0 : Nat)
 (List.set x_1 ((0 : Nat) + Int.toNat ((54 : Int) + x) * (1 : Nat))
 (List.getD x_1 ((0 : Nat) + Int.toNat ((54 : Int) + x) * (1 : Nat))
 (0 : UInt8) ^^^
 b8 y))))).fst.body)).fst.mac.a2 =
 (0 : UInt8)) &&
 (decide
 ((nbRead
 (Fm.mk
 (Mc.mk
 (etDecode
 (List.take (List.length x_1)
 (List.drop (0 : Nat)
 (List.set x_1 ((0 : Nat) + Int.toNat ((54 : Int) + x) * (1 : Nat))
 (List.getD x_1 ((0 : Nat) + Int.toNat ((54 : Int) + x) * (1 : Nat))
 (0 : UInt8) ^^^
 b8 y))))).fst.a.a0
 (etDecode
 (List.take (List.length x_1)
 (List.drop (0 : Nat)
 (List.set x_1 ((0 : Nat) + Int.toNat ((54 : Int) + x) * (1 : Nat))
 (List.getD x_1 ((0 : Nat) + Int.toNat ((54 : Int) + x) * (1 : Nat))
 (0 : UInt8) ^^^
 b8 y))))).fst.a.a1
 (etDecode
 (List.take (List.length x_1)
 (List.drop (0 : Nat)
 (List.set x_1 ((0 : Nat) + Int.toNat ((54 : Int) + x) * (1 : Nat))
 (List.getD x_1 ((0 : Nat) + Int.toNat ((54 : Int) + x) * (1 : Nat))
 (0 : UInt8) ^^^
 b8 y))))).fst.a.a2
 (etDecode
 (List.take (List.length x_1)
 (List.drop (0 : Nat)
 (List.set x_1 ((0 : Nat) + Int.toNat ((54 : Int) + x) * (1 : Nat))
 (List.getD x_1 ((0 : Nat) + Int.toNat ((54 : Int) + x) * (1 : Nat))
 (0 : UInt8) ^^^
 b8 y))))).fst.a.a3
 (etDecode
 (List.take (List.length x_1)
 (List.drop (0 : Nat)
 (List.set x_1 ((0 : Nat) + Int.toNat ((54 : Int) + x) * (1 : Nat))
 (List.getD x_1 ((0 : Nat) + Int.toNat ((54 : Int) + x) * (1 : Nat))
 (0 : UInt8) ^^^
 b8 y))))).fst.a.a4
 (etDecode
 (List.take (List.length x_1)
 (List.drop (0 : Nat)
 (List.set x_1 ((0 : Nat) + Int.toNat ((54 : Int) + x) * (1 : Nat))
 (List.getD x_1 ((0 : Nat) + Int.toNat ((54 : Int) + x) * (1 : Nat))
 (0 : UInt8) ^^^
 b8 y))))).fst.a.a5)
 (Mc.mk
 (etDecode
 (List.take (List.length x_1)
 (List.drop (0 : Nat)
 (List.set x_1 ((0 : Nat) + Int.toNat ((54 : Int) + x) * (1 : Nat))
 (List.getD x_1 ((0 : Nat) + Int.toNat ((54 : Int) + x) * (1 : Nat))
 (0 : UInt8) ^^^
 b8 y))))).fst.b.a0
 (etDecode
 (List.take (List.length x_1)
 (List.drop (0 : Nat)
 (List.set x_1 ((0 : Nat) + Int.toNat ((54 : Int) + x) * (1 : Nat))
 (List.getD x_1 ((0 : Nat) + Int.toNat ((54 : Int) + x) * (1 : Nat))
 (0 : UInt8) ^^^
 b8 y))))).fst.b.a1
 (etDecode
 (List.take (List.length x_1)
 (List.drop (0 : Nat)
 (List.set x_1 ((0 : Nat) + Int.toNat ((54 : Int) + x) * (1 : Nat))
 (List.getD x_1 ((0 : Nat) + Int.toNat ((54 : Int) + x) * (1 : Nat))
 (0 : UInt8) ^^^
 b8 y))))).fst.b.a2
 (etDecode
 (List.take (List.length x_1)
 (List.drop (0 : Nat)
 (List.set x_1 ((0 : Nat) + Int.toNat ((54 : Int) + x) * (1 : Nat))
 (List.getD x_1 ((0 : Nat) + Int.toNat ((54 : Int) + x) * (1 : Nat))
 (0 : UInt8) ^^^
 b8 y))))).fst.b.a3
 (etDecode
 (List.take (List.length x_1)
 (List.drop (0 : Nat)
 (List.set x_1 ((0 : Nat) + Int.toNat ((54 : Int) + x) * (1 : Nat))
 (List.getD x_1 ((0 : Nat) + Int.toNat ((54 : Int) + x) * (1 : Nat))
 (0 : UInt8) ^^^
 b8 y))))).fst.b.a4
 (etDecode
 (List.take (List.length x_1)
 (List.drop (0 : Nat)
 (List.set x_1 ((0 : Nat) + Int.toNat ((54 : Int) + x) * (1 : Nat))
 (List.getD x_1 ((0 : Nat) + Int.toNat ((54 : Int) + x) * (1 : Nat))
 (0 : UInt8) ^^^
 b8 y))))).fst.b.a5)
 (etDecode
 (List.take (List.length x_1)
 (List.drop (0 : Nat)
 (List.set x_1 ((0 : Nat) + Int.toNat ((54 : Int) + x) * (1 : Nat))
 (List.getD x_1 ((0 : Nat) + Int.toNat ((54 : Int) + x) * (1 : Nat))
 (0 : UInt8) ^^^
 b8 y))))).fst.ty
 (etDecode
 (List.take (List.length x_1)
 (List.drop (0 : Nat)
 (List.set x_1 ((0 : Nat) + Int.toNat ((54 : Int) + x) * (1 : Nat))
 (List.getD x_1 ((0 : Nat) + Int.toNat ((54 : Int) + x) * (1 : Nat))
 (0 : UInt8) ^^^
 b8 y))))).fst.body)).fst.mac.a3 =
 (0 : UInt8)) &&
 (decide
 ((nbRead
 (Fm.mk
 (Mc.mk
 (etDecode
 (List.take (List.length x_1)
 (List.drop (0 : Nat)
 (List.set x_1 ((0 : Nat) + Int.toNat ((54 : Int) + x) * (1 : Nat))
 (List.getD x_1 ((0 : Nat) + Int.toNat ((54 : Int) + x) * (1 : Nat))
 (0 : UInt8) ^^^
 b8 y))))).fst.a.a0
 (etDecode
 (List.take (List.length x_1)
 (List.drop (0 : Nat)
 (List.set x_1 ((0 : Nat) + Int.toNat ((54 : Int) + x) * (1 : Nat))
 (List.getD x_1 ((0 : Nat) + Int.toNat ((54 : Int) + x) * (1 : Nat))
 (0 : UInt8) ^^^
 b8 y))))).fst.a.a1
 (etDecode
 (List.take (List.length x_1)
 (List.drop (0 : Nat)
 (List.set x_1 ((0 : Nat) + Int.toNat ((54 : Int) + x) * (1 : Nat))
 (List.getD x_1 ((0 : Nat) + Int.toNat ((54 : Int) + x) * (1 : Nat))
 (0 : UInt8) ^^^
 b8 y))))).fst.a.a2
 (etDecode
 (List.take (List.length x_1)
 (List.drop (0 : Nat)
 (List.set x_1 ((0 : Nat) + Int.toNat ((54 : Int) + x) * (1 : Nat))
 (List.getD x_1 ((0 : Nat) + Int.toNat ((54 : Int) + x) * (1 : Nat))
 (0 : UInt8) ^^^
 b8 y))))).fst.a.a3
 (etDecode
 (List.take (List.length x_1)
 (List.drop (0 : Nat)
 (List.set x_1 ((0 : Nat) + Int.toNat ((54 : Int) + x) * (1 : Nat))
 (List.getD x_1 ((0 : Nat) + Int.toNat ((54 : Int) + x) * (1 : Nat))
 (0 : UInt8) ^^^
 b8 y))))).fst.a.a4
 (etDecode
 (List.take (List.length x_1)
 (List.drop (0 : Nat)
 (List.set x_1 ((0 : Nat) + Int.toNat ((54 : Int) + x) * (1 : Nat))
 (List.getD x_1 ((0 : Nat) + Int.toNat ((54 : Int) + x) * (1 : Nat))
 (0 : UInt8) ^^^
 b8 y))))).fst.a.a5)
 (Mc.mk
 (etDecode
 (List.take (List.length x_1)
 (List.drop (0 : Nat)
 (List.set x_1 ((0 : Nat) + Int.toNat ((54 : Int) + x) * (1 : Nat))
 (List.getD x_1 ((0 : Nat) + Int.toNat ((54 : Int) + x) * (1 : Nat))
 (0 : UInt8) ^^^
 b8 y))))).fst.b.a0
 (etDecode
 (List.take (List.length x_1)
 (List.drop (0 : Nat)
 (List.set x_1 ((0 : Nat) + Int.toNat ((54 : Int) + x) * (1 : Nat))
 (List.getD x_1 ((0 : Nat) + Int.toNat ((54 : Int) + x) * (1 : Nat))
 (0 : UInt8) ^^^
 b8 y))))).fst.b.a1
 (etDecode
 (List.take (List.length x_1)
 (List.drop (0 : Nat)
 (List.set x_1 ((0 : Nat) + Int.toNat ((54 : Int) + x) * (1 : Nat))
 (List.getD x_1 ((0 : Nat) + Int.toNat ((54 : Int) + x) * (1 : Nat))
 (0 : UInt8) ^^^
 b8 y))))).fst.b.a2
 (etDecode
 (List.take (List.length x_1)
 (List.drop (0 : Nat)
 (List.set x_1 ((0 : Nat) + Int.toNat ((54 : Int) + x) * (1 : Nat))
 (List.getD x_1 ((0 : Nat) + Int.toNat ((54 : Int) + x) * (1 : Nat))
 (0 : UInt8) ^^^
 b8 y))))).fst.b.a3
 (etDecode
 (List.take (List.length x_1)
 (List.drop (0 : Nat)
 (List.set x_1 ((0 : Nat) + Int.toNat ((54 : Int) + x) * (1 : Nat))
 (List.getD x_1 ((0 : Nat) + Int.toNat ((54 : Int) + x) * (1 : Nat))
 (0 : UInt8) ^^^
 b8 y))))).fst.b.a4
 (etDecode
 (List.take (List.length x_1)
 (List.drop (0 : Nat)
 (List.set x_1 ((0 : Nat) + Int.toNat ((54 : Int) + x) * (1 : Nat))
 (List.getD x_1 ((0 : Nat) + Int.toNat ((54 : Int) + x) * (1 : Nat))
 (0 : UInt8) ^^^
 b8 y))))).fst.b.a5)
 (etDecode
 (List.take (List.length x_1)
 (List.drop (0 : Nat)
 (List.set x_1 ((0 : Nat) + Int.toNat ((54 : Int) + x) * (1 : Nat))
 (List.getD x_1 ((0 : Nat) + Int.toNat ((54 : Int) + x) * (1 : Nat))
 (0 : UInt8) ^^^
 b8 y))))).fst.ty
 (etDecode
 (List.take (List.length x_1)
 (List.drop (0 : Nat)
 (List.set x_1 ((0 : Nat) + Int.toNat ((54 : Int) + x) * (1 : Nat))
 (List.getD x_1 ((0 : Nat) + Int.toNat ((54 : Int) + x) * (1 : Nat))
 (0 : UInt8) ^^^
 b8 y))))).fst.body)).fst.mac.a4 =
 (0 : UInt8)) &&
 (decide
 ((nbRead
 (Fm.mk
 (Mc.mk
 (etDecode
 (List.take (List.length x_1)
 (List.drop (0 : Nat)
 (List.set x_1 ((0 : Nat) + Int.toNat ((54 : Int) + x) * (1 : Nat))
 (List.getD x_1 ((0 : Nat) + Int.toNat ((54 : Int) + x) * (1 : Nat))
 (0 : UInt8) ^^^
 b8 y))))).fst.a.a0
 (etDecode
 (List.take (List.length x_1)
 (List.drop (0 : Nat)
 (List.set x_1 ((0 : Nat) + Int.toNat ((54 : Int) + x) * (1 : Nat))
 (List.getD x_1 ((0 : Nat) + Int.toNat ((54 : Int) + x) * (1 : Nat))
 (0 : UInt8) ^^^
 b8 y))))).fst.a.a1
 (etDecode
 (List.take (List.length x_1)
 (List.drop (0 : Nat)
 (List.set x_1 ((0 : Nat) + Int.toNat ((54 : Int) + x) * (1 : Nat))
 (List.getD x_1 ((0 : Nat) + Int.toNat ((54 : Int) + x) * (1 : Nat))
 (0 : UInt8) ^^^
 b8 y))))).fst.a.a2
 (etDecode
 (List.take (List.length x_1)
 (List.drop (0 : Nat)
 (List.set x_1 ((0 : Nat) + Int.toNat ((54 : Int) + x) * (1 : Nat))
 (List.getD x_1 ((0 : Nat) + Int.toNat ((54 : Int) + x) * (1 : Nat))
 (0 : UInt8) ^^^
 b8 y))))).fst.a.a3
 (etDecode
 (List.take (List.length x_1)
 (List.drop (0 : Nat)
 (List.set x_1 ((0 : Nat) + Int.toNat ((54 : Int) + x) * (1 : Nat))
 (List.getD x_1 ((0 : Nat) + Int.toNat ((54 : Int) + x) * (1 : Nat))
 (0 : UInt8) ^^^
 b8 y))))).fst.a.a4
 (etDecode
 (List.take (List.length x_1)
 (List.drop (0 : Nat)
 (List.set x_1 ((0 : Nat) + Int.toNat ((54 : Int) + x) * (1 : Nat))
 (List.getD x_1 ((0 : Nat) + Int.toNat ((54 : Int) + x) * (1 : Nat))
 (0 : UInt8) ^^^
 b8 y))))).fst.a.a5)
 (Mc.mk
 (etDecode
 (List.take (List.length x_1)
 (List.drop (0 : Nat)
 (List.set x_1 ((0 : Nat) + Int.toNat ((54 : Int) + x) * (1 : Nat))
 (List.getD x_1 ((0 : Nat) + Int.toNat ((54 : Int) + x) * (1 : Nat))
 (0 : UInt8) ^^^
 b8 y))))).fst.b.a0
 (etDecode
 (List.take (List.length x_1)
 (List.drop (0 : Nat)
 (List.set x_1 ((0 : Nat) + Int.toNat ((54 : Int) + x) * (1 : Nat))
 (List.getD x_1 ((0 : Nat) + Int.toNat ((54 : Int) + x) * (1 : Nat))
 (0 : UInt8) ^^^
 b8 y))))).fst.b.a1
 (etDecode
 (List.take (List.length x_1)
 (List.drop (0 : Nat)
 (List.set x_1 ((0 : Nat) + Int.toNat ((54 : Int) + x) * (1 : Nat))
 (List.getD x_1 ((0 : Nat) + Int.toNat ((54 : Int) + x) * (1 : Nat))
 (0 : UInt8) ^^^
 b8 y))))).fst.b.a2
 (etDecode
 (List.take (List.length x_1)
 (List.drop (0 : Nat)
 (List.set x_1 ((0 : Nat) + Int.toNat ((54 : Int) + x) * (1 : Nat))
 (List.getD x_1 ((0 : Nat) + Int.toNat ((54 : Int) + x) * (1 : Nat))
 (0 : UInt8) ^^^
 b8 y))))).fst.b.a3
 (etDecode
 (List.take (List.length x_1)
 (List.drop (0 : Nat)
 (List.set x_1 ((0 : Nat) + Int.toNat ((54 : Int) + x) * (1 : Nat))
 (List.getD x_1 ((0 : Nat) + Int.toNat ((54 : Int) + x) * (1 : Nat))
 (0 : UInt8) ^^^
 b8 y))))).fst.b.a4
 (etDecode
 (List.take (List.length x_1)
 (List.drop (0 : Nat)
 (List.set x_1 ((0 : Nat) + Int.toNat ((54 : Int) + x) * (1 : Nat))
 (List.getD x_1 ((0 : Nat) + Int.toNat ((54 : Int) + x) * (1 : Nat))
 (0 : UInt8) ^^^
 b8 y))))).fst.b.a5)
 (etDecode
 (List.take (List.length x_1)
 (List.drop (0 : Nat)
 (List.set x_1 ((0 : Nat) + Int.toNat ((54 : Int) + x) * (1 : Nat))
 (List.getD x_1 ((0 : Nat) + Int.toNat ((54 : Int) + x) * (1 : Nat))
 (0 : UInt8) ^^^
 b8 y))))).fst.ty
 (etDecode
 (List.take (List.length x_1)
 (List.drop (0 : Nat)
 (List.set x_1 ((0 : Nat) + Int.toNat ((54 : Int) + x) * (1 : Nat))
 (List.getD x_1 ((0 : Nat) + Int.toNat ((54 : Int) + x) * (1 : Nat))
 (0 : UInt8) ^^^
 b8 y))))).fst.body)).fst.mac.a5 =
 (0 : UInt8)) &&
 (decide
 ((nbRead
 (Fm.mk
 (Mc.mk
 (etDecode
 (List.take (List.length x_1)
 (List.drop (0 : Nat)
 (List.set x_1 ((0 : Nat) + Int.toNat ((54 : Int) + x) * (1 : Nat))
 (List.getD x_1 ((0 : Nat) + Int.toNat ((54 : Int) + x) * (1 : Nat))
 (0 : UInt8) ^^^
 b8 y))))).fst.a.a0
 (etDecode
 (List.take (List.length x_1)
 (List.drop (0 : Nat)
 (List.set x_1 ((0 : Nat) + Int.toNat ((54 : Int) + x) * (1 : Nat))
 (List.getD x_1 ((0 : Nat) + Int.toNat ((54 : Int) + x) * (1 : Nat))
 (0 : UInt8) ^^^
 b8 y))))).fst.a.a1
 (etDecode
 (List.take (List.length x_1)
 (List.drop (0 : Nat)
 (List.set x_1 ((0 : Nat) + Int.toNat ((54 : Int) + x) * (1 : Nat))
 (List.getD x_1 ((0 : Nat) + Int.toNat ((54 : Int) + x) * (1 : Nat))
 (0 : UInt8) ^^^
 b8 y))))).fst.a.a2
 (etDecode
 (List.take (List.length x_1)
 (List.drop (0 : Nat)
 (List.set x_1 ((0 : Nat) + Int.toNat ((54 : Int) + x) * (1 : Nat))
 (List.getD x_1 ((0 : Nat) + Int.toNat ((54 : Int) + x) * (1 : Nat))
 (0 : UInt8) ^^^
 b8 y))))).fst.a.a3
 (etDecode
 (List.take (List.length x_1)
 (List.drop (0 : Nat)
 (List.set x_1 ((0 : Nat) + Int.toNat ((54 : Int) + x) * (1 : Nat))
 (List.getD x_1 ((0 : Nat) + Int.toNat ((54 : Int) + x) * (1 : Nat))
 (0 : UInt8) ^^^
 b8 y))))).fst.a.a4
 (etDecode
 (List.take (List.length x_1)
 (List.drop (0 : Nat)
 (List.set x_1 ((0 : Nat) + Int.toNat ((54 : Int) + x) * (1 : Nat))
 (List.getD x_1 ((0 : Nat) + Int.toNat ((54 : Int) + x) * (1 : Nat))
 (0 : UInt8) ^^^
 b8 y))))).fst.a.a5)
 (Mc.mk
 (etDecode
 (List.take (List.length x_1)
 (List.drop (0 : Nat)
 (List.set x_1 ((0 : Nat) + Int.toNat ((54 : Int) + x) * (1 : Nat))
 (List.getD x_1 ((0 : Nat) + Int.toNat ((54 : Int) + x) * (1 : Nat))
 (0 : UInt8) ^^^
 b8 y))))).fst.b.a0
 (etDecode
 (List.take (List.length x_1)
 (List.drop (0 : Nat)
 (List.set x_1 ((0 : Nat) + Int.toNat ((54 : Int) + x) * (1 : Nat))
 (List.getD x_1 ((0 : Nat) + Int.toNat ((54 : Int) + x) * (1 : Nat))
 (0 : UInt8) ^^^
 b8 y))))).fst.b.a1
 (etDecode
 (List.take (List.length x_1)
 (List.drop (0 : Nat)
 (List.set x_1 ((0 : Nat) + Int.toNat ((54 : Int) + x) * (1 : Nat))
 (List.getD x_1 ((0 : Nat) + Int.toNat ((54 : Int) + x) * (1 : Nat))
 (0 : UInt8) ^^^
 b8 y))))).fst.b.a2
 (etDecode
 (List.take (List.length x_1)
 (List.drop (0 : Nat)
 (List.set x_1 ((0 : Nat) + Int.toNat ((54 : Int) + x) * (1 : Nat))
 (List.getD x_1 ((0 : Nat) + Int.toNat ((54 : Int) + x) * (1 : Nat))
 (0 : UInt8) ^^^
 b8 y))))).fst.b.a3
 (etDecode
 (List.take (List.length x_1)
 (List.drop (0 : Nat)
 (List.set x_1 ((0 : Nat) + Int.toNat ((54 : Int) + x) * (1 : Nat))
 (List.getD x_1 ((0 : Nat) + Int.toNat ((54 : Int) + x) * (1 : Nat))
 (0 : UInt8) ^^^
 b8 y))))).fst.b.a4
 (etDecode
 (List.take (List.length x_1)
 (List.drop (0 : Nat)
 (List.set x_1 ((0 : Nat) + Int.toNat ((54 : Int) + x) * (1 : Nat))
 (List.getD x_1 ((0 : Nat) + Int.toNat ((54 : Int) + x) * (1 : Nat))
 (0 : UInt8) ^^^
 b8 y))))).fst.b.a5)
 (etDecode
 (List.take (List.length x_1)
 (List.drop (0 : Nat)
 (List.set x_1 ((0 : Nat) + Int.toNat ((54 : Int) + x) * (1 : Nat))
 (List.getD x_1 ((0 : Nat) + Int.toNat ((54 : Int) + x) * (1 : Nat))
 (0 : UInt8) ^^^
 b8 y))))).fst.ty
 (etDecode
 (List.take (List.length x_1)
 (List.drop (0 : Nat)
 (List.set x_1 ((0 : Nat) + Int.toNat ((54 : Int) + x) * (1 : Nat))
 (List.getD x_1 ((0 : Nat) + Int.toNat ((54 : Int) + x) * (1 : Nat))
 (0 : UInt8) ^^^
 b8 y))))).fst.body)).fst.addr =
 []) &&
 (decide
 ((nbRead
 (Fm.mk
 (Mc.mk
 (etDecode
 (List.take (List.length x_1)
 (List.drop (0 : Nat)
 (List.set x_1 ((0 : Nat) + Int.toNat ((54 : Int) + x) * (1 : Nat))
 (List.getD x_1 ((0 : Nat) + Int.toNat ((54 : Int) + x) * (1 : Nat))
 (0 : UInt8) ^^^
 b8 y))))).fst.a.a0
 (etDecode
 (List.take (List.length x_1)
 (List.drop (0 : Nat)
 (List.set x_1 ((0 : Nat) + Int.toNat ((54 : Int) + x) * (1 : Nat))
 (List.getD x_1 ((0 : Nat) + Int.toNat ((54 : Int) + x) * (1 : Nat))
 (0 : UInt8) ^^^
 b8 y))))).fst.a.a1
 (etDecode
 (List.take (List.length x_1)
 (List.drop (0 : Nat)
 (List.set x_1 ((0 : Nat) + Int.toNat ((54 : Int) + x) * (1 : Nat))
 (List.getD x_1 ((0 : Nat) + Int.toNat ((54 : Int) + x) * (1 : Nat))
 (0 : UInt8) ^^^
 b8 y))))).fst.a.a2
 (etDecode
 (List.take (List.length x_1)
 (List.drop (0 : Nat)
 (List.set x_1 ((0 : Nat) + Int.toNat ((54 : Int) + x) * (1 : Nat))
 (List.getD x_1 ((0 : Nat) + Int.toNat ((54 : Int) + x) * (1 : Nat))
 (0 : UInt8) ^^^
 b8 y))))).fst.a.a3
 (etDecode
 (List.take (List.length x_1)
 (List.drop (0 : Nat)
 (List.set x_1 ((0 : Nat) + Int.toNat ((54 : Int) + x) * (1 : Nat))
 (List.getD x_1 ((0 : Nat) + Int.toNat ((54 : Int) + x) * (1 : Nat))
 (0 : UInt8) ^^^
 b8 y))))).fst.a.a4
 (etDecode
 (List.take (List.length x_1)
 (List.drop (0 : Nat)
 (List.set x_1 ((0 : Nat) + Int.toNat ((54 : Int) + x) * (1 : Nat))
 (List.getD x_1 ((0 : Nat) + Int.toNat ((54 : Int) + x) * (1 : Nat))
 (0 : UInt8) ^^^
 b8 y))))).fst.a.a5)
 (Mc.mk
 (etDecode
 (List.take (List.length x_1)
 (List.drop (0 : Nat)
 (List.set x_1 ((0 : Nat) + Int.toNat ((54 : Int) + x) * (1 : Nat))
 (List.getD x_1 ((0 : Nat) + Int.toNat ((54 : Int) + x) * (1 : Nat))
 (0 : UInt8) ^^^
 b8 y))))).fst.b.a0
 (etDecode
 (List.take (List.length x_1)
 (List.drop (0 : Nat)
 (List.set x_1 ((0 : Nat) + Int.toNat ((54 : Int) + x) * (1 : Nat))
 (List.getD x_1 ((0 : Nat) + Int.toNat ((54 : Int) + x) * (1 : Nat))
 (0 : UInt8) ^^^
 b8 y))))).fst.b.a1
 (etDecode
 (List.take (List.length x_1)
 (List.drop (0 : Nat)
 (List.set x_1 ((0 : Nat) + Int.toNat ((54 : Int) + x) * (1 : Nat))
 (List.getD x_1 ((0 : Nat) + Int.toNat ((54 : Int) + x) * (1 : Nat))
 (0 : UInt8) ^^^
 b8 y))))).fst.b.a2
 (etDecode
 (List.take (List.length x_1)
 (List.drop (0 : Nat)
 (List.set x_1 ((0 : Nat) + Int.toNat ((54 : Int) + x) * (1 : Nat))
 (List.getD x_1 ((0 : Nat) + Int.toNat ((54 : Int) + x) * (1 : Nat))
 (0 : UInt8) ^^^
 b8 y))))).fst.b.a3
 (etDecode
 (List.take (List.length x_1)
 (List.drop (0 : Nat)
 (List.set x_1 ((0 : Nat) + Int.toNat ((54 : Int) + x) * (1 : Nat))
 (List.getD x_1 ((0 : Nat) + Int.toNat ((54 : Int) + x) * (1 : Nat))
 (0 : UInt8) ^^^
 b8 y))))).fst.b.a4
 (etDecode
 (List.take (List.length x_1)
 (List.drop (0 : Nat)
 (List.set x_1 ((0 : Nat) + Int.toNat ((54 : Int) + x) * (1 : Nat))
 (List.getD x_1 ((0 : Nat) + Int.toNat ((54 : Int) + x) * (1 : Nat))
 (0 : UInt8) ^^^
 b8 y))))).fst.b.a5)
 (etDecode
 (List.take (List.length x_1)
 (List.drop (0 : Nat)
 (List.set x_1 ((0 : Nat) + Int.toNat ((54 : Int) + x) * (1 : Nat))
 (List.getD x_1 ((0 : Nat) + Int.toNat ((54 : Int) + x) * (1 : Nat))
 (0 : UInt8) ^^^
 b8 y))))).fst.ty
 (etDecode
 (List.take (List.length x_1)
 (List.drop (0 : Nat)
 (List.set x_1 ((0 : Nat) + Int.toNat ((54 : Int) + x) * (1 : Nat))
 (List.getD x_1 ((0 : Nat) + Int.toNat ((54 : Int) + x) * (1 : Nat))
 (0 : UInt8) ^^^
 b8 y))))).fst.body)).fst.target =
 []) &&
 decide
 ((nbRead
 (Fm.mk
 (Mc.mk
 (etDecode
 (List.take (List.length x_1)
 (List.drop (0 : Nat)
 (List.set x_1 ((0 : Nat) + Int.toNat ((54 : Int) + x) * (1 : Nat))
 (List.getD x_1 ((0 : Nat) + Int.toNat ((54 : Int) + x) * (1 : Nat))
 (0 : UInt8) ^^^
 b8 y))))).fst.a.a0
 (etDecode
 (List.take (List.length x_1)
 (List.drop (0 : Nat)
 (List.set x_1 ((0 : Nat) + Int.toNat ((54 : Int) + x) * (1 : Nat))
 (List.getD x_1 ((0 : Nat) + Int.toNat ((54 : Int) + x) * (1 : Nat))
 (0 : UInt8) ^^^
 b8 y))))).fst.a.a1
 (etDecode
 (List.take (List.length x_1)
 (List.drop (0 : Nat)
 (List.set x_1 ((0 : Nat) + Int.toNat ((54 : Int) + x) * (1 : Nat))
 (List.getD x_1 ((0 : Nat) + Int.toNat ((54 : Int) + x) * (1 : Nat))
 (0 : UInt8) ^^^
 b8 y))))).fst.a.a2
 (etDecode
 (List.take (List.length x_1)
 (List.drop (0 : Nat)
 (List.set x_1 ((0 : Nat) + Int.toNat ((54 : Int) + x) * (1 : Nat))
 (List.getD x_1 ((0 : Nat) + Int.toNat ((54 : Int) + x) * (1 : Nat))
 (0 : UInt8) ^^^
 b8 y))))).fst.a.a3
 (etDecode
 (List.take (List.length x_1)
 (List.drop (0 : Nat)
 (List.set x_1 ((0 : Nat) + Int.toNat ((54 : Int) + x) * (1 : Nat))
 (List.getD x_1 ((0 : Nat) + Int.toNat ((54 : Int) + x) * (1 : Nat))
 (0 : UInt8) ^^^
 b8 y))))).fst.a.a4
 (etDecode
 (List.take (List.length x_1)
 (List.drop (0 : Nat)
 (List.set x_1 ((0 : Nat) + Int.toNat ((54 : Int) + x) * (1 : Nat))
 (List.getD x_1 ((0 : Nat) + Int.toNat ((54 : Int) + x) * (1 : Nat))
 (0 : UInt8) ^^^
 b8 y))))).fst.a.a5)
 (Mc.mk
 (etDecode
 (List.take (List.length x_1)
 (List.drop (0 : Nat)
 (List.set x_1 ((0 : Nat) + Int.toNat ((54 : Int) + x) * (1 : Nat))
 (List.getD x_1 ((0 : Nat) + Int.toNat ((54 : Int) + x) * (1 : Nat))
 (0 : UInt8) ^^^
 b8 y))))).fst.b.a0
 (etDecode
 (List.take (List.length x_1)
 (List.drop (0 : Nat)
 (List.set x_1 ((0 : Nat) + Int.toNat ((54 : Int) + x) * (1 : Nat))
 (List.getD x_1 ((0 : Nat) + Int.toNat ((54 : Int) + x) * (1 : Nat))
 (0 : UInt8) ^^^
 b8 y))))).fst.b.a1
 (etDecode
 (List.take (List.length x_1)
 (List.drop (0 : Nat)
 (List.set x_1 ((0 : Nat) + Int.toNat ((54 : Int) + x) * (1 : Nat))
 (List.getD x_1 ((0 : Nat) + Int.toNat ((54 : Int) + x) * (1 : Nat))
 (0 : UInt8) ^^^
 b8 y))))).fst.b.a2
 (etDecode
 (List.take (List.length x_1)
 (List.drop (0 : Nat)
 (List.set x_1 ((0 : Nat) + Int.toNat ((54 : Int) + x) * (1 : Nat))
 (List.getD x_1 ((0 : Nat) + Int.toNat ((54 : Int) + x) * (1 : Nat))
 (0 : UInt8) ^^^
 b8 y))))).fst.b.a3
 (etDecode
 (List.take (List.length x_1)
 (List.drop (0 : Nat)
 (List.set x_1 ((0 : Nat) + Int.toNat ((54 : Int) + x) * (1 : Nat))
 (List.getD x_1 ((0 : Nat) + Int.toNat ((54 : Int) + x) * (1 : Nat))
 (0 : UInt8) ^^^
 b8 y))))).fst.b.a4
 (etDecode
 (List.take (List.length x_1)
 (List.drop (0 : Nat)
 (List.set x_1 ((0 : Nat) + Int.toNat ((54 : Int) + x) * (1 : Nat))
 (List.getD x_1 ((0 : Nat) + Int.toNat ((54 : Int) + x) * (1 : Nat))
 (0 : UInt8) ^^^
 b8 y))))).fst.b.a5)
 (etDecode
 (List.take (List.length x_1)
 (List.drop (0 : Nat)
 (List.set x_1 ((0 : Nat) + Int.toNat ((54 : Int) + x) * (1 : Nat))
 (List.getD x_1 ((0 : Nat) + Int.toNat ((54 : Int) + x) * (1 : Nat))
 (0 : UInt8) ^^^
 b8 y))))).fst.ty
 (etDecode
 (List.take (List.length x_1)
 (List.drop (0 : Nat)
 (List.set x_1 ((0 : Nat) + Int.toNat ((54 : Int) + x) * (1 : Nat))
 (List.getD x_1 ((0 : Nat) + Int.toNat ((54 : Int) + x) * (1 : Nat))
 (0 : UInt8) ^^^
 b8 y))))).fst.body)).fst.asked =
 false)))))))))))
 [])
 (K (AVal.bool false) [])))))
 (K (AVal.bool false) []))) := by kernel_rfl
theorem neighTurned.core (m0 m1 m2 m3 m4 m5 : UInt8) (a b : List UInt8) (x y : Int)  (h_a : a.length ≤ 140737488351232) (h_b : b.length ≤ 140737488351232) (h_x : -9223372036854775808 ≤ x ∧ x ≤ 9223372036854775807) (h_y : -9223372036854775808 ≤ y ∧ y ≤ 9223372036854775807) :
    fnP Try.prog Tlw ann_outriderlaw04_NeighTurned Try.f4 [.agg [.byte m0, .byte m1, .byte m2, .byte m3, .byte m4, .byte m5], .agg [.str a, .str b], .agg [.int .i64 x, .int .i64 y]] [] (fun v _ => v = .bool true) := by
  rw [NeighTurned_eq]
  have c1 : ((0 : Int) ≤ 0 ∧ (0 : Int) < 2) = True := eq_true (by omega)
  have c2 : ((0 : Int) ≤ 1 ∧ (1 : Int) < 2) = True := eq_true (by omega)
  have hi2 : ∀ g, impP g True = True := fun g => eq_true (fun _ => trivial)
  have etaF : ∀ f : Fm, (⟨⟨f.a.a0, f.a.a1, f.a.a2, f.a.a3, f.a.a4, f.a.a5⟩, ⟨f.b.a0, f.b.a1, f.b.a2, f.b.a3, f.b.a4, f.b.a5⟩, f.ty, f.body⟩ : Fm) = f := fun _ => rfl
  simp only [c1, c2, hi2, true_and]
  refine brP_i (fun _ => trivial) (fun hg => ?_)
  simp only [Bool.and_eq_true, Bool.or_eq_true, Bool.and_eq_false_iff, Bool.or_eq_false_iff, decide_eq_true_eq, decide_eq_false_iff_not, Bool.not_eq_true', Bool.not_eq_false', Bool.not_true, Bool.not_false, Bool.true_and, Bool.and_true, Bool.false_or, Bool.or_false, beq_iff_eq, beq_eq_false_iff_ne, ne_eq] at hg
  rcases nbTell_cases ⟨m0, m1, m2, m3, m4, m5⟩ a ⟨m0, m1, m2, m3, m4, m5⟩ b with ⟨h, e⟩ | ⟨⟨ha, hb⟩, e⟩ | ⟨⟨ha, hb⟩, e⟩
  · exact absurd ⟨.inr (by omega), by omega⟩ h
  · obtain ⟨X, x1, ⟨x2, x3, x4, x5⟩, hX, hXl⟩ := says_nd (k := 136) (fl := 96) (op := 2) (tg := a) (m := ⟨m0, m1, m2, m3, m4, m5⟩) (card := ⟨m0, m1, m2, m3, m4, m5⟩) (src := a) (dst := b) ha ha hb (nbReadP_tell ha)
    obtain ⟨Q, er, t1, t2, t3, t4⟩ := nb_turned (fl := 96) (tg := a) (m := ⟨m0, m1, m2, m3, m4, m5⟩) (card := ⟨m0, m1, m2, m3, m4, m5⟩) (src := a) (dst := b) ha ha hb (k := x.toNat) (by omega) (b8_ne (m := y) (by omega)) hX
    have d2 := et_dec t2
    have hYl : (X.set (54 + x.toNat) (X.getD (54 + x.toNat) 0 ^^^ b8 y)).length = 86 := by rw [List.length_set]; exact hXl
    rw [Fm.ok_iff] at t2
    simp only at t2 x5
    rw [t1] at hYl
    generalize Fm.bytes ⟨⟨m0, m1, m2, m3, m4, m5⟩, ⟨m0, m1, m2, m3, m4, m5⟩, 34525, ipBytes Q⟩ = Y at t1 d2 hYl
    have h54 : (54 + x).toNat = 54 + x.toNat := by omega
    rw [e, x1, optP_s]
    simp only [h54, Nat.zero_add, Nat.mul_one, List.drop_zero, t1, hXl]
    rw [List.take_of_length_le (l := X) (by omega), List.take_of_length_le (l := Y) (by omega)]
    simp only [x2, d2, x3, t3, hXl, hYl]
    have i1 : I64 (54 + x) := by unfold I64; omega
    have i2 : 0 ≤ 54 + x := by omega
    have i3 : 54 + x < 86 := by omega
    have i4 : 54 + x.toNat < 86 := by omega
    have i5 : (ipBytes (nbIp 136 96 2 a ⟨m0, m1, m2, m3, m4, m5⟩ a b)).length ≤ 140737488351232 := by omega
    have i6 : (ipBytes Q).length ≤ 140737488351232 := by omega
    rcases t4 with rfl | rfl <;> simp [brP, i1, i2, i3, i4, i5, i6, noNt, noMc]
  · omega
end Go.Proofs.Ytcooilllmcgcmaa.Ae
namespace Go.Proofs.Ytcooilllmcgcmaa
open Go Go.RowKit Ae
attribute [local irreducible] fnP in
set_option maxRecDepth 100000 in
theorem neighTurned.walk {H : Type} {enc : TypeId × Value → H} (W : World) (args : Array Value) (hn : args.size = 3)
    (h : ∀ (j : Nat) t v, Try.f4.params[j]? = some t → args[j]? = some v → RdV enc false Try.prog W t v) :
    Calls Try.prog 4 args W fun e w' => e = .returned (.bool true) ∧ Below W.heap.size W w' := by
  obtain ⟨v0, v1, v2, rfl⟩ := args3 hn
  obtain ⟨vs0, hs0, hv0⟩ := arg_agg (b := false) (d := 6) (ks := [.byte, .byte, .byte, .byte, .byte, .byte]) (.inr ⟨_, _, Try.underlying23⟩) (by kernel_rfl) (h 0 23 v0 rfl rfl)
  obtain ⟨_, _, rfl, ⟨m0, rfl⟩, _, _, rfl, ⟨m1, rfl⟩, _, _, rfl, ⟨m2, rfl⟩, _, _, rfl, ⟨m3, rfl⟩, _, _, rfl, ⟨m4, rfl⟩, _, _, rfl, ⟨m5, rfl⟩, rfl⟩ := hs0
  obtain ⟨vs1, hs1, hv1⟩ := arg_agg (b := false) (d := 6) (ks := [.str, .str]) (.inr ⟨_, _, Try.underlying38⟩) (by kernel_rfl) (h 1 38 v1 rfl rfl)
  obtain ⟨_, _, rfl, ⟨a, rfl, h_a⟩, _, _, rfl, ⟨b, rfl, h_b⟩, rfl⟩ := hs1
  obtain ⟨vs2, hs2, hv2⟩ := arg_agg (b := false) (d := 6) (ks := [.int .i64, .int .i64]) (.inr ⟨_, _, Try.underlying39⟩) (by kernel_rfl) (h 2 39 v2 rfl rfl)
  obtain ⟨_, _, rfl, ⟨x, rfl, h_x⟩, _, _, rfl, ⟨y, rfl, h_y⟩, rfl⟩ := hs2
  obtain ⟨r, H1, hr, hG⟩ := fn_sound Tlw_sound mixed Try.func4 (by decide +kernel) (neighTurned.core m0 m1 m2 m3 m4 m5 a b x y (len_lim h_a) (len_lim h_b) (i64_bd h_x) (i64_bd h_y))
  subst hr
  exact law_walk hG (vl_cons hv0 (vl_cons hv1 (vl_cons hv2 vl_nil)))

namespace neighTurned
theorem spec {H : Type} (ds : List (DataW H)) (h : ds.length = Try.f4.params.size) : Rows.neighTurnedSpec.fn H ds = { results := [.lit (.bool true)], args := ds } := by
  have h' : ds.length = 3 := h
  match ds, h' with
  | [_, _, _], _ => rfl

set_option maxRecDepth 100000 in
theorem lifted (os : Os) (started : os.Started) (H : Type) (enc : TypeId × Value → H) :
    ReturnsInHanded {} Try.checked os 4 .any (Rows.neighTurnedSpec.pre6 enc Try.prog Try.f4 Rows.neighTurnedRow.domain false) (Rows.neighTurnedSpec.post enc Try.prog Try.f4 false true false false) :=
  lifted_said (C := Try.checked) (tb := 4) own started (by kernel_rfl) Try.func4
    (ChangeSpec.witness6 (enc := enc) (C := Try.checked) false ⟨#[], #[.agg #[.int .u8 0, .int .u8 0, .int .u8 0, .int .u8 0, .int .u8 0, .int .u8 0], .agg #[.string .empty, .string .empty], .agg #[.int .i64 0, .int .i64 0]], []⟩ 8 (by kernel_rfl) (by kernel_rfl) (by kernel_rfl) (by kernel_rfl))
    rfl spec rfl Try.underlying4 laidOut (by kernel_rfl) walk

theorem over : Rows.neighTurnedRow.holds Try.pinned (OpenSpec.ofChange Rows.neighTurnedSpec) :=
  OpenClaim.holds_of_wide 4 Try.f4 rfl rfl rfl rfl rfl rfl rfl ⟨rfl, rfl, rfl, rfl, rfl⟩ rfl rfl rfl rfl rfl (by kernel_rfl) Try.func4 (by kernel_rfl)
    (of_decide_eq_true (by kernel_rfl)) (by unfold Func.isWrapper; first | (rw [if_pos (by decide +kernel)]; kernel_rfl) | (rw [if_neg (by decide +kernel)]; exact ⟨rfl, rfl⟩))
    (fun os started H enc _ => lifted os started H enc)

theorem proved : Rows.NeighTurnedSaid := over
#print axioms proved
end neighTurned

end Go.Proofs.Ytcooilllmcgcmaa

