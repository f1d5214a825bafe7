/- NeighBack: what was asked, told and claimed is read as that. No conditions. -/
import Derived.Test.YtcooilllmcgcmaaAl
import Derived.Test.YtcooilllmcgcmaaMnb2
set_option linter.unusedSimpArgs false
set_option linter.unusedVariables false
namespace Go.Proofs.Ytcooilllmcgcmaa.Ae
open Go Go.RowKit
def ann_outriderlaw04_NeighBack : Nat → List Nat × Nat × List (List Nat)
  | 2000009 => ([], 11, [[], [0], [0, 1], [0, 1, 2], [0, 1, 2, 3], [0, 1, 2, 3, 4], [0, 1, 2, 3, 4, 5], [0, 1, 2, 3, 4, 5, 6], [0, 1, 2, 3, 4, 5, 6, 7], [0, 1, 2, 3, 4, 5, 6, 7, 8]])
  | _ => ([], 0, [])
set_option maxRecDepth 100000 in
theorem NeighBack_eq (m0 m1 m2 m3 m4 m5 t0 t1 t2 t3 t4 t5 : UInt8) (a b : List UInt8) (K : AVal → Hp → Prop) : fnP Try.prog Tlw ann_outriderlaw04_NeighBack Try.f8 [.agg [.byte m0, .byte m1, .byte m2, .byte m3, .byte m4, .byte m5], .agg [.byte t0, .byte t1, .byte t2, .byte t3, .byte t4, .byte t5], .agg [.str a, .str b]] [] K = (
 ((0 : Int) ≤ (0 : Int) ∧ (0 : Int) < (2 : Int)) ∧
 ((0 : Int) ≤ (1 : Int) ∧ (1 : Int) < (2 : Int)) ∧
 optP (nbAsk (Mc.mk m0 m1 m2 m3 m4 m5) a b)
 (fun x =>
 ((0 : Int) ≤ (0 : Int) ∧ (0 : Int) < (2 : Int)) ∧
 ((0 : Int) ≤ (1 : Int) ∧ (1 : Int) < (2 : Int)) ∧
 optP (nbTell (Mc.mk m0 m1 m2 m3 m4 m5) a (Mc.mk t0 t1 t2 t3 t4 t5) b)
 (fun x_1 =>
 ((0 : Int) ≤ (0 : Int) ∧ (0 : Int) < (2 : Int)) ∧
 optP (nbClaim (Mc.mk m0 m1 m2 m3 m4 m5) a)
 (fun x_2 =>
 List.length (List.take (List.length x) (List.drop (0 : Nat) x)) ≤ (140737488355328 : Nat) ∧
 List.length (etDecode (List.take (List.length x) (List.drop (0 : Nat) x))).fst.body ≤
 (140737488351232 : Nat) ∧
 brP (decide ((etDecode (List.take (List.length x) (List.drop (0 : Nat) x))).snd = (0 : Int)))
 (List.length (List.take (List.length x_1) (List.drop (0 : Nat) x_1)) ≤ (140737488355328 : Nat) ∧
 List.length (etDecode (List.take (List.length x_1) (List.drop (0 : Nat) x_1))).fst.body ≤
 (140737488351232 : Nat) ∧
 brP (decide ((etDecode (List.take (List.length x_1) (List.drop (0 : Nat) x_1))).snd = (0 : Int)))
 (List.length (List.take (List.length x_2) (List.drop (0 : Nat) x_2)) ≤ (140737488355328 : Nat) ∧
 List.length (etDecode (List.take (List.length x_2) (List.drop (0 : Nat) x_2))).fst.body ≤
 (140737488351232 : Nat) ∧
 brP (decide ((etDecode (List.take (List.length x_2) (List.drop (0 : Nat) x_2))).snd = (0 : Int)))
 (brP
 (!decide
 ((nbRead
 (Fm.mk
 (Mc.mk (etDecode (List.take (List.length x) (List.drop (0 : Nat) x))).fst.a.a0
 (etDecode (List.take (List.length x) (List.drop (0 : Nat) x))).fst.a.a1
 (etDecode (List.take (List.length x) (List.drop (0 : Nat) x))).fst.a.a2
 (etDecode (List.take (List.length x) (List.drop (0 : Nat) x))).fst.a.a3
 (etDecode (List.take (List.length x) (List.drop (0 : Nat) x))).fst.a.a4
 (etDecode (List.take (List.length x) (List.drop (0 : Nat) x))).fst.a.a5)
 (Mc.mk (etDecode (List.take (List.length x) (List.drop (0 : Nat) x))).fst.b.a0
 (etDecode (List.take (List.length x) (List.drop (0 : Nat) x))).fst.b.a1
 (etDecode (List.take (List.length x) (List.drop (0 : Nat) x))).fst.b.a2
 (etDecode (List.take (List.length x) (List.drop (0 : Nat) x))).fst.b.a3
 (etDecode (List.take (List.length x) (List.drop (0 : Nat) x))).fst.b.a4
 (etDecode (List.take (List.length x) (List.drop (0 : Nat) x))).fst.b.a5)
 (etDecode (List.take (List.length x) (List.drop (0 : Nat) x))).fst.ty
 (etDecode (List.take (List.length x) (List.drop (0 : Nat) x))).fst.body)).snd =
 (0 : Int)) ||
 !decide
 ((nbRead
 (Fm.mk
 (Mc.mk (etDecode (List.take (List.length x_1) (List.drop (0 : Nat) x_1))).fst.a.a0
 (etDecode (List.take (List.length x_1) (List.drop (0 : Nat) x_1))).fst.a.a1
 (etDecode (List.take (List.length x_1) (List.drop (0 : Nat) x_1))).fst.a.a2
 (etDecode (List.take (List.length x_1) (List.drop (0 : Nat) x_1))).fst.a.a3
 (etDecode (List.take (List.length x_1) (List.drop (0 : Nat) x_1))).fst.a.a4
 (etDecode (List.take (List.length x_1) (List.drop (0 : Nat) x_1))).fst.a.a5)
 (Mc.mk (etDecode (List.take (List.length x_1) (List.drop (0 : Nat) x_1))).fst.b.a0
 (etDecode (List.take (List.length x_1) (List.drop (0 : Nat) x_1))).fst.b.a1
 (etDecode (List.take (List.length x_1) (List.drop (0 : Nat) x_1))).fst.b.a2
 (etDecode (List.take (List.length x_1) (List.drop (0 : Nat) x_1))).fst.b.a3
 (etDecode (List.take (List.length x_1) (List.drop (0 : Nat) x_1))).fst.b.a4
 (etDecode (List.take (List.length x_1) (List.drop (0 : Nat) x_1))).fst.b.a5)
 (etDecode (List.take (List.length x_1) (List.drop (0 : Nat) x_1))).fst.ty
 (etDecode (List.take (List.length x_1) (List.drop (0 : Nat) x_1))).fst.body)).snd =
 (0 : Int)) ||
 !decide
 ((nbRead
 (Fm.mk
 (Mc.mk (etDecode (List.take (List.length x_2) (List.drop (0 : Nat) x_2))).fst.a.a0
 (etDecode (List.take (List.length x_2) (List.drop (0 : Nat) x_2))).fst.a.a1
 (etDecode (List.take (List.length x_2) (List.drop (0 : Nat) x_2))).fst.a.a2
 (etDecode (List.take (List.length x_2) (List.drop (0 : Nat) x_2))).fst.a.a3
 (etDecode (List.take (List.length x_2) (List.drop (0 : Nat) x_2))).fst.a.a4
 (etDecode (List.take (List.length x_2) (List.drop (0 : Nat) x_2))).fst.a.a5)
 (Mc.mk (etDecode (List.take (List.length x_2) (List.drop (0 : Nat) x_2))).fst.b.a0
 (etDecode (List.take (List.length x_2) (List.drop (0 : Nat) x_2))).fst.b.a1
 (etDecode (List.take (List.length x_2) (List.drop (0 : Nat) x_2))).fst.b.a2
 (etDecode (List.take (List.length x_2) (List.drop (0 : Nat) x_2))).fst.b.a3
 (etDecode (List.take (List.length x_2) (List.drop (0 : Nat) x_2))).fst.b.a4
 (etDecode (List.take (List.length x_2) (List.drop (0 : Nat) x_2))).fst.b.a5)
 (etDecode (List.take (List.length x_2) (List.drop (0 : Nat) x_2))).fst.ty
 (etDecode (List.take (List.length x_2) (List.drop (0 : Nat) x_2))).fst.body)).snd =
 (0 : Int)))
 (K (AVal.bool false) [])
 (((0 : Int) ≤ (0 : Int) ∧ (0 : Int) < (2 : Int)) ∧
 ((0 : Int) ≤ (0 : Int) ∧ (0 : Int) < (2 : Int)) ∧
 ((0 : Int) ≤ (1 : Int) ∧ (1 : Int) < (2 : Int)) ∧
 brP
 (decide
 ((nbRead
 (Fm.mk
 (Mc.mk (etDecode (List.take (List.length x) (List.drop (0 : Nat) x))).fst.a.a0
 (etDecode (List.take (List.length x) (List.drop (0 : Nat) x))).fst.a.a1
 (etDecode (List.take (List.length x) (List.drop (0 : Nat) x))).fst.a.a2
 (etDecode (List.take (List.length x) (List.drop (0 : Nat) x))).fst.a.a3
 (etDecode (List.take (List.length x) (List.drop (0 : Nat) x))).fst.a.a4
 (etDecode (List.take (List.length x) (List.drop (0 : Nat) x))).fst.a.a5)
 (Mc.mk (etDecode (List.take (List.length x) (List.drop (0 : Nat) x))).fst.b.a0
 (etDecode (List.take (List.length x) (List.drop (0 : Nat) x))).fst.b.a1
 (etDecode (List.take (List.length x) (List.drop (0 : Nat) x))).fst.b.a2
 (etDecode (List.take (List.length x) (List.drop (0 : Nat) x))).fst.b.a3
 (etDecode (List.take (List.length x) (List.drop (0 : Nat) x))).fst.b.a4
 (etDecode (List.take (List.length x) (List.drop (0 : Nat) x))).fst.b.a5)
 (etDecode (List.take (List.length x) (List.drop (0 : Nat) x))).fst.ty
 (etDecode (List.take (List.length x) (List.drop (0 : Nat) x))).fst.body)).fst.kind =
 (1 : Int)) &&
 (decide
 ((nbRead
 (Fm.mk
 (Mc.mk (etDecode (List.take (List.length x) (List.drop (0 : Nat) x))).fst.a.a0
 (etDecode (List.take (List.length x) (List.drop (0 : Nat) x))).fst.a.a1
 (etDecode (List.take (List.length x) (List.drop (0 : Nat) x))).fst.a.a2
 (etDecode (List.take (List.length x) (List.drop (0 : Nat) x))).fst.a.a3
 (etDecode (List.take (List.length x) (List.drop (0 : Nat) x))).fst.a.a4
 (etDecode (List.take (List.length x) (List.drop (0 : Nat) x))).fst.a.a5)
 (Mc.mk (etDecode (List.take (List.length x) (List.drop (0 : Nat) x))).fst.b.a0
 (etDecode (List.take (List.length x) (List.drop (0 : Nat) x))).fst.b.a1
 (etDecode (List.take (List.length x) (List.drop (0 : Nat) x))).fst.b.a2
 (etDecode (List.take (List.length x) (List.drop (0 : Nat) x))).fst.b.a3
 (etDecode (List.take (List.length x) (List.drop (0 : Nat) x))).fst.b.a4
 (etDecode (List.take (List.length x) (List.drop (0 : Nat) x))).fst.b.a5)
 (etDecode (List.take (List.length x) (List.drop (0 : Nat) x))).fst.ty
 (etDecode
 (List.take (List.length x) (List.drop (0 : Nat) x))).fst.body)).fst.mac.a0 =
 m0) &&
 (decide
 ((nbRead
 (Fm.mk
 (Mc.mk (etDecode (List.take (List.length x) (List.drop (0 : Nat) x))).fst.a.a0
 (etDecode (List.take (List.length x) (List.drop (0 : Nat) x))).fst.a.a1
 (etDecode (List.take (List.length x) (List.drop (0 : Nat) x))).fst.a.a2
 (etDecode (List.take (List.length x) (List.drop (0 : Nat) x))).fst.a.a3
 (etDecode (List.take (List.length x) (List.drop (0 : Nat) x))).fst.a.a4
 (etDecode (List.take (List.length x) (List.drop (0 : Nat) x))).fst.a.a5)
 (Mc.mk (etDecode (List.take (List.length x) (List.drop (0 : Nat) x))).fst.b.a0
 (etDecode (List.take (List.length x) (List.drop (0 : Nat) x))).fst.b.a1
 (etDecode (List.take (List.length x) (List.drop (0 : Nat) x))).fst.b.a2
 (etDecode (List.take (List.length x) (List.drop (0 : Nat) x))).fst.b.a3
 (etDecode (List.take (List.length x) (List.drop (0 : Nat) x))).fst.b.a4
 (etDecode (List.take (List.length x) (List.drop (0 : Nat) x))).fst.b.a5)
 (etDecode (List.take (List.length x) (List.drop (0 : Nat) x))).fst.ty
 (etDecode
 (List.take (List.length x) (List.drop (0 : Nat) x))).fst.body)).fst.mac.a1 =
 m1) &&
 (decide
 ((nbRead
 (Fm.mk
 (Mc.mk (etDecode (List.take (List.length x) (List.drop (0 : Nat) x))).fst.a.a0
 (etDecode (List.take (List.length x) (List.drop (0 : Nat) x))).fst.a.a1
 (etDecode (List.take (List.length x) (List.drop (0 : Nat) x))).fst.a.a2
 (etDecode (List.take (List.length x) (List.drop (0 : Nat) x))).fst.a.a3
 (etDecode (List.take (List.length x) (List.drop (0 : Nat) x))).fst.a.a4
 (etDecode (List.take (List.length x) (List.drop (0 : Nat) x))).fst.a.a5)
 (Mc.mk (etDecode (List.take (List.length x) (List.drop (0 : Nat) x))).fst.b.a0
 (etDecode (List.take (List.length x) (List.drop (0 : Nat) x))).fst.b.a1
 (etDecode (List.take (List.length x) (List.drop (0 : Nat) x))).fst.b.a2
 (etDecode (List.take (List.length x) (List.drop (0 : Nat) x))).fst.b.a3
 (etDecode (List.take (List.length x) (List.drop (0 : Nat) x))).fst.b.a4
 (etDecode (List.take (List.length x) (List.drop (0 : Nat) x))).fst.b.a5)
 (etDecode (List.take (List.length x) (List.drop (0 : Nat) x))).fst.ty
 (etDecode
 (List.take (List.length x) (List.drop (0 : Nat) x))).fst.body)).fst.mac.a2 =
 m2) &&
 (decide
 ((nbRead
 (Fm.mk
 (Mc.mk (etDecode (List.take (List.length x) (List.drop (0 : Nat) x))).fst.a.a0
 (etDecode (List.take (List.length x) (List.drop (0 : Nat) x))).fst.a.a1
 (etDecode (List.take (List.length x) (List.drop (0 : Nat) x))).fst.a.a2
 (etDecode (List.take (List.length x) (List.drop (0 : Nat) x))).fst.a.a3
 (etDecode (List.take (List.length x) (List.drop (0 : Nat) x))).fst.a.a4
 (etDecode (List.take (List.length x) (List.drop (0 : Nat) x))).fst.a.a5)
 (Mc.mk (etDecode (List.take (List.length x) (List.drop (0 : Nat) x))).fst.b.a0
 (etDecode (List.take (List.length x) (List.drop (0 : Nat) x))).fst.b.a1
 (etDecode (List.take (List.length x) (List.drop (0 : Nat) x))).fst.b.a2
 (etDecode (List.take (List.length x) (List.drop (0 : Nat) x))).fst.b.a3
 (etDecode (List.take (List.length x) (List.drop (0 : Nat) x))).fst.b.a4
 (etDecode (List.take (List.length x) (List.drop (0 : Nat) x))).fst.b.a5)
 (etDecode (List.take (List.length x) (List.drop (0 : Nat) x))).fst.ty
 (etDecode
 (List.take (List.length x) (List.drop (0 : Nat) x))).fst.body)).fst.mac.a3 =
 m3) &&
 (decide
 ((nbRead
 (Fm.mk
 (Mc.mk (etDecode (List.take (List.length x) (List.drop (0 : Nat) x))).fst.a.a0
 (etDecode (List.take (List.length x) (List.drop (0 : Nat) x))).fst.a.a1
 (etDecode (List.take (List.length x) (List.drop (0 : Nat) x))).fst.a.a2
 (etDecode (List.take (List.length x) (List.drop (0 : Nat) x))).fst.a.a3
 (etDecode (List.take (List.length x) (List.drop (0 : Nat) x))).fst.a.a4
 (etDecode (List.take (List.length x) (List.drop (0 : Nat) x))).fst.a.a5)
 (Mc.mk (etDecode (List.take (List.length x) (List.drop (0 : Nat) x))).fst.b.a0
 (etDecode (List.take (List.length x) (List.drop (0 : Nat) x))).fst.b.a1
 (etDecode (List.take (List.length x) (List.drop (0 : Nat) x))).fst.b.a2
 (etDecode (List.take (List.length x) (List.drop (0 : Nat) x))).fst.b.a3
 (etDecode (List.take (List.length x) (List.drop (0 : Nat) x))).fst.b.a4
 (etDecode (List.take (List.length x) (List.drop (0 : Nat) x))).fst.b.a5)
 (etDecode (List.take (List.length x) (List.drop (0 : Nat) x))).fst.ty
 (etDecode
 (List.take (List.length x) (List.drop (0 : Nat) x))).fst.body)).fst.mac.a4 =
 m4) &&
 (decide
 ((nbRead
 (Fm.mk
 (Mc.mk (etDecode (List.take (List.length x) (List.drop (0 : Nat) x))).fst.a.a0
 (etDecode (List.take (List.length x) (List.drop (0 : Nat) x))).fst.a.a1
 (etDecode (List.take (List.length x) (List.drop (0 : Nat) x))).fst.a.a2
 (etDecode (List.take (List.length x) (List.drop (0 : Nat) x))).fst.a.a3
 (etDecode (List.take (List.length x) (List.drop (0 : Nat) x))).fst.a.a4
 (etDecode (List.take (List.length x) (List.drop (0 : Nat) x))).fst.a.a5)
 (Mc.mk (etDecode (List.take (List.length x) (List.drop (0 : Nat) x))).fst.b.a0
 (etDecode (List.take (List.length x) (List.drop (0 : Nat) x))).fst.b.a1
 (etDecode (List.take (List.length x) (List.drop (0 : Nat) x))).fst.b.a2
 (etDecode (List.take (List.length x) (List.drop (0 : Nat) x))).fst.b.a3
 (etDecode (List.take (List.length x) (List.drop (0 : Nat) x))).fst.b.a4
 (etDecode (List.take (List.length x) (List.drop (0 : Nat) x))).fst.b.a5)
 (etDecode (List.take (List.length x) (List.drop (0 : Nat) x))).fst.ty
 (etDecode
 (List.take (List.length x) (List.drop (0 : Nat) x))).fst.body)).fst.mac.a5 =
 m5) &&
 (decide
 ((nbRead
 (Fm.mk
 (Mc.mk (etDecode (List.take (List.length x) (List.drop (0 : Nat) x))).fst.a.a0
 (etDecode (List.take (List.length x) (List.drop (0 : Nat) x))).fst.a.a1
 (etDecode (List.take (List.length x) (List.drop (0 : Nat) x))).fst.a.a2
 (etDecode (List.take (List.length x) (List.drop (0 : Nat) x))).fst.a.a3
 (etDecode (List.take (List.length x) (List.drop (0 : Nat) x))).fst.a.a4
 (etDecode (List.take (List.length x) (List.drop (0 : Nat) x))).fst.a.a5)
 (Mc.mk (etDecode (List.take (List.length x) (List.drop (0 : Nat) x))).fst.b.a0
 (etDecode (List.take (List.length x) (List.drop (0 : Nat) x))).fst.b.a1
 (etDecode (List.take (List.length x) (List.drop (0 : Nat) x))).fst.b.a2
 (etDecode (List.take (List.length x) (List.drop (0 : Nat) x))).fst.b.a3
 (etDecode (List.take (List.length x) (List.drop (0 : Nat) x))).fst.b.a4
 (etDecode (List.take (List.length x) (List.drop (0 : Nat) x))).fst.b.a5)
 (etDecode (List.take (List.length x) (List.drop (0 : Nat) x))).fst.ty
 (etDecode
 (List.take (List.length x) (List.drop (0 : Nat) x))).fst.body)).fst.addr =
 a) &&
 (decide
 ((nbRead
 (Fm.mk
 (Mc.mk (etDecode (List.take (List.length x) (List.drop (0 : Nat) x))).fst.a.a0
 (etDecode (List.take (List.length x) (List.drop (0 : Nat) x))).fst.a.a1
 (etDecode (List.take (List.length x) (List.drop (0 : Nat) x))).fst.a.a2
 (etDecode (List.take (List.length x) (List.drop (0 : Nat) x))).fst.a.a3
 (etDecode (List.take (List.length x) (List.drop (0 : Nat) x))).fst.a.a4
 (etDecode (List.take (List.length x) (List.drop (0 : Nat) x))).fst.a.a5)
 (Mc.mk (etDecode (List.take (List.length x) (List.drop (0 : Nat) x))).fst.b.a0
 (etDecode (List.take (List.length x) (List.drop (0 : Nat) x))).fst.b.a1
 (etDecode (List.take (List.length x) (List.drop (0 : Nat) x))).fst.b.a2
 (etDecode (List.take (List.length x) (List.drop (0 : Nat) x))).fst.b.a3
 (etDecode (List.take (List.length x) (List.drop (0 : Nat) x))).fst.b.a4
 (etDecode (List.take (List.length x) (List.drop (0 : Nat) x))).fst.b.a5)
 (etDecode (List.take (List.length x) (List.drop (0 : Nat) x))).fst.ty
 (etDecode
 (List.take (List.length x) (List.drop (0 : Nat) x))).fst.body)).fst.target =
 b) &&
 decide
 ((nbRead
 (Fm.mk
 (Mc.mk (etDecode (List.take (List.length x) (List.drop (0 : Nat) x))).fst.a.a0
 (etDecode (List.take (List.length x) (List.drop (0 : Nat) x))).fst.a.a1
 (etDecode (List.take (List.length x) (List.drop (0 : Nat) x))).fst.a.a2
 (etDecode (List.take (List.length x) (List.drop (0 : Nat) x))).fst.a.a3
 (etDecode (List.take (List.length x) (List.drop (0 : Nat) x))).fst.a.a4
 (etDecode (List.take (List.length x) (List.drop (0 : Nat) x))).fst.a.a5)
 (Mc.mk (etDecode (List.take (List.length x) (List.drop (0 : Nat) x))).fst.b.a0
 (etDecode (List.take (List.length x) (List.drop (0 : Nat) x))).fst.b.a1
 (etDecode (List.take (List.length x) (List.drop (0 : Nat) x))).fst.b.a2
 (etDecode (List.take (List.length x) (List.drop (0 : Nat) x))).fst.b.a3
 (etDecode (List.take (List.length x) (List.drop (0 : Nat) x))).fst.b.a4
 (etDecode (List.take (List.length x) (List.drop (0 : Nat) x))).fst.b.a5)
 (etDecode (List.take (List.length x) (List.drop (0 : Nat) x))).fst.ty
 (etDecode
 (List.take (List.length x) (List.drop (0 : Nat) x))).fst.body)).fst.asked =
 false))))))))))
 (((0 : Int) ≤ (0 : Int) ∧ (0 : Int) < (2 : Int)) ∧
 ((0 : Int) ≤ (1 : Int) ∧ (1 : Int) < (2 : Int)) ∧
 brP
 (decide
 ((nbRead
 (Fm.mk
 (Mc.mk (etDecode (List.take (List.length x_1) (List.drop (0 : Nat) x_1))).fst.a.a0
 (etDecode (List.take (List.length x_1) (List.drop (0 : Nat) x_1))).fst.a.a1
 (etDecode (List.take (List.length x_1) (List.drop (0 : Nat) x_1))).fst.a.a2
 (etDecode (List.take (List.length x_1) (List.drop (0 : Nat) x_1))).fst.a.a3
 (etDecode (List.take (List.length x_1) (List.drop (0 : Nat) x_1))).fst.a.a4
 (etDecode (List.take (List.length x_1) (List.drop (0 : Nat) x_1))).fst.a.a5)
 (Mc.mk (etDecode (List.take (List.length x_1) (List.drop (0 : Nat) x_1))).fst.b.a0
 (etDecode (List.take (List.length x_1) (List.drop (0 : Nat) x_1))).fst.b.a1
 (etDecode (List.take (List.length x_1) (List.drop (0 : Nat) x_1))).fst.b.a2
 (etDecode (List.take (List.length x_1) (List.drop (0 : Nat) x_1))).fst.b.a3
 (etDecode (List.take (List.length x_1) (List.drop (0 : Nat) x_1))).fst.b.a4
 (etDecode (List.take (List.length x_1) (List.drop (0 : Nat) x_1))).fst.b.a5)
 (etDecode (List.take (List.length x_1) (List.drop (0 : Nat) x_1))).fst.ty
 (etDecode
 (List.take (List.length x_1) (List.drop (0 : Nat) x_1))).fst.body)).fst.kind =
 (2 : Int)) &&
 (decide
 ((nbRead
 (Fm.mk
 (Mc.mk (etDecode (List.take (List.length x_1) (List.drop (0 : Nat) x_1))).fst.a.a0
 (etDecode (List.take (List.length x_1) (List.drop (0 : Nat) x_1))).fst.a.a1
 (etDecode (List.take (List.length x_1) (List.drop (0 : Nat) x_1))).fst.a.a2
 (etDecode (List.take (List.length x_1) (List.drop (0 : Nat) x_1))).fst.a.a3
 (etDecode (List.take (List.length x_1) (List.drop (0 : Nat) x_1))).fst.a.a4
 (etDecode (List.take (List.length x_1) (List.drop (0 : Nat) x_1))).fst.a.a5)
 (Mc.mk (etDecode (List.take (List.length x_1) (List.drop (0 : Nat) x_1))).fst.b.a0
 (etDecode (List.take (List.length x_1) (List.drop (0 : Nat) x_1))).fst.b.a1
 (etDecode (List.take (List.length x_1) (List.drop (0 : Nat) x_1))).fst.b.a2
 (etDecode (List.take (List.length x_1) (List.drop (0 : Nat) x_1))).fst.b.a3
 (etDecode (List.take (List.length x_1) (List.drop (0 : Nat) x_1))).fst.b.a4
 (etDecode (List.take (List.length x_1) (List.drop (0 : Nat) x_1))).fst.b.a5)
 (etDecode (List.take (List.length x_1) (List.drop (0 : Nat) x_1))).fst.ty
 (etDecode
 (List.take (List.length x_1)
 (List.drop (0 : Nat) x_1))).fst.body)).fst.mac.a0 =
 m0) &&
 (decide
 ((nbRead
 (Fm.mk
 (Mc.mk
 (etDecode (List.take (List.length x_1) (List.drop (0 : Nat) x_1))).fst.a.a0
 (etDecode (List.take (List.length x_1) (List.drop (0 : Nat) x_1))).fst.a.a1
 (etDecode (List.take (List.length x_1) (List.drop (0 : Nat) x_1))).fst.a.a2
 (etDecode (List.take (List.length x_1) (List.drop (0 : Nat) x_1))).fst.a.a3
 (etDecode (List.take (List.length x_1) (List.drop (0 : Nat) x_1))).fst.a.a4
 (etDecode (List.take (List.length x_1) (List.drop (0 : Nat) x_1))).fst.a.a5)
 (Mc.mk
 (etDecode (List.take (List.length x_1) (List.drop (0 : Nat) x_1))).fst.b.a0
 (etDecode (List.take (List.length x_1) (List.drop (0 : Nat) x_1))).fst.b.a1
 (etDecode (List.take (List.length x_1) (List.drop (0 : Nat) x_1))).fst.b.a2
 (etDecode (List.take (List.length x_1) (List.drop (0 : Nat) x_1))).fst.b.a3
 (etDecode (List.take (List.length x_1) (List.drop (0 : Nat) x_1))).fst.b.a4
 (etDecode (List.take (List.length x_1) (List.drop (0 : Nat) x_1))).fst.b.a5)
 (etDecode (List.take (List.length x_1) (List.drop (0 : Nat) x_1))).fst.ty
 (etDecode
 (List.take (List.length x_1)
 (List.drop (0 : Nat) x_1))).fst.body)).fst.mac.a1 =
 m1) &&
 (decide
 ((nbRead
 (Fm.mk
 (Mc.mk
 (etDecode (List.take (List.length x_1) (List.drop (0 : Nat) x_1))).fst.a.a0
 (etDecode (List.take (List.length x_1) (List.drop (0 : Nat) x_1))).fst.a.a1
 (etDecode (List.take (List.length x_1) (List.drop (0 : Nat) x_1))).fst.a.a2
 (etDecode (List.take (List.length x_1) (List.drop (0 : Nat) x_1))).fst.a.a3
 (etDecode (List.take (List.length x_1) (List.drop (0 : Nat) x_1))).fst.a.a4
 (etDecode (List.take (List.length x_1) (List.drop (0 : Nat) x_1))).fst.a.a5)
 (Mc.mk
 (etDecode (List.take (List.length x_1) (List.drop (0 : Nat) x_1))).fst.b.a0
 (etDecode (List.take (List.length x_1) (List.drop (0 : Nat) x_1))).fst.b.a1
 (etDecode (List.take (List.length x_1) (List.drop (0 : Nat) x_1))).fst.b.a2
 (etDecode (List.take (List.length x_1) (List.drop (0 : Nat) x_1))).fst.b.a3
 (etDecode (List.take (List.length x_1) (List.drop (0 : Nat) x_1))).fst.b.a4
 (etDecode (List.take (List.length x_1) (List.drop (0 : Nat) x_1))).fst.b.a5)
 (etDecode (List.take (List.length x_1) (List.drop (0 : Nat) x_1))).fst.ty
 (etDecode
 (List.take (List.length x_1)
 (List.drop (0 : Nat) x_1))).fst.body)).fst.mac.a2 =
 m2) &&
 (decide
 ((nbRead
 (Fm.mk
 (Mc.mk
 (etDecode (List.take (List.length x_1) (List.drop (0 : Nat) x_1))).fst.a.a0
 (etDecode (List.take (List.length x_1) (List.drop (0 : Nat) x_1))).fst.a.a1
 (etDecode (List.take (List.length x_1) (List.drop (0 : Nat) x_1))).fst.a.a2
 (etDecode (List.take (List.length x_1) (List.drop (0 : Nat) x_1))).fst.a.a3
 (etDecode (List.take (List.length x_1) (List.drop (0 : Nat) x_1))).fst.a.a4
 (etDecode (List.take (List.length x_1) (List.drop (0 : Nat) x_1))).fst.a.a5)
 (Mc.mk
 (etDecode (List.take (List.length x_1) (List.drop (0 : Nat) x_1))).fst.b.a0
 (etDecode (List.take (List.length x_1) (List.drop (0 : Nat) x_1))).fst.b.a1
 (etDecode (List.take (List.length x_1) (List.drop (0 : Nat) x_1))).fst.b.a2
 (etDecode (List.take (List.length x_1) (List.drop (0 : Nat) x_1))).fst.b.a3
 (etDecode (List.take (List.length x_1) (List.drop (0 : Nat) x_1))).fst.b.a4
 (etDecode (List.take (List.length x_1) (List.drop (0 : Nat) x_1))).fst.b.a5)
 (etDecode (List.take (List.length x_1) (List.drop (0 : Nat) x_1))).fst.ty
 (etDecode
 (List.take (List.length x_1)
 (List.drop (0 : Nat) x_1))).fst.body)).fst.mac.a3 =
 m3) &&
 (decide
 ((nbRead
 (Fm.mk
 (Mc.mk
 (etDecode (List.take (List.length x_1) (List.drop (0 : Nat) x_1))).fst.a.a0
 (etDecode (List.take (List.length x_1) (List.drop (0 : Nat) x_1))).fst.a.a1
 (etDecode (List.take (List.length x_1) (List.drop (0 : Nat) x_1))).fst.a.a2
 (etDecode (List.take (List.length x_1) (List.drop (0 : Nat) x_1))).fst.a.a3
 (etDecode (List.take (List.length x_1) (List.drop (0 : Nat) x_1))).fst.a.a4
 (etDecode (List.take (List.length x_1) (List.drop (0 : Nat) x_1))).fst.a.a5)
 (Mc.mk
 (etDecode (List.take (List.length x_1) (List.drop (0 : Nat) x_1))).fst.b.a0
 (etDecode (List.take (List.length x_1) (List.drop (0 : Nat) x_1))).fst.b.a1
 (etDecode (List.take (List.length x_1) (List.drop (0 : Nat) x_1))).fst.b.a2
 (etDecode (List.take (List.length x_1) (List.drop (0 : Nat) x_1))).fst.b.a3
 (etDecode (List.take (List.length x_1) (List.drop (0 : Nat) x_1))).fst.b.a4
 (etDecode (List.take (List.length x_1) (List.drop (0 : Nat) x_1))).fst.b.a5)
 (etDecode (List.take (List.length x_1) (List.drop (0 : Nat) x_1))).fst.ty
 (etDecode
 (List.take (List.length x_1)
 (List.drop (0 : Nat) x_1))).fst.body)).fst.mac.a4 =
 m4) &&
 (decide
 ((nbRead
 (Fm.mk
 (Mc.mk
 (etDecode (List.take (List.length x_1) (List.drop (0 : Nat) x_1))).fst.a.a0
 (etDecode (List.take (List.length x_1) (List.drop (0 : Nat) x_1))).fst.a.a1
 (etDecode (List.take (List.length x_1) (List.drop (0 : Nat) x_1))).fst.a.a2
 (etDecode (List.take (List.length x_1) (List.drop (0 : Nat) x_1))).fst.a.a3
 (etDecode (List.take (List.length x_1) (List.drop (0 : Nat) x_1))).fst.a.a4
 (etDecode (List.take (List.length x_1) (List.drop (0 : Nat) x_1))).fst.a.a5)
 (Mc.mk
 (etDecode (List.take (List.length x_1) (List.drop (0 : Nat) x_1))).fst.b.a0
 (etDecode (List.take (List.length x_1) (List.drop (0 : Nat) x_1))).fst.b.a1
 (etDecode (List.take (List.length x_1) (List.drop (0 : Nat) x_1))).fst.b.a2
 (etDecode (List.take (List.length x_1) (List.drop (0 : Nat) x_1))).fst.b.a3
 (etDecode (List.take (List.length x_1) (List.drop (0 : Nat) x_1))).fst.b.a4
 (etDecode (List.take (List.length x_1) (List.drop (0 : Nat) x_1))).fst.b.a5)
 (etDecode (List.take (List.length x_1) (List.drop (0 : Nat) x_1))).fst.ty
 (etDecode
 (List.take (List.length x_1)
 (List.drop (0 : Nat) x_1))).fst.body)).fst.mac.a5 =
 m5) &&
 (decide
 ((nbRead
 (Fm.mk
 (Mc.mk
 (etDecode (List.take (List.length x_1) (List.drop (0 : Nat) x_1))).fst.a.a0
 (etDecode (List.take (List.length x_1) (List.drop (0 : Nat) x_1))).fst.a.a1
 (etDecode (List.take (List.length x_1) (List.drop (0 : Nat) x_1))).fst.a.a2
 (etDecode (List.take (List.length x_1) (List.drop (0 : Nat) x_1))).fst.a.a3
 (etDecode (List.take (List.length x_1) (List.drop (0 : Nat) x_1))).fst.a.a4
 (etDecode (List.take (List.length x_1) (List.drop (0 : Nat) x_1))).fst.a.a5)
 (Mc.mk
 (etDecode (List.take (List.length x_1) (List.drop (0 : Nat) x_1))).fst.b.a0
 (etDecode (List.take (List.length x_1) (List.drop (0 : Nat) x_1))).fst.b.a1
 (etDecode (List.take (List.length x_1) (List.drop (0 : Nat) x_1))).fst.b.a2
 (etDecode (List.take (List.length x_1) (List.drop (0 : Nat) x_1))).fst.b.a3
 (etDecode (List.take (List.length x_1) (List.drop (0 : Nat) x_1))).fst.b.a4
 (etDecode (List.take (List.length x_1) (List.drop (0 : Nat) x_1))).fst.b.a5)
 (etDecode (List.take (List.length x_1) (List.drop (0 : Nat) x_1))).fst.ty
 (etDecode
 (List.take (List.length x_1)
 (List.drop (0 : Nat) x_1))).fst.body)).fst.addr =
 a) &&
 (decide
 ((nbRead
 (Fm.mk
 (Mc.mk
 (etDecode (List.take (List.length x_1) (List.drop (0 : Nat) x_1))).fst.a.a0
 (etDecode (List.take (List.length x_1) (List.drop (0 : Nat) x_1))).fst.a.a1
 (etDecode (List.take (List.length x_1) (List.drop (0 : Nat) x_1))).fst.a.a2
 (etDecode (List.take (List.length x_1) (List.drop (0 : Nat) x_1))).fst.a.a3
 (etDecode (List.take (List.length x_1) (List.drop (0 : Nat) x_1))).fst.a.a4
 (etDecode
 (List.take (List.length x_1) (List.drop (0 : Nat) x_1))).fst.a.a5)
 (Mc.mk
 (etDecode (List.take (List.length x_1) (List.drop (0 : Nat) x_1))).fst.b.a0
 (etDecode (List.take (List.length x_1) (List.drop (0 : Nat) x_1))).fst.b.a1
 (etDecode (List.take (List.length x_1) (List.drop (0 : Nat) x_1))).fst.b.a2
 (etDecode (List.take (List.length x_1) (List.drop (0 : Nat) x_1))).fst.b.a3
 (etDecode (List.take (List.length x_1) (List.drop (0 : Nat) x_1))).fst.b.a4
 (etDecode
 (List.take (List.length x_1) (List.drop (0 : Nat) x_1))).fst.b.a5)
 (etDecode (List.take (List.length x_1) (List.drop (0 : Nat) x_1))).fst.ty
 (etDecode
 (List.take (List.length x_1)
 (List.drop (0 : Nat) x_1))).fst.body)).fst.target =
 b) &&
 decide
 ((nbRead
 (Fm.mk
 (Mc.mk
 (etDecode (List.take (List.length x_1) (List.drop (0 : Nat) x_1))).fst.a.a0
 (etDecode (List.take (List.length x_1) (List.drop (0 : Nat) x_1))).fst.a.a1
 (etDecode (List.take (List.length x_1) (List.drop (0 : Nat) x_1))).fst.a.a2
 (etDecode (List.take (List.length x_1) (List.drop (0 : Nat) x_1))).fst.a.a3
 (etDecode (List.take (List.length x_1) (List.drop (0 : Nat) x_1))).fst.a.a4
 (etDecode
 (List.take (List.length x_1) (List.drop (0 : Nat) x_1))).fst.a.a5)
 (Mc.mk
 (etDecode (List.take (List.length x_1) (List.drop (0 : Nat) x_1))).fst.b.a0
 (etDecode (List.take (List.length x_1) (List.drop (0 : Nat) x_1))).fst.b.a1
 (etDecode (List.take (List.length x_1) (List.drop (0 : Nat) x_1))).fst.b.a2
 (etDecode (List.take (List.length x_1) (List.drop (0 : Nat) x_1))).fst.b.a3
 (etDecode (List.take (List.length x_1) (List.drop (0 : Nat) x_1))).fst.b.a4
 (etDecode
 (List.take (List.length x_1) (List.drop (0 : Nat) x_1))).fst.b.a5)
 (etDecode (List.take (List.length x_1) (List.drop (0 : Nat) x_1))).fst.ty
 (etDecode
 (List.take (List.length x_1)
 (List.drop (0 : Nat) x_1))).fst.body)).fst.asked =
 true))))))))))
 (brP
 (decide
 ((nbRead
 (Fm.mk
 (Mc.mk (etDecode (List.take (List.length x_2) (List.drop (0 : Nat) x_2))).fst.a.a0
 (etDecode (List.take (List.length x_2) (List.drop (0 : Nat) x_2))).fst.a.a1
 (etDecode (List.take (List.length x_2) (List.drop (0 : Nat) x_2))).fst.a.a2
 (etDecode (List.take (List.length x_2) (List.drop (0 : Nat) x_2))).fst.a.a3
 (etDecode (List.take (List.length x_2) (List.drop (0 : Nat) x_2))).fst.a.a4
 (etDecode (List.take (List.length x_2) (List.drop (0 : Nat) x_2))).fst.a.a5)
 (Mc.mk (etDecode (List.take (List.length x_2) (List.drop (0 : Nat) x_2))).fst.b.a0
 (etDecode (List.take (List.length x_2) (List.drop (0 : Nat) x_2))).fst.b.a1
 (etDecode (List.take (List.length x_2) (List.drop (0 : Nat) x_2))).fst.b.a2
 (etDecode (List.take (List.length x_2) (List.drop (0 : Nat) x_2))).fst.b.a3
 (etDecode (List.take (List.length x_2) (List.drop (0 : Nat) x_2))).fst.b.a4
 (etDecode (List.take (List.length x_2) (List.drop (0 : Nat) x_2))).fst.b.a5)
 (etDecode (List.take (List.length x_2) (List.drop (0 : Nat) x_2))).fst.ty
 (etDecode
 (List.take (List.length x_2)
 (List.drop (0 : Nat) x_2))).fst.body)).fst.mac.a0 =
 m0) &&
 (decide
 ((nbRead
 (Fm.mk
 (Mc.mk
 (etDecode (List.take (List.length x_2) (List.drop (0 : Nat) x_2))).fst.a.a0
 (etDecode (List.take (List.length x_2) (List.drop (0 : Nat) x_2))).fst.a.a1
 (etDecode (List.take (List.length x_2) (List.drop (0 : Nat) x_2))).fst.a.a2
 (etDecode (List.take (List.length x_2) (List.drop (0 : Nat) x_2))).fst.a.a3
 (etDecode (List.take (List.length x_2) (List.drop (0 : Nat) x_2))).fst.a.a4
 (etDecode (List.take (List.length x_2) (List.drop (0 : Nat) x_2))).fst.a.a5)
 (Mc.mk
 (etDecode (List.take (List.length x_2) (List.drop (0 : Nat) x_2))).fst.b.a0
 (etDecode (List.take (List.length x_2) (List.drop (0 : Nat) x_2))).fst.b.a1
 (etDecode (List.take (List.length x_2) (List.drop (0 : Nat) x_2))).fst.b.a2
 (etDecode (List.take (List.length x_2) (List.drop (0 : Nat) x_2))).fst.b.a3
 (etDecode (List.take (List.length x_2) (List.drop (0 : Nat) x_2))).fst.b.a4
 (etDecode (List.take (List.length x_2) (List.drop (0 : Nat) x_2))).fst.b.a5)
 (etDecode (List.take (List.length x_2) (List.drop (0 : Nat) x_2))).fst.ty
 (etDecode
 (List.take (List.length x_2)
 (List.drop (0 : Nat) x_2))).fst.body)).fst.mac.a1 =
 m1) &&
 (decide
 ((nbRead
 (Fm.mk
 (Mc.mk
 (etDecode (List.take (List.length x_2) (List.drop (0 : Nat) x_2))).fst.a.a0
 (etDecode (List.take (List.length x_2) (List.drop (0 : Nat) x_2))).fst.a.a1
 (etDecode (List.take (List.length x_2) (List.drop (0 : Nat) x_2))).fst.a.a2
 (etDecode (List.take (List.length x_2) (List.drop (0 : Nat) x_2))).fst.a.a3
 (etDecode (List.take (List.length x_2) (List.drop (0 : Nat) x_2))).fst.a.a4
 (etDecode (List.take (List.length x_2) (List.drop (0 : Nat) x_2))).fst.a.a5)
 (Mc.mk
 (etDecode (List.take (List.length x_2) (List.drop (0 : Nat) x_2))).fst.b.a0
 (etDecode (List.take (List.length x_2) (List.drop (0 : Nat) x_2))).fst.b.a1
 (etDecode (List.take (List.length x_2) (List.drop (0 : Nat) x_2))).fst.b.a2
 (etDecode (List.take (List.length x_2) (List.drop (0 : Nat) x_2))).fst.b.a3
 (etDecode (List.take (List.length x_2) (List.drop (0 : Nat) x_2))).fst.b.a4
 (etDecode (List.take (List.length x_2) (List.drop (0 : Nat) x_2))).fst.b.a5)
 (etDecode (List.take (List.length x_2) (List.drop (0 : Nat) x_2))).fst.ty
 (etDecode
 (List.take (List.length x_2)
 (List.drop (0 : Nat) x_2))).fst.body)).fst.mac.a2 =
 m2) &&
 (decide
 ((nbRead
 (Fm.mk
 (Mc.mk
 (etDecode (List.take (List.length x_2) (List.drop (0 : Nat) x_2))).fst.a.a0
 (etDecode (List.take (List.length x_2) (List.drop (0 : Nat) x_2))).fst.a.a1
 (etDecode (List.take (List.length x_2) (List.drop (0 : Nat) x_2))).fst.a.a2
 (etDecode (List.take (List.length x_2) (List.drop (0 : Nat) x_2))).fst.a.a3
 (etDecode (List.take (List.length x_2) (List.drop (0 : Nat) x_2))).fst.a.a4
 (etDecode (List.take (List.length x_2) (List.drop (0 : Nat) x_2))).fst.a.a5)
 (Mc.mk
 (etDecode (List.take (List.length x_2) (List.drop (0 : Nat) x_2))).fst.b.a0
 (etDecode (List.take (List.length x_2) (List.drop (0 : Nat) x_2))).fst.b.a1
 (etDecode (List.take (List.length x_2) (List.drop (0 : Nat) x_2))).fst.b.a2
 (etDecode (List.take (List.length x_2) (List.drop (0 : Nat) x_2))).fst.b.a3
 (etDecode (List.take (List.length x_2) (List.drop (0 : Nat) x_2))).fst.b.a4
 (etDecode (List.take (List.length x_2) (List.drop (0 : Nat) x_2))).fst.b.a5)
 (etDecode (List.take (List.length x_2) (List.drop (0 : Nat) x_2))).fst.ty
 (etDecode
 (List.take (List.length x_2)
 (List.drop (0 : Nat) x_2))).fst.body)).fst.mac.a3 =
 m3) &&
 (decide
 ((nbRead
 (Fm.mk
 (Mc.mk
 (etDecode (List.take (List.length x_2) (List.drop (0 : Nat) x_2))).fst.a.a0
 (etDecode (List.take (List.length x_2) (List.drop (0 : Nat) x_2))).fst.a.a1
 (etDecode (List.take (List.length x_2) (List.drop (0 : Nat) x_2))).fst.a.a2
 (etDecode (List.take (List.length x_2) (List.drop (0 : Nat) x_2))).fst.a.a3
 (etDecode (List.take (List.length x_2) (List.drop (0 : Nat) x_2))).fst.a.a4
 (etDecode (List.take (List.length x_2) (List.drop (0 : Nat) x_2))).fst.a.a5)
 (Mc.mk
 (etDecode (List.take (List.length x_2) (List.drop (0 : Nat) x_2))).fst.b.a0
 (etDecode (List.take (List.length x_2) (List.drop (0 : Nat) x_2))).fst.b.a1
 (etDecode (List.take (List.length x_2) (List.drop (0 : Nat) x_2))).fst.b.a2
 (etDecode (List.take (List.length x_2) (List.drop (0 : Nat) x_2))).fst.b.a3
 (etDecode (List.take (List.length x_2) (List.drop (0 : Nat) x_2))).fst.b.a4
 (etDecode (List.take (List.length x_2) (List.drop (0 : Nat) x_2))).fst.b.a5)
 (etDecode (List.take (List.length x_2) (List.drop (0 : Nat) x_2))).fst.ty
 (etDecode
 (List.take (List.length x_2)
 (List.drop (0 : Nat) x_2))).fst.body)).fst.mac.a4 =
 m4) &&
 decide
 ((nbRead
 (Fm.mk
 (Mc.mk
 (etDecode (List.take (List.length x_2) (List.drop (0 : Nat) x_2))).fst.a.a0
 (etDecode (List.take (List.length x_2) (List.drop (0 : Nat) x_2))).fst.a.a1
 (etDecode (List.take (List.length x_2) (List.drop (0 : Nat) x_2))).fst.a.a2
 (etDecode (List.take (List.length x_2) (List.drop (0 : Nat) x_2))).fst.a.a3
 (etDecode (List.take (List.length x_2) (List.drop (0 : Nat) x_2))).fst.a.a4
 (etDecode (List.take (List.length x_2) (List.drop (0 : Nat) x_2))).fst.a.a5)
 (Mc.mk
 (etDecode (List.take (List.length x_2) (List.drop (0 : Nat) x_2))).fst.b.a0
 (etDecode (List.take (List.length x_2) (List.drop (0 : Nat) x_2))).fst.b.a1
 (etDecode (List.take (List.length x_2) (List.drop (0 : Nat) x_2))).fst.b.a2
 (etDecode (List.take (List.length x_2) (List.drop (0 : Nat) x_2))).fst.b.a3
 (etDecode (List.take (List.length x_2) (List.drop (0 : Nat) x_2))).fst.b.a4
 (etDecode (List.take (List.length x_2) (List.drop (0 : Nat) x_2))).fst.b.a5)
 (etDecode (List.take (List.length x_2) (List.drop (0 : Nat) x_2))).fst.ty
 (etDecode
 (List.take (List.length x_2)
 (List.drop (0 : Nat) x_2))).fst.body)).fst.mac.a5 =
 m5))))))
 (((0 : Int) ≤ (0 : Int) ∧ (0 : Int) < (2 : Int)) ∧
 brP
 (decide
 ((nbRead
 (Fm.mk
 (Mc.mk (etDecode (List.take (List.length x_2) (List.drop (0 : Nat) x_2))).fst.a.a0
 (etDecode (List.take (List.length x_2) (List.drop (0 : Nat) x_2))).fst.a.a1
 (etDecode (List.take (List.length x_2) (List.drop (0 : Nat) x_2))).fst.a.a2
 (etDecode (List.take (List.length x_2) (List.drop (0 : Nat) x_2))).fst.a.a3
 (etDecode (List.take (List.length x_2) (List.drop (0 : Nat) x_2))).fst.a.a4
 (etDecode (List.take (List.length x_2) (List.drop (0 : Nat) x_2))).fst.a.a5)
 (Mc.mk (etDecode (List.take (List.length x_2) (List.drop (0 : Nat) x_2))).fst.b.a0
 (etDecode (List.take (List.length x_2) (List.drop (0 : Nat) x_2))).fst.b.a1
 (etDecode (List.take (List.length x_2) (List.drop (0 : Nat) x_2))).fst.b.a2
 (etDecode (List.take (List.length x_2) (List.drop (0 : Nat) x_2))).fst.b.a3
 (etDecode (List.take (List.length x_2) (List.drop (0 : Nat) x_2))).fst.b.a4
 (etDecode (List.take (List.length x_2) (List.drop (0 : Nat) x_2))).fst.b.a5)
 (etDecode (List.take (List.length x_2) (List.drop (0 : Nat) x_2))).fst.ty
 (etDecode
 (List.take (List.length x_2) (List.drop (0 : Nat) x_2))).fst.body)).fst.addr =
 a))
 (brP
 (!(nbRead
 (Fm.mk
 (Mc.mk (etDecode (List.take (List.length x_2) (List.drop (0 : Nat) x_2))).fst.a.a0
 (etDecode (List.take (List.length x_2) (List.drop (0 : Nat) x_2))).fst.a.a1
 (etDecode (List.take (List.length x_2) (List.drop (0 : Nat) x_2))).fst.a.a2
 (etDecode (List.take (List.length x_2) (List.drop (0 : Nat) x_2))).fst.a.a3
 (etDecode (List.take (List.length x_2) (List.drop (0 : Nat) x_2))).fst.a.a4
 (etDecode (List.take (List.length x_2) (List.drop (0 : Nat) x_2))).fst.a.a5)
 (Mc.mk (etDecode (List.take (List.length x_2) (List.drop (0 : Nat) x_2))).fst.b.a0
 (etDecode (List.take (List.length x_2) (List.drop (0 : Nat) x_2))).fst.b.a1
 (etDecode (List.take (List.length x_2) (List.drop (0 : Nat) x_2))).fst.b.a2
 (etDecode (List.take (List.length x_2) (List.drop (0 : Nat) x_2))).fst.b.a3
 (etDecode (List.take (List.length x_2) (List.drop (0 : Nat) x_2))).fst.b.a4
 (etDecode (List.take (List.length x_2) (List.drop (0 : Nat) x_2))).fst.b.a5)
 (etDecode (List.take (List.length x_2) (List.drop (0 : Nat) x_2))).fst.ty
 (etDecode
 (List.take (List.length x_2) (List.drop (0 : Nat) x_2))).fst.body)).fst.asked)
 (brP
 (decide
 (decide
 ((nbRead
 (Fm.mk
 (Mc.mk
 (etDecode (List.take (List.length x_2) (List.drop (0 : Nat) x_2))).fst.a.a0
 (etDecode (List.take (List.length x_2) (List.drop (0 : Nat) x_2))).fst.a.a1
 (etDecode (List.take (List.length x_2) (List.drop (0 : Nat) x_2))).fst.a.a2
 (etDecode (List.take (List.length x_2) (List.drop (0 : Nat) x_2))).fst.a.a3
 (etDecode (List.take (List.length x_2) (List.drop (0 : Nat) x_2))).fst.a.a4
 (etDecode (List.take (List.length x_2) (List.drop (0 : Nat) x_2))).fst.a.a5)
 (Mc.mk
 (etDecode (List.take (List.length x_2) (List.drop (0 : Nat) x_2))).fst.b.a0
 (etDecode (List.take (List.length x_2) (List.drop (0 : Nat) x_2))).fst.b.a1
 (etDecode (List.take (List.length x_2) (List.drop (0 : Nat) x_2))).fst.b.a2
 (etDecode (List.take (List.length x_2) (List.drop (0 : Nat) x_2))).fst.b.a3
 (etDecode (List.take (List.length x_2) (List.drop (0 : Nat) x_2))).fst.b.a4
 (etDecode (List.take (List.length x_2) (List.drop (0 : Nat) x_2))).fst.b.a5)
 (etDecode (List.take (List.length x_2) (List.drop (0 : Nat) x_2))).fst.ty
 (etDecode
 (List.take (List.length x_2)
 (List.drop (0 : Nat) x_2))).fst.body)).fst.kind =
 (2 : Int)) =
 decide ((↑(List.length a) : Int) = (16 : Int))))
 (brP (decide ((↑(List.length a) : Int) = (16 : Int))) (K (AVal.bool true) [])
 (((0 : Int) ≤ (0 : Int) ∧ (0 : Int) < (2 : Int)) ∧
 K
 (AVal.bool
 (decide
 ((nbRead
 (Fm.mk
 (Mc.mk
 (etDecode (List.take (List.length x_2) (List.drop (0 : Nat) x_2))).fst.a.a0
 (etDecode (List.take (List.length x_2) (List.drop (0 : Nat) x_2))).fst.a.a1
 (etDecode (List.take (List.length x_2) (List.drop (0 : Nat) x_2))).fst.a.a2
 (etDecode (List.take (List.length x_2) (List.drop (0 : Nat) x_2))).fst.a.a3
 (etDecode (List.take (List.length x_2) (List.drop (0 : Nat) x_2))).fst.a.a4
 (etDecode
 (List.take (List.length x_2) (List.drop (0 : Nat) x_2))).fst.a.a5)
 (Mc.mk
 (etDecode (List.take (List.length x_2) (List.drop (0 : Nat) x_2))).fst.b.a0
 (etDecode (List.take (List.length x_2) (List.drop (0 : Nat) x_2))).fst.b.a1
 (etDecode (List.take (List.length x_2) (List.drop (0 : Nat) x_2))).fst.b.a2
 (etDecode (List.take (List.length x_2) (List.drop (0 : Nat) x_2))).fst.b.a3
 (etDecode (List.take (List.length x_2) (List.drop (0 : Nat) x_2))).fst.b.a4
 (etDecode
 (List.take (List.length x_2) (List.drop (0 : Nat) x_2))).fst.b.a5)
 (etDecode (List.take (List.length x_2) (List.drop (0 : Nat) x_2))).fst.ty
 (etDecode
 (List.take (List.length x_2)
 (List.drop (0 : Nat) x_2))).fst.body)).fst.target =
 a)))
 []))
 (K (AVal.bool false) []))
 (K (AVal.bool false) []))
 (K (AVal.bool false) []))
 (K (AVal.bool false) []))
 (K (AVal.bool false) []))
 (K (AVal.bool false) [])))
 (brP
 (!decide
 ((nbRead
 (Fm.mk
 (Mc.mk (etDecode (List.take (List.length x) (List.drop (0 : Nat) x))).fst.a.a0
 (etDecode (List.take (List.length x) (List.drop (0 : Nat) x))).fst.a.a1
 (etDecode (List.take (List.length x) (List.drop (0 : Nat) x))).fst.a.a2
 (etDecode (List.take (List.length x) (List.drop (0 : Nat) x))).fst.a.a3
 (etDecode (List.take (List.length x) (List.drop (0 : Nat) x))).fst.a.a4
 (etDecode (List.take (List.length x) (List.drop (0 : Nat) x))).fst.a.a5)
 (Mc.mk (etDecode (List.take (List.length x) (List.drop (0 : Nat) x))).fst.b.a0
 (etDecode (List.take (List.length x) (List.drop (0 : Nat) x))).fst.b.a1
 (etDecode (List.take (List.length x) (List.drop (0 : Nat) x))).fst.b.a2
 (etDecode (List.take (List.length x) (List.drop (0 : Nat) x))).fst.b.a3
 (etDecode (List.take (List.length x) (List.drop (0 : Nat) x))).fst.b.a4
 (etDecode (List.take (List.length x) (List.drop (0 : Nat) x))).fst.b.a5)
 (etDecode (List.take (List.length x) (List.drop (0 : Nat) x))).fst.ty
 (etDecode (List.take (List.length x) (List.drop (0 : Nat) x))).fst.body)).snd =
 (0 : Int)) ||
 !decide
 ((nbRead
 (Fm.mk
 (Mc.mk (etDecode (List.take (List.length x_1) (List.drop (0 : Nat) x_1))).fst.a.a0
 (etDecode (List.take (List.length x_1) (List.drop (0 : Nat) x_1))).fst.a.a1
 (etDecode (List.take (List.length x_1) (List.drop (0 : Nat) x_1))).fst.a.a2
 (etDecode (List.take (List.length x_1) (List.drop (0 : Nat) x_1))).fst.a.a3
 (etDecode (List.take (List.length x_1) (List.drop (0 : Nat) x_1))).fst.a.a4
 (etDecode (List.take (List.length x_1) (List.drop (0 : Nat) x_1))).fst.a.a5)
 (Mc.mk (etDecode (List.take (List.length x_1) (List.drop (0 : Nat) x_1))).fst.b.a0
 (etDecode (List.take (List.length x_1) (List.drop (0 : Nat) x_1))).fst.b.a1
 (etDecode (List.take (List.length x_1) (List.drop (0 : Nat) x_1))).fst.b.a2
 (etDecode (List.take (List.length x_1) (List.drop (0 : Nat) x_1))).fst.b.a3
 (etDecode (List.take (List.length x_1) (List.drop (0 : Nat) x_1))).fst.b.a4
 (etDecode (List.take (List.length x_1) (List.drop (0 : Nat) x_1))).fst.b.a5)
 (etDecode (List.take (List.length x_1) (List.drop (0 : Nat) x_1))).fst.ty
 (etDecode (List.take (List.length x_1) (List.drop (0 : Nat) x_1))).fst.body)).snd =
 (0 : Int)) ||
 true)
 (K (AVal.bool false) [])
 (((0 : Int) ≤ (0 : Int) ∧ (0 : Int) < (2 : Int)) ∧
 ((0 : Int) ≤ (0 : Int) ∧ (0 : Int) < (2 : Int)) ∧
 ((0 : Int) ≤ (1 : Int) ∧ (1 : Int) < (2 : Int)) ∧
 brP
 (decide
 ((nbRead
 (Fm.mk
 (Mc.mk (etDecode (List.take (List.length x) (List.drop (0 : Nat) x))).fst.a.a0
 (etDecode (List.take (List.length x) (List.drop (0 : Nat) x))).fst.a.a1
 (etDecode (List.take (List.length x) (List.drop (0 : Nat) x))).fst.a.a2
 (etDecode (List.take (List.length x) (List.drop (0 : Nat) x))).fst.a.a3
 (etDecode (List.take (List.length x) (List.drop (0 : Nat) x))).fst.a.a4
 (etDecode (List.take (List.length x) (List.drop (0 : Nat) x))).fst.a.a5)
 (Mc.mk (etDecode (List.take (List.length x) (List.drop (0 : Nat) x))).fst.b.a0
 (etDecode (List.take (List.length x) (List.drop (0 : Nat) x))).fst.b.a1
 (etDecode (List.take (List.length x) (List.drop (0 : Nat) x))).fst.b.a2
 (etDecode (List.take (List.length x) (List.drop (0 : Nat) x))).fst.b.a3
 (etDecode (List.take (List.length x) (List.drop (0 : Nat) x))).fst.b.a4
 (etDecode (List.take (List.length x) (List.drop (0 : Nat) x))).fst.b.a5)
 (etDecode (List.take (List.length x) (List.drop (0 : Nat) x))).fst.ty
 (etDecode (List.take (List.length x) (List.drop (0 : Nat) x))).fst.body)).fst.kind =
 (1 : Int)) &&
 (decide
 ((nbRead
 (Fm.mk
 (Mc.mk (etDecode (List.take (List.length x) (List.drop (0 : Nat) x))).fst.a.a0
 (etDecode (List.take (List.length x) (List.drop (0 : Nat) x))).fst.a.a1
 (etDecode (List.take (List.length x) (List.drop (0 : Nat) x))).fst.a.a2
 (etDecode (List.take (List.length x) (List.drop (0 : Nat) x))).fst.a.a3
 (etDecode (List.take (List.length x) (List.drop (0 : Nat) x))).fst.a.a4
 (etDecode (List.take (List.length x) (List.drop (0 : Nat) x))).fst.a.a5)
 (Mc.mk (etDecode (List.take (List.length x) (List.drop (0 : Nat) x))).fst.b.a0
 (etDecode (List.take (List.length x) (List.drop (0 : Nat) x))).fst.b.a1
 (etDecode (List.take (List.length x) (List.drop (0 : Nat) x))).fst.b.a2
 (etDecode (List.take (List.length x) (List.drop (0 : Nat) x))).fst.b.a3
 (etDecode (List.take (List.length x) (List.drop (0 : Nat) x))).fst.b.a4
 (etDecode (List.take (List.length x) (List.drop (0 : Nat) x))).fst.b.a5)
 (etDecode (List.take (List.length x) (List.drop (0 : Nat) x))).fst.ty
 (etDecode
 (List.take (List.length x) (List.drop (0 : Nat) x))).fst.body)).fst.mac.a0 =
 m0) &&
 (decide
 ((nbRead
 (Fm.mk
 (Mc.mk (etDecode (List.take (List.length x) (List.drop (0 : Nat) x))).fst.a.a0
 (etDecode (List.take (List.length x) (List.drop (0 : Nat) x))).fst.a.a1
 (etDecode (List.take (List.length x) (List.drop (0 : Nat) x))).fst.a.a2
 (etDecode (List.take (List.length x) (List.drop (0 : Nat) x))).fst.a.a3
 (etDecode (List.take (List.length x) (List.drop (0 : Nat) x))).fst.a.a4
 (etDecode (List.take (List.length x) (List.drop (0 : Nat) x))).fst.a.a5)
 (Mc.mk (etDecode (List.take (List.length x) (List.drop (0 : Nat) x))).fst.b.a0
 (etDecode (List.take (List.length x) (List.drop (0 : Nat) x))).fst.b.a1
 (etDecode (List.take (List.length x) (List.drop (0 : Nat) x))).fst.b.a2
 (etDecode (List.take (List.length x) (List.drop (0 : Nat) x))).fst.b.a3
 (etDecode (List.take (List.length x) (List.drop (0 : Nat) x))).fst.b.a4
 (etDecode (List.take (List.length x) (List.drop (0 : Nat) x))).fst.b.a5)
 (etDecode (List.take (List.length x) (List.drop (0 : Nat) x))).fst.ty
 (etDecode
 (List.take (List.length x) (List.drop (0 : Nat) x))).fst.body)).fst.mac.a1 =
 m1) &&
 (decide
 ((nbRead
 (Fm.mk
 (Mc.mk (etDecode (List.take (List.length x) (List.drop (0 : Nat) x))).fst.a.a0
 (etDecode (List.take (List.length x) (List.drop (0 : Nat) x))).fst.a.a1
 (etDecode (List.take (List.length x) (List.drop (0 : Nat) x))).fst.a.a2
 (etDecode (List.take (List.length x) (List.drop (0 : Nat) x))).fst.a.a3
 (etDecode (List.take (List.length x) (List.drop (0 : Nat) x))).fst.a.a4
 (etDecode (List.take (List.length x) (List.drop (0 : Nat) x))).fst.a.a5)
 (Mc.mk (etDecode (List.take (List.length x) (List.drop (0 : Nat) x))).fst.b.a0
 (etDecode (List.take (List.length x) (List.drop (0 : Nat) x))).fst.b.a1
 (etDecode (List.take (List.length x) (List.drop (0 : Nat) x))).fst.b.a2
 (etDecode (List.take (List.length x) (List.drop (0 : Nat) x))).fst.b.a3
 (etDecode (List.take (List.length x) (List.drop (0 : Nat) x))).fst.b.a4
 (etDecode (List.take (List.length x) (List.drop (0 : Nat) x))).fst.b.a5)
 (etDecode (List.take (List.length x) (List.drop (0 : Nat) x))).fst.ty
 (etDecode
 (List.take (List.length x) (List.drop (0 : Nat) x))).fst.body)).fst.mac.a2 =
 m2) &&
 (decide
 ((nbRead
 (Fm.mk
 (Mc.mk (etDecode (List.take (List.length x) (List.drop (0 : Nat) x))).fst.a.a0
 (etDecode (List.take (List.length x) (List.drop (0 : Nat) x))).fst.a.a1
 (etDecode (List.take (List.length x) (List.drop (0 : Nat) x))).fst.a.a2
 (etDecode (List.take (List.length x) (List.drop (0 : Nat) x))).fst.a.a3
 (etDecode (List.take (List.length x) (List.drop (0 : Nat) x))).fst.a.a4
 (etDecode (List.take (List.length x) (List.drop (0 : Nat) x))).fst.a.a5)
 (Mc.mk (etDecode (List.take (List.length x) (List.drop (0 : Nat) x))).fst.b.a0
 (etDecode (List.take (List.length x) (List.drop (0 : Nat) x))).fst.b.a1
 (etDecode (List.take (List.length x) (List.drop (0 : Nat) x))).fst.b.a2
 (etDecode (List.take (List.length x) (List.drop (0 : Nat) x))).fst.b.a3
 (etDecode (List.take (List.length x) (List.drop (0 : Nat) x))).fst.b.a4
 (etDecode (List.take (List.length x) (List.drop (0 : Nat) x))).fst.b.a5)
 (etDecode (List.take (List.length x) (List.drop (0 : Nat) x))).fst.ty
 (etDecode
 (List.take (List.length x) (List.drop (0 : Nat) x))).fst.body)).fst.mac.a3 =
 m3) &&
 (decide
 ((nbRead
 (Fm.mk
 (Mc.mk (etDecode (List.take (List.length x) (List.drop (0 : Nat) x))).fst.a.a0
 (etDecode (List.take (List.length x) (List.drop (0 : Nat) x))).fst.a.a1
 (etDecode (List.take (List.length x) (List.drop (0 : Nat) x))).fst.a.a2
 (etDecode (List.take (List.length x) (List.drop (0 : Nat) x))).fst.a.a3
 (etDecode (List.take (List.length x) (List.drop (0 : Nat) x))).fst.a.a4
 (etDecode (List.take (List.length x) (List.drop (0 : Nat) x))).fst.a.a5)
 (Mc.mk (etDecode (List.take (List.length x) (List.drop (0 : Nat) x))).fst.b.a0
 (etDecode (List.take (List.length x) (List.drop (0 : Nat) x))).fst.b.a1
 (etDecode (List.take (List.length x) (List.drop (0 : Nat) x))).fst.b.a2
 (etDecode (List.take (List.length x) (List.drop (0 : Nat) x))).fst.b.a3
 (etDecode (List.take (List.length x) (List.drop (0 : Nat) x))).fst.b.a4
 (etDecode (List.take (List.length x) (List.drop (0 : Nat) x))).fst.b.a5)
 (etDecode (List.take (List.length x) (List.drop (0 : Nat) x))).fst.ty
 (etDecode
 (List.take (List.length x) (List.drop (0 : Nat) x))).fst.body)).fst.mac.a4 =
 m4) &&
 (decide
 ((nbRead
 (Fm.mk
 (Mc.mk (etDecode (List.take (List.length x) (List.drop (0 : Nat) x))).fst.a.a0
 (etDecode (List.take (List.length x) (List.drop (0 : Nat) x))).fst.a.a1
 (etDecode (List.take (List.length x) (List.drop (0 : Nat) x))).fst.a.a2
 (etDecode (List.take (List.length x) (List.drop (0 : Nat) x))).fst.a.a3
 (etDecode (List.take (List.length x) (List.drop (0 : Nat) x))).fst.a.a4
 (etDecode (List.take (List.length x) (List.drop (0 : Nat) x))).fst.a.a5)
 (Mc.mk (etDecode (List.take (List.length x) (List.drop (0 : Nat) x))).fst.b.a0
 (etDecode (List.take (List.length x) (List.drop (0 : Nat) x))).fst.b.a1
 (etDecode (List.take (List.length x) (List.drop (0 : Nat) x))).fst.b.a2
 (etDecode (List.take (List.length x) (List.drop (0 : Nat) x))).fst.b.a3
 (etDecode (List.take (List.length x) (List.drop (0 : Nat) x))).fst.b.a4
 (etDecode (List.take (List.length x) (List.drop (0 : Nat) x))).fst.b.a5)
 (etDecode (List.take (List.length x) (List.drop (0 : Nat) x))).fst.ty
 (etDecode
 (List.take (List.length x) (List.drop (0 : Nat) x))).fst.body)).fst.mac.a5 =
 m5) &&
 (decide
 ((nbRead
 (Fm.mk
 (Mc.mk (etDecode (List.take (List.length x) (List.drop (0 : Nat) x))).fst.a.a0
 (etDecode (List.take (List.length x) (List.drop (0 : Nat) x))).fst.a.a1
 (etDecode (List.take (List.length x) (List.drop (0 : Nat) x))).fst.a.a2
 (etDecode (List.take (List.length x) (List.drop (0 : Nat) x))).fst.a.a3
 (etDecode (List.take (List.length x) (List.drop (0 : Nat) x))).fst.a.a4
 (etDecode (List.take (List.length x) (List.drop (0 : Nat) x))).fst.a.a5)
 (Mc.mk (etDecode (List.take (List.length x) (List.drop (0 : Nat) x))).fst.b.a0
 (etDecode (List.take (List.length x) (List.drop (0 : Nat) x))).fst.b.a1
 (etDecode (List.take (List.length x) (List.drop (0 : Nat) x))).fst.b.a2
 (etDecode (List.take (List.length x) (List.drop (0 : Nat) x))).fst.b.a3
 (etDecode (List.take (List.length x) (List.drop (0 : Nat) x))).fst.b.a4
 (etDecode (List.take (List.length x) (List.drop (0 : Nat) x))).fst.b.a5)
 (etDecode (List.take (List.length x) (List.drop (0 : Nat) x))).fst.ty
 (etDecode
 (List.take (List.length x) (List.drop (0 : Nat) x))).fst.body)).fst.addr =
 a) &&
 (decide
 ((nbRead
 (Fm.mk
 (Mc.mk (etDecode (List.take (List.length x) (List.drop (0 : Nat) x))).fst.a.a0
 (etDecode (List.take (List.length x) (List.drop (0 : Nat) x))).fst.a.a1
 (etDecode (List.take (List.length x) (List.drop (0 : Nat) x))).fst.a.a2
 (etDecode (List.take (List.length x) (List.drop (0 : Nat) x))).fst.a.a3
 (etDecode (List.take (List.length x) (List.drop (0 : Nat) x))).fst.a.a4
 (etDecode (List.take (List.length x) (List.drop (0 : Nat) x))).fst.a.a5)
 (Mc.mk (etDecode (List.take (List.length x) (List.drop (0 : Nat) x))).fst.b.a0
 (etDecode (List.take (List.length x) (List.drop (0 : Nat) x))).fst.b.a1
 (etDecode (List.take (List.length x) (List.drop (0 : Nat) x))).fst.b.a2
 (etDecode (List.take (List.length x) (List.drop (0 : Nat) x))).fst.b.a3
 (etDecode (List.take (List.length x) (List.drop (0 : Nat) x))).fst.b.a4
 (etDecode (List.take (List.length x) (List.drop (0 : Nat) x))).fst.b.a5)
 (etDecode (List.take (List.length x) (List.drop (0 : Nat) x))).fst.ty
 (etDecode
 (List.take (List.length x) (List.drop (0 : Nat) x))).fst.body)).fst.target =
 b) &&
 decide
 ((nbRead
 (Fm.mk
 (Mc.mk (etDecode (List.take (List.length x) (List.drop (0 : Nat) x))).fst.a.a0
 (etDecode (List.take (List.length x) (List.drop (0 : Nat) x))).fst.a.a1
 (etDecode (List.take (List.length x) (List.drop (0 : Nat) x))).fst.a.a2
 (etDecode (List.take (List.length x) (List.drop (0 : Nat) x))).fst.a.a3
 (etDecode (List.take (List.length x) (List.drop (0 : Nat) x))).fst.a.a4
 (etDecode (List.take (List.length x) (List.drop (0 : Nat) x))).fst.a.a5)
 (Mc.mk (etDecode (List.take (List.length x) (List.drop (0 : Nat) x))).fst.b.a0
 (etDecode (List.take (List.length x) (List.drop (0 : Nat) x))).fst.b.a1
 (etDecode (List.take (List.length x) (List.drop (0 : Nat) x))).fst.b.a2
 (etDecode (List.take (List.length x) (List.drop (0 : Nat) x))).fst.b.a3
 (etDecode (List.take (List.length x) (List.drop (0 : Nat) x))).fst.b.a4
 (etDecode (List.take (List.length x) (List.drop (0 : Nat) x))).fst.b.a5)
 (etDecode (List.take (List.length x) (List.drop (0 : Nat) x))).fst.ty
 (etDecode
 (List.take (List.length x) (List.drop (0 : Nat) x))).fst.body)).fst.asked =
 false))))))))))
 (((0 : Int) ≤ (0 : Int) ∧ (0 : Int) < (2 : Int)) ∧
 ((0 : Int) ≤ (1 : Int) ∧ (1 : Int) < (2 : Int)) ∧
 brP
 (decide
 ((nbRead
 (Fm.mk
 (Mc.mk (etDecode (List.take (List.length x_1) (List.drop (0 : Nat) x_1))).fst.a.a0
 (etDecode (List.take (List.length x_1) (List.drop (0 : Nat) x_1))).fst.a.a1
 (etDecode (List.take (List.length x_1) (List.drop (0 : Nat) x_1))).fst.a.a2
 (etDecode (List.take (List.length x_1) (List.drop (0 : Nat) x_1))).fst.a.a3
 (etDecode (List.take (List.length x_1) (List.drop (0 : Nat) x_1))).fst.a.a4
 (etDecode (List.take (List.length x_1) (List.drop (0 : Nat) x_1))).fst.a.a5)
 (Mc.mk (etDecode (List.take (List.length x_1) (List.drop (0 : Nat) x_1))).fst.b.a0
 (etDecode (List.take (List.length x_1) (List.drop (0 : Nat) x_1))).fst.b.a1
 (etDecode (List.take (List.length x_1) (List.drop (0 : Nat) x_1))).fst.b.a2
 (etDecode (List.take (List.length x_1) (List.drop (0 : Nat) x_1))).fst.b.a3
 (etDecode (List.take (List.length x_1) (List.drop (0 : Nat) x_1))).fst.b.a4
 (etDecode (List.take (List.length x_1) (List.drop (0 : Nat) x_1))).fst.b.a5)
 (etDecode (List.take (List.length x_1) (List.drop (0 : Nat) x_1))).fst.ty
 (etDecode
 (List.take (List.length x_1) (List.drop (0 : Nat) x_1))).fst.body)).fst.kind =
 (2 : Int)) &&
 (decide
 ((nbRead
 (Fm.mk
 (Mc.mk (etDecode (List.take (List.length x_1) (List.drop (0 : Nat) x_1))).fst.a.a0
 (etDecode (List.take (List.length x_1) (List.drop (0 : Nat) x_1))).fst.a.a1
 (etDecode (List.take (List.length x_1) (List.drop (0 : Nat) x_1))).fst.a.a2
 (etDecode (List.take (List.length x_1) (List.drop (0 : Nat) x_1))).fst.a.a3
 (etDecode (List.take (List.length x_1) (List.drop (0 : Nat) x_1))).fst.a.a4
 (etDecode (List.take (List.length x_1) (List.drop (0 : Nat) x_1))).fst.a.a5)
 (Mc.mk (etDecode (List.take (List.length x_1) (List.drop (0 : Nat) x_1))).fst.b.a0
 (etDecode (List.take (List.length x_1) (List.drop (0 : Nat) x_1))).fst.b.a1
 (etDecode (List.take (List.length x_1) (List.drop (0 : Nat) x_1))).fst.b.a2
 (etDecode (List.take (List.length x_1) (List.drop (0 : Nat) x_1))).fst.b.a3
 (etDecode (List.take (List.length x_1) (List.drop (0 : Nat) x_1))).fst.b.a4
 (etDecode (List.take (List.length x_1) (List.drop (0 : Nat) x_1))).fst.b.a5)
 (etDecode (List.take (List.length x_1) (List.drop (0 : Nat) x_1))).fst.ty
 (etDecode
 (List.take (List.length x_1)
 (List.drop (0 : Nat) x_1))).fst.body)).fst.mac.a0 =
 m0) &&
 (decide
 ((nbRead
 (Fm.mk
 (Mc.mk
 (etDecode (List.take (List.length x_1) (List.drop (0 : Nat) x_1))).fst.a.a0
 (etDecode (List.take (List.length x_1) (List.drop (0 : Nat) x_1))).fst.a.a1
 (etDecode (List.take (List.length x_1) (List.drop (0 : Nat) x_1))).fst.a.a2
 (etDecode (List.take (List.length x_1) (List.drop (0 : Nat) x_1))).fst.a.a3
 (etDecode (List.take (List.length x_1) (List.drop (0 : Nat) x_1))).fst.a.a4
 (etDecode (List.take (List.length x_1) (List.drop (0 : Nat) x_1))).fst.a.a5)
 (Mc.mk
 (etDecode (List.take (List.length x_1) (List.drop (0 : Nat) x_1))).fst.b.a0
 (etDecode (List.take (List.length x_1) (List.drop (0 : Nat) x_1))).fst.b.a1
 (etDecode (List.take (List.length x_1) (List.drop (0 : Nat) x_1))).fst.b.a2
 (etDecode (List.take (List.length x_1) (List.drop (0 : Nat) x_1))).fst.b.a3
 (etDecode (List.take (List.length x_1) (List.drop (0 : Nat) x_1))).fst.b.a4
 (etDecode (List.take (List.length x_1) (List.drop (0 : Nat) x_1))).fst.b.a5)
 (etDecode (List.take (List.length x_1) (List.drop (0 : Nat) x_1))).fst.ty
 (etDecode
 (List.take (List.length x_1)
 (List.drop (0 : Nat) x_1))).fst.body)).fst.mac.a1 =
 m1) &&
 (decide
 ((nbRead
 (Fm.mk
 (Mc.mk
 (etDecode (List.take (List.length x_1) (List.drop (0 : Nat) x_1))).fst.a.a0
 (etDecode (List.take (List.length x_1) (List.drop (0 : Nat) x_1))).fst.a.a1
 (etDecode (List.take (List.length x_1) (List.drop (0 : Nat) x_1))).fst.a.a2
 (etDecode (List.take (List.length x_1) (List.drop (0 : Nat) x_1))).fst.a.a3
 (etDecode (List.take (List.length x_1) (List.drop (0 : Nat) x_1))).fst.a.a4
 (etDecode (List.take (List.length x_1) (List.drop (0 : Nat) x_1))).fst.a.a5)
 (Mc.mk
 (etDecode (List.take (List.length x_1) (List.drop (0 : Nat) x_1))).fst.b.a0
 (etDecode (List.take (List.length x_1) (List.drop (0 : Nat) x_1))).fst.b.a1
 (etDecode (List.take (List.length x_1) (List.drop (0 : Nat) x_1))).fst.b.a2
 (etDecode (List.take (List.length x_1) (List.drop (0 : Nat) x_1))).fst.b.a3
 (etDecode (List.take (List.length x_1) (List.drop (0 : Nat) x_1))).fst.b.a4
 (etDecode (List.take (List.length x_1) (List.drop (0 : Nat) x_1))).fst.b.a5)
 (etDecode (List.take (List.length x_1) (List.drop (0 : Nat) x_1))).fst.ty
 (etDecode
 (List.take (List.length x_1)
 (List.drop (0 : Nat) x_1))).fst.body)).fst.mac.a2 =
 m2) &&
 (decide
 ((nbRead
 (Fm.mk
 (Mc.mk
 (etDecode (List.take (List.length x_1) (List.drop (0 : Nat) x_1))).fst.a.a0
 (etDecode (List.take (List.length x_1) (List.drop (0 : Nat) x_1))).fst.a.a1
 (etDecode (List.take (List.length x_1) (List.drop (0 : Nat) x_1))).fst.a.a2
 (etDecode (List.take (List.length x_1) (List.drop (0 : Nat) x_1))).fst.a.a3
 (etDecode (List.take (List.length x_1) (List.drop (0 : Nat) x_1))).fst.a.a4
 (etDecode (List.take (List.length x_1) (List.drop (0 : Nat) x_1))).fst.a.a5)
 (Mc.mk
 (etDecode (List.take (List.length x_1) (List.drop (0 : Nat) x_1))).fst.b.a0
 (etDecode (List.take (List.length x_1) (List.drop (0 : Nat) x_1))).fst.b.a1
 (etDecode (List.take (List.length x_1) (List.drop (0 : Nat) x_1))).fst.b.a2
 (etDecode (List.take (List.length x_1) (List.drop (0 : Nat) x_1))).fst.b.a3
 (etDecode (List.take (List.length x_1) (List.drop (0 : Nat) x_1))).fst.b.a4
 (etDecode (List.take (List.length x_1) (List.drop (0 : Nat) x_1))).fst.b.a5)
 (etDecode (List.take (List.length x_1) (List.drop (0 : Nat) x_1))).fst.ty
 (etDecode
 (List.take (List.length x_1)
 (List.drop (0 : Nat) x_1))).fst.body)).fst.mac.a3 =
 m3) &&
 (decide
 ((nbRead
 (Fm.mk
 (Mc.mk
 (etDecode (List.take (List.length x_1) (List.drop (0 : Nat) x_1))).fst.a.a0
 (etDecode (List.take (List.length x_1) (List.drop (0 : Nat) x_1))).fst.a.a1
 (etDecode (List.take (List.length x_1) (List.drop (0 : Nat) x_1))).fst.a.a2
 (etDecode (List.take (List.length x_1) (List.drop (0 : Nat) x_1))).fst.a.a3
 (etDecode (List.take (List.length x_1) (List.drop (0 : Nat) x_1))).fst.a.a4
 (etDecode (List.take (List.length x_1) (List.drop (0 : Nat) x_1))).fst.a.a5)
 (Mc.mk
 (etDecode (List.take (List.length x_1) (List.drop (0 : Nat) x_1))).fst.b.a0
 (etDecode (List.take (List.length x_1) (List.drop (0 : Nat) x_1))).fst.b.a1
 (etDecode (List.take (List.length x_1) (List.drop (0 : Nat) x_1))).fst.b.a2
 (etDecode (List.take (List.length x_1) (List.drop (0 : Nat) x_1))).fst.b.a3
 (etDecode (List.take (List.length x_1) (List.drop (0 : Nat) x_1))).fst.b.a4
 (etDecode (List.take (List.length x_1) (List.drop (0 : Nat) x_1))).fst.b.a5)
 (etDecode (List.take (List.length x_1) (List.drop (0 : Nat) x_1))).fst.ty
 (etDecode
 (List.take (List.length x_1)
 (List.drop (0 : Nat) x_1))).fst.body)).fst.mac.a4 =
 m4) &&
 (decide
 ((nbRead
 (Fm.mk
 (Mc.mk
 (etDecode (List.take (List.length x_1) (List.drop (0 : Nat) x_1))).fst.a.a0
 (etDecode (List.take (List.length x_1) (List.drop (0 : Nat) x_1))).fst.a.a1
 (etDecode (List.take (List.length x_1) (List.drop (0 : Nat) x_1))).fst.a.a2
 (etDecode (List.take (List.length x_1) (List.drop (0 : Nat) x_1))).fst.a.a3
 (etDecode (List.take (List.length x_1) (List.drop (0 : Nat) x_1))).fst.a.a4
 (etDecode (List.take (List.length x_1) (List.drop (0 : Nat) x_1))).fst.a.a5)
 (Mc.mk
 (etDecode (List.take (List.length x_1) (List.drop (0 : Nat) x_1))).fst.b.a0
 (etDecode (List.take (List.length x_1) (List.drop (0 : Nat) x_1))).fst.b.a1
 (etDecode (List.take (List.length x_1) (List.drop (0 : Nat) x_1))).fst.b.a2
 (etDecode (List.take (List.length x_1) (List.drop (0 : Nat) x_1))).fst.b.a3
 (etDecode (List.take (List.length x_1) (List.drop (0 : Nat) x_1))).fst.b.a4
 (etDecode (List.take (List.length x_1) (List.drop (0 : Nat) x_1))).fst.b.a5)
 (etDecode (List.take (List.length x_1) (List.drop (0 : Nat) x_1))).fst.ty
 (etDecode
 (List.take (List.length x_1)
 (List.drop (0 : Nat) x_1))).fst.body)).fst.mac.a5 =
 m5) &&
 (decide
 ((nbRead
 (Fm.mk
 (Mc.mk
 (etDecode (List.take (List.length x_1) (List.drop (0 : Nat) x_1))).fst.a.a0
 (etDecode (List.take (List.length x_1) (List.drop (0 : Nat) x_1))).fst.a.a1
 (etDecode (List.take (List.length x_1) (List.drop (0 : Nat) x_1))).fst.a.a2
 (etDecode (List.take (List.length x_1) (List.drop (0 : Nat) x_1))).fst.a.a3
 (etDecode (List.take (List.length x_1) (List.drop (0 : Nat) x_1))).fst.a.a4
 (etDecode (List.take (List.length x_1) (List.drop (0 : Nat) x_1))).fst.a.a5)
 (Mc.mk
 (etDecode (List.take (List.length x_1) (List.drop (0 : Nat) x_1))).fst.b.a0
 (etDecode (List.take (List.length x_1) (List.drop (0 : Nat) x_1))).fst.b.a1
 (etDecode (List.take (List.length x_1) (List.drop (0 : Nat) x_1))).fst.b.a2
 (etDecode (List.take (List.length x_1) (List.drop (0 : Nat) x_1))).fst.b.a3
 (etDecode (List.take (List.length x_1) (List.drop (0 : Nat) x_1))).fst.b.a4
 (etDecode (List.take (List.length x_1) (List.drop (0 : Nat) x_1))).fst.b.a5)
 (etDecode (List.take (List.length x_1) (List.drop (0 : Nat) x_1))).fst.ty
 (etDecode
 (List.take (List.length x_1)
 (List.drop (0 : Nat) x_1))).fst.body)).fst.addr =
 a) &&
 (decide
 ((nbRead
 (Fm.mk
 (Mc.mk
 (etDecode (List.take (List.length x_1) (List.drop (0 : Nat) x_1))).fst.a.a0
 (etDecode (List.take (List.length x_1) (List.drop (0 : Nat) x_1))).fst.a.a1
 (etDecode (List.take (List.length x_1) (List.drop (0 : Nat) x_1))).fst.a.a2
 (etDecode (List.take (List.length x_1) (List.drop (0 : Nat) x_1))).fst.a.a3
 (etDecode (List.take (List.length x_1) (List.drop (0 : Nat) x_1))).fst.a.a4
 (etDecode
 (List.take (List.length x_1) (List.drop (0 : Nat) x_1))).fst.a.a5)
 (Mc.mk
 (etDecode (List.take (List.length x_1) (List.drop (0 : Nat) x_1))).fst.b.a0
 (etDecode (List.take (List.length x_1) (List.drop (0 : Nat) x_1))).fst.b.a1
 (etDecode (List.take (List.length x_1) (List.drop (0 : Nat) x_1))).fst.b.a2
 (etDecode (List.take (List.length x_1) (List.drop (0 : Nat) x_1))).fst.b.a3
 (etDecode (List.take (List.length x_1) (List.drop (0 : Nat) x_1))).fst.b.a4
 (etDecode
 (List.take (List.length x_1) (List.drop (0 : Nat) x_1))).fst.b.a5)
 (etDecode (List.take (List.length x_1) (List.drop (0 : Nat) x_1))).fst.ty
 (etDecode
 (List.take (List.length x_1)
 (List.drop (0 : Nat) x_1))).fst.body)).fst.target =
 b) &&
 decide
 ((nbRead
 (Fm.mk
 (Mc.mk
 (etDecode (List.take (List.length x_1) (List.drop (0 : Nat) x_1))).fst.a.a0
 (etDecode (List.take (List.length x_1) (List.drop (0 : Nat) x_1))).fst.a.a1
 (etDecode (List.take (List.length x_1) (List.drop (0 : Nat) x_1))).fst.a.a2
 (etDecode (List.take (List.length x_1) (List.drop (0 : Nat) x_1))).fst.a.a3
 (etDecode (List.take (List.length x_1) (List.drop (0 : Nat) x_1))).fst.a.a4
 (etDecode
 (List.take (List.length x_1) (List.drop (0 : Nat) x_1))).fst.a.a5)
 (Mc.mk
 (etDecode (List.take (List.length x_1) (List.drop (0 : Nat) x_1))).fst.b.a0
 (etDecode (List.take (List.length x_1) (List.drop (0 : Nat) x_1))).fst.b.a1
 (etDecode (List.take (List.length x_1) (List.drop (0 : Nat) x_1))).fst.b.a2
 (etDecode (List.take (List.length x_1) (List.drop (0 : Nat) x_1))).fst.b.a3
 (etDecode (List.take (List.length x_1) (List.drop (0 : Nat) x_1))).fst.b.a4
 (etDecode
 (List.take (List.length x_1) (List.drop (0 : Nat) x_1))).fst.b.a5)
 (etDecode (List.take (List.length x_1) (List.drop (0 : Nat) x_1))).fst.ty
 (etDecode
 (List.take (List.length x_1)
 (List.drop (0 : Nat) x_1))).fst.body)).fst.asked =
 true))))))))))
 (brP
 (decide
 ((nbRead
 (Fm.mk
 (Mc.mk (etDecode (List.take (List.length x_2) (List.drop (0 : Nat) x_2))).fst.a.a0
 (etDecode (List.take (List.length x_2) (List.drop (0 : Nat) x_2))).fst.a.a1
 (etDecode (List.take (List.length x_2) (List.drop (0 : Nat) x_2))).fst.a.a2
 (etDecode (List.take (List.length x_2) (List.drop (0 : Nat) x_2))).fst.a.a3
 (etDecode (List.take (List.length x_2) (List.drop (0 : Nat) x_2))).fst.a.a4
 (etDecode (List.take (List.length x_2) (List.drop (0 : Nat) x_2))).fst.a.a5)
 (Mc.mk (etDecode (List.take (List.length x_2) (List.drop (0 : Nat) x_2))).fst.b.a0
 (etDecode (List.take (List.length x_2) (List.drop (0 : Nat) x_2))).fst.b.a1
 (etDecode (List.take (List.length x_2) (List.drop (0 : Nat) x_2))).fst.b.a2
 (etDecode (List.take (List.length x_2) (List.drop (0 : Nat) x_2))).fst.b.a3
 (etDecode (List.take (List.length x_2) (List.drop (0 : Nat) x_2))).fst.b.a4
 (etDecode (List.take (List.length x_2) (List.drop (0 : Nat) x_2))).fst.b.a5)
 (etDecode (List.take (List.length x_2) (List.drop (0 : Nat) x_2))).fst.ty
 (etDecode
 (List.take (List.length x_2)
 (List.drop (0 : Nat) x_2))).fst.body)).fst.mac.a0 =
 m0) &&
 (decide
 ((nbRead
 (Fm.mk
 (Mc.mk
 (etDecode (List.take (List.length x_2) (List.drop (0 : Nat) x_2))).fst.a.a0
 (etDecode (List.take (List.length x_2) (List.drop (0 : Nat) x_2))).fst.a.a1
 (etDecode (List.take (List.length x_2) (List.drop (0 : Nat) x_2))).fst.a.a2
 (etDecode (List.take (List.length x_2) (List.drop (0 : Nat) x_2))).fst.a.a3
 (etDecode (List.take (List.length x_2) (List.drop (0 : Nat) x_2))).fst.a.a4
 (etDecode (List.take (List.length x_2) (List.drop (0 : Nat) x_2))).fst.a.a5)
 (Mc.mk
 (etDecode (List.take (List.length x_2) (List.drop (0 : Nat) x_2))).fst.b.a0
 (etDecode (List.take (List.length x_2) (List.drop (0 : Nat) x_2))).fst.b.a1
 (etDecode (List.take (List.length x_2) (List.drop (0 : Nat) x_2))).fst.b.a2
 (etDecode (List.take (List.length x_2) (List.drop (0 : Nat) x_2))).fst.b.a3
 (etDecode (List.take (List.length x_2) (List.drop (0 : Nat) x_2))).fst.b.a4
 (etDecode (List.take (List.length x_2) (List.drop (0 : Nat) x_2))).fst.b.a5)
 (etDecode (List.take (List.length x_2) (List.drop (0 : Nat) x_2))).fst.ty
 (etDecode
 (List.take (List.length x_2)
 (List.drop (0 : Nat) x_2))).fst.body)).fst.mac.a1 =
 m1) &&
 (decide
 ((nbRead
 (Fm.mk
 (Mc.mk
 (etDecode (List.take (List.length x_2) (List.drop (0 : Nat) x_2))).fst.a.a0
 (etDecode (List.take (List.length x_2) (List.drop (0 : Nat) x_2))).fst.a.a1
 (etDecode (List.take (List.length x_2) (List.drop (0 : Nat) x_2))).fst.a.a2
 (etDecode (List.take (List.length x_2) (List.drop (0 : Nat) x_2))).fst.a.a3
 (etDecode (List.take (List.length x_2) (List.drop (0 : Nat) x_2))).fst.a.a4
 (etDecode (List.take (List.length x_2) (List.drop (0 : Nat) x_2))).fst.a.a5)
 (Mc.mk
 (etDecode (List.take (List.length x_2) (List.drop (0 : Nat) x_2))).fst.b.a0
 (etDecode (List.take (List.length x_2) (List.drop (0 : Nat) x_2))).fst.b.a1
 (etDecode (List.take (List.length x_2) (List.drop (0 : Nat) x_2))).fst.b.a2
 (etDecode (List.take (List.length x_2) (List.drop (0 : Nat) x_2))).fst.b.a3
 (etDecode (List.take (List.length x_2) (List.drop (0 : Nat) x_2))).fst.b.a4
 (etDecode (List.take (List.length x_2) (List.drop (0 : Nat) x_2))).fst.b.a5)
 (etDecode (List.take (List.length x_2) (List.drop (0 : Nat) x_2))).fst.ty
 (etDecode
 (List.take (List.length x_2)
 (List.drop (0 : Nat) x_2))).fst.body)).fst.mac.a2 =
 m2) &&
 (decide
 ((nbRead
 (Fm.mk
 (Mc.mk
 (etDecode (List.take (List.length x_2) (List.drop (0 : Nat) x_2))).fst.a.a0
 (etDecode (List.take (List.length x_2) (List.drop (0 : Nat) x_2))).fst.a.a1
 (etDecode (List.take (List.length x_2) (List.drop (0 : Nat) x_2))).fst.a.a2
 (etDecode (List.take (List.length x_2) (List.drop (0 : Nat) x_2))).fst.a.a3
 (etDecode (List.take (List.length x_2) (List.drop (0 : Nat) x_2))).fst.a.a4
 (etDecode (List.take (List.length x_2) (List.drop (0 : Nat) x_2))).fst.a.a5)
 (Mc.mk
 (etDecode (List.take (List.length x_2) (List.drop (0 : Nat) x_2))).fst.b.a0
 (etDecode (List.take (List.length x_2) (List.drop (0 : Nat) x_2))).fst.b.a1
 (etDecode (List.take (List.length x_2) (List.drop (0 : Nat) x_2))).fst.b.a2
 (etDecode (List.take (List.length x_2) (List.drop (0 : Nat) x_2))).fst.b.a3
 (etDecode (List.take (List.length x_2) (List.drop (0 : Nat) x_2))).fst.b.a4
 (etDecode (List.take (List.length x_2) (List.drop (0 : Nat) x_2))).fst.b.a5)
 (etDecode (List.take (List.length x_2) (List.drop (0 : Nat) x_2))).fst.ty
 (etDecode
 (List.take (List.length x_2)
 (List.drop (0 : Nat) x_2))).fst.body)).fst.mac.a3 =
 m3) &&
 (decide
 ((nbRead
 (Fm.mk
 (Mc.mk
 (etDecode (List.take (List.length x_2) (List.drop (0 : Nat) x_2))).fst.a.a0
 (etDecode (List.take (List.length x_2) (List.drop (0 : Nat) x_2))).fst.a.a1
 (etDecode (List.take (List.length x_2) (List.drop (0 : Nat) x_2))).fst.a.a2
 (etDecode (List.take (List.length x_2) (List.drop (0 : Nat) x_2))).fst.a.a3
 (etDecode (List.take (List.length x_2) (List.drop (0 : Nat) x_2))).fst.a.a4
 (etDecode (List.take (List.length x_2) (List.drop (0 : Nat) x_2))).fst.a.a5)
 (Mc.mk
 (etDecode (List.take (List.length x_2) (List.drop (0 : Nat) x_2))).fst.b.a0
 (etDecode (List.take (List.length x_2) (List.drop (0 : Nat) x_2))).fst.b.a1
 (etDecode (List.take (List.length x_2) (List.drop (0 : Nat) x_2))).fst.b.a2
 (etDecode (List.take (List.length x_2) (List.drop (0 : Nat) x_2))).fst.b.a3
 (etDecode (List.take (List.length x_2) (List.drop (0 : Nat) x_2))).fst.b.a4
 (etDecode (List.take (List.length x_2) (List.drop (0 : Nat) x_2))).fst.b.a5)
 (etDecode (List.take (List.length x_2) (List.drop (0 : Nat) x_2))).fst.ty
 (etDecode
 (List.take (List.length x_2)
 (List.drop (0 : Nat) x_2))).fst.body)).fst.mac.a4 =
 m4) &&
 decide
 ((nbRead
 (Fm.mk
 (Mc.mk
 (etDecode (List.take (List.length x_2) (List.drop (0 : Nat) x_2))).fst.a.a0
 (etDecode (List.take (List.length x_2) (List.drop (0 : Nat) x_2))).fst.a.a1
 (etDecode (List.take (List.length x_2) (List.drop (0 : Nat) x_2))).fst.a.a2
 (etDecode (List.take (List.length x_2) (List.drop (0 : Nat) x_2))).fst.a.a3
 (etDecode (List.take (List.length x_2) (List.drop (0 : Nat) x_2))).fst.a.a4
 (etDecode (List.take (List.length x_2) (List.drop (0 : Nat) x_2))).fst.a.a5)
 (Mc.mk
 (etDecode (List.take (List.length x_2) (List.drop (0 : Nat) x_2))).fst.b.a0
 (etDecode (List.take (List.length x_2) (List.drop (0 : Nat) x_2))).fst.b.a1
 (etDecode (List.take (List.length x_2) (List.drop (0 : Nat) x_2))).fst.b.a2
 (etDecode (List.take (List.length x_2) (List.drop (0 : Nat) x_2))).fst.b.a3
 (etDecode (List.take (List.length x_2) (List.drop (0 : Nat) x_2))).fst.b.a4
 (etDecode (List.take (List.length x_2) (List.drop (0 : Nat) x_2))).fst.b.a5)
 (etDecode (List.take (List.length x_2) (List.drop (0 : Nat) x_2))).fst.ty
 (etDecode
 (List.take (List.length x_2)
 (List.drop (0 : Nat) x_2))).fst.body)).fst.mac.a5 =
 m5))))))
 (((0 : Int) ≤ (0 : Int) ∧ (0 : Int) < (2 : Int)) ∧
 brP
 (decide
 ((nbRead
 (Fm.mk
 (Mc.mk (etDecode (List.take (List.length x_2) (List.drop (0 : Nat) x_2))).fst.a.a0
 (etDecode (List.take (List.length x_2) (List.drop (0 : Nat) x_2))).fst.a.a1
 (etDecode (List.take (List.length x_2) (List.drop (0 : Nat) x_2))).fst.a.a2
 (etDecode (List.take (List.length x_2) (List.drop (0 : Nat) x_2))).fst.a.a3
 (etDecode (List.take (List.length x_2) (List.drop (0 : Nat) x_2))).fst.a.a4
 (etDecode (List.take (List.length x_2) (List.drop (0 : Nat) x_2))).fst.a.a5)
 (Mc.mk (etDecode (List.take (List.length x_2) (List.drop (0 : Nat) x_2))).fst.b.a0
 (etDecode (List.take (List.length x_2) (List.drop (0 : Nat) x_2))).fst.b.a1
 (etDecode (List.take (List.length x_2) (List.drop (0 : Nat) x_2))).fst.b.a2
 (etDecode (List.take (List.length x_2) (List.drop (0 : Nat) x_2))).fst.b.a3
 (etDecode (List.take (List.length x_2) (List.drop (0 : Nat) x_2))).fst.b.a4
 (etDecode (List.take (List.length x_2) (List.drop (0 : Nat) x_2))).fst.b.a5)
 (etDecode (List.take (List.length x_2) (List.drop (0 : Nat) x_2))).fst.ty
 (etDecode
 (List.take (List.length x_2) (List.drop (0 : Nat) x_2))).fst.body)).fst.addr =
 a))
 (brP
 (!(nbRead
 (Fm.mk
 (Mc.mk (etDecode (List.take (List.length x_2) (List.drop (0 : Nat) x_2))).fst.a.a0
 (etDecode (List.take (List.length x_2) (List.drop (0 : Nat) x_2))).fst.a.a1
 (etDecode (List.take (List.length x_2) (List.drop (0 : Nat) x_2))).fst.a.a2
 (etDecode (List.take (List.length x_2) (List.drop (0 : Nat) x_2))).fst.a.a3
 (etDecode (List.take (List.length x_2) (List.drop (0 : Nat) x_2))).fst.a.a4
 (etDecode (List.take (List.length x_2) (List.drop (0 : Nat) x_2))).fst.a.a5)
 (Mc.mk (etDecode (List.take (List.length x_2) (List.drop (0 : Nat) x_2))).fst.b.a0
 (etDecode (List.take (List.length x_2) (List.drop (0 : Nat) x_2))).fst.b.a1
 (etDecode (List.take (List.length x_2) (List.drop (0 : Nat) x_2))).fst.b.a2
 (etDecode (List.take (List.length x_2) (List.drop (0 : Nat) x_2))).fst.b.a3
 (etDecode (List.take (List.length x_2) (List.drop (0 : Nat) x_2))).fst.b.a4
 (etDecode (List.take (List.length x_2) (List.drop (0 : Nat) x_2))).fst.b.a5)
 (etDecode (List.take (List.length x_2) (List.drop (0 : Nat) x_2))).fst.ty
 (etDecode
 (List.take (List.length x_2) (List.drop (0 : Nat) x_2))).fst.body)).fst.asked)
 (brP
 (decide
 (decide
 ((nbRead
 (Fm.mk
 (Mc.mk
 (etDecode (List.take (List.length x_2) (List.drop (0 : Nat) x_2))).fst.a.a0
 (etDecode (List.take (List.length x_2) (List.drop (0 : Nat) x_2))).fst.a.a1
 (etDecode (List.take (List.length x_2) (List.drop (0 : Nat) x_2))).fst.a.a2
 (etDecode (List.take (List.length x_2) (List.drop (0 : Nat) x_2))).fst.a.a3
 (etDecode (List.take (List.length x_2) (List.drop (0 : Nat) x_2))).fst.a.a4
 (etDecode (List.take (List.length x_2) (List.drop (0 : Nat) x_2))).fst.a.a5)
 (Mc.mk
 (etDecode (List.take (List.length x_2) (List.drop (0 : Nat) x_2))).fst.b.a0
 (etDecode (List.take (List.length x_2) (List.drop (0 : Nat) x_2))).fst.b.a1
 (etDecode (List.take (List.length x_2) (List.drop (0 : Nat) x_2))).fst.b.a2
 (etDecode (List.take (List.length x_2) (List.drop (0 : Nat) x_2))).fst.b.a3
 (etDecode (List.take (List.length x_2) (List.drop (0 : Nat) x_2))).fst.b.a4
 (etDecode (List.take (List.length x_2) (List.drop (0 : Nat) x_2))).fst.b.a5)
 (etDecode (List.take (List.length x_2) (List.drop (0 : Nat) x_2))).fst.ty
 (etDecode
 (List.take (List.length x_2)
 (List.drop (0 : Nat) x_2))).fst.body)).fst.kind =
 (2 : Int)) =
 decide ((↑(List.length a) : Int) = (16 : Int))))
 (brP (decide ((↑(List.length a) : Int) = (16 : Int))) (K (AVal.bool true) [])
 (((0 : Int) ≤ (0 : Int) ∧ (0 : Int) < (2 : Int)) ∧
 K
 (AVal.bool
 (decide
 ((nbRead
 (Fm.mk
 (Mc.mk
 (etDecode (List.take (List.length x_2) (List.drop (0 : Nat) x_2))).fst.a.a0
 (etDecode (List.take (List.length x_2) (List.drop (0 : Nat) x_2))).fst.a.a1
 (etDecode (List.take (List.length x_2) (List.drop (0 : Nat) x_2))).fst.a.a2
 (etDecode (List.take (List.length x_2) (List.drop (0 : Nat) x_2))).fst.a.a3
 (etDecode (List.take (List.length x_2) (List.drop (0 : Nat) x_2))).fst.a.a4
 (etDecode
 (List.take (List.length x_2) (List.drop (0 : Nat) x_2))).fst.a.a5)
 (Mc.mk
 (etDecode (List.take (List.length x_2) (List.drop (0 : Nat) x_2))).fst.b.a0
 (etDecode (List.take (List.length x_2) (List.drop (0 : Nat) x_2))).fst.b.a1
 (etDecode (List.take (List.length x_2) (List.drop (0 : Nat) x_2))).fst.b.a2
 (etDecode (List.take (List.length x_2) (List.drop (0 : Nat) x_2))).fst.b.a3
 (etDecode (List.take (List.length x_2) (List.drop (0 : Nat) x_2))).fst.b.a4
 (etDecode
 (List.take (List.length x_2) (List.drop (0 : Nat) x_2))).fst.b.a5)
 (etDecode (List.take (List.length x_2) (List.drop (0 : Nat) x_2))).fst.ty
 (etDecode
 (List.take (List.length x_2)
 (List.drop (0 : Nat) x_2))).fst.body)).fst.target =
 a)))
 []))
 (K (AVal.bool false) []))
 (K (AVal.bool false) []))
 (K (AVal.bool false) []))
 (K (AVal.bool false) []))
 (K (AVal.bool false) []))
 (K (AVal.bool false) []))))
 (List.length (List.take (List.length x_2) (List.drop (0 : Nat) x_2)) ≤ (140737488355328 : Nat) ∧
 List.length (etDecode (List.take (List.length x_2) (List.drop (0 : Nat) x_2))).fst.body ≤
 (140737488351232 : Nat) ∧
 brP (decide ((etDecode (List.take (List.length x_2) (List.drop (0 : Nat) x_2))).snd = (0 : Int)))
 (brP
 (!decide
 ((nbRead
 (Fm.mk
 (Mc.mk (etDecode (List.take (List.length x) (List.drop (0 : Nat) x))).fst.a.a0
 (etDecode (List.take (List.length x) (List.drop (0 : Nat) x))).fst.a.a1
 (etDecode (List.take (List.length x) (List.drop (0 : Nat) x))).fst.a.a2
 (etDecode (List.take (List.length x) (List.drop (0 : Nat) x))).fst.a.a3
 (etDecode (List.take (List.length x) (List.drop (0 : Nat) x))).fst.a.a4
 (etDecode (List.take (List.length x) (List.drop (0 : Nat) x))).fst.a.a5)
 (Mc.mk (etDecode (List.take (List.length x) (List.drop (0 : Nat) x))).fst.b.a0
 (etDecode (List.take (List.length x) (List.drop (0 : Nat) x))).fst.b.a1
 (etDecode (List.take (List.length x) (List.drop (0 : Nat) x))).fst.b.a2
 (etDecode (List.take (List.length x) (List.drop (0 : Nat) x))).fst.b.a3
 (etDecode (List.take (List.length x) (List.drop (0 : Nat) x))).fst.b.a4
 (etDecode (List.take (List.length x) (List.drop (0 : Nat) x))).fst.b.a5)
 (etDecode (List.take (List.length x) (List.drop (0 : Nat) x))).fst.ty
 (etDecode (List.take (List.length x) (List.drop (0 : Nat) x))).fst.body)).snd =
 (0 : Int)) ||
 true ||
 !decide
 ((nbRead
 (Fm.mk
 (Mc.mk (etDecode (List.take (List.length x_2) (List.drop (0 : Nat) x_2))).fst.a.a0
 (etDecode (List.take (List.length x_2) (List.drop (0 : Nat) x_2))).fst.a.a1
 (etDecode (List.take (List.length x_2) (List.drop (0 : Nat) x_2))).fst.a.a2
 (etDecode (List.take (List.length x_2) (List.drop (0 : Nat) x_2))).fst.a.a3
 (etDecode (List.take (List.length x_2) (List.drop (0 : Nat) x_2))).fst.a.a4
 (etDecode (List.take (List.length x_2) (List.drop (0 : Nat) x_2))).fst.a.a5)
 (Mc.mk (etDecode (List.take (List.length x_2) (List.drop (0 : Nat) x_2))).fst.b.a0
 (etDecode (List.take (List.length x_2) (List.drop (0 : Nat) x_2))).fst.b.a1
 (etDecode (List.take (List.length x_2) (List.drop (0 : Nat) x_2))).fst.b.a2
 (etDecode (List.take (List.length x_2) (List.drop (0 : Nat) x_2))).fst.b.a3
 (etDecode (List.take (List.length x_2) (List.drop (0 : Nat) x_2))).fst.b.a4
 (etDecode (List.take (List.length x_2) (List.drop (0 : Nat) x_2))).fst.b.a5)
 (etDecode (List.take (List.length x_2) (List.drop (0 : Nat) x_2))).fst.ty
 (etDecode (List.take (List.length x_2) (List.drop (0 : Nat) x_2))).fst.body)).snd =
 (0 : Int)))
 (K (AVal.bool false) [])
 (((0 : Int) ≤ (0 : Int) ∧ (0 : Int) < (2 : Int)) ∧
 ((0 : Int) ≤ (0 : Int) ∧ (0 : Int) < (2 : Int)) ∧
 ((0 : Int) ≤ (1 : Int) ∧ (1 : Int) < (2 : Int)) ∧
 brP
 (decide
 ((nbRead
 (Fm.mk
 (Mc.mk (etDecode (List.take (List.length x) (List.drop (0 : Nat) x))).fst.a.a0
 (etDecode (List.take (List.length x) (List.drop (0 : Nat) x))).fst.a.a1
 (etDecode (List.take (List.length x) (List.drop (0 : Nat) x))).fst.a.a2
 (etDecode (List.take (List.length x) (List.drop (0 : Nat) x))).fst.a.a3
 (etDecode (List.take (List.length x) (List.drop (0 : Nat) x))).fst.a.a4
 (etDecode (List.take (List.length x) (List.drop (0 : Nat) x))).fst.a.a5)
 (Mc.mk (etDecode (List.take (List.length x) (List.drop (0 : Nat) x))).fst.b.a0
 (etDecode (List.take (List.length x) (List.drop (0 : Nat) x))).fst.b.a1
 (etDecode (List.take (List.length x) (List.drop (0 : Nat) x))).fst.b.a2
 (etDecode (List.take (List.length x) (List.drop (0 : Nat) x))).fst.b.a3
 (etDecode (List.take (List.length x) (List.drop (0 : Nat) x))).fst.b.a4
 (etDecode (List.take (List.length x) (List.drop (0 : Nat) x))).fst.b.a5)
 (etDecode (List.take (List.length x) (List.drop (0 : Nat) x))).fst.ty
 (etDecode (List.take (List.length x) (List.drop (0 : Nat) x))).fst.body)).fst.kind =
 (1 : Int)) &&
 (decide
 ((nbRead
 (Fm.mk
 (Mc.mk (etDecode (List.take (List.length x) (List.drop (0 : Nat) x))).fst.a.a0
 (etDecode (List.take (List.length x) (List.drop (0 : Nat) x))).fst.a.a1
 (etDecode (List.take (List.length x) (List.drop (0 : Nat) x))).fst.a.a2
 (etDecode (List.take (List.length x) (List.drop (0 : Nat) x))).fst.a.a3
 (etDecode (List.take (List.length x) (List.drop (0 : Nat) x))).fst.a.a4
 (etDecode (List.take (List.length x) (List.drop (0 : Nat) x))).fst.a.a5)
 (Mc.mk (etDecode (List.take (List.length x) (List.drop (0 : Nat) x))).fst.b.a0
 (etDecode (List.take (List.length x) (List.drop (0 : Nat) x))).fst.b.a1
 (etDecode (List.take (List.length x) (List.drop (0 : Nat) x))).fst.b.a2
 (etDecode (List.take (List.length x) (List.drop (0 : Nat) x))).fst.b.a3
 (etDecode (List.take (List.length x) (List.drop (0 : Nat) x))).fst.b.a4
 (etDecode (List.take (List.length x) (List.drop (0 : Nat) x))).fst.b.a5)
 (etDecode (List.take (List.length x) (List.drop (0 : Nat) x))).fst.ty
 (etDecode
 (List.take (List.length x) (List.drop (0 : Nat) x))).fst.body)).fst.mac.a0 =
 m0) &&
 (decide
 ((nbRead
 (Fm.mk
 (Mc.mk (etDecode (List.take (List.length x) (List.drop (0 : Nat) x))).fst.a.a0
 (etDecode (List.take (List.length x) (List.drop (0 : Nat) x))).fst.a.a1
 (etDecode (List.take (List.length x) (List.drop (0 : Nat) x))).fst.a.a2
 (etDecode (List.take (List.length x) (List.drop (0 : Nat) x))).fst.a.a3
 (etDecode (List.take (List.length x) (List.drop (0 : Nat) x))).fst.a.a4
 (etDecode (List.take (List.length x) (List.drop (0 : Nat) x))).fst.a.a5)
 (Mc.mk (etDecode (List.take (List.length x) (List.drop (0 : Nat) x))).fst.b.a0
 (etDecode (List.take (List.length x) (List.drop (0 : Nat) x))).fst.b.a1
 (etDecode (List.take (List.length x) (List.drop (0 : Nat) x))).fst.b.a2
 (etDecode (List.take (List.length x) (List.drop (0 : Nat) x))).fst.b.a3
 (etDecode (List.take (List.length x) (List.drop (0 : Nat) x))).fst.b.a4
 (etDecode (List.take (List.length x) (List.drop (0 : Nat) x))).fst.b.a5)
 (etDecode (List.take (List.length x) (List.drop (0 : Nat) x))).fst.ty
 (etDecode
 (List.take (List.length x) (List.drop (0 : Nat) x))).fst.body)).fst.mac.a1 =
 m1) &&
 (decide
 ((nbRead
 (Fm.mk
 (Mc.mk (etDecode (List.take (List.length x) (List.drop (0 : Nat) x))).fst.a.a0
 (etDecode (List.take (List.length x) (List.drop (0 : Nat) x))).fst.a.a1
 (etDecode (List.take (List.length x) (List.drop (0 : Nat) x))).fst.a.a2
 (etDecode (List.take (List.length x) (List.drop (0 : Nat) x))).fst.a.a3
 (etDecode (List.take (List.length x) (List.drop (0 : Nat) x))).fst.a.a4
 (etDecode (List.take (List.length x) (List.drop (0 : Nat) x))).fst.a.a5)
 (Mc.mk (etDecode (List.take (List.length x) (List.drop (0 : Nat) x))).fst.b.a0
 (etDecode (List.take (List.length x) (List.drop (0 : Nat) x))).fst.b.a1
 (etDecode (List.take (List.length x) (List.drop (0 : Nat) x))).fst.b.a2
 (etDecode (List.take (List.length x) (List.drop (0 : Nat) x))).fst.b.a3
 (etDecode (List.take (List.length x) (List.drop (0 : Nat) x))).fst.b.a4
 (etDecode (List.take (List.length x) (List.drop (0 : Nat) x))).fst.b.a5)
 (etDecode (List.take (List.length x) (List.drop (0 : Nat) x))).fst.ty
 (etDecode
 (List.take (List.length x) (List.drop (0 : Nat) x))).fst.body)).fst.mac.a2 =
 m2) &&
 (decide
 ((nbRead
 (Fm.mk
 (Mc.mk (etDecode (List.take (List.length x) (List.drop (0 : Nat) x))).fst.a.a0
 (etDecode (List.take (List.length x) (List.drop (0 : Nat) x))).fst.a.a1
 (etDecode (List.take (List.length x) (List.drop (0 : Nat) x))).fst.a.a2
 (etDecode (List.take (List.length x) (List.drop (0 : Nat) x))).fst.a.a3
 (etDecode (List.take (List.length x) (List.drop (0 : Nat) x))).fst.a.a4
 (etDecode (List.take (List.length x) (List.drop (0 : Nat) x))).fst.a.a5)
 (Mc.mk (etDecode (List.take (List.length x) (List.drop (0 : Nat) x))).fst.b.a0
 (etDecode (List.take (List.length x) (List.drop (0 : Nat) x))).fst.b.a1
 (etDecode (List.take (List.length x) (List.drop (0 : Nat) x))).fst.b.a2
 (etDecode (List.take (List.length x) (List.drop (0 : Nat) x))).fst.b.a3
 (etDecode (List.take (List.length x) (List.drop (0 : Nat) x))).fst.b.a4
 (etDecode (List.take (List.length x) (List.drop (0 : Nat) x))).fst.b.a5)
 (etDecode (List.take (List.length x) (List.drop (0 : Nat) x))).fst.ty
 (etDecode
 (List.take (List.length x) (List.drop (0 : Nat) x))).fst.body)).fst.mac.a3 =
 m3) &&
 (decide
 ((nbRead
 (Fm.mk
 (Mc.mk (etDecode (List.take (List.length x) (List.drop (0 : Nat) x))).fst.a.a0
 (etDecode (List.take (List.length x) (List.drop (0 : Nat) x))).fst.a.a1
 (etDecode (List.take (List.length x) (List.drop (0 : Nat) x))).fst.a.a2
 (etDecode (List.take (List.length x) (List.drop (0 : Nat) x))).fst.a.a3
 (etDecode (List.take (List.length x) (List.drop (0 : Nat) x))).fst.a.a4
 (etDecode (List.take (List.length x) (List.drop (0 : Nat) x))).fst.a.a5)
 (Mc.mk (etDecode (List.take (List.length x) (List.drop (0 : Nat) x))).fst.b.a0
 (etDecode (List.take (List.length x) (List.drop (0 : Nat) x))).fst.b.a1
 (etDecode (List.take (List.length x) (List.drop (0 : Nat) x))).fst.b.a2
 (etDecode (List.take (List.length x) (List.drop (0 : Nat) x))).fst.b.a3
 (etDecode (List.take (List.length x) (List.drop (0 : Nat) x))).fst.b.a4
 (etDecode (List.take (List.length x) (List.drop (0 : Nat) x))).fst.b.a5)
 (etDecode (List.take (List.length x) (List.drop (0 : Nat) x))).fst.ty
 (etDecode
 (List.take (List.length x) (List.drop (0 : Nat) x))).fst.body)).fst.mac.a4 =
 m4) &&
 (decide
 ((nbRead
 (Fm.mk
 (Mc.mk (etDecode (List.take (List.length x) (List.drop (0 : Nat) x))).fst.a.a0
 (etDecode (List.take (List.length x) (List.drop (0 : Nat) x))).fst.a.a1
 (etDecode (List.take (List.length x) (List.drop (0 : Nat) x))).fst.a.a2
 (etDecode (List.take (List.length x) (List.drop (0 : Nat) x))).fst.a.a3
 (etDecode (List.take (List.length x) (List.drop (0 : Nat) x))).fst.a.a4
 (etDecode (List.take (List.length x) (List.drop (0 : Nat) x))).fst.a.a5)
 (Mc.mk (etDecode (List.take (List.length x) (List.drop (0 : Nat) x))).fst.b.a0
 (etDecode (List.take (List.length x) (List.drop (0 : Nat) x))).fst.b.a1
 (etDecode (List.take (List.length x) (List.drop (0 : Nat) x))).fst.b.a2
 (etDecode (List.take (List.length x) (List.drop (0 : Nat) x))).fst.b.a3
 (etDecode (List.take (List.length x) (List.drop (0 : Nat) x))).fst.b.a4
 (etDecode (List.take (List.length x) (List.drop (0 : Nat) x))).fst.b.a5)
 (etDecode (List.take (List.length x) (List.drop (0 : Nat) x))).fst.ty
 (etDecode
 (List.take (List.length x) (List.drop (0 : Nat) x))).fst.body)).fst.mac.a5 =
 m5) &&
 (decide
 ((nbRead
 (Fm.mk
 (Mc.mk (etDecode (List.take (List.length x) (List.drop (0 : Nat) x))).fst.a.a0
 (etDecode (List.take (List.length x) (List.drop (0 : Nat) x))).fst.a.a1
 (etDecode (List.take (List.length x) (List.drop (0 : Nat) x))).fst.a.a2
 (etDecode (List.take (List.length x) (List.drop (0 : Nat) x))).fst.a.a3
 (etDecode (List.take (List.length x) (List.drop (0 : Nat) x))).fst.a.a4
 (etDecode (List.take (List.length x) (List.drop (0 : Nat) x))).fst.a.a5)
 (Mc.mk (etDecode (List.take (List.length x) (List.drop (0 : Nat) x))).fst.b.a0
 (etDecode (List.take (List.length x) (List.drop (0 : Nat) x))).fst.b.a1
 (etDecode (List.take (List.length x) (List.drop (0 : Nat) x))).fst.b.a2
 (etDecode (List.take (List.length x) (List.drop (0 : Nat) x))).fst.b.a3
 (etDecode (List.take (List.length x) (List.drop (0 : Nat) x))).fst.b.a4
 (etDecode (List.take (List.length x) (List.drop (0 : Nat) x))).fst.b.a5)
 (etDecode (List.take (List.length x) (List.drop (0 : Nat) x))).fst.ty
 (etDecode
 (List.take (List.length x) (List.drop (0 : Nat) x))).fst.body)).fst.addr =
 a) &&
 (decide
 ((nbRead
 (Fm.mk
 (Mc.mk (etDecode (List.take (List.length x) (List.drop (0 : Nat) x))).fst.a.a0
 (etDecode (List.take (List.length x) (List.drop (0 : Nat) x))).fst.a.a1
 (etDecode (List.take (List.length x) (List.drop (0 : Nat) x))).fst.a.a2
 (etDecode (List.take (List.length x) (List.drop (0 : Nat) x))).fst.a.a3
 (etDecode (List.take (List.length x) (List.drop (0 : Nat) x))).fst.a.a4
 (etDecode (List.take (List.length x) (List.drop (0 : Nat) x))).fst.a.a5)
 (Mc.mk (etDecode (List.take (List.length x) (List.drop (0 : Nat) x))).fst.b.a0
 (etDecode (List.take (List.length x) (List.drop (0 : Nat) x))).fst.b.a1
 (etDecode (List.take (List.length x) (List.drop (0 : Nat) x))).fst.b.a2
 (etDecode (List.take (List.length x) (List.drop (0 : Nat) x))).fst.b.a3
 (etDecode (List.take (List.length x) (List.drop (0 : Nat) x))).fst.b.a4
 (etDecode (List.take (List.length x) (List.drop (0 : Nat) x))).fst.b.a5)
 (etDecode (List.take (List.length x) (List.drop (0 : Nat) x))).fst.ty
 (etDecode
 (List.take (List.length x) (List.drop (0 : Nat) x))).fst.body)).fst.target =
 b) &&
 decide
 ((nbRead
 (Fm.mk
 (Mc.mk (etDecode (List.take (List.length x) (List.drop (0 : Nat) x))).fst.a.a0
 (etDecode (List.take (List.length x) (List.drop (0 : Nat) x))).fst.a.a1
 (etDecode (List.take (List.length x) (List.drop (0 : Nat) x))).fst.a.a2
 (etDecode (List.take (List.length x) (List.drop (0 : Nat) x))).fst.a.a3
 (etDecode (List.take (List.length x) (List.drop (0 : Nat) x))).fst.a.a4
 (etDecode (List.take (List.length x) (List.drop (0 : Nat) x))).fst.a.a5)
 (Mc.mk (etDecode (List.take (List.length x) (List.drop (0 : Nat) x))).fst.b.a0
 (etDecode (List.take (List.length x) (List.drop (0 : Nat) x))).fst.b.a1
 (etDecode (List.take (List.length x) (List.drop (0 : Nat) x))).fst.b.a2
 (etDecode (List.take (List.length x) (List.drop (0 : Nat) x))).fst.b.a3
 (etDecode (List.take (List.length x) (List.drop (0 : Nat) x))).fst.b.a4
 (etDecode (List.take (List.length x) (List.drop (0 : Nat) x))).fst.b.a5)
 (etDecode (List.take (List.length x) (List.drop (0 : Nat) x))).fst.ty
 (etDecode
 (List.take (List.length x) (List.drop (0 : Nat) x))).fst.body)).fst.asked =
 false))))))))))
 (((0 : Int) ≤ (0 : Int) ∧ (0 : Int) < (2 : Int)) ∧
 ((0 : Int) ≤ (1 : Int) ∧ (1 : Int) < (2 : Int)) ∧
 brP
 (decide
 ((nbRead
 (Fm.mk
 (Mc.mk (etDecode (List.take (List.length x_1) (List.drop (0 : Nat) x_1))).fst.a.a0
 (etDecode (List.take (List.length x_1) (List.drop (0 : Nat) x_1))).fst.a.a1
 (etDecode (List.take (List.length x_1) (List.drop (0 : Nat) x_1))).fst.a.a2
 (etDecode (List.take (List.length x_1) (List.drop (0 : Nat) x_1))).fst.a.a3
 (etDecode (List.take (List.length x_1) (List.drop (0 : Nat) x_1))).fst.a.a4
 (etDecode (List.take (List.length x_1) (List.drop (0 : Nat) x_1))).fst.a.a5)
 (Mc.mk (etDecode (List.take (List.length x_1) (List.drop (0 : Nat) x_1))).fst.b.a0
 (etDecode (List.take (List.length x_1) (List.drop (0 : Nat) x_1))).fst.b.a1
 (etDecode (List.take (List.length x_1) (List.drop (0 : Nat) x_1))).fst.b.a2
 (etDecode (List.take (List.length x_1) (List.drop (0 : Nat) x_1))).fst.b.a3
 (etDecode (List.take (List.length x_1) (List.drop (0 : Nat) x_1))).fst.b.a4
 (etDecode (List.take (List.length x_1) (List.drop (0 : Nat) x_1))).fst.b.a5)
 (etDecode (List.take (List.length x_1) (List.drop (0 : Nat) x_1))).fst.ty
 (etDecode
 (List.take (List.length x_1) (List.drop (0 : Nat) x_1))).fst.body)).fst.kind =
 (2 : Int)) &&
 (decide
 ((nbRead
 (Fm.mk
 (Mc.mk (etDecode (List.take (List.length x_1) (List.drop (0 : Nat) x_1))).fst.a.a0
 (etDecode (List.take (List.length x_1) (List.drop (0 : Nat) x_1))).fst.a.a1
 (etDecode (List.take (List.length x_1) (List.drop (0 : Nat) x_1))).fst.a.a2
 (etDecode (List.take (List.length x_1) (List.drop (0 : Nat) x_1))).fst.a.a3
 (etDecode (List.take (List.length x_1) (List.drop (0 : Nat) x_1))).fst.a.a4
 (etDecode (List.take (List.length x_1) (List.drop (0 : Nat) x_1))).fst.a.a5)
 (Mc.mk (etDecode (List.take (List.length x_1) (List.drop (0 : Nat) x_1))).fst.b.a0
 (etDecode (List.take (List.length x_1) (List.drop (0 : Nat) x_1))).fst.b.a1
 (etDecode (List.take (List.length x_1) (List.drop (0 : Nat) x_1))).fst.b.a2
 (etDecode (List.take (List.length x_1) (List.drop (0 : Nat) x_1))).fst.b.a3
 (etDecode (List.take (List.length x_1) (List.drop (0 : Nat) x_1))).fst.b.a4
 (etDecode (List.take (List.length x_1) (List.drop (0 : Nat) x_1))).fst.b.a5)
 (etDecode (List.take (List.length x_1) (List.drop (0 : Nat) x_1))).fst.ty
 (etDecode
 (List.take (List.length x_1)
 (List.drop (0 : Nat) x_1))).fst.body)).fst.mac.a0 =
 m0) &&
 (decide
 ((nbRead
 (Fm.mk
 (Mc.mk
 (etDecode (List.take (List.length x_1) (List.drop (0 : Nat) x_1))).fst.a.a0
 (etDecode (List.take (List.length x_1) (List.drop (0 : Nat) x_1))).fst.a.a1
 (etDecode (List.take (List.length x_1) (List.drop (0 : Nat) x_1))).fst.a.a2
 (etDecode (List.take (List.length x_1) (List.drop (0 : Nat) x_1))).fst.a.a3
 (etDecode (List.take (List.length x_1) (List.drop (0 : Nat) x_1))).fst.a.a4
 (etDecode (List.take (List.length x_1) (List.drop (0 : Nat) x_1))).fst.a.a5)
 (Mc.mk
 (etDecode (List.take (List.length x_1) (List.drop (0 : Nat) x_1))).fst.b.a0
 (etDecode (List.take (List.length x_1) (List.drop (0 : Nat) x_1))).fst.b.a1
 (etDecode (List.take (List.length x_1) (List.drop (0 : Nat) x_1))).fst.b.a2
 (etDecode (List.take (List.length x_1) (List.drop (0 : Nat) x_1))).fst.b.a3
 (etDecode (List.take (List.length x_1) (List.drop (0 : Nat) x_1))).fst.b.a4
 (etDecode (List.take (List.length x_1) (List.drop (0 : Nat) x_1))).fst.b.a5)
 (etDecode (List.take (List.length x_1) (List.drop (0 : Nat) x_1))).fst.ty
 (etDecode
 (List.take (List.length x_1)
 (List.drop (0 : Nat) x_1))).fst.body)).fst.mac.a1 =
 m1) &&
 (decide
 ((nbRead
 (Fm.mk
 (Mc.mk
 (etDecode (List.take (List.length x_1) (List.drop (0 : Nat) x_1))).fst.a.a0
 (etDecode (List.take (List.length x_1) (List.drop (0 : Nat) x_1))).fst.a.a1
 (etDecode (List.take (List.length x_1) (List.drop (0 : Nat) x_1))).fst.a.a2
 (etDecode (List.take (List.length x_1) (List.drop (0 : Nat) x_1))).fst.a.a3
 (etDecode (List.take (List.length x_1) (List.drop (0 : Nat) x_1))).fst.a.a4
 (etDecode (List.take (List.length x_1) (List.drop (0 : Nat) x_1))).fst.a.a5)
 (Mc.mk
 (etDecode (List.take (List.length x_1) (List.drop (0 : Nat) x_1))).fst.b.a0
 (etDecode (List.take (List.length x_1) (List.drop (0 : Nat) x_1))).fst.b.a1
 (etDecode (List.take (List.length x_1) (List.drop (0 : Nat) x_1))).fst.b.a2
 (etDecode (List.take (List.length x_1) (List.drop (0 : Nat) x_1))).fst.b.a3
 (etDecode (List.take (List.length x_1) (List.drop (0 : Nat) x_1))).fst.b.a4
 (etDecode (List.take (List.length x_1) (List.drop (0 : Nat) x_1))).fst.b.a5)
 (etDecode (List.take (List.length x_1) (List.drop (0 : Nat) x_1))).fst.ty
 (etDecode
 (List.take (List.length x_1)
 (List.drop (0 : Nat) x_1))).fst.body)).fst.mac.a2 =
 m2) &&
 (decide
 ((nbRead
 (Fm.mk
 (Mc.mk
 (etDecode (List.take (List.length x_1) (List.drop (0 : Nat) x_1))).fst.a.a0
 (etDecode (List.take (List.length x_1) (List.drop (0 : Nat) x_1))).fst.a.a1
 (etDecode (List.take (List.length x_1) (List.drop (0 : Nat) x_1))).fst.a.a2
 (etDecode (List.take (List.length x_1) (List.drop (0 : Nat) x_1))).fst.a.a3
 (etDecode (List.take (List.length x_1) (List.drop (0 : Nat) x_1))).fst.a.a4
 (etDecode (List.take (List.length x_1) (List.drop (0 : Nat) x_1))).fst.a.a5)
 (Mc.mk
 (etDecode (List.take (List.length x_1) (List.drop (0 : Nat) x_1))).fst.b.a0
 (etDecode (List.take (List.length x_1) (List.drop (0 : Nat) x_1))).fst.b.a1
 (etDecode (List.take (List.length x_1) (List.drop (0 : Nat) x_1))).fst.b.a2
 (etDecode (List.take (List.length x_1) (List.drop (0 : Nat) x_1))).fst.b.a3
 (etDecode (List.take (List.length x_1) (List.drop (0 : Nat) x_1))).fst.b.a4
 (etDecode (List.take (List.length x_1) (List.drop (0 : Nat) x_1))).fst.b.a5)
 (etDecode (List.take (List.length x_1) (List.drop (0 : Nat) x_1))).fst.ty
 (etDecode
 (List.take (List.length x_1)
 (List.drop (0 : Nat) x_1))).fst.body)).fst.mac.a3 =
 m3) &&
 (decide
 ((nbRead
 (Fm.mk
 (Mc.mk
 (etDecode (List.take (List.length x_1) (List.drop (0 : Nat) x_1))).fst.a.a0
 (etDecode (List.take (List.length x_1) (List.drop (0 : Nat) x_1))).fst.a.a1
 (etDecode (List.take (List.length x_1) (List.drop (0 : Nat) x_1))).fst.a.a2
 (etDecode (List.take (List.length x_1) (List.drop (0 : Nat) x_1))).fst.a.a3
 (etDecode (List.take (List.length x_1) (List.drop (0 : Nat) x_1))).fst.a.a4
 (etDecode (List.take (List.length x_1) (List.drop (0 : Nat) x_1))).fst.a.a5)
 (Mc.mk
 (etDecode (List.take (List.length x_1) (List.drop (0 : Nat) x_1))).fst.b.a0
 (etDecode (List.take (List.length x_1) (List.drop (0 : Nat) x_1))).fst.b.a1
 (etDecode (List.take (List.length x_1) (List.drop (0 : Nat) x_1))).fst.b.a2
 (etDecode (List.take (List.length x_1) (List.drop (0 : Nat) x_1))).fst.b.a3
 (etDecode (List.take (List.length x_1) (List.drop (0 : Nat) x_1))).fst.b.a4
 (etDecode (List.take (List.length x_1) (List.drop (0 : Nat) x_1))).fst.b.a5)
 (etDecode (List.take (List.length x_1) (List.drop (0 : Nat) x_1))).fst.ty
 (etDecode
 (List.take (List.length x_1)
 (List.drop (0 : Nat) x_1))).fst.body)).fst.mac.a4 =
 m4) &&
 (decide
 ((nbRead
 (Fm.mk
 (Mc.mk
 (etDecode (List.take (List.length x_1) (List.drop (0 : Nat) x_1))).fst.a.a0
 (etDecode (List.take (List.length x_1) (List.drop (0 : Nat) x_1))).fst.a.a1
 (etDecode (List.take (List.length x_1) (List.drop (0 : Nat) x_1))).fst.a.a2
 (etDecode (List.take (List.length x_1) (List.drop (0 : Nat) x_1))).fst.a.a3
 (etDecode (List.take (List.length x_1) (List.drop (0 : Nat) x_1))).fst.a.a4
 (etDecode (List.take (List.length x_1) (List.drop (0 : Nat) x_1))).fst.a.a5)
 (Mc.mk
 (etDecode (List.take (List.length x_1) (List.drop (0 : Nat) x_1))).fst.b.a0
 (etDecode (List.take (List.length x_1) (List.drop (0 : Nat) x_1))).fst.b.a1
 (etDecode (List.take (List.length x_1) (List.drop (0 : Nat) x_1))).fst.b.a2
 (etDecode (List.take (List.length x_1) (List.drop (0 : Nat) x_1))).fst.b.a3
 (etDecode (List.take (List.length x_1) (List.drop (0 : Nat) x_1))).fst.b.a4
 (etDecode (List.take (List.length x_1) (List.drop (0 : Nat) x_1))).fst.b.a5)
 (etDecode (List.take (List.length x_1) (List.drop (0 : Nat) x_1))).fst.ty
 (etDecode
 (List.take (List.length x_1)
 (List.drop (0 : Nat) x_1))).fst.body)).fst.mac.a5 =
 m5) &&
 (decide
 ((nbRead
 (Fm.mk
 (Mc.mk
 (etDecode (List.take (List.length x_1) (List.drop (0 : Nat) x_1))).fst.a.a0
 (etDecode (List.take (List.length x_1) (List.drop (0 : Nat) x_1))).fst.a.a1
 (etDecode (List.take (List.length x_1) (List.drop (0 : Nat) x_1))).fst.a.a2
 (etDecode (List.take (List.length x_1) (List.drop (0 : Nat) x_1))).fst.a.a3
 (etDecode (List.take (List.length x_1) (List.drop (0 : Nat) x_1))).fst.a.a4
 (etDecode (List.take (List.length x_1) (List.drop (0 : Nat) x_1))).fst.a.a5)
 (Mc.mk
 (etDecode (List.take (List.length x_1) (List.drop (0 : Nat) x_1))).fst.b.a0
 (etDecode (List.take (List.length x_1) (List.drop (0 : Nat) x_1))).fst.b.a1
 (etDecode (List.take (List.length x_1) (List.drop (0 : Nat) x_1))).fst.b.a2
 (etDecode (List.take (List.length x_1) (List.drop (0 : Nat) x_1))).fst.b.a3
 (etDecode (List.take (List.length x_1) (List.drop (0 : Nat) x_1))).fst.b.a4
 (etDecode (List.take (List.length x_1) (List.drop (0 : Nat) x_1))).fst.b.a5)
 (etDecode (List.take (List.length x_1) (List.drop (0 : Nat) x_1))).fst.ty
 (etDecode
 (List.take (List.length x_1)
 (List.drop (0 : Nat) x_1))).fst.body)).fst.addr =
 a) &&
 (decide
 ((nbRead
 (Fm.mk
 (Mc.mk
 (etDecode (List.take (List.length x_1) (List.drop (0 : Nat) x_1))).fst.a.a0
 (etDecode (List.take (List.length x_1) (List.drop (0 : Nat) x_1))).fst.a.a1
 (etDecode (List.take (List.length x_1) (List.drop (0 : Nat) x_1))).fst.a.a2
 (etDecode (List.take (List.length x_1) (List.drop (0 : Nat) x_1))).fst.a.a3
 (etDecode (List.take (List.length x_1) (List.drop (0 : Nat) x_1))).fst.a.a4
 (etDecode
 (List.take (List.length x_1) (List.drop (0 : Nat) x_1))).fst.a.a5)
 (Mc.mk
 (etDecode (List.take (List.length x_1) (List.drop (0 : Nat) x_1))).fst.b.a0
 (etDecode (List.take (List.length x_1) (List.drop (0 : Nat) x_1))).fst.b.a1
 (etDecode (List.take (List.length x_1) (List.drop (0 : Nat) x_1))).fst.b.a2
 (etDecode (List.take (List.length x_1) (List.drop (0 : Nat) x_1))).fst.b.a3
 (etDecode (List.take (List.length x_1) (List.drop (0 : Nat) x_1))).fst.b.a4
 (etDecode
 (List.take (List.length x_1) (List.drop (0 : Nat) x_1))).fst.b.a5)
 (etDecode (List.take (List.length x_1) (List.drop (0 : Nat) x_1))).fst.ty
 (etDecode
 (List.take (List.length x_1)
 (List.drop (0 : Nat) x_1))).fst.body)).fst.target =
 b) &&
 decide
 ((nbRead
 (Fm.mk
 (Mc.mk
 (etDecode (List.take (List.length x_1) (List.drop (0 : Nat) x_1))).fst.a.a0
 (etDecode (List.take (List.length x_1) (List.drop (0 : Nat) x_1))).fst.a.a1
 (etDecode (List.take (List.length x_1) (List.drop (0 : Nat) x_1))).fst.a.a2
 (etDecode (List.take (List.length x_1) (List.drop (0 : Nat) x_1))).fst.a.a3
 (etDecode (List.take (List.length x_1) (List.drop (0 : Nat) x_1))).fst.a.a4
 (etDecode
 (List.take (List.length x_1) (List.drop (0 : Nat) x_1))).fst.a.a5)
 (Mc.mk
 (etDecode (List.take (List.length x_1) (List.drop (0 : Nat) x_1))).fst.b.a0
 (etDecode (List.take (List.length x_1) (List.drop (0 : Nat) x_1))).fst.b.a1
 (etDecode (List.take (List.length x_1) (List.drop (0 : Nat) x_1))).fst.b.a2
 (etDecode (List.take (List.length x_1) (List.drop (0 : Nat) x_1))).fst.b.a3
 (etDecode (List.take (List.length x_1) (List.drop (0 : Nat) x_1))).fst.b.a4
 (etDecode
 (List.take (List.length x_1) (List.drop (0 : Nat) x_1))).fst.b.a5)
 (etDecode (List.take (List.length x_1) (List.drop (0 : Nat) x_1))).fst.ty
 (etDecode
 (List.take (List.length x_1)
 (List.drop (0 : Nat) x_1))).fst.body)).fst.asked =
 true))))))))))
 (brP
 (decide
 ((nbRead
 (Fm.mk
 (Mc.mk (etDecode (List.take (List.length x_2) (List.drop (0 : Nat) x_2))).fst.a.a0
 (etDecode (List.take (List.length x_2) (List.drop (0 : Nat) x_2))).fst.a.a1
 (etDecode (List.take (List.length x_2) (List.drop (0 : Nat) x_2))).fst.a.a2
 (etDecode (List.take (List.length x_2) (List.drop (0 : Nat) x_2))).fst.a.a3
 (etDecode (List.take (List.length x_2) (List.drop (0 : Nat) x_2))).fst.a.a4
 (etDecode (List.take (List.length x_2) (List.drop (0 : Nat) x_2))).fst.a.a5)
 (Mc.mk (etDecode (List.take (List.length x_2) (List.drop (0 : Nat) x_2))).fst.b.a0
 (etDecode (List.take (List.length x_2) (List.drop (0 : Nat) x_2))).fst.b.a1
 (etDecode (List.take (List.length x_2) (List.drop (0 : Nat) x_2))).fst.b.a2
 (etDecode (List.take (List.length x_2) (List.drop (0 : Nat) x_2))).fst.b.a3
 (etDecode (List.take (List.length x_2) (List.drop (0 : Nat) x_2))).fst.b.a4
 (etDecode (List.take (List.length x_2) (List.drop (0 : Nat) x_2))).fst.b.a5)
 (etDecode (List.take (List.length x_2) (List.drop (0 : Nat) x_2))).fst.ty
 (etDecode
 (List.take (List.length x_2)
 (List.drop (0 : Nat) x_2))).fst.body)).fst.mac.a0 =
 m0) &&
 (decide
 ((nbRead
 (Fm.mk
 (Mc.mk
 (etDecode (List.take (List.length x_2) (List.drop (0 : Nat) x_2))).fst.a.a0
 (etDecode (List.take (List.length x_2) (List.drop (0 : Nat) x_2))).fst.a.a1
 (etDecode (List.take (List.length x_2) (List.drop (0 : Nat) x_2))).fst.a.a2
 (etDecode (List.take (List.length x_2) (List.drop (0 : Nat) x_2))).fst.a.a3
 (etDecode (List.take (List.length x_2) (List.drop (0 : Nat) x_2))).fst.a.a4
 (etDecode (List.take (List.length x_2) (List.drop (0 : Nat) x_2))).fst.a.a5)
 (Mc.mk
 (etDecode (List.take (List.length x_2) (List.drop (0 : Nat) x_2))).fst.b.a0
 (etDecode (List.take (List.length x_2) (List.drop (0 : Nat) x_2))).fst.b.a1
 (etDecode (List.take (List.length x_2) (List.drop (0 : Nat) x_2))).fst.b.a2
 (etDecode (List.take (List.length x_2) (List.drop (0 : Nat) x_2))).fst.b.a3
 (etDecode (List.take (List.length x_2) (List.drop (0 : Nat) x_2))).fst.b.a4
 (etDecode (List.take (List.length x_2) (List.drop (0 : Nat) x_2))).fst.b.a5)
 (etDecode (List.take (List.length x_2) (List.drop (0 : Nat) x_2))).fst.ty
 (etDecode
 (List.take (List.length x_2)
 (List.drop (0 : Nat) x_2))).fst.body)).fst.mac.a1 =
 m1) &&
 (decide
 ((nbRead
 (Fm.mk
 (Mc.mk
 (etDecode (List.take (List.length x_2) (List.drop (0 : Nat) x_2))).fst.a.a0
 (etDecode (List.take (List.length x_2) (List.drop (0 : Nat) x_2))).fst.a.a1
 (etDecode (List.take (List.length x_2) (List.drop (0 : Nat) x_2))).fst.a.a2
 (etDecode (List.take (List.length x_2) (List.drop (0 : Nat) x_2))).fst.a.a3
 (etDecode (List.take (List.length x_2) (List.drop (0 : Nat) x_2))).fst.a.a4
 (etDecode (List.take (List.length x_2) (List.drop (0 : Nat) x_2))).fst.a.a5)
 (Mc.mk
 (etDecode (List.take (List.length x_2) (List.drop (0 : Nat) x_2))).fst.b.a0
 (etDecode (List.take (List.length x_2) (List.drop (0 : Nat) x_2))).fst.b.a1
 (etDecode (List.take (List.length x_2) (List.drop (0 : Nat) x_2))).fst.b.a2
 (etDecode (List.take (List.length x_2) (List.drop (0 : Nat) x_2))).fst.b.a3
 (etDecode (List.take (List.length x_2) (List.drop (0 : Nat) x_2))).fst.b.a4
 (etDecode (List.take (List.length x_2) (List.drop (0 : Nat) x_2))).fst.b.a5)
 (etDecode (List.take (List.length x_2) (List.drop (0 : Nat) x_2))).fst.ty
 (etDecode
 (List.take (List.length x_2)
 (List.drop (0 : Nat) x_2))).fst.body)).fst.mac.a2 =
 m2) &&
 (decide
 ((nbRead
 (Fm.mk
 (Mc.mk
 (etDecode (List.take (List.length x_2) (List.drop (0 : Nat) x_2))).fst.a.a0
 (etDecode (List.take (List.length x_2) (List.drop (0 : Nat) x_2))).fst.a.a1
 (etDecode (List.take (List.length x_2) (List.drop (0 : Nat) x_2))).fst.a.a2
 (etDecode (List.take (List.length x_2) (List.drop (0 : Nat) x_2))).fst.a.a3
 (etDecode (List.take (List.length x_2) (List.drop (0 : Nat) x_2))).fst.a.a4
 (etDecode (List.take (List.length x_2) (List.drop (0 : Nat) x_2))).fst.a.a5)
 (Mc.mk
 (etDecode (List.take (List.length x_2) (List.drop (0 : Nat) x_2))).fst.b.a0
 (etDecode (List.take (List.length x_2) (List.drop (0 : Nat) x_2))).fst.b.a1
 (etDecode (List.take (List.length x_2) (List.drop (0 : Nat) x_2))).fst.b.a2
 (etDecode (List.take (List.length x_2) (List.drop (0 : Nat) x_2))).fst.b.a3
 (etDecode (List.take (List.length x_2) (List.drop (0 : Nat) x_2))).fst.b.a4
 (etDecode (List.take (List.length x_2) (List.drop (0 : Nat) x_2))).fst.b.a5)
 (etDecode (List.take (List.length x_2) (List.drop (0 : Nat) x_2))).fst.ty
 (etDecode
 (List.take (List.length x_2)
 (List.drop (0 : Nat) x_2))).fst.body)).fst.mac.a3 =
 m3) &&
 (decide
 ((nbRead
 (Fm.mk
 (Mc.mk
 (etDecode (List.take (List.length x_2) (List.drop (0 : Nat) x_2))).fst.a.a0
 (etDecode (List.take (List.length x_2) (List.drop (0 : Nat) x_2))).fst.a.a1
 (etDecode (List.take (List.length x_2) (List.drop (0 : Nat) x_2))).fst.a.a2
 (etDecode (List.take (List.length x_2) (List.drop (0 : Nat) x_2))).fst.a.a3
 (etDecode (List.take (List.length x_2) (List.drop (0 : Nat) x_2))).fst.a.a4
 (etDecode (List.take (List.length x_2) (List.drop (0 : Nat) x_2))).fst.a.a5)
 (Mc.mk
 (etDecode (List.take (List.length x_2) (List.drop (0 : Nat) x_2))).fst.b.a0
 (etDecode (List.take (List.length x_2) (List.drop (0 : Nat) x_2))).fst.b.a1
 (etDecode (List.take (List.length x_2) (List.drop (0 : Nat) x_2))).fst.b.a2
 (etDecode (List.take (List.length x_2) (List.drop (0 : Nat) x_2))).fst.b.a3
 (etDecode (List.take (List.length x_2) (List.drop (0 : Nat) x_2))).fst.b.a4
 (etDecode (List.take (List.length x_2) (List.drop (0 : Nat) x_2))).fst.b.a5)
 (etDecode (List.take (List.length x_2) (List.drop (0 : Nat) x_2))).fst.ty
 (etDecode
 (List.take (List.length x_2)
 (List.drop (0 : Nat) x_2))).fst.body)).fst.mac.a4 =
 m4) &&
 decide
 ((nbRead
 (Fm.mk
 (Mc.mk
 (etDecode (List.take (List.length x_2) (List.drop (0 : Nat) x_2))).fst.a.a0
 (etDecode (List.take (List.length x_2) (List.drop (0 : Nat) x_2))).fst.a.a1
 (etDecode (List.take (List.length x_2) (List.drop (0 : Nat) x_2))).fst.a.a2
 (etDecode (List.take (List.length x_2) (List.drop (0 : Nat) x_2))).fst.a.a3
 (etDecode (List.take (List.length x_2) (List.drop (0 : Nat) x_2))).fst.a.a4
 (etDecode (List.take (List.length x_2) (List.drop (0 : Nat) x_2))).fst.a.a5)
 (Mc.mk
 (etDecode (List.take (List.length x_2) (List.drop (0 : Nat) x_2))).fst.b.a0
 (etDecode (List.take (List.length x_2) (List.drop (0 : Nat) x_2))).fst.b.a1
 (etDecode (List.take (List.length x_2) (List.drop (0 : Nat) x_2))).fst.b.a2
 (etDecode (List.take (List.length x_2) (List.drop (0 : Nat) x_2))).fst.b.a3
 (etDecode (List.take (List.length x_2) (List.drop (0 : Nat) x_2))).fst.b.a4
 (etDecode (List.take (List.length x_2) (List.drop (0 : Nat) x_2))).fst.b.a5)
 (etDecode (List.take (List.length x_2) (List.drop (0 : Nat) x_2))).fst.ty
 (etDecode
 (List.take (List.length x_2)
 (List.drop (0 : Nat) x_2))).fst.body)).fst.mac.a5 =
 m5))))))
 (((0 : Int) ≤ (0 : Int) ∧ (0 : Int) < (2 : Int)) ∧
 brP
 (decide
 ((nbRead
 (Fm.mk
 (Mc.mk (etDecode (List.take (List.length x_2) (List.drop (0 : Nat) x_2))).fst.a.a0
 (etDecode (List.take (List.length x_2) (List.drop (0 : Nat) x_2))).fst.a.a1
 (etDecode (List.take (List.length x_2) (List.drop (0 : Nat) x_2))).fst.a.a2
 (etDecode (List.take (List.length x_2) (List.drop (0 : Nat) x_2))).fst.a.a3
 (etDecode (List.take (List.length x_2) (List.drop (0 : Nat) x_2))).fst.a.a4
 (etDecode (List.take (List.length x_2) (List.drop (0 : Nat) x_2))).fst.a.a5)
 (Mc.mk (etDecode (List.take (List.length x_2) (List.drop (0 : Nat) x_2))).fst.b.a0
 (etDecode (List.take (List.length x_2) (List.drop (0 : Nat) x_2))).fst.b.a1
 (etDecode (List.take (List.length x_2) (List.drop (0 : Nat) x_2))).fst.b.a2
 (etDecode (List.take (List.length x_2) (List.drop (0 : Nat) x_2))).fst.b.a3
 (etDecode (List.take (List.length x_2) (List.drop (0 : Nat) x_2))).fst.b.a4
 (etDecode (List.take (List.length x_2) (List.drop (0 : Nat) x_2))).fst.b.a5)
 (etDecode (List.take (List.length x_2) (List.drop (0 : Nat) x_2))).fst.ty
 (etDecode
 (List.take (List.length x_2) (List.drop (0 : Nat) x_2))).fst.body)).fst.addr =
 a))
 (brP
 (!(nbRead
 (Fm.mk
 (Mc.mk (etDecode (List.take (List.length x_2) (List.drop (0 : Nat) x_2))).fst.a.a0
 (etDecode (List.take (List.length x_2) (List.drop (0 : Nat) x_2))).fst.a.a1
 (etDecode (List.take (List.length x_2) (List.drop (0 : Nat) x_2))).fst.a.a2
 (etDecode (List.take (List.length x_2) (List.drop (0 : Nat) x_2))).fst.a.a3
 (etDecode (List.take (List.length x_2) (List.drop (0 : Nat) x_2))).fst.a.a4
 (etDecode (List.take (List.length x_2) (List.drop (0 : Nat) x_2))).fst.a.a5)
 (Mc.mk (etDecode (List.take (List.length x_2) (List.drop (0 : Nat) x_2))).fst.b.a0
 (etDecode (List.take (List.length x_2) (List.drop (0 : Nat) x_2))).fst.b.a1
 (etDecode (List.take (List.length x_2) (List.drop (0 : Nat) x_2))).fst.b.a2
 (etDecode (List.take (List.length x_2) (List.drop (0 : Nat) x_2))).fst.b.a3
 (etDecode (List.take (List.length x_2) (List.drop (0 : Nat) x_2))).fst.b.a4
 (etDecode (List.take (List.length x_2) (List.drop (0 : Nat) x_2))).fst.b.a5)
 (etDecode (List.take (List.length x_2) (List.drop (0 : Nat) x_2))).fst.ty
 (etDecode
 (List.take (List.length x_2) (List.drop (0 : Nat) x_2))).fst.body)).fst.asked)
 (brP
 (decide
 (decide
 ((nbRead
 (Fm.mk
 (Mc.mk
 (etDecode (List.take (List.length x_2) (List.drop (0 : Nat) x_2))).fst.a.a0
 (etDecode (List.take (List.length x_2) (List.drop (0 : Nat) x_2))).fst.a.a1
 (etDecode (List.take (List.length x_2) (List.drop (0 : Nat) x_2))).fst.a.a2
 (etDecode (List.take (List.length x_2) (List.drop (0 : Nat) x_2))).fst.a.a3
 (etDecode (List.take (List.length x_2) (List.drop (0 : Nat) x_2))).fst.a.a4
 (etDecode (List.take (List.length x_2) (List.drop (0 : Nat) x_2))).fst.a.a5)
 (Mc.mk
 (etDecode (List.take (List.length x_2) (List.drop (0 : Nat) x_2))).fst.b.a0
 (etDecode (List.take (List.length x_2) (List.drop (0 : Nat) x_2))).fst.b.a1
 (etDecode (List.take (List.length x_2) (List.drop (0 : Nat) x_2))).fst.b.a2
 (etDecode (List.take (List.length x_2) (List.drop (0 : Nat) x_2))).fst.b.a3
 (etDecode (List.take (List.length x_2) (List.drop (0 : Nat) x_2))).fst.b.a4
 (etDecode (List.take (List.length x_2) (List.drop (0 : Nat) x_2))).fst.b.a5)
 (etDecode (List.take (List.length x_2) (List.drop (0 : Nat) x_2))).fst.ty
 (etDecode
 (List.take (List.length x_2)
 (List.drop (0 : Nat) x_2))).fst.body)).fst.kind =
 (2 : Int)) =
 decide ((↑(List.length a) : Int) = (16 : Int))))
 (brP (decide ((↑(List.length a) : Int) = (16 : Int))) (K (AVal.bool true) [])
 (((0 : Int) ≤ (0 : Int) ∧ (0 : Int) < (2 : Int)) ∧
 K
 (AVal.bool
 (decide
 ((nbRead
 (Fm.mk
 (Mc.mk
 (etDecode (List.take (List.length x_2) (List.drop (0 : Nat) x_2))).fst.a.a0
 (etDecode (List.take (List.length x_2) (List.drop (0 : Nat) x_2))).fst.a.a1
 (etDecode (List.take (List.length x_2) (List.drop (0 : Nat) x_2))).fst.a.a2
 (etDecode (List.take (List.length x_2) (List.drop (0 : Nat) x_2))).fst.a.a3
 (etDecode (List.take (List.length x_2) (List.drop (0 : Nat) x_2))).fst.a.a4
 (etDecode
 (List.take (List.length x_2) (List.drop (0 : Nat) x_2))).fst.a.a5)
 (Mc.mk
 (etDecode (List.take (List.length x_2) (List.drop (0 : Nat) x_2))).fst.b.a0
 (etDecode (List.take (List.length x_2) (List.drop (0 : Nat) x_2))).fst.b.a1
 (etDecode (List.take (List.length x_2) (List.drop (0 : Nat) x_2))).fst.b.a2
 (etDecode (List.take (List.length x_2) (List.drop (0 : Nat) x_2))).fst.b.a3
 (etDecode (List.take (List.length x_2) (List.drop (0 : Nat) x_2))).fst.b.a4
 (etDecode
 (List.take (List.length x_2) (List.drop (0 : Nat) x_2))).fst.b.a5)
 (etDecode (List.take (List.length x_2) (List.drop (0 : Nat) x_2))).fst.ty
 (etDecode
 (List.take (List.length x_2)
 (List.drop (0 : Nat) x_2))).fst.body)).fst.target =
 a)))
 []))
 (K (AVal.bool false) []))
 (K (AVal.bool false) []))
 (K (AVal.bool false) []))
 (K (AVal.bool false) []))
 (K (AVal.bool false) []))
 (K (AVal.bool false) [])))
 (brP
 (!decide
 ((nbRead
 (Fm.mk
 (Mc.mk (etDecode (List.take (List.length x) (List.drop (0 : Nat) x))).fst.a.a0
 (etDecode (List.take (List.length x) (List.drop (0 : Nat) x))).fst.a.a1
 (etDecode (List.take (List.length x) (List.drop (0 : Nat) x))).fst.a.a2
 (etDecode (List.take (List.length x) (List.drop (0 : Nat) x))).fst.a.a3
 (etDecode (List.take (List.length x) (List.drop (0 : Nat) x))).fst.a.a4
 (etDecode (List.take (List.length x) (List.drop (0 : Nat) x))).fst.a.a5)
 (Mc.mk (etDecode (List.take (List.length x) (List.drop (0 : Nat) x))).fst.b.a0
 (etDecode (List.take (List.length x) (List.drop (0 : Nat) x))).fst.b.a1
 (etDecode (List.take (List.length x) (List.drop (0 : Nat) x))).fst.b.a2
 (etDecode (List.take (List.length x) (List.drop (0 : Nat) x))).fst.b.a3
 (etDecode (List.take (List.length x) (List.drop (0 : Nat) x))).fst.b.a4
 (etDecode (List.take (List.length x) (List.drop (0 : Nat) x))).fst.b.a5)
 (etDecode (List.take (List.length x) (List.drop (0 : Nat) x))).fst.ty
 (etDecode (List.take (List.length x) (List.drop (0 : Nat) x))).fst.body)).snd =
 (0 : Int)) ||
 true ||
 true)
 (K (AVal.bool false) [])
 (((0 : Int) ≤ (0 : Int) ∧ (0 : Int) < (2 : Int)) ∧
 ((0 : Int) ≤ (0 : Int) ∧ (0 : Int) < (2 : Int)) ∧
 ((0 : Int) ≤ (1 : Int) ∧ (1 : Int) < (2 : Int)) ∧
 brP
 (decide
 ((nbRead
 (Fm.mk
 (Mc.mk (etDecode (List.take (List.length x) (List.drop (0 : Nat) x))).fst.a.a0
 (etDecode (List.take (List.length x) (List.drop (0 : Nat) x))).fst.a.a1
 (etDecode (List.take (List.length x) (List.drop (0 : Nat) x))).fst.a.a2
 (etDecode (List.take (List.length x) (List.drop (0 : Nat) x))).fst.a.a3
 (etDecode (List.take (List.length x) (List.drop (0 : Nat) x))).fst.a.a4
 (etDecode (List.take (List.length x) (List.drop (0 : Nat) x))).fst.a.a5)
 (Mc.mk (etDecode (List.take (List.length x) (List.drop (0 : Nat) x))).fst.b.a0
 (etDecode (List.take (List.length x) (List.drop (0 : Nat) x))).fst.b.a1
 (etDecode (List.take (List.length x) (List.drop (0 : Nat) x))).fst.b.a2
 (etDecode (List.take (List.length x) (List.drop (0 : Nat) x))).fst.b.a3
 (etDecode (List.take (List.length x) (List.drop (0 : Nat) x))).fst.b.a4
 (etDecode (List.take (List.length x) (List.drop (0 : Nat) x))).fst.b.a5)
 (etDecode (List.take (List.length x) (List.drop (0 : Nat) x))).fst.ty
 (etDecode (List.take (List.length x) (List.drop (0 : Nat) x))).fst.body)).fst.kind =
 (1 : Int)) &&
 (decide
 ((nbRead
 (Fm.mk
 (Mc.mk (etDecode (List.take (List.length x) (List.drop (0 : Nat) x))).fst.a.a0
 (etDecode (List.take (List.length x) (List.drop (0 : Nat) x))).fst.a.a1
 (etDecode (List.take (List.length x) (List.drop (0 : Nat) x))).fst.a.a2
 (etDecode (List.take (List.length x) (List.drop (0 : Nat) x))).fst.a.a3
 (etDecode (List.take (List.length x) (List.drop (0 : Nat) x))).fst.a.a4
 (etDecode (List.take (List.length x) (List.drop (0 : Nat) x))).fst.a.a5)
 (Mc.mk (etDecode (List.take (List.length x) (List.drop (0 : Nat) x))).fst.b.a0
 (etDecode (List.take (List.length x) (List.drop (0 : Nat) x))).fst.b.a1
 (etDecode (List.take (List.length x) (List.drop (0 : Nat) x))).fst.b.a2
 (etDecode (List.take (List.length x) (List.drop (0 : Nat) x))).fst.b.a3
 (etDecode (List.take (List.length x) (List.drop (0 : Nat) x))).fst.b.a4
 (etDecode (List.take (List.length x) (List.drop (0 : Nat) x))).fst.b.a5)
 (etDecode (List.take (List.length x) (List.drop (0 : Nat) x))).fst.ty
 (etDecode
 (List.take (List.length x) (List.drop (0 : Nat) x))).fst.body)).fst.mac.a0 =
 m0) &&
 (decide
 ((nbRead
 (Fm.mk
 (Mc.mk (etDecode (List.take (List.length x) (List.drop (0 : Nat) x))).fst.a.a0
 (etDecode (List.take (List.length x) (List.drop (0 : Nat) x))).fst.a.a1
 (etDecode (List.take (List.length x) (List.drop (0 : Nat) x))).fst.a.a2
 (etDecode (List.take (List.length x) (List.drop (0 : Nat) x))).fst.a.a3
 (etDecode (List.take (List.length x) (List.drop (0 : Nat) x))).fst.a.a4
 (etDecode (List.take (List.length x) (List.drop (0 : Nat) x))).fst.a.a5)
 (Mc.mk (etDecode (List.take (List.length x) (List.drop (0 : Nat) x))).fst.b.a0
 (etDecode (List.take (List.length x) (List.drop (0 : Nat) x))).fst.b.a1
 (etDecode (List.take (List.length x) (List.drop (0 : Nat) x))).fst.b.a2
 (etDecode (List.take (List.length x) (List.drop (0 : Nat) x))).fst.b.a3
 (etDecode (List.take (List.length x) (List.drop (0 : Nat) x))).fst.b.a4
 (etDecode (List.take (List.length x) (List.drop (0 : Nat) x))).fst.b.a5)
 (etDecode (List.take (List.length x) (List.drop (0 : Nat) x))).fst.ty
 (etDecode
 (List.take (List.length x) (List.drop (0 : Nat) x))).fst.body)).fst.mac.a1 =
 m1) &&
 (decide
 ((nbRead
 (Fm.mk
 (Mc.mk (etDecode (List.take (List.length x) (List.drop (0 : Nat) x))).fst.a.a0
 (etDecode (List.take (List.length x) (List.drop (0 : Nat) x))).fst.a.a1
 (etDecode (List.take (List.length x) (List.drop (0 : Nat) x))).fst.a.a2
 (etDecode (List.take (List.length x) (List.drop (0 : Nat) x))).fst.a.a3
 (etDecode (List.take (List.length x) (List.drop (0 : Nat) x))).fst.a.a4
 (etDecode (List.take (List.length x) (List.drop (0 : Nat) x))).fst.a.a5)
 (Mc.mk (etDecode (List.take (List.length x) (List.drop (0 : Nat) x))).fst.b.a0
 (etDecode (List.take (List.length x) (List.drop (0 : Nat) x))).fst.b.a1
 (etDecode (List.take (List.length x) (List.drop (0 : Nat) x))).fst.b.a2
 (etDecode (List.take (List.length x) (List.drop (0 : Nat) x))).fst.b.a3
 (etDecode (List.take (List.length x) (List.drop (0 : Nat) x))).fst.b.a4
 (etDecode (List.take (List.length x) (List.drop (0 : Nat) x))).fst.b.a5)
 (etDecode (List.take (List.length x) (List.drop (0 : Nat) x))).fst.ty
 (etDecode
 (List.take (List.length x) (List.drop (0 : Nat) x))).fst.body)).fst.mac.a2 =
 m2) &&
 (decide
 ((nbRead
 (Fm.mk
 (Mc.mk (etDecode (List.take (List.length x) (List.drop (0 : Nat) x))).fst.a.a0
 (etDecode (List.take (List.length x) (List.drop (0 : Nat) x))).fst.a.a1
 (etDecode (List.take (List.length x) (List.drop (0 : Nat) x))).fst.a.a2
 (etDecode (List.take (List.length x) (List.drop (0 : Nat) x))).fst.a.a3
 (etDecode (List.take (List.length x) (List.drop (0 : Nat) x))).fst.a.a4
 (etDecode (List.take (List.length x) (List.drop (0 : Nat) x))).fst.a.a5)
 (Mc.mk (etDecode (List.take (List.length x) (List.drop (0 : Nat) x))).fst.b.a0
 (etDecode (List.take (List.length x) (List.drop (0 : Nat) x))).fst.b.a1
 (etDecode (List.take (List.length x) (List.drop (0 : Nat) x))).fst.b.a2
 (etDecode (List.take (List.length x) (List.drop (0 : Nat) x))).fst.b.a3
 (etDecode (List.take (List.length x) (List.drop (0 : Nat) x))).fst.b.a4
 (etDecode (List.take (List.length x) (List.drop (0 : Nat) x))).fst.b.a5)
 (etDecode (List.take (List.length x) (List.drop (0 : Nat) x))).fst.ty
 (etDecode
 (List.take (List.length x) (List.drop (0 : Nat) x))).fst.body)).fst.mac.a3 =
 m3) &&
 (decide
 ((nbRead
 (Fm.mk
 (Mc.mk (etDecode (List.take (List.length x) (List.drop (0 : Nat) x))).fst.a.a0
 (etDecode (List.take (List.length x) (List.drop (0 : Nat) x))).fst.a.a1
 (etDecode (List.take (List.length x) (List.drop (0 : Nat) x))).fst.a.a2
 (etDecode (List.take (List.length x) (List.drop (0 : Nat) x))).fst.a.a3
 (etDecode (List.take (List.length x) (List.drop (0 : Nat) x))).fst.a.a4
 (etDecode (List.take (List.length x) (List.drop (0 : Nat) x))).fst.a.a5)
 (Mc.mk (etDecode (List.take (List.length x) (List.drop (0 : Nat) x))).fst.b.a0
 (etDecode (List.take (List.length x) (List.drop (0 : Nat) x))).fst.b.a1
 (etDecode (List.take (List.length x) (List.drop (0 : Nat) x))).fst.b.a2
 (etDecode (List.take (List.length x) (List.drop (0 : Nat) x))).fst.b.a3
 (etDecode (List.take (List.length x) (List.drop (0 : Nat) x))).fst.b.a4
 (etDecode (List.take (List.length x) (List.drop (0 : Nat) x))).fst.b.a5)
 (etDecode (List.take (List.length x) (List.drop (0 : Nat) x))).fst.ty
 (etDecode
 (List.take (List.length x) (List.drop (0 : Nat) x))).fst.body)).fst.mac.a4 =
 m4) &&
 (decide
 ((nbRead
 (Fm.mk
 (Mc.mk (etDecode (List.take (List.length x) (List.drop (0 : Nat) x))).fst.a.a0
 (etDecode (List.take (List.length x) (List.drop (0 : Nat) x))).fst.a.a1
 (etDecode (List.take (List.length x) (List.drop (0 : Nat) x))).fst.a.a2
 (etDecode (List.take (List.length x) (List.drop (0 : Nat) x))).fst.a.a3
 (etDecode (List.take (List.length x) (List.drop (0 : Nat) x))).fst.a.a4
 (etDecode (List.take (List.length x) (List.drop (0 : Nat) x))).fst.a.a5)
 (Mc.mk (etDecode (List.take (List.length x) (List.drop (0 : Nat) x))).fst.b.a0
 (etDecode (List.take (List.length x) (List.drop (0 : Nat) x))).fst.b.a1
 (etDecode (List.take (List.length x) (List.drop (0 : Nat) x))).fst.b.a2
 (etDecode (List.take (List.length x) (List.drop (0 : Nat) x))).fst.b.a3
 (etDecode (List.take (List.length x) (List.drop (0 : Nat) x))).fst.b.a4
 (etDecode (List.take (List.length x) (List.drop (0 : Nat) x))).fst.b.a5)
 (etDecode (List.take (List.length x) (List.drop (0 : Nat) x))).fst.ty
 (etDecode
 (List.take (List.length x) (List.drop (0 : Nat) x))).fst.body)).fst.mac.a5 =
 m5) &&
 (decide
 ((nbRead
 (Fm.mk
 (Mc.mk (etDecode (List.take (List.length x) (List.drop (0 : Nat) x))).fst.a.a0
 (etDecode (List.take (List.length x) (List.drop (0 : Nat) x))).fst.a.a1
 (etDecode (List.take (List.length x) (List.drop (0 : Nat) x))).fst.a.a2
 (etDecode (List.take (List.length x) (List.drop (0 : Nat) x))).fst.a.a3
 (etDecode (List.take (List.length x) (List.drop (0 : Nat) x))).fst.a.a4
 (etDecode (List.take (List.length x) (List.drop (0 : Nat) x))).fst.a.a5)
 (Mc.mk (etDecode (List.take (List.length x) (List.drop (0 : Nat) x))).fst.b.a0
 (etDecode (List.take (List.length x) (List.drop (0 : Nat) x))).fst.b.a1
 (etDecode (List.take (List.length x) (List.drop (0 : Nat) x))).fst.b.a2
 (etDecode (List.take (List.length x) (List.drop (0 : Nat) x))).fst.b.a3
 (etDecode (List.take (List.length x) (List.drop (0 : Nat) x))).fst.b.a4
 (etDecode (List.take (List.length x) (List.drop (0 : Nat) x))).fst.b.a5)
 (etDecode (List.take (List.length x) (List.drop (0 : Nat) x))).fst.ty
 (etDecode
 (List.take (List.length x) (List.drop (0 : Nat) x))).fst.body)).fst.addr =
 a) &&
 (decide
 ((nbRead
 (Fm.mk
 (Mc.mk (etDecode (List.take (List.length x) (List.drop (0 : Nat) x))).fst.a.a0
 (etDecode (List.take (List.length x) (List.drop (0 : Nat) x))).fst.a.a1
 (etDecode (List.take (List.length x) (List.drop (0 : Nat) x))).fst.a.a2
 (etDecode (List.take (List.length x) (List.drop (0 : Nat) x))).fst.a.a3
 (etDecode (List.take (List.length x) (List.drop (0 : Nat) x))).fst.a.a4
 (etDecode (List.take (List.length x) (List.drop (0 : Nat) x))).fst.a.a5)
 (Mc.mk (etDecode (List.take (List.length x) (List.drop (0 : Nat) x))).fst.b.a0
 (etDecode (List.take (List.length x) (List.drop (0 : Nat) x))).fst.b.a1
 (etDecode (List.take (List.length x) (List.drop (0 : Nat) x))).fst.b.a2
 (etDecode (List.take (List.length x) (List.drop (0 : Nat) x))).fst.b.a3
 (etDecode (List.take (List.length x) (List.drop (0 : Nat) x))).fst.b.a4
 (etDecode (List.take (List.length x) (List.drop (0 : Nat) x))).fst.b.a5)
 (etDecode (List.take (List.length x) (List.drop (0 : Nat) x))).fst.ty
 (etDecode
 (List.take (List.length x) (List.drop (0 : Nat) x))).fst.body)).fst.target =
 b) &&
 decide
 ((nbRead
 (Fm.mk
 (Mc.mk (etDecode (List.take (List.length x) (List.drop (0 : Nat) x))).fst.a.a0
 (etDecode (List.take (List.length x) (List.drop (0 : Nat) x))).fst.a.a1
 (etDecode (List.take (List.length x) (List.drop (0 : Nat) x))).fst.a.a2
 (etDecode (List.take (List.length x) (List.drop (0 : Nat) x))).fst.a.a3
 (etDecode (List.take (List.length x) (List.drop (0 : Nat) x))).fst.a.a4
 (etDecode (List.take (List.length x) (List.drop (0 : Nat) x))).fst.a.a5)
 (Mc.mk (etDecode (List.take (List.length x) (List.drop (0 : Nat) x))).fst.b.a0
 (etDecode (List.take (List.length x) (List.drop (0 : Nat) x))).fst.b.a1
 (etDecode (List.take (List.length x) (List.drop (0 : Nat) x))).fst.b.a2
 (etDecode (List.take (List.length x) (List.drop (0 : Nat) x))).fst.b.a3
 (etDecode (List.take (List.length x) (List.drop (0 : Nat) x))).fst.b.a4
 (etDecode (List.take (List.length x) (List.drop (0 : Nat) x))).fst.b.a5)
 (etDecode (List.take (List.length x) (List.drop (0 : Nat) x))).fst.ty
 (etDecode
 (List.take (List.length x) (List.drop (0 : Nat) x))).fst.body)).fst.asked =
 false))))))))))
 (((0 : Int) ≤ (0 : Int) ∧ (0 : Int) < (2 : Int)) ∧
 ((0 : Int) ≤ (1 : Int) ∧ (1 : Int) < (2 : Int)) ∧
 brP
 (decide
 ((nbRead
 (Fm.mk
 (Mc.mk (etDecode (List.take (List.length x_1) (List.drop (0 : Nat) x_1))).fst.a.a0
 (etDecode (List.take (List.length x_1) (List.drop (0 : Nat) x_1))).fst.a.a1
 (etDecode (List.take (List.length x_1) (List.drop (0 : Nat) x_1))).fst.a.a2
 (etDecode (List.take (List.length x_1) (List.drop (0 : Nat) x_1))).fst.a.a3
 (etDecode (List.take (List.length x_1) (List.drop (0 : Nat) x_1))).fst.a.a4
 (etDecode (List.take (List.length x_1) (List.drop (0 : Nat) x_1))).fst.a.a5)
 (Mc.mk (etDecode (List.take (List.length x_1) (List.drop (0 : Nat) x_1))).fst.b.a0
 (etDecode (List.take (List.length x_1) (List.drop (0 : Nat) x_1))).fst.b.a1
 (etDecode (List.take (List.length x_1) (List.drop (0 : Nat) x_1))).fst.b.a2
 (etDecode (List.take (List.length x_1) (List.drop (0 : Nat) x_1))).fst.b.a3
 (etDecode (List.take (List.length x_1) (List.drop (0 : Nat) x_1))).fst.b.a4
 (etDecode (List.take (List.length x_1) (List.drop (0 : Nat) x_1))).fst.b.a5)
 (etDecode (List.take (List.length x_1) (List.drop (0 : Nat) x_1))).fst.ty
 (etDecode
 (List.take (List.length x_1) (List.drop (0 : Nat) x_1))).fst.body)).fst.kind =
 (2 : Int)) &&
 (decide
 ((nbRead
 (Fm.mk
 (Mc.mk (etDecode (List.take (List.length x_1) (List.drop (0 : Nat) x_1))).fst.a.a0
 (etDecode (List.take (List.length x_1) (List.drop (0 : Nat) x_1))).fst.a.a1
 (etDecode (List.take (List.length x_1) (List.drop (0 : Nat) x_1))).fst.a.a2
 (etDecode (List.take (List.length x_1) (List.drop (0 : Nat) x_1))).fst.a.a3
 (etDecode (List.take (List.length x_1) (List.drop (0 : Nat) x_1))).fst.a.a4
 (etDecode (List.take (List.length x_1) (List.drop (0 : Nat) x_1))).fst.a.a5)
 (Mc.mk (etDecode (List.take (List.length x_1) (List.drop (0 : Nat) x_1))).fst.b.a0
 (etDecode (List.take (List.length x_1) (List.drop (0 : Nat) x_1))).fst.b.a1
 (etDecode (List.take (List.length x_1) (List.drop (0 : Nat) x_1))).fst.b.a2
 (etDecode (List.take (List.length x_1) (List.drop (0 : Nat) x_1))).fst.b.a3
 (etDecode (List.take (List.length x_1) (List.drop (0 : Nat) x_1))).fst.b.a4
 (etDecode (List.take (List.length x_1) (List.drop (0 : Nat) x_1))).fst.b.a5)
 (etDecode (List.take (List.length x_1) (List.drop (0 : Nat) x_1))).fst.ty
 (etDecode
 (List.take (List.length x_1)
 (List.drop (0 : Nat) x_1))).fst.body)).fst.mac.a0 =
 m0) &&
 (decide
 ((nbRead
 (Fm.mk
 (Mc.mk
 (etDecode (List.take (List.length x_1) (List.drop (0 : Nat) x_1))).fst.a.a0
 (etDecode (List.take (List.length x_1) (List.drop (0 : Nat) x_1))).fst.a.a1
 (etDecode (List.take (List.length x_1) (List.drop (0 : Nat) x_1))).fst.a.a2
 (etDecode (List.take (List.length x_1) (List.drop (0 : Nat) x_1))).fst.a.a3
 (etDecode (List.take (List.length x_1) (List.drop (0 : Nat) x_1))).fst.a.a4
 (etDecode (List.take (List.length x_1) (List.drop (0 : Nat) x_1))).fst.a.a5)
 (Mc.mk
 (etDecode (List.take (List.length x_1) (List.drop (0 : Nat) x_1))).fst.b.a0
 (etDecode (List.take (List.length x_1) (List.drop (0 : Nat) x_1))).fst.b.a1
 (etDecode (List.take (List.length x_1) (List.drop (0 : Nat) x_1))).fst.b.a2
 (etDecode (List.take (List.length x_1) (List.drop (0 : Nat) x_1))).fst.b.a3
 (etDecode (List.take (List.length x_1) (List.drop (0 : Nat) x_1))).fst.b.a4
 (etDecode (List.take (List.length x_1) (List.drop (0 : Nat) x_1))).fst.b.a5)
 (etDecode (List.take (List.length x_1) (List.drop (0 : Nat) x_1))).fst.ty
 (etDecode
 (List.take (List.length x_1)
 (List.drop (0 : Nat) x_1))).fst.body)).fst.mac.a1 =
 m1) &&
 (decide
 ((nbRead
 (Fm.mk
 (Mc.mk
 (etDecode (List.take (List.length x_1) (List.drop (0 : Nat) x_1))).fst.a.a0
 (etDecode (List.take (List.length x_1) (List.drop (0 : Nat) x_1))).fst.a.a1
 (etDecode (List.take (List.length x_1) (List.drop (0 : Nat) x_1))).fst.a.a2
 (etDecode (List.take (List.length x_1) (List.drop (0 : Nat) x_1))).fst.a.a3
 (etDecode (List.take (List.length x_1) (List.drop (0 : Nat) x_1))).fst.a.a4
 (etDecode (List.take (List.length x_1) (List.drop (0 : Nat) x_1))).fst.a.a5)
 (Mc.mk
 (etDecode (List.take (List.length x_1) (List.drop (0 : Nat) x_1))).fst.b.a0
 (etDecode (List.take (List.length x_1) (List.drop (0 : Nat) x_1))).fst.b.a1
 (etDecode (List.take (List.length x_1) (List.drop (0 : Nat) x_1))).fst.b.a2
 (etDecode (List.take (List.length x_1) (List.drop (0 : Nat) x_1))).fst.b.a3
 (etDecode (List.take (List.length x_1) (List.drop (0 : Nat) x_1))).fst.b.a4
 (etDecode (List.take (List.length x_1) (List.drop (0 : Nat) x_1))).fst.b.a5)
 (etDecode (List.take (List.length x_1) (List.drop (0 : Nat) x_1))).fst.ty
 (etDecode
 (List.take (List.length x_1)
 (List.drop (0 : Nat) x_1))).fst.body)).fst.mac.a2 =
 m2) &&
 (decide
 ((nbRead
 (Fm.mk
 (Mc.mk
 (etDecode (List.take (List.length x_1) (List.drop (0 : Nat) x_1))).fst.a.a0
 (etDecode (List.take (List.length x_1) (List.drop (0 : Nat) x_1))).fst.a.a1
 (etDecode (List.take (List.length x_1) (List.drop (0 : Nat) x_1))).fst.a.a2
 (etDecode (List.take (List.length x_1) (List.drop (0 : Nat) x_1))).fst.a.a3
 (etDecode (List.take (List.length x_1) (List.drop (0 : Nat) x_1))).fst.a.a4
 (etDecode (List.take (List.length x_1) (List.drop (0 : Nat) x_1))).fst.a.a5)
 (Mc.mk
 (etDecode (List.take (List.length x_1) (List.drop (0 : Nat) x_1))).fst.b.a0
 (etDecode (List.take (List.length x_1) (List.drop (0 : Nat) x_1))).fst.b.a1
 (etDecode (List.take (List.length x_1) (List.drop (0 : Nat) x_1))).fst.b.a2
 (etDecode (List.take (List.length x_1) (List.drop (0 : Nat) x_1))).fst.b.a3
 (etDecode (List.take (List.length x_1) (List.drop (0 : Nat) x_1))).fst.b.a4
 (etDecode (List.take (List.length x_1) (List.drop (0 : Nat) x_1))).fst.b.a5)
 (etDecode (List.take (List.length x_1) (List.drop (0 : Nat) x_1))).fst.ty
 (etDecode
 (List.take (List.length x_1)
 (List.drop (0 : Nat) x_1))).fst.body)).fst.mac.a3 =
 m3) &&
 (decide
 ((nbRead
 (Fm.mk
 (Mc.mk
 (etDecode (List.take (List.length x_1) (List.drop (0 : Nat) x_1))).fst.a.a0
 (etDecode (List.take (List.length x_1) (List.drop (0 : Nat) x_1))).fst.a.a1
 (etDecode (List.take (List.length x_1) (List.drop (0 : Nat) x_1))).fst.a.a2
 (etDecode (List.take (List.length x_1) (List.drop (0 : Nat) x_1))).fst.a.a3
 (etDecode (List.take (List.length x_1) (List.drop (0 : Nat) x_1))).fst.a.a4
 (etDecode (List.take (List.length x_1) (List.drop (0 : Nat) x_1))).fst.a.a5)
 (Mc.mk
 (etDecode (List.take (List.length x_1) (List.drop (0 : Nat) x_1))).fst.b.a0
 (etDecode (List.take (List.length x_1) (List.drop (0 : Nat) x_1))).fst.b.a1
 (etDecode (List.take (List.length x_1) (List.drop (0 : Nat) x_1))).fst.b.a2
 (etDecode (List.take (List.length x_1) (List.drop (0 : Nat) x_1))).fst.b.a3
 (etDecode (List.take (List.length x_1) (List.drop (0 : Nat) x_1))).fst.b.a4
 (etDecode (List.take (List.length x_1) (List.drop (0 : Nat) x_1))).fst.b.a5)
 (etDecode (List.take (List.length x_1) (List.drop (0 : Nat) x_1))).fst.ty
 (etDecode
 (List.take (List.length x_1)
 (List.drop (0 : Nat) x_1))).fst.body)).fst.mac.a4 =
 m4) &&
 (decide
 ((nbRead
 (Fm.mk
 (Mc.mk
 (etDecode (List.take (List.length x_1) (List.drop (0 : Nat) x_1))).fst.a.a0
 (etDecode (List.take (List.length x_1) (List.drop (0 : Nat) x_1))).fst.a.a1
 (etDecode (List.take (List.length x_1) (List.drop (0 : Nat) x_1))).fst.a.a2
 (etDecode (List.take (List.length x_1) (List.drop (0 : Nat) x_1))).fst.a.a3
 (etDecode (List.take (List.length x_1) (List.drop (0 : Nat) x_1))).fst.a.a4
 (etDecode (List.take (List.length x_1) (List.drop (0 : Nat) x_1))).fst.a.a5)
 (Mc.mk
 (etDecode (List.take (List.length x_1) (List.drop (0 : Nat) x_1))).fst.b.a0
 (etDecode (List.take (List.length x_1) (List.drop (0 : Nat) x_1))).fst.b.a1
 (etDecode (List.take (List.length x_1) (List.drop (0 : Nat) x_1))).fst.b.a2
 (etDecode (List.take (List.length x_1) (List.drop (0 : Nat) x_1))).fst.b.a3
 (etDecode (List.take (List.length x_1) (List.drop (0 : Nat) x_1))).fst.b.a4
 (etDecode (List.take (List.length x_1) (List.drop (0 : Nat) x_1))).fst.b.a5)
 (etDecode (List.take (List.length x_1) (List.drop (0 : Nat) x_1))).fst.ty
 (etDecode
 (List.take (List.length x_1)
 (List.drop (0 : Nat) x_1))).fst.body)).fst.mac.a5 =
 m5) &&
 (decide
 ((nbRead
 (Fm.mk
 (Mc.mk
 (etDecode (List.take (List.length x_1) (List.drop (0 : Nat) x_1))).fst.a.a0
 (etDecode (List.take (List.length x_1) (List.drop (0 : Nat) x_1))).fst.a.a1
 (etDecode (List.take (List.length x_1) (List.drop (0 : Nat) x_1))).fst.a.a2
 (etDecode (List.take (List.length x_1) (List.drop (0 : Nat) x_1))).fst.a.a3
 (etDecode (List.take (List.length x_1) (List.drop (0 : Nat) x_1))).fst.a.a4
 (etDecode (List.take (List.length x_1) (List.drop (0 : Nat) x_1))).fst.a.a5)
 (Mc.mk
 (etDecode (List.take (List.length x_1) (List.drop (0 : Nat) x_1))).fst.b.a0
 (etDecode (List.take (List.length x_1) (List.drop (0 : Nat) x_1))).fst.b.a1
 (etDecode (List.take (List.length x_1) (List.drop (0 : Nat) x_1))).fst.b.a2
 (etDecode (List.take (List.length x_1) (List.drop (0 : Nat) x_1))).fst.b.a3
 (etDecode (List.take (List.length x_1) (List.drop (0 : Nat) x_1))).fst.b.a4
 (etDecode (List.take (List.length x_1) (List.drop (0 : Nat) x_1))).fst.b.a5)
 (etDecode (List.take (List.length x_1) (List.drop (0 : Nat) x_1))).fst.ty
 (etDecode
 (List.take (List.length x_1)
 (List.drop (0 : Nat) x_1))).fst.body)).fst.addr =
 a) &&
 (decide
 ((nbRead
 (Fm.mk
 (Mc.mk
 (etDecode (List.take (List.length x_1) (List.drop (0 : Nat) x_1))).fst.a.a0
 (etDecode (List.take (List.length x_1) (List.drop (0 : Nat) x_1))).fst.a.a1
 (etDecode (List.take (List.length x_1) (List.drop (0 : Nat) x_1))).fst.a.a2
 (etDecode (List.take (List.length x_1) (List.drop (0 : Nat) x_1))).fst.a.a3
 (etDecode (List.take (List.length x_1) (List.drop (0 : Nat) x_1))).fst.a.a4
 (etDecode
 (List.take (List.length x_1) (List.drop (0 : Nat) x_1))).fst.a.a5)
 (Mc.mk
 (etDecode (List.take (List.length x_1) (List.drop (0 : Nat) x_1))).fst.b.a0
 (etDecode (List.take (List.length x_1) (List.drop (0 : Nat) x_1))).fst.b.a1
 (etDecode (List.take (List.length x_1) (List.drop (0 : Nat) x_1))).fst.b.a2
 (etDecode (List.take (List.length x_1) (List.drop (0 : Nat) x_1))).fst.b.a3
 (etDecode (List.take (List.length x_1) (List.drop (0 : Nat) x_1))).fst.b.a4
 (etDecode
 (List.take (List.length x_1) (List.drop (0 : Nat) x_1))).fst.b.a5)
 (etDecode (List.take (List.length x_1) (List.drop (0 : Nat) x_1))).fst.ty
 (etDecode
 (List.take (List.length x_1)
 (List.drop (0 : Nat) x_1))).fst.body)).fst.target =
 b) &&
 decide
 ((nbRead
 (Fm.mk
 (Mc.mk
 (etDecode (List.take (List.length x_1) (List.drop (0 : Nat) x_1))).fst.a.a0
 (etDecode (List.take (List.length x_1) (List.drop (0 : Nat) x_1))).fst.a.a1
 (etDecode (List.take (List.length x_1) (List.drop (0 : Nat) x_1))).fst.a.a2
 (etDecode (List.take (List.length x_1) (List.drop (0 : Nat) x_1))).fst.a.a3
 (etDecode (List.take (List.length x_1) (List.drop (0 : Nat) x_1))).fst.a.a4
 (etDecode
 (List.take (List.length x_1) (List.drop (0 : Nat) x_1))).fst.a.a5)
 (Mc.mk
 (etDecode (List.take (List.length x_1) (List.drop (0 : Nat) x_1))).fst.b.a0
 (etDecode (List.take (List.length x_1) (List.drop (0 : Nat) x_1))).fst.b.a1
 (etDecode (List.take (List.length x_1) (List.drop (0 : Nat) x_1))).fst.b.a2
 (etDecode (List.take (List.length x_1) (List.drop (0 : Nat) x_1))).fst.b.a3
 (etDecode (List.take (List.length x_1) (List.drop (0 : Nat) x_1))).fst.b.a4
 (etDecode
 (List.take (List.length x_1) (List.drop (0 : Nat) x_1))).fst.b.a5)
 (etDecode (List.take (List.length x_1) (List.drop (0 : Nat) x_1))).fst.ty
 (etDecode
 (List.take (List.length x_1)
 (List.drop (0 : Nat) x_1))).fst.body)).fst.asked =
 true))))))))))
 (brP
 (decide
 ((nbRead
 (Fm.mk
 (Mc.mk (etDecode (List.take (List.length x_2) (List.drop (0 : Nat) x_2))).fst.a.a0
 (etDecode (List.take (List.length x_2) (List.drop (0 : Nat) x_2))).fst.a.a1
 (etDecode (List.take (List.length x_2) (List.drop (0 : Nat) x_2))).fst.a.a2
 (etDecode (List.take (List.length x_2) (List.drop (0 : Nat) x_2))).fst.a.a3
 (etDecode (List.take (List.length x_2) (List.drop (0 : Nat) x_2))).fst.a.a4
 (etDecode (List.take (List.length x_2) (List.drop (0 : Nat) x_2))).fst.a.a5)
 (Mc.mk (etDecode (List.take (List.length x_2) (List.drop (0 : Nat) x_2))).fst.b.a0
 (etDecode (List.take (List.length x_2) (List.drop (0 : Nat) x_2))).fst.b.a1
 (etDecode (List.take (List.length x_2) (List.drop (0 : Nat) x_2))).fst.b.a2
 (etDecode (List.take (List.length x_2) (List.drop (0 : Nat) x_2))).fst.b.a3
 (etDecode (List.take (List.length x_2) (List.drop (0 : Nat) x_2))).fst.b.a4
 (etDecode (List.take (List.length x_2) (List.drop (0 : Nat) x_2))).fst.b.a5)
 (etDecode (List.take (List.length x_2) (List.drop (0 : Nat) x_2))).fst.ty
 (etDecode
 (List.take (List.length x_2)
 (List.drop (0 : Nat) x_2))).fst.body)).fst.mac.a0 =
 m0) &&
 (decide
 ((nbRead
 (Fm.mk
 (Mc.mk
 (etDecode (List.take (List.length x_2) (List.drop (0 : Nat) x_2))).fst.a.a0
 (etDecode (List.take (List.length x_2) (List.drop (0 : Nat) x_2))).fst.a.a1
 (etDecode (List.take (List.length x_2) (List.drop (0 : Nat) x_2))).fst.a.a2
 (etDecode (List.take (List.length x_2) (List.drop (0 : Nat) x_2))).fst.a.a3
 (etDecode (List.take (List.length x_2) (List.drop (0 : Nat) x_2))).fst.a.a4
 (etDecode (List.take (List.length x_2) (List.drop (0 : Nat) x_2))).fst.a.a5)
 (Mc.mk
 (etDecode (List.take (List.length x_2) (List.drop (0 : Nat) x_2))).fst.b.a0
 (etDecode (List.take (List.length x_2) (List.drop (0 : Nat) x_2))).fst.b.a1
 (etDecode (List.take (List.length x_2) (List.drop (0 : Nat) x_2))).fst.b.a2
 (etDecode (List.take (List.length x_2) (List.drop (0 : Nat) x_2))).fst.b.a3
 (etDecode (List.take (List.length x_2) (List.drop (0 : Nat) x_2))).fst.b.a4
 (etDecode (List.take (List.length x_2) (List.drop (0 : Nat) x_2))).fst.b.a5)
 (etDecode (List.take (List.length x_2) (List.drop (0 : Nat) x_2))).fst.ty
 (etDecode
 (List.take (List.length x_2)
 (List.drop (0 : Nat) x_2))).fst.body)).fst.mac.a1 =
 m1) &&
 (decide
 ((nbRead
 (Fm.mk
 (Mc.mk
 (etDecode (List.take (List.length x_2) (List.drop (0 : Nat) x_2))).fst.a.a0
 (etDecode (List.take (List.length x_2) (List.drop (0 : Nat) x_2))).fst.a.a1
 (etDecode (List.take (List.length x_2) (List.drop (0 : Nat) x_2))).fst.a.a2
 (etDecode (List.take (List.length x_2) (List.drop (0 : Nat) x_2))).fst.a.a3
 (etDecode (List.take (List.length x_2) (List.drop (0 : Nat) x_2))).fst.a.a4
 (etDecode (List.take (List.length x_2) (List.drop (0 : Nat) x_2))).fst.a.a5)
 (Mc.mk
 (etDecode (List.take (List.length x_2) (List.drop (0 : Nat) x_2))).fst.b.a0
 (etDecode (List.take (List.length x_2) (List.drop (0 : Nat) x_2))).fst.b.a1
 (etDecode (List.take (List.length x_2) (List.drop (0 : Nat) x_2))).fst.b.a2
 (etDecode (List.take (List.length x_2) (List.drop (0 : Nat) x_2))).fst.b.a3
 (etDecode (List.take (List.length x_2) (List.drop (0 : Nat) x_2))).fst.b.a4
 (etDecode (List.take (List.length x_2) (List.drop (0 : Nat) x_2))).fst.b.a5)
 (etDecode (List.take (List.length x_2) (List.drop (0 : Nat) x_2))).fst.ty
 (etDecode
 (List.take (List.length x_2)
 (List.drop (0 : Nat) x_2))).fst.body)).fst.mac.a2 =
 m2) &&
 (decide
 ((nbRead
 (Fm.mk
 (Mc.mk
 (etDecode (List.take (List.length x_2) (List.drop (0 : Nat) x_2))).fst.a.a0
 (etDecode (List.take (List.length x_2) (List.drop (0 : Nat) x_2))).fst.a.a1
 (etDecode (List.take (List.length x_2) (List.drop (0 : Nat) x_2))).fst.a.a2
 (etDecode (List.take (List.length x_2) (List.drop (0 : Nat) x_2))).fst.a.a3
 (etDecode (List.take (List.length x_2) (List.drop (0 : Nat) x_2))).fst.a.a4
 (etDecode (List.take (List.length x_2) (List.drop (0 : Nat) x_2))).fst.a.a5)
 (Mc.mk
 (etDecode (List.take (List.length x_2) (List.drop (0 : Nat) x_2))).fst.b.a0
 (etDecode (List.take (List.length x_2) (List.drop (0 : Nat) x_2))).fst.b.a1
 (etDecode (List.take (List.length x_2) (List.drop (0 : Nat) x_2))).fst.b.a2
 (etDecode (List.take (List.length x_2) (List.drop (0 : Nat) x_2))).fst.b.a3
 (etDecode (List.take (List.length x_2) (List.drop (0 : Nat) x_2))).fst.b.a4
 (etDecode (List.take (List.length x_2) (List.drop (0 : Nat) x_2))).fst.b.a5)
 (etDecode (List.take (List.length x_2) (List.drop (0 : Nat) x_2))).fst.ty
 (etDecode
 (List.take (List.length x_2)
 (List.drop (0 : Nat) x_2))).fst.body)).fst.mac.a3 =
 m3) &&
 (decide
 ((nbRead
 (Fm.mk
 (Mc.mk
 (etDecode (List.take (List.length x_2) (List.drop (0 : Nat) x_2))).fst.a.a0
 (etDecode (List.take (List.length x_2) (List.drop (0 : Nat) x_2))).fst.a.a1
 (etDecode (List.take (List.length x_2) (List.drop (0 : Nat) x_2))).fst.a.a2
 (etDecode (List.take (List.length x_2) (List.drop (0 : Nat) x_2))).fst.a.a3
 (etDecode (List.take (List.length x_2) (List.drop (0 : Nat) x_2))).fst.a.a4
 (etDecode (List.take (List.length x_2) (List.drop (0 : Nat) x_2))).fst.a.a5)
 (Mc.mk
 (etDecode (List.take (List.length x_2) (List.drop (0 : Nat) x_2))).fst.b.a0
 (etDecode (List.take (List.length x_2) (List.drop (0 : Nat) x_2))).fst.b.a1
 (etDecode (List.take (List.length x_2) (List.drop (0 : Nat) x_2))).fst.b.a2
 (etDecode (List.take (List.length x_2) (List.drop (0 : Nat) x_2))).fst.b.a3
 (etDecode (List.take (List.length x_2) (List.drop (0 : Nat) x_2))).fst.b.a4
 (etDecode (List.take (List.length x_2) (List.drop (0 : Nat) x_2))).fst.b.a5)
 (etDecode (List.take (List.length x_2) (List.drop (0 : Nat) x_2))).fst.ty
 (etDecode
 (List.take (List.length x_2)
 (List.drop (0 : Nat) x_2))).fst.body)).fst.mac.a4 =
 m4) &&
 decide
 ((nbRead
 (Fm.mk
 (Mc.mk
 (etDecode (List.take (List.length x_2) (List.drop (0 : Nat) x_2))).fst.a.a0
 (etDecode (List.take (List.length x_2) (List.drop (0 : Nat) x_2))).fst.a.a1
 (etDecode (List.take (List.length x_2) (List.drop (0 : Nat) x_2))).fst.a.a2
 (etDecode (List.take (List.length x_2) (List.drop (0 : Nat) x_2))).fst.a.a3
 (etDecode (List.take (List.length x_2) (List.drop (0 : Nat) x_2))).fst.a.a4
 (etDecode (List.take (List.length x_2) (List.drop (0 : Nat) x_2))).fst.a.a5)
 (Mc.mk
 (etDecode (List.take (List.length x_2) (List.drop (0 : Nat) x_2))).fst.b.a0
 (etDecode (List.take (List.length x_2) (List.drop (0 : Nat) x_2))).fst.b.a1
 (etDecode (List.take (List.length x_2) (List.drop (0 : Nat) x_2))).fst.b.a2
 (etDecode (List.take (List.length x_2) (List.drop (0 : Nat) x_2))).fst.b.a3
 (etDecode (List.take (List.length x_2) (List.drop (0 : Nat) x_2))).fst.b.a4
 (etDecode (List.take (List.length x_2) (List.drop (0 : Nat) x_2))).fst.b.a5)
 (etDecode (List.take (List.length x_2) (List.drop (0 : Nat) x_2))).fst.ty
 (etDecode
 (List.take (List.length x_2)
 (List.drop (0 : Nat) x_2))).fst.body)).fst.mac.a5 =
 m5))))))
 (((0 : Int) ≤ (0 : Int) ∧ (0 : Int) < (2 : Int)) ∧
 brP
 (decide
 ((nbRead
 (Fm.mk
 (Mc.mk (etDecode (List.take (List.length x_2) (List.drop (0 : Nat) x_2))).fst.a.a0
 (etDecode (List.take (List.length x_2) (List.drop (0 : Nat) x_2))).fst.a.a1
 (etDecode (List.take (List.length x_2) (List.drop (0 : Nat) x_2))).fst.a.a2
 (etDecode (List.take (List.length x_2) (List.drop (0 : Nat) x_2))).fst.a.a3
 (etDecode (List.take (List.length x_2) (List.drop (0 : Nat) x_2))).fst.a.a4
 (etDecode (List.take (List.length x_2) (List.drop (0 : Nat) x_2))).fst.a.a5)
 (Mc.mk (etDecode (List.take (List.length x_2) (List.drop (0 : Nat) x_2))).fst.b.a0
 (etDecode (List.take (List.length x_2) (List.drop (0 : Nat) x_2))).fst.b.a1
 (etDecode (List.take (List.length x_2) (List.drop (0 : Nat) x_2))).fst.b.a2
 (etDecode (List.take (List.length x_2) (List.drop (0 : Nat) x_2))).fst.b.a3
 (etDecode (List.take (List.length x_2) (List.drop (0 : Nat) x_2))).fst.b.a4
 (etDecode (List.take (List.length x_2) (List.drop (0 : Nat) x_2))).fst.b.a5)
 (etDecode (List.take (List.length x_2) (List.drop (0 : Nat) x_2))).fst.ty
 (etDecode
 (List.take (List.length x_2) (List.drop (0 : Nat) x_2))).fst.body)).fst.addr =
 a))
 (brP
 (!(nbRead
 (Fm.mk
 (Mc.mk (etDecode (List.take (List.length x_2) (List.drop (0 : Nat) x_2))).fst.a.a0
 (etDecode (List.take (List.length x_2) (List.drop (0 : Nat) x_2))).fst.a.a1
 (etDecode (List.take (List.length x_2) (List.drop (0 : Nat) x_2))).fst.a.a2
 (etDecode (List.take (List.length x_2) (List.drop (0 : Nat) x_2))).fst.a.a3
 (etDecode (List.take (List.length x_2) (List.drop (0 : Nat) x_2))).fst.a.a4
 (etDecode (List.take (List.length x_2) (List.drop (0 : Nat) x_2))).fst.a.a5)
 (Mc.mk (etDecode (List.take (List.length x_2) (List.drop (0 : Nat) x_2))).fst.b.a0
 (etDecode (List.take (List.length x_2) (List.drop (0 : Nat) x_2))).fst.b.a1
 (etDecode (List.take (List.length x_2) (List.drop (0 : Nat) x_2))).fst.b.a2
 (etDecode (List.take (List.length x_2) (List.drop (0 : Nat) x_2))).fst.b.a3
 (etDecode (List.take (List.length x_2) (List.drop (0 : Nat) x_2))).fst.b.a4
 (etDecode (List.take (List.length x_2) (List.drop (0 : Nat) x_2))).fst.b.a5)
 (etDecode (List.take (List.length x_2) (List.drop (0 : Nat) x_2))).fst.ty
 (etDecode
 (List.take (List.length x_2) (List.drop (0 : Nat) x_2))).fst.body)).fst.asked)
 (brP
 (decide
 (decide
 ((nbRead
 (Fm.mk
 (Mc.mk
 (etDecode (List.take (List.length x_2) (List.drop (0 : Nat) x_2))).fst.a.a0
 (etDecode (List.take (List.length x_2) (List.drop (0 : Nat) x_2))).fst.a.a1
 (etDecode (List.take (List.length x_2) (List.drop (0 : Nat) x_2))).fst.a.a2
 (etDecode (List.take (List.length x_2) (List.drop (0 : Nat) x_2))).fst.a.a3
 (etDecode (List.take (List.length x_2) (List.drop (0 : Nat) x_2))).fst.a.a4
 (etDecode (List.take (List.length x_2) (List.drop (0 : Nat) x_2))).fst.a.a5)
 (Mc.mk
 (etDecode (List.take (List.length x_2) (List.drop (0 : Nat) x_2))).fst.b.a0
 (etDecode (List.take (List.length x_2) (List.drop (0 : Nat) x_2))).fst.b.a1
 (etDecode (List.take (List.length x_2) (List.drop (0 : Nat) x_2))).fst.b.a2
 (etDecode (List.take (List.length x_2) (List.drop (0 : Nat) x_2))).fst.b.a3
 (etDecode (List.take (List.length x_2) (List.drop (0 : Nat) x_2))).fst.b.a4
 (etDecode (List.take (List.length x_2) (List.drop (0 : Nat) x_2))).fst.b.a5)
 (etDecode (List.take (List.length x_2) (List.drop (0 : Nat) x_2))).fst.ty
 (etDecode
 (List.take (List.length x_2)
 (List.drop (0 : Nat) x_2))).fst.body)).fst.kind =
 (2 : Int)) =
 decide ((↑(List.length a) : Int) = (16 : Int))))
 (brP (decide ((↑(List.length a) : Int) = (16 : Int))) (K (AVal.bool true) [])
 (((0 : Int) ≤ (0 : Int) ∧ (0 : Int) < (2 : Int)) ∧
 K
 (AVal.bool
 (decide
 ((nbRead
 (Fm.mk
 (Mc.mk
 (etDecode (List.take (List.length x_2) (List.drop (0 : Nat) x_2))).fst.a.a0
 (etDecode (List.take (List.length x_2) (List.drop (0 : Nat) x_2))).fst.a.a1
 (etDecode (List.take (List.length x_2) (List.drop (0 : Nat) x_2))).fst.a.a2
 (etDecode (List.take (List.length x_2) (List.drop (0 : Nat) x_2))).fst.a.a3
 (etDecode (List.take (List.length x_2) (List.drop (0 : Nat) x_2))).fst.a.a4
 (etDecode
 (List.take (List.length x_2) (List.drop (0 : Nat) x_2))).fst.a.a5)
 (Mc.mk
 (etDecode (List.take (List.length x_2) (List.drop (0 : Nat) x_2))).fst.b.a0
 (etDecode (List.take (List.length x_2) (List.drop (0 : Nat) x_2))).fst.b.a1
 (etDecode (List.take (List.length x_2) (List.drop (0 : Nat) x_2))).fst.b.a2
 (etDecode (List.take (List.length x_2) (List.drop (0 : Nat) x_2))).fst.b.a3
 (etDecode (List.take (List.length x_2) (List.drop (0 : Nat) x_2))).fst.b.a4
 (etDecode
 (List.take (List.length x_2) (List.drop (0 : Nat) x_2))).fst.b.a5)
 (etDecode (List.take (List.length x_2) (List.drop (0 : Nat) x_2))).fst.ty
 (etDecode
 (List.take (List.length x_2)
 (List.drop (0 : Nat) x_2))).fst.body)).fst.target =
 a)))
 []))
 (K (AVal.bool false) []))
 (K (AVal.bool false) []))
 (K (AVal.bool false) []))
 (K (AVal.bool false) []))
 (K (AVal.bool false) []))
 (K (AVal.bool false) [])))))
 (List.length (List.take (List.length x_1) (List.drop (0 : Nat) x_1)) ≤ (140737488355328 : Nat) ∧
 List.length (etDecode (List.take (List.length x_1) (List.drop (0 : Nat) x_1))).fst.body ≤
 (140737488351232 : Nat) ∧
 brP (decide ((etDecode (List.take (List.length x_1) (List.drop (0 : Nat) x_1))).snd = (0 : Int)))
 (List.length (List.take (List.length x_2) (List.drop (0 : Nat) x_2)) ≤ (140737488355328 : Nat) ∧
 List.length (etDecode (List.take (List.length x_2) (List.drop (0 : Nat) x_2))).fst.body ≤
 (140737488351232 : Nat) ∧
 brP (decide ((etDecode (List.take (List.length x_2) (List.drop (0 : Nat) x_2))).snd = (0 : Int)))
 (K (AVal.bool false) []) (K (AVal.bool false) []))
 (List.length (List.take (List.length x_2) (List.drop (0 : Nat) x_2)) ≤ (140737488355328 : Nat) ∧
 List.length (etDecode (List.take (List.length x_2) (List.drop (0 : Nat) x_2))).fst.body ≤
 (140737488351232 : Nat) ∧
 brP (decide ((etDecode (List.take (List.length x_2) (List.drop (0 : Nat) x_2))).snd = (0 : Int)))
 (K (AVal.bool false) []) (K (AVal.bool false) []))))
 (List.length (List.take (List.length x) (List.drop (0 : Nat) x)) ≤ (140737488355328 : Nat) ∧
 List.length (etDecode (List.take (List.length x) (List.drop (0 : Nat) x))).fst.body ≤
 (140737488351232 : Nat) ∧
 brP (decide ((etDecode (List.take (List.length x) (List.drop (0 : Nat) x))).snd = (0 : Int)))
 (List.length (List.take (List.length x_1) (List.drop (0 : Nat) x_1)) ≤ (140737488355328 : Nat) ∧
 List.length (etDecode (List.take (List.length x_1) (List.drop (0 : Nat) x_1))).fst.body ≤
 (140737488351232 : Nat) ∧
 brP (decide ((etDecode (List.take (List.length x_1) (List.drop (0 : Nat) x_1))).snd = (0 : Int)))
 ((0 : Nat) ≤ (140737488351232 : Nat) ∧
 brP
 (!decide
 ((nbRead
 (Fm.mk
 (Mc.mk (etDecode (List.take (List.length x) (List.drop (0 : Nat) x))).fst.a.a0
 (etDecode (List.take (List.length x) (List.drop (0 : Nat) x))).fst.a.a1
 (etDecode (List.take (List.length x) (List.drop (0 : Nat) x))).fst.a.a2
 (etDecode (List.take (List.length x) (List.drop (0 : Nat) x))).fst.a.a3
 (etDecode (List.take (List.length x) (List.drop (0 : Nat) x))).fst.a.a4
 (etDecode (List.take (List.length x) (List.drop (0 : Nat) x))).fst.a.a5)
 (Mc.mk (etDecode (List.take (List.length x) (List.drop (0 : Nat) x))).fst.b.a0
 (etDecode (List.take (List.length x) (List.drop (0 : Nat) x))).fst.b.a1
 (etDecode (List.take (List.length x) (List.drop (0 : Nat) x))).fst.b.a2
 (etDecode (List.take (List.length x) (List.drop (0 : Nat) x))).fst.b.a3
 (etDecode (List.take (List.length x) (List.drop (0 : Nat) x))).fst.b.a4
 (etDecode (List.take (List.length x) (List.drop (0 : Nat) x))).fst.b.a5)
 (etDecode (List.take (List.length x) (List.drop (0 : Nat) x))).fst.ty
 (etDecode (List.take (List.length x) (List.drop (0 : Nat) x))).fst.body)).snd =
 (0 : Int)) ||
 !decide
 ((nbRead
 (Fm.mk
 (Mc.mk (etDecode (List.take (List.length x_1) (List.drop (0 : Nat) x_1))).fst.a.a0
 (etDecode (List.take (List.length x_1) (List.drop (0 : Nat) x_1))).fst.a.a1
 (etDecode (List.take (List.length x_1) (List.drop (0 : Nat) x_1))).fst.a.a2
 (etDecode (List.take (List.length x_1) (List.drop (0 : Nat) x_1))).fst.a.a3
 (etDecode (List.take (List.length x_1) (List.drop (0 : Nat) x_1))).fst.a.a4
 (etDecode (List.take (List.length x_1) (List.drop (0 : Nat) x_1))).fst.a.a5)
 (Mc.mk (etDecode (List.take (List.length x_1) (List.drop (0 : Nat) x_1))).fst.b.a0
 (etDecode (List.take (List.length x_1) (List.drop (0 : Nat) x_1))).fst.b.a1
 (etDecode (List.take (List.length x_1) (List.drop (0 : Nat) x_1))).fst.b.a2
 (etDecode (List.take (List.length x_1) (List.drop (0 : Nat) x_1))).fst.b.a3
 (etDecode (List.take (List.length x_1) (List.drop (0 : Nat) x_1))).fst.b.a4
 (etDecode (List.take (List.length x_1) (List.drop (0 : Nat) x_1))).fst.b.a5)
 (etDecode (List.take (List.length x_1) (List.drop (0 : Nat) x_1))).fst.ty
 (etDecode (List.take (List.length x_1) (List.drop (0 : Nat) x_1))).fst.body)).snd =
 (0 : Int)) ||
 true)
 (K (AVal.bool false) [])
 (((0 : Int) ≤ (0 : Int) ∧ (0 : Int) < (2 : Int)) ∧
 ((0 : Int) ≤ (0 : Int) ∧ (0 : Int) < (2 : Int)) ∧
 ((0 : Int) ≤ (1 : Int) ∧ (1 : Int) < (2 : Int)) ∧
 brP
 (decide
 ((nbRead
 (Fm.mk
 (Mc.mk (etDecode (List.take (List.length x) (List.drop (0 : Nat) x))).fst.a.a0
 (etDecode (List.take (List.length x) (List.drop (0 : Nat) x))).fst.a.a1
 (etDecode (List.take (List.length x) (List.drop (0 : Nat) x))).fst.a.a2
 (etDecode (List.take (List.length x) (List.drop (0 : Nat) x))).fst.a.a3
 (etDecode (List.take (List.length x) (List.drop (0 : Nat) x))).fst.a.a4
 (etDecode (List.take (List.length x) (List.drop (0 : Nat) x))).fst.a.a5)
 (Mc.mk (etDecode (List.take (List.length x) (List.drop (0 : Nat) x))).fst.b.a0
 (etDecode (List.take (List.length x) (List.drop (0 : Nat) x))).fst.b.a1
 (etDecode (List.take (List.length x) (List.drop (0 : Nat) x))).fst.b.a2
 (etDecode (List.take (List.length x) (List.drop (0 : Nat) x))).fst.b.a3
 (etDecode (List.take (List.length x) (List.drop (0 : Nat) x))).fst.b.a4
 (etDecode (List.take (List.length x) (List.drop (0 : Nat) x))).fst.b.a5)
 (etDecode (List.take (List.length x) (List.drop (0 : Nat) x))).fst.ty
 (etDecode (List.take (List.length x) (List.drop (0 : Nat) x))).fst.body)).fst.kind =
 (1 : Int)) &&
 (decide
 ((nbRead
 (Fm.mk
 (Mc.mk (etDecode (List.take (List.length x) (List.drop (0 : Nat) x))).fst.a.a0
 (etDecode (List.take (List.length x) (List.drop (0 : Nat) x))).fst.a.a1
 (etDecode (List.take (List.length x) (List.drop (0 : Nat) x))).fst.a.a2
 (etDecode (List.take (List.length x) (List.drop (0 : Nat) x))).fst.a.a3
 (etDecode (List.take (List.length x) (List.drop (0 : Nat) x))).fst.a.a4
 (etDecode (List.take (List.length x) (List.drop (0 : Nat) x))).fst.a.a5)
 (Mc.mk (etDecode (List.take (List.length x) (List.drop (0 : Nat) x))).fst.b.a0
 (etDecode (List.take (List.length x) (List.drop (0 : Nat) x))).fst.b.a1
 (etDecode (List.take (List.length x) (List.drop (0 : Nat) x))).fst.b.a2
 (etDecode (List.take (List.length x) (List.drop (0 : Nat) x))).fst.b.a3
 (etDecode (List.take (List.length x) (List.drop (0 : Nat) x))).fst.b.a4
 (etDecode (List.take (List.length x) (List.drop (0 : Nat) x))).fst.b.a5)
 (etDecode (List.take (List.length x) (List.drop (0 : Nat) x))).fst.ty
 (etDecode (List.take (List.length x) (List.drop (0 : Nat) x))).fst.body)).fst.mac.a0 =
 m0) &&
 (decide
 ((nbRead
 (Fm.mk
 (Mc.mk (etDecode (List.take (List.length x) (List.drop (0 : Nat) x))).fst.a.a0
 (etDecode (List.take (List.length x) (List.drop (0 : Nat) x))).fst.a.a1
 (etDecode (List.take (List.length x) (List.drop (0 : Nat) x))).fst.a.a2
 (etDecode (List.take (List.length x) (List.drop (0 : Nat) x))).fst.a.a3
 (etDecode (List.take (List.length x) (List.drop (0 : Nat) x))).fst.a.a4
 (etDecode (List.take (List.length x) (List.drop (0 : Nat) x))).fst.a.a5)
 (Mc.mk (etDecode (List.take (List.length x) (List.drop (0 : Nat) x))).fst.b.a0
 (etDecode (List.take (List.length x) (List.drop (0 : Nat) x))).fst.b.a1
 (etDecode (List.take (List.length x) (List.drop (0 : Nat) x))).fst.b.a2
 (etDecode (List.take (List.length x) (List.drop (0 : Nat) x))).fst.b.a3
 (etDecode (List.take (List.length x) (List.drop (0 : Nat) x))).fst.b.a4
 (etDecode (List.take (List.length x) (List.drop (0 : Nat) x))).fst.b.a5)
 (etDecode (List.take (List.length x) (List.drop (0 : Nat) x))).fst.ty
 (etDecode (List.take (List.length x) (List.drop (0 : Nat) x))).fst.body)).fst.mac.a1 =
 m1) &&
 (decide
 ((nbRead
 (Fm.mk
 (Mc.mk (etDecode (List.take (List.length x) (List.drop (0 : Nat) x))).fst.a.a0
 (etDecode (List.take (List.length x) (List.drop (0 : Nat) x))).fst.a.a1
 (etDecode (List.take (List.length x) (List.drop (0 : Nat) x))).fst.a.a2
 (etDecode (List.take (List.length x) (List.drop (0 : Nat) x))).fst.a.a3
 (etDecode (List.take (List.length x) (List.drop (0 : Nat) x))).fst.a.a4
 (etDecode (List.take (List.length x) (List.drop (0 : Nat) x))).fst.a.a5)
 (Mc.mk (etDecode (List.take (List.length x) (List.drop (0 : Nat) x))).fst.b.a0
 (etDecode (List.take (List.length x) (List.drop (0 : Nat) x))).fst.b.a1
 (etDecode (List.take (List.length x) (List.drop (0 : Nat) x))).fst.b.a2
 (etDecode (List.take (List.length x) (List.drop (0 : Nat) x))).fst.b.a3
 (etDecode (List.take (List.length x) (List.drop (0 : Nat) x))).fst.b.a4
 (etDecode (List.take (List.length x) (List.drop (0 : Nat) x))).fst.b.a5)
 (etDecode (List.take (List.length x) (List.drop (0 : Nat) x))).fst.ty
 (etDecode (List.take (List.length x) (List.drop (0 : Nat) x))).fst.body)).fst.mac.a2 =
 m2) &&
 (decide
 ((nbRead
 (Fm.mk
 (Mc.mk (etDecode (List.take (List.length x) (List.drop (0 : Nat) x))).fst.a.a0
 (etDecode (List.take (List.length x) (List.drop (0 : Nat) x))).fst.a.a1
 (etDecode (List.take (List.length x) (List.drop (0 : Nat) x))).fst.a.a2
 (etDecode (List.take (List.length x) (List.drop (0 : Nat) x))).fst.a.a3
 (etDecode (List.take (List.length x) (List.drop (0 : Nat) x))).fst.a.a4
 (etDecode (List.take (List.length x) (List.drop (0 : Nat) x))).fst.a.a5)
 (Mc.mk (etDecode (List.take (List.length x) (List.drop (0 : Nat) x))).fst.b.a0
 (etDecode (List.take (List.length x) (List.drop (0 : Nat) x))).fst.b.a1
 (etDecode (List.take (List.length x) (List.drop (0 : Nat) x))).fst.b.a2
 (etDecode (List.take (List.length x) (List.drop (0 : Nat) x))).fst.b.a3
 (etDecode (List.take (List.length x) (List.drop (0 : Nat) x))).fst.b.a4
 (etDecode (List.take (List.length x) (List.drop (0 : Nat) x))).fst.b.a5)
 (etDecode (List.take (List.length x) (List.drop (0 : Nat) x))).fst.ty
 (etDecode
 (List.take (List.length x) (List.drop (0 : Nat) x))).fst.body)).fst.mac.a3 =
 m3) &&
 (decide
 ((nbRead
 (Fm.mk
 (Mc.mk (etDecode (List.take (List.length x) (List.drop (0 : Nat) x))).fst.a.a0
 (etDecode (List.take (List.length x) (List.drop (0 : Nat) x))).fst.a.a1
 (etDecode (List.take (List.length x) (List.drop (0 : Nat) x))).fst.a.a2
 (etDecode (List.take (List.length x) (List.drop (0 : Nat) x))).fst.a.a3
 (etDecode (List.take (List.length x) (List.drop (0 : Nat) x))).fst.a.a4
 (etDecode (List.take (List.length x) (List.drop (0 : Nat) x))).fst.a.a5)
 (Mc.mk (etDecode (List.take (List.length x) (List.drop (0 : Nat) x))).fst.b.a0
 (etDecode (List.take (List.length x) (List.drop (0 : Nat) x))).fst.b.a1
 (etDecode (List.take (List.length x) (List.drop (0 : Nat) x))).fst.b.a2
 (etDecode (List.take (List.length x) (List.drop (0 : Nat) x))).fst.b.a3
 (etDecode (List.take (List.length x) (List.drop (0 : Nat) x))).fst.b.a4
 (etDecode (List.take (List.length x) (List.drop (0 : Nat) x))).fst.b.a5)
 (etDecode (List.take (List.length x) (List.drop (0 : Nat) x))).fst.ty
 (etDecode
 (List.take (List.length x) (List.drop (0 : Nat) x))).fst.body)).fst.mac.a4 =
 m4) &&
 (decide
 ((nbRead
 (Fm.mk
 (Mc.mk (etDecode (List.take (List.length x) (List.drop (0 : Nat) x))).fst.a.a0
 (etDecode (List.take (List.length x) (List.drop (0 : Nat) x))).fst.a.a1
 (etDecode (List.take (List.length x) (List.drop (0 : Nat) x))).fst.a.a2
 (etDecode (List.take (List.length x) (List.drop (0 : Nat) x))).fst.a.a3
 (etDecode (List.take (List.length x) (List.drop (0 : Nat) x))).fst.a.a4
 (etDecode (List.take (List.length x) (List.drop (0 : Nat) x))).fst.a.a5)
 (Mc.mk (etDecode (List.take (List.length x) (List.drop (0 : Nat) x))).fst.b.a0
 (etDecode (List.take (List.length x) (List.drop (0 : Nat) x))).fst.b.a1
 (etDecode (List.take (List.length x) (List.drop (0 : Nat) x))).fst.b.a2
 (etDecode (List.take (List.length x) (List.drop (0 : Nat) x))).fst.b.a3
 (etDecode (List.take (List.length x) (List.drop (0 : Nat) x))).fst.b.a4
 (etDecode (List.take (List.length x) (List.drop (0 : Nat) x))).fst.b.a5)
 (etDecode (List.take (List.length x) (List.drop (0 : Nat) x))).fst.ty
 (etDecode
 (List.take (List.length x) (List.drop (0 : Nat) x))).fst.body)).fst.mac.a5 =
 m5) &&
 (decide
 ((nbRead
 (Fm.mk
 (Mc.mk (etDecode (List.take (List.length x) (List.drop (0 : Nat) x))).fst.a.a0
 (etDecode (List.take (List.length x) (List.drop (0 : Nat) x))).fst.a.a1
 (etDecode (List.take (List.length x) (List.drop (0 : Nat) x))).fst.a.a2
 (etDecode (List.take (List.length x) (List.drop (0 : Nat) x))).fst.a.a3
 (etDecode (List.take (List.length x) (List.drop (0 : Nat) x))).fst.a.a4
 (etDecode (List.take (List.length x) (List.drop (0 : Nat) x))).fst.a.a5)
 (Mc.mk (etDecode (List.take (List.length x) (List.drop (0 : Nat) x))).fst.b.a0
 (etDecode (List.take (List.length x) (List.drop (0 : Nat) x))).fst.b.a1
 (etDecode (List.take (List.length x) (List.drop (0 : Nat) x))).fst.b.a2
 (etDecode (List.take (List.length x) (List.drop (0 : Nat) x))).fst.b.a3
 (etDecode (List.take (List.length x) (List.drop (0 : Nat) x))).fst.b.a4
 (etDecode (List.take (List.length x) (List.drop (0 : Nat) x))).fst.b.a5)
 (etDecode (List.take (List.length x) (List.drop (0 : Nat) x))).fst.ty
 (etDecode
 (List.take (List.length x) (List.drop (0 : Nat) x))).fst.body)).fst.addr =
 a) &&
 (decide
 ((nbRead
 (Fm.mk
 (Mc.mk (etDecode (List.take (List.length x) (List.drop (0 : Nat) x))).fst.a.a0
 (etDecode (List.take (List.length x) (List.drop (0 : Nat) x))).fst.a.a1
 (etDecode (List.take (List.length x) (List.drop (0 : Nat) x))).fst.a.a2
 (etDecode (List.take (List.length x) (List.drop (0 : Nat) x))).fst.a.a3
 (etDecode (List.take (List.length x) (List.drop (0 : Nat) x))).fst.a.a4
 (etDecode (List.take (List.length x) (List.drop (0 : Nat) x))).fst.a.a5)
 (Mc.mk (etDecode (List.take (List.length x) (List.drop (0 : Nat) x))).fst.b.a0
 (etDecode (List.take (List.length x) (List.drop (0 : Nat) x))).fst.b.a1
 (etDecode (List.take (List.length x) (List.drop (0 : Nat) x))).fst.b.a2
 (etDecode (List.take (List.length x) (List.drop (0 : Nat) x))).fst.b.a3
 (etDecode (List.take (List.length x) (List.drop (0 : Nat) x))).fst.b.a4
 (etDecode (List.take (List.length x) (List.drop (0 : Nat) x))).fst.b.a5)
 (etDecode (List.take (List.length x) (List.drop (0 : Nat) x))).fst.ty
 (etDecode
 (List.take (List.length x) (List.drop (0 : Nat) x))).fst.body)).fst.target =
 b) &&
 decide
 ((nbRead
 (Fm.mk
 (Mc.mk (etDecode (List.take (List.length x) (List.drop (0 : Nat) x))).fst.a.a0
 (etDecode (List.take (List.length x) (List.drop (0 : Nat) x))).fst.a.a1
 (etDecode (List.take (List.length x) (List.drop (0 : Nat) x))).fst.a.a2
 (etDecode (List.take (List.length x) (List.drop (0 : Nat) x))).fst.a.a3
 (etDecode (List.take (List.length x) (List.drop (0 : Nat) x))).fst.a.a4
 (etDecode (List.take (List.length x) (List.drop (0 : Nat) x))).fst.a.a5)
 (Mc.mk (etDecode (List.take (List.length x) (List.drop (0 : Nat) x))).fst.b.a0
 (etDecode (List.take (List.length x) (List.drop (0 : Nat) x))).fst.b.a1
 (etDecode (List.take (List.length x) (List.drop (0 : Nat) x))).fst.b.a2
 (etDecode (List.take (List.length x) (List.drop (0 : Nat) x))).fst.b.a3
 (etDecode (List.take (List.length x) (List.drop (0 : Nat) x))).fst.b.a4
 (etDecode (List.take (List.length x) (List.drop (0 : Nat) x))).fst.b.a5)
 (etDecode (List.take (List.length x) (List.drop (0 : Nat) x))).fst.ty
 (etDecode
 (List.take (List.length x) (List.drop (0 : Nat) x))).fst.body)).fst.asked =
 false))))))))))
 (((0 : Int) ≤ (0 : Int) ∧ (0 : Int) < (2 : Int)) ∧
 ((0 : Int) ≤ (1 : Int) ∧ (1 : Int) < (2 : Int)) ∧
 brP
 (decide
 ((nbRead
 (Fm.mk
 (Mc.mk (etDecode (List.take (List.length x_1) (List.drop (0 : Nat) x_1))).fst.a.a0
 (etDecode (List.take (List.length x_1) (List.drop (0 : Nat) x_1))).fst.a.a1
 (etDecode (List.take (List.length x_1) (List.drop (0 : Nat) x_1))).fst.a.a2
 (etDecode (List.take (List.length x_1) (List.drop (0 : Nat) x_1))).fst.a.a3
 (etDecode (List.take (List.length x_1) (List.drop (0 : Nat) x_1))).fst.a.a4
 (etDecode (List.take (List.length x_1) (List.drop (0 : Nat) x_1))).fst.a.a5)
 (Mc.mk (etDecode (List.take (List.length x_1) (List.drop (0 : Nat) x_1))).fst.b.a0
 (etDecode (List.take (List.length x_1) (List.drop (0 : Nat) x_1))).fst.b.a1
 (etDecode (List.take (List.length x_1) (List.drop (0 : Nat) x_1))).fst.b.a2
 (etDecode (List.take (List.length x_1) (List.drop (0 : Nat) x_1))).fst.b.a3
 (etDecode (List.take (List.length x_1) (List.drop (0 : Nat) x_1))).fst.b.a4
 (etDecode (List.take (List.length x_1) (List.drop (0 : Nat) x_1))).fst.b.a5)
 (etDecode (List.take (List.length x_1) (List.drop (0 : Nat) x_1))).fst.ty
 (etDecode
 (List.take (List.length x_1) (List.drop (0 : Nat) x_1))).fst.body)).fst.kind =
 (2 : Int)) &&
 (decide
 ((nbRead
 (Fm.mk
 (Mc.mk (etDecode (List.take (List.length x_1) (List.drop (0 : Nat) x_1))).fst.a.a0
 (etDecode (List.take (List.length x_1) (List.drop (0 : Nat) x_1))).fst.a.a1
 (etDecode (List.take (List.length x_1) (List.drop (0 : Nat) x_1))).fst.a.a2
 (etDecode (List.take (List.length x_1) (List.drop (0 : Nat) x_1))).fst.a.a3
 (etDecode (List.take (List.length x_1) (List.drop (0 : Nat) x_1))).fst.a.a4
 (etDecode (List.take (List.length x_1) (List.drop (0 : Nat) x_1))).fst.a.a5)
 (Mc.mk (etDecode (List.take (List.length x_1) (List.drop (0 : Nat) x_1))).fst.b.a0
 (etDecode (List.take (List.length x_1) (List.drop (0 : Nat) x_1))).fst.b.a1
 (etDecode (List.take (List.length x_1) (List.drop (0 : Nat) x_1))).fst.b.a2
 (etDecode (List.take (List.length x_1) (List.drop (0 : Nat) x_1))).fst.b.a3
 (etDecode (List.take (List.length x_1) (List.drop (0 : Nat) x_1))).fst.b.a4
 (etDecode (List.take (List.length x_1) (List.drop (0 : Nat) x_1))).fst.b.a5)
 (etDecode (List.take (List.length x_1) (List.drop (0 : Nat) x_1))).fst.ty
 (etDecode
 (List.take (List.length x_1) (List.drop (0 : Nat) x_1))).fst.body)).fst.mac.a0 =
 m0) &&
 (decide
 ((nbRead
 (Fm.mk
 (Mc.mk (etDecode (List.take (List.length x_1) (List.drop (0 : Nat) x_1))).fst.a.a0
 (etDecode (List.take (List.length x_1) (List.drop (0 : Nat) x_1))).fst.a.a1
 (etDecode (List.take (List.length x_1) (List.drop (0 : Nat) x_1))).fst.a.a2
 (etDecode (List.take (List.length x_1) (List.drop (0 : Nat) x_1))).fst.a.a3
 (etDecode (List.take (List.length x_1) (List.drop (0 : Nat) x_1))).fst.a.a4
 (etDecode (List.take (List.length x_1) (List.drop (0 : Nat) x_1))).fst.a.a5)
 (Mc.mk (etDecode (List.take (List.length x_1) (List.drop (0 : Nat) x_1))).fst.b.a0
 (etDecode (List.take (List.length x_1) (List.drop (0 : Nat) x_1))).fst.b.a1
 (etDecode (List.take (List.length x_1) (List.drop (0 : Nat) x_1))).fst.b.a2
 (etDecode (List.take (List.length x_1) (List.drop (0 : Nat) x_1))).fst.b.a3
 (etDecode (List.take (List.length x_1) (List.drop (0 : Nat) x_1))).fst.b.a4
 (etDecode (List.take (List.length x_1) (List.drop (0 : Nat) x_1))).fst.b.a5)
 (etDecode (List.take (List.length x_1) (List.drop (0 : Nat) x_1))).fst.ty
 (etDecode
 (List.take (List.length x_1) (List.drop (0 : Nat) x_1))).fst.body)).fst.mac.a1 =
 m1) &&
 (decide
 ((nbRead
 (Fm.mk
 (Mc.mk (etDecode (List.take (List.length x_1) (List.drop (0 : Nat) x_1))).fst.a.a0
 (etDecode (List.take (List.length x_1) (List.drop (0 : Nat) x_1))).fst.a.a1
 (etDecode (List.take (List.length x_1) (List.drop (0 : Nat) x_1))).fst.a.a2
 (etDecode (List.take (List.length x_1) (List.drop (0 : Nat) x_1))).fst.a.a3
 (etDecode (List.take (List.length x_1) (List.drop (0 : Nat) x_1))).fst.a.a4
 (etDecode (List.take (List.length x_1) (List.drop (0 : Nat) x_1))).fst.a.a5)
 (Mc.mk (etDecode (List.take (List.length x_1) (List.drop (0 : Nat) x_1))).fst.b.a0
 (etDecode (List.take (List.length x_1) (List.drop (0 : Nat) x_1))).fst.b.a1
 (etDecode (List.take (List.length x_1) (List.drop (0 : Nat) x_1))).fst.b.a2
 (etDecode (List.take (List.length x_1) (List.drop (0 : Nat) x_1))).fst.b.a3
 (etDecode (List.take (List.length x_1) (List.drop (0 : Nat) x_1))).fst.b.a4
 (etDecode (List.take (List.length x_1) (List.drop (0 : Nat) x_1))).fst.b.a5)
 (etDecode (List.take (List.length x_1) (List.drop (0 : Nat) x_1))).fst.ty
 (etDecode
 (List.take (List.length x_1) (List.drop (0 : Nat) x_1))).fst.body)).fst.mac.a2 =
 m2) &&
 (decide
 ((nbRead
 (Fm.mk
 (Mc.mk (etDecode (List.take (List.length x_1) (List.drop (0 : Nat) x_1))).fst.a.a0
 (etDecode (List.take (List.length x_1) (List.drop (0 : Nat) x_1))).fst.a.a1
 (etDecode (List.take (List.length x_1) (List.drop (0 : Nat) x_1))).fst.a.a2
 (etDecode (List.take (List.length x_1) (List.drop (0 : Nat) x_1))).fst.a.a3
 (etDecode (List.take (List.length x_1) (List.drop (0 : Nat) x_1))).fst.a.a4
 (etDecode (List.take (List.length x_1) (List.drop (0 : Nat) x_1))).fst.a.a5)
 (Mc.mk (etDecode (List.take (List.length x_1) (List.drop (0 : Nat) x_1))).fst.b.a0
 (etDecode (List.take (List.length x_1) (List.drop (0 : Nat) x_1))).fst.b.a1
 (etDecode (List.take (List.length x_1) (List.drop (0 : Nat) x_1))).fst.b.a2
 (etDecode (List.take (List.length x_1) (List.drop (0 : Nat) x_1))).fst.b.a3
 (etDecode (List.take (List.length x_1) (List.drop (0 : Nat) x_1))).fst.b.a4
 (etDecode (List.take (List.length x_1) (List.drop (0 : Nat) x_1))).fst.b.a5)
 (etDecode (List.take (List.length x_1) (List.drop (0 : Nat) x_1))).fst.ty
 (etDecode
 (List.take (List.length x_1)
 (List.drop (0 : Nat) x_1))).fst.body)).fst.mac.a3 =
 m3) &&
 (decide
 ((nbRead
 (Fm.mk
 (Mc.mk
 (etDecode (List.take (List.length x_1) (List.drop (0 : Nat) x_1))).fst.a.a0
 (etDecode (List.take (List.length x_1) (List.drop (0 : Nat) x_1))).fst.a.a1
 (etDecode (List.take (List.length x_1) (List.drop (0 : Nat) x_1))).fst.a.a2
 (etDecode (List.take (List.length x_1) (List.drop (0 : Nat) x_1))).fst.a.a3
 (etDecode (List.take (List.length x_1) (List.drop (0 : Nat) x_1))).fst.a.a4
 (etDecode (List.take (List.length x_1) (List.drop (0 : Nat) x_1))).fst.a.a5)
 (Mc.mk
 (etDecode (List.take (List.length x_1) (List.drop (0 : Nat) x_1))).fst.b.a0
 (etDecode (List.take (List.length x_1) (List.drop (0 : Nat) x_1))).fst.b.a1
 (etDecode (List.take (List.length x_1) (List.drop (0 : Nat) x_1))).fst.b.a2
 (etDecode (List.take (List.length x_1) (List.drop (0 : Nat) x_1))).fst.b.a3
 (etDecode (List.take (List.length x_1) (List.drop (0 : Nat) x_1))).fst.b.a4
 (etDecode (List.take (List.length x_1) (List.drop (0 : Nat) x_1))).fst.b.a5)
 (etDecode (List.take (List.length x_1) (List.drop (0 : Nat) x_1))).fst.ty
 (etDecode
 (List.take (List.length x_1)
 (List.drop (0 : Nat) x_1))).fst.body)).fst.mac.a4 =
 m4) &&
 (decide
 ((nbRead
 (Fm.mk
 (Mc.mk
 (etDecode (List.take (List.length x_1) (List.drop (0 : Nat) x_1))).fst.a.a0
 (etDecode (List.take (List.length x_1) (List.drop (0 : Nat) x_1))).fst.a.a1
 (etDecode (List.take (List.length x_1) (List.drop (0 : Nat) x_1))).fst.a.a2
 (etDecode (List.take (List.length x_1) (List.drop (0 : Nat) x_1))).fst.a.a3
 (etDecode (List.take (List.length x_1) (List.drop (0 : Nat) x_1))).fst.a.a4
 (etDecode (List.take (List.length x_1) (List.drop (0 : Nat) x_1))).fst.a.a5)
 (Mc.mk
 (etDecode (List.take (List.length x_1) (List.drop (0 : Nat) x_1))).fst.b.a0
 (etDecode (List.take (List.length x_1) (List.drop (0 : Nat) x_1))).fst.b.a1
 (etDecode (List.take (List.length x_1) (List.drop (0 : Nat) x_1))).fst.b.a2
 (etDecode (List.take (List.length x_1) (List.drop (0 : Nat) x_1))).fst.b.a3
 (etDecode (List.take (List.length x_1) (List.drop (0 : Nat) x_1))).fst.b.a4
 (etDecode (List.take (List.length x_1) (List.drop (0 : Nat) x_1))).fst.b.a5)
 (etDecode (List.take (List.length x_1) (List.drop (0 : Nat) x_1))).fst.ty
 (etDecode
 (List.take (List.length x_1)
 (List.drop (0 : Nat) x_1))).fst.body)).fst.mac.a5 =
 m5) &&
 (decide
 ((nbRead
 (Fm.mk
 (Mc.mk
 (etDecode (List.take (List.length x_1) (List.drop (0 : Nat) x_1))).fst.a.a0
 (etDecode (List.take (List.length x_1) (List.drop (0 : Nat) x_1))).fst.a.a1
 (etDecode (List.take (List.length x_1) (List.drop (0 : Nat) x_1))).fst.a.a2
 (etDecode (List.take (List.length x_1) (List.drop (0 : Nat) x_1))).fst.a.a3
 (etDecode (List.take (List.length x_1) (List.drop (0 : Nat) x_1))).fst.a.a4
 (etDecode (List.take (List.length x_1) (List.drop (0 : Nat) x_1))).fst.a.a5)
 (Mc.mk
 (etDecode (List.take (List.length x_1) (List.drop (0 : Nat) x_1))).fst.b.a0
 (etDecode (List.take (List.length x_1) (List.drop (0 : Nat) x_1))).fst.b.a1
 (etDecode (List.take (List.length x_1) (List.drop (0 : Nat) x_1))).fst.b.a2
 (etDecode (List.take (List.length x_1) (List.drop (0 : Nat) x_1))).fst.b.a3
 (etDecode (List.take (List.length x_1) (List.drop (0 : Nat) x_1))).fst.b.a4
 (etDecode (List.take (List.length x_1) (List.drop (0 : Nat) x_1))).fst.b.a5)
 (etDecode (List.take (List.length x_1) (List.drop (0 : Nat) x_1))).fst.ty
 (etDecode
 (List.take (List.length x_1)
 (List.drop (0 : Nat) x_1))).fst.body)).fst.addr =
 a) &&
 (decide
 ((nbRead
 (Fm.mk
 (Mc.mk
 (etDecode (List.take (List.length x_1) (List.drop (0 : Nat) x_1))).fst.a.a0
 (etDecode (List.take (List.length x_1) (List.drop (0 : Nat) x_1))).fst.a.a1
 (etDecode (List.take (List.length x_1) (List.drop (0 : Nat) x_1))).fst.a.a2
 (etDecode (List.take (List.length x_1) (List.drop (0 : Nat) x_1))).fst.a.a3
 (etDecode (List.take (List.length x_1) (List.drop (0 : Nat) x_1))).fst.a.a4
 (etDecode (List.take (List.length x_1) (List.drop (0 : Nat) x_1))).fst.a.a5)
 (Mc.mk
 (etDecode (List.take (List.length x_1) (List.drop (0 : Nat) x_1))).fst.b.a0
 (etDecode (List.take (List.length x_1) (List.drop (0 : Nat) x_1))).fst.b.a1
 (etDecode (List.take (List.length x_1) (List.drop (0 : Nat) x_1))).fst.b.a2
 (etDecode (List.take (List.length x_1) (List.drop (0 : Nat) x_1))).fst.b.a3
 (etDecode (List.take (List.length x_1) (List.drop (0 : Nat) x_1))).fst.b.a4
 (etDecode (List.take (List.length x_1) (List.drop (0 : Nat) x_1))).fst.b.a5)
 (etDecode (List.take (List.length x_1) (List.drop (0 : Nat) x_1))).fst.ty
 (etDecode
 (List.take (List.length x_1)
 (List.drop (0 : Nat) x_1))).fst.body)).fst.target =
 b) &&
 decide
 ((nbRead
 (Fm.mk
 (Mc.mk
 (etDecode (List.take (List.length x_1) (List.drop (0 : Nat) x_1))).fst.a.a0
 (etDecode (List.take (List.length x_1) (List.drop (0 : Nat) x_1))).fst.a.a1
 (etDecode (List.take (List.length x_1) (List.drop (0 : Nat) x_1))).fst.a.a2
 (etDecode (List.take (List.length x_1) (List.drop (0 : Nat) x_1))).fst.a.a3
 (etDecode (List.take (List.length x_1) (List.drop (0 : Nat) x_1))).fst.a.a4
 (etDecode (List.take (List.length x_1) (List.drop (0 : Nat) x_1))).fst.a.a5)
 (Mc.mk
 (etDecode (List.take (List.length x_1) (List.drop (0 : Nat) x_1))).fst.b.a0
 (etDecode (List.take (List.length x_1) (List.drop (0 : Nat) x_1))).fst.b.a1
 (etDecode (List.take (List.length x_1) (List.drop (0 : Nat) x_1))).fst.b.a2
 (etDecode (List.take (List.length x_1) (List.drop (0 : Nat) x_1))).fst.b.a3
 (etDecode (List.take (List.length x_1) (List.drop (0 : Nat) x_1))).fst.b.a4
 (etDecode (List.take (List.length x_1) (List.drop (0 : Nat) x_1))).fst.b.a5)
 (etDecode (List.take (List.length x_1) (List.drop (0 : Nat) x_1))).fst.ty
 (etDecode
 (List.take (List.length x_1)
 (List.drop (0 : Nat) x_1))).fst.body)).fst.asked =
 true))))))))))
 (brP
 (decide ((0 : UInt8) = m0) &&
 (decide ((0 : UInt8) = m1) &&
 (decide ((0 : UInt8) = m2) &&
 (decide ((0 : UInt8) = m3) && (decide ((0 : UInt8) = m4) && decide ((0 : UInt8) = m5))))))
 (((0 : Int) ≤ (0 : Int) ∧ (0 : Int) < (2 : Int)) ∧
 brP (decide ([] = a))
 (brP (decide (false = decide ((↑(List.length a) : Int) = (16 : Int))))
 (brP (decide ((↑(List.length a) : Int) = (16 : Int))) (K (AVal.bool true) [])
 (((0 : Int) ≤ (0 : Int) ∧ (0 : Int) < (2 : Int)) ∧ K (AVal.bool (decide ([] = a))) []))
 (K (AVal.bool false) []))
 (K (AVal.bool false) []))
 (K (AVal.bool false) []))
 (K (AVal.bool false) []))
 (K (AVal.bool false) [])))
 ((0 : Nat) ≤ (140737488351232 : Nat) ∧
 brP
 (!decide
 ((nbRead
 (Fm.mk
 (Mc.mk (etDecode (List.take (List.length x) (List.drop (0 : Nat) x))).fst.a.a0
 (etDecode (List.take (List.length x) (List.drop (0 : Nat) x))).fst.a.a1
 (etDecode (List.take (List.length x) (List.drop (0 : Nat) x))).fst.a.a2
 (etDecode (List.take (List.length x) (List.drop (0 : Nat) x))).fst.a.a3
 (etDecode (List.take (List.length x) (List.drop (0 : Nat) x))).fst.a.a4
 (etDecode (List.take (List.length x) (List.drop (0 : Nat) x))).fst.a.a5)
 (Mc.mk (etDecode (List.take (List.length x) (List.drop (0 : Nat) x))).fst.b.a0
 (etDecode (List.take (List.length x) (List.drop (0 : Nat) x))).fst.b.a1
 (etDecode (List.take (List.length x) (List.drop (0 : Nat) x))).fst.b.a2
 (etDecode (List.take (List.length x) (List.drop (0 : Nat) x))).fst.b.a3
 (etDecode (List.take (List.length x) (List.drop (0 : Nat) x))).fst.b.a4
 (etDecode (List.take (List.length x) (List.drop (0 : Nat) x))).fst.b.a5)
 (etDecode (List.take (List.length x) (List.drop (0 : Nat) x))).fst.ty
 (etDecode (List.take (List.length x) (List.drop (0 : Nat) x))).fst.body)).snd =
 (0 : Int)) ||
 true ||
 true)
 (K (AVal.bool false) [])
 (((0 : Int) ≤ (0 : Int) ∧ (0 : Int) < (2 : Int)) ∧
 ((0 : Int) ≤ (0 : Int) ∧ (0 : Int) < (2 : Int)) ∧
 ((0 : Int) ≤ (1 : Int) ∧ (1 : Int) < (2 : Int)) ∧
 brP
 (decide
 ((nbRead
 (Fm.mk
 (Mc.mk (etDecode (List.take (List.length x) (List.drop (0 : Nat) x))).fst.a.a0
 (etDecode (List.take (List.length x) (List.drop (0 : Nat) x))).fst.a.a1
 (etDecode (List.take (List.length x) (List.drop (0 : Nat) x))).fst.a.a2
 (etDecode (List.take (List.length x) (List.drop (0 : Nat) x))).fst.a.a3
 (etDecode (List.take (List.length x) (List.drop (0 : Nat) x))).fst.a.a4
 (etDecode (List.take (List.length x) (List.drop (0 : Nat) x))).fst.a.a5)
 (Mc.mk (etDecode (List.take (List.length x) (List.drop (0 : Nat) x))).fst.b.a0
 (etDecode (List.take (List.length x) (List.drop (0 : Nat) x))).fst.b.a1
 (etDecode (List.take (List.length x) (List.drop (0 : Nat) x))).fst.b.a2
 (etDecode (List.take (List.length x) (List.drop (0 : Nat) x))).fst.b.a3
 (etDecode (List.take (List.length x) (List.drop (0 : Nat) x))).fst.b.a4
 (etDecode (List.take (List.length x) (List.drop (0 : Nat) x))).fst.b.a5)
 (etDecode (List.take (List.length x) (List.drop (0 : Nat) x))).fst.ty
 (etDecode (List.take (List.length x) (List.drop (0 : Nat) x))).fst.body)).fst.kind =
 (1 : Int)) &&
 (decide
 ((nbRead
 (Fm.mk
 (Mc.mk (etDecode (List.take (List.length x) (List.drop (0 : Nat) x))).fst.a.a0
 (etDecode (List.take (List.length x) (List.drop (0 : Nat) x))).fst.a.a1
 (etDecode (List.take (List.length x) (List.drop (0 : Nat) x))).fst.a.a2
 (etDecode (List.take (List.length x) (List.drop (0 : Nat) x))).fst.a.a3
 (etDecode (List.take (List.length x) (List.drop (0 : Nat) x))).fst.a.a4
 (etDecode (List.take (List.length x) (List.drop (0 : Nat) x))).fst.a.a5)
 (Mc.mk (etDecode (List.take (List.length x) (List.drop (0 : Nat) x))).fst.b.a0
 (etDecode (List.take (List.length x) (List.drop (0 : Nat) x))).fst.b.a1
 (etDecode (List.take (List.length x) (List.drop (0 : Nat) x))).fst.b.a2
 (etDecode (List.take (List.length x) (List.drop (0 : Nat) x))).fst.b.a3
 (etDecode (List.take (List.length x) (List.drop (0 : Nat) x))).fst.b.a4
 (etDecode (List.take (List.length x) (List.drop (0 : Nat) x))).fst.b.a5)
 (etDecode (List.take (List.length x) (List.drop (0 : Nat) x))).fst.ty
 (etDecode (List.take (List.length x) (List.drop (0 : Nat) x))).fst.body)).fst.mac.a0 =
 m0) &&
 (decide
 ((nbRead
 (Fm.mk
 (Mc.mk (etDecode (List.take (List.length x) (List.drop (0 : Nat) x))).fst.a.a0
 (etDecode (List.take (List.length x) (List.drop (0 : Nat) x))).fst.a.a1
 (etDecode (List.take (List.length x) (List.drop (0 : Nat) x))).fst.a.a2
 (etDecode (List.take (List.length x) (List.drop (0 : Nat) x))).fst.a.a3
 (etDecode (List.take (List.length x) (List.drop (0 : Nat) x))).fst.a.a4
 (etDecode (List.take (List.length x) (List.drop (0 : Nat) x))).fst.a.a5)
 (Mc.mk (etDecode (List.take (List.length x) (List.drop (0 : Nat) x))).fst.b.a0
 (etDecode (List.take (List.length x) (List.drop (0 : Nat) x))).fst.b.a1
 (etDecode (List.take (List.length x) (List.drop (0 : Nat) x))).fst.b.a2
 (etDecode (List.take (List.length x) (List.drop (0 : Nat) x))).fst.b.a3
 (etDecode (List.take (List.length x) (List.drop (0 : Nat) x))).fst.b.a4
 (etDecode (List.take (List.length x) (List.drop (0 : Nat) x))).fst.b.a5)
 (etDecode (List.take (List.length x) (List.drop (0 : Nat) x))).fst.ty
 (etDecode (List.take (List.length x) (List.drop (0 : Nat) x))).fst.body)).fst.mac.a1 =
 m1) &&
 (decide
 ((nbRead
 (Fm.mk
 (Mc.mk (etDecode (List.take (List.length x) (List.drop (0 : Nat) x))).fst.a.a0
 (etDecode (List.take (List.length x) (List.drop (0 : Nat) x))).fst.a.a1
 (etDecode (List.take (List.length x) (List.drop (0 : Nat) x))).fst.a.a2
 (etDecode (List.take (List.length x) (List.drop (0 : Nat) x))).fst.a.a3
 (etDecode (List.take (List.length x) (List.drop (0 : Nat) x))).fst.a.a4
 (etDecode (List.take (List.length x) (List.drop (0 : Nat) x))).fst.a.a5)
 (Mc.mk (etDecode (List.take (List.length x) (List.drop (0 : Nat) x))).fst.b.a0
 (etDecode (List.take (List.length x) (List.drop (0 : Nat) x))).fst.b.a1
 (etDecode (List.take (List.length x) (List.drop (0 : Nat) x))).fst.b.a2
 (etDecode (List.take (List.length x) (List.drop (0 : Nat) x))).fst.b.a3
 (etDecode (List.take (List.length x) (List.drop (0 : Nat) x))).fst.b.a4
 (etDecode (List.take (List.length x) (List.drop (0 : Nat) x))).fst.b.a5)
 (etDecode (List.take (List.length x) (List.drop (0 : Nat) x))).fst.ty
 (etDecode (List.take (List.length x) (List.drop (0 : Nat) x))).fst.body)).fst.mac.a2 =
 m2) &&
 (decide
 ((nbRead
 (Fm.mk
 (Mc.mk (etDecode (List.take (List.length x) (List.drop (0 : Nat) x))).fst.a.a0
 (etDecode (List.take (List.length x) (List.drop (0 : Nat) x))).fst.a.a1
 (etDecode (List.take (List.length x) (List.drop (0 : Nat) x))).fst.a.a2
 (etDecode (List.take (List.length x) (List.drop (0 : Nat) x))).fst.a.a3
 (etDecode (List.take (List.length x) (List.drop (0 : Nat) x))).fst.a.a4
 (etDecode (List.take (List.length x) (List.drop (0 : Nat) x))).fst.a.a5)
 (Mc.mk (etDecode (List.take (List.length x) (List.drop (0 : Nat) x))).fst.b.a0
 (etDecode (List.take (List.length x) (List.drop (0 : Nat) x))).fst.b.a1
 (etDecode (List.take (List.length x) (List.drop (0 : Nat) x))).fst.b.a2
 (etDecode (List.take (List.length x) (List.drop (0 : Nat) x))).fst.b.a3
 (etDecode (List.take (List.length x) (List.drop (0 : Nat) x))).fst.b.a4
 (etDecode (List.take (List.length x) (List.drop (0 : Nat) x))).fst.b.a5)
 (etDecode (List.take (List.length x) (List.drop (0 : Nat) x))).fst.ty
 (etDecode
 (List.take (List.length x) (List.drop (0 : Nat) x))).fst.body)).fst.mac.a3 =
 m3) &&
 (decide
 ((nbRead
 (Fm.mk
 (Mc.mk (etDecode (List.take (List.length x) (List.drop (0 : Nat) x))).fst.a.a0
 (etDecode (List.take (List.length x) (List.drop (0 : Nat) x))).fst.a.a1
 (etDecode (List.take (List.length x) (List.drop (0 : Nat) x))).fst.a.a2
 (etDecode (List.take (List.length x) (List.drop (0 : Nat) x))).fst.a.a3
 (etDecode (List.take (List.length x) (List.drop (0 : Nat) x))).fst.a.a4
 (etDecode (List.take (List.length x) (List.drop (0 : Nat) x))).fst.a.a5)
 (Mc.mk (etDecode (List.take (List.length x) (List.drop (0 : Nat) x))).fst.b.a0
 (etDecode (List.take (List.length x) (List.drop (0 : Nat) x))).fst.b.a1
 (etDecode (List.take (List.length x) (List.drop (0 : Nat) x))).fst.b.a2
 (etDecode (List.take (List.length x) (List.drop (0 : Nat) x))).fst.b.a3
 (etDecode (List.take (List.length x) (List.drop (0 : Nat) x))).fst.b.a4
 (etDecode (List.take (List.length x) (List.drop (0 : Nat) x))).fst.b.a5)
 (etDecode (List.take (List.length x) (List.drop (0 : Nat) x))).fst.ty
 (etDecode
 (List.take (List.length x) (List.drop (0 : Nat) x))).fst.body)).fst.mac.a4 =
 m4) &&
 (decide
 ((nbRead
 (Fm.mk
 (Mc.mk (etDecode (List.take (List.length x) (List.drop (0 : Nat) x))).fst.a.a0
 (etDecode (List.take (List.length x) (List.drop (0 : Nat) x))).fst.a.a1
 (etDecode (List.take (List.length x) (List.drop (0 : Nat) x))).fst.a.a2
 (etDecode (List.take (List.length x) (List.drop (0 : Nat) x))).fst.a.a3
 (etDecode (List.take (List.length x) (List.drop (0 : Nat) x))).fst.a.a4
 (etDecode (List.take (List.length x) (List.drop (0 : Nat) x))).fst.a.a5)
 (Mc.mk (etDecode (List.take (List.length x) (List.drop (0 : Nat) x))).fst.b.a0
 (etDecode (List.take (List.length x) (List.drop (0 : Nat) x))).fst.b.a1
 (etDecode (List.take (List.length x) (List.drop (0 : Nat) x))).fst.b.a2
 (etDecode (List.take (List.length x) (List.drop (0 : Nat) x))).fst.b.a3
 (etDecode (List.take (List.length x) (List.drop (0 : Nat) x))).fst.b.a4
 (etDecode (List.take (List.length x) (List.drop (0 : Nat) x))).fst.b.a5)
 (etDecode (List.take (List.length x) (List.drop (0 : Nat) x))).fst.ty
 (etDecode
 (List.take (List.length x) (List.drop (0 : Nat) x))).fst.body)).fst.mac.a5 =
 m5) &&
 (decide
 ((nbRead
 (Fm.mk
 (Mc.mk (etDecode (List.take (List.length x) (List.drop (0 : Nat) x))).fst.a.a0
 (etDecode (List.take (List.length x) (List.drop (0 : Nat) x))).fst.a.a1
 (etDecode (List.take (List.length x) (List.drop (0 : Nat) x))).fst.a.a2
 (etDecode (List.take (List.length x) (List.drop (0 : Nat) x))).fst.a.a3
 (etDecode (List.take (List.length x) (List.drop (0 : Nat) x))).fst.a.a4
 (etDecode (List.take (List.length x) (List.drop (0 : Nat) x))).fst.a.a5)
 (Mc.mk (etDecode (List.take (List.length x) (List.drop (0 : Nat) x))).fst.b.a0
 (etDecode (List.take (List.length x) (List.drop (0 : Nat) x))).fst.b.a1
 (etDecode (List.take (List.length x) (List.drop (0 : Nat) x))).fst.b.a2
 (etDecode (List.take (List.length x) (List.drop (0 : Nat) x))).fst.b.a3
 (etDecode (List.take (List.length x) (List.drop (0 : Nat) x))).fst.b.a4
 (etDecode (List.take (List.length x) (List.drop (0 : Nat) x))).fst.b.a5)
 (etDecode (List.take (List.length x) (List.drop (0 : Nat) x))).fst.ty
 (etDecode
 (List.take (List.length x) (List.drop (0 : Nat) x))).fst.body)).fst.addr =
 a) &&
 (decide
 ((nbRead
 (Fm.mk
 (Mc.mk (etDecode (List.take (List.length x) (List.drop (0 : Nat) x))).fst.a.a0
 (etDecode (List.take (List.length x) (List.drop (0 : Nat) x))).fst.a.a1
 (etDecode (List.take (List.length x) (List.drop (0 : Nat) x))).fst.a.a2
 (etDecode (List.take (List.length x) (List.drop (0 : Nat) x))).fst.a.a3
 (etDecode (List.take (List.length x) (List.drop (0 : Nat) x))).fst.a.a4
 (etDecode (List.take (List.length x) (List.drop (0 : Nat) x))).fst.a.a5)
 (Mc.mk (etDecode (List.take (List.length x) (List.drop (0 : Nat) x))).fst.b.a0
 (etDecode (List.take (List.length x) (List.drop (0 : Nat) x))).fst.b.a1
 (etDecode (List.take (List.length x) (List.drop (0 : Nat) x))).fst.b.a2
 (etDecode (List.take (List.length x) (List.drop (0 : Nat) x))).fst.b.a3
 (etDecode (List.take (List.length x) (List.drop (0 : Nat) x))).fst.b.a4
 (etDecode (List.take (List.length x) (List.drop (0 : Nat) x))).fst.b.a5)
 (etDecode (List.take (List.length x) (List.drop (0 : Nat) x))).fst.ty
 (etDecode
 (List.take (List.length x) (List.drop (0 : Nat) x))).fst.body)).fst.target =
 b) &&
 decide
 ((nbRead
 (Fm.mk
 (Mc.mk (etDecode (List.take (List.length x) (List.drop (0 : Nat) x))).fst.a.a0
 (etDecode (List.take (List.length x) (List.drop (0 : Nat) x))).fst.a.a1
 (etDecode (List.take (List.length x) (List.drop (0 : Nat) x))).fst.a.a2
 (etDecode (List.take (List.length x) (List.drop (0 : Nat) x))).fst.a.a3
 (etDecode (List.take (List.length x) (List.drop (0 : Nat) x))).fst.a.a4
 (etDecode (List.take (List.length x) (List.drop (0 : Nat) x))).fst.a.a5)
 (Mc.mk (etDecode (List.take (List.length x) (List.drop (0 : Nat) x))).fst.b.a0
 (etDecode (List.take (List.length x) (List.drop (0 : Nat) x))).fst.b.a1
 (etDecode (List.take (List.length x) (List.drop (0 : Nat) x))).fst.b.a2
 (etDecode (List.take (List.length x) (List.drop (0 : Nat) x))).fst.b.a3
 (etDecode (List.take (List.length x) (List.drop (0 : Nat) x))).fst.b.a4
 (etDecode (List.take (List.length x) (List.drop (0 : Nat) x))).fst.b.a5)
 (etDecode (List.take (List.length x) (List.drop (0 : Nat) x))).fst.ty
 (etDecode
 (List.take (List.length x) (List.drop (0 : Nat) x))).fst.body)).fst.asked =
 false))))))))))
 (((0 : Int) ≤ (0 : Int) ∧ (0 : Int) < (2 : Int)) ∧
 ((0 : Int) ≤ (1 : Int) ∧ (1 : Int) < (2 : Int)) ∧
 brP
 (decide
 ((nbRead
 (Fm.mk
 (Mc.mk (etDecode (List.take (List.length x_1) (List.drop (0 : Nat) x_1))).fst.a.a0
 (etDecode (List.take (List.length x_1) (List.drop (0 : Nat) x_1))).fst.a.a1
 (etDecode (List.take (List.length x_1) (List.drop (0 : Nat) x_1))).fst.a.a2
 (etDecode (List.take (List.length x_1) (List.drop (0 : Nat) x_1))).fst.a.a3
 (etDecode (List.take (List.length x_1) (List.drop (0 : Nat) x_1))).fst.a.a4
 (etDecode (List.take (List.length x_1) (List.drop (0 : Nat) x_1))).fst.a.a5)
 (Mc.mk (etDecode (List.take (List.length x_1) (List.drop (0 : Nat) x_1))).fst.b.a0
 (etDecode (List.take (List.length x_1) (List.drop (0 : Nat) x_1))).fst.b.a1
 (etDecode (List.take (List.length x_1) (List.drop (0 : Nat) x_1))).fst.b.a2
 (etDecode (List.take (List.length x_1) (List.drop (0 : Nat) x_1))).fst.b.a3
 (etDecode (List.take (List.length x_1) (List.drop (0 : Nat) x_1))).fst.b.a4
 (etDecode (List.take (List.length x_1) (List.drop (0 : Nat) x_1))).fst.b.a5)
 (etDecode (List.take (List.length x_1) (List.drop (0 : Nat) x_1))).fst.ty
 (etDecode
 (List.take (List.length x_1) (List.drop (0 : Nat) x_1))).fst.body)).fst.kind =
 (2 : Int)) &&
 (decide
 ((nbRead
 (Fm.mk
 (Mc.mk (etDecode (List.take (List.length x_1) (List.drop (0 : Nat) x_1))).fst.a.a0
 (etDecode (List.take (List.length x_1) (List.drop (0 : Nat) x_1))).fst.a.a1
 (etDecode (List.take (List.length x_1) (List.drop (0 : Nat) x_1))).fst.a.a2
 (etDecode (List.take (List.length x_1) (List.drop (0 : Nat) x_1))).fst.a.a3
 (etDecode (List.take (List.length x_1) (List.drop (0 : Nat) x_1))).fst.a.a4
 (etDecode (List.take (List.length x_1) (List.drop (0 : Nat) x_1))).fst.a.a5)
 (Mc.mk (etDecode (List.take (List.length x_1) (List.drop (0 : Nat) x_1))).fst.b.a0
 (etDecode (List.take (List.length x_1) (List.drop (0 : Nat) x_1))).fst.b.a1
 (etDecode (List.take (List.length x_1) (List.drop (0 : Nat) x_1))).fst.b.a2
 (etDecode (List.take (List.length x_1) (List.drop (0 : Nat) x_1))).fst.b.a3
 (etDecode (List.take (List.length x_1) (List.drop (0 : Nat) x_1))).fst.b.a4
 (etDecode (List.take (List.length x_1) (List.drop (0 : Nat) x_1))).fst.b.a5)
 (etDecode (List.take (List.length x_1) (List.drop (0 : Nat) x_1))).fst.ty
 (etDecode
 (List.take (List.length x_1) (List.drop (0 : Nat) x_1))).fst.body)).fst.mac.a0 =
 m0) &&
 (decide
 ((nbRead
 (Fm.mk
 (Mc.mk (etDecode (List.take (List.length x_1) (List.drop (0 : Nat) x_1))).fst.a.a0
 (etDecode (List.take (List.length x_1) (List.drop (0 : Nat) x_1))).fst.a.a1
 (etDecode (List.take (List.length x_1) (List.drop (0 : Nat) x_1))).fst.a.a2
 (etDecode (List.take (List.length x_1) (List.drop (0 : Nat) x_1))).fst.a.a3
 (etDecode (List.take (List.length x_1) (List.drop (0 : Nat) x_1))).fst.a.a4
 (etDecode (List.take (List.length x_1) (List.drop (0 : Nat) x_1))).fst.a.a5)
 (Mc.mk (etDecode (List.take (List.length x_1) (List.drop (0 : Nat) x_1))).fst.b.a0
 (etDecode (List.take (List.length x_1) (List.drop (0 : Nat) x_1))).fst.b.a1
 (etDecode (List.take (List.length x_1) (List.drop (0 : Nat) x_1))).fst.b.a2
 (etDecode (List.take (List.length x_1) (List.drop (0 : Nat) x_1))).fst.b.a3
 (etDecode (List.take (List.length x_1) (List.drop (0 : Nat) x_1))).fst.b.a4
 (etDecode (List.take (List.length x_1) (List.drop (0 : Nat) x_1))).fst.b.a5)
 (etDecode (List.take (List.length x_1) (List.drop (0 : Nat) x_1))).fst.ty
 (etDecode
 (List.take (List.length x_1) (List.drop (0 : Nat) x_1))).fst.body)).fst.mac.a1 =
 m1) &&
 (decide
 ((nbRead
 (Fm.mk
 (Mc.mk (etDecode (List.take (List.length x_1) (List.drop (0 : Nat) x_1))).fst.a.a0
 (etDecode (List.take (List.length x_1) (List.drop (0 : Nat) x_1))).fst.a.a1
 (etDecode (List.take (List.length x_1) (List.drop (0 : Nat) x_1))).fst.a.a2
 (etDecode (List.take (List.length x_1) (List.drop (0 : Nat) x_1))).fst.a.a3
 (etDecode (List.take (List.length x_1) (List.drop (0 : Nat) x_1))).fst.a.a4
 (etDecode (List.take (List.length x_1) (List.drop (0 : Nat) x_1))).fst.a.a5)
 (Mc.mk (etDecode (List.take (List.length x_1) (List.drop (0 : Nat) x_1))).fst.b.a0
 (etDecode (List.take (List.length x_1) (List.drop (0 : Nat) x_1))).fst.b.a1
 (etDecode (List.take (List.length x_1) (List.drop (0 : Nat) x_1))).fst.b.a2
 (etDecode (List.take (List.length x_1) (List.drop (0 : Nat) x_1))).fst.b.a3
 (etDecode (List.take (List.length x_1) (List.drop (0 : Nat) x_1))).fst.b.a4
 (etDecode (List.take (List.length x_1) (List.drop (0 : Nat) x_1))).fst.b.a5)
 (etDecode (List.take (List.length x_1) (List.drop (0 : Nat) x_1))).fst.ty
 (etDecode
 (List.take (List.length x_1) (List.drop (0 : Nat) x_1))).fst.body)).fst.mac.a2 =
 m2) &&
 (decide
 ((nbRead
 (Fm.mk
 (Mc.mk (etDecode (List.take (List.length x_1) (List.drop (0 : Nat) x_1))).fst.a.a0
 (etDecode (List.take (List.length x_1) (List.drop (0 : Nat) x_1))).fst.a.a1
 (etDecode (List.take (List.length x_1) (List.drop (0 : Nat) x_1))).fst.a.a2
 (etDecode (List.take (List.length x_1) (List.drop (0 : Nat) x_1))).fst.a.a3
 (etDecode (List.take (List.length x_1) (List.drop (0 : Nat) x_1))).fst.a.a4
 (etDecode (List.take (List.length x_1) (List.drop (0 : Nat) x_1))).fst.a.a5)
 (Mc.mk (etDecode (List.take (List.length x_1) (List.drop (0 : Nat) x_1))).fst.b.a0
 (etDecode (List.take (List.length x_1) (List.drop (0 : Nat) x_1))).fst.b.a1
 (etDecode (List.take (List.length x_1) (List.drop (0 : Nat) x_1))).fst.b.a2
 (etDecode (List.take (List.length x_1) (List.drop (0 : Nat) x_1))).fst.b.a3
 (etDecode (List.take (List.length x_1) (List.drop (0 : Nat) x_1))).fst.b.a4
 (etDecode (List.take (List.length x_1) (List.drop (0 : Nat) x_1))).fst.b.a5)
 (etDecode (List.take (List.length x_1) (List.drop (0 : Nat) x_1))).fst.ty
 (etDecode
 (List.take (List.length x_1)
 (List.drop (0 : Nat) x_1))).fst.body)).fst.mac.a3 =
 m3) &&
 (decide
 ((nbRead
 (Fm.mk
 (Mc.mk
 (etDecode (List.take (List.length x_1) (List.drop (0 : Nat) x_1))).fst.a.a0
 (etDecode (List.take (List.length x_1) (List.drop (0 : Nat) x_1))).fst.a.a1
 (etDecode (List.take (List.length x_1) (List.drop (0 : Nat) x_1))).fst.a.a2
 (etDecode (List.take (List.length x_1) (List.drop (0 : Nat) x_1))).fst.a.a3
 (etDecode (List.take (List.length x_1) (List.drop (0 : Nat) x_1))).fst.a.a4
 (etDecode (List.take (List.length x_1) (List.drop (0 : Nat) x_1))).fst.a.a5)
 (Mc.mk
 (etDecode (List.take (List.length x_1) (List.drop (0 : Nat) x_1))).fst.b.a0
 (etDecode (List.take (List.length x_1) (List.drop (0 : Nat) x_1))).fst.b.a1
 (etDecode (List.take (List.length x_1) (List.drop (0 : Nat) x_1))).fst.b.a2
 (etDecode (List.take (List.length x_1) (List.drop (0 : Nat) x_1))).fst.b.a3
 (etDecode (List.take (List.length x_1) (List.drop (0 : Nat) x_1))).fst.b.a4
 (etDecode (List.take (List.length x_1) (List.drop (0 : Nat) x_1))).fst.b.a5)
 (etDecode (List.take (List.length x_1) (List.drop (0 : Nat) x_1))).fst.ty
 (etDecode
 (List.take (List.length x_1)
 (List.drop (0 : Nat) x_1))).fst.body)).fst.mac.a4 =
 m4) &&
 (decide
 ((nbRead
 (Fm.mk
 (Mc.mk
 (etDecode (List.take (List.length x_1) (List.drop (0 : Nat) x_1))).fst.a.a0
 (etDecode (List.take (List.length x_1) (List.drop (0 : Nat) x_1))).fst.a.a1
 (etDecode (List.take (List.length x_1) (List.drop (0 : Nat) x_1))).fst.a.a2
 (etDecode (List.take (List.length x_1) (List.drop (0 : Nat) x_1))).fst.a.a3
 (etDecode (List.take (List.length x_1) (List.drop (0 : Nat) x_1))).fst.a.a4
 (etDecode (List.take (List.length x_1) (List.drop (0 : Nat) x_1))).fst.a.a5)
 (Mc.mk
 (etDecode (List.take (List.length x_1) (List.drop (0 : Nat) x_1))).fst.b.a0
 (etDecode (List.take (List.length x_1) (List.drop (0 : Nat) x_1))).fst.b.a1
 (etDecode (List.take (List.length x_1) (List.drop (0 : Nat) x_1))).fst.b.a2
 (etDecode (List.take (List.length x_1) (List.drop (0 : Nat) x_1))).fst.b.a3
 (etDecode (List.take (List.length x_1) (List.drop (0 : Nat) x_1))).fst.b.a4
 (etDecode (List.take (List.length x_1) (List.drop (0 : Nat) x_1))).fst.b.a5)
 (etDecode (List.take (List.length x_1) (List.drop (0 : Nat) x_1))).fst.ty
 (etDecode
 (List.take (List.length x_1)
 (List.drop (0 : Nat) x_1))).fst.body)).fst.mac.a5 =
 m5) &&
 (decide
 ((nbRead
 (Fm.mk
 (Mc.mk
 (etDecode (List.take (List.length x_1) (List.drop (0 : Nat) x_1))).fst.a.a0
 (etDecode (List.take (List.length x_1) (List.drop (0 : Nat) x_1))).fst.a.a1
 (etDecode (List.take (List.length x_1) (List.drop (0 : Nat) x_1))).fst.a.a2
 (etDecode (List.take (List.length x_1) (List.drop (0 : Nat) x_1))).fst.a.a3
 (etDecode (List.take (List.length x_1) (List.drop (0 : Nat) x_1))).fst.a.a4
 (etDecode (List.take (List.length x_1) (List.drop (0 : Nat) x_1))).fst.a.a5)
 (Mc.mk
 (etDecode (List.take (List.length x_1) (List.drop (0 : Nat) x_1))).fst.b.a0
 (etDecode (List.take (List.length x_1) (List.drop (0 : Nat) x_1))).fst.b.a1
 (etDecode (List.take (List.length x_1) (List.drop (0 : Nat) x_1))).fst.b.a2
 (etDecode (List.take (List.length x_1) (List.drop (0 : Nat) x_1))).fst.b.a3
 (etDecode (List.take (List.length x_1) (List.drop (0 : Nat) x_1))).fst.b.a4
 (etDecode (List.take (List.length x_1) (List.drop (0 : Nat) x_1))).fst.b.a5)
 (etDecode (List.take (List.length x_1) (List.drop (0 : Nat) x_1))).fst.ty
 (etDecode
 (List.take (List.length x_1)
 (List.drop (0 : Nat) x_1))).fst.body)).fst.addr =
 a) &&
 (decide
 ((nbRead
 (Fm.mk
 (Mc.mk
 (etDecode (List.take (List.length x_1) (List.drop (0 : Nat) x_1))).fst.a.a0
 (etDecode (List.take (List.length x_1) (List.drop (0 : Nat) x_1))).fst.a.a1
 (etDecode (List.take (List.length x_1) (List.drop (0 : Nat) x_1))).fst.a.a2
 (etDecode (List.take (List.length x_1) (List.drop (0 : Nat) x_1))).fst.a.a3
 (etDecode (List.take (List.length x_1) (List.drop (0 : Nat) x_1))).fst.a.a4
 (etDecode (List.take (List.length x_1) (List.drop (0 : Nat) x_1))).fst.a.a5)
 (Mc.mk
 (etDecode (List.take (List.length x_1) (List.drop (0 : Nat) x_1))).fst.b.a0
 (etDecode (List.take (List.length x_1) (List.drop (0 : Nat) x_1))).fst.b.a1
 (etDecode (List.take (List.length x_1) (List.drop (0 : Nat) x_1))).fst.b.a2
 (etDecode (List.take (List.length x_1) (List.drop (0 : Nat) x_1))).fst.b.a3
 (etDecode (List.take (List.length x_1) (List.drop (0 : Nat) x_1))).fst.b.a4
 (etDecode (List.take (List.length x_1) (List.drop (0 : Nat) x_1))).fst.b.a5)
 (etDecode (List.take (List.length x_1) (List.drop (0 : Nat) x_1))).fst.ty
 (etDecode
 (List.take (List.length x_1)
 (List.drop (0 : Nat) x_1))).fst.body)).fst.target =
 b) &&
 decide
 ((nbRead
 (Fm.mk
 (Mc.mk
 (etDecode (List.take (List.length x_1) (List.drop (0 : Nat) x_1))).fst.a.a0
 (etDecode (List.take (List.length x_1) (List.drop (0 : Nat) x_1))).fst.a.a1
 (etDecode (List.take (List.length x_1) (List.drop (0 : Nat) x_1))).fst.a.a2
 (etDecode (List.take (List.length x_1) (List.drop (0 : Nat) x_1))).fst.a.a3
 (etDecode (List.take (List.length x_1) (List.drop (0 : Nat) x_1))).fst.a.a4
 (etDecode (List.take (List.length x_1) (List.drop (0 : Nat) x_1))).fst.a.a5)
 (Mc.mk
 (etDecode (List.take (List.length x_1) (List.drop (0 : Nat) x_1))).fst.b.a0
 (etDecode (List.take (List.length x_1) (List.drop (0 : Nat) x_1))).fst.b.a1
 (etDecode (List.take (List.length x_1) (List.drop (0 : Nat) x_1))).fst.b.a2
 (etDecode (List.take (List.length x_1) (List.drop (0 : Nat) x_1))).fst.b.a3
 (etDecode (List.take (List.length x_1) (List.drop (0 : Nat) x_1))).fst.b.a4
 (etDecode (List.take (List.length x_1) (List.drop (0 : Nat) x_1))).fst.b.a5)
 (etDecode (List.take (List.length x_1) (List.drop (0 : Nat) x_1))).fst.ty
 (etDecode
 (List.take (List.length x_1)
 (List.drop (0 : Nat) x_1))).fst.body)).fst.asked =
 true))))))))))
 (brP
 (decide ((0 : UInt8) = m0) &&
 (decide ((0 : UInt8) = m1) &&
 (decide ((0 : UInt8) = m2) &&
 (decide ((0 : UInt8) = m3) && (decide ((0 : UInt8) = m4) && decide ((0 : UInt8) = m5))))))
 (((0 : Int) ≤ (0 : Int) ∧ (0 : Int) < (2 : Int)) ∧
 brP (decide ([] = a))
 (brP (decide (false = decide ((↑(List.length a) : Int) = (16 : Int))))
 (brP (decide ((↑(List.length a) : Int) = (16 : Int))) (K (AVal.bool true) [])
 (((0 : Int) ≤ (0 : Int) ∧ (0 : Int) < (2 : Int)) ∧ K (AVal.bool (decide ([] = a))) []))
 (K (AVal.bool false) []))
 (K (AVal.bool false) []))
 (K (AVal.bool false) []))
 (K (AVal.bool false) []))
 (K (AVal.bool false) []))))
 (List.length (List.take (List.length x_1) (List.drop (0 : Nat) x_1)) ≤ (140737488355328 : Nat) ∧
 List.length (etDecode (List.take (List.length x_1) (List.drop (0 : Nat) x_1))).fst.body ≤
 (140737488351232 : Nat) ∧
 brP (decide ((etDecode (List.take (List.length x_1) (List.drop (0 : Nat) x_1))).snd = (0 : Int)))
 ((0 : Nat) ≤ (140737488351232 : Nat) ∧ K (AVal.bool false) [])
 ((0 : Nat) ≤ (140737488351232 : Nat) ∧ K (AVal.bool false) []))))
 (((0 : Int) ≤ (0 : Int) ∧ (0 : Int) < (2 : Int)) ∧
 optP (nbClaim (Mc.mk m0 m1 m2 m3 m4 m5) a)
 (fun x_1 =>
 List.length (List.take (List.length x) (List.drop (0 : Nat) x)) ≤ (140737488355328 : Nat) ∧
 List.length (etDecode (List.take (List.length x) (List.drop (0 : Nat) x))).fst.body ≤
 (140737488351232 : Nat) ∧
 brP (decide ((etDecode (List.take (List.length x) (List.drop (0 : Nat) x))).snd = (0 : Int)))
 ((0 : Nat) ≤ (140737488351232 : Nat) ∧
 List.length (List.take (List.length x_1) (List.drop (0 : Nat) x_1)) ≤ (140737488355328 : Nat) ∧
 List.length (etDecode (List.take (List.length x_1) (List.drop (0 : Nat) x_1))).fst.body ≤
 (140737488351232 : Nat) ∧
 brP (decide ((etDecode (List.take (List.length x_1) (List.drop (0 : Nat) x_1))).snd = (0 : Int)))
 (brP
 (!decide
 ((nbRead
 (Fm.mk
 (Mc.mk (etDecode (List.take (List.length x) (List.drop (0 : Nat) x))).fst.a.a0
 (etDecode (List.take (List.length x) (List.drop (0 : Nat) x))).fst.a.a1
 (etDecode (List.take (List.length x) (List.drop (0 : Nat) x))).fst.a.a2
 (etDecode (List.take (List.length x) (List.drop (0 : Nat) x))).fst.a.a3
 (etDecode (List.take (List.length x) (List.drop (0 : Nat) x))).fst.a.a4
 (etDecode (List.take (List.length x) (List.drop (0 : Nat) x))).fst.a.a5)
 (Mc.mk (etDecode (List.take (List.length x) (List.drop (0 : Nat) x))).fst.b.a0
 (etDecode (List.take (List.length x) (List.drop (0 : Nat) x))).fst.b.a1
 (etDecode (List.take (List.length x) (List.drop (0 : Nat) x))).fst.b.a2
 (etDecode (List.take (List.length x) (List.drop (0 : Nat) x))).fst.b.a3
 (etDecode (List.take (List.length x) (List.drop (0 : Nat) x))).fst.b.a4
 (etDecode (List.take (List.length x) (List.drop (0 : Nat) x))).fst.b.a5)
 (etDecode (List.take (List.length x) (List.drop (0 : Nat) x))).fst.ty
 (etDecode (List.take (List.length x) (List.drop (0 : Nat) x))).fst.body)).snd =
 (0 : Int)) ||
 true ||
 !decide
 ((nbRead
 (Fm.mk
 (Mc.mk (etDecode (List.take (List.length x_1) (List.drop (0 : Nat) x_1))).fst.a.a0
 (etDecode (List.take (List.length x_1) (List.drop (0 : Nat) x_1))).fst.a.a1
 (etDecode (List.take (List.length x_1) (List.drop (0 : Nat) x_1))).fst.a.a2
 (etDecode (List.take (List.length x_1) (List.drop (0 : Nat) x_1))).fst.a.a3
 (etDecode (List.take (List.length x_1) (List.drop (0 : Nat) x_1))).fst.a.a4
 (etDecode (List.take (List.length x_1) (List.drop (0 : Nat) x_1))).fst.a.a5)
 (Mc.mk (etDecode (List.take (List.length x_1) (List.drop (0 : Nat) x_1))).fst.b.a0
 (etDecode (List.take (List.length x_1) (List.drop (0 : Nat) x_1))).fst.b.a1
 (etDecode (List.take (List.length x_1) (List.drop (0 : Nat) x_1))).fst.b.a2
 (etDecode (List.take (List.length x_1) (List.drop (0 : Nat) x_1))).fst.b.a3
 (etDecode (List.take (List.length x_1) (List.drop (0 : Nat) x_1))).fst.b.a4
 (etDecode (List.take (List.length x_1) (List.drop (0 : Nat) x_1))).fst.b.a5)
 (etDecode (List.take (List.length x_1) (List.drop (0 : Nat) x_1))).fst.ty
 (etDecode (List.take (List.length x_1) (List.drop (0 : Nat) x_1))).fst.body)).snd =
 (0 : Int)))
 (K (AVal.bool false) [])
 (((0 : Int) ≤ (0 : Int) ∧ (0 : Int) < (2 : Int)) ∧
 ((0 : Int) ≤ (0 : Int) ∧ (0 : Int) < (2 : Int)) ∧
 ((0 : Int) ≤ (1 : Int) ∧ (1 : Int) < (2 : Int)) ∧
 brP
 (decide
 ((nbRead
 (Fm.mk
 (Mc.mk (etDecode (List.take (List.length x) (List.drop (0 : Nat) x))).fst.a.a0
 (etDecode (List.take (List.length x) (List.drop (0 : Nat) x))).fst.a.a1
 (etDecode (List.take (List.length x) (List.drop (0 : Nat) x))).fst.a.a2
 (etDecode (List.take (List.length x) (List.drop (0 : Nat) x))).fst.a.a3
 (etDecode (List.take (List.length x) (List.drop (0 : Nat) x))).fst.a.a4
 (etDecode (List.take (List.length x) (List.drop (0 : Nat) x))).fst.a.a5)
 (Mc.mk (etDecode (List.take (List.length x) (List.drop (0 : Nat) x))).fst.b.a0
 (etDecode (List.take (List.length x) (List.drop (0 : Nat) x))).fst.b.a1
 (etDecode (List.take (List.length x) (List.drop (0 : Nat) x))).fst.b.a2
 (etDecode (List.take (List.length x) (List.drop (0 : Nat) x))).fst.b.a3
 (etDecode (List.take (List.length x) (List.drop (0 : Nat) x))).fst.b.a4
 (etDecode (List.take (List.length x) (List.drop (0 : Nat) x))).fst.b.a5)
 (etDecode (List.take (List.length x) (List.drop (0 : Nat) x))).fst.ty
 (etDecode (List.take (List.length x) (List.drop (0 : Nat) x))).fst.body)).fst.kind =
 (1 : Int)) &&
 (decide
 ((nbRead
 (Fm.mk
 (Mc.mk (etDecode (List.take (List.length x) (List.drop (0 : Nat) x))).fst.a.a0
 (etDecode (List.take (List.length x) (List.drop (0 : Nat) x))).fst.a.a1
 (etDecode (List.take (List.length x) (List.drop (0 : Nat) x))).fst.a.a2
 (etDecode (List.take (List.length x) (List.drop (0 : Nat) x))).fst.a.a3
 (etDecode (List.take (List.length x) (List.drop (0 : Nat) x))).fst.a.a4
 (etDecode (List.take (List.length x) (List.drop (0 : Nat) x))).fst.a.a5)
 (Mc.mk (etDecode (List.take (List.length x) (List.drop (0 : Nat) x))).fst.b.a0
 (etDecode (List.take (List.length x) (List.drop (0 : Nat) x))).fst.b.a1
 (etDecode (List.take (List.length x) (List.drop (0 : Nat) x))).fst.b.a2
 (etDecode (List.take (List.length x) (List.drop (0 : Nat) x))).fst.b.a3
 (etDecode (List.take (List.length x) (List.drop (0 : Nat) x))).fst.b.a4
 (etDecode (List.take (List.length x) (List.drop (0 : Nat) x))).fst.b.a5)
 (etDecode (List.take (List.length x) (List.drop (0 : Nat) x))).fst.ty
 (etDecode (List.take (List.length x) (List.drop (0 : Nat) x))).fst.body)).fst.mac.a0 =
 m0) &&
 (decide
 ((nbRead
 (Fm.mk
 (Mc.mk (etDecode (List.take (List.length x) (List.drop (0 : Nat) x))).fst.a.a0
 (etDecode (List.take (List.length x) (List.drop (0 : Nat) x))).fst.a.a1
 (etDecode (List.take (List.length x) (List.drop (0 : Nat) x))).fst.a.a2
 (etDecode (List.take (List.length x) (List.drop (0 : Nat) x))).fst.a.a3
 (etDecode (List.take (List.length x) (List.drop (0 : Nat) x))).fst.a.a4
 (etDecode (List.take (List.length x) (List.drop (0 : Nat) x))).fst.a.a5)
 (Mc.mk (etDecode (List.take (List.length x) (List.drop (0 : Nat) x))).fst.b.a0
 (etDecode (List.take (List.length x) (List.drop (0 : Nat) x))).fst.b.a1
 (etDecode (List.take (List.length x) (List.drop (0 : Nat) x))).fst.b.a2
 (etDecode (List.take (List.length x) (List.drop (0 : Nat) x))).fst.b.a3
 (etDecode (List.take (List.length x) (List.drop (0 : Nat) x))).fst.b.a4
 (etDecode (List.take (List.length x) (List.drop (0 : Nat) x))).fst.b.a5)
 (etDecode (List.take (List.length x) (List.drop (0 : Nat) x))).fst.ty
 (etDecode (List.take (List.length x) (List.drop (0 : Nat) x))).fst.body)).fst.mac.a1 =
 m1) &&
 (decide
 ((nbRead
 (Fm.mk
 (Mc.mk (etDecode (List.take (List.length x) (List.drop (0 : Nat) x))).fst.a.a0
 (etDecode (List.take (List.length x) (List.drop (0 : Nat) x))).fst.a.a1
 (etDecode (List.take (List.length x) (List.drop (0 : Nat) x))).fst.a.a2
 (etDecode (List.take (List.length x) (List.drop (0 : Nat) x))).fst.a.a3
 (etDecode (List.take (List.length x) (List.drop (0 : Nat) x))).fst.a.a4
 (etDecode (List.take (List.length x) (List.drop (0 : Nat) x))).fst.a.a5)
 (Mc.mk (etDecode (List.take (List.length x) (List.drop (0 : Nat) x))).fst.b.a0
 (etDecode (List.take (List.length x) (List.drop (0 : Nat) x))).fst.b.a1
 (etDecode (List.take (List.length x) (List.drop (0 : Nat) x))).fst.b.a2
 (etDecode (List.take (List.length x) (List.drop (0 : Nat) x))).fst.b.a3
 (etDecode (List.take (List.length x) (List.drop (0 : Nat) x))).fst.b.a4
 (etDecode (List.take (List.length x) (List.drop (0 : Nat) x))).fst.b.a5)
 (etDecode (List.take (List.length x) (List.drop (0 : Nat) x))).fst.ty
 (etDecode (List.take (List.length x) (List.drop (0 : Nat) x))).fst.body)).fst.mac.a2 =
 m2) &&
 (decide
 ((nbRead
 (Fm.mk
 (Mc.mk (etDecode (List.take (List.length x) (List.drop (0 : Nat) x))).fst.a.a0
 (etDecode (List.take (List.length x) (List.drop (0 : Nat) x))).fst.a.a1
 (etDecode (List.take (List.length x) (List.drop (0 : Nat) x))).fst.a.a2
 (etDecode (List.take (List.length x) (List.drop (0 : Nat) x))).fst.a.a3
 (etDecode (List.take (List.length x) (List.drop (0 : Nat) x))).fst.a.a4
 (etDecode (List.take (List.length x) (List.drop (0 : Nat) x))).fst.a.a5)
 (Mc.mk (etDecode (List.take (List.length x) (List.drop (0 : Nat) x))).fst.b.a0
 (etDecode (List.take (List.length x) (List.drop (0 : Nat) x))).fst.b.a1
 (etDecode (List.take (List.length x) (List.drop (0 : Nat) x))).fst.b.a2
 (etDecode (List.take (List.length x) (List.drop (0 : Nat) x))).fst.b.a3
 (etDecode (List.take (List.length x) (List.drop (0 : Nat) x))).fst.b.a4
 (etDecode (List.take (List.length x) (List.drop (0 : Nat) x))).fst.b.a5)
 (etDecode (List.take (List.length x) (List.drop (0 : Nat) x))).fst.ty
 (etDecode
 (List.take (List.length x) (List.drop (0 : Nat) x))).fst.body)).fst.mac.a3 =
 m3) &&
 (decide
 ((nbRead
 (Fm.mk
 (Mc.mk (etDecode (List.take (List.length x) (List.drop (0 : Nat) x))).fst.a.a0
 (etDecode (List.take (List.length x) (List.drop (0 : Nat) x))).fst.a.a1
 (etDecode (List.take (List.length x) (List.drop (0 : Nat) x))).fst.a.a2
 (etDecode (List.take (List.length x) (List.drop (0 : Nat) x))).fst.a.a3
 (etDecode (List.take (List.length x) (List.drop (0 : Nat) x))).fst.a.a4
 (etDecode (List.take (List.length x) (List.drop (0 : Nat) x))).fst.a.a5)
 (Mc.mk (etDecode (List.take (List.length x) (List.drop (0 : Nat) x))).fst.b.a0
 (etDecode (List.take (List.length x) (List.drop (0 : Nat) x))).fst.b.a1
 (etDecode (List.take (List.length x) (List.drop (0 : Nat) x))).fst.b.a2
 (etDecode (List.take (List.length x) (List.drop (0 : Nat) x))).fst.b.a3
 (etDecode (List.take (List.length x) (List.drop (0 : Nat) x))).fst.b.a4
 (etDecode (List.take (List.length x) (List.drop (0 : Nat) x))).fst.b.a5)
 (etDecode (List.take (List.length x) (List.drop (0 : Nat) x))).fst.ty
 (etDecode
 (List.take (List.length x) (List.drop (0 : Nat) x))).fst.body)).fst.mac.a4 =
 m4) &&
 (decide
 ((nbRead
 (Fm.mk
 (Mc.mk (etDecode (List.take (List.length x) (List.drop (0 : Nat) x))).fst.a.a0
 (etDecode (List.take (List.length x) (List.drop (0 : Nat) x))).fst.a.a1
 (etDecode (List.take (List.length x) (List.drop (0 : Nat) x))).fst.a.a2
 (etDecode (List.take (List.length x) (List.drop (0 : Nat) x))).fst.a.a3
 (etDecode (List.take (List.length x) (List.drop (0 : Nat) x))).fst.a.a4
 (etDecode (List.take (List.length x) (List.drop (0 : Nat) x))).fst.a.a5)
 (Mc.mk (etDecode (List.take (List.length x) (List.drop (0 : Nat) x))).fst.b.a0
 (etDecode (List.take (List.length x) (List.drop (0 : Nat) x))).fst.b.a1
 (etDecode (List.take (List.length x) (List.drop (0 : Nat) x))).fst.b.a2
 (etDecode (List.take (List.length x) (List.drop (0 : Nat) x))).fst.b.a3
 (etDecode (List.take (List.length x) (List.drop (0 : Nat) x))).fst.b.a4
 (etDecode (List.take (List.length x) (List.drop (0 : Nat) x))).fst.b.a5)
 (etDecode (List.take (List.length x) (List.drop (0 : Nat) x))).fst.ty
 (etDecode
 (List.take (List.length x) (List.drop (0 : Nat) x))).fst.body)).fst.mac.a5 =
 m5) &&
 (decide
 ((nbRead
 (Fm.mk
 (Mc.mk (etDecode (List.take (List.length x) (List.drop (0 : Nat) x))).fst.a.a0
 (etDecode (List.take (List.length x) (List.drop (0 : Nat) x))).fst.a.a1
 (etDecode (List.take (List.length x) (List.drop (0 : Nat) x))).fst.a.a2
 (etDecode (List.take (List.length x) (List.drop (0 : Nat) x))).fst.a.a3
 (etDecode (List.take (List.length x) (List.drop (0 : Nat) x))).fst.a.a4
 (etDecode (List.take (List.length x) (List.drop (0 : Nat) x))).fst.a.a5)
 (Mc.mk (etDecode (List.take (List.length x) (List.drop (0 : Nat) x))).fst.b.a0
 (etDecode (List.take (List.length x) (List.drop (0 : Nat) x))).fst.b.a1
 (etDecode (List.take (List.length x) (List.drop (0 : Nat) x))).fst.b.a2
 (etDecode (List.take (List.length x) (List.drop (0 : Nat) x))).fst.b.a3
 (etDecode (List.take (List.length x) (List.drop (0 : Nat) x))).fst.b.a4
 (etDecode (List.take (List.length x) (List.drop (0 : Nat) x))).fst.b.a5)
 (etDecode (List.take (List.length x) (List.drop (0 : Nat) x))).fst.ty
 (etDecode
 (List.take (List.length x) (List.drop (0 : Nat) x))).fst.body)).fst.addr =
 a) &&
 (decide
 ((nbRead
 (Fm.mk
 (Mc.mk (etDecode (List.take (List.length x) (List.drop (0 : Nat) x))).fst.a.a0
 (etDecode (List.take (List.length x) (List.drop (0 : Nat) x))).fst.a.a1
 (etDecode (List.take (List.length x) (List.drop (0 : Nat) x))).fst.a.a2
 (etDecode (List.take (List.length x) (List.drop (0 : Nat) x))).fst.a.a3
 (etDecode (List.take (List.length x) (List.drop (0 : Nat) x))).fst.a.a4
 (etDecode (List.take (List.length x) (List.drop (0 : Nat) x))).fst.a.a5)
 (Mc.mk (etDecode (List.take (List.length x) (List.drop (0 : Nat) x))).fst.b.a0
 (etDecode (List.take (List.length x) (List.drop (0 : Nat) x))).fst.b.a1
 (etDecode (List.take (List.length x) (List.drop (0 : Nat) x))).fst.b.a2
 (etDecode (List.take (List.length x) (List.drop (0 : Nat) x))).fst.b.a3
 (etDecode (List.take (List.length x) (List.drop (0 : Nat) x))).fst.b.a4
 (etDecode (List.take (List.length x) (List.drop (0 : Nat) x))).fst.b.a5)
 (etDecode (List.take (List.length x) (List.drop (0 : Nat) x))).fst.ty
 (etDecode
 (List.take (List.length x) (List.drop (0 : Nat) x))).fst.body)).fst.target =
 b) &&
 decide
 ((nbRead
 (Fm.mk
 (Mc.mk (etDecode (List.take (List.length x) (List.drop (0 : Nat) x))).fst.a.a0
 (etDecode (List.take (List.length x) (List.drop (0 : Nat) x))).fst.a.a1
 (etDecode (List.take (List.length x) (List.drop (0 : Nat) x))).fst.a.a2
 (etDecode (List.take (List.length x) (List.drop (0 : Nat) x))).fst.a.a3
 (etDecode (List.take (List.length x) (List.drop (0 : Nat) x))).fst.a.a4
 (etDecode (List.take (List.length x) (List.drop (0 : Nat) x))).fst.a.a5)
 (Mc.mk (etDecode (List.take (List.length x) (List.drop (0 : Nat) x))).fst.b.a0
 (etDecode (List.take (List.length x) (List.drop (0 : Nat) x))).fst.b.a1
 (etDecode (List.take (List.length x) (List.drop (0 : Nat) x))).fst.b.a2
 (etDecode (List.take (List.length x) (List.drop (0 : Nat) x))).fst.b.a3
 (etDecode (List.take (List.length x) (List.drop (0 : Nat) x))).fst.b.a4
 (etDecode (List.take (List.length x) (List.drop (0 : Nat) x))).fst.b.a5)
 (etDecode (List.take (List.length x) (List.drop (0 : Nat) x))).fst.ty
 (etDecode
 (List.take (List.length x) (List.drop (0 : Nat) x))).fst.body)).fst.asked =
 false))))))))))
 (((0 : Int) ≤ (0 : Int) ∧ (0 : Int) < (2 : Int)) ∧
 ((0 : Int) ≤ (1 : Int) ∧ (1 : Int) < (2 : Int)) ∧ K (AVal.bool false) [])
 (K (AVal.bool false) [])))
 (brP
 (!decide
 ((nbRead
 (Fm.mk
 (Mc.mk (etDecode (List.take (List.length x) (List.drop (0 : Nat) x))).fst.a.a0
 (etDecode (List.take (List.length x) (List.drop (0 : Nat) x))).fst.a.a1
 (etDecode (List.take (List.length x) (List.drop (0 : Nat) x))).fst.a.a2
 (etDecode (List.take (List.length x) (List.drop (0 : Nat) x))).fst.a.a3
 (etDecode (List.take (List.length x) (List.drop (0 : Nat) x))).fst.a.a4
 (etDecode (List.take (List.length x) (List.drop (0 : Nat) x))).fst.a.a5)
 (Mc.mk (etDecode (List.take (List.length x) (List.drop (0 : Nat) x))).fst.b.a0
 (etDecode (List.take (List.length x) (List.drop (0 : Nat) x))).fst.b.a1
 (etDecode (List.take (List.length x) (List.drop (0 : Nat) x))).fst.b.a2
 (etDecode (List.take (List.length x) (List.drop (0 : Nat) x))).fst.b.a3
 (etDecode (List.take (List.length x) (List.drop (0 : Nat) x))).fst.b.a4
 (etDecode (List.take (List.length x) (List.drop (0 : Nat) x))).fst.b.a5)
 (etDecode (List.take (List.length x) (List.drop (0 : Nat) x))).fst.ty
 (etDecode (List.take (List.length x) (List.drop (0 : Nat) x))).fst.body)).snd =
 (0 : Int)) ||
 true ||
 true)
 (K (AVal.bool false) [])
 (((0 : Int) ≤ (0 : Int) ∧ (0 : Int) < (2 : Int)) ∧
 ((0 : Int) ≤ (0 : Int) ∧ (0 : Int) < (2 : Int)) ∧
 ((0 : Int) ≤ (1 : Int) ∧ (1 : Int) < (2 : Int)) ∧
 brP
 (decide
 ((nbRead
 (Fm.mk
 (Mc.mk (etDecode (List.take (List.length x) (List.drop (0 : Nat) x))).fst.a.a0
 (etDecode (List.take (List.length x) (List.drop (0 : Nat) x))).fst.a.a1
 (etDecode (List.take (List.length x) (List.drop (0 : Nat) x))).fst.a.a2
 (etDecode (List.take (List.length x) (List.drop (0 : Nat) x))).fst.a.a3
 (etDecode (List.take (List.length x) (List.drop (0 : Nat) x))).fst.a.a4
 (etDecode (List.take (List.length x) (List.drop (0 : Nat) x))).fst.a.a5)
 (Mc.mk (etDecode (List.take (List.length x) (List.drop (0 : Nat) x))).fst.b.a0
 (etDecode (List.take (List.length x) (List.drop (0 : Nat) x))).fst.b.a1
 (etDecode (List.take (List.length x) (List.drop (0 : Nat) x))).fst.b.a2
 (etDecode (List.take (List.length x) (List.drop (0 : Nat) x))).fst.b.a3
 (etDecode (List.take (List.length x) (List.drop (0 : Nat) x))).fst.b.a4
 (etDecode (List.take (List.length x) (List.drop (0 : Nat) x))).fst.b.a5)
 (etDecode (List.take (List.length x) (List.drop (0 : Nat) x))).fst.ty
 (etDecode (List.take (List.length x) (List.drop (0 : Nat) x))).fst.body)).fst.kind =
 (1 : Int)) &&
 (decide
 ((nbRead
 (Fm.mk
 (Mc.mk (etDecode (List.take (List.length x) (List.drop (0 : Nat) x))).fst.a.a0
 (etDecode (List.take (List.length x) (List.drop (0 : Nat) x))).fst.a.a1
 (etDecode (List.take (List.length x) (List.drop (0 : Nat) x))).fst.a.a2
 (etDecode (List.take (List.length x) (List.drop (0 : Nat) x))).fst.a.a3
 (etDecode (List.take (List.length x) (List.drop (0 : Nat) x))).fst.a.a4
 (etDecode (List.take (List.length x) (List.drop (0 : Nat) x))).fst.a.a5)
 (Mc.mk (etDecode (List.take (List.length x) (List.drop (0 : Nat) x))).fst.b.a0
 (etDecode (List.take (List.length x) (List.drop (0 : Nat) x))).fst.b.a1
 (etDecode (List.take (List.length x) (List.drop (0 : Nat) x))).fst.b.a2
 (etDecode (List.take (List.length x) (List.drop (0 : Nat) x))).fst.b.a3
 (etDecode (List.take (List.length x) (List.drop (0 : Nat) x))).fst.b.a4
 (etDecode (List.take (List.length x) (List.drop (0 : Nat) x))).fst.b.a5)
 (etDecode (List.take (List.length x) (List.drop (0 : Nat) x))).fst.ty
 (etDecode (List.take (List.length x) (List.drop (0 : Nat) x))).fst.body)).fst.mac.a0 =
 m0) &&
 (decide
 ((nbRead
 (Fm.mk
 (Mc.mk (etDecode (List.take (List.length x) (List.drop (0 : Nat) x))).fst.a.a0
 (etDecode (List.take (List.length x) (List.drop (0 : Nat) x))).fst.a.a1
 (etDecode (List.take (List.length x) (List.drop (0 : Nat) x))).fst.a.a2
 (etDecode (List.take (List.length x) (List.drop (0 : Nat) x))).fst.a.a3
 (etDecode (List.take (List.length x) (List.drop (0 : Nat) x))).fst.a.a4
 (etDecode (List.take (List.length x) (List.drop (0 : Nat) x))).fst.a.a5)
 (Mc.mk (etDecode (List.take (List.length x) (List.drop (0 : Nat) x))).fst.b.a0
 (etDecode (List.take (List.length x) (List.drop (0 : Nat) x))).fst.b.a1
 (etDecode (List.take (List.length x) (List.drop (0 : Nat) x))).fst.b.a2
 (etDecode (List.take (List.length x) (List.drop (0 : Nat) x))).fst.b.a3
 (etDecode (List.take (List.length x) (List.drop (0 : Nat) x))).fst.b.a4
 (etDecode (List.take (List.length x) (List.drop (0 : Nat) x))).fst.b.a5)
 (etDecode (List.take (List.length x) (List.drop (0 : Nat) x))).fst.ty
 (etDecode (List.take (List.length x) (List.drop (0 : Nat) x))).fst.body)).fst.mac.a1 =
 m1) &&
 (decide
 ((nbRead
 (Fm.mk
 (Mc.mk (etDecode (List.take (List.length x) (List.drop (0 : Nat) x))).fst.a.a0
 (etDecode (List.take (List.length x) (List.drop (0 : Nat) x))).fst.a.a1
 (etDecode (List.take (List.length x) (List.drop (0 : Nat) x))).fst.a.a2
 (etDecode (List.take (List.length x) (List.drop (0 : Nat) x))).fst.a.a3
 (etDecode (List.take (List.length x) (List.drop (0 : Nat) x))).fst.a.a4
 (etDecode (List.take (List.length x) (List.drop (0 : Nat) x))).fst.a.a5)
 (Mc.mk (etDecode (List.take (List.length x) (List.drop (0 : Nat) x))).fst.b.a0
 (etDecode (List.take (List.length x) (List.drop (0 : Nat) x))).fst.b.a1
 (etDecode (List.take (List.length x) (List.drop (0 : Nat) x))).fst.b.a2
 (etDecode (List.take (List.length x) (List.drop (0 : Nat) x))).fst.b.a3
 (etDecode (List.take (List.length x) (List.drop (0 : Nat) x))).fst.b.a4
 (etDecode (List.take (List.length x) (List.drop (0 : Nat) x))).fst.b.a5)
 (etDecode (List.take (List.length x) (List.drop (0 : Nat) x))).fst.ty
 (etDecode (List.take (List.length x) (List.drop (0 : Nat) x))).fst.body)).fst.mac.a2 =
 m2) &&
 (decide
 ((nbRead
 (Fm.mk
 (Mc.mk (etDecode (List.take (List.length x) (List.drop (0 : Nat) x))).fst.a.a0
 (etDecode (List.take (List.length x) (List.drop (0 : Nat) x))).fst.a.a1
 (etDecode (List.take (List.length x) (List.drop (0 : Nat) x))).fst.a.a2
 (etDecode (List.take (List.length x) (List.drop (0 : Nat) x))).fst.a.a3
 (etDecode (List.take (List.length x) (List.drop (0 : Nat) x))).fst.a.a4
 (etDecode (List.take (List.length x) (List.drop (0 : Nat) x))).fst.a.a5)
 (Mc.mk (etDecode (List.take (List.length x) (List.drop (0 : Nat) x))).fst.b.a0
 (etDecode (List.take (List.length x) (List.drop (0 : Nat) x))).fst.b.a1
 (etDecode (List.take (List.length x) (List.drop (0 : Nat) x))).fst.b.a2
 (etDecode (List.take (List.length x) (List.drop (0 : Nat) x))).fst.b.a3
 (etDecode (List.take (List.length x) (List.drop (0 : Nat) x))).fst.b.a4
 (etDecode (List.take (List.length x) (List.drop (0 : Nat) x))).fst.b.a5)
 (etDecode (List.take (List.length x) (List.drop (0 : Nat) x))).fst.ty
 (etDecode
 (List.take (List.length x) (List.drop (0 : Nat) x))).fst.body)).fst.mac.a3 =
 m3) &&
 (decide
 ((nbRead
 (Fm.mk
 (Mc.mk (etDecode (List.take (List.length x) (List.drop (0 : Nat) x))).fst.a.a0
 (etDecode (List.take (List.length x) (List.drop (0 : Nat) x))).fst.a.a1
 (etDecode (List.take (List.length x) (List.drop (0 : Nat) x))).fst.a.a2
 (etDecode (List.take (List.length x) (List.drop (0 : Nat) x))).fst.a.a3
 (etDecode (List.take (List.length x) (List.drop (0 : Nat) x))).fst.a.a4
 (etDecode (List.take (List.length x) (List.drop (0 : Nat) x))).fst.a.a5)
 (Mc.mk (etDecode (List.take (List.length x) (List.drop (0 : Nat) x))).fst.b.a0
 (etDecode (List.take (List.length x) (List.drop (0 : Nat) x))).fst.b.a1
 (etDecode (List.take (List.length x) (List.drop (0 : Nat) x))).fst.b.a2
 (etDecode (List.take (List.length x) (List.drop (0 : Nat) x))).fst.b.a3
 (etDecode (List.take (List.length x) (List.drop (0 : Nat) x))).fst.b.a4
 (etDecode (List.take (List.length x) (List.drop (0 : Nat) x))).fst.b.a5)
 (etDecode (List.take (List.length x) (List.drop (0 : Nat) x))).fst.ty
 (etDecode
 (List.take (List.length x) (List.drop (0 : Nat) x))).fst.body)).fst.mac.a4 =
 m4) &&
 (decide
 ((nbRead
 (Fm.mk
 (Mc.mk (etDecode (List.take (List.length x) (List.drop (0 : Nat) x))).fst.a.a0
 (etDecode (List.take (List.length x) (List.drop (0 : Nat) x))).fst.a.a1
 (etDecode (List.take (List.length x) (List.drop (0 : Nat) x))).fst.a.a2
 (etDecode (List.take (List.length x) (List.drop (0 : Nat) x))).fst.a.a3
 (etDecode (List.take (List.length x) (List.drop (0 : Nat) x))).fst.a.a4
 (etDecode (List.take (List.length x) (List.drop (0 : Nat) x))).fst.a.a5)
 (Mc.mk (etDecode (List.take (List.length x) (List.drop (0 : Nat) x))).fst.b.a0
 (etDecode (List.take (List.length x) (List.drop (0 : Nat) x))).fst.b.a1
 (etDecode (List.take (List.length x) (List.drop (0 : Nat) x))).fst.b.a2
 (etDecode (List.take (List.length x) (List.drop (0 : Nat) x))).fst.b.a3
 (etDecode (List.take (List.length x) (List.drop (0 : Nat) x))).fst.b.a4
 (etDecode (List.take (List.length x) (List.drop (0 : Nat) x))).fst.b.a5)
 (etDecode (List.take (List.length x) (List.drop (0 : Nat) x))).fst.ty
 (etDecode
 (List.take (List.length x) (List.drop (0 : Nat) x))).fst.body)).fst.mac.a5 =
 m5) &&
 (decide
 ((nbRead
 (Fm.mk
 (Mc.mk (etDecode (List.take (List.length x) (List.drop (0 : Nat) x))).fst.a.a0
 (etDecode (List.take (List.length x) (List.drop (0 : Nat) x))).fst.a.a1
 (etDecode (List.take (List.length x) (List.drop (0 : Nat) x))).fst.a.a2
 (etDecode (List.take (List.length x) (List.drop (0 : Nat) x))).fst.a.a3
 (etDecode (List.take (List.length x) (List.drop (0 : Nat) x))).fst.a.a4
 (etDecode (List.take (List.length x) (List.drop (0 : Nat) x))).fst.a.a5)
 (Mc.mk (etDecode (List.take (List.length x) (List.drop (0 : Nat) x))).fst.b.a0
 (etDecode (List.take (List.length x) (List.drop (0 : Nat) x))).fst.b.a1
 (etDecode (List.take (List.length x) (List.drop (0 : Nat) x))).fst.b.a2
 (etDecode (List.take (List.length x) (List.drop (0 : Nat) x))).fst.b.a3
 (etDecode (List.take (List.length x) (List.drop (0 : Nat) x))).fst.b.a4
 (etDecode (List.take (List.length x) (List.drop (0 : Nat) x))).fst.b.a5)
 (etDecode (List.take (List.length x) (List.drop (0 : Nat) x))).fst.ty
 (etDecode
 (List.take (List.length x) (List.drop (0 : Nat) x))).fst.body)).fst.addr =
 a) &&
 (decide
 ((nbRead
 (Fm.mk
 (Mc.mk (etDecode (List.take (List.length x) (List.drop (0 : Nat) x))).fst.a.a0
 (etDecode (List.take (List.length x) (List.drop (0 : Nat) x))).fst.a.a1
 (etDecode (List.take (List.length x) (List.drop (0 : Nat) x))).fst.a.a2
 (etDecode (List.take (List.length x) (List.drop (0 : Nat) x))).fst.a.a3
 (etDecode (List.take (List.length x) (List.drop (0 : Nat) x))).fst.a.a4
 (etDecode (List.take (List.length x) (List.drop (0 : Nat) x))).fst.a.a5)
 (Mc.mk (etDecode (List.take (List.length x) (List.drop (0 : Nat) x))).fst.b.a0
 (etDecode (List.take (List.length x) (List.drop (0 : Nat) x))).fst.b.a1
 (etDecode (List.take (List.length x) (List.drop (0 : Nat) x))).fst.b.a2
 (etDecode (List.take (List.length x) (List.drop (0 : Nat) x))).fst.b.a3
 (etDecode (List.take (List.length x) (List.drop (0 : Nat) x))).fst.b.a4
 (etDecode (List.take (List.length x) (List.drop (0 : Nat) x))).fst.b.a5)
 (etDecode (List.take (List.length x) (List.drop (0 : Nat) x))).fst.ty
 (etDecode
 (List.take (List.length x) (List.drop (0 : Nat) x))).fst.body)).fst.target =
 b) &&
 decide
 ((nbRead
 (Fm.mk
 (Mc.mk (etDecode (List.take (List.length x) (List.drop (0 : Nat) x))).fst.a.a0
 (etDecode (List.take (List.length x) (List.drop (0 : Nat) x))).fst.a.a1
 (etDecode (List.take (List.length x) (List.drop (0 : Nat) x))).fst.a.a2
 (etDecode (List.take (List.length x) (List.drop (0 : Nat) x))).fst.a.a3
 (etDecode (List.take (List.length x) (List.drop (0 : Nat) x))).fst.a.a4
 (etDecode (List.take (List.length x) (List.drop (0 : Nat) x))).fst.a.a5)
 (Mc.mk (etDecode (List.take (List.length x) (List.drop (0 : Nat) x))).fst.b.a0
 (etDecode (List.take (List.length x) (List.drop (0 : Nat) x))).fst.b.a1
 (etDecode (List.take (List.length x) (List.drop (0 : Nat) x))).fst.b.a2
 (etDecode (List.take (List.length x) (List.drop (0 : Nat) x))).fst.b.a3
 (etDecode (List.take (List.length x) (List.drop (0 : Nat) x))).fst.b.a4
 (etDecode (List.take (List.length x) (List.drop (0 : Nat) x))).fst.b.a5)
 (etDecode (List.take (List.length x) (List.drop (0 : Nat) x))).fst.ty
 (etDecode
 (List.take (List.length x) (List.drop (0 : Nat) x))).fst.body)).fst.asked =
 false))))))))))
 (((0 : Int) ≤ (0 : Int) ∧ (0 : Int) < (2 : Int)) ∧
 ((0 : Int) ≤ (1 : Int) ∧ (1 : Int) < (2 : Int)) ∧ K (AVal.bool false) [])
 (K (AVal.bool false) []))))
 ((0 : Nat) ≤ (140737488351232 : Nat) ∧
 List.length (List.take (List.length x_1) (List.drop (0 : Nat) x_1)) ≤ (140737488355328 : Nat) ∧
 List.length (etDecode (List.take (List.length x_1) (List.drop (0 : Nat) x_1))).fst.body ≤
 (140737488351232 : Nat) ∧
 brP (decide ((etDecode (List.take (List.length x_1) (List.drop (0 : Nat) x_1))).snd = (0 : Int)))
 (K (AVal.bool false) []) (K (AVal.bool false) [])))
 (List.length (List.take (List.length x) (List.drop (0 : Nat) x)) ≤ (140737488355328 : Nat) ∧
 List.length (etDecode (List.take (List.length x) (List.drop (0 : Nat) x))).fst.body ≤
 (140737488351232 : Nat) ∧
 brP (decide ((etDecode (List.take (List.length x) (List.drop (0 : Nat) x))).snd = (0 : Int)))
 ((0 : Nat) ≤ (140737488351232 : Nat) ∧
 (0 : Nat) ≤ (140737488351232 : Nat) ∧
 brP
 (!decide
 ((nbRead
 (Fm.mk
 (Mc.mk (etDecode (List.take (List.length x) (List.drop (0 : Nat) x))).fst.a.a0
 (etDecode (List.take (List.length x) (List.drop (0 : Nat) x))).fst.a.a1
 (etDecode (List.take (List.length x) (List.drop (0 : Nat) x))).fst.a.a2
 (etDecode (List.take (List.length x) (List.drop (0 : Nat) x))).fst.a.a3
 (etDecode (List.take (List.length x) (List.drop (0 : Nat) x))).fst.a.a4
 (etDecode (List.take (List.length x) (List.drop (0 : Nat) x))).fst.a.a5)
 (Mc.mk (etDecode (List.take (List.length x) (List.drop (0 : Nat) x))).fst.b.a0
 (etDecode (List.take (List.length x) (List.drop (0 : Nat) x))).fst.b.a1
 (etDecode (List.take (List.length x) (List.drop (0 : Nat) x))).fst.b.a2
 (etDecode (List.take (List.length x) (List.drop (0 : Nat) x))).fst.b.a3
 (etDecode (List.take (List.length x) (List.drop (0 : Nat) x))).fst.b.a4
 (etDecode (List.take (List.length x) (List.drop (0 : Nat) x))).fst.b.a5)
 (etDecode (List.take (List.length x) (List.drop (0 : Nat) x))).fst.ty
 (etDecode (List.take (List.length x) (List.drop (0 : Nat) x))).fst.body)).snd =
 (0 : Int)) ||
 true ||
 true)
 (K (AVal.bool false) [])
 (((0 : Int) ≤ (0 : Int) ∧ (0 : Int) < (2 : Int)) ∧
 ((0 : Int) ≤ (0 : Int) ∧ (0 : Int) < (2 : Int)) ∧
 ((0 : Int) ≤ (1 : Int) ∧ (1 : Int) < (2 : Int)) ∧
 brP
 (decide
 ((nbRead
 (Fm.mk
 (Mc.mk (etDecode (List.take (List.length x) (List.drop (0 : Nat) x))).fst.a.a0
 (etDecode (List.take (List.length x) (List.drop (0 : Nat) x))).fst.a.a1
 (etDecode (List.take (List.length x) (List.drop (0 : Nat) x))).fst.a.a2
 (etDecode (List.take (List.length x) (List.drop (0 : Nat) x))).fst.a.a3
 (etDecode (List.take (List.length x) (List.drop (0 : Nat) x))).fst.a.a4
 (etDecode (List.take (List.length x) (List.drop (0 : Nat) x))).fst.a.a5)
 (Mc.mk (etDecode (List.take (List.length x) (List.drop (0 : Nat) x))).fst.b.a0
 (etDecode (List.take (List.length x) (List.drop (0 : Nat) x))).fst.b.a1
 (etDecode (List.take (List.length x) (List.drop (0 : Nat) x))).fst.b.a2
 (etDecode (List.take (List.length x) (List.drop (0 : Nat) x))).fst.b.a3
 (etDecode (List.take (List.length x) (List.drop (0 : Nat) x))).fst.b.a4
 (etDecode (List.take (List.length x) (List.drop (0 : Nat) x))).fst.b.a5)
 (etDecode (List.take (List.length x) (List.drop (0 : Nat) x))).fst.ty
 (etDecode (List.take (List.length x) (List.drop (0 : Nat) x))).fst.body)).fst.kind =
 (1 : Int)) &&
 (decide
 ((nbRead
 (Fm.mk
 (Mc.mk (etDecode (List.take (List.length x) (List.drop (0 : Nat) x))).fst.a.a0
 (etDecode (List.take (List.length x) (List.drop (0 : Nat) x))).fst.a.a1
 (etDecode (List.take (List.length x) (List.drop (0 : Nat) x))).fst.a.a2
 (etDecode (List.take (List.length x) (List.drop (0 : Nat) x))).fst.a.a3
 (etDecode (List.take (List.length x) (List.drop (0 : Nat) x))).fst.a.a4
 (etDecode (List.take (List.length x) (List.drop (0 : Nat) x))).fst.a.a5)
 (Mc.mk (etDecode (List.take (List.length x) (List.drop (0 : Nat) x))).fst.b.a0
 (etDecode (List.take (List.length x) (List.drop (0 : Nat) x))).fst.b.a1
 (etDecode (List.take (List.length x) (List.drop (0 : Nat) x))).fst.b.a2
 (etDecode (List.take (List.length x) (List.drop (0 : Nat) x))).fst.b.a3
 (etDecode (List.take (List.length x) (List.drop (0 : Nat) x))).fst.b.a4
 (etDecode (List.take (List.length x) (List.drop (0 : Nat) x))).fst.b.a5)
 (etDecode (List.take (List.length x) (List.drop (0 : Nat) x))).fst.ty
 (etDecode (List.take (List.length x) (List.drop (0 : Nat) x))).fst.body)).fst.mac.a0 =
 m0) &&
 (decide
 ((nbRead
 (Fm.mk
 (Mc.mk (etDecode (List.take (List.length x) (List.drop (0 : Nat) x))).fst.a.a0
 (etDecode (List.take (List.length x) (List.drop (0 : Nat) x))).fst.a.a1
 (etDecode (List.take (List.length x) (List.drop (0 : Nat) x))).fst.a.a2
 (etDecode (List.take (List.length x) (List.drop (0 : Nat) x))).fst.a.a3
 (etDecode (List.take (List.length x) (List.drop (0 : Nat) x))).fst.a.a4
 (etDecode (List.take (List.length x) (List.drop (0 : Nat) x))).fst.a.a5)
 (Mc.mk (etDecode (List.take (List.length x) (List.drop (0 : Nat) x))).fst.b.a0
 (etDecode (List.take (List.length x) (List.drop (0 : Nat) x))).fst.b.a1
 (etDecode (List.take (List.length x) (List.drop (0 : Nat) x))).fst.b.a2
 (etDecode (List.take (List.length x) (List.drop (0 : Nat) x))).fst.b.a3
 (etDecode (List.take (List.length x) (List.drop (0 : Nat) x))).fst.b.a4
 (etDecode (List.take (List.length x) (List.drop (0 : Nat) x))).fst.b.a5)
 (etDecode (List.take (List.length x) (List.drop (0 : Nat) x))).fst.ty
 (etDecode (List.take (List.length x) (List.drop (0 : Nat) x))).fst.body)).fst.mac.a1 =
 m1) &&
 (decide
 ((nbRead
 (Fm.mk
 (Mc.mk (etDecode (List.take (List.length x) (List.drop (0 : Nat) x))).fst.a.a0
 (etDecode (List.take (List.length x) (List.drop (0 : Nat) x))).fst.a.a1
 (etDecode (List.take (List.length x) (List.drop (0 : Nat) x))).fst.a.a2
 (etDecode (List.take (List.length x) (List.drop (0 : Nat) x))).fst.a.a3
 (etDecode (List.take (List.length x) (List.drop (0 : Nat) x))).fst.a.a4
 (etDecode (List.take (List.length x) (List.drop (0 : Nat) x))).fst.a.a5)
 (Mc.mk (etDecode (List.take (List.length x) (List.drop (0 : Nat) x))).fst.b.a0
 (etDecode (List.take (List.length x) (List.drop (0 : Nat) x))).fst.b.a1
 (etDecode (List.take (List.length x) (List.drop (0 : Nat) x))).fst.b.a2
 (etDecode (List.take (List.length x) (List.drop (0 : Nat) x))).fst.b.a3
 (etDecode (List.take (List.length x) (List.drop (0 : Nat) x))).fst.b.a4
 (etDecode (List.take (List.length x) (List.drop (0 : Nat) x))).fst.b.a5)
 (etDecode (List.take (List.length x) (List.drop (0 : Nat) x))).fst.ty
 (etDecode (List.take (List.length x) (List.drop (0 : Nat) x))).fst.body)).fst.mac.a2 =
 m2) &&
 (decide
 ((nbRead
 (Fm.mk
 (Mc.mk (etDecode (List.take (List.length x) (List.drop (0 : Nat) x))).fst.a.a0
 (etDecode (List.take (List.length x) (List.drop (0 : Nat) x))).fst.a.a1
 (etDecode (List.take (List.length x) (List.drop (0 : Nat) x))).fst.a.a2
 (etDecode (List.take (List.length x) (List.drop (0 : Nat) x))).fst.a.a3
 (etDecode (List.take (List.length x) (List.drop (0 : Nat) x))).fst.a.a4
 (etDecode (List.take (List.length x) (List.drop (0 : Nat) x))).fst.a.a5)
 (Mc.mk (etDecode (List.take (List.length x) (List.drop (0 : Nat) x))).fst.b.a0
 (etDecode (List.take (List.length x) (List.drop (0 : Nat) x))).fst.b.a1
 (etDecode (List.take (List.length x) (List.drop (0 : Nat) x))).fst.b.a2
 (etDecode (List.take (List.length x) (List.drop (0 : Nat) x))).fst.b.a3
 (etDecode (List.take (List.length x) (List.drop (0 : Nat) x))).fst.b.a4
 (etDecode (List.take (List.length x) (List.drop (0 : Nat) x))).fst.b.a5)
 (etDecode (List.take (List.length x) (List.drop (0 : Nat) x))).fst.ty
 (etDecode (List.take (List.length x) (List.drop (0 : Nat) x))).fst.body)).fst.mac.a3 =
 m3) &&
 (decide
 ((nbRead
 (Fm.mk
 (Mc.mk (etDecode (List.take (List.length x) (List.drop (0 : Nat) x))).fst.a.a0
 (etDecode (List.take (List.length x) (List.drop (0 : Nat) x))).fst.a.a1
 (etDecode (List.take (List.length x) (List.drop (0 : Nat) x))).fst.a.a2
 (etDecode (List.take (List.length x) (List.drop (0 : Nat) x))).fst.a.a3
 (etDecode (List.take (List.length x) (List.drop (0 : Nat) x))).fst.a.a4
 (etDecode (List.take (List.length x) (List.drop (0 : Nat) x))).fst.a.a5)
 (Mc.mk (etDecode (List.take (List.length x) (List.drop (0 : Nat) x))).fst.b.a0
 (etDecode (List.take (List.length x) (List.drop (0 : Nat) x))).fst.b.a1
 (etDecode (List.take (List.length x) (List.drop (0 : Nat) x))).fst.b.a2
 (etDecode (List.take (List.length x) (List.drop (0 : Nat) x))).fst.b.a3
 (etDecode (List.take (List.length x) (List.drop (0 : Nat) x))).fst.b.a4
 (etDecode (List.take (List.length x) (List.drop (0 : Nat) x))).fst.b.a5)
 (etDecode (List.take (List.length x) (List.drop (0 : Nat) x))).fst.ty
 (etDecode (List.take (List.length x) (List.drop (0 : Nat) x))).fst.body)).fst.mac.a4 =
 m4) &&
 (decide
 ((nbRead
 (Fm.mk
 (Mc.mk (etDecode (List.take (List.length x) (List.drop (0 : Nat) x))).fst.a.a0
 (etDecode (List.take (List.length x) (List.drop (0 : Nat) x))).fst.a.a1
 (etDecode (List.take (List.length x) (List.drop (0 : Nat) x))).fst.a.a2
 (etDecode (List.take (List.length x) (List.drop (0 : Nat) x))).fst.a.a3
 (etDecode (List.take (List.length x) (List.drop (0 : Nat) x))).fst.a.a4
 (etDecode (List.take (List.length x) (List.drop (0 : Nat) x))).fst.a.a5)
 (Mc.mk (etDecode (List.take (List.length x) (List.drop (0 : Nat) x))).fst.b.a0
 (etDecode (List.take (List.length x) (List.drop (0 : Nat) x))).fst.b.a1
 (etDecode (List.take (List.length x) (List.drop (0 : Nat) x))).fst.b.a2
 (etDecode (List.take (List.length x) (List.drop (0 : Nat) x))).fst.b.a3
 (etDecode (List.take (List.length x) (List.drop (0 : Nat) x))).fst.b.a4
 (etDecode (List.take (List.length x) (List.drop (0 : Nat) x))).fst.b.a5)
 (etDecode (List.take (List.length x) (List.drop (0 : Nat) x))).fst.ty
 (etDecode (List.take (List.length x) (List.drop (0 : Nat) x))).fst.body)).fst.mac.a5 =
 m5) &&
 (decide
 ((nbRead
 (Fm.mk
 (Mc.mk (etDecode (List.take (List.length x) (List.drop (0 : Nat) x))).fst.a.a0
 (etDecode (List.take (List.length x) (List.drop (0 : Nat) x))).fst.a.a1
 (etDecode (List.take (List.length x) (List.drop (0 : Nat) x))).fst.a.a2
 (etDecode (List.take (List.length x) (List.drop (0 : Nat) x))).fst.a.a3
 (etDecode (List.take (List.length x) (List.drop (0 : Nat) x))).fst.a.a4
 (etDecode (List.take (List.length x) (List.drop (0 : Nat) x))).fst.a.a5)
 (Mc.mk (etDecode (List.take (List.length x) (List.drop (0 : Nat) x))).fst.b.a0
 (etDecode (List.take (List.length x) (List.drop (0 : Nat) x))).fst.b.a1
 (etDecode (List.take (List.length x) (List.drop (0 : Nat) x))).fst.b.a2
 (etDecode (List.take (List.length x) (List.drop (0 : Nat) x))).fst.b.a3
 (etDecode (List.take (List.length x) (List.drop (0 : Nat) x))).fst.b.a4
 (etDecode (List.take (List.length x) (List.drop (0 : Nat) x))).fst.b.a5)
 (etDecode (List.take (List.length x) (List.drop (0 : Nat) x))).fst.ty
 (etDecode (List.take (List.length x) (List.drop (0 : Nat) x))).fst.body)).fst.addr =
 a) &&
 (decide
 ((nbRead
 (Fm.mk
 (Mc.mk (etDecode (List.take (List.length x) (List.drop (0 : Nat) x))).fst.a.a0
 (etDecode (List.take (List.length x) (List.drop (0 : Nat) x))).fst.a.a1
 (etDecode (List.take (List.length x) (List.drop (0 : Nat) x))).fst.a.a2
 (etDecode (List.take (List.length x) (List.drop (0 : Nat) x))).fst.a.a3
 (etDecode (List.take (List.length x) (List.drop (0 : Nat) x))).fst.a.a4
 (etDecode (List.take (List.length x) (List.drop (0 : Nat) x))).fst.a.a5)
 (Mc.mk (etDecode (List.take (List.length x) (List.drop (0 : Nat) x))).fst.b.a0
 (etDecode (List.take (List.length x) (List.drop (0 : Nat) x))).fst.b.a1
 (etDecode (List.take (List.length x) (List.drop (0 : Nat) x))).fst.b.a2
 (etDecode (List.take (List.length x) (List.drop (0 : Nat) x))).fst.b.a3
 (etDecode (List.take (List.length x) (List.drop (0 : Nat) x))).fst.b.a4
 (etDecode (List.take (List.length x) (List.drop (0 : Nat) x))).fst.b.a5)
 (etDecode (List.take (List.length x) (List.drop (0 : Nat) x))).fst.ty
 (etDecode
 (List.take (List.length x) (List.drop (0 : Nat) x))).fst.body)).fst.target =
 b) &&
 decide
 ((nbRead
 (Fm.mk
 (Mc.mk (etDecode (List.take (List.length x) (List.drop (0 : Nat) x))).fst.a.a0
 (etDecode (List.take (List.length x) (List.drop (0 : Nat) x))).fst.a.a1
 (etDecode (List.take (List.length x) (List.drop (0 : Nat) x))).fst.a.a2
 (etDecode (List.take (List.length x) (List.drop (0 : Nat) x))).fst.a.a3
 (etDecode (List.take (List.length x) (List.drop (0 : Nat) x))).fst.a.a4
 (etDecode (List.take (List.length x) (List.drop (0 : Nat) x))).fst.a.a5)
 (Mc.mk (etDecode (List.take (List.length x) (List.drop (0 : Nat) x))).fst.b.a0
 (etDecode (List.take (List.length x) (List.drop (0 : Nat) x))).fst.b.a1
 (etDecode (List.take (List.length x) (List.drop (0 : Nat) x))).fst.b.a2
 (etDecode (List.take (List.length x) (List.drop (0 : Nat) x))).fst.b.a3
 (etDecode (List.take (List.length x) (List.drop (0 : Nat) x))).fst.b.a4
 (etDecode (List.take (List.length x) (List.drop (0 : Nat) x))).fst.b.a5)
 (etDecode (List.take (List.length x) (List.drop (0 : Nat) x))).fst.ty
 (etDecode (List.take (List.length x) (List.drop (0 : Nat) x))).fst.body)).fst.asked =
 false))))))))))
 (((0 : Int) ≤ (0 : Int) ∧ (0 : Int) < (2 : Int)) ∧
 ((0 : Int) ≤ (1 : Int) ∧ (1 : Int) < (2 : Int)) ∧ K (AVal.bool false) [])
 (K (AVal.bool false) [])))
 ((0 : Nat) ≤ (140737488351232 : Nat) ∧ (0 : Nat) ≤ (140737488351232 : Nat) ∧ K (AVal.bool false) []))))
 (K (AVal.bool true) [])) := by kernel_rfl
theorem neighBack.core (m0 m1 m2 m3 m4 m5 t0 t1 t2 t3 t4 t5 : UInt8) (a b : List UInt8)  (h_a : a.length ≤ 140737488351232) (h_b : b.length ≤ 140737488351232) :
    fnP Try.prog Tlw ann_outriderlaw04_NeighBack Try.f8 [.agg [.byte m0, .byte m1, .byte m2, .byte m3, .byte m4, .byte m5], .agg [.byte t0, .byte t1, .byte t2, .byte t3, .byte t4, .byte t5], .agg [.str a, .str b]] [] (fun v _ => v = .bool true) := by
  rw [NeighBack_eq]
  have c1 : ((0 : Int) ≤ 0 ∧ (0 : Int) < 2) = True := eq_true (by omega)
  have c2 : ((0 : Int) ≤ 1 ∧ (1 : Int) < 2) = True := eq_true (by omega)
  have hi2 : ∀ g, impP g True = True := fun g => eq_true (fun _ => trivial)
  have etaF : ∀ f : Fm, (⟨⟨f.a.a0, f.a.a1, f.a.a2, f.a.a3, f.a.a4, f.a.a5⟩, ⟨f.b.a0, f.b.a1, f.b.a2, f.b.a3, f.b.a4, f.b.a5⟩, f.ty, f.body⟩ : Fm) = f := fun _ => rfl
  rcases says_all ⟨m0, m1, m2, m3, m4, m5⟩ ⟨t0, t1, t2, t3, t4, t5⟩ a b with e | ⟨x, y, z, f, g, h, n, e1, e2, e3, ⟨x1, x2, x3, x4⟩, ⟨y1, y2, y3, y4⟩, ⟨z1, z2, z3, z4⟩, n1, n2, n3, n4⟩
  · rw [e]; simp [optP]
  · rw [e1, e2, e3]
    simp only [optP_s, c1, c2, hi2, true_and, List.drop_zero, List.take_length, x1, y1, z1, etaF, x2, y2, z2]
    obtain ⟨kind, mac, addr, tg, asked⟩ := n
    simp only at n1 n2 n3 n4
    subst n1 n2 n3
    have l1 : x.length ≤ 140737488355328 := by omega
    have l2 : y.length ≤ 140737488355328 := by omega
    have l3 : z.length ≤ 140737488355328 := by omega
    have l4 : f.body.length ≤ 140737488351232 := by omega
    have l5 : g.body.length ≤ 140737488351232 := by omega
    have l6 : h.body.length ≤ 140737488351232 := by omega
    rcases n4 with ⟨ha, rfl⟩ | ⟨ha, rfl, rfl⟩
    · have ha' : (addr.length : Int) = 16 := by omega
      simp [l1, l2, l3, l4, l5, l6, brP, ha, ha']
    · have ha' : ¬ (tg.length : Int) = 16 := by omega
      simp [l1, l2, l3, l4, l5, l6, brP, ha, ha']
end Go.Proofs.Ytcooilllmcgcmaa.Ae
namespace Go.Proofs.Ytcooilllmcgcmaa
open Go Go.RowKit Ae
attribute [local irreducible] fnP in
set_option maxRecDepth 100000 in
theorem neighBack.walk {H : Type} {enc : TypeId × Value → H} (W : World) (args : Array Value) (hn : args.size = 3)
    (h : ∀ (j : Nat) t v, Try.f8.params[j]? = some t → args[j]? = some v → RdV enc false Try.prog W t v) :
    Calls Try.prog 8 args W fun e w' => e = .returned (.bool true) ∧ Below W.heap.size W w' := by
  obtain ⟨v0, v1, v2, rfl⟩ := args3 hn
  obtain ⟨vs0, hs0, hv0⟩ := arg_agg (b := false) (d := 6) (ks := [.byte, .byte, .byte, .byte, .byte, .byte]) (.inr ⟨_, _, Try.underlying23⟩) (by kernel_rfl) (h 0 23 v0 rfl rfl)
  obtain ⟨_, _, rfl, ⟨m0, rfl⟩, _, _, rfl, ⟨m1, rfl⟩, _, _, rfl, ⟨m2, rfl⟩, _, _, rfl, ⟨m3, rfl⟩, _, _, rfl, ⟨m4, rfl⟩, _, _, rfl, ⟨m5, rfl⟩, rfl⟩ := hs0
  obtain ⟨vs1, hs1, hv1⟩ := arg_agg (b := false) (d := 6) (ks := [.byte, .byte, .byte, .byte, .byte, .byte]) (.inr ⟨_, _, Try.underlying23⟩) (by kernel_rfl) (h 1 23 v1 rfl rfl)
  obtain ⟨_, _, rfl, ⟨t0, rfl⟩, _, _, rfl, ⟨t1, rfl⟩, _, _, rfl, ⟨t2, rfl⟩, _, _, rfl, ⟨t3, rfl⟩, _, _, rfl, ⟨t4, rfl⟩, _, _, rfl, ⟨t5, rfl⟩, rfl⟩ := hs1
  obtain ⟨vs2, hs2, hv2⟩ := arg_agg (b := false) (d := 6) (ks := [.str, .str]) (.inr ⟨_, _, Try.underlying38⟩) (by kernel_rfl) (h 2 38 v2 rfl rfl)
  obtain ⟨_, _, rfl, ⟨a, rfl, h_a⟩, _, _, rfl, ⟨b, rfl, h_b⟩, rfl⟩ := hs2
  obtain ⟨r, H1, hr, hG⟩ := fn_sound Tlw_sound mixed Try.func8 (by decide +kernel) (neighBack.core m0 m1 m2 m3 m4 m5 t0 t1 t2 t3 t4 t5 a b (len_lim h_a) (len_lim h_b))
  subst hr
  exact law_walk hG (vl_cons hv0 (vl_cons hv1 (vl_cons hv2 vl_nil)))

namespace neighBack
theorem spec {H : Type} (ds : List (DataW H)) (h : ds.length = Try.f8.params.size) : Rows.neighBackSpec.fn H ds = { results := [.lit (.bool true)], args := ds } := by
  have h' : ds.length = 3 := h
  match ds, h' with
  | [_, _, _], _ => rfl

set_option maxRecDepth 100000 in
theorem lifted (os : Os) (started : os.Started) (H : Type) (enc : TypeId × Value → H) :
    ReturnsInHanded {} Try.checked os 8 .any (Rows.neighBackSpec.pre6 enc Try.prog Try.f8 Rows.neighBackRow.domain false) (Rows.neighBackSpec.post enc Try.prog Try.f8 false true false false) :=
  lifted_said (C := Try.checked) (tb := 4) own started (by kernel_rfl) Try.func8
    (ChangeSpec.witness6 (enc := enc) (C := Try.checked) false ⟨#[], #[.agg #[.int .u8 0, .int .u8 0, .int .u8 0, .int .u8 0, .int .u8 0, .int .u8 0], .agg #[.int .u8 0, .int .u8 0, .int .u8 0, .int .u8 0, .int .u8 0, .int .u8 0], .agg #[.string .empty, .string .empty]], []⟩ 8 (by kernel_rfl) (by kernel_rfl) (by kernel_rfl) (by kernel_rfl))
    rfl spec rfl Try.underlying4 laidOut (by kernel_rfl) walk

theorem over : Rows.neighBackRow.holds Try.pinned (OpenSpec.ofChange Rows.neighBackSpec) :=
  OpenClaim.holds_of_wide 8 Try.f8 rfl rfl rfl rfl rfl rfl rfl ⟨rfl, rfl, rfl, rfl, rfl⟩ rfl rfl rfl rfl rfl (by kernel_rfl) Try.func8 (by kernel_rfl)
    (of_decide_eq_true (by kernel_rfl)) (by unfold Func.isWrapper; first | (rw [if_pos (by decide +kernel)]; kernel_rfl) | (rw [if_neg (by decide +kernel)]; exact ⟨rfl, rfl⟩))
    (fun os started H enc _ => lifted os started H enc)

theorem proved : Rows.NeighBackSaid := over
#print axioms proved
end neighBack

end Go.Proofs.Ytcooilllmcgcmaa

