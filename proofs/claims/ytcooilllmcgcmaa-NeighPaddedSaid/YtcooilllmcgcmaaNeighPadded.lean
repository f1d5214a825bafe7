/- NeighPadded: an ARP with whatever behind it says the same; cut, it says nothing. No conditions. -/
import Derived.Test.YtcooilllmcgcmaaAl
import Derived.Test.YtcooilllmcgcmaaMnb2
set_option linter.unusedSimpArgs false
set_option linter.unusedVariables false
namespace Go.Proofs.Ytcooilllmcgcmaa.Ae
open Go Go.RowKit
def ann_outriderlaw04_NeighPadded : Nat → List Nat × Nat × List (List Nat)
  | 2000002 => ([], 14, [[], [0], [0, 1], [0, 1, 2], [0, 1, 2, 3], [0, 1, 2, 3, 4], [0, 1, 2, 3, 4, 5], [0, 1, 2, 3, 4, 5, 6], [0, 1, 2, 3, 4, 5, 6, 7], [0, 1, 2, 3, 4, 5, 6, 7, 8], [0, 1, 2, 3, 4, 5, 6, 7, 8, 9], [0, 1, 2, 3, 4, 5, 6, 7, 8, 9, 10], [0, 1, 2, 3, 4, 5, 6, 7, 8, 9, 10, 11]])
  | _ => ([], 0, [])
set_option maxRecDepth 100000 in
theorem NeighPadded_eq (m0 m1 m2 m3 m4 m5 : UInt8) (a b l : List UInt8) (K : AVal → Hp → Prop) : fnP Try.prog Tlw ann_outriderlaw04_NeighPadded Try.f6 [.agg [.byte m0, .byte m1, .byte m2, .byte m3, .byte m4, .byte m5], .agg [.str a, .str b], .roB l] [] K = (
  ((0 : Int) ≤ (0 : Int) ∧ (0 : Int) < (2 : Int)) ∧
    ((0 : Int) ≤ (1 : Int) ∧ (1 : Int) < (2 : Int)) ∧
     optP (nbAsk (Mc.mk m0 m1 m2 m3 m4 m5) a b)
      (fun x =>
       impP true ((0 : Int) ≤ (0 : Int) ∧ (0 : Int) < (2 : Int)) ∧
        brP (!decide ((↑(List.length a) : Int) = (4 : Int)) || decide ((1000 : Int) < (↑(List.length l) : Int)))
         (K (AVal.bool true) [])
         (List.length (List.take (List.length x) (List.drop (0 : Nat) x)) ≤ (140737488355328 : Nat) ∧
          List.length (etDecode (List.take (List.length x) (List.drop (0 : Nat) x))).fst.body ≤ (140737488351232 : Nat) ∧
           List.length (etDecode (List.take (List.length x) (List.drop (0 : Nat) x))).fst.body + List.length l ≤
             (4611686018427387904 : Nat) ∧
            List.length ((etDecode (List.take (List.length x) (List.drop (0 : Nat) x))).fst.body ++ l) ≤
              (140737488351232 : Nat) ∧
             ((0 : Int) ≤ (27 : Int) ∧
               (27 : Int) ≤
                (↑(List.length ((etDecode (List.take (List.length x) (List.drop (0 : Nat) x))).fst.body ++ l)) : Int)) ∧
              List.length
                 (List.take (27 : Nat) ((etDecode (List.take (List.length x) (List.drop (0 : Nat) x))).fst.body ++ l)) ≤
                (140737488351232 : Nat) ∧
               brP
                (decide
                 ((nbRead
                    (Fm.mk
                     (Mc.mk (etDecode (List.take (List.length x) (List.drop (0 : Nat) x))).fst.a.a0
                      (etDecode (List.take (List.length x) (List.drop (0 : Nat) x))).fst.a.a1
                      (etDecode (List.take (List.length x) (List.drop (0 : Nat) x))).fst.a.a2
                      (etDecode (List.take (List.length x) (List.drop (0 : Nat) x))).fst.a.a3
                      (etDecode (List.take (List.length x) (List.drop (0 : Nat) x))).fst.a.a4
                      (etDecode (List.take (List.length x) (List.drop (0 : Nat) x))).fst.a.a5)
                     (Mc.mk (etDecode (List.take (List.length x) (List.drop (0 : Nat) x))).fst.b.a0
                      (etDecode (List.take (List.length x) (List.drop (0 : Nat) x))).fst.b.a1
                      (etDecode (List.take (List.length x) (List.drop (0 : Nat) x))).fst.b.a2
                      (etDecode (List.take (List.length x) (List.drop (0 : Nat) x))).fst.b.a3
                      (etDecode (List.take (List.length x) (List.drop (0 : Nat) x))).fst.b.a4
                      (etDecode (List.take (List.length x) (List.drop (0 : Nat) x))).fst.b.a5)
                     (etDecode (List.take (List.length x) (List.drop (0 : Nat) x))).fst.ty
                     (etDecode (List.take (List.length x) (List.drop (0 : Nat) x))).fst.body)).snd =
                  (0 : Int)))
                (brP
                 (decide
                  ((nbRead
                     (Fm.mk
                      (Mc.mk (etDecode (List.take (List.length x) (List.drop (0 : Nat) x))).fst.a.a0
                       (etDecode (List.take (List.length x) (List.drop (0 : Nat) x))).fst.a.a1
                       (etDecode (List.take (List.length x) (List.drop (0 : Nat) x))).fst.a.a2
                       (etDecode (List.take (List.length x) (List.drop (0 : Nat) x))).fst.a.a3
                       (etDecode (List.take (List.length x) (List.drop (0 : Nat) x))).fst.a.a4
                       (etDecode (List.take (List.length x) (List.drop (0 : Nat) x))).fst.a.a5)
                      (Mc.mk (etDecode (List.take (List.length x) (List.drop (0 : Nat) x))).fst.b.a0
                       (etDecode (List.take (List.length x) (List.drop (0 : Nat) x))).fst.b.a1
                       (etDecode (List.take (List.length x) (List.drop (0 : Nat) x))).fst.b.a2
                       (etDecode (List.take (List.length x) (List.drop (0 : Nat) x))).fst.b.a3
                       (etDecode (List.take (List.length x) (List.drop (0 : Nat) x))).fst.b.a4
                       (etDecode (List.take (List.length x) (List.drop (0 : Nat) x))).fst.b.a5)
                      (etDecode (List.take (List.length x) (List.drop (0 : Nat) x))).fst.ty
                      ((etDecode (List.take (List.length x) (List.drop (0 : Nat) x))).fst.body ++ l))).snd =
                   (0 : Int)))
                 (brP
                  (decide
                    ((nbRead
                        (Fm.mk
                         (Mc.mk (etDecode (List.take (List.length x) (List.drop (0 : Nat) x))).fst.a.a0
                          (etDecode (List.take (List.length x) (List.drop (0 : Nat) x))).fst.a.a1
                          (etDecode (List.take (List.length x) (List.drop (0 : Nat) x))).fst.a.a2
                          (etDecode (List.take (List.length x) (List.drop (0 : Nat) x))).fst.a.a3
                          (etDecode (List.take (List.length x) (List.drop (0 : Nat) x))).fst.a.a4
                          (etDecode (List.take (List.length x) (List.drop (0 : Nat) x))).fst.a.a5)
                         (Mc.mk (etDecode (List.take (List.length x) (List.drop (0 : Nat) x))).fst.b.a0
                          (etDecode (List.take (List.length x) (List.drop (0 : Nat) x))).fst.b.a1
                          (etDecode (List.take (List.length x) (List.drop (0 : Nat) x))).fst.b.a2
                          (etDecode (List.take (List.length x) (List.drop (0 : Nat) x))).fst.b.a3
                          (etDecode (List.take (List.length x) (List.drop (0 : Nat) x))).fst.b.a4
                          (etDecode (List.take (List.length x) (List.drop (0 : Nat) x))).fst.b.a5)
                         (etDecode (List.take (List.length x) (List.drop (0 : Nat) x))).fst.ty
                         (etDecode (List.take (List.length x) (List.drop (0 : Nat) x))).fst.body)).fst.kind =
                     (nbRead
                        (Fm.mk
                         (Mc.mk (etDecode (List.take (List.length x) (List.drop (0 : Nat) x))).fst.a.a0
                          (etDecode (List.take (List.length x) (List.drop (0 : Nat) x))).fst.a.a1
                          (etDecode (List.take (List.length x) (List.drop (0 : Nat) x))).fst.a.a2
                          (etDecode (List.take (List.length x) (List.drop (0 : Nat) x))).fst.a.a3
                          (etDecode (List.take (List.length x) (List.drop (0 : Nat) x))).fst.a.a4
                          (etDecode (List.take (List.length x) (List.drop (0 : Nat) x))).fst.a.a5)
                         (Mc.mk (etDecode (List.take (List.length x) (List.drop (0 : Nat) x))).fst.b.a0
                          (etDecode (List.take (List.length x) (List.drop (0 : Nat) x))).fst.b.a1
                          (etDecode (List.take (List.length x) (List.drop (0 : Nat) x))).fst.b.a2
                          (etDecode (List.take (List.length x) (List.drop (0 : Nat) x))).fst.b.a3
                          (etDecode (List.take (List.length x) (List.drop (0 : Nat) x))).fst.b.a4
                          (etDecode (List.take (List.length x) (List.drop (0 : Nat) x))).fst.b.a5)
                         (etDecode (List.take (List.length x) (List.drop (0 : Nat) x))).fst.ty
                         ((etDecode (List.take (List.length x) (List.drop (0 : Nat) x))).fst.body ++ l))).fst.kind) &&
                   (decide
                     ((nbRead
                          (Fm.mk
                           (Mc.mk (etDecode (List.take (List.length x) (List.drop (0 : Nat) x))).fst.a.a0
                            (etDecode (List.take (List.length x) (List.drop (0 : Nat) x))).fst.a.a1
                            (etDecode (List.take (List.length x) (List.drop (0 : Nat) x))).fst.a.a2
                            (etDecode (List.take (List.length x) (List.drop (0 : Nat) x))).fst.a.a3
                            (etDecode (List.take (List.length x) (List.drop (0 : Nat) x))).fst.a.a4
                            (etDecode (List.take (List.length x) (List.drop (0 : Nat) x))).fst.a.a5)
                           (Mc.mk (etDecode (List.take (List.length x) (List.drop (0 : Nat) x))).fst.b.a0
                            (etDecode (List.take (List.length x) (List.drop (0 : Nat) x))).fst.b.a1
                            (etDecode (List.take (List.length x) (List.drop (0 : Nat) x))).fst.b.a2
                            (etDecode (List.take (List.length x) (List.drop (0 : Nat) x))).fst.b.a3
                            (etDecode (List.take (List.length x) (List.drop (0 : Nat) x))).fst.b.a4
                            (etDecode (List.take (List.length x) (List.drop (0 : Nat) x))).fst.b.a5)
                           (etDecode (List.take (List.length x) (List.drop (0 : Nat) x))).fst.ty
                           (etDecode (List.take (List.length x) (List.drop (0 : Nat) x))).fst.body)).fst.mac.a0 =
                      (nbRead
                          (Fm.mk
                           (Mc.mk (etDecode (List.take (List.length x) (List.drop (0 : Nat) x))).fst.a.a0
                            (etDecode (List.take (List.length x) (List.drop (0 : Nat) x))).fst.a.a1
                            (etDecode (List.take (List.length x) (List.drop (0 : Nat) x))).fst.a.a2
                            (etDecode (List.take (List.length x) (List.drop (0 : Nat) x))).fst.a.a3
                            (etDecode (List.take (List.length x) (List.drop (0 : Nat) x))).fst.a.a4
                            (etDecode (List.take (List.length x) (List.drop (0 : Nat) x))).fst.a.a5)
                           (Mc.mk (etDecode (List.take (List.length x) (List.drop (0 : Nat) x))).fst.b.a0
                            (etDecode (List.take (List.length x) (List.drop (0 : Nat) x))).fst.b.a1
                            (etDecode (List.take (List.length x) (List.drop (0 : Nat) x))).fst.b.a2
                            (etDecode (List.take (List.length x) (List.drop (0 : Nat) x))).fst.b.a3
                            (etDecode (List.take (List.length x) (List.drop (0 : Nat) x))).fst.b.a4
                            (etDecode (List.take (List.length x) (List.drop (0 : Nat) x))).fst.b.a5)
                           (etDecode (List.take (List.length x) (List.drop (0 : Nat) x))).fst.ty
                           ((etDecode (List.take (List.length x) (List.drop (0 : Nat) x))).fst.body ++ l))).fst.mac.a0) &&
                    (decide
                      ((nbRead
                           (Fm.mk
                            (Mc.mk (etDecode (List.take (List.length x) (List.drop (0 : Nat) x))).fst.a.a0
                             (etDecode (List.take (List.length x) (List.drop (0 : Nat) x))).fst.a.a1
                             (etDecode (List.take (List.length x) (List.drop (0 : Nat) x))).fst.a.a2
                             (etDecode (List.take (List.length x) (List.drop (0 : Nat) x))).fst.a.a3
                             (etDecode (List.take (List.length x) (List.drop (0 : Nat) x))).fst.a.a4
                             (etDecode (List.take (List.length x) (List.drop (0 : Nat) x))).fst.a.a5)
                            (Mc.mk (etDecode (List.take (List.length x) (List.drop (0 : Nat) x))).fst.b.a0
                             (etDecode (List.take (List.length x) (List.drop (0 : Nat) x))).fst.b.a1
                             (etDecode (List.take (List.length x) (List.drop (0 : Nat) x))).fst.b.a2
                             (etDecode (List.take (List.length x) (List.drop (0 : Nat) x))).fst.b.a3
                             (etDecode (List.take (List.length x) (List.drop (0 : Nat) x))).fst.b.a4
                             (etDecode (List.take (List.length x) (List.drop (0 : Nat) x))).fst.b.a5)
                            (etDecode (List.take (List.length x) (List.drop (0 : Nat) x))).fst.ty
                            (etDecode (List.take (List.length x) (List.drop (0 : Nat) x))).fst.body)).fst.mac.a1 =
                       (nbRead
                           (Fm.mk
                            (Mc.mk (etDecode (List.take (List.length x) (List.drop (0 : Nat) x))).fst.a.a0
                             (etDecode (List.take (List.length x) (List.drop (0 : Nat) x))).fst.a.a1
                             (etDecode (List.take (List.length x) (List.drop (0 : Nat) x))).fst.a.a2
                             (etDecode (List.take (List.length x) (List.drop (0 : Nat) x))).fst.a.a3
                             (etDecode (List.take (List.length x) (List.drop (0 : Nat) x))).fst.a.a4
                             (etDecode (List.take (List.length x) (List.drop (0 : Nat) x))).fst.a.a5)
                            (Mc.mk (etDecode (List.take (List.length x) (List.drop (0 : Nat) x))).fst.b.a0
                             (etDecode (List.take (List.length x) (List.drop (0 : Nat) x))).fst.b.a1
                             (etDecode (List.take (List.length x) (List.drop (0 : Nat) x))).fst.b.a2
                             (etDecode (List.take (List.length x) (List.drop (0 : Nat) x))).fst.b.a3
                             (etDecode (List.take (List.length x) (List.drop (0 : Nat) x))).fst.b.a4
                             (etDecode (List.take (List.length x) (List.drop (0 : Nat) x))).fst.b.a5)
                            (etDecode (List.take (List.length x) (List.drop (0 : Nat) x))).fst.ty
                            ((etDecode (List.take (List.length x) (List.drop (0 : Nat) x))).fst.body ++
                             l))).fst.mac.a1) &&
                     (decide
                       ((nbRead
                            (Fm.mk
                             (Mc.mk (etDecode (List.take (List.length x) (List.drop (0 : Nat) x))).fst.a.a0
                              (etDecode (List.take (List.length x) (List.drop (0 : Nat) x))).fst.a.a1
                              (etDecode (List.take (List.length x) (List.drop (0 : Nat) x))).fst.a.a2
                              (etDecode (List.take (List.length x) (List.drop (0 : Nat) x))).fst.a.a3
                              (etDecode (List.take (List.length x) (List.drop (0 : Nat) x))).fst.a.a4
                              (etDecode (List.take (List.length x) (List.drop (0 : Nat) x))).fst.a.a5)
                             (Mc.mk (etDecode (List.take (List.length x) (List.drop (0 : Nat) x))).fst.b.a0
                              (etDecode (List.take (List.length x) (List.drop (0 : Nat) x))).fst.b.a1
                              (etDecode (List.take (List.length x) (List.drop (0 : Nat) x))).fst.b.a2
                              (etDecode (List.take (List.length x) (List.drop (0 : Nat) x))).fst.b.a3
                              (etDecode (List.take (List.length x) (List.drop (0 : Nat) x))).fst.b.a4
                              (etDecode (List.take (List.length x) (List.drop (0 : Nat) x))).fst.b.a5)
                             (etDecode (List.take (List.length x) (List.drop (0 : Nat) x))).fst.ty
                             (etDecode (List.take (List.length x) (List.drop (0 : Nat) x))).fst.body)).fst.mac.a2 =
                        (nbRead
                            (Fm.mk
                             (Mc.mk (etDecode (List.take (List.length x) (List.drop (0 : Nat) x))).fst.a.a0
                              (etDecode (List.take (List.length x) (List.drop (0 : Nat) x))).fst.a.a1
                              (etDecode (List.take (List.length x) (List.drop (0 : Nat) x))).fst.a.a2
                              (etDecode (List.take (List.length x) (List.drop (0 : Nat) x))).fst.a.a3
                              (etDecode (List.take (List.length x) (List.drop (0 : Nat) x))).fst.a.a4
                              (etDecode (List.take (List.length x) (List.drop (0 : Nat) x))).fst.a.a5)
                             (Mc.mk (etDecode (List.take (List.length x) (List.drop (0 : Nat) x))).fst.b.a0
                              (etDecode (List.take (List.length x) (List.drop (0 : Nat) x))).fst.b.a1
                              (etDecode (List.take (List.length x) (List.drop (0 : Nat) x))).fst.b.a2
                              (etDecode (List.take (List.length x) (List.drop (0 : Nat) x))).fst.b.a3
                              (etDecode (List.take (List.length x) (List.drop (0 : Nat) x))).fst.b.a4
                              (etDecode (List.take (List.length x) (List.drop (0 : Nat) x))).fst.b.a5)
                             (etDecode (List.take (List.length x) (List.drop (0 : Nat) x))).fst.ty
                             ((etDecode (List.take (List.length x) (List.drop (0 : Nat) x))).fst.body ++
                              l))).fst.mac.a2) &&
                      (decide
                        ((nbRead
                             (Fm.mk
                              (Mc.mk (etDecode (List.take (List.length x) (List.drop (0 : Nat) x))).fst.a.a0
                               (etDecode (List.take (List.length x) (List.drop (0 : Nat) x))).fst.a.a1
                               (etDecode (List.take (List.length x) (List.drop (0 : Nat) x))).fst.a.a2
                               (etDecode (List.take (List.length x) (List.drop (0 : Nat) x))).fst.a.a3
                               (etDecode (List.take (List.length x) (List.drop (0 : Nat) x))).fst.a.a4
                               (etDecode (List.take (List.length x) (List.drop (0 : Nat) x))).fst.a.a5)
                              (Mc.mk (etDecode (List.take (List.length x) (List.drop (0 : Nat) x))).fst.b.a0
                               (etDecode (List.take (List.length x) (List.drop (0 : Nat) x))).fst.b.a1
                               (etDecode (List.take (List.length x) (List.drop (0 : Nat) x))).fst.b.a2
                               (etDecode (List.take (List.length x) (List.drop (0 : Nat) x))).fst.b.a3
                               (etDecode (List.take (List.length x) (List.drop (0 : Nat) x))).fst.b.a4
                               (etDecode (List.take (List.length x) (List.drop (0 : Nat) x))).fst.b.a5)
                              (etDecode (List.take (List.length x) (List.drop (0 : Nat) x))).fst.ty
                              (etDecode (List.take (List.length x) (List.drop (0 : Nat) x))).fst.body)).fst.mac.a3 =
                         (nbRead
                             (Fm.mk
                              (Mc.mk (etDecode (List.take (List.length x) (List.drop (0 : Nat) x))).fst.a.a0
                               (etDecode (List.take (List.length x) (List.drop (0 : Nat) x))).fst.a.a1
                               (etDecode (List.take (List.length x) (List.drop (0 : Nat) x))).fst.a.a2
                               (etDecode (List.take (List.length x) (List.drop (0 : Nat) x))).fst.a.a3
                               (etDecode (List.take (List.length x) (List.drop (0 : Nat) x))).fst.a.a4
                               (etDecode (List.take (List.length x) (List.drop (0 : Nat) x))).fst.a.a5)
                              (Mc.mk (etDecode (List.take (List.length x) (List.drop (0 : Nat) x))).fst.b.a0
                               (etDecode (List.take (List.length x) (List.drop (0 : Nat) x))).fst.b.a1
                               (etDecode (List.take (List.length x) (List.drop (0 : Nat) x))).fst.b.a2
                               (etDecode (List.take (List.length x) (List.drop (0 : Nat) x))).fst.b.a3
                               (etDecode (List.take (List.length x) (List.drop (0 : Nat) x))).fst.b.a4
                               (etDecode (List.take (List.length x) (List.drop (0 : Nat) x))).fst.b.a5)
                              (etDecode (List.take (List.length x) (List.drop (0 : Nat) x))).fst.ty
                              ((etDecode (List.take (List.length x) (List.drop (0 : Nat) x))).fst.body ++
                               l))).fst.mac.a3) &&
                       (decide
                         ((nbRead
                              (Fm.mk
                               (Mc.mk (etDecode (List.take (List.length x) (List.drop (0 : Nat) x))).fst.a.a0
                                (etDecode (List.take (List.length x) (List.drop (0 : Nat) x))).fst.a.a1
                                (etDecode (List.take (List.length x) (List.drop (0 : Nat) x))).fst.a.a2
                                (etDecode (List.take (List.length x) (List.drop (0 : Nat) x))).fst.a.a3
                                (etDecode (List.take (List.length x) (List.drop (0 : Nat) x))).fst.a.a4
                                (etDecode (List.take (List.length x) (List.drop (0 : Nat) x))).fst.a.a5)
                               (Mc.mk (etDecode (List.take (List.length x) (List.drop (0 : Nat) x))).fst.b.a0
                                (etDecode (List.take (List.length x) (List.drop (0 : Nat) x))).fst.b.a1
                                (etDecode (List.take (List.length x) (List.drop (0 : Nat) x))).fst.b.a2
                                (etDecode (List.take (List.length x) (List.drop (0 : Nat) x))).fst.b.a3
                                (etDecode (List.take (List.length x) (List.drop (0 : Nat) x))).fst.b.a4
                                (etDecode (List.take (List.length x) (List.drop (0 : Nat) x))).fst.b.a5)
                               (etDecode (List.take (List.length x) (List.drop (0 : Nat) x))).fst.ty
                               (etDecode (List.take (List.length x) (List.drop (0 : Nat) x))).fst.body)).fst.mac.a4 =
                          (nbRead
                              (Fm.mk
                               (Mc.mk (etDecode (List.take (List.length x) (List.drop (0 : Nat) x))).fst.a.a0
                                (etDecode (List.take (List.length x) (List.drop (0 : Nat) x))).fst.a.a1
                                (etDecode (List.take (List.length x) (List.drop (0 : Nat) x))).fst.a.a2
                                (etDecode (List.take (List.length x) (List.drop (0 : Nat) x))).fst.a.a3
                                (etDecode (List.take (List.length x) (List.drop (0 : Nat) x))).fst.a.a4
                                (etDecode (List.take (List.length x) (List.drop (0 : Nat) x))).fst.a.a5)
                               (Mc.mk (etDecode (List.take (List.length x) (List.drop (0 : Nat) x))).fst.b.a0
                                (etDecode (List.take (List.length x) (List.drop (0 : Nat) x))).fst.b.a1
                                (etDecode (List.take (List.length x) (List.drop (0 : Nat) x))).fst.b.a2
                                (etDecode (List.take (List.length x) (List.drop (0 : Nat) x))).fst.b.a3
                                (etDecode (List.take (List.length x) (List.drop (0 : Nat) x))).fst.b.a4
                                (etDecode (List.take (List.length x) (List.drop (0 : Nat) x))).fst.b.a5)
                               (etDecode (List.take (List.length x) (List.drop (0 : Nat) x))).fst.ty
                               ((etDecode (List.take (List.length x) (List.drop (0 : Nat) x))).fst.body ++
                                l))).fst.mac.a4) &&
                        (decide
                          ((nbRead
                               (Fm.mk
                                (Mc.mk (etDecode (List.take (List.length x) (List.drop (0 : Nat) x))).fst.a.a0
                                 (etDecode (List.take (List.length x) (List.drop (0 : Nat) x))).fst.a.a1
                                 (etDecode (List.take (List.length x) (List.drop (0 : Nat) x))).fst.a.a2
                                 (etDecode (List.take (List.length x) (List.drop (0 : Nat) x))).fst.a.a3
                                 (etDecode (List.take (List.length x) (List.drop (0 : Nat) x))).fst.a.a4
                                 (etDecode (List.take (List.length x) (List.drop (0 : Nat) x))).fst.a.a5)
                                (Mc.mk (etDecode (List.take (List.length x) (List.drop (0 : Nat) x))).fst.b.a0
                                 (etDecode (List.take (List.length x) (List.drop (0 : Nat) x))).fst.b.a1
                                 (etDecode (List.take (List.length x) (List.drop (0 : Nat) x))).fst.b.a2
                                 (etDecode (List.take (List.length x) (List.drop (0 : Nat) x))).fst.b.a3
                                 (etDecode (List.take (List.length x) (List.drop (0 : Nat) x))).fst.b.a4
                                 (etDecode (List.take (List.length x) (List.drop (0 : Nat) x))).fst.b.a5)
                                (etDecode (List.take (List.length x) (List.drop (0 : Nat) x))).fst.ty
                                (etDecode (List.take (List.length x) (List.drop (0 : Nat) x))).fst.body)).fst.mac.a5 =
                           (nbRead
                               (Fm.mk
                                (Mc.mk (etDecode (List.take (List.length x) (List.drop (0 : Nat) x))).fst.a.a0
                                 (etDecode (List.take (List.length x) (List.drop (0 : Nat) x))).fst.a.a1
                                 (etDecode (List.take (List.length x) (List.drop (0 : Nat) x))).fst.a.a2
                                 (etDecode (List.take (List.length x) (List.drop (0 : Nat) x))).fst.a.a3
                                 (etDecode (List.take (List.length x) (List.drop (0 : Nat) x))).fst.a.a4
                                 (etDecode (List.take (List.length x) (List.drop (0 : Nat) x))).fst.a.a5)
                                (Mc.mk (etDecode (List.take (List.length x) (List.drop (0 : Nat) x))).fst.b.a0
                                 (etDecode (List.take (List.length x) (List.drop (0 : Nat) x))).fst.b.a1
                                 (etDecode (List.take (List.length x) (List.drop (0 : Nat) x))).fst.b.a2
                                 (etDecode (List.take (List.length x) (List.drop (0 : Nat) x))).fst.b.a3
                                 (etDecode (List.take (List.length x) (List.drop (0 : Nat) x))).fst.b.a4
                                 (etDecode (List.take (List.length x) (List.drop (0 : Nat) x))).fst.b.a5)
                                (etDecode (List.take (List.length x) (List.drop (0 : Nat) x))).fst.ty
                                ((etDecode (List.take (List.length x) (List.drop (0 : Nat) x))).fst.body ++
                                 l))).fst.mac.a5) &&
                         (decide
                           ((nbRead
                               (Fm.mk
                                (Mc.mk (etDecode (List.take (List.length x) (List.drop (0 : Nat) x))).fst.a.a0
                                 (etDecode (List.take (List.length x) (List.drop (0 : Nat) x))).fst.a.a1
                                 (etDecode (List.take (List.length x) (List.drop (0 : Nat) x))).fst.a.a2
                                 (etDecode (List.take (List.length x) (List.drop (0 : Nat) x))).fst.a.a3
                                 (etDecode (List.take (List.length x) (List.drop (0 : Nat) x))).fst.a.a4
                                 (etDecode (List.take (List.length x) (List.drop (0 : Nat) x))).fst.a.a5)
                                (Mc.mk (etDecode (List.take (List.length x) (List.drop (0 : Nat) x))).fst.b.a0
                                 (etDecode (List.take (List.length x) (List.drop (0 : Nat) x))).fst.b.a1
                                 (etDecode (List.take (List.length x) (List.drop (0 : Nat) x))).fst.b.a2
                                 (etDecode (List.take (List.length x) (List.drop (0 : Nat) x))).fst.b.a3
                                 (etDecode (List.take (List.length x) (List.drop (0 : Nat) x))).fst.b.a4
                                 (etDecode (List.take (List.length x) (List.drop (0 : Nat) x))).fst.b.a5)
                                (etDecode (List.take (List.length x) (List.drop (0 : Nat) x))).fst.ty
                                (etDecode (List.take (List.length x) (List.drop (0 : Nat) x))).fst.body)).fst.addr =
                            (nbRead
                               (Fm.mk
                                (Mc.mk (etDecode (List.take (List.length x) (List.drop (0 : Nat) x))).fst.a.a0
                                 (etDecode (List.take (List.length x) (List.drop (0 : Nat) x))).fst.a.a1
                                 (etDecode (List.take (List.length x) (List.drop (0 : Nat) x))).fst.a.a2
                                 (etDecode (List.take (List.length x) (List.drop (0 : Nat) x))).fst.a.a3
                                 (etDecode (List.take (List.length x) (List.drop (0 : Nat) x))).fst.a.a4
                                 (etDecode (List.take (List.length x) (List.drop (0 : Nat) x))).fst.a.a5)
                                (Mc.mk (etDecode (List.take (List.length x) (List.drop (0 : Nat) x))).fst.b.a0
                                 (etDecode (List.take (List.length x) (List.drop (0 : Nat) x))).fst.b.a1
                                 (etDecode (List.take (List.length x) (List.drop (0 : Nat) x))).fst.b.a2
                                 (etDecode (List.take (List.length x) (List.drop (0 : Nat) x))).fst.b.a3
                                 (etDecode (List.take (List.length x) (List.drop (0 : Nat) x))).fst.b.a4
                                 (etDecode (List.take (List.length x) (List.drop (0 : Nat) x))).fst.b.a5)
                                (etDecode (List.take (List.length x) (List.drop (0 : Nat) x))).fst.ty
                                ((etDecode (List.take (List.length x) (List.drop (0 : Nat) x))).fst.body ++
                                 l))).fst.addr) &&
                          (decide
                            ((nbRead
                                (Fm.mk
                                 (Mc.mk (etDecode (List.take (List.length x) (List.drop (0 : Nat) x))).fst.a.a0
                                  (etDecode (List.take (List.length x) (List.drop (0 : Nat) x))).fst.a.a1
                                  (etDecode (List.take (List.length x) (List.drop (0 : Nat) x))).fst.a.a2
                                  (etDecode (List.take (List.length x) (List.drop (0 : Nat) x))).fst.a.a3
                                  (etDecode (List.take (List.length x) (List.drop (0 : Nat) x))).fst.a.a4
                                  (etDecode (List.take (List.length x) (List.drop (0 : Nat) x))).fst.a.a5)
                                 (Mc.mk (etDecode (List.take (List.length x) (List.drop (0 : Nat) x))).fst.b.a0
                                  (etDecode (List.take (List.length x) (List.drop (0 : Nat) x))).fst.b.a1
                                  (etDecode (List.take (List.length x) (List.drop (0 : Nat) x))).fst.b.a2
                                  (etDecode (List.take (List.length x) (List.drop (0 : Nat) x))).fst.b.a3
                                  (etDecode (List.take (List.length x) (List.drop (0 : Nat) x))).fst.b.a4
                                  (etDecode (List.take (List.length x) (List.drop (0 : Nat) x))).fst.b.a5)
                                 (etDecode (List.take (List.length x) (List.drop (0 : Nat) x))).fst.ty
                                 (etDecode (List.take (List.length x) (List.drop (0 : Nat) x))).fst.body)).fst.target =
                             (nbRead
                                (Fm.mk
                                 (Mc.mk (etDecode (List.take (List.length x) (List.drop (0 : Nat) x))).fst.a.a0
                                  (etDecode (List.take (List.length x) (List.drop (0 : Nat) x))).fst.a.a1
                                  (etDecode (List.take (List.length x) (List.drop (0 : Nat) x))).fst.a.a2
                                  (etDecode (List.take (List.length x) (List.drop (0 : Nat) x))).fst.a.a3
                                  (etDecode (List.take (List.length x) (List.drop (0 : Nat) x))).fst.a.a4
                                  (etDecode (List.take (List.length x) (List.drop (0 : Nat) x))).fst.a.a5)
                                 (Mc.mk (etDecode (List.take (List.length x) (List.drop (0 : Nat) x))).fst.b.a0
                                  (etDecode (List.take (List.length x) (List.drop (0 : Nat) x))).fst.b.a1
                                  (etDecode (List.take (List.length x) (List.drop (0 : Nat) x))).fst.b.a2
                                  (etDecode (List.take (List.length x) (List.drop (0 : Nat) x))).fst.b.a3
                                  (etDecode (List.take (List.length x) (List.drop (0 : Nat) x))).fst.b.a4
                                  (etDecode (List.take (List.length x) (List.drop (0 : Nat) x))).fst.b.a5)
                                 (etDecode (List.take (List.length x) (List.drop (0 : Nat) x))).fst.ty
                                 ((etDecode (List.take (List.length x) (List.drop (0 : Nat) x))).fst.body ++
                                  l))).fst.target) &&
                           decide
                            ((nbRead
                                (Fm.mk
                                 (Mc.mk (etDecode (List.take (List.length x) (List.drop (0 : Nat) x))).fst.a.a0
                                  (etDecode (List.take (List.length x) (List.drop (0 : Nat) x))).fst.a.a1
                                  (etDecode (List.take (List.length x) (List.drop (0 : Nat) x))).fst.a.a2
                                  (etDecode (List.take (List.length x) (List.drop (0 : Nat) x))).fst.a.a3
                                  (etDecode (List.take (List.length x) (List.drop (0 : Nat) x))).fst.a.a4
                                  (etDecode (List.take (List.length x) (List.drop (0 : Nat) x))).fst.a.a5)
                                 (Mc.mk (etDecode (List.take (List.length x) (List.drop (0 : Nat) x))).fst.b.a0
                                  (etDecode (List.take (List.length x) (List.drop (0 : Nat) x))).fst.b.a1
                                  (etDecode (List.take (List.length x) (List.drop (0 : Nat) x))).fst.b.a2
                                  (etDecode (List.take (List.length x) (List.drop (0 : Nat) x))).fst.b.a3
                                  (etDecode (List.take (List.length x) (List.drop (0 : Nat) x))).fst.b.a4
                                  (etDecode (List.take (List.length x) (List.drop (0 : Nat) x))).fst.b.a5)
                                 (etDecode (List.take (List.length x) (List.drop (0 : Nat) x))).fst.ty
                                 (etDecode (List.take (List.length x) (List.drop (0 : Nat) x))).fst.body)).fst.asked =
                             (nbRead
                                (Fm.mk
                                 (Mc.mk (etDecode (List.take (List.length x) (List.drop (0 : Nat) x))).fst.a.a0
                                  (etDecode (List.take (List.length x) (List.drop (0 : Nat) x))).fst.a.a1
                                  (etDecode (List.take (List.length x) (List.drop (0 : Nat) x))).fst.a.a2
                                  (etDecode (List.take (List.length x) (List.drop (0 : Nat) x))).fst.a.a3
                                  (etDecode (List.take (List.length x) (List.drop (0 : Nat) x))).fst.a.a4
                                  (etDecode (List.take (List.length x) (List.drop (0 : Nat) x))).fst.a.a5)
                                 (Mc.mk (etDecode (List.take (List.length x) (List.drop (0 : Nat) x))).fst.b.a0
                                  (etDecode (List.take (List.length x) (List.drop (0 : Nat) x))).fst.b.a1
                                  (etDecode (List.take (List.length x) (List.drop (0 : Nat) x))).fst.b.a2
                                  (etDecode (List.take (List.length x) (List.drop (0 : Nat) x))).fst.b.a3
                                  (etDecode (List.take (List.length x) (List.drop (0 : Nat) x))).fst.b.a4
                                  (etDecode (List.take (List.length x) (List.drop (0 : Nat) x))).fst.b.a5)
                                 (etDecode (List.take (List.length x) (List.drop (0 : Nat) x))).fst.ty
                                 ((etDecode (List.take (List.length x) (List.drop (0 : Nat) x))).fst.body ++
                                  l))).fst.asked))))))))))
                  (K
                   (AVal.bool
                    (decide
                     ((nbRead
                        (Fm.mk
                         (Mc.mk (etDecode (List.take (List.length x) (List.drop (0 : Nat) x))).fst.a.a0
                          (etDecode (List.take (List.length x) (List.drop (0 : Nat) x))).fst.a.a1
                          (etDecode (List.take (List.length x) (List.drop (0 : Nat) x))).fst.a.a2
                          (etDecode (List.take (List.length x) (List.drop (0 : Nat) x))).fst.a.a3
                          (etDecode (List.take (List.length x) (List.drop (0 : Nat) x))).fst.a.a4
                          (etDecode (List.take (List.length x) (List.drop (0 : Nat) x))).fst.a.a5)
                         (Mc.mk (etDecode (List.take (List.length x) (List.drop (0 : Nat) x))).fst.b.a0
                          (etDecode (List.take (List.length x) (List.drop (0 : Nat) x))).fst.b.a1
                          (etDecode (List.take (List.length x) (List.drop (0 : Nat) x))).fst.b.a2
                          (etDecode (List.take (List.length x) (List.drop (0 : Nat) x))).fst.b.a3
                          (etDecode (List.take (List.length x) (List.drop (0 : Nat) x))).fst.b.a4
                          (etDecode (List.take (List.length x) (List.drop (0 : Nat) x))).fst.b.a5)
                         (etDecode (List.take (List.length x) (List.drop (0 : Nat) x))).fst.ty
                         (List.take (27 : Nat)
                          ((etDecode (List.take (List.length x) (List.drop (0 : Nat) x))).fst.body ++ l)))).snd =
                      (40 : Int))))
                   [])
                  (K (AVal.bool false) []))
                 (K (AVal.bool false) []))
                (K (AVal.bool false) [])))
      (impP false ((0 : Int) ≤ (0 : Int) ∧ (0 : Int) < (2 : Int)) ∧ K (AVal.bool true) [])) := by kernel_rfl
theorem neighPadded.core (m0 m1 m2 m3 m4 m5 : UInt8) (a b l : List UInt8)  (h_a : a.length ≤ 140737488351232) (h_b : b.length ≤ 140737488351232) (h_l : l.length ≤ 140737488351232) :
    fnP Try.prog Tlw ann_outriderlaw04_NeighPadded Try.f6 [.agg [.byte m0, .byte m1, .byte m2, .byte m3, .byte m4, .byte m5], .agg [.str a, .str b], .roB l] [] (fun v _ => v = .bool true) := by
  rw [NeighPadded_eq]
  have c1 : ((0 : Int) ≤ 0 ∧ (0 : Int) < 2) = True := eq_true (by omega)
  have c2 : ((0 : Int) ≤ 1 ∧ (1 : Int) < 2) = True := eq_true (by omega)
  have hi2 : ∀ g, impP g True = True := fun g => eq_true (fun _ => trivial)
  have etaF : ∀ f : Fm, (⟨⟨f.a.a0, f.a.a1, f.a.a2, f.a.a3, f.a.a4, f.a.a5⟩, ⟨f.b.a0, f.b.a1, f.b.a2, f.b.a3, f.b.a4, f.b.a5⟩, f.ty, f.body⟩ : Fm) = f := fun _ => rfl
  simp only [c1, c2, hi2, true_and]
  rcases nbAsk_cases ⟨m0, m1, m2, m3, m4, m5⟩ a b with ⟨_, e⟩ | ⟨⟨ha, hb⟩, e⟩ | ⟨⟨ha, hb⟩, e⟩
  · rw [e]; simp [optP]
  · obtain ⟨x, x1, _⟩ := says_nd (k := 135) (fl := 0) (op := 1) (tg := b) (m := ⟨m0, m1, m2, m3, m4, m5⟩) (card := (etMany (nbNear b)).1) (src := a) (dst := nbNear b) hb ha (near_len hb) (nbReadP_ask hb)
    rw [e, x1, optP_s]
    exact brP_i (fun _ => trivial) (fun h => by simp only [Bool.and_eq_true, Bool.or_eq_true, Bool.and_eq_false_iff, Bool.or_eq_false_iff, decide_eq_true_eq, decide_eq_false_iff_not, Bool.not_eq_true', Bool.not_eq_false', Bool.not_true, Bool.not_false, Bool.true_and, Bool.and_true, Bool.false_or, Bool.or_false, beq_iff_eq, beq_eq_false_iff_ne, ne_eq] at h; exfalso; omega)
  · obtain ⟨x, x1, x2, x3, x4, x5⟩ := says_arp (k := 1) (t := allMc) (m := ⟨m0, m1, m2, m3, m4, m5⟩) (o := noMc) (a := a) (b := b) ha hb (.inl rfl)
    rw [e, x1, optP_s]
    refine brP_i (fun _ => trivial) (fun h => ?_)
    simp only [Bool.and_eq_true, Bool.or_eq_true, Bool.and_eq_false_iff, Bool.or_eq_false_iff, decide_eq_true_eq, decide_eq_false_iff_not, Bool.not_eq_true', Bool.not_eq_false', Bool.not_true, Bool.not_false, Bool.true_and, Bool.and_true, Bool.false_or, Bool.or_false, beq_iff_eq, beq_eq_false_iff_ne, ne_eq] at h
    have hl : (nbArpB 1 ⟨m0, m1, m2, m3, m4, m5⟩ a noMc b).length = 28 := (nbArp_some (k := 1) (t := allMc) (m := ⟨m0, m1, m2, m3, m4, m5⟩) (o := noMc) ha hb).2.2
    have hr := nbReadArp_is (k := 1) (m := ⟨m0, m1, m2, m3, m4, m5⟩) (o := noMc) ha hb (.inl rfl)
    have hr0 := hr []
    rw [List.append_nil] at hr0
    have hr1 := hr l
    have hc : nbReadArp (List.take 27 (nbArpB 1 ⟨m0, m1, m2, m3, m4, m5⟩ a noMc b ++ l)) = (noNt, 40) := nbReadArp_cut (by simp; omega)
    have l1 : x.length ≤ 140737488355328 := by omega
    simp only [List.drop_zero, List.take_length, x2, etaF]
    have hty : ∀ m n b, nbRead ⟨m, n, 2054, b⟩ = nbReadArp b := fun m n b => if_pos rfl
    simp only [hty, hr0, hr1, hc, List.length_append, List.length_take, hl]
    refine ⟨l1, by omega, by omega, by omega, by omega, by omega, ?_⟩
    simp [brP]
end Go.Proofs.Ytcooilllmcgcmaa.Ae
namespace Go.Proofs.Ytcooilllmcgcmaa
open Go Go.RowKit Ae
attribute [local irreducible] fnP in
set_option maxRecDepth 100000 in
theorem neighPadded.walk {H : Type} {enc : TypeId × Value → H} (W : World) (args : Array Value) (hn : args.size = 3)
    (h : ∀ (j : Nat) t v, Try.f6.params[j]? = some t → args[j]? = some v → RdV enc false Try.prog W t v) :
    Calls Try.prog 6 args W fun e w' => e = .returned (.bool true) ∧ Below W.heap.size W w' := by
  obtain ⟨v0, v1, v2, rfl⟩ := args3 hn
  obtain ⟨vs0, hs0, hv0⟩ := arg_agg (b := false) (d := 6) (ks := [.byte, .byte, .byte, .byte, .byte, .byte]) (.inr ⟨_, _, Try.underlying23⟩) (by kernel_rfl) (h 0 23 v0 rfl rfl)
  obtain ⟨_, _, rfl, ⟨m0, rfl⟩, _, _, rfl, ⟨m1, rfl⟩, _, _, rfl, ⟨m2, rfl⟩, _, _, rfl, ⟨m3, rfl⟩, _, _, rfl, ⟨m4, rfl⟩, _, _, rfl, ⟨m5, rfl⟩, rfl⟩ := hs0
  obtain ⟨vs1, hs1, hv1⟩ := arg_agg (b := false) (d := 6) (ks := [.str, .str]) (.inr ⟨_, _, Try.underlying38⟩) (by kernel_rfl) (h 1 38 v1 rfl rfl)
  obtain ⟨_, _, rfl, ⟨a, rfl, h_a⟩, _, _, rfl, ⟨b, rfl, h_b⟩, rfl⟩ := hs1
  obtain ⟨l, h_l, hv2⟩ := arg_bytes (b := false) (m := Mp.nil) (G := []) Try.underlying40 Try.underlying5 (by kernel_rfl) (by kernel_rfl) (h 2 40 v2 rfl rfl)
  obtain ⟨r, H1, hr, hG⟩ := fn_sound Tlw_sound mixed Try.func6 (by decide +kernel) (neighPadded.core m0 m1 m2 m3 m4 m5 a b l (len_lim h_a) (len_lim h_b) (len_lim h_l))
  subst hr
  exact law_walk hG (vl_cons hv0 (vl_cons hv1 (vl_cons hv2 vl_nil)))

namespace neighPadded
theorem spec {H : Type} (ds : List (DataW H)) (h : ds.length = Try.f6.params.size) : Rows.neighPaddedSpec.fn H ds = { results := [.lit (.bool true)], args := ds } := by
  have h' : ds.length = 3 := h
  match ds, h' with
  | [_, _, _], _ => rfl

set_option maxRecDepth 100000 in
theorem lifted (os : Os) (started : os.Started) (H : Type) (enc : TypeId × Value → H) :
    ReturnsInHanded {} Try.checked os 6 .any (Rows.neighPaddedSpec.pre6 enc Try.prog Try.f6 Rows.neighPaddedRow.domain false) (Rows.neighPaddedSpec.post enc Try.prog Try.f6 false true false false) :=
  lifted_said (C := Try.checked) (tb := 4) own started (by kernel_rfl) Try.func6
    (ChangeSpec.witness6 (enc := enc) (C := Try.checked) false ⟨#[], #[.agg #[.int .u8 0, .int .u8 0, .int .u8 0, .int .u8 0, .int .u8 0, .int .u8 0], .agg #[.string .empty, .string .empty], .slice none 0 0], []⟩ 8 (by kernel_rfl) (by kernel_rfl) (by kernel_rfl) (by kernel_rfl))
    rfl spec rfl Try.underlying4 laidOut (by kernel_rfl) walk

theorem over : Rows.neighPaddedRow.holds Try.pinned (OpenSpec.ofChange Rows.neighPaddedSpec) :=
  OpenClaim.holds_of_wide 6 Try.f6 rfl rfl rfl rfl rfl rfl rfl ⟨rfl, rfl, rfl, rfl, rfl⟩ rfl rfl rfl rfl rfl (by kernel_rfl) Try.func6 (by kernel_rfl)
    (of_decide_eq_true (by kernel_rfl)) (by unfold Func.isWrapper; first | (rw [if_pos (by decide +kernel)]; kernel_rfl) | (rw [if_neg (by decide +kernel)]; exact ⟨rfl, rfl⟩))
    (fun os started H enc _ => lifted os started H enc)

theorem proved : Rows.NeighPaddedSaid := over
#print axioms proved
end neighPadded

end Go.Proofs.Ytcooilllmcgcmaa

