/- NeighAsks: who asks, tells and claims writes what the document says, or is refused. No conditions. -/
import Derived.Test.YtcooilllmcgcmaaAl
set_option linter.unusedSimpArgs false
set_option linter.unusedVariables false
namespace Go.Proofs.Ytcooilllmcgcmaa.Ae
open Go Go.RowKit
def ann_outriderlaw04_NeighAsks : Nat → List Nat × Nat × List (List Nat)
  | 11 => ([], 22, [[], [0], [0, 1], [0, 1, 2], [0, 1], [0, 1, 4], [0, 1, 2, 3, 4, 5], [0, 1, 2, 3, 4, 5, 6], [0, 1, 2, 3, 4, 5, 6, 7], [0, 1, 2, 3, 4, 5, 6, 7, 8], [0, 1, 2, 3, 4, 5, 6, 7, 8], [0, 1, 2, 3, 4, 5, 6, 7, 8, 9, 10], [0, 1, 2, 3, 4, 5, 6, 7, 8, 9, 10, 11], [0, 1, 2, 3, 4, 5, 6, 7, 8, 9, 10, 11, 12], [0, 1, 2, 3, 4, 5, 6, 7, 8, 9, 10, 11, 12, 13], [0, 1, 2, 3, 4, 5, 6, 7, 8, 9, 10, 11, 12, 13, 14], [0, 1, 2, 3, 4, 5, 6, 7, 8, 9, 10, 11, 12, 13, 14, 15], [0, 1, 2, 3, 4, 5, 6, 7, 8, 9, 10, 11, 12, 13], [0, 1, 2, 3, 4, 5, 6, 7, 8, 9, 10, 11, 12, 13, 17], [0, 1, 2, 3, 4, 5, 6, 7, 8, 9, 10, 11, 12, 13, 14, 15, 16, 17, 18], [0, 1, 2, 3, 4, 5, 6, 7, 8, 9, 10, 11, 12, 13, 14, 15, 16, 17, 18, 19], [0, 1, 2, 3, 4, 5, 6, 7, 8, 9, 10, 11, 12, 13, 14, 15, 16, 17, 18, 19, 20]])
  | 2000003 => ([], 11, [[], [0], [0, 1], [0, 1, 2], [0, 1, 2, 3], [0, 1, 2, 3, 4], [0, 1, 2, 3, 4, 5], [0, 1, 2, 3, 4, 5, 6], [0, 1, 2, 3, 4, 5, 6, 7], [0, 1, 2, 3, 4, 5, 6, 7, 8]])
  | 2000007 => ([], 11, [[], [0], [0, 1], [0, 1, 2], [0, 1, 2, 3], [0, 1, 2, 3, 4], [0, 1, 2, 3, 4, 5], [0, 1, 2, 3, 4, 5, 6], [0, 1, 2, 3, 4, 5, 6, 7], [0, 1, 2, 3, 4, 5, 6, 7, 8]])
  | _ => ([], 0, [])
set_option maxRecDepth 100000 in
theorem NeighAsks_eq (m0 m1 m2 m3 m4 m5 t0 t1 t2 t3 t4 t5 : UInt8) (a b : List UInt8) (K : AVal → Hp → Prop) : fnP Try.prog Tlw ann_outriderlaw04_NeighAsks Try.f7 [.agg [.byte m0, .byte m1, .byte m2, .byte m3, .byte m4, .byte m5], .agg [.byte t0, .byte t1, .byte t2, .byte t3, .byte t4, .byte t5], .agg [.str a, .str b]] [] K = (
  ((0 : Int) ≤ (0 : Int) ∧ (0 : Int) < (2 : Int)) ∧
    ((0 : Int) ≤ (1 : Int) ∧ (1 : Int) < (2 : Int)) ∧
     optP (nbAsk (Mc.mk m0 m1 m2 m3 m4 m5) a b)
      (fun x =>
       ((0 : Int) ≤ (0 : Int) ∧ (0 : Int) < (2 : Int)) ∧
        ((0 : Int) ≤ (1 : Int) ∧ (1 : Int) < (2 : Int)) ∧
         optP (nbAsk (Mc.mk m0 m1 m2 m3 m4 m5) a b)
          (fun x_1 =>
           brP
            (!decide
               (List.take (List.length x) (List.drop (0 : Nat) x) =
                List.take (List.length x_1) (List.drop (0 : Nat) x_1)) ||
             false)
            (K (AVal.bool false) [])
            (((0 : Int) ≤ (0 : Int) ∧ (0 : Int) < (2 : Int)) ∧
             ((0 : Int) ≤ (1 : Int) ∧ (1 : Int) < (2 : Int)) ∧
              optP (nbTell (Mc.mk m0 m1 m2 m3 m4 m5) a (Mc.mk t0 t1 t2 t3 t4 t5) b)
               (fun x =>
                ((0 : Int) ≤ (0 : Int) ∧ (0 : Int) < (2 : Int)) ∧
                 ((0 : Int) ≤ (1 : Int) ∧ (1 : Int) < (2 : Int)) ∧
                  optP (nbTell (Mc.mk m0 m1 m2 m3 m4 m5) a (Mc.mk t0 t1 t2 t3 t4 t5) b)
                   (fun x_2 =>
                    brP
                     (!decide
                        (List.take (List.length x) (List.drop (0 : Nat) x) =
                         List.take (List.length x_2) (List.drop (0 : Nat) x_2)) ||
                      false)
                     (K (AVal.bool false) [])
                     (((0 : Int) ≤ (0 : Int) ∧ (0 : Int) < (2 : Int)) ∧
                      optP (nbClaim (Mc.mk m0 m1 m2 m3 m4 m5) a)
                       (fun x =>
                        ((0 : Int) ≤ (0 : Int) ∧ (0 : Int) < (2 : Int)) ∧
                         optP (nbClaim (Mc.mk m0 m1 m2 m3 m4 m5) a)
                          (fun x_3 =>
                           brP
                            (decide
                             (List.take (List.length x) (List.drop (0 : Nat) x) =
                              List.take (List.length x_3) (List.drop (0 : Nat) x_3)))
                            (((0 : Int) ≤ (0 : Int) ∧ (0 : Int) < (2 : Int)) ∧
                             ((0 : Int) ≤ (0 : Int) ∧ (0 : Int) < (2 : Int)) ∧
                              K (AVal.bool (decide (nbNear a = nbNear a))) [])
                            (K (AVal.bool false) []))
                          (brP (decide (List.take (List.length x) (List.drop (0 : Nat) x) = [])) (K (AVal.bool false) [])
                           (K (AVal.bool false) [])))
                       (((0 : Int) ≤ (0 : Int) ∧ (0 : Int) < (2 : Int)) ∧
                        optP (nbClaim (Mc.mk m0 m1 m2 m3 m4 m5) a)
                         (fun x =>
                          brP (decide ([] = List.take (List.length x) (List.drop (0 : Nat) x))) (K (AVal.bool false) [])
                           (K (AVal.bool false) []))
                         (((0 : Int) ≤ (0 : Int) ∧ (0 : Int) < (2 : Int)) ∧
                          ((0 : Int) ≤ (0 : Int) ∧ (0 : Int) < (2 : Int)) ∧
                           K (AVal.bool (decide (nbNear a = nbNear a))) []))))
                   (brP (!decide (List.take (List.length x) (List.drop (0 : Nat) x) = []) || true)
                    (K (AVal.bool false) [])
                    (((0 : Int) ≤ (0 : Int) ∧ (0 : Int) < (2 : Int)) ∧
                     optP (nbClaim (Mc.mk m0 m1 m2 m3 m4 m5) a)
                      (fun x =>
                       ((0 : Int) ≤ (0 : Int) ∧ (0 : Int) < (2 : Int)) ∧
                        optP (nbClaim (Mc.mk m0 m1 m2 m3 m4 m5) a)
                         (fun x_2 =>
                          brP
                           (decide
                            (List.take (List.length x) (List.drop (0 : Nat) x) =
                             List.take (List.length x_2) (List.drop (0 : Nat) x_2)))
                           (((0 : Int) ≤ (0 : Int) ∧ (0 : Int) < (2 : Int)) ∧
                            ((0 : Int) ≤ (0 : Int) ∧ (0 : Int) < (2 : Int)) ∧
                             K (AVal.bool (decide (nbNear a = nbNear a))) [])
                           (K (AVal.bool false) []))
                         (brP (decide (List.take (List.length x) (List.drop (0 : Nat) x) = [])) (K (AVal.bool false) [])
                          (K (AVal.bool false) [])))
                      (((0 : Int) ≤ (0 : Int) ∧ (0 : Int) < (2 : Int)) ∧
                       optP (nbClaim (Mc.mk m0 m1 m2 m3 m4 m5) a)
                        (fun x =>
                         brP (decide ([] = List.take (List.length x) (List.drop (0 : Nat) x))) (K (AVal.bool false) [])
                          (K (AVal.bool false) []))
                        (((0 : Int) ≤ (0 : Int) ∧ (0 : Int) < (2 : Int)) ∧
                         ((0 : Int) ≤ (0 : Int) ∧ (0 : Int) < (2 : Int)) ∧
                          K (AVal.bool (decide (nbNear a = nbNear a))) [])))))
               (((0 : Int) ≤ (0 : Int) ∧ (0 : Int) < (2 : Int)) ∧
                ((0 : Int) ≤ (1 : Int) ∧ (1 : Int) < (2 : Int)) ∧
                 optP (nbTell (Mc.mk m0 m1 m2 m3 m4 m5) a (Mc.mk t0 t1 t2 t3 t4 t5) b)
                  (fun x =>
                   brP (!decide ([] = List.take (List.length x) (List.drop (0 : Nat) x)) || true) (K (AVal.bool false) [])
                    (((0 : Int) ≤ (0 : Int) ∧ (0 : Int) < (2 : Int)) ∧
                     optP (nbClaim (Mc.mk m0 m1 m2 m3 m4 m5) a)
                      (fun x =>
                       ((0 : Int) ≤ (0 : Int) ∧ (0 : Int) < (2 : Int)) ∧
                        optP (nbClaim (Mc.mk m0 m1 m2 m3 m4 m5) a)
                         (fun x_2 =>
                          brP
                           (decide
                            (List.take (List.length x) (List.drop (0 : Nat) x) =
                             List.take (List.length x_2) (List.drop (0 : Nat) x_2)))
                           (((0 : Int) ≤ (0 : Int) ∧ (0 : Int) < (2 : Int)) ∧
                            ((0 : Int) ≤ (0 : Int) ∧ (0 : Int) < (2 : Int)) ∧
                             K (AVal.bool (decide (nbNear a = nbNear a))) [])
                           (K (AVal.bool false) []))
                         (brP (decide (List.take (List.length x) (List.drop (0 : Nat) x) = [])) (K (AVal.bool false) [])
                          (K (AVal.bool false) [])))
                      (((0 : Int) ≤ (0 : Int) ∧ (0 : Int) < (2 : Int)) ∧
                       optP (nbClaim (Mc.mk m0 m1 m2 m3 m4 m5) a)
                        (fun x =>
                         brP (decide ([] = List.take (List.length x) (List.drop (0 : Nat) x))) (K (AVal.bool false) [])
                          (K (AVal.bool false) []))
                        (((0 : Int) ≤ (0 : Int) ∧ (0 : Int) < (2 : Int)) ∧
                         ((0 : Int) ≤ (0 : Int) ∧ (0 : Int) < (2 : Int)) ∧
                          K (AVal.bool (decide (nbNear a = nbNear a))) []))))
                  (((0 : Int) ≤ (0 : Int) ∧ (0 : Int) < (2 : Int)) ∧
                   optP (nbClaim (Mc.mk m0 m1 m2 m3 m4 m5) a)
                    (fun x =>
                     ((0 : Int) ≤ (0 : Int) ∧ (0 : Int) < (2 : Int)) ∧
                      optP (nbClaim (Mc.mk m0 m1 m2 m3 m4 m5) a)
                       (fun x_2 =>
                        brP
                         (decide
                          (List.take (List.length x) (List.drop (0 : Nat) x) =
                           List.take (List.length x_2) (List.drop (0 : Nat) x_2)))
                         (((0 : Int) ≤ (0 : Int) ∧ (0 : Int) < (2 : Int)) ∧
                          ((0 : Int) ≤ (0 : Int) ∧ (0 : Int) < (2 : Int)) ∧
                           K (AVal.bool (decide (nbNear a = nbNear a))) [])
                         (K (AVal.bool false) []))
                       (brP (decide (List.take (List.length x) (List.drop (0 : Nat) x) = [])) (K (AVal.bool false) [])
                        (K (AVal.bool false) [])))
                    (((0 : Int) ≤ (0 : Int) ∧ (0 : Int) < (2 : Int)) ∧
                     optP (nbClaim (Mc.mk m0 m1 m2 m3 m4 m5) a)
                      (fun x =>
                       brP (decide ([] = List.take (List.length x) (List.drop (0 : Nat) x))) (K (AVal.bool false) [])
                        (K (AVal.bool false) []))
                      (((0 : Int) ≤ (0 : Int) ∧ (0 : Int) < (2 : Int)) ∧
                       ((0 : Int) ≤ (0 : Int) ∧ (0 : Int) < (2 : Int)) ∧
                        K (AVal.bool (decide (nbNear a = nbNear a))) []))))))
          (brP (!decide (List.take (List.length x) (List.drop (0 : Nat) x) = []) || true) (K (AVal.bool false) [])
           (((0 : Int) ≤ (0 : Int) ∧ (0 : Int) < (2 : Int)) ∧
            ((0 : Int) ≤ (1 : Int) ∧ (1 : Int) < (2 : Int)) ∧
             optP (nbTell (Mc.mk m0 m1 m2 m3 m4 m5) a (Mc.mk t0 t1 t2 t3 t4 t5) b)
              (fun x =>
               ((0 : Int) ≤ (0 : Int) ∧ (0 : Int) < (2 : Int)) ∧
                ((0 : Int) ≤ (1 : Int) ∧ (1 : Int) < (2 : Int)) ∧
                 optP (nbTell (Mc.mk m0 m1 m2 m3 m4 m5) a (Mc.mk t0 t1 t2 t3 t4 t5) b)
                  (fun x_1 =>
                   brP
                    (!decide
                       (List.take (List.length x) (List.drop (0 : Nat) x) =
                        List.take (List.length x_1) (List.drop (0 : Nat) x_1)) ||
                     false)
                    (K (AVal.bool false) [])
                    (((0 : Int) ≤ (0 : Int) ∧ (0 : Int) < (2 : Int)) ∧
                     optP (nbClaim (Mc.mk m0 m1 m2 m3 m4 m5) a)
                      (fun x =>
                       ((0 : Int) ≤ (0 : Int) ∧ (0 : Int) < (2 : Int)) ∧
                        optP (nbClaim (Mc.mk m0 m1 m2 m3 m4 m5) a)
                         (fun x_2 =>
                          brP
                           (decide
                            (List.take (List.length x) (List.drop (0 : Nat) x) =
                             List.take (List.length x_2) (List.drop (0 : Nat) x_2)))
                           (((0 : Int) ≤ (0 : Int) ∧ (0 : Int) < (2 : Int)) ∧
                            ((0 : Int) ≤ (0 : Int) ∧ (0 : Int) < (2 : Int)) ∧
                             K (AVal.bool (decide (nbNear a = nbNear a))) [])
                           (K (AVal.bool false) []))
                         (brP (decide (List.take (List.length x) (List.drop (0 : Nat) x) = [])) (K (AVal.bool false) [])
                          (K (AVal.bool false) [])))
                      (((0 : Int) ≤ (0 : Int) ∧ (0 : Int) < (2 : Int)) ∧
                       optP (nbClaim (Mc.mk m0 m1 m2 m3 m4 m5) a)
                        (fun x =>
                         brP (decide ([] = List.take (List.length x) (List.drop (0 : Nat) x))) (K (AVal.bool false) [])
                          (K (AVal.bool false) []))
                        (((0 : Int) ≤ (0 : Int) ∧ (0 : Int) < (2 : Int)) ∧
                         ((0 : Int) ≤ (0 : Int) ∧ (0 : Int) < (2 : Int)) ∧
                          K (AVal.bool (decide (nbNear a = nbNear a))) []))))
                  (brP (!decide (List.take (List.length x) (List.drop (0 : Nat) x) = []) || true) (K (AVal.bool false) [])
                   (((0 : Int) ≤ (0 : Int) ∧ (0 : Int) < (2 : Int)) ∧
                    optP (nbClaim (Mc.mk m0 m1 m2 m3 m4 m5) a)
                     (fun x =>
                      ((0 : Int) ≤ (0 : Int) ∧ (0 : Int) < (2 : Int)) ∧
                       optP (nbClaim (Mc.mk m0 m1 m2 m3 m4 m5) a)
                        (fun x_1 =>
                         brP
                          (decide
                           (List.take (List.length x) (List.drop (0 : Nat) x) =
                            List.take (List.length x_1) (List.drop (0 : Nat) x_1)))
                          (((0 : Int) ≤ (0 : Int) ∧ (0 : Int) < (2 : Int)) ∧
                           ((0 : Int) ≤ (0 : Int) ∧ (0 : Int) < (2 : Int)) ∧
                            K (AVal.bool (decide (nbNear a = nbNear a))) [])
                          (K (AVal.bool false) []))
                        (brP (decide (List.take (List.length x) (List.drop (0 : Nat) x) = [])) (K (AVal.bool false) [])
                         (K (AVal.bool false) [])))
                     (((0 : Int) ≤ (0 : Int) ∧ (0 : Int) < (2 : Int)) ∧
                      optP (nbClaim (Mc.mk m0 m1 m2 m3 m4 m5) a)
                       (fun x =>
                        brP (decide ([] = List.take (List.length x) (List.drop (0 : Nat) x))) (K (AVal.bool false) [])
                         (K (AVal.bool false) []))
                       (((0 : Int) ≤ (0 : Int) ∧ (0 : Int) < (2 : Int)) ∧
                        ((0 : Int) ≤ (0 : Int) ∧ (0 : Int) < (2 : Int)) ∧
                         K (AVal.bool (decide (nbNear a = nbNear a))) [])))))
              (((0 : Int) ≤ (0 : Int) ∧ (0 : Int) < (2 : Int)) ∧
               ((0 : Int) ≤ (1 : Int) ∧ (1 : Int) < (2 : Int)) ∧
                optP (nbTell (Mc.mk m0 m1 m2 m3 m4 m5) a (Mc.mk t0 t1 t2 t3 t4 t5) b)
                 (fun x =>
                  brP (!decide ([] = List.take (List.length x) (List.drop (0 : Nat) x)) || true) (K (AVal.bool false) [])
                   (((0 : Int) ≤ (0 : Int) ∧ (0 : Int) < (2 : Int)) ∧
                    optP (nbClaim (Mc.mk m0 m1 m2 m3 m4 m5) a)
                     (fun x =>
                      ((0 : Int) ≤ (0 : Int) ∧ (0 : Int) < (2 : Int)) ∧
                       optP (nbClaim (Mc.mk m0 m1 m2 m3 m4 m5) a)
                        (fun x_1 =>
                         brP
                          (decide
                           (List.take (List.length x) (List.drop (0 : Nat) x) =
                            List.take (List.length x_1) (List.drop (0 : Nat) x_1)))
                          (((0 : Int) ≤ (0 : Int) ∧ (0 : Int) < (2 : Int)) ∧
                           ((0 : Int) ≤ (0 : Int) ∧ (0 : Int) < (2 : Int)) ∧
                            K (AVal.bool (decide (nbNear a = nbNear a))) [])
                          (K (AVal.bool false) []))
                        (brP (decide (List.take (List.length x) (List.drop (0 : Nat) x) = [])) (K (AVal.bool false) [])
                         (K (AVal.bool false) [])))
                     (((0 : Int) ≤ (0 : Int) ∧ (0 : Int) < (2 : Int)) ∧
                      optP (nbClaim (Mc.mk m0 m1 m2 m3 m4 m5) a)
                       (fun x =>
                        brP (decide ([] = List.take (List.length x) (List.drop (0 : Nat) x))) (K (AVal.bool false) [])
                         (K (AVal.bool false) []))
                       (((0 : Int) ≤ (0 : Int) ∧ (0 : Int) < (2 : Int)) ∧
                        ((0 : Int) ≤ (0 : Int) ∧ (0 : Int) < (2 : Int)) ∧
                         K (AVal.bool (decide (nbNear a = nbNear a))) []))))
                 (((0 : Int) ≤ (0 : Int) ∧ (0 : Int) < (2 : Int)) ∧
                  optP (nbClaim (Mc.mk m0 m1 m2 m3 m4 m5) a)
                   (fun x =>
                    ((0 : Int) ≤ (0 : Int) ∧ (0 : Int) < (2 : Int)) ∧
                     optP (nbClaim (Mc.mk m0 m1 m2 m3 m4 m5) a)
                      (fun x_1 =>
                       brP
                        (decide
                         (List.take (List.length x) (List.drop (0 : Nat) x) =
                          List.take (List.length x_1) (List.drop (0 : Nat) x_1)))
                        (((0 : Int) ≤ (0 : Int) ∧ (0 : Int) < (2 : Int)) ∧
                         ((0 : Int) ≤ (0 : Int) ∧ (0 : Int) < (2 : Int)) ∧
                          K (AVal.bool (decide (nbNear a = nbNear a))) [])
                        (K (AVal.bool false) []))
                      (brP (decide (List.take (List.length x) (List.drop (0 : Nat) x) = [])) (K (AVal.bool false) [])
                       (K (AVal.bool false) [])))
                   (((0 : Int) ≤ (0 : Int) ∧ (0 : Int) < (2 : Int)) ∧
                    optP (nbClaim (Mc.mk m0 m1 m2 m3 m4 m5) a)
                     (fun x =>
                      brP (decide ([] = List.take (List.length x) (List.drop (0 : Nat) x))) (K (AVal.bool false) [])
                       (K (AVal.bool false) []))
                     (((0 : Int) ≤ (0 : Int) ∧ (0 : Int) < (2 : Int)) ∧
                      ((0 : Int) ≤ (0 : Int) ∧ (0 : Int) < (2 : Int)) ∧
                       K (AVal.bool (decide (nbNear a = nbNear a))) [])))))))
      (((0 : Int) ≤ (0 : Int) ∧ (0 : Int) < (2 : Int)) ∧
       ((0 : Int) ≤ (1 : Int) ∧ (1 : Int) < (2 : Int)) ∧
        optP (nbAsk (Mc.mk m0 m1 m2 m3 m4 m5) a b)
         (fun x =>
          brP (!decide ([] = List.take (List.length x) (List.drop (0 : Nat) x)) || true) (K (AVal.bool false) [])
           (((0 : Int) ≤ (0 : Int) ∧ (0 : Int) < (2 : Int)) ∧
            ((0 : Int) ≤ (1 : Int) ∧ (1 : Int) < (2 : Int)) ∧
             optP (nbTell (Mc.mk m0 m1 m2 m3 m4 m5) a (Mc.mk t0 t1 t2 t3 t4 t5) b)
              (fun x =>
               ((0 : Int) ≤ (0 : Int) ∧ (0 : Int) < (2 : Int)) ∧
                ((0 : Int) ≤ (1 : Int) ∧ (1 : Int) < (2 : Int)) ∧
                 optP (nbTell (Mc.mk m0 m1 m2 m3 m4 m5) a (Mc.mk t0 t1 t2 t3 t4 t5) b)
                  (fun x_1 =>
                   brP
                    (!decide
                       (List.take (List.length x) (List.drop (0 : Nat) x) =
                        List.take (List.length x_1) (List.drop (0 : Nat) x_1)) ||
                     false)
                    (K (AVal.bool false) [])
                    (((0 : Int) ≤ (0 : Int) ∧ (0 : Int) < (2 : Int)) ∧
                     optP (nbClaim (Mc.mk m0 m1 m2 m3 m4 m5) a)
                      (fun x =>
                       ((0 : Int) ≤ (0 : Int) ∧ (0 : Int) < (2 : Int)) ∧
                        optP (nbClaim (Mc.mk m0 m1 m2 m3 m4 m5) a)
                         (fun x_2 =>
                          brP
                           (decide
                            (List.take (List.length x) (List.drop (0 : Nat) x) =
                             List.take (List.length x_2) (List.drop (0 : Nat) x_2)))
                           (((0 : Int) ≤ (0 : Int) ∧ (0 : Int) < (2 : Int)) ∧
                            ((0 : Int) ≤ (0 : Int) ∧ (0 : Int) < (2 : Int)) ∧
                             K (AVal.bool (decide (nbNear a = nbNear a))) [])
                           (K (AVal.bool false) []))
                         (brP (decide (List.take (List.length x) (List.drop (0 : Nat) x) = [])) (K (AVal.bool false) [])
                          (K (AVal.bool false) [])))
                      (((0 : Int) ≤ (0 : Int) ∧ (0 : Int) < (2 : Int)) ∧
                       optP (nbClaim (Mc.mk m0 m1 m2 m3 m4 m5) a)
                        (fun x =>
                         brP (decide ([] = List.take (List.length x) (List.drop (0 : Nat) x))) (K (AVal.bool false) [])
                          (K (AVal.bool false) []))
                        (((0 : Int) ≤ (0 : Int) ∧ (0 : Int) < (2 : Int)) ∧
                         ((0 : Int) ≤ (0 : Int) ∧ (0 : Int) < (2 : Int)) ∧
                          K (AVal.bool (decide (nbNear a = nbNear a))) []))))
                  (brP (!decide (List.take (List.length x) (List.drop (0 : Nat) x) = []) || true) (K (AVal.bool false) [])
                   (((0 : Int) ≤ (0 : Int) ∧ (0 : Int) < (2 : Int)) ∧
                    optP (nbClaim (Mc.mk m0 m1 m2 m3 m4 m5) a)
                     (fun x =>
                      ((0 : Int) ≤ (0 : Int) ∧ (0 : Int) < (2 : Int)) ∧
                       optP (nbClaim (Mc.mk m0 m1 m2 m3 m4 m5) a)
                        (fun x_1 =>
                         brP
                          (decide
                           (List.take (List.length x) (List.drop (0 : Nat) x) =
                            List.take (List.length x_1) (List.drop (0 : Nat) x_1)))
                          (((0 : Int) ≤ (0 : Int) ∧ (0 : Int) < (2 : Int)) ∧
                           ((0 : Int) ≤ (0 : Int) ∧ (0 : Int) < (2 : Int)) ∧
                            K (AVal.bool (decide (nbNear a = nbNear a))) [])
                          (K (AVal.bool false) []))
                        (brP (decide (List.take (List.length x) (List.drop (0 : Nat) x) = [])) (K (AVal.bool false) [])
                         (K (AVal.bool false) [])))
                     (((0 : Int) ≤ (0 : Int) ∧ (0 : Int) < (2 : Int)) ∧
                      optP (nbClaim (Mc.mk m0 m1 m2 m3 m4 m5) a)
                       (fun x =>
                        brP (decide ([] = List.take (List.length x) (List.drop (0 : Nat) x))) (K (AVal.bool false) [])
                         (K (AVal.bool false) []))
                       (((0 : Int) ≤ (0 : Int) ∧ (0 : Int) < (2 : Int)) ∧
                        ((0 : Int) ≤ (0 : Int) ∧ (0 : Int) < (2 : Int)) ∧
                         K (AVal.bool (decide (nbNear a = nbNear a))) [])))))
              (((0 : Int) ≤ (0 : Int) ∧ (0 : Int) < (2 : Int)) ∧
               ((0 : Int) ≤ (1 : Int) ∧ (1 : Int) < (2 : Int)) ∧
                optP (nbTell (Mc.mk m0 m1 m2 m3 m4 m5) a (Mc.mk t0 t1 t2 t3 t4 t5) b)
                 (fun x =>
                  brP (!decide ([] = List.take (List.length x) (List.drop (0 : Nat) x)) || true) (K (AVal.bool false) [])
                   (((0 : Int) ≤ (0 : Int) ∧ (0 : Int) < (2 : Int)) ∧
                    optP (nbClaim (Mc.mk m0 m1 m2 m3 m4 m5) a)
                     (fun x =>
                      ((0 : Int) ≤ (0 : Int) ∧ (0 : Int) < (2 : Int)) ∧
                       optP (nbClaim (Mc.mk m0 m1 m2 m3 m4 m5) a)
                        (fun x_1 =>
                         brP
                          (decide
                           (List.take (List.length x) (List.drop (0 : Nat) x) =
                            List.take (List.length x_1) (List.drop (0 : Nat) x_1)))
                          (((0 : Int) ≤ (0 : Int) ∧ (0 : Int) < (2 : Int)) ∧
                           ((0 : Int) ≤ (0 : Int) ∧ (0 : Int) < (2 : Int)) ∧
                            K (AVal.bool (decide (nbNear a = nbNear a))) [])
                          (K (AVal.bool false) []))
                        (brP (decide (List.take (List.length x) (List.drop (0 : Nat) x) = [])) (K (AVal.bool false) [])
                         (K (AVal.bool false) [])))
                     (((0 : Int) ≤ (0 : Int) ∧ (0 : Int) < (2 : Int)) ∧
                      optP (nbClaim (Mc.mk m0 m1 m2 m3 m4 m5) a)
                       (fun x =>
                        brP (decide ([] = List.take (List.length x) (List.drop (0 : Nat) x))) (K (AVal.bool false) [])
                         (K (AVal.bool false) []))
                       (((0 : Int) ≤ (0 : Int) ∧ (0 : Int) < (2 : Int)) ∧
                        ((0 : Int) ≤ (0 : Int) ∧ (0 : Int) < (2 : Int)) ∧
                         K (AVal.bool (decide (nbNear a = nbNear a))) []))))
                 (((0 : Int) ≤ (0 : Int) ∧ (0 : Int) < (2 : Int)) ∧
                  optP (nbClaim (Mc.mk m0 m1 m2 m3 m4 m5) a)
                   (fun x =>
                    ((0 : Int) ≤ (0 : Int) ∧ (0 : Int) < (2 : Int)) ∧
                     optP (nbClaim (Mc.mk m0 m1 m2 m3 m4 m5) a)
                      (fun x_1 =>
                       brP
                        (decide
                         (List.take (List.length x) (List.drop (0 : Nat) x) =
                          List.take (List.length x_1) (List.drop (0 : Nat) x_1)))
                        (((0 : Int) ≤ (0 : Int) ∧ (0 : Int) < (2 : Int)) ∧
                         ((0 : Int) ≤ (0 : Int) ∧ (0 : Int) < (2 : Int)) ∧
                          K (AVal.bool (decide (nbNear a = nbNear a))) [])
                        (K (AVal.bool false) []))
                      (brP (decide (List.take (List.length x) (List.drop (0 : Nat) x) = [])) (K (AVal.bool false) [])
                       (K (AVal.bool false) [])))
                   (((0 : Int) ≤ (0 : Int) ∧ (0 : Int) < (2 : Int)) ∧
                    optP (nbClaim (Mc.mk m0 m1 m2 m3 m4 m5) a)
                     (fun x =>
                      brP (decide ([] = List.take (List.length x) (List.drop (0 : Nat) x))) (K (AVal.bool false) [])
                       (K (AVal.bool false) []))
                     (((0 : Int) ≤ (0 : Int) ∧ (0 : Int) < (2 : Int)) ∧
                      ((0 : Int) ≤ (0 : Int) ∧ (0 : Int) < (2 : Int)) ∧
                       K (AVal.bool (decide (nbNear a = nbNear a))) []))))))
         (((0 : Int) ≤ (0 : Int) ∧ (0 : Int) < (2 : Int)) ∧
          ((0 : Int) ≤ (1 : Int) ∧ (1 : Int) < (2 : Int)) ∧
           optP (nbTell (Mc.mk m0 m1 m2 m3 m4 m5) a (Mc.mk t0 t1 t2 t3 t4 t5) b)
            (fun x =>
             ((0 : Int) ≤ (0 : Int) ∧ (0 : Int) < (2 : Int)) ∧
              ((0 : Int) ≤ (1 : Int) ∧ (1 : Int) < (2 : Int)) ∧
               optP (nbTell (Mc.mk m0 m1 m2 m3 m4 m5) a (Mc.mk t0 t1 t2 t3 t4 t5) b)
                (fun x_1 =>
                 brP
                  (!decide
                     (List.take (List.length x) (List.drop (0 : Nat) x) =
                      List.take (List.length x_1) (List.drop (0 : Nat) x_1)) ||
                   false)
                  (K (AVal.bool false) [])
                  (((0 : Int) ≤ (0 : Int) ∧ (0 : Int) < (2 : Int)) ∧
                   optP (nbClaim (Mc.mk m0 m1 m2 m3 m4 m5) a)
                    (fun x =>
                     ((0 : Int) ≤ (0 : Int) ∧ (0 : Int) < (2 : Int)) ∧
                      optP (nbClaim (Mc.mk m0 m1 m2 m3 m4 m5) a)
                       (fun x_2 =>
                        brP
                         (decide
                          (List.take (List.length x) (List.drop (0 : Nat) x) =
                           List.take (List.length x_2) (List.drop (0 : Nat) x_2)))
                         (((0 : Int) ≤ (0 : Int) ∧ (0 : Int) < (2 : Int)) ∧
                          ((0 : Int) ≤ (0 : Int) ∧ (0 : Int) < (2 : Int)) ∧
                           K (AVal.bool (decide (nbNear a = nbNear a))) [])
                         (K (AVal.bool false) []))
                       (brP (decide (List.take (List.length x) (List.drop (0 : Nat) x) = [])) (K (AVal.bool false) [])
                        (K (AVal.bool false) [])))
                    (((0 : Int) ≤ (0 : Int) ∧ (0 : Int) < (2 : Int)) ∧
                     optP (nbClaim (Mc.mk m0 m1 m2 m3 m4 m5) a)
                      (fun x =>
                       brP (decide ([] = List.take (List.length x) (List.drop (0 : Nat) x))) (K (AVal.bool false) [])
                        (K (AVal.bool false) []))
                      (((0 : Int) ≤ (0 : Int) ∧ (0 : Int) < (2 : Int)) ∧
                       ((0 : Int) ≤ (0 : Int) ∧ (0 : Int) < (2 : Int)) ∧
                        K (AVal.bool (decide (nbNear a = nbNear a))) []))))
                (brP (!decide (List.take (List.length x) (List.drop (0 : Nat) x) = []) || true) (K (AVal.bool false) [])
                 (((0 : Int) ≤ (0 : Int) ∧ (0 : Int) < (2 : Int)) ∧
                  optP (nbClaim (Mc.mk m0 m1 m2 m3 m4 m5) a)
                   (fun x =>
                    ((0 : Int) ≤ (0 : Int) ∧ (0 : Int) < (2 : Int)) ∧
                     optP (nbClaim (Mc.mk m0 m1 m2 m3 m4 m5) a)
                      (fun x_1 =>
                       brP
                        (decide
                         (List.take (List.length x) (List.drop (0 : Nat) x) =
                          List.take (List.length x_1) (List.drop (0 : Nat) x_1)))
                        (((0 : Int) ≤ (0 : Int) ∧ (0 : Int) < (2 : Int)) ∧
                         ((0 : Int) ≤ (0 : Int) ∧ (0 : Int) < (2 : Int)) ∧
                          K (AVal.bool (decide (nbNear a = nbNear a))) [])
                        (K (AVal.bool false) []))
                      (brP (decide (List.take (List.length x) (List.drop (0 : Nat) x) = [])) (K (AVal.bool false) [])
                       (K (AVal.bool false) [])))
                   (((0 : Int) ≤ (0 : Int) ∧ (0 : Int) < (2 : Int)) ∧
                    optP (nbClaim (Mc.mk m0 m1 m2 m3 m4 m5) a)
                     (fun x =>
                      brP (decide ([] = List.take (List.length x) (List.drop (0 : Nat) x))) (K (AVal.bool false) [])
                       (K (AVal.bool false) []))
                     (((0 : Int) ≤ (0 : Int) ∧ (0 : Int) < (2 : Int)) ∧
                      ((0 : Int) ≤ (0 : Int) ∧ (0 : Int) < (2 : Int)) ∧
                       K (AVal.bool (decide (nbNear a = nbNear a))) [])))))
            (((0 : Int) ≤ (0 : Int) ∧ (0 : Int) < (2 : Int)) ∧
             ((0 : Int) ≤ (1 : Int) ∧ (1 : Int) < (2 : Int)) ∧
              optP (nbTell (Mc.mk m0 m1 m2 m3 m4 m5) a (Mc.mk t0 t1 t2 t3 t4 t5) b)
               (fun x =>
                brP (!decide ([] = List.take (List.length x) (List.drop (0 : Nat) x)) || true) (K (AVal.bool false) [])
                 (((0 : Int) ≤ (0 : Int) ∧ (0 : Int) < (2 : Int)) ∧
                  optP (nbClaim (Mc.mk m0 m1 m2 m3 m4 m5) a)
                   (fun x =>
                    ((0 : Int) ≤ (0 : Int) ∧ (0 : Int) < (2 : Int)) ∧
                     optP (nbClaim (Mc.mk m0 m1 m2 m3 m4 m5) a)
                      (fun x_1 =>
                       brP
                        (decide
                         (List.take (List.length x) (List.drop (0 : Nat) x) =
                          List.take (List.length x_1) (List.drop (0 : Nat) x_1)))
                        (((0 : Int) ≤ (0 : Int) ∧ (0 : Int) < (2 : Int)) ∧
                         ((0 : Int) ≤ (0 : Int) ∧ (0 : Int) < (2 : Int)) ∧
                          K (AVal.bool (decide (nbNear a = nbNear a))) [])
                        (K (AVal.bool false) []))
                      (brP (decide (List.take (List.length x) (List.drop (0 : Nat) x) = [])) (K (AVal.bool false) [])
                       (K (AVal.bool false) [])))
                   (((0 : Int) ≤ (0 : Int) ∧ (0 : Int) < (2 : Int)) ∧
                    optP (nbClaim (Mc.mk m0 m1 m2 m3 m4 m5) a)
                     (fun x =>
                      brP (decide ([] = List.take (List.length x) (List.drop (0 : Nat) x))) (K (AVal.bool false) [])
                       (K (AVal.bool false) []))
                     (((0 : Int) ≤ (0 : Int) ∧ (0 : Int) < (2 : Int)) ∧
                      ((0 : Int) ≤ (0 : Int) ∧ (0 : Int) < (2 : Int)) ∧
                       K (AVal.bool (decide (nbNear a = nbNear a))) []))))
               (((0 : Int) ≤ (0 : Int) ∧ (0 : Int) < (2 : Int)) ∧
                optP (nbClaim (Mc.mk m0 m1 m2 m3 m4 m5) a)
                 (fun x =>
                  ((0 : Int) ≤ (0 : Int) ∧ (0 : Int) < (2 : Int)) ∧
                   optP (nbClaim (Mc.mk m0 m1 m2 m3 m4 m5) a)
                    (fun x_1 =>
                     brP
                      (decide
                       (List.take (List.length x) (List.drop (0 : Nat) x) =
                        List.take (List.length x_1) (List.drop (0 : Nat) x_1)))
                      (((0 : Int) ≤ (0 : Int) ∧ (0 : Int) < (2 : Int)) ∧
                       ((0 : Int) ≤ (0 : Int) ∧ (0 : Int) < (2 : Int)) ∧ K (AVal.bool (decide (nbNear a = nbNear a))) [])
                      (K (AVal.bool false) []))
                    (brP (decide (List.take (List.length x) (List.drop (0 : Nat) x) = [])) (K (AVal.bool false) [])
                     (K (AVal.bool false) [])))
                 (((0 : Int) ≤ (0 : Int) ∧ (0 : Int) < (2 : Int)) ∧
                  optP (nbClaim (Mc.mk m0 m1 m2 m3 m4 m5) a)
                   (fun x =>
                    brP (decide ([] = List.take (List.length x) (List.drop (0 : Nat) x))) (K (AVal.bool false) [])
                     (K (AVal.bool false) []))
                   (((0 : Int) ≤ (0 : Int) ∧ (0 : Int) < (2 : Int)) ∧
                    ((0 : Int) ≤ (0 : Int) ∧ (0 : Int) < (2 : Int)) ∧
                     K (AVal.bool (decide (nbNear a = nbNear a))) []))))))) := by kernel_rfl
theorem neighAsks.core (m0 m1 m2 m3 m4 m5 t0 t1 t2 t3 t4 t5 : UInt8) (a b : List UInt8)  (h_a : a.length ≤ 140737488351232) (h_b : b.length ≤ 140737488351232) :
    fnP Try.prog Tlw ann_outriderlaw04_NeighAsks Try.f7 [.agg [.byte m0, .byte m1, .byte m2, .byte m3, .byte m4, .byte m5], .agg [.byte t0, .byte t1, .byte t2, .byte t3, .byte t4, .byte t5], .agg [.str a, .str b]] [] (fun v _ => v = .bool true) := by
  rw [NeighAsks_eq]
  have c1 : ((0 : Int) ≤ 0 ∧ (0 : Int) < 2) = True := eq_true (by omega)
  have c2 : ((0 : Int) ≤ 1 ∧ (1 : Int) < 2) = True := eq_true (by omega)
  simp only [c1, c2, true_and]
  cases nbAsk ⟨m0, m1, m2, m3, m4, m5⟩ a b <;> cases nbTell ⟨m0, m1, m2, m3, m4, m5⟩ a ⟨t0, t1, t2, t3, t4, t5⟩ b <;> cases nbClaim ⟨m0, m1, m2, m3, m4, m5⟩ a <;> simp [optP, brP]
end Go.Proofs.Ytcooilllmcgcmaa.Ae
namespace Go.Proofs.Ytcooilllmcgcmaa
open Go Go.RowKit Ae
attribute [local irreducible] fnP in
set_option maxRecDepth 100000 in
theorem neighAsks.walk {H : Type} {enc : TypeId × Value → H} (W : World) (args : Array Value) (hn : args.size = 3)
    (h : ∀ (j : Nat) t v, Try.f7.params[j]? = some t → args[j]? = some v → RdV enc false Try.prog W t v) :
    Calls Try.prog 7 args W fun e w' => e = .returned (.bool true) ∧ Below W.heap.size W w' := by
  obtain ⟨v0, v1, v2, rfl⟩ := args3 hn
  obtain ⟨vs0, hs0, hv0⟩ := arg_agg (b := false) (d := 6) (ks := [.byte, .byte, .byte, .byte, .byte, .byte]) (.inr ⟨_, _, Try.underlying23⟩) (by kernel_rfl) (h 0 23 v0 rfl rfl)
  obtain ⟨_, _, rfl, ⟨m0, rfl⟩, _, _, rfl, ⟨m1, rfl⟩, _, _, rfl, ⟨m2, rfl⟩, _, _, rfl, ⟨m3, rfl⟩, _, _, rfl, ⟨m4, rfl⟩, _, _, rfl, ⟨m5, rfl⟩, rfl⟩ := hs0
  obtain ⟨vs1, hs1, hv1⟩ := arg_agg (b := false) (d := 6) (ks := [.byte, .byte, .byte, .byte, .byte, .byte]) (.inr ⟨_, _, Try.underlying23⟩) (by kernel_rfl) (h 1 23 v1 rfl rfl)
  obtain ⟨_, _, rfl, ⟨t0, rfl⟩, _, _, rfl, ⟨t1, rfl⟩, _, _, rfl, ⟨t2, rfl⟩, _, _, rfl, ⟨t3, rfl⟩, _, _, rfl, ⟨t4, rfl⟩, _, _, rfl, ⟨t5, rfl⟩, rfl⟩ := hs1
  obtain ⟨vs2, hs2, hv2⟩ := arg_agg (b := false) (d := 6) (ks := [.str, .str]) (.inr ⟨_, _, Try.underlying38⟩) (by kernel_rfl) (h 2 38 v2 rfl rfl)
  obtain ⟨_, _, rfl, ⟨a, rfl, h_a⟩, _, _, rfl, ⟨b, rfl, h_b⟩, rfl⟩ := hs2
  obtain ⟨r, H1, hr, hG⟩ := fn_sound Tlw_sound mixed Try.func7 (by decide +kernel) (neighAsks.core m0 m1 m2 m3 m4 m5 t0 t1 t2 t3 t4 t5 a b (len_lim h_a) (len_lim h_b))
  subst hr
  exact law_walk hG (vl_cons hv0 (vl_cons hv1 (vl_cons hv2 vl_nil)))

namespace neighAsks
theorem spec {H : Type} (ds : List (DataW H)) (h : ds.length = Try.f7.params.size) : Rows.neighAsksSpec.fn H ds = { results := [.lit (.bool true)], args := ds } := by
  have h' : ds.length = 3 := h
  match ds, h' with
  | [_, _, _], _ => rfl

set_option maxRecDepth 100000 in
theorem lifted (os : Os) (started : os.Started) (H : Type) (enc : TypeId × Value → H) :
    ReturnsInHanded {} Try.checked os 7 .any (Rows.neighAsksSpec.pre6 enc Try.prog Try.f7 Rows.neighAsksRow.domain false) (Rows.neighAsksSpec.post enc Try.prog Try.f7 false true false false) :=
  lifted_said (C := Try.checked) (tb := 4) own started (by kernel_rfl) Try.func7
    (ChangeSpec.witness6 (enc := enc) (C := Try.checked) false ⟨#[], #[.agg #[.int .u8 0, .int .u8 0, .int .u8 0, .int .u8 0, .int .u8 0, .int .u8 0], .agg #[.int .u8 0, .int .u8 0, .int .u8 0, .int .u8 0, .int .u8 0, .int .u8 0], .agg #[.string .empty, .string .empty]], []⟩ 8 (by kernel_rfl) (by kernel_rfl) (by kernel_rfl) (by kernel_rfl))
    rfl spec rfl Try.underlying4 laidOut (by kernel_rfl) walk

theorem over : Rows.neighAsksRow.holds Try.pinned (OpenSpec.ofChange Rows.neighAsksSpec) :=
  OpenClaim.holds_of_wide 7 Try.f7 rfl rfl rfl rfl rfl rfl rfl ⟨rfl, rfl, rfl, rfl, rfl⟩ rfl rfl rfl rfl rfl (by kernel_rfl) Try.func7 (by kernel_rfl)
    (of_decide_eq_true (by kernel_rfl)) (by unfold Func.isWrapper; first | (rw [if_pos (by decide +kernel)]; kernel_rfl) | (rw [if_neg (by decide +kernel)]; exact ⟨rfl, rfl⟩))
    (fun os started H enc _ => lifted os started H enc)

theorem proved : Rows.NeighAsksSaid := over
#print axioms proved
end neighAsks

end Go.Proofs.Ytcooilllmcgcmaa

