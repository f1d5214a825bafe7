/- PortsErrors: an error that quotes a packet is about its flow, however much of it is quoted, from its ports on. No conditions. -/
import Derived.Test.YtbaolkfdkjljjaaAl
import Derived.Test.YtbaolkfdkjljjaaMpt2
import Derived.Test.YtbaolkfdkjljjaaAeQk
set_option linter.unusedSimpArgs false
set_option linter.unusedVariables false
namespace Go.Proofs.Ytbaolkfdkjljjaa.Ae
open Go Go.RowKit
def ann_outriderlaw05_PortsErrors : Nat → List Nat × Nat × List (List Nat)
  | _ => ([], 0, [])
set_option maxRecDepth 100000 in
theorem PortsErrors_eq (f t : List UInt8) (p q : Int) (b : List UInt8) (h1 h2 h3 h4 h5 : Int) (m : Int) (K : AVal → Hp → Prop) : fnP Try.prog Tlw ann_outriderlaw05_PortsErrors Try.f8 [.agg [.str f, .str t, .int .i64 p, .int .i64 q, .str b], .agg [.int .i64 h1, .int .i64 h2, .int .i64 h3, .int .i64 h4, .int .i64 h5], .int .i64 m] [] K = (
  (4 : Nat) ≤ (140737488351232 : Nat) ∧
    brP
     (!decide
       ((ptWrite (Ip.mk f t p q b) (Hd.mk h1 h2 h3 h4 h5)
          [(100 : UInt8), (97 : UInt8), (116 : UInt8), (97 : UInt8)]).snd =
        (0 : Int)))
     (K (AVal.bool true) [])
     (brP (decide ((↑(List.length f) : Int) = (16 : Int))) (K (AVal.bool true) [])
      (brP (decide (m < (0 : Int))) (K (AVal.bool true) [])
       (brP (decide ((20 : Int) < m)) (K (AVal.bool true) [])
        (optP
         (ipEncode
          (Ip.mk
           (ptWrite (Ip.mk f t p q b) (Hd.mk h1 h2 h3 h4 h5)
              [(100 : UInt8), (97 : UInt8), (116 : UInt8), (97 : UInt8)]).fst.src
           (ptWrite (Ip.mk f t p q b) (Hd.mk h1 h2 h3 h4 h5)
              [(100 : UInt8), (97 : UInt8), (116 : UInt8), (97 : UInt8)]).fst.dst
           (ptWrite (Ip.mk f t p q b) (Hd.mk h1 h2 h3 h4 h5)
              [(100 : UInt8), (97 : UInt8), (116 : UInt8), (97 : UInt8)]).fst.proto
           (ptWrite (Ip.mk f t p q b) (Hd.mk h1 h2 h3 h4 h5)
              [(100 : UInt8), (97 : UInt8), (116 : UInt8), (97 : UInt8)]).fst.ttl
           (ptWrite (Ip.mk f t p q b) (Hd.mk h1 h2 h3 h4 h5)
              [(100 : UInt8), (97 : UInt8), (116 : UInt8), (97 : UInt8)]).fst.body))
         (fun x =>
          brP (decide ((↑(List.length x) : Int) < (24 : Int))) (K (AVal.bool false) [])
           (I64 ((24 : Int) + m) ∧
            (((0 : Int) ≤
               if (24 : Int) + m < (↑(List.length x) : Int) then (24 : Int) + m else (↑(List.length x) : Int)) ∧
              (if (24 : Int) + m < (↑(List.length x) : Int) then (24 : Int) + m else (↑(List.length x) : Int)) ≤
               (↑(List.length x) : Int)) ∧
             (((8 : Nat) +
                  (Int.toNat
                    (if (24 : Int) + m < (↑(List.length x) : Int) then (24 : Int) + m else (↑(List.length x) : Int)) -
                   (0 : Nat))) *
                 (1 : Nat) ≤
                (140737488355328 : Nat) ∧
               (8 : Nat) = (8 : Nat)) ∧
              ((1 : Nat) ≤ (1000 : Nat) ∧
                List.length
                  (List.flatten
                   [List.take
                     ((8 : Nat) +
                      (Int.toNat
                        (if (24 : Int) + m < (↑(List.length x) : Int) then (24 : Int) + m else (↑(List.length x) : Int)) -
                       (0 : Nat)))
                     (List.drop (0 : Nat)
                      ([(11 : UInt8), (0 : UInt8), (0 : UInt8), (0 : UInt8), (0 : UInt8), (0 : UInt8), (0 : UInt8),
                        (0 : UInt8)] ++
                       List.take
                        (Int.toNat
                          (if (24 : Int) + m < (↑(List.length x) : Int) then (24 : Int) + m
                          else (↑(List.length x) : Int)) -
                         (0 : Nat))
                        (List.drop (0 : Nat) x)))]) ≤
                 (562949953421312 : Nat)) ∧
               ((0 : Int) ≤ (8 : Int) ∧ (8 : Nat) < (16 : Nat)) ∧
                ((0 : Int) ≤ (2 : Int) ∧
                  (2 : Int) <
                   (↑((8 : Nat) +
                      (Int.toNat
                        (if (24 : Int) + m < (↑(List.length x) : Int) then (24 : Int) + m else (↑(List.length x) : Int)) -
                       (0 : Nat))) :
                    Int)) ∧
                 (2 : Nat) <
                   List.length
                    ([(11 : UInt8), (0 : UInt8), (0 : UInt8), (0 : UInt8), (0 : UInt8), (0 : UInt8), (0 : UInt8),
                      (0 : UInt8)] ++
                     List.take
                      (Int.toNat
                        (if (24 : Int) + m < (↑(List.length x) : Int) then (24 : Int) + m else (↑(List.length x) : Int)) -
                       (0 : Nat))
                      (List.drop (0 : Nat) x)) ∧
                  ((0 : Int) ≤ (3 : Int) ∧
                    (3 : Int) <
                     (↑((8 : Nat) +
                        (Int.toNat
                          (if (24 : Int) + m < (↑(List.length x) : Int) then (24 : Int) + m
                          else (↑(List.length x) : Int)) -
                         (0 : Nat))) :
                      Int)) ∧
                   (3 : Nat) <
                     List.length
                      (List.set
                       ([(11 : UInt8), (0 : UInt8), (0 : UInt8), (0 : UInt8), (0 : UInt8), (0 : UInt8), (0 : UInt8),
                         (0 : UInt8)] ++
                        List.take
                         (Int.toNat
                           (if (24 : Int) + m < (↑(List.length x) : Int) then (24 : Int) + m
                           else (↑(List.length x) : Int)) -
                          (0 : Nat))
                         (List.drop (0 : Nat) x))
                       (2 : Nat)
                       (b8
                        (((65535 : Int) -
                          sumB
                           (List.flatten
                            [List.take
                              ((8 : Nat) +
                               (Int.toNat
                                 (if (24 : Int) + m < (↑(List.length x) : Int) then (24 : Int) + m
                                 else (↑(List.length x) : Int)) -
                                (0 : Nat)))
                              (List.drop (0 : Nat)
                               ([(11 : UInt8), (0 : UInt8), (0 : UInt8), (0 : UInt8), (0 : UInt8), (0 : UInt8),
                                 (0 : UInt8), (0 : UInt8)] ++
                                List.take
                                 (Int.toNat
                                   (if (24 : Int) + m < (↑(List.length x) : Int) then (24 : Int) + m
                                   else (↑(List.length x) : Int)) -
                                  (0 : Nat))
                                 (List.drop (0 : Nat) x)))])) /
                         (256 : Int)))) ∧
                    List.length
                       (List.take
                        ((8 : Nat) +
                         (Int.toNat
                           (if (24 : Int) + m < (↑(List.length x) : Int) then (24 : Int) + m
                           else (↑(List.length x) : Int)) -
                          (0 : Nat)))
                        (List.drop (0 : Nat)
                         (List.set
                          (List.set
                           ([(11 : UInt8), (0 : UInt8), (0 : UInt8), (0 : UInt8), (0 : UInt8), (0 : UInt8), (0 : UInt8),
                             (0 : UInt8)] ++
                            List.take
                             (Int.toNat
                               (if (24 : Int) + m < (↑(List.length x) : Int) then (24 : Int) + m
                               else (↑(List.length x) : Int)) -
                              (0 : Nat))
                             (List.drop (0 : Nat) x))
                           (2 : Nat)
                           (b8
                            (((65535 : Int) -
                              sumB
                               (List.flatten
                                [List.take
                                  ((8 : Nat) +
                                   (Int.toNat
                                     (if (24 : Int) + m < (↑(List.length x) : Int) then (24 : Int) + m
                                     else (↑(List.length x) : Int)) -
                                    (0 : Nat)))
                                  (List.drop (0 : Nat)
                                   ([(11 : UInt8), (0 : UInt8), (0 : UInt8), (0 : UInt8), (0 : UInt8), (0 : UInt8),
                                     (0 : UInt8), (0 : UInt8)] ++
                                    List.take
                                     (Int.toNat
                                       (if (24 : Int) + m < (↑(List.length x) : Int) then (24 : Int) + m
                                       else (↑(List.length x) : Int)) -
                                      (0 : Nat))
                                     (List.drop (0 : Nat) x)))])) /
                             (256 : Int))))
                          (3 : Nat)
                          (b8
                           ((65535 : Int) -
                            sumB
                             (List.flatten
                              [List.take
                                ((8 : Nat) +
                                 (Int.toNat
                                   (if (24 : Int) + m < (↑(List.length x) : Int) then (24 : Int) + m
                                   else (↑(List.length x) : Int)) -
                                  (0 : Nat)))
                                (List.drop (0 : Nat)
                                 ([(11 : UInt8), (0 : UInt8), (0 : UInt8), (0 : UInt8), (0 : UInt8), (0 : UInt8),
                                   (0 : UInt8), (0 : UInt8)] ++
                                  List.take
                                   (Int.toNat
                                     (if (24 : Int) + m < (↑(List.length x) : Int) then (24 : Int) + m
                                     else (↑(List.length x) : Int)) -
                                    (0 : Nat))
                                   (List.drop (0 : Nat) x)))])))))) ≤
                      (140737488351232 : Nat) ∧
                     List.length
                        (ptWrite (Ip.mk f t p q b) (Hd.mk h1 h2 h3 h4 h5)
                           [(100 : UInt8), (97 : UInt8), (116 : UInt8), (97 : UInt8)]).fst.body ≤
                       (140737488351232 : Nat) ∧
                      brP
                       (!decide
                         ((ptRead
                            (Ip.mk
                             (ptWrite (Ip.mk f t p q b) (Hd.mk h1 h2 h3 h4 h5)
                                [(100 : UInt8), (97 : UInt8), (116 : UInt8), (97 : UInt8)]).fst.src
                             (ptWrite (Ip.mk f t p q b) (Hd.mk h1 h2 h3 h4 h5)
                                [(100 : UInt8), (97 : UInt8), (116 : UInt8), (97 : UInt8)]).fst.dst
                             (ptWrite (Ip.mk f t p q b) (Hd.mk h1 h2 h3 h4 h5)
                                [(100 : UInt8), (97 : UInt8), (116 : UInt8), (97 : UInt8)]).fst.proto
                             (ptWrite (Ip.mk f t p q b) (Hd.mk h1 h2 h3 h4 h5)
                                [(100 : UInt8), (97 : UInt8), (116 : UInt8), (97 : UInt8)]).fst.ttl
                             (ptWrite (Ip.mk f t p q b) (Hd.mk h1 h2 h3 h4 h5)
                                [(100 : UInt8), (97 : UInt8), (116 : UInt8), (97 : UInt8)]).fst.body)).snd =
                          (0 : Int)))
                       (brP
                        (decide
                         ((ptQuoted
                            (Ip.mk t f (1 : Int) (9 : Int)
                             (List.take
                              ((8 : Nat) +
                               (Int.toNat
                                 (if (24 : Int) + m < (↑(List.length x) : Int) then (24 : Int) + m
                                 else (↑(List.length x) : Int)) -
                                (0 : Nat)))
                              (List.drop (0 : Nat)
                               (List.set
                                (List.set
                                 ([(11 : UInt8), (0 : UInt8), (0 : UInt8), (0 : UInt8), (0 : UInt8), (0 : UInt8),
                                   (0 : UInt8), (0 : UInt8)] ++
                                  List.take
                                   (Int.toNat
                                     (if (24 : Int) + m < (↑(List.length x) : Int) then (24 : Int) + m
                                     else (↑(List.length x) : Int)) -
                                    (0 : Nat))
                                   (List.drop (0 : Nat) x))
                                 (2 : Nat)
                                 (b8
                                  (((65535 : Int) -
                                    sumB
                                     (List.flatten
                                      [List.take
                                        ((8 : Nat) +
                                         (Int.toNat
                                           (if (24 : Int) + m < (↑(List.length x) : Int) then (24 : Int) + m
                                           else (↑(List.length x) : Int)) -
                                          (0 : Nat)))
                                        (List.drop (0 : Nat)
                                         ([(11 : UInt8), (0 : UInt8), (0 : UInt8), (0 : UInt8), (0 : UInt8), (0 : UInt8),
                                           (0 : UInt8), (0 : UInt8)] ++
                                          List.take
                                           (Int.toNat
                                             (if (24 : Int) + m < (↑(List.length x) : Int) then (24 : Int) + m
                                             else (↑(List.length x) : Int)) -
                                            (0 : Nat))
                                           (List.drop (0 : Nat) x)))])) /
                                   (256 : Int))))
                                (3 : Nat)
                                (b8
                                 ((65535 : Int) -
                                  sumB
                                   (List.flatten
                                    [List.take
                                      ((8 : Nat) +
                                       (Int.toNat
                                         (if (24 : Int) + m < (↑(List.length x) : Int) then (24 : Int) + m
                                         else (↑(List.length x) : Int)) -
                                        (0 : Nat)))
                                      (List.drop (0 : Nat)
                                       ([(11 : UInt8), (0 : UInt8), (0 : UInt8), (0 : UInt8), (0 : UInt8), (0 : UInt8),
                                         (0 : UInt8), (0 : UInt8)] ++
                                        List.take
                                         (Int.toNat
                                           (if (24 : Int) + m < (↑(List.length x) : Int) then (24 : Int) + m
                                           else (↑(List.length x) : Int)) -
                                          (0 : Nat))
                                         (List.drop (0 : Nat) x)))])))))))).snd =
                          (0 : Int)))
                        (K
                         (AVal.bool
                          (decide
                            ((ptQuoted
                                (Ip.mk t f (1 : Int) (9 : Int)
                                 (List.take
                                  ((8 : Nat) +
                                   (Int.toNat
                                     (if (24 : Int) + m < (↑(List.length x) : Int) then (24 : Int) + m
                                     else (↑(List.length x) : Int)) -
                                    (0 : Nat)))
                                  (List.drop (0 : Nat)
                                   (List.set
                                    (List.set
                                     ([(11 : UInt8), (0 : UInt8), (0 : UInt8), (0 : UInt8), (0 : UInt8), (0 : UInt8),
                                       (0 : UInt8), (0 : UInt8)] ++
                                      List.take
                                       (Int.toNat
                                         (if (24 : Int) + m < (↑(List.length x) : Int) then (24 : Int) + m
                                         else (↑(List.length x) : Int)) -
                                        (0 : Nat))
                                       (List.drop (0 : Nat) x))
                                     (2 : Nat)
                                     (b8
                                      (((65535 : Int) -
                                        sumB
                                         (List.flatten
                                          [List.take
                                            ((8 : Nat) +
                                             (Int.toNat
                                               (if (24 : Int) + m < (↑(List.length x) : Int) then (24 : Int) + m
                                               else (↑(List.length x) : Int)) -
                                              (0 : Nat)))
                                            (List.drop (0 : Nat)
                                             ([(11 : UInt8), (0 : UInt8), (0 : UInt8), (0 : UInt8), (0 : UInt8),
                                               (0 : UInt8), (0 : UInt8), (0 : UInt8)] ++
                                              List.take
                                               (Int.toNat
                                                 (if (24 : Int) + m < (↑(List.length x) : Int) then (24 : Int) + m
                                                 else (↑(List.length x) : Int)) -
                                                (0 : Nat))
                                               (List.drop (0 : Nat) x)))])) /
                                       (256 : Int))))
                                    (3 : Nat)
                                    (b8
                                     ((65535 : Int) -
                                      sumB
                                       (List.flatten
                                        [List.take
                                          ((8 : Nat) +
                                           (Int.toNat
                                             (if (24 : Int) + m < (↑(List.length x) : Int) then (24 : Int) + m
                                             else (↑(List.length x) : Int)) -
                                            (0 : Nat)))
                                          (List.drop (0 : Nat)
                                           ([(11 : UInt8), (0 : UInt8), (0 : UInt8), (0 : UInt8), (0 : UInt8),
                                             (0 : UInt8), (0 : UInt8), (0 : UInt8)] ++
                                            List.take
                                             (Int.toNat
                                               (if (24 : Int) + m < (↑(List.length x) : Int) then (24 : Int) + m
                                               else (↑(List.length x) : Int)) -
                                              (0 : Nat))
                                             (List.drop (0 : Nat) x)))])))))))).fst.proto =
                             (0 : Int)) &&
                           (decide
                             ((ptQuoted
                                 (Ip.mk t f (1 : Int) (9 : Int)
                                  (List.take
                                   ((8 : Nat) +
                                    (Int.toNat
                                      (if (24 : Int) + m < (↑(List.length x) : Int) then (24 : Int) + m
                                      else (↑(List.length x) : Int)) -
                                     (0 : Nat)))
                                   (List.drop (0 : Nat)
                                    (List.set
                                     (List.set
                                      ([(11 : UInt8), (0 : UInt8), (0 : UInt8), (0 : UInt8), (0 : UInt8), (0 : UInt8),
                                        (0 : UInt8), (0 : UInt8)] ++
                                       List.take
                                        (Int.toNat
                                          (if (24 : Int) + m < (↑(List.length x) : Int) then (24 : Int) + m
                                          else (↑(List.length x) : Int)) -
                                         (0 : Nat))
                                        (List.drop (0 : Nat) x))
                                      (2 : Nat)
                                      (b8
                                       (((65535 : Int) -
                                         sumB
                                          (List.flatten
                                           [List.take
                                             ((8 : Nat) +
                                              (Int.toNat
                                                (if (24 : Int) + m < (↑(List.length x) : Int) then (24 : Int) + m
                                                else (↑(List.length x) : Int)) -
                                               (0 : Nat)))
                                             (List.drop (0 : Nat)
                                              ([(11 : UInt8), (0 : UInt8), (0 : UInt8), (0 : UInt8), (0 : UInt8),
                                                (0 : UInt8), (0 : UInt8), (0 : UInt8)] ++
                                               List.take
                                                (Int.toNat
                                                  (if (24 : Int) + m < (↑(List.length x) : Int) then (24 : Int) + m
                                                  else (↑(List.length x) : Int)) -
                                                 (0 : Nat))
                                                (List.drop (0 : Nat) x)))])) /
                                        (256 : Int))))
                                     (3 : Nat)
                                     (b8
                                      ((65535 : Int) -
                                       sumB
                                        (List.flatten
                                         [List.take
                                           ((8 : Nat) +
                                            (Int.toNat
                                              (if (24 : Int) + m < (↑(List.length x) : Int) then (24 : Int) + m
                                              else (↑(List.length x) : Int)) -
                                             (0 : Nat)))
                                           (List.drop (0 : Nat)
                                            ([(11 : UInt8), (0 : UInt8), (0 : UInt8), (0 : UInt8), (0 : UInt8),
                                              (0 : UInt8), (0 : UInt8), (0 : UInt8)] ++
                                             List.take
                                              (Int.toNat
                                                (if (24 : Int) + m < (↑(List.length x) : Int) then (24 : Int) + m
                                                else (↑(List.length x) : Int)) -
                                               (0 : Nat))
                                              (List.drop (0 : Nat) x)))])))))))).fst.src =
                              []) &&
                            (decide
                              ((ptQuoted
                                  (Ip.mk t f (1 : Int) (9 : Int)
                                   (List.take
                                    ((8 : Nat) +
                                     (Int.toNat
                                       (if (24 : Int) + m < (↑(List.length x) : Int) then (24 : Int) + m
                                       else (↑(List.length x) : Int)) -
                                      (0 : Nat)))
                                    (List.drop (0 : Nat)
                                     (List.set
                                      (List.set
                                       ([(11 : UInt8), (0 : UInt8), (0 : UInt8), (0 : UInt8), (0 : UInt8), (0 : UInt8),
                                         (0 : UInt8), (0 : UInt8)] ++
                                        List.take
                                         (Int.toNat
                                           (if (24 : Int) + m < (↑(List.length x) : Int) then (24 : Int) + m
                                           else (↑(List.length x) : Int)) -
                                          (0 : Nat))
                                         (List.drop (0 : Nat) x))
                                       (2 : Nat)
                                       (b8
                                        (((65535 : Int) -
                                          sumB
                                           (List.flatten
                                            [List.take
                                              ((8 : Nat) +
                                               (Int.toNat
                                                 (if (24 : Int) + m < (↑(List.length x) : Int) then (24 : Int) + m
                                                 else (↑(List.length x) : Int)) -
                                                (0 : Nat)))
                                              (List.drop (0 : Nat)
                                               ([(11 : UInt8), (0 : UInt8), (0 : UInt8), (0 : UInt8), (0 : UInt8),
                                                 (0 : UInt8), (0 : UInt8), (0 : UInt8)] ++
                                                List.take
                                                 (Int.toNat
                                                   (if (24 : Int) + m < (↑(List.length x) : Int) then (24 : Int) + m
                                                   else (↑(List.length x) : Int)) -
                                                  (0 : Nat))
                                                 (List.drop (0 : Nat) x)))])) /
                                         (256 : Int))))
                                      (3 : Nat)
                                      (b8
                                       ((65535 : Int) -
                                        sumB
                                         (List.flatten
                                          [List.take
                                            ((8 : Nat) +
                                             (Int.toNat
                                               (if (24 : Int) + m < (↑(List.length x) : Int) then (24 : Int) + m
                                               else (↑(List.length x) : Int)) -
                                              (0 : Nat)))
                                            (List.drop (0 : Nat)
                                             ([(11 : UInt8), (0 : UInt8), (0 : UInt8), (0 : UInt8), (0 : UInt8),
                                               (0 : UInt8), (0 : UInt8), (0 : UInt8)] ++
                                              List.take
                                               (Int.toNat
                                                 (if (24 : Int) + m < (↑(List.length x) : Int) then (24 : Int) + m
                                                 else (↑(List.length x) : Int)) -
                                                (0 : Nat))
                                               (List.drop (0 : Nat) x)))])))))))).fst.dst =
                               []) &&
                             (decide
                               ((ptQuoted
                                   (Ip.mk t f (1 : Int) (9 : Int)
                                    (List.take
                                     ((8 : Nat) +
                                      (Int.toNat
                                        (if (24 : Int) + m < (↑(List.length x) : Int) then (24 : Int) + m
                                        else (↑(List.length x) : Int)) -
                                       (0 : Nat)))
                                     (List.drop (0 : Nat)
                                      (List.set
                                       (List.set
                                        ([(11 : UInt8), (0 : UInt8), (0 : UInt8), (0 : UInt8), (0 : UInt8), (0 : UInt8),
                                          (0 : UInt8), (0 : UInt8)] ++
                                         List.take
                                          (Int.toNat
                                            (if (24 : Int) + m < (↑(List.length x) : Int) then (24 : Int) + m
                                            else (↑(List.length x) : Int)) -
                                           (0 : Nat))
                                          (List.drop (0 : Nat) x))
                                        (2 : Nat)
                                        (b8
                                         (((65535 : Int) -
                                           sumB
                                            (List.flatten
                                             [List.take
                                               ((8 : Nat) +
                                                (Int.toNat
                                                  (if (24 : Int) + m < (↑(List.length x) : Int) then (24 : Int) + m
                                                  else (↑(List.length x) : Int)) -
                                                 (0 : Nat)))
                                               (List.drop (0 : Nat)
                                                ([(11 : UInt8), (0 : UInt8), (0 : UInt8), (0 : UInt8), (0 : UInt8),
                                                  (0 : UInt8), (0 : UInt8), (0 : UInt8)] ++
                                                 List.take
                                                  (Int.toNat
                                                    (if (24 : Int) + m < (↑(List.length x) : Int) then (24 : Int) + m
                                                    else (↑(List.length x) : Int)) -
                                                   (0 : Nat))
                                                  (List.drop (0 : Nat) x)))])) /
                                          (256 : Int))))
                                       (3 : Nat)
                                       (b8
                                        ((65535 : Int) -
                                         sumB
                                          (List.flatten
                                           [List.take
                                             ((8 : Nat) +
                                              (Int.toNat
                                                (if (24 : Int) + m < (↑(List.length x) : Int) then (24 : Int) + m
                                                else (↑(List.length x) : Int)) -
                                               (0 : Nat)))
                                             (List.drop (0 : Nat)
                                              ([(11 : UInt8), (0 : UInt8), (0 : UInt8), (0 : UInt8), (0 : UInt8),
                                                (0 : UInt8), (0 : UInt8), (0 : UInt8)] ++
                                               List.take
                                                (Int.toNat
                                                  (if (24 : Int) + m < (↑(List.length x) : Int) then (24 : Int) + m
                                                  else (↑(List.length x) : Int)) -
                                                 (0 : Nat))
                                                (List.drop (0 : Nat) x)))])))))))).fst.port =
                                (0 : Int)) &&
                              decide
                               ((ptQuoted
                                   (Ip.mk t f (1 : Int) (9 : Int)
                                    (List.take
                                     ((8 : Nat) +
                                      (Int.toNat
                                        (if (24 : Int) + m < (↑(List.length x) : Int) then (24 : Int) + m
                                        else (↑(List.length x) : Int)) -
                                       (0 : Nat)))
                                     (List.drop (0 : Nat)
                                      (List.set
                                       (List.set
                                        ([(11 : UInt8), (0 : UInt8), (0 : UInt8), (0 : UInt8), (0 : UInt8), (0 : UInt8),
                                          (0 : UInt8), (0 : UInt8)] ++
                                         List.take
                                          (Int.toNat
                                            (if (24 : Int) + m < (↑(List.length x) : Int) then (24 : Int) + m
                                            else (↑(List.length x) : Int)) -
                                           (0 : Nat))
                                          (List.drop (0 : Nat) x))
                                        (2 : Nat)
                                        (b8
                                         (((65535 : Int) -
                                           sumB
                                            (List.flatten
                                             [List.take
                                               ((8 : Nat) +
                                                (Int.toNat
                                                  (if (24 : Int) + m < (↑(List.length x) : Int) then (24 : Int) + m
                                                  else (↑(List.length x) : Int)) -
                                                 (0 : Nat)))
                                               (List.drop (0 : Nat)
                                                ([(11 : UInt8), (0 : UInt8), (0 : UInt8), (0 : UInt8), (0 : UInt8),
                                                  (0 : UInt8), (0 : UInt8), (0 : UInt8)] ++
                                                 List.take
                                                  (Int.toNat
                                                    (if (24 : Int) + m < (↑(List.length x) : Int) then (24 : Int) + m
                                                    else (↑(List.length x) : Int)) -
                                                   (0 : Nat))
                                                  (List.drop (0 : Nat) x)))])) /
                                          (256 : Int))))
                                       (3 : Nat)
                                       (b8
                                        ((65535 : Int) -
                                         sumB
                                          (List.flatten
                                           [List.take
                                             ((8 : Nat) +
                                              (Int.toNat
                                                (if (24 : Int) + m < (↑(List.length x) : Int) then (24 : Int) + m
                                                else (↑(List.length x) : Int)) -
                                               (0 : Nat)))
                                             (List.drop (0 : Nat)
                                              ([(11 : UInt8), (0 : UInt8), (0 : UInt8), (0 : UInt8), (0 : UInt8),
                                                (0 : UInt8), (0 : UInt8), (0 : UInt8)] ++
                                               List.take
                                                (Int.toNat
                                                  (if (24 : Int) + m < (↑(List.length x) : Int) then (24 : Int) + m
                                                  else (↑(List.length x) : Int)) -
                                                 (0 : Nat))
                                                (List.drop (0 : Nat) x)))])))))))).fst.dest =
                                (0 : Int)))))))
                         [])
                        (K (AVal.bool false) []))
                       (brP
                        (decide
                         ((ptQuoted
                            (Ip.mk t f (1 : Int) (9 : Int)
                             (List.take
                              ((8 : Nat) +
                               (Int.toNat
                                 (if (24 : Int) + m < (↑(List.length x) : Int) then (24 : Int) + m
                                 else (↑(List.length x) : Int)) -
                                (0 : Nat)))
                              (List.drop (0 : Nat)
                               (List.set
                                (List.set
                                 ([(11 : UInt8), (0 : UInt8), (0 : UInt8), (0 : UInt8), (0 : UInt8), (0 : UInt8),
                                   (0 : UInt8), (0 : UInt8)] ++
                                  List.take
                                   (Int.toNat
                                     (if (24 : Int) + m < (↑(List.length x) : Int) then (24 : Int) + m
                                     else (↑(List.length x) : Int)) -
                                    (0 : Nat))
                                   (List.drop (0 : Nat) x))
                                 (2 : Nat)
                                 (b8
                                  (((65535 : Int) -
                                    sumB
                                     (List.flatten
                                      [List.take
                                        ((8 : Nat) +
                                         (Int.toNat
                                           (if (24 : Int) + m < (↑(List.length x) : Int) then (24 : Int) + m
                                           else (↑(List.length x) : Int)) -
                                          (0 : Nat)))
                                        (List.drop (0 : Nat)
                                         ([(11 : UInt8), (0 : UInt8), (0 : UInt8), (0 : UInt8), (0 : UInt8), (0 : UInt8),
                                           (0 : UInt8), (0 : UInt8)] ++
                                          List.take
                                           (Int.toNat
                                             (if (24 : Int) + m < (↑(List.length x) : Int) then (24 : Int) + m
                                             else (↑(List.length x) : Int)) -
                                            (0 : Nat))
                                           (List.drop (0 : Nat) x)))])) /
                                   (256 : Int))))
                                (3 : Nat)
                                (b8
                                 ((65535 : Int) -
                                  sumB
                                   (List.flatten
                                    [List.take
                                      ((8 : Nat) +
                                       (Int.toNat
                                         (if (24 : Int) + m < (↑(List.length x) : Int) then (24 : Int) + m
                                         else (↑(List.length x) : Int)) -
                                        (0 : Nat)))
                                      (List.drop (0 : Nat)
                                       ([(11 : UInt8), (0 : UInt8), (0 : UInt8), (0 : UInt8), (0 : UInt8), (0 : UInt8),
                                         (0 : UInt8), (0 : UInt8)] ++
                                        List.take
                                         (Int.toNat
                                           (if (24 : Int) + m < (↑(List.length x) : Int) then (24 : Int) + m
                                           else (↑(List.length x) : Int)) -
                                          (0 : Nat))
                                         (List.drop (0 : Nat) x)))])))))))).snd =
                          (0 : Int)))
                        (K
                         (AVal.bool
                          (decide
                            ((ptQuoted
                                (Ip.mk t f (1 : Int) (9 : Int)
                                 (List.take
                                  ((8 : Nat) +
                                   (Int.toNat
                                     (if (24 : Int) + m < (↑(List.length x) : Int) then (24 : Int) + m
                                     else (↑(List.length x) : Int)) -
                                    (0 : Nat)))
                                  (List.drop (0 : Nat)
                                   (List.set
                                    (List.set
                                     ([(11 : UInt8), (0 : UInt8), (0 : UInt8), (0 : UInt8), (0 : UInt8), (0 : UInt8),
                                       (0 : UInt8), (0 : UInt8)] ++
                                      List.take
                                       (Int.toNat
                                         (if (24 : Int) + m < (↑(List.length x) : Int) then (24 : Int) + m
                                         else (↑(List.length x) : Int)) -
                                        (0 : Nat))
                                       (List.drop (0 : Nat) x))
                                     (2 : Nat)
                                     (b8
                                      (((65535 : Int) -
                                        sumB
                                         (List.flatten
                                          [List.take
                                            ((8 : Nat) +
                                             (Int.toNat
                                               (if (24 : Int) + m < (↑(List.length x) : Int) then (24 : Int) + m
                                               else (↑(List.length x) : Int)) -
                                              (0 : Nat)))
                                            (List.drop (0 : Nat)
                                             ([(11 : UInt8), (0 : UInt8), (0 : UInt8), (0 : UInt8), (0 : UInt8),
                                               (0 : UInt8), (0 : UInt8), (0 : UInt8)] ++
                                              List.take
                                               (Int.toNat
                                                 (if (24 : Int) + m < (↑(List.length x) : Int) then (24 : Int) + m
                                                 else (↑(List.length x) : Int)) -
                                                (0 : Nat))
                                               (List.drop (0 : Nat) x)))])) /
                                       (256 : Int))))
                                    (3 : Nat)
                                    (b8
                                     ((65535 : Int) -
                                      sumB
                                       (List.flatten
                                        [List.take
                                          ((8 : Nat) +
                                           (Int.toNat
                                             (if (24 : Int) + m < (↑(List.length x) : Int) then (24 : Int) + m
                                             else (↑(List.length x) : Int)) -
                                            (0 : Nat)))
                                          (List.drop (0 : Nat)
                                           ([(11 : UInt8), (0 : UInt8), (0 : UInt8), (0 : UInt8), (0 : UInt8),
                                             (0 : UInt8), (0 : UInt8), (0 : UInt8)] ++
                                            List.take
                                             (Int.toNat
                                               (if (24 : Int) + m < (↑(List.length x) : Int) then (24 : Int) + m
                                               else (↑(List.length x) : Int)) -
                                              (0 : Nat))
                                             (List.drop (0 : Nat) x)))])))))))).fst.proto =
                             (ptRead
                                (Ip.mk
                                 (ptWrite (Ip.mk f t p q b) (Hd.mk h1 h2 h3 h4 h5)
                                    [(100 : UInt8), (97 : UInt8), (116 : UInt8), (97 : UInt8)]).fst.src
                                 (ptWrite (Ip.mk f t p q b) (Hd.mk h1 h2 h3 h4 h5)
                                    [(100 : UInt8), (97 : UInt8), (116 : UInt8), (97 : UInt8)]).fst.dst
                                 (ptWrite (Ip.mk f t p q b) (Hd.mk h1 h2 h3 h4 h5)
                                    [(100 : UInt8), (97 : UInt8), (116 : UInt8), (97 : UInt8)]).fst.proto
                                 (ptWrite (Ip.mk f t p q b) (Hd.mk h1 h2 h3 h4 h5)
                                    [(100 : UInt8), (97 : UInt8), (116 : UInt8), (97 : UInt8)]).fst.ttl
                                 (ptWrite (Ip.mk f t p q b) (Hd.mk h1 h2 h3 h4 h5)
                                    [(100 : UInt8), (97 : UInt8), (116 : UInt8), (97 : UInt8)]).fst.body)).fst.proto) &&
                           (decide
                             ((ptQuoted
                                 (Ip.mk t f (1 : Int) (9 : Int)
                                  (List.take
                                   ((8 : Nat) +
                                    (Int.toNat
                                      (if (24 : Int) + m < (↑(List.length x) : Int) then (24 : Int) + m
                                      else (↑(List.length x) : Int)) -
                                     (0 : Nat)))
                                   (List.drop (0 : Nat)
                                    (List.set
                                     (List.set
                                      ([(11 : UInt8), (0 : UInt8), (0 : UInt8), (0 : UInt8), (0 : UInt8), (0 : UInt8),
                                        (0 : UInt8), (0 : UInt8)] ++
                                       List.take
                                        (Int.toNat
                                          (if (24 : Int) + m < (↑(List.length x) : Int) then (24 : Int) + m
                                          else (↑(List.length x) : Int)) -
                                         (0 : Nat))
                                        (List.drop (0 : Nat) x))
                                      (2 : Nat)
                                      (b8
                                       (((65535 : Int) -
                                         sumB
                                          (List.flatten
                                           [List.take
                                             ((8 : Nat) +
                                              (Int.toNat
                                                (if (24 : Int) + m < (↑(List.length x) : Int) then (24 : Int) + m
                                                else (↑(List.length x) : Int)) -
                                               (0 : Nat)))
                                             (List.drop (0 : Nat)
                                              ([(11 : UInt8), (0 : UInt8), (0 : UInt8), (0 : UInt8), (0 : UInt8),
                                                (0 : UInt8), (0 : UInt8), (0 : UInt8)] ++
                                               List.take
                                                (Int.toNat
                                                  (if (24 : Int) + m < (↑(List.length x) : Int) then (24 : Int) + m
                                                  else (↑(List.length x) : Int)) -
                                                 (0 : Nat))
                                                (List.drop (0 : Nat) x)))])) /
                                        (256 : Int))))
                                     (3 : Nat)
                                     (b8
                                      ((65535 : Int) -
                                       sumB
                                        (List.flatten
                                         [List.take
                                           ((8 : Nat) +
                                            (Int.toNat
                                              (if (24 : Int) + m < (↑(List.length x) : Int) then (24 : Int) + m
                                              else (↑(List.length x) : Int)) -
                                             (0 : Nat)))
                                           (List.drop (0 : Nat)
                                            ([(11 : UInt8), (0 : UInt8), (0 : UInt8), (0 : UInt8), (0 : UInt8),
                                              (0 : UInt8), (0 : UInt8), (0 : UInt8)] ++
                                             List.take
                                              (Int.toNat
                                                (if (24 : Int) + m < (↑(List.length x) : Int) then (24 : Int) + m
                                                else (↑(List.length x) : Int)) -
                                               (0 : Nat))
                                              (List.drop (0 : Nat) x)))])))))))).fst.src =
                              (ptWrite (Ip.mk f t p q b) (Hd.mk h1 h2 h3 h4 h5)
                                 [(100 : UInt8), (97 : UInt8), (116 : UInt8), (97 : UInt8)]).fst.src) &&
                            (decide
                              ((ptQuoted
                                  (Ip.mk t f (1 : Int) (9 : Int)
                                   (List.take
                                    ((8 : Nat) +
                                     (Int.toNat
                                       (if (24 : Int) + m < (↑(List.length x) : Int) then (24 : Int) + m
                                       else (↑(List.length x) : Int)) -
                                      (0 : Nat)))
                                    (List.drop (0 : Nat)
                                     (List.set
                                      (List.set
                                       ([(11 : UInt8), (0 : UInt8), (0 : UInt8), (0 : UInt8), (0 : UInt8), (0 : UInt8),
                                         (0 : UInt8), (0 : UInt8)] ++
                                        List.take
                                         (Int.toNat
                                           (if (24 : Int) + m < (↑(List.length x) : Int) then (24 : Int) + m
                                           else (↑(List.length x) : Int)) -
                                          (0 : Nat))
                                         (List.drop (0 : Nat) x))
                                       (2 : Nat)
                                       (b8
                                        (((65535 : Int) -
                                          sumB
                                           (List.flatten
                                            [List.take
                                              ((8 : Nat) +
                                               (Int.toNat
                                                 (if (24 : Int) + m < (↑(List.length x) : Int) then (24 : Int) + m
                                                 else (↑(List.length x) : Int)) -
                                                (0 : Nat)))
                                              (List.drop (0 : Nat)
                                               ([(11 : UInt8), (0 : UInt8), (0 : UInt8), (0 : UInt8), (0 : UInt8),
                                                 (0 : UInt8), (0 : UInt8), (0 : UInt8)] ++
                                                List.take
                                                 (Int.toNat
                                                   (if (24 : Int) + m < (↑(List.length x) : Int) then (24 : Int) + m
                                                   else (↑(List.length x) : Int)) -
                                                  (0 : Nat))
                                                 (List.drop (0 : Nat) x)))])) /
                                         (256 : Int))))
                                      (3 : Nat)
                                      (b8
                                       ((65535 : Int) -
                                        sumB
                                         (List.flatten
                                          [List.take
                                            ((8 : Nat) +
                                             (Int.toNat
                                               (if (24 : Int) + m < (↑(List.length x) : Int) then (24 : Int) + m
                                               else (↑(List.length x) : Int)) -
                                              (0 : Nat)))
                                            (List.drop (0 : Nat)
                                             ([(11 : UInt8), (0 : UInt8), (0 : UInt8), (0 : UInt8), (0 : UInt8),
                                               (0 : UInt8), (0 : UInt8), (0 : UInt8)] ++
                                              List.take
                                               (Int.toNat
                                                 (if (24 : Int) + m < (↑(List.length x) : Int) then (24 : Int) + m
                                                 else (↑(List.length x) : Int)) -
                                                (0 : Nat))
                                               (List.drop (0 : Nat) x)))])))))))).fst.dst =
                               (ptWrite (Ip.mk f t p q b) (Hd.mk h1 h2 h3 h4 h5)
                                  [(100 : UInt8), (97 : UInt8), (116 : UInt8), (97 : UInt8)]).fst.dst) &&
                             (decide
                               ((ptQuoted
                                   (Ip.mk t f (1 : Int) (9 : Int)
                                    (List.take
                                     ((8 : Nat) +
                                      (Int.toNat
                                        (if (24 : Int) + m < (↑(List.length x) : Int) then (24 : Int) + m
                                        else (↑(List.length x) : Int)) -
                                       (0 : Nat)))
                                     (List.drop (0 : Nat)
                                      (List.set
                                       (List.set
                                        ([(11 : UInt8), (0 : UInt8), (0 : UInt8), (0 : UInt8), (0 : UInt8), (0 : UInt8),
                                          (0 : UInt8), (0 : UInt8)] ++
                                         List.take
                                          (Int.toNat
                                            (if (24 : Int) + m < (↑(List.length x) : Int) then (24 : Int) + m
                                            else (↑(List.length x) : Int)) -
                                           (0 : Nat))
                                          (List.drop (0 : Nat) x))
                                        (2 : Nat)
                                        (b8
                                         (((65535 : Int) -
                                           sumB
                                            (List.flatten
                                             [List.take
                                               ((8 : Nat) +
                                                (Int.toNat
                                                  (if (24 : Int) + m < (↑(List.length x) : Int) then (24 : Int) + m
                                                  else (↑(List.length x) : Int)) -
                                                 (0 : Nat)))
                                               (List.drop (0 : Nat)
                                                ([(11 : UInt8), (0 : UInt8), (0 : UInt8), (0 : UInt8), (0 : UInt8),
                                                  (0 : UInt8), (0 : UInt8), (0 : UInt8)] ++
                                                 List.take
                                                  (Int.toNat
                                                    (if (24 : Int) + m < (↑(List.length x) : Int) then (24 : Int) + m
                                                    else (↑(List.length x) : Int)) -
                                                   (0 : Nat))
                                                  (List.drop (0 : Nat) x)))])) /
                                          (256 : Int))))
                                       (3 : Nat)
                                       (b8
                                        ((65535 : Int) -
                                         sumB
                                          (List.flatten
                                           [List.take
                                             ((8 : Nat) +
                                              (Int.toNat
                                                (if (24 : Int) + m < (↑(List.length x) : Int) then (24 : Int) + m
                                                else (↑(List.length x) : Int)) -
                                               (0 : Nat)))
                                             (List.drop (0 : Nat)
                                              ([(11 : UInt8), (0 : UInt8), (0 : UInt8), (0 : UInt8), (0 : UInt8),
                                                (0 : UInt8), (0 : UInt8), (0 : UInt8)] ++
                                               List.take
                                                (Int.toNat
                                                  (if (24 : Int) + m < (↑(List.length x) : Int) then (24 : Int) + m
                                                  else (↑(List.length x) : Int)) -
                                                 (0 : Nat))
                                                (List.drop (0 : Nat) x)))])))))))).fst.port =
                                (ptRead
                                   (Ip.mk
                                    (ptWrite (Ip.mk f t p q b) (Hd.mk h1 h2 h3 h4 h5)
                                       [(100 : UInt8), (97 : UInt8), (116 : UInt8), (97 : UInt8)]).fst.src
                                    (ptWrite (Ip.mk f t p q b) (Hd.mk h1 h2 h3 h4 h5)
                                       [(100 : UInt8), (97 : UInt8), (116 : UInt8), (97 : UInt8)]).fst.dst
                                    (ptWrite (Ip.mk f t p q b) (Hd.mk h1 h2 h3 h4 h5)
                                       [(100 : UInt8), (97 : UInt8), (116 : UInt8), (97 : UInt8)]).fst.proto
                                    (ptWrite (Ip.mk f t p q b) (Hd.mk h1 h2 h3 h4 h5)
                                       [(100 : UInt8), (97 : UInt8), (116 : UInt8), (97 : UInt8)]).fst.ttl
                                    (ptWrite (Ip.mk f t p q b) (Hd.mk h1 h2 h3 h4 h5)
                                       [(100 : UInt8), (97 : UInt8), (116 : UInt8), (97 : UInt8)]).fst.body)).fst.src) &&
                              decide
                               ((ptQuoted
                                   (Ip.mk t f (1 : Int) (9 : Int)
                                    (List.take
                                     ((8 : Nat) +
                                      (Int.toNat
                                        (if (24 : Int) + m < (↑(List.length x) : Int) then (24 : Int) + m
                                        else (↑(List.length x) : Int)) -
                                       (0 : Nat)))
                                     (List.drop (0 : Nat)
                                      (List.set
                                       (List.set
                                        ([(11 : UInt8), (0 : UInt8), (0 : UInt8), (0 : UInt8), (0 : UInt8), (0 : UInt8),
                                          (0 : UInt8), (0 : UInt8)] ++
                                         List.take
                                          (Int.toNat
                                            (if (24 : Int) + m < (↑(List.length x) : Int) then (24 : Int) + m
                                            else (↑(List.length x) : Int)) -
                                           (0 : Nat))
                                          (List.drop (0 : Nat) x))
                                        (2 : Nat)
                                        (b8
                                         (((65535 : Int) -
                                           sumB
                                            (List.flatten
                                             [List.take
                                               ((8 : Nat) +
                                                (Int.toNat
                                                  (if (24 : Int) + m < (↑(List.length x) : Int) then (24 : Int) + m
                                                  else (↑(List.length x) : Int)) -
                                                 (0 : Nat)))
                                               (List.drop (0 : Nat)
                                                ([(11 : UInt8), (0 : UInt8), (0 : UInt8), (0 : UInt8), (0 : UInt8),
                                                  (0 : UInt8), (0 : UInt8), (0 : UInt8)] ++
                                                 List.take
                                                  (Int.toNat
                                                    (if (24 : Int) + m < (↑(List.length x) : Int) then (24 : Int) + m
                                                    else (↑(List.length x) : Int)) -
                                                   (0 : Nat))
                                                  (List.drop (0 : Nat) x)))])) /
                                          (256 : Int))))
                                       (3 : Nat)
                                       (b8
                                        ((65535 : Int) -
                                         sumB
                                          (List.flatten
                                           [List.take
                                             ((8 : Nat) +
                                              (Int.toNat
                                                (if (24 : Int) + m < (↑(List.length x) : Int) then (24 : Int) + m
                                                else (↑(List.length x) : Int)) -
                                               (0 : Nat)))
                                             (List.drop (0 : Nat)
                                              ([(11 : UInt8), (0 : UInt8), (0 : UInt8), (0 : UInt8), (0 : UInt8),
                                                (0 : UInt8), (0 : UInt8), (0 : UInt8)] ++
                                               List.take
                                                (Int.toNat
                                                  (if (24 : Int) + m < (↑(List.length x) : Int) then (24 : Int) + m
                                                  else (↑(List.length x) : Int)) -
                                                 (0 : Nat))
                                                (List.drop (0 : Nat) x)))])))))))).fst.dest =
                                (ptRead
                                   (Ip.mk
                                    (ptWrite (Ip.mk f t p q b) (Hd.mk h1 h2 h3 h4 h5)
                                       [(100 : UInt8), (97 : UInt8), (116 : UInt8), (97 : UInt8)]).fst.src
                                    (ptWrite (Ip.mk f t p q b) (Hd.mk h1 h2 h3 h4 h5)
                                       [(100 : UInt8), (97 : UInt8), (116 : UInt8), (97 : UInt8)]).fst.dst
                                    (ptWrite (Ip.mk f t p q b) (Hd.mk h1 h2 h3 h4 h5)
                                       [(100 : UInt8), (97 : UInt8), (116 : UInt8), (97 : UInt8)]).fst.proto
                                    (ptWrite (Ip.mk f t p q b) (Hd.mk h1 h2 h3 h4 h5)
                                       [(100 : UInt8), (97 : UInt8), (116 : UInt8), (97 : UInt8)]).fst.ttl
                                    (ptWrite (Ip.mk f t p q b) (Hd.mk h1 h2 h3 h4 h5)
                                       [(100 : UInt8), (97 : UInt8), (116 : UInt8),
                                        (97 : UInt8)]).fst.body)).fst.dst))))))
                         [])
                        (K (AVal.bool false) []))))
         (K (AVal.bool false) [])))))) := by kernel_rfl
theorem portsErrors.core (f t : List UInt8) (p q : Int) (b : List UInt8) (h1 h2 h3 h4 h5 : Int) (m : Int)  (h_f : f.length ≤ 140737488351232) (h_t : t.length ≤ 140737488351232) (h_p : -9223372036854775808 ≤ p ∧ p ≤ 9223372036854775807) (h_q : -9223372036854775808 ≤ q ∧ q ≤ 9223372036854775807) (h_b : b.length ≤ 140737488351232) (h_h1 : -9223372036854775808 ≤ h1 ∧ h1 ≤ 9223372036854775807) (h_h2 : -9223372036854775808 ≤ h2 ∧ h2 ≤ 9223372036854775807) (h_h3 : -9223372036854775808 ≤ h3 ∧ h3 ≤ 9223372036854775807) (h_h4 : -9223372036854775808 ≤ h4 ∧ h4 ≤ 9223372036854775807) (h_h5 : -9223372036854775808 ≤ h5 ∧ h5 ≤ 9223372036854775807) (h_m : -9223372036854775808 ≤ m ∧ m ≤ 9223372036854775807) :
    fnP Try.prog Tlw ann_outriderlaw05_PortsErrors Try.f8 [.agg [.str f, .str t, .int .i64 p, .int .i64 q, .str b], .agg [.int .i64 h1, .int .i64 h2, .int .i64 h3, .int .i64 h4, .int .i64 h5], .int .i64 m] [] (fun v _ => v = .bool true) := by
  rw [PortsErrors_eq]
  have eta : ∀ P : Ip, (⟨P.src, P.dst, P.proto, P.ttl, P.body⟩ : Ip) = P := fun _ => rfl
  refine ⟨by omega, ?_⟩
  refine brP_nd (fun _ => rfl) (fun hw => ?_)
  refine brP_d (fun _ => rfl) (fun h16 => ?_)
  refine brP_d (fun _ => rfl) (fun hm => ?_)
  refine brP_d (fun _ => rfl) (fun hm' => ?_)
  obtain ⟨g1, g2, g3, hW⟩ := ptW_ok hw
  have hfl := pt_flow hw
  have hbk := pt_back hw
  have hq := fun n hn => pt_quoted hw (by simp only; omega) (n := n) hn 9
  have hlen := ptBody_len ⟨h1, h2, h3, h4, h5⟩ [100, 97, 116, 97] (ptSum ⟨f, t, p, q, b⟩ ⟨h1, h2, h3, h4, h5⟩ [100, 97, 116, 97])
  have hbd : (ptPacket ⟨f, t, p, q, b⟩ ⟨h1, h2, h3, h4, h5⟩ [100, 97, 116, 97]).body = ptBody ⟨h1, h2, h3, h4, h5⟩ [100, 97, 116, 97] (ptSum ⟨f, t, p, q, b⟩ ⟨h1, h2, h3, h4, h5⟩ [100, 97, 116, 97]) := rfl
  rw [← hbd] at hlen
  have hx24 : 24 ≤ (ipBytes (ptPacket ⟨f, t, p, q, b⟩ ⟨h1, h2, h3, h4, h5⟩ [100, 97, 116, 97])).length := by
    obtain ⟨_, _, _, _, _, _, _, _, _, _, _, _, _, _, _, _, e3, _⟩ := bytes4_form g3 (by simp only [ptPacket]; omega)
    rw [e3, List.length_append, hlen]; simp only [head4, List.length_cons, List.length_nil]; split <;> omega
  simp only [hW, eta, hbk]
  have hs : (ptPacket ⟨f, t, p, q, b⟩ ⟨h1, h2, h3, h4, h5⟩ [100, 97, 116, 97]).src = f := rfl
  have hd : (ptPacket ⟨f, t, p, q, b⟩ ⟨h1, h2, h3, h4, h5⟩ [100, 97, 116, 97]).dst = t := rfl
  simp only [hs, hd] at *
  generalize ptPacket ⟨f, t, p, q, b⟩ ⟨h1, h2, h3, h4, h5⟩ [100, 97, 116, 97] = P at *
  refine optP_i (fun x hx => ?_) (fun hx => ?_)
  · have hx' : x = ipBytes P := by
      unfold ipEncode at hx; rw [if_pos g3] at hx; exact (Option.some.inj hx).symm
    subst hx'
    have hmx := enc_len g3
    generalize ipBytes P = X at *
    clear hx hbd hW g3 g1 g2 h_f h_t h_p h_q h_b h_h1 h_h2 h_h3 h_h4 h_h5
    refine brP_d (fun h => absurd h (by omega)) (fun _ => ?_)
    have hif : 0 ≤ (if 24 + m < (X.length : Int) then 24 + m else (X.length : Int)) ∧ (if 24 + m < (X.length : Int) then 24 + m else (X.length : Int)) ≤ (X.length : Int) := by split <;> omega
    have hn : ∃ n, ((if 24 + m < (X.length : Int) then 24 + m else (X.length : Int)).toNat - 0) = n ∧ 24 ≤ n ∧ n ≤ X.length := ⟨_, rfl, by split <;> omega, by split <;> omega⟩
    obtain ⟨n, hn, hn1, hn2⟩ := hn
    have hT : (X.take n).length = n := by simp; omega
    have e0 : List.take (8 + n) ([11, 0, 0, 0, 0, 0, 0, 0] ++ X.take n) = quote (X.take n) 0 := by
      rw [List.take_of_length_le (by simp [hT]; omega)]; rfl
    have e1 : ∀ s, List.take (8 + n) ((([11, 0, 0, 0, 0, 0, 0, 0] ++ X.take n).set 2 (b8 (s / 256))).set 3 (b8 s)) = quote (X.take n) s := fun s => by
      rw [List.take_of_length_le (by simp [hT]; omega)]; rfl
    have hq' := hq n hn1
    simp only [hn, eq_true hif, true_and, and_true, List.drop_zero, List.flatten_cons, List.flatten_nil, List.append_nil, e0, e1, hq']
    have hql : ∀ s, (quote (X.take n) s).length = 8 + n := fun s => by unfold quote; simp [hT]; omega
    simp only [hql, List.length_append, List.length_set, List.length_cons, List.length_nil, hT, hlen]
    refine ⟨by unfold I64; omega, by omega, by omega, by omega, by omega, by omega, by omega, by omega, by omega, by split <;> omega, ?_⟩
    simp [brP]
  · rw [ipEnc_none hx] at g3; cases g3
end Go.Proofs.Ytbaolkfdkjljjaa.Ae
namespace Go.Proofs.Ytbaolkfdkjljjaa
open Go Go.RowKit Ae
attribute [local irreducible] fnP in
set_option maxRecDepth 100000 in
theorem portsErrors.walk {H : Type} {enc : TypeId × Value → H} (W : World) (args : Array Value) (hn : args.size = 3)
    (h : ∀ (j : Nat) t v, Try.f8.params[j]? = some t → args[j]? = some v → RdV enc false Try.prog W t v) :
    Calls Try.prog 8 args W fun e w' => e = .returned (.bool true) ∧ Below W.heap.size W w' := by
  obtain ⟨v0, v1, v2, rfl⟩ := args3 hn
  obtain ⟨vs0, hs0, hv0⟩ := arg_agg (b := false) (d := 6) (ks := [.str, .str, .int .i64, .int .i64, .str]) (.inl ⟨_, Try.underlying24⟩) (by kernel_rfl) (h 0 24 v0 rfl rfl)
  obtain ⟨_, _, rfl, ⟨f, rfl, h_f⟩, _, _, rfl, ⟨t, rfl, h_t⟩, _, _, rfl, ⟨p, rfl, h_p⟩, _, _, rfl, ⟨q, rfl, h_q⟩, _, _, rfl, ⟨b, rfl, h_b⟩, rfl⟩ := hs0
  obtain ⟨vs1, hs1, hv1⟩ := arg_agg (b := false) (d := 6) (ks := [.int .i64, .int .i64, .int .i64, .int .i64, .int .i64]) (.inl ⟨_, Try.underlying26⟩) (by kernel_rfl) (h 1 26 v1 rfl rfl)
  obtain ⟨_, _, rfl, ⟨h1, rfl, h_h1⟩, _, _, rfl, ⟨h2, rfl, h_h2⟩, _, _, rfl, ⟨h3, rfl, h_h3⟩, _, _, rfl, ⟨h4, rfl, h_h4⟩, _, _, rfl, ⟨h5, rfl, h_h5⟩, rfl⟩ := hs1
  obtain ⟨m, rfl, h_m, hv2⟩ := arg_int (b := false) (m := Mp.nil) (G := []) Try.underlying3 (h 2 3 v2 rfl rfl)
  obtain ⟨r, H1, hr, hG⟩ := fn_sound Tlw_sound mixed Try.func8 (by decide +kernel) (portsErrors.core f t p q b h1 h2 h3 h4 h5 m (len_lim h_f) (len_lim h_t) (i64_bd h_p) (i64_bd h_q) (len_lim h_b) (i64_bd h_h1) (i64_bd h_h2) (i64_bd h_h3) (i64_bd h_h4) (i64_bd h_h5) (i64_bd h_m))
  subst hr
  exact law_walk hG (vl_cons hv0 (vl_cons hv1 (vl_cons hv2 vl_nil)))

namespace portsErrors
theorem spec {H : Type} (ds : List (DataW H)) (h : ds.length = Try.f8.params.size) : Rows.portsErrorsSpec.fn H ds = { results := [.lit (.bool true)], args := ds } := by
  have h' : ds.length = 3 := h
  match ds, h' with
  | [_, _, _], _ => rfl

set_option maxRecDepth 100000 in
theorem lifted (os : Os) (started : os.Started) (H : Type) (enc : TypeId × Value → H) :
    ReturnsInHanded {} Try.checked os 8 .any (Rows.portsErrorsSpec.pre6 enc Try.prog Try.f8 Rows.portsErrorsRow.domain false) (Rows.portsErrorsSpec.post enc Try.prog Try.f8 false true false false) :=
  lifted_said (C := Try.checked) (tb := 4) own started (by kernel_rfl) Try.func8
    (ChangeSpec.witness6 (enc := enc) (C := Try.checked) false ⟨#[], #[.agg #[.string .empty, .string .empty, .int .i64 0, .int .i64 0, .string .empty], .agg #[.int .i64 0, .int .i64 0, .int .i64 0, .int .i64 0, .int .i64 0], .int .i64 0], []⟩ 8 (by kernel_rfl) (by kernel_rfl) (by kernel_rfl) (by kernel_rfl))
    rfl spec rfl Try.underlying4 laidOut (by kernel_rfl) walk

theorem over : Rows.portsErrorsRow.holds Try.pinned (OpenSpec.ofChange Rows.portsErrorsSpec) :=
  OpenClaim.holds_of_wide 8 Try.f8 rfl rfl rfl rfl rfl rfl rfl ⟨rfl, rfl, rfl, rfl, rfl⟩ rfl rfl rfl rfl rfl (by kernel_rfl) Try.func8 (by kernel_rfl)
    (of_decide_eq_true (by kernel_rfl)) (by unfold Func.isWrapper; first | (rw [if_pos (by decide +kernel)]; kernel_rfl) | (rw [if_neg (by decide +kernel)]; exact ⟨rfl, rfl⟩))
    (fun os started H enc _ => lifted os started H enc)

theorem proved : Rows.PortsErrorsSaid := over
#print axioms proved
end portsErrors

end Go.Proofs.Ytbaolkfdkjljjaa

