/- PortsBack: what was written is read as it was; the packet that goes back is the same flow, turned. No conditions. -/
import Derived.Test.YtbaolkfdkjljjaaAl
import Derived.Test.YtbaolkfdkjljjaaMpt2
import Derived.Test.YtbaolkfdkjljjaaAeQk
set_option linter.unusedSimpArgs false
set_option linter.unusedVariables false
namespace Go.Proofs.Ytbaolkfdkjljjaa.Ae
open Go Go.RowKit
def ann_outriderlaw05_PortsBack : Nat → List Nat × Nat × List (List Nat)
  | 18 => ([], 21, [[], [0], [0, 1], [0, 1, 2], [0, 1, 2, 3], [0, 1, 2, 3, 4], [0, 1, 2, 3, 4, 5], [0, 1, 2, 3, 4, 5, 6], [0, 1, 2, 3, 4, 5, 6, 7], [0, 1, 2, 3, 4, 5, 6, 7, 8], [0, 1, 2, 3, 4, 5, 6, 7, 8, 9], [0, 1, 2, 3, 4, 5, 6, 7, 8, 9], [0, 1, 2, 3, 4, 5, 6, 7, 8, 9, 11], [0, 1, 2, 3, 4, 5, 6, 7, 8, 9, 10, 11, 12], [0, 1, 2, 3, 4, 5, 6, 7, 8, 9, 10, 11, 12, 13], [0, 1, 2, 3, 4, 5, 6, 7, 8, 9, 10, 11, 12, 13, 14], [0, 1, 2, 3, 4, 5, 6, 7, 8, 9, 10, 11, 12, 13, 14, 15], [0, 1, 2, 3, 4, 5, 6, 7, 8, 9, 10, 11, 12, 13, 14, 15, 16], [0, 1, 2, 3, 4, 5, 6, 7, 8, 9, 10, 11, 12, 13, 14, 15], [0, 1, 2, 3, 4, 5, 6, 7, 8, 9, 10, 11, 12, 13, 14, 15, 16, 17, 18], [0, 1, 2, 3, 4, 5, 6, 7, 8, 9, 10, 11, 12, 13, 14, 15, 16, 17, 18, 19]])
  | 2000011 => ([], 23, [[], [0], [0, 1], [0, 1, 2], [0, 1, 2, 3], [0, 1, 2, 3, 4], [0, 1, 2, 3, 4, 5], [0, 1, 2, 3, 4, 5, 6], [0, 1, 2, 3, 4, 5, 6, 7], [0, 1, 2, 3, 4, 5, 6, 7, 8], [0, 1, 2, 3, 4, 5, 6, 7, 8, 9], [0, 1, 2, 3, 4, 5, 6, 7, 8, 9, 10], [0, 1, 2, 3, 4, 5, 6, 7, 8, 9, 10, 11], [0, 1, 2, 3, 4, 5, 6, 7, 8, 9, 10, 11, 12], [0, 1, 2, 3, 4, 5, 6, 7, 8, 9, 10, 11, 12, 13], [0, 1, 2, 3, 4, 5, 6, 7, 8, 9, 10, 11, 12, 13, 14], [0, 1, 2, 3, 4, 5, 6, 7, 8, 9, 10, 11, 12, 13, 14, 15], [0, 1, 2, 3, 4, 5, 6, 7, 8, 9, 10, 11, 12, 13, 14, 15, 16], [0, 1, 2, 3, 4, 5, 6, 7, 8, 9, 10, 11, 12, 13, 14, 15, 16, 17], [0, 1, 2, 3, 4, 5, 6, 7, 8, 9, 10, 11, 12, 13, 14, 15, 16, 17, 18], [0, 1, 2, 3, 4, 5, 6, 7, 8, 9, 10, 11, 12, 13, 14, 15, 16, 17, 18, 19], [0, 1, 2, 3, 4, 5, 6, 7, 8, 9, 10, 11, 12, 13, 14, 15, 16, 17, 18, 19, 20]])
  | _ => ([], 0, [])
set_option maxRecDepth 100000 in
theorem PortsBack_eq (f t : List UInt8) (p q : Int) (b : List UInt8) (h1 h2 h3 h4 h5 : Int) (d : List UInt8) (K : AVal → Hp → Prop) : fnP Try.prog Tlw ann_outriderlaw05_PortsBack Try.f6 [.agg [.str f, .str t, .int .i64 p, .int .i64 q, .str b], .agg [.int .i64 h1, .int .i64 h2, .int .i64 h3, .int .i64 h4, .int .i64 h5], .str d] [] K = (
  brP (decide ((3000 : Int) < (↑(List.length d) : Int))) (K (AVal.bool true) [])
    (List.length d ≤ (140737488351232 : Nat) ∧
     brP (!decide ((ptWrite (Ip.mk f t p q b) (Hd.mk h1 h2 h3 h4 h5) d).snd = (0 : Int)))
      (K
       (AVal.bool
        (decide ((ptWrite (Ip.mk f t p q b) (Hd.mk h1 h2 h3 h4 h5) d).fst.src = []) &&
         (decide ((ptWrite (Ip.mk f t p q b) (Hd.mk h1 h2 h3 h4 h5) d).fst.dst = []) &&
          (decide ((ptWrite (Ip.mk f t p q b) (Hd.mk h1 h2 h3 h4 h5) d).fst.proto = (0 : Int)) &&
           (decide ((ptWrite (Ip.mk f t p q b) (Hd.mk h1 h2 h3 h4 h5) d).fst.ttl = (0 : Int)) &&
            decide ((ptWrite (Ip.mk f t p q b) (Hd.mk h1 h2 h3 h4 h5) d).fst.body = []))))))
       [])
      (List.length (ptWrite (Ip.mk f t p q b) (Hd.mk h1 h2 h3 h4 h5) d).fst.body ≤ (140737488351232 : Nat) ∧
       brP (decide (h1 = (6 : Int)))
        (impP
          (!(!decide
               ((ptRead
                  (Ip.mk (ptWrite (Ip.mk f t p q b) (Hd.mk h1 h2 h3 h4 h5) d).fst.src
                   (ptWrite (Ip.mk f t p q b) (Hd.mk h1 h2 h3 h4 h5) d).fst.dst
                   (ptWrite (Ip.mk f t p q b) (Hd.mk h1 h2 h3 h4 h5) d).fst.proto
                   (ptWrite (Ip.mk f t p q b) (Hd.mk h1 h2 h3 h4 h5) d).fst.ttl
                   (ptWrite (Ip.mk f t p q b) (Hd.mk h1 h2 h3 h4 h5) d).fst.body)).snd =
                (0 : Int)) ||
             !(decide
                ((ptRead
                    (Ip.mk (ptWrite (Ip.mk f t p q b) (Hd.mk h1 h2 h3 h4 h5) d).fst.src
                     (ptWrite (Ip.mk f t p q b) (Hd.mk h1 h2 h3 h4 h5) d).fst.dst
                     (ptWrite (Ip.mk f t p q b) (Hd.mk h1 h2 h3 h4 h5) d).fst.proto
                     (ptWrite (Ip.mk f t p q b) (Hd.mk h1 h2 h3 h4 h5) d).fst.ttl
                     (ptWrite (Ip.mk f t p q b) (Hd.mk h1 h2 h3 h4 h5) d).fst.body)).fst.proto =
                 h1) &&
               (decide
                 ((ptRead
                     (Ip.mk (ptWrite (Ip.mk f t p q b) (Hd.mk h1 h2 h3 h4 h5) d).fst.src
                      (ptWrite (Ip.mk f t p q b) (Hd.mk h1 h2 h3 h4 h5) d).fst.dst
                      (ptWrite (Ip.mk f t p q b) (Hd.mk h1 h2 h3 h4 h5) d).fst.proto
                      (ptWrite (Ip.mk f t p q b) (Hd.mk h1 h2 h3 h4 h5) d).fst.ttl
                      (ptWrite (Ip.mk f t p q b) (Hd.mk h1 h2 h3 h4 h5) d).fst.body)).fst.src =
                  h2) &&
                (decide
                  ((ptRead
                      (Ip.mk (ptWrite (Ip.mk f t p q b) (Hd.mk h1 h2 h3 h4 h5) d).fst.src
                       (ptWrite (Ip.mk f t p q b) (Hd.mk h1 h2 h3 h4 h5) d).fst.dst
                       (ptWrite (Ip.mk f t p q b) (Hd.mk h1 h2 h3 h4 h5) d).fst.proto
                       (ptWrite (Ip.mk f t p q b) (Hd.mk h1 h2 h3 h4 h5) d).fst.ttl
                       (ptWrite (Ip.mk f t p q b) (Hd.mk h1 h2 h3 h4 h5) d).fst.body)).fst.dst =
                   h3) &&
                 (decide
                   ((ptRead
                       (Ip.mk (ptWrite (Ip.mk f t p q b) (Hd.mk h1 h2 h3 h4 h5) d).fst.src
                        (ptWrite (Ip.mk f t p q b) (Hd.mk h1 h2 h3 h4 h5) d).fst.dst
                        (ptWrite (Ip.mk f t p q b) (Hd.mk h1 h2 h3 h4 h5) d).fst.proto
                        (ptWrite (Ip.mk f t p q b) (Hd.mk h1 h2 h3 h4 h5) d).fst.ttl
                        (ptWrite (Ip.mk f t p q b) (Hd.mk h1 h2 h3 h4 h5) d).fst.body)).fst.flags =
                    h4) &&
                  decide
                   ((ptRead
                       (Ip.mk (ptWrite (Ip.mk f t p q b) (Hd.mk h1 h2 h3 h4 h5) d).fst.src
                        (ptWrite (Ip.mk f t p q b) (Hd.mk h1 h2 h3 h4 h5) d).fst.dst
                        (ptWrite (Ip.mk f t p q b) (Hd.mk h1 h2 h3 h4 h5) d).fst.proto
                        (ptWrite (Ip.mk f t p q b) (Hd.mk h1 h2 h3 h4 h5) d).fst.ttl
                        (ptWrite (Ip.mk f t p q b) (Hd.mk h1 h2 h3 h4 h5) d).fst.body)).fst.at' =
                    (20 : Int)))))) ||
            decide ((↑(List.length (ptWrite (Ip.mk f t p q b) (Hd.mk h1 h2 h3 h4 h5) d).fst.body) : Int) < (20 : Int))))
          ((0 : Int) ≤ (20 : Int) ∧
           (20 : Int) ≤ (↑(List.length (ptWrite (Ip.mk f t p q b) (Hd.mk h1 h2 h3 h4 h5) d).fst.body) : Int)) ∧
         brP
          (!decide
               ((ptRead
                  (Ip.mk (ptWrite (Ip.mk f t p q b) (Hd.mk h1 h2 h3 h4 h5) d).fst.src
                   (ptWrite (Ip.mk f t p q b) (Hd.mk h1 h2 h3 h4 h5) d).fst.dst
                   (ptWrite (Ip.mk f t p q b) (Hd.mk h1 h2 h3 h4 h5) d).fst.proto
                   (ptWrite (Ip.mk f t p q b) (Hd.mk h1 h2 h3 h4 h5) d).fst.ttl
                   (ptWrite (Ip.mk f t p q b) (Hd.mk h1 h2 h3 h4 h5) d).fst.body)).snd =
                (0 : Int)) ||
             !(decide
                ((ptRead
                    (Ip.mk (ptWrite (Ip.mk f t p q b) (Hd.mk h1 h2 h3 h4 h5) d).fst.src
                     (ptWrite (Ip.mk f t p q b) (Hd.mk h1 h2 h3 h4 h5) d).fst.dst
                     (ptWrite (Ip.mk f t p q b) (Hd.mk h1 h2 h3 h4 h5) d).fst.proto
                     (ptWrite (Ip.mk f t p q b) (Hd.mk h1 h2 h3 h4 h5) d).fst.ttl
                     (ptWrite (Ip.mk f t p q b) (Hd.mk h1 h2 h3 h4 h5) d).fst.body)).fst.proto =
                 h1) &&
               (decide
                 ((ptRead
                     (Ip.mk (ptWrite (Ip.mk f t p q b) (Hd.mk h1 h2 h3 h4 h5) d).fst.src
                      (ptWrite (Ip.mk f t p q b) (Hd.mk h1 h2 h3 h4 h5) d).fst.dst
                      (ptWrite (Ip.mk f t p q b) (Hd.mk h1 h2 h3 h4 h5) d).fst.proto
                      (ptWrite (Ip.mk f t p q b) (Hd.mk h1 h2 h3 h4 h5) d).fst.ttl
                      (ptWrite (Ip.mk f t p q b) (Hd.mk h1 h2 h3 h4 h5) d).fst.body)).fst.src =
                  h2) &&
                (decide
                  ((ptRead
                      (Ip.mk (ptWrite (Ip.mk f t p q b) (Hd.mk h1 h2 h3 h4 h5) d).fst.src
                       (ptWrite (Ip.mk f t p q b) (Hd.mk h1 h2 h3 h4 h5) d).fst.dst
                       (ptWrite (Ip.mk f t p q b) (Hd.mk h1 h2 h3 h4 h5) d).fst.proto
                       (ptWrite (Ip.mk f t p q b) (Hd.mk h1 h2 h3 h4 h5) d).fst.ttl
                       (ptWrite (Ip.mk f t p q b) (Hd.mk h1 h2 h3 h4 h5) d).fst.body)).fst.dst =
                   h3) &&
                 (decide
                   ((ptRead
                       (Ip.mk (ptWrite (Ip.mk f t p q b) (Hd.mk h1 h2 h3 h4 h5) d).fst.src
                        (ptWrite (Ip.mk f t p q b) (Hd.mk h1 h2 h3 h4 h5) d).fst.dst
                        (ptWrite (Ip.mk f t p q b) (Hd.mk h1 h2 h3 h4 h5) d).fst.proto
                        (ptWrite (Ip.mk f t p q b) (Hd.mk h1 h2 h3 h4 h5) d).fst.ttl
                        (ptWrite (Ip.mk f t p q b) (Hd.mk h1 h2 h3 h4 h5) d).fst.body)).fst.flags =
                    h4) &&
                  decide
                   ((ptRead
                       (Ip.mk (ptWrite (Ip.mk f t p q b) (Hd.mk h1 h2 h3 h4 h5) d).fst.src
                        (ptWrite (Ip.mk f t p q b) (Hd.mk h1 h2 h3 h4 h5) d).fst.dst
                        (ptWrite (Ip.mk f t p q b) (Hd.mk h1 h2 h3 h4 h5) d).fst.proto
                        (ptWrite (Ip.mk f t p q b) (Hd.mk h1 h2 h3 h4 h5) d).fst.ttl
                        (ptWrite (Ip.mk f t p q b) (Hd.mk h1 h2 h3 h4 h5) d).fst.body)).fst.at' =
                    (20 : Int)))))) ||
            decide ((↑(List.length (ptWrite (Ip.mk f t p q b) (Hd.mk h1 h2 h3 h4 h5) d).fst.body) : Int) < (20 : Int)) ||
           !decide (List.drop (20 : Nat) (ptWrite (Ip.mk f t p q b) (Hd.mk h1 h2 h3 h4 h5) d).fst.body = d))
          (K (AVal.bool false) [])
          (List.length (ptWrite (Ip.mk f t p q b) (Hd.mk h1 h2 h3 h4 h5) d).fst.body ≤ (140737488351232 : Nat) ∧
           brP
            (!decide
              ((ptRead
                 (Ip.mk (ptWrite (Ip.mk f t p q b) (Hd.mk h1 h2 h3 h4 h5) d).fst.src
                  (ptWrite (Ip.mk f t p q b) (Hd.mk h1 h2 h3 h4 h5) d).fst.dst
                  (ptWrite (Ip.mk f t p q b) (Hd.mk h1 h2 h3 h4 h5) d).fst.proto
                  (ptWrite (Ip.mk f t p q b) (Hd.mk h1 h2 h3 h4 h5) d).fst.ttl
                  (ptWrite (Ip.mk f t p q b) (Hd.mk h1 h2 h3 h4 h5) d).fst.body)).snd =
               (0 : Int)))
            (List.length d ≤ (140737488351232 : Nat) ∧
             List.length (ptWrite (Ip.mk t f p q b) (Hd.mk h1 h3 h2 h4 (0 : Int)) d).fst.body ≤ (140737488351232 : Nat) ∧
              brP
               (!decide
                 ((ptRead
                    (Ip.mk (ptWrite (Ip.mk t f p q b) (Hd.mk h1 h3 h2 h4 (0 : Int)) d).fst.src
                     (ptWrite (Ip.mk t f p q b) (Hd.mk h1 h3 h2 h4 (0 : Int)) d).fst.dst
                     (ptWrite (Ip.mk t f p q b) (Hd.mk h1 h3 h2 h4 (0 : Int)) d).fst.proto
                     (ptWrite (Ip.mk t f p q b) (Hd.mk h1 h3 h2 h4 (0 : Int)) d).fst.ttl
                     (ptWrite (Ip.mk t f p q b) (Hd.mk h1 h3 h2 h4 (0 : Int)) d).fst.body)).snd =
                  (0 : Int)))
               (brP (decide ((ptWrite (Ip.mk t f p q b) (Hd.mk h1 h3 h2 h4 (0 : Int)) d).snd = (0 : Int)))
                (brP
                 (decide
                  ((ptRead
                     (Ip.mk (ptWrite (Ip.mk t f p q b) (Hd.mk h1 h3 h2 h4 (0 : Int)) d).fst.src
                      (ptWrite (Ip.mk t f p q b) (Hd.mk h1 h3 h2 h4 (0 : Int)) d).fst.dst
                      (ptWrite (Ip.mk t f p q b) (Hd.mk h1 h3 h2 h4 (0 : Int)) d).fst.proto
                      (ptWrite (Ip.mk t f p q b) (Hd.mk h1 h3 h2 h4 (0 : Int)) d).fst.ttl
                      (ptWrite (Ip.mk t f p q b) (Hd.mk h1 h3 h2 h4 (0 : Int)) d).fst.body)).snd =
                   (0 : Int)))
                 (K (AVal.bool true) []) (K (AVal.bool false) []))
                (K (AVal.bool false) []))
               (brP (decide ((ptWrite (Ip.mk t f p q b) (Hd.mk h1 h3 h2 h4 (0 : Int)) d).snd = (0 : Int)))
                (brP
                 (decide
                   ((ptRead
                       (Ip.mk (ptWrite (Ip.mk t f p q b) (Hd.mk h1 h3 h2 h4 (0 : Int)) d).fst.src
                        (ptWrite (Ip.mk t f p q b) (Hd.mk h1 h3 h2 h4 (0 : Int)) d).fst.dst
                        (ptWrite (Ip.mk t f p q b) (Hd.mk h1 h3 h2 h4 (0 : Int)) d).fst.proto
                        (ptWrite (Ip.mk t f p q b) (Hd.mk h1 h3 h2 h4 (0 : Int)) d).fst.ttl
                        (ptWrite (Ip.mk t f p q b) (Hd.mk h1 h3 h2 h4 (0 : Int)) d).fst.body)).fst.proto =
                    (0 : Int)) &&
                  (decide ((ptWrite (Ip.mk t f p q b) (Hd.mk h1 h3 h2 h4 (0 : Int)) d).fst.src = []) &&
                   (decide ((ptWrite (Ip.mk t f p q b) (Hd.mk h1 h3 h2 h4 (0 : Int)) d).fst.dst = []) &&
                    (decide
                      ((ptRead
                          (Ip.mk (ptWrite (Ip.mk t f p q b) (Hd.mk h1 h3 h2 h4 (0 : Int)) d).fst.src
                           (ptWrite (Ip.mk t f p q b) (Hd.mk h1 h3 h2 h4 (0 : Int)) d).fst.dst
                           (ptWrite (Ip.mk t f p q b) (Hd.mk h1 h3 h2 h4 (0 : Int)) d).fst.proto
                           (ptWrite (Ip.mk t f p q b) (Hd.mk h1 h3 h2 h4 (0 : Int)) d).fst.ttl
                           (ptWrite (Ip.mk t f p q b) (Hd.mk h1 h3 h2 h4 (0 : Int)) d).fst.body)).fst.src =
                       (0 : Int)) &&
                     decide
                      ((ptRead
                          (Ip.mk (ptWrite (Ip.mk t f p q b) (Hd.mk h1 h3 h2 h4 (0 : Int)) d).fst.src
                           (ptWrite (Ip.mk t f p q b) (Hd.mk h1 h3 h2 h4 (0 : Int)) d).fst.dst
                           (ptWrite (Ip.mk t f p q b) (Hd.mk h1 h3 h2 h4 (0 : Int)) d).fst.proto
                           (ptWrite (Ip.mk t f p q b) (Hd.mk h1 h3 h2 h4 (0 : Int)) d).fst.ttl
                           (ptWrite (Ip.mk t f p q b) (Hd.mk h1 h3 h2 h4 (0 : Int)) d).fst.body)).fst.dst =
                       (0 : Int))))))
                 (K
                  (AVal.bool
                   (decide
                     ((ptRead
                         (Ip.mk (ptWrite (Ip.mk t f p q b) (Hd.mk h1 h3 h2 h4 (0 : Int)) d).fst.src
                          (ptWrite (Ip.mk t f p q b) (Hd.mk h1 h3 h2 h4 (0 : Int)) d).fst.dst
                          (ptWrite (Ip.mk t f p q b) (Hd.mk h1 h3 h2 h4 (0 : Int)) d).fst.proto
                          (ptWrite (Ip.mk t f p q b) (Hd.mk h1 h3 h2 h4 (0 : Int)) d).fst.ttl
                          (ptWrite (Ip.mk t f p q b) (Hd.mk h1 h3 h2 h4 (0 : Int)) d).fst.body)).fst.proto =
                      (0 : Int)) &&
                    (decide ((ptWrite (Ip.mk t f p q b) (Hd.mk h1 h3 h2 h4 (0 : Int)) d).fst.dst = []) &&
                     (decide ((ptWrite (Ip.mk t f p q b) (Hd.mk h1 h3 h2 h4 (0 : Int)) d).fst.src = []) &&
                      (decide
                        ((ptRead
                            (Ip.mk (ptWrite (Ip.mk t f p q b) (Hd.mk h1 h3 h2 h4 (0 : Int)) d).fst.src
                             (ptWrite (Ip.mk t f p q b) (Hd.mk h1 h3 h2 h4 (0 : Int)) d).fst.dst
                             (ptWrite (Ip.mk t f p q b) (Hd.mk h1 h3 h2 h4 (0 : Int)) d).fst.proto
                             (ptWrite (Ip.mk t f p q b) (Hd.mk h1 h3 h2 h4 (0 : Int)) d).fst.ttl
                             (ptWrite (Ip.mk t f p q b) (Hd.mk h1 h3 h2 h4 (0 : Int)) d).fst.body)).fst.dst =
                         (0 : Int)) &&
                       decide
                        ((ptRead
                            (Ip.mk (ptWrite (Ip.mk t f p q b) (Hd.mk h1 h3 h2 h4 (0 : Int)) d).fst.src
                             (ptWrite (Ip.mk t f p q b) (Hd.mk h1 h3 h2 h4 (0 : Int)) d).fst.dst
                             (ptWrite (Ip.mk t f p q b) (Hd.mk h1 h3 h2 h4 (0 : Int)) d).fst.proto
                             (ptWrite (Ip.mk t f p q b) (Hd.mk h1 h3 h2 h4 (0 : Int)) d).fst.ttl
                             (ptWrite (Ip.mk t f p q b) (Hd.mk h1 h3 h2 h4 (0 : Int)) d).fst.body)).fst.src =
                         (0 : Int)))))))
                  [])
                 (K (AVal.bool false) []))
                (K (AVal.bool false) [])))
            (List.length d ≤ (140737488351232 : Nat) ∧
             List.length (ptWrite (Ip.mk t f p q b) (Hd.mk h1 h3 h2 h4 (0 : Int)) d).fst.body ≤ (140737488351232 : Nat) ∧
              brP
               (!decide
                 ((ptRead
                    (Ip.mk (ptWrite (Ip.mk t f p q b) (Hd.mk h1 h3 h2 h4 (0 : Int)) d).fst.src
                     (ptWrite (Ip.mk t f p q b) (Hd.mk h1 h3 h2 h4 (0 : Int)) d).fst.dst
                     (ptWrite (Ip.mk t f p q b) (Hd.mk h1 h3 h2 h4 (0 : Int)) d).fst.proto
                     (ptWrite (Ip.mk t f p q b) (Hd.mk h1 h3 h2 h4 (0 : Int)) d).fst.ttl
                     (ptWrite (Ip.mk t f p q b) (Hd.mk h1 h3 h2 h4 (0 : Int)) d).fst.body)).snd =
                  (0 : Int)))
               (brP (decide ((ptWrite (Ip.mk t f p q b) (Hd.mk h1 h3 h2 h4 (0 : Int)) d).snd = (0 : Int)))
                (brP
                 (decide
                  ((ptRead
                     (Ip.mk (ptWrite (Ip.mk t f p q b) (Hd.mk h1 h3 h2 h4 (0 : Int)) d).fst.src
                      (ptWrite (Ip.mk t f p q b) (Hd.mk h1 h3 h2 h4 (0 : Int)) d).fst.dst
                      (ptWrite (Ip.mk t f p q b) (Hd.mk h1 h3 h2 h4 (0 : Int)) d).fst.proto
                      (ptWrite (Ip.mk t f p q b) (Hd.mk h1 h3 h2 h4 (0 : Int)) d).fst.ttl
                      (ptWrite (Ip.mk t f p q b) (Hd.mk h1 h3 h2 h4 (0 : Int)) d).fst.body)).snd =
                   (0 : Int)))
                 (brP
                  (decide
                    ((0 : Int) =
                     (ptRead
                        (Ip.mk (ptWrite (Ip.mk f t p q b) (Hd.mk h1 h2 h3 h4 h5) d).fst.src
                         (ptWrite (Ip.mk f t p q b) (Hd.mk h1 h2 h3 h4 h5) d).fst.dst
                         (ptWrite (Ip.mk f t p q b) (Hd.mk h1 h2 h3 h4 h5) d).fst.proto
                         (ptWrite (Ip.mk f t p q b) (Hd.mk h1 h2 h3 h4 h5) d).fst.ttl
                         (ptWrite (Ip.mk f t p q b) (Hd.mk h1 h2 h3 h4 h5) d).fst.body)).fst.proto) &&
                   (decide ([] = (ptWrite (Ip.mk f t p q b) (Hd.mk h1 h2 h3 h4 h5) d).fst.dst) &&
                    (decide ([] = (ptWrite (Ip.mk f t p q b) (Hd.mk h1 h2 h3 h4 h5) d).fst.src) &&
                     (decide
                       ((0 : Int) =
                        (ptRead
                           (Ip.mk (ptWrite (Ip.mk f t p q b) (Hd.mk h1 h2 h3 h4 h5) d).fst.src
                            (ptWrite (Ip.mk f t p q b) (Hd.mk h1 h2 h3 h4 h5) d).fst.dst
                            (ptWrite (Ip.mk f t p q b) (Hd.mk h1 h2 h3 h4 h5) d).fst.proto
                            (ptWrite (Ip.mk f t p q b) (Hd.mk h1 h2 h3 h4 h5) d).fst.ttl
                            (ptWrite (Ip.mk f t p q b) (Hd.mk h1 h2 h3 h4 h5) d).fst.body)).fst.dst) &&
                      decide
                       ((0 : Int) =
                        (ptRead
                           (Ip.mk (ptWrite (Ip.mk f t p q b) (Hd.mk h1 h2 h3 h4 h5) d).fst.src
                            (ptWrite (Ip.mk f t p q b) (Hd.mk h1 h2 h3 h4 h5) d).fst.dst
                            (ptWrite (Ip.mk f t p q b) (Hd.mk h1 h2 h3 h4 h5) d).fst.proto
                            (ptWrite (Ip.mk f t p q b) (Hd.mk h1 h2 h3 h4 h5) d).fst.ttl
                            (ptWrite (Ip.mk f t p q b) (Hd.mk h1 h2 h3 h4 h5) d).fst.body)).fst.src)))))
                  (K
                   (AVal.bool
                    (decide
                      ((0 : Int) =
                       (ptRead
                          (Ip.mk (ptWrite (Ip.mk f t p q b) (Hd.mk h1 h2 h3 h4 h5) d).fst.src
                           (ptWrite (Ip.mk f t p q b) (Hd.mk h1 h2 h3 h4 h5) d).fst.dst
                           (ptWrite (Ip.mk f t p q b) (Hd.mk h1 h2 h3 h4 h5) d).fst.proto
                           (ptWrite (Ip.mk f t p q b) (Hd.mk h1 h2 h3 h4 h5) d).fst.ttl
                           (ptWrite (Ip.mk f t p q b) (Hd.mk h1 h2 h3 h4 h5) d).fst.body)).fst.proto) &&
                     (decide ([] = (ptWrite (Ip.mk f t p q b) (Hd.mk h1 h2 h3 h4 h5) d).fst.src) &&
                      (decide ([] = (ptWrite (Ip.mk f t p q b) (Hd.mk h1 h2 h3 h4 h5) d).fst.dst) &&
                       (decide
                         ((0 : Int) =
                          (ptRead
                             (Ip.mk (ptWrite (Ip.mk f t p q b) (Hd.mk h1 h2 h3 h4 h5) d).fst.src
                              (ptWrite (Ip.mk f t p q b) (Hd.mk h1 h2 h3 h4 h5) d).fst.dst
                              (ptWrite (Ip.mk f t p q b) (Hd.mk h1 h2 h3 h4 h5) d).fst.proto
                              (ptWrite (Ip.mk f t p q b) (Hd.mk h1 h2 h3 h4 h5) d).fst.ttl
                              (ptWrite (Ip.mk f t p q b) (Hd.mk h1 h2 h3 h4 h5) d).fst.body)).fst.src) &&
                        decide
                         ((0 : Int) =
                          (ptRead
                             (Ip.mk (ptWrite (Ip.mk f t p q b) (Hd.mk h1 h2 h3 h4 h5) d).fst.src
                              (ptWrite (Ip.mk f t p q b) (Hd.mk h1 h2 h3 h4 h5) d).fst.dst
                              (ptWrite (Ip.mk f t p q b) (Hd.mk h1 h2 h3 h4 h5) d).fst.proto
                              (ptWrite (Ip.mk f t p q b) (Hd.mk h1 h2 h3 h4 h5) d).fst.ttl
                              (ptWrite (Ip.mk f t p q b) (Hd.mk h1 h2 h3 h4 h5) d).fst.body)).fst.dst))))))
                   [])
                  (K (AVal.bool false) []))
                 (K (AVal.bool false) []))
                (K (AVal.bool false) []))
               (brP (decide ((ptWrite (Ip.mk t f p q b) (Hd.mk h1 h3 h2 h4 (0 : Int)) d).snd = (0 : Int)))
                (brP
                 (decide
                   ((ptRead
                       (Ip.mk (ptWrite (Ip.mk t f p q b) (Hd.mk h1 h3 h2 h4 (0 : Int)) d).fst.src
                        (ptWrite (Ip.mk t f p q b) (Hd.mk h1 h3 h2 h4 (0 : Int)) d).fst.dst
                        (ptWrite (Ip.mk t f p q b) (Hd.mk h1 h3 h2 h4 (0 : Int)) d).fst.proto
                        (ptWrite (Ip.mk t f p q b) (Hd.mk h1 h3 h2 h4 (0 : Int)) d).fst.ttl
                        (ptWrite (Ip.mk t f p q b) (Hd.mk h1 h3 h2 h4 (0 : Int)) d).fst.body)).fst.proto =
                    (ptRead
                       (Ip.mk (ptWrite (Ip.mk f t p q b) (Hd.mk h1 h2 h3 h4 h5) d).fst.src
                        (ptWrite (Ip.mk f t p q b) (Hd.mk h1 h2 h3 h4 h5) d).fst.dst
                        (ptWrite (Ip.mk f t p q b) (Hd.mk h1 h2 h3 h4 h5) d).fst.proto
                        (ptWrite (Ip.mk f t p q b) (Hd.mk h1 h2 h3 h4 h5) d).fst.ttl
                        (ptWrite (Ip.mk f t p q b) (Hd.mk h1 h2 h3 h4 h5) d).fst.body)).fst.proto) &&
                  (decide
                    ((ptWrite (Ip.mk t f p q b) (Hd.mk h1 h3 h2 h4 (0 : Int)) d).fst.src =
                     (ptWrite (Ip.mk f t p q b) (Hd.mk h1 h2 h3 h4 h5) d).fst.dst) &&
                   (decide
                     ((ptWrite (Ip.mk t f p q b) (Hd.mk h1 h3 h2 h4 (0 : Int)) d).fst.dst =
                      (ptWrite (Ip.mk f t p q b) (Hd.mk h1 h2 h3 h4 h5) d).fst.src) &&
                    (decide
                      ((ptRead
                          (Ip.mk (ptWrite (Ip.mk t f p q b) (Hd.mk h1 h3 h2 h4 (0 : Int)) d).fst.src
                           (ptWrite (Ip.mk t f p q b) (Hd.mk h1 h3 h2 h4 (0 : Int)) d).fst.dst
                           (ptWrite (Ip.mk t f p q b) (Hd.mk h1 h3 h2 h4 (0 : Int)) d).fst.proto
                           (ptWrite (Ip.mk t f p q b) (Hd.mk h1 h3 h2 h4 (0 : Int)) d).fst.ttl
                           (ptWrite (Ip.mk t f p q b) (Hd.mk h1 h3 h2 h4 (0 : Int)) d).fst.body)).fst.src =
                       (ptRead
                          (Ip.mk (ptWrite (Ip.mk f t p q b) (Hd.mk h1 h2 h3 h4 h5) d).fst.src
                           (ptWrite (Ip.mk f t p q b) (Hd.mk h1 h2 h3 h4 h5) d).fst.dst
                           (ptWrite (Ip.mk f t p q b) (Hd.mk h1 h2 h3 h4 h5) d).fst.proto
                           (ptWrite (Ip.mk f t p q b) (Hd.mk h1 h2 h3 h4 h5) d).fst.ttl
                           (ptWrite (Ip.mk f t p q b) (Hd.mk h1 h2 h3 h4 h5) d).fst.body)).fst.dst) &&
                     decide
                      ((ptRead
                          (Ip.mk (ptWrite (Ip.mk t f p q b) (Hd.mk h1 h3 h2 h4 (0 : Int)) d).fst.src
                           (ptWrite (Ip.mk t f p q b) (Hd.mk h1 h3 h2 h4 (0 : Int)) d).fst.dst
                           (ptWrite (Ip.mk t f p q b) (Hd.mk h1 h3 h2 h4 (0 : Int)) d).fst.proto
                           (ptWrite (Ip.mk t f p q b) (Hd.mk h1 h3 h2 h4 (0 : Int)) d).fst.ttl
                           (ptWrite (Ip.mk t f p q b) (Hd.mk h1 h3 h2 h4 (0 : Int)) d).fst.body)).fst.dst =
                       (ptRead
                          (Ip.mk (ptWrite (Ip.mk f t p q b) (Hd.mk h1 h2 h3 h4 h5) d).fst.src
                           (ptWrite (Ip.mk f t p q b) (Hd.mk h1 h2 h3 h4 h5) d).fst.dst
                           (ptWrite (Ip.mk f t p q b) (Hd.mk h1 h2 h3 h4 h5) d).fst.proto
                           (ptWrite (Ip.mk f t p q b) (Hd.mk h1 h2 h3 h4 h5) d).fst.ttl
                           (ptWrite (Ip.mk f t p q b) (Hd.mk h1 h2 h3 h4 h5) d).fst.body)).fst.src)))))
                 (K
                  (AVal.bool
                   (decide
                     ((ptRead
                         (Ip.mk (ptWrite (Ip.mk t f p q b) (Hd.mk h1 h3 h2 h4 (0 : Int)) d).fst.src
                          (ptWrite (Ip.mk t f p q b) (Hd.mk h1 h3 h2 h4 (0 : Int)) d).fst.dst
                          (ptWrite (Ip.mk t f p q b) (Hd.mk h1 h3 h2 h4 (0 : Int)) d).fst.proto
                          (ptWrite (Ip.mk t f p q b) (Hd.mk h1 h3 h2 h4 (0 : Int)) d).fst.ttl
                          (ptWrite (Ip.mk t f p q b) (Hd.mk h1 h3 h2 h4 (0 : Int)) d).fst.body)).fst.proto =
                      (ptRead
                         (Ip.mk (ptWrite (Ip.mk f t p q b) (Hd.mk h1 h2 h3 h4 h5) d).fst.src
                          (ptWrite (Ip.mk f t p q b) (Hd.mk h1 h2 h3 h4 h5) d).fst.dst
                          (ptWrite (Ip.mk f t p q b) (Hd.mk h1 h2 h3 h4 h5) d).fst.proto
                          (ptWrite (Ip.mk f t p q b) (Hd.mk h1 h2 h3 h4 h5) d).fst.ttl
                          (ptWrite (Ip.mk f t p q b) (Hd.mk h1 h2 h3 h4 h5) d).fst.body)).fst.proto) &&
                    (decide
                      ((ptWrite (Ip.mk t f p q b) (Hd.mk h1 h3 h2 h4 (0 : Int)) d).fst.dst =
                       (ptWrite (Ip.mk f t p q b) (Hd.mk h1 h2 h3 h4 h5) d).fst.src) &&
                     (decide
                       ((ptWrite (Ip.mk t f p q b) (Hd.mk h1 h3 h2 h4 (0 : Int)) d).fst.src =
                        (ptWrite (Ip.mk f t p q b) (Hd.mk h1 h2 h3 h4 h5) d).fst.dst) &&
                      (decide
                        ((ptRead
                            (Ip.mk (ptWrite (Ip.mk t f p q b) (Hd.mk h1 h3 h2 h4 (0 : Int)) d).fst.src
                             (ptWrite (Ip.mk t f p q b) (Hd.mk h1 h3 h2 h4 (0 : Int)) d).fst.dst
                             (ptWrite (Ip.mk t f p q b) (Hd.mk h1 h3 h2 h4 (0 : Int)) d).fst.proto
                             (ptWrite (Ip.mk t f p q b) (Hd.mk h1 h3 h2 h4 (0 : Int)) d).fst.ttl
                             (ptWrite (Ip.mk t f p q b) (Hd.mk h1 h3 h2 h4 (0 : Int)) d).fst.body)).fst.dst =
                         (ptRead
                            (Ip.mk (ptWrite (Ip.mk f t p q b) (Hd.mk h1 h2 h3 h4 h5) d).fst.src
                             (ptWrite (Ip.mk f t p q b) (Hd.mk h1 h2 h3 h4 h5) d).fst.dst
                             (ptWrite (Ip.mk f t p q b) (Hd.mk h1 h2 h3 h4 h5) d).fst.proto
                             (ptWrite (Ip.mk f t p q b) (Hd.mk h1 h2 h3 h4 h5) d).fst.ttl
                             (ptWrite (Ip.mk f t p q b) (Hd.mk h1 h2 h3 h4 h5) d).fst.body)).fst.src) &&
                       decide
                        ((ptRead
                            (Ip.mk (ptWrite (Ip.mk t f p q b) (Hd.mk h1 h3 h2 h4 (0 : Int)) d).fst.src
                             (ptWrite (Ip.mk t f p q b) (Hd.mk h1 h3 h2 h4 (0 : Int)) d).fst.dst
                             (ptWrite (Ip.mk t f p q b) (Hd.mk h1 h3 h2 h4 (0 : Int)) d).fst.proto
                             (ptWrite (Ip.mk t f p q b) (Hd.mk h1 h3 h2 h4 (0 : Int)) d).fst.ttl
                             (ptWrite (Ip.mk t f p q b) (Hd.mk h1 h3 h2 h4 (0 : Int)) d).fst.body)).fst.src =
                         (ptRead
                            (Ip.mk (ptWrite (Ip.mk f t p q b) (Hd.mk h1 h2 h3 h4 h5) d).fst.src
                             (ptWrite (Ip.mk f t p q b) (Hd.mk h1 h2 h3 h4 h5) d).fst.dst
                             (ptWrite (Ip.mk f t p q b) (Hd.mk h1 h2 h3 h4 h5) d).fst.proto
                             (ptWrite (Ip.mk f t p q b) (Hd.mk h1 h2 h3 h4 h5) d).fst.ttl
                             (ptWrite (Ip.mk f t p q b) (Hd.mk h1 h2 h3 h4 h5) d).fst.body)).fst.dst))))))
                  [])
                 (K (AVal.bool false) []))
                (K (AVal.bool false) [])))))
        (impP
          (!(!decide
               ((ptRead
                  (Ip.mk (ptWrite (Ip.mk f t p q b) (Hd.mk h1 h2 h3 h4 h5) d).fst.src
                   (ptWrite (Ip.mk f t p q b) (Hd.mk h1 h2 h3 h4 h5) d).fst.dst
                   (ptWrite (Ip.mk f t p q b) (Hd.mk h1 h2 h3 h4 h5) d).fst.proto
                   (ptWrite (Ip.mk f t p q b) (Hd.mk h1 h2 h3 h4 h5) d).fst.ttl
                   (ptWrite (Ip.mk f t p q b) (Hd.mk h1 h2 h3 h4 h5) d).fst.body)).snd =
                (0 : Int)) ||
             !(decide
                ((ptRead
                    (Ip.mk (ptWrite (Ip.mk f t p q b) (Hd.mk h1 h2 h3 h4 h5) d).fst.src
                     (ptWrite (Ip.mk f t p q b) (Hd.mk h1 h2 h3 h4 h5) d).fst.dst
                     (ptWrite (Ip.mk f t p q b) (Hd.mk h1 h2 h3 h4 h5) d).fst.proto
                     (ptWrite (Ip.mk f t p q b) (Hd.mk h1 h2 h3 h4 h5) d).fst.ttl
                     (ptWrite (Ip.mk f t p q b) (Hd.mk h1 h2 h3 h4 h5) d).fst.body)).fst.proto =
                 h1) &&
               (decide
                 ((ptRead
                     (Ip.mk (ptWrite (Ip.mk f t p q b) (Hd.mk h1 h2 h3 h4 h5) d).fst.src
                      (ptWrite (Ip.mk f t p q b) (Hd.mk h1 h2 h3 h4 h5) d).fst.dst
                      (ptWrite (Ip.mk f t p q b) (Hd.mk h1 h2 h3 h4 h5) d).fst.proto
                      (ptWrite (Ip.mk f t p q b) (Hd.mk h1 h2 h3 h4 h5) d).fst.ttl
                      (ptWrite (Ip.mk f t p q b) (Hd.mk h1 h2 h3 h4 h5) d).fst.body)).fst.src =
                  h2) &&
                (decide
                  ((ptRead
                      (Ip.mk (ptWrite (Ip.mk f t p q b) (Hd.mk h1 h2 h3 h4 h5) d).fst.src
                       (ptWrite (Ip.mk f t p q b) (Hd.mk h1 h2 h3 h4 h5) d).fst.dst
                       (ptWrite (Ip.mk f t p q b) (Hd.mk h1 h2 h3 h4 h5) d).fst.proto
                       (ptWrite (Ip.mk f t p q b) (Hd.mk h1 h2 h3 h4 h5) d).fst.ttl
                       (ptWrite (Ip.mk f t p q b) (Hd.mk h1 h2 h3 h4 h5) d).fst.body)).fst.dst =
                   h3) &&
                 (decide
                   ((ptRead
                       (Ip.mk (ptWrite (Ip.mk f t p q b) (Hd.mk h1 h2 h3 h4 h5) d).fst.src
                        (ptWrite (Ip.mk f t p q b) (Hd.mk h1 h2 h3 h4 h5) d).fst.dst
                        (ptWrite (Ip.mk f t p q b) (Hd.mk h1 h2 h3 h4 h5) d).fst.proto
                        (ptWrite (Ip.mk f t p q b) (Hd.mk h1 h2 h3 h4 h5) d).fst.ttl
                        (ptWrite (Ip.mk f t p q b) (Hd.mk h1 h2 h3 h4 h5) d).fst.body)).fst.flags =
                    h4) &&
                  decide
                   ((ptRead
                       (Ip.mk (ptWrite (Ip.mk f t p q b) (Hd.mk h1 h2 h3 h4 h5) d).fst.src
                        (ptWrite (Ip.mk f t p q b) (Hd.mk h1 h2 h3 h4 h5) d).fst.dst
                        (ptWrite (Ip.mk f t p q b) (Hd.mk h1 h2 h3 h4 h5) d).fst.proto
                        (ptWrite (Ip.mk f t p q b) (Hd.mk h1 h2 h3 h4 h5) d).fst.ttl
                        (ptWrite (Ip.mk f t p q b) (Hd.mk h1 h2 h3 h4 h5) d).fst.body)).fst.at' =
                    (8 : Int)))))) ||
            decide ((↑(List.length (ptWrite (Ip.mk f t p q b) (Hd.mk h1 h2 h3 h4 h5) d).fst.body) : Int) < (8 : Int))))
          ((0 : Int) ≤ (8 : Int) ∧
           (8 : Int) ≤ (↑(List.length (ptWrite (Ip.mk f t p q b) (Hd.mk h1 h2 h3 h4 h5) d).fst.body) : Int)) ∧
         brP
          (!decide
               ((ptRead
                  (Ip.mk (ptWrite (Ip.mk f t p q b) (Hd.mk h1 h2 h3 h4 h5) d).fst.src
                   (ptWrite (Ip.mk f t p q b) (Hd.mk h1 h2 h3 h4 h5) d).fst.dst
                   (ptWrite (Ip.mk f t p q b) (Hd.mk h1 h2 h3 h4 h5) d).fst.proto
                   (ptWrite (Ip.mk f t p q b) (Hd.mk h1 h2 h3 h4 h5) d).fst.ttl
                   (ptWrite (Ip.mk f t p q b) (Hd.mk h1 h2 h3 h4 h5) d).fst.body)).snd =
                (0 : Int)) ||
             !(decide
                ((ptRead
                    (Ip.mk (ptWrite (Ip.mk f t p q b) (Hd.mk h1 h2 h3 h4 h5) d).fst.src
                     (ptWrite (Ip.mk f t p q b) (Hd.mk h1 h2 h3 h4 h5) d).fst.dst
                     (ptWrite (Ip.mk f t p q b) (Hd.mk h1 h2 h3 h4 h5) d).fst.proto
                     (ptWrite (Ip.mk f t p q b) (Hd.mk h1 h2 h3 h4 h5) d).fst.ttl
                     (ptWrite (Ip.mk f t p q b) (Hd.mk h1 h2 h3 h4 h5) d).fst.body)).fst.proto =
                 h1) &&
               (decide
                 ((ptRead
                     (Ip.mk (ptWrite (Ip.mk f t p q b) (Hd.mk h1 h2 h3 h4 h5) d).fst.src
                      (ptWrite (Ip.mk f t p q b) (Hd.mk h1 h2 h3 h4 h5) d).fst.dst
                      (ptWrite (Ip.mk f t p q b) (Hd.mk h1 h2 h3 h4 h5) d).fst.proto
                      (ptWrite (Ip.mk f t p q b) (Hd.mk h1 h2 h3 h4 h5) d).fst.ttl
                      (ptWrite (Ip.mk f t p q b) (Hd.mk h1 h2 h3 h4 h5) d).fst.body)).fst.src =
                  h2) &&
                (decide
                  ((ptRead
                      (Ip.mk (ptWrite (Ip.mk f t p q b) (Hd.mk h1 h2 h3 h4 h5) d).fst.src
                       (ptWrite (Ip.mk f t p q b) (Hd.mk h1 h2 h3 h4 h5) d).fst.dst
                       (ptWrite (Ip.mk f t p q b) (Hd.mk h1 h2 h3 h4 h5) d).fst.proto
                       (ptWrite (Ip.mk f t p q b) (Hd.mk h1 h2 h3 h4 h5) d).fst.ttl
                       (ptWrite (Ip.mk f t p q b) (Hd.mk h1 h2 h3 h4 h5) d).fst.body)).fst.dst =
                   h3) &&
                 (decide
                   ((ptRead
                       (Ip.mk (ptWrite (Ip.mk f t p q b) (Hd.mk h1 h2 h3 h4 h5) d).fst.src
                        (ptWrite (Ip.mk f t p q b) (Hd.mk h1 h2 h3 h4 h5) d).fst.dst
                        (ptWrite (Ip.mk f t p q b) (Hd.mk h1 h2 h3 h4 h5) d).fst.proto
                        (ptWrite (Ip.mk f t p q b) (Hd.mk h1 h2 h3 h4 h5) d).fst.ttl
                        (ptWrite (Ip.mk f t p q b) (Hd.mk h1 h2 h3 h4 h5) d).fst.body)).fst.flags =
                    h4) &&
                  decide
                   ((ptRead
                       (Ip.mk (ptWrite (Ip.mk f t p q b) (Hd.mk h1 h2 h3 h4 h5) d).fst.src
                        (ptWrite (Ip.mk f t p q b) (Hd.mk h1 h2 h3 h4 h5) d).fst.dst
                        (ptWrite (Ip.mk f t p q b) (Hd.mk h1 h2 h3 h4 h5) d).fst.proto
                        (ptWrite (Ip.mk f t p q b) (Hd.mk h1 h2 h3 h4 h5) d).fst.ttl
                        (ptWrite (Ip.mk f t p q b) (Hd.mk h1 h2 h3 h4 h5) d).fst.body)).fst.at' =
                    (8 : Int)))))) ||
            decide ((↑(List.length (ptWrite (Ip.mk f t p q b) (Hd.mk h1 h2 h3 h4 h5) d).fst.body) : Int) < (8 : Int)) ||
           !decide (List.drop (8 : Nat) (ptWrite (Ip.mk f t p q b) (Hd.mk h1 h2 h3 h4 h5) d).fst.body = d))
          (K (AVal.bool false) [])
          (List.length (ptWrite (Ip.mk f t p q b) (Hd.mk h1 h2 h3 h4 h5) d).fst.body ≤ (140737488351232 : Nat) ∧
           brP
            (!decide
              ((ptRead
                 (Ip.mk (ptWrite (Ip.mk f t p q b) (Hd.mk h1 h2 h3 h4 h5) d).fst.src
                  (ptWrite (Ip.mk f t p q b) (Hd.mk h1 h2 h3 h4 h5) d).fst.dst
                  (ptWrite (Ip.mk f t p q b) (Hd.mk h1 h2 h3 h4 h5) d).fst.proto
                  (ptWrite (Ip.mk f t p q b) (Hd.mk h1 h2 h3 h4 h5) d).fst.ttl
                  (ptWrite (Ip.mk f t p q b) (Hd.mk h1 h2 h3 h4 h5) d).fst.body)).snd =
               (0 : Int)))
            (List.length d ≤ (140737488351232 : Nat) ∧
             List.length (ptWrite (Ip.mk t f p q b) (Hd.mk h1 h3 h2 h4 (0 : Int)) d).fst.body ≤ (140737488351232 : Nat) ∧
              brP
               (!decide
                 ((ptRead
                    (Ip.mk (ptWrite (Ip.mk t f p q b) (Hd.mk h1 h3 h2 h4 (0 : Int)) d).fst.src
                     (ptWrite (Ip.mk t f p q b) (Hd.mk h1 h3 h2 h4 (0 : Int)) d).fst.dst
                     (ptWrite (Ip.mk t f p q b) (Hd.mk h1 h3 h2 h4 (0 : Int)) d).fst.proto
                     (ptWrite (Ip.mk t f p q b) (Hd.mk h1 h3 h2 h4 (0 : Int)) d).fst.ttl
                     (ptWrite (Ip.mk t f p q b) (Hd.mk h1 h3 h2 h4 (0 : Int)) d).fst.body)).snd =
                  (0 : Int)))
               (brP (decide ((ptWrite (Ip.mk t f p q b) (Hd.mk h1 h3 h2 h4 (0 : Int)) d).snd = (0 : Int)))
                (brP
                 (decide
                  ((ptRead
                     (Ip.mk (ptWrite (Ip.mk t f p q b) (Hd.mk h1 h3 h2 h4 (0 : Int)) d).fst.src
                      (ptWrite (Ip.mk t f p q b) (Hd.mk h1 h3 h2 h4 (0 : Int)) d).fst.dst
                      (ptWrite (Ip.mk t f p q b) (Hd.mk h1 h3 h2 h4 (0 : Int)) d).fst.proto
                      (ptWrite (Ip.mk t f p q b) (Hd.mk h1 h3 h2 h4 (0 : Int)) d).fst.ttl
                      (ptWrite (Ip.mk t f p q b) (Hd.mk h1 h3 h2 h4 (0 : Int)) d).fst.body)).snd =
                   (0 : Int)))
                 (K (AVal.bool true) []) (K (AVal.bool false) []))
                (K (AVal.bool false) []))
               (brP (decide ((ptWrite (Ip.mk t f p q b) (Hd.mk h1 h3 h2 h4 (0 : Int)) d).snd = (0 : Int)))
                (brP
                 (decide
                   ((ptRead
                       (Ip.mk (ptWrite (Ip.mk t f p q b) (Hd.mk h1 h3 h2 h4 (0 : Int)) d).fst.src
                        (ptWrite (Ip.mk t f p q b) (Hd.mk h1 h3 h2 h4 (0 : Int)) d).fst.dst
                        (ptWrite (Ip.mk t f p q b) (Hd.mk h1 h3 h2 h4 (0 : Int)) d).fst.proto
                        (ptWrite (Ip.mk t f p q b) (Hd.mk h1 h3 h2 h4 (0 : Int)) d).fst.ttl
                        (ptWrite (Ip.mk t f p q b) (Hd.mk h1 h3 h2 h4 (0 : Int)) d).fst.body)).fst.proto =
                    (0 : Int)) &&
                  (decide ((ptWrite (Ip.mk t f p q b) (Hd.mk h1 h3 h2 h4 (0 : Int)) d).fst.src = []) &&
                   (decide ((ptWrite (Ip.mk t f p q b) (Hd.mk h1 h3 h2 h4 (0 : Int)) d).fst.dst = []) &&
                    (decide
                      ((ptRead
                          (Ip.mk (ptWrite (Ip.mk t f p q b) (Hd.mk h1 h3 h2 h4 (0 : Int)) d).fst.src
                           (ptWrite (Ip.mk t f p q b) (Hd.mk h1 h3 h2 h4 (0 : Int)) d).fst.dst
                           (ptWrite (Ip.mk t f p q b) (Hd.mk h1 h3 h2 h4 (0 : Int)) d).fst.proto
                           (ptWrite (Ip.mk t f p q b) (Hd.mk h1 h3 h2 h4 (0 : Int)) d).fst.ttl
                           (ptWrite (Ip.mk t f p q b) (Hd.mk h1 h3 h2 h4 (0 : Int)) d).fst.body)).fst.src =
                       (0 : Int)) &&
                     decide
                      ((ptRead
                          (Ip.mk (ptWrite (Ip.mk t f p q b) (Hd.mk h1 h3 h2 h4 (0 : Int)) d).fst.src
                           (ptWrite (Ip.mk t f p q b) (Hd.mk h1 h3 h2 h4 (0 : Int)) d).fst.dst
                           (ptWrite (Ip.mk t f p q b) (Hd.mk h1 h3 h2 h4 (0 : Int)) d).fst.proto
                           (ptWrite (Ip.mk t f p q b) (Hd.mk h1 h3 h2 h4 (0 : Int)) d).fst.ttl
                           (ptWrite (Ip.mk t f p q b) (Hd.mk h1 h3 h2 h4 (0 : Int)) d).fst.body)).fst.dst =
                       (0 : Int))))))
                 (K
                  (AVal.bool
                   (decide
                     ((ptRead
                         (Ip.mk (ptWrite (Ip.mk t f p q b) (Hd.mk h1 h3 h2 h4 (0 : Int)) d).fst.src
                          (ptWrite (Ip.mk t f p q b) (Hd.mk h1 h3 h2 h4 (0 : Int)) d).fst.dst
                          (ptWrite (Ip.mk t f p q b) (Hd.mk h1 h3 h2 h4 (0 : Int)) d).fst.proto
                          (ptWrite (Ip.mk t f p q b) (Hd.mk h1 h3 h2 h4 (0 : Int)) d).fst.ttl
                          (ptWrite (Ip.mk t f p q b) (Hd.mk h1 h3 h2 h4 (0 : Int)) d).fst.body)).fst.proto =
                      (0 : Int)) &&
                    (decide ((ptWrite (Ip.mk t f p q b) (Hd.mk h1 h3 h2 h4 (0 : Int)) d).fst.dst = []) &&
                     (decide ((ptWrite (Ip.mk t f p q b) (Hd.mk h1 h3 h2 h4 (0 : Int)) d).fst.src = []) &&
                      (decide
                        ((ptRead
                            (Ip.mk (ptWrite (Ip.mk t f p q b) (Hd.mk h1 h3 h2 h4 (0 : Int)) d).fst.src
                             (ptWrite (Ip.mk t f p q b) (Hd.mk h1 h3 h2 h4 (0 : Int)) d).fst.dst
                             (ptWrite (Ip.mk t f p q b) (Hd.mk h1 h3 h2 h4 (0 : Int)) d).fst.proto
                             (ptWrite (Ip.mk t f p q b) (Hd.mk h1 h3 h2 h4 (0 : Int)) d).fst.ttl
                             (ptWrite (Ip.mk t f p q b) (Hd.mk h1 h3 h2 h4 (0 : Int)) d).fst.body)).fst.dst =
                         (0 : Int)) &&
                       decide
                        ((ptRead
                            (Ip.mk (ptWrite (Ip.mk t f p q b) (Hd.mk h1 h3 h2 h4 (0 : Int)) d).fst.src
                             (ptWrite (Ip.mk t f p q b) (Hd.mk h1 h3 h2 h4 (0 : Int)) d).fst.dst
                             (ptWrite (Ip.mk t f p q b) (Hd.mk h1 h3 h2 h4 (0 : Int)) d).fst.proto
                             (ptWrite (Ip.mk t f p q b) (Hd.mk h1 h3 h2 h4 (0 : Int)) d).fst.ttl
                             (ptWrite (Ip.mk t f p q b) (Hd.mk h1 h3 h2 h4 (0 : Int)) d).fst.body)).fst.src =
                         (0 : Int)))))))
                  [])
                 (K (AVal.bool false) []))
                (K (AVal.bool false) [])))
            (List.length d ≤ (140737488351232 : Nat) ∧
             List.length (ptWrite (Ip.mk t f p q b) (Hd.mk h1 h3 h2 h4 (0 : Int)) d).fst.body ≤ (140737488351232 : Nat) ∧
              brP
               (!decide
                 ((ptRead
                    (Ip.mk (ptWrite (Ip.mk t f p q b) (Hd.mk h1 h3 h2 h4 (0 : Int)) d).fst.src
                     (ptWrite (Ip.mk t f p q b) (Hd.mk h1 h3 h2 h4 (0 : Int)) d).fst.dst
                     (ptWrite (Ip.mk t f p q b) (Hd.mk h1 h3 h2 h4 (0 : Int)) d).fst.proto
                     (ptWrite (Ip.mk t f p q b) (Hd.mk h1 h3 h2 h4 (0 : Int)) d).fst.ttl
                     (ptWrite (Ip.mk t f p q b) (Hd.mk h1 h3 h2 h4 (0 : Int)) d).fst.body)).snd =
                  (0 : Int)))
               (brP (decide ((ptWrite (Ip.mk t f p q b) (Hd.mk h1 h3 h2 h4 (0 : Int)) d).snd = (0 : Int)))
                (brP
                 (decide
                  ((ptRead
                     (Ip.mk (ptWrite (Ip.mk t f p q b) (Hd.mk h1 h3 h2 h4 (0 : Int)) d).fst.src
                      (ptWrite (Ip.mk t f p q b) (Hd.mk h1 h3 h2 h4 (0 : Int)) d).fst.dst
                      (ptWrite (Ip.mk t f p q b) (Hd.mk h1 h3 h2 h4 (0 : Int)) d).fst.proto
                      (ptWrite (Ip.mk t f p q b) (Hd.mk h1 h3 h2 h4 (0 : Int)) d).fst.ttl
                      (ptWrite (Ip.mk t f p q b) (Hd.mk h1 h3 h2 h4 (0 : Int)) d).fst.body)).snd =
                   (0 : Int)))
                 (brP
                  (decide
                    ((0 : Int) =
                     (ptRead
                        (Ip.mk (ptWrite (Ip.mk f t p q b) (Hd.mk h1 h2 h3 h4 h5) d).fst.src
                         (ptWrite (Ip.mk f t p q b) (Hd.mk h1 h2 h3 h4 h5) d).fst.dst
                         (ptWrite (Ip.mk f t p q b) (Hd.mk h1 h2 h3 h4 h5) d).fst.proto
                         (ptWrite (Ip.mk f t p q b) (Hd.mk h1 h2 h3 h4 h5) d).fst.ttl
                         (ptWrite (Ip.mk f t p q b) (Hd.mk h1 h2 h3 h4 h5) d).fst.body)).fst.proto) &&
                   (decide ([] = (ptWrite (Ip.mk f t p q b) (Hd.mk h1 h2 h3 h4 h5) d).fst.dst) &&
                    (decide ([] = (ptWrite (Ip.mk f t p q b) (Hd.mk h1 h2 h3 h4 h5) d).fst.src) &&
                     (decide
                       ((0 : Int) =
                        (ptRead
                           (Ip.mk (ptWrite (Ip.mk f t p q b) (Hd.mk h1 h2 h3 h4 h5) d).fst.src
                            (ptWrite (Ip.mk f t p q b) (Hd.mk h1 h2 h3 h4 h5) d).fst.dst
                            (ptWrite (Ip.mk f t p q b) (Hd.mk h1 h2 h3 h4 h5) d).fst.proto
                            (ptWrite (Ip.mk f t p q b) (Hd.mk h1 h2 h3 h4 h5) d).fst.ttl
                            (ptWrite (Ip.mk f t p q b) (Hd.mk h1 h2 h3 h4 h5) d).fst.body)).fst.dst) &&
                      decide
                       ((0 : Int) =
                        (ptRead
                           (Ip.mk (ptWrite (Ip.mk f t p q b) (Hd.mk h1 h2 h3 h4 h5) d).fst.src
                            (ptWrite (Ip.mk f t p q b) (Hd.mk h1 h2 h3 h4 h5) d).fst.dst
                            (ptWrite (Ip.mk f t p q b) (Hd.mk h1 h2 h3 h4 h5) d).fst.proto
                            (ptWrite (Ip.mk f t p q b) (Hd.mk h1 h2 h3 h4 h5) d).fst.ttl
                            (ptWrite (Ip.mk f t p q b) (Hd.mk h1 h2 h3 h4 h5) d).fst.body)).fst.src)))))
                  (K
                   (AVal.bool
                    (decide
                      ((0 : Int) =
                       (ptRead
                          (Ip.mk (ptWrite (Ip.mk f t p q b) (Hd.mk h1 h2 h3 h4 h5) d).fst.src
                           (ptWrite (Ip.mk f t p q b) (Hd.mk h1 h2 h3 h4 h5) d).fst.dst
                           (ptWrite (Ip.mk f t p q b) (Hd.mk h1 h2 h3 h4 h5) d).fst.proto
                           (ptWrite (Ip.mk f t p q b) (Hd.mk h1 h2 h3 h4 h5) d).fst.ttl
                           (ptWrite (Ip.mk f t p q b) (Hd.mk h1 h2 h3 h4 h5) d).fst.body)).fst.proto) &&
                     (decide ([] = (ptWrite (Ip.mk f t p q b) (Hd.mk h1 h2 h3 h4 h5) d).fst.src) &&
                      (decide ([] = (ptWrite (Ip.mk f t p q b) (Hd.mk h1 h2 h3 h4 h5) d).fst.dst) &&
                       (decide
                         ((0 : Int) =
                          (ptRead
                             (Ip.mk (ptWrite (Ip.mk f t p q b) (Hd.mk h1 h2 h3 h4 h5) d).fst.src
                              (ptWrite (Ip.mk f t p q b) (Hd.mk h1 h2 h3 h4 h5) d).fst.dst
                              (ptWrite (Ip.mk f t p q b) (Hd.mk h1 h2 h3 h4 h5) d).fst.proto
                              (ptWrite (Ip.mk f t p q b) (Hd.mk h1 h2 h3 h4 h5) d).fst.ttl
                              (ptWrite (Ip.mk f t p q b) (Hd.mk h1 h2 h3 h4 h5) d).fst.body)).fst.src) &&
                        decide
                         ((0 : Int) =
                          (ptRead
                             (Ip.mk (ptWrite (Ip.mk f t p q b) (Hd.mk h1 h2 h3 h4 h5) d).fst.src
                              (ptWrite (Ip.mk f t p q b) (Hd.mk h1 h2 h3 h4 h5) d).fst.dst
                              (ptWrite (Ip.mk f t p q b) (Hd.mk h1 h2 h3 h4 h5) d).fst.proto
                              (ptWrite (Ip.mk f t p q b) (Hd.mk h1 h2 h3 h4 h5) d).fst.ttl
                              (ptWrite (Ip.mk f t p q b) (Hd.mk h1 h2 h3 h4 h5) d).fst.body)).fst.dst))))))
                   [])
                  (K (AVal.bool false) []))
                 (K (AVal.bool false) []))
                (K (AVal.bool false) []))
               (brP (decide ((ptWrite (Ip.mk t f p q b) (Hd.mk h1 h3 h2 h4 (0 : Int)) d).snd = (0 : Int)))
                (brP
                 (decide
                   ((ptRead
                       (Ip.mk (ptWrite (Ip.mk t f p q b) (Hd.mk h1 h3 h2 h4 (0 : Int)) d).fst.src
                        (ptWrite (Ip.mk t f p q b) (Hd.mk h1 h3 h2 h4 (0 : Int)) d).fst.dst
                        (ptWrite (Ip.mk t f p q b) (Hd.mk h1 h3 h2 h4 (0 : Int)) d).fst.proto
                        (ptWrite (Ip.mk t f p q b) (Hd.mk h1 h3 h2 h4 (0 : Int)) d).fst.ttl
                        (ptWrite (Ip.mk t f p q b) (Hd.mk h1 h3 h2 h4 (0 : Int)) d).fst.body)).fst.proto =
                    (ptRead
                       (Ip.mk (ptWrite (Ip.mk f t p q b) (Hd.mk h1 h2 h3 h4 h5) d).fst.src
                        (ptWrite (Ip.mk f t p q b) (Hd.mk h1 h2 h3 h4 h5) d).fst.dst
                        (ptWrite (Ip.mk f t p q b) (Hd.mk h1 h2 h3 h4 h5) d).fst.proto
                        (ptWrite (Ip.mk f t p q b) (Hd.mk h1 h2 h3 h4 h5) d).fst.ttl
                        (ptWrite (Ip.mk f t p q b) (Hd.mk h1 h2 h3 h4 h5) d).fst.body)).fst.proto) &&
                  (decide
                    ((ptWrite (Ip.mk t f p q b) (Hd.mk h1 h3 h2 h4 (0 : Int)) d).fst.src =
                     (ptWrite (Ip.mk f t p q b) (Hd.mk h1 h2 h3 h4 h5) d).fst.dst) &&
                   (decide
                     ((ptWrite (Ip.mk t f p q b) (Hd.mk h1 h3 h2 h4 (0 : Int)) d).fst.dst =
                      (ptWrite (Ip.mk f t p q b) (Hd.mk h1 h2 h3 h4 h5) d).fst.src) &&
                    (decide
                      ((ptRead
                          (Ip.mk (ptWrite (Ip.mk t f p q b) (Hd.mk h1 h3 h2 h4 (0 : Int)) d).fst.src
                           (ptWrite (Ip.mk t f p q b) (Hd.mk h1 h3 h2 h4 (0 : Int)) d).fst.dst
                           (ptWrite (Ip.mk t f p q b) (Hd.mk h1 h3 h2 h4 (0 : Int)) d).fst.proto
                           (ptWrite (Ip.mk t f p q b) (Hd.mk h1 h3 h2 h4 (0 : Int)) d).fst.ttl
                           (ptWrite (Ip.mk t f p q b) (Hd.mk h1 h3 h2 h4 (0 : Int)) d).fst.body)).fst.src =
                       (ptRead
                          (Ip.mk (ptWrite (Ip.mk f t p q b) (Hd.mk h1 h2 h3 h4 h5) d).fst.src
                           (ptWrite (Ip.mk f t p q b) (Hd.mk h1 h2 h3 h4 h5) d).fst.dst
                           (ptWrite (Ip.mk f t p q b) (Hd.mk h1 h2 h3 h4 h5) d).fst.proto
                           (ptWrite (Ip.mk f t p q b) (Hd.mk h1 h2 h3 h4 h5) d).fst.ttl
                           (ptWrite (Ip.mk f t p q b) (Hd.mk h1 h2 h3 h4 h5) d).fst.body)).fst.dst) &&
                     decide
                      ((ptRead
                          (Ip.mk (ptWrite (Ip.mk t f p q b) (Hd.mk h1 h3 h2 h4 (0 : Int)) d).fst.src
                           (ptWrite (Ip.mk t f p q b) (Hd.mk h1 h3 h2 h4 (0 : Int)) d).fst.dst
                           (ptWrite (Ip.mk t f p q b) (Hd.mk h1 h3 h2 h4 (0 : Int)) d).fst.proto
                           (ptWrite (Ip.mk t f p q b) (Hd.mk h1 h3 h2 h4 (0 : Int)) d).fst.ttl
                           (ptWrite (Ip.mk t f p q b) (Hd.mk h1 h3 h2 h4 (0 : Int)) d).fst.body)).fst.dst =
                       (ptRead
                          (Ip.mk (ptWrite (Ip.mk f t p q b) (Hd.mk h1 h2 h3 h4 h5) d).fst.src
                           (ptWrite (Ip.mk f t p q b) (Hd.mk h1 h2 h3 h4 h5) d).fst.dst
                           (ptWrite (Ip.mk f t p q b) (Hd.mk h1 h2 h3 h4 h5) d).fst.proto
                           (ptWrite (Ip.mk f t p q b) (Hd.mk h1 h2 h3 h4 h5) d).fst.ttl
                           (ptWrite (Ip.mk f t p q b) (Hd.mk h1 h2 h3 h4 h5) d).fst.body)).fst.src)))))
                 (K
                  (AVal.bool
                   (decide
                     ((ptRead
                         (Ip.mk (ptWrite (Ip.mk t f p q b) (Hd.mk h1 h3 h2 h4 (0 : Int)) d).fst.src
                          (ptWrite (Ip.mk t f p q b) (Hd.mk h1 h3 h2 h4 (0 : Int)) d).fst.dst
                          (ptWrite (Ip.mk t f p q b) (Hd.mk h1 h3 h2 h4 (0 : Int)) d).fst.proto
                          (ptWrite (Ip.mk t f p q b) (Hd.mk h1 h3 h2 h4 (0 : Int)) d).fst.ttl
                          (ptWrite (Ip.mk t f p q b) (Hd.mk h1 h3 h2 h4 (0 : Int)) d).fst.body)).fst.proto =
                      (ptRead
                         (Ip.mk (ptWrite (Ip.mk f t p q b) (Hd.mk h1 h2 h3 h4 h5) d).fst.src
                          (ptWrite (Ip.mk f t p q b) (Hd.mk h1 h2 h3 h4 h5) d).fst.dst
                          (ptWrite (Ip.mk f t p q b) (Hd.mk h1 h2 h3 h4 h5) d).fst.proto
                          (ptWrite (Ip.mk f t p q b) (Hd.mk h1 h2 h3 h4 h5) d).fst.ttl
                          (ptWrite (Ip.mk f t p q b) (Hd.mk h1 h2 h3 h4 h5) d).fst.body)).fst.proto) &&
                    (decide
                      ((ptWrite (Ip.mk t f p q b) (Hd.mk h1 h3 h2 h4 (0 : Int)) d).fst.dst =
                       (ptWrite (Ip.mk f t p q b) (Hd.mk h1 h2 h3 h4 h5) d).fst.src) &&
                     (decide
                       ((ptWrite (Ip.mk t f p q b) (Hd.mk h1 h3 h2 h4 (0 : Int)) d).fst.src =
                        (ptWrite (Ip.mk f t p q b) (Hd.mk h1 h2 h3 h4 h5) d).fst.dst) &&
                      (decide
                        ((ptRead
                            (Ip.mk (ptWrite (Ip.mk t f p q b) (Hd.mk h1 h3 h2 h4 (0 : Int)) d).fst.src
                             (ptWrite (Ip.mk t f p q b) (Hd.mk h1 h3 h2 h4 (0 : Int)) d).fst.dst
                             (ptWrite (Ip.mk t f p q b) (Hd.mk h1 h3 h2 h4 (0 : Int)) d).fst.proto
                             (ptWrite (Ip.mk t f p q b) (Hd.mk h1 h3 h2 h4 (0 : Int)) d).fst.ttl
                             (ptWrite (Ip.mk t f p q b) (Hd.mk h1 h3 h2 h4 (0 : Int)) d).fst.body)).fst.dst =
                         (ptRead
                            (Ip.mk (ptWrite (Ip.mk f t p q b) (Hd.mk h1 h2 h3 h4 h5) d).fst.src
                             (ptWrite (Ip.mk f t p q b) (Hd.mk h1 h2 h3 h4 h5) d).fst.dst
                             (ptWrite (Ip.mk f t p q b) (Hd.mk h1 h2 h3 h4 h5) d).fst.proto
                             (ptWrite (Ip.mk f t p q b) (Hd.mk h1 h2 h3 h4 h5) d).fst.ttl
                             (ptWrite (Ip.mk f t p q b) (Hd.mk h1 h2 h3 h4 h5) d).fst.body)).fst.src) &&
                       decide
                        ((ptRead
                            (Ip.mk (ptWrite (Ip.mk t f p q b) (Hd.mk h1 h3 h2 h4 (0 : Int)) d).fst.src
                             (ptWrite (Ip.mk t f p q b) (Hd.mk h1 h3 h2 h4 (0 : Int)) d).fst.dst
                             (ptWrite (Ip.mk t f p q b) (Hd.mk h1 h3 h2 h4 (0 : Int)) d).fst.proto
                             (ptWrite (Ip.mk t f p q b) (Hd.mk h1 h3 h2 h4 (0 : Int)) d).fst.ttl
                             (ptWrite (Ip.mk t f p q b) (Hd.mk h1 h3 h2 h4 (0 : Int)) d).fst.body)).fst.src =
                         (ptRead
                            (Ip.mk (ptWrite (Ip.mk f t p q b) (Hd.mk h1 h2 h3 h4 h5) d).fst.src
                             (ptWrite (Ip.mk f t p q b) (Hd.mk h1 h2 h3 h4 h5) d).fst.dst
                             (ptWrite (Ip.mk f t p q b) (Hd.mk h1 h2 h3 h4 h5) d).fst.proto
                             (ptWrite (Ip.mk f t p q b) (Hd.mk h1 h2 h3 h4 h5) d).fst.ttl
                             (ptWrite (Ip.mk f t p q b) (Hd.mk h1 h2 h3 h4 h5) d).fst.body)).fst.dst))))))
                  [])
                 (K (AVal.bool false) []))
                (K (AVal.bool false) [])))))))) := by kernel_rfl
theorem portsBack.core (f t : List UInt8) (p q : Int) (b : List UInt8) (h1 h2 h3 h4 h5 : Int) (d : List UInt8)  (h_f : f.length ≤ 140737488351232) (h_t : t.length ≤ 140737488351232) (h_p : -9223372036854775808 ≤ p ∧ p ≤ 9223372036854775807) (h_q : -9223372036854775808 ≤ q ∧ q ≤ 9223372036854775807) (h_b : b.length ≤ 140737488351232) (h_h1 : -9223372036854775808 ≤ h1 ∧ h1 ≤ 9223372036854775807) (h_h2 : -9223372036854775808 ≤ h2 ∧ h2 ≤ 9223372036854775807) (h_h3 : -9223372036854775808 ≤ h3 ∧ h3 ≤ 9223372036854775807) (h_h4 : -9223372036854775808 ≤ h4 ∧ h4 ≤ 9223372036854775807) (h_h5 : -9223372036854775808 ≤ h5 ∧ h5 ≤ 9223372036854775807) (h_d : d.length ≤ 140737488351232) :
    fnP Try.prog Tlw ann_outriderlaw05_PortsBack Try.f6 [.agg [.str f, .str t, .int .i64 p, .int .i64 q, .str b], .agg [.int .i64 h1, .int .i64 h2, .int .i64 h3, .int .i64 h4, .int .i64 h5], .str d] [] (fun v _ => v = .bool true) := by
  rw [PortsBack_eq]
  have eta : ∀ P : Ip, (⟨P.src, P.dst, P.proto, P.ttl, P.body⟩ : Ip) = P := fun _ => rfl
  refine brP_d (fun _ => rfl) (fun hd => ⟨h_d, ?_⟩)
  refine brP_nd (fun hn => ?_) (fun hw => ?_)
  · rw [ptW_no hn]; simp [noIp]
  obtain ⟨g1, g2, g3, hW⟩ := ptW_ok hw
  have hip := (ipOk_iff _).1 g3
  have hdr := pt_drop ⟨h1, h2, h3, h4, h5⟩ d (ptSum ⟨f, t, p, q, b⟩ ⟨h1, h2, h3, h4, h5⟩ d) g1
  have hlen := ptBody_len ⟨h1, h2, h3, h4, h5⟩ d (ptSum ⟨f, t, p, q, b⟩ ⟨h1, h2, h3, h4, h5⟩ d)
  have hbd : (ptPacket ⟨f, t, p, q, b⟩ ⟨h1, h2, h3, h4, h5⟩ d).body = ptBody ⟨h1, h2, h3, h4, h5⟩ d (ptSum ⟨f, t, p, q, b⟩ ⟨h1, h2, h3, h4, h5⟩ d) := rfl
  have hfl := pt_flow hw
  have hot := pt_other hw
  obtain ⟨k1, k2, k3, hW2⟩ := ptW_ok hot
  have hip2 := (ipOk_iff _).1 k3
  have hfl2 := pt_flow hot
  have hbk := pt_back hw
  have hbk2 := pt_back hot
  simp only at hW2 hfl2 hbk hbk2 g1 hfl
  rw [← hbd] at hdr hlen
  simp only at hdr hlen hip
  simp only [hW, hW2, hbk, hbk2, eta]
  have hP1 : (ptPacket ⟨f, t, p, q, b⟩ ⟨h1, h2, h3, h4, h5⟩ d).src = f := rfl
  have hP2 : (ptPacket ⟨f, t, p, q, b⟩ ⟨h1, h2, h3, h4, h5⟩ d).dst = t := rfl
  have hQ1 : (ptPacket ⟨t, f, p, q, b⟩ ⟨h1, h3, h2, h4, 0⟩ d).src = t := rfl
  have hQ2 : (ptPacket ⟨t, f, p, q, b⟩ ⟨h1, h3, h2, h4, 0⟩ d).dst = f := rfl
  have hQ3 : (ptPacket ⟨t, f, p, q, b⟩ ⟨h1, h3, h2, h4, 0⟩ d).body.length ≤ d.length + 20 := by
    simp only [ptPacket, ptBody_len]; split <;> omega
  generalize ptPacket ⟨t, f, p, q, b⟩ ⟨h1, h3, h2, h4, 0⟩ d = Q at *
  generalize ptPacket ⟨f, t, p, q, b⟩ ⟨h1, h2, h3, h4, h5⟩ d = P at *
  clear k1 k2 hip2 k3 hot g3 hW hW2 h_f h_t h_p h_q h_b h_h1 h_h2 h_h3 h_h4 h_h5
  have hd' : d.length ≤ 3000 := by omega
  have hPl : P.body.length ≤ d.length + 20 := by rw [hlen]; split <;> omega
  refine ⟨by omega, brP_d (fun hp => ?_) (fun hp => ?_)⟩
  · subst hp
    have e6 : hdAt 6 = 20 := rfl
    have hdr' : List.drop 20 P.body = d := hdr
    have hl20 : 20 ≤ P.body.length := by rw [hlen]; rw [if_neg (by omega)]; omega
    have x1 : P.body.length ≤ 140737488351232 := by omega
    have x2 : Q.body.length ≤ 140737488351232 := by omega
    have x3 : ¬ (P.body.length < 20) := by omega
    simp [brP, impP, e6, hdr', hP1, hP2, hQ1, hQ2, h_d, x1, x2, x3, hl20]
    omega
  · have h17 : h1 = 17 := by omega
    subst h17
    have e6 : hdAt 17 = 8 := rfl
    have hdr' : List.drop 8 P.body = d := hdr
    have hl20 : 8 ≤ P.body.length := by rw [hlen]; rw [if_pos rfl]; omega
    have x1 : P.body.length ≤ 140737488351232 := by omega
    have x2 : Q.body.length ≤ 140737488351232 := by omega
    have x3 : ¬ (P.body.length < 8) := by omega
    simp [brP, impP, e6, hdr', hP1, hP2, hQ1, hQ2, h_d, x1, x2, x3, hl20]
    omega
end Go.Proofs.Ytbaolkfdkjljjaa.Ae
namespace Go.Proofs.Ytbaolkfdkjljjaa
open Go Go.RowKit Ae
attribute [local irreducible] fnP in
set_option maxRecDepth 100000 in
theorem portsBack.walk {H : Type} {enc : TypeId × Value → H} (W : World) (args : Array Value) (hn : args.size = 3)
    (h : ∀ (j : Nat) t v, Try.f6.params[j]? = some t → args[j]? = some v → RdV enc false Try.prog W t v) :
    Calls Try.prog 6 args W fun e w' => e = .returned (.bool true) ∧ Below W.heap.size W w' := by
  obtain ⟨v0, v1, v2, rfl⟩ := args3 hn
  obtain ⟨vs0, hs0, hv0⟩ := arg_agg (b := false) (d := 6) (ks := [.str, .str, .int .i64, .int .i64, .str]) (.inl ⟨_, Try.underlying24⟩) (by kernel_rfl) (h 0 24 v0 rfl rfl)
  obtain ⟨_, _, rfl, ⟨f, rfl, h_f⟩, _, _, rfl, ⟨t, rfl, h_t⟩, _, _, rfl, ⟨p, rfl, h_p⟩, _, _, rfl, ⟨q, rfl, h_q⟩, _, _, rfl, ⟨b, rfl, h_b⟩, rfl⟩ := hs0
  obtain ⟨vs1, hs1, hv1⟩ := arg_agg (b := false) (d := 6) (ks := [.int .i64, .int .i64, .int .i64, .int .i64, .int .i64]) (.inl ⟨_, Try.underlying26⟩) (by kernel_rfl) (h 1 26 v1 rfl rfl)
  obtain ⟨_, _, rfl, ⟨h1, rfl, h_h1⟩, _, _, rfl, ⟨h2, rfl, h_h2⟩, _, _, rfl, ⟨h3, rfl, h_h3⟩, _, _, rfl, ⟨h4, rfl, h_h4⟩, _, _, rfl, ⟨h5, rfl, h_h5⟩, rfl⟩ := hs1
  obtain ⟨d, h_d, hv2⟩ := arg_str (b := false) (m := Mp.nil) (G := []) Try.underlying9 (h 2 9 v2 rfl rfl)
  obtain ⟨r, H1, hr, hG⟩ := fn_sound Tlw_sound mixed Try.func6 (by decide +kernel) (portsBack.core f t p q b h1 h2 h3 h4 h5 d (len_lim h_f) (len_lim h_t) (i64_bd h_p) (i64_bd h_q) (len_lim h_b) (i64_bd h_h1) (i64_bd h_h2) (i64_bd h_h3) (i64_bd h_h4) (i64_bd h_h5) (len_lim h_d))
  subst hr
  exact law_walk hG (vl_cons hv0 (vl_cons hv1 (vl_cons hv2 vl_nil)))

namespace portsBack
theorem spec {H : Type} (ds : List (DataW H)) (h : ds.length = Try.f6.params.size) : Rows.portsBackSpec.fn H ds = { results := [.lit (.bool true)], args := ds } := by
  have h' : ds.length = 3 := h
  match ds, h' with
  | [_, _, _], _ => rfl

set_option maxRecDepth 100000 in
theorem lifted (os : Os) (started : os.Started) (H : Type) (enc : TypeId × Value → H) :
    ReturnsInHanded {} Try.checked os 6 .any (Rows.portsBackSpec.pre6 enc Try.prog Try.f6 Rows.portsBackRow.domain false) (Rows.portsBackSpec.post enc Try.prog Try.f6 false true false false) :=
  lifted_said (C := Try.checked) (tb := 4) own started (by kernel_rfl) Try.func6
    (ChangeSpec.witness6 (enc := enc) (C := Try.checked) false ⟨#[], #[.agg #[.string .empty, .string .empty, .int .i64 0, .int .i64 0, .string .empty], .agg #[.int .i64 0, .int .i64 0, .int .i64 0, .int .i64 0, .int .i64 0], .string .empty], []⟩ 8 (by kernel_rfl) (by kernel_rfl) (by kernel_rfl) (by kernel_rfl))
    rfl spec rfl Try.underlying4 laidOut (by kernel_rfl) walk

theorem over : Rows.portsBackRow.holds Try.pinned (OpenSpec.ofChange Rows.portsBackSpec) :=
  OpenClaim.holds_of_wide 6 Try.f6 rfl rfl rfl rfl rfl rfl rfl ⟨rfl, rfl, rfl, rfl, rfl⟩ rfl rfl rfl rfl rfl (by kernel_rfl) Try.func6 (by kernel_rfl)
    (of_decide_eq_true (by kernel_rfl)) (by unfold Func.isWrapper; first | (rw [if_pos (by decide +kernel)]; kernel_rfl) | (rw [if_neg (by decide +kernel)]; exact ⟨rfl, rfl⟩))
    (fun os started H enc _ => lifted os started H enc)

theorem proved : Rows.PortsBackSaid := over
#print axioms proved
end portsBack

end Go.Proofs.Ytbaolkfdkjljjaa

