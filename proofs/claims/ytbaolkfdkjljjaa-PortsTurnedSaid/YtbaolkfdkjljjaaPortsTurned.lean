/- PortsTurned: a packet of Tcp of which one byte of the body, or of an address, is another one is refused. No conditions. -/
import Derived.Test.YtbaolkfdkjljjaaAl
import Derived.Test.YtbaolkfdkjljjaaMpt2
import Derived.Test.YtbaolkfdkjljjaaAeQk
set_option linter.unusedSimpArgs false
set_option linter.unusedVariables false
namespace Go.Proofs.Ytbaolkfdkjljjaa.Ae
open Go Go.RowKit
def ann_outriderlaw05_PortsTurned : Nat → List Nat × Nat × List (List Nat)
  | 10 => ([], 9, [[], [], [0, 1], [0, 1, 2], [], [4], [4, 5], [0, 1, 2, 3, 4, 5, 6], [0, 1, 2, 3, 4, 5, 6, 7]])
  | 13 => ([], 10, [[], [], [1], [0, 1, 2], [0, 1, 2, 3], [], [5], [5, 6], [0, 1, 2, 3, 4, 5, 6, 7], [0, 1, 2, 3, 4, 5, 6, 7, 8]])
  | 2000003 => ([], 18, [[], [0], [0, 1], [0, 1, 2], [0, 1, 2, 3], [0, 1, 2, 3, 4], [0, 1, 2, 3, 4, 5], [0, 1, 2, 3, 4, 5, 6], [0, 1, 2, 3, 4, 5, 6, 7], [0, 1, 2, 3, 4, 5, 6, 7, 8], [0, 1, 2, 3, 4, 5, 6, 7, 8, 9], [0, 1, 2, 3, 4, 5, 6, 7, 8, 9, 10], [0, 1, 2, 3, 4, 5, 6, 7, 8, 9, 10, 11], [0, 1, 2, 3, 4, 5, 6, 7, 8, 9, 10, 11, 12], [0, 1, 2, 3, 4, 5, 6, 7, 8, 9, 10, 11, 12, 13], [0, 1, 2, 3, 4, 5, 6, 7, 8, 9, 10, 11, 12, 13, 14], [0, 1, 2, 3, 4, 5, 6, 7, 8, 9, 10, 11, 12, 13, 14, 15]])
  | _ => ([], 0, [])
set_option maxRecDepth 100000 in
theorem PortsTurned_eq (f t : List UInt8) (p q : Int) (b : List UInt8) (h1 h2 h3 h4 h5 : Int) (x y : Int) (K : AVal → Hp → Prop) : fnP Try.prog Tlw ann_outriderlaw05_PortsTurned Try.f4 [.agg [.str f, .str t, .int .i64 p, .int .i64 q, .str b], .agg [.int .i64 h1, .int .i64 h2, .int .i64 h3, .int .i64 h4, .int .i64 h5], .agg [.int .i64 x, .int .i64 y]] [] K = (
  (4 : Nat) ≤ (140737488351232 : Nat) ∧
    impP
      (!!decide
         ((ptWrite (Ip.mk f t p q b) (Hd.mk (6 : Int) h2 h3 h4 h5)
            [(100 : UInt8), (97 : UInt8), (116 : UInt8), (97 : UInt8)]).snd =
          (0 : Int)))
      ((0 : Int) ≤ (0 : Int) ∧ (0 : Int) < (2 : Int)) ∧
     impP
       (!(!decide
           ((ptWrite (Ip.mk f t p q b) (Hd.mk (6 : Int) h2 h3 h4 h5)
              [(100 : UInt8), (97 : UInt8), (116 : UInt8), (97 : UInt8)]).snd =
            (0 : Int)) ||
         decide (x < (0 : Int))))
       ((0 : Int) ≤ (1 : Int) ∧ (1 : Int) < (2 : Int)) ∧
      impP
        (!(!decide
             ((ptWrite (Ip.mk f t p q b) (Hd.mk (6 : Int) h2 h3 h4 h5)
                [(100 : UInt8), (97 : UInt8), (116 : UInt8), (97 : UInt8)]).snd =
              (0 : Int)) ||
           decide (x < (0 : Int)) ||
          decide (y < (1 : Int))))
        ((0 : Int) ≤ (1 : Int) ∧ (1 : Int) < (2 : Int)) ∧
       brP
        (!decide
             ((ptWrite (Ip.mk f t p q b) (Hd.mk (6 : Int) h2 h3 h4 h5)
                [(100 : UInt8), (97 : UInt8), (116 : UInt8), (97 : UInt8)]).snd =
              (0 : Int)) ||
           decide (x < (0 : Int)) ||
          decide (y < (1 : Int)) ||
         decide ((255 : Int) < y))
        (K (AVal.bool true) [])
        (((0 : Int) ≤ (0 : Int) ∧ (0 : Int) < (2 : Int)) ∧
         brP
          (decide
           ((↑(List.length
               (ptWrite (Ip.mk f t p q b) (Hd.mk (6 : Int) h2 h3 h4 h5)
                  [(100 : UInt8), (97 : UInt8), (116 : UInt8), (97 : UInt8)]).fst.body) :
             Int) ≤
            x))
          (((0 : Int) ≤ (0 : Int) ∧ (0 : Int) < (2 : Int)) ∧
           I64
             (x -
              (↑(List.length
                 (ptWrite (Ip.mk f t p q b) (Hd.mk (6 : Int) h2 h3 h4 h5)
                    [(100 : UInt8), (97 : UInt8), (116 : UInt8), (97 : UInt8)]).fst.body) :
               Int)) ∧
            brP
             (decide
              ((↑(List.length
                  (ptWrite (Ip.mk f t p q b) (Hd.mk (6 : Int) h2 h3 h4 h5)
                     [(100 : UInt8), (97 : UInt8), (116 : UInt8), (97 : UInt8)]).fst.src) :
                Int) ≤
               x -
                (↑(List.length
                   (ptWrite (Ip.mk f t p q b) (Hd.mk (6 : Int) h2 h3 h4 h5)
                      [(100 : UInt8), (97 : UInt8), (116 : UInt8), (97 : UInt8)]).fst.body) :
                 Int)))
             (K (AVal.bool true) [])
             (List.length
                (ptWrite (Ip.mk f t p q b) (Hd.mk (6 : Int) h2 h3 h4 h5)
                   [(100 : UInt8), (97 : UInt8), (116 : UInt8), (97 : UInt8)]).fst.src ≤
               (140737488355328 : Nat) ∧
              ((0 : Int) ≤
                 x -
                  (↑(List.length
                     (ptWrite (Ip.mk f t p q b) (Hd.mk (6 : Int) h2 h3 h4 h5)
                        [(100 : UInt8), (97 : UInt8), (116 : UInt8), (97 : UInt8)]).fst.body) :
                   Int) ∧
                x -
                  (↑(List.length
                     (ptWrite (Ip.mk f t p q b) (Hd.mk (6 : Int) h2 h3 h4 h5)
                        [(100 : UInt8), (97 : UInt8), (116 : UInt8), (97 : UInt8)]).fst.body) :
                   Int) <
                 (↑(List.length
                    (ptWrite (Ip.mk f t p q b) (Hd.mk (6 : Int) h2 h3 h4 h5)
                       [(100 : UInt8), (97 : UInt8), (116 : UInt8), (97 : UInt8)]).fst.src) :
                  Int)) ∧
               (0 : Nat) +
                  Int.toNat
                    (x -
                     (↑(List.length
                        (ptWrite (Ip.mk f t p q b) (Hd.mk (6 : Int) h2 h3 h4 h5)
                           [(100 : UInt8), (97 : UInt8), (116 : UInt8), (97 : UInt8)]).fst.body) :
                      Int)) *
                   (1 : Nat) <
                 List.length
                  (ptWrite (Ip.mk f t p q b) (Hd.mk (6 : Int) h2 h3 h4 h5)
                     [(100 : UInt8), (97 : UInt8), (116 : UInt8), (97 : UInt8)]).fst.src ∧
                ((0 : Int) ≤ (1 : Int) ∧ (1 : Int) < (2 : Int)) ∧
                 ((0 : Int) ≤
                    x -
                     (↑(List.length
                        (ptWrite (Ip.mk f t p q b) (Hd.mk (6 : Int) h2 h3 h4 h5)
                           [(100 : UInt8), (97 : UInt8), (116 : UInt8), (97 : UInt8)]).fst.body) :
                      Int) ∧
                   x -
                     (↑(List.length
                        (ptWrite (Ip.mk f t p q b) (Hd.mk (6 : Int) h2 h3 h4 h5)
                           [(100 : UInt8), (97 : UInt8), (116 : UInt8), (97 : UInt8)]).fst.body) :
                      Int) <
                    (↑(List.length
                       (ptWrite (Ip.mk f t p q b) (Hd.mk (6 : Int) h2 h3 h4 h5)
                          [(100 : UInt8), (97 : UInt8), (116 : UInt8), (97 : UInt8)]).fst.src) :
                     Int)) ∧
                  (0 : Nat) +
                     Int.toNat
                       (x -
                        (↑(List.length
                           (ptWrite (Ip.mk f t p q b) (Hd.mk (6 : Int) h2 h3 h4 h5)
                              [(100 : UInt8), (97 : UInt8), (116 : UInt8), (97 : UInt8)]).fst.body) :
                         Int)) *
                      (1 : Nat) <
                    List.length
                     (ptWrite (Ip.mk f t p q b) (Hd.mk (6 : Int) h2 h3 h4 h5)
                        [(100 : UInt8), (97 : UInt8), (116 : UInt8), (97 : UInt8)]).fst.src ∧
                   List.length
                      (ptWrite (Ip.mk f t p q b) (Hd.mk (6 : Int) h2 h3 h4 h5)
                         [(100 : UInt8), (97 : UInt8), (116 : UInt8), (97 : UInt8)]).fst.body ≤
                     (140737488351232 : Nat) ∧
                    brP
                     (decide
                       ((ptRead
                           (Ip.mk
                            (List.take
                             (List.length
                              (ptWrite (Ip.mk f t p q b) (Hd.mk (6 : Int) h2 h3 h4 h5)
                                 [(100 : UInt8), (97 : UInt8), (116 : UInt8), (97 : UInt8)]).fst.src)
                             (List.drop (0 : Nat)
                              (List.set
                               (ptWrite (Ip.mk f t p q b) (Hd.mk (6 : Int) h2 h3 h4 h5)
                                  [(100 : UInt8), (97 : UInt8), (116 : UInt8), (97 : UInt8)]).fst.src
                               ((0 : Nat) +
                                Int.toNat
                                  (x -
                                   (↑(List.length
                                      (ptWrite (Ip.mk f t p q b) (Hd.mk (6 : Int) h2 h3 h4 h5)
                                         [(100 : UInt8), (97 : UInt8), (116 : UInt8), (97 : UInt8)]).fst.body) :
                                    Int)) *
                                 (1 : Nat))
                               (List.getD
                                 (ptWrite (Ip.mk f t p q b) (Hd.mk (6 : Int) h2 h3 h4 h5)
                                    [(100 : UInt8), (97 : UInt8), (116 : UInt8), (97 : UInt8)]).fst.src
                                 ((0 : Nat) +
                                  Int.toNat
                                    (x -
                                     (↑(List.length
                                        (ptWrite (Ip.mk f t p q b) (Hd.mk (6 : Int) h2 h3 h4 h5)
                                           [(100 : UInt8), (97 : UInt8), (116 : UInt8), (97 : UInt8)]).fst.body) :
                                      Int)) *
                                   (1 : Nat))
                                 (0 : UInt8) ^^^
                                b8 y))))
                            (ptWrite (Ip.mk f t p q b) (Hd.mk (6 : Int) h2 h3 h4 h5)
                               [(100 : UInt8), (97 : UInt8), (116 : UInt8), (97 : UInt8)]).fst.dst
                            (ptWrite (Ip.mk f t p q b) (Hd.mk (6 : Int) h2 h3 h4 h5)
                               [(100 : UInt8), (97 : UInt8), (116 : UInt8), (97 : UInt8)]).fst.proto
                            (ptWrite (Ip.mk f t p q b) (Hd.mk (6 : Int) h2 h3 h4 h5)
                               [(100 : UInt8), (97 : UInt8), (116 : UInt8), (97 : UInt8)]).fst.ttl
                            (ptWrite (Ip.mk f t p q b) (Hd.mk (6 : Int) h2 h3 h4 h5)
                               [(100 : UInt8), (97 : UInt8), (116 : UInt8), (97 : UInt8)]).fst.body)).fst.proto =
                        (0 : Int)) &&
                      (decide
                        ((ptRead
                            (Ip.mk
                             (List.take
                              (List.length
                               (ptWrite (Ip.mk f t p q b) (Hd.mk (6 : Int) h2 h3 h4 h5)
                                  [(100 : UInt8), (97 : UInt8), (116 : UInt8), (97 : UInt8)]).fst.src)
                              (List.drop (0 : Nat)
                               (List.set
                                (ptWrite (Ip.mk f t p q b) (Hd.mk (6 : Int) h2 h3 h4 h5)
                                   [(100 : UInt8), (97 : UInt8), (116 : UInt8), (97 : UInt8)]).fst.src
                                ((0 : Nat) +
                                 Int.toNat
                                   (x -
                                    (↑(List.length
                                       (ptWrite (Ip.mk f t p q b) (Hd.mk (6 : Int) h2 h3 h4 h5)
                                          [(100 : UInt8), (97 : UInt8), (116 : UInt8), (97 : UInt8)]).fst.body) :
                                     Int)) *
                                  (1 : Nat))
                                (List.getD
                                  (ptWrite (Ip.mk f t p q b) (Hd.mk (6 : Int) h2 h3 h4 h5)
                                     [(100 : UInt8), (97 : UInt8), (116 : UInt8), (97 : UInt8)]).fst.src
                                  ((0 : Nat) +
                                   Int.toNat
                                     (x -
                                      (↑(List.length
                                         (ptWrite (Ip.mk f t p q b) (Hd.mk (6 : Int) h2 h3 h4 h5)
                                            [(100 : UInt8), (97 : UInt8), (116 : UInt8), (97 : UInt8)]).fst.body) :
                                       Int)) *
                                    (1 : Nat))
                                  (0 : UInt8) ^^^
                                 b8 y))))
                             (ptWrite (Ip.mk f t p q b) (Hd.mk (6 : Int) h2 h3 h4 h5)
                                [(100 : UInt8), (97 : UInt8), (116 : UInt8), (97 : UInt8)]).fst.dst
                             (ptWrite (Ip.mk f t p q b) (Hd.mk (6 : Int) h2 h3 h4 h5)
                                [(100 : UInt8), (97 : UInt8), (116 : UInt8), (97 : UInt8)]).fst.proto
                             (ptWrite (Ip.mk f t p q b) (Hd.mk (6 : Int) h2 h3 h4 h5)
                                [(100 : UInt8), (97 : UInt8), (116 : UInt8), (97 : UInt8)]).fst.ttl
                             (ptWrite (Ip.mk f t p q b) (Hd.mk (6 : Int) h2 h3 h4 h5)
                                [(100 : UInt8), (97 : UInt8), (116 : UInt8), (97 : UInt8)]).fst.body)).fst.src =
                         (0 : Int)) &&
                       (decide
                         ((ptRead
                             (Ip.mk
                              (List.take
                               (List.length
                                (ptWrite (Ip.mk f t p q b) (Hd.mk (6 : Int) h2 h3 h4 h5)
                                   [(100 : UInt8), (97 : UInt8), (116 : UInt8), (97 : UInt8)]).fst.src)
                               (List.drop (0 : Nat)
                                (List.set
                                 (ptWrite (Ip.mk f t p q b) (Hd.mk (6 : Int) h2 h3 h4 h5)
                                    [(100 : UInt8), (97 : UInt8), (116 : UInt8), (97 : UInt8)]).fst.src
                                 ((0 : Nat) +
                                  Int.toNat
                                    (x -
                                     (↑(List.length
                                        (ptWrite (Ip.mk f t p q b) (Hd.mk (6 : Int) h2 h3 h4 h5)
                                           [(100 : UInt8), (97 : UInt8), (116 : UInt8), (97 : UInt8)]).fst.body) :
                                      Int)) *
                                   (1 : Nat))
                                 (List.getD
                                   (ptWrite (Ip.mk f t p q b) (Hd.mk (6 : Int) h2 h3 h4 h5)
                                      [(100 : UInt8), (97 : UInt8), (116 : UInt8), (97 : UInt8)]).fst.src
                                   ((0 : Nat) +
                                    Int.toNat
                                      (x -
                                       (↑(List.length
                                          (ptWrite (Ip.mk f t p q b) (Hd.mk (6 : Int) h2 h3 h4 h5)
                                             [(100 : UInt8), (97 : UInt8), (116 : UInt8), (97 : UInt8)]).fst.body) :
                                        Int)) *
                                     (1 : Nat))
                                   (0 : UInt8) ^^^
                                  b8 y))))
                              (ptWrite (Ip.mk f t p q b) (Hd.mk (6 : Int) h2 h3 h4 h5)
                                 [(100 : UInt8), (97 : UInt8), (116 : UInt8), (97 : UInt8)]).fst.dst
                              (ptWrite (Ip.mk f t p q b) (Hd.mk (6 : Int) h2 h3 h4 h5)
                                 [(100 : UInt8), (97 : UInt8), (116 : UInt8), (97 : UInt8)]).fst.proto
                              (ptWrite (Ip.mk f t p q b) (Hd.mk (6 : Int) h2 h3 h4 h5)
                                 [(100 : UInt8), (97 : UInt8), (116 : UInt8), (97 : UInt8)]).fst.ttl
                              (ptWrite (Ip.mk f t p q b) (Hd.mk (6 : Int) h2 h3 h4 h5)
                                 [(100 : UInt8), (97 : UInt8), (116 : UInt8), (97 : UInt8)]).fst.body)).fst.dst =
                          (0 : Int)) &&
                        (decide
                          ((ptRead
                              (Ip.mk
                               (List.take
                                (List.length
                                 (ptWrite (Ip.mk f t p q b) (Hd.mk (6 : Int) h2 h3 h4 h5)
                                    [(100 : UInt8), (97 : UInt8), (116 : UInt8), (97 : UInt8)]).fst.src)
                                (List.drop (0 : Nat)
                                 (List.set
                                  (ptWrite (Ip.mk f t p q b) (Hd.mk (6 : Int) h2 h3 h4 h5)
                                     [(100 : UInt8), (97 : UInt8), (116 : UInt8), (97 : UInt8)]).fst.src
                                  ((0 : Nat) +
                                   Int.toNat
                                     (x -
                                      (↑(List.length
                                         (ptWrite (Ip.mk f t p q b) (Hd.mk (6 : Int) h2 h3 h4 h5)
                                            [(100 : UInt8), (97 : UInt8), (116 : UInt8), (97 : UInt8)]).fst.body) :
                                       Int)) *
                                    (1 : Nat))
                                  (List.getD
                                    (ptWrite (Ip.mk f t p q b) (Hd.mk (6 : Int) h2 h3 h4 h5)
                                       [(100 : UInt8), (97 : UInt8), (116 : UInt8), (97 : UInt8)]).fst.src
                                    ((0 : Nat) +
                                     Int.toNat
                                       (x -
                                        (↑(List.length
                                           (ptWrite (Ip.mk f t p q b) (Hd.mk (6 : Int) h2 h3 h4 h5)
                                              [(100 : UInt8), (97 : UInt8), (116 : UInt8), (97 : UInt8)]).fst.body) :
                                         Int)) *
                                      (1 : Nat))
                                    (0 : UInt8) ^^^
                                   b8 y))))
                               (ptWrite (Ip.mk f t p q b) (Hd.mk (6 : Int) h2 h3 h4 h5)
                                  [(100 : UInt8), (97 : UInt8), (116 : UInt8), (97 : UInt8)]).fst.dst
                               (ptWrite (Ip.mk f t p q b) (Hd.mk (6 : Int) h2 h3 h4 h5)
                                  [(100 : UInt8), (97 : UInt8), (116 : UInt8), (97 : UInt8)]).fst.proto
                               (ptWrite (Ip.mk f t p q b) (Hd.mk (6 : Int) h2 h3 h4 h5)
                                  [(100 : UInt8), (97 : UInt8), (116 : UInt8), (97 : UInt8)]).fst.ttl
                               (ptWrite (Ip.mk f t p q b) (Hd.mk (6 : Int) h2 h3 h4 h5)
                                  [(100 : UInt8), (97 : UInt8), (116 : UInt8), (97 : UInt8)]).fst.body)).fst.flags =
                           (0 : Int)) &&
                         decide
                          ((ptRead
                              (Ip.mk
                               (List.take
                                (List.length
                                 (ptWrite (Ip.mk f t p q b) (Hd.mk (6 : Int) h2 h3 h4 h5)
                                    [(100 : UInt8), (97 : UInt8), (116 : UInt8), (97 : UInt8)]).fst.src)
                                (List.drop (0 : Nat)
                                 (List.set
                                  (ptWrite (Ip.mk f t p q b) (Hd.mk (6 : Int) h2 h3 h4 h5)
                                     [(100 : UInt8), (97 : UInt8), (116 : UInt8), (97 : UInt8)]).fst.src
                                  ((0 : Nat) +
                                   Int.toNat
                                     (x -
                                      (↑(List.length
                                         (ptWrite (Ip.mk f t p q b) (Hd.mk (6 : Int) h2 h3 h4 h5)
                                            [(100 : UInt8), (97 : UInt8), (116 : UInt8), (97 : UInt8)]).fst.body) :
                                       Int)) *
                                    (1 : Nat))
                                  (List.getD
                                    (ptWrite (Ip.mk f t p q b) (Hd.mk (6 : Int) h2 h3 h4 h5)
                                       [(100 : UInt8), (97 : UInt8), (116 : UInt8), (97 : UInt8)]).fst.src
                                    ((0 : Nat) +
                                     Int.toNat
                                       (x -
                                        (↑(List.length
                                           (ptWrite (Ip.mk f t p q b) (Hd.mk (6 : Int) h2 h3 h4 h5)
                                              [(100 : UInt8), (97 : UInt8), (116 : UInt8), (97 : UInt8)]).fst.body) :
                                         Int)) *
                                      (1 : Nat))
                                    (0 : UInt8) ^^^
                                   b8 y))))
                               (ptWrite (Ip.mk f t p q b) (Hd.mk (6 : Int) h2 h3 h4 h5)
                                  [(100 : UInt8), (97 : UInt8), (116 : UInt8), (97 : UInt8)]).fst.dst
                               (ptWrite (Ip.mk f t p q b) (Hd.mk (6 : Int) h2 h3 h4 h5)
                                  [(100 : UInt8), (97 : UInt8), (116 : UInt8), (97 : UInt8)]).fst.proto
                               (ptWrite (Ip.mk f t p q b) (Hd.mk (6 : Int) h2 h3 h4 h5)
                                  [(100 : UInt8), (97 : UInt8), (116 : UInt8), (97 : UInt8)]).fst.ttl
                               (ptWrite (Ip.mk f t p q b) (Hd.mk (6 : Int) h2 h3 h4 h5)
                                  [(100 : UInt8), (97 : UInt8), (116 : UInt8), (97 : UInt8)]).fst.body)).fst.at' =
                           (0 : Int))))))
                     (brP
                      (decide
                       ((ptRead
                          (Ip.mk
                           (List.take
                            (List.length
                             (ptWrite (Ip.mk f t p q b) (Hd.mk (6 : Int) h2 h3 h4 h5)
                                [(100 : UInt8), (97 : UInt8), (116 : UInt8), (97 : UInt8)]).fst.src)
                            (List.drop (0 : Nat)
                             (List.set
                              (ptWrite (Ip.mk f t p q b) (Hd.mk (6 : Int) h2 h3 h4 h5)
                                 [(100 : UInt8), (97 : UInt8), (116 : UInt8), (97 : UInt8)]).fst.src
                              ((0 : Nat) +
                               Int.toNat
                                 (x -
                                  (↑(List.length
                                     (ptWrite (Ip.mk f t p q b) (Hd.mk (6 : Int) h2 h3 h4 h5)
                                        [(100 : UInt8), (97 : UInt8), (116 : UInt8), (97 : UInt8)]).fst.body) :
                                   Int)) *
                                (1 : Nat))
                              (List.getD
                                (ptWrite (Ip.mk f t p q b) (Hd.mk (6 : Int) h2 h3 h4 h5)
                                   [(100 : UInt8), (97 : UInt8), (116 : UInt8), (97 : UInt8)]).fst.src
                                ((0 : Nat) +
                                 Int.toNat
                                   (x -
                                    (↑(List.length
                                       (ptWrite (Ip.mk f t p q b) (Hd.mk (6 : Int) h2 h3 h4 h5)
                                          [(100 : UInt8), (97 : UInt8), (116 : UInt8), (97 : UInt8)]).fst.body) :
                                     Int)) *
                                  (1 : Nat))
                                (0 : UInt8) ^^^
                               b8 y))))
                           (ptWrite (Ip.mk f t p q b) (Hd.mk (6 : Int) h2 h3 h4 h5)
                              [(100 : UInt8), (97 : UInt8), (116 : UInt8), (97 : UInt8)]).fst.dst
                           (ptWrite (Ip.mk f t p q b) (Hd.mk (6 : Int) h2 h3 h4 h5)
                              [(100 : UInt8), (97 : UInt8), (116 : UInt8), (97 : UInt8)]).fst.proto
                           (ptWrite (Ip.mk f t p q b) (Hd.mk (6 : Int) h2 h3 h4 h5)
                              [(100 : UInt8), (97 : UInt8), (116 : UInt8), (97 : UInt8)]).fst.ttl
                           (ptWrite (Ip.mk f t p q b) (Hd.mk (6 : Int) h2 h3 h4 h5)
                              [(100 : UInt8), (97 : UInt8), (116 : UInt8), (97 : UInt8)]).fst.body)).snd =
                        (52 : Int)))
                      (K (AVal.bool true) [])
                      (K
                       (AVal.bool
                        (decide
                         ((ptRead
                            (Ip.mk
                             (List.take
                              (List.length
                               (ptWrite (Ip.mk f t p q b) (Hd.mk (6 : Int) h2 h3 h4 h5)
                                  [(100 : UInt8), (97 : UInt8), (116 : UInt8), (97 : UInt8)]).fst.src)
                              (List.drop (0 : Nat)
                               (List.set
                                (ptWrite (Ip.mk f t p q b) (Hd.mk (6 : Int) h2 h3 h4 h5)
                                   [(100 : UInt8), (97 : UInt8), (116 : UInt8), (97 : UInt8)]).fst.src
                                ((0 : Nat) +
                                 Int.toNat
                                   (x -
                                    (↑(List.length
                                       (ptWrite (Ip.mk f t p q b) (Hd.mk (6 : Int) h2 h3 h4 h5)
                                          [(100 : UInt8), (97 : UInt8), (116 : UInt8), (97 : UInt8)]).fst.body) :
                                     Int)) *
                                  (1 : Nat))
                                (List.getD
                                  (ptWrite (Ip.mk f t p q b) (Hd.mk (6 : Int) h2 h3 h4 h5)
                                     [(100 : UInt8), (97 : UInt8), (116 : UInt8), (97 : UInt8)]).fst.src
                                  ((0 : Nat) +
                                   Int.toNat
                                     (x -
                                      (↑(List.length
                                         (ptWrite (Ip.mk f t p q b) (Hd.mk (6 : Int) h2 h3 h4 h5)
                                            [(100 : UInt8), (97 : UInt8), (116 : UInt8), (97 : UInt8)]).fst.body) :
                                       Int)) *
                                    (1 : Nat))
                                  (0 : UInt8) ^^^
                                 b8 y))))
                             (ptWrite (Ip.mk f t p q b) (Hd.mk (6 : Int) h2 h3 h4 h5)
                                [(100 : UInt8), (97 : UInt8), (116 : UInt8), (97 : UInt8)]).fst.dst
                             (ptWrite (Ip.mk f t p q b) (Hd.mk (6 : Int) h2 h3 h4 h5)
                                [(100 : UInt8), (97 : UInt8), (116 : UInt8), (97 : UInt8)]).fst.proto
                             (ptWrite (Ip.mk f t p q b) (Hd.mk (6 : Int) h2 h3 h4 h5)
                                [(100 : UInt8), (97 : UInt8), (116 : UInt8), (97 : UInt8)]).fst.ttl
                             (ptWrite (Ip.mk f t p q b) (Hd.mk (6 : Int) h2 h3 h4 h5)
                                [(100 : UInt8), (97 : UInt8), (116 : UInt8), (97 : UInt8)]).fst.body)).snd =
                          (53 : Int))))
                       []))
                     (K (AVal.bool false) [])))
          (List.length
             (ptWrite (Ip.mk f t p q b) (Hd.mk (6 : Int) h2 h3 h4 h5)
                [(100 : UInt8), (97 : UInt8), (116 : UInt8), (97 : UInt8)]).fst.body ≤
            (140737488355328 : Nat) ∧
           ((0 : Int) ≤ (0 : Int) ∧ (0 : Int) < (2 : Int)) ∧
            ((0 : Int) ≤ x ∧
              x <
               (↑(List.length
                  (ptWrite (Ip.mk f t p q b) (Hd.mk (6 : Int) h2 h3 h4 h5)
                     [(100 : UInt8), (97 : UInt8), (116 : UInt8), (97 : UInt8)]).fst.body) :
                Int)) ∧
             (0 : Nat) + Int.toNat x * (1 : Nat) <
               List.length
                (ptWrite (Ip.mk f t p q b) (Hd.mk (6 : Int) h2 h3 h4 h5)
                   [(100 : UInt8), (97 : UInt8), (116 : UInt8), (97 : UInt8)]).fst.body ∧
              ((0 : Int) ≤ (1 : Int) ∧ (1 : Int) < (2 : Int)) ∧
               ((0 : Int) ≤ x ∧
                 x <
                  (↑(List.length
                     (ptWrite (Ip.mk f t p q b) (Hd.mk (6 : Int) h2 h3 h4 h5)
                        [(100 : UInt8), (97 : UInt8), (116 : UInt8), (97 : UInt8)]).fst.body) :
                   Int)) ∧
                (0 : Nat) + Int.toNat x * (1 : Nat) <
                  List.length
                   (ptWrite (Ip.mk f t p q b) (Hd.mk (6 : Int) h2 h3 h4 h5)
                      [(100 : UInt8), (97 : UInt8), (116 : UInt8), (97 : UInt8)]).fst.body ∧
                 List.length
                    (List.take
                     (List.length
                      (ptWrite (Ip.mk f t p q b) (Hd.mk (6 : Int) h2 h3 h4 h5)
                         [(100 : UInt8), (97 : UInt8), (116 : UInt8), (97 : UInt8)]).fst.body)
                     (List.drop (0 : Nat)
                      (List.set
                       (ptWrite (Ip.mk f t p q b) (Hd.mk (6 : Int) h2 h3 h4 h5)
                          [(100 : UInt8), (97 : UInt8), (116 : UInt8), (97 : UInt8)]).fst.body
                       ((0 : Nat) + Int.toNat x * (1 : Nat))
                       (List.getD
                         (ptWrite (Ip.mk f t p q b) (Hd.mk (6 : Int) h2 h3 h4 h5)
                            [(100 : UInt8), (97 : UInt8), (116 : UInt8), (97 : UInt8)]).fst.body
                         ((0 : Nat) + Int.toNat x * (1 : Nat)) (0 : UInt8) ^^^
                        b8 y)))) ≤
                   (140737488351232 : Nat) ∧
                  brP
                   (decide
                     ((ptRead
                         (Ip.mk
                          (ptWrite (Ip.mk f t p q b) (Hd.mk (6 : Int) h2 h3 h4 h5)
                             [(100 : UInt8), (97 : UInt8), (116 : UInt8), (97 : UInt8)]).fst.src
                          (ptWrite (Ip.mk f t p q b) (Hd.mk (6 : Int) h2 h3 h4 h5)
                             [(100 : UInt8), (97 : UInt8), (116 : UInt8), (97 : UInt8)]).fst.dst
                          (ptWrite (Ip.mk f t p q b) (Hd.mk (6 : Int) h2 h3 h4 h5)
                             [(100 : UInt8), (97 : UInt8), (116 : UInt8), (97 : UInt8)]).fst.proto
                          (ptWrite (Ip.mk f t p q b) (Hd.mk (6 : Int) h2 h3 h4 h5)
                             [(100 : UInt8), (97 : UInt8), (116 : UInt8), (97 : UInt8)]).fst.ttl
                          (List.take
                           (List.length
                            (ptWrite (Ip.mk f t p q b) (Hd.mk (6 : Int) h2 h3 h4 h5)
                               [(100 : UInt8), (97 : UInt8), (116 : UInt8), (97 : UInt8)]).fst.body)
                           (List.drop (0 : Nat)
                            (List.set
                             (ptWrite (Ip.mk f t p q b) (Hd.mk (6 : Int) h2 h3 h4 h5)
                                [(100 : UInt8), (97 : UInt8), (116 : UInt8), (97 : UInt8)]).fst.body
                             ((0 : Nat) + Int.toNat x * (1 : Nat))
                             (List.getD
                               (ptWrite (Ip.mk f t p q b) (Hd.mk (6 : Int) h2 h3 h4 h5)
                                  [(100 : UInt8), (97 : UInt8), (116 : UInt8), (97 : UInt8)]).fst.body
                               ((0 : Nat) + Int.toNat x * (1 : Nat)) (0 : UInt8) ^^^
                              b8 y)))))).fst.proto =
                      (0 : Int)) &&
                    (decide
                      ((ptRead
                          (Ip.mk
                           (ptWrite (Ip.mk f t p q b) (Hd.mk (6 : Int) h2 h3 h4 h5)
                              [(100 : UInt8), (97 : UInt8), (116 : UInt8), (97 : UInt8)]).fst.src
                           (ptWrite (Ip.mk f t p q b) (Hd.mk (6 : Int) h2 h3 h4 h5)
                              [(100 : UInt8), (97 : UInt8), (116 : UInt8), (97 : UInt8)]).fst.dst
                           (ptWrite (Ip.mk f t p q b) (Hd.mk (6 : Int) h2 h3 h4 h5)
                              [(100 : UInt8), (97 : UInt8), (116 : UInt8), (97 : UInt8)]).fst.proto
                           (ptWrite (Ip.mk f t p q b) (Hd.mk (6 : Int) h2 h3 h4 h5)
                              [(100 : UInt8), (97 : UInt8), (116 : UInt8), (97 : UInt8)]).fst.ttl
                           (List.take
                            (List.length
                             (ptWrite (Ip.mk f t p q b) (Hd.mk (6 : Int) h2 h3 h4 h5)
                                [(100 : UInt8), (97 : UInt8), (116 : UInt8), (97 : UInt8)]).fst.body)
                            (List.drop (0 : Nat)
                             (List.set
                              (ptWrite (Ip.mk f t p q b) (Hd.mk (6 : Int) h2 h3 h4 h5)
                                 [(100 : UInt8), (97 : UInt8), (116 : UInt8), (97 : UInt8)]).fst.body
                              ((0 : Nat) + Int.toNat x * (1 : Nat))
                              (List.getD
                                (ptWrite (Ip.mk f t p q b) (Hd.mk (6 : Int) h2 h3 h4 h5)
                                   [(100 : UInt8), (97 : UInt8), (116 : UInt8), (97 : UInt8)]).fst.body
                                ((0 : Nat) + Int.toNat x * (1 : Nat)) (0 : UInt8) ^^^
                               b8 y)))))).fst.src =
                       (0 : Int)) &&
                     (decide
                       ((ptRead
                           (Ip.mk
                            (ptWrite (Ip.mk f t p q b) (Hd.mk (6 : Int) h2 h3 h4 h5)
                               [(100 : UInt8), (97 : UInt8), (116 : UInt8), (97 : UInt8)]).fst.src
                            (ptWrite (Ip.mk f t p q b) (Hd.mk (6 : Int) h2 h3 h4 h5)
                               [(100 : UInt8), (97 : UInt8), (116 : UInt8), (97 : UInt8)]).fst.dst
                            (ptWrite (Ip.mk f t p q b) (Hd.mk (6 : Int) h2 h3 h4 h5)
                               [(100 : UInt8), (97 : UInt8), (116 : UInt8), (97 : UInt8)]).fst.proto
                            (ptWrite (Ip.mk f t p q b) (Hd.mk (6 : Int) h2 h3 h4 h5)
                               [(100 : UInt8), (97 : UInt8), (116 : UInt8), (97 : UInt8)]).fst.ttl
                            (List.take
                             (List.length
                              (ptWrite (Ip.mk f t p q b) (Hd.mk (6 : Int) h2 h3 h4 h5)
                                 [(100 : UInt8), (97 : UInt8), (116 : UInt8), (97 : UInt8)]).fst.body)
                             (List.drop (0 : Nat)
                              (List.set
                               (ptWrite (Ip.mk f t p q b) (Hd.mk (6 : Int) h2 h3 h4 h5)
                                  [(100 : UInt8), (97 : UInt8), (116 : UInt8), (97 : UInt8)]).fst.body
                               ((0 : Nat) + Int.toNat x * (1 : Nat))
                               (List.getD
                                 (ptWrite (Ip.mk f t p q b) (Hd.mk (6 : Int) h2 h3 h4 h5)
                                    [(100 : UInt8), (97 : UInt8), (116 : UInt8), (97 : UInt8)]).fst.body
                                 ((0 : Nat) + Int.toNat x * (1 : Nat)) (0 : UInt8) ^^^
                                b8 y)))))).fst.dst =
                        (0 : Int)) &&
                      (decide
                        ((ptRead
                            (Ip.mk
                             (ptWrite (Ip.mk f t p q b) (Hd.mk (6 : Int) h2 h3 h4 h5)
                                [(100 : UInt8), (97 : UInt8), (116 : UInt8), (97 : UInt8)]).fst.src
                             (ptWrite (Ip.mk f t p q b) (Hd.mk (6 : Int) h2 h3 h4 h5)
                                [(100 : UInt8), (97 : UInt8), (116 : UInt8), (97 : UInt8)]).fst.dst
                             (ptWrite (Ip.mk f t p q b) (Hd.mk (6 : Int) h2 h3 h4 h5)
                                [(100 : UInt8), (97 : UInt8), (116 : UInt8), (97 : UInt8)]).fst.proto
                             (ptWrite (Ip.mk f t p q b) (Hd.mk (6 : Int) h2 h3 h4 h5)
                                [(100 : UInt8), (97 : UInt8), (116 : UInt8), (97 : UInt8)]).fst.ttl
                             (List.take
                              (List.length
                               (ptWrite (Ip.mk f t p q b) (Hd.mk (6 : Int) h2 h3 h4 h5)
                                  [(100 : UInt8), (97 : UInt8), (116 : UInt8), (97 : UInt8)]).fst.body)
                              (List.drop (0 : Nat)
                               (List.set
                                (ptWrite (Ip.mk f t p q b) (Hd.mk (6 : Int) h2 h3 h4 h5)
                                   [(100 : UInt8), (97 : UInt8), (116 : UInt8), (97 : UInt8)]).fst.body
                                ((0 : Nat) + Int.toNat x * (1 : Nat))
                                (List.getD
                                  (ptWrite (Ip.mk f t p q b) (Hd.mk (6 : Int) h2 h3 h4 h5)
                                     [(100 : UInt8), (97 : UInt8), (116 : UInt8), (97 : UInt8)]).fst.body
                                  ((0 : Nat) + Int.toNat x * (1 : Nat)) (0 : UInt8) ^^^
                                 b8 y)))))).fst.flags =
                         (0 : Int)) &&
                       decide
                        ((ptRead
                            (Ip.mk
                             (ptWrite (Ip.mk f t p q b) (Hd.mk (6 : Int) h2 h3 h4 h5)
                                [(100 : UInt8), (97 : UInt8), (116 : UInt8), (97 : UInt8)]).fst.src
                             (ptWrite (Ip.mk f t p q b) (Hd.mk (6 : Int) h2 h3 h4 h5)
                                [(100 : UInt8), (97 : UInt8), (116 : UInt8), (97 : UInt8)]).fst.dst
                             (ptWrite (Ip.mk f t p q b) (Hd.mk (6 : Int) h2 h3 h4 h5)
                                [(100 : UInt8), (97 : UInt8), (116 : UInt8), (97 : UInt8)]).fst.proto
                             (ptWrite (Ip.mk f t p q b) (Hd.mk (6 : Int) h2 h3 h4 h5)
                                [(100 : UInt8), (97 : UInt8), (116 : UInt8), (97 : UInt8)]).fst.ttl
                             (List.take
                              (List.length
                               (ptWrite (Ip.mk f t p q b) (Hd.mk (6 : Int) h2 h3 h4 h5)
                                  [(100 : UInt8), (97 : UInt8), (116 : UInt8), (97 : UInt8)]).fst.body)
                              (List.drop (0 : Nat)
                               (List.set
                                (ptWrite (Ip.mk f t p q b) (Hd.mk (6 : Int) h2 h3 h4 h5)
                                   [(100 : UInt8), (97 : UInt8), (116 : UInt8), (97 : UInt8)]).fst.body
                                ((0 : Nat) + Int.toNat x * (1 : Nat))
                                (List.getD
                                  (ptWrite (Ip.mk f t p q b) (Hd.mk (6 : Int) h2 h3 h4 h5)
                                     [(100 : UInt8), (97 : UInt8), (116 : UInt8), (97 : UInt8)]).fst.body
                                  ((0 : Nat) + Int.toNat x * (1 : Nat)) (0 : UInt8) ^^^
                                 b8 y)))))).fst.at' =
                         (0 : Int))))))
                   (brP
                    (decide
                     ((ptRead
                        (Ip.mk
                         (ptWrite (Ip.mk f t p q b) (Hd.mk (6 : Int) h2 h3 h4 h5)
                            [(100 : UInt8), (97 : UInt8), (116 : UInt8), (97 : UInt8)]).fst.src
                         (ptWrite (Ip.mk f t p q b) (Hd.mk (6 : Int) h2 h3 h4 h5)
                            [(100 : UInt8), (97 : UInt8), (116 : UInt8), (97 : UInt8)]).fst.dst
                         (ptWrite (Ip.mk f t p q b) (Hd.mk (6 : Int) h2 h3 h4 h5)
                            [(100 : UInt8), (97 : UInt8), (116 : UInt8), (97 : UInt8)]).fst.proto
                         (ptWrite (Ip.mk f t p q b) (Hd.mk (6 : Int) h2 h3 h4 h5)
                            [(100 : UInt8), (97 : UInt8), (116 : UInt8), (97 : UInt8)]).fst.ttl
                         (List.take
                          (List.length
                           (ptWrite (Ip.mk f t p q b) (Hd.mk (6 : Int) h2 h3 h4 h5)
                              [(100 : UInt8), (97 : UInt8), (116 : UInt8), (97 : UInt8)]).fst.body)
                          (List.drop (0 : Nat)
                           (List.set
                            (ptWrite (Ip.mk f t p q b) (Hd.mk (6 : Int) h2 h3 h4 h5)
                               [(100 : UInt8), (97 : UInt8), (116 : UInt8), (97 : UInt8)]).fst.body
                            ((0 : Nat) + Int.toNat x * (1 : Nat))
                            (List.getD
                              (ptWrite (Ip.mk f t p q b) (Hd.mk (6 : Int) h2 h3 h4 h5)
                                 [(100 : UInt8), (97 : UInt8), (116 : UInt8), (97 : UInt8)]).fst.body
                              ((0 : Nat) + Int.toNat x * (1 : Nat)) (0 : UInt8) ^^^
                             b8 y)))))).snd =
                      (52 : Int)))
                    (K (AVal.bool true) [])
                    (K
                     (AVal.bool
                      (decide
                       ((ptRead
                          (Ip.mk
                           (ptWrite (Ip.mk f t p q b) (Hd.mk (6 : Int) h2 h3 h4 h5)
                              [(100 : UInt8), (97 : UInt8), (116 : UInt8), (97 : UInt8)]).fst.src
                           (ptWrite (Ip.mk f t p q b) (Hd.mk (6 : Int) h2 h3 h4 h5)
                              [(100 : UInt8), (97 : UInt8), (116 : UInt8), (97 : UInt8)]).fst.dst
                           (ptWrite (Ip.mk f t p q b) (Hd.mk (6 : Int) h2 h3 h4 h5)
                              [(100 : UInt8), (97 : UInt8), (116 : UInt8), (97 : UInt8)]).fst.proto
                           (ptWrite (Ip.mk f t p q b) (Hd.mk (6 : Int) h2 h3 h4 h5)
                              [(100 : UInt8), (97 : UInt8), (116 : UInt8), (97 : UInt8)]).fst.ttl
                           (List.take
                            (List.length
                             (ptWrite (Ip.mk f t p q b) (Hd.mk (6 : Int) h2 h3 h4 h5)
                                [(100 : UInt8), (97 : UInt8), (116 : UInt8), (97 : UInt8)]).fst.body)
                            (List.drop (0 : Nat)
                             (List.set
                              (ptWrite (Ip.mk f t p q b) (Hd.mk (6 : Int) h2 h3 h4 h5)
                                 [(100 : UInt8), (97 : UInt8), (116 : UInt8), (97 : UInt8)]).fst.body
                              ((0 : Nat) + Int.toNat x * (1 : Nat))
                              (List.getD
                                (ptWrite (Ip.mk f t p q b) (Hd.mk (6 : Int) h2 h3 h4 h5)
                                   [(100 : UInt8), (97 : UInt8), (116 : UInt8), (97 : UInt8)]).fst.body
                                ((0 : Nat) + Int.toNat x * (1 : Nat)) (0 : UInt8) ^^^
                               b8 y)))))).snd =
                        (53 : Int))))
                     []))
                   (K (AVal.bool false) [])))) := by kernel_rfl
theorem portsTurned.core (f t : List UInt8) (p q : Int) (b : List UInt8) (h1 h2 h3 h4 h5 : Int) (x y : Int)  (h_f : f.length ≤ 140737488351232) (h_t : t.length ≤ 140737488351232) (h_p : -9223372036854775808 ≤ p ∧ p ≤ 9223372036854775807) (h_q : -9223372036854775808 ≤ q ∧ q ≤ 9223372036854775807) (h_b : b.length ≤ 140737488351232) (h_h1 : -9223372036854775808 ≤ h1 ∧ h1 ≤ 9223372036854775807) (h_h2 : -9223372036854775808 ≤ h2 ∧ h2 ≤ 9223372036854775807) (h_h3 : -9223372036854775808 ≤ h3 ∧ h3 ≤ 9223372036854775807) (h_h4 : -9223372036854775808 ≤ h4 ∧ h4 ≤ 9223372036854775807) (h_h5 : -9223372036854775808 ≤ h5 ∧ h5 ≤ 9223372036854775807) (h_x : -9223372036854775808 ≤ x ∧ x ≤ 9223372036854775807) (h_y : -9223372036854775808 ≤ y ∧ y ≤ 9223372036854775807) :
    fnP Try.prog Tlw ann_outriderlaw05_PortsTurned Try.f4 [.agg [.str f, .str t, .int .i64 p, .int .i64 q, .str b], .agg [.int .i64 h1, .int .i64 h2, .int .i64 h3, .int .i64 h4, .int .i64 h5], .agg [.int .i64 x, .int .i64 y]] [] (fun v _ => v = .bool true) := by
  rw [PortsTurned_eq]
  have eta : ∀ P : Ip, (⟨P.src, P.dst, P.proto, P.ttl, P.body⟩ : Ip) = P := fun _ => rfl
  have hi2 : ∀ g, impP g True = True := fun g => eq_true (fun _ => trivial)
  simp only [show ((0 : Int) ≤ 0 ∧ (0 : Int) < 2) = True from eq_true (by omega), show ((0 : Int) ≤ 1 ∧ (1 : Int) < 2) = True from eq_true (by omega), hi2, true_and, List.drop_zero, Nat.zero_add, Nat.mul_one]
  refine ⟨by omega, ?_⟩
  refine brP_i (fun _ => trivial) (fun hg => ?_)
  simp only [Bool.and_eq_true, Bool.or_eq_true, Bool.and_eq_false_iff, Bool.or_eq_false_iff, decide_eq_true_eq, decide_eq_false_iff_not, Bool.not_eq_true', Bool.not_eq_false', Bool.not_true, Bool.not_false, Bool.true_and, Bool.and_true, Bool.false_or, Bool.or_false, beq_iff_eq, beq_eq_false_iff_ne, ne_eq] at hg
  obtain ⟨⟨⟨hw, hx⟩, hy⟩, hy'⟩ := hg
  obtain ⟨g1, g2, g3, hW⟩ := ptW_ok hw
  have hip := (ipOk_iff _).1 g3
  have hz := b8_ne (m := y) (by omega)
  have t1 := fun k hk => pt_turned1 hw rfl (k := k) hk hz
  have t2 := fun k hk => pt_turned2 hw rfl (k := k) hk hz
  simp only [hW, eta]
  generalize ptPacket ⟨f, t, p, q, b⟩ ⟨6, h2, h3, h4, h5⟩ [100, 97, 116, 97] = P at *
  refine brP_d (fun hl => ?_) (fun hl => ?_)
  · refine ⟨by unfold I64; omega, ?_⟩
    refine brP_d (fun _ => trivial) (fun hk => ?_)
    repeat' (refine And.intro (by omega) ?_)
    rw [List.take_of_length_le (l := P.src.set _ _) (by simp)]
    obtain ⟨e, he, h52⟩ := t2 (x - (P.body.length : Int)).toNat (by omega)
    simp only [he, noHd]
    rcases h52 with rfl | rfl <;> simp [brP]
  · rw [List.take_of_length_le (l := P.body.set _ _) (by simp)]
    simp only [List.length_set]
    repeat' (refine And.intro (by omega) ?_)
    obtain ⟨e, he, h52⟩ := t1 x.toNat (by omega)
    simp only [he, noHd]
    rcases h52 with rfl | rfl <;> simp [brP]
end Go.Proofs.Ytbaolkfdkjljjaa.Ae
namespace Go.Proofs.Ytbaolkfdkjljjaa
open Go Go.RowKit Ae
attribute [local irreducible] fnP in
set_option maxRecDepth 100000 in
theorem portsTurned.walk {H : Type} {enc : TypeId × Value → H} (W : World) (args : Array Value) (hn : args.size = 3)
    (h : ∀ (j : Nat) t v, Try.f4.params[j]? = some t → args[j]? = some v → RdV enc false Try.prog W t v) :
    Calls Try.prog 4 args W fun e w' => e = .returned (.bool true) ∧ Below W.heap.size W w' := by
  obtain ⟨v0, v1, v2, rfl⟩ := args3 hn
  obtain ⟨vs0, hs0, hv0⟩ := arg_agg (b := false) (d := 6) (ks := [.str, .str, .int .i64, .int .i64, .str]) (.inl ⟨_, Try.underlying24⟩) (by kernel_rfl) (h 0 24 v0 rfl rfl)
  obtain ⟨_, _, rfl, ⟨f, rfl, h_f⟩, _, _, rfl, ⟨t, rfl, h_t⟩, _, _, rfl, ⟨p, rfl, h_p⟩, _, _, rfl, ⟨q, rfl, h_q⟩, _, _, rfl, ⟨b, rfl, h_b⟩, rfl⟩ := hs0
  obtain ⟨vs1, hs1, hv1⟩ := arg_agg (b := false) (d := 6) (ks := [.int .i64, .int .i64, .int .i64, .int .i64, .int .i64]) (.inl ⟨_, Try.underlying26⟩) (by kernel_rfl) (h 1 26 v1 rfl rfl)
  obtain ⟨_, _, rfl, ⟨h1, rfl, h_h1⟩, _, _, rfl, ⟨h2, rfl, h_h2⟩, _, _, rfl, ⟨h3, rfl, h_h3⟩, _, _, rfl, ⟨h4, rfl, h_h4⟩, _, _, rfl, ⟨h5, rfl, h_h5⟩, rfl⟩ := hs1
  obtain ⟨vs2, hs2, hv2⟩ := arg_agg (b := false) (d := 6) (ks := [.int .i64, .int .i64]) (.inr ⟨_, _, Try.underlying34⟩) (by kernel_rfl) (h 2 34 v2 rfl rfl)
  obtain ⟨_, _, rfl, ⟨x, rfl, h_x⟩, _, _, rfl, ⟨y, rfl, h_y⟩, rfl⟩ := hs2
  obtain ⟨r, H1, hr, hG⟩ := fn_sound Tlw_sound mixed Try.func4 (by decide +kernel) (portsTurned.core f t p q b h1 h2 h3 h4 h5 x y (len_lim h_f) (len_lim h_t) (i64_bd h_p) (i64_bd h_q) (len_lim h_b) (i64_bd h_h1) (i64_bd h_h2) (i64_bd h_h3) (i64_bd h_h4) (i64_bd h_h5) (i64_bd h_x) (i64_bd h_y))
  subst hr
  exact law_walk hG (vl_cons hv0 (vl_cons hv1 (vl_cons hv2 vl_nil)))

namespace portsTurned
theorem spec {H : Type} (ds : List (DataW H)) (h : ds.length = Try.f4.params.size) : Rows.portsTurnedSpec.fn H ds = { results := [.lit (.bool true)], args := ds } := by
  have h' : ds.length = 3 := h
  match ds, h' with
  | [_, _, _], _ => rfl

set_option maxRecDepth 100000 in
theorem lifted (os : Os) (started : os.Started) (H : Type) (enc : TypeId × Value → H) :
    ReturnsInHanded {} Try.checked os 4 .any (Rows.portsTurnedSpec.pre6 enc Try.prog Try.f4 Rows.portsTurnedRow.domain false) (Rows.portsTurnedSpec.post enc Try.prog Try.f4 false true false false) :=
  lifted_said (C := Try.checked) (tb := 4) own started (by kernel_rfl) Try.func4
    (ChangeSpec.witness6 (enc := enc) (C := Try.checked) false ⟨#[], #[.agg #[.string .empty, .string .empty, .int .i64 0, .int .i64 0, .string .empty], .agg #[.int .i64 0, .int .i64 0, .int .i64 0, .int .i64 0, .int .i64 0], .agg #[.int .i64 0, .int .i64 0]], []⟩ 8 (by kernel_rfl) (by kernel_rfl) (by kernel_rfl) (by kernel_rfl))
    rfl spec rfl Try.underlying4 laidOut (by kernel_rfl) walk

theorem over : Rows.portsTurnedRow.holds Try.pinned (OpenSpec.ofChange Rows.portsTurnedSpec) :=
  OpenClaim.holds_of_wide 4 Try.f4 rfl rfl rfl rfl rfl rfl rfl ⟨rfl, rfl, rfl, rfl, rfl⟩ rfl rfl rfl rfl rfl (by kernel_rfl) Try.func4 (by kernel_rfl)
    (of_decide_eq_true (by kernel_rfl)) (by unfold Func.isWrapper; first | (rw [if_pos (by decide +kernel)]; kernel_rfl) | (rw [if_neg (by decide +kernel)]; exact ⟨rfl, rfl⟩))
    (fun os started H enc _ => lifted os started H enc)

theorem proved : Rows.PortsTurnedSaid := over
#print axioms proved
end portsTurned

end Go.Proofs.Ytbaolkfdkjljjaa

