/- Chapter 5's document answers as a table. -/
import Derived.Test.YtbaolkfdkjljjaaFpt
import Derived.Test.YtbaolkfdkjljjaaAeQk
set_option linter.unusedSimpArgs false
set_option linter.unusedVariables false
namespace Go.Proofs.Ytbaolkfdkjljjaa.Ae
open Go

def ann_outriderref05_Quoted : Nat → List Nat × Nat × List (List Nat)
  | 11 => ([], 14, [[], [0], [0, 1], [], [3], [], [5], [], [7], [7, 8], [], [10], [7, 8, 9, 10, 11], [0, 1, 2, 3, 4, 5, 6, 7, 8, 9, 10, 11, 12]])
  | 13 => ([], 14, [[], [0], [0, 1], [], [3], [], [5], [], [7], [7, 8], [], [10], [7, 8, 9, 10, 11], [0, 1, 2, 3, 4, 5, 6, 7, 8, 9, 10, 11, 12]])
  | 2000004 => ([], 26, [[], [0], [0, 1], [0, 1, 2], [0, 1, 2, 3], [0, 1, 2, 3, 4], [0, 1, 2, 3, 4, 5], [0, 1, 2, 3, 4, 5, 6], [0, 1, 2, 3, 4, 5, 6, 7], [0, 1, 2, 3, 4, 5, 6, 7, 8], [0, 1, 2, 3, 4, 5, 6, 7, 8, 9], [0, 1, 2, 3, 4, 5, 6, 7, 8, 9, 10], [0, 1, 2, 3, 4, 5, 6, 7, 8, 9, 10, 11], [0, 1, 2, 3, 4, 5, 6, 7, 8, 9, 10, 11, 12], [0, 1, 2, 3, 4, 5, 6, 7, 8, 9, 10, 11, 12, 13], [0, 1, 2, 3, 4, 5, 6, 7, 8, 9, 10, 11, 12, 13, 14], [0, 1, 2, 3, 4, 5, 6, 7, 8, 9, 10, 11, 12, 13, 14, 15], [0, 1, 2, 3, 4, 5, 6, 7, 8, 9, 10, 11, 12, 13, 14, 15, 16], [0, 1, 2, 3, 4, 5, 6, 7, 8, 9, 10, 11, 12, 13, 14, 15, 16, 17], [0, 1, 2, 3, 4, 5, 6, 7, 8, 9, 10, 11, 12, 13, 14, 15, 16, 17, 18], [0, 1, 2, 3, 4, 5, 6, 7, 8, 9, 10, 11, 12, 13, 14, 15, 16, 17, 18, 19], [0, 1, 2, 3, 4, 5, 6, 7, 8, 9, 10, 11, 12, 13, 14, 15, 16, 17, 18, 19, 20], [0, 1, 2, 3, 4, 5, 6, 7, 8, 9, 10, 11, 12, 13, 14, 15, 16, 17, 18, 19, 20, 21], [0, 1, 2, 3, 4, 5, 6, 7, 8, 9, 10, 11, 12, 13, 14, 15, 16, 17, 18, 19, 20, 21, 22], [0, 1, 2, 3, 4, 5, 6, 7, 8, 9, 10, 11, 12, 13, 14, 15, 16, 17, 18, 19, 20, 21, 22, 23]])
  | 2000005 => ([], 26, [[], [0], [0, 1], [0, 1, 2], [0, 1, 2, 3], [0, 1, 2, 3, 4], [0, 1, 2, 3, 4, 5], [0, 1, 2, 3, 4, 5, 6], [0, 1, 2, 3, 4, 5, 6, 7], [0, 1, 2, 3, 4, 5, 6, 7, 8], [0, 1, 2, 3, 4, 5, 6, 7, 8, 9], [0, 1, 2, 3, 4, 5, 6, 7, 8, 9, 10], [0, 1, 2, 3, 4, 5, 6, 7, 8, 9, 10, 11], [0, 1, 2, 3, 4, 5, 6, 7, 8, 9, 10, 11, 12], [0, 1, 2, 3, 4, 5, 6, 7, 8, 9, 10, 11, 12, 13], [0, 1, 2, 3, 4, 5, 6, 7, 8, 9, 10, 11, 12, 13, 14], [0, 1, 2, 3, 4, 5, 6, 7, 8, 9, 10, 11, 12, 13, 14, 15], [0, 1, 2, 3, 4, 5, 6, 7, 8, 9, 10, 11, 12, 13, 14, 15, 16], [0, 1, 2, 3, 4, 5, 6, 7, 8, 9, 10, 11, 12, 13, 14, 15, 16, 17], [0, 1, 2, 3, 4, 5, 6, 7, 8, 9, 10, 11, 12, 13, 14, 15, 16, 17, 18], [0, 1, 2, 3, 4, 5, 6, 7, 8, 9, 10, 11, 12, 13, 14, 15, 16, 17, 18, 19], [0, 1, 2, 3, 4, 5, 6, 7, 8, 9, 10, 11, 12, 13, 14, 15, 16, 17, 18, 19, 20], [0, 1, 2, 3, 4, 5, 6, 7, 8, 9, 10, 11, 12, 13, 14, 15, 16, 17, 18, 19, 20, 21], [0, 1, 2, 3, 4, 5, 6, 7, 8, 9, 10, 11, 12, 13, 14, 15, 16, 17, 18, 19, 20, 21, 22], [0, 1, 2, 3, 4, 5, 6, 7, 8, 9, 10, 11, 12, 13, 14, 15, 16, 17, 18, 19, 20, 21, 22, 23]])
  | 2000006 => ([], 7, [[], [0], [0, 1], [0, 1, 2], [0, 1, 2, 3], [0, 1, 2, 3, 4]])
  | 2000010 => ([], 22, [[], [0], [0, 1], [0, 1, 2], [0, 1, 2, 3], [0, 1, 2, 3, 4], [0, 1, 2, 3, 4, 5], [0, 1, 2, 3, 4, 5, 6], [0, 1, 2, 3, 4, 5, 6, 7], [0, 1, 2, 3, 4, 5, 6, 7, 8], [0, 1, 2, 3, 4, 5, 6, 7, 8, 9], [0, 1, 2, 3, 4, 5, 6, 7, 8, 9, 10], [0, 1, 2, 3, 4, 5, 6, 7, 8, 9, 10, 11], [0, 1, 2, 3, 4, 5, 6, 7, 8, 9, 10, 11, 12], [0, 1, 2, 3, 4, 5, 6, 7, 8, 9, 10, 11, 12, 13], [0, 1, 2, 3, 4, 5, 6, 7, 8, 9, 10, 11, 12, 13, 14], [0, 1, 2, 3, 4, 5, 6, 7, 8, 9, 10, 11, 12, 13, 14, 15], [0, 1, 2, 3, 4, 5, 6, 7, 8, 9, 10, 11, 12, 13, 14, 15, 16], [0, 1, 2, 3, 4, 5, 6, 7, 8, 9, 10, 11, 12, 13, 14, 15, 16, 17], [0, 1, 2, 3, 4, 5, 6, 7, 8, 9, 10, 11, 12, 13, 14, 15, 16, 17, 18], [0, 1, 2, 3, 4, 5, 6, 7, 8, 9, 10, 11, 12, 13, 14, 15, 16, 17, 18, 19]])
  | 2000012 => ([], 23, [[], [0], [0, 1], [0, 1, 2], [0, 1, 2, 3], [0, 1, 2, 3, 4], [0, 1, 2, 3, 4, 5], [0, 1, 2, 3, 4, 5, 6], [0, 1, 2, 3, 4, 5, 6, 7], [0, 1, 2, 3, 4, 5, 6, 7, 8], [0, 1, 2, 3, 4, 5, 6, 7, 8, 9], [0, 1, 2, 3, 4, 5, 6, 7, 8, 9, 10], [0, 1, 2, 3, 4, 5, 6, 7, 8, 9, 10, 11], [0, 1, 2, 3, 4, 5, 6, 7, 8, 9, 10, 11, 12], [0, 1, 2, 3, 4, 5, 6, 7, 8, 9, 10, 11, 12, 13], [0, 1, 2, 3, 4, 5, 6, 7, 8, 9, 10, 11, 12, 13, 14], [0, 1, 2, 3, 4, 5, 6, 7, 8, 9, 10, 11, 12, 13, 14, 15], [0, 1, 2, 3, 4, 5, 6, 7, 8, 9, 10, 11, 12, 13, 14, 15, 16], [0, 1, 2, 3, 4, 5, 6, 7, 8, 9, 10, 11, 12, 13, 14, 15, 16, 17], [0, 1, 2, 3, 4, 5, 6, 7, 8, 9, 10, 11, 12, 13, 14, 15, 16, 17, 18], [0, 1, 2, 3, 4, 5, 6, 7, 8, 9, 10, 11, 12, 13, 14, 15, 16, 17, 18, 19], [0, 1, 2, 3, 4, 5, 6, 7, 8, 9, 10, 11, 12, 13, 14, 15, 16, 17, 18, 19, 20]])
  | _ => ([], 0, [])
set_option maxRecDepth 100000 in
theorem ref05_Quoted_eq (f t : List UInt8) (p q : Int) (b : List UInt8) (K : AVal → Hp → Prop) : fnP Try.prog Tpt ann_outriderref05_Quoted Try.f16 [.agg [.str f, .str t, .int .i64 p, .int .i64 q, .str b]] [] K = (
  brP (decide ((↑(List.length b) : Int) = (0 : Int)))
    (K
     (AVal.tup
      [AVal.agg
        [AVal.int IntKind.i64 (0 : Int), AVal.str [], AVal.str [], AVal.int IntKind.i64 (0 : Int),
         AVal.int IntKind.i64 (0 : Int)],
       AVal.int IntKind.i64 (51 : Int)])
     [])
    (impP
      (decide (p = (1 : Int)) && decide ((↑(List.length f) : Int) = (4 : Int)) &&
       decide ((↑(List.length t) : Int) = (4 : Int)))
      ((0 : Int) ≤ (0 : Int) ∧ (0 : Int) < (↑(List.length b) : Int)) ∧
     impP
       (decide (p = (1 : Int)) && decide ((↑(List.length f) : Int) = (4 : Int)) &&
         decide ((↑(List.length t) : Int) = (4 : Int)) &&
        !decide (List.getD b (0 : Nat) (0 : UInt8) = (3 : UInt8)))
       ((0 : Int) ≤ (0 : Int) ∧ (0 : Int) < (↑(List.length b) : Int)) ∧
      impP
        (decide (p = (58 : Int)) && decide ((↑(List.length f) : Int) = (16 : Int)) &&
         decide ((↑(List.length t) : Int) = (16 : Int)))
        ((0 : Int) ≤ (0 : Int) ∧ (0 : Int) < (↑(List.length b) : Int)) ∧
       impP
         (decide (p = (58 : Int)) && decide ((↑(List.length f) : Int) = (16 : Int)) &&
           decide ((↑(List.length t) : Int) = (16 : Int)) &&
          decide ((1 : Nat) ≤ UInt8.toNat (List.getD b (0 : Nat) (0 : UInt8))))
         ((0 : Int) ≤ (0 : Int) ∧ (0 : Int) < (↑(List.length b) : Int)) ∧
        brP
         (!(decide (p = (1 : Int)) && decide ((↑(List.length f) : Int) = (4 : Int)) &&
             decide ((↑(List.length t) : Int) = (4 : Int)) &&
            (decide (List.getD b (0 : Nat) (0 : UInt8) = (3 : UInt8)) ||
             decide (List.getD b (0 : Nat) (0 : UInt8) = (11 : UInt8)))) &&
          !(decide (p = (58 : Int)) && decide ((↑(List.length f) : Int) = (16 : Int)) &&
              decide ((↑(List.length t) : Int) = (16 : Int)) &&
             decide ((1 : Nat) ≤ UInt8.toNat (List.getD b (0 : Nat) (0 : UInt8))) &&
            decide (UInt8.toNat (List.getD b (0 : Nat) (0 : UInt8)) ≤ (3 : Nat))))
         (K
          (AVal.tup
           [AVal.agg
             [AVal.int IntKind.i64 (0 : Int), AVal.str [], AVal.str [], AVal.int IntKind.i64 (0 : Int),
              AVal.int IntKind.i64 (0 : Int)],
            AVal.int IntKind.i64 (51 : Int)])
          [])
         (brP
          (decide (p = (1 : Int)) && decide ((↑(List.length f) : Int) = (4 : Int)) &&
            decide ((↑(List.length t) : Int) = (4 : Int)) &&
           (decide (List.getD b (0 : Nat) (0 : UInt8) = (3 : UInt8)) ||
            decide (List.getD b (0 : Nat) (0 : UInt8) = (11 : UInt8))))
          (List.length b ≤ (140737488355328 : Nat) ∧
           brP (!decide (sumB (List.take (List.length b) (List.drop (0 : Nat) b)) = (65535 : Int)))
            (K
             (AVal.tup
              [AVal.agg
                [AVal.int IntKind.i64 (0 : Int), AVal.str [], AVal.str [], AVal.int IntKind.i64 (0 : Int),
                 AVal.int IntKind.i64 (0 : Int)],
               AVal.int IntKind.i64 (52 : Int)])
             [])
            (brP
             (decide (p = (58 : Int)) && decide ((↑(List.length f) : Int) = (16 : Int)) &&
                decide ((↑(List.length t) : Int) = (16 : Int)) &&
               decide ((1 : Nat) ≤ UInt8.toNat (List.getD b (0 : Nat) (0 : UInt8))) &&
              decide (UInt8.toNat (List.getD b (0 : Nat) (0 : UInt8)) ≤ (3 : Nat)))
             (optP (pseudo f t p (↑(List.length b) : Int))
              (fun x =>
               List.length (List.take (List.length x) (List.drop (0 : Nat) x)) + List.length b ≤
                 (4611686018427387904 : Nat) ∧
                List.length (List.take (List.length x) (List.drop (0 : Nat) x) ++ b) ≤ (140737488355328 : Nat) ∧
                 brP
                  (!decide
                    (sumB
                      (List.take (List.length (List.take (List.length x) (List.drop (0 : Nat) x) ++ b))
                       (List.drop (0 : Nat) (List.take (List.length x) (List.drop (0 : Nat) x) ++ b))) =
                     (65535 : Int)))
                  (K
                   (AVal.tup
                    [AVal.agg
                      [AVal.int IntKind.i64 (0 : Int), AVal.str [], AVal.str [], AVal.int IntKind.i64 (0 : Int),
                       AVal.int IntKind.i64 (0 : Int)],
                     AVal.int IntKind.i64 (52 : Int)])
                   [])
                  (impP
                    (decide (p = (1 : Int)) && decide ((↑(List.length f) : Int) = (4 : Int)) &&
                       decide ((↑(List.length t) : Int) = (4 : Int)) &&
                      (decide (List.getD b (0 : Nat) (0 : UInt8) = (3 : UInt8)) ||
                       decide (List.getD b (0 : Nat) (0 : UInt8) = (11 : UInt8))) &&
                     decide ((32 : Int) ≤ (↑(List.length b) : Int)))
                    ((0 : Int) ≤ (8 : Int) ∧ (8 : Int) < (↑(List.length b) : Int)) ∧
                   impP
                     (decide (p = (1 : Int)) && decide ((↑(List.length f) : Int) = (4 : Int)) &&
                         decide ((↑(List.length t) : Int) = (4 : Int)) &&
                        (decide (List.getD b (0 : Nat) (0 : UInt8) = (3 : UInt8)) ||
                         decide (List.getD b (0 : Nat) (0 : UInt8) = (11 : UInt8))) &&
                       decide ((32 : Int) ≤ (↑(List.length b) : Int)) &&
                      decide (List.getD b (8 : Nat) (0 : UInt8) = (69 : UInt8)))
                     ((0 : Int) ≤ (17 : Int) ∧ (17 : Int) < (↑(List.length b) : Int)) ∧
                    impP
                      (decide (p = (1 : Int)) && decide ((↑(List.length f) : Int) = (4 : Int)) &&
                           decide ((↑(List.length t) : Int) = (4 : Int)) &&
                          (decide (List.getD b (0 : Nat) (0 : UInt8) = (3 : UInt8)) ||
                           decide (List.getD b (0 : Nat) (0 : UInt8) = (11 : UInt8))) &&
                         decide ((32 : Int) ≤ (↑(List.length b) : Int)) &&
                        decide (List.getD b (8 : Nat) (0 : UInt8) = (69 : UInt8)) &&
                       !decide (List.getD b (17 : Nat) (0 : UInt8) = (6 : UInt8)))
                      ((0 : Int) ≤ (17 : Int) ∧ (17 : Int) < (↑(List.length b) : Int)) ∧
                     brP
                      (decide (p = (1 : Int)) && decide ((↑(List.length f) : Int) = (4 : Int)) &&
                           decide ((↑(List.length t) : Int) = (4 : Int)) &&
                          (decide (List.getD b (0 : Nat) (0 : UInt8) = (3 : UInt8)) ||
                           decide (List.getD b (0 : Nat) (0 : UInt8) = (11 : UInt8))) &&
                         decide ((32 : Int) ≤ (↑(List.length b) : Int)) &&
                        decide (List.getD b (8 : Nat) (0 : UInt8) = (69 : UInt8)) &&
                       (decide (List.getD b (17 : Nat) (0 : UInt8) = (6 : UInt8)) ||
                        decide (List.getD b (17 : Nat) (0 : UInt8) = (17 : UInt8))))
                      (((0 : Int) ≤ (17 : Int) ∧ (17 : Int) < (↑(List.length b) : Int)) ∧
                       ((0 : Int) ≤ (20 : Int) ∧ (20 : Int) ≤ (24 : Int) ∧ (24 : Int) ≤ (↑(List.length b) : Int)) ∧
                        ((0 : Int) ≤ (24 : Int) ∧ (24 : Int) ≤ (28 : Int) ∧ (28 : Int) ≤ (↑(List.length b) : Int)) ∧
                         ((0 : Int) ≤ (28 : Int) ∧ (28 : Int) ≤ (30 : Int) ∧ (30 : Int) ≤ (↑(List.length b) : Int)) ∧
                          ((0 : Int) ≤ (0 : Int) ∧
                            (0 : Int) < (↑(List.length (List.drop (28 : Nat) (List.take (30 : Nat) b))) : Int)) ∧
                           I64
                             ((↑(UInt8.toNat
                                 (List.getD (List.drop (28 : Nat) (List.take (30 : Nat) b)) (0 : Nat) (0 : UInt8))) :
                               Int) *
                              (256 : Int)) ∧
                            ((0 : Int) ≤ (1 : Int) ∧
                              (1 : Int) < (↑(List.length (List.drop (28 : Nat) (List.take (30 : Nat) b))) : Int)) ∧
                             I64
                               ((↑(UInt8.toNat
                                    (List.getD (List.drop (28 : Nat) (List.take (30 : Nat) b)) (0 : Nat) (0 : UInt8))) :
                                  Int) *
                                 (256 : Int) +
                                (↑(UInt8.toNat
                                   (List.getD (List.drop (28 : Nat) (List.take (30 : Nat) b)) (1 : Nat) (0 : UInt8))) :
                                 Int)) ∧
                              ((0 : Int) ≤ (30 : Int) ∧ (30 : Int) ≤ (32 : Int) ∧ (32 : Int) ≤ (↑(List.length b) : Int)) ∧
                               ((0 : Int) ≤ (0 : Int) ∧
                                 (0 : Int) < (↑(List.length (List.drop (30 : Nat) (List.take (32 : Nat) b))) : Int)) ∧
                                I64
                                  ((↑(UInt8.toNat
                                      (List.getD (List.drop (30 : Nat) (List.take (32 : Nat) b)) (0 : Nat) (0 : UInt8))) :
                                    Int) *
                                   (256 : Int)) ∧
                                 ((0 : Int) ≤ (1 : Int) ∧
                                   (1 : Int) < (↑(List.length (List.drop (30 : Nat) (List.take (32 : Nat) b))) : Int)) ∧
                                  I64
                                    ((↑(UInt8.toNat
                                         (List.getD (List.drop (30 : Nat) (List.take (32 : Nat) b)) (0 : Nat)
                                          (0 : UInt8))) :
                                       Int) *
                                      (256 : Int) +
                                     (↑(UInt8.toNat
                                        (List.getD (List.drop (30 : Nat) (List.take (32 : Nat) b)) (1 : Nat)
                                         (0 : UInt8))) :
                                      Int)) ∧
                                   K
                                    (AVal.tup
                                     [AVal.agg
                                       [AVal.int IntKind.i64 (↑(UInt8.toNat (List.getD b (17 : Nat) (0 : UInt8))) : Int),
                                        AVal.str (List.drop (20 : Nat) (List.take (24 : Nat) b)),
                                        AVal.str (List.drop (24 : Nat) (List.take (28 : Nat) b)),
                                        AVal.int IntKind.i64
                                         ((↑(UInt8.toNat
                                              (List.getD (List.drop (28 : Nat) (List.take (30 : Nat) b)) (0 : Nat)
                                               (0 : UInt8))) :
                                            Int) *
                                           (256 : Int) +
                                          (↑(UInt8.toNat
                                             (List.getD (List.drop (28 : Nat) (List.take (30 : Nat) b)) (1 : Nat)
                                              (0 : UInt8))) :
                                           Int)),
                                        AVal.int IntKind.i64
                                         ((↑(UInt8.toNat
                                              (List.getD (List.drop (30 : Nat) (List.take (32 : Nat) b)) (0 : Nat)
                                               (0 : UInt8))) :
                                            Int) *
                                           (256 : Int) +
                                          (↑(UInt8.toNat
                                             (List.getD (List.drop (30 : Nat) (List.take (32 : Nat) b)) (1 : Nat)
                                              (0 : UInt8))) :
                                           Int))],
                                      AVal.int IntKind.i64 (0 : Int)])
                                    [])
                      (impP
                        (decide (p = (58 : Int)) && decide ((↑(List.length f) : Int) = (16 : Int)) &&
                            decide ((↑(List.length t) : Int) = (16 : Int)) &&
                           decide ((1 : Nat) ≤ UInt8.toNat (List.getD b (0 : Nat) (0 : UInt8))) &&
                          decide (UInt8.toNat (List.getD b (0 : Nat) (0 : UInt8)) ≤ (3 : Nat)) &&
                         decide ((52 : Int) ≤ (↑(List.length b) : Int)))
                        ((0 : Int) ≤ (8 : Int) ∧ (8 : Int) < (↑(List.length b) : Int)) ∧
                       impP
                         (decide (p = (58 : Int)) && decide ((↑(List.length f) : Int) = (16 : Int)) &&
                             decide ((↑(List.length t) : Int) = (16 : Int)) &&
                            decide ((1 : Nat) ≤ UInt8.toNat (List.getD b (0 : Nat) (0 : UInt8))) &&
                           decide (UInt8.toNat (List.getD b (0 : Nat) (0 : UInt8)) ≤ (3 : Nat)) &&
                          decide ((52 : Int) ≤ (↑(List.length b) : Int)))
                         ((16 : Nat) ≠ (0 : Nat)) ∧
                        impP
                          (decide (p = (58 : Int)) && decide ((↑(List.length f) : Int) = (16 : Int)) &&
                               decide ((↑(List.length t) : Int) = (16 : Int)) &&
                              decide ((1 : Nat) ≤ UInt8.toNat (List.getD b (0 : Nat) (0 : UInt8))) &&
                             decide (UInt8.toNat (List.getD b (0 : Nat) (0 : UInt8)) ≤ (3 : Nat)) &&
                            decide ((52 : Int) ≤ (↑(List.length b) : Int)) &&
                           decide
                            (UInt8.ofNat (UInt8.toNat (List.getD b (8 : Nat) (0 : UInt8)) / (16 : Nat)) = (6 : UInt8)))
                          ((0 : Int) ≤ (14 : Int) ∧ (14 : Int) < (↑(List.length b) : Int)) ∧
                         impP
                           (decide (p = (58 : Int)) && decide ((↑(List.length f) : Int) = (16 : Int)) &&
                                 decide ((↑(List.length t) : Int) = (16 : Int)) &&
                                decide ((1 : Nat) ≤ UInt8.toNat (List.getD b (0 : Nat) (0 : UInt8))) &&
                               decide (UInt8.toNat (List.getD b (0 : Nat) (0 : UInt8)) ≤ (3 : Nat)) &&
                              decide ((52 : Int) ≤ (↑(List.length b) : Int)) &&
                             decide
                              (UInt8.ofNat (UInt8.toNat (List.getD b (8 : Nat) (0 : UInt8)) / (16 : Nat)) =
                               (6 : UInt8)) &&
                            !decide (List.getD b (14 : Nat) (0 : UInt8) = (6 : UInt8)))
                           ((0 : Int) ≤ (14 : Int) ∧ (14 : Int) < (↑(List.length b) : Int)) ∧
                          brP
                           (decide (p = (58 : Int)) && decide ((↑(List.length f) : Int) = (16 : Int)) &&
                                 decide ((↑(List.length t) : Int) = (16 : Int)) &&
                                decide ((1 : Nat) ≤ UInt8.toNat (List.getD b (0 : Nat) (0 : UInt8))) &&
                               decide (UInt8.toNat (List.getD b (0 : Nat) (0 : UInt8)) ≤ (3 : Nat)) &&
                              decide ((52 : Int) ≤ (↑(List.length b) : Int)) &&
                             decide
                              (UInt8.ofNat (UInt8.toNat (List.getD b (8 : Nat) (0 : UInt8)) / (16 : Nat)) =
                               (6 : UInt8)) &&
                            (decide (List.getD b (14 : Nat) (0 : UInt8) = (6 : UInt8)) ||
                             decide (List.getD b (14 : Nat) (0 : UInt8) = (17 : UInt8))))
                           (((0 : Int) ≤ (14 : Int) ∧ (14 : Int) < (↑(List.length b) : Int)) ∧
                            ((0 : Int) ≤ (16 : Int) ∧ (16 : Int) ≤ (32 : Int) ∧ (32 : Int) ≤ (↑(List.length b) : Int)) ∧
                             ((0 : Int) ≤ (32 : Int) ∧ (32 : Int) ≤ (48 : Int) ∧ (48 : Int) ≤ (↑(List.length b) : Int)) ∧
                              ((0 : Int) ≤ (48 : Int) ∧ (48 : Int) ≤ (50 : Int) ∧ (50 : Int) ≤ (↑(List.length b) : Int)) ∧
                               ((0 : Int) ≤ (0 : Int) ∧
                                 (0 : Int) < (↑(List.length (List.drop (48 : Nat) (List.take (50 : Nat) b))) : Int)) ∧
                                I64
                                  ((↑(UInt8.toNat
                                      (List.getD (List.drop (48 : Nat) (List.take (50 : Nat) b)) (0 : Nat) (0 : UInt8))) :
                                    Int) *
                                   (256 : Int)) ∧
                                 ((0 : Int) ≤ (1 : Int) ∧
                                   (1 : Int) < (↑(List.length (List.drop (48 : Nat) (List.take (50 : Nat) b))) : Int)) ∧
                                  I64
                                    ((↑(UInt8.toNat
                                         (List.getD (List.drop (48 : Nat) (List.take (50 : Nat) b)) (0 : Nat)
                                          (0 : UInt8))) :
                                       Int) *
                                      (256 : Int) +
                                     (↑(UInt8.toNat
                                        (List.getD (List.drop (48 : Nat) (List.take (50 : Nat) b)) (1 : Nat)
                                         (0 : UInt8))) :
                                      Int)) ∧
                                   ((0 : Int) ≤ (50 : Int) ∧
                                     (50 : Int) ≤ (52 : Int) ∧ (52 : Int) ≤ (↑(List.length b) : Int)) ∧
                                    ((0 : Int) ≤ (0 : Int) ∧
                                      (0 : Int) <
                                       (↑(List.length (List.drop (50 : Nat) (List.take (52 : Nat) b))) : Int)) ∧
                                     I64
                                       ((↑(UInt8.toNat
                                           (List.getD (List.drop (50 : Nat) (List.take (52 : Nat) b)) (0 : Nat)
                                            (0 : UInt8))) :
                                         Int) *
                                        (256 : Int)) ∧
                                      ((0 : Int) ≤ (1 : Int) ∧
                                        (1 : Int) <
                                         (↑(List.length (List.drop (50 : Nat) (List.take (52 : Nat) b))) : Int)) ∧
                                       I64
                                         ((↑(UInt8.toNat
                                              (List.getD (List.drop (50 : Nat) (List.take (52 : Nat) b)) (0 : Nat)
                                               (0 : UInt8))) :
                                            Int) *
                                           (256 : Int) +
                                          (↑(UInt8.toNat
                                             (List.getD (List.drop (50 : Nat) (List.take (52 : Nat) b)) (1 : Nat)
                                              (0 : UInt8))) :
                                           Int)) ∧
                                        K
                                         (AVal.tup
                                          [AVal.agg
                                            [AVal.int IntKind.i64
                                              (↑(UInt8.toNat (List.getD b (14 : Nat) (0 : UInt8))) : Int),
                                             AVal.str (List.drop (16 : Nat) (List.take (32 : Nat) b)),
                                             AVal.str (List.drop (32 : Nat) (List.take (48 : Nat) b)),
                                             AVal.int IntKind.i64
                                              ((↑(UInt8.toNat
                                                   (List.getD (List.drop (48 : Nat) (List.take (50 : Nat) b)) (0 : Nat)
                                                    (0 : UInt8))) :
                                                 Int) *
                                                (256 : Int) +
                                               (↑(UInt8.toNat
                                                  (List.getD (List.drop (48 : Nat) (List.take (50 : Nat) b)) (1 : Nat)
                                                   (0 : UInt8))) :
                                                Int)),
                                             AVal.int IntKind.i64
                                              ((↑(UInt8.toNat
                                                   (List.getD (List.drop (50 : Nat) (List.take (52 : Nat) b)) (0 : Nat)
                                                    (0 : UInt8))) :
                                                 Int) *
                                                (256 : Int) +
                                               (↑(UInt8.toNat
                                                  (List.getD (List.drop (50 : Nat) (List.take (52 : Nat) b)) (1 : Nat)
                                                   (0 : UInt8))) :
                                                Int))],
                                           AVal.int IntKind.i64 (0 : Int)])
                                         [])
                           (K
                            (AVal.tup
                             [AVal.agg
                               [AVal.int IntKind.i64 (0 : Int), AVal.str [], AVal.str [], AVal.int IntKind.i64 (0 : Int),
                                AVal.int IntKind.i64 (0 : Int)],
                              AVal.int IntKind.i64 (53 : Int)])
                            []))))
              ((0 : Nat) + List.length b ≤ (4611686018427387904 : Nat) ∧
               List.length ([] ++ b) ≤ (140737488355328 : Nat) ∧
                brP (!decide (sumB (List.take (List.length ([] ++ b)) (List.drop (0 : Nat) ([] ++ b))) = (65535 : Int)))
                 (K
                  (AVal.tup
                   [AVal.agg
                     [AVal.int IntKind.i64 (0 : Int), AVal.str [], AVal.str [], AVal.int IntKind.i64 (0 : Int),
                      AVal.int IntKind.i64 (0 : Int)],
                    AVal.int IntKind.i64 (52 : Int)])
                  [])
                 (impP
                   (decide (p = (1 : Int)) && decide ((↑(List.length f) : Int) = (4 : Int)) &&
                      decide ((↑(List.length t) : Int) = (4 : Int)) &&
                     (decide (List.getD b (0 : Nat) (0 : UInt8) = (3 : UInt8)) ||
                      decide (List.getD b (0 : Nat) (0 : UInt8) = (11 : UInt8))) &&
                    decide ((32 : Int) ≤ (↑(List.length b) : Int)))
                   ((0 : Int) ≤ (8 : Int) ∧ (8 : Int) < (↑(List.length b) : Int)) ∧
                  impP
                    (decide (p = (1 : Int)) && decide ((↑(List.length f) : Int) = (4 : Int)) &&
                        decide ((↑(List.length t) : Int) = (4 : Int)) &&
                       (decide (List.getD b (0 : Nat) (0 : UInt8) = (3 : UInt8)) ||
                        decide (List.getD b (0 : Nat) (0 : UInt8) = (11 : UInt8))) &&
                      decide ((32 : Int) ≤ (↑(List.length b) : Int)) &&
                     decide (List.getD b (8 : Nat) (0 : UInt8) = (69 : UInt8)))
                    ((0 : Int) ≤ (17 : Int) ∧ (17 : Int) < (↑(List.length b) : Int)) ∧
                   impP
                     (decide (p = (1 : Int)) && decide ((↑(List.length f) : Int) = (4 : Int)) &&
                          decide ((↑(List.length t) : Int) = (4 : Int)) &&
                         (decide (List.getD b (0 : Nat) (0 : UInt8) = (3 : UInt8)) ||
                          decide (List.getD b (0 : Nat) (0 : UInt8) = (11 : UInt8))) &&
                        decide ((32 : Int) ≤ (↑(List.length b) : Int)) &&
                       decide (List.getD b (8 : Nat) (0 : UInt8) = (69 : UInt8)) &&
                      !decide (List.getD b (17 : Nat) (0 : UInt8) = (6 : UInt8)))
                     ((0 : Int) ≤ (17 : Int) ∧ (17 : Int) < (↑(List.length b) : Int)) ∧
                    brP
                     (decide (p = (1 : Int)) && decide ((↑(List.length f) : Int) = (4 : Int)) &&
                          decide ((↑(List.length t) : Int) = (4 : Int)) &&
                         (decide (List.getD b (0 : Nat) (0 : UInt8) = (3 : UInt8)) ||
                          decide (List.getD b (0 : Nat) (0 : UInt8) = (11 : UInt8))) &&
                        decide ((32 : Int) ≤ (↑(List.length b) : Int)) &&
                       decide (List.getD b (8 : Nat) (0 : UInt8) = (69 : UInt8)) &&
                      (decide (List.getD b (17 : Nat) (0 : UInt8) = (6 : UInt8)) ||
                       decide (List.getD b (17 : Nat) (0 : UInt8) = (17 : UInt8))))
                     (((0 : Int) ≤ (17 : Int) ∧ (17 : Int) < (↑(List.length b) : Int)) ∧
                      ((0 : Int) ≤ (20 : Int) ∧ (20 : Int) ≤ (24 : Int) ∧ (24 : Int) ≤ (↑(List.length b) : Int)) ∧
                       ((0 : Int) ≤ (24 : Int) ∧ (24 : Int) ≤ (28 : Int) ∧ (28 : Int) ≤ (↑(List.length b) : Int)) ∧
                        ((0 : Int) ≤ (28 : Int) ∧ (28 : Int) ≤ (30 : Int) ∧ (30 : Int) ≤ (↑(List.length b) : Int)) ∧
                         ((0 : Int) ≤ (0 : Int) ∧
                           (0 : Int) < (↑(List.length (List.drop (28 : Nat) (List.take (30 : Nat) b))) : Int)) ∧
                          I64
                            ((↑(UInt8.toNat
                                (List.getD (List.drop (28 : Nat) (List.take (30 : Nat) b)) (0 : Nat) (0 : UInt8))) :
                              Int) *
                             (256 : Int)) ∧
                           ((0 : Int) ≤ (1 : Int) ∧
                             (1 : Int) < (↑(List.length (List.drop (28 : Nat) (List.take (30 : Nat) b))) : Int)) ∧
                            I64
                              ((↑(UInt8.toNat
                                   (List.getD (List.drop (28 : Nat) (List.take (30 : Nat) b)) (0 : Nat) (0 : UInt8))) :
                                 Int) *
                                (256 : Int) +
                               (↑(UInt8.toNat
                                  (List.getD (List.drop (28 : Nat) (List.take (30 : Nat) b)) (1 : Nat) (0 : UInt8))) :
                                Int)) ∧
                             ((0 : Int) ≤ (30 : Int) ∧ (30 : Int) ≤ (32 : Int) ∧ (32 : Int) ≤ (↑(List.length b) : Int)) ∧
                              ((0 : Int) ≤ (0 : Int) ∧
                                (0 : Int) < (↑(List.length (List.drop (30 : Nat) (List.take (32 : Nat) b))) : Int)) ∧
                               I64
                                 ((↑(UInt8.toNat
                                     (List.getD (List.drop (30 : Nat) (List.take (32 : Nat) b)) (0 : Nat) (0 : UInt8))) :
                                   Int) *
                                  (256 : Int)) ∧
                                ((0 : Int) ≤ (1 : Int) ∧
                                  (1 : Int) < (↑(List.length (List.drop (30 : Nat) (List.take (32 : Nat) b))) : Int)) ∧
                                 I64
                                   ((↑(UInt8.toNat
                                        (List.getD (List.drop (30 : Nat) (List.take (32 : Nat) b)) (0 : Nat)
                                         (0 : UInt8))) :
                                      Int) *
                                     (256 : Int) +
                                    (↑(UInt8.toNat
                                       (List.getD (List.drop (30 : Nat) (List.take (32 : Nat) b)) (1 : Nat)
                                        (0 : UInt8))) :
                                     Int)) ∧
                                  K
                                   (AVal.tup
                                    [AVal.agg
                                      [AVal.int IntKind.i64 (↑(UInt8.toNat (List.getD b (17 : Nat) (0 : UInt8))) : Int),
                                       AVal.str (List.drop (20 : Nat) (List.take (24 : Nat) b)),
                                       AVal.str (List.drop (24 : Nat) (List.take (28 : Nat) b)),
                                       AVal.int IntKind.i64
                                        ((↑(UInt8.toNat
                                             (List.getD (List.drop (28 : Nat) (List.take (30 : Nat) b)) (0 : Nat)
                                              (0 : UInt8))) :
                                           Int) *
                                          (256 : Int) +
                                         (↑(UInt8.toNat
                                            (List.getD (List.drop (28 : Nat) (List.take (30 : Nat) b)) (1 : Nat)
                                             (0 : UInt8))) :
                                          Int)),
                                       AVal.int IntKind.i64
                                        ((↑(UInt8.toNat
                                             (List.getD (List.drop (30 : Nat) (List.take (32 : Nat) b)) (0 : Nat)
                                              (0 : UInt8))) :
                                           Int) *
                                          (256 : Int) +
                                         (↑(UInt8.toNat
                                            (List.getD (List.drop (30 : Nat) (List.take (32 : Nat) b)) (1 : Nat)
                                             (0 : UInt8))) :
                                          Int))],
                                     AVal.int IntKind.i64 (0 : Int)])
                                   [])
                     (impP
                       (decide (p = (58 : Int)) && decide ((↑(List.length f) : Int) = (16 : Int)) &&
                           decide ((↑(List.length t) : Int) = (16 : Int)) &&
                          decide ((1 : Nat) ≤ UInt8.toNat (List.getD b (0 : Nat) (0 : UInt8))) &&
                         decide (UInt8.toNat (List.getD b (0 : Nat) (0 : UInt8)) ≤ (3 : Nat)) &&
                        decide ((52 : Int) ≤ (↑(List.length b) : Int)))
                       ((0 : Int) ≤ (8 : Int) ∧ (8 : Int) < (↑(List.length b) : Int)) ∧
                      impP
                        (decide (p = (58 : Int)) && decide ((↑(List.length f) : Int) = (16 : Int)) &&
                            decide ((↑(List.length t) : Int) = (16 : Int)) &&
                           decide ((1 : Nat) ≤ UInt8.toNat (List.getD b (0 : Nat) (0 : UInt8))) &&
                          decide (UInt8.toNat (List.getD b (0 : Nat) (0 : UInt8)) ≤ (3 : Nat)) &&
                         decide ((52 : Int) ≤ (↑(List.length b) : Int)))
                        ((16 : Nat) ≠ (0 : Nat)) ∧
                       impP
                         (decide (p = (58 : Int)) && decide ((↑(List.length f) : Int) = (16 : Int)) &&
                              decide ((↑(List.length t) : Int) = (16 : Int)) &&
                             decide ((1 : Nat) ≤ UInt8.toNat (List.getD b (0 : Nat) (0 : UInt8))) &&
                            decide (UInt8.toNat (List.getD b (0 : Nat) (0 : UInt8)) ≤ (3 : Nat)) &&
                           decide ((52 : Int) ≤ (↑(List.length b) : Int)) &&
                          decide
                           (UInt8.ofNat (UInt8.toNat (List.getD b (8 : Nat) (0 : UInt8)) / (16 : Nat)) = (6 : UInt8)))
                         ((0 : Int) ≤ (14 : Int) ∧ (14 : Int) < (↑(List.length b) : Int)) ∧
                        impP
                          (decide (p = (58 : Int)) && decide ((↑(List.length f) : Int) = (16 : Int)) &&
                                decide ((↑(List.length t) : Int) = (16 : Int)) &&
                               decide ((1 : Nat) ≤ UInt8.toNat (List.getD b (0 : Nat) (0 : UInt8))) &&
                              decide (UInt8.toNat (List.getD b (0 : Nat) (0 : UInt8)) ≤ (3 : Nat)) &&
                             decide ((52 : Int) ≤ (↑(List.length b) : Int)) &&
                            decide
                             (UInt8.ofNat (UInt8.toNat (List.getD b (8 : Nat) (0 : UInt8)) / (16 : Nat)) = (6 : UInt8)) &&
                           !decide (List.getD b (14 : Nat) (0 : UInt8) = (6 : UInt8)))
                          ((0 : Int) ≤ (14 : Int) ∧ (14 : Int) < (↑(List.length b) : Int)) ∧
                         brP
                          (decide (p = (58 : Int)) && decide ((↑(List.length f) : Int) = (16 : Int)) &&
                                decide ((↑(List.length t) : Int) = (16 : Int)) &&
                               decide ((1 : Nat) ≤ UInt8.toNat (List.getD b (0 : Nat) (0 : UInt8))) &&
                              decide (UInt8.toNat (List.getD b (0 : Nat) (0 : UInt8)) ≤ (3 : Nat)) &&
                             decide ((52 : Int) ≤ (↑(List.length b) : Int)) &&
                            decide
                             (UInt8.ofNat (UInt8.toNat (List.getD b (8 : Nat) (0 : UInt8)) / (16 : Nat)) = (6 : UInt8)) &&
                           (decide (List.getD b (14 : Nat) (0 : UInt8) = (6 : UInt8)) ||
                            decide (List.getD b (14 : Nat) (0 : UInt8) = (17 : UInt8))))
                          (((0 : Int) ≤ (14 : Int) ∧ (14 : Int) < (↑(List.length b) : Int)) ∧
                           ((0 : Int) ≤ (16 : Int) ∧ (16 : Int) ≤ (32 : Int) ∧ (32 : Int) ≤ (↑(List.length b) : Int)) ∧
                            ((0 : Int) ≤ (32 : Int) ∧ (32 : Int) ≤ (48 : Int) ∧ (48 : Int) ≤ (↑(List.length b) : Int)) ∧
                             ((0 : Int) ≤ (48 : Int) ∧ (48 : Int) ≤ (50 : Int) ∧ (50 : Int) ≤ (↑(List.length b) : Int)) ∧
                              ((0 : Int) ≤ (0 : Int) ∧
                                (0 : Int) < (↑(List.length (List.drop (48 : Nat) (List.take (50 : Nat) b))) : Int)) ∧
                               I64
                                 ((↑(UInt8.toNat
                                     (List.getD (List.drop (48 : Nat) (List.take (50 : Nat) b)) (0 : Nat) (0 : UInt8))) :
                                   Int) *
                                  (256 : Int)) ∧
                                ((0 : Int) ≤ (1 : Int) ∧
                                  (1 : Int) < (↑(List.length (List.drop (48 : Nat) (List.take (50 : Nat) b))) : Int)) ∧
                                 I64
                                   ((↑(UInt8.toNat
                                        (List.getD (List.drop (48 : Nat) (List.take (50 : Nat) b)) (0 : Nat)
                                         (0 : UInt8))) :
                                      Int) *
                                     (256 : Int) +
                                    (↑(UInt8.toNat
                                       (List.getD (List.drop (48 : Nat) (List.take (50 : Nat) b)) (1 : Nat)
                                        (0 : UInt8))) :
                                     Int)) ∧
                                  ((0 : Int) ≤ (50 : Int) ∧
                                    (50 : Int) ≤ (52 : Int) ∧ (52 : Int) ≤ (↑(List.length b) : Int)) ∧
                                   ((0 : Int) ≤ (0 : Int) ∧
                                     (0 : Int) < (↑(List.length (List.drop (50 : Nat) (List.take (52 : Nat) b))) : Int)) ∧
                                    I64
                                      ((↑(UInt8.toNat
                                          (List.getD (List.drop (50 : Nat) (List.take (52 : Nat) b)) (0 : Nat)
                                           (0 : UInt8))) :
                                        Int) *
                                       (256 : Int)) ∧
                                     ((0 : Int) ≤ (1 : Int) ∧
                                       (1 : Int) <
                                        (↑(List.length (List.drop (50 : Nat) (List.take (52 : Nat) b))) : Int)) ∧
                                      I64
                                        ((↑(UInt8.toNat
                                             (List.getD (List.drop (50 : Nat) (List.take (52 : Nat) b)) (0 : Nat)
                                              (0 : UInt8))) :
                                           Int) *
                                          (256 : Int) +
                                         (↑(UInt8.toNat
                                            (List.getD (List.drop (50 : Nat) (List.take (52 : Nat) b)) (1 : Nat)
                                             (0 : UInt8))) :
                                          Int)) ∧
                                       K
                                        (AVal.tup
                                         [AVal.agg
                                           [AVal.int IntKind.i64
                                             (↑(UInt8.toNat (List.getD b (14 : Nat) (0 : UInt8))) : Int),
                                            AVal.str (List.drop (16 : Nat) (List.take (32 : Nat) b)),
                                            AVal.str (List.drop (32 : Nat) (List.take (48 : Nat) b)),
                                            AVal.int IntKind.i64
                                             ((↑(UInt8.toNat
                                                  (List.getD (List.drop (48 : Nat) (List.take (50 : Nat) b)) (0 : Nat)
                                                   (0 : UInt8))) :
                                                Int) *
                                               (256 : Int) +
                                              (↑(UInt8.toNat
                                                 (List.getD (List.drop (48 : Nat) (List.take (50 : Nat) b)) (1 : Nat)
                                                  (0 : UInt8))) :
                                               Int)),
                                            AVal.int IntKind.i64
                                             ((↑(UInt8.toNat
                                                  (List.getD (List.drop (50 : Nat) (List.take (52 : Nat) b)) (0 : Nat)
                                                   (0 : UInt8))) :
                                                Int) *
                                               (256 : Int) +
                                              (↑(UInt8.toNat
                                                 (List.getD (List.drop (50 : Nat) (List.take (52 : Nat) b)) (1 : Nat)
                                                  (0 : UInt8))) :
                                               Int))],
                                          AVal.int IntKind.i64 (0 : Int)])
                                        [])
                          (K
                           (AVal.tup
                            [AVal.agg
                              [AVal.int IntKind.i64 (0 : Int), AVal.str [], AVal.str [], AVal.int IntKind.i64 (0 : Int),
                               AVal.int IntKind.i64 (0 : Int)],
                             AVal.int IntKind.i64 (53 : Int)])
                           [])))))
             (impP
               (decide (p = (1 : Int)) && decide ((↑(List.length f) : Int) = (4 : Int)) &&
                  decide ((↑(List.length t) : Int) = (4 : Int)) &&
                 (decide (List.getD b (0 : Nat) (0 : UInt8) = (3 : UInt8)) ||
                  decide (List.getD b (0 : Nat) (0 : UInt8) = (11 : UInt8))) &&
                decide ((32 : Int) ≤ (↑(List.length b) : Int)))
               ((0 : Int) ≤ (8 : Int) ∧ (8 : Int) < (↑(List.length b) : Int)) ∧
              impP
                (decide (p = (1 : Int)) && decide ((↑(List.length f) : Int) = (4 : Int)) &&
                    decide ((↑(List.length t) : Int) = (4 : Int)) &&
                   (decide (List.getD b (0 : Nat) (0 : UInt8) = (3 : UInt8)) ||
                    decide (List.getD b (0 : Nat) (0 : UInt8) = (11 : UInt8))) &&
                  decide ((32 : Int) ≤ (↑(List.length b) : Int)) &&
                 decide (List.getD b (8 : Nat) (0 : UInt8) = (69 : UInt8)))
                ((0 : Int) ≤ (17 : Int) ∧ (17 : Int) < (↑(List.length b) : Int)) ∧
               impP
                 (decide (p = (1 : Int)) && decide ((↑(List.length f) : Int) = (4 : Int)) &&
                      decide ((↑(List.length t) : Int) = (4 : Int)) &&
                     (decide (List.getD b (0 : Nat) (0 : UInt8) = (3 : UInt8)) ||
                      decide (List.getD b (0 : Nat) (0 : UInt8) = (11 : UInt8))) &&
                    decide ((32 : Int) ≤ (↑(List.length b) : Int)) &&
                   decide (List.getD b (8 : Nat) (0 : UInt8) = (69 : UInt8)) &&
                  !decide (List.getD b (17 : Nat) (0 : UInt8) = (6 : UInt8)))
                 ((0 : Int) ≤ (17 : Int) ∧ (17 : Int) < (↑(List.length b) : Int)) ∧
                brP
                 (decide (p = (1 : Int)) && decide ((↑(List.length f) : Int) = (4 : Int)) &&
                      decide ((↑(List.length t) : Int) = (4 : Int)) &&
                     (decide (List.getD b (0 : Nat) (0 : UInt8) = (3 : UInt8)) ||
                      decide (List.getD b (0 : Nat) (0 : UInt8) = (11 : UInt8))) &&
                    decide ((32 : Int) ≤ (↑(List.length b) : Int)) &&
                   decide (List.getD b (8 : Nat) (0 : UInt8) = (69 : UInt8)) &&
                  (decide (List.getD b (17 : Nat) (0 : UInt8) = (6 : UInt8)) ||
                   decide (List.getD b (17 : Nat) (0 : UInt8) = (17 : UInt8))))
                 (((0 : Int) ≤ (17 : Int) ∧ (17 : Int) < (↑(List.length b) : Int)) ∧
                  ((0 : Int) ≤ (20 : Int) ∧ (20 : Int) ≤ (24 : Int) ∧ (24 : Int) ≤ (↑(List.length b) : Int)) ∧
                   ((0 : Int) ≤ (24 : Int) ∧ (24 : Int) ≤ (28 : Int) ∧ (28 : Int) ≤ (↑(List.length b) : Int)) ∧
                    ((0 : Int) ≤ (28 : Int) ∧ (28 : Int) ≤ (30 : Int) ∧ (30 : Int) ≤ (↑(List.length b) : Int)) ∧
                     ((0 : Int) ≤ (0 : Int) ∧
                       (0 : Int) < (↑(List.length (List.drop (28 : Nat) (List.take (30 : Nat) b))) : Int)) ∧
                      I64
                        ((↑(UInt8.toNat
                            (List.getD (List.drop (28 : Nat) (List.take (30 : Nat) b)) (0 : Nat) (0 : UInt8))) :
                          Int) *
                         (256 : Int)) ∧
                       ((0 : Int) ≤ (1 : Int) ∧
                         (1 : Int) < (↑(List.length (List.drop (28 : Nat) (List.take (30 : Nat) b))) : Int)) ∧
                        I64
                          ((↑(UInt8.toNat
                               (List.getD (List.drop (28 : Nat) (List.take (30 : Nat) b)) (0 : Nat) (0 : UInt8))) :
                             Int) *
                            (256 : Int) +
                           (↑(UInt8.toNat
                              (List.getD (List.drop (28 : Nat) (List.take (30 : Nat) b)) (1 : Nat) (0 : UInt8))) :
                            Int)) ∧
                         ((0 : Int) ≤ (30 : Int) ∧ (30 : Int) ≤ (32 : Int) ∧ (32 : Int) ≤ (↑(List.length b) : Int)) ∧
                          ((0 : Int) ≤ (0 : Int) ∧
                            (0 : Int) < (↑(List.length (List.drop (30 : Nat) (List.take (32 : Nat) b))) : Int)) ∧
                           I64
                             ((↑(UInt8.toNat
                                 (List.getD (List.drop (30 : Nat) (List.take (32 : Nat) b)) (0 : Nat) (0 : UInt8))) :
                               Int) *
                              (256 : Int)) ∧
                            ((0 : Int) ≤ (1 : Int) ∧
                              (1 : Int) < (↑(List.length (List.drop (30 : Nat) (List.take (32 : Nat) b))) : Int)) ∧
                             I64
                               ((↑(UInt8.toNat
                                    (List.getD (List.drop (30 : Nat) (List.take (32 : Nat) b)) (0 : Nat) (0 : UInt8))) :
                                  Int) *
                                 (256 : Int) +
                                (↑(UInt8.toNat
                                   (List.getD (List.drop (30 : Nat) (List.take (32 : Nat) b)) (1 : Nat) (0 : UInt8))) :
                                 Int)) ∧
                              K
                               (AVal.tup
                                [AVal.agg
                                  [AVal.int IntKind.i64 (↑(UInt8.toNat (List.getD b (17 : Nat) (0 : UInt8))) : Int),
                                   AVal.str (List.drop (20 : Nat) (List.take (24 : Nat) b)),
                                   AVal.str (List.drop (24 : Nat) (List.take (28 : Nat) b)),
                                   AVal.int IntKind.i64
                                    ((↑(UInt8.toNat
                                         (List.getD (List.drop (28 : Nat) (List.take (30 : Nat) b)) (0 : Nat)
                                          (0 : UInt8))) :
                                       Int) *
                                      (256 : Int) +
                                     (↑(UInt8.toNat
                                        (List.getD (List.drop (28 : Nat) (List.take (30 : Nat) b)) (1 : Nat)
                                         (0 : UInt8))) :
                                      Int)),
                                   AVal.int IntKind.i64
                                    ((↑(UInt8.toNat
                                         (List.getD (List.drop (30 : Nat) (List.take (32 : Nat) b)) (0 : Nat)
                                          (0 : UInt8))) :
                                       Int) *
                                      (256 : Int) +
                                     (↑(UInt8.toNat
                                        (List.getD (List.drop (30 : Nat) (List.take (32 : Nat) b)) (1 : Nat)
                                         (0 : UInt8))) :
                                      Int))],
                                 AVal.int IntKind.i64 (0 : Int)])
                               [])
                 (impP
                   (decide (p = (58 : Int)) && decide ((↑(List.length f) : Int) = (16 : Int)) &&
                       decide ((↑(List.length t) : Int) = (16 : Int)) &&
                      decide ((1 : Nat) ≤ UInt8.toNat (List.getD b (0 : Nat) (0 : UInt8))) &&
                     decide (UInt8.toNat (List.getD b (0 : Nat) (0 : UInt8)) ≤ (3 : Nat)) &&
                    decide ((52 : Int) ≤ (↑(List.length b) : Int)))
                   ((0 : Int) ≤ (8 : Int) ∧ (8 : Int) < (↑(List.length b) : Int)) ∧
                  impP
                    (decide (p = (58 : Int)) && decide ((↑(List.length f) : Int) = (16 : Int)) &&
                        decide ((↑(List.length t) : Int) = (16 : Int)) &&
                       decide ((1 : Nat) ≤ UInt8.toNat (List.getD b (0 : Nat) (0 : UInt8))) &&
                      decide (UInt8.toNat (List.getD b (0 : Nat) (0 : UInt8)) ≤ (3 : Nat)) &&
                     decide ((52 : Int) ≤ (↑(List.length b) : Int)))
                    ((16 : Nat) ≠ (0 : Nat)) ∧
                   impP
                     (decide (p = (58 : Int)) && decide ((↑(List.length f) : Int) = (16 : Int)) &&
                          decide ((↑(List.length t) : Int) = (16 : Int)) &&
                         decide ((1 : Nat) ≤ UInt8.toNat (List.getD b (0 : Nat) (0 : UInt8))) &&
                        decide (UInt8.toNat (List.getD b (0 : Nat) (0 : UInt8)) ≤ (3 : Nat)) &&
                       decide ((52 : Int) ≤ (↑(List.length b) : Int)) &&
                      decide (UInt8.ofNat (UInt8.toNat (List.getD b (8 : Nat) (0 : UInt8)) / (16 : Nat)) = (6 : UInt8)))
                     ((0 : Int) ≤ (14 : Int) ∧ (14 : Int) < (↑(List.length b) : Int)) ∧
                    impP
                      (decide (p = (58 : Int)) && decide ((↑(List.length f) : Int) = (16 : Int)) &&
                            decide ((↑(List.length t) : Int) = (16 : Int)) &&
                           decide ((1 : Nat) ≤ UInt8.toNat (List.getD b (0 : Nat) (0 : UInt8))) &&
                          decide (UInt8.toNat (List.getD b (0 : Nat) (0 : UInt8)) ≤ (3 : Nat)) &&
                         decide ((52 : Int) ≤ (↑(List.length b) : Int)) &&
                        decide
                         (UInt8.ofNat (UInt8.toNat (List.getD b (8 : Nat) (0 : UInt8)) / (16 : Nat)) = (6 : UInt8)) &&
                       !decide (List.getD b (14 : Nat) (0 : UInt8) = (6 : UInt8)))
                      ((0 : Int) ≤ (14 : Int) ∧ (14 : Int) < (↑(List.length b) : Int)) ∧
                     brP
                      (decide (p = (58 : Int)) && decide ((↑(List.length f) : Int) = (16 : Int)) &&
                            decide ((↑(List.length t) : Int) = (16 : Int)) &&
                           decide ((1 : Nat) ≤ UInt8.toNat (List.getD b (0 : Nat) (0 : UInt8))) &&
                          decide (UInt8.toNat (List.getD b (0 : Nat) (0 : UInt8)) ≤ (3 : Nat)) &&
                         decide ((52 : Int) ≤ (↑(List.length b) : Int)) &&
                        decide
                         (UInt8.ofNat (UInt8.toNat (List.getD b (8 : Nat) (0 : UInt8)) / (16 : Nat)) = (6 : UInt8)) &&
                       (decide (List.getD b (14 : Nat) (0 : UInt8) = (6 : UInt8)) ||
                        decide (List.getD b (14 : Nat) (0 : UInt8) = (17 : UInt8))))
                      (((0 : Int) ≤ (14 : Int) ∧ (14 : Int) < (↑(List.length b) : Int)) ∧
                       ((0 : Int) ≤ (16 : Int) ∧ (16 : Int) ≤ (32 : Int) ∧ (32 : Int) ≤ (↑(List.length b) : Int)) ∧
                        ((0 : Int) ≤ (32 : Int) ∧ (32 : Int) ≤ (48 : Int) ∧ (48 : Int) ≤ (↑(List.length b) : Int)) ∧
                         ((0 : Int) ≤ (48 : Int) ∧ (48 : Int) ≤ (50 : Int) ∧ (50 : Int) ≤ (↑(List.length b) : Int)) ∧
                          ((0 : Int) ≤ (0 : Int) ∧
                            (0 : Int) < (↑(List.length (List.drop (48 : Nat) (List.take (50 : Nat) b))) : Int)) ∧
                           I64
                             ((↑(UInt8.toNat
                                 (List.getD (List.drop (48 : Nat) (List.take (50 : Nat) b)) (0 : Nat) (0 : UInt8))) :
                               Int) *
                              (256 : Int)) ∧
                            ((0 : Int) ≤ (1 : Int) ∧
                              (1 : Int) < (↑(List.length (List.drop (48 : Nat) (List.take (50 : Nat) b))) : Int)) ∧
                             I64
                               ((↑(UInt8.toNat
                                    (List.getD (List.drop (48 : Nat) (List.take (50 : Nat) b)) (0 : Nat) (0 : UInt8))) :
                                  Int) *
                                 (256 : Int) +
                                (↑(UInt8.toNat
                                   (List.getD (List.drop (48 : Nat) (List.take (50 : Nat) b)) (1 : Nat) (0 : UInt8))) :
                                 Int)) ∧
                              ((0 : Int) ≤ (50 : Int) ∧ (50 : Int) ≤ (52 : Int) ∧ (52 : Int) ≤ (↑(List.length b) : Int)) ∧
                               ((0 : Int) ≤ (0 : Int) ∧
                                 (0 : Int) < (↑(List.length (List.drop (50 : Nat) (List.take (52 : Nat) b))) : Int)) ∧
                                I64
                                  ((↑(UInt8.toNat
                                      (List.getD (List.drop (50 : Nat) (List.take (52 : Nat) b)) (0 : Nat) (0 : UInt8))) :
                                    Int) *
                                   (256 : Int)) ∧
                                 ((0 : Int) ≤ (1 : Int) ∧
                                   (1 : Int) < (↑(List.length (List.drop (50 : Nat) (List.take (52 : Nat) b))) : Int)) ∧
                                  I64
                                    ((↑(UInt8.toNat
                                         (List.getD (List.drop (50 : Nat) (List.take (52 : Nat) b)) (0 : Nat)
                                          (0 : UInt8))) :
                                       Int) *
                                      (256 : Int) +
                                     (↑(UInt8.toNat
                                        (List.getD (List.drop (50 : Nat) (List.take (52 : Nat) b)) (1 : Nat)
                                         (0 : UInt8))) :
                                      Int)) ∧
                                   K
                                    (AVal.tup
                                     [AVal.agg
                                       [AVal.int IntKind.i64 (↑(UInt8.toNat (List.getD b (14 : Nat) (0 : UInt8))) : Int),
                                        AVal.str (List.drop (16 : Nat) (List.take (32 : Nat) b)),
                                        AVal.str (List.drop (32 : Nat) (List.take (48 : Nat) b)),
                                        AVal.int IntKind.i64
                                         ((↑(UInt8.toNat
                                              (List.getD (List.drop (48 : Nat) (List.take (50 : Nat) b)) (0 : Nat)
                                               (0 : UInt8))) :
                                            Int) *
                                           (256 : Int) +
                                          (↑(UInt8.toNat
                                             (List.getD (List.drop (48 : Nat) (List.take (50 : Nat) b)) (1 : Nat)
                                              (0 : UInt8))) :
                                           Int)),
                                        AVal.int IntKind.i64
                                         ((↑(UInt8.toNat
                                              (List.getD (List.drop (50 : Nat) (List.take (52 : Nat) b)) (0 : Nat)
                                               (0 : UInt8))) :
                                            Int) *
                                           (256 : Int) +
                                          (↑(UInt8.toNat
                                             (List.getD (List.drop (50 : Nat) (List.take (52 : Nat) b)) (1 : Nat)
                                              (0 : UInt8))) :
                                           Int))],
                                      AVal.int IntKind.i64 (0 : Int)])
                                    [])
                      (K
                       (AVal.tup
                        [AVal.agg
                          [AVal.int IntKind.i64 (0 : Int), AVal.str [], AVal.str [], AVal.int IntKind.i64 (0 : Int),
                           AVal.int IntKind.i64 (0 : Int)],
                         AVal.int IntKind.i64 (53 : Int)])
                       [])))))
          (brP
           (decide (p = (58 : Int)) && decide ((↑(List.length f) : Int) = (16 : Int)) &&
              decide ((↑(List.length t) : Int) = (16 : Int)) &&
             decide ((1 : Nat) ≤ UInt8.toNat (List.getD b (0 : Nat) (0 : UInt8))) &&
            decide (UInt8.toNat (List.getD b (0 : Nat) (0 : UInt8)) ≤ (3 : Nat)))
           (optP (pseudo f t p (↑(List.length b) : Int))
            (fun x =>
             List.length (List.take (List.length x) (List.drop (0 : Nat) x)) + List.length b ≤
               (4611686018427387904 : Nat) ∧
              List.length (List.take (List.length x) (List.drop (0 : Nat) x) ++ b) ≤ (140737488355328 : Nat) ∧
               brP
                (!decide
                  (sumB
                    (List.take (List.length (List.take (List.length x) (List.drop (0 : Nat) x) ++ b))
                     (List.drop (0 : Nat) (List.take (List.length x) (List.drop (0 : Nat) x) ++ b))) =
                   (65535 : Int)))
                (K
                 (AVal.tup
                  [AVal.agg
                    [AVal.int IntKind.i64 (0 : Int), AVal.str [], AVal.str [], AVal.int IntKind.i64 (0 : Int),
                     AVal.int IntKind.i64 (0 : Int)],
                   AVal.int IntKind.i64 (52 : Int)])
                 [])
                (impP
                  (decide (p = (1 : Int)) && decide ((↑(List.length f) : Int) = (4 : Int)) &&
                     decide ((↑(List.length t) : Int) = (4 : Int)) &&
                    (decide (List.getD b (0 : Nat) (0 : UInt8) = (3 : UInt8)) ||
                     decide (List.getD b (0 : Nat) (0 : UInt8) = (11 : UInt8))) &&
                   decide ((32 : Int) ≤ (↑(List.length b) : Int)))
                  ((0 : Int) ≤ (8 : Int) ∧ (8 : Int) < (↑(List.length b) : Int)) ∧
                 impP
                   (decide (p = (1 : Int)) && decide ((↑(List.length f) : Int) = (4 : Int)) &&
                       decide ((↑(List.length t) : Int) = (4 : Int)) &&
                      (decide (List.getD b (0 : Nat) (0 : UInt8) = (3 : UInt8)) ||
                       decide (List.getD b (0 : Nat) (0 : UInt8) = (11 : UInt8))) &&
                     decide ((32 : Int) ≤ (↑(List.length b) : Int)) &&
                    decide (List.getD b (8 : Nat) (0 : UInt8) = (69 : UInt8)))
                   ((0 : Int) ≤ (17 : Int) ∧ (17 : Int) < (↑(List.length b) : Int)) ∧
                  impP
                    (decide (p = (1 : Int)) && decide ((↑(List.length f) : Int) = (4 : Int)) &&
                         decide ((↑(List.length t) : Int) = (4 : Int)) &&
                        (decide (List.getD b (0 : Nat) (0 : UInt8) = (3 : UInt8)) ||
                         decide (List.getD b (0 : Nat) (0 : UInt8) = (11 : UInt8))) &&
                       decide ((32 : Int) ≤ (↑(List.length b) : Int)) &&
                      decide (List.getD b (8 : Nat) (0 : UInt8) = (69 : UInt8)) &&
                     !decide (List.getD b (17 : Nat) (0 : UInt8) = (6 : UInt8)))
                    ((0 : Int) ≤ (17 : Int) ∧ (17 : Int) < (↑(List.length b) : Int)) ∧
                   brP
                    (decide (p = (1 : Int)) && decide ((↑(List.length f) : Int) = (4 : Int)) &&
                         decide ((↑(List.length t) : Int) = (4 : Int)) &&
                        (decide (List.getD b (0 : Nat) (0 : UInt8) = (3 : UInt8)) ||
                         decide (List.getD b (0 : Nat) (0 : UInt8) = (11 : UInt8))) &&
                       decide ((32 : Int) ≤ (↑(List.length b) : Int)) &&
                      decide (List.getD b (8 : Nat) (0 : UInt8) = (69 : UInt8)) &&
                     (decide (List.getD b (17 : Nat) (0 : UInt8) = (6 : UInt8)) ||
                      decide (List.getD b (17 : Nat) (0 : UInt8) = (17 : UInt8))))
                    (((0 : Int) ≤ (17 : Int) ∧ (17 : Int) < (↑(List.length b) : Int)) ∧
                     ((0 : Int) ≤ (20 : Int) ∧ (20 : Int) ≤ (24 : Int) ∧ (24 : Int) ≤ (↑(List.length b) : Int)) ∧
                      ((0 : Int) ≤ (24 : Int) ∧ (24 : Int) ≤ (28 : Int) ∧ (28 : Int) ≤ (↑(List.length b) : Int)) ∧
                       ((0 : Int) ≤ (28 : Int) ∧ (28 : Int) ≤ (30 : Int) ∧ (30 : Int) ≤ (↑(List.length b) : Int)) ∧
                        ((0 : Int) ≤ (0 : Int) ∧
                          (0 : Int) < (↑(List.length (List.drop (28 : Nat) (List.take (30 : Nat) b))) : Int)) ∧
                         I64
                           ((↑(UInt8.toNat
                               (List.getD (List.drop (28 : Nat) (List.take (30 : Nat) b)) (0 : Nat) (0 : UInt8))) :
                             Int) *
                            (256 : Int)) ∧
                          ((0 : Int) ≤ (1 : Int) ∧
                            (1 : Int) < (↑(List.length (List.drop (28 : Nat) (List.take (30 : Nat) b))) : Int)) ∧
                           I64
                             ((↑(UInt8.toNat
                                  (List.getD (List.drop (28 : Nat) (List.take (30 : Nat) b)) (0 : Nat) (0 : UInt8))) :
                                Int) *
                               (256 : Int) +
                              (↑(UInt8.toNat
                                 (List.getD (List.drop (28 : Nat) (List.take (30 : Nat) b)) (1 : Nat) (0 : UInt8))) :
                               Int)) ∧
                            ((0 : Int) ≤ (30 : Int) ∧ (30 : Int) ≤ (32 : Int) ∧ (32 : Int) ≤ (↑(List.length b) : Int)) ∧
                             ((0 : Int) ≤ (0 : Int) ∧
                               (0 : Int) < (↑(List.length (List.drop (30 : Nat) (List.take (32 : Nat) b))) : Int)) ∧
                              I64
                                ((↑(UInt8.toNat
                                    (List.getD (List.drop (30 : Nat) (List.take (32 : Nat) b)) (0 : Nat) (0 : UInt8))) :
                                  Int) *
                                 (256 : Int)) ∧
                               ((0 : Int) ≤ (1 : Int) ∧
                                 (1 : Int) < (↑(List.length (List.drop (30 : Nat) (List.take (32 : Nat) b))) : Int)) ∧
                                I64
                                  ((↑(UInt8.toNat
                                       (List.getD (List.drop (30 : Nat) (List.take (32 : Nat) b)) (0 : Nat)
                                        (0 : UInt8))) :
                                     Int) *
                                    (256 : Int) +
                                   (↑(UInt8.toNat
                                      (List.getD (List.drop (30 : Nat) (List.take (32 : Nat) b)) (1 : Nat) (0 : UInt8))) :
                                    Int)) ∧
                                 K
                                  (AVal.tup
                                   [AVal.agg
                                     [AVal.int IntKind.i64 (↑(UInt8.toNat (List.getD b (17 : Nat) (0 : UInt8))) : Int),
                                      AVal.str (List.drop (20 : Nat) (List.take (24 : Nat) b)),
                                      AVal.str (List.drop (24 : Nat) (List.take (28 : Nat) b)),
                                      AVal.int IntKind.i64
                                       ((↑(UInt8.toNat
                                            (List.getD (List.drop (28 : Nat) (List.take (30 : Nat) b)) (0 : Nat)
                                             (0 : UInt8))) :
                                          Int) *
                                         (256 : Int) +
                                        (↑(UInt8.toNat
                                           (List.getD (List.drop (28 : Nat) (List.take (30 : Nat) b)) (1 : Nat)
                                            (0 : UInt8))) :
                                         Int)),
                                      AVal.int IntKind.i64
                                       ((↑(UInt8.toNat
                                            (List.getD (List.drop (30 : Nat) (List.take (32 : Nat) b)) (0 : Nat)
                                             (0 : UInt8))) :
                                          Int) *
                                         (256 : Int) +
                                        (↑(UInt8.toNat
                                           (List.getD (List.drop (30 : Nat) (List.take (32 : Nat) b)) (1 : Nat)
                                            (0 : UInt8))) :
                                         Int))],
                                    AVal.int IntKind.i64 (0 : Int)])
                                  [])
                    (impP
                      (decide (p = (58 : Int)) && decide ((↑(List.length f) : Int) = (16 : Int)) &&
                          decide ((↑(List.length t) : Int) = (16 : Int)) &&
                         decide ((1 : Nat) ≤ UInt8.toNat (List.getD b (0 : Nat) (0 : UInt8))) &&
                        decide (UInt8.toNat (List.getD b (0 : Nat) (0 : UInt8)) ≤ (3 : Nat)) &&
                       decide ((52 : Int) ≤ (↑(List.length b) : Int)))
                      ((0 : Int) ≤ (8 : Int) ∧ (8 : Int) < (↑(List.length b) : Int)) ∧
                     impP
                       (decide (p = (58 : Int)) && decide ((↑(List.length f) : Int) = (16 : Int)) &&
                           decide ((↑(List.length t) : Int) = (16 : Int)) &&
                          decide ((1 : Nat) ≤ UInt8.toNat (List.getD b (0 : Nat) (0 : UInt8))) &&
                         decide (UInt8.toNat (List.getD b (0 : Nat) (0 : UInt8)) ≤ (3 : Nat)) &&
                        decide ((52 : Int) ≤ (↑(List.length b) : Int)))
                       ((16 : Nat) ≠ (0 : Nat)) ∧
                      impP
                        (decide (p = (58 : Int)) && decide ((↑(List.length f) : Int) = (16 : Int)) &&
                             decide ((↑(List.length t) : Int) = (16 : Int)) &&
                            decide ((1 : Nat) ≤ UInt8.toNat (List.getD b (0 : Nat) (0 : UInt8))) &&
                           decide (UInt8.toNat (List.getD b (0 : Nat) (0 : UInt8)) ≤ (3 : Nat)) &&
                          decide ((52 : Int) ≤ (↑(List.length b) : Int)) &&
                         decide
                          (UInt8.ofNat (UInt8.toNat (List.getD b (8 : Nat) (0 : UInt8)) / (16 : Nat)) = (6 : UInt8)))
                        ((0 : Int) ≤ (14 : Int) ∧ (14 : Int) < (↑(List.length b) : Int)) ∧
                       impP
                         (decide (p = (58 : Int)) && decide ((↑(List.length f) : Int) = (16 : Int)) &&
                               decide ((↑(List.length t) : Int) = (16 : Int)) &&
                              decide ((1 : Nat) ≤ UInt8.toNat (List.getD b (0 : Nat) (0 : UInt8))) &&
                             decide (UInt8.toNat (List.getD b (0 : Nat) (0 : UInt8)) ≤ (3 : Nat)) &&
                            decide ((52 : Int) ≤ (↑(List.length b) : Int)) &&
                           decide
                            (UInt8.ofNat (UInt8.toNat (List.getD b (8 : Nat) (0 : UInt8)) / (16 : Nat)) = (6 : UInt8)) &&
                          !decide (List.getD b (14 : Nat) (0 : UInt8) = (6 : UInt8)))
                         ((0 : Int) ≤ (14 : Int) ∧ (14 : Int) < (↑(List.length b) : Int)) ∧
                        brP
                         (decide (p = (58 : Int)) && decide ((↑(List.length f) : Int) = (16 : Int)) &&
                               decide ((↑(List.length t) : Int) = (16 : Int)) &&
                              decide ((1 : Nat) ≤ UInt8.toNat (List.getD b (0 : Nat) (0 : UInt8))) &&
                             decide (UInt8.toNat (List.getD b (0 : Nat) (0 : UInt8)) ≤ (3 : Nat)) &&
                            decide ((52 : Int) ≤ (↑(List.length b) : Int)) &&
                           decide
                            (UInt8.ofNat (UInt8.toNat (List.getD b (8 : Nat) (0 : UInt8)) / (16 : Nat)) = (6 : UInt8)) &&
                          (decide (List.getD b (14 : Nat) (0 : UInt8) = (6 : UInt8)) ||
                           decide (List.getD b (14 : Nat) (0 : UInt8) = (17 : UInt8))))
                         (((0 : Int) ≤ (14 : Int) ∧ (14 : Int) < (↑(List.length b) : Int)) ∧
                          ((0 : Int) ≤ (16 : Int) ∧ (16 : Int) ≤ (32 : Int) ∧ (32 : Int) ≤ (↑(List.length b) : Int)) ∧
                           ((0 : Int) ≤ (32 : Int) ∧ (32 : Int) ≤ (48 : Int) ∧ (48 : Int) ≤ (↑(List.length b) : Int)) ∧
                            ((0 : Int) ≤ (48 : Int) ∧ (48 : Int) ≤ (50 : Int) ∧ (50 : Int) ≤ (↑(List.length b) : Int)) ∧
                             ((0 : Int) ≤ (0 : Int) ∧
                               (0 : Int) < (↑(List.length (List.drop (48 : Nat) (List.take (50 : Nat) b))) : Int)) ∧
                              I64
                                ((↑(UInt8.toNat
                                    (List.getD (List.drop (48 : Nat) (List.take (50 : Nat) b)) (0 : Nat) (0 : UInt8))) :
                                  Int) *
                                 (256 : Int)) ∧
                               ((0 : Int) ≤ (1 : Int) ∧
                                 (1 : Int) < (↑(List.length (List.drop (48 : Nat) (List.take (50 : Nat) b))) : Int)) ∧
                                I64
                                  ((↑(UInt8.toNat
                                       (List.getD (List.drop (48 : Nat) (List.take (50 : Nat) b)) (0 : Nat)
                                        (0 : UInt8))) :
                                     Int) *
                                    (256 : Int) +
                                   (↑(UInt8.toNat
                                      (List.getD (List.drop (48 : Nat) (List.take (50 : Nat) b)) (1 : Nat) (0 : UInt8))) :
                                    Int)) ∧
                                 ((0 : Int) ≤ (50 : Int) ∧
                                   (50 : Int) ≤ (52 : Int) ∧ (52 : Int) ≤ (↑(List.length b) : Int)) ∧
                                  ((0 : Int) ≤ (0 : Int) ∧
                                    (0 : Int) < (↑(List.length (List.drop (50 : Nat) (List.take (52 : Nat) b))) : Int)) ∧
                                   I64
                                     ((↑(UInt8.toNat
                                         (List.getD (List.drop (50 : Nat) (List.take (52 : Nat) b)) (0 : Nat)
                                          (0 : UInt8))) :
                                       Int) *
                                      (256 : Int)) ∧
                                    ((0 : Int) ≤ (1 : Int) ∧
                                      (1 : Int) <
                                       (↑(List.length (List.drop (50 : Nat) (List.take (52 : Nat) b))) : Int)) ∧
                                     I64
                                       ((↑(UInt8.toNat
                                            (List.getD (List.drop (50 : Nat) (List.take (52 : Nat) b)) (0 : Nat)
                                             (0 : UInt8))) :
                                          Int) *
                                         (256 : Int) +
                                        (↑(UInt8.toNat
                                           (List.getD (List.drop (50 : Nat) (List.take (52 : Nat) b)) (1 : Nat)
                                            (0 : UInt8))) :
                                         Int)) ∧
                                      K
                                       (AVal.tup
                                        [AVal.agg
                                          [AVal.int IntKind.i64
                                            (↑(UInt8.toNat (List.getD b (14 : Nat) (0 : UInt8))) : Int),
                                           AVal.str (List.drop (16 : Nat) (List.take (32 : Nat) b)),
                                           AVal.str (List.drop (32 : Nat) (List.take (48 : Nat) b)),
                                           AVal.int IntKind.i64
                                            ((↑(UInt8.toNat
                                                 (List.getD (List.drop (48 : Nat) (List.take (50 : Nat) b)) (0 : Nat)
                                                  (0 : UInt8))) :
                                               Int) *
                                              (256 : Int) +
                                             (↑(UInt8.toNat
                                                (List.getD (List.drop (48 : Nat) (List.take (50 : Nat) b)) (1 : Nat)
                                                 (0 : UInt8))) :
                                              Int)),
                                           AVal.int IntKind.i64
                                            ((↑(UInt8.toNat
                                                 (List.getD (List.drop (50 : Nat) (List.take (52 : Nat) b)) (0 : Nat)
                                                  (0 : UInt8))) :
                                               Int) *
                                              (256 : Int) +
                                             (↑(UInt8.toNat
                                                (List.getD (List.drop (50 : Nat) (List.take (52 : Nat) b)) (1 : Nat)
                                                 (0 : UInt8))) :
                                              Int))],
                                         AVal.int IntKind.i64 (0 : Int)])
                                       [])
                         (K
                          (AVal.tup
                           [AVal.agg
                             [AVal.int IntKind.i64 (0 : Int), AVal.str [], AVal.str [], AVal.int IntKind.i64 (0 : Int),
                              AVal.int IntKind.i64 (0 : Int)],
                            AVal.int IntKind.i64 (53 : Int)])
                          []))))
            ((0 : Nat) + List.length b ≤ (4611686018427387904 : Nat) ∧
             List.length ([] ++ b) ≤ (140737488355328 : Nat) ∧
              brP (!decide (sumB (List.take (List.length ([] ++ b)) (List.drop (0 : Nat) ([] ++ b))) = (65535 : Int)))
               (K
                (AVal.tup
                 [AVal.agg
                   [AVal.int IntKind.i64 (0 : Int), AVal.str [], AVal.str [], AVal.int IntKind.i64 (0 : Int),
                    AVal.int IntKind.i64 (0 : Int)],
                  AVal.int IntKind.i64 (52 : Int)])
                [])
               (impP
                 (decide (p = (1 : Int)) && decide ((↑(List.length f) : Int) = (4 : Int)) &&
                    decide ((↑(List.length t) : Int) = (4 : Int)) &&
                   (decide (List.getD b (0 : Nat) (0 : UInt8) = (3 : UInt8)) ||
                    decide (List.getD b (0 : Nat) (0 : UInt8) = (11 : UInt8))) &&
                  decide ((32 : Int) ≤ (↑(List.length b) : Int)))
                 ((0 : Int) ≤ (8 : Int) ∧ (8 : Int) < (↑(List.length b) : Int)) ∧
                impP
                  (decide (p = (1 : Int)) && decide ((↑(List.length f) : Int) = (4 : Int)) &&
                      decide ((↑(List.length t) : Int) = (4 : Int)) &&
                     (decide (List.getD b (0 : Nat) (0 : UInt8) = (3 : UInt8)) ||
                      decide (List.getD b (0 : Nat) (0 : UInt8) = (11 : UInt8))) &&
                    decide ((32 : Int) ≤ (↑(List.length b) : Int)) &&
                   decide (List.getD b (8 : Nat) (0 : UInt8) = (69 : UInt8)))
                  ((0 : Int) ≤ (17 : Int) ∧ (17 : Int) < (↑(List.length b) : Int)) ∧
                 impP
                   (decide (p = (1 : Int)) && decide ((↑(List.length f) : Int) = (4 : Int)) &&
                        decide ((↑(List.length t) : Int) = (4 : Int)) &&
                       (decide (List.getD b (0 : Nat) (0 : UInt8) = (3 : UInt8)) ||
                        decide (List.getD b (0 : Nat) (0 : UInt8) = (11 : UInt8))) &&
                      decide ((32 : Int) ≤ (↑(List.length b) : Int)) &&
                     decide (List.getD b (8 : Nat) (0 : UInt8) = (69 : UInt8)) &&
                    !decide (List.getD b (17 : Nat) (0 : UInt8) = (6 : UInt8)))
                   ((0 : Int) ≤ (17 : Int) ∧ (17 : Int) < (↑(List.length b) : Int)) ∧
                  brP
                   (decide (p = (1 : Int)) && decide ((↑(List.length f) : Int) = (4 : Int)) &&
                        decide ((↑(List.length t) : Int) = (4 : Int)) &&
                       (decide (List.getD b (0 : Nat) (0 : UInt8) = (3 : UInt8)) ||
                        decide (List.getD b (0 : Nat) (0 : UInt8) = (11 : UInt8))) &&
                      decide ((32 : Int) ≤ (↑(List.length b) : Int)) &&
                     decide (List.getD b (8 : Nat) (0 : UInt8) = (69 : UInt8)) &&
                    (decide (List.getD b (17 : Nat) (0 : UInt8) = (6 : UInt8)) ||
                     decide (List.getD b (17 : Nat) (0 : UInt8) = (17 : UInt8))))
                   (((0 : Int) ≤ (17 : Int) ∧ (17 : Int) < (↑(List.length b) : Int)) ∧
                    ((0 : Int) ≤ (20 : Int) ∧ (20 : Int) ≤ (24 : Int) ∧ (24 : Int) ≤ (↑(List.length b) : Int)) ∧
                     ((0 : Int) ≤ (24 : Int) ∧ (24 : Int) ≤ (28 : Int) ∧ (28 : Int) ≤ (↑(List.length b) : Int)) ∧
                      ((0 : Int) ≤ (28 : Int) ∧ (28 : Int) ≤ (30 : Int) ∧ (30 : Int) ≤ (↑(List.length b) : Int)) ∧
                       ((0 : Int) ≤ (0 : Int) ∧
                         (0 : Int) < (↑(List.length (List.drop (28 : Nat) (List.take (30 : Nat) b))) : Int)) ∧
                        I64
                          ((↑(UInt8.toNat
                              (List.getD (List.drop (28 : Nat) (List.take (30 : Nat) b)) (0 : Nat) (0 : UInt8))) :
                            Int) *
                           (256 : Int)) ∧
                         ((0 : Int) ≤ (1 : Int) ∧
                           (1 : Int) < (↑(List.length (List.drop (28 : Nat) (List.take (30 : Nat) b))) : Int)) ∧
                          I64
                            ((↑(UInt8.toNat
                                 (List.getD (List.drop (28 : Nat) (List.take (30 : Nat) b)) (0 : Nat) (0 : UInt8))) :
                               Int) *
                              (256 : Int) +
                             (↑(UInt8.toNat
                                (List.getD (List.drop (28 : Nat) (List.take (30 : Nat) b)) (1 : Nat) (0 : UInt8))) :
                              Int)) ∧
                           ((0 : Int) ≤ (30 : Int) ∧ (30 : Int) ≤ (32 : Int) ∧ (32 : Int) ≤ (↑(List.length b) : Int)) ∧
                            ((0 : Int) ≤ (0 : Int) ∧
                              (0 : Int) < (↑(List.length (List.drop (30 : Nat) (List.take (32 : Nat) b))) : Int)) ∧
                             I64
                               ((↑(UInt8.toNat
                                   (List.getD (List.drop (30 : Nat) (List.take (32 : Nat) b)) (0 : Nat) (0 : UInt8))) :
                                 Int) *
                                (256 : Int)) ∧
                              ((0 : Int) ≤ (1 : Int) ∧
                                (1 : Int) < (↑(List.length (List.drop (30 : Nat) (List.take (32 : Nat) b))) : Int)) ∧
                               I64
                                 ((↑(UInt8.toNat
                                      (List.getD (List.drop (30 : Nat) (List.take (32 : Nat) b)) (0 : Nat) (0 : UInt8))) :
                                    Int) *
                                   (256 : Int) +
                                  (↑(UInt8.toNat
                                     (List.getD (List.drop (30 : Nat) (List.take (32 : Nat) b)) (1 : Nat) (0 : UInt8))) :
                                   Int)) ∧
                                K
                                 (AVal.tup
                                  [AVal.agg
                                    [AVal.int IntKind.i64 (↑(UInt8.toNat (List.getD b (17 : Nat) (0 : UInt8))) : Int),
                                     AVal.str (List.drop (20 : Nat) (List.take (24 : Nat) b)),
                                     AVal.str (List.drop (24 : Nat) (List.take (28 : Nat) b)),
                                     AVal.int IntKind.i64
                                      ((↑(UInt8.toNat
                                           (List.getD (List.drop (28 : Nat) (List.take (30 : Nat) b)) (0 : Nat)
                                            (0 : UInt8))) :
                                         Int) *
                                        (256 : Int) +
                                       (↑(UInt8.toNat
                                          (List.getD (List.drop (28 : Nat) (List.take (30 : Nat) b)) (1 : Nat)
                                           (0 : UInt8))) :
                                        Int)),
                                     AVal.int IntKind.i64
                                      ((↑(UInt8.toNat
                                           (List.getD (List.drop (30 : Nat) (List.take (32 : Nat) b)) (0 : Nat)
                                            (0 : UInt8))) :
                                         Int) *
                                        (256 : Int) +
                                       (↑(UInt8.toNat
                                          (List.getD (List.drop (30 : Nat) (List.take (32 : Nat) b)) (1 : Nat)
                                           (0 : UInt8))) :
                                        Int))],
                                   AVal.int IntKind.i64 (0 : Int)])
                                 [])
                   (impP
                     (decide (p = (58 : Int)) && decide ((↑(List.length f) : Int) = (16 : Int)) &&
                         decide ((↑(List.length t) : Int) = (16 : Int)) &&
                        decide ((1 : Nat) ≤ UInt8.toNat (List.getD b (0 : Nat) (0 : UInt8))) &&
                       decide (UInt8.toNat (List.getD b (0 : Nat) (0 : UInt8)) ≤ (3 : Nat)) &&
                      decide ((52 : Int) ≤ (↑(List.length b) : Int)))
                     ((0 : Int) ≤ (8 : Int) ∧ (8 : Int) < (↑(List.length b) : Int)) ∧
                    impP
                      (decide (p = (58 : Int)) && decide ((↑(List.length f) : Int) = (16 : Int)) &&
                          decide ((↑(List.length t) : Int) = (16 : Int)) &&
                         decide ((1 : Nat) ≤ UInt8.toNat (List.getD b (0 : Nat) (0 : UInt8))) &&
                        decide (UInt8.toNat (List.getD b (0 : Nat) (0 : UInt8)) ≤ (3 : Nat)) &&
                       decide ((52 : Int) ≤ (↑(List.length b) : Int)))
                      ((16 : Nat) ≠ (0 : Nat)) ∧
                     impP
                       (decide (p = (58 : Int)) && decide ((↑(List.length f) : Int) = (16 : Int)) &&
                            decide ((↑(List.length t) : Int) = (16 : Int)) &&
                           decide ((1 : Nat) ≤ UInt8.toNat (List.getD b (0 : Nat) (0 : UInt8))) &&
                          decide (UInt8.toNat (List.getD b (0 : Nat) (0 : UInt8)) ≤ (3 : Nat)) &&
                         decide ((52 : Int) ≤ (↑(List.length b) : Int)) &&
                        decide (UInt8.ofNat (UInt8.toNat (List.getD b (8 : Nat) (0 : UInt8)) / (16 : Nat)) = (6 : UInt8)))
                       ((0 : Int) ≤ (14 : Int) ∧ (14 : Int) < (↑(List.length b) : Int)) ∧
                      impP
                        (decide (p = (58 : Int)) && decide ((↑(List.length f) : Int) = (16 : Int)) &&
                              decide ((↑(List.length t) : Int) = (16 : Int)) &&
                             decide ((1 : Nat) ≤ UInt8.toNat (List.getD b (0 : Nat) (0 : UInt8))) &&
                            decide (UInt8.toNat (List.getD b (0 : Nat) (0 : UInt8)) ≤ (3 : Nat)) &&
                           decide ((52 : Int) ≤ (↑(List.length b) : Int)) &&
                          decide
                           (UInt8.ofNat (UInt8.toNat (List.getD b (8 : Nat) (0 : UInt8)) / (16 : Nat)) = (6 : UInt8)) &&
                         !decide (List.getD b (14 : Nat) (0 : UInt8) = (6 : UInt8)))
                        ((0 : Int) ≤ (14 : Int) ∧ (14 : Int) < (↑(List.length b) : Int)) ∧
                       brP
                        (decide (p = (58 : Int)) && decide ((↑(List.length f) : Int) = (16 : Int)) &&
                              decide ((↑(List.length t) : Int) = (16 : Int)) &&
                             decide ((1 : Nat) ≤ UInt8.toNat (List.getD b (0 : Nat) (0 : UInt8))) &&
                            decide (UInt8.toNat (List.getD b (0 : Nat) (0 : UInt8)) ≤ (3 : Nat)) &&
                           decide ((52 : Int) ≤ (↑(List.length b) : Int)) &&
                          decide
                           (UInt8.ofNat (UInt8.toNat (List.getD b (8 : Nat) (0 : UInt8)) / (16 : Nat)) = (6 : UInt8)) &&
                         (decide (List.getD b (14 : Nat) (0 : UInt8) = (6 : UInt8)) ||
                          decide (List.getD b (14 : Nat) (0 : UInt8) = (17 : UInt8))))
                        (((0 : Int) ≤ (14 : Int) ∧ (14 : Int) < (↑(List.length b) : Int)) ∧
                         ((0 : Int) ≤ (16 : Int) ∧ (16 : Int) ≤ (32 : Int) ∧ (32 : Int) ≤ (↑(List.length b) : Int)) ∧
                          ((0 : Int) ≤ (32 : Int) ∧ (32 : Int) ≤ (48 : Int) ∧ (48 : Int) ≤ (↑(List.length b) : Int)) ∧
                           ((0 : Int) ≤ (48 : Int) ∧ (48 : Int) ≤ (50 : Int) ∧ (50 : Int) ≤ (↑(List.length b) : Int)) ∧
                            ((0 : Int) ≤ (0 : Int) ∧
                              (0 : Int) < (↑(List.length (List.drop (48 : Nat) (List.take (50 : Nat) b))) : Int)) ∧
                             I64
                               ((↑(UInt8.toNat
                                   (List.getD (List.drop (48 : Nat) (List.take (50 : Nat) b)) (0 : Nat) (0 : UInt8))) :
                                 Int) *
                                (256 : Int)) ∧
                              ((0 : Int) ≤ (1 : Int) ∧
                                (1 : Int) < (↑(List.length (List.drop (48 : Nat) (List.take (50 : Nat) b))) : Int)) ∧
                               I64
                                 ((↑(UInt8.toNat
                                      (List.getD (List.drop (48 : Nat) (List.take (50 : Nat) b)) (0 : Nat) (0 : UInt8))) :
                                    Int) *
                                   (256 : Int) +
                                  (↑(UInt8.toNat
                                     (List.getD (List.drop (48 : Nat) (List.take (50 : Nat) b)) (1 : Nat) (0 : UInt8))) :
                                   Int)) ∧
                                ((0 : Int) ≤ (50 : Int) ∧
                                  (50 : Int) ≤ (52 : Int) ∧ (52 : Int) ≤ (↑(List.length b) : Int)) ∧
                                 ((0 : Int) ≤ (0 : Int) ∧
                                   (0 : Int) < (↑(List.length (List.drop (50 : Nat) (List.take (52 : Nat) b))) : Int)) ∧
                                  I64
                                    ((↑(UInt8.toNat
                                        (List.getD (List.drop (50 : Nat) (List.take (52 : Nat) b)) (0 : Nat)
                                         (0 : UInt8))) :
                                      Int) *
                                     (256 : Int)) ∧
                                   ((0 : Int) ≤ (1 : Int) ∧
                                     (1 : Int) < (↑(List.length (List.drop (50 : Nat) (List.take (52 : Nat) b))) : Int)) ∧
                                    I64
                                      ((↑(UInt8.toNat
                                           (List.getD (List.drop (50 : Nat) (List.take (52 : Nat) b)) (0 : Nat)
                                            (0 : UInt8))) :
                                         Int) *
                                        (256 : Int) +
                                       (↑(UInt8.toNat
                                          (List.getD (List.drop (50 : Nat) (List.take (52 : Nat) b)) (1 : Nat)
                                           (0 : UInt8))) :
                                        Int)) ∧
                                     K
                                      (AVal.tup
                                       [AVal.agg
                                         [AVal.int IntKind.i64
                                           (↑(UInt8.toNat (List.getD b (14 : Nat) (0 : UInt8))) : Int),
                                          AVal.str (List.drop (16 : Nat) (List.take (32 : Nat) b)),
                                          AVal.str (List.drop (32 : Nat) (List.take (48 : Nat) b)),
                                          AVal.int IntKind.i64
                                           ((↑(UInt8.toNat
                                                (List.getD (List.drop (48 : Nat) (List.take (50 : Nat) b)) (0 : Nat)
                                                 (0 : UInt8))) :
                                              Int) *
                                             (256 : Int) +
                                            (↑(UInt8.toNat
                                               (List.getD (List.drop (48 : Nat) (List.take (50 : Nat) b)) (1 : Nat)
                                                (0 : UInt8))) :
                                             Int)),
                                          AVal.int IntKind.i64
                                           ((↑(UInt8.toNat
                                                (List.getD (List.drop (50 : Nat) (List.take (52 : Nat) b)) (0 : Nat)
                                                 (0 : UInt8))) :
                                              Int) *
                                             (256 : Int) +
                                            (↑(UInt8.toNat
                                               (List.getD (List.drop (50 : Nat) (List.take (52 : Nat) b)) (1 : Nat)
                                                (0 : UInt8))) :
                                             Int))],
                                        AVal.int IntKind.i64 (0 : Int)])
                                      [])
                        (K
                         (AVal.tup
                          [AVal.agg
                            [AVal.int IntKind.i64 (0 : Int), AVal.str [], AVal.str [], AVal.int IntKind.i64 (0 : Int),
                             AVal.int IntKind.i64 (0 : Int)],
                           AVal.int IntKind.i64 (53 : Int)])
                         [])))))
           (impP
             (decide (p = (1 : Int)) && decide ((↑(List.length f) : Int) = (4 : Int)) &&
                decide ((↑(List.length t) : Int) = (4 : Int)) &&
               (decide (List.getD b (0 : Nat) (0 : UInt8) = (3 : UInt8)) ||
                decide (List.getD b (0 : Nat) (0 : UInt8) = (11 : UInt8))) &&
              decide ((32 : Int) ≤ (↑(List.length b) : Int)))
             ((0 : Int) ≤ (8 : Int) ∧ (8 : Int) < (↑(List.length b) : Int)) ∧
            impP
              (decide (p = (1 : Int)) && decide ((↑(List.length f) : Int) = (4 : Int)) &&
                  decide ((↑(List.length t) : Int) = (4 : Int)) &&
                 (decide (List.getD b (0 : Nat) (0 : UInt8) = (3 : UInt8)) ||
                  decide (List.getD b (0 : Nat) (0 : UInt8) = (11 : UInt8))) &&
                decide ((32 : Int) ≤ (↑(List.length b) : Int)) &&
               decide (List.getD b (8 : Nat) (0 : UInt8) = (69 : UInt8)))
              ((0 : Int) ≤ (17 : Int) ∧ (17 : Int) < (↑(List.length b) : Int)) ∧
             impP
               (decide (p = (1 : Int)) && decide ((↑(List.length f) : Int) = (4 : Int)) &&
                    decide ((↑(List.length t) : Int) = (4 : Int)) &&
                   (decide (List.getD b (0 : Nat) (0 : UInt8) = (3 : UInt8)) ||
                    decide (List.getD b (0 : Nat) (0 : UInt8) = (11 : UInt8))) &&
                  decide ((32 : Int) ≤ (↑(List.length b) : Int)) &&
                 decide (List.getD b (8 : Nat) (0 : UInt8) = (69 : UInt8)) &&
                !decide (List.getD b (17 : Nat) (0 : UInt8) = (6 : UInt8)))
               ((0 : Int) ≤ (17 : Int) ∧ (17 : Int) < (↑(List.length b) : Int)) ∧
              brP
               (decide (p = (1 : Int)) && decide ((↑(List.length f) : Int) = (4 : Int)) &&
                    decide ((↑(List.length t) : Int) = (4 : Int)) &&
                   (decide (List.getD b (0 : Nat) (0 : UInt8) = (3 : UInt8)) ||
                    decide (List.getD b (0 : Nat) (0 : UInt8) = (11 : UInt8))) &&
                  decide ((32 : Int) ≤ (↑(List.length b) : Int)) &&
                 decide (List.getD b (8 : Nat) (0 : UInt8) = (69 : UInt8)) &&
                (decide (List.getD b (17 : Nat) (0 : UInt8) = (6 : UInt8)) ||
                 decide (List.getD b (17 : Nat) (0 : UInt8) = (17 : UInt8))))
               (((0 : Int) ≤ (17 : Int) ∧ (17 : Int) < (↑(List.length b) : Int)) ∧
                ((0 : Int) ≤ (20 : Int) ∧ (20 : Int) ≤ (24 : Int) ∧ (24 : Int) ≤ (↑(List.length b) : Int)) ∧
                 ((0 : Int) ≤ (24 : Int) ∧ (24 : Int) ≤ (28 : Int) ∧ (28 : Int) ≤ (↑(List.length b) : Int)) ∧
                  ((0 : Int) ≤ (28 : Int) ∧ (28 : Int) ≤ (30 : Int) ∧ (30 : Int) ≤ (↑(List.length b) : Int)) ∧
                   ((0 : Int) ≤ (0 : Int) ∧
                     (0 : Int) < (↑(List.length (List.drop (28 : Nat) (List.take (30 : Nat) b))) : Int)) ∧
                    I64
                      ((↑(UInt8.toNat (List.getD (List.drop (28 : Nat) (List.take (30 : Nat) b)) (0 : Nat) (0 : UInt8))) :
                        Int) *
                       (256 : Int)) ∧
                     ((0 : Int) ≤ (1 : Int) ∧
                       (1 : Int) < (↑(List.length (List.drop (28 : Nat) (List.take (30 : Nat) b))) : Int)) ∧
                      I64
                        ((↑(UInt8.toNat
                             (List.getD (List.drop (28 : Nat) (List.take (30 : Nat) b)) (0 : Nat) (0 : UInt8))) :
                           Int) *
                          (256 : Int) +
                         (↑(UInt8.toNat
                            (List.getD (List.drop (28 : Nat) (List.take (30 : Nat) b)) (1 : Nat) (0 : UInt8))) :
                          Int)) ∧
                       ((0 : Int) ≤ (30 : Int) ∧ (30 : Int) ≤ (32 : Int) ∧ (32 : Int) ≤ (↑(List.length b) : Int)) ∧
                        ((0 : Int) ≤ (0 : Int) ∧
                          (0 : Int) < (↑(List.length (List.drop (30 : Nat) (List.take (32 : Nat) b))) : Int)) ∧
                         I64
                           ((↑(UInt8.toNat
                               (List.getD (List.drop (30 : Nat) (List.take (32 : Nat) b)) (0 : Nat) (0 : UInt8))) :
                             Int) *
                            (256 : Int)) ∧
                          ((0 : Int) ≤ (1 : Int) ∧
                            (1 : Int) < (↑(List.length (List.drop (30 : Nat) (List.take (32 : Nat) b))) : Int)) ∧
                           I64
                             ((↑(UInt8.toNat
                                  (List.getD (List.drop (30 : Nat) (List.take (32 : Nat) b)) (0 : Nat) (0 : UInt8))) :
                                Int) *
                               (256 : Int) +
                              (↑(UInt8.toNat
                                 (List.getD (List.drop (30 : Nat) (List.take (32 : Nat) b)) (1 : Nat) (0 : UInt8))) :
                               Int)) ∧
                            K
                             (AVal.tup
                              [AVal.agg
                                [AVal.int IntKind.i64 (↑(UInt8.toNat (List.getD b (17 : Nat) (0 : UInt8))) : Int),
                                 AVal.str (List.drop (20 : Nat) (List.take (24 : Nat) b)),
                                 AVal.str (List.drop (24 : Nat) (List.take (28 : Nat) b)),
                                 AVal.int IntKind.i64
                                  ((↑(UInt8.toNat
                                       (List.getD (List.drop (28 : Nat) (List.take (30 : Nat) b)) (0 : Nat)
                                        (0 : UInt8))) :
                                     Int) *
                                    (256 : Int) +
                                   (↑(UInt8.toNat
                                      (List.getD (List.drop (28 : Nat) (List.take (30 : Nat) b)) (1 : Nat) (0 : UInt8))) :
                                    Int)),
                                 AVal.int IntKind.i64
                                  ((↑(UInt8.toNat
                                       (List.getD (List.drop (30 : Nat) (List.take (32 : Nat) b)) (0 : Nat)
                                        (0 : UInt8))) :
                                     Int) *
                                    (256 : Int) +
                                   (↑(UInt8.toNat
                                      (List.getD (List.drop (30 : Nat) (List.take (32 : Nat) b)) (1 : Nat) (0 : UInt8))) :
                                    Int))],
                               AVal.int IntKind.i64 (0 : Int)])
                             [])
               (impP
                 (decide (p = (58 : Int)) && decide ((↑(List.length f) : Int) = (16 : Int)) &&
                     decide ((↑(List.length t) : Int) = (16 : Int)) &&
                    decide ((1 : Nat) ≤ UInt8.toNat (List.getD b (0 : Nat) (0 : UInt8))) &&
                   decide (UInt8.toNat (List.getD b (0 : Nat) (0 : UInt8)) ≤ (3 : Nat)) &&
                  decide ((52 : Int) ≤ (↑(List.length b) : Int)))
                 ((0 : Int) ≤ (8 : Int) ∧ (8 : Int) < (↑(List.length b) : Int)) ∧
                impP
                  (decide (p = (58 : Int)) && decide ((↑(List.length f) : Int) = (16 : Int)) &&
                      decide ((↑(List.length t) : Int) = (16 : Int)) &&
                     decide ((1 : Nat) ≤ UInt8.toNat (List.getD b (0 : Nat) (0 : UInt8))) &&
                    decide (UInt8.toNat (List.getD b (0 : Nat) (0 : UInt8)) ≤ (3 : Nat)) &&
                   decide ((52 : Int) ≤ (↑(List.length b) : Int)))
                  ((16 : Nat) ≠ (0 : Nat)) ∧
                 impP
                   (decide (p = (58 : Int)) && decide ((↑(List.length f) : Int) = (16 : Int)) &&
                        decide ((↑(List.length t) : Int) = (16 : Int)) &&
                       decide ((1 : Nat) ≤ UInt8.toNat (List.getD b (0 : Nat) (0 : UInt8))) &&
                      decide (UInt8.toNat (List.getD b (0 : Nat) (0 : UInt8)) ≤ (3 : Nat)) &&
                     decide ((52 : Int) ≤ (↑(List.length b) : Int)) &&
                    decide (UInt8.ofNat (UInt8.toNat (List.getD b (8 : Nat) (0 : UInt8)) / (16 : Nat)) = (6 : UInt8)))
                   ((0 : Int) ≤ (14 : Int) ∧ (14 : Int) < (↑(List.length b) : Int)) ∧
                  impP
                    (decide (p = (58 : Int)) && decide ((↑(List.length f) : Int) = (16 : Int)) &&
                          decide ((↑(List.length t) : Int) = (16 : Int)) &&
                         decide ((1 : Nat) ≤ UInt8.toNat (List.getD b (0 : Nat) (0 : UInt8))) &&
                        decide (UInt8.toNat (List.getD b (0 : Nat) (0 : UInt8)) ≤ (3 : Nat)) &&
                       decide ((52 : Int) ≤ (↑(List.length b) : Int)) &&
                      decide (UInt8.ofNat (UInt8.toNat (List.getD b (8 : Nat) (0 : UInt8)) / (16 : Nat)) = (6 : UInt8)) &&
                     !decide (List.getD b (14 : Nat) (0 : UInt8) = (6 : UInt8)))
                    ((0 : Int) ≤ (14 : Int) ∧ (14 : Int) < (↑(List.length b) : Int)) ∧
                   brP
                    (decide (p = (58 : Int)) && decide ((↑(List.length f) : Int) = (16 : Int)) &&
                          decide ((↑(List.length t) : Int) = (16 : Int)) &&
                         decide ((1 : Nat) ≤ UInt8.toNat (List.getD b (0 : Nat) (0 : UInt8))) &&
                        decide (UInt8.toNat (List.getD b (0 : Nat) (0 : UInt8)) ≤ (3 : Nat)) &&
                       decide ((52 : Int) ≤ (↑(List.length b) : Int)) &&
                      decide (UInt8.ofNat (UInt8.toNat (List.getD b (8 : Nat) (0 : UInt8)) / (16 : Nat)) = (6 : UInt8)) &&
                     (decide (List.getD b (14 : Nat) (0 : UInt8) = (6 : UInt8)) ||
                      decide (List.getD b (14 : Nat) (0 : UInt8) = (17 : UInt8))))
                    (((0 : Int) ≤ (14 : Int) ∧ (14 : Int) < (↑(List.length b) : Int)) ∧
                     ((0 : Int) ≤ (16 : Int) ∧ (16 : Int) ≤ (32 : Int) ∧ (32 : Int) ≤ (↑(List.length b) : Int)) ∧
                      ((0 : Int) ≤ (32 : Int) ∧ (32 : Int) ≤ (48 : Int) ∧ (48 : Int) ≤ (↑(List.length b) : Int)) ∧
                       ((0 : Int) ≤ (48 : Int) ∧ (48 : Int) ≤ (50 : Int) ∧ (50 : Int) ≤ (↑(List.length b) : Int)) ∧
                        ((0 : Int) ≤ (0 : Int) ∧
                          (0 : Int) < (↑(List.length (List.drop (48 : Nat) (List.take (50 : Nat) b))) : Int)) ∧
                         I64
                           ((↑(UInt8.toNat
                               (List.getD (List.drop (48 : Nat) (List.take (50 : Nat) b)) (0 : Nat) (0 : UInt8))) :
                             Int) *
                            (256 : Int)) ∧
                          ((0 : Int) ≤ (1 : Int) ∧
                            (1 : Int) < (↑(List.length (List.drop (48 : Nat) (List.take (50 : Nat) b))) : Int)) ∧
                           I64
                             ((↑(UInt8.toNat
                                  (List.getD (List.drop (48 : Nat) (List.take (50 : Nat) b)) (0 : Nat) (0 : UInt8))) :
                                Int) *
                               (256 : Int) +
                              (↑(UInt8.toNat
                                 (List.getD (List.drop (48 : Nat) (List.take (50 : Nat) b)) (1 : Nat) (0 : UInt8))) :
                               Int)) ∧
                            ((0 : Int) ≤ (50 : Int) ∧ (50 : Int) ≤ (52 : Int) ∧ (52 : Int) ≤ (↑(List.length b) : Int)) ∧
                             ((0 : Int) ≤ (0 : Int) ∧
                               (0 : Int) < (↑(List.length (List.drop (50 : Nat) (List.take (52 : Nat) b))) : Int)) ∧
                              I64
                                ((↑(UInt8.toNat
                                    (List.getD (List.drop (50 : Nat) (List.take (52 : Nat) b)) (0 : Nat) (0 : UInt8))) :
                                  Int) *
                                 (256 : Int)) ∧
                               ((0 : Int) ≤ (1 : Int) ∧
                                 (1 : Int) < (↑(List.length (List.drop (50 : Nat) (List.take (52 : Nat) b))) : Int)) ∧
                                I64
                                  ((↑(UInt8.toNat
                                       (List.getD (List.drop (50 : Nat) (List.take (52 : Nat) b)) (0 : Nat)
                                        (0 : UInt8))) :
                                     Int) *
                                    (256 : Int) +
                                   (↑(UInt8.toNat
                                      (List.getD (List.drop (50 : Nat) (List.take (52 : Nat) b)) (1 : Nat) (0 : UInt8))) :
                                    Int)) ∧
                                 K
                                  (AVal.tup
                                   [AVal.agg
                                     [AVal.int IntKind.i64 (↑(UInt8.toNat (List.getD b (14 : Nat) (0 : UInt8))) : Int),
                                      AVal.str (List.drop (16 : Nat) (List.take (32 : Nat) b)),
                                      AVal.str (List.drop (32 : Nat) (List.take (48 : Nat) b)),
                                      AVal.int IntKind.i64
                                       ((↑(UInt8.toNat
                                            (List.getD (List.drop (48 : Nat) (List.take (50 : Nat) b)) (0 : Nat)
                                             (0 : UInt8))) :
                                          Int) *
                                         (256 : Int) +
                                        (↑(UInt8.toNat
                                           (List.getD (List.drop (48 : Nat) (List.take (50 : Nat) b)) (1 : Nat)
                                            (0 : UInt8))) :
                                         Int)),
                                      AVal.int IntKind.i64
                                       ((↑(UInt8.toNat
                                            (List.getD (List.drop (50 : Nat) (List.take (52 : Nat) b)) (0 : Nat)
                                             (0 : UInt8))) :
                                          Int) *
                                         (256 : Int) +
                                        (↑(UInt8.toNat
                                           (List.getD (List.drop (50 : Nat) (List.take (52 : Nat) b)) (1 : Nat)
                                            (0 : UInt8))) :
                                         Int))],
                                    AVal.int IntKind.i64 (0 : Int)])
                                  [])
                    (K
                     (AVal.tup
                      [AVal.agg
                        [AVal.int IntKind.i64 (0 : Int), AVal.str [], AVal.str [], AVal.int IntKind.i64 (0 : Int),
                         AVal.int IntKind.i64 (0 : Int)],
                       AVal.int IntKind.i64 (53 : Int)])
                     []))))))) := by kernel_rfl
set_option maxHeartbeats 8000000 in
theorem outriderref05_Quoted_p : ∀ args H K, ptFlRow ptQuoted args H K → fnP Try.prog Tpt ann_outriderref05_Quoted Try.f16 args H K := by
  intro args H K h
  unfold ptFlRow at h
  split at h
  · rename_i f t p q b
    rw [ref05_Quoted_eq]
    obtain ⟨hl, hK⟩ := h
    have x0 := (b.getD 0 0).toNat_lt
    have x8 := (b.getD 8 0).toNat_lt
    have x14 := (b.getD 14 0).toNat_lt
    have x17 := (b.getD 17 0).toNat_lt
    simp only [or_w16, div2, div3, add_w16, and255, b8_mod, List.set_cons_zero, List.set_cons_succ, andNot_4000, getD_drop, getD_take, b8_byte, b8_toNatN, UInt8.toNat_ofNat', UInt8.toNat_and, nat_mask4, nat_mask6, nat_240, u8_eq_iff, UInt8.reduceToNat, Int.reduceLT, List.take_succ_cons, List.take_zero, List.drop_zero, List.flatten_cons, List.flatten_nil, List.append_nil, List.nil_append, List.take_length, Nat.mul_one, Nat.zero_add, Nat.reduceAdd, Nat.reduceLT]
    unfold ptQuoted pseudoL at hK
    have hE := ptErrs_iff ⟨f, t, p, q, b⟩
    simp only at hE
    by_cases hb : (b.length : Int) = 0
    · have e : ptErrs ⟨f, t, p, q, b⟩ = false := by rw [Bool.eq_false_iff, Ne, hE]; omega
      simp only [e, if_true, noFl] at hK
      exact brP_d (fun _ => hK) (fun h => absurd hb h)
    refine brP_d (fun h => absurd h hb) (fun _ => ?_)
    have hi : ((0 : Int) ≤ 0 ∧ (0 : Int) < (b.length : Int)) = True := eq_true (by omega)
    have hi2 : ∀ g, impP g True = True := fun g => eq_true (fun _ => trivial)
    simp only [hi, hi2, true_and]
    have e0 : impP (decide (p = 1)) True = True := hi2 _
    cases hF4 : (decide (p = (1 : Int)) && decide ((↑(List.length f) : Int) = (4 : Int)) && decide ((↑(List.length t) : Int) = (4 : Int)) && (decide ((List.getD b 0 0).toNat = 3) || decide ((List.getD b 0 0).toNat = 11)))
    · cases hF6 : (decide (p = (58 : Int)) && decide ((↑(List.length f) : Int) = (16 : Int)) && decide ((↑(List.length t) : Int) = (16 : Int)) && decide (1 ≤ (List.getD b 0 0).toNat) && decide ((List.getD b 0 0).toNat ≤ 3))
      · simp only [Bool.and_eq_true, Bool.or_eq_true, Bool.and_eq_false_iff, Bool.or_eq_false_iff, decide_eq_true_eq, decide_eq_false_iff_not, Bool.not_eq_true', Bool.not_eq_false', Bool.not_true, Bool.not_false, Bool.true_and, Bool.and_true, Bool.false_or, Bool.or_false, beq_iff_eq, beq_eq_false_iff_ne, ne_eq] at hF4 hF6
        have e : ptErrs ⟨f, t, p, q, b⟩ = false := by rw [Bool.eq_false_iff, Ne, hE]; omega
        simp only [e, if_true, noFl] at hK
        simp only [brP_t, brP_f, impP_t, impP_f, Bool.true_and, Bool.and_true, Bool.false_and, Bool.and_false, Bool.true_or, Bool.or_true, Bool.false_or, Bool.or_false, Bool.not_true, Bool.not_false, decide_true, decide_false, true_and, and_true]
        exact hK
      · simp only [Bool.and_eq_true, Bool.or_eq_true, Bool.and_eq_false_iff, Bool.or_eq_false_iff, decide_eq_true_eq, decide_eq_false_iff_not, Bool.not_eq_true', Bool.not_eq_false', Bool.not_true, Bool.not_false, Bool.true_and, Bool.and_true, Bool.false_or, Bool.or_false, beq_iff_eq, beq_eq_false_iff_ne, ne_eq] at hF4 hF6
        have e : ptErrs ⟨f, t, p, q, b⟩ = true := by rw [hE]; omega
        have hf4 : ¬ f.length = 4 := by omega
        simp only [e, Bool.true_eq_false, if_false, noFl, hf4] at hK
        simp only [brP_t, brP_f, impP_t, impP_f, Bool.true_and, Bool.and_true, Bool.false_and, Bool.and_false, Bool.true_or, Bool.or_true, Bool.false_or, Bool.or_false, Bool.not_true, Bool.not_false, decide_true, decide_false, true_and, and_true]
        have hp : p = 58 := by omega
        subst hp
        repeat' first
          | (refine And.intro (by first | first | omega | with_reducible exact i64_x256 _ | with_reducible exact i64_w16 _ _ | with_reducible exact i64_sum _ | (repeat' first | with_reducible exact i64_x256 _ | with_reducible exact i64_w16 _ _ | with_reducible exact i64_sum _ | with_reducible apply And.intro) <;> first | omega | (simp only [I64]; omega) | (simp; omega) | (simp; done) | (simp [I64]; omega) | (with_reducible refine impP_i (fun hg => ?_) <;> (try simp only [Bool.and_eq_true, Bool.or_eq_true, Bool.and_eq_false_iff, Bool.or_eq_false_iff, decide_eq_true_eq, decide_eq_false_iff_not, Bool.not_eq_true', Bool.not_eq_false', Bool.not_true, Bool.not_false, Bool.true_and, Bool.and_true, Bool.false_or, Bool.or_false, beq_iff_eq, beq_eq_false_iff_ne, ne_eq] at hg) <;> (first | omega | with_reducible exact i64_x256 _ | with_reducible exact i64_w16 _ _ | with_reducible exact i64_sum _ | (repeat' first | with_reducible exact i64_x256 _ | with_reducible exact i64_w16 _ _ | with_reducible exact i64_sum _ | with_reducible apply And.intro) <;> first | omega | (simp only [I64]; omega) | (simp; omega) | (simp; done) | (simp [I64]; omega)))) ?_)
          | (refine brP_d (fun h => ?_) (fun h => ?_))
          | (refine optP_i (fun x hx => ?_) (fun hx => ?_) <;> (try have hxl := pseudo_len hx))
          | (refine brP_nd (fun h => ?_) (fun h => ?_))
          | (refine brP_i (fun h => ?_) (fun h => ?_) <;> (try simp only [Bool.and_eq_true, Bool.or_eq_true, Bool.and_eq_false_iff, Bool.or_eq_false_iff, decide_eq_true_eq, decide_eq_false_iff_not, Bool.not_eq_true', Bool.not_eq_false', Bool.not_true, Bool.not_false, Bool.true_and, Bool.and_true, Bool.false_or, Bool.or_false, beq_iff_eq, beq_eq_false_iff_ne, ne_eq] at h))
        all_goals try simp only [hx, Option.getD_some, Option.getD_none, List.nil_append] at hK
        all_goals repeat' split at hK
        all_goals first
          | exact hK
          | (exfalso; omega)
          | (exfalso; simp only [pseudo] at hx; split at hx <;> first | omega | cases hx)
    · have hF6 : (decide (p = (58 : Int)) && decide ((↑(List.length f) : Int) = (16 : Int)) && decide ((↑(List.length t) : Int) = (16 : Int)) && decide (1 ≤ (List.getD b 0 0).toNat) && decide ((List.getD b 0 0).toNat ≤ 3)) = false := by
        simp only [Bool.and_eq_true, Bool.or_eq_true, Bool.and_eq_false_iff, Bool.or_eq_false_iff, decide_eq_true_eq, decide_eq_false_iff_not, Bool.not_eq_true', Bool.not_eq_false', Bool.not_true, Bool.not_false, Bool.true_and, Bool.and_true, Bool.false_or, Bool.or_false, beq_iff_eq, beq_eq_false_iff_ne, ne_eq] at hF4 ⊢; omega
      simp only [hF6, brP_t, brP_f, impP_t, impP_f, Bool.true_and, Bool.and_true, Bool.false_and, Bool.and_false, Bool.true_or, Bool.or_true, Bool.false_or, Bool.or_false, Bool.not_true, Bool.not_false, decide_true, decide_false, true_and, and_true]
      simp only [Bool.and_eq_true, Bool.or_eq_true, Bool.and_eq_false_iff, Bool.or_eq_false_iff, decide_eq_true_eq, decide_eq_false_iff_not, Bool.not_eq_true', Bool.not_eq_false', Bool.not_true, Bool.not_false, Bool.true_and, Bool.and_true, Bool.false_or, Bool.or_false, beq_iff_eq, beq_eq_false_iff_ne, ne_eq] at hF4
      have e : ptErrs ⟨f, t, p, q, b⟩ = true := by rw [hE]; omega
      have hf4 : f.length = 4 := by omega
      simp only [e, Bool.true_eq_false, if_false, if_true, noFl, hf4] at hK
      repeat' first
        | (refine And.intro (by first | first | omega | with_reducible exact i64_x256 _ | with_reducible exact i64_w16 _ _ | with_reducible exact i64_sum _ | (repeat' first | with_reducible exact i64_x256 _ | with_reducible exact i64_w16 _ _ | with_reducible exact i64_sum _ | with_reducible apply And.intro) <;> first | omega | (simp only [I64]; omega) | (simp; omega) | (simp; done) | (simp [I64]; omega) | (with_reducible refine impP_i (fun hg => ?_) <;> (try simp only [Bool.and_eq_true, Bool.or_eq_true, Bool.and_eq_false_iff, Bool.or_eq_false_iff, decide_eq_true_eq, decide_eq_false_iff_not, Bool.not_eq_true', Bool.not_eq_false', Bool.not_true, Bool.not_false, Bool.true_and, Bool.and_true, Bool.false_or, Bool.or_false, beq_iff_eq, beq_eq_false_iff_ne, ne_eq] at hg) <;> (first | omega | with_reducible exact i64_x256 _ | with_reducible exact i64_w16 _ _ | with_reducible exact i64_sum _ | (repeat' first | with_reducible exact i64_x256 _ | with_reducible exact i64_w16 _ _ | with_reducible exact i64_sum _ | with_reducible apply And.intro) <;> first | omega | (simp only [I64]; omega) | (simp; omega) | (simp; done) | (simp [I64]; omega)))) ?_)
        | (refine brP_d (fun h => ?_) (fun h => ?_))
        | (refine optP_i (fun x hx => ?_) (fun hx => ?_) <;> (try have hxl := pseudo_len hx))
        | (refine brP_nd (fun h => ?_) (fun h => ?_))
        | (refine brP_i (fun h => ?_) (fun h => ?_) <;> (try simp only [Bool.and_eq_true, Bool.or_eq_true, Bool.and_eq_false_iff, Bool.or_eq_false_iff, decide_eq_true_eq, decide_eq_false_iff_not, Bool.not_eq_true', Bool.not_eq_false', Bool.not_true, Bool.not_false, Bool.true_and, Bool.and_true, Bool.false_or, Bool.or_false, beq_iff_eq, beq_eq_false_iff_ne, ne_eq] at h))
      all_goals repeat' split at hK
      all_goals first
        | exact hK
        | (exfalso; omega)
  · exact h.elim
def Tpr1 : Specs := ext Tpt 16 (ptFlRow ptQuoted)
theorem Tpr1_sound : TSound Try.prog Tpr1 := ext_sound Tpt_sound (row_of Tpt_sound mixed Try.func16 (by decide +kernel) outriderref05_Quoted_p)
def ann_outriderref05_Write : Nat → List Nat × Nat × List (List Nat)
  | 8 => ([], 12, [[], [0], [0, 1], [], [3], [0, 1, 2, 3, 4], [0, 1, 2, 3, 4, 5], [], [7], [7, 8], [0, 1, 2, 3, 4, 5, 7, 8, 9], [0, 1, 2, 3, 4, 5, 6, 7, 8, 9, 10]])
  | 11 => ([], 15, [[], [0], [0, 1], [], [3], [0, 1, 2, 3, 4], [0, 1, 2, 3, 4, 5], [0, 1, 2, 3, 4, 5, 6], [], [8], [8, 9], [8, 9, 10], [8, 9, 10, 11], [0, 1, 2, 3, 4, 5, 6, 7, 8, 9, 10, 11, 12], [0, 1, 2, 3, 4, 5, 6, 7, 8, 9, 10, 11, 12, 13]])
  | 2000001 => ([], 9, [[], [0], [0, 1], [0, 1, 2], [0, 1, 2, 3], [0, 1, 2, 3, 4], [0, 1, 2, 3, 4, 5], [0, 1, 2, 3, 4, 5, 6]])
  | 2000003 => ([], 34, [[], [0], [0, 1], [0, 1, 2], [0, 1, 2, 3], [0, 1, 2, 3, 4], [0, 1, 2, 3, 4, 5], [0, 1, 2, 3, 4, 5, 6], [0, 1, 2, 3, 4, 5, 6, 7], [0, 1, 2, 3, 4, 5, 6, 7, 8], [0, 1, 2, 3, 4, 5, 6, 7, 8, 9], [0, 1, 2, 3, 4, 5, 6, 7, 8, 9, 10], [0, 1, 2, 3, 4, 5, 6, 7, 8, 9, 10, 11], [0, 1, 2, 3, 4, 5, 6, 7, 8, 9, 10, 11, 12], [0, 1, 2, 3, 4, 5, 6, 7, 8, 9, 10, 11, 12, 13], [0, 1, 2, 3, 4, 5, 6, 7, 8, 9, 10, 11, 12, 13, 14], [0, 1, 2, 3, 4, 5, 6, 7, 8, 9, 10, 11, 12, 13, 14, 15], [0, 1, 2, 3, 4, 5, 6, 7, 8, 9, 10, 11, 12, 13, 14, 15, 16], [0, 1, 2, 3, 4, 5, 6, 7, 8, 9, 10, 11, 12, 13, 14, 15, 16, 17], [0, 1, 2, 3, 4, 5, 6, 7, 8, 9, 10, 11, 12, 13, 14, 15, 16, 17, 18], [0, 1, 2, 3, 4, 5, 6, 7, 8, 9, 10, 11, 12, 13, 14, 15, 16, 17, 18, 19], [0, 1, 2, 3, 4, 5, 6, 7, 8, 9, 10, 11, 12, 13, 14, 15, 16, 17, 18, 19, 20], [0, 1, 2, 3, 4, 5, 6, 7, 8, 9, 10, 11, 12, 13, 14, 15, 16, 17, 18, 19, 20, 21], [0, 1, 2, 3, 4, 5, 6, 7, 8, 9, 10, 11, 12, 13, 14, 15, 16, 17, 18, 19, 20, 21, 22], [0, 1, 2, 3, 4, 5, 6, 7, 8, 9, 10, 11, 12, 13, 14, 15, 16, 17, 18, 19, 20, 21, 22, 23], [0, 1, 2, 3, 4, 5, 6, 7, 8, 9, 10, 11, 12, 13, 14, 15, 16, 17, 18, 19, 20, 21, 22, 23, 24], [0, 1, 2, 3, 4, 5, 6, 7, 8, 9, 10, 11, 12, 13, 14, 15, 16, 17, 18, 19, 20, 21, 22, 23, 24, 25], [0, 1, 2, 3, 4, 5, 6, 7, 8, 9, 10, 11, 12, 13, 14, 15, 16, 17, 18, 19, 20, 21, 22, 23, 24, 25, 26], [0, 1, 2, 3, 4, 5, 6, 7, 8, 9, 10, 11, 12, 13, 14, 15, 16, 17, 18, 19, 20, 21, 22, 23, 24, 25, 26, 27], [0, 1, 2, 3, 4, 5, 6, 7, 8, 9, 10, 11, 12, 13, 14, 15, 16, 17, 18, 19, 20, 21, 22, 23, 24, 25, 26, 27, 28], [0, 1, 2, 3, 4, 5, 6, 7, 8, 9, 10, 11, 12, 13, 14, 15, 16, 17, 18, 19, 20, 21, 22, 23, 24, 25, 26, 27, 28, 29], [0, 1, 2, 3, 4, 5, 6, 7, 8, 9, 10, 11, 12, 13, 14, 15, 16, 17, 18, 19, 20, 21, 22, 23, 24, 25, 26, 27, 28, 29, 30], [0, 1, 2, 3, 4, 5, 6, 7, 8, 9, 10, 11, 12, 13, 14, 15, 16, 17, 18, 19, 20, 21, 22, 23, 24, 25, 26, 27, 28, 29, 30, 31]])
  | 2000005 => ([], 14, [[], [0], [0, 1], [0, 1, 2], [0, 1, 2, 3], [0, 1, 2, 3, 4], [0, 1, 2, 3, 4, 5], [0, 1, 2, 3, 4, 5, 6], [0, 1, 2, 3, 4, 5, 6, 7], [0, 1, 2, 3, 4, 5, 6, 7, 8], [0, 1, 2, 3, 4, 5, 6, 7, 8, 9], [0, 1, 2, 3, 4, 5, 6, 7, 8, 9, 10], [0, 1, 2, 3, 4, 5, 6, 7, 8, 9, 10, 11]])
  | 2000014 => ([], 8, [[], [0], [0, 1], [0, 1, 2], [0, 1, 2, 3], [0, 1, 2, 3, 4], [0, 1, 2, 3, 4, 5]])
  | _ => ([], 0, [])
set_option maxRecDepth 100000 in
theorem ref05_Write_eq (f t : List UInt8) (p q : Int) (b : List UInt8) (h1 h2 h3 h4 h5 : Int) (d : List UInt8) (K : AVal → Hp → Prop) : fnP Try.prog Tpr1 ann_outriderref05_Write Try.f11 [.agg [.str f, .str t, .int .i64 p, .int .i64 q, .str b], .agg [.int .i64 h1, .int .i64 h2, .int .i64 h3, .int .i64 h4, .int .i64 h5], .str d] [] K = (
  brP (!decide (h1 = (6 : Int)) && !decide (h1 = (17 : Int)))
    (K
     (AVal.tup
      [AVal.agg [AVal.str [], AVal.str [], AVal.int IntKind.i64 (0 : Int), AVal.int IntKind.i64 (0 : Int), AVal.str []],
       AVal.int IntKind.i64 (51 : Int)])
     [])
    (brP
     (decide (h2 < (0 : Int)) || decide ((65535 : Int) < h2) || decide (h3 < (0 : Int)) || decide ((65535 : Int) < h3) ||
        decide (h4 < (0 : Int)) ||
       decide ((63 : Int) < h4) ||
      !decide (h5 = (0 : Int)))
     (K
      (AVal.tup
       [AVal.agg [AVal.str [], AVal.str [], AVal.int IntKind.i64 (0 : Int), AVal.int IntKind.i64 (0 : Int), AVal.str []],
        AVal.int IntKind.i64 (1 : Int)])
      [])
     (brP (decide ((1500 : Int) < (↑(List.length d) : Int)) || decide (h1 = (17 : Int)) && !decide (h4 = (0 : Int)))
      (K
       (AVal.tup
        [AVal.agg [AVal.str [], AVal.str [], AVal.int IntKind.i64 (0 : Int), AVal.int IntKind.i64 (0 : Int), AVal.str []],
         AVal.int IntKind.i64 (1 : Int)])
       [])
      (((256 : Int) ≠ (0 : Int) ∧ I64 (Int.tdiv h2 (256 : Int))) ∧
       (256 : Int) ≠ (0 : Int) ∧
        ((256 : Int) ≠ (0 : Int) ∧ I64 (Int.tdiv h3 (256 : Int))) ∧
         (256 : Int) ≠ (0 : Int) ∧
          (4 : Nat) ≤ (4611686018427387904 : Nat) ∧
           I64 ((8 : Int) + (↑(List.length d) : Int)) ∧
            ((256 : Int) ≠ (0 : Int) ∧ I64 (Int.tdiv ((8 : Int) + (↑(List.length d) : Int)) (256 : Int))) ∧
             (256 : Int) ≠ (0 : Int) ∧
              (6 : Nat) ≤ (4611686018427387904 : Nat) ∧
               brP (decide (h1 = (6 : Int)))
                (((256 : Int) ≠ (0 : Int) ∧ I64 (Int.tdiv h2 (256 : Int))) ∧
                 (256 : Int) ≠ (0 : Int) ∧
                  ((256 : Int) ≠ (0 : Int) ∧ I64 (Int.tdiv h3 (256 : Int))) ∧
                   (256 : Int) ≠ (0 : Int) ∧
                    (4 : Nat) ≤ (4611686018427387904 : Nat) ∧
                     (13 : Nat) ≤ (4611686018427387904 : Nat) ∧
                      (14 : Nat) ≤ (4611686018427387904 : Nat) ∧
                       (16 : Nat) ≤ (4611686018427387904 : Nat) ∧
                        (2 : Nat) + List.length d ≤ (4611686018427387904 : Nat) ∧
                         (18 : Nat) ≤ (4611686018427387904 : Nat) ∧
                          (18 : Nat) + List.length ([(0 : UInt8), (0 : UInt8)] ++ d) ≤ (4611686018427387904 : Nat) ∧
                           optP
                            (pseudo f t h1
                             (↑(List.length
                                (List.take (2 : Nat)
                                       (List.drop (0 : Nat)
                                        [b8 (Int.tdiv h2 (256 : Int)), b8 (Int.tmod h2 (256 : Int))]) ++
                                      List.take (2 : Nat)
                                       (List.drop (0 : Nat)
                                        [b8 (Int.tdiv h3 (256 : Int)), b8 (Int.tmod h3 (256 : Int))]) ++
                                     [(0 : UInt8), (0 : UInt8), (0 : UInt8), (0 : UInt8), (0 : UInt8), (0 : UInt8),
                                      (0 : UInt8), (0 : UInt8), (80 : UInt8)] ++
                                    List.take (1 : Nat) (List.drop (0 : Nat) [b8 h4]) ++
                                   [(255 : UInt8), (255 : UInt8)] ++
                                  [(0 : UInt8), (0 : UInt8)] ++
                                 ([(0 : UInt8), (0 : UInt8)] ++ d))) :
                              Int))
                            (fun x =>
                             List.length (List.take (List.length x) (List.drop (0 : Nat) x)) +
                                List.length
                                 (List.take (2 : Nat)
                                        (List.drop (0 : Nat)
                                         [b8 (Int.tdiv h2 (256 : Int)), b8 (Int.tmod h2 (256 : Int))]) ++
                                       List.take (2 : Nat)
                                        (List.drop (0 : Nat)
                                         [b8 (Int.tdiv h3 (256 : Int)), b8 (Int.tmod h3 (256 : Int))]) ++
                                      [(0 : UInt8), (0 : UInt8), (0 : UInt8), (0 : UInt8), (0 : UInt8), (0 : UInt8),
                                       (0 : UInt8), (0 : UInt8), (80 : UInt8)] ++
                                     List.take (1 : Nat) (List.drop (0 : Nat) [b8 h4]) ++
                                    [(255 : UInt8), (255 : UInt8)] ++
                                   [(0 : UInt8), (0 : UInt8)] ++
                                  ([(0 : UInt8), (0 : UInt8)] ++ d)) ≤
                               (4611686018427387904 : Nat) ∧
                              List.length
                                 (List.take (List.length x) (List.drop (0 : Nat) x) ++
                                  (List.take (2 : Nat)
                                         (List.drop (0 : Nat)
                                          [b8 (Int.tdiv h2 (256 : Int)), b8 (Int.tmod h2 (256 : Int))]) ++
                                        List.take (2 : Nat)
                                         (List.drop (0 : Nat)
                                          [b8 (Int.tdiv h3 (256 : Int)), b8 (Int.tmod h3 (256 : Int))]) ++
                                       [(0 : UInt8), (0 : UInt8), (0 : UInt8), (0 : UInt8), (0 : UInt8), (0 : UInt8),
                                        (0 : UInt8), (0 : UInt8), (80 : UInt8)] ++
                                      List.take (1 : Nat) (List.drop (0 : Nat) [b8 h4]) ++
                                     [(255 : UInt8), (255 : UInt8)] ++
                                    [(0 : UInt8), (0 : UInt8)] ++
                                   ([(0 : UInt8), (0 : UInt8)] ++ d))) ≤
                                (140737488355328 : Nat) ∧
                               I64
                                 ((65535 : Int) -
                                  sumB
                                   (List.take
                                    (List.length
                                     (List.take (List.length x) (List.drop (0 : Nat) x) ++
                                      (List.take (2 : Nat)
                                             (List.drop (0 : Nat)
                                              [b8 (Int.tdiv h2 (256 : Int)), b8 (Int.tmod h2 (256 : Int))]) ++
                                            List.take (2 : Nat)
                                             (List.drop (0 : Nat)
                                              [b8 (Int.tdiv h3 (256 : Int)), b8 (Int.tmod h3 (256 : Int))]) ++
                                           [(0 : UInt8), (0 : UInt8), (0 : UInt8), (0 : UInt8), (0 : UInt8), (0 : UInt8),
                                            (0 : UInt8), (0 : UInt8), (80 : UInt8)] ++
                                          List.take (1 : Nat) (List.drop (0 : Nat) [b8 h4]) ++
                                         [(255 : UInt8), (255 : UInt8)] ++
                                        [(0 : UInt8), (0 : UInt8)] ++
                                       ([(0 : UInt8), (0 : UInt8)] ++ d))))
                                    (List.drop (0 : Nat)
                                     (List.take (List.length x) (List.drop (0 : Nat) x) ++
                                      (List.take (2 : Nat)
                                             (List.drop (0 : Nat)
                                              [b8 (Int.tdiv h2 (256 : Int)), b8 (Int.tmod h2 (256 : Int))]) ++
                                            List.take (2 : Nat)
                                             (List.drop (0 : Nat)
                                              [b8 (Int.tdiv h3 (256 : Int)), b8 (Int.tmod h3 (256 : Int))]) ++
                                           [(0 : UInt8), (0 : UInt8), (0 : UInt8), (0 : UInt8), (0 : UInt8), (0 : UInt8),
                                            (0 : UInt8), (0 : UInt8), (80 : UInt8)] ++
                                          List.take (1 : Nat) (List.drop (0 : Nat) [b8 h4]) ++
                                         [(255 : UInt8), (255 : UInt8)] ++
                                        [(0 : UInt8), (0 : UInt8)] ++
                                       ([(0 : UInt8), (0 : UInt8)] ++ d)))))) ∧
                                brP
                                 (decide
                                   ((65535 : Int) -
                                     sumB
                                      (List.take
                                       (List.length
                                        (List.take (List.length x) (List.drop (0 : Nat) x) ++
                                         (List.take (2 : Nat)
                                                (List.drop (0 : Nat)
                                                 [b8 (Int.tdiv h2 (256 : Int)), b8 (Int.tmod h2 (256 : Int))]) ++
                                               List.take (2 : Nat)
                                                (List.drop (0 : Nat)
                                                 [b8 (Int.tdiv h3 (256 : Int)), b8 (Int.tmod h3 (256 : Int))]) ++
                                              [(0 : UInt8), (0 : UInt8), (0 : UInt8), (0 : UInt8), (0 : UInt8),
                                               (0 : UInt8), (0 : UInt8), (0 : UInt8), (80 : UInt8)] ++
                                             List.take (1 : Nat) (List.drop (0 : Nat) [b8 h4]) ++
                                            [(255 : UInt8), (255 : UInt8)] ++
                                           [(0 : UInt8), (0 : UInt8)] ++
                                          ([(0 : UInt8), (0 : UInt8)] ++ d))))
                                       (List.drop (0 : Nat)
                                        (List.take (List.length x) (List.drop (0 : Nat) x) ++
                                         (List.take (2 : Nat)
                                                (List.drop (0 : Nat)
                                                 [b8 (Int.tdiv h2 (256 : Int)), b8 (Int.tmod h2 (256 : Int))]) ++
                                               List.take (2 : Nat)
                                                (List.drop (0 : Nat)
                                                 [b8 (Int.tdiv h3 (256 : Int)), b8 (Int.tmod h3 (256 : Int))]) ++
                                              [(0 : UInt8), (0 : UInt8), (0 : UInt8), (0 : UInt8), (0 : UInt8),
                                               (0 : UInt8), (0 : UInt8), (0 : UInt8), (80 : UInt8)] ++
                                             List.take (1 : Nat) (List.drop (0 : Nat) [b8 h4]) ++
                                            [(255 : UInt8), (255 : UInt8)] ++
                                           [(0 : UInt8), (0 : UInt8)] ++
                                          ([(0 : UInt8), (0 : UInt8)] ++ d))))) =
                                    (0 : Int)) &&
                                  decide (h1 = (17 : Int)))
                                 (((256 : Int) ≠ (0 : Int) ∧ I64 (255 : Int)) ∧
                                  (256 : Int) ≠ (0 : Int) ∧
                                   (18 : Nat) ≤ (4611686018427387904 : Nat) ∧
                                    (18 : Nat) + List.length ([(0 : UInt8), (0 : UInt8)] ++ d) ≤
                                      (4611686018427387904 : Nat) ∧
                                     optP
                                      (ipEncode
                                       (Ip.mk f t h1 q
                                        (List.take (2 : Nat)
                                               (List.drop (0 : Nat)
                                                [b8 (Int.tdiv h2 (256 : Int)), b8 (Int.tmod h2 (256 : Int))]) ++
                                              List.take (2 : Nat)
                                               (List.drop (0 : Nat)
                                                [b8 (Int.tdiv h3 (256 : Int)), b8 (Int.tmod h3 (256 : Int))]) ++
                                             [(0 : UInt8), (0 : UInt8), (0 : UInt8), (0 : UInt8), (0 : UInt8),
                                              (0 : UInt8), (0 : UInt8), (0 : UInt8), (80 : UInt8)] ++
                                            List.take (1 : Nat) (List.drop (0 : Nat) [b8 h4]) ++
                                           [(255 : UInt8), (255 : UInt8)] ++
                                          [(255 : UInt8), (255 : UInt8)] ++
                                         ([(0 : UInt8), (0 : UInt8)] ++ d))))
                                      (fun x =>
                                       K
                                        (AVal.tup
                                         [AVal.agg
                                           [AVal.str f, AVal.str t, AVal.int IntKind.i64 h1, AVal.int IntKind.i64 q,
                                            AVal.str
                                             (List.take (2 : Nat)
                                                    (List.drop (0 : Nat)
                                                     [b8 (Int.tdiv h2 (256 : Int)), b8 (Int.tmod h2 (256 : Int))]) ++
                                                   List.take (2 : Nat)
                                                    (List.drop (0 : Nat)
                                                     [b8 (Int.tdiv h3 (256 : Int)), b8 (Int.tmod h3 (256 : Int))]) ++
                                                  [(0 : UInt8), (0 : UInt8), (0 : UInt8), (0 : UInt8), (0 : UInt8),
                                                   (0 : UInt8), (0 : UInt8), (0 : UInt8), (80 : UInt8)] ++
                                                 List.take (1 : Nat) (List.drop (0 : Nat) [b8 h4]) ++
                                                [(255 : UInt8), (255 : UInt8)] ++
                                               [(255 : UInt8), (255 : UInt8)] ++
                                              ([(0 : UInt8), (0 : UInt8)] ++ d))],
                                          AVal.int IntKind.i64 (0 : Int)])
                                        [])
                                      (K
                                       (AVal.tup
                                        [AVal.agg
                                          [AVal.str [], AVal.str [], AVal.int IntKind.i64 (0 : Int),
                                           AVal.int IntKind.i64 (0 : Int), AVal.str []],
                                         AVal.int IntKind.i64 (1 : Int)])
                                       []))
                                 (((256 : Int) ≠ (0 : Int) ∧
                                   I64
                                    (Int.tdiv
                                     ((65535 : Int) -
                                      sumB
                                       (List.take
                                        (List.length
                                         (List.take (List.length x) (List.drop (0 : Nat) x) ++
                                          (List.take (2 : Nat)
                                                 (List.drop (0 : Nat)
                                                  [b8 (Int.tdiv h2 (256 : Int)), b8 (Int.tmod h2 (256 : Int))]) ++
                                                List.take (2 : Nat)
                                                 (List.drop (0 : Nat)
                                                  [b8 (Int.tdiv h3 (256 : Int)), b8 (Int.tmod h3 (256 : Int))]) ++
                                               [(0 : UInt8), (0 : UInt8), (0 : UInt8), (0 : UInt8), (0 : UInt8),
                                                (0 : UInt8), (0 : UInt8), (0 : UInt8), (80 : UInt8)] ++
                                              List.take (1 : Nat) (List.drop (0 : Nat) [b8 h4]) ++
                                             [(255 : UInt8), (255 : UInt8)] ++
                                            [(0 : UInt8), (0 : UInt8)] ++
                                           ([(0 : UInt8), (0 : UInt8)] ++ d))))
                                        (List.drop (0 : Nat)
                                         (List.take (List.length x) (List.drop (0 : Nat) x) ++
                                          (List.take (2 : Nat)
                                                 (List.drop (0 : Nat)
                                                  [b8 (Int.tdiv h2 (256 : Int)), b8 (Int.tmod h2 (256 : Int))]) ++
                                                List.take (2 : Nat)
                                                 (List.drop (0 : Nat)
                                                  [b8 (Int.tdiv h3 (256 : Int)), b8 (Int.tmod h3 (256 : Int))]) ++
                                               [(0 : UInt8), (0 : UInt8), (0 : UInt8), (0 : UInt8), (0 : UInt8),
                                                (0 : UInt8), (0 : UInt8), (0 : UInt8), (80 : UInt8)] ++
                                              List.take (1 : Nat) (List.drop (0 : Nat) [b8 h4]) ++
                                             [(255 : UInt8), (255 : UInt8)] ++
                                            [(0 : UInt8), (0 : UInt8)] ++
                                           ([(0 : UInt8), (0 : UInt8)] ++ d))))))
                                     (256 : Int))) ∧
                                  (256 : Int) ≠ (0 : Int) ∧
                                   (18 : Nat) ≤ (4611686018427387904 : Nat) ∧
                                    (18 : Nat) + List.length ([(0 : UInt8), (0 : UInt8)] ++ d) ≤
                                      (4611686018427387904 : Nat) ∧
                                     optP
                                      (ipEncode
                                       (Ip.mk f t h1 q
                                        (List.take (2 : Nat)
                                               (List.drop (0 : Nat)
                                                [b8 (Int.tdiv h2 (256 : Int)), b8 (Int.tmod h2 (256 : Int))]) ++
                                              List.take (2 : Nat)
                                               (List.drop (0 : Nat)
                                                [b8 (Int.tdiv h3 (256 : Int)), b8 (Int.tmod h3 (256 : Int))]) ++
                                             [(0 : UInt8), (0 : UInt8), (0 : UInt8), (0 : UInt8), (0 : UInt8),
                                              (0 : UInt8), (0 : UInt8), (0 : UInt8), (80 : UInt8)] ++
                                            List.take (1 : Nat) (List.drop (0 : Nat) [b8 h4]) ++
                                           [(255 : UInt8), (255 : UInt8)] ++
                                          List.take (2 : Nat)
                                           (List.drop (0 : Nat)
                                            [b8
                                              (Int.tdiv
                                               ((65535 : Int) -
                                                sumB
                                                 (List.take
                                                  (List.length
                                                   (List.take (List.length x) (List.drop (0 : Nat) x) ++
                                                    (List.take (2 : Nat)
                                                           (List.drop (0 : Nat)
                                                            [b8 (Int.tdiv h2 (256 : Int)),
                                                             b8 (Int.tmod h2 (256 : Int))]) ++
                                                          List.take (2 : Nat)
                                                           (List.drop (0 : Nat)
                                                            [b8 (Int.tdiv h3 (256 : Int)),
                                                             b8 (Int.tmod h3 (256 : Int))]) ++
                                                         [(0 : UInt8), (0 : UInt8), (0 : UInt8), (0 : UInt8), (0 : UInt8),
                                                          (0 : UInt8), (0 : UInt8), (0 : UInt8), (80 : UInt8)] ++
                                                        List.take (1 : Nat) (List.drop (0 : Nat) [b8 h4]) ++
                                                       [(255 : UInt8), (255 : UInt8)] ++
                                                      [(0 : UInt8), (0 : UInt8)] ++
                                                     ([(0 : UInt8), (0 : UInt8)] ++ d))))
                                                  (List.drop (0 : Nat)
                                                   (List.take (List.length x) (List.drop (0 : Nat) x) ++
                                                    (List.take (2 : Nat)
                                                           (List.drop (0 : Nat)
                                                            [b8 (Int.tdiv h2 (256 : Int)),
                                                             b8 (Int.tmod h2 (256 : Int))]) ++
                                                          List.take (2 : Nat)
                                                           (List.drop (0 : Nat)
                                                            [b8 (Int.tdiv h3 (256 : Int)),
                                                             b8 (Int.tmod h3 (256 : Int))]) ++
                                                         [(0 : UInt8), (0 : UInt8), (0 : UInt8), (0 : UInt8), (0 : UInt8),
                                                          (0 : UInt8), (0 : UInt8), (0 : UInt8), (80 : UInt8)] ++
                                                        List.take (1 : Nat) (List.drop (0 : Nat) [b8 h4]) ++
                                                       [(255 : UInt8), (255 : UInt8)] ++
                                                      [(0 : UInt8), (0 : UInt8)] ++
                                                     ([(0 : UInt8), (0 : UInt8)] ++ d))))))
                                               (256 : Int)),
                                             b8
                                              (Int.tmod
                                               ((65535 : Int) -
                                                sumB
                                                 (List.take
                                                  (List.length
                                                   (List.take (List.length x) (List.drop (0 : Nat) x) ++
                                                    (List.take (2 : Nat)
                                                           (List.drop (0 : Nat)
                                                            [b8 (Int.tdiv h2 (256 : Int)),
                                                             b8 (Int.tmod h2 (256 : Int))]) ++
                                                          List.take (2 : Nat)
                                                           (List.drop (0 : Nat)
                                                            [b8 (Int.tdiv h3 (256 : Int)),
                                                             b8 (Int.tmod h3 (256 : Int))]) ++
                                                         [(0 : UInt8), (0 : UInt8), (0 : UInt8), (0 : UInt8), (0 : UInt8),
                                                          (0 : UInt8), (0 : UInt8), (0 : UInt8), (80 : UInt8)] ++
                                                        List.take (1 : Nat) (List.drop (0 : Nat) [b8 h4]) ++
                                                       [(255 : UInt8), (255 : UInt8)] ++
                                                      [(0 : UInt8), (0 : UInt8)] ++
                                                     ([(0 : UInt8), (0 : UInt8)] ++ d))))
                                                  (List.drop (0 : Nat)
                                                   (List.take (List.length x) (List.drop (0 : Nat) x) ++
                                                    (List.take (2 : Nat)
                                                           (List.drop (0 : Nat)
                                                            [b8 (Int.tdiv h2 (256 : Int)),
                                                             b8 (Int.tmod h2 (256 : Int))]) ++
                                                          List.take (2 : Nat)
                                                           (List.drop (0 : Nat)
                                                            [b8 (Int.tdiv h3 (256 : Int)),
                                                             b8 (Int.tmod h3 (256 : Int))]) ++
                                                         [(0 : UInt8), (0 : UInt8), (0 : UInt8), (0 : UInt8), (0 : UInt8),
                                                          (0 : UInt8), (0 : UInt8), (0 : UInt8), (80 : UInt8)] ++
                                                        List.take (1 : Nat) (List.drop (0 : Nat) [b8 h4]) ++
                                                       [(255 : UInt8), (255 : UInt8)] ++
                                                      [(0 : UInt8), (0 : UInt8)] ++
                                                     ([(0 : UInt8), (0 : UInt8)] ++ d))))))
                                               (256 : Int))]) ++
                                         ([(0 : UInt8), (0 : UInt8)] ++ d))))
                                      (fun x_1 =>
                                       K
                                        (AVal.tup
                                         [AVal.agg
                                           [AVal.str f, AVal.str t, AVal.int IntKind.i64 h1, AVal.int IntKind.i64 q,
                                            AVal.str
                                             (List.take (2 : Nat)
                                                    (List.drop (0 : Nat)
                                                     [b8 (Int.tdiv h2 (256 : Int)), b8 (Int.tmod h2 (256 : Int))]) ++
                                                   List.take (2 : Nat)
                                                    (List.drop (0 : Nat)
                                                     [b8 (Int.tdiv h3 (256 : Int)), b8 (Int.tmod h3 (256 : Int))]) ++
                                                  [(0 : UInt8), (0 : UInt8), (0 : UInt8), (0 : UInt8), (0 : UInt8),
                                                   (0 : UInt8), (0 : UInt8), (0 : UInt8), (80 : UInt8)] ++
                                                 List.take (1 : Nat) (List.drop (0 : Nat) [b8 h4]) ++
                                                [(255 : UInt8), (255 : UInt8)] ++
                                               List.take (2 : Nat)
                                                (List.drop (0 : Nat)
                                                 [b8
                                                   (Int.tdiv
                                                    ((65535 : Int) -
                                                     sumB
                                                      (List.take
                                                       (List.length
                                                        (List.take (List.length x) (List.drop (0 : Nat) x) ++
                                                         (List.take (2 : Nat)
                                                                (List.drop (0 : Nat)
                                                                 [b8 (Int.tdiv h2 (256 : Int)),
                                                                  b8 (Int.tmod h2 (256 : Int))]) ++
                                                               List.take (2 : Nat)
                                                                (List.drop (0 : Nat)
                                                                 [b8 (Int.tdiv h3 (256 : Int)),
                                                                  b8 (Int.tmod h3 (256 : Int))]) ++
                                                              [(0 : UInt8), (0 : UInt8), (0 : UInt8), (0 : UInt8),
                                                               (0 : UInt8), (0 : UInt8), (0 : UInt8), (0 : UInt8),
                                                               (80 : UInt8)] ++
                                                             List.take (1 : Nat) (List.drop (0 : Nat) [b8 h4]) ++
                                                            [(255 : UInt8), (255 : UInt8)] ++
                                                           [(0 : UInt8), (0 : UInt8)] ++
                                                          ([(0 : UInt8), (0 : UInt8)] ++ d))))
                                                       (List.drop (0 : Nat)
                                                        (List.take (List.length x) (List.drop (0 : Nat) x) ++
                                                         (List.take (2 : Nat)
                                                                (List.drop (0 : Nat)
                                                                 [b8 (Int.tdiv h2 (256 : Int)),
                                                                  b8 (Int.tmod h2 (256 : Int))]) ++
                                                               List.take (2 : Nat)
                                                                (List.drop (0 : Nat)
                                                                 [b8 (Int.tdiv h3 (256 : Int)),
                                                                  b8 (Int.tmod h3 (256 : Int))]) ++
                                                              [(0 : UInt8), (0 : UInt8), (0 : UInt8), (0 : UInt8),
                                                               (0 : UInt8), (0 : UInt8), (0 : UInt8), (0 : UInt8),
                                                               (80 : UInt8)] ++
                                                             List.take (1 : Nat) (List.drop (0 : Nat) [b8 h4]) ++
                                                            [(255 : UInt8), (255 : UInt8)] ++
                                                           [(0 : UInt8), (0 : UInt8)] ++
                                                          ([(0 : UInt8), (0 : UInt8)] ++ d))))))
                                                    (256 : Int)),
                                                  b8
                                                   (Int.tmod
                                                    ((65535 : Int) -
                                                     sumB
                                                      (List.take
                                                       (List.length
                                                        (List.take (List.length x) (List.drop (0 : Nat) x) ++
                                                         (List.take (2 : Nat)
                                                                (List.drop (0 : Nat)
                                                                 [b8 (Int.tdiv h2 (256 : Int)),
                                                                  b8 (Int.tmod h2 (256 : Int))]) ++
                                                               List.take (2 : Nat)
                                                                (List.drop (0 : Nat)
                                                                 [b8 (Int.tdiv h3 (256 : Int)),
                                                                  b8 (Int.tmod h3 (256 : Int))]) ++
                                                              [(0 : UInt8), (0 : UInt8), (0 : UInt8), (0 : UInt8),
                                                               (0 : UInt8), (0 : UInt8), (0 : UInt8), (0 : UInt8),
                                                               (80 : UInt8)] ++
                                                             List.take (1 : Nat) (List.drop (0 : Nat) [b8 h4]) ++
                                                            [(255 : UInt8), (255 : UInt8)] ++
                                                           [(0 : UInt8), (0 : UInt8)] ++
                                                          ([(0 : UInt8), (0 : UInt8)] ++ d))))
                                                       (List.drop (0 : Nat)
                                                        (List.take (List.length x) (List.drop (0 : Nat) x) ++
                                                         (List.take (2 : Nat)
                                                                (List.drop (0 : Nat)
                                                                 [b8 (Int.tdiv h2 (256 : Int)),
                                                                  b8 (Int.tmod h2 (256 : Int))]) ++
                                                               List.take (2 : Nat)
                                                                (List.drop (0 : Nat)
                                                                 [b8 (Int.tdiv h3 (256 : Int)),
                                                                  b8 (Int.tmod h3 (256 : Int))]) ++
                                                              [(0 : UInt8), (0 : UInt8), (0 : UInt8), (0 : UInt8),
                                                               (0 : UInt8), (0 : UInt8), (0 : UInt8), (0 : UInt8),
                                                               (80 : UInt8)] ++
                                                             List.take (1 : Nat) (List.drop (0 : Nat) [b8 h4]) ++
                                                            [(255 : UInt8), (255 : UInt8)] ++
                                                           [(0 : UInt8), (0 : UInt8)] ++
                                                          ([(0 : UInt8), (0 : UInt8)] ++ d))))))
                                                    (256 : Int))]) ++
                                              ([(0 : UInt8), (0 : UInt8)] ++ d))],
                                          AVal.int IntKind.i64 (0 : Int)])
                                        [])
                                      (K
                                       (AVal.tup
                                        [AVal.agg
                                          [AVal.str [], AVal.str [], AVal.int IntKind.i64 (0 : Int),
                                           AVal.int IntKind.i64 (0 : Int), AVal.str []],
                                         AVal.int IntKind.i64 (1 : Int)])
                                       [])))
                            ((0 : Nat) +
                               List.length
                                (List.take (2 : Nat)
                                       (List.drop (0 : Nat)
                                        [b8 (Int.tdiv h2 (256 : Int)), b8 (Int.tmod h2 (256 : Int))]) ++
                                      List.take (2 : Nat)
                                       (List.drop (0 : Nat)
                                        [b8 (Int.tdiv h3 (256 : Int)), b8 (Int.tmod h3 (256 : Int))]) ++
                                     [(0 : UInt8), (0 : UInt8), (0 : UInt8), (0 : UInt8), (0 : UInt8), (0 : UInt8),
                                      (0 : UInt8), (0 : UInt8), (80 : UInt8)] ++
                                    List.take (1 : Nat) (List.drop (0 : Nat) [b8 h4]) ++
                                   [(255 : UInt8), (255 : UInt8)] ++
                                  [(0 : UInt8), (0 : UInt8)] ++
                                 ([(0 : UInt8), (0 : UInt8)] ++ d)) ≤
                              (4611686018427387904 : Nat) ∧
                             List.length
                                ([] ++
                                 (List.take (2 : Nat)
                                        (List.drop (0 : Nat)
                                         [b8 (Int.tdiv h2 (256 : Int)), b8 (Int.tmod h2 (256 : Int))]) ++
                                       List.take (2 : Nat)
                                        (List.drop (0 : Nat)
                                         [b8 (Int.tdiv h3 (256 : Int)), b8 (Int.tmod h3 (256 : Int))]) ++
                                      [(0 : UInt8), (0 : UInt8), (0 : UInt8), (0 : UInt8), (0 : UInt8), (0 : UInt8),
                                       (0 : UInt8), (0 : UInt8), (80 : UInt8)] ++
                                     List.take (1 : Nat) (List.drop (0 : Nat) [b8 h4]) ++
                                    [(255 : UInt8), (255 : UInt8)] ++
                                   [(0 : UInt8), (0 : UInt8)] ++
                                  ([(0 : UInt8), (0 : UInt8)] ++ d))) ≤
                               (140737488355328 : Nat) ∧
                              I64
                                ((65535 : Int) -
                                 sumB
                                  (List.take
                                   (List.length
                                    ([] ++
                                     (List.take (2 : Nat)
                                            (List.drop (0 : Nat)
                                             [b8 (Int.tdiv h2 (256 : Int)), b8 (Int.tmod h2 (256 : Int))]) ++
                                           List.take (2 : Nat)
                                            (List.drop (0 : Nat)
                                             [b8 (Int.tdiv h3 (256 : Int)), b8 (Int.tmod h3 (256 : Int))]) ++
                                          [(0 : UInt8), (0 : UInt8), (0 : UInt8), (0 : UInt8), (0 : UInt8), (0 : UInt8),
                                           (0 : UInt8), (0 : UInt8), (80 : UInt8)] ++
                                         List.take (1 : Nat) (List.drop (0 : Nat) [b8 h4]) ++
                                        [(255 : UInt8), (255 : UInt8)] ++
                                       [(0 : UInt8), (0 : UInt8)] ++
                                      ([(0 : UInt8), (0 : UInt8)] ++ d))))
                                   (List.drop (0 : Nat)
                                    ([] ++
                                     (List.take (2 : Nat)
                                            (List.drop (0 : Nat)
                                             [b8 (Int.tdiv h2 (256 : Int)), b8 (Int.tmod h2 (256 : Int))]) ++
                                           List.take (2 : Nat)
                                            (List.drop (0 : Nat)
                                             [b8 (Int.tdiv h3 (256 : Int)), b8 (Int.tmod h3 (256 : Int))]) ++
                                          [(0 : UInt8), (0 : UInt8), (0 : UInt8), (0 : UInt8), (0 : UInt8), (0 : UInt8),
                                           (0 : UInt8), (0 : UInt8), (80 : UInt8)] ++
                                         List.take (1 : Nat) (List.drop (0 : Nat) [b8 h4]) ++
                                        [(255 : UInt8), (255 : UInt8)] ++
                                       [(0 : UInt8), (0 : UInt8)] ++
                                      ([(0 : UInt8), (0 : UInt8)] ++ d)))))) ∧
                               brP
                                (decide
                                  ((65535 : Int) -
                                    sumB
                                     (List.take
                                      (List.length
                                       ([] ++
                                        (List.take (2 : Nat)
                                               (List.drop (0 : Nat)
                                                [b8 (Int.tdiv h2 (256 : Int)), b8 (Int.tmod h2 (256 : Int))]) ++
                                              List.take (2 : Nat)
                                               (List.drop (0 : Nat)
                                                [b8 (Int.tdiv h3 (256 : Int)), b8 (Int.tmod h3 (256 : Int))]) ++
                                             [(0 : UInt8), (0 : UInt8), (0 : UInt8), (0 : UInt8), (0 : UInt8),
                                              (0 : UInt8), (0 : UInt8), (0 : UInt8), (80 : UInt8)] ++
                                            List.take (1 : Nat) (List.drop (0 : Nat) [b8 h4]) ++
                                           [(255 : UInt8), (255 : UInt8)] ++
                                          [(0 : UInt8), (0 : UInt8)] ++
                                         ([(0 : UInt8), (0 : UInt8)] ++ d))))
                                      (List.drop (0 : Nat)
                                       ([] ++
                                        (List.take (2 : Nat)
                                               (List.drop (0 : Nat)
                                                [b8 (Int.tdiv h2 (256 : Int)), b8 (Int.tmod h2 (256 : Int))]) ++
                                              List.take (2 : Nat)
                                               (List.drop (0 : Nat)
                                                [b8 (Int.tdiv h3 (256 : Int)), b8 (Int.tmod h3 (256 : Int))]) ++
                                             [(0 : UInt8), (0 : UInt8), (0 : UInt8), (0 : UInt8), (0 : UInt8),
                                              (0 : UInt8), (0 : UInt8), (0 : UInt8), (80 : UInt8)] ++
                                            List.take (1 : Nat) (List.drop (0 : Nat) [b8 h4]) ++
                                           [(255 : UInt8), (255 : UInt8)] ++
                                          [(0 : UInt8), (0 : UInt8)] ++
                                         ([(0 : UInt8), (0 : UInt8)] ++ d))))) =
                                   (0 : Int)) &&
                                 decide (h1 = (17 : Int)))
                                (((256 : Int) ≠ (0 : Int) ∧ I64 (255 : Int)) ∧
                                 (256 : Int) ≠ (0 : Int) ∧
                                  (18 : Nat) ≤ (4611686018427387904 : Nat) ∧
                                   (18 : Nat) + List.length ([(0 : UInt8), (0 : UInt8)] ++ d) ≤
                                     (4611686018427387904 : Nat) ∧
                                    optP
                                     (ipEncode
                                      (Ip.mk f t h1 q
                                       (List.take (2 : Nat)
                                              (List.drop (0 : Nat)
                                               [b8 (Int.tdiv h2 (256 : Int)), b8 (Int.tmod h2 (256 : Int))]) ++
                                             List.take (2 : Nat)
                                              (List.drop (0 : Nat)
                                               [b8 (Int.tdiv h3 (256 : Int)), b8 (Int.tmod h3 (256 : Int))]) ++
                                            [(0 : UInt8), (0 : UInt8), (0 : UInt8), (0 : UInt8), (0 : UInt8), (0 : UInt8),
                                             (0 : UInt8), (0 : UInt8), (80 : UInt8)] ++
                                           List.take (1 : Nat) (List.drop (0 : Nat) [b8 h4]) ++
                                          [(255 : UInt8), (255 : UInt8)] ++
                                         [(255 : UInt8), (255 : UInt8)] ++
                                        ([(0 : UInt8), (0 : UInt8)] ++ d))))
                                     (fun x =>
                                      K
                                       (AVal.tup
                                        [AVal.agg
                                          [AVal.str f, AVal.str t, AVal.int IntKind.i64 h1, AVal.int IntKind.i64 q,
                                           AVal.str
                                            (List.take (2 : Nat)
                                                   (List.drop (0 : Nat)
                                                    [b8 (Int.tdiv h2 (256 : Int)), b8 (Int.tmod h2 (256 : Int))]) ++
                                                  List.take (2 : Nat)
                                                   (List.drop (0 : Nat)
                                                    [b8 (Int.tdiv h3 (256 : Int)), b8 (Int.tmod h3 (256 : Int))]) ++
                                                 [(0 : UInt8), (0 : UInt8), (0 : UInt8), (0 : UInt8), (0 : UInt8),
                                                  (0 : UInt8), (0 : UInt8), (0 : UInt8), (80 : UInt8)] ++
                                                List.take (1 : Nat) (List.drop (0 : Nat) [b8 h4]) ++
                                               [(255 : UInt8), (255 : UInt8)] ++
                                              [(255 : UInt8), (255 : UInt8)] ++
                                             ([(0 : UInt8), (0 : UInt8)] ++ d))],
                                         AVal.int IntKind.i64 (0 : Int)])
                                       [])
                                     (K
                                      (AVal.tup
                                       [AVal.agg
                                         [AVal.str [], AVal.str [], AVal.int IntKind.i64 (0 : Int),
                                          AVal.int IntKind.i64 (0 : Int), AVal.str []],
                                        AVal.int IntKind.i64 (1 : Int)])
                                      []))
                                (((256 : Int) ≠ (0 : Int) ∧
                                  I64
                                   (Int.tdiv
                                    ((65535 : Int) -
                                     sumB
                                      (List.take
                                       (List.length
                                        ([] ++
                                         (List.take (2 : Nat)
                                                (List.drop (0 : Nat)
                                                 [b8 (Int.tdiv h2 (256 : Int)), b8 (Int.tmod h2 (256 : Int))]) ++
                                               List.take (2 : Nat)
                                                (List.drop (0 : Nat)
                                                 [b8 (Int.tdiv h3 (256 : Int)), b8 (Int.tmod h3 (256 : Int))]) ++
                                              [(0 : UInt8), (0 : UInt8), (0 : UInt8), (0 : UInt8), (0 : UInt8),
                                               (0 : UInt8), (0 : UInt8), (0 : UInt8), (80 : UInt8)] ++
                                             List.take (1 : Nat) (List.drop (0 : Nat) [b8 h4]) ++
                                            [(255 : UInt8), (255 : UInt8)] ++
                                           [(0 : UInt8), (0 : UInt8)] ++
                                          ([(0 : UInt8), (0 : UInt8)] ++ d))))
                                       (List.drop (0 : Nat)
                                        ([] ++
                                         (List.take (2 : Nat)
                                                (List.drop (0 : Nat)
                                                 [b8 (Int.tdiv h2 (256 : Int)), b8 (Int.tmod h2 (256 : Int))]) ++
                                               List.take (2 : Nat)
                                                (List.drop (0 : Nat)
                                                 [b8 (Int.tdiv h3 (256 : Int)), b8 (Int.tmod h3 (256 : Int))]) ++
                                              [(0 : UInt8), (0 : UInt8), (0 : UInt8), (0 : UInt8), (0 : UInt8),
                                               (0 : UInt8), (0 : UInt8), (0 : UInt8), (80 : UInt8)] ++
                                             List.take (1 : Nat) (List.drop (0 : Nat) [b8 h4]) ++
                                            [(255 : UInt8), (255 : UInt8)] ++
                                           [(0 : UInt8), (0 : UInt8)] ++
                                          ([(0 : UInt8), (0 : UInt8)] ++ d))))))
                                    (256 : Int))) ∧
                                 (256 : Int) ≠ (0 : Int) ∧
                                  (18 : Nat) ≤ (4611686018427387904 : Nat) ∧
                                   (18 : Nat) + List.length ([(0 : UInt8), (0 : UInt8)] ++ d) ≤
                                     (4611686018427387904 : Nat) ∧
                                    optP
                                     (ipEncode
                                      (Ip.mk f t h1 q
                                       (List.take (2 : Nat)
                                              (List.drop (0 : Nat)
                                               [b8 (Int.tdiv h2 (256 : Int)), b8 (Int.tmod h2 (256 : Int))]) ++
                                             List.take (2 : Nat)
                                              (List.drop (0 : Nat)
                                               [b8 (Int.tdiv h3 (256 : Int)), b8 (Int.tmod h3 (256 : Int))]) ++
                                            [(0 : UInt8), (0 : UInt8), (0 : UInt8), (0 : UInt8), (0 : UInt8), (0 : UInt8),
                                             (0 : UInt8), (0 : UInt8), (80 : UInt8)] ++
                                           List.take (1 : Nat) (List.drop (0 : Nat) [b8 h4]) ++
                                          [(255 : UInt8), (255 : UInt8)] ++
                                         List.take (2 : Nat)
                                          (List.drop (0 : Nat)
                                           [b8
                                             (Int.tdiv
                                              ((65535 : Int) -
                                               sumB
                                                (List.take
                                                 (List.length
                                                  ([] ++
                                                   (List.take (2 : Nat)
                                                          (List.drop (0 : Nat)
                                                           [b8 (Int.tdiv h2 (256 : Int)),
                                                            b8 (Int.tmod h2 (256 : Int))]) ++
                                                         List.take (2 : Nat)
                                                          (List.drop (0 : Nat)
                                                           [b8 (Int.tdiv h3 (256 : Int)),
                                                            b8 (Int.tmod h3 (256 : Int))]) ++
                                                        [(0 : UInt8), (0 : UInt8), (0 : UInt8), (0 : UInt8), (0 : UInt8),
                                                         (0 : UInt8), (0 : UInt8), (0 : UInt8), (80 : UInt8)] ++
                                                       List.take (1 : Nat) (List.drop (0 : Nat) [b8 h4]) ++
                                                      [(255 : UInt8), (255 : UInt8)] ++
                                                     [(0 : UInt8), (0 : UInt8)] ++
                                                    ([(0 : UInt8), (0 : UInt8)] ++ d))))
                                                 (List.drop (0 : Nat)
                                                  ([] ++
                                                   (List.take (2 : Nat)
                                                          (List.drop (0 : Nat)
                                                           [b8 (Int.tdiv h2 (256 : Int)),
                                                            b8 (Int.tmod h2 (256 : Int))]) ++
                                                         List.take (2 : Nat)
                                                          (List.drop (0 : Nat)
                                                           [b8 (Int.tdiv h3 (256 : Int)),
                                                            b8 (Int.tmod h3 (256 : Int))]) ++
                                                        [(0 : UInt8), (0 : UInt8), (0 : UInt8), (0 : UInt8), (0 : UInt8),
                                                         (0 : UInt8), (0 : UInt8), (0 : UInt8), (80 : UInt8)] ++
                                                       List.take (1 : Nat) (List.drop (0 : Nat) [b8 h4]) ++
                                                      [(255 : UInt8), (255 : UInt8)] ++
                                                     [(0 : UInt8), (0 : UInt8)] ++
                                                    ([(0 : UInt8), (0 : UInt8)] ++ d))))))
                                              (256 : Int)),
                                            b8
                                             (Int.tmod
                                              ((65535 : Int) -
                                               sumB
                                                (List.take
                                                 (List.length
                                                  ([] ++
                                                   (List.take (2 : Nat)
                                                          (List.drop (0 : Nat)
                                                           [b8 (Int.tdiv h2 (256 : Int)),
                                                            b8 (Int.tmod h2 (256 : Int))]) ++
                                                         List.take (2 : Nat)
                                                          (List.drop (0 : Nat)
                                                           [b8 (Int.tdiv h3 (256 : Int)),
                                                            b8 (Int.tmod h3 (256 : Int))]) ++
                                                        [(0 : UInt8), (0 : UInt8), (0 : UInt8), (0 : UInt8), (0 : UInt8),
                                                         (0 : UInt8), (0 : UInt8), (0 : UInt8), (80 : UInt8)] ++
                                                       List.take (1 : Nat) (List.drop (0 : Nat) [b8 h4]) ++
                                                      [(255 : UInt8), (255 : UInt8)] ++
                                                     [(0 : UInt8), (0 : UInt8)] ++
                                                    ([(0 : UInt8), (0 : UInt8)] ++ d))))
                                                 (List.drop (0 : Nat)
                                                  ([] ++
                                                   (List.take (2 : Nat)
                                                          (List.drop (0 : Nat)
                                                           [b8 (Int.tdiv h2 (256 : Int)),
                                                            b8 (Int.tmod h2 (256 : Int))]) ++
                                                         List.take (2 : Nat)
                                                          (List.drop (0 : Nat)
                                                           [b8 (Int.tdiv h3 (256 : Int)),
                                                            b8 (Int.tmod h3 (256 : Int))]) ++
                                                        [(0 : UInt8), (0 : UInt8), (0 : UInt8), (0 : UInt8), (0 : UInt8),
                                                         (0 : UInt8), (0 : UInt8), (0 : UInt8), (80 : UInt8)] ++
                                                       List.take (1 : Nat) (List.drop (0 : Nat) [b8 h4]) ++
                                                      [(255 : UInt8), (255 : UInt8)] ++
                                                     [(0 : UInt8), (0 : UInt8)] ++
                                                    ([(0 : UInt8), (0 : UInt8)] ++ d))))))
                                              (256 : Int))]) ++
                                        ([(0 : UInt8), (0 : UInt8)] ++ d))))
                                     (fun x =>
                                      K
                                       (AVal.tup
                                        [AVal.agg
                                          [AVal.str f, AVal.str t, AVal.int IntKind.i64 h1, AVal.int IntKind.i64 q,
                                           AVal.str
                                            (List.take (2 : Nat)
                                                   (List.drop (0 : Nat)
                                                    [b8 (Int.tdiv h2 (256 : Int)), b8 (Int.tmod h2 (256 : Int))]) ++
                                                  List.take (2 : Nat)
                                                   (List.drop (0 : Nat)
                                                    [b8 (Int.tdiv h3 (256 : Int)), b8 (Int.tmod h3 (256 : Int))]) ++
                                                 [(0 : UInt8), (0 : UInt8), (0 : UInt8), (0 : UInt8), (0 : UInt8),
                                                  (0 : UInt8), (0 : UInt8), (0 : UInt8), (80 : UInt8)] ++
                                                List.take (1 : Nat) (List.drop (0 : Nat) [b8 h4]) ++
                                               [(255 : UInt8), (255 : UInt8)] ++
                                              List.take (2 : Nat)
                                               (List.drop (0 : Nat)
                                                [b8
                                                  (Int.tdiv
                                                   ((65535 : Int) -
                                                    sumB
                                                     (List.take
                                                      (List.length
                                                       ([] ++
                                                        (List.take (2 : Nat)
                                                               (List.drop (0 : Nat)
                                                                [b8 (Int.tdiv h2 (256 : Int)),
                                                                 b8 (Int.tmod h2 (256 : Int))]) ++
                                                              List.take (2 : Nat)
                                                               (List.drop (0 : Nat)
                                                                [b8 (Int.tdiv h3 (256 : Int)),
                                                                 b8 (Int.tmod h3 (256 : Int))]) ++
                                                             [(0 : UInt8), (0 : UInt8), (0 : UInt8), (0 : UInt8),
                                                              (0 : UInt8), (0 : UInt8), (0 : UInt8), (0 : UInt8),
                                                              (80 : UInt8)] ++
                                                            List.take (1 : Nat) (List.drop (0 : Nat) [b8 h4]) ++
                                                           [(255 : UInt8), (255 : UInt8)] ++
                                                          [(0 : UInt8), (0 : UInt8)] ++
                                                         ([(0 : UInt8), (0 : UInt8)] ++ d))))
                                                      (List.drop (0 : Nat)
                                                       ([] ++
                                                        (List.take (2 : Nat)
                                                               (List.drop (0 : Nat)
                                                                [b8 (Int.tdiv h2 (256 : Int)),
                                                                 b8 (Int.tmod h2 (256 : Int))]) ++
                                                              List.take (2 : Nat)
                                                               (List.drop (0 : Nat)
                                                                [b8 (Int.tdiv h3 (256 : Int)),
                                                                 b8 (Int.tmod h3 (256 : Int))]) ++
                                                             [(0 : UInt8), (0 : UInt8), (0 : UInt8), (0 : UInt8),
                                                              (0 : UInt8), (0 : UInt8), (0 : UInt8), (0 : UInt8),
                                                              (80 : UInt8)] ++
                                                            List.take (1 : Nat) (List.drop (0 : Nat) [b8 h4]) ++
                                                           [(255 : UInt8), (255 : UInt8)] ++
                                                          [(0 : UInt8), (0 : UInt8)] ++
                                                         ([(0 : UInt8), (0 : UInt8)] ++ d))))))
                                                   (256 : Int)),
                                                 b8
                                                  (Int.tmod
                                                   ((65535 : Int) -
                                                    sumB
                                                     (List.take
                                                      (List.length
                                                       ([] ++
                                                        (List.take (2 : Nat)
                                                               (List.drop (0 : Nat)
                                                                [b8 (Int.tdiv h2 (256 : Int)),
                                                                 b8 (Int.tmod h2 (256 : Int))]) ++
                                                              List.take (2 : Nat)
                                                               (List.drop (0 : Nat)
                                                                [b8 (Int.tdiv h3 (256 : Int)),
                                                                 b8 (Int.tmod h3 (256 : Int))]) ++
                                                             [(0 : UInt8), (0 : UInt8), (0 : UInt8), (0 : UInt8),
                                                              (0 : UInt8), (0 : UInt8), (0 : UInt8), (0 : UInt8),
                                                              (80 : UInt8)] ++
                                                            List.take (1 : Nat) (List.drop (0 : Nat) [b8 h4]) ++
                                                           [(255 : UInt8), (255 : UInt8)] ++
                                                          [(0 : UInt8), (0 : UInt8)] ++
                                                         ([(0 : UInt8), (0 : UInt8)] ++ d))))
                                                      (List.drop (0 : Nat)
                                                       ([] ++
                                                        (List.take (2 : Nat)
                                                               (List.drop (0 : Nat)
                                                                [b8 (Int.tdiv h2 (256 : Int)),
                                                                 b8 (Int.tmod h2 (256 : Int))]) ++
                                                              List.take (2 : Nat)
                                                               (List.drop (0 : Nat)
                                                                [b8 (Int.tdiv h3 (256 : Int)),
                                                                 b8 (Int.tmod h3 (256 : Int))]) ++
                                                             [(0 : UInt8), (0 : UInt8), (0 : UInt8), (0 : UInt8),
                                                              (0 : UInt8), (0 : UInt8), (0 : UInt8), (0 : UInt8),
                                                              (80 : UInt8)] ++
                                                            List.take (1 : Nat) (List.drop (0 : Nat) [b8 h4]) ++
                                                           [(255 : UInt8), (255 : UInt8)] ++
                                                          [(0 : UInt8), (0 : UInt8)] ++
                                                         ([(0 : UInt8), (0 : UInt8)] ++ d))))))
                                                   (256 : Int))]) ++
                                             ([(0 : UInt8), (0 : UInt8)] ++ d))],
                                         AVal.int IntKind.i64 (0 : Int)])
                                       [])
                                     (K
                                      (AVal.tup
                                       [AVal.agg
                                         [AVal.str [], AVal.str [], AVal.int IntKind.i64 (0 : Int),
                                          AVal.int IntKind.i64 (0 : Int), AVal.str []],
                                        AVal.int IntKind.i64 (1 : Int)])
                                      []))))
                ((8 : Nat) ≤ (4611686018427387904 : Nat) ∧
                 (8 : Nat) + List.length d ≤ (4611686018427387904 : Nat) ∧
                  optP
                   (pseudo f t h1
                    (↑(List.length
                       (List.take (2 : Nat)
                            (List.drop (0 : Nat) [b8 (Int.tdiv h2 (256 : Int)), b8 (Int.tmod h2 (256 : Int))]) ++
                           List.take (2 : Nat)
                            (List.drop (0 : Nat) [b8 (Int.tdiv h3 (256 : Int)), b8 (Int.tmod h3 (256 : Int))]) ++
                          List.take (2 : Nat)
                           (List.drop (0 : Nat)
                            [b8 (Int.tdiv ((8 : Int) + (↑(List.length d) : Int)) (256 : Int)),
                             b8 (Int.tmod ((8 : Int) + (↑(List.length d) : Int)) (256 : Int))]) ++
                         [(0 : UInt8), (0 : UInt8)] ++
                        d)) :
                     Int))
                   (fun x =>
                    List.length (List.take (List.length x) (List.drop (0 : Nat) x)) +
                       List.length
                        (List.take (2 : Nat)
                             (List.drop (0 : Nat) [b8 (Int.tdiv h2 (256 : Int)), b8 (Int.tmod h2 (256 : Int))]) ++
                            List.take (2 : Nat)
                             (List.drop (0 : Nat) [b8 (Int.tdiv h3 (256 : Int)), b8 (Int.tmod h3 (256 : Int))]) ++
                           List.take (2 : Nat)
                            (List.drop (0 : Nat)
                             [b8 (Int.tdiv ((8 : Int) + (↑(List.length d) : Int)) (256 : Int)),
                              b8 (Int.tmod ((8 : Int) + (↑(List.length d) : Int)) (256 : Int))]) ++
                          [(0 : UInt8), (0 : UInt8)] ++
                         d) ≤
                      (4611686018427387904 : Nat) ∧
                     List.length
                        (List.take (List.length x) (List.drop (0 : Nat) x) ++
                         (List.take (2 : Nat)
                              (List.drop (0 : Nat) [b8 (Int.tdiv h2 (256 : Int)), b8 (Int.tmod h2 (256 : Int))]) ++
                             List.take (2 : Nat)
                              (List.drop (0 : Nat) [b8 (Int.tdiv h3 (256 : Int)), b8 (Int.tmod h3 (256 : Int))]) ++
                            List.take (2 : Nat)
                             (List.drop (0 : Nat)
                              [b8 (Int.tdiv ((8 : Int) + (↑(List.length d) : Int)) (256 : Int)),
                               b8 (Int.tmod ((8 : Int) + (↑(List.length d) : Int)) (256 : Int))]) ++
                           [(0 : UInt8), (0 : UInt8)] ++
                          d)) ≤
                       (140737488355328 : Nat) ∧
                      I64
                        ((65535 : Int) -
                         sumB
                          (List.take
                           (List.length
                            (List.take (List.length x) (List.drop (0 : Nat) x) ++
                             (List.take (2 : Nat)
                                  (List.drop (0 : Nat) [b8 (Int.tdiv h2 (256 : Int)), b8 (Int.tmod h2 (256 : Int))]) ++
                                 List.take (2 : Nat)
                                  (List.drop (0 : Nat) [b8 (Int.tdiv h3 (256 : Int)), b8 (Int.tmod h3 (256 : Int))]) ++
                                List.take (2 : Nat)
                                 (List.drop (0 : Nat)
                                  [b8 (Int.tdiv ((8 : Int) + (↑(List.length d) : Int)) (256 : Int)),
                                   b8 (Int.tmod ((8 : Int) + (↑(List.length d) : Int)) (256 : Int))]) ++
                               [(0 : UInt8), (0 : UInt8)] ++
                              d)))
                           (List.drop (0 : Nat)
                            (List.take (List.length x) (List.drop (0 : Nat) x) ++
                             (List.take (2 : Nat)
                                  (List.drop (0 : Nat) [b8 (Int.tdiv h2 (256 : Int)), b8 (Int.tmod h2 (256 : Int))]) ++
                                 List.take (2 : Nat)
                                  (List.drop (0 : Nat) [b8 (Int.tdiv h3 (256 : Int)), b8 (Int.tmod h3 (256 : Int))]) ++
                                List.take (2 : Nat)
                                 (List.drop (0 : Nat)
                                  [b8 (Int.tdiv ((8 : Int) + (↑(List.length d) : Int)) (256 : Int)),
                                   b8 (Int.tmod ((8 : Int) + (↑(List.length d) : Int)) (256 : Int))]) ++
                               [(0 : UInt8), (0 : UInt8)] ++
                              d))))) ∧
                       brP
                        (decide
                          ((65535 : Int) -
                            sumB
                             (List.take
                              (List.length
                               (List.take (List.length x) (List.drop (0 : Nat) x) ++
                                (List.take (2 : Nat)
                                     (List.drop (0 : Nat) [b8 (Int.tdiv h2 (256 : Int)), b8 (Int.tmod h2 (256 : Int))]) ++
                                    List.take (2 : Nat)
                                     (List.drop (0 : Nat) [b8 (Int.tdiv h3 (256 : Int)), b8 (Int.tmod h3 (256 : Int))]) ++
                                   List.take (2 : Nat)
                                    (List.drop (0 : Nat)
                                     [b8 (Int.tdiv ((8 : Int) + (↑(List.length d) : Int)) (256 : Int)),
                                      b8 (Int.tmod ((8 : Int) + (↑(List.length d) : Int)) (256 : Int))]) ++
                                  [(0 : UInt8), (0 : UInt8)] ++
                                 d)))
                              (List.drop (0 : Nat)
                               (List.take (List.length x) (List.drop (0 : Nat) x) ++
                                (List.take (2 : Nat)
                                     (List.drop (0 : Nat) [b8 (Int.tdiv h2 (256 : Int)), b8 (Int.tmod h2 (256 : Int))]) ++
                                    List.take (2 : Nat)
                                     (List.drop (0 : Nat) [b8 (Int.tdiv h3 (256 : Int)), b8 (Int.tmod h3 (256 : Int))]) ++
                                   List.take (2 : Nat)
                                    (List.drop (0 : Nat)
                                     [b8 (Int.tdiv ((8 : Int) + (↑(List.length d) : Int)) (256 : Int)),
                                      b8 (Int.tmod ((8 : Int) + (↑(List.length d) : Int)) (256 : Int))]) ++
                                  [(0 : UInt8), (0 : UInt8)] ++
                                 d)))) =
                           (0 : Int)) &&
                         decide (h1 = (17 : Int)))
                        (((256 : Int) ≠ (0 : Int) ∧ I64 (255 : Int)) ∧
                         (256 : Int) ≠ (0 : Int) ∧
                          (8 : Nat) ≤ (4611686018427387904 : Nat) ∧
                           (8 : Nat) + List.length d ≤ (4611686018427387904 : Nat) ∧
                            optP
                             (ipEncode
                              (Ip.mk f t h1 q
                               (List.take (2 : Nat)
                                    (List.drop (0 : Nat) [b8 (Int.tdiv h2 (256 : Int)), b8 (Int.tmod h2 (256 : Int))]) ++
                                   List.take (2 : Nat)
                                    (List.drop (0 : Nat) [b8 (Int.tdiv h3 (256 : Int)), b8 (Int.tmod h3 (256 : Int))]) ++
                                  List.take (2 : Nat)
                                   (List.drop (0 : Nat)
                                    [b8 (Int.tdiv ((8 : Int) + (↑(List.length d) : Int)) (256 : Int)),
                                     b8 (Int.tmod ((8 : Int) + (↑(List.length d) : Int)) (256 : Int))]) ++
                                 [(255 : UInt8), (255 : UInt8)] ++
                                d)))
                             (fun x =>
                              K
                               (AVal.tup
                                [AVal.agg
                                  [AVal.str f, AVal.str t, AVal.int IntKind.i64 h1, AVal.int IntKind.i64 q,
                                   AVal.str
                                    (List.take (2 : Nat)
                                         (List.drop (0 : Nat)
                                          [b8 (Int.tdiv h2 (256 : Int)), b8 (Int.tmod h2 (256 : Int))]) ++
                                        List.take (2 : Nat)
                                         (List.drop (0 : Nat)
                                          [b8 (Int.tdiv h3 (256 : Int)), b8 (Int.tmod h3 (256 : Int))]) ++
                                       List.take (2 : Nat)
                                        (List.drop (0 : Nat)
                                         [b8 (Int.tdiv ((8 : Int) + (↑(List.length d) : Int)) (256 : Int)),
                                          b8 (Int.tmod ((8 : Int) + (↑(List.length d) : Int)) (256 : Int))]) ++
                                      [(255 : UInt8), (255 : UInt8)] ++
                                     d)],
                                 AVal.int IntKind.i64 (0 : Int)])
                               [])
                             (K
                              (AVal.tup
                               [AVal.agg
                                 [AVal.str [], AVal.str [], AVal.int IntKind.i64 (0 : Int),
                                  AVal.int IntKind.i64 (0 : Int), AVal.str []],
                                AVal.int IntKind.i64 (1 : Int)])
                              []))
                        (((256 : Int) ≠ (0 : Int) ∧
                          I64
                           (Int.tdiv
                            ((65535 : Int) -
                             sumB
                              (List.take
                               (List.length
                                (List.take (List.length x) (List.drop (0 : Nat) x) ++
                                 (List.take (2 : Nat)
                                      (List.drop (0 : Nat)
                                       [b8 (Int.tdiv h2 (256 : Int)), b8 (Int.tmod h2 (256 : Int))]) ++
                                     List.take (2 : Nat)
                                      (List.drop (0 : Nat)
                                       [b8 (Int.tdiv h3 (256 : Int)), b8 (Int.tmod h3 (256 : Int))]) ++
                                    List.take (2 : Nat)
                                     (List.drop (0 : Nat)
                                      [b8 (Int.tdiv ((8 : Int) + (↑(List.length d) : Int)) (256 : Int)),
                                       b8 (Int.tmod ((8 : Int) + (↑(List.length d) : Int)) (256 : Int))]) ++
                                   [(0 : UInt8), (0 : UInt8)] ++
                                  d)))
                               (List.drop (0 : Nat)
                                (List.take (List.length x) (List.drop (0 : Nat) x) ++
                                 (List.take (2 : Nat)
                                      (List.drop (0 : Nat)
                                       [b8 (Int.tdiv h2 (256 : Int)), b8 (Int.tmod h2 (256 : Int))]) ++
                                     List.take (2 : Nat)
                                      (List.drop (0 : Nat)
                                       [b8 (Int.tdiv h3 (256 : Int)), b8 (Int.tmod h3 (256 : Int))]) ++
                                    List.take (2 : Nat)
                                     (List.drop (0 : Nat)
                                      [b8 (Int.tdiv ((8 : Int) + (↑(List.length d) : Int)) (256 : Int)),
                                       b8 (Int.tmod ((8 : Int) + (↑(List.length d) : Int)) (256 : Int))]) ++
                                   [(0 : UInt8), (0 : UInt8)] ++
                                  d)))))
                            (256 : Int))) ∧
                         (256 : Int) ≠ (0 : Int) ∧
                          (8 : Nat) ≤ (4611686018427387904 : Nat) ∧
                           (8 : Nat) + List.length d ≤ (4611686018427387904 : Nat) ∧
                            optP
                             (ipEncode
                              (Ip.mk f t h1 q
                               (List.take (2 : Nat)
                                    (List.drop (0 : Nat) [b8 (Int.tdiv h2 (256 : Int)), b8 (Int.tmod h2 (256 : Int))]) ++
                                   List.take (2 : Nat)
                                    (List.drop (0 : Nat) [b8 (Int.tdiv h3 (256 : Int)), b8 (Int.tmod h3 (256 : Int))]) ++
                                  List.take (2 : Nat)
                                   (List.drop (0 : Nat)
                                    [b8 (Int.tdiv ((8 : Int) + (↑(List.length d) : Int)) (256 : Int)),
                                     b8 (Int.tmod ((8 : Int) + (↑(List.length d) : Int)) (256 : Int))]) ++
                                 List.take (2 : Nat)
                                  (List.drop (0 : Nat)
                                   [b8
                                     (Int.tdiv
                                      ((65535 : Int) -
                                       sumB
                                        (List.take
                                         (List.length
                                          (List.take (List.length x) (List.drop (0 : Nat) x) ++
                                           (List.take (2 : Nat)
                                                (List.drop (0 : Nat)
                                                 [b8 (Int.tdiv h2 (256 : Int)), b8 (Int.tmod h2 (256 : Int))]) ++
                                               List.take (2 : Nat)
                                                (List.drop (0 : Nat)
                                                 [b8 (Int.tdiv h3 (256 : Int)), b8 (Int.tmod h3 (256 : Int))]) ++
                                              List.take (2 : Nat)
                                               (List.drop (0 : Nat)
                                                [b8 (Int.tdiv ((8 : Int) + (↑(List.length d) : Int)) (256 : Int)),
                                                 b8 (Int.tmod ((8 : Int) + (↑(List.length d) : Int)) (256 : Int))]) ++
                                             [(0 : UInt8), (0 : UInt8)] ++
                                            d)))
                                         (List.drop (0 : Nat)
                                          (List.take (List.length x) (List.drop (0 : Nat) x) ++
                                           (List.take (2 : Nat)
                                                (List.drop (0 : Nat)
                                                 [b8 (Int.tdiv h2 (256 : Int)), b8 (Int.tmod h2 (256 : Int))]) ++
                                               List.take (2 : Nat)
                                                (List.drop (0 : Nat)
                                                 [b8 (Int.tdiv h3 (256 : Int)), b8 (Int.tmod h3 (256 : Int))]) ++
                                              List.take (2 : Nat)
                                               (List.drop (0 : Nat)
                                                [b8 (Int.tdiv ((8 : Int) + (↑(List.length d) : Int)) (256 : Int)),
                                                 b8 (Int.tmod ((8 : Int) + (↑(List.length d) : Int)) (256 : Int))]) ++
                                             [(0 : UInt8), (0 : UInt8)] ++
                                            d)))))
                                      (256 : Int)),
                                    b8
                                     (Int.tmod
                                      ((65535 : Int) -
                                       sumB
                                        (List.take
                                         (List.length
                                          (List.take (List.length x) (List.drop (0 : Nat) x) ++
                                           (List.take (2 : Nat)
                                                (List.drop (0 : Nat)
                                                 [b8 (Int.tdiv h2 (256 : Int)), b8 (Int.tmod h2 (256 : Int))]) ++
                                               List.take (2 : Nat)
                                                (List.drop (0 : Nat)
                                                 [b8 (Int.tdiv h3 (256 : Int)), b8 (Int.tmod h3 (256 : Int))]) ++
                                              List.take (2 : Nat)
                                               (List.drop (0 : Nat)
                                                [b8 (Int.tdiv ((8 : Int) + (↑(List.length d) : Int)) (256 : Int)),
                                                 b8 (Int.tmod ((8 : Int) + (↑(List.length d) : Int)) (256 : Int))]) ++
                                             [(0 : UInt8), (0 : UInt8)] ++
                                            d)))
                                         (List.drop (0 : Nat)
                                          (List.take (List.length x) (List.drop (0 : Nat) x) ++
                                           (List.take (2 : Nat)
                                                (List.drop (0 : Nat)
                                                 [b8 (Int.tdiv h2 (256 : Int)), b8 (Int.tmod h2 (256 : Int))]) ++
                                               List.take (2 : Nat)
                                                (List.drop (0 : Nat)
                                                 [b8 (Int.tdiv h3 (256 : Int)), b8 (Int.tmod h3 (256 : Int))]) ++
                                              List.take (2 : Nat)
                                               (List.drop (0 : Nat)
                                                [b8 (Int.tdiv ((8 : Int) + (↑(List.length d) : Int)) (256 : Int)),
                                                 b8 (Int.tmod ((8 : Int) + (↑(List.length d) : Int)) (256 : Int))]) ++
                                             [(0 : UInt8), (0 : UInt8)] ++
                                            d)))))
                                      (256 : Int))]) ++
                                d)))
                             (fun x_1 =>
                              K
                               (AVal.tup
                                [AVal.agg
                                  [AVal.str f, AVal.str t, AVal.int IntKind.i64 h1, AVal.int IntKind.i64 q,
                                   AVal.str
                                    (List.take (2 : Nat)
                                         (List.drop (0 : Nat)
                                          [b8 (Int.tdiv h2 (256 : Int)), b8 (Int.tmod h2 (256 : Int))]) ++
                                        List.take (2 : Nat)
                                         (List.drop (0 : Nat)
                                          [b8 (Int.tdiv h3 (256 : Int)), b8 (Int.tmod h3 (256 : Int))]) ++
                                       List.take (2 : Nat)
                                        (List.drop (0 : Nat)
                                         [b8 (Int.tdiv ((8 : Int) + (↑(List.length d) : Int)) (256 : Int)),
                                          b8 (Int.tmod ((8 : Int) + (↑(List.length d) : Int)) (256 : Int))]) ++
                                      List.take (2 : Nat)
                                       (List.drop (0 : Nat)
                                        [b8
                                          (Int.tdiv
                                           ((65535 : Int) -
                                            sumB
                                             (List.take
                                              (List.length
                                               (List.take (List.length x) (List.drop (0 : Nat) x) ++
                                                (List.take (2 : Nat)
                                                     (List.drop (0 : Nat)
                                                      [b8 (Int.tdiv h2 (256 : Int)), b8 (Int.tmod h2 (256 : Int))]) ++
                                                    List.take (2 : Nat)
                                                     (List.drop (0 : Nat)
                                                      [b8 (Int.tdiv h3 (256 : Int)), b8 (Int.tmod h3 (256 : Int))]) ++
                                                   List.take (2 : Nat)
                                                    (List.drop (0 : Nat)
                                                     [b8 (Int.tdiv ((8 : Int) + (↑(List.length d) : Int)) (256 : Int)),
                                                      b8
                                                       (Int.tmod ((8 : Int) + (↑(List.length d) : Int)) (256 : Int))]) ++
                                                  [(0 : UInt8), (0 : UInt8)] ++
                                                 d)))
                                              (List.drop (0 : Nat)
                                               (List.take (List.length x) (List.drop (0 : Nat) x) ++
                                                (List.take (2 : Nat)
                                                     (List.drop (0 : Nat)
                                                      [b8 (Int.tdiv h2 (256 : Int)), b8 (Int.tmod h2 (256 : Int))]) ++
                                                    List.take (2 : Nat)
                                                     (List.drop (0 : Nat)
                                                      [b8 (Int.tdiv h3 (256 : Int)), b8 (Int.tmod h3 (256 : Int))]) ++
                                                   List.take (2 : Nat)
                                                    (List.drop (0 : Nat)
                                                     [b8 (Int.tdiv ((8 : Int) + (↑(List.length d) : Int)) (256 : Int)),
                                                      b8
                                                       (Int.tmod ((8 : Int) + (↑(List.length d) : Int)) (256 : Int))]) ++
                                                  [(0 : UInt8), (0 : UInt8)] ++
                                                 d)))))
                                           (256 : Int)),
                                         b8
                                          (Int.tmod
                                           ((65535 : Int) -
                                            sumB
                                             (List.take
                                              (List.length
                                               (List.take (List.length x) (List.drop (0 : Nat) x) ++
                                                (List.take (2 : Nat)
                                                     (List.drop (0 : Nat)
                                                      [b8 (Int.tdiv h2 (256 : Int)), b8 (Int.tmod h2 (256 : Int))]) ++
                                                    List.take (2 : Nat)
                                                     (List.drop (0 : Nat)
                                                      [b8 (Int.tdiv h3 (256 : Int)), b8 (Int.tmod h3 (256 : Int))]) ++
                                                   List.take (2 : Nat)
                                                    (List.drop (0 : Nat)
                                                     [b8 (Int.tdiv ((8 : Int) + (↑(List.length d) : Int)) (256 : Int)),
                                                      b8
                                                       (Int.tmod ((8 : Int) + (↑(List.length d) : Int)) (256 : Int))]) ++
                                                  [(0 : UInt8), (0 : UInt8)] ++
                                                 d)))
                                              (List.drop (0 : Nat)
                                               (List.take (List.length x) (List.drop (0 : Nat) x) ++
                                                (List.take (2 : Nat)
                                                     (List.drop (0 : Nat)
                                                      [b8 (Int.tdiv h2 (256 : Int)), b8 (Int.tmod h2 (256 : Int))]) ++
                                                    List.take (2 : Nat)
                                                     (List.drop (0 : Nat)
                                                      [b8 (Int.tdiv h3 (256 : Int)), b8 (Int.tmod h3 (256 : Int))]) ++
                                                   List.take (2 : Nat)
                                                    (List.drop (0 : Nat)
                                                     [b8 (Int.tdiv ((8 : Int) + (↑(List.length d) : Int)) (256 : Int)),
                                                      b8
                                                       (Int.tmod ((8 : Int) + (↑(List.length d) : Int)) (256 : Int))]) ++
                                                  [(0 : UInt8), (0 : UInt8)] ++
                                                 d)))))
                                           (256 : Int))]) ++
                                     d)],
                                 AVal.int IntKind.i64 (0 : Int)])
                               [])
                             (K
                              (AVal.tup
                               [AVal.agg
                                 [AVal.str [], AVal.str [], AVal.int IntKind.i64 (0 : Int),
                                  AVal.int IntKind.i64 (0 : Int), AVal.str []],
                                AVal.int IntKind.i64 (1 : Int)])
                              [])))
                   ((0 : Nat) +
                      List.length
                       (List.take (2 : Nat)
                            (List.drop (0 : Nat) [b8 (Int.tdiv h2 (256 : Int)), b8 (Int.tmod h2 (256 : Int))]) ++
                           List.take (2 : Nat)
                            (List.drop (0 : Nat) [b8 (Int.tdiv h3 (256 : Int)), b8 (Int.tmod h3 (256 : Int))]) ++
                          List.take (2 : Nat)
                           (List.drop (0 : Nat)
                            [b8 (Int.tdiv ((8 : Int) + (↑(List.length d) : Int)) (256 : Int)),
                             b8 (Int.tmod ((8 : Int) + (↑(List.length d) : Int)) (256 : Int))]) ++
                         [(0 : UInt8), (0 : UInt8)] ++
                        d) ≤
                     (4611686018427387904 : Nat) ∧
                    List.length
                       ([] ++
                        (List.take (2 : Nat)
                             (List.drop (0 : Nat) [b8 (Int.tdiv h2 (256 : Int)), b8 (Int.tmod h2 (256 : Int))]) ++
                            List.take (2 : Nat)
                             (List.drop (0 : Nat) [b8 (Int.tdiv h3 (256 : Int)), b8 (Int.tmod h3 (256 : Int))]) ++
                           List.take (2 : Nat)
                            (List.drop (0 : Nat)
                             [b8 (Int.tdiv ((8 : Int) + (↑(List.length d) : Int)) (256 : Int)),
                              b8 (Int.tmod ((8 : Int) + (↑(List.length d) : Int)) (256 : Int))]) ++
                          [(0 : UInt8), (0 : UInt8)] ++
                         d)) ≤
                      (140737488355328 : Nat) ∧
                     I64
                       ((65535 : Int) -
                        sumB
                         (List.take
                          (List.length
                           ([] ++
                            (List.take (2 : Nat)
                                 (List.drop (0 : Nat) [b8 (Int.tdiv h2 (256 : Int)), b8 (Int.tmod h2 (256 : Int))]) ++
                                List.take (2 : Nat)
                                 (List.drop (0 : Nat) [b8 (Int.tdiv h3 (256 : Int)), b8 (Int.tmod h3 (256 : Int))]) ++
                               List.take (2 : Nat)
                                (List.drop (0 : Nat)
                                 [b8 (Int.tdiv ((8 : Int) + (↑(List.length d) : Int)) (256 : Int)),
                                  b8 (Int.tmod ((8 : Int) + (↑(List.length d) : Int)) (256 : Int))]) ++
                              [(0 : UInt8), (0 : UInt8)] ++
                             d)))
                          (List.drop (0 : Nat)
                           ([] ++
                            (List.take (2 : Nat)
                                 (List.drop (0 : Nat) [b8 (Int.tdiv h2 (256 : Int)), b8 (Int.tmod h2 (256 : Int))]) ++
                                List.take (2 : Nat)
                                 (List.drop (0 : Nat) [b8 (Int.tdiv h3 (256 : Int)), b8 (Int.tmod h3 (256 : Int))]) ++
                               List.take (2 : Nat)
                                (List.drop (0 : Nat)
                                 [b8 (Int.tdiv ((8 : Int) + (↑(List.length d) : Int)) (256 : Int)),
                                  b8 (Int.tmod ((8 : Int) + (↑(List.length d) : Int)) (256 : Int))]) ++
                              [(0 : UInt8), (0 : UInt8)] ++
                             d))))) ∧
                      brP
                       (decide
                         ((65535 : Int) -
                           sumB
                            (List.take
                             (List.length
                              ([] ++
                               (List.take (2 : Nat)
                                    (List.drop (0 : Nat) [b8 (Int.tdiv h2 (256 : Int)), b8 (Int.tmod h2 (256 : Int))]) ++
                                   List.take (2 : Nat)
                                    (List.drop (0 : Nat) [b8 (Int.tdiv h3 (256 : Int)), b8 (Int.tmod h3 (256 : Int))]) ++
                                  List.take (2 : Nat)
                                   (List.drop (0 : Nat)
                                    [b8 (Int.tdiv ((8 : Int) + (↑(List.length d) : Int)) (256 : Int)),
                                     b8 (Int.tmod ((8 : Int) + (↑(List.length d) : Int)) (256 : Int))]) ++
                                 [(0 : UInt8), (0 : UInt8)] ++
                                d)))
                             (List.drop (0 : Nat)
                              ([] ++
                               (List.take (2 : Nat)
                                    (List.drop (0 : Nat) [b8 (Int.tdiv h2 (256 : Int)), b8 (Int.tmod h2 (256 : Int))]) ++
                                   List.take (2 : Nat)
                                    (List.drop (0 : Nat) [b8 (Int.tdiv h3 (256 : Int)), b8 (Int.tmod h3 (256 : Int))]) ++
                                  List.take (2 : Nat)
                                   (List.drop (0 : Nat)
                                    [b8 (Int.tdiv ((8 : Int) + (↑(List.length d) : Int)) (256 : Int)),
                                     b8 (Int.tmod ((8 : Int) + (↑(List.length d) : Int)) (256 : Int))]) ++
                                 [(0 : UInt8), (0 : UInt8)] ++
                                d)))) =
                          (0 : Int)) &&
                        decide (h1 = (17 : Int)))
                       (((256 : Int) ≠ (0 : Int) ∧ I64 (255 : Int)) ∧
                        (256 : Int) ≠ (0 : Int) ∧
                         (8 : Nat) ≤ (4611686018427387904 : Nat) ∧
                          (8 : Nat) + List.length d ≤ (4611686018427387904 : Nat) ∧
                           optP
                            (ipEncode
                             (Ip.mk f t h1 q
                              (List.take (2 : Nat)
                                   (List.drop (0 : Nat) [b8 (Int.tdiv h2 (256 : Int)), b8 (Int.tmod h2 (256 : Int))]) ++
                                  List.take (2 : Nat)
                                   (List.drop (0 : Nat) [b8 (Int.tdiv h3 (256 : Int)), b8 (Int.tmod h3 (256 : Int))]) ++
                                 List.take (2 : Nat)
                                  (List.drop (0 : Nat)
                                   [b8 (Int.tdiv ((8 : Int) + (↑(List.length d) : Int)) (256 : Int)),
                                    b8 (Int.tmod ((8 : Int) + (↑(List.length d) : Int)) (256 : Int))]) ++
                                [(255 : UInt8), (255 : UInt8)] ++
                               d)))
                            (fun x =>
                             K
                              (AVal.tup
                               [AVal.agg
                                 [AVal.str f, AVal.str t, AVal.int IntKind.i64 h1, AVal.int IntKind.i64 q,
                                  AVal.str
                                   (List.take (2 : Nat)
                                        (List.drop (0 : Nat)
                                         [b8 (Int.tdiv h2 (256 : Int)), b8 (Int.tmod h2 (256 : Int))]) ++
                                       List.take (2 : Nat)
                                        (List.drop (0 : Nat)
                                         [b8 (Int.tdiv h3 (256 : Int)), b8 (Int.tmod h3 (256 : Int))]) ++
                                      List.take (2 : Nat)
                                       (List.drop (0 : Nat)
                                        [b8 (Int.tdiv ((8 : Int) + (↑(List.length d) : Int)) (256 : Int)),
                                         b8 (Int.tmod ((8 : Int) + (↑(List.length d) : Int)) (256 : Int))]) ++
                                     [(255 : UInt8), (255 : UInt8)] ++
                                    d)],
                                AVal.int IntKind.i64 (0 : Int)])
                              [])
                            (K
                             (AVal.tup
                              [AVal.agg
                                [AVal.str [], AVal.str [], AVal.int IntKind.i64 (0 : Int), AVal.int IntKind.i64 (0 : Int),
                                 AVal.str []],
                               AVal.int IntKind.i64 (1 : Int)])
                             []))
                       (((256 : Int) ≠ (0 : Int) ∧
                         I64
                          (Int.tdiv
                           ((65535 : Int) -
                            sumB
                             (List.take
                              (List.length
                               ([] ++
                                (List.take (2 : Nat)
                                     (List.drop (0 : Nat) [b8 (Int.tdiv h2 (256 : Int)), b8 (Int.tmod h2 (256 : Int))]) ++
                                    List.take (2 : Nat)
                                     (List.drop (0 : Nat) [b8 (Int.tdiv h3 (256 : Int)), b8 (Int.tmod h3 (256 : Int))]) ++
                                   List.take (2 : Nat)
                                    (List.drop (0 : Nat)
                                     [b8 (Int.tdiv ((8 : Int) + (↑(List.length d) : Int)) (256 : Int)),
                                      b8 (Int.tmod ((8 : Int) + (↑(List.length d) : Int)) (256 : Int))]) ++
                                  [(0 : UInt8), (0 : UInt8)] ++
                                 d)))
                              (List.drop (0 : Nat)
                               ([] ++
                                (List.take (2 : Nat)
                                     (List.drop (0 : Nat) [b8 (Int.tdiv h2 (256 : Int)), b8 (Int.tmod h2 (256 : Int))]) ++
                                    List.take (2 : Nat)
                                     (List.drop (0 : Nat) [b8 (Int.tdiv h3 (256 : Int)), b8 (Int.tmod h3 (256 : Int))]) ++
                                   List.take (2 : Nat)
                                    (List.drop (0 : Nat)
                                     [b8 (Int.tdiv ((8 : Int) + (↑(List.length d) : Int)) (256 : Int)),
                                      b8 (Int.tmod ((8 : Int) + (↑(List.length d) : Int)) (256 : Int))]) ++
                                  [(0 : UInt8), (0 : UInt8)] ++
                                 d)))))
                           (256 : Int))) ∧
                        (256 : Int) ≠ (0 : Int) ∧
                         (8 : Nat) ≤ (4611686018427387904 : Nat) ∧
                          (8 : Nat) + List.length d ≤ (4611686018427387904 : Nat) ∧
                           optP
                            (ipEncode
                             (Ip.mk f t h1 q
                              (List.take (2 : Nat)
                                   (List.drop (0 : Nat) [b8 (Int.tdiv h2 (256 : Int)), b8 (Int.tmod h2 (256 : Int))]) ++
                                  List.take (2 : Nat)
                                   (List.drop (0 : Nat) [b8 (Int.tdiv h3 (256 : Int)), b8 (Int.tmod h3 (256 : Int))]) ++
                                 List.take (2 : Nat)
                                  (List.drop (0 : Nat)
                                   [b8 (Int.tdiv ((8 : Int) + (↑(List.length d) : Int)) (256 : Int)),
                                    b8 (Int.tmod ((8 : Int) + (↑(List.length d) : Int)) (256 : Int))]) ++
                                List.take (2 : Nat)
                                 (List.drop (0 : Nat)
                                  [b8
                                    (Int.tdiv
                                     ((65535 : Int) -
                                      sumB
                                       (List.take
                                        (List.length
                                         ([] ++
                                          (List.take (2 : Nat)
                                               (List.drop (0 : Nat)
                                                [b8 (Int.tdiv h2 (256 : Int)), b8 (Int.tmod h2 (256 : Int))]) ++
                                              List.take (2 : Nat)
                                               (List.drop (0 : Nat)
                                                [b8 (Int.tdiv h3 (256 : Int)), b8 (Int.tmod h3 (256 : Int))]) ++
                                             List.take (2 : Nat)
                                              (List.drop (0 : Nat)
                                               [b8 (Int.tdiv ((8 : Int) + (↑(List.length d) : Int)) (256 : Int)),
                                                b8 (Int.tmod ((8 : Int) + (↑(List.length d) : Int)) (256 : Int))]) ++
                                            [(0 : UInt8), (0 : UInt8)] ++
                                           d)))
                                        (List.drop (0 : Nat)
                                         ([] ++
                                          (List.take (2 : Nat)
                                               (List.drop (0 : Nat)
                                                [b8 (Int.tdiv h2 (256 : Int)), b8 (Int.tmod h2 (256 : Int))]) ++
                                              List.take (2 : Nat)
                                               (List.drop (0 : Nat)
                                                [b8 (Int.tdiv h3 (256 : Int)), b8 (Int.tmod h3 (256 : Int))]) ++
                                             List.take (2 : Nat)
                                              (List.drop (0 : Nat)
                                               [b8 (Int.tdiv ((8 : Int) + (↑(List.length d) : Int)) (256 : Int)),
                                                b8 (Int.tmod ((8 : Int) + (↑(List.length d) : Int)) (256 : Int))]) ++
                                            [(0 : UInt8), (0 : UInt8)] ++
                                           d)))))
                                     (256 : Int)),
                                   b8
                                    (Int.tmod
                                     ((65535 : Int) -
                                      sumB
                                       (List.take
                                        (List.length
                                         ([] ++
                                          (List.take (2 : Nat)
                                               (List.drop (0 : Nat)
                                                [b8 (Int.tdiv h2 (256 : Int)), b8 (Int.tmod h2 (256 : Int))]) ++
                                              List.take (2 : Nat)
                                               (List.drop (0 : Nat)
                                                [b8 (Int.tdiv h3 (256 : Int)), b8 (Int.tmod h3 (256 : Int))]) ++
                                             List.take (2 : Nat)
                                              (List.drop (0 : Nat)
                                               [b8 (Int.tdiv ((8 : Int) + (↑(List.length d) : Int)) (256 : Int)),
                                                b8 (Int.tmod ((8 : Int) + (↑(List.length d) : Int)) (256 : Int))]) ++
                                            [(0 : UInt8), (0 : UInt8)] ++
                                           d)))
                                        (List.drop (0 : Nat)
                                         ([] ++
                                          (List.take (2 : Nat)
                                               (List.drop (0 : Nat)
                                                [b8 (Int.tdiv h2 (256 : Int)), b8 (Int.tmod h2 (256 : Int))]) ++
                                              List.take (2 : Nat)
                                               (List.drop (0 : Nat)
                                                [b8 (Int.tdiv h3 (256 : Int)), b8 (Int.tmod h3 (256 : Int))]) ++
                                             List.take (2 : Nat)
                                              (List.drop (0 : Nat)
                                               [b8 (Int.tdiv ((8 : Int) + (↑(List.length d) : Int)) (256 : Int)),
                                                b8 (Int.tmod ((8 : Int) + (↑(List.length d) : Int)) (256 : Int))]) ++
                                            [(0 : UInt8), (0 : UInt8)] ++
                                           d)))))
                                     (256 : Int))]) ++
                               d)))
                            (fun x =>
                             K
                              (AVal.tup
                               [AVal.agg
                                 [AVal.str f, AVal.str t, AVal.int IntKind.i64 h1, AVal.int IntKind.i64 q,
                                  AVal.str
                                   (List.take (2 : Nat)
                                        (List.drop (0 : Nat)
                                         [b8 (Int.tdiv h2 (256 : Int)), b8 (Int.tmod h2 (256 : Int))]) ++
                                       List.take (2 : Nat)
                                        (List.drop (0 : Nat)
                                         [b8 (Int.tdiv h3 (256 : Int)), b8 (Int.tmod h3 (256 : Int))]) ++
                                      List.take (2 : Nat)
                                       (List.drop (0 : Nat)
                                        [b8 (Int.tdiv ((8 : Int) + (↑(List.length d) : Int)) (256 : Int)),
                                         b8 (Int.tmod ((8 : Int) + (↑(List.length d) : Int)) (256 : Int))]) ++
                                     List.take (2 : Nat)
                                      (List.drop (0 : Nat)
                                       [b8
                                         (Int.tdiv
                                          ((65535 : Int) -
                                           sumB
                                            (List.take
                                             (List.length
                                              ([] ++
                                               (List.take (2 : Nat)
                                                    (List.drop (0 : Nat)
                                                     [b8 (Int.tdiv h2 (256 : Int)), b8 (Int.tmod h2 (256 : Int))]) ++
                                                   List.take (2 : Nat)
                                                    (List.drop (0 : Nat)
                                                     [b8 (Int.tdiv h3 (256 : Int)), b8 (Int.tmod h3 (256 : Int))]) ++
                                                  List.take (2 : Nat)
                                                   (List.drop (0 : Nat)
                                                    [b8 (Int.tdiv ((8 : Int) + (↑(List.length d) : Int)) (256 : Int)),
                                                     b8 (Int.tmod ((8 : Int) + (↑(List.length d) : Int)) (256 : Int))]) ++
                                                 [(0 : UInt8), (0 : UInt8)] ++
                                                d)))
                                             (List.drop (0 : Nat)
                                              ([] ++
                                               (List.take (2 : Nat)
                                                    (List.drop (0 : Nat)
                                                     [b8 (Int.tdiv h2 (256 : Int)), b8 (Int.tmod h2 (256 : Int))]) ++
                                                   List.take (2 : Nat)
                                                    (List.drop (0 : Nat)
                                                     [b8 (Int.tdiv h3 (256 : Int)), b8 (Int.tmod h3 (256 : Int))]) ++
                                                  List.take (2 : Nat)
                                                   (List.drop (0 : Nat)
                                                    [b8 (Int.tdiv ((8 : Int) + (↑(List.length d) : Int)) (256 : Int)),
                                                     b8 (Int.tmod ((8 : Int) + (↑(List.length d) : Int)) (256 : Int))]) ++
                                                 [(0 : UInt8), (0 : UInt8)] ++
                                                d)))))
                                          (256 : Int)),
                                        b8
                                         (Int.tmod
                                          ((65535 : Int) -
                                           sumB
                                            (List.take
                                             (List.length
                                              ([] ++
                                               (List.take (2 : Nat)
                                                    (List.drop (0 : Nat)
                                                     [b8 (Int.tdiv h2 (256 : Int)), b8 (Int.tmod h2 (256 : Int))]) ++
                                                   List.take (2 : Nat)
                                                    (List.drop (0 : Nat)
                                                     [b8 (Int.tdiv h3 (256 : Int)), b8 (Int.tmod h3 (256 : Int))]) ++
                                                  List.take (2 : Nat)
                                                   (List.drop (0 : Nat)
                                                    [b8 (Int.tdiv ((8 : Int) + (↑(List.length d) : Int)) (256 : Int)),
                                                     b8 (Int.tmod ((8 : Int) + (↑(List.length d) : Int)) (256 : Int))]) ++
                                                 [(0 : UInt8), (0 : UInt8)] ++
                                                d)))
                                             (List.drop (0 : Nat)
                                              ([] ++
                                               (List.take (2 : Nat)
                                                    (List.drop (0 : Nat)
                                                     [b8 (Int.tdiv h2 (256 : Int)), b8 (Int.tmod h2 (256 : Int))]) ++
                                                   List.take (2 : Nat)
                                                    (List.drop (0 : Nat)
                                                     [b8 (Int.tdiv h3 (256 : Int)), b8 (Int.tmod h3 (256 : Int))]) ++
                                                  List.take (2 : Nat)
                                                   (List.drop (0 : Nat)
                                                    [b8 (Int.tdiv ((8 : Int) + (↑(List.length d) : Int)) (256 : Int)),
                                                     b8 (Int.tmod ((8 : Int) + (↑(List.length d) : Int)) (256 : Int))]) ++
                                                 [(0 : UInt8), (0 : UInt8)] ++
                                                d)))))
                                          (256 : Int))]) ++
                                    d)],
                                AVal.int IntKind.i64 (0 : Int)])
                              [])
                            (K
                             (AVal.tup
                              [AVal.agg
                                [AVal.str [], AVal.str [], AVal.int IntKind.i64 (0 : Int), AVal.int IntKind.i64 (0 : Int),
                                 AVal.str []],
                               AVal.int IntKind.i64 (1 : Int)])
                             [])))))))) := by kernel_rfl
theorem twoT {n : Int} (h : 0 ≤ n) : [b8 (Int.tdiv n 256), b8 (Int.tmod n 256)] = two n := by
  rw [Int.tdiv_eq_ediv_of_nonneg h, Int.tmod_eq_emod_of_nonneg h, b8_mod]; rfl
theorem twoS (l : List UInt8) : [b8 (Int.tdiv (65535 - sumB l) 256), b8 (Int.tmod (65535 - sumB l) 256)] = two (65535 - sumB l) := twoT (by have := sumB_bd l; omega)
theorem twoF : [b8 (Int.tdiv 65535 256), b8 (Int.tmod 65535 256)] = two 65535 := twoT (by omega)
theorem bd6z (x y d : List UInt8) (n : Int) : x ++ y ++ [0, 0, 0, 0, 0, 0, 0, 0, 80] ++ [b8 n] ++ [255, 255] ++ [0, 0] ++ ([0, 0] ++ d) = ptBd 6 n (x ++ y) d 0 := by
  have : two 0 = [0, 0] := by decide +kernel
  unfold ptBd; rw [if_neg (by omega), this]; simp
theorem bd6 (x y d : List UInt8) (n s : Int) : x ++ y ++ [0, 0, 0, 0, 0, 0, 0, 0, 80] ++ [b8 n] ++ [255, 255] ++ two s ++ ([0, 0] ++ d) = ptBd 6 n (x ++ y) d s := by
  unfold ptBd; rw [if_neg (by omega)]; simp
theorem bd17z (x y d : List UInt8) (n : Int) : x ++ y ++ two (8 + (d.length : Int)) ++ [0, 0] ++ d = ptBd 17 n (x ++ y) d 0 := by
  have : two 0 = [0, 0] := by decide +kernel
  unfold ptBd; rw [if_pos rfl, this]
theorem bd17 (x y d : List UInt8) (n s : Int) : x ++ y ++ two (8 + (d.length : Int)) ++ two s ++ d = ptBd 17 n (x ++ y) d s := by
  unfold ptBd; rw [if_pos rfl]
theorem optP_n {α : Type} (k : α → Prop) (d : Prop) : optP none k d = d := rfl
theorem optP_s {α : Type} (x : α) (k : α → Prop) (d : Prop) : optP (some x) k d = k x := rfl
set_option maxHeartbeats 4000000 in
theorem outriderref05_Write_p : ∀ args H K, ptWriteRow args H K → fnP Try.prog Tpr1 ann_outriderref05_Write Try.f11 args H K := by
  intro args H K h
  unfold ptWriteRow at h
  split at h
  · rename_i f t p q b h1 h2 h3 h4 h5 d
    rw [ref05_Write_eq]
    obtain ⟨hd, hK⟩ := h
    have hT8 := twoT (n := 8 + (d.length : Int)) (by omega)
    have hpl := @pseudo_len f t h1
    have hbl := fun s => ptBd_len 6 h4 (two h2 ++ two h3) d s
    have hbl7 := fun s => ptBd_len 17 h4 (two h2 ++ two h3) d s
    refine brP_i (fun h => ?_) (fun hp => ?_)
    · simp only [Bool.and_eq_true, Bool.or_eq_true, Bool.and_eq_false_iff, Bool.or_eq_false_iff, decide_eq_true_eq, decide_eq_false_iff_not, Bool.not_eq_true', Bool.not_eq_false', Bool.not_true, Bool.not_false, Bool.true_and, Bool.and_true, Bool.false_or, Bool.or_false, beq_iff_eq, beq_eq_false_iff_ne, ne_eq] at h
      rcases ptWrite_cases ⟨f, t, p, q, b⟩ ⟨h1, h2, h3, h4, h5⟩ d with ⟨k1, e⟩ | ⟨k1, k2, k3, e⟩ | ⟨k1, k2, e⟩ <;> simp only at k1 <;> first | (rw [e] at hK; exact hK) | omega
    simp only [Bool.and_eq_true, Bool.or_eq_true, Bool.and_eq_false_iff, Bool.or_eq_false_iff, decide_eq_true_eq, decide_eq_false_iff_not, Bool.not_eq_true', Bool.not_eq_false', Bool.not_true, Bool.not_false, Bool.true_and, Bool.and_true, Bool.false_or, Bool.or_false, beq_iff_eq, beq_eq_false_iff_ne, ne_eq] at hp
    have hp' : h1 = 6 ∨ h1 = 17 := by omega
    have hno : ¬ (hdOk ⟨h1, h2, h3, h4, h5⟩ = true ∧ ipOk (ptPacket ⟨f, t, p, q, b⟩ ⟨h1, h2, h3, h4, h5⟩ d) = true) → ptWrite ⟨f, t, p, q, b⟩ ⟨h1, h2, h3, h4, h5⟩ d = (noIp, 1) := fun h => by
      rcases ptWrite_cases ⟨f, t, p, q, b⟩ ⟨h1, h2, h3, h4, h5⟩ d with ⟨k1, e⟩ | ⟨k1, k2, k3, e⟩ | ⟨k1, k2, e⟩
      · simp only at k1; omega
      · exact absurd ⟨k2, k3⟩ h
      · exact e
    refine brP_i (fun h => ?_) (fun hr => ?_)
    · simp only [Bool.and_eq_true, Bool.or_eq_true, Bool.and_eq_false_iff, Bool.or_eq_false_iff, decide_eq_true_eq, decide_eq_false_iff_not, Bool.not_eq_true', Bool.not_eq_false', Bool.not_true, Bool.not_false, Bool.true_and, Bool.and_true, Bool.false_or, Bool.or_false, beq_iff_eq, beq_eq_false_iff_ne, ne_eq] at h
      rw [hno (by rw [hdOk_iff]; simp only; omega)] at hK; exact hK
    simp only [Bool.and_eq_true, Bool.or_eq_true, Bool.and_eq_false_iff, Bool.or_eq_false_iff, decide_eq_true_eq, decide_eq_false_iff_not, Bool.not_eq_true', Bool.not_eq_false', Bool.not_true, Bool.not_false, Bool.true_and, Bool.and_true, Bool.false_or, Bool.or_false, beq_iff_eq, beq_eq_false_iff_ne, ne_eq] at hr
    refine brP_i (fun h => ?_) (fun hr' => ?_)
    · simp only [Bool.and_eq_true, Bool.or_eq_true, Bool.and_eq_false_iff, Bool.or_eq_false_iff, decide_eq_true_eq, decide_eq_false_iff_not, Bool.not_eq_true', Bool.not_eq_false', Bool.not_true, Bool.not_false, Bool.true_and, Bool.and_true, Bool.false_or, Bool.or_false, beq_iff_eq, beq_eq_false_iff_ne, ne_eq] at h
      rw [hno (by
        rw [hdOk_iff, ipOk_iff]; simp only [ptPacket, ptBody, ptBd_len, List.length_append, two_len]; split <;> omega)] at hK; exact hK
    simp only [Bool.and_eq_true, Bool.or_eq_true, Bool.and_eq_false_iff, Bool.or_eq_false_iff, decide_eq_true_eq, decide_eq_false_iff_not, Bool.not_eq_true', Bool.not_eq_false', Bool.not_true, Bool.not_false, Bool.true_and, Bool.and_true, Bool.false_or, Bool.or_false, beq_iff_eq, beq_eq_false_iff_ne, ne_eq] at hr'
    have hyes : ∀ X, ptPacket ⟨f, t, p, q, b⟩ ⟨h1, h2, h3, h4, h5⟩ d = X → hdOk ⟨h1, h2, h3, h4, h5⟩ = true → ipOk X = true → ptWrite ⟨f, t, p, q, b⟩ ⟨h1, h2, h3, h4, h5⟩ d = (X, 0) := fun X hX h0 h => by
      subst hX
      rcases ptWrite_cases ⟨f, t, p, q, b⟩ ⟨h1, h2, h3, h4, h5⟩ d with ⟨k1, e⟩ | ⟨k1, k2, k3, e⟩ | ⟨k1, k2, e⟩
      · simp only at k1; omega
      · exact e
      · exact absurd ⟨h0, h⟩ k2
    have hok : hdOk ⟨h1, h2, h3, h4, h5⟩ = true := by rw [hdOk_iff]; simp only; omega
    have hT2 := twoT (n := h2) (by omega)
    have hT3 := twoT (n := h3) (by omega)
    have i2 : I64 (Int.tdiv h2 256) := by rw [Int.tdiv_eq_ediv_of_nonneg (by omega)]; unfold I64; omega
    have i3 : I64 (Int.tdiv h3 256) := by rw [Int.tdiv_eq_ediv_of_nonneg (by omega)]; unfold I64; omega
    have i8 : I64 (Int.tdiv (8 + (d.length : Int)) 256) := by rw [Int.tdiv_eq_ediv_of_nonneg (by omega)]; unfold I64; omega
    have iS : ∀ l, I64 (Int.tdiv (65535 - sumB l) 256) := fun l => by have := sumB_bd l; rw [Int.tdiv_eq_ediv_of_nonneg (by omega)]; unfold I64; omega
    have iD : I64 (8 + (d.length : Int)) := by unfold I64; omega
    have n256 : ((256 : Int) ≠ 0) = True := eq_true (by decide)
    have tk1 : ∀ (y : UInt8), List.take 1 [y] = [y] := fun _ => rfl
    have tk2 : ∀ (y z : UInt8), List.take 2 [y, z] = [y, z] := fun _ _ => rfl
    have tk3 : ∀ n, List.take 2 (two n) = two n := fun _ => rfl
    have hFF : [255, 255] = two 65535 := by decide +kernel
    have hFz : ∀ (x y : List UInt8) (n : Int), x ++ y ++ [0, 0, 0, 0, 0, 0, 0, 0, 80] ++ [b8 n] ++ [255, 255] ++ [255, 255] ++ ([0, 0] ++ d) = ptBd 6 n (x ++ y) d 65535 := fun x y n => by rw [← bd6, ← hFF]
    have hF7 : ∀ (x y : List UInt8), x ++ y ++ two (8 + (d.length : Int)) ++ [255, 255] ++ d = ptBd 17 h4 (x ++ y) d 65535 := fun x y => by rw [← bd17, ← hFF]
    have h70 : ∀ (x y : List UInt8), x ++ y ++ two (8 + (d.length : Int)) ++ [0, 0] ++ d = ptBd 17 h4 (x ++ y) d 0 := fun x y => bd17z x y d h4
    have h7s : ∀ (x y : List UInt8) s, x ++ y ++ two (8 + (d.length : Int)) ++ two s ++ d = ptBd 17 h4 (x ++ y) d s := fun x y s => bd17 x y d h4 s
    simp only [List.drop_zero, List.take_length, tk1, tk2, hT2, hT3, hT8, i2, i3, i8, iD, n256, true_and, Nat.reduceLeDiff]
    refine brP_i (fun h => ?_) (fun h => ?_)
    · simp only [Bool.and_eq_true, Bool.or_eq_true, Bool.and_eq_false_iff, Bool.or_eq_false_iff, decide_eq_true_eq, decide_eq_false_iff_not, Bool.not_eq_true', Bool.not_eq_false', Bool.not_true, Bool.not_false, Bool.true_and, Bool.and_true, Bool.false_or, Bool.or_false, beq_iff_eq, beq_eq_false_iff_ne, ne_eq] at h
      subst h
      simp only [tk3, bd6z, hFz, twoS, bd6, h70, hF7, h7s, Int.reduceEq, decide_true, decide_false, Bool.and_false, Bool.and_true, brP_f, List.nil_append, Nat.zero_add]
      have hpk := fun l (hl : pseudoL f t 6 ((ptBd 6 h4 (two h2 ++ two h3) d 0).length : Int) = l) => ptPacket_is (p := ⟨f, t, p, q, b⟩) (h := ⟨6, h2, h3, h4, h5⟩) (d := d) (l := l) hl
      simp only [ptBody] at hpk
      have hb0 : (ptBd 6 h4 (two h2 ++ two h3) d 0).length ≤ d.length + 20 := by rw [ptBd_len]; simp only [List.length_append, two_len]; split <;> omega
      refine ⟨?_, ?_⟩
      · (try simp only [List.length_append, List.length_cons, List.length_nil, two_len]); omega
      refine ⟨?_, ?_⟩
      · (try simp only [List.length_append, List.length_cons, List.length_nil, two_len]); omega
      cases hps : pseudo f t 6 ((ptBd 6 h4 (two h2 ++ two h3) d 0).length : Int) with
      | none =>
        have hpk := hpk [] (by unfold pseudoL; rw [hps]; rfl)
        simp only [hps, optP_n, optP_s, List.length_append, List.nil_append, i64_sum, iS, true_and, List.length_cons, List.length_nil, List.length_append]
        refine ⟨by omega, by omega, by omega, ?_⟩
        have e := hpk.2 (by omega)
        try simp only [List.nil_append] at e
        refine optP_i (fun x hx => ?_) (fun hx => ?_)
        · rw [hyes _ e hok (ipEnc_some hx)] at hK; exact hK
        · rw [hno (by rw [e, ipEnc_none hx]; simp)] at hK; exact hK
      | some l =>
        have hpk := hpk l (by unfold pseudoL; rw [hps]; rfl)
        have hl40 := hpl hps
        simp only [hps, optP_n, optP_s, List.length_append, List.nil_append, i64_sum, iS, true_and, List.length_cons, List.length_nil, List.length_append]
        refine ⟨by omega, by omega, by omega, ?_⟩
        have e := hpk.2 (by omega)
        try simp only [List.nil_append] at e
        refine optP_i (fun x hx => ?_) (fun hx => ?_)
        · rw [hyes _ e hok (ipEnc_some hx)] at hK; exact hK
        · rw [hno (by rw [e, ipEnc_none hx]; simp)] at hK; exact hK
    · simp only [Bool.and_eq_true, Bool.or_eq_true, Bool.and_eq_false_iff, Bool.or_eq_false_iff, decide_eq_true_eq, decide_eq_false_iff_not, Bool.not_eq_true', Bool.not_eq_false', Bool.not_true, Bool.not_false, Bool.true_and, Bool.and_true, Bool.false_or, Bool.or_false, beq_iff_eq, beq_eq_false_iff_ne, ne_eq] at h
      have : h1 = 17 := by omega
      subst this
      simp only [tk3, bd6z, hFz, twoS, bd6, h70, hF7, h7s, Int.reduceEq, decide_true, decide_false, Bool.and_false, Bool.and_true, brP_f, List.nil_append, Nat.zero_add]
      have hpk := fun l (hl : pseudoL f t 17 ((ptBd 17 h4 (two h2 ++ two h3) d 0).length : Int) = l) => ptPacket_is (p := ⟨f, t, p, q, b⟩) (h := ⟨17, h2, h3, h4, h5⟩) (d := d) (l := l) hl
      simp only [ptBody] at hpk
      have hb0 : (ptBd 17 h4 (two h2 ++ two h3) d 0).length ≤ d.length + 20 := by rw [ptBd_len]; simp only [List.length_append, two_len]; split <;> omega
      refine ⟨?_, ?_⟩
      · (try simp only [List.length_append, List.length_cons, List.length_nil, two_len]); omega
      
      cases hps : pseudo f t 17 ((ptBd 17 h4 (two h2 ++ two h3) d 0).length : Int) with
      | none =>
        have hpk := hpk [] (by unfold pseudoL; rw [hps]; rfl)
        simp only [hps, optP_n, optP_s, List.length_append, List.nil_append, i64_sum, iS, true_and, List.length_cons, List.length_nil, List.length_append]
        refine ⟨by omega, by omega, ?_⟩
        refine brP_d (fun hz => ?_) (fun hz => ?_)
        · have e := hpk.1 ⟨by simpa only [List.nil_append] using hz, trivial⟩
          try simp only [List.nil_append] at e
          (first | refine ⟨by omega, ?_⟩ | refine ⟨by unfold I64; omega, by omega, ?_⟩)
          refine optP_i (fun x hx => ?_) (fun hx => ?_)
          · rw [hyes _ e hok (ipEnc_some hx)] at hK; exact hK
          · rw [hno (by rw [e, ipEnc_none hx]; simp)] at hK; exact hK
        · have e := hpk.2 (fun h => hz (by simpa only [List.nil_append] using h.1))
          try simp only [List.nil_append] at e
          (first | refine ⟨by omega, ?_⟩ | refine ⟨by unfold I64; omega, by omega, ?_⟩)
          refine optP_i (fun x hx => ?_) (fun hx => ?_)
          · rw [hyes _ e hok (ipEnc_some hx)] at hK; exact hK
          · rw [hno (by rw [e, ipEnc_none hx]; simp)] at hK; exact hK
      | some l =>
        have hpk := hpk l (by unfold pseudoL; rw [hps]; rfl)
        have hl40 := hpl hps
        simp only [hps, optP_n, optP_s, List.length_append, List.nil_append, i64_sum, iS, true_and, List.length_cons, List.length_nil, List.length_append]
        refine ⟨by omega, by omega, ?_⟩
        refine brP_d (fun hz => ?_) (fun hz => ?_)
        · have e := hpk.1 ⟨by simpa only [List.nil_append] using hz, trivial⟩
          try simp only [List.nil_append] at e
          (first | refine ⟨by omega, ?_⟩ | refine ⟨by unfold I64; omega, by omega, ?_⟩)
          refine optP_i (fun x hx => ?_) (fun hx => ?_)
          · rw [hyes _ e hok (ipEnc_some hx)] at hK; exact hK
          · rw [hno (by rw [e, ipEnc_none hx]; simp)] at hK; exact hK
        · have e := hpk.2 (fun h => hz (by simpa only [List.nil_append] using h.1))
          try simp only [List.nil_append] at e
          (first | refine ⟨by omega, ?_⟩ | refine ⟨by unfold I64; omega, by omega, ?_⟩)
          refine optP_i (fun x hx => ?_) (fun hx => ?_)
          · rw [hyes _ e hok (ipEnc_some hx)] at hK; exact hK
          · rw [hno (by rw [e, ipEnc_none hx]; simp)] at hK; exact hK
  · exact h.elim
def Tpr2 : Specs := ext Tpr1 11 (ptWriteRow)
theorem Tpr2_sound : TSound Try.prog Tpr2 := ext_sound Tpr1_sound (row_of Tpr1_sound mixed Try.func11 (by decide +kernel) outriderref05_Write_p)
abbrev Tpr3 : Specs := Tpr2
theorem Tpr3_sound : TSound Try.prog Tpr3 := Tpr2_sound
abbrev Tpr4 : Specs := Tpr3
theorem Tpr4_sound : TSound Try.prog Tpr4 := Tpr3_sound
abbrev Tpr : Specs := Tpr4
theorem Tpr_sound : TSound Try.prog Tpr := Tpr4_sound
end Go.Proofs.Ytbaolkfdkjljjaa.Ae

