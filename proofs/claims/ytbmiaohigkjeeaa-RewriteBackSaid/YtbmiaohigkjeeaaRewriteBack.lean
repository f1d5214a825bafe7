/- RewriteBack: to another one, and to the first one again, is the packet that was there, but for two hops, and how its sum is written. No conditions. -/
import Derived.Test.YtbmiaohigkjeeaaAlx
import Derived.Test.YtbmiaohigkjeeaaMrw4
set_option linter.unusedSimpArgs false
set_option linter.unusedVariables false
namespace Go.Proofs.Ytbmiaohigkjeeaa.Ae
open Go Go.RowKit
def ann_outriderlaw19_RewriteBack : Nat → List Nat × Nat × List (List Nat)
  | 14 => ([], 13, [[], [0], [], [0, 1, 2], [0, 1, 2, 3], [0, 1, 2, 3, 4], [], [6], [], [8], [6, 7, 8, 9], [6, 7, 8, 9, 10], [0, 1, 2, 3, 4, 5, 6, 7, 8, 9, 10, 11]])
  | 15 => ([], 13, [[], [0], [], [0, 1, 2], [0, 1, 2, 3], [0, 1, 2, 3, 4], [], [6], [], [8], [6, 7, 8, 9], [6, 7, 8, 9, 10], [0, 1, 2, 3, 4, 5, 6, 7, 8, 9, 10, 11]])
  | 16 => ([], 30, [[], [0], [0, 1], [0, 1], [0, 1, 2, 3], [0, 1, 2, 3, 4], [0, 1, 2, 3, 4, 5], [0, 1, 2, 3, 4, 5, 6], [0, 1, 2, 3, 4, 5, 6, 7], [0, 1, 2, 3, 4, 5, 6], [0, 1, 2, 3, 4, 5, 6, 7, 8, 9], [0, 1, 2, 3, 4, 5, 6], [0, 1, 2, 3, 4, 5, 6, 11], [0, 1, 2, 3, 4, 5, 6], [0, 1, 2, 3, 4, 5, 6, 11, 12, 13], [0, 1, 2, 3, 4, 5, 6, 7, 8, 9, 10, 11, 12, 13, 14], [0, 1, 2, 3, 4, 5, 6, 7, 8, 9, 10, 11, 12, 13, 14, 15], [0, 1, 2, 3, 4, 5, 6, 7, 8, 9, 10, 11, 12, 13, 14, 15, 16], [0, 1, 2, 3, 4, 5, 6, 7, 8, 9, 10, 11, 12, 13, 14, 15, 16, 17], [0, 1, 2, 3, 4, 5, 6, 7, 8, 9, 10, 11, 12, 13, 14, 15, 16, 17, 18], [0, 1, 2, 3, 4, 5, 6, 7, 8, 9, 10, 11, 12, 13, 14, 15, 16, 17], [0, 1, 2, 3, 4, 5, 6, 7, 8, 9, 10, 11, 12, 13, 14, 15, 16, 17, 20], [0, 1, 2, 3, 4, 5, 6, 7, 8, 9, 10, 11, 12, 13, 14, 15, 16, 17, 18, 19, 20, 21], [0, 1, 2, 3, 4, 5, 6, 7, 8, 9, 10, 11, 12, 13, 14, 15, 16, 17], [0, 1, 2, 3, 4, 5, 6, 7, 8, 9, 10, 11, 12, 13, 14, 15, 16, 17, 23], [0, 1, 2, 3, 4, 5, 6, 7, 8, 9, 10, 11, 12, 13, 14, 15, 16, 17], [0, 1, 2, 3, 4, 5, 6, 7, 8, 9, 10, 11, 12, 13, 14, 15, 16, 17, 25], [0, 1, 2, 3, 4, 5, 6, 7, 8, 9, 10, 11, 12, 13, 14, 15, 16, 17, 23, 24, 25, 26], [0, 1, 2, 3, 4, 5, 6, 7, 8, 9, 10, 11, 12, 13, 14, 15, 16, 17, 18, 19, 20, 21, 22, 23, 24, 25, 26, 27], [0, 1, 2, 3, 4, 5, 6, 7, 8, 9, 10, 11, 12, 13, 14, 15, 16, 17, 18, 19, 20, 21, 22, 23, 24, 25, 26, 27, 28]])
  | 2000002 => ([], 14, [[], [0], [0, 1], [0, 1, 2], [0, 1, 2, 3], [0, 1, 2, 3, 4], [0, 1, 2, 3, 4, 5], [0, 1, 2, 3, 4, 5, 6], [0, 1, 2, 3, 4, 5, 6, 7], [0, 1, 2, 3, 4, 5, 6, 7, 8], [0, 1, 2, 3, 4, 5, 6, 7, 8, 9], [0, 1, 2, 3, 4, 5, 6, 7, 8, 9, 10], [0, 1, 2, 3, 4, 5, 6, 7, 8, 9, 10, 11]])
  | 2000009 => ([], 34, [[], [0], [0, 1], [0, 1, 2], [0, 1, 2, 3], [0, 1, 2, 3, 4], [0, 1, 2, 3, 4, 5], [0, 1, 2, 3, 4, 5, 6], [0, 1, 2, 3, 4, 5, 6, 7], [0, 1, 2, 3, 4, 5, 6, 7, 8], [0, 1, 2, 3, 4, 5, 6, 7, 8, 9], [0, 1, 2, 3, 4, 5, 6, 7, 8, 9, 10], [0, 1, 2, 3, 4, 5, 6, 7, 8, 9, 10, 11], [0, 1, 2, 3, 4, 5, 6, 7, 8, 9, 10, 11, 12], [0, 1, 2, 3, 4, 5, 6, 7, 8, 9, 10, 11, 12, 13], [0, 1, 2, 3, 4, 5, 6, 7, 8, 9, 10, 11, 12, 13, 14], [0, 1, 2, 3, 4, 5, 6, 7, 8, 9, 10, 11, 12, 13, 14, 15], [0, 1, 2, 3, 4, 5, 6, 7, 8, 9, 10, 11, 12, 13, 14, 15, 16], [0, 1, 2, 3, 4, 5, 6, 7, 8, 9, 10, 11, 12, 13, 14, 15, 16, 17], [0, 1, 2, 3, 4, 5, 6, 7, 8, 9, 10, 11, 12, 13, 14, 15, 16, 17, 18], [0, 1, 2, 3, 4, 5, 6, 7, 8, 9, 10, 11, 12, 13, 14, 15, 16, 17, 18, 19], [0, 1, 2, 3, 4, 5, 6, 7, 8, 9, 10, 11, 12, 13, 14, 15, 16, 17, 18, 19, 20], [0, 1, 2, 3, 4, 5, 6, 7, 8, 9, 10, 11, 12, 13, 14, 15, 16, 17, 18, 19, 20, 21], [0, 1, 2, 3, 4, 5, 6, 7, 8, 9, 10, 11, 12, 13, 14, 15, 16, 17, 18, 19, 20, 21, 22], [0, 1, 2, 3, 4, 5, 6, 7, 8, 9, 10, 11, 12, 13, 14, 15, 16, 17, 18, 19, 20, 21, 22, 23], [0, 1, 2, 3, 4, 5, 6, 7, 8, 9, 10, 11, 12, 13, 14, 15, 16, 17, 18, 19, 20, 21, 22, 23, 24], [0, 1, 2, 3, 4, 5, 6, 7, 8, 9, 10, 11, 12, 13, 14, 15, 16, 17, 18, 19, 20, 21, 22, 23, 24, 25], [0, 1, 2, 3, 4, 5, 6, 7, 8, 9, 10, 11, 12, 13, 14, 15, 16, 17, 18, 19, 20, 21, 22, 23, 24, 25, 26], [0, 1, 2, 3, 4, 5, 6, 7, 8, 9, 10, 11, 12, 13, 14, 15, 16, 17, 18, 19, 20, 21, 22, 23, 24, 25, 26, 27], [0, 1, 2, 3, 4, 5, 6, 7, 8, 9, 10, 11, 12, 13, 14, 15, 16, 17, 18, 19, 20, 21, 22, 23, 24, 25, 26, 27, 28], [0, 1, 2, 3, 4, 5, 6, 7, 8, 9, 10, 11, 12, 13, 14, 15, 16, 17, 18, 19, 20, 21, 22, 23, 24, 25, 26, 27, 28, 29], [0, 1, 2, 3, 4, 5, 6, 7, 8, 9, 10, 11, 12, 13, 14, 15, 16, 17, 18, 19, 20, 21, 22, 23, 24, 25, 26, 27, 28, 29, 30], [0, 1, 2, 3, 4, 5, 6, 7, 8, 9, 10, 11, 12, 13, 14, 15, 16, 17, 18, 19, 20, 21, 22, 23, 24, 25, 26, 27, 28, 29, 30, 31]])
  | _ => ([], 0, [])
set_option maxRecDepth 100000 in
theorem RewriteBack_eq (f t : List UInt8) (p q : Int) (b : List UInt8) (a : List UInt8) (n : Int) (K : AVal → Hp → Prop) : fnP Try.prog Tlx ann_outriderlaw19_RewriteBack Try.f4 [.agg [.str f, .str t, .int .i64 p, .int .i64 q, .str b], .str a, .int .i64 n] [] K = (
 List.length b ≤ (140737488351232 : Nat) ∧
 I64 q ∧
 brP
 (!decide ((rwTo (Ip.mk f t p q b) a n).snd = (0 : Int)) ||
 decide ((rwTo (Ip.mk f t p q b) a n).fst.ttl ≤ (1 : Int)) ||
 decide ((3000 : Int) < (↑(List.length b) : Int)))
 (K (AVal.bool true) [])
 (List.length b ≤ (140737488351232 : Nat) ∧
 brP (decide ((ptRead (Ip.mk f t p q b)).fst.dst = (0 : Int))) (K (AVal.bool true) [])
 (List.length (rwTo (Ip.mk f t p q b) a n).fst.body ≤ (140737488351232 : Nat) ∧
 I64 (rwTo (Ip.mk f t p q b) a n).fst.ttl ∧
 List.length
 (rwTo
 (Ip.mk (rwTo (Ip.mk f t p q b) a n).fst.src (rwTo (Ip.mk f t p q b) a n).fst.dst
 (rwTo (Ip.mk f t p q b) a n).fst.proto (rwTo (Ip.mk f t p q b) a n).fst.ttl
 (rwTo (Ip.mk f t p q b) a n).fst.body)
 t (ptRead (Ip.mk f t p q b)).fst.dst).fst.body ≤
 (140737488351232 : Nat) ∧
 impP
 (!(!decide
 ((rwTo
 (Ip.mk (rwTo (Ip.mk f t p q b) a n).fst.src (rwTo (Ip.mk f t p q b) a n).fst.dst
 (rwTo (Ip.mk f t p q b) a n).fst.proto (rwTo (Ip.mk f t p q b) a n).fst.ttl
 (rwTo (Ip.mk f t p q b) a n).fst.body)
 t (ptRead (Ip.mk f t p q b)).fst.dst).snd =
 (0 : Int)) ||
 !decide
 ((ptRead
 (Ip.mk
 (rwTo
 (Ip.mk (rwTo (Ip.mk f t p q b) a n).fst.src (rwTo (Ip.mk f t p q b) a n).fst.dst
 (rwTo (Ip.mk f t p q b) a n).fst.proto (rwTo (Ip.mk f t p q b) a n).fst.ttl
 (rwTo (Ip.mk f t p q b) a n).fst.body)
 t (ptRead (Ip.mk f t p q b)).fst.dst).fst.src
 (rwTo
 (Ip.mk (rwTo (Ip.mk f t p q b) a n).fst.src (rwTo (Ip.mk f t p q b) a n).fst.dst
 (rwTo (Ip.mk f t p q b) a n).fst.proto (rwTo (Ip.mk f t p q b) a n).fst.ttl
 (rwTo (Ip.mk f t p q b) a n).fst.body)
 t (ptRead (Ip.mk f t p q b)).fst.dst).fst.dst
 (rwTo
 (Ip.mk (rwTo (Ip.mk f t p q b) a n).fst.src (rwTo (Ip.mk f t p q b) a n).fst.dst
 (rwTo (Ip.mk f t p q b) a n).fst.proto (rwTo (Ip.mk f t p q b) a n).fst.ttl
 (rwTo (Ip.mk f t p q b) a n).fst.body)
 t (ptRead (Ip.mk f t p q b)).fst.dst).fst.proto
 (rwTo
 (Ip.mk (rwTo (Ip.mk f t p q b) a n).fst.src (rwTo (Ip.mk f t p q b) a n).fst.dst
 (rwTo (Ip.mk f t p q b) a n).fst.proto (rwTo (Ip.mk f t p q b) a n).fst.ttl
 (rwTo (Ip.mk f t p q b) a n).fst.body)
 t (ptRead (Ip.mk f t p q b)).fst.dst).fst.ttl
 (rwTo
 (Ip.mk (rwTo (Ip.mk f t p q b) a n).fst.src (rwTo (Ip.mk f t p q b) a n).fst.dst
 (rwTo (Ip.mk f t p q b) a n).fst.proto (rwTo (Ip.mk f t p q b) a n).fst.ttl
 (rwTo (Ip.mk f t p q b) a n).fst.body)
 t (ptRead (Ip.mk f t p q b)).fst.dst).fst.body)).snd =
 (0 : Int)) ||
 !(decide
 ((ptRead
 (Ip.mk
 (rwTo
 (Ip.mk (rwTo (Ip.mk f t p q b) a n).fst.src (rwTo (Ip.mk f t p q b) a n).fst.dst
 (rwTo (Ip.mk f t p q b) a n).fst.proto (rwTo (Ip.mk f t p q b) a n).fst.ttl
 (rwTo (Ip.mk f t p q b) a n).fst.body)
 t (ptRead (Ip.mk f t p q b)).fst.dst).fst.src
 (rwTo
 (Ip.mk (rwTo (Ip.mk f t p q b) a n).fst.src (rwTo (Ip.mk f t p q b) a n).fst.dst
 (rwTo (Ip.mk f t p q b) a n).fst.proto (rwTo (Ip.mk f t p q b) a n).fst.ttl
 (rwTo (Ip.mk f t p q b) a n).fst.body)
 t (ptRead (Ip.mk f t p q b)).fst.dst).fst.dst
 (rwTo
 (Ip.mk (rwTo (Ip.mk f t p q b) a n).fst.src (rwTo (Ip.mk f t p q b) a n).fst.dst
 (rwTo (Ip.mk f t p q b) a n).fst.proto (rwTo (Ip.mk f t p q b) a n).fst.ttl
 (rwTo (Ip.mk f t p q b) a n).fst.body)
 t (ptRead (Ip.mk f t p q b)).fst.dst).fst.proto
 (rwTo
 (Ip.mk (rwTo (Ip.mk f t p q b) a n).fst.src (rwTo (Ip.mk f t p q b) a n).fst.dst
 (rwTo (Ip.mk f t p q b) a n).fst.proto (rwTo (Ip.mk f t p q b) a n).fst.ttl
 (rwTo (Ip.mk f t p q b) a n).fst.body)
 t (ptRead (Ip.mk f t p q b)).fst.dst).fst.ttl
 (rwTo
 (Ip.mk (rwTo (Ip.mk f t p q b) a n).fst.src (rwTo (Ip.mk f t p q b) a n).fst.dst
 (rwTo (Ip.mk f t p q b) a n).fst.proto (rwTo (Ip.mk f t p q b) a n).fst.ttl
 (rwTo (Ip.mk f t p q b) a n).fst.body)
 t (ptRead (Ip.mk f t p q b)).fst.dst).fst.body)).fst.proto =
 (ptRead (Ip.mk f t p q b)).fst.proto) &&
 (decide
 ((ptRead
 (Ip.mk
 (rwTo
 (Ip.mk (rwTo (Ip.mk f t p q b) a n).fst.src (rwTo (Ip.mk f t p q b) a n).fst.dst
 (rwTo (Ip.mk f t p q b) a n).fst.proto (rwTo (Ip.mk f t p q b) a n).fst.ttl
 (rwTo (Ip.mk f t p q b) a n).fst.body)
 t (ptRead (Ip.mk f t p q b)).fst.dst).fst.src
 (rwTo
 (Ip.mk (rwTo (Ip.mk f t p q b) a n).fst.src (rwTo (Ip.mk f t p q b) a n).fst.dst
 (rwTo (Ip.mk f t p q b) a n).fst.proto (rwTo (Ip.mk f t p q b) a n).fst.ttl
 (rwTo (Ip.mk f t p q b) a n).fst.body)
 t (ptRead (Ip.mk f t p q b)).fst.dst).fst.dst
 (rwTo
 (Ip.mk (rwTo (Ip.mk f t p q b) a n).fst.src (rwTo (Ip.mk f t p q b) a n).fst.dst
 (rwTo (Ip.mk f t p q b) a n).fst.proto (rwTo (Ip.mk f t p q b) a n).fst.ttl
 (rwTo (Ip.mk f t p q b) a n).fst.body)
 t (ptRead (Ip.mk f t p q b)).fst.dst).fst.proto
 (rwTo
 (Ip.mk (rwTo (Ip.mk f t p q b) a n).fst.src (rwTo (Ip.mk f t p q b) a n).fst.dst
 (rwTo (Ip.mk f t p q b) a n).fst.proto (rwTo (Ip.mk f t p q b) a n).fst.ttl
 (rwTo (Ip.mk f t p q b) a n).fst.body)
 t (ptRead (Ip.mk f t p q b)).fst.dst).fst.ttl
 (rwTo
 (Ip.mk (rwTo (Ip.mk f t p q b) a n).fst.src (rwTo (Ip.mk f t p q b) a n).fst.dst
 (rwTo (Ip.mk f t p q b) a n).fst.proto (rwTo (Ip.mk f t p q b) a n).fst.ttl
 (rwTo (Ip.mk f t p q b) a n).fst.body)
 t (ptRead (Ip.mk f t p q b)).fst.dst).fst.body)).fst.src =
 (ptRead (Ip.mk f t p q b)).fst.src) &&
 (decide
 ((ptRead
 (Ip.mk
 (rwTo
 (Ip.mk (rwTo (Ip.mk f t p q b) a n).fst.src (rwTo (Ip.mk f t p q b) a n).fst.dst
 (rwTo (Ip.mk f t p q b) a n).fst.proto (rwTo (Ip.mk f t p q b) a n).fst.ttl
 (rwTo (Ip.mk f t p q b) a n).fst.body)
 t (ptRead (Ip.mk f t p q b)).fst.dst).fst.src
 (rwTo
 (Ip.mk (rwTo (Ip.mk f t p q b) a n).fst.src (rwTo (Ip.mk f t p q b) a n).fst.dst
 (rwTo (Ip.mk f t p q b) a n).fst.proto (rwTo (Ip.mk f t p q b) a n).fst.ttl
 (rwTo (Ip.mk f t p q b) a n).fst.body)
 t (ptRead (Ip.mk f t p q b)).fst.dst).fst.dst
 (rwTo
 (Ip.mk (rwTo (Ip.mk f t p q b) a n).fst.src (rwTo (Ip.mk f t p q b) a n).fst.dst
 (rwTo (Ip.mk f t p q b) a n).fst.proto (rwTo (Ip.mk f t p q b) a n).fst.ttl
 (rwTo (Ip.mk f t p q b) a n).fst.body)
 t (ptRead (Ip.mk f t p q b)).fst.dst).fst.proto
 (rwTo
 (Ip.mk (rwTo (Ip.mk f t p q b) a n).fst.src (rwTo (Ip.mk f t p q b) a n).fst.dst
 (rwTo (Ip.mk f t p q b) a n).fst.proto (rwTo (Ip.mk f t p q b) a n).fst.ttl
 (rwTo (Ip.mk f t p q b) a n).fst.body)
 t (ptRead (Ip.mk f t p q b)).fst.dst).fst.ttl
 (rwTo
 (Ip.mk (rwTo (Ip.mk f t p q b) a n).fst.src (rwTo (Ip.mk f t p q b) a n).fst.dst
 (rwTo (Ip.mk f t p q b) a n).fst.proto (rwTo (Ip.mk f t p q b) a n).fst.ttl
 (rwTo (Ip.mk f t p q b) a n).fst.body)
 t (ptRead (Ip.mk f t p q b)).fst.dst).fst.body)).fst.dst =
 (ptRead (Ip.mk f t p q b)).fst.dst) &&
 (decide
 ((ptRead
 (Ip.mk
 (rwTo
 (Ip.mk (rwTo (Ip.mk f t p q b) a n).fst.src (rwTo (Ip.mk f t p q b) a n).fst.dst
 (rwTo (Ip.mk f t p q b) a n).fst.proto (rwTo (Ip.mk f t p q b) a n).fst.ttl
 (rwTo (Ip.mk f t p q b) a n).fst.body)
 t (ptRead (Ip.mk f t p q b)).fst.dst).fst.src
 (rwTo
 (Ip.mk (rwTo (Ip.mk f t p q b) a n).fst.src (rwTo (Ip.mk f t p q b) a n).fst.dst
 (rwTo (Ip.mk f t p q b) a n).fst.proto (rwTo (Ip.mk f t p q b) a n).fst.ttl
 (rwTo (Ip.mk f t p q b) a n).fst.body)
 t (ptRead (Ip.mk f t p q b)).fst.dst).fst.dst
 (rwTo
 (Ip.mk (rwTo (Ip.mk f t p q b) a n).fst.src (rwTo (Ip.mk f t p q b) a n).fst.dst
 (rwTo (Ip.mk f t p q b) a n).fst.proto (rwTo (Ip.mk f t p q b) a n).fst.ttl
 (rwTo (Ip.mk f t p q b) a n).fst.body)
 t (ptRead (Ip.mk f t p q b)).fst.dst).fst.proto
 (rwTo
 (Ip.mk (rwTo (Ip.mk f t p q b) a n).fst.src (rwTo (Ip.mk f t p q b) a n).fst.dst
 (rwTo (Ip.mk f t p q b) a n).fst.proto (rwTo (Ip.mk f t p q b) a n).fst.ttl
 (rwTo (Ip.mk f t p q b) a n).fst.body)
 t (ptRead (Ip.mk f t p q b)).fst.dst).fst.ttl
 (rwTo
 (Ip.mk (rwTo (Ip.mk f t p q b) a n).fst.src (rwTo (Ip.mk f t p q b) a n).fst.dst
 (rwTo (Ip.mk f t p q b) a n).fst.proto (rwTo (Ip.mk f t p q b) a n).fst.ttl
 (rwTo (Ip.mk f t p q b) a n).fst.body)
 t (ptRead (Ip.mk f t p q b)).fst.dst).fst.body)).fst.flags =
 (ptRead (Ip.mk f t p q b)).fst.flags) &&
 decide
 ((ptRead
 (Ip.mk
 (rwTo
 (Ip.mk (rwTo (Ip.mk f t p q b) a n).fst.src (rwTo (Ip.mk f t p q b) a n).fst.dst
 (rwTo (Ip.mk f t p q b) a n).fst.proto (rwTo (Ip.mk f t p q b) a n).fst.ttl
 (rwTo (Ip.mk f t p q b) a n).fst.body)
 t (ptRead (Ip.mk f t p q b)).fst.dst).fst.src
 (rwTo
 (Ip.mk (rwTo (Ip.mk f t p q b) a n).fst.src (rwTo (Ip.mk f t p q b) a n).fst.dst
 (rwTo (Ip.mk f t p q b) a n).fst.proto (rwTo (Ip.mk f t p q b) a n).fst.ttl
 (rwTo (Ip.mk f t p q b) a n).fst.body)
 t (ptRead (Ip.mk f t p q b)).fst.dst).fst.dst
 (rwTo
 (Ip.mk (rwTo (Ip.mk f t p q b) a n).fst.src (rwTo (Ip.mk f t p q b) a n).fst.dst
 (rwTo (Ip.mk f t p q b) a n).fst.proto (rwTo (Ip.mk f t p q b) a n).fst.ttl
 (rwTo (Ip.mk f t p q b) a n).fst.body)
 t (ptRead (Ip.mk f t p q b)).fst.dst).fst.proto
 (rwTo
 (Ip.mk (rwTo (Ip.mk f t p q b) a n).fst.src (rwTo (Ip.mk f t p q b) a n).fst.dst
 (rwTo (Ip.mk f t p q b) a n).fst.proto (rwTo (Ip.mk f t p q b) a n).fst.ttl
 (rwTo (Ip.mk f t p q b) a n).fst.body)
 t (ptRead (Ip.mk f t p q b)).fst.dst).fst.ttl
 (rwTo
 (Ip.mk (rwTo (Ip.mk f t p q b) a n).fst.src (rwTo (Ip.mk f t p q b) a n).fst.dst
 (rwTo (Ip.mk f t p q b) a n).fst.proto (rwTo (Ip.mk f t p q b) a n).fst.ttl
 (rwTo (Ip.mk f t p q b) a n).fst.body)
 t (ptRead (Ip.mk f t p q b)).fst.dst).fst.body)).fst.at' =
 (ptRead (Ip.mk f t p q b)).fst.at'))))) ||
 !decide
 ((rwTo
 (Ip.mk (rwTo (Ip.mk f t p q b) a n).fst.src (rwTo (Ip.mk f t p q b) a n).fst.dst
 (rwTo (Ip.mk f t p q b) a n).fst.proto (rwTo (Ip.mk f t p q b) a n).fst.ttl
 (rwTo (Ip.mk f t p q b) a n).fst.body)
 t (ptRead (Ip.mk f t p q b)).fst.dst).fst.dst =
 t)))
 (I64 (q - (2 : Int))) ∧
 brP
 (!decide
 ((rwTo
 (Ip.mk (rwTo (Ip.mk f t p q b) a n).fst.src (rwTo (Ip.mk f t p q b) a n).fst.dst
 (rwTo (Ip.mk f t p q b) a n).fst.proto (rwTo (Ip.mk f t p q b) a n).fst.ttl
 (rwTo (Ip.mk f t p q b) a n).fst.body)
 t (ptRead (Ip.mk f t p q b)).fst.dst).snd =
 (0 : Int)) ||
 !decide
 ((ptRead
 (Ip.mk
 (rwTo
 (Ip.mk (rwTo (Ip.mk f t p q b) a n).fst.src (rwTo (Ip.mk f t p q b) a n).fst.dst
 (rwTo (Ip.mk f t p q b) a n).fst.proto (rwTo (Ip.mk f t p q b) a n).fst.ttl
 (rwTo (Ip.mk f t p q b) a n).fst.body)
 t (ptRead (Ip.mk f t p q b)).fst.dst).fst.src
 (rwTo
 (Ip.mk (rwTo (Ip.mk f t p q b) a n).fst.src (rwTo (Ip.mk f t p q b) a n).fst.dst
 (rwTo (Ip.mk f t p q b) a n).fst.proto (rwTo (Ip.mk f t p q b) a n).fst.ttl
 (rwTo (Ip.mk f t p q b) a n).fst.body)
 t (ptRead (Ip.mk f t p q b)).fst.dst).fst.dst
 (rwTo
 (Ip.mk (rwTo (Ip.mk f t p q b) a n).fst.src (rwTo (Ip.mk f t p q b) a n).fst.dst
 (rwTo (Ip.mk f t p q b) a n).fst.proto (rwTo (Ip.mk f t p q b) a n).fst.ttl
 (rwTo (Ip.mk f t p q b) a n).fst.body)
 t (ptRead (Ip.mk f t p q b)).fst.dst).fst.proto
 (rwTo
 (Ip.mk (rwTo (Ip.mk f t p q b) a n).fst.src (rwTo (Ip.mk f t p q b) a n).fst.dst
 (rwTo (Ip.mk f t p q b) a n).fst.proto (rwTo (Ip.mk f t p q b) a n).fst.ttl
 (rwTo (Ip.mk f t p q b) a n).fst.body)
 t (ptRead (Ip.mk f t p q b)).fst.dst).fst.ttl
 (rwTo
 (Ip.mk (rwTo (Ip.mk f t p q b) a n).fst.src (rwTo (Ip.mk f t p q b) a n).fst.dst
 (rwTo (Ip.mk f t p q b) a n).fst.proto (rwTo (Ip.mk f t p q b) a n).fst.ttl
 (rwTo (Ip.mk f t p q b) a n).fst.body)
 t (ptRead (Ip.mk f t p q b)).fst.dst).fst.body)).snd =
 (0 : Int)) ||
 !(decide
 ((ptRead
 (Ip.mk
 (rwTo
 (Ip.mk (rwTo (Ip.mk f t p q b) a n).fst.src (rwTo (Ip.mk f t p q b) a n).fst.dst
 (rwTo (Ip.mk f t p q b) a n).fst.proto (rwTo (Ip.mk f t p q b) a n).fst.ttl
 (rwTo (Ip.mk f t p q b) a n).fst.body)
 t (ptRead (Ip.mk f t p q b)).fst.dst).fst.src
 (rwTo
 (Ip.mk (rwTo (Ip.mk f t p q b) a n).fst.src (rwTo (Ip.mk f t p q b) a n).fst.dst
 (rwTo (Ip.mk f t p q b) a n).fst.proto (rwTo (Ip.mk f t p q b) a n).fst.ttl
 (rwTo (Ip.mk f t p q b) a n).fst.body)
 t (ptRead (Ip.mk f t p q b)).fst.dst).fst.dst
 (rwTo
 (Ip.mk (rwTo (Ip.mk f t p q b) a n).fst.src (rwTo (Ip.mk f t p q b) a n).fst.dst
 (rwTo (Ip.mk f t p q b) a n).fst.proto (rwTo (Ip.mk f t p q b) a n).fst.ttl
 (rwTo (Ip.mk f t p q b) a n).fst.body)
 t (ptRead (Ip.mk f t p q b)).fst.dst).fst.proto
 (rwTo
 (Ip.mk (rwTo (Ip.mk f t p q b) a n).fst.src (rwTo (Ip.mk f t p q b) a n).fst.dst
 (rwTo (Ip.mk f t p q b) a n).fst.proto (rwTo (Ip.mk f t p q b) a n).fst.ttl
 (rwTo (Ip.mk f t p q b) a n).fst.body)
 t (ptRead (Ip.mk f t p q b)).fst.dst).fst.ttl
 (rwTo
 (Ip.mk (rwTo (Ip.mk f t p q b) a n).fst.src (rwTo (Ip.mk f t p q b) a n).fst.dst
 (rwTo (Ip.mk f t p q b) a n).fst.proto (rwTo (Ip.mk f t p q b) a n).fst.ttl
 (rwTo (Ip.mk f t p q b) a n).fst.body)
 t (ptRead (Ip.mk f t p q b)).fst.dst).fst.body)).fst.proto =
 (ptRead (Ip.mk f t p q b)).fst.proto) &&
 (decide
 ((ptRead
 (Ip.mk
 (rwTo
 (Ip.mk (rwTo (Ip.mk f t p q b) a n).fst.src (rwTo (Ip.mk f t p q b) a n).fst.dst
 (rwTo (Ip.mk f t p q b) a n).fst.proto (rwTo (Ip.mk f t p q b) a n).fst.ttl
 (rwTo (Ip.mk f t p q b) a n).fst.body)
 t (ptRead (Ip.mk f t p q b)).fst.dst).fst.src
 (rwTo
 (Ip.mk (rwTo (Ip.mk f t p q b) a n).fst.src (rwTo (Ip.mk f t p q b) a n).fst.dst
 (rwTo (Ip.mk f t p q b) a n).fst.proto (rwTo (Ip.mk f t p q b) a n).fst.ttl
 (rwTo (Ip.mk f t p q b) a n).fst.body)
 t (ptRead (Ip.mk f t p q b)).fst.dst).fst.dst
 (rwTo
 (Ip.mk (rwTo (Ip.mk f t p q b) a n).fst.src (rwTo (Ip.mk f t p q b) a n).fst.dst
 (rwTo (Ip.mk f t p q b) a n).fst.proto (rwTo (Ip.mk f t p q b) a n).fst.ttl
 (rwTo (Ip.mk f t p q b) a n).fst.body)
 t (ptRead (Ip.mk f t p q b)).fst.dst).fst.proto
 (rwTo
 (Ip.mk (rwTo (Ip.mk f t p q b) a n).fst.src (rwTo (Ip.mk f t p q b) a n).fst.dst
 (rwTo (Ip.mk f t p q b) a n).fst.proto (rwTo (Ip.mk f t p q b) a n).fst.ttl
 (rwTo (Ip.mk f t p q b) a n).fst.body)
 t (ptRead (Ip.mk f t p q b)).fst.dst).fst.ttl
 (rwTo
 (Ip.mk (rwTo (Ip.mk f t p q b) a n).fst.src (rwTo (Ip.mk f t p q b) a n).fst.dst
 (rwTo (Ip.mk f t p q b) a n).fst.proto (rwTo (Ip.mk f t p q b) a n).fst.ttl
 (rwTo (Ip.mk f t p q b) a n).fst.body)
 t (ptRead (Ip.mk f t p q b)).fst.dst).fst.body)).fst.src =
 (ptRead (Ip.mk f t p q b)).fst.src) &&
 (decide
 ((ptRead
 (Ip.mk
 (rwTo
 (Ip.mk (rwTo (Ip.mk f t p q b) a n).fst.src (rwTo (Ip.mk f t p q b) a n).fst.dst
 (rwTo (Ip.mk f t p q b) a n).fst.proto (rwTo (Ip.mk f t p q b) a n).fst.ttl
 (rwTo (Ip.mk f t p q b) a n).fst.body)
 t (ptRead (Ip.mk f t p q b)).fst.dst).fst.src
 (rwTo
 (Ip.mk (rwTo (Ip.mk f t p q b) a n).fst.src (rwTo (Ip.mk f t p q b) a n).fst.dst
 (rwTo (Ip.mk f t p q b) a n).fst.proto (rwTo (Ip.mk f t p q b) a n).fst.ttl
 (rwTo (Ip.mk f t p q b) a n).fst.body)
 t (ptRead (Ip.mk f t p q b)).fst.dst).fst.dst
 (rwTo
 (Ip.mk (rwTo (Ip.mk f t p q b) a n).fst.src (rwTo (Ip.mk f t p q b) a n).fst.dst
 (rwTo (Ip.mk f t p q b) a n).fst.proto (rwTo (Ip.mk f t p q b) a n).fst.ttl
 (rwTo (Ip.mk f t p q b) a n).fst.body)
 t (ptRead (Ip.mk f t p q b)).fst.dst).fst.proto
 (rwTo
 (Ip.mk (rwTo (Ip.mk f t p q b) a n).fst.src (rwTo (Ip.mk f t p q b) a n).fst.dst
 (rwTo (Ip.mk f t p q b) a n).fst.proto (rwTo (Ip.mk f t p q b) a n).fst.ttl
 (rwTo (Ip.mk f t p q b) a n).fst.body)
 t (ptRead (Ip.mk f t p q b)).fst.dst).fst.ttl
 (rwTo
 (Ip.mk (rwTo (Ip.mk f t p q b) a n).fst.src (rwTo (Ip.mk f t p q b) a n).fst.dst
 (rwTo (Ip.mk f t p q b) a n).fst.proto (rwTo (Ip.mk f t p q b) a n).fst.ttl
 (rwTo (Ip.mk f t p q b) a n).fst.body)
 t (ptRead (Ip.mk f t p q b)).fst.dst).fst.body)).fst.dst =
 (ptRead (Ip.mk f t p q b)).fst.dst) &&
 (decide
 ((ptRead
 (Ip.mk
 (rwTo
 (Ip.mk (rwTo (Ip.mk f t p q b) a n).fst.src (rwTo (Ip.mk f t p q b) a n).fst.dst
 (rwTo (Ip.mk f t p q b) a n).fst.proto (rwTo (Ip.mk f t p q b) a n).fst.ttl
 (rwTo (Ip.mk f t p q b) a n).fst.body)
 t (ptRead (Ip.mk f t p q b)).fst.dst).fst.src
 (rwTo
 (Ip.mk (rwTo (Ip.mk f t p q b) a n).fst.src (rwTo (Ip.mk f t p q b) a n).fst.dst
 (rwTo (Ip.mk f t p q b) a n).fst.proto (rwTo (Ip.mk f t p q b) a n).fst.ttl
 (rwTo (Ip.mk f t p q b) a n).fst.body)
 t (ptRead (Ip.mk f t p q b)).fst.dst).fst.dst
 (rwTo
 (Ip.mk (rwTo (Ip.mk f t p q b) a n).fst.src (rwTo (Ip.mk f t p q b) a n).fst.dst
 (rwTo (Ip.mk f t p q b) a n).fst.proto (rwTo (Ip.mk f t p q b) a n).fst.ttl
 (rwTo (Ip.mk f t p q b) a n).fst.body)
 t (ptRead (Ip.mk f t p q b)).fst.dst).fst.proto
 (rwTo
 (Ip.mk (rwTo (Ip.mk f t p q b) a n).fst.src (rwTo (Ip.mk f t p q b) a n).fst.dst
 (rwTo (Ip.mk f t p q b) a n).fst.proto (rwTo (Ip.mk f t p q b) a n).fst.ttl
 (rwTo (Ip.mk f t p q b) a n).fst.body)
 t (ptRead (Ip.mk f t p q b)).fst.dst).fst.ttl
 (rwTo
 (Ip.mk (rwTo (Ip.mk f t p q b) a n).fst.src (rwTo (Ip.mk f t p q b) a n).fst.dst
 (rwTo (Ip.mk f t p q b) a n).fst.proto (rwTo (Ip.mk f t p q b) a n).fst.ttl
 (rwTo (Ip.mk f t p q b) a n).fst.body)
 t (ptRead (Ip.mk f t p q b)).fst.dst).fst.body)).fst.flags =
 (ptRead (Ip.mk f t p q b)).fst.flags) &&
 decide
 ((ptRead
 (Ip.mk
 (rwTo
 (Ip.mk (rwTo (Ip.mk f t p q b) a n).fst.src (rwTo (Ip.mk f t p q b) a n).fst.dst
 (rwTo (Ip.mk f t p q b) a n).fst.proto (rwTo (Ip.mk f t p q b) a n).fst.ttl
 (rwTo (Ip.mk f t p q b) a n).fst.body)
 t (ptRead (Ip.mk f t p q b)).fst.dst).fst.src
 (rwTo
 (Ip.mk (rwTo (Ip.mk f t p q b) a n).fst.src (rwTo (Ip.mk f t p q b) a n).fst.dst
 (rwTo (Ip.mk f t p q b) a n).fst.proto (rwTo (Ip.mk f t p q b) a n).fst.ttl
 (rwTo (Ip.mk f t p q b) a n).fst.body)
 t (ptRead (Ip.mk f t p q b)).fst.dst).fst.dst
 (rwTo
 (Ip.mk (rwTo (Ip.mk f t p q b) a n).fst.src (rwTo (Ip.mk f t p q b) a n).fst.dst
 (rwTo (Ip.mk f t p q b) a n).fst.proto (rwTo (Ip.mk f t p q b) a n).fst.ttl
 (rwTo (Ip.mk f t p q b) a n).fst.body)
 t (ptRead (Ip.mk f t p q b)).fst.dst).fst.proto
 (rwTo
 (Ip.mk (rwTo (Ip.mk f t p q b) a n).fst.src (rwTo (Ip.mk f t p q b) a n).fst.dst
 (rwTo (Ip.mk f t p q b) a n).fst.proto (rwTo (Ip.mk f t p q b) a n).fst.ttl
 (rwTo (Ip.mk f t p q b) a n).fst.body)
 t (ptRead (Ip.mk f t p q b)).fst.dst).fst.ttl
 (rwTo
 (Ip.mk (rwTo (Ip.mk f t p q b) a n).fst.src (rwTo (Ip.mk f t p q b) a n).fst.dst
 (rwTo (Ip.mk f t p q b) a n).fst.proto (rwTo (Ip.mk f t p q b) a n).fst.ttl
 (rwTo (Ip.mk f t p q b) a n).fst.body)
 t (ptRead (Ip.mk f t p q b)).fst.dst).fst.body)).fst.at' =
 (ptRead (Ip.mk f t p q b)).fst.at'))))) ||
 !decide
 ((rwTo
 (Ip.mk (rwTo (Ip.mk f t p q b) a n).fst.src (rwTo (Ip.mk f t p q b) a n).fst.dst
 (rwTo (Ip.mk f t p q b) a n).fst.proto (rwTo (Ip.mk f t p q b) a n).fst.ttl
 (rwTo (Ip.mk f t p q b) a n).fst.body)
 t (ptRead (Ip.mk f t p q b)).fst.dst).fst.dst =
 t) ||
 !decide
 ((rwTo
 (Ip.mk (rwTo (Ip.mk f t p q b) a n).fst.src (rwTo (Ip.mk f t p q b) a n).fst.dst
 (rwTo (Ip.mk f t p q b) a n).fst.proto (rwTo (Ip.mk f t p q b) a n).fst.ttl
 (rwTo (Ip.mk f t p q b) a n).fst.body)
 t (ptRead (Ip.mk f t p q b)).fst.dst).fst.ttl =
 q - (2 : Int)) ||
 !decide
 ((rwTo
 (Ip.mk (rwTo (Ip.mk f t p q b) a n).fst.src (rwTo (Ip.mk f t p q b) a n).fst.dst
 (rwTo (Ip.mk f t p q b) a n).fst.proto (rwTo (Ip.mk f t p q b) a n).fst.ttl
 (rwTo (Ip.mk f t p q b) a n).fst.body)
 t (ptRead (Ip.mk f t p q b)).fst.dst).fst.src =
 f))
 (K (AVal.bool false) [])
 (brP (decide (p = (17 : Int)))
 (((0 : Int) ≤ (6 : Int) ∧ (6 : Int) < (↑(List.length b) : Int)) ∧
 ((0 : Int) ≤ (8 : Int) ∧ (8 : Nat) < (16 : Nat)) ∧
 I64 (7 : Int) ∧
 ((0 : Int) ≤ (7 : Int) ∧ (7 : Int) < (↑(List.length b) : Int)) ∧
 ((0 : Int) ≤ (6 : Int) ∧
 (6 : Int) <
 (↑(List.length
 (rwTo
 (Ip.mk (rwTo (Ip.mk f t p q b) a n).fst.src (rwTo (Ip.mk f t p q b) a n).fst.dst
 (rwTo (Ip.mk f t p q b) a n).fst.proto (rwTo (Ip.mk f t p q b) a n).fst.ttl
 (rwTo (Ip.mk f t p q b) a n).fst.body)
 t (ptRead (Ip.mk f t p q b)).fst.dst).fst.body) :
 Int)) ∧
 ((0 : Int) ≤ (8 : Int) ∧ (8 : Nat) < (16 : Nat)) ∧
 I64 (7 : Int) ∧
 ((0 : Int) ≤ (7 : Int) ∧
 (7 : Int) <
 (↑(List.length
 (rwTo
 (Ip.mk (rwTo (Ip.mk f t p q b) a n).fst.src (rwTo (Ip.mk f t p q b) a n).fst.dst
 (rwTo (Ip.mk f t p q b) a n).fst.proto (rwTo (Ip.mk f t p q b) a n).fst.ttl
 (rwTo (Ip.mk f t p q b) a n).fst.body)
 t (ptRead (Ip.mk f t p q b)).fst.dst).fst.body) :
 Int)) ∧
 brP
 (decide
 (bits BinOp.or IntKind.u16
 (IntKind.wrap IntKind.u16
 ((↑(UInt8.toNat (List.getD b (6 : Nat) (0 : UInt8))) : Int) * (256 : Int)))
 (↑(UInt8.toNat (List.getD b (7 : Nat) (0 : UInt8))) : Int) =
 bits BinOp.or IntKind.u16
 (IntKind.wrap IntKind.u16
 ((↑(UInt8.toNat
 (List.getD
 (rwTo
 (Ip.mk (rwTo (Ip.mk f t p q b) a n).fst.src (rwTo (Ip.mk f t p q b) a n).fst.dst
 (rwTo (Ip.mk f t p q b) a n).fst.proto (rwTo (Ip.mk f t p q b) a n).fst.ttl
 (rwTo (Ip.mk f t p q b) a n).fst.body)
 t (ptRead (Ip.mk f t p q b)).fst.dst).fst.body
 (6 : Nat) (0 : UInt8))) :
 Int) *
 (256 : Int)))
 (↑(UInt8.toNat
 (List.getD
 (rwTo
 (Ip.mk (rwTo (Ip.mk f t p q b) a n).fst.src (rwTo (Ip.mk f t p q b) a n).fst.dst
 (rwTo (Ip.mk f t p q b) a n).fst.proto (rwTo (Ip.mk f t p q b) a n).fst.ttl
 (rwTo (Ip.mk f t p q b) a n).fst.body)
 t (ptRead (Ip.mk f t p q b)).fst.dst).fst.body
 (7 : Nat) (0 : UInt8))) :
 Int)) ||
 decide
 (IntKind.wrap IntKind.u16
 (bits BinOp.or IntKind.u16
 (IntKind.wrap IntKind.u16
 ((↑(UInt8.toNat (List.getD b (6 : Nat) (0 : UInt8))) : Int) * (256 : Int)))
 (↑(UInt8.toNat (List.getD b (7 : Nat) (0 : UInt8))) : Int) +
 bits BinOp.or IntKind.u16
 (IntKind.wrap IntKind.u16
 ((↑(UInt8.toNat
 (List.getD
 (rwTo
 (Ip.mk (rwTo (Ip.mk f t p q b) a n).fst.src (rwTo (Ip.mk f t p q b) a n).fst.dst
 (rwTo (Ip.mk f t p q b) a n).fst.proto (rwTo (Ip.mk f t p q b) a n).fst.ttl
 (rwTo (Ip.mk f t p q b) a n).fst.body)
 t (ptRead (Ip.mk f t p q b)).fst.dst).fst.body
 (6 : Nat) (0 : UInt8))) :
 Int) *
 (256 : Int)))
 (↑(UInt8.toNat
 (List.getD
 (rwTo
 (Ip.mk (rwTo (Ip.mk f t p q b) a n).fst.src (rwTo (Ip.mk f t p q b) a n).fst.dst
 (rwTo (Ip.mk f t p q b) a n).fst.proto (rwTo (Ip.mk f t p q b) a n).fst.ttl
 (rwTo (Ip.mk f t p q b) a n).fst.body)
 t (ptRead (Ip.mk f t p q b)).fst.dst).fst.body
 (7 : Nat) (0 : UInt8))) :
 Int)) =
 (65535 : Int)) &&
 (decide
 (bits BinOp.or IntKind.u16
 (IntKind.wrap IntKind.u16
 ((↑(UInt8.toNat (List.getD b (6 : Nat) (0 : UInt8))) : Int) * (256 : Int)))
 (↑(UInt8.toNat (List.getD b (7 : Nat) (0 : UInt8))) : Int) =
 (0 : Int)) ||
 decide
 (bits BinOp.or IntKind.u16
 (IntKind.wrap IntKind.u16
 ((↑(UInt8.toNat
 (List.getD
 (rwTo
 (Ip.mk (rwTo (Ip.mk f t p q b) a n).fst.src (rwTo (Ip.mk f t p q b) a n).fst.dst
 (rwTo (Ip.mk f t p q b) a n).fst.proto (rwTo (Ip.mk f t p q b) a n).fst.ttl
 (rwTo (Ip.mk f t p q b) a n).fst.body)
 t (ptRead (Ip.mk f t p q b)).fst.dst).fst.body
 (6 : Nat) (0 : UInt8))) :
 Int) *
 (256 : Int)))
 (↑(UInt8.toNat
 (List.getD
 (rwTo
 (Ip.mk (rwTo (Ip.mk f t p q b) a n).fst.src (rwTo (Ip.mk f t p q b) a n).fst.dst
 (rwTo (Ip.mk f t p q b) a n).fst.proto (rwTo (Ip.mk f t p q b) a n).fst.ttl
 (rwTo (Ip.mk f t p q b) a n).fst.body)
 t (ptRead (Ip.mk f t p q b)).fst.dst).fst.body
 (7 : Nat) (0 : UInt8))) :
 Int) =
 (0 : Int))))
 (((0 : Int) ≤ (6 : Int) ∧
 (6 : Int) ≤
 (↑(List.length
 (rwTo
 (Ip.mk (rwTo (Ip.mk f t p q b) a n).fst.src (rwTo (Ip.mk f t p q b) a n).fst.dst
 (rwTo (Ip.mk f t p q b) a n).fst.proto (rwTo (Ip.mk f t p q b) a n).fst.ttl
 (rwTo (Ip.mk f t p q b) a n).fst.body)
 t (ptRead (Ip.mk f t p q b)).fst.dst).fst.body) :
 Int)) ∧
 ((0 : Int) ≤ (6 : Int) ∧ (6 : Int) ≤ (↑(List.length b) : Int)) ∧
 brP
 (decide
 (List.take (6 : Nat)
 (rwTo
 (Ip.mk (rwTo (Ip.mk f t p q b) a n).fst.src (rwTo (Ip.mk f t p q b) a n).fst.dst
 (rwTo (Ip.mk f t p q b) a n).fst.proto (rwTo (Ip.mk f t p q b) a n).fst.ttl
 (rwTo (Ip.mk f t p q b) a n).fst.body)
 t (ptRead (Ip.mk f t p q b)).fst.dst).fst.body =
 List.take (6 : Nat) b))
 (I64 (8 : Int) ∧
 ((0 : Int) ≤ (8 : Int) ∧
 (8 : Int) ≤
 (↑(List.length
 (rwTo
 (Ip.mk (rwTo (Ip.mk f t p q b) a n).fst.src (rwTo (Ip.mk f t p q b) a n).fst.dst
 (rwTo (Ip.mk f t p q b) a n).fst.proto (rwTo (Ip.mk f t p q b) a n).fst.ttl
 (rwTo (Ip.mk f t p q b) a n).fst.body)
 t (ptRead (Ip.mk f t p q b)).fst.dst).fst.body) :
 Int)) ∧
 I64 (8 : Int) ∧
 ((0 : Int) ≤ (8 : Int) ∧ (8 : Int) ≤ (↑(List.length b) : Int)) ∧
 K
 (AVal.bool
 (decide
 (List.drop (8 : Nat)
 (rwTo
 (Ip.mk (rwTo (Ip.mk f t p q b) a n).fst.src (rwTo (Ip.mk f t p q b) a n).fst.dst
 (rwTo (Ip.mk f t p q b) a n).fst.proto (rwTo (Ip.mk f t p q b) a n).fst.ttl
 (rwTo (Ip.mk f t p q b) a n).fst.body)
 t (ptRead (Ip.mk f t p q b)).fst.dst).fst.body =
 List.drop (8 : Nat) b)))
 [])
 (K (AVal.bool false) []))
 (K (AVal.bool false) []))
 (((0 : Int) ≤ (16 : Int) ∧ (16 : Int) < (↑(List.length b) : Int)) ∧
 ((0 : Int) ≤ (8 : Int) ∧ (8 : Nat) < (16 : Nat)) ∧
 I64 (17 : Int) ∧
 ((0 : Int) ≤ (17 : Int) ∧ (17 : Int) < (↑(List.length b) : Int)) ∧
 ((0 : Int) ≤ (16 : Int) ∧
 (16 : Int) <
 (↑(List.length
 (rwTo
 (Ip.mk (rwTo (Ip.mk f t p q b) a n).fst.src (rwTo (Ip.mk f t p q b) a n).fst.dst
 (rwTo (Ip.mk f t p q b) a n).fst.proto (rwTo (Ip.mk f t p q b) a n).fst.ttl
 (rwTo (Ip.mk f t p q b) a n).fst.body)
 t (ptRead (Ip.mk f t p q b)).fst.dst).fst.body) :
 Int)) ∧
 ((0 : Int) ≤ (8 : Int) ∧ (8 : Nat) < (16 : Nat)) ∧
 I64 (17 : Int) ∧
 ((0 : Int) ≤ (17 : Int) ∧
 (17 : Int) <
 (↑(List.length
 (rwTo
 (Ip.mk (rwTo (Ip.mk f t p q b) a n).fst.src (rwTo (Ip.mk f t p q b) a n).fst.dst
 (rwTo (Ip.mk f t p q b) a n).fst.proto (rwTo (Ip.mk f t p q b) a n).fst.ttl
 (rwTo (Ip.mk f t p q b) a n).fst.body)
 t (ptRead (Ip.mk f t p q b)).fst.dst).fst.body) :
 Int)) ∧
 brP
 (decide
 (bits BinOp.or IntKind.u16
 (IntKind.wrap IntKind.u16
 ((↑(UInt8.toNat (List.getD b (16 : Nat) (0 : UInt8))) : Int) * (256 : Int)))
 (↑(UInt8.toNat (List.getD b (17 : Nat) (0 : UInt8))) : Int) =
 bits BinOp.or IntKind.u16
 (IntKind.wrap IntKind.u16
 ((↑(UInt8.toNat
 (List.getD
 (rwTo
 (Ip.mk (rwTo (Ip.mk f t p q b) a n).fst.src (rwTo (Ip.mk f t p q b) a n).fst.dst
 (rwTo (Ip.mk f t p q b) a n).fst.proto (rwTo (Ip.mk f t p q b) a n).fst.ttl
 (rwTo (Ip.mk f t p q b) a n).fst.body)
 t (ptRead (Ip.mk f t p q b)).fst.dst).fst.body
 (16 : Nat) (0 : UInt8))) :
 Int) *
 (256 : Int)))
 (↑(UInt8.toNat
 (List.getD
 (rwTo
 (Ip.mk (rwTo (Ip.mk f t p q b) a n).fst.src (rwTo (Ip.mk f t p q b) a n).fst.dst
 (rwTo (Ip.mk f t p q b) a n).fst.proto (rwTo (Ip.mk f t p q b) a n).fst.ttl
 (rwTo (Ip.mk f t p q b) a n).fst.body)
 t (ptRead (Ip.mk f t p q b)).fst.dst).fst.body
 (17 : Nat) (0 : UInt8))) :
 Int)) ||
 decide
 (IntKind.wrap IntKind.u16
 (bits BinOp.or IntKind.u16
 (IntKind.wrap IntKind.u16
 ((↑(UInt8.toNat (List.getD b (16 : Nat) (0 : UInt8))) : Int) * (256 : Int)))
 (↑(UInt8.toNat (List.getD b (17 : Nat) (0 : UInt8))) : Int) +
 bits BinOp.or IntKind.u16
 (IntKind.wrap IntKind.u16
 ((↑(UInt8.toNat
 (List.getD
 (rwTo
 (Ip.mk (rwTo (Ip.mk f t p q b) a n).fst.src (rwTo (Ip.mk f t p q b) a n).fst.dst
 (rwTo (Ip.mk f t p q b) a n).fst.proto (rwTo (Ip.mk f t p q b) a n).fst.ttl
 (rwTo (Ip.mk f t p q b) a n).fst.body)
 t (ptRead (Ip.mk f t p q b)).fst.dst).fst.body
 (16 : Nat) (0 : UInt8))) :
 Int) *
 (256 : Int)))
 (↑(UInt8.toNat
 (List.getD
 (rwTo
 (Ip.mk (rwTo (Ip.mk f t p q b) a n).fst.src (rwTo (Ip.mk f t p q b) a n).fst.dst
 (rwTo (Ip.mk f t p q b) a n).fst.proto (rwTo (Ip.mk f t p q b) a n).fst.ttl
 (rwTo (Ip.mk f t p q b) a n).fst.body)
 t (ptRead (Ip.mk f t p q b)).fst.dst).fst.body
 (17 : Nat) (0 : UInt8))) :
 Int)) =
 (65535 : Int)) &&
 (decide
 (bits BinOp.or IntKind.u16
 (IntKind.wrap IntKind.u16
 ((↑(UInt8.toNat (List.getD b (16 : Nat) (0 : UInt8))) : Int) * (256 : Int)))
 (↑(UInt8.toNat (List.getD b (17 : Nat) (0 : UInt8))) : Int) =
 (0 : Int)) ||
 decide
 (bits BinOp.or IntKind.u16
 (IntKind.wrap IntKind.u16
 ((↑(UInt8.toNat
 (List.getD
 (rwTo
 (Ip.mk (rwTo (Ip.mk f t p q b) a n).fst.src (rwTo (Ip.mk f t p q b) a n).fst.dst
 (rwTo (Ip.mk f t p q b) a n).fst.proto (rwTo (Ip.mk f t p q b) a n).fst.ttl
 (rwTo (Ip.mk f t p q b) a n).fst.body)
 t (ptRead (Ip.mk f t p q b)).fst.dst).fst.body
 (16 : Nat) (0 : UInt8))) :
 Int) *
 (256 : Int)))
 (↑(UInt8.toNat
 (List.getD
 (rwTo
 (Ip.mk (rwTo (Ip.mk f t p q b) a n).fst.src (rwTo (Ip.mk f t p q b) a n).fst.dst
 (rwTo (Ip.mk f t p q b) a n).fst.proto (rwTo (Ip.mk f t p q b) a n).fst.ttl
 (rwTo (Ip.mk f t p q b) a n).fst.body)
 t (ptRead (Ip.mk f t p q b)).fst.dst).fst.body
 (17 : Nat) (0 : UInt8))) :
 Int) =
 (0 : Int))))
 (((0 : Int) ≤ (16 : Int) ∧
 (16 : Int) ≤
 (↑(List.length
 (rwTo
 (Ip.mk (rwTo (Ip.mk f t p q b) a n).fst.src (rwTo (Ip.mk f t p q b) a n).fst.dst
 (rwTo (Ip.mk f t p q b) a n).fst.proto (rwTo (Ip.mk f t p q b) a n).fst.ttl
 (rwTo (Ip.mk f t p q b) a n).fst.body)
 t (ptRead (Ip.mk f t p q b)).fst.dst).fst.body) :
 Int)) ∧
 ((0 : Int) ≤ (16 : Int) ∧ (16 : Int) ≤ (↑(List.length b) : Int)) ∧
 brP
 (decide
 (List.take (16 : Nat)
 (rwTo
 (Ip.mk (rwTo (Ip.mk f t p q b) a n).fst.src (rwTo (Ip.mk f t p q b) a n).fst.dst
 (rwTo (Ip.mk f t p q b) a n).fst.proto (rwTo (Ip.mk f t p q b) a n).fst.ttl
 (rwTo (Ip.mk f t p q b) a n).fst.body)
 t (ptRead (Ip.mk f t p q b)).fst.dst).fst.body =
 List.take (16 : Nat) b))
 (I64 (18 : Int) ∧
 ((0 : Int) ≤ (18 : Int) ∧
 (18 : Int) ≤
 (↑(List.length
 (rwTo
 (Ip.mk (rwTo (Ip.mk f t p q b) a n).fst.src (rwTo (Ip.mk f t p q b) a n).fst.dst
 (rwTo (Ip.mk f t p q b) a n).fst.proto (rwTo (Ip.mk f t p q b) a n).fst.ttl
 (rwTo (Ip.mk f t p q b) a n).fst.body)
 t (ptRead (Ip.mk f t p q b)).fst.dst).fst.body) :
 Int)) ∧
 I64 (18 : Int) ∧
 ((0 : Int) ≤ (18 : Int) ∧ (18 : Int) ≤ (↑(List.length b) : Int)) ∧
 K
 (AVal.bool
 (decide
 (List.drop (18 : Nat)
 (rwTo
 (Ip.mk (rwTo (Ip.mk f t p q b) a n).fst.src (rwTo (Ip.mk f t p q b) a n).fst.dst
 (rwTo (Ip.mk f t p q b) a n).fst.proto (rwTo (Ip.mk f t p q b) a n).fst.ttl
 (rwTo (Ip.mk f t p q b) a n).fst.body)
 t (ptRead (Ip.mk f t p q b)).fst.dst).fst.body =
 List.drop (18 : Nat) b)))
 [])
 (K (AVal.bool false) []))
 (K (AVal.bool false) [])))))) := by kernel_rfl
theorem rewriteBack.core (f t : List UInt8) (p q : Int) (b : List UInt8) (a : List UInt8) (n : Int)  (h_f : f.length ≤ 140737488351232) (h_t : t.length ≤ 140737488351232) (h_p : -9223372036854775808 ≤ p ∧ p ≤ 9223372036854775807) (h_q : -9223372036854775808 ≤ q ∧ q ≤ 9223372036854775807) (h_b : b.length ≤ 140737488351232) (h_a : a.length ≤ 140737488351232) (h_n : -9223372036854775808 ≤ n ∧ n ≤ 9223372036854775807) :
    fnP Try.prog Tlx ann_outriderlaw19_RewriteBack Try.f4 [.agg [.str f, .str t, .int .i64 p, .int .i64 q, .str b], .str a, .int .i64 n] [] (fun v _ => v = .bool true) := by
  rw [RewriteBack_eq]
  have iq : I64 q := by unfold I64; omega
  refine ⟨h_b, iq, ?_⟩
  by_cases hX : (rwTo ⟨f, t, p, q, b⟩ a n).snd = 0 ∧ ¬ (rwTo ⟨f, t, p, q, b⟩ a n).fst.ttl ≤ 1 ∧ ¬ 3000 < b.length
  case neg =>
    refine brP_i (fun _ => rfl) (fun hc => absurd ?_ hX)
    simp only [Bool.and_eq_true, Bool.or_eq_true, Bool.and_eq_false_iff, Bool.or_eq_false_iff, decide_eq_true_eq, decide_eq_false_iff_not, Bool.not_eq_true', Bool.not_eq_false', Bool.not_true, Bool.not_false, Bool.true_and, Bool.and_true, Bool.false_or, Bool.or_false, beq_iff_eq, beq_eq_false_iff_ne, ne_eq] at hc
    omega
  obtain ⟨hX0, hX1, hX2⟩ := hX
  have e := (rwTo_ok hX0).2.2.2.2.2
  rw [e] at hX1
  simp only at hX1
  refine brP_i (fun _ => rfl) (fun _ => ⟨h_b, ?_⟩)
  by_cases hD : (ptRead ⟨f, t, p, q, b⟩).fst.dst = 0
  · refine brP_d (fun _ => rfl) (fun hc => absurd hD hc)
  refine brP_d (fun hc => absurd hc hD) (fun _ => ?_)
  obtain ⟨u, v, e1, e2, e3, e4, e5, e6, _⟩ := back_all hX0 (by simp only; omega) hD
  simp only at e1 e2 e3 e4 e6
  obtain ⟨hl, hs, he⟩ := ptRead_len e5
  simp only at hl hs he
  rw [e]
  simp only
  rw [e1]
  simp only
  rw [e3]
  have hpl : (putB b (sumAt ⟨f, t, p, q, b⟩) [u, v]).length = b.length := putB_len e4
  have iq1 : I64 (q - 1) := by unfold I64; omega
  have iq2 : I64 (q - 2) := by unfold I64; omega
  refine ⟨by rw [e6]; omega, iq1, by rw [hpl]; omega, fun _ => iq2, ?_⟩
  refine brP_i (fun hc => ?_) (fun _ => ?_)
  · exfalso
    simp only [e5, decide_true, Bool.not_true, Bool.or_false, Bool.and_true, Bool.false_eq_true] at hc
  have hm := w16_bd (b.getD (sumAt ⟨f, t, p, q, b⟩) 0) (b.getD (sumAt ⟨f, t, p, q, b⟩ + 1) 0)
  have hn := w16_bd u v
  unfold rwOld at e2
  simp only at e2
  have hsame := same16 hm hn e2
  obtain ⟨g1, g2⟩ := putB_at (u := u) (v := v) e4
  have hwr : ∀ k : Int, IntKind.wrap IntKind.u16 k = k % 65536 := fun k => IntKind.wrap_u16 k
  have i7 : I64 (7 : Int) := by unfold I64; omega
  have i8 : I64 (8 : Int) := by unfold I64; omega
  have i17 : I64 (17 : Int) := by unfold I64; omega
  have i18 : I64 (18 : Int) := by unfold I64; omega
  refine brP_d (fun h17 => ?_) (fun h17 => ?_)
  · have hS : sumAt ⟨f, t, p, q, b⟩ = 6 := by unfold sumAt; rw [if_pos h17]
    rw [hS] at g1 g2 hpl hsame e4 ⊢
    simp only [Nat.reduceAdd] at g1 g2 hsame e4
    refine ⟨by omega, by omega, i7, by omega, by omega, by omega, i7, by omega, ?_⟩
    simp only [g1, g2, or_u16]
    simp only [hwr]
    rw [hsame]
    refine ⟨by omega, by omega, ?_⟩
    rw [putB_take e4 (by omega), putB_drop e4 (by omega)]
    simp only [decide_true]
    exact ⟨i8, by omega, i8, by omega, trivial⟩
  · have hS : sumAt ⟨f, t, p, q, b⟩ = 16 := by unfold sumAt; rw [if_neg h17]
    rw [hS] at g1 g2 hpl hsame e4 ⊢
    simp only [Nat.reduceAdd] at g1 g2 hsame e4
    refine ⟨by omega, by omega, i17, by omega, by omega, by omega, i17, by omega, ?_⟩
    simp only [g1, g2, or_u16]
    simp only [hwr]
    rw [hsame]
    refine ⟨by omega, by omega, ?_⟩
    rw [putB_take e4 (by omega), putB_drop e4 (by omega)]
    simp only [decide_true]
    exact ⟨i18, by omega, i18, by omega, trivial⟩
end Go.Proofs.Ytbmiaohigkjeeaa.Ae
namespace Go.Proofs.Ytbmiaohigkjeeaa
open Go Go.RowKit Ae
attribute [local irreducible] fnP in
set_option maxRecDepth 100000 in
theorem rewriteBack.walk {H : Type} {enc : TypeId × Value → H} (W : World) (args : Array Value) (hn : args.size = 3)
    (h : ∀ (j : Nat) t v, Try.f4.params[j]? = some t → args[j]? = some v → RdV enc false Try.prog W t v) :
    Calls Try.prog 4 args W fun e w' => e = .returned (.bool true) ∧ Below W.heap.size W w' := by
  obtain ⟨v0, v1, v2, rfl⟩ := args3 hn
  obtain ⟨vs0, hs0, hv0⟩ := arg_agg (b := false) (d := 6) (ks := [.str, .str, .int .i64, .int .i64, .str]) (.inl ⟨_, Try.underlying24⟩) (by kernel_rfl) (h 0 24 v0 rfl rfl)
  obtain ⟨_, _, rfl, ⟨f, rfl, h_f⟩, _, _, rfl, ⟨t, rfl, h_t⟩, _, _, rfl, ⟨p, rfl, h_p⟩, _, _, rfl, ⟨q, rfl, h_q⟩, _, _, rfl, ⟨b, rfl, h_b⟩, rfl⟩ := hs0
  obtain ⟨a, h_a, hv1⟩ := arg_str (b := false) (m := Mp.nil) (G := []) Try.underlying22 (h 1 22 v1 rfl rfl)
  obtain ⟨n, rfl, h_n, hv2⟩ := arg_int (b := false) (m := Mp.nil) (G := []) Try.underlying3 (h 2 3 v2 rfl rfl)
  obtain ⟨r, H1, hr, hG⟩ := fn_sound Tlx_sound mixed Try.func4 (by decide +kernel) (rewriteBack.core f t p q b a n (len_lim h_f) (len_lim h_t) (i64_bd h_p) (i64_bd h_q) (len_lim h_b) (len_lim h_a) (i64_bd h_n))
  subst hr
  exact law_walk hG (vl_cons hv0 (vl_cons hv1 (vl_cons hv2 vl_nil)))

namespace rewriteBack
theorem spec {H : Type} (ds : List (DataW H)) (h : ds.length = Try.f4.params.size) : Rows.rewriteBackSpec.fn H ds = { results := [.lit (.bool true)], args := ds } := by
  have h' : ds.length = 3 := h
  match ds, h' with
  | [_, _, _], _ => rfl

set_option maxRecDepth 100000 in
theorem lifted (os : Os) (started : os.Started) (H : Type) (enc : TypeId × Value → H) :
    ReturnsInHanded {} Try.checked os 4 .any (Rows.rewriteBackSpec.pre6 enc Try.prog Try.f4 Rows.rewriteBackRow.domain false) (Rows.rewriteBackSpec.post enc Try.prog Try.f4 false true false false) :=
  lifted_said (C := Try.checked) (tb := 4) own started (by kernel_rfl) Try.func4
    (ChangeSpec.witness6 (enc := enc) (C := Try.checked) false ⟨#[], #[.agg #[.string .empty, .string .empty, .int .i64 0, .int .i64 0, .string .empty], .string .empty, .int .i64 0], []⟩ 8 (by kernel_rfl) (by kernel_rfl) (by kernel_rfl) (by kernel_rfl))
    rfl spec rfl Try.underlying4 laidOut (by kernel_rfl) walk

theorem over : Rows.rewriteBackRow.holds Try.pinned (OpenSpec.ofChange Rows.rewriteBackSpec) :=
  OpenClaim.holds_of_wide 4 Try.f4 rfl rfl rfl rfl rfl rfl rfl ⟨rfl, rfl, rfl, rfl, rfl⟩ rfl rfl rfl rfl rfl (by kernel_rfl) Try.func4 (by kernel_rfl)
    (of_decide_eq_true (by kernel_rfl)) (by unfold Func.isWrapper; first | (rw [if_pos (by decide +kernel)]; kernel_rfl) | (rw [if_neg (by decide +kernel)]; exact ⟨rfl, rfl⟩))
    (fun os started H enc _ => lifted os started H enc)

theorem proved : Rows.RewriteBackSaid := over
#print axioms proved
end rewriteBack

end Go.Proofs.Ytbmiaohigkjeeaa

