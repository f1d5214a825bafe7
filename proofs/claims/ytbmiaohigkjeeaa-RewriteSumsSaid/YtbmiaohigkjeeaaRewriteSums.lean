/- RewriteSums: what goes to another one is read with its new port; its sum counts as the one that is made anew; all other bytes are as they were. No conditions. -/
import Derived.Test.YtbmiaohigkjeeaaAlx
import Derived.Test.YtbmiaohigkjeeaaMrw4
set_option linter.unusedSimpArgs false
set_option linter.unusedVariables false
namespace Go.Proofs.Ytbmiaohigkjeeaa.Ae
open Go Go.RowKit
def ann_outriderlaw19_RewriteSums : Nat → List Nat × Nat × List (List Nat)
  | 14 => ([3, 7, 13, 76, 77], 0, [])
  | 16 => ([], 28, [[], [0], [0, 1], [0, 1, 2], [0, 1, 2, 3], [0, 1, 2, 3, 4], [0, 1, 2, 3, 4, 5], [0, 1, 2, 3, 4, 5, 6], [0, 1, 2, 3, 4, 5, 6], [0, 1, 2, 3, 4, 5, 6, 7, 8], [0, 1, 2, 3, 4, 5, 6, 7, 8, 9], [0, 1, 2, 3, 4, 5, 6, 7, 8, 9, 10], [0, 1, 2, 3, 4, 5, 6, 7, 8, 9, 10, 11], [0, 1, 2, 3, 4, 5, 6, 7, 8, 9, 10, 11], [0, 1, 2, 3, 4, 5, 6, 7, 8, 9, 10, 11, 13], [0, 1, 2, 3, 4, 5, 6, 7, 8, 9, 10, 11, 12, 13, 14], [0, 1, 2, 3, 4, 5, 6, 7, 8, 9, 10, 11, 12, 13, 14, 15], [0, 1, 2, 3, 4, 5, 6, 7, 8, 9, 10, 11, 12, 13, 14, 15, 16], [0, 1, 2, 3, 4, 5, 6, 7, 8, 9, 10, 11, 12, 13, 14, 15, 16, 17], [0, 1, 2, 3, 4, 5, 6, 7, 8, 9, 10, 11, 12, 13, 14, 15, 16, 17, 18], [0, 1, 2, 3, 4, 5, 6, 7, 8, 9, 10, 11, 12, 13, 14, 15, 16, 17], [0, 1, 2, 3, 4, 5, 6, 7, 8, 9, 10, 11, 12, 13, 14, 15, 16, 17, 18, 19, 20], [0, 1, 2, 3, 4, 5, 6, 7, 8, 9, 10, 11, 12, 13, 14, 15, 16, 17], [0, 1, 2, 3, 4, 5, 6, 7, 8, 9, 10, 11, 12, 13, 14, 15, 16, 17, 22], [0, 1, 2, 3, 4, 5, 6, 7, 8, 9, 10, 11, 12, 13, 14, 15, 16, 17], [0, 1, 2, 3, 4, 5, 6, 7, 8, 9, 10, 11, 12, 13, 14, 15, 16, 17, 22, 23, 24], [0, 1, 2, 3, 4, 5, 6, 7, 8, 9, 10, 11, 12, 13, 14, 15, 16, 17, 18, 19, 20, 21, 22, 23, 24, 25], [0, 1, 2, 3, 4, 5, 6, 7, 8, 9, 10, 11, 12, 13, 14, 15, 16, 17, 18, 19, 20, 21, 22, 23, 24, 25, 26]])
  | 21 => ([], 13, [[], [], [0, 1], [0, 1, 2], [0, 1, 2, 3], [0, 1, 2, 3, 4], [], [], [7], [6, 7, 8], [6, 7, 8, 9], [6, 7, 8, 9, 10], [0, 1, 2, 3, 4, 5, 6, 7, 8, 9, 10, 11]])
  | 2000002 => ([], 9, [[], [0], [0, 1], [0, 1, 2], [0, 1, 2, 3], [0, 1, 2, 3, 4], [0, 1, 2, 3, 4, 5], [0, 1, 2, 3, 4, 5, 6]])
  | 2000008 => ([], 24, [[], [0], [0, 1], [0, 1, 2], [0, 1, 2, 3], [0, 1, 2, 3, 4], [0, 1, 2, 3, 4, 5], [0, 1, 2, 3, 4, 5, 6], [0, 1, 2, 3, 4, 5, 6, 7], [0, 1, 2, 3, 4, 5, 6, 7, 8], [0, 1, 2, 3, 4, 5, 6, 7, 8, 9], [0, 1, 2, 3, 4, 5, 6, 7, 8, 9, 10], [0, 1, 2, 3, 4, 5, 6, 7, 8, 9, 10, 11], [0, 1, 2, 3, 4, 5, 6, 7, 8, 9, 10, 11, 12], [0, 1, 2, 3, 4, 5, 6, 7, 8, 9, 10, 11, 12, 13], [0, 1, 2, 3, 4, 5, 6, 7, 8, 9, 10, 11, 12, 13, 14], [0, 1, 2, 3, 4, 5, 6, 7, 8, 9, 10, 11, 12, 13, 14, 15], [0, 1, 2, 3, 4, 5, 6, 7, 8, 9, 10, 11, 12, 13, 14, 15, 16], [0, 1, 2, 3, 4, 5, 6, 7, 8, 9, 10, 11, 12, 13, 14, 15, 16, 17], [0, 1, 2, 3, 4, 5, 6, 7, 8, 9, 10, 11, 12, 13, 14, 15, 16, 17, 18], [0, 1, 2, 3, 4, 5, 6, 7, 8, 9, 10, 11, 12, 13, 14, 15, 16, 17, 18, 19], [0, 1, 2, 3, 4, 5, 6, 7, 8, 9, 10, 11, 12, 13, 14, 15, 16, 17, 18, 19, 20], [0, 1, 2, 3, 4, 5, 6, 7, 8, 9, 10, 11, 12, 13, 14, 15, 16, 17, 18, 19, 20, 21]])
  | 2000016 => ([], 29, [[], [0], [0, 1], [0, 1, 2], [0, 1, 2, 3], [0, 1, 2, 3, 4], [0, 1, 2, 3, 4, 5], [0, 1, 2, 3, 4, 5, 6], [0, 1, 2, 3, 4, 5, 6], [0, 1, 2, 3, 4, 5, 6, 7, 8], [0, 1, 2, 3, 4, 5, 6, 7, 8, 9], [0, 1, 2, 3, 4, 5, 6, 7, 8, 9, 10], [0, 1, 2, 3, 4, 5, 6, 7, 8, 9, 10, 11], [0, 1, 2, 3, 4, 5, 6, 7, 8, 9, 10, 11], [0, 1, 2, 3, 4, 5, 6, 7, 8, 9, 10, 11, 13], [0, 1, 2, 3, 4, 5, 6, 7, 8, 9, 10, 11, 12, 13, 14], [0, 1, 2, 3, 4, 5, 6, 7, 8, 9, 10, 11, 12, 13, 14, 15], [0, 1, 2, 3, 4, 5, 6, 7, 8, 9, 10, 11, 12, 13, 14, 15, 16], [0, 1, 2, 3, 4, 5, 6, 7, 8, 9, 10, 11, 12, 13, 14, 15, 16, 17], [0, 1, 2, 3, 4, 5, 6, 7, 8, 9, 10, 11, 12, 13, 14, 15, 16, 17, 18], [0, 1, 2, 3, 4, 5, 6, 7, 8, 9, 10, 11, 12, 13, 14, 15, 16, 17], [0, 1, 2, 3, 4, 5, 6, 7, 8, 9, 10, 11, 12, 13, 14, 15, 16, 17, 18, 19, 20], [0, 1, 2, 3, 4, 5, 6, 7, 8, 9, 10, 11, 12, 13, 14, 15, 16, 17], [0, 1, 2, 3, 4, 5, 6, 7, 8, 9, 10, 11, 12, 13, 14, 15, 16, 17, 22], [0, 1, 2, 3, 4, 5, 6, 7, 8, 9, 10, 11, 12, 13, 14, 15, 16, 17], [0, 1, 2, 3, 4, 5, 6, 7, 8, 9, 10, 11, 12, 13, 14, 15, 16, 17, 22, 23, 24], [0, 1, 2, 3, 4, 5, 6, 7, 8, 9, 10, 11, 12, 13, 14, 15, 16, 17, 18, 19, 20, 21, 22, 23, 24, 25], [0, 1, 2, 3, 4, 5, 6, 7, 8, 9, 10, 11, 12, 13, 14, 15, 16, 17, 18, 19, 20, 21, 22, 23, 24, 25, 26]])
  | 2000019 => ([], 22, [[], [0], [0, 1], [0, 1, 2], [0, 1, 2, 3], [0, 1, 2, 3, 4], [0, 1, 2, 3, 4, 5], [0, 1, 2, 3, 4, 5, 6], [0, 1, 2, 3, 4, 5, 6, 7], [0, 1, 2, 3, 4, 5, 6, 7, 8], [0, 1, 2, 3, 4, 5, 6, 7, 8, 9], [0, 1, 2, 3, 4, 5, 6, 7, 8, 9, 10], [0, 1, 2, 3, 4, 5, 6, 7, 8, 9, 10, 11], [0, 1, 2, 3, 4, 5, 6, 7, 8, 9, 10, 11, 12], [0, 1, 2, 3, 4, 5, 6, 7, 8, 9, 10, 11, 12, 13], [0, 1, 2, 3, 4, 5, 6, 7, 8, 9, 10, 11, 12, 13, 14], [0, 1, 2, 3, 4, 5, 6, 7, 8, 9, 10, 11, 12, 13, 14, 15], [0, 1, 2, 3, 4, 5, 6, 7, 8, 9, 10, 11, 12, 13, 14, 15, 16], [0, 1, 2, 3, 4, 5, 6, 7, 8, 9, 10, 11, 12, 13, 14, 15, 16, 17], [0, 1, 2, 3, 4, 5, 6, 7, 8, 9, 10, 11, 12, 13, 14, 15, 16, 17, 18], [0, 1, 2, 3, 4, 5, 6, 7, 8, 9, 10, 11, 12, 13, 14, 15, 16, 17, 18, 19]])
  | _ => ([], 0, [])
noncomputable abbrev RewriteSums_lp_X : Cx := ⟨Try.prog, Tlx, Try.f3.ntmps, 0, ann_outriderlaw19_RewriteSums⟩
noncomputable def RewriteSums_lp_c : Code := cAt [.r, .r, .r, .r, .r, .r, .r, .r, .r, .l, .r, .b] (bodyOf Try.f3)
noncomputable def RewriteSums_lp_k (K : AVal → Hp → Prop) : Post := kAt RewriteSums_lp_X [.r, .r, .r, .r, .r, .r, .r, .r, .r, .l, .r, .b] (bodyOf Try.f3) (fnK Try.prog 0 Try.f3.results.toList K)
def RewriteSums_lp_n (K : AVal → Hp → Prop) (n : Nat) (s : St) : Prop := loopP (awp RewriteSums_lp_X (loopB RewriteSums_lp_c)) 0 [3, 7, 13, 76, 77] n s (RewriteSums_lp_k K)
def RewriteSums_lp (K : AVal → Hp → Prop) (s : St) : Prop := ∃ n, RewriteSums_lp_n K n s
def RewriteSums_lp_b (K : AVal → Hp → Prop) (J : St → Prop) (s : St) : Prop := awp RewriteSums_lp_X (loopB RewriteSums_lp_c) s (seqK (fun s' => normK 0 [3, 7, 13, 76, 77] s' J) (RewriteSums_lp_k K))
theorem RewriteSums_lp_next {K : AVal → Hp → Prop} {n : Nat} {s : St} (h : RewriteSums_lp_b K (fun s' => RewriteSums_lp_n K n s') s) : RewriteSums_lp_n K (n + 1) s := h
set_option maxRecDepth 100000 in
theorem RewriteSums_eq (f t : List UInt8) (p q : Int) (b : List UInt8) (a : List UInt8) (n : Int) (K : AVal → Hp → Prop) : fnP Try.prog Tlx ann_outriderlaw19_RewriteSums Try.f3 [.agg [.str f, .str t, .int .i64 p, .int .i64 q, .str b], .str a, .int .i64 n] [] K = (
 List.length b ≤ (140737488351232 : Nat) ∧
 I64 q ∧
 brP (!decide ((rwTo (Ip.mk f t p q b) a n).snd = (0 : Int)) || decide ((3000 : Int) < (↑(List.length b) : Int)))
 (K (AVal.bool true) [])
 (List.length b ≤ (140737488351232 : Nat) ∧
 List.length (rwTo (Ip.mk f t p q b) a n).fst.body ≤ (140737488351232 : Nat) ∧
 brP (!decide (n = (0 : Int)))
 (brP
 (!decide
 ((ptRead
 (Ip.mk (rwTo (Ip.mk f t p q b) a n).fst.src (rwTo (Ip.mk f t p q b) a n).fst.dst
 (rwTo (Ip.mk f t p q b) a n).fst.proto (rwTo (Ip.mk f t p q b) a n).fst.ttl
 (rwTo (Ip.mk f t p q b) a n).fst.body)).snd =
 (0 : Int)) ||
 !(decide
 ((ptRead
 (Ip.mk (rwTo (Ip.mk f t p q b) a n).fst.src (rwTo (Ip.mk f t p q b) a n).fst.dst
 (rwTo (Ip.mk f t p q b) a n).fst.proto (rwTo (Ip.mk f t p q b) a n).fst.ttl
 (rwTo (Ip.mk f t p q b) a n).fst.body)).fst.proto =
 (ptRead (Ip.mk f t p q b)).fst.proto) &&
 (decide
 ((ptRead
 (Ip.mk (rwTo (Ip.mk f t p q b) a n).fst.src (rwTo (Ip.mk f t p q b) a n).fst.dst
 (rwTo (Ip.mk f t p q b) a n).fst.proto (rwTo (Ip.mk f t p q b) a n).fst.ttl
 (rwTo (Ip.mk f t p q b) a n).fst.body)).fst.src =
 (ptRead (Ip.mk f t p q b)).fst.src) &&
 (decide
 ((ptRead
 (Ip.mk (rwTo (Ip.mk f t p q b) a n).fst.src (rwTo (Ip.mk f t p q b) a n).fst.dst
 (rwTo (Ip.mk f t p q b) a n).fst.proto (rwTo (Ip.mk f t p q b) a n).fst.ttl
 (rwTo (Ip.mk f t p q b) a n).fst.body)).fst.dst =
 n) &&
 (decide
 ((ptRead
 (Ip.mk (rwTo (Ip.mk f t p q b) a n).fst.src (rwTo (Ip.mk f t p q b) a n).fst.dst
 (rwTo (Ip.mk f t p q b) a n).fst.proto (rwTo (Ip.mk f t p q b) a n).fst.ttl
 (rwTo (Ip.mk f t p q b) a n).fst.body)).fst.flags =
 (ptRead (Ip.mk f t p q b)).fst.flags) &&
 decide
 ((ptRead
 (Ip.mk (rwTo (Ip.mk f t p q b) a n).fst.src (rwTo (Ip.mk f t p q b) a n).fst.dst
 (rwTo (Ip.mk f t p q b) a n).fst.proto (rwTo (Ip.mk f t p q b) a n).fst.ttl
 (rwTo (Ip.mk f t p q b) a n).fst.body)).fst.at' =
 (ptRead (Ip.mk f t p q b)).fst.at'))))) ||
 !decide ((↑(List.length (rwTo (Ip.mk f t p q b) a n).fst.body) : Int) = (↑(List.length b) : Int)) ||
 !decide ((rwTo (Ip.mk f t p q b) a n).fst.src = f))
 (K (AVal.bool false) [])
 (brP (decide (p = (17 : Int)))
 (RewriteSums_lp K
 (St.mk
 [((3 : Nat), AVal.ptr (0 : Nat) (0 : Nat)), ((7 : Nat), AVal.ptr (1 : Nat) (0 : Nat)),
 ((13 : Nat), AVal.int IntKind.i64 (6 : Int)), ((76 : Nat), AVal.int IntKind.i64 (↑(List.length b) : Int)),
 ((77 : Nat), AVal.int IntKind.i64 (0 : Int))]
 [ABlk.vals [AVal.str f, AVal.str t, AVal.int IntKind.i64 p, AVal.int IntKind.i64 q, AVal.str b],
 ABlk.vals
 [AVal.str (rwTo (Ip.mk f t p q b) a n).fst.src, AVal.str (rwTo (Ip.mk f t p q b) a n).fst.dst,
 AVal.int IntKind.i64 (rwTo (Ip.mk f t p q b) a n).fst.proto,
 AVal.int IntKind.i64 (rwTo (Ip.mk f t p q b) a n).fst.ttl,
 AVal.str (rwTo (Ip.mk f t p q b) a n).fst.body]]))
 (RewriteSums_lp K
 (St.mk
 [((3 : Nat), AVal.ptr (0 : Nat) (0 : Nat)), ((7 : Nat), AVal.ptr (1 : Nat) (0 : Nat)),
 ((13 : Nat), AVal.int IntKind.i64 (16 : Int)), ((76 : Nat), AVal.int IntKind.i64 (↑(List.length b) : Int)),
 ((77 : Nat), AVal.int IntKind.i64 (0 : Int))]
 [ABlk.vals [AVal.str f, AVal.str t, AVal.int IntKind.i64 p, AVal.int IntKind.i64 q, AVal.str b],
 ABlk.vals
 [AVal.str (rwTo (Ip.mk f t p q b) a n).fst.src, AVal.str (rwTo (Ip.mk f t p q b) a n).fst.dst,
 AVal.int IntKind.i64 (rwTo (Ip.mk f t p q b) a n).fst.proto,
 AVal.int IntKind.i64 (rwTo (Ip.mk f t p q b) a n).fst.ttl,
 AVal.str (rwTo (Ip.mk f t p q b) a n).fst.body]]))))
 (brP
 (!decide
 ((ptRead
 (Ip.mk (rwTo (Ip.mk f t p q b) a n).fst.src (rwTo (Ip.mk f t p q b) a n).fst.dst
 (rwTo (Ip.mk f t p q b) a n).fst.proto (rwTo (Ip.mk f t p q b) a n).fst.ttl
 (rwTo (Ip.mk f t p q b) a n).fst.body)).snd =
 (0 : Int)) ||
 !(decide
 ((ptRead
 (Ip.mk (rwTo (Ip.mk f t p q b) a n).fst.src (rwTo (Ip.mk f t p q b) a n).fst.dst
 (rwTo (Ip.mk f t p q b) a n).fst.proto (rwTo (Ip.mk f t p q b) a n).fst.ttl
 (rwTo (Ip.mk f t p q b) a n).fst.body)).fst.proto =
 (ptRead (Ip.mk f t p q b)).fst.proto) &&
 (decide
 ((ptRead
 (Ip.mk (rwTo (Ip.mk f t p q b) a n).fst.src (rwTo (Ip.mk f t p q b) a n).fst.dst
 (rwTo (Ip.mk f t p q b) a n).fst.proto (rwTo (Ip.mk f t p q b) a n).fst.ttl
 (rwTo (Ip.mk f t p q b) a n).fst.body)).fst.src =
 (ptRead (Ip.mk f t p q b)).fst.src) &&
 (decide
 ((ptRead
 (Ip.mk (rwTo (Ip.mk f t p q b) a n).fst.src (rwTo (Ip.mk f t p q b) a n).fst.dst
 (rwTo (Ip.mk f t p q b) a n).fst.proto (rwTo (Ip.mk f t p q b) a n).fst.ttl
 (rwTo (Ip.mk f t p q b) a n).fst.body)).fst.dst =
 (ptRead (Ip.mk f t p q b)).fst.dst) &&
 (decide
 ((ptRead
 (Ip.mk (rwTo (Ip.mk f t p q b) a n).fst.src (rwTo (Ip.mk f t p q b) a n).fst.dst
 (rwTo (Ip.mk f t p q b) a n).fst.proto (rwTo (Ip.mk f t p q b) a n).fst.ttl
 (rwTo (Ip.mk f t p q b) a n).fst.body)).fst.flags =
 (ptRead (Ip.mk f t p q b)).fst.flags) &&
 decide
 ((ptRead
 (Ip.mk (rwTo (Ip.mk f t p q b) a n).fst.src (rwTo (Ip.mk f t p q b) a n).fst.dst
 (rwTo (Ip.mk f t p q b) a n).fst.proto (rwTo (Ip.mk f t p q b) a n).fst.ttl
 (rwTo (Ip.mk f t p q b) a n).fst.body)).fst.at' =
 (ptRead (Ip.mk f t p q b)).fst.at'))))) ||
 !decide ((↑(List.length (rwTo (Ip.mk f t p q b) a n).fst.body) : Int) = (↑(List.length b) : Int)) ||
 !decide ((rwTo (Ip.mk f t p q b) a n).fst.src = f))
 (K (AVal.bool false) [])
 (brP (decide (p = (17 : Int)))
 (RewriteSums_lp K
 (St.mk
 [((3 : Nat), AVal.ptr (0 : Nat) (0 : Nat)), ((7 : Nat), AVal.ptr (1 : Nat) (0 : Nat)),
 ((13 : Nat), AVal.int IntKind.i64 (6 : Int)), ((76 : Nat), AVal.int IntKind.i64 (↑(List.length b) : Int)),
 ((77 : Nat), AVal.int IntKind.i64 (0 : Int))]
 [ABlk.vals [AVal.str f, AVal.str t, AVal.int IntKind.i64 p, AVal.int IntKind.i64 q, AVal.str b],
 ABlk.vals
 [AVal.str (rwTo (Ip.mk f t p q b) a n).fst.src, AVal.str (rwTo (Ip.mk f t p q b) a n).fst.dst,
 AVal.int IntKind.i64 (rwTo (Ip.mk f t p q b) a n).fst.proto,
 AVal.int IntKind.i64 (rwTo (Ip.mk f t p q b) a n).fst.ttl,
 AVal.str (rwTo (Ip.mk f t p q b) a n).fst.body]]))
 (RewriteSums_lp K
 (St.mk
 [((3 : Nat), AVal.ptr (0 : Nat) (0 : Nat)), ((7 : Nat), AVal.ptr (1 : Nat) (0 : Nat)),
 ((13 : Nat), AVal.int IntKind.i64 (16 : Int)), ((76 : Nat), AVal.int IntKind.i64 (↑(List.length b) : Int)),
 ((77 : Nat), AVal.int IntKind.i64 (0 : Int))]
 [ABlk.vals [AVal.str f, AVal.str t, AVal.int IntKind.i64 p, AVal.int IntKind.i64 q, AVal.str b],
 ABlk.vals
 [AVal.str (rwTo (Ip.mk f t p q b) a n).fst.src, AVal.str (rwTo (Ip.mk f t p q b) a n).fst.dst,
 AVal.int IntKind.i64 (rwTo (Ip.mk f t p q b) a n).fst.proto,
 AVal.int IntKind.i64 (rwTo (Ip.mk f t p q b) a n).fst.ttl,
 AVal.str (rwTo (Ip.mk f t p q b) a n).fst.body]])))))) := by kernel_rfl
set_option maxRecDepth 100000 in
theorem RewriteSums_lp_step (f t : List UInt8) (p q : Int) (b f' t' : List UInt8) (p' q' : Int) (b' : List UInt8) (s m k : Int) (K : AVal → Hp → Prop) (J : St → Prop) : RewriteSums_lp_b K J (St.mk [(3, .ptr 0 0), (7, .ptr 1 0), (13, .int .i64 s), (76, .int .i64 m), (77, .int .i64 k)] [.vals [.str f, .str t, .int .i64 p, .int .i64 q, .str b], .vals [.str f', .str t', .int .i64 p', .int .i64 q', .str b']]) = (
 brP (decide (k < m))
 (impP (!decide (k = (2 : Int)) && !decide (k = (3 : Int)) && !decide (k = s)) (I64 (s + (1 : Int))) ∧
 impP (!decide (k = (2 : Int)) && !decide (k = (3 : Int)) && !decide (k = s) && !decide (k = s + (1 : Int)))
 ((0 : Int) ≤ k ∧ k < (↑(List.length b') : Int)) ∧
 impP (!decide (k = (2 : Int)) && !decide (k = (3 : Int)) && !decide (k = s) && !decide (k = s + (1 : Int)))
 ((0 : Int) ≤ k ∧ k < (↑(List.length b) : Int)) ∧
 brP
 (!decide (k = (2 : Int)) && !decide (k = (3 : Int)) && !decide (k = s) && !decide (k = s + (1 : Int)) &&
 !decide (List.getD b' (Int.toNat k) (0 : UInt8) = List.getD b (Int.toNat k) (0 : UInt8)))
 (K (AVal.bool false) [])
 (I64 (k + (1 : Int)) ∧
 J
 (St.mk
 [((3 : Nat), AVal.ptr (0 : Nat) (0 : Nat)), ((7 : Nat), AVal.ptr (1 : Nat) (0 : Nat)),
 ((13 : Nat), AVal.int IntKind.i64 s), ((76 : Nat), AVal.int IntKind.i64 m),
 ((77 : Nat), AVal.int IntKind.i64 (k + (1 : Int)))]
 [ABlk.vals [AVal.str f, AVal.str t, AVal.int IntKind.i64 p, AVal.int IntKind.i64 q, AVal.str b],
 ABlk.vals [AVal.str f', AVal.str t', AVal.int IntKind.i64 p', AVal.int IntKind.i64 q', AVal.str b']])))
 (impP (decide (p = (17 : Int)) && decide ((↑(List.length t) : Int) = (4 : Int)))
 ((0 : Int) ≤ (6 : Int) ∧ (6 : Int) < (↑(List.length b) : Int)) ∧
 impP
 (decide (p = (17 : Int)) && decide ((↑(List.length t) : Int) = (4 : Int)) &&
 decide (List.getD b (6 : Nat) (0 : UInt8) = (0 : UInt8)))
 ((0 : Int) ≤ (7 : Int) ∧ (7 : Int) < (↑(List.length b) : Int)) ∧
 List.length b' ≤ (140737488355328 : Nat) ∧
 ((0 : Int) ≤ s ∧ s < (↑(List.length b') : Int)) ∧
 (0 : Nat) + Int.toNat s * (1 : Nat) < List.length b' ∧
 ((0 : Int) ≤ (8 : Int) ∧ (8 : Nat) < (16 : Nat)) ∧
 I64 (s + (1 : Int)) ∧
 ((0 : Int) ≤ s + (1 : Int) ∧ s + (1 : Int) < (↑(List.length b') : Int)) ∧
 (0 : Nat) + Int.toNat (s + (1 : Int)) * (1 : Nat) < List.length b' ∧
 I64 (s + (1 : Int)) ∧
 ((0 : Int) ≤ s ∧ s < (↑(List.length b') : Int)) ∧
 (0 : Nat) + Int.toNat s * (1 : Nat) < List.length b' ∧
 ((0 : Int) ≤ s + (1 : Int) ∧ s + (1 : Int) < (↑(List.length b') : Int)) ∧
 (0 : Nat) + Int.toNat (s + (1 : Int)) * (1 : Nat) <
 List.length (List.set b' ((0 : Nat) + Int.toNat s * (1 : Nat)) (0 : UInt8)) ∧
 brP
 (decide (p = (17 : Int)) && decide ((↑(List.length t) : Int) = (4 : Int)) &&
 decide (List.getD b (6 : Nat) (0 : UInt8) = (0 : UInt8)) &&
 decide (List.getD b (7 : Nat) (0 : UInt8) = (0 : UInt8)))
 (brP
 (decide
 (bits BinOp.or IntKind.u16
 (IntKind.wrap IntKind.u16
 ((↑(UInt8.toNat (List.getD b' ((0 : Nat) + Int.toNat s * (1 : Nat)) (0 : UInt8))) : Int) *
 (256 : Int)))
 (↑(UInt8.toNat (List.getD b' ((0 : Nat) + Int.toNat (s + (1 : Int)) * (1 : Nat)) (0 : UInt8))) :
 Int) =
 (0 : Int)))
 (K (AVal.bool true) [])
 (brP
 (!(decide (p = (17 : Int)) && decide ((↑(List.length t) : Int) = (4 : Int)) &&
 decide (List.getD b (6 : Nat) (0 : UInt8) = (0 : UInt8)) &&
 decide (List.getD b (7 : Nat) (0 : UInt8) = (0 : UInt8))))
 (optP (pseudo f' t' p' (↑(List.length b') : Int))
 (fun x =>
 ((2 : Nat) ≤ (1000 : Nat) ∧
 List.length
 (List.flatten
 [List.take (List.length x) (List.drop (0 : Nat) x),
 List.take (List.length b')
 (List.drop (0 : Nat)
 (List.set (List.set b' ((0 : Nat) + Int.toNat s * (1 : Nat)) (0 : UInt8))
 ((0 : Nat) + Int.toNat (s + (1 : Int)) * (1 : Nat)) (0 : UInt8)))]) ≤
 (562949953421312 : Nat)) ∧
 K
 (AVal.bool
 (decide
 (bits BinOp.or IntKind.u16
 (IntKind.wrap IntKind.u16
 ((↑(UInt8.toNat (List.getD b' ((0 : Nat) + Int.toNat s * (1 : Nat)) (0 : UInt8))) : Int) *
 (256 : Int)))
 (↑(UInt8.toNat
 (List.getD b' ((0 : Nat) + Int.toNat (s + (1 : Int)) * (1 : Nat)) (0 : UInt8))) :
 Int) =
 (65535 : Int) -
 sumB
 (List.flatten
 [List.take (List.length x) (List.drop (0 : Nat) x),
 List.take (List.length b')
 (List.drop (0 : Nat)
 (List.set (List.set b' ((0 : Nat) + Int.toNat s * (1 : Nat)) (0 : UInt8))
 ((0 : Nat) + Int.toNat (s + (1 : Int)) * (1 : Nat)) (0 : UInt8)))])) ||
 decide
 (IntKind.wrap IntKind.u16
 (bits BinOp.or IntKind.u16
 (IntKind.wrap IntKind.u16
 ((↑(UInt8.toNat (List.getD b' ((0 : Nat) + Int.toNat s * (1 : Nat)) (0 : UInt8))) :
 Int) *
 (256 : Int)))
 (↑(UInt8.toNat
 (List.getD b' ((0 : Nat) + Int.toNat (s + (1 : Int)) * (1 : Nat)) (0 : UInt8))) :
 Int) +
 ((65535 : Int) -
 sumB
 (List.flatten
 [List.take (List.length x) (List.drop (0 : Nat) x),
 List.take (List.length b')
 (List.drop (0 : Nat)
 (List.set (List.set b' ((0 : Nat) + Int.toNat s * (1 : Nat)) (0 : UInt8))
 ((0 : Nat) + Int.toNat (s + (1 : Int)) * (1 : Nat)) (0 : UInt8)))]))) =
 (65535 : Int)) &&
 (decide
 (bits BinOp.or IntKind.u16
 (IntKind.wrap IntKind.u16
 ((↑(UInt8.toNat (List.getD b' ((0 : Nat) + Int.toNat s * (1 : Nat)) (0 : UInt8))) :
 Int) *
 (256 : Int)))
 (↑(UInt8.toNat
 (List.getD b' ((0 : Nat) + Int.toNat (s + (1 : Int)) * (1 : Nat)) (0 : UInt8))) :
 Int) =
 (0 : Int)) ||
 decide
 ((65535 : Int) -
 sumB
 (List.flatten
 [List.take (List.length x) (List.drop (0 : Nat) x),
 List.take (List.length b')
 (List.drop (0 : Nat)
 (List.set (List.set b' ((0 : Nat) + Int.toNat s * (1 : Nat)) (0 : UInt8))
 ((0 : Nat) + Int.toNat (s + (1 : Int)) * (1 : Nat)) (0 : UInt8)))]) =
 (0 : Int)))))
 [])
 (((2 : Nat) ≤ (1000 : Nat) ∧
 List.length
 (List.flatten
 [[],
 List.take (List.length b')
 (List.drop (0 : Nat)
 (List.set (List.set b' ((0 : Nat) + Int.toNat s * (1 : Nat)) (0 : UInt8))
 ((0 : Nat) + Int.toNat (s + (1 : Int)) * (1 : Nat)) (0 : UInt8)))]) ≤
 (562949953421312 : Nat)) ∧
 K
 (AVal.bool
 (decide
 (bits BinOp.or IntKind.u16
 (IntKind.wrap IntKind.u16
 ((↑(UInt8.toNat (List.getD b' ((0 : Nat) + Int.toNat s * (1 : Nat)) (0 : UInt8))) : Int) *
 (256 : Int)))
 (↑(UInt8.toNat
 (List.getD b' ((0 : Nat) + Int.toNat (s + (1 : Int)) * (1 : Nat)) (0 : UInt8))) :
 Int) =
 (65535 : Int) -
 sumB
 (List.flatten
 [[],
 List.take (List.length b')
 (List.drop (0 : Nat)
 (List.set (List.set b' ((0 : Nat) + Int.toNat s * (1 : Nat)) (0 : UInt8))
 ((0 : Nat) + Int.toNat (s + (1 : Int)) * (1 : Nat)) (0 : UInt8)))])) ||
 decide
 (IntKind.wrap IntKind.u16
 (bits BinOp.or IntKind.u16
 (IntKind.wrap IntKind.u16
 ((↑(UInt8.toNat (List.getD b' ((0 : Nat) + Int.toNat s * (1 : Nat)) (0 : UInt8))) :
 Int) *
 (256 : Int)))
 (↑(UInt8.toNat
 (List.getD b' ((0 : Nat) + Int.toNat (s + (1 : Int)) * (1 : Nat)) (0 : UInt8))) :
 Int) +
 ((65535 : Int) -
 sumB
 (List.flatten
 [[],
 List.take (List.length b')
 (List.drop (0 : Nat)
 (List.set (List.set b' ((0 : Nat) + Int.toNat s * (1 : Nat)) (0 : UInt8))
 ((0 : Nat) + Int.toNat (s + (1 : Int)) * (1 : Nat)) (0 : UInt8)))]))) =
 (65535 : Int)) &&
 (decide
 (bits BinOp.or IntKind.u16
 (IntKind.wrap IntKind.u16
 ((↑(UInt8.toNat (List.getD b' ((0 : Nat) + Int.toNat s * (1 : Nat)) (0 : UInt8))) : Int) *
 (256 : Int)))
 (↑(UInt8.toNat
 (List.getD b' ((0 : Nat) + Int.toNat (s + (1 : Int)) * (1 : Nat)) (0 : UInt8))) :
 Int) =
 (0 : Int)) ||
 decide
 ((65535 : Int) -
 sumB
 (List.flatten
 [[],
 List.take (List.length b')
 (List.drop (0 : Nat)
 (List.set (List.set b' ((0 : Nat) + Int.toNat s * (1 : Nat)) (0 : UInt8))
 ((0 : Nat) + Int.toNat (s + (1 : Int)) * (1 : Nat)) (0 : UInt8)))]) =
 (0 : Int)))))
 []))
 (K (AVal.bool false) [])))
 (brP
 (!(decide (p = (17 : Int)) && decide ((↑(List.length t) : Int) = (4 : Int)) &&
 decide (List.getD b (6 : Nat) (0 : UInt8) = (0 : UInt8)) &&
 decide (List.getD b (7 : Nat) (0 : UInt8) = (0 : UInt8))))
 (optP (pseudo f' t' p' (↑(List.length b') : Int))
 (fun x =>
 ((2 : Nat) ≤ (1000 : Nat) ∧
 List.length
 (List.flatten
 [List.take (List.length x) (List.drop (0 : Nat) x),
 List.take (List.length b')
 (List.drop (0 : Nat)
 (List.set (List.set b' ((0 : Nat) + Int.toNat s * (1 : Nat)) (0 : UInt8))
 ((0 : Nat) + Int.toNat (s + (1 : Int)) * (1 : Nat)) (0 : UInt8)))]) ≤
 (562949953421312 : Nat)) ∧
 K
 (AVal.bool
 (decide
 (bits BinOp.or IntKind.u16
 (IntKind.wrap IntKind.u16
 ((↑(UInt8.toNat (List.getD b' ((0 : Nat) + Int.toNat s * (1 : Nat)) (0 : UInt8))) : Int) *
 (256 : Int)))
 (↑(UInt8.toNat
 (List.getD b' ((0 : Nat) + Int.toNat (s + (1 : Int)) * (1 : Nat)) (0 : UInt8))) :
 Int) =
 (65535 : Int) -
 sumB
 (List.flatten
 [List.take (List.length x) (List.drop (0 : Nat) x),
 List.take (List.length b')
 (List.drop (0 : Nat)
 (List.set (List.set b' ((0 : Nat) + Int.toNat s * (1 : Nat)) (0 : UInt8))
 ((0 : Nat) + Int.toNat (s + (1 : Int)) * (1 : Nat)) (0 : UInt8)))])) ||
 decide
 (IntKind.wrap IntKind.u16
 (bits BinOp.or IntKind.u16
 (IntKind.wrap IntKind.u16
 ((↑(UInt8.toNat (List.getD b' ((0 : Nat) + Int.toNat s * (1 : Nat)) (0 : UInt8))) :
 Int) *
 (256 : Int)))
 (↑(UInt8.toNat
 (List.getD b' ((0 : Nat) + Int.toNat (s + (1 : Int)) * (1 : Nat)) (0 : UInt8))) :
 Int) +
 ((65535 : Int) -
 sumB
 (List.flatten
 [List.take (List.length x) (List.drop (0 : Nat) x),
 List.take (List.length b')
 (List.drop (0 : Nat)
 (List.set (List.set b' ((0 : Nat) + Int.toNat s * (1 : Nat)) (0 : UInt8))
 ((0 : Nat) + Int.toNat (s + (1 : Int)) * (1 : Nat)) (0 : UInt8)))]))) =
 (65535 : Int)) &&
 (decide
 (bits BinOp.or IntKind.u16
 (IntKind.wrap IntKind.u16
 ((↑(UInt8.toNat (List.getD b' ((0 : Nat) + Int.toNat s * (1 : Nat)) (0 : UInt8))) : Int) *
 (256 : Int)))
 (↑(UInt8.toNat
 (List.getD b' ((0 : Nat) + Int.toNat (s + (1 : Int)) * (1 : Nat)) (0 : UInt8))) :
 Int) =
 (0 : Int)) ||
 decide
 ((65535 : Int) -
 sumB
 (List.flatten
 [List.take (List.length x) (List.drop (0 : Nat) x),
 List.take (List.length b')
 (List.drop (0 : Nat)
 (List.set (List.set b' ((0 : Nat) + Int.toNat s * (1 : Nat)) (0 : UInt8))
 ((0 : Nat) + Int.toNat (s + (1 : Int)) * (1 : Nat)) (0 : UInt8)))]) =
 (0 : Int)))))
 [])
 (((2 : Nat) ≤ (1000 : Nat) ∧
 List.length
 (List.flatten
 [[],
 List.take (List.length b')
 (List.drop (0 : Nat)
 (List.set (List.set b' ((0 : Nat) + Int.toNat s * (1 : Nat)) (0 : UInt8))
 ((0 : Nat) + Int.toNat (s + (1 : Int)) * (1 : Nat)) (0 : UInt8)))]) ≤
 (562949953421312 : Nat)) ∧
 K
 (AVal.bool
 (decide
 (bits BinOp.or IntKind.u16
 (IntKind.wrap IntKind.u16
 ((↑(UInt8.toNat (List.getD b' ((0 : Nat) + Int.toNat s * (1 : Nat)) (0 : UInt8))) : Int) *
 (256 : Int)))
 (↑(UInt8.toNat
 (List.getD b' ((0 : Nat) + Int.toNat (s + (1 : Int)) * (1 : Nat)) (0 : UInt8))) :
 Int) =
 (65535 : Int) -
 sumB
 (List.flatten
 [[],
 List.take (List.length b')
 (List.drop (0 : Nat)
 (List.set (List.set b' ((0 : Nat) + Int.toNat s * (1 : Nat)) (0 : UInt8))
 ((0 : Nat) + Int.toNat (s + (1 : Int)) * (1 : Nat)) (0 : UInt8)))])) ||
 decide
 (IntKind.wrap IntKind.u16
 (bits BinOp.or IntKind.u16
 (IntKind.wrap IntKind.u16
 ((↑(UInt8.toNat (List.getD b' ((0 : Nat) + Int.toNat s * (1 : Nat)) (0 : UInt8))) : Int) *
 (256 : Int)))
 (↑(UInt8.toNat
 (List.getD b' ((0 : Nat) + Int.toNat (s + (1 : Int)) * (1 : Nat)) (0 : UInt8))) :
 Int) +
 ((65535 : Int) -
 sumB
 (List.flatten
 [[],
 List.take (List.length b')
 (List.drop (0 : Nat)
 (List.set (List.set b' ((0 : Nat) + Int.toNat s * (1 : Nat)) (0 : UInt8))
 ((0 : Nat) + Int.toNat (s + (1 : Int)) * (1 : Nat)) (0 : UInt8)))]))) =
 (65535 : Int)) &&
 (decide
 (bits BinOp.or IntKind.u16
 (IntKind.wrap IntKind.u16
 ((↑(UInt8.toNat (List.getD b' ((0 : Nat) + Int.toNat s * (1 : Nat)) (0 : UInt8))) : Int) *
 (256 : Int)))
 (↑(UInt8.toNat
 (List.getD b' ((0 : Nat) + Int.toNat (s + (1 : Int)) * (1 : Nat)) (0 : UInt8))) :
 Int) =
 (0 : Int)) ||
 decide
 ((65535 : Int) -
 sumB
 (List.flatten
 [[],
 List.take (List.length b')
 (List.drop (0 : Nat)
 (List.set (List.set b' ((0 : Nat) + Int.toNat s * (1 : Nat)) (0 : UInt8))
 ((0 : Nat) + Int.toNat (s + (1 : Int)) * (1 : Nat)) (0 : UInt8)))]) =
 (0 : Int)))))
 []))
 (K (AVal.bool false) [])))) := by kernel_rfl
theorem sums_end {f t : List UInt8} {p q : Int} {b : List UInt8} {a : List UInt8} {n : Int} (hX : (rwTo ⟨f, t, p, q, b⟩ a n).2 = 0) (hl : b.length ≤ 3000) (m k : Int) (hk : ¬ k < m) (J : St → Prop) :
    RewriteSums_lp_b (fun v _ => v = .bool true) J (St.mk [(3, .ptr 0 0), (7, .ptr 1 0), (13, .int .i64 (sumAt ⟨f, t, p, q, b⟩ : Nat)), (76, .int .i64 m), (77, .int .i64 k)] [.vals [.str f, .str t, .int .i64 p, .int .i64 q, .str b], .vals [.str f, .str a, .int .i64 p, .int .i64 (q - 1), .str (rwTurned ⟨f, t, p, q, b⟩ 2 t a n)]]) := by
  rw [RewriteSums_lp_step]
  obtain ⟨hr, ha, hn0, hn1, ht, e⟩ := rwTo_ok hX
  simp only at ha ht
  obtain ⟨hlen, hs, he⟩ := ptRead_len hr
  simp only at hlen hs he
  obtain ⟨hng, hra, _, _⟩ := read_ok hr
  have hsum : sumAt ⟨f, t, p, q, b⟩ + 2 ≤ b.length ∧ 6 ≤ sumAt ⟨f, t, p, q, b⟩ ∧ sumAt ⟨f, t, p, q, b⟩ ≤ 16 ∧ (p = 17 → sumAt ⟨f, t, p, q, b⟩ = 6) := by unfold sumAt; simp only; split <;> omega
  obtain ⟨u, v, _, t1, _⟩ := turned_get (p := ⟨f, t, p, q, b⟩) (was := t) (a := a) (n := n) hsum.1 hsum.2.1
  simp only at t1
  have hold := rwOld_zero (p := ⟨f, t, p, q, b⟩)
  have hnone : p = 17 → t.length = 4 → b.getD 6 0 = 0 → b.getD 7 0 = 0 → rwTurned ⟨f, t, p, q, b⟩ 2 t a n = putB b 2 (rwFresh b 2 n) := fun h1 h2 h3 h4 => by
    unfold rwTurned; rw [if_pos ⟨h1, (hold h1).2 ⟨h3, h4⟩, h2⟩]
  have hanew := fun hg hno => turned_anew (p := ⟨f, t, p, q, b⟩) (a := a) (n := n) hr ha hg hno ⟨hn0, hn1⟩
  simp only at hanew hold
  have hg0 : ptNone ⟨f, t, p, q, b⟩ = true → p = 17 ∧ t.length = 4 ∧ b.getD 6 0 = 0 ∧ b.getD 7 0 = 0 := fun h => by
    unfold ptNone at h
    simp only [Bool.and_eq_true, decide_eq_true_eq] at h
    exact ⟨h.1.1.1.1, h.1.1.2, h.1.2, h.2⟩
  obtain ⟨x, hx⟩ : ∃ x, pseudo f a p ((rwTurned ⟨f, t, p, q, b⟩ 2 t a n).length : Int) = some x := by
    unfold pseudo; rw [if_pos ⟨hs, by omega⟩]; exact ⟨_, rfl⟩
  have hxl := pseudo_len hx
  have hxL : pseudoL f a p ((rwTurned ⟨f, t, p, q, b⟩ 2 t a n).length : Int) = x := by unfold pseudoL; rw [hx]; rfl
  rw [hxL] at hanew
  have hset := putB_set (b := rwTurned ⟨f, t, p, q, b⟩ 2 t a n) (k := sumAt ⟨f, t, p, q, b⟩) (x := 0) (y := 0) (by omega)
  generalize hS : sumAt ⟨f, t, p, q, b⟩ = S at *
  generalize hT : rwTurned ⟨f, t, p, q, b⟩ 2 t a n = T at *
  have hwr : ∀ k : Int, IntKind.wrap IntKind.u16 k = k % 65536 := fun k => IntKind.wrap_u16 k
  have iS : I64 ((S : Int) + 1) := by unfold I64; omega
  have n1 : ((S : Int) + 1).toNat = S + 1 := by omega
  refine brP_d (fun h => absurd h hk) (fun _ => ?_)
  refine ⟨fun hc => by simp only [Bool.and_eq_true, Bool.or_eq_true, Bool.and_eq_false_iff, Bool.or_eq_false_iff, decide_eq_true_eq, decide_eq_false_iff_not, Bool.not_eq_true', Bool.not_eq_false', Bool.not_true, Bool.not_false, Bool.true_and, Bool.and_true, Bool.false_or, Bool.or_false, beq_iff_eq, beq_eq_false_iff_ne, ne_eq] at hc; omega, fun hc => by simp only [Bool.and_eq_true, Bool.or_eq_true, Bool.and_eq_false_iff, Bool.or_eq_false_iff, decide_eq_true_eq, decide_eq_false_iff_not, Bool.not_eq_true', Bool.not_eq_false', Bool.not_true, Bool.not_false, Bool.true_and, Bool.and_true, Bool.false_or, Bool.or_false, beq_iff_eq, beq_eq_false_iff_ne, ne_eq] at hc; omega, ?_⟩
  simp only [n1, Int.toNat_natCast, Nat.zero_add, Nat.mul_one, List.drop_zero, List.length_set, hset, or_u16]
  simp only [hwr]
  refine ⟨by omega, by omega, by omega, by omega, iS, by omega, by omega, iS, by omega, by omega, by omega, by omega, ?_⟩
  by_cases hc : p = 17 ∧ t.length = 4 ∧ b.getD 6 0 = 0 ∧ b.getD 7 0 = 0
  · obtain ⟨c1, c2, c3, c4⟩ := hc
    have hS6 := hsum.2.2.2 c1
    subst hS6
    obtain ⟨y, z, hf⟩ := fresh_two b 2 n
    have hT2 := hnone c1 c2 c3 c4
    rw [hf] at hT2
    subst hT2
    have h4 : 2 + 2 ≤ b.length := by omega
    have c2' : (t.length : Int) = 4 := by omega
    have z0 : w16 0 0 = 0 := by decide
    rw [putB_get h4 (by omega), putB_get h4 (by omega), c3, c4, z0]
    simp only [c1, c2', decide_true, Bool.and_true, brP_t]
  · have hg : ptGood ⟨f, t, p, q, b⟩ = true := by
      rcases hng with h | h
      · exact absurd (hg0 h) hc
      · exact h
    have hno : ¬ (p = 17 ∧ rwOld ⟨f, t, p, q, b⟩ = 0 ∧ t.length = 4) := fun h => hc ⟨h.1, h.2.2, (hold h.1).1 h.2.1⟩
    have hm := hanew hg hno
    have hcb : (decide (p = (17 : Int)) && decide ((t.length : Int) = (4 : Int)) && decide (b.getD 6 0 = (0 : UInt8)) && decide (b.getD 7 0 = (0 : UInt8))) = false := by
      cases hh : (decide (p = (17 : Int)) && decide ((t.length : Int) = (4 : Int)) && decide (b.getD 6 0 = (0 : UInt8)) && decide (b.getD 7 0 = (0 : UInt8))) with
      | false => rfl
      | true =>
        simp only [Bool.and_eq_true, decide_eq_true_eq] at hh
        exact absurd ⟨hh.1.1.1, by omega, hh.1.2, hh.2⟩ hc
    have hpl : (putB T S [0, 0]).length = T.length := putB_len (by omega)
    simp only [hcb, brP_f, Bool.not_false, brP_t, hx, optP, List.take_length, List.flatten_cons, List.flatten_nil, List.append_nil]
    have htk : List.take T.length (putB T S [0, 0]) = putB T S [0, 0] := by rw [← hpl, List.take_length]
    rw [htk]
    have hsb := sumB_bd (x ++ putB T S [0, 0])
    have hsame := same16 (w16_bd (T.getD S 0) (T.getD (S + 1) 0)) (n := 65535 - sumB (x ++ putB T S [0, 0])) (by omega) hm
    refine ⟨⟨by omega, by rw [List.length_append]; omega⟩, ?_⟩
    rw [hsame]
theorem sums_loop {f t : List UInt8} {p q : Int} {b : List UInt8} {a : List UInt8} {n : Int} (hX : (rwTo ⟨f, t, p, q, b⟩ a n).2 = 0) (hl : b.length ≤ 3000) (m : Int) (hm : m = (b.length : Int)) : ∀ (j : Nat) (k : Int), 0 ≤ k → k + (j : Int) = m →
    RewriteSums_lp_n (fun v _ => v = .bool true) (j + 1) (St.mk [(3, .ptr 0 0), (7, .ptr 1 0), (13, .int .i64 (sumAt ⟨f, t, p, q, b⟩ : Nat)), (76, .int .i64 m), (77, .int .i64 k)] [.vals [.str f, .str t, .int .i64 p, .int .i64 q, .str b], .vals [.str f, .str a, .int .i64 p, .int .i64 (q - 1), .str (rwTurned ⟨f, t, p, q, b⟩ 2 t a n)]])
  | 0, k, h0, h => RewriteSums_lp_next (sums_end hX hl m k (by omega) _)
  | j + 1, k, h0, h => by
    have ih := sums_loop hX hl m hm j (k + 1) (by omega) (by omega)
    refine RewriteSums_lp_next ?_
    rw [RewriteSums_lp_step]
    obtain ⟨hr, ha, hn0, hn1, ht, e⟩ := rwTo_ok hX
    obtain ⟨hlen, hs, he⟩ := ptRead_len hr
    simp only at hlen hs he
    have hsum : sumAt ⟨f, t, p, q, b⟩ + 2 ≤ b.length ∧ 6 ≤ sumAt ⟨f, t, p, q, b⟩ := by unfold sumAt; simp only; split <;> omega
    obtain ⟨u, v, _, t1, _⟩ := turned_get (p := ⟨f, t, p, q, b⟩) (was := t) (a := a) (n := n) hsum.1 hsum.2
    simp only at t1
    refine brP_d (fun _ => ?_) (fun h' => by omega)
    refine ⟨fun _ => by unfold I64; omega, fun _ => by omega, fun _ => by omega, ?_⟩
    refine brP_i (fun hc => ?_) (fun _ => ⟨by unfold I64; omega, ih⟩)
    exfalso
    simp only [Bool.and_eq_true, Bool.or_eq_true, Bool.and_eq_false_iff, Bool.or_eq_false_iff, decide_eq_true_eq, decide_eq_false_iff_not, Bool.not_eq_true', Bool.not_eq_false', Bool.not_true, Bool.not_false, Bool.true_and, Bool.and_true, Bool.false_or, Bool.or_false, beq_iff_eq, beq_eq_false_iff_ne, ne_eq] at hc
    obtain ⟨⟨⟨⟨c1, c2⟩, c3⟩, c4⟩, c5⟩ := hc
    exact c5 (turned_other (p := ⟨f, t, p, q, b⟩) hsum.1 hsum.2 (by omega) (by omega) (by omega) (by omega))
theorem rewriteSums.core (f t : List UInt8) (p q : Int) (b : List UInt8) (a : List UInt8) (n : Int)  (h_f : f.length ≤ 140737488351232) (h_t : t.length ≤ 140737488351232) (h_p : -9223372036854775808 ≤ p ∧ p ≤ 9223372036854775807) (h_q : -9223372036854775808 ≤ q ∧ q ≤ 9223372036854775807) (h_b : b.length ≤ 140737488351232) (h_a : a.length ≤ 140737488351232) (h_n : -9223372036854775808 ≤ n ∧ n ≤ 9223372036854775807) :
    fnP Try.prog Tlx ann_outriderlaw19_RewriteSums Try.f3 [.agg [.str f, .str t, .int .i64 p, .int .i64 q, .str b], .str a, .int .i64 n] [] (fun v _ => v = .bool true) := by
  rw [RewriteSums_eq]
  have iq : I64 q := by unfold I64; omega
  refine ⟨h_b, iq, ?_⟩
  by_cases hX : (rwTo ⟨f, t, p, q, b⟩ a n).snd = 0 ∧ ¬ 3000 < b.length
  case neg =>
    refine brP_i (fun _ => rfl) (fun hc => absurd ?_ hX)
    simp only [Bool.and_eq_true, Bool.or_eq_true, Bool.and_eq_false_iff, Bool.or_eq_false_iff, decide_eq_true_eq, decide_eq_false_iff_not, Bool.not_eq_true', Bool.not_eq_false', Bool.not_true, Bool.not_false, Bool.true_and, Bool.and_true, Bool.false_or, Bool.or_false, beq_iff_eq, beq_eq_false_iff_ne, ne_eq] at hc
    omega
  obtain ⟨hX0, hX2⟩ := hX
  obtain ⟨hr0, ha, hn0, hn1, ht, e⟩ := rwTo_ok hX0
  have hr := to_read hX0
  have hlp := sums_loop hX0 (by omega) (b.length : Int) rfl b.length 0 (by omega) (by omega)
  obtain ⟨hlen, hs, he⟩ := ptRead_len hr0
  have hsum : sumAt ⟨f, t, p, q, b⟩ + 2 ≤ b.length ∧ 6 ≤ sumAt ⟨f, t, p, q, b⟩ := by unfold sumAt; simp only at hlen ⊢; split <;> omega
  obtain ⟨u, v, _, t1, _⟩ := turned_get (p := ⟨f, t, p, q, b⟩) (was := t) (a := a) (n := n) hsum.1 hsum.2
  simp only at t1
  rw [e] at hr ⊢
  simp only at hr ⊢
  rw [hr, (read_ok hr0).2.2.2]
  simp only
  refine brP_i (fun _ => trivial) (fun _ => ⟨h_b, by omega, ?_⟩)
  have fin : brP (decide (p = (17 : Int))) (RewriteSums_lp (fun v _ => v = .bool true) (St.mk [(3, .ptr 0 0), (7, .ptr 1 0), (13, .int .i64 6), (76, .int .i64 (b.length : Int)), (77, .int .i64 0)] [.vals [.str f, .str t, .int .i64 p, .int .i64 q, .str b], .vals [.str f, .str a, .int .i64 p, .int .i64 (q - 1), .str (rwTurned ⟨f, t, p, q, b⟩ 2 t a n)]]))
      (RewriteSums_lp (fun v _ => v = .bool true) (St.mk [(3, .ptr 0 0), (7, .ptr 1 0), (13, .int .i64 16), (76, .int .i64 (b.length : Int)), (77, .int .i64 0)] [.vals [.str f, .str t, .int .i64 p, .int .i64 q, .str b], .vals [.str f, .str a, .int .i64 p, .int .i64 (q - 1), .str (rwTurned ⟨f, t, p, q, b⟩ 2 t a n)]])) := by
    refine brP_d (fun h17 => ?_) (fun h17 => ?_)
    · have hS : sumAt ⟨f, t, p, q, b⟩ = 6 := by unfold sumAt; rw [if_pos h17]
      rw [hS] at hlp
      exact ⟨_, hlp⟩
    · have hS : sumAt ⟨f, t, p, q, b⟩ = 16 := by unfold sumAt; rw [if_neg h17]
      rw [hS] at hlp
      exact ⟨_, hlp⟩
  refine brP_nd (fun hn => ?_) (fun hn => ?_)
  · rw [if_neg hn]
    refine brP_i (fun hc => ?_) (fun _ => fin)
    exfalso
    simp only [Bool.and_eq_true, Bool.or_eq_true, Bool.and_eq_false_iff, Bool.or_eq_false_iff, decide_eq_true_eq, decide_eq_false_iff_not, Bool.not_eq_true', Bool.not_eq_false', Bool.not_true, Bool.not_false, Bool.true_and, Bool.and_true, Bool.false_or, Bool.or_false, beq_iff_eq, beq_eq_false_iff_ne, ne_eq, decide_true] at hc
    omega
  · rw [if_pos hn]
    refine brP_i (fun hc => ?_) (fun _ => fin)
    exfalso
    simp only [Bool.and_eq_true, Bool.or_eq_true, Bool.and_eq_false_iff, Bool.or_eq_false_iff, decide_eq_true_eq, decide_eq_false_iff_not, Bool.not_eq_true', Bool.not_eq_false', Bool.not_true, Bool.not_false, Bool.true_and, Bool.and_true, Bool.false_or, Bool.or_false, beq_iff_eq, beq_eq_false_iff_ne, ne_eq, decide_true] at hc
    omega
end Go.Proofs.Ytbmiaohigkjeeaa.Ae
namespace Go.Proofs.Ytbmiaohigkjeeaa
open Go Go.RowKit Ae
attribute [local irreducible] fnP in
set_option maxRecDepth 100000 in
theorem rewriteSums.walk {H : Type} {enc : TypeId × Value → H} (W : World) (args : Array Value) (hn : args.size = 3)
    (h : ∀ (j : Nat) t v, Try.f3.params[j]? = some t → args[j]? = some v → RdV enc false Try.prog W t v) :
    Calls Try.prog 3 args W fun e w' => e = .returned (.bool true) ∧ Below W.heap.size W w' := by
  obtain ⟨v0, v1, v2, rfl⟩ := args3 hn
  obtain ⟨vs0, hs0, hv0⟩ := arg_agg (b := false) (d := 6) (ks := [.str, .str, .int .i64, .int .i64, .str]) (.inl ⟨_, Try.underlying24⟩) (by kernel_rfl) (h 0 24 v0 rfl rfl)
  obtain ⟨_, _, rfl, ⟨f, rfl, h_f⟩, _, _, rfl, ⟨t, rfl, h_t⟩, _, _, rfl, ⟨p, rfl, h_p⟩, _, _, rfl, ⟨q, rfl, h_q⟩, _, _, rfl, ⟨b, rfl, h_b⟩, rfl⟩ := hs0
  obtain ⟨a, h_a, hv1⟩ := arg_str (b := false) (m := Mp.nil) (G := []) Try.underlying22 (h 1 22 v1 rfl rfl)
  obtain ⟨n, rfl, h_n, hv2⟩ := arg_int (b := false) (m := Mp.nil) (G := []) Try.underlying3 (h 2 3 v2 rfl rfl)
  obtain ⟨r, H1, hr, hG⟩ := fn_sound Tlx_sound mixed Try.func3 (by decide +kernel) (rewriteSums.core f t p q b a n (len_lim h_f) (len_lim h_t) (i64_bd h_p) (i64_bd h_q) (len_lim h_b) (len_lim h_a) (i64_bd h_n))
  subst hr
  exact law_walk hG (vl_cons hv0 (vl_cons hv1 (vl_cons hv2 vl_nil)))

namespace rewriteSums
theorem spec {H : Type} (ds : List (DataW H)) (h : ds.length = Try.f3.params.size) : Rows.rewriteSumsSpec.fn H ds = { results := [.lit (.bool true)], args := ds } := by
  have h' : ds.length = 3 := h
  match ds, h' with
  | [_, _, _], _ => rfl

set_option maxRecDepth 100000 in
theorem lifted (os : Os) (started : os.Started) (H : Type) (enc : TypeId × Value → H) :
    ReturnsInHanded {} Try.checked os 3 .any (Rows.rewriteSumsSpec.pre6 enc Try.prog Try.f3 Rows.rewriteSumsRow.domain false) (Rows.rewriteSumsSpec.post enc Try.prog Try.f3 false true false false) :=
  lifted_said (C := Try.checked) (tb := 4) own started (by kernel_rfl) Try.func3
    (ChangeSpec.witness6 (enc := enc) (C := Try.checked) false ⟨#[], #[.agg #[.string .empty, .string .empty, .int .i64 0, .int .i64 0, .string .empty], .string .empty, .int .i64 0], []⟩ 8 (by kernel_rfl) (by kernel_rfl) (by kernel_rfl) (by kernel_rfl))
    rfl spec rfl Try.underlying4 laidOut (by kernel_rfl) walk

theorem over : Rows.rewriteSumsRow.holds Try.pinned (OpenSpec.ofChange Rows.rewriteSumsSpec) :=
  OpenClaim.holds_of_wide 3 Try.f3 rfl rfl rfl rfl rfl rfl rfl ⟨rfl, rfl, rfl, rfl, rfl⟩ rfl rfl rfl rfl rfl (by kernel_rfl) Try.func3 (by kernel_rfl)
    (of_decide_eq_true (by kernel_rfl)) (by unfold Func.isWrapper; first | (rw [if_pos (by decide +kernel)]; kernel_rfl) | (rw [if_neg (by decide +kernel)]; exact ⟨rfl, rfl⟩))
    (fun os started H enc _ => lifted os started H enc)

theorem proved : Rows.RewriteSumsSaid := over
#print axioms proved
end rewriteSums

end Go.Proofs.Ytbmiaohigkjeeaa

