/- VrrpWaits: a backup that hears somebody of a priority that is not below its own waits as long as Down says, whatever others of less priority say, and is master then, if it hears nothing more. No conditions. -/
import Derived.Test.YtldfkjjjjfbbmaaAr13
set_option linter.unusedSimpArgs false
set_option linter.unusedVariables false
set_option maxRecDepth 100000
namespace Go.Proofs.Ytldfkjjjjfbbmaa.Ae
open Go Go.RowKit
def ann_outriderlaw13_VrrpWaits : Nat → List Nat × Nat × List (List Nat)
  | 10 => ([1, 3, 5, 7, 9, 10, 11], 0, [])
  | 17 => ([], 19, [[0, 10, 16], [], [0], [0, 1], [0, 1], [0, 1, 3], [0, 1, 3, 4], [0, 1], [0, 1, 6], [0, 1], [0, 1, 8], [0, 1, 6, 7, 8, 9], [0, 1, 3, 4, 5, 6, 7, 8, 9, 10], [0, 1, 2, 3, 4, 5, 6, 7, 8, 9, 10, 11], [0, 1, 2, 3, 4, 5, 6, 7, 8, 9, 10, 11, 12], [0, 1, 2, 3, 4, 5, 6, 7, 8, 9, 10, 11, 12, 13], [0, 1, 2, 3, 4, 5, 6, 7, 8, 9, 10, 11, 12, 13, 14], [0, 1, 2, 3, 4, 5, 6, 7, 8, 9, 10, 11, 12, 13, 14, 15], [0, 1, 2, 3, 4, 5, 6, 7, 8, 9, 10, 11, 12, 13, 14, 15, 16], [0, 1, 2, 3, 4, 5, 6, 7, 8, 9, 10, 11, 12, 13, 14, 15, 16, 17]])
  | 2000002 => ([], 36, [[], [0], [0, 1], [0, 1, 2], [0, 1, 2, 3], [0, 1, 2, 3, 4], [0, 1, 2, 3, 4, 5], [0, 1, 2, 3, 4, 5, 6], [0, 1, 2, 3, 4, 5, 6, 7], [0, 1, 2, 3, 4, 5, 6, 7, 8], [0, 1, 2, 3, 4, 5, 6, 7, 8, 9], [0, 1, 2, 3, 4, 5, 6, 7, 8, 9, 10], [0, 1, 2, 3, 4, 5, 6, 7, 8, 9, 10, 11], [0, 1, 2, 3, 4, 5, 6, 7, 8, 9, 10, 11, 12], [0, 1, 2, 3, 4, 5, 6, 7, 8, 9, 10, 11, 12, 13], [0, 1, 2, 3, 4, 5, 6, 7, 8, 9, 10, 11, 12, 13, 14], [0, 1, 2, 3, 4, 5, 6, 7, 8, 9, 10, 11, 12, 13, 14, 15], [0, 1, 2, 3, 4, 5, 6, 7, 8, 9, 10, 11, 12, 13, 14, 15, 16], [0, 1, 2, 3, 4, 5, 6, 7, 8, 9, 10, 11, 12, 13, 14, 15, 16, 17], [0, 1, 2, 3, 4, 5, 6, 7, 8, 9, 10, 11, 12, 13, 14, 15, 16, 17, 18], [0, 1, 2, 3, 4, 5, 6, 7, 8, 9, 10, 11, 12, 13, 14, 15, 16, 17, 18, 19], [0, 1, 2, 3, 4, 5, 6, 7, 8, 9, 10, 11, 12, 13, 14, 15, 16, 17, 18, 19, 20], [0, 1, 2, 3, 4, 5, 6, 7, 8, 9, 10, 11, 12, 13, 14, 15, 16, 17, 18, 19, 20, 21], [0, 1, 2, 3, 4, 5, 6, 7, 8, 9, 10, 11, 12, 13, 14, 15, 16, 17, 18, 19, 20, 21, 22], [0, 1, 2, 3, 4, 5, 6, 7, 8, 9, 10, 11, 12, 13, 14, 15, 16, 17, 18, 19, 20, 21, 22, 23], [0, 1, 2, 3, 4, 5, 6, 7, 8, 9, 10, 11, 12, 13, 14, 15, 16, 17, 18, 19, 20, 21, 22, 23, 24], [0, 1, 2, 3, 4, 5, 6, 7, 8, 9, 10, 11, 12, 13, 14, 15, 16, 17, 18, 19, 20, 21, 22, 23, 24, 25], [0, 1, 2, 3, 4, 5, 6, 7, 8, 9, 10, 11, 12, 13, 14, 15, 16, 17, 18, 19, 20, 21, 22, 23, 24, 25, 26], [0, 1, 2, 3, 4, 5, 6, 7, 8, 9, 10, 11, 12, 13, 14, 15, 16, 17, 18, 19, 20, 21, 22, 23, 24, 25, 26, 27], [0, 1, 2, 3, 4, 5, 6, 7, 8, 9, 10, 11, 12, 13, 14, 15, 16, 17, 18, 19, 20, 21, 22, 23, 24, 25, 26, 27, 28], [0, 1, 2, 3, 4, 5, 6, 7, 8, 9, 10, 11, 12, 13, 14, 15, 16, 17, 18, 19, 20, 21, 22, 23, 24, 25, 26, 27, 28, 29], [0, 1, 2, 3, 4, 5, 6, 7, 8, 9, 10, 11, 12, 13, 14, 15, 16, 17, 18, 19, 20, 21, 22, 23, 24, 25, 26, 27, 28, 29, 30], [0, 1, 2, 3, 4, 5, 6, 7, 8, 9, 10, 11, 12, 13, 14, 15, 16, 17, 18, 19, 20, 21, 22, 23, 24, 25, 26, 27, 28, 29, 30, 31], [0, 1, 2, 3, 4, 5, 6, 7, 8, 9, 10, 11, 12, 13, 14, 15, 16, 17, 18, 19, 20, 21, 22, 23, 24, 25, 26, 27, 28, 29, 30, 31, 32], [0, 1, 2, 3, 4, 5, 6, 7, 8, 9, 10, 11, 12, 13, 14, 15, 16, 17, 18, 19, 20, 21, 22, 23, 24, 25, 26, 27, 28, 29, 30, 31, 32, 33]])
  | 2000014 => ([], 8, [[], [0], [0, 1], [0, 1, 2], [0, 1, 2, 3], [0, 1, 2, 3, 4], [0, 1, 2, 3, 4, 5]])
  | _ => ([], 0, [])
noncomputable abbrev VrrpWaits_lp_X : Cx := ⟨Try.prog, Tlw, Try.f5.ntmps, 0, ann_outriderlaw13_VrrpWaits⟩
noncomputable def VrrpWaits_lp_c : Code := cAt [.r, .r, .r, .r, .r, .r, .r, .r, .l, .r, .b] (bodyOf Try.f5)
noncomputable def VrrpWaits_lp_k (K : AVal → Hp → Prop) : Post := kAt VrrpWaits_lp_X [.r, .r, .r, .r, .r, .r, .r, .r, .l, .r, .b] (bodyOf Try.f5) (fnK Try.prog 0 Try.f5.results.toList K)
def VrrpWaits_lp_n (K : AVal → Hp → Prop) (n : Nat) (s : St) : Prop := loopP (awp VrrpWaits_lp_X (loopB VrrpWaits_lp_c)) 0 [1, 3, 5, 7, 9, 10, 11] n s (VrrpWaits_lp_k K)
def VrrpWaits_lp (K : AVal → Hp → Prop) (s : St) : Prop := ∃ n, VrrpWaits_lp_n K n s
def VrrpWaits_lp_b (K : AVal → Hp → Prop) (J : St → Prop) (s : St) : Prop := awp VrrpWaits_lp_X (loopB VrrpWaits_lp_c) s (seqK (fun s' => normK 0 [1, 3, 5, 7, 9, 10, 11] s' J) (VrrpWaits_lp_k K))
theorem VrrpWaits_lp_next {K : AVal → Hp → Prop} {n : Nat} {s : St} (h : VrrpWaits_lp_b K (fun s' => VrrpWaits_lp_n K n s') s) : VrrpWaits_lp_n K (n + 1) s := h
set_option maxRecDepth 100000 in
theorem VrrpWaits_eq (c : Cfg) (s : List UInt8) (a : Adv) (K : AVal → Hp → Prop) : fnP Try.prog Tlw ann_outriderlaw13_VrrpWaits Try.f5 [.agg (cfgCells c), .str s, .agg (advCells a)] [] K = (
 ((IsStrs (List.length c.addrs) fun i => [AVal.str (List.getD c.addrs i [])]) ∧
 List.length c.addrs ≤ (8796093022000 : Nat)) ∧
 brP
 (adRight (Adv.mk c.id c.pri c.every (strs (List.length c.addrs) fun i => [AVal.str (List.getD c.addrs i [])]))
 c.src &&
 !decide (c.pri = (0 : Int)))
 (brP
 (decide (c.pri = (255 : Int)) || decide (a.pri < c.pri) || !decide (a.id = c.id) || decide (a.every < (1 : Int)) ||
 decide ((400 : Int) < a.every))
 (K (AVal.bool true) [])
 (VB
 (VX.mk
 (VM.mk c.id c.pri c.every c.pre c.src (List.length c.addrs) (fun i => [AVal.str (List.getD c.addrs i [])])
 (1 : Int) c.every (0 : Int))
 [] (0 : Nat)) ∧
 VB
 (VX.mk
 (VM.mk
 (vrStart
 (VX.mk
 (VM.mk c.id c.pri c.every c.pre c.src (List.length c.addrs) (fun i => [AVal.str (List.getD c.addrs i [])])
 (1 : Int) c.every (0 : Int))
 [] (0 : Nat))).m.id
 (vrStart
 (VX.mk
 (VM.mk c.id c.pri c.every c.pre c.src (List.length c.addrs) (fun i => [AVal.str (List.getD c.addrs i [])])
 (1 : Int) c.every (0 : Int))
 [] (0 : Nat))).m.pri
 (vrStart
 (VX.mk
 (VM.mk c.id c.pri c.every c.pre c.src (List.length c.addrs) (fun i => [AVal.str (List.getD c.addrs i [])])
 (1 : Int) c.every (0 : Int))
 [] (0 : Nat))).m.every
 (vrStart
 (VX.mk
 (VM.mk c.id c.pri c.every c.pre c.src (List.length c.addrs) (fun i => [AVal.str (List.getD c.addrs i [])])
 (1 : Int) c.every (0 : Int))
 [] (0 : Nat))).m.pre
 (vrStart
 (VX.mk
 (VM.mk c.id c.pri c.every c.pre c.src (List.length c.addrs) (fun i => [AVal.str (List.getD c.addrs i [])])
 (1 : Int) c.every (0 : Int))
 [] (0 : Nat))).m.src
 (vrStart
 (VX.mk
 (VM.mk c.id c.pri c.every c.pre c.src (List.length c.addrs) (fun i => [AVal.str (List.getD c.addrs i [])])
 (1 : Int) c.every (0 : Int))
 [] (0 : Nat))).m.n
 (vrStart
 (VX.mk
 (VM.mk c.id c.pri c.every c.pre c.src (List.length c.addrs) (fun i => [AVal.str (List.getD c.addrs i [])])
 (1 : Int) c.every (0 : Int))
 [] (0 : Nat))).m.f
 (vrStart
 (VX.mk
 (VM.mk c.id c.pri c.every c.pre c.src (List.length c.addrs) (fun i => [AVal.str (List.getD c.addrs i [])])
 (1 : Int) c.every (0 : Int))
 [] (0 : Nat))).m.st
 (vrStart
 (VX.mk
 (VM.mk c.id c.pri c.every c.pre c.src (List.length c.addrs) (fun i => [AVal.str (List.getD c.addrs i [])])
 (1 : Int) c.every (0 : Int))
 [] (0 : Nat))).m.pace
 (vrStart
 (VX.mk
 (VM.mk c.id c.pri c.every c.pre c.src (List.length c.addrs) (fun i => [AVal.str (List.getD c.addrs i [])])
 (1 : Int) c.every (0 : Int))
 [] (0 : Nat))).m.wait)
 (vrStart
 (VX.mk
 (VM.mk c.id c.pri c.every c.pre c.src (List.length c.addrs) (fun i => [AVal.str (List.getD c.addrs i [])])
 (1 : Int) c.every (0 : Int))
 [] (0 : Nat))).out
 (vrStart
 (VX.mk
 (VM.mk c.id c.pri c.every c.pre c.src (List.length c.addrs) (fun i => [AVal.str (List.getD c.addrs i [])])
 (1 : Int) c.every (0 : Int))
 [] (0 : Nat))).k) ∧
 I64
 ((3 : Int) *
 (vrTake s (Adv.mk a.id a.pri a.every [])
 (VX.mk
 (VM.mk
 (vrStart
 (VX.mk
 (VM.mk c.id c.pri c.every c.pre c.src (List.length c.addrs)
 (fun i => [AVal.str (List.getD c.addrs i [])]) (1 : Int) c.every (0 : Int))
 [] (0 : Nat))).m.id
 (vrStart
 (VX.mk
 (VM.mk c.id c.pri c.every c.pre c.src (List.length c.addrs)
 (fun i => [AVal.str (List.getD c.addrs i [])]) (1 : Int) c.every (0 : Int))
 [] (0 : Nat))).m.pri
 (vrStart
 (VX.mk
 (VM.mk c.id c.pri c.every c.pre c.src (List.length c.addrs)
 (fun i => [AVal.str (List.getD c.addrs i [])]) (1 : Int) c.every (0 : Int))
 [] (0 : Nat))).m.every
 (vrStart
 (VX.mk
 (VM.mk c.id c.pri c.every c.pre c.src (List.length c.addrs)
 (fun i => [AVal.str (List.getD c.addrs i [])]) (1 : Int) c.every (0 : Int))
 [] (0 : Nat))).m.pre
 (vrStart
 (VX.mk
 (VM.mk c.id c.pri c.every c.pre c.src (List.length c.addrs)
 (fun i => [AVal.str (List.getD c.addrs i [])]) (1 : Int) c.every (0 : Int))
 [] (0 : Nat))).m.src
 (vrStart
 (VX.mk
 (VM.mk c.id c.pri c.every c.pre c.src (List.length c.addrs)
 (fun i => [AVal.str (List.getD c.addrs i [])]) (1 : Int) c.every (0 : Int))
 [] (0 : Nat))).m.n
 (vrStart
 (VX.mk
 (VM.mk c.id c.pri c.every c.pre c.src (List.length c.addrs)
 (fun i => [AVal.str (List.getD c.addrs i [])]) (1 : Int) c.every (0 : Int))
 [] (0 : Nat))).m.f
 (vrStart
 (VX.mk
 (VM.mk c.id c.pri c.every c.pre c.src (List.length c.addrs)
 (fun i => [AVal.str (List.getD c.addrs i [])]) (1 : Int) c.every (0 : Int))
 [] (0 : Nat))).m.st
 (vrStart
 (VX.mk
 (VM.mk c.id c.pri c.every c.pre c.src (List.length c.addrs)
 (fun i => [AVal.str (List.getD c.addrs i [])]) (1 : Int) c.every (0 : Int))
 [] (0 : Nat))).m.pace
 (vrStart
 (VX.mk
 (VM.mk c.id c.pri c.every c.pre c.src (List.length c.addrs)
 (fun i => [AVal.str (List.getD c.addrs i [])]) (1 : Int) c.every (0 : Int))
 [] (0 : Nat))).m.wait)
 (vrStart
 (VX.mk
 (VM.mk c.id c.pri c.every c.pre c.src (List.length c.addrs)
 (fun i => [AVal.str (List.getD c.addrs i [])]) (1 : Int) c.every (0 : Int))
 [] (0 : Nat))).out
 (vrStart
 (VX.mk
 (VM.mk c.id c.pri c.every c.pre c.src (List.length c.addrs)
 (fun i => [AVal.str (List.getD c.addrs i [])]) (1 : Int) c.every (0 : Int))
 [] (0 : Nat))).k)).m.pace) ∧
 I64
 ((3 : Int) *
 (vrTake s (Adv.mk a.id a.pri a.every [])
 (VX.mk
 (VM.mk
 (vrStart
 (VX.mk
 (VM.mk c.id c.pri c.every c.pre c.src (List.length c.addrs)
 (fun i => [AVal.str (List.getD c.addrs i [])]) (1 : Int) c.every (0 : Int))
 [] (0 : Nat))).m.id
 (vrStart
 (VX.mk
 (VM.mk c.id c.pri c.every c.pre c.src (List.length c.addrs)
 (fun i => [AVal.str (List.getD c.addrs i [])]) (1 : Int) c.every (0 : Int))
 [] (0 : Nat))).m.pri
 (vrStart
 (VX.mk
 (VM.mk c.id c.pri c.every c.pre c.src (List.length c.addrs)
 (fun i => [AVal.str (List.getD c.addrs i [])]) (1 : Int) c.every (0 : Int))
 [] (0 : Nat))).m.every
 (vrStart
 (VX.mk
 (VM.mk c.id c.pri c.every c.pre c.src (List.length c.addrs)
 (fun i => [AVal.str (List.getD c.addrs i [])]) (1 : Int) c.every (0 : Int))
 [] (0 : Nat))).m.pre
 (vrStart
 (VX.mk
 (VM.mk c.id c.pri c.every c.pre c.src (List.length c.addrs)
 (fun i => [AVal.str (List.getD c.addrs i [])]) (1 : Int) c.every (0 : Int))
 [] (0 : Nat))).m.src
 (vrStart
 (VX.mk
 (VM.mk c.id c.pri c.every c.pre c.src (List.length c.addrs)
 (fun i => [AVal.str (List.getD c.addrs i [])]) (1 : Int) c.every (0 : Int))
 [] (0 : Nat))).m.n
 (vrStart
 (VX.mk
 (VM.mk c.id c.pri c.every c.pre c.src (List.length c.addrs)
 (fun i => [AVal.str (List.getD c.addrs i [])]) (1 : Int) c.every (0 : Int))
 [] (0 : Nat))).m.f
 (vrStart
 (VX.mk
 (VM.mk c.id c.pri c.every c.pre c.src (List.length c.addrs)
 (fun i => [AVal.str (List.getD c.addrs i [])]) (1 : Int) c.every (0 : Int))
 [] (0 : Nat))).m.st
 (vrStart
 (VX.mk
 (VM.mk c.id c.pri c.every c.pre c.src (List.length c.addrs)
 (fun i => [AVal.str (List.getD c.addrs i [])]) (1 : Int) c.every (0 : Int))
 [] (0 : Nat))).m.pace
 (vrStart
 (VX.mk
 (VM.mk c.id c.pri c.every c.pre c.src (List.length c.addrs)
 (fun i => [AVal.str (List.getD c.addrs i [])]) (1 : Int) c.every (0 : Int))
 [] (0 : Nat))).m.wait)
 (vrStart
 (VX.mk
 (VM.mk c.id c.pri c.every c.pre c.src (List.length c.addrs)
 (fun i => [AVal.str (List.getD c.addrs i [])]) (1 : Int) c.every (0 : Int))
 [] (0 : Nat))).out
 (vrStart
 (VX.mk
 (VM.mk c.id c.pri c.every c.pre c.src (List.length c.addrs)
 (fun i => [AVal.str (List.getD c.addrs i [])]) (1 : Int) c.every (0 : Int))
 [] (0 : Nat))).k)).m.pace +
 vrSkew
 (vrTake s (Adv.mk a.id a.pri a.every [])
 (VX.mk
 (VM.mk
 (vrStart
 (VX.mk
 (VM.mk c.id c.pri c.every c.pre c.src (List.length c.addrs)
 (fun i => [AVal.str (List.getD c.addrs i [])]) (1 : Int) c.every (0 : Int))
 [] (0 : Nat))).m.id
 (vrStart
 (VX.mk
 (VM.mk c.id c.pri c.every c.pre c.src (List.length c.addrs)
 (fun i => [AVal.str (List.getD c.addrs i [])]) (1 : Int) c.every (0 : Int))
 [] (0 : Nat))).m.pri
 (vrStart
 (VX.mk
 (VM.mk c.id c.pri c.every c.pre c.src (List.length c.addrs)
 (fun i => [AVal.str (List.getD c.addrs i [])]) (1 : Int) c.every (0 : Int))
 [] (0 : Nat))).m.every
 (vrStart
 (VX.mk
 (VM.mk c.id c.pri c.every c.pre c.src (List.length c.addrs)
 (fun i => [AVal.str (List.getD c.addrs i [])]) (1 : Int) c.every (0 : Int))
 [] (0 : Nat))).m.pre
 (vrStart
 (VX.mk
 (VM.mk c.id c.pri c.every c.pre c.src (List.length c.addrs)
 (fun i => [AVal.str (List.getD c.addrs i [])]) (1 : Int) c.every (0 : Int))
 [] (0 : Nat))).m.src
 (vrStart
 (VX.mk
 (VM.mk c.id c.pri c.every c.pre c.src (List.length c.addrs)
 (fun i => [AVal.str (List.getD c.addrs i [])]) (1 : Int) c.every (0 : Int))
 [] (0 : Nat))).m.n
 (vrStart
 (VX.mk
 (VM.mk c.id c.pri c.every c.pre c.src (List.length c.addrs)
 (fun i => [AVal.str (List.getD c.addrs i [])]) (1 : Int) c.every (0 : Int))
 [] (0 : Nat))).m.f
 (vrStart
 (VX.mk
 (VM.mk c.id c.pri c.every c.pre c.src (List.length c.addrs)
 (fun i => [AVal.str (List.getD c.addrs i [])]) (1 : Int) c.every (0 : Int))
 [] (0 : Nat))).m.st
 (vrStart
 (VX.mk
 (VM.mk c.id c.pri c.every c.pre c.src (List.length c.addrs)
 (fun i => [AVal.str (List.getD c.addrs i [])]) (1 : Int) c.every (0 : Int))
 [] (0 : Nat))).m.pace
 (vrStart
 (VX.mk
 (VM.mk c.id c.pri c.every c.pre c.src (List.length c.addrs)
 (fun i => [AVal.str (List.getD c.addrs i [])]) (1 : Int) c.every (0 : Int))
 [] (0 : Nat))).m.wait)
 (vrStart
 (VX.mk
 (VM.mk c.id c.pri c.every c.pre c.src (List.length c.addrs)
 (fun i => [AVal.str (List.getD c.addrs i [])]) (1 : Int) c.every (0 : Int))
 [] (0 : Nat))).out
 (vrStart
 (VX.mk
 (VM.mk c.id c.pri c.every c.pre c.src (List.length c.addrs)
 (fun i => [AVal.str (List.getD c.addrs i [])]) (1 : Int) c.every (0 : Int))
 [] (0 : Nat))).k)).m.pri
 (vrTake s (Adv.mk a.id a.pri a.every [])
 (VX.mk
 (VM.mk
 (vrStart
 (VX.mk
 (VM.mk c.id c.pri c.every c.pre c.src (List.length c.addrs)
 (fun i => [AVal.str (List.getD c.addrs i [])]) (1 : Int) c.every (0 : Int))
 [] (0 : Nat))).m.id
 (vrStart
 (VX.mk
 (VM.mk c.id c.pri c.every c.pre c.src (List.length c.addrs)
 (fun i => [AVal.str (List.getD c.addrs i [])]) (1 : Int) c.every (0 : Int))
 [] (0 : Nat))).m.pri
 (vrStart
 (VX.mk
 (VM.mk c.id c.pri c.every c.pre c.src (List.length c.addrs)
 (fun i => [AVal.str (List.getD c.addrs i [])]) (1 : Int) c.every (0 : Int))
 [] (0 : Nat))).m.every
 (vrStart
 (VX.mk
 (VM.mk c.id c.pri c.every c.pre c.src (List.length c.addrs)
 (fun i => [AVal.str (List.getD c.addrs i [])]) (1 : Int) c.every (0 : Int))
 [] (0 : Nat))).m.pre
 (vrStart
 (VX.mk
 (VM.mk c.id c.pri c.every c.pre c.src (List.length c.addrs)
 (fun i => [AVal.str (List.getD c.addrs i [])]) (1 : Int) c.every (0 : Int))
 [] (0 : Nat))).m.src
 (vrStart
 (VX.mk
 (VM.mk c.id c.pri c.every c.pre c.src (List.length c.addrs)
 (fun i => [AVal.str (List.getD c.addrs i [])]) (1 : Int) c.every (0 : Int))
 [] (0 : Nat))).m.n
 (vrStart
 (VX.mk
 (VM.mk c.id c.pri c.every c.pre c.src (List.length c.addrs)
 (fun i => [AVal.str (List.getD c.addrs i [])]) (1 : Int) c.every (0 : Int))
 [] (0 : Nat))).m.f
 (vrStart
 (VX.mk
 (VM.mk c.id c.pri c.every c.pre c.src (List.length c.addrs)
 (fun i => [AVal.str (List.getD c.addrs i [])]) (1 : Int) c.every (0 : Int))
 [] (0 : Nat))).m.st
 (vrStart
 (VX.mk
 (VM.mk c.id c.pri c.every c.pre c.src (List.length c.addrs)
 (fun i => [AVal.str (List.getD c.addrs i [])]) (1 : Int) c.every (0 : Int))
 [] (0 : Nat))).m.pace
 (vrStart
 (VX.mk
 (VM.mk c.id c.pri c.every c.pre c.src (List.length c.addrs)
 (fun i => [AVal.str (List.getD c.addrs i [])]) (1 : Int) c.every (0 : Int))
 [] (0 : Nat))).m.wait)
 (vrStart
 (VX.mk
 (VM.mk c.id c.pri c.every c.pre c.src (List.length c.addrs)
 (fun i => [AVal.str (List.getD c.addrs i [])]) (1 : Int) c.every (0 : Int))
 [] (0 : Nat))).out
 (vrStart
 (VX.mk
 (VM.mk c.id c.pri c.every c.pre c.src (List.length c.addrs)
 (fun i => [AVal.str (List.getD c.addrs i [])]) (1 : Int) c.every (0 : Int))
 [] (0 : Nat))).k)).m.pace) ∧
 I64 (c.pri - (1 : Int)) ∧
 VrrpWaits_lp K
 (St.mk
 [((1 : Nat), AVal.str s), ((3 : Nat), AVal.ptr (0 : Nat) (0 : Nat)),
 ((5 : Nat), AVal.ptr (1 : Nat) (0 : Nat)), ((7 : Nat), AVal.ptr (2 : Nat) (0 : Nat)),
 ((9 : Nat),
 AVal.int IntKind.i64
 ((3 : Int) *
 (vrTake s (Adv.mk a.id a.pri a.every [])
 (VX.mk
 (VM.mk
 (vrStart
 (VX.mk
 (VM.mk c.id c.pri c.every c.pre c.src (List.length c.addrs)
 (fun i => [AVal.str (List.getD c.addrs i [])]) (1 : Int) c.every (0 : Int))
 [] (0 : Nat))).m.id
 (vrStart
 (VX.mk
 (VM.mk c.id c.pri c.every c.pre c.src (List.length c.addrs)
 (fun i => [AVal.str (List.getD c.addrs i [])]) (1 : Int) c.every (0 : Int))
 [] (0 : Nat))).m.pri
 (vrStart
 (VX.mk
 (VM.mk c.id c.pri c.every c.pre c.src (List.length c.addrs)
 (fun i => [AVal.str (List.getD c.addrs i [])]) (1 : Int) c.every (0 : Int))
 [] (0 : Nat))).m.every
 (vrStart
 (VX.mk
 (VM.mk c.id c.pri c.every c.pre c.src (List.length c.addrs)
 (fun i => [AVal.str (List.getD c.addrs i [])]) (1 : Int) c.every (0 : Int))
 [] (0 : Nat))).m.pre
 (vrStart
 (VX.mk
 (VM.mk c.id c.pri c.every c.pre c.src (List.length c.addrs)
 (fun i => [AVal.str (List.getD c.addrs i [])]) (1 : Int) c.every (0 : Int))
 [] (0 : Nat))).m.src
 (vrStart
 (VX.mk
 (VM.mk c.id c.pri c.every c.pre c.src (List.length c.addrs)
 (fun i => [AVal.str (List.getD c.addrs i [])]) (1 : Int) c.every (0 : Int))
 [] (0 : Nat))).m.n
 (vrStart
 (VX.mk
 (VM.mk c.id c.pri c.every c.pre c.src (List.length c.addrs)
 (fun i => [AVal.str (List.getD c.addrs i [])]) (1 : Int) c.every (0 : Int))
 [] (0 : Nat))).m.f
 (vrStart
 (VX.mk
 (VM.mk c.id c.pri c.every c.pre c.src (List.length c.addrs)
 (fun i => [AVal.str (List.getD c.addrs i [])]) (1 : Int) c.every (0 : Int))
 [] (0 : Nat))).m.st
 (vrStart
 (VX.mk
 (VM.mk c.id c.pri c.every c.pre c.src (List.length c.addrs)
 (fun i => [AVal.str (List.getD c.addrs i [])]) (1 : Int) c.every (0 : Int))
 [] (0 : Nat))).m.pace
 (vrStart
 (VX.mk
 (VM.mk c.id c.pri c.every c.pre c.src (List.length c.addrs)
 (fun i => [AVal.str (List.getD c.addrs i [])]) (1 : Int) c.every (0 : Int))
 [] (0 : Nat))).m.wait)
 (vrStart
 (VX.mk
 (VM.mk c.id c.pri c.every c.pre c.src (List.length c.addrs)
 (fun i => [AVal.str (List.getD c.addrs i [])]) (1 : Int) c.every (0 : Int))
 [] (0 : Nat))).out
 (vrStart
 (VX.mk
 (VM.mk c.id c.pri c.every c.pre c.src (List.length c.addrs)
 (fun i => [AVal.str (List.getD c.addrs i [])]) (1 : Int) c.every (0 : Int))
 [] (0 : Nat))).k)).m.pace +
 vrSkew
 (vrTake s (Adv.mk a.id a.pri a.every [])
 (VX.mk
 (VM.mk
 (vrStart
 (VX.mk
 (VM.mk c.id c.pri c.every c.pre c.src (List.length c.addrs)
 (fun i => [AVal.str (List.getD c.addrs i [])]) (1 : Int) c.every (0 : Int))
 [] (0 : Nat))).m.id
 (vrStart
 (VX.mk
 (VM.mk c.id c.pri c.every c.pre c.src (List.length c.addrs)
 (fun i => [AVal.str (List.getD c.addrs i [])]) (1 : Int) c.every (0 : Int))
 [] (0 : Nat))).m.pri
 (vrStart
 (VX.mk
 (VM.mk c.id c.pri c.every c.pre c.src (List.length c.addrs)
 (fun i => [AVal.str (List.getD c.addrs i [])]) (1 : Int) c.every (0 : Int))
 [] (0 : Nat))).m.every
 (vrStart
 (VX.mk
 (VM.mk c.id c.pri c.every c.pre c.src (List.length c.addrs)
 (fun i => [AVal.str (List.getD c.addrs i [])]) (1 : Int) c.every (0 : Int))
 [] (0 : Nat))).m.pre
 (vrStart
 (VX.mk
 (VM.mk c.id c.pri c.every c.pre c.src (List.length c.addrs)
 (fun i => [AVal.str (List.getD c.addrs i [])]) (1 : Int) c.every (0 : Int))
 [] (0 : Nat))).m.src
 (vrStart
 (VX.mk
 (VM.mk c.id c.pri c.every c.pre c.src (List.length c.addrs)
 (fun i => [AVal.str (List.getD c.addrs i [])]) (1 : Int) c.every (0 : Int))
 [] (0 : Nat))).m.n
 (vrStart
 (VX.mk
 (VM.mk c.id c.pri c.every c.pre c.src (List.length c.addrs)
 (fun i => [AVal.str (List.getD c.addrs i [])]) (1 : Int) c.every (0 : Int))
 [] (0 : Nat))).m.f
 (vrStart
 (VX.mk
 (VM.mk c.id c.pri c.every c.pre c.src (List.length c.addrs)
 (fun i => [AVal.str (List.getD c.addrs i [])]) (1 : Int) c.every (0 : Int))
 [] (0 : Nat))).m.st
 (vrStart
 (VX.mk
 (VM.mk c.id c.pri c.every c.pre c.src (List.length c.addrs)
 (fun i => [AVal.str (List.getD c.addrs i [])]) (1 : Int) c.every (0 : Int))
 [] (0 : Nat))).m.pace
 (vrStart
 (VX.mk
 (VM.mk c.id c.pri c.every c.pre c.src (List.length c.addrs)
 (fun i => [AVal.str (List.getD c.addrs i [])]) (1 : Int) c.every (0 : Int))
 [] (0 : Nat))).m.wait)
 (vrStart
 (VX.mk
 (VM.mk c.id c.pri c.every c.pre c.src (List.length c.addrs)
 (fun i => [AVal.str (List.getD c.addrs i [])]) (1 : Int) c.every (0 : Int))
 [] (0 : Nat))).out
 (vrStart
 (VX.mk
 (VM.mk c.id c.pri c.every c.pre c.src (List.length c.addrs)
 (fun i => [AVal.str (List.getD c.addrs i [])]) (1 : Int) c.every (0 : Int))
 [] (0 : Nat))).k)).m.pri
 (vrTake s (Adv.mk a.id a.pri a.every [])
 (VX.mk
 (VM.mk
 (vrStart
 (VX.mk
 (VM.mk c.id c.pri c.every c.pre c.src (List.length c.addrs)
 (fun i => [AVal.str (List.getD c.addrs i [])]) (1 : Int) c.every (0 : Int))
 [] (0 : Nat))).m.id
 (vrStart
 (VX.mk
 (VM.mk c.id c.pri c.every c.pre c.src (List.length c.addrs)
 (fun i => [AVal.str (List.getD c.addrs i [])]) (1 : Int) c.every (0 : Int))
 [] (0 : Nat))).m.pri
 (vrStart
 (VX.mk
 (VM.mk c.id c.pri c.every c.pre c.src (List.length c.addrs)
 (fun i => [AVal.str (List.getD c.addrs i [])]) (1 : Int) c.every (0 : Int))
 [] (0 : Nat))).m.every
 (vrStart
 (VX.mk
 (VM.mk c.id c.pri c.every c.pre c.src (List.length c.addrs)
 (fun i => [AVal.str (List.getD c.addrs i [])]) (1 : Int) c.every (0 : Int))
 [] (0 : Nat))).m.pre
 (vrStart
 (VX.mk
 (VM.mk c.id c.pri c.every c.pre c.src (List.length c.addrs)
 (fun i => [AVal.str (List.getD c.addrs i [])]) (1 : Int) c.every (0 : Int))
 [] (0 : Nat))).m.src
 (vrStart
 (VX.mk
 (VM.mk c.id c.pri c.every c.pre c.src (List.length c.addrs)
 (fun i => [AVal.str (List.getD c.addrs i [])]) (1 : Int) c.every (0 : Int))
 [] (0 : Nat))).m.n
 (vrStart
 (VX.mk
 (VM.mk c.id c.pri c.every c.pre c.src (List.length c.addrs)
 (fun i => [AVal.str (List.getD c.addrs i [])]) (1 : Int) c.every (0 : Int))
 [] (0 : Nat))).m.f
 (vrStart
 (VX.mk
 (VM.mk c.id c.pri c.every c.pre c.src (List.length c.addrs)
 (fun i => [AVal.str (List.getD c.addrs i [])]) (1 : Int) c.every (0 : Int))
 [] (0 : Nat))).m.st
 (vrStart
 (VX.mk
 (VM.mk c.id c.pri c.every c.pre c.src (List.length c.addrs)
 (fun i => [AVal.str (List.getD c.addrs i [])]) (1 : Int) c.every (0 : Int))
 [] (0 : Nat))).m.pace
 (vrStart
 (VX.mk
 (VM.mk c.id c.pri c.every c.pre c.src (List.length c.addrs)
 (fun i => [AVal.str (List.getD c.addrs i [])]) (1 : Int) c.every (0 : Int))
 [] (0 : Nat))).m.wait)
 (vrStart
 (VX.mk
 (VM.mk c.id c.pri c.every c.pre c.src (List.length c.addrs)
 (fun i => [AVal.str (List.getD c.addrs i [])]) (1 : Int) c.every (0 : Int))
 [] (0 : Nat))).out
 (vrStart
 (VX.mk
 (VM.mk c.id c.pri c.every c.pre c.src (List.length c.addrs)
 (fun i => [AVal.str (List.getD c.addrs i [])]) (1 : Int) c.every (0 : Int))
 [] (0 : Nat))).k)).m.pace)),
 ((10 : Nat), AVal.ptr (3 : Nat) (0 : Nat)), ((11 : Nat), AVal.int IntKind.i64 (1 : Int))]
 [ABlk.vals
 [AVal.int IntKind.i64 c.id, AVal.int IntKind.i64 c.pri, AVal.int IntKind.i64 c.every, AVal.bool c.pre,
 AVal.str c.src, AVal.ro (List.length c.addrs) (1 : Nat) fun i => [AVal.str (List.getD c.addrs i [])]],
 ABlk.vals
 [AVal.int IntKind.i64 a.id, AVal.int IntKind.i64 a.pri, AVal.int IntKind.i64 a.every,
 AVal.ro (List.length a.addrs) (1 : Nat) fun i => [AVal.str (List.getD a.addrs i [])]],
 ABlk.vals
 [AVal.int IntKind.i64
 (vrTake s (Adv.mk a.id a.pri a.every [])
 (VX.mk
 (VM.mk
 (vrStart
 (VX.mk
 (VM.mk c.id c.pri c.every c.pre c.src (List.length c.addrs)
 (fun i => [AVal.str (List.getD c.addrs i [])]) (1 : Int) c.every (0 : Int))
 [] (0 : Nat))).m.id
 (vrStart
 (VX.mk
 (VM.mk c.id c.pri c.every c.pre c.src (List.length c.addrs)
 (fun i => [AVal.str (List.getD c.addrs i [])]) (1 : Int) c.every (0 : Int))
 [] (0 : Nat))).m.pri
 (vrStart
 (VX.mk
 (VM.mk c.id c.pri c.every c.pre c.src (List.length c.addrs)
 (fun i => [AVal.str (List.getD c.addrs i [])]) (1 : Int) c.every (0 : Int))
 [] (0 : Nat))).m.every
 (vrStart
 (VX.mk
 (VM.mk c.id c.pri c.every c.pre c.src (List.length c.addrs)
 (fun i => [AVal.str (List.getD c.addrs i [])]) (1 : Int) c.every (0 : Int))
 [] (0 : Nat))).m.pre
 (vrStart
 (VX.mk
 (VM.mk c.id c.pri c.every c.pre c.src (List.length c.addrs)
 (fun i => [AVal.str (List.getD c.addrs i [])]) (1 : Int) c.every (0 : Int))
 [] (0 : Nat))).m.src
 (vrStart
 (VX.mk
 (VM.mk c.id c.pri c.every c.pre c.src (List.length c.addrs)
 (fun i => [AVal.str (List.getD c.addrs i [])]) (1 : Int) c.every (0 : Int))
 [] (0 : Nat))).m.n
 (vrStart
 (VX.mk
 (VM.mk c.id c.pri c.every c.pre c.src (List.length c.addrs)
 (fun i => [AVal.str (List.getD c.addrs i [])]) (1 : Int) c.every (0 : Int))
 [] (0 : Nat))).m.f
 (vrStart
 (VX.mk
 (VM.mk c.id c.pri c.every c.pre c.src (List.length c.addrs)
 (fun i => [AVal.str (List.getD c.addrs i [])]) (1 : Int) c.every (0 : Int))
 [] (0 : Nat))).m.st
 (vrStart
 (VX.mk
 (VM.mk c.id c.pri c.every c.pre c.src (List.length c.addrs)
 (fun i => [AVal.str (List.getD c.addrs i [])]) (1 : Int) c.every (0 : Int))
 [] (0 : Nat))).m.pace
 (vrStart
 (VX.mk
 (VM.mk c.id c.pri c.every c.pre c.src (List.length c.addrs)
 (fun i => [AVal.str (List.getD c.addrs i [])]) (1 : Int) c.every (0 : Int))
 [] (0 : Nat))).m.wait)
 (vrStart
 (VX.mk
 (VM.mk c.id c.pri c.every c.pre c.src (List.length c.addrs)
 (fun i => [AVal.str (List.getD c.addrs i [])]) (1 : Int) c.every (0 : Int))
 [] (0 : Nat))).out
 (vrStart
 (VX.mk
 (VM.mk c.id c.pri c.every c.pre c.src (List.length c.addrs)
 (fun i => [AVal.str (List.getD c.addrs i [])]) (1 : Int) c.every (0 : Int))
 [] (0 : Nat))).k)).m.id,
 AVal.int IntKind.i64
 (vrTake s (Adv.mk a.id a.pri a.every [])
 (VX.mk
 (VM.mk
 (vrStart
 (VX.mk
 (VM.mk c.id c.pri c.every c.pre c.src (List.length c.addrs)
 (fun i => [AVal.str (List.getD c.addrs i [])]) (1 : Int) c.every (0 : Int))
 [] (0 : Nat))).m.id
 (vrStart
 (VX.mk
 (VM.mk c.id c.pri c.every c.pre c.src (List.length c.addrs)
 (fun i => [AVal.str (List.getD c.addrs i [])]) (1 : Int) c.every (0 : Int))
 [] (0 : Nat))).m.pri
 (vrStart
 (VX.mk
 (VM.mk c.id c.pri c.every c.pre c.src (List.length c.addrs)
 (fun i => [AVal.str (List.getD c.addrs i [])]) (1 : Int) c.every (0 : Int))
 [] (0 : Nat))).m.every
 (vrStart
 (VX.mk
 (VM.mk c.id c.pri c.every c.pre c.src (List.length c.addrs)
 (fun i => [AVal.str (List.getD c.addrs i [])]) (1 : Int) c.every (0 : Int))
 [] (0 : Nat))).m.pre
 (vrStart
 (VX.mk
 (VM.mk c.id c.pri c.every c.pre c.src (List.length c.addrs)
 (fun i => [AVal.str (List.getD c.addrs i [])]) (1 : Int) c.every (0 : Int))
 [] (0 : Nat))).m.src
 (vrStart
 (VX.mk
 (VM.mk c.id c.pri c.every c.pre c.src (List.length c.addrs)
 (fun i => [AVal.str (List.getD c.addrs i [])]) (1 : Int) c.every (0 : Int))
 [] (0 : Nat))).m.n
 (vrStart
 (VX.mk
 (VM.mk c.id c.pri c.every c.pre c.src (List.length c.addrs)
 (fun i => [AVal.str (List.getD c.addrs i [])]) (1 : Int) c.every (0 : Int))
 [] (0 : Nat))).m.f
 (vrStart
 (VX.mk
 (VM.mk c.id c.pri c.every c.pre c.src (List.length c.addrs)
 (fun i => [AVal.str (List.getD c.addrs i [])]) (1 : Int) c.every (0 : Int))
 [] (0 : Nat))).m.st
 (vrStart
 (VX.mk
 (VM.mk c.id c.pri c.every c.pre c.src (List.length c.addrs)
 (fun i => [AVal.str (List.getD c.addrs i [])]) (1 : Int) c.every (0 : Int))
 [] (0 : Nat))).m.pace
 (vrStart
 (VX.mk
 (VM.mk c.id c.pri c.every c.pre c.src (List.length c.addrs)
 (fun i => [AVal.str (List.getD c.addrs i [])]) (1 : Int) c.every (0 : Int))
 [] (0 : Nat))).m.wait)
 (vrStart
 (VX.mk
 (VM.mk c.id c.pri c.every c.pre c.src (List.length c.addrs)
 (fun i => [AVal.str (List.getD c.addrs i [])]) (1 : Int) c.every (0 : Int))
 [] (0 : Nat))).out
 (vrStart
 (VX.mk
 (VM.mk c.id c.pri c.every c.pre c.src (List.length c.addrs)
 (fun i => [AVal.str (List.getD c.addrs i [])]) (1 : Int) c.every (0 : Int))
 [] (0 : Nat))).k)).m.pri,
 AVal.int IntKind.i64
 (vrTake s (Adv.mk a.id a.pri a.every [])
 (VX.mk
 (VM.mk
 (vrStart
 (VX.mk
 (VM.mk c.id c.pri c.every c.pre c.src (List.length c.addrs)
 (fun i => [AVal.str (List.getD c.addrs i [])]) (1 : Int) c.every (0 : Int))
 [] (0 : Nat))).m.id
 (vrStart
 (VX.mk
 (VM.mk c.id c.pri c.every c.pre c.src (List.length c.addrs)
 (fun i => [AVal.str (List.getD c.addrs i [])]) (1 : Int) c.every (0 : Int))
 [] (0 : Nat))).m.pri
 (vrStart
 (VX.mk
 (VM.mk c.id c.pri c.every c.pre c.src (List.length c.addrs)
 (fun i => [AVal.str (List.getD c.addrs i [])]) (1 : Int) c.every (0 : Int))
 [] (0 : Nat))).m.every
 (vrStart
 (VX.mk
 (VM.mk c.id c.pri c.every c.pre c.src (List.length c.addrs)
 (fun i => [AVal.str (List.getD c.addrs i [])]) (1 : Int) c.every (0 : Int))
 [] (0 : Nat))).m.pre
 (vrStart
 (VX.mk
 (VM.mk c.id c.pri c.every c.pre c.src (List.length c.addrs)
 (fun i => [AVal.str (List.getD c.addrs i [])]) (1 : Int) c.every (0 : Int))
 [] (0 : Nat))).m.src
 (vrStart
 (VX.mk
 (VM.mk c.id c.pri c.every c.pre c.src (List.length c.addrs)
 (fun i => [AVal.str (List.getD c.addrs i [])]) (1 : Int) c.every (0 : Int))
 [] (0 : Nat))).m.n
 (vrStart
 (VX.mk
 (VM.mk c.id c.pri c.every c.pre c.src (List.length c.addrs)
 (fun i => [AVal.str (List.getD c.addrs i [])]) (1 : Int) c.every (0 : Int))
 [] (0 : Nat))).m.f
 (vrStart
 (VX.mk
 (VM.mk c.id c.pri c.every c.pre c.src (List.length c.addrs)
 (fun i => [AVal.str (List.getD c.addrs i [])]) (1 : Int) c.every (0 : Int))
 [] (0 : Nat))).m.st
 (vrStart
 (VX.mk
 (VM.mk c.id c.pri c.every c.pre c.src (List.length c.addrs)
 (fun i => [AVal.str (List.getD c.addrs i [])]) (1 : Int) c.every (0 : Int))
 [] (0 : Nat))).m.pace
 (vrStart
 (VX.mk
 (VM.mk c.id c.pri c.every c.pre c.src (List.length c.addrs)
 (fun i => [AVal.str (List.getD c.addrs i [])]) (1 : Int) c.every (0 : Int))
 [] (0 : Nat))).m.wait)
 (vrStart
 (VX.mk
 (VM.mk c.id c.pri c.every c.pre c.src (List.length c.addrs)
 (fun i => [AVal.str (List.getD c.addrs i [])]) (1 : Int) c.every (0 : Int))
 [] (0 : Nat))).out
 (vrStart
 (VX.mk
 (VM.mk c.id c.pri c.every c.pre c.src (List.length c.addrs)
 (fun i => [AVal.str (List.getD c.addrs i [])]) (1 : Int) c.every (0 : Int))
 [] (0 : Nat))).k)).m.every,
 AVal.bool
 (vrTake s (Adv.mk a.id a.pri a.every [])
 (VX.mk
 (VM.mk
 (vrStart
 (VX.mk
 (VM.mk c.id c.pri c.every c.pre c.src (List.length c.addrs)
 (fun i => [AVal.str (List.getD c.addrs i [])]) (1 : Int) c.every (0 : Int))
 [] (0 : Nat))).m.id
 (vrStart
 (VX.mk
 (VM.mk c.id c.pri c.every c.pre c.src (List.length c.addrs)
 (fun i => [AVal.str (List.getD c.addrs i [])]) (1 : Int) c.every (0 : Int))
 [] (0 : Nat))).m.pri
 (vrStart
 (VX.mk
 (VM.mk c.id c.pri c.every c.pre c.src (List.length c.addrs)
 (fun i => [AVal.str (List.getD c.addrs i [])]) (1 : Int) c.every (0 : Int))
 [] (0 : Nat))).m.every
 (vrStart
 (VX.mk
 (VM.mk c.id c.pri c.every c.pre c.src (List.length c.addrs)
 (fun i => [AVal.str (List.getD c.addrs i [])]) (1 : Int) c.every (0 : Int))
 [] (0 : Nat))).m.pre
 (vrStart
 (VX.mk
 (VM.mk c.id c.pri c.every c.pre c.src (List.length c.addrs)
 (fun i => [AVal.str (List.getD c.addrs i [])]) (1 : Int) c.every (0 : Int))
 [] (0 : Nat))).m.src
 (vrStart
 (VX.mk
 (VM.mk c.id c.pri c.every c.pre c.src (List.length c.addrs)
 (fun i => [AVal.str (List.getD c.addrs i [])]) (1 : Int) c.every (0 : Int))
 [] (0 : Nat))).m.n
 (vrStart
 (VX.mk
 (VM.mk c.id c.pri c.every c.pre c.src (List.length c.addrs)
 (fun i => [AVal.str (List.getD c.addrs i [])]) (1 : Int) c.every (0 : Int))
 [] (0 : Nat))).m.f
 (vrStart
 (VX.mk
 (VM.mk c.id c.pri c.every c.pre c.src (List.length c.addrs)
 (fun i => [AVal.str (List.getD c.addrs i [])]) (1 : Int) c.every (0 : Int))
 [] (0 : Nat))).m.st
 (vrStart
 (VX.mk
 (VM.mk c.id c.pri c.every c.pre c.src (List.length c.addrs)
 (fun i => [AVal.str (List.getD c.addrs i [])]) (1 : Int) c.every (0 : Int))
 [] (0 : Nat))).m.pace
 (vrStart
 (VX.mk
 (VM.mk c.id c.pri c.every c.pre c.src (List.length c.addrs)
 (fun i => [AVal.str (List.getD c.addrs i [])]) (1 : Int) c.every (0 : Int))
 [] (0 : Nat))).m.wait)
 (vrStart
 (VX.mk
 (VM.mk c.id c.pri c.every c.pre c.src (List.length c.addrs)
 (fun i => [AVal.str (List.getD c.addrs i [])]) (1 : Int) c.every (0 : Int))
 [] (0 : Nat))).out
 (vrStart
 (VX.mk
 (VM.mk c.id c.pri c.every c.pre c.src (List.length c.addrs)
 (fun i => [AVal.str (List.getD c.addrs i [])]) (1 : Int) c.every (0 : Int))
 [] (0 : Nat))).k)).m.pre,
 AVal.str
 (vrTake s (Adv.mk a.id a.pri a.every [])
 (VX.mk
 (VM.mk
 (vrStart
 (VX.mk
 (VM.mk c.id c.pri c.every c.pre c.src (List.length c.addrs)
 (fun i => [AVal.str (List.getD c.addrs i [])]) (1 : Int) c.every (0 : Int))
 [] (0 : Nat))).m.id
 (vrStart
 (VX.mk
 (VM.mk c.id c.pri c.every c.pre c.src (List.length c.addrs)
 (fun i => [AVal.str (List.getD c.addrs i [])]) (1 : Int) c.every (0 : Int))
 [] (0 : Nat))).m.pri
 (vrStart
 (VX.mk
 (VM.mk c.id c.pri c.every c.pre c.src (List.length c.addrs)
 (fun i => [AVal.str (List.getD c.addrs i [])]) (1 : Int) c.every (0 : Int))
 [] (0 : Nat))).m.every
 (vrStart
 (VX.mk
 (VM.mk c.id c.pri c.every c.pre c.src (List.length c.addrs)
 (fun i => [AVal.str (List.getD c.addrs i [])]) (1 : Int) c.every (0 : Int))
 [] (0 : Nat))).m.pre
 (vrStart
 (VX.mk
 (VM.mk c.id c.pri c.every c.pre c.src (List.length c.addrs)
 (fun i => [AVal.str (List.getD c.addrs i [])]) (1 : Int) c.every (0 : Int))
 [] (0 : Nat))).m.src
 (vrStart
 (VX.mk
 (VM.mk c.id c.pri c.every c.pre c.src (List.length c.addrs)
 (fun i => [AVal.str (List.getD c.addrs i [])]) (1 : Int) c.every (0 : Int))
 [] (0 : Nat))).m.n
 (vrStart
 (VX.mk
 (VM.mk c.id c.pri c.every c.pre c.src (List.length c.addrs)
 (fun i => [AVal.str (List.getD c.addrs i [])]) (1 : Int) c.every (0 : Int))
 [] (0 : Nat))).m.f
 (vrStart
 (VX.mk
 (VM.mk c.id c.pri c.every c.pre c.src (List.length c.addrs)
 (fun i => [AVal.str (List.getD c.addrs i [])]) (1 : Int) c.every (0 : Int))
 [] (0 : Nat))).m.st
 (vrStart
 (VX.mk
 (VM.mk c.id c.pri c.every c.pre c.src (List.length c.addrs)
 (fun i => [AVal.str (List.getD c.addrs i [])]) (1 : Int) c.every (0 : Int))
 [] (0 : Nat))).m.pace
 (vrStart
 (VX.mk
 (VM.mk c.id c.pri c.every c.pre c.src (List.length c.addrs)
 (fun i => [AVal.str (List.getD c.addrs i [])]) (1 : Int) c.every (0 : Int))
 [] (0 : Nat))).m.wait)
 (vrStart
 (VX.mk
 (VM.mk c.id c.pri c.every c.pre c.src (List.length c.addrs)
 (fun i => [AVal.str (List.getD c.addrs i [])]) (1 : Int) c.every (0 : Int))
 [] (0 : Nat))).out
 (vrStart
 (VX.mk
 (VM.mk c.id c.pri c.every c.pre c.src (List.length c.addrs)
 (fun i => [AVal.str (List.getD c.addrs i [])]) (1 : Int) c.every (0 : Int))
 [] (0 : Nat))).k)).m.src,
 AVal.ro
 (vrTake s (Adv.mk a.id a.pri a.every [])
 (VX.mk
 (VM.mk
 (vrStart
 (VX.mk
 (VM.mk c.id c.pri c.every c.pre c.src (List.length c.addrs)
 (fun i => [AVal.str (List.getD c.addrs i [])]) (1 : Int) c.every (0 : Int))
 [] (0 : Nat))).m.id
 (vrStart
 (VX.mk
 (VM.mk c.id c.pri c.every c.pre c.src (List.length c.addrs)
 (fun i => [AVal.str (List.getD c.addrs i [])]) (1 : Int) c.every (0 : Int))
 [] (0 : Nat))).m.pri
 (vrStart
 (VX.mk
 (VM.mk c.id c.pri c.every c.pre c.src (List.length c.addrs)
 (fun i => [AVal.str (List.getD c.addrs i [])]) (1 : Int) c.every (0 : Int))
 [] (0 : Nat))).m.every
 (vrStart
 (VX.mk
 (VM.mk c.id c.pri c.every c.pre c.src (List.length c.addrs)
 (fun i => [AVal.str (List.getD c.addrs i [])]) (1 : Int) c.every (0 : Int))
 [] (0 : Nat))).m.pre
 (vrStart
 (VX.mk
 (VM.mk c.id c.pri c.every c.pre c.src (List.length c.addrs)
 (fun i => [AVal.str (List.getD c.addrs i [])]) (1 : Int) c.every (0 : Int))
 [] (0 : Nat))).m.src
 (vrStart
 (VX.mk
 (VM.mk c.id c.pri c.every c.pre c.src (List.length c.addrs)
 (fun i => [AVal.str (List.getD c.addrs i [])]) (1 : Int) c.every (0 : Int))
 [] (0 : Nat))).m.n
 (vrStart
 (VX.mk
 (VM.mk c.id c.pri c.every c.pre c.src (List.length c.addrs)
 (fun i => [AVal.str (List.getD c.addrs i [])]) (1 : Int) c.every (0 : Int))
 [] (0 : Nat))).m.f
 (vrStart
 (VX.mk
 (VM.mk c.id c.pri c.every c.pre c.src (List.length c.addrs)
 (fun i => [AVal.str (List.getD c.addrs i [])]) (1 : Int) c.every (0 : Int))
 [] (0 : Nat))).m.st
 (vrStart
 (VX.mk
 (VM.mk c.id c.pri c.every c.pre c.src (List.length c.addrs)
 (fun i => [AVal.str (List.getD c.addrs i [])]) (1 : Int) c.every (0 : Int))
 [] (0 : Nat))).m.pace
 (vrStart
 (VX.mk
 (VM.mk c.id c.pri c.every c.pre c.src (List.length c.addrs)
 (fun i => [AVal.str (List.getD c.addrs i [])]) (1 : Int) c.every (0 : Int))
 [] (0 : Nat))).m.wait)
 (vrStart
 (VX.mk
 (VM.mk c.id c.pri c.every c.pre c.src (List.length c.addrs)
 (fun i => [AVal.str (List.getD c.addrs i [])]) (1 : Int) c.every (0 : Int))
 [] (0 : Nat))).out
 (vrStart
 (VX.mk
 (VM.mk c.id c.pri c.every c.pre c.src (List.length c.addrs)
 (fun i => [AVal.str (List.getD c.addrs i [])]) (1 : Int) c.every (0 : Int))
 [] (0 : Nat))).k)).m.n
 (1 : Nat)
 (vrTake s (Adv.mk a.id a.pri a.every [])
 (VX.mk
 (VM.mk
 (vrStart
 (VX.mk
 (VM.mk c.id c.pri c.every c.pre c.src (List.length c.addrs)
 (fun i => [AVal.str (List.getD c.addrs i [])]) (1 : Int) c.every (0 : Int))
 [] (0 : Nat))).m.id
 (vrStart
 (VX.mk
 (VM.mk c.id c.pri c.every c.pre c.src (List.length c.addrs)
 (fun i => [AVal.str (List.getD c.addrs i [])]) (1 : Int) c.every (0 : Int))
 [] (0 : Nat))).m.pri
 (vrStart
 (VX.mk
 (VM.mk c.id c.pri c.every c.pre c.src (List.length c.addrs)
 (fun i => [AVal.str (List.getD c.addrs i [])]) (1 : Int) c.every (0 : Int))
 [] (0 : Nat))).m.every
 (vrStart
 (VX.mk
 (VM.mk c.id c.pri c.every c.pre c.src (List.length c.addrs)
 (fun i => [AVal.str (List.getD c.addrs i [])]) (1 : Int) c.every (0 : Int))
 [] (0 : Nat))).m.pre
 (vrStart
 (VX.mk
 (VM.mk c.id c.pri c.every c.pre c.src (List.length c.addrs)
 (fun i => [AVal.str (List.getD c.addrs i [])]) (1 : Int) c.every (0 : Int))
 [] (0 : Nat))).m.src
 (vrStart
 (VX.mk
 (VM.mk c.id c.pri c.every c.pre c.src (List.length c.addrs)
 (fun i => [AVal.str (List.getD c.addrs i [])]) (1 : Int) c.every (0 : Int))
 [] (0 : Nat))).m.n
 (vrStart
 (VX.mk
 (VM.mk c.id c.pri c.every c.pre c.src (List.length c.addrs)
 (fun i => [AVal.str (List.getD c.addrs i [])]) (1 : Int) c.every (0 : Int))
 [] (0 : Nat))).m.f
 (vrStart
 (VX.mk
 (VM.mk c.id c.pri c.every c.pre c.src (List.length c.addrs)
 (fun i => [AVal.str (List.getD c.addrs i [])]) (1 : Int) c.every (0 : Int))
 [] (0 : Nat))).m.st
 (vrStart
 (VX.mk
 (VM.mk c.id c.pri c.every c.pre c.src (List.length c.addrs)
 (fun i => [AVal.str (List.getD c.addrs i [])]) (1 : Int) c.every (0 : Int))
 [] (0 : Nat))).m.pace
 (vrStart
 (VX.mk
 (VM.mk c.id c.pri c.every c.pre c.src (List.length c.addrs)
 (fun i => [AVal.str (List.getD c.addrs i [])]) (1 : Int) c.every (0 : Int))
 [] (0 : Nat))).m.wait)
 (vrStart
 (VX.mk
 (VM.mk c.id c.pri c.every c.pre c.src (List.length c.addrs)
 (fun i => [AVal.str (List.getD c.addrs i [])]) (1 : Int) c.every (0 : Int))
 [] (0 : Nat))).out
 (vrStart
 (VX.mk
 (VM.mk c.id c.pri c.every c.pre c.src (List.length c.addrs)
 (fun i => [AVal.str (List.getD c.addrs i [])]) (1 : Int) c.every (0 : Int))
 [] (0 : Nat))).k)).m.f,
 AVal.int IntKind.i64
 (vrTake s (Adv.mk a.id a.pri a.every [])
 (VX.mk
 (VM.mk
 (vrStart
 (VX.mk
 (VM.mk c.id c.pri c.every c.pre c.src (List.length c.addrs)
 (fun i => [AVal.str (List.getD c.addrs i [])]) (1 : Int) c.every (0 : Int))
 [] (0 : Nat))).m.id
 (vrStart
 (VX.mk
 (VM.mk c.id c.pri c.every c.pre c.src (List.length c.addrs)
 (fun i => [AVal.str (List.getD c.addrs i [])]) (1 : Int) c.every (0 : Int))
 [] (0 : Nat))).m.pri
 (vrStart
 (VX.mk
 (VM.mk c.id c.pri c.every c.pre c.src (List.length c.addrs)
 (fun i => [AVal.str (List.getD c.addrs i [])]) (1 : Int) c.every (0 : Int))
 [] (0 : Nat))).m.every
 (vrStart
 (VX.mk
 (VM.mk c.id c.pri c.every c.pre c.src (List.length c.addrs)
 (fun i => [AVal.str (List.getD c.addrs i [])]) (1 : Int) c.every (0 : Int))
 [] (0 : Nat))).m.pre
 (vrStart
 (VX.mk
 (VM.mk c.id c.pri c.every c.pre c.src (List.length c.addrs)
 (fun i => [AVal.str (List.getD c.addrs i [])]) (1 : Int) c.every (0 : Int))
 [] (0 : Nat))).m.src
 (vrStart
 (VX.mk
 (VM.mk c.id c.pri c.every c.pre c.src (List.length c.addrs)
 (fun i => [AVal.str (List.getD c.addrs i [])]) (1 : Int) c.every (0 : Int))
 [] (0 : Nat))).m.n
 (vrStart
 (VX.mk
 (VM.mk c.id c.pri c.every c.pre c.src (List.length c.addrs)
 (fun i => [AVal.str (List.getD c.addrs i [])]) (1 : Int) c.every (0 : Int))
 [] (0 : Nat))).m.f
 (vrStart
 (VX.mk
 (VM.mk c.id c.pri c.every c.pre c.src (List.length c.addrs)
 (fun i => [AVal.str (List.getD c.addrs i [])]) (1 : Int) c.every (0 : Int))
 [] (0 : Nat))).m.st
 (vrStart
 (VX.mk
 (VM.mk c.id c.pri c.every c.pre c.src (List.length c.addrs)
 (fun i => [AVal.str (List.getD c.addrs i [])]) (1 : Int) c.every (0 : Int))
 [] (0 : Nat))).m.pace
 (vrStart
 (VX.mk
 (VM.mk c.id c.pri c.every c.pre c.src (List.length c.addrs)
 (fun i => [AVal.str (List.getD c.addrs i [])]) (1 : Int) c.every (0 : Int))
 [] (0 : Nat))).m.wait)
 (vrStart
 (VX.mk
 (VM.mk c.id c.pri c.every c.pre c.src (List.length c.addrs)
 (fun i => [AVal.str (List.getD c.addrs i [])]) (1 : Int) c.every (0 : Int))
 [] (0 : Nat))).out
 (vrStart
 (VX.mk
 (VM.mk c.id c.pri c.every c.pre c.src (List.length c.addrs)
 (fun i => [AVal.str (List.getD c.addrs i [])]) (1 : Int) c.every (0 : Int))
 [] (0 : Nat))).k)).m.st,
 AVal.int IntKind.i64
 (vrTake s (Adv.mk a.id a.pri a.every [])
 (VX.mk
 (VM.mk
 (vrStart
 (VX.mk
 (VM.mk c.id c.pri c.every c.pre c.src (List.length c.addrs)
 (fun i => [AVal.str (List.getD c.addrs i [])]) (1 : Int) c.every (0 : Int))
 [] (0 : Nat))).m.id
 (vrStart
 (VX.mk
 (VM.mk c.id c.pri c.every c.pre c.src (List.length c.addrs)
 (fun i => [AVal.str (List.getD c.addrs i [])]) (1 : Int) c.every (0 : Int))
 [] (0 : Nat))).m.pri
 (vrStart
 (VX.mk
 (VM.mk c.id c.pri c.every c.pre c.src (List.length c.addrs)
 (fun i => [AVal.str (List.getD c.addrs i [])]) (1 : Int) c.every (0 : Int))
 [] (0 : Nat))).m.every
 (vrStart
 (VX.mk
 (VM.mk c.id c.pri c.every c.pre c.src (List.length c.addrs)
 (fun i => [AVal.str (List.getD c.addrs i [])]) (1 : Int) c.every (0 : Int))
 [] (0 : Nat))).m.pre
 (vrStart
 (VX.mk
 (VM.mk c.id c.pri c.every c.pre c.src (List.length c.addrs)
 (fun i => [AVal.str (List.getD c.addrs i [])]) (1 : Int) c.every (0 : Int))
 [] (0 : Nat))).m.src
 (vrStart
 (VX.mk
 (VM.mk c.id c.pri c.every c.pre c.src (List.length c.addrs)
 (fun i => [AVal.str (List.getD c.addrs i [])]) (1 : Int) c.every (0 : Int))
 [] (0 : Nat))).m.n
 (vrStart
 (VX.mk
 (VM.mk c.id c.pri c.every c.pre c.src (List.length c.addrs)
 (fun i => [AVal.str (List.getD c.addrs i [])]) (1 : Int) c.every (0 : Int))
 [] (0 : Nat))).m.f
 (vrStart
 (VX.mk
 (VM.mk c.id c.pri c.every c.pre c.src (List.length c.addrs)
 (fun i => [AVal.str (List.getD c.addrs i [])]) (1 : Int) c.every (0 : Int))
 [] (0 : Nat))).m.st
 (vrStart
 (VX.mk
 (VM.mk c.id c.pri c.every c.pre c.src (List.length c.addrs)
 (fun i => [AVal.str (List.getD c.addrs i [])]) (1 : Int) c.every (0 : Int))
 [] (0 : Nat))).m.pace
 (vrStart
 (VX.mk
 (VM.mk c.id c.pri c.every c.pre c.src (List.length c.addrs)
 (fun i => [AVal.str (List.getD c.addrs i [])]) (1 : Int) c.every (0 : Int))
 [] (0 : Nat))).m.wait)
 (vrStart
 (VX.mk
 (VM.mk c.id c.pri c.every c.pre c.src (List.length c.addrs)
 (fun i => [AVal.str (List.getD c.addrs i [])]) (1 : Int) c.every (0 : Int))
 [] (0 : Nat))).out
 (vrStart
 (VX.mk
 (VM.mk c.id c.pri c.every c.pre c.src (List.length c.addrs)
 (fun i => [AVal.str (List.getD c.addrs i [])]) (1 : Int) c.every (0 : Int))
 [] (0 : Nat))).k)).m.pace,
 AVal.int IntKind.i64
 (vrTake s (Adv.mk a.id a.pri a.every [])
 (VX.mk
 (VM.mk
 (vrStart
 (VX.mk
 (VM.mk c.id c.pri c.every c.pre c.src (List.length c.addrs)
 (fun i => [AVal.str (List.getD c.addrs i [])]) (1 : Int) c.every (0 : Int))
 [] (0 : Nat))).m.id
 (vrStart
 (VX.mk
 (VM.mk c.id c.pri c.every c.pre c.src (List.length c.addrs)
 (fun i => [AVal.str (List.getD c.addrs i [])]) (1 : Int) c.every (0 : Int))
 [] (0 : Nat))).m.pri
 (vrStart
 (VX.mk
 (VM.mk c.id c.pri c.every c.pre c.src (List.length c.addrs)
 (fun i => [AVal.str (List.getD c.addrs i [])]) (1 : Int) c.every (0 : Int))
 [] (0 : Nat))).m.every
 (vrStart
 (VX.mk
 (VM.mk c.id c.pri c.every c.pre c.src (List.length c.addrs)
 (fun i => [AVal.str (List.getD c.addrs i [])]) (1 : Int) c.every (0 : Int))
 [] (0 : Nat))).m.pre
 (vrStart
 (VX.mk
 (VM.mk c.id c.pri c.every c.pre c.src (List.length c.addrs)
 (fun i => [AVal.str (List.getD c.addrs i [])]) (1 : Int) c.every (0 : Int))
 [] (0 : Nat))).m.src
 (vrStart
 (VX.mk
 (VM.mk c.id c.pri c.every c.pre c.src (List.length c.addrs)
 (fun i => [AVal.str (List.getD c.addrs i [])]) (1 : Int) c.every (0 : Int))
 [] (0 : Nat))).m.n
 (vrStart
 (VX.mk
 (VM.mk c.id c.pri c.every c.pre c.src (List.length c.addrs)
 (fun i => [AVal.str (List.getD c.addrs i [])]) (1 : Int) c.every (0 : Int))
 [] (0 : Nat))).m.f
 (vrStart
 (VX.mk
 (VM.mk c.id c.pri c.every c.pre c.src (List.length c.addrs)
 (fun i => [AVal.str (List.getD c.addrs i [])]) (1 : Int) c.every (0 : Int))
 [] (0 : Nat))).m.st
 (vrStart
 (VX.mk
 (VM.mk c.id c.pri c.every c.pre c.src (List.length c.addrs)
 (fun i => [AVal.str (List.getD c.addrs i [])]) (1 : Int) c.every (0 : Int))
 [] (0 : Nat))).m.pace
 (vrStart
 (VX.mk
 (VM.mk c.id c.pri c.every c.pre c.src (List.length c.addrs)
 (fun i => [AVal.str (List.getD c.addrs i [])]) (1 : Int) c.every (0 : Int))
 [] (0 : Nat))).m.wait)
 (vrStart
 (VX.mk
 (VM.mk c.id c.pri c.every c.pre c.src (List.length c.addrs)
 (fun i => [AVal.str (List.getD c.addrs i [])]) (1 : Int) c.every (0 : Int))
 [] (0 : Nat))).out
 (vrStart
 (VX.mk
 (VM.mk c.id c.pri c.every c.pre c.src (List.length c.addrs)
 (fun i => [AVal.str (List.getD c.addrs i [])]) (1 : Int) c.every (0 : Int))
 [] (0 : Nat))).k)).m.wait,
 AVal.sl (4 : Nat) (0 : Nat)
 (vrTake s (Adv.mk a.id a.pri a.every [])
 (VX.mk
 (VM.mk
 (vrStart
 (VX.mk
 (VM.mk c.id c.pri c.every c.pre c.src (List.length c.addrs)
 (fun i => [AVal.str (List.getD c.addrs i [])]) (1 : Int) c.every (0 : Int))
 [] (0 : Nat))).m.id
 (vrStart
 (VX.mk
 (VM.mk c.id c.pri c.every c.pre c.src (List.length c.addrs)
 (fun i => [AVal.str (List.getD c.addrs i [])]) (1 : Int) c.every (0 : Int))
 [] (0 : Nat))).m.pri
 (vrStart
 (VX.mk
 (VM.mk c.id c.pri c.every c.pre c.src (List.length c.addrs)
 (fun i => [AVal.str (List.getD c.addrs i [])]) (1 : Int) c.every (0 : Int))
 [] (0 : Nat))).m.every
 (vrStart
 (VX.mk
 (VM.mk c.id c.pri c.every c.pre c.src (List.length c.addrs)
 (fun i => [AVal.str (List.getD c.addrs i [])]) (1 : Int) c.every (0 : Int))
 [] (0 : Nat))).m.pre
 (vrStart
 (VX.mk
 (VM.mk c.id c.pri c.every c.pre c.src (List.length c.addrs)
 (fun i => [AVal.str (List.getD c.addrs i [])]) (1 : Int) c.every (0 : Int))
 [] (0 : Nat))).m.src
 (vrStart
 (VX.mk
 (VM.mk c.id c.pri c.every c.pre c.src (List.length c.addrs)
 (fun i => [AVal.str (List.getD c.addrs i [])]) (1 : Int) c.every (0 : Int))
 [] (0 : Nat))).m.n
 (vrStart
 (VX.mk
 (VM.mk c.id c.pri c.every c.pre c.src (List.length c.addrs)
 (fun i => [AVal.str (List.getD c.addrs i [])]) (1 : Int) c.every (0 : Int))
 [] (0 : Nat))).m.f
 (vrStart
 (VX.mk
 (VM.mk c.id c.pri c.every c.pre c.src (List.length c.addrs)
 (fun i => [AVal.str (List.getD c.addrs i [])]) (1 : Int) c.every (0 : Int))
 [] (0 : Nat))).m.st
 (vrStart
 (VX.mk
 (VM.mk c.id c.pri c.every c.pre c.src (List.length c.addrs)
 (fun i => [AVal.str (List.getD c.addrs i [])]) (1 : Int) c.every (0 : Int))
 [] (0 : Nat))).m.pace
 (vrStart
 (VX.mk
 (VM.mk c.id c.pri c.every c.pre c.src (List.length c.addrs)
 (fun i => [AVal.str (List.getD c.addrs i [])]) (1 : Int) c.every (0 : Int))
 [] (0 : Nat))).m.wait)
 (vrStart
 (VX.mk
 (VM.mk c.id c.pri c.every c.pre c.src (List.length c.addrs)
 (fun i => [AVal.str (List.getD c.addrs i [])]) (1 : Int) c.every (0 : Int))
 [] (0 : Nat))).out
 (vrStart
 (VX.mk
 (VM.mk c.id c.pri c.every c.pre c.src (List.length c.addrs)
 (fun i => [AVal.str (List.getD c.addrs i [])]) (1 : Int) c.every (0 : Int))
 [] (0 : Nat))).k)).k
 (5 : Nat)],
 ABlk.vals
 [AVal.int IntKind.i64 a.id, AVal.int IntKind.i64 (c.pri - (1 : Int)), AVal.int IntKind.i64 a.every,
 AVal.ro (List.length a.addrs) (1 : Nat) fun i => [AVal.str (List.getD a.addrs i [])]],
 ABlk.flat
 (vrTake s (Adv.mk a.id a.pri a.every [])
 (VX.mk
 (VM.mk
 (vrStart
 (VX.mk
 (VM.mk c.id c.pri c.every c.pre c.src (List.length c.addrs)
 (fun i => [AVal.str (List.getD c.addrs i [])]) (1 : Int) c.every (0 : Int))
 [] (0 : Nat))).m.id
 (vrStart
 (VX.mk
 (VM.mk c.id c.pri c.every c.pre c.src (List.length c.addrs)
 (fun i => [AVal.str (List.getD c.addrs i [])]) (1 : Int) c.every (0 : Int))
 [] (0 : Nat))).m.pri
 (vrStart
 (VX.mk
 (VM.mk c.id c.pri c.every c.pre c.src (List.length c.addrs)
 (fun i => [AVal.str (List.getD c.addrs i [])]) (1 : Int) c.every (0 : Int))
 [] (0 : Nat))).m.every
 (vrStart
 (VX.mk
 (VM.mk c.id c.pri c.every c.pre c.src (List.length c.addrs)
 (fun i => [AVal.str (List.getD c.addrs i [])]) (1 : Int) c.every (0 : Int))
 [] (0 : Nat))).m.pre
 (vrStart
 (VX.mk
 (VM.mk c.id c.pri c.every c.pre c.src (List.length c.addrs)
 (fun i => [AVal.str (List.getD c.addrs i [])]) (1 : Int) c.every (0 : Int))
 [] (0 : Nat))).m.src
 (vrStart
 (VX.mk
 (VM.mk c.id c.pri c.every c.pre c.src (List.length c.addrs)
 (fun i => [AVal.str (List.getD c.addrs i [])]) (1 : Int) c.every (0 : Int))
 [] (0 : Nat))).m.n
 (vrStart
 (VX.mk
 (VM.mk c.id c.pri c.every c.pre c.src (List.length c.addrs)
 (fun i => [AVal.str (List.getD c.addrs i [])]) (1 : Int) c.every (0 : Int))
 [] (0 : Nat))).m.f
 (vrStart
 (VX.mk
 (VM.mk c.id c.pri c.every c.pre c.src (List.length c.addrs)
 (fun i => [AVal.str (List.getD c.addrs i [])]) (1 : Int) c.every (0 : Int))
 [] (0 : Nat))).m.st
 (vrStart
 (VX.mk
 (VM.mk c.id c.pri c.every c.pre c.src (List.length c.addrs)
 (fun i => [AVal.str (List.getD c.addrs i [])]) (1 : Int) c.every (0 : Int))
 [] (0 : Nat))).m.pace
 (vrStart
 (VX.mk
 (VM.mk c.id c.pri c.every c.pre c.src (List.length c.addrs)
 (fun i => [AVal.str (List.getD c.addrs i [])]) (1 : Int) c.every (0 : Int))
 [] (0 : Nat))).m.wait)
 (vrStart
 (VX.mk
 (VM.mk c.id c.pri c.every c.pre c.src (List.length c.addrs)
 (fun i => [AVal.str (List.getD c.addrs i [])]) (1 : Int) c.every (0 : Int))
 [] (0 : Nat))).out
 (vrStart
 (VX.mk
 (VM.mk c.id c.pri c.every c.pre c.src (List.length c.addrs)
 (fun i => [AVal.str (List.getD c.addrs i [])]) (1 : Int) c.every (0 : Int))
 [] (0 : Nat))).k)).out])))
 (K (AVal.bool true) [])) := by kernel_rfl
set_option maxRecDepth 100000 in
theorem VrrpWaits_lp_step (c : Cfg) (s : List UInt8) (a : Adv) (d q : Int) (id pri every : Int) (pre : Bool) (src : List UInt8) (n : Nat) (f : Nat → List AVal) (st pace wait : Int) (k : Nat) (o : List AVal) (K : AVal → Hp → Prop) (J : St → Prop) : VrrpWaits_lp_b K J (St.mk [(1, .str s), (3, .ptr 0 0), (5, .ptr 1 0), (7, .ptr 2 0), (9, .int .i64 d), (10, .ptr 3 0), (11, .int .i64 q)] [.vals [.int .i64 c.id, .int .i64 c.pri, .int .i64 c.every, .bool c.pre, .str c.src, .ro c.addrs.length 1 (fun i => [.str (c.addrs.getD i [])])], .vals [.int .i64 a.id, .int .i64 a.pri, .int .i64 a.every, .ro a.addrs.length 1 (fun i => [.str (a.addrs.getD i [])])], .vals [.int .i64 id, .int .i64 pri, .int .i64 every, .bool pre, .str src, .ro n 1 f, .int .i64 st, .int .i64 pace, .int .i64 wait, .sl 4 0 k 5], .vals [.int .i64 a.id, .int .i64 (c.pri - 1), .int .i64 a.every, .ro a.addrs.length 1 (fun i => [.str (a.addrs.getD i [])])], .flat o]) = (
 brP (decide (q ≤ d))
 (brP (!decide (st = (2 : Int))) (K (AVal.bool false) [])
 (brP (decide ((0 : Int) < (↑k : Int))) (K (AVal.bool false) [])
 (brP (c.pre && decide ((0 : Int) < c.pri - (1 : Int)))
 (VB (VX.mk (VM.mk id pri every pre src n f st pace wait) [] (0 : Nat)) ∧
 VBw
 (VX.mk
 (VM.mk
 (vrTake s (Adv.mk a.id (c.pri - (1 : Int)) a.every [])
 (VX.mk (VM.mk id pri every pre src n f st pace wait) [] (0 : Nat))).m.id
 (vrTake s (Adv.mk a.id (c.pri - (1 : Int)) a.every [])
 (VX.mk (VM.mk id pri every pre src n f st pace wait) [] (0 : Nat))).m.pri
 (vrTake s (Adv.mk a.id (c.pri - (1 : Int)) a.every [])
 (VX.mk (VM.mk id pri every pre src n f st pace wait) [] (0 : Nat))).m.every
 (vrTake s (Adv.mk a.id (c.pri - (1 : Int)) a.every [])
 (VX.mk (VM.mk id pri every pre src n f st pace wait) [] (0 : Nat))).m.pre
 (vrTake s (Adv.mk a.id (c.pri - (1 : Int)) a.every [])
 (VX.mk (VM.mk id pri every pre src n f st pace wait) [] (0 : Nat))).m.src
 (vrTake s (Adv.mk a.id (c.pri - (1 : Int)) a.every [])
 (VX.mk (VM.mk id pri every pre src n f st pace wait) [] (0 : Nat))).m.n
 (vrTake s (Adv.mk a.id (c.pri - (1 : Int)) a.every [])
 (VX.mk (VM.mk id pri every pre src n f st pace wait) [] (0 : Nat))).m.f
 (vrTake s (Adv.mk a.id (c.pri - (1 : Int)) a.every [])
 (VX.mk (VM.mk id pri every pre src n f st pace wait) [] (0 : Nat))).m.st
 (vrTake s (Adv.mk a.id (c.pri - (1 : Int)) a.every [])
 (VX.mk (VM.mk id pri every pre src n f st pace wait) [] (0 : Nat))).m.pace
 (vrTake s (Adv.mk a.id (c.pri - (1 : Int)) a.every [])
 (VX.mk (VM.mk id pri every pre src n f st pace wait) [] (0 : Nat))).m.wait)
 (vrTake s (Adv.mk a.id (c.pri - (1 : Int)) a.every [])
 (VX.mk (VM.mk id pri every pre src n f st pace wait) [] (0 : Nat))).out
 (vrTake s (Adv.mk a.id (c.pri - (1 : Int)) a.every [])
 (VX.mk (VM.mk id pri every pre src n f st pace wait) [] (0 : Nat))).k) ∧
 I64 (q + (1 : Int)) ∧
 J
 (St.mk
 [((1 : Nat), AVal.str s), ((3 : Nat), AVal.ptr (0 : Nat) (0 : Nat)),
 ((5 : Nat), AVal.ptr (1 : Nat) (0 : Nat)), ((7 : Nat), AVal.ptr (2 : Nat) (0 : Nat)),
 ((9 : Nat), AVal.int IntKind.i64 d), ((10 : Nat), AVal.ptr (3 : Nat) (0 : Nat)),
 ((11 : Nat), AVal.int IntKind.i64 (q + (1 : Int)))]
 [ABlk.vals
 [AVal.int IntKind.i64 c.id, AVal.int IntKind.i64 c.pri, AVal.int IntKind.i64 c.every, AVal.bool c.pre,
 AVal.str c.src, AVal.ro (List.length c.addrs) (1 : Nat) fun i => [AVal.str (List.getD c.addrs i [])]],
 ABlk.vals
 [AVal.int IntKind.i64 a.id, AVal.int IntKind.i64 a.pri, AVal.int IntKind.i64 a.every,
 AVal.ro (List.length a.addrs) (1 : Nat) fun i => [AVal.str (List.getD a.addrs i [])]],
 ABlk.vals
 [AVal.int IntKind.i64
 (vrTick
 (VX.mk
 (VM.mk
 (vrTake s (Adv.mk a.id (c.pri - (1 : Int)) a.every [])
 (VX.mk (VM.mk id pri every pre src n f st pace wait) [] (0 : Nat))).m.id
 (vrTake s (Adv.mk a.id (c.pri - (1 : Int)) a.every [])
 (VX.mk (VM.mk id pri every pre src n f st pace wait) [] (0 : Nat))).m.pri
 (vrTake s (Adv.mk a.id (c.pri - (1 : Int)) a.every [])
 (VX.mk (VM.mk id pri every pre src n f st pace wait) [] (0 : Nat))).m.every
 (vrTake s (Adv.mk a.id (c.pri - (1 : Int)) a.every [])
 (VX.mk (VM.mk id pri every pre src n f st pace wait) [] (0 : Nat))).m.pre
 (vrTake s (Adv.mk a.id (c.pri - (1 : Int)) a.every [])
 (VX.mk (VM.mk id pri every pre src n f st pace wait) [] (0 : Nat))).m.src
 (vrTake s (Adv.mk a.id (c.pri - (1 : Int)) a.every [])
 (VX.mk (VM.mk id pri every pre src n f st pace wait) [] (0 : Nat))).m.n
 (vrTake s (Adv.mk a.id (c.pri - (1 : Int)) a.every [])
 (VX.mk (VM.mk id pri every pre src n f st pace wait) [] (0 : Nat))).m.f
 (vrTake s (Adv.mk a.id (c.pri - (1 : Int)) a.every [])
 (VX.mk (VM.mk id pri every pre src n f st pace wait) [] (0 : Nat))).m.st
 (vrTake s (Adv.mk a.id (c.pri - (1 : Int)) a.every [])
 (VX.mk (VM.mk id pri every pre src n f st pace wait) [] (0 : Nat))).m.pace
 (vrTake s (Adv.mk a.id (c.pri - (1 : Int)) a.every [])
 (VX.mk (VM.mk id pri every pre src n f st pace wait) [] (0 : Nat))).m.wait)
 (vrTake s (Adv.mk a.id (c.pri - (1 : Int)) a.every [])
 (VX.mk (VM.mk id pri every pre src n f st pace wait) [] (0 : Nat))).out
 (vrTake s (Adv.mk a.id (c.pri - (1 : Int)) a.every [])
 (VX.mk (VM.mk id pri every pre src n f st pace wait) [] (0 : Nat))).k)).m.id,
 AVal.int IntKind.i64
 (vrTick
 (VX.mk
 (VM.mk
 (vrTake s (Adv.mk a.id (c.pri - (1 : Int)) a.every [])
 (VX.mk (VM.mk id pri every pre src n f st pace wait) [] (0 : Nat))).m.id
 (vrTake s (Adv.mk a.id (c.pri - (1 : Int)) a.every [])
 (VX.mk (VM.mk id pri every pre src n f st pace wait) [] (0 : Nat))).m.pri
 (vrTake s (Adv.mk a.id (c.pri - (1 : Int)) a.every [])
 (VX.mk (VM.mk id pri every pre src n f st pace wait) [] (0 : Nat))).m.every
 (vrTake s (Adv.mk a.id (c.pri - (1 : Int)) a.every [])
 (VX.mk (VM.mk id pri every pre src n f st pace wait) [] (0 : Nat))).m.pre
 (vrTake s (Adv.mk a.id (c.pri - (1 : Int)) a.every [])
 (VX.mk (VM.mk id pri every pre src n f st pace wait) [] (0 : Nat))).m.src
 (vrTake s (Adv.mk a.id (c.pri - (1 : Int)) a.every [])
 (VX.mk (VM.mk id pri every pre src n f st pace wait) [] (0 : Nat))).m.n
 (vrTake s (Adv.mk a.id (c.pri - (1 : Int)) a.every [])
 (VX.mk (VM.mk id pri every pre src n f st pace wait) [] (0 : Nat))).m.f
 (vrTake s (Adv.mk a.id (c.pri - (1 : Int)) a.every [])
 (VX.mk (VM.mk id pri every pre src n f st pace wait) [] (0 : Nat))).m.st
 (vrTake s (Adv.mk a.id (c.pri - (1 : Int)) a.every [])
 (VX.mk (VM.mk id pri every pre src n f st pace wait) [] (0 : Nat))).m.pace
 (vrTake s (Adv.mk a.id (c.pri - (1 : Int)) a.every [])
 (VX.mk (VM.mk id pri every pre src n f st pace wait) [] (0 : Nat))).m.wait)
 (vrTake s (Adv.mk a.id (c.pri - (1 : Int)) a.every [])
 (VX.mk (VM.mk id pri every pre src n f st pace wait) [] (0 : Nat))).out
 (vrTake s (Adv.mk a.id (c.pri - (1 : Int)) a.every [])
 (VX.mk (VM.mk id pri every pre src n f st pace wait) [] (0 : Nat))).k)).m.pri,
 AVal.int IntKind.i64
 (vrTick
 (VX.mk
 (VM.mk
 (vrTake s (Adv.mk a.id (c.pri - (1 : Int)) a.every [])
 (VX.mk (VM.mk id pri every pre src n f st pace wait) [] (0 : Nat))).m.id
 (vrTake s (Adv.mk a.id (c.pri - (1 : Int)) a.every [])
 (VX.mk (VM.mk id pri every pre src n f st pace wait) [] (0 : Nat))).m.pri
 (vrTake s (Adv.mk a.id (c.pri - (1 : Int)) a.every [])
 (VX.mk (VM.mk id pri every pre src n f st pace wait) [] (0 : Nat))).m.every
 (vrTake s (Adv.mk a.id (c.pri - (1 : Int)) a.every [])
 (VX.mk (VM.mk id pri every pre src n f st pace wait) [] (0 : Nat))).m.pre
 (vrTake s (Adv.mk a.id (c.pri - (1 : Int)) a.every [])
 (VX.mk (VM.mk id pri every pre src n f st pace wait) [] (0 : Nat))).m.src
 (vrTake s (Adv.mk a.id (c.pri - (1 : Int)) a.every [])
 (VX.mk (VM.mk id pri every pre src n f st pace wait) [] (0 : Nat))).m.n
 (vrTake s (Adv.mk a.id (c.pri - (1 : Int)) a.every [])
 (VX.mk (VM.mk id pri every pre src n f st pace wait) [] (0 : Nat))).m.f
 (vrTake s (Adv.mk a.id (c.pri - (1 : Int)) a.every [])
 (VX.mk (VM.mk id pri every pre src n f st pace wait) [] (0 : Nat))).m.st
 (vrTake s (Adv.mk a.id (c.pri - (1 : Int)) a.every [])
 (VX.mk (VM.mk id pri every pre src n f st pace wait) [] (0 : Nat))).m.pace
 (vrTake s (Adv.mk a.id (c.pri - (1 : Int)) a.every [])
 (VX.mk (VM.mk id pri every pre src n f st pace wait) [] (0 : Nat))).m.wait)
 (vrTake s (Adv.mk a.id (c.pri - (1 : Int)) a.every [])
 (VX.mk (VM.mk id pri every pre src n f st pace wait) [] (0 : Nat))).out
 (vrTake s (Adv.mk a.id (c.pri - (1 : Int)) a.every [])
 (VX.mk (VM.mk id pri every pre src n f st pace wait) [] (0 : Nat))).k)).m.every,
 AVal.bool
 (vrTick
 (VX.mk
 (VM.mk
 (vrTake s (Adv.mk a.id (c.pri - (1 : Int)) a.every [])
 (VX.mk (VM.mk id pri every pre src n f st pace wait) [] (0 : Nat))).m.id
 (vrTake s (Adv.mk a.id (c.pri - (1 : Int)) a.every [])
 (VX.mk (VM.mk id pri every pre src n f st pace wait) [] (0 : Nat))).m.pri
 (vrTake s (Adv.mk a.id (c.pri - (1 : Int)) a.every [])
 (VX.mk (VM.mk id pri every pre src n f st pace wait) [] (0 : Nat))).m.every
 (vrTake s (Adv.mk a.id (c.pri - (1 : Int)) a.every [])
 (VX.mk (VM.mk id pri every pre src n f st pace wait) [] (0 : Nat))).m.pre
 (vrTake s (Adv.mk a.id (c.pri - (1 : Int)) a.every [])
 (VX.mk (VM.mk id pri every pre src n f st pace wait) [] (0 : Nat))).m.src
 (vrTake s (Adv.mk a.id (c.pri - (1 : Int)) a.every [])
 (VX.mk (VM.mk id pri every pre src n f st pace wait) [] (0 : Nat))).m.n
 (vrTake s (Adv.mk a.id (c.pri - (1 : Int)) a.every [])
 (VX.mk (VM.mk id pri every pre src n f st pace wait) [] (0 : Nat))).m.f
 (vrTake s (Adv.mk a.id (c.pri - (1 : Int)) a.every [])
 (VX.mk (VM.mk id pri every pre src n f st pace wait) [] (0 : Nat))).m.st
 (vrTake s (Adv.mk a.id (c.pri - (1 : Int)) a.every [])
 (VX.mk (VM.mk id pri every pre src n f st pace wait) [] (0 : Nat))).m.pace
 (vrTake s (Adv.mk a.id (c.pri - (1 : Int)) a.every [])
 (VX.mk (VM.mk id pri every pre src n f st pace wait) [] (0 : Nat))).m.wait)
 (vrTake s (Adv.mk a.id (c.pri - (1 : Int)) a.every [])
 (VX.mk (VM.mk id pri every pre src n f st pace wait) [] (0 : Nat))).out
 (vrTake s (Adv.mk a.id (c.pri - (1 : Int)) a.every [])
 (VX.mk (VM.mk id pri every pre src n f st pace wait) [] (0 : Nat))).k)).m.pre,
 AVal.str
 (vrTick
 (VX.mk
 (VM.mk
 (vrTake s (Adv.mk a.id (c.pri - (1 : Int)) a.every [])
 (VX.mk (VM.mk id pri every pre src n f st pace wait) [] (0 : Nat))).m.id
 (vrTake s (Adv.mk a.id (c.pri - (1 : Int)) a.every [])
 (VX.mk (VM.mk id pri every pre src n f st pace wait) [] (0 : Nat))).m.pri
 (vrTake s (Adv.mk a.id (c.pri - (1 : Int)) a.every [])
 (VX.mk (VM.mk id pri every pre src n f st pace wait) [] (0 : Nat))).m.every
 (vrTake s (Adv.mk a.id (c.pri - (1 : Int)) a.every [])
 (VX.mk (VM.mk id pri every pre src n f st pace wait) [] (0 : Nat))).m.pre
 (vrTake s (Adv.mk a.id (c.pri - (1 : Int)) a.every [])
 (VX.mk (VM.mk id pri every pre src n f st pace wait) [] (0 : Nat))).m.src
 (vrTake s (Adv.mk a.id (c.pri - (1 : Int)) a.every [])
 (VX.mk (VM.mk id pri every pre src n f st pace wait) [] (0 : Nat))).m.n
 (vrTake s (Adv.mk a.id (c.pri - (1 : Int)) a.every [])
 (VX.mk (VM.mk id pri every pre src n f st pace wait) [] (0 : Nat))).m.f
 (vrTake s (Adv.mk a.id (c.pri - (1 : Int)) a.every [])
 (VX.mk (VM.mk id pri every pre src n f st pace wait) [] (0 : Nat))).m.st
 (vrTake s (Adv.mk a.id (c.pri - (1 : Int)) a.every [])
 (VX.mk (VM.mk id pri every pre src n f st pace wait) [] (0 : Nat))).m.pace
 (vrTake s (Adv.mk a.id (c.pri - (1 : Int)) a.every [])
 (VX.mk (VM.mk id pri every pre src n f st pace wait) [] (0 : Nat))).m.wait)
 (vrTake s (Adv.mk a.id (c.pri - (1 : Int)) a.every [])
 (VX.mk (VM.mk id pri every pre src n f st pace wait) [] (0 : Nat))).out
 (vrTake s (Adv.mk a.id (c.pri - (1 : Int)) a.every [])
 (VX.mk (VM.mk id pri every pre src n f st pace wait) [] (0 : Nat))).k)).m.src,
 AVal.ro
 (vrTick
 (VX.mk
 (VM.mk
 (vrTake s (Adv.mk a.id (c.pri - (1 : Int)) a.every [])
 (VX.mk (VM.mk id pri every pre src n f st pace wait) [] (0 : Nat))).m.id
 (vrTake s (Adv.mk a.id (c.pri - (1 : Int)) a.every [])
 (VX.mk (VM.mk id pri every pre src n f st pace wait) [] (0 : Nat))).m.pri
 (vrTake s (Adv.mk a.id (c.pri - (1 : Int)) a.every [])
 (VX.mk (VM.mk id pri every pre src n f st pace wait) [] (0 : Nat))).m.every
 (vrTake s (Adv.mk a.id (c.pri - (1 : Int)) a.every [])
 (VX.mk (VM.mk id pri every pre src n f st pace wait) [] (0 : Nat))).m.pre
 (vrTake s (Adv.mk a.id (c.pri - (1 : Int)) a.every [])
 (VX.mk (VM.mk id pri every pre src n f st pace wait) [] (0 : Nat))).m.src
 (vrTake s (Adv.mk a.id (c.pri - (1 : Int)) a.every [])
 (VX.mk (VM.mk id pri every pre src n f st pace wait) [] (0 : Nat))).m.n
 (vrTake s (Adv.mk a.id (c.pri - (1 : Int)) a.every [])
 (VX.mk (VM.mk id pri every pre src n f st pace wait) [] (0 : Nat))).m.f
 (vrTake s (Adv.mk a.id (c.pri - (1 : Int)) a.every [])
 (VX.mk (VM.mk id pri every pre src n f st pace wait) [] (0 : Nat))).m.st
 (vrTake s (Adv.mk a.id (c.pri - (1 : Int)) a.every [])
 (VX.mk (VM.mk id pri every pre src n f st pace wait) [] (0 : Nat))).m.pace
 (vrTake s (Adv.mk a.id (c.pri - (1 : Int)) a.every [])
 (VX.mk (VM.mk id pri every pre src n f st pace wait) [] (0 : Nat))).m.wait)
 (vrTake s (Adv.mk a.id (c.pri - (1 : Int)) a.every [])
 (VX.mk (VM.mk id pri every pre src n f st pace wait) [] (0 : Nat))).out
 (vrTake s (Adv.mk a.id (c.pri - (1 : Int)) a.every [])
 (VX.mk (VM.mk id pri every pre src n f st pace wait) [] (0 : Nat))).k)).m.n
 (1 : Nat)
 (vrTick
 (VX.mk
 (VM.mk
 (vrTake s (Adv.mk a.id (c.pri - (1 : Int)) a.every [])
 (VX.mk (VM.mk id pri every pre src n f st pace wait) [] (0 : Nat))).m.id
 (vrTake s (Adv.mk a.id (c.pri - (1 : Int)) a.every [])
 (VX.mk (VM.mk id pri every pre src n f st pace wait) [] (0 : Nat))).m.pri
 (vrTake s (Adv.mk a.id (c.pri - (1 : Int)) a.every [])
 (VX.mk (VM.mk id pri every pre src n f st pace wait) [] (0 : Nat))).m.every
 (vrTake s (Adv.mk a.id (c.pri - (1 : Int)) a.every [])
 (VX.mk (VM.mk id pri every pre src n f st pace wait) [] (0 : Nat))).m.pre
 (vrTake s (Adv.mk a.id (c.pri - (1 : Int)) a.every [])
 (VX.mk (VM.mk id pri every pre src n f st pace wait) [] (0 : Nat))).m.src
 (vrTake s (Adv.mk a.id (c.pri - (1 : Int)) a.every [])
 (VX.mk (VM.mk id pri every pre src n f st pace wait) [] (0 : Nat))).m.n
 (vrTake s (Adv.mk a.id (c.pri - (1 : Int)) a.every [])
 (VX.mk (VM.mk id pri every pre src n f st pace wait) [] (0 : Nat))).m.f
 (vrTake s (Adv.mk a.id (c.pri - (1 : Int)) a.every [])
 (VX.mk (VM.mk id pri every pre src n f st pace wait) [] (0 : Nat))).m.st
 (vrTake s (Adv.mk a.id (c.pri - (1 : Int)) a.every [])
 (VX.mk (VM.mk id pri every pre src n f st pace wait) [] (0 : Nat))).m.pace
 (vrTake s (Adv.mk a.id (c.pri - (1 : Int)) a.every [])
 (VX.mk (VM.mk id pri every pre src n f st pace wait) [] (0 : Nat))).m.wait)
 (vrTake s (Adv.mk a.id (c.pri - (1 : Int)) a.every [])
 (VX.mk (VM.mk id pri every pre src n f st pace wait) [] (0 : Nat))).out
 (vrTake s (Adv.mk a.id (c.pri - (1 : Int)) a.every [])
 (VX.mk (VM.mk id pri every pre src n f st pace wait) [] (0 : Nat))).k)).m.f,
 AVal.int IntKind.i64
 (vrTick
 (VX.mk
 (VM.mk
 (vrTake s (Adv.mk a.id (c.pri - (1 : Int)) a.every [])
 (VX.mk (VM.mk id pri every pre src n f st pace wait) [] (0 : Nat))).m.id
 (vrTake s (Adv.mk a.id (c.pri - (1 : Int)) a.every [])
 (VX.mk (VM.mk id pri every pre src n f st pace wait) [] (0 : Nat))).m.pri
 (vrTake s (Adv.mk a.id (c.pri - (1 : Int)) a.every [])
 (VX.mk (VM.mk id pri every pre src n f st pace wait) [] (0 : Nat))).m.every
 (vrTake s (Adv.mk a.id (c.pri - (1 : Int)) a.every [])
 (VX.mk (VM.mk id pri every pre src n f st pace wait) [] (0 : Nat))).m.pre
 (vrTake s (Adv.mk a.id (c.pri - (1 : Int)) a.every [])
 (VX.mk (VM.mk id pri every pre src n f st pace wait) [] (0 : Nat))).m.src
 (vrTake s (Adv.mk a.id (c.pri - (1 : Int)) a.every [])
 (VX.mk (VM.mk id pri every pre src n f st pace wait) [] (0 : Nat))).m.n
 (vrTake s (Adv.mk a.id (c.pri - (1 : Int)) a.every [])
 (VX.mk (VM.mk id pri every pre src n f st pace wait) [] (0 : Nat))).m.f
 (vrTake s (Adv.mk a.id (c.pri - (1 : Int)) a.every [])
 (VX.mk (VM.mk id pri every pre src n f st pace wait) [] (0 : Nat))).m.st
 (vrTake s (Adv.mk a.id (c.pri - (1 : Int)) a.every [])
 (VX.mk (VM.mk id pri every pre src n f st pace wait) [] (0 : Nat))).m.pace
 (vrTake s (Adv.mk a.id (c.pri - (1 : Int)) a.every [])
 (VX.mk (VM.mk id pri every pre src n f st pace wait) [] (0 : Nat))).m.wait)
 (vrTake s (Adv.mk a.id (c.pri - (1 : Int)) a.every [])
 (VX.mk (VM.mk id pri every pre src n f st pace wait) [] (0 : Nat))).out
 (vrTake s (Adv.mk a.id (c.pri - (1 : Int)) a.every [])
 (VX.mk (VM.mk id pri every pre src n f st pace wait) [] (0 : Nat))).k)).m.st,
 AVal.int IntKind.i64
 (vrTick
 (VX.mk
 (VM.mk
 (vrTake s (Adv.mk a.id (c.pri - (1 : Int)) a.every [])
 (VX.mk (VM.mk id pri every pre src n f st pace wait) [] (0 : Nat))).m.id
 (vrTake s (Adv.mk a.id (c.pri - (1 : Int)) a.every [])
 (VX.mk (VM.mk id pri every pre src n f st pace wait) [] (0 : Nat))).m.pri
 (vrTake s (Adv.mk a.id (c.pri - (1 : Int)) a.every [])
 (VX.mk (VM.mk id pri every pre src n f st pace wait) [] (0 : Nat))).m.every
 (vrTake s (Adv.mk a.id (c.pri - (1 : Int)) a.every [])
 (VX.mk (VM.mk id pri every pre src n f st pace wait) [] (0 : Nat))).m.pre
 (vrTake s (Adv.mk a.id (c.pri - (1 : Int)) a.every [])
 (VX.mk (VM.mk id pri every pre src n f st pace wait) [] (0 : Nat))).m.src
 (vrTake s (Adv.mk a.id (c.pri - (1 : Int)) a.every [])
 (VX.mk (VM.mk id pri every pre src n f st pace wait) [] (0 : Nat))).m.n
 (vrTake s (Adv.mk a.id (c.pri - (1 : Int)) a.every [])
 (VX.mk (VM.mk id pri every pre src n f st pace wait) [] (0 : Nat))).m.f
 (vrTake s (Adv.mk a.id (c.pri - (1 : Int)) a.every [])
 (VX.mk (VM.mk id pri every pre src n f st pace wait) [] (0 : Nat))).m.st
 (vrTake s (Adv.mk a.id (c.pri - (1 : Int)) a.every [])
 (VX.mk (VM.mk id pri every pre src n f st pace wait) [] (0 : Nat))).m.pace
 (vrTake s (Adv.mk a.id (c.pri - (1 : Int)) a.every [])
 (VX.mk (VM.mk id pri every pre src n f st pace wait) [] (0 : Nat))).m.wait)
 (vrTake s (Adv.mk a.id (c.pri - (1 : Int)) a.every [])
 (VX.mk (VM.mk id pri every pre src n f st pace wait) [] (0 : Nat))).out
 (vrTake s (Adv.mk a.id (c.pri - (1 : Int)) a.every [])
 (VX.mk (VM.mk id pri every pre src n f st pace wait) [] (0 : Nat))).k)).m.pace,
 AVal.int IntKind.i64
 (vrTick
 (VX.mk
 (VM.mk
 (vrTake s (Adv.mk a.id (c.pri - (1 : Int)) a.every [])
 (VX.mk (VM.mk id pri every pre src n f st pace wait) [] (0 : Nat))).m.id
 (vrTake s (Adv.mk a.id (c.pri - (1 : Int)) a.every [])
 (VX.mk (VM.mk id pri every pre src n f st pace wait) [] (0 : Nat))).m.pri
 (vrTake s (Adv.mk a.id (c.pri - (1 : Int)) a.every [])
 (VX.mk (VM.mk id pri every pre src n f st pace wait) [] (0 : Nat))).m.every
 (vrTake s (Adv.mk a.id (c.pri - (1 : Int)) a.every [])
 (VX.mk (VM.mk id pri every pre src n f st pace wait) [] (0 : Nat))).m.pre
 (vrTake s (Adv.mk a.id (c.pri - (1 : Int)) a.every [])
 (VX.mk (VM.mk id pri every pre src n f st pace wait) [] (0 : Nat))).m.src
 (vrTake s (Adv.mk a.id (c.pri - (1 : Int)) a.every [])
 (VX.mk (VM.mk id pri every pre src n f st pace wait) [] (0 : Nat))).m.n
 (vrTake s (Adv.mk a.id (c.pri - (1 : Int)) a.every [])
 (VX.mk (VM.mk id pri every pre src n f st pace wait) [] (0 : Nat))).m.f
 (vrTake s (Adv.mk a.id (c.pri - (1 : Int)) a.every [])
 (VX.mk (VM.mk id pri every pre src n f st pace wait) [] (0 : Nat))).m.st
 (vrTake s (Adv.mk a.id (c.pri - (1 : Int)) a.every [])
 (VX.mk (VM.mk id pri every pre src n f st pace wait) [] (0 : Nat))).m.pace
 (vrTake s (Adv.mk a.id (c.pri - (1 : Int)) a.every [])
 (VX.mk (VM.mk id pri every pre src n f st pace wait) [] (0 : Nat))).m.wait)
 (vrTake s (Adv.mk a.id (c.pri - (1 : Int)) a.every [])
 (VX.mk (VM.mk id pri every pre src n f st pace wait) [] (0 : Nat))).out
 (vrTake s (Adv.mk a.id (c.pri - (1 : Int)) a.every [])
 (VX.mk (VM.mk id pri every pre src n f st pace wait) [] (0 : Nat))).k)).m.wait,
 AVal.sl (4 : Nat) (0 : Nat)
 (vrTick
 (VX.mk
 (VM.mk
 (vrTake s (Adv.mk a.id (c.pri - (1 : Int)) a.every [])
 (VX.mk (VM.mk id pri every pre src n f st pace wait) [] (0 : Nat))).m.id
 (vrTake s (Adv.mk a.id (c.pri - (1 : Int)) a.every [])
 (VX.mk (VM.mk id pri every pre src n f st pace wait) [] (0 : Nat))).m.pri
 (vrTake s (Adv.mk a.id (c.pri - (1 : Int)) a.every [])
 (VX.mk (VM.mk id pri every pre src n f st pace wait) [] (0 : Nat))).m.every
 (vrTake s (Adv.mk a.id (c.pri - (1 : Int)) a.every [])
 (VX.mk (VM.mk id pri every pre src n f st pace wait) [] (0 : Nat))).m.pre
 (vrTake s (Adv.mk a.id (c.pri - (1 : Int)) a.every [])
 (VX.mk (VM.mk id pri every pre src n f st pace wait) [] (0 : Nat))).m.src
 (vrTake s (Adv.mk a.id (c.pri - (1 : Int)) a.every [])
 (VX.mk (VM.mk id pri every pre src n f st pace wait) [] (0 : Nat))).m.n
 (vrTake s (Adv.mk a.id (c.pri - (1 : Int)) a.every [])
 (VX.mk (VM.mk id pri every pre src n f st pace wait) [] (0 : Nat))).m.f
 (vrTake s (Adv.mk a.id (c.pri - (1 : Int)) a.every [])
 (VX.mk (VM.mk id pri every pre src n f st pace wait) [] (0 : Nat))).m.st
 (vrTake s (Adv.mk a.id (c.pri - (1 : Int)) a.every [])
 (VX.mk (VM.mk id pri every pre src n f st pace wait) [] (0 : Nat))).m.pace
 (vrTake s (Adv.mk a.id (c.pri - (1 : Int)) a.every [])
 (VX.mk (VM.mk id pri every pre src n f st pace wait) [] (0 : Nat))).m.wait)
 (vrTake s (Adv.mk a.id (c.pri - (1 : Int)) a.every [])
 (VX.mk (VM.mk id pri every pre src n f st pace wait) [] (0 : Nat))).out
 (vrTake s (Adv.mk a.id (c.pri - (1 : Int)) a.every [])
 (VX.mk (VM.mk id pri every pre src n f st pace wait) [] (0 : Nat))).k)).k
 (5 : Nat)],
 ABlk.vals
 [AVal.int IntKind.i64 a.id, AVal.int IntKind.i64 (c.pri - (1 : Int)), AVal.int IntKind.i64 a.every,
 AVal.ro (List.length a.addrs) (1 : Nat) fun i => [AVal.str (List.getD a.addrs i [])]],
 ABlk.flat
 (vrTick
 (VX.mk
 (VM.mk
 (vrTake s (Adv.mk a.id (c.pri - (1 : Int)) a.every [])
 (VX.mk (VM.mk id pri every pre src n f st pace wait) [] (0 : Nat))).m.id
 (vrTake s (Adv.mk a.id (c.pri - (1 : Int)) a.every [])
 (VX.mk (VM.mk id pri every pre src n f st pace wait) [] (0 : Nat))).m.pri
 (vrTake s (Adv.mk a.id (c.pri - (1 : Int)) a.every [])
 (VX.mk (VM.mk id pri every pre src n f st pace wait) [] (0 : Nat))).m.every
 (vrTake s (Adv.mk a.id (c.pri - (1 : Int)) a.every [])
 (VX.mk (VM.mk id pri every pre src n f st pace wait) [] (0 : Nat))).m.pre
 (vrTake s (Adv.mk a.id (c.pri - (1 : Int)) a.every [])
 (VX.mk (VM.mk id pri every pre src n f st pace wait) [] (0 : Nat))).m.src
 (vrTake s (Adv.mk a.id (c.pri - (1 : Int)) a.every [])
 (VX.mk (VM.mk id pri every pre src n f st pace wait) [] (0 : Nat))).m.n
 (vrTake s (Adv.mk a.id (c.pri - (1 : Int)) a.every [])
 (VX.mk (VM.mk id pri every pre src n f st pace wait) [] (0 : Nat))).m.f
 (vrTake s (Adv.mk a.id (c.pri - (1 : Int)) a.every [])
 (VX.mk (VM.mk id pri every pre src n f st pace wait) [] (0 : Nat))).m.st
 (vrTake s (Adv.mk a.id (c.pri - (1 : Int)) a.every [])
 (VX.mk (VM.mk id pri every pre src n f st pace wait) [] (0 : Nat))).m.pace
 (vrTake s (Adv.mk a.id (c.pri - (1 : Int)) a.every [])
 (VX.mk (VM.mk id pri every pre src n f st pace wait) [] (0 : Nat))).m.wait)
 (vrTake s (Adv.mk a.id (c.pri - (1 : Int)) a.every [])
 (VX.mk (VM.mk id pri every pre src n f st pace wait) [] (0 : Nat))).out
 (vrTake s (Adv.mk a.id (c.pri - (1 : Int)) a.every [])
 (VX.mk (VM.mk id pri every pre src n f st pace wait) [] (0 : Nat))).k)).out]))
 (VBw (VX.mk (VM.mk id pri every pre src n f st pace wait) [] (0 : Nat)) ∧
 I64 (q + (1 : Int)) ∧
 J
 (St.mk
 [((1 : Nat), AVal.str s), ((3 : Nat), AVal.ptr (0 : Nat) (0 : Nat)), ((5 : Nat), AVal.ptr (1 : Nat) (0 : Nat)),
 ((7 : Nat), AVal.ptr (2 : Nat) (0 : Nat)), ((9 : Nat), AVal.int IntKind.i64 d),
 ((10 : Nat), AVal.ptr (3 : Nat) (0 : Nat)), ((11 : Nat), AVal.int IntKind.i64 (q + (1 : Int)))]
 [ABlk.vals
 [AVal.int IntKind.i64 c.id, AVal.int IntKind.i64 c.pri, AVal.int IntKind.i64 c.every, AVal.bool c.pre,
 AVal.str c.src, AVal.ro (List.length c.addrs) (1 : Nat) fun i => [AVal.str (List.getD c.addrs i [])]],
 ABlk.vals
 [AVal.int IntKind.i64 a.id, AVal.int IntKind.i64 a.pri, AVal.int IntKind.i64 a.every,
 AVal.ro (List.length a.addrs) (1 : Nat) fun i => [AVal.str (List.getD a.addrs i [])]],
 ABlk.vals
 [AVal.int IntKind.i64 (vrTick (VX.mk (VM.mk id pri every pre src n f st pace wait) [] (0 : Nat))).m.id,
 AVal.int IntKind.i64 (vrTick (VX.mk (VM.mk id pri every pre src n f st pace wait) [] (0 : Nat))).m.pri,
 AVal.int IntKind.i64 (vrTick (VX.mk (VM.mk id pri every pre src n f st pace wait) [] (0 : Nat))).m.every,
 AVal.bool (vrTick (VX.mk (VM.mk id pri every pre src n f st pace wait) [] (0 : Nat))).m.pre,
 AVal.str (vrTick (VX.mk (VM.mk id pri every pre src n f st pace wait) [] (0 : Nat))).m.src,
 AVal.ro (vrTick (VX.mk (VM.mk id pri every pre src n f st pace wait) [] (0 : Nat))).m.n (1 : Nat)
 (vrTick (VX.mk (VM.mk id pri every pre src n f st pace wait) [] (0 : Nat))).m.f,
 AVal.int IntKind.i64 (vrTick (VX.mk (VM.mk id pri every pre src n f st pace wait) [] (0 : Nat))).m.st,
 AVal.int IntKind.i64 (vrTick (VX.mk (VM.mk id pri every pre src n f st pace wait) [] (0 : Nat))).m.pace,
 AVal.int IntKind.i64 (vrTick (VX.mk (VM.mk id pri every pre src n f st pace wait) [] (0 : Nat))).m.wait,
 AVal.sl (4 : Nat) (0 : Nat) (vrTick (VX.mk (VM.mk id pri every pre src n f st pace wait) [] (0 : Nat))).k
 (5 : Nat)],
 ABlk.vals
 [AVal.int IntKind.i64 a.id, AVal.int IntKind.i64 (c.pri - (1 : Int)), AVal.int IntKind.i64 a.every,
 AVal.ro (List.length a.addrs) (1 : Nat) fun i => [AVal.str (List.getD a.addrs i [])]],
 ABlk.flat (vrTick (VX.mk (VM.mk id pri every pre src n f st pace wait) [] (0 : Nat))).out])))))
 (I64 ((3 : Int) * a.every) ∧
 I64 ((3 : Int) * a.every + vrSkew c.pri a.every) ∧
 brP (decide (d = (3 : Int) * a.every + vrSkew c.pri a.every)) (K (AVal.bool (decide (st = (3 : Int)))) [])
 (K (AVal.bool false) []))) := by kernel_rfl

theorem waits_take (s : List UInt8) (a : Adv) (p : Int) {x : VX} (hid : x.m.id = a.id) (hs : x.m.st = 2) (hp : p ≠ 0) (h : x.m.pre = true) (h2 : ¬ x.m.pri ≤ p) : vrTake s ⟨a.id, p, a.every, []⟩ x = x := by
  unfold vrTake
  rw [if_neg (by simp only; exact fun e => e hid.symm), if_pos hs, if_neg (by simp only; exact hp), if_neg (by simp only; rw [h]; simp only [Bool.true_eq_false, false_or]; exact h2)]
theorem waits_tick {x : VX} {d q : Int} {j : Nat} (hs : x.m.st = 2) (hw : x.m.wait = d - (q - 1)) (hj : q + (j + 1 : Nat) = d + 1) (ho : x.out = []) (hk : x.k = 0) :
    (j = 0 → (vrTick x).m.st = 3) ∧ (0 < j → (vrTick x).m.st = 2 ∧ (vrTick x).m.wait = d - (q + 1 - 1) ∧ (vrTick x).out = [] ∧ (vrTick x).k = 0) ∧ (vrTick x).m.pri = x.m.pri := by
  unfold vrTick
  rw [if_neg (by omega)]
  by_cases h : j = 0
  · rw [if_neg (by omega), if_pos hs]
    exact ⟨fun _ => rfl, fun h' => by omega, rfl⟩
  · rw [if_pos (by omega)]
    exact ⟨fun h' => absurd h' h, fun _ => ⟨hs, by show x.m.wait - 1 = _; omega, ho, hk⟩, rfl⟩
attribute [local irreducible] VrrpWaits_lp_n VrrpWaits_lp_b
theorem waits_all (c : Cfg) (s : List UInt8) (a : Adv) (d : Int) (hd : d = 3 * a.every + vrSkew c.pri a.every) (ha : 1 ≤ a.every ∧ a.every ≤ 400) (hc : 1 ≤ c.pri ∧ c.pri ≤ 255) : ∀ (j : Nat) (q : Int) (id pri every : Int) (pre : Bool) (src : List UInt8) (n : Nat) (f : Nat → List AVal) (st pace wait : Int) (k : Nat) (o : List AVal), 1 ≤ q → q + (j : Int) = d + 1 → VOk ⟨⟨id, pri, every, pre, src, n, f, st, pace, wait⟩, o, k⟩ → id = a.id → pri = c.pri → pre = c.pre → (j = 0 → st = 3) → (0 < j → st = 2 ∧ wait = d - (q - 1) ∧ o = [] ∧ k = 0) →
    VrrpWaits_lp_n (fun v _ => v = .bool true) (j + 1) (St.mk [(1, .str s), (3, .ptr 0 0), (5, .ptr 1 0), (7, .ptr 2 0), (9, .int .i64 d), (10, .ptr 3 0), (11, .int .i64 q)] [.vals [.int .i64 c.id, .int .i64 c.pri, .int .i64 c.every, .bool c.pre, .str c.src, .ro c.addrs.length 1 (fun i => [.str (c.addrs.getD i [])])], .vals [.int .i64 a.id, .int .i64 a.pri, .int .i64 a.every, .ro a.addrs.length 1 (fun i => [.str (a.addrs.getD i [])])], .vals [.int .i64 id, .int .i64 pri, .int .i64 every, .bool pre, .str src, .ro n 1 f, .int .i64 st, .int .i64 pace, .int .i64 wait, .sl 4 0 k 5], .vals [.int .i64 a.id, .int .i64 (c.pri - 1), .int .i64 a.every, .ro a.addrs.length 1 (fun i => [.str (a.addrs.getD i [])])], .flat o])
  | 0, q, id, pri, every, pre, src, n, f, st, pace, wait, k, o, h0, h, hok, hid, hpri, hpre, hs, _ => by
    refine VrrpWaits_lp_next ?_
    rw [VrrpWaits_lp_step]
    have hb := vrSkew_bd c.pri a.every
    refine brP_d (fun h' => by omega) (fun _ => ⟨by unfold I64; omega, by unfold I64; omega, brP_d (fun _ => ?_) (fun h => absurd hd h)⟩)
    rw [hs rfl]; rfl
  | j + 1, q, id, pri, every, pre, src, n, f, st, pace, wait, k, o, h0, h, hok, hid, hpri, hpre, _, hs => by
    obtain ⟨hs1, hs2, hs3, hs4⟩ := hs (by omega)
    subst hs3; subst hs4
    refine VrrpWaits_lp_next ?_
    rw [VrrpWaits_lp_step]
    have hb := vrSkew_bd c.pri a.every
    obtain ⟨t1, t2, t3⟩ := waits_tick (x := ⟨⟨id, pri, every, pre, src, n, f, st, pace, wait⟩, [], 0⟩) (j := j) hs1 hs2 h rfl rfl
    have tc := tick_cfg (x := ⟨⟨id, pri, every, pre, src, n, f, st, pace, wait⟩, [], 0⟩)
    have tv := vrTick_ok hok (by simp)
    have hv := hok.vb (by simp)
    have hw := hok.vbw (by simp)
    have nx := waits_all c s a d hd ha hc j (q + 1) _ _ _ _ _ _ _ _ _ _ _ _ (by omega) (by omega) tv (tc.id.trans hid) (t3.trans hpri) (tc.pre.trans hpre) t1 t2
    refine brP_d (fun _ => brP_nd (fun h => absurd hs1 h) (fun _ => brP_d (fun h => by omega) (fun _ => brP_i (fun hp => ?_) (fun _ => ⟨hw, by unfold I64; omega, nx⟩)))) (fun h' => by omega)
    rw [Bool.and_eq_true, decide_eq_true_eq] at hp
    rw [waits_take s a (c.pri - 1) hid hs1 (by omega) (hpre.trans hp.1) (by simp only; omega)]
    exact ⟨hv, hw, by unfold I64; omega, nx⟩
theorem waits_first (s : List UInt8) (a : Adv) (p : Int) {x : VX} (hid : x.m.id = a.id) (hs : x.m.st = 2) (hp : a.pri ≠ 0) (h2 : x.m.pri ≤ a.pri) : vrTake s ⟨a.id, a.pri, a.every, []⟩ x = vrFollow a.every x := by
  unfold vrTake
  rw [if_neg (by simp only; exact fun e => e hid.symm), if_pos hs, if_neg (by simp only; exact hp), if_pos (.inr h2)]
attribute [local irreducible] fnP in
theorem vrrpWaits.core (c : Cfg) (s : List UInt8) (a : Adv) (h_c : CfgOk c) (h_s : s.length ≤ 140737488351232) (h_a : AdvOk a) :
    fnP Try.prog Tlw ann_outriderlaw13_VrrpWaits Try.f5 [.agg (cfgCells c), .str s, .agg (advCells a)] [] (fun v _ => v = .bool true) := by
  rw [VrrpWaits_eq]
  obtain ⟨c1, c2, c3, c4, c5⟩ := h_c
  obtain ⟨a1, a2, a3, a4⟩ := h_a
  refine ⟨⟨isStrs_of _ _, by omega⟩, brP_i (fun hr => ?_) (fun _ => rfl)⟩
  rw [Bool.and_eq_true] at hr
  obtain ⟨hok, hp⟩ := new_ok c.pre (f := fun i => [AVal.str (c.addrs.getD i [])]) hr.1 (by simpa using hr.2)
  refine brP_i (fun _ => rfl) (fun hl => ?_)
  simp only [Bool.and_eq_true, Bool.or_eq_true, Bool.and_eq_false_iff, Bool.or_eq_false_iff, decide_eq_true_eq, decide_eq_false_iff_not, Bool.not_eq_true', Bool.not_eq_false', Bool.not_true, Bool.not_false, Bool.true_and, Bool.and_true, Bool.false_or, Bool.or_false, beq_iff_eq, beq_eq_false_iff_ne, ne_eq] at hl
  have e1 : vrStart ⟨⟨c.id, c.pri, c.every, c.pre, c.src, c.addrs.length, fun i => [AVal.str (c.addrs.getD i [])], 1, c.every, 0⟩, [], 0⟩ = vrFollow c.every ⟨⟨c.id, c.pri, c.every, c.pre, c.src, c.addrs.length, fun i => [AVal.str (c.addrs.getD i [])], 1, c.every, 0⟩, [], 0⟩ := by
    unfold vrStart
    rw [if_neg (by simp), if_neg hl.1.1.1.1]
  rw [e1]
  have hpr := hok.pri
  simp only at hpr
  have v2 := vrFollow_ok hok c.every
  have v3 := vrFollow_ok v2 a.every
  have hpa : vrPace a.every = a.every := vrPace_id ⟨by omega, by omega⟩
  have hD : 3 * vrPace a.every + vrSkew c.pri (vrPace a.every) = 3 * a.every + vrSkew c.pri a.every := by rw [hpa]
  have hb := vrSkew_bd c.pri a.every
  rw [waits_first s a 0 ?_ ?_ ?_ ?_]
  · refine ⟨hok.vb (by simp), v2.vb (by show 0 + 2 ≤ 1000000000000; omega), ?_, ?_, by unfold I64; omega, _, waits_all c s a (3 * vrPace a.every + vrSkew c.pri (vrPace a.every)) hD ⟨by omega, by omega⟩ hpr (3 * vrPace a.every + vrSkew c.pri (vrPace a.every)).toNat 1 _ _ _ _ _ _ _ _ _ _ _ _ (by omega) (by omega) v3 hl.1.1.2.symm rfl rfl (fun h => by omega) (fun _ => ⟨rfl, ?_, rfl, rfl⟩)⟩
    · show I64 (3 * vrPace a.every); unfold I64; omega
    · show I64 (3 * vrPace a.every + vrSkew c.pri (vrPace a.every)); unfold I64; omega
    · show 3 * vrPace a.every + vrSkew c.pri (vrPace a.every) = _; omega
  · exact hl.1.1.2.symm
  · rfl
  · omega
  · show c.pri ≤ a.pri; omega
end Go.Proofs.Ytldfkjjjjfbbmaa.Ae
namespace Go.Proofs.Ytldfkjjjjfbbmaa
open Go Go.RowKit Ae
attribute [local irreducible] fnP in
set_option maxRecDepth 100000 in
theorem vrrpWaits.walk {H : Type} {enc : TypeId × Value → H} (W : World) (args : Array Value) (hn : args.size = 3)
    (h : ∀ (j : Nat) t v, Try.f5.params[j]? = some t → args[j]? = some v → RdV enc false Try.prog W t v) :
    Calls Try.prog 5 args W fun e w' => e = .returned (.bool true) ∧ Below W.heap.size W w' := by
  obtain ⟨v0, v1, v2, rfl⟩ := args3 hn
  obtain ⟨c, h_c, hv0⟩ := arg_struct (b := false) (.inl ⟨_, Try.underlying28⟩) open_cfg (h 0 28 v0 rfl rfl)
  obtain ⟨s, h_s, hv1⟩ := arg_str (b := false) (m := Mp.nil) (G := []) Try.underlying25 (h 1 25 v1 rfl rfl)
  obtain ⟨a, h_a, hv2⟩ := arg_struct (b := false) (.inl ⟨_, Try.underlying42⟩) open_adv (h 2 42 v2 rfl rfl)
  obtain ⟨r, H1, hr, hG⟩ := fn_sound Tlw_sound mixed Try.func5 (by decide +kernel) (vrrpWaits.core c s a h_c (len_lim h_s) h_a)
  subst hr
  exact law_walk hG (vl_cons hv0 (vl_cons hv1 (vl_cons hv2 vl_nil)))

namespace vrrpWaits
theorem spec {H : Type} (ds : List (DataW H)) (h : ds.length = Try.f5.params.size) : Rows.vrrpWaitsSpec.fn H ds = { results := [.lit (.bool true)], args := ds } := by
  have h' : ds.length = 3 := h
  match ds, h' with
  | [_, _, _], _ => rfl

set_option maxRecDepth 100000 in
theorem lifted (os : Os) (started : os.Started) (H : Type) (enc : TypeId × Value → H) :
    ReturnsInHanded {} Try.checked os 5 .any (Rows.vrrpWaitsSpec.pre6 enc Try.prog Try.f5 Rows.vrrpWaitsRow.domain false) (Rows.vrrpWaitsSpec.post enc Try.prog Try.f5 false true false false) :=
  lifted_said (C := Try.checked) (tb := 4) own started (by kernel_rfl) Try.func5
    (ChangeSpec.witness6 (enc := enc) (C := Try.checked) false ⟨#[], #[.agg #[.int .i64 0, .int .i64 0, .int .i64 0, .bool false, .string .empty, .slice none 0 0], .string .empty, .agg #[.int .i64 0, .int .i64 0, .int .i64 0, .slice none 0 0]], []⟩ 8 (by kernel_rfl) (by kernel_rfl) (by kernel_rfl) (by kernel_rfl))
    rfl spec rfl Try.underlying4 laidOut (by kernel_rfl) walk

theorem over : Rows.vrrpWaitsRow.holds Try.pinned (OpenSpec.ofChange Rows.vrrpWaitsSpec) :=
  OpenClaim.holds_of_wide 5 Try.f5 rfl rfl rfl rfl rfl rfl rfl ⟨rfl, rfl, rfl, rfl, rfl⟩ rfl rfl rfl rfl rfl (by kernel_rfl) Try.func5 (by kernel_rfl)
    (of_decide_eq_true (by kernel_rfl)) (by unfold Func.isWrapper; first | (rw [if_pos (by decide +kernel)]; kernel_rfl) | (rw [if_neg (by decide +kernel)]; exact ⟨rfl, rfl⟩))
    (fun os started H enc _ => lifted os started H enc)

theorem proved : Rows.VrrpWaitsSaid := over
#print axioms proved
end vrrpWaits

end Go.Proofs.Ytldfkjjjjfbbmaa

