/- VrrpStopped: what is stopped does nothing, whatever it is told, till it is started. No conditions. -/
import Derived.Test.YtldfkjjjjfbbmaaAr13
set_option linter.unusedSimpArgs false
set_option linter.unusedVariables false
set_option maxRecDepth 100000
namespace Go.Proofs.Ytldfkjjjjfbbmaa.Ae
open Go Go.RowKit
def ann_outriderlaw13_VrrpStopped : Nat → List Nat × Nat × List (List Nat)
  | 8 => ([5, 32, 33, 34], 0, [])
  | 2000002 => ([], 12, [[], [0], [0, 1], [0, 1, 2], [0, 1, 2, 3], [0, 1, 2, 3, 4], [0, 1, 2, 3, 4, 5], [0, 1, 2, 3, 4, 5, 6], [0, 1, 2, 3, 4, 5, 6, 7], [0, 1, 2, 3, 4, 5, 6, 7, 8], [0, 1, 2, 3, 4, 5, 6, 7, 8, 9]])
  | _ => ([], 0, [])
noncomputable abbrev VrrpStopped_lp_X : Cx := ⟨Try.prog, Tlw, Try.f8.ntmps, 0, ann_outriderlaw13_VrrpStopped⟩
noncomputable def VrrpStopped_lp_c : Code := cAt [.r, .r, .r, .r, .r, .r, .l, .r, .b] (bodyOf Try.f8)
noncomputable def VrrpStopped_lp_k (K : AVal → Hp → Prop) : Post := kAt VrrpStopped_lp_X [.r, .r, .r, .r, .r, .r, .l, .r, .b] (bodyOf Try.f8) (fnK Try.prog 0 Try.f8.results.toList K)
def VrrpStopped_lp_n (K : AVal → Hp → Prop) (n : Nat) (s : St) : Prop := loopP (awp VrrpStopped_lp_X (loopB VrrpStopped_lp_c)) 0 [5, 32, 33, 34] n s (VrrpStopped_lp_k K)
def VrrpStopped_lp (K : AVal → Hp → Prop) (s : St) : Prop := ∃ n, VrrpStopped_lp_n K n s
def VrrpStopped_lp_b (K : AVal → Hp → Prop) (J : St → Prop) (s : St) : Prop := awp VrrpStopped_lp_X (loopB VrrpStopped_lp_c) s (seqK (fun s' => normK 0 [5, 32, 33, 34] s' J) (VrrpStopped_lp_k K))
theorem VrrpStopped_lp_next {K : AVal → Hp → Prop} {n : Nat} {s : St} (h : VrrpStopped_lp_b K (fun s' => VrrpStopped_lp_n K n s') s) : VrrpStopped_lp_n K (n + 1) s := h
set_option maxRecDepth 100000 in
theorem VrrpStopped_eq (c : Cfg) (sc : List OpV) (K : AVal → Hp → Prop) : fnP Try.prog Tlw ann_outriderlaw13_VrrpStopped Try.f8 [.agg (cfgCells c), scV sc] [] K = (
 ((IsStrs (List.length c.addrs) fun i => [AVal.str (List.getD c.addrs i [])]) ∧
 List.length c.addrs ≤ (8796093022000 : Nat)) ∧
 brP
 (adRight (Adv.mk c.id c.pri c.every (strs (List.length c.addrs) fun i => [AVal.str (List.getD c.addrs i [])]))
 c.src &&
 !decide (c.pri = (0 : Int)))
 (brP (decide ((300 : Int) < (↑(List.length sc) : Int))) (K (AVal.bool true) [])
 (VB
 (VX.mk
 (VM.mk c.id c.pri c.every c.pre c.src (List.length c.addrs) (fun i => [AVal.str (List.getD c.addrs i [])])
 (1 : Int) c.every (0 : Int))
 [] (0 : Nat)) ∧
 VB
 (VX.mk
 (VM.mk
 (vrStart
 (VX.mk
 (VM.mk c.id c.pri c.every c.pre c.src (List.length c.addrs) (fun i => [AVal.str (List.getD c.addrs i [])])
 (1 : Int) c.every (0 : Int))
 [] (0 : Nat))).m.id
 (vrStart
 (VX.mk
 (VM.mk c.id c.pri c.every c.pre c.src (List.length c.addrs) (fun i => [AVal.str (List.getD c.addrs i [])])
 (1 : Int) c.every (0 : Int))
 [] (0 : Nat))).m.pri
 (vrStart
 (VX.mk
 (VM.mk c.id c.pri c.every c.pre c.src (List.length c.addrs) (fun i => [AVal.str (List.getD c.addrs i [])])
 (1 : Int) c.every (0 : Int))
 [] (0 : Nat))).m.every
 (vrStart
 (VX.mk
 (VM.mk c.id c.pri c.every c.pre c.src (List.length c.addrs) (fun i => [AVal.str (List.getD c.addrs i [])])
 (1 : Int) c.every (0 : Int))
 [] (0 : Nat))).m.pre
 (vrStart
 (VX.mk
 (VM.mk c.id c.pri c.every c.pre c.src (List.length c.addrs) (fun i => [AVal.str (List.getD c.addrs i [])])
 (1 : Int) c.every (0 : Int))
 [] (0 : Nat))).m.src
 (vrStart
 (VX.mk
 (VM.mk c.id c.pri c.every c.pre c.src (List.length c.addrs) (fun i => [AVal.str (List.getD c.addrs i [])])
 (1 : Int) c.every (0 : Int))
 [] (0 : Nat))).m.n
 (vrStart
 (VX.mk
 (VM.mk c.id c.pri c.every c.pre c.src (List.length c.addrs) (fun i => [AVal.str (List.getD c.addrs i [])])
 (1 : Int) c.every (0 : Int))
 [] (0 : Nat))).m.f
 (vrStart
 (VX.mk
 (VM.mk c.id c.pri c.every c.pre c.src (List.length c.addrs) (fun i => [AVal.str (List.getD c.addrs i [])])
 (1 : Int) c.every (0 : Int))
 [] (0 : Nat))).m.st
 (vrStart
 (VX.mk
 (VM.mk c.id c.pri c.every c.pre c.src (List.length c.addrs) (fun i => [AVal.str (List.getD c.addrs i [])])
 (1 : Int) c.every (0 : Int))
 [] (0 : Nat))).m.pace
 (vrStart
 (VX.mk
 (VM.mk c.id c.pri c.every c.pre c.src (List.length c.addrs) (fun i => [AVal.str (List.getD c.addrs i [])])
 (1 : Int) c.every (0 : Int))
 [] (0 : Nat))).m.wait)
 (vrStart
 (VX.mk
 (VM.mk c.id c.pri c.every c.pre c.src (List.length c.addrs) (fun i => [AVal.str (List.getD c.addrs i [])])
 (1 : Int) c.every (0 : Int))
 [] (0 : Nat))).out
 (vrStart
 (VX.mk
 (VM.mk c.id c.pri c.every c.pre c.src (List.length c.addrs) (fun i => [AVal.str (List.getD c.addrs i [])])
 (1 : Int) c.every (0 : Int))
 [] (0 : Nat))).k) ∧
 VrrpStopped_lp K
 (St.mk
 [((5 : Nat), AVal.ptr (0 : Nat) (0 : Nat)),
 ((32 : Nat),
 AVal.ro (List.length sc) (7 : Nat) fun i =>
 [AVal.int IntKind.i64 (List.getD sc i opNone).kd, AVal.int IntKind.i64 (List.getD sc i opNone).q,
 AVal.str (List.getD sc i opNone).src, AVal.int IntKind.i64 (List.getD sc i opNone).id,
 AVal.int IntKind.i64 (List.getD sc i opNone).pri, AVal.int IntKind.i64 (List.getD sc i opNone).every,
 AVal.ro (List.length (List.getD sc i opNone).addrs) (1 : Nat) fun i_1 =>
 [AVal.str (List.getD (List.getD sc i opNone).addrs i_1 [])]]),
 ((33 : Nat), AVal.int IntKind.i64 (↑(List.length sc) : Int)), ((34 : Nat), AVal.int IntKind.i64 (0 : Int))]
 [ABlk.vals
 [AVal.int IntKind.i64
 (vrStop
 (VX.mk
 (VM.mk
 (vrStart
 (VX.mk
 (VM.mk c.id c.pri c.every c.pre c.src (List.length c.addrs)
 (fun i => [AVal.str (List.getD c.addrs i [])]) (1 : Int) c.every (0 : Int))
 [] (0 : Nat))).m.id
 (vrStart
 (VX.mk
 (VM.mk c.id c.pri c.every c.pre c.src (List.length c.addrs)
 (fun i => [AVal.str (List.getD c.addrs i [])]) (1 : Int) c.every (0 : Int))
 [] (0 : Nat))).m.pri
 (vrStart
 (VX.mk
 (VM.mk c.id c.pri c.every c.pre c.src (List.length c.addrs)
 (fun i => [AVal.str (List.getD c.addrs i [])]) (1 : Int) c.every (0 : Int))
 [] (0 : Nat))).m.every
 (vrStart
 (VX.mk
 (VM.mk c.id c.pri c.every c.pre c.src (List.length c.addrs)
 (fun i => [AVal.str (List.getD c.addrs i [])]) (1 : Int) c.every (0 : Int))
 [] (0 : Nat))).m.pre
 (vrStart
 (VX.mk
 (VM.mk c.id c.pri c.every c.pre c.src (List.length c.addrs)
 (fun i => [AVal.str (List.getD c.addrs i [])]) (1 : Int) c.every (0 : Int))
 [] (0 : Nat))).m.src
 (vrStart
 (VX.mk
 (VM.mk c.id c.pri c.every c.pre c.src (List.length c.addrs)
 (fun i => [AVal.str (List.getD c.addrs i [])]) (1 : Int) c.every (0 : Int))
 [] (0 : Nat))).m.n
 (vrStart
 (VX.mk
 (VM.mk c.id c.pri c.every c.pre c.src (List.length c.addrs)
 (fun i => [AVal.str (List.getD c.addrs i [])]) (1 : Int) c.every (0 : Int))
 [] (0 : Nat))).m.f
 (vrStart
 (VX.mk
 (VM.mk c.id c.pri c.every c.pre c.src (List.length c.addrs)
 (fun i => [AVal.str (List.getD c.addrs i [])]) (1 : Int) c.every (0 : Int))
 [] (0 : Nat))).m.st
 (vrStart
 (VX.mk
 (VM.mk c.id c.pri c.every c.pre c.src (List.length c.addrs)
 (fun i => [AVal.str (List.getD c.addrs i [])]) (1 : Int) c.every (0 : Int))
 [] (0 : Nat))).m.pace
 (vrStart
 (VX.mk
 (VM.mk c.id c.pri c.every c.pre c.src (List.length c.addrs)
 (fun i => [AVal.str (List.getD c.addrs i [])]) (1 : Int) c.every (0 : Int))
 [] (0 : Nat))).m.wait)
 (vrStart
 (VX.mk
 (VM.mk c.id c.pri c.every c.pre c.src (List.length c.addrs)
 (fun i => [AVal.str (List.getD c.addrs i [])]) (1 : Int) c.every (0 : Int))
 [] (0 : Nat))).out
 (vrStart
 (VX.mk
 (VM.mk c.id c.pri c.every c.pre c.src (List.length c.addrs)
 (fun i => [AVal.str (List.getD c.addrs i [])]) (1 : Int) c.every (0 : Int))
 [] (0 : Nat))).k)).m.id,
 AVal.int IntKind.i64
 (vrStop
 (VX.mk
 (VM.mk
 (vrStart
 (VX.mk
 (VM.mk c.id c.pri c.every c.pre c.src (List.length c.addrs)
 (fun i => [AVal.str (List.getD c.addrs i [])]) (1 : Int) c.every (0 : Int))
 [] (0 : Nat))).m.id
 (vrStart
 (VX.mk
 (VM.mk c.id c.pri c.every c.pre c.src (List.length c.addrs)
 (fun i => [AVal.str (List.getD c.addrs i [])]) (1 : Int) c.every (0 : Int))
 [] (0 : Nat))).m.pri
 (vrStart
 (VX.mk
 (VM.mk c.id c.pri c.every c.pre c.src (List.length c.addrs)
 (fun i => [AVal.str (List.getD c.addrs i [])]) (1 : Int) c.every (0 : Int))
 [] (0 : Nat))).m.every
 (vrStart
 (VX.mk
 (VM.mk c.id c.pri c.every c.pre c.src (List.length c.addrs)
 (fun i => [AVal.str (List.getD c.addrs i [])]) (1 : Int) c.every (0 : Int))
 [] (0 : Nat))).m.pre
 (vrStart
 (VX.mk
 (VM.mk c.id c.pri c.every c.pre c.src (List.length c.addrs)
 (fun i => [AVal.str (List.getD c.addrs i [])]) (1 : Int) c.every (0 : Int))
 [] (0 : Nat))).m.src
 (vrStart
 (VX.mk
 (VM.mk c.id c.pri c.every c.pre c.src (List.length c.addrs)
 (fun i => [AVal.str (List.getD c.addrs i [])]) (1 : Int) c.every (0 : Int))
 [] (0 : Nat))).m.n
 (vrStart
 (VX.mk
 (VM.mk c.id c.pri c.every c.pre c.src (List.length c.addrs)
 (fun i => [AVal.str (List.getD c.addrs i [])]) (1 : Int) c.every (0 : Int))
 [] (0 : Nat))).m.f
 (vrStart
 (VX.mk
 (VM.mk c.id c.pri c.every c.pre c.src (List.length c.addrs)
 (fun i => [AVal.str (List.getD c.addrs i [])]) (1 : Int) c.every (0 : Int))
 [] (0 : Nat))).m.st
 (vrStart
 (VX.mk
 (VM.mk c.id c.pri c.every c.pre c.src (List.length c.addrs)
 (fun i => [AVal.str (List.getD c.addrs i [])]) (1 : Int) c.every (0 : Int))
 [] (0 : Nat))).m.pace
 (vrStart
 (VX.mk
 (VM.mk c.id c.pri c.every c.pre c.src (List.length c.addrs)
 (fun i => [AVal.str (List.getD c.addrs i [])]) (1 : Int) c.every (0 : Int))
 [] (0 : Nat))).m.wait)
 (vrStart
 (VX.mk
 (VM.mk c.id c.pri c.every c.pre c.src (List.length c.addrs)
 (fun i => [AVal.str (List.getD c.addrs i [])]) (1 : Int) c.every (0 : Int))
 [] (0 : Nat))).out
 (vrStart
 (VX.mk
 (VM.mk c.id c.pri c.every c.pre c.src (List.length c.addrs)
 (fun i => [AVal.str (List.getD c.addrs i [])]) (1 : Int) c.every (0 : Int))
 [] (0 : Nat))).k)).m.pri,
 AVal.int IntKind.i64
 (vrStop
 (VX.mk
 (VM.mk
 (vrStart
 (VX.mk
 (VM.mk c.id c.pri c.every c.pre c.src (List.length c.addrs)
 (fun i => [AVal.str (List.getD c.addrs i [])]) (1 : Int) c.every (0 : Int))
 [] (0 : Nat))).m.id
 (vrStart
 (VX.mk
 (VM.mk c.id c.pri c.every c.pre c.src (List.length c.addrs)
 (fun i => [AVal.str (List.getD c.addrs i [])]) (1 : Int) c.every (0 : Int))
 [] (0 : Nat))).m.pri
 (vrStart
 (VX.mk
 (VM.mk c.id c.pri c.every c.pre c.src (List.length c.addrs)
 (fun i => [AVal.str (List.getD c.addrs i [])]) (1 : Int) c.every (0 : Int))
 [] (0 : Nat))).m.every
 (vrStart
 (VX.mk
 (VM.mk c.id c.pri c.every c.pre c.src (List.length c.addrs)
 (fun i => [AVal.str (List.getD c.addrs i [])]) (1 : Int) c.every (0 : Int))
 [] (0 : Nat))).m.pre
 (vrStart
 (VX.mk
 (VM.mk c.id c.pri c.every c.pre c.src (List.length c.addrs)
 (fun i => [AVal.str (List.getD c.addrs i [])]) (1 : Int) c.every (0 : Int))
 [] (0 : Nat))).m.src
 (vrStart
 (VX.mk
 (VM.mk c.id c.pri c.every c.pre c.src (List.length c.addrs)
 (fun i => [AVal.str (List.getD c.addrs i [])]) (1 : Int) c.every (0 : Int))
 [] (0 : Nat))).m.n
 (vrStart
 (VX.mk
 (VM.mk c.id c.pri c.every c.pre c.src (List.length c.addrs)
 (fun i => [AVal.str (List.getD c.addrs i [])]) (1 : Int) c.every (0 : Int))
 [] (0 : Nat))).m.f
 (vrStart
 (VX.mk
 (VM.mk c.id c.pri c.every c.pre c.src (List.length c.addrs)
 (fun i => [AVal.str (List.getD c.addrs i [])]) (1 : Int) c.every (0 : Int))
 [] (0 : Nat))).m.st
 (vrStart
 (VX.mk
 (VM.mk c.id c.pri c.every c.pre c.src (List.length c.addrs)
 (fun i => [AVal.str (List.getD c.addrs i [])]) (1 : Int) c.every (0 : Int))
 [] (0 : Nat))).m.pace
 (vrStart
 (VX.mk
 (VM.mk c.id c.pri c.every c.pre c.src (List.length c.addrs)
 (fun i => [AVal.str (List.getD c.addrs i [])]) (1 : Int) c.every (0 : Int))
 [] (0 : Nat))).m.wait)
 (vrStart
 (VX.mk
 (VM.mk c.id c.pri c.every c.pre c.src (List.length c.addrs)
 (fun i => [AVal.str (List.getD c.addrs i [])]) (1 : Int) c.every (0 : Int))
 [] (0 : Nat))).out
 (vrStart
 (VX.mk
 (VM.mk c.id c.pri c.every c.pre c.src (List.length c.addrs)
 (fun i => [AVal.str (List.getD c.addrs i [])]) (1 : Int) c.every (0 : Int))
 [] (0 : Nat))).k)).m.every,
 AVal.bool
 (vrStop
 (VX.mk
 (VM.mk
 (vrStart
 (VX.mk
 (VM.mk c.id c.pri c.every c.pre c.src (List.length c.addrs)
 (fun i => [AVal.str (List.getD c.addrs i [])]) (1 : Int) c.every (0 : Int))
 [] (0 : Nat))).m.id
 (vrStart
 (VX.mk
 (VM.mk c.id c.pri c.every c.pre c.src (List.length c.addrs)
 (fun i => [AVal.str (List.getD c.addrs i [])]) (1 : Int) c.every (0 : Int))
 [] (0 : Nat))).m.pri
 (vrStart
 (VX.mk
 (VM.mk c.id c.pri c.every c.pre c.src (List.length c.addrs)
 (fun i => [AVal.str (List.getD c.addrs i [])]) (1 : Int) c.every (0 : Int))
 [] (0 : Nat))).m.every
 (vrStart
 (VX.mk
 (VM.mk c.id c.pri c.every c.pre c.src (List.length c.addrs)
 (fun i => [AVal.str (List.getD c.addrs i [])]) (1 : Int) c.every (0 : Int))
 [] (0 : Nat))).m.pre
 (vrStart
 (VX.mk
 (VM.mk c.id c.pri c.every c.pre c.src (List.length c.addrs)
 (fun i => [AVal.str (List.getD c.addrs i [])]) (1 : Int) c.every (0 : Int))
 [] (0 : Nat))).m.src
 (vrStart
 (VX.mk
 (VM.mk c.id c.pri c.every c.pre c.src (List.length c.addrs)
 (fun i => [AVal.str (List.getD c.addrs i [])]) (1 : Int) c.every (0 : Int))
 [] (0 : Nat))).m.n
 (vrStart
 (VX.mk
 (VM.mk c.id c.pri c.every c.pre c.src (List.length c.addrs)
 (fun i => [AVal.str (List.getD c.addrs i [])]) (1 : Int) c.every (0 : Int))
 [] (0 : Nat))).m.f
 (vrStart
 (VX.mk
 (VM.mk c.id c.pri c.every c.pre c.src (List.length c.addrs)
 (fun i => [AVal.str (List.getD c.addrs i [])]) (1 : Int) c.every (0 : Int))
 [] (0 : Nat))).m.st
 (vrStart
 (VX.mk
 (VM.mk c.id c.pri c.every c.pre c.src (List.length c.addrs)
 (fun i => [AVal.str (List.getD c.addrs i [])]) (1 : Int) c.every (0 : Int))
 [] (0 : Nat))).m.pace
 (vrStart
 (VX.mk
 (VM.mk c.id c.pri c.every c.pre c.src (List.length c.addrs)
 (fun i => [AVal.str (List.getD c.addrs i [])]) (1 : Int) c.every (0 : Int))
 [] (0 : Nat))).m.wait)
 (vrStart
 (VX.mk
 (VM.mk c.id c.pri c.every c.pre c.src (List.length c.addrs)
 (fun i => [AVal.str (List.getD c.addrs i [])]) (1 : Int) c.every (0 : Int))
 [] (0 : Nat))).out
 (vrStart
 (VX.mk
 (VM.mk c.id c.pri c.every c.pre c.src (List.length c.addrs)
 (fun i => [AVal.str (List.getD c.addrs i [])]) (1 : Int) c.every (0 : Int))
 [] (0 : Nat))).k)).m.pre,
 AVal.str
 (vrStop
 (VX.mk
 (VM.mk
 (vrStart
 (VX.mk
 (VM.mk c.id c.pri c.every c.pre c.src (List.length c.addrs)
 (fun i => [AVal.str (List.getD c.addrs i [])]) (1 : Int) c.every (0 : Int))
 [] (0 : Nat))).m.id
 (vrStart
 (VX.mk
 (VM.mk c.id c.pri c.every c.pre c.src (List.length c.addrs)
 (fun i => [AVal.str (List.getD c.addrs i [])]) (1 : Int) c.every (0 : Int))
 [] (0 : Nat))).m.pri
 (vrStart
 (VX.mk
 (VM.mk c.id c.pri c.every c.pre c.src (List.length c.addrs)
 (fun i => [AVal.str (List.getD c.addrs i [])]) (1 : Int) c.every (0 : Int))
 [] (0 : Nat))).m.every
 (vrStart
 (VX.mk
 (VM.mk c.id c.pri c.every c.pre c.src (List.length c.addrs)
 (fun i => [AVal.str (List.getD c.addrs i [])]) (1 : Int) c.every (0 : Int))
 [] (0 : Nat))).m.pre
 (vrStart
 (VX.mk
 (VM.mk c.id c.pri c.every c.pre c.src (List.length c.addrs)
 (fun i => [AVal.str (List.getD c.addrs i [])]) (1 : Int) c.every (0 : Int))
 [] (0 : Nat))).m.src
 (vrStart
 (VX.mk
 (VM.mk c.id c.pri c.every c.pre c.src (List.length c.addrs)
 (fun i => [AVal.str (List.getD c.addrs i [])]) (1 : Int) c.every (0 : Int))
 [] (0 : Nat))).m.n
 (vrStart
 (VX.mk
 (VM.mk c.id c.pri c.every c.pre c.src (List.length c.addrs)
 (fun i => [AVal.str (List.getD c.addrs i [])]) (1 : Int) c.every (0 : Int))
 [] (0 : Nat))).m.f
 (vrStart
 (VX.mk
 (VM.mk c.id c.pri c.every c.pre c.src (List.length c.addrs)
 (fun i => [AVal.str (List.getD c.addrs i [])]) (1 : Int) c.every (0 : Int))
 [] (0 : Nat))).m.st
 (vrStart
 (VX.mk
 (VM.mk c.id c.pri c.every c.pre c.src (List.length c.addrs)
 (fun i => [AVal.str (List.getD c.addrs i [])]) (1 : Int) c.every (0 : Int))
 [] (0 : Nat))).m.pace
 (vrStart
 (VX.mk
 (VM.mk c.id c.pri c.every c.pre c.src (List.length c.addrs)
 (fun i => [AVal.str (List.getD c.addrs i [])]) (1 : Int) c.every (0 : Int))
 [] (0 : Nat))).m.wait)
 (vrStart
 (VX.mk
 (VM.mk c.id c.pri c.every c.pre c.src (List.length c.addrs)
 (fun i => [AVal.str (List.getD c.addrs i [])]) (1 : Int) c.every (0 : Int))
 [] (0 : Nat))).out
 (vrStart
 (VX.mk
 (VM.mk c.id c.pri c.every c.pre c.src (List.length c.addrs)
 (fun i => [AVal.str (List.getD c.addrs i [])]) (1 : Int) c.every (0 : Int))
 [] (0 : Nat))).k)).m.src,
 AVal.ro
 (vrStop
 (VX.mk
 (VM.mk
 (vrStart
 (VX.mk
 (VM.mk c.id c.pri c.every c.pre c.src (List.length c.addrs)
 (fun i => [AVal.str (List.getD c.addrs i [])]) (1 : Int) c.every (0 : Int))
 [] (0 : Nat))).m.id
 (vrStart
 (VX.mk
 (VM.mk c.id c.pri c.every c.pre c.src (List.length c.addrs)
 (fun i => [AVal.str (List.getD c.addrs i [])]) (1 : Int) c.every (0 : Int))
 [] (0 : Nat))).m.pri
 (vrStart
 (VX.mk
 (VM.mk c.id c.pri c.every c.pre c.src (List.length c.addrs)
 (fun i => [AVal.str (List.getD c.addrs i [])]) (1 : Int) c.every (0 : Int))
 [] (0 : Nat))).m.every
 (vrStart
 (VX.mk
 (VM.mk c.id c.pri c.every c.pre c.src (List.length c.addrs)
 (fun i => [AVal.str (List.getD c.addrs i [])]) (1 : Int) c.every (0 : Int))
 [] (0 : Nat))).m.pre
 (vrStart
 (VX.mk
 (VM.mk c.id c.pri c.every c.pre c.src (List.length c.addrs)
 (fun i => [AVal.str (List.getD c.addrs i [])]) (1 : Int) c.every (0 : Int))
 [] (0 : Nat))).m.src
 (vrStart
 (VX.mk
 (VM.mk c.id c.pri c.every c.pre c.src (List.length c.addrs)
 (fun i => [AVal.str (List.getD c.addrs i [])]) (1 : Int) c.every (0 : Int))
 [] (0 : Nat))).m.n
 (vrStart
 (VX.mk
 (VM.mk c.id c.pri c.every c.pre c.src (List.length c.addrs)
 (fun i => [AVal.str (List.getD c.addrs i [])]) (1 : Int) c.every (0 : Int))
 [] (0 : Nat))).m.f
 (vrStart
 (VX.mk
 (VM.mk c.id c.pri c.every c.pre c.src (List.length c.addrs)
 (fun i => [AVal.str (List.getD c.addrs i [])]) (1 : Int) c.every (0 : Int))
 [] (0 : Nat))).m.st
 (vrStart
 (VX.mk
 (VM.mk c.id c.pri c.every c.pre c.src (List.length c.addrs)
 (fun i => [AVal.str (List.getD c.addrs i [])]) (1 : Int) c.every (0 : Int))
 [] (0 : Nat))).m.pace
 (vrStart
 (VX.mk
 (VM.mk c.id c.pri c.every c.pre c.src (List.length c.addrs)
 (fun i => [AVal.str (List.getD c.addrs i [])]) (1 : Int) c.every (0 : Int))
 [] (0 : Nat))).m.wait)
 (vrStart
 (VX.mk
 (VM.mk c.id c.pri c.every c.pre c.src (List.length c.addrs)
 (fun i => [AVal.str (List.getD c.addrs i [])]) (1 : Int) c.every (0 : Int))
 [] (0 : Nat))).out
 (vrStart
 (VX.mk
 (VM.mk c.id c.pri c.every c.pre c.src (List.length c.addrs)
 (fun i => [AVal.str (List.getD c.addrs i [])]) (1 : Int) c.every (0 : Int))
 [] (0 : Nat))).k)).m.n
 (1 : Nat)
 (vrStop
 (VX.mk
 (VM.mk
 (vrStart
 (VX.mk
 (VM.mk c.id c.pri c.every c.pre c.src (List.length c.addrs)
 (fun i => [AVal.str (List.getD c.addrs i [])]) (1 : Int) c.every (0 : Int))
 [] (0 : Nat))).m.id
 (vrStart
 (VX.mk
 (VM.mk c.id c.pri c.every c.pre c.src (List.length c.addrs)
 (fun i => [AVal.str (List.getD c.addrs i [])]) (1 : Int) c.every (0 : Int))
 [] (0 : Nat))).m.pri
 (vrStart
 (VX.mk
 (VM.mk c.id c.pri c.every c.pre c.src (List.length c.addrs)
 (fun i => [AVal.str (List.getD c.addrs i [])]) (1 : Int) c.every (0 : Int))
 [] (0 : Nat))).m.every
 (vrStart
 (VX.mk
 (VM.mk c.id c.pri c.every c.pre c.src (List.length c.addrs)
 (fun i => [AVal.str (List.getD c.addrs i [])]) (1 : Int) c.every (0 : Int))
 [] (0 : Nat))).m.pre
 (vrStart
 (VX.mk
 (VM.mk c.id c.pri c.every c.pre c.src (List.length c.addrs)
 (fun i => [AVal.str (List.getD c.addrs i [])]) (1 : Int) c.every (0 : Int))
 [] (0 : Nat))).m.src
 (vrStart
 (VX.mk
 (VM.mk c.id c.pri c.every c.pre c.src (List.length c.addrs)
 (fun i => [AVal.str (List.getD c.addrs i [])]) (1 : Int) c.every (0 : Int))
 [] (0 : Nat))).m.n
 (vrStart
 (VX.mk
 (VM.mk c.id c.pri c.every c.pre c.src (List.length c.addrs)
 (fun i => [AVal.str (List.getD c.addrs i [])]) (1 : Int) c.every (0 : Int))
 [] (0 : Nat))).m.f
 (vrStart
 (VX.mk
 (VM.mk c.id c.pri c.every c.pre c.src (List.length c.addrs)
 (fun i => [AVal.str (List.getD c.addrs i [])]) (1 : Int) c.every (0 : Int))
 [] (0 : Nat))).m.st
 (vrStart
 (VX.mk
 (VM.mk c.id c.pri c.every c.pre c.src (List.length c.addrs)
 (fun i => [AVal.str (List.getD c.addrs i [])]) (1 : Int) c.every (0 : Int))
 [] (0 : Nat))).m.pace
 (vrStart
 (VX.mk
 (VM.mk c.id c.pri c.every c.pre c.src (List.length c.addrs)
 (fun i => [AVal.str (List.getD c.addrs i [])]) (1 : Int) c.every (0 : Int))
 [] (0 : Nat))).m.wait)
 (vrStart
 (VX.mk
 (VM.mk c.id c.pri c.every c.pre c.src (List.length c.addrs)
 (fun i => [AVal.str (List.getD c.addrs i [])]) (1 : Int) c.every (0 : Int))
 [] (0 : Nat))).out
 (vrStart
 (VX.mk
 (VM.mk c.id c.pri c.every c.pre c.src (List.length c.addrs)
 (fun i => [AVal.str (List.getD c.addrs i [])]) (1 : Int) c.every (0 : Int))
 [] (0 : Nat))).k)).m.f,
 AVal.int IntKind.i64
 (vrStop
 (VX.mk
 (VM.mk
 (vrStart
 (VX.mk
 (VM.mk c.id c.pri c.every c.pre c.src (List.length c.addrs)
 (fun i => [AVal.str (List.getD c.addrs i [])]) (1 : Int) c.every (0 : Int))
 [] (0 : Nat))).m.id
 (vrStart
 (VX.mk
 (VM.mk c.id c.pri c.every c.pre c.src (List.length c.addrs)
 (fun i => [AVal.str (List.getD c.addrs i [])]) (1 : Int) c.every (0 : Int))
 [] (0 : Nat))).m.pri
 (vrStart
 (VX.mk
 (VM.mk c.id c.pri c.every c.pre c.src (List.length c.addrs)
 (fun i => [AVal.str (List.getD c.addrs i [])]) (1 : Int) c.every (0 : Int))
 [] (0 : Nat))).m.every
 (vrStart
 (VX.mk
 (VM.mk c.id c.pri c.every c.pre c.src (List.length c.addrs)
 (fun i => [AVal.str (List.getD c.addrs i [])]) (1 : Int) c.every (0 : Int))
 [] (0 : Nat))).m.pre
 (vrStart
 (VX.mk
 (VM.mk c.id c.pri c.every c.pre c.src (List.length c.addrs)
 (fun i => [AVal.str (List.getD c.addrs i [])]) (1 : Int) c.every (0 : Int))
 [] (0 : Nat))).m.src
 (vrStart
 (VX.mk
 (VM.mk c.id c.pri c.every c.pre c.src (List.length c.addrs)
 (fun i => [AVal.str (List.getD c.addrs i [])]) (1 : Int) c.every (0 : Int))
 [] (0 : Nat))).m.n
 (vrStart
 (VX.mk
 (VM.mk c.id c.pri c.every c.pre c.src (List.length c.addrs)
 (fun i => [AVal.str (List.getD c.addrs i [])]) (1 : Int) c.every (0 : Int))
 [] (0 : Nat))).m.f
 (vrStart
 (VX.mk
 (VM.mk c.id c.pri c.every c.pre c.src (List.length c.addrs)
 (fun i => [AVal.str (List.getD c.addrs i [])]) (1 : Int) c.every (0 : Int))
 [] (0 : Nat))).m.st
 (vrStart
 (VX.mk
 (VM.mk c.id c.pri c.every c.pre c.src (List.length c.addrs)
 (fun i => [AVal.str (List.getD c.addrs i [])]) (1 : Int) c.every (0 : Int))
 [] (0 : Nat))).m.pace
 (vrStart
 (VX.mk
 (VM.mk c.id c.pri c.every c.pre c.src (List.length c.addrs)
 (fun i => [AVal.str (List.getD c.addrs i [])]) (1 : Int) c.every (0 : Int))
 [] (0 : Nat))).m.wait)
 (vrStart
 (VX.mk
 (VM.mk c.id c.pri c.every c.pre c.src (List.length c.addrs)
 (fun i => [AVal.str (List.getD c.addrs i [])]) (1 : Int) c.every (0 : Int))
 [] (0 : Nat))).out
 (vrStart
 (VX.mk
 (VM.mk c.id c.pri c.every c.pre c.src (List.length c.addrs)
 (fun i => [AVal.str (List.getD c.addrs i [])]) (1 : Int) c.every (0 : Int))
 [] (0 : Nat))).k)).m.st,
 AVal.int IntKind.i64
 (vrStop
 (VX.mk
 (VM.mk
 (vrStart
 (VX.mk
 (VM.mk c.id c.pri c.every c.pre c.src (List.length c.addrs)
 (fun i => [AVal.str (List.getD c.addrs i [])]) (1 : Int) c.every (0 : Int))
 [] (0 : Nat))).m.id
 (vrStart
 (VX.mk
 (VM.mk c.id c.pri c.every c.pre c.src (List.length c.addrs)
 (fun i => [AVal.str (List.getD c.addrs i [])]) (1 : Int) c.every (0 : Int))
 [] (0 : Nat))).m.pri
 (vrStart
 (VX.mk
 (VM.mk c.id c.pri c.every c.pre c.src (List.length c.addrs)
 (fun i => [AVal.str (List.getD c.addrs i [])]) (1 : Int) c.every (0 : Int))
 [] (0 : Nat))).m.every
 (vrStart
 (VX.mk
 (VM.mk c.id c.pri c.every c.pre c.src (List.length c.addrs)
 (fun i => [AVal.str (List.getD c.addrs i [])]) (1 : Int) c.every (0 : Int))
 [] (0 : Nat))).m.pre
 (vrStart
 (VX.mk
 (VM.mk c.id c.pri c.every c.pre c.src (List.length c.addrs)
 (fun i => [AVal.str (List.getD c.addrs i [])]) (1 : Int) c.every (0 : Int))
 [] (0 : Nat))).m.src
 (vrStart
 (VX.mk
 (VM.mk c.id c.pri c.every c.pre c.src (List.length c.addrs)
 (fun i => [AVal.str (List.getD c.addrs i [])]) (1 : Int) c.every (0 : Int))
 [] (0 : Nat))).m.n
 (vrStart
 (VX.mk
 (VM.mk c.id c.pri c.every c.pre c.src (List.length c.addrs)
 (fun i => [AVal.str (List.getD c.addrs i [])]) (1 : Int) c.every (0 : Int))
 [] (0 : Nat))).m.f
 (vrStart
 (VX.mk
 (VM.mk c.id c.pri c.every c.pre c.src (List.length c.addrs)
 (fun i => [AVal.str (List.getD c.addrs i [])]) (1 : Int) c.every (0 : Int))
 [] (0 : Nat))).m.st
 (vrStart
 (VX.mk
 (VM.mk c.id c.pri c.every c.pre c.src (List.length c.addrs)
 (fun i => [AVal.str (List.getD c.addrs i [])]) (1 : Int) c.every (0 : Int))
 [] (0 : Nat))).m.pace
 (vrStart
 (VX.mk
 (VM.mk c.id c.pri c.every c.pre c.src (List.length c.addrs)
 (fun i => [AVal.str (List.getD c.addrs i [])]) (1 : Int) c.every (0 : Int))
 [] (0 : Nat))).m.wait)
 (vrStart
 (VX.mk
 (VM.mk c.id c.pri c.every c.pre c.src (List.length c.addrs)
 (fun i => [AVal.str (List.getD c.addrs i [])]) (1 : Int) c.every (0 : Int))
 [] (0 : Nat))).out
 (vrStart
 (VX.mk
 (VM.mk c.id c.pri c.every c.pre c.src (List.length c.addrs)
 (fun i => [AVal.str (List.getD c.addrs i [])]) (1 : Int) c.every (0 : Int))
 [] (0 : Nat))).k)).m.pace,
 AVal.int IntKind.i64
 (vrStop
 (VX.mk
 (VM.mk
 (vrStart
 (VX.mk
 (VM.mk c.id c.pri c.every c.pre c.src (List.length c.addrs)
 (fun i => [AVal.str (List.getD c.addrs i [])]) (1 : Int) c.every (0 : Int))
 [] (0 : Nat))).m.id
 (vrStart
 (VX.mk
 (VM.mk c.id c.pri c.every c.pre c.src (List.length c.addrs)
 (fun i => [AVal.str (List.getD c.addrs i [])]) (1 : Int) c.every (0 : Int))
 [] (0 : Nat))).m.pri
 (vrStart
 (VX.mk
 (VM.mk c.id c.pri c.every c.pre c.src (List.length c.addrs)
 (fun i => [AVal.str (List.getD c.addrs i [])]) (1 : Int) c.every (0 : Int))
 [] (0 : Nat))).m.every
 (vrStart
 (VX.mk
 (VM.mk c.id c.pri c.every c.pre c.src (List.length c.addrs)
 (fun i => [AVal.str (List.getD c.addrs i [])]) (1 : Int) c.every (0 : Int))
 [] (0 : Nat))).m.pre
 (vrStart
 (VX.mk
 (VM.mk c.id c.pri c.every c.pre c.src (List.length c.addrs)
 (fun i => [AVal.str (List.getD c.addrs i [])]) (1 : Int) c.every (0 : Int))
 [] (0 : Nat))).m.src
 (vrStart
 (VX.mk
 (VM.mk c.id c.pri c.every c.pre c.src (List.length c.addrs)
 (fun i => [AVal.str (List.getD c.addrs i [])]) (1 : Int) c.every (0 : Int))
 [] (0 : Nat))).m.n
 (vrStart
 (VX.mk
 (VM.mk c.id c.pri c.every c.pre c.src (List.length c.addrs)
 (fun i => [AVal.str (List.getD c.addrs i [])]) (1 : Int) c.every (0 : Int))
 [] (0 : Nat))).m.f
 (vrStart
 (VX.mk
 (VM.mk c.id c.pri c.every c.pre c.src (List.length c.addrs)
 (fun i => [AVal.str (List.getD c.addrs i [])]) (1 : Int) c.every (0 : Int))
 [] (0 : Nat))).m.st
 (vrStart
 (VX.mk
 (VM.mk c.id c.pri c.every c.pre c.src (List.length c.addrs)
 (fun i => [AVal.str (List.getD c.addrs i [])]) (1 : Int) c.every (0 : Int))
 [] (0 : Nat))).m.pace
 (vrStart
 (VX.mk
 (VM.mk c.id c.pri c.every c.pre c.src (List.length c.addrs)
 (fun i => [AVal.str (List.getD c.addrs i [])]) (1 : Int) c.every (0 : Int))
 [] (0 : Nat))).m.wait)
 (vrStart
 (VX.mk
 (VM.mk c.id c.pri c.every c.pre c.src (List.length c.addrs)
 (fun i => [AVal.str (List.getD c.addrs i [])]) (1 : Int) c.every (0 : Int))
 [] (0 : Nat))).out
 (vrStart
 (VX.mk
 (VM.mk c.id c.pri c.every c.pre c.src (List.length c.addrs)
 (fun i => [AVal.str (List.getD c.addrs i [])]) (1 : Int) c.every (0 : Int))
 [] (0 : Nat))).k)).m.wait,
 AVal.sl (1 : Nat) (0 : Nat) (0 : Nat) (5 : Nat)],
 ABlk.flat []])))
 (K (AVal.bool true) [])) := by kernel_rfl
set_option maxRecDepth 100000 in
theorem VrrpStopped_lp_step (sc : List OpV) (m i : Int) (id pri every : Int) (pre : Bool) (src : List UInt8) (n : Nat) (f : Nat → List AVal) (st pace wait : Int) (K : AVal → Hp → Prop) (J : St → Prop) : VrrpStopped_lp_b K J (St.mk [(5, .ptr 0 0), (32, scV sc), (33, .int .i64 m), (34, .int .i64 i)] [.vals [.int .i64 id, .int .i64 pri, .int .i64 every, .bool pre, .str src, .ro n 1 f, .int .i64 st, .int .i64 pace, .int .i64 wait, .sl 1 0 0 5], .flat []]) = (
 brP (decide (i < m))
 (((0 : Int) ≤ i ∧ i < (↑(List.length sc) : Int)) ∧
 brP (!decide ((List.getD sc (Int.toNat i) opNone).kd = (0 : Int)))
 ((VOk (VX.mk (VM.mk id pri every pre src n f st pace wait) [] (0 : Nat)) ∧ (4000 : Nat) ≤ (1000000000000 : Nat)) ∧
 brP
 (!decide
 ((vrDo (List.getD sc (Int.toNat i) opNone).kd (List.getD sc (Int.toNat i) opNone).q
 (List.getD sc (Int.toNat i) opNone).src
 (Adv.mk (List.getD sc (Int.toNat i) opNone).id (List.getD sc (Int.toNat i) opNone).pri
 (List.getD sc (Int.toNat i) opNone).every [])
 (VX.mk (VM.mk id pri every pre src n f st pace wait) [] (0 : Nat))).m.st =
 (1 : Int)))
 (K (AVal.bool false) [])
 (brP
 (!decide
 ((vrDo (List.getD sc (Int.toNat i) opNone).kd (List.getD sc (Int.toNat i) opNone).q
 (List.getD sc (Int.toNat i) opNone).src
 (Adv.mk (List.getD sc (Int.toNat i) opNone).id (List.getD sc (Int.toNat i) opNone).pri
 (List.getD sc (Int.toNat i) opNone).every [])
 (VX.mk (VM.mk id pri every pre src n f st pace wait) [] (0 : Nat))).m.wait =
 (0 : Int)))
 (K (AVal.bool false) [])
 (brP
 (decide
 ((0 : Int) <
 (↑(vrDo (List.getD sc (Int.toNat i) opNone).kd (List.getD sc (Int.toNat i) opNone).q
 (List.getD sc (Int.toNat i) opNone).src
 (Adv.mk (List.getD sc (Int.toNat i) opNone).id (List.getD sc (Int.toNat i) opNone).pri
 (List.getD sc (Int.toNat i) opNone).every [])
 (VX.mk (VM.mk id pri every pre src n f st pace wait) [] (0 : Nat))).k :
 Int)))
 (K (AVal.bool false) [])
 (I64 (i + (1 : Int)) ∧
 J
 (St.mk
 [((5 : Nat), AVal.ptr (0 : Nat) (0 : Nat)),
 ((32 : Nat),
 AVal.ro (List.length sc) (7 : Nat) fun i =>
 [AVal.int IntKind.i64 (List.getD sc i opNone).kd, AVal.int IntKind.i64 (List.getD sc i opNone).q,
 AVal.str (List.getD sc i opNone).src, AVal.int IntKind.i64 (List.getD sc i opNone).id,
 AVal.int IntKind.i64 (List.getD sc i opNone).pri, AVal.int IntKind.i64 (List.getD sc i opNone).every,
 AVal.ro (List.length (List.getD sc i opNone).addrs) (1 : Nat) fun i_1 =>
 [AVal.str (List.getD (List.getD sc i opNone).addrs i_1 [])]]),
 ((33 : Nat), AVal.int IntKind.i64 m), ((34 : Nat), AVal.int IntKind.i64 (i + (1 : Int)))]
 [ABlk.vals
 [AVal.int IntKind.i64
 (vrDo (List.getD sc (Int.toNat i) opNone).kd (List.getD sc (Int.toNat i) opNone).q
 (List.getD sc (Int.toNat i) opNone).src
 (Adv.mk (List.getD sc (Int.toNat i) opNone).id (List.getD sc (Int.toNat i) opNone).pri
 (List.getD sc (Int.toNat i) opNone).every [])
 (VX.mk (VM.mk id pri every pre src n f st pace wait) [] (0 : Nat))).m.id,
 AVal.int IntKind.i64
 (vrDo (List.getD sc (Int.toNat i) opNone).kd (List.getD sc (Int.toNat i) opNone).q
 (List.getD sc (Int.toNat i) opNone).src
 (Adv.mk (List.getD sc (Int.toNat i) opNone).id (List.getD sc (Int.toNat i) opNone).pri
 (List.getD sc (Int.toNat i) opNone).every [])
 (VX.mk (VM.mk id pri every pre src n f st pace wait) [] (0 : Nat))).m.pri,
 AVal.int IntKind.i64
 (vrDo (List.getD sc (Int.toNat i) opNone).kd (List.getD sc (Int.toNat i) opNone).q
 (List.getD sc (Int.toNat i) opNone).src
 (Adv.mk (List.getD sc (Int.toNat i) opNone).id (List.getD sc (Int.toNat i) opNone).pri
 (List.getD sc (Int.toNat i) opNone).every [])
 (VX.mk (VM.mk id pri every pre src n f st pace wait) [] (0 : Nat))).m.every,
 AVal.bool
 (vrDo (List.getD sc (Int.toNat i) opNone).kd (List.getD sc (Int.toNat i) opNone).q
 (List.getD sc (Int.toNat i) opNone).src
 (Adv.mk (List.getD sc (Int.toNat i) opNone).id (List.getD sc (Int.toNat i) opNone).pri
 (List.getD sc (Int.toNat i) opNone).every [])
 (VX.mk (VM.mk id pri every pre src n f st pace wait) [] (0 : Nat))).m.pre,
 AVal.str
 (vrDo (List.getD sc (Int.toNat i) opNone).kd (List.getD sc (Int.toNat i) opNone).q
 (List.getD sc (Int.toNat i) opNone).src
 (Adv.mk (List.getD sc (Int.toNat i) opNone).id (List.getD sc (Int.toNat i) opNone).pri
 (List.getD sc (Int.toNat i) opNone).every [])
 (VX.mk (VM.mk id pri every pre src n f st pace wait) [] (0 : Nat))).m.src,
 AVal.ro
 (vrDo (List.getD sc (Int.toNat i) opNone).kd (List.getD sc (Int.toNat i) opNone).q
 (List.getD sc (Int.toNat i) opNone).src
 (Adv.mk (List.getD sc (Int.toNat i) opNone).id (List.getD sc (Int.toNat i) opNone).pri
 (List.getD sc (Int.toNat i) opNone).every [])
 (VX.mk (VM.mk id pri every pre src n f st pace wait) [] (0 : Nat))).m.n
 (1 : Nat)
 (vrDo (List.getD sc (Int.toNat i) opNone).kd (List.getD sc (Int.toNat i) opNone).q
 (List.getD sc (Int.toNat i) opNone).src
 (Adv.mk (List.getD sc (Int.toNat i) opNone).id (List.getD sc (Int.toNat i) opNone).pri
 (List.getD sc (Int.toNat i) opNone).every [])
 (VX.mk (VM.mk id pri every pre src n f st pace wait) [] (0 : Nat))).m.f,
 AVal.int IntKind.i64
 (vrDo (List.getD sc (Int.toNat i) opNone).kd (List.getD sc (Int.toNat i) opNone).q
 (List.getD sc (Int.toNat i) opNone).src
 (Adv.mk (List.getD sc (Int.toNat i) opNone).id (List.getD sc (Int.toNat i) opNone).pri
 (List.getD sc (Int.toNat i) opNone).every [])
 (VX.mk (VM.mk id pri every pre src n f st pace wait) [] (0 : Nat))).m.st,
 AVal.int IntKind.i64
 (vrDo (List.getD sc (Int.toNat i) opNone).kd (List.getD sc (Int.toNat i) opNone).q
 (List.getD sc (Int.toNat i) opNone).src
 (Adv.mk (List.getD sc (Int.toNat i) opNone).id (List.getD sc (Int.toNat i) opNone).pri
 (List.getD sc (Int.toNat i) opNone).every [])
 (VX.mk (VM.mk id pri every pre src n f st pace wait) [] (0 : Nat))).m.pace,
 AVal.int IntKind.i64
 (vrDo (List.getD sc (Int.toNat i) opNone).kd (List.getD sc (Int.toNat i) opNone).q
 (List.getD sc (Int.toNat i) opNone).src
 (Adv.mk (List.getD sc (Int.toNat i) opNone).id (List.getD sc (Int.toNat i) opNone).pri
 (List.getD sc (Int.toNat i) opNone).every [])
 (VX.mk (VM.mk id pri every pre src n f st pace wait) [] (0 : Nat))).m.wait,
 AVal.sl (1 : Nat) (0 : Nat) (0 : Nat) (5 : Nat)],
 ABlk.flat []])))))
 (brP (!decide (st = (1 : Int))) (K (AVal.bool false) [])
 (brP (!decide (wait = (0 : Int))) (K (AVal.bool false) [])
 (I64 (i + (1 : Int)) ∧
 J
 (St.mk
 [((5 : Nat), AVal.ptr (0 : Nat) (0 : Nat)),
 ((32 : Nat),
 AVal.ro (List.length sc) (7 : Nat) fun i =>
 [AVal.int IntKind.i64 (List.getD sc i opNone).kd, AVal.int IntKind.i64 (List.getD sc i opNone).q,
 AVal.str (List.getD sc i opNone).src, AVal.int IntKind.i64 (List.getD sc i opNone).id,
 AVal.int IntKind.i64 (List.getD sc i opNone).pri, AVal.int IntKind.i64 (List.getD sc i opNone).every,
 AVal.ro (List.length (List.getD sc i opNone).addrs) (1 : Nat) fun i_1 =>
 [AVal.str (List.getD (List.getD sc i opNone).addrs i_1 [])]]),
 ((33 : Nat), AVal.int IntKind.i64 m), ((34 : Nat), AVal.int IntKind.i64 (i + (1 : Int)))]
 [ABlk.vals
 [AVal.int IntKind.i64 id, AVal.int IntKind.i64 pri, AVal.int IntKind.i64 every, AVal.bool pre, AVal.str src,
 AVal.ro n (1 : Nat) f, AVal.int IntKind.i64 st, AVal.int IntKind.i64 pace, AVal.int IntKind.i64 wait,
 AVal.sl (1 : Nat) (0 : Nat) (0 : Nat) (5 : Nat)],
 ABlk.flat []])))))
 (K (AVal.bool true) [])) := by kernel_rfl
theorem stopped_do {x : VX} (h : x.m.st = 1 ∧ x.m.wait = 0 ∧ x.out = [] ∧ x.k = 0) {kd : Int} (hk : kd ≠ 0) (q : Int) (s : List UInt8) (a : Adv) : (vrDo kd q s a x).m.st = 1 ∧ (vrDo kd q s a x).m.wait = 0 ∧ (vrDo kd q s a x).out = [] ∧ (vrDo kd q s a x).k = 0 := by
  have ht : ∀ j, vrTicks j x = x := by
    intro j
    induction j with
    | zero => rfl
    | succ j ih => unfold vrTicks; rw [show vrTick x = x from if_pos h.1]; exact ih
  have hs : vrStop x = vrSet 1 0 x := by unfold vrStop; rw [if_neg (by rw [h.1]; omega)]
  have htk : vrTake s a x = x := by
    unfold vrTake
    by_cases e : a.id = x.m.id
    · rw [if_neg (by simpa using e), if_neg (by rw [h.1]; omega), if_neg (by rw [h.1]; omega)]
    · rw [if_pos e]
  unfold vrDo
  rw [if_neg hk]
  split
  · rw [hs]; exact ⟨rfl, rfl, h.2.2.1, h.2.2.2⟩
  split
  · rw [ht]; exact h
  split
  · rw [htk]; exact h
  split
  · unfold vrPri
    split
    · exact h
    · exact h
  · exact h
attribute [local irreducible] VrrpStopped_lp_n VrrpStopped_lp_b
theorem stopped_all (sc : List OpV) (m : Int) (hm : m = (sc.length : Int)) (hn : sc.length ≤ 300) : ∀ (j : Nat) (i : Int) (id pri every : Int) (pre : Bool) (src : List UInt8) (n : Nat) (f : Nat → List AVal) (st pace wait : Int), 0 ≤ i → i + (j : Int) = m → VOk ⟨⟨id, pri, every, pre, src, n, f, st, pace, wait⟩, [], 0⟩ → st = 1 ∧ wait = 0 →
    VrrpStopped_lp_n (fun v _ => v = .bool true) (j + 1) (St.mk [(5, .ptr 0 0), (32, scV sc), (33, .int .i64 m), (34, .int .i64 i)] [.vals [.int .i64 id, .int .i64 pri, .int .i64 every, .bool pre, .str src, .ro n 1 f, .int .i64 st, .int .i64 pace, .int .i64 wait, .sl 1 0 0 5], .flat []])
  | 0, i, id, pri, every, pre, src, n, f, st, pace, wait, h0, h, hok, hs => by
    refine VrrpStopped_lp_next ?_
    rw [VrrpStopped_lp_step]
    exact brP_d (fun h' => by omega) (fun _ => rfl)
  | j + 1, i, id, pri, every, pre, src, n, f, st, pace, wait, h0, h, hok, hs => by
    refine VrrpStopped_lp_next ?_
    rw [VrrpStopped_lp_step]
    generalize sc.getD i.toNat opNone = o
    obtain ⟨hs1, hs2⟩ := hs
    refine brP_d (fun _ => ⟨by omega, ?_⟩) (fun h' => by omega)
    refine brP_nd (fun hk => ⟨⟨hok, by omega⟩, ?_⟩) (fun hk => ?_)
    · obtain ⟨d1, d2, d3, d4⟩ := stopped_do (x := ⟨⟨id, pri, every, pre, src, n, f, st, pace, wait⟩, [], 0⟩) ⟨hs1, hs2, rfl, rfl⟩ hk o.q o.src ⟨o.id, o.pri, o.every, []⟩
      have hv := (vrDo_ok hok (by simp only; omega) o.kd o.q o.src ⟨o.id, o.pri, o.every, []⟩).1
      generalize vrDo o.kd o.q o.src ⟨o.id, o.pri, o.every, []⟩ ⟨⟨id, pri, every, pre, src, n, f, st, pace, wait⟩, [], 0⟩ = D at *
      refine brP_nd (fun h => absurd d1 h) (fun _ => brP_nd (fun h => absurd d2 h) (fun _ => brP_d (fun h => by omega) (fun _ => ⟨by unfold I64; omega, ?_⟩)))
      exact stopped_all sc m hm hn j (i + 1) _ _ _ _ _ _ _ _ _ _ (by omega) (by omega) ⟨hv.every, hv.pri, hv.pace, hv.st, hv.wait, hv.run, hv.n, rfl, by simp⟩ ⟨d1, d2⟩
    · refine brP_nd (fun h => absurd hs1 h) (fun _ => brP_nd (fun h => absurd hs2 h) (fun _ => ⟨by unfold I64; omega, ?_⟩))
      exact stopped_all sc m hm hn j (i + 1) _ _ _ _ _ _ _ _ _ _ (by omega) (by omega) hok ⟨hs1, hs2⟩
attribute [local irreducible] fnP in
theorem vrrpStopped.core (c : Cfg) (sc : List OpV) (h_c : CfgOk c) (h_sc : (∀ o ∈ sc, OpOk o) ∧ sc.length ≤ 140737488351232) :
    fnP Try.prog Tlw ann_outriderlaw13_VrrpStopped Try.f8 [.agg (cfgCells c), scV sc] [] (fun v _ => v = .bool true) := by
  rw [VrrpStopped_eq]
  obtain ⟨c1, c2, c3, c4, c5⟩ := h_c
  refine ⟨⟨isStrs_of _ _, by omega⟩, brP_i (fun hr => ?_) (fun _ => rfl)⟩
  rw [Bool.and_eq_true] at hr
  obtain ⟨hok, hp⟩ := new_ok c.pre (f := fun i => [AVal.str (c.addrs.getD i [])]) hr.1 (by simpa using hr.2)
  refine brP_d (fun _ => rfl) (fun hl => ⟨hok.vb (by simp), ?_⟩)
  have h2 := vrStart_ok hok (by simp)
  have hk2 := vrStart_k (x := ⟨⟨c.id, c.pri, c.every, c.pre, c.src, c.addrs.length, fun i => [AVal.str (c.addrs.getD i [])], 1, c.every, 0⟩, [], 0⟩)
  have h3 := vrStop_ok h2 (by simp only at hk2; omega)
  refine ⟨h2.vb (by simp only at hk2; omega), _, stopped_all sc _ rfl (by omega) sc.length 0 _ _ _ _ _ _ _ _ _ _ (by omega) (by omega) ⟨h3.every, h3.pri, h3.pace, h3.st, h3.wait, h3.run, h3.n, rfl, by simp⟩ ⟨rfl, rfl⟩⟩
end Go.Proofs.Ytldfkjjjjfbbmaa.Ae
namespace Go.Proofs.Ytldfkjjjjfbbmaa
open Go Go.RowKit Ae
attribute [local irreducible] fnP in
set_option maxRecDepth 100000 in
theorem vrrpStopped.walk {H : Type} {enc : TypeId × Value → H} (W : World) (args : Array Value) (hn : args.size = 2)
    (h : ∀ (j : Nat) t v, Try.f8.params[j]? = some t → args[j]? = some v → RdV enc false Try.prog W t v) :
    Calls Try.prog 8 args W fun e w' => e = .returned (.bool true) ∧ Below W.heap.size W w' := by
  obtain ⟨v0, v1, rfl⟩ := args2 hn
  obtain ⟨c, h_c, hv0⟩ := arg_struct (b := false) (.inl ⟨_, Try.underlying28⟩) open_cfg (h 0 28 v0 rfl rfl)
  obtain ⟨sc, h_sc, hv1⟩ := arg_slice (b := false) Try.underlying47 open_sc (h 1 47 v1 rfl rfl)
  obtain ⟨r, H1, hr, hG⟩ := fn_sound Tlw_sound mixed Try.func8 (by decide +kernel) (vrrpStopped.core c sc h_c h_sc)
  subst hr
  exact law_walk hG (vl_cons hv0 (vl_cons hv1 vl_nil))

namespace vrrpStopped
theorem spec {H : Type} (ds : List (DataW H)) (h : ds.length = Try.f8.params.size) : Rows.vrrpStoppedSpec.fn H ds = { results := [.lit (.bool true)], args := ds } := by
  have h' : ds.length = 2 := h
  match ds, h' with
  | [_, _], _ => rfl

set_option maxRecDepth 100000 in
theorem lifted (os : Os) (started : os.Started) (H : Type) (enc : TypeId × Value → H) :
    ReturnsInHanded {} Try.checked os 8 .any (Rows.vrrpStoppedSpec.pre6 enc Try.prog Try.f8 Rows.vrrpStoppedRow.domain false) (Rows.vrrpStoppedSpec.post enc Try.prog Try.f8 false true false false) :=
  lifted_said (C := Try.checked) (tb := 4) own started (by kernel_rfl) Try.func8
    (ChangeSpec.witness6 (enc := enc) (C := Try.checked) false ⟨#[], #[.agg #[.int .i64 0, .int .i64 0, .int .i64 0, .bool false, .string .empty, .slice none 0 0], .slice none 0 0], []⟩ 8 (by kernel_rfl) (by kernel_rfl) (by kernel_rfl) (by kernel_rfl))
    rfl spec rfl Try.underlying4 laidOut (by kernel_rfl) walk

theorem over : Rows.vrrpStoppedRow.holds Try.pinned (OpenSpec.ofChange Rows.vrrpStoppedSpec) :=
  OpenClaim.holds_of_wide 8 Try.f8 rfl rfl rfl rfl rfl rfl rfl ⟨rfl, rfl, rfl, rfl, rfl⟩ rfl rfl rfl rfl rfl (by kernel_rfl) Try.func8 (by kernel_rfl)
    (of_decide_eq_true (by kernel_rfl)) (by unfold Func.isWrapper; first | (rw [if_pos (by decide +kernel)]; kernel_rfl) | (rw [if_neg (by decide +kernel)]; exact ⟨rfl, rfl⟩))
    (fun os started H enc _ => lifted os started H enc)

theorem proved : Rows.VrrpStoppedSaid := over
#print axioms proved
end vrrpStopped

end Go.Proofs.Ytldfkjjjjfbbmaa

