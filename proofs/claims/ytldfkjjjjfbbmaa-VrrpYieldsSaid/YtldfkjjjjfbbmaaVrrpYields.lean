/- VrrpYields: of two masters the one that is weaker yields. No conditions. -/
import Derived.Test.YtldfkjjjjfbbmaaAr13
set_option linter.unusedSimpArgs false
set_option linter.unusedVariables false
set_option maxRecDepth 100000
namespace Go.Proofs.Ytldfkjjjjfbbmaa.Ae
open Go Go.RowKit
def ann_outriderlaw13_VrrpYields : Nat → List Nat × Nat × List (List Nat)
  | 11 => ([1, 2, 3, 8, 10, 81, 82, 83], 0, [])
  | 15 => ([1, 2, 3, 8, 10, 13, 81, 82, 83, 91, 92], 0, [])
  | 2000002 => ([], 31, [[], [0], [0, 1], [0, 1, 2], [0, 1, 2, 3], [0, 1, 2, 3, 4], [0, 1, 2, 3, 4, 5], [0, 1, 2, 3, 4, 5, 6], [0, 1, 2, 3, 4, 5, 6, 7], [0, 1, 2, 3, 4, 5, 6, 7, 8], [0, 1, 2, 3, 4, 5, 6, 7, 8, 9], [0, 1, 2, 3, 4, 5, 6, 7, 8, 9, 10], [0, 1, 2, 3, 4, 5, 6, 7, 8, 9, 10, 11], [0, 1, 2, 3, 4, 5, 6, 7, 8, 9, 10, 11, 12], [0, 1, 2, 3, 4, 5, 6, 7, 8, 9, 10, 11, 12, 13], [0, 1, 2, 3, 4, 5, 6, 7, 8, 9, 10, 11, 12, 13, 14], [0, 1, 2, 3, 4, 5, 6, 7, 8, 9, 10, 11, 12, 13, 14, 15], [0, 1, 2, 3, 4, 5, 6, 7, 8, 9, 10, 11, 12, 13, 14, 15, 16], [0, 1, 2, 3, 4, 5, 6, 7, 8, 9, 10, 11, 12, 13, 14, 15, 16, 17], [0, 1, 2, 3, 4, 5, 6, 7, 8, 9, 10, 11, 12, 13, 14, 15, 16, 17, 18], [0, 1, 2, 3, 4, 5, 6, 7, 8, 9, 10, 11, 12, 13, 14, 15, 16, 17, 18, 19], [0, 1, 2, 3, 4, 5, 6, 7, 8, 9, 10, 11, 12, 13, 14, 15, 16, 17, 18, 19, 20], [0, 1, 2, 3, 4, 5, 6, 7, 8, 9, 10, 11, 12, 13, 14, 15, 16, 17, 18, 19, 20, 21], [0, 1, 2, 3, 4, 5, 6, 7, 8, 9, 10, 11, 12, 13, 14, 15, 16, 17, 18, 19, 20, 21, 22], [0, 1, 2, 3, 4, 5, 6, 7, 8, 9, 10, 11, 12, 13, 14, 15, 16, 17, 18, 19, 20, 21, 22, 23], [0, 1, 2, 3, 4, 5, 6, 7, 8, 9, 10, 11, 12, 13, 14, 15, 16, 17, 18, 19, 20, 21, 22, 23, 24], [0, 1, 2, 3, 4, 5, 6, 7, 8, 9, 10, 11, 12, 13, 14, 15, 16, 17, 18, 19, 20, 21, 22, 23, 24, 25], [0, 1, 2, 3, 4, 5, 6, 7, 8, 9, 10, 11, 12, 13, 14, 15, 16, 17, 18, 19, 20, 21, 22, 23, 24, 25, 26], [0, 1, 2, 3, 4, 5, 6, 7, 8, 9, 10, 11, 12, 13, 14, 15, 16, 17, 18, 19, 20, 21, 22, 23, 24, 25, 26, 27], [0, 1, 2, 3, 4, 5, 6, 7, 8, 9, 10, 11, 12, 13, 14, 15, 16, 17, 18, 19, 20, 21, 22, 23, 24, 25, 26, 27, 28]])
  | 2000008 => ([], 15, [[], [0], [0, 1], [0, 1, 2], [0, 1, 2, 3], [0, 1, 2, 3, 4], [0, 1, 2, 3, 4, 5], [0, 1, 2, 3, 4, 5, 6], [0, 1, 2, 3, 4, 5, 6, 7], [0, 1, 2, 3, 4, 5, 6, 7, 8], [0, 1, 2, 3, 4, 5, 6, 7, 8, 9], [0, 1, 2, 3, 4, 5, 6, 7, 8, 9, 10], [0, 1, 2, 3, 4, 5, 6, 7, 8, 9, 10, 11], [0, 1, 2, 3, 4, 5, 6, 7, 8, 9, 10, 11, 12]])
  | 2000027 => ([], 17, [[], [0], [0, 1], [0, 1, 2], [0, 1, 2, 3], [0, 1, 2, 3, 4], [0, 1, 2, 3, 4, 5], [0, 1, 2, 3, 4, 5, 6], [0, 1, 2, 3, 4, 5, 6, 7], [0, 1, 2, 3, 4, 5, 6, 7, 8], [0, 1, 2, 3, 4, 5, 6, 7, 8, 9], [0, 1, 2, 3, 4, 5, 6, 7, 8, 9, 10], [0, 1, 2, 3, 4, 5, 6, 7, 8, 9, 10, 11], [0, 1, 2, 3, 4, 5, 6, 7, 8, 9, 10, 11, 12], [0, 1, 2, 3, 4, 5, 6, 7, 8, 9, 10, 11, 12, 13], [0, 1, 2, 3, 4, 5, 6, 7, 8, 9, 10, 11, 12, 13, 14]])
  | _ => ([], 0, [])
noncomputable abbrev VrrpYields_lp_X : Cx := ⟨Try.prog, Tlw, Try.f6.ntmps, 0, ann_outriderlaw13_VrrpYields⟩
noncomputable def VrrpYields_lp_c : Code := cAt [.r, .r, .r, .r, .r, .r, .r, .r, .l, .r, .b] (bodyOf Try.f6)
noncomputable def VrrpYields_lp_k (K : AVal → Hp → Prop) : Post := kAt VrrpYields_lp_X [.r, .r, .r, .r, .r, .r, .r, .r, .l, .r, .b] (bodyOf Try.f6) (fnK Try.prog 0 Try.f6.results.toList K)
def VrrpYields_lp_n (K : AVal → Hp → Prop) (n : Nat) (s : St) : Prop := loopP (awp VrrpYields_lp_X (loopB VrrpYields_lp_c)) 0 [1, 2, 3, 8, 10, 81, 82, 83] n s (VrrpYields_lp_k K)
def VrrpYields_lp (K : AVal → Hp → Prop) (s : St) : Prop := ∃ n, VrrpYields_lp_n K n s
def VrrpYields_lp_b (K : AVal → Hp → Prop) (J : St → Prop) (s : St) : Prop := awp VrrpYields_lp_X (loopB VrrpYields_lp_c) s (seqK (fun s' => normK 0 [1, 2, 3, 8, 10, 81, 82, 83] s' J) (VrrpYields_lp_k K))
theorem VrrpYields_lp_next {K : AVal → Hp → Prop} {n : Nat} {s : St} (h : VrrpYields_lp_b K (fun s' => VrrpYields_lp_n K n s') s) : VrrpYields_lp_n K (n + 1) s := h
noncomputable abbrev VrrpYields_in_X : Cx := ⟨Try.prog, Tlw, Try.f6.ntmps, 0, ann_outriderlaw13_VrrpYields⟩
noncomputable def VrrpYields_in_c : Code := cAt [.r, .r, .l, .b, .r, .r, .l, .r, .b] (loopB VrrpYields_lp_c)
noncomputable def VrrpYields_in_k (I : St → Prop) (K : AVal → Hp → Prop) : Post := kAt VrrpYields_in_X [.r, .r, .l, .b, .r, .r, .l, .r, .b] (loopB VrrpYields_lp_c) (seqK (fun s' => normK 0 [1, 2, 3, 8, 10, 81, 82, 83] s' I) (VrrpYields_lp_k K))
def VrrpYields_in_n (I : St → Prop) (K : AVal → Hp → Prop) (n : Nat) (s : St) : Prop := loopP (awp VrrpYields_in_X (loopB VrrpYields_in_c)) 0 [1, 2, 3, 8, 10, 13, 81, 82, 83, 91, 92] n s (VrrpYields_in_k I K)
def VrrpYields_in (I : St → Prop) (K : AVal → Hp → Prop) (s : St) : Prop := ∃ n, VrrpYields_in_n I K n s
def VrrpYields_in_b (I : St → Prop) (K : AVal → Hp → Prop) (J : St → Prop) (s : St) : Prop := awp VrrpYields_in_X (loopB VrrpYields_in_c) s (seqK (fun s' => normK 0 [1, 2, 3, 8, 10, 13, 81, 82, 83, 91, 92] s' J) (VrrpYields_in_k I K))
theorem VrrpYields_in_next {I : St → Prop} {K : AVal → Hp → Prop} {n : Nat} {s : St} (h : VrrpYields_in_b I K (fun s' => VrrpYields_in_n I K n s') s) : VrrpYields_in_n I K (n + 1) s := h
set_option maxRecDepth 100000 in
theorem VrrpYields_eq (c : Cfg) (o : Int) (s : List UInt8) (K : AVal → Hp → Prop) : fnP Try.prog Tlw ann_outriderlaw13_VrrpYields Try.f6 [.agg (cfgCells c), .int .i64 o, .str s] [] K = (
 brP
 (decide (c.pri = (255 : Int)) || decide (o < (1 : Int)) || decide ((254 : Int) < o) || decide (s = c.src) ||
 !decide ((↑(List.length s) : Int) = (↑(List.length c.src) : Int)) ||
 decide ((300 : Int) < c.every))
 (K (AVal.bool true) [])
 (((IsStrs (List.length c.addrs) fun i => [AVal.str (List.getD c.addrs i [])]) ∧
 List.length c.addrs ≤ (8796093022000 : Nat)) ∧
 brP
 (adRight (Adv.mk c.id c.pri c.every (strs (List.length c.addrs) fun i => [AVal.str (List.getD c.addrs i [])]))
 c.src &&
 !decide (c.pri = (0 : Int)))
 (((IsStrs (List.length c.addrs) fun i => [AVal.str (List.getD c.addrs i [])]) ∧
 List.length c.addrs ≤ (8796093022000 : Nat)) ∧
 brP
 (adRight (Adv.mk c.id o c.every (strs (List.length c.addrs) fun i => [AVal.str (List.getD c.addrs i [])])) s &&
 !decide (o = (0 : Int)))
 (VrrpYields_lp K
 (St.mk
 [((1 : Nat), AVal.int IntKind.i64 o), ((2 : Nat), AVal.str s), ((3 : Nat), AVal.ptr (0 : Nat) (0 : Nat)),
 ((8 : Nat), AVal.ptr (1 : Nat) (0 : Nat)), ((10 : Nat), AVal.ptr (2 : Nat) (0 : Nat)),
 ((81 : Nat), AVal.sl (3 : Nat) (0 : Nat) (2 : Nat) (1 : Nat)), ((82 : Nat), AVal.int IntKind.i64 (2 : Int)),
 ((83 : Nat), AVal.int IntKind.i64 (0 : Int))]
 [ABlk.vals
 [AVal.int IntKind.i64 c.id, AVal.int IntKind.i64 c.pri, AVal.int IntKind.i64 c.every, AVal.bool true,
 AVal.str c.src, AVal.ro (List.length c.addrs) (1 : Nat) fun i => [AVal.str (List.getD c.addrs i [])]],
 ABlk.vals
 [AVal.int IntKind.i64 c.id, AVal.int IntKind.i64 c.pri, AVal.int IntKind.i64 c.every, AVal.bool true,
 AVal.str c.src, AVal.ro (List.length c.addrs) (1 : Nat) fun i => [AVal.str (List.getD c.addrs i [])],
 AVal.int IntKind.i64 (1 : Int), AVal.int IntKind.i64 c.every, AVal.int IntKind.i64 (0 : Int),
 AVal.sl (4 : Nat) (0 : Nat) (0 : Nat) (5 : Nat)],
 ABlk.vals
 [AVal.int IntKind.i64 c.id, AVal.int IntKind.i64 o, AVal.int IntKind.i64 c.every, AVal.bool true, AVal.str s,
 AVal.ro (List.length c.addrs) (1 : Nat) fun i => [AVal.str (List.getD c.addrs i [])],
 AVal.int IntKind.i64 (1 : Int), AVal.int IntKind.i64 c.every, AVal.int IntKind.i64 (0 : Int),
 AVal.sl (5 : Nat) (0 : Nat) (0 : Nat) (5 : Nat)],
 ABlk.vals [AVal.ptr (1 : Nat) (0 : Nat), AVal.ptr (2 : Nat) (0 : Nat)], ABlk.flat [], ABlk.flat []]))
 (K (AVal.bool true) []))
 (((IsStrs (List.length c.addrs) fun i => [AVal.str (List.getD c.addrs i [])]) ∧
 List.length c.addrs ≤ (8796093022000 : Nat)) ∧
 brP
 (adRight (Adv.mk c.id o c.every (strs (List.length c.addrs) fun i => [AVal.str (List.getD c.addrs i [])])) s &&
 !decide (o = (0 : Int)))
 (K (AVal.bool true) []) (K (AVal.bool true) [])))) := by kernel_rfl
set_option maxRecDepth 100000 in
theorem VrrpYields_y0 (c : Cfg) (o : Int) (s : List UInt8) (sa pa wa sb pb wb : Int) (K : AVal → Hp → Prop) (J : St → Prop) : VrrpYields_lp_b K J (St.mk [(1, .int .i64 o), (2, .str s), (3, .ptr 0 0), (8, .ptr 1 0), (10, .ptr 2 0), (81, .sl 3 0 2 1), (82, .int .i64 2), (83, .int .i64 0)] [.vals [.int .i64 c.id, .int .i64 c.pri, .int .i64 c.every, .bool true, .str c.src, .ro c.addrs.length 1 (fun i => [.str (c.addrs.getD i [])])], .vals [.int .i64 c.id, .int .i64 c.pri, .int .i64 c.every, .bool true, .str c.src, .ro c.addrs.length 1 (fun i => [.str (c.addrs.getD i [])]), .int .i64 sa, .int .i64 pa, .int .i64 wa, .sl 4 0 0 5], .vals [.int .i64 c.id, .int .i64 o, .int .i64 c.every, .bool true, .str s, .ro c.addrs.length 1 (fun i => [.str (c.addrs.getD i [])]), .int .i64 sb, .int .i64 pb, .int .i64 wb, .sl 5 0 0 5], .vals [.ptr 1 0, .ptr 2 0], .flat [], .flat []]) = (
 ((0 : Int) ≤ (0 : Int) ∧ (0 : Int) < (2 : Int)) ∧
 VB
 (VX.mk
 (VM.mk c.id c.pri c.every true c.src (List.length c.addrs) (fun i => [AVal.str (List.getD c.addrs i [])]) sa pa wa)
 [] (0 : Nat)) ∧
 I64 ((4 : Int) * c.every) ∧
 VrrpYields_in J K
 (St.mk
 [((1 : Nat), AVal.int IntKind.i64 o), ((2 : Nat), AVal.str s), ((3 : Nat), AVal.ptr (0 : Nat) (0 : Nat)),
 ((8 : Nat), AVal.ptr (1 : Nat) (0 : Nat)), ((10 : Nat), AVal.ptr (2 : Nat) (0 : Nat)),
 ((13 : Nat), AVal.ptr (1 : Nat) (0 : Nat)), ((81 : Nat), AVal.sl (3 : Nat) (0 : Nat) (2 : Nat) (1 : Nat)),
 ((82 : Nat), AVal.int IntKind.i64 (2 : Int)), ((83 : Nat), AVal.int IntKind.i64 (0 : Int)),
 ((91 : Nat), AVal.int IntKind.i64 ((4 : Int) * c.every)), ((92 : Nat), AVal.int IntKind.i64 (0 : Int))]
 [ABlk.vals
 [AVal.int IntKind.i64 c.id, AVal.int IntKind.i64 c.pri, AVal.int IntKind.i64 c.every, AVal.bool true,
 AVal.str c.src, AVal.ro (List.length c.addrs) (1 : Nat) fun i => [AVal.str (List.getD c.addrs i [])]],
 ABlk.vals
 [AVal.int IntKind.i64
 (vrStart
 (VX.mk
 (VM.mk c.id c.pri c.every true c.src (List.length c.addrs) (fun i => [AVal.str (List.getD c.addrs i [])])
 sa pa wa)
 [] (0 : Nat))).m.id,
 AVal.int IntKind.i64
 (vrStart
 (VX.mk
 (VM.mk c.id c.pri c.every true c.src (List.length c.addrs) (fun i => [AVal.str (List.getD c.addrs i [])])
 sa pa wa)
 [] (0 : Nat))).m.pri,
 AVal.int IntKind.i64
 (vrStart
 (VX.mk
 (VM.mk c.id c.pri c.every true c.src (List.length c.addrs) (fun i => [AVal.str (List.getD c.addrs i [])])
 sa pa wa)
 [] (0 : Nat))).m.every,
 AVal.bool
 (vrStart
 (VX.mk
 (VM.mk c.id c.pri c.every true c.src (List.length c.addrs) (fun i => [AVal.str (List.getD c.addrs i [])])
 sa pa wa)
 [] (0 : Nat))).m.pre,
 AVal.str
 (vrStart
 (VX.mk
 (VM.mk c.id c.pri c.every true c.src (List.length c.addrs) (fun i => [AVal.str (List.getD c.addrs i [])])
 sa pa wa)
 [] (0 : Nat))).m.src,
 AVal.ro
 (vrStart
 (VX.mk
 (VM.mk c.id c.pri c.every true c.src (List.length c.addrs) (fun i => [AVal.str (List.getD c.addrs i [])])
 sa pa wa)
 [] (0 : Nat))).m.n
 (1 : Nat)
 (vrStart
 (VX.mk
 (VM.mk c.id c.pri c.every true c.src (List.length c.addrs) (fun i => [AVal.str (List.getD c.addrs i [])])
 sa pa wa)
 [] (0 : Nat))).m.f,
 AVal.int IntKind.i64
 (vrStart
 (VX.mk
 (VM.mk c.id c.pri c.every true c.src (List.length c.addrs) (fun i => [AVal.str (List.getD c.addrs i [])])
 sa pa wa)
 [] (0 : Nat))).m.st,
 AVal.int IntKind.i64
 (vrStart
 (VX.mk
 (VM.mk c.id c.pri c.every true c.src (List.length c.addrs) (fun i => [AVal.str (List.getD c.addrs i [])])
 sa pa wa)
 [] (0 : Nat))).m.pace,
 AVal.int IntKind.i64
 (vrStart
 (VX.mk
 (VM.mk c.id c.pri c.every true c.src (List.length c.addrs) (fun i => [AVal.str (List.getD c.addrs i [])])
 sa pa wa)
 [] (0 : Nat))).m.wait,
 AVal.sl (4 : Nat) (0 : Nat)
 (vrStart
 (VX.mk
 (VM.mk c.id c.pri c.every true c.src (List.length c.addrs) (fun i => [AVal.str (List.getD c.addrs i [])])
 sa pa wa)
 [] (0 : Nat))).k
 (5 : Nat)],
 ABlk.vals
 [AVal.int IntKind.i64 c.id, AVal.int IntKind.i64 o, AVal.int IntKind.i64 c.every, AVal.bool true, AVal.str s,
 AVal.ro (List.length c.addrs) (1 : Nat) fun i => [AVal.str (List.getD c.addrs i [])], AVal.int IntKind.i64 sb,
 AVal.int IntKind.i64 pb, AVal.int IntKind.i64 wb, AVal.sl (5 : Nat) (0 : Nat) (0 : Nat) (5 : Nat)],
 ABlk.vals [AVal.ptr (1 : Nat) (0 : Nat), AVal.ptr (2 : Nat) (0 : Nat)],
 ABlk.flat
 (vrStart
 (VX.mk
 (VM.mk c.id c.pri c.every true c.src (List.length c.addrs) (fun i => [AVal.str (List.getD c.addrs i [])]) sa
 pa wa)
 [] (0 : Nat))).out,
 ABlk.flat []])) := by kernel_rfl
set_option maxRecDepth 100000 in
theorem VrrpYields_y1 (c : Cfg) (o : Int) (s : List UInt8) (sa pa wa sb pb wb : Int) (K : AVal → Hp → Prop) (J : St → Prop) : VrrpYields_lp_b K J (St.mk [(1, .int .i64 o), (2, .str s), (3, .ptr 0 0), (8, .ptr 1 0), (10, .ptr 2 0), (81, .sl 3 0 2 1), (82, .int .i64 2), (83, .int .i64 1)] [.vals [.int .i64 c.id, .int .i64 c.pri, .int .i64 c.every, .bool true, .str c.src, .ro c.addrs.length 1 (fun i => [.str (c.addrs.getD i [])])], .vals [.int .i64 c.id, .int .i64 c.pri, .int .i64 c.every, .bool true, .str c.src, .ro c.addrs.length 1 (fun i => [.str (c.addrs.getD i [])]), .int .i64 sa, .int .i64 pa, .int .i64 wa, .sl 4 0 0 5], .vals [.int .i64 c.id, .int .i64 o, .int .i64 c.every, .bool true, .str s, .ro c.addrs.length 1 (fun i => [.str (c.addrs.getD i [])]), .int .i64 sb, .int .i64 pb, .int .i64 wb, .sl 5 0 0 5], .vals [.ptr 1 0, .ptr 2 0], .flat [], .flat []]) = (
 ((0 : Int) ≤ (1 : Int) ∧ (1 : Int) < (2 : Int)) ∧
 VB
 (VX.mk (VM.mk c.id o c.every true s (List.length c.addrs) (fun i => [AVal.str (List.getD c.addrs i [])]) sb pb wb)
 [] (0 : Nat)) ∧
 I64 ((4 : Int) * c.every) ∧
 VrrpYields_in J K
 (St.mk
 [((1 : Nat), AVal.int IntKind.i64 o), ((2 : Nat), AVal.str s), ((3 : Nat), AVal.ptr (0 : Nat) (0 : Nat)),
 ((8 : Nat), AVal.ptr (1 : Nat) (0 : Nat)), ((10 : Nat), AVal.ptr (2 : Nat) (0 : Nat)),
 ((13 : Nat), AVal.ptr (2 : Nat) (0 : Nat)), ((81 : Nat), AVal.sl (3 : Nat) (0 : Nat) (2 : Nat) (1 : Nat)),
 ((82 : Nat), AVal.int IntKind.i64 (2 : Int)), ((83 : Nat), AVal.int IntKind.i64 (1 : Int)),
 ((91 : Nat), AVal.int IntKind.i64 ((4 : Int) * c.every)), ((92 : Nat), AVal.int IntKind.i64 (0 : Int))]
 [ABlk.vals
 [AVal.int IntKind.i64 c.id, AVal.int IntKind.i64 c.pri, AVal.int IntKind.i64 c.every, AVal.bool true,
 AVal.str c.src, AVal.ro (List.length c.addrs) (1 : Nat) fun i => [AVal.str (List.getD c.addrs i [])]],
 ABlk.vals
 [AVal.int IntKind.i64 c.id, AVal.int IntKind.i64 c.pri, AVal.int IntKind.i64 c.every, AVal.bool true,
 AVal.str c.src, AVal.ro (List.length c.addrs) (1 : Nat) fun i => [AVal.str (List.getD c.addrs i [])],
 AVal.int IntKind.i64 sa, AVal.int IntKind.i64 pa, AVal.int IntKind.i64 wa,
 AVal.sl (4 : Nat) (0 : Nat) (0 : Nat) (5 : Nat)],
 ABlk.vals
 [AVal.int IntKind.i64
 (vrStart
 (VX.mk
 (VM.mk c.id o c.every true s (List.length c.addrs) (fun i => [AVal.str (List.getD c.addrs i [])]) sb pb
 wb)
 [] (0 : Nat))).m.id,
 AVal.int IntKind.i64
 (vrStart
 (VX.mk
 (VM.mk c.id o c.every true s (List.length c.addrs) (fun i => [AVal.str (List.getD c.addrs i [])]) sb pb
 wb)
 [] (0 : Nat))).m.pri,
 AVal.int IntKind.i64
 (vrStart
 (VX.mk
 (VM.mk c.id o c.every true s (List.length c.addrs) (fun i => [AVal.str (List.getD c.addrs i [])]) sb pb
 wb)
 [] (0 : Nat))).m.every,
 AVal.bool
 (vrStart
 (VX.mk
 (VM.mk c.id o c.every true s (List.length c.addrs) (fun i => [AVal.str (List.getD c.addrs i [])]) sb pb
 wb)
 [] (0 : Nat))).m.pre,
 AVal.str
 (vrStart
 (VX.mk
 (VM.mk c.id o c.every true s (List.length c.addrs) (fun i => [AVal.str (List.getD c.addrs i [])]) sb pb
 wb)
 [] (0 : Nat))).m.src,
 AVal.ro
 (vrStart
 (VX.mk
 (VM.mk c.id o c.every true s (List.length c.addrs) (fun i => [AVal.str (List.getD c.addrs i [])]) sb pb
 wb)
 [] (0 : Nat))).m.n
 (1 : Nat)
 (vrStart
 (VX.mk
 (VM.mk c.id o c.every true s (List.length c.addrs) (fun i => [AVal.str (List.getD c.addrs i [])]) sb pb
 wb)
 [] (0 : Nat))).m.f,
 AVal.int IntKind.i64
 (vrStart
 (VX.mk
 (VM.mk c.id o c.every true s (List.length c.addrs) (fun i => [AVal.str (List.getD c.addrs i [])]) sb pb
 wb)
 [] (0 : Nat))).m.st,
 AVal.int IntKind.i64
 (vrStart
 (VX.mk
 (VM.mk c.id o c.every true s (List.length c.addrs) (fun i => [AVal.str (List.getD c.addrs i [])]) sb pb
 wb)
 [] (0 : Nat))).m.pace,
 AVal.int IntKind.i64
 (vrStart
 (VX.mk
 (VM.mk c.id o c.every true s (List.length c.addrs) (fun i => [AVal.str (List.getD c.addrs i [])]) sb pb
 wb)
 [] (0 : Nat))).m.wait,
 AVal.sl (5 : Nat) (0 : Nat)
 (vrStart
 (VX.mk
 (VM.mk c.id o c.every true s (List.length c.addrs) (fun i => [AVal.str (List.getD c.addrs i [])]) sb pb wb)
 [] (0 : Nat))).k
 (5 : Nat)],
 ABlk.vals [AVal.ptr (1 : Nat) (0 : Nat), AVal.ptr (2 : Nat) (0 : Nat)], ABlk.flat [],
 ABlk.flat
 (vrStart
 (VX.mk
 (VM.mk c.id o c.every true s (List.length c.addrs) (fun i => [AVal.str (List.getD c.addrs i [])]) sb pb wb)
 [] (0 : Nat))).out])) := by kernel_rfl
set_option maxRecDepth 100000 in
theorem VrrpYields_y2 (c : Cfg) (o : Int) (s : List UInt8) (sa pa wa sb pb wb : Int) (K : AVal → Hp → Prop) (J : St → Prop) : VrrpYields_lp_b K J (St.mk [(1, .int .i64 o), (2, .str s), (3, .ptr 0 0), (8, .ptr 1 0), (10, .ptr 2 0), (81, .sl 3 0 2 1), (82, .int .i64 2), (83, .int .i64 2)] [.vals [.int .i64 c.id, .int .i64 c.pri, .int .i64 c.every, .bool true, .str c.src, .ro c.addrs.length 1 (fun i => [.str (c.addrs.getD i [])])], .vals [.int .i64 c.id, .int .i64 c.pri, .int .i64 c.every, .bool true, .str c.src, .ro c.addrs.length 1 (fun i => [.str (c.addrs.getD i [])]), .int .i64 sa, .int .i64 pa, .int .i64 wa, .sl 4 0 0 5], .vals [.int .i64 c.id, .int .i64 o, .int .i64 c.every, .bool true, .str s, .ro c.addrs.length 1 (fun i => [.str (c.addrs.getD i [])]), .int .i64 sb, .int .i64 pb, .int .i64 wb, .sl 5 0 0 5], .vals [.ptr 1 0, .ptr 2 0], .flat [], .flat []]) = (
 VB
 (VX.mk
 (VM.mk c.id c.pri c.every true c.src (List.length c.addrs) (fun i => [AVal.str (List.getD c.addrs i [])]) sa pa wa)
 [] (0 : Nat)) ∧
 VB
 (VX.mk (VM.mk c.id o c.every true s (List.length c.addrs) (fun i => [AVal.str (List.getD c.addrs i [])]) sb pb wb)
 [] (0 : Nat)) ∧
 brP
 (decide
 (decide
 ((vrTake s (Adv.mk c.id o c.every [])
 (VX.mk
 (VM.mk c.id c.pri c.every true c.src (List.length c.addrs) (fun i => [AVal.str (List.getD c.addrs i [])]) sa
 pa wa)
 [] (0 : Nat))).m.st =
 (3 : Int)) =
 (decide (o < c.pri) || decide (c.pri = o) && !(Op.bytesLess c.src s || decide (c.src = s)))))
 (K
 (AVal.bool
 (decide
 (decide
 ((vrTake c.src (Adv.mk c.id c.pri c.every [])
 (VX.mk
 (VM.mk c.id o c.every true s (List.length c.addrs) (fun i => [AVal.str (List.getD c.addrs i [])]) sb pb
 wb)
 [] (0 : Nat))).m.st =
 (3 : Int)) =
 !(decide (o < c.pri) || decide (c.pri = o) && !(Op.bytesLess c.src s || decide (c.src = s))))))
 [])
 (K (AVal.bool false) [])) := by kernel_rfl
set_option maxRecDepth 100000 in
theorem VrrpYields_ia (c : Cfg) (o : Int) (s : List UInt8) (sa pa wa sb pb wb : Int) (m q : Int) (k : Nat) (cs : List AVal) (I : St → Prop) (K : AVal → Hp → Prop) (J : St → Prop) : VrrpYields_in_b I K J (St.mk [(1, .int .i64 o), (2, .str s), (3, .ptr 0 0), (8, .ptr 1 0), (10, .ptr 2 0), (13, .ptr 1 0), (81, .sl 3 0 2 1), (82, .int .i64 2), (83, .int .i64 0), (91, .int .i64 m), (92, .int .i64 q)] [.vals [.int .i64 c.id, .int .i64 c.pri, .int .i64 c.every, .bool true, .str c.src, .ro c.addrs.length 1 (fun i => [.str (c.addrs.getD i [])])], .vals [.int .i64 c.id, .int .i64 c.pri, .int .i64 c.every, .bool true, .str c.src, .ro c.addrs.length 1 (fun i => [.str (c.addrs.getD i [])]), .int .i64 sa, .int .i64 pa, .int .i64 wa, .sl 4 0 k 5], .vals [.int .i64 c.id, .int .i64 o, .int .i64 c.every, .bool true, .str s, .ro c.addrs.length 1 (fun i => [.str (c.addrs.getD i [])]), .int .i64 sb, .int .i64 pb, .int .i64 wb, .sl 5 0 0 5], .vals [.ptr 1 0, .ptr 2 0], .flat cs, .flat []]) = (
 brP (decide (q < m))
 (VBw
 (VX.mk
 (VM.mk c.id c.pri c.every true c.src (List.length c.addrs) (fun i => [AVal.str (List.getD c.addrs i [])]) sa pa wa)
 cs k) ∧
 I64 (q + (1 : Int)) ∧
 J
 (St.mk
 [((1 : Nat), AVal.int IntKind.i64 o), ((2 : Nat), AVal.str s), ((3 : Nat), AVal.ptr (0 : Nat) (0 : Nat)),
 ((8 : Nat), AVal.ptr (1 : Nat) (0 : Nat)), ((10 : Nat), AVal.ptr (2 : Nat) (0 : Nat)),
 ((13 : Nat), AVal.ptr (1 : Nat) (0 : Nat)), ((81 : Nat), AVal.sl (3 : Nat) (0 : Nat) (2 : Nat) (1 : Nat)),
 ((82 : Nat), AVal.int IntKind.i64 (2 : Int)), ((83 : Nat), AVal.int IntKind.i64 (0 : Int)),
 ((91 : Nat), AVal.int IntKind.i64 m), ((92 : Nat), AVal.int IntKind.i64 (q + (1 : Int)))]
 [ABlk.vals
 [AVal.int IntKind.i64 c.id, AVal.int IntKind.i64 c.pri, AVal.int IntKind.i64 c.every, AVal.bool true,
 AVal.str c.src, AVal.ro (List.length c.addrs) (1 : Nat) fun i => [AVal.str (List.getD c.addrs i [])]],
 ABlk.vals
 [AVal.int IntKind.i64
 (vrTick
 (VX.mk
 (VM.mk c.id c.pri c.every true c.src (List.length c.addrs) (fun i => [AVal.str (List.getD c.addrs i [])])
 sa pa wa)
 cs k)).m.id,
 AVal.int IntKind.i64
 (vrTick
 (VX.mk
 (VM.mk c.id c.pri c.every true c.src (List.length c.addrs) (fun i => [AVal.str (List.getD c.addrs i [])])
 sa pa wa)
 cs k)).m.pri,
 AVal.int IntKind.i64
 (vrTick
 (VX.mk
 (VM.mk c.id c.pri c.every true c.src (List.length c.addrs) (fun i => [AVal.str (List.getD c.addrs i [])])
 sa pa wa)
 cs k)).m.every,
 AVal.bool
 (vrTick
 (VX.mk
 (VM.mk c.id c.pri c.every true c.src (List.length c.addrs) (fun i => [AVal.str (List.getD c.addrs i [])])
 sa pa wa)
 cs k)).m.pre,
 AVal.str
 (vrTick
 (VX.mk
 (VM.mk c.id c.pri c.every true c.src (List.length c.addrs) (fun i => [AVal.str (List.getD c.addrs i [])])
 sa pa wa)
 cs k)).m.src,
 AVal.ro
 (vrTick
 (VX.mk
 (VM.mk c.id c.pri c.every true c.src (List.length c.addrs) (fun i => [AVal.str (List.getD c.addrs i [])])
 sa pa wa)
 cs k)).m.n
 (1 : Nat)
 (vrTick
 (VX.mk
 (VM.mk c.id c.pri c.every true c.src (List.length c.addrs) (fun i => [AVal.str (List.getD c.addrs i [])])
 sa pa wa)
 cs k)).m.f,
 AVal.int IntKind.i64
 (vrTick
 (VX.mk
 (VM.mk c.id c.pri c.every true c.src (List.length c.addrs) (fun i => [AVal.str (List.getD c.addrs i [])])
 sa pa wa)
 cs k)).m.st,
 AVal.int IntKind.i64
 (vrTick
 (VX.mk
 (VM.mk c.id c.pri c.every true c.src (List.length c.addrs) (fun i => [AVal.str (List.getD c.addrs i [])])
 sa pa wa)
 cs k)).m.pace,
 AVal.int IntKind.i64
 (vrTick
 (VX.mk
 (VM.mk c.id c.pri c.every true c.src (List.length c.addrs) (fun i => [AVal.str (List.getD c.addrs i [])])
 sa pa wa)
 cs k)).m.wait,
 AVal.sl (4 : Nat) (0 : Nat)
 (vrTick
 (VX.mk
 (VM.mk c.id c.pri c.every true c.src (List.length c.addrs) (fun i => [AVal.str (List.getD c.addrs i [])])
 sa pa wa)
 cs k)).k
 (5 : Nat)],
 ABlk.vals
 [AVal.int IntKind.i64 c.id, AVal.int IntKind.i64 o, AVal.int IntKind.i64 c.every, AVal.bool true, AVal.str s,
 AVal.ro (List.length c.addrs) (1 : Nat) fun i => [AVal.str (List.getD c.addrs i [])], AVal.int IntKind.i64 sb,
 AVal.int IntKind.i64 pb, AVal.int IntKind.i64 wb, AVal.sl (5 : Nat) (0 : Nat) (0 : Nat) (5 : Nat)],
 ABlk.vals [AVal.ptr (1 : Nat) (0 : Nat), AVal.ptr (2 : Nat) (0 : Nat)],
 ABlk.flat
 (vrTick
 (VX.mk
 (VM.mk c.id c.pri c.every true c.src (List.length c.addrs) (fun i => [AVal.str (List.getD c.addrs i [])]) sa
 pa wa)
 cs k)).out,
 ABlk.flat []]))
 (brP (!decide (sa = (3 : Int))) (K (AVal.bool false) [])
 (I64 (1 : Int) ∧
 I
 (St.mk
 [((1 : Nat), AVal.int IntKind.i64 o), ((2 : Nat), AVal.str s), ((3 : Nat), AVal.ptr (0 : Nat) (0 : Nat)),
 ((8 : Nat), AVal.ptr (1 : Nat) (0 : Nat)), ((10 : Nat), AVal.ptr (2 : Nat) (0 : Nat)),
 ((81 : Nat), AVal.sl (3 : Nat) (0 : Nat) (2 : Nat) (1 : Nat)), ((82 : Nat), AVal.int IntKind.i64 (2 : Int)),
 ((83 : Nat), AVal.int IntKind.i64 (1 : Int))]
 [ABlk.vals
 [AVal.int IntKind.i64 c.id, AVal.int IntKind.i64 c.pri, AVal.int IntKind.i64 c.every, AVal.bool true,
 AVal.str c.src, AVal.ro (List.length c.addrs) (1 : Nat) fun i => [AVal.str (List.getD c.addrs i [])]],
 ABlk.vals
 [AVal.int IntKind.i64 c.id, AVal.int IntKind.i64 c.pri, AVal.int IntKind.i64 c.every, AVal.bool true,
 AVal.str c.src, AVal.ro (List.length c.addrs) (1 : Nat) fun i => [AVal.str (List.getD c.addrs i [])],
 AVal.int IntKind.i64 sa, AVal.int IntKind.i64 pa, AVal.int IntKind.i64 wa,
 AVal.sl (4 : Nat) (0 : Nat) (0 : Nat) (5 : Nat)],
 ABlk.vals
 [AVal.int IntKind.i64 c.id, AVal.int IntKind.i64 o, AVal.int IntKind.i64 c.every, AVal.bool true, AVal.str s,
 AVal.ro (List.length c.addrs) (1 : Nat) fun i => [AVal.str (List.getD c.addrs i [])], AVal.int IntKind.i64 sb,
 AVal.int IntKind.i64 pb, AVal.int IntKind.i64 wb, AVal.sl (5 : Nat) (0 : Nat) (0 : Nat) (5 : Nat)],
 ABlk.vals [AVal.ptr (1 : Nat) (0 : Nat), AVal.ptr (2 : Nat) (0 : Nat)], ABlk.flat [], ABlk.flat []])))) := by kernel_rfl
set_option maxRecDepth 100000 in
theorem VrrpYields_ib (c : Cfg) (o : Int) (s : List UInt8) (sa pa wa sb pb wb : Int) (m q : Int) (k : Nat) (cs : List AVal) (I : St → Prop) (K : AVal → Hp → Prop) (J : St → Prop) : VrrpYields_in_b I K J (St.mk [(1, .int .i64 o), (2, .str s), (3, .ptr 0 0), (8, .ptr 1 0), (10, .ptr 2 0), (13, .ptr 2 0), (81, .sl 3 0 2 1), (82, .int .i64 2), (83, .int .i64 1), (91, .int .i64 m), (92, .int .i64 q)] [.vals [.int .i64 c.id, .int .i64 c.pri, .int .i64 c.every, .bool true, .str c.src, .ro c.addrs.length 1 (fun i => [.str (c.addrs.getD i [])])], .vals [.int .i64 c.id, .int .i64 c.pri, .int .i64 c.every, .bool true, .str c.src, .ro c.addrs.length 1 (fun i => [.str (c.addrs.getD i [])]), .int .i64 sa, .int .i64 pa, .int .i64 wa, .sl 4 0 0 5], .vals [.int .i64 c.id, .int .i64 o, .int .i64 c.every, .bool true, .str s, .ro c.addrs.length 1 (fun i => [.str (c.addrs.getD i [])]), .int .i64 sb, .int .i64 pb, .int .i64 wb, .sl 5 0 k 5], .vals [.ptr 1 0, .ptr 2 0], .flat [], .flat cs]) = (
 brP (decide (q < m))
 (VBw
 (VX.mk (VM.mk c.id o c.every true s (List.length c.addrs) (fun i => [AVal.str (List.getD c.addrs i [])]) sb pb wb)
 cs k) ∧
 I64 (q + (1 : Int)) ∧
 J
 (St.mk
 [((1 : Nat), AVal.int IntKind.i64 o), ((2 : Nat), AVal.str s), ((3 : Nat), AVal.ptr (0 : Nat) (0 : Nat)),
 ((8 : Nat), AVal.ptr (1 : Nat) (0 : Nat)), ((10 : Nat), AVal.ptr (2 : Nat) (0 : Nat)),
 ((13 : Nat), AVal.ptr (2 : Nat) (0 : Nat)), ((81 : Nat), AVal.sl (3 : Nat) (0 : Nat) (2 : Nat) (1 : Nat)),
 ((82 : Nat), AVal.int IntKind.i64 (2 : Int)), ((83 : Nat), AVal.int IntKind.i64 (1 : Int)),
 ((91 : Nat), AVal.int IntKind.i64 m), ((92 : Nat), AVal.int IntKind.i64 (q + (1 : Int)))]
 [ABlk.vals
 [AVal.int IntKind.i64 c.id, AVal.int IntKind.i64 c.pri, AVal.int IntKind.i64 c.every, AVal.bool true,
 AVal.str c.src, AVal.ro (List.length c.addrs) (1 : Nat) fun i => [AVal.str (List.getD c.addrs i [])]],
 ABlk.vals
 [AVal.int IntKind.i64 c.id, AVal.int IntKind.i64 c.pri, AVal.int IntKind.i64 c.every, AVal.bool true,
 AVal.str c.src, AVal.ro (List.length c.addrs) (1 : Nat) fun i => [AVal.str (List.getD c.addrs i [])],
 AVal.int IntKind.i64 sa, AVal.int IntKind.i64 pa, AVal.int IntKind.i64 wa,
 AVal.sl (4 : Nat) (0 : Nat) (0 : Nat) (5 : Nat)],
 ABlk.vals
 [AVal.int IntKind.i64
 (vrTick
 (VX.mk
 (VM.mk c.id o c.every true s (List.length c.addrs) (fun i => [AVal.str (List.getD c.addrs i [])]) sb pb
 wb)
 cs k)).m.id,
 AVal.int IntKind.i64
 (vrTick
 (VX.mk
 (VM.mk c.id o c.every true s (List.length c.addrs) (fun i => [AVal.str (List.getD c.addrs i [])]) sb pb
 wb)
 cs k)).m.pri,
 AVal.int IntKind.i64
 (vrTick
 (VX.mk
 (VM.mk c.id o c.every true s (List.length c.addrs) (fun i => [AVal.str (List.getD c.addrs i [])]) sb pb
 wb)
 cs k)).m.every,
 AVal.bool
 (vrTick
 (VX.mk
 (VM.mk c.id o c.every true s (List.length c.addrs) (fun i => [AVal.str (List.getD c.addrs i [])]) sb pb
 wb)
 cs k)).m.pre,
 AVal.str
 (vrTick
 (VX.mk
 (VM.mk c.id o c.every true s (List.length c.addrs) (fun i => [AVal.str (List.getD c.addrs i [])]) sb pb
 wb)
 cs k)).m.src,
 AVal.ro
 (vrTick
 (VX.mk
 (VM.mk c.id o c.every true s (List.length c.addrs) (fun i => [AVal.str (List.getD c.addrs i [])]) sb pb
 wb)
 cs k)).m.n
 (1 : Nat)
 (vrTick
 (VX.mk
 (VM.mk c.id o c.every true s (List.length c.addrs) (fun i => [AVal.str (List.getD c.addrs i [])]) sb pb
 wb)
 cs k)).m.f,
 AVal.int IntKind.i64
 (vrTick
 (VX.mk
 (VM.mk c.id o c.every true s (List.length c.addrs) (fun i => [AVal.str (List.getD c.addrs i [])]) sb pb
 wb)
 cs k)).m.st,
 AVal.int IntKind.i64
 (vrTick
 (VX.mk
 (VM.mk c.id o c.every true s (List.length c.addrs) (fun i => [AVal.str (List.getD c.addrs i [])]) sb pb
 wb)
 cs k)).m.pace,
 AVal.int IntKind.i64
 (vrTick
 (VX.mk
 (VM.mk c.id o c.every true s (List.length c.addrs) (fun i => [AVal.str (List.getD c.addrs i [])]) sb pb
 wb)
 cs k)).m.wait,
 AVal.sl (5 : Nat) (0 : Nat)
 (vrTick
 (VX.mk
 (VM.mk c.id o c.every true s (List.length c.addrs) (fun i => [AVal.str (List.getD c.addrs i [])]) sb pb wb)
 cs k)).k
 (5 : Nat)],
 ABlk.vals [AVal.ptr (1 : Nat) (0 : Nat), AVal.ptr (2 : Nat) (0 : Nat)], ABlk.flat [],
 ABlk.flat
 (vrTick
 (VX.mk
 (VM.mk c.id o c.every true s (List.length c.addrs) (fun i => [AVal.str (List.getD c.addrs i [])]) sb pb wb)
 cs k)).out]))
 (brP (!decide (sb = (3 : Int))) (K (AVal.bool false) [])
 (I64 (2 : Int) ∧
 I
 (St.mk
 [((1 : Nat), AVal.int IntKind.i64 o), ((2 : Nat), AVal.str s), ((3 : Nat), AVal.ptr (0 : Nat) (0 : Nat)),
 ((8 : Nat), AVal.ptr (1 : Nat) (0 : Nat)), ((10 : Nat), AVal.ptr (2 : Nat) (0 : Nat)),
 ((81 : Nat), AVal.sl (3 : Nat) (0 : Nat) (2 : Nat) (1 : Nat)), ((82 : Nat), AVal.int IntKind.i64 (2 : Int)),
 ((83 : Nat), AVal.int IntKind.i64 (2 : Int))]
 [ABlk.vals
 [AVal.int IntKind.i64 c.id, AVal.int IntKind.i64 c.pri, AVal.int IntKind.i64 c.every, AVal.bool true,
 AVal.str c.src, AVal.ro (List.length c.addrs) (1 : Nat) fun i => [AVal.str (List.getD c.addrs i [])]],
 ABlk.vals
 [AVal.int IntKind.i64 c.id, AVal.int IntKind.i64 c.pri, AVal.int IntKind.i64 c.every, AVal.bool true,
 AVal.str c.src, AVal.ro (List.length c.addrs) (1 : Nat) fun i => [AVal.str (List.getD c.addrs i [])],
 AVal.int IntKind.i64 sa, AVal.int IntKind.i64 pa, AVal.int IntKind.i64 wa,
 AVal.sl (4 : Nat) (0 : Nat) (0 : Nat) (5 : Nat)],
 ABlk.vals
 [AVal.int IntKind.i64 c.id, AVal.int IntKind.i64 o, AVal.int IntKind.i64 c.every, AVal.bool true, AVal.str s,
 AVal.ro (List.length c.addrs) (1 : Nat) fun i => [AVal.str (List.getD c.addrs i [])], AVal.int IntKind.i64 sb,
 AVal.int IntKind.i64 pb, AVal.int IntKind.i64 wb, AVal.sl (5 : Nat) (0 : Nat) (0 : Nat) (5 : Nat)],
 ABlk.vals [AVal.ptr (1 : Nat) (0 : Nat), AVal.ptr (2 : Nat) (0 : Nat)], ABlk.flat [], ABlk.flat []])))) := by kernel_rfl

theorem less_tri : ∀ (a b : List UInt8), a ≠ b → Op.bytesLess a b = !Op.bytesLess b a
  | [], [], h => absurd rfl h
  | [], _ :: _, _ => rfl
  | _ :: _, [], _ => rfl
  | x :: a, y :: b, h => by
    unfold Op.bytesLess
    by_cases e : x = y
    · subst e
      have ih := less_tri a b (fun q => h (by rw [q]))
      simp [ih]
    · have hne : x.toNat ≠ y.toNat := fun q => e (UInt8.toNat_inj.1 q)
      have e' : ¬ y = x := fun q => e q.symm
      by_cases l : x.toNat < y.toNat
      · simp [UInt8.lt_iff_toNat_lt, l, e, e', Nat.not_lt_of_lt l]
      · have l2 : y.toNat < x.toNat := by omega
        simp [UInt8.lt_iff_toNat_lt, l, l2, e, e']
theorem yields_tick {x : VX} {D q : Int} (h : x.m.st = 2 ∧ x.m.wait = D - q ∨ x.m.st = 3) : (vrTick x).m.st = 2 ∧ (vrTick x).m.wait = D - (q + 1) ∨ (vrTick x).m.st = 3 := by
  unfold vrTick
  rw [if_neg (by omega)]
  split
  · rcases h with h | h
    · exact .inl ⟨h.1, by show x.m.wait - 1 = _; omega⟩
    · exact .inr h
  · split
    · exact .inr rfl
    · exact .inr (by show x.m.st = 3; omega)
theorem yields_pri {x : VX} : (vrTick x).m.pri = x.m.pri := by
  unfold vrTick
  repeat' split
  all_goals rfl
theorem yields_start {id pri every : Int} {pre : Bool} {src : List UInt8} {n : Nat} {f : Nat → List AVal} (hp : pri ≠ 255) : vrStart ⟨⟨id, pri, every, pre, src, n, f, 1, every, 0⟩, [], 0⟩ = vrFollow every ⟨⟨id, pri, every, pre, src, n, f, 1, every, 0⟩, [], 0⟩ := by
  unfold vrStart
  rw [if_neg (by simp), if_neg hp]
theorem yields_down {p e : Int} (hp : 1 ≤ p ∧ p ≤ 255) (he : 1 ≤ e ∧ e ≤ 4095) : 1 ≤ 3 * vrPace e + vrSkew p (vrPace e) ∧ 3 * vrPace e + vrSkew p (vrPace e) < 4 * e := by
  rw [vrPace_id he, vrSkew_pos ⟨by omega, by omega⟩ he]
  have h1 : 0 ≤ (256 - p) * e := Int.mul_nonneg (by omega) (by omega)
  have h2 : (256 - p) * e ≤ 255 * e := Int.mul_le_mul_of_nonneg_right (by omega) (by omega)
  omega
theorem yields_take {x : VX} (s : List UInt8) (p e : Int) (hs : x.m.st = 3) (hp : p ≠ 0) : decide ((vrTake s ⟨x.m.id, p, e, []⟩ x).m.st = 3) = !(decide (x.m.pri < p) || decide (p = x.m.pri) && !(Op.bytesLess s x.m.src || decide (s = x.m.src))) := by
  unfold vrTake
  rw [if_neg (fun h => h rfl), if_neg (by omega), if_pos hs, if_neg hp]
  by_cases h : x.m.pri < p ∨ (p = x.m.pri ∧ (Op.bytesLess s x.m.src = false ∧ s ≠ x.m.src))
  · rw [if_pos h]
    have : decide (x.m.pri < p) || decide (p = x.m.pri) && !(Op.bytesLess s x.m.src || decide (s = x.m.src)) := by simpa using h
    rw [this]; rfl
  · rw [if_neg h]
    have : (decide (x.m.pri < p) || decide (p = x.m.pri) && !(Op.bytesLess s x.m.src || decide (s = x.m.src))) = false := by
      rw [Bool.eq_false_iff]
      intro hh
      exact h (by simpa using hh)
    rw [this, hs]; rfl
attribute [local irreducible] VrrpYields_lp_n VrrpYields_lp_b VrrpYields_in_n VrrpYields_in_b

theorem yields_a (c : Cfg) (o : Int) (s : List UInt8) (sb pb wb : Int) (m D : Int) (hD : D < m ∧ m ≤ 20000) (I : St → Prop) (K : AVal → Hp → Prop)
    (hI : ∀ pX wX : Int, VOk ⟨⟨c.id, c.pri, c.every, true, c.src, c.addrs.length, fun i => [AVal.str (c.addrs.getD i [])], 3, pX, wX⟩, [], 0⟩ → I (St.mk [(1, .int .i64 o), (2, .str s), (3, .ptr 0 0), (8, .ptr 1 0), (10, .ptr 2 0), (81, .sl 3 0 2 1), (82, .int .i64 2), (83, .int .i64 1)] [.vals [.int .i64 c.id, .int .i64 c.pri, .int .i64 c.every, .bool true, .str c.src, .ro c.addrs.length 1 (fun i => [.str (c.addrs.getD i [])])], .vals [.int .i64 c.id, .int .i64 c.pri, .int .i64 c.every, .bool true, .str c.src, .ro c.addrs.length 1 (fun i => [.str (c.addrs.getD i [])]), .int .i64 3, .int .i64 pX, .int .i64 wX, .sl 4 0 0 5], .vals [.int .i64 c.id, .int .i64 o, .int .i64 c.every, .bool true, .str s, .ro c.addrs.length 1 (fun i => [.str (c.addrs.getD i [])]), .int .i64 sb, .int .i64 pb, .int .i64 wb, .sl 5 0 0 5], .vals [.ptr 1 0, .ptr 2 0], .flat [], .flat []])) : ∀ (j : Nat) (q sa pa wa : Int) (k : Nat) (cs : List AVal), 0 ≤ q → q + (j : Int) = m → (k : Int) ≤ 2 * q + 2 → VOk ⟨⟨c.id, c.pri, c.every, true, c.src, c.addrs.length, fun i => [AVal.str (c.addrs.getD i [])], sa, pa, wa⟩, cs, k⟩ → (sa = 2 ∧ wa = D - q ∨ sa = 3) →
    VrrpYields_in_n I K (j + 1) (St.mk [(1, .int .i64 o), (2, .str s), (3, .ptr 0 0), (8, .ptr 1 0), (10, .ptr 2 0), (13, .ptr 1 0), (81, .sl 3 0 2 1), (82, .int .i64 2), (83, .int .i64 0), (91, .int .i64 m), (92, .int .i64 q)] [.vals [.int .i64 c.id, .int .i64 c.pri, .int .i64 c.every, .bool true, .str c.src, .ro c.addrs.length 1 (fun i => [.str (c.addrs.getD i [])])], .vals [.int .i64 c.id, .int .i64 c.pri, .int .i64 c.every, .bool true, .str c.src, .ro c.addrs.length 1 (fun i => [.str (c.addrs.getD i [])]), .int .i64 sa, .int .i64 pa, .int .i64 wa, .sl 4 0 k 5], .vals [.int .i64 c.id, .int .i64 o, .int .i64 c.every, .bool true, .str s, .ro c.addrs.length 1 (fun i => [.str (c.addrs.getD i [])]), .int .i64 sb, .int .i64 pb, .int .i64 wb, .sl 5 0 0 5], .vals [.ptr 1 0, .ptr 2 0], .flat cs, .flat []])
  | 0, q, sa, pa, wa, k, cs, h0, h, hk, hok, hs => by
    refine VrrpYields_in_next ?_
    rw [VrrpYields_ia]
    have hw := hok.run
    simp only at hw
    refine brP_d (fun h' => by omega) (fun _ => ?_)
    have h3 : sa = 3 := by omega
    subst h3
    exact brP_nd (fun h => absurd rfl h) (fun _ => ⟨by unfold I64; omega, hI _ _ ⟨hok.every, hok.pri, hok.pace, hok.st, hok.wait, hok.run, hok.n, rfl, by simp⟩⟩)
  | j + 1, q, sa, pa, wa, k, cs, h0, h, hk, hok, hs => by
    refine VrrpYields_in_next ?_
    rw [VrrpYields_ia]
    have tv := vrTick_ok hok (by simp only; omega)
    have tk := vrTick_k (x := ⟨⟨c.id, c.pri, c.every, true, c.src, c.addrs.length, fun i => [AVal.str (c.addrs.getD i [])], sa, pa, wa⟩, cs, k⟩)
    have tc := tick_cfg (x := ⟨⟨c.id, c.pri, c.every, true, c.src, c.addrs.length, fun i => [AVal.str (c.addrs.getD i [])], sa, pa, wa⟩, cs, k⟩)
    have tp := yields_pri (x := ⟨⟨c.id, c.pri, c.every, true, c.src, c.addrs.length, fun i => [AVal.str (c.addrs.getD i [])], sa, pa, wa⟩, cs, k⟩)
    have tt := yields_tick (x := ⟨⟨c.id, c.pri, c.every, true, c.src, c.addrs.length, fun i => [AVal.str (c.addrs.getD i [])], sa, pa, wa⟩, cs, k⟩) (D := D) (q := q) hs
    have hw := hok.vbw (by simp only; omega)
    refine brP_d (fun _ => ⟨hw, by unfold I64; omega, ?_⟩) (fun h' => by omega)
    generalize vrTick ⟨⟨c.id, c.pri, c.every, true, c.src, c.addrs.length, fun i => [AVal.str (c.addrs.getD i [])], sa, pa, wa⟩, cs, k⟩ = Y at *
    obtain ⟨⟨y1, y2, y3, y4, y5, y6, y7, y8, y9, y10⟩, yo, yk⟩ := Y
    obtain ⟨g1, g2, g3, g4, g5, g6⟩ := tc
    simp only at g1 g2 g3 g4 g5 g6 tp tk tt
    have g4 := g4.symm
    have tp := tp.symm
    subst g1 g2 g3 g4 g5 g6 tp
    exact yields_a c o s sb pb wb m D hD I K hI j (q + 1) _ _ _ _ _ (by omega) (by omega) (by simp only; omega) tv tt

theorem yields_b (c : Cfg) (o : Int) (s : List UInt8) (sa pa wa : Int) (m D : Int) (hD : D < m ∧ m ≤ 20000) (I : St → Prop) (K : AVal → Hp → Prop)
    (hI : ∀ pX wX : Int, VOk ⟨⟨c.id, o, c.every, true, s, c.addrs.length, fun i => [AVal.str (c.addrs.getD i [])], 3, pX, wX⟩, [], 0⟩ → I (St.mk [(1, .int .i64 o), (2, .str s), (3, .ptr 0 0), (8, .ptr 1 0), (10, .ptr 2 0), (81, .sl 3 0 2 1), (82, .int .i64 2), (83, .int .i64 2)] [.vals [.int .i64 c.id, .int .i64 c.pri, .int .i64 c.every, .bool true, .str c.src, .ro c.addrs.length 1 (fun i => [.str (c.addrs.getD i [])])], .vals [.int .i64 c.id, .int .i64 c.pri, .int .i64 c.every, .bool true, .str c.src, .ro c.addrs.length 1 (fun i => [.str (c.addrs.getD i [])]), .int .i64 sa, .int .i64 pa, .int .i64 wa, .sl 4 0 0 5], .vals [.int .i64 c.id, .int .i64 o, .int .i64 c.every, .bool true, .str s, .ro c.addrs.length 1 (fun i => [.str (c.addrs.getD i [])]), .int .i64 3, .int .i64 pX, .int .i64 wX, .sl 5 0 0 5], .vals [.ptr 1 0, .ptr 2 0], .flat [], .flat []])) : ∀ (j : Nat) (q sb pb wb : Int) (k : Nat) (cs : List AVal), 0 ≤ q → q + (j : Int) = m → (k : Int) ≤ 2 * q + 2 → VOk ⟨⟨c.id, o, c.every, true, s, c.addrs.length, fun i => [AVal.str (c.addrs.getD i [])], sb, pb, wb⟩, cs, k⟩ → (sb = 2 ∧ wb = D - q ∨ sb = 3) →
    VrrpYields_in_n I K (j + 1) (St.mk [(1, .int .i64 o), (2, .str s), (3, .ptr 0 0), (8, .ptr 1 0), (10, .ptr 2 0), (13, .ptr 2 0), (81, .sl 3 0 2 1), (82, .int .i64 2), (83, .int .i64 1), (91, .int .i64 m), (92, .int .i64 q)] [.vals [.int .i64 c.id, .int .i64 c.pri, .int .i64 c.every, .bool true, .str c.src, .ro c.addrs.length 1 (fun i => [.str (c.addrs.getD i [])])], .vals [.int .i64 c.id, .int .i64 c.pri, .int .i64 c.every, .bool true, .str c.src, .ro c.addrs.length 1 (fun i => [.str (c.addrs.getD i [])]), .int .i64 sa, .int .i64 pa, .int .i64 wa, .sl 4 0 0 5], .vals [.int .i64 c.id, .int .i64 o, .int .i64 c.every, .bool true, .str s, .ro c.addrs.length 1 (fun i => [.str (c.addrs.getD i [])]), .int .i64 sb, .int .i64 pb, .int .i64 wb, .sl 5 0 k 5], .vals [.ptr 1 0, .ptr 2 0], .flat [], .flat cs])
  | 0, q, sb, pb, wb, k, cs, h0, h, hk, hok, hs => by
    refine VrrpYields_in_next ?_
    rw [VrrpYields_ib]
    have hw := hok.run
    simp only at hw
    refine brP_d (fun h' => by omega) (fun _ => ?_)
    have h3 : sb = 3 := by omega
    subst h3
    exact brP_nd (fun h => absurd rfl h) (fun _ => ⟨by unfold I64; omega, hI _ _ ⟨hok.every, hok.pri, hok.pace, hok.st, hok.wait, hok.run, hok.n, rfl, by simp⟩⟩)
  | j + 1, q, sb, pb, wb, k, cs, h0, h, hk, hok, hs => by
    refine VrrpYields_in_next ?_
    rw [VrrpYields_ib]
    have tv := vrTick_ok hok (by simp only; omega)
    have tk := vrTick_k (x := ⟨⟨c.id, o, c.every, true, s, c.addrs.length, fun i => [AVal.str (c.addrs.getD i [])], sb, pb, wb⟩, cs, k⟩)
    have tc := tick_cfg (x := ⟨⟨c.id, o, c.every, true, s, c.addrs.length, fun i => [AVal.str (c.addrs.getD i [])], sb, pb, wb⟩, cs, k⟩)
    have tp := yields_pri (x := ⟨⟨c.id, o, c.every, true, s, c.addrs.length, fun i => [AVal.str (c.addrs.getD i [])], sb, pb, wb⟩, cs, k⟩)
    have tt := yields_tick (x := ⟨⟨c.id, o, c.every, true, s, c.addrs.length, fun i => [AVal.str (c.addrs.getD i [])], sb, pb, wb⟩, cs, k⟩) (D := D) (q := q) hs
    have hw := hok.vbw (by simp only; omega)
    refine brP_d (fun _ => ⟨hw, by unfold I64; omega, ?_⟩) (fun h' => by omega)
    generalize vrTick ⟨⟨c.id, o, c.every, true, s, c.addrs.length, fun i => [AVal.str (c.addrs.getD i [])], sb, pb, wb⟩, cs, k⟩ = Y at *
    obtain ⟨⟨y1, y2, y3, y4, y5, y6, y7, y8, y9, y10⟩, yo, yk⟩ := Y
    obtain ⟨g1, g2, g3, g4, g5, g6⟩ := tc
    simp only at g1 g2 g3 g4 g5 g6 tp tk tt
    have g4 := g4.symm
    have tp := tp.symm
    subst g1 g2 g3 g4 g5 g6 tp
    exact yields_b c o s sa pa wa m D hD I K hI j (q + 1) _ _ _ _ _ (by omega) (by omega) (by simp only; omega) tv tt
attribute [local irreducible] fnP in
theorem vrrpYields.core (c : Cfg) (o : Int) (s : List UInt8) (h_c : CfgOk c) (h_o : -9223372036854775808 ≤ o ∧ o ≤ 9223372036854775807) (h_s : s.length ≤ 140737488351232) :
    fnP Try.prog Tlw ann_outriderlaw13_VrrpYields Try.f6 [.agg (cfgCells c), .int .i64 o, .str s] [] (fun v _ => v = .bool true) := by
  rw [VrrpYields_eq]
  obtain ⟨c1, c2, c3, c4, c5⟩ := h_c
  refine brP_i (fun _ => rfl) (fun hl => ?_)
  simp only [Bool.and_eq_true, Bool.or_eq_true, Bool.and_eq_false_iff, Bool.or_eq_false_iff, decide_eq_true_eq, decide_eq_false_iff_not, Bool.not_eq_true', Bool.not_eq_false', Bool.not_true, Bool.not_false, Bool.true_and, Bool.and_true, Bool.false_or, Bool.or_false, beq_iff_eq, beq_eq_false_iff_ne, ne_eq] at hl
  obtain ⟨⟨⟨⟨⟨l1, l2⟩, l3⟩, l4⟩, l5⟩, l6⟩ := hl
  refine ⟨⟨isStrs_of _ _, by omega⟩, brP_i (fun hr => ?_) (fun _ => ⟨⟨isStrs_of _ _, by omega⟩, brP_i (fun _ => rfl) (fun _ => rfl)⟩)⟩
  rw [Bool.and_eq_true] at hr
  refine ⟨⟨isStrs_of _ _, by omega⟩, brP_i (fun hq => ?_) (fun _ => rfl)⟩
  rw [Bool.and_eq_true] at hq
  obtain ⟨hok, hp⟩ := new_ok true (f := fun i => [AVal.str (c.addrs.getD i [])]) hr.1 (by simpa using hr.2)
  obtain ⟨hob, hpb⟩ := new_ok true (f := fun i => [AVal.str (c.addrs.getD i [])]) hq.1 (by simpa using hq.2)
  have a1 := hok.pri
  have b1 := hob.pri
  have e1 := hok.every
  simp only at a1 b1 e1
  have da := yields_down a1 e1
  have db := yields_down b1 e1
  refine ⟨3, VrrpYields_lp_next ?_⟩
  rw [VrrpYields_y0]
  rw [yields_start l1]
  refine ⟨by omega, hok.vb (by simp), by unfold I64; omega, ((4 * c.every).toNat + 1), ?_⟩
  refine yields_a c o s 1 c.every 0 (4 * c.every) (3 * vrPace c.every + vrSkew c.pri (vrPace c.every)) ⟨by omega, by omega⟩ _ _ ?_ (4 * c.every).toNat 0 _ _ _ _ _ (by omega) (by omega) (by show ((0 : Nat) : Int) ≤ _; omega) (vrFollow_ok hok _) (.inl ⟨rfl, by show 3 * vrPace c.every + vrSkew c.pri (vrPace c.every) = _ - 0; omega⟩)
  intro pX wX va
  refine VrrpYields_lp_next ?_
  rw [VrrpYields_y1]
  rw [yields_start (by omega)]
  refine ⟨by omega, hob.vb (by simp), by unfold I64; omega, ((4 * c.every).toNat + 1), ?_⟩
  refine yields_b c o s 3 pX wX (4 * c.every) (3 * vrPace c.every + vrSkew o (vrPace c.every)) ⟨by omega, by omega⟩ _ _ ?_ (4 * c.every).toNat 0 _ _ _ _ _ (by omega) (by omega) (by show ((0 : Nat) : Int) ≤ _; omega) (vrFollow_ok hob _) (.inl ⟨rfl, by show 3 * vrPace c.every + vrSkew o (vrPace c.every) = _ - 0; omega⟩)
  intro pY wY vb
  refine VrrpYields_lp_next ?_
  rw [VrrpYields_y2]
  refine ⟨va.vb (by simp), vb.vb (by simp), ?_⟩
  have ta := yields_take (x := ⟨⟨c.id, c.pri, c.every, true, c.src, c.addrs.length, fun i => [AVal.str (c.addrs.getD i [])], 3, pX, wX⟩, [], 0⟩) s o c.every rfl (by omega)
  have tb := yields_take (x := ⟨⟨c.id, o, c.every, true, s, c.addrs.length, fun i => [AVal.str (c.addrs.getD i [])], 3, pY, wY⟩, [], 0⟩) c.src c.pri c.every rfl (by omega)
  simp only at ta tb
  rw [ta, tb]
  have lt := less_tri s c.src l4
  have ne : decide (s = c.src) = false := decide_eq_false l4
  have ne2 : decide (c.src = s) = false := decide_eq_false (fun h => l4 h.symm)
  rw [ne, ne2, lt]
  have t1 : decide (o = c.pri) = decide (c.pri = o) := by rw [decide_eq_decide]; exact eq_comm
  rw [t1]
  have t2 : (!(decide (c.pri < o) || decide (c.pri = o) && !(!Op.bytesLess c.src s || false))) = (decide (o < c.pri) || decide (c.pri = o) && !(Op.bytesLess c.src s || false)) := by
    cases Op.bytesLess c.src s <;> by_cases h1 : c.pri < o <;> by_cases h2 : c.pri = o <;> by_cases h3 : o < c.pri <;> simp [h1, h2, h3] <;> omega
  rw [t2]
  refine brP_d (fun _ => ?_) (fun h => absurd rfl h)
  simp
end Go.Proofs.Ytldfkjjjjfbbmaa.Ae
namespace Go.Proofs.Ytldfkjjjjfbbmaa
open Go Go.RowKit Ae
attribute [local irreducible] fnP in
set_option maxRecDepth 100000 in
theorem vrrpYields.walk {H : Type} {enc : TypeId × Value → H} (W : World) (args : Array Value) (hn : args.size = 3)
    (h : ∀ (j : Nat) t v, Try.f6.params[j]? = some t → args[j]? = some v → RdV enc false Try.prog W t v) :
    Calls Try.prog 6 args W fun e w' => e = .returned (.bool true) ∧ Below W.heap.size W w' := by
  obtain ⟨v0, v1, v2, rfl⟩ := args3 hn
  obtain ⟨c, h_c, hv0⟩ := arg_struct (b := false) (.inl ⟨_, Try.underlying28⟩) open_cfg (h 0 28 v0 rfl rfl)
  obtain ⟨o, rfl, h_o, hv1⟩ := arg_int (b := false) (m := Mp.nil) (G := []) Try.underlying3 (h 1 3 v1 rfl rfl)
  obtain ⟨s, h_s, hv2⟩ := arg_str (b := false) (m := Mp.nil) (G := []) Try.underlying25 (h 2 25 v2 rfl rfl)
  obtain ⟨r, H1, hr, hG⟩ := fn_sound Tlw_sound mixed Try.func6 (by decide +kernel) (vrrpYields.core c o s h_c (i64_bd h_o) (len_lim h_s))
  subst hr
  exact law_walk hG (vl_cons hv0 (vl_cons hv1 (vl_cons hv2 vl_nil)))

namespace vrrpYields
theorem spec {H : Type} (ds : List (DataW H)) (h : ds.length = Try.f6.params.size) : Rows.vrrpYieldsSpec.fn H ds = { results := [.lit (.bool true)], args := ds } := by
  have h' : ds.length = 3 := h
  match ds, h' with
  | [_, _, _], _ => rfl

set_option maxRecDepth 100000 in
theorem lifted (os : Os) (started : os.Started) (H : Type) (enc : TypeId × Value → H) :
    ReturnsInHanded {} Try.checked os 6 .any (Rows.vrrpYieldsSpec.pre6 enc Try.prog Try.f6 Rows.vrrpYieldsRow.domain false) (Rows.vrrpYieldsSpec.post enc Try.prog Try.f6 false true false false) :=
  lifted_said (C := Try.checked) (tb := 4) own started (by kernel_rfl) Try.func6
    (ChangeSpec.witness6 (enc := enc) (C := Try.checked) false ⟨#[], #[.agg #[.int .i64 0, .int .i64 0, .int .i64 0, .bool false, .string .empty, .slice none 0 0], .int .i64 0, .string .empty], []⟩ 8 (by kernel_rfl) (by kernel_rfl) (by kernel_rfl) (by kernel_rfl))
    rfl spec rfl Try.underlying4 laidOut (by kernel_rfl) walk

theorem over : Rows.vrrpYieldsRow.holds Try.pinned (OpenSpec.ofChange Rows.vrrpYieldsSpec) :=
  OpenClaim.holds_of_wide 6 Try.f6 rfl rfl rfl rfl rfl rfl rfl ⟨rfl, rfl, rfl, rfl, rfl⟩ rfl rfl rfl rfl rfl (by kernel_rfl) Try.func6 (by kernel_rfl)
    (of_decide_eq_true (by kernel_rfl)) (by unfold Func.isWrapper; first | (rw [if_pos (by decide +kernel)]; kernel_rfl) | (rw [if_neg (by decide +kernel)]; exact ⟨rfl, rfl⟩))
    (fun os started H enc _ => lifted os started H enc)

theorem proved : Rows.VrrpYieldsSaid := over
#print axioms proved
end vrrpYields

end Go.Proofs.Ytldfkjjjjfbbmaa

