/- VrrpSends: a master sends at each so many ticks, with its own priority, and claims its addresses once. No conditions. -/
import Derived.Test.YtldfkjjjjfbbmaaAr13
set_option linter.unusedSimpArgs false
set_option linter.unusedVariables false
set_option maxRecDepth 100000
namespace Go.Proofs.Ytldfkjjjjfbbmaa.Ae
open Go Go.RowKit
def ann_outriderlaw13_VrrpSends : Nat → List Nat × Nat × List (List Nat)
  | 9 => ([1, 2, 5, 7, 35, 36], 0, [])
  | 12 => ([1, 2, 5, 7, 35, 36, 41, 42, 43], 0, [])
  | 2000003 => ([], 15, [[], [0], [0, 1], [0, 1, 2], [0, 1, 2, 3], [0, 1, 2, 3, 4], [0, 1, 2, 3, 4, 5], [0, 1, 2, 3, 4, 5, 6], [0, 1, 2, 3, 4, 5, 6, 7], [0, 1, 2, 3, 4, 5, 6, 7, 8], [0, 1, 2, 3, 4, 5, 6, 7, 8, 9], [0, 1, 2, 3, 4, 5, 6, 7, 8, 9, 10], [0, 1, 2, 3, 4, 5, 6, 7, 8, 9, 10, 11], [0, 1, 2, 3, 4, 5, 6, 7, 8, 9, 10, 11, 12]])
  | 2000014 => ([], 18, [[], [0], [0, 1], [0, 1, 2], [0, 1, 2, 3], [0, 1, 2, 3, 4], [0, 1, 2, 3, 4, 5], [0, 1, 2, 3, 4, 5, 6], [0, 1, 2, 3, 4, 5, 6, 7], [0, 1, 2, 3, 4, 5, 6, 7, 8], [0, 1, 2, 3, 4, 5, 6, 7, 8, 9], [0, 1, 2, 3, 4, 5, 6, 7, 8, 9, 10], [0, 1, 2, 3, 4, 5, 6, 7, 8, 9, 10, 11], [0, 1, 2, 3, 4, 5, 6, 7, 8, 9, 10, 11, 12], [0, 1, 2, 3, 4, 5, 6, 7, 8, 9, 10, 11, 12, 13], [0, 1, 2, 3, 4, 5, 6, 7, 8, 9, 10, 11, 12, 13, 14], [0, 1, 2, 3, 4, 5, 6, 7, 8, 9, 10, 11, 12, 13, 14, 15]])
  | _ => ([], 0, [])
noncomputable abbrev VrrpSends_lp_X : Cx := ⟨Try.prog, Tlw, Try.f4.ntmps, 0, ann_outriderlaw13_VrrpSends⟩
noncomputable def VrrpSends_lp_c : Code := cAt [.r, .r, .r, .r, .r, .r, .r, .l, .r, .b] (bodyOf Try.f4)
noncomputable def VrrpSends_lp_k (K : AVal → Hp → Prop) : Post := kAt VrrpSends_lp_X [.r, .r, .r, .r, .r, .r, .r, .l, .r, .b] (bodyOf Try.f4) (fnK Try.prog 0 Try.f4.results.toList K)
def VrrpSends_lp_n (K : AVal → Hp → Prop) (n : Nat) (s : St) : Prop := loopP (awp VrrpSends_lp_X (loopB VrrpSends_lp_c)) 0 [1, 2, 5, 7, 35, 36] n s (VrrpSends_lp_k K)
def VrrpSends_lp (K : AVal → Hp → Prop) (s : St) : Prop := ∃ n, VrrpSends_lp_n K n s
def VrrpSends_lp_b (K : AVal → Hp → Prop) (J : St → Prop) (s : St) : Prop := awp VrrpSends_lp_X (loopB VrrpSends_lp_c) s (seqK (fun s' => normK 0 [1, 2, 5, 7, 35, 36] s' J) (VrrpSends_lp_k K))
theorem VrrpSends_lp_next {K : AVal → Hp → Prop} {n : Nat} {s : St} (h : VrrpSends_lp_b K (fun s' => VrrpSends_lp_n K n s') s) : VrrpSends_lp_n K (n + 1) s := h
noncomputable abbrev VrrpSends_in_X : Cx := ⟨Try.prog, Tlw, Try.f4.ntmps, 0, ann_outriderlaw13_VrrpSends⟩
noncomputable def VrrpSends_in_c : Code := cAt [.r, .r, .l, .b, .r, .r, .b] (loopB VrrpSends_lp_c)
noncomputable def VrrpSends_in_k (I : St → Prop) (K : AVal → Hp → Prop) : Post := kAt VrrpSends_in_X [.r, .r, .l, .b, .r, .r, .b] (loopB VrrpSends_lp_c) (seqK (fun s' => normK 0 [1, 2, 5, 7, 35, 36] s' I) (VrrpSends_lp_k K))
def VrrpSends_in_n (I : St → Prop) (K : AVal → Hp → Prop) (n : Nat) (s : St) : Prop := loopP (awp VrrpSends_in_X (loopB VrrpSends_in_c)) 0 [1, 2, 5, 7, 35, 36, 41, 42, 43] n s (VrrpSends_in_k I K)
def VrrpSends_in (I : St → Prop) (K : AVal → Hp → Prop) (s : St) : Prop := ∃ n, VrrpSends_in_n I K n s
def VrrpSends_in_b (I : St → Prop) (K : AVal → Hp → Prop) (J : St → Prop) (s : St) : Prop := awp VrrpSends_in_X (loopB VrrpSends_in_c) s (seqK (fun s' => normK 0 [1, 2, 5, 7, 35, 36, 41, 42, 43] s' J) (VrrpSends_in_k I K))
theorem VrrpSends_in_next {I : St → Prop} {K : AVal → Hp → Prop} {n : Nat} {s : St} (h : VrrpSends_in_b I K (fun s' => VrrpSends_in_n I K n s') s) : VrrpSends_in_n I K (n + 1) s := h
set_option maxRecDepth 100000 in
theorem VrrpSends_eq (c : Cfg) (t : Int) (K : AVal → Hp → Prop) : fnP Try.prog Tlw ann_outriderlaw13_VrrpSends Try.f4 [.agg (cfgCells c), .int .i64 t] [] K = (
 ((IsStrs (List.length c.addrs) fun i => [AVal.str (List.getD c.addrs i [])]) ∧
 List.length c.addrs ≤ (8796093022000 : Nat)) ∧
 brP
 (adRight (Adv.mk c.id (255 : Int) c.every (strs (List.length c.addrs) fun i => [AVal.str (List.getD c.addrs i [])]))
 c.src &&
 true)
 (brP (decide (t < (0 : Int)) || decide ((5000 : Int) < t)) (K (AVal.bool true) [])
 (VB
 (VX.mk
 (VM.mk c.id (255 : Int) c.every c.pre c.src (List.length c.addrs) (fun i => [AVal.str (List.getD c.addrs i [])])
 (1 : Int) c.every (0 : Int))
 [] (0 : Nat)) ∧
 VrrpSends_lp K
 (St.mk
 [((1 : Nat), AVal.int IntKind.i64 t), ((2 : Nat), AVal.ptr (0 : Nat) (0 : Nat)),
 ((5 : Nat), AVal.ptr (1 : Nat) (0 : Nat)), ((7 : Nat), AVal.int IntKind.i64 (0 : Int)),
 ((35 : Nat), AVal.int IntKind.i64 t), ((36 : Nat), AVal.int IntKind.i64 (0 : Int))]
 [ABlk.vals
 [AVal.int IntKind.i64 c.id, AVal.int IntKind.i64 (255 : Int), AVal.int IntKind.i64 c.every, AVal.bool c.pre,
 AVal.str c.src, AVal.ro (List.length c.addrs) (1 : Nat) fun i => [AVal.str (List.getD c.addrs i [])]],
 ABlk.vals
 [AVal.int IntKind.i64
 (vrStart
 (VX.mk
 (VM.mk c.id (255 : Int) c.every c.pre c.src (List.length c.addrs)
 (fun i => [AVal.str (List.getD c.addrs i [])]) (1 : Int) c.every (0 : Int))
 [] (0 : Nat))).m.id,
 AVal.int IntKind.i64
 (vrStart
 (VX.mk
 (VM.mk c.id (255 : Int) c.every c.pre c.src (List.length c.addrs)
 (fun i => [AVal.str (List.getD c.addrs i [])]) (1 : Int) c.every (0 : Int))
 [] (0 : Nat))).m.pri,
 AVal.int IntKind.i64
 (vrStart
 (VX.mk
 (VM.mk c.id (255 : Int) c.every c.pre c.src (List.length c.addrs)
 (fun i => [AVal.str (List.getD c.addrs i [])]) (1 : Int) c.every (0 : Int))
 [] (0 : Nat))).m.every,
 AVal.bool
 (vrStart
 (VX.mk
 (VM.mk c.id (255 : Int) c.every c.pre c.src (List.length c.addrs)
 (fun i => [AVal.str (List.getD c.addrs i [])]) (1 : Int) c.every (0 : Int))
 [] (0 : Nat))).m.pre,
 AVal.str
 (vrStart
 (VX.mk
 (VM.mk c.id (255 : Int) c.every c.pre c.src (List.length c.addrs)
 (fun i => [AVal.str (List.getD c.addrs i [])]) (1 : Int) c.every (0 : Int))
 [] (0 : Nat))).m.src,
 AVal.ro
 (vrStart
 (VX.mk
 (VM.mk c.id (255 : Int) c.every c.pre c.src (List.length c.addrs)
 (fun i => [AVal.str (List.getD c.addrs i [])]) (1 : Int) c.every (0 : Int))
 [] (0 : Nat))).m.n
 (1 : Nat)
 (vrStart
 (VX.mk
 (VM.mk c.id (255 : Int) c.every c.pre c.src (List.length c.addrs)
 (fun i => [AVal.str (List.getD c.addrs i [])]) (1 : Int) c.every (0 : Int))
 [] (0 : Nat))).m.f,
 AVal.int IntKind.i64
 (vrStart
 (VX.mk
 (VM.mk c.id (255 : Int) c.every c.pre c.src (List.length c.addrs)
 (fun i => [AVal.str (List.getD c.addrs i [])]) (1 : Int) c.every (0 : Int))
 [] (0 : Nat))).m.st,
 AVal.int IntKind.i64
 (vrStart
 (VX.mk
 (VM.mk c.id (255 : Int) c.every c.pre c.src (List.length c.addrs)
 (fun i => [AVal.str (List.getD c.addrs i [])]) (1 : Int) c.every (0 : Int))
 [] (0 : Nat))).m.pace,
 AVal.int IntKind.i64
 (vrStart
 (VX.mk
 (VM.mk c.id (255 : Int) c.every c.pre c.src (List.length c.addrs)
 (fun i => [AVal.str (List.getD c.addrs i [])]) (1 : Int) c.every (0 : Int))
 [] (0 : Nat))).m.wait,
 AVal.sl (2 : Nat) (0 : Nat) (0 : Nat) (5 : Nat)],
 ABlk.flat []])))
 (K (AVal.bool true) [])) := by kernel_rfl
set_option maxRecDepth 100000 in
theorem VrrpSends_lp_step (c : Cfg) (t mn m i : Int) (id pri every : Int) (pre : Bool) (src : List UInt8) (n : Nat) (f : Nat → List AVal) (st pace wait : Int) (K : AVal → Hp → Prop) (J : St → Prop) : VrrpSends_lp_b K J (St.mk [(1, .int .i64 t), (2, .ptr 0 0), (5, .ptr 1 0), (7, .int .i64 mn), (35, .int .i64 m), (36, .int .i64 i)] [.vals [.int .i64 c.id, .int .i64 255, .int .i64 c.every, .bool c.pre, .str c.src, .ro c.addrs.length 1 (fun i => [.str (c.addrs.getD i [])])], .vals [.int .i64 id, .int .i64 pri, .int .i64 every, .bool pre, .str src, .ro n 1 f, .int .i64 st, .int .i64 pace, .int .i64 wait, .sl 2 0 0 5], .flat []]) = (
 brP (decide (i < m))
 (VBw (VX.mk (VM.mk id pri every pre src n f st pace wait) [] (0 : Nat)) ∧
 VrrpSends_in J K
 (St.mk
 [((1 : Nat), AVal.int IntKind.i64 t), ((2 : Nat), AVal.ptr (0 : Nat) (0 : Nat)),
 ((5 : Nat), AVal.ptr (1 : Nat) (0 : Nat)), ((7 : Nat), AVal.int IntKind.i64 mn),
 ((35 : Nat), AVal.int IntKind.i64 m), ((36 : Nat), AVal.int IntKind.i64 i),
 ((41 : Nat),
 AVal.ro (vrTick (VX.mk (VM.mk id pri every pre src n f st pace wait) [] (0 : Nat))).k (5 : Nat)
 (rowsOf (5 : Nat)
 (List.take ((vrTick (VX.mk (VM.mk id pri every pre src n f st pace wait) [] (0 : Nat))).k * (5 : Nat))
 (List.drop (0 : Nat) (vrTick (VX.mk (VM.mk id pri every pre src n f st pace wait) [] (0 : Nat))).out)))),
 ((42 : Nat),
 AVal.int IntKind.i64 (↑(vrTick (VX.mk (VM.mk id pri every pre src n f st pace wait) [] (0 : Nat))).k : Int)),
 ((43 : Nat), AVal.int IntKind.i64 (0 : Int))]
 [ABlk.vals
 [AVal.int IntKind.i64 c.id, AVal.int IntKind.i64 (255 : Int), AVal.int IntKind.i64 c.every, AVal.bool c.pre,
 AVal.str c.src, AVal.ro (List.length c.addrs) (1 : Nat) fun i => [AVal.str (List.getD c.addrs i [])]],
 ABlk.vals
 [AVal.int IntKind.i64 (vrTick (VX.mk (VM.mk id pri every pre src n f st pace wait) [] (0 : Nat))).m.id,
 AVal.int IntKind.i64 (vrTick (VX.mk (VM.mk id pri every pre src n f st pace wait) [] (0 : Nat))).m.pri,
 AVal.int IntKind.i64 (vrTick (VX.mk (VM.mk id pri every pre src n f st pace wait) [] (0 : Nat))).m.every,
 AVal.bool (vrTick (VX.mk (VM.mk id pri every pre src n f st pace wait) [] (0 : Nat))).m.pre,
 AVal.str (vrTick (VX.mk (VM.mk id pri every pre src n f st pace wait) [] (0 : Nat))).m.src,
 AVal.ro (vrTick (VX.mk (VM.mk id pri every pre src n f st pace wait) [] (0 : Nat))).m.n (1 : Nat)
 (vrTick (VX.mk (VM.mk id pri every pre src n f st pace wait) [] (0 : Nat))).m.f,
 AVal.int IntKind.i64 (vrTick (VX.mk (VM.mk id pri every pre src n f st pace wait) [] (0 : Nat))).m.st,
 AVal.int IntKind.i64 (vrTick (VX.mk (VM.mk id pri every pre src n f st pace wait) [] (0 : Nat))).m.pace,
 AVal.int IntKind.i64 (vrTick (VX.mk (VM.mk id pri every pre src n f st pace wait) [] (0 : Nat))).m.wait,
 AVal.sl (2 : Nat) (0 : Nat) (0 : Nat) (5 : Nat)],
 ABlk.flat []]))
 (brP (decide (st = (3 : Int)))
 ((c.every ≠ (0 : Int) ∧ I64 (Int.tdiv t c.every)) ∧ K (AVal.bool (decide (mn = Int.tdiv t c.every))) [])
 (K (AVal.bool false) []))) := by kernel_rfl
set_option maxRecDepth 100000 in
theorem VrrpSends_in_one (c : Cfg) (t mn m i : Int) (id pri every : Int) (pre : Bool) (src : List UInt8) (n : Nat) (f : Nat → List AVal) (st pace wait : Int) (eid epri eev : Int) (en : Nat) (ef : Nat → List AVal) (I : St → Prop) (K : AVal → Hp → Prop) (J : St → Prop) : VrrpSends_in_b I K J (St.mk [(1, .int .i64 t), (2, .ptr 0 0), (5, .ptr 1 0), (7, .int .i64 mn), (35, .int .i64 m), (36, .int .i64 i), (41, .ro 1 5 (rowsOf 5 [.int .i64 1, .int .i64 eid, .int .i64 epri, .int .i64 eev, .ro en 1 ef])), (42, .int .i64 1), (43, .int .i64 0)] [.vals [.int .i64 c.id, .int .i64 255, .int .i64 c.every, .bool c.pre, .str c.src, .ro c.addrs.length 1 (fun i => [.str (c.addrs.getD i [])])], .vals [.int .i64 id, .int .i64 pri, .int .i64 every, .bool pre, .str src, .ro n 1 f, .int .i64 st, .int .i64 pace, .int .i64 wait, .sl 2 0 0 5], .flat []]) = (
 ((0 : Int) ≤ (0 : Int) ∧ (0 : Int) < (1 : Int)) ∧
 brP (!decide (epri = (255 : Int)) || !decide (eid = c.id)) (K (AVal.bool false) [])
 (I64 (mn + (1 : Int)) ∧
 I64 (1 : Int) ∧
 J
 (St.mk
 [((1 : Nat), AVal.int IntKind.i64 t), ((2 : Nat), AVal.ptr (0 : Nat) (0 : Nat)),
 ((5 : Nat), AVal.ptr (1 : Nat) (0 : Nat)), ((7 : Nat), AVal.int IntKind.i64 (mn + (1 : Int))),
 ((35 : Nat), AVal.int IntKind.i64 m), ((36 : Nat), AVal.int IntKind.i64 i),
 ((41 : Nat),
 AVal.ro (1 : Nat) (5 : Nat)
 (rowsOf (5 : Nat)
 [AVal.int IntKind.i64 (1 : Int), AVal.int IntKind.i64 eid, AVal.int IntKind.i64 epri,
 AVal.int IntKind.i64 eev, AVal.ro en (1 : Nat) ef])),
 ((42 : Nat), AVal.int IntKind.i64 (1 : Int)), ((43 : Nat), AVal.int IntKind.i64 (1 : Int))]
 [ABlk.vals
 [AVal.int IntKind.i64 c.id, AVal.int IntKind.i64 (255 : Int), AVal.int IntKind.i64 c.every, AVal.bool c.pre,
 AVal.str c.src, AVal.ro (List.length c.addrs) (1 : Nat) fun i => [AVal.str (List.getD c.addrs i [])]],
 ABlk.vals
 [AVal.int IntKind.i64 id, AVal.int IntKind.i64 pri, AVal.int IntKind.i64 every, AVal.bool pre, AVal.str src,
 AVal.ro n (1 : Nat) f, AVal.int IntKind.i64 st, AVal.int IntKind.i64 pace, AVal.int IntKind.i64 wait,
 AVal.sl (2 : Nat) (0 : Nat) (0 : Nat) (5 : Nat)],
 ABlk.flat []]))) := by kernel_rfl
set_option maxRecDepth 100000 in
theorem VrrpSends_in_end (c : Cfg) (t mn m i : Int) (id pri every : Int) (pre : Bool) (src : List UInt8) (n : Nat) (f : Nat → List AVal) (st pace wait : Int) (eid epri eev : Int) (en : Nat) (ef : Nat → List AVal) (I : St → Prop) (K : AVal → Hp → Prop) (J : St → Prop) : VrrpSends_in_b I K J (St.mk [(1, .int .i64 t), (2, .ptr 0 0), (5, .ptr 1 0), (7, .int .i64 mn), (35, .int .i64 m), (36, .int .i64 i), (41, .ro 1 5 (rowsOf 5 [.int .i64 1, .int .i64 eid, .int .i64 epri, .int .i64 eev, .ro en 1 ef])), (42, .int .i64 1), (43, .int .i64 1)] [.vals [.int .i64 c.id, .int .i64 255, .int .i64 c.every, .bool c.pre, .str c.src, .ro c.addrs.length 1 (fun i => [.str (c.addrs.getD i [])])], .vals [.int .i64 id, .int .i64 pri, .int .i64 every, .bool pre, .str src, .ro n 1 f, .int .i64 st, .int .i64 pace, .int .i64 wait, .sl 2 0 0 5], .flat []]) = (
 I64 (i + (1 : Int)) ∧
 I
 (St.mk
 [((1 : Nat), AVal.int IntKind.i64 t), ((2 : Nat), AVal.ptr (0 : Nat) (0 : Nat)),
 ((5 : Nat), AVal.ptr (1 : Nat) (0 : Nat)), ((7 : Nat), AVal.int IntKind.i64 mn),
 ((35 : Nat), AVal.int IntKind.i64 m), ((36 : Nat), AVal.int IntKind.i64 (i + (1 : Int)))]
 [ABlk.vals
 [AVal.int IntKind.i64 c.id, AVal.int IntKind.i64 (255 : Int), AVal.int IntKind.i64 c.every, AVal.bool c.pre,
 AVal.str c.src, AVal.ro (List.length c.addrs) (1 : Nat) fun i => [AVal.str (List.getD c.addrs i [])]],
 ABlk.vals
 [AVal.int IntKind.i64 id, AVal.int IntKind.i64 pri, AVal.int IntKind.i64 every, AVal.bool pre, AVal.str src,
 AVal.ro n (1 : Nat) f, AVal.int IntKind.i64 st, AVal.int IntKind.i64 pace, AVal.int IntKind.i64 wait,
 AVal.sl (2 : Nat) (0 : Nat) (0 : Nat) (5 : Nat)],
 ABlk.flat []])) := by kernel_rfl
set_option maxRecDepth 100000 in
theorem VrrpSends_in_none (c : Cfg) (t mn m i : Int) (id pri every : Int) (pre : Bool) (src : List UInt8) (n : Nat) (f : Nat → List AVal) (st pace wait : Int) (I : St → Prop) (K : AVal → Hp → Prop) (J : St → Prop) : VrrpSends_in_b I K J (St.mk [(1, .int .i64 t), (2, .ptr 0 0), (5, .ptr 1 0), (7, .int .i64 mn), (35, .int .i64 m), (36, .int .i64 i), (41, .ro 0 5 (rowsOf 5 [])), (42, .int .i64 0), (43, .int .i64 0)] [.vals [.int .i64 c.id, .int .i64 255, .int .i64 c.every, .bool c.pre, .str c.src, .ro c.addrs.length 1 (fun i => [.str (c.addrs.getD i [])])], .vals [.int .i64 id, .int .i64 pri, .int .i64 every, .bool pre, .str src, .ro n 1 f, .int .i64 st, .int .i64 pace, .int .i64 wait, .sl 2 0 0 5], .flat []]) = (
 I64 (i + (1 : Int)) ∧
 I
 (St.mk
 [((1 : Nat), AVal.int IntKind.i64 t), ((2 : Nat), AVal.ptr (0 : Nat) (0 : Nat)),
 ((5 : Nat), AVal.ptr (1 : Nat) (0 : Nat)), ((7 : Nat), AVal.int IntKind.i64 mn),
 ((35 : Nat), AVal.int IntKind.i64 m), ((36 : Nat), AVal.int IntKind.i64 (i + (1 : Int)))]
 [ABlk.vals
 [AVal.int IntKind.i64 c.id, AVal.int IntKind.i64 (255 : Int), AVal.int IntKind.i64 c.every, AVal.bool c.pre,
 AVal.str c.src, AVal.ro (List.length c.addrs) (1 : Nat) fun i => [AVal.str (List.getD c.addrs i [])]],
 ABlk.vals
 [AVal.int IntKind.i64 id, AVal.int IntKind.i64 pri, AVal.int IntKind.i64 every, AVal.bool pre, AVal.str src,
 AVal.ro n (1 : Nat) f, AVal.int IntKind.i64 st, AVal.int IntKind.i64 pace, AVal.int IntKind.i64 wait,
 AVal.sl (2 : Nat) (0 : Nat) (0 : Nat) (5 : Nat)],
 ABlk.flat []])) := by kernel_rfl

theorem sends_div {t E q r : Int} (hE : 1 ≤ E) (hr : 0 ≤ r ∧ r < E) (ht : t = E * q + r) (h0 : 0 ≤ t) : q = Int.tdiv t E := by
  rw [Int.tdiv_eq_ediv_of_nonneg h0, ht, Int.add_comm, Int.add_mul_ediv_left _ _ (by omega), Int.ediv_eq_zero_of_lt hr.1 hr.2]; omega
attribute [local irreducible] VrrpSends_lp_n VrrpSends_lp_b VrrpSends_in_b
theorem sends_all (c : Cfg) (t m : Int) (hm : m = t) (ht : 0 ≤ t ∧ t ≤ 5000) (hc : 1 ≤ c.every ∧ c.every ≤ 4095) : ∀ (j : Nat) (i mn r : Int) (id pri every : Int) (pre : Bool) (src : List UInt8) (n : Nat) (f : Nat → List AVal) (st pace wait : Int), 0 ≤ i → i + (j : Int) = m → 0 ≤ mn ∧ mn ≤ i → i = c.every * mn + r → 0 ≤ r ∧ r < c.every → VOk ⟨⟨id, pri, every, pre, src, n, f, st, pace, wait⟩, [], 0⟩ → id = c.id → pri = 255 → every = c.every → st = 3 → wait = c.every - r →
    VrrpSends_lp_n (fun v _ => v = .bool true) (j + 1) (St.mk [(1, .int .i64 t), (2, .ptr 0 0), (5, .ptr 1 0), (7, .int .i64 mn), (35, .int .i64 m), (36, .int .i64 i)] [.vals [.int .i64 c.id, .int .i64 255, .int .i64 c.every, .bool c.pre, .str c.src, .ro c.addrs.length 1 (fun i => [.str (c.addrs.getD i [])])], .vals [.int .i64 id, .int .i64 pri, .int .i64 every, .bool pre, .str src, .ro n 1 f, .int .i64 st, .int .i64 pace, .int .i64 wait, .sl 2 0 0 5], .flat []])
  | 0, i, mn, r, id, pri, every, pre, src, n, f, st, pace, wait, h0, h, hn, hi, hr, hok, hid, hpri, hev, hst, hw => by
    refine VrrpSends_lp_next ?_
    rw [VrrpSends_lp_step]
    refine brP_d (fun h' => by omega) (fun _ => brP_d (fun _ => ⟨⟨by omega, ?_⟩, ?_⟩) (fun h => absurd hst h))
    · rw [← sends_div (q := mn) hc.1 hr (by omega) ht.1]; unfold I64; omega
    · rw [← sends_div (q := mn) hc.1 hr (by omega) ht.1]; simp
  | j + 1, i, mn, r, id, pri, every, pre, src, n, f, st, pace, wait, h0, h, hn, hi, hr, hok, hid, hpri, hev, hst, hw => by
    refine VrrpSends_lp_next ?_
    rw [VrrpSends_lp_step]
    have tv := vrTick_ok hok (by simp)
    refine brP_d (fun _ => ⟨hok.vbw (by simp), ?_⟩) (fun h' => by omega)
    by_cases hl : 0 < wait - 1
    · have e : vrTick ⟨⟨id, pri, every, pre, src, n, f, st, pace, wait⟩, [], 0⟩ = vrSet st (wait - 1) ⟨⟨id, pri, every, pre, src, n, f, st, pace, wait⟩, [], 0⟩ := by
        unfold vrTick; rw [if_neg (by simp only; omega), if_pos hl]
      rw [e] at tv ⊢
      refine ⟨1, VrrpSends_in_next ?_⟩
      refine (VrrpSends_in_none c t mn m i id pri every pre src n f st pace (wait - 1) _ _ _).mpr ?_
      exact ⟨by unfold I64; omega, sends_all c t m hm ht hc j (i + 1) mn (r + 1) _ _ _ _ _ _ _ _ _ _ (by omega) (by omega) (by omega) (by omega) (by omega) tv hid hpri hev hst (by omega)⟩
    · have e : vrTick ⟨⟨id, pri, every, pre, src, n, f, st, pace, wait⟩, [], 0⟩ = vrSay pri ⟨⟨id, pri, every, pre, src, n, f, st, pace, wait⟩, [], 0⟩ := by
        unfold vrTick; rw [if_neg (by simp only; omega), if_neg hl, if_neg (by simp only; omega)]
      rw [e] at tv ⊢
      have hx : c.every * (mn + 1) = c.every * mn + c.every := by rw [Int.mul_add, Int.mul_one]
      refine ⟨2, VrrpSends_in_next ?_⟩
      refine (VrrpSends_in_one c t mn m i id pri every pre src n f st pace every id pri every n f _ _ _).mpr ⟨⟨by omega, by omega⟩, brP_i (fun hb => ?_) (fun _ => ⟨by unfold I64; omega, by unfold I64; omega, VrrpSends_in_next ?_⟩)⟩
      · simp [hid, hpri] at hb
      · refine (VrrpSends_in_end c t (mn + 1) m i id pri every pre src n f st pace every id pri every n f _ _ _).mpr ?_
        exact ⟨by unfold I64; omega, sends_all c t m hm ht hc j (i + 1) (mn + 1) 0 _ _ _ _ _ _ _ _ _ _ (by omega) (by omega) (by omega) (by omega) (by omega) ⟨tv.every, tv.pri, tv.pace, tv.st, tv.wait, tv.run, tv.n, rfl, by simp⟩ hid hpri hev hst (by omega)⟩
attribute [local irreducible] fnP in
theorem vrrpSends.core (c : Cfg) (t : Int) (h_c : CfgOk c) (h_t : -9223372036854775808 ≤ t ∧ t ≤ 9223372036854775807) :
    fnP Try.prog Tlw ann_outriderlaw13_VrrpSends Try.f4 [.agg (cfgCells c), .int .i64 t] [] (fun v _ => v = .bool true) := by
  rw [VrrpSends_eq]
  obtain ⟨c1, c2, c3, c4, c5⟩ := h_c
  refine ⟨⟨isStrs_of _ _, by omega⟩, brP_i (fun hr => ?_) (fun _ => rfl)⟩
  rw [Bool.and_eq_true] at hr
  obtain ⟨hok, hp⟩ := new_ok c.pre (f := fun i => [AVal.str (c.addrs.getD i [])]) hr.1 (by simp)
  refine brP_i (fun _ => rfl) (fun hl => ?_)
  simp only [Bool.and_eq_true, Bool.or_eq_true, Bool.and_eq_false_iff, Bool.or_eq_false_iff, decide_eq_true_eq, decide_eq_false_iff_not, Bool.not_eq_true', Bool.not_eq_false', Bool.not_true, Bool.not_false, Bool.true_and, Bool.and_true, Bool.false_or, Bool.or_false, beq_iff_eq, beq_eq_false_iff_ne, ne_eq] at hl
  have e1 : vrStart ⟨⟨c.id, 255, c.every, c.pre, c.src, c.addrs.length, fun i => [AVal.str (c.addrs.getD i [])], 1, c.every, 0⟩, [], 0⟩ = vrLead ⟨⟨c.id, 255, c.every, c.pre, c.src, c.addrs.length, fun i => [AVal.str (c.addrs.getD i [])], 1, c.every, 0⟩, [], 0⟩ := by
    unfold vrStart
    rw [if_neg (by simp), if_pos rfl]
  rw [e1]
  have v2 := vrLead_ok hok (by simp)
  exact ⟨hok.vb (by simp), _, sends_all c t t rfl ⟨by omega, by omega⟩ hok.every t.toNat 0 0 0 _ _ _ _ _ _ _ _ _ _ (by omega) (by omega) (by omega) (by simp) ⟨by omega, by have := hok.every; simp only at this; omega⟩ ⟨v2.every, v2.pri, v2.pace, v2.st, v2.wait, v2.run, v2.n, rfl, by simp⟩ rfl rfl rfl rfl (by show c.every = c.every - 0; omega)⟩
end Go.Proofs.Ytldfkjjjjfbbmaa.Ae
namespace Go.Proofs.Ytldfkjjjjfbbmaa
open Go Go.RowKit Ae
attribute [local irreducible] fnP in
set_option maxRecDepth 100000 in
theorem vrrpSends.walk {H : Type} {enc : TypeId × Value → H} (W : World) (args : Array Value) (hn : args.size = 2)
    (h : ∀ (j : Nat) t v, Try.f4.params[j]? = some t → args[j]? = some v → RdV enc false Try.prog W t v) :
    Calls Try.prog 4 args W fun e w' => e = .returned (.bool true) ∧ Below W.heap.size W w' := by
  obtain ⟨v0, v1, rfl⟩ := args2 hn
  obtain ⟨c, h_c, hv0⟩ := arg_struct (b := false) (.inl ⟨_, Try.underlying28⟩) open_cfg (h 0 28 v0 rfl rfl)
  obtain ⟨t, rfl, h_t, hv1⟩ := arg_int (b := false) (m := Mp.nil) (G := []) Try.underlying3 (h 1 3 v1 rfl rfl)
  obtain ⟨r, H1, hr, hG⟩ := fn_sound Tlw_sound mixed Try.func4 (by decide +kernel) (vrrpSends.core c t h_c (i64_bd h_t))
  subst hr
  exact law_walk hG (vl_cons hv0 (vl_cons hv1 vl_nil))

namespace vrrpSends
theorem spec {H : Type} (ds : List (DataW H)) (h : ds.length = Try.f4.params.size) : Rows.vrrpSendsSpec.fn H ds = { results := [.lit (.bool true)], args := ds } := by
  have h' : ds.length = 2 := h
  match ds, h' with
  | [_, _], _ => rfl

set_option maxRecDepth 100000 in
theorem lifted (os : Os) (started : os.Started) (H : Type) (enc : TypeId × Value → H) :
    ReturnsInHanded {} Try.checked os 4 .any (Rows.vrrpSendsSpec.pre6 enc Try.prog Try.f4 Rows.vrrpSendsRow.domain false) (Rows.vrrpSendsSpec.post enc Try.prog Try.f4 false true false false) :=
  lifted_said (C := Try.checked) (tb := 4) own started (by kernel_rfl) Try.func4
    (ChangeSpec.witness6 (enc := enc) (C := Try.checked) false ⟨#[], #[.agg #[.int .i64 0, .int .i64 0, .int .i64 0, .bool false, .string .empty, .slice none 0 0], .int .i64 0], []⟩ 8 (by kernel_rfl) (by kernel_rfl) (by kernel_rfl) (by kernel_rfl))
    rfl spec rfl Try.underlying4 laidOut (by kernel_rfl) walk

theorem over : Rows.vrrpSendsRow.holds Try.pinned (OpenSpec.ofChange Rows.vrrpSendsSpec) :=
  OpenClaim.holds_of_wide 4 Try.f4 rfl rfl rfl rfl rfl rfl rfl ⟨rfl, rfl, rfl, rfl, rfl⟩ rfl rfl rfl rfl rfl (by kernel_rfl) Try.func4 (by kernel_rfl)
    (of_decide_eq_true (by kernel_rfl)) (by unfold Func.isWrapper; first | (rw [if_pos (by decide +kernel)]; kernel_rfl) | (rw [if_neg (by decide +kernel)]; exact ⟨rfl, rfl⟩))
    (fun os started H enc _ => lifted os started H enc)

theorem proved : Rows.VrrpSendsSaid := over
#print axioms proved
end vrrpSends

end Go.Proofs.Ytldfkjjjjfbbmaa

