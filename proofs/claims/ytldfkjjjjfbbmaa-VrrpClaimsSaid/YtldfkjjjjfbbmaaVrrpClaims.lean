/- VrrpClaims: it claims its addresses just as it becomes master; what it says is always its own. No conditions. -/
import Derived.Test.YtldfkjjjjfbbmaaAr13
set_option linter.unusedSimpArgs false
set_option linter.unusedVariables false
set_option maxRecDepth 100000
namespace Go.Proofs.Ytldfkjjjjfbbmaa.Ae
open Go Go.RowKit
def ann_outriderlaw13_VrrpClaims : Nat → List Nat × Nat × List (List Nat)
  | 6 => ([2, 5, 7, 33, 34, 35], 0, [])
  | 16 => ([2, 5, 7, 9, 10, 11, 33, 34, 35, 67, 68, 69], 0, [])
  | 2000002 => ([], 12, [[], [0], [0, 1], [0, 1, 2], [0, 1, 2, 3], [0, 1, 2, 3, 4], [0, 1, 2, 3, 4, 5], [0, 1, 2, 3, 4, 5, 6], [0, 1, 2, 3, 4, 5, 6, 7], [0, 1, 2, 3, 4, 5, 6, 7, 8], [0, 1, 2, 3, 4, 5, 6, 7, 8, 9]])
  | 2000010 => ([], 14, [[], [0], [0, 1], [0, 1, 2], [0, 1, 2, 3], [0, 1, 2, 3, 4], [0, 1, 2, 3, 4, 5], [0, 1, 2, 3, 4, 5, 6], [0, 1, 2, 3, 4, 5, 6, 7], [0, 1, 2, 3, 4, 5, 6, 7, 8], [0, 1, 2, 3, 4, 5, 6, 7, 8, 9], [0, 1, 2, 3, 4, 5, 6, 7, 8, 9, 10], [0, 1, 2, 3, 4, 5, 6, 7, 8, 9, 10, 11]])
  | 2000020 => ([], 33, [[], [0], [0, 1], [0, 1, 2], [0, 1, 2, 3], [0, 1, 2, 3, 4], [0, 1, 2, 3, 4, 5], [0, 1, 2, 3, 4, 5, 6], [0, 1, 2, 3, 4, 5, 6, 7], [0, 1, 2, 3, 4, 5, 6, 7, 8], [0, 1, 2, 3, 4, 5, 6, 7, 8, 9], [0, 1, 2, 3, 4, 5, 6, 7, 8, 9, 10], [0, 1, 2, 3, 4, 5, 6, 7, 8, 9, 10, 11], [0, 1, 2, 3, 4, 5, 6, 7, 8, 9, 10, 11, 12], [0, 1, 2, 3, 4, 5, 6, 7, 8, 9, 10, 11, 12, 13], [0, 1, 2, 3, 4, 5, 6, 7, 8, 9, 10, 11, 12, 13, 14], [0, 1, 2, 3, 4, 5, 6, 7, 8, 9, 10, 11, 12, 13, 14, 15], [0, 1, 2, 3, 4, 5, 6, 7, 8, 9, 10, 11, 12, 13, 14, 15, 16], [0, 1, 2, 3, 4, 5, 6, 7, 8, 9, 10, 11, 12, 13, 14, 15, 16, 17], [0, 1, 2, 3, 4, 5, 6, 7, 8, 9, 10, 11, 12, 13, 14, 15, 16, 17, 18], [0, 1, 2, 3, 4, 5, 6, 7, 8, 9, 10, 11, 12, 13, 14, 15, 16, 17, 18, 19], [0, 1, 2, 3, 4, 5, 6, 7, 8, 9, 10, 11, 12, 13, 14, 15, 16, 17, 18, 19, 20], [0, 1, 2, 3, 4, 5, 6, 7, 8, 9, 10, 11, 12, 13, 14, 15, 16, 17, 18, 19, 20, 21], [0, 1, 2, 3, 4, 5, 6, 7, 8, 9, 10, 11, 12, 13, 14, 15, 16, 17, 18, 19, 20, 21, 22], [0, 1, 2, 3, 4, 5, 6, 7, 8, 9, 10, 11, 12, 13, 14, 15, 16, 17, 18, 19, 20, 21, 22, 23], [0, 1, 2, 3, 4, 5, 6, 7, 8, 9, 10, 11, 12, 13, 14, 15, 16, 17, 18, 19, 20, 21, 22, 23, 24], [0, 1, 2, 3, 4, 5, 6, 7, 8, 9, 10, 11, 12, 13, 14, 15, 16, 17, 18, 19, 20, 21, 22, 23, 24, 25], [0, 1, 2, 3, 4, 5, 6, 7, 8, 9, 10, 11, 12, 13, 14, 15, 16, 17, 18, 19, 20, 21, 22, 23, 24, 25, 26], [0, 1, 2, 3, 4, 5, 6, 7, 8, 9, 10, 11, 12, 13, 14, 15, 16, 17, 18, 19, 20, 21, 22, 23, 24, 25, 26, 27], [0, 1, 2, 3, 4, 5, 6, 7, 8, 9, 10, 11, 12, 13, 14, 15, 16, 17, 18, 19, 20, 21, 22, 23, 24, 25, 26, 27, 28], [0, 1, 2, 3, 4, 5, 6, 7, 8, 9, 10, 11, 12, 13, 14, 15, 16, 17, 18, 19, 20, 21, 22, 23, 24, 25, 26, 27, 28, 29], [0, 1, 2, 3, 4, 5, 6, 7, 8, 9, 10, 11, 12, 13, 14, 15, 16, 17, 18, 19, 20, 21, 22, 23, 24, 25, 26, 27, 28, 29, 30]])
  | _ => ([], 0, [])
noncomputable abbrev VrrpClaims_lp_X : Cx := ⟨Try.prog, Tlw, Try.f10.ntmps, 0, ann_outriderlaw13_VrrpClaims⟩
noncomputable def VrrpClaims_lp_c : Code := cAt [.r, .r, .r, .r, .l, .r, .b] (bodyOf Try.f10)
noncomputable def VrrpClaims_lp_k (K : AVal → Hp → Prop) : Post := kAt VrrpClaims_lp_X [.r, .r, .r, .r, .l, .r, .b] (bodyOf Try.f10) (fnK Try.prog 0 Try.f10.results.toList K)
def VrrpClaims_lp_n (K : AVal → Hp → Prop) (n : Nat) (s : St) : Prop := loopP (awp VrrpClaims_lp_X (loopB VrrpClaims_lp_c)) 0 [2, 5, 7, 33, 34, 35] n s (VrrpClaims_lp_k K)
def VrrpClaims_lp (K : AVal → Hp → Prop) (s : St) : Prop := ∃ n, VrrpClaims_lp_n K n s
def VrrpClaims_lp_b (K : AVal → Hp → Prop) (J : St → Prop) (s : St) : Prop := awp VrrpClaims_lp_X (loopB VrrpClaims_lp_c) s (seqK (fun s' => normK 0 [2, 5, 7, 33, 34, 35] s' J) (VrrpClaims_lp_k K))
theorem VrrpClaims_lp_next {K : AVal → Hp → Prop} {n : Nat} {s : St} (h : VrrpClaims_lp_b K (fun s' => VrrpClaims_lp_n K n s') s) : VrrpClaims_lp_n K (n + 1) s := h
noncomputable abbrev VrrpClaims_in_X : Cx := ⟨Try.prog, Tlw, Try.f10.ntmps, 0, ann_outriderlaw13_VrrpClaims⟩
noncomputable def VrrpClaims_in_c : Code := cAt [.r, .r, .l, .b, .r, .r, .r, .r, .r, .r, .l, .r, .b] (loopB VrrpClaims_lp_c)
noncomputable def VrrpClaims_in_k (I : St → Prop) (K : AVal → Hp → Prop) : Post := kAt VrrpClaims_in_X [.r, .r, .l, .b, .r, .r, .r, .r, .r, .r, .l, .r, .b] (loopB VrrpClaims_lp_c) (seqK (fun s' => normK 0 [2, 5, 7, 33, 34, 35] s' I) (VrrpClaims_lp_k K))
def VrrpClaims_in_n (I : St → Prop) (K : AVal → Hp → Prop) (n : Nat) (s : St) : Prop := loopP (awp VrrpClaims_in_X (loopB VrrpClaims_in_c)) 0 [2, 5, 7, 9, 10, 11, 33, 34, 35, 67, 68, 69] n s (VrrpClaims_in_k I K)
def VrrpClaims_in (I : St → Prop) (K : AVal → Hp → Prop) (s : St) : Prop := ∃ n, VrrpClaims_in_n I K n s
def VrrpClaims_in_b (I : St → Prop) (K : AVal → Hp → Prop) (J : St → Prop) (s : St) : Prop := awp VrrpClaims_in_X (loopB VrrpClaims_in_c) s (seqK (fun s' => normK 0 [2, 5, 7, 9, 10, 11, 33, 34, 35, 67, 68, 69] s' J) (VrrpClaims_in_k I K))
theorem VrrpClaims_in_next {I : St → Prop} {K : AVal → Hp → Prop} {n : Nat} {s : St} (h : VrrpClaims_in_b I K (fun s' => VrrpClaims_in_n I K n s') s) : VrrpClaims_in_n I K (n + 1) s := h
set_option maxRecDepth 100000 in
theorem VrrpClaims_eq (c : Cfg) (sc : List OpV) (K : AVal → Hp → Prop) : fnP Try.prog Tlw ann_outriderlaw13_VrrpClaims Try.f10 [.agg (cfgCells c), scV sc] [] K = (
 ((IsStrs (List.length c.addrs) fun i => [AVal.str (List.getD c.addrs i [])]) ∧
 List.length c.addrs ≤ (8796093022000 : Nat)) ∧
 brP
 (adRight (Adv.mk c.id c.pri c.every (strs (List.length c.addrs) fun i => [AVal.str (List.getD c.addrs i [])]))
 c.src &&
 !decide (c.pri = (0 : Int)))
 (brP (decide ((300 : Int) < (↑(List.length sc) : Int))) (K (AVal.bool true) [])
 (VrrpClaims_lp K
 (St.mk
 [((2 : Nat), AVal.ptr (0 : Nat) (0 : Nat)), ((5 : Nat), AVal.ptr (1 : Nat) (0 : Nat)),
 ((7 : Nat), AVal.int IntKind.i64 c.pri),
 ((33 : Nat),
 AVal.ro (List.length sc) (7 : Nat) fun i =>
 [AVal.int IntKind.i64 (List.getD sc i opNone).kd, AVal.int IntKind.i64 (List.getD sc i opNone).q,
 AVal.str (List.getD sc i opNone).src, AVal.int IntKind.i64 (List.getD sc i opNone).id,
 AVal.int IntKind.i64 (List.getD sc i opNone).pri, AVal.int IntKind.i64 (List.getD sc i opNone).every,
 AVal.ro (List.length (List.getD sc i opNone).addrs) (1 : Nat) fun i_1 =>
 [AVal.str (List.getD (List.getD sc i opNone).addrs i_1 [])]]),
 ((34 : Nat), AVal.int IntKind.i64 (↑(List.length sc) : Int)), ((35 : Nat), AVal.int IntKind.i64 (0 : Int))]
 [ABlk.vals
 [AVal.int IntKind.i64 c.id, AVal.int IntKind.i64 c.pri, AVal.int IntKind.i64 c.every, AVal.bool c.pre,
 AVal.str c.src, AVal.ro (List.length c.addrs) (1 : Nat) fun i => [AVal.str (List.getD c.addrs i [])]],
 ABlk.vals
 [AVal.int IntKind.i64 c.id, AVal.int IntKind.i64 c.pri, AVal.int IntKind.i64 c.every, AVal.bool c.pre,
 AVal.str c.src, AVal.ro (List.length c.addrs) (1 : Nat) fun i => [AVal.str (List.getD c.addrs i [])],
 AVal.int IntKind.i64 (1 : Int), AVal.int IntKind.i64 c.every, AVal.int IntKind.i64 (0 : Int),
 AVal.sl (2 : Nat) (0 : Nat) (0 : Nat) (5 : Nat)],
 ABlk.flat []])))
 (K (AVal.bool true) [])) := by kernel_rfl
set_option maxRecDepth 100000 in
theorem VrrpClaims_lp_step (c : Cfg) (sc : List OpV) (pr m i : Int) (id pri every : Int) (pre : Bool) (src : List UInt8) (n : Nat) (f : Nat → List AVal) (st pace wait : Int) (K : AVal → Hp → Prop) (J : St → Prop) : VrrpClaims_lp_b K J (St.mk [(2, .ptr 0 0), (5, .ptr 1 0), (7, .int .i64 pr), (33, scV sc), (34, .int .i64 m), (35, .int .i64 i)] [.vals [.int .i64 c.id, .int .i64 c.pri, .int .i64 c.every, .bool c.pre, .str c.src, .ro c.addrs.length 1 (fun i => [.str (c.addrs.getD i [])])], .vals [.int .i64 id, .int .i64 pri, .int .i64 every, .bool pre, .str src, .ro n 1 f, .int .i64 st, .int .i64 pace, .int .i64 wait, .sl 2 0 0 5], .flat []]) = (
 brP (decide (i < m))
 (((0 : Int) ≤ i ∧ i < (↑(List.length sc) : Int)) ∧
 brP (decide ((List.getD sc (Int.toNat i) opNone).kd = (2 : Int)))
 (brP
 (decide ((List.getD sc (Int.toNat i) opNone).kd = (4 : Int)) &&
 decide
 ((1 : Int) ≤
 if (1 : Int) < (List.getD sc (Int.toNat i) opNone).q then (1 : Int)
 else (List.getD sc (Int.toNat i) opNone).q) &&
 decide
 ((if (1 : Int) < (List.getD sc (Int.toNat i) opNone).q then (1 : Int)
 else (List.getD sc (Int.toNat i) opNone).q) ≤
 (255 : Int)))
 ((VOk (VX.mk (VM.mk id pri every pre src n f st pace wait) [] (0 : Nat)) ∧ (4000 : Nat) ≤ (1000000000000 : Nat)) ∧
 VrrpClaims_in J K
 (St.mk
 [((2 : Nat), AVal.ptr (0 : Nat) (0 : Nat)), ((5 : Nat), AVal.ptr (1 : Nat) (0 : Nat)),
 ((7 : Nat),
 AVal.int IntKind.i64
 (if (1 : Int) < (List.getD sc (Int.toNat i) opNone).q then (1 : Int)
 else (List.getD sc (Int.toNat i) opNone).q)),
 ((9 : Nat), AVal.ptr (2 : Nat) (0 : Nat)), ((10 : Nat), AVal.int IntKind.i64 st),
 ((11 : Nat), AVal.int IntKind.i64 (0 : Int)),
 ((33 : Nat),
 AVal.ro (List.length sc) (7 : Nat) fun i =>
 [AVal.int IntKind.i64 (List.getD sc i opNone).kd, AVal.int IntKind.i64 (List.getD sc i opNone).q,
 AVal.str (List.getD sc i opNone).src, AVal.int IntKind.i64 (List.getD sc i opNone).id,
 AVal.int IntKind.i64 (List.getD sc i opNone).pri, AVal.int IntKind.i64 (List.getD sc i opNone).every,
 AVal.ro (List.length (List.getD sc i opNone).addrs) (1 : Nat) fun i_1 =>
 [AVal.str (List.getD (List.getD sc i opNone).addrs i_1 [])]]),
 ((34 : Nat), AVal.int IntKind.i64 m), ((35 : Nat), AVal.int IntKind.i64 i),
 ((67 : Nat),
 AVal.ro
 (vrDo (List.getD sc (Int.toNat i) opNone).kd
 (if (1 : Int) < (List.getD sc (Int.toNat i) opNone).q then (1 : Int)
 else (List.getD sc (Int.toNat i) opNone).q)
 (List.getD sc (Int.toNat i) opNone).src
 (Adv.mk (List.getD sc (Int.toNat i) opNone).id (List.getD sc (Int.toNat i) opNone).pri
 (List.getD sc (Int.toNat i) opNone).every [])
 (VX.mk (VM.mk id pri every pre src n f st pace wait) [] (0 : Nat))).k
 (5 : Nat)
 (rowsOf (5 : Nat)
 (List.take
 ((vrDo (List.getD sc (Int.toNat i) opNone).kd
 (if (1 : Int) < (List.getD sc (Int.toNat i) opNone).q then (1 : Int)
 else (List.getD sc (Int.toNat i) opNone).q)
 (List.getD sc (Int.toNat i) opNone).src
 (Adv.mk (List.getD sc (Int.toNat i) opNone).id (List.getD sc (Int.toNat i) opNone).pri
 (List.getD sc (Int.toNat i) opNone).every [])
 (VX.mk (VM.mk id pri every pre src n f st pace wait) [] (0 : Nat))).k *
 (5 : Nat))
 (List.drop (0 : Nat)
 (vrDo (List.getD sc (Int.toNat i) opNone).kd
 (if (1 : Int) < (List.getD sc (Int.toNat i) opNone).q then (1 : Int)
 else (List.getD sc (Int.toNat i) opNone).q)
 (List.getD sc (Int.toNat i) opNone).src
 (Adv.mk (List.getD sc (Int.toNat i) opNone).id (List.getD sc (Int.toNat i) opNone).pri
 (List.getD sc (Int.toNat i) opNone).every [])
 (VX.mk (VM.mk id pri every pre src n f st pace wait) [] (0 : Nat))).out)))),
 ((68 : Nat),
 AVal.int IntKind.i64
 (↑(vrDo (List.getD sc (Int.toNat i) opNone).kd
 (if (1 : Int) < (List.getD sc (Int.toNat i) opNone).q then (1 : Int)
 else (List.getD sc (Int.toNat i) opNone).q)
 (List.getD sc (Int.toNat i) opNone).src
 (Adv.mk (List.getD sc (Int.toNat i) opNone).id (List.getD sc (Int.toNat i) opNone).pri
 (List.getD sc (Int.toNat i) opNone).every [])
 (VX.mk (VM.mk id pri every pre src n f st pace wait) [] (0 : Nat))).k :
 Int)),
 ((69 : Nat), AVal.int IntKind.i64 (0 : Int))]
 [ABlk.vals
 [AVal.int IntKind.i64 c.id, AVal.int IntKind.i64 c.pri, AVal.int IntKind.i64 c.every, AVal.bool c.pre,
 AVal.str c.src, AVal.ro (List.length c.addrs) (1 : Nat) fun i => [AVal.str (List.getD c.addrs i [])]],
 ABlk.vals
 [AVal.int IntKind.i64
 (vrDo (List.getD sc (Int.toNat i) opNone).kd
 (if (1 : Int) < (List.getD sc (Int.toNat i) opNone).q then (1 : Int)
 else (List.getD sc (Int.toNat i) opNone).q)
 (List.getD sc (Int.toNat i) opNone).src
 (Adv.mk (List.getD sc (Int.toNat i) opNone).id (List.getD sc (Int.toNat i) opNone).pri
 (List.getD sc (Int.toNat i) opNone).every [])
 (VX.mk (VM.mk id pri every pre src n f st pace wait) [] (0 : Nat))).m.id,
 AVal.int IntKind.i64
 (vrDo (List.getD sc (Int.toNat i) opNone).kd
 (if (1 : Int) < (List.getD sc (Int.toNat i) opNone).q then (1 : Int)
 else (List.getD sc (Int.toNat i) opNone).q)
 (List.getD sc (Int.toNat i) opNone).src
 (Adv.mk (List.getD sc (Int.toNat i) opNone).id (List.getD sc (Int.toNat i) opNone).pri
 (List.getD sc (Int.toNat i) opNone).every [])
 (VX.mk (VM.mk id pri every pre src n f st pace wait) [] (0 : Nat))).m.pri,
 AVal.int IntKind.i64
 (vrDo (List.getD sc (Int.toNat i) opNone).kd
 (if (1 : Int) < (List.getD sc (Int.toNat i) opNone).q then (1 : Int)
 else (List.getD sc (Int.toNat i) opNone).q)
 (List.getD sc (Int.toNat i) opNone).src
 (Adv.mk (List.getD sc (Int.toNat i) opNone).id (List.getD sc (Int.toNat i) opNone).pri
 (List.getD sc (Int.toNat i) opNone).every [])
 (VX.mk (VM.mk id pri every pre src n f st pace wait) [] (0 : Nat))).m.every,
 AVal.bool
 (vrDo (List.getD sc (Int.toNat i) opNone).kd
 (if (1 : Int) < (List.getD sc (Int.toNat i) opNone).q then (1 : Int)
 else (List.getD sc (Int.toNat i) opNone).q)
 (List.getD sc (Int.toNat i) opNone).src
 (Adv.mk (List.getD sc (Int.toNat i) opNone).id (List.getD sc (Int.toNat i) opNone).pri
 (List.getD sc (Int.toNat i) opNone).every [])
 (VX.mk (VM.mk id pri every pre src n f st pace wait) [] (0 : Nat))).m.pre,
 AVal.str
 (vrDo (List.getD sc (Int.toNat i) opNone).kd
 (if (1 : Int) < (List.getD sc (Int.toNat i) opNone).q then (1 : Int)
 else (List.getD sc (Int.toNat i) opNone).q)
 (List.getD sc (Int.toNat i) opNone).src
 (Adv.mk (List.getD sc (Int.toNat i) opNone).id (List.getD sc (Int.toNat i) opNone).pri
 (List.getD sc (Int.toNat i) opNone).every [])
 (VX.mk (VM.mk id pri every pre src n f st pace wait) [] (0 : Nat))).m.src,
 AVal.ro
 (vrDo (List.getD sc (Int.toNat i) opNone).kd
 (if (1 : Int) < (List.getD sc (Int.toNat i) opNone).q then (1 : Int)
 else (List.getD sc (Int.toNat i) opNone).q)
 (List.getD sc (Int.toNat i) opNone).src
 (Adv.mk (List.getD sc (Int.toNat i) opNone).id (List.getD sc (Int.toNat i) opNone).pri
 (List.getD sc (Int.toNat i) opNone).every [])
 (VX.mk (VM.mk id pri every pre src n f st pace wait) [] (0 : Nat))).m.n
 (1 : Nat)
 (vrDo (List.getD sc (Int.toNat i) opNone).kd
 (if (1 : Int) < (List.getD sc (Int.toNat i) opNone).q then (1 : Int)
 else (List.getD sc (Int.toNat i) opNone).q)
 (List.getD sc (Int.toNat i) opNone).src
 (Adv.mk (List.getD sc (Int.toNat i) opNone).id (List.getD sc (Int.toNat i) opNone).pri
 (List.getD sc (Int.toNat i) opNone).every [])
 (VX.mk (VM.mk id pri every pre src n f st pace wait) [] (0 : Nat))).m.f,
 AVal.int IntKind.i64
 (vrDo (List.getD sc (Int.toNat i) opNone).kd
 (if (1 : Int) < (List.getD sc (Int.toNat i) opNone).q then (1 : Int)
 else (List.getD sc (Int.toNat i) opNone).q)
 (List.getD sc (Int.toNat i) opNone).src
 (Adv.mk (List.getD sc (Int.toNat i) opNone).id (List.getD sc (Int.toNat i) opNone).pri
 (List.getD sc (Int.toNat i) opNone).every [])
 (VX.mk (VM.mk id pri every pre src n f st pace wait) [] (0 : Nat))).m.st,
 AVal.int IntKind.i64
 (vrDo (List.getD sc (Int.toNat i) opNone).kd
 (if (1 : Int) < (List.getD sc (Int.toNat i) opNone).q then (1 : Int)
 else (List.getD sc (Int.toNat i) opNone).q)
 (List.getD sc (Int.toNat i) opNone).src
 (Adv.mk (List.getD sc (Int.toNat i) opNone).id (List.getD sc (Int.toNat i) opNone).pri
 (List.getD sc (Int.toNat i) opNone).every [])
 (VX.mk (VM.mk id pri every pre src n f st pace wait) [] (0 : Nat))).m.pace,
 AVal.int IntKind.i64
 (vrDo (List.getD sc (Int.toNat i) opNone).kd
 (if (1 : Int) < (List.getD sc (Int.toNat i) opNone).q then (1 : Int)
 else (List.getD sc (Int.toNat i) opNone).q)
 (List.getD sc (Int.toNat i) opNone).src
 (Adv.mk (List.getD sc (Int.toNat i) opNone).id (List.getD sc (Int.toNat i) opNone).pri
 (List.getD sc (Int.toNat i) opNone).every [])
 (VX.mk (VM.mk id pri every pre src n f st pace wait) [] (0 : Nat))).m.wait,
 AVal.sl (3 : Nat) (0 : Nat) (0 : Nat) (5 : Nat)],
 ABlk.vals
 [AVal.int IntKind.i64 (List.getD sc (Int.toNat i) opNone).kd,
 AVal.int IntKind.i64
 (if (1 : Int) < (List.getD sc (Int.toNat i) opNone).q then (1 : Int)
 else (List.getD sc (Int.toNat i) opNone).q),
 AVal.str (List.getD sc (Int.toNat i) opNone).src,
 AVal.int IntKind.i64 (List.getD sc (Int.toNat i) opNone).id,
 AVal.int IntKind.i64 (List.getD sc (Int.toNat i) opNone).pri,
 AVal.int IntKind.i64 (List.getD sc (Int.toNat i) opNone).every,
 AVal.ro (List.length (List.getD sc (Int.toNat i) opNone).addrs) (1 : Nat) fun i_1 =>
 [AVal.str (List.getD (List.getD sc (Int.toNat i) opNone).addrs i_1 [])]],
 ABlk.flat []]))
 ((VOk (VX.mk (VM.mk id pri every pre src n f st pace wait) [] (0 : Nat)) ∧ (4000 : Nat) ≤ (1000000000000 : Nat)) ∧
 VrrpClaims_in J K
 (St.mk
 [((2 : Nat), AVal.ptr (0 : Nat) (0 : Nat)), ((5 : Nat), AVal.ptr (1 : Nat) (0 : Nat)),
 ((7 : Nat), AVal.int IntKind.i64 pr), ((9 : Nat), AVal.ptr (2 : Nat) (0 : Nat)),
 ((10 : Nat), AVal.int IntKind.i64 st), ((11 : Nat), AVal.int IntKind.i64 (0 : Int)),
 ((33 : Nat),
 AVal.ro (List.length sc) (7 : Nat) fun i =>
 [AVal.int IntKind.i64 (List.getD sc i opNone).kd, AVal.int IntKind.i64 (List.getD sc i opNone).q,
 AVal.str (List.getD sc i opNone).src, AVal.int IntKind.i64 (List.getD sc i opNone).id,
 AVal.int IntKind.i64 (List.getD sc i opNone).pri, AVal.int IntKind.i64 (List.getD sc i opNone).every,
 AVal.ro (List.length (List.getD sc i opNone).addrs) (1 : Nat) fun i_1 =>
 [AVal.str (List.getD (List.getD sc i opNone).addrs i_1 [])]]),
 ((34 : Nat), AVal.int IntKind.i64 m), ((35 : Nat), AVal.int IntKind.i64 i),
 ((67 : Nat),
 AVal.ro
 (vrDo (List.getD sc (Int.toNat i) opNone).kd
 (if (1 : Int) < (List.getD sc (Int.toNat i) opNone).q then (1 : Int)
 else (List.getD sc (Int.toNat i) opNone).q)
 (List.getD sc (Int.toNat i) opNone).src
 (Adv.mk (List.getD sc (Int.toNat i) opNone).id (List.getD sc (Int.toNat i) opNone).pri
 (List.getD sc (Int.toNat i) opNone).every [])
 (VX.mk (VM.mk id pri every pre src n f st pace wait) [] (0 : Nat))).k
 (5 : Nat)
 (rowsOf (5 : Nat)
 (List.take
 ((vrDo (List.getD sc (Int.toNat i) opNone).kd
 (if (1 : Int) < (List.getD sc (Int.toNat i) opNone).q then (1 : Int)
 else (List.getD sc (Int.toNat i) opNone).q)
 (List.getD sc (Int.toNat i) opNone).src
 (Adv.mk (List.getD sc (Int.toNat i) opNone).id (List.getD sc (Int.toNat i) opNone).pri
 (List.getD sc (Int.toNat i) opNone).every [])
 (VX.mk (VM.mk id pri every pre src n f st pace wait) [] (0 : Nat))).k *
 (5 : Nat))
 (List.drop (0 : Nat)
 (vrDo (List.getD sc (Int.toNat i) opNone).kd
 (if (1 : Int) < (List.getD sc (Int.toNat i) opNone).q then (1 : Int)
 else (List.getD sc (Int.toNat i) opNone).q)
 (List.getD sc (Int.toNat i) opNone).src
 (Adv.mk (List.getD sc (Int.toNat i) opNone).id (List.getD sc (Int.toNat i) opNone).pri
 (List.getD sc (Int.toNat i) opNone).every [])
 (VX.mk (VM.mk id pri every pre src n f st pace wait) [] (0 : Nat))).out)))),
 ((68 : Nat),
 AVal.int IntKind.i64
 (↑(vrDo (List.getD sc (Int.toNat i) opNone).kd
 (if (1 : Int) < (List.getD sc (Int.toNat i) opNone).q then (1 : Int)
 else (List.getD sc (Int.toNat i) opNone).q)
 (List.getD sc (Int.toNat i) opNone).src
 (Adv.mk (List.getD sc (Int.toNat i) opNone).id (List.getD sc (Int.toNat i) opNone).pri
 (List.getD sc (Int.toNat i) opNone).every [])
 (VX.mk (VM.mk id pri every pre src n f st pace wait) [] (0 : Nat))).k :
 Int)),
 ((69 : Nat), AVal.int IntKind.i64 (0 : Int))]
 [ABlk.vals
 [AVal.int IntKind.i64 c.id, AVal.int IntKind.i64 c.pri, AVal.int IntKind.i64 c.every, AVal.bool c.pre,
 AVal.str c.src, AVal.ro (List.length c.addrs) (1 : Nat) fun i => [AVal.str (List.getD c.addrs i [])]],
 ABlk.vals
 [AVal.int IntKind.i64
 (vrDo (List.getD sc (Int.toNat i) opNone).kd
 (if (1 : Int) < (List.getD sc (Int.toNat i) opNone).q then (1 : Int)
 else (List.getD sc (Int.toNat i) opNone).q)
 (List.getD sc (Int.toNat i) opNone).src
 (Adv.mk (List.getD sc (Int.toNat i) opNone).id (List.getD sc (Int.toNat i) opNone).pri
 (List.getD sc (Int.toNat i) opNone).every [])
 (VX.mk (VM.mk id pri every pre src n f st pace wait) [] (0 : Nat))).m.id,
 AVal.int IntKind.i64
 (vrDo (List.getD sc (Int.toNat i) opNone).kd
 (if (1 : Int) < (List.getD sc (Int.toNat i) opNone).q then (1 : Int)
 else (List.getD sc (Int.toNat i) opNone).q)
 (List.getD sc (Int.toNat i) opNone).src
 (Adv.mk (List.getD sc (Int.toNat i) opNone).id (List.getD sc (Int.toNat i) opNone).pri
 (List.getD sc (Int.toNat i) opNone).every [])
 (VX.mk (VM.mk id pri every pre src n f st pace wait) [] (0 : Nat))).m.pri,
 AVal.int IntKind.i64
 (vrDo (List.getD sc (Int.toNat i) opNone).kd
 (if (1 : Int) < (List.getD sc (Int.toNat i) opNone).q then (1 : Int)
 else (List.getD sc (Int.toNat i) opNone).q)
 (List.getD sc (Int.toNat i) opNone).src
 (Adv.mk (List.getD sc (Int.toNat i) opNone).id (List.getD sc (Int.toNat i) opNone).pri
 (List.getD sc (Int.toNat i) opNone).every [])
 (VX.mk (VM.mk id pri every pre src n f st pace wait) [] (0 : Nat))).m.every,
 AVal.bool
 (vrDo (List.getD sc (Int.toNat i) opNone).kd
 (if (1 : Int) < (List.getD sc (Int.toNat i) opNone).q then (1 : Int)
 else (List.getD sc (Int.toNat i) opNone).q)
 (List.getD sc (Int.toNat i) opNone).src
 (Adv.mk (List.getD sc (Int.toNat i) opNone).id (List.getD sc (Int.toNat i) opNone).pri
 (List.getD sc (Int.toNat i) opNone).every [])
 (VX.mk (VM.mk id pri every pre src n f st pace wait) [] (0 : Nat))).m.pre,
 AVal.str
 (vrDo (List.getD sc (Int.toNat i) opNone).kd
 (if (1 : Int) < (List.getD sc (Int.toNat i) opNone).q then (1 : Int)
 else (List.getD sc (Int.toNat i) opNone).q)
 (List.getD sc (Int.toNat i) opNone).src
 (Adv.mk (List.getD sc (Int.toNat i) opNone).id (List.getD sc (Int.toNat i) opNone).pri
 (List.getD sc (Int.toNat i) opNone).every [])
 (VX.mk (VM.mk id pri every pre src n f st pace wait) [] (0 : Nat))).m.src,
 AVal.ro
 (vrDo (List.getD sc (Int.toNat i) opNone).kd
 (if (1 : Int) < (List.getD sc (Int.toNat i) opNone).q then (1 : Int)
 else (List.getD sc (Int.toNat i) opNone).q)
 (List.getD sc (Int.toNat i) opNone).src
 (Adv.mk (List.getD sc (Int.toNat i) opNone).id (List.getD sc (Int.toNat i) opNone).pri
 (List.getD sc (Int.toNat i) opNone).every [])
 (VX.mk (VM.mk id pri every pre src n f st pace wait) [] (0 : Nat))).m.n
 (1 : Nat)
 (vrDo (List.getD sc (Int.toNat i) opNone).kd
 (if (1 : Int) < (List.getD sc (Int.toNat i) opNone).q then (1 : Int)
 else (List.getD sc (Int.toNat i) opNone).q)
 (List.getD sc (Int.toNat i) opNone).src
 (Adv.mk (List.getD sc (Int.toNat i) opNone).id (List.getD sc (Int.toNat i) opNone).pri
 (List.getD sc (Int.toNat i) opNone).every [])
 (VX.mk (VM.mk id pri every pre src n f st pace wait) [] (0 : Nat))).m.f,
 AVal.int IntKind.i64
 (vrDo (List.getD sc (Int.toNat i) opNone).kd
 (if (1 : Int) < (List.getD sc (Int.toNat i) opNone).q then (1 : Int)
 else (List.getD sc (Int.toNat i) opNone).q)
 (List.getD sc (Int.toNat i) opNone).src
 (Adv.mk (List.getD sc (Int.toNat i) opNone).id (List.getD sc (Int.toNat i) opNone).pri
 (List.getD sc (Int.toNat i) opNone).every [])
 (VX.mk (VM.mk id pri every pre src n f st pace wait) [] (0 : Nat))).m.st,
 AVal.int IntKind.i64
 (vrDo (List.getD sc (Int.toNat i) opNone).kd
 (if (1 : Int) < (List.getD sc (Int.toNat i) opNone).q then (1 : Int)
 else (List.getD sc (Int.toNat i) opNone).q)
 (List.getD sc (Int.toNat i) opNone).src
 (Adv.mk (List.getD sc (Int.toNat i) opNone).id (List.getD sc (Int.toNat i) opNone).pri
 (List.getD sc (Int.toNat i) opNone).every [])
 (VX.mk (VM.mk id pri every pre src n f st pace wait) [] (0 : Nat))).m.pace,
 AVal.int IntKind.i64
 (vrDo (List.getD sc (Int.toNat i) opNone).kd
 (if (1 : Int) < (List.getD sc (Int.toNat i) opNone).q then (1 : Int)
 else (List.getD sc (Int.toNat i) opNone).q)
 (List.getD sc (Int.toNat i) opNone).src
 (Adv.mk (List.getD sc (Int.toNat i) opNone).id (List.getD sc (Int.toNat i) opNone).pri
 (List.getD sc (Int.toNat i) opNone).every [])
 (VX.mk (VM.mk id pri every pre src n f st pace wait) [] (0 : Nat))).m.wait,
 AVal.sl (3 : Nat) (0 : Nat) (0 : Nat) (5 : Nat)],
 ABlk.vals
 [AVal.int IntKind.i64 (List.getD sc (Int.toNat i) opNone).kd,
 AVal.int IntKind.i64
 (if (1 : Int) < (List.getD sc (Int.toNat i) opNone).q then (1 : Int)
 else (List.getD sc (Int.toNat i) opNone).q),
 AVal.str (List.getD sc (Int.toNat i) opNone).src,
 AVal.int IntKind.i64 (List.getD sc (Int.toNat i) opNone).id,
 AVal.int IntKind.i64 (List.getD sc (Int.toNat i) opNone).pri,
 AVal.int IntKind.i64 (List.getD sc (Int.toNat i) opNone).every,
 AVal.ro (List.length (List.getD sc (Int.toNat i) opNone).addrs) (1 : Nat) fun i_1 =>
 [AVal.str (List.getD (List.getD sc (Int.toNat i) opNone).addrs i_1 [])]],
 ABlk.flat []])))
 (brP
 (decide ((List.getD sc (Int.toNat i) opNone).kd = (4 : Int)) &&
 decide ((1 : Int) ≤ (List.getD sc (Int.toNat i) opNone).q) &&
 decide ((List.getD sc (Int.toNat i) opNone).q ≤ (255 : Int)))
 ((VOk (VX.mk (VM.mk id pri every pre src n f st pace wait) [] (0 : Nat)) ∧ (4000 : Nat) ≤ (1000000000000 : Nat)) ∧
 VrrpClaims_in J K
 (St.mk
 [((2 : Nat), AVal.ptr (0 : Nat) (0 : Nat)), ((5 : Nat), AVal.ptr (1 : Nat) (0 : Nat)),
 ((7 : Nat), AVal.int IntKind.i64 (List.getD sc (Int.toNat i) opNone).q),
 ((9 : Nat), AVal.ptr (2 : Nat) (0 : Nat)), ((10 : Nat), AVal.int IntKind.i64 st),
 ((11 : Nat), AVal.int IntKind.i64 (0 : Int)),
 ((33 : Nat),
 AVal.ro (List.length sc) (7 : Nat) fun i =>
 [AVal.int IntKind.i64 (List.getD sc i opNone).kd, AVal.int IntKind.i64 (List.getD sc i opNone).q,
 AVal.str (List.getD sc i opNone).src, AVal.int IntKind.i64 (List.getD sc i opNone).id,
 AVal.int IntKind.i64 (List.getD sc i opNone).pri, AVal.int IntKind.i64 (List.getD sc i opNone).every,
 AVal.ro (List.length (List.getD sc i opNone).addrs) (1 : Nat) fun i_1 =>
 [AVal.str (List.getD (List.getD sc i opNone).addrs i_1 [])]]),
 ((34 : Nat), AVal.int IntKind.i64 m), ((35 : Nat), AVal.int IntKind.i64 i),
 ((67 : Nat),
 AVal.ro
 (vrDo (List.getD sc (Int.toNat i) opNone).kd (List.getD sc (Int.toNat i) opNone).q
 (List.getD sc (Int.toNat i) opNone).src
 (Adv.mk (List.getD sc (Int.toNat i) opNone).id (List.getD sc (Int.toNat i) opNone).pri
 (List.getD sc (Int.toNat i) opNone).every [])
 (VX.mk (VM.mk id pri every pre src n f st pace wait) [] (0 : Nat))).k
 (5 : Nat)
 (rowsOf (5 : Nat)
 (List.take
 ((vrDo (List.getD sc (Int.toNat i) opNone).kd (List.getD sc (Int.toNat i) opNone).q
 (List.getD sc (Int.toNat i) opNone).src
 (Adv.mk (List.getD sc (Int.toNat i) opNone).id (List.getD sc (Int.toNat i) opNone).pri
 (List.getD sc (Int.toNat i) opNone).every [])
 (VX.mk (VM.mk id pri every pre src n f st pace wait) [] (0 : Nat))).k *
 (5 : Nat))
 (List.drop (0 : Nat)
 (vrDo (List.getD sc (Int.toNat i) opNone).kd (List.getD sc (Int.toNat i) opNone).q
 (List.getD sc (Int.toNat i) opNone).src
 (Adv.mk (List.getD sc (Int.toNat i) opNone).id (List.getD sc (Int.toNat i) opNone).pri
 (List.getD sc (Int.toNat i) opNone).every [])
 (VX.mk (VM.mk id pri every pre src n f st pace wait) [] (0 : Nat))).out)))),
 ((68 : Nat),
 AVal.int IntKind.i64
 (↑(vrDo (List.getD sc (Int.toNat i) opNone).kd (List.getD sc (Int.toNat i) opNone).q
 (List.getD sc (Int.toNat i) opNone).src
 (Adv.mk (List.getD sc (Int.toNat i) opNone).id (List.getD sc (Int.toNat i) opNone).pri
 (List.getD sc (Int.toNat i) opNone).every [])
 (VX.mk (VM.mk id pri every pre src n f st pace wait) [] (0 : Nat))).k :
 Int)),
 ((69 : Nat), AVal.int IntKind.i64 (0 : Int))]
 [ABlk.vals
 [AVal.int IntKind.i64 c.id, AVal.int IntKind.i64 c.pri, AVal.int IntKind.i64 c.every, AVal.bool c.pre,
 AVal.str c.src, AVal.ro (List.length c.addrs) (1 : Nat) fun i => [AVal.str (List.getD c.addrs i [])]],
 ABlk.vals
 [AVal.int IntKind.i64
 (vrDo (List.getD sc (Int.toNat i) opNone).kd (List.getD sc (Int.toNat i) opNone).q
 (List.getD sc (Int.toNat i) opNone).src
 (Adv.mk (List.getD sc (Int.toNat i) opNone).id (List.getD sc (Int.toNat i) opNone).pri
 (List.getD sc (Int.toNat i) opNone).every [])
 (VX.mk (VM.mk id pri every pre src n f st pace wait) [] (0 : Nat))).m.id,
 AVal.int IntKind.i64
 (vrDo (List.getD sc (Int.toNat i) opNone).kd (List.getD sc (Int.toNat i) opNone).q
 (List.getD sc (Int.toNat i) opNone).src
 (Adv.mk (List.getD sc (Int.toNat i) opNone).id (List.getD sc (Int.toNat i) opNone).pri
 (List.getD sc (Int.toNat i) opNone).every [])
 (VX.mk (VM.mk id pri every pre src n f st pace wait) [] (0 : Nat))).m.pri,
 AVal.int IntKind.i64
 (vrDo (List.getD sc (Int.toNat i) opNone).kd (List.getD sc (Int.toNat i) opNone).q
 (List.getD sc (Int.toNat i) opNone).src
 (Adv.mk (List.getD sc (Int.toNat i) opNone).id (List.getD sc (Int.toNat i) opNone).pri
 (List.getD sc (Int.toNat i) opNone).every [])
 (VX.mk (VM.mk id pri every pre src n f st pace wait) [] (0 : Nat))).m.every,
 AVal.bool
 (vrDo (List.getD sc (Int.toNat i) opNone).kd (List.getD sc (Int.toNat i) opNone).q
 (List.getD sc (Int.toNat i) opNone).src
 (Adv.mk (List.getD sc (Int.toNat i) opNone).id (List.getD sc (Int.toNat i) opNone).pri
 (List.getD sc (Int.toNat i) opNone).every [])
 (VX.mk (VM.mk id pri every pre src n f st pace wait) [] (0 : Nat))).m.pre,
 AVal.str
 (vrDo (List.getD sc (Int.toNat i) opNone).kd (List.getD sc (Int.toNat i) opNone).q
 (List.getD sc (Int.toNat i) opNone).src
 (Adv.mk (List.getD sc (Int.toNat i) opNone).id (List.getD sc (Int.toNat i) opNone).pri
 (List.getD sc (Int.toNat i) opNone).every [])
 (VX.mk (VM.mk id pri every pre src n f st pace wait) [] (0 : Nat))).m.src,
 AVal.ro
 (vrDo (List.getD sc (Int.toNat i) opNone).kd (List.getD sc (Int.toNat i) opNone).q
 (List.getD sc (Int.toNat i) opNone).src
 (Adv.mk (List.getD sc (Int.toNat i) opNone).id (List.getD sc (Int.toNat i) opNone).pri
 (List.getD sc (Int.toNat i) opNone).every [])
 (VX.mk (VM.mk id pri every pre src n f st pace wait) [] (0 : Nat))).m.n
 (1 : Nat)
 (vrDo (List.getD sc (Int.toNat i) opNone).kd (List.getD sc (Int.toNat i) opNone).q
 (List.getD sc (Int.toNat i) opNone).src
 (Adv.mk (List.getD sc (Int.toNat i) opNone).id (List.getD sc (Int.toNat i) opNone).pri
 (List.getD sc (Int.toNat i) opNone).every [])
 (VX.mk (VM.mk id pri every pre src n f st pace wait) [] (0 : Nat))).m.f,
 AVal.int IntKind.i64
 (vrDo (List.getD sc (Int.toNat i) opNone).kd (List.getD sc (Int.toNat i) opNone).q
 (List.getD sc (Int.toNat i) opNone).src
 (Adv.mk (List.getD sc (Int.toNat i) opNone).id (List.getD sc (Int.toNat i) opNone).pri
 (List.getD sc (Int.toNat i) opNone).every [])
 (VX.mk (VM.mk id pri every pre src n f st pace wait) [] (0 : Nat))).m.st,
 AVal.int IntKind.i64
 (vrDo (List.getD sc (Int.toNat i) opNone).kd (List.getD sc (Int.toNat i) opNone).q
 (List.getD sc (Int.toNat i) opNone).src
 (Adv.mk (List.getD sc (Int.toNat i) opNone).id (List.getD sc (Int.toNat i) opNone).pri
 (List.getD sc (Int.toNat i) opNone).every [])
 (VX.mk (VM.mk id pri every pre src n f st pace wait) [] (0 : Nat))).m.pace,
 AVal.int IntKind.i64
 (vrDo (List.getD sc (Int.toNat i) opNone).kd (List.getD sc (Int.toNat i) opNone).q
 (List.getD sc (Int.toNat i) opNone).src
 (Adv.mk (List.getD sc (Int.toNat i) opNone).id (List.getD sc (Int.toNat i) opNone).pri
 (List.getD sc (Int.toNat i) opNone).every [])
 (VX.mk (VM.mk id pri every pre src n f st pace wait) [] (0 : Nat))).m.wait,
 AVal.sl (3 : Nat) (0 : Nat) (0 : Nat) (5 : Nat)],
 ABlk.vals
 [AVal.int IntKind.i64 (List.getD sc (Int.toNat i) opNone).kd,
 AVal.int IntKind.i64 (List.getD sc (Int.toNat i) opNone).q, AVal.str (List.getD sc (Int.toNat i) opNone).src,
 AVal.int IntKind.i64 (List.getD sc (Int.toNat i) opNone).id,
 AVal.int IntKind.i64 (List.getD sc (Int.toNat i) opNone).pri,
 AVal.int IntKind.i64 (List.getD sc (Int.toNat i) opNone).every,
 AVal.ro (List.length (List.getD sc (Int.toNat i) opNone).addrs) (1 : Nat) fun i_1 =>
 [AVal.str (List.getD (List.getD sc (Int.toNat i) opNone).addrs i_1 [])]],
 ABlk.flat []]))
 ((VOk (VX.mk (VM.mk id pri every pre src n f st pace wait) [] (0 : Nat)) ∧ (4000 : Nat) ≤ (1000000000000 : Nat)) ∧
 VrrpClaims_in J K
 (St.mk
 [((2 : Nat), AVal.ptr (0 : Nat) (0 : Nat)), ((5 : Nat), AVal.ptr (1 : Nat) (0 : Nat)),
 ((7 : Nat), AVal.int IntKind.i64 pr), ((9 : Nat), AVal.ptr (2 : Nat) (0 : Nat)),
 ((10 : Nat), AVal.int IntKind.i64 st), ((11 : Nat), AVal.int IntKind.i64 (0 : Int)),
 ((33 : Nat),
 AVal.ro (List.length sc) (7 : Nat) fun i =>
 [AVal.int IntKind.i64 (List.getD sc i opNone).kd, AVal.int IntKind.i64 (List.getD sc i opNone).q,
 AVal.str (List.getD sc i opNone).src, AVal.int IntKind.i64 (List.getD sc i opNone).id,
 AVal.int IntKind.i64 (List.getD sc i opNone).pri, AVal.int IntKind.i64 (List.getD sc i opNone).every,
 AVal.ro (List.length (List.getD sc i opNone).addrs) (1 : Nat) fun i_1 =>
 [AVal.str (List.getD (List.getD sc i opNone).addrs i_1 [])]]),
 ((34 : Nat), AVal.int IntKind.i64 m), ((35 : Nat), AVal.int IntKind.i64 i),
 ((67 : Nat),
 AVal.ro
 (vrDo (List.getD sc (Int.toNat i) opNone).kd (List.getD sc (Int.toNat i) opNone).q
 (List.getD sc (Int.toNat i) opNone).src
 (Adv.mk (List.getD sc (Int.toNat i) opNone).id (List.getD sc (Int.toNat i) opNone).pri
 (List.getD sc (Int.toNat i) opNone).every [])
 (VX.mk (VM.mk id pri every pre src n f st pace wait) [] (0 : Nat))).k
 (5 : Nat)
 (rowsOf (5 : Nat)
 (List.take
 ((vrDo (List.getD sc (Int.toNat i) opNone).kd (List.getD sc (Int.toNat i) opNone).q
 (List.getD sc (Int.toNat i) opNone).src
 (Adv.mk (List.getD sc (Int.toNat i) opNone).id (List.getD sc (Int.toNat i) opNone).pri
 (List.getD sc (Int.toNat i) opNone).every [])
 (VX.mk (VM.mk id pri every pre src n f st pace wait) [] (0 : Nat))).k *
 (5 : Nat))
 (List.drop (0 : Nat)
 (vrDo (List.getD sc (Int.toNat i) opNone).kd (List.getD sc (Int.toNat i) opNone).q
 (List.getD sc (Int.toNat i) opNone).src
 (Adv.mk (List.getD sc (Int.toNat i) opNone).id (List.getD sc (Int.toNat i) opNone).pri
 (List.getD sc (Int.toNat i) opNone).every [])
 (VX.mk (VM.mk id pri every pre src n f st pace wait) [] (0 : Nat))).out)))),
 ((68 : Nat),
 AVal.int IntKind.i64
 (↑(vrDo (List.getD sc (Int.toNat i) opNone).kd (List.getD sc (Int.toNat i) opNone).q
 (List.getD sc (Int.toNat i) opNone).src
 (Adv.mk (List.getD sc (Int.toNat i) opNone).id (List.getD sc (Int.toNat i) opNone).pri
 (List.getD sc (Int.toNat i) opNone).every [])
 (VX.mk (VM.mk id pri every pre src n f st pace wait) [] (0 : Nat))).k :
 Int)),
 ((69 : Nat), AVal.int IntKind.i64 (0 : Int))]
 [ABlk.vals
 [AVal.int IntKind.i64 c.id, AVal.int IntKind.i64 c.pri, AVal.int IntKind.i64 c.every, AVal.bool c.pre,
 AVal.str c.src, AVal.ro (List.length c.addrs) (1 : Nat) fun i => [AVal.str (List.getD c.addrs i [])]],
 ABlk.vals
 [AVal.int IntKind.i64
 (vrDo (List.getD sc (Int.toNat i) opNone).kd (List.getD sc (Int.toNat i) opNone).q
 (List.getD sc (Int.toNat i) opNone).src
 (Adv.mk (List.getD sc (Int.toNat i) opNone).id (List.getD sc (Int.toNat i) opNone).pri
 (List.getD sc (Int.toNat i) opNone).every [])
 (VX.mk (VM.mk id pri every pre src n f st pace wait) [] (0 : Nat))).m.id,
 AVal.int IntKind.i64
 (vrDo (List.getD sc (Int.toNat i) opNone).kd (List.getD sc (Int.toNat i) opNone).q
 (List.getD sc (Int.toNat i) opNone).src
 (Adv.mk (List.getD sc (Int.toNat i) opNone).id (List.getD sc (Int.toNat i) opNone).pri
 (List.getD sc (Int.toNat i) opNone).every [])
 (VX.mk (VM.mk id pri every pre src n f st pace wait) [] (0 : Nat))).m.pri,
 AVal.int IntKind.i64
 (vrDo (List.getD sc (Int.toNat i) opNone).kd (List.getD sc (Int.toNat i) opNone).q
 (List.getD sc (Int.toNat i) opNone).src
 (Adv.mk (List.getD sc (Int.toNat i) opNone).id (List.getD sc (Int.toNat i) opNone).pri
 (List.getD sc (Int.toNat i) opNone).every [])
 (VX.mk (VM.mk id pri every pre src n f st pace wait) [] (0 : Nat))).m.every,
 AVal.bool
 (vrDo (List.getD sc (Int.toNat i) opNone).kd (List.getD sc (Int.toNat i) opNone).q
 (List.getD sc (Int.toNat i) opNone).src
 (Adv.mk (List.getD sc (Int.toNat i) opNone).id (List.getD sc (Int.toNat i) opNone).pri
 (List.getD sc (Int.toNat i) opNone).every [])
 (VX.mk (VM.mk id pri every pre src n f st pace wait) [] (0 : Nat))).m.pre,
 AVal.str
 (vrDo (List.getD sc (Int.toNat i) opNone).kd (List.getD sc (Int.toNat i) opNone).q
 (List.getD sc (Int.toNat i) opNone).src
 (Adv.mk (List.getD sc (Int.toNat i) opNone).id (List.getD sc (Int.toNat i) opNone).pri
 (List.getD sc (Int.toNat i) opNone).every [])
 (VX.mk (VM.mk id pri every pre src n f st pace wait) [] (0 : Nat))).m.src,
 AVal.ro
 (vrDo (List.getD sc (Int.toNat i) opNone).kd (List.getD sc (Int.toNat i) opNone).q
 (List.getD sc (Int.toNat i) opNone).src
 (Adv.mk (List.getD sc (Int.toNat i) opNone).id (List.getD sc (Int.toNat i) opNone).pri
 (List.getD sc (Int.toNat i) opNone).every [])
 (VX.mk (VM.mk id pri every pre src n f st pace wait) [] (0 : Nat))).m.n
 (1 : Nat)
 (vrDo (List.getD sc (Int.toNat i) opNone).kd (List.getD sc (Int.toNat i) opNone).q
 (List.getD sc (Int.toNat i) opNone).src
 (Adv.mk (List.getD sc (Int.toNat i) opNone).id (List.getD sc (Int.toNat i) opNone).pri
 (List.getD sc (Int.toNat i) opNone).every [])
 (VX.mk (VM.mk id pri every pre src n f st pace wait) [] (0 : Nat))).m.f,
 AVal.int IntKind.i64
 (vrDo (List.getD sc (Int.toNat i) opNone).kd (List.getD sc (Int.toNat i) opNone).q
 (List.getD sc (Int.toNat i) opNone).src
 (Adv.mk (List.getD sc (Int.toNat i) opNone).id (List.getD sc (Int.toNat i) opNone).pri
 (List.getD sc (Int.toNat i) opNone).every [])
 (VX.mk (VM.mk id pri every pre src n f st pace wait) [] (0 : Nat))).m.st,
 AVal.int IntKind.i64
 (vrDo (List.getD sc (Int.toNat i) opNone).kd (List.getD sc (Int.toNat i) opNone).q
 (List.getD sc (Int.toNat i) opNone).src
 (Adv.mk (List.getD sc (Int.toNat i) opNone).id (List.getD sc (Int.toNat i) opNone).pri
 (List.getD sc (Int.toNat i) opNone).every [])
 (VX.mk (VM.mk id pri every pre src n f st pace wait) [] (0 : Nat))).m.pace,
 AVal.int IntKind.i64
 (vrDo (List.getD sc (Int.toNat i) opNone).kd (List.getD sc (Int.toNat i) opNone).q
 (List.getD sc (Int.toNat i) opNone).src
 (Adv.mk (List.getD sc (Int.toNat i) opNone).id (List.getD sc (Int.toNat i) opNone).pri
 (List.getD sc (Int.toNat i) opNone).every [])
 (VX.mk (VM.mk id pri every pre src n f st pace wait) [] (0 : Nat))).m.wait,
 AVal.sl (3 : Nat) (0 : Nat) (0 : Nat) (5 : Nat)],
 ABlk.vals
 [AVal.int IntKind.i64 (List.getD sc (Int.toNat i) opNone).kd,
 AVal.int IntKind.i64 (List.getD sc (Int.toNat i) opNone).q, AVal.str (List.getD sc (Int.toNat i) opNone).src,
 AVal.int IntKind.i64 (List.getD sc (Int.toNat i) opNone).id,
 AVal.int IntKind.i64 (List.getD sc (Int.toNat i) opNone).pri,
 AVal.int IntKind.i64 (List.getD sc (Int.toNat i) opNone).every,
 AVal.ro (List.length (List.getD sc (Int.toNat i) opNone).addrs) (1 : Nat) fun i_1 =>
 [AVal.str (List.getD (List.getD sc (Int.toNat i) opNone).addrs i_1 [])]],
 ABlk.flat []]))))
 (K (AVal.bool true) [])) := by kernel_rfl
set_option maxRecDepth 100000 in
theorem VrrpClaims_i00 (c : Cfg) (sc : List OpV) (pr m i : Int) (id pri every : Int) (pre : Bool) (src : List UInt8) (n : Nat) (f : Nat → List AVal) (st pace wait : Int) (was : Int) (kd q : Int) (os : List UInt8) (oi op oe : Int) (on : Nat) (ox : Nat → List AVal) (I : St → Prop) (K : AVal → Hp → Prop) (J : St → Prop) : VrrpClaims_in_b I K J (St.mk [(2, .ptr 0 0), (5, .ptr 1 0), (7, .int .i64 pr), (9, .ptr 2 0), (10, .int .i64 was), (11, .int .i64 0), (33, scV sc), (34, .int .i64 m), (35, .int .i64 i), (67, .ro 0 5 (rowsOf 5 ([]))), (68, .int .i64 0), (69, .int .i64 0)] [.vals [.int .i64 c.id, .int .i64 c.pri, .int .i64 c.every, .bool c.pre, .str c.src, .ro c.addrs.length 1 (fun i => [.str (c.addrs.getD i [])])], .vals [.int .i64 id, .int .i64 pri, .int .i64 every, .bool pre, .str src, .ro n 1 f, .int .i64 st, .int .i64 pace, .int .i64 wait, .sl 3 0 0 5], .vals [.int .i64 kd, .int .i64 q, .str os, .int .i64 oi, .int .i64 op, .int .i64 oe, .ro on 1 ox], .flat []]) = (
 brP (!decide (was = (3 : Int)))
 (brP (!decide (false = decide (st = (3 : Int)))) (K (AVal.bool false) [])
 (I64 (i + (1 : Int)) ∧
 I
 (St.mk
 [((2 : Nat), AVal.ptr (0 : Nat) (0 : Nat)), ((5 : Nat), AVal.ptr (1 : Nat) (0 : Nat)),
 ((7 : Nat), AVal.int IntKind.i64 pr),
 ((33 : Nat),
 AVal.ro (List.length sc) (7 : Nat) fun i =>
 [AVal.int IntKind.i64 (List.getD sc i opNone).kd, AVal.int IntKind.i64 (List.getD sc i opNone).q,
 AVal.str (List.getD sc i opNone).src, AVal.int IntKind.i64 (List.getD sc i opNone).id,
 AVal.int IntKind.i64 (List.getD sc i opNone).pri, AVal.int IntKind.i64 (List.getD sc i opNone).every,
 AVal.ro (List.length (List.getD sc i opNone).addrs) (1 : Nat) fun i_1 =>
 [AVal.str (List.getD (List.getD sc i opNone).addrs i_1 [])]]),
 ((34 : Nat), AVal.int IntKind.i64 m), ((35 : Nat), AVal.int IntKind.i64 (i + (1 : Int)))]
 [ABlk.vals
 [AVal.int IntKind.i64 c.id, AVal.int IntKind.i64 c.pri, AVal.int IntKind.i64 c.every, AVal.bool c.pre,
 AVal.str c.src, AVal.ro (List.length c.addrs) (1 : Nat) fun i => [AVal.str (List.getD c.addrs i [])]],
 ABlk.vals
 [AVal.int IntKind.i64 id, AVal.int IntKind.i64 pri, AVal.int IntKind.i64 every, AVal.bool pre, AVal.str src,
 AVal.ro n (1 : Nat) f, AVal.int IntKind.i64 st, AVal.int IntKind.i64 pace, AVal.int IntKind.i64 wait,
 AVal.sl (2 : Nat) (0 : Nat) (0 : Nat) (5 : Nat)],
 ABlk.flat []])))
 (I64 (i + (1 : Int)) ∧
 I
 (St.mk
 [((2 : Nat), AVal.ptr (0 : Nat) (0 : Nat)), ((5 : Nat), AVal.ptr (1 : Nat) (0 : Nat)),
 ((7 : Nat), AVal.int IntKind.i64 pr),
 ((33 : Nat),
 AVal.ro (List.length sc) (7 : Nat) fun i =>
 [AVal.int IntKind.i64 (List.getD sc i opNone).kd, AVal.int IntKind.i64 (List.getD sc i opNone).q,
 AVal.str (List.getD sc i opNone).src, AVal.int IntKind.i64 (List.getD sc i opNone).id,
 AVal.int IntKind.i64 (List.getD sc i opNone).pri, AVal.int IntKind.i64 (List.getD sc i opNone).every,
 AVal.ro (List.length (List.getD sc i opNone).addrs) (1 : Nat) fun i_1 =>
 [AVal.str (List.getD (List.getD sc i opNone).addrs i_1 [])]]),
 ((34 : Nat), AVal.int IntKind.i64 m), ((35 : Nat), AVal.int IntKind.i64 (i + (1 : Int)))]
 [ABlk.vals
 [AVal.int IntKind.i64 c.id, AVal.int IntKind.i64 c.pri, AVal.int IntKind.i64 c.every, AVal.bool c.pre,
 AVal.str c.src, AVal.ro (List.length c.addrs) (1 : Nat) fun i => [AVal.str (List.getD c.addrs i [])]],
 ABlk.vals
 [AVal.int IntKind.i64 id, AVal.int IntKind.i64 pri, AVal.int IntKind.i64 every, AVal.bool pre, AVal.str src,
 AVal.ro n (1 : Nat) f, AVal.int IntKind.i64 st, AVal.int IntKind.i64 pace, AVal.int IntKind.i64 wait,
 AVal.sl (2 : Nat) (0 : Nat) (0 : Nat) (5 : Nat)],
 ABlk.flat []]))) := by kernel_rfl
set_option maxRecDepth 100000 in
theorem VrrpClaims_i10 (c : Cfg) (sc : List OpV) (pr m i : Int) (id pri every : Int) (pre : Bool) (src : List UInt8) (n : Nat) (f : Nat → List AVal) (st pace wait : Int) (was : Int) (kd q : Int) (os : List UInt8) (oi op oe : Int) (on : Nat) (ox : Nat → List AVal) (p : Int) (en : Nat) (ef : Nat → List AVal) (I : St → Prop) (K : AVal → Hp → Prop) (J : St → Prop) : VrrpClaims_in_b I K J (St.mk [(2, .ptr 0 0), (5, .ptr 1 0), (7, .int .i64 pr), (9, .ptr 2 0), (10, .int .i64 was), (11, .int .i64 0), (33, scV sc), (34, .int .i64 m), (35, .int .i64 i), (67, .ro 1 5 (rowsOf 5 ([.int .i64 1, .int .i64 c.id, .int .i64 p, .int .i64 c.every, .ro en 1 ef]))), (68, .int .i64 1), (69, .int .i64 0)] [.vals [.int .i64 c.id, .int .i64 c.pri, .int .i64 c.every, .bool c.pre, .str c.src, .ro c.addrs.length 1 (fun i => [.str (c.addrs.getD i [])])], .vals [.int .i64 id, .int .i64 pri, .int .i64 every, .bool pre, .str src, .ro n 1 f, .int .i64 st, .int .i64 pace, .int .i64 wait, .sl 3 0 0 5], .vals [.int .i64 kd, .int .i64 q, .str os, .int .i64 oi, .int .i64 op, .int .i64 oe, .ro on 1 ox], .flat []]) = (
 ((0 : Int) ≤ (0 : Int) ∧ (0 : Int) < (1 : Int)) ∧
 brP
 (!decide (c.id = c.id) || !decide (c.every = c.every) ||
 !decide (p = pr) && (!decide (p = (0 : Int)) || !decide (kd = (1 : Int))))
 (K (AVal.bool false) [])
 (I64 (1 : Int) ∧
 J
 (St.mk
 [((2 : Nat), AVal.ptr (0 : Nat) (0 : Nat)), ((5 : Nat), AVal.ptr (1 : Nat) (0 : Nat)),
 ((7 : Nat), AVal.int IntKind.i64 pr), ((9 : Nat), AVal.ptr (2 : Nat) (0 : Nat)),
 ((10 : Nat), AVal.int IntKind.i64 was), ((11 : Nat), AVal.int IntKind.i64 (0 : Int)),
 ((33 : Nat),
 AVal.ro (List.length sc) (7 : Nat) fun i =>
 [AVal.int IntKind.i64 (List.getD sc i opNone).kd, AVal.int IntKind.i64 (List.getD sc i opNone).q,
 AVal.str (List.getD sc i opNone).src, AVal.int IntKind.i64 (List.getD sc i opNone).id,
 AVal.int IntKind.i64 (List.getD sc i opNone).pri, AVal.int IntKind.i64 (List.getD sc i opNone).every,
 AVal.ro (List.length (List.getD sc i opNone).addrs) (1 : Nat) fun i_1 =>
 [AVal.str (List.getD (List.getD sc i opNone).addrs i_1 [])]]),
 ((34 : Nat), AVal.int IntKind.i64 m), ((35 : Nat), AVal.int IntKind.i64 i),
 ((67 : Nat),
 AVal.ro (1 : Nat) (5 : Nat)
 (rowsOf (5 : Nat)
 [AVal.int IntKind.i64 (1 : Int), AVal.int IntKind.i64 c.id, AVal.int IntKind.i64 p,
 AVal.int IntKind.i64 c.every, AVal.ro en (1 : Nat) ef])),
 ((68 : Nat), AVal.int IntKind.i64 (1 : Int)), ((69 : Nat), AVal.int IntKind.i64 (1 : Int))]
 [ABlk.vals
 [AVal.int IntKind.i64 c.id, AVal.int IntKind.i64 c.pri, AVal.int IntKind.i64 c.every, AVal.bool c.pre,
 AVal.str c.src, AVal.ro (List.length c.addrs) (1 : Nat) fun i => [AVal.str (List.getD c.addrs i [])]],
 ABlk.vals
 [AVal.int IntKind.i64 id, AVal.int IntKind.i64 pri, AVal.int IntKind.i64 every, AVal.bool pre, AVal.str src,
 AVal.ro n (1 : Nat) f, AVal.int IntKind.i64 st, AVal.int IntKind.i64 pace, AVal.int IntKind.i64 wait,
 AVal.sl (3 : Nat) (0 : Nat) (0 : Nat) (5 : Nat)],
 ABlk.vals
 [AVal.int IntKind.i64 kd, AVal.int IntKind.i64 q, AVal.str os, AVal.int IntKind.i64 oi, AVal.int IntKind.i64 op,
 AVal.int IntKind.i64 oe, AVal.ro on (1 : Nat) ox],
 ABlk.flat []]))) := by kernel_rfl
set_option maxRecDepth 100000 in
theorem VrrpClaims_i11 (c : Cfg) (sc : List OpV) (pr m i : Int) (id pri every : Int) (pre : Bool) (src : List UInt8) (n : Nat) (f : Nat → List AVal) (st pace wait : Int) (was : Int) (kd q : Int) (os : List UInt8) (oi op oe : Int) (on : Nat) (ox : Nat → List AVal) (p : Int) (en : Nat) (ef : Nat → List AVal) (I : St → Prop) (K : AVal → Hp → Prop) (J : St → Prop) : VrrpClaims_in_b I K J (St.mk [(2, .ptr 0 0), (5, .ptr 1 0), (7, .int .i64 pr), (9, .ptr 2 0), (10, .int .i64 was), (11, .int .i64 0), (33, scV sc), (34, .int .i64 m), (35, .int .i64 i), (67, .ro 1 5 (rowsOf 5 ([.int .i64 1, .int .i64 c.id, .int .i64 p, .int .i64 c.every, .ro en 1 ef]))), (68, .int .i64 1), (69, .int .i64 1)] [.vals [.int .i64 c.id, .int .i64 c.pri, .int .i64 c.every, .bool c.pre, .str c.src, .ro c.addrs.length 1 (fun i => [.str (c.addrs.getD i [])])], .vals [.int .i64 id, .int .i64 pri, .int .i64 every, .bool pre, .str src, .ro n 1 f, .int .i64 st, .int .i64 pace, .int .i64 wait, .sl 3 0 0 5], .vals [.int .i64 kd, .int .i64 q, .str os, .int .i64 oi, .int .i64 op, .int .i64 oe, .ro on 1 ox], .flat []]) = (
 brP (!decide (was = (3 : Int)))
 (brP (!decide (false = decide (st = (3 : Int)))) (K (AVal.bool false) [])
 (I64 (i + (1 : Int)) ∧
 I
 (St.mk
 [((2 : Nat), AVal.ptr (0 : Nat) (0 : Nat)), ((5 : Nat), AVal.ptr (1 : Nat) (0 : Nat)),
 ((7 : Nat), AVal.int IntKind.i64 pr),
 ((33 : Nat),
 AVal.ro (List.length sc) (7 : Nat) fun i =>
 [AVal.int IntKind.i64 (List.getD sc i opNone).kd, AVal.int IntKind.i64 (List.getD sc i opNone).q,
 AVal.str (List.getD sc i opNone).src, AVal.int IntKind.i64 (List.getD sc i opNone).id,
 AVal.int IntKind.i64 (List.getD sc i opNone).pri, AVal.int IntKind.i64 (List.getD sc i opNone).every,
 AVal.ro (List.length (List.getD sc i opNone).addrs) (1 : Nat) fun i_1 =>
 [AVal.str (List.getD (List.getD sc i opNone).addrs i_1 [])]]),
 ((34 : Nat), AVal.int IntKind.i64 m), ((35 : Nat), AVal.int IntKind.i64 (i + (1 : Int)))]
 [ABlk.vals
 [AVal.int IntKind.i64 c.id, AVal.int IntKind.i64 c.pri, AVal.int IntKind.i64 c.every, AVal.bool c.pre,
 AVal.str c.src, AVal.ro (List.length c.addrs) (1 : Nat) fun i => [AVal.str (List.getD c.addrs i [])]],
 ABlk.vals
 [AVal.int IntKind.i64 id, AVal.int IntKind.i64 pri, AVal.int IntKind.i64 every, AVal.bool pre, AVal.str src,
 AVal.ro n (1 : Nat) f, AVal.int IntKind.i64 st, AVal.int IntKind.i64 pace, AVal.int IntKind.i64 wait,
 AVal.sl (2 : Nat) (0 : Nat) (0 : Nat) (5 : Nat)],
 ABlk.flat []])))
 (I64 (i + (1 : Int)) ∧
 I
 (St.mk
 [((2 : Nat), AVal.ptr (0 : Nat) (0 : Nat)), ((5 : Nat), AVal.ptr (1 : Nat) (0 : Nat)),
 ((7 : Nat), AVal.int IntKind.i64 pr),
 ((33 : Nat),
 AVal.ro (List.length sc) (7 : Nat) fun i =>
 [AVal.int IntKind.i64 (List.getD sc i opNone).kd, AVal.int IntKind.i64 (List.getD sc i opNone).q,
 AVal.str (List.getD sc i opNone).src, AVal.int IntKind.i64 (List.getD sc i opNone).id,
 AVal.int IntKind.i64 (List.getD sc i opNone).pri, AVal.int IntKind.i64 (List.getD sc i opNone).every,
 AVal.ro (List.length (List.getD sc i opNone).addrs) (1 : Nat) fun i_1 =>
 [AVal.str (List.getD (List.getD sc i opNone).addrs i_1 [])]]),
 ((34 : Nat), AVal.int IntKind.i64 m), ((35 : Nat), AVal.int IntKind.i64 (i + (1 : Int)))]
 [ABlk.vals
 [AVal.int IntKind.i64 c.id, AVal.int IntKind.i64 c.pri, AVal.int IntKind.i64 c.every, AVal.bool c.pre,
 AVal.str c.src, AVal.ro (List.length c.addrs) (1 : Nat) fun i => [AVal.str (List.getD c.addrs i [])]],
 ABlk.vals
 [AVal.int IntKind.i64 id, AVal.int IntKind.i64 pri, AVal.int IntKind.i64 every, AVal.bool pre, AVal.str src,
 AVal.ro n (1 : Nat) f, AVal.int IntKind.i64 st, AVal.int IntKind.i64 pace, AVal.int IntKind.i64 wait,
 AVal.sl (2 : Nat) (0 : Nat) (0 : Nat) (5 : Nat)],
 ABlk.flat []]))) := by kernel_rfl
set_option maxRecDepth 100000 in
theorem VrrpClaims_i20 (c : Cfg) (sc : List OpV) (pr m i : Int) (id pri every : Int) (pre : Bool) (src : List UInt8) (n : Nat) (f : Nat → List AVal) (st pace wait : Int) (was : Int) (kd q : Int) (os : List UInt8) (oi op oe : Int) (on : Nat) (ox : Nat → List AVal) (p : Int) (en : Nat) (ef : Nat → List AVal) (I : St → Prop) (K : AVal → Hp → Prop) (J : St → Prop) : VrrpClaims_in_b I K J (St.mk [(2, .ptr 0 0), (5, .ptr 1 0), (7, .int .i64 pr), (9, .ptr 2 0), (10, .int .i64 was), (11, .int .i64 0), (33, scV sc), (34, .int .i64 m), (35, .int .i64 i), (67, .ro 2 5 (rowsOf 5 ([.int .i64 1, .int .i64 c.id, .int .i64 p, .int .i64 c.every, .ro en 1 ef, .int .i64 2, .int .i64 0, .int .i64 0, .int .i64 0, .ro 0 1 (fun _ => [])]))), (68, .int .i64 2), (69, .int .i64 0)] [.vals [.int .i64 c.id, .int .i64 c.pri, .int .i64 c.every, .bool c.pre, .str c.src, .ro c.addrs.length 1 (fun i => [.str (c.addrs.getD i [])])], .vals [.int .i64 id, .int .i64 pri, .int .i64 every, .bool pre, .str src, .ro n 1 f, .int .i64 st, .int .i64 pace, .int .i64 wait, .sl 3 0 0 5], .vals [.int .i64 kd, .int .i64 q, .str os, .int .i64 oi, .int .i64 op, .int .i64 oe, .ro on 1 ox], .flat []]) = (
 ((0 : Int) ≤ (0 : Int) ∧ (0 : Int) < (2 : Int)) ∧
 brP
 (!decide (c.id = c.id) || !decide (c.every = c.every) ||
 !decide (p = pr) && (!decide (p = (0 : Int)) || !decide (kd = (1 : Int))))
 (K (AVal.bool false) [])
 (I64 (1 : Int) ∧
 J
 (St.mk
 [((2 : Nat), AVal.ptr (0 : Nat) (0 : Nat)), ((5 : Nat), AVal.ptr (1 : Nat) (0 : Nat)),
 ((7 : Nat), AVal.int IntKind.i64 pr), ((9 : Nat), AVal.ptr (2 : Nat) (0 : Nat)),
 ((10 : Nat), AVal.int IntKind.i64 was), ((11 : Nat), AVal.int IntKind.i64 (0 : Int)),
 ((33 : Nat),
 AVal.ro (List.length sc) (7 : Nat) fun i =>
 [AVal.int IntKind.i64 (List.getD sc i opNone).kd, AVal.int IntKind.i64 (List.getD sc i opNone).q,
 AVal.str (List.getD sc i opNone).src, AVal.int IntKind.i64 (List.getD sc i opNone).id,
 AVal.int IntKind.i64 (List.getD sc i opNone).pri, AVal.int IntKind.i64 (List.getD sc i opNone).every,
 AVal.ro (List.length (List.getD sc i opNone).addrs) (1 : Nat) fun i_1 =>
 [AVal.str (List.getD (List.getD sc i opNone).addrs i_1 [])]]),
 ((34 : Nat), AVal.int IntKind.i64 m), ((35 : Nat), AVal.int IntKind.i64 i),
 ((67 : Nat),
 AVal.ro (2 : Nat) (5 : Nat)
 (rowsOf (5 : Nat)
 [AVal.int IntKind.i64 (1 : Int), AVal.int IntKind.i64 c.id, AVal.int IntKind.i64 p,
 AVal.int IntKind.i64 c.every, AVal.ro en (1 : Nat) ef, AVal.int IntKind.i64 (2 : Int),
 AVal.int IntKind.i64 (0 : Int), AVal.int IntKind.i64 (0 : Int), AVal.int IntKind.i64 (0 : Int),
 AVal.ro (0 : Nat) (1 : Nat) fun x => []])),
 ((68 : Nat), AVal.int IntKind.i64 (2 : Int)), ((69 : Nat), AVal.int IntKind.i64 (1 : Int))]
 [ABlk.vals
 [AVal.int IntKind.i64 c.id, AVal.int IntKind.i64 c.pri, AVal.int IntKind.i64 c.every, AVal.bool c.pre,
 AVal.str c.src, AVal.ro (List.length c.addrs) (1 : Nat) fun i => [AVal.str (List.getD c.addrs i [])]],
 ABlk.vals
 [AVal.int IntKind.i64 id, AVal.int IntKind.i64 pri, AVal.int IntKind.i64 every, AVal.bool pre, AVal.str src,
 AVal.ro n (1 : Nat) f, AVal.int IntKind.i64 st, AVal.int IntKind.i64 pace, AVal.int IntKind.i64 wait,
 AVal.sl (3 : Nat) (0 : Nat) (0 : Nat) (5 : Nat)],
 ABlk.vals
 [AVal.int IntKind.i64 kd, AVal.int IntKind.i64 q, AVal.str os, AVal.int IntKind.i64 oi, AVal.int IntKind.i64 op,
 AVal.int IntKind.i64 oe, AVal.ro on (1 : Nat) ox],
 ABlk.flat []]))) := by kernel_rfl
set_option maxRecDepth 100000 in
theorem VrrpClaims_i21 (c : Cfg) (sc : List OpV) (pr m i : Int) (id pri every : Int) (pre : Bool) (src : List UInt8) (n : Nat) (f : Nat → List AVal) (st pace wait : Int) (was : Int) (kd q : Int) (os : List UInt8) (oi op oe : Int) (on : Nat) (ox : Nat → List AVal) (p : Int) (en : Nat) (ef : Nat → List AVal) (I : St → Prop) (K : AVal → Hp → Prop) (J : St → Prop) : VrrpClaims_in_b I K J (St.mk [(2, .ptr 0 0), (5, .ptr 1 0), (7, .int .i64 pr), (9, .ptr 2 0), (10, .int .i64 was), (11, .int .i64 0), (33, scV sc), (34, .int .i64 m), (35, .int .i64 i), (67, .ro 2 5 (rowsOf 5 ([.int .i64 1, .int .i64 c.id, .int .i64 p, .int .i64 c.every, .ro en 1 ef, .int .i64 2, .int .i64 0, .int .i64 0, .int .i64 0, .ro 0 1 (fun _ => [])]))), (68, .int .i64 2), (69, .int .i64 1)] [.vals [.int .i64 c.id, .int .i64 c.pri, .int .i64 c.every, .bool c.pre, .str c.src, .ro c.addrs.length 1 (fun i => [.str (c.addrs.getD i [])])], .vals [.int .i64 id, .int .i64 pri, .int .i64 every, .bool pre, .str src, .ro n 1 f, .int .i64 st, .int .i64 pace, .int .i64 wait, .sl 3 0 0 5], .vals [.int .i64 kd, .int .i64 q, .str os, .int .i64 oi, .int .i64 op, .int .i64 oe, .ro on 1 ox], .flat []]) = (
 ((0 : Int) ≤ (1 : Int) ∧ (1 : Int) < (2 : Int)) ∧
 I64 (1 : Int) ∧
 I64 (2 : Int) ∧
 J
 (St.mk
 [((2 : Nat), AVal.ptr (0 : Nat) (0 : Nat)), ((5 : Nat), AVal.ptr (1 : Nat) (0 : Nat)),
 ((7 : Nat), AVal.int IntKind.i64 pr), ((9 : Nat), AVal.ptr (2 : Nat) (0 : Nat)),
 ((10 : Nat), AVal.int IntKind.i64 was), ((11 : Nat), AVal.int IntKind.i64 (1 : Int)),
 ((33 : Nat),
 AVal.ro (List.length sc) (7 : Nat) fun i =>
 [AVal.int IntKind.i64 (List.getD sc i opNone).kd, AVal.int IntKind.i64 (List.getD sc i opNone).q,
 AVal.str (List.getD sc i opNone).src, AVal.int IntKind.i64 (List.getD sc i opNone).id,
 AVal.int IntKind.i64 (List.getD sc i opNone).pri, AVal.int IntKind.i64 (List.getD sc i opNone).every,
 AVal.ro (List.length (List.getD sc i opNone).addrs) (1 : Nat) fun i_1 =>
 [AVal.str (List.getD (List.getD sc i opNone).addrs i_1 [])]]),
 ((34 : Nat), AVal.int IntKind.i64 m), ((35 : Nat), AVal.int IntKind.i64 i),
 ((67 : Nat),
 AVal.ro (2 : Nat) (5 : Nat)
 (rowsOf (5 : Nat)
 [AVal.int IntKind.i64 (1 : Int), AVal.int IntKind.i64 c.id, AVal.int IntKind.i64 p,
 AVal.int IntKind.i64 c.every, AVal.ro en (1 : Nat) ef, AVal.int IntKind.i64 (2 : Int),
 AVal.int IntKind.i64 (0 : Int), AVal.int IntKind.i64 (0 : Int), AVal.int IntKind.i64 (0 : Int),
 AVal.ro (0 : Nat) (1 : Nat) fun x => []])),
 ((68 : Nat), AVal.int IntKind.i64 (2 : Int)), ((69 : Nat), AVal.int IntKind.i64 (2 : Int))]
 [ABlk.vals
 [AVal.int IntKind.i64 c.id, AVal.int IntKind.i64 c.pri, AVal.int IntKind.i64 c.every, AVal.bool c.pre,
 AVal.str c.src, AVal.ro (List.length c.addrs) (1 : Nat) fun i => [AVal.str (List.getD c.addrs i [])]],
 ABlk.vals
 [AVal.int IntKind.i64 id, AVal.int IntKind.i64 pri, AVal.int IntKind.i64 every, AVal.bool pre, AVal.str src,
 AVal.ro n (1 : Nat) f, AVal.int IntKind.i64 st, AVal.int IntKind.i64 pace, AVal.int IntKind.i64 wait,
 AVal.sl (3 : Nat) (0 : Nat) (0 : Nat) (5 : Nat)],
 ABlk.vals
 [AVal.int IntKind.i64 kd, AVal.int IntKind.i64 q, AVal.str os, AVal.int IntKind.i64 oi, AVal.int IntKind.i64 op,
 AVal.int IntKind.i64 oe, AVal.ro on (1 : Nat) ox],
 ABlk.flat []])) := by kernel_rfl
set_option maxRecDepth 100000 in
theorem VrrpClaims_i22 (c : Cfg) (sc : List OpV) (pr m i : Int) (id pri every : Int) (pre : Bool) (src : List UInt8) (n : Nat) (f : Nat → List AVal) (st pace wait : Int) (was : Int) (kd q : Int) (os : List UInt8) (oi op oe : Int) (on : Nat) (ox : Nat → List AVal) (p : Int) (en : Nat) (ef : Nat → List AVal) (I : St → Prop) (K : AVal → Hp → Prop) (J : St → Prop) : VrrpClaims_in_b I K J (St.mk [(2, .ptr 0 0), (5, .ptr 1 0), (7, .int .i64 pr), (9, .ptr 2 0), (10, .int .i64 was), (11, .int .i64 1), (33, scV sc), (34, .int .i64 m), (35, .int .i64 i), (67, .ro 2 5 (rowsOf 5 ([.int .i64 1, .int .i64 c.id, .int .i64 p, .int .i64 c.every, .ro en 1 ef, .int .i64 2, .int .i64 0, .int .i64 0, .int .i64 0, .ro 0 1 (fun _ => [])]))), (68, .int .i64 2), (69, .int .i64 2)] [.vals [.int .i64 c.id, .int .i64 c.pri, .int .i64 c.every, .bool c.pre, .str c.src, .ro c.addrs.length 1 (fun i => [.str (c.addrs.getD i [])])], .vals [.int .i64 id, .int .i64 pri, .int .i64 every, .bool pre, .str src, .ro n 1 f, .int .i64 st, .int .i64 pace, .int .i64 wait, .sl 3 0 0 5], .vals [.int .i64 kd, .int .i64 q, .str os, .int .i64 oi, .int .i64 op, .int .i64 oe, .ro on 1 ox], .flat []]) = (
 brP (!decide (was = (3 : Int)))
 (brP (!decide (true = decide (st = (3 : Int)))) (K (AVal.bool false) [])
 (I64 (i + (1 : Int)) ∧
 I
 (St.mk
 [((2 : Nat), AVal.ptr (0 : Nat) (0 : Nat)), ((5 : Nat), AVal.ptr (1 : Nat) (0 : Nat)),
 ((7 : Nat), AVal.int IntKind.i64 pr),
 ((33 : Nat),
 AVal.ro (List.length sc) (7 : Nat) fun i =>
 [AVal.int IntKind.i64 (List.getD sc i opNone).kd, AVal.int IntKind.i64 (List.getD sc i opNone).q,
 AVal.str (List.getD sc i opNone).src, AVal.int IntKind.i64 (List.getD sc i opNone).id,
 AVal.int IntKind.i64 (List.getD sc i opNone).pri, AVal.int IntKind.i64 (List.getD sc i opNone).every,
 AVal.ro (List.length (List.getD sc i opNone).addrs) (1 : Nat) fun i_1 =>
 [AVal.str (List.getD (List.getD sc i opNone).addrs i_1 [])]]),
 ((34 : Nat), AVal.int IntKind.i64 m), ((35 : Nat), AVal.int IntKind.i64 (i + (1 : Int)))]
 [ABlk.vals
 [AVal.int IntKind.i64 c.id, AVal.int IntKind.i64 c.pri, AVal.int IntKind.i64 c.every, AVal.bool c.pre,
 AVal.str c.src, AVal.ro (List.length c.addrs) (1 : Nat) fun i => [AVal.str (List.getD c.addrs i [])]],
 ABlk.vals
 [AVal.int IntKind.i64 id, AVal.int IntKind.i64 pri, AVal.int IntKind.i64 every, AVal.bool pre, AVal.str src,
 AVal.ro n (1 : Nat) f, AVal.int IntKind.i64 st, AVal.int IntKind.i64 pace, AVal.int IntKind.i64 wait,
 AVal.sl (2 : Nat) (0 : Nat) (0 : Nat) (5 : Nat)],
 ABlk.flat []])))
 (K (AVal.bool false) [])) := by kernel_rfl

theorem claims_one {x : VX} (h0 : x.out = [] ∧ x.k = 0) (hs : x.m.st = 1 ∨ x.m.st = 2 ∨ x.m.st = 3) {kd q : Int} (hq : kd = 2 → q ≤ 1) (s : List UInt8) (a : Adv) :
    ((vrDo kd q s a x).out = [] ∧ (vrDo kd q s a x).k = 0 ∧ ¬ (x.m.st ≠ 3 ∧ (vrDo kd q s a x).m.st = 3)) ∨
    (∃ p, (vrDo kd q s a x).out = evSay x.m p ∧ (vrDo kd q s a x).k = 1 ∧ (p = x.m.pri ∧ kd ≠ 4 ∨ p = 0 ∧ kd = 1) ∧ ¬ (x.m.st ≠ 3 ∧ (vrDo kd q s a x).m.st = 3)) ∨
    ((vrDo kd q s a x).out = evSay x.m x.m.pri ++ evClaim ∧ (vrDo kd q s a x).k = 2 ∧ kd ≠ 4 ∧ x.m.st ≠ 3 ∧ (vrDo kd q s a x).m.st = 3) := by
  obtain ⟨m, o, k⟩ := x
  obtain ⟨rfl, rfl⟩ : o = [] ∧ k = 0 := h0
  simp only at hs
  have lead : m.st ≠ 3 → (vrLead ⟨m, [], 0⟩).out = evSay m m.pri ++ evClaim ∧ (vrLead ⟨m, [], 0⟩).k = 2 ∧ m.st ≠ 3 ∧ (vrLead ⟨m, [], 0⟩).m.st = 3 := fun h => ⟨rfl, rfl, h, rfl⟩
  have follow : ∀ p, (vrFollow p ⟨m, [], 0⟩).out = [] ∧ (vrFollow p ⟨m, [], 0⟩).k = 0 ∧ ¬ (m.st ≠ 3 ∧ (vrFollow p ⟨m, [], 0⟩).m.st = 3) := fun p => ⟨rfl, rfl, fun h => absurd h.2 (by show ¬ (2 : Int) = 3; omega)⟩
  have same : ([] : List AVal) = [] ∧ 0 = 0 ∧ ¬ (m.st ≠ 3 ∧ m.st = 3) := ⟨rfl, rfl, fun h => h.1 h.2⟩
  have tick : ((vrTick ⟨m, [], 0⟩).out = [] ∧ (vrTick ⟨m, [], 0⟩).k = 0 ∧ ¬ (m.st ≠ 3 ∧ (vrTick ⟨m, [], 0⟩).m.st = 3)) ∨ (∃ p, (vrTick ⟨m, [], 0⟩).out = evSay m p ∧ (vrTick ⟨m, [], 0⟩).k = 1 ∧ p = m.pri ∧ ¬ (m.st ≠ 3 ∧ (vrTick ⟨m, [], 0⟩).m.st = 3)) ∨
      ((vrTick ⟨m, [], 0⟩).out = evSay m m.pri ++ evClaim ∧ (vrTick ⟨m, [], 0⟩).k = 2 ∧ m.st ≠ 3 ∧ (vrTick ⟨m, [], 0⟩).m.st = 3) := by
    unfold vrTick
    split
    · exact .inl same
    · split
      · exact .inl ⟨rfl, rfl, fun h => h.1 h.2⟩
      · split
        · rename_i h2; exact .inr (.inr (lead (by simp only at h2; omega)))
        · exact .inr (.inl ⟨m.pri, rfl, rfl, rfl, fun h => h.1 h.2⟩)
  unfold vrDo
  split
  · rename_i hk
    unfold vrStart
    split
    · exact .inl same
    · rename_i h1
      split
      · exact .inr (.inr ⟨rfl, rfl, by omega, (lead (by simp only at h1; omega)).2.2⟩)
      · exact .inl (follow _)
  split
  · rename_i hk
    unfold vrStop
    split
    · exact .inr (.inl ⟨0, rfl, rfl, .inr ⟨rfl, hk⟩, fun h => absurd h.2 (by show ¬ (1 : Int) = 3; omega)⟩)
    · exact .inl ⟨rfl, rfl, fun h => absurd h.2 (by show ¬ (1 : Int) = 3; omega)⟩
  split
  · rename_i hk
    have hc : vrCount q = 0 ∨ vrCount q = 1 := by have := hq hk; unfold vrCount; split <;> omega
    rcases hc with hc | hc <;> rw [hc]
    · exact .inl same
    · rcases tick with h | ⟨p, h1, h2, h3, h4⟩ | ⟨h1, h2, h3⟩
      · exact .inl h
      · exact .inr (.inl ⟨p, h1, h2, .inl ⟨h3, by omega⟩, h4⟩)
      · exact .inr (.inr ⟨h1, h2, by omega, h3⟩)
  split
  · rename_i hk
    unfold vrTake
    split
    · exact .inl same
    split
    · rename_i h2
      split
      · exact .inl ⟨rfl, rfl, fun h => absurd h.2 (by show ¬ (2 : Int) = 3; omega)⟩
      · split
        · exact .inl (follow _)
        · exact .inl same
    split
    · rename_i h3
      split
      · exact .inr (.inl ⟨m.pri, rfl, rfl, .inl ⟨rfl, by omega⟩, fun h => h.1 h3⟩)
      · split
        · exact .inl (follow _)
        · exact .inl same
    · exact .inl same
  split
  · unfold vrPri
    split
    · exact .inl same
    · exact .inl ⟨rfl, rfl, fun h => h.1 h.2⟩
  · exact .inl same
theorem claims_pri {x : VX} {kd q : Int} (s : List UInt8) (a : Adv) : (vrDo kd q s a x).m.pri = if kd = 4 ∧ 1 ≤ q ∧ q ≤ 255 then q else x.m.pri := by
  have tick : ∀ y : VX, (vrTick y).m.pri = y.m.pri := fun y => by
    unfold vrTick
    repeat' split
    all_goals rfl
  have ticks : ∀ (j : Nat) (y : VX), (vrTicks j y).m.pri = y.m.pri := by
    intro j
    induction j with
    | zero => intro y; rfl
    | succ j ih => intro y; unfold vrTicks; rw [ih, tick]
  have start : (vrStart x).m.pri = x.m.pri := by
    unfold vrStart
    repeat' split
    all_goals rfl
  have stop : (vrStop x).m.pri = x.m.pri := by
    unfold vrStop
    split <;> rfl
  have take : (vrTake s a x).m.pri = x.m.pri := by
    unfold vrTake
    repeat' split
    all_goals rfl
  unfold vrDo
  split
  · rw [if_neg (by omega), start]
  split
  · rw [if_neg (by omega), stop]
  split
  · rw [if_neg (by omega), ticks]
  split
  · rw [if_neg (by omega), take]
  split
  · unfold vrPri
    split
    · rw [if_neg (by omega)]
    · rw [if_pos (by omega)]
  · rw [if_neg (by omega)]
attribute [local irreducible] VrrpClaims_lp_n VrrpClaims_lp_b VrrpClaims_in_n VrrpClaims_in_b
theorem claims_tf {a : Int} (h : ¬ (false = decide (a = 3))) : a = 3 := by
  by_cases e : a = 3
  · exact e
  · exact absurd (decide_eq_false e).symm h
theorem claims_tt {a : Int} (h : ¬ (true = decide (a = 3))) : ¬ a = 3 := fun e => h (decide_eq_true e).symm
theorem claims_in (c : Cfg) (sc : List OpV) (pr m i : Int) (id pri every : Int) (pre : Bool) (src : List UInt8) (n : Nat) (f : Nat → List AVal) (st pace wait : Int) (was : Int) (kd q : Int) (os : List UInt8) (oi op oe : Int) (on : Nat) (ox : Nat → List AVal) (K : AVal → Hp → Prop) (J : St → Prop) (k : Nat) (cs : List AVal)
    (h : (cs = [] ∧ k = 0 ∧ ¬ (was ≠ 3 ∧ st = 3)) ∨ (∃ (p : Int) (en : Nat) (ef : Nat → List AVal), cs = [.int .i64 1, .int .i64 c.id, .int .i64 p, .int .i64 c.every, .ro en 1 ef] ∧ k = 1 ∧ (p = pr ∨ p = 0 ∧ kd = 1) ∧ ¬ (was ≠ 3 ∧ st = 3)) ∨ (∃ (p : Int) (en : Nat) (ef : Nat → List AVal), cs = [.int .i64 1, .int .i64 c.id, .int .i64 p, .int .i64 c.every, .ro en 1 ef, .int .i64 2, .int .i64 0, .int .i64 0, .int .i64 0, .ro 0 1 (fun _ => [])] ∧ k = 2 ∧ p = pr ∧ was ≠ 3 ∧ st = 3))
    (hi : 0 ≤ i ∧ i < 400) (hJ : J (St.mk [(2, .ptr 0 0), (5, .ptr 1 0), (7, .int .i64 pr), (33, scV sc), (34, .int .i64 m), (35, .int .i64 (i + 1))] [.vals [.int .i64 c.id, .int .i64 c.pri, .int .i64 c.every, .bool c.pre, .str c.src, .ro c.addrs.length 1 (fun i => [.str (c.addrs.getD i [])])], .vals [.int .i64 id, .int .i64 pri, .int .i64 every, .bool pre, .str src, .ro n 1 f, .int .i64 st, .int .i64 pace, .int .i64 wait, .sl 2 0 0 5], .flat []])) : VrrpClaims_in J K (St.mk [(2, .ptr 0 0), (5, .ptr 1 0), (7, .int .i64 pr), (9, .ptr 2 0), (10, .int .i64 was), (11, .int .i64 0), (33, scV sc), (34, .int .i64 m), (35, .int .i64 i), (67, .ro k 5 (rowsOf 5 (List.take (k * 5) (List.drop 0 cs)))), (68, .int .i64 k), (69, .int .i64 0)] [.vals [.int .i64 c.id, .int .i64 c.pri, .int .i64 c.every, .bool c.pre, .str c.src, .ro c.addrs.length 1 (fun i => [.str (c.addrs.getD i [])])], .vals [.int .i64 id, .int .i64 pri, .int .i64 every, .bool pre, .str src, .ro n 1 f, .int .i64 st, .int .i64 pace, .int .i64 wait, .sl 3 0 0 5], .vals [.int .i64 kd, .int .i64 q, .str os, .int .i64 oi, .int .i64 op, .int .i64 oe, .ro on 1 ox], .flat []]) := by
  have ends : brP (!decide (was = 3)) (brP (!decide (false = decide (st = 3))) (K (.bool false) []) (I64 (i + 1) ∧ J (St.mk [(2, .ptr 0 0), (5, .ptr 1 0), (7, .int .i64 pr), (33, scV sc), (34, .int .i64 m), (35, .int .i64 (i + 1))] [.vals [.int .i64 c.id, .int .i64 c.pri, .int .i64 c.every, .bool c.pre, .str c.src, .ro c.addrs.length 1 (fun i => [.str (c.addrs.getD i [])])], .vals [.int .i64 id, .int .i64 pri, .int .i64 every, .bool pre, .str src, .ro n 1 f, .int .i64 st, .int .i64 pace, .int .i64 wait, .sl 2 0 0 5], .flat []]))) (I64 (i + 1) ∧ J (St.mk [(2, .ptr 0 0), (5, .ptr 1 0), (7, .int .i64 pr), (33, scV sc), (34, .int .i64 m), (35, .int .i64 (i + 1))] [.vals [.int .i64 c.id, .int .i64 c.pri, .int .i64 c.every, .bool c.pre, .str c.src, .ro c.addrs.length 1 (fun i => [.str (c.addrs.getD i [])])], .vals [.int .i64 id, .int .i64 pri, .int .i64 every, .bool pre, .str src, .ro n 1 f, .int .i64 st, .int .i64 pace, .int .i64 wait, .sl 2 0 0 5], .flat []])) ∨ True := .inr trivial
  clear ends
  rcases h with ⟨rfl, rfl, h⟩ | ⟨p, en, ef, rfl, rfl, hp, h⟩ | ⟨p, en, ef, rfl, rfl, hp, h⟩
  · refine ⟨1, VrrpClaims_in_next ?_⟩
    refine (VrrpClaims_i00 c sc pr m i id pri every pre src n f st pace wait was kd q os oi op oe on ox _ _ _).mpr ?_
    exact brP_nd (fun h1 => brP_nd (fun h2 => absurd ⟨h1, claims_tf h2⟩ h) (fun _ => ⟨by unfold I64; omega, hJ⟩)) (fun _ => ⟨by unfold I64; omega, hJ⟩)
  · refine ⟨2, VrrpClaims_in_next ?_⟩
    refine (VrrpClaims_i10 c sc pr m i id pri every pre src n f st pace wait was kd q os oi op oe on ox p en ef _ _ _).mpr ⟨by omega, brP_i (fun hb => ?_) (fun _ => ⟨by unfold I64; omega, VrrpClaims_in_next ?_⟩)⟩
    · exfalso
      rcases hp with rfl | ⟨rfl, rfl⟩ <;> simp at hb
    · refine (VrrpClaims_i11 c sc pr m i id pri every pre src n f st pace wait was kd q os oi op oe on ox p en ef _ _ _).mpr ?_
      exact brP_nd (fun h1 => brP_nd (fun h2 => absurd ⟨h1, claims_tf h2⟩ h) (fun _ => ⟨by unfold I64; omega, hJ⟩)) (fun _ => ⟨by unfold I64; omega, hJ⟩)
  · refine ⟨3, VrrpClaims_in_next ?_⟩
    refine (VrrpClaims_i20 c sc pr m i id pri every pre src n f st pace wait was kd q os oi op oe on ox p en ef _ _ _).mpr ⟨by omega, brP_i (fun hb => ?_) (fun _ => ⟨by unfold I64; omega, VrrpClaims_in_next ?_⟩)⟩
    · exfalso
      subst hp
      simp at hb
    · refine (VrrpClaims_i21 c sc pr m i id pri every pre src n f st pace wait was kd q os oi op oe on ox p en ef _ _ _).mpr ⟨by omega, by unfold I64; omega, by unfold I64; omega, VrrpClaims_in_next ?_⟩
      refine (VrrpClaims_i22 c sc pr m i id pri every pre src n f st pace wait was kd q os oi op oe on ox p en ef _ _ _).mpr ?_
      exact brP_nd (fun h1 => brP_nd (fun h2 => absurd h.2 (claims_tt h2)) (fun _ => ⟨by unfold I64; omega, hJ⟩)) (fun h1 => absurd h1 h.1)
theorem claims_all (c : Cfg) (sc : List OpV) (m : Int) (hm : m = (sc.length : Int)) (hn : sc.length ≤ 300) : ∀ (j : Nat) (pr i : Int) (id pri every : Int) (pre : Bool) (src : List UInt8) (n : Nat) (f : Nat → List AVal) (st pace wait : Int), 0 ≤ i → i + (j : Int) = m → VOk ⟨⟨id, pri, every, pre, src, n, f, st, pace, wait⟩, [], 0⟩ → id = c.id → every = c.every → pr = pri →
    VrrpClaims_lp_n (fun v _ => v = .bool true) (j + 1) (St.mk [(2, .ptr 0 0), (5, .ptr 1 0), (7, .int .i64 pr), (33, scV sc), (34, .int .i64 m), (35, .int .i64 i)] [.vals [.int .i64 c.id, .int .i64 c.pri, .int .i64 c.every, .bool c.pre, .str c.src, .ro c.addrs.length 1 (fun i => [.str (c.addrs.getD i [])])], .vals [.int .i64 id, .int .i64 pri, .int .i64 every, .bool pre, .str src, .ro n 1 f, .int .i64 st, .int .i64 pace, .int .i64 wait, .sl 2 0 0 5], .flat []])
  | 0, pr, i, id, pri, every, pre, src, n, f, st, pace, wait, h0, h, hok, hid, hev, hpr => by
    refine VrrpClaims_lp_next ?_
    rw [VrrpClaims_lp_step]
    exact brP_d (fun h' => by omega) (fun _ => rfl)
  | j + 1, pr, i, id, pri, every, pre, src, n, f, st, pace, wait, h0, h, hok, hid, hev, hpr => by
    refine VrrpClaims_lp_next ?_
    rw [VrrpClaims_lp_step]
    generalize sc.getD i.toNat opNone = o
    subst hid hev hpr
    have fin : ∀ (q' pr' : Int), (o.kd = 2 → q' ≤ 1) → pr' = (if o.kd = 4 ∧ 1 ≤ q' ∧ q' ≤ 255 then q' else pr) → VrrpClaims_in (VrrpClaims_lp_n (fun v _ => v = .bool true) (j + 1)) (fun v _ => v = .bool true) (St.mk [(2, .ptr 0 0), (5, .ptr 1 0), (7, .int .i64 pr'), (9, .ptr 2 0), (10, .int .i64 st), (11, .int .i64 0), (33, scV sc), (34, .int .i64 m), (35, .int .i64 i), (67, .ro (vrDo o.kd q' o.src ⟨o.id, o.pri, o.every, []⟩ ⟨⟨c.id, pr, c.every, pre, src, n, f, st, pace, wait⟩, [], 0⟩).k 5 (rowsOf 5 (List.take ((vrDo o.kd q' o.src ⟨o.id, o.pri, o.every, []⟩ ⟨⟨c.id, pr, c.every, pre, src, n, f, st, pace, wait⟩, [], 0⟩).k * 5) (List.drop 0 (vrDo o.kd q' o.src ⟨o.id, o.pri, o.every, []⟩ ⟨⟨c.id, pr, c.every, pre, src, n, f, st, pace, wait⟩, [], 0⟩).out)))), (68, .int .i64 (vrDo o.kd q' o.src ⟨o.id, o.pri, o.every, []⟩ ⟨⟨c.id, pr, c.every, pre, src, n, f, st, pace, wait⟩, [], 0⟩).k), (69, .int .i64 0)] [.vals [.int .i64 c.id, .int .i64 c.pri, .int .i64 c.every, .bool c.pre, .str c.src, .ro c.addrs.length 1 (fun i => [.str (c.addrs.getD i [])])], .vals [.int .i64 (vrDo o.kd q' o.src ⟨o.id, o.pri, o.every, []⟩ ⟨⟨c.id, pr, c.every, pre, src, n, f, st, pace, wait⟩, [], 0⟩).m.id, .int .i64 (vrDo o.kd q' o.src ⟨o.id, o.pri, o.every, []⟩ ⟨⟨c.id, pr, c.every, pre, src, n, f, st, pace, wait⟩, [], 0⟩).m.pri, .int .i64 (vrDo o.kd q' o.src ⟨o.id, o.pri, o.every, []⟩ ⟨⟨c.id, pr, c.every, pre, src, n, f, st, pace, wait⟩, [], 0⟩).m.every, .bool (vrDo o.kd q' o.src ⟨o.id, o.pri, o.every, []⟩ ⟨⟨c.id, pr, c.every, pre, src, n, f, st, pace, wait⟩, [], 0⟩).m.pre, .str (vrDo o.kd q' o.src ⟨o.id, o.pri, o.every, []⟩ ⟨⟨c.id, pr, c.every, pre, src, n, f, st, pace, wait⟩, [], 0⟩).m.src, .ro (vrDo o.kd q' o.src ⟨o.id, o.pri, o.every, []⟩ ⟨⟨c.id, pr, c.every, pre, src, n, f, st, pace, wait⟩, [], 0⟩).m.n 1 (vrDo o.kd q' o.src ⟨o.id, o.pri, o.every, []⟩ ⟨⟨c.id, pr, c.every, pre, src, n, f, st, pace, wait⟩, [], 0⟩).m.f, .int .i64 (vrDo o.kd q' o.src ⟨o.id, o.pri, o.every, []⟩ ⟨⟨c.id, pr, c.every, pre, src, n, f, st, pace, wait⟩, [], 0⟩).m.st, .int .i64 (vrDo o.kd q' o.src ⟨o.id, o.pri, o.every, []⟩ ⟨⟨c.id, pr, c.every, pre, src, n, f, st, pace, wait⟩, [], 0⟩).m.pace, .int .i64 (vrDo o.kd q' o.src ⟨o.id, o.pri, o.every, []⟩ ⟨⟨c.id, pr, c.every, pre, src, n, f, st, pace, wait⟩, [], 0⟩).m.wait, .sl 3 0 0 5], .vals [.int .i64 o.kd, .int .i64 q', .str o.src, .int .i64 o.id, .int .i64 o.pri, .int .i64 o.every, .ro o.addrs.length 1 (fun i => [.str (o.addrs.getD i [])])], .flat []]) := by
      intro q' pr' hq hp
      have hc1 := claims_one (x := ⟨⟨c.id, pr, c.every, pre, src, n, f, st, pace, wait⟩, [], 0⟩) ⟨rfl, rfl⟩ hok.st hq o.src ⟨o.id, o.pri, o.every, []⟩
      have hv := (vrDo_ok hok (by simp only; omega) o.kd q' o.src ⟨o.id, o.pri, o.every, []⟩).1
      have hc := vrDo_cfg (x := ⟨⟨c.id, pr, c.every, pre, src, n, f, st, pace, wait⟩, [], 0⟩) (kd := o.kd) (q := q') (s := o.src) (a := ⟨o.id, o.pri, o.every, []⟩)
      have hpp := claims_pri (x := ⟨⟨c.id, pr, c.every, pre, src, n, f, st, pace, wait⟩, [], 0⟩) (kd := o.kd) (q := q') o.src ⟨o.id, o.pri, o.every, []⟩
      generalize vrDo o.kd q' o.src ⟨o.id, o.pri, o.every, []⟩ ⟨⟨c.id, pr, c.every, pre, src, n, f, st, pace, wait⟩, [], 0⟩ = D at *
      simp only at hpp
      refine claims_in c sc pr' m i _ _ _ _ _ _ _ _ _ _ _ _ _ _ _ _ _ _ _ _ _ _ _ ?_ ⟨h0, by omega⟩ ?_
      · rcases hc1 with h1 | ⟨p, h1, h2, h3, h4⟩ | ⟨h1, h2, h3, h4⟩
        · exact .inl h1
        · refine .inr (.inl ⟨p, n, f, h1, h2, ?_, h4⟩)
          rcases h3 with ⟨h3, h5⟩ | h3
          · left; rw [hp, if_neg (by omega)]; exact h3
          · exact .inr h3
        · exact .inr (.inr ⟨pr, n, f, h1, h2, by rw [hp, if_neg (by omega)], h4⟩)
      · exact claims_all c sc m hm hn j pr' (i + 1) _ _ _ _ _ _ _ _ _ _ (by omega) (by omega) ⟨hv.every, hv.pri, hv.pace, hv.st, hv.wait, hv.run, hv.n, rfl, by simp⟩ hc.id hc.every (by rw [hp, hpp])
    refine brP_d (fun _ => ⟨by omega, brP_d (fun hk => brP_i (fun hb => ?_) (fun hb => ⟨⟨hok, by omega⟩, ?_⟩)) (fun hk => brP_i (fun hb => ⟨⟨hok, by omega⟩, ?_⟩) (fun hb => ⟨⟨hok, by omega⟩, ?_⟩))⟩) (fun h' => by omega)
    · exfalso
      simp only [Bool.and_eq_true, Bool.or_eq_true, Bool.and_eq_false_iff, Bool.or_eq_false_iff, decide_eq_true_eq, decide_eq_false_iff_not, Bool.not_eq_true', Bool.not_eq_false', Bool.not_true, Bool.not_false, Bool.true_and, Bool.and_true, Bool.false_or, Bool.or_false, beq_iff_eq, beq_eq_false_iff_ne, ne_eq] at hb
      omega
    · exact fin _ _ (fun _ => by split <;> omega) (by rw [if_neg (by omega)])
    · simp only [Bool.and_eq_true, Bool.or_eq_true, Bool.and_eq_false_iff, Bool.or_eq_false_iff, decide_eq_true_eq, decide_eq_false_iff_not, Bool.not_eq_true', Bool.not_eq_false', Bool.not_true, Bool.not_false, Bool.true_and, Bool.and_true, Bool.false_or, Bool.or_false, beq_iff_eq, beq_eq_false_iff_ne, ne_eq] at hb
      exact fin _ _ (fun h => absurd h hk) (by rw [if_pos ⟨hb.1.1, hb.1.2, hb.2⟩])
    · refine fin _ _ (fun h => absurd h hk) ?_
      rw [if_neg]
      rintro ⟨g1, g2, g3⟩
      rw [decide_eq_true g1, decide_eq_true g2, decide_eq_true g3] at hb
      cases hb
attribute [local irreducible] fnP in
theorem vrrpClaims.core (c : Cfg) (sc : List OpV) (h_c : CfgOk c) (h_sc : (∀ o ∈ sc, OpOk o) ∧ sc.length ≤ 140737488351232) :
    fnP Try.prog Tlw ann_outriderlaw13_VrrpClaims Try.f10 [.agg (cfgCells c), scV sc] [] (fun v _ => v = .bool true) := by
  rw [VrrpClaims_eq]
  obtain ⟨c1, c2, c3, c4, c5⟩ := h_c
  refine ⟨⟨isStrs_of _ _, by omega⟩, brP_i (fun hr => ?_) (fun _ => rfl)⟩
  rw [Bool.and_eq_true] at hr
  obtain ⟨hok, hp⟩ := new_ok c.pre (f := fun i => [AVal.str (c.addrs.getD i [])]) hr.1 (by simpa using hr.2)
  refine brP_d (fun _ => rfl) (fun hl => ?_)
  exact ⟨_, claims_all c sc _ rfl (by omega) sc.length c.pri 0 _ _ _ _ _ _ _ _ _ _ (by omega) (by omega) hok rfl rfl rfl⟩
end Go.Proofs.Ytldfkjjjjfbbmaa.Ae
namespace Go.Proofs.Ytldfkjjjjfbbmaa
open Go Go.RowKit Ae
attribute [local irreducible] fnP in
set_option maxRecDepth 100000 in
theorem vrrpClaims.walk {H : Type} {enc : TypeId × Value → H} (W : World) (args : Array Value) (hn : args.size = 2)
    (h : ∀ (j : Nat) t v, Try.f10.params[j]? = some t → args[j]? = some v → RdV enc false Try.prog W t v) :
    Calls Try.prog 10 args W fun e w' => e = .returned (.bool true) ∧ Below W.heap.size W w' := by
  obtain ⟨v0, v1, rfl⟩ := args2 hn
  obtain ⟨c, h_c, hv0⟩ := arg_struct (b := false) (.inl ⟨_, Try.underlying28⟩) open_cfg (h 0 28 v0 rfl rfl)
  obtain ⟨sc, h_sc, hv1⟩ := arg_slice (b := false) Try.underlying47 open_sc (h 1 47 v1 rfl rfl)
  obtain ⟨r, H1, hr, hG⟩ := fn_sound Tlw_sound mixed Try.func10 (by decide +kernel) (vrrpClaims.core c sc h_c h_sc)
  subst hr
  exact law_walk hG (vl_cons hv0 (vl_cons hv1 vl_nil))

namespace vrrpClaims
theorem spec {H : Type} (ds : List (DataW H)) (h : ds.length = Try.f10.params.size) : Rows.vrrpClaimsSpec.fn H ds = { results := [.lit (.bool true)], args := ds } := by
  have h' : ds.length = 2 := h
  match ds, h' with
  | [_, _], _ => rfl

set_option maxRecDepth 100000 in
theorem lifted (os : Os) (started : os.Started) (H : Type) (enc : TypeId × Value → H) :
    ReturnsInHanded {} Try.checked os 10 .any (Rows.vrrpClaimsSpec.pre6 enc Try.prog Try.f10 Rows.vrrpClaimsRow.domain false) (Rows.vrrpClaimsSpec.post enc Try.prog Try.f10 false true false false) :=
  lifted_said (C := Try.checked) (tb := 4) own started (by kernel_rfl) Try.func10
    (ChangeSpec.witness6 (enc := enc) (C := Try.checked) false ⟨#[], #[.agg #[.int .i64 0, .int .i64 0, .int .i64 0, .bool false, .string .empty, .slice none 0 0], .slice none 0 0], []⟩ 8 (by kernel_rfl) (by kernel_rfl) (by kernel_rfl) (by kernel_rfl))
    rfl spec rfl Try.underlying4 laidOut (by kernel_rfl) walk

theorem over : Rows.vrrpClaimsRow.holds Try.pinned (OpenSpec.ofChange Rows.vrrpClaimsSpec) :=
  OpenClaim.holds_of_wide 10 Try.f10 rfl rfl rfl rfl rfl rfl rfl ⟨rfl, rfl, rfl, rfl, rfl⟩ rfl rfl rfl rfl rfl (by kernel_rfl) Try.func10 (by kernel_rfl)
    (of_decide_eq_true (by kernel_rfl)) (by unfold Func.isWrapper; first | (rw [if_pos (by decide +kernel)]; kernel_rfl) | (rw [if_neg (by decide +kernel)]; exact ⟨rfl, rfl⟩))
    (fun os started H enc _ => lifted os started H enc)

theorem proved : Rows.VrrpClaimsSaid := over
#print axioms proved
end vrrpClaims

end Go.Proofs.Ytldfkjjjjfbbmaa

