/- VrrpAll: any machine, whatever it is told, does what the document says, stands as it says, and its timer runs as it says; who can not be is none. No conditions. -/
import Derived.Test.YtldfkjjjjfbbmaaEv
set_option linter.unusedSimpArgs false
set_option linter.unusedVariables false
set_option maxRecDepth 100000
namespace Go.Proofs.Ytldfkjjjjfbbmaa.Ae
open Go Go.RowKit
def ann_outriderlaw13_VrrpAll : Nat → List Nat × Nat × List (List Nat)
  | 8 => ([5, 7, 52, 53, 54], 0, [])
  | 12 => ([], 28, [[1, 7, 14, 16, 21, 22, 25], [], [0], [], [2], [0, 1, 2, 3], [0, 1, 2, 3, 4], [0, 1, 2, 3, 4, 5], [0, 1, 2, 3, 4, 5, 6], [0, 1, 2, 3, 4, 5], [0, 1, 2, 3, 4, 5, 8], [0, 1, 2, 3, 4, 5, 6, 7, 8, 9], [0, 1, 2, 3, 4, 5, 6, 7, 8, 9, 10], [0, 1, 2, 3, 4, 5, 6, 7, 8, 9, 10, 11], [0, 1, 2, 3, 4, 5, 6, 7, 8, 9, 10, 11, 12], [0, 1, 2, 3, 4, 5, 6, 7, 8, 9, 10, 11, 12, 13], [0, 1, 2, 3, 4, 5, 6, 7, 8, 9, 10, 11, 12], [0, 1, 2, 3, 4, 5, 6, 7, 8, 9, 10, 11, 12, 13, 14, 15], [0, 1, 2, 3, 4, 5, 6, 7, 8, 9, 10, 11, 12, 13, 14, 15, 16], [0, 1, 2, 3, 4, 5, 6, 7, 8, 9, 10, 11, 12, 13, 14, 15, 16, 17], [0, 1, 2, 3, 4, 5, 6, 7, 8, 9, 10, 11, 12, 13, 14, 15, 16, 17, 18], [0, 1, 2, 3, 4, 5, 6, 7, 8, 9, 10, 11, 12, 13, 14, 15, 16, 17, 18, 19], [0, 1, 2, 3, 4, 5, 6, 7, 8, 9, 10, 11, 12, 13, 14, 15, 16, 17, 18, 19, 20], [0, 1, 2, 3, 4, 5, 6, 7, 8, 9, 10, 11, 12, 13, 14, 15, 16, 17, 18, 19, 20, 21], [0, 1, 2, 3, 4, 5, 6, 7, 8, 9, 10, 11, 12, 13, 14, 15, 16, 17, 18, 19], [0, 1, 2, 3, 4, 5, 6, 7, 8, 9, 10, 11, 12, 13, 14, 15, 16, 17, 18, 19, 23], [0, 1, 2, 3, 4, 5, 6, 7, 8, 9, 10, 11, 12, 13, 14, 15, 16, 17, 18, 19, 20, 21, 22, 23, 24], [0, 1, 2, 3, 4, 5, 6, 7, 8, 9, 10, 11, 12, 13, 14, 15, 16, 17, 18, 19, 20, 21, 22, 23, 24, 25], [0, 1, 2, 3, 4, 5, 6, 7, 8, 9, 10, 11, 12, 13, 14, 15, 16, 17, 18, 19, 20, 21, 22, 23, 24, 25, 26]])
  | 2000005 => ([], 12, [[], [0], [0, 1], [0, 1, 2], [0, 1, 2, 3], [0, 1, 2, 3, 4], [0, 1, 2, 3, 4, 5], [0, 1, 2, 3, 4, 5, 6], [0, 1, 2, 3, 4, 5, 6, 7], [0, 1, 2, 3, 4, 5, 6, 7, 8], [0, 1, 2, 3, 4, 5, 6, 7, 8, 9]])
  | _ => ([], 0, [])
noncomputable abbrev VrrpAll_lp_X : Cx := ⟨Try.prog, Tev, Try.f7.ntmps, 0, ann_outriderlaw13_VrrpAll⟩
noncomputable def VrrpAll_lp_c : Code := cAt [.r, .r, .r, .r, .r, .l, .r, .b] (bodyOf Try.f7)
noncomputable def VrrpAll_lp_k (K : AVal → Hp → Prop) : Post := kAt VrrpAll_lp_X [.r, .r, .r, .r, .r, .l, .r, .b] (bodyOf Try.f7) (fnK Try.prog 0 Try.f7.results.toList K)
def VrrpAll_lp_n (K : AVal → Hp → Prop) (n : Nat) (s : St) : Prop := loopP (awp VrrpAll_lp_X (loopB VrrpAll_lp_c)) 0 [5, 7, 52, 53, 54] n s (VrrpAll_lp_k K)
def VrrpAll_lp (K : AVal → Hp → Prop) (s : St) : Prop := ∃ n, VrrpAll_lp_n K n s
def VrrpAll_lp_b (K : AVal → Hp → Prop) (J : St → Prop) (s : St) : Prop := awp VrrpAll_lp_X (loopB VrrpAll_lp_c) s (seqK (fun s' => normK 0 [5, 7, 52, 53, 54] s' J) (VrrpAll_lp_k K))
theorem VrrpAll_lp_next {K : AVal → Hp → Prop} {n : Nat} {s : St} (h : VrrpAll_lp_b K (fun s' => VrrpAll_lp_n K n s') s) : VrrpAll_lp_n K (n + 1) s := h
set_option maxRecDepth 100000 in
theorem VrrpAll_eq (c : Cfg) (sc : List OpV) (K : AVal → Hp → Prop) : fnP Try.prog Tev ann_outriderlaw13_VrrpAll Try.f7 [.agg (cfgCells c), scV sc] [] K = (
 ((IsStrs (List.length c.addrs) fun i => [AVal.str (List.getD c.addrs i [])]) ∧
 List.length c.addrs ≤ (8796093022000 : Nat)) ∧
 brP
 (adRight (Adv.mk c.id c.pri c.every (strs (List.length c.addrs) fun i => [AVal.str (List.getD c.addrs i [])]))
 c.src &&
 !decide (c.pri = (0 : Int)))
 (((IsStrs (List.length c.addrs) fun i => [AVal.str (List.getD c.addrs i [])]) ∧
 List.length c.addrs ≤ (8796093022000 : Nat)) ∧
 brP
 (adRight (Adv.mk c.id c.pri c.every (strs (List.length c.addrs) fun i => [AVal.str (List.getD c.addrs i [])]))
 c.src &&
 !decide (c.pri = (0 : Int)))
 (brP (decide ((300 : Int) < (↑(List.length sc) : Int))) (K (AVal.bool true) [])
 (VrrpAll_lp K
 (St.mk
 [((5 : Nat), AVal.ptr (0 : Nat) (0 : Nat)), ((7 : Nat), AVal.ptr (1 : Nat) (0 : Nat)),
 ((52 : Nat),
 AVal.ro (List.length sc) (7 : Nat) fun i =>
 [AVal.int IntKind.i64 (List.getD sc i opNone).kd, AVal.int IntKind.i64 (List.getD sc i opNone).q,
 AVal.str (List.getD sc i opNone).src, AVal.int IntKind.i64 (List.getD sc i opNone).id,
 AVal.int IntKind.i64 (List.getD sc i opNone).pri, AVal.int IntKind.i64 (List.getD sc i opNone).every,
 AVal.ro (List.length (List.getD sc i opNone).addrs) (1 : Nat) fun i_1 =>
 [AVal.str (List.getD (List.getD sc i opNone).addrs i_1 [])]]),
 ((53 : Nat), AVal.int IntKind.i64 (↑(List.length sc) : Int)), ((54 : Nat), AVal.int IntKind.i64 (0 : Int))]
 [ABlk.vals
 [AVal.int IntKind.i64 c.id, AVal.int IntKind.i64 c.pri, AVal.int IntKind.i64 c.every, AVal.bool c.pre,
 AVal.str c.src, AVal.ro (List.length c.addrs) (1 : Nat) fun i => [AVal.str (List.getD c.addrs i [])],
 AVal.int IntKind.i64 (1 : Int), AVal.int IntKind.i64 c.every, AVal.int IntKind.i64 (0 : Int),
 AVal.sl (2 : Nat) (0 : Nat) (0 : Nat) (5 : Nat)],
 ABlk.vals
 [AVal.int IntKind.i64 c.id, AVal.int IntKind.i64 c.pri, AVal.int IntKind.i64 c.every, AVal.bool c.pre,
 AVal.str c.src, AVal.ro (List.length c.addrs) (1 : Nat) fun i => [AVal.str (List.getD c.addrs i [])],
 AVal.int IntKind.i64 (1 : Int), AVal.int IntKind.i64 c.every, AVal.int IntKind.i64 (0 : Int), AVal.nilS],
 ABlk.flat []])))
 (K (AVal.bool false) []))
 (((IsStrs (List.length c.addrs) fun i => [AVal.str (List.getD c.addrs i [])]) ∧
 List.length c.addrs ≤ (8796093022000 : Nat)) ∧
 brP
 (adRight (Adv.mk c.id c.pri c.every (strs (List.length c.addrs) fun i => [AVal.str (List.getD c.addrs i [])]))
 c.src &&
 !decide (c.pri = (0 : Int)))
 (K (AVal.bool false) []) (K (AVal.bool true) []))) := by kernel_rfl
set_option maxRecDepth 100000 in
theorem VrrpAll_lp_step (sc : List OpV) (m i : Int) (id pri every : Int) (pre : Bool) (src : List UInt8) (n : Nat) (f : Nat → List AVal) (st pace wait : Int) (K : AVal → Hp → Prop) (J : St → Prop) : VrrpAll_lp_b K J (St.mk [(5, .ptr 0 0), (7, .ptr 1 0), (52, scV sc), (53, .int .i64 m), (54, .int .i64 i)] [.vals [.int .i64 id, .int .i64 pri, .int .i64 every, .bool pre, .str src, .ro n 1 f, .int .i64 st, .int .i64 pace, .int .i64 wait, .sl 2 0 0 5], .vals [.int .i64 id, .int .i64 pri, .int .i64 every, .bool pre, .str src, .ro n 1 f, .int .i64 st, .int .i64 pace, .int .i64 wait, .nilS], .flat []]) = (
 brP (decide (i < m))
 (((0 : Int) ≤ i ∧ i < (↑(List.length sc) : Int)) ∧
 (VOk (VX.mk (VM.mk id pri every pre src n f st pace wait) [] (0 : Nat)) ∧ (4000 : Nat) ≤ (1000000000000 : Nat)) ∧
 (VOk (VX.mk (VM.mk id pri every pre src n f st pace wait) [] (0 : Nat)) ∧ (4000 : Nat) ≤ (1000000000000 : Nat)) ∧
 brP
 (!decide
 ((vrDo (List.getD sc (Int.toNat i) opNone).kd (List.getD sc (Int.toNat i) opNone).q
 (List.getD sc (Int.toNat i) opNone).src
 (Adv.mk (List.getD sc (Int.toNat i) opNone).id (List.getD sc (Int.toNat i) opNone).pri
 (List.getD sc (Int.toNat i) opNone).every [])
 (VX.mk (VM.mk id pri every pre src n f st pace wait) [] (0 : Nat))).m.st =
 (vrDo (List.getD sc (Int.toNat i) opNone).kd (List.getD sc (Int.toNat i) opNone).q
 (List.getD sc (Int.toNat i) opNone).src
 (Adv.mk (List.getD sc (Int.toNat i) opNone).id (List.getD sc (Int.toNat i) opNone).pri
 (List.getD sc (Int.toNat i) opNone).every [])
 (VX.mk (VM.mk id pri every pre src n f st pace wait) [] (0 : Nat))).m.st))
 (K (AVal.bool false) [])
 (brP
 (!decide
 ((vrDo (List.getD sc (Int.toNat i) opNone).kd (List.getD sc (Int.toNat i) opNone).q
 (List.getD sc (Int.toNat i) opNone).src
 (Adv.mk (List.getD sc (Int.toNat i) opNone).id (List.getD sc (Int.toNat i) opNone).pri
 (List.getD sc (Int.toNat i) opNone).every [])
 (VX.mk (VM.mk id pri every pre src n f st pace wait) [] (0 : Nat))).m.wait =
 (vrDo (List.getD sc (Int.toNat i) opNone).kd (List.getD sc (Int.toNat i) opNone).q
 (List.getD sc (Int.toNat i) opNone).src
 (Adv.mk (List.getD sc (Int.toNat i) opNone).id (List.getD sc (Int.toNat i) opNone).pri
 (List.getD sc (Int.toNat i) opNone).every [])
 (VX.mk (VM.mk id pri every pre src n f st pace wait) [] (0 : Nat))).m.wait))
 (K (AVal.bool false) [])
 (I64
 ((3 : Int) *
 (vrDo (List.getD sc (Int.toNat i) opNone).kd (List.getD sc (Int.toNat i) opNone).q
 (List.getD sc (Int.toNat i) opNone).src
 (Adv.mk (List.getD sc (Int.toNat i) opNone).id (List.getD sc (Int.toNat i) opNone).pri
 (List.getD sc (Int.toNat i) opNone).every [])
 (VX.mk (VM.mk id pri every pre src n f st pace wait) [] (0 : Nat))).m.pace) ∧
 I64
 ((3 : Int) *
 (vrDo (List.getD sc (Int.toNat i) opNone).kd (List.getD sc (Int.toNat i) opNone).q
 (List.getD sc (Int.toNat i) opNone).src
 (Adv.mk (List.getD sc (Int.toNat i) opNone).id (List.getD sc (Int.toNat i) opNone).pri
 (List.getD sc (Int.toNat i) opNone).every [])
 (VX.mk (VM.mk id pri every pre src n f st pace wait) [] (0 : Nat))).m.pace +
 vrSkew
 (vrDo (List.getD sc (Int.toNat i) opNone).kd (List.getD sc (Int.toNat i) opNone).q
 (List.getD sc (Int.toNat i) opNone).src
 (Adv.mk (List.getD sc (Int.toNat i) opNone).id (List.getD sc (Int.toNat i) opNone).pri
 (List.getD sc (Int.toNat i) opNone).every [])
 (VX.mk (VM.mk id pri every pre src n f st pace wait) [] (0 : Nat))).m.pri
 (vrDo (List.getD sc (Int.toNat i) opNone).kd (List.getD sc (Int.toNat i) opNone).q
 (List.getD sc (Int.toNat i) opNone).src
 (Adv.mk (List.getD sc (Int.toNat i) opNone).id (List.getD sc (Int.toNat i) opNone).pri
 (List.getD sc (Int.toNat i) opNone).every [])
 (VX.mk (VM.mk id pri every pre src n f st pace wait) [] (0 : Nat))).m.pace) ∧
 I64
 ((vrDo (List.getD sc (Int.toNat i) opNone).kd (List.getD sc (Int.toNat i) opNone).q
 (List.getD sc (Int.toNat i) opNone).src
 (Adv.mk (List.getD sc (Int.toNat i) opNone).id (List.getD sc (Int.toNat i) opNone).pri
 (List.getD sc (Int.toNat i) opNone).every [])
 (VX.mk (VM.mk id pri every pre src n f st pace wait) [] (0 : Nat))).m.pace +
 (vrDo (List.getD sc (Int.toNat i) opNone).kd (List.getD sc (Int.toNat i) opNone).q
 (List.getD sc (Int.toNat i) opNone).src
 (Adv.mk (List.getD sc (Int.toNat i) opNone).id (List.getD sc (Int.toNat i) opNone).pri
 (List.getD sc (Int.toNat i) opNone).every [])
 (VX.mk (VM.mk id pri every pre src n f st pace wait) [] (0 : Nat))).m.pace) ∧
 I64
 ((vrDo (List.getD sc (Int.toNat i) opNone).kd (List.getD sc (Int.toNat i) opNone).q
 (List.getD sc (Int.toNat i) opNone).src
 (Adv.mk (List.getD sc (Int.toNat i) opNone).id (List.getD sc (Int.toNat i) opNone).pri
 (List.getD sc (Int.toNat i) opNone).every [])
 (VX.mk (VM.mk id pri every pre src n f st pace wait) [] (0 : Nat))).m.pace +
 (vrDo (List.getD sc (Int.toNat i) opNone).kd (List.getD sc (Int.toNat i) opNone).q
 (List.getD sc (Int.toNat i) opNone).src
 (Adv.mk (List.getD sc (Int.toNat i) opNone).id (List.getD sc (Int.toNat i) opNone).pri
 (List.getD sc (Int.toNat i) opNone).every [])
 (VX.mk (VM.mk id pri every pre src n f st pace wait) [] (0 : Nat))).m.pace +
 (vrDo (List.getD sc (Int.toNat i) opNone).kd (List.getD sc (Int.toNat i) opNone).q
 (List.getD sc (Int.toNat i) opNone).src
 (Adv.mk (List.getD sc (Int.toNat i) opNone).id (List.getD sc (Int.toNat i) opNone).pri
 (List.getD sc (Int.toNat i) opNone).every [])
 (VX.mk (VM.mk id pri every pre src n f st pace wait) [] (0 : Nat))).m.pace) ∧
 I64
 ((vrDo (List.getD sc (Int.toNat i) opNone).kd (List.getD sc (Int.toNat i) opNone).q
 (List.getD sc (Int.toNat i) opNone).src
 (Adv.mk (List.getD sc (Int.toNat i) opNone).id (List.getD sc (Int.toNat i) opNone).pri
 (List.getD sc (Int.toNat i) opNone).every [])
 (VX.mk (VM.mk id pri every pre src n f st pace wait) [] (0 : Nat))).m.pace +
 (vrDo (List.getD sc (Int.toNat i) opNone).kd (List.getD sc (Int.toNat i) opNone).q
 (List.getD sc (Int.toNat i) opNone).src
 (Adv.mk (List.getD sc (Int.toNat i) opNone).id (List.getD sc (Int.toNat i) opNone).pri
 (List.getD sc (Int.toNat i) opNone).every [])
 (VX.mk (VM.mk id pri every pre src n f st pace wait) [] (0 : Nat))).m.pace +
 (vrDo (List.getD sc (Int.toNat i) opNone).kd (List.getD sc (Int.toNat i) opNone).q
 (List.getD sc (Int.toNat i) opNone).src
 (Adv.mk (List.getD sc (Int.toNat i) opNone).id (List.getD sc (Int.toNat i) opNone).pri
 (List.getD sc (Int.toNat i) opNone).every [])
 (VX.mk (VM.mk id pri every pre src n f st pace wait) [] (0 : Nat))).m.pace +
 vrSkew
 (vrDo (List.getD sc (Int.toNat i) opNone).kd (List.getD sc (Int.toNat i) opNone).q
 (List.getD sc (Int.toNat i) opNone).src
 (Adv.mk (List.getD sc (Int.toNat i) opNone).id (List.getD sc (Int.toNat i) opNone).pri
 (List.getD sc (Int.toNat i) opNone).every [])
 (VX.mk (VM.mk id pri every pre src n f st pace wait) [] (0 : Nat))).m.pri
 (vrDo (List.getD sc (Int.toNat i) opNone).kd (List.getD sc (Int.toNat i) opNone).q
 (List.getD sc (Int.toNat i) opNone).src
 (Adv.mk (List.getD sc (Int.toNat i) opNone).id (List.getD sc (Int.toNat i) opNone).pri
 (List.getD sc (Int.toNat i) opNone).every [])
 (VX.mk (VM.mk id pri every pre src n f st pace wait) [] (0 : Nat))).m.pace) ∧
 brP
 (!decide
 ((3 : Int) *
 (vrDo (List.getD sc (Int.toNat i) opNone).kd (List.getD sc (Int.toNat i) opNone).q
 (List.getD sc (Int.toNat i) opNone).src
 (Adv.mk (List.getD sc (Int.toNat i) opNone).id (List.getD sc (Int.toNat i) opNone).pri
 (List.getD sc (Int.toNat i) opNone).every [])
 (VX.mk (VM.mk id pri every pre src n f st pace wait) [] (0 : Nat))).m.pace +
 vrSkew
 (vrDo (List.getD sc (Int.toNat i) opNone).kd (List.getD sc (Int.toNat i) opNone).q
 (List.getD sc (Int.toNat i) opNone).src
 (Adv.mk (List.getD sc (Int.toNat i) opNone).id (List.getD sc (Int.toNat i) opNone).pri
 (List.getD sc (Int.toNat i) opNone).every [])
 (VX.mk (VM.mk id pri every pre src n f st pace wait) [] (0 : Nat))).m.pri
 (vrDo (List.getD sc (Int.toNat i) opNone).kd (List.getD sc (Int.toNat i) opNone).q
 (List.getD sc (Int.toNat i) opNone).src
 (Adv.mk (List.getD sc (Int.toNat i) opNone).id (List.getD sc (Int.toNat i) opNone).pri
 (List.getD sc (Int.toNat i) opNone).every [])
 (VX.mk (VM.mk id pri every pre src n f st pace wait) [] (0 : Nat))).m.pace =
 (vrDo (List.getD sc (Int.toNat i) opNone).kd (List.getD sc (Int.toNat i) opNone).q
 (List.getD sc (Int.toNat i) opNone).src
 (Adv.mk (List.getD sc (Int.toNat i) opNone).id (List.getD sc (Int.toNat i) opNone).pri
 (List.getD sc (Int.toNat i) opNone).every [])
 (VX.mk (VM.mk id pri every pre src n f st pace wait) [] (0 : Nat))).m.pace +
 (vrDo (List.getD sc (Int.toNat i) opNone).kd (List.getD sc (Int.toNat i) opNone).q
 (List.getD sc (Int.toNat i) opNone).src
 (Adv.mk (List.getD sc (Int.toNat i) opNone).id (List.getD sc (Int.toNat i) opNone).pri
 (List.getD sc (Int.toNat i) opNone).every [])
 (VX.mk (VM.mk id pri every pre src n f st pace wait) [] (0 : Nat))).m.pace +
 (vrDo (List.getD sc (Int.toNat i) opNone).kd (List.getD sc (Int.toNat i) opNone).q
 (List.getD sc (Int.toNat i) opNone).src
 (Adv.mk (List.getD sc (Int.toNat i) opNone).id (List.getD sc (Int.toNat i) opNone).pri
 (List.getD sc (Int.toNat i) opNone).every [])
 (VX.mk (VM.mk id pri every pre src n f st pace wait) [] (0 : Nat))).m.pace +
 vrSkew
 (vrDo (List.getD sc (Int.toNat i) opNone).kd (List.getD sc (Int.toNat i) opNone).q
 (List.getD sc (Int.toNat i) opNone).src
 (Adv.mk (List.getD sc (Int.toNat i) opNone).id (List.getD sc (Int.toNat i) opNone).pri
 (List.getD sc (Int.toNat i) opNone).every [])
 (VX.mk (VM.mk id pri every pre src n f st pace wait) [] (0 : Nat))).m.pri
 (vrDo (List.getD sc (Int.toNat i) opNone).kd (List.getD sc (Int.toNat i) opNone).q
 (List.getD sc (Int.toNat i) opNone).src
 (Adv.mk (List.getD sc (Int.toNat i) opNone).id (List.getD sc (Int.toNat i) opNone).pri
 (List.getD sc (Int.toNat i) opNone).every [])
 (VX.mk (VM.mk id pri every pre src n f st pace wait) [] (0 : Nat))).m.pace))
 (K (AVal.bool false) [])
 (EvSome
 (vrDo (List.getD sc (Int.toNat i) opNone).kd (List.getD sc (Int.toNat i) opNone).q
 (List.getD sc (Int.toNat i) opNone).src
 (Adv.mk (List.getD sc (Int.toNat i) opNone).id (List.getD sc (Int.toNat i) opNone).pri
 (List.getD sc (Int.toNat i) opNone).every [])
 (VX.mk (VM.mk id pri every pre src n f st pace wait) [] (0 : Nat))).k
 (rowsOf (5 : Nat)
 (List.take
 ((vrDo (List.getD sc (Int.toNat i) opNone).kd (List.getD sc (Int.toNat i) opNone).q
 (List.getD sc (Int.toNat i) opNone).src
 (Adv.mk (List.getD sc (Int.toNat i) opNone).id (List.getD sc (Int.toNat i) opNone).pri
 (List.getD sc (Int.toNat i) opNone).every [])
 (VX.mk (VM.mk id pri every pre src n f st pace wait) [] (0 : Nat))).k *
 (5 : Nat))
 (List.drop (0 : Nat)
 (vrDo (List.getD sc (Int.toNat i) opNone).kd (List.getD sc (Int.toNat i) opNone).q
 (List.getD sc (Int.toNat i) opNone).src
 (Adv.mk (List.getD sc (Int.toNat i) opNone).id (List.getD sc (Int.toNat i) opNone).pri
 (List.getD sc (Int.toNat i) opNone).every [])
 (VX.mk (VM.mk id pri every pre src n f st pace wait) [] (0 : Nat))).out))) ∧
 EvTwo
 (vrDo (List.getD sc (Int.toNat i) opNone).kd (List.getD sc (Int.toNat i) opNone).q
 (List.getD sc (Int.toNat i) opNone).src
 (Adv.mk (List.getD sc (Int.toNat i) opNone).id (List.getD sc (Int.toNat i) opNone).pri
 (List.getD sc (Int.toNat i) opNone).every [])
 (VX.mk (VM.mk id pri every pre src n f st pace wait) [] (0 : Nat))).k
 (vrDo (List.getD sc (Int.toNat i) opNone).kd (List.getD sc (Int.toNat i) opNone).q
 (List.getD sc (Int.toNat i) opNone).src
 (Adv.mk (List.getD sc (Int.toNat i) opNone).id (List.getD sc (Int.toNat i) opNone).pri
 (List.getD sc (Int.toNat i) opNone).every [])
 (VX.mk (VM.mk id pri every pre src n f st pace wait) [] (0 : Nat))).k
 (rowsOf (5 : Nat)
 (List.take
 ((vrDo (List.getD sc (Int.toNat i) opNone).kd (List.getD sc (Int.toNat i) opNone).q
 (List.getD sc (Int.toNat i) opNone).src
 (Adv.mk (List.getD sc (Int.toNat i) opNone).id (List.getD sc (Int.toNat i) opNone).pri
 (List.getD sc (Int.toNat i) opNone).every [])
 (VX.mk (VM.mk id pri every pre src n f st pace wait) [] (0 : Nat))).k *
 (5 : Nat))
 (List.drop (0 : Nat)
 (vrDo (List.getD sc (Int.toNat i) opNone).kd (List.getD sc (Int.toNat i) opNone).q
 (List.getD sc (Int.toNat i) opNone).src
 (Adv.mk (List.getD sc (Int.toNat i) opNone).id (List.getD sc (Int.toNat i) opNone).pri
 (List.getD sc (Int.toNat i) opNone).every [])
 (VX.mk (VM.mk id pri every pre src n f st pace wait) [] (0 : Nat))).out)))
 (rowsOf (5 : Nat)
 (vrDo (List.getD sc (Int.toNat i) opNone).kd (List.getD sc (Int.toNat i) opNone).q
 (List.getD sc (Int.toNat i) opNone).src
 (Adv.mk (List.getD sc (Int.toNat i) opNone).id (List.getD sc (Int.toNat i) opNone).pri
 (List.getD sc (Int.toNat i) opNone).every [])
 (VX.mk (VM.mk id pri every pre src n f st pace wait) [] (0 : Nat))).out) ∧
 I64 (i + (1 : Int)) ∧
 J
 (St.mk
 [((5 : Nat), AVal.ptr (0 : Nat) (0 : Nat)), ((7 : Nat), AVal.ptr (1 : Nat) (0 : Nat)),
 ((52 : Nat),
 AVal.ro (List.length sc) (7 : Nat) fun i =>
 [AVal.int IntKind.i64 (List.getD sc i opNone).kd, AVal.int IntKind.i64 (List.getD sc i opNone).q,
 AVal.str (List.getD sc i opNone).src, AVal.int IntKind.i64 (List.getD sc i opNone).id,
 AVal.int IntKind.i64 (List.getD sc i opNone).pri,
 AVal.int IntKind.i64 (List.getD sc i opNone).every,
 AVal.ro (List.length (List.getD sc i opNone).addrs) (1 : Nat) fun i_1 =>
 [AVal.str (List.getD (List.getD sc i opNone).addrs i_1 [])]]),
 ((53 : Nat), AVal.int IntKind.i64 m), ((54 : Nat), AVal.int IntKind.i64 (i + (1 : Int)))]
 [ABlk.vals
 [AVal.int IntKind.i64
 (vrDo (List.getD sc (Int.toNat i) opNone).kd (List.getD sc (Int.toNat i) opNone).q
 (List.getD sc (Int.toNat i) opNone).src
 (Adv.mk (List.getD sc (Int.toNat i) opNone).id (List.getD sc (Int.toNat i) opNone).pri
 (List.getD sc (Int.toNat i) opNone).every [])
 (VX.mk (VM.mk id pri every pre src n f st pace wait) [] (0 : Nat))).m.id,
 AVal.int IntKind.i64
 (vrDo (List.getD sc (Int.toNat i) opNone).kd (List.getD sc (Int.toNat i) opNone).q
 (List.getD sc (Int.toNat i) opNone).src
 (Adv.mk (List.getD sc (Int.toNat i) opNone).id (List.getD sc (Int.toNat i) opNone).pri
 (List.getD sc (Int.toNat i) opNone).every [])
 (VX.mk (VM.mk id pri every pre src n f st pace wait) [] (0 : Nat))).m.pri,
 AVal.int IntKind.i64
 (vrDo (List.getD sc (Int.toNat i) opNone).kd (List.getD sc (Int.toNat i) opNone).q
 (List.getD sc (Int.toNat i) opNone).src
 (Adv.mk (List.getD sc (Int.toNat i) opNone).id (List.getD sc (Int.toNat i) opNone).pri
 (List.getD sc (Int.toNat i) opNone).every [])
 (VX.mk (VM.mk id pri every pre src n f st pace wait) [] (0 : Nat))).m.every,
 AVal.bool
 (vrDo (List.getD sc (Int.toNat i) opNone).kd (List.getD sc (Int.toNat i) opNone).q
 (List.getD sc (Int.toNat i) opNone).src
 (Adv.mk (List.getD sc (Int.toNat i) opNone).id (List.getD sc (Int.toNat i) opNone).pri
 (List.getD sc (Int.toNat i) opNone).every [])
 (VX.mk (VM.mk id pri every pre src n f st pace wait) [] (0 : Nat))).m.pre,
 AVal.str
 (vrDo (List.getD sc (Int.toNat i) opNone).kd (List.getD sc (Int.toNat i) opNone).q
 (List.getD sc (Int.toNat i) opNone).src
 (Adv.mk (List.getD sc (Int.toNat i) opNone).id (List.getD sc (Int.toNat i) opNone).pri
 (List.getD sc (Int.toNat i) opNone).every [])
 (VX.mk (VM.mk id pri every pre src n f st pace wait) [] (0 : Nat))).m.src,
 AVal.ro
 (vrDo (List.getD sc (Int.toNat i) opNone).kd (List.getD sc (Int.toNat i) opNone).q
 (List.getD sc (Int.toNat i) opNone).src
 (Adv.mk (List.getD sc (Int.toNat i) opNone).id (List.getD sc (Int.toNat i) opNone).pri
 (List.getD sc (Int.toNat i) opNone).every [])
 (VX.mk (VM.mk id pri every pre src n f st pace wait) [] (0 : Nat))).m.n
 (1 : Nat)
 (vrDo (List.getD sc (Int.toNat i) opNone).kd (List.getD sc (Int.toNat i) opNone).q
 (List.getD sc (Int.toNat i) opNone).src
 (Adv.mk (List.getD sc (Int.toNat i) opNone).id (List.getD sc (Int.toNat i) opNone).pri
 (List.getD sc (Int.toNat i) opNone).every [])
 (VX.mk (VM.mk id pri every pre src n f st pace wait) [] (0 : Nat))).m.f,
 AVal.int IntKind.i64
 (vrDo (List.getD sc (Int.toNat i) opNone).kd (List.getD sc (Int.toNat i) opNone).q
 (List.getD sc (Int.toNat i) opNone).src
 (Adv.mk (List.getD sc (Int.toNat i) opNone).id (List.getD sc (Int.toNat i) opNone).pri
 (List.getD sc (Int.toNat i) opNone).every [])
 (VX.mk (VM.mk id pri every pre src n f st pace wait) [] (0 : Nat))).m.st,
 AVal.int IntKind.i64
 (vrDo (List.getD sc (Int.toNat i) opNone).kd (List.getD sc (Int.toNat i) opNone).q
 (List.getD sc (Int.toNat i) opNone).src
 (Adv.mk (List.getD sc (Int.toNat i) opNone).id (List.getD sc (Int.toNat i) opNone).pri
 (List.getD sc (Int.toNat i) opNone).every [])
 (VX.mk (VM.mk id pri every pre src n f st pace wait) [] (0 : Nat))).m.pace,
 AVal.int IntKind.i64
 (vrDo (List.getD sc (Int.toNat i) opNone).kd (List.getD sc (Int.toNat i) opNone).q
 (List.getD sc (Int.toNat i) opNone).src
 (Adv.mk (List.getD sc (Int.toNat i) opNone).id (List.getD sc (Int.toNat i) opNone).pri
 (List.getD sc (Int.toNat i) opNone).every [])
 (VX.mk (VM.mk id pri every pre src n f st pace wait) [] (0 : Nat))).m.wait,
 AVal.sl (2 : Nat) (0 : Nat) (0 : Nat) (5 : Nat)],
 ABlk.vals
 [AVal.int IntKind.i64
 (vrDo (List.getD sc (Int.toNat i) opNone).kd (List.getD sc (Int.toNat i) opNone).q
 (List.getD sc (Int.toNat i) opNone).src
 (Adv.mk (List.getD sc (Int.toNat i) opNone).id (List.getD sc (Int.toNat i) opNone).pri
 (List.getD sc (Int.toNat i) opNone).every [])
 (VX.mk (VM.mk id pri every pre src n f st pace wait) [] (0 : Nat))).m.id,
 AVal.int IntKind.i64
 (vrDo (List.getD sc (Int.toNat i) opNone).kd (List.getD sc (Int.toNat i) opNone).q
 (List.getD sc (Int.toNat i) opNone).src
 (Adv.mk (List.getD sc (Int.toNat i) opNone).id (List.getD sc (Int.toNat i) opNone).pri
 (List.getD sc (Int.toNat i) opNone).every [])
 (VX.mk (VM.mk id pri every pre src n f st pace wait) [] (0 : Nat))).m.pri,
 AVal.int IntKind.i64
 (vrDo (List.getD sc (Int.toNat i) opNone).kd (List.getD sc (Int.toNat i) opNone).q
 (List.getD sc (Int.toNat i) opNone).src
 (Adv.mk (List.getD sc (Int.toNat i) opNone).id (List.getD sc (Int.toNat i) opNone).pri
 (List.getD sc (Int.toNat i) opNone).every [])
 (VX.mk (VM.mk id pri every pre src n f st pace wait) [] (0 : Nat))).m.every,
 AVal.bool
 (vrDo (List.getD sc (Int.toNat i) opNone).kd (List.getD sc (Int.toNat i) opNone).q
 (List.getD sc (Int.toNat i) opNone).src
 (Adv.mk (List.getD sc (Int.toNat i) opNone).id (List.getD sc (Int.toNat i) opNone).pri
 (List.getD sc (Int.toNat i) opNone).every [])
 (VX.mk (VM.mk id pri every pre src n f st pace wait) [] (0 : Nat))).m.pre,
 AVal.str
 (vrDo (List.getD sc (Int.toNat i) opNone).kd (List.getD sc (Int.toNat i) opNone).q
 (List.getD sc (Int.toNat i) opNone).src
 (Adv.mk (List.getD sc (Int.toNat i) opNone).id (List.getD sc (Int.toNat i) opNone).pri
 (List.getD sc (Int.toNat i) opNone).every [])
 (VX.mk (VM.mk id pri every pre src n f st pace wait) [] (0 : Nat))).m.src,
 AVal.ro
 (vrDo (List.getD sc (Int.toNat i) opNone).kd (List.getD sc (Int.toNat i) opNone).q
 (List.getD sc (Int.toNat i) opNone).src
 (Adv.mk (List.getD sc (Int.toNat i) opNone).id (List.getD sc (Int.toNat i) opNone).pri
 (List.getD sc (Int.toNat i) opNone).every [])
 (VX.mk (VM.mk id pri every pre src n f st pace wait) [] (0 : Nat))).m.n
 (1 : Nat)
 (vrDo (List.getD sc (Int.toNat i) opNone).kd (List.getD sc (Int.toNat i) opNone).q
 (List.getD sc (Int.toNat i) opNone).src
 (Adv.mk (List.getD sc (Int.toNat i) opNone).id (List.getD sc (Int.toNat i) opNone).pri
 (List.getD sc (Int.toNat i) opNone).every [])
 (VX.mk (VM.mk id pri every pre src n f st pace wait) [] (0 : Nat))).m.f,
 AVal.int IntKind.i64
 (vrDo (List.getD sc (Int.toNat i) opNone).kd (List.getD sc (Int.toNat i) opNone).q
 (List.getD sc (Int.toNat i) opNone).src
 (Adv.mk (List.getD sc (Int.toNat i) opNone).id (List.getD sc (Int.toNat i) opNone).pri
 (List.getD sc (Int.toNat i) opNone).every [])
 (VX.mk (VM.mk id pri every pre src n f st pace wait) [] (0 : Nat))).m.st,
 AVal.int IntKind.i64
 (vrDo (List.getD sc (Int.toNat i) opNone).kd (List.getD sc (Int.toNat i) opNone).q
 (List.getD sc (Int.toNat i) opNone).src
 (Adv.mk (List.getD sc (Int.toNat i) opNone).id (List.getD sc (Int.toNat i) opNone).pri
 (List.getD sc (Int.toNat i) opNone).every [])
 (VX.mk (VM.mk id pri every pre src n f st pace wait) [] (0 : Nat))).m.pace,
 AVal.int IntKind.i64
 (vrDo (List.getD sc (Int.toNat i) opNone).kd (List.getD sc (Int.toNat i) opNone).q
 (List.getD sc (Int.toNat i) opNone).src
 (Adv.mk (List.getD sc (Int.toNat i) opNone).id (List.getD sc (Int.toNat i) opNone).pri
 (List.getD sc (Int.toNat i) opNone).every [])
 (VX.mk (VM.mk id pri every pre src n f st pace wait) [] (0 : Nat))).m.wait,
 AVal.nilS],
 ABlk.flat []])))))
 (K (AVal.bool true) [])) := by kernel_rfl
attribute [local irreducible] VrrpAll_lp_n VrrpAll_lp_b
theorem all_all (sc : List OpV) (m : Int) (hm : m = (sc.length : Int)) (hn : sc.length ≤ 300) : ∀ (j : Nat) (i : Int) (id pri every : Int) (pre : Bool) (src : List UInt8) (n : Nat) (f : Nat → List AVal) (st pace wait : Int), 0 ≤ i → i + (j : Int) = m → VOk ⟨⟨id, pri, every, pre, src, n, f, st, pace, wait⟩, [], 0⟩ → IsStrs n f ∧ n ≤ 8796093022000 →
    VrrpAll_lp_n (fun v _ => v = .bool true) (j + 1) (St.mk [(5, .ptr 0 0), (7, .ptr 1 0), (52, scV sc), (53, .int .i64 m), (54, .int .i64 i)] [.vals [.int .i64 id, .int .i64 pri, .int .i64 every, .bool pre, .str src, .ro n 1 f, .int .i64 st, .int .i64 pace, .int .i64 wait, .sl 2 0 0 5], .vals [.int .i64 id, .int .i64 pri, .int .i64 every, .bool pre, .str src, .ro n 1 f, .int .i64 st, .int .i64 pace, .int .i64 wait, .nilS], .flat []])
  | 0, i, id, pri, every, pre, src, n, f, st, pace, wait, h0, h, hok, hf => by
    refine VrrpAll_lp_next ?_
    rw [VrrpAll_lp_step]
    exact brP_d (fun h' => by omega) (fun _ => rfl)
  | j + 1, i, id, pri, every, pre, src, n, f, st, pace, wait, h0, h, hok, hf => by
    refine VrrpAll_lp_next ?_
    rw [VrrpAll_lp_step]
    generalize sc.getD i.toNat opNone = o
    obtain ⟨hv, hvk⟩ := vrDo_ok hok (by simp only; omega) o.kd o.q o.src ⟨o.id, o.pri, o.every, []⟩
    have hc := vrDo_cfg (x := ⟨⟨id, pri, every, pre, src, n, f, st, pace, wait⟩, [], 0⟩) (kd := o.kd) (q := o.q) (s := o.src) (a := ⟨o.id, o.pri, o.every, []⟩)
    have he := vrDo_ev (x := ⟨⟨id, pri, every, pre, src, n, f, st, pace, wait⟩, [], 0⟩) EvL.none hf.1 hf.2 o.kd o.q o.src ⟨o.id, o.pri, o.every, []⟩
    generalize vrDo o.kd o.q o.src ⟨o.id, o.pri, o.every, []⟩ ⟨⟨id, pri, every, pre, src, n, f, st, pace, wait⟩, [], 0⟩ = D at *
    simp only at hvk
    have hp := hv.pace
    have hb := vrSkew_bd D.m.pri D.m.pace
    obtain ⟨hl, e, he⟩ := he
    have e0 : List.take (D.k * 5) (List.drop 0 D.out) = D.out := by rw [List.drop_zero, ← hl, List.take_length]
    rw [e0]
    refine brP_d (fun _ => ⟨by omega, ⟨hok, by omega⟩, ⟨hok, by omega⟩, brP_nd (fun h => absurd rfl h) (fun _ => brP_nd (fun h => absurd rfl h) (fun _ => ⟨by unfold I64; omega, by unfold I64; omega, by unfold I64; omega, by unfold I64; omega, by unfold I64; omega, brP_nd (fun h => absurd (by omega) h) (fun _ => ⟨⟨⟨e, he⟩, by omega⟩, ⟨rfl, by omega, e, he, he⟩, by unfold I64; omega, ?_⟩)⟩))⟩) (fun h' => by omega)
    exact all_all sc m hm hn j (i + 1) _ _ _ _ _ _ _ _ _ _ (by omega) (by omega) ⟨hv.every, hv.pri, hv.pace, hv.st, hv.wait, hv.run, hv.n, rfl, by simp⟩ (by rw [hc.n, hc.f]; exact hf)
attribute [local irreducible] fnP in
theorem vrrpAll.core (c : Cfg) (sc : List OpV) (h_c : CfgOk c) (h_sc : (∀ o ∈ sc, OpOk o) ∧ sc.length ≤ 140737488351232) :
    fnP Try.prog Tev ann_outriderlaw13_VrrpAll Try.f7 [.agg (cfgCells c), scV sc] [] (fun v _ => v = .bool true) := by
  rw [VrrpAll_eq]
  obtain ⟨c1, c2, c3, c4, c5⟩ := h_c
  refine ⟨⟨isStrs_of _ _, by omega⟩, brP_i (fun hr => ⟨⟨isStrs_of _ _, by omega⟩, brP_i (fun _ => ?_) (fun h => by rw [hr] at h; cases h)⟩) (fun hr => ⟨⟨isStrs_of _ _, by omega⟩, brP_i (fun h => by rw [hr] at h; cases h) (fun _ => rfl)⟩)⟩
  rw [Bool.and_eq_true] at hr
  obtain ⟨hok, hp⟩ := new_ok c.pre (f := fun i => [AVal.str (c.addrs.getD i [])]) hr.1 (by simpa using hr.2)
  refine brP_d (fun _ => rfl) (fun hl => ?_)
  exact ⟨_, all_all sc _ rfl (by omega) sc.length 0 _ _ _ _ _ _ _ _ _ _ (by omega) (by omega) hok ⟨isStrs_of _ _, by omega⟩⟩
end Go.Proofs.Ytldfkjjjjfbbmaa.Ae
namespace Go.Proofs.Ytldfkjjjjfbbmaa
open Go Go.RowKit Ae
attribute [local irreducible] fnP in
set_option maxRecDepth 100000 in
theorem vrrpAll.walk {H : Type} {enc : TypeId × Value → H} (W : World) (args : Array Value) (hn : args.size = 2)
    (h : ∀ (j : Nat) t v, Try.f7.params[j]? = some t → args[j]? = some v → RdV enc false Try.prog W t v) :
    Calls Try.prog 7 args W fun e w' => e = .returned (.bool true) ∧ Below W.heap.size W w' := by
  obtain ⟨v0, v1, rfl⟩ := args2 hn
  obtain ⟨c, h_c, hv0⟩ := arg_struct (b := false) (.inl ⟨_, Try.underlying28⟩) open_cfg (h 0 28 v0 rfl rfl)
  obtain ⟨sc, h_sc, hv1⟩ := arg_slice (b := false) Try.underlying47 open_sc (h 1 47 v1 rfl rfl)
  obtain ⟨r, H1, hr, hG⟩ := fn_sound Tev_sound mixed Try.func7 (by decide +kernel) (vrrpAll.core c sc h_c h_sc)
  subst hr
  exact law_walk hG (vl_cons hv0 (vl_cons hv1 vl_nil))

namespace vrrpAll
theorem spec {H : Type} (ds : List (DataW H)) (h : ds.length = Try.f7.params.size) : Rows.vrrpAllSpec.fn H ds = { results := [.lit (.bool true)], args := ds } := by
  have h' : ds.length = 2 := h
  match ds, h' with
  | [_, _], _ => rfl

set_option maxRecDepth 100000 in
theorem lifted (os : Os) (started : os.Started) (H : Type) (enc : TypeId × Value → H) :
    ReturnsInHanded {} Try.checked os 7 .any (Rows.vrrpAllSpec.pre6 enc Try.prog Try.f7 Rows.vrrpAllRow.domain false) (Rows.vrrpAllSpec.post enc Try.prog Try.f7 false true false false) :=
  lifted_said (C := Try.checked) (tb := 4) own started (by kernel_rfl) Try.func7
    (ChangeSpec.witness6 (enc := enc) (C := Try.checked) false ⟨#[], #[.agg #[.int .i64 0, .int .i64 0, .int .i64 0, .bool false, .string .empty, .slice none 0 0], .slice none 0 0], []⟩ 8 (by kernel_rfl) (by kernel_rfl) (by kernel_rfl) (by kernel_rfl))
    rfl spec rfl Try.underlying4 laidOut (by kernel_rfl) walk

theorem over : Rows.vrrpAllRow.holds Try.pinned (OpenSpec.ofChange Rows.vrrpAllSpec) :=
  OpenClaim.holds_of_wide 7 Try.f7 rfl rfl rfl rfl rfl rfl rfl ⟨rfl, rfl, rfl, rfl, rfl⟩ rfl rfl rfl rfl rfl (by kernel_rfl) Try.func7 (by kernel_rfl)
    (of_decide_eq_true (by kernel_rfl)) (by unfold Func.isWrapper; first | (rw [if_pos (by decide +kernel)]; kernel_rfl) | (rw [if_neg (by decide +kernel)]; exact ⟨rfl, rfl⟩))
    (fun os started H enc _ => lifted os started H enc)

theorem proved : Rows.VrrpAllSaid := over
#print axioms proved
end vrrpAll

end Go.Proofs.Ytldfkjjjjfbbmaa

