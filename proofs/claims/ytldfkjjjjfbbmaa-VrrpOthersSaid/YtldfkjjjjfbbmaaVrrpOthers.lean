/- VrrpOthers: an advertisement of another Id changes nothing. No conditions. -/
import Derived.Test.YtldfkjjjjfbbmaaAr13
set_option linter.unusedSimpArgs false
set_option linter.unusedVariables false
set_option maxRecDepth 100000
namespace Go.Proofs.Ytldfkjjjjfbbmaa.Ae
open Go Go.RowKit
def ann_outriderlaw13_VrrpOthers : Nat → List Nat × Nat × List (List Nat)
  | 5 => ([5, 7, 39, 40, 41], 0, [])
  | 2000002 => ([], 20, [[], [0], [0, 1], [0, 1, 2], [0, 1, 2, 3], [0, 1, 2, 3, 4], [0, 1, 2, 3, 4, 5], [0, 1, 2, 3, 4, 5, 6], [0, 1, 2, 3, 4, 5, 6, 7], [0, 1, 2, 3, 4, 5, 6, 7, 8], [0, 1, 2, 3, 4, 5, 6, 7, 8, 9], [0, 1, 2, 3, 4, 5, 6, 7, 8, 9, 10], [0, 1, 2, 3, 4, 5, 6, 7, 8, 9, 10, 11], [0, 1, 2, 3, 4, 5, 6, 7, 8, 9, 10, 11, 12], [0, 1, 2, 3, 4, 5, 6, 7, 8, 9, 10, 11, 12, 13], [0, 1, 2, 3, 4, 5, 6, 7, 8, 9, 10, 11, 12, 13, 14], [0, 1, 2, 3, 4, 5, 6, 7, 8, 9, 10, 11, 12, 13, 14, 15], [0, 1, 2, 3, 4, 5, 6, 7, 8, 9, 10, 11, 12, 13, 14, 15, 16], [0, 1, 2, 3, 4, 5, 6, 7, 8, 9, 10, 11, 12, 13, 14, 15, 16, 17]])
  | _ => ([], 0, [])
noncomputable abbrev VrrpOthers_lp_X : Cx := ⟨Try.prog, Tlw, Try.f9.ntmps, 0, ann_outriderlaw13_VrrpOthers⟩
noncomputable def VrrpOthers_lp_c : Code := cAt [.r, .r, .r, .l, .r, .b] (bodyOf Try.f9)
noncomputable def VrrpOthers_lp_k (K : AVal → Hp → Prop) : Post := kAt VrrpOthers_lp_X [.r, .r, .r, .l, .r, .b] (bodyOf Try.f9) (fnK Try.prog 0 Try.f9.results.toList K)
def VrrpOthers_lp_n (K : AVal → Hp → Prop) (n : Nat) (s : St) : Prop := loopP (awp VrrpOthers_lp_X (loopB VrrpOthers_lp_c)) 0 [5, 7, 39, 40, 41] n s (VrrpOthers_lp_k K)
def VrrpOthers_lp (K : AVal → Hp → Prop) (s : St) : Prop := ∃ n, VrrpOthers_lp_n K n s
def VrrpOthers_lp_b (K : AVal → Hp → Prop) (J : St → Prop) (s : St) : Prop := awp VrrpOthers_lp_X (loopB VrrpOthers_lp_c) s (seqK (fun s' => normK 0 [5, 7, 39, 40, 41] s' J) (VrrpOthers_lp_k K))
theorem VrrpOthers_lp_next {K : AVal → Hp → Prop} {n : Nat} {s : St} (h : VrrpOthers_lp_b K (fun s' => VrrpOthers_lp_n K n s') s) : VrrpOthers_lp_n K (n + 1) s := h
set_option maxRecDepth 100000 in
theorem VrrpOthers_eq (c : Cfg) (sc : List OpV) (t : TdV) (K : AVal → Hp → Prop) : fnP Try.prog Tlw ann_outriderlaw13_VrrpOthers Try.f9 [.agg (cfgCells c), scV sc, .agg (tdCells t)] [] K = (
 ((IsStrs (List.length c.addrs) fun i => [AVal.str (List.getD c.addrs i [])]) ∧
 List.length c.addrs ≤ (8796093022000 : Nat)) ∧
 brP
 (adRight (Adv.mk c.id c.pri c.every (strs (List.length c.addrs) fun i => [AVal.str (List.getD c.addrs i [])]))
 c.src &&
 !decide (c.pri = (0 : Int)))
 (brP (decide ((300 : Int) < (↑(List.length sc) : Int)) || decide (t.id = c.id)) (K (AVal.bool true) [])
 (VrrpOthers_lp K
 (St.mk
 [((5 : Nat), AVal.ptr (0 : Nat) (0 : Nat)), ((7 : Nat), AVal.ptr (1 : Nat) (0 : Nat)),
 ((39 : Nat),
 AVal.ro (List.length sc) (7 : Nat) fun i =>
 [AVal.int IntKind.i64 (List.getD sc i opNone).kd, AVal.int IntKind.i64 (List.getD sc i opNone).q,
 AVal.str (List.getD sc i opNone).src, AVal.int IntKind.i64 (List.getD sc i opNone).id,
 AVal.int IntKind.i64 (List.getD sc i opNone).pri, AVal.int IntKind.i64 (List.getD sc i opNone).every,
 AVal.ro (List.length (List.getD sc i opNone).addrs) (1 : Nat) fun i_1 =>
 [AVal.str (List.getD (List.getD sc i opNone).addrs i_1 [])]]),
 ((40 : Nat), AVal.int IntKind.i64 (↑(List.length sc) : Int)), ((41 : Nat), AVal.int IntKind.i64 (0 : Int))]
 [ABlk.vals
 [AVal.str t.src, AVal.int IntKind.i64 t.id, AVal.int IntKind.i64 t.pri, AVal.int IntKind.i64 t.every,
 AVal.ro (List.length t.addrs) (1 : Nat) fun i => [AVal.str (List.getD t.addrs i [])]],
 ABlk.vals
 [AVal.int IntKind.i64 c.id, AVal.int IntKind.i64 c.pri, AVal.int IntKind.i64 c.every, AVal.bool c.pre,
 AVal.str c.src, AVal.ro (List.length c.addrs) (1 : Nat) fun i => [AVal.str (List.getD c.addrs i [])],
 AVal.int IntKind.i64 (1 : Int), AVal.int IntKind.i64 c.every, AVal.int IntKind.i64 (0 : Int),
 AVal.sl (2 : Nat) (0 : Nat) (0 : Nat) (5 : Nat)],
 ABlk.flat []])))
 (K (AVal.bool true) [])) := by kernel_rfl
set_option maxRecDepth 100000 in
theorem VrrpOthers_lp_step (t : TdV) (sc : List OpV) (m i : Int) (id pri every : Int) (pre : Bool) (src : List UInt8) (n : Nat) (f : Nat → List AVal) (st pace wait : Int) (k : Nat) (cs : List AVal) (K : AVal → Hp → Prop) (J : St → Prop) : VrrpOthers_lp_b K J (St.mk [(5, .ptr 0 0), (7, .ptr 1 0), (39, scV sc), (40, .int .i64 m), (41, .int .i64 i)] [.vals [.str t.src, .int .i64 t.id, .int .i64 t.pri, .int .i64 t.every, .ro t.addrs.length 1 (fun i => [.str (t.addrs.getD i [])])], .vals [.int .i64 id, .int .i64 pri, .int .i64 every, .bool pre, .str src, .ro n 1 f, .int .i64 st, .int .i64 pace, .int .i64 wait, .sl 2 0 k 5], .flat cs]) = (
 brP (decide (i < m))
 (((0 : Int) ≤ i ∧ i < (↑(List.length sc) : Int)) ∧
 (VOk (VX.mk (VM.mk id pri every pre src n f st pace wait) cs k) ∧
 (VX.mk (VM.mk id pri every pre src n f st pace wait) cs k).k + (4000 : Nat) ≤ (1000000000000 : Nat)) ∧
 I64 (i + (1 : Int)) ∧
 J
 (St.mk
 [((5 : Nat), AVal.ptr (0 : Nat) (0 : Nat)), ((7 : Nat), AVal.ptr (1 : Nat) (0 : Nat)),
 ((39 : Nat),
 AVal.ro (List.length sc) (7 : Nat) fun i =>
 [AVal.int IntKind.i64 (List.getD sc i opNone).kd, AVal.int IntKind.i64 (List.getD sc i opNone).q,
 AVal.str (List.getD sc i opNone).src, AVal.int IntKind.i64 (List.getD sc i opNone).id,
 AVal.int IntKind.i64 (List.getD sc i opNone).pri, AVal.int IntKind.i64 (List.getD sc i opNone).every,
 AVal.ro (List.length (List.getD sc i opNone).addrs) (1 : Nat) fun i_1 =>
 [AVal.str (List.getD (List.getD sc i opNone).addrs i_1 [])]]),
 ((40 : Nat), AVal.int IntKind.i64 m), ((41 : Nat), AVal.int IntKind.i64 (i + (1 : Int)))]
 [ABlk.vals
 [AVal.str t.src, AVal.int IntKind.i64 t.id, AVal.int IntKind.i64 t.pri, AVal.int IntKind.i64 t.every,
 AVal.ro (List.length t.addrs) (1 : Nat) fun i => [AVal.str (List.getD t.addrs i [])]],
 ABlk.vals
 [AVal.int IntKind.i64
 (vrDo (List.getD sc (Int.toNat i) opNone).kd (List.getD sc (Int.toNat i) opNone).q
 (List.getD sc (Int.toNat i) opNone).src
 (Adv.mk (List.getD sc (Int.toNat i) opNone).id (List.getD sc (Int.toNat i) opNone).pri
 (List.getD sc (Int.toNat i) opNone).every [])
 (VX.mk (VM.mk id pri every pre src n f st pace wait) cs k)).m.id,
 AVal.int IntKind.i64
 (vrDo (List.getD sc (Int.toNat i) opNone).kd (List.getD sc (Int.toNat i) opNone).q
 (List.getD sc (Int.toNat i) opNone).src
 (Adv.mk (List.getD sc (Int.toNat i) opNone).id (List.getD sc (Int.toNat i) opNone).pri
 (List.getD sc (Int.toNat i) opNone).every [])
 (VX.mk (VM.mk id pri every pre src n f st pace wait) cs k)).m.pri,
 AVal.int IntKind.i64
 (vrDo (List.getD sc (Int.toNat i) opNone).kd (List.getD sc (Int.toNat i) opNone).q
 (List.getD sc (Int.toNat i) opNone).src
 (Adv.mk (List.getD sc (Int.toNat i) opNone).id (List.getD sc (Int.toNat i) opNone).pri
 (List.getD sc (Int.toNat i) opNone).every [])
 (VX.mk (VM.mk id pri every pre src n f st pace wait) cs k)).m.every,
 AVal.bool
 (vrDo (List.getD sc (Int.toNat i) opNone).kd (List.getD sc (Int.toNat i) opNone).q
 (List.getD sc (Int.toNat i) opNone).src
 (Adv.mk (List.getD sc (Int.toNat i) opNone).id (List.getD sc (Int.toNat i) opNone).pri
 (List.getD sc (Int.toNat i) opNone).every [])
 (VX.mk (VM.mk id pri every pre src n f st pace wait) cs k)).m.pre,
 AVal.str
 (vrDo (List.getD sc (Int.toNat i) opNone).kd (List.getD sc (Int.toNat i) opNone).q
 (List.getD sc (Int.toNat i) opNone).src
 (Adv.mk (List.getD sc (Int.toNat i) opNone).id (List.getD sc (Int.toNat i) opNone).pri
 (List.getD sc (Int.toNat i) opNone).every [])
 (VX.mk (VM.mk id pri every pre src n f st pace wait) cs k)).m.src,
 AVal.ro
 (vrDo (List.getD sc (Int.toNat i) opNone).kd (List.getD sc (Int.toNat i) opNone).q
 (List.getD sc (Int.toNat i) opNone).src
 (Adv.mk (List.getD sc (Int.toNat i) opNone).id (List.getD sc (Int.toNat i) opNone).pri
 (List.getD sc (Int.toNat i) opNone).every [])
 (VX.mk (VM.mk id pri every pre src n f st pace wait) cs k)).m.n
 (1 : Nat)
 (vrDo (List.getD sc (Int.toNat i) opNone).kd (List.getD sc (Int.toNat i) opNone).q
 (List.getD sc (Int.toNat i) opNone).src
 (Adv.mk (List.getD sc (Int.toNat i) opNone).id (List.getD sc (Int.toNat i) opNone).pri
 (List.getD sc (Int.toNat i) opNone).every [])
 (VX.mk (VM.mk id pri every pre src n f st pace wait) cs k)).m.f,
 AVal.int IntKind.i64
 (vrDo (List.getD sc (Int.toNat i) opNone).kd (List.getD sc (Int.toNat i) opNone).q
 (List.getD sc (Int.toNat i) opNone).src
 (Adv.mk (List.getD sc (Int.toNat i) opNone).id (List.getD sc (Int.toNat i) opNone).pri
 (List.getD sc (Int.toNat i) opNone).every [])
 (VX.mk (VM.mk id pri every pre src n f st pace wait) cs k)).m.st,
 AVal.int IntKind.i64
 (vrDo (List.getD sc (Int.toNat i) opNone).kd (List.getD sc (Int.toNat i) opNone).q
 (List.getD sc (Int.toNat i) opNone).src
 (Adv.mk (List.getD sc (Int.toNat i) opNone).id (List.getD sc (Int.toNat i) opNone).pri
 (List.getD sc (Int.toNat i) opNone).every [])
 (VX.mk (VM.mk id pri every pre src n f st pace wait) cs k)).m.pace,
 AVal.int IntKind.i64
 (vrDo (List.getD sc (Int.toNat i) opNone).kd (List.getD sc (Int.toNat i) opNone).q
 (List.getD sc (Int.toNat i) opNone).src
 (Adv.mk (List.getD sc (Int.toNat i) opNone).id (List.getD sc (Int.toNat i) opNone).pri
 (List.getD sc (Int.toNat i) opNone).every [])
 (VX.mk (VM.mk id pri every pre src n f st pace wait) cs k)).m.wait,
 AVal.sl (2 : Nat) (0 : Nat)
 (vrDo (List.getD sc (Int.toNat i) opNone).kd (List.getD sc (Int.toNat i) opNone).q
 (List.getD sc (Int.toNat i) opNone).src
 (Adv.mk (List.getD sc (Int.toNat i) opNone).id (List.getD sc (Int.toNat i) opNone).pri
 (List.getD sc (Int.toNat i) opNone).every [])
 (VX.mk (VM.mk id pri every pre src n f st pace wait) cs k)).k
 (5 : Nat)],
 ABlk.flat
 (vrDo (List.getD sc (Int.toNat i) opNone).kd (List.getD sc (Int.toNat i) opNone).q
 (List.getD sc (Int.toNat i) opNone).src
 (Adv.mk (List.getD sc (Int.toNat i) opNone).id (List.getD sc (Int.toNat i) opNone).pri
 (List.getD sc (Int.toNat i) opNone).every [])
 (VX.mk (VM.mk id pri every pre src n f st pace wait) cs k)).out]))
 (I64 ((3 : Int) * pace) ∧
 I64 ((3 : Int) * pace + vrSkew pri pace) ∧
 VB (VX.mk (VM.mk id pri every pre src n f st pace wait) [] (0 : Nat)) ∧
 brP
 (decide
 ((vrTake t.src (Adv.mk t.id t.pri t.every [])
 (VX.mk (VM.mk id pri every pre src n f st pace wait) [] (0 : Nat))).m.st =
 st))
 (brP
 (decide
 ((vrTake t.src (Adv.mk t.id t.pri t.every [])
 (VX.mk (VM.mk id pri every pre src n f st pace wait) [] (0 : Nat))).m.wait =
 wait))
 (I64
 ((3 : Int) *
 (vrTake t.src (Adv.mk t.id t.pri t.every [])
 (VX.mk (VM.mk id pri every pre src n f st pace wait) [] (0 : Nat))).m.pace) ∧
 I64
 ((3 : Int) *
 (vrTake t.src (Adv.mk t.id t.pri t.every [])
 (VX.mk (VM.mk id pri every pre src n f st pace wait) [] (0 : Nat))).m.pace +
 vrSkew
 (vrTake t.src (Adv.mk t.id t.pri t.every [])
 (VX.mk (VM.mk id pri every pre src n f st pace wait) [] (0 : Nat))).m.pri
 (vrTake t.src (Adv.mk t.id t.pri t.every [])
 (VX.mk (VM.mk id pri every pre src n f st pace wait) [] (0 : Nat))).m.pace) ∧
 brP
 (decide
 ((3 : Int) *
 (vrTake t.src (Adv.mk t.id t.pri t.every [])
 (VX.mk (VM.mk id pri every pre src n f st pace wait) [] (0 : Nat))).m.pace +
 vrSkew
 (vrTake t.src (Adv.mk t.id t.pri t.every [])
 (VX.mk (VM.mk id pri every pre src n f st pace wait) [] (0 : Nat))).m.pri
 (vrTake t.src (Adv.mk t.id t.pri t.every [])
 (VX.mk (VM.mk id pri every pre src n f st pace wait) [] (0 : Nat))).m.pace =
 (3 : Int) * pace + vrSkew pri pace))
 (K
 (AVal.bool
 (decide
 ((↑(vrTake t.src (Adv.mk t.id t.pri t.every [])
 (VX.mk (VM.mk id pri every pre src n f st pace wait) [] (0 : Nat))).k :
 Int) =
 (0 : Int))))
 [])
 (K (AVal.bool false) []))
 (K (AVal.bool false) []))
 (K (AVal.bool false) []))) := by kernel_rfl
attribute [local irreducible] VrrpOthers_lp_n VrrpOthers_lp_b
theorem others_all (t : TdV) (sc : List OpV) (m : Int) (hm : m = (sc.length : Int)) (hn : sc.length ≤ 300) : ∀ (j : Nat) (i : Int) (id pri every : Int) (pre : Bool) (src : List UInt8) (n : Nat) (f : Nat → List AVal) (st pace wait : Int) (k : Nat) (cs : List AVal), 0 ≤ i → i + (j : Int) = m → VOk ⟨⟨id, pri, every, pre, src, n, f, st, pace, wait⟩, cs, k⟩ → (k : Int) ≤ 4000 * i → t.id ≠ id →
    VrrpOthers_lp_n (fun v _ => v = .bool true) (j + 1) (St.mk [(5, .ptr 0 0), (7, .ptr 1 0), (39, scV sc), (40, .int .i64 m), (41, .int .i64 i)] [.vals [.str t.src, .int .i64 t.id, .int .i64 t.pri, .int .i64 t.every, .ro t.addrs.length 1 (fun i => [.str (t.addrs.getD i [])])], .vals [.int .i64 id, .int .i64 pri, .int .i64 every, .bool pre, .str src, .ro n 1 f, .int .i64 st, .int .i64 pace, .int .i64 wait, .sl 2 0 k 5], .flat cs])
  | 0, i, id, pri, every, pre, src, n, f, st, pace, wait, k, cs, h0, h, hok, hk, hid => by
    refine VrrpOthers_lp_next ?_
    rw [VrrpOthers_lp_step]
    have hp := hok.pace
    have hb := vrSkew_bd pri pace
    simp only at hp
    have hv := hok.vb (by simp only; omega)
    have i1 : I64 (3 * pace) := by unfold I64; omega
    have i2 : I64 (3 * pace + vrSkew pri pace) := by unfold I64; omega
    rw [show vrTake t.src ⟨t.id, t.pri, t.every, []⟩ ⟨⟨id, pri, every, pre, src, n, f, st, pace, wait⟩, [], 0⟩ = ⟨⟨id, pri, every, pre, src, n, f, st, pace, wait⟩, [], 0⟩ from if_pos hid]
    exact brP_d (fun h' => by omega) (fun _ => ⟨i1, i2, ⟨hv.every, hv.pri, hv.pace, hv.st, hv.n, rfl, by simp⟩, brP_d (fun _ => brP_d (fun _ => ⟨i1, i2, brP_d (fun _ => rfl) (fun h => absurd rfl h)⟩) (fun h => absurd rfl h)) (fun h => absurd rfl h)⟩)
  | j + 1, i, id, pri, every, pre, src, n, f, st, pace, wait, k, cs, h0, h, hok, hk, hid => by
    refine VrrpOthers_lp_next ?_
    rw [VrrpOthers_lp_step]
    generalize sc.getD i.toNat opNone = o
    obtain ⟨hv, hvk⟩ := vrDo_ok hok (by simp only; omega) o.kd o.q o.src ⟨o.id, o.pri, o.every, []⟩
    have hc := vrDo_cfg (x := ⟨⟨id, pri, every, pre, src, n, f, st, pace, wait⟩, cs, k⟩) (kd := o.kd) (q := o.q) (s := o.src) (a := ⟨o.id, o.pri, o.every, []⟩)
    generalize vrDo o.kd o.q o.src ⟨o.id, o.pri, o.every, []⟩ ⟨⟨id, pri, every, pre, src, n, f, st, pace, wait⟩, cs, k⟩ = D at *
    simp only at hvk
    refine brP_d (fun _ => ⟨by omega, ⟨hok, by simp only; omega⟩, by unfold I64; omega, ?_⟩) (fun h' => by omega)
    exact others_all t sc m hm hn j (i + 1) _ _ _ _ _ _ _ _ _ _ _ _ (by omega) (by omega) hv (by omega) (by rw [hc.id]; exact hid)
attribute [local irreducible] fnP in
theorem vrrpOthers.core (c : Cfg) (sc : List OpV) (t : TdV) (h_c : CfgOk c) (h_sc : (∀ o ∈ sc, OpOk o) ∧ sc.length ≤ 140737488351232) (h_t : TdOk t) :
    fnP Try.prog Tlw ann_outriderlaw13_VrrpOthers Try.f9 [.agg (cfgCells c), scV sc, .agg (tdCells t)] [] (fun v _ => v = .bool true) := by
  rw [VrrpOthers_eq]
  obtain ⟨c1, c2, c3, c4, c5⟩ := h_c
  refine ⟨⟨isStrs_of _ _, by omega⟩, brP_i (fun hr => ?_) (fun _ => rfl)⟩
  rw [Bool.and_eq_true] at hr
  obtain ⟨hok, hp⟩ := new_ok c.pre (f := fun i => [AVal.str (c.addrs.getD i [])]) hr.1 (by simpa using hr.2)
  refine brP_i (fun _ => rfl) (fun hl => ?_)
  simp only [Bool.and_eq_true, Bool.or_eq_true, Bool.and_eq_false_iff, Bool.or_eq_false_iff, decide_eq_true_eq, decide_eq_false_iff_not, Bool.not_eq_true', Bool.not_eq_false', Bool.not_true, Bool.not_false, Bool.true_and, Bool.and_true, Bool.false_or, Bool.or_false, beq_iff_eq, beq_eq_false_iff_ne, ne_eq] at hl
  exact ⟨_, others_all t sc _ rfl (by omega) sc.length 0 _ _ _ _ _ _ _ _ _ _ _ _ (by omega) (by omega) hok (by simp) hl.2⟩
end Go.Proofs.Ytldfkjjjjfbbmaa.Ae
namespace Go.Proofs.Ytldfkjjjjfbbmaa
open Go Go.RowKit Ae
attribute [local irreducible] fnP in
set_option maxRecDepth 100000 in
theorem vrrpOthers.walk {H : Type} {enc : TypeId × Value → H} (W : World) (args : Array Value) (hn : args.size = 3)
    (h : ∀ (j : Nat) t v, Try.f9.params[j]? = some t → args[j]? = some v → RdV enc false Try.prog W t v) :
    Calls Try.prog 9 args W fun e w' => e = .returned (.bool true) ∧ Below W.heap.size W w' := by
  obtain ⟨v0, v1, v2, rfl⟩ := args3 hn
  obtain ⟨c, h_c, hv0⟩ := arg_struct (b := false) (.inl ⟨_, Try.underlying28⟩) open_cfg (h 0 28 v0 rfl rfl)
  obtain ⟨sc, h_sc, hv1⟩ := arg_slice (b := false) Try.underlying47 open_sc (h 1 47 v1 rfl rfl)
  obtain ⟨t, h_t, hv2⟩ := arg_struct (b := false) (.inl ⟨_, Try.underlying63⟩) open_td (h 2 63 v2 rfl rfl)
  obtain ⟨r, H1, hr, hG⟩ := fn_sound Tlw_sound mixed Try.func9 (by decide +kernel) (vrrpOthers.core c sc t h_c h_sc h_t)
  subst hr
  exact law_walk hG (vl_cons hv0 (vl_cons hv1 (vl_cons hv2 vl_nil)))

namespace vrrpOthers
theorem spec {H : Type} (ds : List (DataW H)) (h : ds.length = Try.f9.params.size) : Rows.vrrpOthersSpec.fn H ds = { results := [.lit (.bool true)], args := ds } := by
  have h' : ds.length = 3 := h
  match ds, h' with
  | [_, _, _], _ => rfl

set_option maxRecDepth 100000 in
theorem lifted (os : Os) (started : os.Started) (H : Type) (enc : TypeId × Value → H) :
    ReturnsInHanded {} Try.checked os 9 .any (Rows.vrrpOthersSpec.pre6 enc Try.prog Try.f9 Rows.vrrpOthersRow.domain false) (Rows.vrrpOthersSpec.post enc Try.prog Try.f9 false true false false) :=
  lifted_said (C := Try.checked) (tb := 4) own started (by kernel_rfl) Try.func9
    (ChangeSpec.witness6 (enc := enc) (C := Try.checked) false ⟨#[], #[.agg #[.int .i64 0, .int .i64 0, .int .i64 0, .bool false, .string .empty, .slice none 0 0], .slice none 0 0, .agg #[.string .empty, .int .i64 0, .int .i64 0, .int .i64 0, .slice none 0 0]], []⟩ 8 (by kernel_rfl) (by kernel_rfl) (by kernel_rfl) (by kernel_rfl))
    rfl spec rfl Try.underlying4 laidOut (by kernel_rfl) walk

theorem over : Rows.vrrpOthersRow.holds Try.pinned (OpenSpec.ofChange Rows.vrrpOthersSpec) :=
  OpenClaim.holds_of_wide 9 Try.f9 rfl rfl rfl rfl rfl rfl rfl ⟨rfl, rfl, rfl, rfl, rfl⟩ rfl rfl rfl rfl rfl (by kernel_rfl) Try.func9 (by kernel_rfl)
    (of_decide_eq_true (by kernel_rfl)) (by unfold Func.isWrapper; first | (rw [if_pos (by decide +kernel)]; kernel_rfl) | (rw [if_neg (by decide +kernel)]; exact ⟨rfl, rfl⟩))
    (fun os started H enc _ => lifted os started H enc)

theorem proved : Rows.VrrpOthersSaid := over
#print axioms proved
end vrrpOthers

end Go.Proofs.Ytldfkjjjjfbbmaa

