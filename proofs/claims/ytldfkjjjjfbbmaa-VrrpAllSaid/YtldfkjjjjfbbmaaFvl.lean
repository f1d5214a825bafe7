/- Chapter 13's law: what is told to a machine, what it did. -/
import Derived.Test.YtldfkjjjjfbbmaaFvq
set_option linter.unusedSimpArgs false
set_option linter.unusedVariables false
set_option maxRecDepth 100000
namespace Go.Proofs.Ytldfkjjjjfbbmaa
open Go Ae
/-- do two advertisements say the same? -/
def sameA (i p e : Int) (n : Nat) (f : Nat → List AVal) (i' p' e' : Int) (n' : Nat) (f' : Nat → List AVal) : Bool := decide (i = i') && decide (p = p') && decide (e = e') && decide (strs n f = strs n' f')
def eqFrom (g g' : Nat → List UInt8) : Nat → Nat → Bool
  | 0, _ => true
  | j + 1, k => if g k = g' k then eqFrom g g' j (k + 1) else false
theorem eqFrom_iff {g g' : Nat → List UInt8} : ∀ {j k : Nat}, eqFrom g g' j k = true ↔ ∀ q, k ≤ q → q < k + j → g q = g' q
  | 0, k => by unfold eqFrom; exact ⟨fun _ q h1 h2 => by omega, fun _ => rfl⟩
  | j + 1, k => by
    unfold eqFrom
    split
    · rename_i h
      rw [eqFrom_iff]
      constructor
      · intro hh q h1 h2
        by_cases e : q = k
        · subst e; exact h
        · exact hh q (by omega) (by omega)
      · intro hh q h1 h2; exact hh q (by omega) (by omega)
    · rename_i h
      exact ⟨fun hh => (by cases hh), fun hh => absurd (hh k (by omega) (by omega)) h⟩
theorem strs_eq {n : Nat} {f f' : Nat → List AVal} : (strs n f = strs n f') ↔ eqFrom (strAt f) (strAt f') n 0 = true := by
  rw [eqFrom_iff]
  unfold strs
  rw [List.map_inj_left]
  constructor
  · intro h q _ h2; exact h q (by simpa using h2)
  · intro h q hq; exact h q (Nat.zero_le _) (by simpa using hq)
theorem strs_ne {n n' : Nat} {f f' : Nat → List AVal} (h : n ≠ n') : strs n f ≠ strs n' f' := fun e => h (by have := congrArg List.length e; rwa [strs_len, strs_len] at this)
end Go.Proofs.Ytldfkjjjjfbbmaa
namespace Go.Proofs.Ytldfkjjjjfbbmaa.Ae
open Go
def addrOf : AVal → Option (Nat × (Nat → List AVal))
  | .ro n 1 f => some (n, f)
  | .nilS => some (0, fun _ => [])
  | _ => none
def sameRow : Srow := fun args H K => match args, H with
  | [.agg [.int .i64 i, .int .i64 p, .int .i64 e, a], .agg [.int .i64 i', .int .i64 p', .int .i64 e', a']], [] => match addrOf a, addrOf a' with
    | some (n, f), some (n', f') => (IsStrs n f ∧ IsStrs n' f' ∧ n ≤ 8796093022000) ∧ K (.bool (sameA i p e n f i' p' e' n' f')) []
    | _, _ => False
  | _, _ => False
theorem addr_ve {H : Hp} {a : AVal} {n : Nat} {f : Nat → List AVal} (h : addrOf a = some (n, f)) (hs : IsStrs n f) : VE H a (.ro n 1 (onlyStrs f)) := by
  unfold addrOf at h
  split at h
  · cases h; exact VE.strs hs
  · cases h; exact VE.nil_ro
  · cases h
def doesRow : Srow := fun args H K => match args, H with
  | [.ptr 0 0, .agg [.int .i64 kd, .int .i64 q, .str s, .int .i64 i, .int .i64 p, .int .i64 e, .ro m 1 uu]], [.vals [.int .i64 id, .int .i64 pri, .int .i64 every, .bool pre, .str src, .ro n 1 f, .int .i64 st, .int .i64 pace, .int .i64 wait, .sl 1 0 k 5], .flat cs] => VOkd ⟨⟨id, pri, every, pre, src, n, f, st, pace, wait⟩, cs, k⟩ ∧ K (.tup []) [.vals [.int .i64 (vrDo kd q s ⟨i, p, e, []⟩ ⟨⟨id, pri, every, pre, src, n, f, st, pace, wait⟩, cs, k⟩).m.id, .int .i64 (vrDo kd q s ⟨i, p, e, []⟩ ⟨⟨id, pri, every, pre, src, n, f, st, pace, wait⟩, cs, k⟩).m.pri, .int .i64 (vrDo kd q s ⟨i, p, e, []⟩ ⟨⟨id, pri, every, pre, src, n, f, st, pace, wait⟩, cs, k⟩).m.every, .bool (vrDo kd q s ⟨i, p, e, []⟩ ⟨⟨id, pri, every, pre, src, n, f, st, pace, wait⟩, cs, k⟩).m.pre, .str (vrDo kd q s ⟨i, p, e, []⟩ ⟨⟨id, pri, every, pre, src, n, f, st, pace, wait⟩, cs, k⟩).m.src, .ro (vrDo kd q s ⟨i, p, e, []⟩ ⟨⟨id, pri, every, pre, src, n, f, st, pace, wait⟩, cs, k⟩).m.n 1 (vrDo kd q s ⟨i, p, e, []⟩ ⟨⟨id, pri, every, pre, src, n, f, st, pace, wait⟩, cs, k⟩).m.f, .int .i64 (vrDo kd q s ⟨i, p, e, []⟩ ⟨⟨id, pri, every, pre, src, n, f, st, pace, wait⟩, cs, k⟩).m.st, .int .i64 (vrDo kd q s ⟨i, p, e, []⟩ ⟨⟨id, pri, every, pre, src, n, f, st, pace, wait⟩, cs, k⟩).m.pace, .int .i64 (vrDo kd q s ⟨i, p, e, []⟩ ⟨⟨id, pri, every, pre, src, n, f, st, pace, wait⟩, cs, k⟩).m.wait, .sl 2 0 (vrDo kd q s ⟨i, p, e, []⟩ ⟨⟨id, pri, every, pre, src, n, f, st, pace, wait⟩, cs, k⟩).k 5], .dead, .flat (vrDo kd q s ⟨i, p, e, []⟩ ⟨⟨id, pri, every, pre, src, n, f, st, pace, wait⟩, cs, k⟩).out]
  | _, _ => False
def ann_outriderlaw13_does : Nat → List Nat × Nat × List (List Nat)
  | 8 => ([0, 3, 4], 0, [])
  | 2000008 => ([], 9, [[], [0], [0, 1], [0, 1, 2], [0, 1, 2, 3], [0, 1, 2, 3, 4], [0, 1, 2, 3, 4, 5], [0, 1, 2, 3, 4, 5, 6]])
  | _ => ([], 0, [])
noncomputable abbrev does_lp_X : Cx := ⟨Try.prog, Tvq, Try.f23.ntmps, 2, ann_outriderlaw13_does⟩
noncomputable def does_lp_c : Code := cAt [.r, .r, .b, .r, .e, .r, .e, .r, .t, .r, .b] (bodyOf Try.f23)
noncomputable def does_lp_k (K : AVal → Hp → Prop) : Post := kAt does_lp_X [.r, .r, .b, .r, .e, .r, .e, .r, .t, .r, .b] (bodyOf Try.f23) (fnK Try.prog 2 Try.f23.results.toList K)
def does_lp_n (K : AVal → Hp → Prop) (n : Nat) (s : St) : Prop := loopP (awp does_lp_X (loopB does_lp_c)) 2 [0, 3, 4] n s (does_lp_k K)
def does_lp (K : AVal → Hp → Prop) (s : St) : Prop := ∃ n, does_lp_n K n s
def does_lp_b (K : AVal → Hp → Prop) (J : St → Prop) (s : St) : Prop := awp does_lp_X (loopB does_lp_c) s (seqK (fun s' => normK 2 [0, 3, 4] s' J) (does_lp_k K))
theorem does_lp_next {K : AVal → Hp → Prop} {n : Nat} {s : St} (h : does_lp_b K (fun s' => does_lp_n K n s') s) : does_lp_n K (n + 1) s := h
set_option maxRecDepth 100000 in
theorem does_eq (kd q : Int) (s : List UInt8) (i p e : Int) (m : Nat) (uu : Nat → List AVal) (id pri every : Int) (pre : Bool) (src : List UInt8) (n : Nat) (f : Nat → List AVal) (st pace wait : Int) (k : Nat) (cs : List AVal) (K : AVal → Hp → Prop) : fnP Try.prog Tvq ann_outriderlaw13_does Try.f23 [.ptr 0 0, .agg [.int .i64 kd, .int .i64 q, .str s, .int .i64 i, .int .i64 p, .int .i64 e, .ro m 1 uu]] [.vals [.int .i64 id, .int .i64 pri, .int .i64 every, .bool pre, .str src, .ro n 1 f, .int .i64 st, .int .i64 pace, .int .i64 wait, .sl 1 0 k 5], .flat cs] K = (
 brP (decide (kd = (0 : Int)))
 (VB (VX.mk (VM.mk id pri every pre src n f st pace wait) cs k) ∧
 K (AVal.tup [])
 [ABlk.vals
 [AVal.int IntKind.i64 (vrStart (VX.mk (VM.mk id pri every pre src n f st pace wait) cs k)).m.id,
 AVal.int IntKind.i64 (vrStart (VX.mk (VM.mk id pri every pre src n f st pace wait) cs k)).m.pri,
 AVal.int IntKind.i64 (vrStart (VX.mk (VM.mk id pri every pre src n f st pace wait) cs k)).m.every,
 AVal.bool (vrStart (VX.mk (VM.mk id pri every pre src n f st pace wait) cs k)).m.pre,
 AVal.str (vrStart (VX.mk (VM.mk id pri every pre src n f st pace wait) cs k)).m.src,
 AVal.ro (vrStart (VX.mk (VM.mk id pri every pre src n f st pace wait) cs k)).m.n (1 : Nat)
 (vrStart (VX.mk (VM.mk id pri every pre src n f st pace wait) cs k)).m.f,
 AVal.int IntKind.i64 (vrStart (VX.mk (VM.mk id pri every pre src n f st pace wait) cs k)).m.st,
 AVal.int IntKind.i64 (vrStart (VX.mk (VM.mk id pri every pre src n f st pace wait) cs k)).m.pace,
 AVal.int IntKind.i64 (vrStart (VX.mk (VM.mk id pri every pre src n f st pace wait) cs k)).m.wait,
 AVal.sl (2 : Nat) (0 : Nat) (vrStart (VX.mk (VM.mk id pri every pre src n f st pace wait) cs k)).k (5 : Nat)],
 ABlk.dead, ABlk.flat (vrStart (VX.mk (VM.mk id pri every pre src n f st pace wait) cs k)).out])
 (brP (decide (kd = (1 : Int)))
 (VB (VX.mk (VM.mk id pri every pre src n f st pace wait) cs k) ∧
 K (AVal.tup [])
 [ABlk.vals
 [AVal.int IntKind.i64 (vrStop (VX.mk (VM.mk id pri every pre src n f st pace wait) cs k)).m.id,
 AVal.int IntKind.i64 (vrStop (VX.mk (VM.mk id pri every pre src n f st pace wait) cs k)).m.pri,
 AVal.int IntKind.i64 (vrStop (VX.mk (VM.mk id pri every pre src n f st pace wait) cs k)).m.every,
 AVal.bool (vrStop (VX.mk (VM.mk id pri every pre src n f st pace wait) cs k)).m.pre,
 AVal.str (vrStop (VX.mk (VM.mk id pri every pre src n f st pace wait) cs k)).m.src,
 AVal.ro (vrStop (VX.mk (VM.mk id pri every pre src n f st pace wait) cs k)).m.n (1 : Nat)
 (vrStop (VX.mk (VM.mk id pri every pre src n f st pace wait) cs k)).m.f,
 AVal.int IntKind.i64 (vrStop (VX.mk (VM.mk id pri every pre src n f st pace wait) cs k)).m.st,
 AVal.int IntKind.i64 (vrStop (VX.mk (VM.mk id pri every pre src n f st pace wait) cs k)).m.pace,
 AVal.int IntKind.i64 (vrStop (VX.mk (VM.mk id pri every pre src n f st pace wait) cs k)).m.wait,
 AVal.sl (2 : Nat) (0 : Nat) (vrStop (VX.mk (VM.mk id pri every pre src n f st pace wait) cs k)).k (5 : Nat)],
 ABlk.dead, ABlk.flat (vrStop (VX.mk (VM.mk id pri every pre src n f st pace wait) cs k)).out])
 (brP (decide (kd = (2 : Int)))
 (does_lp K
 (St.mk
 [((0 : Nat), AVal.ptr (0 : Nat) (0 : Nat)), ((3 : Nat), AVal.ptr (2 : Nat) (0 : Nat)),
 ((4 : Nat), AVal.int IntKind.i64 (0 : Int))]
 [ABlk.vals
 [AVal.int IntKind.i64 id, AVal.int IntKind.i64 pri, AVal.int IntKind.i64 every, AVal.bool pre, AVal.str src,
 AVal.ro n (1 : Nat) f, AVal.int IntKind.i64 st, AVal.int IntKind.i64 pace, AVal.int IntKind.i64 wait,
 AVal.sl (1 : Nat) (0 : Nat) k (5 : Nat)],
 ABlk.flat cs,
 ABlk.vals
 [AVal.int IntKind.i64 kd, AVal.int IntKind.i64 q, AVal.str s, AVal.int IntKind.i64 i, AVal.int IntKind.i64 p,
 AVal.int IntKind.i64 e, AVal.ro m (1 : Nat) uu]]))
 (brP (decide (kd = (3 : Int)))
 (VB (VX.mk (VM.mk id pri every pre src n f st pace wait) cs k) ∧
 K (AVal.tup [])
 [ABlk.vals
 [AVal.int IntKind.i64
 (vrTake s (Adv.mk i p e []) (VX.mk (VM.mk id pri every pre src n f st pace wait) cs k)).m.id,
 AVal.int IntKind.i64
 (vrTake s (Adv.mk i p e []) (VX.mk (VM.mk id pri every pre src n f st pace wait) cs k)).m.pri,
 AVal.int IntKind.i64
 (vrTake s (Adv.mk i p e []) (VX.mk (VM.mk id pri every pre src n f st pace wait) cs k)).m.every,
 AVal.bool (vrTake s (Adv.mk i p e []) (VX.mk (VM.mk id pri every pre src n f st pace wait) cs k)).m.pre,
 AVal.str (vrTake s (Adv.mk i p e []) (VX.mk (VM.mk id pri every pre src n f st pace wait) cs k)).m.src,
 AVal.ro (vrTake s (Adv.mk i p e []) (VX.mk (VM.mk id pri every pre src n f st pace wait) cs k)).m.n (1 : Nat)
 (vrTake s (Adv.mk i p e []) (VX.mk (VM.mk id pri every pre src n f st pace wait) cs k)).m.f,
 AVal.int IntKind.i64
 (vrTake s (Adv.mk i p e []) (VX.mk (VM.mk id pri every pre src n f st pace wait) cs k)).m.st,
 AVal.int IntKind.i64
 (vrTake s (Adv.mk i p e []) (VX.mk (VM.mk id pri every pre src n f st pace wait) cs k)).m.pace,
 AVal.int IntKind.i64
 (vrTake s (Adv.mk i p e []) (VX.mk (VM.mk id pri every pre src n f st pace wait) cs k)).m.wait,
 AVal.sl (2 : Nat) (0 : Nat)
 (vrTake s (Adv.mk i p e []) (VX.mk (VM.mk id pri every pre src n f st pace wait) cs k)).k (5 : Nat)],
 ABlk.dead,
 ABlk.flat (vrTake s (Adv.mk i p e []) (VX.mk (VM.mk id pri every pre src n f st pace wait) cs k)).out])
 (brP (decide (kd = (4 : Int)))
 (K (AVal.tup [])
 [ABlk.vals
 [AVal.int IntKind.i64 (vrPri q (VX.mk (VM.mk id pri every pre src n f st pace wait) cs k)).m.id,
 AVal.int IntKind.i64 (vrPri q (VX.mk (VM.mk id pri every pre src n f st pace wait) cs k)).m.pri,
 AVal.int IntKind.i64 (vrPri q (VX.mk (VM.mk id pri every pre src n f st pace wait) cs k)).m.every,
 AVal.bool (vrPri q (VX.mk (VM.mk id pri every pre src n f st pace wait) cs k)).m.pre,
 AVal.str (vrPri q (VX.mk (VM.mk id pri every pre src n f st pace wait) cs k)).m.src,
 AVal.ro (vrPri q (VX.mk (VM.mk id pri every pre src n f st pace wait) cs k)).m.n (1 : Nat)
 (vrPri q (VX.mk (VM.mk id pri every pre src n f st pace wait) cs k)).m.f,
 AVal.int IntKind.i64 (vrPri q (VX.mk (VM.mk id pri every pre src n f st pace wait) cs k)).m.st,
 AVal.int IntKind.i64 (vrPri q (VX.mk (VM.mk id pri every pre src n f st pace wait) cs k)).m.pace,
 AVal.int IntKind.i64 (vrPri q (VX.mk (VM.mk id pri every pre src n f st pace wait) cs k)).m.wait,
 AVal.sl (1 : Nat) (0 : Nat) (vrPri q (VX.mk (VM.mk id pri every pre src n f st pace wait) cs k)).k (5 : Nat)],
 ABlk.flat (vrPri q (VX.mk (VM.mk id pri every pre src n f st pace wait) cs k)).out])
 (K (AVal.tup [])
 [ABlk.vals
 [AVal.int IntKind.i64 id, AVal.int IntKind.i64 pri, AVal.int IntKind.i64 every, AVal.bool pre, AVal.str src,
 AVal.ro n (1 : Nat) f, AVal.int IntKind.i64 st, AVal.int IntKind.i64 pace, AVal.int IntKind.i64 wait,
 AVal.sl (1 : Nat) (0 : Nat) k (5 : Nat)],
 ABlk.flat cs])))))) := by kernel_rfl
set_option maxRecDepth 100000 in
theorem does_stepA (kd q : Int) (s : List UInt8) (i p e : Int) (m : Nat) (uu : Nat → List AVal) (id pri every : Int) (pre : Bool) (src : List UInt8) (n : Nat) (f : Nat → List AVal) (st pace wait : Int) (k : Nat) (cs : List AVal) (c : Int) (K : AVal → Hp → Prop) (J : St → Prop) : does_lp_b K J (St.mk [(0, .ptr 0 0), (3, .ptr 2 0), (4, .int .i64 c)] [.vals [.int .i64 id, .int .i64 pri, .int .i64 every, .bool pre, .str src, .ro n 1 f, .int .i64 st, .int .i64 pace, .int .i64 wait, .sl 1 0 k 5], .flat cs, .vals [.int .i64 kd, .int .i64 q, .str s, .int .i64 i, .int .i64 p, .int .i64 e, .ro m 1 uu]]) = (
 brP (decide (c < q) && decide (c < (2000 : Int)))
 (VBw (VX.mk (VM.mk id pri every pre src n f st pace wait) cs k) ∧
 I64 (c + (1 : Int)) ∧
 J
 (St.mk
 [((0 : Nat), AVal.ptr (0 : Nat) (0 : Nat)), ((3 : Nat), AVal.ptr (3 : Nat) (0 : Nat)),
 ((4 : Nat), AVal.int IntKind.i64 (c + (1 : Int)))]
 [ABlk.vals
 [AVal.int IntKind.i64 (vrTick (VX.mk (VM.mk id pri every pre src n f st pace wait) cs k)).m.id,
 AVal.int IntKind.i64 (vrTick (VX.mk (VM.mk id pri every pre src n f st pace wait) cs k)).m.pri,
 AVal.int IntKind.i64 (vrTick (VX.mk (VM.mk id pri every pre src n f st pace wait) cs k)).m.every,
 AVal.bool (vrTick (VX.mk (VM.mk id pri every pre src n f st pace wait) cs k)).m.pre,
 AVal.str (vrTick (VX.mk (VM.mk id pri every pre src n f st pace wait) cs k)).m.src,
 AVal.ro (vrTick (VX.mk (VM.mk id pri every pre src n f st pace wait) cs k)).m.n (1 : Nat)
 (vrTick (VX.mk (VM.mk id pri every pre src n f st pace wait) cs k)).m.f,
 AVal.int IntKind.i64 (vrTick (VX.mk (VM.mk id pri every pre src n f st pace wait) cs k)).m.st,
 AVal.int IntKind.i64 (vrTick (VX.mk (VM.mk id pri every pre src n f st pace wait) cs k)).m.pace,
 AVal.int IntKind.i64 (vrTick (VX.mk (VM.mk id pri every pre src n f st pace wait) cs k)).m.wait,
 AVal.sl (2 : Nat) (0 : Nat) (vrTick (VX.mk (VM.mk id pri every pre src n f st pace wait) cs k)).k (5 : Nat)],
 ABlk.dead, ABlk.flat (vrTick (VX.mk (VM.mk id pri every pre src n f st pace wait) cs k)).out,
 ABlk.vals
 [AVal.int IntKind.i64 kd, AVal.int IntKind.i64 q, AVal.str s, AVal.int IntKind.i64 i, AVal.int IntKind.i64 p,
 AVal.int IntKind.i64 e, AVal.ro m (1 : Nat) uu]]))
 (K (AVal.tup [])
 [ABlk.vals
 [AVal.int IntKind.i64 id, AVal.int IntKind.i64 pri, AVal.int IntKind.i64 every, AVal.bool pre, AVal.str src,
 AVal.ro n (1 : Nat) f, AVal.int IntKind.i64 st, AVal.int IntKind.i64 pace, AVal.int IntKind.i64 wait,
 AVal.sl (1 : Nat) (0 : Nat) k (5 : Nat)],
 ABlk.flat cs])) := by kernel_rfl
set_option maxRecDepth 100000 in
theorem does_stepB (kd q : Int) (s : List UInt8) (i p e : Int) (m : Nat) (uu : Nat → List AVal) (id pri every : Int) (pre : Bool) (src : List UInt8) (n : Nat) (f : Nat → List AVal) (st pace wait : Int) (k : Nat) (cs : List AVal) (c : Int) (K : AVal → Hp → Prop) (J : St → Prop) : does_lp_b K J (St.mk [(0, .ptr 0 0), (3, .ptr 3 0), (4, .int .i64 c)] [.vals [.int .i64 id, .int .i64 pri, .int .i64 every, .bool pre, .str src, .ro n 1 f, .int .i64 st, .int .i64 pace, .int .i64 wait, .sl 2 0 k 5], .dead, .flat cs, .vals [.int .i64 kd, .int .i64 q, .str s, .int .i64 i, .int .i64 p, .int .i64 e, .ro m 1 uu]]) = (
 brP (decide (c < q) && decide (c < (2000 : Int)))
 (VBw (VX.mk (VM.mk id pri every pre src n f st pace wait) cs k) ∧
 I64 (c + (1 : Int)) ∧
 J
 (St.mk
 [((0 : Nat), AVal.ptr (0 : Nat) (0 : Nat)), ((3 : Nat), AVal.ptr (3 : Nat) (0 : Nat)),
 ((4 : Nat), AVal.int IntKind.i64 (c + (1 : Int)))]
 [ABlk.vals
 [AVal.int IntKind.i64 (vrTick (VX.mk (VM.mk id pri every pre src n f st pace wait) cs k)).m.id,
 AVal.int IntKind.i64 (vrTick (VX.mk (VM.mk id pri every pre src n f st pace wait) cs k)).m.pri,
 AVal.int IntKind.i64 (vrTick (VX.mk (VM.mk id pri every pre src n f st pace wait) cs k)).m.every,
 AVal.bool (vrTick (VX.mk (VM.mk id pri every pre src n f st pace wait) cs k)).m.pre,
 AVal.str (vrTick (VX.mk (VM.mk id pri every pre src n f st pace wait) cs k)).m.src,
 AVal.ro (vrTick (VX.mk (VM.mk id pri every pre src n f st pace wait) cs k)).m.n (1 : Nat)
 (vrTick (VX.mk (VM.mk id pri every pre src n f st pace wait) cs k)).m.f,
 AVal.int IntKind.i64 (vrTick (VX.mk (VM.mk id pri every pre src n f st pace wait) cs k)).m.st,
 AVal.int IntKind.i64 (vrTick (VX.mk (VM.mk id pri every pre src n f st pace wait) cs k)).m.pace,
 AVal.int IntKind.i64 (vrTick (VX.mk (VM.mk id pri every pre src n f st pace wait) cs k)).m.wait,
 AVal.sl (2 : Nat) (0 : Nat) (vrTick (VX.mk (VM.mk id pri every pre src n f st pace wait) cs k)).k (5 : Nat)],
 ABlk.dead, ABlk.flat (vrTick (VX.mk (VM.mk id pri every pre src n f st pace wait) cs k)).out,
 ABlk.vals
 [AVal.int IntKind.i64 kd, AVal.int IntKind.i64 q, AVal.str s, AVal.int IntKind.i64 i, AVal.int IntKind.i64 p,
 AVal.int IntKind.i64 e, AVal.ro m (1 : Nat) uu]]))
 (K (AVal.tup [])
 [ABlk.vals
 [AVal.int IntKind.i64 id, AVal.int IntKind.i64 pri, AVal.int IntKind.i64 every, AVal.bool pre, AVal.str src,
 AVal.ro n (1 : Nat) f, AVal.int IntKind.i64 st, AVal.int IntKind.i64 pace, AVal.int IntKind.i64 wait,
 AVal.sl (2 : Nat) (0 : Nat) k (5 : Nat)],
 ABlk.dead, ABlk.flat cs])) := by kernel_rfl
theorem does_all (K : AVal → Hp → Prop) (kd q : Int) (s : List UInt8) (i p e : Int) (m : Nat) (uu : Nat → List AVal) : ∀ (j : Nat) (c : Int) (id pri every : Int) (pre : Bool) (src : List UInt8) (n : Nat) (f : Nat → List AVal) (st pace wait : Int) (k : Nat) (cs : List AVal), 0 ≤ c → c + (j : Int) = (vrCount q : Int) ∨ (vrCount q : Int) ≤ c ∧ j = 0 → VOk ⟨⟨id, pri, every, pre, src, n, f, st, pace, wait⟩, cs, k⟩ → k + 2 * j ≤ 1000000000000 → K (.tup []) [.vals [.int .i64 (vrTicks j ⟨⟨id, pri, every, pre, src, n, f, st, pace, wait⟩, cs, k⟩).m.id, .int .i64 (vrTicks j ⟨⟨id, pri, every, pre, src, n, f, st, pace, wait⟩, cs, k⟩).m.pri, .int .i64 (vrTicks j ⟨⟨id, pri, every, pre, src, n, f, st, pace, wait⟩, cs, k⟩).m.every, .bool (vrTicks j ⟨⟨id, pri, every, pre, src, n, f, st, pace, wait⟩, cs, k⟩).m.pre, .str (vrTicks j ⟨⟨id, pri, every, pre, src, n, f, st, pace, wait⟩, cs, k⟩).m.src, .ro (vrTicks j ⟨⟨id, pri, every, pre, src, n, f, st, pace, wait⟩, cs, k⟩).m.n 1 (vrTicks j ⟨⟨id, pri, every, pre, src, n, f, st, pace, wait⟩, cs, k⟩).m.f, .int .i64 (vrTicks j ⟨⟨id, pri, every, pre, src, n, f, st, pace, wait⟩, cs, k⟩).m.st, .int .i64 (vrTicks j ⟨⟨id, pri, every, pre, src, n, f, st, pace, wait⟩, cs, k⟩).m.pace, .int .i64 (vrTicks j ⟨⟨id, pri, every, pre, src, n, f, st, pace, wait⟩, cs, k⟩).m.wait, .sl 2 0 (vrTicks j ⟨⟨id, pri, every, pre, src, n, f, st, pace, wait⟩, cs, k⟩).k 5], .dead, .flat (vrTicks j ⟨⟨id, pri, every, pre, src, n, f, st, pace, wait⟩, cs, k⟩).out] →
    does_lp_n (fun v H' => ∃ v2 H2, ResLe v H' v2 H2 ∧ K v2 H2) (j + 1) (St.mk [(0, .ptr 0 0), (3, .ptr 3 0), (4, .int .i64 c)] [.vals [.int .i64 id, .int .i64 pri, .int .i64 every, .bool pre, .str src, .ro n 1 f, .int .i64 st, .int .i64 pace, .int .i64 wait, .sl 2 0 k 5], .dead, .flat cs, .vals [.int .i64 kd, .int .i64 q, .str s, .int .i64 i, .int .i64 p, .int .i64 e, .ro m 1 uu]])
  | 0, c, id, pri, every, pre, src, n, f, st, pace, wait, k, cs, h0, hc, hok, hk, hK => by
    refine does_lp_next ?_
    rw [does_stepB]
    refine brP_i (fun h => ?_) (fun _ => ⟨_, _, .refl, hK⟩)
    exfalso
    simp only [Bool.and_eq_true, Bool.or_eq_true, Bool.and_eq_false_iff, Bool.or_eq_false_iff, decide_eq_true_eq, decide_eq_false_iff_not, Bool.not_eq_true', Bool.not_eq_false', Bool.not_true, Bool.not_false, Bool.true_and, Bool.and_true, Bool.false_or, Bool.or_false, beq_iff_eq, beq_eq_false_iff_ne, ne_eq] at h
    unfold vrCount at hc
    split at hc <;> omega
  | j + 1, c, id, pri, every, pre, src, n, f, st, pace, wait, k, cs, h0, hc, hok, hk, hK => by
    refine does_lp_next ?_
    rw [does_stepB]
    refine brP_i (fun h => ⟨hok.vbw (by simp only; omega), by simp only [Bool.and_eq_true, Bool.or_eq_true, Bool.and_eq_false_iff, Bool.or_eq_false_iff, decide_eq_true_eq, decide_eq_false_iff_not, Bool.not_eq_true', Bool.not_eq_false', Bool.not_true, Bool.not_false, Bool.true_and, Bool.and_true, Bool.false_or, Bool.or_false, beq_iff_eq, beq_eq_false_iff_ne, ne_eq] at h; unfold I64; omega, ?_⟩) (fun h => ?_)
    · have hy := vrTick_ok hok (by simp only; omega)
      have hyk := vrTick_k (x := ⟨⟨id, pri, every, pre, src, n, f, st, pace, wait⟩, cs, k⟩)
      simp only at hyk
      exact does_all K kd q s i p e m uu j (c + 1) _ _ _ _ _ _ _ _ _ _ _ _ (by omega) (.inl (by omega)) hy (by omega) hK
    · exfalso
      have hnn : ¬ (c < q ∧ c < 2000) := fun hh => by
        rw [decide_eq_true hh.1, decide_eq_true hh.2] at h; cases h
      unfold vrCount at hc
      split at hc <;> omega
theorem does_first (K : AVal → Hp → Prop) (kd q : Int) (s : List UInt8) (i p e : Int) (m : Nat) (uu : Nat → List AVal) (j : Nat) (id pri every : Int) (pre : Bool) (src : List UInt8) (n : Nat) (f : Nat → List AVal) (st pace wait : Int) (k : Nat) (cs : List AVal) (hc : j = vrCount q) (hok : VOk ⟨⟨id, pri, every, pre, src, n, f, st, pace, wait⟩, cs, k⟩) (hk : k + 2 * j ≤ 1000000000000) (hK : K (.tup []) [.vals [.int .i64 (vrTicks j ⟨⟨id, pri, every, pre, src, n, f, st, pace, wait⟩, cs, k⟩).m.id, .int .i64 (vrTicks j ⟨⟨id, pri, every, pre, src, n, f, st, pace, wait⟩, cs, k⟩).m.pri, .int .i64 (vrTicks j ⟨⟨id, pri, every, pre, src, n, f, st, pace, wait⟩, cs, k⟩).m.every, .bool (vrTicks j ⟨⟨id, pri, every, pre, src, n, f, st, pace, wait⟩, cs, k⟩).m.pre, .str (vrTicks j ⟨⟨id, pri, every, pre, src, n, f, st, pace, wait⟩, cs, k⟩).m.src, .ro (vrTicks j ⟨⟨id, pri, every, pre, src, n, f, st, pace, wait⟩, cs, k⟩).m.n 1 (vrTicks j ⟨⟨id, pri, every, pre, src, n, f, st, pace, wait⟩, cs, k⟩).m.f, .int .i64 (vrTicks j ⟨⟨id, pri, every, pre, src, n, f, st, pace, wait⟩, cs, k⟩).m.st, .int .i64 (vrTicks j ⟨⟨id, pri, every, pre, src, n, f, st, pace, wait⟩, cs, k⟩).m.pace, .int .i64 (vrTicks j ⟨⟨id, pri, every, pre, src, n, f, st, pace, wait⟩, cs, k⟩).m.wait, .sl 2 0 (vrTicks j ⟨⟨id, pri, every, pre, src, n, f, st, pace, wait⟩, cs, k⟩).k 5], .dead, .flat (vrTicks j ⟨⟨id, pri, every, pre, src, n, f, st, pace, wait⟩, cs, k⟩).out]) :
    does_lp_n (fun v H' => ∃ v2 H2, ResLe v H' v2 H2 ∧ K v2 H2) (j + 1) (St.mk [(0, .ptr 0 0), (3, .ptr 2 0), (4, .int .i64 0)] [.vals [.int .i64 id, .int .i64 pri, .int .i64 every, .bool pre, .str src, .ro n 1 f, .int .i64 st, .int .i64 pace, .int .i64 wait, .sl 1 0 k 5], .flat cs, .vals [.int .i64 kd, .int .i64 q, .str s, .int .i64 i, .int .i64 p, .int .i64 e, .ro m 1 uu]]) := by
  refine does_lp_next ?_
  rw [does_stepA]
  cases j with
  | zero =>
    refine brP_i (fun h => ?_) (fun _ => ⟨_, _, moved, hK⟩)
    exfalso
    simp only [Bool.and_eq_true, Bool.or_eq_true, Bool.and_eq_false_iff, Bool.or_eq_false_iff, decide_eq_true_eq, decide_eq_false_iff_not, Bool.not_eq_true', Bool.not_eq_false', Bool.not_true, Bool.not_false, Bool.true_and, Bool.and_true, Bool.false_or, Bool.or_false, beq_iff_eq, beq_eq_false_iff_ne, ne_eq] at h
    unfold vrCount at hc
    split at hc <;> omega
  | succ j =>
    have hle := vrCount_le q
    refine brP_i (fun h => ⟨hok.vbw (by simp only; omega), by unfold I64; omega, ?_⟩) (fun h => ?_)
    · have hy := vrTick_ok hok (by simp only; omega)
      have hyk := vrTick_k (x := ⟨⟨id, pri, every, pre, src, n, f, st, pace, wait⟩, cs, k⟩)
      simp only at hyk
      exact does_all K kd q s i p e m uu j (0 + 1) _ _ _ _ _ _ _ _ _ _ _ _ (by omega) (.inl (by omega)) hy (by omega) hK
    · exfalso
      have hnn : ¬ ((0 : Int) < q ∧ (0 : Int) < 2000) := fun hh => by
        rw [decide_eq_true hh.1, decide_eq_true hh.2] at h; cases h
      unfold vrCount at hc
      split at hc <;> omega
attribute [local irreducible] fnP in
theorem outriderlaw13_does_p : ∀ args H K, doesRow args H K → ∃ args', ArgsLe H args args' ∧ fnP Try.prog Tvq ann_outriderlaw13_does Try.f23 args' H (fun v H' => ∃ v2 H2, ResLe v H' v2 H2 ∧ K v2 H2) := by
  intro args H K h
  unfold doesRow at h
  split at h
  · rename_i kd q s i p e m uu id pri every pre src n f st pace wait k cs
    refine ⟨_, .refl, ?_⟩
    rw [does_eq]
    obtain ⟨⟨hok, hk⟩, hK⟩ := h
    simp only at hk
    have hb := hok.vb (by simp only; omega)
    unfold vrDo at hK
    refine brP_d (fun h0 => ⟨hb, ?_⟩) (fun h0 => brP_d (fun h1 => ⟨hb, ?_⟩) (fun h1 => brP_d (fun h2 => ?_) (fun h2 => brP_d (fun h3 => ⟨hb, ?_⟩) (fun h3 => brP_d (fun h4 => ?_) (fun h4 => ?_)))))
    · rw [if_pos h0] at hK; exact ⟨_, _, .refl, hK⟩
    · rw [if_neg h0, if_pos h1] at hK; exact ⟨_, _, .refl, hK⟩
    · rw [if_neg h0, if_neg h1, if_pos h2] at hK
      have hc := vrCount_le q
      exact ⟨_, does_first K kd q s i p e m uu (vrCount q) _ _ _ _ _ _ _ _ _ _ _ _ rfl hok (by omega) hK⟩
    · rw [if_neg h0, if_neg h1, if_neg h2, if_pos h3] at hK; exact ⟨_, _, .refl, hK⟩
    · rw [if_neg h0, if_neg h1, if_neg h2, if_neg h3, if_pos h4] at hK
      exact ⟨_, _, moved, hK⟩
    · rw [if_neg h0, if_neg h1, if_neg h2, if_neg h3, if_neg h4] at hK; exact ⟨_, _, moved, hK⟩
  · exact h.elim
def Tvl1 : Specs := ext Tvq 23 (doesRow)
theorem Tvl1_sound : TSound Try.prog Tvl1 := ext_sound Tvq_sound (row_weak Tvq_sound mixed Try.func23 (by decide +kernel) outriderlaw13_does_p)
def ann_outriderref06_Same : Nat → List Nat × Nat × List (List Nat)
  | 4 => ([2, 3, 5], 0, [])
  | 6 => ([], 11, [[], [0], [], [0, 1, 2], [0, 1, 2, 3], [], [5], [], [5, 6, 7], [5, 6, 7, 8], [0, 1, 2, 3, 4, 5, 6, 7, 8, 9]])
  | 2000001 => ([], 29, [[], [0], [0, 1], [0, 1, 2], [0, 1, 2, 3], [0, 1, 2, 3, 4], [0, 1, 2, 3, 4, 5], [0, 1, 2, 3, 4, 5, 6], [0, 1, 2, 3, 4, 5, 6, 7], [0, 1, 2, 3, 4, 5, 6, 7, 8], [0, 1, 2, 3, 4, 5, 6, 7, 8, 9], [0, 1, 2, 3, 4, 5, 6, 7, 8, 9, 10], [0, 1, 2, 3, 4, 5, 6, 7, 8, 9, 10, 11], [0, 1, 2, 3, 4, 5, 6, 7, 8, 9, 10, 11, 12], [0, 1, 2, 3, 4, 5, 6, 7, 8, 9, 10, 11, 12, 13], [0, 1, 2, 3, 4, 5, 6, 7, 8, 9, 10, 11, 12, 13, 14], [0, 1, 2, 3, 4, 5, 6, 7, 8, 9, 10, 11, 12, 13, 14, 15], [0, 1, 2, 3, 4, 5, 6, 7, 8, 9, 10, 11, 12, 13, 14, 15, 16], [0, 1, 2, 3, 4, 5, 6, 7, 8, 9, 10, 11, 12, 13, 14, 15, 16, 17], [0, 1, 2, 3, 4, 5, 6, 7, 8, 9, 10, 11, 12, 13, 14, 15, 16, 17, 18], [0, 1, 2, 3, 4, 5, 6, 7, 8, 9, 10, 11, 12, 13, 14, 15, 16, 17, 18, 19], [0, 1, 2, 3, 4, 5, 6, 7, 8, 9, 10, 11, 12, 13, 14, 15, 16, 17, 18, 19, 20], [0, 1, 2, 3, 4, 5, 6, 7, 8, 9, 10, 11, 12, 13, 14, 15, 16, 17, 18, 19, 20, 21], [0, 1, 2, 3, 4, 5, 6, 7, 8, 9, 10, 11, 12, 13, 14, 15, 16, 17, 18, 19, 20, 21, 22], [0, 1, 2, 3, 4, 5, 6, 7, 8, 9, 10, 11, 12, 13, 14, 15, 16, 17, 18, 19, 20, 21, 22, 23], [0, 1, 2, 3, 4, 5, 6, 7, 8, 9, 10, 11, 12, 13, 14, 15, 16, 17, 18, 19, 20, 21, 22, 23, 24], [0, 1, 2, 3, 4, 5, 6, 7, 8, 9, 10, 11, 12, 13, 14, 15, 16, 17, 18, 19, 20, 21, 22, 23, 24, 25], [0, 1, 2, 3, 4, 5, 6, 7, 8, 9, 10, 11, 12, 13, 14, 15, 16, 17, 18, 19, 20, 21, 22, 23, 24, 25, 26]])
  | _ => ([], 0, [])
noncomputable abbrev same_lp_X : Cx := ⟨Try.prog, Tvl1, Try.f42.ntmps, 0, ann_outriderref06_Same⟩
noncomputable def same_lp_c : Code := cAt [.r, .r, .l, .r, .b] (bodyOf Try.f42)
noncomputable def same_lp_k (K : AVal → Hp → Prop) : Post := kAt same_lp_X [.r, .r, .l, .r, .b] (bodyOf Try.f42) (fnK Try.prog 0 Try.f42.results.toList K)
def same_lp_n (K : AVal → Hp → Prop) (n : Nat) (s : St) : Prop := loopP (awp same_lp_X (loopB same_lp_c)) 0 [2, 3, 5] n s (same_lp_k K)
def same_lp (K : AVal → Hp → Prop) (s : St) : Prop := ∃ n, same_lp_n K n s
def same_lp_b (K : AVal → Hp → Prop) (J : St → Prop) (s : St) : Prop := awp same_lp_X (loopB same_lp_c) s (seqK (fun s' => normK 0 [2, 3, 5] s' J) (same_lp_k K))
theorem same_lp_next {K : AVal → Hp → Prop} {n : Nat} {s : St} (h : same_lp_b K (fun s' => same_lp_n K n s') s) : same_lp_n K (n + 1) s := h
set_option maxRecDepth 100000 in
theorem same_eq (i p e : Int) (n : Nat) (g : Nat → List UInt8) (i' p' e' : Int) (n' : Nat) (g' : Nat → List UInt8) (K : AVal → Hp → Prop) : fnP Try.prog Tvl1 ann_outriderref06_Same Try.f42 [.agg [.int .i64 i, .int .i64 p, .int .i64 e, .ro n 1 (fun q => [.str (g q)])], .agg [.int .i64 i', .int .i64 p', .int .i64 e', .ro n' 1 (fun q => [.str (g' q)])]] [] K = (
 brP (!decide (i = i') || !decide (p = p') || !decide (e = e') || !decide ((↑n : Int) = (↑n' : Int)))
 (K (AVal.bool false) [])
 (same_lp K
 (St.mk
 [((2 : Nat), AVal.ptr (0 : Nat) (0 : Nat)), ((3 : Nat), AVal.ptr (1 : Nat) (0 : Nat)),
 ((5 : Nat), AVal.int IntKind.i64 (0 : Int))]
 [ABlk.vals
 [AVal.int IntKind.i64 i, AVal.int IntKind.i64 p, AVal.int IntKind.i64 e,
 AVal.ro n (1 : Nat) fun q => [AVal.str (g q)]],
 ABlk.vals
 [AVal.int IntKind.i64 i', AVal.int IntKind.i64 p', AVal.int IntKind.i64 e',
 AVal.ro n' (1 : Nat) fun q => [AVal.str (g' q)]]]))) := by kernel_rfl
set_option maxRecDepth 100000 in
theorem same_lp_step (i p e : Int) (n : Nat) (g : Nat → List UInt8) (i' p' e' : Int) (n' : Nat) (g' : Nat → List UInt8) (c : Int) (K : AVal → Hp → Prop) (J : St → Prop) : same_lp_b K J (St.mk [(2, .ptr 0 0), (3, .ptr 1 0), (5, .int .i64 c)] [.vals [.int .i64 i, .int .i64 p, .int .i64 e, .ro n 1 (fun q => [.str (g q)])], .vals [.int .i64 i', .int .i64 p', .int .i64 e', .ro n' 1 (fun q => [.str (g' q)])]]) = (
 brP (decide (c < (↑n : Int)))
 (((0 : Int) ≤ c ∧ c < (↑n : Int)) ∧
 ((0 : Int) ≤ c ∧ c < (↑n' : Int)) ∧
 brP (!decide (g (Int.toNat c) = g' (Int.toNat c))) (K (AVal.bool false) [])
 (I64 (c + (1 : Int)) ∧
 J
 (St.mk
 [((2 : Nat), AVal.ptr (0 : Nat) (0 : Nat)), ((3 : Nat), AVal.ptr (1 : Nat) (0 : Nat)),
 ((5 : Nat), AVal.int IntKind.i64 (c + (1 : Int)))]
 [ABlk.vals
 [AVal.int IntKind.i64 i, AVal.int IntKind.i64 p, AVal.int IntKind.i64 e,
 AVal.ro n (1 : Nat) fun q => [AVal.str (g q)]],
 ABlk.vals
 [AVal.int IntKind.i64 i', AVal.int IntKind.i64 p', AVal.int IntKind.i64 e',
 AVal.ro n' (1 : Nat) fun q => [AVal.str (g' q)]]])))
 (K (AVal.bool true) [])) := by kernel_rfl
theorem same_all (K : AVal → Hp → Prop) (i p e : Int) (n : Nat) (g : Nat → List UInt8) (i' p' e' : Int) (g' : Nat → List UInt8) (hn : n ≤ 8796093022000) : ∀ (j k : Nat), k + j = n → K (.bool (eqFrom g g' j k)) [] →
    same_lp_n K (j + 1) (St.mk [(2, .ptr 0 0), (3, .ptr 1 0), (5, .int .i64 (k : Int))] [.vals [.int .i64 i, .int .i64 p, .int .i64 e, .ro n 1 (fun q => [.str (g q)])], .vals [.int .i64 i', .int .i64 p', .int .i64 e', .ro n 1 (fun q => [.str (g' q)])]])
  | 0, k, h, hK => by
    refine same_lp_next ?_
    rw [same_lp_step]
    exact brP_d (fun h' => by omega) (fun _ => hK)
  | j + 1, k, h, hK => by
    refine same_lp_next ?_
    rw [same_lp_step]
    unfold eqFrom at hK
    refine brP_d (fun _ => ⟨by omega, by omega, ?_⟩) (fun h' => by omega)
    rw [Int.toNat_natCast]
    refine brP_nd (fun h1 => ?_) (fun h1 => ⟨by unfold I64; omega, ?_⟩)
    · rw [if_neg h1] at hK; exact hK
    · rw [if_pos h1] at hK
      exact same_all K i p e n g i' p' e' g' hn j (k + 1) (by omega) hK
attribute [local irreducible] fnP in
theorem outriderref06_Same_p : ∀ args H K, sameRow args H K → ∃ args', ArgsLe H args args' ∧ fnP Try.prog Tvl1 ann_outriderref06_Same Try.f42 args' H (fun v H' => ∃ v2 H2, ResLe v H' v2 H2 ∧ K v2 H2) := by
  intro args H K h
  unfold sameRow at h
  split at h
  · rename_i i p e a i' p' e' a'
    split at h
    · rename_i n f n' f' h1 h2
      obtain ⟨⟨hs, hs', hn⟩, hK⟩ := h
      refine ⟨[.agg [.int .i64 i, .int .i64 p, .int .i64 e, .ro n 1 (onlyStrs f)], .agg [.int .i64 i', .int .i64 p', .int .i64 e', .ro n' 1 (onlyStrs f')]], .cons (.agg (.cons .refl (.cons .refl (.cons .refl (.cons (addr_ve h1 hs) .nil))))) (.cons (.agg (.cons .refl (.cons .refl (.cons .refl (.cons (addr_ve h2 hs') .nil))))) .nil), ?_⟩
      unfold onlyStrs
      rw [same_eq]
      refine brP_i (fun hc => ?_) (fun hc => ?_)
      · have e0 : sameA i p e n f i' p' e' n' f' = false := by
          unfold sameA
          simp only [Bool.and_eq_true, Bool.or_eq_true, Bool.and_eq_false_iff, Bool.or_eq_false_iff, decide_eq_true_eq, decide_eq_false_iff_not, Bool.not_eq_true', Bool.not_eq_false', Bool.not_true, Bool.not_false, Bool.true_and, Bool.and_true, Bool.false_or, Bool.or_false, beq_iff_eq, beq_eq_false_iff_ne, ne_eq] at hc
          rw [Bool.eq_false_iff]
          intro hh
          simp only [Bool.and_eq_true, decide_eq_true_eq] at hh
          have := strs_ne (f := f) (f' := f') (n := n) (n' := n')
          have h4 : n = n' := Classical.byContradiction fun h => this h hh.2
          omega
        rw [e0] at hK
        exact ⟨_, _, .refl, hK⟩
      · simp only [Bool.and_eq_true, Bool.or_eq_true, Bool.and_eq_false_iff, Bool.or_eq_false_iff, decide_eq_true_eq, decide_eq_false_iff_not, Bool.not_eq_true', Bool.not_eq_false', Bool.not_true, Bool.not_false, Bool.true_and, Bool.and_true, Bool.false_or, Bool.or_false, beq_iff_eq, beq_eq_false_iff_ne, ne_eq] at hc
        obtain rfl : n = n' := by omega
        obtain rfl : i = i' := by omega
        obtain rfl : p = p' := by omega
        obtain rfl : e = e' := by omega
        have e0 : sameA i p e n f i p e n f' = eqFrom (strAt f) (strAt f') n 0 := by
          unfold sameA
          simp only [decide_true, Bool.true_and]
          rw [Bool.eq_iff_iff, decide_eq_true_eq, strs_eq]
        rw [e0] at hK
        exact ⟨_, same_all _ _ _ _ _ _ _ _ _ _ hn n 0 (by omega) ⟨_, _, .refl, hK⟩⟩
    · exact h.elim
  · exact h.elim
def Tvl2 : Specs := ext Tvl1 42 (sameRow)
theorem Tvl2_sound : TSound Try.prog Tvl2 := ext_sound Tvl1_sound (row_weak Tvl1_sound mixed Try.func42 (by decide +kernel) outriderref06_Same_p)
abbrev Tvl : Specs := Tvl2
theorem Tvl_sound : TSound Try.prog Tvl := Tvl2_sound
end Go.Proofs.Ytldfkjjjjfbbmaa.Ae

