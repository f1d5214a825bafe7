/- Chapter 13's functions as a table: the document's machine. -/
import Derived.Test.YtldfkjjjjfbbmaaFvr
set_option linter.unusedSimpArgs false
set_option linter.unusedVariables false
set_option maxRecDepth 100000
namespace Go.Proofs.Ytldfkjjjjfbbmaa.Ae
open Go
def rfRow (B : VX → Prop) (g : VX → VX) : Srow := fun args H K => match args, H with
  | [.agg [.int .i64 id, .int .i64 pri, .int .i64 every, .bool pre, .str src, .ro n 1 f, .int .i64 st, .int .i64 pace, .int .i64 wait, .nilS]], [] => B ⟨⟨id, pri, every, pre, src, n, f, st, pace, wait⟩, [], 0⟩ ∧ K (.agg [.int .i64 (g ⟨⟨id, pri, every, pre, src, n, f, st, pace, wait⟩, [], 0⟩).m.id, .int .i64 (g ⟨⟨id, pri, every, pre, src, n, f, st, pace, wait⟩, [], 0⟩).m.pri, .int .i64 (g ⟨⟨id, pri, every, pre, src, n, f, st, pace, wait⟩, [], 0⟩).m.every, .bool (g ⟨⟨id, pri, every, pre, src, n, f, st, pace, wait⟩, [], 0⟩).m.pre, .str (g ⟨⟨id, pri, every, pre, src, n, f, st, pace, wait⟩, [], 0⟩).m.src, .ro (g ⟨⟨id, pri, every, pre, src, n, f, st, pace, wait⟩, [], 0⟩).m.n 1 (g ⟨⟨id, pri, every, pre, src, n, f, st, pace, wait⟩, [], 0⟩).m.f, .int .i64 (g ⟨⟨id, pri, every, pre, src, n, f, st, pace, wait⟩, [], 0⟩).m.st, .int .i64 (g ⟨⟨id, pri, every, pre, src, n, f, st, pace, wait⟩, [], 0⟩).m.pace, .int .i64 (g ⟨⟨id, pri, every, pre, src, n, f, st, pace, wait⟩, [], 0⟩).m.wait, .ro (g ⟨⟨id, pri, every, pre, src, n, f, st, pace, wait⟩, [], 0⟩).k 5 (rowsOf 5 (g ⟨⟨id, pri, every, pre, src, n, f, st, pace, wait⟩, [], 0⟩).out)]) [.dead]
  | [.agg [.int .i64 id, .int .i64 pri, .int .i64 every, .bool pre, .str src, .ro n 1 f, .int .i64 st, .int .i64 pace, .int .i64 wait, .ro k 5 u]], [] => B ⟨⟨id, pri, every, pre, src, n, f, st, pace, wait⟩, (List.range k).flatMap u, k⟩ ∧ K (.agg [.int .i64 (g ⟨⟨id, pri, every, pre, src, n, f, st, pace, wait⟩, (List.range k).flatMap u, k⟩).m.id, .int .i64 (g ⟨⟨id, pri, every, pre, src, n, f, st, pace, wait⟩, (List.range k).flatMap u, k⟩).m.pri, .int .i64 (g ⟨⟨id, pri, every, pre, src, n, f, st, pace, wait⟩, (List.range k).flatMap u, k⟩).m.every, .bool (g ⟨⟨id, pri, every, pre, src, n, f, st, pace, wait⟩, (List.range k).flatMap u, k⟩).m.pre, .str (g ⟨⟨id, pri, every, pre, src, n, f, st, pace, wait⟩, (List.range k).flatMap u, k⟩).m.src, .ro (g ⟨⟨id, pri, every, pre, src, n, f, st, pace, wait⟩, (List.range k).flatMap u, k⟩).m.n 1 (g ⟨⟨id, pri, every, pre, src, n, f, st, pace, wait⟩, (List.range k).flatMap u, k⟩).m.f, .int .i64 (g ⟨⟨id, pri, every, pre, src, n, f, st, pace, wait⟩, (List.range k).flatMap u, k⟩).m.st, .int .i64 (g ⟨⟨id, pri, every, pre, src, n, f, st, pace, wait⟩, (List.range k).flatMap u, k⟩).m.pace, .int .i64 (g ⟨⟨id, pri, every, pre, src, n, f, st, pace, wait⟩, (List.range k).flatMap u, k⟩).m.wait, .ro (g ⟨⟨id, pri, every, pre, src, n, f, st, pace, wait⟩, (List.range k).flatMap u, k⟩).k 5 (rowsOf 5 (g ⟨⟨id, pri, every, pre, src, n, f, st, pace, wait⟩, (List.range k).flatMap u, k⟩).out)]) [.dead]
  | _, _ => False
def rfRowI (B : VX → Prop) (g : Int → VX → VX) : Srow := fun args H K => match args, H with
  | [.agg [.int .i64 id, .int .i64 pri, .int .i64 every, .bool pre, .str src, .ro n 1 f, .int .i64 st, .int .i64 pace, .int .i64 wait, .nilS], .int .i64 q], [] => B ⟨⟨id, pri, every, pre, src, n, f, st, pace, wait⟩, [], 0⟩ ∧ K (.agg [.int .i64 (g q ⟨⟨id, pri, every, pre, src, n, f, st, pace, wait⟩, [], 0⟩).m.id, .int .i64 (g q ⟨⟨id, pri, every, pre, src, n, f, st, pace, wait⟩, [], 0⟩).m.pri, .int .i64 (g q ⟨⟨id, pri, every, pre, src, n, f, st, pace, wait⟩, [], 0⟩).m.every, .bool (g q ⟨⟨id, pri, every, pre, src, n, f, st, pace, wait⟩, [], 0⟩).m.pre, .str (g q ⟨⟨id, pri, every, pre, src, n, f, st, pace, wait⟩, [], 0⟩).m.src, .ro (g q ⟨⟨id, pri, every, pre, src, n, f, st, pace, wait⟩, [], 0⟩).m.n 1 (g q ⟨⟨id, pri, every, pre, src, n, f, st, pace, wait⟩, [], 0⟩).m.f, .int .i64 (g q ⟨⟨id, pri, every, pre, src, n, f, st, pace, wait⟩, [], 0⟩).m.st, .int .i64 (g q ⟨⟨id, pri, every, pre, src, n, f, st, pace, wait⟩, [], 0⟩).m.pace, .int .i64 (g q ⟨⟨id, pri, every, pre, src, n, f, st, pace, wait⟩, [], 0⟩).m.wait, .ro (g q ⟨⟨id, pri, every, pre, src, n, f, st, pace, wait⟩, [], 0⟩).k 5 (rowsOf 5 (g q ⟨⟨id, pri, every, pre, src, n, f, st, pace, wait⟩, [], 0⟩).out)]) [.dead]
  | [.agg [.int .i64 id, .int .i64 pri, .int .i64 every, .bool pre, .str src, .ro n 1 f, .int .i64 st, .int .i64 pace, .int .i64 wait, .ro k 5 u], .int .i64 q], [] => B ⟨⟨id, pri, every, pre, src, n, f, st, pace, wait⟩, (List.range k).flatMap u, k⟩ ∧ K (.agg [.int .i64 (g q ⟨⟨id, pri, every, pre, src, n, f, st, pace, wait⟩, (List.range k).flatMap u, k⟩).m.id, .int .i64 (g q ⟨⟨id, pri, every, pre, src, n, f, st, pace, wait⟩, (List.range k).flatMap u, k⟩).m.pri, .int .i64 (g q ⟨⟨id, pri, every, pre, src, n, f, st, pace, wait⟩, (List.range k).flatMap u, k⟩).m.every, .bool (g q ⟨⟨id, pri, every, pre, src, n, f, st, pace, wait⟩, (List.range k).flatMap u, k⟩).m.pre, .str (g q ⟨⟨id, pri, every, pre, src, n, f, st, pace, wait⟩, (List.range k).flatMap u, k⟩).m.src, .ro (g q ⟨⟨id, pri, every, pre, src, n, f, st, pace, wait⟩, (List.range k).flatMap u, k⟩).m.n 1 (g q ⟨⟨id, pri, every, pre, src, n, f, st, pace, wait⟩, (List.range k).flatMap u, k⟩).m.f, .int .i64 (g q ⟨⟨id, pri, every, pre, src, n, f, st, pace, wait⟩, (List.range k).flatMap u, k⟩).m.st, .int .i64 (g q ⟨⟨id, pri, every, pre, src, n, f, st, pace, wait⟩, (List.range k).flatMap u, k⟩).m.pace, .int .i64 (g q ⟨⟨id, pri, every, pre, src, n, f, st, pace, wait⟩, (List.range k).flatMap u, k⟩).m.wait, .ro (g q ⟨⟨id, pri, every, pre, src, n, f, st, pace, wait⟩, (List.range k).flatMap u, k⟩).k 5 (rowsOf 5 (g q ⟨⟨id, pri, every, pre, src, n, f, st, pace, wait⟩, (List.range k).flatMap u, k⟩).out)]) [.dead]
  | _, _ => False
def rfTakeRow : Srow := fun args H K => match args, H with
  | [.agg [.int .i64 id, .int .i64 pri, .int .i64 every, .bool pre, .str src, .ro n 1 f, .int .i64 st, .int .i64 pace, .int .i64 wait, .nilS], .str s, .agg [.int .i64 i, .int .i64 p, .int .i64 e, .ro m 1 uu]], [] => VB ⟨⟨id, pri, every, pre, src, n, f, st, pace, wait⟩, [], 0⟩ ∧ K (.agg [.int .i64 (vrTake s ⟨i, p, e, []⟩ ⟨⟨id, pri, every, pre, src, n, f, st, pace, wait⟩, [], 0⟩).m.id, .int .i64 (vrTake s ⟨i, p, e, []⟩ ⟨⟨id, pri, every, pre, src, n, f, st, pace, wait⟩, [], 0⟩).m.pri, .int .i64 (vrTake s ⟨i, p, e, []⟩ ⟨⟨id, pri, every, pre, src, n, f, st, pace, wait⟩, [], 0⟩).m.every, .bool (vrTake s ⟨i, p, e, []⟩ ⟨⟨id, pri, every, pre, src, n, f, st, pace, wait⟩, [], 0⟩).m.pre, .str (vrTake s ⟨i, p, e, []⟩ ⟨⟨id, pri, every, pre, src, n, f, st, pace, wait⟩, [], 0⟩).m.src, .ro (vrTake s ⟨i, p, e, []⟩ ⟨⟨id, pri, every, pre, src, n, f, st, pace, wait⟩, [], 0⟩).m.n 1 (vrTake s ⟨i, p, e, []⟩ ⟨⟨id, pri, every, pre, src, n, f, st, pace, wait⟩, [], 0⟩).m.f, .int .i64 (vrTake s ⟨i, p, e, []⟩ ⟨⟨id, pri, every, pre, src, n, f, st, pace, wait⟩, [], 0⟩).m.st, .int .i64 (vrTake s ⟨i, p, e, []⟩ ⟨⟨id, pri, every, pre, src, n, f, st, pace, wait⟩, [], 0⟩).m.pace, .int .i64 (vrTake s ⟨i, p, e, []⟩ ⟨⟨id, pri, every, pre, src, n, f, st, pace, wait⟩, [], 0⟩).m.wait, .ro (vrTake s ⟨i, p, e, []⟩ ⟨⟨id, pri, every, pre, src, n, f, st, pace, wait⟩, [], 0⟩).k 5 (rowsOf 5 (vrTake s ⟨i, p, e, []⟩ ⟨⟨id, pri, every, pre, src, n, f, st, pace, wait⟩, [], 0⟩).out)]) [.dead]
  | [.agg [.int .i64 id, .int .i64 pri, .int .i64 every, .bool pre, .str src, .ro n 1 f, .int .i64 st, .int .i64 pace, .int .i64 wait, .ro k 5 u], .str s, .agg [.int .i64 i, .int .i64 p, .int .i64 e, .ro m 1 uu]], [] => VB ⟨⟨id, pri, every, pre, src, n, f, st, pace, wait⟩, (List.range k).flatMap u, k⟩ ∧ K (.agg [.int .i64 (vrTake s ⟨i, p, e, []⟩ ⟨⟨id, pri, every, pre, src, n, f, st, pace, wait⟩, (List.range k).flatMap u, k⟩).m.id, .int .i64 (vrTake s ⟨i, p, e, []⟩ ⟨⟨id, pri, every, pre, src, n, f, st, pace, wait⟩, (List.range k).flatMap u, k⟩).m.pri, .int .i64 (vrTake s ⟨i, p, e, []⟩ ⟨⟨id, pri, every, pre, src, n, f, st, pace, wait⟩, (List.range k).flatMap u, k⟩).m.every, .bool (vrTake s ⟨i, p, e, []⟩ ⟨⟨id, pri, every, pre, src, n, f, st, pace, wait⟩, (List.range k).flatMap u, k⟩).m.pre, .str (vrTake s ⟨i, p, e, []⟩ ⟨⟨id, pri, every, pre, src, n, f, st, pace, wait⟩, (List.range k).flatMap u, k⟩).m.src, .ro (vrTake s ⟨i, p, e, []⟩ ⟨⟨id, pri, every, pre, src, n, f, st, pace, wait⟩, (List.range k).flatMap u, k⟩).m.n 1 (vrTake s ⟨i, p, e, []⟩ ⟨⟨id, pri, every, pre, src, n, f, st, pace, wait⟩, (List.range k).flatMap u, k⟩).m.f, .int .i64 (vrTake s ⟨i, p, e, []⟩ ⟨⟨id, pri, every, pre, src, n, f, st, pace, wait⟩, (List.range k).flatMap u, k⟩).m.st, .int .i64 (vrTake s ⟨i, p, e, []⟩ ⟨⟨id, pri, every, pre, src, n, f, st, pace, wait⟩, (List.range k).flatMap u, k⟩).m.pace, .int .i64 (vrTake s ⟨i, p, e, []⟩ ⟨⟨id, pri, every, pre, src, n, f, st, pace, wait⟩, (List.range k).flatMap u, k⟩).m.wait, .ro (vrTake s ⟨i, p, e, []⟩ ⟨⟨id, pri, every, pre, src, n, f, st, pace, wait⟩, (List.range k).flatMap u, k⟩).k 5 (rowsOf 5 (vrTake s ⟨i, p, e, []⟩ ⟨⟨id, pri, every, pre, src, n, f, st, pace, wait⟩, (List.range k).flatMap u, k⟩).out)]) [.dead]
  | _, _ => False
def VOkd (x : VX) : Prop := VOk x ∧ x.k + 4000 ≤ 1000000000000
def rfDoRow : Srow := fun args H K => match args, H with
  | [.agg [.int .i64 id, .int .i64 pri, .int .i64 every, .bool pre, .str src, .ro n 1 f, .int .i64 st, .int .i64 pace, .int .i64 wait, .nilS], .agg [.int .i64 kd, .int .i64 q, .str s, .int .i64 i, .int .i64 p, .int .i64 e, .ro m 1 uu]], [] => VOkd ⟨⟨id, pri, every, pre, src, n, f, st, pace, wait⟩, [], 0⟩ ∧ K (.agg [.int .i64 (vrDo kd q s ⟨i, p, e, []⟩ ⟨⟨id, pri, every, pre, src, n, f, st, pace, wait⟩, [], 0⟩).m.id, .int .i64 (vrDo kd q s ⟨i, p, e, []⟩ ⟨⟨id, pri, every, pre, src, n, f, st, pace, wait⟩, [], 0⟩).m.pri, .int .i64 (vrDo kd q s ⟨i, p, e, []⟩ ⟨⟨id, pri, every, pre, src, n, f, st, pace, wait⟩, [], 0⟩).m.every, .bool (vrDo kd q s ⟨i, p, e, []⟩ ⟨⟨id, pri, every, pre, src, n, f, st, pace, wait⟩, [], 0⟩).m.pre, .str (vrDo kd q s ⟨i, p, e, []⟩ ⟨⟨id, pri, every, pre, src, n, f, st, pace, wait⟩, [], 0⟩).m.src, .ro (vrDo kd q s ⟨i, p, e, []⟩ ⟨⟨id, pri, every, pre, src, n, f, st, pace, wait⟩, [], 0⟩).m.n 1 (vrDo kd q s ⟨i, p, e, []⟩ ⟨⟨id, pri, every, pre, src, n, f, st, pace, wait⟩, [], 0⟩).m.f, .int .i64 (vrDo kd q s ⟨i, p, e, []⟩ ⟨⟨id, pri, every, pre, src, n, f, st, pace, wait⟩, [], 0⟩).m.st, .int .i64 (vrDo kd q s ⟨i, p, e, []⟩ ⟨⟨id, pri, every, pre, src, n, f, st, pace, wait⟩, [], 0⟩).m.pace, .int .i64 (vrDo kd q s ⟨i, p, e, []⟩ ⟨⟨id, pri, every, pre, src, n, f, st, pace, wait⟩, [], 0⟩).m.wait, .ro (vrDo kd q s ⟨i, p, e, []⟩ ⟨⟨id, pri, every, pre, src, n, f, st, pace, wait⟩, [], 0⟩).k 5 (rowsOf 5 (vrDo kd q s ⟨i, p, e, []⟩ ⟨⟨id, pri, every, pre, src, n, f, st, pace, wait⟩, [], 0⟩).out)]) [.dead]
  | [.agg [.int .i64 id, .int .i64 pri, .int .i64 every, .bool pre, .str src, .ro n 1 f, .int .i64 st, .int .i64 pace, .int .i64 wait, .ro k 5 u], .agg [.int .i64 kd, .int .i64 q, .str s, .int .i64 i, .int .i64 p, .int .i64 e, .ro m 1 uu]], [] => VOkd ⟨⟨id, pri, every, pre, src, n, f, st, pace, wait⟩, (List.range k).flatMap u, k⟩ ∧ K (.agg [.int .i64 (vrDo kd q s ⟨i, p, e, []⟩ ⟨⟨id, pri, every, pre, src, n, f, st, pace, wait⟩, (List.range k).flatMap u, k⟩).m.id, .int .i64 (vrDo kd q s ⟨i, p, e, []⟩ ⟨⟨id, pri, every, pre, src, n, f, st, pace, wait⟩, (List.range k).flatMap u, k⟩).m.pri, .int .i64 (vrDo kd q s ⟨i, p, e, []⟩ ⟨⟨id, pri, every, pre, src, n, f, st, pace, wait⟩, (List.range k).flatMap u, k⟩).m.every, .bool (vrDo kd q s ⟨i, p, e, []⟩ ⟨⟨id, pri, every, pre, src, n, f, st, pace, wait⟩, (List.range k).flatMap u, k⟩).m.pre, .str (vrDo kd q s ⟨i, p, e, []⟩ ⟨⟨id, pri, every, pre, src, n, f, st, pace, wait⟩, (List.range k).flatMap u, k⟩).m.src, .ro (vrDo kd q s ⟨i, p, e, []⟩ ⟨⟨id, pri, every, pre, src, n, f, st, pace, wait⟩, (List.range k).flatMap u, k⟩).m.n 1 (vrDo kd q s ⟨i, p, e, []⟩ ⟨⟨id, pri, every, pre, src, n, f, st, pace, wait⟩, (List.range k).flatMap u, k⟩).m.f, .int .i64 (vrDo kd q s ⟨i, p, e, []⟩ ⟨⟨id, pri, every, pre, src, n, f, st, pace, wait⟩, (List.range k).flatMap u, k⟩).m.st, .int .i64 (vrDo kd q s ⟨i, p, e, []⟩ ⟨⟨id, pri, every, pre, src, n, f, st, pace, wait⟩, (List.range k).flatMap u, k⟩).m.pace, .int .i64 (vrDo kd q s ⟨i, p, e, []⟩ ⟨⟨id, pri, every, pre, src, n, f, st, pace, wait⟩, (List.range k).flatMap u, k⟩).m.wait, .ro (vrDo kd q s ⟨i, p, e, []⟩ ⟨⟨id, pri, every, pre, src, n, f, st, pace, wait⟩, (List.range k).flatMap u, k⟩).k 5 (rowsOf 5 (vrDo kd q s ⟨i, p, e, []⟩ ⟨⟨id, pri, every, pre, src, n, f, st, pace, wait⟩, (List.range k).flatMap u, k⟩).out)]) [.dead]
  | _, _ => False
theorem rows_flat {u : Nat → List AVal} {k : Nat} (hu : ∀ i, i < k → (u i).length = 5) : ∀ i, i < k → rowsOf 5 ((List.range k).flatMap u) i = u i := by
  have hl : ∀ j, j ≤ k → ((List.range j).flatMap u).length = j * 5 := by
    intro j
    induction j with
    | zero => intro _; simp
    | succ j ih =>
      intro hj
      rw [List.range_succ, List.flatMap_append, List.length_append, ih (by omega)]
      simp only [List.flatMap_cons, List.flatMap_nil, List.append_nil]
      rw [hu j (by omega)]; omega
  intro i hi
  have e : (List.range k).flatMap u = (List.range i).flatMap u ++ (u i ++ ((List.range (k - i - 1)).map (fun q => i + 1 + q)).flatMap u) := by
    conv => lhs; rw [show k = i + (1 + (k - i - 1)) by omega, List.range_add, List.flatMap_append, List.range_add, List.map_append, List.flatMap_append]
    simp [List.map_map, Function.comp_def, Nat.add_assoc]
  unfold rowsOf
  rw [e, ← hl i (by omega), List.drop_left, ← hu i hi, List.take_left]
theorem VE.rows {H : Hp} {k : Nat} {u : Nat → List AVal} : VE H (.ro k 5 u) (.ro k 5 (rowsOf 5 ((List.range k).flatMap u))) := by
  intro R w m x hS hv
  have h7 : ∀ i, i < k → (u i).length = 5 := by
    cases hv with
    | ro _ _ _ a c g off X h1 h2 h3 h4 h5 h6 h7 => exact h7
  exact VE.ro (fun i hi => (rows_flat h7 i hi).symm) R w m x hS hv
/-- a row that is only read, as its cells -/
theorem froze {pre cs : List AVal} {k : Nat} (hpre : closedL pre = true) (h : cs.length = k * 5) : ResLe (.agg (pre ++ [.sl 0 0 k 5])) [.flat cs] (.agg (pre ++ [.ro k 5 (rowsOf 5 cs)])) [.dead] := by
  have e := ResLe.frz (pre := pre) (cs := cs) (k := k) (sz := 5) (by omega) hpre
  rw [List.drop_zero, ← h, List.take_length] at e
  exact e
theorem padded {id pri every : Int} {pre : Bool} {src : List UInt8} {n : Nat} {f : Nat → List AVal} {st pace wait : Int} {k : Nat} {u : Nat → List AVal} : ResLe (.agg [.int .i64 id, .int .i64 pri, .int .i64 every, .bool pre, .str src, .ro n 1 f, .int .i64 st, .int .i64 pace, .int .i64 wait, .ro k 5 u]) [] (.agg [.int .i64 id, .int .i64 pri, .int .i64 every, .bool pre, .str src, .ro n 1 f, .int .i64 st, .int .i64 pace, .int .i64 wait, .ro k 5 (rowsOf 5 ((List.range k).flatMap u))]) [.dead] :=
  (ResLe.val (.agg (.cons .refl (.cons .refl (.cons .refl (.cons .refl (.cons .refl (.cons .refl (.cons .refl (.cons .refl (.cons .refl (.cons VE.rows .nil)))))))))))).trans (ResLe.pad rfl)
theorem nil_arg {id pri every : Int} {pre : Bool} {src : List UInt8} {n : Nat} {f : Nat → List AVal} {st pace wait : Int} {us : List AVal} : ArgsLe [] (.agg [.int .i64 id, .int .i64 pri, .int .i64 every, .bool pre, .str src, .ro n 1 f, .int .i64 st, .int .i64 pace, .int .i64 wait, .nilS] :: us) (.agg [.int .i64 id, .int .i64 pri, .int .i64 every, .bool pre, .str src, .ro n 1 f, .int .i64 st, .int .i64 pace, .int .i64 wait, .ro 0 5 (fun _ => [])] :: us) :=
  .cons (.agg (.cons .refl (.cons .refl (.cons .refl (.cons .refl (.cons .refl (.cons .refl (.cons .refl (.cons .refl (.cons .refl (.cons VE.nil_ro .nil))))))))))) .refl
def ann_outriderref13_Skew : Nat → List Nat × Nat × List (List Nat)
  | 2000001 => ([], 15, [[], [0], [0, 1], [0, 1, 2], [0, 1, 2, 3], [0, 1, 2, 3, 4], [0, 1, 2, 3, 4, 5], [0, 1, 2, 3, 4, 5, 6], [0, 1, 2, 3, 4, 5, 6, 7], [0, 1, 2, 3, 4, 5, 6, 7, 8], [0, 1, 2, 3, 4, 5, 6, 7, 8, 9], [0, 1, 2, 3, 4, 5, 6, 7, 8, 9, 10], [0, 1, 2, 3, 4, 5, 6, 7, 8, 9, 10, 11], [0, 1, 2, 3, 4, 5, 6, 7, 8, 9, 10, 11, 12]])
  | _ => ([], 0, [])
set_option maxRecDepth 100000 in
theorem rfSkew_eq (p e : Int) (K : AVal → Hp → Prop) : fnP Try.prog Tvr ann_outriderref13_Skew Try.f13 [.int .i64 p, .int .i64 e] [] K = (
 brP (decide (p < (0 : Int)) || decide ((255 : Int) < p) || decide (e < (1 : Int)) || decide ((4095 : Int) < e))
 (K (AVal.int IntKind.i64 (0 : Int)) [])
 (I64 ((256 : Int) * e) ∧
 I64 (p * e) ∧
 I64 ((256 : Int) * e - p * e) ∧
 ((256 : Int) ≠ (0 : Int) ∧ I64 (Int.tdiv ((256 : Int) * e - p * e) (256 : Int))) ∧
 K (AVal.int IntKind.i64 (Int.tdiv ((256 : Int) * e - p * e) (256 : Int))) [])) := by kernel_rfl
attribute [local irreducible] fnP in
theorem outriderref13_Skew_p : ∀ args H K, skewRow args H K → fnP Try.prog Tvr ann_outriderref13_Skew Try.f13 args H K := by
  intro args H K h
  unfold skewRow at h
  split at h
  · rename_i p e
    rw [rfSkew_eq]
    unfold vrSkew at h
    refine brP_i (fun hc => ?_) (fun hc => ?_) <;> simp only [Bool.and_eq_true, Bool.or_eq_true, Bool.and_eq_false_iff, Bool.or_eq_false_iff, decide_eq_true_eq, decide_eq_false_iff_not, Bool.not_eq_true', Bool.not_eq_false', Bool.not_true, Bool.not_false, Bool.true_and, Bool.and_true, Bool.false_or, Bool.or_false, beq_iff_eq, beq_eq_false_iff_ne, ne_eq] at hc
    · rw [if_pos (by omega)] at h; exact h
    · rw [if_neg (by omega)] at h
      have h1 : 0 ≤ (256 - p) * e := Int.mul_nonneg (by omega) (by omega)
      have h2 : (256 - p) * e ≤ 256 * 4095 := Int.mul_le_mul (by omega) (by omega) (by omega) (by omega)
      have h3 : 0 ≤ p * e := Int.mul_nonneg (by omega) (by omega)
      have h4 : p * e ≤ 256 * 4095 := Int.mul_le_mul (by omega) (by omega) (by omega) (by omega)
      have h5 : 256 * e - p * e = (256 - p) * e := by rw [Int.sub_mul]
      rw [h5, Int.tdiv_eq_ediv_of_nonneg h1]
      generalize (256 - p) * e = z at *
      generalize p * e = y at *
      exact ⟨by unfold I64; omega, by unfold I64; omega, by unfold I64; omega, ⟨by omega, by unfold I64; omega⟩, h⟩
  · exact h.elim
def Tvq1 : Specs := ext Tvr 13 (skewRow)
theorem Tvq1_sound : TSound Try.prog Tvq1 := ext_sound Tvr_sound (row_of Tvr_sound mixed Try.func13 (by decide +kernel) outriderref13_Skew_p)
def ann_outriderref13_says : Nat → List Nat × Nat × List (List Nat)
  | _ => ([], 0, [])
def Tvq2 : Specs := ext Tvq1 37 (fnP Try.prog Tvq1 ann_outriderref13_says Try.f37)
theorem Tvq2_sound : TSound Try.prog Tvq2 := ext_sound Tvq1_sound (fn_row Tvq1_sound mixed Try.func37 (by decide +kernel))
def ann_outriderref13_does : Nat → List Nat × Nat × List (List Nat)
  | _ => ([], 0, [])
def Tvq3 : Specs := ext Tvq2 61 (fnP Try.prog Tvq2 ann_outriderref13_does Try.f61)
theorem Tvq3_sound : TSound Try.prog Tvq3 := ext_sound Tvq2_sound (fn_row Tvq2_sound mixed Try.func61 (by decide +kernel))
def ann_outriderref13_Down : Nat → List Nat × Nat × List (List Nat)
  | 1 => ([], 15, [[], [0], [], [2], [0, 1, 2, 3], [], [5], [0, 1, 2, 3, 4, 5, 6], [], [8], [8, 9], [], [11], [8, 9, 10, 11, 12], [0, 1, 2, 3, 4, 5, 6, 7, 8, 9, 10, 11, 12, 13]])
  | _ => ([], 0, [])
def Tvq4 : Specs := ext Tvq3 25 (fnP Try.prog Tvq3 ann_outriderref13_Down Try.f25)
theorem Tvq4_sound : TSound Try.prog Tvq4 := ext_sound Tvq3_sound (fn_row Tvq3_sound mixed Try.func25 (by decide +kernel))
def ann_outriderref13_say : Nat → List Nat × Nat × List (List Nat)
  | 1 => ([], 7, [[], [], [1], [], [1, 2, 3], [1, 2, 3, 4], [0, 1, 2, 3, 4, 5]])
  | _ => ([], 0, [])
set_option maxRecDepth 100000 in
theorem rfSay_eq (q : Int) (id pri every : Int) (pre : Bool) (src : List UInt8) (n : Nat) (f : Nat → List AVal) (st pace wait : Int) (k : Nat) (u : Nat → List AVal) (K : AVal → Hp → Prop) : fnP Try.prog Tvq4 ann_outriderref13_say Try.f54 [.agg [.int .i64 id, .int .i64 pri, .int .i64 every, .bool pre, .str src, .ro n 1 f, .int .i64 st, .int .i64 pace, .int .i64 wait, .ro k 5 u], .int .i64 q] [] K = (
 (((0 : Nat) + k) * (56 : Nat) ≤ (140737488355328 : Nat) ∧ (0 : Nat) = (0 : Nat)) ∧
 (((0 : Nat) + k + (1 : Nat)) * (56 : Nat) ≤ (140737488355328 : Nat) ∧
 List.length (List.flatMap u (List.range k)) = ((0 : Nat) + k) * (5 : Nat)) ∧
 K
 (AVal.agg
 [AVal.int IntKind.i64 id, AVal.int IntKind.i64 pri, AVal.int IntKind.i64 every, AVal.bool pre, AVal.str src,
 AVal.ro n (1 : Nat) f, AVal.int IntKind.i64 st, AVal.int IntKind.i64 pace, AVal.int IntKind.i64 every,
 AVal.sl (0 : Nat) (0 : Nat) ((0 : Nat) + k + (1 : Nat)) (5 : Nat)])
 [ABlk.flat
 (List.flatMap u (List.range k) ++
 [AVal.int IntKind.i64 (1 : Int), AVal.int IntKind.i64 id, AVal.int IntKind.i64 q, AVal.int IntKind.i64 every,
 AVal.ro n (1 : Nat) f])]) := by kernel_rfl
attribute [local irreducible] fnP in
theorem rfSay_core (q : Int) (id pri every : Int) (pre : Bool) (src : List UInt8) (n : Nat) (f : Nat → List AVal) (st pace wait : Int) (k : Nat) (u : Nat → List AVal) (K : AVal → Hp → Prop) (hb : VB ⟨⟨id, pri, every, pre, src, n, f, st, pace, wait⟩, (List.range k).flatMap u, k⟩) (hK : K (.agg [.int .i64 (vrSay q ⟨⟨id, pri, every, pre, src, n, f, st, pace, wait⟩, (List.range k).flatMap u, k⟩).m.id, .int .i64 (vrSay q ⟨⟨id, pri, every, pre, src, n, f, st, pace, wait⟩, (List.range k).flatMap u, k⟩).m.pri, .int .i64 (vrSay q ⟨⟨id, pri, every, pre, src, n, f, st, pace, wait⟩, (List.range k).flatMap u, k⟩).m.every, .bool (vrSay q ⟨⟨id, pri, every, pre, src, n, f, st, pace, wait⟩, (List.range k).flatMap u, k⟩).m.pre, .str (vrSay q ⟨⟨id, pri, every, pre, src, n, f, st, pace, wait⟩, (List.range k).flatMap u, k⟩).m.src, .ro (vrSay q ⟨⟨id, pri, every, pre, src, n, f, st, pace, wait⟩, (List.range k).flatMap u, k⟩).m.n 1 (vrSay q ⟨⟨id, pri, every, pre, src, n, f, st, pace, wait⟩, (List.range k).flatMap u, k⟩).m.f, .int .i64 (vrSay q ⟨⟨id, pri, every, pre, src, n, f, st, pace, wait⟩, (List.range k).flatMap u, k⟩).m.st, .int .i64 (vrSay q ⟨⟨id, pri, every, pre, src, n, f, st, pace, wait⟩, (List.range k).flatMap u, k⟩).m.pace, .int .i64 (vrSay q ⟨⟨id, pri, every, pre, src, n, f, st, pace, wait⟩, (List.range k).flatMap u, k⟩).m.wait, .ro (vrSay q ⟨⟨id, pri, every, pre, src, n, f, st, pace, wait⟩, (List.range k).flatMap u, k⟩).k 5 (rowsOf 5 (vrSay q ⟨⟨id, pri, every, pre, src, n, f, st, pace, wait⟩, (List.range k).flatMap u, k⟩).out)]) [.dead]) :
    fnP Try.prog Tvq4 ann_outriderref13_say Try.f54 [.agg [.int .i64 id, .int .i64 pri, .int .i64 every, .bool pre, .str src, .ro n 1 f, .int .i64 st, .int .i64 pace, .int .i64 wait, .ro k 5 u], .int .i64 q] [] (fun v H' => ∃ v2 H2, ResLe v H' v2 H2 ∧ K v2 H2) := by
  rw [rfSay_eq]
  have hl := hb.len
  have hk := hb.k
  simp only at hl hk
  have e := froze (pre := [.int .i64 id, .int .i64 pri, .int .i64 every, .bool pre, .str src, .ro n 1 f, .int .i64 st, .int .i64 pace, .int .i64 every]) (cs := (List.range k).flatMap u ++ evSay ⟨id, pri, every, pre, src, n, f, st, pace, wait⟩ q) (k := 0 + k + 1) rfl (by rw [List.length_append, hl, evSay_len]; omega)
  rw [Nat.zero_add] at e ⊢
  exact ⟨⟨by omega, rfl⟩, ⟨by omega, hl⟩, _, _, e, hK⟩
theorem outriderref13_say_p : ∀ args H K, rfRowI VB vrSay args H K → ∃ args', ArgsLe H args args' ∧ fnP Try.prog Tvq4 ann_outriderref13_say Try.f54 args' H (fun v H' => ∃ v2 H2, ResLe v H' v2 H2 ∧ K v2 H2) := by
  intro args H K h
  unfold rfRowI at h
  split at h
  · exact ⟨_, nil_arg, rfSay_core _ _ _ _ _ _ _ _ _ _ _ 0 (fun _ => []) K h.1 h.2⟩
  · exact ⟨_, .refl, rfSay_core _ _ _ _ _ _ _ _ _ _ _ _ _ K h.1 h.2⟩
  · exact h.elim
def Tvq5 : Specs := ext Tvq4 54 (rfRowI VB vrSay)
theorem Tvq5_sound : TSound Try.prog Tvq5 := ext_sound Tvq4_sound (row_weak Tvq4_sound mixed Try.func54 (by decide +kernel) outriderref13_say_p)
def ann_outriderref13_follow : Nat → List Nat × Nat × List (List Nat)
  | _ => ([], 0, [])
set_option maxRecDepth 100000 in
theorem rfFol_eq (q : Int) (id pri every : Int) (pre : Bool) (src : List UInt8) (n : Nat) (f : Nat → List AVal) (st pace wait : Int) (k : Nat) (u : Nat → List AVal) (K : AVal → Hp → Prop) : fnP Try.prog Tvq5 ann_outriderref13_follow Try.f53 [.agg [.int .i64 id, .int .i64 pri, .int .i64 every, .bool pre, .str src, .ro n 1 f, .int .i64 st, .int .i64 pace, .int .i64 wait, .ro k 5 u], .int .i64 q] [] K = (
 brP (decide (q < (1 : Int)))
 (I64 (2 : Int) ∧
 I64 (3 : Int) ∧
 I64 ((3 : Int) + vrSkew pri (1 : Int)) ∧
 K
 (AVal.agg
 [AVal.int IntKind.i64 id, AVal.int IntKind.i64 pri, AVal.int IntKind.i64 every, AVal.bool pre, AVal.str src,
 AVal.ro n (1 : Nat) f, AVal.int IntKind.i64 (2 : Int), AVal.int IntKind.i64 (1 : Int),
 AVal.int IntKind.i64 ((3 : Int) + vrSkew pri (1 : Int)), AVal.ro k (5 : Nat) u])
 [])
 (brP (decide ((4095 : Int) < q))
 (I64 (8190 : Int) ∧
 I64 (12285 : Int) ∧
 I64 ((12285 : Int) + vrSkew pri (4095 : Int)) ∧
 K
 (AVal.agg
 [AVal.int IntKind.i64 id, AVal.int IntKind.i64 pri, AVal.int IntKind.i64 every, AVal.bool pre, AVal.str src,
 AVal.ro n (1 : Nat) f, AVal.int IntKind.i64 (2 : Int), AVal.int IntKind.i64 (4095 : Int),
 AVal.int IntKind.i64 ((12285 : Int) + vrSkew pri (4095 : Int)), AVal.ro k (5 : Nat) u])
 [])
 (I64 (q + q) ∧
 I64 (q + q + q) ∧
 I64 (q + q + q + vrSkew pri q) ∧
 K
 (AVal.agg
 [AVal.int IntKind.i64 id, AVal.int IntKind.i64 pri, AVal.int IntKind.i64 every, AVal.bool pre, AVal.str src,
 AVal.ro n (1 : Nat) f, AVal.int IntKind.i64 (2 : Int), AVal.int IntKind.i64 q,
 AVal.int IntKind.i64 (q + q + q + vrSkew pri q), AVal.ro k (5 : Nat) u])
 []))) := by kernel_rfl
attribute [local irreducible] fnP in
theorem rfFol_core (q : Int) (id pri every : Int) (pre : Bool) (src : List UInt8) (n : Nat) (f : Nat → List AVal) (st pace wait : Int) (k : Nat) (u : Nat → List AVal) (K : AVal → Hp → Prop) (hb : VB ⟨⟨id, pri, every, pre, src, n, f, st, pace, wait⟩, (List.range k).flatMap u, k⟩) (hK : K (.agg [.int .i64 (vrFollow q ⟨⟨id, pri, every, pre, src, n, f, st, pace, wait⟩, (List.range k).flatMap u, k⟩).m.id, .int .i64 (vrFollow q ⟨⟨id, pri, every, pre, src, n, f, st, pace, wait⟩, (List.range k).flatMap u, k⟩).m.pri, .int .i64 (vrFollow q ⟨⟨id, pri, every, pre, src, n, f, st, pace, wait⟩, (List.range k).flatMap u, k⟩).m.every, .bool (vrFollow q ⟨⟨id, pri, every, pre, src, n, f, st, pace, wait⟩, (List.range k).flatMap u, k⟩).m.pre, .str (vrFollow q ⟨⟨id, pri, every, pre, src, n, f, st, pace, wait⟩, (List.range k).flatMap u, k⟩).m.src, .ro (vrFollow q ⟨⟨id, pri, every, pre, src, n, f, st, pace, wait⟩, (List.range k).flatMap u, k⟩).m.n 1 (vrFollow q ⟨⟨id, pri, every, pre, src, n, f, st, pace, wait⟩, (List.range k).flatMap u, k⟩).m.f, .int .i64 (vrFollow q ⟨⟨id, pri, every, pre, src, n, f, st, pace, wait⟩, (List.range k).flatMap u, k⟩).m.st, .int .i64 (vrFollow q ⟨⟨id, pri, every, pre, src, n, f, st, pace, wait⟩, (List.range k).flatMap u, k⟩).m.pace, .int .i64 (vrFollow q ⟨⟨id, pri, every, pre, src, n, f, st, pace, wait⟩, (List.range k).flatMap u, k⟩).m.wait, .ro (vrFollow q ⟨⟨id, pri, every, pre, src, n, f, st, pace, wait⟩, (List.range k).flatMap u, k⟩).k 5 (rowsOf 5 (vrFollow q ⟨⟨id, pri, every, pre, src, n, f, st, pace, wait⟩, (List.range k).flatMap u, k⟩).out)]) [.dead]) :
    fnP Try.prog Tvq5 ann_outriderref13_follow Try.f53 [.agg [.int .i64 id, .int .i64 pri, .int .i64 every, .bool pre, .str src, .ro n 1 f, .int .i64 st, .int .i64 pace, .int .i64 wait, .ro k 5 u], .int .i64 q] [] (fun v H' => ∃ v2 H2, ResLe v H' v2 H2 ∧ K v2 H2) := by
  rw [rfFol_eq]
  have h0 := vrPace_bd q
  have h1 := vrSkew_bd pri (vrPace q)
  have hv : vrFollow q ⟨⟨id, pri, every, pre, src, n, f, st, pace, wait⟩, (List.range k).flatMap u, k⟩ = ⟨⟨id, pri, every, pre, src, n, f, 2, vrPace q, 3 * vrPace q + vrSkew pri (vrPace q)⟩, (List.range k).flatMap u, k⟩ := rfl
  rw [hv] at hK
  have hp : vrPace q = if 4095 < (if q < 1 then 1 else q) then 4095 else (if q < 1 then 1 else q) := rfl
  refine brP_d (fun hc => ?_) (fun hc => brP_d (fun hd => ?_) (fun hd => ?_))
  · rw [if_pos hc, if_neg (by omega)] at hp
    rw [hp] at hK h1
    exact ⟨by unfold I64; omega, by unfold I64; omega, by unfold I64; omega, _, _, padded, hK⟩
  · rw [if_neg hc, if_pos hd] at hp
    rw [hp] at hK h1
    exact ⟨by unfold I64; omega, by unfold I64; omega, by unfold I64; omega, _, _, padded, hK⟩
  · rw [if_neg hc, if_neg hd] at hp
    rw [hp] at hK h1
    rw [show q + q + q = 3 * q by omega]
    exact ⟨by unfold I64; omega, by unfold I64; omega, by unfold I64; omega, _, _, padded, hK⟩
theorem outriderref13_follow_p : ∀ args H K, rfRowI VB vrFollow args H K → ∃ args', ArgsLe H args args' ∧ fnP Try.prog Tvq5 ann_outriderref13_follow Try.f53 args' H (fun v H' => ∃ v2 H2, ResLe v H' v2 H2 ∧ K v2 H2) := by
  intro args H K h
  unfold rfRowI at h
  split at h
  · exact ⟨_, nil_arg, rfFol_core _ _ _ _ _ _ _ _ _ _ _ 0 (fun _ => []) K h.1 h.2⟩
  · exact ⟨_, .refl, rfFol_core _ _ _ _ _ _ _ _ _ _ _ _ _ K h.1 h.2⟩
  · exact h.elim
def Tvq6 : Specs := ext Tvq5 53 (rfRowI VB vrFollow)
theorem Tvq6_sound : TSound Try.prog Tvq6 := ext_sound Tvq5_sound (row_weak Tvq5_sound mixed Try.func53 (by decide +kernel) outriderref13_follow_p)
def ann_outriderref13_lead : Nat → List Nat × Nat × List (List Nat)
  | _ => ([], 0, [])
set_option maxRecDepth 100000 in
theorem rfLead_eq (id pri every : Int) (pre : Bool) (src : List UInt8) (n : Nat) (f : Nat → List AVal) (st pace wait : Int) (k : Nat) (u : Nat → List AVal) (K : AVal → Hp → Prop) : fnP Try.prog Tvq6 ann_outriderref13_lead Try.f52 [.agg [.int .i64 id, .int .i64 pri, .int .i64 every, .bool pre, .str src, .ro n 1 f, .int .i64 st, .int .i64 pace, .int .i64 wait, .ro k 5 u]] [] K = (
 VB (VX.mk (VM.mk id pri every pre src n f st pace wait) (List.flatMap u (List.range k)) k) ∧
 (((0 : Nat) + (vrSay pri (VX.mk (VM.mk id pri every pre src n f st pace wait) (List.flatMap u (List.range k)) k)).k) *
 (56 : Nat) ≤
 (140737488355328 : Nat) ∧
 (0 : Nat) = (0 : Nat)) ∧
 (((0 : Nat) + (vrSay pri (VX.mk (VM.mk id pri every pre src n f st pace wait) (List.flatMap u (List.range k)) k)).k +
 (1 : Nat)) *
 (56 : Nat) ≤
 (140737488355328 : Nat) ∧
 List.length
 (List.flatMap
 (rowsOf (5 : Nat)
 (vrSay pri (VX.mk (VM.mk id pri every pre src n f st pace wait) (List.flatMap u (List.range k)) k)).out)
 (List.range
 (vrSay pri (VX.mk (VM.mk id pri every pre src n f st pace wait) (List.flatMap u (List.range k)) k)).k)) =
 ((0 : Nat) +
 (vrSay pri (VX.mk (VM.mk id pri every pre src n f st pace wait) (List.flatMap u (List.range k)) k)).k) *
 (5 : Nat)) ∧
 K
 (AVal.agg
 [AVal.int IntKind.i64
 (vrSay pri (VX.mk (VM.mk id pri every pre src n f st pace wait) (List.flatMap u (List.range k)) k)).m.id,
 AVal.int IntKind.i64
 (vrSay pri (VX.mk (VM.mk id pri every pre src n f st pace wait) (List.flatMap u (List.range k)) k)).m.pri,
 AVal.int IntKind.i64
 (vrSay pri (VX.mk (VM.mk id pri every pre src n f st pace wait) (List.flatMap u (List.range k)) k)).m.every,
 AVal.bool
 (vrSay pri (VX.mk (VM.mk id pri every pre src n f st pace wait) (List.flatMap u (List.range k)) k)).m.pre,
 AVal.str
 (vrSay pri (VX.mk (VM.mk id pri every pre src n f st pace wait) (List.flatMap u (List.range k)) k)).m.src,
 AVal.ro (vrSay pri (VX.mk (VM.mk id pri every pre src n f st pace wait) (List.flatMap u (List.range k)) k)).m.n
 (1 : Nat)
 (vrSay pri (VX.mk (VM.mk id pri every pre src n f st pace wait) (List.flatMap u (List.range k)) k)).m.f,
 AVal.int IntKind.i64 (3 : Int),
 AVal.int IntKind.i64
 (vrSay pri (VX.mk (VM.mk id pri every pre src n f st pace wait) (List.flatMap u (List.range k)) k)).m.pace,
 AVal.int IntKind.i64
 (vrSay pri (VX.mk (VM.mk id pri every pre src n f st pace wait) (List.flatMap u (List.range k)) k)).m.wait,
 AVal.sl (0 : Nat) (0 : Nat)
 ((0 : Nat) +
 (vrSay pri (VX.mk (VM.mk id pri every pre src n f st pace wait) (List.flatMap u (List.range k)) k)).k +
 (1 : Nat))
 (5 : Nat)])
 [ABlk.flat
 (List.flatMap
 (rowsOf (5 : Nat)
 (vrSay pri (VX.mk (VM.mk id pri every pre src n f st pace wait) (List.flatMap u (List.range k)) k)).out)
 (List.range
 (vrSay pri (VX.mk (VM.mk id pri every pre src n f st pace wait) (List.flatMap u (List.range k)) k)).k) ++
 [AVal.int IntKind.i64 (2 : Int), AVal.int IntKind.i64 (0 : Int), AVal.int IntKind.i64 (0 : Int),
 AVal.int IntKind.i64 (0 : Int), AVal.nilS])]) := by kernel_rfl
attribute [local irreducible] fnP in
theorem rfLead_core (id pri every : Int) (pre : Bool) (src : List UInt8) (n : Nat) (f : Nat → List AVal) (st pace wait : Int) (k : Nat) (u : Nat → List AVal) (K : AVal → Hp → Prop) (hb : VB ⟨⟨id, pri, every, pre, src, n, f, st, pace, wait⟩, (List.range k).flatMap u, k⟩) (hK : K (.agg [.int .i64 (vrLead ⟨⟨id, pri, every, pre, src, n, f, st, pace, wait⟩, (List.range k).flatMap u, k⟩).m.id, .int .i64 (vrLead ⟨⟨id, pri, every, pre, src, n, f, st, pace, wait⟩, (List.range k).flatMap u, k⟩).m.pri, .int .i64 (vrLead ⟨⟨id, pri, every, pre, src, n, f, st, pace, wait⟩, (List.range k).flatMap u, k⟩).m.every, .bool (vrLead ⟨⟨id, pri, every, pre, src, n, f, st, pace, wait⟩, (List.range k).flatMap u, k⟩).m.pre, .str (vrLead ⟨⟨id, pri, every, pre, src, n, f, st, pace, wait⟩, (List.range k).flatMap u, k⟩).m.src, .ro (vrLead ⟨⟨id, pri, every, pre, src, n, f, st, pace, wait⟩, (List.range k).flatMap u, k⟩).m.n 1 (vrLead ⟨⟨id, pri, every, pre, src, n, f, st, pace, wait⟩, (List.range k).flatMap u, k⟩).m.f, .int .i64 (vrLead ⟨⟨id, pri, every, pre, src, n, f, st, pace, wait⟩, (List.range k).flatMap u, k⟩).m.st, .int .i64 (vrLead ⟨⟨id, pri, every, pre, src, n, f, st, pace, wait⟩, (List.range k).flatMap u, k⟩).m.pace, .int .i64 (vrLead ⟨⟨id, pri, every, pre, src, n, f, st, pace, wait⟩, (List.range k).flatMap u, k⟩).m.wait, .ro (vrLead ⟨⟨id, pri, every, pre, src, n, f, st, pace, wait⟩, (List.range k).flatMap u, k⟩).k 5 (rowsOf 5 (vrLead ⟨⟨id, pri, every, pre, src, n, f, st, pace, wait⟩, (List.range k).flatMap u, k⟩).out)]) [.dead]) :
    fnP Try.prog Tvq6 ann_outriderref13_lead Try.f52 [.agg [.int .i64 id, .int .i64 pri, .int .i64 every, .bool pre, .str src, .ro n 1 f, .int .i64 st, .int .i64 pace, .int .i64 wait, .ro k 5 u]] [] (fun v H' => ∃ v2 H2, ResLe v H' v2 H2 ∧ K v2 H2) := by
  rw [rfLead_eq]
  have hl := hb.len
  have hk := hb.k
  simp only at hl hk
  have hy : (vrSay pri ⟨⟨id, pri, every, pre, src, n, f, st, pace, wait⟩, (List.range k).flatMap u, k⟩).out.length = (k + 1) * 5 := by show ((List.range k).flatMap u ++ evSay ⟨id, pri, every, pre, src, n, f, st, pace, wait⟩ pri).length = _; rw [List.length_append, hl, evSay_len]; omega
  have hyk : (vrSay pri ⟨⟨id, pri, every, pre, src, n, f, st, pace, wait⟩, (List.range k).flatMap u, k⟩).k = k + 1 := rfl
  rw [hyk, flat_rows hy, hy]
  have hv : (vrLead ⟨⟨id, pri, every, pre, src, n, f, st, pace, wait⟩, (List.range k).flatMap u, k⟩).out = (vrSay pri ⟨⟨id, pri, every, pre, src, n, f, st, pace, wait⟩, (List.range k).flatMap u, k⟩).out ++ evClaim := by
    show (List.range k).flatMap u ++ (evSay ⟨id, pri, every, pre, src, n, f, st, pace, wait⟩ pri ++ evClaim) = (List.range k).flatMap u ++ evSay ⟨id, pri, every, pre, src, n, f, st, pace, wait⟩ pri ++ evClaim
    rw [List.append_assoc]
  rw [hv] at hK
  have e1 : ResLe (.agg ([.int .i64 id, .int .i64 pri, .int .i64 every, .bool pre, .str src, .ro n 1 f, .int .i64 3, .int .i64 pace, .int .i64 every] ++ [.sl 0 0 (k + 1 + 1) 5])) [.flat ((vrSay pri ⟨⟨id, pri, every, pre, src, n, f, st, pace, wait⟩, (List.range k).flatMap u, k⟩).out ++ [.int .i64 2, .int .i64 0, .int .i64 0, .int .i64 0, .nilS])] (.agg ([.int .i64 id, .int .i64 pri, .int .i64 every, .bool pre, .str src, .ro n 1 f, .int .i64 3, .int .i64 pace, .int .i64 every] ++ [.sl 0 0 (k + 1 + 1) 5])) [.flat ((vrSay pri ⟨⟨id, pri, every, pre, src, n, f, st, pace, wait⟩, (List.range k).flatMap u, k⟩).out ++ evClaim)] :=
    ResLe.flat1 (by simp [evClaim]) fun R w xs hx => claim_vl hx
  have e2 := froze (pre := [.int .i64 id, .int .i64 pri, .int .i64 every, .bool pre, .str src, .ro n 1 f, .int .i64 3, .int .i64 pace, .int .i64 every]) (cs := (vrSay pri ⟨⟨id, pri, every, pre, src, n, f, st, pace, wait⟩, (List.range k).flatMap u, k⟩).out ++ evClaim) (k := k + 1 + 1) rfl (by rw [List.length_append, hy, evClaim_len]; omega)
  simp only [Nat.zero_add]
  exact ⟨hb, ⟨by omega, trivial⟩, ⟨by omega, trivial⟩, _, _, e1.trans e2, hK⟩
theorem outriderref13_lead_p : ∀ args H K, rfRow VB vrLead args H K → ∃ args', ArgsLe H args args' ∧ fnP Try.prog Tvq6 ann_outriderref13_lead Try.f52 args' H (fun v H' => ∃ v2 H2, ResLe v H' v2 H2 ∧ K v2 H2) := by
  intro args H K h
  unfold rfRow at h
  split at h
  · exact ⟨_, nil_arg, rfLead_core _ _ _ _ _ _ _ _ _ _ 0 (fun _ => []) K h.1 h.2⟩
  · exact ⟨_, .refl, rfLead_core _ _ _ _ _ _ _ _ _ _ _ _ K h.1 h.2⟩
  · exact h.elim
def Tvq7 : Specs := ext Tvq6 52 (rfRow VB vrLead)
theorem Tvq7_sound : TSound Try.prog Tvq7 := ext_sound Tvq6_sound (row_weak Tvq6_sound mixed Try.func52 (by decide +kernel) outriderref13_lead_p)
def ann_outriderref13_Start : Nat → List Nat × Nat × List (List Nat)
  | _ => ([], 0, [])
set_option maxRecDepth 100000 in
theorem rfStart_eq (id pri every : Int) (pre : Bool) (src : List UInt8) (n : Nat) (f : Nat → List AVal) (st pace wait : Int) (k : Nat) (u : Nat → List AVal) (K : AVal → Hp → Prop) : fnP Try.prog Tvq7 ann_outriderref13_Start Try.f38 [.agg [.int .i64 id, .int .i64 pri, .int .i64 every, .bool pre, .str src, .ro n 1 f, .int .i64 st, .int .i64 pace, .int .i64 wait, .ro k 5 u]] [] K = (
 brP (!decide (st = (1 : Int)))
 (K
 (AVal.agg
 [AVal.int IntKind.i64 id, AVal.int IntKind.i64 pri, AVal.int IntKind.i64 every, AVal.bool pre, AVal.str src,
 AVal.ro n (1 : Nat) f, AVal.int IntKind.i64 st, AVal.int IntKind.i64 pace, AVal.int IntKind.i64 wait,
 AVal.ro k (5 : Nat) u])
 [])
 (brP (decide (pri = (255 : Int)))
 (VB (VX.mk (VM.mk id pri every pre src n f st pace wait) (List.flatMap u (List.range k)) k) ∧
 K
 (AVal.agg
 [AVal.int IntKind.i64
 (vrLead (VX.mk (VM.mk id pri every pre src n f st pace wait) (List.flatMap u (List.range k)) k)).m.id,
 AVal.int IntKind.i64
 (vrLead (VX.mk (VM.mk id pri every pre src n f st pace wait) (List.flatMap u (List.range k)) k)).m.pri,
 AVal.int IntKind.i64
 (vrLead (VX.mk (VM.mk id pri every pre src n f st pace wait) (List.flatMap u (List.range k)) k)).m.every,
 AVal.bool (vrLead (VX.mk (VM.mk id pri every pre src n f st pace wait) (List.flatMap u (List.range k)) k)).m.pre,
 AVal.str (vrLead (VX.mk (VM.mk id pri every pre src n f st pace wait) (List.flatMap u (List.range k)) k)).m.src,
 AVal.ro (vrLead (VX.mk (VM.mk id pri every pre src n f st pace wait) (List.flatMap u (List.range k)) k)).m.n
 (1 : Nat) (vrLead (VX.mk (VM.mk id pri every pre src n f st pace wait) (List.flatMap u (List.range k)) k)).m.f,
 AVal.int IntKind.i64
 (vrLead (VX.mk (VM.mk id pri every pre src n f st pace wait) (List.flatMap u (List.range k)) k)).m.st,
 AVal.int IntKind.i64
 (vrLead (VX.mk (VM.mk id pri every pre src n f st pace wait) (List.flatMap u (List.range k)) k)).m.pace,
 AVal.int IntKind.i64
 (vrLead (VX.mk (VM.mk id pri every pre src n f st pace wait) (List.flatMap u (List.range k)) k)).m.wait,
 AVal.ro (vrLead (VX.mk (VM.mk id pri every pre src n f st pace wait) (List.flatMap u (List.range k)) k)).k
 (5 : Nat)
 (rowsOf (5 : Nat)
 (vrLead (VX.mk (VM.mk id pri every pre src n f st pace wait) (List.flatMap u (List.range k)) k)).out)])
 [])
 (VB (VX.mk (VM.mk id pri every pre src n f st pace wait) (List.flatMap u (List.range k)) k) ∧
 K
 (AVal.agg
 [AVal.int IntKind.i64
 (vrFollow every (VX.mk (VM.mk id pri every pre src n f st pace wait) (List.flatMap u (List.range k)) k)).m.id,
 AVal.int IntKind.i64
 (vrFollow every (VX.mk (VM.mk id pri every pre src n f st pace wait) (List.flatMap u (List.range k)) k)).m.pri,
 AVal.int IntKind.i64
 (vrFollow every
 (VX.mk (VM.mk id pri every pre src n f st pace wait) (List.flatMap u (List.range k)) k)).m.every,
 AVal.bool
 (vrFollow every (VX.mk (VM.mk id pri every pre src n f st pace wait) (List.flatMap u (List.range k)) k)).m.pre,
 AVal.str
 (vrFollow every (VX.mk (VM.mk id pri every pre src n f st pace wait) (List.flatMap u (List.range k)) k)).m.src,
 AVal.ro
 (vrFollow every (VX.mk (VM.mk id pri every pre src n f st pace wait) (List.flatMap u (List.range k)) k)).m.n
 (1 : Nat)
 (vrFollow every (VX.mk (VM.mk id pri every pre src n f st pace wait) (List.flatMap u (List.range k)) k)).m.f,
 AVal.int IntKind.i64
 (vrFollow every (VX.mk (VM.mk id pri every pre src n f st pace wait) (List.flatMap u (List.range k)) k)).m.st,
 AVal.int IntKind.i64
 (vrFollow every (VX.mk (VM.mk id pri every pre src n f st pace wait) (List.flatMap u (List.range k)) k)).m.pace,
 AVal.int IntKind.i64
 (vrFollow every (VX.mk (VM.mk id pri every pre src n f st pace wait) (List.flatMap u (List.range k)) k)).m.wait,
 AVal.ro
 (vrFollow every (VX.mk (VM.mk id pri every pre src n f st pace wait) (List.flatMap u (List.range k)) k)).k
 (5 : Nat)
 (rowsOf (5 : Nat)
 (vrFollow every (VX.mk (VM.mk id pri every pre src n f st pace wait) (List.flatMap u (List.range k)) k)).out)])
 []))) := by kernel_rfl
attribute [local irreducible] fnP in
theorem rfStart_core (id pri every : Int) (pre : Bool) (src : List UInt8) (n : Nat) (f : Nat → List AVal) (st pace wait : Int) (k : Nat) (u : Nat → List AVal) (K : AVal → Hp → Prop) (hb : VB ⟨⟨id, pri, every, pre, src, n, f, st, pace, wait⟩, (List.range k).flatMap u, k⟩) (hK : K (.agg [.int .i64 (vrStart ⟨⟨id, pri, every, pre, src, n, f, st, pace, wait⟩, (List.range k).flatMap u, k⟩).m.id, .int .i64 (vrStart ⟨⟨id, pri, every, pre, src, n, f, st, pace, wait⟩, (List.range k).flatMap u, k⟩).m.pri, .int .i64 (vrStart ⟨⟨id, pri, every, pre, src, n, f, st, pace, wait⟩, (List.range k).flatMap u, k⟩).m.every, .bool (vrStart ⟨⟨id, pri, every, pre, src, n, f, st, pace, wait⟩, (List.range k).flatMap u, k⟩).m.pre, .str (vrStart ⟨⟨id, pri, every, pre, src, n, f, st, pace, wait⟩, (List.range k).flatMap u, k⟩).m.src, .ro (vrStart ⟨⟨id, pri, every, pre, src, n, f, st, pace, wait⟩, (List.range k).flatMap u, k⟩).m.n 1 (vrStart ⟨⟨id, pri, every, pre, src, n, f, st, pace, wait⟩, (List.range k).flatMap u, k⟩).m.f, .int .i64 (vrStart ⟨⟨id, pri, every, pre, src, n, f, st, pace, wait⟩, (List.range k).flatMap u, k⟩).m.st, .int .i64 (vrStart ⟨⟨id, pri, every, pre, src, n, f, st, pace, wait⟩, (List.range k).flatMap u, k⟩).m.pace, .int .i64 (vrStart ⟨⟨id, pri, every, pre, src, n, f, st, pace, wait⟩, (List.range k).flatMap u, k⟩).m.wait, .ro (vrStart ⟨⟨id, pri, every, pre, src, n, f, st, pace, wait⟩, (List.range k).flatMap u, k⟩).k 5 (rowsOf 5 (vrStart ⟨⟨id, pri, every, pre, src, n, f, st, pace, wait⟩, (List.range k).flatMap u, k⟩).out)]) [.dead]) :
    fnP Try.prog Tvq7 ann_outriderref13_Start Try.f38 [.agg [.int .i64 id, .int .i64 pri, .int .i64 every, .bool pre, .str src, .ro n 1 f, .int .i64 st, .int .i64 pace, .int .i64 wait, .ro k 5 u]] [] (fun v H' => ∃ v2 H2, ResLe v H' v2 H2 ∧ K v2 H2) := by
  rw [rfStart_eq]
  refine brP_nd (fun hc => ?_) (fun hc => brP_d (fun hp => ⟨hb, ?_⟩) (fun hp => ⟨hb, ?_⟩))
  · rw [show vrStart ⟨⟨id, pri, every, pre, src, n, f, st, pace, wait⟩, (List.range k).flatMap u, k⟩ = ⟨⟨id, pri, every, pre, src, n, f, st, pace, wait⟩, (List.range k).flatMap u, k⟩ from if_pos hc] at hK
    exact ⟨_, _, padded, hK⟩
  · rw [show vrStart ⟨⟨id, pri, every, pre, src, n, f, st, pace, wait⟩, (List.range k).flatMap u, k⟩ = vrLead ⟨⟨id, pri, every, pre, src, n, f, st, pace, wait⟩, (List.range k).flatMap u, k⟩ from by unfold vrStart; rw [if_neg (by simpa using hc), if_pos hp]] at hK
    exact ⟨_, _, .pad rfl, hK⟩
  · rw [show vrStart ⟨⟨id, pri, every, pre, src, n, f, st, pace, wait⟩, (List.range k).flatMap u, k⟩ = vrFollow every ⟨⟨id, pri, every, pre, src, n, f, st, pace, wait⟩, (List.range k).flatMap u, k⟩ from by unfold vrStart; rw [if_neg (by simpa using hc), if_neg hp]] at hK
    exact ⟨_, _, .pad rfl, hK⟩
theorem outriderref13_Start_p : ∀ args H K, rfRow VB vrStart args H K → ∃ args', ArgsLe H args args' ∧ fnP Try.prog Tvq7 ann_outriderref13_Start Try.f38 args' H (fun v H' => ∃ v2 H2, ResLe v H' v2 H2 ∧ K v2 H2) := by
  intro args H K h
  unfold rfRow at h
  split at h
  · exact ⟨_, nil_arg, rfStart_core _ _ _ _ _ _ _ _ _ _ 0 (fun _ => []) K h.1 h.2⟩
  · exact ⟨_, .refl, rfStart_core _ _ _ _ _ _ _ _ _ _ _ _ K h.1 h.2⟩
  · exact h.elim
def Tvq8 : Specs := ext Tvq7 38 (rfRow VB vrStart)
theorem Tvq8_sound : TSound Try.prog Tvq8 := ext_sound Tvq7_sound (row_weak Tvq7_sound mixed Try.func38 (by decide +kernel) outriderref13_Start_p)
def ann_outriderref13_Stop : Nat → List Nat × Nat × List (List Nat)
  | _ => ([], 0, [])
set_option maxRecDepth 100000 in
theorem rfStop_eq (id pri every : Int) (pre : Bool) (src : List UInt8) (n : Nat) (f : Nat → List AVal) (st pace wait : Int) (k : Nat) (u : Nat → List AVal) (K : AVal → Hp → Prop) : fnP Try.prog Tvq8 ann_outriderref13_Stop Try.f39 [.agg [.int .i64 id, .int .i64 pri, .int .i64 every, .bool pre, .str src, .ro n 1 f, .int .i64 st, .int .i64 pace, .int .i64 wait, .ro k 5 u]] [] K = (
 brP (decide (st = (3 : Int)))
 (VB (VX.mk (VM.mk id pri every pre src n f st pace wait) (List.flatMap u (List.range k)) k) ∧
 K
 (AVal.agg
 [AVal.int IntKind.i64
 (vrSay (0 : Int) (VX.mk (VM.mk id pri every pre src n f st pace wait) (List.flatMap u (List.range k)) k)).m.id,
 AVal.int IntKind.i64
 (vrSay (0 : Int) (VX.mk (VM.mk id pri every pre src n f st pace wait) (List.flatMap u (List.range k)) k)).m.pri,
 AVal.int IntKind.i64
 (vrSay (0 : Int)
 (VX.mk (VM.mk id pri every pre src n f st pace wait) (List.flatMap u (List.range k)) k)).m.every,
 AVal.bool
 (vrSay (0 : Int) (VX.mk (VM.mk id pri every pre src n f st pace wait) (List.flatMap u (List.range k)) k)).m.pre,
 AVal.str
 (vrSay (0 : Int) (VX.mk (VM.mk id pri every pre src n f st pace wait) (List.flatMap u (List.range k)) k)).m.src,
 AVal.ro
 (vrSay (0 : Int) (VX.mk (VM.mk id pri every pre src n f st pace wait) (List.flatMap u (List.range k)) k)).m.n
 (1 : Nat)
 (vrSay (0 : Int) (VX.mk (VM.mk id pri every pre src n f st pace wait) (List.flatMap u (List.range k)) k)).m.f,
 AVal.int IntKind.i64 (1 : Int),
 AVal.int IntKind.i64
 (vrSay (0 : Int) (VX.mk (VM.mk id pri every pre src n f st pace wait) (List.flatMap u (List.range k)) k)).m.pace,
 AVal.int IntKind.i64 (0 : Int),
 AVal.ro
 (vrSay (0 : Int) (VX.mk (VM.mk id pri every pre src n f st pace wait) (List.flatMap u (List.range k)) k)).k
 (5 : Nat)
 (rowsOf (5 : Nat)
 (vrSay (0 : Int) (VX.mk (VM.mk id pri every pre src n f st pace wait) (List.flatMap u (List.range k)) k)).out)])
 [])
 (K
 (AVal.agg
 [AVal.int IntKind.i64 id, AVal.int IntKind.i64 pri, AVal.int IntKind.i64 every, AVal.bool pre, AVal.str src,
 AVal.ro n (1 : Nat) f, AVal.int IntKind.i64 (1 : Int), AVal.int IntKind.i64 pace, AVal.int IntKind.i64 (0 : Int),
 AVal.ro k (5 : Nat) u])
 [])) := by kernel_rfl
attribute [local irreducible] fnP in
theorem rfStop_core (id pri every : Int) (pre : Bool) (src : List UInt8) (n : Nat) (f : Nat → List AVal) (st pace wait : Int) (k : Nat) (u : Nat → List AVal) (K : AVal → Hp → Prop) (hb : VB ⟨⟨id, pri, every, pre, src, n, f, st, pace, wait⟩, (List.range k).flatMap u, k⟩) (hK : K (.agg [.int .i64 (vrStop ⟨⟨id, pri, every, pre, src, n, f, st, pace, wait⟩, (List.range k).flatMap u, k⟩).m.id, .int .i64 (vrStop ⟨⟨id, pri, every, pre, src, n, f, st, pace, wait⟩, (List.range k).flatMap u, k⟩).m.pri, .int .i64 (vrStop ⟨⟨id, pri, every, pre, src, n, f, st, pace, wait⟩, (List.range k).flatMap u, k⟩).m.every, .bool (vrStop ⟨⟨id, pri, every, pre, src, n, f, st, pace, wait⟩, (List.range k).flatMap u, k⟩).m.pre, .str (vrStop ⟨⟨id, pri, every, pre, src, n, f, st, pace, wait⟩, (List.range k).flatMap u, k⟩).m.src, .ro (vrStop ⟨⟨id, pri, every, pre, src, n, f, st, pace, wait⟩, (List.range k).flatMap u, k⟩).m.n 1 (vrStop ⟨⟨id, pri, every, pre, src, n, f, st, pace, wait⟩, (List.range k).flatMap u, k⟩).m.f, .int .i64 (vrStop ⟨⟨id, pri, every, pre, src, n, f, st, pace, wait⟩, (List.range k).flatMap u, k⟩).m.st, .int .i64 (vrStop ⟨⟨id, pri, every, pre, src, n, f, st, pace, wait⟩, (List.range k).flatMap u, k⟩).m.pace, .int .i64 (vrStop ⟨⟨id, pri, every, pre, src, n, f, st, pace, wait⟩, (List.range k).flatMap u, k⟩).m.wait, .ro (vrStop ⟨⟨id, pri, every, pre, src, n, f, st, pace, wait⟩, (List.range k).flatMap u, k⟩).k 5 (rowsOf 5 (vrStop ⟨⟨id, pri, every, pre, src, n, f, st, pace, wait⟩, (List.range k).flatMap u, k⟩).out)]) [.dead]) :
    fnP Try.prog Tvq8 ann_outriderref13_Stop Try.f39 [.agg [.int .i64 id, .int .i64 pri, .int .i64 every, .bool pre, .str src, .ro n 1 f, .int .i64 st, .int .i64 pace, .int .i64 wait, .ro k 5 u]] [] (fun v H' => ∃ v2 H2, ResLe v H' v2 H2 ∧ K v2 H2) := by
  rw [rfStop_eq]
  refine brP_d (fun hc => ⟨hb, ?_⟩) (fun hc => ?_)
  · rw [show vrStop ⟨⟨id, pri, every, pre, src, n, f, st, pace, wait⟩, (List.range k).flatMap u, k⟩ = vrSet 1 0 (vrSay 0 ⟨⟨id, pri, every, pre, src, n, f, st, pace, wait⟩, (List.range k).flatMap u, k⟩) from by unfold vrStop; rw [if_pos hc]] at hK
    exact ⟨_, _, .pad rfl, hK⟩
  · rw [show vrStop ⟨⟨id, pri, every, pre, src, n, f, st, pace, wait⟩, (List.range k).flatMap u, k⟩ = vrSet 1 0 ⟨⟨id, pri, every, pre, src, n, f, st, pace, wait⟩, (List.range k).flatMap u, k⟩ from by unfold vrStop; rw [if_neg hc]] at hK
    exact ⟨_, _, padded, hK⟩
theorem outriderref13_Stop_p : ∀ args H K, rfRow VB vrStop args H K → ∃ args', ArgsLe H args args' ∧ fnP Try.prog Tvq8 ann_outriderref13_Stop Try.f39 args' H (fun v H' => ∃ v2 H2, ResLe v H' v2 H2 ∧ K v2 H2) := by
  intro args H K h
  unfold rfRow at h
  split at h
  · exact ⟨_, nil_arg, rfStop_core _ _ _ _ _ _ _ _ _ _ 0 (fun _ => []) K h.1 h.2⟩
  · exact ⟨_, .refl, rfStop_core _ _ _ _ _ _ _ _ _ _ _ _ K h.1 h.2⟩
  · exact h.elim
def Tvq9 : Specs := ext Tvq8 39 (rfRow VB vrStop)
theorem Tvq9_sound : TSound Try.prog Tvq9 := ext_sound Tvq8_sound (row_weak Tvq8_sound mixed Try.func39 (by decide +kernel) outriderref13_Stop_p)
def ann_outriderref13_Tick : Nat → List Nat × Nat × List (List Nat)
  | _ => ([], 0, [])
set_option maxRecDepth 100000 in
theorem rfTick_eq (id pri every : Int) (pre : Bool) (src : List UInt8) (n : Nat) (f : Nat → List AVal) (st pace wait : Int) (k : Nat) (u : Nat → List AVal) (K : AVal → Hp → Prop) : fnP Try.prog Tvq9 ann_outriderref13_Tick Try.f40 [.agg [.int .i64 id, .int .i64 pri, .int .i64 every, .bool pre, .str src, .ro n 1 f, .int .i64 st, .int .i64 pace, .int .i64 wait, .ro k 5 u]] [] K = (
 brP (decide (st = (1 : Int)))
 (K
 (AVal.agg
 [AVal.int IntKind.i64 id, AVal.int IntKind.i64 pri, AVal.int IntKind.i64 every, AVal.bool pre, AVal.str src,
 AVal.ro n (1 : Nat) f, AVal.int IntKind.i64 st, AVal.int IntKind.i64 pace, AVal.int IntKind.i64 wait,
 AVal.ro k (5 : Nat) u])
 [])
 (I64 (wait - (1 : Int)) ∧
 brP (decide ((0 : Int) < wait - (1 : Int)))
 (K
 (AVal.agg
 [AVal.int IntKind.i64 id, AVal.int IntKind.i64 pri, AVal.int IntKind.i64 every, AVal.bool pre, AVal.str src,
 AVal.ro n (1 : Nat) f, AVal.int IntKind.i64 st, AVal.int IntKind.i64 pace,
 AVal.int IntKind.i64 (wait - (1 : Int)), AVal.ro k (5 : Nat) u])
 [])
 (brP (decide (st = (2 : Int)))
 (VB (VX.mk (VM.mk id pri every pre src n f st pace (wait - (1 : Int))) (List.flatMap u (List.range k)) k) ∧
 K
 (AVal.agg
 [AVal.int IntKind.i64
 (vrLead
 (VX.mk (VM.mk id pri every pre src n f st pace (wait - (1 : Int))) (List.flatMap u (List.range k))
 k)).m.id,
 AVal.int IntKind.i64
 (vrLead
 (VX.mk (VM.mk id pri every pre src n f st pace (wait - (1 : Int))) (List.flatMap u (List.range k))
 k)).m.pri,
 AVal.int IntKind.i64
 (vrLead
 (VX.mk (VM.mk id pri every pre src n f st pace (wait - (1 : Int))) (List.flatMap u (List.range k))
 k)).m.every,
 AVal.bool
 (vrLead
 (VX.mk (VM.mk id pri every pre src n f st pace (wait - (1 : Int))) (List.flatMap u (List.range k))
 k)).m.pre,
 AVal.str
 (vrLead
 (VX.mk (VM.mk id pri every pre src n f st pace (wait - (1 : Int))) (List.flatMap u (List.range k))
 k)).m.src,
 AVal.ro
 (vrLead
 (VX.mk (VM.mk id pri every pre src n f st pace (wait - (1 : Int))) (List.flatMap u (List.range k)) k)).m.n
 (1 : Nat)
 (vrLead
 (VX.mk (VM.mk id pri every pre src n f st pace (wait - (1 : Int))) (List.flatMap u (List.range k)) k)).m.f,
 AVal.int IntKind.i64
 (vrLead
 (VX.mk (VM.mk id pri every pre src n f st pace (wait - (1 : Int))) (List.flatMap u (List.range k))
 k)).m.st,
 AVal.int IntKind.i64
 (vrLead
 (VX.mk (VM.mk id pri every pre src n f st pace (wait - (1 : Int))) (List.flatMap u (List.range k))
 k)).m.pace,
 AVal.int IntKind.i64
 (vrLead
 (VX.mk (VM.mk id pri every pre src n f st pace (wait - (1 : Int))) (List.flatMap u (List.range k))
 k)).m.wait,
 AVal.ro
 (vrLead
 (VX.mk (VM.mk id pri every pre src n f st pace (wait - (1 : Int))) (List.flatMap u (List.range k)) k)).k
 (5 : Nat)
 (rowsOf (5 : Nat)
 (vrLead
 (VX.mk (VM.mk id pri every pre src n f st pace (wait - (1 : Int))) (List.flatMap u (List.range k))
 k)).out)])
 [])
 (VB (VX.mk (VM.mk id pri every pre src n f st pace (wait - (1 : Int))) (List.flatMap u (List.range k)) k) ∧
 K
 (AVal.agg
 [AVal.int IntKind.i64
 (vrSay pri
 (VX.mk (VM.mk id pri every pre src n f st pace (wait - (1 : Int))) (List.flatMap u (List.range k))
 k)).m.id,
 AVal.int IntKind.i64
 (vrSay pri
 (VX.mk (VM.mk id pri every pre src n f st pace (wait - (1 : Int))) (List.flatMap u (List.range k))
 k)).m.pri,
 AVal.int IntKind.i64
 (vrSay pri
 (VX.mk (VM.mk id pri every pre src n f st pace (wait - (1 : Int))) (List.flatMap u (List.range k))
 k)).m.every,
 AVal.bool
 (vrSay pri
 (VX.mk (VM.mk id pri every pre src n f st pace (wait - (1 : Int))) (List.flatMap u (List.range k))
 k)).m.pre,
 AVal.str
 (vrSay pri
 (VX.mk (VM.mk id pri every pre src n f st pace (wait - (1 : Int))) (List.flatMap u (List.range k))
 k)).m.src,
 AVal.ro
 (vrSay pri
 (VX.mk (VM.mk id pri every pre src n f st pace (wait - (1 : Int))) (List.flatMap u (List.range k)) k)).m.n
 (1 : Nat)
 (vrSay pri
 (VX.mk (VM.mk id pri every pre src n f st pace (wait - (1 : Int))) (List.flatMap u (List.range k)) k)).m.f,
 AVal.int IntKind.i64
 (vrSay pri
 (VX.mk (VM.mk id pri every pre src n f st pace (wait - (1 : Int))) (List.flatMap u (List.range k))
 k)).m.st,
 AVal.int IntKind.i64
 (vrSay pri
 (VX.mk (VM.mk id pri every pre src n f st pace (wait - (1 : Int))) (List.flatMap u (List.range k))
 k)).m.pace,
 AVal.int IntKind.i64
 (vrSay pri
 (VX.mk (VM.mk id pri every pre src n f st pace (wait - (1 : Int))) (List.flatMap u (List.range k))
 k)).m.wait,
 AVal.ro
 (vrSay pri
 (VX.mk (VM.mk id pri every pre src n f st pace (wait - (1 : Int))) (List.flatMap u (List.range k)) k)).k
 (5 : Nat)
 (rowsOf (5 : Nat)
 (vrSay pri
 (VX.mk (VM.mk id pri every pre src n f st pace (wait - (1 : Int))) (List.flatMap u (List.range k))
 k)).out)])
 [])))) := by kernel_rfl
attribute [local irreducible] fnP in
theorem rfTick_core (id pri every : Int) (pre : Bool) (src : List UInt8) (n : Nat) (f : Nat → List AVal) (st pace wait : Int) (k : Nat) (u : Nat → List AVal) (K : AVal → Hp → Prop) (hb : VBw ⟨⟨id, pri, every, pre, src, n, f, st, pace, wait⟩, (List.range k).flatMap u, k⟩) (hK : K (.agg [.int .i64 (vrTick ⟨⟨id, pri, every, pre, src, n, f, st, pace, wait⟩, (List.range k).flatMap u, k⟩).m.id, .int .i64 (vrTick ⟨⟨id, pri, every, pre, src, n, f, st, pace, wait⟩, (List.range k).flatMap u, k⟩).m.pri, .int .i64 (vrTick ⟨⟨id, pri, every, pre, src, n, f, st, pace, wait⟩, (List.range k).flatMap u, k⟩).m.every, .bool (vrTick ⟨⟨id, pri, every, pre, src, n, f, st, pace, wait⟩, (List.range k).flatMap u, k⟩).m.pre, .str (vrTick ⟨⟨id, pri, every, pre, src, n, f, st, pace, wait⟩, (List.range k).flatMap u, k⟩).m.src, .ro (vrTick ⟨⟨id, pri, every, pre, src, n, f, st, pace, wait⟩, (List.range k).flatMap u, k⟩).m.n 1 (vrTick ⟨⟨id, pri, every, pre, src, n, f, st, pace, wait⟩, (List.range k).flatMap u, k⟩).m.f, .int .i64 (vrTick ⟨⟨id, pri, every, pre, src, n, f, st, pace, wait⟩, (List.range k).flatMap u, k⟩).m.st, .int .i64 (vrTick ⟨⟨id, pri, every, pre, src, n, f, st, pace, wait⟩, (List.range k).flatMap u, k⟩).m.pace, .int .i64 (vrTick ⟨⟨id, pri, every, pre, src, n, f, st, pace, wait⟩, (List.range k).flatMap u, k⟩).m.wait, .ro (vrTick ⟨⟨id, pri, every, pre, src, n, f, st, pace, wait⟩, (List.range k).flatMap u, k⟩).k 5 (rowsOf 5 (vrTick ⟨⟨id, pri, every, pre, src, n, f, st, pace, wait⟩, (List.range k).flatMap u, k⟩).out)]) [.dead]) :
    fnP Try.prog Tvq9 ann_outriderref13_Tick Try.f40 [.agg [.int .i64 id, .int .i64 pri, .int .i64 every, .bool pre, .str src, .ro n 1 f, .int .i64 st, .int .i64 pace, .int .i64 wait, .ro k 5 u]] [] (fun v H' => ∃ v2 H2, ResLe v H' v2 H2 ∧ K v2 H2) := by
  rw [rfTick_eq]
  obtain ⟨hb, hw0⟩ := hb
  simp only at hw0
  refine brP_d (fun hc => ?_) (fun hc => ⟨by unfold I64; omega, brP_d (fun hw => ?_) (fun hw => brP_d (fun hs => ⟨?_, ?_⟩) (fun hs => ⟨?_, ?_⟩))⟩)
  · rw [show vrTick ⟨⟨id, pri, every, pre, src, n, f, st, pace, wait⟩, (List.range k).flatMap u, k⟩ = ⟨⟨id, pri, every, pre, src, n, f, st, pace, wait⟩, (List.range k).flatMap u, k⟩ from if_pos hc] at hK
    exact ⟨_, _, padded, hK⟩
  · rw [show vrTick ⟨⟨id, pri, every, pre, src, n, f, st, pace, wait⟩, (List.range k).flatMap u, k⟩ = vrSet st (wait - 1) ⟨⟨id, pri, every, pre, src, n, f, st, pace, wait⟩, (List.range k).flatMap u, k⟩ from by unfold vrTick; rw [if_neg hc, if_pos hw]] at hK
    exact ⟨_, _, padded, hK⟩
  · exact ⟨hb.every, hb.pri, hb.pace, hb.st, hb.n, hb.len, hb.k⟩
  · rw [show vrTick ⟨⟨id, pri, every, pre, src, n, f, st, pace, wait⟩, (List.range k).flatMap u, k⟩ = vrLead ⟨⟨id, pri, every, pre, src, n, f, st, pace, wait⟩, (List.range k).flatMap u, k⟩ from by unfold vrTick; rw [if_neg hc, if_neg hw, if_pos hs]] at hK
    exact ⟨_, _, .pad rfl, hK⟩
  · exact ⟨hb.every, hb.pri, hb.pace, hb.st, hb.n, hb.len, hb.k⟩
  · rw [show vrTick ⟨⟨id, pri, every, pre, src, n, f, st, pace, wait⟩, (List.range k).flatMap u, k⟩ = vrSay pri ⟨⟨id, pri, every, pre, src, n, f, st, pace, wait⟩, (List.range k).flatMap u, k⟩ from by unfold vrTick; rw [if_neg hc, if_neg hw, if_neg hs]] at hK
    exact ⟨_, _, .pad rfl, hK⟩
theorem outriderref13_Tick_p : ∀ args H K, rfRow VBw vrTick args H K → ∃ args', ArgsLe H args args' ∧ fnP Try.prog Tvq9 ann_outriderref13_Tick Try.f40 args' H (fun v H' => ∃ v2 H2, ResLe v H' v2 H2 ∧ K v2 H2) := by
  intro args H K h
  unfold rfRow at h
  split at h
  · exact ⟨_, nil_arg, rfTick_core _ _ _ _ _ _ _ _ _ _ 0 (fun _ => []) K h.1 h.2⟩
  · exact ⟨_, .refl, rfTick_core _ _ _ _ _ _ _ _ _ _ _ _ K h.1 h.2⟩
  · exact h.elim
def Tvq10 : Specs := ext Tvq9 40 (rfRow VBw vrTick)
theorem Tvq10_sound : TSound Try.prog Tvq10 := ext_sound Tvq9_sound (row_weak Tvq9_sound mixed Try.func40 (by decide +kernel) outriderref13_Tick_p)
def ann_outriderref13_Take : Nat → List Nat × Nat × List (List Nat)
  | 2000001 => ([], 12, [[], [0], [0, 1], [0, 1, 2], [0, 1, 2, 3], [0, 1, 2, 3, 4], [0, 1, 2, 3, 4, 5], [0, 1, 2, 3, 4, 5, 6], [0, 1, 2, 3, 4, 5, 6, 7], [0, 1, 2, 3, 4, 5, 6, 7, 8], [0, 1, 2, 3, 4, 5, 6, 7, 8, 9]])
  | 2000010 => ([], 22, [[], [0], [0, 1], [0, 1, 2], [0, 1, 2, 3], [0, 1, 2, 3, 4], [0, 1, 2, 3, 4, 5], [0, 1, 2, 3, 4, 5, 6], [0, 1, 2, 3, 4, 5, 6, 7], [0, 1, 2, 3, 4, 5, 6, 7, 8], [0, 1, 2, 3, 4, 5, 6, 7, 8, 9], [0, 1, 2, 3, 4, 5, 6, 7, 8, 9, 10], [0, 1, 2, 3, 4, 5, 6, 7, 8, 9, 10, 11], [0, 1, 2, 3, 4, 5, 6, 7, 8, 9, 10, 11, 12], [0, 1, 2, 3, 4, 5, 6, 7, 8, 9, 10, 11, 12, 13], [0, 1, 2, 3, 4, 5, 6, 7, 8, 9, 10, 11, 12, 13, 14], [0, 1, 2, 3, 4, 5, 6, 7, 8, 9, 10, 11, 12, 13, 14, 15], [0, 1, 2, 3, 4, 5, 6, 7, 8, 9, 10, 11, 12, 13, 14, 15, 16], [0, 1, 2, 3, 4, 5, 6, 7, 8, 9, 10, 11, 12, 13, 14, 15, 16, 17], [0, 1, 2, 3, 4, 5, 6, 7, 8, 9, 10, 11, 12, 13, 14, 15, 16, 17, 18], [0, 1, 2, 3, 4, 5, 6, 7, 8, 9, 10, 11, 12, 13, 14, 15, 16, 17, 18, 19]])
  | 2000011 => ([], 7, [[], [0], [0, 1], [0, 1, 2], [0, 1, 2, 3], [0, 1, 2, 3, 4]])
  | 2000013 => ([], 18, [[], [0], [0, 1], [0, 1, 2], [0, 1, 2, 3], [0, 1, 2, 3, 4], [0, 1, 2, 3, 4, 5], [0, 1, 2, 3, 4, 5, 6], [0, 1, 2, 3, 4, 5, 6, 7], [0, 1, 2, 3, 4, 5, 6, 7, 8], [0, 1, 2, 3, 4, 5, 6, 7, 8, 9], [0, 1, 2, 3, 4, 5, 6, 7, 8, 9, 10], [0, 1, 2, 3, 4, 5, 6, 7, 8, 9, 10, 11], [0, 1, 2, 3, 4, 5, 6, 7, 8, 9, 10, 11, 12], [0, 1, 2, 3, 4, 5, 6, 7, 8, 9, 10, 11, 12, 13], [0, 1, 2, 3, 4, 5, 6, 7, 8, 9, 10, 11, 12, 13, 14], [0, 1, 2, 3, 4, 5, 6, 7, 8, 9, 10, 11, 12, 13, 14, 15]])
  | _ => ([], 0, [])
set_option maxRecDepth 100000 in
theorem rfTake_eq (s : List UInt8) (i p e : Int) (m : Nat) (uu : Nat → List AVal) (id pri every : Int) (pre : Bool) (src : List UInt8) (n : Nat) (f : Nat → List AVal) (st pace wait : Int) (k : Nat) (u : Nat → List AVal) (K : AVal → Hp → Prop) : fnP Try.prog Tvq10 ann_outriderref13_Take Try.f41 [.agg [.int .i64 id, .int .i64 pri, .int .i64 every, .bool pre, .str src, .ro n 1 f, .int .i64 st, .int .i64 pace, .int .i64 wait, .ro k 5 u], .str s, .agg [.int .i64 i, .int .i64 p, .int .i64 e, .ro m 1 uu]] [] K = (
 brP (decide (st = (1 : Int)) || !decide (i = id))
 (K
 (AVal.agg
 [AVal.int IntKind.i64 id, AVal.int IntKind.i64 pri, AVal.int IntKind.i64 every, AVal.bool pre, AVal.str src,
 AVal.ro n (1 : Nat) f, AVal.int IntKind.i64 st, AVal.int IntKind.i64 pace, AVal.int IntKind.i64 wait,
 AVal.ro k (5 : Nat) u])
 [])
 (brP (decide (p = (0 : Int)))
 (brP (decide (st = (3 : Int)))
 (VB (VX.mk (VM.mk id pri every pre src n f st pace wait) (List.flatMap u (List.range k)) k) ∧
 K
 (AVal.agg
 [AVal.int IntKind.i64
 (vrSay pri (VX.mk (VM.mk id pri every pre src n f st pace wait) (List.flatMap u (List.range k)) k)).m.id,
 AVal.int IntKind.i64
 (vrSay pri (VX.mk (VM.mk id pri every pre src n f st pace wait) (List.flatMap u (List.range k)) k)).m.pri,
 AVal.int IntKind.i64
 (vrSay pri (VX.mk (VM.mk id pri every pre src n f st pace wait) (List.flatMap u (List.range k)) k)).m.every,
 AVal.bool
 (vrSay pri (VX.mk (VM.mk id pri every pre src n f st pace wait) (List.flatMap u (List.range k)) k)).m.pre,
 AVal.str
 (vrSay pri (VX.mk (VM.mk id pri every pre src n f st pace wait) (List.flatMap u (List.range k)) k)).m.src,
 AVal.ro (vrSay pri (VX.mk (VM.mk id pri every pre src n f st pace wait) (List.flatMap u (List.range k)) k)).m.n
 (1 : Nat)
 (vrSay pri (VX.mk (VM.mk id pri every pre src n f st pace wait) (List.flatMap u (List.range k)) k)).m.f,
 AVal.int IntKind.i64
 (vrSay pri (VX.mk (VM.mk id pri every pre src n f st pace wait) (List.flatMap u (List.range k)) k)).m.st,
 AVal.int IntKind.i64
 (vrSay pri (VX.mk (VM.mk id pri every pre src n f st pace wait) (List.flatMap u (List.range k)) k)).m.pace,
 AVal.int IntKind.i64
 (vrSay pri (VX.mk (VM.mk id pri every pre src n f st pace wait) (List.flatMap u (List.range k)) k)).m.wait,
 AVal.ro (vrSay pri (VX.mk (VM.mk id pri every pre src n f st pace wait) (List.flatMap u (List.range k)) k)).k
 (5 : Nat)
 (rowsOf (5 : Nat)
 (vrSay pri (VX.mk (VM.mk id pri every pre src n f st pace wait) (List.flatMap u (List.range k)) k)).out)])
 [])
 (brP (decide (vrSkew pri pace < (1 : Int)))
 (K
 (AVal.agg
 [AVal.int IntKind.i64 id, AVal.int IntKind.i64 pri, AVal.int IntKind.i64 every, AVal.bool pre, AVal.str src,
 AVal.ro n (1 : Nat) f, AVal.int IntKind.i64 st, AVal.int IntKind.i64 pace, AVal.int IntKind.i64 (1 : Int),
 AVal.ro k (5 : Nat) u])
 [])
 (K
 (AVal.agg
 [AVal.int IntKind.i64 id, AVal.int IntKind.i64 pri, AVal.int IntKind.i64 every, AVal.bool pre, AVal.str src,
 AVal.ro n (1 : Nat) f, AVal.int IntKind.i64 st, AVal.int IntKind.i64 pace,
 AVal.int IntKind.i64 (vrSkew pri pace), AVal.ro k (5 : Nat) u])
 [])))
 (brP (decide (st = (3 : Int)) && (decide (pri < p) || decide (p = pri) && !(Op.bytesLess s src || decide (s = src))))
 (VB (VX.mk (VM.mk id pri every pre src n f st pace wait) (List.flatMap u (List.range k)) k) ∧
 K
 (AVal.agg
 [AVal.int IntKind.i64
 (vrFollow e (VX.mk (VM.mk id pri every pre src n f st pace wait) (List.flatMap u (List.range k)) k)).m.id,
 AVal.int IntKind.i64
 (vrFollow e (VX.mk (VM.mk id pri every pre src n f st pace wait) (List.flatMap u (List.range k)) k)).m.pri,
 AVal.int IntKind.i64
 (vrFollow e (VX.mk (VM.mk id pri every pre src n f st pace wait) (List.flatMap u (List.range k)) k)).m.every,
 AVal.bool
 (vrFollow e (VX.mk (VM.mk id pri every pre src n f st pace wait) (List.flatMap u (List.range k)) k)).m.pre,
 AVal.str
 (vrFollow e (VX.mk (VM.mk id pri every pre src n f st pace wait) (List.flatMap u (List.range k)) k)).m.src,
 AVal.ro (vrFollow e (VX.mk (VM.mk id pri every pre src n f st pace wait) (List.flatMap u (List.range k)) k)).m.n
 (1 : Nat)
 (vrFollow e (VX.mk (VM.mk id pri every pre src n f st pace wait) (List.flatMap u (List.range k)) k)).m.f,
 AVal.int IntKind.i64
 (vrFollow e (VX.mk (VM.mk id pri every pre src n f st pace wait) (List.flatMap u (List.range k)) k)).m.st,
 AVal.int IntKind.i64
 (vrFollow e (VX.mk (VM.mk id pri every pre src n f st pace wait) (List.flatMap u (List.range k)) k)).m.pace,
 AVal.int IntKind.i64
 (vrFollow e (VX.mk (VM.mk id pri every pre src n f st pace wait) (List.flatMap u (List.range k)) k)).m.wait,
 AVal.ro (vrFollow e (VX.mk (VM.mk id pri every pre src n f st pace wait) (List.flatMap u (List.range k)) k)).k
 (5 : Nat)
 (rowsOf (5 : Nat)
 (vrFollow e (VX.mk (VM.mk id pri every pre src n f st pace wait) (List.flatMap u (List.range k)) k)).out)])
 [])
 (brP (decide (st = (2 : Int)) && (!pre || decide (pri ≤ p)))
 (VB (VX.mk (VM.mk id pri every pre src n f st pace wait) (List.flatMap u (List.range k)) k) ∧
 K
 (AVal.agg
 [AVal.int IntKind.i64
 (vrFollow e (VX.mk (VM.mk id pri every pre src n f st pace wait) (List.flatMap u (List.range k)) k)).m.id,
 AVal.int IntKind.i64
 (vrFollow e (VX.mk (VM.mk id pri every pre src n f st pace wait) (List.flatMap u (List.range k)) k)).m.pri,
 AVal.int IntKind.i64
 (vrFollow e (VX.mk (VM.mk id pri every pre src n f st pace wait) (List.flatMap u (List.range k)) k)).m.every,
 AVal.bool
 (vrFollow e (VX.mk (VM.mk id pri every pre src n f st pace wait) (List.flatMap u (List.range k)) k)).m.pre,
 AVal.str
 (vrFollow e (VX.mk (VM.mk id pri every pre src n f st pace wait) (List.flatMap u (List.range k)) k)).m.src,
 AVal.ro
 (vrFollow e (VX.mk (VM.mk id pri every pre src n f st pace wait) (List.flatMap u (List.range k)) k)).m.n
 (1 : Nat)
 (vrFollow e (VX.mk (VM.mk id pri every pre src n f st pace wait) (List.flatMap u (List.range k)) k)).m.f,
 AVal.int IntKind.i64
 (vrFollow e (VX.mk (VM.mk id pri every pre src n f st pace wait) (List.flatMap u (List.range k)) k)).m.st,
 AVal.int IntKind.i64
 (vrFollow e (VX.mk (VM.mk id pri every pre src n f st pace wait) (List.flatMap u (List.range k)) k)).m.pace,
 AVal.int IntKind.i64
 (vrFollow e (VX.mk (VM.mk id pri every pre src n f st pace wait) (List.flatMap u (List.range k)) k)).m.wait,
 AVal.ro (vrFollow e (VX.mk (VM.mk id pri every pre src n f st pace wait) (List.flatMap u (List.range k)) k)).k
 (5 : Nat)
 (rowsOf (5 : Nat)
 (vrFollow e (VX.mk (VM.mk id pri every pre src n f st pace wait) (List.flatMap u (List.range k)) k)).out)])
 [])
 (K
 (AVal.agg
 [AVal.int IntKind.i64 id, AVal.int IntKind.i64 pri, AVal.int IntKind.i64 every, AVal.bool pre, AVal.str src,
 AVal.ro n (1 : Nat) f, AVal.int IntKind.i64 st, AVal.int IntKind.i64 pace, AVal.int IntKind.i64 wait,
 AVal.ro k (5 : Nat) u])
 []))))) := by kernel_rfl
attribute [local irreducible] fnP in
theorem rfTake_core (s : List UInt8) (i p e : Int) (m : Nat) (uu : Nat → List AVal) (id pri every : Int) (pre : Bool) (src : List UInt8) (n : Nat) (f : Nat → List AVal) (st pace wait : Int) (k : Nat) (u : Nat → List AVal) (K : AVal → Hp → Prop) (hb : VB ⟨⟨id, pri, every, pre, src, n, f, st, pace, wait⟩, (List.range k).flatMap u, k⟩) (hK : K (.agg [.int .i64 (vrTake s ⟨i, p, e, []⟩ ⟨⟨id, pri, every, pre, src, n, f, st, pace, wait⟩, (List.range k).flatMap u, k⟩).m.id, .int .i64 (vrTake s ⟨i, p, e, []⟩ ⟨⟨id, pri, every, pre, src, n, f, st, pace, wait⟩, (List.range k).flatMap u, k⟩).m.pri, .int .i64 (vrTake s ⟨i, p, e, []⟩ ⟨⟨id, pri, every, pre, src, n, f, st, pace, wait⟩, (List.range k).flatMap u, k⟩).m.every, .bool (vrTake s ⟨i, p, e, []⟩ ⟨⟨id, pri, every, pre, src, n, f, st, pace, wait⟩, (List.range k).flatMap u, k⟩).m.pre, .str (vrTake s ⟨i, p, e, []⟩ ⟨⟨id, pri, every, pre, src, n, f, st, pace, wait⟩, (List.range k).flatMap u, k⟩).m.src, .ro (vrTake s ⟨i, p, e, []⟩ ⟨⟨id, pri, every, pre, src, n, f, st, pace, wait⟩, (List.range k).flatMap u, k⟩).m.n 1 (vrTake s ⟨i, p, e, []⟩ ⟨⟨id, pri, every, pre, src, n, f, st, pace, wait⟩, (List.range k).flatMap u, k⟩).m.f, .int .i64 (vrTake s ⟨i, p, e, []⟩ ⟨⟨id, pri, every, pre, src, n, f, st, pace, wait⟩, (List.range k).flatMap u, k⟩).m.st, .int .i64 (vrTake s ⟨i, p, e, []⟩ ⟨⟨id, pri, every, pre, src, n, f, st, pace, wait⟩, (List.range k).flatMap u, k⟩).m.pace, .int .i64 (vrTake s ⟨i, p, e, []⟩ ⟨⟨id, pri, every, pre, src, n, f, st, pace, wait⟩, (List.range k).flatMap u, k⟩).m.wait, .ro (vrTake s ⟨i, p, e, []⟩ ⟨⟨id, pri, every, pre, src, n, f, st, pace, wait⟩, (List.range k).flatMap u, k⟩).k 5 (rowsOf 5 (vrTake s ⟨i, p, e, []⟩ ⟨⟨id, pri, every, pre, src, n, f, st, pace, wait⟩, (List.range k).flatMap u, k⟩).out)]) [.dead]) :
    fnP Try.prog Tvq10 ann_outriderref13_Take Try.f41 [.agg [.int .i64 id, .int .i64 pri, .int .i64 every, .bool pre, .str src, .ro n 1 f, .int .i64 st, .int .i64 pace, .int .i64 wait, .ro k 5 u], .str s, .agg [.int .i64 i, .int .i64 p, .int .i64 e, .ro m 1 uu]] [] (fun v H' => ∃ v2 H2, ResLe v H' v2 H2 ∧ K v2 H2) := by
  rw [rfTake_eq]
  have hst := hb.st
  simp only at hst
  refine brP_i (fun hc => ?_) (fun hc => ?_) <;> simp only [Bool.and_eq_true, Bool.or_eq_true, Bool.and_eq_false_iff, Bool.or_eq_false_iff, decide_eq_true_eq, decide_eq_false_iff_not, Bool.not_eq_true', Bool.not_eq_false', Bool.not_true, Bool.not_false, Bool.true_and, Bool.and_true, Bool.false_or, Bool.or_false, beq_iff_eq, beq_eq_false_iff_ne, ne_eq] at hc
  · have e0 : vrTake s ⟨i, p, e, []⟩ ⟨⟨id, pri, every, pre, src, n, f, st, pace, wait⟩, (List.range k).flatMap u, k⟩ = ⟨⟨id, pri, every, pre, src, n, f, st, pace, wait⟩, (List.range k).flatMap u, k⟩ := by
      unfold vrTake
      by_cases h : i = id
      · have h1 : st = 1 := by rcases hc with h1 | h1; exact h1; exact absurd h h1
        rw [if_neg (by simpa using h), if_neg (by simp only; omega), if_neg (by simp only; omega)]
      · rw [if_pos h]
    rw [e0] at hK
    exact ⟨_, _, padded, hK⟩
  · obtain ⟨hc1, hc2⟩ := hc
    have hid : ¬ (i ≠ id) := fun h => h hc2
    refine brP_d (fun hp => brP_d (fun hs => ⟨hb, ?_⟩) (fun hs => ?_)) (fun hp => ?_)
    · rw [show vrTake s ⟨i, p, e, []⟩ ⟨⟨id, pri, every, pre, src, n, f, st, pace, wait⟩, (List.range k).flatMap u, k⟩ = vrSay pri ⟨⟨id, pri, every, pre, src, n, f, st, pace, wait⟩, (List.range k).flatMap u, k⟩ from by unfold vrTake; rw [if_neg hid, if_neg (by simp only; omega), if_pos hs, if_pos hp]] at hK
      exact ⟨_, _, .pad rfl, hK⟩
    · have h2 : st = 2 := by omega
      subst h2
      rw [show vrTake s ⟨i, p, e, []⟩ ⟨⟨id, pri, every, pre, src, n, f, 2, pace, wait⟩, (List.range k).flatMap u, k⟩ = vrSet 2 (if vrSkew pri pace < 1 then 1 else vrSkew pri pace) ⟨⟨id, pri, every, pre, src, n, f, 2, pace, wait⟩, (List.range k).flatMap u, k⟩ from by unfold vrTake; rw [if_neg hid, if_pos rfl, if_pos hp]] at hK
      refine brP_d (fun hq => ?_) (fun hq => ?_)
      · rw [if_pos hq] at hK; exact ⟨_, _, padded, hK⟩
      · rw [if_neg hq] at hK; exact ⟨_, _, padded, hK⟩
    · refine brP_i (fun hq => ⟨hb, ?_⟩) (fun hq => brP_i (fun hr => ⟨hb, ?_⟩) (fun hr => ?_))
      · rw [Bool.and_eq_true, decide_eq_true_eq] at hq
        obtain ⟨h3, hq⟩ := hq
        rw [show vrTake s ⟨i, p, e, []⟩ ⟨⟨id, pri, every, pre, src, n, f, st, pace, wait⟩, (List.range k).flatMap u, k⟩ = vrFollow e ⟨⟨id, pri, every, pre, src, n, f, st, pace, wait⟩, (List.range k).flatMap u, k⟩ from by unfold vrTake; rw [if_neg hid, if_neg (by simp only; omega), if_pos h3, if_neg hp, if_pos (by simpa using hq)]] at hK
        exact ⟨_, _, .pad rfl, hK⟩
      · rw [Bool.and_eq_true, decide_eq_true_eq] at hr
        obtain ⟨h2, hr⟩ := hr
        rw [show vrTake s ⟨i, p, e, []⟩ ⟨⟨id, pri, every, pre, src, n, f, st, pace, wait⟩, (List.range k).flatMap u, k⟩ = vrFollow e ⟨⟨id, pri, every, pre, src, n, f, st, pace, wait⟩, (List.range k).flatMap u, k⟩ from by unfold vrTake; rw [if_neg hid, if_pos h2, if_neg hp, if_pos (by simpa using hr)]] at hK
        exact ⟨_, _, .pad rfl, hK⟩
      · have e0 : vrTake s ⟨i, p, e, []⟩ ⟨⟨id, pri, every, pre, src, n, f, st, pace, wait⟩, (List.range k).flatMap u, k⟩ = ⟨⟨id, pri, every, pre, src, n, f, st, pace, wait⟩, (List.range k).flatMap u, k⟩ := by
          unfold vrTake
          rw [if_neg hid]
          by_cases h2 : st = 2
          · rw [decide_eq_true h2, Bool.true_and] at hr
            rw [if_pos h2, if_neg hp, if_neg (by simpa using hr)]
          · have h3 : st = 3 := by omega
            rw [decide_eq_true h3, Bool.true_and] at hq
            rw [if_neg h2, if_pos h3, if_neg hp, if_neg (by simpa using hq)]
        rw [e0] at hK
        exact ⟨_, _, padded, hK⟩
theorem outriderref13_Take_p : ∀ args H K, rfTakeRow args H K → ∃ args', ArgsLe H args args' ∧ fnP Try.prog Tvq10 ann_outriderref13_Take Try.f41 args' H (fun v H' => ∃ v2 H2, ResLe v H' v2 H2 ∧ K v2 H2) := by
  intro args H K h
  unfold rfTakeRow at h
  split at h
  · exact ⟨_, nil_arg, rfTake_core _ _ _ _ _ _ _ _ _ _ _ _ _ _ _ _ 0 (fun _ => []) K h.1 h.2⟩
  · exact ⟨_, .refl, rfTake_core _ _ _ _ _ _ _ _ _ _ _ _ _ _ _ _ _ _ K h.1 h.2⟩
  · exact h.elim
def Tvq11 : Specs := ext Tvq10 41 (rfTakeRow)
theorem Tvq11_sound : TSound Try.prog Tvq11 := ext_sound Tvq10_sound (row_weak Tvq10_sound mixed Try.func41 (by decide +kernel) outriderref13_Take_p)
def ann_outriderref13_Do : Nat → List Nat × Nat × List (List Nat)
  | 8 => ([2, 3, 4, 5], 0, [])
  | 2000008 => ([], 9, [[], [0], [0, 1], [0, 1, 2], [0, 1, 2, 3], [0, 1, 2, 3, 4], [0, 1, 2, 3, 4, 5], [0, 1, 2, 3, 4, 5, 6]])
  | 2000014 => ([], 9, [[], [0], [0, 1], [0, 1, 2], [0, 1, 2, 3], [0, 1, 2, 3, 4], [0, 1, 2, 3, 4, 5], [0, 1, 2, 3, 4, 5, 6]])
  | _ => ([], 0, [])
noncomputable abbrev rfDo_lp_X : Cx := ⟨Try.prog, Tvq11, Try.f22.ntmps, 0, ann_outriderref13_Do⟩
noncomputable def rfDo_lp_c : Code := cAt [.r, .l, .r, .b, .r, .e, .r, .e, .r, .t, .r, .b] (bodyOf Try.f22)
noncomputable def rfDo_lp_k (K : AVal → Hp → Prop) : Post := kAt rfDo_lp_X [.r, .l, .r, .b, .r, .e, .r, .e, .r, .t, .r, .b] (bodyOf Try.f22) (fnK Try.prog 0 Try.f22.results.toList K)
def rfDo_lp_n (K : AVal → Hp → Prop) (n : Nat) (s : St) : Prop := loopP (awp rfDo_lp_X (loopB rfDo_lp_c)) 0 [2, 3, 4, 5] n s (rfDo_lp_k K)
def rfDo_lp (K : AVal → Hp → Prop) (s : St) : Prop := ∃ n, rfDo_lp_n K n s
def rfDo_lp_b (K : AVal → Hp → Prop) (J : St → Prop) (s : St) : Prop := awp rfDo_lp_X (loopB rfDo_lp_c) s (seqK (fun s' => normK 0 [2, 3, 4, 5] s' J) (rfDo_lp_k K))
theorem rfDo_lp_next {K : AVal → Hp → Prop} {n : Nat} {s : St} (h : rfDo_lp_b K (fun s' => rfDo_lp_n K n s') s) : rfDo_lp_n K (n + 1) s := h
set_option maxRecDepth 100000 in
theorem rfDo_eq (kd q : Int) (s : List UInt8) (i p e : Int) (m : Nat) (uu : Nat → List AVal) (id pri every : Int) (pre : Bool) (src : List UInt8) (n : Nat) (f : Nat → List AVal) (st pace wait : Int) (k : Nat) (u : Nat → List AVal) (K : AVal → Hp → Prop) : fnP Try.prog Tvq11 ann_outriderref13_Do Try.f22 [.agg [.int .i64 id, .int .i64 pri, .int .i64 every, .bool pre, .str src, .ro n 1 f, .int .i64 st, .int .i64 pace, .int .i64 wait, .ro k 5 u], .agg [.int .i64 kd, .int .i64 q, .str s, .int .i64 i, .int .i64 p, .int .i64 e, .ro m 1 uu]] [] K = (
 brP (decide (kd = (0 : Int)))
 (VB (VX.mk (VM.mk id pri every pre src n f st pace wait) (List.flatMap u (List.range k)) k) ∧
 K
 (AVal.agg
 [AVal.int IntKind.i64
 (vrStart (VX.mk (VM.mk id pri every pre src n f st pace wait) (List.flatMap u (List.range k)) k)).m.id,
 AVal.int IntKind.i64
 (vrStart (VX.mk (VM.mk id pri every pre src n f st pace wait) (List.flatMap u (List.range k)) k)).m.pri,
 AVal.int IntKind.i64
 (vrStart (VX.mk (VM.mk id pri every pre src n f st pace wait) (List.flatMap u (List.range k)) k)).m.every,
 AVal.bool (vrStart (VX.mk (VM.mk id pri every pre src n f st pace wait) (List.flatMap u (List.range k)) k)).m.pre,
 AVal.str (vrStart (VX.mk (VM.mk id pri every pre src n f st pace wait) (List.flatMap u (List.range k)) k)).m.src,
 AVal.ro (vrStart (VX.mk (VM.mk id pri every pre src n f st pace wait) (List.flatMap u (List.range k)) k)).m.n
 (1 : Nat) (vrStart (VX.mk (VM.mk id pri every pre src n f st pace wait) (List.flatMap u (List.range k)) k)).m.f,
 AVal.int IntKind.i64
 (vrStart (VX.mk (VM.mk id pri every pre src n f st pace wait) (List.flatMap u (List.range k)) k)).m.st,
 AVal.int IntKind.i64
 (vrStart (VX.mk (VM.mk id pri every pre src n f st pace wait) (List.flatMap u (List.range k)) k)).m.pace,
 AVal.int IntKind.i64
 (vrStart (VX.mk (VM.mk id pri every pre src n f st pace wait) (List.flatMap u (List.range k)) k)).m.wait,
 AVal.ro (vrStart (VX.mk (VM.mk id pri every pre src n f st pace wait) (List.flatMap u (List.range k)) k)).k
 (5 : Nat)
 (rowsOf (5 : Nat)
 (vrStart (VX.mk (VM.mk id pri every pre src n f st pace wait) (List.flatMap u (List.range k)) k)).out)])
 [])
 (brP (decide (kd = (1 : Int)))
 (VB (VX.mk (VM.mk id pri every pre src n f st pace wait) (List.flatMap u (List.range k)) k) ∧
 K
 (AVal.agg
 [AVal.int IntKind.i64
 (vrStop (VX.mk (VM.mk id pri every pre src n f st pace wait) (List.flatMap u (List.range k)) k)).m.id,
 AVal.int IntKind.i64
 (vrStop (VX.mk (VM.mk id pri every pre src n f st pace wait) (List.flatMap u (List.range k)) k)).m.pri,
 AVal.int IntKind.i64
 (vrStop (VX.mk (VM.mk id pri every pre src n f st pace wait) (List.flatMap u (List.range k)) k)).m.every,
 AVal.bool (vrStop (VX.mk (VM.mk id pri every pre src n f st pace wait) (List.flatMap u (List.range k)) k)).m.pre,
 AVal.str (vrStop (VX.mk (VM.mk id pri every pre src n f st pace wait) (List.flatMap u (List.range k)) k)).m.src,
 AVal.ro (vrStop (VX.mk (VM.mk id pri every pre src n f st pace wait) (List.flatMap u (List.range k)) k)).m.n
 (1 : Nat) (vrStop (VX.mk (VM.mk id pri every pre src n f st pace wait) (List.flatMap u (List.range k)) k)).m.f,
 AVal.int IntKind.i64
 (vrStop (VX.mk (VM.mk id pri every pre src n f st pace wait) (List.flatMap u (List.range k)) k)).m.st,
 AVal.int IntKind.i64
 (vrStop (VX.mk (VM.mk id pri every pre src n f st pace wait) (List.flatMap u (List.range k)) k)).m.pace,
 AVal.int IntKind.i64
 (vrStop (VX.mk (VM.mk id pri every pre src n f st pace wait) (List.flatMap u (List.range k)) k)).m.wait,
 AVal.ro (vrStop (VX.mk (VM.mk id pri every pre src n f st pace wait) (List.flatMap u (List.range k)) k)).k
 (5 : Nat)
 (rowsOf (5 : Nat)
 (vrStop (VX.mk (VM.mk id pri every pre src n f st pace wait) (List.flatMap u (List.range k)) k)).out)])
 [])
 (brP (decide (kd = (2 : Int)))
 (rfDo_lp K
 (St.mk
 [((2 : Nat), AVal.ptr (0 : Nat) (0 : Nat)), ((3 : Nat), AVal.ptr (1 : Nat) (0 : Nat)),
 ((4 : Nat), AVal.ptr (2 : Nat) (0 : Nat)), ((5 : Nat), AVal.int IntKind.i64 (0 : Int))]
 [ABlk.vals
 [AVal.int IntKind.i64 id, AVal.int IntKind.i64 pri, AVal.int IntKind.i64 every, AVal.bool pre, AVal.str src,
 AVal.ro n (1 : Nat) f, AVal.int IntKind.i64 st, AVal.int IntKind.i64 pace, AVal.int IntKind.i64 wait,
 AVal.ro k (5 : Nat) u],
 ABlk.vals
 [AVal.int IntKind.i64 kd, AVal.int IntKind.i64 q, AVal.str s, AVal.int IntKind.i64 i, AVal.int IntKind.i64 p,
 AVal.int IntKind.i64 e, AVal.ro m (1 : Nat) uu],
 ABlk.vals
 [AVal.int IntKind.i64 (0 : Int), AVal.int IntKind.i64 (0 : Int), AVal.int IntKind.i64 (0 : Int),
 AVal.bool false, AVal.str [], AVal.nilS, AVal.int IntKind.i64 (0 : Int), AVal.int IntKind.i64 (0 : Int),
 AVal.int IntKind.i64 (0 : Int), AVal.nilS]]))
 (brP (decide (kd = (3 : Int)))
 (VB (VX.mk (VM.mk id pri every pre src n f st pace wait) (List.flatMap u (List.range k)) k) ∧
 K
 (AVal.agg
 [AVal.int IntKind.i64
 (vrTake s (Adv.mk i p e [])
 (VX.mk (VM.mk id pri every pre src n f st pace wait) (List.flatMap u (List.range k)) k)).m.id,
 AVal.int IntKind.i64
 (vrTake s (Adv.mk i p e [])
 (VX.mk (VM.mk id pri every pre src n f st pace wait) (List.flatMap u (List.range k)) k)).m.pri,
 AVal.int IntKind.i64
 (vrTake s (Adv.mk i p e [])
 (VX.mk (VM.mk id pri every pre src n f st pace wait) (List.flatMap u (List.range k)) k)).m.every,
 AVal.bool
 (vrTake s (Adv.mk i p e [])
 (VX.mk (VM.mk id pri every pre src n f st pace wait) (List.flatMap u (List.range k)) k)).m.pre,
 AVal.str
 (vrTake s (Adv.mk i p e [])
 (VX.mk (VM.mk id pri every pre src n f st pace wait) (List.flatMap u (List.range k)) k)).m.src,
 AVal.ro
 (vrTake s (Adv.mk i p e [])
 (VX.mk (VM.mk id pri every pre src n f st pace wait) (List.flatMap u (List.range k)) k)).m.n
 (1 : Nat)
 (vrTake s (Adv.mk i p e [])
 (VX.mk (VM.mk id pri every pre src n f st pace wait) (List.flatMap u (List.range k)) k)).m.f,
 AVal.int IntKind.i64
 (vrTake s (Adv.mk i p e [])
 (VX.mk (VM.mk id pri every pre src n f st pace wait) (List.flatMap u (List.range k)) k)).m.st,
 AVal.int IntKind.i64
 (vrTake s (Adv.mk i p e [])
 (VX.mk (VM.mk id pri every pre src n f st pace wait) (List.flatMap u (List.range k)) k)).m.pace,
 AVal.int IntKind.i64
 (vrTake s (Adv.mk i p e [])
 (VX.mk (VM.mk id pri every pre src n f st pace wait) (List.flatMap u (List.range k)) k)).m.wait,
 AVal.ro
 (vrTake s (Adv.mk i p e [])
 (VX.mk (VM.mk id pri every pre src n f st pace wait) (List.flatMap u (List.range k)) k)).k
 (5 : Nat)
 (rowsOf (5 : Nat)
 (vrTake s (Adv.mk i p e [])
 (VX.mk (VM.mk id pri every pre src n f st pace wait) (List.flatMap u (List.range k)) k)).out)])
 [])
 (brP (decide (kd = (4 : Int)))
 (brP (decide ((1 : Int) ≤ q) && decide (q ≤ (255 : Int)))
 (K
 (AVal.agg
 [AVal.int IntKind.i64 id, AVal.int IntKind.i64 q, AVal.int IntKind.i64 every, AVal.bool pre, AVal.str src,
 AVal.ro n (1 : Nat) f, AVal.int IntKind.i64 st, AVal.int IntKind.i64 pace, AVal.int IntKind.i64 wait,
 AVal.ro k (5 : Nat) u])
 [])
 (K
 (AVal.agg
 [AVal.int IntKind.i64 id, AVal.int IntKind.i64 pri, AVal.int IntKind.i64 every, AVal.bool pre, AVal.str src,
 AVal.ro n (1 : Nat) f, AVal.int IntKind.i64 st, AVal.int IntKind.i64 pace, AVal.int IntKind.i64 wait,
 AVal.ro k (5 : Nat) u])
 []))
 (K
 (AVal.agg
 [AVal.int IntKind.i64 id, AVal.int IntKind.i64 pri, AVal.int IntKind.i64 every, AVal.bool pre, AVal.str src,
 AVal.ro n (1 : Nat) f, AVal.int IntKind.i64 st, AVal.int IntKind.i64 pace, AVal.int IntKind.i64 wait,
 AVal.ro k (5 : Nat) u])
 [])))))) := by kernel_rfl
set_option maxRecDepth 100000 in
theorem rfDo_lp_step (kd q : Int) (s : List UInt8) (i p e : Int) (m : Nat) (uu : Nat → List AVal) (id pri every : Int) (pre : Bool) (src : List UInt8) (n : Nat) (f : Nat → List AVal) (st pace wait : Int) (k : Nat) (u : Nat → List AVal) (c : Int) (K : AVal → Hp → Prop) (J : St → Prop) : rfDo_lp_b K J (St.mk [(2, .ptr 0 0), (3, .ptr 1 0), (4, .ptr 2 0), (5, .int .i64 c)] [.vals [.int .i64 id, .int .i64 pri, .int .i64 every, .bool pre, .str src, .ro n 1 f, .int .i64 st, .int .i64 pace, .int .i64 wait, .ro k 5 u], .vals [.int .i64 kd, .int .i64 q, .str s, .int .i64 i, .int .i64 p, .int .i64 e, .ro m 1 uu], .vals [.int .i64 0, .int .i64 0, .int .i64 0, .bool false, .str [], .nilS, .int .i64 0, .int .i64 0, .int .i64 0, .nilS]]) = (
 brP (decide (c < q) && decide (c < (2000 : Int)))
 (VBw (VX.mk (VM.mk id pri every pre src n f st pace wait) (List.flatMap u (List.range k)) k) ∧
 I64 (c + (1 : Int)) ∧
 J
 (St.mk
 [((2 : Nat), AVal.ptr (0 : Nat) (0 : Nat)), ((3 : Nat), AVal.ptr (1 : Nat) (0 : Nat)),
 ((4 : Nat), AVal.ptr (2 : Nat) (0 : Nat)), ((5 : Nat), AVal.int IntKind.i64 (c + (1 : Int)))]
 [ABlk.vals
 [AVal.int IntKind.i64
 (vrTick (VX.mk (VM.mk id pri every pre src n f st pace wait) (List.flatMap u (List.range k)) k)).m.id,
 AVal.int IntKind.i64
 (vrTick (VX.mk (VM.mk id pri every pre src n f st pace wait) (List.flatMap u (List.range k)) k)).m.pri,
 AVal.int IntKind.i64
 (vrTick (VX.mk (VM.mk id pri every pre src n f st pace wait) (List.flatMap u (List.range k)) k)).m.every,
 AVal.bool
 (vrTick (VX.mk (VM.mk id pri every pre src n f st pace wait) (List.flatMap u (List.range k)) k)).m.pre,
 AVal.str
 (vrTick (VX.mk (VM.mk id pri every pre src n f st pace wait) (List.flatMap u (List.range k)) k)).m.src,
 AVal.ro (vrTick (VX.mk (VM.mk id pri every pre src n f st pace wait) (List.flatMap u (List.range k)) k)).m.n
 (1 : Nat)
 (vrTick (VX.mk (VM.mk id pri every pre src n f st pace wait) (List.flatMap u (List.range k)) k)).m.f,
 AVal.int IntKind.i64
 (vrTick (VX.mk (VM.mk id pri every pre src n f st pace wait) (List.flatMap u (List.range k)) k)).m.st,
 AVal.int IntKind.i64
 (vrTick (VX.mk (VM.mk id pri every pre src n f st pace wait) (List.flatMap u (List.range k)) k)).m.pace,
 AVal.int IntKind.i64
 (vrTick (VX.mk (VM.mk id pri every pre src n f st pace wait) (List.flatMap u (List.range k)) k)).m.wait,
 AVal.ro (vrTick (VX.mk (VM.mk id pri every pre src n f st pace wait) (List.flatMap u (List.range k)) k)).k
 (5 : Nat)
 (rowsOf (5 : Nat)
 (vrTick (VX.mk (VM.mk id pri every pre src n f st pace wait) (List.flatMap u (List.range k)) k)).out)],
 ABlk.vals
 [AVal.int IntKind.i64 kd, AVal.int IntKind.i64 q, AVal.str s, AVal.int IntKind.i64 i, AVal.int IntKind.i64 p,
 AVal.int IntKind.i64 e, AVal.ro m (1 : Nat) uu],
 ABlk.vals
 [AVal.int IntKind.i64 (0 : Int), AVal.int IntKind.i64 (0 : Int), AVal.int IntKind.i64 (0 : Int),
 AVal.bool false, AVal.str [], AVal.nilS, AVal.int IntKind.i64 (0 : Int), AVal.int IntKind.i64 (0 : Int),
 AVal.int IntKind.i64 (0 : Int), AVal.nilS]]))
 (K
 (AVal.agg
 [AVal.int IntKind.i64 id, AVal.int IntKind.i64 pri, AVal.int IntKind.i64 every, AVal.bool pre, AVal.str src,
 AVal.ro n (1 : Nat) f, AVal.int IntKind.i64 st, AVal.int IntKind.i64 pace, AVal.int IntKind.i64 wait,
 AVal.ro k (5 : Nat) u])
 [])) := by kernel_rfl
theorem rfDo_all (K : AVal → Hp → Prop) (kd q : Int) (s : List UInt8) (i p e : Int) (m : Nat) (uu : Nat → List AVal) : ∀ (j : Nat) (c : Int) (id pri every : Int) (pre : Bool) (src : List UInt8) (n : Nat) (f : Nat → List AVal) (st pace wait : Int) (k : Nat) (u : Nat → List AVal), 0 ≤ c → c + (j : Int) = (vrCount q : Int) ∨ (vrCount q : Int) ≤ c ∧ j = 0 → VOk ⟨⟨id, pri, every, pre, src, n, f, st, pace, wait⟩, (List.range k).flatMap u, k⟩ → k + 2 * j ≤ 1000000000000 → K (.agg [.int .i64 (vrTicks j ⟨⟨id, pri, every, pre, src, n, f, st, pace, wait⟩, (List.range k).flatMap u, k⟩).m.id, .int .i64 (vrTicks j ⟨⟨id, pri, every, pre, src, n, f, st, pace, wait⟩, (List.range k).flatMap u, k⟩).m.pri, .int .i64 (vrTicks j ⟨⟨id, pri, every, pre, src, n, f, st, pace, wait⟩, (List.range k).flatMap u, k⟩).m.every, .bool (vrTicks j ⟨⟨id, pri, every, pre, src, n, f, st, pace, wait⟩, (List.range k).flatMap u, k⟩).m.pre, .str (vrTicks j ⟨⟨id, pri, every, pre, src, n, f, st, pace, wait⟩, (List.range k).flatMap u, k⟩).m.src, .ro (vrTicks j ⟨⟨id, pri, every, pre, src, n, f, st, pace, wait⟩, (List.range k).flatMap u, k⟩).m.n 1 (vrTicks j ⟨⟨id, pri, every, pre, src, n, f, st, pace, wait⟩, (List.range k).flatMap u, k⟩).m.f, .int .i64 (vrTicks j ⟨⟨id, pri, every, pre, src, n, f, st, pace, wait⟩, (List.range k).flatMap u, k⟩).m.st, .int .i64 (vrTicks j ⟨⟨id, pri, every, pre, src, n, f, st, pace, wait⟩, (List.range k).flatMap u, k⟩).m.pace, .int .i64 (vrTicks j ⟨⟨id, pri, every, pre, src, n, f, st, pace, wait⟩, (List.range k).flatMap u, k⟩).m.wait, .ro (vrTicks j ⟨⟨id, pri, every, pre, src, n, f, st, pace, wait⟩, (List.range k).flatMap u, k⟩).k 5 (rowsOf 5 (vrTicks j ⟨⟨id, pri, every, pre, src, n, f, st, pace, wait⟩, (List.range k).flatMap u, k⟩).out)]) [.dead] →
    rfDo_lp_n (fun v H' => ∃ v2 H2, ResLe v H' v2 H2 ∧ K v2 H2) (j + 1) (St.mk [(2, .ptr 0 0), (3, .ptr 1 0), (4, .ptr 2 0), (5, .int .i64 c)] [.vals [.int .i64 id, .int .i64 pri, .int .i64 every, .bool pre, .str src, .ro n 1 f, .int .i64 st, .int .i64 pace, .int .i64 wait, .ro k 5 u], .vals [.int .i64 kd, .int .i64 q, .str s, .int .i64 i, .int .i64 p, .int .i64 e, .ro m 1 uu], .vals [.int .i64 0, .int .i64 0, .int .i64 0, .bool false, .str [], .nilS, .int .i64 0, .int .i64 0, .int .i64 0, .nilS]])
  | 0, c, id, pri, every, pre, src, n, f, st, pace, wait, k, u, h0, hc, hok, hk, hK => by
    refine rfDo_lp_next ?_
    rw [rfDo_lp_step]
    refine brP_i (fun h => ?_) (fun _ => ⟨_, _, padded, hK⟩)
    exfalso
    simp only [Bool.and_eq_true, Bool.or_eq_true, Bool.and_eq_false_iff, Bool.or_eq_false_iff, decide_eq_true_eq, decide_eq_false_iff_not, Bool.not_eq_true', Bool.not_eq_false', Bool.not_true, Bool.not_false, Bool.true_and, Bool.and_true, Bool.false_or, Bool.or_false, beq_iff_eq, beq_eq_false_iff_ne, ne_eq] at h
    unfold vrCount at hc
    split at hc <;> omega
  | j + 1, c, id, pri, every, pre, src, n, f, st, pace, wait, k, u, h0, hc, hok, hk, hK => by
    refine rfDo_lp_next ?_
    rw [rfDo_lp_step]
    have hkk := hok.k
    refine brP_i (fun h => ⟨hok.vbw (by simp only; omega), by simp only [Bool.and_eq_true, Bool.or_eq_true, Bool.and_eq_false_iff, Bool.or_eq_false_iff, decide_eq_true_eq, decide_eq_false_iff_not, Bool.not_eq_true', Bool.not_eq_false', Bool.not_true, Bool.not_false, Bool.true_and, Bool.and_true, Bool.false_or, Bool.or_false, beq_iff_eq, beq_eq_false_iff_ne, ne_eq] at h; unfold I64; omega, ?_⟩) (fun h => ?_)
    · have hy := vrTick_ok hok (by simp only; omega)
      have hyk := vrTick_k (x := ⟨⟨id, pri, every, pre, src, n, f, st, pace, wait⟩, (List.range k).flatMap u, k⟩)
      simp only at hyk
      have e0 := flat_rows hy.len
      refine rfDo_all K kd q s i p e m uu j (c + 1) _ _ _ _ _ _ _ _ _ _ _ _ (by omega) (.inl (by omega)) ?_ (by omega) ?_
      · rw [e0]; exact hy
      · rw [e0]; exact hK
    · exfalso
      have hnn : ¬ (c < q ∧ c < 2000) := fun hh => by
        rw [decide_eq_true hh.1, decide_eq_true hh.2] at h; cases h
      unfold vrCount at hc
      split at hc <;> omega
attribute [local irreducible] fnP in
theorem rfDo_core (kd q : Int) (s : List UInt8) (i p e : Int) (m : Nat) (uu : Nat → List AVal) (id pri every : Int) (pre : Bool) (src : List UInt8) (n : Nat) (f : Nat → List AVal) (st pace wait : Int) (k : Nat) (u : Nat → List AVal) (K : AVal → Hp → Prop) (hb : VOkd ⟨⟨id, pri, every, pre, src, n, f, st, pace, wait⟩, (List.range k).flatMap u, k⟩) (hK : K (.agg [.int .i64 (vrDo kd q s ⟨i, p, e, []⟩ ⟨⟨id, pri, every, pre, src, n, f, st, pace, wait⟩, (List.range k).flatMap u, k⟩).m.id, .int .i64 (vrDo kd q s ⟨i, p, e, []⟩ ⟨⟨id, pri, every, pre, src, n, f, st, pace, wait⟩, (List.range k).flatMap u, k⟩).m.pri, .int .i64 (vrDo kd q s ⟨i, p, e, []⟩ ⟨⟨id, pri, every, pre, src, n, f, st, pace, wait⟩, (List.range k).flatMap u, k⟩).m.every, .bool (vrDo kd q s ⟨i, p, e, []⟩ ⟨⟨id, pri, every, pre, src, n, f, st, pace, wait⟩, (List.range k).flatMap u, k⟩).m.pre, .str (vrDo kd q s ⟨i, p, e, []⟩ ⟨⟨id, pri, every, pre, src, n, f, st, pace, wait⟩, (List.range k).flatMap u, k⟩).m.src, .ro (vrDo kd q s ⟨i, p, e, []⟩ ⟨⟨id, pri, every, pre, src, n, f, st, pace, wait⟩, (List.range k).flatMap u, k⟩).m.n 1 (vrDo kd q s ⟨i, p, e, []⟩ ⟨⟨id, pri, every, pre, src, n, f, st, pace, wait⟩, (List.range k).flatMap u, k⟩).m.f, .int .i64 (vrDo kd q s ⟨i, p, e, []⟩ ⟨⟨id, pri, every, pre, src, n, f, st, pace, wait⟩, (List.range k).flatMap u, k⟩).m.st, .int .i64 (vrDo kd q s ⟨i, p, e, []⟩ ⟨⟨id, pri, every, pre, src, n, f, st, pace, wait⟩, (List.range k).flatMap u, k⟩).m.pace, .int .i64 (vrDo kd q s ⟨i, p, e, []⟩ ⟨⟨id, pri, every, pre, src, n, f, st, pace, wait⟩, (List.range k).flatMap u, k⟩).m.wait, .ro (vrDo kd q s ⟨i, p, e, []⟩ ⟨⟨id, pri, every, pre, src, n, f, st, pace, wait⟩, (List.range k).flatMap u, k⟩).k 5 (rowsOf 5 (vrDo kd q s ⟨i, p, e, []⟩ ⟨⟨id, pri, every, pre, src, n, f, st, pace, wait⟩, (List.range k).flatMap u, k⟩).out)]) [.dead]) :
    fnP Try.prog Tvq11 ann_outriderref13_Do Try.f22 [.agg [.int .i64 id, .int .i64 pri, .int .i64 every, .bool pre, .str src, .ro n 1 f, .int .i64 st, .int .i64 pace, .int .i64 wait, .ro k 5 u], .agg [.int .i64 kd, .int .i64 q, .str s, .int .i64 i, .int .i64 p, .int .i64 e, .ro m 1 uu]] [] (fun v H' => ∃ v2 H2, ResLe v H' v2 H2 ∧ K v2 H2) := by
  rw [rfDo_eq]
  obtain ⟨hok, hk⟩ := hb
  simp only at hk
  have hb := hok.vb (by simp only; omega)
  unfold vrDo at hK
  refine brP_d (fun h0 => ⟨hb, ?_⟩) (fun h0 => brP_d (fun h1 => ⟨hb, ?_⟩) (fun h1 => brP_d (fun h2 => ?_) (fun h2 => brP_d (fun h3 => ⟨hb, ?_⟩) (fun h3 => brP_d (fun h4 => ?_) (fun h4 => ?_)))))
  · rw [if_pos h0] at hK; exact ⟨_, _, .pad rfl, hK⟩
  · rw [if_neg h0, if_pos h1] at hK; exact ⟨_, _, .pad rfl, hK⟩
  · rw [if_neg h0, if_neg h1, if_pos h2] at hK
    have hc := vrCount_le q
    exact ⟨_, rfDo_all K kd q s i p e m uu (vrCount q) 0 _ _ _ _ _ _ _ _ _ _ _ _ (by omega) (.inl (by omega)) hok (by omega) hK⟩
  · rw [if_neg h0, if_neg h1, if_neg h2, if_pos h3] at hK; exact ⟨_, _, .pad rfl, hK⟩
  · rw [if_neg h0, if_neg h1, if_neg h2, if_neg h3, if_pos h4] at hK
    unfold vrPri at hK
    refine brP_i (fun hq => ?_) (fun hq => ?_)
    · rw [Bool.and_eq_true, decide_eq_true_eq, decide_eq_true_eq] at hq
      rw [if_neg (by omega)] at hK; exact ⟨_, _, padded, hK⟩
    · have : q < 1 ∨ 255 < q := by
        by_cases hh : 1 ≤ q ∧ q ≤ 255
        · rw [decide_eq_true hh.1, decide_eq_true hh.2] at hq; cases hq
        · omega
      rw [if_pos this] at hK; exact ⟨_, _, padded, hK⟩
  · rw [if_neg h0, if_neg h1, if_neg h2, if_neg h3, if_neg h4] at hK; exact ⟨_, _, padded, hK⟩
theorem outriderref13_Do_p : ∀ args H K, rfDoRow args H K → ∃ args', ArgsLe H args args' ∧ fnP Try.prog Tvq11 ann_outriderref13_Do Try.f22 args' H (fun v H' => ∃ v2 H2, ResLe v H' v2 H2 ∧ K v2 H2) := by
  intro args H K h
  unfold rfDoRow at h
  split at h
  · exact ⟨_, nil_arg, rfDo_core _ _ _ _ _ _ _ _ _ _ _ _ _ _ _ _ _ _ 0 (fun _ => []) K h.1 h.2⟩
  · exact ⟨_, .refl, rfDo_core _ _ _ _ _ _ _ _ _ _ _ _ _ _ _ _ _ _ _ _ K h.1 h.2⟩
  · exact h.elim
def Tvq12 : Specs := ext Tvq11 22 (rfDoRow)
theorem Tvq12_sound : TSound Try.prog Tvq12 := ext_sound Tvq11_sound (row_weak Tvq11_sound mixed Try.func22 (by decide +kernel) outriderref13_Do_p)
def rfNewRow : Srow := fun args H K => match args, H with
  | [.agg [.int .i64 id, .int .i64 pri, .int .i64 every, .bool pre, .str src, .ro n 1 f]], [] => (IsStrs n f ∧ n ≤ 8796093022000) ∧
    brP (adRight ⟨id, pri, every, strs n f⟩ src && !decide (pri = 0)) (K (.tup [.agg [.int .i64 id, .int .i64 pri, .int .i64 every, .bool pre, .str src, .ro n 1 f, .int .i64 1, .int .i64 every, .int .i64 0, .nilS], .bool true]) []) (K (.tup [.agg [.int .i64 0, .int .i64 0, .int .i64 0, .bool false, .str [], .nilS, .int .i64 0, .int .i64 0, .int .i64 0, .nilS], .bool false]) [])
  | _, _ => False
def ann_outriderref13_New : Nat → List Nat × Nat × List (List Nat)
  | 1 => ([], 11, [[], [], [1], [0, 1, 2], [], [4], [0, 1, 2, 3, 4, 5], [0, 1, 2, 3, 4, 5, 6], [0, 1, 2, 3, 4, 5, 6, 7], [0, 1, 2, 3, 4, 5, 6, 7], []])
  | 2000002 => ([], 8, [[], [0], [0, 1], [0, 1, 2], [0, 1, 2, 3], [0, 1, 2, 3, 4], [0, 1, 2, 3, 4, 5]])
  | 3000001 => ([11], 0, [])
  | _ => ([], 0, [])
set_option maxRecDepth 100000 in
theorem rfNew_eq (id pri every : Int) (pre : Bool) (src : List UInt8) (n : Nat) (f : Nat → List AVal) (K : AVal → Hp → Prop) : fnP Try.prog Tvq12 ann_outriderref13_New Try.f21 [.agg [.int .i64 id, .int .i64 pri, .int .i64 every, .bool pre, .str src, .ro n 1 f]] [] K = (
 (IsStrs n f ∧ n ≤ (140737488351232 : Nat)) ∧
 brP (!decide ((adEncode (Adv.mk id pri every (strs n f)) src).snd = (0 : Int)) || decide (pri < (1 : Int)))
 (K
 (AVal.tup
 [AVal.agg
 [AVal.int IntKind.i64 (0 : Int), AVal.int IntKind.i64 (0 : Int), AVal.int IntKind.i64 (0 : Int), AVal.bool false,
 AVal.str [], AVal.nilS, AVal.int IntKind.i64 (0 : Int), AVal.int IntKind.i64 (0 : Int),
 AVal.int IntKind.i64 (0 : Int), AVal.nilS],
 AVal.bool false])
 [])
 (K
 (AVal.tup
 [AVal.agg
 [AVal.int IntKind.i64 id, AVal.int IntKind.i64 pri, AVal.int IntKind.i64 every, AVal.bool pre, AVal.str src,
 AVal.ro n (1 : Nat) f, AVal.int IntKind.i64 (1 : Int), AVal.int IntKind.i64 every,
 AVal.int IntKind.i64 (0 : Int), AVal.nilS],
 AVal.bool true])
 [])) := by kernel_rfl
attribute [local irreducible] fnP in
theorem outriderref13_New_p : ∀ args H K, rfNewRow args H K → fnP Try.prog Tvq12 ann_outriderref13_New Try.f21 args H K := by
  intro args H K h
  unfold rfNewRow at h
  split at h
  · rename_i id pri every pre src n f
    obtain ⟨⟨hs, hn⟩, hK⟩ := h
    rw [rfNew_eq]
    refine ⟨⟨hs, by omega⟩, ?_⟩
    cases hr : adRight ⟨id, pri, every, strs n f⟩ src with
    | false =>
      rw [adEncode_no (by rw [hr]; simp)]
      rw [hr] at hK
      exact hK
    | true =>
      have hp := ((adRight_iff _ _).1 hr).2.2.2.1
      rw [adEncode_yes hr]
      rw [hr, Bool.true_and] at hK
      simp only at hp
      have e : decide (pri < 1) = decide (pri = 0) := by rw [decide_eq_decide]; omega
      simp only [e]
      cases hp : decide (pri = 0) with
      | true => rw [hp] at hK; exact hK
      | false => rw [hp] at hK; exact hK
  · exact h.elim
def Tvq13 : Specs := ext Tvq12 21 (rfNewRow)
theorem Tvq13_sound : TSound Try.prog Tvq13 := ext_sound Tvq12_sound (row_of Tvq12_sound mixed Try.func21 (by decide +kernel) outriderref13_New_p)
abbrev Tvq : Specs := Tvq13
theorem Tvq_sound : TSound Try.prog Tvq := Tvq13_sound
end Go.Proofs.Ytldfkjjjjfbbmaa.Ae

