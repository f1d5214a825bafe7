/- Chapter 13's functions as a table: the program's machine. -/
import Derived.Test.YtldfkjjjjfbbmaaFad
import Derived.Test.YtldfkjjjjfbbmaaAeCl
import Derived.Test.YtldfkjjjjfbbmaaMvr
import Derived.Test.YtldfkjjjjfbbmaaAeNm
set_option linter.unusedSimpArgs false
set_option linter.unusedVariables false
set_option maxRecDepth 100000
namespace Go.Proofs.Ytldfkjjjjfbbmaa.Ae
open Go
theorem bool_dec {b c : Bool} (h : b = true ↔ c = true) : b = c := Bool.eq_iff_iff.2 h
def skewRow : Srow := fun args H K => match args, H with
  | [.int .i64 p, .int .i64 e], [] => K (.int .i64 (vrSkew p e)) []
  | _, _ => False
/-- a machine behind a pointer, and what it did: some more -/
def vrRow2 (B : VX → Prop) (g : VX → VX) : Srow := fun args H K => match args, H with
  | [.ptr 0 0], [.vals [.int .i64 id, .int .i64 pri, .int .i64 every, .bool pre, .str src, .ro n 1 f, .int .i64 st, .int .i64 pace, .int .i64 wait, .sl 1 0 k 5], .flat cs] => B ⟨⟨id, pri, every, pre, src, n, f, st, pace, wait⟩, cs, k⟩ ∧ K (.tup []) [.vals [.int .i64 (g ⟨⟨id, pri, every, pre, src, n, f, st, pace, wait⟩, cs, k⟩).m.id, .int .i64 (g ⟨⟨id, pri, every, pre, src, n, f, st, pace, wait⟩, cs, k⟩).m.pri, .int .i64 (g ⟨⟨id, pri, every, pre, src, n, f, st, pace, wait⟩, cs, k⟩).m.every, .bool (g ⟨⟨id, pri, every, pre, src, n, f, st, pace, wait⟩, cs, k⟩).m.pre, .str (g ⟨⟨id, pri, every, pre, src, n, f, st, pace, wait⟩, cs, k⟩).m.src, .ro (g ⟨⟨id, pri, every, pre, src, n, f, st, pace, wait⟩, cs, k⟩).m.n 1 (g ⟨⟨id, pri, every, pre, src, n, f, st, pace, wait⟩, cs, k⟩).m.f, .int .i64 (g ⟨⟨id, pri, every, pre, src, n, f, st, pace, wait⟩, cs, k⟩).m.st, .int .i64 (g ⟨⟨id, pri, every, pre, src, n, f, st, pace, wait⟩, cs, k⟩).m.pace, .int .i64 (g ⟨⟨id, pri, every, pre, src, n, f, st, pace, wait⟩, cs, k⟩).m.wait, .sl 2 0 (g ⟨⟨id, pri, every, pre, src, n, f, st, pace, wait⟩, cs, k⟩).k 5], .dead, .flat (g ⟨⟨id, pri, every, pre, src, n, f, st, pace, wait⟩, cs, k⟩).out]
  | _, _ => False
/-- .. with a number -/
def vrRow2i (g : Int → VX → VX) : Srow := fun args H K => match args, H with
  | [.ptr 0 0, .int .i64 q], [.vals [.int .i64 id, .int .i64 pri, .int .i64 every, .bool pre, .str src, .ro n 1 f, .int .i64 st, .int .i64 pace, .int .i64 wait, .sl 1 0 k 5], .flat cs] => VB ⟨⟨id, pri, every, pre, src, n, f, st, pace, wait⟩, cs, k⟩ ∧ K (.tup []) [.vals [.int .i64 (g q ⟨⟨id, pri, every, pre, src, n, f, st, pace, wait⟩, cs, k⟩).m.id, .int .i64 (g q ⟨⟨id, pri, every, pre, src, n, f, st, pace, wait⟩, cs, k⟩).m.pri, .int .i64 (g q ⟨⟨id, pri, every, pre, src, n, f, st, pace, wait⟩, cs, k⟩).m.every, .bool (g q ⟨⟨id, pri, every, pre, src, n, f, st, pace, wait⟩, cs, k⟩).m.pre, .str (g q ⟨⟨id, pri, every, pre, src, n, f, st, pace, wait⟩, cs, k⟩).m.src, .ro (g q ⟨⟨id, pri, every, pre, src, n, f, st, pace, wait⟩, cs, k⟩).m.n 1 (g q ⟨⟨id, pri, every, pre, src, n, f, st, pace, wait⟩, cs, k⟩).m.f, .int .i64 (g q ⟨⟨id, pri, every, pre, src, n, f, st, pace, wait⟩, cs, k⟩).m.st, .int .i64 (g q ⟨⟨id, pri, every, pre, src, n, f, st, pace, wait⟩, cs, k⟩).m.pace, .int .i64 (g q ⟨⟨id, pri, every, pre, src, n, f, st, pace, wait⟩, cs, k⟩).m.wait, .sl 2 0 (g q ⟨⟨id, pri, every, pre, src, n, f, st, pace, wait⟩, cs, k⟩).k 5], .dead, .flat (g q ⟨⟨id, pri, every, pre, src, n, f, st, pace, wait⟩, cs, k⟩).out]
  | _, _ => False
def vrRow1i (g : Int → VX → VX) : Srow := fun args H K => match args, H with
  | [.ptr 0 0, .int .i64 q], [.vals [.int .i64 id, .int .i64 pri, .int .i64 every, .bool pre, .str src, .ro n 1 f, .int .i64 st, .int .i64 pace, .int .i64 wait, .sl 1 0 k 5], .flat cs] => VB ⟨⟨id, pri, every, pre, src, n, f, st, pace, wait⟩, cs, k⟩ ∧ K (.tup []) [.vals [.int .i64 (g q ⟨⟨id, pri, every, pre, src, n, f, st, pace, wait⟩, cs, k⟩).m.id, .int .i64 (g q ⟨⟨id, pri, every, pre, src, n, f, st, pace, wait⟩, cs, k⟩).m.pri, .int .i64 (g q ⟨⟨id, pri, every, pre, src, n, f, st, pace, wait⟩, cs, k⟩).m.every, .bool (g q ⟨⟨id, pri, every, pre, src, n, f, st, pace, wait⟩, cs, k⟩).m.pre, .str (g q ⟨⟨id, pri, every, pre, src, n, f, st, pace, wait⟩, cs, k⟩).m.src, .ro (g q ⟨⟨id, pri, every, pre, src, n, f, st, pace, wait⟩, cs, k⟩).m.n 1 (g q ⟨⟨id, pri, every, pre, src, n, f, st, pace, wait⟩, cs, k⟩).m.f, .int .i64 (g q ⟨⟨id, pri, every, pre, src, n, f, st, pace, wait⟩, cs, k⟩).m.st, .int .i64 (g q ⟨⟨id, pri, every, pre, src, n, f, st, pace, wait⟩, cs, k⟩).m.pace, .int .i64 (g q ⟨⟨id, pri, every, pre, src, n, f, st, pace, wait⟩, cs, k⟩).m.wait, .sl 1 0 (g q ⟨⟨id, pri, every, pre, src, n, f, st, pace, wait⟩, cs, k⟩).k 5], .flat (g q ⟨⟨id, pri, every, pre, src, n, f, st, pace, wait⟩, cs, k⟩).out]
  | _, _ => False
def vrPriRow : Srow := fun args H K => match args, H with
  | [.ptr 0 0, .int .i64 q], [.vals [.int .i64 id, .int .i64 pri, .int .i64 every, .bool pre, .str src, .ro n 1 f, .int .i64 st, .int .i64 pace, .int .i64 wait, .sl 1 0 k 5], .flat cs] => K (.bool (!(decide (q < 1) || decide (255 < q)))) [.vals [.int .i64 (vrPri q ⟨⟨id, pri, every, pre, src, n, f, st, pace, wait⟩, cs, k⟩).m.id, .int .i64 (vrPri q ⟨⟨id, pri, every, pre, src, n, f, st, pace, wait⟩, cs, k⟩).m.pri, .int .i64 (vrPri q ⟨⟨id, pri, every, pre, src, n, f, st, pace, wait⟩, cs, k⟩).m.every, .bool (vrPri q ⟨⟨id, pri, every, pre, src, n, f, st, pace, wait⟩, cs, k⟩).m.pre, .str (vrPri q ⟨⟨id, pri, every, pre, src, n, f, st, pace, wait⟩, cs, k⟩).m.src, .ro (vrPri q ⟨⟨id, pri, every, pre, src, n, f, st, pace, wait⟩, cs, k⟩).m.n 1 (vrPri q ⟨⟨id, pri, every, pre, src, n, f, st, pace, wait⟩, cs, k⟩).m.f, .int .i64 (vrPri q ⟨⟨id, pri, every, pre, src, n, f, st, pace, wait⟩, cs, k⟩).m.st, .int .i64 (vrPri q ⟨⟨id, pri, every, pre, src, n, f, st, pace, wait⟩, cs, k⟩).m.pace, .int .i64 (vrPri q ⟨⟨id, pri, every, pre, src, n, f, st, pace, wait⟩, cs, k⟩).m.wait, .sl 1 0 (vrPri q ⟨⟨id, pri, every, pre, src, n, f, st, pace, wait⟩, cs, k⟩).k 5], .flat (vrPri q ⟨⟨id, pri, every, pre, src, n, f, st, pace, wait⟩, cs, k⟩).out]
  | _, _ => False
def vrTakeRow : Srow := fun args H K => match args, H with
  | [.ptr 0 0, .str s, .agg [.int .i64 i, .int .i64 p, .int .i64 e, .ro m 1 u]], [.vals [.int .i64 id, .int .i64 pri, .int .i64 every, .bool pre, .str src, .ro n 1 f, .int .i64 st, .int .i64 pace, .int .i64 wait, .sl 1 0 k 5], .flat cs] => VB ⟨⟨id, pri, every, pre, src, n, f, st, pace, wait⟩, cs, k⟩ ∧ K (.tup []) [.vals [.int .i64 (vrTake s ⟨i, p, e, []⟩ ⟨⟨id, pri, every, pre, src, n, f, st, pace, wait⟩, cs, k⟩).m.id, .int .i64 (vrTake s ⟨i, p, e, []⟩ ⟨⟨id, pri, every, pre, src, n, f, st, pace, wait⟩, cs, k⟩).m.pri, .int .i64 (vrTake s ⟨i, p, e, []⟩ ⟨⟨id, pri, every, pre, src, n, f, st, pace, wait⟩, cs, k⟩).m.every, .bool (vrTake s ⟨i, p, e, []⟩ ⟨⟨id, pri, every, pre, src, n, f, st, pace, wait⟩, cs, k⟩).m.pre, .str (vrTake s ⟨i, p, e, []⟩ ⟨⟨id, pri, every, pre, src, n, f, st, pace, wait⟩, cs, k⟩).m.src, .ro (vrTake s ⟨i, p, e, []⟩ ⟨⟨id, pri, every, pre, src, n, f, st, pace, wait⟩, cs, k⟩).m.n 1 (vrTake s ⟨i, p, e, []⟩ ⟨⟨id, pri, every, pre, src, n, f, st, pace, wait⟩, cs, k⟩).m.f, .int .i64 (vrTake s ⟨i, p, e, []⟩ ⟨⟨id, pri, every, pre, src, n, f, st, pace, wait⟩, cs, k⟩).m.st, .int .i64 (vrTake s ⟨i, p, e, []⟩ ⟨⟨id, pri, every, pre, src, n, f, st, pace, wait⟩, cs, k⟩).m.pace, .int .i64 (vrTake s ⟨i, p, e, []⟩ ⟨⟨id, pri, every, pre, src, n, f, st, pace, wait⟩, cs, k⟩).m.wait, .sl 2 0 (vrTake s ⟨i, p, e, []⟩ ⟨⟨id, pri, every, pre, src, n, f, st, pace, wait⟩, cs, k⟩).k 5], .dead, .flat (vrTake s ⟨i, p, e, []⟩ ⟨⟨id, pri, every, pre, src, n, f, st, pace, wait⟩, cs, k⟩).out]
  | _, _ => False
def vrOutRow : Srow := fun args H K => match args, H with
  | [.ptr 0 0], [.vals [.int .i64 id, .int .i64 pri, .int .i64 every, .bool pre, .str src, .ro n 1 f, .int .i64 st, .int .i64 pace, .int .i64 wait, .sl 1 0 k 5], .flat cs] => K (.ro k 5 (rowsOf 5 ((cs.drop 0).take (k * 5)))) [.vals [.int .i64 id, .int .i64 pri, .int .i64 every, .bool pre, .str src, .ro n 1 f, .int .i64 st, .int .i64 pace, .int .i64 wait, .sl 2 0 0 5], .dead, .flat []]
  | _, _ => False
theorem claim_vl {cs : List AVal} {R : Nat → Prop} {w : World} {xs : List Value} (hx : VL R w Mp.nil [] (cs ++ [.int .i64 2, .int .i64 0, .int .i64 0, .int .i64 0, .nilS]) xs) : VL R w Mp.nil [] (cs ++ evClaim) xs := by
  obtain ⟨x1, y, rfl, h1, h4⟩ := hx.split
  refine h1.append ?_
  obtain ⟨u1, r1, rfl, g1, g2⟩ := h4.cons_inv
  obtain ⟨u2, r2, rfl, g3, g4⟩ := g2.cons_inv
  obtain ⟨u3, r3, rfl, g5, g6⟩ := g4.cons_inv
  obtain ⟨u4, r4, rfl, g7, g8⟩ := g6.cons_inv
  obtain ⟨u5, rfl, g9⟩ := g8.one
  refine .cons g1 (.cons g3 (.cons g5 (.cons g7 (.cons ?_ .nil))))
  cases g9 with
  | nilS => exact .ro 0 1 _ none 0 0 0 (fun _ _ => .bool true) (Nat.le_refl _) (Nat.zero_le _) (Nat.zero_le _) (fun h => by omega) (fun i j v h _ => by omega) (fun i j v h _ => by omega) (fun i h => by omega)
theorem flatClaim {cs a : List AVal} {v : AVal} {A : List AVal} : ResLe v [.vals A, .dead, .flat (cs ++ (a ++ [.int .i64 2, .int .i64 0, .int .i64 0, .int .i64 0, .nilS]))] v [.vals A, .dead, .flat (cs ++ (a ++ evClaim))] := by
  refine ResLe.flat (by simp [evClaim]) fun R w xs hx => ?_
  rw [← List.append_assoc] at hx ⊢
  exact claim_vl hx
theorem moved {id pri every : Int} {pre : Bool} {src : List UInt8} {n : Nat} {f : Nat → List AVal} {st pace wait : Int} {k : Nat} {cs : List AVal} : ResLe (.tup []) [.vals [.int .i64 id, .int .i64 pri, .int .i64 every, .bool pre, .str src, .ro n 1 f, .int .i64 st, .int .i64 pace, .int .i64 wait, .sl 1 0 k 5], .flat cs] (.tup []) [.vals [.int .i64 id, .int .i64 pri, .int .i64 every, .bool pre, .str src, .ro n 1 f, .int .i64 st, .int .i64 pace, .int .i64 wait, .sl 2 0 k 5], .dead, .flat cs] :=
  ResLe.move (pre := [.int .i64 id, .int .i64 pri, .int .i64 every, .bool pre, .str src, .ro n 1 f, .int .i64 st, .int .i64 pace, .int .i64 wait]) rfl rfl
def Tvr1 : Specs := ext Tad 30 (cloneRow)
theorem Tvr1_sound : TSound Try.prog Tvr1 := ext_sound Tad_sound ((fun _ _ _ h => clone_row h))
def ann_vrrp_Skew : Nat → List Nat × Nat × List (List Nat)
  | 2000001 => ([], 15, [[], [0], [0, 1], [0, 1, 2], [0, 1, 2, 3], [0, 1, 2, 3, 4], [0, 1, 2, 3, 4, 5], [0, 1, 2, 3, 4, 5, 6], [0, 1, 2, 3, 4, 5, 6, 7], [0, 1, 2, 3, 4, 5, 6, 7, 8], [0, 1, 2, 3, 4, 5, 6, 7, 8, 9], [0, 1, 2, 3, 4, 5, 6, 7, 8, 9, 10], [0, 1, 2, 3, 4, 5, 6, 7, 8, 9, 10, 11], [0, 1, 2, 3, 4, 5, 6, 7, 8, 9, 10, 11, 12]])
  | _ => ([], 0, [])
set_option maxRecDepth 100000 in
theorem vrSkew_eq (p e : Int) (K : AVal → Hp → Prop) : fnP Try.prog Tvr1 ann_vrrp_Skew Try.f12 [.int .i64 p, .int .i64 e] [] K = (
 brP (decide (p < (0 : Int)) || decide ((255 : Int) < p) || decide (e < (1 : Int)) || decide ((4095 : Int) < e))
 (K (AVal.int IntKind.i64 (0 : Int)) [])
 (I64 ((256 : Int) - p) ∧
 I64 (((256 : Int) - p) * e) ∧
 ((256 : Int) ≠ (0 : Int) ∧ I64 (Int.tdiv (((256 : Int) - p) * e) (256 : Int))) ∧
 K (AVal.int IntKind.i64 (Int.tdiv (((256 : Int) - p) * e) (256 : Int))) [])) := by kernel_rfl
attribute [local irreducible] fnP in
theorem vrrp_Skew_p : ∀ args H K, skewRow args H K → fnP Try.prog Tvr1 ann_vrrp_Skew Try.f12 args H K := by
  intro args H K h
  unfold skewRow at h
  split at h
  · rename_i p e
    rw [vrSkew_eq]
    unfold vrSkew at h
    refine brP_i (fun hc => ?_) (fun hc => ?_) <;> simp only [Bool.and_eq_true, Bool.or_eq_true, Bool.and_eq_false_iff, Bool.or_eq_false_iff, decide_eq_true_eq, decide_eq_false_iff_not, Bool.not_eq_true', Bool.not_eq_false', Bool.not_true, Bool.not_false, Bool.true_and, Bool.and_true, Bool.false_or, Bool.or_false, beq_iff_eq, beq_eq_false_iff_ne, ne_eq] at hc
    · rw [if_pos (by omega)] at h; exact h
    · rw [if_neg (by omega)] at h
      have h1 : 0 ≤ (256 - p) * e := Int.mul_nonneg (by omega) (by omega)
      have h2 : (256 - p) * e ≤ 256 * 4095 := Int.mul_le_mul (by omega) (by omega) (by omega) (by omega)
      rw [Int.tdiv_eq_ediv_of_nonneg h1]
      generalize (256 - p) * e = z at *
      exact ⟨by unfold I64; omega, by unfold I64; omega, ⟨by omega, by unfold I64; omega⟩, h⟩
  · exact h.elim
def Tvr2 : Specs := ext Tvr1 12 (skewRow)
theorem Tvr2_sound : TSound Try.prog Tvr2 := ext_sound Tvr1_sound (row_of Tvr1_sound mixed Try.func12 (by decide +kernel) vrrp_Skew_p)
def ann__outrider_vrrp_Config__says : Nat → List Nat × Nat × List (List Nat)
  | 1 => ([], 9, [[], [0], [], [], [3], [], [5], [5, 6], [0, 1, 2, 3, 4, 5, 6, 7]])
  | _ => ([], 0, [])
def Tvr3 : Specs := ext Tvr2 32 (fnP Try.prog Tvr2 ann__outrider_vrrp_Config__says Try.f32)
theorem Tvr3_sound : TSound Try.prog Tvr3 := ext_sound Tvr2_sound (fn_row Tvr2_sound mixed Try.func32 (by decide +kernel))
def ann___outrider_vrrp_Machine__does : Nat → List Nat × Nat × List (List Nat)
  | _ => ([], 0, [])
def Tvr4 : Specs := ext Tvr3 48 (fnP Try.prog Tvr3 ann___outrider_vrrp_Machine__does Try.f48)
theorem Tvr4_sound : TSound Try.prog Tvr4 := ext_sound Tvr3_sound (fn_row Tvr3_sound mixed Try.func48 (by decide +kernel))
def ann___outrider_vrrp_Machine__Down : Nat → List Nat × Nat × List (List Nat)
  | 1 => ([], 16, [[], [0], [0, 1], [0, 1, 2], [0, 1, 2, 3], [], [5], [5, 6], [5, 6, 7], [5, 6, 7, 8], [], [10], [10, 11], [10, 11, 12], [5, 6, 7, 8, 9, 10, 11, 12, 13], [0, 1, 2, 3, 4, 5, 6, 7, 8, 9, 10, 11, 12, 13, 14]])
  | _ => ([], 0, [])
def Tvr5 : Specs := ext Tvr4 20 (fnP Try.prog Tvr4 ann___outrider_vrrp_Machine__Down Try.f20)
theorem Tvr5_sound : TSound Try.prog Tvr5 := ext_sound Tvr4_sound (fn_row Tvr4_sound mixed Try.func20 (by decide +kernel))
def ann___outrider_vrrp_Machine__State : Nat → List Nat × Nat × List (List Nat)
  | _ => ([], 0, [])
def Tvr6 : Specs := ext Tvr5 18 (fnP Try.prog Tvr5 ann___outrider_vrrp_Machine__State Try.f18)
theorem Tvr6_sound : TSound Try.prog Tvr6 := ext_sound Tvr5_sound (fn_row Tvr5_sound mixed Try.func18 (by decide +kernel))
def ann___outrider_vrrp_Machine__Wait : Nat → List Nat × Nat × List (List Nat)
  | _ => ([], 0, [])
def Tvr7 : Specs := ext Tvr6 24 (fnP Try.prog Tvr6 ann___outrider_vrrp_Machine__Wait Try.f24)
theorem Tvr7_sound : TSound Try.prog Tvr7 := ext_sound Tvr6_sound (fn_row Tvr6_sound mixed Try.func24 (by decide +kernel))
def ann___outrider_vrrp_Machine__lead : Nat → List Nat × Nat × List (List Nat)
  | 0 => ([], 15, [[10, 13, 14], [], [], [1], [1, 2], [1, 2, 3], [], [5], [5, 6], [5, 6, 7], [5, 6, 7, 8], [1, 2, 3, 4, 5, 6, 7, 8, 9], [1, 2, 3, 4, 5, 6, 7, 8, 9, 10], [], [1, 2, 3, 4, 5, 6, 7, 8, 9, 10, 11, 12], [0, 1, 2, 3, 4, 5, 6, 7, 8, 9, 10, 11, 12, 13]])
  | _ => ([], 0, [])
set_option maxRecDepth 100000 in
theorem vrLead_eq (id pri every : Int) (pre : Bool) (src : List UInt8) (n : Nat) (f : Nat → List AVal) (st pace wait : Int) (k : Nat) (cs : List AVal) (K : AVal → Hp → Prop) : fnP Try.prog Tvr7 ann___outrider_vrrp_Machine__lead Try.f33 [.ptr 0 0] [.vals [.int .i64 id, .int .i64 pri, .int .i64 every, .bool pre, .str src, .ro n 1 f, .int .i64 st, .int .i64 pace, .int .i64 wait, .sl 1 0 k 5], .flat cs] K = (
 n ≤ (8796093022000 : Nat) ∧
 ((k + (2 : Nat)) * (56 : Nat) ≤ (140737488355328 : Nat) ∧ List.length cs = k * (5 : Nat)) ∧
 K (AVal.tup [])
 [ABlk.vals
 [AVal.int IntKind.i64 id, AVal.int IntKind.i64 pri, AVal.int IntKind.i64 every, AVal.bool pre, AVal.str src,
 AVal.ro n (1 : Nat) f, AVal.int IntKind.i64 (3 : Int), AVal.int IntKind.i64 pace, AVal.int IntKind.i64 every,
 AVal.sl (2 : Nat) (0 : Nat) (k + (2 : Nat)) (5 : Nat)],
 ABlk.dead,
 ABlk.flat
 (cs ++
 [AVal.int IntKind.i64 (1 : Int), AVal.int IntKind.i64 id, AVal.int IntKind.i64 pri, AVal.int IntKind.i64 every,
 AVal.ro n (1 : Nat) f, AVal.int IntKind.i64 (2 : Int), AVal.int IntKind.i64 (0 : Int),
 AVal.int IntKind.i64 (0 : Int), AVal.int IntKind.i64 (0 : Int), AVal.nilS])]) := by kernel_rfl
attribute [local irreducible] fnP in
theorem __outrider_vrrp_Machine__lead_p : ∀ args H K, vrRow2 VB vrLead args H K → ∃ args', ArgsLe H args args' ∧ fnP Try.prog Tvr7 ann___outrider_vrrp_Machine__lead Try.f33 args' H (fun v H' => ∃ v2 H2, ResLe v H' v2 H2 ∧ K v2 H2) := by
  intro args H K h
  unfold vrRow2 at h
  split at h
  · rename_i id pri every pre src n f st pace wait k cs
    refine ⟨_, .refl, ?_⟩
    rw [vrLead_eq]
    obtain ⟨hb, hK⟩ := h
    have hk := hb.k
    have hn := hb.n
    have hl := hb.len
    exact ⟨by simp only at hn; omega, ⟨by simp only at hk; omega, hl⟩, _, _, flatClaim (a := evSay ⟨id, pri, every, pre, src, n, f, st, pace, wait⟩ pri), hK⟩
  · exact h.elim
def Tvr8 : Specs := ext Tvr7 33 (vrRow2 VB vrLead)
theorem Tvr8_sound : TSound Try.prog Tvr8 := ext_sound Tvr7_sound (row_weak Tvr7_sound mixed Try.func33 (by decide +kernel) __outrider_vrrp_Machine__lead_p)
def ann___outrider_vrrp_Machine__follow : Nat → List Nat × Nat × List (List Nat)
  | _ => ([], 0, [])
set_option maxRecDepth 100000 in
theorem vrFol_eq (q : Int) (id pri every : Int) (pre : Bool) (src : List UInt8) (n : Nat) (f : Nat → List AVal) (st pace wait : Int) (k : Nat) (cs : List AVal) (K : AVal → Hp → Prop) : fnP Try.prog Tvr8 ann___outrider_vrrp_Machine__follow Try.f34 [.ptr 0 0, .int .i64 q] [.vals [.int .i64 id, .int .i64 pri, .int .i64 every, .bool pre, .str src, .ro n 1 f, .int .i64 st, .int .i64 pace, .int .i64 wait, .sl 1 0 k 5], .flat cs] K = (
 I64
 ((3 : Int) *
 if (4095 : Int) < if q < (1 : Int) then (1 : Int) else q then (4095 : Int)
 else if q < (1 : Int) then (1 : Int) else q) ∧
 I64
 (((3 : Int) *
 if (4095 : Int) < if q < (1 : Int) then (1 : Int) else q then (4095 : Int)
 else if q < (1 : Int) then (1 : Int) else q) +
 vrSkew pri
 (if (4095 : Int) < if q < (1 : Int) then (1 : Int) else q then (4095 : Int)
 else if q < (1 : Int) then (1 : Int) else q)) ∧
 K (AVal.tup [])
 [ABlk.vals
 [AVal.int IntKind.i64 id, AVal.int IntKind.i64 pri, AVal.int IntKind.i64 every, AVal.bool pre, AVal.str src,
 AVal.ro n (1 : Nat) f, AVal.int IntKind.i64 (2 : Int),
 AVal.int IntKind.i64
 (if (4095 : Int) < if q < (1 : Int) then (1 : Int) else q then (4095 : Int)
 else if q < (1 : Int) then (1 : Int) else q),
 AVal.int IntKind.i64
 (((3 : Int) *
 if (4095 : Int) < if q < (1 : Int) then (1 : Int) else q then (4095 : Int)
 else if q < (1 : Int) then (1 : Int) else q) +
 vrSkew pri
 (if (4095 : Int) < if q < (1 : Int) then (1 : Int) else q then (4095 : Int)
 else if q < (1 : Int) then (1 : Int) else q)),
 AVal.sl (1 : Nat) (0 : Nat) k (5 : Nat)],
 ABlk.flat cs]) := by kernel_rfl
attribute [local irreducible] fnP in
theorem __outrider_vrrp_Machine__follow_p : ∀ args H K, vrRow1i vrFollow args H K → ∃ args', ArgsLe H args args' ∧ fnP Try.prog Tvr8 ann___outrider_vrrp_Machine__follow Try.f34 args' H (fun v H' => ∃ v2 H2, ResLe v H' v2 H2 ∧ K v2 H2) := by
  intro args H K h
  unfold vrRow1i at h
  split at h
  · rename_i q id pri every pre src n f st pace wait k cs
    refine ⟨_, .refl, ?_⟩
    rw [vrFol_eq]
    obtain ⟨hb, hK⟩ := h
    have h1 := vrPace_bd q
    have h2 := vrSkew_bd pri (vrPace q)
    refine ⟨?_, ?_, _, _, .refl, hK⟩
    · show I64 (3 * vrPace q); unfold I64; omega
    · show I64 (3 * vrPace q + vrSkew pri (vrPace q)); unfold I64; omega
  · exact h.elim
def Tvr9 : Specs := ext Tvr8 34 (vrRow1i vrFollow)
theorem Tvr9_sound : TSound Try.prog Tvr9 := ext_sound Tvr8_sound (row_weak Tvr8_sound mixed Try.func34 (by decide +kernel) __outrider_vrrp_Machine__follow_p)
def ann___outrider_vrrp_Machine__say : Nat → List Nat × Nat × List (List Nat)
  | _ => ([], 0, [])
set_option maxRecDepth 100000 in
theorem vrSay_eq (q : Int) (id pri every : Int) (pre : Bool) (src : List UInt8) (n : Nat) (f : Nat → List AVal) (st pace wait : Int) (k : Nat) (cs : List AVal) (K : AVal → Hp → Prop) : fnP Try.prog Tvr9 ann___outrider_vrrp_Machine__say Try.f35 [.ptr 0 0, .int .i64 q] [.vals [.int .i64 id, .int .i64 pri, .int .i64 every, .bool pre, .str src, .ro n 1 f, .int .i64 st, .int .i64 pace, .int .i64 wait, .sl 1 0 k 5], .flat cs] K = (
 n ≤ (8796093022000 : Nat) ∧
 ((k + (1 : Nat)) * (56 : Nat) ≤ (140737488355328 : Nat) ∧ List.length cs = k * (5 : Nat)) ∧
 K (AVal.tup [])
 [ABlk.vals
 [AVal.int IntKind.i64 id, AVal.int IntKind.i64 pri, AVal.int IntKind.i64 every, AVal.bool pre, AVal.str src,
 AVal.ro n (1 : Nat) f, AVal.int IntKind.i64 st, AVal.int IntKind.i64 pace, AVal.int IntKind.i64 every,
 AVal.sl (2 : Nat) (0 : Nat) (k + (1 : Nat)) (5 : Nat)],
 ABlk.dead,
 ABlk.flat
 (cs ++
 [AVal.int IntKind.i64 (1 : Int), AVal.int IntKind.i64 id, AVal.int IntKind.i64 q, AVal.int IntKind.i64 every,
 AVal.ro n (1 : Nat) f])]) := by kernel_rfl
attribute [local irreducible] fnP in
theorem __outrider_vrrp_Machine__say_p : ∀ args H K, vrRow2i vrSay args H K → ∃ args', ArgsLe H args args' ∧ fnP Try.prog Tvr9 ann___outrider_vrrp_Machine__say Try.f35 args' H (fun v H' => ∃ v2 H2, ResLe v H' v2 H2 ∧ K v2 H2) := by
  intro args H K h
  unfold vrRow2i at h
  split at h
  · rename_i q id pri every pre src n f st pace wait k cs
    refine ⟨_, .refl, ?_⟩
    rw [vrSay_eq]
    obtain ⟨hb, hK⟩ := h
    have hk := hb.k
    have hn := hb.n
    have hl := hb.len
    exact ⟨by simp only at hn; omega, ⟨by simp only at hk; omega, hl⟩, _, _, .refl, hK⟩
  · exact h.elim
def Tvr10 : Specs := ext Tvr9 35 (vrRow2i vrSay)
theorem Tvr10_sound : TSound Try.prog Tvr10 := ext_sound Tvr9_sound (row_weak Tvr9_sound mixed Try.func35 (by decide +kernel) __outrider_vrrp_Machine__say_p)
def ann___outrider_vrrp_Machine__Start : Nat → List Nat × Nat × List (List Nat)
  | _ => ([], 0, [])
set_option maxRecDepth 100000 in
theorem vrStart_eq (id pri every : Int) (pre : Bool) (src : List UInt8) (n : Nat) (f : Nat → List AVal) (st pace wait : Int) (k : Nat) (cs : List AVal) (K : AVal → Hp → Prop) : fnP Try.prog Tvr10 ann___outrider_vrrp_Machine__Start Try.f15 [.ptr 0 0] [.vals [.int .i64 id, .int .i64 pri, .int .i64 every, .bool pre, .str src, .ro n 1 f, .int .i64 st, .int .i64 pace, .int .i64 wait, .sl 1 0 k 5], .flat cs] K = (
 brP (!decide (st = (1 : Int)))
 (K (AVal.tup [])
 [ABlk.vals
 [AVal.int IntKind.i64 id, AVal.int IntKind.i64 pri, AVal.int IntKind.i64 every, AVal.bool pre, AVal.str src,
 AVal.ro n (1 : Nat) f, AVal.int IntKind.i64 st, AVal.int IntKind.i64 pace, AVal.int IntKind.i64 wait,
 AVal.sl (1 : Nat) (0 : Nat) k (5 : Nat)],
 ABlk.flat cs])
 (brP (decide (pri = (255 : Int)))
 (VB (VX.mk (VM.mk id pri every pre src n f st pace wait) cs k) ∧
 K (AVal.tup [])
 [ABlk.vals
 [AVal.int IntKind.i64 (vrLead (VX.mk (VM.mk id pri every pre src n f st pace wait) cs k)).m.id,
 AVal.int IntKind.i64 (vrLead (VX.mk (VM.mk id pri every pre src n f st pace wait) cs k)).m.pri,
 AVal.int IntKind.i64 (vrLead (VX.mk (VM.mk id pri every pre src n f st pace wait) cs k)).m.every,
 AVal.bool (vrLead (VX.mk (VM.mk id pri every pre src n f st pace wait) cs k)).m.pre,
 AVal.str (vrLead (VX.mk (VM.mk id pri every pre src n f st pace wait) cs k)).m.src,
 AVal.ro (vrLead (VX.mk (VM.mk id pri every pre src n f st pace wait) cs k)).m.n (1 : Nat)
 (vrLead (VX.mk (VM.mk id pri every pre src n f st pace wait) cs k)).m.f,
 AVal.int IntKind.i64 (vrLead (VX.mk (VM.mk id pri every pre src n f st pace wait) cs k)).m.st,
 AVal.int IntKind.i64 (vrLead (VX.mk (VM.mk id pri every pre src n f st pace wait) cs k)).m.pace,
 AVal.int IntKind.i64 (vrLead (VX.mk (VM.mk id pri every pre src n f st pace wait) cs k)).m.wait,
 AVal.sl (2 : Nat) (0 : Nat) (vrLead (VX.mk (VM.mk id pri every pre src n f st pace wait) cs k)).k (5 : Nat)],
 ABlk.dead, ABlk.flat (vrLead (VX.mk (VM.mk id pri every pre src n f st pace wait) cs k)).out])
 (VB (VX.mk (VM.mk id pri every pre src n f st pace wait) cs k) ∧
 K (AVal.tup [])
 [ABlk.vals
 [AVal.int IntKind.i64 (vrFollow every (VX.mk (VM.mk id pri every pre src n f st pace wait) cs k)).m.id,
 AVal.int IntKind.i64 (vrFollow every (VX.mk (VM.mk id pri every pre src n f st pace wait) cs k)).m.pri,
 AVal.int IntKind.i64 (vrFollow every (VX.mk (VM.mk id pri every pre src n f st pace wait) cs k)).m.every,
 AVal.bool (vrFollow every (VX.mk (VM.mk id pri every pre src n f st pace wait) cs k)).m.pre,
 AVal.str (vrFollow every (VX.mk (VM.mk id pri every pre src n f st pace wait) cs k)).m.src,
 AVal.ro (vrFollow every (VX.mk (VM.mk id pri every pre src n f st pace wait) cs k)).m.n (1 : Nat)
 (vrFollow every (VX.mk (VM.mk id pri every pre src n f st pace wait) cs k)).m.f,
 AVal.int IntKind.i64 (vrFollow every (VX.mk (VM.mk id pri every pre src n f st pace wait) cs k)).m.st,
 AVal.int IntKind.i64 (vrFollow every (VX.mk (VM.mk id pri every pre src n f st pace wait) cs k)).m.pace,
 AVal.int IntKind.i64 (vrFollow every (VX.mk (VM.mk id pri every pre src n f st pace wait) cs k)).m.wait,
 AVal.sl (1 : Nat) (0 : Nat) (vrFollow every (VX.mk (VM.mk id pri every pre src n f st pace wait) cs k)).k
 (5 : Nat)],
 ABlk.flat cs]))) := by kernel_rfl
attribute [local irreducible] fnP in
theorem __outrider_vrrp_Machine__Start_p : ∀ args H K, vrRow2 VB vrStart args H K → ∃ args', ArgsLe H args args' ∧ fnP Try.prog Tvr10 ann___outrider_vrrp_Machine__Start Try.f15 args' H (fun v H' => ∃ v2 H2, ResLe v H' v2 H2 ∧ K v2 H2) := by
  intro args H K h
  unfold vrRow2 at h
  split at h
  · rename_i id pri every pre src n f st pace wait k cs
    refine ⟨_, .refl, ?_⟩
    rw [vrStart_eq]
    obtain ⟨hb, hK⟩ := h
    refine brP_nd (fun hc => ?_) (fun hc => brP_d (fun hp => ⟨hb, ?_⟩) (fun hp => ⟨hb, ?_⟩))
    · rw [show vrStart ⟨⟨id, pri, every, pre, src, n, f, st, pace, wait⟩, cs, k⟩ = ⟨⟨id, pri, every, pre, src, n, f, st, pace, wait⟩, cs, k⟩ from if_pos hc] at hK
      exact ⟨_, _, moved, hK⟩
    · rw [show vrStart ⟨⟨id, pri, every, pre, src, n, f, st, pace, wait⟩, cs, k⟩ = vrLead ⟨⟨id, pri, every, pre, src, n, f, st, pace, wait⟩, cs, k⟩ from by unfold vrStart; rw [if_neg (by simpa using hc), if_pos hp]] at hK
      exact ⟨_, _, .refl, hK⟩
    · rw [show vrStart ⟨⟨id, pri, every, pre, src, n, f, st, pace, wait⟩, cs, k⟩ = vrFollow every ⟨⟨id, pri, every, pre, src, n, f, st, pace, wait⟩, cs, k⟩ from by unfold vrStart; rw [if_neg (by simpa using hc), if_neg hp]] at hK
      exact ⟨_, _, moved, hK⟩
  · exact h.elim
def Tvr11 : Specs := ext Tvr10 15 (vrRow2 VB vrStart)
theorem Tvr11_sound : TSound Try.prog Tvr11 := ext_sound Tvr10_sound (row_weak Tvr10_sound mixed Try.func15 (by decide +kernel) __outrider_vrrp_Machine__Start_p)
def ann___outrider_vrrp_Machine__Stop : Nat → List Nat × Nat × List (List Nat)
  | _ => ([], 0, [])
set_option maxRecDepth 100000 in
theorem vrStop_eq (id pri every : Int) (pre : Bool) (src : List UInt8) (n : Nat) (f : Nat → List AVal) (st pace wait : Int) (k : Nat) (cs : List AVal) (K : AVal → Hp → Prop) : fnP Try.prog Tvr11 ann___outrider_vrrp_Machine__Stop Try.f29 [.ptr 0 0] [.vals [.int .i64 id, .int .i64 pri, .int .i64 every, .bool pre, .str src, .ro n 1 f, .int .i64 st, .int .i64 pace, .int .i64 wait, .sl 1 0 k 5], .flat cs] K = (
 brP (decide (st = (3 : Int)))
 (VB (VX.mk (VM.mk id pri every pre src n f st pace wait) cs k) ∧
 K (AVal.tup [])
 [ABlk.vals
 [AVal.int IntKind.i64 (vrSay (0 : Int) (VX.mk (VM.mk id pri every pre src n f st pace wait) cs k)).m.id,
 AVal.int IntKind.i64 (vrSay (0 : Int) (VX.mk (VM.mk id pri every pre src n f st pace wait) cs k)).m.pri,
 AVal.int IntKind.i64 (vrSay (0 : Int) (VX.mk (VM.mk id pri every pre src n f st pace wait) cs k)).m.every,
 AVal.bool (vrSay (0 : Int) (VX.mk (VM.mk id pri every pre src n f st pace wait) cs k)).m.pre,
 AVal.str (vrSay (0 : Int) (VX.mk (VM.mk id pri every pre src n f st pace wait) cs k)).m.src,
 AVal.ro (vrSay (0 : Int) (VX.mk (VM.mk id pri every pre src n f st pace wait) cs k)).m.n (1 : Nat)
 (vrSay (0 : Int) (VX.mk (VM.mk id pri every pre src n f st pace wait) cs k)).m.f,
 AVal.int IntKind.i64 (1 : Int),
 AVal.int IntKind.i64 (vrSay (0 : Int) (VX.mk (VM.mk id pri every pre src n f st pace wait) cs k)).m.pace,
 AVal.int IntKind.i64 (0 : Int),
 AVal.sl (2 : Nat) (0 : Nat) (vrSay (0 : Int) (VX.mk (VM.mk id pri every pre src n f st pace wait) cs k)).k
 (5 : Nat)],
 ABlk.dead, ABlk.flat (vrSay (0 : Int) (VX.mk (VM.mk id pri every pre src n f st pace wait) cs k)).out])
 (K (AVal.tup [])
 [ABlk.vals
 [AVal.int IntKind.i64 id, AVal.int IntKind.i64 pri, AVal.int IntKind.i64 every, AVal.bool pre, AVal.str src,
 AVal.ro n (1 : Nat) f, AVal.int IntKind.i64 (1 : Int), AVal.int IntKind.i64 pace, AVal.int IntKind.i64 (0 : Int),
 AVal.sl (1 : Nat) (0 : Nat) k (5 : Nat)],
 ABlk.flat cs])) := by kernel_rfl
attribute [local irreducible] fnP in
theorem __outrider_vrrp_Machine__Stop_p : ∀ args H K, vrRow2 VB vrStop args H K → ∃ args', ArgsLe H args args' ∧ fnP Try.prog Tvr11 ann___outrider_vrrp_Machine__Stop Try.f29 args' H (fun v H' => ∃ v2 H2, ResLe v H' v2 H2 ∧ K v2 H2) := by
  intro args H K h
  unfold vrRow2 at h
  split at h
  · rename_i id pri every pre src n f st pace wait k cs
    refine ⟨_, .refl, ?_⟩
    rw [vrStop_eq]
    obtain ⟨hb, hK⟩ := h
    refine brP_d (fun hc => ⟨hb, ?_⟩) (fun hc => ?_)
    · rw [show vrStop ⟨⟨id, pri, every, pre, src, n, f, st, pace, wait⟩, cs, k⟩ = vrSet 1 0 (vrSay 0 ⟨⟨id, pri, every, pre, src, n, f, st, pace, wait⟩, cs, k⟩) from by unfold vrStop; rw [if_pos hc]] at hK
      exact ⟨_, _, .refl, hK⟩
    · rw [show vrStop ⟨⟨id, pri, every, pre, src, n, f, st, pace, wait⟩, cs, k⟩ = vrSet 1 0 ⟨⟨id, pri, every, pre, src, n, f, st, pace, wait⟩, cs, k⟩ from by unfold vrStop; rw [if_neg hc]] at hK
      exact ⟨_, _, moved, hK⟩
  · exact h.elim
def Tvr12 : Specs := ext Tvr11 29 (vrRow2 VB vrStop)
theorem Tvr12_sound : TSound Try.prog Tvr12 := ext_sound Tvr11_sound (row_weak Tvr11_sound mixed Try.func29 (by decide +kernel) __outrider_vrrp_Machine__Stop_p)
def ann___outrider_vrrp_Machine__Tick : Nat → List Nat × Nat × List (List Nat)
  | _ => ([], 0, [])
set_option maxRecDepth 100000 in
theorem vrTick_eq (id pri every : Int) (pre : Bool) (src : List UInt8) (n : Nat) (f : Nat → List AVal) (st pace wait : Int) (k : Nat) (cs : List AVal) (K : AVal → Hp → Prop) : fnP Try.prog Tvr12 ann___outrider_vrrp_Machine__Tick Try.f17 [.ptr 0 0] [.vals [.int .i64 id, .int .i64 pri, .int .i64 every, .bool pre, .str src, .ro n 1 f, .int .i64 st, .int .i64 pace, .int .i64 wait, .sl 1 0 k 5], .flat cs] K = (
 brP (decide (st = (1 : Int)))
 (K (AVal.tup [])
 [ABlk.vals
 [AVal.int IntKind.i64 id, AVal.int IntKind.i64 pri, AVal.int IntKind.i64 every, AVal.bool pre, AVal.str src,
 AVal.ro n (1 : Nat) f, AVal.int IntKind.i64 st, AVal.int IntKind.i64 pace, AVal.int IntKind.i64 wait,
 AVal.sl (1 : Nat) (0 : Nat) k (5 : Nat)],
 ABlk.flat cs])
 (I64 (wait - (1 : Int)) ∧
 brP (decide ((0 : Int) < wait - (1 : Int)))
 (K (AVal.tup [])
 [ABlk.vals
 [AVal.int IntKind.i64 id, AVal.int IntKind.i64 pri, AVal.int IntKind.i64 every, AVal.bool pre, AVal.str src,
 AVal.ro n (1 : Nat) f, AVal.int IntKind.i64 st, AVal.int IntKind.i64 pace,
 AVal.int IntKind.i64 (wait - (1 : Int)), AVal.sl (1 : Nat) (0 : Nat) k (5 : Nat)],
 ABlk.flat cs])
 (brP (decide (st = (2 : Int)))
 (VB (VX.mk (VM.mk id pri every pre src n f st pace (wait - (1 : Int))) cs k) ∧
 K (AVal.tup [])
 [ABlk.vals
 [AVal.int IntKind.i64 (vrLead (VX.mk (VM.mk id pri every pre src n f st pace (wait - (1 : Int))) cs k)).m.id,
 AVal.int IntKind.i64 (vrLead (VX.mk (VM.mk id pri every pre src n f st pace (wait - (1 : Int))) cs k)).m.pri,
 AVal.int IntKind.i64
 (vrLead (VX.mk (VM.mk id pri every pre src n f st pace (wait - (1 : Int))) cs k)).m.every,
 AVal.bool (vrLead (VX.mk (VM.mk id pri every pre src n f st pace (wait - (1 : Int))) cs k)).m.pre,
 AVal.str (vrLead (VX.mk (VM.mk id pri every pre src n f st pace (wait - (1 : Int))) cs k)).m.src,
 AVal.ro (vrLead (VX.mk (VM.mk id pri every pre src n f st pace (wait - (1 : Int))) cs k)).m.n (1 : Nat)
 (vrLead (VX.mk (VM.mk id pri every pre src n f st pace (wait - (1 : Int))) cs k)).m.f,
 AVal.int IntKind.i64 (vrLead (VX.mk (VM.mk id pri every pre src n f st pace (wait - (1 : Int))) cs k)).m.st,
 AVal.int IntKind.i64 (vrLead (VX.mk (VM.mk id pri every pre src n f st pace (wait - (1 : Int))) cs k)).m.pace,
 AVal.int IntKind.i64 (vrLead (VX.mk (VM.mk id pri every pre src n f st pace (wait - (1 : Int))) cs k)).m.wait,
 AVal.sl (2 : Nat) (0 : Nat)
 (vrLead (VX.mk (VM.mk id pri every pre src n f st pace (wait - (1 : Int))) cs k)).k (5 : Nat)],
 ABlk.dead, ABlk.flat (vrLead (VX.mk (VM.mk id pri every pre src n f st pace (wait - (1 : Int))) cs k)).out])
 (VB (VX.mk (VM.mk id pri every pre src n f st pace (wait - (1 : Int))) cs k) ∧
 K (AVal.tup [])
 [ABlk.vals
 [AVal.int IntKind.i64
 (vrSay pri (VX.mk (VM.mk id pri every pre src n f st pace (wait - (1 : Int))) cs k)).m.id,
 AVal.int IntKind.i64
 (vrSay pri (VX.mk (VM.mk id pri every pre src n f st pace (wait - (1 : Int))) cs k)).m.pri,
 AVal.int IntKind.i64
 (vrSay pri (VX.mk (VM.mk id pri every pre src n f st pace (wait - (1 : Int))) cs k)).m.every,
 AVal.bool (vrSay pri (VX.mk (VM.mk id pri every pre src n f st pace (wait - (1 : Int))) cs k)).m.pre,
 AVal.str (vrSay pri (VX.mk (VM.mk id pri every pre src n f st pace (wait - (1 : Int))) cs k)).m.src,
 AVal.ro (vrSay pri (VX.mk (VM.mk id pri every pre src n f st pace (wait - (1 : Int))) cs k)).m.n (1 : Nat)
 (vrSay pri (VX.mk (VM.mk id pri every pre src n f st pace (wait - (1 : Int))) cs k)).m.f,
 AVal.int IntKind.i64
 (vrSay pri (VX.mk (VM.mk id pri every pre src n f st pace (wait - (1 : Int))) cs k)).m.st,
 AVal.int IntKind.i64
 (vrSay pri (VX.mk (VM.mk id pri every pre src n f st pace (wait - (1 : Int))) cs k)).m.pace,
 AVal.int IntKind.i64
 (vrSay pri (VX.mk (VM.mk id pri every pre src n f st pace (wait - (1 : Int))) cs k)).m.wait,
 AVal.sl (2 : Nat) (0 : Nat)
 (vrSay pri (VX.mk (VM.mk id pri every pre src n f st pace (wait - (1 : Int))) cs k)).k (5 : Nat)],
 ABlk.dead,
 ABlk.flat (vrSay pri (VX.mk (VM.mk id pri every pre src n f st pace (wait - (1 : Int))) cs k)).out])))) := by kernel_rfl
attribute [local irreducible] fnP in
theorem __outrider_vrrp_Machine__Tick_p : ∀ args H K, vrRow2 VBw vrTick args H K → ∃ args', ArgsLe H args args' ∧ fnP Try.prog Tvr12 ann___outrider_vrrp_Machine__Tick Try.f17 args' H (fun v H' => ∃ v2 H2, ResLe v H' v2 H2 ∧ K v2 H2) := by
  intro args H K h
  unfold vrRow2 at h
  split at h
  · rename_i id pri every pre src n f st pace wait k cs
    refine ⟨_, .refl, ?_⟩
    rw [vrTick_eq]
    obtain ⟨hb, hK⟩ := h
    obtain ⟨hb, hw0⟩ := hb
    simp only at hw0
    refine brP_d (fun hc => ?_) (fun hc => ⟨by unfold I64; omega, brP_d (fun hw => ?_) (fun hw => brP_d (fun hs => ⟨?_, ?_⟩) (fun hs => ⟨?_, ?_⟩))⟩)
    · rw [show vrTick ⟨⟨id, pri, every, pre, src, n, f, st, pace, wait⟩, cs, k⟩ = ⟨⟨id, pri, every, pre, src, n, f, st, pace, wait⟩, cs, k⟩ from if_pos hc] at hK
      exact ⟨_, _, moved, hK⟩
    · rw [show vrTick ⟨⟨id, pri, every, pre, src, n, f, st, pace, wait⟩, cs, k⟩ = vrSet st (wait - 1) ⟨⟨id, pri, every, pre, src, n, f, st, pace, wait⟩, cs, k⟩ from by unfold vrTick; rw [if_neg hc, if_pos hw]] at hK
      exact ⟨_, _, moved, hK⟩
    · exact ⟨hb.every, hb.pri, hb.pace, hb.st, hb.n, hb.len, hb.k⟩
    · rw [show vrTick ⟨⟨id, pri, every, pre, src, n, f, st, pace, wait⟩, cs, k⟩ = vrLead ⟨⟨id, pri, every, pre, src, n, f, st, pace, wait⟩, cs, k⟩ from by unfold vrTick; rw [if_neg hc, if_neg hw, if_pos hs]] at hK
      exact ⟨_, _, .refl, hK⟩
    · exact ⟨hb.every, hb.pri, hb.pace, hb.st, hb.n, hb.len, hb.k⟩
    · rw [show vrTick ⟨⟨id, pri, every, pre, src, n, f, st, pace, wait⟩, cs, k⟩ = vrSay pri ⟨⟨id, pri, every, pre, src, n, f, st, pace, wait⟩, cs, k⟩ from by unfold vrTick; rw [if_neg hc, if_neg hw, if_neg hs]] at hK
      exact ⟨_, _, .refl, hK⟩
  · exact h.elim
def Tvr13 : Specs := ext Tvr12 17 (vrRow2 VBw vrTick)
theorem Tvr13_sound : TSound Try.prog Tvr13 := ext_sound Tvr12_sound (row_weak Tvr12_sound mixed Try.func17 (by decide +kernel) __outrider_vrrp_Machine__Tick_p)
def ann___outrider_vrrp_Machine__Take : Nat → List Nat × Nat × List (List Nat)
  | 1 => ([], 8, [[], [0], [], [2], [2, 3], [2, 3, 4], [2, 3, 4, 5], [0, 1, 2, 3, 4, 5, 6]])
  | 2000007 => ([], 13, [[], [0], [0, 1], [0, 1, 2], [0, 1, 2, 3], [0, 1, 2, 3, 4], [0, 1, 2, 3, 4, 5], [0, 1, 2, 3, 4, 5, 6], [0, 1, 2, 3, 4, 5, 6, 7], [0, 1, 2, 3, 4, 5, 6, 7, 8], [0, 1, 2, 3, 4, 5, 6, 7, 8, 9], [0, 1, 2, 3, 4, 5, 6, 7, 8, 9, 10]])
  | 2000012 => ([], 20, [[], [0], [0, 1], [0, 1, 2], [0, 1, 2, 3], [0, 1, 2, 3, 4], [0, 1, 2, 3, 4, 5], [0, 1, 2, 3, 4, 5, 6], [0, 1, 2, 3, 4, 5, 6, 7], [0, 1, 2, 3, 4, 5, 6, 7, 8], [0, 1, 2, 3, 4, 5, 6, 7, 8, 9], [0, 1, 2, 3, 4, 5, 6, 7, 8, 9, 10], [0, 1, 2, 3, 4, 5, 6, 7, 8, 9, 10, 11], [0, 1, 2, 3, 4, 5, 6, 7, 8, 9, 10, 11, 12], [0, 1, 2, 3, 4, 5, 6, 7, 8, 9, 10, 11, 12, 13], [0, 1, 2, 3, 4, 5, 6, 7, 8, 9, 10, 11, 12, 13, 14], [0, 1, 2, 3, 4, 5, 6, 7, 8, 9, 10, 11, 12, 13, 14, 15], [0, 1, 2, 3, 4, 5, 6, 7, 8, 9, 10, 11, 12, 13, 14, 15, 16], [0, 1, 2, 3, 4, 5, 6, 7, 8, 9, 10, 11, 12, 13, 14, 15, 16, 17]])
  | _ => ([], 0, [])
set_option maxRecDepth 100000 in
theorem vrTake_eq (s : List UInt8) (i p e : Int) (m : Nat) (u : Nat → List AVal) (id pri every : Int) (pre : Bool) (src : List UInt8) (n : Nat) (f : Nat → List AVal) (st pace wait : Int) (k : Nat) (cs : List AVal) (K : AVal → Hp → Prop) : fnP Try.prog Tvr13 ann___outrider_vrrp_Machine__Take Try.f19 [.ptr 0 0, .str s, .agg [.int .i64 i, .int .i64 p, .int .i64 e, .ro m 1 u]] [.vals [.int .i64 id, .int .i64 pri, .int .i64 every, .bool pre, .str src, .ro n 1 f, .int .i64 st, .int .i64 pace, .int .i64 wait, .sl 1 0 k 5], .flat cs] K = (
 brP (!decide (i = id))
 (K (AVal.tup [])
 [ABlk.vals
 [AVal.int IntKind.i64 id, AVal.int IntKind.i64 pri, AVal.int IntKind.i64 every, AVal.bool pre, AVal.str src,
 AVal.ro n (1 : Nat) f, AVal.int IntKind.i64 st, AVal.int IntKind.i64 pace, AVal.int IntKind.i64 wait,
 AVal.sl (1 : Nat) (0 : Nat) k (5 : Nat)],
 ABlk.flat cs])
 (brP (decide (st = (2 : Int)))
 (brP (decide (p = (0 : Int)))
 (K (AVal.tup [])
 [ABlk.vals
 [AVal.int IntKind.i64 id, AVal.int IntKind.i64 pri, AVal.int IntKind.i64 every, AVal.bool pre, AVal.str src,
 AVal.ro n (1 : Nat) f, AVal.int IntKind.i64 st, AVal.int IntKind.i64 pace,
 AVal.int IntKind.i64 (if vrSkew pri pace < (1 : Int) then (1 : Int) else vrSkew pri pace),
 AVal.sl (1 : Nat) (0 : Nat) k (5 : Nat)],
 ABlk.flat cs])
 (brP (!pre || decide (pri ≤ p))
 (VB (VX.mk (VM.mk id pri every pre src n f st pace wait) cs k) ∧
 K (AVal.tup [])
 [ABlk.vals
 [AVal.int IntKind.i64 (vrFollow e (VX.mk (VM.mk id pri every pre src n f st pace wait) cs k)).m.id,
 AVal.int IntKind.i64 (vrFollow e (VX.mk (VM.mk id pri every pre src n f st pace wait) cs k)).m.pri,
 AVal.int IntKind.i64 (vrFollow e (VX.mk (VM.mk id pri every pre src n f st pace wait) cs k)).m.every,
 AVal.bool (vrFollow e (VX.mk (VM.mk id pri every pre src n f st pace wait) cs k)).m.pre,
 AVal.str (vrFollow e (VX.mk (VM.mk id pri every pre src n f st pace wait) cs k)).m.src,
 AVal.ro (vrFollow e (VX.mk (VM.mk id pri every pre src n f st pace wait) cs k)).m.n (1 : Nat)
 (vrFollow e (VX.mk (VM.mk id pri every pre src n f st pace wait) cs k)).m.f,
 AVal.int IntKind.i64 (vrFollow e (VX.mk (VM.mk id pri every pre src n f st pace wait) cs k)).m.st,
 AVal.int IntKind.i64 (vrFollow e (VX.mk (VM.mk id pri every pre src n f st pace wait) cs k)).m.pace,
 AVal.int IntKind.i64 (vrFollow e (VX.mk (VM.mk id pri every pre src n f st pace wait) cs k)).m.wait,
 AVal.sl (1 : Nat) (0 : Nat) (vrFollow e (VX.mk (VM.mk id pri every pre src n f st pace wait) cs k)).k
 (5 : Nat)],
 ABlk.flat cs])
 (K (AVal.tup [])
 [ABlk.vals
 [AVal.int IntKind.i64 id, AVal.int IntKind.i64 pri, AVal.int IntKind.i64 every, AVal.bool pre, AVal.str src,
 AVal.ro n (1 : Nat) f, AVal.int IntKind.i64 st, AVal.int IntKind.i64 pace, AVal.int IntKind.i64 wait,
 AVal.sl (1 : Nat) (0 : Nat) k (5 : Nat)],
 ABlk.flat cs])))
 (brP (decide (st = (3 : Int)))
 (brP (decide (p = (0 : Int)))
 (VB (VX.mk (VM.mk id pri every pre src n f st pace wait) cs k) ∧
 K (AVal.tup [])
 [ABlk.vals
 [AVal.int IntKind.i64 (vrSay pri (VX.mk (VM.mk id pri every pre src n f st pace wait) cs k)).m.id,
 AVal.int IntKind.i64 (vrSay pri (VX.mk (VM.mk id pri every pre src n f st pace wait) cs k)).m.pri,
 AVal.int IntKind.i64 (vrSay pri (VX.mk (VM.mk id pri every pre src n f st pace wait) cs k)).m.every,
 AVal.bool (vrSay pri (VX.mk (VM.mk id pri every pre src n f st pace wait) cs k)).m.pre,
 AVal.str (vrSay pri (VX.mk (VM.mk id pri every pre src n f st pace wait) cs k)).m.src,
 AVal.ro (vrSay pri (VX.mk (VM.mk id pri every pre src n f st pace wait) cs k)).m.n (1 : Nat)
 (vrSay pri (VX.mk (VM.mk id pri every pre src n f st pace wait) cs k)).m.f,
 AVal.int IntKind.i64 (vrSay pri (VX.mk (VM.mk id pri every pre src n f st pace wait) cs k)).m.st,
 AVal.int IntKind.i64 (vrSay pri (VX.mk (VM.mk id pri every pre src n f st pace wait) cs k)).m.pace,
 AVal.int IntKind.i64 (vrSay pri (VX.mk (VM.mk id pri every pre src n f st pace wait) cs k)).m.wait,
 AVal.sl (2 : Nat) (0 : Nat) (vrSay pri (VX.mk (VM.mk id pri every pre src n f st pace wait) cs k)).k
 (5 : Nat)],
 ABlk.dead, ABlk.flat (vrSay pri (VX.mk (VM.mk id pri every pre src n f st pace wait) cs k)).out])
 (brP (decide (pri < p) || decide (p = pri) && !(Op.bytesLess s src || decide (s = src)))
 (VB (VX.mk (VM.mk id pri every pre src n f st pace wait) cs k) ∧
 K (AVal.tup [])
 [ABlk.vals
 [AVal.int IntKind.i64 (vrFollow e (VX.mk (VM.mk id pri every pre src n f st pace wait) cs k)).m.id,
 AVal.int IntKind.i64 (vrFollow e (VX.mk (VM.mk id pri every pre src n f st pace wait) cs k)).m.pri,
 AVal.int IntKind.i64 (vrFollow e (VX.mk (VM.mk id pri every pre src n f st pace wait) cs k)).m.every,
 AVal.bool (vrFollow e (VX.mk (VM.mk id pri every pre src n f st pace wait) cs k)).m.pre,
 AVal.str (vrFollow e (VX.mk (VM.mk id pri every pre src n f st pace wait) cs k)).m.src,
 AVal.ro (vrFollow e (VX.mk (VM.mk id pri every pre src n f st pace wait) cs k)).m.n (1 : Nat)
 (vrFollow e (VX.mk (VM.mk id pri every pre src n f st pace wait) cs k)).m.f,
 AVal.int IntKind.i64 (vrFollow e (VX.mk (VM.mk id pri every pre src n f st pace wait) cs k)).m.st,
 AVal.int IntKind.i64 (vrFollow e (VX.mk (VM.mk id pri every pre src n f st pace wait) cs k)).m.pace,
 AVal.int IntKind.i64 (vrFollow e (VX.mk (VM.mk id pri every pre src n f st pace wait) cs k)).m.wait,
 AVal.sl (1 : Nat) (0 : Nat) (vrFollow e (VX.mk (VM.mk id pri every pre src n f st pace wait) cs k)).k
 (5 : Nat)],
 ABlk.flat cs])
 (K (AVal.tup [])
 [ABlk.vals
 [AVal.int IntKind.i64 id, AVal.int IntKind.i64 pri, AVal.int IntKind.i64 every, AVal.bool pre, AVal.str src,
 AVal.ro n (1 : Nat) f, AVal.int IntKind.i64 st, AVal.int IntKind.i64 pace, AVal.int IntKind.i64 wait,
 AVal.sl (1 : Nat) (0 : Nat) k (5 : Nat)],
 ABlk.flat cs])))
 (K (AVal.tup [])
 [ABlk.vals
 [AVal.int IntKind.i64 id, AVal.int IntKind.i64 pri, AVal.int IntKind.i64 every, AVal.bool pre, AVal.str src,
 AVal.ro n (1 : Nat) f, AVal.int IntKind.i64 st, AVal.int IntKind.i64 pace, AVal.int IntKind.i64 wait,
 AVal.sl (1 : Nat) (0 : Nat) k (5 : Nat)],
 ABlk.flat cs])))) := by kernel_rfl
attribute [local irreducible] fnP in
theorem __outrider_vrrp_Machine__Take_p : ∀ args H K, vrTakeRow args H K → ∃ args', ArgsLe H args args' ∧ fnP Try.prog Tvr13 ann___outrider_vrrp_Machine__Take Try.f19 args' H (fun v H' => ∃ v2 H2, ResLe v H' v2 H2 ∧ K v2 H2) := by
  intro args H K h
  unfold vrTakeRow at h
  split at h
  · rename_i s i p e m u id pri every pre src n f st pace wait k cs
    refine ⟨_, .refl, ?_⟩
    rw [vrTake_eq]
    obtain ⟨hb, hK⟩ := h
    refine brP_nd (fun hc => ?_) (fun hc => brP_d (fun hs => ?_) (fun hs => brP_d (fun hs3 => ?_) (fun hs3 => ?_)))
    · rw [show vrTake s ⟨i, p, e, []⟩ ⟨⟨id, pri, every, pre, src, n, f, st, pace, wait⟩, cs, k⟩ = ⟨⟨id, pri, every, pre, src, n, f, st, pace, wait⟩, cs, k⟩ from if_pos hc] at hK
      exact ⟨_, _, moved, hK⟩
    · subst hs
      have e0 : vrTake s ⟨i, p, e, []⟩ ⟨⟨id, pri, every, pre, src, n, f, 2, pace, wait⟩, cs, k⟩ = (if p = 0 then vrSet 2 (if vrSkew pri pace < 1 then 1 else vrSkew pri pace) ⟨⟨id, pri, every, pre, src, n, f, 2, pace, wait⟩, cs, k⟩ else if pre = false ∨ pri ≤ p then vrFollow e ⟨⟨id, pri, every, pre, src, n, f, 2, pace, wait⟩, cs, k⟩ else ⟨⟨id, pri, every, pre, src, n, f, 2, pace, wait⟩, cs, k⟩) := by unfold vrTake; rw [if_neg (by simpa using hc), if_pos rfl]
      rw [e0] at hK
      refine brP_d (fun hp => ?_) (fun hp => brP_i (fun hq => ⟨hb, ?_⟩) (fun hq => ?_))
      · rw [if_pos hp] at hK; exact ⟨_, _, moved, hK⟩
      · rw [if_neg hp, if_pos (by simpa using hq)] at hK; exact ⟨_, _, moved, hK⟩
      · rw [if_neg hp, if_neg (by simpa using hq)] at hK; exact ⟨_, _, moved, hK⟩
    · subst hs3
      have e0 : vrTake s ⟨i, p, e, []⟩ ⟨⟨id, pri, every, pre, src, n, f, 3, pace, wait⟩, cs, k⟩ = (if p = 0 then vrSay pri ⟨⟨id, pri, every, pre, src, n, f, 3, pace, wait⟩, cs, k⟩ else if pri < p ∨ (p = pri ∧ (Op.bytesLess s src = false ∧ s ≠ src)) then vrFollow e ⟨⟨id, pri, every, pre, src, n, f, 3, pace, wait⟩, cs, k⟩ else ⟨⟨id, pri, every, pre, src, n, f, 3, pace, wait⟩, cs, k⟩) := by unfold vrTake; rw [if_neg (by simpa using hc), if_neg (by simp), if_pos rfl]
      rw [e0] at hK
      refine brP_d (fun hp => ⟨hb, ?_⟩) (fun hp => brP_i (fun hq => ⟨hb, ?_⟩) (fun hq => ?_))
      · rw [if_pos hp] at hK; exact ⟨_, _, .refl, hK⟩
      · rw [if_neg hp, if_pos (by simpa using hq)] at hK; exact ⟨_, _, moved, hK⟩
      · rw [if_neg hp, if_neg (by simpa using hq)] at hK; exact ⟨_, _, moved, hK⟩
    · rw [show vrTake s ⟨i, p, e, []⟩ ⟨⟨id, pri, every, pre, src, n, f, st, pace, wait⟩, cs, k⟩ = ⟨⟨id, pri, every, pre, src, n, f, st, pace, wait⟩, cs, k⟩ from by unfold vrTake; rw [if_neg (by simpa using hc), if_neg hs, if_neg hs3]] at hK
      exact ⟨_, _, moved, hK⟩
  · exact h.elim
def Tvr14 : Specs := ext Tvr13 19 (vrTakeRow)
theorem Tvr14_sound : TSound Try.prog Tvr14 := ext_sound Tvr13_sound (row_weak Tvr13_sound mixed Try.func19 (by decide +kernel) __outrider_vrrp_Machine__Take_p)
def ann___outrider_vrrp_Machine__SetPriority : Nat → List Nat × Nat × List (List Nat)
  | 2000001 => ([], 7, [[], [0], [0, 1], [0, 1, 2], [0, 1, 2, 3], [0, 1, 2, 3, 4]])
  | _ => ([], 0, [])
set_option maxRecDepth 100000 in
theorem vrPri_eq (q : Int) (id pri every : Int) (pre : Bool) (src : List UInt8) (n : Nat) (f : Nat → List AVal) (st pace wait : Int) (k : Nat) (cs : List AVal) (K : AVal → Hp → Prop) : fnP Try.prog Tvr14 ann___outrider_vrrp_Machine__SetPriority Try.f28 [.ptr 0 0, .int .i64 q] [.vals [.int .i64 id, .int .i64 pri, .int .i64 every, .bool pre, .str src, .ro n 1 f, .int .i64 st, .int .i64 pace, .int .i64 wait, .sl 1 0 k 5], .flat cs] K = (
 brP (decide (q < (1 : Int)) || decide ((255 : Int) < q))
 (K (AVal.bool false)
 [ABlk.vals
 [AVal.int IntKind.i64 id, AVal.int IntKind.i64 pri, AVal.int IntKind.i64 every, AVal.bool pre, AVal.str src,
 AVal.ro n (1 : Nat) f, AVal.int IntKind.i64 st, AVal.int IntKind.i64 pace, AVal.int IntKind.i64 wait,
 AVal.sl (1 : Nat) (0 : Nat) k (5 : Nat)],
 ABlk.flat cs])
 (K (AVal.bool true)
 [ABlk.vals
 [AVal.int IntKind.i64 id, AVal.int IntKind.i64 q, AVal.int IntKind.i64 every, AVal.bool pre, AVal.str src,
 AVal.ro n (1 : Nat) f, AVal.int IntKind.i64 st, AVal.int IntKind.i64 pace, AVal.int IntKind.i64 wait,
 AVal.sl (1 : Nat) (0 : Nat) k (5 : Nat)],
 ABlk.flat cs])) := by kernel_rfl
attribute [local irreducible] fnP in
theorem __outrider_vrrp_Machine__SetPriority_p : ∀ args H K, vrPriRow args H K → ∃ args', ArgsLe H args args' ∧ fnP Try.prog Tvr14 ann___outrider_vrrp_Machine__SetPriority Try.f28 args' H (fun v H' => ∃ v2 H2, ResLe v H' v2 H2 ∧ K v2 H2) := by
  intro args H K h
  unfold vrPriRow at h
  split at h
  · rename_i q id pri every pre src n f st pace wait k cs
    refine ⟨_, .refl, ?_⟩
    rw [vrPri_eq]
    refine brP_i (fun hc => ?_) (fun hc => ?_)
    · rw [hc, show vrPri q ⟨⟨id, pri, every, pre, src, n, f, st, pace, wait⟩, cs, k⟩ = ⟨⟨id, pri, every, pre, src, n, f, st, pace, wait⟩, cs, k⟩ from if_pos (by simpa using hc)] at h
      exact ⟨_, _, .refl, h⟩
    · rw [hc, show vrPri q ⟨⟨id, pri, every, pre, src, n, f, st, pace, wait⟩, cs, k⟩ = _ from if_neg (by simpa using hc)] at h
      exact ⟨_, _, .refl, h⟩
  · exact h.elim
def Tvr15 : Specs := ext Tvr14 28 (vrPriRow)
theorem Tvr15_sound : TSound Try.prog Tvr15 := ext_sound Tvr14_sound (row_weak Tvr14_sound mixed Try.func28 (by decide +kernel) __outrider_vrrp_Machine__SetPriority_p)
def ann___outrider_vrrp_Machine__Out : Nat → List Nat × Nat × List (List Nat)
  | _ => ([], 0, [])
set_option maxRecDepth 100000 in
theorem vrOut_eq (id pri every : Int) (pre : Bool) (src : List UInt8) (n : Nat) (f : Nat → List AVal) (st pace wait : Int) (k : Nat) (cs : List AVal) (K : AVal → Hp → Prop) : fnP Try.prog Tvr15 ann___outrider_vrrp_Machine__Out Try.f16 [.ptr 0 0] [.vals [.int .i64 id, .int .i64 pri, .int .i64 every, .bool pre, .str src, .ro n 1 f, .int .i64 st, .int .i64 pace, .int .i64 wait, .sl 1 0 k 5], .flat cs] K = (
 K (AVal.sl (1 : Nat) (0 : Nat) k (5 : Nat))
 [ABlk.vals
 [AVal.int IntKind.i64 id, AVal.int IntKind.i64 pri, AVal.int IntKind.i64 every, AVal.bool pre, AVal.str src,
 AVal.ro n (1 : Nat) f, AVal.int IntKind.i64 st, AVal.int IntKind.i64 pace, AVal.int IntKind.i64 wait, AVal.nilS],
 ABlk.flat cs]) := by kernel_rfl
attribute [local irreducible] fnP in
theorem __outrider_vrrp_Machine__Out_p : ∀ args H K, vrOutRow args H K → ∃ args', ArgsLe H args args' ∧ fnP Try.prog Tvr15 ann___outrider_vrrp_Machine__Out Try.f16 args' H (fun v H' => ∃ v2 H2, ResLe v H' v2 H2 ∧ K v2 H2) := by
  intro args H K h
  unfold vrOutRow at h
  split at h
  · rename_i id pri every pre src n f st pace wait k cs
    refine ⟨_, .refl, ?_⟩
    rw [vrOut_eq]
    exact ⟨_, _, ResLe.taken (pre := [.int .i64 id, .int .i64 pri, .int .i64 every, .bool pre, .str src, .ro n 1 f, .int .i64 st, .int .i64 pace, .int .i64 wait]) (by omega) rfl, h⟩
  · exact h.elim
def Tvr16 : Specs := ext Tvr15 16 (vrOutRow)
theorem Tvr16_sound : TSound Try.prog Tvr16 := ext_sound Tvr15_sound (row_weak Tvr15_sound mixed Try.func16 (by decide +kernel) __outrider_vrrp_Machine__Out_p)
def vrNewRow : Srow := fun args H K => match args, H with
  | [.agg [.int .i64 id, .int .i64 pri, .int .i64 every, .bool pre, .str src, .ro n 1 f]], [] => (IsStrs n f ∧ n ≤ 8796093022000) ∧
    brP (adRight ⟨id, pri, every, strs n f⟩ src && !decide (pri = 0)) (K (.tup [.ptr 0 0, .int .i64 0]) [.vals [.int .i64 id, .int .i64 pri, .int .i64 every, .bool pre, .str src, .ro n 1 f, .int .i64 1, .int .i64 every, .int .i64 0, .sl 1 0 0 5], .flat []]) (K (.tup [.nilP, .int .i64 130]) [])
  | _, _ => False
def ann_vrrp_New : Nat → List Nat × Nat × List (List Nat)
  | 2 => ([], 11, [[], [], [1], [0, 1, 2], [], [4], [0, 1, 2, 3, 4, 5], [0, 1, 2, 3, 4, 5, 6], [0, 1, 2, 3, 4, 5, 6, 7], [0, 1, 2, 3, 4, 5, 6, 7], []])
  | 2000003 => ([], 8, [[], [0], [0, 1], [0, 1, 2], [0, 1, 2, 3], [0, 1, 2, 3, 4], [0, 1, 2, 3, 4, 5]])
  | 3000002 => ([11], 0, [])
  | _ => ([], 0, [])
set_option maxRecDepth 100000 in
theorem vrNew_eq (id pri every : Int) (pre : Bool) (src : List UInt8) (n : Nat) (f : Nat → List AVal) (K : AVal → Hp → Prop) : fnP Try.prog Tvr16 ann_vrrp_New Try.f14 [.agg [.int .i64 id, .int .i64 pri, .int .i64 every, .bool pre, .str src, .ro n 1 f]] [] K = (
 n ≤ (8796093022000 : Nat) ∧
 n ≤ (8796093022000 : Nat) ∧
 (IsStrs n f ∧ n ≤ (140737488351232 : Nat)) ∧
 brP (!decide ((adEncode (Adv.mk id pri every (strs n f)) src).snd = (0 : Int)) || decide (pri = (0 : Int)))
 (K (AVal.tup [AVal.nilP, AVal.int IntKind.i64 (130 : Int)]) [])
 (K (AVal.tup [AVal.ptr (0 : Nat) (0 : Nat), AVal.int IntKind.i64 (0 : Int)])
 [ABlk.vals
 [AVal.int IntKind.i64 id, AVal.int IntKind.i64 pri, AVal.int IntKind.i64 every, AVal.bool pre, AVal.str src,
 AVal.ro n (1 : Nat) f, AVal.int IntKind.i64 (1 : Int), AVal.int IntKind.i64 every,
 AVal.int IntKind.i64 (0 : Int), AVal.nilS]])) := by kernel_rfl
attribute [local irreducible] fnP in
theorem vrrp_New_p : ∀ args H K, vrNewRow args H K → ∃ args', ArgsLe H args args' ∧ fnP Try.prog Tvr16 ann_vrrp_New Try.f14 args' H (fun v H' => ∃ v2 H2, ResLe v H' v2 H2 ∧ K v2 H2) := by
  intro args H K h
  unfold vrNewRow at h
  split at h
  · rename_i id pri every pre src n f
    obtain ⟨⟨hs, hn⟩, hK⟩ := h
    refine ⟨_, .refl, ?_⟩
    rw [vrNew_eq]
    refine ⟨hn, hn, ⟨hs, by omega⟩, ?_⟩
    cases hr : adRight ⟨id, pri, every, strs n f⟩ src with
    | false =>
      rw [adEncode_no (by rw [hr]; simp)]
      rw [hr] at hK
      exact ⟨_, _, .refl, hK⟩
    | true =>
      rw [adEncode_yes hr]
      rw [hr, Bool.true_and] at hK
      cases hp : decide (pri = 0) with
      | true =>
        rw [hp] at hK
        exact ⟨_, _, .refl, hK⟩
      | false =>
        rw [hp] at hK
        refine ⟨_, _, ResLe.none (pre := [.int .i64 id, .int .i64 pri, .int .i64 every, .bool pre, .str src, .ro n 1 f, .int .i64 1, .int .i64 every, .int .i64 0]) rfl (fun R w m x hS hx => ?_), hK⟩
        refine hx.mono (fun _ h => h) (fun _ _ => rfl) (fun _ _ h => h) (fun _ _ h => h) (by simp) (fun k hk => ?_)
        have : k = 0 := by simpa using hk
        subst this
        exact .inr ⟨by simp [hget], rfl⟩
  · exact h.elim
def Tvr17 : Specs := ext Tvr16 14 (vrNewRow)
theorem Tvr17_sound : TSound Try.prog Tvr17 := ext_sound Tvr16_sound (row_weak Tvr16_sound mixed Try.func14 (by decide +kernel) vrrp_New_p)
abbrev Tvr : Specs := Tvr17
theorem Tvr_sound : TSound Try.prog Tvr := Tvr17_sound
end Go.Proofs.Ytldfkjjjjfbbmaa.Ae

