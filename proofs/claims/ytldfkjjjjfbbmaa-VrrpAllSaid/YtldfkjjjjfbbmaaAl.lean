/- Chapter 13: that the program is alive. -/
import Derived.Test.YtldfkjjjjfbbmaaFvl
import Derived.Test.YtldfkjjjjfbbmaaAeOp
import Derived.Test.YtldfkjjjjfbbmaaAeQk
set_option linter.unusedSimpArgs false
set_option linter.unusedVariables false
set_option maxRecDepth 100000
namespace Go.Proofs.Ytldfkjjjjfbbmaa.Ae
open Go
def trueRow : Srow := fun args H K => match args, H with
  | [], [] => K (.bool true) []
  | _, _ => False
def ann_outriderlaw13_alive : Nat → List Nat × Nat × List (List Nat)
  | 8 => ([1, 26], 0, [])
  | 2000002 => ([], 7, [[], [0], [0, 1], [0, 1, 2], [0, 1, 2, 3], [0, 1, 2, 3, 4]])
  | _ => ([], 0, [])
noncomputable abbrev al_lp_X : Cx := ⟨Try.prog, Tvl, Try.f11.ntmps, 0, ann_outriderlaw13_alive⟩
noncomputable def al_lp_c : Code := cAt [.r, .r, .r, .r, .r, .l, .r, .b] (bodyOf Try.f11)
noncomputable def al_lp_k (K : AVal → Hp → Prop) : Post := kAt al_lp_X [.r, .r, .r, .r, .r, .l, .r, .b] (bodyOf Try.f11) (fnK Try.prog 0 Try.f11.results.toList K)
def al_lp_n (K : AVal → Hp → Prop) (n : Nat) (s : St) : Prop := loopP (awp al_lp_X (loopB al_lp_c)) 0 [1, 26] n s (al_lp_k K)
def al_lp (K : AVal → Hp → Prop) (s : St) : Prop := ∃ n, al_lp_n K n s
def al_lp_b (K : AVal → Hp → Prop) (J : St → Prop) (s : St) : Prop := awp al_lp_X (loopB al_lp_c) s (seqK (fun s' => normK 0 [1, 26] s' J) (al_lp_k K))
theorem al_lp_next {K : AVal → Hp → Prop} {n : Nat} {s : St} (h : al_lp_b K (fun s' => al_lp_n K n s') s) : al_lp_n K (n + 1) s := h
set_option maxRecDepth 100000 in
theorem alive13_eq  (K : AVal → Hp → Prop) : fnP Try.prog Tvl ann_outriderlaw13_alive Try.f11 [] [] K = (
 (IsStrs (1 : Nat) (rowsOf (1 : Nat) [AVal.str [(10 : UInt8), (0 : UInt8), (0 : UInt8), (100 : UInt8)]]) ∧
 (1 : Nat) ≤ (8796093022000 : Nat)) ∧
 VB
 (VX.mk
 (VM.mk (7 : Int) (100 : Int) (100 : Int) true [(10 : UInt8), (0 : UInt8), (0 : UInt8), (1 : UInt8)] (1 : Nat)
 (rowsOf (1 : Nat) [AVal.str [(10 : UInt8), (0 : UInt8), (0 : UInt8), (100 : UInt8)]]) (1 : Int) (100 : Int)
 (0 : Int))
 [] (0 : Nat)) ∧
 al_lp K
 (St.mk [((1 : Nat), AVal.ptr (0 : Nat) (0 : Nat)), ((26 : Nat), AVal.int IntKind.i64 (0 : Int))]
 [ABlk.vals
 [AVal.int IntKind.i64 (7 : Int), AVal.int IntKind.i64 (100 : Int), AVal.int IntKind.i64 (100 : Int),
 AVal.bool true, AVal.str [(10 : UInt8), (0 : UInt8), (0 : UInt8), (1 : UInt8)],
 AVal.ro (1 : Nat) (1 : Nat)
 (vrStart
 (VX.mk
 (VM.mk (7 : Int) (100 : Int) (100 : Int) true [(10 : UInt8), (0 : UInt8), (0 : UInt8), (1 : UInt8)]
 (1 : Nat) (rowsOf (1 : Nat) [AVal.str [(10 : UInt8), (0 : UInt8), (0 : UInt8), (100 : UInt8)]]) (1 : Int)
 (100 : Int) (0 : Int))
 [] (0 : Nat))).m.f,
 AVal.int IntKind.i64 (2 : Int), AVal.int IntKind.i64 (100 : Int), AVal.int IntKind.i64 (360 : Int),
 AVal.sl (1 : Nat) (0 : Nat) (0 : Nat) (5 : Nat)],
 ABlk.flat []])) := by kernel_rfl
set_option maxRecDepth 100000 in
theorem al_stepA (f : Nat → List AVal) (w c : Int) (K : AVal → Hp → Prop) (J : St → Prop) : al_lp_b K J (St.mk [(1, .ptr 0 0), (26, .int .i64 c)] [.vals [.int .i64 7, .int .i64 100, .int .i64 100, .bool true, .str [10, 0, 0, 1], .ro 1 1 f, .int .i64 2, .int .i64 100, .int .i64 w, .sl 1 0 0 5], .flat []]) = (
 brP (decide (c < (360 : Int)))
 (VBw
 (VX.mk
 (VM.mk (7 : Int) (100 : Int) (100 : Int) true [(10 : UInt8), (0 : UInt8), (0 : UInt8), (1 : UInt8)] (1 : Nat) f
 (2 : Int) (100 : Int) w)
 [] (0 : Nat)) ∧
 I64 (c + (1 : Int)) ∧
 J
 (St.mk [((1 : Nat), AVal.ptr (0 : Nat) (0 : Nat)), ((26 : Nat), AVal.int IntKind.i64 (c + (1 : Int)))]
 [ABlk.vals
 [AVal.int IntKind.i64
 (vrTick
 (VX.mk
 (VM.mk (7 : Int) (100 : Int) (100 : Int) true [(10 : UInt8), (0 : UInt8), (0 : UInt8), (1 : UInt8)]
 (1 : Nat) f (2 : Int) (100 : Int) w)
 [] (0 : Nat))).m.id,
 AVal.int IntKind.i64
 (vrTick
 (VX.mk
 (VM.mk (7 : Int) (100 : Int) (100 : Int) true [(10 : UInt8), (0 : UInt8), (0 : UInt8), (1 : UInt8)]
 (1 : Nat) f (2 : Int) (100 : Int) w)
 [] (0 : Nat))).m.pri,
 AVal.int IntKind.i64
 (vrTick
 (VX.mk
 (VM.mk (7 : Int) (100 : Int) (100 : Int) true [(10 : UInt8), (0 : UInt8), (0 : UInt8), (1 : UInt8)]
 (1 : Nat) f (2 : Int) (100 : Int) w)
 [] (0 : Nat))).m.every,
 AVal.bool
 (vrTick
 (VX.mk
 (VM.mk (7 : Int) (100 : Int) (100 : Int) true [(10 : UInt8), (0 : UInt8), (0 : UInt8), (1 : UInt8)]
 (1 : Nat) f (2 : Int) (100 : Int) w)
 [] (0 : Nat))).m.pre,
 AVal.str
 (vrTick
 (VX.mk
 (VM.mk (7 : Int) (100 : Int) (100 : Int) true [(10 : UInt8), (0 : UInt8), (0 : UInt8), (1 : UInt8)]
 (1 : Nat) f (2 : Int) (100 : Int) w)
 [] (0 : Nat))).m.src,
 AVal.ro
 (vrTick
 (VX.mk
 (VM.mk (7 : Int) (100 : Int) (100 : Int) true [(10 : UInt8), (0 : UInt8), (0 : UInt8), (1 : UInt8)]
 (1 : Nat) f (2 : Int) (100 : Int) w)
 [] (0 : Nat))).m.n
 (1 : Nat)
 (vrTick
 (VX.mk
 (VM.mk (7 : Int) (100 : Int) (100 : Int) true [(10 : UInt8), (0 : UInt8), (0 : UInt8), (1 : UInt8)]
 (1 : Nat) f (2 : Int) (100 : Int) w)
 [] (0 : Nat))).m.f,
 AVal.int IntKind.i64
 (vrTick
 (VX.mk
 (VM.mk (7 : Int) (100 : Int) (100 : Int) true [(10 : UInt8), (0 : UInt8), (0 : UInt8), (1 : UInt8)]
 (1 : Nat) f (2 : Int) (100 : Int) w)
 [] (0 : Nat))).m.st,
 AVal.int IntKind.i64
 (vrTick
 (VX.mk
 (VM.mk (7 : Int) (100 : Int) (100 : Int) true [(10 : UInt8), (0 : UInt8), (0 : UInt8), (1 : UInt8)]
 (1 : Nat) f (2 : Int) (100 : Int) w)
 [] (0 : Nat))).m.pace,
 AVal.int IntKind.i64
 (vrTick
 (VX.mk
 (VM.mk (7 : Int) (100 : Int) (100 : Int) true [(10 : UInt8), (0 : UInt8), (0 : UInt8), (1 : UInt8)]
 (1 : Nat) f (2 : Int) (100 : Int) w)
 [] (0 : Nat))).m.wait,
 AVal.sl (1 : Nat) (0 : Nat)
 (vrTick
 (VX.mk
 (VM.mk (7 : Int) (100 : Int) (100 : Int) true [(10 : UInt8), (0 : UInt8), (0 : UInt8), (1 : UInt8)]
 (1 : Nat) f (2 : Int) (100 : Int) w)
 [] (0 : Nat))).k
 (5 : Nat)],
 ABlk.flat
 (vrTick
 (VX.mk
 (VM.mk (7 : Int) (100 : Int) (100 : Int) true [(10 : UInt8), (0 : UInt8), (0 : UInt8), (1 : UInt8)] (1 : Nat)
 f (2 : Int) (100 : Int) w)
 [] (0 : Nat))).out]))
 (K (AVal.bool false) [])) := by kernel_rfl
set_option maxRecDepth 100000 in
theorem al_stepB (f : Nat → List AVal) (K : AVal → Hp → Prop) (J : St → Prop) : al_lp_b K J (St.mk [(1, .ptr 0 0), (26, .int .i64 360)] [.vals [.int .i64 7, .int .i64 100, .int .i64 100, .bool true, .str [10, 0, 0, 1], .ro 1 1 f, .int .i64 3, .int .i64 100, .int .i64 100, .sl 1 0 2 5], .flat [.int .i64 1, .int .i64 7, .int .i64 100, .int .i64 100, .ro 1 1 f, .int .i64 2, .int .i64 0, .int .i64 0, .int .i64 0, .ro 0 1 (fun _ => [])]]) = (
 ((0 : Int) ≤ (0 : Int) ∧ (0 : Int) < (2 : Int)) ∧
 ((0 : Int) ≤ (0 : Int) ∧ (0 : Int) < (2 : Int)) ∧
 ((0 : Int) ≤ (1 : Int) ∧ (1 : Int) < (2 : Int)) ∧ K (AVal.bool true) []) := by kernel_rfl
attribute [local irreducible] al_lp_n al_lp_b
theorem al_last (K : AVal → Hp → Prop) (hK : K (.bool true) []) (f : Nat → List AVal) : al_lp_n K (0 + 1) (St.mk [(1, .ptr 0 0), (26, .int .i64 360)] [.vals [.int .i64 7, .int .i64 100, .int .i64 100, .bool true, .str [10, 0, 0, 1], .ro 1 1 f, .int .i64 3, .int .i64 100, .int .i64 100, .sl 1 0 2 5], .flat [.int .i64 1, .int .i64 7, .int .i64 100, .int .i64 100, .ro 1 1 f, .int .i64 2, .int .i64 0, .int .i64 0, .int .i64 0, .ro 0 1 (fun _ => [])]]) := by
  refine al_lp_next ?_
  rw [al_stepB]
  exact ⟨by omega, by omega, by omega, hK⟩
theorem al_all (K : AVal → Hp → Prop) (hK : K (.bool true) []) (f : Nat → List AVal) : ∀ (j : Nat) (c : Int), 0 ≤ c → c + (j : Int) = 359 → al_lp_n K (j + 1 + 1) (St.mk [(1, .ptr 0 0), (26, .int .i64 c)] [.vals [.int .i64 7, .int .i64 100, .int .i64 100, .bool true, .str [10, 0, 0, 1], .ro 1 1 f, .int .i64 2, .int .i64 100, .int .i64 (360 - c), .sl 1 0 0 5], .flat []])
  | 0, c, h0, h => by
    refine al_lp_next ?_
    rw [al_stepA]
    obtain rfl : c = 359 := by omega
    have hb : VBw ⟨⟨7, 100, 100, true, [10, 0, 0, 1], 1, f, 2, 100, 1⟩, [], 0⟩ := ⟨⟨by simp, by simp, by simp, by simp, by simp, by simp, by simp⟩, by simp⟩
    exact brP_d (fun _ => ⟨hb, by unfold I64; omega, al_last K hK f⟩) (fun h => absurd (by omega) h)
  | j + 1, c, h0, h => by
    refine al_lp_next ?_
    rw [al_stepA]
    have hb : VBw ⟨⟨7, 100, 100, true, [10, 0, 0, 1], 1, f, 2, 100, 360 - c⟩, [], 0⟩ := ⟨⟨by simp, by simp, by simp, by simp, by simp, by simp, by simp⟩, by simp only; omega⟩
    refine brP_d (fun _ => ⟨hb, by unfold I64; omega, ?_⟩) (fun h => absurd (by omega) h)
    have e : vrTick ⟨⟨7, 100, 100, true, [10, 0, 0, 1], 1, f, 2, 100, 360 - c⟩, [], 0⟩ = ⟨⟨7, 100, 100, true, [10, 0, 0, 1], 1, f, 2, 100, 360 - (c + 1)⟩, [], 0⟩ := by
      unfold vrTick
      rw [if_neg (by simp), if_pos (by simp only; omega)]
      unfold vrSet
      simp only [VX.mk.injEq, VM.mk.injEq, true_and, and_true]
      omega
    rw [e]
    exact al_all K hK f j (c + 1) (by omega) (by omega)
attribute [local irreducible] fnP in
theorem outriderlaw13_alive_p : ∀ args H K, trueRow args H K → fnP Try.prog Tvl ann_outriderlaw13_alive Try.f11 args H K := by
  intro args H K h
  unfold trueRow at h
  split at h
  · rw [alive13_eq]
    refine ⟨⟨fun i hi => ?_, by omega⟩, ⟨by simp, by simp, by simp, by simp, by simp, by simp, by simp⟩, _, al_all K h _ 359 0 (by omega) (by omega)⟩
    obtain rfl : i = 0 := by omega
    rfl
  · exact h.elim
def Tlw1 : Specs := ext Tvl 11 (trueRow)
theorem Tlw1_sound : TSound Try.prog Tlw1 := ext_sound Tvl_sound (row_of Tvl_sound mixed Try.func11 (by decide +kernel) outriderlaw13_alive_p)
abbrev Tlw : Specs := Tlw1
theorem Tlw_sound : TSound Try.prog Tlw := Tlw1_sound
end Go.Proofs.Ytldfkjjjjfbbmaa.Ae

