/- Chapter 6's Decode and Same as a table. -/
import Derived.Test.YtbjolilknkbehaaFdh
set_option linter.unusedSimpArgs false
set_option linter.unusedVariables false
set_option maxRecDepth 100000
namespace Go.Proofs.Ytbjolilknkbehaa
open Go Ae
/-- do two advertisements say the same? -/
def sameA (i p e : Int) (n : Nat) (f : Nat → List AVal) (i' p' e' : Int) (n' : Nat) (f' : Nat → List AVal) : Bool := decide (i = i') && decide (p = p') && decide (e = e') && decide (strs n f = strs n' f')
def eqFrom (g g' : Nat → List UInt8) : Nat → Nat → Bool
  | 0, _ => true
  | j + 1, k => if g k = g' k then eqFrom g g' j (k + 1) else false
theorem eqFrom_iff {g g' : Nat → List UInt8} : ∀ {j k : Nat}, eqFrom g g' j k = true ↔ ∀ q, k ≤ q → q < k + j → g q = g' q
  | 0, k => by unfold eqFrom; exact ⟨fun _ q h1 h2 => by omega, fun _ => rfl⟩
  | j + 1, k => by
    unfold eqFrom
    split
    · rename_i h
      rw [eqFrom_iff]
      constructor
      · intro hh q h1 h2
        by_cases e : q = k
        · subst e; exact h
        · exact hh q (by omega) (by omega)
      · intro hh q h1 h2; exact hh q (by omega) (by omega)
    · rename_i h
      exact ⟨fun hh => (by cases hh), fun hh => absurd (hh k (by omega) (by omega)) h⟩
theorem strs_eq {n : Nat} {f f' : Nat → List AVal} : (strs n f = strs n f') ↔ eqFrom (strAt f) (strAt f') n 0 = true := by
  rw [eqFrom_iff]
  unfold strs
  rw [List.map_inj_left]
  constructor
  · intro h q _ h2; exact h q (by simpa using h2)
  · intro h q hq; exact h q (Nat.zero_le _) (by simpa using hq)
theorem strs_ne {n n' : Nat} {f f' : Nat → List AVal} (h : n ≠ n') : strs n f ≠ strs n' f' := fun e => h (by have := congrArg List.length e; rwa [strs_len, strs_len] at this)
end Go.Proofs.Ytbjolilknkbehaa
namespace Go.Proofs.Ytbjolilknkbehaa.Ae
open Go
def addrOf : AVal → Option (Nat × (Nat → List AVal))
  | .ro n 1 f => some (n, f)
  | .nilS => some (0, fun _ => [])
  | _ => none
def sameRow : Srow := fun args H K => match args, H with
  | [.agg [.int .i64 i, .int .i64 p, .int .i64 e, a], .agg [.int .i64 i', .int .i64 p', .int .i64 e', a']], [] => match addrOf a, addrOf a' with
    | some (n, f), some (n', f') => (IsStrs n f ∧ IsStrs n' f' ∧ n ≤ 8796093022000) ∧ K (.bool (sameA i p e n f i' p' e' n' f')) []
    | _, _ => False
  | _, _ => False
theorem addr_ve {H : Hp} {a : AVal} {n : Nat} {f : Nat → List AVal} (h : addrOf a = some (n, f)) (hs : IsStrs n f) : VE H a (.ro n 1 (onlyStrs f)) := by
  unfold addrOf at h
  split at h
  · cases h; exact VE.strs hs
  · cases h; exact VE.nil_ro
  · cases h
def Tde1 : Specs := ext Tdc 13 (decRow)
theorem Tde1_sound : TSound Try.prog Tde1 := ext_sound Tdc_sound (decode_row)
def ann_outriderref06_Same : Nat → List Nat × Nat × List (List Nat)
  | 4 => ([2, 3, 5], 0, [])
  | 6 => ([], 11, [[], [0], [], [0, 1, 2], [0, 1, 2, 3], [], [5], [], [5, 6, 7], [5, 6, 7, 8], [0, 1, 2, 3, 4, 5, 6, 7, 8, 9]])
  | 2000001 => ([], 29, [[], [0], [0, 1], [0, 1, 2], [0, 1, 2, 3], [0, 1, 2, 3, 4], [0, 1, 2, 3, 4, 5], [0, 1, 2, 3, 4, 5, 6], [0, 1, 2, 3, 4, 5, 6, 7], [0, 1, 2, 3, 4, 5, 6, 7, 8], [0, 1, 2, 3, 4, 5, 6, 7, 8, 9], [0, 1, 2, 3, 4, 5, 6, 7, 8, 9, 10], [0, 1, 2, 3, 4, 5, 6, 7, 8, 9, 10, 11], [0, 1, 2, 3, 4, 5, 6, 7, 8, 9, 10, 11, 12], [0, 1, 2, 3, 4, 5, 6, 7, 8, 9, 10, 11, 12, 13], [0, 1, 2, 3, 4, 5, 6, 7, 8, 9, 10, 11, 12, 13, 14], [0, 1, 2, 3, 4, 5, 6, 7, 8, 9, 10, 11, 12, 13, 14, 15], [0, 1, 2, 3, 4, 5, 6, 7, 8, 9, 10, 11, 12, 13, 14, 15, 16], [0, 1, 2, 3, 4, 5, 6, 7, 8, 9, 10, 11, 12, 13, 14, 15, 16, 17], [0, 1, 2, 3, 4, 5, 6, 7, 8, 9, 10, 11, 12, 13, 14, 15, 16, 17, 18], [0, 1, 2, 3, 4, 5, 6, 7, 8, 9, 10, 11, 12, 13, 14, 15, 16, 17, 18, 19], [0, 1, 2, 3, 4, 5, 6, 7, 8, 9, 10, 11, 12, 13, 14, 15, 16, 17, 18, 19, 20], [0, 1, 2, 3, 4, 5, 6, 7, 8, 9, 10, 11, 12, 13, 14, 15, 16, 17, 18, 19, 20, 21], [0, 1, 2, 3, 4, 5, 6, 7, 8, 9, 10, 11, 12, 13, 14, 15, 16, 17, 18, 19, 20, 21, 22], [0, 1, 2, 3, 4, 5, 6, 7, 8, 9, 10, 11, 12, 13, 14, 15, 16, 17, 18, 19, 20, 21, 22, 23], [0, 1, 2, 3, 4, 5, 6, 7, 8, 9, 10, 11, 12, 13, 14, 15, 16, 17, 18, 19, 20, 21, 22, 23, 24], [0, 1, 2, 3, 4, 5, 6, 7, 8, 9, 10, 11, 12, 13, 14, 15, 16, 17, 18, 19, 20, 21, 22, 23, 24, 25], [0, 1, 2, 3, 4, 5, 6, 7, 8, 9, 10, 11, 12, 13, 14, 15, 16, 17, 18, 19, 20, 21, 22, 23, 24, 25, 26]])
  | _ => ([], 0, [])
noncomputable abbrev same_lp_X : Cx := ⟨Try.prog, Tde1, Try.f14.ntmps, 0, ann_outriderref06_Same⟩
noncomputable def same_lp_c : Code := cAt [.r, .r, .l, .r, .b] (bodyOf Try.f14)
noncomputable def same_lp_k (K : AVal → Hp → Prop) : Post := kAt same_lp_X [.r, .r, .l, .r, .b] (bodyOf Try.f14) (fnK Try.prog 0 Try.f14.results.toList K)
def same_lp_n (K : AVal → Hp → Prop) (n : Nat) (s : St) : Prop := loopP (awp same_lp_X (loopB same_lp_c)) 0 [2, 3, 5] n s (same_lp_k K)
def same_lp (K : AVal → Hp → Prop) (s : St) : Prop := ∃ n, same_lp_n K n s
def same_lp_b (K : AVal → Hp → Prop) (J : St → Prop) (s : St) : Prop := awp same_lp_X (loopB same_lp_c) s (seqK (fun s' => normK 0 [2, 3, 5] s' J) (same_lp_k K))
theorem same_lp_next {K : AVal → Hp → Prop} {n : Nat} {s : St} (h : same_lp_b K (fun s' => same_lp_n K n s') s) : same_lp_n K (n + 1) s := h
set_option maxRecDepth 100000 in
theorem same_eq (i p e : Int) (n : Nat) (g : Nat → List UInt8) (i' p' e' : Int) (n' : Nat) (g' : Nat → List UInt8) (K : AVal → Hp → Prop) : fnP Try.prog Tde1 ann_outriderref06_Same Try.f14 [.agg [.int .i64 i, .int .i64 p, .int .i64 e, .ro n 1 (fun q => [.str (g q)])], .agg [.int .i64 i', .int .i64 p', .int .i64 e', .ro n' 1 (fun q => [.str (g' q)])]] [] K = (
 brP (!decide (i = i') || !decide (p = p') || !decide (e = e') || !decide ((↑n : Int) = (↑n' : Int)))
 (K (AVal.bool false) [])
 (same_lp K
 (St.mk
 [((2 : Nat), AVal.ptr (0 : Nat) (0 : Nat)), ((3 : Nat), AVal.ptr (1 : Nat) (0 : Nat)),
 ((5 : Nat), AVal.int IntKind.i64 (0 : Int))]
 [ABlk.vals
 [AVal.int IntKind.i64 i, AVal.int IntKind.i64 p, AVal.int IntKind.i64 e,
 AVal.ro n (1 : Nat) fun q => [AVal.str (g q)]],
 ABlk.vals
 [AVal.int IntKind.i64 i', AVal.int IntKind.i64 p', AVal.int IntKind.i64 e',
 AVal.ro n' (1 : Nat) fun q => [AVal.str (g' q)]]]))) := by kernel_rfl
set_option maxRecDepth 100000 in
theorem same_lp_step (i p e : Int) (n : Nat) (g : Nat → List UInt8) (i' p' e' : Int) (n' : Nat) (g' : Nat → List UInt8) (c : Int) (K : AVal → Hp → Prop) (J : St → Prop) : same_lp_b K J (St.mk [(2, .ptr 0 0), (3, .ptr 1 0), (5, .int .i64 c)] [.vals [.int .i64 i, .int .i64 p, .int .i64 e, .ro n 1 (fun q => [.str (g q)])], .vals [.int .i64 i', .int .i64 p', .int .i64 e', .ro n' 1 (fun q => [.str (g' q)])]]) = (
 brP (decide (c < (↑n : Int)))
 (((0 : Int) ≤ c ∧ c < (↑n : Int)) ∧
 ((0 : Int) ≤ c ∧ c < (↑n' : Int)) ∧
 brP (!decide (g (Int.toNat c) = g' (Int.toNat c))) (K (AVal.bool false) [])
 (I64 (c + (1 : Int)) ∧
 J
 (St.mk
 [((2 : Nat), AVal.ptr (0 : Nat) (0 : Nat)), ((3 : Nat), AVal.ptr (1 : Nat) (0 : Nat)),
 ((5 : Nat), AVal.int IntKind.i64 (c + (1 : Int)))]
 [ABlk.vals
 [AVal.int IntKind.i64 i, AVal.int IntKind.i64 p, AVal.int IntKind.i64 e,
 AVal.ro n (1 : Nat) fun q => [AVal.str (g q)]],
 ABlk.vals
 [AVal.int IntKind.i64 i', AVal.int IntKind.i64 p', AVal.int IntKind.i64 e',
 AVal.ro n' (1 : Nat) fun q => [AVal.str (g' q)]]])))
 (K (AVal.bool true) [])) := by kernel_rfl
theorem same_all (K : AVal → Hp → Prop) (i p e : Int) (n : Nat) (g : Nat → List UInt8) (i' p' e' : Int) (g' : Nat → List UInt8) (hn : n ≤ 8796093022000) : ∀ (j k : Nat), k + j = n → K (.bool (eqFrom g g' j k)) [] →
    same_lp_n K (j + 1) (St.mk [(2, .ptr 0 0), (3, .ptr 1 0), (5, .int .i64 (k : Int))] [.vals [.int .i64 i, .int .i64 p, .int .i64 e, .ro n 1 (fun q => [.str (g q)])], .vals [.int .i64 i', .int .i64 p', .int .i64 e', .ro n 1 (fun q => [.str (g' q)])]])
  | 0, k, h, hK => by
    refine same_lp_next ?_
    rw [same_lp_step]
    exact brP_d (fun h' => by omega) (fun _ => hK)
  | j + 1, k, h, hK => by
    refine same_lp_next ?_
    rw [same_lp_step]
    unfold eqFrom at hK
    refine brP_d (fun _ => ⟨by omega, by omega, ?_⟩) (fun h' => by omega)
    rw [Int.toNat_natCast]
    refine brP_nd (fun h1 => ?_) (fun h1 => ⟨by unfold I64; omega, ?_⟩)
    · rw [if_neg h1] at hK; exact hK
    · rw [if_pos h1] at hK
      exact same_all K i p e n g i' p' e' g' hn j (k + 1) (by omega) hK
attribute [local irreducible] fnP in
theorem outriderref06_Same_p : ∀ args H K, sameRow args H K → ∃ args', ArgsLe H args args' ∧ fnP Try.prog Tde1 ann_outriderref06_Same Try.f14 args' H (fun v H' => ∃ v2 H2, ResLe v H' v2 H2 ∧ K v2 H2) := by
  intro args H K h
  unfold sameRow at h
  split at h
  · rename_i i p e a i' p' e' a'
    split at h
    · rename_i n f n' f' h1 h2
      obtain ⟨⟨hs, hs', hn⟩, hK⟩ := h
      refine ⟨[.agg [.int .i64 i, .int .i64 p, .int .i64 e, .ro n 1 (onlyStrs f)], .agg [.int .i64 i', .int .i64 p', .int .i64 e', .ro n' 1 (onlyStrs f')]], .cons (.agg (.cons .refl (.cons .refl (.cons .refl (.cons (addr_ve h1 hs) .nil))))) (.cons (.agg (.cons .refl (.cons .refl (.cons .refl (.cons (addr_ve h2 hs') .nil))))) .nil), ?_⟩
      unfold onlyStrs
      rw [same_eq]
      refine brP_i (fun hc => ?_) (fun hc => ?_)
      · have e0 : sameA i p e n f i' p' e' n' f' = false := by
          unfold sameA
          simp only [Bool.and_eq_true, Bool.or_eq_true, Bool.and_eq_false_iff, Bool.or_eq_false_iff, decide_eq_true_eq, decide_eq_false_iff_not, Bool.not_eq_true', Bool.not_eq_false', Bool.not_true, Bool.not_false, Bool.true_and, Bool.and_true, Bool.false_or, Bool.or_false, beq_iff_eq, beq_eq_false_iff_ne, ne_eq] at hc
          rw [Bool.eq_false_iff]
          intro hh
          simp only [Bool.and_eq_true, decide_eq_true_eq] at hh
          have := strs_ne (f := f) (f' := f') (n := n) (n' := n')
          have h4 : n = n' := Classical.byContradiction fun h => this h hh.2
          omega
        rw [e0] at hK
        exact ⟨_, _, .refl, hK⟩
      · simp only [Bool.and_eq_true, Bool.or_eq_true, Bool.and_eq_false_iff, Bool.or_eq_false_iff, decide_eq_true_eq, decide_eq_false_iff_not, Bool.not_eq_true', Bool.not_eq_false', Bool.not_true, Bool.not_false, Bool.true_and, Bool.and_true, Bool.false_or, Bool.or_false, beq_iff_eq, beq_eq_false_iff_ne, ne_eq] at hc
        obtain rfl : n = n' := by omega
        obtain rfl : i = i' := by omega
        obtain rfl : p = p' := by omega
        obtain rfl : e = e' := by omega
        have e0 : sameA i p e n f i p e n f' = eqFrom (strAt f) (strAt f') n 0 := by
          unfold sameA
          simp only [decide_true, Bool.true_and]
          rw [Bool.eq_iff_iff, decide_eq_true_eq, strs_eq]
        rw [e0] at hK
        exact ⟨_, same_all _ _ _ _ _ _ _ _ _ _ hn n 0 (by omega) ⟨_, _, .refl, hK⟩⟩
    · exact h.elim
  · exact h.elim
def Tde2 : Specs := ext Tde1 14 (sameRow)
theorem Tde2_sound : TSound Try.prog Tde2 := ext_sound Tde1_sound (row_weak Tde1_sound mixed Try.func14 (by decide +kernel) outriderref06_Same_p)
abbrev Tde : Specs := Tde2
theorem Tde_sound : TSound Try.prog Tde := Tde2_sound
end Go.Proofs.Ytbjolilknkbehaa.Ae

