/- Chapter 2's functions as a table, for seats without a sum. -/
import Derived.Test.YtlmidhmpolopdaaAeRw
import Derived.Test.YtlmidhmpolopdaaAeNm
import Derived.Test.YtlmidhmpolopdaaAeQk
import Derived.Test.YtlmidhmpolopdaaAeAr
import Derived.Test.YtlmidhmpolopdaaMet
set_option linter.unusedSimpArgs false
set_option linter.unusedVariables false
namespace Go.Proofs.Ytlmidhmpolopdaa.Ae
open Go
theorem mixed : Try.prog.follows .mixedOrders = true := by kernel_rfl
/-- a frame to bytes -/
def etEncRow : Srow := fun args H K => match args, H with
  | [.agg [.byte a0, .byte a1, .byte a2, .byte a3, .byte a4, .byte a5, .byte b0, .byte b1, .byte b2, .byte b3, .byte b4, .byte b5, .int .i64 ty, .str b]], [] => optP (etEncode ⟨⟨a0, a1, a2, a3, a4, a5⟩, ⟨b0, b1, b2, b3, b4, b5⟩, ty, b⟩) (fun l => K (.tup [.sl 0 0 l.length 1, .int .i64 0]) [.bytes l]) (K (.tup [.nilS, .int .i64 1]) [])
  | _, _ => False
def etEncRowB : Srow := fun args H K => match args, H with
  | [.agg [.byte a0, .byte a1, .byte a2, .byte a3, .byte a4, .byte a5, .byte b0, .byte b1, .byte b2, .byte b3, .byte b4, .byte b5, .int .i64 ty, .str b]], [] => b.length ≤ 140737488351232 ∧ optP (etEncode ⟨⟨a0, a1, a2, a3, a4, a5⟩, ⟨b0, b1, b2, b3, b4, b5⟩, ty, b⟩) (fun l => K (.tup [.sl 0 0 l.length 1, .int .i64 0]) [.bytes l]) (K (.tup [.nilS, .int .i64 1]) [])
  | _, _ => False
def fmV (f : Fm) : List AVal := [.byte f.a.a0, .byte f.a.a1, .byte f.a.a2, .byte f.a.a3, .byte f.a.a4, .byte f.a.a5, .byte f.b.a0, .byte f.b.a1, .byte f.b.a2, .byte f.b.a3, .byte f.b.a4, .byte f.b.a5, .int .i64 f.ty, .str f.body]
def etDecRow : Srow := fun args H K => match args, H with
  | [.roB l], [] => l.length ≤ 140737488355328 ∧ K (.tup [.agg (fmV (etDecode l).1), .int .i64 (etDecode l).2]) []
  | [.nilS], [] => K (.tup [.agg (fmV (etDecode []).1), .int .i64 (etDecode []).2]) []
  | _, _ => False
def etManyRow : Srow := fun args H K => match args, H with
  | [.str a], [] => K (.tup [.agg [.byte (etMany a).1.a0, .byte (etMany a).1.a1, .byte (etMany a).1.a2, .byte (etMany a).1.a3, .byte (etMany a).1.a4, .byte (etMany a).1.a5], .bool (etMany a).2]) []
  | _, _ => False
theorem and127 (x : UInt8) : UInt8.ofNat (x.toNat % 128) = x &&& 127 := by
  have h : ∀ n : Nat, n < 256 → n % 128 % 256 = n &&& 127 := by decide +kernel
  apply UInt8.toNat_inj.1
  rw [UInt8.toNat_and, UInt8.toNat_ofNat']
  exact h _ x.toNat_lt
def ann_ether_All : Nat → List Nat × Nat × List (List Nat)
  | _ => ([], 0, [])
def Te21 : Specs := ext noT 21 (fnP Try.prog noT ann_ether_All Try.f21)
theorem Te21_sound : TSound Try.prog Te21 := ext_sound noT_sound (fn_row noT_sound mixed Try.func21 (by decide +kernel))
def ann_ether_Encode : Nat → List Nat × Nat × List (List Nat)
  | 5 => ([], 5, [[4], [], [0], [], [2], [0, 1, 2, 3]])
  | 7 => ([], 5, [[4], [], [0], [], [2], [0, 1, 2, 3]])
  | 2000001 => ([], 15, [[], [0], [0, 1], [0, 1, 2], [0, 1, 2, 3], [0, 1, 2, 3, 4], [0, 1, 2, 3, 4, 5], [0, 1, 2, 3, 4, 5, 6], [0, 1, 2, 3, 4, 5, 6, 7], [0, 1, 2, 3, 4, 5, 6, 7, 8], [0, 1, 2, 3, 4, 5, 6, 7, 8, 9], [0, 1, 2, 3, 4, 5, 6, 7, 8, 9, 10], [0, 1, 2, 3, 4, 5, 6, 7, 8, 9, 10, 11], [0, 1, 2, 3, 4, 5, 6, 7, 8, 9, 10, 11, 12]])
  | _ => ([], 0, [])
set_option maxRecDepth 100000 in
theorem ether_Encode2_eq (a0 a1 a2 a3 a4 a5 b0 b1 b2 b3 b4 b5 : UInt8) (ty : Int) (b : List UInt8) (K : AVal → Hp → Prop) : fnP Try.prog Te21 ann_ether_Encode Try.f10 [.agg [.byte a0, .byte a1, .byte a2, .byte a3, .byte a4, .byte a5, .byte b0, .byte b1, .byte b2, .byte b3, .byte b4, .byte b5, .int .i64 ty, .str b]] [] K = (
 brP (decide (ty < (1536 : Int)) || decide ((65535 : Int) < ty) || decide ((1500 : Int) < (↑(List.length b) : Int)))
 (K (AVal.tup [AVal.nilS, AVal.int IntKind.i64 (1 : Int)]) [])
 (I64 ((14 : Int) + (↑(List.length b) : Int)) ∧
 ((0 : Int) ≤ (14 : Int) + (↑(List.length b) : Int) ∧
 (14 : Int) + (↑(List.length b) : Int) = (14 : Int) + (↑(List.length b) : Int) ∧
 (14 : Int) + (↑(List.length b) : Int) ≤ (140737488355328 : Int)) ∧
 ((6 : Nat) ≤ List.length (List.replicate (Int.toNat ((14 : Int) + (↑(List.length b) : Int))) (0 : UInt8)) ∧
 (6 : Nat) ≤ Int.toNat ((14 : Int) + (↑(List.length b) : Int))) ∧
 ((0 : Int) ≤ (6 : Int) ∧ (6 : Int) ≤ (↑(Int.toNat ((14 : Int) + (↑(List.length b) : Int))) : Int)) ∧
 ((12 : Nat) ≤
 List.length
 (List.take (0 : Nat) (List.replicate (Int.toNat ((14 : Int) + (↑(List.length b) : Int))) (0 : UInt8)) ++
 ([a0, a1, a2, a3, a4, a5] ++
 List.drop (6 : Nat) (List.replicate (Int.toNat ((14 : Int) + (↑(List.length b) : Int))) (0 : UInt8)))) ∧
 (6 : Nat) ≤ Int.toNat (↑(Int.toNat ((14 : Int) + (↑(List.length b) : Int))) : Int) - (6 : Nat)) ∧
 ((0 : Int) ≤ (8 : Int) ∧ (8 : Nat) < (64 : Nat)) ∧
 ((0 : Int) ≤ (12 : Int) ∧ (12 : Int) < (↑(Int.toNat ((14 : Int) + (↑(List.length b) : Int))) : Int)) ∧
 (12 : Nat) <
 List.length
 (List.take (6 : Nat)
 (List.take (0 : Nat) (List.replicate (Int.toNat ((14 : Int) + (↑(List.length b) : Int))) (0 : UInt8)) ++
 ([a0, a1, a2, a3, a4, a5] ++
 List.drop (6 : Nat)
 (List.replicate (Int.toNat ((14 : Int) + (↑(List.length b) : Int))) (0 : UInt8)))) ++
 ([b0, b1, b2, b3, b4, b5] ++
 List.drop (12 : Nat)
 (List.take (0 : Nat) (List.replicate (Int.toNat ((14 : Int) + (↑(List.length b) : Int))) (0 : UInt8)) ++
 ([a0, a1, a2, a3, a4, a5] ++
 List.drop (6 : Nat)
 (List.replicate (Int.toNat ((14 : Int) + (↑(List.length b) : Int))) (0 : UInt8)))))) ∧
 ((0 : Int) ≤ (13 : Int) ∧ (13 : Int) < (↑(Int.toNat ((14 : Int) + (↑(List.length b) : Int))) : Int)) ∧
 (13 : Nat) <
 List.length
 (List.set
 (List.take (6 : Nat)
 (List.take (0 : Nat)
 (List.replicate (Int.toNat ((14 : Int) + (↑(List.length b) : Int))) (0 : UInt8)) ++
 ([a0, a1, a2, a3, a4, a5] ++
 List.drop (6 : Nat)
 (List.replicate (Int.toNat ((14 : Int) + (↑(List.length b) : Int))) (0 : UInt8)))) ++
 ([b0, b1, b2, b3, b4, b5] ++
 List.drop (12 : Nat)
 (List.take (0 : Nat)
 (List.replicate (Int.toNat ((14 : Int) + (↑(List.length b) : Int))) (0 : UInt8)) ++
 ([a0, a1, a2, a3, a4, a5] ++
 List.drop (6 : Nat)
 (List.replicate (Int.toNat ((14 : Int) + (↑(List.length b) : Int))) (0 : UInt8))))))
 (12 : Nat) (b8 (ty / (256 : Int)))) ∧
 ((0 : Int) ≤ (14 : Int) ∧ (14 : Int) ≤ (↑(Int.toNat ((14 : Int) + (↑(List.length b) : Int))) : Int)) ∧
 ((14 : Nat) + List.length b ≤
 List.length
 (List.set
 (List.set
 (List.take (6 : Nat)
 (List.take (0 : Nat)
 (List.replicate (Int.toNat ((14 : Int) + (↑(List.length b) : Int))) (0 : UInt8)) ++
 ([a0, a1, a2, a3, a4, a5] ++
 List.drop (6 : Nat)
 (List.replicate (Int.toNat ((14 : Int) + (↑(List.length b) : Int))) (0 : UInt8)))) ++
 ([b0, b1, b2, b3, b4, b5] ++
 List.drop (12 : Nat)
 (List.take (0 : Nat)
 (List.replicate (Int.toNat ((14 : Int) + (↑(List.length b) : Int))) (0 : UInt8)) ++
 ([a0, a1, a2, a3, a4, a5] ++
 List.drop (6 : Nat)
 (List.replicate (Int.toNat ((14 : Int) + (↑(List.length b) : Int))) (0 : UInt8))))))
 (12 : Nat) (b8 (ty / (256 : Int))))
 (13 : Nat) (b8 ty)) ∧
 List.length b ≤ Int.toNat (↑(Int.toNat ((14 : Int) + (↑(List.length b) : Int))) : Int) - (14 : Nat)) ∧
 K
 (AVal.tup
 [AVal.sl (0 : Nat) (0 : Nat) (Int.toNat ((14 : Int) + (↑(List.length b) : Int))) (1 : Nat),
 AVal.int IntKind.i64 (0 : Int)])
 [ABlk.bytes
 (List.take (14 : Nat)
 (List.set
 (List.set
 (List.take (6 : Nat)
 (List.take (0 : Nat)
 (List.replicate (Int.toNat ((14 : Int) + (↑(List.length b) : Int))) (0 : UInt8)) ++
 ([a0, a1, a2, a3, a4, a5] ++
 List.drop (6 : Nat)
 (List.replicate (Int.toNat ((14 : Int) + (↑(List.length b) : Int))) (0 : UInt8)))) ++
 ([b0, b1, b2, b3, b4, b5] ++
 List.drop (12 : Nat)
 (List.take (0 : Nat)
 (List.replicate (Int.toNat ((14 : Int) + (↑(List.length b) : Int))) (0 : UInt8)) ++
 ([a0, a1, a2, a3, a4, a5] ++
 List.drop (6 : Nat)
 (List.replicate (Int.toNat ((14 : Int) + (↑(List.length b) : Int))) (0 : UInt8))))))
 (12 : Nat) (b8 (ty / (256 : Int))))
 (13 : Nat) (b8 ty)) ++
 (b ++
 List.drop ((14 : Nat) + List.length b)
 (List.set
 (List.set
 (List.take (6 : Nat)
 (List.take (0 : Nat)
 (List.replicate (Int.toNat ((14 : Int) + (↑(List.length b) : Int))) (0 : UInt8)) ++
 ([a0, a1, a2, a3, a4, a5] ++
 List.drop (6 : Nat)
 (List.replicate (Int.toNat ((14 : Int) + (↑(List.length b) : Int))) (0 : UInt8)))) ++
 ([b0, b1, b2, b3, b4, b5] ++
 List.drop (12 : Nat)
 (List.take (0 : Nat)
 (List.replicate (Int.toNat ((14 : Int) + (↑(List.length b) : Int))) (0 : UInt8)) ++
 ([a0, a1, a2, a3, a4, a5] ++
 List.drop (6 : Nat)
 (List.replicate (Int.toNat ((14 : Int) + (↑(List.length b) : Int))) (0 : UInt8))))))
 (12 : Nat) (b8 (ty / (256 : Int))))
 (13 : Nat) (b8 ty))))])) := by kernel_rfl
theorem ether_Encode_p : ∀ args H K, etEncRow args H K → fnP Try.prog Te21 ann_ether_Encode Try.f10 args H K := by
  intro args H K h
  unfold etEncRow at h
  split at h
  · rename_i a0 a1 a2 a3 a4 a5 b0 b1 b2 b3 b4 b5 ty b
    rw [ether_Encode2_eq]
    try simp only [or_w16, div2, div3, add_w16, and255, b8_mod, List.set_cons_zero, List.set_cons_succ, andNot_4000, getD_drop, getD_take, b8_byte, b8_toNatN, UInt8.toNat_ofNat', UInt8.toNat_and, nat_mask4, nat_mask6, nat_240, u8_eq_iff, UInt8.reduceToNat, Int.reduceLT, List.take_succ_cons, List.take_zero, List.drop_zero, List.flatten_cons, List.flatten_nil, List.append_nil, List.nil_append, List.take_length, Nat.mul_one, Nat.zero_add, Nat.reduceAdd, Nat.reduceLT]
    revert h; intro hK
    rcases etEnc_cases hK with ⟨h1, h2⟩ | ⟨h1, h2⟩ <;> rw [Fm.ok_iff] at h1 <;> simp only at h1
    · repeat' first
        | (refine And.intro (by first | first | omega | with_reducible exact i64_x256 _ | with_reducible exact i64_w16 _ _ | with_reducible exact i64_sum _ | (repeat' first | with_reducible exact i64_x256 _ | with_reducible exact i64_w16 _ _ | with_reducible exact i64_sum _ | with_reducible apply And.intro) <;> first | omega | (simp only [I64]; omega) | (simp; omega) | (simp; done) | (simp [I64]; omega) | (with_reducible refine impP_i (fun hg => ?_) <;> (try simp only [Bool.and_eq_true, Bool.or_eq_true, Bool.and_eq_false_iff, Bool.or_eq_false_iff, decide_eq_true_eq, decide_eq_false_iff_not, Bool.not_eq_true', Bool.not_eq_false', Bool.not_true, Bool.not_false, Bool.true_and, Bool.and_true, Bool.false_or, Bool.or_false, beq_iff_eq, beq_eq_false_iff_ne, ne_eq] at hg) <;> (first | omega | with_reducible exact i64_x256 _ | with_reducible exact i64_w16 _ _ | with_reducible exact i64_sum _ | (repeat' first | with_reducible exact i64_x256 _ | with_reducible exact i64_w16 _ _ | with_reducible exact i64_sum _ | with_reducible apply And.intro) <;> first | omega | (simp only [I64]; omega) | (simp; omega) | (simp; done) | (simp [I64]; omega)))) ?_)
        | (refine brP_d (fun h => ?_) (fun h => ?_))
        | (refine optP_i (fun x hx => ?_) (fun hx => ?_) <;> (try have hxl := pseudo_len hx))
        | (refine brP_nd (fun h => ?_) (fun h => ?_))
        | (refine brP_i (fun h => ?_) (fun h => ?_) <;> (try simp only [Bool.and_eq_true, Bool.or_eq_true, Bool.and_eq_false_iff, Bool.or_eq_false_iff, decide_eq_true_eq, decide_eq_false_iff_not, Bool.not_eq_true', Bool.not_eq_false', Bool.not_true, Bool.not_false, Bool.true_and, Bool.and_true, Bool.false_or, Bool.or_false, beq_iff_eq, beq_eq_false_iff_ne, ne_eq] at h))
      all_goals first
        | (exfalso; omega)
        | skip
      have hr : List.replicate (14 + (b.length : Int)).toNat (0 : UInt8) = 0 :: 0 :: 0 :: 0 :: 0 :: 0 :: 0 :: 0 :: 0 :: 0 :: 0 :: 0 :: 0 :: 0 :: List.replicate b.length 0 := by
        rw [show (14 + (b.length : Int)).toNat = b.length + 14 by omega]; rfl
      refine endK_eq h2 ?_ ?_
      · simp [Fm.bytes, Mc.bytes]; omega
      · rw [hr]; simp [Fm.bytes, Mc.bytes, show 14 + b.length = b.length + 14 from Nat.add_comm ..]
    · repeat' first
        | (refine And.intro (by first | first | omega | with_reducible exact i64_x256 _ | with_reducible exact i64_w16 _ _ | with_reducible exact i64_sum _ | (repeat' first | with_reducible exact i64_x256 _ | with_reducible exact i64_w16 _ _ | with_reducible exact i64_sum _ | with_reducible apply And.intro) <;> first | omega | (simp only [I64]; omega) | (simp; omega) | (simp; done) | (simp [I64]; omega) | (with_reducible refine impP_i (fun hg => ?_) <;> (try simp only [Bool.and_eq_true, Bool.or_eq_true, Bool.and_eq_false_iff, Bool.or_eq_false_iff, decide_eq_true_eq, decide_eq_false_iff_not, Bool.not_eq_true', Bool.not_eq_false', Bool.not_true, Bool.not_false, Bool.true_and, Bool.and_true, Bool.false_or, Bool.or_false, beq_iff_eq, beq_eq_false_iff_ne, ne_eq] at hg) <;> (first | omega | with_reducible exact i64_x256 _ | with_reducible exact i64_w16 _ _ | with_reducible exact i64_sum _ | (repeat' first | with_reducible exact i64_x256 _ | with_reducible exact i64_w16 _ _ | with_reducible exact i64_sum _ | with_reducible apply And.intro) <;> first | omega | (simp only [I64]; omega) | (simp; omega) | (simp; done) | (simp [I64]; omega)))) ?_)
        | (refine brP_d (fun h => ?_) (fun h => ?_))
        | (refine optP_i (fun x hx => ?_) (fun hx => ?_) <;> (try have hxl := pseudo_len hx))
        | (refine brP_nd (fun h => ?_) (fun h => ?_))
        | (refine brP_i (fun h => ?_) (fun h => ?_) <;> (try simp only [Bool.and_eq_true, Bool.or_eq_true, Bool.and_eq_false_iff, Bool.or_eq_false_iff, decide_eq_true_eq, decide_eq_false_iff_not, Bool.not_eq_true', Bool.not_eq_false', Bool.not_true, Bool.not_false, Bool.true_and, Bool.and_true, Bool.false_or, Bool.or_false, beq_iff_eq, beq_eq_false_iff_ne, ne_eq] at h))
      all_goals first
        | exact h2
        | (exfalso; omega)
  · exact h.elim
def Te22 : Specs := ext Te21 10 (etEncRow)
theorem Te22_sound : TSound Try.prog Te22 := ext_sound Te21_sound (row_of Te21_sound mixed Try.func10 (by decide +kernel) ether_Encode_p)
def ann_ether_Many : Nat → List Nat × Nat × List (List Nat)
  | 3 => ([], 8, [[], [0], [0, 1], [], [3], [], [5], [0, 1, 2, 3, 4, 5, 6]])
  | 6 => ([], 4, [[3], [], [], [1], [0, 1, 2]])
  | 7 => ([], 5, [[4], [], [], [], [1, 2], [0]])
  | 2000002 => ([], 10, [[], [0], [0, 1], [0, 1, 2], [0, 1, 2, 3], [0, 1, 2, 3, 4], [0, 1, 2, 3, 4, 5], [0, 1, 2, 3, 4, 5, 6], [0, 1, 2, 3, 4, 5, 6, 7]])
  | 2000004 => ([], 9, [[], [0], [0, 1], [0, 1, 2], [0, 1, 2, 3], [0, 1, 2, 3, 4], [0, 1, 2, 3, 4, 5], [0, 1, 2, 3, 4, 5, 6]])
  | _ => ([], 0, [])
set_option maxRecDepth 100000 in
theorem ether_Many2_eq (a : List UInt8) (K : AVal → Hp → Prop) : fnP Try.prog Te22 ann_ether_Many Try.f14 [.str a] [] K = (
 impP (decide ((↑(List.length a) : Int) = (4 : Int))) ((0 : Int) ≤ (0 : Int) ∧ (0 : Int) < (↑(List.length a) : Int)) ∧
 brP
 (decide ((↑(List.length a) : Int) = (4 : Int)) &&
 decide (List.getD a (0 : Nat) (0 : UInt8) &&& (240 : UInt8) = (224 : UInt8)))
 (((0 : Int) ≤ (1 : Int) ∧ (1 : Int) < (↑(List.length a) : Int)) ∧
 ((0 : Int) ≤ (2 : Int) ∧ (2 : Int) < (↑(List.length a) : Int)) ∧
 ((0 : Int) ≤ (3 : Int) ∧ (3 : Int) < (↑(List.length a) : Int)) ∧
 K
 (AVal.tup
 [AVal.agg
 [AVal.byte (1 : UInt8), AVal.byte (0 : UInt8), AVal.byte (94 : UInt8),
 AVal.byte (List.getD a (1 : Nat) (0 : UInt8) &&& (127 : UInt8)),
 AVal.byte (List.getD a (2 : Nat) (0 : UInt8)), AVal.byte (List.getD a (3 : Nat) (0 : UInt8))],
 AVal.bool true])
 [])
 (impP (decide ((↑(List.length a) : Int) = (16 : Int)))
 ((0 : Int) ≤ (0 : Int) ∧ (0 : Int) < (↑(List.length a) : Int)) ∧
 brP (decide ((↑(List.length a) : Int) = (16 : Int)) && decide (List.getD a (0 : Nat) (0 : UInt8) = (255 : UInt8)))
 (((0 : Int) ≤ (2 : Int) ∧ (2 : Int) ≤ (6 : Int)) ∧
 ((0 : Int) ≤ (12 : Int) ∧ (12 : Int) ≤ (↑(List.length a) : Int)) ∧
 (4 : Nat) ≤ List.length (List.drop (12 : Nat) a) ∧
 K
 (AVal.tup
 [AVal.agg
 [AVal.byte (51 : UInt8), AVal.byte (51 : UInt8),
 AVal.byte (List.getD (List.drop (12 : Nat) a) (0 : Nat) (0 : UInt8)),
 AVal.byte (List.getD (List.drop (12 : Nat) a) (1 : Nat) (0 : UInt8)),
 AVal.byte (List.getD (List.drop (12 : Nat) a) (2 : Nat) (0 : UInt8)),
 AVal.byte (List.getD (List.drop (12 : Nat) a) (3 : Nat) (0 : UInt8))],
 AVal.bool true])
 [])
 (K
 (AVal.tup
 [AVal.agg
 [AVal.byte (0 : UInt8), AVal.byte (0 : UInt8), AVal.byte (0 : UInt8), AVal.byte (0 : UInt8),
 AVal.byte (0 : UInt8), AVal.byte (0 : UInt8)],
 AVal.bool false])
 []))) := by kernel_rfl
theorem ether_Many_p : ∀ args H K, etManyRow args H K → fnP Try.prog Te22 ann_ether_Many Try.f14 args H K := by
  intro args H K h
  unfold etManyRow at h
  split at h
  · rename_i a
    rw [ether_Many2_eq]
    revert h; intro hK
    try simp only [or_w16, div2, div3, add_w16, and255, b8_mod, List.set_cons_zero, List.set_cons_succ, andNot_4000, getD_drop, getD_take, b8_byte, b8_toNatN, UInt8.toNat_ofNat', UInt8.toNat_and, nat_mask4, nat_mask6, nat_240, u8_eq_iff, UInt8.reduceToNat, Int.reduceLT, List.take_succ_cons, List.take_zero, List.drop_zero, List.flatten_cons, List.flatten_nil, List.append_nil, List.nil_append, List.take_length, Nat.mul_one, Nat.zero_add, Nat.reduceAdd, Nat.reduceLT]
    have x0 := (a.getD 0 0).toNat_lt
    unfold etMany at hK
    repeat' first
      | (refine And.intro (by first | first | omega | with_reducible exact i64_x256 _ | with_reducible exact i64_w16 _ _ | with_reducible exact i64_sum _ | (repeat' first | with_reducible exact i64_x256 _ | with_reducible exact i64_w16 _ _ | with_reducible exact i64_sum _ | with_reducible apply And.intro) <;> first | omega | (simp only [I64]; omega) | (simp; omega) | (simp; done) | (simp [I64]; omega) | (with_reducible refine impP_i (fun hg => ?_) <;> (try simp only [Bool.and_eq_true, Bool.or_eq_true, Bool.and_eq_false_iff, Bool.or_eq_false_iff, decide_eq_true_eq, decide_eq_false_iff_not, Bool.not_eq_true', Bool.not_eq_false', Bool.not_true, Bool.not_false, Bool.true_and, Bool.and_true, Bool.false_or, Bool.or_false, beq_iff_eq, beq_eq_false_iff_ne, ne_eq] at hg) <;> (first | omega | with_reducible exact i64_x256 _ | with_reducible exact i64_w16 _ _ | with_reducible exact i64_sum _ | (repeat' first | with_reducible exact i64_x256 _ | with_reducible exact i64_w16 _ _ | with_reducible exact i64_sum _ | with_reducible apply And.intro) <;> first | omega | (simp only [I64]; omega) | (simp; omega) | (simp; done) | (simp [I64]; omega)))) ?_)
      | (refine brP_d (fun h => ?_) (fun h => ?_))
      | (refine optP_i (fun x hx => ?_) (fun hx => ?_) <;> (try have hxl := pseudo_len hx))
      | (refine brP_nd (fun h => ?_) (fun h => ?_))
      | (refine brP_i (fun h => ?_) (fun h => ?_) <;> (try simp only [Bool.and_eq_true, Bool.or_eq_true, Bool.and_eq_false_iff, Bool.or_eq_false_iff, decide_eq_true_eq, decide_eq_false_iff_not, Bool.not_eq_true', Bool.not_eq_false', Bool.not_true, Bool.not_false, Bool.true_and, Bool.and_true, Bool.false_or, Bool.or_false, beq_iff_eq, beq_eq_false_iff_ne, ne_eq] at h))
    all_goals repeat' split at hK
    all_goals first
      | exact hK
      | (exfalso; omega)
      | trace_state
  · exact h.elim
def Te23 : Specs := ext Te22 14 (etManyRow)
theorem Te23_sound : TSound Try.prog Te23 := ext_sound Te22_sound (row_of Te22_sound mixed Try.func14 (by decide +kernel) ether_Many_p)
def ann_ether_Group : Nat → List Nat × Nat × List (List Nat)
  | _ => ([], 0, [])
def Te24 : Specs := ext Te23 18 (fnP Try.prog Te23 ann_ether_Group Try.f18)
theorem Te24_sound : TSound Try.prog Te24 := ext_sound Te23_sound (fn_row Te23_sound mixed Try.func18 (by decide +kernel))
def ann_ether_Virtual : Nat → List Nat × Nat × List (List Nat)
  | 2000001 => ([], 7, [[], [0], [0, 1], [0, 1, 2], [0, 1, 2, 3], [0, 1, 2, 3, 4]])
  | _ => ([], 0, [])
def Te25 : Specs := ext Te24 13 (fnP Try.prog Te24 ann_ether_Virtual Try.f13)
theorem Te25_sound : TSound Try.prog Te25 := ext_sound Te24_sound (fn_row Te24_sound mixed Try.func13 (by decide +kernel))
def ann_outriderref02_Group : Nat → List Nat × Nat × List (List Nat)
  | _ => ([], 0, [])
def Te26 : Specs := ext Te25 20 (fnP Try.prog Te25 ann_outriderref02_Group Try.f20)
theorem Te26_sound : TSound Try.prog Te26 := ext_sound Te25_sound (fn_row Te25_sound mixed Try.func20 (by decide +kernel))
def ann_outriderref02_Virtual : Nat → List Nat × Nat × List (List Nat)
  | 2000001 => ([], 7, [[], [0], [0, 1], [0, 1, 2], [0, 1, 2, 3], [0, 1, 2, 3, 4]])
  | _ => ([], 0, [])
def Te27 : Specs := ext Te26 17 (fnP Try.prog Te26 ann_outriderref02_Virtual Try.f17)
theorem Te27_sound : TSound Try.prog Te27 := ext_sound Te26_sound (fn_row Te26_sound mixed Try.func17 (by decide +kernel))
def ann_outriderref02_Many : Nat → List Nat × Nat × List (List Nat)
  | 2 => ([], 8, [[], [0], [0, 1], [], [3], [], [5], [0, 1, 2, 3, 4, 5, 6]])
  | 4 => ([], 9, [[], [0], [], [2], [], [4], [], [6], [0, 1, 2, 3, 4, 5, 6, 7]])
  | 2000001 => ([], 14, [[], [0], [0, 1], [0, 1, 2], [0, 1, 2, 3], [0, 1, 2, 3, 4], [0, 1, 2, 3, 4, 5], [0, 1, 2, 3, 4, 5, 6], [0, 1, 2, 3, 4, 5, 6, 7], [0, 1, 2, 3, 4, 5, 6, 7, 8], [0, 1, 2, 3, 4, 5, 6, 7, 8, 9], [0, 1, 2, 3, 4, 5, 6, 7, 8, 9, 10], [0, 1, 2, 3, 4, 5, 6, 7, 8, 9, 10, 11]])
  | 2000003 => ([], 9, [[], [0], [0, 1], [0, 1, 2], [0, 1, 2, 3], [0, 1, 2, 3, 4], [0, 1, 2, 3, 4, 5], [0, 1, 2, 3, 4, 5, 6]])
  | _ => ([], 0, [])
set_option maxRecDepth 100000 in
theorem ref02_Many_eq (a : List UInt8) (K : AVal → Hp → Prop) : fnP Try.prog Te27 ann_outriderref02_Many Try.f19 [.str a] [] K = (
 impP (decide ((↑(List.length a) : Int) = (4 : Int))) ((0 : Int) ≤ (0 : Int) ∧ (0 : Int) < (↑(List.length a) : Int)) ∧
 impP
 (decide ((↑(List.length a) : Int) = (4 : Int)) &&
 decide ((224 : Nat) ≤ UInt8.toNat (List.getD a (0 : Nat) (0 : UInt8))))
 ((0 : Int) ≤ (0 : Int) ∧ (0 : Int) < (↑(List.length a) : Int)) ∧
 brP
 (decide ((↑(List.length a) : Int) = (4 : Int)) &&
 decide ((224 : Nat) ≤ UInt8.toNat (List.getD a (0 : Nat) (0 : UInt8))) &&
 decide (UInt8.toNat (List.getD a (0 : Nat) (0 : UInt8)) ≤ (239 : Nat)))
 (((0 : Int) ≤ (1 : Int) ∧ (1 : Int) < (↑(List.length a) : Int)) ∧
 (128 : Nat) ≠ (0 : Nat) ∧
 ((0 : Int) ≤ (2 : Int) ∧ (2 : Int) < (↑(List.length a) : Int)) ∧
 ((0 : Int) ≤ (3 : Int) ∧ (3 : Int) < (↑(List.length a) : Int)) ∧
 K
 (AVal.tup
 [AVal.agg
 [AVal.byte (1 : UInt8), AVal.byte (0 : UInt8), AVal.byte (94 : UInt8),
 AVal.byte (UInt8.ofNat (UInt8.toNat (List.getD a (1 : Nat) (0 : UInt8)) % (128 : Nat))),
 AVal.byte (List.getD a (2 : Nat) (0 : UInt8)), AVal.byte (List.getD a (3 : Nat) (0 : UInt8))],
 AVal.bool true])
 [])
 (impP (decide ((↑(List.length a) : Int) = (16 : Int)))
 ((0 : Int) ≤ (0 : Int) ∧ (0 : Int) < (↑(List.length a) : Int)) ∧
 brP (decide ((↑(List.length a) : Int) = (16 : Int)) && decide (List.getD a (0 : Nat) (0 : UInt8) = (255 : UInt8)))
 (((0 : Int) ≤ (12 : Int) ∧ (12 : Int) < (↑(List.length a) : Int)) ∧
 ((0 : Int) ≤ (13 : Int) ∧ (13 : Int) < (↑(List.length a) : Int)) ∧
 ((0 : Int) ≤ (14 : Int) ∧ (14 : Int) < (↑(List.length a) : Int)) ∧
 ((0 : Int) ≤ (15 : Int) ∧ (15 : Int) < (↑(List.length a) : Int)) ∧
 K
 (AVal.tup
 [AVal.agg
 [AVal.byte (51 : UInt8), AVal.byte (51 : UInt8), AVal.byte (List.getD a (12 : Nat) (0 : UInt8)),
 AVal.byte (List.getD a (13 : Nat) (0 : UInt8)), AVal.byte (List.getD a (14 : Nat) (0 : UInt8)),
 AVal.byte (List.getD a (15 : Nat) (0 : UInt8))],
 AVal.bool true])
 [])
 (K
 (AVal.tup
 [AVal.agg
 [AVal.byte (0 : UInt8), AVal.byte (0 : UInt8), AVal.byte (0 : UInt8), AVal.byte (0 : UInt8),
 AVal.byte (0 : UInt8), AVal.byte (0 : UInt8)],
 AVal.bool false])
 []))) := by kernel_rfl
theorem outriderref02_Many_p : ∀ args H K, etManyRow args H K → fnP Try.prog Te27 ann_outriderref02_Many Try.f19 args H K := by
  intro args H K h
  unfold etManyRow at h
  split at h
  · rename_i a
    rw [ref02_Many_eq]
    revert h; intro hK
    try simp only [or_w16, div2, div3, add_w16, and255, b8_mod, List.set_cons_zero, List.set_cons_succ, andNot_4000, getD_drop, getD_take, b8_byte, b8_toNatN, UInt8.toNat_ofNat', UInt8.toNat_and, nat_mask4, nat_mask6, nat_240, u8_eq_iff, UInt8.reduceToNat, Int.reduceLT, List.take_succ_cons, List.take_zero, List.drop_zero, List.flatten_cons, List.flatten_nil, List.append_nil, List.nil_append, List.take_length, Nat.mul_one, Nat.zero_add, Nat.reduceAdd, Nat.reduceLT]
    have x0 := (a.getD 0 0).toNat_lt
    unfold etMany at hK
    repeat' first
      | (refine And.intro (by first | first | omega | with_reducible exact i64_x256 _ | with_reducible exact i64_w16 _ _ | with_reducible exact i64_sum _ | (repeat' first | with_reducible exact i64_x256 _ | with_reducible exact i64_w16 _ _ | with_reducible exact i64_sum _ | with_reducible apply And.intro) <;> first | omega | (simp only [I64]; omega) | (simp; omega) | (simp; done) | (simp [I64]; omega) | (with_reducible refine impP_i (fun hg => ?_) <;> (try simp only [Bool.and_eq_true, Bool.or_eq_true, Bool.and_eq_false_iff, Bool.or_eq_false_iff, decide_eq_true_eq, decide_eq_false_iff_not, Bool.not_eq_true', Bool.not_eq_false', Bool.not_true, Bool.not_false, Bool.true_and, Bool.and_true, Bool.false_or, Bool.or_false, beq_iff_eq, beq_eq_false_iff_ne, ne_eq] at hg) <;> (first | omega | with_reducible exact i64_x256 _ | with_reducible exact i64_w16 _ _ | with_reducible exact i64_sum _ | (repeat' first | with_reducible exact i64_x256 _ | with_reducible exact i64_w16 _ _ | with_reducible exact i64_sum _ | with_reducible apply And.intro) <;> first | omega | (simp only [I64]; omega) | (simp; omega) | (simp; done) | (simp [I64]; omega)))) ?_)
      | (refine brP_d (fun h => ?_) (fun h => ?_))
      | (refine optP_i (fun x hx => ?_) (fun hx => ?_) <;> (try have hxl := pseudo_len hx))
      | (refine brP_nd (fun h => ?_) (fun h => ?_))
      | (refine brP_i (fun h => ?_) (fun h => ?_) <;> (try simp only [Bool.and_eq_true, Bool.or_eq_true, Bool.and_eq_false_iff, Bool.or_eq_false_iff, decide_eq_true_eq, decide_eq_false_iff_not, Bool.not_eq_true', Bool.not_eq_false', Bool.not_true, Bool.not_false, Bool.true_and, Bool.and_true, Bool.false_or, Bool.or_false, beq_iff_eq, beq_eq_false_iff_ne, ne_eq] at h))
    all_goals repeat' split at hK
    all_goals first
      | exact hK
      | (rw [and127]; exact hK)
      | (exfalso; omega)
  · exact h.elim
def Te28 : Specs := ext Te27 19 (etManyRow)
theorem Te28_sound : TSound Try.prog Te28 := ext_sound Te27_sound (row_of Te27_sound mixed Try.func19 (by decide +kernel) outriderref02_Many_p)
def ann_outriderlaw02_alive : Nat → List Nat × Nat × List (List Nat)
  | _ => ([], 0, [])
set_option maxRecDepth 100000 in
theorem alive02_eq  (K : AVal → Hp → Prop) : fnP Try.prog Te28 ann_outriderlaw02_alive Try.f12 [] [] K = (
 ((0 : Int) ≤ (5 : Int) ∧ (5 : Int) < (15 : Int)) ∧
 (5 : Nat) < (15 : Nat) ∧
 ((0 : Int) ≤ (12 : Int) ∧ (12 : Int) < (15 : Int)) ∧
 (12 : Nat) < (15 : Nat) ∧ ((0 : Int) ≤ (5 : Int) ∧ (5 : Int) < (6 : Int)) ∧ K (AVal.bool true) []) := by kernel_rfl
def trueRow : Srow := fun args H K => match args, H with
  | [], [] => K (.bool true) []
  | _, _ => False
theorem outriderlaw02_alive_p : ∀ args H K, trueRow args H K → fnP Try.prog Te28 ann_outriderlaw02_alive Try.f12 args H K := by
  intro args H K h
  unfold trueRow at h
  split at h
  · rw [alive02_eq]; exact ⟨by omega, by omega, by omega, by omega, by omega, h⟩
  · exact h.elim
def Te29 : Specs := ext Te28 12 (trueRow)
theorem Te29_sound : TSound Try.prog Te29 := ext_sound Te28_sound (row_of Te28_sound mixed Try.func12 (by decide +kernel) outriderlaw02_alive_p)
abbrev Te2 : Specs := Te29
theorem Te2_sound : TSound Try.prog Te2 := Te29_sound
end Go.Proofs.Ytlmidhmpolopdaa.Ae

