/- Chapter 2's functions as a table. -/
import Derived.Test.YtnbbaemijogeoaaFip
import Derived.Test.YtnbbaemijogeoaaMet
import Derived.Test.YtnbbaemijogeoaaAeQk
set_option linter.unusedSimpArgs false
set_option linter.unusedVariables false
namespace Go.Proofs.Ytnbbaemijogeoaa.Ae
open Go

/-- a frame to bytes -/
def etEncRow : Srow := fun args H K => match args, H with
  | [.agg [.byte a0, .byte a1, .byte a2, .byte a3, .byte a4, .byte a5, .byte b0, .byte b1, .byte b2, .byte b3, .byte b4, .byte b5, .int .i64 ty, .str b]], [] => optP (etEncode ⟨⟨a0, a1, a2, a3, a4, a5⟩, ⟨b0, b1, b2, b3, b4, b5⟩, ty, b⟩) (fun l => K (.tup [.sl 0 0 l.length 1, .int .i64 0]) [.bytes l]) (K (.tup [.nilS, .int .i64 1]) [])
  | _, _ => False
def etEncRowB : Srow := fun args H K => match args, H with
  | [.agg [.byte a0, .byte a1, .byte a2, .byte a3, .byte a4, .byte a5, .byte b0, .byte b1, .byte b2, .byte b3, .byte b4, .byte b5, .int .i64 ty, .str b]], [] => b.length ≤ 140737488351232 ∧ optP (etEncode ⟨⟨a0, a1, a2, a3, a4, a5⟩, ⟨b0, b1, b2, b3, b4, b5⟩, ty, b⟩) (fun l => K (.tup [.sl 0 0 l.length 1, .int .i64 0]) [.bytes l]) (K (.tup [.nilS, .int .i64 1]) [])
  | _, _ => False
def fmV (f : Fm) : List AVal := [.byte f.a.a0, .byte f.a.a1, .byte f.a.a2, .byte f.a.a3, .byte f.a.a4, .byte f.a.a5, .byte f.b.a0, .byte f.b.a1, .byte f.b.a2, .byte f.b.a3, .byte f.b.a4, .byte f.b.a5, .int .i64 f.ty, .str f.body]
def etDecRow : Srow := fun args H K => match args, H with
  | [.roB l], [] => l.length ≤ 140737488355328 ∧ K (.tup [.agg (fmV (etDecode l).1), .int .i64 (etDecode l).2]) []
  | [.nilS], [] => K (.tup [.agg (fmV (etDecode []).1), .int .i64 (etDecode []).2]) []
  | _, _ => False
def etManyRow : Srow := fun args H K => match args, H with
  | [.str a], [] => K (.tup [.agg [.byte (etMany a).1.a0, .byte (etMany a).1.a1, .byte (etMany a).1.a2, .byte (etMany a).1.a3, .byte (etMany a).1.a4, .byte (etMany a).1.a5], .bool (etMany a).2]) []
  | _, _ => False
abbrev Tet1 : Specs := Tip
theorem Tet1_sound : TSound Try.prog Tet1 := Tip_sound
abbrev Tet2 : Specs := Tet1
theorem Tet2_sound : TSound Try.prog Tet2 := Tet1_sound
def ann_ether_Decode : Nat → List Nat × Nat × List (List Nat)
  | 3 => ([], 15, [[], [0], [0, 1], [0, 1, 2], [0, 1, 2, 3], [], [5], [5, 6], [5, 6, 7], [0, 1, 2, 3, 4, 5, 6, 7, 8], [], [10], [10, 11], [0, 1, 2, 3, 4, 5, 6, 7, 8, 9, 10, 11, 12], []])
  | 5 => ([], 5, [[4], [], [0], [], [2], [0, 1, 2, 3]])
  | 2000001 => ([], 9, [[], [0], [0, 1], [0, 1, 2], [0, 1, 2, 3], [0, 1, 2, 3, 4], [0, 1, 2, 3, 4, 5], [0, 1, 2, 3, 4, 5, 6]])
  | _ => ([], 0, [])
set_option maxRecDepth 100000 in
theorem ether_Decode_eq (l : List UInt8) (K : AVal → Hp → Prop) : fnP Try.prog Tet2 ann_ether_Decode Try.f17 [.roB l] [] K = (
  brP (decide ((↑(List.length l) : Int) < (14 : Int)) || decide ((1514 : Int) < (↑(List.length l) : Int)))
    (K
     (AVal.tup
      [AVal.agg
        [AVal.byte (0 : UInt8), AVal.byte (0 : UInt8), AVal.byte (0 : UInt8), AVal.byte (0 : UInt8),
         AVal.byte (0 : UInt8), AVal.byte (0 : UInt8), AVal.byte (0 : UInt8), AVal.byte (0 : UInt8),
         AVal.byte (0 : UInt8), AVal.byte (0 : UInt8), AVal.byte (0 : UInt8), AVal.byte (0 : UInt8),
         AVal.int IntKind.i64 (0 : Int), AVal.str []],
       AVal.int IntKind.i64 (20 : Int)])
     [])
    (((0 : Int) ≤ (12 : Int) ∧ (12 : Int) < (↑(List.length l) : Int)) ∧
     ((0 : Int) ≤ (8 : Int) ∧
       (8 : Int) < (64 : Int) ∧ I64 ((↑(UInt8.toNat (List.getD l (12 : Nat) (0 : UInt8))) : Int) * (256 : Int))) ∧
      ((0 : Int) ≤ (13 : Int) ∧ (13 : Int) < (↑(List.length l) : Int)) ∧
       ((0 : Int) ≤ (14 : Int) ∧ (14 : Int) ≤ (↑(List.length l) : Int)) ∧
        (6 : Nat) ≤ List.length l ∧
         ((0 : Int) ≤ (6 : Int) ∧ (6 : Int) ≤ (↑(List.length l) : Int)) ∧
          (6 : Nat) ≤ List.length (List.drop (6 : Nat) l) ∧
           brP
            (decide
             (bits BinOp.or IntKind.i64 ((↑(UInt8.toNat (List.getD l (12 : Nat) (0 : UInt8))) : Int) * (256 : Int))
               (↑(UInt8.toNat (List.getD l (13 : Nat) (0 : UInt8))) : Int) <
              (1536 : Int)))
            (K
             (AVal.tup
              [AVal.agg
                [AVal.byte (0 : UInt8), AVal.byte (0 : UInt8), AVal.byte (0 : UInt8), AVal.byte (0 : UInt8),
                 AVal.byte (0 : UInt8), AVal.byte (0 : UInt8), AVal.byte (0 : UInt8), AVal.byte (0 : UInt8),
                 AVal.byte (0 : UInt8), AVal.byte (0 : UInt8), AVal.byte (0 : UInt8), AVal.byte (0 : UInt8),
                 AVal.int IntKind.i64 (0 : Int), AVal.str []],
               AVal.int IntKind.i64 (1 : Int)])
             [])
            (K
             (AVal.tup
              [AVal.agg
                [AVal.byte (List.getD l (0 : Nat) (0 : UInt8)), AVal.byte (List.getD l (1 : Nat) (0 : UInt8)),
                 AVal.byte (List.getD l (2 : Nat) (0 : UInt8)), AVal.byte (List.getD l (3 : Nat) (0 : UInt8)),
                 AVal.byte (List.getD l (4 : Nat) (0 : UInt8)), AVal.byte (List.getD l (5 : Nat) (0 : UInt8)),
                 AVal.byte (List.getD (List.drop (6 : Nat) l) (0 : Nat) (0 : UInt8)),
                 AVal.byte (List.getD (List.drop (6 : Nat) l) (1 : Nat) (0 : UInt8)),
                 AVal.byte (List.getD (List.drop (6 : Nat) l) (2 : Nat) (0 : UInt8)),
                 AVal.byte (List.getD (List.drop (6 : Nat) l) (3 : Nat) (0 : UInt8)),
                 AVal.byte (List.getD (List.drop (6 : Nat) l) (4 : Nat) (0 : UInt8)),
                 AVal.byte (List.getD (List.drop (6 : Nat) l) (5 : Nat) (0 : UInt8)),
                 AVal.int IntKind.i64
                  (bits BinOp.or IntKind.i64 ((↑(UInt8.toNat (List.getD l (12 : Nat) (0 : UInt8))) : Int) * (256 : Int))
                   (↑(UInt8.toNat (List.getD l (13 : Nat) (0 : UInt8))) : Int)),
                 AVal.str (List.drop (14 : Nat) l)],
               AVal.int IntKind.i64 (0 : Int)])
             []))) := by kernel_rfl
set_option maxRecDepth 100000 in
theorem ether_Decode_nil  (K : AVal → Hp → Prop) : fnP Try.prog Tet2 ann_ether_Decode Try.f17 [.nilS] [] K = (
  K
    (AVal.tup
     [AVal.agg
       [AVal.byte (0 : UInt8), AVal.byte (0 : UInt8), AVal.byte (0 : UInt8), AVal.byte (0 : UInt8), AVal.byte (0 : UInt8),
        AVal.byte (0 : UInt8), AVal.byte (0 : UInt8), AVal.byte (0 : UInt8), AVal.byte (0 : UInt8), AVal.byte (0 : UInt8),
        AVal.byte (0 : UInt8), AVal.byte (0 : UInt8), AVal.int IntKind.i64 (0 : Int), AVal.str []],
      AVal.int IntKind.i64 (20 : Int)])
    []) := by kernel_rfl
set_option maxRecDepth 8000 in
theorem ether_Decode_p : ∀ args H K, etDecRow args H K → fnP Try.prog Tet2 ann_ether_Decode Try.f17 args H K := by
  intro args H K h
  unfold etDecRow at h
  split at h
  · rename_i l
    rw [ether_Decode_eq]
    obtain ⟨hl, hK⟩ := h
    try simp only [or_w16, div2, div3, add_w16, and255, b8_mod, List.set_cons_zero, List.set_cons_succ, andNot_4000, getD_drop, getD_take, b8_byte, b8_toNatN, UInt8.toNat_ofNat', UInt8.toNat_and, nat_mask4, nat_mask6, nat_240, u8_eq_iff, UInt8.reduceToNat, Int.reduceLT, List.take_succ_cons, List.take_zero, List.drop_zero, List.flatten_cons, List.flatten_nil, List.append_nil, List.nil_append, List.take_length, Nat.mul_one, Nat.zero_add, Nat.reduceAdd, Nat.reduceLT, Nat.reduceAdd]
    have x12 := (l.getD 12 0).toNat_lt
    have x13 := (l.getD 13 0).toNat_lt
    rcases etDec_cases l with ⟨k1, e⟩ | ⟨k1, k2, e⟩ | ⟨k1, k2, e⟩ <;> rw [e] at hK <;> simp only [fmV, noFm, noMc, mcAt] at hK
    all_goals (repeat' first | (refine And.intro (by first | first | omega | with_reducible exact i64_x256 _ | with_reducible exact i64_w16 _ _ | with_reducible exact i64_sum _ | (repeat' first | with_reducible exact i64_x256 _ | with_reducible exact i64_w16 _ _ | with_reducible exact i64_sum _ | with_reducible apply And.intro) <;> first | omega | (simp only [I64]; omega) | (simp; omega) | (simp; done) | (simp [I64]; omega) | (with_reducible refine impP_i (fun hg => ?_) <;> (try simp only [Bool.and_eq_true, Bool.or_eq_true, Bool.and_eq_false_iff, Bool.or_eq_false_iff, decide_eq_true_eq, decide_eq_false_iff_not, Bool.not_eq_true', Bool.not_eq_false', Bool.not_true, Bool.not_false, Bool.true_and, Bool.and_true, Bool.false_or, Bool.or_false, beq_iff_eq, beq_eq_false_iff_ne, ne_eq] at hg) <;> (first | omega | with_reducible exact i64_x256 _ | with_reducible exact i64_w16 _ _ | with_reducible exact i64_sum _ | (repeat' first | with_reducible exact i64_x256 _ | with_reducible exact i64_w16 _ _ | with_reducible exact i64_sum _ | with_reducible apply And.intro) <;> first | omega | (simp only [I64]; omega) | (simp; omega) | (simp; done) | (simp [I64]; omega)))) ?_) | (refine brP_d (fun h => ?_) (fun h => ?_)) | (refine optP_i (fun x hx => ?_) (fun hx => ?_) <;> (try have hxl := pseudo_len hx)) | (refine brP_nd (fun h => ?_) (fun h => ?_)) | (refine brP_i (fun h => ?_) (fun h => ?_) <;> (try simp only [Bool.and_eq_true, Bool.or_eq_true, Bool.and_eq_false_iff, Bool.or_eq_false_iff, decide_eq_true_eq, decide_eq_false_iff_not, Bool.not_eq_true', Bool.not_eq_false', Bool.not_true, Bool.not_false, Bool.true_and, Bool.and_true, Bool.false_or, Bool.or_false, beq_iff_eq, beq_eq_false_iff_ne, ne_eq] at h)))
    all_goals first
      | exact hK
      | (exfalso; omega)
      | (exfalso; simp only [List.length_drop] at *; omega)
      | trace_state
  · rw [ether_Decode_nil]; exact h
  · exact h.elim
def Tet3 : Specs := ext Tet2 17 (etDecRow)
theorem Tet3_sound : TSound Try.prog Tet3 := ext_sound Tet2_sound (row_of Tet2_sound mixed Try.func17 (by decide +kernel) ether_Decode_p)
abbrev Tet4 : Specs := Tet3
theorem Tet4_sound : TSound Try.prog Tet4 := Tet3_sound
def ann_outriderref02_Encode : Nat → List Nat × Nat × List (List Nat)
  | 3 => ([1, 4, 5, 33, 34, 35, 38, 39, 40, 41, 42], 0, [])
  | 7 => ([1, 4, 6, 33, 34, 35, 38, 39, 40, 41, 42], 0, [])
  | 1000003 => ([], 8, [])
  | 1000007 => ([], 8, [])
  | 2000010 => ([], 16, [[], [0], [0, 1], [0, 1, 2], [0, 1, 2, 3], [0, 1, 2, 3, 4], [0, 1, 2, 3, 4, 5], [0, 1, 2, 3, 4, 5, 6], [0, 1, 2, 3, 4, 5, 6, 7], [0, 1, 2, 3, 4, 5, 6, 7, 8], [0, 1, 2, 3, 4, 5, 6, 7, 8, 9], [0, 1, 2, 3, 4, 5, 6, 7, 8, 9, 10], [0, 1, 2, 3, 4, 5, 6, 7, 8, 9, 10, 11], [0, 1, 2, 3, 4, 5, 6, 7, 8, 9, 10, 11, 12], [0, 1, 2, 3, 4, 5, 6, 7, 8, 9, 10, 11, 12, 13]])
  | _ => ([], 0, [])
set_option maxRecDepth 100000 in
theorem ref02_Encode_eq (a0 a1 a2 a3 a4 a5 b0 b1 b2 b3 b4 b5 : UInt8) (ty : Int) (b : List UInt8) (K : AVal → Hp → Prop) : fnP Try.prog Tet4 ann_outriderref02_Encode Try.f27 [.agg [.byte a0, .byte a1, .byte a2, .byte a3, .byte a4, .byte a5, .byte b0, .byte b1, .byte b2, .byte b3, .byte b4, .byte b5, .int .i64 ty, .str b]] [] K = (
  ((0 : Int) ≤ (0 : Int) ∧ (0 : Int) < (6 : Int)) ∧
    (1 : Nat) ≤ (140737488355328 : Nat) ∧
     I64 (1 : Int) ∧
      ((0 : Int) ≤ (1 : Int) ∧ (1 : Int) < (6 : Int)) ∧
       ((2 : Nat) ≤ (140737488355328 : Nat) ∧ (1 : Nat) = (1 : Nat)) ∧
        I64 (2 : Int) ∧
         ((0 : Int) ≤ (2 : Int) ∧ (2 : Int) < (6 : Int)) ∧
          ((3 : Nat) ≤ (140737488355328 : Nat) ∧ (2 : Nat) = (2 : Nat)) ∧
           I64 (3 : Int) ∧
            ((0 : Int) ≤ (3 : Int) ∧ (3 : Int) < (6 : Int)) ∧
             ((4 : Nat) ≤ (140737488355328 : Nat) ∧ (3 : Nat) = (3 : Nat)) ∧
              I64 (4 : Int) ∧
               ((0 : Int) ≤ (4 : Int) ∧ (4 : Int) < (6 : Int)) ∧
                ((5 : Nat) ≤ (140737488355328 : Nat) ∧ (4 : Nat) = (4 : Nat)) ∧
                 I64 (5 : Int) ∧
                  ((0 : Int) ≤ (5 : Int) ∧ (5 : Int) < (6 : Int)) ∧
                   ((6 : Nat) ≤ (140737488355328 : Nat) ∧ (5 : Nat) = (5 : Nat)) ∧
                    I64 (6 : Int) ∧
                     ((0 : Int) ≤ (0 : Int) ∧ (0 : Int) < (6 : Int)) ∧
                      ((7 : Nat) ≤ (140737488355328 : Nat) ∧ (6 : Nat) = (6 : Nat)) ∧
                       I64 (1 : Int) ∧
                        ((0 : Int) ≤ (1 : Int) ∧ (1 : Int) < (6 : Int)) ∧
                         ((8 : Nat) ≤ (140737488355328 : Nat) ∧ (7 : Nat) = (7 : Nat)) ∧
                          I64 (2 : Int) ∧
                           ((0 : Int) ≤ (2 : Int) ∧ (2 : Int) < (6 : Int)) ∧
                            ((9 : Nat) ≤ (140737488355328 : Nat) ∧ (8 : Nat) = (8 : Nat)) ∧
                             I64 (3 : Int) ∧
                              ((0 : Int) ≤ (3 : Int) ∧ (3 : Int) < (6 : Int)) ∧
                               ((10 : Nat) ≤ (140737488355328 : Nat) ∧ (9 : Nat) = (9 : Nat)) ∧
                                I64 (4 : Int) ∧
                                 ((0 : Int) ≤ (4 : Int) ∧ (4 : Int) < (6 : Int)) ∧
                                  ((11 : Nat) ≤ (140737488355328 : Nat) ∧ (10 : Nat) = (10 : Nat)) ∧
                                   I64 (5 : Int) ∧
                                    ((0 : Int) ≤ (5 : Int) ∧ (5 : Int) < (6 : Int)) ∧
                                     ((12 : Nat) ≤ (140737488355328 : Nat) ∧ (11 : Nat) = (11 : Nat)) ∧
                                      I64 (6 : Int) ∧
                                       impP (!(decide (ty < (1536 : Int)) || decide ((65535 : Int) < ty)))
                                         (I64 ((↑(List.length b) : Int) + (14 : Int))) ∧
                                        brP
                                         (decide (ty < (1536 : Int)) || decide ((65535 : Int) < ty) ||
                                          decide ((1514 : Int) < (↑(List.length b) : Int) + (14 : Int)))
                                         (K (AVal.tup [AVal.nilS, AVal.int IntKind.i64 (1 : Int)]) [])
                                         (((256 : Int) ≠ (0 : Int) ∧ I64 (Int.tdiv ty (256 : Int))) ∧
                                          (256 : Int) ≠ (0 : Int) ∧
                                           ((14 : Nat) ≤ (140737488355328 : Nat) ∧ (12 : Nat) = (12 : Nat)) ∧
                                            (((14 : Nat) + List.length b) * (1 : Nat) ≤ (140737488355328 : Nat) ∧
                                              (14 : Nat) = (14 : Nat)) ∧
                                             K
                                              (AVal.tup
                                               [AVal.sl (0 : Nat) (0 : Nat) ((14 : Nat) + List.length b) (1 : Nat),
                                                AVal.int IntKind.i64 (0 : Int)])
                                              [ABlk.bytes
                                                (List.take (1 : Nat) (List.drop (0 : Nat) [a0]) ++
                                                             List.take (1 : Nat) (List.drop (0 : Nat) [a1]) ++
                                                            List.take (1 : Nat) (List.drop (0 : Nat) [a2]) ++
                                                           List.take (1 : Nat) (List.drop (0 : Nat) [a3]) ++
                                                          List.take (1 : Nat) (List.drop (0 : Nat) [a4]) ++
                                                         List.take (1 : Nat) (List.drop (0 : Nat) [a5]) ++
                                                        List.take (1 : Nat) (List.drop (0 : Nat) [b0]) ++
                                                       List.take (1 : Nat) (List.drop (0 : Nat) [b1]) ++
                                                      List.take (1 : Nat) (List.drop (0 : Nat) [b2]) ++
                                                     List.take (1 : Nat) (List.drop (0 : Nat) [b3]) ++
                                                    List.take (1 : Nat) (List.drop (0 : Nat) [b4]) ++
                                                   List.take (1 : Nat) (List.drop (0 : Nat) [b5]) ++
                                                  List.take (2 : Nat)
                                                   (List.drop (0 : Nat)
                                                    [b8 (Int.tdiv ty (256 : Int)), b8 (Int.tmod ty (256 : Int))]) ++
                                                 b)])) := by kernel_rfl
theorem outriderref02_Encode_p : ∀ args H K, etEncRowB args H K → fnP Try.prog Tet4 ann_outriderref02_Encode Try.f27 args H K := by
  intro args H K h
  unfold etEncRowB at h
  split at h
  · rename_i a0 a1 a2 a3 a4 a5 b0 b1 b2 b3 b4 b5 ty b
    rw [ref02_Encode_eq]
    obtain ⟨hb, hK⟩ := h
    have i1 : I64 1 ∧ I64 2 ∧ I64 3 ∧ I64 4 ∧ I64 5 ∧ I64 6 := by unfold I64; omega
    simp only [i1, Nat.reduceLeDiff, Int.reduceLE, Int.reduceLT, true_and, and_self]
    rcases etEnc_cases hK with ⟨h1, h2⟩ | ⟨h1, h2⟩ <;> rw [Fm.ok_iff] at h1 <;> simp only at h1
    · have iT : I64 (Int.tdiv ty 256) := by rw [Int.tdiv_eq_ediv_of_nonneg (by omega)]; unfold I64; omega
      have iT' : I64 ((b.length : Int) + 14) := by unfold I64; omega
      rw [tdT (by omega)]
      repeat' first
        | (refine And.intro (by first | first | omega | with_reducible exact i64_x256 _ | with_reducible exact i64_w16 _ _ | with_reducible exact i64_sum _ | (repeat' first | with_reducible exact i64_x256 _ | with_reducible exact i64_w16 _ _ | with_reducible exact i64_sum _ | with_reducible apply And.intro) <;> first | omega | (simp only [I64]; omega) | (simp; omega) | (simp; done) | (simp [I64]; omega) | (with_reducible refine impP_i (fun hg => ?_) <;> (try simp only [Bool.and_eq_true, Bool.or_eq_true, Bool.and_eq_false_iff, Bool.or_eq_false_iff, decide_eq_true_eq, decide_eq_false_iff_not, Bool.not_eq_true', Bool.not_eq_false', Bool.not_true, Bool.not_false, Bool.true_and, Bool.and_true, Bool.false_or, Bool.or_false, beq_iff_eq, beq_eq_false_iff_ne, ne_eq] at hg) <;> (first | omega | with_reducible exact i64_x256 _ | with_reducible exact i64_w16 _ _ | with_reducible exact i64_sum _ | (repeat' first | with_reducible exact i64_x256 _ | with_reducible exact i64_w16 _ _ | with_reducible exact i64_sum _ | with_reducible apply And.intro) <;> first | omega | (simp only [I64]; omega) | (simp; omega) | (simp; done) | (simp [I64]; omega)))) ?_)
        | (refine brP_d (fun h => ?_) (fun h => ?_))
        | (refine optP_i (fun x hx => ?_) (fun hx => ?_) <;> (try have hxl := pseudo_len hx))
        | (refine brP_nd (fun h => ?_) (fun h => ?_))
        | (refine brP_i (fun h => ?_) (fun h => ?_) <;> (try simp only [Bool.and_eq_true, Bool.or_eq_true, Bool.and_eq_false_iff, Bool.or_eq_false_iff, decide_eq_true_eq, decide_eq_false_iff_not, Bool.not_eq_true', Bool.not_eq_false', Bool.not_true, Bool.not_false, Bool.true_and, Bool.and_true, Bool.false_or, Bool.or_false, beq_iff_eq, beq_eq_false_iff_ne, ne_eq] at h))
      all_goals first
        | (exfalso; omega)
        | (refine endK_eq h2 ?_ ?_ <;> simp [Fm.bytes, Mc.bytes] <;> omega)
    · repeat' first
        | (refine And.intro (by first | first | omega | with_reducible exact i64_x256 _ | with_reducible exact i64_w16 _ _ | with_reducible exact i64_sum _ | (repeat' first | with_reducible exact i64_x256 _ | with_reducible exact i64_w16 _ _ | with_reducible exact i64_sum _ | with_reducible apply And.intro) <;> first | omega | (simp only [I64]; omega) | (simp; omega) | (simp; done) | (simp [I64]; omega) | (with_reducible refine impP_i (fun hg => ?_) <;> (try simp only [Bool.and_eq_true, Bool.or_eq_true, Bool.and_eq_false_iff, Bool.or_eq_false_iff, decide_eq_true_eq, decide_eq_false_iff_not, Bool.not_eq_true', Bool.not_eq_false', Bool.not_true, Bool.not_false, Bool.true_and, Bool.and_true, Bool.false_or, Bool.or_false, beq_iff_eq, beq_eq_false_iff_ne, ne_eq] at hg) <;> (first | omega | with_reducible exact i64_x256 _ | with_reducible exact i64_w16 _ _ | with_reducible exact i64_sum _ | (repeat' first | with_reducible exact i64_x256 _ | with_reducible exact i64_w16 _ _ | with_reducible exact i64_sum _ | with_reducible apply And.intro) <;> first | omega | (simp only [I64]; omega) | (simp; omega) | (simp; done) | (simp [I64]; omega)))) ?_)
        | (refine brP_d (fun h => ?_) (fun h => ?_))
        | (refine optP_i (fun x hx => ?_) (fun hx => ?_) <;> (try have hxl := pseudo_len hx))
        | (refine brP_nd (fun h => ?_) (fun h => ?_))
        | (refine brP_i (fun h => ?_) (fun h => ?_) <;> (try simp only [Bool.and_eq_true, Bool.or_eq_true, Bool.and_eq_false_iff, Bool.or_eq_false_iff, decide_eq_true_eq, decide_eq_false_iff_not, Bool.not_eq_true', Bool.not_eq_false', Bool.not_true, Bool.not_false, Bool.true_and, Bool.and_true, Bool.false_or, Bool.or_false, beq_iff_eq, beq_eq_false_iff_ne, ne_eq] at h))
      all_goals first
        | exact h2
        | (exfalso; omega)
  · exact h.elim
def Tet5 : Specs := ext Tet4 27 (etEncRowB)
theorem Tet5_sound : TSound Try.prog Tet5 := ext_sound Tet4_sound (row_of Tet4_sound mixed Try.func27 (by decide +kernel) outriderref02_Encode_p)
abbrev Tet : Specs := Tet5
theorem Tet_sound : TSound Try.prog Tet := Tet5_sound
end Go.Proofs.Ytnbbaemijogeoaa.Ae

