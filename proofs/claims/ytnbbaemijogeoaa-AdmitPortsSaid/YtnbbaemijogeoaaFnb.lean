/- Chapter 4's functions as a table. -/
import Derived.Test.YtnbbaemijogeoaaFet
import Derived.Test.YtnbbaemijogeoaaMnb
set_option linter.unusedSimpArgs false
set_option linter.unusedVariables false
set_option maxRecDepth 8000
namespace Go.Proofs.Ytnbbaemijogeoaa.Ae
open Go

def outK (o : Option (List UInt8)) (K : AVal → Hp → Prop) : Prop := optP o (fun l => K (.tup [.sl 0 0 l.length 1, .int .i64 0]) [.bytes l]) (K (.tup [.nilS, .int .i64 1]) [])
def nearRow : Srow := fun args H K => match args, H with
  | [.str a], [] => K (.str (nbNear a)) []
  | _, _ => False
def everyRow : Srow := fun args H K => match args, H with
  | [], [] => K (.str nbEvery) []
  | _, _ => False
def arpRow : Srow := fun args H K => match args, H with
  | [.byte k, .agg [.byte t0, .byte t1, .byte t2, .byte t3, .byte t4, .byte t5], .agg [.byte m0, .byte m1, .byte m2, .byte m3, .byte m4, .byte m5], .str a, .agg [.byte o0, .byte o1, .byte o2, .byte o3, .byte o4, .byte o5], .str b], [] => (a.length = 4 ∧ b.length = 4) ∧
    outK (nbArp k ⟨t0, t1, t2, t3, t4, t5⟩ ⟨m0, m1, m2, m3, m4, m5⟩ a ⟨o0, o1, o2, o3, o4, o5⟩ b) K
  | _, _ => False
def ndRow : Srow := fun args H K => match args, H with
  | [.agg [.byte k, .byte fl, .byte op, .str tg], .agg [.byte m0, .byte m1, .byte m2, .byte m3, .byte m4, .byte m5], .agg [.byte t0, .byte t1, .byte t2, .byte t3, .byte t4, .byte t5], .agg [.str f, .str t, .int .i64 p, .int .i64 q, .str b]], [] => tg.length = 16 ∧
    outK (nbNd k fl op tg ⟨m0, m1, m2, m3, m4, m5⟩ ⟨t0, t1, t2, t3, t4, t5⟩ f t) K
  | _, _ => False
def ndGRow : Srow := fun args H K => match args, H with
  | [.agg [.byte m0, .byte m1, .byte m2, .byte m3, .byte m4, .byte m5], .agg [.byte t0, .byte t1, .byte t2, .byte t3, .byte t4, .byte t5], .agg [.str f, .str t, .int .i64 p, .int .i64 q, .str b], .str body], [] => body.length = 32 ∧
    outK (ndG body ⟨m0, m1, m2, m3, m4, m5⟩ ⟨t0, t1, t2, t3, t4, t5⟩ f t) K
  | _, _ => False
def askRow : Srow := fun args H K => match args, H with
  | [.agg [.byte m0, .byte m1, .byte m2, .byte m3, .byte m4, .byte m5], .str a, .str b], [] => outK (nbAsk ⟨m0, m1, m2, m3, m4, m5⟩ a b) K
  | _, _ => False
def tellRow : Srow := fun args H K => match args, H with
  | [.agg [.byte m0, .byte m1, .byte m2, .byte m3, .byte m4, .byte m5], .str a, .agg [.byte t0, .byte t1, .byte t2, .byte t3, .byte t4, .byte t5], .str b], [] => outK (nbTell ⟨m0, m1, m2, m3, m4, m5⟩ a ⟨t0, t1, t2, t3, t4, t5⟩ b) K
  | _, _ => False
def claimRow : Srow := fun args H K => match args, H with
  | [.agg [.byte m0, .byte m1, .byte m2, .byte m3, .byte m4, .byte m5], .str a], [] => outK (nbClaim ⟨m0, m1, m2, m3, m4, m5⟩ a) K
  | _, _ => False
def ntV (n : Nt) : List AVal := [.int .i64 n.kind, .byte n.mac.a0, .byte n.mac.a1, .byte n.mac.a2, .byte n.mac.a3, .byte n.mac.a4, .byte n.mac.a5, .str n.addr, .str n.target, .bool n.asked]
def ntRow (g : List UInt8 → Nt × Int) : Srow := fun args H K => match args, H with
  | [.str s], [] => s.length ≤ 140737488351232 ∧ K (.tup [.agg (ntV (g s).1), .int .i64 (g s).2]) []
  | _, _ => False
def readRow : Srow := fun args H K => match args, H with
  | [.agg [.byte a0, .byte a1, .byte a2, .byte a3, .byte a4, .byte a5, .byte b0, .byte b1, .byte b2, .byte b3, .byte b4, .byte b5, .int .i64 ty, .str b]], [] => b.length ≤ 140737488351232 ∧
    K (.tup [.agg (ntV (nbRead ⟨⟨a0, a1, a2, a3, a4, a5⟩, ⟨b0, b1, b2, b3, b4, b5⟩, ty, b⟩).1), .int .i64 (nbRead ⟨⟨a0, a1, a2, a3, a4, a5⟩, ⟨b0, b1, b2, b3, b4, b5⟩, ty, b⟩).2]) []
  | _, _ => False
theorem optP_n {α : Type} (k : α → Prop) (d : Prop) : optP none k d = d := rfl
theorem optP_s {α : Type} (x : α) (k : α → Prop) (d : Prop) : optP (some x) k d = k x := rfl
def ann_neigh_start : Nat → List Nat × Nat × List (List Nat)
  | _ => ([], 0, [])
def Tnb1 : Specs := ext Tet 88 (fnP Try.prog Tet ann_neigh_start Try.f88)
theorem Tnb1_sound : TSound Try.prog Tnb1 := ext_sound Tet_sound (fn_row Tet_sound mixed Try.func88 (by decide +kernel))
abbrev Tnb2 : Specs := Tnb1
theorem Tnb2_sound : TSound Try.prog Tnb2 := Tnb1_sound
def ann_neigh_card : Nat → List Nat × Nat × List (List Nat)
  | _ => ([], 0, [])
def Tnb3 : Specs := ext Tnb2 89 (fnP Try.prog Tnb2 ann_neigh_card Try.f89)
theorem Tnb3_sound : TSound Try.prog Tnb3 := ext_sound Tnb2_sound (fn_row Tnb2_sound mixed Try.func89 (by decide +kernel))
abbrev Tnb4 : Specs := Tnb3
theorem Tnb4_sound : TSound Try.prog Tnb4 := Tnb3_sound
abbrev Tnb5 : Specs := Tnb4
theorem Tnb5_sound : TSound Try.prog Tnb5 := Tnb4_sound
abbrev Tnb6 : Specs := Tnb5
theorem Tnb6_sound : TSound Try.prog Tnb6 := Tnb5_sound
abbrev Tnb7 : Specs := Tnb6
theorem Tnb7_sound : TSound Try.prog Tnb7 := Tnb6_sound
def ann_neigh_readArp : Nat → List Nat × Nat × List (List Nat)
  | 1 => ([], 22, [[], [0], [0, 1], [0, 1, 2], [0, 1, 2, 3], [0, 1, 2, 3, 4], [0, 1, 2, 3, 4, 5], [0, 1, 2, 3, 4, 5, 6], [0, 1, 2, 3, 4, 5, 6, 7], [0, 1, 2, 3], [0, 1, 2, 3, 4, 5, 6, 7, 8, 9], [0, 1, 2, 3, 4, 5, 6, 7, 8, 9, 10], [0, 1, 2, 3, 4, 5, 6, 7, 8, 9, 10, 11], [0, 1, 2, 3, 4, 5, 6, 7, 8, 9, 10, 11, 12], [0, 1, 2, 3, 4, 5, 6, 7, 8, 9, 10, 11, 12, 13], [0, 1, 2, 3, 4, 5, 6, 7, 8, 9, 10, 11, 12, 13, 14], [0, 1, 2, 3, 4, 5, 6, 7, 8, 9, 10, 11, 12, 13, 14, 15], [0, 1, 2, 3, 4, 5, 6, 7, 8, 9, 10, 11, 12, 13, 14, 15, 16], [0, 1, 2, 3, 4, 5, 6, 7, 8, 9, 10, 11, 12, 13, 14, 15, 16, 17], [0, 1, 2, 3, 4, 5, 6, 7, 8, 9, 10, 11, 12, 13, 14, 15, 16, 17, 18], [0, 1, 2, 3, 4, 5, 6, 7, 8, 9, 10, 11, 12, 13, 14, 15, 16, 17, 18, 19], [0, 1, 2, 3, 4, 5, 6, 7, 8, 9, 10, 11, 12, 13, 14, 15, 16, 17, 18, 19, 20]])
  | 3 => ([], 14, [[], [0], [0, 1], [], [3], [3, 4], [], [6], [], [8], [], [10], [10, 11], [0, 1, 2, 3, 4, 5, 6, 7, 8, 9, 10, 11, 12]])
  | _ => ([], 0, [])
set_option maxRecDepth 100000 in
theorem neigh_readArp_eq (s : List UInt8) (K : AVal → Hp → Prop) : fnP Try.prog Tnb7 ann_neigh_readArp Try.f80 [.str s] [] K = (
  brP (decide ((↑(List.length s) : Int) < (28 : Int)))
    (K
     (AVal.tup
      [AVal.agg
        [AVal.int IntKind.i64 (0 : Int), AVal.byte (0 : UInt8), AVal.byte (0 : UInt8), AVal.byte (0 : UInt8),
         AVal.byte (0 : UInt8), AVal.byte (0 : UInt8), AVal.byte (0 : UInt8), AVal.str [], AVal.str [], AVal.bool false],
       AVal.int IntKind.i64 (40 : Int)])
     [])
    (((0 : Int) ≤ (7 : Int) ∧ (7 : Int) ≤ (↑(List.length s) : Int)) ∧
     List.length (List.take (7 : Nat) s) ≤ (140737488355328 : Nat) ∧
      ((0 : Nat) < (7 : Nat) ∧ (7 : Nat) ≤ List.length (List.take (7 : Nat) s)) ∧
       (7 : Nat) ≤ List.length (List.take (7 : Nat) s) ∧
        brP
         (!(decide (List.getD (List.take (7 : Nat) s) (0 : Nat) (0 : UInt8) = (0 : UInt8)) &&
           (decide (List.getD (List.take (7 : Nat) s) (1 : Nat) (0 : UInt8) = (1 : UInt8)) &&
            (decide (List.getD (List.take (7 : Nat) s) (2 : Nat) (0 : UInt8) = (8 : UInt8)) &&
             (decide (List.getD (List.take (7 : Nat) s) (3 : Nat) (0 : UInt8) = (0 : UInt8)) &&
              (decide (List.getD (List.take (7 : Nat) s) (4 : Nat) (0 : UInt8) = (6 : UInt8)) &&
               (decide (List.getD (List.take (7 : Nat) s) (5 : Nat) (0 : UInt8) = (4 : UInt8)) &&
                decide (List.getD (List.take (7 : Nat) s) (6 : Nat) (0 : UInt8) = (0 : UInt8)))))))))
         (K
          (AVal.tup
           [AVal.agg
             [AVal.int IntKind.i64 (0 : Int), AVal.byte (0 : UInt8), AVal.byte (0 : UInt8), AVal.byte (0 : UInt8),
              AVal.byte (0 : UInt8), AVal.byte (0 : UInt8), AVal.byte (0 : UInt8), AVal.str [], AVal.str [],
              AVal.bool false],
            AVal.int IntKind.i64 (40 : Int)])
          [])
         (((0 : Int) ≤ (7 : Int) ∧ (7 : Int) < (↑(List.length s) : Int)) ∧
          brP (!decide (List.getD s (7 : Nat) (0 : UInt8) = (1 : UInt8)))
           (((0 : Int) ≤ (7 : Int) ∧ (7 : Int) < (↑(List.length s) : Int)) ∧
            brP (!decide (List.getD s (7 : Nat) (0 : UInt8) = (2 : UInt8)))
             (K
              (AVal.tup
               [AVal.agg
                 [AVal.int IntKind.i64 (0 : Int), AVal.byte (0 : UInt8), AVal.byte (0 : UInt8), AVal.byte (0 : UInt8),
                  AVal.byte (0 : UInt8), AVal.byte (0 : UInt8), AVal.byte (0 : UInt8), AVal.str [], AVal.str [],
                  AVal.bool false],
                AVal.int IntKind.i64 (40 : Int)])
              [])
             (((0 : Int) ≤ (7 : Int) ∧ (7 : Int) < (↑(List.length s) : Int)) ∧
              ((0 : Int) ≤ (8 : Int) ∧ (8 : Int) ≤ (14 : Int) ∧ (14 : Int) ≤ (↑(List.length s) : Int)) ∧
               (6 : Nat) ≤ List.length (List.drop (8 : Nat) (List.take (14 : Nat) s)) ∧
                ((0 : Int) ≤ (14 : Int) ∧ (14 : Int) ≤ (18 : Int) ∧ (18 : Int) ≤ (↑(List.length s) : Int)) ∧
                 ((0 : Int) ≤ (24 : Int) ∧ (24 : Int) ≤ (28 : Int) ∧ (28 : Int) ≤ (↑(List.length s) : Int)) ∧
                  ((0 : Int) ≤ (7 : Int) ∧ (7 : Int) < (↑(List.length s) : Int)) ∧
                   K
                    (AVal.tup
                     [AVal.agg
                       [AVal.int IntKind.i64 (↑(UInt8.toNat (List.getD s (7 : Nat) (0 : UInt8))) : Int),
                        AVal.byte (List.getD (List.drop (8 : Nat) (List.take (14 : Nat) s)) (0 : Nat) (0 : UInt8)),
                        AVal.byte (List.getD (List.drop (8 : Nat) (List.take (14 : Nat) s)) (1 : Nat) (0 : UInt8)),
                        AVal.byte (List.getD (List.drop (8 : Nat) (List.take (14 : Nat) s)) (2 : Nat) (0 : UInt8)),
                        AVal.byte (List.getD (List.drop (8 : Nat) (List.take (14 : Nat) s)) (3 : Nat) (0 : UInt8)),
                        AVal.byte (List.getD (List.drop (8 : Nat) (List.take (14 : Nat) s)) (4 : Nat) (0 : UInt8)),
                        AVal.byte (List.getD (List.drop (8 : Nat) (List.take (14 : Nat) s)) (5 : Nat) (0 : UInt8)),
                        AVal.str (List.drop (14 : Nat) (List.take (18 : Nat) s)),
                        AVal.str (List.drop (24 : Nat) (List.take (28 : Nat) s)),
                        AVal.bool (decide (List.getD s (7 : Nat) (0 : UInt8) = (2 : UInt8)))],
                      AVal.int IntKind.i64 (0 : Int)])
                    []))
           (((0 : Int) ≤ (7 : Int) ∧ (7 : Int) < (↑(List.length s) : Int)) ∧
            ((0 : Int) ≤ (8 : Int) ∧ (8 : Int) ≤ (14 : Int) ∧ (14 : Int) ≤ (↑(List.length s) : Int)) ∧
             (6 : Nat) ≤ List.length (List.drop (8 : Nat) (List.take (14 : Nat) s)) ∧
              ((0 : Int) ≤ (14 : Int) ∧ (14 : Int) ≤ (18 : Int) ∧ (18 : Int) ≤ (↑(List.length s) : Int)) ∧
               ((0 : Int) ≤ (24 : Int) ∧ (24 : Int) ≤ (28 : Int) ∧ (28 : Int) ≤ (↑(List.length s) : Int)) ∧
                ((0 : Int) ≤ (7 : Int) ∧ (7 : Int) < (↑(List.length s) : Int)) ∧
                 K
                  (AVal.tup
                   [AVal.agg
                     [AVal.int IntKind.i64 (↑(UInt8.toNat (List.getD s (7 : Nat) (0 : UInt8))) : Int),
                      AVal.byte (List.getD (List.drop (8 : Nat) (List.take (14 : Nat) s)) (0 : Nat) (0 : UInt8)),
                      AVal.byte (List.getD (List.drop (8 : Nat) (List.take (14 : Nat) s)) (1 : Nat) (0 : UInt8)),
                      AVal.byte (List.getD (List.drop (8 : Nat) (List.take (14 : Nat) s)) (2 : Nat) (0 : UInt8)),
                      AVal.byte (List.getD (List.drop (8 : Nat) (List.take (14 : Nat) s)) (3 : Nat) (0 : UInt8)),
                      AVal.byte (List.getD (List.drop (8 : Nat) (List.take (14 : Nat) s)) (4 : Nat) (0 : UInt8)),
                      AVal.byte (List.getD (List.drop (8 : Nat) (List.take (14 : Nat) s)) (5 : Nat) (0 : UInt8)),
                      AVal.str (List.drop (14 : Nat) (List.take (18 : Nat) s)),
                      AVal.str (List.drop (24 : Nat) (List.take (28 : Nat) s)),
                      AVal.bool (decide (List.getD s (7 : Nat) (0 : UInt8) = (2 : UInt8)))],
                    AVal.int IntKind.i64 (0 : Int)])
                  [])))) := by kernel_rfl
theorem neigh_readArp_p : ∀ args H K, ntRow nbReadArp args H K → fnP Try.prog Tnb7 ann_neigh_readArp Try.f80 args H K := by
  intro args H K h
  unfold ntRow at h
  split at h
  · rename_i s
    obtain ⟨hl, hK⟩ := h
    rw [neigh_readArp_eq]
    simp only [or_w16, div2, div3, add_w16, and255, b8_mod, List.set_cons_zero, List.set_cons_succ, andNot_4000, getD_drop, getD_take, b8_byte, b8_toNatN, UInt8.toNat_ofNat', UInt8.toNat_and, nat_mask4, nat_mask6, nat_240, u8_eq_iff, UInt8.reduceToNat, Int.reduceLT, List.take_succ_cons, List.take_zero, List.drop_zero, List.flatten_cons, List.flatten_nil, List.append_nil, List.nil_append, List.take_length, Nat.mul_one, Nat.zero_add, Nat.reduceAdd, Nat.reduceLT, List.length_drop, List.length_take]
    rcases nbReadArp_cases s with ⟨k1, e⟩ | ⟨k1, k2, k3, e⟩ <;> rw [e] at hK <;> simp only [ntV, noNt, noMc, mcAt, Nat.reduceAdd] at hK
    all_goals unfold nbStart at *
    all_goals (repeat' first | (refine And.intro (by first | first | omega | with_reducible exact i64_x256 _ | with_reducible exact i64_w16 _ _ | with_reducible exact i64_sum _ | (repeat' first | with_reducible exact i64_x256 _ | with_reducible exact i64_w16 _ _ | with_reducible exact i64_sum _ | with_reducible apply And.intro) <;> first | omega | (simp only [I64]; omega) | (simp; omega) | (simp; done) | (simp [I64]; omega) | (with_reducible refine impP_i (fun hg => ?_) <;> (try simp only [Bool.and_eq_true, Bool.or_eq_true, Bool.and_eq_false_iff, Bool.or_eq_false_iff, decide_eq_true_eq, decide_eq_false_iff_not, Bool.not_eq_true', Bool.not_eq_false', Bool.not_true, Bool.not_false, Bool.true_and, Bool.and_true, Bool.false_or, Bool.or_false, beq_iff_eq, beq_eq_false_iff_ne, ne_eq] at hg) <;> (first | omega | with_reducible exact i64_x256 _ | with_reducible exact i64_w16 _ _ | with_reducible exact i64_sum _ | (repeat' first | with_reducible exact i64_x256 _ | with_reducible exact i64_w16 _ _ | with_reducible exact i64_sum _ | with_reducible apply And.intro) <;> first | omega | (simp only [I64]; omega) | (simp; omega) | (simp; done) | (simp [I64]; omega)))) ?_) | (refine brP_d (fun h => ?_) (fun h => ?_)) | (refine optP_i (fun x hx => ?_) (fun hx => ?_) <;> (try have hxl := pseudo_len hx)) | (refine brP_nd (fun h => ?_) (fun h => ?_)) | (refine brP_i (fun h => ?_) (fun h => ?_) <;> (try simp only [Bool.and_eq_true, Bool.or_eq_true, Bool.and_eq_false_iff, Bool.or_eq_false_iff, decide_eq_true_eq, decide_eq_false_iff_not, Bool.not_eq_true', Bool.not_eq_false', Bool.not_true, Bool.not_false, Bool.true_and, Bool.and_true, Bool.false_or, Bool.or_false, beq_iff_eq, beq_eq_false_iff_ne, ne_eq] at h)))
    all_goals first
      | exact hK
      | (exfalso; omega)
      | trace_state
  · exact h.elim
def Tnb8 : Specs := ext Tnb7 80 (ntRow nbReadArp)
theorem Tnb8_sound : TSound Try.prog Tnb8 := ext_sound Tnb7_sound (row_of Tnb7_sound mixed Try.func80 (by decide +kernel) neigh_readArp_p)
def ann_neigh_readNd : Nat → List Nat × Nat × List (List Nat)
  | 5 => ([], 17, [[], [0], [0, 1], [0, 1, 2], [0, 1, 2, 3], [0, 1, 2, 3, 4], [0, 1, 2, 3, 4, 5], [0, 1, 2, 3, 4, 5, 6], [], [8], [8, 9], [0, 1, 2, 3, 8, 9, 10], [0, 1, 2, 3, 8, 9, 10, 11], [0, 1, 2, 3, 8, 9, 10, 11, 12], [0, 1, 2, 3, 8, 9, 10, 11, 12, 13], [0, 1, 2, 3, 8, 9, 10, 11, 12, 13, 14], [0, 1, 2, 3, 4, 5, 6, 7, 8, 9, 10, 11]])
  | 11 => ([], 8, [[], [0], [0, 1], [], [3], [], [5], [0, 1, 2, 3, 4, 5, 6]])
  | 12 => ([], 12, [[], [0], [0, 1], [], [3], [], [5], [], [7], [7, 8], [7, 8, 9], [0, 1, 2, 3, 4, 5, 6, 7, 8, 9, 10]])
  | 2000005 => ([], 18, [[], [0], [0, 1], [0, 1, 2], [0, 1, 2, 3], [0, 1, 2, 3, 4], [0, 1, 2, 3, 4, 5], [0, 1, 2, 3, 4, 5, 6], [], [8], [8, 9], [0, 1, 2, 3, 8, 9, 10], [0, 1, 2, 3, 8, 9, 10, 11], [0, 1, 2, 3, 8, 9, 10, 11, 12], [0, 1, 2, 3, 8, 9, 10, 11, 12, 13], [0, 1, 2, 3, 8, 9, 10, 11, 12, 13, 14], [0, 1, 2, 3, 4, 5, 6, 7, 8, 9, 10, 11]])
  | 2000006 => ([], 17, [[], [0], [0, 1], [0, 1, 2], [0, 1, 2, 3], [0, 1, 2, 3, 4], [0, 1, 2, 3, 4, 5], [0, 1, 2, 3, 4, 5, 6], [0, 1, 2, 3, 4, 5, 6, 7], [0, 1, 2, 3, 4, 5, 6, 7, 8], [0, 1, 2, 3, 4, 5, 6, 7, 8, 9], [0, 1, 2, 3, 4, 5, 6, 7, 8, 9, 10], [0, 1, 2, 3, 4, 5, 6, 7, 8, 9, 10, 11], [0, 1, 2, 3, 4, 5, 6, 7, 8, 9, 10, 11, 12], [0, 1, 2, 3, 4, 5, 6, 7, 8, 9, 10, 11, 12, 13], [0, 1, 2, 3, 4, 5, 6, 7, 8, 9, 10, 11, 12, 13, 14]])
  | _ => ([], 0, [])
set_option maxRecDepth 100000 in
theorem neigh_readNd_eq (s : List UInt8) (K : AVal → Hp → Prop) : fnP Try.prog Tnb8 ann_neigh_readNd Try.f81 [.str s] [] K = (
  List.length s ≤ (140737488355328 : Nat) ∧
    brP (!decide ((ipDecode (List.take (List.length s) (List.drop (0 : Nat) s))).snd = (0 : Int)))
     (K
      (AVal.tup
       [AVal.agg
         [AVal.int IntKind.i64 (0 : Int), AVal.byte (0 : UInt8), AVal.byte (0 : UInt8), AVal.byte (0 : UInt8),
          AVal.byte (0 : UInt8), AVal.byte (0 : UInt8), AVal.byte (0 : UInt8), AVal.str [], AVal.str [], AVal.bool false],
        AVal.int IntKind.i64 (40 : Int)])
      [])
     (brP
      (!decide
        ((↑(List.length (ipDecode (List.take (List.length s) (List.drop (0 : Nat) s))).fst.src) : Int) = (16 : Int)))
      (K
       (AVal.tup
        [AVal.agg
          [AVal.int IntKind.i64 (0 : Int), AVal.byte (0 : UInt8), AVal.byte (0 : UInt8), AVal.byte (0 : UInt8),
           AVal.byte (0 : UInt8), AVal.byte (0 : UInt8), AVal.byte (0 : UInt8), AVal.str [], AVal.str [],
           AVal.bool false],
         AVal.int IntKind.i64 (40 : Int)])
       [])
      (brP (!decide ((ipDecode (List.take (List.length s) (List.drop (0 : Nat) s))).fst.proto = (58 : Int)))
       (K
        (AVal.tup
         [AVal.agg
           [AVal.int IntKind.i64 (0 : Int), AVal.byte (0 : UInt8), AVal.byte (0 : UInt8), AVal.byte (0 : UInt8),
            AVal.byte (0 : UInt8), AVal.byte (0 : UInt8), AVal.byte (0 : UInt8), AVal.str [], AVal.str [],
            AVal.bool false],
          AVal.int IntKind.i64 (40 : Int)])
        [])
       (brP (!decide ((ipDecode (List.take (List.length s) (List.drop (0 : Nat) s))).fst.ttl = (255 : Int)))
        (K
         (AVal.tup
          [AVal.agg
            [AVal.int IntKind.i64 (0 : Int), AVal.byte (0 : UInt8), AVal.byte (0 : UInt8), AVal.byte (0 : UInt8),
             AVal.byte (0 : UInt8), AVal.byte (0 : UInt8), AVal.byte (0 : UInt8), AVal.str [], AVal.str [],
             AVal.bool false],
           AVal.int IntKind.i64 (40 : Int)])
         [])
        (brP
         (!decide
           ((↑(List.length (ipDecode (List.take (List.length s) (List.drop (0 : Nat) s))).fst.body) : Int) = (32 : Int)))
         (K
          (AVal.tup
           [AVal.agg
             [AVal.int IntKind.i64 (0 : Int), AVal.byte (0 : UInt8), AVal.byte (0 : UInt8), AVal.byte (0 : UInt8),
              AVal.byte (0 : UInt8), AVal.byte (0 : UInt8), AVal.byte (0 : UInt8), AVal.str [], AVal.str [],
              AVal.bool false],
            AVal.int IntKind.i64 (40 : Int)])
          [])
         (impP true
           ((0 : Int) ≤ (0 : Int) ∧
            (0 : Int) < (↑(List.length (ipDecode (List.take (List.length s) (List.drop (0 : Nat) s))).fst.body) : Int)) ∧
          impP
            (decide
             (List.getD (ipDecode (List.take (List.length s) (List.drop (0 : Nat) s))).fst.body (0 : Nat) (0 : UInt8) =
              (135 : UInt8)))
            ((0 : Int) ≤ (24 : Int) ∧
             (24 : Int) <
              (↑(List.length (ipDecode (List.take (List.length s) (List.drop (0 : Nat) s))).fst.body) : Int)) ∧
           impP true
             ((0 : Int) ≤ (0 : Int) ∧
              (0 : Int) <
               (↑(List.length (ipDecode (List.take (List.length s) (List.drop (0 : Nat) s))).fst.body) : Int)) ∧
            impP
              (decide
               (List.getD (ipDecode (List.take (List.length s) (List.drop (0 : Nat) s))).fst.body (0 : Nat) (0 : UInt8) =
                (136 : UInt8)))
              ((0 : Int) ≤ (24 : Int) ∧
               (24 : Int) <
                (↑(List.length (ipDecode (List.take (List.length s) (List.drop (0 : Nat) s))).fst.body) : Int)) ∧
             impP true
               ((0 : Int) ≤ (1 : Int) ∧
                (1 : Int) <
                 (↑(List.length (ipDecode (List.take (List.length s) (List.drop (0 : Nat) s))).fst.body) : Int)) ∧
              impP
                (!(!decide
                    (List.getD (ipDecode (List.take (List.length s) (List.drop (0 : Nat) s))).fst.body (1 : Nat)
                      (0 : UInt8) =
                     (0 : UInt8)) ||
                  !(decide
                      (List.getD (ipDecode (List.take (List.length s) (List.drop (0 : Nat) s))).fst.body (0 : Nat)
                        (0 : UInt8) =
                       (135 : UInt8)) &&
                     decide
                      (List.getD (ipDecode (List.take (List.length s) (List.drop (0 : Nat) s))).fst.body (24 : Nat)
                        (0 : UInt8) =
                       (1 : UInt8))) &&
                   !(decide
                      (List.getD (ipDecode (List.take (List.length s) (List.drop (0 : Nat) s))).fst.body (0 : Nat)
                        (0 : UInt8) =
                       (136 : UInt8)) &&
                     decide
                      (List.getD (ipDecode (List.take (List.length s) (List.drop (0 : Nat) s))).fst.body (24 : Nat)
                        (0 : UInt8) =
                       (2 : UInt8)))))
                ((0 : Int) ≤ (25 : Int) ∧
                 (25 : Int) <
                  (↑(List.length (ipDecode (List.take (List.length s) (List.drop (0 : Nat) s))).fst.body) : Int)) ∧
               brP
                (!decide
                    (List.getD (ipDecode (List.take (List.length s) (List.drop (0 : Nat) s))).fst.body (1 : Nat)
                      (0 : UInt8) =
                     (0 : UInt8)) ||
                  !(decide
                      (List.getD (ipDecode (List.take (List.length s) (List.drop (0 : Nat) s))).fst.body (0 : Nat)
                        (0 : UInt8) =
                       (135 : UInt8)) &&
                     decide
                      (List.getD (ipDecode (List.take (List.length s) (List.drop (0 : Nat) s))).fst.body (24 : Nat)
                        (0 : UInt8) =
                       (1 : UInt8))) &&
                   !(decide
                      (List.getD (ipDecode (List.take (List.length s) (List.drop (0 : Nat) s))).fst.body (0 : Nat)
                        (0 : UInt8) =
                       (136 : UInt8)) &&
                     decide
                      (List.getD (ipDecode (List.take (List.length s) (List.drop (0 : Nat) s))).fst.body (24 : Nat)
                        (0 : UInt8) =
                       (2 : UInt8))) ||
                 !decide
                   (List.getD (ipDecode (List.take (List.length s) (List.drop (0 : Nat) s))).fst.body (25 : Nat)
                     (0 : UInt8) =
                    (1 : UInt8)))
                (K
                 (AVal.tup
                  [AVal.agg
                    [AVal.int IntKind.i64 (0 : Int), AVal.byte (0 : UInt8), AVal.byte (0 : UInt8), AVal.byte (0 : UInt8),
                     AVal.byte (0 : UInt8), AVal.byte (0 : UInt8), AVal.byte (0 : UInt8), AVal.str [], AVal.str [],
                     AVal.bool false],
                   AVal.int IntKind.i64 (40 : Int)])
                 [])
                (optP
                 (pseudo (ipDecode (List.take (List.length s) (List.drop (0 : Nat) s))).fst.src
                  (ipDecode (List.take (List.length s) (List.drop (0 : Nat) s))).fst.dst (58 : Int)
                  (↑(List.length (ipDecode (List.take (List.length s) (List.drop (0 : Nat) s))).fst.body) : Int))
                 (fun x =>
                  List.length (ipDecode (List.take (List.length s) (List.drop (0 : Nat) s))).fst.body ≤
                    (140737488355328 : Nat) ∧
                   ((2 : Nat) ≤ (1000 : Nat) ∧
                     List.length
                       (List.flatten
                        [List.take (List.length x) (List.drop (0 : Nat) x),
                         List.take (List.length (ipDecode (List.take (List.length s) (List.drop (0 : Nat) s))).fst.body)
                          (List.drop (0 : Nat)
                           (ipDecode (List.take (List.length s) (List.drop (0 : Nat) s))).fst.body)]) ≤
                      (562949953421312 : Nat)) ∧
                    brP
                     (!sumB
                        (List.flatten
                         [List.take (List.length x) (List.drop (0 : Nat) x),
                          List.take (List.length (ipDecode (List.take (List.length s) (List.drop (0 : Nat) s))).fst.body)
                           (List.drop (0 : Nat)
                            (ipDecode (List.take (List.length s) (List.drop (0 : Nat) s))).fst.body)]) ==
                       (65535 : Int))
                     (K
                      (AVal.tup
                       [AVal.agg
                         [AVal.int IntKind.i64 (0 : Int), AVal.byte (0 : UInt8), AVal.byte (0 : UInt8),
                          AVal.byte (0 : UInt8), AVal.byte (0 : UInt8), AVal.byte (0 : UInt8), AVal.byte (0 : UInt8),
                          AVal.str [], AVal.str [], AVal.bool false],
                        AVal.int IntKind.i64 (41 : Int)])
                      [])
                     (brP
                      (decide
                        (List.getD (ipDecode (List.take (List.length s) (List.drop (0 : Nat) s))).fst.body (0 : Nat)
                          (0 : UInt8) =
                         (135 : UInt8)) &&
                       decide
                        (List.getD (ipDecode (List.take (List.length s) (List.drop (0 : Nat) s))).fst.body (24 : Nat)
                          (0 : UInt8) =
                         (1 : UInt8)))
                      (((0 : Int) ≤ (26 : Int) ∧
                        (26 : Int) ≤
                         (↑(List.length (ipDecode (List.take (List.length s) (List.drop (0 : Nat) s))).fst.body) : Int)) ∧
                       (6 : Nat) ≤
                         List.length
                          (List.drop (26 : Nat) (ipDecode (List.take (List.length s) (List.drop (0 : Nat) s))).fst.body) ∧
                        ((0 : Int) ≤ (8 : Int) ∧
                          (8 : Int) ≤ (24 : Int) ∧
                           (24 : Int) ≤
                            (↑(List.length (ipDecode (List.take (List.length s) (List.drop (0 : Nat) s))).fst.body) :
                             Int)) ∧
                         K
                          (AVal.tup
                           [AVal.agg
                             [AVal.int IntKind.i64 (1 : Int),
                              AVal.byte
                               (List.getD
                                (List.drop (26 : Nat)
                                 (ipDecode (List.take (List.length s) (List.drop (0 : Nat) s))).fst.body)
                                (0 : Nat) (0 : UInt8)),
                              AVal.byte
                               (List.getD
                                (List.drop (26 : Nat)
                                 (ipDecode (List.take (List.length s) (List.drop (0 : Nat) s))).fst.body)
                                (1 : Nat) (0 : UInt8)),
                              AVal.byte
                               (List.getD
                                (List.drop (26 : Nat)
                                 (ipDecode (List.take (List.length s) (List.drop (0 : Nat) s))).fst.body)
                                (2 : Nat) (0 : UInt8)),
                              AVal.byte
                               (List.getD
                                (List.drop (26 : Nat)
                                 (ipDecode (List.take (List.length s) (List.drop (0 : Nat) s))).fst.body)
                                (3 : Nat) (0 : UInt8)),
                              AVal.byte
                               (List.getD
                                (List.drop (26 : Nat)
                                 (ipDecode (List.take (List.length s) (List.drop (0 : Nat) s))).fst.body)
                                (4 : Nat) (0 : UInt8)),
                              AVal.byte
                               (List.getD
                                (List.drop (26 : Nat)
                                 (ipDecode (List.take (List.length s) (List.drop (0 : Nat) s))).fst.body)
                                (5 : Nat) (0 : UInt8)),
                              AVal.str (ipDecode (List.take (List.length s) (List.drop (0 : Nat) s))).fst.src,
                              AVal.str
                               (List.drop (8 : Nat)
                                (List.take (24 : Nat)
                                 (ipDecode (List.take (List.length s) (List.drop (0 : Nat) s))).fst.body)),
                              AVal.bool false],
                            AVal.int IntKind.i64 (0 : Int)])
                          [])
                      (((0 : Int) ≤ (26 : Int) ∧
                        (26 : Int) ≤
                         (↑(List.length (ipDecode (List.take (List.length s) (List.drop (0 : Nat) s))).fst.body) : Int)) ∧
                       (6 : Nat) ≤
                         List.length
                          (List.drop (26 : Nat) (ipDecode (List.take (List.length s) (List.drop (0 : Nat) s))).fst.body) ∧
                        ((0 : Int) ≤ (8 : Int) ∧
                          (8 : Int) ≤ (24 : Int) ∧
                           (24 : Int) ≤
                            (↑(List.length (ipDecode (List.take (List.length s) (List.drop (0 : Nat) s))).fst.body) :
                             Int)) ∧
                         ((0 : Int) ≤ (4 : Int) ∧
                           (4 : Int) <
                            (↑(List.length (ipDecode (List.take (List.length s) (List.drop (0 : Nat) s))).fst.body) :
                             Int)) ∧
                          K
                           (AVal.tup
                            [AVal.agg
                              [AVal.int IntKind.i64 (2 : Int),
                               AVal.byte
                                (List.getD
                                 (List.drop (26 : Nat)
                                  (ipDecode (List.take (List.length s) (List.drop (0 : Nat) s))).fst.body)
                                 (0 : Nat) (0 : UInt8)),
                               AVal.byte
                                (List.getD
                                 (List.drop (26 : Nat)
                                  (ipDecode (List.take (List.length s) (List.drop (0 : Nat) s))).fst.body)
                                 (1 : Nat) (0 : UInt8)),
                               AVal.byte
                                (List.getD
                                 (List.drop (26 : Nat)
                                  (ipDecode (List.take (List.length s) (List.drop (0 : Nat) s))).fst.body)
                                 (2 : Nat) (0 : UInt8)),
                               AVal.byte
                                (List.getD
                                 (List.drop (26 : Nat)
                                  (ipDecode (List.take (List.length s) (List.drop (0 : Nat) s))).fst.body)
                                 (3 : Nat) (0 : UInt8)),
                               AVal.byte
                                (List.getD
                                 (List.drop (26 : Nat)
                                  (ipDecode (List.take (List.length s) (List.drop (0 : Nat) s))).fst.body)
                                 (4 : Nat) (0 : UInt8)),
                               AVal.byte
                                (List.getD
                                 (List.drop (26 : Nat)
                                  (ipDecode (List.take (List.length s) (List.drop (0 : Nat) s))).fst.body)
                                 (5 : Nat) (0 : UInt8)),
                               AVal.str
                                (List.drop (8 : Nat)
                                 (List.take (24 : Nat)
                                  (ipDecode (List.take (List.length s) (List.drop (0 : Nat) s))).fst.body)),
                               AVal.str (ipDecode (List.take (List.length s) (List.drop (0 : Nat) s))).fst.dst,
                               AVal.bool
                                !decide
                                  (List.getD (ipDecode (List.take (List.length s) (List.drop (0 : Nat) s))).fst.body
                                     (4 : Nat) (0 : UInt8) &&&
                                    (64 : UInt8) =
                                   (0 : UInt8))],
                             AVal.int IntKind.i64 (0 : Int)])
                           [])))
                 (List.length (ipDecode (List.take (List.length s) (List.drop (0 : Nat) s))).fst.body ≤
                   (140737488355328 : Nat) ∧
                  ((2 : Nat) ≤ (1000 : Nat) ∧
                    List.length
                      (List.flatten
                       [[],
                        List.take (List.length (ipDecode (List.take (List.length s) (List.drop (0 : Nat) s))).fst.body)
                         (List.drop (0 : Nat) (ipDecode (List.take (List.length s) (List.drop (0 : Nat) s))).fst.body)]) ≤
                     (562949953421312 : Nat)) ∧
                   brP
                    (!sumB
                       (List.flatten
                        [[],
                         List.take (List.length (ipDecode (List.take (List.length s) (List.drop (0 : Nat) s))).fst.body)
                          (List.drop (0 : Nat)
                           (ipDecode (List.take (List.length s) (List.drop (0 : Nat) s))).fst.body)]) ==
                      (65535 : Int))
                    (K
                     (AVal.tup
                      [AVal.agg
                        [AVal.int IntKind.i64 (0 : Int), AVal.byte (0 : UInt8), AVal.byte (0 : UInt8),
                         AVal.byte (0 : UInt8), AVal.byte (0 : UInt8), AVal.byte (0 : UInt8), AVal.byte (0 : UInt8),
                         AVal.str [], AVal.str [], AVal.bool false],
                       AVal.int IntKind.i64 (41 : Int)])
                     [])
                    (brP
                     (decide
                       (List.getD (ipDecode (List.take (List.length s) (List.drop (0 : Nat) s))).fst.body (0 : Nat)
                         (0 : UInt8) =
                        (135 : UInt8)) &&
                      decide
                       (List.getD (ipDecode (List.take (List.length s) (List.drop (0 : Nat) s))).fst.body (24 : Nat)
                         (0 : UInt8) =
                        (1 : UInt8)))
                     (((0 : Int) ≤ (26 : Int) ∧
                       (26 : Int) ≤
                        (↑(List.length (ipDecode (List.take (List.length s) (List.drop (0 : Nat) s))).fst.body) : Int)) ∧
                      (6 : Nat) ≤
                        List.length
                         (List.drop (26 : Nat) (ipDecode (List.take (List.length s) (List.drop (0 : Nat) s))).fst.body) ∧
                       ((0 : Int) ≤ (8 : Int) ∧
                         (8 : Int) ≤ (24 : Int) ∧
                          (24 : Int) ≤
                           (↑(List.length (ipDecode (List.take (List.length s) (List.drop (0 : Nat) s))).fst.body) :
                            Int)) ∧
                        K
                         (AVal.tup
                          [AVal.agg
                            [AVal.int IntKind.i64 (1 : Int),
                             AVal.byte
                              (List.getD
                               (List.drop (26 : Nat)
                                (ipDecode (List.take (List.length s) (List.drop (0 : Nat) s))).fst.body)
                               (0 : Nat) (0 : UInt8)),
                             AVal.byte
                              (List.getD
                               (List.drop (26 : Nat)
                                (ipDecode (List.take (List.length s) (List.drop (0 : Nat) s))).fst.body)
                               (1 : Nat) (0 : UInt8)),
                             AVal.byte
                              (List.getD
                               (List.drop (26 : Nat)
                                (ipDecode (List.take (List.length s) (List.drop (0 : Nat) s))).fst.body)
                               (2 : Nat) (0 : UInt8)),
                             AVal.byte
                              (List.getD
                               (List.drop (26 : Nat)
                                (ipDecode (List.take (List.length s) (List.drop (0 : Nat) s))).fst.body)
                               (3 : Nat) (0 : UInt8)),
                             AVal.byte
                              (List.getD
                               (List.drop (26 : Nat)
                                (ipDecode (List.take (List.length s) (List.drop (0 : Nat) s))).fst.body)
                               (4 : Nat) (0 : UInt8)),
                             AVal.byte
                              (List.getD
                               (List.drop (26 : Nat)
                                (ipDecode (List.take (List.length s) (List.drop (0 : Nat) s))).fst.body)
                               (5 : Nat) (0 : UInt8)),
                             AVal.str (ipDecode (List.take (List.length s) (List.drop (0 : Nat) s))).fst.src,
                             AVal.str
                              (List.drop (8 : Nat)
                               (List.take (24 : Nat)
                                (ipDecode (List.take (List.length s) (List.drop (0 : Nat) s))).fst.body)),
                             AVal.bool false],
                           AVal.int IntKind.i64 (0 : Int)])
                         [])
                     (((0 : Int) ≤ (26 : Int) ∧
                       (26 : Int) ≤
                        (↑(List.length (ipDecode (List.take (List.length s) (List.drop (0 : Nat) s))).fst.body) : Int)) ∧
                      (6 : Nat) ≤
                        List.length
                         (List.drop (26 : Nat) (ipDecode (List.take (List.length s) (List.drop (0 : Nat) s))).fst.body) ∧
                       ((0 : Int) ≤ (8 : Int) ∧
                         (8 : Int) ≤ (24 : Int) ∧
                          (24 : Int) ≤
                           (↑(List.length (ipDecode (List.take (List.length s) (List.drop (0 : Nat) s))).fst.body) :
                            Int)) ∧
                        ((0 : Int) ≤ (4 : Int) ∧
                          (4 : Int) <
                           (↑(List.length (ipDecode (List.take (List.length s) (List.drop (0 : Nat) s))).fst.body) :
                            Int)) ∧
                         K
                          (AVal.tup
                           [AVal.agg
                             [AVal.int IntKind.i64 (2 : Int),
                              AVal.byte
                               (List.getD
                                (List.drop (26 : Nat)
                                 (ipDecode (List.take (List.length s) (List.drop (0 : Nat) s))).fst.body)
                                (0 : Nat) (0 : UInt8)),
                              AVal.byte
                               (List.getD
                                (List.drop (26 : Nat)
                                 (ipDecode (List.take (List.length s) (List.drop (0 : Nat) s))).fst.body)
                                (1 : Nat) (0 : UInt8)),
                              AVal.byte
                               (List.getD
                                (List.drop (26 : Nat)
                                 (ipDecode (List.take (List.length s) (List.drop (0 : Nat) s))).fst.body)
                                (2 : Nat) (0 : UInt8)),
                              AVal.byte
                               (List.getD
                                (List.drop (26 : Nat)
                                 (ipDecode (List.take (List.length s) (List.drop (0 : Nat) s))).fst.body)
                                (3 : Nat) (0 : UInt8)),
                              AVal.byte
                               (List.getD
                                (List.drop (26 : Nat)
                                 (ipDecode (List.take (List.length s) (List.drop (0 : Nat) s))).fst.body)
                                (4 : Nat) (0 : UInt8)),
                              AVal.byte
                               (List.getD
                                (List.drop (26 : Nat)
                                 (ipDecode (List.take (List.length s) (List.drop (0 : Nat) s))).fst.body)
                                (5 : Nat) (0 : UInt8)),
                              AVal.str
                               (List.drop (8 : Nat)
                                (List.take (24 : Nat)
                                 (ipDecode (List.take (List.length s) (List.drop (0 : Nat) s))).fst.body)),
                              AVal.str (ipDecode (List.take (List.length s) (List.drop (0 : Nat) s))).fst.dst,
                              AVal.bool
                               !decide
                                 (List.getD (ipDecode (List.take (List.length s) (List.drop (0 : Nat) s))).fst.body
                                    (4 : Nat) (0 : UInt8) &&&
                                   (64 : UInt8) =
                                  (0 : UInt8))],
                            AVal.int IntKind.i64 (0 : Int)])
                          [])))))))))) := by kernel_rfl
theorem neigh_readNd_p : ∀ args H K, ntRow nbReadNd args H K → fnP Try.prog Tnb8 ann_neigh_readNd Try.f81 args H K := by
  intro args H K h
  unfold ntRow at h
  split at h
  · rename_i s
    obtain ⟨hl, hK⟩ := h
    rw [neigh_readNd_eq]
    simp only [or_w16, div2, div3, add_w16, and255, b8_mod, List.set_cons_zero, List.set_cons_succ, andNot_4000, getD_drop, getD_take, b8_byte, b8_toNatN, UInt8.toNat_ofNat', UInt8.toNat_and, nat_mask4, nat_mask6, nat_240, u8_eq_iff, UInt8.reduceToNat, Int.reduceLT, List.take_succ_cons, List.take_zero, List.drop_zero, List.flatten_cons, List.flatten_nil, List.append_nil, List.nil_append, List.take_length, Nat.mul_one, Nat.zero_add, Nat.reduceAdd, Nat.reduceLT, List.length_drop, List.length_take]
    unfold nbReadNd at hK
    generalize ipDecode s = D at hK ⊢
    obtain ⟨⟨f, t, p, q, b⟩, e⟩ := D
    simp only at hK ⊢
    by_cases hbad : e ≠ 0 ∨ f.length ≠ 16 ∨ p ≠ 58 ∨ q ≠ 255 ∨ b.length ≠ 32
    · rw [if_pos hbad] at hK
      simp only [ntV, noNt, noMc] at hK
      refine ⟨by omega, ?_⟩
      refine brP_nd (fun _ => hK) (fun _ => ?_)
      refine brP_nd (fun _ => hK) (fun _ => ?_)
      refine brP_nd (fun _ => hK) (fun _ => ?_)
      refine brP_nd (fun _ => hK) (fun _ => ?_)
      refine brP_nd (fun _ => hK) (fun _ => ?_)
      exfalso; omega
    · rw [if_neg hbad] at hK
      obtain ⟨rfl, hf, rfl, rfl, hb⟩ : e = 0 ∧ f.length = 16 ∧ p = 58 ∧ q = 255 ∧ b.length = 32 := by omega
      simp only [hb, hf] at hK ⊢
      unfold nbReadP nbAsks nbTells pseudoL at hK
      simp only [ntV, mcAt, Nat.reduceAdd, Bool.and_eq_true, Bool.or_eq_true, Bool.and_eq_false_iff, Bool.or_eq_false_iff, decide_eq_true_eq, decide_eq_false_iff_not, Bool.not_eq_true', Bool.not_eq_false', Bool.not_true, Bool.not_false, Bool.true_and, Bool.and_true, Bool.false_or, Bool.or_false, beq_iff_eq, beq_eq_false_iff_ne, ne_eq] at hK
      have x0 := (b.getD 0 0).toNat_lt
      cases hps : pseudo f t 58 32 with
      | none =>
        simp only [hps, Option.getD_none, List.nil_append] at hK
        simp only [show (((32 : Nat) : Int)) = 32 from rfl, hps, optP_n, and64]
        repeat' first
          | (refine And.intro (by first | first | omega | with_reducible exact i64_x256 _ | with_reducible exact i64_w16 _ _ | with_reducible exact i64_sum _ | (repeat' first | with_reducible exact i64_x256 _ | with_reducible exact i64_w16 _ _ | with_reducible exact i64_sum _ | with_reducible apply And.intro) <;> first | omega | (simp only [I64]; omega) | (simp; omega) | (simp; done) | (simp [I64]; omega) | (with_reducible refine impP_i (fun hg => ?_) <;> (try simp only [Bool.and_eq_true, Bool.or_eq_true, Bool.and_eq_false_iff, Bool.or_eq_false_iff, decide_eq_true_eq, decide_eq_false_iff_not, Bool.not_eq_true', Bool.not_eq_false', Bool.not_true, Bool.not_false, Bool.true_and, Bool.and_true, Bool.false_or, Bool.or_false, beq_iff_eq, beq_eq_false_iff_ne, ne_eq] at hg) <;> (first | omega | with_reducible exact i64_x256 _ | with_reducible exact i64_w16 _ _ | with_reducible exact i64_sum _ | (repeat' first | with_reducible exact i64_x256 _ | with_reducible exact i64_w16 _ _ | with_reducible exact i64_sum _ | with_reducible apply And.intro) <;> first | omega | (simp only [I64]; omega) | (simp; omega) | (simp; done) | (simp [I64]; omega)))) ?_)
          | (refine brP_d (fun h => ?_) (fun h => ?_))
          | (refine optP_i (fun x hx => ?_) (fun hx => ?_) <;> (try have hxl := pseudo_len hx))
          | (refine brP_nd (fun h => ?_) (fun h => ?_))
          | (refine brP_i (fun h => ?_) (fun h => ?_) <;> (try simp only [Bool.and_eq_true, Bool.or_eq_true, Bool.and_eq_false_iff, Bool.or_eq_false_iff, decide_eq_true_eq, decide_eq_false_iff_not, Bool.not_eq_true', Bool.not_eq_false', Bool.not_true, Bool.not_false, Bool.true_and, Bool.and_true, Bool.false_or, Bool.or_false, beq_iff_eq, beq_eq_false_iff_ne, ne_eq] at h))
        all_goals repeat' split at hK
        all_goals first
          | exact hK
          | (exfalso; omega)
          | trace_state
      | some l =>
        have hl := pseudo_len hps
        simp only [hps, Option.getD_some] at hK
        simp only [show (((32 : Nat) : Int)) = 32 from rfl, hps, optP_s, and64, List.length_append, hb]
        repeat' first
          | (refine And.intro (by first | first | omega | with_reducible exact i64_x256 _ | with_reducible exact i64_w16 _ _ | with_reducible exact i64_sum _ | (repeat' first | with_reducible exact i64_x256 _ | with_reducible exact i64_w16 _ _ | with_reducible exact i64_sum _ | with_reducible apply And.intro) <;> first | omega | (simp only [I64]; omega) | (simp; omega) | (simp; done) | (simp [I64]; omega) | (with_reducible refine impP_i (fun hg => ?_) <;> (try simp only [Bool.and_eq_true, Bool.or_eq_true, Bool.and_eq_false_iff, Bool.or_eq_false_iff, decide_eq_true_eq, decide_eq_false_iff_not, Bool.not_eq_true', Bool.not_eq_false', Bool.not_true, Bool.not_false, Bool.true_and, Bool.and_true, Bool.false_or, Bool.or_false, beq_iff_eq, beq_eq_false_iff_ne, ne_eq] at hg) <;> (first | omega | with_reducible exact i64_x256 _ | with_reducible exact i64_w16 _ _ | with_reducible exact i64_sum _ | (repeat' first | with_reducible exact i64_x256 _ | with_reducible exact i64_w16 _ _ | with_reducible exact i64_sum _ | with_reducible apply And.intro) <;> first | omega | (simp only [I64]; omega) | (simp; omega) | (simp; done) | (simp [I64]; omega)))) ?_)
          | (refine brP_d (fun h => ?_) (fun h => ?_))
          | (refine optP_i (fun x hx => ?_) (fun hx => ?_) <;> (try have hxl := pseudo_len hx))
          | (refine brP_nd (fun h => ?_) (fun h => ?_))
          | (refine brP_i (fun h => ?_) (fun h => ?_) <;> (try simp only [Bool.and_eq_true, Bool.or_eq_true, Bool.and_eq_false_iff, Bool.or_eq_false_iff, decide_eq_true_eq, decide_eq_false_iff_not, Bool.not_eq_true', Bool.not_eq_false', Bool.not_true, Bool.not_false, Bool.true_and, Bool.and_true, Bool.false_or, Bool.or_false, beq_iff_eq, beq_eq_false_iff_ne, ne_eq] at h))
        all_goals repeat' split at hK
        all_goals first
          | exact hK
          | (exfalso; omega)
          | trace_state
  · exact h.elim
def Tnb9 : Specs := ext Tnb8 81 (ntRow nbReadNd)
theorem Tnb9_sound : TSound Try.prog Tnb9 := ext_sound Tnb8_sound (row_of Tnb8_sound mixed Try.func81 (by decide +kernel) neigh_readNd_p)
def ann_outriderref04_Near : Nat → List Nat × Nat × List (List Nat)
  | _ => ([], 0, [])
set_option maxRecDepth 100000 in
theorem ref04_Near_eq (a : List UInt8) (K : AVal → Hp → Prop) : fnP Try.prog Tnb9 ann_outriderref04_Near Try.f32 [.str a] [] K = (
  brP (!decide ((↑(List.length a) : Int) = (16 : Int))) (K (AVal.str []) [])
    (((0 : Int) ≤ (16 : Int) ∧ (16 : Int) = (16 : Int) ∧ (16 : Int) ≤ (140737488355328 : Int)) ∧
     ((0 : Int) ≤ (0 : Int) ∧ (0 : Int) < (16 : Int)) ∧
      (0 : Nat) < (16 : Nat) ∧
       ((0 : Int) ≤ (1 : Int) ∧ (1 : Int) < (16 : Int)) ∧
        (1 : Nat) < (16 : Nat) ∧
         ((0 : Int) ≤ (11 : Int) ∧ (11 : Int) < (16 : Int)) ∧
          (11 : Nat) < (16 : Nat) ∧
           ((0 : Int) ≤ (12 : Int) ∧ (12 : Int) < (16 : Int)) ∧
            (12 : Nat) < (16 : Nat) ∧
             ((0 : Int) ≤ (13 : Int) ∧ (13 : Int) < (↑(List.length a) : Int)) ∧
              ((0 : Int) ≤ (13 : Int) ∧ (13 : Int) < (16 : Int)) ∧
               (13 : Nat) < (16 : Nat) ∧
                ((0 : Int) ≤ (14 : Int) ∧ (14 : Int) < (↑(List.length a) : Int)) ∧
                 ((0 : Int) ≤ (14 : Int) ∧ (14 : Int) < (16 : Int)) ∧
                  (14 : Nat) < (16 : Nat) ∧
                   ((0 : Int) ≤ (15 : Int) ∧ (15 : Int) < (↑(List.length a) : Int)) ∧
                    ((0 : Int) ≤ (15 : Int) ∧ (15 : Int) < (16 : Int)) ∧
                     (15 : Nat) < (16 : Nat) ∧
                      K
                       (AVal.str
                        (List.take (16 : Nat)
                         (List.drop (0 : Nat)
                          (List.set
                           (List.set
                            (List.set
                             [(255 : UInt8), (2 : UInt8), (0 : UInt8), (0 : UInt8), (0 : UInt8), (0 : UInt8), (0 : UInt8),
                              (0 : UInt8), (0 : UInt8), (0 : UInt8), (0 : UInt8), (1 : UInt8), (255 : UInt8), (0 : UInt8),
                              (0 : UInt8), (0 : UInt8)]
                             (13 : Nat) (List.getD a (13 : Nat) (0 : UInt8)))
                            (14 : Nat) (List.getD a (14 : Nat) (0 : UInt8)))
                           (15 : Nat) (List.getD a (15 : Nat) (0 : UInt8))))))
                       [])) := by kernel_rfl
theorem outriderref04_Near_p : ∀ args H K, nearRow args H K → fnP Try.prog Tnb9 ann_outriderref04_Near Try.f32 args H K := by
  intro args H K h
  unfold nearRow at h
  split at h
  · rename_i a
    rw [ref04_Near_eq]
    revert h; intro hK
    unfold nbNear at hK
    by_cases h16 : a.length = 16
    · rw [if_pos h16] at hK
      repeat' first
        | (refine And.intro (by first | first | omega | with_reducible exact i64_x256 _ | with_reducible exact i64_w16 _ _ | with_reducible exact i64_sum _ | (repeat' first | with_reducible exact i64_x256 _ | with_reducible exact i64_w16 _ _ | with_reducible exact i64_sum _ | with_reducible apply And.intro) <;> first | omega | (simp only [I64]; omega) | (simp; omega) | (simp; done) | (simp [I64]; omega) | (with_reducible refine impP_i (fun hg => ?_) <;> (try simp only [Bool.and_eq_true, Bool.or_eq_true, Bool.and_eq_false_iff, Bool.or_eq_false_iff, decide_eq_true_eq, decide_eq_false_iff_not, Bool.not_eq_true', Bool.not_eq_false', Bool.not_true, Bool.not_false, Bool.true_and, Bool.and_true, Bool.false_or, Bool.or_false, beq_iff_eq, beq_eq_false_iff_ne, ne_eq] at hg) <;> (first | omega | with_reducible exact i64_x256 _ | with_reducible exact i64_w16 _ _ | with_reducible exact i64_sum _ | (repeat' first | with_reducible exact i64_x256 _ | with_reducible exact i64_w16 _ _ | with_reducible exact i64_sum _ | with_reducible apply And.intro) <;> first | omega | (simp only [I64]; omega) | (simp; omega) | (simp; done) | (simp [I64]; omega)))) ?_)
        | (refine brP_d (fun h => ?_) (fun h => ?_))
        | (refine optP_i (fun x hx => ?_) (fun hx => ?_) <;> (try have hxl := pseudo_len hx))
        | (refine brP_nd (fun h => ?_) (fun h => ?_))
        | (refine brP_i (fun h => ?_) (fun h => ?_) <;> (try simp only [Bool.and_eq_true, Bool.or_eq_true, Bool.and_eq_false_iff, Bool.or_eq_false_iff, decide_eq_true_eq, decide_eq_false_iff_not, Bool.not_eq_true', Bool.not_eq_false', Bool.not_true, Bool.not_false, Bool.true_and, Bool.and_true, Bool.false_or, Bool.or_false, beq_iff_eq, beq_eq_false_iff_ne, ne_eq] at h))
      all_goals first
        | (exfalso; omega)
        | (refine endK_eq hK ?_ rfl
           obtain ⟨_, _, _, _, _, _, _, _, _, _, _, _, _, _, _, _, rfl⟩ := list16 h16
           rfl)
    · rw [if_neg h16] at hK
      repeat' first
        | (refine And.intro (by first | first | omega | with_reducible exact i64_x256 _ | with_reducible exact i64_w16 _ _ | with_reducible exact i64_sum _ | (repeat' first | with_reducible exact i64_x256 _ | with_reducible exact i64_w16 _ _ | with_reducible exact i64_sum _ | with_reducible apply And.intro) <;> first | omega | (simp only [I64]; omega) | (simp; omega) | (simp; done) | (simp [I64]; omega) | (with_reducible refine impP_i (fun hg => ?_) <;> (try simp only [Bool.and_eq_true, Bool.or_eq_true, Bool.and_eq_false_iff, Bool.or_eq_false_iff, decide_eq_true_eq, decide_eq_false_iff_not, Bool.not_eq_true', Bool.not_eq_false', Bool.not_true, Bool.not_false, Bool.true_and, Bool.and_true, Bool.false_or, Bool.or_false, beq_iff_eq, beq_eq_false_iff_ne, ne_eq] at hg) <;> (first | omega | with_reducible exact i64_x256 _ | with_reducible exact i64_w16 _ _ | with_reducible exact i64_sum _ | (repeat' first | with_reducible exact i64_x256 _ | with_reducible exact i64_w16 _ _ | with_reducible exact i64_sum _ | with_reducible apply And.intro) <;> first | omega | (simp only [I64]; omega) | (simp; omega) | (simp; done) | (simp [I64]; omega)))) ?_)
        | (refine brP_d (fun h => ?_) (fun h => ?_))
        | (refine optP_i (fun x hx => ?_) (fun hx => ?_) <;> (try have hxl := pseudo_len hx))
        | (refine brP_nd (fun h => ?_) (fun h => ?_))
        | (refine brP_i (fun h => ?_) (fun h => ?_) <;> (try simp only [Bool.and_eq_true, Bool.or_eq_true, Bool.and_eq_false_iff, Bool.or_eq_false_iff, decide_eq_true_eq, decide_eq_false_iff_not, Bool.not_eq_true', Bool.not_eq_false', Bool.not_true, Bool.not_false, Bool.true_and, Bool.and_true, Bool.false_or, Bool.or_false, beq_iff_eq, beq_eq_false_iff_ne, ne_eq] at h))
      all_goals first | exact hK | (exfalso; omega) | (exact absurd trivial h)
  · exact h.elim
def Tnb10 : Specs := ext Tnb9 32 (nearRow)
theorem Tnb10_sound : TSound Try.prog Tnb10 := ext_sound Tnb9_sound (row_of Tnb9_sound mixed Try.func32 (by decide +kernel) outriderref04_Near_p)
abbrev Tnb11 : Specs := Tnb10
theorem Tnb11_sound : TSound Try.prog Tnb11 := Tnb10_sound
def ann_outriderref04_text : Nat → List Nat × Nat × List (List Nat)
  | _ => ([], 0, [])
def Tnb12 : Specs := ext Tnb11 30 (fnP Try.prog Tnb11 ann_outriderref04_text Try.f30)
theorem Tnb12_sound : TSound Try.prog Tnb12 := ext_sound Tnb11_sound (fn_row Tnb11_sound mixed Try.func30 (by decide +kernel))
def ann_outriderref04_all : Nat → List Nat × Nat × List (List Nat)
  | _ => ([], 0, [])
def Tnb13 : Specs := ext Tnb12 28 (fnP Try.prog Tnb12 ann_outriderref04_all Try.f28)
theorem Tnb13_sound : TSound Try.prog Tnb13 := ext_sound Tnb12_sound (fn_row Tnb12_sound mixed Try.func28 (by decide +kernel))
def ann_outriderref04_arp : Nat → List Nat × Nat × List (List Nat)
  | _ => ([], 0, [])
def Tnb14 : Specs := ext Tnb13 29 (fnP Try.prog Tnb13 ann_outriderref04_arp Try.f29)
theorem Tnb14_sound : TSound Try.prog Tnb14 := ext_sound Tnb13_sound (fn_row Tnb13_sound mixed Try.func29 (by decide +kernel))
def ann_outriderref04_kind : Nat → List Nat × Nat × List (List Nat)
  | _ => ([], 0, [])
def Tnb15 : Specs := ext Tnb14 26 (fnP Try.prog Tnb14 ann_outriderref04_kind Try.f26)
theorem Tnb15_sound : TSound Try.prog Tnb15 := ext_sound Tnb14_sound (fn_row Tnb14_sound mixed Try.func26 (by decide +kernel))
abbrev Tnb16 : Specs := Tnb15
theorem Tnb16_sound : TSound Try.prog Tnb16 := Tnb15_sound
def ann_outriderref04_nd : Nat → List Nat × Nat × List (List Nat)
  | 4 => ([], 15, [[], [0], [], [2], [2, 3], [], [5], [5, 6], [2, 3, 4, 5, 6, 7], [2, 3, 4, 5, 6, 7, 8], [0, 1, 2, 3, 4, 5, 6, 7, 8, 9], [], [11], [0, 1, 2, 3, 4, 5, 6, 7, 8, 9, 10, 11, 12], [0, 1, 2, 3, 4, 5, 6, 7, 8, 9, 10, 11, 12, 13]])
  | _ => ([], 0, [])
set_option maxRecDepth 100000 in
theorem ref04_nd_eq (m0 m1 m2 m3 m4 m5 t0 t1 t2 t3 t4 t5 : UInt8) (f t : List UInt8) (p q : Int) (b body : List UInt8) (K : AVal → Hp → Prop) : fnP Try.prog Tnb16 ann_outriderref04_nd Try.f31 [.agg [.byte m0, .byte m1, .byte m2, .byte m3, .byte m4, .byte m5], .agg [.byte t0, .byte t1, .byte t2, .byte t3, .byte t4, .byte t5], .agg [.str f, .str t, .int .i64 p, .int .i64 q, .str b], .str body] [] K = (
  optP (pseudo f t (58 : Int) (32 : Int))
    (fun x =>
     List.length (List.take (List.length x) (List.drop (0 : Nat) x)) + List.length body ≤ (4611686018427387904 : Nat) ∧
      List.length (List.take (List.length x) (List.drop (0 : Nat) x) ++ body) ≤ (140737488355328 : Nat) ∧
       I64
         ((65535 : Int) -
          sumB
           (List.take (List.length (List.take (List.length x) (List.drop (0 : Nat) x) ++ body))
            (List.drop (0 : Nat) (List.take (List.length x) (List.drop (0 : Nat) x) ++ body)))) ∧
        ((0 : Int) ≤ (2 : Int) ∧ (2 : Int) ≤ (↑(List.length body) : Int)) ∧
         ((256 : Int) ≠ (0 : Int) ∧
           I64
            (Int.tdiv
             ((65535 : Int) -
              sumB
               (List.take (List.length (List.take (List.length x) (List.drop (0 : Nat) x) ++ body))
                (List.drop (0 : Nat) (List.take (List.length x) (List.drop (0 : Nat) x) ++ body))))
             (256 : Int))) ∧
          (256 : Int) ≠ (0 : Int) ∧
           List.length (List.take (2 : Nat) body) + (2 : Nat) ≤ (4611686018427387904 : Nat) ∧
            ((0 : Int) ≤ (4 : Int) ∧ (4 : Int) ≤ (↑(List.length body) : Int)) ∧
             List.length
                 (List.take (2 : Nat) body ++
                  List.take (2 : Nat)
                   (List.drop (0 : Nat)
                    [b8
                      (Int.tdiv
                       ((65535 : Int) -
                        sumB
                         (List.take (List.length (List.take (List.length x) (List.drop (0 : Nat) x) ++ body))
                          (List.drop (0 : Nat) (List.take (List.length x) (List.drop (0 : Nat) x) ++ body))))
                       (256 : Int)),
                     b8
                      (Int.tmod
                       ((65535 : Int) -
                        sumB
                         (List.take (List.length (List.take (List.length x) (List.drop (0 : Nat) x) ++ body))
                          (List.drop (0 : Nat) (List.take (List.length x) (List.drop (0 : Nat) x) ++ body))))
                       (256 : Int))])) +
                List.length (List.drop (4 : Nat) body) ≤
               (4611686018427387904 : Nat) ∧
              optP
               (ipEncode
                (Ip.mk f t (58 : Int) (255 : Int)
                 (List.take (2 : Nat) body ++
                   List.take (2 : Nat)
                    (List.drop (0 : Nat)
                     [b8
                       (Int.tdiv
                        ((65535 : Int) -
                         sumB
                          (List.take (List.length (List.take (List.length x) (List.drop (0 : Nat) x) ++ body))
                           (List.drop (0 : Nat) (List.take (List.length x) (List.drop (0 : Nat) x) ++ body))))
                        (256 : Int)),
                      b8
                       (Int.tmod
                        ((65535 : Int) -
                         sumB
                          (List.take (List.length (List.take (List.length x) (List.drop (0 : Nat) x) ++ body))
                           (List.drop (0 : Nat) (List.take (List.length x) (List.drop (0 : Nat) x) ++ body))))
                        (256 : Int))]) ++
                  List.drop (4 : Nat) body)))
               (fun x =>
                List.length (List.take (List.length x) (List.drop (0 : Nat) x)) ≤ (140737488351232 : Nat) ∧
                 optP
                  (etEncode
                   (Fm.mk (Mc.mk t0 t1 t2 t3 t4 t5) (Mc.mk m0 m1 m2 m3 m4 m5) (34525 : Int)
                    (List.take (List.length x) (List.drop (0 : Nat) x))))
                  (fun x =>
                   K (AVal.tup [AVal.sl (0 : Nat) (0 : Nat) (List.length x) (1 : Nat), AVal.int IntKind.i64 (0 : Int)])
                    [ABlk.bytes x])
                  (K (AVal.tup [AVal.nilS, AVal.int IntKind.i64 (1 : Int)]) []))
               (K (AVal.tup [AVal.nilS, AVal.int IntKind.i64 (1 : Int)]) []))
    ((0 : Nat) + List.length body ≤ (4611686018427387904 : Nat) ∧
     List.length ([] ++ body) ≤ (140737488355328 : Nat) ∧
      I64 ((65535 : Int) - sumB (List.take (List.length ([] ++ body)) (List.drop (0 : Nat) ([] ++ body)))) ∧
       ((0 : Int) ≤ (2 : Int) ∧ (2 : Int) ≤ (↑(List.length body) : Int)) ∧
        ((256 : Int) ≠ (0 : Int) ∧
          I64
           (Int.tdiv ((65535 : Int) - sumB (List.take (List.length ([] ++ body)) (List.drop (0 : Nat) ([] ++ body))))
            (256 : Int))) ∧
         (256 : Int) ≠ (0 : Int) ∧
          List.length (List.take (2 : Nat) body) + (2 : Nat) ≤ (4611686018427387904 : Nat) ∧
           ((0 : Int) ≤ (4 : Int) ∧ (4 : Int) ≤ (↑(List.length body) : Int)) ∧
            List.length
                (List.take (2 : Nat) body ++
                 List.take (2 : Nat)
                  (List.drop (0 : Nat)
                   [b8
                     (Int.tdiv
                      ((65535 : Int) - sumB (List.take (List.length ([] ++ body)) (List.drop (0 : Nat) ([] ++ body))))
                      (256 : Int)),
                    b8
                     (Int.tmod
                      ((65535 : Int) - sumB (List.take (List.length ([] ++ body)) (List.drop (0 : Nat) ([] ++ body))))
                      (256 : Int))])) +
               List.length (List.drop (4 : Nat) body) ≤
              (4611686018427387904 : Nat) ∧
             optP
              (ipEncode
               (Ip.mk f t (58 : Int) (255 : Int)
                (List.take (2 : Nat) body ++
                  List.take (2 : Nat)
                   (List.drop (0 : Nat)
                    [b8
                      (Int.tdiv
                       ((65535 : Int) - sumB (List.take (List.length ([] ++ body)) (List.drop (0 : Nat) ([] ++ body))))
                       (256 : Int)),
                     b8
                      (Int.tmod
                       ((65535 : Int) - sumB (List.take (List.length ([] ++ body)) (List.drop (0 : Nat) ([] ++ body))))
                       (256 : Int))]) ++
                 List.drop (4 : Nat) body)))
              (fun x =>
               List.length (List.take (List.length x) (List.drop (0 : Nat) x)) ≤ (140737488351232 : Nat) ∧
                optP
                 (etEncode
                  (Fm.mk (Mc.mk t0 t1 t2 t3 t4 t5) (Mc.mk m0 m1 m2 m3 m4 m5) (34525 : Int)
                   (List.take (List.length x) (List.drop (0 : Nat) x))))
                 (fun x =>
                  K (AVal.tup [AVal.sl (0 : Nat) (0 : Nat) (List.length x) (1 : Nat), AVal.int IntKind.i64 (0 : Int)])
                   [ABlk.bytes x])
                 (K (AVal.tup [AVal.nilS, AVal.int IntKind.i64 (1 : Int)]) []))
              (K (AVal.tup [AVal.nilS, AVal.int IntKind.i64 (1 : Int)]) []))) := by kernel_rfl
theorem outriderref04_nd_p : ∀ args H K, ndGRow args H K → fnP Try.prog Tnb16 ann_outriderref04_nd Try.f31 args H K := by
  intro args H K h
  unfold ndGRow at h
  split at h
  · rename_i m0 m1 m2 m3 m4 m5 t0 t1 t2 t3 t4 t5 f t p q b body
    obtain ⟨htg, hK⟩ := h
    rw [ref04_nd_eq]
    have iS : ∀ l, I64 (Int.tdiv (65535 - sumB l) 256) := fun l => by have := sumB_bd l; rw [Int.tdiv_eq_ediv_of_nonneg (by omega)]; unfold I64; omega
    have tS : ∀ l, [b8 (Int.tdiv (65535 - sumB l) 256), b8 (Int.tmod (65535 - sumB l) 256)] = two (65535 - sumB l) := fun l => tdT (by have := sumB_bd l; omega)
    have tk2 : ∀ (y z : UInt8), List.take 2 [y, z] = [y, z] := fun _ _ => rfl
    simp only [List.drop_zero, List.take_length, tk2, tS, iS, i64_sum, true_and]
    have hK' : optP (ipEncode (ndIp body f t)) (fun x => outK (etEncode ⟨⟨t0, t1, t2, t3, t4, t5⟩, ⟨m0, m1, m2, m3, m4, m5⟩, 34525, x⟩) K) (K (.tup [.nilS, .int .i64 1]) []) := by
      unfold ndG at hK; revert hK; cases ipEncode (ndIp body f t) <;> exact id
    unfold ndIp pseudoL at hK'
    have hl40 := @pseudo_len f t 58
    have n256 : ((256 : Int) ≠ 0) = True := eq_true (by decide)
    have tk3 : ∀ n, List.take 2 (two n) = two n := fun _ => rfl
    simp only [tk3, n256, true_and, List.length_append, List.length_take, List.length_drop, two_len, htg]
    have lims : ∀ X : Ip, ∀ x, ipEncode X = some x → x.length ≤ 1500 := fun X x hx => by
      have h1 := ipEnc_some hx
      unfold ipEncode at hx; rw [if_pos h1] at hx
      have := enc_len h1
      rw [Option.some.inj hx] at this; exact this
    cases hps : pseudo f t 58 32 with
    | none =>
      rw [hps] at hK'
      simp only [optP_n, Option.getD_none, List.nil_append] at hK' ⊢
      repeat' (refine And.intro (by first | first | omega | with_reducible exact i64_x256 _ | with_reducible exact i64_w16 _ _ | with_reducible exact i64_sum _ | (repeat' first | with_reducible exact i64_x256 _ | with_reducible exact i64_w16 _ _ | with_reducible exact i64_sum _ | with_reducible apply And.intro) <;> first | omega | (simp only [I64]; omega) | (simp; omega) | (simp; done) | (simp [I64]; omega) | (with_reducible refine impP_i (fun hg => ?_) <;> (try simp only [Bool.and_eq_true, Bool.or_eq_true, Bool.and_eq_false_iff, Bool.or_eq_false_iff, decide_eq_true_eq, decide_eq_false_iff_not, Bool.not_eq_true', Bool.not_eq_false', Bool.not_true, Bool.not_false, Bool.true_and, Bool.and_true, Bool.false_or, Bool.or_false, beq_iff_eq, beq_eq_false_iff_ne, ne_eq] at hg) <;> (first | omega | with_reducible exact i64_x256 _ | with_reducible exact i64_w16 _ _ | with_reducible exact i64_sum _ | (repeat' first | with_reducible exact i64_x256 _ | with_reducible exact i64_w16 _ _ | with_reducible exact i64_sum _ | with_reducible apply And.intro) <;> first | omega | (simp only [I64]; omega) | (simp; omega) | (simp; done) | (simp [I64]; omega)))) ?_)
      generalize hX : ipEncode _ = X at hK' ⊢
      cases X with
      | none => exact hK'
      | some x => exact ⟨by have := lims _ x hX; omega, hK'⟩
    | some l =>
      rw [hps] at hK'
      have hl := hl40 hps
      simp only [optP_s, Option.getD_some] at hK' ⊢
      repeat' (refine And.intro (by first | first | omega | with_reducible exact i64_x256 _ | with_reducible exact i64_w16 _ _ | with_reducible exact i64_sum _ | (repeat' first | with_reducible exact i64_x256 _ | with_reducible exact i64_w16 _ _ | with_reducible exact i64_sum _ | with_reducible apply And.intro) <;> first | omega | (simp only [I64]; omega) | (simp; omega) | (simp; done) | (simp [I64]; omega) | (with_reducible refine impP_i (fun hg => ?_) <;> (try simp only [Bool.and_eq_true, Bool.or_eq_true, Bool.and_eq_false_iff, Bool.or_eq_false_iff, decide_eq_true_eq, decide_eq_false_iff_not, Bool.not_eq_true', Bool.not_eq_false', Bool.not_true, Bool.not_false, Bool.true_and, Bool.and_true, Bool.false_or, Bool.or_false, beq_iff_eq, beq_eq_false_iff_ne, ne_eq] at hg) <;> (first | omega | with_reducible exact i64_x256 _ | with_reducible exact i64_w16 _ _ | with_reducible exact i64_sum _ | (repeat' first | with_reducible exact i64_x256 _ | with_reducible exact i64_w16 _ _ | with_reducible exact i64_sum _ | with_reducible apply And.intro) <;> first | omega | (simp only [I64]; omega) | (simp; omega) | (simp; done) | (simp [I64]; omega)))) ?_)
      generalize hX : ipEncode _ = X at hK' ⊢
      cases X with
      | none => exact hK'
      | some x => exact ⟨by have := lims _ x hX; omega, hK'⟩
  · exact h.elim
def Tnb17 : Specs := ext Tnb16 31 (ndGRow)
theorem Tnb17_sound : TSound Try.prog Tnb17 := ext_sound Tnb16_sound (row_of Tnb16_sound mixed Try.func31 (by decide +kernel) outriderref04_nd_p)
abbrev Tnb18 : Specs := Tnb17
theorem Tnb18_sound : TSound Try.prog Tnb18 := Tnb17_sound
abbrev Tnb19 : Specs := Tnb18
theorem Tnb19_sound : TSound Try.prog Tnb19 := Tnb18_sound
abbrev Tnb20 : Specs := Tnb19
theorem Tnb20_sound : TSound Try.prog Tnb20 := Tnb19_sound
abbrev Tnb21 : Specs := Tnb20
theorem Tnb21_sound : TSound Try.prog Tnb21 := Tnb20_sound
def ann_outriderref04_Ask : Nat → List Nat × Nat × List (List Nat)
  | 5 => ([], 13, [[], [], [], [0, 2], [], [0, 2, 3, 4], [], [6], [0, 2, 3, 4, 5, 6, 7], [0, 1, 2, 3, 4, 5, 6, 7, 8], [0, 1, 2, 3, 4, 5, 6, 7, 8, 9], [0, 1, 2, 3, 4, 5, 6, 7, 8, 9, 10], [0, 1, 2, 3, 4, 5, 6, 7, 8, 9, 10]])
  | 6 => ([], 8, [[], [0], [], [2], [], [4], [0, 1, 2, 3, 4, 5], []])
  | 7 => ([], 15, [[], [], [], [], [3], [2, 3, 4], [], [6], [6, 7], [], [3, 4, 9], [3, 4, 6, 7, 8, 9, 10], [0, 1, 2, 3, 4, 5, 6, 7, 8, 9, 10, 11], [0, 1, 2, 3, 4, 5, 6, 7, 8, 9, 10, 11, 12], [0, 1, 2, 3, 4, 5, 6, 7, 8, 9, 10, 11, 12]])
  | _ => ([], 0, [])
set_option maxRecDepth 100000 in
theorem ref04_Ask_eq (m0 m1 m2 m3 m4 m5 : UInt8) (a b : List UInt8) (K : AVal → Hp → Prop) : fnP Try.prog Tnb21 ann_outriderref04_Ask Try.f16 [.agg [.byte m0, .byte m1, .byte m2, .byte m3, .byte m4, .byte m5], .str a, .str b] [] K = (
  brP (decide ((↑(List.length a) : Int) = (↑(List.length b) : Int)))
    (brP (decide ((↑(List.length a) : Int) = (4 : Int)))
     (brP (decide ((↑(List.length a) : Int) = (0 : Int))) (K (AVal.tup [AVal.nilS, AVal.int IntKind.i64 (1 : Int)]) [])
      (brP (decide ((↑(List.length a) : Int) = (4 : Int)))
       ((6 : Nat) + List.length a ≤ (4611686018427387904 : Nat) ∧
        (6 : Nat) + List.length b ≤ (4611686018427387904 : Nat) ∧
         (8 : Nat) ≤ (4611686018427387904 : Nat) ∧
          (8 : Nat) + List.length ([m0, m1, m2, m3, m4, m5] ++ a) ≤ (4611686018427387904 : Nat) ∧
           List.length
               ([(0 : UInt8), (1 : UInt8), (8 : UInt8), (0 : UInt8), (6 : UInt8), (4 : UInt8), (0 : UInt8),
                 (1 : UInt8)] ++
                ([m0, m1, m2, m3, m4, m5] ++ a)) +
              List.length ([(0 : UInt8), (0 : UInt8), (0 : UInt8), (0 : UInt8), (0 : UInt8), (0 : UInt8)] ++ b) ≤
             (4611686018427387904 : Nat) ∧
            List.length
               ([(0 : UInt8), (1 : UInt8), (8 : UInt8), (0 : UInt8), (6 : UInt8), (4 : UInt8), (0 : UInt8),
                  (1 : UInt8)] ++
                 ([m0, m1, m2, m3, m4, m5] ++ a) ++
                ([(0 : UInt8), (0 : UInt8), (0 : UInt8), (0 : UInt8), (0 : UInt8), (0 : UInt8)] ++ b)) ≤
              (140737488351232 : Nat) ∧
             optP
              (etEncode
               (Fm.mk (Mc.mk (255 : UInt8) (255 : UInt8) (255 : UInt8) (255 : UInt8) (255 : UInt8) (255 : UInt8))
                (Mc.mk m0 m1 m2 m3 m4 m5) (2054 : Int)
                ([(0 : UInt8), (1 : UInt8), (8 : UInt8), (0 : UInt8), (6 : UInt8), (4 : UInt8), (0 : UInt8),
                   (1 : UInt8)] ++
                  ([m0, m1, m2, m3, m4, m5] ++ a) ++
                 ([(0 : UInt8), (0 : UInt8), (0 : UInt8), (0 : UInt8), (0 : UInt8), (0 : UInt8)] ++ b))))
              (fun x =>
               K (AVal.tup [AVal.sl (0 : Nat) (0 : Nat) (List.length x) (1 : Nat), AVal.int IntKind.i64 (0 : Int)])
                [ABlk.bytes x])
              (K (AVal.tup [AVal.nilS, AVal.int IntKind.i64 (1 : Int)]) []))
       (((0 : Int) ≤ (13 : Int) ∧ (13 : Int) < (↑(List.length b) : Int)) ∧
        ((0 : Int) ≤ (14 : Int) ∧ (14 : Int) < (↑(List.length b) : Int)) ∧
         ((0 : Int) ≤ (15 : Int) ∧ (15 : Int) < (↑(List.length b) : Int)) ∧
          (8 : Nat) + List.length b ≤ (4611686018427387904 : Nat) ∧
           List.length
               ([(135 : UInt8), (0 : UInt8), (0 : UInt8), (0 : UInt8), (0 : UInt8), (0 : UInt8), (0 : UInt8),
                 (0 : UInt8)] ++
                b) +
              (2 : Nat) ≤
             (4611686018427387904 : Nat) ∧
            List.length
                ([(135 : UInt8), (0 : UInt8), (0 : UInt8), (0 : UInt8), (0 : UInt8), (0 : UInt8), (0 : UInt8),
                   (0 : UInt8)] ++
                  b ++
                 [(1 : UInt8), (1 : UInt8)]) +
               (6 : Nat) ≤
              (4611686018427387904 : Nat) ∧
             List.length
                ([(135 : UInt8), (0 : UInt8), (0 : UInt8), (0 : UInt8), (0 : UInt8), (0 : UInt8), (0 : UInt8),
                    (0 : UInt8)] ++
                   b ++
                  [(1 : UInt8), (1 : UInt8)] ++
                 [m0, m1, m2, m3, m4, m5]) =
               (32 : Nat) ∧
              optP
               (ndG
                ([(135 : UInt8), (0 : UInt8), (0 : UInt8), (0 : UInt8), (0 : UInt8), (0 : UInt8), (0 : UInt8),
                    (0 : UInt8)] ++
                   b ++
                  [(1 : UInt8), (1 : UInt8)] ++
                 [m0, m1, m2, m3, m4, m5])
                (Mc.mk m0 m1 m2 m3 m4 m5)
                (Mc.mk (51 : UInt8) (51 : UInt8) (255 : UInt8) (List.getD b (13 : Nat) (0 : UInt8))
                 (List.getD b (14 : Nat) (0 : UInt8)) (List.getD b (15 : Nat) (0 : UInt8)))
                a (nbNear b))
               (fun x =>
                K (AVal.tup [AVal.sl (0 : Nat) (0 : Nat) (List.length x) (1 : Nat), AVal.int IntKind.i64 (0 : Int)])
                 [ABlk.bytes x])
               (K (AVal.tup [AVal.nilS, AVal.int IntKind.i64 (1 : Int)]) []))))
     (brP (decide ((↑(List.length a) : Int) = (16 : Int)))
      (brP (decide ((↑(List.length a) : Int) = (0 : Int))) (K (AVal.tup [AVal.nilS, AVal.int IntKind.i64 (1 : Int)]) [])
       (brP (decide ((↑(List.length a) : Int) = (4 : Int)))
        ((6 : Nat) + List.length a ≤ (4611686018427387904 : Nat) ∧
         (6 : Nat) + List.length b ≤ (4611686018427387904 : Nat) ∧
          (8 : Nat) ≤ (4611686018427387904 : Nat) ∧
           (8 : Nat) + List.length ([m0, m1, m2, m3, m4, m5] ++ a) ≤ (4611686018427387904 : Nat) ∧
            List.length
                ([(0 : UInt8), (1 : UInt8), (8 : UInt8), (0 : UInt8), (6 : UInt8), (4 : UInt8), (0 : UInt8),
                  (1 : UInt8)] ++
                 ([m0, m1, m2, m3, m4, m5] ++ a)) +
               List.length ([(0 : UInt8), (0 : UInt8), (0 : UInt8), (0 : UInt8), (0 : UInt8), (0 : UInt8)] ++ b) ≤
              (4611686018427387904 : Nat) ∧
             List.length
                ([(0 : UInt8), (1 : UInt8), (8 : UInt8), (0 : UInt8), (6 : UInt8), (4 : UInt8), (0 : UInt8),
                   (1 : UInt8)] ++
                  ([m0, m1, m2, m3, m4, m5] ++ a) ++
                 ([(0 : UInt8), (0 : UInt8), (0 : UInt8), (0 : UInt8), (0 : UInt8), (0 : UInt8)] ++ b)) ≤
               (140737488351232 : Nat) ∧
              optP
               (etEncode
                (Fm.mk (Mc.mk (255 : UInt8) (255 : UInt8) (255 : UInt8) (255 : UInt8) (255 : UInt8) (255 : UInt8))
                 (Mc.mk m0 m1 m2 m3 m4 m5) (2054 : Int)
                 ([(0 : UInt8), (1 : UInt8), (8 : UInt8), (0 : UInt8), (6 : UInt8), (4 : UInt8), (0 : UInt8),
                    (1 : UInt8)] ++
                   ([m0, m1, m2, m3, m4, m5] ++ a) ++
                  ([(0 : UInt8), (0 : UInt8), (0 : UInt8), (0 : UInt8), (0 : UInt8), (0 : UInt8)] ++ b))))
               (fun x =>
                K (AVal.tup [AVal.sl (0 : Nat) (0 : Nat) (List.length x) (1 : Nat), AVal.int IntKind.i64 (0 : Int)])
                 [ABlk.bytes x])
               (K (AVal.tup [AVal.nilS, AVal.int IntKind.i64 (1 : Int)]) []))
        (((0 : Int) ≤ (13 : Int) ∧ (13 : Int) < (↑(List.length b) : Int)) ∧
         ((0 : Int) ≤ (14 : Int) ∧ (14 : Int) < (↑(List.length b) : Int)) ∧
          ((0 : Int) ≤ (15 : Int) ∧ (15 : Int) < (↑(List.length b) : Int)) ∧
           (8 : Nat) + List.length b ≤ (4611686018427387904 : Nat) ∧
            List.length
                ([(135 : UInt8), (0 : UInt8), (0 : UInt8), (0 : UInt8), (0 : UInt8), (0 : UInt8), (0 : UInt8),
                  (0 : UInt8)] ++
                 b) +
               (2 : Nat) ≤
              (4611686018427387904 : Nat) ∧
             List.length
                 ([(135 : UInt8), (0 : UInt8), (0 : UInt8), (0 : UInt8), (0 : UInt8), (0 : UInt8), (0 : UInt8),
                    (0 : UInt8)] ++
                   b ++
                  [(1 : UInt8), (1 : UInt8)]) +
                (6 : Nat) ≤
               (4611686018427387904 : Nat) ∧
              List.length
                 ([(135 : UInt8), (0 : UInt8), (0 : UInt8), (0 : UInt8), (0 : UInt8), (0 : UInt8), (0 : UInt8),
                     (0 : UInt8)] ++
                    b ++
                   [(1 : UInt8), (1 : UInt8)] ++
                  [m0, m1, m2, m3, m4, m5]) =
                (32 : Nat) ∧
               optP
                (ndG
                 ([(135 : UInt8), (0 : UInt8), (0 : UInt8), (0 : UInt8), (0 : UInt8), (0 : UInt8), (0 : UInt8),
                     (0 : UInt8)] ++
                    b ++
                   [(1 : UInt8), (1 : UInt8)] ++
                  [m0, m1, m2, m3, m4, m5])
                 (Mc.mk m0 m1 m2 m3 m4 m5)
                 (Mc.mk (51 : UInt8) (51 : UInt8) (255 : UInt8) (List.getD b (13 : Nat) (0 : UInt8))
                  (List.getD b (14 : Nat) (0 : UInt8)) (List.getD b (15 : Nat) (0 : UInt8)))
                 a (nbNear b))
                (fun x =>
                 K (AVal.tup [AVal.sl (0 : Nat) (0 : Nat) (List.length x) (1 : Nat), AVal.int IntKind.i64 (0 : Int)])
                  [ABlk.bytes x])
                (K (AVal.tup [AVal.nilS, AVal.int IntKind.i64 (1 : Int)]) []))))
      (K (AVal.tup [AVal.nilS, AVal.int IntKind.i64 (1 : Int)]) [])))
    (K (AVal.tup [AVal.nilS, AVal.int IntKind.i64 (1 : Int)]) [])) := by kernel_rfl
theorem outriderref04_Ask_p : ∀ args H K, askRow args H K → fnP Try.prog Tnb21 ann_outriderref04_Ask Try.f16 args H K := by
  intro args H K h
  unfold askRow at h
  split at h
  · rename_i m0 m1 m2 m3 m4 m5 a b
    rw [ref04_Ask_eq]
    revert h; intro hK
    have hB := nbArp_is 1 ⟨m0, m1, m2, m3, m4, m5⟩ ⟨0, 0, 0, 0, 0, 0⟩ a b
    have hN := nbBody_is 135 0 1 b ⟨m0, m1, m2, m3, m4, m5⟩
    simp only at hB hN
    rcases nbAsk_cases ⟨m0, m1, m2, m3, m4, m5⟩ a b with ⟨h1, e⟩ | ⟨h1, e⟩ | ⟨h1, e⟩ <;> rw [e] at hK
    · simp only [List.length_append, List.length_cons, List.length_nil, hB, hN]
      repeat' first | (refine And.intro (by first | first | omega | with_reducible exact i64_x256 _ | with_reducible exact i64_w16 _ _ | with_reducible exact i64_sum _ | (repeat' first | with_reducible exact i64_x256 _ | with_reducible exact i64_w16 _ _ | with_reducible exact i64_sum _ | with_reducible apply And.intro) <;> first | omega | (simp only [I64]; omega) | (simp; omega) | (simp; done) | (simp [I64]; omega) | (with_reducible refine impP_i (fun hg => ?_) <;> (try simp only [Bool.and_eq_true, Bool.or_eq_true, Bool.and_eq_false_iff, Bool.or_eq_false_iff, decide_eq_true_eq, decide_eq_false_iff_not, Bool.not_eq_true', Bool.not_eq_false', Bool.not_true, Bool.not_false, Bool.true_and, Bool.and_true, Bool.false_or, Bool.or_false, beq_iff_eq, beq_eq_false_iff_ne, ne_eq] at hg) <;> (first | omega | with_reducible exact i64_x256 _ | with_reducible exact i64_w16 _ _ | with_reducible exact i64_sum _ | (repeat' first | with_reducible exact i64_x256 _ | with_reducible exact i64_w16 _ _ | with_reducible exact i64_sum _ | with_reducible apply And.intro) <;> first | omega | (simp only [I64]; omega) | (simp; omega) | (simp; done) | (simp [I64]; omega)))) ?_) | (refine brP_d (fun h => ?_) (fun h => ?_)) | (refine brP_nd (fun h => ?_) (fun h => ?_)) | (refine brP_i (fun h => ?_) (fun h => ?_) <;> (try simp only [Bool.and_eq_true, Bool.or_eq_true, Bool.and_eq_false_iff, Bool.or_eq_false_iff, decide_eq_true_eq, decide_eq_false_iff_not, Bool.not_eq_true', Bool.not_eq_false', Bool.not_true, Bool.not_false, Bool.true_and, Bool.and_true, Bool.false_or, Bool.or_false, beq_iff_eq, beq_eq_false_iff_ne, ne_eq] at h))
      all_goals first | exact hK | (exfalso; omega) | (exact absurd trivial h)
    · have hlen := nbBody_len (kind := 135) (flags := 0) (opt := 1) (target := b) (m := ⟨m0, m1, m2, m3, m4, m5⟩) (s := 0) (by omega)
      simp only [hB, hN, ndG_eq (show b.length = 16 by omega), hlen]
      simp only [List.length_append, List.length_cons, List.length_nil]
      try rw [near_many (by omega)] at hK
      try rw [every_many] at hK
      repeat' first | (refine And.intro (by first | first | omega | with_reducible exact i64_x256 _ | with_reducible exact i64_w16 _ _ | with_reducible exact i64_sum _ | (repeat' first | with_reducible exact i64_x256 _ | with_reducible exact i64_w16 _ _ | with_reducible exact i64_sum _ | with_reducible apply And.intro) <;> first | omega | (simp only [I64]; omega) | (simp; omega) | (simp; done) | (simp [I64]; omega) | (with_reducible refine impP_i (fun hg => ?_) <;> (try simp only [Bool.and_eq_true, Bool.or_eq_true, Bool.and_eq_false_iff, Bool.or_eq_false_iff, decide_eq_true_eq, decide_eq_false_iff_not, Bool.not_eq_true', Bool.not_eq_false', Bool.not_true, Bool.not_false, Bool.true_and, Bool.and_true, Bool.false_or, Bool.or_false, beq_iff_eq, beq_eq_false_iff_ne, ne_eq] at hg) <;> (first | omega | with_reducible exact i64_x256 _ | with_reducible exact i64_w16 _ _ | with_reducible exact i64_sum _ | (repeat' first | with_reducible exact i64_x256 _ | with_reducible exact i64_w16 _ _ | with_reducible exact i64_sum _ | with_reducible apply And.intro) <;> first | omega | (simp only [I64]; omega) | (simp; omega) | (simp; done) | (simp [I64]; omega)))) ?_) | (refine brP_d (fun h => ?_) (fun h => ?_)) | (refine brP_nd (fun h => ?_) (fun h => ?_)) | (refine brP_i (fun h => ?_) (fun h => ?_) <;> (try simp only [Bool.and_eq_true, Bool.or_eq_true, Bool.and_eq_false_iff, Bool.or_eq_false_iff, decide_eq_true_eq, decide_eq_false_iff_not, Bool.not_eq_true', Bool.not_eq_false', Bool.not_true, Bool.not_false, Bool.true_and, Bool.and_true, Bool.false_or, Bool.or_false, beq_iff_eq, beq_eq_false_iff_ne, ne_eq] at h))
      all_goals first | exact hK | (exfalso; omega) | (exact absurd trivial h)
    · simp only [hB, hN]
      have hal : (nbArpB 1 ⟨m0, m1, m2, m3, m4, m5⟩ a ⟨0, 0, 0, 0, 0, 0⟩ b).length = 28 := by unfold nbArpB Mc.bytes; simp; omega
      simp only [hal, List.length_append, List.length_cons, List.length_nil]
      repeat' first | (refine And.intro (by first | first | omega | with_reducible exact i64_x256 _ | with_reducible exact i64_w16 _ _ | with_reducible exact i64_sum _ | (repeat' first | with_reducible exact i64_x256 _ | with_reducible exact i64_w16 _ _ | with_reducible exact i64_sum _ | with_reducible apply And.intro) <;> first | omega | (simp only [I64]; omega) | (simp; omega) | (simp; done) | (simp [I64]; omega) | (with_reducible refine impP_i (fun hg => ?_) <;> (try simp only [Bool.and_eq_true, Bool.or_eq_true, Bool.and_eq_false_iff, Bool.or_eq_false_iff, decide_eq_true_eq, decide_eq_false_iff_not, Bool.not_eq_true', Bool.not_eq_false', Bool.not_true, Bool.not_false, Bool.true_and, Bool.and_true, Bool.false_or, Bool.or_false, beq_iff_eq, beq_eq_false_iff_ne, ne_eq] at hg) <;> (first | omega | with_reducible exact i64_x256 _ | with_reducible exact i64_w16 _ _ | with_reducible exact i64_sum _ | (repeat' first | with_reducible exact i64_x256 _ | with_reducible exact i64_w16 _ _ | with_reducible exact i64_sum _ | with_reducible apply And.intro) <;> first | omega | (simp only [I64]; omega) | (simp; omega) | (simp; done) | (simp [I64]; omega)))) ?_) | (refine brP_d (fun h => ?_) (fun h => ?_)) | (refine brP_nd (fun h => ?_) (fun h => ?_)) | (refine brP_i (fun h => ?_) (fun h => ?_) <;> (try simp only [Bool.and_eq_true, Bool.or_eq_true, Bool.and_eq_false_iff, Bool.or_eq_false_iff, decide_eq_true_eq, decide_eq_false_iff_not, Bool.not_eq_true', Bool.not_eq_false', Bool.not_true, Bool.not_false, Bool.true_and, Bool.and_true, Bool.false_or, Bool.or_false, beq_iff_eq, beq_eq_false_iff_ne, ne_eq] at h))
      all_goals first | exact hK | (exfalso; omega) | (exact absurd trivial h)
  · exact h.elim
def Tnb22 : Specs := ext Tnb21 16 (askRow)
theorem Tnb22_sound : TSound Try.prog Tnb22 := ext_sound Tnb21_sound (row_of Tnb21_sound mixed Try.func16 (by decide +kernel) outriderref04_Ask_p)
abbrev Tnb23 : Specs := Tnb22
theorem Tnb23_sound : TSound Try.prog Tnb23 := Tnb22_sound
abbrev Tnb24 : Specs := Tnb23
theorem Tnb24_sound : TSound Try.prog Tnb24 := Tnb23_sound
def ann_neigh_Read : Nat → List Nat × Nat × List (List Nat)
  | _ => ([], 0, [])
set_option maxRecDepth 100000 in
theorem neigh_Read_eq (a0 a1 a2 a3 a4 a5 b0 b1 b2 b3 b4 b5 : UInt8) (ty : Int) (b : List UInt8) (K : AVal → Hp → Prop) : fnP Try.prog Tnb24 ann_neigh_Read Try.f53 [.agg [.byte a0, .byte a1, .byte a2, .byte a3, .byte a4, .byte a5, .byte b0, .byte b1, .byte b2, .byte b3, .byte b4, .byte b5, .int .i64 ty, .str b]] [] K = (
  brP (decide (ty = (2054 : Int)))
    (List.length b ≤ (140737488351232 : Nat) ∧
     K
      (AVal.tup
       [AVal.agg
         [AVal.int IntKind.i64 (nbReadArp b).fst.kind, AVal.byte (nbReadArp b).fst.mac.a0,
          AVal.byte (nbReadArp b).fst.mac.a1, AVal.byte (nbReadArp b).fst.mac.a2, AVal.byte (nbReadArp b).fst.mac.a3,
          AVal.byte (nbReadArp b).fst.mac.a4, AVal.byte (nbReadArp b).fst.mac.a5, AVal.str (nbReadArp b).fst.addr,
          AVal.str (nbReadArp b).fst.target, AVal.bool (nbReadArp b).fst.asked],
        AVal.int IntKind.i64 (nbReadArp b).snd])
      [])
    (brP (decide (ty = (34525 : Int)))
     (List.length b ≤ (140737488351232 : Nat) ∧
      K
       (AVal.tup
        [AVal.agg
          [AVal.int IntKind.i64 (nbReadNd b).fst.kind, AVal.byte (nbReadNd b).fst.mac.a0,
           AVal.byte (nbReadNd b).fst.mac.a1, AVal.byte (nbReadNd b).fst.mac.a2, AVal.byte (nbReadNd b).fst.mac.a3,
           AVal.byte (nbReadNd b).fst.mac.a4, AVal.byte (nbReadNd b).fst.mac.a5, AVal.str (nbReadNd b).fst.addr,
           AVal.str (nbReadNd b).fst.target, AVal.bool (nbReadNd b).fst.asked],
         AVal.int IntKind.i64 (nbReadNd b).snd])
       [])
     (K
      (AVal.tup
       [AVal.agg
         [AVal.int IntKind.i64 (0 : Int), AVal.byte (0 : UInt8), AVal.byte (0 : UInt8), AVal.byte (0 : UInt8),
          AVal.byte (0 : UInt8), AVal.byte (0 : UInt8), AVal.byte (0 : UInt8), AVal.str [], AVal.str [], AVal.bool false],
        AVal.int IntKind.i64 (40 : Int)])
      []))) := by kernel_rfl
theorem neigh_Read_p : ∀ args H K, readRow args H K → fnP Try.prog Tnb24 ann_neigh_Read Try.f53 args H K := by
  intro args H K h
  unfold readRow at h
  split at h
  · obtain ⟨hl, hK⟩ := h
    rw [neigh_Read_eq]
    unfold nbRead at hK
    simp only at hK
    refine brP_d (fun h => ⟨hl, ?_⟩) (fun h => ?_)
    · rw [if_pos h] at hK; exact hK
    rw [if_neg h] at hK
    refine brP_d (fun h => ⟨hl, ?_⟩) (fun h => ?_)
    · rw [if_pos h] at hK; exact hK
    · rw [if_neg h] at hK; exact hK
  · exact h.elim
def Tnb25 : Specs := ext Tnb24 53 (readRow)
theorem Tnb25_sound : TSound Try.prog Tnb25 := ext_sound Tnb24_sound (row_of Tnb24_sound mixed Try.func53 (by decide +kernel) neigh_Read_p)
abbrev Tnb : Specs := Tnb25
theorem Tnb_sound : TSound Try.prog Tnb := Tnb25_sound
end Go.Proofs.Ytnbbaemijogeoaa.Ae

