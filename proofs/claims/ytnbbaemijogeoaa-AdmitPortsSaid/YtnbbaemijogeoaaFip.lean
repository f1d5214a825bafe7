/- Chapter 3's functions as a table. -/
import Derived.Test.YtnbbaemijogeoaaFck
import Derived.Test.YtnbbaemijogeoaaMip
set_option linter.unusedSimpArgs false
set_option linter.unusedVariables false
namespace Go.Proofs.Ytnbbaemijogeoaa.Ae
open Go
attribute [local irreducible] I64

/-- bytes to a packet -/
def ipRow (f : List UInt8 → Ip × Int) : Srow := fun args H K => match args, H with
  | [.roB l], [] => K (.tup [.agg [.str (f l).1.src, .str (f l).1.dst, .int .i64 (f l).1.proto, .int .i64 (f l).1.ttl, .str (f l).1.body], .int .i64 (f l).2]) []
  | [.nilS], [] => K (.tup [.agg [.str (f []).1.src, .str (f []).1.dst, .int .i64 (f []).1.proto, .int .i64 (f []).1.ttl, .str (f []).1.body], .int .i64 (f []).2]) []
  | _, _ => False
def ipRow' (f : List UInt8 → Ip × Int) : Srow := fun args H K => match args, H with
  | [.roB l], [] => K (.tup [.agg [.str (f l).1.src, .str (f l).1.dst, .int .i64 (f l).1.proto, .int .i64 (f l).1.ttl, .str (f l).1.body], .int .i64 (f l).2]) []
  | _, _ => False
def ipRowB (f : List UInt8 → Ip × Int) : Srow := fun args H K => match args, H with
  | [.roB l], [] => l.length ≤ 140737488355328 ∧ K (.tup [.agg [.str (f l).1.src, .str (f l).1.dst, .int .i64 (f l).1.proto, .int .i64 (f l).1.ttl, .str (f l).1.body], .int .i64 (f l).2]) []
  | [.nilS], [] => K (.tup [.agg [.str (f []).1.src, .str (f []).1.dst, .int .i64 (f []).1.proto, .int .i64 (f []).1.ttl, .str (f []).1.body], .int .i64 (f []).2]) []
  | _, _ => False
def ipRowB' (f : List UInt8 → Ip × Int) : Srow := fun args H K => match args, H with
  | [.roB l], [] => l.length ≤ 140737488355328 ∧ K (.tup [.agg [.str (f l).1.src, .str (f l).1.dst, .int .i64 (f l).1.proto, .int .i64 (f l).1.ttl, .str (f l).1.body], .int .i64 (f l).2]) []
  | _, _ => False
/-- a packet to bytes -/
def ipEncRow : Srow := fun args H K => match args, H with
  | [.agg [.str f, .str t, .int .i64 p, .int .i64 q, .str b]], [] => optP (ipEncode ⟨f, t, p, q, b⟩) (fun l => K (.tup [.sl 0 0 l.length 1, .int .i64 0]) [.bytes l]) (K (.tup [.nilS, .int .i64 1]) [])
  | _, _ => False
def pseudoRow : Srow := fun args H K => match args, H with
  | [.str f, .str t, .int .i64 p, .int .i64 n], [] => optP (pseudo f t p n) (fun l => K (.sl 0 0 l.length 1) [.bytes l]) (K .nilS [])
  | _, _ => False
def ann_ipv_Six : Nat → List Nat × Nat × List (List Nat)
  | _ => ([], 0, [])
def Tip1 : Specs := ext Tck 34 (fnP Try.prog Tck ann_ipv_Six Try.f34)
theorem Tip1_sound : TSound Try.prog Tip1 := ext_sound Tck_sound (fn_row Tck_sound mixed Try.func34 (by decide +kernel))
def ann_ipv_Right : Nat → List Nat × Nat × List (List Nat)
  | _ => ([], 0, [])
def Tip2 : Specs := ext Tip1 59 (fnP Try.prog Tip1 ann_ipv_Right Try.f59)
theorem Tip2_sound : TSound Try.prog Tip2 := ext_sound Tip1_sound (fn_row Tip1_sound mixed Try.func59 (by decide +kernel))
abbrev Tip3 : Specs := Tip2
theorem Tip3_sound : TSound Try.prog Tip3 := Tip2_sound
abbrev Tip4 : Specs := Tip3
theorem Tip4_sound : TSound Try.prog Tip4 := Tip3_sound
def ann_ipv_two : Nat → List Nat × Nat × List (List Nat)
  | 1 => ([], 10, [[], [0], [0, 1], [0, 1, 2], [0, 1, 2, 3], [], [5], [5, 6], [5, 6, 7], [0, 1, 2, 3, 4, 5, 6, 7, 8]])
  | _ => ([], 0, [])
def Tip5 : Specs := ext Tip4 82 (fnP Try.prog Tip4 ann_ipv_two Try.f82)
theorem Tip5_sound : TSound Try.prog Tip5 := ext_sound Tip4_sound (fn_row Tip4_sound mixed Try.func82 (by decide +kernel))
def ann_outriderref03_Right : Nat → List Nat × Nat × List (List Nat)
  | _ => ([], 0, [])
def Tip6 : Specs := ext Tip5 49 (fnP Try.prog Tip5 ann_outriderref03_Right Try.f49)
theorem Tip6_sound : TSound Try.prog Tip6 := ext_sound Tip5_sound (fn_row Tip5_sound mixed Try.func49 (by decide +kernel))
def lowRow : Srow := fun args H K => match args, H with
  | [.int .i64 n, .int .i64 1], [] => K (.sl 0 0 1 1) [.bytes [b8 n]]
  | [.int .i64 n, .int .i64 2], [] => K (.sl 0 0 2 1) [.bytes [b8 (n / 256), b8 n]]
  | [.int .i64 n, .int .i64 4], [] => K (.sl 0 0 4 1) [.bytes [b8 (n / 16777216), b8 (n / 65536), b8 (n / 256), b8 n]]
  | _, _ => False
def ann_outriderref03_low : Nat → List Nat × Nat × List (List Nat)
  | 3 => ([0, 1, 5, 6], 0, [])
  | 1000003 => ([], 6, [])
  | _ => ([], 0, [])
set_option maxRecDepth 100000 in
theorem ref03_low_1 (n : Int) (K : AVal → Hp → Prop) : fnP Try.prog Tip6 ann_outriderref03_low Try.f79 [.int .i64 n, .int .i64 1] [] K = (
  ((0 : Int) ≤ (1 : Int) ∧ (1 : Int) = (1 : Int) ∧ (1 : Int) ≤ (140737488355328 : Int)) ∧
    I64 (0 : Int) ∧
     I64 (0 : Int) ∧
      ((0 : Int) ≤ (0 : Int) ∧ (0 : Int) < (1 : Int)) ∧
       (0 : Nat) < (1 : Nat) ∧
        ((0 : Int) ≤ (8 : Int) ∧ (8 : Nat) < (64 : Nat)) ∧
         I64 (1 : Int) ∧
          K (AVal.sl (0 : Nat) (0 : Nat) (1 : Nat) (1 : Nat))
           [ABlk.bytes (List.set [(0 : UInt8)] (0 : Nat) (b8 (bits BinOp.and IntKind.i64 n (255 : Int))))]) := by kernel_rfl
set_option maxRecDepth 100000 in
theorem ref03_low_2 (n : Int) (K : AVal → Hp → Prop) : fnP Try.prog Tip6 ann_outriderref03_low Try.f79 [.int .i64 n, .int .i64 2] [] K = (
  ((0 : Int) ≤ (2 : Int) ∧ (2 : Int) = (2 : Int) ∧ (2 : Int) ≤ (140737488355328 : Int)) ∧
    I64 (1 : Int) ∧
     I64 (1 : Int) ∧
      ((0 : Int) ≤ (1 : Int) ∧ (1 : Int) < (2 : Int)) ∧
       (1 : Nat) < (2 : Nat) ∧
        ((0 : Int) ≤ (8 : Int) ∧ (8 : Nat) < (64 : Nat)) ∧
         I64 (1 : Int) ∧
          I64 (1 : Int) ∧
           I64 (0 : Int) ∧
            ((0 : Int) ≤ (0 : Int) ∧ (0 : Int) < (2 : Int)) ∧
             (0 : Nat) < (2 : Nat) ∧
              ((0 : Int) ≤ (8 : Int) ∧ (8 : Nat) < (64 : Nat)) ∧
               I64 (2 : Int) ∧
                K (AVal.sl (0 : Nat) (0 : Nat) (2 : Nat) (1 : Nat))
                 [ABlk.bytes
                   (List.set
                    (List.set [(0 : UInt8), (0 : UInt8)] (1 : Nat) (b8 (bits BinOp.and IntKind.i64 n (255 : Int))))
                    (0 : Nat) (b8 (bits BinOp.and IntKind.i64 (n / (256 : Int)) (255 : Int))))]) := by kernel_rfl
set_option maxRecDepth 100000 in
theorem ref03_low_4 (n : Int) (K : AVal → Hp → Prop) : fnP Try.prog Tip6 ann_outriderref03_low Try.f79 [.int .i64 n, .int .i64 4] [] K = (
  ((0 : Int) ≤ (4 : Int) ∧ (4 : Int) = (4 : Int) ∧ (4 : Int) ≤ (140737488355328 : Int)) ∧
    I64 (3 : Int) ∧
     I64 (3 : Int) ∧
      ((0 : Int) ≤ (3 : Int) ∧ (3 : Int) < (4 : Int)) ∧
       (3 : Nat) < (4 : Nat) ∧
        ((0 : Int) ≤ (8 : Int) ∧ (8 : Nat) < (64 : Nat)) ∧
         I64 (1 : Int) ∧
          I64 (3 : Int) ∧
           I64 (2 : Int) ∧
            ((0 : Int) ≤ (2 : Int) ∧ (2 : Int) < (4 : Int)) ∧
             (2 : Nat) < (4 : Nat) ∧
              ((0 : Int) ≤ (8 : Int) ∧ (8 : Nat) < (64 : Nat)) ∧
               I64 (2 : Int) ∧
                I64 (3 : Int) ∧
                 I64 (1 : Int) ∧
                  ((0 : Int) ≤ (1 : Int) ∧ (1 : Int) < (4 : Int)) ∧
                   (1 : Nat) < (4 : Nat) ∧
                    ((0 : Int) ≤ (8 : Int) ∧ (8 : Nat) < (64 : Nat)) ∧
                     I64 (3 : Int) ∧
                      I64 (3 : Int) ∧
                       I64 (0 : Int) ∧
                        ((0 : Int) ≤ (0 : Int) ∧ (0 : Int) < (4 : Int)) ∧
                         (0 : Nat) < (4 : Nat) ∧
                          ((0 : Int) ≤ (8 : Int) ∧ (8 : Nat) < (64 : Nat)) ∧
                           I64 (4 : Int) ∧
                            K (AVal.sl (0 : Nat) (0 : Nat) (4 : Nat) (1 : Nat))
                             [ABlk.bytes
                               (List.set
                                (List.set
                                 (List.set
                                  (List.set [(0 : UInt8), (0 : UInt8), (0 : UInt8), (0 : UInt8)] (3 : Nat)
                                   (b8 (bits BinOp.and IntKind.i64 n (255 : Int))))
                                  (2 : Nat) (b8 (bits BinOp.and IntKind.i64 (n / (256 : Int)) (255 : Int))))
                                 (1 : Nat) (b8 (bits BinOp.and IntKind.i64 (n / (256 : Int) / (256 : Int)) (255 : Int))))
                                (0 : Nat)
                                (b8
                                 (bits BinOp.and IntKind.i64 (n / (256 : Int) / (256 : Int) / (256 : Int)) (255 : Int))))]) := by kernel_rfl
theorem outriderref03_low_p : ∀ args H K, lowRow args H K → fnP Try.prog Tip6 ann_outriderref03_low Try.f79 args H K := by
  intro args H K h
  unfold lowRow at h
  split at h
  · rw [ref03_low_1]
    simp only [or_w16, div2, div3, add_w16, and255, b8_mod, List.set_cons_zero, List.set_cons_succ, andNot_4000, getD_drop, getD_take, b8_byte, b8_toNatN, UInt8.toNat_ofNat', UInt8.toNat_and, nat_mask4, u8_eq_iff, UInt8.reduceToNat, Int.reduceLT, List.take_succ_cons, List.take_zero, List.drop_zero, List.flatten_cons, List.flatten_nil, List.append_nil, Nat.mul_one, Nat.zero_add, Nat.reduceAdd, Nat.reduceLT]
    repeat' first
      | (refine And.intro (by first | omega | with_reducible exact i64_x256 _ | with_reducible exact i64_w16 _ _ | with_reducible exact i64_sum _ | (repeat' first | with_reducible exact i64_x256 _ | with_reducible exact i64_w16 _ _ | with_reducible exact i64_sum _ | with_reducible apply And.intro) <;> first | omega | (simp only [I64]; omega) | (simp; omega) | (simp; done) | (simp [I64]; omega)) ?_)
      | (refine brP_d (fun h => ?_) (fun h => ?_))
      | (refine brP_nd (fun h => ?_) (fun h => ?_))
      | (refine brP_i (fun h => ?_) (fun h => ?_))
    exact h
  · rw [ref03_low_2]
    simp only [or_w16, div2, div3, add_w16, and255, b8_mod, List.set_cons_zero, List.set_cons_succ, andNot_4000, getD_drop, getD_take, b8_byte, b8_toNatN, UInt8.toNat_ofNat', UInt8.toNat_and, nat_mask4, u8_eq_iff, UInt8.reduceToNat, Int.reduceLT, List.take_succ_cons, List.take_zero, List.drop_zero, List.flatten_cons, List.flatten_nil, List.append_nil, Nat.mul_one, Nat.zero_add, Nat.reduceAdd, Nat.reduceLT]
    repeat' first
      | (refine And.intro (by first | omega | with_reducible exact i64_x256 _ | with_reducible exact i64_w16 _ _ | with_reducible exact i64_sum _ | (repeat' first | with_reducible exact i64_x256 _ | with_reducible exact i64_w16 _ _ | with_reducible exact i64_sum _ | with_reducible apply And.intro) <;> first | omega | (simp only [I64]; omega) | (simp; omega) | (simp; done) | (simp [I64]; omega)) ?_)
      | (refine brP_d (fun h => ?_) (fun h => ?_))
      | (refine brP_nd (fun h => ?_) (fun h => ?_))
      | (refine brP_i (fun h => ?_) (fun h => ?_))
    exact h
  · rw [ref03_low_4]
    simp only [or_w16, div2, div3, add_w16, and255, b8_mod, List.set_cons_zero, List.set_cons_succ, andNot_4000, getD_drop, getD_take, b8_byte, b8_toNatN, UInt8.toNat_ofNat', UInt8.toNat_and, nat_mask4, u8_eq_iff, UInt8.reduceToNat, Int.reduceLT, List.take_succ_cons, List.take_zero, List.drop_zero, List.flatten_cons, List.flatten_nil, List.append_nil, Nat.mul_one, Nat.zero_add, Nat.reduceAdd, Nat.reduceLT]
    repeat' first
      | (refine And.intro (by first | omega | with_reducible exact i64_x256 _ | with_reducible exact i64_w16 _ _ | with_reducible exact i64_sum _ | (repeat' first | with_reducible exact i64_x256 _ | with_reducible exact i64_w16 _ _ | with_reducible exact i64_sum _ | with_reducible apply And.intro) <;> first | omega | (simp only [I64]; omega) | (simp; omega) | (simp; done) | (simp [I64]; omega)) ?_)
      | (refine brP_d (fun h => ?_) (fun h => ?_))
      | (refine brP_nd (fun h => ?_) (fun h => ?_))
      | (refine brP_i (fun h => ?_) (fun h => ?_))
    exact h
  · exact h.elim
def Tip7 : Specs := ext Tip6 79 (lowRow)
theorem Tip7_sound : TSound Try.prog Tip7 := ext_sound Tip6_sound (row_of Tip6_sound mixed Try.func79 (by decide +kernel) outriderref03_low_p)
def ann_ipv_four : Nat → List Nat × Nat × List (List Nat)
  | 3 => ([], 5, [[], [0], [], [2], [2, 3]])
  | 12 => ([], 20, [[], [0], [0, 1], [], [3], [3, 4], [], [6], [6, 7], [6, 7, 8], [], [10], [10, 11], [10, 11, 12], [], [], [], [14, 15, 16], [14, 15, 16, 17], [0, 1, 2, 3, 4, 5, 6, 7, 8, 9, 10, 11, 12, 13, 14, 15, 16, 17, 18]])
  | _ => ([], 0, [])
set_option maxRecDepth 100000 in
theorem ipv_four_eq (l : List UInt8) (K : AVal → Hp → Prop) : fnP Try.prog Tip7 ann_ipv_four Try.f55 [.roB l] [] K = (
  brP (decide ((↑(List.length l) : Int) < (20 : Int)))
    (K
     (AVal.tup
      [AVal.agg [AVal.str [], AVal.str [], AVal.int IntKind.i64 (0 : Int), AVal.int IntKind.i64 (0 : Int), AVal.str []],
       AVal.int IntKind.i64 (30 : Int)])
     [])
    (((0 : Int) ≤ (20 : Int) ∧ (20 : Int) ≤ (20 : Int) ∧ (20 : Int) ≤ (↑(List.length l) : Int)) ∧
     ((0 : Int) ≤ (2 : Int) ∧ (2 : Int) ≤ (↑(List.length l) : Int)) ∧
      ((0 : Int) ≤ (0 : Int) ∧ (0 : Int) < (↑(List.length (List.drop (2 : Nat) l)) : Int)) ∧
       ((0 : Int) ≤ (8 : Int) ∧
         (8 : Int) < (64 : Int) ∧
          I64 ((↑(UInt8.toNat (List.getD (List.drop (2 : Nat) l) (0 : Nat) (0 : UInt8))) : Int) * (256 : Int))) ∧
        ((0 : Int) ≤ (1 : Int) ∧ (1 : Int) < (↑(List.length (List.drop (2 : Nat) l)) : Int)) ∧
         ((0 : Int) ≤ (0 : Int) ∧ (0 : Int) < (↑(List.length (List.take (20 : Nat) l)) : Int)) ∧
          brP (!decide (List.getD (List.take (20 : Nat) l) (0 : Nat) (0 : UInt8) &&& (15 : UInt8) = (5 : UInt8)))
           (K
            (AVal.tup
             [AVal.agg
               [AVal.str [], AVal.str [], AVal.int IntKind.i64 (0 : Int), AVal.int IntKind.i64 (0 : Int), AVal.str []],
              AVal.int IntKind.i64 (32 : Int)])
            [])
           (brP
            (decide
             (bits BinOp.or IntKind.i64
               ((↑(UInt8.toNat (List.getD (List.drop (2 : Nat) l) (0 : Nat) (0 : UInt8))) : Int) * (256 : Int))
               (↑(UInt8.toNat (List.getD (List.drop (2 : Nat) l) (1 : Nat) (0 : UInt8))) : Int) <
              (20 : Int)))
            (K
             (AVal.tup
              [AVal.agg
                [AVal.str [], AVal.str [], AVal.int IntKind.i64 (0 : Int), AVal.int IntKind.i64 (0 : Int), AVal.str []],
               AVal.int IntKind.i64 (33 : Int)])
             [])
            (brP
             (decide
              ((↑(List.length l) : Int) <
               bits BinOp.or IntKind.i64
                ((↑(UInt8.toNat (List.getD (List.drop (2 : Nat) l) (0 : Nat) (0 : UInt8))) : Int) * (256 : Int))
                (↑(UInt8.toNat (List.getD (List.drop (2 : Nat) l) (1 : Nat) (0 : UInt8))) : Int)))
             (K
              (AVal.tup
               [AVal.agg
                 [AVal.str [], AVal.str [], AVal.int IntKind.i64 (0 : Int), AVal.int IntKind.i64 (0 : Int), AVal.str []],
                AVal.int IntKind.i64 (33 : Int)])
              [])
             (((1 : Nat) ≤ (1000 : Nat) ∧ List.length (List.flatten [List.take (20 : Nat) l]) ≤ (562949953421312 : Nat)) ∧
              brP (!sumB (List.flatten [List.take (20 : Nat) l]) == (65535 : Int))
               (K
                (AVal.tup
                 [AVal.agg
                   [AVal.str [], AVal.str [], AVal.int IntKind.i64 (0 : Int), AVal.int IntKind.i64 (0 : Int),
                    AVal.str []],
                  AVal.int IntKind.i64 (34 : Int)])
                [])
               (((0 : Int) ≤ (6 : Int) ∧ (6 : Int) ≤ (↑(List.length (List.take (20 : Nat) l)) : Int)) ∧
                ((0 : Int) ≤ (0 : Int) ∧
                  (0 : Int) < (↑(List.length (List.drop (6 : Nat) (List.take (20 : Nat) l))) : Int)) ∧
                 ((0 : Int) ≤ (8 : Int) ∧
                   (8 : Int) < (64 : Int) ∧
                    I64
                     ((↑(UInt8.toNat (List.getD (List.drop (6 : Nat) (List.take (20 : Nat) l)) (0 : Nat) (0 : UInt8))) :
                       Int) *
                      (256 : Int))) ∧
                  ((0 : Int) ≤ (1 : Int) ∧
                    (1 : Int) < (↑(List.length (List.drop (6 : Nat) (List.take (20 : Nat) l))) : Int)) ∧
                   brP
                    (!decide
                      (bits BinOp.andNot IntKind.i64
                        (bits BinOp.or IntKind.i64
                         ((↑(UInt8.toNat
                             (List.getD (List.drop (6 : Nat) (List.take (20 : Nat) l)) (0 : Nat) (0 : UInt8))) :
                           Int) *
                          (256 : Int))
                         (↑(UInt8.toNat
                            (List.getD (List.drop (6 : Nat) (List.take (20 : Nat) l)) (1 : Nat) (0 : UInt8))) :
                          Int))
                        (16384 : Int) =
                       (0 : Int)))
                    (K
                     (AVal.tup
                      [AVal.agg
                        [AVal.str [], AVal.str [], AVal.int IntKind.i64 (0 : Int), AVal.int IntKind.i64 (0 : Int),
                         AVal.str []],
                       AVal.int IntKind.i64 (32 : Int)])
                     [])
                    (((0 : Int) ≤ (12 : Int) ∧
                      (12 : Int) ≤ (16 : Int) ∧ (16 : Int) ≤ (↑(List.length (List.take (20 : Nat) l)) : Int)) ∧
                     ((0 : Int) ≤ (16 : Int) ∧ (16 : Int) ≤ (↑(List.length (List.take (20 : Nat) l)) : Int)) ∧
                      ((0 : Int) ≤ (9 : Int) ∧ (9 : Int) < (↑(List.length (List.take (20 : Nat) l)) : Int)) ∧
                       ((0 : Int) ≤ (8 : Int) ∧ (8 : Int) < (↑(List.length (List.take (20 : Nat) l)) : Int)) ∧
                        ((0 : Int) ≤ (20 : Int) ∧
                          (20 : Int) ≤
                            bits BinOp.or IntKind.i64
                             ((↑(UInt8.toNat (List.getD (List.drop (2 : Nat) l) (0 : Nat) (0 : UInt8))) : Int) *
                              (256 : Int))
                             (↑(UInt8.toNat (List.getD (List.drop (2 : Nat) l) (1 : Nat) (0 : UInt8))) : Int) ∧
                           bits BinOp.or IntKind.i64
                              ((↑(UInt8.toNat (List.getD (List.drop (2 : Nat) l) (0 : Nat) (0 : UInt8))) : Int) *
                               (256 : Int))
                              (↑(UInt8.toNat (List.getD (List.drop (2 : Nat) l) (1 : Nat) (0 : UInt8))) : Int) ≤
                             bits BinOp.or IntKind.i64
                              ((↑(UInt8.toNat (List.getD (List.drop (2 : Nat) l) (0 : Nat) (0 : UInt8))) : Int) *
                               (256 : Int))
                              (↑(UInt8.toNat (List.getD (List.drop (2 : Nat) l) (1 : Nat) (0 : UInt8))) : Int) ∧
                            bits BinOp.or IntKind.i64
                              ((↑(UInt8.toNat (List.getD (List.drop (2 : Nat) l) (0 : Nat) (0 : UInt8))) : Int) *
                               (256 : Int))
                              (↑(UInt8.toNat (List.getD (List.drop (2 : Nat) l) (1 : Nat) (0 : UInt8))) : Int) ≤
                             (↑(List.length l) : Int)) ∧
                         K
                          (AVal.tup
                           [AVal.agg
                             [AVal.str (List.drop (12 : Nat) (List.take (16 : Nat) (List.take (20 : Nat) l))),
                              AVal.str (List.drop (16 : Nat) (List.take (20 : Nat) l)),
                              AVal.int IntKind.i64
                               (↑(UInt8.toNat (List.getD (List.take (20 : Nat) l) (9 : Nat) (0 : UInt8))) : Int),
                              AVal.int IntKind.i64
                               (↑(UInt8.toNat (List.getD (List.take (20 : Nat) l) (8 : Nat) (0 : UInt8))) : Int),
                              AVal.str
                               (List.drop (20 : Nat)
                                (List.take
                                 (Int.toNat
                                  (bits BinOp.or IntKind.i64
                                   ((↑(UInt8.toNat (List.getD (List.drop (2 : Nat) l) (0 : Nat) (0 : UInt8))) : Int) *
                                    (256 : Int))
                                   (↑(UInt8.toNat (List.getD (List.drop (2 : Nat) l) (1 : Nat) (0 : UInt8))) : Int)))
                                 l))],
                            AVal.int IntKind.i64 (0 : Int)])
                          []))))))) := by kernel_rfl
theorem ipv_four_p : ∀ args H K, ipRow' ipDec4 args H K → fnP Try.prog Tip7 ann_ipv_four Try.f55 args H K := by
  intro args H K h
  unfold ipRow' at h
  split at h
  · rename_i l
    rw [ipv_four_eq]
    try simp only [or_w16, div2, div3, add_w16, and255, b8_mod, List.set_cons_zero, List.set_cons_succ, andNot_4000, getD_drop, getD_take, b8_byte, b8_toNatN, UInt8.toNat_ofNat', UInt8.toNat_and, nat_mask4, u8_eq_iff, UInt8.reduceToNat, Int.reduceLT, List.take_succ_cons, List.take_zero, List.drop_zero, List.flatten_cons, List.flatten_nil, List.append_nil, Nat.mul_one, Nat.zero_add, Nat.reduceAdd, Nat.reduceLT]
    revert h; intro hK
    repeat' first
      | (refine And.intro (by first | omega | with_reducible exact i64_x256 _ | with_reducible exact i64_w16 _ _ | with_reducible exact i64_sum _ | (repeat' first | with_reducible exact i64_x256 _ | with_reducible exact i64_w16 _ _ | with_reducible exact i64_sum _ | with_reducible apply And.intro) <;> first | omega | (simp only [I64]; omega) | (simp; omega) | (simp; done) | (simp [I64]; omega)) ?_)
      | (refine brP_d (fun h => ?_) (fun h => ?_))
      | (refine brP_nd (fun h => ?_) (fun h => ?_))
      | (refine brP_i (fun h => ?_) (fun h => ?_))
    all_goals unfold ipDec4 at hK
    all_goals try simp only [noIp] at hK
    all_goals repeat' split at hK
    all_goals first
      | exact hK
      | (exfalso; omega)
      | grind
  · exact h.elim
def Tip8 : Specs := ext Tip7 55 (ipRow' ipDec4)
theorem Tip8_sound : TSound Try.prog Tip8 := ext_sound Tip7_sound (row_of Tip7_sound mixed Try.func55 (by decide +kernel) ipv_four_p)
def ann_ipv_six : Nat → List Nat × Nat × List (List Nat)
  | 6 => ([], 20, [[], [0], [0, 1], [], [3], [3, 4], [], [6], [6, 7], [6, 7, 8], [], [10], [10, 11], [10, 11, 12], [], [], [], [14, 15, 16], [14, 15, 16, 17], [0, 1, 2, 3, 4, 5, 6, 7, 8, 9, 10, 11, 12, 13, 14, 15, 16, 17, 18]])
  | _ => ([], 0, [])
set_option maxRecDepth 100000 in
theorem ipv_six_eq (l : List UInt8) (K : AVal → Hp → Prop) : fnP Try.prog Tip8 ann_ipv_six Try.f54 [.roB l] [] K = (
  brP (decide ((↑(List.length l) : Int) < (40 : Int)))
    (K
     (AVal.tup
      [AVal.agg [AVal.str [], AVal.str [], AVal.int IntKind.i64 (0 : Int), AVal.int IntKind.i64 (0 : Int), AVal.str []],
       AVal.int IntKind.i64 (30 : Int)])
     [])
    (((0 : Int) ≤ (4 : Int) ∧ (4 : Int) ≤ (↑(List.length l) : Int)) ∧
     ((0 : Int) ≤ (0 : Int) ∧ (0 : Int) < (↑(List.length (List.drop (4 : Nat) l)) : Int)) ∧
      ((0 : Int) ≤ (8 : Int) ∧
        (8 : Int) < (64 : Int) ∧
         I64 ((↑(UInt8.toNat (List.getD (List.drop (4 : Nat) l) (0 : Nat) (0 : UInt8))) : Int) * (256 : Int))) ∧
       ((0 : Int) ≤ (1 : Int) ∧ (1 : Int) < (↑(List.length (List.drop (4 : Nat) l)) : Int)) ∧
        I64
          ((40 : Int) +
           bits BinOp.or IntKind.i64
            ((↑(UInt8.toNat (List.getD (List.drop (4 : Nat) l) (0 : Nat) (0 : UInt8))) : Int) * (256 : Int))
            (↑(UInt8.toNat (List.getD (List.drop (4 : Nat) l) (1 : Nat) (0 : UInt8))) : Int)) ∧
         brP
          (decide
           ((↑(List.length l) : Int) <
            (40 : Int) +
             bits BinOp.or IntKind.i64
              ((↑(UInt8.toNat (List.getD (List.drop (4 : Nat) l) (0 : Nat) (0 : UInt8))) : Int) * (256 : Int))
              (↑(UInt8.toNat (List.getD (List.drop (4 : Nat) l) (1 : Nat) (0 : UInt8))) : Int)))
          (K
           (AVal.tup
            [AVal.agg
              [AVal.str [], AVal.str [], AVal.int IntKind.i64 (0 : Int), AVal.int IntKind.i64 (0 : Int), AVal.str []],
             AVal.int IntKind.i64 (33 : Int)])
           [])
          (((0 : Int) ≤ (8 : Int) ∧
            (8 : Int) ≤ (24 : Int) ∧ (24 : Int) ≤ (24 : Int) ∧ (24 : Int) ≤ (↑(List.length l) : Int)) ∧
           ((0 : Int) ≤ (24 : Int) ∧
             (24 : Int) ≤ (40 : Int) ∧ (40 : Int) ≤ (40 : Int) ∧ (40 : Int) ≤ (↑(List.length l) : Int)) ∧
            ((0 : Int) ≤ (6 : Int) ∧ (6 : Int) < (↑(List.length l) : Int)) ∧
             ((0 : Int) ≤ (7 : Int) ∧ (7 : Int) < (↑(List.length l) : Int)) ∧
              ((0 : Int) ≤ (40 : Int) ∧
                (40 : Int) ≤
                  (40 : Int) +
                   bits BinOp.or IntKind.i64
                    ((↑(UInt8.toNat (List.getD (List.drop (4 : Nat) l) (0 : Nat) (0 : UInt8))) : Int) * (256 : Int))
                    (↑(UInt8.toNat (List.getD (List.drop (4 : Nat) l) (1 : Nat) (0 : UInt8))) : Int) ∧
                 (40 : Int) +
                    bits BinOp.or IntKind.i64
                     ((↑(UInt8.toNat (List.getD (List.drop (4 : Nat) l) (0 : Nat) (0 : UInt8))) : Int) * (256 : Int))
                     (↑(UInt8.toNat (List.getD (List.drop (4 : Nat) l) (1 : Nat) (0 : UInt8))) : Int) ≤
                   (40 : Int) +
                    bits BinOp.or IntKind.i64
                     ((↑(UInt8.toNat (List.getD (List.drop (4 : Nat) l) (0 : Nat) (0 : UInt8))) : Int) * (256 : Int))
                     (↑(UInt8.toNat (List.getD (List.drop (4 : Nat) l) (1 : Nat) (0 : UInt8))) : Int) ∧
                  (40 : Int) +
                    bits BinOp.or IntKind.i64
                     ((↑(UInt8.toNat (List.getD (List.drop (4 : Nat) l) (0 : Nat) (0 : UInt8))) : Int) * (256 : Int))
                     (↑(UInt8.toNat (List.getD (List.drop (4 : Nat) l) (1 : Nat) (0 : UInt8))) : Int) ≤
                   (↑(List.length l) : Int)) ∧
               K
                (AVal.tup
                 [AVal.agg
                   [AVal.str (List.drop (8 : Nat) (List.take (24 : Nat) l)),
                    AVal.str (List.drop (24 : Nat) (List.take (40 : Nat) l)),
                    AVal.int IntKind.i64 (↑(UInt8.toNat (List.getD l (6 : Nat) (0 : UInt8))) : Int),
                    AVal.int IntKind.i64 (↑(UInt8.toNat (List.getD l (7 : Nat) (0 : UInt8))) : Int),
                    AVal.str
                     (List.drop (40 : Nat)
                      (List.take
                       (Int.toNat
                        ((40 : Int) +
                         bits BinOp.or IntKind.i64
                          ((↑(UInt8.toNat (List.getD (List.drop (4 : Nat) l) (0 : Nat) (0 : UInt8))) : Int) * (256 : Int))
                          (↑(UInt8.toNat (List.getD (List.drop (4 : Nat) l) (1 : Nat) (0 : UInt8))) : Int)))
                       l))],
                  AVal.int IntKind.i64 (0 : Int)])
                []))) := by kernel_rfl
theorem ipv_six_p : ∀ args H K, ipRow' ipDec6 args H K → fnP Try.prog Tip8 ann_ipv_six Try.f54 args H K := by
  intro args H K h
  unfold ipRow' at h
  split at h
  · rename_i l
    rw [ipv_six_eq]
    try simp only [or_w16, div2, div3, add_w16, and255, b8_mod, List.set_cons_zero, List.set_cons_succ, andNot_4000, getD_drop, getD_take, b8_byte, b8_toNatN, UInt8.toNat_ofNat', UInt8.toNat_and, nat_mask4, u8_eq_iff, UInt8.reduceToNat, Int.reduceLT, List.take_succ_cons, List.take_zero, List.drop_zero, List.flatten_cons, List.flatten_nil, List.append_nil, Nat.mul_one, Nat.zero_add, Nat.reduceAdd, Nat.reduceLT]
    have hw := w16_bd (l.getD 4 0) (l.getD 5 0)
    revert h; intro hK
    repeat' first
      | (refine And.intro (by first | omega | with_reducible exact i64_x256 _ | with_reducible exact i64_w16 _ _ | with_reducible exact i64_sum _ | (repeat' first | with_reducible exact i64_x256 _ | with_reducible exact i64_w16 _ _ | with_reducible exact i64_sum _ | with_reducible apply And.intro) <;> first | omega | (simp only [I64]; omega) | (simp; omega) | (simp; done) | (simp [I64]; omega)) ?_)
      | (refine brP_d (fun h => ?_) (fun h => ?_))
      | (refine brP_nd (fun h => ?_) (fun h => ?_))
      | (refine brP_i (fun h => ?_) (fun h => ?_))
    all_goals unfold ipDec6 at hK
    all_goals try simp only [noIp] at hK
    all_goals repeat' split at hK
    all_goals first
      | exact hK
      | (exfalso; omega)
      | grind
  · exact h.elim
def Tip9 : Specs := ext Tip8 54 (ipRow' ipDec6)
theorem Tip9_sound : TSound Try.prog Tip9 := ext_sound Tip8_sound (row_of Tip8_sound mixed Try.func54 (by decide +kernel) ipv_six_p)
def ann_ipv_Decode : Nat → List Nat × Nat × List (List Nat)
  | _ => ([], 0, [])
set_option maxRecDepth 100000 in
theorem ipv_Decode_eq (l : List UInt8) (K : AVal → Hp → Prop) : fnP Try.prog Tip9 ann_ipv_Decode Try.f37 [.roB l] [] K = (
  brP (decide ((↑(List.length l) : Int) = (0 : Int)))
    (K
     (AVal.tup
      [AVal.agg [AVal.str [], AVal.str [], AVal.int IntKind.i64 (0 : Int), AVal.int IntKind.i64 (0 : Int), AVal.str []],
       AVal.int IntKind.i64 (30 : Int)])
     [])
    (((0 : Int) ≤ (0 : Int) ∧ (0 : Int) < (↑(List.length l) : Int)) ∧
     ((0 : Int) ≤ (4 : Int) ∧ (4 : Int) < (8 : Int)) ∧
      brP (decide (b8 ((↑(UInt8.toNat (List.getD l (0 : Nat) (0 : UInt8))) : Int) / (16 : Int)) = (4 : UInt8)))
       (K
        (AVal.tup
         [AVal.agg
           [AVal.str (ipDec4 l).fst.src, AVal.str (ipDec4 l).fst.dst, AVal.int IntKind.i64 (ipDec4 l).fst.proto,
            AVal.int IntKind.i64 (ipDec4 l).fst.ttl, AVal.str (ipDec4 l).fst.body],
          AVal.int IntKind.i64 (ipDec4 l).snd])
        [])
       (brP (decide (b8 ((↑(UInt8.toNat (List.getD l (0 : Nat) (0 : UInt8))) : Int) / (16 : Int)) = (6 : UInt8)))
        (K
         (AVal.tup
          [AVal.agg
            [AVal.str (ipDec6 l).fst.src, AVal.str (ipDec6 l).fst.dst, AVal.int IntKind.i64 (ipDec6 l).fst.proto,
             AVal.int IntKind.i64 (ipDec6 l).fst.ttl, AVal.str (ipDec6 l).fst.body],
           AVal.int IntKind.i64 (ipDec6 l).snd])
         [])
        (K
         (AVal.tup
          [AVal.agg
            [AVal.str [], AVal.str [], AVal.int IntKind.i64 (0 : Int), AVal.int IntKind.i64 (0 : Int), AVal.str []],
           AVal.int IntKind.i64 (31 : Int)])
         [])))) := by kernel_rfl
set_option maxRecDepth 100000 in
theorem ipv_Decode_nil  (K : AVal → Hp → Prop) : fnP Try.prog Tip9 ann_ipv_Decode Try.f37 [.nilS] [] K = (
  K
    (AVal.tup
     [AVal.agg [AVal.str [], AVal.str [], AVal.int IntKind.i64 (0 : Int), AVal.int IntKind.i64 (0 : Int), AVal.str []],
      AVal.int IntKind.i64 (30 : Int)])
    []) := by kernel_rfl
theorem ipv_Decode_p : ∀ args H K, ipRow ipDecode args H K → fnP Try.prog Tip9 ann_ipv_Decode Try.f37 args H K := by
  intro args H K h
  unfold ipRow at h
  split at h
  · rename_i l
    have hx := (l.getD 0 0).toNat_lt
    rw [ipv_Decode_eq]
    try simp only [or_w16, div2, div3, add_w16, and255, b8_mod, List.set_cons_zero, List.set_cons_succ, andNot_4000, getD_drop, getD_take, b8_byte, b8_toNatN, UInt8.toNat_ofNat', UInt8.toNat_and, nat_mask4, u8_eq_iff, UInt8.reduceToNat, Int.reduceLT, List.take_succ_cons, List.take_zero, List.drop_zero, List.flatten_cons, List.flatten_nil, List.append_nil, Nat.mul_one, Nat.zero_add, Nat.reduceAdd, Nat.reduceLT]
    revert h; intro hK
    repeat' first
      | (refine And.intro (by first | omega | with_reducible exact i64_x256 _ | with_reducible exact i64_w16 _ _ | with_reducible exact i64_sum _ | (repeat' first | with_reducible exact i64_x256 _ | with_reducible exact i64_w16 _ _ | with_reducible exact i64_sum _ | with_reducible apply And.intro) <;> first | omega | (simp only [I64]; omega) | (simp; omega) | (simp; done) | (simp [I64]; omega)) ?_)
      | (refine brP_d (fun h => ?_) (fun h => ?_))
      | (refine brP_nd (fun h => ?_) (fun h => ?_))
      | (refine brP_i (fun h => ?_) (fun h => ?_))
    all_goals unfold ipDecode at hK
    all_goals try simp only [noIp] at hK
    all_goals repeat' split at hK
    all_goals first
      | exact hK
      | (exfalso; omega)
      | grind
  · rw [ipv_Decode_nil]; exact h
  · exact h.elim
def Tip10 : Specs := ext Tip9 37 (ipRow ipDecode)
theorem Tip10_sound : TSound Try.prog Tip10 := ext_sound Tip9_sound (row_of Tip9_sound mixed Try.func37 (by decide +kernel) ipv_Decode_p)
abbrev Tip11 : Specs := Tip10
theorem Tip11_sound : TSound Try.prog Tip11 := Tip10_sound
def ann_ipv_Pseudo : Nat → List Nat × Nat × List (List Nat)
  | _ => ([], 0, [])
set_option maxRecDepth 100000 in
theorem ipv_Pseudo_eq (f t : List UInt8) (p n : Int) (K : AVal → Hp → Prop) : fnP Try.prog Tip11 ann_ipv_Pseudo Try.f65 [.str f, .str t, .int .i64 p, .int .i64 n] [] K = (
  brP (decide ((↑(List.length f) : Int) = (4 : Int)))
    (brP (!decide ((↑(List.length f) : Int) = (↑(List.length t) : Int))) (K AVal.nilS [])
     (List.length f ≤ (140737488355328 : Nat) ∧
      ((List.length f + List.length t) * (1 : Nat) ≤ (140737488355328 : Nat) ∧
        List.length f = List.length f * (1 : Nat)) ∧
       brP (decide ((↑(List.length f) : Int) = (16 : Int)))
        (((0 : Int) ≤ (24 : Int) ∧ (24 : Nat) < (64 : Nat)) ∧
         ((0 : Int) ≤ (16 : Int) ∧ (16 : Nat) < (64 : Nat)) ∧
          ((0 : Int) ≤ (8 : Int) ∧ (8 : Nat) < (64 : Nat)) ∧
           ((List.length f + List.length t + (8 : Nat)) * (1 : Nat) ≤ (140737488355328 : Nat) ∧
             List.length (f ++ t) = (List.length f + List.length t) * (1 : Nat)) ∧
            K (AVal.sl (0 : Nat) (0 : Nat) (List.length f + List.length t + (8 : Nat)) (1 : Nat))
             [ABlk.bytes
               (f ++ t ++
                List.take (8 : Nat)
                 (List.drop (0 : Nat)
                  [b8 (n / (16777216 : Int)), b8 (n / (65536 : Int)), b8 (n / (256 : Int)), b8 n, (0 : UInt8),
                   (0 : UInt8), (0 : UInt8), b8 p]))])
        (((0 : Int) ≤ (8 : Int) ∧ (8 : Nat) < (64 : Nat)) ∧
         ((List.length f + List.length t + (4 : Nat)) * (1 : Nat) ≤ (140737488355328 : Nat) ∧
           List.length (f ++ t) = (List.length f + List.length t) * (1 : Nat)) ∧
          K (AVal.sl (0 : Nat) (0 : Nat) (List.length f + List.length t + (4 : Nat)) (1 : Nat))
           [ABlk.bytes
             (f ++ t ++ List.take (4 : Nat) (List.drop (0 : Nat) [(0 : UInt8), b8 p, b8 (n / (256 : Int)), b8 n]))])))
    (brP (!decide ((↑(List.length f) : Int) = (16 : Int))) (K AVal.nilS [])
     (brP (!decide ((↑(List.length f) : Int) = (↑(List.length t) : Int))) (K AVal.nilS [])
      (List.length f ≤ (140737488355328 : Nat) ∧
       ((List.length f + List.length t) * (1 : Nat) ≤ (140737488355328 : Nat) ∧
         List.length f = List.length f * (1 : Nat)) ∧
        brP (decide ((↑(List.length f) : Int) = (16 : Int)))
         (((0 : Int) ≤ (24 : Int) ∧ (24 : Nat) < (64 : Nat)) ∧
          ((0 : Int) ≤ (16 : Int) ∧ (16 : Nat) < (64 : Nat)) ∧
           ((0 : Int) ≤ (8 : Int) ∧ (8 : Nat) < (64 : Nat)) ∧
            ((List.length f + List.length t + (8 : Nat)) * (1 : Nat) ≤ (140737488355328 : Nat) ∧
              List.length (f ++ t) = (List.length f + List.length t) * (1 : Nat)) ∧
             K (AVal.sl (0 : Nat) (0 : Nat) (List.length f + List.length t + (8 : Nat)) (1 : Nat))
              [ABlk.bytes
                (f ++ t ++
                 List.take (8 : Nat)
                  (List.drop (0 : Nat)
                   [b8 (n / (16777216 : Int)), b8 (n / (65536 : Int)), b8 (n / (256 : Int)), b8 n, (0 : UInt8),
                    (0 : UInt8), (0 : UInt8), b8 p]))])
         (((0 : Int) ≤ (8 : Int) ∧ (8 : Nat) < (64 : Nat)) ∧
          ((List.length f + List.length t + (4 : Nat)) * (1 : Nat) ≤ (140737488355328 : Nat) ∧
            List.length (f ++ t) = (List.length f + List.length t) * (1 : Nat)) ∧
           K (AVal.sl (0 : Nat) (0 : Nat) (List.length f + List.length t + (4 : Nat)) (1 : Nat))
            [ABlk.bytes
              (f ++ t ++ List.take (4 : Nat) (List.drop (0 : Nat) [(0 : UInt8), b8 p, b8 (n / (256 : Int)), b8 n]))]))))) := by kernel_rfl
theorem ipv_Pseudo_p : ∀ args H K, pseudoRow args H K → fnP Try.prog Tip11 ann_ipv_Pseudo Try.f65 args H K := by
  intro args H K h
  unfold pseudoRow at h
  split at h
  · rename_i f t p n
    rw [ipv_Pseudo_eq]
    try simp only [or_w16, div2, div3, add_w16, and255, b8_mod, List.set_cons_zero, List.set_cons_succ, andNot_4000, getD_drop, getD_take, b8_byte, b8_toNatN, UInt8.toNat_ofNat', UInt8.toNat_and, nat_mask4, u8_eq_iff, UInt8.reduceToNat, Int.reduceLT, List.take_succ_cons, List.take_zero, List.drop_zero, List.flatten_cons, List.flatten_nil, List.append_nil, Nat.mul_one, Nat.zero_add, Nat.reduceAdd, Nat.reduceLT]
    revert h; intro hK
    rcases pseudo_cases hK with ⟨h1, h2⟩ | ⟨h1, h2⟩
    · repeat' first
        | (refine And.intro (by first | omega | with_reducible exact i64_x256 _ | with_reducible exact i64_w16 _ _ | with_reducible exact i64_sum _ | (repeat' first | with_reducible exact i64_x256 _ | with_reducible exact i64_w16 _ _ | with_reducible exact i64_sum _ | with_reducible apply And.intro) <;> first | omega | (simp only [I64]; omega) | (simp; omega) | (simp; done) | (simp [I64]; omega)) ?_)
        | (refine brP_d (fun h => ?_) (fun h => ?_))
        | (refine brP_nd (fun h => ?_) (fun h => ?_))
        | (refine brP_i (fun h => ?_) (fun h => ?_))
      all_goals first
        | (exfalso; omega)
        | (rw [show pseudoB f t p n = f ++ t ++ [b8 (n / 16777216), b8 (n / 65536), b8 (n / 256), b8 n, 0, 0, 0, b8 p] from if_pos (by omega)] at h2
           refine endK_eq h2 ?_ ?_ <;> simp <;> omega)
        | (rw [show pseudoB f t p n = f ++ t ++ [0, b8 p, b8 (n / 256), b8 n] from if_neg (by omega)] at h2
           refine endK_eq h2 ?_ ?_ <;> simp <;> omega)
    · repeat' first
        | (refine And.intro (by first | omega | with_reducible exact i64_x256 _ | with_reducible exact i64_w16 _ _ | with_reducible exact i64_sum _ | (repeat' first | with_reducible exact i64_x256 _ | with_reducible exact i64_w16 _ _ | with_reducible exact i64_sum _ | with_reducible apply And.intro) <;> first | omega | (simp only [I64]; omega) | (simp; omega) | (simp; done) | (simp [I64]; omega)) ?_)
        | (refine brP_d (fun h => ?_) (fun h => ?_))
        | (refine brP_nd (fun h => ?_) (fun h => ?_))
        | (refine brP_i (fun h => ?_) (fun h => ?_))
      all_goals first
        | exact h2
        | (exfalso; omega)
  · exact h.elim
def Tip12 : Specs := ext Tip11 65 (pseudoRow)
theorem Tip12_sound : TSound Try.prog Tip12 := ext_sound Tip11_sound (row_of Tip11_sound mixed Try.func65 (by decide +kernel) ipv_Pseudo_p)
def ann_outriderref03_Pseudo : Nat → List Nat × Nat × List (List Nat)
  | _ => ([], 0, [])
set_option maxRecDepth 100000 in
theorem ref03_Pseudo_eq (f t : List UInt8) (p n : Int) (K : AVal → Hp → Prop) : fnP Try.prog Tip12 ann_outriderref03_Pseudo Try.f51 [.str f, .str t, .int .i64 p, .int .i64 n] [] K = (
  brP (decide ((↑(List.length f) : Int) = (4 : Int)))
    (brP (!decide ((↑(List.length f) : Int) = (↑(List.length t) : Int))) (K AVal.nilS [])
     (List.length f + List.length t ≤ (4611686018427387904 : Nat) ∧
      List.length (f ++ t) ≤ (140737488355328 : Nat) ∧
       brP (decide ((↑(List.length f) : Int) = (4 : Int)))
        (((List.length (f ++ t) + (1 : Nat)) * (1 : Nat) ≤ (140737488355328 : Nat) ∧
          List.length (f ++ t) = List.length (f ++ t) * (1 : Nat)) ∧
         ((List.length (f ++ t) + (1 : Nat) + (1 : Nat)) * (1 : Nat) ≤ (140737488355328 : Nat) ∧
           List.length (f ++ t ++ [(0 : UInt8)]) = (List.length (f ++ t) + (1 : Nat)) * (1 : Nat)) ∧
          ((List.length (f ++ t) + (1 : Nat) + (1 : Nat) + (2 : Nat)) * (1 : Nat) ≤ (140737488355328 : Nat) ∧
            List.length (f ++ t ++ [(0 : UInt8)] ++ List.take (1 : Nat) (List.drop (0 : Nat) [b8 p])) =
             (List.length (f ++ t) + (1 : Nat) + (1 : Nat)) * (1 : Nat)) ∧
           K (AVal.sl (0 : Nat) (0 : Nat) (List.length (f ++ t) + (1 : Nat) + (1 : Nat) + (2 : Nat)) (1 : Nat))
            [ABlk.bytes
              (f ++ t ++ [(0 : UInt8)] ++ List.take (1 : Nat) (List.drop (0 : Nat) [b8 p]) ++
               List.take (2 : Nat) (List.drop (0 : Nat) [b8 (n / (256 : Int)), b8 n]))])
        (((List.length (f ++ t) + (4 : Nat)) * (1 : Nat) ≤ (140737488355328 : Nat) ∧
          List.length (f ++ t) = List.length (f ++ t) * (1 : Nat)) ∧
         ((List.length (f ++ t) + (4 : Nat) + (3 : Nat)) * (1 : Nat) ≤ (140737488355328 : Nat) ∧
           List.length
             (f ++ t ++
              List.take (4 : Nat)
               (List.drop (0 : Nat) [b8 (n / (16777216 : Int)), b8 (n / (65536 : Int)), b8 (n / (256 : Int)), b8 n])) =
            (List.length (f ++ t) + (4 : Nat)) * (1 : Nat)) ∧
          ((List.length (f ++ t) + (4 : Nat) + (3 : Nat) + (1 : Nat)) * (1 : Nat) ≤ (140737488355328 : Nat) ∧
            List.length
              (f ++ t ++
                List.take (4 : Nat)
                 (List.drop (0 : Nat) [b8 (n / (16777216 : Int)), b8 (n / (65536 : Int)), b8 (n / (256 : Int)), b8 n]) ++
               [(0 : UInt8), (0 : UInt8), (0 : UInt8)]) =
             (List.length (f ++ t) + (4 : Nat) + (3 : Nat)) * (1 : Nat)) ∧
           K (AVal.sl (0 : Nat) (0 : Nat) (List.length (f ++ t) + (4 : Nat) + (3 : Nat) + (1 : Nat)) (1 : Nat))
            [ABlk.bytes
              (f ++ t ++
                 List.take (4 : Nat)
                  (List.drop (0 : Nat) [b8 (n / (16777216 : Int)), b8 (n / (65536 : Int)), b8 (n / (256 : Int)), b8 n]) ++
                [(0 : UInt8), (0 : UInt8), (0 : UInt8)] ++
               List.take (1 : Nat) (List.drop (0 : Nat) [b8 p]))])))
    (brP (!decide ((↑(List.length f) : Int) = (16 : Int))) (K AVal.nilS [])
     (brP (!decide ((↑(List.length f) : Int) = (↑(List.length t) : Int))) (K AVal.nilS [])
      (List.length f + List.length t ≤ (4611686018427387904 : Nat) ∧
       List.length (f ++ t) ≤ (140737488355328 : Nat) ∧
        brP (decide ((↑(List.length f) : Int) = (4 : Int)))
         (((List.length (f ++ t) + (1 : Nat)) * (1 : Nat) ≤ (140737488355328 : Nat) ∧
           List.length (f ++ t) = List.length (f ++ t) * (1 : Nat)) ∧
          ((List.length (f ++ t) + (1 : Nat) + (1 : Nat)) * (1 : Nat) ≤ (140737488355328 : Nat) ∧
            List.length (f ++ t ++ [(0 : UInt8)]) = (List.length (f ++ t) + (1 : Nat)) * (1 : Nat)) ∧
           ((List.length (f ++ t) + (1 : Nat) + (1 : Nat) + (2 : Nat)) * (1 : Nat) ≤ (140737488355328 : Nat) ∧
             List.length (f ++ t ++ [(0 : UInt8)] ++ List.take (1 : Nat) (List.drop (0 : Nat) [b8 p])) =
              (List.length (f ++ t) + (1 : Nat) + (1 : Nat)) * (1 : Nat)) ∧
            K (AVal.sl (0 : Nat) (0 : Nat) (List.length (f ++ t) + (1 : Nat) + (1 : Nat) + (2 : Nat)) (1 : Nat))
             [ABlk.bytes
               (f ++ t ++ [(0 : UInt8)] ++ List.take (1 : Nat) (List.drop (0 : Nat) [b8 p]) ++
                List.take (2 : Nat) (List.drop (0 : Nat) [b8 (n / (256 : Int)), b8 n]))])
         (((List.length (f ++ t) + (4 : Nat)) * (1 : Nat) ≤ (140737488355328 : Nat) ∧
           List.length (f ++ t) = List.length (f ++ t) * (1 : Nat)) ∧
          ((List.length (f ++ t) + (4 : Nat) + (3 : Nat)) * (1 : Nat) ≤ (140737488355328 : Nat) ∧
            List.length
              (f ++ t ++
               List.take (4 : Nat)
                (List.drop (0 : Nat) [b8 (n / (16777216 : Int)), b8 (n / (65536 : Int)), b8 (n / (256 : Int)), b8 n])) =
             (List.length (f ++ t) + (4 : Nat)) * (1 : Nat)) ∧
           ((List.length (f ++ t) + (4 : Nat) + (3 : Nat) + (1 : Nat)) * (1 : Nat) ≤ (140737488355328 : Nat) ∧
             List.length
               (f ++ t ++
                 List.take (4 : Nat)
                  (List.drop (0 : Nat) [b8 (n / (16777216 : Int)), b8 (n / (65536 : Int)), b8 (n / (256 : Int)), b8 n]) ++
                [(0 : UInt8), (0 : UInt8), (0 : UInt8)]) =
              (List.length (f ++ t) + (4 : Nat) + (3 : Nat)) * (1 : Nat)) ∧
            K (AVal.sl (0 : Nat) (0 : Nat) (List.length (f ++ t) + (4 : Nat) + (3 : Nat) + (1 : Nat)) (1 : Nat))
             [ABlk.bytes
               (f ++ t ++
                  List.take (4 : Nat)
                   (List.drop (0 : Nat)
                    [b8 (n / (16777216 : Int)), b8 (n / (65536 : Int)), b8 (n / (256 : Int)), b8 n]) ++
                 [(0 : UInt8), (0 : UInt8), (0 : UInt8)] ++
                List.take (1 : Nat) (List.drop (0 : Nat) [b8 p]))]))))) := by kernel_rfl
theorem outriderref03_Pseudo_p : ∀ args H K, pseudoRow args H K → fnP Try.prog Tip12 ann_outriderref03_Pseudo Try.f51 args H K := by
  intro args H K h
  unfold pseudoRow at h
  split at h
  · rename_i f t p n
    rw [ref03_Pseudo_eq]
    try simp only [or_w16, div2, div3, add_w16, and255, b8_mod, List.set_cons_zero, List.set_cons_succ, andNot_4000, getD_drop, getD_take, b8_byte, b8_toNatN, UInt8.toNat_ofNat', UInt8.toNat_and, nat_mask4, u8_eq_iff, UInt8.reduceToNat, Int.reduceLT, List.take_succ_cons, List.take_zero, List.drop_zero, List.flatten_cons, List.flatten_nil, List.append_nil, Nat.mul_one, Nat.zero_add, Nat.reduceAdd, Nat.reduceLT]
    revert h; intro hK
    rcases pseudo_cases hK with ⟨h1, h2⟩ | ⟨h1, h2⟩
    · repeat' first
        | (refine And.intro (by first | omega | with_reducible exact i64_x256 _ | with_reducible exact i64_w16 _ _ | with_reducible exact i64_sum _ | (repeat' first | with_reducible exact i64_x256 _ | with_reducible exact i64_w16 _ _ | with_reducible exact i64_sum _ | with_reducible apply And.intro) <;> first | omega | (simp only [I64]; omega) | (simp; omega) | (simp; done) | (simp [I64]; omega)) ?_)
        | (refine brP_d (fun h => ?_) (fun h => ?_))
        | (refine brP_nd (fun h => ?_) (fun h => ?_))
        | (refine brP_i (fun h => ?_) (fun h => ?_))
      all_goals first
        | (exfalso; omega)
        | (rw [show pseudoB f t p n = f ++ t ++ [b8 (n / 16777216), b8 (n / 65536), b8 (n / 256), b8 n, 0, 0, 0, b8 p] from if_pos (by omega)] at h2
           refine endK_eq h2 ?_ ?_ <;> simp <;> omega)
        | (rw [show pseudoB f t p n = f ++ t ++ [0, b8 p, b8 (n / 256), b8 n] from if_neg (by omega)] at h2
           refine endK_eq h2 ?_ ?_ <;> simp <;> omega)
    · repeat' first
        | (refine And.intro (by first | omega | with_reducible exact i64_x256 _ | with_reducible exact i64_w16 _ _ | with_reducible exact i64_sum _ | (repeat' first | with_reducible exact i64_x256 _ | with_reducible exact i64_w16 _ _ | with_reducible exact i64_sum _ | with_reducible apply And.intro) <;> first | omega | (simp only [I64]; omega) | (simp; omega) | (simp; done) | (simp [I64]; omega)) ?_)
        | (refine brP_d (fun h => ?_) (fun h => ?_))
        | (refine brP_nd (fun h => ?_) (fun h => ?_))
        | (refine brP_i (fun h => ?_) (fun h => ?_))
      all_goals first
        | exact h2
        | (exfalso; omega)
  · exact h.elim
def Tip13 : Specs := ext Tip12 51 (pseudoRow)
theorem Tip13_sound : TSound Try.prog Tip13 := ext_sound Tip12_sound (row_of Tip12_sound mixed Try.func51 (by decide +kernel) outriderref03_Pseudo_p)
abbrev Tip14 : Specs := Tip13
theorem Tip14_sound : TSound Try.prog Tip14 := Tip13_sound
abbrev Tip15 : Specs := Tip14
theorem Tip15_sound : TSound Try.prog Tip15 := Tip14_sound
def ann_outriderref03_Encode : Nat → List Nat × Nat × List (List Nat)
  | _ => ([], 0, [])
set_option maxRecDepth 100000 in
theorem ref03_Encode_eq (f t : List UInt8) (p q : Int) (b : List UInt8) (K : AVal → Hp → Prop) : fnP Try.prog Tip15 ann_outriderref03_Encode Try.f52 [.agg [.str f, .str t, .int .i64 p, .int .i64 q, .str b]] [] K = (
  brP (decide ((↑(List.length f) : Int) = (4 : Int)))
    (brP (decide ((↑(List.length t) : Int) = (4 : Int)))
     (brP (!decide ((↑(List.length f) : Int) = (↑(List.length t) : Int)))
      (K (AVal.tup [AVal.nilS, AVal.int IntKind.i64 (1 : Int)]) [])
      (brP (decide (p < (0 : Int))) (K (AVal.tup [AVal.nilS, AVal.int IntKind.i64 (1 : Int)]) [])
       (brP (decide ((255 : Int) < p)) (K (AVal.tup [AVal.nilS, AVal.int IntKind.i64 (1 : Int)]) [])
        (brP (decide (q < (0 : Int))) (K (AVal.tup [AVal.nilS, AVal.int IntKind.i64 (1 : Int)]) [])
         (brP (decide ((255 : Int) < q)) (K (AVal.tup [AVal.nilS, AVal.int IntKind.i64 (1 : Int)]) [])
          (brP (decide ((↑(List.length f) : Int) = (16 : Int)))
           (brP (decide ((1460 : Int) < (↑(List.length b) : Int)))
            (K (AVal.tup [AVal.nilS, AVal.int IntKind.i64 (1 : Int)]) [])
            (((6 : Nat) ≤ (140737488355328 : Nat) ∧ (4 : Nat) = (4 : Nat)) ∧
             ((8 : Nat) ≤ (140737488355328 : Nat) ∧ (6 : Nat) = (6 : Nat)) ∧
              List.length f + List.length t ≤ (4611686018427387904 : Nat) ∧
               List.length (f ++ t) + List.length b ≤ (4611686018427387904 : Nat) ∧
                (((8 : Nat) + List.length (f ++ t ++ b)) * (1 : Nat) ≤ (140737488355328 : Nat) ∧ (8 : Nat) = (8 : Nat)) ∧
                 K
                  (AVal.tup
                   [AVal.sl (0 : Nat) (0 : Nat) ((8 : Nat) + List.length (f ++ t ++ b)) (1 : Nat),
                    AVal.int IntKind.i64 (0 : Int)])
                  [ABlk.bytes
                    ([(96 : UInt8), (0 : UInt8), (0 : UInt8), (0 : UInt8)] ++
                       List.take (2 : Nat)
                        (List.drop (0 : Nat)
                         [b8 ((↑(List.length b) : Int) / (256 : Int)), b8 (↑(List.length b) : Int)]) ++
                      List.take (2 : Nat) (List.drop (0 : Nat) [b8 p, b8 q]) ++
                     (f ++ t ++ b))]))
           (brP (decide ((1480 : Int) < (↑(List.length b) : Int)))
            (K (AVal.tup [AVal.nilS, AVal.int IntKind.i64 (1 : Int)]) [])
            (I64 ((20 : Int) + (↑(List.length b) : Int)) ∧
             ((4 : Nat) ≤ (140737488355328 : Nat) ∧ (2 : Nat) = (2 : Nat)) ∧
              ((10 : Nat) ≤ (140737488355328 : Nat) ∧ (4 : Nat) = (4 : Nat)) ∧
               List.length f + List.length t ≤ (4611686018427387904 : Nat) ∧
                List.length (f ++ t) ≤ (140737488355328 : Nat) ∧
                 ((10 : Nat) ≤ (140737488355328 : Nat) ∧ (0 : Nat) = (0 : Nat)) ∧
                  ((12 : Nat) ≤ (140737488355328 : Nat) ∧ (10 : Nat) = (10 : Nat)) ∧
                   (((12 : Nat) + List.length (f ++ t)) * (1 : Nat) ≤ (140737488355328 : Nat) ∧ (12 : Nat) = (12 : Nat)) ∧
                    I64
                      ((65535 : Int) -
                       sumB
                        (List.take ((12 : Nat) + List.length (f ++ t))
                         (List.drop (0 : Nat)
                          ([] ++
                             List.take (10 : Nat)
                              (List.drop (0 : Nat)
                               ([(69 : UInt8), (0 : UInt8)] ++
                                 List.take (2 : Nat)
                                  (List.drop (0 : Nat)
                                   [b8 (((20 : Int) + (↑(List.length b) : Int)) / (256 : Int)),
                                    b8 ((20 : Int) + (↑(List.length b) : Int))]) ++
                                List.take (6 : Nat)
                                 (List.drop (0 : Nat)
                                  [(0 : UInt8), (0 : UInt8), (64 : UInt8), (0 : UInt8), b8 q, b8 p]))) ++
                            [(0 : UInt8), (0 : UInt8)] ++
                           List.take (List.length (f ++ t)) (List.drop (0 : Nat) (f ++ t)))))) ∧
                     ((12 : Nat) ≤ (140737488355328 : Nat) ∧ (10 : Nat) = (10 : Nat)) ∧
                      (((12 : Nat) + List.length (f ++ t)) * (1 : Nat) ≤ (140737488355328 : Nat) ∧
                        (12 : Nat) = (12 : Nat)) ∧
                       (((12 : Nat) + List.length (f ++ t) + List.length b) * (1 : Nat) ≤ (140737488355328 : Nat) ∧
                         List.length
                           ([(69 : UInt8), (0 : UInt8)] ++
                               List.take (2 : Nat)
                                (List.drop (0 : Nat)
                                 [b8 (((20 : Int) + (↑(List.length b) : Int)) / (256 : Int)),
                                  b8 ((20 : Int) + (↑(List.length b) : Int))]) ++
                              List.take (6 : Nat)
                               (List.drop (0 : Nat) [(0 : UInt8), (0 : UInt8), (64 : UInt8), (0 : UInt8), b8 q, b8 p]) ++
                             List.take (2 : Nat)
                              (List.drop (0 : Nat)
                               [b8
                                 (((65535 : Int) -
                                   sumB
                                    (List.take ((12 : Nat) + List.length (f ++ t))
                                     (List.drop (0 : Nat)
                                      ([] ++
                                         List.take (10 : Nat)
                                          (List.drop (0 : Nat)
                                           ([(69 : UInt8), (0 : UInt8)] ++
                                             List.take (2 : Nat)
                                              (List.drop (0 : Nat)
                                               [b8 (((20 : Int) + (↑(List.length b) : Int)) / (256 : Int)),
                                                b8 ((20 : Int) + (↑(List.length b) : Int))]) ++
                                            List.take (6 : Nat)
                                             (List.drop (0 : Nat)
                                              [(0 : UInt8), (0 : UInt8), (64 : UInt8), (0 : UInt8), b8 q, b8 p]))) ++
                                        [(0 : UInt8), (0 : UInt8)] ++
                                       List.take (List.length (f ++ t)) (List.drop (0 : Nat) (f ++ t)))))) /
                                  (256 : Int)),
                                b8
                                 ((65535 : Int) -
                                  sumB
                                   (List.take ((12 : Nat) + List.length (f ++ t))
                                    (List.drop (0 : Nat)
                                     ([] ++
                                        List.take (10 : Nat)
                                         (List.drop (0 : Nat)
                                          ([(69 : UInt8), (0 : UInt8)] ++
                                            List.take (2 : Nat)
                                             (List.drop (0 : Nat)
                                              [b8 (((20 : Int) + (↑(List.length b) : Int)) / (256 : Int)),
                                               b8 ((20 : Int) + (↑(List.length b) : Int))]) ++
                                           List.take (6 : Nat)
                                            (List.drop (0 : Nat)
                                             [(0 : UInt8), (0 : UInt8), (64 : UInt8), (0 : UInt8), b8 q, b8 p]))) ++
                                       [(0 : UInt8), (0 : UInt8)] ++
                                      List.take (List.length (f ++ t)) (List.drop (0 : Nat) (f ++ t))))))]) ++
                            List.take (List.length (f ++ t)) (List.drop (0 : Nat) (f ++ t))) =
                          ((12 : Nat) + List.length (f ++ t)) * (1 : Nat)) ∧
                        K
                         (AVal.tup
                          [AVal.sl (0 : Nat) (0 : Nat) ((12 : Nat) + List.length (f ++ t) + List.length b) (1 : Nat),
                           AVal.int IntKind.i64 (0 : Int)])
                         [ABlk.bytes
                           ([(69 : UInt8), (0 : UInt8)] ++
                                List.take (2 : Nat)
                                 (List.drop (0 : Nat)
                                  [b8 (((20 : Int) + (↑(List.length b) : Int)) / (256 : Int)),
                                   b8 ((20 : Int) + (↑(List.length b) : Int))]) ++
                               List.take (6 : Nat)
                                (List.drop (0 : Nat) [(0 : UInt8), (0 : UInt8), (64 : UInt8), (0 : UInt8), b8 q, b8 p]) ++
                              List.take (2 : Nat)
                               (List.drop (0 : Nat)
                                [b8
                                  (((65535 : Int) -
                                    sumB
                                     (List.take ((12 : Nat) + List.length (f ++ t))
                                      (List.drop (0 : Nat)
                                       ([] ++
                                          List.take (10 : Nat)
                                           (List.drop (0 : Nat)
                                            ([(69 : UInt8), (0 : UInt8)] ++
                                              List.take (2 : Nat)
                                               (List.drop (0 : Nat)
                                                [b8 (((20 : Int) + (↑(List.length b) : Int)) / (256 : Int)),
                                                 b8 ((20 : Int) + (↑(List.length b) : Int))]) ++
                                             List.take (6 : Nat)
                                              (List.drop (0 : Nat)
                                               [(0 : UInt8), (0 : UInt8), (64 : UInt8), (0 : UInt8), b8 q, b8 p]))) ++
                                         [(0 : UInt8), (0 : UInt8)] ++
                                        List.take (List.length (f ++ t)) (List.drop (0 : Nat) (f ++ t)))))) /
                                   (256 : Int)),
                                 b8
                                  ((65535 : Int) -
                                   sumB
                                    (List.take ((12 : Nat) + List.length (f ++ t))
                                     (List.drop (0 : Nat)
                                      ([] ++
                                         List.take (10 : Nat)
                                          (List.drop (0 : Nat)
                                           ([(69 : UInt8), (0 : UInt8)] ++
                                             List.take (2 : Nat)
                                              (List.drop (0 : Nat)
                                               [b8 (((20 : Int) + (↑(List.length b) : Int)) / (256 : Int)),
                                                b8 ((20 : Int) + (↑(List.length b) : Int))]) ++
                                            List.take (6 : Nat)
                                             (List.drop (0 : Nat)
                                              [(0 : UInt8), (0 : UInt8), (64 : UInt8), (0 : UInt8), b8 q, b8 p]))) ++
                                        [(0 : UInt8), (0 : UInt8)] ++
                                       List.take (List.length (f ++ t)) (List.drop (0 : Nat) (f ++ t))))))]) ++
                             List.take (List.length (f ++ t)) (List.drop (0 : Nat) (f ++ t)) ++
                            b)]))))))))
     (brP (!decide ((↑(List.length t) : Int) = (16 : Int))) (K (AVal.tup [AVal.nilS, AVal.int IntKind.i64 (1 : Int)]) [])
      (brP (!decide ((↑(List.length f) : Int) = (↑(List.length t) : Int)))
       (K (AVal.tup [AVal.nilS, AVal.int IntKind.i64 (1 : Int)]) [])
       (brP (decide (p < (0 : Int))) (K (AVal.tup [AVal.nilS, AVal.int IntKind.i64 (1 : Int)]) [])
        (brP (decide ((255 : Int) < p)) (K (AVal.tup [AVal.nilS, AVal.int IntKind.i64 (1 : Int)]) [])
         (brP (decide (q < (0 : Int))) (K (AVal.tup [AVal.nilS, AVal.int IntKind.i64 (1 : Int)]) [])
          (brP (decide ((255 : Int) < q)) (K (AVal.tup [AVal.nilS, AVal.int IntKind.i64 (1 : Int)]) [])
           (brP (decide ((↑(List.length f) : Int) = (16 : Int)))
            (brP (decide ((1460 : Int) < (↑(List.length b) : Int)))
             (K (AVal.tup [AVal.nilS, AVal.int IntKind.i64 (1 : Int)]) [])
             (((6 : Nat) ≤ (140737488355328 : Nat) ∧ (4 : Nat) = (4 : Nat)) ∧
              ((8 : Nat) ≤ (140737488355328 : Nat) ∧ (6 : Nat) = (6 : Nat)) ∧
               List.length f + List.length t ≤ (4611686018427387904 : Nat) ∧
                List.length (f ++ t) + List.length b ≤ (4611686018427387904 : Nat) ∧
                 (((8 : Nat) + List.length (f ++ t ++ b)) * (1 : Nat) ≤ (140737488355328 : Nat) ∧ (8 : Nat) = (8 : Nat)) ∧
                  K
                   (AVal.tup
                    [AVal.sl (0 : Nat) (0 : Nat) ((8 : Nat) + List.length (f ++ t ++ b)) (1 : Nat),
                     AVal.int IntKind.i64 (0 : Int)])
                   [ABlk.bytes
                     ([(96 : UInt8), (0 : UInt8), (0 : UInt8), (0 : UInt8)] ++
                        List.take (2 : Nat)
                         (List.drop (0 : Nat)
                          [b8 ((↑(List.length b) : Int) / (256 : Int)), b8 (↑(List.length b) : Int)]) ++
                       List.take (2 : Nat) (List.drop (0 : Nat) [b8 p, b8 q]) ++
                      (f ++ t ++ b))]))
            (brP (decide ((1480 : Int) < (↑(List.length b) : Int)))
             (K (AVal.tup [AVal.nilS, AVal.int IntKind.i64 (1 : Int)]) [])
             (I64 ((20 : Int) + (↑(List.length b) : Int)) ∧
              ((4 : Nat) ≤ (140737488355328 : Nat) ∧ (2 : Nat) = (2 : Nat)) ∧
               ((10 : Nat) ≤ (140737488355328 : Nat) ∧ (4 : Nat) = (4 : Nat)) ∧
                List.length f + List.length t ≤ (4611686018427387904 : Nat) ∧
                 List.length (f ++ t) ≤ (140737488355328 : Nat) ∧
                  ((10 : Nat) ≤ (140737488355328 : Nat) ∧ (0 : Nat) = (0 : Nat)) ∧
                   ((12 : Nat) ≤ (140737488355328 : Nat) ∧ (10 : Nat) = (10 : Nat)) ∧
                    (((12 : Nat) + List.length (f ++ t)) * (1 : Nat) ≤ (140737488355328 : Nat) ∧
                      (12 : Nat) = (12 : Nat)) ∧
                     I64
                       ((65535 : Int) -
                        sumB
                         (List.take ((12 : Nat) + List.length (f ++ t))
                          (List.drop (0 : Nat)
                           ([] ++
                              List.take (10 : Nat)
                               (List.drop (0 : Nat)
                                ([(69 : UInt8), (0 : UInt8)] ++
                                  List.take (2 : Nat)
                                   (List.drop (0 : Nat)
                                    [b8 (((20 : Int) + (↑(List.length b) : Int)) / (256 : Int)),
                                     b8 ((20 : Int) + (↑(List.length b) : Int))]) ++
                                 List.take (6 : Nat)
                                  (List.drop (0 : Nat)
                                   [(0 : UInt8), (0 : UInt8), (64 : UInt8), (0 : UInt8), b8 q, b8 p]))) ++
                             [(0 : UInt8), (0 : UInt8)] ++
                            List.take (List.length (f ++ t)) (List.drop (0 : Nat) (f ++ t)))))) ∧
                      ((12 : Nat) ≤ (140737488355328 : Nat) ∧ (10 : Nat) = (10 : Nat)) ∧
                       (((12 : Nat) + List.length (f ++ t)) * (1 : Nat) ≤ (140737488355328 : Nat) ∧
                         (12 : Nat) = (12 : Nat)) ∧
                        (((12 : Nat) + List.length (f ++ t) + List.length b) * (1 : Nat) ≤ (140737488355328 : Nat) ∧
                          List.length
                            ([(69 : UInt8), (0 : UInt8)] ++
                                List.take (2 : Nat)
                                 (List.drop (0 : Nat)
                                  [b8 (((20 : Int) + (↑(List.length b) : Int)) / (256 : Int)),
                                   b8 ((20 : Int) + (↑(List.length b) : Int))]) ++
                               List.take (6 : Nat)
                                (List.drop (0 : Nat) [(0 : UInt8), (0 : UInt8), (64 : UInt8), (0 : UInt8), b8 q, b8 p]) ++
                              List.take (2 : Nat)
                               (List.drop (0 : Nat)
                                [b8
                                  (((65535 : Int) -
                                    sumB
                                     (List.take ((12 : Nat) + List.length (f ++ t))
                                      (List.drop (0 : Nat)
                                       ([] ++
                                          List.take (10 : Nat)
                                           (List.drop (0 : Nat)
                                            ([(69 : UInt8), (0 : UInt8)] ++
                                              List.take (2 : Nat)
                                               (List.drop (0 : Nat)
                                                [b8 (((20 : Int) + (↑(List.length b) : Int)) / (256 : Int)),
                                                 b8 ((20 : Int) + (↑(List.length b) : Int))]) ++
                                             List.take (6 : Nat)
                                              (List.drop (0 : Nat)
                                               [(0 : UInt8), (0 : UInt8), (64 : UInt8), (0 : UInt8), b8 q, b8 p]))) ++
                                         [(0 : UInt8), (0 : UInt8)] ++
                                        List.take (List.length (f ++ t)) (List.drop (0 : Nat) (f ++ t)))))) /
                                   (256 : Int)),
                                 b8
                                  ((65535 : Int) -
                                   sumB
                                    (List.take ((12 : Nat) + List.length (f ++ t))
                                     (List.drop (0 : Nat)
                                      ([] ++
                                         List.take (10 : Nat)
                                          (List.drop (0 : Nat)
                                           ([(69 : UInt8), (0 : UInt8)] ++
                                             List.take (2 : Nat)
                                              (List.drop (0 : Nat)
                                               [b8 (((20 : Int) + (↑(List.length b) : Int)) / (256 : Int)),
                                                b8 ((20 : Int) + (↑(List.length b) : Int))]) ++
                                            List.take (6 : Nat)
                                             (List.drop (0 : Nat)
                                              [(0 : UInt8), (0 : UInt8), (64 : UInt8), (0 : UInt8), b8 q, b8 p]))) ++
                                        [(0 : UInt8), (0 : UInt8)] ++
                                       List.take (List.length (f ++ t)) (List.drop (0 : Nat) (f ++ t))))))]) ++
                             List.take (List.length (f ++ t)) (List.drop (0 : Nat) (f ++ t))) =
                           ((12 : Nat) + List.length (f ++ t)) * (1 : Nat)) ∧
                         K
                          (AVal.tup
                           [AVal.sl (0 : Nat) (0 : Nat) ((12 : Nat) + List.length (f ++ t) + List.length b) (1 : Nat),
                            AVal.int IntKind.i64 (0 : Int)])
                          [ABlk.bytes
                            ([(69 : UInt8), (0 : UInt8)] ++
                                 List.take (2 : Nat)
                                  (List.drop (0 : Nat)
                                   [b8 (((20 : Int) + (↑(List.length b) : Int)) / (256 : Int)),
                                    b8 ((20 : Int) + (↑(List.length b) : Int))]) ++
                                List.take (6 : Nat)
                                 (List.drop (0 : Nat)
                                  [(0 : UInt8), (0 : UInt8), (64 : UInt8), (0 : UInt8), b8 q, b8 p]) ++
                               List.take (2 : Nat)
                                (List.drop (0 : Nat)
                                 [b8
                                   (((65535 : Int) -
                                     sumB
                                      (List.take ((12 : Nat) + List.length (f ++ t))
                                       (List.drop (0 : Nat)
                                        ([] ++
                                           List.take (10 : Nat)
                                            (List.drop (0 : Nat)
                                             ([(69 : UInt8), (0 : UInt8)] ++
                                               List.take (2 : Nat)
                                                (List.drop (0 : Nat)
                                                 [b8 (((20 : Int) + (↑(List.length b) : Int)) / (256 : Int)),
                                                  b8 ((20 : Int) + (↑(List.length b) : Int))]) ++
                                              List.take (6 : Nat)
                                               (List.drop (0 : Nat)
                                                [(0 : UInt8), (0 : UInt8), (64 : UInt8), (0 : UInt8), b8 q, b8 p]))) ++
                                          [(0 : UInt8), (0 : UInt8)] ++
                                         List.take (List.length (f ++ t)) (List.drop (0 : Nat) (f ++ t)))))) /
                                    (256 : Int)),
                                  b8
                                   ((65535 : Int) -
                                    sumB
                                     (List.take ((12 : Nat) + List.length (f ++ t))
                                      (List.drop (0 : Nat)
                                       ([] ++
                                          List.take (10 : Nat)
                                           (List.drop (0 : Nat)
                                            ([(69 : UInt8), (0 : UInt8)] ++
                                              List.take (2 : Nat)
                                               (List.drop (0 : Nat)
                                                [b8 (((20 : Int) + (↑(List.length b) : Int)) / (256 : Int)),
                                                 b8 ((20 : Int) + (↑(List.length b) : Int))]) ++
                                             List.take (6 : Nat)
                                              (List.drop (0 : Nat)
                                               [(0 : UInt8), (0 : UInt8), (64 : UInt8), (0 : UInt8), b8 q, b8 p]))) ++
                                         [(0 : UInt8), (0 : UInt8)] ++
                                        List.take (List.length (f ++ t)) (List.drop (0 : Nat) (f ++ t))))))]) ++
                              List.take (List.length (f ++ t)) (List.drop (0 : Nat) (f ++ t)) ++
                             b)]))))))))))
    (brP (!decide ((↑(List.length f) : Int) = (16 : Int))) (K (AVal.tup [AVal.nilS, AVal.int IntKind.i64 (1 : Int)]) [])
     (brP (decide ((↑(List.length t) : Int) = (4 : Int)))
      (brP (!decide ((↑(List.length f) : Int) = (↑(List.length t) : Int)))
       (K (AVal.tup [AVal.nilS, AVal.int IntKind.i64 (1 : Int)]) [])
       (brP (decide (p < (0 : Int))) (K (AVal.tup [AVal.nilS, AVal.int IntKind.i64 (1 : Int)]) [])
        (brP (decide ((255 : Int) < p)) (K (AVal.tup [AVal.nilS, AVal.int IntKind.i64 (1 : Int)]) [])
         (brP (decide (q < (0 : Int))) (K (AVal.tup [AVal.nilS, AVal.int IntKind.i64 (1 : Int)]) [])
          (brP (decide ((255 : Int) < q)) (K (AVal.tup [AVal.nilS, AVal.int IntKind.i64 (1 : Int)]) [])
           (brP (decide ((↑(List.length f) : Int) = (16 : Int)))
            (brP (decide ((1460 : Int) < (↑(List.length b) : Int)))
             (K (AVal.tup [AVal.nilS, AVal.int IntKind.i64 (1 : Int)]) [])
             (((6 : Nat) ≤ (140737488355328 : Nat) ∧ (4 : Nat) = (4 : Nat)) ∧
              ((8 : Nat) ≤ (140737488355328 : Nat) ∧ (6 : Nat) = (6 : Nat)) ∧
               List.length f + List.length t ≤ (4611686018427387904 : Nat) ∧
                List.length (f ++ t) + List.length b ≤ (4611686018427387904 : Nat) ∧
                 (((8 : Nat) + List.length (f ++ t ++ b)) * (1 : Nat) ≤ (140737488355328 : Nat) ∧ (8 : Nat) = (8 : Nat)) ∧
                  K
                   (AVal.tup
                    [AVal.sl (0 : Nat) (0 : Nat) ((8 : Nat) + List.length (f ++ t ++ b)) (1 : Nat),
                     AVal.int IntKind.i64 (0 : Int)])
                   [ABlk.bytes
                     ([(96 : UInt8), (0 : UInt8), (0 : UInt8), (0 : UInt8)] ++
                        List.take (2 : Nat)
                         (List.drop (0 : Nat)
                          [b8 ((↑(List.length b) : Int) / (256 : Int)), b8 (↑(List.length b) : Int)]) ++
                       List.take (2 : Nat) (List.drop (0 : Nat) [b8 p, b8 q]) ++
                      (f ++ t ++ b))]))
            (brP (decide ((1480 : Int) < (↑(List.length b) : Int)))
             (K (AVal.tup [AVal.nilS, AVal.int IntKind.i64 (1 : Int)]) [])
             (I64 ((20 : Int) + (↑(List.length b) : Int)) ∧
              ((4 : Nat) ≤ (140737488355328 : Nat) ∧ (2 : Nat) = (2 : Nat)) ∧
               ((10 : Nat) ≤ (140737488355328 : Nat) ∧ (4 : Nat) = (4 : Nat)) ∧
                List.length f + List.length t ≤ (4611686018427387904 : Nat) ∧
                 List.length (f ++ t) ≤ (140737488355328 : Nat) ∧
                  ((10 : Nat) ≤ (140737488355328 : Nat) ∧ (0 : Nat) = (0 : Nat)) ∧
                   ((12 : Nat) ≤ (140737488355328 : Nat) ∧ (10 : Nat) = (10 : Nat)) ∧
                    (((12 : Nat) + List.length (f ++ t)) * (1 : Nat) ≤ (140737488355328 : Nat) ∧
                      (12 : Nat) = (12 : Nat)) ∧
                     I64
                       ((65535 : Int) -
                        sumB
                         (List.take ((12 : Nat) + List.length (f ++ t))
                          (List.drop (0 : Nat)
                           ([] ++
                              List.take (10 : Nat)
                               (List.drop (0 : Nat)
                                ([(69 : UInt8), (0 : UInt8)] ++
                                  List.take (2 : Nat)
                                   (List.drop (0 : Nat)
                                    [b8 (((20 : Int) + (↑(List.length b) : Int)) / (256 : Int)),
                                     b8 ((20 : Int) + (↑(List.length b) : Int))]) ++
                                 List.take (6 : Nat)
                                  (List.drop (0 : Nat)
                                   [(0 : UInt8), (0 : UInt8), (64 : UInt8), (0 : UInt8), b8 q, b8 p]))) ++
                             [(0 : UInt8), (0 : UInt8)] ++
                            List.take (List.length (f ++ t)) (List.drop (0 : Nat) (f ++ t)))))) ∧
                      ((12 : Nat) ≤ (140737488355328 : Nat) ∧ (10 : Nat) = (10 : Nat)) ∧
                       (((12 : Nat) + List.length (f ++ t)) * (1 : Nat) ≤ (140737488355328 : Nat) ∧
                         (12 : Nat) = (12 : Nat)) ∧
                        (((12 : Nat) + List.length (f ++ t) + List.length b) * (1 : Nat) ≤ (140737488355328 : Nat) ∧
                          List.length
                            ([(69 : UInt8), (0 : UInt8)] ++
                                List.take (2 : Nat)
                                 (List.drop (0 : Nat)
                                  [b8 (((20 : Int) + (↑(List.length b) : Int)) / (256 : Int)),
                                   b8 ((20 : Int) + (↑(List.length b) : Int))]) ++
                               List.take (6 : Nat)
                                (List.drop (0 : Nat) [(0 : UInt8), (0 : UInt8), (64 : UInt8), (0 : UInt8), b8 q, b8 p]) ++
                              List.take (2 : Nat)
                               (List.drop (0 : Nat)
                                [b8
                                  (((65535 : Int) -
                                    sumB
                                     (List.take ((12 : Nat) + List.length (f ++ t))
                                      (List.drop (0 : Nat)
                                       ([] ++
                                          List.take (10 : Nat)
                                           (List.drop (0 : Nat)
                                            ([(69 : UInt8), (0 : UInt8)] ++
                                              List.take (2 : Nat)
                                               (List.drop (0 : Nat)
                                                [b8 (((20 : Int) + (↑(List.length b) : Int)) / (256 : Int)),
                                                 b8 ((20 : Int) + (↑(List.length b) : Int))]) ++
                                             List.take (6 : Nat)
                                              (List.drop (0 : Nat)
                                               [(0 : UInt8), (0 : UInt8), (64 : UInt8), (0 : UInt8), b8 q, b8 p]))) ++
                                         [(0 : UInt8), (0 : UInt8)] ++
                                        List.take (List.length (f ++ t)) (List.drop (0 : Nat) (f ++ t)))))) /
                                   (256 : Int)),
                                 b8
                                  ((65535 : Int) -
                                   sumB
                                    (List.take ((12 : Nat) + List.length (f ++ t))
                                     (List.drop (0 : Nat)
                                      ([] ++
                                         List.take (10 : Nat)
                                          (List.drop (0 : Nat)
                                           ([(69 : UInt8), (0 : UInt8)] ++
                                             List.take (2 : Nat)
                                              (List.drop (0 : Nat)
                                               [b8 (((20 : Int) + (↑(List.length b) : Int)) / (256 : Int)),
                                                b8 ((20 : Int) + (↑(List.length b) : Int))]) ++
                                            List.take (6 : Nat)
                                             (List.drop (0 : Nat)
                                              [(0 : UInt8), (0 : UInt8), (64 : UInt8), (0 : UInt8), b8 q, b8 p]))) ++
                                        [(0 : UInt8), (0 : UInt8)] ++
                                       List.take (List.length (f ++ t)) (List.drop (0 : Nat) (f ++ t))))))]) ++
                             List.take (List.length (f ++ t)) (List.drop (0 : Nat) (f ++ t))) =
                           ((12 : Nat) + List.length (f ++ t)) * (1 : Nat)) ∧
                         K
                          (AVal.tup
                           [AVal.sl (0 : Nat) (0 : Nat) ((12 : Nat) + List.length (f ++ t) + List.length b) (1 : Nat),
                            AVal.int IntKind.i64 (0 : Int)])
                          [ABlk.bytes
                            ([(69 : UInt8), (0 : UInt8)] ++
                                 List.take (2 : Nat)
                                  (List.drop (0 : Nat)
                                   [b8 (((20 : Int) + (↑(List.length b) : Int)) / (256 : Int)),
                                    b8 ((20 : Int) + (↑(List.length b) : Int))]) ++
                                List.take (6 : Nat)
                                 (List.drop (0 : Nat)
                                  [(0 : UInt8), (0 : UInt8), (64 : UInt8), (0 : UInt8), b8 q, b8 p]) ++
                               List.take (2 : Nat)
                                (List.drop (0 : Nat)
                                 [b8
                                   (((65535 : Int) -
                                     sumB
                                      (List.take ((12 : Nat) + List.length (f ++ t))
                                       (List.drop (0 : Nat)
                                        ([] ++
                                           List.take (10 : Nat)
                                            (List.drop (0 : Nat)
                                             ([(69 : UInt8), (0 : UInt8)] ++
                                               List.take (2 : Nat)
                                                (List.drop (0 : Nat)
                                                 [b8 (((20 : Int) + (↑(List.length b) : Int)) / (256 : Int)),
                                                  b8 ((20 : Int) + (↑(List.length b) : Int))]) ++
                                              List.take (6 : Nat)
                                               (List.drop (0 : Nat)
                                                [(0 : UInt8), (0 : UInt8), (64 : UInt8), (0 : UInt8), b8 q, b8 p]))) ++
                                          [(0 : UInt8), (0 : UInt8)] ++
                                         List.take (List.length (f ++ t)) (List.drop (0 : Nat) (f ++ t)))))) /
                                    (256 : Int)),
                                  b8
                                   ((65535 : Int) -
                                    sumB
                                     (List.take ((12 : Nat) + List.length (f ++ t))
                                      (List.drop (0 : Nat)
                                       ([] ++
                                          List.take (10 : Nat)
                                           (List.drop (0 : Nat)
                                            ([(69 : UInt8), (0 : UInt8)] ++
                                              List.take (2 : Nat)
                                               (List.drop (0 : Nat)
                                                [b8 (((20 : Int) + (↑(List.length b) : Int)) / (256 : Int)),
                                                 b8 ((20 : Int) + (↑(List.length b) : Int))]) ++
                                             List.take (6 : Nat)
                                              (List.drop (0 : Nat)
                                               [(0 : UInt8), (0 : UInt8), (64 : UInt8), (0 : UInt8), b8 q, b8 p]))) ++
                                         [(0 : UInt8), (0 : UInt8)] ++
                                        List.take (List.length (f ++ t)) (List.drop (0 : Nat) (f ++ t))))))]) ++
                              List.take (List.length (f ++ t)) (List.drop (0 : Nat) (f ++ t)) ++
                             b)]))))))))
      (brP (!decide ((↑(List.length t) : Int) = (16 : Int))) (K (AVal.tup [AVal.nilS, AVal.int IntKind.i64 (1 : Int)]) [])
       (brP (!decide ((↑(List.length f) : Int) = (↑(List.length t) : Int)))
        (K (AVal.tup [AVal.nilS, AVal.int IntKind.i64 (1 : Int)]) [])
        (brP (decide (p < (0 : Int))) (K (AVal.tup [AVal.nilS, AVal.int IntKind.i64 (1 : Int)]) [])
         (brP (decide ((255 : Int) < p)) (K (AVal.tup [AVal.nilS, AVal.int IntKind.i64 (1 : Int)]) [])
          (brP (decide (q < (0 : Int))) (K (AVal.tup [AVal.nilS, AVal.int IntKind.i64 (1 : Int)]) [])
           (brP (decide ((255 : Int) < q)) (K (AVal.tup [AVal.nilS, AVal.int IntKind.i64 (1 : Int)]) [])
            (brP (decide ((↑(List.length f) : Int) = (16 : Int)))
             (brP (decide ((1460 : Int) < (↑(List.length b) : Int)))
              (K (AVal.tup [AVal.nilS, AVal.int IntKind.i64 (1 : Int)]) [])
              (((6 : Nat) ≤ (140737488355328 : Nat) ∧ (4 : Nat) = (4 : Nat)) ∧
               ((8 : Nat) ≤ (140737488355328 : Nat) ∧ (6 : Nat) = (6 : Nat)) ∧
                List.length f + List.length t ≤ (4611686018427387904 : Nat) ∧
                 List.length (f ++ t) + List.length b ≤ (4611686018427387904 : Nat) ∧
                  (((8 : Nat) + List.length (f ++ t ++ b)) * (1 : Nat) ≤ (140737488355328 : Nat) ∧
                    (8 : Nat) = (8 : Nat)) ∧
                   K
                    (AVal.tup
                     [AVal.sl (0 : Nat) (0 : Nat) ((8 : Nat) + List.length (f ++ t ++ b)) (1 : Nat),
                      AVal.int IntKind.i64 (0 : Int)])
                    [ABlk.bytes
                      ([(96 : UInt8), (0 : UInt8), (0 : UInt8), (0 : UInt8)] ++
                         List.take (2 : Nat)
                          (List.drop (0 : Nat)
                           [b8 ((↑(List.length b) : Int) / (256 : Int)), b8 (↑(List.length b) : Int)]) ++
                        List.take (2 : Nat) (List.drop (0 : Nat) [b8 p, b8 q]) ++
                       (f ++ t ++ b))]))
             (brP (decide ((1480 : Int) < (↑(List.length b) : Int)))
              (K (AVal.tup [AVal.nilS, AVal.int IntKind.i64 (1 : Int)]) [])
              (I64 ((20 : Int) + (↑(List.length b) : Int)) ∧
               ((4 : Nat) ≤ (140737488355328 : Nat) ∧ (2 : Nat) = (2 : Nat)) ∧
                ((10 : Nat) ≤ (140737488355328 : Nat) ∧ (4 : Nat) = (4 : Nat)) ∧
                 List.length f + List.length t ≤ (4611686018427387904 : Nat) ∧
                  List.length (f ++ t) ≤ (140737488355328 : Nat) ∧
                   ((10 : Nat) ≤ (140737488355328 : Nat) ∧ (0 : Nat) = (0 : Nat)) ∧
                    ((12 : Nat) ≤ (140737488355328 : Nat) ∧ (10 : Nat) = (10 : Nat)) ∧
                     (((12 : Nat) + List.length (f ++ t)) * (1 : Nat) ≤ (140737488355328 : Nat) ∧
                       (12 : Nat) = (12 : Nat)) ∧
                      I64
                        ((65535 : Int) -
                         sumB
                          (List.take ((12 : Nat) + List.length (f ++ t))
                           (List.drop (0 : Nat)
                            ([] ++
                               List.take (10 : Nat)
                                (List.drop (0 : Nat)
                                 ([(69 : UInt8), (0 : UInt8)] ++
                                   List.take (2 : Nat)
                                    (List.drop (0 : Nat)
                                     [b8 (((20 : Int) + (↑(List.length b) : Int)) / (256 : Int)),
                                      b8 ((20 : Int) + (↑(List.length b) : Int))]) ++
                                  List.take (6 : Nat)
                                   (List.drop (0 : Nat)
                                    [(0 : UInt8), (0 : UInt8), (64 : UInt8), (0 : UInt8), b8 q, b8 p]))) ++
                              [(0 : UInt8), (0 : UInt8)] ++
                             List.take (List.length (f ++ t)) (List.drop (0 : Nat) (f ++ t)))))) ∧
                       ((12 : Nat) ≤ (140737488355328 : Nat) ∧ (10 : Nat) = (10 : Nat)) ∧
                        (((12 : Nat) + List.length (f ++ t)) * (1 : Nat) ≤ (140737488355328 : Nat) ∧
                          (12 : Nat) = (12 : Nat)) ∧
                         (((12 : Nat) + List.length (f ++ t) + List.length b) * (1 : Nat) ≤ (140737488355328 : Nat) ∧
                           List.length
                             ([(69 : UInt8), (0 : UInt8)] ++
                                 List.take (2 : Nat)
                                  (List.drop (0 : Nat)
                                   [b8 (((20 : Int) + (↑(List.length b) : Int)) / (256 : Int)),
                                    b8 ((20 : Int) + (↑(List.length b) : Int))]) ++
                                List.take (6 : Nat)
                                 (List.drop (0 : Nat)
                                  [(0 : UInt8), (0 : UInt8), (64 : UInt8), (0 : UInt8), b8 q, b8 p]) ++
                               List.take (2 : Nat)
                                (List.drop (0 : Nat)
                                 [b8
                                   (((65535 : Int) -
                                     sumB
                                      (List.take ((12 : Nat) + List.length (f ++ t))
                                       (List.drop (0 : Nat)
                                        ([] ++
                                           List.take (10 : Nat)
                                            (List.drop (0 : Nat)
                                             ([(69 : UInt8), (0 : UInt8)] ++
                                               List.take (2 : Nat)
                                                (List.drop (0 : Nat)
                                                 [b8 (((20 : Int) + (↑(List.length b) : Int)) / (256 : Int)),
                                                  b8 ((20 : Int) + (↑(List.length b) : Int))]) ++
                                              List.take (6 : Nat)
                                               (List.drop (0 : Nat)
                                                [(0 : UInt8), (0 : UInt8), (64 : UInt8), (0 : UInt8), b8 q, b8 p]))) ++
                                          [(0 : UInt8), (0 : UInt8)] ++
                                         List.take (List.length (f ++ t)) (List.drop (0 : Nat) (f ++ t)))))) /
                                    (256 : Int)),
                                  b8
                                   ((65535 : Int) -
                                    sumB
                                     (List.take ((12 : Nat) + List.length (f ++ t))
                                      (List.drop (0 : Nat)
                                       ([] ++
                                          List.take (10 : Nat)
                                           (List.drop (0 : Nat)
                                            ([(69 : UInt8), (0 : UInt8)] ++
                                              List.take (2 : Nat)
                                               (List.drop (0 : Nat)
                                                [b8 (((20 : Int) + (↑(List.length b) : Int)) / (256 : Int)),
                                                 b8 ((20 : Int) + (↑(List.length b) : Int))]) ++
                                             List.take (6 : Nat)
                                              (List.drop (0 : Nat)
                                               [(0 : UInt8), (0 : UInt8), (64 : UInt8), (0 : UInt8), b8 q, b8 p]))) ++
                                         [(0 : UInt8), (0 : UInt8)] ++
                                        List.take (List.length (f ++ t)) (List.drop (0 : Nat) (f ++ t))))))]) ++
                              List.take (List.length (f ++ t)) (List.drop (0 : Nat) (f ++ t))) =
                            ((12 : Nat) + List.length (f ++ t)) * (1 : Nat)) ∧
                          K
                           (AVal.tup
                            [AVal.sl (0 : Nat) (0 : Nat) ((12 : Nat) + List.length (f ++ t) + List.length b) (1 : Nat),
                             AVal.int IntKind.i64 (0 : Int)])
                           [ABlk.bytes
                             ([(69 : UInt8), (0 : UInt8)] ++
                                  List.take (2 : Nat)
                                   (List.drop (0 : Nat)
                                    [b8 (((20 : Int) + (↑(List.length b) : Int)) / (256 : Int)),
                                     b8 ((20 : Int) + (↑(List.length b) : Int))]) ++
                                 List.take (6 : Nat)
                                  (List.drop (0 : Nat)
                                   [(0 : UInt8), (0 : UInt8), (64 : UInt8), (0 : UInt8), b8 q, b8 p]) ++
                                List.take (2 : Nat)
                                 (List.drop (0 : Nat)
                                  [b8
                                    (((65535 : Int) -
                                      sumB
                                       (List.take ((12 : Nat) + List.length (f ++ t))
                                        (List.drop (0 : Nat)
                                         ([] ++
                                            List.take (10 : Nat)
                                             (List.drop (0 : Nat)
                                              ([(69 : UInt8), (0 : UInt8)] ++
                                                List.take (2 : Nat)
                                                 (List.drop (0 : Nat)
                                                  [b8 (((20 : Int) + (↑(List.length b) : Int)) / (256 : Int)),
                                                   b8 ((20 : Int) + (↑(List.length b) : Int))]) ++
                                               List.take (6 : Nat)
                                                (List.drop (0 : Nat)
                                                 [(0 : UInt8), (0 : UInt8), (64 : UInt8), (0 : UInt8), b8 q, b8 p]))) ++
                                           [(0 : UInt8), (0 : UInt8)] ++
                                          List.take (List.length (f ++ t)) (List.drop (0 : Nat) (f ++ t)))))) /
                                     (256 : Int)),
                                   b8
                                    ((65535 : Int) -
                                     sumB
                                      (List.take ((12 : Nat) + List.length (f ++ t))
                                       (List.drop (0 : Nat)
                                        ([] ++
                                           List.take (10 : Nat)
                                            (List.drop (0 : Nat)
                                             ([(69 : UInt8), (0 : UInt8)] ++
                                               List.take (2 : Nat)
                                                (List.drop (0 : Nat)
                                                 [b8 (((20 : Int) + (↑(List.length b) : Int)) / (256 : Int)),
                                                  b8 ((20 : Int) + (↑(List.length b) : Int))]) ++
                                              List.take (6 : Nat)
                                               (List.drop (0 : Nat)
                                                [(0 : UInt8), (0 : UInt8), (64 : UInt8), (0 : UInt8), b8 q, b8 p]))) ++
                                          [(0 : UInt8), (0 : UInt8)] ++
                                         List.take (List.length (f ++ t)) (List.drop (0 : Nat) (f ++ t))))))]) ++
                               List.take (List.length (f ++ t)) (List.drop (0 : Nat) (f ++ t)) ++
                              b)])))))))))))) := by kernel_rfl
theorem outriderref03_Encode_p : ∀ args H K, ipEncRow args H K → fnP Try.prog Tip15 ann_outriderref03_Encode Try.f52 args H K := by
  intro args H K h
  unfold ipEncRow at h
  split at h
  · rename_i f t p q b
    rw [ref03_Encode_eq]
    try simp only [or_w16, div2, div3, add_w16, and255, b8_mod, List.set_cons_zero, List.set_cons_succ, andNot_4000, getD_drop, getD_take, b8_byte, b8_toNatN, UInt8.toNat_ofNat', UInt8.toNat_and, nat_mask4, u8_eq_iff, UInt8.reduceToNat, Int.reduceLT, List.take_succ_cons, List.take_zero, List.drop_zero, List.flatten_cons, List.flatten_nil, List.append_nil, Nat.mul_one, Nat.zero_add, Nat.reduceAdd, Nat.reduceLT]
    revert h; intro hK
    have L1 : (ipHead4 ⟨f, t, p, q, b⟩).length = 12 + f.length + t.length := by simp [ipHead4]; omega
    rcases ipEnc_cases hK with ⟨h1, h2⟩ | ⟨h1, h2⟩ <;> rw [ipOk_iff] at h1 <;> simp only at h1
    · have hft : List.take (f.length + t.length) (f ++ t) = f ++ t := List.take_of_length_le (by simp)
      by_cases h16 : f.length = 16
      · rw [show ipBytes ⟨f, t, p, q, b⟩ = ipBytes6 ⟨f, t, p, q, b⟩ from if_pos h16] at h2
        have L6 : (ipBytes6 ⟨f, t, p, q, b⟩).length = 8 + (f.length + t.length) + b.length := by simp [ipBytes6]; omega
        rw [L6] at h2
        repeat' first
          | (refine And.intro (by first | omega | with_reducible exact i64_x256 _ | with_reducible exact i64_w16 _ _ | with_reducible exact i64_sum _ | (repeat' first | with_reducible exact i64_x256 _ | with_reducible exact i64_w16 _ _ | with_reducible exact i64_sum _ | with_reducible apply And.intro) <;> first | omega | (simp only [I64]; omega) | (simp; omega) | (simp; done) | (simp [I64]; omega)) ?_)
          | (refine brP_d (fun h => ?_) (fun h => ?_))
          | (refine brP_nd (fun h => ?_) (fun h => ?_))
          | (refine brP_i (fun h => ?_) (fun h => ?_))
        all_goals first
          | (exfalso; omega)
          | skip
        all_goals refine endK_eq h2 ?_ ?_
        all_goals simp [ipBytes6]
        all_goals omega
      · rw [show ipBytes ⟨f, t, p, q, b⟩ = ipBytes4 ⟨f, t, p, q, b⟩ from if_neg h16] at h2
        have L4 : (ipBytes4 ⟨f, t, p, q, b⟩).length = 12 + (f.length + t.length) + b.length := by simp [ipBytes4, L1]; omega
        rw [L4] at h2
        repeat' first
          | (refine And.intro (by first | omega | with_reducible exact i64_x256 _ | with_reducible exact i64_w16 _ _ | with_reducible exact i64_sum _ | (repeat' first | with_reducible exact i64_x256 _ | with_reducible exact i64_w16 _ _ | with_reducible exact i64_sum _ | with_reducible apply And.intro) <;> first | omega | (simp only [I64]; omega) | (simp; omega) | (simp; done) | (simp [I64]; omega)) ?_)
          | (refine brP_d (fun h => ?_) (fun h => ?_))
          | (refine brP_nd (fun h => ?_) (fun h => ?_))
          | (refine brP_i (fun h => ?_) (fun h => ?_))
        all_goals first
          | (exfalso; omega)
          | skip
        all_goals refine endK_eq h2 ?_ ?_
        · simp
        · have hft2 : ∀ l : List UInt8, l.length = 12 + (f.length + t.length) → List.take (12 + (f.length + t.length)) l = l := fun l h => List.take_of_length_le (by omega)
          simp [ipBytes4, ipSum4, ipHead4, hft]
          rw [hft2 _ (by simp; omega)]
          exact ⟨rfl, rfl⟩
    · repeat' first
        | (refine And.intro (by first | omega | with_reducible exact i64_x256 _ | with_reducible exact i64_w16 _ _ | with_reducible exact i64_sum _ | (repeat' first | with_reducible exact i64_x256 _ | with_reducible exact i64_w16 _ _ | with_reducible exact i64_sum _ | with_reducible apply And.intro) <;> first | omega | (simp only [I64]; omega) | (simp; omega) | (simp; done) | (simp [I64]; omega)) ?_)
        | (refine brP_d (fun h => ?_) (fun h => ?_))
        | (refine brP_nd (fun h => ?_) (fun h => ?_))
        | (refine brP_i (fun h => ?_) (fun h => ?_))
      all_goals first
        | exact h2
        | (exfalso; omega)
  · exact h.elim
def Tip16 : Specs := ext Tip15 52 (ipEncRow)
theorem Tip16_sound : TSound Try.prog Tip16 := ext_sound Tip15_sound (row_of Tip15_sound mixed Try.func52 (by decide +kernel) outriderref03_Encode_p)
abbrev Tip : Specs := Tip16
theorem Tip_sound : TSound Try.prog Tip := Tip16_sound
end Go.Proofs.Ytnbbaemijogeoaa.Ae

