/- Chapter 3's functions as a table. -/
import Derived.Test.YtbjolilknkbehaaFck
import Derived.Test.YtbjolilknkbehaaMip
set_option linter.unusedSimpArgs false
set_option linter.unusedVariables false
namespace Go.Proofs.Ytbjolilknkbehaa.Ae
open Go
attribute [local irreducible] I64

/-- bytes to a packet -/
def ipRow (f : List UInt8 → Ip × Int) : Srow := fun args H K => match args, H with
  | [.roB l], [] => K (.tup [.agg [.str (f l).1.src, .str (f l).1.dst, .int .i64 (f l).1.proto, .int .i64 (f l).1.ttl, .str (f l).1.body], .int .i64 (f l).2]) []
  | [.nilS], [] => K (.tup [.agg [.str (f []).1.src, .str (f []).1.dst, .int .i64 (f []).1.proto, .int .i64 (f []).1.ttl, .str (f []).1.body], .int .i64 (f []).2]) []
  | _, _ => False
def ipRow' (f : List UInt8 → Ip × Int) : Srow := fun args H K => match args, H with
  | [.roB l], [] => K (.tup [.agg [.str (f l).1.src, .str (f l).1.dst, .int .i64 (f l).1.proto, .int .i64 (f l).1.ttl, .str (f l).1.body], .int .i64 (f l).2]) []
  | _, _ => False
def ipRowB (f : List UInt8 → Ip × Int) : Srow := fun args H K => match args, H with
  | [.roB l], [] => l.length ≤ 140737488355328 ∧ K (.tup [.agg [.str (f l).1.src, .str (f l).1.dst, .int .i64 (f l).1.proto, .int .i64 (f l).1.ttl, .str (f l).1.body], .int .i64 (f l).2]) []
  | [.nilS], [] => K (.tup [.agg [.str (f []).1.src, .str (f []).1.dst, .int .i64 (f []).1.proto, .int .i64 (f []).1.ttl, .str (f []).1.body], .int .i64 (f []).2]) []
  | _, _ => False
def ipRowB' (f : List UInt8 → Ip × Int) : Srow := fun args H K => match args, H with
  | [.roB l], [] => l.length ≤ 140737488355328 ∧ K (.tup [.agg [.str (f l).1.src, .str (f l).1.dst, .int .i64 (f l).1.proto, .int .i64 (f l).1.ttl, .str (f l).1.body], .int .i64 (f l).2]) []
  | _, _ => False
/-- a packet to bytes -/
def ipEncRow : Srow := fun args H K => match args, H with
  | [.agg [.str f, .str t, .int .i64 p, .int .i64 q, .str b]], [] => optP (ipEncode ⟨f, t, p, q, b⟩) (fun l => K (.tup [.sl 0 0 l.length 1, .int .i64 0]) [.bytes l]) (K (.tup [.nilS, .int .i64 1]) [])
  | _, _ => False
def pseudoRow : Srow := fun args H K => match args, H with
  | [.str f, .str t, .int .i64 p, .int .i64 n], [] => optP (pseudo f t p n) (fun l => K (.sl 0 0 l.length 1) [.bytes l]) (K .nilS [])
  | _, _ => False
def ann_ipv_Six : Nat → List Nat × Nat × List (List Nat)
  | _ => ([], 0, [])
def Tip1 : Specs := ext Tck 16 (fnP Try.prog Tck ann_ipv_Six Try.f16)
theorem Tip1_sound : TSound Try.prog Tip1 := ext_sound Tck_sound (fn_row Tck_sound mixed Try.func16 (by decide +kernel))
def ann_ipv_Right : Nat → List Nat × Nat × List (List Nat)
  | _ => ([], 0, [])
def Tip2 : Specs := ext Tip1 24 (fnP Try.prog Tip1 ann_ipv_Right Try.f24)
theorem Tip2_sound : TSound Try.prog Tip2 := ext_sound Tip1_sound (fn_row Tip1_sound mixed Try.func24 (by decide +kernel))
abbrev Tip3 : Specs := Tip2
theorem Tip3_sound : TSound Try.prog Tip3 := Tip2_sound
abbrev Tip4 : Specs := Tip3
theorem Tip4_sound : TSound Try.prog Tip4 := Tip3_sound
abbrev Tip5 : Specs := Tip4
theorem Tip5_sound : TSound Try.prog Tip5 := Tip4_sound
def ann_outriderref03_Right : Nat → List Nat × Nat × List (List Nat)
  | _ => ([], 0, [])
def Tip6 : Specs := ext Tip5 19 (fnP Try.prog Tip5 ann_outriderref03_Right Try.f19)
theorem Tip6_sound : TSound Try.prog Tip6 := ext_sound Tip5_sound (fn_row Tip5_sound mixed Try.func19 (by decide +kernel))
def lowRow : Srow := fun args H K => match args, H with
  | [.int .i64 n, .int .i64 1], [] => K (.sl 0 0 1 1) [.bytes [b8 n]]
  | [.int .i64 n, .int .i64 2], [] => K (.sl 0 0 2 1) [.bytes [b8 (n / 256), b8 n]]
  | [.int .i64 n, .int .i64 4], [] => K (.sl 0 0 4 1) [.bytes [b8 (n / 16777216), b8 (n / 65536), b8 (n / 256), b8 n]]
  | _, _ => False
def ann_outriderref03_low : Nat → List Nat × Nat × List (List Nat)
  | 3 => ([0, 1, 5, 6], 0, [])
  | 1000003 => ([], 6, [])
  | _ => ([], 0, [])
set_option maxRecDepth 100000 in
theorem ref03_low_1 (n : Int) (K : AVal → Hp → Prop) : fnP Try.prog Tip6 ann_outriderref03_low Try.f41 [.int .i64 n, .int .i64 1] [] K = (
  ((0 : Int) ≤ (1 : Int) ∧ (1 : Int) = (1 : Int) ∧ (1 : Int) ≤ (140737488355328 : Int)) ∧
    I64 (0 : Int) ∧
     I64 (0 : Int) ∧
      ((0 : Int) ≤ (0 : Int) ∧ (0 : Int) < (1 : Int)) ∧
       (0 : Nat) < (1 : Nat) ∧
        ((0 : Int) ≤ (8 : Int) ∧ (8 : Nat) < (64 : Nat)) ∧
         I64 (1 : Int) ∧
          K (AVal.sl (0 : Nat) (0 : Nat) (1 : Nat) (1 : Nat))
           [ABlk.bytes (List.set [(0 : UInt8)] (0 : Nat) (b8 (bits BinOp.and IntKind.i64 n (255 : Int))))]) := by kernel_rfl
set_option maxRecDepth 100000 in
theorem ref03_low_2 (n : Int) (K : AVal → Hp → Prop) : fnP Try.prog Tip6 ann_outriderref03_low Try.f41 [.int .i64 n, .int .i64 2] [] K = (
  ((0 : Int) ≤ (2 : Int) ∧ (2 : Int) = (2 : Int) ∧ (2 : Int) ≤ (140737488355328 : Int)) ∧
    I64 (1 : Int) ∧
     I64 (1 : Int) ∧
      ((0 : Int) ≤ (1 : Int) ∧ (1 : Int) < (2 : Int)) ∧
       (1 : Nat) < (2 : Nat) ∧
        ((0 : Int) ≤ (8 : Int) ∧ (8 : Nat) < (64 : Nat)) ∧
         I64 (1 : Int) ∧
          I64 (1 : Int) ∧
           I64 (0 : Int) ∧
            ((0 : Int) ≤ (0 : Int) ∧ (0 : Int) < (2 : Int)) ∧
             (0 : Nat) < (2 : Nat) ∧
              ((0 : Int) ≤ (8 : Int) ∧ (8 : Nat) < (64 : Nat)) ∧
               I64 (2 : Int) ∧
                K (AVal.sl (0 : Nat) (0 : Nat) (2 : Nat) (1 : Nat))
                 [ABlk.bytes
                   (List.set
                    (List.set [(0 : UInt8), (0 : UInt8)] (1 : Nat) (b8 (bits BinOp.and IntKind.i64 n (255 : Int))))
                    (0 : Nat) (b8 (bits BinOp.and IntKind.i64 (n / (256 : Int)) (255 : Int))))]) := by kernel_rfl
set_option maxRecDepth 100000 in
theorem ref03_low_4 (n : Int) (K : AVal → Hp → Prop) : fnP Try.prog Tip6 ann_outriderref03_low Try.f41 [.int .i64 n, .int .i64 4] [] K = (
  ((0 : Int) ≤ (4 : Int) ∧ (4 : Int) = (4 : Int) ∧ (4 : Int) ≤ (140737488355328 : Int)) ∧
    I64 (3 : Int) ∧
     I64 (3 : Int) ∧
      ((0 : Int) ≤ (3 : Int) ∧ (3 : Int) < (4 : Int)) ∧
       (3 : Nat) < (4 : Nat) ∧
        ((0 : Int) ≤ (8 : Int) ∧ (8 : Nat) < (64 : Nat)) ∧
         I64 (1 : Int) ∧
          I64 (3 : Int) ∧
           I64 (2 : Int) ∧
            ((0 : Int) ≤ (2 : Int) ∧ (2 : Int) < (4 : Int)) ∧
             (2 : Nat) < (4 : Nat) ∧
              ((0 : Int) ≤ (8 : Int) ∧ (8 : Nat) < (64 : Nat)) ∧
               I64 (2 : Int) ∧
                I64 (3 : Int) ∧
                 I64 (1 : Int) ∧
                  ((0 : Int) ≤ (1 : Int) ∧ (1 : Int) < (4 : Int)) ∧
                   (1 : Nat) < (4 : Nat) ∧
                    ((0 : Int) ≤ (8 : Int) ∧ (8 : Nat) < (64 : Nat)) ∧
                     I64 (3 : Int) ∧
                      I64 (3 : Int) ∧
                       I64 (0 : Int) ∧
                        ((0 : Int) ≤ (0 : Int) ∧ (0 : Int) < (4 : Int)) ∧
                         (0 : Nat) < (4 : Nat) ∧
                          ((0 : Int) ≤ (8 : Int) ∧ (8 : Nat) < (64 : Nat)) ∧
                           I64 (4 : Int) ∧
                            K (AVal.sl (0 : Nat) (0 : Nat) (4 : Nat) (1 : Nat))
                             [ABlk.bytes
                               (List.set
                                (List.set
                                 (List.set
                                  (List.set [(0 : UInt8), (0 : UInt8), (0 : UInt8), (0 : UInt8)] (3 : Nat)
                                   (b8 (bits BinOp.and IntKind.i64 n (255 : Int))))
                                  (2 : Nat) (b8 (bits BinOp.and IntKind.i64 (n / (256 : Int)) (255 : Int))))
                                 (1 : Nat) (b8 (bits BinOp.and IntKind.i64 (n / (256 : Int) / (256 : Int)) (255 : Int))))
                                (0 : Nat)
                                (b8
                                 (bits BinOp.and IntKind.i64 (n / (256 : Int) / (256 : Int) / (256 : Int)) (255 : Int))))]) := by kernel_rfl
theorem outriderref03_low_p : ∀ args H K, lowRow args H K → fnP Try.prog Tip6 ann_outriderref03_low Try.f41 args H K := by
  intro args H K h
  unfold lowRow at h
  split at h
  · rw [ref03_low_1]
    simp only [or_w16, div2, div3, add_w16, and255, b8_mod, List.set_cons_zero, List.set_cons_succ, andNot_4000, getD_drop, getD_take, b8_byte, b8_toNatN, UInt8.toNat_ofNat', UInt8.toNat_and, nat_mask4, u8_eq_iff, UInt8.reduceToNat, Int.reduceLT, List.take_succ_cons, List.take_zero, List.drop_zero, List.flatten_cons, List.flatten_nil, List.append_nil, Nat.mul_one, Nat.zero_add, Nat.reduceAdd, Nat.reduceLT]
    repeat' first
      | (refine And.intro (by first | omega | with_reducible exact i64_x256 _ | with_reducible exact i64_w16 _ _ | with_reducible exact i64_sum _ | (repeat' first | with_reducible exact i64_x256 _ | with_reducible exact i64_w16 _ _ | with_reducible exact i64_sum _ | with_reducible apply And.intro) <;> first | omega | (simp only [I64]; omega) | (simp; omega) | (simp; done) | (simp [I64]; omega)) ?_)
      | (refine brP_d (fun h => ?_) (fun h => ?_))
      | (refine brP_nd (fun h => ?_) (fun h => ?_))
      | (refine brP_i (fun h => ?_) (fun h => ?_))
    exact h
  · rw [ref03_low_2]
    simp only [or_w16, div2, div3, add_w16, and255, b8_mod, List.set_cons_zero, List.set_cons_succ, andNot_4000, getD_drop, getD_take, b8_byte, b8_toNatN, UInt8.toNat_ofNat', UInt8.toNat_and, nat_mask4, u8_eq_iff, UInt8.reduceToNat, Int.reduceLT, List.take_succ_cons, List.take_zero, List.drop_zero, List.flatten_cons, List.flatten_nil, List.append_nil, Nat.mul_one, Nat.zero_add, Nat.reduceAdd, Nat.reduceLT]
    repeat' first
      | (refine And.intro (by first | omega | with_reducible exact i64_x256 _ | with_reducible exact i64_w16 _ _ | with_reducible exact i64_sum _ | (repeat' first | with_reducible exact i64_x256 _ | with_reducible exact i64_w16 _ _ | with_reducible exact i64_sum _ | with_reducible apply And.intro) <;> first | omega | (simp only [I64]; omega) | (simp; omega) | (simp; done) | (simp [I64]; omega)) ?_)
      | (refine brP_d (fun h => ?_) (fun h => ?_))
      | (refine brP_nd (fun h => ?_) (fun h => ?_))
      | (refine brP_i (fun h => ?_) (fun h => ?_))
    exact h
  · rw [ref03_low_4]
    simp only [or_w16, div2, div3, add_w16, and255, b8_mod, List.set_cons_zero, List.set_cons_succ, andNot_4000, getD_drop, getD_take, b8_byte, b8_toNatN, UInt8.toNat_ofNat', UInt8.toNat_and, nat_mask4, u8_eq_iff, UInt8.reduceToNat, Int.reduceLT, List.take_succ_cons, List.take_zero, List.drop_zero, List.flatten_cons, List.flatten_nil, List.append_nil, Nat.mul_one, Nat.zero_add, Nat.reduceAdd, Nat.reduceLT]
    repeat' first
      | (refine And.intro (by first | omega | with_reducible exact i64_x256 _ | with_reducible exact i64_w16 _ _ | with_reducible exact i64_sum _ | (repeat' first | with_reducible exact i64_x256 _ | with_reducible exact i64_w16 _ _ | with_reducible exact i64_sum _ | with_reducible apply And.intro) <;> first | omega | (simp only [I64]; omega) | (simp; omega) | (simp; done) | (simp [I64]; omega)) ?_)
      | (refine brP_d (fun h => ?_) (fun h => ?_))
      | (refine brP_nd (fun h => ?_) (fun h => ?_))
      | (refine brP_i (fun h => ?_) (fun h => ?_))
    exact h
  · exact h.elim
def Tip7 : Specs := ext Tip6 41 (lowRow)
theorem Tip7_sound : TSound Try.prog Tip7 := ext_sound Tip6_sound (row_of Tip6_sound mixed Try.func41 (by decide +kernel) outriderref03_low_p)
abbrev Tip8 : Specs := Tip7
theorem Tip8_sound : TSound Try.prog Tip8 := Tip7_sound
abbrev Tip9 : Specs := Tip8
theorem Tip9_sound : TSound Try.prog Tip9 := Tip8_sound
abbrev Tip10 : Specs := Tip9
theorem Tip10_sound : TSound Try.prog Tip10 := Tip9_sound
abbrev Tip11 : Specs := Tip10
theorem Tip11_sound : TSound Try.prog Tip11 := Tip10_sound
def ann_ipv_Pseudo : Nat → List Nat × Nat × List (List Nat)
  | _ => ([], 0, [])
set_option maxRecDepth 100000 in
theorem ipv_Pseudo_eq (f t : List UInt8) (p n : Int) (K : AVal → Hp → Prop) : fnP Try.prog Tip11 ann_ipv_Pseudo Try.f18 [.str f, .str t, .int .i64 p, .int .i64 n] [] K = (
  brP (decide ((↑(List.length f) : Int) = (4 : Int)))
    (brP (!decide ((↑(List.length f) : Int) = (↑(List.length t) : Int))) (K AVal.nilS [])
     (List.length f ≤ (140737488355328 : Nat) ∧
      ((List.length f + List.length t) * (1 : Nat) ≤ (140737488355328 : Nat) ∧
        List.length f = List.length f * (1 : Nat)) ∧
       brP (decide ((↑(List.length f) : Int) = (16 : Int)))
        (((0 : Int) ≤ (24 : Int) ∧ (24 : Nat) < (64 : Nat)) ∧
         ((0 : Int) ≤ (16 : Int) ∧ (16 : Nat) < (64 : Nat)) ∧
          ((0 : Int) ≤ (8 : Int) ∧ (8 : Nat) < (64 : Nat)) ∧
           ((List.length f + List.length t + (8 : Nat)) * (1 : Nat) ≤ (140737488355328 : Nat) ∧
             List.length (f ++ t) = (List.length f + List.length t) * (1 : Nat)) ∧
            K (AVal.sl (0 : Nat) (0 : Nat) (List.length f + List.length t + (8 : Nat)) (1 : Nat))
             [ABlk.bytes
               (f ++ t ++
                List.take (8 : Nat)
                 (List.drop (0 : Nat)
                  [b8 (n / (16777216 : Int)), b8 (n / (65536 : Int)), b8 (n / (256 : Int)), b8 n, (0 : UInt8),
                   (0 : UInt8), (0 : UInt8), b8 p]))])
        (((0 : Int) ≤ (8 : Int) ∧ (8 : Nat) < (64 : Nat)) ∧
         ((List.length f + List.length t + (4 : Nat)) * (1 : Nat) ≤ (140737488355328 : Nat) ∧
           List.length (f ++ t) = (List.length f + List.length t) * (1 : Nat)) ∧
          K (AVal.sl (0 : Nat) (0 : Nat) (List.length f + List.length t + (4 : Nat)) (1 : Nat))
           [ABlk.bytes
             (f ++ t ++ List.take (4 : Nat) (List.drop (0 : Nat) [(0 : UInt8), b8 p, b8 (n / (256 : Int)), b8 n]))])))
    (brP (!decide ((↑(List.length f) : Int) = (16 : Int))) (K AVal.nilS [])
     (brP (!decide ((↑(List.length f) : Int) = (↑(List.length t) : Int))) (K AVal.nilS [])
      (List.length f ≤ (140737488355328 : Nat) ∧
       ((List.length f + List.length t) * (1 : Nat) ≤ (140737488355328 : Nat) ∧
         List.length f = List.length f * (1 : Nat)) ∧
        brP (decide ((↑(List.length f) : Int) = (16 : Int)))
         (((0 : Int) ≤ (24 : Int) ∧ (24 : Nat) < (64 : Nat)) ∧
          ((0 : Int) ≤ (16 : Int) ∧ (16 : Nat) < (64 : Nat)) ∧
           ((0 : Int) ≤ (8 : Int) ∧ (8 : Nat) < (64 : Nat)) ∧
            ((List.length f + List.length t + (8 : Nat)) * (1 : Nat) ≤ (140737488355328 : Nat) ∧
              List.length (f ++ t) = (List.length f + List.length t) * (1 : Nat)) ∧
             K (AVal.sl (0 : Nat) (0 : Nat) (List.length f + List.length t + (8 : Nat)) (1 : Nat))
              [ABlk.bytes
                (f ++ t ++
                 List.take (8 : Nat)
                  (List.drop (0 : Nat)
                   [b8 (n / (16777216 : Int)), b8 (n / (65536 : Int)), b8 (n / (256 : Int)), b8 n, (0 : UInt8),
                    (0 : UInt8), (0 : UInt8), b8 p]))])
         (((0 : Int) ≤ (8 : Int) ∧ (8 : Nat) < (64 : Nat)) ∧
          ((List.length f + List.length t + (4 : Nat)) * (1 : Nat) ≤ (140737488355328 : Nat) ∧
            List.length (f ++ t) = (List.length f + List.length t) * (1 : Nat)) ∧
           K (AVal.sl (0 : Nat) (0 : Nat) (List.length f + List.length t + (4 : Nat)) (1 : Nat))
            [ABlk.bytes
              (f ++ t ++ List.take (4 : Nat) (List.drop (0 : Nat) [(0 : UInt8), b8 p, b8 (n / (256 : Int)), b8 n]))]))))) := by kernel_rfl
theorem ipv_Pseudo_p : ∀ args H K, pseudoRow args H K → fnP Try.prog Tip11 ann_ipv_Pseudo Try.f18 args H K := by
  intro args H K h
  unfold pseudoRow at h
  split at h
  · rename_i f t p n
    rw [ipv_Pseudo_eq]
    try simp only [or_w16, div2, div3, add_w16, and255, b8_mod, List.set_cons_zero, List.set_cons_succ, andNot_4000, getD_drop, getD_take, b8_byte, b8_toNatN, UInt8.toNat_ofNat', UInt8.toNat_and, nat_mask4, u8_eq_iff, UInt8.reduceToNat, Int.reduceLT, List.take_succ_cons, List.take_zero, List.drop_zero, List.flatten_cons, List.flatten_nil, List.append_nil, Nat.mul_one, Nat.zero_add, Nat.reduceAdd, Nat.reduceLT]
    revert h; intro hK
    rcases pseudo_cases hK with ⟨h1, h2⟩ | ⟨h1, h2⟩
    · repeat' first
        | (refine And.intro (by first | omega | with_reducible exact i64_x256 _ | with_reducible exact i64_w16 _ _ | with_reducible exact i64_sum _ | (repeat' first | with_reducible exact i64_x256 _ | with_reducible exact i64_w16 _ _ | with_reducible exact i64_sum _ | with_reducible apply And.intro) <;> first | omega | (simp only [I64]; omega) | (simp; omega) | (simp; done) | (simp [I64]; omega)) ?_)
        | (refine brP_d (fun h => ?_) (fun h => ?_))
        | (refine brP_nd (fun h => ?_) (fun h => ?_))
        | (refine brP_i (fun h => ?_) (fun h => ?_))
      all_goals first
        | (exfalso; omega)
        | (rw [show pseudoB f t p n = f ++ t ++ [b8 (n / 16777216), b8 (n / 65536), b8 (n / 256), b8 n, 0, 0, 0, b8 p] from if_pos (by omega)] at h2
           refine endK_eq h2 ?_ ?_ <;> simp <;> omega)
        | (rw [show pseudoB f t p n = f ++ t ++ [0, b8 p, b8 (n / 256), b8 n] from if_neg (by omega)] at h2
           refine endK_eq h2 ?_ ?_ <;> simp <;> omega)
    · repeat' first
        | (refine And.intro (by first | omega | with_reducible exact i64_x256 _ | with_reducible exact i64_w16 _ _ | with_reducible exact i64_sum _ | (repeat' first | with_reducible exact i64_x256 _ | with_reducible exact i64_w16 _ _ | with_reducible exact i64_sum _ | with_reducible apply And.intro) <;> first | omega | (simp only [I64]; omega) | (simp; omega) | (simp; done) | (simp [I64]; omega)) ?_)
        | (refine brP_d (fun h => ?_) (fun h => ?_))
        | (refine brP_nd (fun h => ?_) (fun h => ?_))
        | (refine brP_i (fun h => ?_) (fun h => ?_))
      all_goals first
        | exact h2
        | (exfalso; omega)
  · exact h.elim
def Tip12 : Specs := ext Tip11 18 (pseudoRow)
theorem Tip12_sound : TSound Try.prog Tip12 := ext_sound Tip11_sound (row_of Tip11_sound mixed Try.func18 (by decide +kernel) ipv_Pseudo_p)
def ann_outriderref03_Pseudo : Nat → List Nat × Nat × List (List Nat)
  | _ => ([], 0, [])
set_option maxRecDepth 100000 in
theorem ref03_Pseudo_eq (f t : List UInt8) (p n : Int) (K : AVal → Hp → Prop) : fnP Try.prog Tip12 ann_outriderref03_Pseudo Try.f36 [.str f, .str t, .int .i64 p, .int .i64 n] [] K = (
  brP (decide ((↑(List.length f) : Int) = (4 : Int)))
    (brP (!decide ((↑(List.length f) : Int) = (↑(List.length t) : Int))) (K AVal.nilS [])
     (List.length f + List.length t ≤ (4611686018427387904 : Nat) ∧
      List.length (f ++ t) ≤ (140737488355328 : Nat) ∧
       brP (decide ((↑(List.length f) : Int) = (4 : Int)))
        (((List.length (f ++ t) + (1 : Nat)) * (1 : Nat) ≤ (140737488355328 : Nat) ∧
          List.length (f ++ t) = List.length (f ++ t) * (1 : Nat)) ∧
         ((List.length (f ++ t) + (1 : Nat) + (1 : Nat)) * (1 : Nat) ≤ (140737488355328 : Nat) ∧
           List.length (f ++ t ++ [(0 : UInt8)]) = (List.length (f ++ t) + (1 : Nat)) * (1 : Nat)) ∧
          ((List.length (f ++ t) + (1 : Nat) + (1 : Nat) + (2 : Nat)) * (1 : Nat) ≤ (140737488355328 : Nat) ∧
            List.length (f ++ t ++ [(0 : UInt8)] ++ List.take (1 : Nat) (List.drop (0 : Nat) [b8 p])) =
             (List.length (f ++ t) + (1 : Nat) + (1 : Nat)) * (1 : Nat)) ∧
           K (AVal.sl (0 : Nat) (0 : Nat) (List.length (f ++ t) + (1 : Nat) + (1 : Nat) + (2 : Nat)) (1 : Nat))
            [ABlk.bytes
              (f ++ t ++ [(0 : UInt8)] ++ List.take (1 : Nat) (List.drop (0 : Nat) [b8 p]) ++
               List.take (2 : Nat) (List.drop (0 : Nat) [b8 (n / (256 : Int)), b8 n]))])
        (((List.length (f ++ t) + (4 : Nat)) * (1 : Nat) ≤ (140737488355328 : Nat) ∧
          List.length (f ++ t) = List.length (f ++ t) * (1 : Nat)) ∧
         ((List.length (f ++ t) + (4 : Nat) + (3 : Nat)) * (1 : Nat) ≤ (140737488355328 : Nat) ∧
           List.length
             (f ++ t ++
              List.take (4 : Nat)
               (List.drop (0 : Nat) [b8 (n / (16777216 : Int)), b8 (n / (65536 : Int)), b8 (n / (256 : Int)), b8 n])) =
            (List.length (f ++ t) + (4 : Nat)) * (1 : Nat)) ∧
          ((List.length (f ++ t) + (4 : Nat) + (3 : Nat) + (1 : Nat)) * (1 : Nat) ≤ (140737488355328 : Nat) ∧
            List.length
              (f ++ t ++
                List.take (4 : Nat)
                 (List.drop (0 : Nat) [b8 (n / (16777216 : Int)), b8 (n / (65536 : Int)), b8 (n / (256 : Int)), b8 n]) ++
               [(0 : UInt8), (0 : UInt8), (0 : UInt8)]) =
             (List.length (f ++ t) + (4 : Nat) + (3 : Nat)) * (1 : Nat)) ∧
           K (AVal.sl (0 : Nat) (0 : Nat) (List.length (f ++ t) + (4 : Nat) + (3 : Nat) + (1 : Nat)) (1 : Nat))
            [ABlk.bytes
              (f ++ t ++
                 List.take (4 : Nat)
                  (List.drop (0 : Nat) [b8 (n / (16777216 : Int)), b8 (n / (65536 : Int)), b8 (n / (256 : Int)), b8 n]) ++
                [(0 : UInt8), (0 : UInt8), (0 : UInt8)] ++
               List.take (1 : Nat) (List.drop (0 : Nat) [b8 p]))])))
    (brP (!decide ((↑(List.length f) : Int) = (16 : Int))) (K AVal.nilS [])
     (brP (!decide ((↑(List.length f) : Int) = (↑(List.length t) : Int))) (K AVal.nilS [])
      (List.length f + List.length t ≤ (4611686018427387904 : Nat) ∧
       List.length (f ++ t) ≤ (140737488355328 : Nat) ∧
        brP (decide ((↑(List.length f) : Int) = (4 : Int)))
         (((List.length (f ++ t) + (1 : Nat)) * (1 : Nat) ≤ (140737488355328 : Nat) ∧
           List.length (f ++ t) = List.length (f ++ t) * (1 : Nat)) ∧
          ((List.length (f ++ t) + (1 : Nat) + (1 : Nat)) * (1 : Nat) ≤ (140737488355328 : Nat) ∧
            List.length (f ++ t ++ [(0 : UInt8)]) = (List.length (f ++ t) + (1 : Nat)) * (1 : Nat)) ∧
           ((List.length (f ++ t) + (1 : Nat) + (1 : Nat) + (2 : Nat)) * (1 : Nat) ≤ (140737488355328 : Nat) ∧
             List.length (f ++ t ++ [(0 : UInt8)] ++ List.take (1 : Nat) (List.drop (0 : Nat) [b8 p])) =
              (List.length (f ++ t) + (1 : Nat) + (1 : Nat)) * (1 : Nat)) ∧
            K (AVal.sl (0 : Nat) (0 : Nat) (List.length (f ++ t) + (1 : Nat) + (1 : Nat) + (2 : Nat)) (1 : Nat))
             [ABlk.bytes
               (f ++ t ++ [(0 : UInt8)] ++ List.take (1 : Nat) (List.drop (0 : Nat) [b8 p]) ++
                List.take (2 : Nat) (List.drop (0 : Nat) [b8 (n / (256 : Int)), b8 n]))])
         (((List.length (f ++ t) + (4 : Nat)) * (1 : Nat) ≤ (140737488355328 : Nat) ∧
           List.length (f ++ t) = List.length (f ++ t) * (1 : Nat)) ∧
          ((List.length (f ++ t) + (4 : Nat) + (3 : Nat)) * (1 : Nat) ≤ (140737488355328 : Nat) ∧
            List.length
              (f ++ t ++
               List.take (4 : Nat)
                (List.drop (0 : Nat) [b8 (n / (16777216 : Int)), b8 (n / (65536 : Int)), b8 (n / (256 : Int)), b8 n])) =
             (List.length (f ++ t) + (4 : Nat)) * (1 : Nat)) ∧
           ((List.length (f ++ t) + (4 : Nat) + (3 : Nat) + (1 : Nat)) * (1 : Nat) ≤ (140737488355328 : Nat) ∧
             List.length
               (f ++ t ++
                 List.take (4 : Nat)
                  (List.drop (0 : Nat) [b8 (n / (16777216 : Int)), b8 (n / (65536 : Int)), b8 (n / (256 : Int)), b8 n]) ++
                [(0 : UInt8), (0 : UInt8), (0 : UInt8)]) =
              (List.length (f ++ t) + (4 : Nat) + (3 : Nat)) * (1 : Nat)) ∧
            K (AVal.sl (0 : Nat) (0 : Nat) (List.length (f ++ t) + (4 : Nat) + (3 : Nat) + (1 : Nat)) (1 : Nat))
             [ABlk.bytes
               (f ++ t ++
                  List.take (4 : Nat)
                   (List.drop (0 : Nat)
                    [b8 (n / (16777216 : Int)), b8 (n / (65536 : Int)), b8 (n / (256 : Int)), b8 n]) ++
                 [(0 : UInt8), (0 : UInt8), (0 : UInt8)] ++
                List.take (1 : Nat) (List.drop (0 : Nat) [b8 p]))]))))) := by kernel_rfl
theorem outriderref03_Pseudo_p : ∀ args H K, pseudoRow args H K → fnP Try.prog Tip12 ann_outriderref03_Pseudo Try.f36 args H K := by
  intro args H K h
  unfold pseudoRow at h
  split at h
  · rename_i f t p n
    rw [ref03_Pseudo_eq]
    try simp only [or_w16, div2, div3, add_w16, and255, b8_mod, List.set_cons_zero, List.set_cons_succ, andNot_4000, getD_drop, getD_take, b8_byte, b8_toNatN, UInt8.toNat_ofNat', UInt8.toNat_and, nat_mask4, u8_eq_iff, UInt8.reduceToNat, Int.reduceLT, List.take_succ_cons, List.take_zero, List.drop_zero, List.flatten_cons, List.flatten_nil, List.append_nil, Nat.mul_one, Nat.zero_add, Nat.reduceAdd, Nat.reduceLT]
    revert h; intro hK
    rcases pseudo_cases hK with ⟨h1, h2⟩ | ⟨h1, h2⟩
    · repeat' first
        | (refine And.intro (by first | omega | with_reducible exact i64_x256 _ | with_reducible exact i64_w16 _ _ | with_reducible exact i64_sum _ | (repeat' first | with_reducible exact i64_x256 _ | with_reducible exact i64_w16 _ _ | with_reducible exact i64_sum _ | with_reducible apply And.intro) <;> first | omega | (simp only [I64]; omega) | (simp; omega) | (simp; done) | (simp [I64]; omega)) ?_)
        | (refine brP_d (fun h => ?_) (fun h => ?_))
        | (refine brP_nd (fun h => ?_) (fun h => ?_))
        | (refine brP_i (fun h => ?_) (fun h => ?_))
      all_goals first
        | (exfalso; omega)
        | (rw [show pseudoB f t p n = f ++ t ++ [b8 (n / 16777216), b8 (n / 65536), b8 (n / 256), b8 n, 0, 0, 0, b8 p] from if_pos (by omega)] at h2
           refine endK_eq h2 ?_ ?_ <;> simp <;> omega)
        | (rw [show pseudoB f t p n = f ++ t ++ [0, b8 p, b8 (n / 256), b8 n] from if_neg (by omega)] at h2
           refine endK_eq h2 ?_ ?_ <;> simp <;> omega)
    · repeat' first
        | (refine And.intro (by first | omega | with_reducible exact i64_x256 _ | with_reducible exact i64_w16 _ _ | with_reducible exact i64_sum _ | (repeat' first | with_reducible exact i64_x256 _ | with_reducible exact i64_w16 _ _ | with_reducible exact i64_sum _ | with_reducible apply And.intro) <;> first | omega | (simp only [I64]; omega) | (simp; omega) | (simp; done) | (simp [I64]; omega)) ?_)
        | (refine brP_d (fun h => ?_) (fun h => ?_))
        | (refine brP_nd (fun h => ?_) (fun h => ?_))
        | (refine brP_i (fun h => ?_) (fun h => ?_))
      all_goals first
        | exact h2
        | (exfalso; omega)
  · exact h.elim
def Tip13 : Specs := ext Tip12 36 (pseudoRow)
theorem Tip13_sound : TSound Try.prog Tip13 := ext_sound Tip12_sound (row_of Tip12_sound mixed Try.func36 (by decide +kernel) outriderref03_Pseudo_p)
abbrev Tip14 : Specs := Tip13
theorem Tip14_sound : TSound Try.prog Tip14 := Tip13_sound
abbrev Tip15 : Specs := Tip14
theorem Tip15_sound : TSound Try.prog Tip15 := Tip14_sound
abbrev Tip16 : Specs := Tip15
theorem Tip16_sound : TSound Try.prog Tip16 := Tip15_sound
abbrev Tip : Specs := Tip16
theorem Tip_sound : TSound Try.prog Tip := Tip16_sound
end Go.Proofs.Ytbjolilknkbehaa.Ae

