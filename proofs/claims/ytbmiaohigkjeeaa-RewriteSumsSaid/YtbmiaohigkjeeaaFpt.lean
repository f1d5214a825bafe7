/- Chapter 5's functions as a table. -/
import Derived.Test.YtbmiaohigkjeeaaFip
import Derived.Test.YtbmiaohigkjeeaaMpt
set_option linter.unusedSimpArgs false
set_option linter.unusedVariables false
namespace Go.Proofs.Ytbmiaohigkjeeaa.Ae
open Go

def ptWriteRow : Srow := fun args H K => match args, H with
  | [.agg [.str f, .str t, .int .i64 p, .int .i64 q, .str b], .agg [.int .i64 h1, .int .i64 h2, .int .i64 h3, .int .i64 h4, .int .i64 h5], .str d], [] => d.length ≤ 140737488351232 ∧
    K (.tup [.agg [.str (ptWrite ⟨f, t, p, q, b⟩ ⟨h1, h2, h3, h4, h5⟩ d).1.src, .str (ptWrite ⟨f, t, p, q, b⟩ ⟨h1, h2, h3, h4, h5⟩ d).1.dst, .int .i64 (ptWrite ⟨f, t, p, q, b⟩ ⟨h1, h2, h3, h4, h5⟩ d).1.proto, .int .i64 (ptWrite ⟨f, t, p, q, b⟩ ⟨h1, h2, h3, h4, h5⟩ d).1.ttl, .str (ptWrite ⟨f, t, p, q, b⟩ ⟨h1, h2, h3, h4, h5⟩ d).1.body], .int .i64 (ptWrite ⟨f, t, p, q, b⟩ ⟨h1, h2, h3, h4, h5⟩ d).2]) []
  | _, _ => False
def ptHdRow (g : Ip → Hd × Int) : Srow := fun args H K => match args, H with
  | [.agg [.str f, .str t, .int .i64 p, .int .i64 q, .str b]], [] => b.length ≤ 140737488351232 ∧
    K (.tup [.agg [.int .i64 (g ⟨f, t, p, q, b⟩).1.proto, .int .i64 (g ⟨f, t, p, q, b⟩).1.src, .int .i64 (g ⟨f, t, p, q, b⟩).1.dst, .int .i64 (g ⟨f, t, p, q, b⟩).1.flags, .int .i64 (g ⟨f, t, p, q, b⟩).1.at'], .int .i64 (g ⟨f, t, p, q, b⟩).2]) []
  | _, _ => False
def ptFlRow (g : Ip → Fl × Int) : Srow := fun args H K => match args, H with
  | [.agg [.str f, .str t, .int .i64 p, .int .i64 q, .str b]], [] => b.length ≤ 140737488351232 ∧
    K (.tup [.agg [.int .i64 (g ⟨f, t, p, q, b⟩).1.proto, .str (g ⟨f, t, p, q, b⟩).1.src, .str (g ⟨f, t, p, q, b⟩).1.dst, .int .i64 (g ⟨f, t, p, q, b⟩).1.port, .int .i64 (g ⟨f, t, p, q, b⟩).1.dest], .int .i64 (g ⟨f, t, p, q, b⟩).2]) []
  | _, _ => False
def ann_ports_two_int_ : Nat → List Nat × Nat × List (List Nat)
  | _ => ([], 0, [])
def Tpt1 : Specs := ext Tip 59 (fnP Try.prog Tip ann_ports_two_int_ Try.f59)
theorem Tpt1_sound : TSound Try.prog Tpt1 := ext_sound Tip_sound (fn_row Tip_sound mixed Try.func59 (by decide +kernel))
def ann_ports_two_uint16_ : Nat → List Nat × Nat × List (List Nat)
  | _ => ([], 0, [])
def Tpt2 : Specs := ext Tpt1 61 (fnP Try.prog Tpt1 ann_ports_two_uint16_ Try.f61)
theorem Tpt2_sound : TSound Try.prog Tpt2 := ext_sound Tpt1_sound (fn_row Tpt1_sound mixed Try.func61 (by decide +kernel))
def ann_ports_number : Nat → List Nat × Nat × List (List Nat)
  | 1 => ([], 8, [[], [0], [0, 1], [0, 1, 2], [], [4], [4, 5], [0, 1, 2, 3, 4, 5, 6]])
  | _ => ([], 0, [])
def Tpt3 : Specs := ext Tpt2 29 (fnP Try.prog Tpt2 ann_ports_number Try.f29)
theorem Tpt3_sound : TSound Try.prog Tpt3 := ext_sound Tpt2_sound (fn_row Tpt2_sound mixed Try.func29 (by decide +kernel))
def ann_ports_word : Nat → List Nat × Nat × List (List Nat)
  | 2000001 => ([], 7, [[], [0], [0, 1], [0, 1, 2], [0, 1, 2, 3], [0, 1, 2, 3, 4]])
  | _ => ([], 0, [])
def Tpt4 : Specs := ext Tpt3 68 (fnP Try.prog Tpt3 ann_ports_word Try.f68)
theorem Tpt4_sound : TSound Try.prog Tpt4 := ext_sound Tpt3_sound (fn_row Tpt3_sound mixed Try.func68 (by decide +kernel))
def ann__outrider_ports_Head__right : Nat → List Nat × Nat × List (List Nat)
  | _ => ([], 0, [])
def Tpt5 : Specs := ext Tpt4 58 (fnP Try.prog Tpt4 ann__outrider_ports_Head__right Try.f58)
theorem Tpt5_sound : TSound Try.prog Tpt5 := ext_sound Tpt4_sound (fn_row Tpt4_sound mixed Try.func58 (by decide +kernel))
def ptBdRow : Srow := fun args H K => match args, H with
  | [.int .u16 s, .ptr 0 0, .ptr 1 0, .ptr 2 0], [.vals [.int .i64 h1, .int .i64 h2, .int .i64 h3, .int .i64 h4, .int .i64 h5], .vals [.str ps], .vals [.str d]] => (ps.length ≤ 100 ∧ d.length ≤ 140737488351232) ∧
    K (.str (ptBd h1 h4 ps d s)) [.vals [.int .i64 h1, .int .i64 h2, .int .i64 h3, .int .i64 h4, .int .i64 h5], .vals [.str ps], .vals [.str d]]
  | _, _ => False
def ann_ports_Write_1 : Nat → List Nat × Nat × List (List Nat)
  | 2 => ([], 11, [[], [], [1], [1, 2], [1, 2, 3], [0, 1, 2, 3, 4], [], [1, 2, 3, 4, 6], [0, 1, 2, 3, 4, 5, 6, 7], [], [0, 1, 2, 3, 4, 5, 6, 7, 8, 9]])
  | 3 => ([], 18, [[], [], [1], [0, 1, 2], [0, 1, 2, 3], [], [5], [5, 6], [5, 6, 7], [5, 6, 7, 8], [0, 1, 2, 3, 4, 5, 6, 7, 8, 9], [0, 1, 2, 3, 4, 5, 6, 7, 8, 9, 10], [], [12], [0, 1, 2, 3, 4, 5, 6, 7, 8, 9, 10, 11, 12, 13], [0, 1, 2, 3, 4, 5, 6, 7, 8, 9, 10, 11, 12, 13, 14], [], [0, 1, 2, 3, 4, 5, 6, 7, 8, 9, 10, 11, 12, 13, 14, 15, 16]])
  | _ => ([], 0, [])
set_option maxRecDepth 100000 in
theorem ports_Write1_eq (s h1 h2 h3 h4 h5 : Int) (ps d : List UInt8) (K : AVal → Hp → Prop) : fnP Try.prog Tpt5 ann_ports_Write_1 Try.f60 [.int .u16 s, .ptr 0 0, .ptr 1 0, .ptr 2 0] [.vals [.int .i64 h1, .int .i64 h2, .int .i64 h3, .int .i64 h4, .int .i64 h5], .vals [.str ps], .vals [.str d]] K = (
  brP (decide (h1 = (17 : Int)))
    (I64 ((8 : Int) + (↑(List.length d) : Int)) ∧
     ((0 : Int) ≤ (8 : Int) ∧ (8 : Nat) < (64 : Nat)) ∧
      List.length ps + (2 : Nat) ≤ (4611686018427387904 : Nat) ∧
       ((0 : Int) ≤ (8 : Int) ∧ (8 : Nat) < (16 : Nat)) ∧
        List.length
            (ps ++
             List.take (2 : Nat)
              (List.drop (0 : Nat)
               [b8 (((8 : Int) + (↑(List.length d) : Int)) / (256 : Int)), b8 ((8 : Int) + (↑(List.length d) : Int))])) +
           (2 : Nat) ≤
          (4611686018427387904 : Nat) ∧
         List.length
             (ps ++
               List.take (2 : Nat)
                (List.drop (0 : Nat)
                 [b8 (((8 : Int) + (↑(List.length d) : Int)) / (256 : Int)),
                  b8 ((8 : Int) + (↑(List.length d) : Int))]) ++
              List.take (2 : Nat) (List.drop (0 : Nat) [b8 (s / (256 : Int)), b8 s])) +
            List.length d ≤
           (4611686018427387904 : Nat) ∧
          K
           (AVal.str
            (ps ++
               List.take (2 : Nat)
                (List.drop (0 : Nat)
                 [b8 (((8 : Int) + (↑(List.length d) : Int)) / (256 : Int)),
                  b8 ((8 : Int) + (↑(List.length d) : Int))]) ++
              List.take (2 : Nat) (List.drop (0 : Nat) [b8 (s / (256 : Int)), b8 s]) ++
             d))
           [ABlk.vals
             [AVal.int IntKind.i64 h1, AVal.int IntKind.i64 h2, AVal.int IntKind.i64 h3, AVal.int IntKind.i64 h4,
              AVal.int IntKind.i64 h5],
            ABlk.vals [AVal.str ps], ABlk.vals [AVal.str d]])
    (((0 : Int) ≤ (8 : Int) ∧ (8 : Int) = (8 : Int) ∧ (8 : Int) ≤ (140737488355328 : Int)) ∧
     List.length ps + (8 : Nat) ≤ (4611686018427387904 : Nat) ∧
      List.length
          (ps ++
           [(0 : UInt8), (0 : UInt8), (0 : UInt8), (0 : UInt8), (0 : UInt8), (0 : UInt8), (0 : UInt8), (0 : UInt8)]) +
         (1 : Nat) ≤
        (4611686018427387904 : Nat) ∧
       List.length
           (ps ++
             [(0 : UInt8), (0 : UInt8), (0 : UInt8), (0 : UInt8), (0 : UInt8), (0 : UInt8), (0 : UInt8), (0 : UInt8)] ++
            [(80 : UInt8)]) +
          (1 : Nat) ≤
         (4611686018427387904 : Nat) ∧
        List.length
            (ps ++
               [(0 : UInt8), (0 : UInt8), (0 : UInt8), (0 : UInt8), (0 : UInt8), (0 : UInt8), (0 : UInt8), (0 : UInt8)] ++
              [(80 : UInt8)] ++
             List.take (1 : Nat) (List.drop (0 : Nat) [b8 h4])) +
           (2 : Nat) ≤
          (4611686018427387904 : Nat) ∧
         ((0 : Int) ≤ (8 : Int) ∧ (8 : Nat) < (16 : Nat)) ∧
          List.length
              (ps ++
                  [(0 : UInt8), (0 : UInt8), (0 : UInt8), (0 : UInt8), (0 : UInt8), (0 : UInt8), (0 : UInt8),
                   (0 : UInt8)] ++
                 [(80 : UInt8)] ++
                List.take (1 : Nat) (List.drop (0 : Nat) [b8 h4]) ++
               [(255 : UInt8), (255 : UInt8)]) +
             (2 : Nat) ≤
            (4611686018427387904 : Nat) ∧
           List.length
               (ps ++
                    [(0 : UInt8), (0 : UInt8), (0 : UInt8), (0 : UInt8), (0 : UInt8), (0 : UInt8), (0 : UInt8),
                     (0 : UInt8)] ++
                   [(80 : UInt8)] ++
                  List.take (1 : Nat) (List.drop (0 : Nat) [b8 h4]) ++
                 [(255 : UInt8), (255 : UInt8)] ++
                List.take (2 : Nat) (List.drop (0 : Nat) [b8 (s / (256 : Int)), b8 s])) +
              (2 : Nat) ≤
             (4611686018427387904 : Nat) ∧
            List.length
                (ps ++
                      [(0 : UInt8), (0 : UInt8), (0 : UInt8), (0 : UInt8), (0 : UInt8), (0 : UInt8), (0 : UInt8),
                       (0 : UInt8)] ++
                     [(80 : UInt8)] ++
                    List.take (1 : Nat) (List.drop (0 : Nat) [b8 h4]) ++
                   [(255 : UInt8), (255 : UInt8)] ++
                  List.take (2 : Nat) (List.drop (0 : Nat) [b8 (s / (256 : Int)), b8 s]) ++
                 [(0 : UInt8), (0 : UInt8)]) +
               List.length d ≤
              (4611686018427387904 : Nat) ∧
             K
              (AVal.str
               (ps ++
                      [(0 : UInt8), (0 : UInt8), (0 : UInt8), (0 : UInt8), (0 : UInt8), (0 : UInt8), (0 : UInt8),
                       (0 : UInt8)] ++
                     [(80 : UInt8)] ++
                    List.take (1 : Nat) (List.drop (0 : Nat) [b8 h4]) ++
                   [(255 : UInt8), (255 : UInt8)] ++
                  List.take (2 : Nat) (List.drop (0 : Nat) [b8 (s / (256 : Int)), b8 s]) ++
                 [(0 : UInt8), (0 : UInt8)] ++
                d))
              [ABlk.vals
                [AVal.int IntKind.i64 h1, AVal.int IntKind.i64 h2, AVal.int IntKind.i64 h3, AVal.int IntKind.i64 h4,
                 AVal.int IntKind.i64 h5],
               ABlk.vals [AVal.str ps], ABlk.vals [AVal.str d]])) := by kernel_rfl
theorem ports_Write_1_p : ∀ args H K, ptBdRow args H K → fnP Try.prog Tpt5 ann_ports_Write_1 Try.f60 args H K := by
  intro args H K h
  unfold ptBdRow at h
  split at h
  · obtain ⟨⟨hp, hd⟩, hK⟩ := h
    rw [ports_Write1_eq]
    try simp only [or_w16, div2, div3, add_w16, and255, b8_mod, List.set_cons_zero, List.set_cons_succ, andNot_4000, getD_drop, getD_take, b8_byte, b8_toNatN, UInt8.toNat_ofNat', UInt8.toNat_and, nat_mask4, nat_mask6, nat_240, u8_eq_iff, UInt8.reduceToNat, Int.reduceLT, List.take_succ_cons, List.take_zero, List.drop_zero, List.flatten_cons, List.flatten_nil, List.append_nil, List.nil_append, List.take_length, Nat.mul_one, Nat.zero_add, Nat.reduceAdd, Nat.reduceLT]
    repeat' first
      | (refine And.intro (by first | first | omega | with_reducible exact i64_x256 _ | with_reducible exact i64_w16 _ _ | with_reducible exact i64_sum _ | (repeat' first | with_reducible exact i64_x256 _ | with_reducible exact i64_w16 _ _ | with_reducible exact i64_sum _ | with_reducible apply And.intro) <;> first | omega | (simp only [I64]; omega) | (simp; omega) | (simp; done) | (simp [I64]; omega) | (with_reducible refine impP_i (fun hg => ?_) <;> (try simp only [Bool.and_eq_true, Bool.or_eq_true, Bool.and_eq_false_iff, Bool.or_eq_false_iff, decide_eq_true_eq, decide_eq_false_iff_not, Bool.not_eq_true', Bool.not_eq_false', Bool.not_true, Bool.not_false, Bool.true_and, Bool.and_true, Bool.false_or, Bool.or_false, beq_iff_eq, beq_eq_false_iff_ne, ne_eq] at hg) <;> (first | omega | with_reducible exact i64_x256 _ | with_reducible exact i64_w16 _ _ | with_reducible exact i64_sum _ | (repeat' first | with_reducible exact i64_x256 _ | with_reducible exact i64_w16 _ _ | with_reducible exact i64_sum _ | with_reducible apply And.intro) <;> first | omega | (simp only [I64]; omega) | (simp; omega) | (simp; done) | (simp [I64]; omega)))) ?_)
      | (refine brP_d (fun h => ?_) (fun h => ?_))
      | (refine optP_i (fun x hx => ?_) (fun hx => ?_) <;> (try have hxl := pseudo_len hx))
      | (refine brP_nd (fun h => ?_) (fun h => ?_))
      | (refine brP_i (fun h => ?_) (fun h => ?_) <;> (try simp only [Bool.and_eq_true, Bool.or_eq_true, Bool.and_eq_false_iff, Bool.or_eq_false_iff, decide_eq_true_eq, decide_eq_false_iff_not, Bool.not_eq_true', Bool.not_eq_false', Bool.not_true, Bool.not_false, Bool.true_and, Bool.and_true, Bool.false_or, Bool.or_false, beq_iff_eq, beq_eq_false_iff_ne, ne_eq] at h))
    all_goals unfold ptBd two at hK
    all_goals repeat' split at hK
    all_goals first
      | exact hK
      | (exfalso; omega)
      | grind
  · exact h.elim
def Tpt6 : Specs := ext Tpt5 60 (ptBdRow)
theorem Tpt6_sound : TSound Try.prog Tpt6 := ext_sound Tpt5_sound (row_of Tpt5_sound mixed Try.func60 (by decide +kernel) ports_Write_1_p)
def ann_ports_Read_1 : Nat → List Nat × Nat × List (List Nat)
  | 1 => ([], 15, [[], [0], [], [2], [], [4], [], [6], [6, 7], [0, 1, 2, 3, 4, 5, 6, 7, 8], [], [10], [10, 11], [0, 1, 2, 3, 4, 5, 6, 7, 8, 9, 10, 11, 12], [0, 1, 2, 3, 4, 5, 6, 7, 8, 9, 10, 11, 12, 13]])
  | _ => ([], 0, [])
def Tpt7 : Specs := ext Tpt6 27 (fnP Try.prog Tpt6 ann_ports_Read_1 Try.f27)
theorem Tpt7_sound : TSound Try.prog Tpt7 := ext_sound Tpt6_sound (fn_row Tpt6_sound mixed Try.func27 (by decide +kernel))
abbrev Tpt8 : Specs := Tpt7
theorem Tpt8_sound : TSound Try.prog Tpt8 := Tpt7_sound
abbrev Tpt9 : Specs := Tpt8
theorem Tpt9_sound : TSound Try.prog Tpt9 := Tpt8_sound
def ann_outriderref05_number : Nat → List Nat × Nat × List (List Nat)
  | 1 => ([], 8, [[], [0], [0, 1], [0, 1, 2], [], [4], [4, 5], [0, 1, 2, 3, 4, 5, 6]])
  | _ => ([], 0, [])
def Tpt10 : Specs := ext Tpt9 62 (fnP Try.prog Tpt9 ann_outriderref05_number Try.f62)
theorem Tpt10_sound : TSound Try.prog Tpt10 := ext_sound Tpt9_sound (fn_row Tpt9_sound mixed Try.func62 (by decide +kernel))
def ann_outriderref05_sum : Nat → List Nat × Nat × List (List Nat)
  | _ => ([], 0, [])
def Tpt11 : Specs := ext Tpt10 63 (fnP Try.prog Tpt10 ann_outriderref05_sum Try.f63)
theorem Tpt11_sound : TSound Try.prog Tpt11 := ext_sound Tpt10_sound (fn_row Tpt10_sound mixed Try.func63 (by decide +kernel))
def ann_ports_Write : Nat → List Nat × Nat × List (List Nat)
  | 6 => ([], 8, [[], [0], [0, 1], [], [3], [0, 1, 2, 3, 4], [0, 1, 2, 3, 4, 5], []])
  | 2000001 => ([], 9, [[], [0], [0, 1], [0, 1, 2], [0, 1, 2, 3], [0, 1, 2, 3, 4], [0, 1, 2, 3, 4, 5], [0, 1, 2, 3, 4, 5, 6]])
  | 2000010 => ([], 8, [[], [0], [0, 1], [0, 1, 2], [0, 1, 2, 3], [0, 1, 2, 3, 4], [0, 1, 2, 3, 4, 5]])
  | _ => ([], 0, [])
set_option maxRecDepth 100000 in
theorem ports_Write_eq (f t : List UInt8) (p q : Int) (b : List UInt8) (h1 h2 h3 h4 h5 : Int) (d : List UInt8) (K : AVal → Hp → Prop) : fnP Try.prog Tpt11 ann_ports_Write Try.f42 [.agg [.str f, .str t, .int .i64 p, .int .i64 q, .str b], .agg [.int .i64 h1, .int .i64 h2, .int .i64 h3, .int .i64 h4, .int .i64 h5], .str d] [] K = (
  brP (!decide (h1 = (6 : Int)) && !decide (h1 = (17 : Int)))
    (K
     (AVal.tup
      [AVal.agg [AVal.str [], AVal.str [], AVal.int IntKind.i64 (0 : Int), AVal.int IntKind.i64 (0 : Int), AVal.str []],
       AVal.int IntKind.i64 (51 : Int)])
     [])
    (brP (decide ((0 : Int) ≤ h2) && decide (h2 ≤ (65535 : Int)))
     (brP (decide ((0 : Int) ≤ h3) && decide (h3 ≤ (65535 : Int)))
      (brP (decide ((0 : Int) ≤ h4))
       (brP (decide (h4 < (64 : Int)))
        (brP (decide (h5 = (0 : Int)))
         (brP (decide (h1 = (6 : Int)))
          (((0 : Int) ≤ (8 : Int) ∧ (8 : Nat) < (64 : Nat)) ∧
           ((0 : Int) ≤ (8 : Int) ∧ (8 : Nat) < (64 : Nat)) ∧
            (4 : Nat) ≤ (4611686018427387904 : Nat) ∧
             ((4 : Nat) ≤ (100 : Nat) ∧ List.length d ≤ (140737488351232 : Nat)) ∧
              optP
               (pseudo f t h1
                (↑(List.length
                   (ptBd h1 h4
                    (List.take (2 : Nat) (List.drop (0 : Nat) [b8 (h2 / (256 : Int)), b8 h2]) ++
                     List.take (2 : Nat) (List.drop (0 : Nat) [b8 (h3 / (256 : Int)), b8 h3]))
                    d (0 : Int))) :
                 Int))
               (fun x =>
                List.length
                   (ptBd h1 h4
                    (List.take (2 : Nat) (List.drop (0 : Nat) [b8 (h2 / (256 : Int)), b8 h2]) ++
                     List.take (2 : Nat) (List.drop (0 : Nat) [b8 (h3 / (256 : Int)), b8 h3]))
                    d (0 : Int)) ≤
                  (140737488355328 : Nat) ∧
                 ((2 : Nat) ≤ (1000 : Nat) ∧
                   List.length
                     (List.flatten
                      [List.take (List.length x) (List.drop (0 : Nat) x),
                       List.take
                        (List.length
                         (ptBd h1 h4
                          (List.take (2 : Nat) (List.drop (0 : Nat) [b8 (h2 / (256 : Int)), b8 h2]) ++
                           List.take (2 : Nat) (List.drop (0 : Nat) [b8 (h3 / (256 : Int)), b8 h3]))
                          d (0 : Int)))
                        (List.drop (0 : Nat)
                         (ptBd h1 h4
                          (List.take (2 : Nat) (List.drop (0 : Nat) [b8 (h2 / (256 : Int)), b8 h2]) ++
                           List.take (2 : Nat) (List.drop (0 : Nat) [b8 (h3 / (256 : Int)), b8 h3]))
                          d (0 : Int)))]) ≤
                    (562949953421312 : Nat)) ∧
                  brP
                   (decide
                     ((65535 : Int) -
                       sumB
                        (List.flatten
                         [List.take (List.length x) (List.drop (0 : Nat) x),
                          List.take
                           (List.length
                            (ptBd h1 h4
                             (List.take (2 : Nat) (List.drop (0 : Nat) [b8 (h2 / (256 : Int)), b8 h2]) ++
                              List.take (2 : Nat) (List.drop (0 : Nat) [b8 (h3 / (256 : Int)), b8 h3]))
                             d (0 : Int)))
                           (List.drop (0 : Nat)
                            (ptBd h1 h4
                             (List.take (2 : Nat) (List.drop (0 : Nat) [b8 (h2 / (256 : Int)), b8 h2]) ++
                              List.take (2 : Nat) (List.drop (0 : Nat) [b8 (h3 / (256 : Int)), b8 h3]))
                             d (0 : Int)))]) =
                      (0 : Int)) &&
                    decide (h1 = (17 : Int)))
                   (((4 : Nat) ≤ (100 : Nat) ∧ List.length d ≤ (140737488351232 : Nat)) ∧
                    optP
                     (ipEncode
                      (Ip.mk f t h1 q
                       (ptBd h1 h4
                        (List.take (2 : Nat) (List.drop (0 : Nat) [b8 (h2 / (256 : Int)), b8 h2]) ++
                         List.take (2 : Nat) (List.drop (0 : Nat) [b8 (h3 / (256 : Int)), b8 h3]))
                        d (65535 : Int))))
                     (fun x =>
                      K
                       (AVal.tup
                        [AVal.agg
                          [AVal.str f, AVal.str t, AVal.int IntKind.i64 h1, AVal.int IntKind.i64 q,
                           AVal.str
                            (ptBd h1 h4
                             (List.take (2 : Nat) (List.drop (0 : Nat) [b8 (h2 / (256 : Int)), b8 h2]) ++
                              List.take (2 : Nat) (List.drop (0 : Nat) [b8 (h3 / (256 : Int)), b8 h3]))
                             d (65535 : Int))],
                         AVal.int IntKind.i64 (0 : Int)])
                       [])
                     (K
                      (AVal.tup
                       [AVal.agg
                         [AVal.str [], AVal.str [], AVal.int IntKind.i64 (0 : Int), AVal.int IntKind.i64 (0 : Int),
                          AVal.str []],
                        AVal.int IntKind.i64 (1 : Int)])
                      []))
                   (((4 : Nat) ≤ (100 : Nat) ∧ List.length d ≤ (140737488351232 : Nat)) ∧
                    optP
                     (ipEncode
                      (Ip.mk f t h1 q
                       (ptBd h1 h4
                        (List.take (2 : Nat) (List.drop (0 : Nat) [b8 (h2 / (256 : Int)), b8 h2]) ++
                         List.take (2 : Nat) (List.drop (0 : Nat) [b8 (h3 / (256 : Int)), b8 h3]))
                        d
                        ((65535 : Int) -
                         sumB
                          (List.flatten
                           [List.take (List.length x) (List.drop (0 : Nat) x),
                            List.take
                             (List.length
                              (ptBd h1 h4
                               (List.take (2 : Nat) (List.drop (0 : Nat) [b8 (h2 / (256 : Int)), b8 h2]) ++
                                List.take (2 : Nat) (List.drop (0 : Nat) [b8 (h3 / (256 : Int)), b8 h3]))
                               d (0 : Int)))
                             (List.drop (0 : Nat)
                              (ptBd h1 h4
                               (List.take (2 : Nat) (List.drop (0 : Nat) [b8 (h2 / (256 : Int)), b8 h2]) ++
                                List.take (2 : Nat) (List.drop (0 : Nat) [b8 (h3 / (256 : Int)), b8 h3]))
                               d (0 : Int)))])))))
                     (fun x_1 =>
                      K
                       (AVal.tup
                        [AVal.agg
                          [AVal.str f, AVal.str t, AVal.int IntKind.i64 h1, AVal.int IntKind.i64 q,
                           AVal.str
                            (ptBd h1 h4
                             (List.take (2 : Nat) (List.drop (0 : Nat) [b8 (h2 / (256 : Int)), b8 h2]) ++
                              List.take (2 : Nat) (List.drop (0 : Nat) [b8 (h3 / (256 : Int)), b8 h3]))
                             d
                             ((65535 : Int) -
                              sumB
                               (List.flatten
                                [List.take (List.length x) (List.drop (0 : Nat) x),
                                 List.take
                                  (List.length
                                   (ptBd h1 h4
                                    (List.take (2 : Nat) (List.drop (0 : Nat) [b8 (h2 / (256 : Int)), b8 h2]) ++
                                     List.take (2 : Nat) (List.drop (0 : Nat) [b8 (h3 / (256 : Int)), b8 h3]))
                                    d (0 : Int)))
                                  (List.drop (0 : Nat)
                                   (ptBd h1 h4
                                    (List.take (2 : Nat) (List.drop (0 : Nat) [b8 (h2 / (256 : Int)), b8 h2]) ++
                                     List.take (2 : Nat) (List.drop (0 : Nat) [b8 (h3 / (256 : Int)), b8 h3]))
                                    d (0 : Int)))])))],
                         AVal.int IntKind.i64 (0 : Int)])
                       [])
                     (K
                      (AVal.tup
                       [AVal.agg
                         [AVal.str [], AVal.str [], AVal.int IntKind.i64 (0 : Int), AVal.int IntKind.i64 (0 : Int),
                          AVal.str []],
                        AVal.int IntKind.i64 (1 : Int)])
                      [])))
               (List.length
                  (ptBd h1 h4
                   (List.take (2 : Nat) (List.drop (0 : Nat) [b8 (h2 / (256 : Int)), b8 h2]) ++
                    List.take (2 : Nat) (List.drop (0 : Nat) [b8 (h3 / (256 : Int)), b8 h3]))
                   d (0 : Int)) ≤
                 (140737488355328 : Nat) ∧
                ((2 : Nat) ≤ (1000 : Nat) ∧
                  List.length
                    (List.flatten
                     [[],
                      List.take
                       (List.length
                        (ptBd h1 h4
                         (List.take (2 : Nat) (List.drop (0 : Nat) [b8 (h2 / (256 : Int)), b8 h2]) ++
                          List.take (2 : Nat) (List.drop (0 : Nat) [b8 (h3 / (256 : Int)), b8 h3]))
                         d (0 : Int)))
                       (List.drop (0 : Nat)
                        (ptBd h1 h4
                         (List.take (2 : Nat) (List.drop (0 : Nat) [b8 (h2 / (256 : Int)), b8 h2]) ++
                          List.take (2 : Nat) (List.drop (0 : Nat) [b8 (h3 / (256 : Int)), b8 h3]))
                         d (0 : Int)))]) ≤
                   (562949953421312 : Nat)) ∧
                 brP
                  (decide
                    ((65535 : Int) -
                      sumB
                       (List.flatten
                        [[],
                         List.take
                          (List.length
                           (ptBd h1 h4
                            (List.take (2 : Nat) (List.drop (0 : Nat) [b8 (h2 / (256 : Int)), b8 h2]) ++
                             List.take (2 : Nat) (List.drop (0 : Nat) [b8 (h3 / (256 : Int)), b8 h3]))
                            d (0 : Int)))
                          (List.drop (0 : Nat)
                           (ptBd h1 h4
                            (List.take (2 : Nat) (List.drop (0 : Nat) [b8 (h2 / (256 : Int)), b8 h2]) ++
                             List.take (2 : Nat) (List.drop (0 : Nat) [b8 (h3 / (256 : Int)), b8 h3]))
                            d (0 : Int)))]) =
                     (0 : Int)) &&
                   decide (h1 = (17 : Int)))
                  (((4 : Nat) ≤ (100 : Nat) ∧ List.length d ≤ (140737488351232 : Nat)) ∧
                   optP
                    (ipEncode
                     (Ip.mk f t h1 q
                      (ptBd h1 h4
                       (List.take (2 : Nat) (List.drop (0 : Nat) [b8 (h2 / (256 : Int)), b8 h2]) ++
                        List.take (2 : Nat) (List.drop (0 : Nat) [b8 (h3 / (256 : Int)), b8 h3]))
                       d (65535 : Int))))
                    (fun x =>
                     K
                      (AVal.tup
                       [AVal.agg
                         [AVal.str f, AVal.str t, AVal.int IntKind.i64 h1, AVal.int IntKind.i64 q,
                          AVal.str
                           (ptBd h1 h4
                            (List.take (2 : Nat) (List.drop (0 : Nat) [b8 (h2 / (256 : Int)), b8 h2]) ++
                             List.take (2 : Nat) (List.drop (0 : Nat) [b8 (h3 / (256 : Int)), b8 h3]))
                            d (65535 : Int))],
                        AVal.int IntKind.i64 (0 : Int)])
                      [])
                    (K
                     (AVal.tup
                      [AVal.agg
                        [AVal.str [], AVal.str [], AVal.int IntKind.i64 (0 : Int), AVal.int IntKind.i64 (0 : Int),
                         AVal.str []],
                       AVal.int IntKind.i64 (1 : Int)])
                     []))
                  (((4 : Nat) ≤ (100 : Nat) ∧ List.length d ≤ (140737488351232 : Nat)) ∧
                   optP
                    (ipEncode
                     (Ip.mk f t h1 q
                      (ptBd h1 h4
                       (List.take (2 : Nat) (List.drop (0 : Nat) [b8 (h2 / (256 : Int)), b8 h2]) ++
                        List.take (2 : Nat) (List.drop (0 : Nat) [b8 (h3 / (256 : Int)), b8 h3]))
                       d
                       ((65535 : Int) -
                        sumB
                         (List.flatten
                          [[],
                           List.take
                            (List.length
                             (ptBd h1 h4
                              (List.take (2 : Nat) (List.drop (0 : Nat) [b8 (h2 / (256 : Int)), b8 h2]) ++
                               List.take (2 : Nat) (List.drop (0 : Nat) [b8 (h3 / (256 : Int)), b8 h3]))
                              d (0 : Int)))
                            (List.drop (0 : Nat)
                             (ptBd h1 h4
                              (List.take (2 : Nat) (List.drop (0 : Nat) [b8 (h2 / (256 : Int)), b8 h2]) ++
                               List.take (2 : Nat) (List.drop (0 : Nat) [b8 (h3 / (256 : Int)), b8 h3]))
                              d (0 : Int)))])))))
                    (fun x =>
                     K
                      (AVal.tup
                       [AVal.agg
                         [AVal.str f, AVal.str t, AVal.int IntKind.i64 h1, AVal.int IntKind.i64 q,
                          AVal.str
                           (ptBd h1 h4
                            (List.take (2 : Nat) (List.drop (0 : Nat) [b8 (h2 / (256 : Int)), b8 h2]) ++
                             List.take (2 : Nat) (List.drop (0 : Nat) [b8 (h3 / (256 : Int)), b8 h3]))
                            d
                            ((65535 : Int) -
                             sumB
                              (List.flatten
                               [[],
                                List.take
                                 (List.length
                                  (ptBd h1 h4
                                   (List.take (2 : Nat) (List.drop (0 : Nat) [b8 (h2 / (256 : Int)), b8 h2]) ++
                                    List.take (2 : Nat) (List.drop (0 : Nat) [b8 (h3 / (256 : Int)), b8 h3]))
                                   d (0 : Int)))
                                 (List.drop (0 : Nat)
                                  (ptBd h1 h4
                                   (List.take (2 : Nat) (List.drop (0 : Nat) [b8 (h2 / (256 : Int)), b8 h2]) ++
                                    List.take (2 : Nat) (List.drop (0 : Nat) [b8 (h3 / (256 : Int)), b8 h3]))
                                   d (0 : Int)))])))],
                        AVal.int IntKind.i64 (0 : Int)])
                      [])
                    (K
                     (AVal.tup
                      [AVal.agg
                        [AVal.str [], AVal.str [], AVal.int IntKind.i64 (0 : Int), AVal.int IntKind.i64 (0 : Int),
                         AVal.str []],
                       AVal.int IntKind.i64 (1 : Int)])
                     []))))
          (brP (!decide (h4 = (0 : Int)))
           (K
            (AVal.tup
             [AVal.agg
               [AVal.str [], AVal.str [], AVal.int IntKind.i64 (0 : Int), AVal.int IntKind.i64 (0 : Int), AVal.str []],
              AVal.int IntKind.i64 (1 : Int)])
            [])
           (((0 : Int) ≤ (8 : Int) ∧ (8 : Nat) < (64 : Nat)) ∧
            ((0 : Int) ≤ (8 : Int) ∧ (8 : Nat) < (64 : Nat)) ∧
             (4 : Nat) ≤ (4611686018427387904 : Nat) ∧
              ((4 : Nat) ≤ (100 : Nat) ∧ List.length d ≤ (140737488351232 : Nat)) ∧
               optP
                (pseudo f t h1
                 (↑(List.length
                    (ptBd h1 h4
                     (List.take (2 : Nat) (List.drop (0 : Nat) [b8 (h2 / (256 : Int)), b8 h2]) ++
                      List.take (2 : Nat) (List.drop (0 : Nat) [b8 (h3 / (256 : Int)), b8 h3]))
                     d (0 : Int))) :
                  Int))
                (fun x =>
                 List.length
                    (ptBd h1 h4
                     (List.take (2 : Nat) (List.drop (0 : Nat) [b8 (h2 / (256 : Int)), b8 h2]) ++
                      List.take (2 : Nat) (List.drop (0 : Nat) [b8 (h3 / (256 : Int)), b8 h3]))
                     d (0 : Int)) ≤
                   (140737488355328 : Nat) ∧
                  ((2 : Nat) ≤ (1000 : Nat) ∧
                    List.length
                      (List.flatten
                       [List.take (List.length x) (List.drop (0 : Nat) x),
                        List.take
                         (List.length
                          (ptBd h1 h4
                           (List.take (2 : Nat) (List.drop (0 : Nat) [b8 (h2 / (256 : Int)), b8 h2]) ++
                            List.take (2 : Nat) (List.drop (0 : Nat) [b8 (h3 / (256 : Int)), b8 h3]))
                           d (0 : Int)))
                         (List.drop (0 : Nat)
                          (ptBd h1 h4
                           (List.take (2 : Nat) (List.drop (0 : Nat) [b8 (h2 / (256 : Int)), b8 h2]) ++
                            List.take (2 : Nat) (List.drop (0 : Nat) [b8 (h3 / (256 : Int)), b8 h3]))
                           d (0 : Int)))]) ≤
                     (562949953421312 : Nat)) ∧
                   brP
                    (decide
                      ((65535 : Int) -
                        sumB
                         (List.flatten
                          [List.take (List.length x) (List.drop (0 : Nat) x),
                           List.take
                            (List.length
                             (ptBd h1 h4
                              (List.take (2 : Nat) (List.drop (0 : Nat) [b8 (h2 / (256 : Int)), b8 h2]) ++
                               List.take (2 : Nat) (List.drop (0 : Nat) [b8 (h3 / (256 : Int)), b8 h3]))
                              d (0 : Int)))
                            (List.drop (0 : Nat)
                             (ptBd h1 h4
                              (List.take (2 : Nat) (List.drop (0 : Nat) [b8 (h2 / (256 : Int)), b8 h2]) ++
                               List.take (2 : Nat) (List.drop (0 : Nat) [b8 (h3 / (256 : Int)), b8 h3]))
                              d (0 : Int)))]) =
                       (0 : Int)) &&
                     decide (h1 = (17 : Int)))
                    (((4 : Nat) ≤ (100 : Nat) ∧ List.length d ≤ (140737488351232 : Nat)) ∧
                     optP
                      (ipEncode
                       (Ip.mk f t h1 q
                        (ptBd h1 h4
                         (List.take (2 : Nat) (List.drop (0 : Nat) [b8 (h2 / (256 : Int)), b8 h2]) ++
                          List.take (2 : Nat) (List.drop (0 : Nat) [b8 (h3 / (256 : Int)), b8 h3]))
                         d (65535 : Int))))
                      (fun x =>
                       K
                        (AVal.tup
                         [AVal.agg
                           [AVal.str f, AVal.str t, AVal.int IntKind.i64 h1, AVal.int IntKind.i64 q,
                            AVal.str
                             (ptBd h1 h4
                              (List.take (2 : Nat) (List.drop (0 : Nat) [b8 (h2 / (256 : Int)), b8 h2]) ++
                               List.take (2 : Nat) (List.drop (0 : Nat) [b8 (h3 / (256 : Int)), b8 h3]))
                              d (65535 : Int))],
                          AVal.int IntKind.i64 (0 : Int)])
                        [])
                      (K
                       (AVal.tup
                        [AVal.agg
                          [AVal.str [], AVal.str [], AVal.int IntKind.i64 (0 : Int), AVal.int IntKind.i64 (0 : Int),
                           AVal.str []],
                         AVal.int IntKind.i64 (1 : Int)])
                       []))
                    (((4 : Nat) ≤ (100 : Nat) ∧ List.length d ≤ (140737488351232 : Nat)) ∧
                     optP
                      (ipEncode
                       (Ip.mk f t h1 q
                        (ptBd h1 h4
                         (List.take (2 : Nat) (List.drop (0 : Nat) [b8 (h2 / (256 : Int)), b8 h2]) ++
                          List.take (2 : Nat) (List.drop (0 : Nat) [b8 (h3 / (256 : Int)), b8 h3]))
                         d
                         ((65535 : Int) -
                          sumB
                           (List.flatten
                            [List.take (List.length x) (List.drop (0 : Nat) x),
                             List.take
                              (List.length
                               (ptBd h1 h4
                                (List.take (2 : Nat) (List.drop (0 : Nat) [b8 (h2 / (256 : Int)), b8 h2]) ++
                                 List.take (2 : Nat) (List.drop (0 : Nat) [b8 (h3 / (256 : Int)), b8 h3]))
                                d (0 : Int)))
                              (List.drop (0 : Nat)
                               (ptBd h1 h4
                                (List.take (2 : Nat) (List.drop (0 : Nat) [b8 (h2 / (256 : Int)), b8 h2]) ++
                                 List.take (2 : Nat) (List.drop (0 : Nat) [b8 (h3 / (256 : Int)), b8 h3]))
                                d (0 : Int)))])))))
                      (fun x_1 =>
                       K
                        (AVal.tup
                         [AVal.agg
                           [AVal.str f, AVal.str t, AVal.int IntKind.i64 h1, AVal.int IntKind.i64 q,
                            AVal.str
                             (ptBd h1 h4
                              (List.take (2 : Nat) (List.drop (0 : Nat) [b8 (h2 / (256 : Int)), b8 h2]) ++
                               List.take (2 : Nat) (List.drop (0 : Nat) [b8 (h3 / (256 : Int)), b8 h3]))
                              d
                              ((65535 : Int) -
                               sumB
                                (List.flatten
                                 [List.take (List.length x) (List.drop (0 : Nat) x),
                                  List.take
                                   (List.length
                                    (ptBd h1 h4
                                     (List.take (2 : Nat) (List.drop (0 : Nat) [b8 (h2 / (256 : Int)), b8 h2]) ++
                                      List.take (2 : Nat) (List.drop (0 : Nat) [b8 (h3 / (256 : Int)), b8 h3]))
                                     d (0 : Int)))
                                   (List.drop (0 : Nat)
                                    (ptBd h1 h4
                                     (List.take (2 : Nat) (List.drop (0 : Nat) [b8 (h2 / (256 : Int)), b8 h2]) ++
                                      List.take (2 : Nat) (List.drop (0 : Nat) [b8 (h3 / (256 : Int)), b8 h3]))
                                     d (0 : Int)))])))],
                          AVal.int IntKind.i64 (0 : Int)])
                        [])
                      (K
                       (AVal.tup
                        [AVal.agg
                          [AVal.str [], AVal.str [], AVal.int IntKind.i64 (0 : Int), AVal.int IntKind.i64 (0 : Int),
                           AVal.str []],
                         AVal.int IntKind.i64 (1 : Int)])
                       [])))
                (List.length
                   (ptBd h1 h4
                    (List.take (2 : Nat) (List.drop (0 : Nat) [b8 (h2 / (256 : Int)), b8 h2]) ++
                     List.take (2 : Nat) (List.drop (0 : Nat) [b8 (h3 / (256 : Int)), b8 h3]))
                    d (0 : Int)) ≤
                  (140737488355328 : Nat) ∧
                 ((2 : Nat) ≤ (1000 : Nat) ∧
                   List.length
                     (List.flatten
                      [[],
                       List.take
                        (List.length
                         (ptBd h1 h4
                          (List.take (2 : Nat) (List.drop (0 : Nat) [b8 (h2 / (256 : Int)), b8 h2]) ++
                           List.take (2 : Nat) (List.drop (0 : Nat) [b8 (h3 / (256 : Int)), b8 h3]))
                          d (0 : Int)))
                        (List.drop (0 : Nat)
                         (ptBd h1 h4
                          (List.take (2 : Nat) (List.drop (0 : Nat) [b8 (h2 / (256 : Int)), b8 h2]) ++
                           List.take (2 : Nat) (List.drop (0 : Nat) [b8 (h3 / (256 : Int)), b8 h3]))
                          d (0 : Int)))]) ≤
                    (562949953421312 : Nat)) ∧
                  brP
                   (decide
                     ((65535 : Int) -
                       sumB
                        (List.flatten
                         [[],
                          List.take
                           (List.length
                            (ptBd h1 h4
                             (List.take (2 : Nat) (List.drop (0 : Nat) [b8 (h2 / (256 : Int)), b8 h2]) ++
                              List.take (2 : Nat) (List.drop (0 : Nat) [b8 (h3 / (256 : Int)), b8 h3]))
                             d (0 : Int)))
                           (List.drop (0 : Nat)
                            (ptBd h1 h4
                             (List.take (2 : Nat) (List.drop (0 : Nat) [b8 (h2 / (256 : Int)), b8 h2]) ++
                              List.take (2 : Nat) (List.drop (0 : Nat) [b8 (h3 / (256 : Int)), b8 h3]))
                             d (0 : Int)))]) =
                      (0 : Int)) &&
                    decide (h1 = (17 : Int)))
                   (((4 : Nat) ≤ (100 : Nat) ∧ List.length d ≤ (140737488351232 : Nat)) ∧
                    optP
                     (ipEncode
                      (Ip.mk f t h1 q
                       (ptBd h1 h4
                        (List.take (2 : Nat) (List.drop (0 : Nat) [b8 (h2 / (256 : Int)), b8 h2]) ++
                         List.take (2 : Nat) (List.drop (0 : Nat) [b8 (h3 / (256 : Int)), b8 h3]))
                        d (65535 : Int))))
                     (fun x =>
                      K
                       (AVal.tup
                        [AVal.agg
                          [AVal.str f, AVal.str t, AVal.int IntKind.i64 h1, AVal.int IntKind.i64 q,
                           AVal.str
                            (ptBd h1 h4
                             (List.take (2 : Nat) (List.drop (0 : Nat) [b8 (h2 / (256 : Int)), b8 h2]) ++
                              List.take (2 : Nat) (List.drop (0 : Nat) [b8 (h3 / (256 : Int)), b8 h3]))
                             d (65535 : Int))],
                         AVal.int IntKind.i64 (0 : Int)])
                       [])
                     (K
                      (AVal.tup
                       [AVal.agg
                         [AVal.str [], AVal.str [], AVal.int IntKind.i64 (0 : Int), AVal.int IntKind.i64 (0 : Int),
                          AVal.str []],
                        AVal.int IntKind.i64 (1 : Int)])
                      []))
                   (((4 : Nat) ≤ (100 : Nat) ∧ List.length d ≤ (140737488351232 : Nat)) ∧
                    optP
                     (ipEncode
                      (Ip.mk f t h1 q
                       (ptBd h1 h4
                        (List.take (2 : Nat) (List.drop (0 : Nat) [b8 (h2 / (256 : Int)), b8 h2]) ++
                         List.take (2 : Nat) (List.drop (0 : Nat) [b8 (h3 / (256 : Int)), b8 h3]))
                        d
                        ((65535 : Int) -
                         sumB
                          (List.flatten
                           [[],
                            List.take
                             (List.length
                              (ptBd h1 h4
                               (List.take (2 : Nat) (List.drop (0 : Nat) [b8 (h2 / (256 : Int)), b8 h2]) ++
                                List.take (2 : Nat) (List.drop (0 : Nat) [b8 (h3 / (256 : Int)), b8 h3]))
                               d (0 : Int)))
                             (List.drop (0 : Nat)
                              (ptBd h1 h4
                               (List.take (2 : Nat) (List.drop (0 : Nat) [b8 (h2 / (256 : Int)), b8 h2]) ++
                                List.take (2 : Nat) (List.drop (0 : Nat) [b8 (h3 / (256 : Int)), b8 h3]))
                               d (0 : Int)))])))))
                     (fun x =>
                      K
                       (AVal.tup
                        [AVal.agg
                          [AVal.str f, AVal.str t, AVal.int IntKind.i64 h1, AVal.int IntKind.i64 q,
                           AVal.str
                            (ptBd h1 h4
                             (List.take (2 : Nat) (List.drop (0 : Nat) [b8 (h2 / (256 : Int)), b8 h2]) ++
                              List.take (2 : Nat) (List.drop (0 : Nat) [b8 (h3 / (256 : Int)), b8 h3]))
                             d
                             ((65535 : Int) -
                              sumB
                               (List.flatten
                                [[],
                                 List.take
                                  (List.length
                                   (ptBd h1 h4
                                    (List.take (2 : Nat) (List.drop (0 : Nat) [b8 (h2 / (256 : Int)), b8 h2]) ++
                                     List.take (2 : Nat) (List.drop (0 : Nat) [b8 (h3 / (256 : Int)), b8 h3]))
                                    d (0 : Int)))
                                  (List.drop (0 : Nat)
                                   (ptBd h1 h4
                                    (List.take (2 : Nat) (List.drop (0 : Nat) [b8 (h2 / (256 : Int)), b8 h2]) ++
                                     List.take (2 : Nat) (List.drop (0 : Nat) [b8 (h3 / (256 : Int)), b8 h3]))
                                    d (0 : Int)))])))],
                         AVal.int IntKind.i64 (0 : Int)])
                       [])
                     (K
                      (AVal.tup
                       [AVal.agg
                         [AVal.str [], AVal.str [], AVal.int IntKind.i64 (0 : Int), AVal.int IntKind.i64 (0 : Int),
                          AVal.str []],
                        AVal.int IntKind.i64 (1 : Int)])
                      []))))))
         (K
          (AVal.tup
           [AVal.agg
             [AVal.str [], AVal.str [], AVal.int IntKind.i64 (0 : Int), AVal.int IntKind.i64 (0 : Int), AVal.str []],
            AVal.int IntKind.i64 (1 : Int)])
          []))
        (K
         (AVal.tup
          [AVal.agg
            [AVal.str [], AVal.str [], AVal.int IntKind.i64 (0 : Int), AVal.int IntKind.i64 (0 : Int), AVal.str []],
           AVal.int IntKind.i64 (1 : Int)])
         []))
       (K
        (AVal.tup
         [AVal.agg
           [AVal.str [], AVal.str [], AVal.int IntKind.i64 (0 : Int), AVal.int IntKind.i64 (0 : Int), AVal.str []],
          AVal.int IntKind.i64 (1 : Int)])
        []))
      (K
       (AVal.tup
        [AVal.agg [AVal.str [], AVal.str [], AVal.int IntKind.i64 (0 : Int), AVal.int IntKind.i64 (0 : Int), AVal.str []],
         AVal.int IntKind.i64 (1 : Int)])
       []))
     (K
      (AVal.tup
       [AVal.agg [AVal.str [], AVal.str [], AVal.int IntKind.i64 (0 : Int), AVal.int IntKind.i64 (0 : Int), AVal.str []],
        AVal.int IntKind.i64 (1 : Int)])
      []))) := by kernel_rfl
set_option maxHeartbeats 4000000 in
theorem ports_Write_p : ∀ args H K, ptWriteRow args H K → fnP Try.prog Tpt11 ann_ports_Write Try.f42 args H K := by
  intro args H K h
  unfold ptWriteRow at h
  split at h
  · rename_i f t p q b h1 h2 h3 h4 h5 d
    rw [ports_Write_eq]
    obtain ⟨hd, hK⟩ := h
    try simp only [or_w16, div2, div3, add_w16, and255, b8_mod, List.set_cons_zero, List.set_cons_succ, andNot_4000, getD_drop, getD_take, b8_byte, b8_toNatN, UInt8.toNat_ofNat', UInt8.toNat_and, nat_mask4, nat_mask6, nat_240, u8_eq_iff, UInt8.reduceToNat, Int.reduceLT, List.take_succ_cons, List.take_zero, List.drop_zero, List.flatten_cons, List.flatten_nil, List.append_nil, List.nil_append, List.take_length, Nat.mul_one, Nat.zero_add, Nat.reduceAdd, Nat.reduceLT]
    simp only [two_def]
    have hb : ∀ s, (ptBd h1 h4 (two h2 ++ two h3) d s).length ≤ d.length + 20 := fun s => by rw [ptBd_len]; split <;> simp [two] <;> omega
    have hb0 := hb 0
    cases hps : pseudo f t h1 ((ptBd h1 h4 (two h2 ++ two h3) d 0).length : Int) with
    | none =>
      have hpk := ptPacket_is (p := ⟨f, t, p, q, b⟩) (h := ⟨h1, h2, h3, h4, h5⟩) (d := d) (l := []) (by unfold pseudoL; rw [show pseudo f t h1 ((ptBody ⟨h1, h2, h3, h4, h5⟩ d 0).length : Int) = _ from hps]; rfl)
      simp only [optP, or_w16, div2, div3, add_w16, and255, b8_mod, List.set_cons_zero, List.set_cons_succ, andNot_4000, getD_drop, getD_take, b8_byte, b8_toNatN, UInt8.toNat_ofNat', UInt8.toNat_and, nat_mask4, nat_mask6, nat_240, u8_eq_iff, UInt8.reduceToNat, Int.reduceLT, List.take_succ_cons, List.take_zero, List.drop_zero, List.flatten_cons, List.flatten_nil, List.append_nil, List.nil_append, List.take_length, Nat.mul_one, Nat.zero_add, Nat.reduceAdd, Nat.reduceLT]
      simp only [ptBody, List.nil_append] at hpk
      rcases ptWrite_cases ⟨f, t, p, q, b⟩ ⟨h1, h2, h3, h4, h5⟩ d with ⟨k1, e⟩ | ⟨k1, k2, k3, e⟩ | ⟨k1, k2, e⟩ <;> simp only [hdOk_iff] at * <;> rw [e] at hK <;> clear e <;> simp only [noIp] at hK
      all_goals by_cases hz : 65535 - sumB (ptBd h1 h4 (two h2 ++ two h3) d 0) = 0 ∧ h1 = 17
      all_goals first | have e := hpk.1 hz | have e := hpk.2 hz
      all_goals try simp only [e] at hK
      all_goals try rw [e] at k3
      all_goals try rw [e] at k2
      all_goals clear hpk e
      all_goals (repeat' first | (refine And.intro (by first | first | omega | with_reducible exact i64_x256 _ | with_reducible exact i64_w16 _ _ | with_reducible exact i64_sum _ | (repeat' first | with_reducible exact i64_x256 _ | with_reducible exact i64_w16 _ _ | with_reducible exact i64_sum _ | with_reducible apply And.intro) <;> first | omega | (simp only [I64]; omega) | (simp; omega) | (simp; done) | (simp [I64]; omega) | (with_reducible refine impP_i (fun hg => ?_) <;> (try simp only [Bool.and_eq_true, Bool.or_eq_true, Bool.and_eq_false_iff, Bool.or_eq_false_iff, decide_eq_true_eq, decide_eq_false_iff_not, Bool.not_eq_true', Bool.not_eq_false', Bool.not_true, Bool.not_false, Bool.true_and, Bool.and_true, Bool.false_or, Bool.or_false, beq_iff_eq, beq_eq_false_iff_ne, ne_eq] at hg) <;> (first | omega | with_reducible exact i64_x256 _ | with_reducible exact i64_w16 _ _ | with_reducible exact i64_sum _ | (repeat' first | with_reducible exact i64_x256 _ | with_reducible exact i64_w16 _ _ | with_reducible exact i64_sum _ | with_reducible apply And.intro) <;> first | omega | (simp only [I64]; omega) | (simp; omega) | (simp; done) | (simp [I64]; omega)))) ?_) | (refine brP_d (fun h => ?_) (fun h => ?_)) | (refine optP_i (fun x hx => ?_) (fun hx => ?_) <;> (try have hxl := pseudo_len hx)) | (refine brP_nd (fun h => ?_) (fun h => ?_)) | (refine brP_i (fun h => ?_) (fun h => ?_) <;> (try simp only [Bool.and_eq_true, Bool.or_eq_true, Bool.and_eq_false_iff, Bool.or_eq_false_iff, decide_eq_true_eq, decide_eq_false_iff_not, Bool.not_eq_true', Bool.not_eq_false', Bool.not_true, Bool.not_false, Bool.true_and, Bool.and_true, Bool.false_or, Bool.or_false, beq_iff_eq, beq_eq_false_iff_ne, ne_eq] at h)))
      all_goals try (refine optP_i (fun x hx => ?_) (fun hx => ?_))
      all_goals (first | (have hok := ipEnc_some hx) | (have hok := ipEnc_none hx) | skip)
      all_goals first
        | exact hK
        | (exfalso; omega)
        | grind
    | some l =>
      have hpl := pseudo_len hps
      have hpk := ptPacket_is (p := ⟨f, t, p, q, b⟩) (h := ⟨h1, h2, h3, h4, h5⟩) (d := d) (l := l) (by unfold pseudoL; rw [show pseudo f t h1 ((ptBody ⟨h1, h2, h3, h4, h5⟩ d 0).length : Int) = _ from hps]; rfl)
      simp only [optP, or_w16, div2, div3, add_w16, and255, b8_mod, List.set_cons_zero, List.set_cons_succ, andNot_4000, getD_drop, getD_take, b8_byte, b8_toNatN, UInt8.toNat_ofNat', UInt8.toNat_and, nat_mask4, nat_mask6, nat_240, u8_eq_iff, UInt8.reduceToNat, Int.reduceLT, List.take_succ_cons, List.take_zero, List.drop_zero, List.flatten_cons, List.flatten_nil, List.append_nil, List.nil_append, List.take_length, Nat.mul_one, Nat.zero_add, Nat.reduceAdd, Nat.reduceLT]
      simp only [ptBody, List.nil_append] at hpk
      rcases ptWrite_cases ⟨f, t, p, q, b⟩ ⟨h1, h2, h3, h4, h5⟩ d with ⟨k1, e⟩ | ⟨k1, k2, k3, e⟩ | ⟨k1, k2, e⟩ <;> simp only [hdOk_iff] at * <;> rw [e] at hK <;> clear e <;> simp only [noIp] at hK
      all_goals by_cases hz : 65535 - sumB (l ++ ptBd h1 h4 (two h2 ++ two h3) d 0) = 0 ∧ h1 = 17
      all_goals first | have e := hpk.1 hz | have e := hpk.2 hz
      all_goals try simp only [e] at hK
      all_goals try rw [e] at k3
      all_goals try rw [e] at k2
      all_goals clear hpk e
      all_goals (repeat' first | (refine And.intro (by first | first | omega | with_reducible exact i64_x256 _ | with_reducible exact i64_w16 _ _ | with_reducible exact i64_sum _ | (repeat' first | with_reducible exact i64_x256 _ | with_reducible exact i64_w16 _ _ | with_reducible exact i64_sum _ | with_reducible apply And.intro) <;> first | omega | (simp only [I64]; omega) | (simp; omega) | (simp; done) | (simp [I64]; omega) | (with_reducible refine impP_i (fun hg => ?_) <;> (try simp only [Bool.and_eq_true, Bool.or_eq_true, Bool.and_eq_false_iff, Bool.or_eq_false_iff, decide_eq_true_eq, decide_eq_false_iff_not, Bool.not_eq_true', Bool.not_eq_false', Bool.not_true, Bool.not_false, Bool.true_and, Bool.and_true, Bool.false_or, Bool.or_false, beq_iff_eq, beq_eq_false_iff_ne, ne_eq] at hg) <;> (first | omega | with_reducible exact i64_x256 _ | with_reducible exact i64_w16 _ _ | with_reducible exact i64_sum _ | (repeat' first | with_reducible exact i64_x256 _ | with_reducible exact i64_w16 _ _ | with_reducible exact i64_sum _ | with_reducible apply And.intro) <;> first | omega | (simp only [I64]; omega) | (simp; omega) | (simp; done) | (simp [I64]; omega)))) ?_) | (refine brP_d (fun h => ?_) (fun h => ?_)) | (refine optP_i (fun x hx => ?_) (fun hx => ?_) <;> (try have hxl := pseudo_len hx)) | (refine brP_nd (fun h => ?_) (fun h => ?_)) | (refine brP_i (fun h => ?_) (fun h => ?_) <;> (try simp only [Bool.and_eq_true, Bool.or_eq_true, Bool.and_eq_false_iff, Bool.or_eq_false_iff, decide_eq_true_eq, decide_eq_false_iff_not, Bool.not_eq_true', Bool.not_eq_false', Bool.not_true, Bool.not_false, Bool.true_and, Bool.and_true, Bool.false_or, Bool.or_false, beq_iff_eq, beq_eq_false_iff_ne, ne_eq] at h)))
      all_goals try (refine optP_i (fun x hx => ?_) (fun hx => ?_))
      all_goals (first | (have hok := ipEnc_some hx) | (have hok := ipEnc_none hx) | skip)
      all_goals first
        | exact hK
        | (exfalso; omega)
        | grind
  · exact h.elim
def Tpt12 : Specs := ext Tpt11 42 (ptWriteRow)
theorem Tpt12_sound : TSound Try.prog Tpt12 := ext_sound Tpt11_sound (row_of Tpt11_sound mixed Try.func42 (by decide +kernel) ports_Write_p)
def ann_ports_shape : Nat → List Nat × Nat × List (List Nat)
  | 7 => ([], 9, [[], [0], [], [2], [], [4], [2, 3, 4, 5], [0, 1, 2, 3, 4, 5, 6], []])
  | 12 => ([], 12, [[10], [], [0], [0, 1], [0, 1, 2], [0, 1, 2, 3], [], [5], [5, 6], [5, 6, 7], [0, 1, 2, 3, 4], [0, 1, 2, 3, 4, 9], [0, 1, 2, 3, 4, 5, 6, 7, 8, 9, 10]])
  | 2000002 => ([], 9, [[], [0], [0, 1], [0, 1, 2], [0, 1, 2, 3], [0, 1, 2, 3, 4], [0, 1, 2, 3, 4, 5], [0, 1, 2, 3, 4, 5, 6]])
  | 2000004 => ([], 9, [[], [0], [0, 1], [0, 1, 2], [0, 1, 2, 3], [0, 1, 2, 3, 4], [0, 1, 2, 3, 4, 5], [0, 1, 2, 3, 4, 5, 6]])
  | 2000013 => ([], 11, [[], [0], [0, 1], [0, 1, 2], [0, 1, 2, 3], [0, 1, 2, 3, 4], [0, 1, 2, 3, 4, 5], [0, 1, 2, 3, 4, 5, 6], [0, 1, 2, 3, 4, 5, 6, 7], [0, 1, 2, 3, 4, 5, 6, 7, 8]])
  | _ => ([], 0, [])
set_option maxRecDepth 100000 in
theorem ports_shape_eq (f t : List UInt8) (p q : Int) (b : List UInt8) (K : AVal → Hp → Prop) : fnP Try.prog Tpt12 ann_ports_shape Try.f26 [.agg [.str f, .str t, .int .i64 p, .int .i64 q, .str b]] [] K = (
  brP (!decide (p = (6 : Int)) && !decide (p = (17 : Int)))
    (K
     (AVal.tup
      [AVal.agg
        [AVal.int IntKind.i64 (0 : Int), AVal.int IntKind.i64 (0 : Int), AVal.int IntKind.i64 (0 : Int),
         AVal.int IntKind.i64 (0 : Int), AVal.int IntKind.i64 (0 : Int)],
       AVal.int IntKind.i64 (51 : Int)])
     [])
    (brP (decide (p = (6 : Int)) && decide ((↑(List.length b) : Int) < (20 : Int)))
     (K
      (AVal.tup
       [AVal.agg
         [AVal.int IntKind.i64 (0 : Int), AVal.int IntKind.i64 (0 : Int), AVal.int IntKind.i64 (0 : Int),
          AVal.int IntKind.i64 (0 : Int), AVal.int IntKind.i64 (0 : Int)],
        AVal.int IntKind.i64 (50 : Int)])
      [])
     (brP (decide ((↑(List.length b) : Int) < (8 : Int)))
      (K
       (AVal.tup
        [AVal.agg
          [AVal.int IntKind.i64 (0 : Int), AVal.int IntKind.i64 (0 : Int), AVal.int IntKind.i64 (0 : Int),
           AVal.int IntKind.i64 (0 : Int), AVal.int IntKind.i64 (0 : Int)],
         AVal.int IntKind.i64 (50 : Int)])
       [])
      (((0 : Int) ≤ (0 : Int) ∧ (0 : Int) < (↑(List.length b) : Int)) ∧
       ((0 : Int) ≤ (8 : Int) ∧
         (8 : Int) < (64 : Int) ∧ I64 ((↑(UInt8.toNat (List.getD b (0 : Nat) (0 : UInt8))) : Int) * (256 : Int))) ∧
        ((0 : Int) ≤ (1 : Int) ∧ (1 : Int) < (↑(List.length b) : Int)) ∧
         ((0 : Int) ≤ (2 : Int) ∧ (2 : Int) ≤ (↑(List.length b) : Int)) ∧
          ((0 : Int) ≤ (0 : Int) ∧ (0 : Int) < (↑(List.length (List.drop (2 : Nat) b)) : Int)) ∧
           ((0 : Int) ≤ (8 : Int) ∧
             (8 : Int) < (64 : Int) ∧
              I64 ((↑(UInt8.toNat (List.getD (List.drop (2 : Nat) b) (0 : Nat) (0 : UInt8))) : Int) * (256 : Int))) ∧
            ((0 : Int) ≤ (1 : Int) ∧ (1 : Int) < (↑(List.length (List.drop (2 : Nat) b)) : Int)) ∧
             brP (decide (p = (17 : Int)))
              (((0 : Int) ≤ (4 : Int) ∧ (4 : Int) ≤ (↑(List.length b) : Int)) ∧
               ((0 : Int) ≤ (0 : Int) ∧ (0 : Int) < (↑(List.length (List.drop (4 : Nat) b)) : Int)) ∧
                ((0 : Int) ≤ (8 : Int) ∧
                  (8 : Int) < (64 : Int) ∧
                   I64 ((↑(UInt8.toNat (List.getD (List.drop (4 : Nat) b) (0 : Nat) (0 : UInt8))) : Int) * (256 : Int))) ∧
                 ((0 : Int) ≤ (1 : Int) ∧ (1 : Int) < (↑(List.length (List.drop (4 : Nat) b)) : Int)) ∧
                  brP
                   (!decide
                     (bits BinOp.or IntKind.i64
                       ((↑(UInt8.toNat (List.getD (List.drop (4 : Nat) b) (0 : Nat) (0 : UInt8))) : Int) * (256 : Int))
                       (↑(UInt8.toNat (List.getD (List.drop (4 : Nat) b) (1 : Nat) (0 : UInt8))) : Int) =
                      (↑(List.length b) : Int)))
                   (K
                    (AVal.tup
                     [AVal.agg
                       [AVal.int IntKind.i64 (0 : Int), AVal.int IntKind.i64 (0 : Int), AVal.int IntKind.i64 (0 : Int),
                        AVal.int IntKind.i64 (0 : Int), AVal.int IntKind.i64 (0 : Int)],
                      AVal.int IntKind.i64 (53 : Int)])
                    [])
                   (K
                    (AVal.tup
                     [AVal.agg
                       [AVal.int IntKind.i64 p,
                        AVal.int IntKind.i64
                         (bits BinOp.or IntKind.i64
                          ((↑(UInt8.toNat (List.getD b (0 : Nat) (0 : UInt8))) : Int) * (256 : Int))
                          (↑(UInt8.toNat (List.getD b (1 : Nat) (0 : UInt8))) : Int)),
                        AVal.int IntKind.i64
                         (bits BinOp.or IntKind.i64
                          ((↑(UInt8.toNat (List.getD (List.drop (2 : Nat) b) (0 : Nat) (0 : UInt8))) : Int) * (256 : Int))
                          (↑(UInt8.toNat (List.getD (List.drop (2 : Nat) b) (1 : Nat) (0 : UInt8))) : Int)),
                        AVal.int IntKind.i64 (0 : Int), AVal.int IntKind.i64 (8 : Int)],
                      AVal.int IntKind.i64 (0 : Int)])
                    []))
              (((0 : Int) ≤ (12 : Int) ∧ (12 : Int) < (↑(List.length b) : Int)) ∧
               ((0 : Int) ≤ (4 : Int) ∧ (4 : Int) < (8 : Int)) ∧
                I64
                  ((↑(UInt8.toNat (b8 ((↑(UInt8.toNat (List.getD b (12 : Nat) (0 : UInt8))) : Int) / (16 : Int)))) :
                    Int) *
                   (4 : Int)) ∧
                 ((0 : Int) ≤ (13 : Int) ∧ (13 : Int) < (↑(List.length b) : Int)) ∧
                  brP
                   (decide
                     ((↑(UInt8.toNat (b8 ((↑(UInt8.toNat (List.getD b (12 : Nat) (0 : UInt8))) : Int) / (16 : Int)))) :
                        Int) *
                       (4 : Int) <
                      (20 : Int)) ||
                    decide
                     ((↑(List.length b) : Int) <
                      (↑(UInt8.toNat (b8 ((↑(UInt8.toNat (List.getD b (12 : Nat) (0 : UInt8))) : Int) / (16 : Int)))) :
                        Int) *
                       (4 : Int)))
                   (K
                    (AVal.tup
                     [AVal.agg
                       [AVal.int IntKind.i64 (0 : Int), AVal.int IntKind.i64 (0 : Int), AVal.int IntKind.i64 (0 : Int),
                        AVal.int IntKind.i64 (0 : Int), AVal.int IntKind.i64 (0 : Int)],
                      AVal.int IntKind.i64 (53 : Int)])
                    [])
                   (K
                    (AVal.tup
                     [AVal.agg
                       [AVal.int IntKind.i64 p,
                        AVal.int IntKind.i64
                         (bits BinOp.or IntKind.i64
                          ((↑(UInt8.toNat (List.getD b (0 : Nat) (0 : UInt8))) : Int) * (256 : Int))
                          (↑(UInt8.toNat (List.getD b (1 : Nat) (0 : UInt8))) : Int)),
                        AVal.int IntKind.i64
                         (bits BinOp.or IntKind.i64
                          ((↑(UInt8.toNat (List.getD (List.drop (2 : Nat) b) (0 : Nat) (0 : UInt8))) : Int) * (256 : Int))
                          (↑(UInt8.toNat (List.getD (List.drop (2 : Nat) b) (1 : Nat) (0 : UInt8))) : Int)),
                        AVal.int IntKind.i64 (↑(UInt8.toNat (List.getD b (13 : Nat) (0 : UInt8) &&& (63 : UInt8))) : Int),
                        AVal.int IntKind.i64
                         ((↑(UInt8.toNat
                             (b8 ((↑(UInt8.toNat (List.getD b (12 : Nat) (0 : UInt8))) : Int) / (16 : Int)))) :
                           Int) *
                          (4 : Int))],
                      AVal.int IntKind.i64 (0 : Int)])
                    [])))))) := by kernel_rfl
set_option maxHeartbeats 2000000 in
theorem ports_shape_p : ∀ args H K, ptHdRow ptShape args H K → fnP Try.prog Tpt12 ann_ports_shape Try.f26 args H K := by
  intro args H K h
  unfold ptHdRow at h
  split at h
  · rename_i f t p q b
    rw [ports_shape_eq]
    try simp only [or_w16, div2, div3, add_w16, and255, b8_mod, List.set_cons_zero, List.set_cons_succ, andNot_4000, getD_drop, getD_take, b8_byte, b8_toNatN, UInt8.toNat_ofNat', UInt8.toNat_and, nat_mask4, nat_mask6, nat_240, u8_eq_iff, UInt8.reduceToNat, Int.reduceLT, List.take_succ_cons, List.take_zero, List.drop_zero, List.flatten_cons, List.flatten_nil, List.append_nil, List.nil_append, List.take_length, Nat.mul_one, Nat.zero_add, Nat.reduceAdd, Nat.reduceLT]
    obtain ⟨hl, hK⟩ := h
    have x12 := (b.getD 12 0).toNat_lt
    have x13 := (b.getD 13 0).toNat_lt
    have w0 := w16_bd (b.getD 0 0) (b.getD 1 0)
    have w2 := w16_bd (b.getD 2 0) (b.getD 3 0)
    have w4 := w16_bd (b.getD 4 0) (b.getD 5 0)
    repeat' first
      | (refine And.intro (by first | first | omega | with_reducible exact i64_x256 _ | with_reducible exact i64_w16 _ _ | with_reducible exact i64_sum _ | (repeat' first | with_reducible exact i64_x256 _ | with_reducible exact i64_w16 _ _ | with_reducible exact i64_sum _ | with_reducible apply And.intro) <;> first | omega | (simp only [I64]; omega) | (simp; omega) | (simp; done) | (simp [I64]; omega) | (with_reducible refine impP_i (fun hg => ?_) <;> (try simp only [Bool.and_eq_true, Bool.or_eq_true, Bool.and_eq_false_iff, Bool.or_eq_false_iff, decide_eq_true_eq, decide_eq_false_iff_not, Bool.not_eq_true', Bool.not_eq_false', Bool.not_true, Bool.not_false, Bool.true_and, Bool.and_true, Bool.false_or, Bool.or_false, beq_iff_eq, beq_eq_false_iff_ne, ne_eq] at hg) <;> (first | omega | with_reducible exact i64_x256 _ | with_reducible exact i64_w16 _ _ | with_reducible exact i64_sum _ | (repeat' first | with_reducible exact i64_x256 _ | with_reducible exact i64_w16 _ _ | with_reducible exact i64_sum _ | with_reducible apply And.intro) <;> first | omega | (simp only [I64]; omega) | (simp; omega) | (simp; done) | (simp [I64]; omega)))) ?_)
      | (refine brP_d (fun h => ?_) (fun h => ?_))
      | (refine optP_i (fun x hx => ?_) (fun hx => ?_) <;> (try have hxl := pseudo_len hx))
      | (refine brP_nd (fun h => ?_) (fun h => ?_))
      | (refine brP_i (fun h => ?_) (fun h => ?_) <;> (try simp only [Bool.and_eq_true, Bool.or_eq_true, Bool.and_eq_false_iff, Bool.or_eq_false_iff, decide_eq_true_eq, decide_eq_false_iff_not, Bool.not_eq_true', Bool.not_eq_false', Bool.not_true, Bool.not_false, Bool.true_and, Bool.and_true, Bool.false_or, Bool.or_false, beq_iff_eq, beq_eq_false_iff_ne, ne_eq] at h))
    all_goals unfold ptShape at hK
    all_goals try simp only [noHd] at hK
    all_goals repeat' split at hK
    all_goals first
      | exact hK
      | (exfalso; omega)
      | (simp only at hK; subst_vars; exact hK)
      | (refine endK_eq hK ?_ rfl; simp only [AVal.tup.injEq, AVal.agg.injEq, List.cons.injEq, AVal.int.injEq, AVal.str.injEq, true_and, and_true]; omega)
  · exact h.elim
def Tpt13 : Specs := ext Tpt12 26 (ptHdRow ptShape)
theorem Tpt13_sound : TSound Try.prog Tpt13 := ext_sound Tpt12_sound (row_of Tpt12_sound mixed Try.func26 (by decide +kernel) ports_shape_p)
def ann_ports_Read : Nat → List Nat × Nat × List (List Nat)
  | _ => ([], 0, [])
set_option maxRecDepth 100000 in
theorem ports_Read_eq (f t : List UInt8) (p q : Int) (b : List UInt8) (K : AVal → Hp → Prop) : fnP Try.prog Tpt13 ann_ports_Read Try.f10 [.agg [.str f, .str t, .int .i64 p, .int .i64 q, .str b]] [] K = (
  List.length b ≤ (140737488351232 : Nat) ∧
    brP (!decide ((ptShape (Ip.mk f t p q b)).snd = (0 : Int)))
     (K
      (AVal.tup
       [AVal.agg
         [AVal.int IntKind.i64 (0 : Int), AVal.int IntKind.i64 (0 : Int), AVal.int IntKind.i64 (0 : Int),
          AVal.int IntKind.i64 (0 : Int), AVal.int IntKind.i64 (0 : Int)],
        AVal.int IntKind.i64 (ptShape (Ip.mk f t p q b)).snd])
      [])
     (brP (decide ((ptShape (Ip.mk f t p q b)).fst.proto = (17 : Int)))
      (brP (decide ((↑(List.length f) : Int) = (4 : Int)))
       (brP (decide ((↑(List.length t) : Int) = (4 : Int)))
        (((0 : Int) ≤ (6 : Int) ∧ (6 : Int) ≤ (↑(List.length b) : Int)) ∧
         ((0 : Int) ≤ (0 : Int) ∧ (0 : Int) < (↑(List.length (List.drop (6 : Nat) b)) : Int)) ∧
          ((0 : Int) ≤ (8 : Int) ∧
            (8 : Int) < (64 : Int) ∧
             I64 ((↑(UInt8.toNat (List.getD (List.drop (6 : Nat) b) (0 : Nat) (0 : UInt8))) : Int) * (256 : Int))) ∧
           ((0 : Int) ≤ (1 : Int) ∧ (1 : Int) < (↑(List.length (List.drop (6 : Nat) b)) : Int)) ∧
            brP
             (!decide
               (bits BinOp.or IntKind.i64
                 ((↑(UInt8.toNat (List.getD (List.drop (6 : Nat) b) (0 : Nat) (0 : UInt8))) : Int) * (256 : Int))
                 (↑(UInt8.toNat (List.getD (List.drop (6 : Nat) b) (1 : Nat) (0 : UInt8))) : Int) =
                (0 : Int)))
             (optP (pseudo f t p (↑(List.length b) : Int))
              (fun x =>
               List.length b ≤ (140737488355328 : Nat) ∧
                ((2 : Nat) ≤ (1000 : Nat) ∧
                  List.length
                    (List.flatten
                     [List.take (List.length x) (List.drop (0 : Nat) x),
                      List.take (List.length b) (List.drop (0 : Nat) b)]) ≤
                   (562949953421312 : Nat)) ∧
                 brP
                  (!sumB
                     (List.flatten
                      [List.take (List.length x) (List.drop (0 : Nat) x),
                       List.take (List.length b) (List.drop (0 : Nat) b)]) ==
                    (65535 : Int))
                  (K
                   (AVal.tup
                    [AVal.agg
                      [AVal.int IntKind.i64 (0 : Int), AVal.int IntKind.i64 (0 : Int), AVal.int IntKind.i64 (0 : Int),
                       AVal.int IntKind.i64 (0 : Int), AVal.int IntKind.i64 (0 : Int)],
                     AVal.int IntKind.i64 (52 : Int)])
                   [])
                  (brP (decide ((↑(List.length f) : Int) = (4 : Int)))
                   (brP (!decide ((↑(List.length f) : Int) = (↑(List.length t) : Int)))
                    (K
                     (AVal.tup
                      [AVal.agg
                        [AVal.int IntKind.i64 (0 : Int), AVal.int IntKind.i64 (0 : Int), AVal.int IntKind.i64 (0 : Int),
                         AVal.int IntKind.i64 (0 : Int), AVal.int IntKind.i64 (0 : Int)],
                       AVal.int IntKind.i64 (53 : Int)])
                     [])
                    (K
                     (AVal.tup
                      [AVal.agg
                        [AVal.int IntKind.i64 (ptShape (Ip.mk f t p q b)).fst.proto,
                         AVal.int IntKind.i64 (ptShape (Ip.mk f t p q b)).fst.src,
                         AVal.int IntKind.i64 (ptShape (Ip.mk f t p q b)).fst.dst,
                         AVal.int IntKind.i64 (ptShape (Ip.mk f t p q b)).fst.flags,
                         AVal.int IntKind.i64 (ptShape (Ip.mk f t p q b)).fst.at'],
                       AVal.int IntKind.i64 (0 : Int)])
                     []))
                   (brP (!decide ((↑(List.length f) : Int) = (16 : Int)))
                    (K
                     (AVal.tup
                      [AVal.agg
                        [AVal.int IntKind.i64 (0 : Int), AVal.int IntKind.i64 (0 : Int), AVal.int IntKind.i64 (0 : Int),
                         AVal.int IntKind.i64 (0 : Int), AVal.int IntKind.i64 (0 : Int)],
                       AVal.int IntKind.i64 (53 : Int)])
                     [])
                    (brP (!decide ((↑(List.length f) : Int) = (↑(List.length t) : Int)))
                     (K
                      (AVal.tup
                       [AVal.agg
                         [AVal.int IntKind.i64 (0 : Int), AVal.int IntKind.i64 (0 : Int), AVal.int IntKind.i64 (0 : Int),
                          AVal.int IntKind.i64 (0 : Int), AVal.int IntKind.i64 (0 : Int)],
                        AVal.int IntKind.i64 (53 : Int)])
                      [])
                     (K
                      (AVal.tup
                       [AVal.agg
                         [AVal.int IntKind.i64 (ptShape (Ip.mk f t p q b)).fst.proto,
                          AVal.int IntKind.i64 (ptShape (Ip.mk f t p q b)).fst.src,
                          AVal.int IntKind.i64 (ptShape (Ip.mk f t p q b)).fst.dst,
                          AVal.int IntKind.i64 (ptShape (Ip.mk f t p q b)).fst.flags,
                          AVal.int IntKind.i64 (ptShape (Ip.mk f t p q b)).fst.at'],
                        AVal.int IntKind.i64 (0 : Int)])
                      [])))))
              (List.length b ≤ (140737488355328 : Nat) ∧
               ((2 : Nat) ≤ (1000 : Nat) ∧
                 List.length (List.flatten [[], List.take (List.length b) (List.drop (0 : Nat) b)]) ≤
                  (562949953421312 : Nat)) ∧
                brP (!sumB (List.flatten [[], List.take (List.length b) (List.drop (0 : Nat) b)]) == (65535 : Int))
                 (K
                  (AVal.tup
                   [AVal.agg
                     [AVal.int IntKind.i64 (0 : Int), AVal.int IntKind.i64 (0 : Int), AVal.int IntKind.i64 (0 : Int),
                      AVal.int IntKind.i64 (0 : Int), AVal.int IntKind.i64 (0 : Int)],
                    AVal.int IntKind.i64 (52 : Int)])
                  [])
                 (brP (decide ((↑(List.length f) : Int) = (4 : Int)))
                  (brP (!decide ((↑(List.length f) : Int) = (↑(List.length t) : Int)))
                   (K
                    (AVal.tup
                     [AVal.agg
                       [AVal.int IntKind.i64 (0 : Int), AVal.int IntKind.i64 (0 : Int), AVal.int IntKind.i64 (0 : Int),
                        AVal.int IntKind.i64 (0 : Int), AVal.int IntKind.i64 (0 : Int)],
                      AVal.int IntKind.i64 (53 : Int)])
                    [])
                   (K
                    (AVal.tup
                     [AVal.agg
                       [AVal.int IntKind.i64 (ptShape (Ip.mk f t p q b)).fst.proto,
                        AVal.int IntKind.i64 (ptShape (Ip.mk f t p q b)).fst.src,
                        AVal.int IntKind.i64 (ptShape (Ip.mk f t p q b)).fst.dst,
                        AVal.int IntKind.i64 (ptShape (Ip.mk f t p q b)).fst.flags,
                        AVal.int IntKind.i64 (ptShape (Ip.mk f t p q b)).fst.at'],
                      AVal.int IntKind.i64 (0 : Int)])
                    []))
                  (brP (!decide ((↑(List.length f) : Int) = (16 : Int)))
                   (K
                    (AVal.tup
                     [AVal.agg
                       [AVal.int IntKind.i64 (0 : Int), AVal.int IntKind.i64 (0 : Int), AVal.int IntKind.i64 (0 : Int),
                        AVal.int IntKind.i64 (0 : Int), AVal.int IntKind.i64 (0 : Int)],
                      AVal.int IntKind.i64 (53 : Int)])
                    [])
                   (brP (!decide ((↑(List.length f) : Int) = (↑(List.length t) : Int)))
                    (K
                     (AVal.tup
                      [AVal.agg
                        [AVal.int IntKind.i64 (0 : Int), AVal.int IntKind.i64 (0 : Int), AVal.int IntKind.i64 (0 : Int),
                         AVal.int IntKind.i64 (0 : Int), AVal.int IntKind.i64 (0 : Int)],
                       AVal.int IntKind.i64 (53 : Int)])
                     [])
                    (K
                     (AVal.tup
                      [AVal.agg
                        [AVal.int IntKind.i64 (ptShape (Ip.mk f t p q b)).fst.proto,
                         AVal.int IntKind.i64 (ptShape (Ip.mk f t p q b)).fst.src,
                         AVal.int IntKind.i64 (ptShape (Ip.mk f t p q b)).fst.dst,
                         AVal.int IntKind.i64 (ptShape (Ip.mk f t p q b)).fst.flags,
                         AVal.int IntKind.i64 (ptShape (Ip.mk f t p q b)).fst.at'],
                       AVal.int IntKind.i64 (0 : Int)])
                     []))))))
             (brP (decide ((↑(List.length f) : Int) = (4 : Int)))
              (brP (!decide ((↑(List.length f) : Int) = (↑(List.length t) : Int)))
               (K
                (AVal.tup
                 [AVal.agg
                   [AVal.int IntKind.i64 (0 : Int), AVal.int IntKind.i64 (0 : Int), AVal.int IntKind.i64 (0 : Int),
                    AVal.int IntKind.i64 (0 : Int), AVal.int IntKind.i64 (0 : Int)],
                  AVal.int IntKind.i64 (53 : Int)])
                [])
               (K
                (AVal.tup
                 [AVal.agg
                   [AVal.int IntKind.i64 (ptShape (Ip.mk f t p q b)).fst.proto,
                    AVal.int IntKind.i64 (ptShape (Ip.mk f t p q b)).fst.src,
                    AVal.int IntKind.i64 (ptShape (Ip.mk f t p q b)).fst.dst,
                    AVal.int IntKind.i64 (ptShape (Ip.mk f t p q b)).fst.flags,
                    AVal.int IntKind.i64 (ptShape (Ip.mk f t p q b)).fst.at'],
                  AVal.int IntKind.i64 (0 : Int)])
                []))
              (brP (!decide ((↑(List.length f) : Int) = (16 : Int)))
               (K
                (AVal.tup
                 [AVal.agg
                   [AVal.int IntKind.i64 (0 : Int), AVal.int IntKind.i64 (0 : Int), AVal.int IntKind.i64 (0 : Int),
                    AVal.int IntKind.i64 (0 : Int), AVal.int IntKind.i64 (0 : Int)],
                  AVal.int IntKind.i64 (53 : Int)])
                [])
               (brP (!decide ((↑(List.length f) : Int) = (↑(List.length t) : Int)))
                (K
                 (AVal.tup
                  [AVal.agg
                    [AVal.int IntKind.i64 (0 : Int), AVal.int IntKind.i64 (0 : Int), AVal.int IntKind.i64 (0 : Int),
                     AVal.int IntKind.i64 (0 : Int), AVal.int IntKind.i64 (0 : Int)],
                   AVal.int IntKind.i64 (53 : Int)])
                 [])
                (K
                 (AVal.tup
                  [AVal.agg
                    [AVal.int IntKind.i64 (ptShape (Ip.mk f t p q b)).fst.proto,
                     AVal.int IntKind.i64 (ptShape (Ip.mk f t p q b)).fst.src,
                     AVal.int IntKind.i64 (ptShape (Ip.mk f t p q b)).fst.dst,
                     AVal.int IntKind.i64 (ptShape (Ip.mk f t p q b)).fst.flags,
                     AVal.int IntKind.i64 (ptShape (Ip.mk f t p q b)).fst.at'],
                   AVal.int IntKind.i64 (0 : Int)])
                 [])))))
        (optP (pseudo f t p (↑(List.length b) : Int))
         (fun x =>
          List.length b ≤ (140737488355328 : Nat) ∧
           ((2 : Nat) ≤ (1000 : Nat) ∧
             List.length
               (List.flatten
                [List.take (List.length x) (List.drop (0 : Nat) x), List.take (List.length b) (List.drop (0 : Nat) b)]) ≤
              (562949953421312 : Nat)) ∧
            brP
             (!sumB
                (List.flatten
                 [List.take (List.length x) (List.drop (0 : Nat) x),
                  List.take (List.length b) (List.drop (0 : Nat) b)]) ==
               (65535 : Int))
             (K
              (AVal.tup
               [AVal.agg
                 [AVal.int IntKind.i64 (0 : Int), AVal.int IntKind.i64 (0 : Int), AVal.int IntKind.i64 (0 : Int),
                  AVal.int IntKind.i64 (0 : Int), AVal.int IntKind.i64 (0 : Int)],
                AVal.int IntKind.i64 (52 : Int)])
              [])
             (brP (decide ((↑(List.length f) : Int) = (4 : Int)))
              (brP (!decide ((↑(List.length f) : Int) = (↑(List.length t) : Int)))
               (K
                (AVal.tup
                 [AVal.agg
                   [AVal.int IntKind.i64 (0 : Int), AVal.int IntKind.i64 (0 : Int), AVal.int IntKind.i64 (0 : Int),
                    AVal.int IntKind.i64 (0 : Int), AVal.int IntKind.i64 (0 : Int)],
                  AVal.int IntKind.i64 (53 : Int)])
                [])
               (K
                (AVal.tup
                 [AVal.agg
                   [AVal.int IntKind.i64 (ptShape (Ip.mk f t p q b)).fst.proto,
                    AVal.int IntKind.i64 (ptShape (Ip.mk f t p q b)).fst.src,
                    AVal.int IntKind.i64 (ptShape (Ip.mk f t p q b)).fst.dst,
                    AVal.int IntKind.i64 (ptShape (Ip.mk f t p q b)).fst.flags,
                    AVal.int IntKind.i64 (ptShape (Ip.mk f t p q b)).fst.at'],
                  AVal.int IntKind.i64 (0 : Int)])
                []))
              (brP (!decide ((↑(List.length f) : Int) = (16 : Int)))
               (K
                (AVal.tup
                 [AVal.agg
                   [AVal.int IntKind.i64 (0 : Int), AVal.int IntKind.i64 (0 : Int), AVal.int IntKind.i64 (0 : Int),
                    AVal.int IntKind.i64 (0 : Int), AVal.int IntKind.i64 (0 : Int)],
                  AVal.int IntKind.i64 (53 : Int)])
                [])
               (brP (!decide ((↑(List.length f) : Int) = (↑(List.length t) : Int)))
                (K
                 (AVal.tup
                  [AVal.agg
                    [AVal.int IntKind.i64 (0 : Int), AVal.int IntKind.i64 (0 : Int), AVal.int IntKind.i64 (0 : Int),
                     AVal.int IntKind.i64 (0 : Int), AVal.int IntKind.i64 (0 : Int)],
                   AVal.int IntKind.i64 (53 : Int)])
                 [])
                (K
                 (AVal.tup
                  [AVal.agg
                    [AVal.int IntKind.i64 (ptShape (Ip.mk f t p q b)).fst.proto,
                     AVal.int IntKind.i64 (ptShape (Ip.mk f t p q b)).fst.src,
                     AVal.int IntKind.i64 (ptShape (Ip.mk f t p q b)).fst.dst,
                     AVal.int IntKind.i64 (ptShape (Ip.mk f t p q b)).fst.flags,
                     AVal.int IntKind.i64 (ptShape (Ip.mk f t p q b)).fst.at'],
                   AVal.int IntKind.i64 (0 : Int)])
                 [])))))
         (List.length b ≤ (140737488355328 : Nat) ∧
          ((2 : Nat) ≤ (1000 : Nat) ∧
            List.length (List.flatten [[], List.take (List.length b) (List.drop (0 : Nat) b)]) ≤
             (562949953421312 : Nat)) ∧
           brP (!sumB (List.flatten [[], List.take (List.length b) (List.drop (0 : Nat) b)]) == (65535 : Int))
            (K
             (AVal.tup
              [AVal.agg
                [AVal.int IntKind.i64 (0 : Int), AVal.int IntKind.i64 (0 : Int), AVal.int IntKind.i64 (0 : Int),
                 AVal.int IntKind.i64 (0 : Int), AVal.int IntKind.i64 (0 : Int)],
               AVal.int IntKind.i64 (52 : Int)])
             [])
            (brP (decide ((↑(List.length f) : Int) = (4 : Int)))
             (brP (!decide ((↑(List.length f) : Int) = (↑(List.length t) : Int)))
              (K
               (AVal.tup
                [AVal.agg
                  [AVal.int IntKind.i64 (0 : Int), AVal.int IntKind.i64 (0 : Int), AVal.int IntKind.i64 (0 : Int),
                   AVal.int IntKind.i64 (0 : Int), AVal.int IntKind.i64 (0 : Int)],
                 AVal.int IntKind.i64 (53 : Int)])
               [])
              (K
               (AVal.tup
                [AVal.agg
                  [AVal.int IntKind.i64 (ptShape (Ip.mk f t p q b)).fst.proto,
                   AVal.int IntKind.i64 (ptShape (Ip.mk f t p q b)).fst.src,
                   AVal.int IntKind.i64 (ptShape (Ip.mk f t p q b)).fst.dst,
                   AVal.int IntKind.i64 (ptShape (Ip.mk f t p q b)).fst.flags,
                   AVal.int IntKind.i64 (ptShape (Ip.mk f t p q b)).fst.at'],
                 AVal.int IntKind.i64 (0 : Int)])
               []))
             (brP (!decide ((↑(List.length f) : Int) = (16 : Int)))
              (K
               (AVal.tup
                [AVal.agg
                  [AVal.int IntKind.i64 (0 : Int), AVal.int IntKind.i64 (0 : Int), AVal.int IntKind.i64 (0 : Int),
                   AVal.int IntKind.i64 (0 : Int), AVal.int IntKind.i64 (0 : Int)],
                 AVal.int IntKind.i64 (53 : Int)])
               [])
              (brP (!decide ((↑(List.length f) : Int) = (↑(List.length t) : Int)))
               (K
                (AVal.tup
                 [AVal.agg
                   [AVal.int IntKind.i64 (0 : Int), AVal.int IntKind.i64 (0 : Int), AVal.int IntKind.i64 (0 : Int),
                    AVal.int IntKind.i64 (0 : Int), AVal.int IntKind.i64 (0 : Int)],
                  AVal.int IntKind.i64 (53 : Int)])
                [])
               (K
                (AVal.tup
                 [AVal.agg
                   [AVal.int IntKind.i64 (ptShape (Ip.mk f t p q b)).fst.proto,
                    AVal.int IntKind.i64 (ptShape (Ip.mk f t p q b)).fst.src,
                    AVal.int IntKind.i64 (ptShape (Ip.mk f t p q b)).fst.dst,
                    AVal.int IntKind.i64 (ptShape (Ip.mk f t p q b)).fst.flags,
                    AVal.int IntKind.i64 (ptShape (Ip.mk f t p q b)).fst.at'],
                  AVal.int IntKind.i64 (0 : Int)])
                [])))))))
       (optP (pseudo f t p (↑(List.length b) : Int))
        (fun x =>
         List.length b ≤ (140737488355328 : Nat) ∧
          ((2 : Nat) ≤ (1000 : Nat) ∧
            List.length
              (List.flatten
               [List.take (List.length x) (List.drop (0 : Nat) x), List.take (List.length b) (List.drop (0 : Nat) b)]) ≤
             (562949953421312 : Nat)) ∧
           brP
            (!sumB
               (List.flatten
                [List.take (List.length x) (List.drop (0 : Nat) x), List.take (List.length b) (List.drop (0 : Nat) b)]) ==
              (65535 : Int))
            (K
             (AVal.tup
              [AVal.agg
                [AVal.int IntKind.i64 (0 : Int), AVal.int IntKind.i64 (0 : Int), AVal.int IntKind.i64 (0 : Int),
                 AVal.int IntKind.i64 (0 : Int), AVal.int IntKind.i64 (0 : Int)],
               AVal.int IntKind.i64 (52 : Int)])
             [])
            (brP (decide ((↑(List.length f) : Int) = (4 : Int)))
             (brP (!decide ((↑(List.length f) : Int) = (↑(List.length t) : Int)))
              (K
               (AVal.tup
                [AVal.agg
                  [AVal.int IntKind.i64 (0 : Int), AVal.int IntKind.i64 (0 : Int), AVal.int IntKind.i64 (0 : Int),
                   AVal.int IntKind.i64 (0 : Int), AVal.int IntKind.i64 (0 : Int)],
                 AVal.int IntKind.i64 (53 : Int)])
               [])
              (K
               (AVal.tup
                [AVal.agg
                  [AVal.int IntKind.i64 (ptShape (Ip.mk f t p q b)).fst.proto,
                   AVal.int IntKind.i64 (ptShape (Ip.mk f t p q b)).fst.src,
                   AVal.int IntKind.i64 (ptShape (Ip.mk f t p q b)).fst.dst,
                   AVal.int IntKind.i64 (ptShape (Ip.mk f t p q b)).fst.flags,
                   AVal.int IntKind.i64 (ptShape (Ip.mk f t p q b)).fst.at'],
                 AVal.int IntKind.i64 (0 : Int)])
               []))
             (brP (!decide ((↑(List.length f) : Int) = (16 : Int)))
              (K
               (AVal.tup
                [AVal.agg
                  [AVal.int IntKind.i64 (0 : Int), AVal.int IntKind.i64 (0 : Int), AVal.int IntKind.i64 (0 : Int),
                   AVal.int IntKind.i64 (0 : Int), AVal.int IntKind.i64 (0 : Int)],
                 AVal.int IntKind.i64 (53 : Int)])
               [])
              (brP (!decide ((↑(List.length f) : Int) = (↑(List.length t) : Int)))
               (K
                (AVal.tup
                 [AVal.agg
                   [AVal.int IntKind.i64 (0 : Int), AVal.int IntKind.i64 (0 : Int), AVal.int IntKind.i64 (0 : Int),
                    AVal.int IntKind.i64 (0 : Int), AVal.int IntKind.i64 (0 : Int)],
                  AVal.int IntKind.i64 (53 : Int)])
                [])
               (K
                (AVal.tup
                 [AVal.agg
                   [AVal.int IntKind.i64 (ptShape (Ip.mk f t p q b)).fst.proto,
                    AVal.int IntKind.i64 (ptShape (Ip.mk f t p q b)).fst.src,
                    AVal.int IntKind.i64 (ptShape (Ip.mk f t p q b)).fst.dst,
                    AVal.int IntKind.i64 (ptShape (Ip.mk f t p q b)).fst.flags,
                    AVal.int IntKind.i64 (ptShape (Ip.mk f t p q b)).fst.at'],
                  AVal.int IntKind.i64 (0 : Int)])
                [])))))
        (List.length b ≤ (140737488355328 : Nat) ∧
         ((2 : Nat) ≤ (1000 : Nat) ∧
           List.length (List.flatten [[], List.take (List.length b) (List.drop (0 : Nat) b)]) ≤ (562949953421312 : Nat)) ∧
          brP (!sumB (List.flatten [[], List.take (List.length b) (List.drop (0 : Nat) b)]) == (65535 : Int))
           (K
            (AVal.tup
             [AVal.agg
               [AVal.int IntKind.i64 (0 : Int), AVal.int IntKind.i64 (0 : Int), AVal.int IntKind.i64 (0 : Int),
                AVal.int IntKind.i64 (0 : Int), AVal.int IntKind.i64 (0 : Int)],
              AVal.int IntKind.i64 (52 : Int)])
            [])
           (brP (decide ((↑(List.length f) : Int) = (4 : Int)))
            (brP (!decide ((↑(List.length f) : Int) = (↑(List.length t) : Int)))
             (K
              (AVal.tup
               [AVal.agg
                 [AVal.int IntKind.i64 (0 : Int), AVal.int IntKind.i64 (0 : Int), AVal.int IntKind.i64 (0 : Int),
                  AVal.int IntKind.i64 (0 : Int), AVal.int IntKind.i64 (0 : Int)],
                AVal.int IntKind.i64 (53 : Int)])
              [])
             (K
              (AVal.tup
               [AVal.agg
                 [AVal.int IntKind.i64 (ptShape (Ip.mk f t p q b)).fst.proto,
                  AVal.int IntKind.i64 (ptShape (Ip.mk f t p q b)).fst.src,
                  AVal.int IntKind.i64 (ptShape (Ip.mk f t p q b)).fst.dst,
                  AVal.int IntKind.i64 (ptShape (Ip.mk f t p q b)).fst.flags,
                  AVal.int IntKind.i64 (ptShape (Ip.mk f t p q b)).fst.at'],
                AVal.int IntKind.i64 (0 : Int)])
              []))
            (brP (!decide ((↑(List.length f) : Int) = (16 : Int)))
             (K
              (AVal.tup
               [AVal.agg
                 [AVal.int IntKind.i64 (0 : Int), AVal.int IntKind.i64 (0 : Int), AVal.int IntKind.i64 (0 : Int),
                  AVal.int IntKind.i64 (0 : Int), AVal.int IntKind.i64 (0 : Int)],
                AVal.int IntKind.i64 (53 : Int)])
              [])
             (brP (!decide ((↑(List.length f) : Int) = (↑(List.length t) : Int)))
              (K
               (AVal.tup
                [AVal.agg
                  [AVal.int IntKind.i64 (0 : Int), AVal.int IntKind.i64 (0 : Int), AVal.int IntKind.i64 (0 : Int),
                   AVal.int IntKind.i64 (0 : Int), AVal.int IntKind.i64 (0 : Int)],
                 AVal.int IntKind.i64 (53 : Int)])
               [])
              (K
               (AVal.tup
                [AVal.agg
                  [AVal.int IntKind.i64 (ptShape (Ip.mk f t p q b)).fst.proto,
                   AVal.int IntKind.i64 (ptShape (Ip.mk f t p q b)).fst.src,
                   AVal.int IntKind.i64 (ptShape (Ip.mk f t p q b)).fst.dst,
                   AVal.int IntKind.i64 (ptShape (Ip.mk f t p q b)).fst.flags,
                   AVal.int IntKind.i64 (ptShape (Ip.mk f t p q b)).fst.at'],
                 AVal.int IntKind.i64 (0 : Int)])
               [])))))))
      (optP (pseudo f t p (↑(List.length b) : Int))
       (fun x =>
        List.length b ≤ (140737488355328 : Nat) ∧
         ((2 : Nat) ≤ (1000 : Nat) ∧
           List.length
             (List.flatten
              [List.take (List.length x) (List.drop (0 : Nat) x), List.take (List.length b) (List.drop (0 : Nat) b)]) ≤
            (562949953421312 : Nat)) ∧
          brP
           (!sumB
              (List.flatten
               [List.take (List.length x) (List.drop (0 : Nat) x), List.take (List.length b) (List.drop (0 : Nat) b)]) ==
             (65535 : Int))
           (K
            (AVal.tup
             [AVal.agg
               [AVal.int IntKind.i64 (0 : Int), AVal.int IntKind.i64 (0 : Int), AVal.int IntKind.i64 (0 : Int),
                AVal.int IntKind.i64 (0 : Int), AVal.int IntKind.i64 (0 : Int)],
              AVal.int IntKind.i64 (52 : Int)])
            [])
           (brP (decide ((↑(List.length f) : Int) = (4 : Int)))
            (brP (!decide ((↑(List.length f) : Int) = (↑(List.length t) : Int)))
             (K
              (AVal.tup
               [AVal.agg
                 [AVal.int IntKind.i64 (0 : Int), AVal.int IntKind.i64 (0 : Int), AVal.int IntKind.i64 (0 : Int),
                  AVal.int IntKind.i64 (0 : Int), AVal.int IntKind.i64 (0 : Int)],
                AVal.int IntKind.i64 (53 : Int)])
              [])
             (K
              (AVal.tup
               [AVal.agg
                 [AVal.int IntKind.i64 (ptShape (Ip.mk f t p q b)).fst.proto,
                  AVal.int IntKind.i64 (ptShape (Ip.mk f t p q b)).fst.src,
                  AVal.int IntKind.i64 (ptShape (Ip.mk f t p q b)).fst.dst,
                  AVal.int IntKind.i64 (ptShape (Ip.mk f t p q b)).fst.flags,
                  AVal.int IntKind.i64 (ptShape (Ip.mk f t p q b)).fst.at'],
                AVal.int IntKind.i64 (0 : Int)])
              []))
            (brP (!decide ((↑(List.length f) : Int) = (16 : Int)))
             (K
              (AVal.tup
               [AVal.agg
                 [AVal.int IntKind.i64 (0 : Int), AVal.int IntKind.i64 (0 : Int), AVal.int IntKind.i64 (0 : Int),
                  AVal.int IntKind.i64 (0 : Int), AVal.int IntKind.i64 (0 : Int)],
                AVal.int IntKind.i64 (53 : Int)])
              [])
             (brP (!decide ((↑(List.length f) : Int) = (↑(List.length t) : Int)))
              (K
               (AVal.tup
                [AVal.agg
                  [AVal.int IntKind.i64 (0 : Int), AVal.int IntKind.i64 (0 : Int), AVal.int IntKind.i64 (0 : Int),
                   AVal.int IntKind.i64 (0 : Int), AVal.int IntKind.i64 (0 : Int)],
                 AVal.int IntKind.i64 (53 : Int)])
               [])
              (K
               (AVal.tup
                [AVal.agg
                  [AVal.int IntKind.i64 (ptShape (Ip.mk f t p q b)).fst.proto,
                   AVal.int IntKind.i64 (ptShape (Ip.mk f t p q b)).fst.src,
                   AVal.int IntKind.i64 (ptShape (Ip.mk f t p q b)).fst.dst,
                   AVal.int IntKind.i64 (ptShape (Ip.mk f t p q b)).fst.flags,
                   AVal.int IntKind.i64 (ptShape (Ip.mk f t p q b)).fst.at'],
                 AVal.int IntKind.i64 (0 : Int)])
               [])))))
       (List.length b ≤ (140737488355328 : Nat) ∧
        ((2 : Nat) ≤ (1000 : Nat) ∧
          List.length (List.flatten [[], List.take (List.length b) (List.drop (0 : Nat) b)]) ≤ (562949953421312 : Nat)) ∧
         brP (!sumB (List.flatten [[], List.take (List.length b) (List.drop (0 : Nat) b)]) == (65535 : Int))
          (K
           (AVal.tup
            [AVal.agg
              [AVal.int IntKind.i64 (0 : Int), AVal.int IntKind.i64 (0 : Int), AVal.int IntKind.i64 (0 : Int),
               AVal.int IntKind.i64 (0 : Int), AVal.int IntKind.i64 (0 : Int)],
             AVal.int IntKind.i64 (52 : Int)])
           [])
          (brP (decide ((↑(List.length f) : Int) = (4 : Int)))
           (brP (!decide ((↑(List.length f) : Int) = (↑(List.length t) : Int)))
            (K
             (AVal.tup
              [AVal.agg
                [AVal.int IntKind.i64 (0 : Int), AVal.int IntKind.i64 (0 : Int), AVal.int IntKind.i64 (0 : Int),
                 AVal.int IntKind.i64 (0 : Int), AVal.int IntKind.i64 (0 : Int)],
               AVal.int IntKind.i64 (53 : Int)])
             [])
            (K
             (AVal.tup
              [AVal.agg
                [AVal.int IntKind.i64 (ptShape (Ip.mk f t p q b)).fst.proto,
                 AVal.int IntKind.i64 (ptShape (Ip.mk f t p q b)).fst.src,
                 AVal.int IntKind.i64 (ptShape (Ip.mk f t p q b)).fst.dst,
                 AVal.int IntKind.i64 (ptShape (Ip.mk f t p q b)).fst.flags,
                 AVal.int IntKind.i64 (ptShape (Ip.mk f t p q b)).fst.at'],
               AVal.int IntKind.i64 (0 : Int)])
             []))
           (brP (!decide ((↑(List.length f) : Int) = (16 : Int)))
            (K
             (AVal.tup
              [AVal.agg
                [AVal.int IntKind.i64 (0 : Int), AVal.int IntKind.i64 (0 : Int), AVal.int IntKind.i64 (0 : Int),
                 AVal.int IntKind.i64 (0 : Int), AVal.int IntKind.i64 (0 : Int)],
               AVal.int IntKind.i64 (53 : Int)])
             [])
            (brP (!decide ((↑(List.length f) : Int) = (↑(List.length t) : Int)))
             (K
              (AVal.tup
               [AVal.agg
                 [AVal.int IntKind.i64 (0 : Int), AVal.int IntKind.i64 (0 : Int), AVal.int IntKind.i64 (0 : Int),
                  AVal.int IntKind.i64 (0 : Int), AVal.int IntKind.i64 (0 : Int)],
                AVal.int IntKind.i64 (53 : Int)])
              [])
             (K
              (AVal.tup
               [AVal.agg
                 [AVal.int IntKind.i64 (ptShape (Ip.mk f t p q b)).fst.proto,
                  AVal.int IntKind.i64 (ptShape (Ip.mk f t p q b)).fst.src,
                  AVal.int IntKind.i64 (ptShape (Ip.mk f t p q b)).fst.dst,
                  AVal.int IntKind.i64 (ptShape (Ip.mk f t p q b)).fst.flags,
                  AVal.int IntKind.i64 (ptShape (Ip.mk f t p q b)).fst.at'],
                AVal.int IntKind.i64 (0 : Int)])
              [])))))))) := by kernel_rfl
set_option maxHeartbeats 2000000 in
theorem ports_Read_p : ∀ args H K, ptHdRow ptRead args H K → fnP Try.prog Tpt13 ann_ports_Read Try.f10 args H K := by
  intro args H K h
  unfold ptHdRow at h
  split at h
  · rename_i f t p q b
    rw [ports_Read_eq]
    try simp only [or_w16, div2, div3, add_w16, and255, b8_mod, List.set_cons_zero, List.set_cons_succ, andNot_4000, getD_drop, getD_take, b8_byte, b8_toNatN, UInt8.toNat_ofNat', UInt8.toNat_and, nat_mask4, nat_mask6, nat_240, u8_eq_iff, UInt8.reduceToNat, Int.reduceLT, List.take_succ_cons, List.take_zero, List.drop_zero, List.flatten_cons, List.flatten_nil, List.append_nil, List.nil_append, List.take_length, Nat.mul_one, Nat.zero_add, Nat.reduceAdd, Nat.reduceLT]
    obtain ⟨hl, hK⟩ := h
    have hsh := @ptShape_ok ⟨f, t, p, q, b⟩
    simp only at hsh
    have x6 := (b.getD 6 0).toNat_lt
    have x7 := (b.getD 7 0).toNat_lt
    have w67 : w16 (b.getD 6 0) (b.getD 7 0) = ((b.getD 6 0).toNat : Int) * 256 + ((b.getD 7 0).toNat : Int) := rfl
    unfold ptRead ptNone ptGood pseudoL rightA at hK
    cases hps : pseudo f t p (b.length : Int) with
    | none =>
      simp only [optP, or_w16, div2, div3, add_w16, and255, b8_mod, List.set_cons_zero, List.set_cons_succ, andNot_4000, getD_drop, getD_take, b8_byte, b8_toNatN, UInt8.toNat_ofNat', UInt8.toNat_and, nat_mask4, nat_mask6, nat_240, u8_eq_iff, UInt8.reduceToNat, Int.reduceLT, List.take_succ_cons, List.take_zero, List.drop_zero, List.flatten_cons, List.flatten_nil, List.append_nil, List.nil_append, List.take_length, Nat.mul_one, Nat.zero_add, Nat.reduceAdd, Nat.reduceLT]
      simp only [hps, Option.getD_none, Option.getD_some, noHd, Bool.and_eq_true, Bool.or_eq_true, Bool.and_eq_false_iff, Bool.or_eq_false_iff, decide_eq_true_eq, decide_eq_false_iff_not, Bool.not_eq_true', Bool.not_eq_false', Bool.not_true, Bool.not_false, Bool.true_and, Bool.and_true, Bool.false_or, Bool.or_false, beq_iff_eq, beq_eq_false_iff_ne, ne_eq, u8_eq_iff, UInt8.reduceToNat, List.nil_append] at hK
      repeat' first
        | (refine And.intro (by first | first | omega | with_reducible exact i64_x256 _ | with_reducible exact i64_w16 _ _ | with_reducible exact i64_sum _ | (repeat' first | with_reducible exact i64_x256 _ | with_reducible exact i64_w16 _ _ | with_reducible exact i64_sum _ | with_reducible apply And.intro) <;> first | omega | (simp only [I64]; omega) | (simp; omega) | (simp; done) | (simp [I64]; omega) | (with_reducible refine impP_i (fun hg => ?_) <;> (try simp only [Bool.and_eq_true, Bool.or_eq_true, Bool.and_eq_false_iff, Bool.or_eq_false_iff, decide_eq_true_eq, decide_eq_false_iff_not, Bool.not_eq_true', Bool.not_eq_false', Bool.not_true, Bool.not_false, Bool.true_and, Bool.and_true, Bool.false_or, Bool.or_false, beq_iff_eq, beq_eq_false_iff_ne, ne_eq] at hg) <;> (first | omega | with_reducible exact i64_x256 _ | with_reducible exact i64_w16 _ _ | with_reducible exact i64_sum _ | (repeat' first | with_reducible exact i64_x256 _ | with_reducible exact i64_w16 _ _ | with_reducible exact i64_sum _ | with_reducible apply And.intro) <;> first | omega | (simp only [I64]; omega) | (simp; omega) | (simp; done) | (simp [I64]; omega)))) ?_)
        | (refine brP_d (fun h => ?_) (fun h => ?_))
        | (refine optP_i (fun x hx => ?_) (fun hx => ?_) <;> (try have hxl := pseudo_len hx))
        | (refine brP_nd (fun h => ?_) (fun h => ?_))
        | (refine brP_i (fun h => ?_) (fun h => ?_) <;> (try simp only [Bool.and_eq_true, Bool.or_eq_true, Bool.and_eq_false_iff, Bool.or_eq_false_iff, decide_eq_true_eq, decide_eq_false_iff_not, Bool.not_eq_true', Bool.not_eq_false', Bool.not_true, Bool.not_false, Bool.true_and, Bool.and_true, Bool.false_or, Bool.or_false, beq_iff_eq, beq_eq_false_iff_ne, ne_eq] at h))
      all_goals repeat' split at hK
      all_goals first
        | exact hK
        | (exfalso; omega)
        | grind
    | some l =>
      simp only [optP, or_w16, div2, div3, add_w16, and255, b8_mod, List.set_cons_zero, List.set_cons_succ, andNot_4000, getD_drop, getD_take, b8_byte, b8_toNatN, UInt8.toNat_ofNat', UInt8.toNat_and, nat_mask4, nat_mask6, nat_240, u8_eq_iff, UInt8.reduceToNat, Int.reduceLT, List.take_succ_cons, List.take_zero, List.drop_zero, List.flatten_cons, List.flatten_nil, List.append_nil, List.nil_append, List.take_length, Nat.mul_one, Nat.zero_add, Nat.reduceAdd, Nat.reduceLT]
      simp only [hps, Option.getD_none, Option.getD_some, noHd, Bool.and_eq_true, Bool.or_eq_true, Bool.and_eq_false_iff, Bool.or_eq_false_iff, decide_eq_true_eq, decide_eq_false_iff_not, Bool.not_eq_true', Bool.not_eq_false', Bool.not_true, Bool.not_false, Bool.true_and, Bool.and_true, Bool.false_or, Bool.or_false, beq_iff_eq, beq_eq_false_iff_ne, ne_eq, u8_eq_iff, UInt8.reduceToNat, List.nil_append] at hK
      have hpl := pseudo_len hps
      repeat' first
        | (refine And.intro (by first | first | omega | with_reducible exact i64_x256 _ | with_reducible exact i64_w16 _ _ | with_reducible exact i64_sum _ | (repeat' first | with_reducible exact i64_x256 _ | with_reducible exact i64_w16 _ _ | with_reducible exact i64_sum _ | with_reducible apply And.intro) <;> first | omega | (simp only [I64]; omega) | (simp; omega) | (simp; done) | (simp [I64]; omega) | (with_reducible refine impP_i (fun hg => ?_) <;> (try simp only [Bool.and_eq_true, Bool.or_eq_true, Bool.and_eq_false_iff, Bool.or_eq_false_iff, decide_eq_true_eq, decide_eq_false_iff_not, Bool.not_eq_true', Bool.not_eq_false', Bool.not_true, Bool.not_false, Bool.true_and, Bool.and_true, Bool.false_or, Bool.or_false, beq_iff_eq, beq_eq_false_iff_ne, ne_eq] at hg) <;> (first | omega | with_reducible exact i64_x256 _ | with_reducible exact i64_w16 _ _ | with_reducible exact i64_sum _ | (repeat' first | with_reducible exact i64_x256 _ | with_reducible exact i64_w16 _ _ | with_reducible exact i64_sum _ | with_reducible apply And.intro) <;> first | omega | (simp only [I64]; omega) | (simp; omega) | (simp; done) | (simp [I64]; omega)))) ?_)
        | (refine brP_d (fun h => ?_) (fun h => ?_))
        | (refine optP_i (fun x hx => ?_) (fun hx => ?_) <;> (try have hxl := pseudo_len hx))
        | (refine brP_nd (fun h => ?_) (fun h => ?_))
        | (refine brP_i (fun h => ?_) (fun h => ?_) <;> (try simp only [Bool.and_eq_true, Bool.or_eq_true, Bool.and_eq_false_iff, Bool.or_eq_false_iff, decide_eq_true_eq, decide_eq_false_iff_not, Bool.not_eq_true', Bool.not_eq_false', Bool.not_true, Bool.not_false, Bool.true_and, Bool.and_true, Bool.false_or, Bool.or_false, beq_iff_eq, beq_eq_false_iff_ne, ne_eq] at h))
      all_goals repeat' split at hK
      all_goals first
        | exact hK
        | (exfalso; omega)
        | grind
  · exact h.elim
def Tpt14 : Specs := ext Tpt13 10 (ptHdRow ptRead)
theorem Tpt14_sound : TSound Try.prog Tpt14 := ext_sound Tpt13_sound (row_of Tpt13_sound mixed Try.func10 (by decide +kernel) ports_Read_p)
abbrev Tpt15 : Specs := Tpt14
theorem Tpt15_sound : TSound Try.prog Tpt15 := Tpt14_sound
abbrev Tpt16 : Specs := Tpt15
theorem Tpt16_sound : TSound Try.prog Tpt16 := Tpt15_sound
abbrev Tpt17 : Specs := Tpt16
theorem Tpt17_sound : TSound Try.prog Tpt17 := Tpt16_sound
abbrev Tpt : Specs := Tpt17
theorem Tpt_sound : TSound Try.prog Tpt := Tpt17_sound
end Go.Proofs.Ytbmiaohigkjeeaa.Ae

