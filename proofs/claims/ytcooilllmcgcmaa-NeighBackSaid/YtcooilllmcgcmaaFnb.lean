/- Chapter 4's functions as a table. -/
import Derived.Test.YtcooilllmcgcmaaFet
import Derived.Test.YtcooilllmcgcmaaMnb
set_option linter.unusedSimpArgs false
set_option linter.unusedVariables false
set_option maxRecDepth 8000
namespace Go.Proofs.Ytcooilllmcgcmaa.Ae
open Go

def outK (o : Option (List UInt8)) (K : AVal → Hp → Prop) : Prop := optP o (fun l => K (.tup [.sl 0 0 l.length 1, .int .i64 0]) [.bytes l]) (K (.tup [.nilS, .int .i64 1]) [])
def nearRow : Srow := fun args H K => match args, H with
  | [.str a], [] => K (.str (nbNear a)) []
  | _, _ => False
def everyRow : Srow := fun args H K => match args, H with
  | [], [] => K (.str nbEvery) []
  | _, _ => False
def arpRow : Srow := fun args H K => match args, H with
  | [.byte k, .agg [.byte t0, .byte t1, .byte t2, .byte t3, .byte t4, .byte t5], .agg [.byte m0, .byte m1, .byte m2, .byte m3, .byte m4, .byte m5], .str a, .agg [.byte o0, .byte o1, .byte o2, .byte o3, .byte o4, .byte o5], .str b], [] => (a.length = 4 ∧ b.length = 4) ∧
    outK (nbArp k ⟨t0, t1, t2, t3, t4, t5⟩ ⟨m0, m1, m2, m3, m4, m5⟩ a ⟨o0, o1, o2, o3, o4, o5⟩ b) K
  | _, _ => False
def ndRow : Srow := fun args H K => match args, H with
  | [.agg [.byte k, .byte fl, .byte op, .str tg], .agg [.byte m0, .byte m1, .byte m2, .byte m3, .byte m4, .byte m5], .agg [.byte t0, .byte t1, .byte t2, .byte t3, .byte t4, .byte t5], .agg [.str f, .str t, .int .i64 p, .int .i64 q, .str b]], [] => tg.length = 16 ∧
    outK (nbNd k fl op tg ⟨m0, m1, m2, m3, m4, m5⟩ ⟨t0, t1, t2, t3, t4, t5⟩ f t) K
  | _, _ => False
def ndGRow : Srow := fun args H K => match args, H with
  | [.agg [.byte m0, .byte m1, .byte m2, .byte m3, .byte m4, .byte m5], .agg [.byte t0, .byte t1, .byte t2, .byte t3, .byte t4, .byte t5], .agg [.str f, .str t, .int .i64 p, .int .i64 q, .str b], .str body], [] => body.length = 32 ∧
    outK (ndG body ⟨m0, m1, m2, m3, m4, m5⟩ ⟨t0, t1, t2, t3, t4, t5⟩ f t) K
  | _, _ => False
def askRow : Srow := fun args H K => match args, H with
  | [.agg [.byte m0, .byte m1, .byte m2, .byte m3, .byte m4, .byte m5], .str a, .str b], [] => outK (nbAsk ⟨m0, m1, m2, m3, m4, m5⟩ a b) K
  | _, _ => False
def tellRow : Srow := fun args H K => match args, H with
  | [.agg [.byte m0, .byte m1, .byte m2, .byte m3, .byte m4, .byte m5], .str a, .agg [.byte t0, .byte t1, .byte t2, .byte t3, .byte t4, .byte t5], .str b], [] => outK (nbTell ⟨m0, m1, m2, m3, m4, m5⟩ a ⟨t0, t1, t2, t3, t4, t5⟩ b) K
  | _, _ => False
def claimRow : Srow := fun args H K => match args, H with
  | [.agg [.byte m0, .byte m1, .byte m2, .byte m3, .byte m4, .byte m5], .str a], [] => outK (nbClaim ⟨m0, m1, m2, m3, m4, m5⟩ a) K
  | _, _ => False
def ntV (n : Nt) : List AVal := [.int .i64 n.kind, .byte n.mac.a0, .byte n.mac.a1, .byte n.mac.a2, .byte n.mac.a3, .byte n.mac.a4, .byte n.mac.a5, .str n.addr, .str n.target, .bool n.asked]
def ntRow (g : List UInt8 → Nt × Int) : Srow := fun args H K => match args, H with
  | [.str s], [] => s.length ≤ 140737488351232 ∧ K (.tup [.agg (ntV (g s).1), .int .i64 (g s).2]) []
  | _, _ => False
def readRow : Srow := fun args H K => match args, H with
  | [.agg [.byte a0, .byte a1, .byte a2, .byte a3, .byte a4, .byte a5, .byte b0, .byte b1, .byte b2, .byte b3, .byte b4, .byte b5, .int .i64 ty, .str b]], [] => b.length ≤ 140737488351232 ∧
    K (.tup [.agg (ntV (nbRead ⟨⟨a0, a1, a2, a3, a4, a5⟩, ⟨b0, b1, b2, b3, b4, b5⟩, ty, b⟩).1), .int .i64 (nbRead ⟨⟨a0, a1, a2, a3, a4, a5⟩, ⟨b0, b1, b2, b3, b4, b5⟩, ty, b⟩).2]) []
  | _, _ => False
theorem optP_n {α : Type} (k : α → Prop) (d : Prop) : optP none k d = d := rfl
theorem optP_s {α : Type} (x : α) (k : α → Prop) (d : Prop) : optP (some x) k d = k x := rfl
def ann_neigh_start : Nat → List Nat × Nat × List (List Nat)
  | _ => ([], 0, [])
def Tnb1 : Specs := ext Tet 42 (fnP Try.prog Tet ann_neigh_start Try.f42)
theorem Tnb1_sound : TSound Try.prog Tnb1 := ext_sound Tet_sound (fn_row Tet_sound mixed Try.func42 (by decide +kernel))
def ann_neigh_laid : Nat → List Nat × Nat × List (List Nat)
  | 3 => ([3, 6, 7, 8], 0, [])
  | 1000003 => ([], 8, [])
  | _ => ([], 0, [])
def Tnb2 : Specs := ext Tnb1 51 (fnP Try.prog Tnb1 ann_neigh_laid Try.f51)
theorem Tnb2_sound : TSound Try.prog Tnb2 := ext_sound Tnb1_sound (fn_row Tnb1_sound mixed Try.func51 (by decide +kernel))
def ann_neigh_card : Nat → List Nat × Nat × List (List Nat)
  | _ => ([], 0, [])
def Tnb3 : Specs := ext Tnb2 43 (fnP Try.prog Tnb2 ann_neigh_card Try.f43)
theorem Tnb3_sound : TSound Try.prog Tnb3 := ext_sound Tnb2_sound (fn_row Tnb2_sound mixed Try.func43 (by decide +kernel))
def ann_neigh_every : Nat → List Nat × Nat × List (List Nat)
  | _ => ([], 0, [])
set_option maxRecDepth 100000 in
theorem neigh_every_eq  (K : AVal → Hp → Prop) : fnP Try.prog Tnb3 ann_neigh_every Try.f40 [] [] K = (
  K
    (AVal.str
     [(255 : UInt8), (2 : UInt8), (0 : UInt8), (0 : UInt8), (0 : UInt8), (0 : UInt8), (0 : UInt8), (0 : UInt8),
      (0 : UInt8), (0 : UInt8), (0 : UInt8), (0 : UInt8), (0 : UInt8), (0 : UInt8), (0 : UInt8), (1 : UInt8)])
    []) := by kernel_rfl
theorem neigh_every_p : ∀ args H K, everyRow args H K → fnP Try.prog Tnb3 ann_neigh_every Try.f40 args H K := by
  intro args H K h
  unfold everyRow at h
  split at h
  · rw [neigh_every_eq]; exact h
  · exact h.elim
def Tnb4 : Specs := ext Tnb3 40 (everyRow)
theorem Tnb4_sound : TSound Try.prog Tnb4 := ext_sound Tnb3_sound (row_of Tnb3_sound mixed Try.func40 (by decide +kernel) neigh_every_p)
def ann_neigh_Near : Nat → List Nat × Nat × List (List Nat)
  | _ => ([], 0, [])
set_option maxRecDepth 100000 in
theorem neigh_Near_eq (a : List UInt8) (K : AVal → Hp → Prop) : fnP Try.prog Tnb4 ann_neigh_Near Try.f14 [.str a] [] K = (
  brP (!decide ((↑(List.length a) : Int) = (16 : Int))) (K (AVal.str []) [])
    (((0 : Int) ≤ (13 : Int) ∧ (13 : Int) ≤ (↑(List.length a) : Int)) ∧
     (13 : Nat) + List.length (List.drop (13 : Nat) a) ≤ (4611686018427387904 : Nat) ∧
      K
       (AVal.str
        ([(255 : UInt8), (2 : UInt8), (0 : UInt8), (0 : UInt8), (0 : UInt8), (0 : UInt8), (0 : UInt8), (0 : UInt8),
          (0 : UInt8), (0 : UInt8), (0 : UInt8), (1 : UInt8), (255 : UInt8)] ++
         List.drop (13 : Nat) a))
       [])) := by kernel_rfl
theorem neigh_Near_p : ∀ args H K, nearRow args H K → fnP Try.prog Tnb4 ann_neigh_Near Try.f14 args H K := by
  intro args H K h
  unfold nearRow at h
  split at h
  · rename_i a
    rw [neigh_Near_eq]
    revert h; intro hK
    unfold nbNear at hK
    try simp only [or_w16, div2, div3, add_w16, and255, b8_mod, List.set_cons_zero, List.set_cons_succ, andNot_4000, getD_drop, getD_take, b8_byte, b8_toNatN, UInt8.toNat_ofNat', UInt8.toNat_and, nat_mask4, nat_mask6, nat_240, u8_eq_iff, UInt8.reduceToNat, Int.reduceLT, List.take_succ_cons, List.take_zero, List.drop_zero, List.flatten_cons, List.flatten_nil, List.append_nil, List.nil_append, List.take_length, Nat.mul_one, Nat.zero_add, Nat.reduceAdd, Nat.reduceLT, List.length_drop]
    by_cases h16 : a.length = 16
    · rw [if_pos h16] at hK
      repeat' first
        | (refine And.intro (by first | first | omega | with_reducible exact i64_x256 _ | with_reducible exact i64_w16 _ _ | with_reducible exact i64_sum _ | (repeat' first | with_reducible exact i64_x256 _ | with_reducible exact i64_w16 _ _ | with_reducible exact i64_sum _ | with_reducible apply And.intro) <;> first | omega | (simp only [I64]; omega) | (simp; omega) | (simp; done) | (simp [I64]; omega) | (with_reducible refine impP_i (fun hg => ?_) <;> (try simp only [Bool.and_eq_true, Bool.or_eq_true, Bool.and_eq_false_iff, Bool.or_eq_false_iff, decide_eq_true_eq, decide_eq_false_iff_not, Bool.not_eq_true', Bool.not_eq_false', Bool.not_true, Bool.not_false, Bool.true_and, Bool.and_true, Bool.false_or, Bool.or_false, beq_iff_eq, beq_eq_false_iff_ne, ne_eq] at hg) <;> (first | omega | with_reducible exact i64_x256 _ | with_reducible exact i64_w16 _ _ | with_reducible exact i64_sum _ | (repeat' first | with_reducible exact i64_x256 _ | with_reducible exact i64_w16 _ _ | with_reducible exact i64_sum _ | with_reducible apply And.intro) <;> first | omega | (simp only [I64]; omega) | (simp; omega) | (simp; done) | (simp [I64]; omega)))) ?_)
        | (refine brP_d (fun h => ?_) (fun h => ?_))
        | (refine optP_i (fun x hx => ?_) (fun hx => ?_) <;> (try have hxl := pseudo_len hx))
        | (refine brP_nd (fun h => ?_) (fun h => ?_))
        | (refine brP_i (fun h => ?_) (fun h => ?_) <;> (try simp only [Bool.and_eq_true, Bool.or_eq_true, Bool.and_eq_false_iff, Bool.or_eq_false_iff, decide_eq_true_eq, decide_eq_false_iff_not, Bool.not_eq_true', Bool.not_eq_false', Bool.not_true, Bool.not_false, Bool.true_and, Bool.and_true, Bool.false_or, Bool.or_false, beq_iff_eq, beq_eq_false_iff_ne, ne_eq] at h))
      all_goals first | exact hK | (exfalso; omega) | (exact absurd trivial h)
    · rw [if_neg h16] at hK
      repeat' first
        | (refine And.intro (by first | first | omega | with_reducible exact i64_x256 _ | with_reducible exact i64_w16 _ _ | with_reducible exact i64_sum _ | (repeat' first | with_reducible exact i64_x256 _ | with_reducible exact i64_w16 _ _ | with_reducible exact i64_sum _ | with_reducible apply And.intro) <;> first | omega | (simp only [I64]; omega) | (simp; omega) | (simp; done) | (simp [I64]; omega) | (with_reducible refine impP_i (fun hg => ?_) <;> (try simp only [Bool.and_eq_true, Bool.or_eq_true, Bool.and_eq_false_iff, Bool.or_eq_false_iff, decide_eq_true_eq, decide_eq_false_iff_not, Bool.not_eq_true', Bool.not_eq_false', Bool.not_true, Bool.not_false, Bool.true_and, Bool.and_true, Bool.false_or, Bool.or_false, beq_iff_eq, beq_eq_false_iff_ne, ne_eq] at hg) <;> (first | omega | with_reducible exact i64_x256 _ | with_reducible exact i64_w16 _ _ | with_reducible exact i64_sum _ | (repeat' first | with_reducible exact i64_x256 _ | with_reducible exact i64_w16 _ _ | with_reducible exact i64_sum _ | with_reducible apply And.intro) <;> first | omega | (simp only [I64]; omega) | (simp; omega) | (simp; done) | (simp [I64]; omega)))) ?_)
        | (refine brP_d (fun h => ?_) (fun h => ?_))
        | (refine optP_i (fun x hx => ?_) (fun hx => ?_) <;> (try have hxl := pseudo_len hx))
        | (refine brP_nd (fun h => ?_) (fun h => ?_))
        | (refine brP_i (fun h => ?_) (fun h => ?_) <;> (try simp only [Bool.and_eq_true, Bool.or_eq_true, Bool.and_eq_false_iff, Bool.or_eq_false_iff, decide_eq_true_eq, decide_eq_false_iff_not, Bool.not_eq_true', Bool.not_eq_false', Bool.not_true, Bool.not_false, Bool.true_and, Bool.and_true, Bool.false_or, Bool.or_false, beq_iff_eq, beq_eq_false_iff_ne, ne_eq] at h))
      all_goals first | exact hK | (exfalso; omega) | (exact absurd trivial h)
  · exact h.elim
def Tnb5 : Specs := ext Tnb4 14 (nearRow)
theorem Tnb5_sound : TSound Try.prog Tnb5 := ext_sound Tnb4_sound (row_of Tnb4_sound mixed Try.func14 (by decide +kernel) neigh_Near_p)
def ann_neigh_arp : Nat → List Nat × Nat × List (List Nat)
  | 2 => ([], 13, [[], [0], [], [2], [2, 3], [], [5], [], [], [8], [], [0, 1, 2, 3, 4, 5, 6, 7, 8, 9, 10], [0, 1, 2, 3, 4, 5, 6, 7, 8, 9, 10, 11]])
  | _ => ([], 0, [])
set_option maxRecDepth 100000 in
theorem neigh_arp_eq (k t0 t1 t2 t3 t4 t5 m0 m1 m2 m3 m4 m5 o0 o1 o2 o3 o4 o5 : UInt8) (a b : List UInt8) (K : AVal → Hp → Prop) : fnP Try.prog Tnb5 ann_neigh_arp Try.f33 [.byte k, .agg [.byte t0, .byte t1, .byte t2, .byte t3, .byte t4, .byte t5], .agg [.byte m0, .byte m1, .byte m2, .byte m3, .byte m4, .byte m5], .str a, .agg [.byte o0, .byte o1, .byte o2, .byte o3, .byte o4, .byte o5], .str b] [] K = (
  ((0 : Int) ≤ (0 : Int) ∧ (0 : Int) < (6 : Int)) ∧
    (7 : Nat) ≤ (4611686018427387904 : Nat) ∧
     I64 (1 : Int) ∧
      ((0 : Int) ≤ (1 : Int) ∧ (1 : Int) < (6 : Int)) ∧
       (8 : Nat) ≤ (4611686018427387904 : Nat) ∧
        I64 (2 : Int) ∧
         ((0 : Int) ≤ (2 : Int) ∧ (2 : Int) < (6 : Int)) ∧
          (14 : Nat) ≤ (4611686018427387904 : Nat) ∧
           I64 (3 : Int) ∧
            ((0 : Int) ≤ (3 : Int) ∧ (3 : Int) < (6 : Int)) ∧
             (14 : Nat) + List.length a ≤ (4611686018427387904 : Nat) ∧
              I64 (4 : Int) ∧
               ((0 : Int) ≤ (4 : Int) ∧ (4 : Int) < (6 : Int)) ∧
                List.length
                    ([(0 : UInt8), (1 : UInt8), (8 : UInt8), (0 : UInt8), (6 : UInt8), (4 : UInt8), (0 : UInt8)] ++
                       List.take (1 : Nat) (List.drop (0 : Nat) [k]) ++
                      [m0, m1, m2, m3, m4, m5] ++
                     a) +
                   (6 : Nat) ≤
                  (4611686018427387904 : Nat) ∧
                 I64 (5 : Int) ∧
                  ((0 : Int) ≤ (5 : Int) ∧ (5 : Int) < (6 : Int)) ∧
                   List.length
                       ([(0 : UInt8), (1 : UInt8), (8 : UInt8), (0 : UInt8), (6 : UInt8), (4 : UInt8), (0 : UInt8)] ++
                           List.take (1 : Nat) (List.drop (0 : Nat) [k]) ++
                          [m0, m1, m2, m3, m4, m5] ++
                         a ++
                        [o0, o1, o2, o3, o4, o5]) +
                      List.length b ≤
                     (4611686018427387904 : Nat) ∧
                    I64 (6 : Int) ∧
                     optP
                      (etEncode
                       (Fm.mk (Mc.mk t0 t1 t2 t3 t4 t5) (Mc.mk m0 m1 m2 m3 m4 m5) (2054 : Int)
                        ([(0 : UInt8), (1 : UInt8), (8 : UInt8), (0 : UInt8), (6 : UInt8), (4 : UInt8), (0 : UInt8)] ++
                             List.take (1 : Nat) (List.drop (0 : Nat) [k]) ++
                            [m0, m1, m2, m3, m4, m5] ++
                           a ++
                          [o0, o1, o2, o3, o4, o5] ++
                         b)))
                      (fun x =>
                       K
                        (AVal.tup [AVal.sl (0 : Nat) (0 : Nat) (List.length x) (1 : Nat), AVal.int IntKind.i64 (0 : Int)])
                        [ABlk.bytes x])
                      (K (AVal.tup [AVal.nilS, AVal.int IntKind.i64 (1 : Int)]) [])) := by kernel_rfl
theorem neigh_arp_p : ∀ args H K, arpRow args H K → fnP Try.prog Tnb5 ann_neigh_arp Try.f33 args H K := by
  intro args H K h
  unfold arpRow at h
  split at h
  · obtain ⟨⟨ha, hb⟩, hK⟩ := h
    rw [neigh_arp_eq]
    simp only [List.length_append, List.length_cons, List.length_nil, or_w16, div2, div3, add_w16, and255, b8_mod, List.set_cons_zero, List.set_cons_succ, andNot_4000, getD_drop, getD_take, b8_byte, b8_toNatN, UInt8.toNat_ofNat', UInt8.toNat_and, nat_mask4, nat_mask6, nat_240, u8_eq_iff, UInt8.reduceToNat, Int.reduceLT, List.take_succ_cons, List.take_zero, List.drop_zero, List.flatten_cons, List.flatten_nil, List.append_nil, List.nil_append, List.take_length, Nat.mul_one, Nat.zero_add, Nat.reduceAdd, Nat.reduceLT]
    repeat' (refine And.intro (by first | first | omega | with_reducible exact i64_x256 _ | with_reducible exact i64_w16 _ _ | with_reducible exact i64_sum _ | (repeat' first | with_reducible exact i64_x256 _ | with_reducible exact i64_w16 _ _ | with_reducible exact i64_sum _ | with_reducible apply And.intro) <;> first | omega | (simp only [I64]; omega) | (simp; omega) | (simp; done) | (simp [I64]; omega) | (with_reducible refine impP_i (fun hg => ?_) <;> (try simp only [Bool.and_eq_true, Bool.or_eq_true, Bool.and_eq_false_iff, Bool.or_eq_false_iff, decide_eq_true_eq, decide_eq_false_iff_not, Bool.not_eq_true', Bool.not_eq_false', Bool.not_true, Bool.not_false, Bool.true_and, Bool.and_true, Bool.false_or, Bool.or_false, beq_iff_eq, beq_eq_false_iff_ne, ne_eq] at hg) <;> (first | omega | with_reducible exact i64_x256 _ | with_reducible exact i64_w16 _ _ | with_reducible exact i64_sum _ | (repeat' first | with_reducible exact i64_x256 _ | with_reducible exact i64_w16 _ _ | with_reducible exact i64_sum _ | with_reducible apply And.intro) <;> first | omega | (simp only [I64]; omega) | (simp; omega) | (simp; done) | (simp [I64]; omega)))) ?_)
    exact hK
  · exact h.elim
def Tnb6 : Specs := ext Tnb5 33 (arpRow)
theorem Tnb6_sound : TSound Try.prog Tnb6 := ext_sound Tnb5_sound (row_of Tnb5_sound mixed Try.func33 (by decide +kernel) neigh_arp_p)
def ann_neigh_nd : Nat → List Nat × Nat × List (List Nat)
  | 1 => ([], 17, [[], [0], [], [2], [0, 1, 2, 3], [0, 1, 2, 3, 4], [], [6], [], [8], [8, 9], [8, 9, 10], [], [12], [0, 1, 2, 3, 4, 5, 6, 7, 8, 9, 10, 11, 12, 13], [0, 1, 2, 3, 4, 5, 6, 7, 8, 9, 10, 11, 12, 13, 14], [0, 1, 2, 3, 4, 5, 6, 7, 8, 9, 10, 11, 12, 13, 14, 15]])
  | 4 => ([], 7, [[3, 5], [], [0], [], [2], [2, 3], [2, 3, 4], [0, 1, 2, 3, 4, 5]])
  | _ => ([], 0, [])
set_option maxRecDepth 100000 in
theorem neigh_nd_eq (k fl op m0 m1 m2 m3 m4 m5 t0 t1 t2 t3 t4 t5 : UInt8) (tg f t : List UInt8) (p q : Int) (b : List UInt8) (K : AVal → Hp → Prop) : fnP Try.prog Tnb6 ann_neigh_nd Try.f32 [.agg [.byte k, .byte fl, .byte op, .str tg], .agg [.byte m0, .byte m1, .byte m2, .byte m3, .byte m4, .byte m5], .agg [.byte t0, .byte t1, .byte t2, .byte t3, .byte t4, .byte t5], .agg [.str f, .str t, .int .i64 p, .int .i64 q, .str b]] [] K = (
  ((0 : Int) ≤ (0 : Int) ∧ (0 : Int) < (4 : Int)) ∧
    (8 : Nat) ≤ (4611686018427387904 : Nat) ∧
     I64 (1 : Int) ∧
      ((0 : Int) ≤ (1 : Int) ∧ (1 : Int) < (4 : Int)) ∧
       (8 : Nat) + List.length tg ≤ (4611686018427387904 : Nat) ∧
        I64 (2 : Int) ∧
         ((0 : Int) ≤ (2 : Int) ∧ (2 : Int) < (4 : Int)) ∧
          List.length
              ([] ++
                List.take (8 : Nat)
                 (List.drop (0 : Nat)
                  [k, (0 : UInt8), (0 : UInt8), (0 : UInt8), fl, (0 : UInt8), (0 : UInt8), (0 : UInt8)]) ++
               tg) +
             (2 : Nat) ≤
            (4611686018427387904 : Nat) ∧
           I64 (3 : Int) ∧
            ((0 : Int) ≤ (3 : Int) ∧ (3 : Int) < (4 : Int)) ∧
             List.length
                 ([] ++
                    List.take (8 : Nat)
                     (List.drop (0 : Nat)
                      [k, (0 : UInt8), (0 : UInt8), (0 : UInt8), fl, (0 : UInt8), (0 : UInt8), (0 : UInt8)]) ++
                   tg ++
                  List.take (2 : Nat) (List.drop (0 : Nat) [op, (1 : UInt8)])) +
                (6 : Nat) ≤
               (4611686018427387904 : Nat) ∧
              I64 (4 : Int) ∧
               List.length
                  ([] ++
                      List.take (8 : Nat)
                       (List.drop (0 : Nat)
                        [k, (0 : UInt8), (0 : UInt8), (0 : UInt8), fl, (0 : UInt8), (0 : UInt8), (0 : UInt8)]) ++
                     tg ++
                    List.take (2 : Nat) (List.drop (0 : Nat) [op, (1 : UInt8)]) ++
                   [m0, m1, m2, m3, m4, m5]) ≤
                 (140737488355328 : Nat) ∧
                optP
                 (pseudo f t (58 : Int)
                  (↑(List.length
                     ([] ++
                         List.take (8 : Nat)
                          (List.drop (0 : Nat)
                           [k, (0 : UInt8), (0 : UInt8), (0 : UInt8), fl, (0 : UInt8), (0 : UInt8), (0 : UInt8)]) ++
                        tg ++
                       List.take (2 : Nat) (List.drop (0 : Nat) [op, (1 : UInt8)]) ++
                      [m0, m1, m2, m3, m4, m5])) :
                   Int))
                 (fun x =>
                  ((2 : Nat) ≤ (1000 : Nat) ∧
                    List.length
                      (List.flatten
                       [List.take (List.length x) (List.drop (0 : Nat) x),
                        List.take
                         (List.length
                          ([] ++
                              List.take (8 : Nat)
                               (List.drop (0 : Nat)
                                [k, (0 : UInt8), (0 : UInt8), (0 : UInt8), fl, (0 : UInt8), (0 : UInt8), (0 : UInt8)]) ++
                             tg ++
                            List.take (2 : Nat) (List.drop (0 : Nat) [op, (1 : UInt8)]) ++
                           [m0, m1, m2, m3, m4, m5]))
                         (List.drop (0 : Nat)
                          ([] ++
                              List.take (8 : Nat)
                               (List.drop (0 : Nat)
                                [k, (0 : UInt8), (0 : UInt8), (0 : UInt8), fl, (0 : UInt8), (0 : UInt8), (0 : UInt8)]) ++
                             tg ++
                            List.take (2 : Nat) (List.drop (0 : Nat) [op, (1 : UInt8)]) ++
                           [m0, m1, m2, m3, m4, m5]))]) ≤
                     (562949953421312 : Nat)) ∧
                   ((0 : Int) ≤ (8 : Int) ∧ (8 : Nat) < (16 : Nat)) ∧
                    ((0 : Int) ≤ (2 : Int) ∧
                      (2 : Int) <
                       (↑(List.length
                          ([] ++
                              List.take (8 : Nat)
                               (List.drop (0 : Nat)
                                [k, (0 : UInt8), (0 : UInt8), (0 : UInt8), fl, (0 : UInt8), (0 : UInt8), (0 : UInt8)]) ++
                             tg ++
                            List.take (2 : Nat) (List.drop (0 : Nat) [op, (1 : UInt8)]) ++
                           [m0, m1, m2, m3, m4, m5])) :
                        Int)) ∧
                     (2 : Nat) <
                       List.length
                        ([] ++
                            List.take (8 : Nat)
                             (List.drop (0 : Nat)
                              [k, (0 : UInt8), (0 : UInt8), (0 : UInt8), fl, (0 : UInt8), (0 : UInt8), (0 : UInt8)]) ++
                           tg ++
                          List.take (2 : Nat) (List.drop (0 : Nat) [op, (1 : UInt8)]) ++
                         [m0, m1, m2, m3, m4, m5]) ∧
                      ((0 : Int) ≤ (3 : Int) ∧
                        (3 : Int) <
                         (↑(List.length
                            ([] ++
                                List.take (8 : Nat)
                                 (List.drop (0 : Nat)
                                  [k, (0 : UInt8), (0 : UInt8), (0 : UInt8), fl, (0 : UInt8), (0 : UInt8),
                                   (0 : UInt8)]) ++
                               tg ++
                              List.take (2 : Nat) (List.drop (0 : Nat) [op, (1 : UInt8)]) ++
                             [m0, m1, m2, m3, m4, m5])) :
                          Int)) ∧
                       (3 : Nat) <
                         List.length
                          (List.set
                           ([] ++
                               List.take (8 : Nat)
                                (List.drop (0 : Nat)
                                 [k, (0 : UInt8), (0 : UInt8), (0 : UInt8), fl, (0 : UInt8), (0 : UInt8), (0 : UInt8)]) ++
                              tg ++
                             List.take (2 : Nat) (List.drop (0 : Nat) [op, (1 : UInt8)]) ++
                            [m0, m1, m2, m3, m4, m5])
                           (2 : Nat)
                           (b8
                            (((65535 : Int) -
                              sumB
                               (List.flatten
                                [List.take (List.length x) (List.drop (0 : Nat) x),
                                 List.take
                                  (List.length
                                   ([] ++
                                       List.take (8 : Nat)
                                        (List.drop (0 : Nat)
                                         [k, (0 : UInt8), (0 : UInt8), (0 : UInt8), fl, (0 : UInt8), (0 : UInt8),
                                          (0 : UInt8)]) ++
                                      tg ++
                                     List.take (2 : Nat) (List.drop (0 : Nat) [op, (1 : UInt8)]) ++
                                    [m0, m1, m2, m3, m4, m5]))
                                  (List.drop (0 : Nat)
                                   ([] ++
                                       List.take (8 : Nat)
                                        (List.drop (0 : Nat)
                                         [k, (0 : UInt8), (0 : UInt8), (0 : UInt8), fl, (0 : UInt8), (0 : UInt8),
                                          (0 : UInt8)]) ++
                                      tg ++
                                     List.take (2 : Nat) (List.drop (0 : Nat) [op, (1 : UInt8)]) ++
                                    [m0, m1, m2, m3, m4, m5]))])) /
                             (256 : Int)))) ∧
                        optP
                         (ipEncode
                          (Ip.mk f t (58 : Int) (255 : Int)
                           (List.take
                            (List.length
                             ([] ++
                                 List.take (8 : Nat)
                                  (List.drop (0 : Nat)
                                   [k, (0 : UInt8), (0 : UInt8), (0 : UInt8), fl, (0 : UInt8), (0 : UInt8),
                                    (0 : UInt8)]) ++
                                tg ++
                               List.take (2 : Nat) (List.drop (0 : Nat) [op, (1 : UInt8)]) ++
                              [m0, m1, m2, m3, m4, m5]))
                            (List.drop (0 : Nat)
                             (List.set
                              (List.set
                               ([] ++
                                   List.take (8 : Nat)
                                    (List.drop (0 : Nat)
                                     [k, (0 : UInt8), (0 : UInt8), (0 : UInt8), fl, (0 : UInt8), (0 : UInt8),
                                      (0 : UInt8)]) ++
                                  tg ++
                                 List.take (2 : Nat) (List.drop (0 : Nat) [op, (1 : UInt8)]) ++
                                [m0, m1, m2, m3, m4, m5])
                               (2 : Nat)
                               (b8
                                (((65535 : Int) -
                                  sumB
                                   (List.flatten
                                    [List.take (List.length x) (List.drop (0 : Nat) x),
                                     List.take
                                      (List.length
                                       ([] ++
                                           List.take (8 : Nat)
                                            (List.drop (0 : Nat)
                                             [k, (0 : UInt8), (0 : UInt8), (0 : UInt8), fl, (0 : UInt8), (0 : UInt8),
                                              (0 : UInt8)]) ++
                                          tg ++
                                         List.take (2 : Nat) (List.drop (0 : Nat) [op, (1 : UInt8)]) ++
                                        [m0, m1, m2, m3, m4, m5]))
                                      (List.drop (0 : Nat)
                                       ([] ++
                                           List.take (8 : Nat)
                                            (List.drop (0 : Nat)
                                             [k, (0 : UInt8), (0 : UInt8), (0 : UInt8), fl, (0 : UInt8), (0 : UInt8),
                                              (0 : UInt8)]) ++
                                          tg ++
                                         List.take (2 : Nat) (List.drop (0 : Nat) [op, (1 : UInt8)]) ++
                                        [m0, m1, m2, m3, m4, m5]))])) /
                                 (256 : Int))))
                              (3 : Nat)
                              (b8
                               ((65535 : Int) -
                                sumB
                                 (List.flatten
                                  [List.take (List.length x) (List.drop (0 : Nat) x),
                                   List.take
                                    (List.length
                                     ([] ++
                                         List.take (8 : Nat)
                                          (List.drop (0 : Nat)
                                           [k, (0 : UInt8), (0 : UInt8), (0 : UInt8), fl, (0 : UInt8), (0 : UInt8),
                                            (0 : UInt8)]) ++
                                        tg ++
                                       List.take (2 : Nat) (List.drop (0 : Nat) [op, (1 : UInt8)]) ++
                                      [m0, m1, m2, m3, m4, m5]))
                                    (List.drop (0 : Nat)
                                     ([] ++
                                         List.take (8 : Nat)
                                          (List.drop (0 : Nat)
                                           [k, (0 : UInt8), (0 : UInt8), (0 : UInt8), fl, (0 : UInt8), (0 : UInt8),
                                            (0 : UInt8)]) ++
                                        tg ++
                                       List.take (2 : Nat) (List.drop (0 : Nat) [op, (1 : UInt8)]) ++
                                      [m0, m1, m2, m3, m4, m5]))]))))))))
                         (fun x =>
                          optP
                           (etEncode
                            (Fm.mk (Mc.mk t0 t1 t2 t3 t4 t5) (Mc.mk m0 m1 m2 m3 m4 m5) (34525 : Int)
                             (List.take (List.length x) (List.drop (0 : Nat) x))))
                           (fun x =>
                            K
                             (AVal.tup
                              [AVal.sl (0 : Nat) (0 : Nat) (List.length x) (1 : Nat), AVal.int IntKind.i64 (0 : Int)])
                             [ABlk.bytes x])
                           (K (AVal.tup [AVal.nilS, AVal.int IntKind.i64 (1 : Int)]) []))
                         (K (AVal.tup [AVal.nilS, AVal.int IntKind.i64 (1 : Int)]) []))
                 (((2 : Nat) ≤ (1000 : Nat) ∧
                   List.length
                     (List.flatten
                      [[],
                       List.take
                        (List.length
                         ([] ++
                             List.take (8 : Nat)
                              (List.drop (0 : Nat)
                               [k, (0 : UInt8), (0 : UInt8), (0 : UInt8), fl, (0 : UInt8), (0 : UInt8), (0 : UInt8)]) ++
                            tg ++
                           List.take (2 : Nat) (List.drop (0 : Nat) [op, (1 : UInt8)]) ++
                          [m0, m1, m2, m3, m4, m5]))
                        (List.drop (0 : Nat)
                         ([] ++
                             List.take (8 : Nat)
                              (List.drop (0 : Nat)
                               [k, (0 : UInt8), (0 : UInt8), (0 : UInt8), fl, (0 : UInt8), (0 : UInt8), (0 : UInt8)]) ++
                            tg ++
                           List.take (2 : Nat) (List.drop (0 : Nat) [op, (1 : UInt8)]) ++
                          [m0, m1, m2, m3, m4, m5]))]) ≤
                    (562949953421312 : Nat)) ∧
                  ((0 : Int) ≤ (8 : Int) ∧ (8 : Nat) < (16 : Nat)) ∧
                   ((0 : Int) ≤ (2 : Int) ∧
                     (2 : Int) <
                      (↑(List.length
                         ([] ++
                             List.take (8 : Nat)
                              (List.drop (0 : Nat)
                               [k, (0 : UInt8), (0 : UInt8), (0 : UInt8), fl, (0 : UInt8), (0 : UInt8), (0 : UInt8)]) ++
                            tg ++
                           List.take (2 : Nat) (List.drop (0 : Nat) [op, (1 : UInt8)]) ++
                          [m0, m1, m2, m3, m4, m5])) :
                       Int)) ∧
                    (2 : Nat) <
                      List.length
                       ([] ++
                           List.take (8 : Nat)
                            (List.drop (0 : Nat)
                             [k, (0 : UInt8), (0 : UInt8), (0 : UInt8), fl, (0 : UInt8), (0 : UInt8), (0 : UInt8)]) ++
                          tg ++
                         List.take (2 : Nat) (List.drop (0 : Nat) [op, (1 : UInt8)]) ++
                        [m0, m1, m2, m3, m4, m5]) ∧
                     ((0 : Int) ≤ (3 : Int) ∧
                       (3 : Int) <
                        (↑(List.length
                           ([] ++
                               List.take (8 : Nat)
                                (List.drop (0 : Nat)
                                 [k, (0 : UInt8), (0 : UInt8), (0 : UInt8), fl, (0 : UInt8), (0 : UInt8), (0 : UInt8)]) ++
                              tg ++
                             List.take (2 : Nat) (List.drop (0 : Nat) [op, (1 : UInt8)]) ++
                            [m0, m1, m2, m3, m4, m5])) :
                         Int)) ∧
                      (3 : Nat) <
                        List.length
                         (List.set
                          ([] ++
                              List.take (8 : Nat)
                               (List.drop (0 : Nat)
                                [k, (0 : UInt8), (0 : UInt8), (0 : UInt8), fl, (0 : UInt8), (0 : UInt8), (0 : UInt8)]) ++
                             tg ++
                            List.take (2 : Nat) (List.drop (0 : Nat) [op, (1 : UInt8)]) ++
                           [m0, m1, m2, m3, m4, m5])
                          (2 : Nat)
                          (b8
                           (((65535 : Int) -
                             sumB
                              (List.flatten
                               [[],
                                List.take
                                 (List.length
                                  ([] ++
                                      List.take (8 : Nat)
                                       (List.drop (0 : Nat)
                                        [k, (0 : UInt8), (0 : UInt8), (0 : UInt8), fl, (0 : UInt8), (0 : UInt8),
                                         (0 : UInt8)]) ++
                                     tg ++
                                    List.take (2 : Nat) (List.drop (0 : Nat) [op, (1 : UInt8)]) ++
                                   [m0, m1, m2, m3, m4, m5]))
                                 (List.drop (0 : Nat)
                                  ([] ++
                                      List.take (8 : Nat)
                                       (List.drop (0 : Nat)
                                        [k, (0 : UInt8), (0 : UInt8), (0 : UInt8), fl, (0 : UInt8), (0 : UInt8),
                                         (0 : UInt8)]) ++
                                     tg ++
                                    List.take (2 : Nat) (List.drop (0 : Nat) [op, (1 : UInt8)]) ++
                                   [m0, m1, m2, m3, m4, m5]))])) /
                            (256 : Int)))) ∧
                       optP
                        (ipEncode
                         (Ip.mk f t (58 : Int) (255 : Int)
                          (List.take
                           (List.length
                            ([] ++
                                List.take (8 : Nat)
                                 (List.drop (0 : Nat)
                                  [k, (0 : UInt8), (0 : UInt8), (0 : UInt8), fl, (0 : UInt8), (0 : UInt8),
                                   (0 : UInt8)]) ++
                               tg ++
                              List.take (2 : Nat) (List.drop (0 : Nat) [op, (1 : UInt8)]) ++
                             [m0, m1, m2, m3, m4, m5]))
                           (List.drop (0 : Nat)
                            (List.set
                             (List.set
                              ([] ++
                                  List.take (8 : Nat)
                                   (List.drop (0 : Nat)
                                    [k, (0 : UInt8), (0 : UInt8), (0 : UInt8), fl, (0 : UInt8), (0 : UInt8),
                                     (0 : UInt8)]) ++
                                 tg ++
                                List.take (2 : Nat) (List.drop (0 : Nat) [op, (1 : UInt8)]) ++
                               [m0, m1, m2, m3, m4, m5])
                              (2 : Nat)
                              (b8
                               (((65535 : Int) -
                                 sumB
                                  (List.flatten
                                   [[],
                                    List.take
                                     (List.length
                                      ([] ++
                                          List.take (8 : Nat)
                                           (List.drop (0 : Nat)
                                            [k, (0 : UInt8), (0 : UInt8), (0 : UInt8), fl, (0 : UInt8), (0 : UInt8),
                                             (0 : UInt8)]) ++
                                         tg ++
                                        List.take (2 : Nat) (List.drop (0 : Nat) [op, (1 : UInt8)]) ++
                                       [m0, m1, m2, m3, m4, m5]))
                                     (List.drop (0 : Nat)
                                      ([] ++
                                          List.take (8 : Nat)
                                           (List.drop (0 : Nat)
                                            [k, (0 : UInt8), (0 : UInt8), (0 : UInt8), fl, (0 : UInt8), (0 : UInt8),
                                             (0 : UInt8)]) ++
                                         tg ++
                                        List.take (2 : Nat) (List.drop (0 : Nat) [op, (1 : UInt8)]) ++
                                       [m0, m1, m2, m3, m4, m5]))])) /
                                (256 : Int))))
                             (3 : Nat)
                             (b8
                              ((65535 : Int) -
                               sumB
                                (List.flatten
                                 [[],
                                  List.take
                                   (List.length
                                    ([] ++
                                        List.take (8 : Nat)
                                         (List.drop (0 : Nat)
                                          [k, (0 : UInt8), (0 : UInt8), (0 : UInt8), fl, (0 : UInt8), (0 : UInt8),
                                           (0 : UInt8)]) ++
                                       tg ++
                                      List.take (2 : Nat) (List.drop (0 : Nat) [op, (1 : UInt8)]) ++
                                     [m0, m1, m2, m3, m4, m5]))
                                   (List.drop (0 : Nat)
                                    ([] ++
                                        List.take (8 : Nat)
                                         (List.drop (0 : Nat)
                                          [k, (0 : UInt8), (0 : UInt8), (0 : UInt8), fl, (0 : UInt8), (0 : UInt8),
                                           (0 : UInt8)]) ++
                                       tg ++
                                      List.take (2 : Nat) (List.drop (0 : Nat) [op, (1 : UInt8)]) ++
                                     [m0, m1, m2, m3, m4, m5]))]))))))))
                        (fun x =>
                         optP
                          (etEncode
                           (Fm.mk (Mc.mk t0 t1 t2 t3 t4 t5) (Mc.mk m0 m1 m2 m3 m4 m5) (34525 : Int)
                            (List.take (List.length x) (List.drop (0 : Nat) x))))
                          (fun x =>
                           K
                            (AVal.tup
                             [AVal.sl (0 : Nat) (0 : Nat) (List.length x) (1 : Nat), AVal.int IntKind.i64 (0 : Int)])
                            [ABlk.bytes x])
                          (K (AVal.tup [AVal.nilS, AVal.int IntKind.i64 (1 : Int)]) []))
                        (K (AVal.tup [AVal.nilS, AVal.int IntKind.i64 (1 : Int)]) []))) := by kernel_rfl
theorem neigh_nd_p : ∀ args H K, ndRow args H K → fnP Try.prog Tnb6 ann_neigh_nd Try.f32 args H K := by
  intro args H K h
  unfold ndRow at h
  split at h
  · rename_i k fl op tg m0 m1 m2 m3 m4 m5 t0 t1 t2 t3 t4 t5 f t p q b
    obtain ⟨htg, hK⟩ := h
    rw [neigh_nd_eq]
    simp only [List.length_append, List.length_cons, List.length_nil, or_w16, div2, div3, add_w16, and255, b8_mod, List.set_cons_zero, List.set_cons_succ, andNot_4000, getD_drop, getD_take, b8_byte, b8_toNatN, UInt8.toNat_ofNat', UInt8.toNat_and, nat_mask4, nat_mask6, nat_240, u8_eq_iff, UInt8.reduceToNat, Int.reduceLT, List.take_succ_cons, List.take_zero, List.drop_zero, List.flatten_cons, List.flatten_nil, List.append_nil, List.nil_append, List.take_length, Nat.mul_one, Nat.zero_add, Nat.reduceAdd, Nat.reduceLT]
    have h32 : 8 + tg.length + 2 + 6 = 32 := by omega
    have hK' : optP (ipEncode (nbIp k fl op tg ⟨m0, m1, m2, m3, m4, m5⟩ f t)) (fun x => outK (etEncode ⟨⟨t0, t1, t2, t3, t4, t5⟩, ⟨m0, m1, m2, m3, m4, m5⟩, 34525, x⟩) K) (K (.tup [.nilS, .int .i64 1]) []) := by
      unfold nbNd at hK; revert hK; cases ipEncode (nbIp k fl op tg ⟨m0, m1, m2, m3, m4, m5⟩ f t) <;> exact id
    have hB0 : [k, 0, 0, 0, fl, 0, 0, 0] ++ tg ++ [op, 1] ++ [m0, m1, m2, m3, m4, m5] = nbBody k fl op tg ⟨m0, m1, m2, m3, m4, m5⟩ 0 := by
      unfold nbBody; rw [show two 0 = [0, 0] by decide +kernel]; simp [Mc.bytes]
    have hBl := fun s => nbBody_len (kind := k) (flags := fl) (opt := op) (m := ⟨m0, m1, m2, m3, m4, m5⟩) (s := s) htg
    have hBt : ∀ s, List.take 32 (nbBody k fl op tg ⟨m0, m1, m2, m3, m4, m5⟩ s) = nbBody k fl op tg ⟨m0, m1, m2, m3, m4, m5⟩ s := fun s => List.take_of_length_le (by rw [hBl]; omega)
    have hBs : ∀ s, ((nbBody k fl op tg ⟨m0, m1, m2, m3, m4, m5⟩ 0).set 2 (b8 (s / 256))).set 3 (b8 s) = nbBody k fl op tg ⟨m0, m1, m2, m3, m4, m5⟩ s := fun s => by
      rw [← hB0]; unfold nbBody two Mc.bytes; simp
    simp only [h32, hB0, hBs, hBt, List.length_set, hBl]
    unfold nbIp nbSum at hK'
    rw [hBl] at hK'
    have hl40 := @pseudo_len f t 58
    unfold pseudoL at hK'
    cases hps : pseudo f t 58 ((32 : Nat) : Int) with
    | none =>
      rw [hps] at hK'
      simp only [optP_n, Option.getD_none, List.nil_append] at hK' ⊢
      repeat' (refine And.intro (by first | first | omega | with_reducible exact i64_x256 _ | with_reducible exact i64_w16 _ _ | with_reducible exact i64_sum _ | (repeat' first | with_reducible exact i64_x256 _ | with_reducible exact i64_w16 _ _ | with_reducible exact i64_sum _ | with_reducible apply And.intro) <;> first | omega | (simp only [I64]; omega) | (simp; omega) | (simp; done) | (simp [I64]; omega) | (with_reducible refine impP_i (fun hg => ?_) <;> (try simp only [Bool.and_eq_true, Bool.or_eq_true, Bool.and_eq_false_iff, Bool.or_eq_false_iff, decide_eq_true_eq, decide_eq_false_iff_not, Bool.not_eq_true', Bool.not_eq_false', Bool.not_true, Bool.not_false, Bool.true_and, Bool.and_true, Bool.false_or, Bool.or_false, beq_iff_eq, beq_eq_false_iff_ne, ne_eq] at hg) <;> (first | omega | with_reducible exact i64_x256 _ | with_reducible exact i64_w16 _ _ | with_reducible exact i64_sum _ | (repeat' first | with_reducible exact i64_x256 _ | with_reducible exact i64_w16 _ _ | with_reducible exact i64_sum _ | with_reducible apply And.intro) <;> first | omega | (simp only [I64]; omega) | (simp; omega) | (simp; done) | (simp [I64]; omega)))) ?_)
      exact hK'
    | some l =>
      rw [hps] at hK'
      have hl := hl40 hps
      simp only [optP_s, Option.getD_some] at hK' ⊢
      repeat' (refine And.intro (by first | first | omega | with_reducible exact i64_x256 _ | with_reducible exact i64_w16 _ _ | with_reducible exact i64_sum _ | (repeat' first | with_reducible exact i64_x256 _ | with_reducible exact i64_w16 _ _ | with_reducible exact i64_sum _ | with_reducible apply And.intro) <;> first | omega | (simp only [I64]; omega) | (simp; omega) | (simp; done) | (simp [I64]; omega) | (with_reducible refine impP_i (fun hg => ?_) <;> (try simp only [Bool.and_eq_true, Bool.or_eq_true, Bool.and_eq_false_iff, Bool.or_eq_false_iff, decide_eq_true_eq, decide_eq_false_iff_not, Bool.not_eq_true', Bool.not_eq_false', Bool.not_true, Bool.not_false, Bool.true_and, Bool.and_true, Bool.false_or, Bool.or_false, beq_iff_eq, beq_eq_false_iff_ne, ne_eq] at hg) <;> (first | omega | with_reducible exact i64_x256 _ | with_reducible exact i64_w16 _ _ | with_reducible exact i64_sum _ | (repeat' first | with_reducible exact i64_x256 _ | with_reducible exact i64_w16 _ _ | with_reducible exact i64_sum _ | with_reducible apply And.intro) <;> first | omega | (simp only [I64]; omega) | (simp; omega) | (simp; done) | (simp [I64]; omega)))) ?_)
      exact hK'
  · exact h.elim
def Tnb7 : Specs := ext Tnb6 32 (ndRow)
theorem Tnb7_sound : TSound Try.prog Tnb7 := ext_sound Tnb6_sound (row_of Tnb6_sound mixed Try.func32 (by decide +kernel) neigh_nd_p)
def ann_neigh_readArp : Nat → List Nat × Nat × List (List Nat)
  | 1 => ([], 22, [[], [0], [0, 1], [0, 1, 2], [0, 1, 2, 3], [0, 1, 2, 3, 4], [0, 1, 2, 3, 4, 5], [0, 1, 2, 3, 4, 5, 6], [0, 1, 2, 3, 4, 5, 6, 7], [0, 1, 2, 3], [0, 1, 2, 3, 4, 5, 6, 7, 8, 9], [0, 1, 2, 3, 4, 5, 6, 7, 8, 9, 10], [0, 1, 2, 3, 4, 5, 6, 7, 8, 9, 10, 11], [0, 1, 2, 3, 4, 5, 6, 7, 8, 9, 10, 11, 12], [0, 1, 2, 3, 4, 5, 6, 7, 8, 9, 10, 11, 12, 13], [0, 1, 2, 3, 4, 5, 6, 7, 8, 9, 10, 11, 12, 13, 14], [0, 1, 2, 3, 4, 5, 6, 7, 8, 9, 10, 11, 12, 13, 14, 15], [0, 1, 2, 3, 4, 5, 6, 7, 8, 9, 10, 11, 12, 13, 14, 15, 16], [0, 1, 2, 3, 4, 5, 6, 7, 8, 9, 10, 11, 12, 13, 14, 15, 16, 17], [0, 1, 2, 3, 4, 5, 6, 7, 8, 9, 10, 11, 12, 13, 14, 15, 16, 17, 18], [0, 1, 2, 3, 4, 5, 6, 7, 8, 9, 10, 11, 12, 13, 14, 15, 16, 17, 18, 19], [0, 1, 2, 3, 4, 5, 6, 7, 8, 9, 10, 11, 12, 13, 14, 15, 16, 17, 18, 19, 20]])
  | 3 => ([], 14, [[], [0], [0, 1], [], [3], [3, 4], [], [6], [], [8], [], [10], [10, 11], [0, 1, 2, 3, 4, 5, 6, 7, 8, 9, 10, 11, 12]])
  | _ => ([], 0, [])
set_option maxRecDepth 100000 in
theorem neigh_readArp_eq (s : List UInt8) (K : AVal → Hp → Prop) : fnP Try.prog Tnb7 ann_neigh_readArp Try.f23 [.str s] [] K = (
  brP (decide ((↑(List.length s) : Int) < (28 : Int)))
    (K
     (AVal.tup
      [AVal.agg
        [AVal.int IntKind.i64 (0 : Int), AVal.byte (0 : UInt8), AVal.byte (0 : UInt8), AVal.byte (0 : UInt8),
         AVal.byte (0 : UInt8), AVal.byte (0 : UInt8), AVal.byte (0 : UInt8), AVal.str [], AVal.str [], AVal.bool false],
       AVal.int IntKind.i64 (40 : Int)])
     [])
    (((0 : Int) ≤ (7 : Int) ∧ (7 : Int) ≤ (↑(List.length s) : Int)) ∧
     List.length (List.take (7 : Nat) s) ≤ (140737488355328 : Nat) ∧
      ((0 : Nat) < (7 : Nat) ∧ (7 : Nat) ≤ List.length (List.take (7 : Nat) s)) ∧
       (7 : Nat) ≤ List.length (List.take (7 : Nat) s) ∧
        brP
         (!(decide (List.getD (List.take (7 : Nat) s) (0 : Nat) (0 : UInt8) = (0 : UInt8)) &&
           (decide (List.getD (List.take (7 : Nat) s) (1 : Nat) (0 : UInt8) = (1 : UInt8)) &&
            (decide (List.getD (List.take (7 : Nat) s) (2 : Nat) (0 : UInt8) = (8 : UInt8)) &&
             (decide (List.getD (List.take (7 : Nat) s) (3 : Nat) (0 : UInt8) = (0 : UInt8)) &&
              (decide (List.getD (List.take (7 : Nat) s) (4 : Nat) (0 : UInt8) = (6 : UInt8)) &&
               (decide (List.getD (List.take (7 : Nat) s) (5 : Nat) (0 : UInt8) = (4 : UInt8)) &&
                decide (List.getD (List.take (7 : Nat) s) (6 : Nat) (0 : UInt8) = (0 : UInt8)))))))))
         (K
          (AVal.tup
           [AVal.agg
             [AVal.int IntKind.i64 (0 : Int), AVal.byte (0 : UInt8), AVal.byte (0 : UInt8), AVal.byte (0 : UInt8),
              AVal.byte (0 : UInt8), AVal.byte (0 : UInt8), AVal.byte (0 : UInt8), AVal.str [], AVal.str [],
              AVal.bool false],
            AVal.int IntKind.i64 (40 : Int)])
          [])
         (((0 : Int) ≤ (7 : Int) ∧ (7 : Int) < (↑(List.length s) : Int)) ∧
          brP (!decide (List.getD s (7 : Nat) (0 : UInt8) = (1 : UInt8)))
           (((0 : Int) ≤ (7 : Int) ∧ (7 : Int) < (↑(List.length s) : Int)) ∧
            brP (!decide (List.getD s (7 : Nat) (0 : UInt8) = (2 : UInt8)))
             (K
              (AVal.tup
               [AVal.agg
                 [AVal.int IntKind.i64 (0 : Int), AVal.byte (0 : UInt8), AVal.byte (0 : UInt8), AVal.byte (0 : UInt8),
                  AVal.byte (0 : UInt8), AVal.byte (0 : UInt8), AVal.byte (0 : UInt8), AVal.str [], AVal.str [],
                  AVal.bool false],
                AVal.int IntKind.i64 (40 : Int)])
              [])
             (((0 : Int) ≤ (7 : Int) ∧ (7 : Int) < (↑(List.length s) : Int)) ∧
              ((0 : Int) ≤ (8 : Int) ∧ (8 : Int) ≤ (14 : Int) ∧ (14 : Int) ≤ (↑(List.length s) : Int)) ∧
               (6 : Nat) ≤ List.length (List.drop (8 : Nat) (List.take (14 : Nat) s)) ∧
                ((0 : Int) ≤ (14 : Int) ∧ (14 : Int) ≤ (18 : Int) ∧ (18 : Int) ≤ (↑(List.length s) : Int)) ∧
                 ((0 : Int) ≤ (24 : Int) ∧ (24 : Int) ≤ (28 : Int) ∧ (28 : Int) ≤ (↑(List.length s) : Int)) ∧
                  ((0 : Int) ≤ (7 : Int) ∧ (7 : Int) < (↑(List.length s) : Int)) ∧
                   K
                    (AVal.tup
                     [AVal.agg
                       [AVal.int IntKind.i64 (↑(UInt8.toNat (List.getD s (7 : Nat) (0 : UInt8))) : Int),
                        AVal.byte (List.getD (List.drop (8 : Nat) (List.take (14 : Nat) s)) (0 : Nat) (0 : UInt8)),
                        AVal.byte (List.getD (List.drop (8 : Nat) (List.take (14 : Nat) s)) (1 : Nat) (0 : UInt8)),
                        AVal.byte (List.getD (List.drop (8 : Nat) (List.take (14 : Nat) s)) (2 : Nat) (0 : UInt8)),
                        AVal.byte (List.getD (List.drop (8 : Nat) (List.take (14 : Nat) s)) (3 : Nat) (0 : UInt8)),
                        AVal.byte (List.getD (List.drop (8 : Nat) (List.take (14 : Nat) s)) (4 : Nat) (0 : UInt8)),
                        AVal.byte (List.getD (List.drop (8 : Nat) (List.take (14 : Nat) s)) (5 : Nat) (0 : UInt8)),
                        AVal.str (List.drop (14 : Nat) (List.take (18 : Nat) s)),
                        AVal.str (List.drop (24 : Nat) (List.take (28 : Nat) s)),
                        AVal.bool (decide (List.getD s (7 : Nat) (0 : UInt8) = (2 : UInt8)))],
                      AVal.int IntKind.i64 (0 : Int)])
                    []))
           (((0 : Int) ≤ (7 : Int) ∧ (7 : Int) < (↑(List.length s) : Int)) ∧
            ((0 : Int) ≤ (8 : Int) ∧ (8 : Int) ≤ (14 : Int) ∧ (14 : Int) ≤ (↑(List.length s) : Int)) ∧
             (6 : Nat) ≤ List.length (List.drop (8 : Nat) (List.take (14 : Nat) s)) ∧
              ((0 : Int) ≤ (14 : Int) ∧ (14 : Int) ≤ (18 : Int) ∧ (18 : Int) ≤ (↑(List.length s) : Int)) ∧
               ((0 : Int) ≤ (24 : Int) ∧ (24 : Int) ≤ (28 : Int) ∧ (28 : Int) ≤ (↑(List.length s) : Int)) ∧
                ((0 : Int) ≤ (7 : Int) ∧ (7 : Int) < (↑(List.length s) : Int)) ∧
                 K
                  (AVal.tup
                   [AVal.agg
                     [AVal.int IntKind.i64 (↑(UInt8.toNat (List.getD s (7 : Nat) (0 : UInt8))) : Int),
                      AVal.byte (List.getD (List.drop (8 : Nat) (List.take (14 : Nat) s)) (0 : Nat) (0 : UInt8)),
                      AVal.byte (List.getD (List.drop (8 : Nat) (List.take (14 : Nat) s)) (1 : Nat) (0 : UInt8)),
                      AVal.byte (List.getD (List.drop (8 : Nat) (List.take (14 : Nat) s)) (2 : Nat) (0 : UInt8)),
                      AVal.byte (List.getD (List.drop (8 : Nat) (List.take (14 : Nat) s)) (3 : Nat) (0 : UInt8)),
                      AVal.byte (List.getD (List.drop (8 : Nat) (List.take (14 : Nat) s)) (4 : Nat) (0 : UInt8)),
                      AVal.byte (List.getD (List.drop (8 : Nat) (List.take (14 : Nat) s)) (5 : Nat) (0 : UInt8)),
                      AVal.str (List.drop (14 : Nat) (List.take (18 : Nat) s)),
                      AVal.str (List.drop (24 : Nat) (List.take (28 : Nat) s)),
                      AVal.bool (decide (List.getD s (7 : Nat) (0 : UInt8) = (2 : UInt8)))],
                    AVal.int IntKind.i64 (0 : Int)])
                  [])))) := by kernel_rfl
theorem neigh_readArp_p : ∀ args H K, ntRow nbReadArp args H K → fnP Try.prog Tnb7 ann_neigh_readArp Try.f23 args H K := by
  intro args H K h
  unfold ntRow at h
  split at h
  · rename_i s
    obtain ⟨hl, hK⟩ := h
    rw [neigh_readArp_eq]
    simp only [or_w16, div2, div3, add_w16, and255, b8_mod, List.set_cons_zero, List.set_cons_succ, andNot_4000, getD_drop, getD_take, b8_byte, b8_toNatN, UInt8.toNat_ofNat', UInt8.toNat_and, nat_mask4, nat_mask6, nat_240, u8_eq_iff, UInt8.reduceToNat, Int.reduceLT, List.take_succ_cons, List.take_zero, List.drop_zero, List.flatten_cons, List.flatten_nil, List.append_nil, List.nil_append, List.take_length, Nat.mul_one, Nat.zero_add, Nat.reduceAdd, Nat.reduceLT, List.length_drop, List.length_take]
    rcases nbReadArp_cases s with ⟨k1, e⟩ | ⟨k1, k2, k3, e⟩ <;> rw [e] at hK <;> simp only [ntV, noNt, noMc, mcAt, Nat.reduceAdd] at hK
    all_goals unfold nbStart at *
    all_goals (repeat' first | (refine And.intro (by first | first | omega | with_reducible exact i64_x256 _ | with_reducible exact i64_w16 _ _ | with_reducible exact i64_sum _ | (repeat' first | with_reducible exact i64_x256 _ | with_reducible exact i64_w16 _ _ | with_reducible exact i64_sum _ | with_reducible apply And.intro) <;> first | omega | (simp only [I64]; omega) | (simp; omega) | (simp; done) | (simp [I64]; omega) | (with_reducible refine impP_i (fun hg => ?_) <;> (try simp only [Bool.and_eq_true, Bool.or_eq_true, Bool.and_eq_false_iff, Bool.or_eq_false_iff, decide_eq_true_eq, decide_eq_false_iff_not, Bool.not_eq_true', Bool.not_eq_false', Bool.not_true, Bool.not_false, Bool.true_and, Bool.and_true, Bool.false_or, Bool.or_false, beq_iff_eq, beq_eq_false_iff_ne, ne_eq] at hg) <;> (first | omega | with_reducible exact i64_x256 _ | with_reducible exact i64_w16 _ _ | with_reducible exact i64_sum _ | (repeat' first | with_reducible exact i64_x256 _ | with_reducible exact i64_w16 _ _ | with_reducible exact i64_sum _ | with_reducible apply And.intro) <;> first | omega | (simp only [I64]; omega) | (simp; omega) | (simp; done) | (simp [I64]; omega)))) ?_) | (refine brP_d (fun h => ?_) (fun h => ?_)) | (refine optP_i (fun x hx => ?_) (fun hx => ?_) <;> (try have hxl := pseudo_len hx)) | (refine brP_nd (fun h => ?_) (fun h => ?_)) | (refine brP_i (fun h => ?_) (fun h => ?_) <;> (try simp only [Bool.and_eq_true, Bool.or_eq_true, Bool.and_eq_false_iff, Bool.or_eq_false_iff, decide_eq_true_eq, decide_eq_false_iff_not, Bool.not_eq_true', Bool.not_eq_false', Bool.not_true, Bool.not_false, Bool.true_and, Bool.and_true, Bool.false_or, Bool.or_false, beq_iff_eq, beq_eq_false_iff_ne, ne_eq] at h)))
    all_goals first
      | exact hK
      | (exfalso; omega)
      | trace_state
  · exact h.elim
def Tnb8 : Specs := ext Tnb7 23 (ntRow nbReadArp)
theorem Tnb8_sound : TSound Try.prog Tnb8 := ext_sound Tnb7_sound (row_of Tnb7_sound mixed Try.func23 (by decide +kernel) neigh_readArp_p)
def ann_neigh_readNd : Nat → List Nat × Nat × List (List Nat)
  | 5 => ([], 17, [[], [0], [0, 1], [0, 1, 2], [0, 1, 2, 3], [0, 1, 2, 3, 4], [0, 1, 2, 3, 4, 5], [0, 1, 2, 3, 4, 5, 6], [], [8], [8, 9], [0, 1, 2, 3, 8, 9, 10], [0, 1, 2, 3, 8, 9, 10, 11], [0, 1, 2, 3, 8, 9, 10, 11, 12], [0, 1, 2, 3, 8, 9, 10, 11, 12, 13], [0, 1, 2, 3, 8, 9, 10, 11, 12, 13, 14], [0, 1, 2, 3, 4, 5, 6, 7, 8, 9, 10, 11]])
  | 11 => ([], 8, [[], [0], [0, 1], [], [3], [], [5], [0, 1, 2, 3, 4, 5, 6]])
  | 12 => ([], 12, [[], [0], [0, 1], [], [3], [], [5], [], [7], [7, 8], [7, 8, 9], [0, 1, 2, 3, 4, 5, 6, 7, 8, 9, 10]])
  | 2000005 => ([], 18, [[], [0], [0, 1], [0, 1, 2], [0, 1, 2, 3], [0, 1, 2, 3, 4], [0, 1, 2, 3, 4, 5], [0, 1, 2, 3, 4, 5, 6], [], [8], [8, 9], [0, 1, 2, 3, 8, 9, 10], [0, 1, 2, 3, 8, 9, 10, 11], [0, 1, 2, 3, 8, 9, 10, 11, 12], [0, 1, 2, 3, 8, 9, 10, 11, 12, 13], [0, 1, 2, 3, 8, 9, 10, 11, 12, 13, 14], [0, 1, 2, 3, 4, 5, 6, 7, 8, 9, 10, 11]])
  | 2000006 => ([], 17, [[], [0], [0, 1], [0, 1, 2], [0, 1, 2, 3], [0, 1, 2, 3, 4], [0, 1, 2, 3, 4, 5], [0, 1, 2, 3, 4, 5, 6], [0, 1, 2, 3, 4, 5, 6, 7], [0, 1, 2, 3, 4, 5, 6, 7, 8], [0, 1, 2, 3, 4, 5, 6, 7, 8, 9], [0, 1, 2, 3, 4, 5, 6, 7, 8, 9, 10], [0, 1, 2, 3, 4, 5, 6, 7, 8, 9, 10, 11], [0, 1, 2, 3, 4, 5, 6, 7, 8, 9, 10, 11, 12], [0, 1, 2, 3, 4, 5, 6, 7, 8, 9, 10, 11, 12, 13], [0, 1, 2, 3, 4, 5, 6, 7, 8, 9, 10, 11, 12, 13, 14]])
  | _ => ([], 0, [])
set_option maxRecDepth 100000 in
theorem neigh_readNd_eq (s : List UInt8) (K : AVal → Hp → Prop) : fnP Try.prog Tnb8 ann_neigh_readNd Try.f24 [.str s] [] K = (
  List.length s ≤ (140737488355328 : Nat) ∧
    brP (!decide ((ipDecode (List.take (List.length s) (List.drop (0 : Nat) s))).snd = (0 : Int)))
     (K
      (AVal.tup
       [AVal.agg
         [AVal.int IntKind.i64 (0 : Int), AVal.byte (0 : UInt8), AVal.byte (0 : UInt8), AVal.byte (0 : UInt8),
          AVal.byte (0 : UInt8), AVal.byte (0 : UInt8), AVal.byte (0 : UInt8), AVal.str [], AVal.str [], AVal.bool false],
        AVal.int IntKind.i64 (40 : Int)])
      [])
     (brP
      (!decide
        ((↑(List.length (ipDecode (List.take (List.length s) (List.drop (0 : Nat) s))).fst.src) : Int) = (16 : Int)))
      (K
       (AVal.tup
        [AVal.agg
          [AVal.int IntKind.i64 (0 : Int), AVal.byte (0 : UInt8), AVal.byte (0 : UInt8), AVal.byte (0 : UInt8),
           AVal.byte (0 : UInt8), AVal.byte (0 : UInt8), AVal.byte (0 : UInt8), AVal.str [], AVal.str [],
           AVal.bool false],
         AVal.int IntKind.i64 (40 : Int)])
       [])
      (brP (!decide ((ipDecode (List.take (List.length s) (List.drop (0 : Nat) s))).fst.proto = (58 : Int)))
       (K
        (AVal.tup
         [AVal.agg
           [AVal.int IntKind.i64 (0 : Int), AVal.byte (0 : UInt8), AVal.byte (0 : UInt8), AVal.byte (0 : UInt8),
            AVal.byte (0 : UInt8), AVal.byte (0 : UInt8), AVal.byte (0 : UInt8), AVal.str [], AVal.str [],
            AVal.bool false],
          AVal.int IntKind.i64 (40 : Int)])
        [])
       (brP (!decide ((ipDecode (List.take (List.length s) (List.drop (0 : Nat) s))).fst.ttl = (255 : Int)))
        (K
         (AVal.tup
          [AVal.agg
            [AVal.int IntKind.i64 (0 : Int), AVal.byte (0 : UInt8), AVal.byte (0 : UInt8), AVal.byte (0 : UInt8),
             AVal.byte (0 : UInt8), AVal.byte (0 : UInt8), AVal.byte (0 : UInt8), AVal.str [], AVal.str [],
             AVal.bool false],
           AVal.int IntKind.i64 (40 : Int)])
         [])
        (brP
         (!decide
           ((↑(List.length (ipDecode (List.take (List.length s) (List.drop (0 : Nat) s))).fst.body) : Int) = (32 : Int)))
         (K
          (AVal.tup
           [AVal.agg
             [AVal.int IntKind.i64 (0 : Int), AVal.byte (0 : UInt8), AVal.byte (0 : UInt8), AVal.byte (0 : UInt8),
              AVal.byte (0 : UInt8), AVal.byte (0 : UInt8), AVal.byte (0 : UInt8), AVal.str [], AVal.str [],
              AVal.bool false],
            AVal.int IntKind.i64 (40 : Int)])
          [])
         (impP true
           ((0 : Int) ≤ (0 : Int) ∧
            (0 : Int) < (↑(List.length (ipDecode (List.take (List.length s) (List.drop (0 : Nat) s))).fst.body) : Int)) ∧
          impP
            (decide
             (List.getD (ipDecode (List.take (List.length s) (List.drop (0 : Nat) s))).fst.body (0 : Nat) (0 : UInt8) =
              (135 : UInt8)))
            ((0 : Int) ≤ (24 : Int) ∧
             (24 : Int) <
              (↑(List.length (ipDecode (List.take (List.length s) (List.drop (0 : Nat) s))).fst.body) : Int)) ∧
           impP true
             ((0 : Int) ≤ (0 : Int) ∧
              (0 : Int) <
               (↑(List.length (ipDecode (List.take (List.length s) (List.drop (0 : Nat) s))).fst.body) : Int)) ∧
            impP
              (decide
               (List.getD (ipDecode (List.take (List.length s) (List.drop (0 : Nat) s))).fst.body (0 : Nat) (0 : UInt8) =
                (136 : UInt8)))
              ((0 : Int) ≤ (24 : Int) ∧
               (24 : Int) <
                (↑(List.length (ipDecode (List.take (List.length s) (List.drop (0 : Nat) s))).fst.body) : Int)) ∧
             impP true
               ((0 : Int) ≤ (1 : Int) ∧
                (1 : Int) <
                 (↑(List.length (ipDecode (List.take (List.length s) (List.drop (0 : Nat) s))).fst.body) : Int)) ∧
              impP
                (!(!decide
                    (List.getD (ipDecode (List.take (List.length s) (List.drop (0 : Nat) s))).fst.body (1 : Nat)
                      (0 : UInt8) =
                     (0 : UInt8)) ||
                  !(decide
                      (List.getD (ipDecode (List.take (List.length s) (List.drop (0 : Nat) s))).fst.body (0 : Nat)
                        (0 : UInt8) =
                       (135 : UInt8)) &&
                     decide
                      (List.getD (ipDecode (List.take (List.length s) (List.drop (0 : Nat) s))).fst.body (24 : Nat)
                        (0 : UInt8) =
                       (1 : UInt8))) &&
                   !(decide
                      (List.getD (ipDecode (List.take (List.length s) (List.drop (0 : Nat) s))).fst.body (0 : Nat)
                        (0 : UInt8) =
                       (136 : UInt8)) &&
                     decide
                      (List.getD (ipDecode (List.take (List.length s) (List.drop (0 : Nat) s))).fst.body (24 : Nat)
                        (0 : UInt8) =
                       (2 : UInt8)))))
                ((0 : Int) ≤ (25 : Int) ∧
                 (25 : Int) <
                  (↑(List.length (ipDecode (List.take (List.length s) (List.drop (0 : Nat) s))).fst.body) : Int)) ∧
               brP
                (!decide
                    (List.getD (ipDecode (List.take (List.length s) (List.drop (0 : Nat) s))).fst.body (1 : Nat)
                      (0 : UInt8) =
                     (0 : UInt8)) ||
                  !(decide
                      (List.getD (ipDecode (List.take (List.length s) (List.drop (0 : Nat) s))).fst.body (0 : Nat)
                        (0 : UInt8) =
                       (135 : UInt8)) &&
                     decide
                      (List.getD (ipDecode (List.take (List.length s) (List.drop (0 : Nat) s))).fst.body (24 : Nat)
                        (0 : UInt8) =
                       (1 : UInt8))) &&
                   !(decide
                      (List.getD (ipDecode (List.take (List.length s) (List.drop (0 : Nat) s))).fst.body (0 : Nat)
                        (0 : UInt8) =
                       (136 : UInt8)) &&
                     decide
                      (List.getD (ipDecode (List.take (List.length s) (List.drop (0 : Nat) s))).fst.body (24 : Nat)
                        (0 : UInt8) =
                       (2 : UInt8))) ||
                 !decide
                   (List.getD (ipDecode (List.take (List.length s) (List.drop (0 : Nat) s))).fst.body (25 : Nat)
                     (0 : UInt8) =
                    (1 : UInt8)))
                (K
                 (AVal.tup
                  [AVal.agg
                    [AVal.int IntKind.i64 (0 : Int), AVal.byte (0 : UInt8), AVal.byte (0 : UInt8), AVal.byte (0 : UInt8),
                     AVal.byte (0 : UInt8), AVal.byte (0 : UInt8), AVal.byte (0 : UInt8), AVal.str [], AVal.str [],
                     AVal.bool false],
                   AVal.int IntKind.i64 (40 : Int)])
                 [])
                (optP
                 (pseudo (ipDecode (List.take (List.length s) (List.drop (0 : Nat) s))).fst.src
                  (ipDecode (List.take (List.length s) (List.drop (0 : Nat) s))).fst.dst (58 : Int)
                  (↑(List.length (ipDecode (List.take (List.length s) (List.drop (0 : Nat) s))).fst.body) : Int))
                 (fun x =>
                  List.length (ipDecode (List.take (List.length s) (List.drop (0 : Nat) s))).fst.body ≤
                    (140737488355328 : Nat) ∧
                   ((2 : Nat) ≤ (1000 : Nat) ∧
                     List.length
                       (List.flatten
                        [List.take (List.length x) (List.drop (0 : Nat) x),
                         List.take (List.length (ipDecode (List.take (List.length s) (List.drop (0 : Nat) s))).fst.body)
                          (List.drop (0 : Nat)
                           (ipDecode (List.take (List.length s) (List.drop (0 : Nat) s))).fst.body)]) ≤
                      (562949953421312 : Nat)) ∧
                    brP
                     (!sumB
                        (List.flatten
                         [List.take (List.length x) (List.drop (0 : Nat) x),
                          List.take (List.length (ipDecode (List.take (List.length s) (List.drop (0 : Nat) s))).fst.body)
                           (List.drop (0 : Nat)
                            (ipDecode (List.take (List.length s) (List.drop (0 : Nat) s))).fst.body)]) ==
                       (65535 : Int))
                     (K
                      (AVal.tup
                       [AVal.agg
                         [AVal.int IntKind.i64 (0 : Int), AVal.byte (0 : UInt8), AVal.byte (0 : UInt8),
                          AVal.byte (0 : UInt8), AVal.byte (0 : UInt8), AVal.byte (0 : UInt8), AVal.byte (0 : UInt8),
                          AVal.str [], AVal.str [], AVal.bool false],
                        AVal.int IntKind.i64 (41 : Int)])
                      [])
                     (brP
                      (decide
                        (List.getD (ipDecode (List.take (List.length s) (List.drop (0 : Nat) s))).fst.body (0 : Nat)
                          (0 : UInt8) =
                         (135 : UInt8)) &&
                       decide
                        (List.getD (ipDecode (List.take (List.length s) (List.drop (0 : Nat) s))).fst.body (24 : Nat)
                          (0 : UInt8) =
                         (1 : UInt8)))
                      (((0 : Int) ≤ (26 : Int) ∧
                        (26 : Int) ≤
                         (↑(List.length (ipDecode (List.take (List.length s) (List.drop (0 : Nat) s))).fst.body) : Int)) ∧
                       (6 : Nat) ≤
                         List.length
                          (List.drop (26 : Nat) (ipDecode (List.take (List.length s) (List.drop (0 : Nat) s))).fst.body) ∧
                        ((0 : Int) ≤ (8 : Int) ∧
                          (8 : Int) ≤ (24 : Int) ∧
                           (24 : Int) ≤
                            (↑(List.length (ipDecode (List.take (List.length s) (List.drop (0 : Nat) s))).fst.body) :
                             Int)) ∧
                         K
                          (AVal.tup
                           [AVal.agg
                             [AVal.int IntKind.i64 (1 : Int),
                              AVal.byte
                               (List.getD
                                (List.drop (26 : Nat)
                                 (ipDecode (List.take (List.length s) (List.drop (0 : Nat) s))).fst.body)
                                (0 : Nat) (0 : UInt8)),
                              AVal.byte
                               (List.getD
                                (List.drop (26 : Nat)
                                 (ipDecode (List.take (List.length s) (List.drop (0 : Nat) s))).fst.body)
                                (1 : Nat) (0 : UInt8)),
                              AVal.byte
                               (List.getD
                                (List.drop (26 : Nat)
                                 (ipDecode (List.take (List.length s) (List.drop (0 : Nat) s))).fst.body)
                                (2 : Nat) (0 : UInt8)),
                              AVal.byte
                               (List.getD
                                (List.drop (26 : Nat)
                                 (ipDecode (List.take (List.length s) (List.drop (0 : Nat) s))).fst.body)
                                (3 : Nat) (0 : UInt8)),
                              AVal.byte
                               (List.getD
                                (List.drop (26 : Nat)
                                 (ipDecode (List.take (List.length s) (List.drop (0 : Nat) s))).fst.body)
                                (4 : Nat) (0 : UInt8)),
                              AVal.byte
                               (List.getD
                                (List.drop (26 : Nat)
                                 (ipDecode (List.take (List.length s) (List.drop (0 : Nat) s))).fst.body)
                                (5 : Nat) (0 : UInt8)),
                              AVal.str (ipDecode (List.take (List.length s) (List.drop (0 : Nat) s))).fst.src,
                              AVal.str
                               (List.drop (8 : Nat)
                                (List.take (24 : Nat)
                                 (ipDecode (List.take (List.length s) (List.drop (0 : Nat) s))).fst.body)),
                              AVal.bool false],
                            AVal.int IntKind.i64 (0 : Int)])
                          [])
                      (((0 : Int) ≤ (26 : Int) ∧
                        (26 : Int) ≤
                         (↑(List.length (ipDecode (List.take (List.length s) (List.drop (0 : Nat) s))).fst.body) : Int)) ∧
                       (6 : Nat) ≤
                         List.length
                          (List.drop (26 : Nat) (ipDecode (List.take (List.length s) (List.drop (0 : Nat) s))).fst.body) ∧
                        ((0 : Int) ≤ (8 : Int) ∧
                          (8 : Int) ≤ (24 : Int) ∧
                           (24 : Int) ≤
                            (↑(List.length (ipDecode (List.take (List.length s) (List.drop (0 : Nat) s))).fst.body) :
                             Int)) ∧
                         ((0 : Int) ≤ (4 : Int) ∧
                           (4 : Int) <
                            (↑(List.length (ipDecode (List.take (List.length s) (List.drop (0 : Nat) s))).fst.body) :
                             Int)) ∧
                          K
                           (AVal.tup
                            [AVal.agg
                              [AVal.int IntKind.i64 (2 : Int),
                               AVal.byte
                                (List.getD
                                 (List.drop (26 : Nat)
                                  (ipDecode (List.take (List.length s) (List.drop (0 : Nat) s))).fst.body)
                                 (0 : Nat) (0 : UInt8)),
                               AVal.byte
                                (List.getD
                                 (List.drop (26 : Nat)
                                  (ipDecode (List.take (List.length s) (List.drop (0 : Nat) s))).fst.body)
                                 (1 : Nat) (0 : UInt8)),
                               AVal.byte
                                (List.getD
                                 (List.drop (26 : Nat)
                                  (ipDecode (List.take (List.length s) (List.drop (0 : Nat) s))).fst.body)
                                 (2 : Nat) (0 : UInt8)),
                               AVal.byte
                                (List.getD
                                 (List.drop (26 : Nat)
                                  (ipDecode (List.take (List.length s) (List.drop (0 : Nat) s))).fst.body)
                                 (3 : Nat) (0 : UInt8)),
                               AVal.byte
                                (List.getD
                                 (List.drop (26 : Nat)
                                  (ipDecode (List.take (List.length s) (List.drop (0 : Nat) s))).fst.body)
                                 (4 : Nat) (0 : UInt8)),
                               AVal.byte
                                (List.getD
                                 (List.drop (26 : Nat)
                                  (ipDecode (List.take (List.length s) (List.drop (0 : Nat) s))).fst.body)
                                 (5 : Nat) (0 : UInt8)),
                               AVal.str
                                (List.drop (8 : Nat)
                                 (List.take (24 : Nat)
                                  (ipDecode (List.take (List.length s) (List.drop (0 : Nat) s))).fst.body)),
                               AVal.str (ipDecode (List.take (List.length s) (List.drop (0 : Nat) s))).fst.dst,
                               AVal.bool
                                !decide
                                  (List.getD (ipDecode (List.take (List.length s) (List.drop (0 : Nat) s))).fst.body
                                     (4 : Nat) (0 : UInt8) &&&
                                    (64 : UInt8) =
                                   (0 : UInt8))],
                             AVal.int IntKind.i64 (0 : Int)])
                           [])))
                 (List.length (ipDecode (List.take (List.length s) (List.drop (0 : Nat) s))).fst.body ≤
                   (140737488355328 : Nat) ∧
                  ((2 : Nat) ≤ (1000 : Nat) ∧
                    List.length
                      (List.flatten
                       [[],
                        List.take (List.length (ipDecode (List.take (List.length s) (List.drop (0 : Nat) s))).fst.body)
                         (List.drop (0 : Nat) (ipDecode (List.take (List.length s) (List.drop (0 : Nat) s))).fst.body)]) ≤
                     (562949953421312 : Nat)) ∧
                   brP
                    (!sumB
                       (List.flatten
                        [[],
                         List.take (List.length (ipDecode (List.take (List.length s) (List.drop (0 : Nat) s))).fst.body)
                          (List.drop (0 : Nat)
                           (ipDecode (List.take (List.length s) (List.drop (0 : Nat) s))).fst.body)]) ==
                      (65535 : Int))
                    (K
                     (AVal.tup
                      [AVal.agg
                        [AVal.int IntKind.i64 (0 : Int), AVal.byte (0 : UInt8), AVal.byte (0 : UInt8),
                         AVal.byte (0 : UInt8), AVal.byte (0 : UInt8), AVal.byte (0 : UInt8), AVal.byte (0 : UInt8),
                         AVal.str [], AVal.str [], AVal.bool false],
                       AVal.int IntKind.i64 (41 : Int)])
                     [])
                    (brP
                     (decide
                       (List.getD (ipDecode (List.take (List.length s) (List.drop (0 : Nat) s))).fst.body (0 : Nat)
                         (0 : UInt8) =
                        (135 : UInt8)) &&
                      decide
                       (List.getD (ipDecode (List.take (List.length s) (List.drop (0 : Nat) s))).fst.body (24 : Nat)
                         (0 : UInt8) =
                        (1 : UInt8)))
                     (((0 : Int) ≤ (26 : Int) ∧
                       (26 : Int) ≤
                        (↑(List.length (ipDecode (List.take (List.length s) (List.drop (0 : Nat) s))).fst.body) : Int)) ∧
                      (6 : Nat) ≤
                        List.length
                         (List.drop (26 : Nat) (ipDecode (List.take (List.length s) (List.drop (0 : Nat) s))).fst.body) ∧
                       ((0 : Int) ≤ (8 : Int) ∧
                         (8 : Int) ≤ (24 : Int) ∧
                          (24 : Int) ≤
                           (↑(List.length (ipDecode (List.take (List.length s) (List.drop (0 : Nat) s))).fst.body) :
                            Int)) ∧
                        K
                         (AVal.tup
                          [AVal.agg
                            [AVal.int IntKind.i64 (1 : Int),
                             AVal.byte
                              (List.getD
                               (List.drop (26 : Nat)
                                (ipDecode (List.take (List.length s) (List.drop (0 : Nat) s))).fst.body)
                               (0 : Nat) (0 : UInt8)),
                             AVal.byte
                              (List.getD
                               (List.drop (26 : Nat)
                                (ipDecode (List.take (List.length s) (List.drop (0 : Nat) s))).fst.body)
                               (1 : Nat) (0 : UInt8)),
                             AVal.byte
                              (List.getD
                               (List.drop (26 : Nat)
                                (ipDecode (List.take (List.length s) (List.drop (0 : Nat) s))).fst.body)
                               (2 : Nat) (0 : UInt8)),
                             AVal.byte
                              (List.getD
                               (List.drop (26 : Nat)
                                (ipDecode (List.take (List.length s) (List.drop (0 : Nat) s))).fst.body)
                               (3 : Nat) (0 : UInt8)),
                             AVal.byte
                              (List.getD
                               (List.drop (26 : Nat)
                                (ipDecode (List.take (List.length s) (List.drop (0 : Nat) s))).fst.body)
                               (4 : Nat) (0 : UInt8)),
                             AVal.byte
                              (List.getD
                               (List.drop (26 : Nat)
                                (ipDecode (List.take (List.length s) (List.drop (0 : Nat) s))).fst.body)
                               (5 : Nat) (0 : UInt8)),
                             AVal.str (ipDecode (List.take (List.length s) (List.drop (0 : Nat) s))).fst.src,
                             AVal.str
                              (List.drop (8 : Nat)
                               (List.take (24 : Nat)
                                (ipDecode (List.take (List.length s) (List.drop (0 : Nat) s))).fst.body)),
                             AVal.bool false],
                           AVal.int IntKind.i64 (0 : Int)])
                         [])
                     (((0 : Int) ≤ (26 : Int) ∧
                       (26 : Int) ≤
                        (↑(List.length (ipDecode (List.take (List.length s) (List.drop (0 : Nat) s))).fst.body) : Int)) ∧
                      (6 : Nat) ≤
                        List.length
                         (List.drop (26 : Nat) (ipDecode (List.take (List.length s) (List.drop (0 : Nat) s))).fst.body) ∧
                       ((0 : Int) ≤ (8 : Int) ∧
                         (8 : Int) ≤ (24 : Int) ∧
                          (24 : Int) ≤
                           (↑(List.length (ipDecode (List.take (List.length s) (List.drop (0 : Nat) s))).fst.body) :
                            Int)) ∧
                        ((0 : Int) ≤ (4 : Int) ∧
                          (4 : Int) <
                           (↑(List.length (ipDecode (List.take (List.length s) (List.drop (0 : Nat) s))).fst.body) :
                            Int)) ∧
                         K
                          (AVal.tup
                           [AVal.agg
                             [AVal.int IntKind.i64 (2 : Int),
                              AVal.byte
                               (List.getD
                                (List.drop (26 : Nat)
                                 (ipDecode (List.take (List.length s) (List.drop (0 : Nat) s))).fst.body)
                                (0 : Nat) (0 : UInt8)),
                              AVal.byte
                               (List.getD
                                (List.drop (26 : Nat)
                                 (ipDecode (List.take (List.length s) (List.drop (0 : Nat) s))).fst.body)
                                (1 : Nat) (0 : UInt8)),
                              AVal.byte
                               (List.getD
                                (List.drop (26 : Nat)
                                 (ipDecode (List.take (List.length s) (List.drop (0 : Nat) s))).fst.body)
                                (2 : Nat) (0 : UInt8)),
                              AVal.byte
                               (List.getD
                                (List.drop (26 : Nat)
                                 (ipDecode (List.take (List.length s) (List.drop (0 : Nat) s))).fst.body)
                                (3 : Nat) (0 : UInt8)),
                              AVal.byte
                               (List.getD
                                (List.drop (26 : Nat)
                                 (ipDecode (List.take (List.length s) (List.drop (0 : Nat) s))).fst.body)
                                (4 : Nat) (0 : UInt8)),
                              AVal.byte
                               (List.getD
                                (List.drop (26 : Nat)
                                 (ipDecode (List.take (List.length s) (List.drop (0 : Nat) s))).fst.body)
                                (5 : Nat) (0 : UInt8)),
                              AVal.str
                               (List.drop (8 : Nat)
                                (List.take (24 : Nat)
                                 (ipDecode (List.take (List.length s) (List.drop (0 : Nat) s))).fst.body)),
                              AVal.str (ipDecode (List.take (List.length s) (List.drop (0 : Nat) s))).fst.dst,
                              AVal.bool
                               !decide
                                 (List.getD (ipDecode (List.take (List.length s) (List.drop (0 : Nat) s))).fst.body
                                    (4 : Nat) (0 : UInt8) &&&
                                   (64 : UInt8) =
                                  (0 : UInt8))],
                            AVal.int IntKind.i64 (0 : Int)])
                          [])))))))))) := by kernel_rfl
theorem neigh_readNd_p : ∀ args H K, ntRow nbReadNd args H K → fnP Try.prog Tnb8 ann_neigh_readNd Try.f24 args H K := by
  intro args H K h
  unfold ntRow at h
  split at h
  · rename_i s
    obtain ⟨hl, hK⟩ := h
    rw [neigh_readNd_eq]
    simp only [or_w16, div2, div3, add_w16, and255, b8_mod, List.set_cons_zero, List.set_cons_succ, andNot_4000, getD_drop, getD_take, b8_byte, b8_toNatN, UInt8.toNat_ofNat', UInt8.toNat_and, nat_mask4, nat_mask6, nat_240, u8_eq_iff, UInt8.reduceToNat, Int.reduceLT, List.take_succ_cons, List.take_zero, List.drop_zero, List.flatten_cons, List.flatten_nil, List.append_nil, List.nil_append, List.take_length, Nat.mul_one, Nat.zero_add, Nat.reduceAdd, Nat.reduceLT, List.length_drop, List.length_take]
    unfold nbReadNd at hK
    generalize ipDecode s = D at hK ⊢
    obtain ⟨⟨f, t, p, q, b⟩, e⟩ := D
    simp only at hK ⊢
    by_cases hbad : e ≠ 0 ∨ f.length ≠ 16 ∨ p ≠ 58 ∨ q ≠ 255 ∨ b.length ≠ 32
    · rw [if_pos hbad] at hK
      simp only [ntV, noNt, noMc] at hK
      refine ⟨by omega, ?_⟩
      refine brP_nd (fun _ => hK) (fun _ => ?_)
      refine brP_nd (fun _ => hK) (fun _ => ?_)
      refine brP_nd (fun _ => hK) (fun _ => ?_)
      refine brP_nd (fun _ => hK) (fun _ => ?_)
      refine brP_nd (fun _ => hK) (fun _ => ?_)
      exfalso; omega
    · rw [if_neg hbad] at hK
      obtain ⟨rfl, hf, rfl, rfl, hb⟩ : e = 0 ∧ f.length = 16 ∧ p = 58 ∧ q = 255 ∧ b.length = 32 := by omega
      simp only [hb, hf] at hK ⊢
      unfold nbReadP nbAsks nbTells pseudoL at hK
      simp only [ntV, mcAt, Nat.reduceAdd, Bool.and_eq_true, Bool.or_eq_true, Bool.and_eq_false_iff, Bool.or_eq_false_iff, decide_eq_true_eq, decide_eq_false_iff_not, Bool.not_eq_true', Bool.not_eq_false', Bool.not_true, Bool.not_false, Bool.true_and, Bool.and_true, Bool.false_or, Bool.or_false, beq_iff_eq, beq_eq_false_iff_ne, ne_eq] at hK
      have x0 := (b.getD 0 0).toNat_lt
      cases hps : pseudo f t 58 32 with
      | none =>
        simp only [hps, Option.getD_none, List.nil_append] at hK
        simp only [show (((32 : Nat) : Int)) = 32 from rfl, hps, optP_n, and64]
        repeat' first
          | (refine And.intro (by first | first | omega | with_reducible exact i64_x256 _ | with_reducible exact i64_w16 _ _ | with_reducible exact i64_sum _ | (repeat' first | with_reducible exact i64_x256 _ | with_reducible exact i64_w16 _ _ | with_reducible exact i64_sum _ | with_reducible apply And.intro) <;> first | omega | (simp only [I64]; omega) | (simp; omega) | (simp; done) | (simp [I64]; omega) | (with_reducible refine impP_i (fun hg => ?_) <;> (try simp only [Bool.and_eq_true, Bool.or_eq_true, Bool.and_eq_false_iff, Bool.or_eq_false_iff, decide_eq_true_eq, decide_eq_false_iff_not, Bool.not_eq_true', Bool.not_eq_false', Bool.not_true, Bool.not_false, Bool.true_and, Bool.and_true, Bool.false_or, Bool.or_false, beq_iff_eq, beq_eq_false_iff_ne, ne_eq] at hg) <;> (first | omega | with_reducible exact i64_x256 _ | with_reducible exact i64_w16 _ _ | with_reducible exact i64_sum _ | (repeat' first | with_reducible exact i64_x256 _ | with_reducible exact i64_w16 _ _ | with_reducible exact i64_sum _ | with_reducible apply And.intro) <;> first | omega | (simp only [I64]; omega) | (simp; omega) | (simp; done) | (simp [I64]; omega)))) ?_)
          | (refine brP_d (fun h => ?_) (fun h => ?_))
          | (refine optP_i (fun x hx => ?_) (fun hx => ?_) <;> (try have hxl := pseudo_len hx))
          | (refine brP_nd (fun h => ?_) (fun h => ?_))
          | (refine brP_i (fun h => ?_) (fun h => ?_) <;> (try simp only [Bool.and_eq_true, Bool.or_eq_true, Bool.and_eq_false_iff, Bool.or_eq_false_iff, decide_eq_true_eq, decide_eq_false_iff_not, Bool.not_eq_true', Bool.not_eq_false', Bool.not_true, Bool.not_false, Bool.true_and, Bool.and_true, Bool.false_or, Bool.or_false, beq_iff_eq, beq_eq_false_iff_ne, ne_eq] at h))
        all_goals repeat' split at hK
        all_goals first
          | exact hK
          | (exfalso; omega)
          | trace_state
      | some l =>
        have hl := pseudo_len hps
        simp only [hps, Option.getD_some] at hK
        simp only [show (((32 : Nat) : Int)) = 32 from rfl, hps, optP_s, and64, List.length_append, hb]
        repeat' first
          | (refine And.intro (by first | first | omega | with_reducible exact i64_x256 _ | with_reducible exact i64_w16 _ _ | with_reducible exact i64_sum _ | (repeat' first | with_reducible exact i64_x256 _ | with_reducible exact i64_w16 _ _ | with_reducible exact i64_sum _ | with_reducible apply And.intro) <;> first | omega | (simp only [I64]; omega) | (simp; omega) | (simp; done) | (simp [I64]; omega) | (with_reducible refine impP_i (fun hg => ?_) <;> (try simp only [Bool.and_eq_true, Bool.or_eq_true, Bool.and_eq_false_iff, Bool.or_eq_false_iff, decide_eq_true_eq, decide_eq_false_iff_not, Bool.not_eq_true', Bool.not_eq_false', Bool.not_true, Bool.not_false, Bool.true_and, Bool.and_true, Bool.false_or, Bool.or_false, beq_iff_eq, beq_eq_false_iff_ne, ne_eq] at hg) <;> (first | omega | with_reducible exact i64_x256 _ | with_reducible exact i64_w16 _ _ | with_reducible exact i64_sum _ | (repeat' first | with_reducible exact i64_x256 _ | with_reducible exact i64_w16 _ _ | with_reducible exact i64_sum _ | with_reducible apply And.intro) <;> first | omega | (simp only [I64]; omega) | (simp; omega) | (simp; done) | (simp [I64]; omega)))) ?_)
          | (refine brP_d (fun h => ?_) (fun h => ?_))
          | (refine optP_i (fun x hx => ?_) (fun hx => ?_) <;> (try have hxl := pseudo_len hx))
          | (refine brP_nd (fun h => ?_) (fun h => ?_))
          | (refine brP_i (fun h => ?_) (fun h => ?_) <;> (try simp only [Bool.and_eq_true, Bool.or_eq_true, Bool.and_eq_false_iff, Bool.or_eq_false_iff, decide_eq_true_eq, decide_eq_false_iff_not, Bool.not_eq_true', Bool.not_eq_false', Bool.not_true, Bool.not_false, Bool.true_and, Bool.and_true, Bool.false_or, Bool.or_false, beq_iff_eq, beq_eq_false_iff_ne, ne_eq] at h))
        all_goals repeat' split at hK
        all_goals first
          | exact hK
          | (exfalso; omega)
          | trace_state
  · exact h.elim
def Tnb9 : Specs := ext Tnb8 24 (ntRow nbReadNd)
theorem Tnb9_sound : TSound Try.prog Tnb9 := ext_sound Tnb8_sound (row_of Tnb8_sound mixed Try.func24 (by decide +kernel) neigh_readNd_p)
def ann_outriderref04_Near : Nat → List Nat × Nat × List (List Nat)
  | _ => ([], 0, [])
set_option maxRecDepth 100000 in
theorem ref04_Near_eq (a : List UInt8) (K : AVal → Hp → Prop) : fnP Try.prog Tnb9 ann_outriderref04_Near Try.f22 [.str a] [] K = (
  brP (!decide ((↑(List.length a) : Int) = (16 : Int))) (K (AVal.str []) [])
    (((0 : Int) ≤ (16 : Int) ∧ (16 : Int) = (16 : Int) ∧ (16 : Int) ≤ (140737488355328 : Int)) ∧
     ((0 : Int) ≤ (0 : Int) ∧ (0 : Int) < (16 : Int)) ∧
      (0 : Nat) < (16 : Nat) ∧
       ((0 : Int) ≤ (1 : Int) ∧ (1 : Int) < (16 : Int)) ∧
        (1 : Nat) < (16 : Nat) ∧
         ((0 : Int) ≤ (11 : Int) ∧ (11 : Int) < (16 : Int)) ∧
          (11 : Nat) < (16 : Nat) ∧
           ((0 : Int) ≤ (12 : Int) ∧ (12 : Int) < (16 : Int)) ∧
            (12 : Nat) < (16 : Nat) ∧
             ((0 : Int) ≤ (13 : Int) ∧ (13 : Int) < (↑(List.length a) : Int)) ∧
              ((0 : Int) ≤ (13 : Int) ∧ (13 : Int) < (16 : Int)) ∧
               (13 : Nat) < (16 : Nat) ∧
                ((0 : Int) ≤ (14 : Int) ∧ (14 : Int) < (↑(List.length a) : Int)) ∧
                 ((0 : Int) ≤ (14 : Int) ∧ (14 : Int) < (16 : Int)) ∧
                  (14 : Nat) < (16 : Nat) ∧
                   ((0 : Int) ≤ (15 : Int) ∧ (15 : Int) < (↑(List.length a) : Int)) ∧
                    ((0 : Int) ≤ (15 : Int) ∧ (15 : Int) < (16 : Int)) ∧
                     (15 : Nat) < (16 : Nat) ∧
                      K
                       (AVal.str
                        (List.take (16 : Nat)
                         (List.drop (0 : Nat)
                          (List.set
                           (List.set
                            (List.set
                             [(255 : UInt8), (2 : UInt8), (0 : UInt8), (0 : UInt8), (0 : UInt8), (0 : UInt8), (0 : UInt8),
                              (0 : UInt8), (0 : UInt8), (0 : UInt8), (0 : UInt8), (1 : UInt8), (255 : UInt8), (0 : UInt8),
                              (0 : UInt8), (0 : UInt8)]
                             (13 : Nat) (List.getD a (13 : Nat) (0 : UInt8)))
                            (14 : Nat) (List.getD a (14 : Nat) (0 : UInt8)))
                           (15 : Nat) (List.getD a (15 : Nat) (0 : UInt8))))))
                       [])) := by kernel_rfl
theorem outriderref04_Near_p : ∀ args H K, nearRow args H K → fnP Try.prog Tnb9 ann_outriderref04_Near Try.f22 args H K := by
  intro args H K h
  unfold nearRow at h
  split at h
  · rename_i a
    rw [ref04_Near_eq]
    revert h; intro hK
    unfold nbNear at hK
    by_cases h16 : a.length = 16
    · rw [if_pos h16] at hK
      repeat' first
        | (refine And.intro (by first | first | omega | with_reducible exact i64_x256 _ | with_reducible exact i64_w16 _ _ | with_reducible exact i64_sum _ | (repeat' first | with_reducible exact i64_x256 _ | with_reducible exact i64_w16 _ _ | with_reducible exact i64_sum _ | with_reducible apply And.intro) <;> first | omega | (simp only [I64]; omega) | (simp; omega) | (simp; done) | (simp [I64]; omega) | (with_reducible refine impP_i (fun hg => ?_) <;> (try simp only [Bool.and_eq_true, Bool.or_eq_true, Bool.and_eq_false_iff, Bool.or_eq_false_iff, decide_eq_true_eq, decide_eq_false_iff_not, Bool.not_eq_true', Bool.not_eq_false', Bool.not_true, Bool.not_false, Bool.true_and, Bool.and_true, Bool.false_or, Bool.or_false, beq_iff_eq, beq_eq_false_iff_ne, ne_eq] at hg) <;> (first | omega | with_reducible exact i64_x256 _ | with_reducible exact i64_w16 _ _ | with_reducible exact i64_sum _ | (repeat' first | with_reducible exact i64_x256 _ | with_reducible exact i64_w16 _ _ | with_reducible exact i64_sum _ | with_reducible apply And.intro) <;> first | omega | (simp only [I64]; omega) | (simp; omega) | (simp; done) | (simp [I64]; omega)))) ?_)
        | (refine brP_d (fun h => ?_) (fun h => ?_))
        | (refine optP_i (fun x hx => ?_) (fun hx => ?_) <;> (try have hxl := pseudo_len hx))
        | (refine brP_nd (fun h => ?_) (fun h => ?_))
        | (refine brP_i (fun h => ?_) (fun h => ?_) <;> (try simp only [Bool.and_eq_true, Bool.or_eq_true, Bool.and_eq_false_iff, Bool.or_eq_false_iff, decide_eq_true_eq, decide_eq_false_iff_not, Bool.not_eq_true', Bool.not_eq_false', Bool.not_true, Bool.not_false, Bool.true_and, Bool.and_true, Bool.false_or, Bool.or_false, beq_iff_eq, beq_eq_false_iff_ne, ne_eq] at h))
      all_goals first
        | (exfalso; omega)
        | (refine endK_eq hK ?_ rfl
           obtain ⟨_, _, _, _, _, _, _, _, _, _, _, _, _, _, _, _, rfl⟩ := list16 h16
           rfl)
    · rw [if_neg h16] at hK
      repeat' first
        | (refine And.intro (by first | first | omega | with_reducible exact i64_x256 _ | with_reducible exact i64_w16 _ _ | with_reducible exact i64_sum _ | (repeat' first | with_reducible exact i64_x256 _ | with_reducible exact i64_w16 _ _ | with_reducible exact i64_sum _ | with_reducible apply And.intro) <;> first | omega | (simp only [I64]; omega) | (simp; omega) | (simp; done) | (simp [I64]; omega) | (with_reducible refine impP_i (fun hg => ?_) <;> (try simp only [Bool.and_eq_true, Bool.or_eq_true, Bool.and_eq_false_iff, Bool.or_eq_false_iff, decide_eq_true_eq, decide_eq_false_iff_not, Bool.not_eq_true', Bool.not_eq_false', Bool.not_true, Bool.not_false, Bool.true_and, Bool.and_true, Bool.false_or, Bool.or_false, beq_iff_eq, beq_eq_false_iff_ne, ne_eq] at hg) <;> (first | omega | with_reducible exact i64_x256 _ | with_reducible exact i64_w16 _ _ | with_reducible exact i64_sum _ | (repeat' first | with_reducible exact i64_x256 _ | with_reducible exact i64_w16 _ _ | with_reducible exact i64_sum _ | with_reducible apply And.intro) <;> first | omega | (simp only [I64]; omega) | (simp; omega) | (simp; done) | (simp [I64]; omega)))) ?_)
        | (refine brP_d (fun h => ?_) (fun h => ?_))
        | (refine optP_i (fun x hx => ?_) (fun hx => ?_) <;> (try have hxl := pseudo_len hx))
        | (refine brP_nd (fun h => ?_) (fun h => ?_))
        | (refine brP_i (fun h => ?_) (fun h => ?_) <;> (try simp only [Bool.and_eq_true, Bool.or_eq_true, Bool.and_eq_false_iff, Bool.or_eq_false_iff, decide_eq_true_eq, decide_eq_false_iff_not, Bool.not_eq_true', Bool.not_eq_false', Bool.not_true, Bool.not_false, Bool.true_and, Bool.and_true, Bool.false_or, Bool.or_false, beq_iff_eq, beq_eq_false_iff_ne, ne_eq] at h))
      all_goals first | exact hK | (exfalso; omega) | (exact absurd trivial h)
  · exact h.elim
def Tnb10 : Specs := ext Tnb9 22 (nearRow)
theorem Tnb10_sound : TSound Try.prog Tnb10 := ext_sound Tnb9_sound (row_of Tnb9_sound mixed Try.func22 (by decide +kernel) outriderref04_Near_p)
def ann_outriderref04_every : Nat → List Nat × Nat × List (List Nat)
  | _ => ([], 0, [])
set_option maxRecDepth 100000 in
theorem ref04_every_eq  (K : AVal → Hp → Prop) : fnP Try.prog Tnb10 ann_outriderref04_every Try.f41 [] [] K = (
  ((0 : Int) ≤ (16 : Int) ∧ (16 : Int) = (16 : Int) ∧ (16 : Int) ≤ (140737488355328 : Int)) ∧
    ((0 : Int) ≤ (0 : Int) ∧ (0 : Int) < (16 : Int)) ∧
     (0 : Nat) < (16 : Nat) ∧
      ((0 : Int) ≤ (1 : Int) ∧ (1 : Int) < (16 : Int)) ∧
       (1 : Nat) < (16 : Nat) ∧
        ((0 : Int) ≤ (15 : Int) ∧ (15 : Int) < (16 : Int)) ∧
         (15 : Nat) < (16 : Nat) ∧
          K
           (AVal.str
            [(255 : UInt8), (2 : UInt8), (0 : UInt8), (0 : UInt8), (0 : UInt8), (0 : UInt8), (0 : UInt8), (0 : UInt8),
             (0 : UInt8), (0 : UInt8), (0 : UInt8), (0 : UInt8), (0 : UInt8), (0 : UInt8), (0 : UInt8), (1 : UInt8)])
           []) := by kernel_rfl
theorem outriderref04_every_p : ∀ args H K, everyRow args H K → fnP Try.prog Tnb10 ann_outriderref04_every Try.f41 args H K := by
  intro args H K h
  unfold everyRow at h
  split at h
  · rw [ref04_every_eq]
    repeat' first
      | (refine And.intro (by first | first | omega | with_reducible exact i64_x256 _ | with_reducible exact i64_w16 _ _ | with_reducible exact i64_sum _ | (repeat' first | with_reducible exact i64_x256 _ | with_reducible exact i64_w16 _ _ | with_reducible exact i64_sum _ | with_reducible apply And.intro) <;> first | omega | (simp only [I64]; omega) | (simp; omega) | (simp; done) | (simp [I64]; omega) | (with_reducible refine impP_i (fun hg => ?_) <;> (try simp only [Bool.and_eq_true, Bool.or_eq_true, Bool.and_eq_false_iff, Bool.or_eq_false_iff, decide_eq_true_eq, decide_eq_false_iff_not, Bool.not_eq_true', Bool.not_eq_false', Bool.not_true, Bool.not_false, Bool.true_and, Bool.and_true, Bool.false_or, Bool.or_false, beq_iff_eq, beq_eq_false_iff_ne, ne_eq] at hg) <;> (first | omega | with_reducible exact i64_x256 _ | with_reducible exact i64_w16 _ _ | with_reducible exact i64_sum _ | (repeat' first | with_reducible exact i64_x256 _ | with_reducible exact i64_w16 _ _ | with_reducible exact i64_sum _ | with_reducible apply And.intro) <;> first | omega | (simp only [I64]; omega) | (simp; omega) | (simp; done) | (simp [I64]; omega)))) ?_)
      | (refine brP_d (fun h => ?_) (fun h => ?_))
      | (refine optP_i (fun x hx => ?_) (fun hx => ?_) <;> (try have hxl := pseudo_len hx))
      | (refine brP_nd (fun h => ?_) (fun h => ?_))
      | (refine brP_i (fun h => ?_) (fun h => ?_) <;> (try simp only [Bool.and_eq_true, Bool.or_eq_true, Bool.and_eq_false_iff, Bool.or_eq_false_iff, decide_eq_true_eq, decide_eq_false_iff_not, Bool.not_eq_true', Bool.not_eq_false', Bool.not_true, Bool.not_false, Bool.true_and, Bool.and_true, Bool.false_or, Bool.or_false, beq_iff_eq, beq_eq_false_iff_ne, ne_eq] at h))
    exact h
  · exact h.elim
def Tnb11 : Specs := ext Tnb10 41 (everyRow)
theorem Tnb11_sound : TSound Try.prog Tnb11 := ext_sound Tnb10_sound (row_of Tnb10_sound mixed Try.func41 (by decide +kernel) outriderref04_every_p)
def ann_outriderref04_text : Nat → List Nat × Nat × List (List Nat)
  | _ => ([], 0, [])
def Tnb12 : Specs := ext Tnb11 38 (fnP Try.prog Tnb11 ann_outriderref04_text Try.f38)
theorem Tnb12_sound : TSound Try.prog Tnb12 := ext_sound Tnb11_sound (fn_row Tnb11_sound mixed Try.func38 (by decide +kernel))
def ann_outriderref04_all : Nat → List Nat × Nat × List (List Nat)
  | _ => ([], 0, [])
def Tnb13 : Specs := ext Tnb12 37 (fnP Try.prog Tnb12 ann_outriderref04_all Try.f37)
theorem Tnb13_sound : TSound Try.prog Tnb13 := ext_sound Tnb12_sound (fn_row Tnb12_sound mixed Try.func37 (by decide +kernel))
def ann_outriderref04_arp : Nat → List Nat × Nat × List (List Nat)
  | _ => ([], 0, [])
def Tnb14 : Specs := ext Tnb13 25 (fnP Try.prog Tnb13 ann_outriderref04_arp Try.f25)
theorem Tnb14_sound : TSound Try.prog Tnb14 := ext_sound Tnb13_sound (fn_row Tnb13_sound mixed Try.func25 (by decide +kernel))
def ann_outriderref04_kind : Nat → List Nat × Nat × List (List Nat)
  | _ => ([], 0, [])
def Tnb15 : Specs := ext Tnb14 35 (fnP Try.prog Tnb14 ann_outriderref04_kind Try.f35)
theorem Tnb15_sound : TSound Try.prog Tnb15 := ext_sound Tnb14_sound (fn_row Tnb14_sound mixed Try.func35 (by decide +kernel))
def ann_outriderref04_card : Nat → List Nat × Nat × List (List Nat)
  | 1 => ([], 13, [[], [0], [], [2], [], [4], [], [6], [], [8], [], [10], [0, 1, 2, 3, 4, 5, 6, 7, 8, 9, 10, 11]])
  | _ => ([], 0, [])
def Tnb16 : Specs := ext Tnb15 26 (fnP Try.prog Tnb15 ann_outriderref04_card Try.f26)
theorem Tnb16_sound : TSound Try.prog Tnb16 := ext_sound Tnb15_sound (fn_row Tnb15_sound mixed Try.func26 (by decide +kernel))
def ann_outriderref04_nd : Nat → List Nat × Nat × List (List Nat)
  | 4 => ([], 15, [[], [0], [], [2], [2, 3], [], [5], [5, 6], [2, 3, 4, 5, 6, 7], [2, 3, 4, 5, 6, 7, 8], [0, 1, 2, 3, 4, 5, 6, 7, 8, 9], [], [11], [0, 1, 2, 3, 4, 5, 6, 7, 8, 9, 10, 11, 12], [0, 1, 2, 3, 4, 5, 6, 7, 8, 9, 10, 11, 12, 13]])
  | _ => ([], 0, [])
set_option maxRecDepth 100000 in
theorem ref04_nd_eq (m0 m1 m2 m3 m4 m5 t0 t1 t2 t3 t4 t5 : UInt8) (f t : List UInt8) (p q : Int) (b body : List UInt8) (K : AVal → Hp → Prop) : fnP Try.prog Tnb16 ann_outriderref04_nd Try.f39 [.agg [.byte m0, .byte m1, .byte m2, .byte m3, .byte m4, .byte m5], .agg [.byte t0, .byte t1, .byte t2, .byte t3, .byte t4, .byte t5], .agg [.str f, .str t, .int .i64 p, .int .i64 q, .str b], .str body] [] K = (
  optP (pseudo f t (58 : Int) (32 : Int))
    (fun x =>
     List.length (List.take (List.length x) (List.drop (0 : Nat) x)) + List.length body ≤ (4611686018427387904 : Nat) ∧
      List.length (List.take (List.length x) (List.drop (0 : Nat) x) ++ body) ≤ (140737488355328 : Nat) ∧
       I64
         ((65535 : Int) -
          sumB
           (List.take (List.length (List.take (List.length x) (List.drop (0 : Nat) x) ++ body))
            (List.drop (0 : Nat) (List.take (List.length x) (List.drop (0 : Nat) x) ++ body)))) ∧
        ((0 : Int) ≤ (2 : Int) ∧ (2 : Int) ≤ (↑(List.length body) : Int)) ∧
         ((256 : Int) ≠ (0 : Int) ∧
           I64
            (Int.tdiv
             ((65535 : Int) -
              sumB
               (List.take (List.length (List.take (List.length x) (List.drop (0 : Nat) x) ++ body))
                (List.drop (0 : Nat) (List.take (List.length x) (List.drop (0 : Nat) x) ++ body))))
             (256 : Int))) ∧
          (256 : Int) ≠ (0 : Int) ∧
           List.length (List.take (2 : Nat) body) + (2 : Nat) ≤ (4611686018427387904 : Nat) ∧
            ((0 : Int) ≤ (4 : Int) ∧ (4 : Int) ≤ (↑(List.length body) : Int)) ∧
             List.length
                 (List.take (2 : Nat) body ++
                  List.take (2 : Nat)
                   (List.drop (0 : Nat)
                    [b8
                      (Int.tdiv
                       ((65535 : Int) -
                        sumB
                         (List.take (List.length (List.take (List.length x) (List.drop (0 : Nat) x) ++ body))
                          (List.drop (0 : Nat) (List.take (List.length x) (List.drop (0 : Nat) x) ++ body))))
                       (256 : Int)),
                     b8
                      (Int.tmod
                       ((65535 : Int) -
                        sumB
                         (List.take (List.length (List.take (List.length x) (List.drop (0 : Nat) x) ++ body))
                          (List.drop (0 : Nat) (List.take (List.length x) (List.drop (0 : Nat) x) ++ body))))
                       (256 : Int))])) +
                List.length (List.drop (4 : Nat) body) ≤
               (4611686018427387904 : Nat) ∧
              optP
               (ipEncode
                (Ip.mk f t (58 : Int) (255 : Int)
                 (List.take (2 : Nat) body ++
                   List.take (2 : Nat)
                    (List.drop (0 : Nat)
                     [b8
                       (Int.tdiv
                        ((65535 : Int) -
                         sumB
                          (List.take (List.length (List.take (List.length x) (List.drop (0 : Nat) x) ++ body))
                           (List.drop (0 : Nat) (List.take (List.length x) (List.drop (0 : Nat) x) ++ body))))
                        (256 : Int)),
                      b8
                       (Int.tmod
                        ((65535 : Int) -
                         sumB
                          (List.take (List.length (List.take (List.length x) (List.drop (0 : Nat) x) ++ body))
                           (List.drop (0 : Nat) (List.take (List.length x) (List.drop (0 : Nat) x) ++ body))))
                        (256 : Int))]) ++
                  List.drop (4 : Nat) body)))
               (fun x =>
                List.length (List.take (List.length x) (List.drop (0 : Nat) x)) ≤ (140737488351232 : Nat) ∧
                 optP
                  (etEncode
                   (Fm.mk (Mc.mk t0 t1 t2 t3 t4 t5) (Mc.mk m0 m1 m2 m3 m4 m5) (34525 : Int)
                    (List.take (List.length x) (List.drop (0 : Nat) x))))
                  (fun x =>
                   K (AVal.tup [AVal.sl (0 : Nat) (0 : Nat) (List.length x) (1 : Nat), AVal.int IntKind.i64 (0 : Int)])
                    [ABlk.bytes x])
                  (K (AVal.tup [AVal.nilS, AVal.int IntKind.i64 (1 : Int)]) []))
               (K (AVal.tup [AVal.nilS, AVal.int IntKind.i64 (1 : Int)]) []))
    ((0 : Nat) + List.length body ≤ (4611686018427387904 : Nat) ∧
     List.length ([] ++ body) ≤ (140737488355328 : Nat) ∧
      I64 ((65535 : Int) - sumB (List.take (List.length ([] ++ body)) (List.drop (0 : Nat) ([] ++ body)))) ∧
       ((0 : Int) ≤ (2 : Int) ∧ (2 : Int) ≤ (↑(List.length body) : Int)) ∧
        ((256 : Int) ≠ (0 : Int) ∧
          I64
           (Int.tdiv ((65535 : Int) - sumB (List.take (List.length ([] ++ body)) (List.drop (0 : Nat) ([] ++ body))))
            (256 : Int))) ∧
         (256 : Int) ≠ (0 : Int) ∧
          List.length (List.take (2 : Nat) body) + (2 : Nat) ≤ (4611686018427387904 : Nat) ∧
           ((0 : Int) ≤ (4 : Int) ∧ (4 : Int) ≤ (↑(List.length body) : Int)) ∧
            List.length
                (List.take (2 : Nat) body ++
                 List.take (2 : Nat)
                  (List.drop (0 : Nat)
                   [b8
                     (Int.tdiv
                      ((65535 : Int) - sumB (List.take (List.length ([] ++ body)) (List.drop (0 : Nat) ([] ++ body))))
                      (256 : Int)),
                    b8
                     (Int.tmod
                      ((65535 : Int) - sumB (List.take (List.length ([] ++ body)) (List.drop (0 : Nat) ([] ++ body))))
                      (256 : Int))])) +
               List.length (List.drop (4 : Nat) body) ≤
              (4611686018427387904 : Nat) ∧
             optP
              (ipEncode
               (Ip.mk f t (58 : Int) (255 : Int)
                (List.take (2 : Nat) body ++
                  List.take (2 : Nat)
                   (List.drop (0 : Nat)
                    [b8
                      (Int.tdiv
                       ((65535 : Int) - sumB (List.take (List.length ([] ++ body)) (List.drop (0 : Nat) ([] ++ body))))
                       (256 : Int)),
                     b8
                      (Int.tmod
                       ((65535 : Int) - sumB (List.take (List.length ([] ++ body)) (List.drop (0 : Nat) ([] ++ body))))
                       (256 : Int))]) ++
                 List.drop (4 : Nat) body)))
              (fun x =>
               List.length (List.take (List.length x) (List.drop (0 : Nat) x)) ≤ (140737488351232 : Nat) ∧
                optP
                 (etEncode
                  (Fm.mk (Mc.mk t0 t1 t2 t3 t4 t5) (Mc.mk m0 m1 m2 m3 m4 m5) (34525 : Int)
                   (List.take (List.length x) (List.drop (0 : Nat) x))))
                 (fun x =>
                  K (AVal.tup [AVal.sl (0 : Nat) (0 : Nat) (List.length x) (1 : Nat), AVal.int IntKind.i64 (0 : Int)])
                   [ABlk.bytes x])
                 (K (AVal.tup [AVal.nilS, AVal.int IntKind.i64 (1 : Int)]) []))
              (K (AVal.tup [AVal.nilS, AVal.int IntKind.i64 (1 : Int)]) []))) := by kernel_rfl
theorem outriderref04_nd_p : ∀ args H K, ndGRow args H K → fnP Try.prog Tnb16 ann_outriderref04_nd Try.f39 args H K := by
  intro args H K h
  unfold ndGRow at h
  split at h
  · rename_i m0 m1 m2 m3 m4 m5 t0 t1 t2 t3 t4 t5 f t p q b body
    obtain ⟨htg, hK⟩ := h
    rw [ref04_nd_eq]
    have iS : ∀ l, I64 (Int.tdiv (65535 - sumB l) 256) := fun l => by have := sumB_bd l; rw [Int.tdiv_eq_ediv_of_nonneg (by omega)]; unfold I64; omega
    have tS : ∀ l, [b8 (Int.tdiv (65535 - sumB l) 256), b8 (Int.tmod (65535 - sumB l) 256)] = two (65535 - sumB l) := fun l => tdT (by have := sumB_bd l; omega)
    have tk2 : ∀ (y z : UInt8), List.take 2 [y, z] = [y, z] := fun _ _ => rfl
    simp only [List.drop_zero, List.take_length, tk2, tS, iS, i64_sum, true_and]
    have hK' : optP (ipEncode (ndIp body f t)) (fun x => outK (etEncode ⟨⟨t0, t1, t2, t3, t4, t5⟩, ⟨m0, m1, m2, m3, m4, m5⟩, 34525, x⟩) K) (K (.tup [.nilS, .int .i64 1]) []) := by
      unfold ndG at hK; revert hK; cases ipEncode (ndIp body f t) <;> exact id
    unfold ndIp pseudoL at hK'
    have hl40 := @pseudo_len f t 58
    have n256 : ((256 : Int) ≠ 0) = True := eq_true (by decide)
    have tk3 : ∀ n, List.take 2 (two n) = two n := fun _ => rfl
    simp only [tk3, n256, true_and, List.length_append, List.length_take, List.length_drop, two_len, htg]
    have lims : ∀ X : Ip, ∀ x, ipEncode X = some x → x.length ≤ 1500 := fun X x hx => by
      have h1 := ipEnc_some hx
      unfold ipEncode at hx; rw [if_pos h1] at hx
      have := enc_len h1
      rw [Option.some.inj hx] at this; exact this
    cases hps : pseudo f t 58 32 with
    | none =>
      rw [hps] at hK'
      simp only [optP_n, Option.getD_none, List.nil_append] at hK' ⊢
      repeat' (refine And.intro (by first | first | omega | with_reducible exact i64_x256 _ | with_reducible exact i64_w16 _ _ | with_reducible exact i64_sum _ | (repeat' first | with_reducible exact i64_x256 _ | with_reducible exact i64_w16 _ _ | with_reducible exact i64_sum _ | with_reducible apply And.intro) <;> first | omega | (simp only [I64]; omega) | (simp; omega) | (simp; done) | (simp [I64]; omega) | (with_reducible refine impP_i (fun hg => ?_) <;> (try simp only [Bool.and_eq_true, Bool.or_eq_true, Bool.and_eq_false_iff, Bool.or_eq_false_iff, decide_eq_true_eq, decide_eq_false_iff_not, Bool.not_eq_true', Bool.not_eq_false', Bool.not_true, Bool.not_false, Bool.true_and, Bool.and_true, Bool.false_or, Bool.or_false, beq_iff_eq, beq_eq_false_iff_ne, ne_eq] at hg) <;> (first | omega | with_reducible exact i64_x256 _ | with_reducible exact i64_w16 _ _ | with_reducible exact i64_sum _ | (repeat' first | with_reducible exact i64_x256 _ | with_reducible exact i64_w16 _ _ | with_reducible exact i64_sum _ | with_reducible apply And.intro) <;> first | omega | (simp only [I64]; omega) | (simp; omega) | (simp; done) | (simp [I64]; omega)))) ?_)
      generalize hX : ipEncode _ = X at hK' ⊢
      cases X with
      | none => exact hK'
      | some x => exact ⟨by have := lims _ x hX; omega, hK'⟩
    | some l =>
      rw [hps] at hK'
      have hl := hl40 hps
      simp only [optP_s, Option.getD_some] at hK' ⊢
      repeat' (refine And.intro (by first | first | omega | with_reducible exact i64_x256 _ | with_reducible exact i64_w16 _ _ | with_reducible exact i64_sum _ | (repeat' first | with_reducible exact i64_x256 _ | with_reducible exact i64_w16 _ _ | with_reducible exact i64_sum _ | with_reducible apply And.intro) <;> first | omega | (simp only [I64]; omega) | (simp; omega) | (simp; done) | (simp [I64]; omega) | (with_reducible refine impP_i (fun hg => ?_) <;> (try simp only [Bool.and_eq_true, Bool.or_eq_true, Bool.and_eq_false_iff, Bool.or_eq_false_iff, decide_eq_true_eq, decide_eq_false_iff_not, Bool.not_eq_true', Bool.not_eq_false', Bool.not_true, Bool.not_false, Bool.true_and, Bool.and_true, Bool.false_or, Bool.or_false, beq_iff_eq, beq_eq_false_iff_ne, ne_eq] at hg) <;> (first | omega | with_reducible exact i64_x256 _ | with_reducible exact i64_w16 _ _ | with_reducible exact i64_sum _ | (repeat' first | with_reducible exact i64_x256 _ | with_reducible exact i64_w16 _ _ | with_reducible exact i64_sum _ | with_reducible apply And.intro) <;> first | omega | (simp only [I64]; omega) | (simp; omega) | (simp; done) | (simp [I64]; omega)))) ?_)
      generalize hX : ipEncode _ = X at hK' ⊢
      cases X with
      | none => exact hK'
      | some x => exact ⟨by have := lims _ x hX; omega, hK'⟩
  · exact h.elim
def Tnb17 : Specs := ext Tnb16 39 (ndGRow)
theorem Tnb17_sound : TSound Try.prog Tnb17 := ext_sound Tnb16_sound (row_of Tnb16_sound mixed Try.func39 (by decide +kernel) outriderref04_nd_p)
def ann_outriderref04_Read : Nat → List Nat × Nat × List (List Nat)
  | 3 => ([], 15, [[], [0], [0, 1], [0, 1, 2], [0, 1, 2, 3], [0, 1, 2, 3, 4], [0, 1, 2, 3], [0, 1, 2, 3, 4, 5, 6], [0, 1, 2, 3, 4, 5, 6, 7], [0, 1, 2, 3, 4, 5, 6, 7, 8], [0, 1, 2, 3, 4, 5, 6, 7, 8, 9], [0, 1, 2, 3, 4, 5, 6, 7, 8], [0, 1, 2, 3, 4, 5, 6, 7, 8, 9, 10, 11], [0, 1, 2, 3, 4, 5, 6, 7, 8, 9, 10, 11, 12], [0, 1, 2, 3, 4, 5, 6, 7, 8, 9, 10, 11, 12, 13]])
  | 5 => ([], 14, [[], [0], [0, 1], [], [3], [3, 4], [], [6], [], [8], [], [10], [10, 11], [0, 1, 2, 3, 4, 5, 6, 7, 8, 9, 10, 11, 12]])
  | 19 => ([], 8, [[], [0], [0, 1], [], [3], [], [5], [0, 1, 2, 3, 4, 5, 6]])
  | 20 => ([], 13, [[], [0], [0, 1], [], [3], [], [5], [], [7], [7, 8], [7, 8, 9], [7, 8, 9, 10], [0, 1, 2, 3, 4, 5, 6, 7, 8, 9, 10, 11]])
  | 2000009 => ([], 25, [[], [0], [0, 1], [0, 1, 2], [0, 1, 2, 3], [0, 1, 2, 3, 4], [0, 1, 2, 3, 4, 5], [0, 1, 2, 3, 4, 5, 6], [0, 1, 2, 3, 4, 5, 6, 7], [0, 1, 2, 3, 4, 5, 6, 7, 8], [0, 1, 2, 3, 4, 5, 6, 7, 8, 9], [0, 1, 2, 3, 4, 5, 6, 7, 8, 9, 10], [0, 1, 2, 3, 4, 5, 6, 7, 8, 9, 10, 11], [0, 1, 2, 3, 4, 5, 6, 7, 8, 9, 10, 11, 12], [0, 1, 2, 3, 4, 5, 6, 7, 8, 9, 10, 11, 12, 13], [0, 1, 2, 3, 4, 5, 6, 7, 8, 9, 10, 11, 12, 13, 14], [0, 1, 2, 3, 4, 5, 6, 7, 8, 9, 10, 11, 12, 13, 14, 15], [0, 1, 2, 3, 4, 5, 6, 7, 8, 9, 10, 11, 12, 13, 14, 15, 16], [0, 1, 2, 3, 4, 5, 6, 7, 8, 9, 10, 11, 12, 13, 14, 15, 16, 17], [0, 1, 2, 3, 4, 5, 6, 7, 8, 9, 10, 11, 12, 13, 14, 15, 16, 17, 18], [0, 1, 2, 3, 4, 5, 6, 7, 8, 9, 10, 11, 12, 13, 14, 15, 16, 17, 18, 19], [0, 1, 2, 3, 4, 5, 6, 7, 8, 9, 10, 11, 12, 13, 14, 15, 16, 17, 18, 19, 20], [0, 1, 2, 3, 4, 5, 6, 7, 8, 9, 10, 11, 12, 13, 14, 15, 16, 17, 18, 19, 20, 21], [0, 1, 2, 3, 4, 5, 6, 7, 8, 9, 10, 11, 12, 13, 14, 15, 16, 17, 18, 19, 20, 21, 22]])
  | 2000012 => ([], 9, [[], [0], [0, 1], [0, 1, 2], [0, 1, 2, 3], [0, 1, 2, 3, 4], [0, 1, 2, 3, 4, 5], [0, 1, 2, 3, 4, 5, 6]])
  | 2000013 => ([], 9, [[], [0], [0, 1], [0, 1, 2], [0, 1, 2, 3], [0, 1, 2, 3, 4], [0, 1, 2, 3, 4, 5], [0, 1, 2, 3, 4, 5, 6]])
  | 2000014 => ([], 17, [[], [0], [0, 1], [0, 1, 2], [0, 1, 2, 3], [0, 1, 2, 3, 4], [0, 1, 2, 3, 4, 5], [0, 1, 2, 3, 4, 5, 6], [0, 1, 2, 3, 4, 5, 6, 7], [0, 1, 2, 3, 4, 5, 6, 7, 8], [0, 1, 2, 3, 4, 5, 6, 7, 8, 9], [0, 1, 2, 3, 4, 5, 6, 7, 8, 9, 10], [0, 1, 2, 3, 4, 5, 6, 7, 8, 9, 10, 11], [0, 1, 2, 3, 4, 5, 6, 7, 8, 9, 10, 11, 12], [0, 1, 2, 3, 4, 5, 6, 7, 8, 9, 10, 11, 12, 13], [0, 1, 2, 3, 4, 5, 6, 7, 8, 9, 10, 11, 12, 13, 14]])
  | _ => ([], 0, [])
set_option maxRecDepth 100000 in
theorem ref04_Read_eq (a0 a1 a2 a3 a4 a5 b0 b1 b2 b3 b4 b5 : UInt8) (ty : Int) (b : List UInt8) (K : AVal → Hp → Prop) : fnP Try.prog Tnb17 ann_outriderref04_Read Try.f10 [.agg [.byte a0, .byte a1, .byte a2, .byte a3, .byte a4, .byte a5, .byte b0, .byte b1, .byte b2, .byte b3, .byte b4, .byte b5, .int .i64 ty, .str b]] [] K = (
  brP (decide (ty = (2054 : Int)))
    (brP (decide ((↑(List.length b) : Int) < (28 : Int)))
     (K
      (AVal.tup
       [AVal.agg
         [AVal.int IntKind.i64 (0 : Int), AVal.byte (0 : UInt8), AVal.byte (0 : UInt8), AVal.byte (0 : UInt8),
          AVal.byte (0 : UInt8), AVal.byte (0 : UInt8), AVal.byte (0 : UInt8), AVal.str [], AVal.str [], AVal.bool false],
        AVal.int IntKind.i64 (40 : Int)])
      [])
     (((0 : Int) ≤ (8 : Int) ∧ (8 : Int) ≤ (↑(List.length b) : Int)) ∧
      (8 : Nat) ≤ (4611686018427387904 : Nat) ∧
       (8 : Nat) ≤ (4611686018427387904 : Nat) ∧
        (8 : Nat) ≤ (4611686018427387904 : Nat) ∧
         brP
          (!decide
            (List.take (8 : Nat) b =
             [(0 : UInt8), (1 : UInt8), (8 : UInt8), (0 : UInt8), (6 : UInt8), (4 : UInt8), (0 : UInt8), (1 : UInt8)]))
          (((0 : Int) ≤ (8 : Int) ∧ (8 : Int) ≤ (↑(List.length b) : Int)) ∧
           (8 : Nat) ≤ (4611686018427387904 : Nat) ∧
            (8 : Nat) ≤ (4611686018427387904 : Nat) ∧
             (8 : Nat) ≤ (4611686018427387904 : Nat) ∧
              brP
               (!decide
                 (List.take (8 : Nat) b =
                  [(0 : UInt8), (1 : UInt8), (8 : UInt8), (0 : UInt8), (6 : UInt8), (4 : UInt8), (0 : UInt8),
                   (2 : UInt8)]))
               (K
                (AVal.tup
                 [AVal.agg
                   [AVal.int IntKind.i64 (0 : Int), AVal.byte (0 : UInt8), AVal.byte (0 : UInt8), AVal.byte (0 : UInt8),
                    AVal.byte (0 : UInt8), AVal.byte (0 : UInt8), AVal.byte (0 : UInt8), AVal.str [], AVal.str [],
                    AVal.bool false],
                  AVal.int IntKind.i64 (40 : Int)])
                [])
               (((0 : Int) ≤ (7 : Int) ∧ (7 : Int) < (↑(List.length b) : Int)) ∧
                ((0 : Int) ≤ (8 : Int) ∧ (8 : Int) ≤ (14 : Int) ∧ (14 : Int) ≤ (↑(List.length b) : Int)) ∧
                 ((0 : Int) ≤ (0 : Int) ∧
                   (0 : Int) < (↑(List.length (List.drop (8 : Nat) (List.take (14 : Nat) b))) : Int)) ∧
                  ((0 : Int) ≤ (1 : Int) ∧
                    (1 : Int) < (↑(List.length (List.drop (8 : Nat) (List.take (14 : Nat) b))) : Int)) ∧
                   ((0 : Int) ≤ (2 : Int) ∧
                     (2 : Int) < (↑(List.length (List.drop (8 : Nat) (List.take (14 : Nat) b))) : Int)) ∧
                    ((0 : Int) ≤ (3 : Int) ∧
                      (3 : Int) < (↑(List.length (List.drop (8 : Nat) (List.take (14 : Nat) b))) : Int)) ∧
                     ((0 : Int) ≤ (4 : Int) ∧
                       (4 : Int) < (↑(List.length (List.drop (8 : Nat) (List.take (14 : Nat) b))) : Int)) ∧
                      ((0 : Int) ≤ (5 : Int) ∧
                        (5 : Int) < (↑(List.length (List.drop (8 : Nat) (List.take (14 : Nat) b))) : Int)) ∧
                       ((0 : Int) ≤ (14 : Int) ∧ (14 : Int) ≤ (18 : Int) ∧ (18 : Int) ≤ (↑(List.length b) : Int)) ∧
                        ((0 : Int) ≤ (24 : Int) ∧ (24 : Int) ≤ (28 : Int) ∧ (28 : Int) ≤ (↑(List.length b) : Int)) ∧
                         ((0 : Int) ≤ (7 : Int) ∧ (7 : Int) < (↑(List.length b) : Int)) ∧
                          K
                           (AVal.tup
                            [AVal.agg
                              [AVal.int IntKind.i64 (↑(UInt8.toNat (List.getD b (7 : Nat) (0 : UInt8))) : Int),
                               AVal.byte (List.getD (List.drop (8 : Nat) (List.take (14 : Nat) b)) (0 : Nat) (0 : UInt8)),
                               AVal.byte (List.getD (List.drop (8 : Nat) (List.take (14 : Nat) b)) (1 : Nat) (0 : UInt8)),
                               AVal.byte (List.getD (List.drop (8 : Nat) (List.take (14 : Nat) b)) (2 : Nat) (0 : UInt8)),
                               AVal.byte (List.getD (List.drop (8 : Nat) (List.take (14 : Nat) b)) (3 : Nat) (0 : UInt8)),
                               AVal.byte (List.getD (List.drop (8 : Nat) (List.take (14 : Nat) b)) (4 : Nat) (0 : UInt8)),
                               AVal.byte (List.getD (List.drop (8 : Nat) (List.take (14 : Nat) b)) (5 : Nat) (0 : UInt8)),
                               AVal.str (List.drop (14 : Nat) (List.take (18 : Nat) b)),
                               AVal.str (List.drop (24 : Nat) (List.take (28 : Nat) b)),
                               AVal.bool (decide (List.getD b (7 : Nat) (0 : UInt8) = (2 : UInt8)))],
                             AVal.int IntKind.i64 (0 : Int)])
                           []))
          (((0 : Int) ≤ (7 : Int) ∧ (7 : Int) < (↑(List.length b) : Int)) ∧
           ((0 : Int) ≤ (8 : Int) ∧ (8 : Int) ≤ (14 : Int) ∧ (14 : Int) ≤ (↑(List.length b) : Int)) ∧
            ((0 : Int) ≤ (0 : Int) ∧ (0 : Int) < (↑(List.length (List.drop (8 : Nat) (List.take (14 : Nat) b))) : Int)) ∧
             ((0 : Int) ≤ (1 : Int) ∧ (1 : Int) < (↑(List.length (List.drop (8 : Nat) (List.take (14 : Nat) b))) : Int)) ∧
              ((0 : Int) ≤ (2 : Int) ∧
                (2 : Int) < (↑(List.length (List.drop (8 : Nat) (List.take (14 : Nat) b))) : Int)) ∧
               ((0 : Int) ≤ (3 : Int) ∧
                 (3 : Int) < (↑(List.length (List.drop (8 : Nat) (List.take (14 : Nat) b))) : Int)) ∧
                ((0 : Int) ≤ (4 : Int) ∧
                  (4 : Int) < (↑(List.length (List.drop (8 : Nat) (List.take (14 : Nat) b))) : Int)) ∧
                 ((0 : Int) ≤ (5 : Int) ∧
                   (5 : Int) < (↑(List.length (List.drop (8 : Nat) (List.take (14 : Nat) b))) : Int)) ∧
                  ((0 : Int) ≤ (14 : Int) ∧ (14 : Int) ≤ (18 : Int) ∧ (18 : Int) ≤ (↑(List.length b) : Int)) ∧
                   ((0 : Int) ≤ (24 : Int) ∧ (24 : Int) ≤ (28 : Int) ∧ (28 : Int) ≤ (↑(List.length b) : Int)) ∧
                    ((0 : Int) ≤ (7 : Int) ∧ (7 : Int) < (↑(List.length b) : Int)) ∧
                     K
                      (AVal.tup
                       [AVal.agg
                         [AVal.int IntKind.i64 (↑(UInt8.toNat (List.getD b (7 : Nat) (0 : UInt8))) : Int),
                          AVal.byte (List.getD (List.drop (8 : Nat) (List.take (14 : Nat) b)) (0 : Nat) (0 : UInt8)),
                          AVal.byte (List.getD (List.drop (8 : Nat) (List.take (14 : Nat) b)) (1 : Nat) (0 : UInt8)),
                          AVal.byte (List.getD (List.drop (8 : Nat) (List.take (14 : Nat) b)) (2 : Nat) (0 : UInt8)),
                          AVal.byte (List.getD (List.drop (8 : Nat) (List.take (14 : Nat) b)) (3 : Nat) (0 : UInt8)),
                          AVal.byte (List.getD (List.drop (8 : Nat) (List.take (14 : Nat) b)) (4 : Nat) (0 : UInt8)),
                          AVal.byte (List.getD (List.drop (8 : Nat) (List.take (14 : Nat) b)) (5 : Nat) (0 : UInt8)),
                          AVal.str (List.drop (14 : Nat) (List.take (18 : Nat) b)),
                          AVal.str (List.drop (24 : Nat) (List.take (28 : Nat) b)),
                          AVal.bool (decide (List.getD b (7 : Nat) (0 : UInt8) = (2 : UInt8)))],
                        AVal.int IntKind.i64 (0 : Int)])
                      [])))
    (brP (!decide (ty = (34525 : Int)))
     (K
      (AVal.tup
       [AVal.agg
         [AVal.int IntKind.i64 (0 : Int), AVal.byte (0 : UInt8), AVal.byte (0 : UInt8), AVal.byte (0 : UInt8),
          AVal.byte (0 : UInt8), AVal.byte (0 : UInt8), AVal.byte (0 : UInt8), AVal.str [], AVal.str [], AVal.bool false],
        AVal.int IntKind.i64 (40 : Int)])
      [])
     (List.length b ≤ (140737488355328 : Nat) ∧
      List.length (List.take (List.length b) (List.drop (0 : Nat) b)) ≤ (140737488355328 : Nat) ∧
       brP
        (!decide ((ipDecode (List.take (List.length b) (List.drop (0 : Nat) b))).snd = (0 : Int)) ||
            !decide
              ((↑(List.length (ipDecode (List.take (List.length b) (List.drop (0 : Nat) b))).fst.src) : Int) =
               (16 : Int)) ||
           !decide ((ipDecode (List.take (List.length b) (List.drop (0 : Nat) b))).fst.proto = (58 : Int)) ||
          !decide ((ipDecode (List.take (List.length b) (List.drop (0 : Nat) b))).fst.ttl = (255 : Int)) ||
         !decide
           ((↑(List.length (ipDecode (List.take (List.length b) (List.drop (0 : Nat) b))).fst.body) : Int) = (32 : Int)))
        (K
         (AVal.tup
          [AVal.agg
            [AVal.int IntKind.i64 (0 : Int), AVal.byte (0 : UInt8), AVal.byte (0 : UInt8), AVal.byte (0 : UInt8),
             AVal.byte (0 : UInt8), AVal.byte (0 : UInt8), AVal.byte (0 : UInt8), AVal.str [], AVal.str [],
             AVal.bool false],
           AVal.int IntKind.i64 (40 : Int)])
         [])
        (impP true
          ((0 : Int) ≤ (0 : Int) ∧
           (0 : Int) < (↑(List.length (ipDecode (List.take (List.length b) (List.drop (0 : Nat) b))).fst.body) : Int)) ∧
         impP
           (decide
            (List.getD (ipDecode (List.take (List.length b) (List.drop (0 : Nat) b))).fst.body (0 : Nat) (0 : UInt8) =
             (135 : UInt8)))
           ((0 : Int) ≤ (24 : Int) ∧
            (24 : Int) < (↑(List.length (ipDecode (List.take (List.length b) (List.drop (0 : Nat) b))).fst.body) : Int)) ∧
          impP true
            ((0 : Int) ≤ (0 : Int) ∧
             (0 : Int) < (↑(List.length (ipDecode (List.take (List.length b) (List.drop (0 : Nat) b))).fst.body) : Int)) ∧
           impP
             (decide
              (List.getD (ipDecode (List.take (List.length b) (List.drop (0 : Nat) b))).fst.body (0 : Nat) (0 : UInt8) =
               (136 : UInt8)))
             ((0 : Int) ≤ (24 : Int) ∧
              (24 : Int) <
               (↑(List.length (ipDecode (List.take (List.length b) (List.drop (0 : Nat) b))).fst.body) : Int)) ∧
            impP true
              ((0 : Int) ≤ (1 : Int) ∧
               (1 : Int) <
                (↑(List.length (ipDecode (List.take (List.length b) (List.drop (0 : Nat) b))).fst.body) : Int)) ∧
             impP
               (!!decide
                  (List.getD (ipDecode (List.take (List.length b) (List.drop (0 : Nat) b))).fst.body (1 : Nat)
                    (0 : UInt8) =
                   (0 : UInt8)))
               ((0 : Int) ≤ (25 : Int) ∧
                (25 : Int) <
                 (↑(List.length (ipDecode (List.take (List.length b) (List.drop (0 : Nat) b))).fst.body) : Int)) ∧
              brP
               (!decide
                   (List.getD (ipDecode (List.take (List.length b) (List.drop (0 : Nat) b))).fst.body (1 : Nat)
                     (0 : UInt8) =
                    (0 : UInt8)) ||
                 !decide
                   (List.getD (ipDecode (List.take (List.length b) (List.drop (0 : Nat) b))).fst.body (25 : Nat)
                     (0 : UInt8) =
                    (1 : UInt8)) ||
                !(decide
                    (List.getD (ipDecode (List.take (List.length b) (List.drop (0 : Nat) b))).fst.body (0 : Nat)
                      (0 : UInt8) =
                     (135 : UInt8)) &&
                   decide
                    (List.getD (ipDecode (List.take (List.length b) (List.drop (0 : Nat) b))).fst.body (24 : Nat)
                      (0 : UInt8) =
                     (1 : UInt8))) &&
                 !(decide
                    (List.getD (ipDecode (List.take (List.length b) (List.drop (0 : Nat) b))).fst.body (0 : Nat)
                      (0 : UInt8) =
                     (136 : UInt8)) &&
                   decide
                    (List.getD (ipDecode (List.take (List.length b) (List.drop (0 : Nat) b))).fst.body (24 : Nat)
                      (0 : UInt8) =
                     (2 : UInt8))))
               (K
                (AVal.tup
                 [AVal.agg
                   [AVal.int IntKind.i64 (0 : Int), AVal.byte (0 : UInt8), AVal.byte (0 : UInt8), AVal.byte (0 : UInt8),
                    AVal.byte (0 : UInt8), AVal.byte (0 : UInt8), AVal.byte (0 : UInt8), AVal.str [], AVal.str [],
                    AVal.bool false],
                  AVal.int IntKind.i64 (40 : Int)])
                [])
               (optP
                (pseudo (ipDecode (List.take (List.length b) (List.drop (0 : Nat) b))).fst.src
                 (ipDecode (List.take (List.length b) (List.drop (0 : Nat) b))).fst.dst (58 : Int) (32 : Int))
                (fun x =>
                 List.length (List.take (List.length x) (List.drop (0 : Nat) x)) +
                    List.length (ipDecode (List.take (List.length b) (List.drop (0 : Nat) b))).fst.body ≤
                   (4611686018427387904 : Nat) ∧
                  List.length
                     (List.take (List.length x) (List.drop (0 : Nat) x) ++
                      (ipDecode (List.take (List.length b) (List.drop (0 : Nat) b))).fst.body) ≤
                    (140737488355328 : Nat) ∧
                   brP
                    (!decide
                      (sumB
                        (List.take
                         (List.length
                          (List.take (List.length x) (List.drop (0 : Nat) x) ++
                           (ipDecode (List.take (List.length b) (List.drop (0 : Nat) b))).fst.body))
                         (List.drop (0 : Nat)
                          (List.take (List.length x) (List.drop (0 : Nat) x) ++
                           (ipDecode (List.take (List.length b) (List.drop (0 : Nat) b))).fst.body))) =
                       (65535 : Int)))
                    (K
                     (AVal.tup
                      [AVal.agg
                        [AVal.int IntKind.i64 (0 : Int), AVal.byte (0 : UInt8), AVal.byte (0 : UInt8),
                         AVal.byte (0 : UInt8), AVal.byte (0 : UInt8), AVal.byte (0 : UInt8), AVal.byte (0 : UInt8),
                         AVal.str [], AVal.str [], AVal.bool false],
                       AVal.int IntKind.i64 (41 : Int)])
                     [])
                    (brP
                     (decide
                       (List.getD (ipDecode (List.take (List.length b) (List.drop (0 : Nat) b))).fst.body (0 : Nat)
                         (0 : UInt8) =
                        (135 : UInt8)) &&
                      decide
                       (List.getD (ipDecode (List.take (List.length b) (List.drop (0 : Nat) b))).fst.body (24 : Nat)
                         (0 : UInt8) =
                        (1 : UInt8)))
                     (((0 : Int) ≤ (26 : Int) ∧
                       (26 : Int) ≤
                        (↑(List.length (ipDecode (List.take (List.length b) (List.drop (0 : Nat) b))).fst.body) : Int)) ∧
                      ((0 : Int) ≤ (0 : Int) ∧
                        (0 : Int) <
                         (↑(List.length
                            (List.drop (26 : Nat)
                             (ipDecode (List.take (List.length b) (List.drop (0 : Nat) b))).fst.body)) :
                          Int)) ∧
                       ((0 : Int) ≤ (1 : Int) ∧
                         (1 : Int) <
                          (↑(List.length
                             (List.drop (26 : Nat)
                              (ipDecode (List.take (List.length b) (List.drop (0 : Nat) b))).fst.body)) :
                           Int)) ∧
                        ((0 : Int) ≤ (2 : Int) ∧
                          (2 : Int) <
                           (↑(List.length
                              (List.drop (26 : Nat)
                               (ipDecode (List.take (List.length b) (List.drop (0 : Nat) b))).fst.body)) :
                            Int)) ∧
                         ((0 : Int) ≤ (3 : Int) ∧
                           (3 : Int) <
                            (↑(List.length
                               (List.drop (26 : Nat)
                                (ipDecode (List.take (List.length b) (List.drop (0 : Nat) b))).fst.body)) :
                             Int)) ∧
                          ((0 : Int) ≤ (4 : Int) ∧
                            (4 : Int) <
                             (↑(List.length
                                (List.drop (26 : Nat)
                                 (ipDecode (List.take (List.length b) (List.drop (0 : Nat) b))).fst.body)) :
                              Int)) ∧
                           ((0 : Int) ≤ (5 : Int) ∧
                             (5 : Int) <
                              (↑(List.length
                                 (List.drop (26 : Nat)
                                  (ipDecode (List.take (List.length b) (List.drop (0 : Nat) b))).fst.body)) :
                               Int)) ∧
                            ((0 : Int) ≤ (8 : Int) ∧
                              (8 : Int) ≤ (24 : Int) ∧
                               (24 : Int) ≤
                                (↑(List.length (ipDecode (List.take (List.length b) (List.drop (0 : Nat) b))).fst.body) :
                                 Int)) ∧
                             K
                              (AVal.tup
                               [AVal.agg
                                 [AVal.int IntKind.i64 (1 : Int),
                                  AVal.byte
                                   (List.getD
                                    (List.drop (26 : Nat)
                                     (ipDecode (List.take (List.length b) (List.drop (0 : Nat) b))).fst.body)
                                    (0 : Nat) (0 : UInt8)),
                                  AVal.byte
                                   (List.getD
                                    (List.drop (26 : Nat)
                                     (ipDecode (List.take (List.length b) (List.drop (0 : Nat) b))).fst.body)
                                    (1 : Nat) (0 : UInt8)),
                                  AVal.byte
                                   (List.getD
                                    (List.drop (26 : Nat)
                                     (ipDecode (List.take (List.length b) (List.drop (0 : Nat) b))).fst.body)
                                    (2 : Nat) (0 : UInt8)),
                                  AVal.byte
                                   (List.getD
                                    (List.drop (26 : Nat)
                                     (ipDecode (List.take (List.length b) (List.drop (0 : Nat) b))).fst.body)
                                    (3 : Nat) (0 : UInt8)),
                                  AVal.byte
                                   (List.getD
                                    (List.drop (26 : Nat)
                                     (ipDecode (List.take (List.length b) (List.drop (0 : Nat) b))).fst.body)
                                    (4 : Nat) (0 : UInt8)),
                                  AVal.byte
                                   (List.getD
                                    (List.drop (26 : Nat)
                                     (ipDecode (List.take (List.length b) (List.drop (0 : Nat) b))).fst.body)
                                    (5 : Nat) (0 : UInt8)),
                                  AVal.str (ipDecode (List.take (List.length b) (List.drop (0 : Nat) b))).fst.src,
                                  AVal.str
                                   (List.drop (8 : Nat)
                                    (List.take (24 : Nat)
                                     (ipDecode (List.take (List.length b) (List.drop (0 : Nat) b))).fst.body)),
                                  AVal.bool false],
                                AVal.int IntKind.i64 (0 : Int)])
                              [])
                     (((0 : Int) ≤ (26 : Int) ∧
                       (26 : Int) ≤
                        (↑(List.length (ipDecode (List.take (List.length b) (List.drop (0 : Nat) b))).fst.body) : Int)) ∧
                      ((0 : Int) ≤ (0 : Int) ∧
                        (0 : Int) <
                         (↑(List.length
                            (List.drop (26 : Nat)
                             (ipDecode (List.take (List.length b) (List.drop (0 : Nat) b))).fst.body)) :
                          Int)) ∧
                       ((0 : Int) ≤ (1 : Int) ∧
                         (1 : Int) <
                          (↑(List.length
                             (List.drop (26 : Nat)
                              (ipDecode (List.take (List.length b) (List.drop (0 : Nat) b))).fst.body)) :
                           Int)) ∧
                        ((0 : Int) ≤ (2 : Int) ∧
                          (2 : Int) <
                           (↑(List.length
                              (List.drop (26 : Nat)
                               (ipDecode (List.take (List.length b) (List.drop (0 : Nat) b))).fst.body)) :
                            Int)) ∧
                         ((0 : Int) ≤ (3 : Int) ∧
                           (3 : Int) <
                            (↑(List.length
                               (List.drop (26 : Nat)
                                (ipDecode (List.take (List.length b) (List.drop (0 : Nat) b))).fst.body)) :
                             Int)) ∧
                          ((0 : Int) ≤ (4 : Int) ∧
                            (4 : Int) <
                             (↑(List.length
                                (List.drop (26 : Nat)
                                 (ipDecode (List.take (List.length b) (List.drop (0 : Nat) b))).fst.body)) :
                              Int)) ∧
                           ((0 : Int) ≤ (5 : Int) ∧
                             (5 : Int) <
                              (↑(List.length
                                 (List.drop (26 : Nat)
                                  (ipDecode (List.take (List.length b) (List.drop (0 : Nat) b))).fst.body)) :
                               Int)) ∧
                            ((0 : Int) ≤ (8 : Int) ∧
                              (8 : Int) ≤ (24 : Int) ∧
                               (24 : Int) ≤
                                (↑(List.length (ipDecode (List.take (List.length b) (List.drop (0 : Nat) b))).fst.body) :
                                 Int)) ∧
                             ((0 : Int) ≤ (4 : Int) ∧
                               (4 : Int) <
                                (↑(List.length (ipDecode (List.take (List.length b) (List.drop (0 : Nat) b))).fst.body) :
                                 Int)) ∧
                              (64 : Nat) ≠ (0 : Nat) ∧
                               (2 : Nat) ≠ (0 : Nat) ∧
                                K
                                 (AVal.tup
                                  [AVal.agg
                                    [AVal.int IntKind.i64 (2 : Int),
                                     AVal.byte
                                      (List.getD
                                       (List.drop (26 : Nat)
                                        (ipDecode (List.take (List.length b) (List.drop (0 : Nat) b))).fst.body)
                                       (0 : Nat) (0 : UInt8)),
                                     AVal.byte
                                      (List.getD
                                       (List.drop (26 : Nat)
                                        (ipDecode (List.take (List.length b) (List.drop (0 : Nat) b))).fst.body)
                                       (1 : Nat) (0 : UInt8)),
                                     AVal.byte
                                      (List.getD
                                       (List.drop (26 : Nat)
                                        (ipDecode (List.take (List.length b) (List.drop (0 : Nat) b))).fst.body)
                                       (2 : Nat) (0 : UInt8)),
                                     AVal.byte
                                      (List.getD
                                       (List.drop (26 : Nat)
                                        (ipDecode (List.take (List.length b) (List.drop (0 : Nat) b))).fst.body)
                                       (3 : Nat) (0 : UInt8)),
                                     AVal.byte
                                      (List.getD
                                       (List.drop (26 : Nat)
                                        (ipDecode (List.take (List.length b) (List.drop (0 : Nat) b))).fst.body)
                                       (4 : Nat) (0 : UInt8)),
                                     AVal.byte
                                      (List.getD
                                       (List.drop (26 : Nat)
                                        (ipDecode (List.take (List.length b) (List.drop (0 : Nat) b))).fst.body)
                                       (5 : Nat) (0 : UInt8)),
                                     AVal.str
                                      (List.drop (8 : Nat)
                                       (List.take (24 : Nat)
                                        (ipDecode (List.take (List.length b) (List.drop (0 : Nat) b))).fst.body)),
                                     AVal.str (ipDecode (List.take (List.length b) (List.drop (0 : Nat) b))).fst.dst,
                                     AVal.bool
                                      (decide
                                       (UInt8.ofNat
                                         (UInt8.toNat
                                           (UInt8.ofNat
                                            (UInt8.toNat
                                              (List.getD
                                               (ipDecode (List.take (List.length b) (List.drop (0 : Nat) b))).fst.body
                                               (4 : Nat) (0 : UInt8)) /
                                             (64 : Nat))) %
                                          (2 : Nat)) =
                                        (1 : UInt8)))],
                                   AVal.int IntKind.i64 (0 : Int)])
                                 [])))
                ((0 : Nat) + List.length (ipDecode (List.take (List.length b) (List.drop (0 : Nat) b))).fst.body ≤
                  (4611686018427387904 : Nat) ∧
                 List.length ([] ++ (ipDecode (List.take (List.length b) (List.drop (0 : Nat) b))).fst.body) ≤
                   (140737488355328 : Nat) ∧
                  brP
                   (!decide
                     (sumB
                       (List.take
                        (List.length ([] ++ (ipDecode (List.take (List.length b) (List.drop (0 : Nat) b))).fst.body))
                        (List.drop (0 : Nat)
                         ([] ++ (ipDecode (List.take (List.length b) (List.drop (0 : Nat) b))).fst.body))) =
                      (65535 : Int)))
                   (K
                    (AVal.tup
                     [AVal.agg
                       [AVal.int IntKind.i64 (0 : Int), AVal.byte (0 : UInt8), AVal.byte (0 : UInt8),
                        AVal.byte (0 : UInt8), AVal.byte (0 : UInt8), AVal.byte (0 : UInt8), AVal.byte (0 : UInt8),
                        AVal.str [], AVal.str [], AVal.bool false],
                      AVal.int IntKind.i64 (41 : Int)])
                    [])
                   (brP
                    (decide
                      (List.getD (ipDecode (List.take (List.length b) (List.drop (0 : Nat) b))).fst.body (0 : Nat)
                        (0 : UInt8) =
                       (135 : UInt8)) &&
                     decide
                      (List.getD (ipDecode (List.take (List.length b) (List.drop (0 : Nat) b))).fst.body (24 : Nat)
                        (0 : UInt8) =
                       (1 : UInt8)))
                    (((0 : Int) ≤ (26 : Int) ∧
                      (26 : Int) ≤
                       (↑(List.length (ipDecode (List.take (List.length b) (List.drop (0 : Nat) b))).fst.body) : Int)) ∧
                     ((0 : Int) ≤ (0 : Int) ∧
                       (0 : Int) <
                        (↑(List.length
                           (List.drop (26 : Nat)
                            (ipDecode (List.take (List.length b) (List.drop (0 : Nat) b))).fst.body)) :
                         Int)) ∧
                      ((0 : Int) ≤ (1 : Int) ∧
                        (1 : Int) <
                         (↑(List.length
                            (List.drop (26 : Nat)
                             (ipDecode (List.take (List.length b) (List.drop (0 : Nat) b))).fst.body)) :
                          Int)) ∧
                       ((0 : Int) ≤ (2 : Int) ∧
                         (2 : Int) <
                          (↑(List.length
                             (List.drop (26 : Nat)
                              (ipDecode (List.take (List.length b) (List.drop (0 : Nat) b))).fst.body)) :
                           Int)) ∧
                        ((0 : Int) ≤ (3 : Int) ∧
                          (3 : Int) <
                           (↑(List.length
                              (List.drop (26 : Nat)
                               (ipDecode (List.take (List.length b) (List.drop (0 : Nat) b))).fst.body)) :
                            Int)) ∧
                         ((0 : Int) ≤ (4 : Int) ∧
                           (4 : Int) <
                            (↑(List.length
                               (List.drop (26 : Nat)
                                (ipDecode (List.take (List.length b) (List.drop (0 : Nat) b))).fst.body)) :
                             Int)) ∧
                          ((0 : Int) ≤ (5 : Int) ∧
                            (5 : Int) <
                             (↑(List.length
                                (List.drop (26 : Nat)
                                 (ipDecode (List.take (List.length b) (List.drop (0 : Nat) b))).fst.body)) :
                              Int)) ∧
                           ((0 : Int) ≤ (8 : Int) ∧
                             (8 : Int) ≤ (24 : Int) ∧
                              (24 : Int) ≤
                               (↑(List.length (ipDecode (List.take (List.length b) (List.drop (0 : Nat) b))).fst.body) :
                                Int)) ∧
                            K
                             (AVal.tup
                              [AVal.agg
                                [AVal.int IntKind.i64 (1 : Int),
                                 AVal.byte
                                  (List.getD
                                   (List.drop (26 : Nat)
                                    (ipDecode (List.take (List.length b) (List.drop (0 : Nat) b))).fst.body)
                                   (0 : Nat) (0 : UInt8)),
                                 AVal.byte
                                  (List.getD
                                   (List.drop (26 : Nat)
                                    (ipDecode (List.take (List.length b) (List.drop (0 : Nat) b))).fst.body)
                                   (1 : Nat) (0 : UInt8)),
                                 AVal.byte
                                  (List.getD
                                   (List.drop (26 : Nat)
                                    (ipDecode (List.take (List.length b) (List.drop (0 : Nat) b))).fst.body)
                                   (2 : Nat) (0 : UInt8)),
                                 AVal.byte
                                  (List.getD
                                   (List.drop (26 : Nat)
                                    (ipDecode (List.take (List.length b) (List.drop (0 : Nat) b))).fst.body)
                                   (3 : Nat) (0 : UInt8)),
                                 AVal.byte
                                  (List.getD
                                   (List.drop (26 : Nat)
                                    (ipDecode (List.take (List.length b) (List.drop (0 : Nat) b))).fst.body)
                                   (4 : Nat) (0 : UInt8)),
                                 AVal.byte
                                  (List.getD
                                   (List.drop (26 : Nat)
                                    (ipDecode (List.take (List.length b) (List.drop (0 : Nat) b))).fst.body)
                                   (5 : Nat) (0 : UInt8)),
                                 AVal.str (ipDecode (List.take (List.length b) (List.drop (0 : Nat) b))).fst.src,
                                 AVal.str
                                  (List.drop (8 : Nat)
                                   (List.take (24 : Nat)
                                    (ipDecode (List.take (List.length b) (List.drop (0 : Nat) b))).fst.body)),
                                 AVal.bool false],
                               AVal.int IntKind.i64 (0 : Int)])
                             [])
                    (((0 : Int) ≤ (26 : Int) ∧
                      (26 : Int) ≤
                       (↑(List.length (ipDecode (List.take (List.length b) (List.drop (0 : Nat) b))).fst.body) : Int)) ∧
                     ((0 : Int) ≤ (0 : Int) ∧
                       (0 : Int) <
                        (↑(List.length
                           (List.drop (26 : Nat)
                            (ipDecode (List.take (List.length b) (List.drop (0 : Nat) b))).fst.body)) :
                         Int)) ∧
                      ((0 : Int) ≤ (1 : Int) ∧
                        (1 : Int) <
                         (↑(List.length
                            (List.drop (26 : Nat)
                             (ipDecode (List.take (List.length b) (List.drop (0 : Nat) b))).fst.body)) :
                          Int)) ∧
                       ((0 : Int) ≤ (2 : Int) ∧
                         (2 : Int) <
                          (↑(List.length
                             (List.drop (26 : Nat)
                              (ipDecode (List.take (List.length b) (List.drop (0 : Nat) b))).fst.body)) :
                           Int)) ∧
                        ((0 : Int) ≤ (3 : Int) ∧
                          (3 : Int) <
                           (↑(List.length
                              (List.drop (26 : Nat)
                               (ipDecode (List.take (List.length b) (List.drop (0 : Nat) b))).fst.body)) :
                            Int)) ∧
                         ((0 : Int) ≤ (4 : Int) ∧
                           (4 : Int) <
                            (↑(List.length
                               (List.drop (26 : Nat)
                                (ipDecode (List.take (List.length b) (List.drop (0 : Nat) b))).fst.body)) :
                             Int)) ∧
                          ((0 : Int) ≤ (5 : Int) ∧
                            (5 : Int) <
                             (↑(List.length
                                (List.drop (26 : Nat)
                                 (ipDecode (List.take (List.length b) (List.drop (0 : Nat) b))).fst.body)) :
                              Int)) ∧
                           ((0 : Int) ≤ (8 : Int) ∧
                             (8 : Int) ≤ (24 : Int) ∧
                              (24 : Int) ≤
                               (↑(List.length (ipDecode (List.take (List.length b) (List.drop (0 : Nat) b))).fst.body) :
                                Int)) ∧
                            ((0 : Int) ≤ (4 : Int) ∧
                              (4 : Int) <
                               (↑(List.length (ipDecode (List.take (List.length b) (List.drop (0 : Nat) b))).fst.body) :
                                Int)) ∧
                             (64 : Nat) ≠ (0 : Nat) ∧
                              (2 : Nat) ≠ (0 : Nat) ∧
                               K
                                (AVal.tup
                                 [AVal.agg
                                   [AVal.int IntKind.i64 (2 : Int),
                                    AVal.byte
                                     (List.getD
                                      (List.drop (26 : Nat)
                                       (ipDecode (List.take (List.length b) (List.drop (0 : Nat) b))).fst.body)
                                      (0 : Nat) (0 : UInt8)),
                                    AVal.byte
                                     (List.getD
                                      (List.drop (26 : Nat)
                                       (ipDecode (List.take (List.length b) (List.drop (0 : Nat) b))).fst.body)
                                      (1 : Nat) (0 : UInt8)),
                                    AVal.byte
                                     (List.getD
                                      (List.drop (26 : Nat)
                                       (ipDecode (List.take (List.length b) (List.drop (0 : Nat) b))).fst.body)
                                      (2 : Nat) (0 : UInt8)),
                                    AVal.byte
                                     (List.getD
                                      (List.drop (26 : Nat)
                                       (ipDecode (List.take (List.length b) (List.drop (0 : Nat) b))).fst.body)
                                      (3 : Nat) (0 : UInt8)),
                                    AVal.byte
                                     (List.getD
                                      (List.drop (26 : Nat)
                                       (ipDecode (List.take (List.length b) (List.drop (0 : Nat) b))).fst.body)
                                      (4 : Nat) (0 : UInt8)),
                                    AVal.byte
                                     (List.getD
                                      (List.drop (26 : Nat)
                                       (ipDecode (List.take (List.length b) (List.drop (0 : Nat) b))).fst.body)
                                      (5 : Nat) (0 : UInt8)),
                                    AVal.str
                                     (List.drop (8 : Nat)
                                      (List.take (24 : Nat)
                                       (ipDecode (List.take (List.length b) (List.drop (0 : Nat) b))).fst.body)),
                                    AVal.str (ipDecode (List.take (List.length b) (List.drop (0 : Nat) b))).fst.dst,
                                    AVal.bool
                                     (decide
                                      (UInt8.ofNat
                                        (UInt8.toNat
                                          (UInt8.ofNat
                                           (UInt8.toNat
                                             (List.getD
                                              (ipDecode (List.take (List.length b) (List.drop (0 : Nat) b))).fst.body
                                              (4 : Nat) (0 : UInt8)) /
                                            (64 : Nat))) %
                                         (2 : Nat)) =
                                       (1 : UInt8)))],
                                  AVal.int IntKind.i64 (0 : Int)])
                                [])))))))) := by kernel_rfl
theorem outriderref04_Read_p : ∀ args H K, readRow args H K → fnP Try.prog Tnb17 ann_outriderref04_Read Try.f10 args H K := by
  intro args H K h
  unfold readRow at h
  split at h
  · rename_i a0 a1 a2 a3 a4 a5 b0 b1 b2 b3 b4 b5 ty s
    obtain ⟨hl, hK⟩ := h
    rw [ref04_Read_eq]
    unfold nbRead at hK
    simp only at hK
    simp only [or_w16, div2, div3, add_w16, and255, b8_mod, List.set_cons_zero, List.set_cons_succ, andNot_4000, getD_drop, getD_take, b8_byte, b8_toNatN, UInt8.toNat_ofNat', UInt8.toNat_and, nat_mask4, nat_mask6, nat_240, u8_eq_iff, UInt8.reduceToNat, Int.reduceLT, List.take_succ_cons, List.take_zero, List.drop_zero, List.flatten_cons, List.flatten_nil, List.append_nil, List.nil_append, List.take_length, Nat.mul_one, Nat.zero_add, Nat.reduceAdd, Nat.reduceLT, List.length_drop, List.length_take]
    refine brP_d (fun hty => ?_) (fun hty => ?_)
    · rw [if_pos hty] at hK
      have t8 := fun h => @take8 s h
      have e1 : (1 : UInt8).toNat = 1 := rfl
      have e2 : (2 : UInt8).toNat = 2 := rfl
      rcases nbReadArp_cases s with ⟨k1, e⟩ | ⟨k1, k2, k3, e⟩ <;> rw [e] at hK <;> simp only [ntV, noNt, noMc, mcAt, Nat.reduceAdd] at hK
      · refine brP_d (fun _ => hK) (fun hs => ?_)
        have t8 := t8 (by omega)
        simp only [t8, e1, e2]
        by_cases hst : nbStart s
        · simp only [hst, true_and]
          repeat' first
            | (refine And.intro (by first | first | omega | with_reducible exact i64_x256 _ | with_reducible exact i64_w16 _ _ | with_reducible exact i64_sum _ | (repeat' first | with_reducible exact i64_x256 _ | with_reducible exact i64_w16 _ _ | with_reducible exact i64_sum _ | with_reducible apply And.intro) <;> first | omega | (simp only [I64]; omega) | (simp; omega) | (simp; done) | (simp [I64]; omega) | (with_reducible refine impP_i (fun hg => ?_) <;> (try simp only [Bool.and_eq_true, Bool.or_eq_true, Bool.and_eq_false_iff, Bool.or_eq_false_iff, decide_eq_true_eq, decide_eq_false_iff_not, Bool.not_eq_true', Bool.not_eq_false', Bool.not_true, Bool.not_false, Bool.true_and, Bool.and_true, Bool.false_or, Bool.or_false, beq_iff_eq, beq_eq_false_iff_ne, ne_eq] at hg) <;> (first | omega | with_reducible exact i64_x256 _ | with_reducible exact i64_w16 _ _ | with_reducible exact i64_sum _ | (repeat' first | with_reducible exact i64_x256 _ | with_reducible exact i64_w16 _ _ | with_reducible exact i64_sum _ | with_reducible apply And.intro) <;> first | omega | (simp only [I64]; omega) | (simp; omega) | (simp; done) | (simp [I64]; omega)))) ?_)
            | (refine brP_d (fun h => ?_) (fun h => ?_))
            | (refine optP_i (fun x hx => ?_) (fun hx => ?_) <;> (try have hxl := pseudo_len hx))
            | (refine brP_nd (fun h => ?_) (fun h => ?_))
            | (refine brP_i (fun h => ?_) (fun h => ?_) <;> (try simp only [Bool.and_eq_true, Bool.or_eq_true, Bool.and_eq_false_iff, Bool.or_eq_false_iff, decide_eq_true_eq, decide_eq_false_iff_not, Bool.not_eq_true', Bool.not_eq_false', Bool.not_true, Bool.not_false, Bool.true_and, Bool.and_true, Bool.false_or, Bool.or_false, beq_iff_eq, beq_eq_false_iff_ne, ne_eq] at h))
          all_goals first | exact hK | (exfalso; omega) | (exfalso; rcases k1 with h | h | h <;> first | omega | exact h hst)
        · simp only [hst, false_and, decide_false, brP_t, brP_f, impP_t, impP_f, Bool.true_and, Bool.and_true, Bool.false_and, Bool.and_false, Bool.true_or, Bool.or_true, Bool.false_or, Bool.or_false, Bool.not_true, Bool.not_false, decide_true, decide_false, true_and, and_true]
          repeat' (refine And.intro (by first | first | omega | with_reducible exact i64_x256 _ | with_reducible exact i64_w16 _ _ | with_reducible exact i64_sum _ | (repeat' first | with_reducible exact i64_x256 _ | with_reducible exact i64_w16 _ _ | with_reducible exact i64_sum _ | with_reducible apply And.intro) <;> first | omega | (simp only [I64]; omega) | (simp; omega) | (simp; done) | (simp [I64]; omega) | (with_reducible refine impP_i (fun hg => ?_) <;> (try simp only [Bool.and_eq_true, Bool.or_eq_true, Bool.and_eq_false_iff, Bool.or_eq_false_iff, decide_eq_true_eq, decide_eq_false_iff_not, Bool.not_eq_true', Bool.not_eq_false', Bool.not_true, Bool.not_false, Bool.true_and, Bool.and_true, Bool.false_or, Bool.or_false, beq_iff_eq, beq_eq_false_iff_ne, ne_eq] at hg) <;> (first | omega | with_reducible exact i64_x256 _ | with_reducible exact i64_w16 _ _ | with_reducible exact i64_sum _ | (repeat' first | with_reducible exact i64_x256 _ | with_reducible exact i64_w16 _ _ | with_reducible exact i64_sum _ | with_reducible apply And.intro) <;> first | omega | (simp only [I64]; omega) | (simp; omega) | (simp; done) | (simp [I64]; omega)))) ?_)
          exact hK
      · have t8 := t8 (by omega)
        simp only [t8, e1, e2, k2, true_and]
        repeat' first
          | (refine And.intro (by first | first | omega | with_reducible exact i64_x256 _ | with_reducible exact i64_w16 _ _ | with_reducible exact i64_sum _ | (repeat' first | with_reducible exact i64_x256 _ | with_reducible exact i64_w16 _ _ | with_reducible exact i64_sum _ | with_reducible apply And.intro) <;> first | omega | (simp only [I64]; omega) | (simp; omega) | (simp; done) | (simp [I64]; omega) | (with_reducible refine impP_i (fun hg => ?_) <;> (try simp only [Bool.and_eq_true, Bool.or_eq_true, Bool.and_eq_false_iff, Bool.or_eq_false_iff, decide_eq_true_eq, decide_eq_false_iff_not, Bool.not_eq_true', Bool.not_eq_false', Bool.not_true, Bool.not_false, Bool.true_and, Bool.and_true, Bool.false_or, Bool.or_false, beq_iff_eq, beq_eq_false_iff_ne, ne_eq] at hg) <;> (first | omega | with_reducible exact i64_x256 _ | with_reducible exact i64_w16 _ _ | with_reducible exact i64_sum _ | (repeat' first | with_reducible exact i64_x256 _ | with_reducible exact i64_w16 _ _ | with_reducible exact i64_sum _ | with_reducible apply And.intro) <;> first | omega | (simp only [I64]; omega) | (simp; omega) | (simp; done) | (simp [I64]; omega)))) ?_)
          | (refine brP_d (fun h => ?_) (fun h => ?_))
          | (refine optP_i (fun x hx => ?_) (fun hx => ?_) <;> (try have hxl := pseudo_len hx))
          | (refine brP_nd (fun h => ?_) (fun h => ?_))
          | (refine brP_i (fun h => ?_) (fun h => ?_) <;> (try simp only [Bool.and_eq_true, Bool.or_eq_true, Bool.and_eq_false_iff, Bool.or_eq_false_iff, decide_eq_true_eq, decide_eq_false_iff_not, Bool.not_eq_true', Bool.not_eq_false', Bool.not_true, Bool.not_false, Bool.true_and, Bool.and_true, Bool.false_or, Bool.or_false, beq_iff_eq, beq_eq_false_iff_ne, ne_eq] at h))
        all_goals first | exact hK | (exfalso; omega) | (exact absurd trivial h)
    rw [if_neg hty] at hK
    refine brP_nd (fun h => ?_) (fun h => ?_)
    · rw [if_neg h] at hK; exact hK
    rw [if_pos h] at hK
    unfold nbReadNd at hK
    generalize ipDecode s = D at hK ⊢
    obtain ⟨⟨f, t, p, q, b⟩, e⟩ := D
    simp only at hK ⊢
    refine ⟨by omega, by omega, ?_⟩
    by_cases hbad : e ≠ 0 ∨ f.length ≠ 16 ∨ p ≠ 58 ∨ q ≠ 255 ∨ b.length ≠ 32
    · rw [if_pos hbad] at hK
      simp only [ntV, noNt, noMc] at hK
      refine brP_i (fun _ => hK) (fun h => ?_)
      simp only [Bool.and_eq_true, Bool.or_eq_true, Bool.and_eq_false_iff, Bool.or_eq_false_iff, decide_eq_true_eq, decide_eq_false_iff_not, Bool.not_eq_true', Bool.not_eq_false', Bool.not_true, Bool.not_false, Bool.true_and, Bool.and_true, Bool.false_or, Bool.or_false, beq_iff_eq, beq_eq_false_iff_ne, ne_eq] at h
      exfalso; omega
    · rw [if_neg hbad] at hK
      refine brP_i (fun h => ?_) (fun _ => ?_)
      · simp only [Bool.and_eq_true, Bool.or_eq_true, Bool.and_eq_false_iff, Bool.or_eq_false_iff, decide_eq_true_eq, decide_eq_false_iff_not, Bool.not_eq_true', Bool.not_eq_false', Bool.not_true, Bool.not_false, Bool.true_and, Bool.and_true, Bool.false_or, Bool.or_false, beq_iff_eq, beq_eq_false_iff_ne, ne_eq] at h
        exfalso; omega
      obtain ⟨rfl, hf, rfl, rfl, hb⟩ : e = 0 ∧ f.length = 16 ∧ p = 58 ∧ q = 255 ∧ b.length = 32 := by omega
      simp only [hb, hf] at hK ⊢
      unfold nbReadP nbAsks nbTells pseudoL at hK
      simp only [ntV, mcAt, Nat.reduceAdd, Bool.and_eq_true, Bool.or_eq_true, Bool.and_eq_false_iff, Bool.or_eq_false_iff, decide_eq_true_eq, decide_eq_false_iff_not, Bool.not_eq_true', Bool.not_eq_false', Bool.not_true, Bool.not_false, Bool.true_and, Bool.and_true, Bool.false_or, Bool.or_false, beq_iff_eq, beq_eq_false_iff_ne, ne_eq] at hK
      have x0 := (b.getD 0 0).toNat_lt
      have x4 : decide ((b.getD 4 0).toNat / 64 % 2 ^ 8 % 2 % 2 ^ 8 = 1) = decide ((b.getD 4 0).toNat / 64 % 2 = 1) := by
        have x4 := (b.getD 4 0).toNat_lt
        rw [decide_eq_decide]; omega
      simp only [x4]
      cases hps : pseudo f t 58 32 with
      | none =>
        simp only [hps, Option.getD_none, List.nil_append] at hK
        simp only [show (((32 : Nat) : Int)) = 32 from rfl, hps, optP_n]
        repeat' first
          | (refine And.intro (by first | first | omega | with_reducible exact i64_x256 _ | with_reducible exact i64_w16 _ _ | with_reducible exact i64_sum _ | (repeat' first | with_reducible exact i64_x256 _ | with_reducible exact i64_w16 _ _ | with_reducible exact i64_sum _ | with_reducible apply And.intro) <;> first | omega | (simp only [I64]; omega) | (simp; omega) | (simp; done) | (simp [I64]; omega) | (with_reducible refine impP_i (fun hg => ?_) <;> (try simp only [Bool.and_eq_true, Bool.or_eq_true, Bool.and_eq_false_iff, Bool.or_eq_false_iff, decide_eq_true_eq, decide_eq_false_iff_not, Bool.not_eq_true', Bool.not_eq_false', Bool.not_true, Bool.not_false, Bool.true_and, Bool.and_true, Bool.false_or, Bool.or_false, beq_iff_eq, beq_eq_false_iff_ne, ne_eq] at hg) <;> (first | omega | with_reducible exact i64_x256 _ | with_reducible exact i64_w16 _ _ | with_reducible exact i64_sum _ | (repeat' first | with_reducible exact i64_x256 _ | with_reducible exact i64_w16 _ _ | with_reducible exact i64_sum _ | with_reducible apply And.intro) <;> first | omega | (simp only [I64]; omega) | (simp; omega) | (simp; done) | (simp [I64]; omega)))) ?_)
          | (refine brP_d (fun h => ?_) (fun h => ?_))
          | (refine optP_i (fun x hx => ?_) (fun hx => ?_) <;> (try have hxl := pseudo_len hx))
          | (refine brP_nd (fun h => ?_) (fun h => ?_))
          | (refine brP_i (fun h => ?_) (fun h => ?_) <;> (try simp only [Bool.and_eq_true, Bool.or_eq_true, Bool.and_eq_false_iff, Bool.or_eq_false_iff, decide_eq_true_eq, decide_eq_false_iff_not, Bool.not_eq_true', Bool.not_eq_false', Bool.not_true, Bool.not_false, Bool.true_and, Bool.and_true, Bool.false_or, Bool.or_false, beq_iff_eq, beq_eq_false_iff_ne, ne_eq] at h))
        all_goals repeat' split at hK
        all_goals first
          | exact hK
          | (exfalso; omega)
          | trace_state
      | some l =>
        have hl := pseudo_len hps
        simp only [hps, Option.getD_some] at hK
        simp only [show (((32 : Nat) : Int)) = 32 from rfl, hps, optP_s, List.length_append, hb]
        repeat' first
          | (refine And.intro (by first | first | omega | with_reducible exact i64_x256 _ | with_reducible exact i64_w16 _ _ | with_reducible exact i64_sum _ | (repeat' first | with_reducible exact i64_x256 _ | with_reducible exact i64_w16 _ _ | with_reducible exact i64_sum _ | with_reducible apply And.intro) <;> first | omega | (simp only [I64]; omega) | (simp; omega) | (simp; done) | (simp [I64]; omega) | (with_reducible refine impP_i (fun hg => ?_) <;> (try simp only [Bool.and_eq_true, Bool.or_eq_true, Bool.and_eq_false_iff, Bool.or_eq_false_iff, decide_eq_true_eq, decide_eq_false_iff_not, Bool.not_eq_true', Bool.not_eq_false', Bool.not_true, Bool.not_false, Bool.true_and, Bool.and_true, Bool.false_or, Bool.or_false, beq_iff_eq, beq_eq_false_iff_ne, ne_eq] at hg) <;> (first | omega | with_reducible exact i64_x256 _ | with_reducible exact i64_w16 _ _ | with_reducible exact i64_sum _ | (repeat' first | with_reducible exact i64_x256 _ | with_reducible exact i64_w16 _ _ | with_reducible exact i64_sum _ | with_reducible apply And.intro) <;> first | omega | (simp only [I64]; omega) | (simp; omega) | (simp; done) | (simp [I64]; omega)))) ?_)
          | (refine brP_d (fun h => ?_) (fun h => ?_))
          | (refine optP_i (fun x hx => ?_) (fun hx => ?_) <;> (try have hxl := pseudo_len hx))
          | (refine brP_nd (fun h => ?_) (fun h => ?_))
          | (refine brP_i (fun h => ?_) (fun h => ?_) <;> (try simp only [Bool.and_eq_true, Bool.or_eq_true, Bool.and_eq_false_iff, Bool.or_eq_false_iff, decide_eq_true_eq, decide_eq_false_iff_not, Bool.not_eq_true', Bool.not_eq_false', Bool.not_true, Bool.not_false, Bool.true_and, Bool.and_true, Bool.false_or, Bool.or_false, beq_iff_eq, beq_eq_false_iff_ne, ne_eq] at h))
        all_goals repeat' split at hK
        all_goals first
          | exact hK
          | (exfalso; omega)
          | trace_state
  · exact h.elim
def Tnb18 : Specs := ext Tnb17 10 (readRow)
theorem Tnb18_sound : TSound Try.prog Tnb18 := ext_sound Tnb17_sound (row_of Tnb17_sound mixed Try.func10 (by decide +kernel) outriderref04_Read_p)
def ann_neigh_Ask : Nat → List Nat × Nat × List (List Nat)
  | 5 => ([], 11, [[], [0], [], [], [], [], [5], [4, 5, 6], [0, 1, 2, 3, 4, 5, 6, 7], [0, 1, 2, 3, 4, 5, 6, 7, 8], [0, 1, 2, 3, 4, 5, 6, 7, 8]])
  | 6 => ([], 8, [[], [], [], [], [], [0, 1, 2, 3, 4], [0, 1, 2, 3, 4, 5], [0, 1, 2, 3, 4, 5]])
  | _ => ([], 0, [])
set_option maxRecDepth 100000 in
theorem neigh_Ask_eq (m0 m1 m2 m3 m4 m5 : UInt8) (a b : List UInt8) (K : AVal → Hp → Prop) : fnP Try.prog Tnb18 ann_neigh_Ask Try.f16 [.agg [.byte m0, .byte m1, .byte m2, .byte m3, .byte m4, .byte m5], .str a, .str b] [] K = (
  brP (decide ((↑(List.length a) : Int) = (4 : Int)))
    (brP (!decide ((↑(List.length a) : Int) = (↑(List.length b) : Int)))
     (K (AVal.tup [AVal.nilS, AVal.int IntKind.i64 (1 : Int)]) [])
     (brP (decide ((↑(List.length a) : Int) = (16 : Int)))
      (List.length b = (16 : Nat) ∧
       optP
        (nbNd (135 : UInt8) (0 : UInt8) (1 : UInt8) b (Mc.mk m0 m1 m2 m3 m4 m5)
         (Mc.mk (etMany (nbNear b)).fst.a0 (etMany (nbNear b)).fst.a1 (etMany (nbNear b)).fst.a2
          (etMany (nbNear b)).fst.a3 (etMany (nbNear b)).fst.a4 (etMany (nbNear b)).fst.a5)
         a (nbNear b))
        (fun x =>
         K (AVal.tup [AVal.sl (0 : Nat) (0 : Nat) (List.length x) (1 : Nat), AVal.int IntKind.i64 (0 : Int)])
          [ABlk.bytes x])
        (K (AVal.tup [AVal.nilS, AVal.int IntKind.i64 (1 : Int)]) []))
      ((List.length a = (4 : Nat) ∧ List.length b = (4 : Nat)) ∧
       optP
        (nbArp (1 : UInt8) (Mc.mk (255 : UInt8) (255 : UInt8) (255 : UInt8) (255 : UInt8) (255 : UInt8) (255 : UInt8))
         (Mc.mk m0 m1 m2 m3 m4 m5) a (Mc.mk (0 : UInt8) (0 : UInt8) (0 : UInt8) (0 : UInt8) (0 : UInt8) (0 : UInt8)) b)
        (fun x =>
         K (AVal.tup [AVal.sl (0 : Nat) (0 : Nat) (List.length x) (1 : Nat), AVal.int IntKind.i64 (0 : Int)])
          [ABlk.bytes x])
        (K (AVal.tup [AVal.nilS, AVal.int IntKind.i64 (1 : Int)]) []))))
    (brP (!decide ((↑(List.length a) : Int) = (16 : Int))) (K (AVal.tup [AVal.nilS, AVal.int IntKind.i64 (1 : Int)]) [])
     (brP (!decide ((↑(List.length a) : Int) = (↑(List.length b) : Int)))
      (K (AVal.tup [AVal.nilS, AVal.int IntKind.i64 (1 : Int)]) [])
      (brP (decide ((↑(List.length a) : Int) = (16 : Int)))
       (List.length b = (16 : Nat) ∧
        optP
         (nbNd (135 : UInt8) (0 : UInt8) (1 : UInt8) b (Mc.mk m0 m1 m2 m3 m4 m5)
          (Mc.mk (etMany (nbNear b)).fst.a0 (etMany (nbNear b)).fst.a1 (etMany (nbNear b)).fst.a2
           (etMany (nbNear b)).fst.a3 (etMany (nbNear b)).fst.a4 (etMany (nbNear b)).fst.a5)
          a (nbNear b))
         (fun x =>
          K (AVal.tup [AVal.sl (0 : Nat) (0 : Nat) (List.length x) (1 : Nat), AVal.int IntKind.i64 (0 : Int)])
           [ABlk.bytes x])
         (K (AVal.tup [AVal.nilS, AVal.int IntKind.i64 (1 : Int)]) []))
       ((List.length a = (4 : Nat) ∧ List.length b = (4 : Nat)) ∧
        optP
         (nbArp (1 : UInt8) (Mc.mk (255 : UInt8) (255 : UInt8) (255 : UInt8) (255 : UInt8) (255 : UInt8) (255 : UInt8))
          (Mc.mk m0 m1 m2 m3 m4 m5) a (Mc.mk (0 : UInt8) (0 : UInt8) (0 : UInt8) (0 : UInt8) (0 : UInt8) (0 : UInt8)) b)
         (fun x =>
          K (AVal.tup [AVal.sl (0 : Nat) (0 : Nat) (List.length x) (1 : Nat), AVal.int IntKind.i64 (0 : Int)])
           [ABlk.bytes x])
         (K (AVal.tup [AVal.nilS, AVal.int IntKind.i64 (1 : Int)]) [])))))) := by kernel_rfl
theorem neigh_Ask_p : ∀ args H K, askRow args H K → fnP Try.prog Tnb18 ann_neigh_Ask Try.f16 args H K := by
  intro args H K h
  unfold askRow at h
  split at h
  · rename_i m0 m1 m2 m3 m4 m5 a b
    rw [neigh_Ask_eq]
    revert h; intro hK
    rcases nbAsk_cases ⟨m0, m1, m2, m3, m4, m5⟩ a b with ⟨h1, e⟩ | ⟨h1, e⟩ | ⟨h1, e⟩ <;> rw [e] at hK
    all_goals (repeat' first | (refine And.intro (by first | first | omega | with_reducible exact i64_x256 _ | with_reducible exact i64_w16 _ _ | with_reducible exact i64_sum _ | (repeat' first | with_reducible exact i64_x256 _ | with_reducible exact i64_w16 _ _ | with_reducible exact i64_sum _ | with_reducible apply And.intro) <;> first | omega | (simp only [I64]; omega) | (simp; omega) | (simp; done) | (simp [I64]; omega) | (with_reducible refine impP_i (fun hg => ?_) <;> (try simp only [Bool.and_eq_true, Bool.or_eq_true, Bool.and_eq_false_iff, Bool.or_eq_false_iff, decide_eq_true_eq, decide_eq_false_iff_not, Bool.not_eq_true', Bool.not_eq_false', Bool.not_true, Bool.not_false, Bool.true_and, Bool.and_true, Bool.false_or, Bool.or_false, beq_iff_eq, beq_eq_false_iff_ne, ne_eq] at hg) <;> (first | omega | with_reducible exact i64_x256 _ | with_reducible exact i64_w16 _ _ | with_reducible exact i64_sum _ | (repeat' first | with_reducible exact i64_x256 _ | with_reducible exact i64_w16 _ _ | with_reducible exact i64_sum _ | with_reducible apply And.intro) <;> first | omega | (simp only [I64]; omega) | (simp; omega) | (simp; done) | (simp [I64]; omega)))) ?_) | (refine brP_d (fun h => ?_) (fun h => ?_)) | (refine brP_nd (fun h => ?_) (fun h => ?_)) | (refine brP_i (fun h => ?_) (fun h => ?_) <;> (try simp only [Bool.and_eq_true, Bool.or_eq_true, Bool.and_eq_false_iff, Bool.or_eq_false_iff, decide_eq_true_eq, decide_eq_false_iff_not, Bool.not_eq_true', Bool.not_eq_false', Bool.not_true, Bool.not_false, Bool.true_and, Bool.and_true, Bool.false_or, Bool.or_false, beq_iff_eq, beq_eq_false_iff_ne, ne_eq] at h)))
    all_goals first | exact hK | (exfalso; omega)
  · exact h.elim
def Tnb19 : Specs := ext Tnb18 16 (askRow)
theorem Tnb19_sound : TSound Try.prog Tnb19 := ext_sound Tnb18_sound (row_of Tnb18_sound mixed Try.func16 (by decide +kernel) neigh_Ask_p)
def ann_neigh_Tell : Nat → List Nat × Nat × List (List Nat)
  | _ => ([], 0, [])
set_option maxRecDepth 100000 in
theorem neigh_Tell_eq (m0 m1 m2 m3 m4 m5 : UInt8) (a : List UInt8) (t0 t1 t2 t3 t4 t5 : UInt8) (b : List UInt8) (K : AVal → Hp → Prop) : fnP Try.prog Tnb19 ann_neigh_Tell Try.f12 [.agg [.byte m0, .byte m1, .byte m2, .byte m3, .byte m4, .byte m5], .str a, .agg [.byte t0, .byte t1, .byte t2, .byte t3, .byte t4, .byte t5], .str b] [] K = (
  brP (decide ((↑(List.length a) : Int) = (4 : Int)))
    (brP (!decide ((↑(List.length a) : Int) = (↑(List.length b) : Int)))
     (K (AVal.tup [AVal.nilS, AVal.int IntKind.i64 (1 : Int)]) [])
     (brP (decide ((↑(List.length a) : Int) = (16 : Int)))
      (List.length a = (16 : Nat) ∧
       optP (nbNd (136 : UInt8) (96 : UInt8) (2 : UInt8) a (Mc.mk m0 m1 m2 m3 m4 m5) (Mc.mk t0 t1 t2 t3 t4 t5) a b)
        (fun x =>
         K (AVal.tup [AVal.sl (0 : Nat) (0 : Nat) (List.length x) (1 : Nat), AVal.int IntKind.i64 (0 : Int)])
          [ABlk.bytes x])
        (K (AVal.tup [AVal.nilS, AVal.int IntKind.i64 (1 : Int)]) []))
      ((List.length a = (4 : Nat) ∧ List.length b = (4 : Nat)) ∧
       optP (nbArp (2 : UInt8) (Mc.mk t0 t1 t2 t3 t4 t5) (Mc.mk m0 m1 m2 m3 m4 m5) a (Mc.mk t0 t1 t2 t3 t4 t5) b)
        (fun x =>
         K (AVal.tup [AVal.sl (0 : Nat) (0 : Nat) (List.length x) (1 : Nat), AVal.int IntKind.i64 (0 : Int)])
          [ABlk.bytes x])
        (K (AVal.tup [AVal.nilS, AVal.int IntKind.i64 (1 : Int)]) []))))
    (brP (!decide ((↑(List.length a) : Int) = (16 : Int))) (K (AVal.tup [AVal.nilS, AVal.int IntKind.i64 (1 : Int)]) [])
     (brP (!decide ((↑(List.length a) : Int) = (↑(List.length b) : Int)))
      (K (AVal.tup [AVal.nilS, AVal.int IntKind.i64 (1 : Int)]) [])
      (brP (decide ((↑(List.length a) : Int) = (16 : Int)))
       (List.length a = (16 : Nat) ∧
        optP (nbNd (136 : UInt8) (96 : UInt8) (2 : UInt8) a (Mc.mk m0 m1 m2 m3 m4 m5) (Mc.mk t0 t1 t2 t3 t4 t5) a b)
         (fun x =>
          K (AVal.tup [AVal.sl (0 : Nat) (0 : Nat) (List.length x) (1 : Nat), AVal.int IntKind.i64 (0 : Int)])
           [ABlk.bytes x])
         (K (AVal.tup [AVal.nilS, AVal.int IntKind.i64 (1 : Int)]) []))
       ((List.length a = (4 : Nat) ∧ List.length b = (4 : Nat)) ∧
        optP (nbArp (2 : UInt8) (Mc.mk t0 t1 t2 t3 t4 t5) (Mc.mk m0 m1 m2 m3 m4 m5) a (Mc.mk t0 t1 t2 t3 t4 t5) b)
         (fun x =>
          K (AVal.tup [AVal.sl (0 : Nat) (0 : Nat) (List.length x) (1 : Nat), AVal.int IntKind.i64 (0 : Int)])
           [ABlk.bytes x])
         (K (AVal.tup [AVal.nilS, AVal.int IntKind.i64 (1 : Int)]) [])))))) := by kernel_rfl
theorem neigh_Tell_p : ∀ args H K, tellRow args H K → fnP Try.prog Tnb19 ann_neigh_Tell Try.f12 args H K := by
  intro args H K h
  unfold tellRow at h
  split at h
  · rename_i m0 m1 m2 m3 m4 m5 a t0 t1 t2 t3 t4 t5 b
    rw [neigh_Tell_eq]
    revert h; intro hK
    rcases nbTell_cases ⟨m0, m1, m2, m3, m4, m5⟩ a ⟨t0, t1, t2, t3, t4, t5⟩ b with ⟨h1, e⟩ | ⟨h1, e⟩ | ⟨h1, e⟩ <;> rw [e] at hK
    all_goals (repeat' first | (refine And.intro (by first | first | omega | with_reducible exact i64_x256 _ | with_reducible exact i64_w16 _ _ | with_reducible exact i64_sum _ | (repeat' first | with_reducible exact i64_x256 _ | with_reducible exact i64_w16 _ _ | with_reducible exact i64_sum _ | with_reducible apply And.intro) <;> first | omega | (simp only [I64]; omega) | (simp; omega) | (simp; done) | (simp [I64]; omega) | (with_reducible refine impP_i (fun hg => ?_) <;> (try simp only [Bool.and_eq_true, Bool.or_eq_true, Bool.and_eq_false_iff, Bool.or_eq_false_iff, decide_eq_true_eq, decide_eq_false_iff_not, Bool.not_eq_true', Bool.not_eq_false', Bool.not_true, Bool.not_false, Bool.true_and, Bool.and_true, Bool.false_or, Bool.or_false, beq_iff_eq, beq_eq_false_iff_ne, ne_eq] at hg) <;> (first | omega | with_reducible exact i64_x256 _ | with_reducible exact i64_w16 _ _ | with_reducible exact i64_sum _ | (repeat' first | with_reducible exact i64_x256 _ | with_reducible exact i64_w16 _ _ | with_reducible exact i64_sum _ | with_reducible apply And.intro) <;> first | omega | (simp only [I64]; omega) | (simp; omega) | (simp; done) | (simp [I64]; omega)))) ?_) | (refine brP_d (fun h => ?_) (fun h => ?_)) | (refine brP_nd (fun h => ?_) (fun h => ?_)) | (refine brP_i (fun h => ?_) (fun h => ?_) <;> (try simp only [Bool.and_eq_true, Bool.or_eq_true, Bool.and_eq_false_iff, Bool.or_eq_false_iff, decide_eq_true_eq, decide_eq_false_iff_not, Bool.not_eq_true', Bool.not_eq_false', Bool.not_true, Bool.not_false, Bool.true_and, Bool.and_true, Bool.false_or, Bool.or_false, beq_iff_eq, beq_eq_false_iff_ne, ne_eq] at h)))
    all_goals first | exact hK | (exfalso; omega)
  · exact h.elim
def Tnb20 : Specs := ext Tnb19 12 (tellRow)
theorem Tnb20_sound : TSound Try.prog Tnb20 := ext_sound Tnb19_sound (row_of Tnb19_sound mixed Try.func12 (by decide +kernel) neigh_Tell_p)
def ann_neigh_Claim : Nat → List Nat × Nat × List (List Nat)
  | 5 => ([], 10, [[], [0], [], [], [], [], [4, 5], [0, 1, 2, 3, 4, 5, 6], [0, 1, 2, 3, 4, 5, 6, 7], [0, 1, 2, 3, 4, 5, 6, 7]])
  | 6 => ([], 8, [[], [], [], [], [], [0, 1, 2, 3, 4], [0, 1, 2, 3, 4, 5], [0, 1, 2, 3, 4, 5]])
  | _ => ([], 0, [])
set_option maxRecDepth 100000 in
theorem neigh_Claim_eq (m0 m1 m2 m3 m4 m5 : UInt8) (a : List UInt8) (K : AVal → Hp → Prop) : fnP Try.prog Tnb20 ann_neigh_Claim Try.f20 [.agg [.byte m0, .byte m1, .byte m2, .byte m3, .byte m4, .byte m5], .str a] [] K = (
  brP (decide ((↑(List.length a) : Int) = (4 : Int)))
    (brP (decide ((↑(List.length a) : Int) = (16 : Int)))
     (List.length a = (16 : Nat) ∧
      optP
       (nbNd (136 : UInt8) (32 : UInt8) (2 : UInt8) a (Mc.mk m0 m1 m2 m3 m4 m5)
        (Mc.mk (51 : UInt8) (51 : UInt8) (0 : UInt8) (0 : UInt8) (0 : UInt8) (1 : UInt8)) a
        [(255 : UInt8), (2 : UInt8), (0 : UInt8), (0 : UInt8), (0 : UInt8), (0 : UInt8), (0 : UInt8), (0 : UInt8),
         (0 : UInt8), (0 : UInt8), (0 : UInt8), (0 : UInt8), (0 : UInt8), (0 : UInt8), (0 : UInt8), (1 : UInt8)])
       (fun x =>
        K (AVal.tup [AVal.sl (0 : Nat) (0 : Nat) (List.length x) (1 : Nat), AVal.int IntKind.i64 (0 : Int)])
         [ABlk.bytes x])
       (K (AVal.tup [AVal.nilS, AVal.int IntKind.i64 (1 : Int)]) []))
     ((List.length a = (4 : Nat) ∧ List.length a = (4 : Nat)) ∧
      optP
       (nbArp (1 : UInt8) (Mc.mk (255 : UInt8) (255 : UInt8) (255 : UInt8) (255 : UInt8) (255 : UInt8) (255 : UInt8))
        (Mc.mk m0 m1 m2 m3 m4 m5) a (Mc.mk (0 : UInt8) (0 : UInt8) (0 : UInt8) (0 : UInt8) (0 : UInt8) (0 : UInt8)) a)
       (fun x =>
        K (AVal.tup [AVal.sl (0 : Nat) (0 : Nat) (List.length x) (1 : Nat), AVal.int IntKind.i64 (0 : Int)])
         [ABlk.bytes x])
       (K (AVal.tup [AVal.nilS, AVal.int IntKind.i64 (1 : Int)]) [])))
    (brP (!decide ((↑(List.length a) : Int) = (16 : Int))) (K (AVal.tup [AVal.nilS, AVal.int IntKind.i64 (1 : Int)]) [])
     (brP (decide ((↑(List.length a) : Int) = (16 : Int)))
      (List.length a = (16 : Nat) ∧
       optP
        (nbNd (136 : UInt8) (32 : UInt8) (2 : UInt8) a (Mc.mk m0 m1 m2 m3 m4 m5)
         (Mc.mk (51 : UInt8) (51 : UInt8) (0 : UInt8) (0 : UInt8) (0 : UInt8) (1 : UInt8)) a
         [(255 : UInt8), (2 : UInt8), (0 : UInt8), (0 : UInt8), (0 : UInt8), (0 : UInt8), (0 : UInt8), (0 : UInt8),
          (0 : UInt8), (0 : UInt8), (0 : UInt8), (0 : UInt8), (0 : UInt8), (0 : UInt8), (0 : UInt8), (1 : UInt8)])
        (fun x =>
         K (AVal.tup [AVal.sl (0 : Nat) (0 : Nat) (List.length x) (1 : Nat), AVal.int IntKind.i64 (0 : Int)])
          [ABlk.bytes x])
        (K (AVal.tup [AVal.nilS, AVal.int IntKind.i64 (1 : Int)]) []))
      ((List.length a = (4 : Nat) ∧ List.length a = (4 : Nat)) ∧
       optP
        (nbArp (1 : UInt8) (Mc.mk (255 : UInt8) (255 : UInt8) (255 : UInt8) (255 : UInt8) (255 : UInt8) (255 : UInt8))
         (Mc.mk m0 m1 m2 m3 m4 m5) a (Mc.mk (0 : UInt8) (0 : UInt8) (0 : UInt8) (0 : UInt8) (0 : UInt8) (0 : UInt8)) a)
        (fun x =>
         K (AVal.tup [AVal.sl (0 : Nat) (0 : Nat) (List.length x) (1 : Nat), AVal.int IntKind.i64 (0 : Int)])
          [ABlk.bytes x])
        (K (AVal.tup [AVal.nilS, AVal.int IntKind.i64 (1 : Int)]) []))))) := by kernel_rfl
theorem neigh_Claim_p : ∀ args H K, claimRow args H K → fnP Try.prog Tnb20 ann_neigh_Claim Try.f20 args H K := by
  intro args H K h
  unfold claimRow at h
  split at h
  · rename_i m0 m1 m2 m3 m4 m5 a
    rw [neigh_Claim_eq]
    revert h; intro hK
    rcases nbClaim_cases ⟨m0, m1, m2, m3, m4, m5⟩ a with ⟨h1, e⟩ | ⟨h1, e⟩ | ⟨h1, e⟩ <;> rw [e] at hK
    all_goals (repeat' first | (refine And.intro (by first | first | omega | with_reducible exact i64_x256 _ | with_reducible exact i64_w16 _ _ | with_reducible exact i64_sum _ | (repeat' first | with_reducible exact i64_x256 _ | with_reducible exact i64_w16 _ _ | with_reducible exact i64_sum _ | with_reducible apply And.intro) <;> first | omega | (simp only [I64]; omega) | (simp; omega) | (simp; done) | (simp [I64]; omega) | (with_reducible refine impP_i (fun hg => ?_) <;> (try simp only [Bool.and_eq_true, Bool.or_eq_true, Bool.and_eq_false_iff, Bool.or_eq_false_iff, decide_eq_true_eq, decide_eq_false_iff_not, Bool.not_eq_true', Bool.not_eq_false', Bool.not_true, Bool.not_false, Bool.true_and, Bool.and_true, Bool.false_or, Bool.or_false, beq_iff_eq, beq_eq_false_iff_ne, ne_eq] at hg) <;> (first | omega | with_reducible exact i64_x256 _ | with_reducible exact i64_w16 _ _ | with_reducible exact i64_sum _ | (repeat' first | with_reducible exact i64_x256 _ | with_reducible exact i64_w16 _ _ | with_reducible exact i64_sum _ | with_reducible apply And.intro) <;> first | omega | (simp only [I64]; omega) | (simp; omega) | (simp; done) | (simp [I64]; omega)))) ?_) | (refine brP_d (fun h => ?_) (fun h => ?_)) | (refine brP_nd (fun h => ?_) (fun h => ?_)) | (refine brP_i (fun h => ?_) (fun h => ?_) <;> (try simp only [Bool.and_eq_true, Bool.or_eq_true, Bool.and_eq_false_iff, Bool.or_eq_false_iff, decide_eq_true_eq, decide_eq_false_iff_not, Bool.not_eq_true', Bool.not_eq_false', Bool.not_true, Bool.not_false, Bool.true_and, Bool.and_true, Bool.false_or, Bool.or_false, beq_iff_eq, beq_eq_false_iff_ne, ne_eq] at h)))
    all_goals first | exact hK | (exfalso; omega)
  · exact h.elim
def Tnb21 : Specs := ext Tnb20 20 (claimRow)
theorem Tnb21_sound : TSound Try.prog Tnb21 := ext_sound Tnb20_sound (row_of Tnb20_sound mixed Try.func20 (by decide +kernel) neigh_Claim_p)
def ann_outriderref04_Ask : Nat → List Nat × Nat × List (List Nat)
  | 5 => ([], 13, [[], [], [], [0, 2], [], [0, 2, 3, 4], [], [6], [0, 2, 3, 4, 5, 6, 7], [0, 1, 2, 3, 4, 5, 6, 7, 8], [0, 1, 2, 3, 4, 5, 6, 7, 8, 9], [0, 1, 2, 3, 4, 5, 6, 7, 8, 9, 10], [0, 1, 2, 3, 4, 5, 6, 7, 8, 9, 10]])
  | 6 => ([], 8, [[], [0], [], [2], [], [4], [0, 1, 2, 3, 4, 5], []])
  | 7 => ([], 15, [[], [], [], [], [3], [2, 3, 4], [], [6], [6, 7], [], [3, 4, 9], [3, 4, 6, 7, 8, 9, 10], [0, 1, 2, 3, 4, 5, 6, 7, 8, 9, 10, 11], [0, 1, 2, 3, 4, 5, 6, 7, 8, 9, 10, 11, 12], [0, 1, 2, 3, 4, 5, 6, 7, 8, 9, 10, 11, 12]])
  | _ => ([], 0, [])
set_option maxRecDepth 100000 in
theorem ref04_Ask_eq (m0 m1 m2 m3 m4 m5 : UInt8) (a b : List UInt8) (K : AVal → Hp → Prop) : fnP Try.prog Tnb21 ann_outriderref04_Ask Try.f18 [.agg [.byte m0, .byte m1, .byte m2, .byte m3, .byte m4, .byte m5], .str a, .str b] [] K = (
  brP (decide ((↑(List.length a) : Int) = (↑(List.length b) : Int)))
    (brP (decide ((↑(List.length a) : Int) = (4 : Int)))
     (brP (decide ((↑(List.length a) : Int) = (0 : Int))) (K (AVal.tup [AVal.nilS, AVal.int IntKind.i64 (1 : Int)]) [])
      (brP (decide ((↑(List.length a) : Int) = (4 : Int)))
       ((6 : Nat) + List.length a ≤ (4611686018427387904 : Nat) ∧
        (6 : Nat) + List.length b ≤ (4611686018427387904 : Nat) ∧
         (8 : Nat) ≤ (4611686018427387904 : Nat) ∧
          (8 : Nat) + List.length ([m0, m1, m2, m3, m4, m5] ++ a) ≤ (4611686018427387904 : Nat) ∧
           List.length
               ([(0 : UInt8), (1 : UInt8), (8 : UInt8), (0 : UInt8), (6 : UInt8), (4 : UInt8), (0 : UInt8),
                 (1 : UInt8)] ++
                ([m0, m1, m2, m3, m4, m5] ++ a)) +
              List.length ([(0 : UInt8), (0 : UInt8), (0 : UInt8), (0 : UInt8), (0 : UInt8), (0 : UInt8)] ++ b) ≤
             (4611686018427387904 : Nat) ∧
            List.length
               ([(0 : UInt8), (1 : UInt8), (8 : UInt8), (0 : UInt8), (6 : UInt8), (4 : UInt8), (0 : UInt8),
                  (1 : UInt8)] ++
                 ([m0, m1, m2, m3, m4, m5] ++ a) ++
                ([(0 : UInt8), (0 : UInt8), (0 : UInt8), (0 : UInt8), (0 : UInt8), (0 : UInt8)] ++ b)) ≤
              (140737488351232 : Nat) ∧
             optP
              (etEncode
               (Fm.mk (Mc.mk (255 : UInt8) (255 : UInt8) (255 : UInt8) (255 : UInt8) (255 : UInt8) (255 : UInt8))
                (Mc.mk m0 m1 m2 m3 m4 m5) (2054 : Int)
                ([(0 : UInt8), (1 : UInt8), (8 : UInt8), (0 : UInt8), (6 : UInt8), (4 : UInt8), (0 : UInt8),
                   (1 : UInt8)] ++
                  ([m0, m1, m2, m3, m4, m5] ++ a) ++
                 ([(0 : UInt8), (0 : UInt8), (0 : UInt8), (0 : UInt8), (0 : UInt8), (0 : UInt8)] ++ b))))
              (fun x =>
               K (AVal.tup [AVal.sl (0 : Nat) (0 : Nat) (List.length x) (1 : Nat), AVal.int IntKind.i64 (0 : Int)])
                [ABlk.bytes x])
              (K (AVal.tup [AVal.nilS, AVal.int IntKind.i64 (1 : Int)]) []))
       (((0 : Int) ≤ (13 : Int) ∧ (13 : Int) < (↑(List.length b) : Int)) ∧
        ((0 : Int) ≤ (14 : Int) ∧ (14 : Int) < (↑(List.length b) : Int)) ∧
         ((0 : Int) ≤ (15 : Int) ∧ (15 : Int) < (↑(List.length b) : Int)) ∧
          (8 : Nat) + List.length b ≤ (4611686018427387904 : Nat) ∧
           List.length
               ([(135 : UInt8), (0 : UInt8), (0 : UInt8), (0 : UInt8), (0 : UInt8), (0 : UInt8), (0 : UInt8),
                 (0 : UInt8)] ++
                b) +
              (2 : Nat) ≤
             (4611686018427387904 : Nat) ∧
            List.length
                ([(135 : UInt8), (0 : UInt8), (0 : UInt8), (0 : UInt8), (0 : UInt8), (0 : UInt8), (0 : UInt8),
                   (0 : UInt8)] ++
                  b ++
                 [(1 : UInt8), (1 : UInt8)]) +
               (6 : Nat) ≤
              (4611686018427387904 : Nat) ∧
             List.length
                ([(135 : UInt8), (0 : UInt8), (0 : UInt8), (0 : UInt8), (0 : UInt8), (0 : UInt8), (0 : UInt8),
                    (0 : UInt8)] ++
                   b ++
                  [(1 : UInt8), (1 : UInt8)] ++
                 [m0, m1, m2, m3, m4, m5]) =
               (32 : Nat) ∧
              optP
               (ndG
                ([(135 : UInt8), (0 : UInt8), (0 : UInt8), (0 : UInt8), (0 : UInt8), (0 : UInt8), (0 : UInt8),
                    (0 : UInt8)] ++
                   b ++
                  [(1 : UInt8), (1 : UInt8)] ++
                 [m0, m1, m2, m3, m4, m5])
                (Mc.mk m0 m1 m2 m3 m4 m5)
                (Mc.mk (51 : UInt8) (51 : UInt8) (255 : UInt8) (List.getD b (13 : Nat) (0 : UInt8))
                 (List.getD b (14 : Nat) (0 : UInt8)) (List.getD b (15 : Nat) (0 : UInt8)))
                a (nbNear b))
               (fun x =>
                K (AVal.tup [AVal.sl (0 : Nat) (0 : Nat) (List.length x) (1 : Nat), AVal.int IntKind.i64 (0 : Int)])
                 [ABlk.bytes x])
               (K (AVal.tup [AVal.nilS, AVal.int IntKind.i64 (1 : Int)]) []))))
     (brP (decide ((↑(List.length a) : Int) = (16 : Int)))
      (brP (decide ((↑(List.length a) : Int) = (0 : Int))) (K (AVal.tup [AVal.nilS, AVal.int IntKind.i64 (1 : Int)]) [])
       (brP (decide ((↑(List.length a) : Int) = (4 : Int)))
        ((6 : Nat) + List.length a ≤ (4611686018427387904 : Nat) ∧
         (6 : Nat) + List.length b ≤ (4611686018427387904 : Nat) ∧
          (8 : Nat) ≤ (4611686018427387904 : Nat) ∧
           (8 : Nat) + List.length ([m0, m1, m2, m3, m4, m5] ++ a) ≤ (4611686018427387904 : Nat) ∧
            List.length
                ([(0 : UInt8), (1 : UInt8), (8 : UInt8), (0 : UInt8), (6 : UInt8), (4 : UInt8), (0 : UInt8),
                  (1 : UInt8)] ++
                 ([m0, m1, m2, m3, m4, m5] ++ a)) +
               List.length ([(0 : UInt8), (0 : UInt8), (0 : UInt8), (0 : UInt8), (0 : UInt8), (0 : UInt8)] ++ b) ≤
              (4611686018427387904 : Nat) ∧
             List.length
                ([(0 : UInt8), (1 : UInt8), (8 : UInt8), (0 : UInt8), (6 : UInt8), (4 : UInt8), (0 : UInt8),
                   (1 : UInt8)] ++
                  ([m0, m1, m2, m3, m4, m5] ++ a) ++
                 ([(0 : UInt8), (0 : UInt8), (0 : UInt8), (0 : UInt8), (0 : UInt8), (0 : UInt8)] ++ b)) ≤
               (140737488351232 : Nat) ∧
              optP
               (etEncode
                (Fm.mk (Mc.mk (255 : UInt8) (255 : UInt8) (255 : UInt8) (255 : UInt8) (255 : UInt8) (255 : UInt8))
                 (Mc.mk m0 m1 m2 m3 m4 m5) (2054 : Int)
                 ([(0 : UInt8), (1 : UInt8), (8 : UInt8), (0 : UInt8), (6 : UInt8), (4 : UInt8), (0 : UInt8),
                    (1 : UInt8)] ++
                   ([m0, m1, m2, m3, m4, m5] ++ a) ++
                  ([(0 : UInt8), (0 : UInt8), (0 : UInt8), (0 : UInt8), (0 : UInt8), (0 : UInt8)] ++ b))))
               (fun x =>
                K (AVal.tup [AVal.sl (0 : Nat) (0 : Nat) (List.length x) (1 : Nat), AVal.int IntKind.i64 (0 : Int)])
                 [ABlk.bytes x])
               (K (AVal.tup [AVal.nilS, AVal.int IntKind.i64 (1 : Int)]) []))
        (((0 : Int) ≤ (13 : Int) ∧ (13 : Int) < (↑(List.length b) : Int)) ∧
         ((0 : Int) ≤ (14 : Int) ∧ (14 : Int) < (↑(List.length b) : Int)) ∧
          ((0 : Int) ≤ (15 : Int) ∧ (15 : Int) < (↑(List.length b) : Int)) ∧
           (8 : Nat) + List.length b ≤ (4611686018427387904 : Nat) ∧
            List.length
                ([(135 : UInt8), (0 : UInt8), (0 : UInt8), (0 : UInt8), (0 : UInt8), (0 : UInt8), (0 : UInt8),
                  (0 : UInt8)] ++
                 b) +
               (2 : Nat) ≤
              (4611686018427387904 : Nat) ∧
             List.length
                 ([(135 : UInt8), (0 : UInt8), (0 : UInt8), (0 : UInt8), (0 : UInt8), (0 : UInt8), (0 : UInt8),
                    (0 : UInt8)] ++
                   b ++
                  [(1 : UInt8), (1 : UInt8)]) +
                (6 : Nat) ≤
               (4611686018427387904 : Nat) ∧
              List.length
                 ([(135 : UInt8), (0 : UInt8), (0 : UInt8), (0 : UInt8), (0 : UInt8), (0 : UInt8), (0 : UInt8),
                     (0 : UInt8)] ++
                    b ++
                   [(1 : UInt8), (1 : UInt8)] ++
                  [m0, m1, m2, m3, m4, m5]) =
                (32 : Nat) ∧
               optP
                (ndG
                 ([(135 : UInt8), (0 : UInt8), (0 : UInt8), (0 : UInt8), (0 : UInt8), (0 : UInt8), (0 : UInt8),
                     (0 : UInt8)] ++
                    b ++
                   [(1 : UInt8), (1 : UInt8)] ++
                  [m0, m1, m2, m3, m4, m5])
                 (Mc.mk m0 m1 m2 m3 m4 m5)
                 (Mc.mk (51 : UInt8) (51 : UInt8) (255 : UInt8) (List.getD b (13 : Nat) (0 : UInt8))
                  (List.getD b (14 : Nat) (0 : UInt8)) (List.getD b (15 : Nat) (0 : UInt8)))
                 a (nbNear b))
                (fun x =>
                 K (AVal.tup [AVal.sl (0 : Nat) (0 : Nat) (List.length x) (1 : Nat), AVal.int IntKind.i64 (0 : Int)])
                  [ABlk.bytes x])
                (K (AVal.tup [AVal.nilS, AVal.int IntKind.i64 (1 : Int)]) []))))
      (K (AVal.tup [AVal.nilS, AVal.int IntKind.i64 (1 : Int)]) [])))
    (K (AVal.tup [AVal.nilS, AVal.int IntKind.i64 (1 : Int)]) [])) := by kernel_rfl
theorem outriderref04_Ask_p : ∀ args H K, askRow args H K → fnP Try.prog Tnb21 ann_outriderref04_Ask Try.f18 args H K := by
  intro args H K h
  unfold askRow at h
  split at h
  · rename_i m0 m1 m2 m3 m4 m5 a b
    rw [ref04_Ask_eq]
    revert h; intro hK
    have hB := nbArp_is 1 ⟨m0, m1, m2, m3, m4, m5⟩ ⟨0, 0, 0, 0, 0, 0⟩ a b
    have hN := nbBody_is 135 0 1 b ⟨m0, m1, m2, m3, m4, m5⟩
    simp only at hB hN
    rcases nbAsk_cases ⟨m0, m1, m2, m3, m4, m5⟩ a b with ⟨h1, e⟩ | ⟨h1, e⟩ | ⟨h1, e⟩ <;> rw [e] at hK
    · simp only [List.length_append, List.length_cons, List.length_nil, hB, hN]
      repeat' first | (refine And.intro (by first | first | omega | with_reducible exact i64_x256 _ | with_reducible exact i64_w16 _ _ | with_reducible exact i64_sum _ | (repeat' first | with_reducible exact i64_x256 _ | with_reducible exact i64_w16 _ _ | with_reducible exact i64_sum _ | with_reducible apply And.intro) <;> first | omega | (simp only [I64]; omega) | (simp; omega) | (simp; done) | (simp [I64]; omega) | (with_reducible refine impP_i (fun hg => ?_) <;> (try simp only [Bool.and_eq_true, Bool.or_eq_true, Bool.and_eq_false_iff, Bool.or_eq_false_iff, decide_eq_true_eq, decide_eq_false_iff_not, Bool.not_eq_true', Bool.not_eq_false', Bool.not_true, Bool.not_false, Bool.true_and, Bool.and_true, Bool.false_or, Bool.or_false, beq_iff_eq, beq_eq_false_iff_ne, ne_eq] at hg) <;> (first | omega | with_reducible exact i64_x256 _ | with_reducible exact i64_w16 _ _ | with_reducible exact i64_sum _ | (repeat' first | with_reducible exact i64_x256 _ | with_reducible exact i64_w16 _ _ | with_reducible exact i64_sum _ | with_reducible apply And.intro) <;> first | omega | (simp only [I64]; omega) | (simp; omega) | (simp; done) | (simp [I64]; omega)))) ?_) | (refine brP_d (fun h => ?_) (fun h => ?_)) | (refine brP_nd (fun h => ?_) (fun h => ?_)) | (refine brP_i (fun h => ?_) (fun h => ?_) <;> (try simp only [Bool.and_eq_true, Bool.or_eq_true, Bool.and_eq_false_iff, Bool.or_eq_false_iff, decide_eq_true_eq, decide_eq_false_iff_not, Bool.not_eq_true', Bool.not_eq_false', Bool.not_true, Bool.not_false, Bool.true_and, Bool.and_true, Bool.false_or, Bool.or_false, beq_iff_eq, beq_eq_false_iff_ne, ne_eq] at h))
      all_goals first | exact hK | (exfalso; omega) | (exact absurd trivial h)
    · have hlen := nbBody_len (kind := 135) (flags := 0) (opt := 1) (target := b) (m := ⟨m0, m1, m2, m3, m4, m5⟩) (s := 0) (by omega)
      simp only [hB, hN, ndG_eq (show b.length = 16 by omega), hlen]
      simp only [List.length_append, List.length_cons, List.length_nil]
      try rw [near_many (by omega)] at hK
      try rw [every_many] at hK
      repeat' first | (refine And.intro (by first | first | omega | with_reducible exact i64_x256 _ | with_reducible exact i64_w16 _ _ | with_reducible exact i64_sum _ | (repeat' first | with_reducible exact i64_x256 _ | with_reducible exact i64_w16 _ _ | with_reducible exact i64_sum _ | with_reducible apply And.intro) <;> first | omega | (simp only [I64]; omega) | (simp; omega) | (simp; done) | (simp [I64]; omega) | (with_reducible refine impP_i (fun hg => ?_) <;> (try simp only [Bool.and_eq_true, Bool.or_eq_true, Bool.and_eq_false_iff, Bool.or_eq_false_iff, decide_eq_true_eq, decide_eq_false_iff_not, Bool.not_eq_true', Bool.not_eq_false', Bool.not_true, Bool.not_false, Bool.true_and, Bool.and_true, Bool.false_or, Bool.or_false, beq_iff_eq, beq_eq_false_iff_ne, ne_eq] at hg) <;> (first | omega | with_reducible exact i64_x256 _ | with_reducible exact i64_w16 _ _ | with_reducible exact i64_sum _ | (repeat' first | with_reducible exact i64_x256 _ | with_reducible exact i64_w16 _ _ | with_reducible exact i64_sum _ | with_reducible apply And.intro) <;> first | omega | (simp only [I64]; omega) | (simp; omega) | (simp; done) | (simp [I64]; omega)))) ?_) | (refine brP_d (fun h => ?_) (fun h => ?_)) | (refine brP_nd (fun h => ?_) (fun h => ?_)) | (refine brP_i (fun h => ?_) (fun h => ?_) <;> (try simp only [Bool.and_eq_true, Bool.or_eq_true, Bool.and_eq_false_iff, Bool.or_eq_false_iff, decide_eq_true_eq, decide_eq_false_iff_not, Bool.not_eq_true', Bool.not_eq_false', Bool.not_true, Bool.not_false, Bool.true_and, Bool.and_true, Bool.false_or, Bool.or_false, beq_iff_eq, beq_eq_false_iff_ne, ne_eq] at h))
      all_goals first | exact hK | (exfalso; omega) | (exact absurd trivial h)
    · simp only [hB, hN]
      have hal : (nbArpB 1 ⟨m0, m1, m2, m3, m4, m5⟩ a ⟨0, 0, 0, 0, 0, 0⟩ b).length = 28 := by unfold nbArpB Mc.bytes; simp; omega
      simp only [hal, List.length_append, List.length_cons, List.length_nil]
      repeat' first | (refine And.intro (by first | first | omega | with_reducible exact i64_x256 _ | with_reducible exact i64_w16 _ _ | with_reducible exact i64_sum _ | (repeat' first | with_reducible exact i64_x256 _ | with_reducible exact i64_w16 _ _ | with_reducible exact i64_sum _ | with_reducible apply And.intro) <;> first | omega | (simp only [I64]; omega) | (simp; omega) | (simp; done) | (simp [I64]; omega) | (with_reducible refine impP_i (fun hg => ?_) <;> (try simp only [Bool.and_eq_true, Bool.or_eq_true, Bool.and_eq_false_iff, Bool.or_eq_false_iff, decide_eq_true_eq, decide_eq_false_iff_not, Bool.not_eq_true', Bool.not_eq_false', Bool.not_true, Bool.not_false, Bool.true_and, Bool.and_true, Bool.false_or, Bool.or_false, beq_iff_eq, beq_eq_false_iff_ne, ne_eq] at hg) <;> (first | omega | with_reducible exact i64_x256 _ | with_reducible exact i64_w16 _ _ | with_reducible exact i64_sum _ | (repeat' first | with_reducible exact i64_x256 _ | with_reducible exact i64_w16 _ _ | with_reducible exact i64_sum _ | with_reducible apply And.intro) <;> first | omega | (simp only [I64]; omega) | (simp; omega) | (simp; done) | (simp [I64]; omega)))) ?_) | (refine brP_d (fun h => ?_) (fun h => ?_)) | (refine brP_nd (fun h => ?_) (fun h => ?_)) | (refine brP_i (fun h => ?_) (fun h => ?_) <;> (try simp only [Bool.and_eq_true, Bool.or_eq_true, Bool.and_eq_false_iff, Bool.or_eq_false_iff, decide_eq_true_eq, decide_eq_false_iff_not, Bool.not_eq_true', Bool.not_eq_false', Bool.not_true, Bool.not_false, Bool.true_and, Bool.and_true, Bool.false_or, Bool.or_false, beq_iff_eq, beq_eq_false_iff_ne, ne_eq] at h))
      all_goals first | exact hK | (exfalso; omega) | (exact absurd trivial h)
  · exact h.elim
def Tnb22 : Specs := ext Tnb21 18 (askRow)
theorem Tnb22_sound : TSound Try.prog Tnb22 := ext_sound Tnb21_sound (row_of Tnb21_sound mixed Try.func18 (by decide +kernel) outriderref04_Ask_p)
def ann_outriderref04_Tell : Nat → List Nat × Nat × List (List Nat)
  | 5 => ([], 15, [[], [], [], [2], [], [2, 3, 4], [], [2, 3, 6], [], [2, 3, 6, 7, 8], [2, 3, 4, 5, 6, 7, 8, 9], [0, 1, 2, 3, 4, 5, 6, 7, 8, 9, 10], [0, 1, 2, 3, 4, 5, 6, 7, 8, 9, 10, 11], [0, 1, 2, 3, 4, 5, 6, 7, 8, 9, 10, 11, 12], [0, 1, 2, 3, 4, 5, 6, 7, 8, 9, 10, 11, 12]])
  | 6 => ([], 14, [[], [], [], [], [2, 3], [], [5], [5, 6], [], [8], [5, 6, 7, 8, 9], [0, 1, 2, 3, 4, 5, 6, 7, 8, 9, 10], [0, 1, 2, 3, 4, 5, 6, 7, 8, 9, 10, 11], [0, 1, 2, 3, 4, 5, 6, 7, 8, 9, 10, 11]])
  | _ => ([], 0, [])
set_option maxRecDepth 100000 in
theorem ref04_Tell_eq (m0 m1 m2 m3 m4 m5 : UInt8) (a : List UInt8) (t0 t1 t2 t3 t4 t5 : UInt8) (b : List UInt8) (K : AVal → Hp → Prop) : fnP Try.prog Tnb22 ann_outriderref04_Tell Try.f19 [.agg [.byte m0, .byte m1, .byte m2, .byte m3, .byte m4, .byte m5], .str a, .agg [.byte t0, .byte t1, .byte t2, .byte t3, .byte t4, .byte t5], .str b] [] K = (
  brP (decide ((↑(List.length a) : Int) = (↑(List.length b) : Int)))
    (brP (decide ((↑(List.length a) : Int) = (4 : Int)))
     (brP (decide ((↑(List.length a) : Int) = (0 : Int))) (K (AVal.tup [AVal.nilS, AVal.int IntKind.i64 (1 : Int)]) [])
      (brP (decide ((↑(List.length a) : Int) = (4 : Int)))
       ((6 : Nat) + List.length a ≤ (4611686018427387904 : Nat) ∧
        (6 : Nat) + List.length b ≤ (4611686018427387904 : Nat) ∧
         (8 : Nat) ≤ (4611686018427387904 : Nat) ∧
          (8 : Nat) + List.length ([m0, m1, m2, m3, m4, m5] ++ a) ≤ (4611686018427387904 : Nat) ∧
           List.length
               ([(0 : UInt8), (1 : UInt8), (8 : UInt8), (0 : UInt8), (6 : UInt8), (4 : UInt8), (0 : UInt8),
                 (2 : UInt8)] ++
                ([m0, m1, m2, m3, m4, m5] ++ a)) +
              List.length ([t0, t1, t2, t3, t4, t5] ++ b) ≤
             (4611686018427387904 : Nat) ∧
            List.length
               ([(0 : UInt8), (1 : UInt8), (8 : UInt8), (0 : UInt8), (6 : UInt8), (4 : UInt8), (0 : UInt8),
                  (2 : UInt8)] ++
                 ([m0, m1, m2, m3, m4, m5] ++ a) ++
                ([t0, t1, t2, t3, t4, t5] ++ b)) ≤
              (140737488351232 : Nat) ∧
             optP
              (etEncode
               (Fm.mk (Mc.mk t0 t1 t2 t3 t4 t5) (Mc.mk m0 m1 m2 m3 m4 m5) (2054 : Int)
                ([(0 : UInt8), (1 : UInt8), (8 : UInt8), (0 : UInt8), (6 : UInt8), (4 : UInt8), (0 : UInt8),
                   (2 : UInt8)] ++
                  ([m0, m1, m2, m3, m4, m5] ++ a) ++
                 ([t0, t1, t2, t3, t4, t5] ++ b))))
              (fun x =>
               K (AVal.tup [AVal.sl (0 : Nat) (0 : Nat) (List.length x) (1 : Nat), AVal.int IntKind.i64 (0 : Int)])
                [ABlk.bytes x])
              (K (AVal.tup [AVal.nilS, AVal.int IntKind.i64 (1 : Int)]) []))
       ((8 : Nat) + List.length a ≤ (4611686018427387904 : Nat) ∧
        List.length
            ([(136 : UInt8), (0 : UInt8), (0 : UInt8), (0 : UInt8), (96 : UInt8), (0 : UInt8), (0 : UInt8),
              (0 : UInt8)] ++
             a) +
           (2 : Nat) ≤
          (4611686018427387904 : Nat) ∧
         List.length
             ([(136 : UInt8), (0 : UInt8), (0 : UInt8), (0 : UInt8), (96 : UInt8), (0 : UInt8), (0 : UInt8),
                (0 : UInt8)] ++
               a ++
              [(2 : UInt8), (1 : UInt8)]) +
            (6 : Nat) ≤
           (4611686018427387904 : Nat) ∧
          List.length
             ([(136 : UInt8), (0 : UInt8), (0 : UInt8), (0 : UInt8), (96 : UInt8), (0 : UInt8), (0 : UInt8),
                 (0 : UInt8)] ++
                a ++
               [(2 : UInt8), (1 : UInt8)] ++
              [m0, m1, m2, m3, m4, m5]) =
            (32 : Nat) ∧
           optP
            (ndG
             ([(136 : UInt8), (0 : UInt8), (0 : UInt8), (0 : UInt8), (96 : UInt8), (0 : UInt8), (0 : UInt8),
                 (0 : UInt8)] ++
                a ++
               [(2 : UInt8), (1 : UInt8)] ++
              [m0, m1, m2, m3, m4, m5])
             (Mc.mk m0 m1 m2 m3 m4 m5) (Mc.mk t0 t1 t2 t3 t4 t5) a b)
            (fun x =>
             K (AVal.tup [AVal.sl (0 : Nat) (0 : Nat) (List.length x) (1 : Nat), AVal.int IntKind.i64 (0 : Int)])
              [ABlk.bytes x])
            (K (AVal.tup [AVal.nilS, AVal.int IntKind.i64 (1 : Int)]) []))))
     (brP (decide ((↑(List.length a) : Int) = (16 : Int)))
      (brP (decide ((↑(List.length a) : Int) = (0 : Int))) (K (AVal.tup [AVal.nilS, AVal.int IntKind.i64 (1 : Int)]) [])
       (brP (decide ((↑(List.length a) : Int) = (4 : Int)))
        ((6 : Nat) + List.length a ≤ (4611686018427387904 : Nat) ∧
         (6 : Nat) + List.length b ≤ (4611686018427387904 : Nat) ∧
          (8 : Nat) ≤ (4611686018427387904 : Nat) ∧
           (8 : Nat) + List.length ([m0, m1, m2, m3, m4, m5] ++ a) ≤ (4611686018427387904 : Nat) ∧
            List.length
                ([(0 : UInt8), (1 : UInt8), (8 : UInt8), (0 : UInt8), (6 : UInt8), (4 : UInt8), (0 : UInt8),
                  (2 : UInt8)] ++
                 ([m0, m1, m2, m3, m4, m5] ++ a)) +
               List.length ([t0, t1, t2, t3, t4, t5] ++ b) ≤
              (4611686018427387904 : Nat) ∧
             List.length
                ([(0 : UInt8), (1 : UInt8), (8 : UInt8), (0 : UInt8), (6 : UInt8), (4 : UInt8), (0 : UInt8),
                   (2 : UInt8)] ++
                  ([m0, m1, m2, m3, m4, m5] ++ a) ++
                 ([t0, t1, t2, t3, t4, t5] ++ b)) ≤
               (140737488351232 : Nat) ∧
              optP
               (etEncode
                (Fm.mk (Mc.mk t0 t1 t2 t3 t4 t5) (Mc.mk m0 m1 m2 m3 m4 m5) (2054 : Int)
                 ([(0 : UInt8), (1 : UInt8), (8 : UInt8), (0 : UInt8), (6 : UInt8), (4 : UInt8), (0 : UInt8),
                    (2 : UInt8)] ++
                   ([m0, m1, m2, m3, m4, m5] ++ a) ++
                  ([t0, t1, t2, t3, t4, t5] ++ b))))
               (fun x =>
                K (AVal.tup [AVal.sl (0 : Nat) (0 : Nat) (List.length x) (1 : Nat), AVal.int IntKind.i64 (0 : Int)])
                 [ABlk.bytes x])
               (K (AVal.tup [AVal.nilS, AVal.int IntKind.i64 (1 : Int)]) []))
        ((8 : Nat) + List.length a ≤ (4611686018427387904 : Nat) ∧
         List.length
             ([(136 : UInt8), (0 : UInt8), (0 : UInt8), (0 : UInt8), (96 : UInt8), (0 : UInt8), (0 : UInt8),
               (0 : UInt8)] ++
              a) +
            (2 : Nat) ≤
           (4611686018427387904 : Nat) ∧
          List.length
              ([(136 : UInt8), (0 : UInt8), (0 : UInt8), (0 : UInt8), (96 : UInt8), (0 : UInt8), (0 : UInt8),
                 (0 : UInt8)] ++
                a ++
               [(2 : UInt8), (1 : UInt8)]) +
             (6 : Nat) ≤
            (4611686018427387904 : Nat) ∧
           List.length
              ([(136 : UInt8), (0 : UInt8), (0 : UInt8), (0 : UInt8), (96 : UInt8), (0 : UInt8), (0 : UInt8),
                  (0 : UInt8)] ++
                 a ++
                [(2 : UInt8), (1 : UInt8)] ++
               [m0, m1, m2, m3, m4, m5]) =
             (32 : Nat) ∧
            optP
             (ndG
              ([(136 : UInt8), (0 : UInt8), (0 : UInt8), (0 : UInt8), (96 : UInt8), (0 : UInt8), (0 : UInt8),
                  (0 : UInt8)] ++
                 a ++
                [(2 : UInt8), (1 : UInt8)] ++
               [m0, m1, m2, m3, m4, m5])
              (Mc.mk m0 m1 m2 m3 m4 m5) (Mc.mk t0 t1 t2 t3 t4 t5) a b)
             (fun x =>
              K (AVal.tup [AVal.sl (0 : Nat) (0 : Nat) (List.length x) (1 : Nat), AVal.int IntKind.i64 (0 : Int)])
               [ABlk.bytes x])
             (K (AVal.tup [AVal.nilS, AVal.int IntKind.i64 (1 : Int)]) []))))
      (K (AVal.tup [AVal.nilS, AVal.int IntKind.i64 (1 : Int)]) [])))
    (K (AVal.tup [AVal.nilS, AVal.int IntKind.i64 (1 : Int)]) [])) := by kernel_rfl
theorem outriderref04_Tell_p : ∀ args H K, tellRow args H K → fnP Try.prog Tnb22 ann_outriderref04_Tell Try.f19 args H K := by
  intro args H K h
  unfold tellRow at h
  split at h
  · rename_i m0 m1 m2 m3 m4 m5 a t0 t1 t2 t3 t4 t5 b
    rw [ref04_Tell_eq]
    revert h; intro hK
    have hB := nbArp_is 2 ⟨m0, m1, m2, m3, m4, m5⟩ ⟨t0, t1, t2, t3, t4, t5⟩ a b
    have hN := nbBody_is 136 96 2 a ⟨m0, m1, m2, m3, m4, m5⟩
    simp only at hB hN
    rcases nbTell_cases ⟨m0, m1, m2, m3, m4, m5⟩ a ⟨t0, t1, t2, t3, t4, t5⟩ b with ⟨h1, e⟩ | ⟨h1, e⟩ | ⟨h1, e⟩ <;> rw [e] at hK
    · simp only [List.length_append, List.length_cons, List.length_nil, hB, hN]
      repeat' first | (refine And.intro (by first | first | omega | with_reducible exact i64_x256 _ | with_reducible exact i64_w16 _ _ | with_reducible exact i64_sum _ | (repeat' first | with_reducible exact i64_x256 _ | with_reducible exact i64_w16 _ _ | with_reducible exact i64_sum _ | with_reducible apply And.intro) <;> first | omega | (simp only [I64]; omega) | (simp; omega) | (simp; done) | (simp [I64]; omega) | (with_reducible refine impP_i (fun hg => ?_) <;> (try simp only [Bool.and_eq_true, Bool.or_eq_true, Bool.and_eq_false_iff, Bool.or_eq_false_iff, decide_eq_true_eq, decide_eq_false_iff_not, Bool.not_eq_true', Bool.not_eq_false', Bool.not_true, Bool.not_false, Bool.true_and, Bool.and_true, Bool.false_or, Bool.or_false, beq_iff_eq, beq_eq_false_iff_ne, ne_eq] at hg) <;> (first | omega | with_reducible exact i64_x256 _ | with_reducible exact i64_w16 _ _ | with_reducible exact i64_sum _ | (repeat' first | with_reducible exact i64_x256 _ | with_reducible exact i64_w16 _ _ | with_reducible exact i64_sum _ | with_reducible apply And.intro) <;> first | omega | (simp only [I64]; omega) | (simp; omega) | (simp; done) | (simp [I64]; omega)))) ?_) | (refine brP_d (fun h => ?_) (fun h => ?_)) | (refine brP_nd (fun h => ?_) (fun h => ?_)) | (refine brP_i (fun h => ?_) (fun h => ?_) <;> (try simp only [Bool.and_eq_true, Bool.or_eq_true, Bool.and_eq_false_iff, Bool.or_eq_false_iff, decide_eq_true_eq, decide_eq_false_iff_not, Bool.not_eq_true', Bool.not_eq_false', Bool.not_true, Bool.not_false, Bool.true_and, Bool.and_true, Bool.false_or, Bool.or_false, beq_iff_eq, beq_eq_false_iff_ne, ne_eq] at h))
      all_goals first | exact hK | (exfalso; omega) | (exact absurd trivial h)
    · have hlen := nbBody_len (kind := 136) (flags := 96) (opt := 2) (target := a) (m := ⟨m0, m1, m2, m3, m4, m5⟩) (s := 0) (by omega)
      simp only [hB, hN, ndG_eq (show a.length = 16 by omega), hlen]
      simp only [List.length_append, List.length_cons, List.length_nil]
      try rw [near_many (by omega)] at hK
      try rw [every_many] at hK
      repeat' first | (refine And.intro (by first | first | omega | with_reducible exact i64_x256 _ | with_reducible exact i64_w16 _ _ | with_reducible exact i64_sum _ | (repeat' first | with_reducible exact i64_x256 _ | with_reducible exact i64_w16 _ _ | with_reducible exact i64_sum _ | with_reducible apply And.intro) <;> first | omega | (simp only [I64]; omega) | (simp; omega) | (simp; done) | (simp [I64]; omega) | (with_reducible refine impP_i (fun hg => ?_) <;> (try simp only [Bool.and_eq_true, Bool.or_eq_true, Bool.and_eq_false_iff, Bool.or_eq_false_iff, decide_eq_true_eq, decide_eq_false_iff_not, Bool.not_eq_true', Bool.not_eq_false', Bool.not_true, Bool.not_false, Bool.true_and, Bool.and_true, Bool.false_or, Bool.or_false, beq_iff_eq, beq_eq_false_iff_ne, ne_eq] at hg) <;> (first | omega | with_reducible exact i64_x256 _ | with_reducible exact i64_w16 _ _ | with_reducible exact i64_sum _ | (repeat' first | with_reducible exact i64_x256 _ | with_reducible exact i64_w16 _ _ | with_reducible exact i64_sum _ | with_reducible apply And.intro) <;> first | omega | (simp only [I64]; omega) | (simp; omega) | (simp; done) | (simp [I64]; omega)))) ?_) | (refine brP_d (fun h => ?_) (fun h => ?_)) | (refine brP_nd (fun h => ?_) (fun h => ?_)) | (refine brP_i (fun h => ?_) (fun h => ?_) <;> (try simp only [Bool.and_eq_true, Bool.or_eq_true, Bool.and_eq_false_iff, Bool.or_eq_false_iff, decide_eq_true_eq, decide_eq_false_iff_not, Bool.not_eq_true', Bool.not_eq_false', Bool.not_true, Bool.not_false, Bool.true_and, Bool.and_true, Bool.false_or, Bool.or_false, beq_iff_eq, beq_eq_false_iff_ne, ne_eq] at h))
      all_goals first | exact hK | (exfalso; omega) | (exact absurd trivial h)
    · simp only [hB, hN]
      have hal : (nbArpB 2 ⟨m0, m1, m2, m3, m4, m5⟩ a ⟨t0, t1, t2, t3, t4, t5⟩ b).length = 28 := by unfold nbArpB Mc.bytes; simp; omega
      simp only [hal, List.length_append, List.length_cons, List.length_nil]
      repeat' first | (refine And.intro (by first | first | omega | with_reducible exact i64_x256 _ | with_reducible exact i64_w16 _ _ | with_reducible exact i64_sum _ | (repeat' first | with_reducible exact i64_x256 _ | with_reducible exact i64_w16 _ _ | with_reducible exact i64_sum _ | with_reducible apply And.intro) <;> first | omega | (simp only [I64]; omega) | (simp; omega) | (simp; done) | (simp [I64]; omega) | (with_reducible refine impP_i (fun hg => ?_) <;> (try simp only [Bool.and_eq_true, Bool.or_eq_true, Bool.and_eq_false_iff, Bool.or_eq_false_iff, decide_eq_true_eq, decide_eq_false_iff_not, Bool.not_eq_true', Bool.not_eq_false', Bool.not_true, Bool.not_false, Bool.true_and, Bool.and_true, Bool.false_or, Bool.or_false, beq_iff_eq, beq_eq_false_iff_ne, ne_eq] at hg) <;> (first | omega | with_reducible exact i64_x256 _ | with_reducible exact i64_w16 _ _ | with_reducible exact i64_sum _ | (repeat' first | with_reducible exact i64_x256 _ | with_reducible exact i64_w16 _ _ | with_reducible exact i64_sum _ | with_reducible apply And.intro) <;> first | omega | (simp only [I64]; omega) | (simp; omega) | (simp; done) | (simp [I64]; omega)))) ?_) | (refine brP_d (fun h => ?_) (fun h => ?_)) | (refine brP_nd (fun h => ?_) (fun h => ?_)) | (refine brP_i (fun h => ?_) (fun h => ?_) <;> (try simp only [Bool.and_eq_true, Bool.or_eq_true, Bool.and_eq_false_iff, Bool.or_eq_false_iff, decide_eq_true_eq, decide_eq_false_iff_not, Bool.not_eq_true', Bool.not_eq_false', Bool.not_true, Bool.not_false, Bool.true_and, Bool.and_true, Bool.false_or, Bool.or_false, beq_iff_eq, beq_eq_false_iff_ne, ne_eq] at h))
      all_goals first | exact hK | (exfalso; omega) | (exact absurd trivial h)
  · exact h.elim
def Tnb23 : Specs := ext Tnb22 19 (tellRow)
theorem Tnb23_sound : TSound Try.prog Tnb23 := ext_sound Tnb22_sound (row_of Tnb22_sound mixed Try.func19 (by decide +kernel) outriderref04_Tell_p)
def ann_outriderref04_Claim : Nat → List Nat × Nat × List (List Nat)
  | 5 => ([], 13, [[], [], [], [0, 2], [], [0, 2, 3, 4], [], [6], [0, 2, 3, 4, 5, 6, 7], [0, 1, 2, 3, 4, 5, 6, 7, 8], [0, 1, 2, 3, 4, 5, 6, 7, 8, 9], [0, 1, 2, 3, 4, 5, 6, 7, 8, 9, 10], [0, 1, 2, 3, 4, 5, 6, 7, 8, 9, 10]])
  | 6 => ([], 14, [[], [], [], [], [2, 3], [], [5], [5, 6], [], [3, 8], [3, 5, 6, 7, 8, 9], [0, 1, 2, 3, 4, 5, 6, 7, 8, 9, 10], [0, 1, 2, 3, 4, 5, 6, 7, 8, 9, 10, 11], [0, 1, 2, 3, 4, 5, 6, 7, 8, 9, 10, 11]])
  | _ => ([], 0, [])
set_option maxRecDepth 100000 in
theorem ref04_Claim_eq (m0 m1 m2 m3 m4 m5 : UInt8) (a : List UInt8) (K : AVal → Hp → Prop) : fnP Try.prog Tnb23 ann_outriderref04_Claim Try.f21 [.agg [.byte m0, .byte m1, .byte m2, .byte m3, .byte m4, .byte m5], .str a] [] K = (
  brP (decide ((↑(List.length a) : Int) = (↑(List.length a) : Int)))
    (brP (decide ((↑(List.length a) : Int) = (4 : Int)))
     (brP (decide ((↑(List.length a) : Int) = (0 : Int))) (K (AVal.tup [AVal.nilS, AVal.int IntKind.i64 (1 : Int)]) [])
      (brP (decide ((↑(List.length a) : Int) = (4 : Int)))
       ((6 : Nat) + List.length a ≤ (4611686018427387904 : Nat) ∧
        (6 : Nat) + List.length a ≤ (4611686018427387904 : Nat) ∧
         (8 : Nat) ≤ (4611686018427387904 : Nat) ∧
          (8 : Nat) + List.length ([m0, m1, m2, m3, m4, m5] ++ a) ≤ (4611686018427387904 : Nat) ∧
           List.length
               ([(0 : UInt8), (1 : UInt8), (8 : UInt8), (0 : UInt8), (6 : UInt8), (4 : UInt8), (0 : UInt8),
                 (1 : UInt8)] ++
                ([m0, m1, m2, m3, m4, m5] ++ a)) +
              List.length ([(0 : UInt8), (0 : UInt8), (0 : UInt8), (0 : UInt8), (0 : UInt8), (0 : UInt8)] ++ a) ≤
             (4611686018427387904 : Nat) ∧
            List.length
               ([(0 : UInt8), (1 : UInt8), (8 : UInt8), (0 : UInt8), (6 : UInt8), (4 : UInt8), (0 : UInt8),
                  (1 : UInt8)] ++
                 ([m0, m1, m2, m3, m4, m5] ++ a) ++
                ([(0 : UInt8), (0 : UInt8), (0 : UInt8), (0 : UInt8), (0 : UInt8), (0 : UInt8)] ++ a)) ≤
              (140737488351232 : Nat) ∧
             optP
              (etEncode
               (Fm.mk (Mc.mk (255 : UInt8) (255 : UInt8) (255 : UInt8) (255 : UInt8) (255 : UInt8) (255 : UInt8))
                (Mc.mk m0 m1 m2 m3 m4 m5) (2054 : Int)
                ([(0 : UInt8), (1 : UInt8), (8 : UInt8), (0 : UInt8), (6 : UInt8), (4 : UInt8), (0 : UInt8),
                   (1 : UInt8)] ++
                  ([m0, m1, m2, m3, m4, m5] ++ a) ++
                 ([(0 : UInt8), (0 : UInt8), (0 : UInt8), (0 : UInt8), (0 : UInt8), (0 : UInt8)] ++ a))))
              (fun x =>
               K (AVal.tup [AVal.sl (0 : Nat) (0 : Nat) (List.length x) (1 : Nat), AVal.int IntKind.i64 (0 : Int)])
                [ABlk.bytes x])
              (K (AVal.tup [AVal.nilS, AVal.int IntKind.i64 (1 : Int)]) []))
       ((8 : Nat) + List.length a ≤ (4611686018427387904 : Nat) ∧
        List.length
            ([(136 : UInt8), (0 : UInt8), (0 : UInt8), (0 : UInt8), (32 : UInt8), (0 : UInt8), (0 : UInt8),
              (0 : UInt8)] ++
             a) +
           (2 : Nat) ≤
          (4611686018427387904 : Nat) ∧
         List.length
             ([(136 : UInt8), (0 : UInt8), (0 : UInt8), (0 : UInt8), (32 : UInt8), (0 : UInt8), (0 : UInt8),
                (0 : UInt8)] ++
               a ++
              [(2 : UInt8), (1 : UInt8)]) +
            (6 : Nat) ≤
           (4611686018427387904 : Nat) ∧
          List.length
             ([(136 : UInt8), (0 : UInt8), (0 : UInt8), (0 : UInt8), (32 : UInt8), (0 : UInt8), (0 : UInt8),
                 (0 : UInt8)] ++
                a ++
               [(2 : UInt8), (1 : UInt8)] ++
              [m0, m1, m2, m3, m4, m5]) =
            (32 : Nat) ∧
           optP
            (ndG
             ([(136 : UInt8), (0 : UInt8), (0 : UInt8), (0 : UInt8), (32 : UInt8), (0 : UInt8), (0 : UInt8),
                 (0 : UInt8)] ++
                a ++
               [(2 : UInt8), (1 : UInt8)] ++
              [m0, m1, m2, m3, m4, m5])
             (Mc.mk m0 m1 m2 m3 m4 m5) (Mc.mk (51 : UInt8) (51 : UInt8) (0 : UInt8) (0 : UInt8) (0 : UInt8) (1 : UInt8)) a
             [(255 : UInt8), (2 : UInt8), (0 : UInt8), (0 : UInt8), (0 : UInt8), (0 : UInt8), (0 : UInt8), (0 : UInt8),
              (0 : UInt8), (0 : UInt8), (0 : UInt8), (0 : UInt8), (0 : UInt8), (0 : UInt8), (0 : UInt8), (1 : UInt8)])
            (fun x =>
             K (AVal.tup [AVal.sl (0 : Nat) (0 : Nat) (List.length x) (1 : Nat), AVal.int IntKind.i64 (0 : Int)])
              [ABlk.bytes x])
            (K (AVal.tup [AVal.nilS, AVal.int IntKind.i64 (1 : Int)]) []))))
     (brP (decide ((↑(List.length a) : Int) = (16 : Int)))
      (brP (decide ((↑(List.length a) : Int) = (0 : Int))) (K (AVal.tup [AVal.nilS, AVal.int IntKind.i64 (1 : Int)]) [])
       (brP (decide ((↑(List.length a) : Int) = (4 : Int)))
        ((6 : Nat) + List.length a ≤ (4611686018427387904 : Nat) ∧
         (6 : Nat) + List.length a ≤ (4611686018427387904 : Nat) ∧
          (8 : Nat) ≤ (4611686018427387904 : Nat) ∧
           (8 : Nat) + List.length ([m0, m1, m2, m3, m4, m5] ++ a) ≤ (4611686018427387904 : Nat) ∧
            List.length
                ([(0 : UInt8), (1 : UInt8), (8 : UInt8), (0 : UInt8), (6 : UInt8), (4 : UInt8), (0 : UInt8),
                  (1 : UInt8)] ++
                 ([m0, m1, m2, m3, m4, m5] ++ a)) +
               List.length ([(0 : UInt8), (0 : UInt8), (0 : UInt8), (0 : UInt8), (0 : UInt8), (0 : UInt8)] ++ a) ≤
              (4611686018427387904 : Nat) ∧
             List.length
                ([(0 : UInt8), (1 : UInt8), (8 : UInt8), (0 : UInt8), (6 : UInt8), (4 : UInt8), (0 : UInt8),
                   (1 : UInt8)] ++
                  ([m0, m1, m2, m3, m4, m5] ++ a) ++
                 ([(0 : UInt8), (0 : UInt8), (0 : UInt8), (0 : UInt8), (0 : UInt8), (0 : UInt8)] ++ a)) ≤
               (140737488351232 : Nat) ∧
              optP
               (etEncode
                (Fm.mk (Mc.mk (255 : UInt8) (255 : UInt8) (255 : UInt8) (255 : UInt8) (255 : UInt8) (255 : UInt8))
                 (Mc.mk m0 m1 m2 m3 m4 m5) (2054 : Int)
                 ([(0 : UInt8), (1 : UInt8), (8 : UInt8), (0 : UInt8), (6 : UInt8), (4 : UInt8), (0 : UInt8),
                    (1 : UInt8)] ++
                   ([m0, m1, m2, m3, m4, m5] ++ a) ++
                  ([(0 : UInt8), (0 : UInt8), (0 : UInt8), (0 : UInt8), (0 : UInt8), (0 : UInt8)] ++ a))))
               (fun x =>
                K (AVal.tup [AVal.sl (0 : Nat) (0 : Nat) (List.length x) (1 : Nat), AVal.int IntKind.i64 (0 : Int)])
                 [ABlk.bytes x])
               (K (AVal.tup [AVal.nilS, AVal.int IntKind.i64 (1 : Int)]) []))
        ((8 : Nat) + List.length a ≤ (4611686018427387904 : Nat) ∧
         List.length
             ([(136 : UInt8), (0 : UInt8), (0 : UInt8), (0 : UInt8), (32 : UInt8), (0 : UInt8), (0 : UInt8),
               (0 : UInt8)] ++
              a) +
            (2 : Nat) ≤
           (4611686018427387904 : Nat) ∧
          List.length
              ([(136 : UInt8), (0 : UInt8), (0 : UInt8), (0 : UInt8), (32 : UInt8), (0 : UInt8), (0 : UInt8),
                 (0 : UInt8)] ++
                a ++
               [(2 : UInt8), (1 : UInt8)]) +
             (6 : Nat) ≤
            (4611686018427387904 : Nat) ∧
           List.length
              ([(136 : UInt8), (0 : UInt8), (0 : UInt8), (0 : UInt8), (32 : UInt8), (0 : UInt8), (0 : UInt8),
                  (0 : UInt8)] ++
                 a ++
                [(2 : UInt8), (1 : UInt8)] ++
               [m0, m1, m2, m3, m4, m5]) =
             (32 : Nat) ∧
            optP
             (ndG
              ([(136 : UInt8), (0 : UInt8), (0 : UInt8), (0 : UInt8), (32 : UInt8), (0 : UInt8), (0 : UInt8),
                  (0 : UInt8)] ++
                 a ++
                [(2 : UInt8), (1 : UInt8)] ++
               [m0, m1, m2, m3, m4, m5])
              (Mc.mk m0 m1 m2 m3 m4 m5) (Mc.mk (51 : UInt8) (51 : UInt8) (0 : UInt8) (0 : UInt8) (0 : UInt8) (1 : UInt8))
              a
              [(255 : UInt8), (2 : UInt8), (0 : UInt8), (0 : UInt8), (0 : UInt8), (0 : UInt8), (0 : UInt8), (0 : UInt8),
               (0 : UInt8), (0 : UInt8), (0 : UInt8), (0 : UInt8), (0 : UInt8), (0 : UInt8), (0 : UInt8), (1 : UInt8)])
             (fun x =>
              K (AVal.tup [AVal.sl (0 : Nat) (0 : Nat) (List.length x) (1 : Nat), AVal.int IntKind.i64 (0 : Int)])
               [ABlk.bytes x])
             (K (AVal.tup [AVal.nilS, AVal.int IntKind.i64 (1 : Int)]) []))))
      (K (AVal.tup [AVal.nilS, AVal.int IntKind.i64 (1 : Int)]) [])))
    (K (AVal.tup [AVal.nilS, AVal.int IntKind.i64 (1 : Int)]) [])) := by kernel_rfl
theorem outriderref04_Claim_p : ∀ args H K, claimRow args H K → fnP Try.prog Tnb23 ann_outriderref04_Claim Try.f21 args H K := by
  intro args H K h
  unfold claimRow at h
  split at h
  · rename_i m0 m1 m2 m3 m4 m5 a
    rw [ref04_Claim_eq]
    revert h; intro hK
    have hB := nbArp_is 1 ⟨m0, m1, m2, m3, m4, m5⟩ ⟨0, 0, 0, 0, 0, 0⟩ a a
    have hN := nbBody_is 136 32 2 a ⟨m0, m1, m2, m3, m4, m5⟩
    simp only at hB hN
    rcases nbClaim_cases ⟨m0, m1, m2, m3, m4, m5⟩ a with ⟨h1, e⟩ | ⟨h1, e⟩ | ⟨h1, e⟩ <;> rw [e] at hK
    · simp only [List.length_append, List.length_cons, List.length_nil, hB, hN]
      repeat' first | (refine And.intro (by first | first | omega | with_reducible exact i64_x256 _ | with_reducible exact i64_w16 _ _ | with_reducible exact i64_sum _ | (repeat' first | with_reducible exact i64_x256 _ | with_reducible exact i64_w16 _ _ | with_reducible exact i64_sum _ | with_reducible apply And.intro) <;> first | omega | (simp only [I64]; omega) | (simp; omega) | (simp; done) | (simp [I64]; omega) | (with_reducible refine impP_i (fun hg => ?_) <;> (try simp only [Bool.and_eq_true, Bool.or_eq_true, Bool.and_eq_false_iff, Bool.or_eq_false_iff, decide_eq_true_eq, decide_eq_false_iff_not, Bool.not_eq_true', Bool.not_eq_false', Bool.not_true, Bool.not_false, Bool.true_and, Bool.and_true, Bool.false_or, Bool.or_false, beq_iff_eq, beq_eq_false_iff_ne, ne_eq] at hg) <;> (first | omega | with_reducible exact i64_x256 _ | with_reducible exact i64_w16 _ _ | with_reducible exact i64_sum _ | (repeat' first | with_reducible exact i64_x256 _ | with_reducible exact i64_w16 _ _ | with_reducible exact i64_sum _ | with_reducible apply And.intro) <;> first | omega | (simp only [I64]; omega) | (simp; omega) | (simp; done) | (simp [I64]; omega)))) ?_) | (refine brP_d (fun h => ?_) (fun h => ?_)) | (refine brP_nd (fun h => ?_) (fun h => ?_)) | (refine brP_i (fun h => ?_) (fun h => ?_) <;> (try simp only [Bool.and_eq_true, Bool.or_eq_true, Bool.and_eq_false_iff, Bool.or_eq_false_iff, decide_eq_true_eq, decide_eq_false_iff_not, Bool.not_eq_true', Bool.not_eq_false', Bool.not_true, Bool.not_false, Bool.true_and, Bool.and_true, Bool.false_or, Bool.or_false, beq_iff_eq, beq_eq_false_iff_ne, ne_eq] at h))
      all_goals first | exact hK | (exfalso; omega) | (exact absurd trivial h)
    · have hlen := nbBody_len (kind := 136) (flags := 32) (opt := 2) (target := a) (m := ⟨m0, m1, m2, m3, m4, m5⟩) (s := 0) (by omega)
      simp only [hB, hN, ndG_eq (show a.length = 16 by omega), hlen]
      simp only [List.length_append, List.length_cons, List.length_nil]
      try rw [near_many (by omega)] at hK
      try rw [every_many] at hK
      repeat' first | (refine And.intro (by first | first | omega | with_reducible exact i64_x256 _ | with_reducible exact i64_w16 _ _ | with_reducible exact i64_sum _ | (repeat' first | with_reducible exact i64_x256 _ | with_reducible exact i64_w16 _ _ | with_reducible exact i64_sum _ | with_reducible apply And.intro) <;> first | omega | (simp only [I64]; omega) | (simp; omega) | (simp; done) | (simp [I64]; omega) | (with_reducible refine impP_i (fun hg => ?_) <;> (try simp only [Bool.and_eq_true, Bool.or_eq_true, Bool.and_eq_false_iff, Bool.or_eq_false_iff, decide_eq_true_eq, decide_eq_false_iff_not, Bool.not_eq_true', Bool.not_eq_false', Bool.not_true, Bool.not_false, Bool.true_and, Bool.and_true, Bool.false_or, Bool.or_false, beq_iff_eq, beq_eq_false_iff_ne, ne_eq] at hg) <;> (first | omega | with_reducible exact i64_x256 _ | with_reducible exact i64_w16 _ _ | with_reducible exact i64_sum _ | (repeat' first | with_reducible exact i64_x256 _ | with_reducible exact i64_w16 _ _ | with_reducible exact i64_sum _ | with_reducible apply And.intro) <;> first | omega | (simp only [I64]; omega) | (simp; omega) | (simp; done) | (simp [I64]; omega)))) ?_) | (refine brP_d (fun h => ?_) (fun h => ?_)) | (refine brP_nd (fun h => ?_) (fun h => ?_)) | (refine brP_i (fun h => ?_) (fun h => ?_) <;> (try simp only [Bool.and_eq_true, Bool.or_eq_true, Bool.and_eq_false_iff, Bool.or_eq_false_iff, decide_eq_true_eq, decide_eq_false_iff_not, Bool.not_eq_true', Bool.not_eq_false', Bool.not_true, Bool.not_false, Bool.true_and, Bool.and_true, Bool.false_or, Bool.or_false, beq_iff_eq, beq_eq_false_iff_ne, ne_eq] at h))
      all_goals first | exact hK | (exfalso; omega) | (exact absurd trivial h)
    · simp only [hB, hN]
      have hal : (nbArpB 1 ⟨m0, m1, m2, m3, m4, m5⟩ a ⟨0, 0, 0, 0, 0, 0⟩ a).length = 28 := by unfold nbArpB Mc.bytes; simp; omega
      simp only [hal, List.length_append, List.length_cons, List.length_nil]
      repeat' first | (refine And.intro (by first | first | omega | with_reducible exact i64_x256 _ | with_reducible exact i64_w16 _ _ | with_reducible exact i64_sum _ | (repeat' first | with_reducible exact i64_x256 _ | with_reducible exact i64_w16 _ _ | with_reducible exact i64_sum _ | with_reducible apply And.intro) <;> first | omega | (simp only [I64]; omega) | (simp; omega) | (simp; done) | (simp [I64]; omega) | (with_reducible refine impP_i (fun hg => ?_) <;> (try simp only [Bool.and_eq_true, Bool.or_eq_true, Bool.and_eq_false_iff, Bool.or_eq_false_iff, decide_eq_true_eq, decide_eq_false_iff_not, Bool.not_eq_true', Bool.not_eq_false', Bool.not_true, Bool.not_false, Bool.true_and, Bool.and_true, Bool.false_or, Bool.or_false, beq_iff_eq, beq_eq_false_iff_ne, ne_eq] at hg) <;> (first | omega | with_reducible exact i64_x256 _ | with_reducible exact i64_w16 _ _ | with_reducible exact i64_sum _ | (repeat' first | with_reducible exact i64_x256 _ | with_reducible exact i64_w16 _ _ | with_reducible exact i64_sum _ | with_reducible apply And.intro) <;> first | omega | (simp only [I64]; omega) | (simp; omega) | (simp; done) | (simp [I64]; omega)))) ?_) | (refine brP_d (fun h => ?_) (fun h => ?_)) | (refine brP_nd (fun h => ?_) (fun h => ?_)) | (refine brP_i (fun h => ?_) (fun h => ?_) <;> (try simp only [Bool.and_eq_true, Bool.or_eq_true, Bool.and_eq_false_iff, Bool.or_eq_false_iff, decide_eq_true_eq, decide_eq_false_iff_not, Bool.not_eq_true', Bool.not_eq_false', Bool.not_true, Bool.not_false, Bool.true_and, Bool.and_true, Bool.false_or, Bool.or_false, beq_iff_eq, beq_eq_false_iff_ne, ne_eq] at h))
      all_goals first | exact hK | (exfalso; omega) | (exact absurd trivial h)
  · exact h.elim
def Tnb24 : Specs := ext Tnb23 21 (claimRow)
theorem Tnb24_sound : TSound Try.prog Tnb24 := ext_sound Tnb23_sound (row_of Tnb23_sound mixed Try.func21 (by decide +kernel) outriderref04_Claim_p)
def ann_neigh_Read : Nat → List Nat × Nat × List (List Nat)
  | _ => ([], 0, [])
set_option maxRecDepth 100000 in
theorem neigh_Read_eq (a0 a1 a2 a3 a4 a5 b0 b1 b2 b3 b4 b5 : UInt8) (ty : Int) (b : List UInt8) (K : AVal → Hp → Prop) : fnP Try.prog Tnb24 ann_neigh_Read Try.f9 [.agg [.byte a0, .byte a1, .byte a2, .byte a3, .byte a4, .byte a5, .byte b0, .byte b1, .byte b2, .byte b3, .byte b4, .byte b5, .int .i64 ty, .str b]] [] K = (
  brP (decide (ty = (2054 : Int)))
    (List.length b ≤ (140737488351232 : Nat) ∧
     K
      (AVal.tup
       [AVal.agg
         [AVal.int IntKind.i64 (nbReadArp b).fst.kind, AVal.byte (nbReadArp b).fst.mac.a0,
          AVal.byte (nbReadArp b).fst.mac.a1, AVal.byte (nbReadArp b).fst.mac.a2, AVal.byte (nbReadArp b).fst.mac.a3,
          AVal.byte (nbReadArp b).fst.mac.a4, AVal.byte (nbReadArp b).fst.mac.a5, AVal.str (nbReadArp b).fst.addr,
          AVal.str (nbReadArp b).fst.target, AVal.bool (nbReadArp b).fst.asked],
        AVal.int IntKind.i64 (nbReadArp b).snd])
      [])
    (brP (decide (ty = (34525 : Int)))
     (List.length b ≤ (140737488351232 : Nat) ∧
      K
       (AVal.tup
        [AVal.agg
          [AVal.int IntKind.i64 (nbReadNd b).fst.kind, AVal.byte (nbReadNd b).fst.mac.a0,
           AVal.byte (nbReadNd b).fst.mac.a1, AVal.byte (nbReadNd b).fst.mac.a2, AVal.byte (nbReadNd b).fst.mac.a3,
           AVal.byte (nbReadNd b).fst.mac.a4, AVal.byte (nbReadNd b).fst.mac.a5, AVal.str (nbReadNd b).fst.addr,
           AVal.str (nbReadNd b).fst.target, AVal.bool (nbReadNd b).fst.asked],
         AVal.int IntKind.i64 (nbReadNd b).snd])
       [])
     (K
      (AVal.tup
       [AVal.agg
         [AVal.int IntKind.i64 (0 : Int), AVal.byte (0 : UInt8), AVal.byte (0 : UInt8), AVal.byte (0 : UInt8),
          AVal.byte (0 : UInt8), AVal.byte (0 : UInt8), AVal.byte (0 : UInt8), AVal.str [], AVal.str [], AVal.bool false],
        AVal.int IntKind.i64 (40 : Int)])
      []))) := by kernel_rfl
theorem neigh_Read_p : ∀ args H K, readRow args H K → fnP Try.prog Tnb24 ann_neigh_Read Try.f9 args H K := by
  intro args H K h
  unfold readRow at h
  split at h
  · obtain ⟨hl, hK⟩ := h
    rw [neigh_Read_eq]
    unfold nbRead at hK
    simp only at hK
    refine brP_d (fun h => ⟨hl, ?_⟩) (fun h => ?_)
    · rw [if_pos h] at hK; exact hK
    rw [if_neg h] at hK
    refine brP_d (fun h => ⟨hl, ?_⟩) (fun h => ?_)
    · rw [if_pos h] at hK; exact hK
    · rw [if_neg h] at hK; exact hK
  · exact h.elim
def Tnb25 : Specs := ext Tnb24 9 (readRow)
theorem Tnb25_sound : TSound Try.prog Tnb25 := ext_sound Tnb24_sound (row_of Tnb24_sound mixed Try.func9 (by decide +kernel) neigh_Read_p)
abbrev Tnb : Specs := Tnb25
theorem Tnb_sound : TSound Try.prog Tnb := Tnb25_sound
end Go.Proofs.Ytcooilllmcgcmaa.Ae

