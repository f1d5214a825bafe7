/- advert.Decode, up to the loop: what is told. -/
import Derived.Test.YtbjolilknkbehaaFde
set_option linter.unusedSimpArgs false
set_option linter.unusedVariables false
set_option maxRecDepth 100000
namespace Go.Proofs.Ytbjolilknkbehaa.Ae
open Go
theorem and15 (x : UInt8) : bits BinOp.and IntKind.i64 (x.toNat : Int) 15 = ((x.toNat % 16 : Nat) : Int) := by
  have h : ∀ n : Nat, n < 256 → bits BinOp.and IntKind.i64 (n : Int) 15 = ((n % 16 : Nat) : Int) := by decide +kernel
  exact h _ x.toNat_lt
theorem or_zero (x y : UInt8) : bits BinOp.or IntKind.i64 (x.toNat : Int) (y.toNat : Int) = 0 ↔ x.toNat = 0 ∧ y.toNat = 0 := by
  have hx := x.toNat_lt
  have hy := y.toNat_lt
  rw [i64_or_nat _ _ (by omega) (by omega)]
  constructor
  · intro h
    have h' : x.toNat ||| y.toNat = 0 := by omega
    exact Nat.or_eq_zero_iff.1 h'
  · rintro ⟨h1, h2⟩
    rw [h1, h2]; rfl
theorem w16_zero (x y : UInt8) : w16 x y = 0 ↔ x.toNat = 0 ∧ y.toNat = 0 := by
  unfold w16
  omega
theorem pseudoL_of {s d x : List UInt8} {p n : Int} (h : pseudo s d p n = some x) : pseudoL s d p n = x := by unfold pseudoL; rw [h]; rfl
theorem rightA_no (l : List UInt8) : rightA l = false ↔ ¬ (l.length = 4 ∨ l.length = 16) := by
  unfold rightA
  simp
theorem w16_big (x y : UInt8) : 4095 < w16 x y ↔ ¬ x.toNat / 16 = 0 := by
  have hy := y.toNat_lt
  unfold w16
  omega
def dcSt (p : Ip) : St := ⟨[(2, .ptr 0 0), (9, .ptr 1 0), (57, .fn 37 [] [.ptr 2 0, .ptr 3 0])], [.vals dcZ, .vals [.int .i64 ((p.body.getD 1 0).toNat : Int), .int .i64 ((p.body.getD 2 0).toNat : Int), .int .i64 (w16 (p.body.getD 4 0) (p.body.getD 5 0)), .nilS], .vals [.str p.body], .vals [.int .i64 (p.src.length : Int)]]⟩
def dcOk (p : Ip) : Prop := (p.src.length = 4 ∨ p.src.length = 16) ∧ p.body.length = 8 + (p.body.getD 3 0).toNat * p.src.length ∧ 1 ≤ (p.body.getD 3 0).toNat ∧ (p.body.getD 3 0).toNat ≤ 8
attribute [local irreducible] awp in
set_option maxHeartbeats 4000000 in
theorem dcPre_p (src dst : List UInt8) (proto ttl : Int) (body : List UInt8) (hb : body.length ≤ 140737488351232) (G : St → Prop) (K : AVal → Hp → Prop)
    (hK : if (adDecode ⟨src, dst, proto, ttl, body⟩).2 = 0 then dcOk ⟨src, dst, proto, ttl, body⟩ → (adDecode ⟨src, dst, proto, ttl, body⟩).1 = ⟨(body.getD 1 0).toNat, (body.getD 2 0).toNat, w16 (body.getD 4 0) (body.getD 5 0), parts src.length (body.drop 8) (body.getD 3 0).toNat⟩ → G (dcSt ⟨src, dst, proto, ttl, body⟩) else K (.tup [.agg dcZ, .int .i64 (adDecode ⟨src, dst, proto, ttl, body⟩).2]) []) :
    awp dcX dcPre (dcS3f src dst proto ttl body) (dcK G K) := by
  generalize hr : adDecode ⟨src, dst, proto, ttl, body⟩ = r at hK
  by_cases hp : ttl = 255 ∧ proto = 112
  case neg =>
    have e : r = (noAdv, 65) := by rw [← hr]; unfold adDecode; exact if_pos (by simp only; omega)
    subst e
    rw [if_neg (by show ¬ (65 : Int) = 0; decide)] at hK
    rw [dcPre_eq]
    refine ⟨by omega, brP_i (fun _ => hK) (fun h => ?_)⟩
    simp only [Bool.and_eq_true, Bool.or_eq_true, Bool.and_eq_false_iff, Bool.or_eq_false_iff, decide_eq_true_eq, decide_eq_false_iff_not, Bool.not_eq_true', Bool.not_eq_false', Bool.not_true, Bool.not_false, Bool.true_and, Bool.and_true, Bool.false_or, Bool.or_false, beq_iff_eq, beq_eq_false_iff_ne, ne_eq] at h
    exact absurd h hp
  obtain ⟨rfl, rfl⟩ := hp
  have x1 := (body.getD 1 0).toNat_lt
  have x3 := (body.getD 3 0).toNat_lt
  have x4 := (body.getD 4 0).toNat_lt
  have x5 := (body.getD 5 0).toNat_lt
  have w4 := w16_bd (body.getD 4 0) (body.getD 5 0)
  have leaf : ∀ (e : Int), r = (noAdv, e) → e ≠ 0 → K (.tup [.agg dcZ, .int .i64 e]) [] := fun e he hne => by
    subst he
    rw [if_neg hne] at hK
    exact hK
  unfold adDecode at hr
  rw [if_neg (by simp)] at hr
  simp only [rightA_no, w16_zero, w16_big] at hr
  have mul : (src.length = 4 ∨ src.length = 16) → 0 ≤ ((body.getD 3 0).toNat : Int) * (src.length : Int) ∧ ((body.getD 3 0).toNat : Int) * (src.length : Int) ≤ 4096 := fun h => by rcases h with h | h <;> rw [h] <;> omega
  have mulN : ((body.getD 3 0).toNat * src.length : Nat) = ((body.getD 3 0).toNat : Int) * (src.length : Int) := by simp
  have hps : (src.length = 4 ∨ src.length = 16) → src.length = dst.length → pseudo src dst 112 (body.length : Int) = some (pseudoL src dst 112 (body.length : Int)) := fun h h2 => by
    unfold pseudoL pseudo
    rw [if_pos ⟨h, h2.symm⟩]; rfl
  rw [dcPre_eq]
  try simp only [or_w16, div2, div3, add_w16, and255, b8_mod, List.set_cons_zero, List.set_cons_succ, andNot_4000, getD_drop, getD_take, b8_byte, b8_toNatN, UInt8.toNat_ofNat', UInt8.toNat_and, nat_mask4, nat_mask6, nat_240, u8_eq_iff, UInt8.reduceToNat, Int.reduceLT, List.take_succ_cons, List.take_zero, List.drop_zero, List.flatten_cons, List.flatten_nil, List.append_nil, List.nil_append, List.take_length, Nat.mul_one, Nat.zero_add, Nat.reduceAdd, Nat.reduceLT]
  try simp only [and15, or_zero]
  generalize hq : ((body.getD 3 0).toNat : Int) * (src.length : Int) = q at *
  have hlq : ¬ (src.length = 4 ∨ src.length = 16) ∨ (0 ≤ q ∧ q ≤ 4096) := by
    by_cases h : src.length = 4 ∨ src.length = 16
    · exact .inr (mul h)
    · exact .inl h
  repeat' first
    | (refine And.intro (by first | first | omega | with_reducible exact i64_x256 _ | with_reducible exact i64_w16 _ _ | with_reducible exact i64_sum _ | (repeat' first | with_reducible exact i64_x256 _ | with_reducible exact i64_w16 _ _ | with_reducible exact i64_sum _ | with_reducible apply And.intro) <;> first | omega | (simp only [I64]; omega) | (simp; omega) | (simp; done) | (simp [I64]; omega) | (with_reducible refine impP_i (fun hg => ?_) <;> (try simp only [Bool.and_eq_true, Bool.or_eq_true, Bool.and_eq_false_iff, Bool.or_eq_false_iff, decide_eq_true_eq, decide_eq_false_iff_not, Bool.not_eq_true', Bool.not_eq_false', Bool.not_true, Bool.not_false, Bool.true_and, Bool.and_true, Bool.false_or, Bool.or_false, beq_iff_eq, beq_eq_false_iff_ne, ne_eq] at hg) <;> (first | omega | with_reducible exact i64_x256 _ | with_reducible exact i64_w16 _ _ | with_reducible exact i64_sum _ | (repeat' first | with_reducible exact i64_x256 _ | with_reducible exact i64_w16 _ _ | with_reducible exact i64_sum _ | with_reducible apply And.intro) <;> first | omega | (simp only [I64]; omega) | (simp; omega) | (simp; done) | (simp [I64]; omega)))) ?_)
    | (refine brP_d (fun h => ?_) (fun h => ?_))
    | (refine optP_i (fun x hx => ?_) (fun hx => ?_) <;> (try have hxl := pseudo_len hx))
    | (refine brP_nd (fun h => ?_) (fun h => ?_))
    | (refine brP_i (fun h => ?_) (fun h => ?_) <;> (try simp only [Bool.and_eq_true, Bool.or_eq_true, Bool.and_eq_false_iff, Bool.or_eq_false_iff, decide_eq_true_eq, decide_eq_false_iff_not, Bool.not_eq_true', Bool.not_eq_false', Bool.not_true, Bool.not_false, Bool.true_and, Bool.and_true, Bool.false_or, Bool.or_false, beq_iff_eq, beq_eq_false_iff_ne, ne_eq] at h))
  all_goals first
    | (exfalso; rw [hps (by omega) (by omega)] at hx; cases hx; done)
    | (try rw [pseudoL_of hx] at hr)
  all_goals repeat' split at hr
  all_goals first
    | exact leaf _ hr.symm (by decide)
    | (exfalso; clear leaf hK; omega)
    | (exfalso; clear leaf hK; simp only at *; omega)
    | (subst hr; rw [if_pos rfl] at hK; exact hK ⟨by simp only; omega, by simp only; omega, by simp only; omega, by simp only; omega⟩ rfl)
end Go.Proofs.Ytbjolilknkbehaa.Ae

