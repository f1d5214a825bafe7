/- advert.Decode, up to the loop: what is told. advert.Decode: the region that makes its two shared variables, in whatever order. advert.Decode: the loop over the body's addresses. advert.Decode: its contract. Chapter 6's Decode and Same as a table. Chapter 5's functions as a table. Plain laws of chapter 6. No program in sight. What chapter 20's functions compute. No program in sight. Chapter 20's gate: lists that are looked through, backends, services. Chapter 20's gate: a backend's answer. Chapter 20's Sort: what a frame is. -/
import Derived.Test.YtnbbaemijogeoaaBsd
import Derived.Test.YtnbbaemijogeoaaBsc
set_option linter.unusedSimpArgs false
set_option linter.unusedVariables false
set_option maxRecDepth 100000
namespace Go.Proofs.Ytnbbaemijogeoaa.Ae
open Go
theorem and15 (x : UInt8) : bits BinOp.and IntKind.i64 (x.toNat : Int) 15 = ((x.toNat % 16 : Nat) : Int) := by
  have h : ∀ n : Nat, n < 256 → bits BinOp.and IntKind.i64 (n : Int) 15 = ((n % 16 : Nat) : Int) := by decide +kernel
  exact h _ x.toNat_lt
theorem or_zero (x y : UInt8) : bits BinOp.or IntKind.i64 (x.toNat : Int) (y.toNat : Int) = 0 ↔ x.toNat = 0 ∧ y.toNat = 0 := by
  have hx := x.toNat_lt
  have hy := y.toNat_lt
  rw [i64_or_nat _ _ (by omega) (by omega)]
  constructor
  · intro h
    have h' : x.toNat ||| y.toNat = 0 := by omega
    exact Nat.or_eq_zero_iff.1 h'
  · rintro ⟨h1, h2⟩
    rw [h1, h2]; rfl
theorem w16_zero (x y : UInt8) : w16 x y = 0 ↔ x.toNat = 0 ∧ y.toNat = 0 := by
  unfold w16
  omega
theorem pseudoL_of {s d x : List UInt8} {p n : Int} (h : pseudo s d p n = some x) : pseudoL s d p n = x := by unfold pseudoL; rw [h]; rfl
theorem rightA_no (l : List UInt8) : rightA l = false ↔ ¬ (l.length = 4 ∨ l.length = 16) := by
  unfold rightA
  simp
theorem w16_big (x y : UInt8) : 4095 < w16 x y ↔ ¬ x.toNat / 16 = 0 := by
  have hy := y.toNat_lt
  unfold w16
  omega
def dcSt (p : Ip) : St := ⟨[(2, .ptr 0 0), (9, .ptr 1 0), (57, .fn 84 [] [.ptr 2 0, .ptr 3 0])], [.vals dcZ, .vals [.int .i64 ((p.body.getD 1 0).toNat : Int), .int .i64 ((p.body.getD 2 0).toNat : Int), .int .i64 (w16 (p.body.getD 4 0) (p.body.getD 5 0)), .nilS], .vals [.str p.body], .vals [.int .i64 (p.src.length : Int)]]⟩
def dcOk (p : Ip) : Prop := (p.src.length = 4 ∨ p.src.length = 16) ∧ p.body.length = 8 + (p.body.getD 3 0).toNat * p.src.length ∧ 1 ≤ (p.body.getD 3 0).toNat ∧ (p.body.getD 3 0).toNat ≤ 8
attribute [local irreducible] awp in
set_option maxHeartbeats 4000000 in
theorem dcPre_p (src dst : List UInt8) (proto ttl : Int) (body : List UInt8) (hb : body.length ≤ 140737488351232) (G : St → Prop) (K : AVal → Hp → Prop)
    (hK : if (adDecode ⟨src, dst, proto, ttl, body⟩).2 = 0 then dcOk ⟨src, dst, proto, ttl, body⟩ → (adDecode ⟨src, dst, proto, ttl, body⟩).1 = ⟨(body.getD 1 0).toNat, (body.getD 2 0).toNat, w16 (body.getD 4 0) (body.getD 5 0), parts src.length (body.drop 8) (body.getD 3 0).toNat⟩ → G (dcSt ⟨src, dst, proto, ttl, body⟩) else K (.tup [.agg dcZ, .int .i64 (adDecode ⟨src, dst, proto, ttl, body⟩).2]) []) :
    awp dcX dcPre (dcS3f src dst proto ttl body) (dcK G K) := by
  generalize hr : adDecode ⟨src, dst, proto, ttl, body⟩ = r at hK
  by_cases hp : ttl = 255 ∧ proto = 112
  case neg =>
    have e : r = (noAdv, 65) := by rw [← hr]; unfold adDecode; exact if_pos (by simp only; omega)
    subst e
    rw [if_neg (by show ¬ (65 : Int) = 0; decide)] at hK
    rw [dcPre_eq]
    refine ⟨by omega, brP_i (fun _ => hK) (fun h => ?_)⟩
    simp only [Bool.and_eq_true, Bool.or_eq_true, Bool.and_eq_false_iff, Bool.or_eq_false_iff, decide_eq_true_eq, decide_eq_false_iff_not, Bool.not_eq_true', Bool.not_eq_false', Bool.not_true, Bool.not_false, Bool.true_and, Bool.and_true, Bool.false_or, Bool.or_false, beq_iff_eq, beq_eq_false_iff_ne, ne_eq] at h
    exact absurd h hp
  obtain ⟨rfl, rfl⟩ := hp
  have x1 := (body.getD 1 0).toNat_lt
  have x3 := (body.getD 3 0).toNat_lt
  have x4 := (body.getD 4 0).toNat_lt
  have x5 := (body.getD 5 0).toNat_lt
  have w4 := w16_bd (body.getD 4 0) (body.getD 5 0)
  have leaf : ∀ (e : Int), r = (noAdv, e) → e ≠ 0 → K (.tup [.agg dcZ, .int .i64 e]) [] := fun e he hne => by
    subst he
    rw [if_neg hne] at hK
    exact hK
  unfold adDecode at hr
  rw [if_neg (by simp)] at hr
  simp only [rightA_no, w16_zero, w16_big] at hr
  have mul : (src.length = 4 ∨ src.length = 16) → 0 ≤ ((body.getD 3 0).toNat : Int) * (src.length : Int) ∧ ((body.getD 3 0).toNat : Int) * (src.length : Int) ≤ 4096 := fun h => by rcases h with h | h <;> rw [h] <;> omega
  have mulN : ((body.getD 3 0).toNat * src.length : Nat) = ((body.getD 3 0).toNat : Int) * (src.length : Int) := by simp
  have hps : (src.length = 4 ∨ src.length = 16) → src.length = dst.length → pseudo src dst 112 (body.length : Int) = some (pseudoL src dst 112 (body.length : Int)) := fun h h2 => by
    unfold pseudoL pseudo
    rw [if_pos ⟨h, h2.symm⟩]; rfl
  rw [dcPre_eq]
  try simp only [or_w16, div2, div3, add_w16, and255, b8_mod, List.set_cons_zero, List.set_cons_succ, andNot_4000, getD_drop, getD_take, b8_byte, b8_toNatN, UInt8.toNat_ofNat', UInt8.toNat_and, nat_mask4, nat_mask6, nat_240, u8_eq_iff, UInt8.reduceToNat, Int.reduceLT, List.take_succ_cons, List.take_zero, List.drop_zero, List.flatten_cons, List.flatten_nil, List.append_nil, List.nil_append, List.take_length, Nat.mul_one, Nat.zero_add, Nat.reduceAdd, Nat.reduceLT]
  try simp only [and15, or_zero]
  generalize hq : ((body.getD 3 0).toNat : Int) * (src.length : Int) = q at *
  have hlq : ¬ (src.length = 4 ∨ src.length = 16) ∨ (0 ≤ q ∧ q ≤ 4096) := by
    by_cases h : src.length = 4 ∨ src.length = 16
    · exact .inr (mul h)
    · exact .inl h
  repeat' first
    | (refine And.intro (by first | first | omega | with_reducible exact i64_x256 _ | with_reducible exact i64_w16 _ _ | with_reducible exact i64_sum _ | (repeat' first | with_reducible exact i64_x256 _ | with_reducible exact i64_w16 _ _ | with_reducible exact i64_sum _ | with_reducible apply And.intro) <;> first | omega | (simp only [I64]; omega) | (simp; omega) | (simp; done) | (simp [I64]; omega) | (with_reducible refine impP_i (fun hg => ?_) <;> (try simp only [Bool.and_eq_true, Bool.or_eq_true, Bool.and_eq_false_iff, Bool.or_eq_false_iff, decide_eq_true_eq, decide_eq_false_iff_not, Bool.not_eq_true', Bool.not_eq_false', Bool.not_true, Bool.not_false, Bool.true_and, Bool.and_true, Bool.false_or, Bool.or_false, beq_iff_eq, beq_eq_false_iff_ne, ne_eq] at hg) <;> (first | omega | with_reducible exact i64_x256 _ | with_reducible exact i64_w16 _ _ | with_reducible exact i64_sum _ | (repeat' first | with_reducible exact i64_x256 _ | with_reducible exact i64_w16 _ _ | with_reducible exact i64_sum _ | with_reducible apply And.intro) <;> first | omega | (simp only [I64]; omega) | (simp; omega) | (simp; done) | (simp [I64]; omega)))) ?_)
    | (refine brP_d (fun h => ?_) (fun h => ?_))
    | (refine optP_i (fun x hx => ?_) (fun hx => ?_) <;> (try have hxl := pseudo_len hx))
    | (refine brP_nd (fun h => ?_) (fun h => ?_))
    | (refine brP_i (fun h => ?_) (fun h => ?_) <;> (try simp only [Bool.and_eq_true, Bool.or_eq_true, Bool.and_eq_false_iff, Bool.or_eq_false_iff, decide_eq_true_eq, decide_eq_false_iff_not, Bool.not_eq_true', Bool.not_eq_false', Bool.not_true, Bool.not_false, Bool.true_and, Bool.and_true, Bool.false_or, Bool.or_false, beq_iff_eq, beq_eq_false_iff_ne, ne_eq] at h))
  all_goals first
    | (exfalso; rw [hps (by omega) (by omega)] at hx; cases hx; done)
    | (try rw [pseudoL_of hx] at hr)
  all_goals repeat' split at hr
  all_goals first
    | exact leaf _ hr.symm (by decide)
    | (exfalso; clear leaf hK; omega)
    | (exfalso; clear leaf hK; simp only at *; omega)
    | (subst hr; rw [if_pos rfl] at hK; exact hK ⟨by simp only; omega, by simp only; omega, by simp only; omega, by simp only; omega⟩ rfl)
end Go.Proofs.Ytnbbaemijogeoaa.Ae

set_option linter.unusedSimpArgs false
set_option linter.unusedVariables false
set_option maxRecDepth 100000
namespace Go.Proofs.Ytnbbaemijogeoaa.Ae
open Go
noncomputable def d1ops : Array Oper := match dc1 with
  | .region _ ops _ => ops
  | _ => #[]
theorem dc1_is : dc1 = .region 1 d1ops true := by kernel_rfl
def d1pr : List (List Nat) := [[], [0], [], [2], [2, 3], [], [], [0, 1, 5, 6]]
theorem d1_size : d1ops.size = 9 := by kernel_rfl
theorem d1_facts : factsOkC d1ops 8 dcX.nt = true := by kernel_rfl
theorem d1_tail : seqTail d1ops 8 = true := by kernel_rfl
theorem d1_preds : predsOk d1ops 0 d1pr = true := by kernel_rfl
noncomputable def d1op (i : Nat) : Oper := (d1ops[i]?).getD default
theorem d1_get : ∀ i, i < 9 → d1ops[i]? = some (d1op i) := fun i h => by
  unfold d1op
  rw [Array.getElem?_eq_getElem (by rw [d1_size]; exact h)]; rfl
theorem d1_guard : (d1op 0).guard = none ∧ (d1op 1).guard = none ∧ (d1op 2).guard = none ∧ (d1op 3).guard = none ∧ (d1op 4).guard = none ∧ (d1op 5).guard = none ∧ (d1op 6).guard = none ∧ (d1op 7).guard = none := by
  refine ⟨?_, ?_, ?_, ?_, ?_, ?_, ?_, ?_⟩ <;> kernel_rfl
/-- what the slots hold -/
def e1 (src dst : List UInt8) (proto ttl : Int) (body : List UInt8) (b0 b1 b2 b3 b4 b5 b6 sw : Bool) : Env :=
  [(1, .rop (dcP src dst proto ttl body)), (2, .ptr 0 0), (3, .int .i64 0), (11, cond b0 (.rop [.str body]) .undef), (12, cond b1 (.str body) .undef), (13, cond b2 (.rop (dcP src dst proto ttl body)) .undef), (14, cond b3 (.str src) .undef), (15, cond b4 (.int .i64 (src.length : Int)) .undef), (4, cond b5 (.ptr (cond sw 2 1) 0) .undef), (5, cond b6 (.ptr (cond sw 1 2) 0) .undef)]
/-- what was made, in the order in which it was -/
def h1 (body : List UInt8) (b5 b6 b7 sw : Bool) : Hp := .vals dcZ :: cond b5 (cond b6 (cond sw [.vals [.int .i64 0], .vals [.str (cond b7 body [])]] [.vals [.str (cond b7 body [])], .vals [.int .i64 0]]) [.vals [.str (cond b7 body [])]]) (cond b6 [.vals [.int .i64 0]] [])
def A1 (R0 : Nat → Prop) (w0 : World) (m0 : Mp) (H0 : Hp) (src dst : List UInt8) (proto ttl : Int) (body : List UInt8) (p : Nat → Bool) (a : Act) (w : World) : Prop :=
  ∃ sw : Bool, (p 5 = true → p 6 = false → sw = false) ∧ (p 6 = true → p 5 = false → sw = true) ∧ ∃ R m, Far R0 w0 m0 H0 R w m (h1 body (p 5) (p 6) (p 7) sw) ∧ EnvR R w m (h1 body (p 5) (p 6) (p 7) sw) (e1 src dst proto ttl body (p 0) (p 1) (p 2) (p 3) (p 4) (p 5) (p 6) sw) a
theorem d1_op0 (src dst : List UInt8) (proto ttl : Int) (body : List UInt8) (b1 b2 b3 b4 b5 b6 b7 sw : Bool) : opF Try.prog (d1op 0).op (e1 src dst proto ttl body false b1 b2 b3 b4 b5 b6 sw) (h1 body b5 b6 b7 sw) = some ⟨none, .rop [.str body], noEff⟩ := by kernel_rfl
theorem d1_op1 (src dst : List UInt8) (proto ttl : Int) (body : List UInt8) (b2 b3 b4 b5 b6 b7 sw : Bool) : opF Try.prog (d1op 1).op (e1 src dst proto ttl body true false b2 b3 b4 b5 b6 sw) (h1 body b5 b6 b7 sw) = some ⟨none, .str body, noEff⟩ := by kernel_rfl
theorem d1_op2 (src dst : List UInt8) (proto ttl : Int) (body : List UInt8) (b0 b1 b3 b4 b5 b6 b7 sw : Bool) : opF Try.prog (d1op 2).op (e1 src dst proto ttl body b0 b1 false b3 b4 b5 b6 sw) (h1 body b5 b6 b7 sw) = some ⟨none, .rop (dcP src dst proto ttl body), noEff⟩ := by kernel_rfl
theorem d1_op3 (src dst : List UInt8) (proto ttl : Int) (body : List UInt8) (b0 b1 b4 b5 b6 b7 sw : Bool) : opF Try.prog (d1op 3).op (e1 src dst proto ttl body b0 b1 true false b4 b5 b6 sw) (h1 body b5 b6 b7 sw) = some ⟨none, .str src, noEff⟩ := by kernel_rfl
theorem d1_op4 (src dst : List UInt8) (proto ttl : Int) (body : List UInt8) (b0 b1 b5 b6 b7 sw : Bool) : opF Try.prog (d1op 4).op (e1 src dst proto ttl body b0 b1 true true false b5 b6 sw) (h1 body b5 b6 b7 sw) = some ⟨none, .int .i64 (src.length : Int), noEff⟩ := by kernel_rfl
theorem d1_op5a (src dst : List UInt8) (proto ttl : Int) (body : List UInt8) (b0 b1 b2 b3 b4 b7 sw : Bool) : opF Try.prog (d1op 5).op (e1 src dst proto ttl body b0 b1 b2 b3 b4 false false sw) (h1 body false false b7 sw) = some ⟨none, .ptr 1 0, ⟨[], [.vals [.str []]]⟩⟩ := by kernel_rfl
theorem d1_op5b (src dst : List UInt8) (proto ttl : Int) (body : List UInt8) (b0 b1 b2 b3 b4 b7 sw : Bool) : opF Try.prog (d1op 5).op (e1 src dst proto ttl body b0 b1 b2 b3 b4 false true sw) (h1 body false true b7 sw) = some ⟨none, .ptr 2 0, ⟨[], [.vals [.str []]]⟩⟩ := by kernel_rfl
theorem d1_op6a (src dst : List UInt8) (proto ttl : Int) (body : List UInt8) (b0 b1 b2 b3 b4 b7 sw : Bool) : opF Try.prog (d1op 6).op (e1 src dst proto ttl body b0 b1 b2 b3 b4 false false sw) (h1 body false false b7 sw) = some ⟨none, .ptr 1 0, ⟨[], [.vals [.int .i64 0]]⟩⟩ := by kernel_rfl
theorem d1_op6b (src dst : List UInt8) (proto ttl : Int) (body : List UInt8) (b0 b1 b2 b3 b4 b7 sw : Bool) : opF Try.prog (d1op 6).op (e1 src dst proto ttl body b0 b1 b2 b3 b4 true false sw) (h1 body true false b7 sw) = some ⟨none, .ptr 2 0, ⟨[], [.vals [.int .i64 0]]⟩⟩ := by kernel_rfl
theorem d1_op7a (src dst : List UInt8) (proto ttl : Int) (body : List UInt8) (b2 b3 b4 : Bool) : opF Try.prog (d1op 7).op (e1 src dst proto ttl body true true b2 b3 b4 true true false) (h1 body true true false false) = some ⟨none, .undef, ⟨[(1, .vals [.str body])], []⟩⟩ := by kernel_rfl
theorem d1_op7b (src dst : List UInt8) (proto ttl : Int) (body : List UInt8) (b2 b3 b4 : Bool) : opF Try.prog (d1op 7).op (e1 src dst proto ttl body true true b2 b3 b4 true true true) (h1 body true true false true) = some ⟨none, .undef, ⟨[(2, .vals [.str body])], []⟩⟩ := by kernel_rfl
theorem d1_dst : (d1op 0).dst = some 11 ∧ (d1op 1).dst = some 12 ∧ (d1op 2).dst = some 13 ∧ (d1op 3).dst = some 14 ∧ (d1op 4).dst = some 15 ∧ (d1op 5).dst = some 4 ∧ (d1op 6).dst = some 5 ∧ (d1op 7).dst = none := by
  refine ⟨?_, ?_, ?_, ?_, ?_, ?_, ?_, ?_⟩ <;> kernel_rfl
theorem d1_env (R : Nat → Prop) (w : World) (m : Mp) (H : Hp) (a : Act) (env env' : Env) (d : Nat) (v : AVal) (hE : EnvR R w m H ((d, v) :: env) a) (h1 : eget d env' = v) (h2 : ∀ t, Nat.beq t d = false → eget t env' = eget t env) : EnvR R w m H env' a := fun t => by
  have := hE t
  simp only [eget] at this
  cases hb : Nat.beq t d with
  | true =>
    rw [hb] at this
    obtain rfl := Nat.eq_of_beq_eq_true hb
    rw [h1]; exact this
  | false =>
    rw [hb] at this
    rw [h2 t hb]; exact this
theorem d1_step (R0 : Nat → Prop) (w0 : World) (m0 : Mp) (H0 : Hp) (src dst : List UInt8) (proto ttl : Int) (body : List UInt8) (p p' : Nat → Bool) (i : Nat) (o : Oper) (a : Act) (w : World) (hi : i < 8) (ho : d1ops[i]? = some o) (hclo : Clo d1pr p 8) (hp : p i = false) (hpre : ∀ j ∈ nthL i d1pr, p j = true) (hp' : p' i = true)
    (hpo : ∀ k, k ≠ i → p' k = p k) (hsz : a.tmps.size = dcX.nt) (hA : A1 R0 w0 m0 H0 src dst proto ttl body p a w) :
    (Region.wanted o (yielded d1ops a.tmps) = true ∧ gives dcX.P o a w fun x w' => A1 R0 w0 m0 H0 src dst proto ttl body p' (a.put o.dst x) w') ∨ (Region.wanted o (yielded d1ops a.tmps) = false ∧ A1 R0 w0 m0 H0 src dst proto ttl body p' (a.put o.dst undef) w) := by
  left
  have hnt : dcX.nt = 66 := by kernel_rfl
  have eo : o = d1op i := by
    rw [d1_get i (by omega)] at ho
    exact (Option.some.inj ho).symm
  subst eo
  have h75 : p 7 = true → p 5 = true ∧ p 6 = true := fun h => ⟨hclo 7 (by omega) h 5 (by simp [nthL, d1pr]), hclo 7 (by omega) h 6 (by simp [nthL, d1pr])⟩
  obtain ⟨g0, g1, g2, g3, g4, g5, g6, g7⟩ := d1_guard
  obtain ⟨t0, t1, t2, t3, t4, t5, t6, t7⟩ := d1_dst
  obtain ⟨sw, s5, s6, R, m, hF, hE⟩ := hA
  have mono : ∀ {S S' : Value → World → Prop} {r : Result Next}, givesUpon Try.prog S r → (∀ x w', S x w' → S' x w') → givesUpon Try.prog S' r := fun {S S' r} h hs => by
    cases r with
    | ok n w' =>
      cases n <;> simp only [givesUpon] at h ⊢
      case value u => exact hs _ _ h
      case skip => exact hs _ _ h
      case enter f args => exact Calls.mono h fun e w'' ⟨v, he, hr⟩ => ⟨v, he, hs _ _ hr⟩
    | halt x w' => simp only [givesUpon] at h
  have ok : ∀ d, d < 66 → dstOk a.tmps.size (some d) = true := fun d h => by
    rw [hsz, hnt]; exact Nat.ble_eq_true_of_le h
  have hc : i = 0 ∨ i = 1 ∨ i = 2 ∨ i = 3 ∨ i = 4 ∨ i = 5 ∨ i = 6 ∨ i = 7 := by omega
  rcases hc with rfl | rfl | rfl | rfl | rfl | rfl | rfl | rfl
  · refine ⟨by simp [Region.wanted, g0], ?_⟩
    rw [hp] at hE
    refine mono (gstep (P := Try.prog) hF hE (d1_op0 ..) (by rw [t0]; exact ok 11 (by omega))) fun x w' ⟨R', m', F', E'⟩ => ⟨sw, ?_, ?_, R', m', ?_, ?_⟩
    · rw [hpo 5 (by omega), hpo 6 (by omega)]; exact s5
    · rw [hpo 5 (by omega), hpo 6 (by omega)]; exact s6
    · rw [noEff_app] at F'; rw [hpo 5 (by omega), hpo 6 (by omega), hpo 7 (by omega)]; exact F'
    · rw [hpo 1 (by omega), hpo 2 (by omega), hpo 3 (by omega), hpo 4 (by omega), hpo 5 (by omega), hpo 6 (by omega), hpo 7 (by omega), hp', t0]
      rw [noEff_app, t0] at E'
      exact d1_env R' w' m' _ _ _ _ 11 _ E' rfl fun t ht => by simp only [e1, eget, ht, cond_false]
  · refine ⟨by simp [Region.wanted, g1], ?_⟩
    have q0 := hpre 0 (by simp [nthL, d1pr])
    rw [q0, hp] at hE
    refine mono (gstep (P := Try.prog) hF hE (d1_op1 ..) (by rw [t1]; exact ok 12 (by omega))) fun x w' ⟨R', m', F', E'⟩ => ⟨sw, ?_, ?_, R', m', ?_, ?_⟩
    · rw [hpo 5 (by omega), hpo 6 (by omega)]; exact s5
    · rw [hpo 5 (by omega), hpo 6 (by omega)]; exact s6
    · rw [noEff_app] at F'; rw [hpo 5 (by omega), hpo 6 (by omega), hpo 7 (by omega)]; exact F'
    · rw [hpo 0 (by omega), hpo 2 (by omega), hpo 3 (by omega), hpo 4 (by omega), hpo 5 (by omega), hpo 6 (by omega), hpo 7 (by omega), q0, hp', t1]
      rw [noEff_app, t1] at E'
      exact d1_env R' w' m' _ _ _ _ 12 _ E' rfl fun t ht => by simp only [e1, eget, ht, cond_false]
  · refine ⟨by simp [Region.wanted, g2], ?_⟩
    rw [hp] at hE
    refine mono (gstep (P := Try.prog) hF hE (d1_op2 ..) (by rw [t2]; exact ok 13 (by omega))) fun x w' ⟨R', m', F', E'⟩ => ⟨sw, ?_, ?_, R', m', ?_, ?_⟩
    · rw [hpo 5 (by omega), hpo 6 (by omega)]; exact s5
    · rw [hpo 5 (by omega), hpo 6 (by omega)]; exact s6
    · rw [noEff_app] at F'; rw [hpo 5 (by omega), hpo 6 (by omega), hpo 7 (by omega)]; exact F'
    · rw [hpo 0 (by omega), hpo 1 (by omega), hpo 3 (by omega), hpo 4 (by omega), hpo 5 (by omega), hpo 6 (by omega), hpo 7 (by omega), hp', t2]
      rw [noEff_app, t2] at E'
      exact d1_env R' w' m' _ _ _ _ 13 _ E' rfl fun t ht => by simp only [e1, eget, ht, cond_false]
  · refine ⟨by simp [Region.wanted, g3], ?_⟩
    have q2 := hpre 2 (by simp [nthL, d1pr])
    rw [q2, hp] at hE
    refine mono (gstep (P := Try.prog) hF hE (d1_op3 ..) (by rw [t3]; exact ok 14 (by omega))) fun x w' ⟨R', m', F', E'⟩ => ⟨sw, ?_, ?_, R', m', ?_, ?_⟩
    · rw [hpo 5 (by omega), hpo 6 (by omega)]; exact s5
    · rw [hpo 5 (by omega), hpo 6 (by omega)]; exact s6
    · rw [noEff_app] at F'; rw [hpo 5 (by omega), hpo 6 (by omega), hpo 7 (by omega)]; exact F'
    · rw [hpo 0 (by omega), hpo 1 (by omega), hpo 2 (by omega), hpo 4 (by omega), hpo 5 (by omega), hpo 6 (by omega), hpo 7 (by omega), q2, hp', t3]
      rw [noEff_app, t3] at E'
      exact d1_env R' w' m' _ _ _ _ 14 _ E' rfl fun t ht => by simp only [e1, eget, ht, cond_false]
  · refine ⟨by simp [Region.wanted, g4], ?_⟩
    have q2 := hpre 2 (by simp [nthL, d1pr])
    have q3 := hpre 3 (by simp [nthL, d1pr])
    rw [q2, q3, hp] at hE
    refine mono (gstep (P := Try.prog) hF hE (d1_op4 ..) (by rw [t4]; exact ok 15 (by omega))) fun x w' ⟨R', m', F', E'⟩ => ⟨sw, ?_, ?_, R', m', ?_, ?_⟩
    · rw [hpo 5 (by omega), hpo 6 (by omega)]; exact s5
    · rw [hpo 5 (by omega), hpo 6 (by omega)]; exact s6
    · rw [noEff_app] at F'; rw [hpo 5 (by omega), hpo 6 (by omega), hpo 7 (by omega)]; exact F'
    · rw [hpo 0 (by omega), hpo 1 (by omega), hpo 2 (by omega), hpo 3 (by omega), hpo 5 (by omega), hpo 6 (by omega), hpo 7 (by omega), q2, q3, hp', t4]
      rw [noEff_app, t4] at E'
      exact d1_env R' w' m' _ _ _ _ 15 _ E' rfl fun t ht => by simp only [e1, eget, ht, cond_false]
  · refine ⟨by simp [Region.wanted, g5], ?_⟩
    have h7 : p 7 = false := by
      cases h : p 7 with
      | false => rfl
      | true => have := h75 h; rw [this.1] at hp; cases hp
    cases ho6 : p 6 with
    | false =>
      rw [hp, ho6, h7] at hF hE
      refine mono (gstep (P := Try.prog) hF hE (d1_op5a ..) (by rw [t5]; exact ok 4 (by omega))) fun x w' ⟨R', m', F', E'⟩ => ⟨false, ?_, ?_, R', m', ?_, ?_⟩
      · rw [hp', hpo 6 (by omega), ho6]; intro h1 h2; first | rfl | (exfalso; revert h1 h2; decide)
      · rw [hp', hpo 6 (by omega), ho6]; intro h1 h2; first | rfl | (exfalso; revert h1 h2; decide)
      · rw [hp', hpo 6 (by omega), hpo 7 (by omega), ho6, h7]; exact F'
      · rw [hpo 0 (by omega), hpo 1 (by omega), hpo 2 (by omega), hpo 3 (by omega), hpo 4 (by omega), hpo 6 (by omega), hpo 7 (by omega), hp', ho6, h7, t5]
        rw [t5] at E'
        exact d1_env R' w' m' _ _ _ _ 4 _ E' rfl fun t ht => by simp only [e1, eget, ht, cond_false, cond_true]
    | true =>
      obtain rfl := s6 ho6 hp
      rw [hp, ho6, h7] at hF hE
      refine mono (gstep (P := Try.prog) hF hE (d1_op5b ..) (by rw [t5]; exact ok 4 (by omega))) fun x w' ⟨R', m', F', E'⟩ => ⟨true, ?_, ?_, R', m', ?_, ?_⟩
      · rw [hp', hpo 6 (by omega), ho6]; intro h1 h2; first | rfl | (exfalso; revert h1 h2; decide)
      · rw [hp', hpo 6 (by omega), ho6]; intro h1 h2; first | rfl | (exfalso; revert h1 h2; decide)
      · rw [hp', hpo 6 (by omega), hpo 7 (by omega), ho6, h7]; exact F'
      · rw [hpo 0 (by omega), hpo 1 (by omega), hpo 2 (by omega), hpo 3 (by omega), hpo 4 (by omega), hpo 6 (by omega), hpo 7 (by omega), hp', ho6, h7, t5]
        rw [t5] at E'
        exact d1_env R' w' m' _ _ _ _ 4 _ E' rfl fun t ht => by simp only [e1, eget, ht, cond_false, cond_true]
  · refine ⟨by simp [Region.wanted, g6], ?_⟩
    have h7 : p 7 = false := by
      cases h : p 7 with
      | false => rfl
      | true => have := h75 h; rw [this.2] at hp; cases hp
    cases ho5 : p 5 with
    | false =>
      rw [hp, ho5, h7] at hF hE
      refine mono (gstep (P := Try.prog) hF hE (d1_op6a ..) (by rw [t6]; exact ok 5 (by omega))) fun x w' ⟨R', m', F', E'⟩ => ⟨true, ?_, ?_, R', m', ?_, ?_⟩
      · rw [hpo 5 (by omega), ho5, hp']; intro h1 h2; first | rfl | (exfalso; revert h1 h2; decide)
      · rw [hpo 5 (by omega), ho5, hp']; intro h1 h2; first | rfl | (exfalso; revert h1 h2; decide)
      · rw [hp', hpo 5 (by omega), hpo 7 (by omega), ho5, h7]; exact F'
      · rw [hpo 0 (by omega), hpo 1 (by omega), hpo 2 (by omega), hpo 3 (by omega), hpo 4 (by omega), hpo 5 (by omega), hpo 7 (by omega), hp', ho5, h7, t6]
        rw [t6] at E'
        exact d1_env R' w' m' _ _ _ _ 5 _ E' rfl fun t ht => by simp only [e1, eget, ht, cond_false, cond_true]
    | true =>
      obtain rfl := s5 ho5 hp
      rw [hp, ho5, h7] at hF hE
      refine mono (gstep (P := Try.prog) hF hE (d1_op6b ..) (by rw [t6]; exact ok 5 (by omega))) fun x w' ⟨R', m', F', E'⟩ => ⟨false, ?_, ?_, R', m', ?_, ?_⟩
      · rw [hpo 5 (by omega), ho5, hp']; intro h1 h2; first | rfl | (exfalso; revert h1 h2; decide)
      · rw [hpo 5 (by omega), ho5, hp']; intro h1 h2; first | rfl | (exfalso; revert h1 h2; decide)
      · rw [hp', hpo 5 (by omega), hpo 7 (by omega), ho5, h7]; exact F'
      · rw [hpo 0 (by omega), hpo 1 (by omega), hpo 2 (by omega), hpo 3 (by omega), hpo 4 (by omega), hpo 5 (by omega), hpo 7 (by omega), hp', ho5, h7, t6]
        rw [t6] at E'
        exact d1_env R' w' m' _ _ _ _ 5 _ E' rfl fun t ht => by simp only [e1, eget, ht, cond_false, cond_true]
  · refine ⟨by simp [Region.wanted, g7], ?_⟩
    have q0 := hpre 0 (by simp [nthL, d1pr])
    have q1 := hpre 1 (by simp [nthL, d1pr])
    have q5 := hpre 5 (by simp [nthL, d1pr])
    have q6 := hpre 6 (by simp [nthL, d1pr])
    rw [q0, q1, q5, q6, hp] at hE
    rw [q5, q6, hp] at hF
    cases sw with
    | false =>
      refine mono (gstep (P := Try.prog) hF hE (d1_op7a ..) (by rw [t7]; rfl)) fun x w' ⟨R', m', F', E'⟩ => ⟨false, ?_, ?_, R', m', ?_, ?_⟩
      · rw [hpo 5 (by omega), hpo 6 (by omega)]; exact s5
      · rw [hpo 5 (by omega), hpo 6 (by omega)]; exact s6
      · rw [hpo 5 (by omega), hpo 6 (by omega), hp', q5, q6]; exact F'
      · rw [hpo 0 (by omega), hpo 1 (by omega), hpo 2 (by omega), hpo 3 (by omega), hpo 4 (by omega), hpo 5 (by omega), hpo 6 (by omega), q0, q1, q5, q6, hp', t7]
        rw [t7] at E'
        exact E'
    | true =>
      refine mono (gstep (P := Try.prog) hF hE (d1_op7b ..) (by rw [t7]; rfl)) fun x w' ⟨R', m', F', E'⟩ => ⟨true, ?_, ?_, R', m', ?_, ?_⟩
      · rw [hpo 5 (by omega), hpo 6 (by omega)]; exact s5
      · rw [hpo 5 (by omega), hpo 6 (by omega)]; exact s6
      · rw [hpo 5 (by omega), hpo 6 (by omega), hp', q5, q6]; exact F'
      · rw [hpo 0 (by omega), hpo 1 (by omega), hpo 2 (by omega), hpo 3 (by omega), hpo 4 (by omega), hpo 5 (by omega), hpo 6 (by omega), q0, q1, q5, q6, hp', t7]
        rw [t7] at E'
        exact E'
theorem d1_enda (src dst : List UInt8) (proto ttl : Int) (body : List UInt8) : opsP dcX d1ops.toList (d1ops.toList.drop 8) ⟨e1 src dst proto ttl body true true true true true true true false, h1 body true true true false⟩ (fun s => normK 0 [1, 2, 3, 4, 5] s fun s => s = dcS2 src dst proto ttl body) = (dcS2 src dst proto ttl body = dcS2 src dst proto ttl body) := by kernel_rfl
theorem d1_endb (src dst : List UInt8) (proto ttl : Int) (body : List UInt8) : opsP dcX d1ops.toList (d1ops.toList.drop 8) ⟨e1 src dst proto ttl body true true true true true true true true, h1 body true true true true⟩ (fun s => normK 0 [1, 2, 3, 4, 5] s fun s => s = dcS2 src dst proto ttl body) = (dcS2 src dst proto ttl body = dcS2 src dst proto ttl body) := by kernel_rfl
attribute [local irreducible] opsP in
theorem d1_end (src dst : List UInt8) (proto ttl : Int) (body : List UInt8) (sw : Bool) : opsP dcX d1ops.toList (d1ops.toList.drop 8) ⟨e1 src dst proto ttl body true true true true true true true sw, h1 body true true true sw⟩ (fun s => normK 0 [1, 2, 3, 4, 5] s fun s => s = dcS2 src dst proto ttl body) := by
  cases sw with
  | false => rw [d1_enda]
  | true => rw [d1_endb]
theorem dc1_ok (src dst : List UInt8) (proto ttl : Int) (body : List UInt8) : CodeOk dcX dc1 (dcS1 src dst proto ttl body) .normal (dcS2 src dst proto ttl body) := by
  intro R0 w0 m0 H0 hl hS0 a w hI
  obtain ⟨⟨R, m, F0, hE⟩, hsz, hnd⟩ := hI
  rw [dc1_is]
  refine wp_region_any mixed ?_
  have hdr := F0.sim.drew
  have F1 := F0.trans hdr.far
  have hE1 := hE.far hdr.far F0.sim
  have hrep : ∀ i, (Array.replicate d1ops.size false).getD i false = false := fun i => by
    rw [Array.getD_eq_getD_getElem?, Array.getElem?_replicate]; split <;> rfl
  have hA0 : A1 R0 w0 m0 H0 src dst proto ttl body (fun k => (Array.replicate d1ops.size false).getD k false) a w.drew := by
    refine ⟨false, fun _ _ => rfl, fun h => ?_, R, m, ?_, ?_⟩
    · simp only [hrep] at h; cases h
    · simp only [hrep]; exact F1
    · simp only [hrep]
      refine EnvR.sub hE1 fun t => ?_
      simp only [e1, eget, dcS1, cond_false]
      cases Nat.beq t 1 <;> cases Nat.beq t 2 <;> cases Nat.beq t 3 <;> simp
  have key := any_gen (X := dcX) (ops := d1ops) (pr := d1pr) (nb := 8) (nt := dcX.nt) (Q := fun e1 a1 w1 => ExR .normal e1 ∧ Inv dcX.nt R0 w0 m0 H0 a1 w1 (dcS2 src dst proto ttl body)) (A := A1 R0 w0 m0 H0 src dst proto ttl body) (factsC_of d1_facts) d1_tail (fun i hi => by
      obtain ⟨o, h1, h2⟩ := predsOk_get d1_preds i (by simp [d1pr]; omega)
      rw [Nat.zero_add] at h1 h2
      exact ⟨o, h1, h2⟩) (fun p p' i o a w hi ho hc hno hps h1 h2 hs' hA => d1_step R0 w0 m0 H0 src dst proto ttl body p p' i o a w hi ho hc hno hps h1 h2 hs' hA) (fun a' w' hA hs' hn' => ?_) 8 (Array.replicate d1ops.size false) a w.drew hA0 hsz hnd (by simp) (fun i _ => hrep i) (fun k o _ hkl => by rw [hrep] at hkl; cases hkl) (by
      have : ∀ (r : List Nat), (r.filter fun i => !(Array.replicate d1ops.size false).getD i false) = r := fun r => by
        apply List.filter_eq_self.2
        intro i _
        rw [hrep i]; rfl
      rw [this]; simp)
  · rw [show 8 + (d1ops.size - 8) = d1ops.size from by rw [d1_size]] at key
    exact key
  · obtain ⟨sw, _, _, R', m', F', E'⟩ := hA
    obtain ⟨s', hk, hs⟩ := opsP_sound (X := dcX) Tdc_sound (d1_end src dst proto ttl body sw)
    rw [normK_iff] at hk
    refine hs R0 w0 m0 H0 a' w' ⟨⟨R', m', F', E'⟩, hs', hn'⟩ _ fun a2 w2 hI2 => ⟨rfl, ?_⟩
    have h2 := hI2.norm hS0 [1, 2, 3, 4, 5]
    rw [hl] at h2
    have hk' : _ = dcS2 src dst proto ttl body := hk
    rw [← hk']
    exact h2
end Go.Proofs.Ytnbbaemijogeoaa.Ae

set_option linter.unusedSimpArgs false
set_option linter.unusedVariables false
set_option maxRecDepth 100000
namespace Go.Proofs.Ytnbbaemijogeoaa.Ae
open Go Go.RowKit
noncomputable def dcR : Code := cAt [.r, .r, .r, .r, .r, .l, .r, .b] dcB
noncomputable def dc6 : Code := cAt [.r, .r, .r, .r, .r, .r] dcB
noncomputable def opsAt (c : Code) : Array Oper := match c with
  | .region _ ops _ => ops
  | _ => #[]
noncomputable def rfAssign : Code := match dcR with
  | .rangeFunc _ _ a _ => a
  | _ => .skip
noncomputable def rfBody : Code := match dcR with
  | .rangeFunc _ _ _ b => b
  | _ => .skip
noncomputable def ops11 : Array Oper := opsAt rfAssign
noncomputable def ops12 : Array Oper := match rfBody with
  | .block _ c => opsAt c
  | _ => #[]
noncomputable def ops13 : Array Oper := opsAt (cAt [.l] dc6)
theorem dcB_is : dcB = .seq dc0 (.seq dc1 (.seq dc2 (.seq dc3 (.seq dc4 (.seq (.seq dc5 (.block 2 dcR)) dc6))))) := by kernel_rfl
theorem dcR_is : dcR = .rangeFunc (.tmp 57) #[58] rfAssign rfBody := by kernel_rfl
theorem rfAssign_is : rfAssign = .region 11 ops11 false := by kernel_rfl
theorem rfBody_is : rfBody = .block 3 (.region 12 ops12 false) := by kernel_rfl
theorem dc6_is : dc6 = .seq (.region 13 ops13 false) .ret := by kernel_rfl
theorem ops11_s : simpleL ops11.toList = true := by kernel_rfl
noncomputable def o11 : Oper := (ops11[0]?).getD default
theorem ops11_is : ops11.toList = [o11] := by kernel_rfl
theorem o11_is : o11.guard = none ∧ o11.op = .assign (.tmp 58) ∧ o11.dst = some 10 := by
  refine ⟨?_, ?_, ?_⟩ <;> kernel_rfl
theorem ops12_s : simpleL ops12.toList = true := by kernel_rfl
theorem ops13_s : simpleL ops13.toList = true := by kernel_rfl
def rfE : Env := [(2, .ptr 0 0), (9, .ptr 1 0), (57, .fn 84 [] [.ptr 2 0, .ptr 3 0])]
def rfA (i j q : Int) (body : List UInt8) (n : Nat) (s : AVal) : Hp := [.vals dcZ, .vals [.int .i64 i, .int .i64 j, .int .i64 q, s], .vals [.str body], .vals [.int .i64 (n : Int)]]
set_option maxRecDepth 100000 in
theorem rf_first (i j q : Int) (body : List UInt8) (n : Nat) (x : List UInt8) (G : St → Prop) : opsP dcX ops12.toList ops12.toList ⟨(10, .str x) :: rfE, rfA i j q body n .nilS⟩ (fun s => egets s.env [2, 9, 57] = egets rfE [2, 9, 57] ∧ normK 0 [2, 9, 57] s G) = (
 (16 : Nat) ≤ (140737488355328 : Nat) ∧
 [AVal.ptr (0 : Nat) (0 : Nat), AVal.ptr (1 : Nat) (0 : Nat),
 AVal.fn 84 [] [AVal.ptr (2 : Nat) (0 : Nat), AVal.ptr (3 : Nat) (0 : Nat)]] =
 [AVal.ptr (0 : Nat) (0 : Nat), AVal.ptr (1 : Nat) (0 : Nat),
 AVal.fn 84 [] [AVal.ptr (2 : Nat) (0 : Nat), AVal.ptr (3 : Nat) (0 : Nat)]] ∧
 G
 (St.mk
 [((2 : Nat), AVal.ptr (0 : Nat) (0 : Nat)), ((9 : Nat), AVal.ptr (1 : Nat) (0 : Nat)),
 ((57 : Nat), AVal.fn 84 [] [AVal.ptr (2 : Nat) (0 : Nat), AVal.ptr (3 : Nat) (0 : Nat)])]
 [ABlk.vals
 [AVal.int IntKind.i64 (0 : Int), AVal.int IntKind.i64 (0 : Int), AVal.int IntKind.i64 (0 : Int), AVal.nilS],
 ABlk.vals
 [AVal.int IntKind.i64 i, AVal.int IntKind.i64 j, AVal.int IntKind.i64 q,
 AVal.sl (4 : Nat) (0 : Nat) (1 : Nat) (1 : Nat)],
 ABlk.vals [AVal.str body], ABlk.vals [AVal.int IntKind.i64 (↑n : Int)], ABlk.vals [AVal.str x]])) := by kernel_rfl
set_option maxRecDepth 100000 in
theorem rf_next (i j q : Int) (body : List UInt8) (n : Nat) (x : List UInt8) (k : Nat) (cs : List AVal) (G : St → Prop) : opsP dcX ops12.toList ops12.toList ⟨(10, .str x) :: rfE, rfA i j q body n (.sl 4 0 k 1) ++ [.flat cs]⟩ (fun s => egets s.env [2, 9, 57] = egets rfE [2, 9, 57] ∧ normK 0 [2, 9, 57] s G) = (
 ((k + (1 : Nat)) * (16 : Nat) ≤ (140737488355328 : Nat) ∧ List.length cs = k * (1 : Nat)) ∧
 [AVal.ptr (0 : Nat) (0 : Nat), AVal.ptr (1 : Nat) (0 : Nat),
 AVal.fn 84 [] [AVal.ptr (2 : Nat) (0 : Nat), AVal.ptr (3 : Nat) (0 : Nat)]] =
 [AVal.ptr (0 : Nat) (0 : Nat), AVal.ptr (1 : Nat) (0 : Nat),
 AVal.fn 84 [] [AVal.ptr (2 : Nat) (0 : Nat), AVal.ptr (3 : Nat) (0 : Nat)]] ∧
 G
 (St.mk
 [((2 : Nat), AVal.ptr (0 : Nat) (0 : Nat)), ((9 : Nat), AVal.ptr (1 : Nat) (0 : Nat)),
 ((57 : Nat), AVal.fn 84 [] [AVal.ptr (2 : Nat) (0 : Nat), AVal.ptr (3 : Nat) (0 : Nat)])]
 [ABlk.vals
 [AVal.int IntKind.i64 (0 : Int), AVal.int IntKind.i64 (0 : Int), AVal.int IntKind.i64 (0 : Int), AVal.nilS],
 ABlk.vals
 [AVal.int IntKind.i64 i, AVal.int IntKind.i64 j, AVal.int IntKind.i64 q,
 AVal.sl (4 : Nat) (0 : Nat) (k + (1 : Nat)) (1 : Nat)],
 ABlk.vals [AVal.str body], ABlk.vals [AVal.int IntKind.i64 (↑n : Int)], ABlk.flat (cs ++ [AVal.str x])])) := by kernel_rfl
set_option maxRecDepth 100000 in
theorem rf_end (i j q : Int) (body : List UInt8) (n : Nat) (k : Nat) (cs : List AVal) (K : AVal → Hp → Prop) : opsP dcX ops13.toList ops13.toList ⟨rfE, rfA i j q body n (.sl 4 0 k 1) ++ [.flat cs]⟩ (fun s => endK Try.prog 0 Try.f38.results.toList K s) = (
 K (.tup [.agg [.int .i64 i, .int .i64 j, .int .i64 q, .sl (0 : Nat) (0 : Nat) k (1 : Nat)], .int .i64 0]) [.flat cs]) := by kernel_rfl
def rfH (i j q : Int) (body : List UInt8) (n : Nat) (pre : List (List UInt8)) : Hp := match pre with
  | [] => rfA i j q body n .nilS
  | x :: r => rfA i j q body n (.sl 4 0 (r.length + 1) 1) ++ [.flat ((x :: r).map AVal.str)]
theorem rfH_snoc (i j q : Int) (body : List UInt8) (n : Nat) (y : List UInt8) (r : List (List UInt8)) (x : List UInt8) : rfH i j q body n ((y :: r) ++ [x]) = rfA i j q body n (.sl 4 0 (r.length + 1 + 1) 1) ++ [.flat ((y :: r).map AVal.str ++ [.str x])] := by
  show rfA i j q body n (.sl 4 0 ((r ++ [x]).length + 1) 1) ++ [.flat ((y :: (r ++ [x])).map AVal.str)] = _
  rw [List.length_append, ← List.cons_append, List.map_append]; rfl
theorem rfH_body (i j q : Int) (body : List UInt8) (n : Nat) (pre : List (List UInt8)) : hget 2 (rfH i j q body n pre) = .vals [.str body] ∧ hget 3 (rfH i j q body n pre) = .vals [.int .i64 (n : Int)] := by cases pre <;> exact ⟨rfl, rfl⟩
theorem cell_blk {R : Nat → Prop} {w : World} {m : Mp} {H : Hp} (hS : Sim R w m H) {k g : Nat} (hm : m k = some g) {v : AVal} {r : List AVal} (hk : hget k H = .vals (v :: r)) {x : Value} (hv : ∀ y, VR R w m H v y → y = x) : w.cell? ⟨g, 0, none⟩ = some x := by
  obtain ⟨_, xs, e, fr, h1, h2, h3, h4⟩ := hS.own k g (by rw [hk]; simp) hm
  rw [hk] at h4
  obtain ⟨ys, r', rfl, h5⟩ := h4
  obtain ⟨y, r2, rfl, h6, _⟩ := h5.cons_inv
  rw [cell_of h1, hv y h6]
  rfl
theorem rf_ptrs {R : Nat → Prop} {w : World} {m : Mp} {H : Hp} {f : Nat} {v : Value} (h : VR R w m H (.fn f [] [.ptr 2 0, .ptr 3 0]) v) : ∃ Bb Bl, v = .func (.func f) #[] #[.pointer (some ⟨Bb, 0, none⟩), .pointer (some ⟨Bl, 0, none⟩)] ∧ m 2 = some Bb ∧ m 3 = some Bl := by
  cases h with
  | fn _ _ _ xs ys g1 g2 g3 g4 =>
    match xs, ys, g1, g3, g4 with
    | [], [y1, y2], _, _, g4 =>
      have h1 := g4 0 _ _ rfl rfl
      have h2 := g4 1 _ _ rfl rfl
      cases h1 with
      | ptr _ _ Bb hm2 => cases h2 with
        | ptr _ _ Bl hm3 => exact ⟨Bb, Bl, rfl, hm2, hm3⟩
theorem rf_ptrs2 {R' : Nat → Prop} {w' : World} {m' : Mp} {H' : Hp} {f Bb Bl : Nat} (h : VR R' w' m' H' (.fn f [] [.ptr 2 0, .ptr 3 0]) (.func (.func f) #[] #[.pointer (some ⟨Bb, 0, none⟩), .pointer (some ⟨Bl, 0, none⟩)])) : m' 2 = some Bb ∧ m' 3 = some Bl := by
  obtain ⟨b1, b2, e, h1, h2⟩ := rf_ptrs h
  simp only [Value.func.injEq, Fn.func.injEq, true_and, Array.mk.injEq, List.cons.injEq, Value.pointer.injEq, Option.some.injEq, Addr.mk.injEq, and_true] at e
  obtain ⟨rfl, rfl⟩ := e
  exact ⟨h1, h2⟩
set_option maxHeartbeats 1000000 in
theorem rf_loop (i j q : Int) (body : List UInt8) (n c : Nat) (hc8 : c ≤ 8) (hn1 : 1 ≤ n) (hlen : body.length = 8 + c * n) (hb : body.length ≤ 140737488351232) {R0 : Nat → Prop} {w0 : World} {m0 : Mp} {H0 : Hp} (hl : H0.length = 0) (hS0 : Sim R0 w0 m0 H0) {a : Act} {w : World}
    (hI : Inv dcX.nt R0 w0 m0 H0 a w ⟨rfE, rfA i j q body n .nilS⟩) {Q : Exit → Act → World → Prop} {nn : Nat} (hnn : 3 ≤ nn)
    (hdone : ∀ (R : Nat → Prop) (m : Mp) (D : Nat) (W : World), w0.heap.size ≤ D → ¬ R D → W.heap[D]? = some (.deferred (some [])) → Far R0 w0 m0 H0 R W m (rfH i j q body n (parts n (body.drop 8) c)) → EnvR R W m (rfH i j q body n (parts n (body.drop 8) c)) rfE a →
      Q .normal { a with defers := { target := .collected D, args := #[] } :: a.defers } W) : dcR.wpIn Fence.wide nn dcX.P Q a w := by
  obtain ⟨⟨R, m, hF, hE⟩, hsz, hnd⟩ := hI
  have hnt : dcX.nt = 66 := by kernel_rfl
  have h57 : VR R w m (rfA i j q body n .nilS) (.fn 84 [] [.ptr 2 0, .ptr 3 0]) (a.tmps.getD 57 undef) := hE 57
  obtain ⟨Bb, Bl, e57, hm2, hm3⟩ := rf_ptrs h57
  have rlt : ∀ g, R g → g < w.heap.size := hF.sim.rlt
  have body_of : ∀ {R : Nat → Prop} {w : World} {m : Mp} {H : Hp} y, VR R w m H (.str body) y → y = encS body := fun y h => by cases h; rfl
  have int_of : ∀ {R : Nat → Prop} {w : World} {m : Mp} {H : Hp} y, VR R w m H (.int .i64 (n : Int)) y → y = .int .i64 (n : Int) := fun y h => by cases h; rfl
  have hc1 : w.cell? ⟨Bb, 0, none⟩ = some (encS body) := cell_blk hF.sim hm2 (k := 2) rfl body_of
  have hc2 : w.cell? ⟨Bl, 0, none⟩ = some (.int .i64 (n : Int)) := cell_blk hF.sim hm3 (k := 3) rfl int_of
  have hB1 : Bb < w.heap.size := by
    obtain ⟨_, xs, e, fr, h, _⟩ := hF.sim.own 2 Bb (by simp [rfA, hget]) hm2
    exact (Array.getElem?_eq_some_iff.1 h).1
  have hB2 : Bl < w.heap.size := by
    obtain ⟨_, xs, e, fr, h, _⟩ := hF.sim.own 3 Bl (by simp [rfA, hget]) hm3
    exact (Array.getElem?_eq_some_iff.1 h).1
  rw [dcR_is]
  refine wpIn_rangeFunc_ownF (α := Str) (F := Fence.wide) rfl (by omega) (gf := 84) (lb := #[.pointer (some ⟨Bb, 0, none⟩), .pointer (some ⟨Bl, 0, none⟩)]) e57 trivial ?eg
    (addrs_stops Fence.wide (nn - 1) trivial rfl (by omega) Bb Bl body n c hn1 hlen hb w hB1 hB2 hc1 hc2) (fun h k => KpA.t h k) ?kb (Below.refl _ _) (fun _ => rfl)
    (fun pre W => ∃ m', Far R0 w0 m0 H0 R W m' (rfH i j q body n (pre.map (·.1))) ∧ EnvR R W m' (rfH i j q body n (pre.map (·.1))) rfE a) (fun _ _ _ => False) ?hI (fun _ _ _ _ _ hs _ _ => hs) ⟨m, hF, hE⟩
    (fun x => Act.put { tmps := a.tmps.setIfInBounds 58 (encS x.1), defers := [] } (some 10) (encS x.1)) ?assign ?body ?done ?stop
  case eg =>
    intro args w'
    have h1 := Try.func84
    have h2 : ¬ (Try.f84).name = "runtime.NumGoroutine" := by decide +kernel
    have h3 : ¬ (Try.f84).body = none := by decide +kernel
    simp [callFunc, h1, h2, h3]
  case kb => exact fun W l o o' hl' hW _ _ => ⟨cell_putObj (by omega), cell_putObj (by omega)⟩
  case hI =>
    intro s W W' row hs hg hr
    obtain ⟨m', F', E'⟩ := hs
    obtain ⟨F2, vr⟩ := F'.grown hg fun r e => ⟨by have := (hr r e).1; have := hF.size; omega, fun hR => by have := rlt r hR; have := (hr r e).1; omega, (hr r e).2⟩
    exact ⟨m', F2, fun t => vr (E' t)⟩
  case done =>
    intro D xs W hD hxs hIx hK
    obtain ⟨m', F', E'⟩ := hIx
    rw [hxs] at F' E'
    exact hdone R m' D W (by have := hF.size; omega) (fun hR => by have := rlt D hR; omega) hK F' E'
  case stop => exact fun D c pre W _ _ h _ => h.elim
  case assign =>
    rintro l ⟨x, hx⟩ W K hK
    simp only at hK ⊢
    rw [rfAssign_is]
    have e0 : ((#[58] : Array Tmp).zip #[encS x]).foldl (fun t (p, v) => t.setIfInBounds p v) a.tmps = a.tmps.setIfInBounds 58 (encS x) := by simp
    rw [e0]
    refine wpIn_region_list ?_
    rw [ops11_is]
    refine wpListIn_plain o11_is.1 fun K' hK' => ⟨fun _ _ => trivial, ?_⟩
    rw [Oper.semAt_plain _ _ _ (by rw [o11_is.2.1]; intro c h; cases h)]
    have e1 : (Act.eval { tmps := a.tmps.setIfInBounds 58 (encS x), defers := [] } (.tmp 58)) = encS x := by
      show (a.tmps.setIfInBounds 58 (encS x)).getD 58 undef = encS x
      simp [Array.getD, hsz, hnt]
    have e2 : (execOp (Act.eval { tmps := a.tmps.setIfInBounds 58 (encS x), defers := [] }) o11).run dcX.P W = .ok (.value (encS x)) W := by
      unfold execOp
      simp only [o11_is.2.1]
      rw [e1]
      rfl
    rw [e2, Oper.uponIn_value, o11_is.2.2]
    exact hK' _ _ hK
  case body =>
    rintro l pre0 ⟨x, hx⟩ W hIp hlt0
    obtain ⟨m', F', E'⟩ := hIp
    obtain ⟨pre, hpre⟩ : ∃ pre, pre0.map (·.1) = pre := ⟨_, rfl⟩
    have hlt : pre.length < c := by rw [← hpre]; simpa using hlt0
    rw [hpre] at F' E'
    have hE1 : EnvR R W m' (rfH i j q body n pre) ((10, .str x) :: rfE) (Act.put { tmps := a.tmps.setIfInBounds 58 (encS x), defers := [] } (some 10) (encS x)) := by
      refine EnvR.put (d := some 10) (v := .str x) (env := rfE) (fun t => ?_) (by simp [dstOk, hsz, hnt]) (.str x ?_)
      · by_cases e : t = 58
        · subst e; exact .undef _
        · have h := E' t
          have e2 : (a.tmps.setIfInBounds 58 (encS x)).getD t undef = a.tmps.getD t undef := by
            simp only [Array.getD_eq_getD_getElem?]
            rw [Array.getElem?_setIfInBounds_ne (Ne.symm e)]
          show VR R W m' _ (eget t rfE) ((a.tmps.setIfInBounds 58 (encS x)).getD t undef)
          rw [e2]; exact h
      · exact hx
    have hz1 : (Act.put { tmps := a.tmps.setIfInBounds 58 (encS x), defers := [] } (some 10) (encS x)).tmps.size = dcX.nt := by rw [Act.put_size']; simp [hsz]
    have ev : opsP dcX ops12.toList ops12.toList ⟨(10, .str x) :: rfE, rfH i j q body n pre⟩ (fun s => egets s.env [2, 9, 57] = egets rfE [2, 9, 57] ∧ normK 0 [2, 9, 57] s fun s => ⟨s.env, flatN 4 s.heap⟩ = (⟨rfE, rfH i j q body n (pre ++ [x])⟩ : St)) := by
      cases pre with
      | nil =>
        show opsP dcX ops12.toList ops12.toList ⟨(10, .str x) :: rfE, rfA i j q body n .nilS⟩ _
        rw [rf_first]
        exact ⟨by omega, rfl, rfl⟩
      | cons y r =>
        show opsP dcX ops12.toList ops12.toList ⟨(10, .str x) :: rfE, rfA i j q body n (.sl 4 0 (r.length + 1) 1) ++ [.flat ((y :: r).map AVal.str)]⟩ _
        rw [rf_next]
        refine ⟨⟨?_, by simp⟩, rfl, ?_⟩
        · simp only [List.length_cons] at hlt
          omega
        · rw [rfH_snoc]; rfl
    rw [rfBody_is]
    refine wpIn_block (wpIn_region_list ?_)
    obtain ⟨s', ⟨heq, hk⟩, hs⟩ := opsP_in (X := dcX) (F := Fence.wide.inRound l) (n := nn - 1 - 1) (fun _ => trivial) ops12_s ev
    rw [normK_iff] at hk
    refine hs R W m' _ F'.sim hE1 hz1 _ fun a' W' m2 F2 E2 z2 d2 => ?_
    have N := norm_far (F'.trans F2) ((E'.far F2 F'.sim)) hS0 [2, 9, 57]
    rw [hl, ← heq] at N
    obtain ⟨m3, F3, E3⟩ := N
    obtain ⟨k1, k2⟩ := St.mk.inj hk
    have E4 : EnvR R W' m3 (flatC 0 [2, 9, 57] (subHeap (fun k => idxO k (seek s'.heap 0 (egets s'.env [2, 9, 57]))) s'.heap (seek s'.heap 0 (egets s'.env [2, 9, 57])))) rfE a := by
      have e0 : normEnv (seek s'.heap 0 (egets s'.env [2, 9, 57])) [2, 9, 57] ⟨rfE, s'.heap⟩ = normEnv (seek s'.heap 0 (egets s'.env [2, 9, 57])) [2, 9, 57] s' := by
        show zipEnv _ (renL _ (egets rfE [2, 9, 57])) = zipEnv _ (renL _ (egets s'.env [2, 9, 57]))
        rw [heq]
      have k1' : normEnv (seek s'.heap 0 (egets s'.env [2, 9, 57])) [2, 9, 57] s' = rfE := k1
      rw [e0, k1'] at E3
      exact E3
    have fl := (flat_stp F3.sim 4).far
    have F5 := F3.trans fl
    have E5 := E4.far fl F3.sim
    rw [k2] at F5 E5
    obtain ⟨b1, b2⟩ := rfH_body i j q body n pre
    obtain ⟨b3, b4⟩ := rfH_body i j q body n (pre ++ [x])
    have p1 := rf_ptrs2 (f := 84) (by have := E' 57; rw [e57] at this; exact this)
    have p2 := rf_ptrs2 (f := 84) (by have := E5 57; rw [e57] at this; exact this)
    refine ⟨F2.others F'.sim, ⟨?_, ?_⟩, m3, ?_, ?_⟩
    · rw [cell_blk F5.sim p2.1 b3 body_of, cell_blk F'.sim p1.1 b1 body_of]
    · rw [cell_blk F5.sim p2.2 b4 int_of, cell_blk F'.sim p1.2 b2 int_of]
    · rw [show (pre0 ++ [(⟨x, hx⟩ : Str)]).map (·.1) = pre ++ [x] from by rw [List.map_append, hpre]; rfl]; exact F5
    · rw [show (pre0 ++ [(⟨x, hx⟩ : Str)]).map (·.1) = pre ++ [x] from by rw [List.map_append, hpre]; rfl]; exact E5
end Go.Proofs.Ytnbbaemijogeoaa.Ae

set_option linter.unusedSimpArgs false
set_option linter.unusedVariables false
set_option maxRecDepth 100000
namespace Go.Proofs.Ytnbbaemijogeoaa
open Go Ae
theorem adDecode_no {p : Ip} (h : (adDecode p).2 ≠ 0) : (adDecode p).1 = noAdv := by
  generalize hr : adDecode p = r at h ⊢
  unfold adDecode at hr
  repeat' split at hr
  all_goals subst hr
  all_goals first
    | rfl
    | exact absurd rfl h
end Go.Proofs.Ytnbbaemijogeoaa
namespace Go.Proofs.Ytnbbaemijogeoaa.Ae
open Go Go.RowKit
/-- an advertisement, and an error -/
def decV (a : Adv) (e : Int) : AVal := .tup [.agg [.int .i64 a.id, .int .i64 a.pri, .int .i64 a.every, .ro a.addrs.length 1 (fun i => [.str (a.addrs.getD i [])])], .int .i64 e]
theorem ResLe.tup1 {A A2 v : AVal} {H H2 : Hp} (h : ResLe A H A2 H2) (hv : closed v = true) : ResLe (.tup [A, v]) H (.tup [A2, v]) H2 := by
  intro R w m x hS hx
  cases hx with
  | tup _ xs h1 h2 =>
    match xs, h1, h2 with
    | [y1, y2], _, h2 =>
      obtain ⟨R2, m2, F, V⟩ := h R w m y1 hS (h2 0 _ _ rfl rfl)
      refine ⟨R2, m2, F, .tup _ _ rfl fun i v' x' hv' hx' => ?_⟩
      match i with
      | 0 => cases hv'; cases hx'; exact V
      | 1 => cases hv'; cases hx'; exact ((h2 1 _ _ rfl rfl).far F hS).closed hv
theorem rows1 (l : List (List UInt8)) (i : Nat) (h : i < l.length) : rowsOf 1 ((((l.map AVal.str).drop 0).take (l.length * 1))) i = [.str (l.getD i [])] := by
  have e : ((l.map AVal.str).drop 0).take (l.length * 1) = l.map AVal.str := by
    rw [List.drop_zero]
    exact List.take_of_length_le (by simp)
  rw [e]
  unfold rowsOf
  rw [Nat.mul_one, List.drop_eq_getElem_cons (by simpa using h), List.take_succ_cons, List.take_zero, List.getD_eq_getElem?_getD, List.getElem?_eq_getElem h]
  simp
theorem inv_norm_eq {nt : Nat} {R0 : Nat → Prop} {w0 : World} {m0 : Mp} {H0 : Hp} {a : Act} {w : World} {s t : St} (hI : Inv nt R0 w0 m0 H0 a w s) (hS0 : Sim R0 w0 m0 H0) (hl : H0.length = 0) {live : List Nat} (h : normK 0 live s (fun s => s = t)) : Inv nt R0 w0 m0 H0 a w t := by
  have h2 := hI.norm hS0 live
  rw [hl] at h2
  rw [normK_iff] at h
  rw [← h]
  exact h2
theorem ret_post {K : AVal → Hp → Prop} {s : St} {fn : Func} (h : endK Try.prog 0 fn.results.toList K s) {R0 : Nat → Prop} {w0 : World} {m0 : Mp} {H0 : Hp} (hl : H0.length = 0) (hS0 : Sim R0 w0 m0 H0) {R : Nat → Prop} {w : World} {m : Mp} {a : Act} (hF : Far R0 w0 m0 H0 R w m s.heap) (hE : EnvR R w m s.heap s.env a) :
    ∃ v H', K v H' ∧ ∃ x m', (results fn a.tmps).run Try.prog w = .ok x w ∧ Far R0 w0 m0 H0 R w m' H' ∧ VR R w m' H' v x := by
  unfold endK at h
  split at h
  · rename_i p vs hr
    obtain ⟨hp, hret⟩ := andP_iff h
    unfold retK at hret
    rw [forceL_iff] at hret
    obtain ⟨x, hx1, hx2⟩ := results_run hF.sim hE hr hp
    obtain ⟨hn, hpp⟩ := seek_ok s.heap H0.length [retV vs]
    rw [hl] at hn hpp
    exact ⟨_, _, hret, x, _, hx1, hF.restrict hS0 hn (fun i hi => hpp i (by omega)), hx2.ren (sub_num _ _ _)⟩
  · exact h.elim
theorem n1_eq (src dst : List UInt8) (proto ttl : Int) (body : List UInt8) : normK 0 [1, 2, 3] ⟨[(1, .rop (dcP src dst proto ttl body)), (2, .ptr 1 0), (3, .int .i64 0)], hset 0 .dead [.vals (dcP src dst proto ttl body), .vals dcZ]⟩ (fun s => s = dcS1 src dst proto ttl body) = (dcS1 src dst proto ttl body = dcS1 src dst proto ttl body) := by kernel_rfl
theorem n2_eq (src dst : List UInt8) (proto ttl : Int) (body : List UInt8) : normK 0 [1, 2, 3, 4, 5] ⟨[(1, .rop (dcP src dst proto ttl body)), (2, .ptr 0 0), (3, .int .i64 0), (4, .rop [.str body]), (5, .rop [.int .i64 (src.length : Int)])], hset 2 .dead (hset 1 .dead [.vals dcZ, .vals [.str body], .vals [.int .i64 (src.length : Int)]])⟩ (fun s => s = dcS2f src dst proto ttl body) = (dcS2f src dst proto ttl body = dcS2f src dst proto ttl body) := by kernel_rfl
theorem n3_eq (src dst : List UInt8) (proto ttl : Int) (body : List UInt8) : normK 0 [1, 2, 3, 4, 5, 6] ⟨(dcS3f src dst proto ttl body).env, hset 1 .dead (dcS3 src dst proto ttl body).heap⟩ (fun s => s = dcS3f src dst proto ttl body) = (dcS3f src dst proto ttl body = dcS3f src dst proto ttl body) := by kernel_rfl
theorem dcB_of : (Try.f38).body = some dcB := by kernel_rfl
theorem dec_fail (src dst : List UInt8) (proto ttl : Int) (body : List UInt8) (h : (adDecode ⟨src, dst, proto, ttl, body⟩).2 ≠ 0) : ResLe (.tup [.agg dcZ, .int .i64 (adDecode ⟨src, dst, proto, ttl, body⟩).2]) [] (decV (adDecode ⟨src, dst, proto, ttl, body⟩).1 (adDecode ⟨src, dst, proto, ttl, body⟩).2) [.dead] := by
  rw [adDecode_no h]
  generalize (adDecode ⟨src, dst, proto, ttl, body⟩).2 = e
  exact (ResLe.val (VE.tup (.cons (.agg (.cons .refl (.cons .refl (.cons .refl (.cons VE.nil_ro .nil))))) (.cons .refl .nil)))).trans (ResLe.pad rfl)
theorem dec_done (i j q : Int) (l : List (List UInt8)) : ResLe (.tup [.agg [.int .i64 i, .int .i64 j, .int .i64 q, .sl 0 0 l.length 1], .int .i64 0]) [.flat (l.map AVal.str)] (decV ⟨i, j, q, l⟩ 0) [.dead] := by
  have h1 := ResLe.tup1 (v := .int .i64 0) (ResLe.frz (pre := [.int .i64 i, .int .i64 j, .int .i64 q]) (cs := l.map AVal.str) (k := l.length) (sz := 1) (by omega) rfl) rfl
  refine h1.trans (ResLe.val (VE.tup (.cons (.agg (.cons .refl (.cons .refl (.cons .refl (.cons (VE.ro fun i hi => rows1 l i hi) .nil))))) (.cons .refl .nil))))
theorem awp_seq {X : Cx} {x y : Code} {s : St} {K : Post} : awp X (.seq x y) s K = awp X x s (seqK (fun s' => awp X y s' K) K) := rfl
theorem dcK_seq (G : St → Prop) (K : AVal → Hp → Prop) : dcK G K = seqK (fun s => normK 0 [2, 9, 57] s G) (dcK G K) := by
  funext e s
  cases e <;> rfl
set_option maxHeartbeats 2000000 in
attribute [local irreducible] awp in
theorem decode_gives (src dst : List UInt8) (proto ttl : Int) (body : List UInt8) (hb : body.length ≤ 140737488351232) : Gives Try.prog 38 [.agg (dcP src dst proto ttl body)] [] (decV (adDecode ⟨src, dst, proto, ttl, body⟩).1 (adDecode ⟨src, dst, proto, ttl, body⟩).2) [.dead] := by
  refine ⟨⟨_, Try.func38, by decide +kernel, by decide +kernel⟩, fun R0 w0 m0 xs hS0 hx => ?_⟩
  obtain ⟨u, rfl, hu⟩ := hx.one
  have hD := draw_sound (X := dcX) Tdc_sound mixed
  have hnt : dcX.nt = 66 := by kernel_rfl
  refine callsIn_wide.1 (callsIn_of_wp_marks (F := Fence.wide) (n := 10) Try.func38 dcB_of trivial ?_ rfl)
  have hI0 : Inv dcX.nt R0 w0 m0 [] { tmps := [u].toArray ++ Array.replicate ((Try.f38).ntmps - [u].toArray.size) undef, defers := [] } w0 ⟨argEnv 0 [.agg (dcP src dst proto ttl body)], []⟩ := by
    refine ⟨⟨R0, m0, .refl hS0, fun t => ?_⟩, ?_, rfl⟩
    · rcases argEnv_get [AVal.agg (dcP src dst proto ttl body)] 0 t with h | ⟨_, v, h1, h2⟩
      · rw [h]; exact .undef _
      · rw [h2]
        rw [Nat.sub_zero] at h1
        have ht : t = 0 := by have := (List.getElem?_eq_some_iff.1 h1).1; simp at this; exact this
        subst ht
        simp at h1
        subst h1
        simpa [Array.getD] using hu
    · show ([u].toArray ++ Array.replicate ((Try.f38).ntmps - [u].toArray.size) undef).size = dcX.nt
      have : (Try.f38).ntmps = 66 := by kernel_rfl
      rw [hnt, this]; simp
  generalize ({ tmps := [u].toArray ++ Array.replicate ((Try.f38).ntmps - [u].toArray.size) undef, defers := [] } : Act) = a0 at hI0
  rw [dcB_is]
  -- the arguments' box
  refine seq_step (X := dcX) (H0 := []) Tdc_sound hD (K := fun _ _ => False) (by rw [dc0_eq]) rfl hS0 hI0 (fun s1 a1 w1 hk1 hI1 => ?_) (fun _ _ _ _ _ _ h _ _ => h.elim)
  have I1 := inv_norm_eq hI1 hS0 rfl hk1
  have I2 := I1.frz (k := 0) (cs := dcP src dst proto ttl body) (env' := [(1, .rop (dcP src dst proto ttl body)), (2, .ptr 1 0), (3, .int .i64 0)]) rfl rfl (fun t => by
    simp only [eget]
    cases Nat.beq t 1 with
    | true => exact .inr (.inr ⟨rfl, rfl⟩)
    | false => exact .inl rfl)
  have I3 := inv_norm_eq (t := dcS1 src dst proto ttl body) (live := [1, 2, 3]) I2 hS0 rfl (by rw [n1_eq])
  -- the shared variables
  refine seq_ok (X := dcX) (H0 := []) (dc1_ok src dst proto ttl body) rfl hS0 I3 fun a2 w2 I4 => ?_
  have I5 := I4.frz (k := 1) (cs := [.str body]) (env' := [(1, .rop (dcP src dst proto ttl body)), (2, .ptr 0 0), (3, .int .i64 0), (4, .rop [.str body]), (5, .ptr 2 0)]) rfl rfl (fun t => by
    simp only [eget]
    cases Nat.beq t 1 with
    | true => exact .inl rfl
    | false => cases Nat.beq t 2 with
      | true => exact .inl rfl
      | false => cases Nat.beq t 3 with
        | true => exact .inl rfl
        | false => cases Nat.beq t 4 with
          | true => exact .inr (.inr ⟨rfl, rfl⟩)
          | false => exact .inl rfl)
  have I6 := I5.frz (k := 2) (cs := [.int .i64 (src.length : Int)]) (env' := [(1, .rop (dcP src dst proto ttl body)), (2, .ptr 0 0), (3, .int .i64 0), (4, .rop [.str body]), (5, .rop [.int .i64 (src.length : Int)])]) rfl rfl (fun t => by
    simp only [eget]
    cases Nat.beq t 1 with
    | true => exact .inl rfl
    | false => cases Nat.beq t 2 with
      | true => exact .inl rfl
      | false => cases Nat.beq t 3 with
        | true => exact .inl rfl
        | false => cases Nat.beq t 4 with
          | true => exact .inl rfl
          | false => cases Nat.beq t 5 with
            | true => exact .inr (.inr ⟨rfl, rfl⟩)
            | false => exact .inl rfl)
  have I7 := inv_norm_eq (t := dcS2f src dst proto ttl body) (live := [1, 2, 3, 4, 5]) I6 hS0 rfl (by rw [n2_eq])
  -- 'at'
  refine seq_step (X := dcX) (H0 := []) Tdc_sound hD (K := fun _ _ => False) (by rw [dc2_eq]) rfl hS0 I7 (fun s3 a3 w3 hk3 hI3 => ?_) (fun _ _ _ _ _ _ h _ _ => h.elim)
  have I8 := inv_norm_eq hI3 hS0 rfl hk3
  have I9 := I8.frz (k := 1) (cs := [.fn 56 [] [.rop [.str body]]]) (env' := (dcS3f src dst proto ttl body).env) rfl rfl (fun t => by
    simp only [dcS3, dcS3f, eget]
    cases Nat.beq t 1 with
    | true => exact .inl rfl
    | false => cases Nat.beq t 2 with
      | true => exact .inl rfl
      | false => cases Nat.beq t 3 with
        | true => exact .inl rfl
        | false => cases Nat.beq t 4 with
          | true => exact .inl rfl
          | false => cases Nat.beq t 5 with
            | true => exact .inl rfl
            | false => cases Nat.beq t 6 with
              | true => exact .inr (.inr ⟨rfl, rfl⟩)
              | false => exact .inl rfl)
  have I10 := inv_norm_eq (t := dcS3f src dst proto ttl body) (live := [1, 2, 3, 4, 5, 6]) I9 hS0 rfl ((n3_eq src dst proto ttl body).mpr rfl)
  clear I1 I2 I3 I4 I5 I6 I7 I8 I9 hI0 hI1 hI3 hk1 hk3
  obtain ⟨p, hp⟩ : ∃ p : Ip, p = ⟨src, dst, proto, ttl, body⟩ := ⟨_, rfl⟩
  have hpre := dcPre_p src dst proto ttl body hb (fun s => s = dcSt p ∧ (adDecode p).2 = 0 ∧ dcOk p ∧ (adDecode p).1 = ⟨(body.getD 1 0).toNat, (body.getD 2 0).toNat, w16 (body.getD 4 0) (body.getD 5 0), parts src.length (body.drop 8) (body.getD 3 0).toNat⟩)
    (fun v H' => ResLe v H' (decV (adDecode p).1 (adDecode p).2) [.dead]) (by
      subst hp
      split
      · rename_i h0
        exact fun h1 h2 => ⟨rfl, h0, h1, h2⟩
      · rename_i h0
        exact dec_fail src dst proto ttl body h0)
  rw [← hp]
  -- how it may end
  have ends : ∀ (e : AExit) (s' : St) (a' : Act) (w' : World) (e1 : Exit), e ≠ .normal → dcK (fun s => s = dcSt p ∧ (adDecode p).2 = 0 ∧ dcOk p ∧ (adDecode p).1 = ⟨(body.getD 1 0).toNat, (body.getD 2 0).toNat, w16 (body.getD 4 0) (body.getD 5 0), parts src.length (body.drop 8) (body.getD 3 0).toNat⟩) (fun v H' => ResLe v H' (decV (adDecode p).1 (adDecode p).2) [.dead]) e s' → ExR e e1 → Inv dcX.nt R0 w0 m0 [] a' w' s' →
      bodyPostM Fence.wide 10 Try.prog Try.f38 (fun e w' => ∃ R' m' x, e = .returned x ∧ Far R0 w0 m0 [] R' w' m' [.dead] ∧ VR R' w' m' [.dead] (decV (adDecode p).1 (adDecode p).2) x) e1 a' w' := by
    intro e s' a' w' e1 hne hk he hI
    cases e with
    | normal => exact absurd rfl hne
    | exit i => exact hk.elim
    | ret =>
      cases he
      obtain ⟨⟨R, m, hF, hE⟩, _, hnd⟩ := hI
      obtain ⟨v, H', hK, x, m', h1, h2, h3⟩ := ret_post hk rfl hS0 hF hE
      obtain ⟨R2, m2, F2, V2⟩ := hK R w' m' x h2.sim h3
      show LeavesInM Fence.wide 10 Try.prog Try.f38 a'.tmps _ a'.defers .returning w'
      rw [hnd]
      exact ⟨x, h1, R2, m2, x, rfl, h2.trans F2, V2⟩
  unfold dcPre at hpre
  refine seq_step (X := dcX) (H0 := []) Tdc_sound hD (G := fun s => awp dcX (.seq dc4 dc5) s (dcK _ _)) (by rw [awp_seq] at hpre; exact hpre) rfl hS0 I10 (fun s4 a4 w4 hk4 hI4 => ?_) ends
  refine seq_step (X := dcX) (H0 := []) Tdc_sound hD (G := fun s => awp dcX dc5 s (dcK _ _)) (by rw [awp_seq] at hk4; exact hk4) rfl hS0 hI4 (fun s5 a5 w5 hk5 hI5 => ?_) ends
  refine wpIn_seq ?_
  refine seq_step (X := dcX) (H0 := []) Tdc_sound hD (G := fun s => normK 0 [2, 9, 57] s fun s => s = dcSt p ∧ (adDecode p).2 = 0 ∧ dcOk p ∧ (adDecode p).1 = ⟨(body.getD 1 0).toNat, (body.getD 2 0).toNat, w16 (body.getD 4 0) (body.getD 5 0), parts src.length (body.drop 8) (body.getD 3 0).toNat⟩) (by rw [dcK_seq] at hk5; exact hk5) rfl hS0 hI5 (fun s6 a6 w6 hk6 hI6 => ?_) (fun e s' a' w' e1 h1 h2 h3 h4 => by
    have := ends e s' a' w' e1 h1 h2 h3 h4
    cases e with
    | normal => exact absurd rfl h1
    | exit i => cases h3; exact this
    | ret => cases h3; exact this)
  rw [normK_iff] at hk6
  obtain ⟨k1, k2, k3, k4⟩ := hk6
  have I11 : Inv dcX.nt R0 w0 m0 [] a6 w6 (dcSt p) := inv_norm_eq (live := [2, 9, 57]) hI6 hS0 rfl (normK_iff.2 k1)
  subst hp
  obtain ⟨o1, o2, o3, o4⟩ := k3
  simp only at o1 o2 o3 o4 k4
  refine wpIn_block (rf_loop _ _ _ body src.length (body.getD 3 0).toNat o4 (by omega) o2 hb (H0 := []) rfl hS0 I11 (by omega) fun R m D W hD hRD hK hF hE => ?_)
  show dc6.wpIn Fence.wide 10 dcX.P _ _ W
  have hnd := I11.nod
  have hz := I11.size
  have hpl := parts_length src.length (body.drop 8) (body.getD 3 0).toNat
  have hfin : ResLe (.tup [.agg [.int .i64 ((body.getD 1 0).toNat : Int), .int .i64 ((body.getD 2 0).toNat : Int), .int .i64 (w16 (body.getD 4 0) (body.getD 5 0)), .sl 0 0 (parts src.length (body.drop 8) (body.getD 3 0).toNat).length 1], .int .i64 0]) [.flat ((parts src.length (body.drop 8) (body.getD 3 0).toNat).map AVal.str)] (decV (adDecode ⟨src, dst, proto, ttl, body⟩).1 (adDecode ⟨src, dst, proto, ttl, body⟩).2) [.dead] := by
    rw [k4, k2]
    exact dec_done _ _ _ _
  generalize parts src.length (body.drop 8) (body.getD 3 0).toNat = l at *
  cases l with
  | nil => rw [List.length_nil] at hpl; omega
  | cons y r =>
    have ev := (rf_end ((body.getD 1 0).toNat : Int) ((body.getD 2 0).toNat : Int) (w16 (body.getD 4 0) (body.getD 5 0)) body src.length (r.length + 1) ((y :: r).map AVal.str) (fun v H' => ResLe v H' (decV (adDecode ⟨src, dst, proto, ttl, body⟩).1 (adDecode ⟨src, dst, proto, ttl, body⟩).2) [.dead])).mpr hfin
    rw [dc6_is]
    refine wpIn_seq (wpIn_region_list ?_)
    obtain ⟨s', hk, hs⟩ := opsP_in (X := dcX) (F := Fence.wide) (n := 10) (fun _ => trivial) ops13_s ev
    refine hs R W m ⟨a6.tmps, { target := .collected D, args := #[] } :: a6.defers⟩ hF.sim hE hz _ (fun a' W' m' F2 E2 z2 d2 => ?_)
    refine wpIn_ret ?_
    show LeavesInM Fence.wide 10 Try.prog Try.f38 a'.tmps _ a'.defers .returning W'
    rw [d2, hnd]
    have hK' := (F2.others hF.sim).same D _ hK rfl
    obtain ⟨G1, vr⟩ := (hF.trans F2).grown (grownBy_putObj' W' D (.deferred none)) (fun r e => by cases e; exact ⟨hD, hRD, _, hK', rfl⟩)
    obtain ⟨v, H', hKv, x, m3, h1, h2, h3⟩ := ret_post hk rfl hS0 G1 (fun t => vr (E2 t))
    obtain ⟨R2, m2, F3, V3⟩ := hKv R _ m3 x h2.sim h3
    exact ⟨by simp, .inl ⟨D, _, rfl, run_takeDeferred hK', x, h1, R2, m2, x, rfl, h2.trans F3, V3⟩⟩
def decRow : Srow := fun args H K => match args, H with
  | [.agg [.str src, .str dst, .int .i64 proto, .int .i64 ttl, .str body]], [] => body.length ≤ 140737488351232 ∧ K (decV (adDecode ⟨src, dst, proto, ttl, body⟩).1 (adDecode ⟨src, dst, proto, ttl, body⟩).2) [.dead]
  | _, _ => False
theorem decode_row : RSound Try.prog 38 decRow := by
  intro args H K h
  unfold decRow at h
  split at h
  · exact ⟨_, _, h.2, decode_gives _ _ _ _ _ h.1⟩
  · exact h.elim
#print axioms decode_row
end Go.Proofs.Ytnbbaemijogeoaa.Ae

set_option linter.unusedSimpArgs false
set_option linter.unusedVariables false
set_option maxRecDepth 100000
namespace Go.Proofs.Ytnbbaemijogeoaa
open Go Ae
/-- do two advertisements say the same? -/
def sameA (i p e : Int) (n : Nat) (f : Nat → List AVal) (i' p' e' : Int) (n' : Nat) (f' : Nat → List AVal) : Bool := decide (i = i') && decide (p = p') && decide (e = e') && decide (strs n f = strs n' f')
def eqFrom (g g' : Nat → List UInt8) : Nat → Nat → Bool
  | 0, _ => true
  | j + 1, k => if g k = g' k then eqFrom g g' j (k + 1) else false
theorem eqFrom_iff {g g' : Nat → List UInt8} : ∀ {j k : Nat}, eqFrom g g' j k = true ↔ ∀ q, k ≤ q → q < k + j → g q = g' q
  | 0, k => by unfold eqFrom; exact ⟨fun _ q h1 h2 => by omega, fun _ => rfl⟩
  | j + 1, k => by
    unfold eqFrom
    split
    · rename_i h
      rw [eqFrom_iff]
      constructor
      · intro hh q h1 h2
        by_cases e : q = k
        · subst e; exact h
        · exact hh q (by omega) (by omega)
      · intro hh q h1 h2; exact hh q (by omega) (by omega)
    · rename_i h
      exact ⟨fun hh => (by cases hh), fun hh => absurd (hh k (by omega) (by omega)) h⟩
theorem strs_eq {n : Nat} {f f' : Nat → List AVal} : (strs n f = strs n f') ↔ eqFrom (strAt f) (strAt f') n 0 = true := by
  rw [eqFrom_iff]
  unfold strs
  rw [List.map_inj_left]
  constructor
  · intro h q _ h2; exact h q (by simpa using h2)
  · intro h q hq; exact h q (Nat.zero_le _) (by simpa using hq)
theorem strs_ne {n n' : Nat} {f f' : Nat → List AVal} (h : n ≠ n') : strs n f ≠ strs n' f' := fun e => h (by have := congrArg List.length e; rwa [strs_len, strs_len] at this)
end Go.Proofs.Ytnbbaemijogeoaa
namespace Go.Proofs.Ytnbbaemijogeoaa.Ae
open Go
def addrOf : AVal → Option (Nat × (Nat → List AVal))
  | .ro n 1 f => some (n, f)
  | .nilS => some (0, fun _ => [])
  | _ => none
def sameRow : Srow := fun args H K => match args, H with
  | [.agg [.int .i64 i, .int .i64 p, .int .i64 e, a], .agg [.int .i64 i', .int .i64 p', .int .i64 e', a']], [] => match addrOf a, addrOf a' with
    | some (n, f), some (n', f') => (IsStrs n f ∧ IsStrs n' f' ∧ n ≤ 8796093022000) ∧ K (.bool (sameA i p e n f i' p' e' n' f')) []
    | _, _ => False
  | _, _ => False
theorem addr_ve {H : Hp} {a : AVal} {n : Nat} {f : Nat → List AVal} (h : addrOf a = some (n, f)) (hs : IsStrs n f) : VE H a (.ro n 1 (onlyStrs f)) := by
  unfold addrOf at h
  split at h
  · cases h; exact VE.strs hs
  · cases h; exact VE.nil_ro
  · cases h
def Tde1 : Specs := ext Tdc 38 (decRow)
theorem Tde1_sound : TSound Try.prog Tde1 := ext_sound Tdc_sound (decode_row)
def ann_outriderref06_Same : Nat → List Nat × Nat × List (List Nat)
  | 4 => ([2, 3, 5], 0, [])
  | 6 => ([], 11, [[], [0], [], [0, 1, 2], [0, 1, 2, 3], [], [5], [], [5, 6, 7], [5, 6, 7, 8], [0, 1, 2, 3, 4, 5, 6, 7, 8, 9]])
  | 2000001 => ([], 29, [[], [0], [0, 1], [0, 1, 2], [0, 1, 2, 3], [0, 1, 2, 3, 4], [0, 1, 2, 3, 4, 5], [0, 1, 2, 3, 4, 5, 6], [0, 1, 2, 3, 4, 5, 6, 7], [0, 1, 2, 3, 4, 5, 6, 7, 8], [0, 1, 2, 3, 4, 5, 6, 7, 8, 9], [0, 1, 2, 3, 4, 5, 6, 7, 8, 9, 10], [0, 1, 2, 3, 4, 5, 6, 7, 8, 9, 10, 11], [0, 1, 2, 3, 4, 5, 6, 7, 8, 9, 10, 11, 12], [0, 1, 2, 3, 4, 5, 6, 7, 8, 9, 10, 11, 12, 13], [0, 1, 2, 3, 4, 5, 6, 7, 8, 9, 10, 11, 12, 13, 14], [0, 1, 2, 3, 4, 5, 6, 7, 8, 9, 10, 11, 12, 13, 14, 15], [0, 1, 2, 3, 4, 5, 6, 7, 8, 9, 10, 11, 12, 13, 14, 15, 16], [0, 1, 2, 3, 4, 5, 6, 7, 8, 9, 10, 11, 12, 13, 14, 15, 16, 17], [0, 1, 2, 3, 4, 5, 6, 7, 8, 9, 10, 11, 12, 13, 14, 15, 16, 17, 18], [0, 1, 2, 3, 4, 5, 6, 7, 8, 9, 10, 11, 12, 13, 14, 15, 16, 17, 18, 19], [0, 1, 2, 3, 4, 5, 6, 7, 8, 9, 10, 11, 12, 13, 14, 15, 16, 17, 18, 19, 20], [0, 1, 2, 3, 4, 5, 6, 7, 8, 9, 10, 11, 12, 13, 14, 15, 16, 17, 18, 19, 20, 21], [0, 1, 2, 3, 4, 5, 6, 7, 8, 9, 10, 11, 12, 13, 14, 15, 16, 17, 18, 19, 20, 21, 22], [0, 1, 2, 3, 4, 5, 6, 7, 8, 9, 10, 11, 12, 13, 14, 15, 16, 17, 18, 19, 20, 21, 22, 23], [0, 1, 2, 3, 4, 5, 6, 7, 8, 9, 10, 11, 12, 13, 14, 15, 16, 17, 18, 19, 20, 21, 22, 23, 24], [0, 1, 2, 3, 4, 5, 6, 7, 8, 9, 10, 11, 12, 13, 14, 15, 16, 17, 18, 19, 20, 21, 22, 23, 24, 25], [0, 1, 2, 3, 4, 5, 6, 7, 8, 9, 10, 11, 12, 13, 14, 15, 16, 17, 18, 19, 20, 21, 22, 23, 24, 25, 26]])
  | _ => ([], 0, [])
noncomputable abbrev same_lp_X : Cx := ⟨Try.prog, Tde1, Try.f25.ntmps, 0, ann_outriderref06_Same⟩
noncomputable def same_lp_c : Code := cAt [.r, .r, .l, .r, .b] (bodyOf Try.f25)
noncomputable def same_lp_k (K : AVal → Hp → Prop) : Post := kAt same_lp_X [.r, .r, .l, .r, .b] (bodyOf Try.f25) (fnK Try.prog 0 Try.f25.results.toList K)
def same_lp_n (K : AVal → Hp → Prop) (n : Nat) (s : St) : Prop := loopP (awp same_lp_X (loopB same_lp_c)) 0 [2, 3, 5] n s (same_lp_k K)
def same_lp (K : AVal → Hp → Prop) (s : St) : Prop := ∃ n, same_lp_n K n s
def same_lp_b (K : AVal → Hp → Prop) (J : St → Prop) (s : St) : Prop := awp same_lp_X (loopB same_lp_c) s (seqK (fun s' => normK 0 [2, 3, 5] s' J) (same_lp_k K))
theorem same_lp_next {K : AVal → Hp → Prop} {n : Nat} {s : St} (h : same_lp_b K (fun s' => same_lp_n K n s') s) : same_lp_n K (n + 1) s := h
set_option maxRecDepth 100000 in
theorem same_eq (i p e : Int) (n : Nat) (g : Nat → List UInt8) (i' p' e' : Int) (n' : Nat) (g' : Nat → List UInt8) (K : AVal → Hp → Prop) : fnP Try.prog Tde1 ann_outriderref06_Same Try.f25 [.agg [.int .i64 i, .int .i64 p, .int .i64 e, .ro n 1 (fun q => [.str (g q)])], .agg [.int .i64 i', .int .i64 p', .int .i64 e', .ro n' 1 (fun q => [.str (g' q)])]] [] K = (
 brP (!decide (i = i') || !decide (p = p') || !decide (e = e') || !decide ((↑n : Int) = (↑n' : Int))) (K (.bool false) []) (same_lp K (St.mk [(2, .ptr 0 0), (3, .ptr 1 0), (5, .int .i64 0)] [.vals [.int .i64 i, .int .i64 p, .int .i64 e, .ro n (1 : Nat) fun q => [.str (g q)]], .vals [.int .i64 i', .int .i64 p', .int .i64 e', .ro n' (1 : Nat) fun q => [.str (g' q)]]]))) := by kernel_rfl
set_option maxRecDepth 100000 in
theorem same_lp_step (i p e : Int) (n : Nat) (g : Nat → List UInt8) (i' p' e' : Int) (n' : Nat) (g' : Nat → List UInt8) (c : Int) (K : AVal → Hp → Prop) (J : St → Prop) : same_lp_b K J (St.mk [(2, .ptr 0 0), (3, .ptr 1 0), (5, .int .i64 c)] [.vals [.int .i64 i, .int .i64 p, .int .i64 e, .ro n 1 (fun q => [.str (g q)])], .vals [.int .i64 i', .int .i64 p', .int .i64 e', .ro n' 1 (fun q => [.str (g' q)])]]) = (
 brP (decide (c < (↑n : Int))) (((0 : Int) ≤ c ∧ c < (↑n : Int)) ∧ ((0 : Int) ≤ c ∧ c < (↑n' : Int)) ∧ brP (!decide (g (Int.toNat c) = g' (Int.toNat c))) (K (.bool false) []) (I64 (c + (1 : Int)) ∧ J (St.mk [(2, .ptr 0 0), (3, .ptr 1 0), (5, .int .i64 (c + (1 : Int)))] [.vals [.int .i64 i, .int .i64 p, .int .i64 e, .ro n (1 : Nat) fun q => [.str (g q)]], .vals [.int .i64 i', .int .i64 p', .int .i64 e', .ro n' (1 : Nat) fun q => [.str (g' q)]]]))) (K (.bool true) [])) := by kernel_rfl
theorem same_all (K : AVal → Hp → Prop) (i p e : Int) (n : Nat) (g : Nat → List UInt8) (i' p' e' : Int) (g' : Nat → List UInt8) (hn : n ≤ 8796093022000) : ∀ (j k : Nat), k + j = n → K (.bool (eqFrom g g' j k)) [] →
    same_lp_n K (j + 1) (St.mk [(2, .ptr 0 0), (3, .ptr 1 0), (5, .int .i64 (k : Int))] [.vals [.int .i64 i, .int .i64 p, .int .i64 e, .ro n 1 (fun q => [.str (g q)])], .vals [.int .i64 i', .int .i64 p', .int .i64 e', .ro n 1 (fun q => [.str (g' q)])]])
  | 0, k, h, hK => by
    refine same_lp_next ?_
    rw [same_lp_step]
    exact brP_d (fun h' => by omega) (fun _ => hK)
  | j + 1, k, h, hK => by
    refine same_lp_next ?_
    rw [same_lp_step]
    unfold eqFrom at hK
    refine brP_d (fun _ => ⟨by omega, by omega, ?_⟩) (fun h' => by omega)
    rw [Int.toNat_natCast]
    refine brP_nd (fun h1 => ?_) (fun h1 => ⟨by unfold I64; omega, ?_⟩)
    · rw [if_neg h1] at hK; exact hK
    · rw [if_pos h1] at hK
      exact same_all K i p e n g i' p' e' g' hn j (k + 1) (by omega) hK
attribute [local irreducible] fnP in
theorem outriderref06_Same_p : ∀ args H K, sameRow args H K → ∃ args', ArgsLe H args args' ∧ fnP Try.prog Tde1 ann_outriderref06_Same Try.f25 args' H (fun v H' => ∃ v2 H2, ResLe v H' v2 H2 ∧ K v2 H2) := by
  intro args H K h
  unfold sameRow at h
  split at h
  · rename_i i p e a i' p' e' a'
    split at h
    · rename_i n f n' f' h1 h2
      obtain ⟨⟨hs, hs', hn⟩, hK⟩ := h
      refine ⟨[.agg [.int .i64 i, .int .i64 p, .int .i64 e, .ro n 1 (onlyStrs f)], .agg [.int .i64 i', .int .i64 p', .int .i64 e', .ro n' 1 (onlyStrs f')]], .cons (.agg (.cons .refl (.cons .refl (.cons .refl (.cons (addr_ve h1 hs) .nil))))) (.cons (.agg (.cons .refl (.cons .refl (.cons .refl (.cons (addr_ve h2 hs') .nil))))) .nil), ?_⟩
      unfold onlyStrs
      rw [same_eq]
      refine brP_i (fun hc => ?_) (fun hc => ?_)
      · have e0 : sameA i p e n f i' p' e' n' f' = false := by
          unfold sameA
          simp only [Bool.and_eq_true, Bool.or_eq_true, Bool.and_eq_false_iff, Bool.or_eq_false_iff, decide_eq_true_eq, decide_eq_false_iff_not, Bool.not_eq_true', Bool.not_eq_false', Bool.not_true, Bool.not_false, Bool.true_and, Bool.and_true, Bool.false_or, Bool.or_false, beq_iff_eq, beq_eq_false_iff_ne, ne_eq] at hc
          rw [Bool.eq_false_iff]
          intro hh
          simp only [Bool.and_eq_true, decide_eq_true_eq] at hh
          have := strs_ne (f := f) (f' := f') (n := n) (n' := n')
          have h4 : n = n' := Classical.byContradiction fun h => this h hh.2
          omega
        rw [e0] at hK
        exact ⟨_, _, .refl, hK⟩
      · simp only [Bool.and_eq_true, Bool.or_eq_true, Bool.and_eq_false_iff, Bool.or_eq_false_iff, decide_eq_true_eq, decide_eq_false_iff_not, Bool.not_eq_true', Bool.not_eq_false', Bool.not_true, Bool.not_false, Bool.true_and, Bool.and_true, Bool.false_or, Bool.or_false, beq_iff_eq, beq_eq_false_iff_ne, ne_eq] at hc
        obtain rfl : n = n' := by omega
        obtain rfl : i = i' := by omega
        obtain rfl : p = p' := by omega
        obtain rfl : e = e' := by omega
        have e0 : sameA i p e n f i p e n f' = eqFrom (strAt f) (strAt f') n 0 := by
          unfold sameA
          simp only [decide_true, Bool.true_and]
          rw [Bool.eq_iff_iff, decide_eq_true_eq, strs_eq]
        rw [e0] at hK
        exact ⟨_, same_all _ _ _ _ _ _ _ _ _ _ hn n 0 (by omega) ⟨_, _, .refl, hK⟩⟩
    · exact h.elim
  · exact h.elim
def Tde2 : Specs := ext Tde1 25 (sameRow)
theorem Tde2_sound : TSound Try.prog Tde2 := ext_sound Tde1_sound (row_weak Tde1_sound mixed Try.func25 (by decide +kernel) outriderref06_Same_p)
abbrev Tde : Specs := Tde2
theorem Tde_sound : TSound Try.prog Tde := Tde2_sound
end Go.Proofs.Ytnbbaemijogeoaa.Ae

set_option linter.unusedSimpArgs false
set_option linter.unusedVariables false
namespace Go.Proofs.Ytnbbaemijogeoaa.Ae
open Go

def ptWriteRow : Srow := fun args H K => match args, H with
  | [.agg [.str f, .str t, .int .i64 p, .int .i64 q, .str b], .agg [.int .i64 h1, .int .i64 h2, .int .i64 h3, .int .i64 h4, .int .i64 h5], .str d], [] => d.length ≤ 140737488351232 ∧
    K (.tup [.agg [.str (ptWrite ⟨f, t, p, q, b⟩ ⟨h1, h2, h3, h4, h5⟩ d).1.src, .str (ptWrite ⟨f, t, p, q, b⟩ ⟨h1, h2, h3, h4, h5⟩ d).1.dst, .int .i64 (ptWrite ⟨f, t, p, q, b⟩ ⟨h1, h2, h3, h4, h5⟩ d).1.proto, .int .i64 (ptWrite ⟨f, t, p, q, b⟩ ⟨h1, h2, h3, h4, h5⟩ d).1.ttl, .str (ptWrite ⟨f, t, p, q, b⟩ ⟨h1, h2, h3, h4, h5⟩ d).1.body], .int .i64 (ptWrite ⟨f, t, p, q, b⟩ ⟨h1, h2, h3, h4, h5⟩ d).2]) []
  | _, _ => False
def ptHdRow (g : Ip → Hd × Int) : Srow := fun args H K => match args, H with
  | [.agg [.str f, .str t, .int .i64 p, .int .i64 q, .str b]], [] => b.length ≤ 140737488351232 ∧
    K (.tup [.agg [.int .i64 (g ⟨f, t, p, q, b⟩).1.proto, .int .i64 (g ⟨f, t, p, q, b⟩).1.src, .int .i64 (g ⟨f, t, p, q, b⟩).1.dst, .int .i64 (g ⟨f, t, p, q, b⟩).1.flags, .int .i64 (g ⟨f, t, p, q, b⟩).1.at'], .int .i64 (g ⟨f, t, p, q, b⟩).2]) []
  | _, _ => False
def ptFlRow (g : Ip → Fl × Int) : Srow := fun args H K => match args, H with
  | [.agg [.str f, .str t, .int .i64 p, .int .i64 q, .str b]], [] => b.length ≤ 140737488351232 ∧
    K (.tup [.agg [.int .i64 (g ⟨f, t, p, q, b⟩).1.proto, .str (g ⟨f, t, p, q, b⟩).1.src, .str (g ⟨f, t, p, q, b⟩).1.dst, .int .i64 (g ⟨f, t, p, q, b⟩).1.port, .int .i64 (g ⟨f, t, p, q, b⟩).1.dest], .int .i64 (g ⟨f, t, p, q, b⟩).2]) []
  | _, _ => False
abbrev Tpt1 : Specs := Tip
theorem Tpt1_sound : TSound Try.prog Tpt1 := Tip_sound
abbrev Tpt2 : Specs := Tpt1
theorem Tpt2_sound : TSound Try.prog Tpt2 := Tpt1_sound
def ann_ports_number : Nat → List Nat × Nat × List (List Nat)
  | 1 => ([], 8, [[], [0], [0, 1], [0, 1, 2], [], [4], [4, 5], [0, 1, 2, 3, 4, 5, 6]])
  | _ => ([], 0, [])
def Tpt3 : Specs := ext Tpt2 70 (fnP Try.prog Tpt2 ann_ports_number Try.f70)
theorem Tpt3_sound : TSound Try.prog Tpt3 := ext_sound Tpt2_sound (fn_row Tpt2_sound mixed Try.func70 (by decide +kernel))
abbrev Tpt4 : Specs := Tpt3
theorem Tpt4_sound : TSound Try.prog Tpt4 := Tpt3_sound
def ann__outrider_ports_Head__right : Nat → List Nat × Nat × List (List Nat)
  | _ => ([], 0, [])
def Tpt5 : Specs := ext Tpt4 108 (fnP Try.prog Tpt4 ann__outrider_ports_Head__right Try.f108)
theorem Tpt5_sound : TSound Try.prog Tpt5 := ext_sound Tpt4_sound (fn_row Tpt4_sound mixed Try.func108 (by decide +kernel))
abbrev Tpt6 : Specs := Tpt5
theorem Tpt6_sound : TSound Try.prog Tpt6 := Tpt5_sound
def ann_ports_Read_1 : Nat → List Nat × Nat × List (List Nat)
  | 1 => ([], 15, [[], [0], [], [2], [], [4], [], [6], [6, 7], [0, 1, 2, 3, 4, 5, 6, 7, 8], [], [10], [10, 11], [0, 1, 2, 3, 4, 5, 6, 7, 8, 9, 10, 11, 12], [0, 1, 2, 3, 4, 5, 6, 7, 8, 9, 10, 11, 12, 13]])
  | _ => ([], 0, [])
def Tpt7 : Specs := ext Tpt6 69 (fnP Try.prog Tpt6 ann_ports_Read_1 Try.f69)
theorem Tpt7_sound : TSound Try.prog Tpt7 := ext_sound Tpt6_sound (fn_row Tpt6_sound mixed Try.func69 (by decide +kernel))
def ann_ports_Turn : Nat → List Nat × Nat × List (List Nat)
  | _ => ([], 0, [])
def Tpt8 : Specs := ext Tpt7 73 (fnP Try.prog Tpt7 ann_ports_Turn Try.f73)
theorem Tpt8_sound : TSound Try.prog Tpt8 := ext_sound Tpt7_sound (fn_row Tpt7_sound mixed Try.func73 (by decide +kernel))
abbrev Tpt9 : Specs := Tpt8
theorem Tpt9_sound : TSound Try.prog Tpt9 := Tpt8_sound
abbrev Tpt10 : Specs := Tpt9
theorem Tpt10_sound : TSound Try.prog Tpt10 := Tpt9_sound
abbrev Tpt11 : Specs := Tpt10
theorem Tpt11_sound : TSound Try.prog Tpt11 := Tpt10_sound
abbrev Tpt12 : Specs := Tpt11
theorem Tpt12_sound : TSound Try.prog Tpt12 := Tpt11_sound
def ann_ports_shape : Nat → List Nat × Nat × List (List Nat)
  | 7 => ([], 9, [[], [0], [], [2], [], [4], [2, 3, 4, 5], [0, 1, 2, 3, 4, 5, 6], []])
  | 12 => ([], 12, [[10], [], [0], [0, 1], [0, 1, 2], [0, 1, 2, 3], [], [5], [5, 6], [5, 6, 7], [0, 1, 2, 3, 4], [0, 1, 2, 3, 4, 9], [0, 1, 2, 3, 4, 5, 6, 7, 8, 9, 10]])
  | 2000002 => ([], 9, [[], [0], [0, 1], [0, 1, 2], [0, 1, 2, 3], [0, 1, 2, 3, 4], [0, 1, 2, 3, 4, 5], [0, 1, 2, 3, 4, 5, 6]])
  | 2000004 => ([], 9, [[], [0], [0, 1], [0, 1, 2], [0, 1, 2, 3], [0, 1, 2, 3, 4], [0, 1, 2, 3, 4, 5], [0, 1, 2, 3, 4, 5, 6]])
  | 2000013 => ([], 11, [[], [0], [0, 1], [0, 1, 2], [0, 1, 2, 3], [0, 1, 2, 3, 4], [0, 1, 2, 3, 4, 5], [0, 1, 2, 3, 4, 5, 6], [0, 1, 2, 3, 4, 5, 6, 7], [0, 1, 2, 3, 4, 5, 6, 7, 8]])
  | _ => ([], 0, [])
set_option maxRecDepth 100000 in
theorem ports_shape_eq (f t : List UInt8) (p q : Int) (b : List UInt8) (K : AVal → Hp → Prop) : fnP Try.prog Tpt12 ann_ports_shape Try.f68 [.agg [.str f, .str t, .int .i64 p, .int .i64 q, .str b]] [] K = (
 brP (!decide (p = (6 : Int)) && !decide (p = (17 : Int))) (K (.tup [.agg [.int .i64 0, .int .i64 0, .int .i64 0, .int .i64 0, .int .i64 0], .int .i64 51]) []) (brP (decide (p = (6 : Int)) && decide ((↑(List.length b) : Int) < (20 : Int))) (K (.tup [.agg [.int .i64 0, .int .i64 0, .int .i64 0, .int .i64 0, .int .i64 0], .int .i64 50]) []) (brP (decide ((↑(List.length b) : Int) < (8 : Int))) (K (.tup [.agg [.int .i64 0, .int .i64 0, .int .i64 0, .int .i64 0, .int .i64 0], .int .i64 50]) []) (((0 : Int) ≤ (0 : Int) ∧ (0 : Int) < (↑(List.length b) : Int)) ∧ ((0 : Int) ≤ (8 : Int) ∧ (8 : Int) < (64 : Int) ∧ I64 ((↑(UInt8.toNat (List.getD b (0 : Nat) (0 : UInt8))) : Int) * (256 : Int))) ∧ ((0 : Int) ≤ (1 : Int) ∧ (1 : Int) < (↑(List.length b) : Int)) ∧ ((0 : Int) ≤ (2 : Int) ∧ (2 : Int) ≤ (↑(List.length b) : Int)) ∧ ((0 : Int) ≤ (0 : Int) ∧ (0 : Int) < (↑(List.length (List.drop (2 : Nat) b)) : Int)) ∧ ((0 : Int) ≤ (8 : Int) ∧ (8 : Int) < (64 : Int) ∧ I64 ((↑(UInt8.toNat (List.getD (List.drop (2 : Nat) b) (0 : Nat) (0 : UInt8))) : Int) * (256 : Int))) ∧ ((0 : Int) ≤ (1 : Int) ∧ (1 : Int) < (↑(List.length (List.drop (2 : Nat) b)) : Int)) ∧ brP (decide (p = (17 : Int))) (((0 : Int) ≤ (4 : Int) ∧ (4 : Int) ≤ (↑(List.length b) : Int)) ∧ ((0 : Int) ≤ (0 : Int) ∧ (0 : Int) < (↑(List.length (List.drop (4 : Nat) b)) : Int)) ∧ ((0 : Int) ≤ (8 : Int) ∧ (8 : Int) < (64 : Int) ∧ I64 ((↑(UInt8.toNat (List.getD (List.drop (4 : Nat) b) (0 : Nat) (0 : UInt8))) : Int) * (256 : Int))) ∧ ((0 : Int) ≤ (1 : Int) ∧ (1 : Int) < (↑(List.length (List.drop (4 : Nat) b)) : Int)) ∧ brP (!decide (bits BinOp.or IntKind.i64 ((↑(UInt8.toNat (List.getD (List.drop (4 : Nat) b) (0 : Nat) (0 : UInt8))) : Int) * (256 : Int)) (↑(UInt8.toNat (List.getD (List.drop (4 : Nat) b) (1 : Nat) (0 : UInt8))) : Int) = (↑(List.length b) : Int))) (K (.tup [.agg [.int .i64 0, .int .i64 0, .int .i64 0, .int .i64 0, .int .i64 0], .int .i64 53]) []) (K (.tup [.agg [.int .i64 p, .int .i64 (bits BinOp.or IntKind.i64
 ((↑(UInt8.toNat (List.getD b (0 : Nat) (0 : UInt8))) : Int) * (256 : Int)) (↑(UInt8.toNat (List.getD b (1 : Nat) (0 : UInt8))) : Int)), .int .i64 (bits BinOp.or IntKind.i64 ((↑(UInt8.toNat (List.getD (List.drop (2 : Nat) b) (0 : Nat) (0 : UInt8))) : Int) * (256 : Int)) (↑(UInt8.toNat (List.getD (List.drop (2 : Nat) b) (1 : Nat) (0 : UInt8))) : Int)), .int .i64 0, .int .i64 8], .int .i64 0]) [])) (((0 : Int) ≤ (12 : Int) ∧ (12 : Int) < (↑(List.length b) : Int)) ∧ ((0 : Int) ≤ (4 : Int) ∧ (4 : Int) < (8 : Int)) ∧ I64 ((↑(UInt8.toNat (b8 ((↑(UInt8.toNat (List.getD b (12 : Nat) (0 : UInt8))) : Int) / (16 : Int)))) : Int) * (4 : Int)) ∧ ((0 : Int) ≤ (13 : Int) ∧ (13 : Int) < (↑(List.length b) : Int)) ∧ brP (decide ((↑(UInt8.toNat (b8 ((↑(UInt8.toNat (List.getD b (12 : Nat) (0 : UInt8))) : Int) / (16 : Int)))) : Int) * (4 : Int) < (20 : Int)) || decide ((↑(List.length b) : Int) < (↑(UInt8.toNat (b8 ((↑(UInt8.toNat (List.getD b (12 : Nat) (0 : UInt8))) : Int) / (16 : Int)))) : Int) * (4 : Int))) (K (.tup [.agg [.int .i64 0, .int .i64 0, .int .i64 0, .int .i64 0, .int .i64 0], .int .i64 53]) []) (K (.tup [.agg [.int .i64 p, .int .i64 (bits BinOp.or IntKind.i64 ((↑(UInt8.toNat (List.getD b (0 : Nat) (0 : UInt8))) : Int) * (256 : Int)) (↑(UInt8.toNat (List.getD b (1 : Nat) (0 : UInt8))) : Int)), .int .i64 (bits BinOp.or IntKind.i64 ((↑(UInt8.toNat (List.getD (List.drop (2 : Nat) b) (0 : Nat) (0 : UInt8))) : Int) * (256 : Int)) (↑(UInt8.toNat (List.getD (List.drop (2 : Nat) b) (1 : Nat) (0 : UInt8))) : Int)), .int .i64 (↑(UInt8.toNat (List.getD b (13 : Nat) (0 : UInt8) &&& (63 : UInt8))) : Int), .int .i64 ((↑(UInt8.toNat (b8 ((↑(UInt8.toNat (List.getD b (12 : Nat) (0 : UInt8))) : Int) / (16 : Int)))) : Int) * (4 : Int))], .int .i64 0]) [])))))) := by kernel_rfl
set_option maxHeartbeats 2000000 in
theorem ports_shape_p : ∀ args H K, ptHdRow ptShape args H K → fnP Try.prog Tpt12 ann_ports_shape Try.f68 args H K := by
  intro args H K h
  unfold ptHdRow at h
  split at h
  · rename_i f t p q b
    rw [ports_shape_eq]
    try simp only [or_w16, div2, div3, add_w16, and255, b8_mod, List.set_cons_zero, List.set_cons_succ, andNot_4000, getD_drop, getD_take, b8_byte, b8_toNatN, UInt8.toNat_ofNat', UInt8.toNat_and, nat_mask4, nat_mask6, nat_240, u8_eq_iff, UInt8.reduceToNat, Int.reduceLT, List.take_succ_cons, List.take_zero, List.drop_zero, List.flatten_cons, List.flatten_nil, List.append_nil, List.nil_append, List.take_length, Nat.mul_one, Nat.zero_add, Nat.reduceAdd, Nat.reduceLT]
    obtain ⟨hl, hK⟩ := h
    have x12 := (b.getD 12 0).toNat_lt
    have x13 := (b.getD 13 0).toNat_lt
    have w0 := w16_bd (b.getD 0 0) (b.getD 1 0)
    have w2 := w16_bd (b.getD 2 0) (b.getD 3 0)
    have w4 := w16_bd (b.getD 4 0) (b.getD 5 0)
    repeat' first
      | (refine And.intro (by first | first | omega | with_reducible exact i64_x256 _ | with_reducible exact i64_w16 _ _ | with_reducible exact i64_sum _ | (repeat' first | with_reducible exact i64_x256 _ | with_reducible exact i64_w16 _ _ | with_reducible exact i64_sum _ | with_reducible apply And.intro) <;> first | omega | (simp only [I64]; omega) | (simp; omega) | (simp; done) | (simp [I64]; omega) | (with_reducible refine impP_i (fun hg => ?_) <;> (try simp only [Bool.and_eq_true, Bool.or_eq_true, Bool.and_eq_false_iff, Bool.or_eq_false_iff, decide_eq_true_eq, decide_eq_false_iff_not, Bool.not_eq_true', Bool.not_eq_false', Bool.not_true, Bool.not_false, Bool.true_and, Bool.and_true, Bool.false_or, Bool.or_false, beq_iff_eq, beq_eq_false_iff_ne, ne_eq] at hg) <;> (first | omega | with_reducible exact i64_x256 _ | with_reducible exact i64_w16 _ _ | with_reducible exact i64_sum _ | (repeat' first | with_reducible exact i64_x256 _ | with_reducible exact i64_w16 _ _ | with_reducible exact i64_sum _ | with_reducible apply And.intro) <;> first | omega | (simp only [I64]; omega) | (simp; omega) | (simp; done) | (simp [I64]; omega)))) ?_)
      | (refine brP_d (fun h => ?_) (fun h => ?_))
      | (refine optP_i (fun x hx => ?_) (fun hx => ?_) <;> (try have hxl := pseudo_len hx))
      | (refine brP_nd (fun h => ?_) (fun h => ?_))
      | (refine brP_i (fun h => ?_) (fun h => ?_) <;> (try simp only [Bool.and_eq_true, Bool.or_eq_true, Bool.and_eq_false_iff, Bool.or_eq_false_iff, decide_eq_true_eq, decide_eq_false_iff_not, Bool.not_eq_true', Bool.not_eq_false', Bool.not_true, Bool.not_false, Bool.true_and, Bool.and_true, Bool.false_or, Bool.or_false, beq_iff_eq, beq_eq_false_iff_ne, ne_eq] at h))
    all_goals unfold ptShape at hK
    all_goals try simp only [noHd] at hK
    all_goals repeat' split at hK
    all_goals first
      | exact hK
      | (exfalso; omega)
      | (simp only at hK; subst_vars; exact hK)
      | (refine endK_eq hK ?_ rfl; simp only [AVal.tup.injEq, AVal.agg.injEq, List.cons.injEq, AVal.int.injEq, AVal.str.injEq, true_and, and_true]; omega)
  · exact h.elim
def Tpt13 : Specs := ext Tpt12 68 (ptHdRow ptShape)
theorem Tpt13_sound : TSound Try.prog Tpt13 := ext_sound Tpt12_sound (row_of Tpt12_sound mixed Try.func68 (by decide +kernel) ports_shape_p)
def ann_ports_Read : Nat → List Nat × Nat × List (List Nat)
  | _ => ([], 0, [])
set_option maxRecDepth 100000 in
theorem ports_Read_eq (f t : List UInt8) (p q : Int) (b : List UInt8) (K : AVal → Hp → Prop) : fnP Try.prog Tpt13 ann_ports_Read Try.f40 [.agg [.str f, .str t, .int .i64 p, .int .i64 q, .str b]] [] K = (
 List.length b ≤ (140737488351232 : Nat) ∧ brP (!decide ((ptShape (Ip.mk f t p q b)).snd = (0 : Int))) (K (.tup [.agg [.int .i64 0, .int .i64 0, .int .i64 0, .int .i64 0, .int .i64 0], .int .i64 (ptShape (Ip.mk f t p q b)).snd]) []) (brP (decide ((ptShape (Ip.mk f t p q b)).fst.proto = (17 : Int))) (brP (decide ((↑(List.length f) : Int) = (4 : Int))) (brP (decide ((↑(List.length t) : Int) = (4 : Int))) (((0 : Int) ≤ (6 : Int) ∧ (6 : Int) ≤ (↑(List.length b) : Int)) ∧ ((0 : Int) ≤ (0 : Int) ∧ (0 : Int) < (↑(List.length (List.drop (6 : Nat) b)) : Int)) ∧ ((0 : Int) ≤ (8 : Int) ∧ (8 : Int) < (64 : Int) ∧ I64 ((↑(UInt8.toNat (List.getD (List.drop (6 : Nat) b) (0 : Nat) (0 : UInt8))) : Int) * (256 : Int))) ∧ ((0 : Int) ≤ (1 : Int) ∧ (1 : Int) < (↑(List.length (List.drop (6 : Nat) b)) : Int)) ∧ brP (!decide (bits BinOp.or IntKind.i64 ((↑(UInt8.toNat (List.getD (List.drop (6 : Nat) b) (0 : Nat) (0 : UInt8))) : Int) * (256 : Int)) (↑(UInt8.toNat (List.getD (List.drop (6 : Nat) b) (1 : Nat) (0 : UInt8))) : Int) = (0 : Int))) (optP (pseudo f t p (↑(List.length b) : Int)) (fun x => List.length b ≤ (140737488355328 : Nat) ∧ ((2 : Nat) ≤ (1000 : Nat) ∧ List.length (List.flatten [List.take (List.length x) (List.drop (0 : Nat) x), List.take (List.length b) (List.drop (0 : Nat) b)]) ≤ (562949953421312 : Nat)) ∧ brP (!sumB (List.flatten [List.take (List.length x) (List.drop (0 : Nat) x), List.take (List.length b) (List.drop (0 : Nat) b)]) == (65535 : Int)) (K (.tup [.agg [.int .i64 0, .int .i64 0, .int .i64 0, .int .i64 0, .int .i64 0], .int .i64 52]) []) (brP (decide ((↑(List.length f) : Int) = (4 : Int))) (brP (!decide ((↑(List.length f) : Int) = (↑(List.length t) : Int))) (K (.tup [.agg [.int .i64 0, .int .i64 0, .int .i64 0, .int .i64 0, .int .i64 0], .int .i64 53]) []) (K (.tup [.agg [.int .i64 (ptShape (Ip.mk f t p q b)).fst.proto, .int .i64 (ptShape (Ip.mk f t p q b)).fst.src, .int .i64 (ptShape (Ip.mk f t p q b)).fst.dst, .int .i64 (ptShape (Ip.mk f t p q b)).fst.flags,
 .int .i64 (ptShape (Ip.mk f t p q b)).fst.at'], .int .i64 0]) [])) (brP (!decide ((↑(List.length f) : Int) = (16 : Int))) (K (.tup [.agg [.int .i64 0, .int .i64 0, .int .i64 0, .int .i64 0, .int .i64 0], .int .i64 53]) []) (brP (!decide ((↑(List.length f) : Int) = (↑(List.length t) : Int))) (K (.tup [.agg [.int .i64 0, .int .i64 0, .int .i64 0, .int .i64 0, .int .i64 0], .int .i64 53]) []) (K (.tup [.agg [.int .i64 (ptShape (Ip.mk f t p q b)).fst.proto, .int .i64 (ptShape (Ip.mk f t p q b)).fst.src, .int .i64 (ptShape (Ip.mk f t p q b)).fst.dst, .int .i64 (ptShape (Ip.mk f t p q b)).fst.flags, .int .i64 (ptShape (Ip.mk f t p q b)).fst.at'], .int .i64 0]) []))))) (List.length b ≤ (140737488355328 : Nat) ∧ ((2 : Nat) ≤ (1000 : Nat) ∧ List.length (List.flatten [[], List.take (List.length b) (List.drop (0 : Nat) b)]) ≤ (562949953421312 : Nat)) ∧ brP (!sumB (List.flatten [[], List.take (List.length b) (List.drop (0 : Nat) b)]) == (65535 : Int)) (K (.tup [.agg [.int .i64 0, .int .i64 0, .int .i64 0, .int .i64 0, .int .i64 0], .int .i64 52]) []) (brP (decide ((↑(List.length f) : Int) = (4 : Int))) (brP (!decide ((↑(List.length f) : Int) = (↑(List.length t) : Int))) (K (.tup [.agg [.int .i64 0, .int .i64 0, .int .i64 0, .int .i64 0, .int .i64 0], .int .i64 53]) []) (K (.tup [.agg [.int .i64 (ptShape (Ip.mk f t p q b)).fst.proto, .int .i64 (ptShape (Ip.mk f t p q b)).fst.src, .int .i64 (ptShape (Ip.mk f t p q b)).fst.dst, .int .i64 (ptShape (Ip.mk f t p q b)).fst.flags, .int .i64 (ptShape (Ip.mk f t p q b)).fst.at'], .int .i64 0]) [])) (brP (!decide ((↑(List.length f) : Int) = (16 : Int))) (K (.tup [.agg [.int .i64 0, .int .i64 0, .int .i64 0, .int .i64 0, .int .i64 0], .int .i64 53]) []) (brP (!decide ((↑(List.length f) : Int) = (↑(List.length t) : Int))) (K (.tup [.agg [.int .i64 0, .int .i64 0, .int .i64 0, .int .i64 0, .int .i64 0], .int .i64 53]) []) (K (.tup [.agg [.int .i64 (ptShape (Ip.mk f t p q b)).fst.proto, .int .i64 (ptShape (Ip.mk f t p q b)).fst.src,
 .int .i64 (ptShape (Ip.mk f t p q b)).fst.dst, .int .i64 (ptShape (Ip.mk f t p q b)).fst.flags, .int .i64 (ptShape (Ip.mk f t p q b)).fst.at'], .int .i64 0]) [])))))) (brP (decide ((↑(List.length f) : Int) = (4 : Int))) (brP (!decide ((↑(List.length f) : Int) = (↑(List.length t) : Int))) (K (.tup [.agg [.int .i64 0, .int .i64 0, .int .i64 0, .int .i64 0, .int .i64 0], .int .i64 53]) []) (K (.tup [.agg [.int .i64 (ptShape (Ip.mk f t p q b)).fst.proto, .int .i64 (ptShape (Ip.mk f t p q b)).fst.src, .int .i64 (ptShape (Ip.mk f t p q b)).fst.dst, .int .i64 (ptShape (Ip.mk f t p q b)).fst.flags, .int .i64 (ptShape (Ip.mk f t p q b)).fst.at'], .int .i64 0]) [])) (brP (!decide ((↑(List.length f) : Int) = (16 : Int))) (K (.tup [.agg [.int .i64 0, .int .i64 0, .int .i64 0, .int .i64 0, .int .i64 0], .int .i64 53]) []) (brP (!decide ((↑(List.length f) : Int) = (↑(List.length t) : Int))) (K (.tup [.agg [.int .i64 0, .int .i64 0, .int .i64 0, .int .i64 0, .int .i64 0], .int .i64 53]) []) (K (.tup [.agg [.int .i64 (ptShape (Ip.mk f t p q b)).fst.proto, .int .i64 (ptShape (Ip.mk f t p q b)).fst.src, .int .i64 (ptShape (Ip.mk f t p q b)).fst.dst, .int .i64 (ptShape (Ip.mk f t p q b)).fst.flags, .int .i64 (ptShape (Ip.mk f t p q b)).fst.at'], .int .i64 0]) []))))) (optP (pseudo f t p (↑(List.length b) : Int)) (fun x => List.length b ≤ (140737488355328 : Nat) ∧ ((2 : Nat) ≤ (1000 : Nat) ∧ List.length (List.flatten [List.take (List.length x) (List.drop (0 : Nat) x), List.take (List.length b) (List.drop (0 : Nat) b)]) ≤ (562949953421312 : Nat)) ∧ brP (!sumB (List.flatten [List.take (List.length x) (List.drop (0 : Nat) x), List.take (List.length b) (List.drop (0 : Nat) b)]) == (65535 : Int)) (K (.tup [.agg [.int .i64 0, .int .i64 0, .int .i64 0, .int .i64 0, .int .i64 0], .int .i64 52]) []) (brP (decide ((↑(List.length f) : Int) = (4 : Int))) (brP (!decide ((↑(List.length f) : Int) = (↑(List.length t) : Int))) (K (.tup [.agg [.int .i64 0, .int .i64 0, .int .i64 0,
 .int .i64 0, .int .i64 0], .int .i64 53]) []) (K (.tup [.agg [.int .i64 (ptShape (Ip.mk f t p q b)).fst.proto, .int .i64 (ptShape (Ip.mk f t p q b)).fst.src, .int .i64 (ptShape (Ip.mk f t p q b)).fst.dst, .int .i64 (ptShape (Ip.mk f t p q b)).fst.flags, .int .i64 (ptShape (Ip.mk f t p q b)).fst.at'], .int .i64 0]) [])) (brP (!decide ((↑(List.length f) : Int) = (16 : Int))) (K (.tup [.agg [.int .i64 0, .int .i64 0, .int .i64 0, .int .i64 0, .int .i64 0], .int .i64 53]) []) (brP (!decide ((↑(List.length f) : Int) = (↑(List.length t) : Int))) (K (.tup [.agg [.int .i64 0, .int .i64 0, .int .i64 0, .int .i64 0, .int .i64 0], .int .i64 53]) []) (K (.tup [.agg [.int .i64 (ptShape (Ip.mk f t p q b)).fst.proto, .int .i64 (ptShape (Ip.mk f t p q b)).fst.src, .int .i64 (ptShape (Ip.mk f t p q b)).fst.dst, .int .i64 (ptShape (Ip.mk f t p q b)).fst.flags, .int .i64 (ptShape (Ip.mk f t p q b)).fst.at'], .int .i64 0]) []))))) (List.length b ≤ (140737488355328 : Nat) ∧ ((2 : Nat) ≤ (1000 : Nat) ∧ List.length (List.flatten [[], List.take (List.length b) (List.drop (0 : Nat) b)]) ≤ (562949953421312 : Nat)) ∧ brP (!sumB (List.flatten [[], List.take (List.length b) (List.drop (0 : Nat) b)]) == (65535 : Int)) (K (.tup [.agg [.int .i64 0, .int .i64 0, .int .i64 0, .int .i64 0, .int .i64 0], .int .i64 52]) []) (brP (decide ((↑(List.length f) : Int) = (4 : Int))) (brP (!decide ((↑(List.length f) : Int) = (↑(List.length t) : Int))) (K (.tup [.agg [.int .i64 0, .int .i64 0, .int .i64 0, .int .i64 0, .int .i64 0], .int .i64 53]) []) (K (.tup [.agg [.int .i64 (ptShape (Ip.mk f t p q b)).fst.proto, .int .i64 (ptShape (Ip.mk f t p q b)).fst.src, .int .i64 (ptShape (Ip.mk f t p q b)).fst.dst, .int .i64 (ptShape (Ip.mk f t p q b)).fst.flags, .int .i64 (ptShape (Ip.mk f t p q b)).fst.at'], .int .i64 0]) [])) (brP (!decide ((↑(List.length f) : Int) = (16 : Int))) (K (.tup [.agg [.int .i64 0, .int .i64 0, .int .i64 0, .int .i64 0, .int .i64 0], .int .i64 53]) [])
 (brP (!decide ((↑(List.length f) : Int) = (↑(List.length t) : Int))) (K (.tup [.agg [.int .i64 0, .int .i64 0, .int .i64 0, .int .i64 0, .int .i64 0], .int .i64 53]) []) (K (.tup [.agg [.int .i64 (ptShape (Ip.mk f t p q b)).fst.proto, .int .i64 (ptShape (Ip.mk f t p q b)).fst.src, .int .i64 (ptShape (Ip.mk f t p q b)).fst.dst, .int .i64 (ptShape (Ip.mk f t p q b)).fst.flags, .int .i64 (ptShape (Ip.mk f t p q b)).fst.at'], .int .i64 0]) []))))))) (optP (pseudo f t p (↑(List.length b) : Int)) (fun x => List.length b ≤ (140737488355328 : Nat) ∧ ((2 : Nat) ≤ (1000 : Nat) ∧ List.length (List.flatten [List.take (List.length x) (List.drop (0 : Nat) x), List.take (List.length b) (List.drop (0 : Nat) b)]) ≤ (562949953421312 : Nat)) ∧ brP (!sumB (List.flatten [List.take (List.length x) (List.drop (0 : Nat) x), List.take (List.length b) (List.drop (0 : Nat) b)]) == (65535 : Int)) (K (.tup [.agg [.int .i64 0, .int .i64 0, .int .i64 0, .int .i64 0, .int .i64 0], .int .i64 52]) []) (brP (decide ((↑(List.length f) : Int) = (4 : Int))) (brP (!decide ((↑(List.length f) : Int) = (↑(List.length t) : Int))) (K (.tup [.agg [.int .i64 0, .int .i64 0, .int .i64 0, .int .i64 0, .int .i64 0], .int .i64 53]) []) (K (.tup [.agg [.int .i64 (ptShape (Ip.mk f t p q b)).fst.proto, .int .i64 (ptShape (Ip.mk f t p q b)).fst.src, .int .i64 (ptShape (Ip.mk f t p q b)).fst.dst, .int .i64 (ptShape (Ip.mk f t p q b)).fst.flags, .int .i64 (ptShape (Ip.mk f t p q b)).fst.at'], .int .i64 0]) [])) (brP (!decide ((↑(List.length f) : Int) = (16 : Int))) (K (.tup [.agg [.int .i64 0, .int .i64 0, .int .i64 0, .int .i64 0, .int .i64 0], .int .i64 53]) []) (brP (!decide ((↑(List.length f) : Int) = (↑(List.length t) : Int))) (K (.tup [.agg [.int .i64 0, .int .i64 0, .int .i64 0, .int .i64 0, .int .i64 0], .int .i64 53]) []) (K (.tup [.agg [.int .i64 (ptShape (Ip.mk f t p q b)).fst.proto, .int .i64 (ptShape (Ip.mk f t p q b)).fst.src, .int .i64 (ptShape (Ip.mk f t p q b)).fst.dst,
 .int .i64 (ptShape (Ip.mk f t p q b)).fst.flags, .int .i64 (ptShape (Ip.mk f t p q b)).fst.at'], .int .i64 0]) []))))) (List.length b ≤ (140737488355328 : Nat) ∧ ((2 : Nat) ≤ (1000 : Nat) ∧ List.length (List.flatten [[], List.take (List.length b) (List.drop (0 : Nat) b)]) ≤ (562949953421312 : Nat)) ∧ brP (!sumB (List.flatten [[], List.take (List.length b) (List.drop (0 : Nat) b)]) == (65535 : Int)) (K (.tup [.agg [.int .i64 0, .int .i64 0, .int .i64 0, .int .i64 0, .int .i64 0], .int .i64 52]) []) (brP (decide ((↑(List.length f) : Int) = (4 : Int))) (brP (!decide ((↑(List.length f) : Int) = (↑(List.length t) : Int))) (K (.tup [.agg [.int .i64 0, .int .i64 0, .int .i64 0, .int .i64 0, .int .i64 0], .int .i64 53]) []) (K (.tup [.agg [.int .i64 (ptShape (Ip.mk f t p q b)).fst.proto, .int .i64 (ptShape (Ip.mk f t p q b)).fst.src, .int .i64 (ptShape (Ip.mk f t p q b)).fst.dst, .int .i64 (ptShape (Ip.mk f t p q b)).fst.flags, .int .i64 (ptShape (Ip.mk f t p q b)).fst.at'], .int .i64 0]) [])) (brP (!decide ((↑(List.length f) : Int) = (16 : Int))) (K (.tup [.agg [.int .i64 0, .int .i64 0, .int .i64 0, .int .i64 0, .int .i64 0], .int .i64 53]) []) (brP (!decide ((↑(List.length f) : Int) = (↑(List.length t) : Int))) (K (.tup [.agg [.int .i64 0, .int .i64 0, .int .i64 0, .int .i64 0, .int .i64 0], .int .i64 53]) []) (K (.tup [.agg [.int .i64 (ptShape (Ip.mk f t p q b)).fst.proto, .int .i64 (ptShape (Ip.mk f t p q b)).fst.src, .int .i64 (ptShape (Ip.mk f t p q b)).fst.dst, .int .i64 (ptShape (Ip.mk f t p q b)).fst.flags, .int .i64 (ptShape (Ip.mk f t p q b)).fst.at'], .int .i64 0]) []))))))) (optP (pseudo f t p (↑(List.length b) : Int)) (fun x => List.length b ≤ (140737488355328 : Nat) ∧ ((2 : Nat) ≤ (1000 : Nat) ∧ List.length (List.flatten [List.take (List.length x) (List.drop (0 : Nat) x), List.take (List.length b) (List.drop (0 : Nat) b)]) ≤ (562949953421312 : Nat)) ∧ brP (!sumB (List.flatten
 [List.take (List.length x) (List.drop (0 : Nat) x), List.take (List.length b) (List.drop (0 : Nat) b)]) == (65535 : Int)) (K (.tup [.agg [.int .i64 0, .int .i64 0, .int .i64 0, .int .i64 0, .int .i64 0], .int .i64 52]) []) (brP (decide ((↑(List.length f) : Int) = (4 : Int))) (brP (!decide ((↑(List.length f) : Int) = (↑(List.length t) : Int))) (K (.tup [.agg [.int .i64 0, .int .i64 0, .int .i64 0, .int .i64 0, .int .i64 0], .int .i64 53]) []) (K (.tup [.agg [.int .i64 (ptShape (Ip.mk f t p q b)).fst.proto, .int .i64 (ptShape (Ip.mk f t p q b)).fst.src, .int .i64 (ptShape (Ip.mk f t p q b)).fst.dst, .int .i64 (ptShape (Ip.mk f t p q b)).fst.flags, .int .i64 (ptShape (Ip.mk f t p q b)).fst.at'], .int .i64 0]) [])) (brP (!decide ((↑(List.length f) : Int) = (16 : Int))) (K (.tup [.agg [.int .i64 0, .int .i64 0, .int .i64 0, .int .i64 0, .int .i64 0], .int .i64 53]) []) (brP (!decide ((↑(List.length f) : Int) = (↑(List.length t) : Int))) (K (.tup [.agg [.int .i64 0, .int .i64 0, .int .i64 0, .int .i64 0, .int .i64 0], .int .i64 53]) []) (K (.tup [.agg [.int .i64 (ptShape (Ip.mk f t p q b)).fst.proto, .int .i64 (ptShape (Ip.mk f t p q b)).fst.src, .int .i64 (ptShape (Ip.mk f t p q b)).fst.dst, .int .i64 (ptShape (Ip.mk f t p q b)).fst.flags, .int .i64 (ptShape (Ip.mk f t p q b)).fst.at'], .int .i64 0]) []))))) (List.length b ≤ (140737488355328 : Nat) ∧ ((2 : Nat) ≤ (1000 : Nat) ∧ List.length (List.flatten [[], List.take (List.length b) (List.drop (0 : Nat) b)]) ≤ (562949953421312 : Nat)) ∧ brP (!sumB (List.flatten [[], List.take (List.length b) (List.drop (0 : Nat) b)]) == (65535 : Int)) (K (.tup [.agg [.int .i64 0, .int .i64 0, .int .i64 0, .int .i64 0, .int .i64 0], .int .i64 52]) []) (brP (decide ((↑(List.length f) : Int) = (4 : Int))) (brP (!decide ((↑(List.length f) : Int) = (↑(List.length t) : Int))) (K (.tup [.agg [.int .i64 0, .int .i64 0, .int .i64 0, .int .i64 0, .int .i64 0], .int .i64 53]) []) (K (.tup [.agg [.int .i64 (ptShape (Ip.mk f t p q b)).fst.proto,
 .int .i64 (ptShape (Ip.mk f t p q b)).fst.src, .int .i64 (ptShape (Ip.mk f t p q b)).fst.dst, .int .i64 (ptShape (Ip.mk f t p q b)).fst.flags, .int .i64 (ptShape (Ip.mk f t p q b)).fst.at'], .int .i64 0]) [])) (brP (!decide ((↑(List.length f) : Int) = (16 : Int))) (K (.tup [.agg [.int .i64 0, .int .i64 0, .int .i64 0, .int .i64 0, .int .i64 0], .int .i64 53]) []) (brP (!decide ((↑(List.length f) : Int) = (↑(List.length t) : Int))) (K (.tup [.agg [.int .i64 0, .int .i64 0, .int .i64 0, .int .i64 0, .int .i64 0], .int .i64 53]) []) (K (.tup [.agg [.int .i64 (ptShape (Ip.mk f t p q b)).fst.proto, .int .i64 (ptShape (Ip.mk f t p q b)).fst.src, .int .i64 (ptShape (Ip.mk f t p q b)).fst.dst, .int .i64 (ptShape (Ip.mk f t p q b)).fst.flags, .int .i64 (ptShape (Ip.mk f t p q b)).fst.at'], .int .i64 0]) [])))))))) := by kernel_rfl
set_option maxHeartbeats 2000000 in
theorem ports_Read_p : ∀ args H K, ptHdRow ptRead args H K → fnP Try.prog Tpt13 ann_ports_Read Try.f40 args H K := by
  intro args H K h
  unfold ptHdRow at h
  split at h
  · rename_i f t p q b
    rw [ports_Read_eq]
    try simp only [or_w16, div2, div3, add_w16, and255, b8_mod, List.set_cons_zero, List.set_cons_succ, andNot_4000, getD_drop, getD_take, b8_byte, b8_toNatN, UInt8.toNat_ofNat', UInt8.toNat_and, nat_mask4, nat_mask6, nat_240, u8_eq_iff, UInt8.reduceToNat, Int.reduceLT, List.take_succ_cons, List.take_zero, List.drop_zero, List.flatten_cons, List.flatten_nil, List.append_nil, List.nil_append, List.take_length, Nat.mul_one, Nat.zero_add, Nat.reduceAdd, Nat.reduceLT]
    obtain ⟨hl, hK⟩ := h
    have hsh := @ptShape_ok ⟨f, t, p, q, b⟩
    simp only at hsh
    have x6 := (b.getD 6 0).toNat_lt
    have x7 := (b.getD 7 0).toNat_lt
    have w67 : w16 (b.getD 6 0) (b.getD 7 0) = ((b.getD 6 0).toNat : Int) * 256 + ((b.getD 7 0).toNat : Int) := rfl
    unfold ptRead ptNone ptGood pseudoL rightA at hK
    cases hps : pseudo f t p (b.length : Int) with
    | none =>
      simp only [optP, or_w16, div2, div3, add_w16, and255, b8_mod, List.set_cons_zero, List.set_cons_succ, andNot_4000, getD_drop, getD_take, b8_byte, b8_toNatN, UInt8.toNat_ofNat', UInt8.toNat_and, nat_mask4, nat_mask6, nat_240, u8_eq_iff, UInt8.reduceToNat, Int.reduceLT, List.take_succ_cons, List.take_zero, List.drop_zero, List.flatten_cons, List.flatten_nil, List.append_nil, List.nil_append, List.take_length, Nat.mul_one, Nat.zero_add, Nat.reduceAdd, Nat.reduceLT]
      simp only [hps, Option.getD_none, Option.getD_some, noHd, Bool.and_eq_true, Bool.or_eq_true, Bool.and_eq_false_iff, Bool.or_eq_false_iff, decide_eq_true_eq, decide_eq_false_iff_not, Bool.not_eq_true', Bool.not_eq_false', Bool.not_true, Bool.not_false, Bool.true_and, Bool.and_true, Bool.false_or, Bool.or_false, beq_iff_eq, beq_eq_false_iff_ne, ne_eq, u8_eq_iff, UInt8.reduceToNat, List.nil_append] at hK
      repeat' first
        | (refine And.intro (by first | first | omega | with_reducible exact i64_x256 _ | with_reducible exact i64_w16 _ _ | with_reducible exact i64_sum _ | (repeat' first | with_reducible exact i64_x256 _ | with_reducible exact i64_w16 _ _ | with_reducible exact i64_sum _ | with_reducible apply And.intro) <;> first | omega | (simp only [I64]; omega) | (simp; omega) | (simp; done) | (simp [I64]; omega) | (with_reducible refine impP_i (fun hg => ?_) <;> (try simp only [Bool.and_eq_true, Bool.or_eq_true, Bool.and_eq_false_iff, Bool.or_eq_false_iff, decide_eq_true_eq, decide_eq_false_iff_not, Bool.not_eq_true', Bool.not_eq_false', Bool.not_true, Bool.not_false, Bool.true_and, Bool.and_true, Bool.false_or, Bool.or_false, beq_iff_eq, beq_eq_false_iff_ne, ne_eq] at hg) <;> (first | omega | with_reducible exact i64_x256 _ | with_reducible exact i64_w16 _ _ | with_reducible exact i64_sum _ | (repeat' first | with_reducible exact i64_x256 _ | with_reducible exact i64_w16 _ _ | with_reducible exact i64_sum _ | with_reducible apply And.intro) <;> first | omega | (simp only [I64]; omega) | (simp; omega) | (simp; done) | (simp [I64]; omega)))) ?_)
        | (refine brP_d (fun h => ?_) (fun h => ?_))
        | (refine optP_i (fun x hx => ?_) (fun hx => ?_) <;> (try have hxl := pseudo_len hx))
        | (refine brP_nd (fun h => ?_) (fun h => ?_))
        | (refine brP_i (fun h => ?_) (fun h => ?_) <;> (try simp only [Bool.and_eq_true, Bool.or_eq_true, Bool.and_eq_false_iff, Bool.or_eq_false_iff, decide_eq_true_eq, decide_eq_false_iff_not, Bool.not_eq_true', Bool.not_eq_false', Bool.not_true, Bool.not_false, Bool.true_and, Bool.and_true, Bool.false_or, Bool.or_false, beq_iff_eq, beq_eq_false_iff_ne, ne_eq] at h))
      all_goals repeat' split at hK
      all_goals first
        | exact hK
        | (exfalso; omega)
        | grind
    | some l =>
      simp only [optP, or_w16, div2, div3, add_w16, and255, b8_mod, List.set_cons_zero, List.set_cons_succ, andNot_4000, getD_drop, getD_take, b8_byte, b8_toNatN, UInt8.toNat_ofNat', UInt8.toNat_and, nat_mask4, nat_mask6, nat_240, u8_eq_iff, UInt8.reduceToNat, Int.reduceLT, List.take_succ_cons, List.take_zero, List.drop_zero, List.flatten_cons, List.flatten_nil, List.append_nil, List.nil_append, List.take_length, Nat.mul_one, Nat.zero_add, Nat.reduceAdd, Nat.reduceLT]
      simp only [hps, Option.getD_none, Option.getD_some, noHd, Bool.and_eq_true, Bool.or_eq_true, Bool.and_eq_false_iff, Bool.or_eq_false_iff, decide_eq_true_eq, decide_eq_false_iff_not, Bool.not_eq_true', Bool.not_eq_false', Bool.not_true, Bool.not_false, Bool.true_and, Bool.and_true, Bool.false_or, Bool.or_false, beq_iff_eq, beq_eq_false_iff_ne, ne_eq, u8_eq_iff, UInt8.reduceToNat, List.nil_append] at hK
      have hpl := pseudo_len hps
      repeat' first
        | (refine And.intro (by first | first | omega | with_reducible exact i64_x256 _ | with_reducible exact i64_w16 _ _ | with_reducible exact i64_sum _ | (repeat' first | with_reducible exact i64_x256 _ | with_reducible exact i64_w16 _ _ | with_reducible exact i64_sum _ | with_reducible apply And.intro) <;> first | omega | (simp only [I64]; omega) | (simp; omega) | (simp; done) | (simp [I64]; omega) | (with_reducible refine impP_i (fun hg => ?_) <;> (try simp only [Bool.and_eq_true, Bool.or_eq_true, Bool.and_eq_false_iff, Bool.or_eq_false_iff, decide_eq_true_eq, decide_eq_false_iff_not, Bool.not_eq_true', Bool.not_eq_false', Bool.not_true, Bool.not_false, Bool.true_and, Bool.and_true, Bool.false_or, Bool.or_false, beq_iff_eq, beq_eq_false_iff_ne, ne_eq] at hg) <;> (first | omega | with_reducible exact i64_x256 _ | with_reducible exact i64_w16 _ _ | with_reducible exact i64_sum _ | (repeat' first | with_reducible exact i64_x256 _ | with_reducible exact i64_w16 _ _ | with_reducible exact i64_sum _ | with_reducible apply And.intro) <;> first | omega | (simp only [I64]; omega) | (simp; omega) | (simp; done) | (simp [I64]; omega)))) ?_)
        | (refine brP_d (fun h => ?_) (fun h => ?_))
        | (refine optP_i (fun x hx => ?_) (fun hx => ?_) <;> (try have hxl := pseudo_len hx))
        | (refine brP_nd (fun h => ?_) (fun h => ?_))
        | (refine brP_i (fun h => ?_) (fun h => ?_) <;> (try simp only [Bool.and_eq_true, Bool.or_eq_true, Bool.and_eq_false_iff, Bool.or_eq_false_iff, decide_eq_true_eq, decide_eq_false_iff_not, Bool.not_eq_true', Bool.not_eq_false', Bool.not_true, Bool.not_false, Bool.true_and, Bool.and_true, Bool.false_or, Bool.or_false, beq_iff_eq, beq_eq_false_iff_ne, ne_eq] at h))
      all_goals repeat' split at hK
      all_goals first
        | exact hK
        | (exfalso; omega)
        | grind
  · exact h.elim
def Tpt14 : Specs := ext Tpt13 40 (ptHdRow ptRead)
theorem Tpt14_sound : TSound Try.prog Tpt14 := ext_sound Tpt13_sound (row_of Tpt13_sound mixed Try.func40 (by decide +kernel) ports_Read_p)
def ann_ports_Flow : Nat → List Nat × Nat × List (List Nat)
  | _ => ([], 0, [])
def Tpt15 : Specs := ext Tpt14 44 (fnP Try.prog Tpt14 ann_ports_Flow Try.f44)
theorem Tpt15_sound : TSound Try.prog Tpt15 := ext_sound Tpt14_sound (fn_row Tpt14_sound mixed Try.func44 (by decide +kernel))
def ann_ports_errs : Nat → List Nat × Nat × List (List Nat)
  | 2000006 => ([], 10, [[], [0], [0, 1], [0, 1, 2], [0, 1, 2, 3], [0, 1, 2, 3, 4], [0, 1, 2, 3, 4, 5], [0, 1, 2, 3, 4, 5, 6], [0, 1, 2, 3, 4, 5, 6, 7]])
  | 2000007 => ([], 7, [[], [0], [0, 1], [0, 1, 2], [0, 1, 2, 3], [0, 1, 2, 3, 4]])
  | 2000008 => ([], 10, [[], [0], [0, 1], [0, 1, 2], [0, 1, 2, 3], [0, 1, 2, 3, 4], [0, 1, 2, 3, 4, 5], [0, 1, 2, 3, 4, 5, 6], [0, 1, 2, 3, 4, 5, 6, 7]])
  | 2000009 => ([], 7, [[], [0], [0, 1], [0, 1, 2], [0, 1, 2, 3], [0, 1, 2, 3, 4]])
  | _ => ([], 0, [])
set_option maxRecDepth 100000 in
theorem ports_errs_eq (f t : List UInt8) (p q : Int) (b : List UInt8) (K : AVal → Hp → Prop) : fnP Try.prog Tpt15 ann_ports_errs Try.f85 [.agg [.str f, .str t, .int .i64 p, .int .i64 q, .str b]] [] K = (
 brP (decide (b = [])) (K (.bool false) []) (((0 : Int) ≤ (0 : Int) ∧ (0 : Int) < (↑(List.length b) : Int)) ∧ brP (!decide ((↑(List.length f) : Int) = (↑(List.length t) : Int))) (K (.bool false) []) (brP (decide ((↑(List.length f) : Int) = (4 : Int)) && decide (p = (1 : Int))) (K (.bool (decide (List.getD b (0 : Nat) (0 : UInt8) = (3 : UInt8)) || decide (List.getD b (0 : Nat) (0 : UInt8) = (11 : UInt8)))) []) (brP (decide ((↑(List.length f) : Int) = (16 : Int)) && decide (p = (58 : Int))) (K (.bool (decide ((1 : Nat) ≤ UInt8.toNat (List.getD b (0 : Nat) (0 : UInt8))) && decide (UInt8.toNat (List.getD b (0 : Nat) (0 : UInt8)) ≤ (3 : Nat)))) []) (K (.bool false) []))))) := by kernel_rfl
def ptErrsRow : Srow := fun args H K => match args, H with
  | [.agg [.str f, .str t, .int .i64 p, .int .i64 q, .str b]], [] => K (.bool (ptErrs ⟨f, t, p, q, b⟩)) []
  | _, _ => False
theorem ports_errs_p : ∀ args H K, ptErrsRow args H K → fnP Try.prog Tpt15 ann_ports_errs Try.f85 args H K := by
  intro args H K h
  unfold ptErrsRow at h
  split at h
  · rename_i f t p q b
    rw [ports_errs_eq]
    try simp only [or_w16, div2, div3, add_w16, and255, b8_mod, List.set_cons_zero, List.set_cons_succ, andNot_4000, getD_drop, getD_take, b8_byte, b8_toNatN, UInt8.toNat_ofNat', UInt8.toNat_and, nat_mask4, nat_mask6, nat_240, u8_eq_iff, UInt8.reduceToNat, Int.reduceLT, List.take_succ_cons, List.take_zero, List.drop_zero, List.flatten_cons, List.flatten_nil, List.append_nil, List.nil_append, List.take_length, Nat.mul_one, Nat.zero_add, Nat.reduceAdd, Nat.reduceLT]
    simp only [← List.length_eq_zero_iff]
    revert h; intro hK
    unfold ptErrs at hK
    simp only [← List.length_eq_zero_iff, ne_eq] at hK
    repeat' first
      | (refine And.intro (by first | first | omega | with_reducible exact i64_x256 _ | with_reducible exact i64_w16 _ _ | with_reducible exact i64_sum _ | (repeat' first | with_reducible exact i64_x256 _ | with_reducible exact i64_w16 _ _ | with_reducible exact i64_sum _ | with_reducible apply And.intro) <;> first | omega | (simp only [I64]; omega) | (simp; omega) | (simp; done) | (simp [I64]; omega) | (with_reducible refine impP_i (fun hg => ?_) <;> (try simp only [Bool.and_eq_true, Bool.or_eq_true, Bool.and_eq_false_iff, Bool.or_eq_false_iff, decide_eq_true_eq, decide_eq_false_iff_not, Bool.not_eq_true', Bool.not_eq_false', Bool.not_true, Bool.not_false, Bool.true_and, Bool.and_true, Bool.false_or, Bool.or_false, beq_iff_eq, beq_eq_false_iff_ne, ne_eq] at hg) <;> (first | omega | with_reducible exact i64_x256 _ | with_reducible exact i64_w16 _ _ | with_reducible exact i64_sum _ | (repeat' first | with_reducible exact i64_x256 _ | with_reducible exact i64_w16 _ _ | with_reducible exact i64_sum _ | with_reducible apply And.intro) <;> first | omega | (simp only [I64]; omega) | (simp; omega) | (simp; done) | (simp [I64]; omega)))) ?_)
      | (refine brP_d (fun h => ?_) (fun h => ?_))
      | (refine optP_i (fun x hx => ?_) (fun hx => ?_) <;> (try have hxl := pseudo_len hx))
      | (refine brP_nd (fun h => ?_) (fun h => ?_))
      | (refine brP_i (fun h => ?_) (fun h => ?_) <;> (try simp only [Bool.and_eq_true, Bool.or_eq_true, Bool.and_eq_false_iff, Bool.or_eq_false_iff, decide_eq_true_eq, decide_eq_false_iff_not, Bool.not_eq_true', Bool.not_eq_false', Bool.not_true, Bool.not_false, Bool.true_and, Bool.and_true, Bool.false_or, Bool.or_false, beq_iff_eq, beq_eq_false_iff_ne, ne_eq] at h))
    all_goals
      refine endK_eq hK ?_ rfl
      simp only [AVal.bool.injEq]
      rw [Bool.eq_iff_iff]
      simp only [Bool.and_eq_true, Bool.or_eq_true, Bool.and_eq_false_iff, Bool.or_eq_false_iff, decide_eq_true_eq, decide_eq_false_iff_not, Bool.not_eq_true', Bool.not_eq_false', Bool.not_true, Bool.not_false, Bool.true_and, Bool.and_true, Bool.false_or, Bool.or_false, beq_iff_eq, beq_eq_false_iff_ne, ne_eq]
      grind
  · exact h.elim
def Tpt16 : Specs := ext Tpt15 85 (ptErrsRow)
theorem Tpt16_sound : TSound Try.prog Tpt16 := ext_sound Tpt15_sound (row_of Tpt15_sound mixed Try.func85 (by decide +kernel) ports_errs_p)
def ann_ports_Quoted : Nat → List Nat × Nat × List (List Nat)
  | 14 => ([], 29, [[], [], [0, 1], [0, 1, 2], [], [], [], [], [6, 7], [4, 5, 6, 7, 8], [], [], [], [11, 12], [], [], [15], [14, 15, 16], [10, 11, 12, 13, 14, 15, 16, 17], [], [], [19, 20], [19, 20, 21], [], [], [24], [23, 24, 25], [19, 20, 21, 22, 23, 24, 25, 26], [0, 1, 2, 3, 4, 5, 6, 7, 8, 9, 10, 11, 12, 13, 14, 15, 16, 17, 18, 19, 20, 21, 22, 23, 24, 25, 26, 27]])
  | 2000011 => ([], 36, [[], [0], [0, 1], [0, 1, 2], [0, 1, 2, 3], [0, 1, 2, 3, 4], [0, 1, 2, 3, 4, 5], [0, 1, 2, 3, 4, 5, 6], [0, 1, 2, 3, 4, 5, 6, 7], [0, 1, 2, 3, 4, 5, 6, 7, 8], [0, 1, 2, 3, 4, 5, 6, 7, 8, 9], [0, 1, 2, 3, 4, 5, 6, 7, 8, 9, 10], [0, 1, 2, 3, 4, 5, 6, 7, 8, 9, 10, 11], [0, 1, 2, 3, 4, 5, 6, 7, 8, 9, 10, 11, 12], [0, 1, 2, 3, 4, 5, 6, 7, 8, 9, 10, 11, 12, 13], [0, 1, 2, 3, 4, 5, 6, 7, 8, 9, 10, 11, 12, 13, 14], [0, 1, 2, 3, 4, 5, 6, 7, 8, 9, 10, 11, 12, 13, 14, 15], [0, 1, 2, 3, 4, 5, 6, 7, 8, 9, 10, 11, 12, 13, 14, 15, 16], [0, 1, 2, 3, 4, 5, 6, 7, 8, 9, 10, 11, 12, 13, 14, 15, 16, 17], [0, 1, 2, 3, 4, 5, 6, 7, 8, 9, 10, 11, 12, 13, 14, 15, 16, 17, 18], [0, 1, 2, 3, 4, 5, 6, 7, 8, 9, 10, 11, 12, 13, 14, 15, 16, 17, 18, 19], [0, 1, 2, 3, 4, 5, 6, 7, 8, 9, 10, 11, 12, 13, 14, 15, 16, 17, 18, 19, 20], [0, 1, 2, 3, 4, 5, 6, 7, 8, 9, 10, 11, 12, 13, 14, 15, 16, 17, 18, 19, 20, 21], [0, 1, 2, 3, 4, 5, 6, 7, 8, 9, 10, 11, 12, 13, 14, 15, 16, 17, 18, 19, 20, 21, 22], [0, 1, 2, 3, 4, 5, 6, 7, 8, 9, 10, 11, 12, 13, 14, 15, 16, 17, 18, 19, 20, 21, 22, 23], [0, 1, 2, 3, 4, 5, 6, 7, 8, 9, 10, 11, 12, 13, 14, 15, 16, 17, 18, 19, 20, 21, 22, 23, 24], [0, 1, 2, 3, 4, 5, 6, 7, 8, 9, 10, 11, 12, 13, 14, 15, 16, 17, 18, 19, 20, 21, 22, 23, 24, 25], [0, 1, 2, 3, 4, 5, 6, 7, 8, 9, 10, 11, 12, 13, 14, 15, 16, 17, 18, 19, 20, 21, 22, 23, 24, 25, 26], [0, 1, 2, 3, 4, 5, 6, 7, 8, 9, 10, 11, 12, 13, 14, 15, 16, 17, 18, 19, 20, 21, 22, 23, 24, 25, 26, 27], [0, 1, 2, 3, 4, 5, 6, 7, 8, 9, 10, 11, 12, 13, 14, 15, 16, 17, 18, 19, 20, 21, 22, 23, 24, 25, 26, 27, 28], [0, 1, 2, 3, 4, 5, 6, 7, 8, 9, 10, 11, 12, 13, 14, 15, 16, 17, 18, 19, 20, 21, 22, 23, 24, 25, 26, 27, 28, 29], [0, 1, 2, 3, 4, 5, 6, 7, 8, 9, 10, 11, 12, 13, 14, 15, 16, 17, 18, 19, 20, 21, 22, 23, 24, 25, 26, 27, 28, 29, 30], [0, 1, 2, 3, 4, 5, 6, 7, 8, 9, 10, 11, 12, 13, 14, 15, 16, 17, 18, 19, 20, 21, 22, 23, 24, 25, 26, 27, 28, 29, 30, 31], [0, 1, 2, 3, 4, 5, 6, 7, 8, 9, 10, 11, 12, 13, 14, 15, 16, 17, 18, 19, 20, 21, 22, 23, 24, 25, 26, 27, 28, 29, 30, 31, 32], [0, 1, 2, 3, 4, 5, 6, 7, 8, 9, 10, 11, 12, 13, 14, 15, 16, 17, 18, 19, 20, 21, 22, 23, 24, 25, 26, 27, 28, 29, 30, 31, 32, 33]])
  | _ => ([], 0, [])
set_option maxRecDepth 100000 in
theorem ports_Quoted_eq (f t : List UInt8) (p q : Int) (b : List UInt8) (K : AVal → Hp → Prop) : fnP Try.prog Tpt16 ann_ports_Quoted Try.f72 [.agg [.str f, .str t, .int .i64 p, .int .i64 q, .str b]] [] K = (
 brP (!ptErrs (Ip.mk f t p q b)) (K (.tup [.agg [.int .i64 0, .str [], .str [], .int .i64 0, .int .i64 0], .int .i64 51]) []) (brP (decide ((↑(List.length f) : Int) = (16 : Int))) (optP (pseudo f t p (↑(List.length b) : Int)) (fun x => List.length b ≤ (140737488355328 : Nat) ∧ ((2 : Nat) ≤ (1000 : Nat) ∧ List.length (List.flatten [List.take (List.length x) (List.drop (0 : Nat) x), List.take (List.length b) (List.drop (0 : Nat) b)]) ≤ (562949953421312 : Nat)) ∧ brP (!sumB (List.flatten [List.take (List.length x) (List.drop (0 : Nat) x), List.take (List.length b) (List.drop (0 : Nat) b)]) == (65535 : Int)) (K (.tup [.agg [.int .i64 0, .str [], .str [], .int .i64 0, .int .i64 0], .int .i64 52]) []) ((((0 : Int) ≤ if (↑(List.length b) : Int) < (8 : Int) then (↑(List.length b) : Int) else (8 : Int)) ∧ (if (↑(List.length b) : Int) < (8 : Int) then (↑(List.length b) : Int) else (8 : Int)) ≤ (↑(List.length b) : Int)) ∧ impP true (I64 (44 : Int)) ∧ impP (!decide ((↑(List.length (List.drop (Int.toNat (if (↑(List.length b) : Int) < (8 : Int) then (↑(List.length b) : Int) else (8 : Int))) b)) : Int) < (44 : Int))) ((0 : Int) ≤ (0 : Int) ∧ (0 : Int) < (↑(List.length (List.drop (Int.toNat (if (↑(List.length b) : Int) < (8 : Int) then (↑(List.length b) : Int) else (8 : Int))) b)) : Int)) ∧ impP (!(decide ((↑(List.length (List.drop (Int.toNat (if (↑(List.length b) : Int) < (8 : Int) then (↑(List.length b) : Int) else (8 : Int))) b)) : Int) < (44 : Int)) || !decide (List.getD (List.drop (Int.toNat (if (↑(List.length b) : Int) < (8 : Int) then (↑(List.length b) : Int) else (8 : Int))) b) (0 : Nat) (0 : UInt8) &&& (240 : UInt8) = (96 : UInt8))) && false) ((0 : Int) ≤ (0 : Int) ∧ (0 : Int) < (↑(List.length (List.drop (Int.toNat (if (↑(List.length b) : Int) < (8 : Int) then (↑(List.length b) : Int) else (8 : Int))) b)) : Int)) ∧ impP (!(decide ((↑(List.length (List.drop (Int.toNat (if (↑(List.length b) : Int) < (8 : Int) then (↑(List.length b) : Int) else (8 : Int))) b)) : Int) <
 (44 : Int)) || !decide (List.getD (List.drop (Int.toNat (if (↑(List.length b) : Int) < (8 : Int) then (↑(List.length b) : Int) else (8 : Int))) b) (0 : Nat) (0 : UInt8) &&& (240 : UInt8) = (96 : UInt8)) || false)) ((0 : Int) ≤ (6 : Int) ∧ (6 : Int) < (↑(List.length (List.drop (Int.toNat (if (↑(List.length b) : Int) < (8 : Int) then (↑(List.length b) : Int) else (8 : Int))) b)) : Int)) ∧ impP (!(decide ((↑(List.length (List.drop (Int.toNat (if (↑(List.length b) : Int) < (8 : Int) then (↑(List.length b) : Int) else (8 : Int))) b)) : Int) < (44 : Int)) || !decide (List.getD (List.drop (Int.toNat (if (↑(List.length b) : Int) < (8 : Int) then (↑(List.length b) : Int) else (8 : Int))) b) (0 : Nat) (0 : UInt8) &&& (240 : UInt8) = (96 : UInt8)) || false) && !decide (List.getD (List.drop (Int.toNat (if (↑(List.length b) : Int) < (8 : Int) then (↑(List.length b) : Int) else (8 : Int))) b) (6 : Nat) (0 : UInt8) = (6 : UInt8))) ((0 : Int) ≤ (6 : Int) ∧ (6 : Int) < (↑(List.length (List.drop (Int.toNat (if (↑(List.length b) : Int) < (8 : Int) then (↑(List.length b) : Int) else (8 : Int))) b)) : Int)) ∧ brP (decide ((↑(List.length (List.drop (Int.toNat (if (↑(List.length b) : Int) < (8 : Int) then (↑(List.length b) : Int) else (8 : Int))) b)) : Int) < (44 : Int)) || !decide (List.getD (List.drop (Int.toNat (if (↑(List.length b) : Int) < (8 : Int) then (↑(List.length b) : Int) else (8 : Int))) b) (0 : Nat) (0 : UInt8) &&& (240 : UInt8) = (96 : UInt8)) || false || !decide (List.getD (List.drop (Int.toNat (if (↑(List.length b) : Int) < (8 : Int) then (↑(List.length b) : Int) else (8 : Int))) b) (6 : Nat) (0 : UInt8) = (6 : UInt8)) && !decide (List.getD (List.drop (Int.toNat (if (↑(List.length b) : Int) < (8 : Int) then (↑(List.length b) : Int) else (8 : Int))) b) (6 : Nat) (0 : UInt8) = (17 : UInt8))) (K (.tup [.agg [.int .i64 0, .str [], .str [], .int .i64 0, .int .i64 0], .int .i64 53]) []) (((0 : Int) ≤ (6 : Int) ∧ (6 : Int) < (↑(List.length (List.drop
 (Int.toNat (if (↑(List.length b) : Int) < (8 : Int) then (↑(List.length b) : Int) else (8 : Int))) b)) : Int)) ∧ I64 ((8 : Int) + (↑(List.length f) : Int)) ∧ ((0 : Int) ≤ (8 : Int) ∧ (8 : Int) ≤ (8 : Int) + (↑(List.length f) : Int) ∧ (8 : Int) + (↑(List.length f) : Int) ≤ (↑(List.length (List.drop (Int.toNat (if (↑(List.length b) : Int) < (8 : Int) then (↑(List.length b) : Int) else (8 : Int))) b)) : Int)) ∧ I64 ((8 : Int) + (↑(List.length f) : Int)) ∧ I64 ((2 : Int) * (↑(List.length f) : Int)) ∧ I64 ((8 : Int) + (2 : Int) * (↑(List.length f) : Int)) ∧ ((0 : Int) ≤ (8 : Int) + (↑(List.length f) : Int) ∧ (8 : Int) + (↑(List.length f) : Int) ≤ (8 : Int) + (2 : Int) * (↑(List.length f) : Int) ∧ (8 : Int) + (2 : Int) * (↑(List.length f) : Int) ≤ (↑(List.length (List.drop (Int.toNat (if (↑(List.length b) : Int) < (8 : Int) then (↑(List.length b) : Int) else (8 : Int))) b)) : Int)) ∧ ((0 : Int) ≤ (40 : Int) ∧ (40 : Int) ≤ (↑(List.length (List.drop (Int.toNat (if (↑(List.length b) : Int) < (8 : Int) then (↑(List.length b) : Int) else (8 : Int))) b)) : Int)) ∧ ((0 : Int) ≤ (0 : Int) ∧ (0 : Int) < (↑(List.length (List.drop (40 : Nat) (List.drop (Int.toNat (if (↑(List.length b) : Int) < (8 : Int) then (↑(List.length b) : Int) else (8 : Int))) b))) : Int)) ∧ ((0 : Int) ≤ (8 : Int) ∧ (8 : Int) < (64 : Int) ∧ I64 ((↑(UInt8.toNat (List.getD (List.drop (40 : Nat) (List.drop (Int.toNat (if (↑(List.length b) : Int) < (8 : Int) then (↑(List.length b) : Int) else (8 : Int))) b)) (0 : Nat) (0 : UInt8))) : Int) * (256 : Int))) ∧ ((0 : Int) ≤ (1 : Int) ∧ (1 : Int) < (↑(List.length (List.drop (40 : Nat) (List.drop (Int.toNat (if (↑(List.length b) : Int) < (8 : Int) then (↑(List.length b) : Int) else (8 : Int))) b))) : Int)) ∧ I64 (42 : Int) ∧ ((0 : Int) ≤ (42 : Int) ∧ (42 : Int) ≤ (↑(List.length (List.drop (Int.toNat (if (↑(List.length b) : Int) < (8 : Int) then (↑(List.length b) : Int) else (8 : Int))) b)) : Int)) ∧ ((0 : Int) ≤ (0 : Int) ∧ (0 : Int) < (↑(List.length
 (List.drop (42 : Nat) (List.drop (Int.toNat (if (↑(List.length b) : Int) < (8 : Int) then (↑(List.length b) : Int) else (8 : Int))) b))) : Int)) ∧ ((0 : Int) ≤ (8 : Int) ∧ (8 : Int) < (64 : Int) ∧ I64 ((↑(UInt8.toNat (List.getD (List.drop (42 : Nat) (List.drop (Int.toNat (if (↑(List.length b) : Int) < (8 : Int) then (↑(List.length b) : Int) else (8 : Int))) b)) (0 : Nat) (0 : UInt8))) : Int) * (256 : Int))) ∧ ((0 : Int) ≤ (1 : Int) ∧ (1 : Int) < (↑(List.length (List.drop (42 : Nat) (List.drop (Int.toNat (if (↑(List.length b) : Int) < (8 : Int) then (↑(List.length b) : Int) else (8 : Int))) b))) : Int)) ∧ K (.tup [.agg [.int .i64 (↑(UInt8.toNat (List.getD (List.drop (Int.toNat (if (↑(List.length b) : Int) < (8 : Int) then (↑(List.length b) : Int) else (8 : Int))) b) (6 : Nat) (0 : UInt8))) : Int), .str (List.drop (8 : Nat) (List.take (Int.toNat ((8 : Int) + (↑(List.length f) : Int))) (List.drop (Int.toNat (if (↑(List.length b) : Int) < (8 : Int) then (↑(List.length b) : Int) else (8 : Int))) b))), .str (List.drop (Int.toNat ((8 : Int) + (↑(List.length f) : Int))) (List.take (Int.toNat ((8 : Int) + (2 : Int) * (↑(List.length f) : Int))) (List.drop (Int.toNat (if (↑(List.length b) : Int) < (8 : Int) then (↑(List.length b) : Int) else (8 : Int))) b))), .int .i64 (bits BinOp.or IntKind.i64 ((↑(UInt8.toNat (List.getD (List.drop (40 : Nat) (List.drop (Int.toNat (if (↑(List.length b) : Int) < (8 : Int) then (↑(List.length b) : Int) else (8 : Int))) b)) (0 : Nat) (0 : UInt8))) : Int) * (256 : Int)) (↑(UInt8.toNat (List.getD (List.drop (40 : Nat) (List.drop (Int.toNat (if (↑(List.length b) : Int) < (8 : Int) then (↑(List.length b) : Int) else (8 : Int))) b)) (1 : Nat) (0 : UInt8))) : Int)), .int .i64 (bits BinOp.or IntKind.i64 ((↑(UInt8.toNat (List.getD (List.drop (42 : Nat) (List.drop (Int.toNat (if (↑(List.length b) : Int) < (8 : Int) then (↑(List.length b) : Int) else (8 : Int))) b)) (0 : Nat) (0 : UInt8))) : Int) * (256 : Int)) (↑(UInt8.toNat (List.getD
 (List.drop (42 : Nat) (List.drop (Int.toNat (if (↑(List.length b) : Int) < (8 : Int) then (↑(List.length b) : Int) else (8 : Int))) b)) (1 : Nat) (0 : UInt8))) : Int))], .int .i64 0]) []))) (List.length b ≤ (140737488355328 : Nat) ∧ ((2 : Nat) ≤ (1000 : Nat) ∧ List.length (List.flatten [[], List.take (List.length b) (List.drop (0 : Nat) b)]) ≤ (562949953421312 : Nat)) ∧ brP (!sumB (List.flatten [[], List.take (List.length b) (List.drop (0 : Nat) b)]) == (65535 : Int)) (K (.tup [.agg [.int .i64 0, .str [], .str [], .int .i64 0, .int .i64 0], .int .i64 52]) []) ((((0 : Int) ≤ if (↑(List.length b) : Int) < (8 : Int) then (↑(List.length b) : Int) else (8 : Int)) ∧ (if (↑(List.length b) : Int) < (8 : Int) then (↑(List.length b) : Int) else (8 : Int)) ≤ (↑(List.length b) : Int)) ∧ impP true (I64 (44 : Int)) ∧ impP (!decide ((↑(List.length (List.drop (Int.toNat (if (↑(List.length b) : Int) < (8 : Int) then (↑(List.length b) : Int) else (8 : Int))) b)) : Int) < (44 : Int))) ((0 : Int) ≤ (0 : Int) ∧ (0 : Int) < (↑(List.length (List.drop (Int.toNat (if (↑(List.length b) : Int) < (8 : Int) then (↑(List.length b) : Int) else (8 : Int))) b)) : Int)) ∧ impP (!(decide ((↑(List.length (List.drop (Int.toNat (if (↑(List.length b) : Int) < (8 : Int) then (↑(List.length b) : Int) else (8 : Int))) b)) : Int) < (44 : Int)) || !decide (List.getD (List.drop (Int.toNat (if (↑(List.length b) : Int) < (8 : Int) then (↑(List.length b) : Int) else (8 : Int))) b) (0 : Nat) (0 : UInt8) &&& (240 : UInt8) = (96 : UInt8))) && false) ((0 : Int) ≤ (0 : Int) ∧ (0 : Int) < (↑(List.length (List.drop (Int.toNat (if (↑(List.length b) : Int) < (8 : Int) then (↑(List.length b) : Int) else (8 : Int))) b)) : Int)) ∧ impP (!(decide ((↑(List.length (List.drop (Int.toNat (if (↑(List.length b) : Int) < (8 : Int) then (↑(List.length b) : Int) else (8 : Int))) b)) : Int) < (44 : Int)) || !decide (List.getD (List.drop (Int.toNat (if (↑(List.length b) : Int) < (8 : Int) then (↑(List.length b) : Int) else (8 : Int)))
 b) (0 : Nat) (0 : UInt8) &&& (240 : UInt8) = (96 : UInt8)) || false)) ((0 : Int) ≤ (6 : Int) ∧ (6 : Int) < (↑(List.length (List.drop (Int.toNat (if (↑(List.length b) : Int) < (8 : Int) then (↑(List.length b) : Int) else (8 : Int))) b)) : Int)) ∧ impP (!(decide ((↑(List.length (List.drop (Int.toNat (if (↑(List.length b) : Int) < (8 : Int) then (↑(List.length b) : Int) else (8 : Int))) b)) : Int) < (44 : Int)) || !decide (List.getD (List.drop (Int.toNat (if (↑(List.length b) : Int) < (8 : Int) then (↑(List.length b) : Int) else (8 : Int))) b) (0 : Nat) (0 : UInt8) &&& (240 : UInt8) = (96 : UInt8)) || false) && !decide (List.getD (List.drop (Int.toNat (if (↑(List.length b) : Int) < (8 : Int) then (↑(List.length b) : Int) else (8 : Int))) b) (6 : Nat) (0 : UInt8) = (6 : UInt8))) ((0 : Int) ≤ (6 : Int) ∧ (6 : Int) < (↑(List.length (List.drop (Int.toNat (if (↑(List.length b) : Int) < (8 : Int) then (↑(List.length b) : Int) else (8 : Int))) b)) : Int)) ∧ brP (decide ((↑(List.length (List.drop (Int.toNat (if (↑(List.length b) : Int) < (8 : Int) then (↑(List.length b) : Int) else (8 : Int))) b)) : Int) < (44 : Int)) || !decide (List.getD (List.drop (Int.toNat (if (↑(List.length b) : Int) < (8 : Int) then (↑(List.length b) : Int) else (8 : Int))) b) (0 : Nat) (0 : UInt8) &&& (240 : UInt8) = (96 : UInt8)) || false || !decide (List.getD (List.drop (Int.toNat (if (↑(List.length b) : Int) < (8 : Int) then (↑(List.length b) : Int) else (8 : Int))) b) (6 : Nat) (0 : UInt8) = (6 : UInt8)) && !decide (List.getD (List.drop (Int.toNat (if (↑(List.length b) : Int) < (8 : Int) then (↑(List.length b) : Int) else (8 : Int))) b) (6 : Nat) (0 : UInt8) = (17 : UInt8))) (K (.tup [.agg [.int .i64 0, .str [], .str [], .int .i64 0, .int .i64 0], .int .i64 53]) []) (((0 : Int) ≤ (6 : Int) ∧ (6 : Int) < (↑(List.length (List.drop (Int.toNat (if (↑(List.length b) : Int) < (8 : Int) then (↑(List.length b) : Int) else (8 : Int))) b)) : Int)) ∧ I64 ((8 : Int) + (↑(List.length f) : Int)) ∧
 ((0 : Int) ≤ (8 : Int) ∧ (8 : Int) ≤ (8 : Int) + (↑(List.length f) : Int) ∧ (8 : Int) + (↑(List.length f) : Int) ≤ (↑(List.length (List.drop (Int.toNat (if (↑(List.length b) : Int) < (8 : Int) then (↑(List.length b) : Int) else (8 : Int))) b)) : Int)) ∧ I64 ((8 : Int) + (↑(List.length f) : Int)) ∧ I64 ((2 : Int) * (↑(List.length f) : Int)) ∧ I64 ((8 : Int) + (2 : Int) * (↑(List.length f) : Int)) ∧ ((0 : Int) ≤ (8 : Int) + (↑(List.length f) : Int) ∧ (8 : Int) + (↑(List.length f) : Int) ≤ (8 : Int) + (2 : Int) * (↑(List.length f) : Int) ∧ (8 : Int) + (2 : Int) * (↑(List.length f) : Int) ≤ (↑(List.length (List.drop (Int.toNat (if (↑(List.length b) : Int) < (8 : Int) then (↑(List.length b) : Int) else (8 : Int))) b)) : Int)) ∧ ((0 : Int) ≤ (40 : Int) ∧ (40 : Int) ≤ (↑(List.length (List.drop (Int.toNat (if (↑(List.length b) : Int) < (8 : Int) then (↑(List.length b) : Int) else (8 : Int))) b)) : Int)) ∧ ((0 : Int) ≤ (0 : Int) ∧ (0 : Int) < (↑(List.length (List.drop (40 : Nat) (List.drop (Int.toNat (if (↑(List.length b) : Int) < (8 : Int) then (↑(List.length b) : Int) else (8 : Int))) b))) : Int)) ∧ ((0 : Int) ≤ (8 : Int) ∧ (8 : Int) < (64 : Int) ∧ I64 ((↑(UInt8.toNat (List.getD (List.drop (40 : Nat) (List.drop (Int.toNat (if (↑(List.length b) : Int) < (8 : Int) then (↑(List.length b) : Int) else (8 : Int))) b)) (0 : Nat) (0 : UInt8))) : Int) * (256 : Int))) ∧ ((0 : Int) ≤ (1 : Int) ∧ (1 : Int) < (↑(List.length (List.drop (40 : Nat) (List.drop (Int.toNat (if (↑(List.length b) : Int) < (8 : Int) then (↑(List.length b) : Int) else (8 : Int))) b))) : Int)) ∧ I64 (42 : Int) ∧ ((0 : Int) ≤ (42 : Int) ∧ (42 : Int) ≤ (↑(List.length (List.drop (Int.toNat (if (↑(List.length b) : Int) < (8 : Int) then (↑(List.length b) : Int) else (8 : Int))) b)) : Int)) ∧ ((0 : Int) ≤ (0 : Int) ∧ (0 : Int) < (↑(List.length (List.drop (42 : Nat) (List.drop (Int.toNat (if (↑(List.length b) : Int) < (8 : Int) then (↑(List.length b) : Int) else (8 : Int))) b))) : Int)) ∧ ((0 : Int) ≤ (8 : Int) ∧
 (8 : Int) < (64 : Int) ∧ I64 ((↑(UInt8.toNat (List.getD (List.drop (42 : Nat) (List.drop (Int.toNat (if (↑(List.length b) : Int) < (8 : Int) then (↑(List.length b) : Int) else (8 : Int))) b)) (0 : Nat) (0 : UInt8))) : Int) * (256 : Int))) ∧ ((0 : Int) ≤ (1 : Int) ∧ (1 : Int) < (↑(List.length (List.drop (42 : Nat) (List.drop (Int.toNat (if (↑(List.length b) : Int) < (8 : Int) then (↑(List.length b) : Int) else (8 : Int))) b))) : Int)) ∧ K (.tup [.agg [.int .i64 (↑(UInt8.toNat (List.getD (List.drop (Int.toNat (if (↑(List.length b) : Int) < (8 : Int) then (↑(List.length b) : Int) else (8 : Int))) b) (6 : Nat) (0 : UInt8))) : Int), .str (List.drop (8 : Nat) (List.take (Int.toNat ((8 : Int) + (↑(List.length f) : Int))) (List.drop (Int.toNat (if (↑(List.length b) : Int) < (8 : Int) then (↑(List.length b) : Int) else (8 : Int))) b))), .str (List.drop (Int.toNat ((8 : Int) + (↑(List.length f) : Int))) (List.take (Int.toNat ((8 : Int) + (2 : Int) * (↑(List.length f) : Int))) (List.drop (Int.toNat (if (↑(List.length b) : Int) < (8 : Int) then (↑(List.length b) : Int) else (8 : Int))) b))), .int .i64 (bits BinOp.or IntKind.i64 ((↑(UInt8.toNat (List.getD (List.drop (40 : Nat) (List.drop (Int.toNat (if (↑(List.length b) : Int) < (8 : Int) then (↑(List.length b) : Int) else (8 : Int))) b)) (0 : Nat) (0 : UInt8))) : Int) * (256 : Int)) (↑(UInt8.toNat (List.getD (List.drop (40 : Nat) (List.drop (Int.toNat (if (↑(List.length b) : Int) < (8 : Int) then (↑(List.length b) : Int) else (8 : Int))) b)) (1 : Nat) (0 : UInt8))) : Int)), .int .i64 (bits BinOp.or IntKind.i64 ((↑(UInt8.toNat (List.getD (List.drop (42 : Nat) (List.drop (Int.toNat (if (↑(List.length b) : Int) < (8 : Int) then (↑(List.length b) : Int) else (8 : Int))) b)) (0 : Nat) (0 : UInt8))) : Int) * (256 : Int)) (↑(UInt8.toNat (List.getD (List.drop (42 : Nat) (List.drop (Int.toNat (if (↑(List.length b) : Int) < (8 : Int) then (↑(List.length b) : Int) else (8 : Int))) b)) (1 : Nat) (0 : UInt8))) : Int))], .int .i64 0]) []))))
 (List.length b ≤ (140737488355328 : Nat) ∧ ((2 : Nat) ≤ (1000 : Nat) ∧ List.length (List.flatten [[], List.take (List.length b) (List.drop (0 : Nat) b)]) ≤ (562949953421312 : Nat)) ∧ brP (!sumB (List.flatten [[], List.take (List.length b) (List.drop (0 : Nat) b)]) == (65535 : Int)) (K (.tup [.agg [.int .i64 0, .str [], .str [], .int .i64 0, .int .i64 0], .int .i64 52]) []) ((((0 : Int) ≤ if (↑(List.length b) : Int) < (8 : Int) then (↑(List.length b) : Int) else (8 : Int)) ∧ (if (↑(List.length b) : Int) < (8 : Int) then (↑(List.length b) : Int) else (8 : Int)) ≤ (↑(List.length b) : Int)) ∧ impP true (I64 (24 : Int)) ∧ impP (!decide ((↑(List.length (List.drop (Int.toNat (if (↑(List.length b) : Int) < (8 : Int) then (↑(List.length b) : Int) else (8 : Int))) b)) : Int) < (24 : Int))) ((0 : Int) ≤ (0 : Int) ∧ (0 : Int) < (↑(List.length (List.drop (Int.toNat (if (↑(List.length b) : Int) < (8 : Int) then (↑(List.length b) : Int) else (8 : Int))) b)) : Int)) ∧ impP (!(decide ((↑(List.length (List.drop (Int.toNat (if (↑(List.length b) : Int) < (8 : Int) then (↑(List.length b) : Int) else (8 : Int))) b)) : Int) < (24 : Int)) || !decide (List.getD (List.drop (Int.toNat (if (↑(List.length b) : Int) < (8 : Int) then (↑(List.length b) : Int) else (8 : Int))) b) (0 : Nat) (0 : UInt8) &&& (240 : UInt8) = (64 : UInt8))) || false) ((0 : Int) ≤ (0 : Int) ∧ (0 : Int) < (↑(List.length (List.drop (Int.toNat (if (↑(List.length b) : Int) < (8 : Int) then (↑(List.length b) : Int) else (8 : Int))) b)) : Int)) ∧ impP (!(decide ((↑(List.length (List.drop (Int.toNat (if (↑(List.length b) : Int) < (8 : Int) then (↑(List.length b) : Int) else (8 : Int))) b)) : Int) < (24 : Int)) || !decide (List.getD (List.drop (Int.toNat (if (↑(List.length b) : Int) < (8 : Int) then (↑(List.length b) : Int) else (8 : Int))) b) (0 : Nat) (0 : UInt8) &&& (240 : UInt8) = (64 : UInt8)) || !decide (List.getD (List.drop
 (Int.toNat (if (↑(List.length b) : Int) < (8 : Int) then (↑(List.length b) : Int) else (8 : Int))) b) (0 : Nat) (0 : UInt8) = (69 : UInt8)))) ((0 : Int) ≤ (9 : Int) ∧ (9 : Int) < (↑(List.length (List.drop (Int.toNat (if (↑(List.length b) : Int) < (8 : Int) then (↑(List.length b) : Int) else (8 : Int))) b)) : Int)) ∧ impP (!(decide ((↑(List.length (List.drop (Int.toNat (if (↑(List.length b) : Int) < (8 : Int) then (↑(List.length b) : Int) else (8 : Int))) b)) : Int) < (24 : Int)) || !decide (List.getD (List.drop (Int.toNat (if (↑(List.length b) : Int) < (8 : Int) then (↑(List.length b) : Int) else (8 : Int))) b) (0 : Nat) (0 : UInt8) &&& (240 : UInt8) = (64 : UInt8)) || !decide (List.getD (List.drop (Int.toNat (if (↑(List.length b) : Int) < (8 : Int) then (↑(List.length b) : Int) else (8 : Int))) b) (0 : Nat) (0 : UInt8) = (69 : UInt8))) && !decide (List.getD (List.drop (Int.toNat (if (↑(List.length b) : Int) < (8 : Int) then (↑(List.length b) : Int) else (8 : Int))) b) (9 : Nat) (0 : UInt8) = (6 : UInt8))) ((0 : Int) ≤ (9 : Int) ∧ (9 : Int) < (↑(List.length (List.drop (Int.toNat (if (↑(List.length b) : Int) < (8 : Int) then (↑(List.length b) : Int) else (8 : Int))) b)) : Int)) ∧ brP (decide ((↑(List.length (List.drop (Int.toNat (if (↑(List.length b) : Int) < (8 : Int) then (↑(List.length b) : Int) else (8 : Int))) b)) : Int) < (24 : Int)) || !decide (List.getD (List.drop (Int.toNat (if (↑(List.length b) : Int) < (8 : Int) then (↑(List.length b) : Int) else (8 : Int))) b) (0 : Nat) (0 : UInt8) &&& (240 : UInt8) = (64 : UInt8)) || !decide (List.getD (List.drop (Int.toNat (if (↑(List.length b) : Int) < (8 : Int) then (↑(List.length b) : Int) else (8 : Int))) b) (0 : Nat) (0 : UInt8) = (69 : UInt8)) || !decide (List.getD (List.drop (Int.toNat (if (↑(List.length b) : Int) < (8 : Int) then (↑(List.length b) : Int) else (8 : Int))) b) (9 : Nat) (0 : UInt8) = (6 : UInt8)) && !decide (List.getD (List.drop
 (Int.toNat (if (↑(List.length b) : Int) < (8 : Int) then (↑(List.length b) : Int) else (8 : Int))) b) (9 : Nat) (0 : UInt8) = (17 : UInt8))) (K (.tup [.agg [.int .i64 0, .str [], .str [], .int .i64 0, .int .i64 0], .int .i64 53]) []) (((0 : Int) ≤ (9 : Int) ∧ (9 : Int) < (↑(List.length (List.drop (Int.toNat (if (↑(List.length b) : Int) < (8 : Int) then (↑(List.length b) : Int) else (8 : Int))) b)) : Int)) ∧ I64 ((12 : Int) + (↑(List.length f) : Int)) ∧ ((0 : Int) ≤ (12 : Int) ∧ (12 : Int) ≤ (12 : Int) + (↑(List.length f) : Int) ∧ (12 : Int) + (↑(List.length f) : Int) ≤ (↑(List.length (List.drop (Int.toNat (if (↑(List.length b) : Int) < (8 : Int) then (↑(List.length b) : Int) else (8 : Int))) b)) : Int)) ∧ I64 ((12 : Int) + (↑(List.length f) : Int)) ∧ I64 ((2 : Int) * (↑(List.length f) : Int)) ∧ I64 ((12 : Int) + (2 : Int) * (↑(List.length f) : Int)) ∧ ((0 : Int) ≤ (12 : Int) + (↑(List.length f) : Int) ∧ (12 : Int) + (↑(List.length f) : Int) ≤ (12 : Int) + (2 : Int) * (↑(List.length f) : Int) ∧ (12 : Int) + (2 : Int) * (↑(List.length f) : Int) ≤ (↑(List.length (List.drop (Int.toNat (if (↑(List.length b) : Int) < (8 : Int) then (↑(List.length b) : Int) else (8 : Int))) b)) : Int)) ∧ ((0 : Int) ≤ (20 : Int) ∧ (20 : Int) ≤ (↑(List.length (List.drop (Int.toNat (if (↑(List.length b) : Int) < (8 : Int) then (↑(List.length b) : Int) else (8 : Int))) b)) : Int)) ∧ ((0 : Int) ≤ (0 : Int) ∧ (0 : Int) < (↑(List.length (List.drop (20 : Nat) (List.drop (Int.toNat (if (↑(List.length b) : Int) < (8 : Int) then (↑(List.length b) : Int) else (8 : Int))) b))) : Int)) ∧ ((0 : Int) ≤ (8 : Int) ∧ (8 : Int) < (64 : Int) ∧ I64 ((↑(UInt8.toNat (List.getD (List.drop (20 : Nat) (List.drop (Int.toNat (if (↑(List.length b) : Int) < (8 : Int) then (↑(List.length b) : Int) else (8 : Int))) b)) (0 : Nat) (0 : UInt8))) : Int) * (256 : Int))) ∧ ((0 : Int) ≤ (1 : Int) ∧ (1 : Int) < (↑(List.length (List.drop (20 : Nat) (List.drop (Int.toNat
 (if (↑(List.length b) : Int) < (8 : Int) then (↑(List.length b) : Int) else (8 : Int))) b))) : Int)) ∧ I64 (22 : Int) ∧ ((0 : Int) ≤ (22 : Int) ∧ (22 : Int) ≤ (↑(List.length (List.drop (Int.toNat (if (↑(List.length b) : Int) < (8 : Int) then (↑(List.length b) : Int) else (8 : Int))) b)) : Int)) ∧ ((0 : Int) ≤ (0 : Int) ∧ (0 : Int) < (↑(List.length (List.drop (22 : Nat) (List.drop (Int.toNat (if (↑(List.length b) : Int) < (8 : Int) then (↑(List.length b) : Int) else (8 : Int))) b))) : Int)) ∧ ((0 : Int) ≤ (8 : Int) ∧ (8 : Int) < (64 : Int) ∧ I64 ((↑(UInt8.toNat (List.getD (List.drop (22 : Nat) (List.drop (Int.toNat (if (↑(List.length b) : Int) < (8 : Int) then (↑(List.length b) : Int) else (8 : Int))) b)) (0 : Nat) (0 : UInt8))) : Int) * (256 : Int))) ∧ ((0 : Int) ≤ (1 : Int) ∧ (1 : Int) < (↑(List.length (List.drop (22 : Nat) (List.drop (Int.toNat (if (↑(List.length b) : Int) < (8 : Int) then (↑(List.length b) : Int) else (8 : Int))) b))) : Int)) ∧ K (.tup [.agg [.int .i64 (↑(UInt8.toNat (List.getD (List.drop (Int.toNat (if (↑(List.length b) : Int) < (8 : Int) then (↑(List.length b) : Int) else (8 : Int))) b) (9 : Nat) (0 : UInt8))) : Int), .str (List.drop (12 : Nat) (List.take (Int.toNat ((12 : Int) + (↑(List.length f) : Int))) (List.drop (Int.toNat (if (↑(List.length b) : Int) < (8 : Int) then (↑(List.length b) : Int) else (8 : Int))) b))), .str (List.drop (Int.toNat ((12 : Int) + (↑(List.length f) : Int))) (List.take (Int.toNat ((12 : Int) + (2 : Int) * (↑(List.length f) : Int))) (List.drop (Int.toNat (if (↑(List.length b) : Int) < (8 : Int) then (↑(List.length b) : Int) else (8 : Int))) b))), .int .i64 (bits BinOp.or IntKind.i64 ((↑(UInt8.toNat (List.getD (List.drop (20 : Nat) (List.drop (Int.toNat (if (↑(List.length b) : Int) < (8 : Int) then (↑(List.length b) : Int) else (8 : Int))) b)) (0 : Nat) (0 : UInt8))) : Int) * (256 : Int)) (↑(UInt8.toNat (List.getD (List.drop (20 : Nat) (List.drop (Int.toNat
 (if (↑(List.length b) : Int) < (8 : Int) then (↑(List.length b) : Int) else (8 : Int))) b)) (1 : Nat) (0 : UInt8))) : Int)), .int .i64 (bits BinOp.or IntKind.i64 ((↑(UInt8.toNat (List.getD (List.drop (22 : Nat) (List.drop (Int.toNat (if (↑(List.length b) : Int) < (8 : Int) then (↑(List.length b) : Int) else (8 : Int))) b)) (0 : Nat) (0 : UInt8))) : Int) * (256 : Int)) (↑(UInt8.toNat (List.getD (List.drop (22 : Nat) (List.drop (Int.toNat (if (↑(List.length b) : Int) < (8 : Int) then (↑(List.length b) : Int) else (8 : Int))) b)) (1 : Nat) (0 : UInt8))) : Int))], .int .i64 0]) []))))) := by kernel_rfl
set_option maxHeartbeats 4000000 in
theorem ports_Quoted_p : ∀ args H K, ptFlRow ptQuoted args H K → fnP Try.prog Tpt16 ann_ports_Quoted Try.f72 args H K := by
  intro args H K h
  unfold ptFlRow at h
  split at h
  · rename_i f t p q b
    rw [ports_Quoted_eq]
    obtain ⟨hl, hK⟩ := h
    have x8 := (b.getD 8 0).toNat_lt
    have x14 := (b.getD 14 0).toNat_lt
    have x17 := (b.getD 17 0).toNat_lt
    unfold ptQuoted pseudoL at hK
    cases hE : ptErrs ⟨f, t, p, q, b⟩ with
    | false =>
      simp only [hE, noFl, if_true] at hK
      simp only [hE, Bool.not_false]
      exact hK
    | true =>
      obtain ⟨he1, he2, he3⟩ := ptErrs_ok hE
      simp only at he1 he2 he3
      simp only [hE, Bool.not_true, Bool.true_eq_false, if_false, noFl] at hK ⊢
      refine brP_i (fun h => by cases h) (fun _ => ?_)
      have hps : p = 58 → pseudo f t p (b.length : Int) = some (pseudoB f t p (b.length : Int)) := fun h58 => if_pos (by omega)
      have hpl : p = 58 → (pseudoB f t p (b.length : Int)).length ≤ 40 := fun h58 => (pseudo_len (hps h58)).1
      by_cases h8 : (b.length : Int) < 8
      all_goals first | simp only [if_pos h8] | simp only [if_neg h8]
      all_goals simp only [Int.reduceToNat, Int.toNat_natCast, List.drop_length, List.length_nil, List.length_drop, List.drop_nil, List.drop_drop, or_w16, div2, div3, add_w16, and255, b8_mod, List.set_cons_zero, List.set_cons_succ, andNot_4000, getD_drop, getD_take, b8_byte, b8_toNatN, UInt8.toNat_ofNat', UInt8.toNat_and, nat_mask4, nat_mask6, nat_240, u8_eq_iff, UInt8.reduceToNat, Int.reduceLT, List.take_succ_cons, List.take_zero, List.drop_zero, List.flatten_cons, List.flatten_nil, List.append_nil, List.nil_append, List.take_length, Nat.mul_one, Nat.zero_add, Nat.reduceAdd, Nat.reduceLT]
      all_goals (repeat' first | (refine And.intro (by first | first | omega | with_reducible exact i64_x256 _ | with_reducible exact i64_w16 _ _ | with_reducible exact i64_sum _ | (repeat' first | with_reducible exact i64_x256 _ | with_reducible exact i64_w16 _ _ | with_reducible exact i64_sum _ | with_reducible apply And.intro) <;> first | omega | (simp only [I64]; omega) | (simp; omega) | (simp; done) | (simp [I64]; omega) | (with_reducible refine impP_i (fun hg => ?_) <;> (try simp only [Bool.and_eq_true, Bool.or_eq_true, Bool.and_eq_false_iff, Bool.or_eq_false_iff, decide_eq_true_eq, decide_eq_false_iff_not, Bool.not_eq_true', Bool.not_eq_false', Bool.not_true, Bool.not_false, Bool.true_and, Bool.and_true, Bool.false_or, Bool.or_false, beq_iff_eq, beq_eq_false_iff_ne, ne_eq] at hg) <;> (first | omega | with_reducible exact i64_x256 _ | with_reducible exact i64_w16 _ _ | with_reducible exact i64_sum _ | (repeat' first | with_reducible exact i64_x256 _ | with_reducible exact i64_w16 _ _ | with_reducible exact i64_sum _ | with_reducible apply And.intro) <;> first | omega | (simp only [I64]; omega) | (simp; omega) | (simp; done) | (simp [I64]; omega)))) ?_) | (refine brP_d (fun h => ?_) (fun h => ?_)) | (refine optP_i (fun x hx => ?_) (fun hx => ?_) <;> (try have hxl := pseudo_len hx)) | (refine brP_nd (fun h => ?_) (fun h => ?_)) | (refine brP_i (fun h => ?_) (fun h => ?_) <;> (try simp only [Bool.and_eq_true, Bool.or_eq_true, Bool.and_eq_false_iff, Bool.or_eq_false_iff, decide_eq_true_eq, decide_eq_false_iff_not, Bool.not_eq_true', Bool.not_eq_false', Bool.not_true, Bool.not_false, Bool.true_and, Bool.and_true, Bool.false_or, Bool.or_false, beq_iff_eq, beq_eq_false_iff_ne, ne_eq] at h)))
      all_goals try simp only [hx, Option.getD_some, Option.getD_none, List.nil_append] at hK
      all_goals repeat' split at hK
      all_goals first
        | exact hK
        | (exfalso; omega)
        | (rw [show (8 + (f.length : Int)).toNat = 24 by omega, show (8 + 2 * (f.length : Int)).toNat = 40 by omega]; simp only [dtd]; exact hK)
        | (rw [show (12 + (f.length : Int)).toNat = 16 by omega, show (12 + 2 * (f.length : Int)).toNat = 20 by omega]; simp only [dtd]; exact hK)
  · exact h.elim
def Tpt17 : Specs := ext Tpt16 72 (ptFlRow ptQuoted)
theorem Tpt17_sound : TSound Try.prog Tpt17 := ext_sound Tpt16_sound (row_of Tpt16_sound mixed Try.func72 (by decide +kernel) ports_Quoted_p)
abbrev Tpt : Specs := Tpt17
theorem Tpt_sound : TSound Try.prog Tpt := Tpt17_sound
end Go.Proofs.Ytnbbaemijogeoaa.Ae

set_option linter.unusedSimpArgs false
set_option linter.unusedVariables false
namespace Go.Proofs.Ytnbbaemijogeoaa
open Ae (b8 b8_toNat b8_byte b8_toNatN)
theorem adBody_two (a : Adv) (q : Int) : adBody a q = [49, b8 a.id, b8 a.pri, b8 (a.addrs.length : Int), b8 (a.every / 256), b8 a.every] ++ two q ++ a.addrs.flatten := rfl
theorem ad_good (a : Adv) (s : List UInt8) : sumB (pseudoL s (adGroup (decide (s.length = 16))) 112 ((adBody a (adSum a s)).length : Int) ++ adBody a (adSum a s)) = 65535 := by
  have hl : (adBody a (adSum a s)).length = (adBody a 0).length := by rw [adBody_len, adBody_len]
  rw [hl]
  have he := pseudoL_even s (adGroup (decide (s.length = 16))) 112 ((adBody a 0).length : Int)
  have hsum : adSum a s = 65535 - sumB (pseudoL s (adGroup (decide (s.length = 16))) 112 ((adBody a 0).length : Int) ++ adBody a 0) := rfl
  generalize pseudoL s (adGroup (decide (s.length = 16))) 112 ((adBody a 0).length : Int) = L at he hsum ⊢
  rw [adBody_two] at hsum ⊢
  rw [← List.append_assoc, ← List.append_assoc] at hsum ⊢
  exact good_slot (by rw [List.length_append]; simp; omega) (.inl hsum)
theorem parts_flat (m : Nat) : ∀ (l : List (List UInt8)), (∀ x ∈ l, x.length = m) → parts m l.flatten l.length = l
  | [], _ => rfl
  | x :: r, h => by
    have hx := h x (List.mem_cons_self ..)
    show (x ++ r.flatten).take m :: parts m ((x ++ r.flatten).drop m) r.length = x :: r
    rw [← hx, List.take_left, List.drop_left]
    rw [hx, parts_flat m r fun y hy => h y (List.mem_cons_of_mem _ hy)]
structure AdFacts (a : Adv) (s : List UInt8) : Prop where
  len : (adBody a (adSum a s)).length = 8 + a.addrs.length * s.length
  c : (b8 (a.addrs.length : Int)).toNat = a.addrs.length
  id : ((b8 a.id).toNat : Int) = a.id
  pri : ((b8 a.pri).toNat : Int) = a.pri
  every : w16 (b8 (a.every / 256)) (b8 a.every) = a.every
  dst : (adGroup (decide (s.length = 16))).length = s.length
theorem ad_facts {a : Adv} {s : List UInt8} (h : adRight a s = true) : AdFacts a s := by
  obtain ⟨h0, h1, h2, h3, h4, h5, h6, h7, h8, h9⟩ := (adRight_iff a s).1 h
  obtain ⟨e1, e2⟩ := ad_len h
  refine ⟨by rw [adBody_len, e1], ?_, ?_, ?_, w16_b8 (by omega), ?_⟩
  · rw [b8_toNatN]; omega
  · rw [b8_toNat]; omega
  · rw [b8_toNat]; omega
  · rw [adGroup_len]; rcases h0 with h0 | h0 <;> simp [h0]
/-- what is read, as long as the sum is not looked at -/
theorem ad_read {a : Adv} {s t body : List UInt8} {c : Nat} (ht : t.length = s.length) (hb : body.length = (adBody a (adSum a s)).length) (h : adRight a s = true) (h0 : sumB (pseudoL t (adGroup (decide (s.length = 16))) 112 (body.length : Int) ++ body) ≠ 65535) : ∃ e, adDecode ⟨t, adGroup (decide (s.length = 16)), 112, 255, body⟩ = (noAdv, e) ∧ e ≠ 0 := by
  unfold adDecode
  simp only
  repeat' split
  all_goals first
    | exact ⟨_, rfl, by decide⟩
    | exact absurd ‹_› (fun hh => hh h0)
theorem ad_back {a : Adv} {s : List UInt8} (h : adRight a s = true) : adDecode (adPacket a s) = (a, 0) := by
  obtain ⟨h0, h1, h2, h3, h4, h5, h6, h7, h8, h9⟩ := (adRight_iff a s).1 h
  have f := ad_facts h
  have g0 : ((adBody a (adSum a s)).getD 0 0) = 49 := rfl
  have g1 : ((adBody a (adSum a s)).getD 1 0) = b8 a.id := rfl
  have g2 : ((adBody a (adSum a s)).getD 2 0) = b8 a.pri := rfl
  have g3 : ((adBody a (adSum a s)).getD 3 0) = b8 (a.addrs.length : Int) := rfl
  have g4 : ((adBody a (adSum a s)).getD 4 0) = b8 (a.every / 256) := rfl
  have g5 : ((adBody a (adSum a s)).getD 5 0) = b8 a.every := rfl
  have g8 : (adBody a (adSum a s)).drop 8 = a.addrs.flatten := rfl
  have hra : rightA s = true := by unfold rightA; rcases h0 with h0 | h0 <;> simp [h0]
  unfold adDecode adPacket
  simp only [g0, g1, g2, g3, g4, g5, g8, f.c, f.every]
  rw [if_neg (by simp), if_neg (by rw [hra, f.dst, f.len]; simp), if_neg (by decide), if_neg (by decide), if_neg (by rw [f.len]; omega), if_neg (by rw [ad_good]; simp), if_neg (by have := f.id; omega)]
  rw [f.id, f.pri, parts_flat _ _ h9]
theorem ad_hops {a : Adv} {s : List UInt8} {n : Int} (hn : n ≠ 255) : adDecode ⟨(adPacket a s).src, (adPacket a s).dst, (adPacket a s).proto, n, (adPacket a s).body⟩ = (noAdv, 65) := by
  unfold adDecode
  exact if_pos (.inl hn)
theorem ad_proto {a : Adv} {s : List UInt8} (q : Int) : adDecode ⟨(adPacket a s).src, (adPacket a s).dst, 17, q, (adPacket a s).body⟩ = (noAdv, 65) := by
  unfold adDecode
  exact if_pos (.inr (by show ¬ (17 : Int) = 112; decide))
theorem ad_cut {a : Adv} {s : List UInt8} (h : adRight a s = true) {n : Nat} (hn : n < (adPacket a s).body.length) : adDecode ⟨(adPacket a s).src, (adPacket a s).dst, (adPacket a s).proto, (adPacket a s).ttl, (adPacket a s).body.take n⟩ = (noAdv, if n < 8 then 60 else 63) := by
  obtain ⟨h0, h1, h2, h3, h4, h5, h6, h7, h8, h9⟩ := (adRight_iff a s).1 h
  have f := ad_facts h
  have hra : rightA s = true := by unfold rightA; rcases h0 with h0 | h0 <;> simp [h0]
  have hl : ((adBody a (adSum a s)).take n).length = n := by
    have hn' : n < (adBody a (adSum a s)).length := hn
    rw [List.length_take]; omega
  have hlen := f.len
  have hn' : n < (adBody a (adSum a s)).length := hn
  unfold adDecode adPacket
  simp only
  rw [if_neg (by simp)]
  by_cases h8n : n < 8
  · rw [if_pos (by rw [hl]; exact .inr (.inr h8n)), if_pos h8n]
  · have tk : ∀ k, k < 8 → ((adBody a (adSum a s)).take n).getD k 0 = (adBody a (adSum a s)).getD k 0 := fun k hk => by
      rw [List.getD_eq_getElem?_getD, List.getD_eq_getElem?_getD, List.getElem?_take_of_lt (by omega)]
    have g0 : ((adBody a (adSum a s)).getD 0 0) = 49 := rfl
    have g3 : ((adBody a (adSum a s)).getD 3 0) = b8 (a.addrs.length : Int) := rfl
    rw [if_neg (by rw [hra, hl, f.dst]; simp; omega), tk 0 (by omega), tk 3 (by omega), g0, g3, if_neg (by decide), if_neg (by decide), if_pos (by rw [f.c, hl]; omega), if_neg h8n]
theorem ad_turned1 {a : Adv} {s : List UInt8} (h : adRight a s = true) {k : Nat} (hk : k < (adPacket a s).body.length) {z : UInt8} (hz : z ≠ 0) :
    ∃ e, adDecode ⟨(adPacket a s).src, (adPacket a s).dst, (adPacket a s).proto, (adPacket a s).ttl, (adPacket a s).body.set k ((adPacket a s).body.getD k 0 ^^^ z)⟩ = (noAdv, e) ∧ e ≠ 0 := by
  have hg := ad_good a s
  refine ad_read (a := a) (s := s) (c := 0) rfl (by simp [adPacket]) h ?_
  have hk' : k < (adBody a (adSum a s)).length := hk
  show sumB (pseudoL s (adGroup (decide (s.length = 16))) 112 ((((adBody a (adSum a s)).set k ((adBody a (adSum a s)).getD k 0 ^^^ z)).length : Nat) : Int) ++ (adBody a (adSum a s)).set k ((adBody a (adSum a s)).getD k 0 ^^^ z)) ≠ 65535
  rw [List.length_set]
  generalize adBody a (adSum a s) = B at hg hk' ⊢
  have := sum_turned (l := pseudoL s (adGroup (decide (s.length = 16))) 112 (B.length : Int) ++ B) (k := (pseudoL s (adGroup (decide (s.length = 16))) 112 (B.length : Int)).length + k) (y := B.getD k 0 ^^^ z) (by rw [List.length_append]; omega)
    (by rw [getD_app_r]; exact xor_ne hz) hg
  rwa [List.set_append_right _ _ (by omega), Nat.add_sub_cancel_left] at this
theorem ad_turned2 {a : Adv} {s : List UInt8} (h : adRight a s = true) {k : Nat} (hk : k < s.length) {z : UInt8} (hz : z ≠ 0) :
    ∃ e, adDecode ⟨s.set k (s.getD k 0 ^^^ z), (adPacket a s).dst, (adPacket a s).proto, (adPacket a s).ttl, (adPacket a s).body⟩ = (noAdv, e) ∧ e ≠ 0 := by
  have hg := ad_good a s
  have f := ad_facts h
  obtain ⟨h0, _⟩ := (adRight_iff a s).1 h
  refine ad_read (a := a) (s := s) (c := 0) (by simp) rfl h ?_
  show sumB (pseudoL (s.set k (s.getD k 0 ^^^ z)) (adGroup (decide (s.length = 16))) 112 ((adBody a (adSum a s)).length : Int) ++ adBody a (adSum a s)) ≠ 65535
  have hdl := f.dst
  generalize adBody a (adSum a s) = B at hg ⊢
  generalize adGroup (decide (s.length = 16)) = dst at hg hdl ⊢
  have hps : ∀ src : List UInt8, src.length = s.length → pseudoL src dst 112 (B.length : Int) = pseudoB src dst 112 (B.length : Int) := fun src e => by
    unfold pseudoL pseudo; rw [if_pos (by omega)]; rfl
  rw [hps _ (by simp)]
  rw [hps _ rfl] at hg
  have hB : ∀ src : List UInt8, src.length = s.length → ∃ r, pseudoB src dst 112 (B.length : Int) = src ++ r ∧ ∀ src' : List UInt8, src'.length = s.length → pseudoB src' dst 112 (B.length : Int) = src' ++ r := by
    intro src e
    unfold pseudoB
    by_cases h16 : s.length = 16
    · refine ⟨dst ++ [b8 ((B.length : Int) / 16777216), b8 ((B.length : Int) / 65536), b8 ((B.length : Int) / 256), b8 (B.length : Int), 0, 0, 0, b8 112], ?_, fun src' e' => ?_⟩
      · rw [if_pos (by omega), List.append_assoc]
      · rw [if_pos (by omega), List.append_assoc]
    · refine ⟨dst ++ [0, b8 112, b8 ((B.length : Int) / 256), b8 (B.length : Int)], ?_, fun src' e' => ?_⟩
      · rw [if_neg (by omega), List.append_assoc]
      · rw [if_neg (by omega), List.append_assoc]
  obtain ⟨r, hr, hr'⟩ := hB s rfl
  rw [hr' _ (by simp)]
  rw [hr] at hg
  have := sum_turned (l := s ++ r ++ B) (k := k) (y := s.getD k 0 ^^^ z) (by simp only [List.length_append]; omega)
    (by rw [List.append_assoc, getD_app_l _ _ hk]; exact xor_ne hz) hg
  rwa [List.append_assoc, List.set_append_left _ _ hk, ← List.append_assoc] at this
end Go.Proofs.Ytnbbaemijogeoaa
set_option linter.unusedSimpArgs false
set_option linter.unusedVariables false
namespace Go.Proofs.Ytnbbaemijogeoaa
open Go Ae
/-- the first place from k on, of j, where it holds; below 0: none -/
def ixFrom (p : Nat → Bool) : Nat → Nat → Int
  | 0, _ => -1
  | j + 1, k => if p k = true then (k : Int) else ixFrom p j (k + 1)
theorem ixFrom_cases (p : Nat → Bool) : ∀ (j k : Nat), (ixFrom p j k = -1 ∧ ∀ i, k ≤ i → i < k + j → p i = false) ∨ ∃ i, k ≤ i ∧ i < k + j ∧ ixFrom p j k = (i : Int) ∧ p i = true ∧ ∀ q, k ≤ q → q < i → p q = false
  | 0, k => .inl ⟨rfl, fun i h1 h2 => by omega⟩
  | j + 1, k => by
    unfold ixFrom
    by_cases h : p k = true
    · rw [if_pos h]; exact .inr ⟨k, by omega, by omega, rfl, h, fun q h1 h2 => by omega⟩
    · rw [if_neg h]
      have h' : p k = false := by simpa using h
      rcases ixFrom_cases p j (k + 1) with ⟨e, hh⟩ | ⟨i, h1, h2, e, hp, hh⟩
      · refine .inl ⟨e, fun i h1 h2 => ?_⟩
        by_cases hi : i = k
        · subst hi; exact h'
        · exact hh i (by omega) (by omega)
      · refine .inr ⟨i, by omega, by omega, e, hp, fun q q1 q2 => ?_⟩
        by_cases hi : q = k
        · subst hi; exact h'
        · exact hh q (by omega) (by omega)
def cStr : AVal → List UInt8
  | .str l => l
  | _ => []
def cInt : AVal → Int
  | .int _ n => n
  | _ => 0
def bkAt (f : Nat → List AVal) (i : Nat) : BkV := match f i with
  | [.str nm, .str ad, .byte m0, .byte m1, .byte m2, .byte m3, .byte m4, .byte m5, .int _ p, .int _ w] => ⟨nm, ad, ⟨m0, m1, m2, m3, m4, m5⟩, p, w⟩
  | _ => bk0
def bksOf (n : Nat) (f : Nat → List AVal) : List BkV := (List.range n).map (bkAt f)
def bksV : AVal → List BkV
  | .ro n _ f => bksOf n f
  | _ => []
def svAt (f : Nat → List AVal) (i : Nat) : SvV := match f i with
  | [.str nm, .str vip, .int _ proto, .int _ port, .int _ mode, .int _ sched, .int _ rise, .int _ fall, .int _ probe, b] => ⟨nm, vip, proto, port, mode, sched, rise, fall, probe, bksV b⟩
  | _ => sv0
def svsOf (n : Nat) (f : Nat → List AVal) : List SvV := (List.range n).map (svAt f)
theorem map_range {α : Type} (l : List α) (d : α) (g : Nat → α) (h : ∀ i, g i = l.getD i d) : (List.range l.length).map g = l := by
  apply List.ext_getElem?
  intro i
  rw [List.getElem?_map]
  rcases Nat.lt_or_ge i l.length with hi | hi
  · rw [List.getElem?_range hi, List.getElem?_eq_getElem hi]
    simp [h, List.getD_eq_getElem?_getD, List.getElem?_eq_getElem hi]
  · rw [List.getElem?_eq_none (by simpa using hi), List.getElem?_eq_none hi]; rfl
theorem bksOf_of (l : List BkV) : bksOf l.length (bkF l) = l := map_range l bk0 _ fun i => rfl
theorem svsOf_of (l : List SvV) : svsOf l.length (svF l) = l := map_range l sv0 _ fun i => by
  show (⟨_, _, _, _, _, _, _, _, _, bksOf _ (bkF _)⟩ : SvV) = _
  rw [bksOf_of]
def IsBks (n : Nat) (f : Nat → List AVal) : Prop := ∃ l : List BkV, f = bkF l ∧ n = l.length ∧ l.length ≤ 2513169434870 ∧ ∀ b ∈ l, I64 b.port
def IsSvs (n : Nat) (f : Nat → List AVal) : Prop := ∃ l : List SvV, f = svF l ∧ n = l.length ∧ l.length ≤ 1256584717440 ∧ ∀ s ∈ l, SvOk s
/-- the card's address that two share -/
def etVirt (i : Int) (six : Bool) : Mc × Bool := if i < 1 ∨ 255 < i then (noMc, false) else (⟨0, 0, 94, 0, if six = true then 2 else 1, b8 i⟩, true)
/-- the first backend of an address -/
def bkIx (l : List BkV) (a : List UInt8) : Int := ixFrom (fun i => decide ((l.getD i bk0).addr = a)) l.length 0
/-- may a service's backends answer so? -/
def ansB (s : SvV) (p : Ip) : Bool := decide (s.proto = p.proto) && decide (s.mode = 1) && decide (0 ≤ bkIx s.bks p.src)
def svIs (s : SvV) (f : Fl) : Bool := decide (s.proto = f.proto) && decide (s.vip = f.dst) && decide (s.port = f.dest)
def svIx (l : List SvV) (f : Fl) : Int := ixFrom (fun i => svIs (l.getD i sv0) f) l.length 0
def ofIx (l : List SvV) (p : Ip) : Int := ixFrom (fun i => ansB (l.getD i sv0) p) l.length 0
def svsV : AVal → List SvV
  | .ro n _ f => svsOf n f
  | _ => []
def cBool : AVal → Bool
  | .bool b => b
  | _ => false
structure RpV where
  why : Int
  fl : Fl
  flags : Int
  svc : Int
  bk : Int
/-- where a service's backend is asked -/
def portB (s : SvV) (k : Int) : Int := if k < 0 ∨ (s.bks.length : Int) ≤ k then 0 else if (s.bks.getD k.toNat bk0).port = 0 then s.port else (s.bks.getD k.toNat bk0).port
/-- does a backend answer with a head? -/
def rpIs (s : SvV) (p : Ip) (h : Hd) (i : Nat) : Bool := decide ((s.bks.getD i bk0).addr = p.src) && decide (portB s i = h.src)
def rpAt (s : SvV) (p : Ip) (h : Hd) : Int := if ansB s p = true then ixFrom (fun i => rpIs s p h i) s.bks.length 0 else -1
/-- the first service, and its first backend, that answer -/
def rpOut (l : List SvV) (p : Ip) (h : Hd) : Nat → Nat → Option (Nat × Int)
  | 0, _ => none
  | j + 1, k => if 0 ≤ rpAt (l.getD k sv0) p h then some (k, rpAt (l.getD k sv0) p h) else rpOut l p h j (k + 1)
def rpO (l : List SvV) (m : Bool) (p : Ip) : Option RpV :=
  if ¬ (p.proto = 6 ∨ p.proto = 17) ∨ ofIx l p < 0 then none
  else if m = false then some ⟨201, noFl, 0, 0, 0⟩
  else if (ptRead p).2 ≠ 0 then some ⟨(ptRead p).2, noFl, 0, 0, 0⟩
  else match rpOut l p (ptRead p).1 l.length 0 with
    | some (k, x) => some ⟨0, ⟨p.proto, p.dst, (l.getD k sv0).vip, (ptRead p).1.dst, (l.getD k sv0).port⟩, (ptRead p).1.flags, k, x⟩
    | none => some ⟨202, noFl, 0, 0, 0⟩
def cByte : AVal → UInt8
  | .byte x => x
  | _ => 0
theorem mc_dec (x y : Mc) : (decide (x.a0 = y.a0) && (decide (x.a1 = y.a1) && (decide (x.a2 = y.a2) && (decide (x.a3 = y.a3) && (decide (x.a4 = y.a4) && decide (x.a5 = y.a5)))))) = decide (x = y) := by
  cases x; cases y
  rw [Bool.eq_iff_iff]
  simp only [Bool.and_eq_true, decide_eq_true_eq, Mc.mk.injEq]
/-- is a frame for another card? -/
def frB (card : Mc) (id : Int) (ad : List UInt8) (m : Bool) (to : Mc) : Bool :=
  !(decide (to = card) || decide (to.a0 &&& 1 = 1) || (m && ((etVirt id (decide (ad.length = 16))).2 && decide (to = (etVirt id (decide (ad.length = 16))).1))))
structure PkV where
  why : Int
  noted : Bool
  p : Ip
  n : Nt
def pkNote (p : Ip) : Bool := decide (p.proto = 58) && !decide (p.body = []) && (decide (p.body.getD 0 0 = 135) || decide (p.body.getD 0 0 = 136))
def pkO (f : Fm) (p0 : Ip) : Option PkV :=
  if f.ty = 2054 then some ⟨(nbRead f).2, true, p0, (nbRead f).1⟩
  else if ¬ (f.ty = 2048 ∨ f.ty = 34525) then some ⟨203, false, noIp, noNt⟩
  else if (ipDecode f.body).2 ≠ 0 then some ⟨(ipDecode f.body).2, false, noIp, noNt⟩
  else if decide ((ipDecode f.body).1.src.length = 16) ≠ decide (f.ty = 34525) then some ⟨31, false, noIp, noNt⟩
  else if pkNote (ipDecode f.body).1 = true then some ⟨(nbRead f).2, true, (ipDecode f.body).1, (nbRead f).1⟩
  else some ⟨0, false, (ipDecode f.body).1, noNt⟩
theorem ipDecode_len (l : List UInt8) : (ipDecode l).1.body.length ≤ l.length := by
  unfold ipDecode ipDec4 ipDec6
  repeat' split
  all_goals simp [noIp]
  all_goals omega
theorem etDecode_len (l : List UInt8) : (etDecode l).1.body.length ≤ l.length := by
  rcases etDec_cases l with ⟨_, e⟩ | ⟨_, _, e⟩ | ⟨_, _, e⟩ <;> rw [e] <;> simp [noFm]
theorem pkO_some (f : Fm) (p : Ip) : pkO f p ≠ none := by
  unfold pkO
  repeat' split
  all_goals exact fun h => by cases h
theorem pkO_len {f : Fm} {x : PkV} (h : pkO f noIp = some x) : x.p.body.length ≤ f.body.length := by
  have h1 := ipDecode_len f.body
  unfold pkO at h
  repeat' split at h
  all_goals cases h
  all_goals first | exact h1 | exact Nat.zero_le _
/-- what a frame is -/
structure VdV where
  kind : Int
  why : Int
  fm : Fm
  nt : Nt
  a : Adv
  p : Ip
  fl : Fl
  flags : Int
  svc : Int
  bk : Int
def dropV (e : Int) : VdV := ⟨0, e, noFm, noNt, noAdv, noIp, noFl, 0, 0, 0⟩
def advV (c : CfV) (f : Fm) (p : Ip) : VdV :=
  if (adDecode p).2 ≠ 0 then dropV (adDecode p).2
  else if (adDecode p).1.id ≠ c.id then dropV 66
  else if p.src = c.addr then dropV 1
  else ⟨2, 0, f, noNt, (adDecode p).1, p, noFl, 0, 0, 0⟩
def syncV (f : Fm) (p : Ip) : VdV :=
  if (ptRead p).2 ≠ 0 then dropV (ptRead p).2
  else if (ptRead p).1.dst ≠ 7777 then dropV 202
  else ⟨3, 0, f, noNt, noAdv, p, noFl, 0, 0, 0⟩
def flOf (p : Ip) : Fl := ⟨(ptRead p).1.proto, p.src, p.dst, (ptRead p).1.src, (ptRead p).1.dst⟩
def clientV (c : CfV) (f : Fm) (p : Ip) : VdV :=
  if p.proto = 6 ∨ p.proto = 17 then
    if (ptRead p).2 ≠ 0 then dropV (ptRead p).2
    else if svIx c.svs (flOf p) < 0 then dropV 202
    else ⟨4, 0, f, noNt, noAdv, p, flOf p, (ptRead p).1.flags, svIx c.svs (flOf p), 0⟩
  else if (ptQuoted p).2 ≠ 0 then dropV (ptQuoted p).2
  else if (ptQuoted p).1.src ≠ p.dst ∨ svIx c.svs (ptQuoted p).1.turn < 0 then dropV 202
  else ⟨6, 0, f, noNt, noAdv, p, (ptQuoted p).1.turn, 0, svIx c.svs (ptQuoted p).1.turn, 0⟩
def hasB (l : List (List UInt8)) (a : List UInt8) : Bool := decide (0 ≤ ixFrom (fun i => decide (a = l.getD i [])) l.length 0)
def replyV (c : CfV) (m : Bool) (f : Fm) (p : Ip) : VdV := match rpO c.svs m p with
  | some x => if x.why = 0 then ⟨5, 0, f, noNt, noAdv, p, x.fl, x.flags, x.svc, x.bk⟩ else dropV x.why
  | none => dropV 204
def srt4 (c : CfV) (m : Bool) (f : Fm) (p : Ip) : VdV :=
  if p.proto = 112 then advV c f p
  else if p.src = c.peer ∧ p.dst = c.addr ∧ p.proto = 17 then syncV f p
  else if hasB c.vips p.dst = true then (if m = false then dropV 201 else clientV c f p)
  else replyV c m f p
def srt3 (c : CfV) (m : Bool) (f : Fm) : Option PkV → VdV
  | some x => if x.why ≠ 0 then dropV x.why else if x.noted = true then ⟨1, 0, f, x.n, noAdv, x.p, noFl, 0, 0, 0⟩ else srt4 c m f x.p
  | none => dropV 0
def srt (c : CfV) (m : Bool) (b : List UInt8) : VdV :=
  if (etDecode b).2 ≠ 0 then dropV (etDecode b).2
  else if frB c.mac c.id c.addr m (etDecode b).1.a = true then dropV 200
  else srt3 c m (etDecode b).1 (pkO (etDecode b).1 noIp)
def srtO (c : CfV) (m : Bool) (b : List UInt8) : Option VdV := if (etDecode b).2 ≠ 0 then some (srt c m b) else some (srt c m b)
theorem srtO_is (c : CfV) (m : Bool) (b : List UInt8) : srtO c m b = some (srt c m b) := by unfold srtO; split <;> rfl
def strsV : AVal → List (List UInt8)
  | .ro n _ f => strs n f
  | _ => []
def trAt (f : Nat → List AVal) (i : Nat) : TrV := match f i with
  | [.str nm, .int _ w] => ⟨nm, w⟩
  | _ => tr0
def trsV : AVal → List TrV
  | .ro n _ f => (List.range n).map (trAt f)
  | _ => []
end Go.Proofs.Ytnbbaemijogeoaa
set_option linter.unusedSimpArgs false
set_option linter.unusedVariables false
set_option maxRecDepth 100000
namespace Go.Proofs.Ytnbbaemijogeoaa.Ae
open Go
def ixaRow : Srow := fun args H K => match args, H with
  | [.ro n 1 f, .str a], [] => (IsStrs n f ∧ n ≤ 140737488351232) ∧ K (.int .i64 (ixFrom (fun i => decide (a = strAt f i)) n 0)) []
  | _, _ => False
def ixbRow : Srow := fun args H K => match args, H with
  | [.ro n 10 f, .fn 77 [] [.ptr 0 0]], [.vals [.str src, .str dst, .int .i64 pr, .int .i64 ttl, .str bd]] => IsBks n f ∧ K (.int .i64 (bkIx (bksOf n f) src)) [.vals [.str src, .str dst, .int .i64 pr, .int .i64 ttl, .str bd]]
  | _, _ => False
def ixsRow : Srow := fun args H K => match args, H with
  | [.ro n 10 f, .fn 75 [] [.ptr 0 0]], [.vals [.int .i64 pr, .str src, .str dst, .int .i64 port, .int .i64 dest]] => IsSvs n f ∧ K (.int .i64 (svIx (svsOf n f) ⟨pr, src, dst, port, dest⟩)) [.vals [.int .i64 pr, .str src, .str dst, .int .i64 port, .int .i64 dest]]
  | [.ro n 10 f, .fn 46 [] [.ptr 0 0]], [.vals [.str src, .str dst, .int .i64 pr, .int .i64 ttl, .str bd]] => IsSvs n f ∧ K (.int .i64 (ofIx (svsOf n f) ⟨src, dst, pr, ttl, bd⟩)) [.vals [.str src, .str dst, .int .i64 pr, .int .i64 ttl, .str bd]]
  | _, _ => False
def ansRow : Srow := fun args H K => match args, H with
  | [.agg [.str nm, .str vip, .int .i64 proto, .int .i64 port, .int .i64 mode, .int .i64 sched, .int .i64 rise, .int .i64 fall, .int .i64 probe, .ro n 10 f], .agg [.str src, .str dst, .int .i64 pr, .int .i64 ttl, .str bd]], [] => IsBks n f ∧ K (.bool (ansB ⟨nm, vip, proto, port, mode, sched, rise, fall, probe, bksOf n f⟩ ⟨src, dst, pr, ttl, bd⟩)) []
  | _, _ => False
def portRow : Srow := fun args H K => match args, H with
  | [.agg [.str nm, .str vip, .int .i64 proto, .int .i64 port, .int .i64 mode, .int .i64 sched, .int .i64 rise, .int .i64 fall, .int .i64 probe, .ro n 10 f], .int .i64 k], [] => IsBks n f ∧ K (.int .i64 (portB ⟨nm, vip, proto, port, mode, sched, rise, fall, probe, bksOf n f⟩ k)) []
  | _, _ => False
def ipV (p : Ip) : List AVal := [.str p.src, .str p.dst, .int .i64 p.proto, .int .i64 p.ttl, .str p.body]
def hdV (h : Hd) : List AVal := [.int .i64 h.proto, .int .i64 h.src, .int .i64 h.dst, .int .i64 h.flags, .int .i64 h.at']
def gateCells (c : CfV) (m : Bool) (f : Fm) (p : Ip) : List AVal := [.byte c.mac.a0, .byte c.mac.a1, .byte c.mac.a2, .byte c.mac.a3, .byte c.mac.a4, .byte c.mac.a5, .str c.addr, .str c.peer, .int .i64 c.id, .int .i64 c.pri, .int .i64 c.every, .bool c.pre,
  .ro c.vips.length 1 (fun i => [.str (c.vips.getD i [])]), .ro c.trs.length 2 (trF c.trs), .ro c.svs.length 10 (svF c.svs), .bool m, .int .i64 0, .int .i64 0,
  .byte f.a.a0, .byte f.a.a1, .byte f.a.a2, .byte f.a.a3, .byte f.a.a4, .byte f.a.a5, .byte f.b.a0, .byte f.b.a1, .byte f.b.a2, .byte f.b.a3, .byte f.b.a4, .byte f.b.a5, .int .i64 f.ty, .str f.body,
  .int .i64 0, .byte 0, .byte 0, .byte 0, .byte 0, .byte 0, .byte 0, .str [], .str [], .bool false, .int .i64 0, .int .i64 0, .int .i64 0, .nilS,
  .str p.src, .str p.dst, .int .i64 p.proto, .int .i64 p.ttl, .str p.body, .int .i64 0, .str [], .str [], .int .i64 0, .int .i64 0, .int .i64 0, .int .i64 0, .int .i64 0]
def Tgt1 : Specs := ext Tlw 40 ((Tpt 40))
theorem Tgt1_sound : TSound Try.prog Tgt1 := ext_sound Tlw_sound (fun _ _ _ h => Tpt_sound _ _ _ _ h)
def Tgt2 : Specs := ext Tgt1 44 ((Tpt 44))
theorem Tgt2_sound : TSound Try.prog Tgt2 := ext_sound Tgt1_sound (fun _ _ _ h => Tpt_sound _ _ _ _ h)
def Tgt3 : Specs := ext Tgt2 72 ((Tpt 72))
theorem Tgt3_sound : TSound Try.prog Tgt3 := ext_sound Tgt2_sound (fun _ _ _ h => Tpt_sound _ _ _ _ h)
def Tgt4 : Specs := ext Tgt3 73 ((Tpt 73))
theorem Tgt4_sound : TSound Try.prog Tgt4 := ext_sound Tgt3_sound (fun _ _ _ h => Tpt_sound _ _ _ _ h)
def Tgt5 : Specs := ext Tgt4 38 (decRow)
theorem Tgt5_sound : TSound Try.prog Tgt5 := ext_sound Tgt4_sound (decode_row)
def Tgt6 : Specs := ext Tgt5 25 ((Tde 25))
theorem Tgt6_sound : TSound Try.prog Tgt6 := ext_sound Tgt5_sound (fun _ _ _ h => Tde_sound _ _ _ _ h)
def ann_admit_served : Nat → List Nat × Nat × List (List Nat)
  | 2000001 => ([], 7, [[], [0], [0, 1], [0, 1, 2], [0, 1, 2, 3], [0, 1, 2, 3, 4]])
  | _ => ([], 0, [])
def Tgt7 : Specs := ext Tgt6 42 (fnP Try.prog Tgt6 ann_admit_served Try.f42)
theorem Tgt7_sound : TSound Try.prog Tgt7 := ext_sound Tgt6_sound (fn_row Tgt6_sound mixed Try.func42 (by decide +kernel))
def ann_slices_Index___outrider_api_Addr_outrider_api_Addr_ : Nat → List Nat × Nat × List (List Nat)
  | 2 => ([0, 1, 7, 8], 0, [])
  | _ => ([], 0, [])
noncomputable abbrev ixa_lp_X : Cx := ⟨Try.prog, Tgt7, Try.f71.ntmps, 0, ann_slices_Index___outrider_api_Addr_outrider_api_Addr_⟩
noncomputable def ixa_lp_c : Code := cAt [.r, .l, .r, .b] (bodyOf Try.f71)
noncomputable def ixa_lp_k (K : AVal → Hp → Prop) : Post := kAt ixa_lp_X [.r, .l, .r, .b] (bodyOf Try.f71) (fnK Try.prog 0 Try.f71.results.toList K)
def ixa_lp_n (K : AVal → Hp → Prop) (n : Nat) (s : St) : Prop := loopP (awp ixa_lp_X (loopB ixa_lp_c)) 0 [0, 1, 7, 8] n s (ixa_lp_k K)
def ixa_lp (K : AVal → Hp → Prop) (s : St) : Prop := ∃ n, ixa_lp_n K n s
def ixa_lp_b (K : AVal → Hp → Prop) (J : St → Prop) (s : St) : Prop := awp ixa_lp_X (loopB ixa_lp_c) s (seqK (fun s' => normK 0 [0, 1, 7, 8] s' J) (ixa_lp_k K))
theorem ixa_lp_next {K : AVal → Hp → Prop} {n : Nat} {s : St} (h : ixa_lp_b K (fun s' => ixa_lp_n K n s') s) : ixa_lp_n K (n + 1) s := h
set_option maxRecDepth 100000 in
theorem ixa_eq (n : Nat) (g : Nat → List UInt8) (a : List UInt8) (K : AVal → Hp → Prop) : fnP Try.prog Tgt7 ann_slices_Index___outrider_api_Addr_outrider_api_Addr_ Try.f71 [.ro n 1 (fun i => [.str (g i)]), .str a] [] K = (
 ixa_lp K (St.mk [(0, .ro n (1 : Nat) fun i => [.str (g i)]), (1, .str a), (7, .int .i64 (↑n : Int)), (8, .int .i64 0)] [])) := by kernel_rfl
set_option maxRecDepth 100000 in
theorem ixa_lp_step (n : Nat) (g : Nat → List UInt8) (a : List UInt8) (m k : Int) (K : AVal → Hp → Prop) (J : St → Prop) : ixa_lp_b K J (St.mk [(0, .ro n 1 (fun i => [.str (g i)])), (1, .str a), (7, .int .i64 m), (8, .int .i64 k)] []) = (
 brP (decide (k < m)) (((0 : Int) ≤ k ∧ k < (↑n : Int)) ∧ brP (decide (a = g (Int.toNat k))) (K (.int .i64 k) []) (I64 (k + (1 : Int)) ∧ J (St.mk [(0, .ro n (1 : Nat) fun i => [.str (g i)]), (1, .str a), (7, .int .i64 m), (8, .int .i64 (k + (1 : Int)))] []))) (K (.int .i64 (-1 : Int)) [])) := by kernel_rfl
theorem ixa_all {n : Nat} {g : Nat → List UInt8} {a : List UInt8} (hn : n ≤ 140737488351232) (K : AVal → Hp → Prop) : ∀ (j k : Nat), k + j = n → K (.int .i64 (ixFrom (fun i => decide (a = g i)) j k)) [] →
    ixa_lp_n K (j + 1) (St.mk [(0, .ro n 1 (fun i => [.str (g i)])), (1, .str a), (7, .int .i64 (n : Int)), (8, .int .i64 (k : Int))] [])
  | 0, k, h, hK => by
    refine ixa_lp_next ?_
    rw [ixa_lp_step]
    exact brP_d (fun h' => by omega) (fun _ => hK)
  | j + 1, k, h, hK => by
    refine ixa_lp_next ?_
    rw [ixa_lp_step]
    refine brP_d (fun _ => ⟨by omega, ?_⟩) (fun h' => by omega)
    unfold ixFrom at hK
    rw [Int.toNat_natCast]
    refine brP_d (fun h1 => ?_) (fun h1 => ⟨by unfold I64; omega, ?_⟩)
    · rw [if_pos (decide_eq_true h1)] at hK; exact hK
    · rw [if_neg (by simpa using h1)] at hK
      exact ixa_all hn K j (k + 1) (by omega) hK
attribute [local irreducible] fnP in
theorem slices_Index___outrider_api_Addr_outrider_api_Addr__p : ∀ args H K, ixaRow args H K → ∃ args', ArgsLe H args args' ∧ fnP Try.prog Tgt7 ann_slices_Index___outrider_api_Addr_outrider_api_Addr_ Try.f71 args' H (fun v H' => ∃ v2 H2, ResLe v H' v2 H2 ∧ K v2 H2) := by
  intro args H K h
  unfold ixaRow at h
  split at h
  · rename_i n f a
    obtain ⟨⟨hs, hn⟩, hK⟩ := h
    refine ⟨_, .cons (VE.strs hs) .refl, ?_⟩
    unfold onlyStrs
    rw [ixa_eq]
    exact ⟨_, ixa_all hn _ n 0 (by omega) ⟨_, _, .refl, hK⟩⟩
  · exact h.elim
def Tgt8 : Specs := ext Tgt7 71 (ixaRow)
theorem Tgt8_sound : TSound Try.prog Tgt8 := ext_sound Tgt7_sound (row_weak Tgt7_sound mixed Try.func71 (by decide +kernel) slices_Index___outrider_api_Addr_outrider_api_Addr__p)
def ann_slices_Contains___outrider_api_Addr_outrider_api_Addr_ : Nat → List Nat × Nat × List (List Nat)
  | _ => ([], 0, [])
def Tgt9 : Specs := ext Tgt8 41 (fnP Try.prog Tgt8 ann_slices_Contains___outrider_api_Addr_outrider_api_Addr_ Try.f41)
theorem Tgt9_sound : TSound Try.prog Tgt9 := ext_sound Tgt8_sound (fn_row Tgt8_sound mixed Try.func41 (by decide +kernel))
def ann_admit_answers_1 : Nat → List Nat × Nat × List (List Nat)
  | _ => ([], 0, [])
def Tgt10 : Specs := ext Tgt9 77 (fnP Try.prog Tgt9 ann_admit_answers_1 Try.f77)
theorem Tgt10_sound : TSound Try.prog Tgt10 := ext_sound Tgt9_sound (fn_row Tgt9_sound mixed Try.func77 (by decide +kernel))
def ann_slices_IndexFunc___outrider_config_Backend_outrider_config_Backend_ : Nat → List Nat × Nat × List (List Nat)
  | 2 => ([0, 1, 7, 8], 0, [])
  | _ => ([], 0, [])
noncomputable abbrev ixb_lp_X : Cx := ⟨Try.prog, Tgt10, Try.f86.ntmps, 1, ann_slices_IndexFunc___outrider_config_Backend_outrider_config_Backend_⟩
noncomputable def ixb_lp_c : Code := cAt [.r, .l, .r, .b] (bodyOf Try.f86)
noncomputable def ixb_lp_k (K : AVal → Hp → Prop) : Post := kAt ixb_lp_X [.r, .l, .r, .b] (bodyOf Try.f86) (fnK Try.prog 1 Try.f86.results.toList K)
def ixb_lp_n (K : AVal → Hp → Prop) (n : Nat) (s : St) : Prop := loopP (awp ixb_lp_X (loopB ixb_lp_c)) 1 [0, 1, 7, 8] n s (ixb_lp_k K)
def ixb_lp (K : AVal → Hp → Prop) (s : St) : Prop := ∃ n, ixb_lp_n K n s
def ixb_lp_b (K : AVal → Hp → Prop) (J : St → Prop) (s : St) : Prop := awp ixb_lp_X (loopB ixb_lp_c) s (seqK (fun s' => normK 1 [0, 1, 7, 8] s' J) (ixb_lp_k K))
theorem ixb_lp_next {K : AVal → Hp → Prop} {n : Nat} {s : St} (h : ixb_lp_b K (fun s' => ixb_lp_n K n s') s) : ixb_lp_n K (n + 1) s := h
set_option maxRecDepth 100000 in
theorem ixb_eq (l : List BkV) (src dst : List UInt8) (pr ttl : Int) (bd : List UInt8) (K : AVal → Hp → Prop) : fnP Try.prog Tgt10 ann_slices_IndexFunc___outrider_config_Backend_outrider_config_Backend_ Try.f86 [.ro l.length 10 (bkF l), .fn 77 [] [.ptr 0 0]] [.vals [.str src, .str dst, .int .i64 pr, .int .i64 ttl, .str bd]] K = (
 ixb_lp K (St.mk [(0, .ro (List.length l) (10 : Nat) (bkF l)), (1, .fn 77 [] [.ptr 0 0]), (7, .int .i64 (↑(List.length l) : Int)), (8, .int .i64 0)] [.vals [.str src, .str dst, .int .i64 pr, .int .i64 ttl, .str bd]])) := by kernel_rfl
set_option maxRecDepth 100000 in
theorem ixb_lp_step (l : List BkV) (src dst : List UInt8) (pr ttl : Int) (bd : List UInt8) (m k : Int) (K : AVal → Hp → Prop) (J : St → Prop) : ixb_lp_b K J (St.mk [(0, .ro l.length 10 (bkF l)), (1, .fn 77 [] [.ptr 0 0]), (7, .int .i64 m), (8, .int .i64 k)] [.vals [.str src, .str dst, .int .i64 pr, .int .i64 ttl, .str bd]]) = (
 brP (decide (k < m)) (((0 : Int) ≤ k ∧ k < (↑(List.length l) : Int)) ∧ brP (decide ((List.getD l (Int.toNat k) bk0).addr = src)) (K (.int .i64 k) [.vals [.str src, .str dst, .int .i64 pr, .int .i64 ttl, .str bd]]) (I64 (k + (1 : Int)) ∧ J (St.mk [(0, .ro (List.length l) (10 : Nat) (bkF l)), (1, .fn 77 [] [.ptr 0 0]), (7, .int .i64 m), (8, .int .i64 (k + (1 : Int)))] [.vals [.str src, .str dst, .int .i64 pr, .int .i64 ttl, .str bd]]))) (K (.int .i64 (-1 : Int)) [.vals [.str src, .str dst, .int .i64 pr, .int .i64 ttl, .str bd]])) := by kernel_rfl
theorem ixb_all {l : List BkV} {src dst : List UInt8} {pr ttl : Int} {bd : List UInt8} (hn : l.length ≤ 2513169434870) (K : AVal → Hp → Prop) : ∀ (j k : Nat), k + j = l.length → K (.int .i64 (ixFrom (fun i => decide ((l.getD i bk0).addr = src)) j k)) [.vals [.str src, .str dst, .int .i64 pr, .int .i64 ttl, .str bd]] →
    ixb_lp_n K (j + 1) (St.mk [(0, .ro l.length 10 (bkF l)), (1, .fn 77 [] [.ptr 0 0]), (7, .int .i64 (l.length : Int)), (8, .int .i64 (k : Int))] [.vals [.str src, .str dst, .int .i64 pr, .int .i64 ttl, .str bd]])
  | 0, k, h, hK => by
    refine ixb_lp_next ?_
    rw [ixb_lp_step]
    exact brP_d (fun h' => by omega) (fun _ => hK)
  | j + 1, k, h, hK => by
    refine ixb_lp_next ?_
    rw [ixb_lp_step]
    refine brP_d (fun _ => ⟨by omega, ?_⟩) (fun h' => by omega)
    unfold ixFrom at hK
    rw [Int.toNat_natCast]
    refine brP_d (fun h1 => ?_) (fun h1 => ⟨by unfold I64; omega, ?_⟩)
    · rw [if_pos (decide_eq_true h1)] at hK; exact hK
    · rw [if_neg (by simpa using h1)] at hK
      exact ixb_all hn K j (k + 1) (by omega) hK
attribute [local irreducible] fnP in
theorem slices_IndexFunc___outrider_config_Backend_outrider_config_Backend__p : ∀ args H K, ixbRow args H K → fnP Try.prog Tgt10 ann_slices_IndexFunc___outrider_config_Backend_outrider_config_Backend_ Try.f86 args H K := by
  intro args H K h
  unfold ixbRow at h
  split at h
  · rename_i n f src dst pr ttl bd
    obtain ⟨⟨l, rfl, rfl, hl⟩, hK⟩ := h
    rw [bksOf_of] at hK
    rw [ixb_eq]
    exact ⟨_, ixb_all hl.1 _ l.length 0 (by omega) hK⟩
  · exact h.elim
def Tgt11 : Specs := ext Tgt10 86 (ixbRow)
theorem Tgt11_sound : TSound Try.prog Tgt11 := ext_sound Tgt10_sound (row_of Tgt10_sound mixed Try.func86 (by decide +kernel) slices_IndexFunc___outrider_config_Backend_outrider_config_Backend__p)
def ann_slices_ContainsFunc___outrider_config_Backend_outrider_config_Backend_ : Nat → List Nat × Nat × List (List Nat)
  | _ => ([], 0, [])
def Tgt12 : Specs := ext Tgt11 76 (fnP Try.prog Tgt11 ann_slices_ContainsFunc___outrider_config_Backend_outrider_config_Backend_ Try.f76)
theorem Tgt12_sound : TSound Try.prog Tgt12 := ext_sound Tgt11_sound (fn_row Tgt11_sound mixed Try.func76 (by decide +kernel))
def ann_admit_answers : Nat → List Nat × Nat × List (List Nat)
  | _ => ([], 0, [])
set_option maxRecDepth 100000 in
theorem ans_eq (s : SvV) (src dst : List UInt8) (pr ttl : Int) (bd : List UInt8) (K : AVal → Hp → Prop) : fnP Try.prog Tgt12 ann_admit_answers Try.f47 [.agg (svCells s), .agg [.str src, .str dst, .int .i64 pr, .int .i64 ttl, .str bd]] [] K = (
 brP (decide (s.proto = pr)) (brP (decide (s.mode = (1 : Int))) (IsBks (List.length s.bks) (bkF s.bks) ∧ K (.bool (decide ((0 : Int) ≤ bkIx (bksOf (List.length s.bks) (bkF s.bks)) src))) []) (K (.bool false) [])) (K (.bool false) [])) := by kernel_rfl
attribute [local irreducible] fnP in
theorem admit_answers_p : ∀ args H K, ansRow args H K → fnP Try.prog Tgt12 ann_admit_answers Try.f47 args H K := by
  intro args H K h
  unfold ansRow at h
  split at h
  · rename_i nm vip proto port mode sched rise fall probe n f src dst pr ttl bd
    obtain ⟨⟨l, rfl, rfl, hl, hp⟩, hK⟩ := h
    rw [bksOf_of] at hK
    have e := ans_eq ⟨nm, vip, proto, port, mode, sched, rise, fall, probe, l⟩ src dst pr ttl bd K
    unfold svCells at e
    rw [e]
    have hB : IsBks l.length (bkF l) := ⟨l, rfl, rfl, hl, hp⟩
    unfold ansB at hK
    simp only at hK
    refine brP_d (fun h1 => brP_d (fun h2 => ⟨hB, ?_⟩) (fun h2 => ?_)) (fun h1 => ?_)
    · rw [decide_eq_true h1, decide_eq_true h2, Bool.true_and, Bool.true_and] at hK
      rw [bksOf_of]
      exact hK
    · rw [decide_eq_false h2, Bool.and_false, Bool.false_and] at hK; exact hK
    · rw [decide_eq_false h1, Bool.false_and, Bool.false_and] at hK; exact hK
  · exact h.elim
def Tgt13 : Specs := ext Tgt12 47 (ansRow)
theorem Tgt13_sound : TSound Try.prog Tgt13 := ext_sound Tgt12_sound (row_of Tgt12_sound mixed Try.func47 (by decide +kernel) admit_answers_p)
def ann___outrider_admit_gate__service_1 : Nat → List Nat × Nat × List (List Nat)
  | 2000001 => ([], 20, [[], [0], [0, 1], [0, 1, 2], [0, 1, 2, 3], [0, 1, 2, 3, 4], [0, 1, 2, 3, 4, 5], [0, 1, 2, 3, 4, 5, 6], [0, 1, 2, 3, 4, 5, 6, 7], [0, 1, 2, 3, 4, 5, 6, 7, 8], [0, 1, 2, 3, 4, 5, 6, 7, 8, 9], [0, 1, 2, 3, 4, 5, 6, 7, 8, 9, 10], [0, 1, 2, 3, 4, 5, 6, 7, 8, 9, 10, 11], [0, 1, 2, 3, 4, 5, 6, 7, 8, 9, 10, 11, 12], [0, 1, 2, 3, 4, 5, 6, 7, 8, 9, 10, 11, 12, 13], [0, 1, 2, 3, 4, 5, 6, 7, 8, 9, 10, 11, 12, 13, 14], [0, 1, 2, 3, 4, 5, 6, 7, 8, 9, 10, 11, 12, 13, 14, 15], [0, 1, 2, 3, 4, 5, 6, 7, 8, 9, 10, 11, 12, 13, 14, 15, 16], [0, 1, 2, 3, 4, 5, 6, 7, 8, 9, 10, 11, 12, 13, 14, 15, 16, 17]])
  | _ => ([], 0, [])
def Tgt14 : Specs := ext Tgt13 75 (fnP Try.prog Tgt13 ann___outrider_admit_gate__service_1 Try.f75)
theorem Tgt14_sound : TSound Try.prog Tgt14 := ext_sound Tgt13_sound (fn_row Tgt13_sound mixed Try.func75 (by decide +kernel))
def ann___outrider_admit_gate__reply_1 : Nat → List Nat × Nat × List (List Nat)
  | _ => ([], 0, [])
def Tgt15 : Specs := ext Tgt14 46 (fnP Try.prog Tgt14 ann___outrider_admit_gate__reply_1 Try.f46)
theorem Tgt15_sound : TSound Try.prog Tgt15 := ext_sound Tgt14_sound (fn_row Tgt14_sound mixed Try.func46 (by decide +kernel))
def ann_slices_IndexFunc___outrider_config_Service_outrider_config_Service_ : Nat → List Nat × Nat × List (List Nat)
  | 2 => ([0, 1, 7, 8], 0, [])
  | _ => ([], 0, [])
noncomputable abbrev ixs_lp_X : Cx := ⟨Try.prog, Tgt15, Try.f74.ntmps, 1, ann_slices_IndexFunc___outrider_config_Service_outrider_config_Service_⟩
noncomputable def ixs_lp_c : Code := cAt [.r, .l, .r, .b] (bodyOf Try.f74)
noncomputable def ixs_lp_k (K : AVal → Hp → Prop) : Post := kAt ixs_lp_X [.r, .l, .r, .b] (bodyOf Try.f74) (fnK Try.prog 1 Try.f74.results.toList K)
def ixs_lp_n (K : AVal → Hp → Prop) (n : Nat) (s : St) : Prop := loopP (awp ixs_lp_X (loopB ixs_lp_c)) 1 [0, 1, 7, 8] n s (ixs_lp_k K)
def ixs_lp (K : AVal → Hp → Prop) (s : St) : Prop := ∃ n, ixs_lp_n K n s
def ixs_lp_b (K : AVal → Hp → Prop) (J : St → Prop) (s : St) : Prop := awp ixs_lp_X (loopB ixs_lp_c) s (seqK (fun s' => normK 1 [0, 1, 7, 8] s' J) (ixs_lp_k K))
theorem ixs_lp_next {K : AVal → Hp → Prop} {n : Nat} {s : St} (h : ixs_lp_b K (fun s' => ixs_lp_n K n s') s) : ixs_lp_n K (n + 1) s := h
set_option maxRecDepth 100000 in
theorem ixs_eq (l : List SvV) (pr : Int) (src dst : List UInt8) (port dest : Int) (K : AVal → Hp → Prop) : fnP Try.prog Tgt15 ann_slices_IndexFunc___outrider_config_Service_outrider_config_Service_ Try.f74 [.ro l.length 10 (svF l), .fn 75 [] [.ptr 0 0]] [.vals [.int .i64 pr, .str src, .str dst, .int .i64 port, .int .i64 dest]] K = (
 ixs_lp K (St.mk [(0, .ro (List.length l) (10 : Nat) (svF l)), (1, .fn 75 [] [.ptr 0 0]), (7, .int .i64 (↑(List.length l) : Int)), (8, .int .i64 0)] [.vals [.int .i64 pr, .str src, .str dst, .int .i64 port, .int .i64 dest]])) := by kernel_rfl
set_option maxRecDepth 100000 in
theorem ixr_eq (l : List SvV) (src dst : List UInt8) (pr ttl : Int) (bd : List UInt8) (K : AVal → Hp → Prop) : fnP Try.prog Tgt15 ann_slices_IndexFunc___outrider_config_Service_outrider_config_Service_ Try.f74 [.ro l.length 10 (svF l), .fn 46 [] [.ptr 0 0]] [.vals [.str src, .str dst, .int .i64 pr, .int .i64 ttl, .str bd]] K = (
 ixs_lp K (St.mk [(0, .ro (List.length l) (10 : Nat) (svF l)), (1, .fn 46 [] [.ptr 0 0]), (7, .int .i64 (↑(List.length l) : Int)), (8, .int .i64 0)] [.vals [.str src, .str dst, .int .i64 pr, .int .i64 ttl, .str bd]])) := by kernel_rfl
set_option maxRecDepth 100000 in
theorem ixs_lp_step (l : List SvV) (pr : Int) (src dst : List UInt8) (port dest : Int) (m k : Int) (K : AVal → Hp → Prop) (J : St → Prop) : ixs_lp_b K J (St.mk [(0, .ro l.length 10 (svF l)), (1, .fn 75 [] [.ptr 0 0]), (7, .int .i64 m), (8, .int .i64 k)] [.vals [.int .i64 pr, .str src, .str dst, .int .i64 port, .int .i64 dest]]) = (
 brP (decide (k < m)) (((0 : Int) ≤ k ∧ k < (↑(List.length l) : Int)) ∧ brP (decide ((List.getD l (Int.toNat k) sv0).proto = pr) && decide ((List.getD l (Int.toNat k) sv0).vip = dst) && decide ((List.getD l (Int.toNat k) sv0).port = dest)) (K (.int .i64 k) [.vals [.int .i64 pr, .str src, .str dst, .int .i64 port, .int .i64 dest]]) (I64 (k + (1 : Int)) ∧ J (St.mk [(0, .ro (List.length l) (10 : Nat) (svF l)), (1, .fn 75 [] [.ptr 0 0]), (7, .int .i64 m), (8, .int .i64 (k + (1 : Int)))] [.vals [.int .i64 pr, .str src, .str dst, .int .i64 port, .int .i64 dest]]))) (K (.int .i64 (-1 : Int)) [.vals [.int .i64 pr, .str src, .str dst, .int .i64 port, .int .i64 dest]])) := by kernel_rfl
set_option maxRecDepth 100000 in
theorem ixr_lp_step (l : List SvV) (src dst : List UInt8) (pr ttl : Int) (bd : List UInt8) (m k : Int) (K : AVal → Hp → Prop) (J : St → Prop) : ixs_lp_b K J (St.mk [(0, .ro l.length 10 (svF l)), (1, .fn 46 [] [.ptr 0 0]), (7, .int .i64 m), (8, .int .i64 k)] [.vals [.str src, .str dst, .int .i64 pr, .int .i64 ttl, .str bd]]) = (
 brP (decide (k < m)) (((0 : Int) ≤ k ∧ k < (↑(List.length l) : Int)) ∧ IsBks (List.length (List.getD l (Int.toNat k) sv0).bks) (bkF (List.getD l (Int.toNat k) sv0).bks) ∧ brP (ansB (SvV.mk (List.getD l (Int.toNat k) sv0).name (List.getD l (Int.toNat k) sv0).vip (List.getD l (Int.toNat k) sv0).proto (List.getD l (Int.toNat k) sv0).port (List.getD l (Int.toNat k) sv0).mode (List.getD l (Int.toNat k) sv0).sched (List.getD l (Int.toNat k) sv0).rise (List.getD l (Int.toNat k) sv0).fall (List.getD l (Int.toNat k) sv0).probe (bksOf (List.length (List.getD l (Int.toNat k) sv0).bks) (bkF (List.getD l (Int.toNat k) sv0).bks))) (Ip.mk src dst pr ttl bd)) (K (.int .i64 k) [.vals [.str src, .str dst, .int .i64 pr, .int .i64 ttl, .str bd]]) (I64 (k + (1 : Int)) ∧ J (St.mk [(0, .ro (List.length l) (10 : Nat) (svF l)), (1, .fn 46 [] [.ptr 0 0]), (7, .int .i64 m), (8, .int .i64 (k + (1 : Int)))] [.vals [.str src, .str dst, .int .i64 pr, .int .i64 ttl, .str bd]]))) (K (.int .i64 (-1 : Int)) [.vals [.str src, .str dst, .int .i64 pr, .int .i64 ttl, .str bd]])) := by kernel_rfl
theorem ixs_all {l : List SvV} {pr : Int} {src dst : List UInt8} {port dest : Int} (hn : l.length ≤ 1256584717440) (K : AVal → Hp → Prop) : ∀ (j k : Nat), k + j = l.length → K (.int .i64 (ixFrom (fun i => svIs (l.getD i sv0) ⟨pr, src, dst, port, dest⟩) j k)) [.vals [.int .i64 pr, .str src, .str dst, .int .i64 port, .int .i64 dest]] →
    ixs_lp_n K (j + 1) (St.mk [(0, .ro l.length 10 (svF l)), (1, .fn 75 [] [.ptr 0 0]), (7, .int .i64 (l.length : Int)), (8, .int .i64 (k : Int))] [.vals [.int .i64 pr, .str src, .str dst, .int .i64 port, .int .i64 dest]])
  | 0, k, h, hK => by
    refine ixs_lp_next ?_
    rw [ixs_lp_step]
    exact brP_d (fun h' => by omega) (fun _ => hK)
  | j + 1, k, h, hK => by
    refine ixs_lp_next ?_
    rw [ixs_lp_step]
    refine brP_d (fun _ => ⟨by omega, ?_⟩) (fun h' => by omega)
    unfold ixFrom at hK
    rw [Int.toNat_natCast]
    refine brP_i (fun h1 => ?_) (fun h1 => ⟨by unfold I64; omega, ?_⟩)
    · rw [if_pos (show svIs (l.getD k sv0) ⟨pr, src, dst, port, dest⟩ = true from h1)] at hK; exact hK
    · rw [if_neg (by rw [show svIs (l.getD k sv0) ⟨pr, src, dst, port, dest⟩ = false from h1]; decide)] at hK
      exact ixs_all hn K j (k + 1) (by omega) hK
theorem bksV_of (s : SvV) : (⟨s.name, s.vip, s.proto, s.port, s.mode, s.sched, s.rise, s.fall, s.probe, bksOf s.bks.length (bkF s.bks)⟩ : SvV) = s := by rw [bksOf_of]
theorem isBks_of {s : SvV} (h : SvOk s) : IsBks s.bks.length (bkF s.bks) := ⟨s.bks, rfl, rfl, h.1, h.2.2⟩
theorem svOk_get {l : List SvV} (h : ∀ s ∈ l, SvOk s) (k : Nat) : SvOk (l.getD k sv0) := by
  rw [List.getD_eq_getElem?_getD]
  rcases Nat.lt_or_ge k l.length with hk | hk
  · rw [List.getElem?_eq_getElem hk]; exact h _ (List.getElem_mem _)
  · rw [List.getElem?_eq_none hk]; exact ⟨by simp [sv0], by simp [sv0, I64], fun b hb => by simp [sv0] at hb⟩
theorem ixr_all {l : List SvV} {src dst : List UInt8} {pr ttl : Int} {bd : List UInt8} (hn : l.length ≤ 1256584717440) (hs : ∀ s ∈ l, SvOk s) (K : AVal → Hp → Prop) : ∀ (j k : Nat), k + j = l.length → K (.int .i64 (ixFrom (fun i => ansB (l.getD i sv0) ⟨src, dst, pr, ttl, bd⟩) j k)) [.vals [.str src, .str dst, .int .i64 pr, .int .i64 ttl, .str bd]] →
    ixs_lp_n K (j + 1) (St.mk [(0, .ro l.length 10 (svF l)), (1, .fn 46 [] [.ptr 0 0]), (7, .int .i64 (l.length : Int)), (8, .int .i64 (k : Int))] [.vals [.str src, .str dst, .int .i64 pr, .int .i64 ttl, .str bd]])
  | 0, k, h, hK => by
    refine ixs_lp_next ?_
    rw [ixr_lp_step]
    exact brP_d (fun h' => by omega) (fun _ => hK)
  | j + 1, k, h, hK => by
    refine ixs_lp_next ?_
    rw [ixr_lp_step, bksV_of, Int.toNat_natCast]
    refine brP_d (fun _ => ⟨by omega, isBks_of (svOk_get hs k), ?_⟩) (fun h' => by omega)
    unfold ixFrom at hK
    refine brP_i (fun h1 => ?_) (fun h1 => ⟨by unfold I64; omega, ?_⟩)
    · rw [if_pos h1] at hK; exact hK
    · rw [if_neg (by rw [h1]; decide)] at hK
      exact ixr_all hn hs K j (k + 1) (by omega) hK
attribute [local irreducible] fnP in
theorem slices_IndexFunc___outrider_config_Service_outrider_config_Service__p : ∀ args H K, ixsRow args H K → fnP Try.prog Tgt15 ann_slices_IndexFunc___outrider_config_Service_outrider_config_Service_ Try.f74 args H K := by
  intro args H K h
  unfold ixsRow at h
  split at h
  · rename_i n f pr src dst port dest
    obtain ⟨⟨l, rfl, rfl, hl⟩, hK⟩ := h
    rw [svsOf_of] at hK
    rw [ixs_eq]
    exact ⟨_, ixs_all hl.1 _ l.length 0 (by omega) hK⟩
  · rename_i n f src dst pr ttl bd
    obtain ⟨⟨l, rfl, rfl, hl⟩, hK⟩ := h
    rw [svsOf_of] at hK
    rw [ixr_eq]
    exact ⟨_, ixr_all hl.1 hl.2 _ l.length 0 (by omega) hK⟩
  · exact h.elim
def Tgt16 : Specs := ext Tgt15 74 (ixsRow)
theorem Tgt16_sound : TSound Try.prog Tgt16 := ext_sound Tgt15_sound (row_of Tgt15_sound mixed Try.func74 (by decide +kernel) slices_IndexFunc___outrider_config_Service_outrider_config_Service__p)
def ann_slices_ContainsFunc___outrider_config_Service_outrider_config_Service_ : Nat → List Nat × Nat × List (List Nat)
  | _ => ([], 0, [])
def Tgt17 : Specs := ext Tgt16 48 (fnP Try.prog Tgt16 ann_slices_ContainsFunc___outrider_config_Service_outrider_config_Service_ Try.f48)
theorem Tgt17_sound : TSound Try.prog Tgt17 := ext_sound Tgt16_sound (fn_row Tgt16_sound mixed Try.func48 (by decide +kernel))
def ann___outrider_admit_gate__service : Nat → List Nat × Nat × List (List Nat)
  | _ => ([], 0, [])
def Tgt18 : Specs := ext Tgt17 45 (fnP Try.prog Tgt17 ann___outrider_admit_gate__service Try.f45)
theorem Tgt18_sound : TSound Try.prog Tgt18 := ext_sound Tgt17_sound (fn_row Tgt17_sound mixed Try.func45 (by decide +kernel))
set_option maxRecDepth 100000 in
theorem port_eq (s : SvV) (k : Int) (K : AVal → Hp → Prop) : fnP Try.prog Tgt18 ann_admit_Port Try.f9 [.agg (svCells s), .int .i64 k] [] K = (
 brP (decide (k < (0 : Int)) || decide ((↑(List.length s.bks) : Int) ≤ k)) (K (.int .i64 0) []) (((0 : Int) ≤ k ∧ k < (↑(List.length s.bks) : Int)) ∧ brP (!decide ((List.getD s.bks (Int.toNat k) bk0).port = (0 : Int))) (((0 : Int) ≤ k ∧ k < (↑(List.length s.bks) : Int)) ∧ K (.int .i64 (List.getD s.bks (Int.toNat k) bk0).port) []) (K (.int .i64 s.port) []))) := by kernel_rfl
attribute [local irreducible] fnP in
theorem admit_Port_p : ∀ args H K, portRow args H K → fnP Try.prog Tgt18 ann_admit_Port Try.f9 args H K := by
  intro args H K h
  unfold portRow at h
  split at h
  · rename_i nm vip proto port mode sched rise fall probe n f k
    obtain ⟨⟨l, rfl, rfl, hl, hp⟩, hK⟩ := h
    rw [bksOf_of] at hK
    have e := port_eq ⟨nm, vip, proto, port, mode, sched, rise, fall, probe, l⟩ k K
    unfold svCells at e
    rw [e]
    unfold portB at hK
    simp only at hK ⊢
    refine brP_i (fun h1 => ?_) (fun h1 => ?_) <;> simp only [Bool.and_eq_true, Bool.or_eq_true, Bool.and_eq_false_iff, Bool.or_eq_false_iff, decide_eq_true_eq, decide_eq_false_iff_not, Bool.not_eq_true', Bool.not_eq_false', Bool.not_true, Bool.not_false, Bool.true_and, Bool.and_true, Bool.false_or, Bool.or_false, beq_iff_eq, beq_eq_false_iff_ne, ne_eq] at h1
    · rw [if_pos h1] at hK; exact hK
    · rw [if_neg (by omega)] at hK
      refine ⟨by omega, brP_nd (fun h2 => ⟨by omega, ?_⟩) (fun h2 => ?_)⟩
      · rw [if_neg h2] at hK; exact hK
      · rw [if_pos h2] at hK; exact hK
  · exact h.elim
def Tgt19 : Specs := ext Tgt18 9 (portRow)
theorem Tgt19_sound : TSound Try.prog Tgt19 := ext_sound Tgt18_sound (row_of Tgt18_sound mixed Try.func9 (by decide +kernel) admit_Port_p)
def ann___outrider_admit_gate__advert : Nat → List Nat × Nat × List (List Nat)
  | 6 => ([], 8, [[], [0], [], [2], [2, 3], [2, 3, 4], [2, 3, 4, 5], [0, 1, 2, 3, 4, 5, 6]])
  | 8 => ([], 12, [[], [0], [0, 1], [0, 1, 2], [0, 1, 2, 3], [0, 1, 2, 3, 4], [], [6], [6, 7], [6, 7, 8], [6, 7, 8, 9], [0, 1, 2, 3, 4, 5, 6, 7, 8, 9, 10]])
  | _ => ([], 0, [])
def Tgt20 : Specs := ext Tgt19 21 (fnP Try.prog Tgt19 ann___outrider_admit_gate__advert Try.f21)
theorem Tgt20_sound : TSound Try.prog Tgt20 := ext_sound Tgt19_sound (fn_row Tgt19_sound mixed Try.func21 (by decide +kernel))
def ann___outrider_admit_gate__sync : Nat → List Nat × Nat × List (List Nat)
  | 2 => ([], 23, [[], [0], [], [2], [2, 3], [2, 3, 4], [2, 3, 4, 5], [0, 1, 2, 3, 4, 5, 6], [0, 1, 2, 3, 4, 5, 6, 7], [0, 1, 2, 3, 4, 5, 6, 7, 8], [0, 1, 2, 3, 4, 5, 6, 7, 8, 9], [0, 1, 2, 3, 4, 5, 6, 7, 8], [0, 1, 2, 3, 4, 5, 6, 7, 8, 11], [0, 1, 2, 3, 4, 5, 6, 7, 8, 11, 12], [0, 1, 2, 3, 4, 5, 6, 7, 8, 11, 12, 13], [0, 1, 2, 3, 4, 5, 6, 7, 8, 11, 12, 13, 14], [0, 1, 2, 3, 4, 5, 6, 7, 8, 9, 10, 11, 12, 13, 14, 15], [0, 1, 2, 3, 4, 5, 6, 7, 8, 9, 10, 11, 12, 13, 14, 15, 16], [0, 1, 2, 3, 4, 5, 6, 7, 8, 9, 10, 11, 12, 13, 14, 15, 16, 17], [0, 1, 2, 3, 4, 5, 6, 7, 8, 9, 10, 11, 12, 13, 14, 15, 16, 17, 18], [0, 1, 2, 3, 4, 5, 6, 7, 8, 9, 10, 11, 12, 13, 14, 15, 16, 17, 18, 19], [0, 1, 2, 3, 4, 5, 6, 7, 8, 9, 10, 11, 12, 13, 14, 15, 16, 17, 18, 19, 20], [0, 1, 2, 3, 4, 5, 6, 7, 8, 9, 10, 11, 12, 13, 14, 15, 16, 17, 18, 19, 20, 21]])
  | 2000002 => ([], 24, [[], [0], [], [2], [2, 3], [2, 3, 4], [2, 3, 4, 5], [0, 1, 2, 3, 4, 5, 6], [0, 1, 2, 3, 4, 5, 6, 7], [0, 1, 2, 3, 4, 5, 6, 7, 8], [0, 1, 2, 3, 4, 5, 6, 7, 8, 9], [0, 1, 2, 3, 4, 5, 6, 7, 8], [0, 1, 2, 3, 4, 5, 6, 7, 8, 11], [0, 1, 2, 3, 4, 5, 6, 7, 8, 11, 12], [0, 1, 2, 3, 4, 5, 6, 7, 8, 11, 12, 13], [0, 1, 2, 3, 4, 5, 6, 7, 8, 11, 12, 13, 14], [0, 1, 2, 3, 4, 5, 6, 7, 8, 9, 10, 11, 12, 13, 14, 15], [0, 1, 2, 3, 4, 5, 6, 7, 8, 9, 10, 11, 12, 13, 14, 15, 16], [0, 1, 2, 3, 4, 5, 6, 7, 8, 9, 10, 11, 12, 13, 14, 15, 16, 17], [0, 1, 2, 3, 4, 5, 6, 7, 8, 9, 10, 11, 12, 13, 14, 15, 16, 17, 18], [0, 1, 2, 3, 4, 5, 6, 7, 8, 9, 10, 11, 12, 13, 14, 15, 16, 17, 18, 19], [0, 1, 2, 3, 4, 5, 6, 7, 8, 9, 10, 11, 12, 13, 14, 15, 16, 17, 18, 19, 20], [0, 1, 2, 3, 4, 5, 6, 7, 8, 9, 10, 11, 12, 13, 14, 15, 16, 17, 18, 19, 20, 21]])
  | _ => ([], 0, [])
def Tgt21 : Specs := ext Tgt20 22 (fnP Try.prog Tgt20 ann___outrider_admit_gate__sync Try.f22)
theorem Tgt21_sound : TSound Try.prog Tgt21 := ext_sound Tgt20_sound (fn_row Tgt20_sound mixed Try.func22 (by decide +kernel))
def ann___outrider_admit_gate__quoted : Nat → List Nat × Nat × List (List Nat)
  | 6 => ([], 13, [[], [0], [], [2], [2, 3], [2, 3, 4], [2, 3, 4, 5], [2, 3, 4, 5, 6], [0, 1, 2, 3, 4, 5, 6, 7], [0, 1, 2, 3, 4, 5, 6, 7, 8], [0, 1, 2, 3, 4, 5, 6, 7, 8, 9], [0, 1, 2, 3, 4, 5, 6, 7, 8, 9, 10], [0, 1, 2, 3, 4, 5, 6, 7, 8, 9, 10, 11]])
  | 2000006 => ([], 14, [[], [0], [], [2], [2, 3], [2, 3, 4], [2, 3, 4, 5], [2, 3, 4, 5, 6], [0, 1, 2, 3, 4, 5, 6, 7], [0, 1, 2, 3, 4, 5, 6, 7, 8], [0, 1, 2, 3, 4, 5, 6, 7, 8, 9], [0, 1, 2, 3, 4, 5, 6, 7, 8, 9, 10], [0, 1, 2, 3, 4, 5, 6, 7, 8, 9, 10, 11]])
  | _ => ([], 0, [])
def Tgt22 : Specs := ext Tgt21 43 (fnP Try.prog Tgt21 ann___outrider_admit_gate__quoted Try.f43)
theorem Tgt22_sound : TSound Try.prog Tgt22 := ext_sound Tgt21_sound (fn_row Tgt21_sound mixed Try.func43 (by decide +kernel))
def ann___outrider_admit_gate__client : Nat → List Nat × Nat × List (List Nat)
  | 2 => ([], 9, [[], [0], [0, 1], [0, 1, 2], [0, 1, 2, 3], [], [5], [0, 1, 2, 3, 4, 5, 6], [0, 1, 2, 3, 4, 5, 6, 7]])
  | 15 => ([], 18, [[10, 14], [], [], [], [], [], [4], [], [0, 3], [0, 3, 7], [0, 3, 7, 8], [0, 3, 7, 8, 9], [0, 1, 3, 4, 5, 7, 8, 9, 10], [0, 1, 3, 4, 5, 7, 8, 9, 10, 11], [0, 1, 3, 4, 5, 7, 8, 9, 10, 11, 12], [0, 1, 2, 3, 4, 5, 6, 7, 8, 9, 10, 11, 12, 13], [0, 1, 2, 3, 4, 5, 6, 7, 8, 9, 10, 11, 12, 13, 14], [0, 1, 2, 3, 4, 5, 6, 7, 8, 9, 10, 11, 12, 13, 14, 15], [0, 1, 2, 3, 4, 5, 6, 7, 8, 9, 10, 11, 12, 13, 14, 15, 16]])
  | 3000015 => ([14], 0, [])
  | _ => ([], 0, [])
def Tgt23 : Specs := ext Tgt22 23 (fnP Try.prog Tgt22 ann___outrider_admit_gate__client Try.f23)
theorem Tgt23_sound : TSound Try.prog Tgt23 := ext_sound Tgt22_sound (fn_row Tgt22_sound mixed Try.func23 (by decide +kernel))
abbrev Tgt : Specs := Tgt23
theorem Tgt_sound : TSound Try.prog Tgt := Tgt23_sound
end Go.Proofs.Ytnbbaemijogeoaa.Ae

set_option linter.unusedSimpArgs false
set_option linter.unusedVariables false
set_option maxRecDepth 100000
namespace Go.Proofs.Ytnbbaemijogeoaa.Ae
open Go
def doneCells (cs : List AVal) (x : RpV) : List AVal := cs.take 16 ++ (.int .i64 5 :: ((cs.take 51).drop 17 ++ [.int .i64 x.fl.proto, .str x.fl.src, .str x.fl.dst, .int .i64 x.fl.port, .int .i64 x.fl.dest, .int .i64 x.flags, .int .i64 x.svc, .int .i64 x.bk]))
def dropCells (cs : List AVal) (e : Int) : List AVal := cs.take 16 ++ [.int .i64 0, .int .i64 e, .byte 0, .byte 0, .byte 0, .byte 0, .byte 0, .byte 0, .byte 0, .byte 0, .byte 0, .byte 0, .byte 0, .byte 0, .int .i64 0, .str [], .int .i64 0, .byte 0, .byte 0, .byte 0, .byte 0, .byte 0, .byte 0, .str [], .str [], .bool false, .int .i64 0, .int .i64 0, .int .i64 0, .nilS, .str [], .str [], .int .i64 0, .int .i64 0, .str [], .int .i64 0, .str [], .str [], .int .i64 0, .int .i64 0, .int .i64 0, .int .i64 0, .int .i64 0]
def nthC : List AVal → Nat → AVal
  | [], _ => .undef
  | x :: _, 0 => x
  | _ :: r, n + 1 => nthC r n
end Go.Proofs.Ytnbbaemijogeoaa.Ae
namespace Go.Proofs.Ytnbbaemijogeoaa
open Go Ae
def cfOf (cs : List AVal) : CfV := ⟨⟨cByte (nthC cs 0), cByte (nthC cs 1), cByte (nthC cs 2), cByte (nthC cs 3), cByte (nthC cs 4), cByte (nthC cs 5)⟩, cStr (nthC cs 6), cStr (nthC cs 7), cInt (nthC cs 8), cInt (nthC cs 9), cInt (nthC cs 10), cBool (nthC cs 11), strsV (nthC cs 12), trsV (nthC cs 13), svsV (nthC cs 14)⟩
theorem cfOf_of (c : CfV) : cfOf (cfCells c) = c := by
  obtain ⟨mac, addr, peer, id, pri, every, pre, vips, trs, svs⟩ := c
  have e1 := svsOf_of svs
  have e2 := strs_of vips
  have e3 : (List.range trs.length).map (trAt (trF trs)) = trs := map_range trs tr0 _ fun i => rfl
  show CfV.mk mac addr peer id pri every pre (strs vips.length (fun i => [.str (vips.getD i [])])) ((List.range trs.length).map (trAt (trF trs))) (svsOf svs.length (svF svs)) = _
  rw [e1, e2, e3]
def IsGt (cs : List AVal) : Prop := ∃ c m f p, cs = gateCells c m f p ∧ CfOk c ∧ p.body.length ≤ 140737488351232 ∧ f.body.length ≤ 140737488351232
end Go.Proofs.Ytnbbaemijogeoaa
namespace Go.Proofs.Ytnbbaemijogeoaa.Ae
open Go
def replyRow : Srow := fun args H K => match args, H with
  | [.ptr 0 0], [.vals cs] => IsGt cs ∧ optP (rpO (svsV (nthC cs 14)) (cBool (nthC cs 15)) ⟨cStr (nthC cs 46), cStr (nthC cs 47), cInt (nthC cs 48), cInt (nthC cs 49), cStr (nthC cs 50)⟩)
      (fun x => brP (decide (x.why = 0)) (K (.bool true) [.vals (doneCells cs x)]) (K (.bool true) [.vals (dropCells cs x.why)])) (K (.bool false) [.vals cs])
  | _, _ => False
def ann___outrider_admit_gate__reply : Nat → List Nat × Nat × List (List Nat)
  | 11 => ([0, 3, 4, 5, 52, 53, 54], 0, [])
  | 15 => ([0, 3, 4, 5, 7, 8, 52, 53, 54, 64, 65, 66], 0, [])
  | 17 => ([], 13, [[], [0], [], [2], [0, 1, 2, 3], [0, 1, 2, 3, 4], [0, 1, 2, 3, 4, 5], [0, 1, 2, 3, 4, 5], [0, 1, 2, 3, 4, 5, 6, 7], [0, 1, 2, 3, 4, 5], [0, 1, 2, 3, 4, 5, 9], [0, 1, 2, 3, 4, 5, 6, 7, 8, 9, 10], [0, 1, 2, 3, 4, 5, 6, 7, 8, 9, 10, 11]])
  | 18 => ([], 18, [[10, 14], [], [], [], [], [], [], [5], [0, 3], [0, 3, 7], [0, 3, 7, 8], [0, 3, 7, 8, 9], [0, 1, 3, 4, 7, 8, 9, 10], [0, 1, 3, 4, 7, 8, 9, 10, 11], [0, 1, 3, 4, 7, 8, 9, 10, 11, 12], [0, 1, 3, 4, 7, 8, 9, 10, 11, 12, 13], [0, 1, 2, 3, 4, 5, 6, 7, 8, 9, 10, 11, 12, 13, 14], [0, 1, 2, 3, 4, 5, 6, 7, 8, 9, 10, 11, 12, 13, 14, 15], [0, 1, 2, 3, 4, 5, 6, 7, 8, 9, 10, 11, 12, 13, 14, 15, 16]])
  | _ => ([], 0, [])
noncomputable abbrev ro_lp_X : Cx := ⟨Try.prog, Tgt, Try.f24.ntmps, 1, ann___outrider_admit_gate__reply⟩
noncomputable def ro_lp_c : Code := cAt [.r, .b, .r, .r, .r, .r, .r, .r, .l, .r, .b] (bodyOf Try.f24)
noncomputable def ro_lp_k (K : AVal → Hp → Prop) : Post := kAt ro_lp_X [.r, .b, .r, .r, .r, .r, .r, .r, .l, .r, .b] (bodyOf Try.f24) (fnK Try.prog 1 Try.f24.results.toList K)
def ro_lp_n (K : AVal → Hp → Prop) (n : Nat) (s : St) : Prop := loopP (awp ro_lp_X (loopB ro_lp_c)) 1 [0, 3, 4, 5, 52, 53, 54] n s (ro_lp_k K)
def ro_lp (K : AVal → Hp → Prop) (s : St) : Prop := ∃ n, ro_lp_n K n s
def ro_lp_b (K : AVal → Hp → Prop) (J : St → Prop) (s : St) : Prop := awp ro_lp_X (loopB ro_lp_c) s (seqK (fun s' => normK 1 [0, 3, 4, 5, 52, 53, 54] s' J) (ro_lp_k K))
theorem ro_lp_next {K : AVal → Hp → Prop} {n : Nat} {s : St} (h : ro_lp_b K (fun s' => ro_lp_n K n s') s) : ro_lp_n K (n + 1) s := h
noncomputable abbrev ri_lp_X : Cx := ⟨Try.prog, Tgt, Try.f24.ntmps, 1, ann___outrider_admit_gate__reply⟩
noncomputable def ri_lp_c : Code := cAt [.r, .r, .l, .b, .r, .r, .r, .b] (loopB ro_lp_c)
noncomputable def ri_lp_k (I : St → Prop) (K : AVal → Hp → Prop) : Post := kAt ri_lp_X [.r, .r, .l, .b, .r, .r, .r, .b] (loopB ro_lp_c) (seqK (fun s' => normK 1 [0, 3, 4, 5, 52, 53, 54] s' I) (ro_lp_k K))
def ri_lp_n (I : St → Prop) (K : AVal → Hp → Prop) (n : Nat) (s : St) : Prop := loopP (awp ri_lp_X (loopB ri_lp_c)) 1 [0, 3, 4, 5, 7, 8, 52, 53, 54, 64, 65, 66] n s (ri_lp_k I K)
def ri_lp (I : St → Prop) (K : AVal → Hp → Prop) (s : St) : Prop := ∃ n, ri_lp_n I K n s
def ri_lp_b (I : St → Prop) (K : AVal → Hp → Prop) (J : St → Prop) (s : St) : Prop := awp ri_lp_X (loopB ri_lp_c) s (seqK (fun s' => normK 1 [0, 3, 4, 5, 7, 8, 52, 53, 54, 64, 65, 66] s' J) (ri_lp_k I K))
theorem ri_lp_next {I : St → Prop} {K : AVal → Hp → Prop} {n : Nat} {s : St} (h : ri_lp_b I K (fun s' => ri_lp_n I K n s') s) : ri_lp_n I K (n + 1) s := h
set_option maxRecDepth 100000 in
theorem reply_eq (c : CfV) (m : Bool) (f : Fm) (p : Ip) (K : AVal → Hp → Prop) : fnP Try.prog Tgt ann___outrider_admit_gate__reply Try.f24 [.ptr 0 0] [.vals (gateCells c m f p)] K = (
 brP (!(decide (p.proto = (6 : Int)) || decide (p.proto = (17 : Int)))) (K (.bool false) [.vals [.byte c.mac.a0, .byte c.mac.a1, .byte c.mac.a2, .byte c.mac.a3, .byte c.mac.a4, .byte c.mac.a5, .str c.addr, .str c.peer, .int .i64 c.id, .int .i64 c.pri, .int .i64 c.every, .bool c.pre, .ro (List.length c.vips) (1 : Nat) fun i => [.str (List.getD c.vips i [])], .ro (List.length c.trs) (2 : Nat) (trF c.trs), .ro (List.length c.svs) (10 : Nat) (svF c.svs), .bool m, .int .i64 0, .int .i64 0, .byte f.a.a0, .byte f.a.a1, .byte f.a.a2, .byte f.a.a3, .byte f.a.a4, .byte f.a.a5, .byte f.b.a0, .byte f.b.a1, .byte f.b.a2, .byte f.b.a3, .byte f.b.a4, .byte f.b.a5, .int .i64 f.ty, .str f.body, .int .i64 0, .byte 0, .byte 0, .byte 0, .byte 0, .byte 0, .byte 0, .str [], .str [], .bool false, .int .i64 0, .int .i64 0, .int .i64 0, .nilS, .str p.src, .str p.dst, .int .i64 p.proto, .int .i64 p.ttl, .str p.body, .int .i64 0, .str [], .str [], .int .i64 0, .int .i64 0, .int .i64 0, .int .i64 0, .int .i64 0]]) (IsSvs (List.length c.svs) (svF c.svs) ∧ brP (!decide ((0 : Int) ≤ ofIx (svsOf (List.length c.svs) (svF c.svs)) (Ip.mk p.src p.dst p.proto p.ttl p.body))) (K (.bool false) [.vals [.byte c.mac.a0, .byte c.mac.a1, .byte c.mac.a2, .byte c.mac.a3, .byte c.mac.a4, .byte c.mac.a5, .str c.addr, .str c.peer, .int .i64 c.id, .int .i64 c.pri, .int .i64 c.every, .bool c.pre, .ro (List.length c.vips) (1 : Nat) fun i => [.str (List.getD c.vips i [])], .ro (List.length c.trs) (2 : Nat) (trF c.trs), .ro (List.length c.svs) (10 : Nat) (svF c.svs), .bool m, .int .i64 0, .int .i64 0, .byte f.a.a0, .byte f.a.a1, .byte f.a.a2, .byte f.a.a3, .byte f.a.a4, .byte f.a.a5, .byte f.b.a0, .byte f.b.a1, .byte f.b.a2, .byte f.b.a3, .byte f.b.a4, .byte f.b.a5, .int .i64 f.ty, .str f.body, .int .i64 0, .byte 0, .byte 0, .byte 0, .byte 0, .byte 0, .byte 0, .str [], .str [], .bool false, .int .i64 0, .int .i64 0, .int .i64 0, .nilS, .str p.src, .str p.dst, .int .i64 p.proto,
 .int .i64 p.ttl, .str p.body, .int .i64 0, .str [], .str [], .int .i64 0, .int .i64 0, .int .i64 0, .int .i64 0, .int .i64 0]]) (brP (!m) (K (.bool true) [.vals [.byte c.mac.a0, .byte c.mac.a1, .byte c.mac.a2, .byte c.mac.a3, .byte c.mac.a4, .byte c.mac.a5, .str c.addr, .str c.peer, .int .i64 c.id, .int .i64 c.pri, .int .i64 c.every, .bool c.pre, .ro (List.length c.vips) (1 : Nat) fun i => [.str (List.getD c.vips i [])], .ro (List.length c.trs) (2 : Nat) (trF c.trs), .ro (List.length c.svs) (10 : Nat) (svF c.svs), .bool m, .int .i64 0, .int .i64 201, .byte 0, .byte 0, .byte 0, .byte 0, .byte 0, .byte 0, .byte 0, .byte 0, .byte 0, .byte 0, .byte 0, .byte 0, .int .i64 0, .str [], .int .i64 0, .byte 0, .byte 0, .byte 0, .byte 0, .byte 0, .byte 0, .str [], .str [], .bool false, .int .i64 0, .int .i64 0, .int .i64 0, .nilS, .str [], .str [], .int .i64 0, .int .i64 0, .str [], .int .i64 0, .str [], .str [], .int .i64 0, .int .i64 0, .int .i64 0, .int .i64 0, .int .i64 0]]) (List.length p.body ≤ (140737488351232 : Nat) ∧ brP (decide ((ptRead (Ip.mk p.src p.dst p.proto p.ttl p.body)).snd = (0 : Int))) (ro_lp K (St.mk [(0, .ptr 0 0), (3, .ptr 1 0), (4, .fn 46 [] [.ptr 1 0]), (5, .ptr 2 0), (52, .ro (List.length c.svs) (10 : Nat) (svF c.svs)), (53, .int .i64 (↑(List.length c.svs) : Int)), (54, .int .i64 0)] [.vals [.byte c.mac.a0, .byte c.mac.a1, .byte c.mac.a2, .byte c.mac.a3, .byte c.mac.a4, .byte c.mac.a5, .str c.addr, .str c.peer, .int .i64 c.id, .int .i64 c.pri, .int .i64 c.every, .bool c.pre, .ro (List.length c.vips) (1 : Nat) fun i => [.str (List.getD c.vips i [])], .ro (List.length c.trs) (2 : Nat) (trF c.trs), .ro (List.length c.svs) (10 : Nat) (svF c.svs), .bool m, .int .i64 0, .int .i64 0, .byte f.a.a0, .byte f.a.a1, .byte f.a.a2, .byte f.a.a3, .byte f.a.a4, .byte f.a.a5, .byte f.b.a0, .byte f.b.a1, .byte f.b.a2, .byte f.b.a3, .byte f.b.a4, .byte f.b.a5, .int .i64 f.ty, .str f.body, .int .i64 0, .byte 0, .byte 0, .byte 0, .byte 0, .byte 0,
 .byte 0, .str [], .str [], .bool false, .int .i64 0, .int .i64 0, .int .i64 0, .nilS, .str p.src, .str p.dst, .int .i64 p.proto, .int .i64 p.ttl, .str p.body, .int .i64 0, .str [], .str [], .int .i64 0, .int .i64 0, .int .i64 0, .int .i64 0, .int .i64 0], .vals [.str p.src, .str p.dst, .int .i64 p.proto, .int .i64 p.ttl, .str p.body], .vals [.int .i64 (ptRead (Ip.mk p.src p.dst p.proto p.ttl p.body)).fst.proto, .int .i64 (ptRead (Ip.mk p.src p.dst p.proto p.ttl p.body)).fst.src, .int .i64 (ptRead (Ip.mk p.src p.dst p.proto p.ttl p.body)).fst.dst, .int .i64 (ptRead (Ip.mk p.src p.dst p.proto p.ttl p.body)).fst.flags, .int .i64 (ptRead (Ip.mk p.src p.dst p.proto p.ttl p.body)).fst.at']])) (K (.bool true) [.vals [.byte c.mac.a0, .byte c.mac.a1, .byte c.mac.a2, .byte c.mac.a3, .byte c.mac.a4, .byte c.mac.a5, .str c.addr, .str c.peer, .int .i64 c.id, .int .i64 c.pri, .int .i64 c.every, .bool c.pre, .ro (List.length c.vips) (1 : Nat) fun i => [.str (List.getD c.vips i [])], .ro (List.length c.trs) (2 : Nat) (trF c.trs), .ro (List.length c.svs) (10 : Nat) (svF c.svs), .bool m, .int .i64 0, .int .i64 (ptRead (Ip.mk p.src p.dst p.proto p.ttl p.body)).snd, .byte 0, .byte 0, .byte 0, .byte 0, .byte 0, .byte 0, .byte 0, .byte 0, .byte 0, .byte 0, .byte 0, .byte 0, .int .i64 0, .str [], .int .i64 0, .byte 0, .byte 0, .byte 0, .byte 0, .byte 0, .byte 0, .str [], .str [], .bool false, .int .i64 0, .int .i64 0, .int .i64 0, .nilS, .str [], .str [], .int .i64 0, .int .i64 0, .str [], .int .i64 0, .str [], .str [], .int .i64 0, .int .i64 0, .int .i64 0, .int .i64 0, .int .i64 0]]))))) := by kernel_rfl
set_option maxRecDepth 100000 in
theorem ro_lp_step (c : CfV) (m : Bool) (f : Fm) (p : Ip) (h : Hd) (l : List SvV) (z k : Int) (K : AVal → Hp → Prop) (J : St → Prop) : ro_lp_b K J (St.mk [(0, .ptr 0 0), (3, .ptr 1 0), (4, .fn 46 [] [.ptr 1 0]), (5, .ptr 2 0), (52, .ro l.length 10 (svF l)), (53, .int .i64 z), (54, .int .i64 k)] [.vals (gateCells c m f p), .vals (ipV p), .vals (hdV h)]) = (
 brP (decide (k < z)) (((0 : Int) ≤ k ∧ k < (↑(List.length l) : Int)) ∧ IsBks (List.length (List.getD l (Int.toNat k) sv0).bks) (bkF (List.getD l (Int.toNat k) sv0).bks) ∧ brP (!ansB (SvV.mk (List.getD l (Int.toNat k) sv0).name (List.getD l (Int.toNat k) sv0).vip (List.getD l (Int.toNat k) sv0).proto (List.getD l (Int.toNat k) sv0).port (List.getD l (Int.toNat k) sv0).mode (List.getD l (Int.toNat k) sv0).sched (List.getD l (Int.toNat k) sv0).rise (List.getD l (Int.toNat k) sv0).fall (List.getD l (Int.toNat k) sv0).probe (bksOf (List.length (List.getD l (Int.toNat k) sv0).bks) (bkF (List.getD l (Int.toNat k) sv0).bks))) (Ip.mk p.src p.dst p.proto p.ttl p.body)) (I64 (k + (1 : Int)) ∧ J (St.mk [(0, .ptr 0 0), (3, .ptr 1 0), (4, .fn 46 [] [.ptr 1 0]), (5, .ptr 2 0), (52, .ro (List.length l) (10 : Nat) (svF l)), (53, .int .i64 z), (54, .int .i64 (k + (1 : Int)))] [.vals [.byte c.mac.a0, .byte c.mac.a1, .byte c.mac.a2, .byte c.mac.a3, .byte c.mac.a4, .byte c.mac.a5, .str c.addr, .str c.peer, .int .i64 c.id, .int .i64 c.pri, .int .i64 c.every, .bool c.pre, .ro (List.length c.vips) (1 : Nat) fun i => [.str (List.getD c.vips i [])], .ro (List.length c.trs) (2 : Nat) (trF c.trs), .ro (List.length c.svs) (10 : Nat) (svF c.svs), .bool m, .int .i64 0, .int .i64 0, .byte f.a.a0, .byte f.a.a1, .byte f.a.a2, .byte f.a.a3, .byte f.a.a4, .byte f.a.a5, .byte f.b.a0, .byte f.b.a1, .byte f.b.a2, .byte f.b.a3, .byte f.b.a4, .byte f.b.a5, .int .i64 f.ty, .str f.body, .int .i64 0, .byte 0, .byte 0, .byte 0, .byte 0, .byte 0, .byte 0, .str [], .str [], .bool false, .int .i64 0, .int .i64 0, .int .i64 0, .nilS, .str p.src, .str p.dst, .int .i64 p.proto, .int .i64 p.ttl, .str p.body, .int .i64 0, .str [], .str [], .int .i64 0, .int .i64 0, .int .i64 0, .int .i64 0, .int .i64 0], .vals [.str p.src, .str p.dst, .int .i64 p.proto, .int .i64 p.ttl, .str p.body], .vals [.int .i64 h.proto, .int .i64 h.src, .int .i64 h.dst, .int .i64 h.flags, .int .i64 h.at']])) (ri_lp J K (St.mk
 [(0, .ptr 0 0), (3, .ptr 1 0), (4, .fn 46 [] [.ptr 1 0]), (5, .ptr 2 0), (7, .int .i64 k), (8, .ptr 3 0), (52, .ro (List.length l) (10 : Nat) (svF l)), (53, .int .i64 z), (54, .int .i64 k), ((64 : Nat), .ro (List.length (List.getD l (Int.toNat k) sv0).bks) (10 : Nat) (bkF (List.getD l (Int.toNat k) sv0).bks)), (65, .int .i64 (↑(List.length (List.getD l (Int.toNat k) sv0).bks) : Int)), (66, .int .i64 0)] [.vals [.byte c.mac.a0, .byte c.mac.a1, .byte c.mac.a2, .byte c.mac.a3, .byte c.mac.a4, .byte c.mac.a5, .str c.addr, .str c.peer, .int .i64 c.id, .int .i64 c.pri, .int .i64 c.every, .bool c.pre, .ro (List.length c.vips) (1 : Nat) fun i => [.str (List.getD c.vips i [])], .ro (List.length c.trs) (2 : Nat) (trF c.trs), .ro (List.length c.svs) (10 : Nat) (svF c.svs), .bool m, .int .i64 0, .int .i64 0, .byte f.a.a0, .byte f.a.a1, .byte f.a.a2, .byte f.a.a3, .byte f.a.a4, .byte f.a.a5, .byte f.b.a0, .byte f.b.a1, .byte f.b.a2, .byte f.b.a3, .byte f.b.a4, .byte f.b.a5, .int .i64 f.ty, .str f.body, .int .i64 0, .byte 0, .byte 0, .byte 0, .byte 0, .byte 0, .byte 0, .str [], .str [], .bool false, .int .i64 0, .int .i64 0, .int .i64 0, .nilS, .str p.src, .str p.dst, .int .i64 p.proto, .int .i64 p.ttl, .str p.body, .int .i64 0, .str [], .str [], .int .i64 0, .int .i64 0, .int .i64 0, .int .i64 0, .int .i64 0], .vals [.str p.src, .str p.dst, .int .i64 p.proto, .int .i64 p.ttl, .str p.body], .vals [.int .i64 h.proto, .int .i64 h.src, .int .i64 h.dst, .int .i64 h.flags, .int .i64 h.at'], .vals [.str (List.getD l (Int.toNat k) sv0).name, .str (List.getD l (Int.toNat k) sv0).vip, .int .i64 (List.getD l (Int.toNat k) sv0).proto, .int .i64 (List.getD l (Int.toNat k) sv0).port, .int .i64 (List.getD l (Int.toNat k) sv0).mode, .int .i64 (List.getD l (Int.toNat k) sv0).sched, .int .i64 (List.getD l (Int.toNat k) sv0).rise, .int .i64 (List.getD l (Int.toNat k) sv0).fall, .int .i64 (List.getD l (Int.toNat k) sv0).probe, .ro (List.length (List.getD l (Int.toNat k) sv0).bks) (10 : Nat)
 (bkF (List.getD l (Int.toNat k) sv0).bks)]]))) (K (.bool true) [.vals [.byte c.mac.a0, .byte c.mac.a1, .byte c.mac.a2, .byte c.mac.a3, .byte c.mac.a4, .byte c.mac.a5, .str c.addr, .str c.peer, .int .i64 c.id, .int .i64 c.pri, .int .i64 c.every, .bool c.pre, .ro (List.length c.vips) (1 : Nat) fun i => [.str (List.getD c.vips i [])], .ro (List.length c.trs) (2 : Nat) (trF c.trs), .ro (List.length c.svs) (10 : Nat) (svF c.svs), .bool m, .int .i64 0, .int .i64 202, .byte 0, .byte 0, .byte 0, .byte 0, .byte 0, .byte 0, .byte 0, .byte 0, .byte 0, .byte 0, .byte 0, .byte 0, .int .i64 0, .str [], .int .i64 0, .byte 0, .byte 0, .byte 0, .byte 0, .byte 0, .byte 0, .str [], .str [], .bool false, .int .i64 0, .int .i64 0, .int .i64 0, .nilS, .str [], .str [], .int .i64 0, .int .i64 0, .str [], .int .i64 0, .str [], .str [], .int .i64 0, .int .i64 0, .int .i64 0, .int .i64 0, .int .i64 0]])) := by kernel_rfl
set_option maxRecDepth 100000 in
theorem ri_lp_step (c : CfV) (m : Bool) (f : Fm) (p : Ip) (h : Hd) (l : List SvV) (s : SvV) (z k y j : Int) (I : St → Prop) (K : AVal → Hp → Prop) (J : St → Prop) : ri_lp_b I K J (St.mk [(0, .ptr 0 0), (3, .ptr 1 0), (4, .fn 46 [] [.ptr 1 0]), (5, .ptr 2 0), (7, .int .i64 k), (8, .ptr 3 0), (52, .ro l.length 10 (svF l)), (53, .int .i64 z), (54, .int .i64 k), (64, .ro s.bks.length 10 (bkF s.bks)), (65, .int .i64 y), (66, .int .i64 j)] [.vals (gateCells c m f p), .vals (ipV p), .vals (hdV h), .vals (svCells s)]) = (
 brP (decide (j < y)) (((0 : Int) ≤ j ∧ j < (↑(List.length s.bks) : Int)) ∧ brP (!decide ((List.getD s.bks (Int.toNat j) bk0).addr = p.src)) (I64 (j + (1 : Int)) ∧ J (St.mk [(0, .ptr 0 0), (3, .ptr 1 0), (4, .fn 46 [] [.ptr 1 0]), (5, .ptr 2 0), (7, .int .i64 k), (8, .ptr 3 0), (52, .ro (List.length l) (10 : Nat) (svF l)), (53, .int .i64 z), (54, .int .i64 k), (64, .ro (List.length s.bks) (10 : Nat) (bkF s.bks)), (65, .int .i64 y), (66, .int .i64 (j + (1 : Int)))] [.vals [.byte c.mac.a0, .byte c.mac.a1, .byte c.mac.a2, .byte c.mac.a3, .byte c.mac.a4, .byte c.mac.a5, .str c.addr, .str c.peer, .int .i64 c.id, .int .i64 c.pri, .int .i64 c.every, .bool c.pre, .ro (List.length c.vips) (1 : Nat) fun i => [.str (List.getD c.vips i [])], .ro (List.length c.trs) (2 : Nat) (trF c.trs), .ro (List.length c.svs) (10 : Nat) (svF c.svs), .bool m, .int .i64 0, .int .i64 0, .byte f.a.a0, .byte f.a.a1, .byte f.a.a2, .byte f.a.a3, .byte f.a.a4, .byte f.a.a5, .byte f.b.a0, .byte f.b.a1, .byte f.b.a2, .byte f.b.a3, .byte f.b.a4, .byte f.b.a5, .int .i64 f.ty, .str f.body, .int .i64 0, .byte 0, .byte 0, .byte 0, .byte 0, .byte 0, .byte 0, .str [], .str [], .bool false, .int .i64 0, .int .i64 0, .int .i64 0, .nilS, .str p.src, .str p.dst, .int .i64 p.proto, .int .i64 p.ttl, .str p.body, .int .i64 0, .str [], .str [], .int .i64 0, .int .i64 0, .int .i64 0, .int .i64 0, .int .i64 0], .vals [.str p.src, .str p.dst, .int .i64 p.proto, .int .i64 p.ttl, .str p.body], .vals [.int .i64 h.proto, .int .i64 h.src, .int .i64 h.dst, .int .i64 h.flags, .int .i64 h.at'], .vals [.str s.name, .str s.vip, .int .i64 s.proto, .int .i64 s.port, .int .i64 s.mode, .int .i64 s.sched, .int .i64 s.rise, .int .i64 s.fall, .int .i64 s.probe, .ro (List.length s.bks) (10 : Nat) (bkF s.bks)]])) (IsBks (List.length s.bks) (bkF s.bks) ∧ brP (!decide (portB (SvV.mk s.name s.vip s.proto s.port s.mode s.sched s.rise s.fall s.probe (bksOf (List.length s.bks) (bkF s.bks))) j = h.src)) (I64 (j + (1 : Int)) ∧ J (St.mk
 [(0, .ptr 0 0), (3, .ptr 1 0), (4, .fn 46 [] [.ptr 1 0]), (5, .ptr 2 0), (7, .int .i64 k), (8, .ptr 3 0), (52, .ro (List.length l) (10 : Nat) (svF l)), (53, .int .i64 z), (54, .int .i64 k), (64, .ro (List.length s.bks) (10 : Nat) (bkF s.bks)), (65, .int .i64 y), (66, .int .i64 (j + (1 : Int)))] [.vals [.byte c.mac.a0, .byte c.mac.a1, .byte c.mac.a2, .byte c.mac.a3, .byte c.mac.a4, .byte c.mac.a5, .str c.addr, .str c.peer, .int .i64 c.id, .int .i64 c.pri, .int .i64 c.every, .bool c.pre, .ro (List.length c.vips) (1 : Nat) fun i => [.str (List.getD c.vips i [])], .ro (List.length c.trs) (2 : Nat) (trF c.trs), .ro (List.length c.svs) (10 : Nat) (svF c.svs), .bool m, .int .i64 0, .int .i64 0, .byte f.a.a0, .byte f.a.a1, .byte f.a.a2, .byte f.a.a3, .byte f.a.a4, .byte f.a.a5, .byte f.b.a0, .byte f.b.a1, .byte f.b.a2, .byte f.b.a3, .byte f.b.a4, .byte f.b.a5, .int .i64 f.ty, .str f.body, .int .i64 0, .byte 0, .byte 0, .byte 0, .byte 0, .byte 0, .byte 0, .str [], .str [], .bool false, .int .i64 0, .int .i64 0, .int .i64 0, .nilS, .str p.src, .str p.dst, .int .i64 p.proto, .int .i64 p.ttl, .str p.body, .int .i64 0, .str [], .str [], .int .i64 0, .int .i64 0, .int .i64 0, .int .i64 0, .int .i64 0], .vals [.str p.src, .str p.dst, .int .i64 p.proto, .int .i64 p.ttl, .str p.body], .vals [.int .i64 h.proto, .int .i64 h.src, .int .i64 h.dst, .int .i64 h.flags, .int .i64 h.at'], .vals [.str s.name, .str s.vip, .int .i64 s.proto, .int .i64 s.port, .int .i64 s.mode, .int .i64 s.sched, .int .i64 s.rise, .int .i64 s.fall, .int .i64 s.probe, .ro (List.length s.bks) (10 : Nat) (bkF s.bks)]])) (K (.bool true) [.vals [.byte c.mac.a0, .byte c.mac.a1, .byte c.mac.a2, .byte c.mac.a3, .byte c.mac.a4, .byte c.mac.a5, .str c.addr, .str c.peer, .int .i64 c.id, .int .i64 c.pri, .int .i64 c.every, .bool c.pre, .ro (List.length c.vips) (1 : Nat) fun i => [.str (List.getD c.vips i [])], .ro (List.length c.trs) (2 : Nat) (trF c.trs), .ro (List.length c.svs) (10 : Nat) (svF c.svs),
 .bool m, .int .i64 5, .int .i64 0, .byte f.a.a0, .byte f.a.a1, .byte f.a.a2, .byte f.a.a3, .byte f.a.a4, .byte f.a.a5, .byte f.b.a0, .byte f.b.a1, .byte f.b.a2, .byte f.b.a3, .byte f.b.a4, .byte f.b.a5, .int .i64 f.ty, .str f.body, .int .i64 0, .byte 0, .byte 0, .byte 0, .byte 0, .byte 0, .byte 0, .str [], .str [], .bool false, .int .i64 0, .int .i64 0, .int .i64 0, .nilS, .str p.src, .str p.dst, .int .i64 p.proto, .int .i64 p.ttl, .str p.body, .int .i64 p.proto, .str p.dst, .str s.vip, .int .i64 h.dst, .int .i64 s.port, .int .i64 h.flags, .int .i64 k, .int .i64 j]]))) (I64 (k + (1 : Int)) ∧ I (St.mk [(0, .ptr 0 0), (3, .ptr 1 0), (4, .fn 46 [] [.ptr 1 0]), (5, .ptr 2 0), (52, .ro (List.length l) (10 : Nat) (svF l)), (53, .int .i64 z), (54, .int .i64 (k + (1 : Int)))] [.vals [.byte c.mac.a0, .byte c.mac.a1, .byte c.mac.a2, .byte c.mac.a3, .byte c.mac.a4, .byte c.mac.a5, .str c.addr, .str c.peer, .int .i64 c.id, .int .i64 c.pri, .int .i64 c.every, .bool c.pre, .ro (List.length c.vips) (1 : Nat) fun i => [.str (List.getD c.vips i [])], .ro (List.length c.trs) (2 : Nat) (trF c.trs), .ro (List.length c.svs) (10 : Nat) (svF c.svs), .bool m, .int .i64 0, .int .i64 0, .byte f.a.a0, .byte f.a.a1, .byte f.a.a2, .byte f.a.a3, .byte f.a.a4, .byte f.a.a5, .byte f.b.a0, .byte f.b.a1, .byte f.b.a2, .byte f.b.a3, .byte f.b.a4, .byte f.b.a5, .int .i64 f.ty, .str f.body, .int .i64 0, .byte 0, .byte 0, .byte 0, .byte 0, .byte 0, .byte 0, .str [], .str [], .bool false, .int .i64 0, .int .i64 0, .int .i64 0, .nilS, .str p.src, .str p.dst, .int .i64 p.proto, .int .i64 p.ttl, .str p.body, .int .i64 0, .str [], .str [], .int .i64 0, .int .i64 0, .int .i64 0, .int .i64 0, .int .i64 0], .vals [.str p.src, .str p.dst, .int .i64 p.proto, .int .i64 p.ttl, .str p.body], .vals [.int .i64 h.proto, .int .i64 h.src, .int .i64 h.dst, .int .i64 h.flags, .int .i64 h.at']]))) := by kernel_rfl
attribute [local irreducible] ro_lp_n ro_lp_b ri_lp_n ri_lp_b
theorem ri_all (I : St → Prop) (K : AVal → Hp → Prop) (c : CfV) (m : Bool) (f : Fm) (p : Ip) (h : Hd) (l : List SvV) (s : SvV) (z k : Int) (hs : SvOk s) : ∀ (jj i : Nat), i + jj = s.bks.length →
    (ixFrom (fun i => rpIs s p h i) jj i = -1 → I64 (k + 1) ∧ I (St.mk [(0, .ptr 0 0), (3, .ptr 1 0), (4, .fn 46 [] [.ptr 1 0]), (5, .ptr 2 0), (52, .ro l.length 10 (svF l)), (53, .int .i64 z), (54, .int .i64 (k + 1))] [.vals (gateCells c m f p), .vals (ipV p), .vals (hdV h)])) →
    (∀ x : Int, ixFrom (fun i => rpIs s p h i) jj i = x → 0 ≤ x → K (.bool true) [.vals (doneCells (gateCells c m f p) ⟨0, ⟨p.proto, p.dst, s.vip, h.dst, s.port⟩, h.flags, k, x⟩)]) →
    ri_lp_n I K (jj + 1) (St.mk [(0, .ptr 0 0), (3, .ptr 1 0), (4, .fn 46 [] [.ptr 1 0]), (5, .ptr 2 0), (7, .int .i64 k), (8, .ptr 3 0), (52, .ro l.length 10 (svF l)), (53, .int .i64 z), (54, .int .i64 k), (64, .ro s.bks.length 10 (bkF s.bks)), (65, .int .i64 (s.bks.length : Int)), (66, .int .i64 (i : Int))] [.vals (gateCells c m f p), .vals (ipV p), .vals (hdV h), .vals (svCells s)])
  | 0, i, hi, hI, hK => by
    refine ri_lp_next ?_
    rw [ri_lp_step]
    exact brP_d (fun h' => by omega) (fun _ => hI rfl)
  | jj + 1, i, hi, hI, hK => by
    refine ri_lp_next ?_
    rw [ri_lp_step, bksV_of]
    have hs1 := hs.1
    unfold ixFrom at hI hK
    have next : rpIs s p h i = false → (ri_lp_n I K (jj + 1) (St.mk [(0, .ptr 0 0), (3, .ptr 1 0), (4, .fn 46 [] [.ptr 1 0]), (5, .ptr 2 0), (7, .int .i64 k), (8, .ptr 3 0), (52, .ro l.length 10 (svF l)), (53, .int .i64 z), (54, .int .i64 k), (64, .ro s.bks.length 10 (bkF s.bks)), (65, .int .i64 (s.bks.length : Int)), (66, .int .i64 ((i + 1 : Nat) : Int))] [.vals (gateCells c m f p), .vals (ipV p), .vals (hdV h), .vals (svCells s)])) := fun hn => by
      rw [if_neg (by rw [hn]; decide)] at hI
      refine ri_all I K c m f p h l s z k hs jj (i + 1) (by omega) hI fun x hx h0 => ?_
      refine hK x ?_ h0
      rw [if_neg (by rw [hn]; decide)]; exact hx
    rw [Int.toNat_natCast]
    refine brP_d (fun _ => ⟨by omega, brP_nd (fun h1 => ⟨by unfold I64; omega, ?_⟩) (fun h1 => ⟨isBks_of hs, brP_nd (fun h2 => ⟨by unfold I64; omega, ?_⟩) (fun h2 => ?_)⟩)⟩) (fun h' => by omega)
    · exact next (by unfold rpIs; rw [decide_eq_false h1, Bool.false_and])
    · exact next (by unfold rpIs; rw [decide_eq_false h2, Bool.and_false])
    · have e : rpIs s p h i = true := by unfold rpIs; rw [decide_eq_true h1, decide_eq_true h2]; rfl
      exact hK i (by rw [if_pos e]) (by omega)
def rpEnd (K : AVal → Hp → Prop) (c : CfV) (m : Bool) (f : Fm) (p : Ip) (h : Hd) (l : List SvV) : Option (Nat × Int) → Prop
  | some (k, x) => K (.bool true) [.vals (doneCells (gateCells c m f p) ⟨0, ⟨p.proto, p.dst, (l.getD k sv0).vip, h.dst, (l.getD k sv0).port⟩, h.flags, k, x⟩)]
  | none => K (.bool true) [.vals (dropCells (gateCells c m f p) 202)]
theorem ro_all (K : AVal → Hp → Prop) (c : CfV) (m : Bool) (f : Fm) (p : Ip) (h : Hd) (l : List SvV) (hs : ∀ s ∈ l, SvOk s) (hl : l.length ≤ 1256584717440) : ∀ (jj k : Nat), k + jj = l.length → rpEnd K c m f p h l (rpOut l p h jj k) →
    ro_lp_n K (jj + 1) (St.mk [(0, .ptr 0 0), (3, .ptr 1 0), (4, .fn 46 [] [.ptr 1 0]), (5, .ptr 2 0), (52, .ro l.length 10 (svF l)), (53, .int .i64 (l.length : Int)), (54, .int .i64 (k : Int))] [.vals (gateCells c m f p), .vals (ipV p), .vals (hdV h)])
  | 0, k, hk, hK => by
    refine ro_lp_next ?_
    rw [ro_lp_step]
    exact brP_d (fun h' => by omega) (fun _ => hK)
  | jj + 1, k, hk, hK => by
    refine ro_lp_next ?_
    rw [ro_lp_step, bksV_of, Int.toNat_natCast]
    have hsk := svOk_get hs k
    unfold rpOut at hK
    have next : rpAt (l.getD k sv0) p h < 0 → ro_lp_n K (jj + 1) (St.mk [(0, .ptr 0 0), (3, .ptr 1 0), (4, .fn 46 [] [.ptr 1 0]), (5, .ptr 2 0), (52, .ro l.length 10 (svF l)), (53, .int .i64 (l.length : Int)), (54, .int .i64 ((k + 1 : Nat) : Int))] [.vals (gateCells c m f p), .vals (ipV p), .vals (hdV h)]) := fun hn => by
      rw [if_neg (by omega)] at hK
      exact ro_all K c m f p h l hs hl jj (k + 1) (by omega) hK
    refine brP_d (fun _ => ⟨by omega, isBks_of hsk, ?_⟩) (fun h' => by omega)
    generalize hse : l.getD k sv0 = s at *
    refine brP_i (fun h1 => ⟨by unfold I64; omega, next ?_⟩) (fun h1 => ⟨_, ri_all _ K c m f p h l s _ _ hsk s.bks.length 0 (by omega) (fun e => ⟨by unfold I64; omega, next ?_⟩) (fun x e h0 => ?_)⟩)
    · have h1' : ansB s p = false := by simpa using h1
      unfold rpAt; rw [if_neg (by rw [h1']; decide)]; decide
    · have h1' : ansB s p = true := by simpa using h1
      unfold rpAt; rw [if_pos h1', e]; decide
    · have h1' : ansB s p = true := by simpa using h1
      have e2 : rpAt s p h = x := by unfold rpAt; rw [if_pos h1', e]
      rw [if_pos (by omega)] at hK
      unfold rpEnd at hK
      simp only [hse, e2] at hK
      exact hK
attribute [local irreducible] fnP in
theorem __outrider_admit_gate__reply_p : ∀ args H K, replyRow args H K → fnP Try.prog Tgt ann___outrider_admit_gate__reply Try.f24 args H K := by
  intro args H K hh
  unfold replyRow at hh
  split at hh
  · rename_i cs
    obtain ⟨⟨c, m, f, p, rfl, hc, hb, hfb⟩, hK⟩ := hh
    have hK' : optP (rpO c.svs m p) (fun x => brP (decide (x.why = 0)) (K (.bool true) [.vals (doneCells (gateCells c m f p) x)]) (K (.bool true) [.vals (dropCells (gateCells c m f p) x.why)])) (K (.bool false) [.vals (gateCells c m f p)]) := by
      have e : svsV (nthC (gateCells c m f p) 14) = c.svs := svsOf_of c.svs
      rw [e] at hK
      exact hK
    clear hK
    have hS : IsSvs c.svs.length (svF c.svs) := ⟨c.svs, rfl, rfl, hc.2.2.1, hc.2.2.2.2⟩
    rw [reply_eq, svsOf_of]
    unfold rpO at hK'
    refine brP_i (fun h1 => ?_) (fun h1 => ⟨hS, brP_nd (fun h2 => ?_) (fun h2 => brP_i (fun h3 => ?_) (fun h3 => ⟨hb, brP_d (fun h4 => ⟨_, ro_all K c m f p (ptRead p).1 c.svs hc.2.2.2.2 hc.2.2.1 c.svs.length 0 (by omega) ?_⟩) (fun h4 => ?_)⟩))⟩)
    · rw [if_pos (.inl (by simpa using h1))] at hK'; exact hK'
    · rw [if_pos (.inr (by show ofIx c.svs p < 0; have : ¬ 0 ≤ ofIx c.svs p := h2; omega))] at hK'; exact hK'
    all_goals
      rw [if_neg (by
        rintro (h | h)
        · exact h (by have h1' := h1; simp only [Bool.and_eq_true, Bool.or_eq_true, Bool.and_eq_false_iff, Bool.or_eq_false_iff, decide_eq_true_eq, decide_eq_false_iff_not, Bool.not_eq_true', Bool.not_eq_false', Bool.not_true, Bool.not_false, Bool.true_and, Bool.and_true, Bool.false_or, Bool.or_false, beq_iff_eq, beq_eq_false_iff_ne, ne_eq] at h1'; omega)
        · have : 0 ≤ ofIx c.svs p := h2; omega)] at hK'
    · rw [if_pos (by simpa using h3)] at hK'; exact hK'
    all_goals rw [if_neg (by simpa using h3)] at hK'
    · have h4' : (ptRead p).2 = 0 := h4
      rw [if_neg (by rw [h4']; decide)] at hK'
      revert hK'
      cases rpOut c.svs p (ptRead p).1 c.svs.length 0 with
      | none => intro hK'; exact hK'
      | some q => intro hK'; exact hK'
    · have h4' : (ptRead p).2 ≠ 0 := h4
      rw [if_pos h4'] at hK'
      change brP (decide ((ptRead p).2 = 0)) _ _ at hK'
      rw [decide_eq_false h4'] at hK'
      exact hK'
  · exact hh.elim
def Tgr1 : Specs := ext Tgt 24 (replyRow)
theorem Tgr1_sound : TSound Try.prog Tgr1 := ext_sound Tgt_sound (row_of Tgt_sound mixed Try.func24 (by decide +kernel) __outrider_admit_gate__reply_p)
abbrev Tgr : Specs := Tgr1
theorem Tgr_sound : TSound Try.prog Tgr := Tgr1_sound
end Go.Proofs.Ytnbbaemijogeoaa.Ae

set_option linter.unusedSimpArgs false
set_option linter.unusedVariables false
set_option maxRecDepth 100000
namespace Go.Proofs.Ytnbbaemijogeoaa.Ae
open Go
def vtRow : Srow := fun args H K => match args, H with
  | [.int .i64 i, .bool six], [] => K (.tup [.agg [.byte (etVirt i six).1.a0, .byte (etVirt i six).1.a1, .byte (etVirt i six).1.a2, .byte (etVirt i six).1.a3, .byte (etVirt i six).1.a4, .byte (etVirt i six).1.a5], .bool (etVirt i six).2]) []
  | _, _ => False
def frameRow : Srow := fun args H K => match args, H with
  | [.ptr 0 0], [.vals cs] => IsGt cs ∧ brP (frB ⟨cByte (nthC cs 0), cByte (nthC cs 1), cByte (nthC cs 2), cByte (nthC cs 3), cByte (nthC cs 4), cByte (nthC cs 5)⟩ (cInt (nthC cs 8)) (cStr (nthC cs 6)) (cBool (nthC cs 15)) ⟨cByte (nthC cs 18), cByte (nthC cs 19), cByte (nthC cs 20), cByte (nthC cs 21), cByte (nthC cs 22), cByte (nthC cs 23)⟩)
      (K (.bool true) [.vals (dropCells cs 200)]) (K (.bool false) [.vals cs])
  | _, _ => False
def noteCells (cs : List AVal) (x : PkV) : List AVal := cs.take 16 ++ (.int .i64 1 :: .int .i64 0 :: ((cs.take 32).drop 18 ++ (.int .i64 x.n.kind :: .byte x.n.mac.a0 :: .byte x.n.mac.a1 :: .byte x.n.mac.a2 :: .byte x.n.mac.a3 :: .byte x.n.mac.a4 :: .byte x.n.mac.a5 :: .str x.n.addr :: .str x.n.target :: .bool x.n.asked :: ((cs.take 46).drop 42 ++ (.str x.p.src :: .str x.p.dst :: .int .i64 x.p.proto :: .int .i64 x.p.ttl :: .str x.p.body :: cs.drop 51)))))
def passCells (cs : List AVal) (p : Ip) : List AVal := cs.take 46 ++ (.str p.src :: .str p.dst :: .int .i64 p.proto :: .int .i64 p.ttl :: .str p.body :: cs.drop 51)
def packetRow : Srow := fun args H K => match args, H with
  | [.ptr 0 0], [.vals cs] => IsGt cs ∧ optP (pkO ⟨⟨cByte (nthC cs 18), cByte (nthC cs 19), cByte (nthC cs 20), cByte (nthC cs 21), cByte (nthC cs 22), cByte (nthC cs 23)⟩, ⟨cByte (nthC cs 24), cByte (nthC cs 25), cByte (nthC cs 26), cByte (nthC cs 27), cByte (nthC cs 28), cByte (nthC cs 29)⟩, cInt (nthC cs 30), cStr (nthC cs 31)⟩ ⟨cStr (nthC cs 46), cStr (nthC cs 47), cInt (nthC cs 48), cInt (nthC cs 49), cStr (nthC cs 50)⟩)
      (fun x => brP (decide (x.why = 0)) (brP x.noted (K (.bool true) [.vals (noteCells cs x)]) (K (.bool false) [.vals (passCells cs x.p)])) (K (.bool true) [.vals (dropCells cs x.why)])) False
  | _, _ => False
set_option maxRecDepth 100000 in
theorem ether_Virtual_eq (i : Int) (six : Bool) (K : AVal → Hp → Prop) : fnP Try.prog Tgr ann_ether_Virtual Try.f33 [.int .i64 i, .bool six] [] K = (
 brP (decide (i < (1 : Int)) || decide ((255 : Int) < i)) (K (.tup [.agg [.byte 0, .byte 0, .byte 0, .byte 0, .byte 0, .byte 0], .bool false]) []) (brP six (((0 : Int) ≤ (4 : Int) ∧ (4 : Int) < (6 : Int)) ∧ K (.tup [.agg [.byte 0, .byte 0, .byte 94, .byte 0, .byte 2, .byte (b8 i)], .bool true]) []) (K (.tup [.agg [.byte 0, .byte 0, .byte 94, .byte 0, .byte 1, .byte (b8 i)], .bool true]) []))) := by kernel_rfl
theorem ether_Virtual_p : ∀ args H K, vtRow args H K → fnP Try.prog Tgr ann_ether_Virtual Try.f33 args H K := by
  intro args H K h
  unfold vtRow at h
  split at h
  · rename_i i six
    rw [ether_Virtual_eq]
    unfold etVirt at h
    refine brP_i (fun h1 => ?_) (fun h1 => ?_) <;> simp only [Bool.and_eq_true, Bool.or_eq_true, Bool.and_eq_false_iff, Bool.or_eq_false_iff, decide_eq_true_eq, decide_eq_false_iff_not, Bool.not_eq_true', Bool.not_eq_false', Bool.not_true, Bool.not_false, Bool.true_and, Bool.and_true, Bool.false_or, Bool.or_false, beq_iff_eq, beq_eq_false_iff_ne, ne_eq] at h1
    · rw [if_pos (by omega)] at h; exact h
    · rw [if_neg (by omega)] at h
      cases six
      · exact h
      · exact ⟨by omega, h⟩
  · exact h.elim
def Tgs1 : Specs := ext Tgr 33 (vtRow)
theorem Tgs1_sound : TSound Try.prog Tgs1 := ext_sound Tgr_sound (row_of Tgr_sound mixed Try.func33 (by decide +kernel) ether_Virtual_p)
set_option maxRecDepth 100000 in
theorem gframe_eq (c : CfV) (m : Bool) (f : Fm) (p : Ip) (K : AVal → Hp → Prop) : fnP Try.prog Tgs1 ann___outrider_admit_gate__frame Try.f19 [.ptr 0 0] [.vals (gateCells c m f p)] K = (
 brP (decide (f.a.a0 = c.mac.a0) && (decide (f.a.a1 = c.mac.a1) && (decide (f.a.a2 = c.mac.a2) && (decide (f.a.a3 = c.mac.a3) && (decide (f.a.a4 = c.mac.a4) && decide (f.a.a5 = c.mac.a5)))))) (K (.bool false) [.vals [.byte c.mac.a0, .byte c.mac.a1, .byte c.mac.a2, .byte c.mac.a3, .byte c.mac.a4, .byte c.mac.a5, .str c.addr, .str c.peer, .int .i64 c.id, .int .i64 c.pri, .int .i64 c.every, .bool c.pre, .ro (List.length c.vips) (1 : Nat) fun i => [.str (List.getD c.vips i [])], .ro (List.length c.trs) (2 : Nat) (trF c.trs), .ro (List.length c.svs) (10 : Nat) (svF c.svs), .bool m, .int .i64 0, .int .i64 0, .byte f.a.a0, .byte f.a.a1, .byte f.a.a2, .byte f.a.a3, .byte f.a.a4, .byte f.a.a5, .byte f.b.a0, .byte f.b.a1, .byte f.b.a2, .byte f.b.a3, .byte f.b.a4, .byte f.b.a5, .int .i64 f.ty, .str f.body, .int .i64 0, .byte 0, .byte 0, .byte 0, .byte 0, .byte 0, .byte 0, .str [], .str [], .bool false, .int .i64 0, .int .i64 0, .int .i64 0, .nilS, .str p.src, .str p.dst, .int .i64 p.proto, .int .i64 p.ttl, .str p.body, .int .i64 0, .str [], .str [], .int .i64 0, .int .i64 0, .int .i64 0, .int .i64 0, .int .i64 0]]) (((0 : Int) ≤ (0 : Int) ∧ (0 : Int) < (6 : Int)) ∧ brP (decide (f.a.a0 &&& (1 : UInt8) = (1 : UInt8))) (K (.bool false) [.vals [.byte c.mac.a0, .byte c.mac.a1, .byte c.mac.a2, .byte c.mac.a3, .byte c.mac.a4, .byte c.mac.a5, .str c.addr, .str c.peer, .int .i64 c.id, .int .i64 c.pri, .int .i64 c.every, .bool c.pre, .ro (List.length c.vips) (1 : Nat) fun i => [.str (List.getD c.vips i [])], .ro (List.length c.trs) (2 : Nat) (trF c.trs), .ro (List.length c.svs) (10 : Nat) (svF c.svs), .bool m, .int .i64 0, .int .i64 0, .byte f.a.a0, .byte f.a.a1, .byte f.a.a2, .byte f.a.a3, .byte f.a.a4, .byte f.a.a5, .byte f.b.a0, .byte f.b.a1, .byte f.b.a2, .byte f.b.a3, .byte f.b.a4, .byte f.b.a5, .int .i64 f.ty, .str f.body, .int .i64 0, .byte 0, .byte 0, .byte 0, .byte 0, .byte 0, .byte 0, .str [], .str [], .bool false, .int .i64 0, .int .i64 0,
 .int .i64 0, .nilS, .str p.src, .str p.dst, .int .i64 p.proto, .int .i64 p.ttl, .str p.body, .int .i64 0, .str [], .str [], .int .i64 0, .int .i64 0, .int .i64 0, .int .i64 0, .int .i64 0]]) (brP m (brP (etVirt c.id (decide ((↑(List.length c.addr) : Int) = (16 : Int)))).snd (brP (decide (f.a.a0 = (etVirt c.id (decide ((↑(List.length c.addr) : Int) = (16 : Int)))).fst.a0) && (decide (f.a.a1 = (etVirt c.id (decide ((↑(List.length c.addr) : Int) = (16 : Int)))).fst.a1) && (decide (f.a.a2 = (etVirt c.id (decide ((↑(List.length c.addr) : Int) = (16 : Int)))).fst.a2) && (decide (f.a.a3 = (etVirt c.id (decide ((↑(List.length c.addr) : Int) = (16 : Int)))).fst.a3) && (decide (f.a.a4 = (etVirt c.id (decide ((↑(List.length c.addr) : Int) = (16 : Int)))).fst.a4) && decide (f.a.a5 = (etVirt c.id (decide ((↑(List.length c.addr) : Int) = (16 : Int)))).fst.a5)))))) (K (.bool false) [.vals [.byte c.mac.a0, .byte c.mac.a1, .byte c.mac.a2, .byte c.mac.a3, .byte c.mac.a4, .byte c.mac.a5, .str c.addr, .str c.peer, .int .i64 c.id, .int .i64 c.pri, .int .i64 c.every, .bool c.pre, .ro (List.length c.vips) (1 : Nat) fun i => [.str (List.getD c.vips i [])], .ro (List.length c.trs) (2 : Nat) (trF c.trs), .ro (List.length c.svs) (10 : Nat) (svF c.svs), .bool m, .int .i64 0, .int .i64 0, .byte f.a.a0, .byte f.a.a1, .byte f.a.a2, .byte f.a.a3, .byte f.a.a4, .byte f.a.a5, .byte f.b.a0, .byte f.b.a1, .byte f.b.a2, .byte f.b.a3, .byte f.b.a4, .byte f.b.a5, .int .i64 f.ty, .str f.body, .int .i64 0, .byte 0, .byte 0, .byte 0, .byte 0, .byte 0, .byte 0, .str [], .str [], .bool false, .int .i64 0, .int .i64 0, .int .i64 0, .nilS, .str p.src, .str p.dst, .int .i64 p.proto, .int .i64 p.ttl, .str p.body, .int .i64 0, .str [], .str [], .int .i64 0, .int .i64 0, .int .i64 0, .int .i64 0, .int .i64 0]]) (K (.bool true) [.vals [.byte c.mac.a0, .byte c.mac.a1, .byte c.mac.a2, .byte c.mac.a3, .byte c.mac.a4, .byte c.mac.a5, .str c.addr, .str c.peer, .int .i64 c.id, .int .i64 c.pri,
 .int .i64 c.every, .bool c.pre, .ro (List.length c.vips) (1 : Nat) fun i => [.str (List.getD c.vips i [])], .ro (List.length c.trs) (2 : Nat) (trF c.trs), .ro (List.length c.svs) (10 : Nat) (svF c.svs), .bool m, .int .i64 0, .int .i64 200, .byte 0, .byte 0, .byte 0, .byte 0, .byte 0, .byte 0, .byte 0, .byte 0, .byte 0, .byte 0, .byte 0, .byte 0, .int .i64 0, .str [], .int .i64 0, .byte 0, .byte 0, .byte 0, .byte 0, .byte 0, .byte 0, .str [], .str [], .bool false, .int .i64 0, .int .i64 0, .int .i64 0, .nilS, .str [], .str [], .int .i64 0, .int .i64 0, .str [], .int .i64 0, .str [], .str [], .int .i64 0, .int .i64 0, .int .i64 0, .int .i64 0, .int .i64 0]])) (K (.bool true) [.vals [.byte c.mac.a0, .byte c.mac.a1, .byte c.mac.a2, .byte c.mac.a3, .byte c.mac.a4, .byte c.mac.a5, .str c.addr, .str c.peer, .int .i64 c.id, .int .i64 c.pri, .int .i64 c.every, .bool c.pre, .ro (List.length c.vips) (1 : Nat) fun i => [.str (List.getD c.vips i [])], .ro (List.length c.trs) (2 : Nat) (trF c.trs), .ro (List.length c.svs) (10 : Nat) (svF c.svs), .bool m, .int .i64 0, .int .i64 200, .byte 0, .byte 0, .byte 0, .byte 0, .byte 0, .byte 0, .byte 0, .byte 0, .byte 0, .byte 0, .byte 0, .byte 0, .int .i64 0, .str [], .int .i64 0, .byte 0, .byte 0, .byte 0, .byte 0, .byte 0, .byte 0, .str [], .str [], .bool false, .int .i64 0, .int .i64 0, .int .i64 0, .nilS, .str [], .str [], .int .i64 0, .int .i64 0, .str [], .int .i64 0, .str [], .str [], .int .i64 0, .int .i64 0, .int .i64 0, .int .i64 0, .int .i64 0]])) (K (.bool true) [.vals [.byte c.mac.a0, .byte c.mac.a1, .byte c.mac.a2, .byte c.mac.a3, .byte c.mac.a4, .byte c.mac.a5, .str c.addr, .str c.peer, .int .i64 c.id, .int .i64 c.pri, .int .i64 c.every, .bool c.pre, .ro (List.length c.vips) (1 : Nat) fun i => [.str (List.getD c.vips i [])], .ro (List.length c.trs) (2 : Nat) (trF c.trs), .ro (List.length c.svs) (10 : Nat) (svF c.svs), .bool m, .int .i64 0, .int .i64 200, .byte 0, .byte 0, .byte 0, .byte 0, .byte 0,
 .byte 0, .byte 0, .byte 0, .byte 0, .byte 0, .byte 0, .byte 0, .int .i64 0, .str [], .int .i64 0, .byte 0, .byte 0, .byte 0, .byte 0, .byte 0, .byte 0, .str [], .str [], .bool false, .int .i64 0, .int .i64 0, .int .i64 0, .nilS, .str [], .str [], .int .i64 0, .int .i64 0, .str [], .int .i64 0, .str [], .str [], .int .i64 0, .int .i64 0, .int .i64 0, .int .i64 0, .int .i64 0]])))) := by kernel_rfl
attribute [local irreducible] fnP in
theorem __outrider_admit_gate__frame_p : ∀ args H K, frameRow args H K → fnP Try.prog Tgs1 ann___outrider_admit_gate__frame Try.f19 args H K := by
  intro args H K hh
  unfold frameRow at hh
  split at hh
  · rename_i cs
    obtain ⟨⟨c, m, f, p, rfl, hc, hb, hfb⟩, hK⟩ := hh
    change brP (frB c.mac c.id c.addr m f.a) (K (.bool true) [.vals (dropCells (gateCells c m f p) 200)]) (K (.bool false) [.vals (gateCells c m f p)]) at hK
    rw [gframe_eq, mc_dec, mc_dec]
    unfold frB at hK
    have e16 : decide ((c.addr.length : Int) = 16) = decide (c.addr.length = 16) := by
      rw [Bool.eq_iff_iff, decide_eq_true_eq, decide_eq_true_eq]; omega
    rw [e16]
    generalize etVirt c.id (decide (c.addr.length = 16)) = v at *
    generalize decide (f.a = c.mac) = b1 at *
    generalize decide (f.a = v.1) = b2 at *
    generalize decide (f.a.a0 &&& 1 = 1) = b3 at *
    generalize v.2 = b4 at *
    cases b1 <;> cases b3 <;> cases m <;> cases b4 <;> cases b2 <;> first | exact hK | exact ⟨by omega, hK⟩
  · exact hh.elim
def Tgs2 : Specs := ext Tgs1 19 (frameRow)
theorem Tgs2_sound : TSound Try.prog Tgs2 := ext_sound Tgs1_sound (row_of Tgs1_sound mixed Try.func19 (by decide +kernel) __outrider_admit_gate__frame_p)
set_option maxRecDepth 100000 in
theorem gpacket_eq (c : CfV) (m : Bool) (f : Fm) (p : Ip) (K : AVal → Hp → Prop) : fnP Try.prog Tgs2 ann___outrider_admit_gate__packet Try.f20 [.ptr 0 0] [.vals (gateCells c m f p)] K = (
 brP (decide (f.ty = (2054 : Int))) (List.length f.body ≤ (140737488351232 : Nat) ∧ brP (decide ((nbRead (Fm.mk (Mc.mk f.a.a0 f.a.a1 f.a.a2 f.a.a3 f.a.a4 f.a.a5) (Mc.mk f.b.a0 f.b.a1 f.b.a2 f.b.a3 f.b.a4 f.b.a5) f.ty f.body)).snd = (0 : Int))) (K (.bool true) [.vals [.byte c.mac.a0, .byte c.mac.a1, .byte c.mac.a2, .byte c.mac.a3, .byte c.mac.a4, .byte c.mac.a5, .str c.addr, .str c.peer, .int .i64 c.id, .int .i64 c.pri, .int .i64 c.every, .bool c.pre, .ro (List.length c.vips) (1 : Nat) fun i => [.str (List.getD c.vips i [])], .ro (List.length c.trs) (2 : Nat) (trF c.trs), .ro (List.length c.svs) (10 : Nat) (svF c.svs), .bool m, .int .i64 1, .int .i64 0, .byte f.a.a0, .byte f.a.a1, .byte f.a.a2, .byte f.a.a3, .byte f.a.a4, .byte f.a.a5, .byte f.b.a0, .byte f.b.a1, .byte f.b.a2, .byte f.b.a3, .byte f.b.a4, .byte f.b.a5, .int .i64 f.ty, .str f.body, .int .i64 (nbRead (Fm.mk (Mc.mk f.a.a0 f.a.a1 f.a.a2 f.a.a3 f.a.a4 f.a.a5) (Mc.mk f.b.a0 f.b.a1 f.b.a2 f.b.a3 f.b.a4 f.b.a5) f.ty f.body)).fst.kind, .byte (nbRead (Fm.mk (Mc.mk f.a.a0 f.a.a1 f.a.a2 f.a.a3 f.a.a4 f.a.a5) (Mc.mk f.b.a0 f.b.a1 f.b.a2 f.b.a3 f.b.a4 f.b.a5) f.ty f.body)).fst.mac.a0, .byte (nbRead (Fm.mk (Mc.mk f.a.a0 f.a.a1 f.a.a2 f.a.a3 f.a.a4 f.a.a5) (Mc.mk f.b.a0 f.b.a1 f.b.a2 f.b.a3 f.b.a4 f.b.a5) f.ty f.body)).fst.mac.a1, .byte (nbRead (Fm.mk (Mc.mk f.a.a0 f.a.a1 f.a.a2 f.a.a3 f.a.a4 f.a.a5) (Mc.mk f.b.a0 f.b.a1 f.b.a2 f.b.a3 f.b.a4 f.b.a5) f.ty f.body)).fst.mac.a2, .byte (nbRead (Fm.mk (Mc.mk f.a.a0 f.a.a1 f.a.a2 f.a.a3 f.a.a4 f.a.a5) (Mc.mk f.b.a0 f.b.a1 f.b.a2 f.b.a3 f.b.a4 f.b.a5) f.ty f.body)).fst.mac.a3, .byte (nbRead (Fm.mk (Mc.mk f.a.a0 f.a.a1 f.a.a2 f.a.a3 f.a.a4 f.a.a5) (Mc.mk f.b.a0 f.b.a1 f.b.a2 f.b.a3 f.b.a4 f.b.a5) f.ty f.body)).fst.mac.a4, .byte (nbRead (Fm.mk (Mc.mk f.a.a0 f.a.a1 f.a.a2 f.a.a3 f.a.a4 f.a.a5) (Mc.mk f.b.a0 f.b.a1 f.b.a2 f.b.a3 f.b.a4 f.b.a5) f.ty f.body)).fst.mac.a5, .str (nbRead
 (Fm.mk (Mc.mk f.a.a0 f.a.a1 f.a.a2 f.a.a3 f.a.a4 f.a.a5) (Mc.mk f.b.a0 f.b.a1 f.b.a2 f.b.a3 f.b.a4 f.b.a5) f.ty f.body)).fst.addr, .str (nbRead (Fm.mk (Mc.mk f.a.a0 f.a.a1 f.a.a2 f.a.a3 f.a.a4 f.a.a5) (Mc.mk f.b.a0 f.b.a1 f.b.a2 f.b.a3 f.b.a4 f.b.a5) f.ty f.body)).fst.target, .bool (nbRead (Fm.mk (Mc.mk f.a.a0 f.a.a1 f.a.a2 f.a.a3 f.a.a4 f.a.a5) (Mc.mk f.b.a0 f.b.a1 f.b.a2 f.b.a3 f.b.a4 f.b.a5) f.ty f.body)).fst.asked, .int .i64 0, .int .i64 0, .int .i64 0, .nilS, .str p.src, .str p.dst, .int .i64 p.proto, .int .i64 p.ttl, .str p.body, .int .i64 0, .str [], .str [], .int .i64 0, .int .i64 0, .int .i64 0, .int .i64 0, .int .i64 0]]) (K (.bool true) [.vals [.byte c.mac.a0, .byte c.mac.a1, .byte c.mac.a2, .byte c.mac.a3, .byte c.mac.a4, .byte c.mac.a5, .str c.addr, .str c.peer, .int .i64 c.id, .int .i64 c.pri, .int .i64 c.every, .bool c.pre, .ro (List.length c.vips) (1 : Nat) fun i => [.str (List.getD c.vips i [])], .ro (List.length c.trs) (2 : Nat) (trF c.trs), .ro (List.length c.svs) (10 : Nat) (svF c.svs), .bool m, .int .i64 0, .int .i64 (nbRead (Fm.mk (Mc.mk f.a.a0 f.a.a1 f.a.a2 f.a.a3 f.a.a4 f.a.a5) (Mc.mk f.b.a0 f.b.a1 f.b.a2 f.b.a3 f.b.a4 f.b.a5) f.ty f.body)).snd, .byte 0, .byte 0, .byte 0, .byte 0, .byte 0, .byte 0, .byte 0, .byte 0, .byte 0, .byte 0, .byte 0, .byte 0, .int .i64 0, .str [], .int .i64 0, .byte 0, .byte 0, .byte 0, .byte 0, .byte 0, .byte 0, .str [], .str [], .bool false, .int .i64 0, .int .i64 0, .int .i64 0, .nilS, .str [], .str [], .int .i64 0, .int .i64 0, .str [], .int .i64 0, .str [], .str [], .int .i64 0, .int .i64 0, .int .i64 0, .int .i64 0, .int .i64 0]])) (brP (decide (f.ty = (2048 : Int))) (List.length f.body ≤ (140737488355328 : Nat) ∧ brP (decide ((ipDecode (List.take (List.length f.body) (List.drop (0 : Nat) f.body))).snd = (0 : Int))) (brP (!decide (decide ((↑(List.length (ipDecode (List.take (List.length f.body) (List.drop (0 : Nat) f.body))).fst.src) : Int) = (16 : Int)) = decide (f.ty = (34525 : Int)))) (K (.bool true) [.vals
 [.byte c.mac.a0, .byte c.mac.a1, .byte c.mac.a2, .byte c.mac.a3, .byte c.mac.a4, .byte c.mac.a5, .str c.addr, .str c.peer, .int .i64 c.id, .int .i64 c.pri, .int .i64 c.every, .bool c.pre, .ro (List.length c.vips) (1 : Nat) fun i => [.str (List.getD c.vips i [])], .ro (List.length c.trs) (2 : Nat) (trF c.trs), .ro (List.length c.svs) (10 : Nat) (svF c.svs), .bool m, .int .i64 0, .int .i64 31, .byte 0, .byte 0, .byte 0, .byte 0, .byte 0, .byte 0, .byte 0, .byte 0, .byte 0, .byte 0, .byte 0, .byte 0, .int .i64 0, .str [], .int .i64 0, .byte 0, .byte 0, .byte 0, .byte 0, .byte 0, .byte 0, .str [], .str [], .bool false, .int .i64 0, .int .i64 0, .int .i64 0, .nilS, .str [], .str [], .int .i64 0, .int .i64 0, .str [], .int .i64 0, .str [], .str [], .int .i64 0, .int .i64 0, .int .i64 0, .int .i64 0, .int .i64 0]]) (impP (decide ((ipDecode (List.take (List.length f.body) (List.drop (0 : Nat) f.body))).fst.proto = (58 : Int)) && !decide ((ipDecode (List.take (List.length f.body) (List.drop (0 : Nat) f.body))).fst.body = [])) ((0 : Int) ≤ (0 : Int) ∧ (0 : Int) < (↑(List.length (ipDecode (List.take (List.length f.body) (List.drop (0 : Nat) f.body))).fst.body) : Int)) ∧ impP (decide ((ipDecode (List.take (List.length f.body) (List.drop (0 : Nat) f.body))).fst.proto = (58 : Int)) && !decide ((ipDecode (List.take (List.length f.body) (List.drop (0 : Nat) f.body))).fst.body = []) && !decide (List.getD (ipDecode (List.take (List.length f.body) (List.drop (0 : Nat) f.body))).fst.body (0 : Nat) (0 : UInt8) = (135 : UInt8))) ((0 : Int) ≤ (0 : Int) ∧ (0 : Int) < (↑(List.length (ipDecode (List.take (List.length f.body) (List.drop (0 : Nat) f.body))).fst.body) : Int)) ∧ brP (decide ((ipDecode (List.take (List.length f.body) (List.drop (0 : Nat) f.body))).fst.proto = (58 : Int)) && !decide ((ipDecode (List.take (List.length f.body) (List.drop (0 : Nat) f.body))).fst.body = []) && (decide
 (List.getD (ipDecode (List.take (List.length f.body) (List.drop (0 : Nat) f.body))).fst.body (0 : Nat) (0 : UInt8) = (135 : UInt8)) || decide (List.getD (ipDecode (List.take (List.length f.body) (List.drop (0 : Nat) f.body))).fst.body (0 : Nat) (0 : UInt8) = (136 : UInt8)))) (List.length f.body ≤ (140737488351232 : Nat) ∧ brP (decide ((nbRead (Fm.mk (Mc.mk f.a.a0 f.a.a1 f.a.a2 f.a.a3 f.a.a4 f.a.a5) (Mc.mk f.b.a0 f.b.a1 f.b.a2 f.b.a3 f.b.a4 f.b.a5) f.ty f.body)).snd = (0 : Int))) (K (.bool true) [.vals [.byte c.mac.a0, .byte c.mac.a1, .byte c.mac.a2, .byte c.mac.a3, .byte c.mac.a4, .byte c.mac.a5, .str c.addr, .str c.peer, .int .i64 c.id, .int .i64 c.pri, .int .i64 c.every, .bool c.pre, .ro (List.length c.vips) (1 : Nat) fun i => [.str (List.getD c.vips i [])], .ro (List.length c.trs) (2 : Nat) (trF c.trs), .ro (List.length c.svs) (10 : Nat) (svF c.svs), .bool m, .int .i64 1, .int .i64 0, .byte f.a.a0, .byte f.a.a1, .byte f.a.a2, .byte f.a.a3, .byte f.a.a4, .byte f.a.a5, .byte f.b.a0, .byte f.b.a1, .byte f.b.a2, .byte f.b.a3, .byte f.b.a4, .byte f.b.a5, .int .i64 f.ty, .str f.body, .int .i64 (nbRead (Fm.mk (Mc.mk f.a.a0 f.a.a1 f.a.a2 f.a.a3 f.a.a4 f.a.a5) (Mc.mk f.b.a0 f.b.a1 f.b.a2 f.b.a3 f.b.a4 f.b.a5) f.ty f.body)).fst.kind, .byte (nbRead (Fm.mk (Mc.mk f.a.a0 f.a.a1 f.a.a2 f.a.a3 f.a.a4 f.a.a5) (Mc.mk f.b.a0 f.b.a1 f.b.a2 f.b.a3 f.b.a4 f.b.a5) f.ty f.body)).fst.mac.a0, .byte (nbRead (Fm.mk (Mc.mk f.a.a0 f.a.a1 f.a.a2 f.a.a3 f.a.a4 f.a.a5) (Mc.mk f.b.a0 f.b.a1 f.b.a2 f.b.a3 f.b.a4 f.b.a5) f.ty f.body)).fst.mac.a1, .byte (nbRead (Fm.mk (Mc.mk f.a.a0 f.a.a1 f.a.a2 f.a.a3 f.a.a4 f.a.a5) (Mc.mk f.b.a0 f.b.a1 f.b.a2 f.b.a3 f.b.a4 f.b.a5) f.ty f.body)).fst.mac.a2, .byte (nbRead (Fm.mk (Mc.mk f.a.a0 f.a.a1 f.a.a2 f.a.a3 f.a.a4 f.a.a5) (Mc.mk f.b.a0 f.b.a1 f.b.a2 f.b.a3 f.b.a4 f.b.a5) f.ty f.body)).fst.mac.a3, .byte (nbRead (Fm.mk (Mc.mk f.a.a0 f.a.a1 f.a.a2 f.a.a3 f.a.a4 f.a.a5) (Mc.mk f.b.a0 f.b.a1 f.b.a2 f.b.a3 f.b.a4 f.b.a5) f.ty f.body)).fst.mac.a4, .byte (nbRead
 (Fm.mk (Mc.mk f.a.a0 f.a.a1 f.a.a2 f.a.a3 f.a.a4 f.a.a5) (Mc.mk f.b.a0 f.b.a1 f.b.a2 f.b.a3 f.b.a4 f.b.a5) f.ty f.body)).fst.mac.a5, .str (nbRead (Fm.mk (Mc.mk f.a.a0 f.a.a1 f.a.a2 f.a.a3 f.a.a4 f.a.a5) (Mc.mk f.b.a0 f.b.a1 f.b.a2 f.b.a3 f.b.a4 f.b.a5) f.ty f.body)).fst.addr, .str (nbRead (Fm.mk (Mc.mk f.a.a0 f.a.a1 f.a.a2 f.a.a3 f.a.a4 f.a.a5) (Mc.mk f.b.a0 f.b.a1 f.b.a2 f.b.a3 f.b.a4 f.b.a5) f.ty f.body)).fst.target, .bool (nbRead (Fm.mk (Mc.mk f.a.a0 f.a.a1 f.a.a2 f.a.a3 f.a.a4 f.a.a5) (Mc.mk f.b.a0 f.b.a1 f.b.a2 f.b.a3 f.b.a4 f.b.a5) f.ty f.body)).fst.asked, .int .i64 0, .int .i64 0, .int .i64 0, .nilS, .str (ipDecode (List.take (List.length f.body) (List.drop (0 : Nat) f.body))).fst.src, .str (ipDecode (List.take (List.length f.body) (List.drop (0 : Nat) f.body))).fst.dst, .int .i64 (ipDecode (List.take (List.length f.body) (List.drop (0 : Nat) f.body))).fst.proto, .int .i64 (ipDecode (List.take (List.length f.body) (List.drop (0 : Nat) f.body))).fst.ttl, .str (ipDecode (List.take (List.length f.body) (List.drop (0 : Nat) f.body))).fst.body, .int .i64 0, .str [], .str [], .int .i64 0, .int .i64 0, .int .i64 0, .int .i64 0, .int .i64 0]]) (K (.bool true) [.vals [.byte c.mac.a0, .byte c.mac.a1, .byte c.mac.a2, .byte c.mac.a3, .byte c.mac.a4, .byte c.mac.a5, .str c.addr, .str c.peer, .int .i64 c.id, .int .i64 c.pri, .int .i64 c.every, .bool c.pre, .ro (List.length c.vips) (1 : Nat) fun i => [.str (List.getD c.vips i [])], .ro (List.length c.trs) (2 : Nat) (trF c.trs), .ro (List.length c.svs) (10 : Nat) (svF c.svs), .bool m, .int .i64 0, .int .i64 (nbRead (Fm.mk (Mc.mk f.a.a0 f.a.a1 f.a.a2 f.a.a3 f.a.a4 f.a.a5) (Mc.mk f.b.a0 f.b.a1 f.b.a2 f.b.a3 f.b.a4 f.b.a5) f.ty f.body)).snd, .byte 0, .byte 0, .byte 0, .byte 0, .byte 0, .byte 0, .byte 0, .byte 0, .byte 0, .byte 0, .byte 0, .byte 0, .int .i64 0, .str [], .int .i64 0, .byte 0, .byte 0, .byte 0, .byte 0, .byte 0, .byte 0, .str [], .str [], .bool false, .int .i64 0, .int .i64 0, .int .i64 0, .nilS, .str [], .str [],
 .int .i64 0, .int .i64 0, .str [], .int .i64 0, .str [], .str [], .int .i64 0, .int .i64 0, .int .i64 0, .int .i64 0, .int .i64 0]])) (K (.bool false) [.vals [.byte c.mac.a0, .byte c.mac.a1, .byte c.mac.a2, .byte c.mac.a3, .byte c.mac.a4, .byte c.mac.a5, .str c.addr, .str c.peer, .int .i64 c.id, .int .i64 c.pri, .int .i64 c.every, .bool c.pre, .ro (List.length c.vips) (1 : Nat) fun i => [.str (List.getD c.vips i [])], .ro (List.length c.trs) (2 : Nat) (trF c.trs), .ro (List.length c.svs) (10 : Nat) (svF c.svs), .bool m, .int .i64 0, .int .i64 0, .byte f.a.a0, .byte f.a.a1, .byte f.a.a2, .byte f.a.a3, .byte f.a.a4, .byte f.a.a5, .byte f.b.a0, .byte f.b.a1, .byte f.b.a2, .byte f.b.a3, .byte f.b.a4, .byte f.b.a5, .int .i64 f.ty, .str f.body, .int .i64 0, .byte 0, .byte 0, .byte 0, .byte 0, .byte 0, .byte 0, .str [], .str [], .bool false, .int .i64 0, .int .i64 0, .int .i64 0, .nilS, .str (ipDecode (List.take (List.length f.body) (List.drop (0 : Nat) f.body))).fst.src, .str (ipDecode (List.take (List.length f.body) (List.drop (0 : Nat) f.body))).fst.dst, .int .i64 (ipDecode (List.take (List.length f.body) (List.drop (0 : Nat) f.body))).fst.proto, .int .i64 (ipDecode (List.take (List.length f.body) (List.drop (0 : Nat) f.body))).fst.ttl, .str (ipDecode (List.take (List.length f.body) (List.drop (0 : Nat) f.body))).fst.body, .int .i64 0, .str [], .str [], .int .i64 0, .int .i64 0, .int .i64 0, .int .i64 0, .int .i64 0]]))) (K (.bool true) [.vals [.byte c.mac.a0, .byte c.mac.a1, .byte c.mac.a2, .byte c.mac.a3, .byte c.mac.a4, .byte c.mac.a5, .str c.addr, .str c.peer, .int .i64 c.id, .int .i64 c.pri, .int .i64 c.every, .bool c.pre, .ro (List.length c.vips) (1 : Nat) fun i => [.str (List.getD c.vips i [])], .ro (List.length c.trs) (2 : Nat) (trF c.trs), .ro (List.length c.svs) (10 : Nat) (svF c.svs), .bool m, .int .i64 0, .int .i64 (ipDecode (List.take (List.length f.body) (List.drop (0 : Nat) f.body))).snd, .byte 0, .byte 0, .byte 0, .byte 0,
 .byte 0, .byte 0, .byte 0, .byte 0, .byte 0, .byte 0, .byte 0, .byte 0, .int .i64 0, .str [], .int .i64 0, .byte 0, .byte 0, .byte 0, .byte 0, .byte 0, .byte 0, .str [], .str [], .bool false, .int .i64 0, .int .i64 0, .int .i64 0, .nilS, .str [], .str [], .int .i64 0, .int .i64 0, .str [], .int .i64 0, .str [], .str [], .int .i64 0, .int .i64 0, .int .i64 0, .int .i64 0, .int .i64 0]])) (brP (decide (f.ty = (34525 : Int))) (List.length f.body ≤ (140737488355328 : Nat) ∧ brP (decide ((ipDecode (List.take (List.length f.body) (List.drop (0 : Nat) f.body))).snd = (0 : Int))) (brP (!decide (decide ((↑(List.length (ipDecode (List.take (List.length f.body) (List.drop (0 : Nat) f.body))).fst.src) : Int) = (16 : Int)) = decide (f.ty = (34525 : Int)))) (K (.bool true) [.vals [.byte c.mac.a0, .byte c.mac.a1, .byte c.mac.a2, .byte c.mac.a3, .byte c.mac.a4, .byte c.mac.a5, .str c.addr, .str c.peer, .int .i64 c.id, .int .i64 c.pri, .int .i64 c.every, .bool c.pre, .ro (List.length c.vips) (1 : Nat) fun i => [.str (List.getD c.vips i [])], .ro (List.length c.trs) (2 : Nat) (trF c.trs), .ro (List.length c.svs) (10 : Nat) (svF c.svs), .bool m, .int .i64 0, .int .i64 31, .byte 0, .byte 0, .byte 0, .byte 0, .byte 0, .byte 0, .byte 0, .byte 0, .byte 0, .byte 0, .byte 0, .byte 0, .int .i64 0, .str [], .int .i64 0, .byte 0, .byte 0, .byte 0, .byte 0, .byte 0, .byte 0, .str [], .str [], .bool false, .int .i64 0, .int .i64 0, .int .i64 0, .nilS, .str [], .str [], .int .i64 0, .int .i64 0, .str [], .int .i64 0, .str [], .str [], .int .i64 0, .int .i64 0, .int .i64 0, .int .i64 0, .int .i64 0]]) (impP (decide ((ipDecode (List.take (List.length f.body) (List.drop (0 : Nat) f.body))).fst.proto = (58 : Int)) && !decide ((ipDecode (List.take (List.length f.body) (List.drop (0 : Nat) f.body))).fst.body = [])) ((0 : Int) ≤ (0 : Int) ∧ (0 : Int) < (↑(List.length (ipDecode (List.take (List.length f.body) (List.drop (0 : Nat) f.body))).fst.body) : Int)) ∧ impP
 (decide ((ipDecode (List.take (List.length f.body) (List.drop (0 : Nat) f.body))).fst.proto = (58 : Int)) && !decide ((ipDecode (List.take (List.length f.body) (List.drop (0 : Nat) f.body))).fst.body = []) && !decide (List.getD (ipDecode (List.take (List.length f.body) (List.drop (0 : Nat) f.body))).fst.body (0 : Nat) (0 : UInt8) = (135 : UInt8))) ((0 : Int) ≤ (0 : Int) ∧ (0 : Int) < (↑(List.length (ipDecode (List.take (List.length f.body) (List.drop (0 : Nat) f.body))).fst.body) : Int)) ∧ brP (decide ((ipDecode (List.take (List.length f.body) (List.drop (0 : Nat) f.body))).fst.proto = (58 : Int)) && !decide ((ipDecode (List.take (List.length f.body) (List.drop (0 : Nat) f.body))).fst.body = []) && (decide (List.getD (ipDecode (List.take (List.length f.body) (List.drop (0 : Nat) f.body))).fst.body (0 : Nat) (0 : UInt8) = (135 : UInt8)) || decide (List.getD (ipDecode (List.take (List.length f.body) (List.drop (0 : Nat) f.body))).fst.body (0 : Nat) (0 : UInt8) = (136 : UInt8)))) (List.length f.body ≤ (140737488351232 : Nat) ∧ brP (decide ((nbRead (Fm.mk (Mc.mk f.a.a0 f.a.a1 f.a.a2 f.a.a3 f.a.a4 f.a.a5) (Mc.mk f.b.a0 f.b.a1 f.b.a2 f.b.a3 f.b.a4 f.b.a5) f.ty f.body)).snd = (0 : Int))) (K (.bool true) [.vals [.byte c.mac.a0, .byte c.mac.a1, .byte c.mac.a2, .byte c.mac.a3, .byte c.mac.a4, .byte c.mac.a5, .str c.addr, .str c.peer, .int .i64 c.id, .int .i64 c.pri, .int .i64 c.every, .bool c.pre, .ro (List.length c.vips) (1 : Nat) fun i => [.str (List.getD c.vips i [])], .ro (List.length c.trs) (2 : Nat) (trF c.trs), .ro (List.length c.svs) (10 : Nat) (svF c.svs), .bool m, .int .i64 1, .int .i64 0, .byte f.a.a0, .byte f.a.a1, .byte f.a.a2, .byte f.a.a3, .byte f.a.a4, .byte f.a.a5, .byte f.b.a0, .byte f.b.a1, .byte f.b.a2, .byte f.b.a3, .byte f.b.a4, .byte f.b.a5, .int .i64 f.ty, .str f.body, .int .i64 (nbRead (Fm.mk (Mc.mk f.a.a0 f.a.a1 f.a.a2 f.a.a3 f.a.a4 f.a.a5) (Mc.mk f.b.a0 f.b.a1 f.b.a2 f.b.a3 f.b.a4 f.b.a5) f.ty f.body)).fst.kind, .byte (nbRead
 (Fm.mk (Mc.mk f.a.a0 f.a.a1 f.a.a2 f.a.a3 f.a.a4 f.a.a5) (Mc.mk f.b.a0 f.b.a1 f.b.a2 f.b.a3 f.b.a4 f.b.a5) f.ty f.body)).fst.mac.a0, .byte (nbRead (Fm.mk (Mc.mk f.a.a0 f.a.a1 f.a.a2 f.a.a3 f.a.a4 f.a.a5) (Mc.mk f.b.a0 f.b.a1 f.b.a2 f.b.a3 f.b.a4 f.b.a5) f.ty f.body)).fst.mac.a1, .byte (nbRead (Fm.mk (Mc.mk f.a.a0 f.a.a1 f.a.a2 f.a.a3 f.a.a4 f.a.a5) (Mc.mk f.b.a0 f.b.a1 f.b.a2 f.b.a3 f.b.a4 f.b.a5) f.ty f.body)).fst.mac.a2, .byte (nbRead (Fm.mk (Mc.mk f.a.a0 f.a.a1 f.a.a2 f.a.a3 f.a.a4 f.a.a5) (Mc.mk f.b.a0 f.b.a1 f.b.a2 f.b.a3 f.b.a4 f.b.a5) f.ty f.body)).fst.mac.a3, .byte (nbRead (Fm.mk (Mc.mk f.a.a0 f.a.a1 f.a.a2 f.a.a3 f.a.a4 f.a.a5) (Mc.mk f.b.a0 f.b.a1 f.b.a2 f.b.a3 f.b.a4 f.b.a5) f.ty f.body)).fst.mac.a4, .byte (nbRead (Fm.mk (Mc.mk f.a.a0 f.a.a1 f.a.a2 f.a.a3 f.a.a4 f.a.a5) (Mc.mk f.b.a0 f.b.a1 f.b.a2 f.b.a3 f.b.a4 f.b.a5) f.ty f.body)).fst.mac.a5, .str (nbRead (Fm.mk (Mc.mk f.a.a0 f.a.a1 f.a.a2 f.a.a3 f.a.a4 f.a.a5) (Mc.mk f.b.a0 f.b.a1 f.b.a2 f.b.a3 f.b.a4 f.b.a5) f.ty f.body)).fst.addr, .str (nbRead (Fm.mk (Mc.mk f.a.a0 f.a.a1 f.a.a2 f.a.a3 f.a.a4 f.a.a5) (Mc.mk f.b.a0 f.b.a1 f.b.a2 f.b.a3 f.b.a4 f.b.a5) f.ty f.body)).fst.target, .bool (nbRead (Fm.mk (Mc.mk f.a.a0 f.a.a1 f.a.a2 f.a.a3 f.a.a4 f.a.a5) (Mc.mk f.b.a0 f.b.a1 f.b.a2 f.b.a3 f.b.a4 f.b.a5) f.ty f.body)).fst.asked, .int .i64 0, .int .i64 0, .int .i64 0, .nilS, .str (ipDecode (List.take (List.length f.body) (List.drop (0 : Nat) f.body))).fst.src, .str (ipDecode (List.take (List.length f.body) (List.drop (0 : Nat) f.body))).fst.dst, .int .i64 (ipDecode (List.take (List.length f.body) (List.drop (0 : Nat) f.body))).fst.proto, .int .i64 (ipDecode (List.take (List.length f.body) (List.drop (0 : Nat) f.body))).fst.ttl, .str (ipDecode (List.take (List.length f.body) (List.drop (0 : Nat) f.body))).fst.body, .int .i64 0, .str [], .str [], .int .i64 0, .int .i64 0, .int .i64 0, .int .i64 0, .int .i64 0]]) (K (.bool true) [.vals [.byte c.mac.a0, .byte c.mac.a1, .byte c.mac.a2, .byte c.mac.a3, .byte c.mac.a4,
 .byte c.mac.a5, .str c.addr, .str c.peer, .int .i64 c.id, .int .i64 c.pri, .int .i64 c.every, .bool c.pre, .ro (List.length c.vips) (1 : Nat) fun i => [.str (List.getD c.vips i [])], .ro (List.length c.trs) (2 : Nat) (trF c.trs), .ro (List.length c.svs) (10 : Nat) (svF c.svs), .bool m, .int .i64 0, .int .i64 (nbRead (Fm.mk (Mc.mk f.a.a0 f.a.a1 f.a.a2 f.a.a3 f.a.a4 f.a.a5) (Mc.mk f.b.a0 f.b.a1 f.b.a2 f.b.a3 f.b.a4 f.b.a5) f.ty f.body)).snd, .byte 0, .byte 0, .byte 0, .byte 0, .byte 0, .byte 0, .byte 0, .byte 0, .byte 0, .byte 0, .byte 0, .byte 0, .int .i64 0, .str [], .int .i64 0, .byte 0, .byte 0, .byte 0, .byte 0, .byte 0, .byte 0, .str [], .str [], .bool false, .int .i64 0, .int .i64 0, .int .i64 0, .nilS, .str [], .str [], .int .i64 0, .int .i64 0, .str [], .int .i64 0, .str [], .str [], .int .i64 0, .int .i64 0, .int .i64 0, .int .i64 0, .int .i64 0]])) (K (.bool false) [.vals [.byte c.mac.a0, .byte c.mac.a1, .byte c.mac.a2, .byte c.mac.a3, .byte c.mac.a4, .byte c.mac.a5, .str c.addr, .str c.peer, .int .i64 c.id, .int .i64 c.pri, .int .i64 c.every, .bool c.pre, .ro (List.length c.vips) (1 : Nat) fun i => [.str (List.getD c.vips i [])], .ro (List.length c.trs) (2 : Nat) (trF c.trs), .ro (List.length c.svs) (10 : Nat) (svF c.svs), .bool m, .int .i64 0, .int .i64 0, .byte f.a.a0, .byte f.a.a1, .byte f.a.a2, .byte f.a.a3, .byte f.a.a4, .byte f.a.a5, .byte f.b.a0, .byte f.b.a1, .byte f.b.a2, .byte f.b.a3, .byte f.b.a4, .byte f.b.a5, .int .i64 f.ty, .str f.body, .int .i64 0, .byte 0, .byte 0, .byte 0, .byte 0, .byte 0, .byte 0, .str [], .str [], .bool false, .int .i64 0, .int .i64 0, .int .i64 0, .nilS, .str (ipDecode (List.take (List.length f.body) (List.drop (0 : Nat) f.body))).fst.src, .str (ipDecode (List.take (List.length f.body) (List.drop (0 : Nat) f.body))).fst.dst, .int .i64 (ipDecode (List.take (List.length f.body) (List.drop (0 : Nat) f.body))).fst.proto, .int .i64 (ipDecode (List.take (List.length f.body) (List.drop (0 : Nat) f.body))).fst.ttl,
 .str (ipDecode (List.take (List.length f.body) (List.drop (0 : Nat) f.body))).fst.body, .int .i64 0, .str [], .str [], .int .i64 0, .int .i64 0, .int .i64 0, .int .i64 0, .int .i64 0]]))) (K (.bool true) [.vals [.byte c.mac.a0, .byte c.mac.a1, .byte c.mac.a2, .byte c.mac.a3, .byte c.mac.a4, .byte c.mac.a5, .str c.addr, .str c.peer, .int .i64 c.id, .int .i64 c.pri, .int .i64 c.every, .bool c.pre, .ro (List.length c.vips) (1 : Nat) fun i => [.str (List.getD c.vips i [])], .ro (List.length c.trs) (2 : Nat) (trF c.trs), .ro (List.length c.svs) (10 : Nat) (svF c.svs), .bool m, .int .i64 0, .int .i64 (ipDecode (List.take (List.length f.body) (List.drop (0 : Nat) f.body))).snd, .byte 0, .byte 0, .byte 0, .byte 0, .byte 0, .byte 0, .byte 0, .byte 0, .byte 0, .byte 0, .byte 0, .byte 0, .int .i64 0, .str [], .int .i64 0, .byte 0, .byte 0, .byte 0, .byte 0, .byte 0, .byte 0, .str [], .str [], .bool false, .int .i64 0, .int .i64 0, .int .i64 0, .nilS, .str [], .str [], .int .i64 0, .int .i64 0, .str [], .int .i64 0, .str [], .str [], .int .i64 0, .int .i64 0, .int .i64 0, .int .i64 0, .int .i64 0]])) (K (.bool true) [.vals [.byte c.mac.a0, .byte c.mac.a1, .byte c.mac.a2, .byte c.mac.a3, .byte c.mac.a4, .byte c.mac.a5, .str c.addr, .str c.peer, .int .i64 c.id, .int .i64 c.pri, .int .i64 c.every, .bool c.pre, .ro (List.length c.vips) (1 : Nat) fun i => [.str (List.getD c.vips i [])], .ro (List.length c.trs) (2 : Nat) (trF c.trs), .ro (List.length c.svs) (10 : Nat) (svF c.svs), .bool m, .int .i64 0, .int .i64 203, .byte 0, .byte 0, .byte 0, .byte 0, .byte 0, .byte 0, .byte 0, .byte 0, .byte 0, .byte 0, .byte 0, .byte 0, .int .i64 0, .str [], .int .i64 0, .byte 0, .byte 0, .byte 0, .byte 0, .byte 0, .byte 0, .str [], .str [], .bool false, .int .i64 0, .int .i64 0, .int .i64 0, .nilS, .str [], .str [], .int .i64 0, .int .i64 0, .str [], .int .i64 0, .str [], .str [], .int .i64 0, .int .i64 0, .int .i64 0, .int .i64 0, .int .i64 0]])))) := by kernel_rfl
attribute [local irreducible] fnP in
theorem __outrider_admit_gate__packet_p : ∀ args H K, packetRow args H K → fnP Try.prog Tgs2 ann___outrider_admit_gate__packet Try.f20 args H K := by
  intro args H K hh
  unfold packetRow at hh
  split at hh
  · rename_i cs
    obtain ⟨⟨c, m, f, p, rfl, hc, hb, hfb⟩, hK⟩ := hh
    change optP (pkO f p) (fun x => brP (decide (x.why = 0)) (brP x.noted (K (.bool true) [.vals (noteCells (gateCells c m f p) x)]) (K (.bool false) [.vals (gateCells c m f x.p)])) (K (.bool true) [.vals (dropCells (gateCells c m f p) x.why)])) False at hK
    rw [gpacket_eq, List.drop_zero, List.take_length]
    have nx : ∀ {l : List UInt8} {k j : Bool}, impP (k && !decide (l = [])) ((0 : Int) ≤ 0 ∧ (0 : Int) < (l.length : Int)) := fun {l k j} h => by
      cases l with
      | nil => simp at h
      | cons x r => exact ⟨by omega, by simp⟩
    have nx2 : ∀ {l : List UInt8} {k j : Bool}, impP (k && !decide (l = []) && j) ((0 : Int) ≤ 0 ∧ (0 : Int) < (l.length : Int)) := fun {l k j} h => by
      cases l with
      | nil => simp at h
      | cons x r => exact ⟨by omega, by simp⟩
    change brP (decide (f.ty = 2054)) (_ ∧ brP (decide ((nbRead f).2 = 0)) _ _) _
    unfold pkO at hK
    by_cases h1 : f.ty = 2054
    · rw [if_pos h1] at hK
      rw [decide_eq_true h1]
      refine ⟨hfb, ?_⟩
      change brP (decide ((nbRead f).2 = 0)) _ _ at hK
      by_cases h2 : (nbRead f).2 = 0
      · rw [decide_eq_true h2] at hK ⊢; exact hK
      · rw [decide_eq_false h2] at hK ⊢; exact hK
    · rw [if_neg h1] at hK
      rw [decide_eq_false h1]
      change brP (decide (f.ty = 2048)) _ _
      have vs : f.ty = 2048 ∨ f.ty = 34525 ∨ ¬ (f.ty = 2048 ∨ f.ty = 34525) := by omega
      have e16 : decide (((ipDecode f.body).1.src.length : Int) = 16) = decide ((ipDecode f.body).1.src.length = 16) := by
        rw [Bool.eq_iff_iff, decide_eq_true_eq, decide_eq_true_eq]; omega
      rw [e16]
      rcases vs with v | v | v
      · rw [decide_eq_true v]
        rw [if_neg (show ¬ ¬ (f.ty = 2048 ∨ f.ty = 34525) by omega)] at hK
        refine ⟨by omega, ?_⟩
        by_cases h3 : (ipDecode f.body).2 = 0
        · rw [if_neg (by rw [h3]; decide)] at hK
          rw [decide_eq_true h3]
          refine brP_nd (fun h4 => ?_) (fun h4 => ⟨nx (j := false), nx2, ?_⟩)
          · rw [if_pos h4] at hK; exact hK
          · rw [if_neg (by simpa using h4)] at hK
            change brP (pkNote (ipDecode f.body).1) (_ ∧ brP (decide ((nbRead f).2 = 0)) _ _) _
            by_cases h5 : pkNote (ipDecode f.body).1 = true
            · rw [if_pos h5] at hK
              rw [h5]
              refine ⟨hfb, ?_⟩
              change brP (decide ((nbRead f).2 = 0)) _ _ at hK
              by_cases h2 : (nbRead f).2 = 0
              · rw [decide_eq_true h2] at hK ⊢; exact hK
              · rw [decide_eq_false h2] at hK ⊢; exact hK
            · rw [if_neg h5] at hK
              rw [show pkNote (ipDecode f.body).1 = false by simpa using h5]
              exact hK
        · rw [if_pos h3] at hK
          rw [decide_eq_false h3]
          change brP (decide ((ipDecode f.body).2 = 0)) _ _ at hK
          rw [decide_eq_false h3] at hK
          exact hK
      · rw [decide_eq_false (show ¬ f.ty = 2048 by omega)]
        change brP (decide (f.ty = 34525)) _ _
        rw [decide_eq_true v]
        rw [decide_eq_true v] at hK
        rw [if_neg (show ¬ ¬ (f.ty = 2048 ∨ f.ty = 34525) by omega)] at hK
        refine ⟨by omega, ?_⟩
        by_cases h3 : (ipDecode f.body).2 = 0
        · rw [if_neg (by rw [h3]; decide)] at hK
          rw [decide_eq_true h3]
          refine brP_nd (fun h4 => ?_) (fun h4 => ⟨nx (j := false), nx2, ?_⟩)
          · rw [if_pos h4] at hK; exact hK
          · rw [if_neg (by simpa using h4)] at hK
            change brP (pkNote (ipDecode f.body).1) (_ ∧ brP (decide ((nbRead f).2 = 0)) _ _) _
            by_cases h5 : pkNote (ipDecode f.body).1 = true
            · rw [if_pos h5] at hK
              rw [h5]
              refine ⟨hfb, ?_⟩
              change brP (decide ((nbRead f).2 = 0)) _ _ at hK
              by_cases h2 : (nbRead f).2 = 0
              · rw [decide_eq_true h2] at hK ⊢; exact hK
              · rw [decide_eq_false h2] at hK ⊢; exact hK
            · rw [if_neg h5] at hK
              rw [show pkNote (ipDecode f.body).1 = false by simpa using h5]
              exact hK
        · rw [if_pos h3] at hK
          rw [decide_eq_false h3]
          change brP (decide ((ipDecode f.body).2 = 0)) _ _ at hK
          rw [decide_eq_false h3] at hK
          exact hK
      · rw [if_pos v] at hK
        rw [decide_eq_false (show ¬ f.ty = 2048 by omega)]
        change brP (decide (f.ty = 34525)) _ _
        rw [decide_eq_false (show ¬ f.ty = 34525 by omega)]
        exact hK
  · exact hh.elim
def Tgs3 : Specs := ext Tgs2 20 (packetRow)
theorem Tgs3_sound : TSound Try.prog Tgs3 := ext_sound Tgs2_sound (row_of Tgs2_sound mixed Try.func20 (by decide +kernel) __outrider_admit_gate__packet_p)
abbrev Tgs : Specs := Tgs3
theorem Tgs_sound : TSound Try.prog Tgs := Tgs3_sound
end Go.Proofs.Ytnbbaemijogeoaa.Ae

