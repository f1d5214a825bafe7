/- advert.Decode: the region that makes its two shared variables, in whatever order. -/
import Derived.Test.YtbjolilknkbehaaFde
set_option linter.unusedSimpArgs false
set_option linter.unusedVariables false
set_option maxRecDepth 100000
namespace Go.Proofs.Ytbjolilknkbehaa.Ae
open Go
noncomputable def d1ops : Array Oper := match dc1 with
  | .region _ ops _ => ops
  | _ => #[]
theorem dc1_is : dc1 = .region 1 d1ops true := by kernel_rfl
def d1pr : List (List Nat) := [[], [0], [], [2], [2, 3], [], [], [0, 1, 5, 6]]
theorem d1_size : d1ops.size = 9 := by kernel_rfl
theorem d1_facts : factsOkC d1ops 8 dcX.nt = true := by kernel_rfl
theorem d1_tail : seqTail d1ops 8 = true := by kernel_rfl
theorem d1_preds : predsOk d1ops 0 d1pr = true := by kernel_rfl
noncomputable def d1op (i : Nat) : Oper := (d1ops[i]?).getD default
theorem d1_get : ∀ i, i < 9 → d1ops[i]? = some (d1op i) := fun i h => by
  unfold d1op
  rw [Array.getElem?_eq_getElem (by rw [d1_size]; exact h)]; rfl
theorem d1_guard : (d1op 0).guard = none ∧ (d1op 1).guard = none ∧ (d1op 2).guard = none ∧ (d1op 3).guard = none ∧ (d1op 4).guard = none ∧ (d1op 5).guard = none ∧ (d1op 6).guard = none ∧ (d1op 7).guard = none := by
  refine ⟨?_, ?_, ?_, ?_, ?_, ?_, ?_, ?_⟩ <;> kernel_rfl
/-- what the slots hold -/
def e1 (src dst : List UInt8) (proto ttl : Int) (body : List UInt8) (b0 b1 b2 b3 b4 b5 b6 sw : Bool) : Env :=
  [(1, .rop (dcP src dst proto ttl body)), (2, .ptr 0 0), (3, .int .i64 0), (11, cond b0 (.rop [.str body]) .undef), (12, cond b1 (.str body) .undef), (13, cond b2 (.rop (dcP src dst proto ttl body)) .undef), (14, cond b3 (.str src) .undef), (15, cond b4 (.int .i64 (src.length : Int)) .undef), (4, cond b5 (.ptr (cond sw 2 1) 0) .undef), (5, cond b6 (.ptr (cond sw 1 2) 0) .undef)]
/-- what was made, in the order in which it was -/
def h1 (body : List UInt8) (b5 b6 b7 sw : Bool) : Hp := .vals dcZ :: cond b5 (cond b6 (cond sw [.vals [.int .i64 0], .vals [.str (cond b7 body [])]] [.vals [.str (cond b7 body [])], .vals [.int .i64 0]]) [.vals [.str (cond b7 body [])]]) (cond b6 [.vals [.int .i64 0]] [])
def A1 (R0 : Nat → Prop) (w0 : World) (m0 : Mp) (H0 : Hp) (src dst : List UInt8) (proto ttl : Int) (body : List UInt8) (p : Nat → Bool) (a : Act) (w : World) : Prop :=
  ∃ sw : Bool, (p 5 = true → p 6 = false → sw = false) ∧ (p 6 = true → p 5 = false → sw = true) ∧ ∃ R m, Far R0 w0 m0 H0 R w m (h1 body (p 5) (p 6) (p 7) sw) ∧ EnvR R w m (h1 body (p 5) (p 6) (p 7) sw) (e1 src dst proto ttl body (p 0) (p 1) (p 2) (p 3) (p 4) (p 5) (p 6) sw) a
theorem d1_op0 (src dst : List UInt8) (proto ttl : Int) (body : List UInt8) (b1 b2 b3 b4 b5 b6 b7 sw : Bool) : opF Try.prog (d1op 0).op (e1 src dst proto ttl body false b1 b2 b3 b4 b5 b6 sw) (h1 body b5 b6 b7 sw) = some ⟨none, .rop [.str body], noEff⟩ := by kernel_rfl
theorem d1_op1 (src dst : List UInt8) (proto ttl : Int) (body : List UInt8) (b2 b3 b4 b5 b6 b7 sw : Bool) : opF Try.prog (d1op 1).op (e1 src dst proto ttl body true false b2 b3 b4 b5 b6 sw) (h1 body b5 b6 b7 sw) = some ⟨none, .str body, noEff⟩ := by kernel_rfl
theorem d1_op2 (src dst : List UInt8) (proto ttl : Int) (body : List UInt8) (b0 b1 b3 b4 b5 b6 b7 sw : Bool) : opF Try.prog (d1op 2).op (e1 src dst proto ttl body b0 b1 false b3 b4 b5 b6 sw) (h1 body b5 b6 b7 sw) = some ⟨none, .rop (dcP src dst proto ttl body), noEff⟩ := by kernel_rfl
theorem d1_op3 (src dst : List UInt8) (proto ttl : Int) (body : List UInt8) (b0 b1 b4 b5 b6 b7 sw : Bool) : opF Try.prog (d1op 3).op (e1 src dst proto ttl body b0 b1 true false b4 b5 b6 sw) (h1 body b5 b6 b7 sw) = some ⟨none, .str src, noEff⟩ := by kernel_rfl
theorem d1_op4 (src dst : List UInt8) (proto ttl : Int) (body : List UInt8) (b0 b1 b5 b6 b7 sw : Bool) : opF Try.prog (d1op 4).op (e1 src dst proto ttl body b0 b1 true true false b5 b6 sw) (h1 body b5 b6 b7 sw) = some ⟨none, .int .i64 (src.length : Int), noEff⟩ := by kernel_rfl
theorem d1_op5a (src dst : List UInt8) (proto ttl : Int) (body : List UInt8) (b0 b1 b2 b3 b4 b7 sw : Bool) : opF Try.prog (d1op 5).op (e1 src dst proto ttl body b0 b1 b2 b3 b4 false false sw) (h1 body false false b7 sw) = some ⟨none, .ptr 1 0, ⟨[], [.vals [.str []]]⟩⟩ := by kernel_rfl
theorem d1_op5b (src dst : List UInt8) (proto ttl : Int) (body : List UInt8) (b0 b1 b2 b3 b4 b7 sw : Bool) : opF Try.prog (d1op 5).op (e1 src dst proto ttl body b0 b1 b2 b3 b4 false true sw) (h1 body false true b7 sw) = some ⟨none, .ptr 2 0, ⟨[], [.vals [.str []]]⟩⟩ := by kernel_rfl
theorem d1_op6a (src dst : List UInt8) (proto ttl : Int) (body : List UInt8) (b0 b1 b2 b3 b4 b7 sw : Bool) : opF Try.prog (d1op 6).op (e1 src dst proto ttl body b0 b1 b2 b3 b4 false false sw) (h1 body false false b7 sw) = some ⟨none, .ptr 1 0, ⟨[], [.vals [.int .i64 0]]⟩⟩ := by kernel_rfl
theorem d1_op6b (src dst : List UInt8) (proto ttl : Int) (body : List UInt8) (b0 b1 b2 b3 b4 b7 sw : Bool) : opF Try.prog (d1op 6).op (e1 src dst proto ttl body b0 b1 b2 b3 b4 true false sw) (h1 body true false b7 sw) = some ⟨none, .ptr 2 0, ⟨[], [.vals [.int .i64 0]]⟩⟩ := by kernel_rfl
theorem d1_op7a (src dst : List UInt8) (proto ttl : Int) (body : List UInt8) (b2 b3 b4 : Bool) : opF Try.prog (d1op 7).op (e1 src dst proto ttl body true true b2 b3 b4 true true false) (h1 body true true false false) = some ⟨none, .undef, ⟨[(1, .vals [.str body])], []⟩⟩ := by kernel_rfl
theorem d1_op7b (src dst : List UInt8) (proto ttl : Int) (body : List UInt8) (b2 b3 b4 : Bool) : opF Try.prog (d1op 7).op (e1 src dst proto ttl body true true b2 b3 b4 true true true) (h1 body true true false true) = some ⟨none, .undef, ⟨[(2, .vals [.str body])], []⟩⟩ := by kernel_rfl
theorem d1_dst : (d1op 0).dst = some 11 ∧ (d1op 1).dst = some 12 ∧ (d1op 2).dst = some 13 ∧ (d1op 3).dst = some 14 ∧ (d1op 4).dst = some 15 ∧ (d1op 5).dst = some 4 ∧ (d1op 6).dst = some 5 ∧ (d1op 7).dst = none := by
  refine ⟨?_, ?_, ?_, ?_, ?_, ?_, ?_, ?_⟩ <;> kernel_rfl
theorem d1_env (R : Nat → Prop) (w : World) (m : Mp) (H : Hp) (a : Act) (env env' : Env) (d : Nat) (v : AVal) (hE : EnvR R w m H ((d, v) :: env) a) (h1 : eget d env' = v) (h2 : ∀ t, Nat.beq t d = false → eget t env' = eget t env) : EnvR R w m H env' a := fun t => by
  have := hE t
  simp only [eget] at this
  cases hb : Nat.beq t d with
  | true =>
    rw [hb] at this
    obtain rfl := Nat.eq_of_beq_eq_true hb
    rw [h1]; exact this
  | false =>
    rw [hb] at this
    rw [h2 t hb]; exact this
theorem d1_step (R0 : Nat → Prop) (w0 : World) (m0 : Mp) (H0 : Hp) (src dst : List UInt8) (proto ttl : Int) (body : List UInt8) (p p' : Nat → Bool) (i : Nat) (o : Oper) (a : Act) (w : World) (hi : i < 8) (ho : d1ops[i]? = some o) (hclo : Clo d1pr p 8) (hp : p i = false) (hpre : ∀ j ∈ nthL i d1pr, p j = true) (hp' : p' i = true)
    (hpo : ∀ k, k ≠ i → p' k = p k) (hsz : a.tmps.size = dcX.nt) (hA : A1 R0 w0 m0 H0 src dst proto ttl body p a w) :
    (Region.wanted o (yielded d1ops a.tmps) = true ∧ gives dcX.P o a w fun x w' => A1 R0 w0 m0 H0 src dst proto ttl body p' (a.put o.dst x) w') ∨ (Region.wanted o (yielded d1ops a.tmps) = false ∧ A1 R0 w0 m0 H0 src dst proto ttl body p' (a.put o.dst undef) w) := by
  left
  have hnt : dcX.nt = 66 := by kernel_rfl
  have eo : o = d1op i := by
    rw [d1_get i (by omega)] at ho
    exact (Option.some.inj ho).symm
  subst eo
  have h75 : p 7 = true → p 5 = true ∧ p 6 = true := fun h => ⟨hclo 7 (by omega) h 5 (by simp [nthL, d1pr]), hclo 7 (by omega) h 6 (by simp [nthL, d1pr])⟩
  obtain ⟨g0, g1, g2, g3, g4, g5, g6, g7⟩ := d1_guard
  obtain ⟨t0, t1, t2, t3, t4, t5, t6, t7⟩ := d1_dst
  obtain ⟨sw, s5, s6, R, m, hF, hE⟩ := hA
  have mono : ∀ {S S' : Value → World → Prop} {r : Result Next}, givesUpon Try.prog S r → (∀ x w', S x w' → S' x w') → givesUpon Try.prog S' r := fun {S S' r} h hs => by
    cases r with
    | ok n w' =>
      cases n <;> simp only [givesUpon] at h ⊢
      case value u => exact hs _ _ h
      case skip => exact hs _ _ h
      case enter f args => exact Calls.mono h fun e w'' ⟨v, he, hr⟩ => ⟨v, he, hs _ _ hr⟩
    | halt x w' => simp only [givesUpon] at h
  have ok : ∀ d, d < 66 → dstOk a.tmps.size (some d) = true := fun d h => by
    rw [hsz, hnt]; exact Nat.ble_eq_true_of_le h
  have hc : i = 0 ∨ i = 1 ∨ i = 2 ∨ i = 3 ∨ i = 4 ∨ i = 5 ∨ i = 6 ∨ i = 7 := by omega
  rcases hc with rfl | rfl | rfl | rfl | rfl | rfl | rfl | rfl
  · refine ⟨by simp [Region.wanted, g0], ?_⟩
    rw [hp] at hE
    refine mono (gstep (P := Try.prog) hF hE (d1_op0 ..) (by rw [t0]; exact ok 11 (by omega))) fun x w' ⟨R', m', F', E'⟩ => ⟨sw, ?_, ?_, R', m', ?_, ?_⟩
    · rw [hpo 5 (by omega), hpo 6 (by omega)]; exact s5
    · rw [hpo 5 (by omega), hpo 6 (by omega)]; exact s6
    · rw [noEff_app] at F'; rw [hpo 5 (by omega), hpo 6 (by omega), hpo 7 (by omega)]; exact F'
    · rw [hpo 1 (by omega), hpo 2 (by omega), hpo 3 (by omega), hpo 4 (by omega), hpo 5 (by omega), hpo 6 (by omega), hpo 7 (by omega), hp', t0]
      rw [noEff_app, t0] at E'
      exact d1_env R' w' m' _ _ _ _ 11 _ E' rfl fun t ht => by simp only [e1, eget, ht, cond_false]
  · refine ⟨by simp [Region.wanted, g1], ?_⟩
    have q0 := hpre 0 (by simp [nthL, d1pr])
    rw [q0, hp] at hE
    refine mono (gstep (P := Try.prog) hF hE (d1_op1 ..) (by rw [t1]; exact ok 12 (by omega))) fun x w' ⟨R', m', F', E'⟩ => ⟨sw, ?_, ?_, R', m', ?_, ?_⟩
    · rw [hpo 5 (by omega), hpo 6 (by omega)]; exact s5
    · rw [hpo 5 (by omega), hpo 6 (by omega)]; exact s6
    · rw [noEff_app] at F'; rw [hpo 5 (by omega), hpo 6 (by omega), hpo 7 (by omega)]; exact F'
    · rw [hpo 0 (by omega), hpo 2 (by omega), hpo 3 (by omega), hpo 4 (by omega), hpo 5 (by omega), hpo 6 (by omega), hpo 7 (by omega), q0, hp', t1]
      rw [noEff_app, t1] at E'
      exact d1_env R' w' m' _ _ _ _ 12 _ E' rfl fun t ht => by simp only [e1, eget, ht, cond_false]
  · refine ⟨by simp [Region.wanted, g2], ?_⟩
    rw [hp] at hE
    refine mono (gstep (P := Try.prog) hF hE (d1_op2 ..) (by rw [t2]; exact ok 13 (by omega))) fun x w' ⟨R', m', F', E'⟩ => ⟨sw, ?_, ?_, R', m', ?_, ?_⟩
    · rw [hpo 5 (by omega), hpo 6 (by omega)]; exact s5
    · rw [hpo 5 (by omega), hpo 6 (by omega)]; exact s6
    · rw [noEff_app] at F'; rw [hpo 5 (by omega), hpo 6 (by omega), hpo 7 (by omega)]; exact F'
    · rw [hpo 0 (by omega), hpo 1 (by omega), hpo 3 (by omega), hpo 4 (by omega), hpo 5 (by omega), hpo 6 (by omega), hpo 7 (by omega), hp', t2]
      rw [noEff_app, t2] at E'
      exact d1_env R' w' m' _ _ _ _ 13 _ E' rfl fun t ht => by simp only [e1, eget, ht, cond_false]
  · refine ⟨by simp [Region.wanted, g3], ?_⟩
    have q2 := hpre 2 (by simp [nthL, d1pr])
    rw [q2, hp] at hE
    refine mono (gstep (P := Try.prog) hF hE (d1_op3 ..) (by rw [t3]; exact ok 14 (by omega))) fun x w' ⟨R', m', F', E'⟩ => ⟨sw, ?_, ?_, R', m', ?_, ?_⟩
    · rw [hpo 5 (by omega), hpo 6 (by omega)]; exact s5
    · rw [hpo 5 (by omega), hpo 6 (by omega)]; exact s6
    · rw [noEff_app] at F'; rw [hpo 5 (by omega), hpo 6 (by omega), hpo 7 (by omega)]; exact F'
    · rw [hpo 0 (by omega), hpo 1 (by omega), hpo 2 (by omega), hpo 4 (by omega), hpo 5 (by omega), hpo 6 (by omega), hpo 7 (by omega), q2, hp', t3]
      rw [noEff_app, t3] at E'
      exact d1_env R' w' m' _ _ _ _ 14 _ E' rfl fun t ht => by simp only [e1, eget, ht, cond_false]
  · refine ⟨by simp [Region.wanted, g4], ?_⟩
    have q2 := hpre 2 (by simp [nthL, d1pr])
    have q3 := hpre 3 (by simp [nthL, d1pr])
    rw [q2, q3, hp] at hE
    refine mono (gstep (P := Try.prog) hF hE (d1_op4 ..) (by rw [t4]; exact ok 15 (by omega))) fun x w' ⟨R', m', F', E'⟩ => ⟨sw, ?_, ?_, R', m', ?_, ?_⟩
    · rw [hpo 5 (by omega), hpo 6 (by omega)]; exact s5
    · rw [hpo 5 (by omega), hpo 6 (by omega)]; exact s6
    · rw [noEff_app] at F'; rw [hpo 5 (by omega), hpo 6 (by omega), hpo 7 (by omega)]; exact F'
    · rw [hpo 0 (by omega), hpo 1 (by omega), hpo 2 (by omega), hpo 3 (by omega), hpo 5 (by omega), hpo 6 (by omega), hpo 7 (by omega), q2, q3, hp', t4]
      rw [noEff_app, t4] at E'
      exact d1_env R' w' m' _ _ _ _ 15 _ E' rfl fun t ht => by simp only [e1, eget, ht, cond_false]
  · refine ⟨by simp [Region.wanted, g5], ?_⟩
    have h7 : p 7 = false := by
      cases h : p 7 with
      | false => rfl
      | true => have := h75 h; rw [this.1] at hp; cases hp
    cases ho6 : p 6 with
    | false =>
      rw [hp, ho6, h7] at hF hE
      refine mono (gstep (P := Try.prog) hF hE (d1_op5a ..) (by rw [t5]; exact ok 4 (by omega))) fun x w' ⟨R', m', F', E'⟩ => ⟨false, ?_, ?_, R', m', ?_, ?_⟩
      · rw [hp', hpo 6 (by omega), ho6]; intro h1 h2; first | rfl | (exfalso; revert h1 h2; decide)
      · rw [hp', hpo 6 (by omega), ho6]; intro h1 h2; first | rfl | (exfalso; revert h1 h2; decide)
      · rw [hp', hpo 6 (by omega), hpo 7 (by omega), ho6, h7]; exact F'
      · rw [hpo 0 (by omega), hpo 1 (by omega), hpo 2 (by omega), hpo 3 (by omega), hpo 4 (by omega), hpo 6 (by omega), hpo 7 (by omega), hp', ho6, h7, t5]
        rw [t5] at E'
        exact d1_env R' w' m' _ _ _ _ 4 _ E' rfl fun t ht => by simp only [e1, eget, ht, cond_false, cond_true]
    | true =>
      obtain rfl := s6 ho6 hp
      rw [hp, ho6, h7] at hF hE
      refine mono (gstep (P := Try.prog) hF hE (d1_op5b ..) (by rw [t5]; exact ok 4 (by omega))) fun x w' ⟨R', m', F', E'⟩ => ⟨true, ?_, ?_, R', m', ?_, ?_⟩
      · rw [hp', hpo 6 (by omega), ho6]; intro h1 h2; first | rfl | (exfalso; revert h1 h2; decide)
      · rw [hp', hpo 6 (by omega), ho6]; intro h1 h2; first | rfl | (exfalso; revert h1 h2; decide)
      · rw [hp', hpo 6 (by omega), hpo 7 (by omega), ho6, h7]; exact F'
      · rw [hpo 0 (by omega), hpo 1 (by omega), hpo 2 (by omega), hpo 3 (by omega), hpo 4 (by omega), hpo 6 (by omega), hpo 7 (by omega), hp', ho6, h7, t5]
        rw [t5] at E'
        exact d1_env R' w' m' _ _ _ _ 4 _ E' rfl fun t ht => by simp only [e1, eget, ht, cond_false, cond_true]
  · refine ⟨by simp [Region.wanted, g6], ?_⟩
    have h7 : p 7 = false := by
      cases h : p 7 with
      | false => rfl
      | true => have := h75 h; rw [this.2] at hp; cases hp
    cases ho5 : p 5 with
    | false =>
      rw [hp, ho5, h7] at hF hE
      refine mono (gstep (P := Try.prog) hF hE (d1_op6a ..) (by rw [t6]; exact ok 5 (by omega))) fun x w' ⟨R', m', F', E'⟩ => ⟨true, ?_, ?_, R', m', ?_, ?_⟩
      · rw [hpo 5 (by omega), ho5, hp']; intro h1 h2; first | rfl | (exfalso; revert h1 h2; decide)
      · rw [hpo 5 (by omega), ho5, hp']; intro h1 h2; first | rfl | (exfalso; revert h1 h2; decide)
      · rw [hp', hpo 5 (by omega), hpo 7 (by omega), ho5, h7]; exact F'
      · rw [hpo 0 (by omega), hpo 1 (by omega), hpo 2 (by omega), hpo 3 (by omega), hpo 4 (by omega), hpo 5 (by omega), hpo 7 (by omega), hp', ho5, h7, t6]
        rw [t6] at E'
        exact d1_env R' w' m' _ _ _ _ 5 _ E' rfl fun t ht => by simp only [e1, eget, ht, cond_false, cond_true]
    | true =>
      obtain rfl := s5 ho5 hp
      rw [hp, ho5, h7] at hF hE
      refine mono (gstep (P := Try.prog) hF hE (d1_op6b ..) (by rw [t6]; exact ok 5 (by omega))) fun x w' ⟨R', m', F', E'⟩ => ⟨false, ?_, ?_, R', m', ?_, ?_⟩
      · rw [hpo 5 (by omega), ho5, hp']; intro h1 h2; first | rfl | (exfalso; revert h1 h2; decide)
      · rw [hpo 5 (by omega), ho5, hp']; intro h1 h2; first | rfl | (exfalso; revert h1 h2; decide)
      · rw [hp', hpo 5 (by omega), hpo 7 (by omega), ho5, h7]; exact F'
      · rw [hpo 0 (by omega), hpo 1 (by omega), hpo 2 (by omega), hpo 3 (by omega), hpo 4 (by omega), hpo 5 (by omega), hpo 7 (by omega), hp', ho5, h7, t6]
        rw [t6] at E'
        exact d1_env R' w' m' _ _ _ _ 5 _ E' rfl fun t ht => by simp only [e1, eget, ht, cond_false, cond_true]
  · refine ⟨by simp [Region.wanted, g7], ?_⟩
    have q0 := hpre 0 (by simp [nthL, d1pr])
    have q1 := hpre 1 (by simp [nthL, d1pr])
    have q5 := hpre 5 (by simp [nthL, d1pr])
    have q6 := hpre 6 (by simp [nthL, d1pr])
    rw [q0, q1, q5, q6, hp] at hE
    rw [q5, q6, hp] at hF
    cases sw with
    | false =>
      refine mono (gstep (P := Try.prog) hF hE (d1_op7a ..) (by rw [t7]; rfl)) fun x w' ⟨R', m', F', E'⟩ => ⟨false, ?_, ?_, R', m', ?_, ?_⟩
      · rw [hpo 5 (by omega), hpo 6 (by omega)]; exact s5
      · rw [hpo 5 (by omega), hpo 6 (by omega)]; exact s6
      · rw [hpo 5 (by omega), hpo 6 (by omega), hp', q5, q6]; exact F'
      · rw [hpo 0 (by omega), hpo 1 (by omega), hpo 2 (by omega), hpo 3 (by omega), hpo 4 (by omega), hpo 5 (by omega), hpo 6 (by omega), q0, q1, q5, q6, hp', t7]
        rw [t7] at E'
        exact E'
    | true =>
      refine mono (gstep (P := Try.prog) hF hE (d1_op7b ..) (by rw [t7]; rfl)) fun x w' ⟨R', m', F', E'⟩ => ⟨true, ?_, ?_, R', m', ?_, ?_⟩
      · rw [hpo 5 (by omega), hpo 6 (by omega)]; exact s5
      · rw [hpo 5 (by omega), hpo 6 (by omega)]; exact s6
      · rw [hpo 5 (by omega), hpo 6 (by omega), hp', q5, q6]; exact F'
      · rw [hpo 0 (by omega), hpo 1 (by omega), hpo 2 (by omega), hpo 3 (by omega), hpo 4 (by omega), hpo 5 (by omega), hpo 6 (by omega), q0, q1, q5, q6, hp', t7]
        rw [t7] at E'
        exact E'
theorem d1_enda (src dst : List UInt8) (proto ttl : Int) (body : List UInt8) : opsP dcX d1ops.toList (d1ops.toList.drop 8) ⟨e1 src dst proto ttl body true true true true true true true false, h1 body true true true false⟩ (fun s => normK 0 [1, 2, 3, 4, 5] s fun s => s = dcS2 src dst proto ttl body) = (dcS2 src dst proto ttl body = dcS2 src dst proto ttl body) := by kernel_rfl
theorem d1_endb (src dst : List UInt8) (proto ttl : Int) (body : List UInt8) : opsP dcX d1ops.toList (d1ops.toList.drop 8) ⟨e1 src dst proto ttl body true true true true true true true true, h1 body true true true true⟩ (fun s => normK 0 [1, 2, 3, 4, 5] s fun s => s = dcS2 src dst proto ttl body) = (dcS2 src dst proto ttl body = dcS2 src dst proto ttl body) := by kernel_rfl
attribute [local irreducible] opsP in
theorem d1_end (src dst : List UInt8) (proto ttl : Int) (body : List UInt8) (sw : Bool) : opsP dcX d1ops.toList (d1ops.toList.drop 8) ⟨e1 src dst proto ttl body true true true true true true true sw, h1 body true true true sw⟩ (fun s => normK 0 [1, 2, 3, 4, 5] s fun s => s = dcS2 src dst proto ttl body) := by
  cases sw with
  | false => rw [d1_enda]
  | true => rw [d1_endb]
theorem dc1_ok (src dst : List UInt8) (proto ttl : Int) (body : List UInt8) : CodeOk dcX dc1 (dcS1 src dst proto ttl body) .normal (dcS2 src dst proto ttl body) := by
  intro R0 w0 m0 H0 hl hS0 a w hI
  obtain ⟨⟨R, m, F0, hE⟩, hsz, hnd⟩ := hI
  rw [dc1_is]
  refine wp_region_any mixed ?_
  have hdr := F0.sim.drew
  have F1 := F0.trans hdr.far
  have hE1 := hE.far hdr.far F0.sim
  have hrep : ∀ i, (Array.replicate d1ops.size false).getD i false = false := fun i => by
    rw [Array.getD_eq_getD_getElem?, Array.getElem?_replicate]; split <;> rfl
  have hA0 : A1 R0 w0 m0 H0 src dst proto ttl body (fun k => (Array.replicate d1ops.size false).getD k false) a w.drew := by
    refine ⟨false, fun _ _ => rfl, fun h => ?_, R, m, ?_, ?_⟩
    · simp only [hrep] at h; cases h
    · simp only [hrep]; exact F1
    · simp only [hrep]
      refine EnvR.sub hE1 fun t => ?_
      simp only [e1, eget, dcS1, cond_false]
      cases Nat.beq t 1 <;> cases Nat.beq t 2 <;> cases Nat.beq t 3 <;> simp
  have key := any_gen (X := dcX) (ops := d1ops) (pr := d1pr) (nb := 8) (nt := dcX.nt) (Q := fun e1 a1 w1 => ExR .normal e1 ∧ Inv dcX.nt R0 w0 m0 H0 a1 w1 (dcS2 src dst proto ttl body)) (A := A1 R0 w0 m0 H0 src dst proto ttl body) (factsC_of d1_facts) d1_tail (fun i hi => by
      obtain ⟨o, h1, h2⟩ := predsOk_get d1_preds i (by simp [d1pr]; omega)
      rw [Nat.zero_add] at h1 h2
      exact ⟨o, h1, h2⟩) (fun p p' i o a w hi ho hc hno hps h1 h2 hs' hA => d1_step R0 w0 m0 H0 src dst proto ttl body p p' i o a w hi ho hc hno hps h1 h2 hs' hA) (fun a' w' hA hs' hn' => ?_) 8 (Array.replicate d1ops.size false) a w.drew hA0 hsz hnd (by simp) (fun i _ => hrep i) (fun k o _ hkl => by rw [hrep] at hkl; cases hkl) (by
      have : ∀ (r : List Nat), (r.filter fun i => !(Array.replicate d1ops.size false).getD i false) = r := fun r => by
        apply List.filter_eq_self.2
        intro i _
        rw [hrep i]; rfl
      rw [this]; simp)
  · rw [show 8 + (d1ops.size - 8) = d1ops.size from by rw [d1_size]] at key
    exact key
  · obtain ⟨sw, _, _, R', m', F', E'⟩ := hA
    obtain ⟨s', hk, hs⟩ := opsP_sound (X := dcX) Tdc_sound (d1_end src dst proto ttl body sw)
    rw [normK_iff] at hk
    refine hs R0 w0 m0 H0 a' w' ⟨⟨R', m', F', E'⟩, hs', hn'⟩ _ fun a2 w2 hI2 => ⟨rfl, ?_⟩
    have h2 := hI2.norm hS0 [1, 2, 3, 4, 5]
    rw [hl] at h2
    have hk' : _ = dcS2 src dst proto ttl body := hk
    rw [← hk']
    exact h2
end Go.Proofs.Ytbjolilknkbehaa.Ae

