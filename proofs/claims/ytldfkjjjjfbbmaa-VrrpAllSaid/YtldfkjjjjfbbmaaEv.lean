/- Chapter 13's law: what was done, as the document's; whether two rows of it are the same. -/
import Derived.Test.YtldfkjjjjfbbmaaAr13
set_option linter.unusedSimpArgs false
set_option linter.unusedVariables false
set_option maxRecDepth 100000
namespace Go.Proofs.Ytldfkjjjjfbbmaa
open Go Ae
/-- rows of what was done -/
structure EvF where
  a : Nat → Int
  b : Nat → Int
  c : Nat → Int
  d : Nat → Int
  n : Nat → Nat
  g : Nat → Nat → List UInt8
def IsEv (k : Nat) (f : Nat → List AVal) (e : EvF) : Prop := ∀ i, i < k → (∃ h : Nat → List AVal, f i = [.int .i64 (e.a i), .int .i64 (e.b i), .int .i64 (e.c i), .int .i64 (e.d i), .ro (e.n i) 1 h] ∧ IsStrs (e.n i) h ∧ e.g i = strAt h) ∧ e.n i ≤ 8796093022000
def EvSome (k : Nat) (f : Nat → List AVal) : Prop := (∃ e, IsEv k f e) ∧ k ≤ 1000000000000
def EvTwo (k k' : Nat) (f f' : Nat → List AVal) : Prop := k = k' ∧ k ≤ 1000000000000 ∧ ∃ e, IsEv k f e ∧ IsEv k f' e
end Go.Proofs.Ytldfkjjjjfbbmaa
namespace Go.Proofs.Ytldfkjjjjfbbmaa.Ae
open Go Go.RowKit
def evF (e : EvF) : Nat → List AVal := fun i => [.int .i64 (e.a i), .int .i64 (e.b i), .int .i64 (e.c i), .int .i64 (e.d i), .ro (e.n i) 1 (fun q => [.str (e.g i q)])]
theorem sim_nil0 {R : Nat → Prop} {w : World} {m : Mp} {H : Hp} (hS : Sim R w m H) : Sim R w Mp.nil [] :=
  ⟨hS.rlt, fun _ _ => rfl, fun k _ h _ => absurd (hget_out (Nat.zero_le k)) h, fun k h _ => absurd (hget_out (Nat.zero_le k)) h, fun k _ _ h _ _ _ => absurd (hget_out (Nat.zero_le k)) h⟩
/-- rows whose cells say as much -/
theorem VE.ro2 {H : Hp} {k sz : Nat} {f f' : Nat → List AVal} (h : ∀ i, i < k → (f' i).length = sz ∧ ∀ (j : Nat) (v' : AVal), (f' i)[j]? = some v' → ∃ v, (f i)[j]? = some v ∧ VE [] v v') : VE H (.ro k sz f) (.ro k sz f') := by
  intro R w m x hS hv
  cases hv with
  | ro _ _ _ a c g off X h1 h2 h3 h4 h5 h6 h7 =>
    refine .ro k sz f' a c g off X h1 h2 h3 h4 (fun i j v hi hv => ?_) (fun i j v hi hv => ?_) (fun i hi => (h i hi).1)
    · obtain ⟨v0, e0, _⟩ := (h i hi).2 j v hv
      exact h5 i j v0 hi e0
    · obtain ⟨v0, e0, e1⟩ := (h i hi).2 j v hv
      exact e1 R w Mp.nil _ (sim_nil0 hS) (h6 i j v0 hi e0)
theorem five {a b c d u a' b' c' d' u' : AVal} (h0 : VE [] a a') (h1 : VE [] b b') (h2 : VE [] c c') (h3 : VE [] d d') (h4 : VE [] u u') : ([a', b', c', d', u'] : List AVal).length = 5 ∧ ∀ (j : Nat) (v' : AVal), ([a', b', c', d', u'] : List AVal)[j]? = some v' → ∃ v, ([a, b, c, d, u] : List AVal)[j]? = some v ∧ VE [] v v' := by
  refine ⟨rfl, fun j v' hv => ?_⟩
  have hj : j < 5 := (List.getElem?_eq_some_iff.1 hv).1
  have : j = 0 ∨ j = 1 ∨ j = 2 ∨ j = 3 ∨ j = 4 := by omega
  rcases this with rfl | rfl | rfl | rfl | rfl <;> cases hv
  · exact ⟨_, rfl, h0⟩
  · exact ⟨_, rfl, h1⟩
  · exact ⟨_, rfl, h2⟩
  · exact ⟨_, rfl, h3⟩
  · exact ⟨_, rfl, h4⟩
theorem VE.strsr {H : Hp} {n : Nat} {f : Nat → List AVal} (h : IsStrs n f) : VE H (.ro n 1 (onlyStrs f)) (.ro n 1 f) := VE.ro fun i hi => (h i hi).symm
theorem VE.ev {H : Hp} {k : Nat} {f : Nat → List AVal} {e : EvF} (h : IsEv k f e) : VE H (.ro k 5 f) (.ro k 5 (evF e)) :=
  VE.ro2 fun i hi => by
    obtain ⟨⟨u, hu, hs, hg⟩, _⟩ := h i hi
    rw [hu]
    unfold evF
    rw [hg]
    exact five .refl .refl .refl .refl (VE.strs hs)
theorem VE.evr {H : Hp} {k : Nat} {f : Nat → List AVal} {e : EvF} (h : IsEv k f e) : VE H (.ro k 5 (evF e)) (.ro k 5 f) :=
  VE.ro2 fun i hi => by
    obtain ⟨⟨u, hu, hs, hg⟩, _⟩ := h i hi
    rw [hu]
    unfold evF
    rw [hg]
    exact five .refl .refl .refl .refl (VE.strsr hs)
theorem ResLe.frz1 {cs : List AVal} {k sz : Nat} (hsz : 1 ≤ sz) : ResLe (.sl 0 0 k sz) [.flat cs] (.ro k sz (rowsOf sz ((cs.drop 0).take (k * sz)))) [.dead] := by
  intro R w m x hS hx
  have hb : Nat.ble 1 sz = true := Nat.ble_eq_true_of_le hsz
  have hsub : ∀ g, R g → RC R m [.flat cs] [0] g := fun g h => .inl h
  refine ⟨RC R m [.flat cs] [0], m, Turn.far (o := fun _ => Option.none) ⟨hsub, fun g h => ?_, fun j hj => hS.out j (by simpa using hj), fun j hj => ?_, fun j j' k0 _ _ h h' => (by cases h), by simp, fun _ _ => rfl, fun j hj => ?_⟩ hS, ?_⟩
  · rcases h with h | ⟨j, hj, h3, h4⟩
    · exact .inl h
    · have : j = 0 := by simpa using hj
      subst this
      exact .inr ⟨0, h3, h4, fun j _ he => by cases he⟩
  · have := hget_lt hj
    simp at this
    subst this
    simp [hget] at hj
  · simp at hj; subst hj; exact .inl rfl
  · exact (snapC_sound hS (imps := []) (ks := [0]) hx (v' := .ro k sz (rowsOf sz ((cs.drop 0).take (k * sz)))) (by simp [snapC, elemN, hget, hb]) (fun j hj => by simpa [snapsC, elemN] using hj)).closed rfl
def plainRow : Srow := fun args H K => match args, H with
  | [.ro k 5 f], [] => EvSome k f ∧ K (.ro k 5 f) [.dead]
  | _, _ => False
def sameEvRow : Srow := fun args H K => match args, H with
  | [.ro k 5 f, .ro k' 5 f'], [] => EvTwo k k' f f' ∧ K (.bool true) []
  | _, _ => False
def ann_outriderlaw13_plain : Nat → List Nat × Nat × List (List Nat)
  | 3 => ([3, 6, 7, 8, 999999], 0, [])
  | _ => ([], 0, [])
noncomputable abbrev pl_lp_X : Cx := ⟨Try.prog, Tlw, Try.f27.ntmps, 0, ann_outriderlaw13_plain⟩
noncomputable def pl_lp_c : Code := cAt [.r, .r, .l, .r, .b] (bodyOf Try.f27)
noncomputable def pl_lp_k (K : AVal → Hp → Prop) : Post := kAt pl_lp_X [.r, .r, .l, .r, .b] (bodyOf Try.f27) (fnK Try.prog 0 Try.f27.results.toList K)
def pl_lp_n (K : AVal → Hp → Prop) (n : Nat) (s : St) : Prop := loopP (awp pl_lp_X (loopB pl_lp_c)) 0 [3, 6, 7, 8, 999999] n s (pl_lp_k K)
def pl_lp (K : AVal → Hp → Prop) (s : St) : Prop := ∃ n, pl_lp_n K n s
def pl_lp_b (K : AVal → Hp → Prop) (J : St → Prop) (s : St) : Prop := awp pl_lp_X (loopB pl_lp_c) s (seqK (fun s' => normK 0 [3, 6, 7, 8, 999999] s' J) (pl_lp_k K))
theorem pl_lp_next {K : AVal → Hp → Prop} {n : Nat} {s : St} (h : pl_lp_b K (fun s' => pl_lp_n K n s') s) : pl_lp_n K (n + 1) s := h
set_option maxRecDepth 100000 in
theorem plain_eq (k : Nat) (e : EvF) (K : AVal → Hp → Prop) : fnP Try.prog Tlw ann_outriderlaw13_plain Try.f27 [.ro k 5 (evF e)] [] K = (
 pl_lp K
 (St.mk
 [((3 : Nat), AVal.nilS),
 ((6 : Nat),
 AVal.ro k (5 : Nat) fun i =>
 [AVal.int IntKind.i64 (e.1 i), AVal.int IntKind.i64 (e.2 i), AVal.int IntKind.i64 (e.3 i),
 AVal.int IntKind.i64 (e.4 i), AVal.ro (e.5 i) (1 : Nat) fun q => [AVal.str (e.6 i q)]]),
 ((7 : Nat), AVal.int IntKind.i64 (↑k : Int)), ((8 : Nat), AVal.int IntKind.i64 (0 : Int)),
 ((999999 : Nat), AVal.undef)]
 [])) := by kernel_rfl
set_option maxRecDepth 100000 in
theorem pl_first (k : Nat) (e : EvF) (c : Int) (K : AVal → Hp → Prop) (J : St → Prop) : pl_lp_b K J (St.mk [(3, .nilS), (6, .ro k 5 (evF e)), (7, .int .i64 (k : Int)), (8, .int .i64 c), (999999, .undef)] []) = (
 brP (decide (c < (↑k : Int)))
 (((0 : Int) ≤ c ∧ c < (↑k : Int)) ∧
 (56 : Nat) ≤ (140737488355328 : Nat) ∧
 I64 (c + (1 : Int)) ∧
 J
 (St.mk
 [((3 : Nat), AVal.sl (0 : Nat) (0 : Nat) (1 : Nat) (5 : Nat)),
 ((6 : Nat),
 AVal.ro k (5 : Nat) fun i =>
 [AVal.int IntKind.i64 (e.1 i), AVal.int IntKind.i64 (e.2 i), AVal.int IntKind.i64 (e.3 i),
 AVal.int IntKind.i64 (e.4 i), AVal.ro (e.5 i) (1 : Nat) fun q => [AVal.str (e.6 i q)]]),
 ((7 : Nat), AVal.int IntKind.i64 (↑k : Int)), ((8 : Nat), AVal.int IntKind.i64 (c + (1 : Int))),
 ((999999 : Nat), AVal.undef)]
 [ABlk.flat
 [AVal.int IntKind.i64 (e.1 (Int.toNat c)), AVal.int IntKind.i64 (e.2 (Int.toNat c)),
 AVal.int IntKind.i64 (e.3 (Int.toNat c)), AVal.int IntKind.i64 (e.4 (Int.toNat c)),
 AVal.ro (e.5 (Int.toNat c)) (1 : Nat) fun q => [AVal.str (e.6 (Int.toNat c) q)]]]))
 (K AVal.nilS [])) := by kernel_rfl
set_option maxRecDepth 100000 in
theorem pl_lp_step (k : Nat) (e : EvF) (i : Nat) (c : Int) (cs : List AVal) (K : AVal → Hp → Prop) (J : St → Prop) : pl_lp_b K J (St.mk [(3, .sl 0 0 i 5), (6, .ro k 5 (evF e)), (7, .int .i64 (k : Int)), (8, .int .i64 c), (999999, .undef)] [.flat cs]) = (
 brP (decide (c < (↑k : Int)))
 (((0 : Int) ≤ c ∧ c < (↑k : Int)) ∧
 ((i + (1 : Nat)) * (56 : Nat) ≤ (140737488355328 : Nat) ∧ List.length cs = i * (5 : Nat)) ∧
 I64 (c + (1 : Int)) ∧
 J
 (St.mk
 [((3 : Nat), AVal.sl (0 : Nat) (0 : Nat) (i + (1 : Nat)) (5 : Nat)),
 ((6 : Nat),
 AVal.ro k (5 : Nat) fun i =>
 [AVal.int IntKind.i64 (e.1 i), AVal.int IntKind.i64 (e.2 i), AVal.int IntKind.i64 (e.3 i),
 AVal.int IntKind.i64 (e.4 i), AVal.ro (e.5 i) (1 : Nat) fun q => [AVal.str (e.6 i q)]]),
 ((7 : Nat), AVal.int IntKind.i64 (↑k : Int)), ((8 : Nat), AVal.int IntKind.i64 (c + (1 : Int))),
 ((999999 : Nat), AVal.undef)]
 [ABlk.flat
 (cs ++
 [AVal.int IntKind.i64 (e.1 (Int.toNat c)), AVal.int IntKind.i64 (e.2 (Int.toNat c)),
 AVal.int IntKind.i64 (e.3 (Int.toNat c)), AVal.int IntKind.i64 (e.4 (Int.toNat c)),
 AVal.ro (e.5 (Int.toNat c)) (1 : Nat) fun q => [AVal.str (e.6 (Int.toNat c) q)]])]))
 (K (AVal.sl (0 : Nat) (0 : Nat) i (5 : Nat)) [ABlk.flat cs])) := by kernel_rfl
theorem plain_all (K : AVal → Hp → Prop) (k : Nat) (e : EvF) (hk : k ≤ 1000000000000) (hK : K (.sl 0 0 k 5) [.flat ((List.range k).flatMap (evF e))]) : ∀ (j i : Nat), i + j = k →
    pl_lp_n K (j + 1) (St.mk [(3, .sl 0 0 i 5), (6, .ro k 5 (evF e)), (7, .int .i64 (k : Int)), (8, .int .i64 (i : Int)), (999999, .undef)] [.flat ((List.range i).flatMap (evF e))])
  | 0, i, h => by
    refine pl_lp_next ?_
    rw [pl_lp_step]
    obtain rfl : i = k := by omega
    exact brP_d (fun h' => by omega) (fun _ => hK)
  | j + 1, i, h => by
    refine pl_lp_next ?_
    rw [pl_lp_step]
    have hl : ∀ q, ((List.range q).flatMap (evF e)).length = q * 5 := by
      intro q
      induction q with
      | zero => rfl
      | succ q ih =>
        rw [List.range_succ, List.flatMap_append, List.length_append, ih]
        simp only [List.flatMap_cons, List.flatMap_nil, List.append_nil]
        show q * 5 + 5 = (q + 1) * 5
        omega
    refine brP_d (fun _ => ⟨by omega, ⟨by omega, hl i⟩, by unfold I64; omega, ?_⟩) (fun h' => by omega)
    rw [Int.toNat_natCast]
    have e1 : (List.range (i + 1)).flatMap (evF e) = (List.range i).flatMap (evF e) ++ evF e i := by
      rw [List.range_succ, List.flatMap_append]
      simp only [List.flatMap_cons, List.flatMap_nil, List.append_nil]
    have nx := plain_all K k e hk hK j (i + 1) (by omega)
    rw [e1] at nx
    exact nx
attribute [local irreducible] fnP in
theorem outriderlaw13_plain_p : ∀ args H K, plainRow args H K → ∃ args', ArgsLe H args args' ∧ fnP Try.prog Tlw ann_outriderlaw13_plain Try.f27 args' H (fun v H' => ∃ v2 H2, ResLe v H' v2 H2 ∧ K v2 H2) := by
  intro args H K h
  unfold plainRow at h
  split at h
  · rename_i k f
    obtain ⟨⟨⟨e, he⟩, hk⟩, hK⟩ := h
    refine ⟨[.ro k 5 (evF e)], .cons (VE.ev he) .nil, ?_⟩
    rw [plain_eq]
    cases k with
    | zero =>
      refine ⟨1, pl_lp_next ?_⟩
      refine (pl_first 0 e 0 _ _).mpr ?_
      exact brP_d (fun h => by omega) (fun _ => ⟨_, _, (ResLe.val VE.nil_ro).trans (ResLe.pad rfl), hK⟩)
    | succ k =>
      refine ⟨k + 1 + 1, pl_lp_next ?_⟩
      refine (pl_first (k + 1) e 0 _ _).mpr ?_
      refine brP_d (fun _ => ⟨by omega, by omega, by unfold I64; omega, ?_⟩) (fun h => by omega)
      have hf : ResLe (.sl 0 0 (k + 1) 5) [.flat ((List.range (k + 1)).flatMap (evF e))] (.ro (k + 1) 5 f) [.dead] := by
        have h1 := ResLe.frz1 (cs := (List.range (k + 1)).flatMap (evF e)) (k := k + 1) (sz := 5) (by omega)
        refine h1.trans (ResLe.val ?_)
        intro R w m x hS hx
        refine VE.evr he R w m x hS (VE.ro (fun i hi => ?_) R w m x hS hx)
        have hl : ∀ q, ((List.range q).flatMap (evF e)).length = q * 5 := by
          intro q
          induction q with
          | zero => rfl
          | succ q ih =>
            rw [List.range_succ, List.flatMap_append, List.length_append, ih]
            simp only [List.flatMap_cons, List.flatMap_nil, List.append_nil]
            show q * 5 + 5 = (q + 1) * 5
            omega
        rw [List.drop_zero, ← hl (k + 1), List.take_length]
        exact rows_flat (fun _ _ => rfl) i hi
      exact plain_all _ (k + 1) e hk ⟨_, _, hf, hK⟩ k 1 (by omega)
  · exact h.elim
def Tev1 : Specs := ext Tlw 27 (plainRow)
theorem Tev1_sound : TSound Try.prog Tev1 := ext_sound Tlw_sound (row_weak Tlw_sound mixed Try.func27 (by decide +kernel) outriderlaw13_plain_p)
def ann_outriderref13_SameEvents : Nat → List Nat × Nat × List (List Nat)
  | 4 => ([0, 1, 5], 0, [])
  | 6 => ([], 25, [[], [], [0, 1], [0, 1, 2], [0, 1, 2, 3], [], [], [5, 6], [5, 6, 7], [5, 6, 7, 8], [0, 1, 2, 3, 4, 5, 6, 7, 8, 9], [0, 1, 2, 3, 4, 5, 6, 7, 8, 9, 10], [0, 1, 2, 3, 4, 5, 6, 7, 8, 9, 10, 11], [0, 1, 2, 3, 4, 5, 6, 7, 8, 9, 10, 11], [0, 1, 2, 3, 4, 5, 6, 7, 8, 9, 10, 11, 12, 13], [0, 1, 2, 3, 4, 5, 6, 7, 8, 9, 10, 11, 12, 13, 14], [0, 1, 2, 3, 4, 5, 6, 7, 8, 9, 10, 11, 12, 13, 14, 15], [0, 1, 2, 3, 4, 5, 6, 7, 8, 9, 10, 11], [0, 1, 2, 3, 4, 5, 6, 7, 8, 9, 10, 11], [0, 1, 2, 3, 4, 5, 6, 7, 8, 9, 10, 11, 17, 18], [0, 1, 2, 3, 4, 5, 6, 7, 8, 9, 10, 11, 17, 18, 19], [0, 1, 2, 3, 4, 5, 6, 7, 8, 9, 10, 11, 17, 18, 19, 20], [0, 1, 2, 3, 4, 5, 6, 7, 8, 9, 10, 11, 12, 13, 14, 15, 16, 17, 18, 19, 20, 21], [0, 1, 2, 3, 4, 5, 6, 7, 8, 9, 10, 11, 12, 13, 14, 15, 16, 17, 18, 19, 20, 21, 22], [0, 1, 2, 3, 4, 5, 6, 7, 8, 9, 10, 11, 12, 13, 14, 15, 16, 17, 18, 19, 20, 21, 22, 23]])
  | _ => ([], 0, [])
noncomputable abbrev se_lp_X : Cx := ⟨Try.prog, Tev1, Try.f26.ntmps, 0, ann_outriderref13_SameEvents⟩
noncomputable def se_lp_c : Code := cAt [.r, .r, .l, .r, .b] (bodyOf Try.f26)
noncomputable def se_lp_k (K : AVal → Hp → Prop) : Post := kAt se_lp_X [.r, .r, .l, .r, .b] (bodyOf Try.f26) (fnK Try.prog 0 Try.f26.results.toList K)
def se_lp_n (K : AVal → Hp → Prop) (n : Nat) (s : St) : Prop := loopP (awp se_lp_X (loopB se_lp_c)) 0 [0, 1, 5] n s (se_lp_k K)
def se_lp (K : AVal → Hp → Prop) (s : St) : Prop := ∃ n, se_lp_n K n s
def se_lp_b (K : AVal → Hp → Prop) (J : St → Prop) (s : St) : Prop := awp se_lp_X (loopB se_lp_c) s (seqK (fun s' => normK 0 [0, 1, 5] s' J) (se_lp_k K))
theorem se_lp_next {K : AVal → Hp → Prop} {n : Nat} {s : St} (h : se_lp_b K (fun s' => se_lp_n K n s') s) : se_lp_n K (n + 1) s := h
set_option maxRecDepth 100000 in
theorem sameEv_eq (k k' : Nat) (e e' : EvF) (K : AVal → Hp → Prop) : fnP Try.prog Tev1 ann_outriderref13_SameEvents Try.f26 [.ro k 5 (evF e), .ro k' 5 (evF e')] [] K = (
 brP (!decide ((↑k : Int) = (↑k' : Int))) (K (AVal.bool false) [])
 (se_lp K
 (St.mk
 [((0 : Nat),
 AVal.ro k (5 : Nat) fun i =>
 [AVal.int IntKind.i64 (e.1 i), AVal.int IntKind.i64 (e.2 i), AVal.int IntKind.i64 (e.3 i),
 AVal.int IntKind.i64 (e.4 i), AVal.ro (e.5 i) (1 : Nat) fun q => [AVal.str (e.6 i q)]]),
 ((1 : Nat),
 AVal.ro k' (5 : Nat) fun i =>
 [AVal.int IntKind.i64 (e'.1 i), AVal.int IntKind.i64 (e'.2 i), AVal.int IntKind.i64 (e'.3 i),
 AVal.int IntKind.i64 (e'.4 i), AVal.ro (e'.5 i) (1 : Nat) fun q => [AVal.str (e'.6 i q)]]),
 ((5 : Nat), AVal.int IntKind.i64 (0 : Int))]
 []))) := by kernel_rfl
set_option maxRecDepth 100000 in
theorem se_lp_step (k k' : Nat) (e e' : EvF) (c : Int) (K : AVal → Hp → Prop) (J : St → Prop) : se_lp_b K J (St.mk [(0, .ro k 5 (evF e)), (1, .ro k' 5 (evF e')), (5, .int .i64 c)] []) = (
 brP (decide (c < (↑k : Int)))
 (((0 : Int) ≤ c ∧ c < (↑k : Int)) ∧
 ((0 : Int) ≤ c ∧ c < (↑k' : Int)) ∧
 brP (!decide (e.1 (Int.toNat c) = e'.1 (Int.toNat c))) (K (AVal.bool false) [])
 (((0 : Int) ≤ c ∧ c < (↑k : Int)) ∧
 ((0 : Int) ≤ c ∧ c < (↑k' : Int)) ∧
 ((IsStrs (e.5 (Int.toNat c)) fun q => [AVal.str (e.6 (Int.toNat c) q)]) ∧
 (IsStrs (e'.5 (Int.toNat c)) fun q => [AVal.str (e'.6 (Int.toNat c) q)]) ∧
 e.5 (Int.toNat c) ≤ (8796093022000 : Nat)) ∧
 brP
 (!sameA (e.2 (Int.toNat c)) (e.3 (Int.toNat c)) (e.4 (Int.toNat c)) (e.5 (Int.toNat c))
 (fun q => [AVal.str (e.6 (Int.toNat c) q)]) (e'.2 (Int.toNat c)) (e'.3 (Int.toNat c)) (e'.4 (Int.toNat c))
 (e'.5 (Int.toNat c)) fun q => [AVal.str (e'.6 (Int.toNat c) q)])
 (K (AVal.bool false) [])
 (I64 (c + (1 : Int)) ∧
 J
 (St.mk
 [((0 : Nat),
 AVal.ro k (5 : Nat) fun i =>
 [AVal.int IntKind.i64 (e.1 i), AVal.int IntKind.i64 (e.2 i), AVal.int IntKind.i64 (e.3 i),
 AVal.int IntKind.i64 (e.4 i), AVal.ro (e.5 i) (1 : Nat) fun q => [AVal.str (e.6 i q)]]),
 ((1 : Nat),
 AVal.ro k' (5 : Nat) fun i =>
 [AVal.int IntKind.i64 (e'.1 i), AVal.int IntKind.i64 (e'.2 i), AVal.int IntKind.i64 (e'.3 i),
 AVal.int IntKind.i64 (e'.4 i), AVal.ro (e'.5 i) (1 : Nat) fun q => [AVal.str (e'.6 i q)]]),
 ((5 : Nat), AVal.int IntKind.i64 (c + (1 : Int)))]
 []))))
 (K (AVal.bool true) [])) := by kernel_rfl
theorem sameA_refl (a b c : Int) (n : Nat) (f : Nat → List AVal) : sameA a b c n f a b c n f = true := by unfold sameA; simp
theorem sameEv_all (K : AVal → Hp → Prop) (k : Nat) (e : EvF) (hk : k ≤ 1000000000000) (he : ∀ i, i < k → e.n i ≤ 8796093022000) (hK : K (.bool true) []) : ∀ (j i : Nat), i + j = k →
    se_lp_n K (j + 1) (St.mk [(0, .ro k 5 (evF e)), (1, .ro k 5 (evF e)), (5, .int .i64 (i : Int))] [])
  | 0, i, h => by
    refine se_lp_next ?_
    rw [se_lp_step]
    exact brP_d (fun h' => by omega) (fun _ => hK)
  | j + 1, i, h => by
    refine se_lp_next ?_
    rw [se_lp_step]
    refine brP_d (fun _ => ⟨by omega, by omega, brP_nd (fun h => absurd rfl h) (fun _ => ⟨by omega, by omega, ⟨isStrs_of _ _, isStrs_of _ _, by rw [Int.toNat_natCast]; exact he i (by omega)⟩, ?_⟩)⟩) (fun h' => by omega)
    rw [sameA_refl]
    exact brP_i (fun h => by cases h) (fun _ => ⟨by unfold I64; omega, sameEv_all K k e hk he hK j (i + 1) (by omega)⟩)
attribute [local irreducible] fnP in
theorem outriderref13_SameEvents_p : ∀ args H K, sameEvRow args H K → ∃ args', ArgsLe H args args' ∧ fnP Try.prog Tev1 ann_outriderref13_SameEvents Try.f26 args' H (fun v H' => ∃ v2 H2, ResLe v H' v2 H2 ∧ K v2 H2) := by
  intro args H K h
  unfold sameEvRow at h
  split at h
  · rename_i k f k' f'
    obtain ⟨⟨rfl, hk, e, h1, h2⟩, hK⟩ := h
    refine ⟨[.ro k 5 (evF e), .ro k 5 (evF e)], .cons (VE.ev h1) (.cons (VE.ev h2) .nil), ?_⟩
    rw [sameEv_eq]
    refine brP_nd (fun h => absurd rfl h) (fun _ => ⟨k + 1, sameEv_all _ k e hk (fun i hi => (h1 i hi).2) ⟨_, _, .refl, hK⟩ k 0 (by omega)⟩)
  · exact h.elim
def Tev2 : Specs := ext Tev1 26 (sameEvRow)
theorem Tev2_sound : TSound Try.prog Tev2 := ext_sound Tev1_sound (row_weak Tev1_sound mixed Try.func26 (by decide +kernel) outriderref13_SameEvents_p)
abbrev Tev : Specs := Tev2
theorem Tev_sound : TSound Try.prog Tev := Tev2_sound
theorem rowsOf_lt {cs r : List AVal} {k i : Nat} (h : cs.length = k * 5) (hi : i < k) : rowsOf 5 (cs ++ r) i = rowsOf 5 cs i := by
  unfold rowsOf
  rw [List.drop_append_of_le_length (by omega), List.take_append_of_le_length (by rw [List.length_drop]; omega)]
theorem rowsOf_eq {cs c : List AVal} {k : Nat} (h : cs.length = k * 5) (hc : c.length = 5) : rowsOf 5 (cs ++ c) k = c := by
  unfold rowsOf
  rw [← h, List.drop_left, ← hc, List.take_length]
/-- .. is a row of what was done -/
def EvL (k : Nat) (cs : List AVal) : Prop := cs.length = k * 5 ∧ ∃ e, IsEv k (rowsOf 5 cs) e
theorem EvL.none : EvL 0 [] := ⟨rfl, ⟨fun _ => 0, fun _ => 0, fun _ => 0, fun _ => 0, fun _ => 0, fun _ _ => []⟩, fun i hi => by omega⟩
theorem EvL.snoc {k : Nat} {cs : List AVal} (h : EvL k cs) (a b c d : Int) (n : Nat) (f : Nat → List AVal) (hf : IsStrs n f) (hn : n ≤ 8796093022000) : EvL (k + 1) (cs ++ [.int .i64 a, .int .i64 b, .int .i64 c, .int .i64 d, .ro n 1 f]) := by
  obtain ⟨hl, e, he⟩ := h
  refine ⟨by rw [List.length_append, hl]; show k * 5 + 5 = _; omega, ⟨fun i => if i < k then e.a i else a, fun i => if i < k then e.b i else b, fun i => if i < k then e.c i else c, fun i => if i < k then e.d i else d, fun i => if i < k then e.n i else n, fun i => if i < k then e.g i else strAt f⟩, fun i hi => ?_⟩
  by_cases hk : i < k
  · simp only [if_pos hk]
    rw [rowsOf_lt hl hk]
    exact he i hk
  · obtain rfl : i = k := by omega
    simp only [if_neg hk]
    rw [rowsOf_eq hl rfl]
    exact ⟨⟨f, rfl, hf, rfl⟩, hn⟩
theorem vrDo_ev {x : VX} (h : EvL x.k x.out) (hf : IsStrs x.m.n x.m.f) (hn : x.m.n ≤ 8796093022000) (kd q : Int) (s : List UInt8) (a : Adv) : EvL (vrDo kd q s a x).k (vrDo kd q s a x).out := by
  have lead : ∀ y : VX, EvL y.k y.out → IsStrs y.m.n y.m.f → y.m.n ≤ 8796093022000 → EvL (vrLead y).k (vrLead y).out := fun y h hf hn => by
    have h2 := ((h.snoc 1 y.m.id y.m.pri y.m.every y.m.n y.m.f hf hn).snoc 2 0 0 0 0 (fun _ => []) (fun i hi => by omega) (by omega))
    rw [List.append_assoc] at h2
    exact h2
  have say : ∀ (y : VX) p, EvL y.k y.out → IsStrs y.m.n y.m.f → y.m.n ≤ 8796093022000 → EvL (vrSay p y).k (vrSay p y).out := fun y p h hf hn => h.snoc 1 y.m.id p y.m.every y.m.n y.m.f hf hn
  have tick : ∀ y : VX, EvL y.k y.out → IsStrs y.m.n y.m.f → y.m.n ≤ 8796093022000 → EvL (vrTick y).k (vrTick y).out := fun y h hf hn => by
    unfold vrTick
    split
    · exact h
    · split
      · exact h
      · split
        · exact lead y h hf hn
        · exact say y _ h hf hn
  have ticks : ∀ (j : Nat) (y : VX), EvL y.k y.out → IsStrs y.m.n y.m.f → y.m.n ≤ 8796093022000 → EvL (vrTicks j y).k (vrTicks j y).out := by
    intro j
    induction j with
    | zero => intro y h _ _; exact h
    | succ j ih =>
      intro y h hf hn
      have tc := tick_cfg (x := y)
      exact ih (vrTick y) (tick y h hf hn) (by rw [tc.n, tc.f]; exact hf) (by rw [tc.n]; exact hn)
  unfold vrDo
  split
  · unfold vrStart
    split
    · exact h
    · split
      · exact lead x h hf hn
      · exact h
  split
  · unfold vrStop
    split
    · exact say x 0 h hf hn
    · exact h
  split
  · exact ticks _ x h hf hn
  split
  · unfold vrTake
    repeat' split
    all_goals first
      | exact h
      | exact say x _ h hf hn
  split
  · unfold vrPri
    split <;> exact h
  · exact h
end Go.Proofs.Ytldfkjjjjfbbmaa.Ae

