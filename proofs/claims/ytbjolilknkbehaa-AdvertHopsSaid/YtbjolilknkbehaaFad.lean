/- Chapter 6's functions as a table: what writes. -/
import Derived.Test.YtbjolilknkbehaaFip
import Derived.Test.YtbjolilknkbehaaAeWk
import Derived.Test.YtbjolilknkbehaaAeQk
import Derived.Test.YtbjolilknkbehaaMad
set_option linter.unusedSimpArgs false
set_option linter.unusedVariables false
set_option maxRecDepth 100000
namespace Go.Proofs.Ytbjolilknkbehaa
open Go Ae
/-- the first of some lists that has another length -/
def idxFrom (g : Nat → List UInt8) (L : Nat) : Nat → Nat → Int
  | 0, _ => -1
  | j + 1, k => if (g k).length ≠ L then (k : Int) else idxFrom g L j (k + 1)
theorem idxFrom_neg {g : Nat → List UInt8} {L : Nat} : ∀ {j k : Nat}, 0 ≤ idxFrom g L j k ↔ ∃ i, k ≤ i ∧ i < k + j ∧ (g i).length ≠ L
  | 0, k => by
    unfold idxFrom
    exact ⟨fun h => by omega, fun ⟨i, h1, h2, _⟩ => by omega⟩
  | j + 1, k => by
    unfold idxFrom
    split
    · rename_i h
      exact ⟨fun _ => ⟨k, by omega, by omega, h⟩, fun _ => by omega⟩
    · rename_i h
      rw [idxFrom_neg]
      constructor
      · rintro ⟨i, h1, h2, h3⟩
        exact ⟨i, by omega, by omega, h3⟩
      · rintro ⟨i, h1, h2, h3⟩
        have : i ≠ k := fun e => h (by rw [← e]; exact h3)
        exact ⟨i, by omega, by omega, h3⟩
theorem strs_all {n : Nat} {f : Nat → List AVal} {L : Nat} : ((strs n f).all fun x => decide (x.length = L)) = !decide (0 ≤ idxFrom (strAt f) L n 0) := by
  rw [Bool.eq_iff_iff, List.all_eq_true, Bool.not_eq_true', decide_eq_false_iff_not, idxFrom_neg]
  unfold strs
  constructor
  · rintro h ⟨i, _, h2, h3⟩
    exact h3 (by simpa using h _ (List.mem_map.2 ⟨i, by simpa using h2, rfl⟩))
  · intro h x hx
    obtain ⟨i, hi, rfl⟩ := List.mem_map.1 hx
    have : i < n := by simpa using hi
    rw [decide_eq_true_eq]
    exact Classical.byContradiction fun h3 => h ⟨i, by omega, by omega, h3⟩
end Go.Proofs.Ytbjolilknkbehaa
namespace Go.Proofs.Ytbjolilknkbehaa.Ae
open Go
def adIp (x : Ip × Int) : AVal := .tup [.agg [.str x.1.src, .str x.1.dst, .int .i64 x.1.proto, .int .i64 x.1.ttl, .str x.1.body], .int .i64 x.2]
def adEncRow : Srow := fun args H K => match args, H with
  | [.agg [.int .i64 i, .int .i64 p, .int .i64 e, .ro n 1 f], .str s], [] => (IsStrs n f ∧ n ≤ 140737488351232) ∧
    K (.tup [.agg [.str (adEncode ⟨i, p, e, strs n f⟩ s).1.src, .str (adEncode ⟨i, p, e, strs n f⟩ s).1.dst, .int .i64 (adEncode ⟨i, p, e, strs n f⟩ s).1.proto, .int .i64 (adEncode ⟨i, p, e, strs n f⟩ s).1.ttl, .str (adEncode ⟨i, p, e, strs n f⟩ s).1.body], .int .i64 (adEncode ⟨i, p, e, strs n f⟩ s).2]) []
  | _, _ => False
def ann_advert_Group : Nat → List Nat × Nat × List (List Nat)
  | _ => ([], 0, [])
def Tad1 : Specs := ext Tip 11 (fnP Try.prog Tip ann_advert_Group Try.f11)
theorem Tad1_sound : TSound Try.prog Tad1 := ext_sound Tip_sound (fn_row Tip_sound mixed Try.func11 (by decide +kernel))
def ann__outrider_advert_Advert__right_1 : Nat → List Nat × Nat × List (List Nat)
  | _ => ([], 0, [])
def Tad2 : Specs := ext Tad1 32 (fnP Try.prog Tad1 ann__outrider_advert_Advert__right_1 Try.f32)
theorem Tad2_sound : TSound Try.prog Tad2 := ext_sound Tad1_sound (fn_row Tad1_sound mixed Try.func32 (by decide +kernel))
def idxARow : Srow := fun args H K => match args, H with
  | [.ro n 1 f, .fn 32 [] [.ptr 0 0]], [.vals [.str s]] => (IsStrs n f ∧ n ≤ 140737488351232) ∧ K (.int .i64 (idxFrom (strAt f) s.length n 0)) [.vals [.str s]]
  | _, _ => False
def ann_slices_IndexFunc___outrider_api_Addr_outrider_api_Addr_ : Nat → List Nat × Nat × List (List Nat)
  | 2 => ([0, 1, 7, 8], 0, [])
  | _ => ([], 0, [])
noncomputable abbrev idxA_lp_X : Cx := ⟨Try.prog, Tad2, Try.f38.ntmps, 1, ann_slices_IndexFunc___outrider_api_Addr_outrider_api_Addr_⟩
noncomputable def idxA_lp_c : Code := cAt [.r, .l, .r, .b] (bodyOf Try.f38)
noncomputable def idxA_lp_k (K : AVal → Hp → Prop) : Post := kAt idxA_lp_X [.r, .l, .r, .b] (bodyOf Try.f38) (fnK Try.prog 1 Try.f38.results.toList K)
def idxA_lp_n (K : AVal → Hp → Prop) (n : Nat) (s : St) : Prop := loopP (awp idxA_lp_X (loopB idxA_lp_c)) 1 [0, 1, 7, 8] n s (idxA_lp_k K)
def idxA_lp (K : AVal → Hp → Prop) (s : St) : Prop := ∃ n, idxA_lp_n K n s
def idxA_lp_b (K : AVal → Hp → Prop) (J : St → Prop) (s : St) : Prop := awp idxA_lp_X (loopB idxA_lp_c) s (seqK (fun s' => normK 1 [0, 1, 7, 8] s' J) (idxA_lp_k K))
theorem idxA_lp_next {K : AVal → Hp → Prop} {n : Nat} {s : St} (h : idxA_lp_b K (fun s' => idxA_lp_n K n s') s) : idxA_lp_n K (n + 1) s := h
set_option maxRecDepth 100000 in
theorem idxA_eq (n : Nat) (g : Nat → List UInt8) (s : List UInt8) (K : AVal → Hp → Prop) : fnP Try.prog Tad2 ann_slices_IndexFunc___outrider_api_Addr_outrider_api_Addr_ Try.f38 [.ro n 1 (fun i => [.str (g i)]), .fn 32 [] [.ptr 0 0]] [.vals [.str s]] K = (
 idxA_lp K
 (St.mk
 [((0 : Nat), AVal.ro n (1 : Nat) fun i => [AVal.str (g i)]),
 ((1 : Nat), AVal.fn 32 [] [AVal.ptr (0 : Nat) (0 : Nat)]), ((7 : Nat), AVal.int IntKind.i64 (↑n : Int)),
 ((8 : Nat), AVal.int IntKind.i64 (0 : Int))]
 [ABlk.vals [AVal.str s]])) := by kernel_rfl
set_option maxRecDepth 100000 in
theorem idxA_lp_step (n : Nat) (g : Nat → List UInt8) (s : List UInt8) (m k : Int) (K : AVal → Hp → Prop) (J : St → Prop) : idxA_lp_b K J (St.mk [(0, .ro n 1 (fun i => [.str (g i)])), (1, .fn 32 [] [.ptr 0 0]), (7, .int .i64 m), (8, .int .i64 k)] [.vals [.str s]]) = (
 brP (decide (k < m))
 (((0 : Int) ≤ k ∧ k < (↑n : Int)) ∧
 brP (!decide ((↑(List.length (g (Int.toNat k))) : Int) = (↑(List.length s) : Int)))
 (K (AVal.int IntKind.i64 k) [ABlk.vals [AVal.str s]])
 (I64 (k + (1 : Int)) ∧
 J
 (St.mk
 [((0 : Nat), AVal.ro n (1 : Nat) fun i => [AVal.str (g i)]),
 ((1 : Nat), AVal.fn 32 [] [AVal.ptr (0 : Nat) (0 : Nat)]), ((7 : Nat), AVal.int IntKind.i64 m),
 ((8 : Nat), AVal.int IntKind.i64 (k + (1 : Int)))]
 [ABlk.vals [AVal.str s]])))
 (K (AVal.int IntKind.i64 (-1 : Int)) [ABlk.vals [AVal.str s]])) := by kernel_rfl
theorem idxA_all {n : Nat} {g : Nat → List UInt8} {s : List UInt8} (hn : n ≤ 140737488351232) (K : AVal → Hp → Prop) : ∀ (j k : Nat), k + j = n → K (.int .i64 (idxFrom g s.length j k)) [.vals [.str s]] →
    idxA_lp_n K (j + 1) (St.mk [(0, .ro n 1 (fun i => [.str (g i)])), (1, .fn 32 [] [.ptr 0 0]), (7, .int .i64 (n : Int)), (8, .int .i64 (k : Int))] [.vals [.str s]])
  | 0, k, h, hK => by
    refine idxA_lp_next ?_
    rw [idxA_lp_step]
    exact brP_d (fun h' => by omega) (fun _ => hK)
  | j + 1, k, h, hK => by
    refine idxA_lp_next ?_
    rw [idxA_lp_step]
    refine brP_d (fun _ => ⟨by omega, ?_⟩) (fun h' => by omega)
    unfold idxFrom at hK
    rw [Int.toNat_natCast]
    refine brP_nd (fun h1 => ?_) (fun h1 => ⟨by unfold I64; omega, ?_⟩)
    · rw [if_pos (by omega)] at hK; exact hK
    · rw [if_neg (by omega)] at hK
      exact idxA_all hn K j (k + 1) (by omega) hK
attribute [local irreducible] fnP in
set_option maxRecDepth 100000 in
theorem slices_IndexFunc___outrider_api_Addr_outrider_api_Addr__p : ∀ args H K, idxARow args H K → ∃ args', ArgsLe H args args' ∧ fnP Try.prog Tad2 ann_slices_IndexFunc___outrider_api_Addr_outrider_api_Addr_ Try.f38 args' H (fun v H' => ∃ v2 H2, ResLe v H' v2 H2 ∧ K v2 H2) := by
  intro args H K h
  unfold idxARow at h
  split at h
  · rename_i n f s
    obtain ⟨⟨hs, hn⟩, hK⟩ := h
    refine ⟨_, .cons (VE.strs hs) .refl, ?_⟩
    unfold onlyStrs
    rw [idxA_eq]
    exact ⟨_, idxA_all hn _ n 0 (by omega) ⟨_, _, .refl, hK⟩⟩
  · exact h.elim
def Tad3 : Specs := ext Tad2 38 (idxARow)
theorem Tad3_sound : TSound Try.prog Tad3 := ext_sound Tad2_sound (row_weak Tad2_sound mixed Try.func38 (by decide +kernel) slices_IndexFunc___outrider_api_Addr_outrider_api_Addr__p)
def ann_slices_ContainsFunc___outrider_api_Addr_outrider_api_Addr_ : Nat → List Nat × Nat × List (List Nat)
  | _ => ([], 0, [])
def Tad4 : Specs := ext Tad3 33 (fnP Try.prog Tad3 ann_slices_ContainsFunc___outrider_api_Addr_outrider_api_Addr_ Try.f33)
theorem Tad4_sound : TSound Try.prog Tad4 := ext_sound Tad3_sound (fn_row Tad3_sound mixed Try.func33 (by decide +kernel))
def ann__outrider_advert_Advert__right : Nat → List Nat × Nat × List (List Nat)
  | _ => ([], 0, [])
set_option maxRecDepth 100000 in
theorem adRight_eq (i p e : Int) (n : Nat) (f : Nat → List AVal) (s : List UInt8) (K : AVal → Hp → Prop) : fnP Try.prog Tad4 ann__outrider_advert_Advert__right Try.f15 [.agg [.int .i64 i, .int .i64 p, .int .i64 e, .ro n 1 f], .str s] [] K = (
 brP (decide ((↑(List.length s) : Int) = (4 : Int)))
 (brP (decide ((1 : Int) ≤ i))
 (brP (decide (i ≤ (255 : Int)))
 (brP (decide ((0 : Int) ≤ p))
 (brP (decide (p ≤ (255 : Int)))
 (brP (decide ((1 : Int) ≤ e))
 (brP (decide (e ≤ (4095 : Int)))
 (brP (decide ((1 : Int) ≤ (↑n : Int)))
 (brP (decide ((↑n : Int) ≤ (8 : Int)))
 ((IsStrs n f ∧ n ≤ (140737488351232 : Nat)) ∧
 K (AVal.bool !decide ((0 : Int) ≤ idxFrom (strAt f) (List.length s) n (0 : Nat))) [])
 (K (AVal.bool false) []))
 (K (AVal.bool false) []))
 (K (AVal.bool false) []))
 (K (AVal.bool false) []))
 (K (AVal.bool false) []))
 (K (AVal.bool false) []))
 (K (AVal.bool false) []))
 (K (AVal.bool false) []))
 (brP (decide ((↑(List.length s) : Int) = (16 : Int)))
 (brP (decide ((1 : Int) ≤ i))
 (brP (decide (i ≤ (255 : Int)))
 (brP (decide ((0 : Int) ≤ p))
 (brP (decide (p ≤ (255 : Int)))
 (brP (decide ((1 : Int) ≤ e))
 (brP (decide (e ≤ (4095 : Int)))
 (brP (decide ((1 : Int) ≤ (↑n : Int)))
 (brP (decide ((↑n : Int) ≤ (8 : Int)))
 ((IsStrs n f ∧ n ≤ (140737488351232 : Nat)) ∧
 K (AVal.bool !decide ((0 : Int) ≤ idxFrom (strAt f) (List.length s) n (0 : Nat))) [])
 (K (AVal.bool false) []))
 (K (AVal.bool false) []))
 (K (AVal.bool false) []))
 (K (AVal.bool false) []))
 (K (AVal.bool false) []))
 (K (AVal.bool false) []))
 (K (AVal.bool false) []))
 (K (AVal.bool false) []))
 (K (AVal.bool false) []))) := by kernel_rfl
def adRightRow : Srow := fun args H K => match args, H with
  | [.agg [.int .i64 i, .int .i64 p, .int .i64 e, .ro n 1 f], .str s], [] => (IsStrs n f ∧ n ≤ 140737488351232) ∧ K (.bool (adRight ⟨i, p, e, strs n f⟩ s)) []
  | _, _ => False
attribute [local irreducible] fnP in
set_option maxRecDepth 100000 in
theorem _outrider_advert_Advert__right_p : ∀ args H K, adRightRow args H K → fnP Try.prog Tad4 ann__outrider_advert_Advert__right Try.f15 args H K := by
  intro args H K h
  unfold adRightRow at h
  split at h
  · rename_i i p e n f s
    obtain ⟨⟨hs, hn⟩, hK⟩ := h
    rw [adRight_eq]
    unfold adRight rightA at hK
    simp only [strs_all, strs_len] at hK
    have hsn : IsStrs n f ∧ n ≤ 140737488351232 := ⟨hs, hn⟩
    have hc : ∀ q : Nat, decide ((q : Int) = 4) = decide (q = 4) ∧ decide ((q : Int) = 16) = decide (q = 16) := fun q => ⟨by simp only [decide_eq_decide]; omega, by simp only [decide_eq_decide]; omega⟩
    have hc1 : decide (1 ≤ (n : Int)) = decide (1 ≤ n) := by simp only [decide_eq_decide]; omega
    have hc8 : decide ((n : Int) ≤ 8) = decide (n ≤ 8) := by simp only [decide_eq_decide]; omega
    simp only [(hc _).1, (hc _).2, hc1, hc8]
    (cases hh0 : decide (s.length = 4) <;> try simp only [hh0, Bool.or_false, Bool.false_or, Bool.or_true, Bool.true_or, Bool.true_and, Bool.false_and, Bool.and_false, Bool.and_true, brP_t, brP_f] at hK ⊢)
    all_goals first | exact hK | skip
    all_goals (cases hh1 : decide (s.length = 16) <;> try simp only [hh1, Bool.or_false, Bool.false_or, Bool.or_true, Bool.true_or, Bool.true_and, Bool.false_and, Bool.and_false, Bool.and_true, brP_t, brP_f] at hK ⊢)
    all_goals first | exact hK | skip
    all_goals (cases hh2 : decide (1 ≤ i) <;> try simp only [hh2, Bool.or_false, Bool.false_or, Bool.or_true, Bool.true_or, Bool.true_and, Bool.false_and, Bool.and_false, Bool.and_true, brP_t, brP_f] at hK ⊢)
    all_goals first | exact hK | skip
    all_goals (cases hh3 : decide (i ≤ 255) <;> try simp only [hh3, Bool.or_false, Bool.false_or, Bool.or_true, Bool.true_or, Bool.true_and, Bool.false_and, Bool.and_false, Bool.and_true, brP_t, brP_f] at hK ⊢)
    all_goals first | exact hK | skip
    all_goals (cases hh4 : decide (0 ≤ p) <;> try simp only [hh4, Bool.or_false, Bool.false_or, Bool.or_true, Bool.true_or, Bool.true_and, Bool.false_and, Bool.and_false, Bool.and_true, brP_t, brP_f] at hK ⊢)
    all_goals first | exact hK | skip
    all_goals (cases hh5 : decide (p ≤ 255) <;> try simp only [hh5, Bool.or_false, Bool.false_or, Bool.or_true, Bool.true_or, Bool.true_and, Bool.false_and, Bool.and_false, Bool.and_true, brP_t, brP_f] at hK ⊢)
    all_goals first | exact hK | skip
    all_goals (cases hh6 : decide (1 ≤ e) <;> try simp only [hh6, Bool.or_false, Bool.false_or, Bool.or_true, Bool.true_or, Bool.true_and, Bool.false_and, Bool.and_false, Bool.and_true, brP_t, brP_f] at hK ⊢)
    all_goals first | exact hK | skip
    all_goals (cases hh7 : decide (e ≤ 4095) <;> try simp only [hh7, Bool.or_false, Bool.false_or, Bool.or_true, Bool.true_or, Bool.true_and, Bool.false_and, Bool.and_false, Bool.and_true, brP_t, brP_f] at hK ⊢)
    all_goals first | exact hK | skip
    all_goals (cases hh8 : decide (1 ≤ n) <;> try simp only [hh8, Bool.or_false, Bool.false_or, Bool.or_true, Bool.true_or, Bool.true_and, Bool.false_and, Bool.and_false, Bool.and_true, brP_t, brP_f] at hK ⊢)
    all_goals first | exact hK | skip
    all_goals (cases hh9 : decide (n ≤ 8) <;> try simp only [hh9, Bool.or_false, Bool.false_or, Bool.or_true, Bool.true_or, Bool.true_and, Bool.false_and, Bool.and_false, Bool.and_true, brP_t, brP_f] at hK ⊢)
    all_goals first | exact hK | skip
    all_goals exact ⟨hsn, hK⟩
  · exact h.elim
def Tad5 : Specs := ext Tad4 15 (adRightRow)
theorem Tad5_sound : TSound Try.prog Tad5 := ext_sound Tad4_sound (row_of Tad4_sound mixed Try.func15 (by decide +kernel) _outrider_advert_Advert__right_p)
def ann_advert_Encode : Nat → List Nat × Nat × List (List Nat)
  | 5 => ([1, 4, 6, 35, 36, 37], 0, [])
  | _ => ([], 0, [])
noncomputable abbrev adEnc_lp_X : Cx := ⟨Try.prog, Tad5, Try.f9.ntmps, 0, ann_advert_Encode⟩
noncomputable def adEnc_lp_c : Code := cAt [.r, .r, .r, .l, .r, .b] (bodyOf Try.f9)
noncomputable def adEnc_lp_k (K : AVal → Hp → Prop) : Post := kAt adEnc_lp_X [.r, .r, .r, .l, .r, .b] (bodyOf Try.f9) (fnK Try.prog 0 Try.f9.results.toList K)
def adEnc_lp_n (K : AVal → Hp → Prop) (n : Nat) (s : St) : Prop := loopP (awp adEnc_lp_X (loopB adEnc_lp_c)) 0 [1, 4, 6, 35, 36, 37] n s (adEnc_lp_k K)
def adEnc_lp (K : AVal → Hp → Prop) (s : St) : Prop := ∃ n, adEnc_lp_n K n s
def adEnc_lp_b (K : AVal → Hp → Prop) (J : St → Prop) (s : St) : Prop := awp adEnc_lp_X (loopB adEnc_lp_c) s (seqK (fun s' => normK 0 [1, 4, 6, 35, 36, 37] s' J) (adEnc_lp_k K))
theorem adEnc_lp_next {K : AVal → Hp → Prop} {n : Nat} {s : St} (h : adEnc_lp_b K (fun s' => adEnc_lp_n K n s') s) : adEnc_lp_n K (n + 1) s := h
set_option maxRecDepth 100000 in
theorem adEnc_eq (i p e : Int) (n : Nat) (f : Nat → List AVal) (s : List UInt8) (K : AVal → Hp → Prop) : fnP Try.prog Tad5 ann_advert_Encode Try.f9 [.agg [.int .i64 i, .int .i64 p, .int .i64 e, .ro n 1 f], .str s] [] K = (
 (IsStrs n f ∧ n ≤ (140737488351232 : Nat)) ∧
 brP (!adRight (Adv.mk i p e (strs n f)) s)
 (K
 (AVal.tup
 [AVal.agg [AVal.str [], AVal.str [], AVal.int IntKind.i64 (0 : Int), AVal.int IntKind.i64 (0 : Int), AVal.str []],
 AVal.int IntKind.i64 (1 : Int)])
 [])
 (((0 : Int) ≤ (8 : Int) ∧ (8 : Nat) < (64 : Nat)) ∧
 adEnc_lp K
 (St.mk
 [((1 : Nat), AVal.str s), ((4 : Nat), AVal.ptr (0 : Nat) (0 : Nat)),
 ((6 : Nat), AVal.sl (1 : Nat) (0 : Nat) (8 : Nat) (1 : Nat)), ((35 : Nat), AVal.ro n (1 : Nat) f),
 ((36 : Nat), AVal.int IntKind.i64 (↑n : Int)), ((37 : Nat), AVal.int IntKind.i64 (0 : Int))]
 [ABlk.vals
 [AVal.str [], AVal.str [], AVal.int IntKind.i64 (0 : Int), AVal.int IntKind.i64 (0 : Int), AVal.str []],
 ABlk.bytes [(49 : UInt8), b8 i, b8 p, b8 (↑n : Int), b8 (e / (256 : Int)), b8 e, (0 : UInt8), (0 : UInt8)]]))) := by kernel_rfl
set_option maxRecDepth 100000 in
theorem adEnc_lp_step (n : Nat) (g : Nat → List UInt8) (s l : List UInt8) (m k : Int) (K : AVal → Hp → Prop) (J : St → Prop) : adEnc_lp_b K J (St.mk [(1, .str s), (4, .ptr 0 0), (6, .sl 1 0 l.length 1), (35, .ro n 1 (fun i => [.str (g i)])), (36, .int .i64 m), (37, .int .i64 k)] [.vals [.str [], .str [], .int .i64 0, .int .i64 0, .str []], .bytes l]) = (
 brP (decide (k < m))
 (((0 : Int) ≤ k ∧ k < (↑n : Int)) ∧
 ((List.length l + List.length (g (Int.toNat k))) * (1 : Nat) ≤ (140737488355328 : Nat) ∧
 List.length l = List.length l * (1 : Nat)) ∧
 I64 (k + (1 : Int)) ∧
 J
 (St.mk
 [((1 : Nat), AVal.str s), ((4 : Nat), AVal.ptr (0 : Nat) (0 : Nat)),
 ((6 : Nat), AVal.sl (1 : Nat) (0 : Nat) (List.length l + List.length (g (Int.toNat k))) (1 : Nat)),
 ((35 : Nat), AVal.ro n (1 : Nat) fun i => [AVal.str (g i)]), ((36 : Nat), AVal.int IntKind.i64 m),
 ((37 : Nat), AVal.int IntKind.i64 (k + (1 : Int)))]
 [ABlk.vals
 [AVal.str [], AVal.str [], AVal.int IntKind.i64 (0 : Int), AVal.int IntKind.i64 (0 : Int), AVal.str []],
 ABlk.bytes (l ++ g (Int.toNat k))]))
 (brP (decide ((↑(List.length s) : Int) = (16 : Int)))
 (optP
 (pseudo s
 [(255 : UInt8), (2 : UInt8), (0 : UInt8), (0 : UInt8), (0 : UInt8), (0 : UInt8), (0 : UInt8), (0 : UInt8),
 (0 : UInt8), (0 : UInt8), (0 : UInt8), (0 : UInt8), (0 : UInt8), (0 : UInt8), (0 : UInt8), (18 : UInt8)]
 (112 : Int) (↑(List.length l) : Int))
 (fun x =>
 ((2 : Nat) ≤ (1000 : Nat) ∧
 List.length
 (List.flatten
 [List.take (List.length x) (List.drop (0 : Nat) x), List.take (List.length l) (List.drop (0 : Nat) l)]) ≤
 (562949953421312 : Nat)) ∧
 ((0 : Int) ≤ (8 : Int) ∧ (8 : Nat) < (16 : Nat)) ∧
 ((0 : Int) ≤ (6 : Int) ∧ (6 : Int) < (↑(List.length l) : Int)) ∧
 (6 : Nat) < List.length l ∧
 ((0 : Int) ≤ (7 : Int) ∧ (7 : Int) < (↑(List.length l) : Int)) ∧
 (7 : Nat) <
 List.length
 (List.set l (6 : Nat)
 (b8
 (((65535 : Int) -
 sumB
 (List.flatten
 [List.take (List.length x) (List.drop (0 : Nat) x),
 List.take (List.length l) (List.drop (0 : Nat) l)])) /
 (256 : Int)))) ∧
 K
 (AVal.tup
 [AVal.agg
 [AVal.str s,
 AVal.str
 [(255 : UInt8), (2 : UInt8), (0 : UInt8), (0 : UInt8), (0 : UInt8), (0 : UInt8), (0 : UInt8),
 (0 : UInt8), (0 : UInt8), (0 : UInt8), (0 : UInt8), (0 : UInt8), (0 : UInt8), (0 : UInt8),
 (0 : UInt8), (18 : UInt8)],
 AVal.int IntKind.i64 (112 : Int), AVal.int IntKind.i64 (255 : Int),
 AVal.str
 (List.take (List.length l)
 (List.drop (0 : Nat)
 (List.set
 (List.set l (6 : Nat)
 (b8
 (((65535 : Int) -
 sumB
 (List.flatten
 [List.take (List.length x) (List.drop (0 : Nat) x),
 List.take (List.length l) (List.drop (0 : Nat) l)])) /
 (256 : Int))))
 (7 : Nat)
 (b8
 ((65535 : Int) -
 sumB
 (List.flatten
 [List.take (List.length x) (List.drop (0 : Nat) x),
 List.take (List.length l) (List.drop (0 : Nat) l)]))))))],
 AVal.int IntKind.i64 (0 : Int)])
 [])
 (((2 : Nat) ≤ (1000 : Nat) ∧
 List.length (List.flatten [[], List.take (List.length l) (List.drop (0 : Nat) l)]) ≤ (562949953421312 : Nat)) ∧
 ((0 : Int) ≤ (8 : Int) ∧ (8 : Nat) < (16 : Nat)) ∧
 ((0 : Int) ≤ (6 : Int) ∧ (6 : Int) < (↑(List.length l) : Int)) ∧
 (6 : Nat) < List.length l ∧
 ((0 : Int) ≤ (7 : Int) ∧ (7 : Int) < (↑(List.length l) : Int)) ∧
 (7 : Nat) <
 List.length
 (List.set l (6 : Nat)
 (b8
 (((65535 : Int) - sumB (List.flatten [[], List.take (List.length l) (List.drop (0 : Nat) l)])) /
 (256 : Int)))) ∧
 K
 (AVal.tup
 [AVal.agg
 [AVal.str s,
 AVal.str
 [(255 : UInt8), (2 : UInt8), (0 : UInt8), (0 : UInt8), (0 : UInt8), (0 : UInt8), (0 : UInt8),
 (0 : UInt8), (0 : UInt8), (0 : UInt8), (0 : UInt8), (0 : UInt8), (0 : UInt8), (0 : UInt8), (0 : UInt8),
 (18 : UInt8)],
 AVal.int IntKind.i64 (112 : Int), AVal.int IntKind.i64 (255 : Int),
 AVal.str
 (List.take (List.length l)
 (List.drop (0 : Nat)
 (List.set
 (List.set l (6 : Nat)
 (b8
 (((65535 : Int) - sumB (List.flatten [[], List.take (List.length l) (List.drop (0 : Nat) l)])) /
 (256 : Int))))
 (7 : Nat)
 (b8
 ((65535 : Int) - sumB (List.flatten [[], List.take (List.length l) (List.drop (0 : Nat) l)]))))))],
 AVal.int IntKind.i64 (0 : Int)])
 []))
 (optP (pseudo s [(224 : UInt8), (0 : UInt8), (0 : UInt8), (18 : UInt8)] (112 : Int) (↑(List.length l) : Int))
 (fun x =>
 ((2 : Nat) ≤ (1000 : Nat) ∧
 List.length
 (List.flatten
 [List.take (List.length x) (List.drop (0 : Nat) x), List.take (List.length l) (List.drop (0 : Nat) l)]) ≤
 (562949953421312 : Nat)) ∧
 ((0 : Int) ≤ (8 : Int) ∧ (8 : Nat) < (16 : Nat)) ∧
 ((0 : Int) ≤ (6 : Int) ∧ (6 : Int) < (↑(List.length l) : Int)) ∧
 (6 : Nat) < List.length l ∧
 ((0 : Int) ≤ (7 : Int) ∧ (7 : Int) < (↑(List.length l) : Int)) ∧
 (7 : Nat) <
 List.length
 (List.set l (6 : Nat)
 (b8
 (((65535 : Int) -
 sumB
 (List.flatten
 [List.take (List.length x) (List.drop (0 : Nat) x),
 List.take (List.length l) (List.drop (0 : Nat) l)])) /
 (256 : Int)))) ∧
 K
 (AVal.tup
 [AVal.agg
 [AVal.str s, AVal.str [(224 : UInt8), (0 : UInt8), (0 : UInt8), (18 : UInt8)],
 AVal.int IntKind.i64 (112 : Int), AVal.int IntKind.i64 (255 : Int),
 AVal.str
 (List.take (List.length l)
 (List.drop (0 : Nat)
 (List.set
 (List.set l (6 : Nat)
 (b8
 (((65535 : Int) -
 sumB
 (List.flatten
 [List.take (List.length x) (List.drop (0 : Nat) x),
 List.take (List.length l) (List.drop (0 : Nat) l)])) /
 (256 : Int))))
 (7 : Nat)
 (b8
 ((65535 : Int) -
 sumB
 (List.flatten
 [List.take (List.length x) (List.drop (0 : Nat) x),
 List.take (List.length l) (List.drop (0 : Nat) l)]))))))],
 AVal.int IntKind.i64 (0 : Int)])
 [])
 (((2 : Nat) ≤ (1000 : Nat) ∧
 List.length (List.flatten [[], List.take (List.length l) (List.drop (0 : Nat) l)]) ≤ (562949953421312 : Nat)) ∧
 ((0 : Int) ≤ (8 : Int) ∧ (8 : Nat) < (16 : Nat)) ∧
 ((0 : Int) ≤ (6 : Int) ∧ (6 : Int) < (↑(List.length l) : Int)) ∧
 (6 : Nat) < List.length l ∧
 ((0 : Int) ≤ (7 : Int) ∧ (7 : Int) < (↑(List.length l) : Int)) ∧
 (7 : Nat) <
 List.length
 (List.set l (6 : Nat)
 (b8
 (((65535 : Int) - sumB (List.flatten [[], List.take (List.length l) (List.drop (0 : Nat) l)])) /
 (256 : Int)))) ∧
 K
 (AVal.tup
 [AVal.agg
 [AVal.str s, AVal.str [(224 : UInt8), (0 : UInt8), (0 : UInt8), (18 : UInt8)],
 AVal.int IntKind.i64 (112 : Int), AVal.int IntKind.i64 (255 : Int),
 AVal.str
 (List.take (List.length l)
 (List.drop (0 : Nat)
 (List.set
 (List.set l (6 : Nat)
 (b8
 (((65535 : Int) - sumB (List.flatten [[], List.take (List.length l) (List.drop (0 : Nat) l)])) /
 (256 : Int))))
 (7 : Nat)
 (b8
 ((65535 : Int) - sumB (List.flatten [[], List.take (List.length l) (List.drop (0 : Nat) l)]))))))],
 AVal.int IntKind.i64 (0 : Int)])
 [])))) := by kernel_rfl
theorem adEnc_end {n : Nat} {g : Nat → List UInt8} {s : List UInt8} {a : Adv} (hr : adRight a s = true) {m k : Int} (hk : ¬ k < m) {K : AVal → Hp → Prop} (hK : K (adIp (adPacket a s, 0)) []) (J : St → Prop) :
    adEnc_lp_b K J (St.mk [(1, .str s), (4, .ptr 0 0), (6, .sl 1 0 (adBody a 0).length 1), (35, .ro n 1 (fun i => [.str (g i)])), (36, .int .i64 m), (37, .int .i64 k)] [.vals [.str [], .str [], .int .i64 0, .int .i64 0, .str []], .bytes (adBody a 0)]) := by
  rw [adEnc_lp_step]
  obtain ⟨hl1, hl2⟩ := ad_len hr
  have hl := adBody_len a 0
  have hs := ((adRight_iff a s).1 hr).1
  obtain ⟨x, hx, hxl, hx40⟩ := ad_pseudo hs ((adBody a 0).length : Int)
  have hsum : 65535 - sumB (x ++ adBody a 0) = adSum a s := by unfold adSum; rw [hxl]
  have hset := adBody_set a (adSum a s)
  have hbl := adBody_len a (adSum a s)
  unfold adIp adPacket at hK
  simp only at hK
  refine brP_d (fun h => absurd h hk) (fun _ => ?_)
  have fin : ∀ G : List UInt8, adGroup (decide (s.length = 16)) = G → K (.tup [.agg [.str s, .str G, .int .i64 112, .int .i64 255, .str (List.take (adBody a 0).length (adBody a (adSum a s)))], .int .i64 0]) [] := fun G hG => by
    rw [← hG, List.take_of_length_le (by omega)]; exact hK
  by_cases h16 : s.length = 16
  · rw [decide_eq_true h16] at hx fin
    refine brP_d (fun _ => ?_) (fun h => absurd (by omega) h)
    rw [show adGroup true = [(255 : UInt8), 2, 0, 0, 0, 0, 0, 0, 0, 0, 0, 0, 0, 0, 0, 18] from rfl] at hx
    rw [hx]
    simp only [optP, List.take_length, List.drop_zero, List.flatten_cons, List.flatten_nil, List.append_nil, hsum, hset]
    refine ⟨⟨by omega, by rw [List.length_append]; omega⟩, by omega, by omega, by omega, by omega, by rw [List.length_set]; omega, fin _ rfl⟩
  · rw [decide_eq_false h16] at hx fin
    refine brP_d (fun h => absurd (by omega) h16) (fun _ => ?_)
    rw [show adGroup false = [(224 : UInt8), 0, 0, 18] from rfl] at hx
    rw [hx]
    simp only [optP, List.take_length, List.drop_zero, List.flatten_cons, List.flatten_nil, List.append_nil, hsum, hset]
    refine ⟨⟨by omega, by rw [List.length_append]; omega⟩, by omega, by omega, by omega, by omega, by rw [List.length_set]; omega, fin _ rfl⟩
def upto (g : Nat → List UInt8) (k : Nat) : List UInt8 := ((List.range k).map g).flatten
theorem upto_succ (g : Nat → List UInt8) (k : Nat) : upto g (k + 1) = upto g k ++ g k := by unfold upto; rw [List.range_succ]; simp
theorem upto_len {g : Nat → List UInt8} {m : Nat} : ∀ {k : Nat}, (∀ i, i < k → (g i).length = m) → (upto g k).length = k * m := fun {k} h => by
  unfold upto
  rw [flat_len _ m fun x hx => by obtain ⟨i, hi, rfl⟩ := List.mem_map.1 hx; exact h i (by simpa using hi)]
  simp
theorem adEnc_all {n : Nat} {g : Nat → List UInt8} {s : List UInt8} {a : Adv} (ha : a.addrs = (List.range n).map g) (hr : adRight a s = true) {K : AVal → Hp → Prop} (hK : K (adIp (adPacket a s, 0)) []) : ∀ (j k : Nat), k + j = n →
    adEnc_lp_n K (j + 1) (St.mk [(1, .str s), (4, .ptr 0 0), (6, .sl 1 0 (adHead a 0 ++ upto g k).length 1), (35, .ro n 1 (fun i => [.str (g i)])), (36, .int .i64 (n : Int)), (37, .int .i64 (k : Int))] [.vals [.str [], .str [], .int .i64 0, .int .i64 0, .str []], .bytes (adHead a 0 ++ upto g k)])
  | 0, k, h => by
    refine adEnc_lp_next ?_
    have e : adHead a 0 ++ upto g k = adBody a 0 := by unfold adBody upto; rw [ha, show k = n by omega]
    rw [e]
    exact adEnc_end hr (by omega) hK _
  | j + 1, k, h => by
    have ih := adEnc_all ha hr hK j (k + 1) (by omega)
    refine adEnc_lp_next ?_
    rw [adEnc_lp_step]
    obtain ⟨h0, _, _, _, _, _, _, h7, h8, h9⟩ := (adRight_iff a s).1 hr
    rw [ha] at h8 h9
    simp only [List.length_map, List.length_range] at h8
    have hg : ∀ i, i < n → (g i).length = s.length := fun i hi => h9 _ (List.mem_map.2 ⟨i, by simpa using hi, rfl⟩)
    have hu : (upto g k).length = k * s.length := upto_len fun i hi => hg i (by omega)
    have hk8 : k * s.length ≤ 8 * 16 := Nat.mul_le_mul (by omega) (by omega)
    have hgk := hg k (by omega)
    have hh : (adHead a 0).length = 8 := rfl
    rw [upto_succ, ← List.append_assoc, @List.length_append _ (adHead a 0 ++ upto g k)] at ih
    refine brP_d (fun _ => ?_) (fun h' => by omega)
    rw [Int.toNat_natCast]
    exact ⟨by omega, ⟨by rw [List.length_append]; omega, by omega⟩, by unfold I64; omega, ih⟩
attribute [local irreducible] fnP in
set_option maxRecDepth 100000 in
theorem advert_Encode_p : ∀ args H K, adEncRow args H K → ∃ args', ArgsLe H args args' ∧ fnP Try.prog Tad5 ann_advert_Encode Try.f9 args' H (fun v H' => ∃ v2 H2, ResLe v H' v2 H2 ∧ K v2 H2) := by
  intro args H K h
  unfold adEncRow at h
  split at h
  · rename_i i p e n f s
    obtain ⟨⟨hs, hn⟩, hK⟩ := h
    refine ⟨[.agg [.int .i64 i, .int .i64 p, .int .i64 e, .ro n 1 (onlyStrs f)], .str s], .cons (.agg (.cons .refl (.cons .refl (.cons .refl (.cons (VE.strs hs) .refl))))) .refl, ?_⟩
    rw [adEnc_eq, strs_only]
    refine ⟨⟨fun i hi => rfl, hn⟩, ?_⟩
    cases hr : adRight ⟨i, p, e, strs n f⟩ s with
    | false =>
      rw [adEncode_no (by rw [hr]; simp)] at hK
      exact ⟨_, _, .refl, hK⟩
    | true =>
      rw [adEncode_yes hr] at hK
      refine ⟨by omega, ?_⟩
      have h0 := adEnc_all (n := n) (g := strAt f) (a := ⟨i, p, e, strs n f⟩) (s := s) rfl hr (K := fun v H' => ∃ v2 H2, ResLe v H' v2 H2 ∧ K v2 H2) ⟨_, _, .refl, hK⟩ n 0 (by omega)
      rw [show upto (strAt f) 0 = [] from rfl, List.append_nil, adHead_0] at h0
      simp only [strs_len] at h0
      exact ⟨_, h0⟩
  · exact h.elim
def Tad6 : Specs := ext Tad5 9 (adEncRow)
theorem Tad6_sound : TSound Try.prog Tad6 := ext_sound Tad5_sound (row_weak Tad5_sound mixed Try.func9 (by decide +kernel) advert_Encode_p)
def ann_outriderref06_Group : Nat → List Nat × Nat × List (List Nat)
  | _ => ([], 0, [])
def Tad7 : Specs := ext Tad6 12 (fnP Try.prog Tad6 ann_outriderref06_Group Try.f12)
theorem Tad7_sound : TSound Try.prog Tad7 := ext_sound Tad6_sound (fn_row Tad6_sound mixed Try.func12 (by decide +kernel))
def ann_outriderref06_sum : Nat → List Nat × Nat × List (List Nat)
  | _ => ([], 0, [])
def Tad8 : Specs := ext Tad7 20 (fnP Try.prog Tad7 ann_outriderref06_sum Try.f20)
theorem Tad8_sound : TSound Try.prog Tad8 := ext_sound Tad7_sound (fn_row Tad7_sound mixed Try.func20 (by decide +kernel))
def ann_outriderref06_Encode : Nat → List Nat × Nat × List (List Nat)
  | 6 => ([1, 2, 4, 6, 7, 8], 0, [])
  | _ => ([], 0, [])
noncomputable abbrev rfEnc_lp_X : Cx := ⟨Try.prog, Tad8, Try.f10.ntmps, 0, ann_outriderref06_Encode⟩
noncomputable def rfEnc_lp_c : Code := cAt [.r, .r, .r, .r, .l, .r, .b] (bodyOf Try.f10)
noncomputable def rfEnc_lp_k (K : AVal → Hp → Prop) : Post := kAt rfEnc_lp_X [.r, .r, .r, .r, .l, .r, .b] (bodyOf Try.f10) (fnK Try.prog 0 Try.f10.results.toList K)
def rfEnc_lp_n (K : AVal → Hp → Prop) (n : Nat) (s : St) : Prop := loopP (awp rfEnc_lp_X (loopB rfEnc_lp_c)) 0 [1, 2, 4, 6, 7, 8] n s (rfEnc_lp_k K)
def rfEnc_lp (K : AVal → Hp → Prop) (s : St) : Prop := ∃ n, rfEnc_lp_n K n s
def rfEnc_lp_b (K : AVal → Hp → Prop) (J : St → Prop) (s : St) : Prop := awp rfEnc_lp_X (loopB rfEnc_lp_c) s (seqK (fun s' => normK 0 [1, 2, 4, 6, 7, 8] s' J) (rfEnc_lp_k K))
theorem rfEnc_lp_next {K : AVal → Hp → Prop} {n : Nat} {s : St} (h : rfEnc_lp_b K (fun s' => rfEnc_lp_n K n s') s) : rfEnc_lp_n K (n + 1) s := h
set_option maxRecDepth 100000 in
theorem rfEnc_eq (i p e : Int) (n : Nat) (f : Nat → List AVal) (s : List UInt8) (K : AVal → Hp → Prop) : fnP Try.prog Tad8 ann_outriderref06_Encode Try.f10 [.agg [.int .i64 i, .int .i64 p, .int .i64 e, .ro n 1 f], .str s] [] K = (
 brP (decide ((↑(List.length s) : Int) = (4 : Int)))
 (brP (decide (i < (1 : Int)))
 (K
 (AVal.tup
 [AVal.agg [AVal.str [], AVal.str [], AVal.int IntKind.i64 (0 : Int), AVal.int IntKind.i64 (0 : Int), AVal.str []],
 AVal.int IntKind.i64 (1 : Int)])
 [])
 (brP (decide ((255 : Int) < i))
 (K
 (AVal.tup
 [AVal.agg [AVal.str [], AVal.str [], AVal.int IntKind.i64 (0 : Int), AVal.int IntKind.i64 (0 : Int), AVal.str []],
 AVal.int IntKind.i64 (1 : Int)])
 [])
 (brP (decide (p < (0 : Int)))
 (K
 (AVal.tup
 [AVal.agg
 [AVal.str [], AVal.str [], AVal.int IntKind.i64 (0 : Int), AVal.int IntKind.i64 (0 : Int), AVal.str []],
 AVal.int IntKind.i64 (1 : Int)])
 [])
 (brP (decide ((255 : Int) < p))
 (K
 (AVal.tup
 [AVal.agg
 [AVal.str [], AVal.str [], AVal.int IntKind.i64 (0 : Int), AVal.int IntKind.i64 (0 : Int), AVal.str []],
 AVal.int IntKind.i64 (1 : Int)])
 [])
 (brP (decide (e < (1 : Int)))
 (K
 (AVal.tup
 [AVal.agg
 [AVal.str [], AVal.str [], AVal.int IntKind.i64 (0 : Int), AVal.int IntKind.i64 (0 : Int), AVal.str []],
 AVal.int IntKind.i64 (1 : Int)])
 [])
 (brP (decide ((4095 : Int) < e))
 (K
 (AVal.tup
 [AVal.agg
 [AVal.str [], AVal.str [], AVal.int IntKind.i64 (0 : Int), AVal.int IntKind.i64 (0 : Int), AVal.str []],
 AVal.int IntKind.i64 (1 : Int)])
 [])
 (brP (decide ((↑n : Int) < (1 : Int)))
 (K
 (AVal.tup
 [AVal.agg
 [AVal.str [], AVal.str [], AVal.int IntKind.i64 (0 : Int), AVal.int IntKind.i64 (0 : Int), AVal.str []],
 AVal.int IntKind.i64 (1 : Int)])
 [])
 (brP (decide ((8 : Int) < (↑n : Int)))
 (K
 (AVal.tup
 [AVal.agg
 [AVal.str [], AVal.str [], AVal.int IntKind.i64 (0 : Int), AVal.int IntKind.i64 (0 : Int), AVal.str []],
 AVal.int IntKind.i64 (1 : Int)])
 [])
 (((256 : Int) ≠ (0 : Int) ∧ I64 (Int.tdiv e (256 : Int))) ∧
 (256 : Int) ≠ (0 : Int) ∧
 rfEnc_lp K
 (St.mk
 [((1 : Nat), AVal.str s), ((2 : Nat), AVal.ptr (0 : Nat) (0 : Nat)),
 ((4 : Nat), AVal.ptr (1 : Nat) (0 : Nat)),
 ((6 : Nat),
 AVal.str
 (List.take (6 : Nat)
 (List.drop (0 : Nat)
 [(49 : UInt8), b8 i, b8 p, b8 (↑n : Int), b8 (Int.tdiv e (256 : Int)),
 b8 (Int.tmod e (256 : Int))]))),
 ((7 : Nat), AVal.str []), ((8 : Nat), AVal.int IntKind.i64 (0 : Int))]
 [ABlk.vals
 [AVal.int IntKind.i64 i, AVal.int IntKind.i64 p, AVal.int IntKind.i64 e, AVal.ro n (1 : Nat) f],
 ABlk.vals
 [AVal.str [], AVal.str [], AVal.int IntKind.i64 (0 : Int), AVal.int IntKind.i64 (0 : Int),
 AVal.str []]]))))))))))
 (brP (!decide ((↑(List.length s) : Int) = (16 : Int)))
 (K
 (AVal.tup
 [AVal.agg [AVal.str [], AVal.str [], AVal.int IntKind.i64 (0 : Int), AVal.int IntKind.i64 (0 : Int), AVal.str []],
 AVal.int IntKind.i64 (1 : Int)])
 [])
 (brP (decide (i < (1 : Int)))
 (K
 (AVal.tup
 [AVal.agg [AVal.str [], AVal.str [], AVal.int IntKind.i64 (0 : Int), AVal.int IntKind.i64 (0 : Int), AVal.str []],
 AVal.int IntKind.i64 (1 : Int)])
 [])
 (brP (decide ((255 : Int) < i))
 (K
 (AVal.tup
 [AVal.agg
 [AVal.str [], AVal.str [], AVal.int IntKind.i64 (0 : Int), AVal.int IntKind.i64 (0 : Int), AVal.str []],
 AVal.int IntKind.i64 (1 : Int)])
 [])
 (brP (decide (p < (0 : Int)))
 (K
 (AVal.tup
 [AVal.agg
 [AVal.str [], AVal.str [], AVal.int IntKind.i64 (0 : Int), AVal.int IntKind.i64 (0 : Int), AVal.str []],
 AVal.int IntKind.i64 (1 : Int)])
 [])
 (brP (decide ((255 : Int) < p))
 (K
 (AVal.tup
 [AVal.agg
 [AVal.str [], AVal.str [], AVal.int IntKind.i64 (0 : Int), AVal.int IntKind.i64 (0 : Int), AVal.str []],
 AVal.int IntKind.i64 (1 : Int)])
 [])
 (brP (decide (e < (1 : Int)))
 (K
 (AVal.tup
 [AVal.agg
 [AVal.str [], AVal.str [], AVal.int IntKind.i64 (0 : Int), AVal.int IntKind.i64 (0 : Int), AVal.str []],
 AVal.int IntKind.i64 (1 : Int)])
 [])
 (brP (decide ((4095 : Int) < e))
 (K
 (AVal.tup
 [AVal.agg
 [AVal.str [], AVal.str [], AVal.int IntKind.i64 (0 : Int), AVal.int IntKind.i64 (0 : Int), AVal.str []],
 AVal.int IntKind.i64 (1 : Int)])
 [])
 (brP (decide ((↑n : Int) < (1 : Int)))
 (K
 (AVal.tup
 [AVal.agg
 [AVal.str [], AVal.str [], AVal.int IntKind.i64 (0 : Int), AVal.int IntKind.i64 (0 : Int), AVal.str []],
 AVal.int IntKind.i64 (1 : Int)])
 [])
 (brP (decide ((8 : Int) < (↑n : Int)))
 (K
 (AVal.tup
 [AVal.agg
 [AVal.str [], AVal.str [], AVal.int IntKind.i64 (0 : Int), AVal.int IntKind.i64 (0 : Int), AVal.str []],
 AVal.int IntKind.i64 (1 : Int)])
 [])
 (((256 : Int) ≠ (0 : Int) ∧ I64 (Int.tdiv e (256 : Int))) ∧
 (256 : Int) ≠ (0 : Int) ∧
 rfEnc_lp K
 (St.mk
 [((1 : Nat), AVal.str s), ((2 : Nat), AVal.ptr (0 : Nat) (0 : Nat)),
 ((4 : Nat), AVal.ptr (1 : Nat) (0 : Nat)),
 ((6 : Nat),
 AVal.str
 (List.take (6 : Nat)
 (List.drop (0 : Nat)
 [(49 : UInt8), b8 i, b8 p, b8 (↑n : Int), b8 (Int.tdiv e (256 : Int)),
 b8 (Int.tmod e (256 : Int))]))),
 ((7 : Nat), AVal.str []), ((8 : Nat), AVal.int IntKind.i64 (0 : Int))]
 [ABlk.vals
 [AVal.int IntKind.i64 i, AVal.int IntKind.i64 p, AVal.int IntKind.i64 e, AVal.ro n (1 : Nat) f],
 ABlk.vals
 [AVal.str [], AVal.str [], AVal.int IntKind.i64 (0 : Int), AVal.int IntKind.i64 (0 : Int),
 AVal.str []]])))))))))))) := by kernel_rfl
set_option maxRecDepth 100000 in
theorem rfEnc_lp_step (i p e : Int) (n : Nat) (g : Nat → List UInt8) (s l t : List UInt8) (k : Int) (K : AVal → Hp → Prop) (J : St → Prop) : rfEnc_lp_b K J (St.mk [(1, .str s), (2, .ptr 0 0), (4, .ptr 1 0), (6, .str l), (7, .str t), (8, .int .i64 k)] [.vals [.int .i64 i, .int .i64 p, .int .i64 e, .ro n 1 (fun i => [.str (g i)])], .vals [.str [], .str [], .int .i64 0, .int .i64 0, .str []]]) = (
 brP (decide (k < (↑n : Int)))
 (((0 : Int) ≤ k ∧ k < (↑n : Int)) ∧
 brP (!decide ((↑(List.length (g (Int.toNat k))) : Int) = (↑(List.length s) : Int)))
 (K
 (AVal.tup
 [AVal.agg [AVal.str [], AVal.str [], AVal.int IntKind.i64 (0 : Int), AVal.int IntKind.i64 (0 : Int), AVal.str []],
 AVal.int IntKind.i64 (1 : Int)])
 [])
 (((0 : Int) ≤ k ∧ k < (↑n : Int)) ∧
 List.length t + List.length (g (Int.toNat k)) ≤ (4611686018427387904 : Nat) ∧
 I64 (k + (1 : Int)) ∧
 J
 (St.mk
 [((1 : Nat), AVal.str s), ((2 : Nat), AVal.ptr (0 : Nat) (0 : Nat)), ((4 : Nat), AVal.ptr (1 : Nat) (0 : Nat)),
 ((6 : Nat), AVal.str l), ((7 : Nat), AVal.str (t ++ g (Int.toNat k))),
 ((8 : Nat), AVal.int IntKind.i64 (k + (1 : Int)))]
 [ABlk.vals
 [AVal.int IntKind.i64 i, AVal.int IntKind.i64 p, AVal.int IntKind.i64 e,
 AVal.ro n (1 : Nat) fun i => [AVal.str (g i)]],
 ABlk.vals
 [AVal.str [], AVal.str [], AVal.int IntKind.i64 (0 : Int), AVal.int IntKind.i64 (0 : Int), AVal.str []]])))
 (brP (!decide ((↑(List.length s) : Int) = (16 : Int)))
 (List.length l + (2 : Nat) ≤ (4611686018427387904 : Nat) ∧
 List.length (l ++ [(0 : UInt8), (0 : UInt8)]) + List.length t ≤ (4611686018427387904 : Nat) ∧
 optP
 (pseudo s [(224 : UInt8), (0 : UInt8), (0 : UInt8), (18 : UInt8)] (112 : Int)
 (↑(List.length (l ++ [(0 : UInt8), (0 : UInt8)] ++ t)) : Int))
 (fun x =>
 List.length (List.take (List.length x) (List.drop (0 : Nat) x)) +
 List.length (l ++ [(0 : UInt8), (0 : UInt8)] ++ t) ≤
 (4611686018427387904 : Nat) ∧
 List.length (List.take (List.length x) (List.drop (0 : Nat) x) ++ (l ++ [(0 : UInt8), (0 : UInt8)] ++ t)) ≤
 (140737488355328 : Nat) ∧
 I64
 ((65535 : Int) -
 sumB
 (List.take
 (List.length
 (List.take (List.length x) (List.drop (0 : Nat) x) ++ (l ++ [(0 : UInt8), (0 : UInt8)] ++ t)))
 (List.drop (0 : Nat)
 (List.take (List.length x) (List.drop (0 : Nat) x) ++ (l ++ [(0 : UInt8), (0 : UInt8)] ++ t))))) ∧
 ((256 : Int) ≠ (0 : Int) ∧
 I64
 (Int.tdiv
 ((65535 : Int) -
 sumB
 (List.take
 (List.length
 (List.take (List.length x) (List.drop (0 : Nat) x) ++ (l ++ [(0 : UInt8), (0 : UInt8)] ++ t)))
 (List.drop (0 : Nat)
 (List.take (List.length x) (List.drop (0 : Nat) x) ++ (l ++ [(0 : UInt8), (0 : UInt8)] ++ t)))))
 (256 : Int))) ∧
 (256 : Int) ≠ (0 : Int) ∧
 List.length l + (2 : Nat) ≤ (4611686018427387904 : Nat) ∧
 List.length
 (l ++
 List.take (2 : Nat)
 (List.drop (0 : Nat)
 [b8
 (Int.tdiv
 ((65535 : Int) -
 sumB
 (List.take
 (List.length
 (List.take (List.length x) (List.drop (0 : Nat) x) ++
 (l ++ [(0 : UInt8), (0 : UInt8)] ++ t)))
 (List.drop (0 : Nat)
 (List.take (List.length x) (List.drop (0 : Nat) x) ++
 (l ++ [(0 : UInt8), (0 : UInt8)] ++ t)))))
 (256 : Int)),
 b8
 (Int.tmod
 ((65535 : Int) -
 sumB
 (List.take
 (List.length
 (List.take (List.length x) (List.drop (0 : Nat) x) ++
 (l ++ [(0 : UInt8), (0 : UInt8)] ++ t)))
 (List.drop (0 : Nat)
 (List.take (List.length x) (List.drop (0 : Nat) x) ++
 (l ++ [(0 : UInt8), (0 : UInt8)] ++ t)))))
 (256 : Int))])) +
 List.length t ≤
 (4611686018427387904 : Nat) ∧
 K
 (AVal.tup
 [AVal.agg
 [AVal.str s, AVal.str [(224 : UInt8), (0 : UInt8), (0 : UInt8), (18 : UInt8)],
 AVal.int IntKind.i64 (112 : Int), AVal.int IntKind.i64 (255 : Int),
 AVal.str
 (l ++
 List.take (2 : Nat)
 (List.drop (0 : Nat)
 [b8
 (Int.tdiv
 ((65535 : Int) -
 sumB
 (List.take
 (List.length
 (List.take (List.length x) (List.drop (0 : Nat) x) ++
 (l ++ [(0 : UInt8), (0 : UInt8)] ++ t)))
 (List.drop (0 : Nat)
 (List.take (List.length x) (List.drop (0 : Nat) x) ++
 (l ++ [(0 : UInt8), (0 : UInt8)] ++ t)))))
 (256 : Int)),
 b8
 (Int.tmod
 ((65535 : Int) -
 sumB
 (List.take
 (List.length
 (List.take (List.length x) (List.drop (0 : Nat) x) ++
 (l ++ [(0 : UInt8), (0 : UInt8)] ++ t)))
 (List.drop (0 : Nat)
 (List.take (List.length x) (List.drop (0 : Nat) x) ++
 (l ++ [(0 : UInt8), (0 : UInt8)] ++ t)))))
 (256 : Int))]) ++
 t)],
 AVal.int IntKind.i64 (0 : Int)])
 [])
 ((0 : Nat) + List.length (l ++ [(0 : UInt8), (0 : UInt8)] ++ t) ≤ (4611686018427387904 : Nat) ∧
 List.length ([] ++ (l ++ [(0 : UInt8), (0 : UInt8)] ++ t)) ≤ (140737488355328 : Nat) ∧
 I64
 ((65535 : Int) -
 sumB
 (List.take (List.length ([] ++ (l ++ [(0 : UInt8), (0 : UInt8)] ++ t)))
 (List.drop (0 : Nat) ([] ++ (l ++ [(0 : UInt8), (0 : UInt8)] ++ t))))) ∧
 ((256 : Int) ≠ (0 : Int) ∧
 I64
 (Int.tdiv
 ((65535 : Int) -
 sumB
 (List.take (List.length ([] ++ (l ++ [(0 : UInt8), (0 : UInt8)] ++ t)))
 (List.drop (0 : Nat) ([] ++ (l ++ [(0 : UInt8), (0 : UInt8)] ++ t)))))
 (256 : Int))) ∧
 (256 : Int) ≠ (0 : Int) ∧
 List.length l + (2 : Nat) ≤ (4611686018427387904 : Nat) ∧
 List.length
 (l ++
 List.take (2 : Nat)
 (List.drop (0 : Nat)
 [b8
 (Int.tdiv
 ((65535 : Int) -
 sumB
 (List.take (List.length ([] ++ (l ++ [(0 : UInt8), (0 : UInt8)] ++ t)))
 (List.drop (0 : Nat) ([] ++ (l ++ [(0 : UInt8), (0 : UInt8)] ++ t)))))
 (256 : Int)),
 b8
 (Int.tmod
 ((65535 : Int) -
 sumB
 (List.take (List.length ([] ++ (l ++ [(0 : UInt8), (0 : UInt8)] ++ t)))
 (List.drop (0 : Nat) ([] ++ (l ++ [(0 : UInt8), (0 : UInt8)] ++ t)))))
 (256 : Int))])) +
 List.length t ≤
 (4611686018427387904 : Nat) ∧
 K
 (AVal.tup
 [AVal.agg
 [AVal.str s, AVal.str [(224 : UInt8), (0 : UInt8), (0 : UInt8), (18 : UInt8)],
 AVal.int IntKind.i64 (112 : Int), AVal.int IntKind.i64 (255 : Int),
 AVal.str
 (l ++
 List.take (2 : Nat)
 (List.drop (0 : Nat)
 [b8
 (Int.tdiv
 ((65535 : Int) -
 sumB
 (List.take (List.length ([] ++ (l ++ [(0 : UInt8), (0 : UInt8)] ++ t)))
 (List.drop (0 : Nat) ([] ++ (l ++ [(0 : UInt8), (0 : UInt8)] ++ t)))))
 (256 : Int)),
 b8
 (Int.tmod
 ((65535 : Int) -
 sumB
 (List.take (List.length ([] ++ (l ++ [(0 : UInt8), (0 : UInt8)] ++ t)))
 (List.drop (0 : Nat) ([] ++ (l ++ [(0 : UInt8), (0 : UInt8)] ++ t)))))
 (256 : Int))]) ++
 t)],
 AVal.int IntKind.i64 (0 : Int)])
 []))
 (((0 : Int) ≤ (16 : Int) ∧ (16 : Int) = (16 : Int) ∧ (16 : Int) ≤ (140737488355328 : Int)) ∧
 ((0 : Int) ≤ (0 : Int) ∧ (0 : Int) < (16 : Int)) ∧
 (0 : Nat) < (16 : Nat) ∧
 ((0 : Int) ≤ (1 : Int) ∧ (1 : Int) < (16 : Int)) ∧
 (1 : Nat) < (16 : Nat) ∧
 ((0 : Int) ≤ (15 : Int) ∧ (15 : Int) < (16 : Int)) ∧
 (15 : Nat) < (16 : Nat) ∧
 List.length l + (2 : Nat) ≤ (4611686018427387904 : Nat) ∧
 List.length (l ++ [(0 : UInt8), (0 : UInt8)]) + List.length t ≤ (4611686018427387904 : Nat) ∧
 optP
 (pseudo s
 (List.take (16 : Nat)
 (List.drop (0 : Nat)
 (List.set
 (List.set
 (List.set
 [(0 : UInt8), (0 : UInt8), (0 : UInt8), (0 : UInt8), (0 : UInt8), (0 : UInt8), (0 : UInt8),
 (0 : UInt8), (0 : UInt8), (0 : UInt8), (0 : UInt8), (0 : UInt8), (0 : UInt8), (0 : UInt8),
 (0 : UInt8), (0 : UInt8)]
 (0 : Nat) (255 : UInt8))
 (1 : Nat) (2 : UInt8))
 (15 : Nat) (18 : UInt8))))
 (112 : Int) (↑(List.length (l ++ [(0 : UInt8), (0 : UInt8)] ++ t)) : Int))
 (fun x =>
 List.length (List.take (List.length x) (List.drop (0 : Nat) x)) +
 List.length (l ++ [(0 : UInt8), (0 : UInt8)] ++ t) ≤
 (4611686018427387904 : Nat) ∧
 List.length
 (List.take (List.length x) (List.drop (0 : Nat) x) ++ (l ++ [(0 : UInt8), (0 : UInt8)] ++ t)) ≤
 (140737488355328 : Nat) ∧
 I64
 ((65535 : Int) -
 sumB
 (List.take
 (List.length
 (List.take (List.length x) (List.drop (0 : Nat) x) ++ (l ++ [(0 : UInt8), (0 : UInt8)] ++ t)))
 (List.drop (0 : Nat)
 (List.take (List.length x) (List.drop (0 : Nat) x) ++ (l ++ [(0 : UInt8), (0 : UInt8)] ++ t))))) ∧
 ((256 : Int) ≠ (0 : Int) ∧
 I64
 (Int.tdiv
 ((65535 : Int) -
 sumB
 (List.take
 (List.length
 (List.take (List.length x) (List.drop (0 : Nat) x) ++ (l ++ [(0 : UInt8), (0 : UInt8)] ++ t)))
 (List.drop (0 : Nat)
 (List.take (List.length x) (List.drop (0 : Nat) x) ++
 (l ++ [(0 : UInt8), (0 : UInt8)] ++ t)))))
 (256 : Int))) ∧
 (256 : Int) ≠ (0 : Int) ∧
 List.length l + (2 : Nat) ≤ (4611686018427387904 : Nat) ∧
 List.length
 (l ++
 List.take (2 : Nat)
 (List.drop (0 : Nat)
 [b8
 (Int.tdiv
 ((65535 : Int) -
 sumB
 (List.take
 (List.length
 (List.take (List.length x) (List.drop (0 : Nat) x) ++
 (l ++ [(0 : UInt8), (0 : UInt8)] ++ t)))
 (List.drop (0 : Nat)
 (List.take (List.length x) (List.drop (0 : Nat) x) ++
 (l ++ [(0 : UInt8), (0 : UInt8)] ++ t)))))
 (256 : Int)),
 b8
 (Int.tmod
 ((65535 : Int) -
 sumB
 (List.take
 (List.length
 (List.take (List.length x) (List.drop (0 : Nat) x) ++
 (l ++ [(0 : UInt8), (0 : UInt8)] ++ t)))
 (List.drop (0 : Nat)
 (List.take (List.length x) (List.drop (0 : Nat) x) ++
 (l ++ [(0 : UInt8), (0 : UInt8)] ++ t)))))
 (256 : Int))])) +
 List.length t ≤
 (4611686018427387904 : Nat) ∧
 K
 (AVal.tup
 [AVal.agg
 [AVal.str s,
 AVal.str
 (List.take (16 : Nat)
 (List.drop (0 : Nat)
 (List.set
 (List.set
 (List.set
 [(0 : UInt8), (0 : UInt8), (0 : UInt8), (0 : UInt8), (0 : UInt8), (0 : UInt8),
 (0 : UInt8), (0 : UInt8), (0 : UInt8), (0 : UInt8), (0 : UInt8), (0 : UInt8),
 (0 : UInt8), (0 : UInt8), (0 : UInt8), (0 : UInt8)]
 (0 : Nat) (255 : UInt8))
 (1 : Nat) (2 : UInt8))
 (15 : Nat) (18 : UInt8)))),
 AVal.int IntKind.i64 (112 : Int), AVal.int IntKind.i64 (255 : Int),
 AVal.str
 (l ++
 List.take (2 : Nat)
 (List.drop (0 : Nat)
 [b8
 (Int.tdiv
 ((65535 : Int) -
 sumB
 (List.take
 (List.length
 (List.take (List.length x) (List.drop (0 : Nat) x) ++
 (l ++ [(0 : UInt8), (0 : UInt8)] ++ t)))
 (List.drop (0 : Nat)
 (List.take (List.length x) (List.drop (0 : Nat) x) ++
 (l ++ [(0 : UInt8), (0 : UInt8)] ++ t)))))
 (256 : Int)),
 b8
 (Int.tmod
 ((65535 : Int) -
 sumB
 (List.take
 (List.length
 (List.take (List.length x) (List.drop (0 : Nat) x) ++
 (l ++ [(0 : UInt8), (0 : UInt8)] ++ t)))
 (List.drop (0 : Nat)
 (List.take (List.length x) (List.drop (0 : Nat) x) ++
 (l ++ [(0 : UInt8), (0 : UInt8)] ++ t)))))
 (256 : Int))]) ++
 t)],
 AVal.int IntKind.i64 (0 : Int)])
 [])
 ((0 : Nat) + List.length (l ++ [(0 : UInt8), (0 : UInt8)] ++ t) ≤ (4611686018427387904 : Nat) ∧
 List.length ([] ++ (l ++ [(0 : UInt8), (0 : UInt8)] ++ t)) ≤ (140737488355328 : Nat) ∧
 I64
 ((65535 : Int) -
 sumB
 (List.take (List.length ([] ++ (l ++ [(0 : UInt8), (0 : UInt8)] ++ t)))
 (List.drop (0 : Nat) ([] ++ (l ++ [(0 : UInt8), (0 : UInt8)] ++ t))))) ∧
 ((256 : Int) ≠ (0 : Int) ∧
 I64
 (Int.tdiv
 ((65535 : Int) -
 sumB
 (List.take (List.length ([] ++ (l ++ [(0 : UInt8), (0 : UInt8)] ++ t)))
 (List.drop (0 : Nat) ([] ++ (l ++ [(0 : UInt8), (0 : UInt8)] ++ t)))))
 (256 : Int))) ∧
 (256 : Int) ≠ (0 : Int) ∧
 List.length l + (2 : Nat) ≤ (4611686018427387904 : Nat) ∧
 List.length
 (l ++
 List.take (2 : Nat)
 (List.drop (0 : Nat)
 [b8
 (Int.tdiv
 ((65535 : Int) -
 sumB
 (List.take (List.length ([] ++ (l ++ [(0 : UInt8), (0 : UInt8)] ++ t)))
 (List.drop (0 : Nat) ([] ++ (l ++ [(0 : UInt8), (0 : UInt8)] ++ t)))))
 (256 : Int)),
 b8
 (Int.tmod
 ((65535 : Int) -
 sumB
 (List.take (List.length ([] ++ (l ++ [(0 : UInt8), (0 : UInt8)] ++ t)))
 (List.drop (0 : Nat) ([] ++ (l ++ [(0 : UInt8), (0 : UInt8)] ++ t)))))
 (256 : Int))])) +
 List.length t ≤
 (4611686018427387904 : Nat) ∧
 K
 (AVal.tup
 [AVal.agg
 [AVal.str s,
 AVal.str
 (List.take (16 : Nat)
 (List.drop (0 : Nat)
 (List.set
 (List.set
 (List.set
 [(0 : UInt8), (0 : UInt8), (0 : UInt8), (0 : UInt8), (0 : UInt8), (0 : UInt8),
 (0 : UInt8), (0 : UInt8), (0 : UInt8), (0 : UInt8), (0 : UInt8), (0 : UInt8),
 (0 : UInt8), (0 : UInt8), (0 : UInt8), (0 : UInt8)]
 (0 : Nat) (255 : UInt8))
 (1 : Nat) (2 : UInt8))
 (15 : Nat) (18 : UInt8)))),
 AVal.int IntKind.i64 (112 : Int), AVal.int IntKind.i64 (255 : Int),
 AVal.str
 (l ++
 List.take (2 : Nat)
 (List.drop (0 : Nat)
 [b8
 (Int.tdiv
 ((65535 : Int) -
 sumB
 (List.take (List.length ([] ++ (l ++ [(0 : UInt8), (0 : UInt8)] ++ t)))
 (List.drop (0 : Nat) ([] ++ (l ++ [(0 : UInt8), (0 : UInt8)] ++ t)))))
 (256 : Int)),
 b8
 (Int.tmod
 ((65535 : Int) -
 sumB
 (List.take (List.length ([] ++ (l ++ [(0 : UInt8), (0 : UInt8)] ++ t)))
 (List.drop (0 : Nat) ([] ++ (l ++ [(0 : UInt8), (0 : UInt8)] ++ t)))))
 (256 : Int))]) ++
 t)],
 AVal.int IntKind.i64 (0 : Int)])
 [])))) := by kernel_rfl
theorem rfEnc_end {i p e : Int} {n : Nat} {g : Nat → List UInt8} {s : List UInt8} (hr : adRight ⟨i, p, e, (List.range n).map g⟩ s = true) {k : Int} (hk : ¬ k < (n : Int)) {K : AVal → Hp → Prop} (hK : K (adIp (adPacket ⟨i, p, e, (List.range n).map g⟩ s, 0)) []) (J : St → Prop) :
    rfEnc_lp_b K J (St.mk [(1, .str s), (2, .ptr 0 0), (4, .ptr 1 0), (6, .str [49, b8 i, b8 p, b8 (n : Int), b8 (e / 256), b8 e]), (7, .str (upto g n)), (8, .int .i64 k)] [.vals [.int .i64 i, .int .i64 p, .int .i64 e, .ro n 1 (fun i => [.str (g i)])], .vals [.str [], .str [], .int .i64 0, .int .i64 0, .str []]]) := by
  rw [rfEnc_lp_step]
  obtain ⟨hl1, hl2⟩ := ad_len hr
  have hl := adBody_len ⟨i, p, e, (List.range n).map g⟩ 0
  have hs := ((adRight_iff _ s).1 hr).1
  obtain ⟨x, hx, hxl, hx40⟩ := ad_pseudo hs ((adBody ⟨i, p, e, (List.range n).map g⟩ 0).length : Int)
  have hsum : 65535 - sumB (x ++ adBody ⟨i, p, e, (List.range n).map g⟩ 0) = adSum ⟨i, p, e, (List.range n).map g⟩ s := by unfold adSum; rw [hxl]
  have hbd := sumB_bd (x ++ adBody ⟨i, p, e, (List.range n).map g⟩ 0)
  have hbl := adBody_len ⟨i, p, e, (List.range n).map g⟩ (adSum ⟨i, p, e, (List.range n).map g⟩ s)
  have hB : (adBody ⟨i, p, e, (List.range n).map g⟩ 0).length ≤ 136 := by rw [hl, hl1]; omega
  have hb0 : [49, b8 i, b8 p, b8 (n : Int), b8 (e / 256), b8 e] ++ [0, 0] ++ upto g n = adBody ⟨i, p, e, (List.range n).map g⟩ 0 := by
    unfold adBody; rw [adHead_0]; simp [upto]
  have hb1 : ∀ q : Int, [49, b8 i, b8 p, b8 (n : Int), b8 (e / 256), b8 e] ++ [b8 (q / 256), b8 q] ++ upto g n = adBody ⟨i, p, e, (List.range n).map g⟩ q := fun q => by
    unfold adBody adHead; simp [upto]
  have htd : [b8 (Int.tdiv (adSum ⟨i, p, e, (List.range n).map g⟩ s) 256), b8 (Int.tmod (adSum ⟨i, p, e, (List.range n).map g⟩ s) 256)] = [b8 (adSum ⟨i, p, e, (List.range n).map g⟩ s / 256), b8 (adSum ⟨i, p, e, (List.range n).map g⟩ s)] := by
    rw [Int.tdiv_eq_ediv_of_nonneg (by omega), Int.tmod_eq_emod_of_nonneg (by omega), b8_mod]
  have hI : I64 (adSum ⟨i, p, e, (List.range n).map g⟩ s) := by unfold I64; omega
  have hI2 : I64 (Int.tdiv (adSum ⟨i, p, e, (List.range n).map g⟩ s) 256) := by rw [Int.tdiv_eq_ediv_of_nonneg (by omega)]; unfold I64; omega
  have hu : (upto g n).length ≤ 128 := by
    have : (upto g n) = ((List.range n).map g).flatten := rfl
    simp only at hl1 hl2
    rw [this, hl1]; omega
  have hb1' := hb1 (adSum ⟨i, p, e, (List.range n).map g⟩ s)
  unfold adIp adPacket at hK
  simp only at hK
  rw [← hsum] at hK hb1' hbl htd hI hI2
  generalize adBody ⟨i, p, e, (List.range n).map g⟩ 0 = B at *
  generalize adBody ⟨i, p, e, (List.range n).map g⟩ (65535 - sumB (x ++ B)) = C at *
  have hxt : List.take (x.length + B.length) (x ++ B) = x ++ B := by rw [← List.length_append, List.take_length]
  refine brP_d (fun h => absurd h hk) (fun _ => ?_)
  by_cases h16 : s.length = 16
  · rw [decide_eq_true h16] at hx hK
    refine brP_nd (fun h => absurd (by omega) h) (fun _ => ?_)
    simp only [hb0, List.set_cons_zero, List.set_cons_succ, List.drop_zero, List.take_succ_cons, List.take_zero]
    rw [show adGroup true = [(255 : UInt8), 2, 0, 0, 0, 0, 0, 0, 0, 0, 0, 0, 0, 0, 0, 18] from rfl] at hx hK
    rw [hx]
    simp only [optP, List.take_length, List.drop_zero, List.length_append, List.length_cons, List.length_nil, hxt, htd, hb1']
    exact ⟨⟨by omega, trivial, by omega⟩, by omega, by omega, by omega, by omega, by omega, by omega, by omega, by omega, by omega, by omega, hI, ⟨by omega, hI2⟩, by omega, by omega, by omega, hK⟩
  · rw [decide_eq_false h16] at hx hK
    refine brP_nd (fun _ => ?_) (fun h => absurd (by omega) h16)
    simp only [hb0, List.set_cons_zero, List.set_cons_succ, List.drop_zero, List.take_succ_cons, List.take_zero]
    rw [show adGroup false = [(224 : UInt8), 0, 0, 18] from rfl] at hx hK
    rw [hx]
    simp only [optP, List.take_length, List.drop_zero, List.length_append, List.length_cons, List.length_nil, hxt, htd, hb1']
    exact ⟨by omega, by omega, by omega, by omega, hI, ⟨by omega, hI2⟩, by omega, by omega, by omega, hK⟩
/-- the lists from k on are all as long -/
theorem rfEnc_all {i p e : Int} {n : Nat} {g : Nat → List UInt8} {s : List UInt8} (hA : (s.length = 4 ∨ s.length = 16) ∧ 1 ≤ i ∧ i ≤ 255 ∧ 0 ≤ p ∧ p ≤ 255 ∧ 1 ≤ e ∧ e ≤ 4095 ∧ 1 ≤ n ∧ n ≤ 8) {K : AVal → Hp → Prop} (hK : K (adIp (adEncode ⟨i, p, e, (List.range n).map g⟩ s)) []) : ∀ (j k : Nat), k + j = n → (∀ q, q < k → (g q).length = s.length) →
    rfEnc_lp_n K (j + 1) (St.mk [(1, .str s), (2, .ptr 0 0), (4, .ptr 1 0), (6, .str [49, b8 i, b8 p, b8 (n : Int), b8 (e / 256), b8 e]), (7, .str (upto g k)), (8, .int .i64 (k : Int))] [.vals [.int .i64 i, .int .i64 p, .int .i64 e, .ro n 1 (fun i => [.str (g i)])], .vals [.str [], .str [], .int .i64 0, .int .i64 0, .str []]])
  | 0, k, h, hg => by
    refine rfEnc_lp_next ?_
    obtain rfl : k = n := by omega
    have hr : adRight ⟨i, p, e, (List.range k).map g⟩ s = true := by
      rw [adRight_iff]
      obtain ⟨h0, h1, h2, h3, h4, h5, h6, h7, h8⟩ := hA
      refine ⟨h0, h1, h2, h3, h4, h5, h6, by simpa using h7, by simpa using h8, fun x hx => ?_⟩
      obtain ⟨q, hq, rfl⟩ := List.mem_map.1 hx
      exact hg q (by simpa using hq)
    rw [adEncode_yes hr] at hK
    exact rfEnc_end hr (by omega) hK _
  | j + 1, k, h, hg => by
    refine rfEnc_lp_next ?_
    rw [rfEnc_lp_step]
    refine brP_d (fun _ => ⟨by omega, ?_⟩) (fun h' => by omega)
    rw [Int.toNat_natCast]
    refine brP_nd (fun hne => ?_) (fun heq => ?_)
    · rw [adEncode_no (fun hr => ?_)] at hK
      · exact hK
      · have := ((adRight_iff _ s).1 hr).2.2.2.2.2.2.2.2.2 (g k) (List.mem_map.2 ⟨k, by simp; omega, rfl⟩)
        omega
    · have hu : (upto g k).length = k * s.length := upto_len hg
      have hk8 : k * s.length ≤ 8 * 16 := Nat.mul_le_mul (by omega) (by omega)
      have ih := rfEnc_all hA hK j (k + 1) (by omega) (fun q hq => by
        rcases Nat.lt_or_ge q k with h1 | h1
        · exact hg q h1
        · obtain rfl : q = k := by omega
          omega)
      rw [upto_succ] at ih
      exact ⟨by omega, by omega, by unfold I64; omega, ih⟩
attribute [local irreducible] fnP in
set_option maxRecDepth 100000 in
theorem outriderref06_Encode_p : ∀ args H K, adEncRow args H K → ∃ args', ArgsLe H args args' ∧ fnP Try.prog Tad8 ann_outriderref06_Encode Try.f10 args' H (fun v H' => ∃ v2 H2, ResLe v H' v2 H2 ∧ K v2 H2) := by
  intro args H K h
  unfold adEncRow at h
  split at h
  · rename_i i p e n f s
    obtain ⟨⟨hs, hn⟩, hK⟩ := h
    refine ⟨[.agg [.int .i64 i, .int .i64 p, .int .i64 e, .ro n 1 (onlyStrs f)], .str s], .cons (.agg (.cons .refl (.cons .refl (.cons .refl (.cons (VE.strs hs) .refl))))) .refl, ?_⟩
    rw [rfEnc_eq]
    have no : ¬ ((s.length = 4 ∨ s.length = 16) ∧ 1 ≤ i ∧ i ≤ 255 ∧ 0 ≤ p ∧ p ≤ 255 ∧ 1 ≤ e ∧ e ≤ 4095 ∧ 1 ≤ n ∧ n ≤ 8) → ∃ v2 H2, ResLe (.tup [.agg [.str [], .str [], .int .i64 0, .int .i64 0, .str []], .int .i64 1]) [] v2 H2 ∧ K v2 H2 := fun hno => by
      rw [adEncode_no (fun hr => hno ?_)] at hK
      · exact ⟨_, _, .refl, hK⟩
      · obtain ⟨h0, h1, h2, h3, h4, h5, h6, h7, h8, _⟩ := (adRight_iff _ s).1 hr
        rw [strs_len] at h7 h8
        exact ⟨h0, h1, h2, h3, h4, h5, h6, h7, h8⟩
    have yes : ((s.length = 4 ∨ s.length = 16) ∧ 1 ≤ i ∧ i ≤ 255 ∧ 0 ≤ p ∧ p ≤ 255 ∧ 1 ≤ e ∧ e ≤ 4095 ∧ 1 ≤ n ∧ n ≤ 8) → _ := fun hA => rfEnc_all (n := n) (g := strAt f) (s := s) hA (K := fun v H' => ∃ v2 H2, ResLe v H' v2 H2 ∧ K v2 H2) ⟨_, _, .refl, hK⟩ n 0 (by omega) (fun q hq => by omega)
    have htd : 1 ≤ e → Int.tdiv e 256 = e / 256 ∧ b8 (Int.tmod e 256) = b8 e := fun h => by
      rw [Int.tdiv_eq_ediv_of_nonneg (by omega), Int.tmod_eq_emod_of_nonneg (by omega), b8_mod]; exact ⟨rfl, rfl⟩
    have last : ∀ (h : (s.length = 4 ∨ s.length = 16) ∧ 1 ≤ i ∧ i ≤ 255 ∧ 0 ≤ p ∧ p ≤ 255 ∧ 1 ≤ e ∧ e ≤ 4095 ∧ 1 ≤ n ∧ n ≤ 8), ((256 : Int) ≠ 0 ∧ I64 (Int.tdiv e 256)) ∧ (256 : Int) ≠ 0 ∧ rfEnc_lp (fun v H' => ∃ v2 H2, ResLe v H' v2 H2 ∧ K v2 H2)
        (St.mk [(1, .str s), (2, .ptr 0 0), (4, .ptr 1 0), (6, .str (List.take 6 (List.drop 0 [(49 : UInt8), b8 i, b8 p, b8 (n : Int), b8 (Int.tdiv e 256), b8 (Int.tmod e 256)]))), (7, .str []), (8, .int .i64 0)] [.vals [.int .i64 i, .int .i64 p, .int .i64 e, .ro n 1 (onlyStrs f)], .vals [.str [], .str [], .int .i64 0, .int .i64 0, .str []]]) := fun h => by
      have hy := yes h
      obtain ⟨h1, h2⟩ := htd (by omega)
      rw [h1, h2]
      exact ⟨⟨by omega, by unfold I64; omega⟩, by omega, _, hy⟩
    repeat' first
      | (refine brP_nd (fun h => ?_) (fun h => ?_))
      | (refine brP_d (fun h => ?_) (fun h => ?_))
    all_goals first
      | exact no (by omega)
      | exact last (by omega)
  · exact h.elim
def Tad9 : Specs := ext Tad8 10 (adEncRow)
theorem Tad9_sound : TSound Try.prog Tad9 := ext_sound Tad8_sound (row_weak Tad8_sound mixed Try.func10 (by decide +kernel) outriderref06_Encode_p)
abbrev Tad : Specs := Tad9
theorem Tad_sound : TSound Try.prog Tad := Tad9_sound
end Go.Proofs.Ytbjolilknkbehaa.Ae

