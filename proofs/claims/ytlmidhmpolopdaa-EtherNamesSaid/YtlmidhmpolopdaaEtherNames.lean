/- EtherNames: which addresses are a group's, two share, or a group's address has, is told as the document says. No conditions. -/
import Derived.Test.YtlmidhmpolopdaaFe2
set_option linter.unusedSimpArgs false
set_option linter.unusedVariables false
namespace Go.Proofs.Ytlmidhmpolopdaa.Ae
open Go Go.RowKit
theorem and1 (x : UInt8) : UInt8.ofNat (x.toNat % 2) = x &&& 1 := by
  have h : ∀ n : Nat, n < 256 → n % 2 % 256 = n &&& 1 := by decide +kernel
  apply UInt8.toNat_inj.1
  rw [UInt8.toNat_and, UInt8.toNat_ofNat']
  exact h _ x.toNat_lt
theorem many_odd (a : List UInt8) (h : (etMany a).2 = true) : (etMany a).1.a0 &&& 1 = 1 := by
  revert h
  unfold etMany
  split
  · intro _; show (1 : UInt8) &&& 1 = 1; decide
  · split
    · intro _; show (51 : UInt8) &&& 1 = 1; decide
    · intro h; cases h
def ann_outriderlaw02_EtherNames : Nat → List Nat × Nat × List (List Nat)
  | 2 => ([1, 2, 3, 17, 18, 19, 39, 40, 41, 44, 45, 46, 47, 48, 63, 64, 65, 66, 67, 70, 71, 72, 75, 76, 77, 80, 81, 82, 83, 84, 85, 88, 89], 0, [])
  | 11 => ([], 30, [[], [0], [0, 1], [0, 1, 2], [0, 1], [0, 1, 2, 3, 4], [0, 1, 2, 3, 4, 5], [0, 1, 2, 3, 4, 5, 6], [0, 1, 2, 3, 4, 5, 6, 7], [0, 1, 2, 3, 4, 5, 6, 7, 8], [0, 1, 2, 3, 4, 5, 6, 7, 8], [0, 1, 2, 3, 4, 5, 6, 7, 8, 9, 10], [0, 1, 2, 3, 4, 5, 6, 7, 8, 9, 10, 11], [0, 1, 2, 3, 4, 5, 6, 7, 8, 9, 10, 11, 12], [0, 1, 2, 3, 4, 5, 6, 7, 8, 9, 10, 11, 12, 13], [0, 1, 2, 3, 4, 5, 6, 7, 8, 9, 10, 11, 12, 13], [0, 1, 2, 3, 4, 5, 6, 7, 8, 9, 10, 11, 12, 13, 14, 15], [0, 1, 2, 3, 4, 5, 6, 7, 8, 9, 10, 11, 12, 13, 14, 15, 16], [0, 1, 2, 3, 4, 5, 6, 7, 8, 9, 10, 11, 12, 13, 14, 15, 16, 17], [0, 1, 2, 3, 4, 5, 6, 7, 8, 9, 10, 11, 12, 13, 14, 15, 16, 17, 18], [0, 1, 2, 3, 4, 5, 6, 7, 8, 9, 10, 11, 12, 13, 14, 15, 16, 17, 18, 19], [0, 1, 2, 3, 4, 5, 6, 7, 8, 9, 10, 11, 12, 13, 14, 15, 16, 17, 18, 19, 20], [0, 1, 2, 3, 4, 5, 6, 7, 8, 9, 10, 11, 12, 13, 14, 15, 16, 17, 18, 19, 20, 21], [0, 1, 2, 3, 4, 5, 6, 7, 8, 9, 10, 11, 12, 13, 14, 15, 16, 17, 18, 19, 20, 21, 22], [0, 1, 2, 3, 4, 5, 6, 7, 8, 9, 10, 11, 12, 13, 14, 15, 16, 17, 18, 19, 20, 21, 22, 23], [0, 1, 2, 3, 4, 5, 6, 7, 8, 9, 10, 11, 12, 13, 14, 15, 16, 17, 18, 19, 20, 21, 22, 23, 24], [0, 1, 2, 3, 4, 5, 6, 7, 8, 9, 10, 11, 12, 13, 14, 15, 16, 17, 18, 19, 20, 21, 22, 23, 24, 25], [0, 1, 2, 3, 4, 5, 6, 7, 8, 9, 10, 11, 12, 13, 14, 15, 16, 17, 18, 19, 20, 21, 22, 23, 24, 25, 26], [0, 1, 2, 3, 4, 5, 6, 7, 8, 9, 10, 11, 12, 13, 14, 15, 16, 17, 18, 19, 20, 21, 22, 23, 24, 25, 26, 27], [0, 1, 2, 3, 4, 5, 6, 7, 8, 9, 10, 11, 12, 13, 14, 15, 16, 17, 18, 19, 20, 21, 22, 23, 24, 25, 26, 27, 28]])
  | 1000002 => ([], 5, [])
  | _ => ([], 0, [])
set_option maxRecDepth 100000 in
theorem EtherNames_eq (m0 m1 m2 m3 m4 m5 : UInt8) (n : Int) (a : List UInt8) (K : AVal → Hp → Prop) : fnP Try.prog Te2 ann_outriderlaw02_EtherNames Try.f8 [.agg [.byte m0, .byte m1, .byte m2, .byte m3, .byte m4, .byte m5], .int .i64 n, .str a] [] K = (
 ((0 : Int) ≤ (0 : Int) ∧ (0 : Int) < (2 : Int)) ∧
 brP (decide (n < (1 : Int)) || decide ((255 : Int) < n))
 (brP (decide (n < (1 : Int)) || decide ((255 : Int) < n))
 (I64 (1 : Int) ∧
 ((0 : Int) ≤ (1 : Int) ∧ (1 : Int) < (2 : Int)) ∧
 brP (decide (n < (1 : Int)) || decide ((255 : Int) < n))
 (brP (decide (n < (1 : Int)) || decide ((255 : Int) < n))
 (I64 (2 : Int) ∧
 ((0 : Int) ≤ (0 : Int) ∧ (0 : Int) < (6 : Int)) ∧
 ((0 : Int) ≤ (0 : Int) ∧ (0 : Int) < (6 : Int)) ∧
 (2 : Nat) ≠ (0 : Nat) ∧
 brP
 (decide
 (decide (m0 &&& (1 : UInt8) = (1 : UInt8)) =
 decide (UInt8.ofNat (UInt8.toNat m0 % (2 : Nat)) = (1 : UInt8))))
 (brP
 (decide ((etMany a).fst.a0 = (etMany a).fst.a0) &&
 (decide ((etMany a).fst.a1 = (etMany a).fst.a1) &&
 (decide ((etMany a).fst.a2 = (etMany a).fst.a2) &&
 (decide ((etMany a).fst.a3 = (etMany a).fst.a3) &&
 (decide ((etMany a).fst.a4 = (etMany a).fst.a4) && decide ((etMany a).fst.a5 = (etMany a).fst.a5))))))
 (brP (decide ((etMany a).snd = (etMany a).snd))
 (brP (!(etMany a).snd) (((0 : Int) ≤ (0 : Int) ∧ (0 : Int) < (6 : Int)) ∧ K (AVal.bool true) [])
 (((0 : Int) ≤ (0 : Int) ∧ (0 : Int) < (6 : Int)) ∧
 brP (decide ((etMany a).fst.a0 &&& (1 : UInt8) = (1 : UInt8)))
 (((0 : Int) ≤ (0 : Int) ∧ (0 : Int) < (6 : Int)) ∧ K (AVal.bool true) []) (K (AVal.bool false) [])))
 (K (AVal.bool false) []))
 (K (AVal.bool false) []))
 (K (AVal.bool false) []))
 (K (AVal.bool false) []))
 (((0 : Int) ≤ (4 : Int) ∧ (4 : Int) < (6 : Int)) ∧
 brP (decide (n < (1 : Int)) || decide ((255 : Int) < n)) (K (AVal.bool false) [])
 (brP (!decide (b8 n = b8 n)) (K (AVal.bool false) [])
 (((0 : Int) ≤ (0 : Int) ∧ (0 : Int) < (6 : Int)) ∧
 I64 (2 : Int) ∧
 ((0 : Int) ≤ (0 : Int) ∧ (0 : Int) < (6 : Int)) ∧
 ((0 : Int) ≤ (0 : Int) ∧ (0 : Int) < (6 : Int)) ∧
 (2 : Nat) ≠ (0 : Nat) ∧
 brP
 (decide
 (decide (m0 &&& (1 : UInt8) = (1 : UInt8)) =
 decide (UInt8.ofNat (UInt8.toNat m0 % (2 : Nat)) = (1 : UInt8))))
 (brP
 (decide ((etMany a).fst.a0 = (etMany a).fst.a0) &&
 (decide ((etMany a).fst.a1 = (etMany a).fst.a1) &&
 (decide ((etMany a).fst.a2 = (etMany a).fst.a2) &&
 (decide ((etMany a).fst.a3 = (etMany a).fst.a3) &&
 (decide ((etMany a).fst.a4 = (etMany a).fst.a4) &&
 decide ((etMany a).fst.a5 = (etMany a).fst.a5))))))
 (brP (decide ((etMany a).snd = (etMany a).snd))
 (brP (!(etMany a).snd) (((0 : Int) ≤ (0 : Int) ∧ (0 : Int) < (6 : Int)) ∧ K (AVal.bool true) [])
 (((0 : Int) ≤ (0 : Int) ∧ (0 : Int) < (6 : Int)) ∧
 brP (decide ((etMany a).fst.a0 &&& (1 : UInt8) = (1 : UInt8)))
 (((0 : Int) ≤ (0 : Int) ∧ (0 : Int) < (6 : Int)) ∧ K (AVal.bool true) [])
 (K (AVal.bool false) [])))
 (K (AVal.bool false) []))
 (K (AVal.bool false) []))
 (K (AVal.bool false) [])))))
 (K (AVal.bool false) []))
 (brP (decide (n < (1 : Int)) || decide ((255 : Int) < n)) (K (AVal.bool false) [])
 (brP (!decide (b8 n = b8 n)) (K (AVal.bool false) [])
 (((0 : Int) ≤ (0 : Int) ∧ (0 : Int) < (6 : Int)) ∧
 I64 (1 : Int) ∧
 ((0 : Int) ≤ (1 : Int) ∧ (1 : Int) < (2 : Int)) ∧
 brP (decide (n < (1 : Int)) || decide ((255 : Int) < n))
 (brP (decide (n < (1 : Int)) || decide ((255 : Int) < n))
 (I64 (2 : Int) ∧
 ((0 : Int) ≤ (0 : Int) ∧ (0 : Int) < (6 : Int)) ∧
 ((0 : Int) ≤ (0 : Int) ∧ (0 : Int) < (6 : Int)) ∧
 (2 : Nat) ≠ (0 : Nat) ∧
 brP
 (decide
 (decide (m0 &&& (1 : UInt8) = (1 : UInt8)) =
 decide (UInt8.ofNat (UInt8.toNat m0 % (2 : Nat)) = (1 : UInt8))))
 (brP
 (decide ((etMany a).fst.a0 = (etMany a).fst.a0) &&
 (decide ((etMany a).fst.a1 = (etMany a).fst.a1) &&
 (decide ((etMany a).fst.a2 = (etMany a).fst.a2) &&
 (decide ((etMany a).fst.a3 = (etMany a).fst.a3) &&
 (decide ((etMany a).fst.a4 = (etMany a).fst.a4) &&
 decide ((etMany a).fst.a5 = (etMany a).fst.a5))))))
 (brP (decide ((etMany a).snd = (etMany a).snd))
 (brP (!(etMany a).snd) (((0 : Int) ≤ (0 : Int) ∧ (0 : Int) < (6 : Int)) ∧ K (AVal.bool true) [])
 (((0 : Int) ≤ (0 : Int) ∧ (0 : Int) < (6 : Int)) ∧
 brP (decide ((etMany a).fst.a0 &&& (1 : UInt8) = (1 : UInt8)))
 (((0 : Int) ≤ (0 : Int) ∧ (0 : Int) < (6 : Int)) ∧ K (AVal.bool true) []) (K (AVal.bool false) [])))
 (K (AVal.bool false) []))
 (K (AVal.bool false) []))
 (K (AVal.bool false) []))
 (K (AVal.bool false) []))
 (((0 : Int) ≤ (4 : Int) ∧ (4 : Int) < (6 : Int)) ∧
 brP (decide (n < (1 : Int)) || decide ((255 : Int) < n)) (K (AVal.bool false) [])
 (brP (!decide (b8 n = b8 n)) (K (AVal.bool false) [])
 (((0 : Int) ≤ (0 : Int) ∧ (0 : Int) < (6 : Int)) ∧
 I64 (2 : Int) ∧
 ((0 : Int) ≤ (0 : Int) ∧ (0 : Int) < (6 : Int)) ∧
 ((0 : Int) ≤ (0 : Int) ∧ (0 : Int) < (6 : Int)) ∧
 (2 : Nat) ≠ (0 : Nat) ∧
 brP
 (decide
 (decide (m0 &&& (1 : UInt8) = (1 : UInt8)) =
 decide (UInt8.ofNat (UInt8.toNat m0 % (2 : Nat)) = (1 : UInt8))))
 (brP
 (decide ((etMany a).fst.a0 = (etMany a).fst.a0) &&
 (decide ((etMany a).fst.a1 = (etMany a).fst.a1) &&
 (decide ((etMany a).fst.a2 = (etMany a).fst.a2) &&
 (decide ((etMany a).fst.a3 = (etMany a).fst.a3) &&
 (decide ((etMany a).fst.a4 = (etMany a).fst.a4) &&
 decide ((etMany a).fst.a5 = (etMany a).fst.a5))))))
 (brP (decide ((etMany a).snd = (etMany a).snd))
 (brP (!(etMany a).snd) (((0 : Int) ≤ (0 : Int) ∧ (0 : Int) < (6 : Int)) ∧ K (AVal.bool true) [])
 (((0 : Int) ≤ (0 : Int) ∧ (0 : Int) < (6 : Int)) ∧
 brP (decide ((etMany a).fst.a0 &&& (1 : UInt8) = (1 : UInt8)))
 (((0 : Int) ≤ (0 : Int) ∧ (0 : Int) < (6 : Int)) ∧ K (AVal.bool true) [])
 (K (AVal.bool false) [])))
 (K (AVal.bool false) []))
 (K (AVal.bool false) []))
 (K (AVal.bool false) [])))))))) := by kernel_rfl
theorem etherNames.core (m0 m1 m2 m3 m4 m5 : UInt8) (n : Int) (a : List UInt8)  (h_n : -9223372036854775808 ≤ n ∧ n ≤ 9223372036854775807) (h_a : a.length ≤ 140737488351232) :
    fnP Try.prog Te2 ann_outriderlaw02_EtherNames Try.f8 [.agg [.byte m0, .byte m1, .byte m2, .byte m3, .byte m4, .byte m5], .int .i64 n, .str a] [] (fun v _ => v = .bool true) := by
  rw [EtherNames_eq]
  have hg := and1 m0
  have hM := many_odd a
  have i1 : I64 1 := by unfold I64; omega
  have i2 : I64 2 := by unfold I64; omega
  cases hb : (decide (n < 1) || decide (255 < n)) with
  | true =>
    simp only [hb, brP_t]
    cases hm : (etMany a).2 with
    | false => simp [brP, hg, i1, i2]
    | true => simp [brP, hg, i1, i2, hM hm]
  | false =>
    simp only [hb, brP_f]
    cases hm : (etMany a).2 with
    | false => simp [brP, hg, i1, i2]
    | true => simp [brP, hg, i1, i2, hM hm]
end Go.Proofs.Ytlmidhmpolopdaa.Ae
namespace Go.Proofs.Ytlmidhmpolopdaa
open Go Go.RowKit Ae
attribute [local irreducible] fnP in
set_option maxRecDepth 100000 in
theorem etherNames.walk {H : Type} {enc : TypeId × Value → H} (W : World) (args : Array Value) (hn : args.size = 3)
    (h : ∀ (j : Nat) t v, Try.f8.params[j]? = some t → args[j]? = some v → RdV enc false Try.prog W t v) :
    Calls Try.prog 8 args W fun e w' => e = .returned (.bool true) ∧ Below W.heap.size W w' := by
  obtain ⟨v0, v1, v2, rfl⟩ := args3 hn
  obtain ⟨vs0, hs0, hv0⟩ := arg_agg (b := false) (d := 6) (ks := [.byte, .byte, .byte, .byte, .byte, .byte]) (.inr ⟨_, _, Try.underlying23⟩) (by kernel_rfl) (h 0 23 v0 rfl rfl)
  obtain ⟨_, _, rfl, ⟨m0, rfl⟩, _, _, rfl, ⟨m1, rfl⟩, _, _, rfl, ⟨m2, rfl⟩, _, _, rfl, ⟨m3, rfl⟩, _, _, rfl, ⟨m4, rfl⟩, _, _, rfl, ⟨m5, rfl⟩, rfl⟩ := hs0
  obtain ⟨n, rfl, h_n, hv1⟩ := arg_int (b := false) (m := Mp.nil) (G := []) Try.underlying3 (h 1 3 v1 rfl rfl)
  obtain ⟨a, h_a, hv2⟩ := arg_str (b := false) (m := Mp.nil) (G := []) Try.underlying39 (h 2 39 v2 rfl rfl)
  obtain ⟨r, H1, hr, hG⟩ := fn_sound Te2_sound mixed Try.func8 (by decide +kernel) (etherNames.core m0 m1 m2 m3 m4 m5 n a (i64_bd h_n) (len_lim h_a))
  subst hr
  exact law_walk hG (vl_cons hv0 (vl_cons hv1 (vl_cons hv2 vl_nil)))

namespace etherNames
theorem spec {H : Type} (ds : List (DataW H)) (h : ds.length = Try.f8.params.size) : Rows.etherNamesSpec.fn H ds = { results := [.lit (.bool true)], args := ds } := by
  have h' : ds.length = 3 := h
  match ds, h' with
  | [_, _, _], _ => rfl

set_option maxRecDepth 100000 in
theorem lifted (os : Os) (started : os.Started) (H : Type) (enc : TypeId × Value → H) :
    ReturnsInHanded {} Try.checked os 8 .any (Rows.etherNamesSpec.pre6 enc Try.prog Try.f8 Rows.etherNamesRow.domain false) (Rows.etherNamesSpec.post enc Try.prog Try.f8 false true false false) :=
  lifted_said (C := Try.checked) (tb := 4) own started (by kernel_rfl) Try.func8
    (ChangeSpec.witness6 (enc := enc) (C := Try.checked) false ⟨#[], #[.agg #[.int .u8 0, .int .u8 0, .int .u8 0, .int .u8 0, .int .u8 0, .int .u8 0], .int .i64 0, .string .empty], []⟩ 8 (by kernel_rfl) (by kernel_rfl) (by kernel_rfl) (by kernel_rfl))
    rfl spec rfl Try.underlying4 laidOut (by kernel_rfl) walk

theorem over : Rows.etherNamesRow.holds Try.pinned (OpenSpec.ofChange Rows.etherNamesSpec) :=
  OpenClaim.holds_of_wide 8 Try.f8 rfl rfl rfl rfl rfl rfl rfl ⟨rfl, rfl, rfl, rfl, rfl⟩ rfl rfl rfl rfl rfl (by kernel_rfl) Try.func8 (by kernel_rfl)
    (of_decide_eq_true (by kernel_rfl)) (by unfold Func.isWrapper; first | (rw [if_pos (by decide +kernel)]; kernel_rfl) | (rw [if_neg (by decide +kernel)]; exact ⟨rfl, rfl⟩))
    (fun os started H enc _ => lifted os started H enc)

theorem proved : Rows.EtherNamesSaid := over
#print axioms proved
end etherNames

end Go.Proofs.Ytlmidhmpolopdaa

