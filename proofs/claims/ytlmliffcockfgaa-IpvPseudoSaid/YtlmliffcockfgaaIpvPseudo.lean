/- IpvPseudo: what a sum goes over, too, is what the document says; which addresses are right, likewise. No conditions. -/
import Derived.Test.YtlmliffcockfgaaAl
import Derived.Test.YtlmliffcockfgaaMip2
set_option linter.unusedSimpArgs false
set_option linter.unusedVariables false
namespace Go.Proofs.Ytlmliffcockfgaa.Ae
open Go Go.RowKit
def ann_outriderlaw03_IpvPseudo : Nat → List Nat × Nat × List (List Nat)
  | 1 => ([], 39, [[], [0], [0, 1], [0, 1, 2], [0, 1], [0, 1, 4], [0, 1], [0, 1], [0, 1, 2, 3, 4, 5, 6, 7], [0, 1, 2, 3, 4, 5, 6, 7, 8], [0, 1], [0, 1, 10], [0, 1], [0, 1, 12], [0, 1], [0, 1], [0, 1, 2, 3, 4, 5, 6, 7, 8, 10, 11, 12, 13, 14, 15], [0, 1, 2, 3, 4, 5, 6, 7, 8, 10, 11, 12, 13, 14, 15, 16], [0, 1, 2, 3, 4, 5, 6, 7, 8, 9, 10, 11, 12, 13, 14, 15, 16, 17], [0, 1, 2, 3, 4, 5, 6, 7, 8, 9, 10, 11, 12, 13, 14, 15, 16, 17, 18], [0, 1, 2, 3, 4, 5, 6, 7, 8, 9, 10, 11, 12, 13, 14, 15, 16, 17, 18, 19], [0, 1, 2, 3, 4, 5, 6, 7, 8, 9, 10, 11, 12, 13, 14, 15, 16, 17, 18, 19, 20], [0, 1, 2, 3, 4, 5, 6, 7, 8, 9, 10, 11, 12, 13, 14, 15, 16, 17, 18, 19, 20, 21], [0, 1, 2, 3, 4, 5, 6, 7, 8, 9, 10, 11, 12, 13, 14, 15, 16, 17, 18, 19, 20, 21, 22], [0, 1, 2, 3, 4, 5, 6, 7, 8, 9, 10, 11, 12, 13, 14, 15, 16, 17, 18, 19, 20], [0, 1, 2, 3, 4, 5, 6, 7, 8, 9, 10, 11, 12, 13, 14, 15, 16, 17, 18, 19, 20, 24], [0, 1, 2, 3, 4, 5, 6, 7, 8, 9, 10, 11, 12, 13, 14, 15, 16, 17, 18, 19, 20, 21, 22, 23, 24, 25], [0, 1, 2, 3, 4, 5, 6, 7, 8, 9, 10, 11, 12, 13, 14, 15, 16, 17, 18, 19, 20, 21, 22, 23, 24, 25, 26], [0, 1, 2, 3, 4, 5, 6, 7, 8, 9, 10, 11, 12, 13, 14, 15, 16, 17, 18, 19, 20, 21, 22, 23, 24, 25, 26, 27], [0, 1, 2, 3, 4, 5, 6, 7, 8, 9, 10, 11, 12, 13, 14, 15, 16, 17, 18, 19, 20, 21, 22, 23, 24, 25, 26, 27, 28], [0, 1, 2, 3, 4, 5, 6, 7, 8, 9, 10, 11, 12, 13, 14, 15, 16, 17, 18, 19, 20, 21, 22, 23, 24, 25, 26, 27, 28, 29], [0, 1, 2, 3, 4, 5, 6, 7, 8, 9, 10, 11, 12, 13, 14, 15, 16, 17, 18, 19, 20, 21, 22, 23, 24, 25, 26, 27, 28, 29, 30], [0, 1, 2, 3, 4, 5, 6, 7, 8, 9, 10, 11, 12, 13, 14, 15, 16, 17, 18, 19, 20, 21, 22, 23, 24, 25, 26, 27, 28, 29, 30, 31], [0, 1, 2, 3, 4, 5, 6, 7, 8, 9, 10, 11, 12, 13, 14, 15, 16, 17, 18, 19, 20, 21, 22, 23, 24, 25, 26, 27, 28, 29], [0, 1, 2, 3, 4, 5, 6, 7, 8, 9, 10, 11, 12, 13, 14, 15, 16, 17, 18, 19, 20, 21, 22, 23, 24, 25, 26, 27, 28, 29, 33], [0, 1, 2, 3, 4, 5, 6, 7, 8, 9, 10, 11, 12, 13, 14, 15, 16, 17, 18, 19, 20, 21, 22, 23, 24, 25, 26, 27, 28, 29, 33, 34], [0, 1, 2, 3, 4, 5, 6, 7, 8, 9, 10, 11, 12, 13, 14, 15, 16, 17, 18, 19, 20, 21, 22, 23, 24, 25, 26, 27, 28, 29, 33, 34, 35], [0, 1, 2, 3, 4, 5, 6, 7, 8, 9, 10, 11, 12, 13, 14, 15, 16, 17, 18, 19, 20, 21, 22, 23, 24, 25, 26, 27, 28, 29, 30, 31, 32, 33, 34, 35, 36], [0, 1, 2, 3, 4, 5, 6, 7, 8, 9, 10, 11, 12, 13, 14, 15, 16, 17, 18, 19, 20, 21, 22, 23, 24, 25, 26, 27, 28, 29, 30, 31, 32, 33, 34, 35, 36, 37]])
  | _ => ([], 0, [])
set_option maxRecDepth 100000 in
theorem IpvPseudo_eq (f t : List UInt8) (p q : Int) (b : List UInt8) (m n : Int) (K : AVal → Hp → Prop) : fnP Try.prog Tlw ann_outriderlaw03_IpvPseudo Try.f9 [.agg [.str f, .str t, .int .i64 p, .int .i64 q, .str b], .int .i64 m, .int .i64 n] [] K = (
  optP (pseudo f t m n)
    (fun x =>
     optP (pseudo f t m n)
      (fun x_1 =>
       brP
        (decide
         (List.take (List.length x) (List.drop (0 : Nat) x) = List.take (List.length x_1) (List.drop (0 : Nat) x_1)))
        (brP (decide ((↑(List.length f) : Int) = (4 : Int)))
         (brP (decide ((↑(List.length f) : Int) = (4 : Int)))
          (K
           (AVal.bool
            (decide (decide ((↑(List.length t) : Int) = (16 : Int)) = decide ((↑(List.length t) : Int) = (16 : Int)))))
           [])
          (brP (decide (true = decide ((↑(List.length f) : Int) = (16 : Int))))
           (K
            (AVal.bool
             (decide (decide ((↑(List.length t) : Int) = (16 : Int)) = decide ((↑(List.length t) : Int) = (16 : Int)))))
            [])
           (K (AVal.bool false) [])))
         (brP (decide ((↑(List.length f) : Int) = (4 : Int)))
          (brP (decide (decide ((↑(List.length f) : Int) = (16 : Int)) = true))
           (K
            (AVal.bool
             (decide (decide ((↑(List.length t) : Int) = (16 : Int)) = decide ((↑(List.length t) : Int) = (16 : Int)))))
            [])
           (K (AVal.bool false) []))
          (brP (decide (decide ((↑(List.length f) : Int) = (16 : Int)) = decide ((↑(List.length f) : Int) = (16 : Int))))
           (K
            (AVal.bool
             (decide (decide ((↑(List.length t) : Int) = (16 : Int)) = decide ((↑(List.length t) : Int) = (16 : Int)))))
            [])
           (K (AVal.bool false) []))))
        (K (AVal.bool false) []))
      (brP (decide (List.take (List.length x) (List.drop (0 : Nat) x) = []))
       (brP (decide ((↑(List.length f) : Int) = (4 : Int)))
        (brP (decide ((↑(List.length f) : Int) = (4 : Int)))
         (K
          (AVal.bool
           (decide (decide ((↑(List.length t) : Int) = (16 : Int)) = decide ((↑(List.length t) : Int) = (16 : Int)))))
          [])
         (brP (decide (true = decide ((↑(List.length f) : Int) = (16 : Int))))
          (K
           (AVal.bool
            (decide (decide ((↑(List.length t) : Int) = (16 : Int)) = decide ((↑(List.length t) : Int) = (16 : Int)))))
           [])
          (K (AVal.bool false) [])))
        (brP (decide ((↑(List.length f) : Int) = (4 : Int)))
         (brP (decide (decide ((↑(List.length f) : Int) = (16 : Int)) = true))
          (K
           (AVal.bool
            (decide (decide ((↑(List.length t) : Int) = (16 : Int)) = decide ((↑(List.length t) : Int) = (16 : Int)))))
           [])
          (K (AVal.bool false) []))
         (brP (decide (decide ((↑(List.length f) : Int) = (16 : Int)) = decide ((↑(List.length f) : Int) = (16 : Int))))
          (K
           (AVal.bool
            (decide (decide ((↑(List.length t) : Int) = (16 : Int)) = decide ((↑(List.length t) : Int) = (16 : Int)))))
           [])
          (K (AVal.bool false) []))))
       (K (AVal.bool false) [])))
    (optP (pseudo f t m n)
     (fun x =>
      brP (decide ([] = List.take (List.length x) (List.drop (0 : Nat) x)))
       (brP (decide ((↑(List.length f) : Int) = (4 : Int)))
        (brP (decide ((↑(List.length f) : Int) = (4 : Int)))
         (K
          (AVal.bool
           (decide (decide ((↑(List.length t) : Int) = (16 : Int)) = decide ((↑(List.length t) : Int) = (16 : Int)))))
          [])
         (brP (decide (true = decide ((↑(List.length f) : Int) = (16 : Int))))
          (K
           (AVal.bool
            (decide (decide ((↑(List.length t) : Int) = (16 : Int)) = decide ((↑(List.length t) : Int) = (16 : Int)))))
           [])
          (K (AVal.bool false) [])))
        (brP (decide ((↑(List.length f) : Int) = (4 : Int)))
         (brP (decide (decide ((↑(List.length f) : Int) = (16 : Int)) = true))
          (K
           (AVal.bool
            (decide (decide ((↑(List.length t) : Int) = (16 : Int)) = decide ((↑(List.length t) : Int) = (16 : Int)))))
           [])
          (K (AVal.bool false) []))
         (brP (decide (decide ((↑(List.length f) : Int) = (16 : Int)) = decide ((↑(List.length f) : Int) = (16 : Int))))
          (K
           (AVal.bool
            (decide (decide ((↑(List.length t) : Int) = (16 : Int)) = decide ((↑(List.length t) : Int) = (16 : Int)))))
           [])
          (K (AVal.bool false) []))))
       (K (AVal.bool false) []))
     (brP (decide ((↑(List.length f) : Int) = (4 : Int)))
      (brP (decide ((↑(List.length f) : Int) = (4 : Int)))
       (K
        (AVal.bool
         (decide (decide ((↑(List.length t) : Int) = (16 : Int)) = decide ((↑(List.length t) : Int) = (16 : Int)))))
        [])
       (brP (decide (true = decide ((↑(List.length f) : Int) = (16 : Int))))
        (K
         (AVal.bool
          (decide (decide ((↑(List.length t) : Int) = (16 : Int)) = decide ((↑(List.length t) : Int) = (16 : Int)))))
         [])
        (K (AVal.bool false) [])))
      (brP (decide ((↑(List.length f) : Int) = (4 : Int)))
       (brP (decide (decide ((↑(List.length f) : Int) = (16 : Int)) = true))
        (K
         (AVal.bool
          (decide (decide ((↑(List.length t) : Int) = (16 : Int)) = decide ((↑(List.length t) : Int) = (16 : Int)))))
         [])
        (K (AVal.bool false) []))
       (brP (decide (decide ((↑(List.length f) : Int) = (16 : Int)) = decide ((↑(List.length f) : Int) = (16 : Int))))
        (K
         (AVal.bool
          (decide (decide ((↑(List.length t) : Int) = (16 : Int)) = decide ((↑(List.length t) : Int) = (16 : Int)))))
         [])
        (K (AVal.bool false) [])))))) := by kernel_rfl
theorem ipvPseudo.core (f t : List UInt8) (p q : Int) (b : List UInt8) (m n : Int) (hf : f.length ≤ 140737488351232) (ht : t.length ≤ 140737488351232) (hp : -9223372036854775808 ≤ p ∧ p ≤ 9223372036854775807) (hq : -9223372036854775808 ≤ q ∧ q ≤ 9223372036854775807) (hb : b.length ≤ 140737488351232) (hm : -9223372036854775808 ≤ m ∧ m ≤ 9223372036854775807) (hn : -9223372036854775808 ≤ n ∧ n ≤ 9223372036854775807) :
    fnP Try.prog Tlw ann_outriderlaw03_IpvPseudo Try.f9 [.agg [.str f, .str t, .int .i64 p, .int .i64 q, .str b], .int .i64 m, .int .i64 n] [] (fun v _ => v = .bool true) := by
  rw [IpvPseudo_eq]
  cases pseudo f t m n with
  | none => 
    simp only [optP]
    repeat' first | refine brP_d (fun h => ?_) (fun h => ?_) | refine brP_i (fun h => ?_) (fun h => ?_)
    all_goals first | rfl | (exfalso; omega) | simp_all
  | some l =>
    simp only [optP]
    repeat' first | refine brP_d (fun h => ?_) (fun h => ?_) | refine brP_i (fun h => ?_) (fun h => ?_)
    all_goals first | rfl | (exfalso; omega) | simp_all
end Go.Proofs.Ytlmliffcockfgaa.Ae
namespace Go.Proofs.Ytlmliffcockfgaa
open Go Go.RowKit Ae
set_option maxRecDepth 100000 in
theorem ipvPseudo.walk {H : Type} {enc : TypeId × Value → H} (W : World) (args : Array Value) (hn : args.size = 3)
    (h : ∀ (j : Nat) t v, Try.f9.params[j]? = some t → args[j]? = some v → RdV enc false Try.prog W t v) :
    Calls Try.prog 9 args W fun e w' => e = .returned (.bool true) ∧ Below W.heap.size W w' := by
  obtain ⟨v0, v1, v2, rfl⟩ := args3 hn
  obtain ⟨vs0, hs0, hv0⟩ := arg_agg (b := false) (d := 6) (ks := [.str, .str, .int .i64, .int .i64, .str]) (.inl ⟨_, Try.underlying24⟩) (by kernel_rfl) (h 0 24 v0 rfl rfl)
  obtain ⟨_, _, rfl, ⟨f, rfl, h_f⟩, _, _, rfl, ⟨t, rfl, h_t⟩, _, _, rfl, ⟨p, rfl, h_p⟩, _, _, rfl, ⟨q, rfl, h_q⟩, _, _, rfl, ⟨b, rfl, h_b⟩, rfl⟩ := hs0
  obtain ⟨m, rfl, h_m, hv1⟩ := arg_int (b := false) (m := Mp.nil) (G := []) Try.underlying3 (h 1 3 v1 rfl rfl)
  obtain ⟨n, rfl, h_n, hv2⟩ := arg_int (b := false) (m := Mp.nil) (G := []) Try.underlying3 (h 2 3 v2 rfl rfl)
  obtain ⟨r, H1, hr, hG⟩ := fn_sound Tlw_sound mixed Try.func9 (by decide +kernel) (ipvPseudo.core f t p q b m n (len_lim h_f) (len_lim h_t) (i64_bd h_p) (i64_bd h_q) (len_lim h_b) (i64_bd h_m) (i64_bd h_n))
  subst hr
  exact law_walk hG (vl_cons hv0 (vl_cons hv1 (vl_cons hv2 vl_nil)))

namespace ipvPseudo
theorem spec {H : Type} (ds : List (DataW H)) (h : ds.length = Try.f9.params.size) : Rows.ipvPseudoSpec.fn H ds = { results := [.lit (.bool true)], args := ds } := by
  have h' : ds.length = 3 := h
  match ds, h' with
  | [_, _, _], _ => rfl

set_option maxRecDepth 100000 in
theorem lifted (os : Os) (started : os.Started) (H : Type) (enc : TypeId × Value → H) :
    ReturnsInHanded {} Try.checked os 9 .any (Rows.ipvPseudoSpec.pre6 enc Try.prog Try.f9 Rows.ipvPseudoRow.domain false) (Rows.ipvPseudoSpec.post enc Try.prog Try.f9 false true false false) :=
  lifted_said (C := Try.checked) (tb := 4) own started (by kernel_rfl) Try.func9
    (ChangeSpec.witness6 (enc := enc) (C := Try.checked) false ⟨#[], #[.agg #[.string .empty, .string .empty, .int .i64 0, .int .i64 0, .string .empty], .int .i64 0, .int .i64 0], []⟩ 8 (by kernel_rfl) (by kernel_rfl) (by kernel_rfl) (by kernel_rfl))
    rfl spec rfl Try.underlying4 laidOut (by kernel_rfl) walk

theorem over : Rows.ipvPseudoRow.holds Try.pinned (OpenSpec.ofChange Rows.ipvPseudoSpec) :=
  OpenClaim.holds_of_wide 9 Try.f9 rfl rfl rfl rfl rfl rfl rfl ⟨rfl, rfl, rfl, rfl, rfl⟩ rfl rfl rfl rfl rfl (by kernel_rfl) Try.func9 (by kernel_rfl)
    (of_decide_eq_true (by kernel_rfl)) (by unfold Func.isWrapper; first | (rw [if_pos (by decide +kernel)]; kernel_rfl) | (rw [if_neg (by decide +kernel)]; exact ⟨rfl, rfl⟩))
    (fun os started H enc _ => lifted os started H enc)

theorem proved : Rows.IpvPseudoSaid := over
#print axioms proved
end ipvPseudo

end Go.Proofs.Ytlmliffcockfgaa

