/- IpvSums: of what was written, of version 4, the first twenty bytes are good; what was read was good, too. No conditions. -/
import Derived.Test.YtlmliffcockfgaaAl
import Derived.Test.YtlmliffcockfgaaMip2
set_option linter.unusedSimpArgs false
set_option linter.unusedVariables false
namespace Go.Proofs.Ytlmliffcockfgaa.Ae
open Go Go.RowKit
def ann_outriderlaw03_IpvSums : Nat → List Nat × Nat × List (List Nat)
  | _ => ([], 0, [])
set_option maxRecDepth 100000 in
theorem IpvSums_eq (f t : List UInt8) (p q : Int) (b : List UInt8) (l : List UInt8) (K : AVal → Hp → Prop) : fnP Try.prog Tlw ann_outriderlaw03_IpvSums Try.f6 [.agg [.str f, .str t, .int .i64 p, .int .i64 q, .str b], .roB l] [] K = (
  optP (ipEncode { src := f, dst := t, proto := p, ttl := q, body := b })
    (fun x =>
     brP (!decide ((↑(List.length f) : Int) = (16 : Int)))
      (brP (decide ((↑(List.length x) : Int) < (20 : Int))) (K (AVal.bool false) [])
       (((0 : Int) ≤ (20 : Int) ∧ (20 : Int) ≤ (↑(List.length x) : Int)) ∧
        ((1 : Nat) ≤ (1000 : Nat) ∧
          List.length (List.flatten [List.take (20 : Nat) (List.drop (0 : Nat) x)]) ≤ (562949953421312 : Nat)) ∧
         brP (!sumB (List.flatten [List.take (20 : Nat) (List.drop (0 : Nat) x)]) == (65535 : Int))
          (K (AVal.bool false) [])
          (brP (!decide ((ipDecode l).snd = (0 : Int))) (K (AVal.bool true) [])
           (brP (decide ((↑(List.length (ipDecode l).fst.src) : Int) = (16 : Int))) (K (AVal.bool true) [])
            (brP (decide ((20 : Int) ≤ (↑(List.length l) : Int)))
             (((0 : Int) ≤ (20 : Int) ∧ (20 : Int) ≤ (↑(List.length l) : Int)) ∧
              ((1 : Nat) ≤ (1000 : Nat) ∧ List.length (List.flatten [List.take (20 : Nat) l]) ≤ (562949953421312 : Nat)) ∧
               brP (sumB (List.flatten [List.take (20 : Nat) l]) == (65535 : Int))
                (K
                 (AVal.bool
                  (decide ((↑(List.length (ipDecode l).fst.src) : Int) = (↑(List.length (ipDecode l).fst.dst) : Int))))
                 [])
                (K (AVal.bool false) []))
             (K (AVal.bool false) []))))))
      (brP (!decide ((ipDecode l).snd = (0 : Int))) (K (AVal.bool true) [])
       (brP (decide ((↑(List.length (ipDecode l).fst.src) : Int) = (16 : Int))) (K (AVal.bool true) [])
        (brP (decide ((20 : Int) ≤ (↑(List.length l) : Int)))
         (((0 : Int) ≤ (20 : Int) ∧ (20 : Int) ≤ (↑(List.length l) : Int)) ∧
          ((1 : Nat) ≤ (1000 : Nat) ∧ List.length (List.flatten [List.take (20 : Nat) l]) ≤ (562949953421312 : Nat)) ∧
           brP (sumB (List.flatten [List.take (20 : Nat) l]) == (65535 : Int))
            (K
             (AVal.bool
              (decide ((↑(List.length (ipDecode l).fst.src) : Int) = (↑(List.length (ipDecode l).fst.dst) : Int))))
             [])
            (K (AVal.bool false) []))
         (K (AVal.bool false) [])))))
    (brP (!decide ((ipDecode l).snd = (0 : Int))) (K (AVal.bool true) [])
     (brP (decide ((↑(List.length (ipDecode l).fst.src) : Int) = (16 : Int))) (K (AVal.bool true) [])
      (brP (decide ((20 : Int) ≤ (↑(List.length l) : Int)))
       (((0 : Int) ≤ (20 : Int) ∧ (20 : Int) ≤ (↑(List.length l) : Int)) ∧
        ((1 : Nat) ≤ (1000 : Nat) ∧ List.length (List.flatten [List.take (20 : Nat) l]) ≤ (562949953421312 : Nat)) ∧
         brP (sumB (List.flatten [List.take (20 : Nat) l]) == (65535 : Int))
          (K
           (AVal.bool
            (decide ((↑(List.length (ipDecode l).fst.src) : Int) = (↑(List.length (ipDecode l).fst.dst) : Int))))
           [])
          (K (AVal.bool false) []))
       (K (AVal.bool false) []))))) := by kernel_rfl
theorem ipvSums.core (f t : List UInt8) (p q : Int) (b : List UInt8) (l : List UInt8) (hf : f.length ≤ 140737488351232) (ht : t.length ≤ 140737488351232) (hp : -9223372036854775808 ≤ p ∧ p ≤ 9223372036854775807) (hq : -9223372036854775808 ≤ q ∧ q ≤ 9223372036854775807) (hb : b.length ≤ 140737488351232) (hl : l.length ≤ 140737488351232) :
    fnP Try.prog Tlw ann_outriderlaw03_IpvSums Try.f6 [.agg [.str f, .str t, .int .i64 p, .int .i64 q, .str b], .roB l] [] (fun v _ => v = .bool true) := by
  rw [IpvSums_eq]
  have key : ∀ hd : (ipDecode l).2 = 0, ¬ ((ipDecode l).1.src.length : Int) = 16 → 20 ≤ l.length ∧ sumB (l.take 20) = 65535 ∧ (ipDecode l).1.src.length = (ipDecode l).1.dst.length := fun hd h => by
    rcases dec_sum hd with h' | h'
    · omega
    · exact h'
  have tail : ∀ K : AVal → Hp → Prop, (∀ b, b = true → K (.bool b) []) → 
      brP (!decide ((ipDecode l).2 = (0 : Int))) (K (.bool true) []) (brP (decide (((ipDecode l).1.src.length : Int) = 16)) (K (.bool true) []) (brP (decide ((20 : Int) ≤ (l.length : Int)))
        (((0 : Int) ≤ (20 : Int) ∧ (20 : Int) ≤ (l.length : Int)) ∧ ((1 : Nat) ≤ (1000 : Nat) ∧ List.length (List.flatten [List.take (20 : Nat) l]) ≤ (562949953421312 : Nat)) ∧
          brP (sumB (List.flatten [List.take (20 : Nat) l]) == (65535 : Int)) (K (.bool (decide (((ipDecode l).1.src.length : Int) = ((ipDecode l).1.dst.length : Int)))) []) (K (.bool false) []))
        (K (.bool false) []))) := fun K hK => by
    refine brP_nd (fun _ => hK _ rfl) (fun h1 => ?_)
    refine brP_d (fun _ => hK _ rfl) (fun h2 => ?_)
    obtain ⟨k1, k2, k3⟩ := key h1 h2
    refine brP_d (fun _ => ?_) (fun h => absurd h (by omega))
    refine ⟨by omega, by simp; omega, ?_⟩
    refine brP_i (fun _ => hK _ (by simp; omega)) (fun h => ?_)
    simp [k2] at h
  refine optP_i (fun x hx => ?_) (fun _ => tail (fun v _ => v = .bool true) fun b hb => by rw [hb])
  have hk : ipOk ⟨f, t, p, q, b⟩ = true ∧ x = ipBytes ⟨f, t, p, q, b⟩ := by
    unfold ipEncode at hx
    split at hx
    · rename_i h; exact ⟨h, (Option.some.inj hx).symm⟩
    · cases hx
  obtain ⟨h1, rfl⟩ := hk
  refine brP_nd (fun h2 => ?_) (fun _ => tail (fun v _ => v = .bool true) fun b hb => by rw [hb])
  obtain ⟨g1, g2⟩ := enc_sum h1 (by simp only; omega)
  refine brP_d (fun h => absurd h (by omega)) (fun _ => ?_)
  refine ⟨by omega, by simp; omega, ?_⟩
  refine brP_i (fun h => ?_) (fun _ => tail (fun v _ => v = .bool true) fun b hb => by rw [hb])
  simp [g2] at h
end Go.Proofs.Ytlmliffcockfgaa.Ae
namespace Go.Proofs.Ytlmliffcockfgaa
open Go Go.RowKit Ae
set_option maxRecDepth 100000 in
theorem ipvSums.walk {H : Type} {enc : TypeId × Value → H} (W : World) (args : Array Value) (hn : args.size = 2)
    (h : ∀ (j : Nat) t v, Try.f6.params[j]? = some t → args[j]? = some v → RdV enc false Try.prog W t v) :
    Calls Try.prog 6 args W fun e w' => e = .returned (.bool true) ∧ Below W.heap.size W w' := by
  obtain ⟨v0, v1, rfl⟩ := args2 hn
  obtain ⟨vs0, hs0, hv0⟩ := arg_agg (b := false) (d := 6) (ks := [.str, .str, .int .i64, .int .i64, .str]) (.inl ⟨_, Try.underlying24⟩) (by kernel_rfl) (h 0 24 v0 rfl rfl)
  obtain ⟨_, _, rfl, ⟨f, rfl, h_f⟩, _, _, rfl, ⟨t, rfl, h_t⟩, _, _, rfl, ⟨p, rfl, h_p⟩, _, _, rfl, ⟨q, rfl, h_q⟩, _, _, rfl, ⟨b, rfl, h_b⟩, rfl⟩ := hs0
  obtain ⟨l, h_l, hv1⟩ := arg_bytes (b := false) (m := Mp.nil) (G := []) Try.underlying25 Try.underlying5 (by kernel_rfl) (by kernel_rfl) (h 1 25 v1 rfl rfl)
  obtain ⟨r, H1, hr, hG⟩ := fn_sound Tlw_sound mixed Try.func6 (by decide +kernel) (ipvSums.core f t p q b l (len_lim h_f) (len_lim h_t) (i64_bd h_p) (i64_bd h_q) (len_lim h_b) (len_lim h_l))
  subst hr
  exact law_walk hG (vl_cons hv0 (vl_cons hv1 vl_nil))

namespace ipvSums
theorem spec {H : Type} (ds : List (DataW H)) (h : ds.length = Try.f6.params.size) : Rows.ipvSumsSpec.fn H ds = { results := [.lit (.bool true)], args := ds } := by
  have h' : ds.length = 2 := h
  match ds, h' with
  | [_, _], _ => rfl

set_option maxRecDepth 100000 in
theorem lifted (os : Os) (started : os.Started) (H : Type) (enc : TypeId × Value → H) :
    ReturnsInHanded {} Try.checked os 6 .any (Rows.ipvSumsSpec.pre6 enc Try.prog Try.f6 Rows.ipvSumsRow.domain false) (Rows.ipvSumsSpec.post enc Try.prog Try.f6 false true false false) :=
  lifted_said (C := Try.checked) (tb := 4) own started (by kernel_rfl) Try.func6
    (ChangeSpec.witness6 (enc := enc) (C := Try.checked) false ⟨#[], #[.agg #[.string .empty, .string .empty, .int .i64 0, .int .i64 0, .string .empty], .slice none 0 0], []⟩ 8 (by kernel_rfl) (by kernel_rfl) (by kernel_rfl) (by kernel_rfl))
    rfl spec rfl Try.underlying4 laidOut (by kernel_rfl) walk

theorem over : Rows.ipvSumsRow.holds Try.pinned (OpenSpec.ofChange Rows.ipvSumsSpec) :=
  OpenClaim.holds_of_wide 6 Try.f6 rfl rfl rfl rfl rfl rfl rfl ⟨rfl, rfl, rfl, rfl, rfl⟩ rfl rfl rfl rfl rfl (by kernel_rfl) Try.func6 (by kernel_rfl)
    (of_decide_eq_true (by kernel_rfl)) (by unfold Func.isWrapper; first | (rw [if_pos (by decide +kernel)]; kernel_rfl) | (rw [if_neg (by decide +kernel)]; exact ⟨rfl, rfl⟩))
    (fun os started H enc _ => lifted os started H enc)

theorem proved : Rows.IpvSumsSaid := over
#print axioms proved
end ipvSums

end Go.Proofs.Ytlmliffcockfgaa

