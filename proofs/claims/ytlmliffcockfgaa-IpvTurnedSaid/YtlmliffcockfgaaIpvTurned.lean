/- IpvTurned: a packet of version 4 of whose first twenty bytes one, but the first one, is another one is refused. No conditions. -/
import Derived.Test.YtlmliffcockfgaaAl
import Derived.Test.YtlmliffcockfgaaMip2
set_option linter.unusedSimpArgs false
set_option linter.unusedVariables false
namespace Go.Proofs.Ytlmliffcockfgaa.Ae
open Go Go.RowKit
def ann_outriderlaw03_IpvTurned : Nat → List Nat × Nat × List (List Nat)
  | _ => ([], 0, [])
set_option maxRecDepth 100000 in
theorem IpvTurned_eq (f t : List UInt8) (p q : Int) (b : List UInt8) (n m : Int) (K : AVal → Hp → Prop) : fnP Try.prog Tlw ann_outriderlaw03_IpvTurned Try.f8 [.agg [.str f, .str t, .int .i64 p, .int .i64 q, .str b], .int .i64 n, .int .i64 m] [] K = (
  optP (ipEncode { src := f, dst := t, proto := p, ttl := q, body := b })
    (fun x =>
     brP (decide ((↑(List.length f) : Int) = (16 : Int))) (K (AVal.bool true) [])
      (brP (decide (n < (1 : Int))) (K (AVal.bool true) [])
       (brP (decide ((19 : Int) < n)) (K (AVal.bool true) [])
        (brP (decide (m < (1 : Int))) (K (AVal.bool true) [])
         (brP (decide ((255 : Int) < m)) (K (AVal.bool true) [])
          (brP (decide ((↑(List.length x) : Int) < (20 : Int))) (K (AVal.bool false) [])
           (((0 : Int) ≤ n ∧ n < (↑(List.length x) : Int)) ∧
            (0 : Nat) + Int.toNat n * (1 : Nat) < List.length x ∧
             ((0 : Int) ≤ n ∧ n < (↑(List.length x) : Int)) ∧
              (0 : Nat) + Int.toNat n * (1 : Nat) < List.length x ∧
               brP
                (!decide
                  ((ipDecode
                     (List.take (List.length x)
                      (List.drop (0 : Nat)
                       (List.set x ((0 : Nat) + Int.toNat n * (1 : Nat))
                        (List.getD x ((0 : Nat) + Int.toNat n * (1 : Nat)) (0 : UInt8) ^^^ b8 m))))).snd =
                   (0 : Int)))
                (K
                 (AVal.bool
                  (decide
                    ((ipDecode
                        (List.take (List.length x)
                         (List.drop (0 : Nat)
                          (List.set x ((0 : Nat) + Int.toNat n * (1 : Nat))
                           (List.getD x ((0 : Nat) + Int.toNat n * (1 : Nat)) (0 : UInt8) ^^^ b8 m))))).fst.src =
                     []) &&
                   (decide
                     ((ipDecode
                         (List.take (List.length x)
                          (List.drop (0 : Nat)
                           (List.set x ((0 : Nat) + Int.toNat n * (1 : Nat))
                            (List.getD x ((0 : Nat) + Int.toNat n * (1 : Nat)) (0 : UInt8) ^^^ b8 m))))).fst.dst =
                      []) &&
                    (decide
                      ((ipDecode
                          (List.take (List.length x)
                           (List.drop (0 : Nat)
                            (List.set x ((0 : Nat) + Int.toNat n * (1 : Nat))
                             (List.getD x ((0 : Nat) + Int.toNat n * (1 : Nat)) (0 : UInt8) ^^^ b8 m))))).fst.proto =
                       (0 : Int)) &&
                     (decide
                       ((ipDecode
                           (List.take (List.length x)
                            (List.drop (0 : Nat)
                             (List.set x ((0 : Nat) + Int.toNat n * (1 : Nat))
                              (List.getD x ((0 : Nat) + Int.toNat n * (1 : Nat)) (0 : UInt8) ^^^ b8 m))))).fst.ttl =
                        (0 : Int)) &&
                      decide
                       ((ipDecode
                           (List.take (List.length x)
                            (List.drop (0 : Nat)
                             (List.set x ((0 : Nat) + Int.toNat n * (1 : Nat))
                              (List.getD x ((0 : Nat) + Int.toNat n * (1 : Nat)) (0 : UInt8) ^^^ b8 m))))).fst.body =
                        []))))))
                 [])
                (K (AVal.bool false) []))))))))
    (K (AVal.bool true) [])) := by kernel_rfl
theorem ipvTurned.core (f t : List UInt8) (p q : Int) (b : List UInt8) (n m : Int) (hf : f.length ≤ 140737488351232) (ht : t.length ≤ 140737488351232) (hp : -9223372036854775808 ≤ p ∧ p ≤ 9223372036854775807) (hq : -9223372036854775808 ≤ q ∧ q ≤ 9223372036854775807) (hb : b.length ≤ 140737488351232) (hn : -9223372036854775808 ≤ n ∧ n ≤ 9223372036854775807) (hm : -9223372036854775808 ≤ m ∧ m ≤ 9223372036854775807) :
    fnP Try.prog Tlw ann_outriderlaw03_IpvTurned Try.f8 [.agg [.str f, .str t, .int .i64 p, .int .i64 q, .str b], .int .i64 n, .int .i64 m] [] (fun v _ => v = .bool true) := by
  rw [IpvTurned_eq]
  refine optP_i (fun x hx => ?_) (fun _ => rfl)
  have hk : ipOk ⟨f, t, p, q, b⟩ = true ∧ x = ipBytes ⟨f, t, p, q, b⟩ := by
    unfold ipEncode at hx
    split at hx
    · rename_i h; exact ⟨h, (Option.some.inj hx).symm⟩
    · cases hx
  obtain ⟨h1, rfl⟩ := hk
  refine brP_d (fun _ => rfl) (fun h2 => ?_)
  refine brP_d (fun _ => rfl) (fun h3 => ?_)
  refine brP_d (fun _ => rfl) (fun h4 => ?_)
  refine brP_d (fun _ => rfl) (fun h5 => ?_)
  refine brP_d (fun _ => rfl) (fun h6 => ?_)
  obtain ⟨g1, g2⟩ := enc_sum h1 (by simp only; omega)
  refine brP_d (fun h => absurd h (by omega)) (fun _ => ?_)
  refine ⟨by omega, by omega, by omega, by omega, ?_⟩
  rw [Nat.mul_one, Nat.zero_add, List.drop_zero, List.take_of_length_le (by simp)]
  obtain ⟨k1, k2⟩ := dec_turned h1 (by simp only; omega) n.toNat (by omega) (b8 m) (b8_ne (by omega))
  refine brP_nd (fun _ => ?_) (fun h => absurd h k2)
  rw [k1]
  simp [noIp]
end Go.Proofs.Ytlmliffcockfgaa.Ae
namespace Go.Proofs.Ytlmliffcockfgaa
open Go Go.RowKit Ae
set_option maxRecDepth 100000 in
theorem ipvTurned.walk {H : Type} {enc : TypeId × Value → H} (W : World) (args : Array Value) (hn : args.size = 3)
    (h : ∀ (j : Nat) t v, Try.f8.params[j]? = some t → args[j]? = some v → RdV enc false Try.prog W t v) :
    Calls Try.prog 8 args W fun e w' => e = .returned (.bool true) ∧ Below W.heap.size W w' := by
  obtain ⟨v0, v1, v2, rfl⟩ := args3 hn
  obtain ⟨vs0, hs0, hv0⟩ := arg_agg (b := false) (d := 6) (ks := [.str, .str, .int .i64, .int .i64, .str]) (.inl ⟨_, Try.underlying24⟩) (by kernel_rfl) (h 0 24 v0 rfl rfl)
  obtain ⟨_, _, rfl, ⟨f, rfl, h_f⟩, _, _, rfl, ⟨t, rfl, h_t⟩, _, _, rfl, ⟨p, rfl, h_p⟩, _, _, rfl, ⟨q, rfl, h_q⟩, _, _, rfl, ⟨b, rfl, h_b⟩, rfl⟩ := hs0
  obtain ⟨n, rfl, h_n, hv1⟩ := arg_int (b := false) (m := Mp.nil) (G := []) Try.underlying3 (h 1 3 v1 rfl rfl)
  obtain ⟨m, rfl, h_m, hv2⟩ := arg_int (b := false) (m := Mp.nil) (G := []) Try.underlying3 (h 2 3 v2 rfl rfl)
  obtain ⟨r, H1, hr, hG⟩ := fn_sound Tlw_sound mixed Try.func8 (by decide +kernel) (ipvTurned.core f t p q b n m (len_lim h_f) (len_lim h_t) (i64_bd h_p) (i64_bd h_q) (len_lim h_b) (i64_bd h_n) (i64_bd h_m))
  subst hr
  exact law_walk hG (vl_cons hv0 (vl_cons hv1 (vl_cons hv2 vl_nil)))

namespace ipvTurned
theorem spec {H : Type} (ds : List (DataW H)) (h : ds.length = Try.f8.params.size) : Rows.ipvTurnedSpec.fn H ds = { results := [.lit (.bool true)], args := ds } := by
  have h' : ds.length = 3 := h
  match ds, h' with
  | [_, _, _], _ => rfl

set_option maxRecDepth 100000 in
theorem lifted (os : Os) (started : os.Started) (H : Type) (enc : TypeId × Value → H) :
    ReturnsInHanded {} Try.checked os 8 .any (Rows.ipvTurnedSpec.pre6 enc Try.prog Try.f8 Rows.ipvTurnedRow.domain false) (Rows.ipvTurnedSpec.post enc Try.prog Try.f8 false true false false) :=
  lifted_said (C := Try.checked) (tb := 4) own started (by kernel_rfl) Try.func8
    (ChangeSpec.witness6 (enc := enc) (C := Try.checked) false ⟨#[], #[.agg #[.string .empty, .string .empty, .int .i64 0, .int .i64 0, .string .empty], .int .i64 0, .int .i64 0], []⟩ 8 (by kernel_rfl) (by kernel_rfl) (by kernel_rfl) (by kernel_rfl))
    rfl spec rfl Try.underlying4 laidOut (by kernel_rfl) walk

theorem over : Rows.ipvTurnedRow.holds Try.pinned (OpenSpec.ofChange Rows.ipvTurnedSpec) :=
  OpenClaim.holds_of_wide 8 Try.f8 rfl rfl rfl rfl rfl rfl rfl ⟨rfl, rfl, rfl, rfl, rfl⟩ rfl rfl rfl rfl rfl (by kernel_rfl) Try.func8 (by kernel_rfl)
    (of_decide_eq_true (by kernel_rfl)) (by unfold Func.isWrapper; first | (rw [if_pos (by decide +kernel)]; kernel_rfl) | (rw [if_neg (by decide +kernel)]; exact ⟨rfl, rfl⟩))
    (fun os started H enc _ => lifted os started H enc)

theorem proved : Rows.IpvTurnedSaid := over
#print axioms proved
end ipvTurned

end Go.Proofs.Ytlmliffcockfgaa

