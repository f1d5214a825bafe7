/- IpvCut: a packet that is cut anywhere is none. No conditions. -/
import Derived.Test.YtlmliffcockfgaaAl
import Derived.Test.YtlmliffcockfgaaMip2
set_option linter.unusedSimpArgs false
set_option linter.unusedVariables false
namespace Go.Proofs.Ytlmliffcockfgaa.Ae
open Go Go.RowKit
def ann_outriderlaw03_IpvCut : Nat → List Nat × Nat × List (List Nat)
  | _ => ([], 0, [])
set_option maxRecDepth 100000 in
theorem IpvCut_eq (f t : List UInt8) (p q : Int) (b : List UInt8) (n : Int) (K : AVal → Hp → Prop) : fnP Try.prog Tlw ann_outriderlaw03_IpvCut Try.f7 [.agg [.str f, .str t, .int .i64 p, .int .i64 q, .str b], .int .i64 n] [] K = (
  optP (ipEncode { src := f, dst := t, proto := p, ttl := q, body := b })
    (fun x =>
     brP (decide (n < (0 : Int))) (K (AVal.bool true) [])
      (brP (decide ((↑(List.length x) : Int) ≤ n)) (K (AVal.bool true) [])
       (((0 : Int) ≤ n ∧ n ≤ (↑(List.length x) : Int)) ∧
        brP
         (decide ((ipDecode (List.take (Int.toNat n - (0 : Nat)) (List.drop (0 : Nat) x))).fst.src = []) &&
          (decide ((ipDecode (List.take (Int.toNat n - (0 : Nat)) (List.drop (0 : Nat) x))).fst.dst = []) &&
           (decide ((ipDecode (List.take (Int.toNat n - (0 : Nat)) (List.drop (0 : Nat) x))).fst.proto = (0 : Int)) &&
            (decide ((ipDecode (List.take (Int.toNat n - (0 : Nat)) (List.drop (0 : Nat) x))).fst.ttl = (0 : Int)) &&
             decide ((ipDecode (List.take (Int.toNat n - (0 : Nat)) (List.drop (0 : Nat) x))).fst.body = [])))))
         (brP (decide ((ipDecode (List.take (Int.toNat n - (0 : Nat)) (List.drop (0 : Nat) x))).snd = (30 : Int)))
          (K (AVal.bool true) [])
          (K
           (AVal.bool
            (decide ((ipDecode (List.take (Int.toNat n - (0 : Nat)) (List.drop (0 : Nat) x))).snd = (33 : Int))))
           []))
         (K (AVal.bool false) []))))
    (K (AVal.bool true) [])) := by kernel_rfl
theorem ipvCut.core (f t : List UInt8) (p q : Int) (b : List UInt8) (n : Int) (hf : f.length ≤ 140737488351232) (ht : t.length ≤ 140737488351232) (hp : -9223372036854775808 ≤ p ∧ p ≤ 9223372036854775807) (hq : -9223372036854775808 ≤ q ∧ q ≤ 9223372036854775807) (hb : b.length ≤ 140737488351232) (hn : -9223372036854775808 ≤ n ∧ n ≤ 9223372036854775807) :
    fnP Try.prog Tlw ann_outriderlaw03_IpvCut Try.f7 [.agg [.str f, .str t, .int .i64 p, .int .i64 q, .str b], .int .i64 n] [] (fun v _ => v = .bool true) := by
  rw [IpvCut_eq]
  refine optP_i (fun x hx => ?_) (fun _ => rfl)
  have hk : ipOk ⟨f, t, p, q, b⟩ = true ∧ x = ipBytes ⟨f, t, p, q, b⟩ := by
    unfold ipEncode at hx
    split at hx
    · rename_i h; exact ⟨h, (Option.some.inj hx).symm⟩
    · cases hx
  obtain ⟨h1, rfl⟩ := hk
  refine brP_d (fun _ => rfl) (fun h2 => ?_)
  refine brP_d (fun _ => rfl) (fun h3 => ?_)
  refine ⟨by omega, ?_⟩
  obtain ⟨e, he, h4⟩ := dec_cut h1 n.toNat (by omega)
  rw [List.drop_zero, Nat.sub_zero, he]
  rcases h4 with rfl | rfl <;> simp [brP, noIp]
end Go.Proofs.Ytlmliffcockfgaa.Ae
namespace Go.Proofs.Ytlmliffcockfgaa
open Go Go.RowKit Ae
set_option maxRecDepth 100000 in
theorem ipvCut.walk {H : Type} {enc : TypeId × Value → H} (W : World) (args : Array Value) (hn : args.size = 2)
    (h : ∀ (j : Nat) t v, Try.f7.params[j]? = some t → args[j]? = some v → RdV enc false Try.prog W t v) :
    Calls Try.prog 7 args W fun e w' => e = .returned (.bool true) ∧ Below W.heap.size W w' := by
  obtain ⟨v0, v1, rfl⟩ := args2 hn
  obtain ⟨vs0, hs0, hv0⟩ := arg_agg (b := false) (d := 6) (ks := [.str, .str, .int .i64, .int .i64, .str]) (.inl ⟨_, Try.underlying24⟩) (by kernel_rfl) (h 0 24 v0 rfl rfl)
  obtain ⟨_, _, rfl, ⟨f, rfl, h_f⟩, _, _, rfl, ⟨t, rfl, h_t⟩, _, _, rfl, ⟨p, rfl, h_p⟩, _, _, rfl, ⟨q, rfl, h_q⟩, _, _, rfl, ⟨b, rfl, h_b⟩, rfl⟩ := hs0
  obtain ⟨n, rfl, h_n, hv1⟩ := arg_int (b := false) (m := Mp.nil) (G := []) Try.underlying3 (h 1 3 v1 rfl rfl)
  obtain ⟨r, H1, hr, hG⟩ := fn_sound Tlw_sound mixed Try.func7 (by decide +kernel) (ipvCut.core f t p q b n (len_lim h_f) (len_lim h_t) (i64_bd h_p) (i64_bd h_q) (len_lim h_b) (i64_bd h_n))
  subst hr
  exact law_walk hG (vl_cons hv0 (vl_cons hv1 vl_nil))

namespace ipvCut
theorem spec {H : Type} (ds : List (DataW H)) (h : ds.length = Try.f7.params.size) : Rows.ipvCutSpec.fn H ds = { results := [.lit (.bool true)], args := ds } := by
  have h' : ds.length = 2 := h
  match ds, h' with
  | [_, _], _ => rfl

set_option maxRecDepth 100000 in
theorem lifted (os : Os) (started : os.Started) (H : Type) (enc : TypeId × Value → H) :
    ReturnsInHanded {} Try.checked os 7 .any (Rows.ipvCutSpec.pre6 enc Try.prog Try.f7 Rows.ipvCutRow.domain false) (Rows.ipvCutSpec.post enc Try.prog Try.f7 false true false false) :=
  lifted_said (C := Try.checked) (tb := 4) own started (by kernel_rfl) Try.func7
    (ChangeSpec.witness6 (enc := enc) (C := Try.checked) false ⟨#[], #[.agg #[.string .empty, .string .empty, .int .i64 0, .int .i64 0, .string .empty], .int .i64 0], []⟩ 8 (by kernel_rfl) (by kernel_rfl) (by kernel_rfl) (by kernel_rfl))
    rfl spec rfl Try.underlying4 laidOut (by kernel_rfl) walk

theorem over : Rows.ipvCutRow.holds Try.pinned (OpenSpec.ofChange Rows.ipvCutSpec) :=
  OpenClaim.holds_of_wide 7 Try.f7 rfl rfl rfl rfl rfl rfl rfl ⟨rfl, rfl, rfl, rfl, rfl⟩ rfl rfl rfl rfl rfl (by kernel_rfl) Try.func7 (by kernel_rfl)
    (of_decide_eq_true (by kernel_rfl)) (by unfold Func.isWrapper; first | (rw [if_pos (by decide +kernel)]; kernel_rfl) | (rw [if_neg (by decide +kernel)]; exact ⟨rfl, rfl⟩))
    (fun os started H enc _ => lifted os started H enc)

theorem proved : Rows.IpvCutSaid := over
#print axioms proved
end ipvCut

end Go.Proofs.Ytlmliffcockfgaa

