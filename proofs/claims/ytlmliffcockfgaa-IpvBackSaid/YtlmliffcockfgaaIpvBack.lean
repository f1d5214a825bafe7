/- IpvBack: what was written is read as it was, whatever stands behind it. No conditions. -/
import Derived.Test.YtlmliffcockfgaaAl
import Derived.Test.YtlmliffcockfgaaMip2
set_option linter.unusedSimpArgs false
set_option linter.unusedVariables false
namespace Go.Proofs.Ytlmliffcockfgaa.Ae
open Go Go.RowKit
def ann_outriderlaw03_IpvBack : Nat → List Nat × Nat × List (List Nat)
  | _ => ([], 0, [])
set_option maxRecDepth 100000 in
theorem IpvBack_eq (f t : List UInt8) (p q : Int) (b : List UInt8) (l : List UInt8) (K : AVal → Hp → Prop) : fnP Try.prog Tlw ann_outriderlaw03_IpvBack Try.f5 [.agg [.str f, .str t, .int .i64 p, .int .i64 q, .str b], .roB l] [] K = (
  optP (ipEncode { src := f, dst := t, proto := p, ttl := q, body := b })
    (fun x =>
     ((List.length x + List.length l) * (1 : Nat) ≤ (140737488355328 : Nat) ∧ List.length x = List.length x * (1 : Nat)) ∧
      brP (decide ((ipDecode (List.take (List.length x + List.length l) (List.drop (0 : Nat) (x ++ l)))).snd = (0 : Int)))
       (K
        (AVal.bool
         (decide ((ipDecode (List.take (List.length x + List.length l) (List.drop (0 : Nat) (x ++ l)))).fst.src = f) &&
          (decide ((ipDecode (List.take (List.length x + List.length l) (List.drop (0 : Nat) (x ++ l)))).fst.dst = t) &&
           (decide
             ((ipDecode (List.take (List.length x + List.length l) (List.drop (0 : Nat) (x ++ l)))).fst.proto = p) &&
            (decide ((ipDecode (List.take (List.length x + List.length l) (List.drop (0 : Nat) (x ++ l)))).fst.ttl = q) &&
             decide
              ((ipDecode (List.take (List.length x + List.length l) (List.drop (0 : Nat) (x ++ l)))).fst.body = b))))))
        [])
       (K (AVal.bool false) []))
    (K (AVal.bool true) [])) := by kernel_rfl
theorem ipvBack.core (f t : List UInt8) (p q : Int) (b : List UInt8) (l : List UInt8) (hf : f.length ≤ 140737488351232) (ht : t.length ≤ 140737488351232) (hp : -9223372036854775808 ≤ p ∧ p ≤ 9223372036854775807) (hq : -9223372036854775808 ≤ q ∧ q ≤ 9223372036854775807) (hb : b.length ≤ 140737488351232) (hl : l.length ≤ 140737488351232) :
    fnP Try.prog Tlw ann_outriderlaw03_IpvBack Try.f5 [.agg [.str f, .str t, .int .i64 p, .int .i64 q, .str b], .roB l] [] (fun v _ => v = .bool true) := by
  rw [IpvBack_eq]
  refine optP_i (fun x hx => ?_) (fun _ => rfl)
  have hk : ipOk ⟨f, t, p, q, b⟩ = true ∧ x = ipBytes ⟨f, t, p, q, b⟩ := by
    unfold ipEncode at hx
    split at hx
    · rename_i h; exact ⟨h, (Option.some.inj hx).symm⟩
    · cases hx
  obtain ⟨h1, rfl⟩ := hk
  have hle := enc_len h1
  refine ⟨⟨by omega, by omega⟩, ?_⟩
  rw [List.drop_zero, List.take_of_length_le (by simp), dec_enc h1]
  simp [brP]
end Go.Proofs.Ytlmliffcockfgaa.Ae
namespace Go.Proofs.Ytlmliffcockfgaa
open Go Go.RowKit Ae
set_option maxRecDepth 100000 in
theorem ipvBack.walk {H : Type} {enc : TypeId × Value → H} (W : World) (args : Array Value) (hn : args.size = 2)
    (h : ∀ (j : Nat) t v, Try.f5.params[j]? = some t → args[j]? = some v → RdV enc false Try.prog W t v) :
    Calls Try.prog 5 args W fun e w' => e = .returned (.bool true) ∧ Below W.heap.size W w' := by
  obtain ⟨v0, v1, rfl⟩ := args2 hn
  obtain ⟨vs0, hs0, hv0⟩ := arg_agg (b := false) (d := 6) (ks := [.str, .str, .int .i64, .int .i64, .str]) (.inl ⟨_, Try.underlying24⟩) (by kernel_rfl) (h 0 24 v0 rfl rfl)
  obtain ⟨_, _, rfl, ⟨f, rfl, h_f⟩, _, _, rfl, ⟨t, rfl, h_t⟩, _, _, rfl, ⟨p, rfl, h_p⟩, _, _, rfl, ⟨q, rfl, h_q⟩, _, _, rfl, ⟨b, rfl, h_b⟩, rfl⟩ := hs0
  obtain ⟨l, h_l, hv1⟩ := arg_bytes (b := false) (m := Mp.nil) (G := []) Try.underlying25 Try.underlying5 (by kernel_rfl) (by kernel_rfl) (h 1 25 v1 rfl rfl)
  obtain ⟨r, H1, hr, hG⟩ := fn_sound Tlw_sound mixed Try.func5 (by decide +kernel) (ipvBack.core f t p q b l (len_lim h_f) (len_lim h_t) (i64_bd h_p) (i64_bd h_q) (len_lim h_b) (len_lim h_l))
  subst hr
  exact law_walk hG (vl_cons hv0 (vl_cons hv1 vl_nil))

namespace ipvBack
theorem spec {H : Type} (ds : List (DataW H)) (h : ds.length = Try.f5.params.size) : Rows.ipvBackSpec.fn H ds = { results := [.lit (.bool true)], args := ds } := by
  have h' : ds.length = 2 := h
  match ds, h' with
  | [_, _], _ => rfl

set_option maxRecDepth 100000 in
theorem lifted (os : Os) (started : os.Started) (H : Type) (enc : TypeId × Value → H) :
    ReturnsInHanded {} Try.checked os 5 .any (Rows.ipvBackSpec.pre6 enc Try.prog Try.f5 Rows.ipvBackRow.domain false) (Rows.ipvBackSpec.post enc Try.prog Try.f5 false true false false) :=
  lifted_said (C := Try.checked) (tb := 4) own started (by kernel_rfl) Try.func5
    (ChangeSpec.witness6 (enc := enc) (C := Try.checked) false ⟨#[], #[.agg #[.string .empty, .string .empty, .int .i64 0, .int .i64 0, .string .empty], .slice none 0 0], []⟩ 8 (by kernel_rfl) (by kernel_rfl) (by kernel_rfl) (by kernel_rfl))
    rfl spec rfl Try.underlying4 laidOut (by kernel_rfl) walk

theorem over : Rows.ipvBackRow.holds Try.pinned (OpenSpec.ofChange Rows.ipvBackSpec) :=
  OpenClaim.holds_of_wide 5 Try.f5 rfl rfl rfl rfl rfl rfl rfl ⟨rfl, rfl, rfl, rfl, rfl⟩ rfl rfl rfl rfl rfl (by kernel_rfl) Try.func5 (by kernel_rfl)
    (of_decide_eq_true (by kernel_rfl)) (by unfold Func.isWrapper; first | (rw [if_pos (by decide +kernel)]; kernel_rfl) | (rw [if_neg (by decide +kernel)]; exact ⟨rfl, rfl⟩))
    (fun os started H enc _ => lifted os started H enc)

theorem proved : Rows.IpvBackSaid := over
#print axioms proved
end ipvBack

end Go.Proofs.Ytlmliffcockfgaa

