/- A law's arguments as the evaluator's values; what a law's walk wants. No program in sight. -/
import Derived.Test.YtnbbaemijogeoaaAeZc
import Derived.Test.YtnbbaemijogeoaaFrame
namespace Go.Proofs.Ytnbbaemijogeoaa.Ae
open Go Go.RowKit

/-- all that stood there before the call is only read -/
def old (W : World) (g : Nat) : Prop := g < W.heap.size
theorem sim_old (W : World) : Sim (old W) W Mp.nil [] :=
  ⟨fun _ h => h, fun _ _ => rfl, fun k _ h _ => absurd (hget_out (Nat.zero_le k)) h, fun k h _ => absurd (hget_out (Nat.zero_le k)) h, fun k _ _ h _ _ _ => absurd (hget_out (Nat.zero_le k)) h⟩

theorem law_walk {P : Program} {f : Nat} {args : List AVal} {H' : Hp} {W : World} {xs : List Value} (hG : Gives P f args [] (.bool true) H') (hx : VL (old W) W Mp.nil [] args xs) :
    Calls P f xs.toArray W fun e w' => e = .returned (.bool true) ∧ Below W.heap.size W w' := by
  refine (hG.run (old W) W Mp.nil xs (sim_old W) hx).mono fun e w' ⟨R', m', x, he, F, V⟩ => ?_
  cases V
  exact ⟨he, F.os, F.tape, F.output, F.size, fun k hk => F.frame k hk fun j hj => absurd (hget_out (Nat.zero_le j)) hj⟩

section
variable {H : Type} {enc : TypeId × Value → H} {b : Bool} {P : Program} {W : World} {t : TypeId} {v : Value} {m : Mp} {G : Hp}

theorem arg_int {k : IntKind} (ht : P.underlying t = some (.int k)) (h : RdV enc b P W t v) : ∃ n, v = .int k n ∧ (Lit.int k n).wf = true ∧ VR (old W) W m G (.int k n) v := by
  obtain ⟨n, rfl, hw⟩ := h.int ht
  exact ⟨n, rfl, hw, .int k n⟩
theorem arg_byte (ht : P.underlying t = some (.int .u8)) (h : RdV enc b P W t v) : ∃ x : UInt8, VR (old W) W m G (.byte x) v := by
  obtain ⟨n, rfl, hw⟩ := h.int ht
  obtain ⟨x, rfl⟩ := u8_of hw
  exact ⟨x, .byte x⟩
theorem arg_bool (ht : P.underlying t = some .bool) (h : RdV enc b P W t v) : ∃ c, VR (old W) W m G (.bool c) v := by
  obtain ⟨c, rfl⟩ := h.bool ht
  exact ⟨c, .bool c⟩
theorem arg_str (ht : P.underlying t = some .string) (h : RdV enc b P W t v) : ∃ l : List UInt8, l.length ≤ lim b ∧ VR (old W) W m G (.str l) v := by
  obtain ⟨s, rfl, hs⟩ := h.string ht
  have e : s = ⟨s.data.toList.toArray⟩ := by simp
  have hl : s.data.toList.length = s.size := rfl
  refine ⟨s.data.toList, by rw [hl]; exact hs, ?_⟩
  conv => arg 6; rw [e]
  have := lim_le b
  exact .str _ (by rw [hl]; unfold big; omega)
theorem bytes_arg {a : Option Addr} {n c : Nat} {l : List UInt8} (hB : Bytes W a n c l) (hc : c ≤ lim b) : ∃ l' : List UInt8, l'.length ≤ lim b ∧ VR (old W) W m G (.roB l') (.slice a n c) := by
  have hn := hB.len
  have hle := hB.le
  have hroom := hB.room
  have hcap := hB.capr
  have hat := hB.at
  subst hn
  refine ⟨l, by omega, ?_⟩
  by_cases hp : 0 < l.length
  case neg => exact roB_of (off := 0) hle hcap hroom fun h => absurd h hp
  obtain ⟨g, off, ha, hc'⟩ := hat hp
  refine roB_of (off := off) hle hcap hroom fun _ => ?_
  have cell : ∀ (i : Nat) x, l[i]? = some x → W.cell? ⟨g, off + i, none⟩ = some (.int .u8 (x.toNat : Int)) := fun i x hx => by
    have hi := (List.getElem?_eq_some_iff.1 hx).1
    rw [hc' i hi, List.getD_eq_getElem?_getD, hx]; rfl
  refine ⟨g, ha, ?_, cell⟩
  have h0 := cell 0 _ (List.getElem?_eq_getElem hp)
  unfold old
  rcases Nat.lt_or_ge g W.heap.size with h' | h'
  · exact h'
  · unfold World.cell? at h0
    simp [Array.getElem?_eq_none h'] at h0
theorem arg_bytes {e : TypeId} (ht : P.underlying t = some (.slice e)) (hu : P.underlying e = some (.int .u8)) (he : P.cellsOf e = 1) (hb : P.bytesOf e = 1) (h : RdV enc b P W t v) : ∃ l : List UInt8, l.length ≤ lim b ∧ VR (old W) W m G (.roB l) v := by
  obtain ⟨a, n, c, l, rfl, hB, hc⟩ := h.bytes ht hu he hb
  have hn := hB.len
  have hle := hB.le
  have hroom := hB.room
  have hcap := hB.capr
  have hat := hB.at
  subst hn
  refine ⟨l, by omega, ?_⟩
  by_cases hp : 0 < l.length
  case neg => exact roB_of (off := 0) hle hcap hroom fun h => absurd h hp
  obtain ⟨g, off, ha, hc'⟩ := hat hp
  refine roB_of (off := off) hle hcap hroom fun _ => ?_
  have cell : ∀ (i : Nat) x, l[i]? = some x → W.cell? ⟨g, off + i, none⟩ = some (.int .u8 (x.toNat : Int)) := fun i x hx => by
    have hi := (List.getElem?_eq_some_iff.1 hx).1
    rw [hc' i hi, List.getD_eq_getElem?_getD, hx]; rfl
  refine ⟨g, ha, ?_, cell⟩
  have h0 := cell 0 _ (List.getElem?_eq_getElem hp)
  unfold old
  rcases Nat.lt_or_ge g W.heap.size with h' | h'
  · exact h'
  · unfold World.cell? at h0
    simp [Array.getElem?_eq_none h'] at h0
end
end Go.Proofs.Ytnbbaemijogeoaa.Ae
