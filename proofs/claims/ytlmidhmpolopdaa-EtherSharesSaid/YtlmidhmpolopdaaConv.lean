/- string(b), b a slice of bytes. No program in sight. -/
import Derived.Test.YtlmidhmpolopdaaMem
import Derived.Laws.BytesString
namespace Go.Proofs.Ytlmidhmpolopdaa
open Go.RowKit

theorem push_all : ∀ (l : List UInt8) (s : ByteArray), ((l.map fun x => (x.toNat : Int)).foldl (fun (r : ByteArray) (n : Int) => r.push (UInt8.ofNat n.toNat)) s) = ⟨s.data ++ l.toArray⟩
  | [], s => by simp
  | x :: l, s => by
    rw [List.map_cons, List.foldl_cons, push_all l]
    have : UInt8.ofNat ((x.toNat : Int)).toNat = x := by simp
    rw [this]
    simp [ByteArray.push]

theorem conv_string {P : Program} {w : World} {src dst e : TypeId} (hs : P.underlying src = some (.slice e)) (he : P.underlying e = some (.int .u8)) (hd : P.underlying dst = some .string)
    {a : Option Addr} {n c : Nat} {l : List UInt8} (h : Bytes w a n c l) : (convert src dst (.slice a n c)).run P w = .ok (.string ⟨l.toArray⟩) w := by
  rw [run_convert_bytes_string w src dst e a n c hs he hd]
  have hl := h.len
  by_cases ha : a = none
  · subst ha
    have hn : n = 0 := by
      rcases Nat.eq_zero_or_pos n with h0 | h0
      · exact h0
      · obtain ⟨_, h', _⟩ := news_of h h0; cases h'
    subst hn
    have : l = [] := List.eq_nil_of_length_eq_zero hl.symm
    subst this
    simp [Conv.bytesToString]
    rfl
  · obtain ⟨ad, rfl⟩ : ∃ ad, a = some ad := by cases a with | none => exact absurd rfl ha | some x => exact ⟨x, rfl⟩
    have hnews : ∀ (j : Nat) u, (l.map B8)[j]? = some u → w.cell? (ad.add j) = some u := by
      rcases Nat.eq_zero_or_pos n with h0 | h0
      · have : l = [] := List.eq_nil_of_length_eq_zero (by omega)
        subst this
        intro j u hu; simp at hu
      · obtain ⟨ad', h1, h2⟩ := news_of h h0
        cases h1
        exact h2
    have hr := run_loadCells_list (P := P) w ad (l.map B8) hnews
    have e1 : (l.map B8).length = n := by simp [hl]
    rw [e1] at hr
    rw [run_bytesToString w ad n c (l.map fun x => (x.toNat : Int)) (by rw [hr, List.map_map]; rfl), push_all]
    simp
end Go.Proofs.Ytlmidhmpolopdaa
