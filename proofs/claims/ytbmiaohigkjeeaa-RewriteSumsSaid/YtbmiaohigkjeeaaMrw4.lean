/- Plain laws of chapter 19: there and back. No program in sight. -/
import Derived.Test.YtbmiaohigkjeeaaMrw3
set_option linter.unusedSimpArgs false
set_option linter.unusedVariables false
namespace Go.Proofs.Ytbmiaohigkjeeaa
open Ae (b8 b8_toNat b8_byte b8_toNatN)

theorem read_shape {p : Ip} (hr : (ptRead p).2 = 0) : (ptShape p).2 = 0 ∧ (ptRead p).1 = (ptShape p).1 := by
  have h := (read_ok hr).2.2.2
  refine ⟨?_, by rw [h]⟩
  unfold ptRead at hr
  by_cases hh : (ptShape p).2 ≠ 0
  · rw [if_pos hh] at hr; exact absurd hr hh
  · omega
theorem shape_bd {p : Ip} (hr : (ptShape p).2 = 0) : 0 ≤ (ptShape p).1.dst ∧ (ptShape p).1.dst ≤ 65535 := by
  rw [shape_dst hr]; exact w16_bd _ _
theorem hd_eta (h : Hd) : (⟨h.proto, h.src, h.dst, h.flags, h.at'⟩ : Hd) = h := rfl
/-- there and back -/
theorem back_all {p : Ip} {a : List UInt8} {n : Int} (h : (rwTo p a n).2 = 0) (ht : 1 < p.ttl - 1) (hD : (ptRead p).1.dst ≠ 0) :
    ∃ u v, rwTo ⟨p.src, a, p.proto, p.ttl - 1, rwTurned p 2 p.dst a n⟩ p.dst (ptRead p).1.dst = (⟨p.src, p.dst, p.proto, p.ttl - 2, putB p.body (sumAt p) [u, v]⟩, 0) ∧
      w16 u v % 65535 = rwOld p % 65535 ∧ ptRead ⟨p.src, p.dst, p.proto, p.ttl - 2, putB p.body (sumAt p) [u, v]⟩ = ptRead p ∧ sumAt p + 2 ≤ p.body.length ∧
      (ptRead p).2 = 0 ∧ (rwTurned p 2 p.dst a n).length = p.body.length ∧ rwTo p a n = (⟨p.src, a, p.proto, p.ttl - 1, rwTurned p 2 p.dst a n⟩, 0) := by
  obtain ⟨hr, ha, hn0, hn1, ht1, e⟩ := rwTo_ok h
  obtain ⟨hs0, hs1⟩ := read_shape hr
  have hread := to_read h
  rw [e] at hread
  simp only at hread
  obtain ⟨hl, hs, he⟩ := ptRead_len hr
  have hsum : sumAt p + 2 ≤ p.body.length ∧ 6 ≤ sumAt p := by unfold sumAt; split <;> omega
  rw [hs1] at hD
  have hbd := shape_bd hs0
  obtain ⟨u, v, hb, hw⟩ := back_body (q := p.ttl - 1) h hD
  obtain ⟨_, _, _, t1, _⟩ := turned_get (was := p.dst) (a := a) (n := n) hsum.1 hsum.2
  have hr2 : (ptRead ⟨p.src, a, p.proto, p.ttl - 1, rwTurned p 2 p.dst a n⟩).2 = 0 := by rw [hread]
  have hT : rwTo ⟨p.src, a, p.proto, p.ttl - 1, rwTurned p 2 p.dst a n⟩ p.dst (ptShape p).1.dst = (⟨p.src, p.dst, p.proto, p.ttl - 2, putB p.body (sumAt p) [u, v]⟩, 0) := by
    unfold rwTo
    rw [if_neg (by simp only; omega), if_neg (by simp only; omega)]
    simp only
    rw [hb, show p.ttl - 1 - 1 = p.ttl - 2 by omega]
  rw [hs1]
  refine ⟨u, v, hT, hw, ?_, hsum.1, hr, t1, e⟩
  have hread2 := to_read (p := ⟨p.src, a, p.proto, p.ttl - 1, rwTurned p 2 p.dst a n⟩) (a := p.dst) (n := (ptShape p).1.dst) (by rw [hT])
  rw [hT] at hread2
  simp only at hread2
  have hs2 := (read_shape hr2).2
  rw [hread] at hs2
  rw [hread2, ← hs2]
  simp only
  rw [if_neg hD, (read_ok hr).2.2.2]
theorem same16 {m n : Int} (hm : 0 ≤ m ∧ m ≤ 65535) (hn : 0 ≤ n ∧ n ≤ 65535) (h : n % 65535 = m % 65535) : (decide (m = n) || decide ((m + n) % 65536 = 65535) && (decide (m = 0) || decide (n = 0))) = true := by
  by_cases e : m = n
  · simp [e]
  · have : (m = 0 ∧ n = 65535) ∨ (m = 65535 ∧ n = 0) := by omega
    rcases this with ⟨rfl, rfl⟩ | ⟨rfl, rfl⟩ <;> simp
theorem turned_other {p : Ip} {was a : List UInt8} {n : Int} {k : Nat} (h8 : sumAt p + 2 ≤ p.body.length) (h6 : 6 ≤ sumAt p) (h2 : k ≠ 2) (h3 : k ≠ 3) (hs : k ≠ sumAt p) (hs1 : k ≠ sumAt p + 1) : (rwTurned p 2 was a n).getD k 0 = p.body.getD k 0 := by
  obtain ⟨u, v, hf⟩ := fresh_two p.body 2 n
  have hb : 2 + 2 ≤ p.body.length := by omega
  have hbl : (putB p.body 2 [u, v]).length = p.body.length := putB_len hb
  have one : ∀ (b : List UInt8) (i : Nat) (x y : UInt8), i + 2 ≤ b.length → k ≠ i → k ≠ i + 1 → (putB b i [x, y]).getD k 0 = b.getD k 0 := fun b i x y h h1 h2 => by
    rcases Nat.lt_or_ge k i with hk | hk
    · exact putB_lt h hk
    · exact putB_get h (by omega)
  unfold rwTurned
  rw [hf]
  split
  · exact one _ _ _ _ hb h2 h3
  · unfold two
    rw [one _ _ _ _ (by omega) hs hs1]
    exact one _ _ _ _ hb h2 h3
/-- the number that is put anew counts as the one that stands there -/
theorem turned_anew {p : Ip} {a : List UInt8} {n : Int} (hr : (ptRead p).2 = 0) (ha : a.length = p.dst.length) (hg : ptGood p = true) (hno : ¬ (p.proto = 17 ∧ rwOld p = 0 ∧ p.dst.length = 4)) (hn : 0 ≤ n ∧ n ≤ 65535) :
    (65535 - sumB (pseudoL p.src a p.proto ((rwTurned p 2 p.dst a n).length : Int) ++ putB (rwTurned p 2 p.dst a n) (sumAt p) [0, 0])) % 65535 =
      w16 ((rwTurned p 2 p.dst a n).getD (sumAt p) 0) ((rwTurned p 2 p.dst a n).getD (sumAt p + 1) 0) % 65535 := by
  have hgood := turned_good hr ha hg hno hn
  obtain ⟨hl, hs, he⟩ := ptRead_len hr
  have hsum : sumAt p + 2 ≤ p.body.length ∧ 6 ≤ sumAt p ∧ sumAt p % 2 = 0 := by unfold sumAt; split <;> omega
  obtain ⟨u, v, _, t1, _⟩ := turned_get (was := p.dst) (a := a) (n := n) hsum.1 hsum.2.1
  generalize rwTurned p 2 p.dst a n = B at *
  have hev := pseudoL_even p.src a p.proto (B.length : Int)
  generalize pseudoL p.src a p.proto (B.length : Int) = L at *
  have h0 := (sum_good.1 hgood).2
  have r1 := putB_raw (b := B) (i := sumAt p) (u := 0) (v := 0) (by omega) hsum.2.2
  have r2 : (raw true (L ++ B) : Nat) = raw true L + raw true B := raw_even hev
  have r3 : (raw true (L ++ putB B (sumAt p) [0, 0]) : Nat) = raw true L + raw true (putB B (sumAt p) [0, 0]) := raw_even hev
  have r4 : sumB (L ++ putB B (sumAt p) [0, 0]) % 65535 = (raw true (L ++ putB B (sumAt p) [0, 0]) : Int) % 65535 := by unfold sumB; exact fld_mod _
  have z : w16 0 0 = 0 := by decide
  rw [z] at r1
  omega
end Go.Proofs.Ytbmiaohigkjeeaa
