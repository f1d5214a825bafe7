/- Plain laws of chapter 19. No program in sight. -/
import Derived.Test.YtbmiaohigkjeeaaMrw
set_option linter.unusedSimpArgs false
set_option linter.unusedVariables false
namespace Go.Proofs.Ytbmiaohigkjeeaa
open Ae (b8 b8_toNat b8_byte b8_toNatN)

theorem wrap_cases (p : Ip) (x y : List UInt8) : (rwWrap p x y).2 ≠ 0 ∨ (¬ p.ttl ≤ 1 ∧ ∃ W, rwWrap p x y = (W, 0) ∧ rwUnwrap W = (⟨p.src, p.dst, p.proto, p.ttl - 1, p.body⟩, 0) ∧ W.body.length ≤ 1500) := by
  unfold rwWrap
  by_cases h : p.ttl ≤ 1
  · left; rw [if_pos h]; simp
  · rw [if_neg h]
    split
    · rename_i hok
      right
      refine ⟨h, _, rfl, ?_, enc_len hok.1⟩
      have := dec_enc hok.1 []
      rw [List.append_nil] at this
      unfold rwUnwrap
      simp only [this]
      exact if_pos ⟨trivial, trivial⟩
    · left; simp
theorem putB_take {b : List UInt8} {i k : Nat} {u v : UInt8} (h : i + 2 ≤ b.length) (hk : k ≤ i) : (putB b i [u, v]).take k = b.take k := by
  unfold putB
  rw [List.append_assoc, List.take_append_of_le_length (by simp; omega), List.take_take, Nat.min_eq_left hk]
theorem putB_drop {b : List UInt8} {i k : Nat} {u v : UInt8} (h : i + 2 ≤ b.length) (hk : i + 2 ≤ k) : (putB b i [u, v]).drop k = b.drop k := by
  unfold putB
  have hl : (b.take i ++ [u, v]).length = i + 2 := by simp; omega
  rw [List.drop_append, List.drop_eq_nil_of_le (by rw [hl]; exact hk), hl, List.nil_append, List.drop_drop]
  congr 1; omega
theorem fresh_two (b : List UInt8) (i : Nat) (n : Int) : ∃ u v, rwFresh b i n = [u, v] := by
  unfold rwFresh twoAt two
  split
  · exact ⟨_, _, rfl⟩
  · exact ⟨_, _, rfl⟩
theorem turned_is (p : Ip) (i : Nat) (was now : List UInt8) (n : Int) : ∃ u v, rwTurned p i was now n = putB p.body i [u, v] ∨ ∃ x y, rwTurned p i was now n = putB (putB p.body i [u, v]) (sumAt p) [x, y] := by
  obtain ⟨u, v, h⟩ := fresh_two p.body i n
  refine ⟨u, v, ?_⟩
  unfold rwTurned
  rw [h]
  split
  · exact .inl rfl
  · exact .inr ⟨_, _, rfl⟩
theorem sides_cases (p : Ip) (a : List UInt8) (n : Int) : ((rwTo p a n).2 ≠ 0 ∧ (rwFrom p a n).2 = (rwTo p a n).2) ∨
    (∃ B C, rwTo p a n = (⟨p.src, a, p.proto, p.ttl - 1, B⟩, 0) ∧ rwFrom p a n = (⟨a, p.dst, p.proto, p.ttl - 1, C⟩, 0) ∧ 4 ≤ B.length ∧ B.take 2 = p.body.take 2 ∧ 4 ≤ C.length ∧ (C.take 4).drop 2 = (p.body.take 4).drop 2 ∧ 8 ≤ p.body.length) := by
  by_cases h0 : (ptRead p).2 = 0
  · obtain ⟨hl, hs, he⟩ := ptRead_len h0
    unfold rwTo rwFrom
    by_cases h1 : (ptRead p).2 ≠ 0 ∨ a.length ≠ p.dst.length ∨ n < 0 ∨ 65535 < n
    · left
      rw [if_pos h1, if_pos (by omega)]; simp
    · rw [if_neg h1, if_neg (c := (ptRead p).2 ≠ 0 ∨ a.length ≠ p.src.length ∨ n < 0 ∨ 65535 < n) (by omega)]
      by_cases h2 : p.ttl ≤ 1
      · left; rw [if_pos h2, if_pos h2]; simp
      · right
        rw [if_neg h2, if_neg h2]
        have hsum : sumAt p + 2 ≤ p.body.length ∧ 6 ≤ sumAt p := by
          unfold sumAt; split <;> omega
        have h8 : 8 ≤ p.body.length := by omega
        refine ⟨_, _, rfl, rfl, ?_, ?_, ?_, ?_, h8⟩
        · obtain ⟨u, v, h | ⟨x, y, h⟩⟩ := turned_is p 2 p.dst a n <;> rw [h]
          · rw [putB_len (by omega)]; omega
          · rw [putB_len (by rw [putB_len (by omega)]; omega), putB_len (by omega)]; omega
        · obtain ⟨u, v, h | ⟨x, y, h⟩⟩ := turned_is p 2 p.dst a n <;> rw [h]
          · rw [putB_take (by omega) (by omega)]
          · rw [putB_take (by rw [putB_len (by omega)]; omega) (by omega), putB_take (by omega) (by omega)]
        · obtain ⟨u, v, h | ⟨x, y, h⟩⟩ := turned_is p 0 p.src a n <;> rw [h]
          · rw [putB_len (by omega)]; omega
          · rw [putB_len (by rw [putB_len (by omega)]; omega), putB_len (by omega)]; omega
        · have hd : ∀ l : List UInt8, (l.take 4).drop 2 = (l.drop 2).take 2 := fun l => by rw [List.drop_take]
          rw [hd, hd]
          obtain ⟨u, v, h | ⟨x, y, h⟩⟩ := turned_is p 0 p.src a n <;> rw [h]
          · rw [putB_drop (by omega) (by omega)]
          · rw [← hd, putB_take (k := 4) (by rw [putB_len (by omega)]; omega) (by omega), hd, putB_drop (by omega) (by omega)]
  · left
    unfold rwTo rwFrom
    rw [if_pos (.inl h0), if_pos (.inl h0)]; simp
end Go.Proofs.Ytbmiaohigkjeeaa
