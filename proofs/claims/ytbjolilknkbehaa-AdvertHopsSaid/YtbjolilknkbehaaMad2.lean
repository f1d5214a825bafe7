/- Plain laws of chapter 6. No program in sight. -/
import Derived.Test.YtbjolilknkbehaaMad
set_option linter.unusedSimpArgs false
set_option linter.unusedVariables false
namespace Go.Proofs.Ytbjolilknkbehaa
open Ae (b8 b8_toNat b8_byte b8_toNatN)
theorem adBody_two (a : Adv) (q : Int) : adBody a q = [49, b8 a.id, b8 a.pri, b8 (a.addrs.length : Int), b8 (a.every / 256), b8 a.every] ++ two q ++ a.addrs.flatten := rfl
theorem ad_good (a : Adv) (s : List UInt8) : sumB (pseudoL s (adGroup (decide (s.length = 16))) 112 ((adBody a (adSum a s)).length : Int) ++ adBody a (adSum a s)) = 65535 := by
  have hl : (adBody a (adSum a s)).length = (adBody a 0).length := by rw [adBody_len, adBody_len]
  rw [hl]
  have he := pseudoL_even s (adGroup (decide (s.length = 16))) 112 ((adBody a 0).length : Int)
  have hsum : adSum a s = 65535 - sumB (pseudoL s (adGroup (decide (s.length = 16))) 112 ((adBody a 0).length : Int) ++ adBody a 0) := rfl
  generalize pseudoL s (adGroup (decide (s.length = 16))) 112 ((adBody a 0).length : Int) = L at he hsum ⊢
  rw [adBody_two] at hsum ⊢
  rw [← List.append_assoc, ← List.append_assoc] at hsum ⊢
  exact good_slot (by rw [List.length_append]; simp; omega) (.inl hsum)
theorem parts_flat (m : Nat) : ∀ (l : List (List UInt8)), (∀ x ∈ l, x.length = m) → parts m l.flatten l.length = l
  | [], _ => rfl
  | x :: r, h => by
    have hx := h x (List.mem_cons_self ..)
    show (x ++ r.flatten).take m :: parts m ((x ++ r.flatten).drop m) r.length = x :: r
    rw [← hx, List.take_left, List.drop_left]
    rw [hx, parts_flat m r fun y hy => h y (List.mem_cons_of_mem _ hy)]
structure AdFacts (a : Adv) (s : List UInt8) : Prop where
  len : (adBody a (adSum a s)).length = 8 + a.addrs.length * s.length
  c : (b8 (a.addrs.length : Int)).toNat = a.addrs.length
  id : ((b8 a.id).toNat : Int) = a.id
  pri : ((b8 a.pri).toNat : Int) = a.pri
  every : w16 (b8 (a.every / 256)) (b8 a.every) = a.every
  dst : (adGroup (decide (s.length = 16))).length = s.length
theorem ad_facts {a : Adv} {s : List UInt8} (h : adRight a s = true) : AdFacts a s := by
  obtain ⟨h0, h1, h2, h3, h4, h5, h6, h7, h8, h9⟩ := (adRight_iff a s).1 h
  obtain ⟨e1, e2⟩ := ad_len h
  refine ⟨by rw [adBody_len, e1], ?_, ?_, ?_, w16_b8 (by omega), ?_⟩
  · rw [b8_toNatN]; omega
  · rw [b8_toNat]; omega
  · rw [b8_toNat]; omega
  · rw [adGroup_len]; rcases h0 with h0 | h0 <;> simp [h0]
/-- what is read, as long as the sum is not looked at -/
theorem ad_read {a : Adv} {s t body : List UInt8} {c : Nat} (ht : t.length = s.length) (hb : body.length = (adBody a (adSum a s)).length) (h : adRight a s = true) (h0 : sumB (pseudoL t (adGroup (decide (s.length = 16))) 112 (body.length : Int) ++ body) ≠ 65535) : ∃ e, adDecode ⟨t, adGroup (decide (s.length = 16)), 112, 255, body⟩ = (noAdv, e) ∧ e ≠ 0 := by
  unfold adDecode
  simp only
  repeat' split
  all_goals first
    | exact ⟨_, rfl, by decide⟩
    | exact absurd ‹_› (fun hh => hh h0)
theorem ad_back {a : Adv} {s : List UInt8} (h : adRight a s = true) : adDecode (adPacket a s) = (a, 0) := by
  obtain ⟨h0, h1, h2, h3, h4, h5, h6, h7, h8, h9⟩ := (adRight_iff a s).1 h
  have f := ad_facts h
  have g0 : ((adBody a (adSum a s)).getD 0 0) = 49 := rfl
  have g1 : ((adBody a (adSum a s)).getD 1 0) = b8 a.id := rfl
  have g2 : ((adBody a (adSum a s)).getD 2 0) = b8 a.pri := rfl
  have g3 : ((adBody a (adSum a s)).getD 3 0) = b8 (a.addrs.length : Int) := rfl
  have g4 : ((adBody a (adSum a s)).getD 4 0) = b8 (a.every / 256) := rfl
  have g5 : ((adBody a (adSum a s)).getD 5 0) = b8 a.every := rfl
  have g8 : (adBody a (adSum a s)).drop 8 = a.addrs.flatten := rfl
  have hra : rightA s = true := by unfold rightA; rcases h0 with h0 | h0 <;> simp [h0]
  unfold adDecode adPacket
  simp only [g0, g1, g2, g3, g4, g5, g8, f.c, f.every]
  rw [if_neg (by simp), if_neg (by rw [hra, f.dst, f.len]; simp), if_neg (by decide), if_neg (by decide), if_neg (by rw [f.len]; omega), if_neg (by rw [ad_good]; simp), if_neg (by have := f.id; omega)]
  rw [f.id, f.pri, parts_flat _ _ h9]
theorem ad_hops {a : Adv} {s : List UInt8} {n : Int} (hn : n ≠ 255) : adDecode ⟨(adPacket a s).src, (adPacket a s).dst, (adPacket a s).proto, n, (adPacket a s).body⟩ = (noAdv, 65) := by
  unfold adDecode
  exact if_pos (.inl hn)
theorem ad_proto {a : Adv} {s : List UInt8} (q : Int) : adDecode ⟨(adPacket a s).src, (adPacket a s).dst, 17, q, (adPacket a s).body⟩ = (noAdv, 65) := by
  unfold adDecode
  exact if_pos (.inr (by show ¬ (17 : Int) = 112; decide))
theorem ad_cut {a : Adv} {s : List UInt8} (h : adRight a s = true) {n : Nat} (hn : n < (adPacket a s).body.length) : adDecode ⟨(adPacket a s).src, (adPacket a s).dst, (adPacket a s).proto, (adPacket a s).ttl, (adPacket a s).body.take n⟩ = (noAdv, if n < 8 then 60 else 63) := by
  obtain ⟨h0, h1, h2, h3, h4, h5, h6, h7, h8, h9⟩ := (adRight_iff a s).1 h
  have f := ad_facts h
  have hra : rightA s = true := by unfold rightA; rcases h0 with h0 | h0 <;> simp [h0]
  have hl : ((adBody a (adSum a s)).take n).length = n := by
    have hn' : n < (adBody a (adSum a s)).length := hn
    rw [List.length_take]; omega
  have hlen := f.len
  have hn' : n < (adBody a (adSum a s)).length := hn
  unfold adDecode adPacket
  simp only
  rw [if_neg (by simp)]
  by_cases h8n : n < 8
  · rw [if_pos (by rw [hl]; exact .inr (.inr h8n)), if_pos h8n]
  · have tk : ∀ k, k < 8 → ((adBody a (adSum a s)).take n).getD k 0 = (adBody a (adSum a s)).getD k 0 := fun k hk => by
      rw [List.getD_eq_getElem?_getD, List.getD_eq_getElem?_getD, List.getElem?_take_of_lt (by omega)]
    have g0 : ((adBody a (adSum a s)).getD 0 0) = 49 := rfl
    have g3 : ((adBody a (adSum a s)).getD 3 0) = b8 (a.addrs.length : Int) := rfl
    rw [if_neg (by rw [hra, hl, f.dst]; simp; omega), tk 0 (by omega), tk 3 (by omega), g0, g3, if_neg (by decide), if_neg (by decide), if_pos (by rw [f.c, hl]; omega), if_neg h8n]
theorem ad_turned1 {a : Adv} {s : List UInt8} (h : adRight a s = true) {k : Nat} (hk : k < (adPacket a s).body.length) {z : UInt8} (hz : z ≠ 0) :
    ∃ e, adDecode ⟨(adPacket a s).src, (adPacket a s).dst, (adPacket a s).proto, (adPacket a s).ttl, (adPacket a s).body.set k ((adPacket a s).body.getD k 0 ^^^ z)⟩ = (noAdv, e) ∧ e ≠ 0 := by
  have hg := ad_good a s
  refine ad_read (a := a) (s := s) (c := 0) rfl (by simp [adPacket]) h ?_
  have hk' : k < (adBody a (adSum a s)).length := hk
  show sumB (pseudoL s (adGroup (decide (s.length = 16))) 112 ((((adBody a (adSum a s)).set k ((adBody a (adSum a s)).getD k 0 ^^^ z)).length : Nat) : Int) ++ (adBody a (adSum a s)).set k ((adBody a (adSum a s)).getD k 0 ^^^ z)) ≠ 65535
  rw [List.length_set]
  generalize adBody a (adSum a s) = B at hg hk' ⊢
  have := sum_turned (l := pseudoL s (adGroup (decide (s.length = 16))) 112 (B.length : Int) ++ B) (k := (pseudoL s (adGroup (decide (s.length = 16))) 112 (B.length : Int)).length + k) (y := B.getD k 0 ^^^ z) (by rw [List.length_append]; omega)
    (by rw [getD_app_r]; exact xor_ne hz) hg
  rwa [List.set_append_right _ _ (by omega), Nat.add_sub_cancel_left] at this
theorem ad_turned2 {a : Adv} {s : List UInt8} (h : adRight a s = true) {k : Nat} (hk : k < s.length) {z : UInt8} (hz : z ≠ 0) :
    ∃ e, adDecode ⟨s.set k (s.getD k 0 ^^^ z), (adPacket a s).dst, (adPacket a s).proto, (adPacket a s).ttl, (adPacket a s).body⟩ = (noAdv, e) ∧ e ≠ 0 := by
  have hg := ad_good a s
  have f := ad_facts h
  obtain ⟨h0, _⟩ := (adRight_iff a s).1 h
  refine ad_read (a := a) (s := s) (c := 0) (by simp) rfl h ?_
  show sumB (pseudoL (s.set k (s.getD k 0 ^^^ z)) (adGroup (decide (s.length = 16))) 112 ((adBody a (adSum a s)).length : Int) ++ adBody a (adSum a s)) ≠ 65535
  have hdl := f.dst
  generalize adBody a (adSum a s) = B at hg ⊢
  generalize adGroup (decide (s.length = 16)) = dst at hg hdl ⊢
  have hps : ∀ src : List UInt8, src.length = s.length → pseudoL src dst 112 (B.length : Int) = pseudoB src dst 112 (B.length : Int) := fun src e => by
    unfold pseudoL pseudo; rw [if_pos (by omega)]; rfl
  rw [hps _ (by simp)]
  rw [hps _ rfl] at hg
  have hB : ∀ src : List UInt8, src.length = s.length → ∃ r, pseudoB src dst 112 (B.length : Int) = src ++ r ∧ ∀ src' : List UInt8, src'.length = s.length → pseudoB src' dst 112 (B.length : Int) = src' ++ r := by
    intro src e
    unfold pseudoB
    by_cases h16 : s.length = 16
    · refine ⟨dst ++ [b8 ((B.length : Int) / 16777216), b8 ((B.length : Int) / 65536), b8 ((B.length : Int) / 256), b8 (B.length : Int), 0, 0, 0, b8 112], ?_, fun src' e' => ?_⟩
      · rw [if_pos (by omega), List.append_assoc]
      · rw [if_pos (by omega), List.append_assoc]
    · refine ⟨dst ++ [0, b8 112, b8 ((B.length : Int) / 256), b8 (B.length : Int)], ?_, fun src' e' => ?_⟩
      · rw [if_neg (by omega), List.append_assoc]
      · rw [if_neg (by omega), List.append_assoc]
  obtain ⟨r, hr, hr'⟩ := hB s rfl
  rw [hr' _ (by simp)]
  rw [hr] at hg
  have := sum_turned (l := s ++ r ++ B) (k := k) (y := s.getD k 0 ^^^ z) (by simp only [List.length_append]; omega)
    (by rw [List.append_assoc, getD_app_l _ _ hk]; exact xor_ne hz) hg
  rwa [List.append_assoc, List.set_append_left _ _ hk, ← List.append_assoc] at this
end Go.Proofs.Ytbjolilknkbehaa
