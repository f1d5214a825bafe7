/- Plain laws of chapter 19: sums. No program in sight. -/
import Derived.Test.YtbmiaohigkjeeaaMrw2
set_option linter.unusedSimpArgs false
set_option linter.unusedVariables false
namespace Go.Proofs.Ytbmiaohigkjeeaa
open Ae (b8 b8_toNat b8_byte b8_toNatN)

theorem chgMod : ∀ (l m : List UInt8) (s : Int), l.length = m.length → l.length % 2 = 0 → chg s l m % 65535 = (s + raw true l - raw true m) % 65535
  | [], [], s, _, _ => by simp [chg]
  | [], _ :: _, s, h, _ => by simp at h
  | [_], _, s, _, h => by simp at h
  | _ :: _ :: _, [], s, h, _ => by simp at h
  | _ :: _ :: _, [_], s, h, _ => by simp at h
  | a :: b :: l, c :: d :: m, s, h, h2 => by
    simp only [chg]
    have ih := chgMod l m (upd s (a.toNat * 256 + b.toNat : Nat) (c.toNat * 256 + d.toNat : Nat)) (by simpa using h) (by simp at h2; omega)
    have hu := upd_mod s (a.toNat * 256 + b.toNat : Nat) (c.toNat * 256 + d.toNat : Nat)
    rw [ih]
    simp only [raw_cons, if_true, Bool.not_true, Bool.not_false, Bool.false_eq_true, if_false]
    omega
theorem side_even (l : List UInt8) (h : l.length % 2 = 0) : side true l.length = true := by unfold side; simp; omega
theorem raw_two (u v : UInt8) : (raw true [u, v] : Int) = w16 u v := by
  unfold w16; simp [raw_cons]
theorem raw_even {a b : List UInt8} (h : a.length % 2 = 0) : raw true (a ++ b) = raw true a + raw true b := by
  rw [raw_append, side_even a h]
theorem putB_raw {b : List UInt8} {i : Nat} {u v : UInt8} (h : i + 2 ≤ b.length) (hi : i % 2 = 0) : (raw true (putB b i [u, v]) : Int) = raw true b - w16 (b.getD i 0) (b.getD (i + 1) 0) + w16 u v := by
  have hl : (b.take i).length = i := by simp; omega
  have e : putB b i [b.getD i 0, b.getD (i + 1) 0] = b := by
    unfold putB
    have h1 := twoAt_is h
    rw [← h1, List.drop_take]
    rw [Nat.add_sub_cancel_left, List.append_assoc]
    conv => rhs; rw [← List.take_append_drop i b]
    congr 1
    conv => rhs; rw [← List.take_append_drop 2 (b.drop i)]
    rw [List.drop_drop]
  have r : ∀ x y : UInt8, (raw true (putB b i [x, y]) : Int) = raw true (b.take i) + w16 x y + raw true (b.drop (i + 2)) := fun x y => by
    unfold putB
    rw [List.append_assoc, raw_even (by omega), raw_even (a := [x, y]) (by simp)]
    have := raw_two x y
    omega
  have r1 := r (b.getD i 0) (b.getD (i + 1) 0)
  rw [e] at r1
  have r2 := r u v
  omega
theorem pseudo_raw {f t a : List UInt8} {p n : Int} (hf : f.length = 4 ∨ f.length = 16) (ht : t.length = f.length) (ha : a.length = f.length) :
    (raw true (pseudoL f a p n) : Int) = raw true (pseudoL f t p n) - raw true t + raw true a := by
  unfold pseudoL pseudo
  rw [if_pos ⟨hf, ha⟩, if_pos ⟨hf, ht⟩]
  simp only [Option.getD_some]
  unfold pseudoB
  split
  all_goals
    rw [List.append_assoc, List.append_assoc, raw_even (by omega), raw_even (a := a) (by omega), raw_even (a := f) (by omega), raw_even (a := t) (by omega)]
    omega
set_option maxRecDepth 20000 in
theorem pseudo_pos {f t : List UInt8} {p n : Int} (hf : f.length = 4 ∨ f.length = 16) (ht : t.length = f.length) (hp : p = 6 ∨ p = 17) : 0 < raw true (pseudoL f t p n) := by
  unfold pseudoL pseudo
  rw [if_pos ⟨hf, ht⟩]
  simp only [Option.getD_some]
  have h6 : 0 < (b8 p).toNat := by rcases hp with rfl | rfl <;> decide +kernel
  unfold pseudoB
  split
  · rw [List.append_assoc, raw_even (by omega), raw_even (a := t) (by omega)]
    simp only [raw_cons, if_true, Bool.not_true, Bool.not_false, Bool.false_eq_true, if_false]
    omega
  · rw [List.append_assoc, raw_even (by omega), raw_even (a := t) (by omega)]
    simp only [raw_cons, if_true, Bool.not_true, Bool.not_false, Bool.false_eq_true, if_false]
    omega
/-- a body whose address a became another one is good again -/
theorem turned_good {p : Ip} {a : List UInt8} {n : Int} (hr : (ptRead p).2 = 0) (ha : a.length = p.dst.length) (hg : ptGood p = true) (hno : ¬ (p.proto = 17 ∧ rwOld p = 0 ∧ p.dst.length = 4)) (hn : 0 ≤ n ∧ n ≤ 65535) :
    sumB (pseudoL p.src a p.proto ((rwTurned p 2 p.dst a n).length : Int) ++ rwTurned p 2 p.dst a n) = 65535 := by
  obtain ⟨hl, hs, he⟩ := ptRead_len hr
  obtain ⟨u, v, hf⟩ := fresh_two p.body 2 n
  have hsum : sumAt p + 2 ≤ p.body.length ∧ 6 ≤ sumAt p ∧ sumAt p % 2 = 0 := by unfold sumAt; split <;> omega
  have h8 : 2 + 2 ≤ p.body.length := by omega
  have hbl : (putB p.body 2 [u, v]).length = p.body.length := putB_len h8
  have hold : w16 ((putB p.body 2 [u, v]).getD (sumAt p) 0) ((putB p.body 2 [u, v]).getD (sumAt p + 1) 0) = rwOld p := by
    unfold rwOld; rw [putB_get h8 (by omega), putB_get h8 (by omega)]
  have hob := w16_bd (p.body.getD (sumAt p) 0) (p.body.getD (sumAt p + 1) 0)
  have hc1 := chg_bd (rwOld p) p.dst a hob
  have hc2 := chg_bd (chg (rwOld p) p.dst a) (twoAt p.body 2) [u, v] hc1
  have m1 := chgMod p.dst a (rwOld p) ha.symm (by omega)
  have m2 := chgMod (twoAt p.body 2) [u, v] (chg (rwOld p) p.dst a) rfl (by simp [twoAt])
  have hN : rwNew p 2 p.dst a n = chg (chg (rwOld p) p.dst a) (twoAt p.body 2) [u, v] := by unfold rwNew; rw [hf]
  have hT : rwTurned p 2 p.dst a n = putB (putB p.body 2 [u, v]) (sumAt p) (two (if p.proto = 17 ∧ rwNew p 2 p.dst a n = 0 then 65535 else rwNew p 2 p.dst a n)) := by
    unfold rwTurned; rw [if_neg hno, hf]
  have hsb : ∃ s, (s = 65535 ∧ rwNew p 2 p.dst a n = 0 ∨ s = rwNew p 2 p.dst a n) ∧ (if p.proto = 17 ∧ rwNew p 2 p.dst a n = 0 then 65535 else rwNew p 2 p.dst a n) = s := by
    split
    · rename_i h; exact ⟨_, .inl ⟨rfl, h.2⟩, rfl⟩
    · exact ⟨_, .inr rfl, rfl⟩
  obtain ⟨s, hs1, hs2⟩ := hsb
  rw [hs2] at hT
  have hs0 : 0 ≤ s ∧ s ≤ 65535 := by rw [hN] at hs1; omega
  have hlen : (rwTurned p 2 p.dst a n).length = p.body.length := by
    rw [hT]; unfold two; rw [putB_len (by rw [hbl]; omega), hbl]
  have hw := w16_b8 hs0
  have r1 := putB_raw (b := putB p.body 2 [u, v]) (i := sumAt p) (u := b8 (s / 256)) (v := b8 s) (by rw [hbl]; omega) hsum.2.2
  have r2 := putB_raw (b := p.body) (i := 2) (u := u) (v := v) h8 rfl
  have r3 := pseudo_raw (f := p.src) (t := p.dst) (a := a) (p := p.proto) (n := (p.body.length : Int)) hs (by omega) (by omega)
  have r4 := raw_two (p.body.getD 2 0) (p.body.getD 3 0)
  have r5 := raw_two u v
  have hE := pseudoL_even p.src p.dst p.proto (p.body.length : Int)
  have hE' := pseudoL_even p.src a p.proto (p.body.length : Int)
  have hpos := pseudo_pos (f := p.src) (t := a) (p := p.proto) (n := (p.body.length : Int)) hs (by omega) (by omega)
  unfold ptGood at hg
  rw [beq_iff_eq, sum_good, raw_even hE] at hg
  rw [hlen, sum_good, raw_even hE', hT]
  unfold two
  rw [hold] at r1
  rw [hN] at hs1
  unfold twoAt at m2 hs1 hc2
  simp only [Nat.reduceAdd] at r1 r2 m1 m2 hg hs1 hc1 hc2
  have ho : rwOld p = w16 (p.body.getD (sumAt p) 0) (p.body.getD (sumAt p + 1) 0) := rfl
  refine ⟨by omega, ?_⟩
  omega
theorem putB_lt {b : List UInt8} {i k : Nat} {u v : UInt8} (h : i + 2 ≤ b.length) (hk : k < i) : (putB b i [u, v]).getD k 0 = b.getD k 0 := by
  unfold putB
  rw [List.append_assoc, getD_app_l _ _ (by simp; omega), List.getD_eq_getElem?_getD, List.getD_eq_getElem?_getD, List.getElem?_take, if_pos hk]
theorem putB_at {b : List UInt8} {i : Nat} {u v : UInt8} (h : i + 2 ≤ b.length) : (putB b i [u, v]).getD i 0 = u ∧ (putB b i [u, v]).getD (i + 1) 0 = v := by
  unfold putB
  have hl : (b.take i).length = i := by simp; omega
  have h0 := getD_app_r (b.take i) ([u, v] ++ b.drop (i + 2)) 0 0
  have h1 := getD_app_r (b.take i) ([u, v] ++ b.drop (i + 2)) 1 0
  rw [hl] at h0 h1
  rw [List.append_assoc]
  exact ⟨h0, h1⟩
/-- what a changed body is, byte by byte -/
theorem turned_get {p : Ip} {was a : List UInt8} {n : Int} (h8 : sumAt p + 2 ≤ p.body.length) (h6 : 6 ≤ sumAt p) : ∃ u v, rwFresh p.body 2 n = [u, v] ∧ (rwTurned p 2 was a n).length = p.body.length ∧
    (rwTurned p 2 was a n).getD 2 0 = u ∧ (rwTurned p 2 was a n).getD 3 0 = v ∧ (∀ k, k < 2 → (rwTurned p 2 was a n).getD k 0 = p.body.getD k 0) ∧ (∀ k, 4 ≤ k → k < sumAt p → (rwTurned p 2 was a n).getD k 0 = p.body.getD k 0) := by
  obtain ⟨u, v, hf⟩ := fresh_two p.body 2 n
  refine ⟨u, v, hf, ?_⟩
  have hb : 2 + 2 ≤ p.body.length := by omega
  have hbl : (putB p.body 2 [u, v]).length = p.body.length := putB_len hb
  obtain ⟨a1, a2⟩ := putB_at (u := u) (v := v) hb
  unfold rwTurned
  rw [hf]
  split
  · exact ⟨hbl, a1, a2, fun k hk => putB_lt hb hk, fun k hk _ => putB_get hb hk⟩
  · unfold two
    have hb2 : sumAt p + 2 ≤ (putB p.body 2 [u, v]).length := by omega
    refine ⟨by rw [putB_len hb2, hbl], ?_, ?_, fun k hk => ?_, fun k hk hk2 => ?_⟩
    · rw [putB_lt hb2 (by omega)]; exact a1
    · rw [putB_lt hb2 (by omega)]; exact a2
    · rw [putB_lt hb2 (by omega)]; exact putB_lt hb hk
    · rw [putB_lt hb2 hk2]; exact putB_get hb hk
theorem shape_cases (p : Ip) : ((p.proto ≠ 6 ∧ p.proto ≠ 17) ∧ ptShape p = (noHd, 51)) ∨ ((p.proto = 6 ∧ p.body.length < 20) ∧ ptShape p = (noHd, 50)) ∨ ((p.proto = 17 ∧ p.body.length < 8) ∧ ptShape p = (noHd, 50)) ∨
    ((p.proto = 17 ∧ 8 ≤ p.body.length) ∧ w16 (p.body.getD 4 0) (p.body.getD 5 0) ≠ p.body.length ∧ ptShape p = (noHd, 53)) ∨
    ((p.proto = 17 ∧ 8 ≤ p.body.length) ∧ w16 (p.body.getD 4 0) (p.body.getD 5 0) = p.body.length ∧ ptShape p = (⟨17, w16 (p.body.getD 0 0) (p.body.getD 1 0), w16 (p.body.getD 2 0) (p.body.getD 3 0), 0, 8⟩, 0)) ∨
    ((p.proto = 6 ∧ 20 ≤ p.body.length) ∧ (((p.body.getD 12 0).toNat : Int) / 16 * 4 < 20 ∨ (p.body.length : Int) < ((p.body.getD 12 0).toNat : Int) / 16 * 4) ∧ ptShape p = (noHd, 53)) ∨
    ((p.proto = 6 ∧ 20 ≤ p.body.length) ∧ (¬ (((p.body.getD 12 0).toNat : Int) / 16 * 4 < 20 ∨ (p.body.length : Int) < ((p.body.getD 12 0).toNat : Int) / 16 * 4)) ∧ ptShape p = (⟨6, w16 (p.body.getD 0 0) (p.body.getD 1 0), w16 (p.body.getD 2 0) (p.body.getD 3 0), ((p.body.getD 13 0).toNat : Int) % 64, ((p.body.getD 12 0).toNat : Int) / 16 * 4⟩, 0)) := by
  unfold ptShape
  by_cases h1 : p.proto ≠ 6 ∧ p.proto ≠ 17
  · exact .inl ⟨h1, if_pos h1⟩
  rw [if_neg h1]
  right
  by_cases h2 : (p.proto = 6 ∧ p.body.length < 20) ∨ p.body.length < 8
  · rw [if_pos h2]
    by_cases h6 : p.proto = 6
    · exact .inl ⟨⟨h6, by omega⟩, rfl⟩
    · exact .inr (.inl ⟨⟨by omega, by omega⟩, rfl⟩)
  rw [if_neg h2]
  right; right
  by_cases h17 : p.proto = 17
  · rw [if_pos h17]
    by_cases h3 : w16 (p.body.getD 4 0) (p.body.getD 5 0) ≠ p.body.length
    · exact .inl ⟨⟨h17, by omega⟩, h3, if_pos h3⟩
    · exact .inr (.inl ⟨⟨h17, by omega⟩, by omega, if_neg h3⟩)
  · rw [if_neg h17]
    right; right
    by_cases h3 : ((p.body.getD 12 0).toNat : Int) / 16 * 4 < 20 ∨ (p.body.length : Int) < ((p.body.getD 12 0).toNat : Int) / 16 * 4
    · exact .inl ⟨⟨by omega, by omega⟩, h3, if_pos h3⟩
    · exact .inr ⟨⟨by omega, by omega⟩, h3, if_neg h3⟩
theorem rwTo_ok {p : Ip} {a : List UInt8} {n : Int} (h : (rwTo p a n).2 = 0) : (ptRead p).2 = 0 ∧ a.length = p.dst.length ∧ 0 ≤ n ∧ n ≤ 65535 ∧ 1 < p.ttl ∧ rwTo p a n = (⟨p.src, a, p.proto, p.ttl - 1, rwTurned p 2 p.dst a n⟩, 0) := by
  unfold rwTo at h ⊢
  split at h
  · simp at h
  rename_i h1
  split at h
  · simp at h
  rename_i h2
  exact ⟨by omega, by omega, by omega, by omega, by omega, by rw [if_neg h1, if_neg h2]⟩
theorem w16_two {n : Int} (h : 0 ≤ n ∧ n ≤ 65535) {u v : UInt8} (e : two n = [u, v]) : w16 u v = n := by
  unfold two at e
  cases e
  exact w16_b8 h
theorem to_shape {p : Ip} {a : List UInt8} {n q : Int} (hr : (ptRead p).2 = 0) (hn : 0 ≤ n ∧ n ≤ 65535) : ptShape ⟨p.src, a, p.proto, q, rwTurned p 2 p.dst a n⟩ = (⟨(ptShape p).1.proto, (ptShape p).1.src, if n = 0 then (ptShape p).1.dst else n, (ptShape p).1.flags, (ptShape p).1.at'⟩, 0) := by
  obtain ⟨hl, hs, he⟩ := ptRead_len hr
  have hsum : sumAt p + 2 ≤ p.body.length ∧ 6 ≤ sumAt p := by unfold sumAt; split <;> omega
  obtain ⟨u, v, hf, t1, t2, t3, t4, t5⟩ := turned_get (was := p.dst) (a := a) (n := n) hsum.1 hsum.2
  have hd : w16 u v = if n = 0 then w16 (p.body.getD 2 0) (p.body.getD 3 0) else n := by
    unfold rwFresh at hf
    split at hf
    · rename_i h0
      rw [if_pos h0]
      unfold twoAt at hf
      cases hf; rfl
    · rename_i h0
      rw [if_neg h0]
      exact w16_two hn hf
  have h0 : (ptShape p).2 = 0 := by
    unfold ptRead at hr
    by_cases hh : (ptShape p).2 ≠ 0
    · rw [if_pos hh] at hr; exact absurd hr hh
    · omega
  have g0 := t4 0 (by omega)
  have g1 := t4 1 (by omega)
  rcases shape_cases p with ⟨_, e⟩ | ⟨_, e⟩ | ⟨_, e⟩ | ⟨_, _, e⟩ | ⟨⟨k1, k2⟩, k3, e⟩ | ⟨_, _, e⟩ | ⟨⟨k1, k2⟩, k3, e⟩ <;> rw [e] at h0 <;> try (simp at h0; done)
  · have hs6 : sumAt p = 6 := by unfold sumAt; rw [if_pos k1]
    have g4 := t5 4 (by omega) (by omega)
    have g5 := t5 5 (by omega) (by omega)
    rw [e]
    unfold ptShape
    simp only [t1, t2, t3, g0, g1, g4, g5, k1]
    rw [if_neg (by omega), if_neg (by omega), if_pos trivial, if_neg (by omega), hd]
  · have hs6 : sumAt p = 16 := by unfold sumAt; rw [if_neg (by omega)]
    have g12 := t5 12 (by omega) (by omega)
    have g13 := t5 13 (by omega) (by omega)
    rw [e]
    unfold ptShape
    simp only [t1, t2, t3, g0, g1, g12, g13, k1]
    rw [if_neg (by omega), if_neg (by omega), if_neg (by omega), if_neg k3, hd]
theorem rwOld_zero {p : Ip} (h17 : p.proto = 17) : rwOld p = 0 ↔ p.body.getD 6 0 = 0 ∧ p.body.getD 7 0 = 0 := by
  have hs : sumAt p = 6 := by unfold sumAt; rw [if_pos h17]
  unfold rwOld
  rw [hs]
  have h6 := (p.body.getD 6 0).toNat_lt
  have h7 := (p.body.getD 7 0).toNat_lt
  rw [Ae.u8_eq_iff, Ae.u8_eq_iff]
  have z : (0 : UInt8).toNat = 0 := rfl
  rw [z]
  unfold w16
  simp only [Nat.reduceAdd]
  omega
theorem read_ok {p : Ip} (hr : (ptRead p).2 = 0) : (ptNone p = true ∨ ptGood p = true) ∧ rightA p.src = true ∧ p.src.length = p.dst.length ∧ ptRead p = ((ptShape p).1, 0) := by
  unfold ptRead at hr ⊢
  by_cases h1 : (ptShape p).2 ≠ 0
  · rw [if_pos h1] at hr; exact absurd hr h1
  rw [if_neg h1] at hr ⊢
  by_cases h2 : ptNone p = false ∧ ptGood p = false
  · rw [if_pos h2] at hr; simp at hr
  rw [if_neg h2] at hr ⊢
  by_cases h3 : ¬ (rightA p.src = true ∧ p.src.length = p.dst.length)
  · rw [if_pos h3] at hr; simp at hr
  rw [if_neg h3]
  have h3 : rightA p.src = true ∧ p.src.length = p.dst.length := Classical.byContradiction h3
  refine ⟨?_, h3.1, h3.2, rfl⟩
  cases hn : ptNone p with
  | true => exact .inl rfl
  | false =>
    cases hg : ptGood p with
    | true => exact .inr rfl
    | false => exact absurd ⟨hn, hg⟩ h2
theorem to_read {p : Ip} {a : List UInt8} {n : Int} (h : (rwTo p a n).2 = 0) : ptRead (rwTo p a n).1 = (⟨(ptShape p).1.proto, (ptShape p).1.src, if n = 0 then (ptShape p).1.dst else n, (ptShape p).1.flags, (ptShape p).1.at'⟩, 0) := by
  obtain ⟨hr, ha, hn0, hn1, ht, e⟩ := rwTo_ok h
  obtain ⟨hng, hra, hle, _⟩ := read_ok hr
  have hsh := to_shape (a := a) (q := p.ttl - 1) hr ⟨hn0, hn1⟩
  rw [e]
  simp only
  by_cases hno : p.proto = 17 ∧ rwOld p = 0 ∧ p.dst.length = 4
  · have hnone : ptNone ⟨p.src, a, p.proto, p.ttl - 1, rwTurned p 2 p.dst a n⟩ = true := by
      obtain ⟨hl, hs, he⟩ := ptRead_len hr
      have hs6 : sumAt p = 6 := by unfold sumAt; rw [if_pos hno.1]
      have hz := (rwOld_zero hno.1).1 hno.2.1
      have hT : rwTurned p 2 p.dst a n = putB p.body 2 (rwFresh p.body 2 n) := by unfold rwTurned; rw [if_pos hno]
      obtain ⟨u, v, hf⟩ := fresh_two p.body 2 n
      rw [hf] at hT
      have hb : 2 + 2 ≤ p.body.length := by omega
      unfold ptNone
      simp only
      rw [hT, putB_get hb (by omega), putB_get hb (by omega), hz.1, hz.2]
      simp [hno.1, hno.2.2, hle, ha]
    unfold ptRead
    rw [hsh, if_neg (by simp), if_neg (by rw [hnone]; simp), if_neg (by simp [hra, hle, ha])]
  · have hg : ptGood p = true := by
      rcases hng with hx | hx
      · exfalso
        unfold ptNone at hx
        simp only [Bool.and_eq_true, decide_eq_true_eq] at hx
        exact hno ⟨hx.1.1.1.1, (rwOld_zero hx.1.1.1.1).2 ⟨hx.1.2, hx.2⟩, hx.1.1.2⟩
      · exact hx
    have hg2 := turned_good hr ha hg hno ⟨hn0, hn1⟩
    exact ptRead_good hsh (by unfold ptGood; simp only; rw [hg2]; rfl) hra (by simp only; omega)
theorem shape_dst {p : Ip} (h : (ptShape p).2 = 0) : (ptShape p).1.dst = w16 (p.body.getD 2 0) (p.body.getD 3 0) := by
  rcases shape_cases p with ⟨_, e⟩ | ⟨_, e⟩ | ⟨_, e⟩ | ⟨_, _, e⟩ | ⟨_, _, e⟩ | ⟨_, _, e⟩ | ⟨_, _, e⟩ <;> rw [e] at h ⊢ <;> first | rfl | (simp at h; done)
theorem two_w16 (u v : UInt8) : two (w16 u v) = [u, v] := by
  have hu := u.toNat_lt
  have hv := v.toNat_lt
  unfold two
  have e1 : b8 (w16 u v / 256) = u := by
    rw [Ae.u8_eq_iff, show (b8 (w16 u v / 256)).toNat = (((b8 (w16 u v / 256)).toNat : Int)).toNat by omega, b8_toNat]
    unfold w16; omega
  have e2 : b8 (w16 u v) = v := by
    rw [Ae.u8_eq_iff, show (b8 (w16 u v)).toNat = (((b8 (w16 u v)).toNat : Int)).toNat by omega, b8_toNat]
    unfold w16; omega
  rw [e1, e2]
theorem putB_same {b : List UInt8} {i : Nat} (h : i + 2 ≤ b.length) : putB b i [b.getD i 0, b.getD (i + 1) 0] = b := by
  have e := putB_set (b := b) (k := i) (x := b.getD i 0) (y := b.getD (i + 1) 0) h
  rw [← e]
  have s1 : b.set i (b.getD i 0) = b := by
    rw [List.getD_eq_getElem?_getD, List.getElem?_eq_getElem (by omega)]; simp
  rw [s1, List.getD_eq_getElem?_getD, List.getElem?_eq_getElem (by omega)]; simp
theorem putB_two {b : List UInt8} {i : Nat} {u v x y : UInt8} (h : i + 2 ≤ b.length) : putB (putB b i [u, v]) i [x, y] = putB b i [x, y] := by
  rw [← putB_set (b := putB b i [u, v]) (by rw [putB_len h]; exact h), ← putB_set h, ← putB_set h]
  rw [List.set_comm _ _ (by omega : i + 1 ≠ i), List.set_set, List.set_set]
theorem putB_comm {b : List UInt8} {i j : Nat} {u v x y : UInt8} (h : i + 2 ≤ b.length) (hj : j + 2 ≤ b.length) (hij : i + 2 ≤ j) : putB (putB b i [u, v]) j [x, y] = putB (putB b j [x, y]) i [u, v] := by
  rw [← putB_set (b := putB b i [u, v]) (by rw [putB_len h]; exact hj), ← putB_set h, ← putB_set (b := putB b j [x, y]) (by rw [putB_len hj]; exact h), ← putB_set hj]
  rw [List.set_comm (i := i + 1) (j := j) _ _ (by omega), List.set_comm (i := i) (j := j) _ _ (by omega), List.set_comm (i := i + 1) (j := j + 1) _ _ (by omega), List.set_comm (i := i) (j := j + 1) _ _ (by omega)]
theorem pickS (c : Prop) [Decidable c] (m : Int) : ∃ s, ((s = 65535 ∧ m = 0) ∨ s = m) ∧ (if c ∧ m = 0 then 65535 else m) = s ∧ (c → s ≠ 0) := by
  by_cases h : c ∧ m = 0
  · exact ⟨65535, .inl ⟨rfl, h.2⟩, if_pos h, fun _ => by omega⟩
  · exact ⟨m, .inr rfl, if_neg h, fun hc e => h ⟨hc, e⟩⟩
set_option maxHeartbeats 1000000 in
theorem back_body {p : Ip} {a : List UInt8} {n q : Int} (h : (rwTo p a n).2 = 0) (hD : (ptShape p).1.dst ≠ 0) :
    ∃ u v, rwTurned ⟨p.src, a, p.proto, q, rwTurned p 2 p.dst a n⟩ 2 a p.dst (ptShape p).1.dst = putB p.body (sumAt p) [u, v] ∧ w16 u v % 65535 = rwOld p % 65535 := by
  obtain ⟨hr, ha, hn0, hn1, ht, _⟩ := rwTo_ok h
  obtain ⟨hl, hs, he⟩ := ptRead_len hr
  have hae : a.length % 2 = 0 := by omega
  have hde : p.dst.length % 2 = 0 := by omega
  have h0 : (ptShape p).2 = 0 := by
    unfold ptRead at hr
    by_cases hh : (ptShape p).2 ≠ 0
    · rw [if_pos hh] at hr; exact absurd hr hh
    · omega
  have hdst := shape_dst h0
  have hsum : sumAt p + 2 ≤ p.body.length ∧ 6 ≤ sumAt p := by unfold sumAt; split <;> omega
  have hb : 2 + 2 ≤ p.body.length := by omega
  obtain ⟨u, v, hf⟩ := fresh_two p.body 2 n
  have hbl : (putB p.body 2 [u, v]).length = p.body.length := putB_len hb
  have hfr : ∀ B : List UInt8, rwFresh B 2 (ptShape p).1.dst = [p.body.getD 2 0, p.body.getD 3 0] := fun B => by
    unfold rwFresh; rw [if_neg hD, hdst, two_w16]
  have hsA : ∀ B : List UInt8, sumAt ⟨p.src, a, p.proto, q, B⟩ = sumAt p := fun B => rfl
  have hO : ∀ B : List UInt8, rwOld ⟨p.src, a, p.proto, q, B⟩ = w16 (B.getD (sumAt p) 0) (B.getD (sumAt p + 1) 0) := fun B => rfl
  by_cases hno : p.proto = 17 ∧ rwOld p = 0 ∧ p.dst.length = 4
  · have hT : rwTurned p 2 p.dst a n = putB p.body 2 [u, v] := by unfold rwTurned; rw [if_pos hno, hf]
    have hO2 : rwOld ⟨p.src, a, p.proto, q, putB p.body 2 [u, v]⟩ = 0 := by
      rw [hO, putB_get hb (by omega), putB_get hb (by omega)]; exact hno.2.1
    refine ⟨p.body.getD (sumAt p) 0, p.body.getD (sumAt p + 1) 0, ?_, rfl⟩
    rw [hT, putB_same hsum.1]
    unfold rwTurned
    rw [if_pos ⟨hno.1, hO2, by omega⟩, hfr]
    simp only
    rw [putB_two hb]
    exact putB_same hb
  · obtain ⟨S, s1, s2, s3⟩ := pickS (p.proto = 17) (rwNew p 2 p.dst a n)
    have hN : rwNew p 2 p.dst a n = chg (chg (rwOld p) p.dst a) (twoAt p.body 2) [u, v] := by unfold rwNew; rw [hf]
    have hob := w16_bd (p.body.getD (sumAt p) 0) (p.body.getD (sumAt p + 1) 0)
    have hc1 := chg_bd (rwOld p) p.dst a hob
    have hc2 := chg_bd (chg (rwOld p) p.dst a) (twoAt p.body 2) [u, v] hc1
    have hS : 0 ≤ S ∧ S ≤ 65535 := by rw [hN] at s1; omega
    have hT : rwTurned p 2 p.dst a n = putB (putB p.body 2 [u, v]) (sumAt p) (two S) := by
      unfold rwTurned; rw [if_neg hno, hf, s2]
    have hsl : sumAt p + 2 ≤ (putB p.body 2 [u, v]).length := by omega
    obtain ⟨a1, a2⟩ := putB_at (u := u) (v := v) hb
    obtain ⟨c1, c2⟩ := putB_at (b := putB p.body 2 [u, v]) (i := sumAt p) (u := b8 (S / 256)) (v := b8 S) hsl
    have hO2 : rwOld ⟨p.src, a, p.proto, q, putB (putB p.body 2 [u, v]) (sumAt p) (two S)⟩ = S := by
      rw [hO]; unfold two; rw [c1, c2, w16_b8 hS]
    have hn2 : ¬ (p.proto = 17 ∧ rwOld ⟨p.src, a, p.proto, q, putB (putB p.body 2 [u, v]) (sumAt p) (two S)⟩ = 0 ∧ a.length = 4) := fun hx => by
      rw [hO2] at hx; exact s3 hx.1 hx.2.1
    have hA : twoAt (putB (putB p.body 2 [u, v]) (sumAt p) (two S)) 2 = [u, v] := by
      unfold twoAt two
      rw [putB_lt hsl (by omega), putB_lt hsl (by omega), a1, a2]
    obtain ⟨S2, r1, r2, _⟩ := pickS (p.proto = 17) (rwNew ⟨p.src, a, p.proto, q, putB (putB p.body 2 [u, v]) (sumAt p) (two S)⟩ 2 a p.dst (ptShape p).1.dst)
    have hN2 : rwNew ⟨p.src, a, p.proto, q, putB (putB p.body 2 [u, v]) (sumAt p) (two S)⟩ 2 a p.dst (ptShape p).1.dst = chg (chg S a p.dst) [u, v] [p.body.getD 2 0, p.body.getD 3 0] := by
      unfold rwNew; rw [hO2, hfr]; simp only; rw [hA]
    have hd1 := chg_bd S a p.dst hS
    have hd2 := chg_bd (chg S a p.dst) [u, v] [p.body.getD 2 0, p.body.getD 3 0] hd1
    have hS2 : 0 ≤ S2 ∧ S2 ≤ 65535 := by rw [hN2] at r1; omega
    refine ⟨b8 (S2 / 256), b8 S2, ?_, ?_⟩
    · rw [hT]
      unfold rwTurned
      rw [if_neg hn2, hfr]
      simp only [hsA]
      rw [r2]
      unfold two
      have k1 := putB_comm (b := putB p.body 2 [u, v]) (i := 2) (j := sumAt p) (u := p.body.getD 2 0) (v := p.body.getD 3 0) (x := b8 (S / 256)) (y := b8 S) (by rw [hbl]; exact hb) hsl (by omega)
      have k2 := putB_two (b := p.body) (i := 2) (u := u) (v := v) (x := p.body.getD 2 0) (y := p.body.getD 3 0) hb
      have k3 : putB p.body 2 [p.body.getD 2 0, p.body.getD 3 0] = p.body := putB_same hb
      rw [← k1, k2, k3]
      exact putB_two hsum.1
    · rw [w16_b8 hS2]
      have m1 := chgMod p.dst a (rwOld p) ha.symm hde
      have m2 := chgMod (twoAt p.body 2) [u, v] (chg (rwOld p) p.dst a) rfl (by simp [twoAt])
      have m3 := chgMod a p.dst S ha hae
      have m4 := chgMod [u, v] [p.body.getD 2 0, p.body.getD 3 0] (chg S a p.dst) rfl (by simp)
      rw [hN] at s1
      rw [hN2] at r1
      unfold twoAt at m2 s1
      simp only [Nat.reduceAdd] at m2 s1
      clear hN hN2 hT hO2 hn2 hA s2 s3 r2 hsA hO hfr hc1 hc2 hd1 hd2 hob hdst hf a1 a2 c1 c2
      omega
end Go.Proofs.Ytbmiaohigkjeeaa
