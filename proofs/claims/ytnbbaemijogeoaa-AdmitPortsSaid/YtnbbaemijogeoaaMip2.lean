/- Chapter 3: plain laws. No program in sight. -/
import Derived.Test.YtnbbaemijogeoaaMip
set_option linter.unusedSimpArgs false
set_option linter.unusedVariables false
namespace Go.Proofs.Ytnbbaemijogeoaa
open Ae (b8 b8_toNat b8_byte b8_toNatN)

theorem list4 {α : Type} {l : List α} (h : l.length = 4) : ∃ a b c d, l = [a, b, c, d] := by
  match l, h with
  | [a, b, c, d], _ => exact ⟨a, b, c, d, rfl⟩
theorem list16 {α : Type} {l : List α} (h : l.length = 16) : ∃ a b c d e f g i j k m n o p q r, l = [a, b, c, d, e, f, g, i, j, k, m, n, o, p, q, r] := by
  match l, h with
  | [a, b, c, d, e, f, g, i, j, k, m, n, o, p, q, r], _ => exact ⟨a, b, c, d, e, f, g, i, j, k, m, n, o, p, q, r, rfl⟩

def head4 (a b c d x y f0 f1 f2 f3 t0 t1 t2 t3 : UInt8) : List UInt8 := [69, 0, a, b, 0, 0, 64, 0, c, d, x, y, f0, f1, f2, f3, t0, t1, t2, t3]
theorem b8_bound (n : Int) : 0 ≤ n % 256 ∧ n % 256 < 256 := by omega

theorem head4_sum (a b c d x y f0 f1 f2 f3 t0 t1 t2 t3 : UInt8) (hx : (x.toNat : Int) * 256 + (y.toNat : Int) = 65535 - sumB (head4 a b c d 0 0 f0 f1 f2 f3 t0 t1 t2 t3)) :
    sumB (head4 a b c d x y f0 f1 f2 f3 t0 t1 t2 t3) = 65535 := by
  have e : ∀ u v : UInt8, raw true (head4 a b c d u v f0 f1 f2 f3 t0 t1 t2 t3) = raw true [69, 0, a, b, 0, 0, 64, 0, c, d] + (u.toNat * 256 + (v.toNat + raw true [f0, f1, f2, f3, t0, t1, t2, t3])) := fun u v => by
    rw [show head4 a b c d u v f0 f1 f2 f3 t0 t1 t2 t3 = [69, 0, a, b, 0, 0, 64, 0, c, d] ++ (u :: v :: [f0, f1, f2, f3, t0, t1, t2, t3]) from rfl, raw_append]
    rw [show side true [69, 0, a, b, 0, 0, 64, 0, c, d].length = true by simp [side], raw_cons true u, raw_cons _ v]
    simp only [if_true, Bool.not_true, Bool.not_false, Bool.false_eq_true, if_false]
  have hp : 0 < raw true [69, 0, a, b, 0, 0, 64, 0, c, d] := by
    have : raw true [69, 0, a, b, 0, 0, 64, 0, c, d] = 17664 + raw false [0, a, b, 0, 0, 64, 0, c, d] := by rw [raw_cons true 69]; rfl
    omega
  unfold sumB at *
  rw [e] at hx ⊢
  generalize raw true [69, 0, a, b, 0, 0, 64, 0, c, d] = A at *
  generalize raw true [f0, f1, f2, f3, t0, t1, t2, t3] = B at *
  have z : (0 : UInt8).toNat = 0 := rfl
  rw [z] at hx
  generalize x.toNat = u at *
  generalize y.toNat = v at *
  clear e z
  unfold fld at *
  rw [if_neg (by omega)] at hx
  rw [if_neg (by omega)]
  omega

theorem bytes4_form {p : Ip} (h : ipOk p = true) (h4 : p.src.length ≠ 16) : ∃ a b c d x y f0 f1 f2 f3 t0 t1 t2 t3, p.src = [f0, f1, f2, f3] ∧ p.dst = [t0, t1, t2, t3] ∧ ipBytes p = head4 a b c d x y f0 f1 f2 f3 t0 t1 t2 t3 ++ p.body ∧
    sumB (head4 a b c d x y f0 f1 f2 f3 t0 t1 t2 t3) = 65535 ∧ w16 a b = 20 + (p.body.length : Int) ∧ (c.toNat : Int) = p.ttl ∧ (d.toNat : Int) = p.proto ∧ p.body.length ≤ 1480 := by
  rw [ipOk_iff] at h
  obtain ⟨hs, hd, h1, h2, h3, h5⟩ := h
  have hs4 : p.src.length = 4 ∧ p.body.length ≤ 1480 := by omega
  obtain ⟨f0, f1, f2, f3, ef⟩ := list4 hs4.1
  obtain ⟨t0, t1, t2, t3, et⟩ := list4 (show p.dst.length = 4 by omega)
  have eh : ipHead4 p = head4 (b8 ((20 + (p.body.length : Int)) / 256)) (b8 (20 + (p.body.length : Int))) (b8 p.ttl) (b8 p.proto) 0 0 f0 f1 f2 f3 t0 t1 t2 t3 := by
    unfold ipHead4 head4; rw [ef, et]; rfl
  refine ⟨b8 ((20 + (p.body.length : Int)) / 256), b8 (20 + (p.body.length : Int)), b8 p.ttl, b8 p.proto, b8 (ipSum4 p / 256), b8 (ipSum4 p), f0, f1, f2, f3, t0, t1, t2, t3, ef, et, ?_, ?_, ?_, ?_, ?_, hs4.2⟩
  · unfold ipBytes
    rw [if_neg h4]
    unfold ipBytes4
    rw [eh]; rfl
  · refine head4_sum _ _ _ _ _ _ _ _ _ _ _ _ _ _ ?_
    rw [b8_toNat, b8_toNat, ← eh]
    have := sumB_bd (ipHead4 p)
    unfold ipSum4
    omega
  · unfold w16; rw [b8_toNat, b8_toNat]; omega
  · rw [b8_toNat]; omega
  · rw [b8_toNat]; omega

theorem take_body (A B C : List UInt8) (n : Nat) (h : n = A.length + B.length) : ((A ++ B ++ C).take n).drop A.length = B := by
  subst h
  rw [List.take_append_of_le_length (by simp), List.take_of_length_le (by simp)]
  simp

theorem dec_bytes4 {p : Ip} (h : ipOk p = true) (h4 : p.src.length ≠ 16) (l : List UInt8) : ipDecode (ipBytes p ++ l) = (p, 0) := by
  obtain ⟨a, b, c, d, x, y, f0, f1, f2, f3, t0, t1, t2, t3, e1, e2, e3, e4, e5, e6, e7, e8⟩ := bytes4_form h h4
  rw [e3]
  have hlen : (head4 a b c d x y f0 f1 f2 f3 t0 t1 t2 t3 ++ p.body ++ l).length = 20 + p.body.length + l.length := by simp [head4]; omega
  have ht : (head4 a b c d x y f0 f1 f2 f3 t0 t1 t2 t3 ++ p.body ++ l).take 20 = head4 a b c d x y f0 f1 f2 f3 t0 t1 t2 t3 := rfl
  have hb : ((head4 a b c d x y f0 f1 f2 f3 t0 t1 t2 t3 ++ p.body ++ l).take (w16 a b).toNat).drop 20 = p.body := take_body (head4 a b c d x y f0 f1 f2 f3 t0 t1 t2 t3) p.body l _ (by rw [e5]; simp only [head4, List.length_cons, List.length_nil]; omega)
  generalize hL : head4 a b c d x y f0 f1 f2 f3 t0 t1 t2 t3 ++ p.body ++ l = L at *
  have g : ∀ i, i < 20 → L.getD i 0 = (head4 a b c d x y f0 f1 f2 f3 t0 t1 t2 t3).getD i 0 := fun i hi => by rw [← ht, Ae.getD_take _ _ _ _ hi]
  have g0 : L.getD 0 0 = 69 := g 0 (by omega)
  have g2 : L.getD 2 0 = a := g 2 (by omega)
  have g3 : L.getD 3 0 = b := g 3 (by omega)
  have g6 : L.getD 6 0 = 64 := g 6 (by omega)
  have g7 : L.getD 7 0 = 0 := g 7 (by omega)
  have g8 : L.getD 8 0 = c := g 8 (by omega)
  have g9 : L.getD 9 0 = d := g 9 (by omega)
  have h16 : L.take 16 = (head4 a b c d x y f0 f1 f2 f3 t0 t1 t2 t3).take 16 := by rw [← ht, List.take_take]; rfl
  unfold ipDecode ipDec4
  rw [g0, g2, g3, g6, g7, g8, g9, ht, h16, hb, e4]
  rw [if_neg (by omega), if_pos (by decide), if_neg (by omega), if_neg (by decide), if_neg (by omega), if_neg (by simp), if_neg (by decide)]
  obtain ⟨s, dd, pr, tt, bb⟩ := p
  simp only at e1 e2 e6 e7
  subst e1 e2 e6 e7
  rfl

theorem bytes6_form {p : Ip} (h : ipOk p = true) (h6 : p.src.length = 16) : ∃ a b c d, ipBytes p = ([96, 0, 0, 0, a, b, c, d] ++ p.src ++ p.dst) ++ p.body ∧ p.dst.length = 16 ∧ w16 a b = (p.body.length : Int) ∧ (c.toNat : Int) = p.proto ∧ (d.toNat : Int) = p.ttl ∧ p.body.length ≤ 1460 := by
  rw [ipOk_iff] at h
  obtain ⟨hs, hd, h1, h2, h3, h5⟩ := h
  refine ⟨b8 ((p.body.length : Int) / 256), b8 (p.body.length : Int), b8 p.proto, b8 p.ttl, ?_, by omega, ?_, ?_, ?_, by omega⟩
  · unfold ipBytes
    rw [if_pos h6]; rfl
  · unfold w16; rw [b8_toNat, b8_toNat]; omega
  · rw [b8_toNat]; omega
  · rw [b8_toNat]; omega
theorem dec_bytes6 {p : Ip} (h : ipOk p = true) (h6 : p.src.length = 16) (l : List UInt8) : ipDecode (ipBytes p ++ l) = (p, 0) := by
  obtain ⟨a, b, c, d, e3, e2, e5, e6, e7, e8⟩ := bytes6_form h h6
  rw [e3]
  have hlen : ([96, 0, 0, 0, a, b, c, d] ++ p.src ++ p.dst ++ p.body ++ l).length = 40 + p.body.length + l.length := by simp; omega
  have hA : ([96, 0, 0, 0, a, b, c, d] ++ p.src ++ p.dst).length = 40 := by simp; omega
  have hb : (([96, 0, 0, 0, a, b, c, d] ++ p.src ++ p.dst ++ p.body ++ l).take (40 + w16 a b).toNat).drop 40 = p.body := by
    have := take_body ([96, 0, 0, 0, a, b, c, d] ++ p.src ++ p.dst) p.body l (40 + w16 a b).toNat (by rw [hA]; omega)
    rwa [hA] at this
  have ht : ([96, 0, 0, 0, a, b, c, d] ++ p.src ++ p.dst ++ p.body ++ l).take 40 = [96, 0, 0, 0, a, b, c, d] ++ p.src ++ p.dst := by
    rw [List.append_assoc, List.take_append_of_le_length (by omega), List.take_of_length_le (by omega)]
  generalize hL : [96, 0, 0, 0, a, b, c, d] ++ p.src ++ p.dst ++ p.body ++ l = L at *
  have g : ∀ i, i < 8 → L.getD i 0 = [96, 0, 0, 0, a, b, c, d].getD i 0 := fun i hi => by
    rw [← Ae.getD_take L 40 i 0 (by omega), ht, List.append_assoc, List.getD_eq_getElem?_getD, List.getElem?_append_left (by simpa using hi), ← List.getD_eq_getElem?_getD]
  have g0 : L.getD 0 0 = 96 := g 0 (by omega)
  have g4 : L.getD 4 0 = a := g 4 (by omega)
  have g5 : L.getD 5 0 = b := g 5 (by omega)
  have g6 : L.getD 6 0 = c := g 6 (by omega)
  have g7 : L.getD 7 0 = d := g 7 (by omega)
  have h24 : (L.take 24).drop 8 = p.src := by
    have : L.take 24 = (L.take 40).take 24 := by rw [List.take_take]; rfl
    rw [this, ht]
    exact take_body [96, 0, 0, 0, a, b, c, d] p.src p.dst 24 (by simp; omega)
  have h40 : (L.take 40).drop 24 = p.dst := by
    rw [ht, List.drop_append_of_le_length (by simp; omega), List.drop_of_length_le (by simp; omega)]; rfl
  unfold ipDecode ipDec6
  rw [g0, g4, g5, g6, g7, h24, h40, hb]
  rw [if_neg (by omega), if_neg (by decide), if_pos (by decide), if_neg (by omega), if_neg (by omega)]
  obtain ⟨s, dd, pr, tt, bb⟩ := p
  simp only at e6 e7
  subst e6 e7
  rfl
theorem dec_enc {p : Ip} (h : ipOk p = true) (l : List UInt8) : ipDecode (ipBytes p ++ l) = (p, 0) := by
  by_cases h6 : p.src.length = 16
  · exact dec_bytes6 h h6 l
  · exact dec_bytes4 h h6 l

/-- what is cut is none -/
theorem dec_cut {p : Ip} (h : ipOk p = true) (n : Nat) (hn : n < (ipBytes p).length) : ∃ e, ipDecode ((ipBytes p).take n) = (noIp, e) ∧ (e = 30 ∨ e = 33) := by
  have hl : ((ipBytes p).take n).length = n := by simp; omega
  have gt : ∀ i, i < n → ((ipBytes p).take n).getD i 0 = (ipBytes p).getD i 0 := fun i hi => Ae.getD_take _ _ _ _ hi
  by_cases h0 : n = 0
  · exact ⟨30, by unfold ipDecode; rw [if_pos (by omega)], .inl rfl⟩
  by_cases h6 : p.src.length = 16
  · obtain ⟨a, b, c, d, e3, e2, e5, e6, e7, e8⟩ := bytes6_form h h6
    have hl6 : (ipBytes p).length = 40 + p.body.length := by rw [e3]; simp; omega
    have g : ∀ i, i < 8 → (ipBytes p).getD i 0 = [96, 0, 0, 0, a, b, c, d].getD i 0 := fun i hi => by
      rw [e3, List.append_assoc, List.append_assoc, List.getD_eq_getElem?_getD, List.getElem?_append_left (by simpa using hi), ← List.getD_eq_getElem?_getD]
    have g0 : ((ipBytes p).take n).getD 0 0 = 96 := (gt 0 (by omega)).trans (g 0 (by omega))
    unfold ipDecode ipDec6
    rw [if_neg (by omega), g0, if_neg (by decide), if_pos (by decide)]
    by_cases h40 : n < 40
    · exact ⟨30, by rw [if_pos (by omega)], .inl rfl⟩
    · have g4 := (gt 4 (by omega)).trans (g 4 (by omega))
      have g5 := (gt 5 (by omega)).trans (g 5 (by omega))
      rw [g4, g5]
      refine ⟨33, ?_, .inr rfl⟩
      rw [if_neg (by omega), if_pos (by show (((ipBytes p).take n).length : Int) < 40 + w16 a b; omega)]
  · obtain ⟨a, b, c, d, x, y, f0, f1, f2, f3, t0, t1, t2, t3, e1, e2, e3, e4, e5, e6, e7, e8⟩ := bytes4_form h h6
    have hl4 : (ipBytes p).length = 20 + p.body.length := by rw [e3]; simp [head4]; omega
    have g : ∀ i, i < 20 → (ipBytes p).getD i 0 = (head4 a b c d x y f0 f1 f2 f3 t0 t1 t2 t3).getD i 0 := fun i hi => by
      rw [e3, List.getD_eq_getElem?_getD, List.getElem?_append_left (by simpa [head4] using hi), ← List.getD_eq_getElem?_getD]
    have g0 : ((ipBytes p).take n).getD 0 0 = 69 := (gt 0 (by omega)).trans (g 0 (by omega))
    unfold ipDecode ipDec4
    rw [if_neg (by omega), g0, if_pos (by decide)]
    by_cases h20 : n < 20
    · exact ⟨30, by rw [if_pos (by omega)], .inl rfl⟩
    · have g2 := (gt 2 (by omega)).trans (g 2 (by omega))
      have g3 := (gt 3 (by omega)).trans (g 3 (by omega))
      rw [g2, g3]
      refine ⟨33, ?_, .inr rfl⟩
      rw [if_neg (by omega), if_neg (by decide), if_pos (by show w16 a b < 20 ∨ (((ipBytes p).take n).length : Int) < w16 a b; omega)]
theorem enc_len {p : Ip} (h : ipOk p = true) : (ipBytes p).length ≤ 1500 := by
  by_cases h6 : p.src.length = 16
  · obtain ⟨a, b, c, d, e3, e2, e5, e6, e7, e8⟩ := bytes6_form h h6
    rw [e3]; simp; omega
  · obtain ⟨a, b, c, d, x, y, f0, f1, f2, f3, t0, t1, t2, t3, e1, e2, e3, e4, e5, e6, e7, e8⟩ := bytes4_form h h6
    rw [e3]; simp [head4]; omega
theorem enc_sum {p : Ip} (h : ipOk p = true) (h4 : p.src.length ≠ 16) : 20 ≤ (ipBytes p).length ∧ sumB ((ipBytes p).take 20) = 65535 := by
  obtain ⟨a, b, c, d, x, y, f0, f1, f2, f3, t0, t1, t2, t3, e1, e2, e3, e4, e5, e6, e7, e8⟩ := bytes4_form h h4
  rw [e3]
  exact ⟨by simp [head4], e4⟩
theorem dec_sum {l : List UInt8} (h : (ipDecode l).2 = 0) : (ipDecode l).1.src.length = 16 ∨ (20 ≤ l.length ∧ sumB (l.take 20) = 65535 ∧ (ipDecode l).1.src.length = (ipDecode l).1.dst.length) := by
  unfold ipDecode ipDec4 ipDec6 at *
  repeat' split at h
  all_goals first
    | (simp at h; done)
    | skip
  · right
    rename_i h1 h2 h3 h4 h5 h6 h7
    rw [if_neg h1, if_pos h2, if_neg h3, if_neg h4, if_neg h5, if_neg h6, if_neg h7]
    refine ⟨by omega, by omega, ?_⟩
    simp; omega
  · left
    rename_i h1 h2 h3 h4 h5
    rw [if_neg h1, if_neg h2, if_pos h3, if_neg h4, if_neg h5]
    simp; omega

/-! ### a byte that is another one -/
theorem raw_set (y : UInt8) : ∀ (l : List UInt8) (h : Bool) (k : Nat), k < l.length → raw h (l.set k y) + (if side h k then 256 else 1) * (l.getD k 0).toNat = raw h l + (if side h k then 256 else 1) * y.toNat
  | [], h, k, hk => by simp at hk
  | x :: t, h, 0, _ => by
    rw [List.set_cons_zero, raw_cons, raw_cons, side_zero]
    simp only [List.getD_cons_zero]
    cases h <;> simp <;> omega
  | x :: t, h, k + 1, hk => by
    have ih := raw_set y t (!h) k (by simpa using hk)
    rw [List.set_cons_succ, raw_cons, raw_cons, side_succ]
    rw [side_not] at ih
    simp only [List.getD_cons_succ]
    omega
theorem sum_good {l : List UInt8} : sumB l = 65535 ↔ 0 < raw true l ∧ raw true l % 65535 = 0 := by
  unfold sumB fld
  split
  · rename_i h; constructor
    · intro h'; omega
    · rintro ⟨h1, _⟩; omega
  · rename_i h; constructor
    · intro h'; omega
    · rintro ⟨h1, h2⟩; omega
theorem sum_turned {l : List UInt8} {k : Nat} {y : UInt8} (hk : k < l.length) (hy : y ≠ l.getD k 0) (h : sumB l = 65535) : sumB (l.set k y) ≠ 65535 := by
  intro h'
  rw [sum_good] at h h'
  have e := raw_set y l true k hk
  have hx := (l.getD k 0).toNat_lt
  have hy' := y.toNat_lt
  have hne : y.toNat ≠ (l.getD k 0).toNat := fun e => hy (UInt8.toNat_inj.1 e)
  generalize raw true (l.set k y) = A at *
  generalize raw true l = B at *
  generalize (l.getD k 0).toNat = u at *
  generalize y.toNat = v at *
  by_cases hs : side true k = true
  · rw [if_pos hs] at e
    omega
  · rw [if_neg hs] at e
    omega
theorem xor_ne {x z : UInt8} (hz : z ≠ 0) : x ^^^ z ≠ x := fun e => hz (by
  have : x ^^^ (x ^^^ z) = x ^^^ x := by rw [e]
  rwa [← UInt8.xor_assoc, UInt8.xor_self, UInt8.zero_xor] at this)
theorem b8_ne {m : Int} (h : 1 ≤ m ∧ m ≤ 255) : b8 m ≠ 0 := fun e => by
  have := b8_toNat m
  rw [e] at this
  have z : ((0 : UInt8).toNat : Int) = 0 := rfl
  omega
theorem dec_turned {p : Ip} (h : ipOk p = true) (h4 : p.src.length ≠ 16) (k : Nat) (hk : 1 ≤ k ∧ k ≤ 19) (z : UInt8) (hz : z ≠ 0) :
    (ipDecode ((ipBytes p).set k ((ipBytes p).getD k 0 ^^^ z))).1 = noIp ∧ (ipDecode ((ipBytes p).set k ((ipBytes p).getD k 0 ^^^ z))).2 ≠ 0 := by
  obtain ⟨g1, g2⟩ := enc_sum h h4
  have h0 : (ipBytes p).getD 0 0 = 69 := by
    obtain ⟨a, b, c, d, x, y, f0, f1, f2, f3, t0, t1, t2, t3, e1, e2, e3, _⟩ := bytes4_form h h4
    rw [e3]; rfl
  generalize ipBytes p = l at *
  have hs : sumB ((l.set k (l.getD k 0 ^^^ z)).take 20) ≠ 65535 := by
    rw [List.take_set]
    have e : l.getD k 0 = (l.take 20).getD k 0 := (Ae.getD_take _ _ _ _ (by omega)).symm
    rw [e]
    exact sum_turned (by simp; omega) (xor_ne hz) g2
  have hl : (l.set k (l.getD k 0 ^^^ z)).length = l.length := by simp
  have h0' : (l.set k (l.getD k 0 ^^^ z)).getD 0 0 = 69 := by
    rw [← h0, List.getD_eq_getElem?_getD, List.getElem?_set_ne (by omega), ← List.getD_eq_getElem?_getD]
  generalize l.set k (l.getD k 0 ^^^ z) = L at *
  unfold ipDecode ipDec4
  rw [h0', if_neg (by omega), if_pos (by decide), if_neg (by omega), if_neg (by decide)]
  split
  · exact ⟨rfl, by simp⟩
  · simp [hs]
theorem pseudo_len {src dst : List UInt8} {proto long : Int} {l : List UInt8} (h : pseudo src dst proto long = some l) : l.length ≤ 40 ∧ l.length % 2 = 0 := by
  unfold pseudo at h
  split at h
  · rename_i h1
    cases h
    unfold pseudoB
    split <;> simp <;> omega
  · cases h
theorem ipEnc_some {p : Ip} {x : List UInt8} (h : ipEncode p = some x) : ipOk p = true := by
  unfold ipEncode at h
  split at h
  · assumption
  · cases h
theorem ipEnc_none {p : Ip} (h : ipEncode p = none) : ipOk p = false := by
  unfold ipEncode at h
  split at h
  · cases h
  · rename_i h1; exact Bool.eq_false_iff.2 h1
end Go.Proofs.Ytnbbaemijogeoaa
