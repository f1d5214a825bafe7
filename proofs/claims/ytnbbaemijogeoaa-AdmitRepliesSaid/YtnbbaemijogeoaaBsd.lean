/- Chapter 3: plain laws. No program in sight. What chapter 2's functions compute. No program in sight. Conditions that are known: the text shrinks ahead of the walk. Chapter 2's functions as a table. What chapter 5's functions compute. No program in sight. What chapter 4's functions compute. No program in sight. Chapter 4's functions as a table. A law's arguments, of any shape, as the evaluator's values. No program in sight. A law's arguments as things of any type: slices of strings, of structs. No program in sight. Rows by way of other arguments and results that say as much. No program in sight. Chapter 20's law: configurations; the program's own of one. Chapter 20's law: that the program is alive; ports. Chapter 20's arguments: configurations. Plain laws of chapter 5. No program in sight. What chapter 6's functions compute. No program in sight. Chapter 6's functions as a table: what writes. advert.addrs: what goes through the addresses of a body has its contract. A heap of which one says less: blocks under other numbers, blocks that are only read from now on, nil as a row of none. No program in sight. Blocks that are only read from now on; operations in any frame; worlds that have grown elsewhere. No program in sight. advert.Decode: up to the loop over the body's addresses. -/
import Derived.Test.YtnbbaemijogeoaaBsc
import Derived.RangeFuncFrom
import Derived.OwnWalkIn
import Derived.TacticsInMore
import Derived.LoopNIn
import Derived.LoopIn
set_option linter.unusedSimpArgs false
set_option linter.unusedVariables false
namespace Go.Proofs.Ytnbbaemijogeoaa
open Ae (b8 b8_toNat b8_byte b8_toNatN)

theorem list4 {α : Type} {l : List α} (h : l.length = 4) : ∃ a b c d, l = [a, b, c, d] := by
  match l, h with
  | [a, b, c, d], _ => exact ⟨a, b, c, d, rfl⟩
theorem list16 {α : Type} {l : List α} (h : l.length = 16) : ∃ a b c d e f g i j k m n o p q r, l = [a, b, c, d, e, f, g, i, j, k, m, n, o, p, q, r] := by
  match l, h with
  | [a, b, c, d, e, f, g, i, j, k, m, n, o, p, q, r], _ => exact ⟨a, b, c, d, e, f, g, i, j, k, m, n, o, p, q, r, rfl⟩

def head4 (a b c d x y f0 f1 f2 f3 t0 t1 t2 t3 : UInt8) : List UInt8 := [69, 0, a, b, 0, 0, 64, 0, c, d, x, y, f0, f1, f2, f3, t0, t1, t2, t3]
theorem b8_bound (n : Int) : 0 ≤ n % 256 ∧ n % 256 < 256 := by omega

theorem head4_sum (a b c d x y f0 f1 f2 f3 t0 t1 t2 t3 : UInt8) (hx : (x.toNat : Int) * 256 + (y.toNat : Int) = 65535 - sumB (head4 a b c d 0 0 f0 f1 f2 f3 t0 t1 t2 t3)) :
    sumB (head4 a b c d x y f0 f1 f2 f3 t0 t1 t2 t3) = 65535 := by
  have e : ∀ u v : UInt8, raw true (head4 a b c d u v f0 f1 f2 f3 t0 t1 t2 t3) = raw true [69, 0, a, b, 0, 0, 64, 0, c, d] + (u.toNat * 256 + (v.toNat + raw true [f0, f1, f2, f3, t0, t1, t2, t3])) := fun u v => by
    rw [show head4 a b c d u v f0 f1 f2 f3 t0 t1 t2 t3 = [69, 0, a, b, 0, 0, 64, 0, c, d] ++ (u :: v :: [f0, f1, f2, f3, t0, t1, t2, t3]) from rfl, raw_append]
    rw [show side true [69, 0, a, b, 0, 0, 64, 0, c, d].length = true by simp [side], raw_cons true u, raw_cons _ v]
    simp only [if_true, Bool.not_true, Bool.not_false, Bool.false_eq_true, if_false]
  have hp : 0 < raw true [69, 0, a, b, 0, 0, 64, 0, c, d] := by
    have : raw true [69, 0, a, b, 0, 0, 64, 0, c, d] = 17664 + raw false [0, a, b, 0, 0, 64, 0, c, d] := by rw [raw_cons true 69]; rfl
    omega
  unfold sumB at *
  rw [e] at hx ⊢
  generalize raw true [69, 0, a, b, 0, 0, 64, 0, c, d] = A at *
  generalize raw true [f0, f1, f2, f3, t0, t1, t2, t3] = B at *
  have z : (0 : UInt8).toNat = 0 := rfl
  rw [z] at hx
  generalize x.toNat = u at *
  generalize y.toNat = v at *
  clear e z
  unfold fld at *
  rw [if_neg (by omega)] at hx
  rw [if_neg (by omega)]
  omega

theorem bytes4_form {p : Ip} (h : ipOk p = true) (h4 : p.src.length ≠ 16) : ∃ a b c d x y f0 f1 f2 f3 t0 t1 t2 t3, p.src = [f0, f1, f2, f3] ∧ p.dst = [t0, t1, t2, t3] ∧ ipBytes p = head4 a b c d x y f0 f1 f2 f3 t0 t1 t2 t3 ++ p.body ∧
    sumB (head4 a b c d x y f0 f1 f2 f3 t0 t1 t2 t3) = 65535 ∧ w16 a b = 20 + (p.body.length : Int) ∧ (c.toNat : Int) = p.ttl ∧ (d.toNat : Int) = p.proto ∧ p.body.length ≤ 1480 := by
  rw [ipOk_iff] at h
  obtain ⟨hs, hd, h1, h2, h3, h5⟩ := h
  have hs4 : p.src.length = 4 ∧ p.body.length ≤ 1480 := by omega
  obtain ⟨f0, f1, f2, f3, ef⟩ := list4 hs4.1
  obtain ⟨t0, t1, t2, t3, et⟩ := list4 (show p.dst.length = 4 by omega)
  have eh : ipHead4 p = head4 (b8 ((20 + (p.body.length : Int)) / 256)) (b8 (20 + (p.body.length : Int))) (b8 p.ttl) (b8 p.proto) 0 0 f0 f1 f2 f3 t0 t1 t2 t3 := by
    unfold ipHead4 head4; rw [ef, et]; rfl
  refine ⟨b8 ((20 + (p.body.length : Int)) / 256), b8 (20 + (p.body.length : Int)), b8 p.ttl, b8 p.proto, b8 (ipSum4 p / 256), b8 (ipSum4 p), f0, f1, f2, f3, t0, t1, t2, t3, ef, et, ?_, ?_, ?_, ?_, ?_, hs4.2⟩
  · unfold ipBytes
    rw [if_neg h4]
    unfold ipBytes4
    rw [eh]; rfl
  · refine head4_sum _ _ _ _ _ _ _ _ _ _ _ _ _ _ ?_
    rw [b8_toNat, b8_toNat, ← eh]
    have := sumB_bd (ipHead4 p)
    unfold ipSum4
    omega
  · unfold w16; rw [b8_toNat, b8_toNat]; omega
  · rw [b8_toNat]; omega
  · rw [b8_toNat]; omega

theorem take_body (A B C : List UInt8) (n : Nat) (h : n = A.length + B.length) : ((A ++ B ++ C).take n).drop A.length = B := by
  subst h
  rw [List.take_append_of_le_length (by simp), List.take_of_length_le (by simp)]
  simp

theorem dec_bytes4 {p : Ip} (h : ipOk p = true) (h4 : p.src.length ≠ 16) (l : List UInt8) : ipDecode (ipBytes p ++ l) = (p, 0) := by
  obtain ⟨a, b, c, d, x, y, f0, f1, f2, f3, t0, t1, t2, t3, e1, e2, e3, e4, e5, e6, e7, e8⟩ := bytes4_form h h4
  rw [e3]
  have hlen : (head4 a b c d x y f0 f1 f2 f3 t0 t1 t2 t3 ++ p.body ++ l).length = 20 + p.body.length + l.length := by simp [head4]; omega
  have ht : (head4 a b c d x y f0 f1 f2 f3 t0 t1 t2 t3 ++ p.body ++ l).take 20 = head4 a b c d x y f0 f1 f2 f3 t0 t1 t2 t3 := rfl
  have hb : ((head4 a b c d x y f0 f1 f2 f3 t0 t1 t2 t3 ++ p.body ++ l).take (w16 a b).toNat).drop 20 = p.body := take_body (head4 a b c d x y f0 f1 f2 f3 t0 t1 t2 t3) p.body l _ (by rw [e5]; simp only [head4, List.length_cons, List.length_nil]; omega)
  generalize hL : head4 a b c d x y f0 f1 f2 f3 t0 t1 t2 t3 ++ p.body ++ l = L at *
  have g : ∀ i, i < 20 → L.getD i 0 = (head4 a b c d x y f0 f1 f2 f3 t0 t1 t2 t3).getD i 0 := fun i hi => by rw [← ht, Ae.getD_take _ _ _ _ hi]
  have g0 : L.getD 0 0 = 69 := g 0 (by omega)
  have g2 : L.getD 2 0 = a := g 2 (by omega)
  have g3 : L.getD 3 0 = b := g 3 (by omega)
  have g6 : L.getD 6 0 = 64 := g 6 (by omega)
  have g7 : L.getD 7 0 = 0 := g 7 (by omega)
  have g8 : L.getD 8 0 = c := g 8 (by omega)
  have g9 : L.getD 9 0 = d := g 9 (by omega)
  have h16 : L.take 16 = (head4 a b c d x y f0 f1 f2 f3 t0 t1 t2 t3).take 16 := by rw [← ht, List.take_take]; rfl
  unfold ipDecode ipDec4
  rw [g0, g2, g3, g6, g7, g8, g9, ht, h16, hb, e4]
  rw [if_neg (by omega), if_pos (by decide), if_neg (by omega), if_neg (by decide), if_neg (by omega), if_neg (by simp), if_neg (by decide)]
  obtain ⟨s, dd, pr, tt, bb⟩ := p
  simp only at e1 e2 e6 e7
  subst e1 e2 e6 e7
  rfl

theorem bytes6_form {p : Ip} (h : ipOk p = true) (h6 : p.src.length = 16) : ∃ a b c d, ipBytes p = ([96, 0, 0, 0, a, b, c, d] ++ p.src ++ p.dst) ++ p.body ∧ p.dst.length = 16 ∧ w16 a b = (p.body.length : Int) ∧ (c.toNat : Int) = p.proto ∧ (d.toNat : Int) = p.ttl ∧ p.body.length ≤ 1460 := by
  rw [ipOk_iff] at h
  obtain ⟨hs, hd, h1, h2, h3, h5⟩ := h
  refine ⟨b8 ((p.body.length : Int) / 256), b8 (p.body.length : Int), b8 p.proto, b8 p.ttl, ?_, by omega, ?_, ?_, ?_, by omega⟩
  · unfold ipBytes
    rw [if_pos h6]; rfl
  · unfold w16; rw [b8_toNat, b8_toNat]; omega
  · rw [b8_toNat]; omega
  · rw [b8_toNat]; omega
theorem dec_bytes6 {p : Ip} (h : ipOk p = true) (h6 : p.src.length = 16) (l : List UInt8) : ipDecode (ipBytes p ++ l) = (p, 0) := by
  obtain ⟨a, b, c, d, e3, e2, e5, e6, e7, e8⟩ := bytes6_form h h6
  rw [e3]
  have hlen : ([96, 0, 0, 0, a, b, c, d] ++ p.src ++ p.dst ++ p.body ++ l).length = 40 + p.body.length + l.length := by simp; omega
  have hA : ([96, 0, 0, 0, a, b, c, d] ++ p.src ++ p.dst).length = 40 := by simp; omega
  have hb : (([96, 0, 0, 0, a, b, c, d] ++ p.src ++ p.dst ++ p.body ++ l).take (40 + w16 a b).toNat).drop 40 = p.body := by
    have := take_body ([96, 0, 0, 0, a, b, c, d] ++ p.src ++ p.dst) p.body l (40 + w16 a b).toNat (by rw [hA]; omega)
    rwa [hA] at this
  have ht : ([96, 0, 0, 0, a, b, c, d] ++ p.src ++ p.dst ++ p.body ++ l).take 40 = [96, 0, 0, 0, a, b, c, d] ++ p.src ++ p.dst := by
    rw [List.append_assoc, List.take_append_of_le_length (by omega), List.take_of_length_le (by omega)]
  generalize hL : [96, 0, 0, 0, a, b, c, d] ++ p.src ++ p.dst ++ p.body ++ l = L at *
  have g : ∀ i, i < 8 → L.getD i 0 = [96, 0, 0, 0, a, b, c, d].getD i 0 := fun i hi => by
    rw [← Ae.getD_take L 40 i 0 (by omega), ht, List.append_assoc, List.getD_eq_getElem?_getD, List.getElem?_append_left (by simpa using hi), ← List.getD_eq_getElem?_getD]
  have g0 : L.getD 0 0 = 96 := g 0 (by omega)
  have g4 : L.getD 4 0 = a := g 4 (by omega)
  have g5 : L.getD 5 0 = b := g 5 (by omega)
  have g6 : L.getD 6 0 = c := g 6 (by omega)
  have g7 : L.getD 7 0 = d := g 7 (by omega)
  have h24 : (L.take 24).drop 8 = p.src := by
    have : L.take 24 = (L.take 40).take 24 := by rw [List.take_take]; rfl
    rw [this, ht]
    exact take_body [96, 0, 0, 0, a, b, c, d] p.src p.dst 24 (by simp; omega)
  have h40 : (L.take 40).drop 24 = p.dst := by
    rw [ht, List.drop_append_of_le_length (by simp; omega), List.drop_of_length_le (by simp; omega)]; rfl
  unfold ipDecode ipDec6
  rw [g0, g4, g5, g6, g7, h24, h40, hb]
  rw [if_neg (by omega), if_neg (by decide), if_pos (by decide), if_neg (by omega), if_neg (by omega)]
  obtain ⟨s, dd, pr, tt, bb⟩ := p
  simp only at e6 e7
  subst e6 e7
  rfl
theorem dec_enc {p : Ip} (h : ipOk p = true) (l : List UInt8) : ipDecode (ipBytes p ++ l) = (p, 0) := by
  by_cases h6 : p.src.length = 16
  · exact dec_bytes6 h h6 l
  · exact dec_bytes4 h h6 l

/-- what is cut is none -/
theorem dec_cut {p : Ip} (h : ipOk p = true) (n : Nat) (hn : n < (ipBytes p).length) : ∃ e, ipDecode ((ipBytes p).take n) = (noIp, e) ∧ (e = 30 ∨ e = 33) := by
  have hl : ((ipBytes p).take n).length = n := by simp; omega
  have gt : ∀ i, i < n → ((ipBytes p).take n).getD i 0 = (ipBytes p).getD i 0 := fun i hi => Ae.getD_take _ _ _ _ hi
  by_cases h0 : n = 0
  · exact ⟨30, by unfold ipDecode; rw [if_pos (by omega)], .inl rfl⟩
  by_cases h6 : p.src.length = 16
  · obtain ⟨a, b, c, d, e3, e2, e5, e6, e7, e8⟩ := bytes6_form h h6
    have hl6 : (ipBytes p).length = 40 + p.body.length := by rw [e3]; simp; omega
    have g : ∀ i, i < 8 → (ipBytes p).getD i 0 = [96, 0, 0, 0, a, b, c, d].getD i 0 := fun i hi => by
      rw [e3, List.append_assoc, List.append_assoc, List.getD_eq_getElem?_getD, List.getElem?_append_left (by simpa using hi), ← List.getD_eq_getElem?_getD]
    have g0 : ((ipBytes p).take n).getD 0 0 = 96 := (gt 0 (by omega)).trans (g 0 (by omega))
    unfold ipDecode ipDec6
    rw [if_neg (by omega), g0, if_neg (by decide), if_pos (by decide)]
    by_cases h40 : n < 40
    · exact ⟨30, by rw [if_pos (by omega)], .inl rfl⟩
    · have g4 := (gt 4 (by omega)).trans (g 4 (by omega))
      have g5 := (gt 5 (by omega)).trans (g 5 (by omega))
      rw [g4, g5]
      refine ⟨33, ?_, .inr rfl⟩
      rw [if_neg (by omega), if_pos (by show (((ipBytes p).take n).length : Int) < 40 + w16 a b; omega)]
  · obtain ⟨a, b, c, d, x, y, f0, f1, f2, f3, t0, t1, t2, t3, e1, e2, e3, e4, e5, e6, e7, e8⟩ := bytes4_form h h6
    have hl4 : (ipBytes p).length = 20 + p.body.length := by rw [e3]; simp [head4]; omega
    have g : ∀ i, i < 20 → (ipBytes p).getD i 0 = (head4 a b c d x y f0 f1 f2 f3 t0 t1 t2 t3).getD i 0 := fun i hi => by
      rw [e3, List.getD_eq_getElem?_getD, List.getElem?_append_left (by simpa [head4] using hi), ← List.getD_eq_getElem?_getD]
    have g0 : ((ipBytes p).take n).getD 0 0 = 69 := (gt 0 (by omega)).trans (g 0 (by omega))
    unfold ipDecode ipDec4
    rw [if_neg (by omega), g0, if_pos (by decide)]
    by_cases h20 : n < 20
    · exact ⟨30, by rw [if_pos (by omega)], .inl rfl⟩
    · have g2 := (gt 2 (by omega)).trans (g 2 (by omega))
      have g3 := (gt 3 (by omega)).trans (g 3 (by omega))
      rw [g2, g3]
      refine ⟨33, ?_, .inr rfl⟩
      rw [if_neg (by omega), if_neg (by decide), if_pos (by show w16 a b < 20 ∨ (((ipBytes p).take n).length : Int) < w16 a b; omega)]
theorem enc_len {p : Ip} (h : ipOk p = true) : (ipBytes p).length ≤ 1500 := by
  by_cases h6 : p.src.length = 16
  · obtain ⟨a, b, c, d, e3, e2, e5, e6, e7, e8⟩ := bytes6_form h h6
    rw [e3]; simp; omega
  · obtain ⟨a, b, c, d, x, y, f0, f1, f2, f3, t0, t1, t2, t3, e1, e2, e3, e4, e5, e6, e7, e8⟩ := bytes4_form h h6
    rw [e3]; simp [head4]; omega
theorem enc_sum {p : Ip} (h : ipOk p = true) (h4 : p.src.length ≠ 16) : 20 ≤ (ipBytes p).length ∧ sumB ((ipBytes p).take 20) = 65535 := by
  obtain ⟨a, b, c, d, x, y, f0, f1, f2, f3, t0, t1, t2, t3, e1, e2, e3, e4, e5, e6, e7, e8⟩ := bytes4_form h h4
  rw [e3]
  exact ⟨by simp [head4], e4⟩
theorem dec_sum {l : List UInt8} (h : (ipDecode l).2 = 0) : (ipDecode l).1.src.length = 16 ∨ (20 ≤ l.length ∧ sumB (l.take 20) = 65535 ∧ (ipDecode l).1.src.length = (ipDecode l).1.dst.length) := by
  unfold ipDecode ipDec4 ipDec6 at *
  repeat' split at h
  all_goals first
    | (simp at h; done)
    | skip
  · right
    rename_i h1 h2 h3 h4 h5 h6 h7
    rw [if_neg h1, if_pos h2, if_neg h3, if_neg h4, if_neg h5, if_neg h6, if_neg h7]
    refine ⟨by omega, by omega, ?_⟩
    simp; omega
  · left
    rename_i h1 h2 h3 h4 h5
    rw [if_neg h1, if_neg h2, if_pos h3, if_neg h4, if_neg h5]
    simp; omega

/-! ### a byte that is another one -/
theorem raw_set (y : UInt8) : ∀ (l : List UInt8) (h : Bool) (k : Nat), k < l.length → raw h (l.set k y) + (if side h k then 256 else 1) * (l.getD k 0).toNat = raw h l + (if side h k then 256 else 1) * y.toNat
  | [], h, k, hk => by simp at hk
  | x :: t, h, 0, _ => by
    rw [List.set_cons_zero, raw_cons, raw_cons, side_zero]
    simp only [List.getD_cons_zero]
    cases h <;> simp <;> omega
  | x :: t, h, k + 1, hk => by
    have ih := raw_set y t (!h) k (by simpa using hk)
    rw [List.set_cons_succ, raw_cons, raw_cons, side_succ]
    rw [side_not] at ih
    simp only [List.getD_cons_succ]
    omega
theorem sum_good {l : List UInt8} : sumB l = 65535 ↔ 0 < raw true l ∧ raw true l % 65535 = 0 := by
  unfold sumB fld
  split
  · rename_i h; constructor
    · intro h'; omega
    · rintro ⟨h1, _⟩; omega
  · rename_i h; constructor
    · intro h'; omega
    · rintro ⟨h1, h2⟩; omega
theorem sum_turned {l : List UInt8} {k : Nat} {y : UInt8} (hk : k < l.length) (hy : y ≠ l.getD k 0) (h : sumB l = 65535) : sumB (l.set k y) ≠ 65535 := by
  intro h'
  rw [sum_good] at h h'
  have e := raw_set y l true k hk
  have hx := (l.getD k 0).toNat_lt
  have hy' := y.toNat_lt
  have hne : y.toNat ≠ (l.getD k 0).toNat := fun e => hy (UInt8.toNat_inj.1 e)
  generalize raw true (l.set k y) = A at *
  generalize raw true l = B at *
  generalize (l.getD k 0).toNat = u at *
  generalize y.toNat = v at *
  by_cases hs : side true k = true
  · rw [if_pos hs] at e
    omega
  · rw [if_neg hs] at e
    omega
theorem xor_ne {x z : UInt8} (hz : z ≠ 0) : x ^^^ z ≠ x := fun e => hz (by
  have : x ^^^ (x ^^^ z) = x ^^^ x := by rw [e]
  rwa [← UInt8.xor_assoc, UInt8.xor_self, UInt8.zero_xor] at this)
theorem b8_ne {m : Int} (h : 1 ≤ m ∧ m ≤ 255) : b8 m ≠ 0 := fun e => by
  have := b8_toNat m
  rw [e] at this
  have z : ((0 : UInt8).toNat : Int) = 0 := rfl
  omega
theorem dec_turned {p : Ip} (h : ipOk p = true) (h4 : p.src.length ≠ 16) (k : Nat) (hk : 1 ≤ k ∧ k ≤ 19) (z : UInt8) (hz : z ≠ 0) :
    (ipDecode ((ipBytes p).set k ((ipBytes p).getD k 0 ^^^ z))).1 = noIp ∧ (ipDecode ((ipBytes p).set k ((ipBytes p).getD k 0 ^^^ z))).2 ≠ 0 := by
  obtain ⟨g1, g2⟩ := enc_sum h h4
  have h0 : (ipBytes p).getD 0 0 = 69 := by
    obtain ⟨a, b, c, d, x, y, f0, f1, f2, f3, t0, t1, t2, t3, e1, e2, e3, _⟩ := bytes4_form h h4
    rw [e3]; rfl
  generalize ipBytes p = l at *
  have hs : sumB ((l.set k (l.getD k 0 ^^^ z)).take 20) ≠ 65535 := by
    rw [List.take_set]
    have e : l.getD k 0 = (l.take 20).getD k 0 := (Ae.getD_take _ _ _ _ (by omega)).symm
    rw [e]
    exact sum_turned (by simp; omega) (xor_ne hz) g2
  have hl : (l.set k (l.getD k 0 ^^^ z)).length = l.length := by simp
  have h0' : (l.set k (l.getD k 0 ^^^ z)).getD 0 0 = 69 := by
    rw [← h0, List.getD_eq_getElem?_getD, List.getElem?_set_ne (by omega), ← List.getD_eq_getElem?_getD]
  generalize l.set k (l.getD k 0 ^^^ z) = L at *
  unfold ipDecode ipDec4
  rw [h0', if_neg (by omega), if_pos (by decide), if_neg (by omega), if_neg (by decide)]
  split
  · exact ⟨rfl, by simp⟩
  · simp [hs]
theorem pseudo_len {src dst : List UInt8} {proto long : Int} {l : List UInt8} (h : pseudo src dst proto long = some l) : l.length ≤ 40 ∧ l.length % 2 = 0 := by
  unfold pseudo at h
  split at h
  · rename_i h1
    cases h
    unfold pseudoB
    split <;> simp <;> omega
  · cases h
theorem ipEnc_some {p : Ip} {x : List UInt8} (h : ipEncode p = some x) : ipOk p = true := by
  unfold ipEncode at h
  split at h
  · assumption
  · cases h
theorem ipEnc_none {p : Ip} (h : ipEncode p = none) : ipOk p = false := by
  unfold ipEncode at h
  split at h
  · cases h
  · rename_i h1; exact Bool.eq_false_iff.2 h1
end Go.Proofs.Ytnbbaemijogeoaa
set_option linter.unusedSimpArgs false
set_option linter.unusedVariables false
namespace Go.Proofs.Ytnbbaemijogeoaa
open Ae (b8 b8_toNat b8_byte b8_toNatN)

structure Mc where
  (a0 a1 a2 a3 a4 a5 : UInt8)
deriving DecidableEq
structure Fm where
  (a b : Mc)
  (ty : Int)
  (body : List UInt8)
deriving DecidableEq
def Mc.bytes (m : Mc) : List UInt8 := [m.a0, m.a1, m.a2, m.a3, m.a4, m.a5]
def noMc : Mc := ⟨0, 0, 0, 0, 0, 0⟩
def noFm : Fm := ⟨noMc, noMc, 0, []⟩
def Fm.bytes (f : Fm) : List UInt8 := f.a.bytes ++ f.b.bytes ++ [b8 (f.ty / 256), b8 f.ty] ++ f.body
def Fm.ok (f : Fm) : Bool := decide (1536 ≤ f.ty) && decide (f.ty ≤ 65535) && decide (f.body.length ≤ 1500)
theorem Fm.ok_iff (f : Fm) : f.ok = true ↔ 1536 ≤ f.ty ∧ f.ty ≤ 65535 ∧ f.body.length ≤ 1500 := by
  unfold Fm.ok; simp only [Bool.and_eq_true, decide_eq_true_eq, and_assoc]
def etEncode (f : Fm) : Option (List UInt8) := if f.ok = true then some f.bytes else none
theorem etEnc_cases {f : Fm} {k : List UInt8 → Prop} {d : Prop} (h : Ae.optP (etEncode f) k d) : (f.ok = true ∧ k f.bytes) ∨ (¬ f.ok = true ∧ d) := by
  unfold etEncode at h
  split at h
  · rename_i h1; exact .inl ⟨h1, h⟩
  · rename_i h1; exact .inr ⟨h1, h⟩
def mcAt (l : List UInt8) (k : Nat) : Mc := ⟨l.getD k 0, l.getD (k + 1) 0, l.getD (k + 2) 0, l.getD (k + 3) 0, l.getD (k + 4) 0, l.getD (k + 5) 0⟩
def etDecode (l : List UInt8) : Fm × Int :=
  if l.length < 14 ∨ 1514 < l.length then (noFm, 20)
  else if w16 (l.getD 12 0) (l.getD 13 0) < 1536 then (noFm, 1)
  else (⟨mcAt l 0, mcAt l 6, w16 (l.getD 12 0) (l.getD 13 0), l.drop 14⟩, 0)
theorem etDec_cases (l : List UInt8) : ((l.length < 14 ∨ 1514 < l.length) ∧ etDecode l = (noFm, 20)) ∨ ((14 ≤ l.length ∧ l.length ≤ 1514) ∧ w16 (l.getD 12 0) (l.getD 13 0) < 1536 ∧ etDecode l = (noFm, 1)) ∨
    ((14 ≤ l.length ∧ l.length ≤ 1514) ∧ 1536 ≤ w16 (l.getD 12 0) (l.getD 13 0) ∧ etDecode l = (⟨mcAt l 0, mcAt l 6, w16 (l.getD 12 0) (l.getD 13 0), l.drop 14⟩, 0)) := by
  unfold etDecode
  by_cases h1 : l.length < 14 ∨ 1514 < l.length
  · exact .inl ⟨h1, if_pos h1⟩
  · by_cases h2 : w16 (l.getD 12 0) (l.getD 13 0) < 1536
    · exact .inr (.inl ⟨by omega, h2, by rw [if_neg h1, if_pos h2]⟩)
    · exact .inr (.inr ⟨by omega, by omega, by rw [if_neg h1, if_neg h2]⟩)
theorem tdT {n : Int} (h : 0 ≤ n) : [b8 (Int.tdiv n 256), b8 (Int.tmod n 256)] = [b8 (n / 256), b8 n] := by
  rw [Int.tdiv_eq_ediv_of_nonneg h, Int.tmod_eq_emod_of_nonneg h, Ae.b8_mod]
def etMany (a : List UInt8) : Mc × Bool :=
  if a.length = 4 ∧ 224 ≤ (a.getD 0 0).toNat ∧ (a.getD 0 0).toNat ≤ 239 then (⟨1, 0, 94, a.getD 1 0 &&& 127, a.getD 2 0, a.getD 3 0⟩, true)
  else if a.length = 16 ∧ (a.getD 0 0).toNat = 255 then (⟨51, 51, a.getD 12 0, a.getD 13 0, a.getD 14 0, a.getD 15 0⟩, true)
  else (noMc, false)
end Go.Proofs.Ytnbbaemijogeoaa
namespace Go.Proofs.Ytnbbaemijogeoaa.Ae
open Go
theorem brP_t (x y : Prop) : brP true x y = x := rfl
theorem brP_f (x y : Prop) : brP false x y = y := rfl
theorem impP_t (p : Prop) : impP true p = p := by unfold impP; simp
theorem impP_f (p : Prop) : impP false p = True := by unfold impP; simp
end Go.Proofs.Ytnbbaemijogeoaa.Ae
set_option linter.unusedSimpArgs false
set_option linter.unusedVariables false
namespace Go.Proofs.Ytnbbaemijogeoaa.Ae
open Go

/-- a frame to bytes -/
def etEncRow : Srow := fun args H K => match args, H with
  | [.agg [.byte a0, .byte a1, .byte a2, .byte a3, .byte a4, .byte a5, .byte b0, .byte b1, .byte b2, .byte b3, .byte b4, .byte b5, .int .i64 ty, .str b]], [] => optP (etEncode ⟨⟨a0, a1, a2, a3, a4, a5⟩, ⟨b0, b1, b2, b3, b4, b5⟩, ty, b⟩) (fun l => K (.tup [.sl 0 0 l.length 1, .int .i64 0]) [.bytes l]) (K (.tup [.nilS, .int .i64 1]) [])
  | _, _ => False
def etEncRowB : Srow := fun args H K => match args, H with
  | [.agg [.byte a0, .byte a1, .byte a2, .byte a3, .byte a4, .byte a5, .byte b0, .byte b1, .byte b2, .byte b3, .byte b4, .byte b5, .int .i64 ty, .str b]], [] => b.length ≤ 140737488351232 ∧ optP (etEncode ⟨⟨a0, a1, a2, a3, a4, a5⟩, ⟨b0, b1, b2, b3, b4, b5⟩, ty, b⟩) (fun l => K (.tup [.sl 0 0 l.length 1, .int .i64 0]) [.bytes l]) (K (.tup [.nilS, .int .i64 1]) [])
  | _, _ => False
def fmV (f : Fm) : List AVal := [.byte f.a.a0, .byte f.a.a1, .byte f.a.a2, .byte f.a.a3, .byte f.a.a4, .byte f.a.a5, .byte f.b.a0, .byte f.b.a1, .byte f.b.a2, .byte f.b.a3, .byte f.b.a4, .byte f.b.a5, .int .i64 f.ty, .str f.body]
def etDecRow : Srow := fun args H K => match args, H with
  | [.roB l], [] => l.length ≤ 140737488355328 ∧ K (.tup [.agg (fmV (etDecode l).1), .int .i64 (etDecode l).2]) []
  | [.nilS], [] => K (.tup [.agg (fmV (etDecode []).1), .int .i64 (etDecode []).2]) []
  | _, _ => False
def etManyRow : Srow := fun args H K => match args, H with
  | [.str a], [] => K (.tup [.agg [.byte (etMany a).1.a0, .byte (etMany a).1.a1, .byte (etMany a).1.a2, .byte (etMany a).1.a3, .byte (etMany a).1.a4, .byte (etMany a).1.a5], .bool (etMany a).2]) []
  | _, _ => False
abbrev Tet1 : Specs := Tip
theorem Tet1_sound : TSound Try.prog Tet1 := Tip_sound
abbrev Tet2 : Specs := Tet1
theorem Tet2_sound : TSound Try.prog Tet2 := Tet1_sound
def ann_ether_Decode : Nat → List Nat × Nat × List (List Nat)
  | 3 => ([], 15, [[], [0], [0, 1], [0, 1, 2], [0, 1, 2, 3], [], [5], [5, 6], [5, 6, 7], [0, 1, 2, 3, 4, 5, 6, 7, 8], [], [10], [10, 11], [0, 1, 2, 3, 4, 5, 6, 7, 8, 9, 10, 11, 12], []])
  | 5 => ([], 5, [[4], [], [0], [], [2], [0, 1, 2, 3]])
  | 2000001 => ([], 9, [[], [0], [0, 1], [0, 1, 2], [0, 1, 2, 3], [0, 1, 2, 3, 4], [0, 1, 2, 3, 4, 5], [0, 1, 2, 3, 4, 5, 6]])
  | _ => ([], 0, [])
set_option maxRecDepth 100000 in
theorem ether_Decode_eq (l : List UInt8) (K : AVal → Hp → Prop) : fnP Try.prog Tet2 ann_ether_Decode Try.f17 [.roB l] [] K = (
 brP (decide ((↑(List.length l) : Int) < (14 : Int)) || decide ((1514 : Int) < (↑(List.length l) : Int))) (K (.tup [.agg [.byte 0, .byte 0, .byte 0, .byte 0, .byte 0, .byte 0, .byte 0, .byte 0, .byte 0, .byte 0, .byte 0, .byte 0, .int .i64 0, .str []], .int .i64 20]) []) (((0 : Int) ≤ (12 : Int) ∧ (12 : Int) < (↑(List.length l) : Int)) ∧ ((0 : Int) ≤ (8 : Int) ∧ (8 : Int) < (64 : Int) ∧ I64 ((↑(UInt8.toNat (List.getD l (12 : Nat) (0 : UInt8))) : Int) * (256 : Int))) ∧ ((0 : Int) ≤ (13 : Int) ∧ (13 : Int) < (↑(List.length l) : Int)) ∧ ((0 : Int) ≤ (14 : Int) ∧ (14 : Int) ≤ (↑(List.length l) : Int)) ∧ (6 : Nat) ≤ List.length l ∧ ((0 : Int) ≤ (6 : Int) ∧ (6 : Int) ≤ (↑(List.length l) : Int)) ∧ (6 : Nat) ≤ List.length (List.drop (6 : Nat) l) ∧ brP (decide (bits BinOp.or IntKind.i64 ((↑(UInt8.toNat (List.getD l (12 : Nat) (0 : UInt8))) : Int) * (256 : Int)) (↑(UInt8.toNat (List.getD l (13 : Nat) (0 : UInt8))) : Int) < (1536 : Int))) (K (.tup [.agg [.byte 0, .byte 0, .byte 0, .byte 0, .byte 0, .byte 0, .byte 0, .byte 0, .byte 0, .byte 0, .byte 0, .byte 0, .int .i64 0, .str []], .int .i64 1]) []) (K (.tup [.agg [.byte (List.getD l (0 : Nat) (0 : UInt8)), .byte (List.getD l (1 : Nat) (0 : UInt8)), .byte (List.getD l (2 : Nat) (0 : UInt8)), .byte (List.getD l (3 : Nat) (0 : UInt8)), .byte (List.getD l (4 : Nat) (0 : UInt8)), .byte (List.getD l (5 : Nat) (0 : UInt8)), .byte (List.getD (List.drop (6 : Nat) l) (0 : Nat) (0 : UInt8)), .byte (List.getD (List.drop (6 : Nat) l) (1 : Nat) (0 : UInt8)), .byte (List.getD (List.drop (6 : Nat) l) (2 : Nat) (0 : UInt8)), .byte (List.getD (List.drop (6 : Nat) l) (3 : Nat) (0 : UInt8)), .byte (List.getD (List.drop (6 : Nat) l) (4 : Nat) (0 : UInt8)), .byte (List.getD (List.drop (6 : Nat) l) (5 : Nat) (0 : UInt8)), .int .i64 (bits BinOp.or IntKind.i64 ((↑(UInt8.toNat (List.getD l (12 : Nat) (0 : UInt8))) : Int) * (256 : Int)) (↑(UInt8.toNat (List.getD l (13 : Nat) (0 : UInt8))) : Int)), .str (List.drop (14 : Nat) l)], .int .i64 0]) []))) := by kernel_rfl
set_option maxRecDepth 100000 in
theorem ether_Decode_nil  (K : AVal → Hp → Prop) : fnP Try.prog Tet2 ann_ether_Decode Try.f17 [.nilS] [] K = (
 K (.tup [.agg [.byte 0, .byte 0, .byte 0, .byte 0, .byte 0, .byte 0, .byte 0, .byte 0, .byte 0, .byte 0, .byte 0, .byte 0, .int .i64 0, .str []], .int .i64 20]) []) := by kernel_rfl
set_option maxRecDepth 8000 in
theorem ether_Decode_p : ∀ args H K, etDecRow args H K → fnP Try.prog Tet2 ann_ether_Decode Try.f17 args H K := by
  intro args H K h
  unfold etDecRow at h
  split at h
  · rename_i l
    rw [ether_Decode_eq]
    obtain ⟨hl, hK⟩ := h
    try simp only [or_w16, div2, div3, add_w16, and255, b8_mod, List.set_cons_zero, List.set_cons_succ, andNot_4000, getD_drop, getD_take, b8_byte, b8_toNatN, UInt8.toNat_ofNat', UInt8.toNat_and, nat_mask4, nat_mask6, nat_240, u8_eq_iff, UInt8.reduceToNat, Int.reduceLT, List.take_succ_cons, List.take_zero, List.drop_zero, List.flatten_cons, List.flatten_nil, List.append_nil, List.nil_append, List.take_length, Nat.mul_one, Nat.zero_add, Nat.reduceAdd, Nat.reduceLT, Nat.reduceAdd]
    have x12 := (l.getD 12 0).toNat_lt
    have x13 := (l.getD 13 0).toNat_lt
    rcases etDec_cases l with ⟨k1, e⟩ | ⟨k1, k2, e⟩ | ⟨k1, k2, e⟩ <;> rw [e] at hK <;> simp only [fmV, noFm, noMc, mcAt] at hK
    all_goals (repeat' first | (refine And.intro (by first | first | omega | with_reducible exact i64_x256 _ | with_reducible exact i64_w16 _ _ | with_reducible exact i64_sum _ | (repeat' first | with_reducible exact i64_x256 _ | with_reducible exact i64_w16 _ _ | with_reducible exact i64_sum _ | with_reducible apply And.intro) <;> first | omega | (simp only [I64]; omega) | (simp; omega) | (simp; done) | (simp [I64]; omega) | (with_reducible refine impP_i (fun hg => ?_) <;> (try simp only [Bool.and_eq_true, Bool.or_eq_true, Bool.and_eq_false_iff, Bool.or_eq_false_iff, decide_eq_true_eq, decide_eq_false_iff_not, Bool.not_eq_true', Bool.not_eq_false', Bool.not_true, Bool.not_false, Bool.true_and, Bool.and_true, Bool.false_or, Bool.or_false, beq_iff_eq, beq_eq_false_iff_ne, ne_eq] at hg) <;> (first | omega | with_reducible exact i64_x256 _ | with_reducible exact i64_w16 _ _ | with_reducible exact i64_sum _ | (repeat' first | with_reducible exact i64_x256 _ | with_reducible exact i64_w16 _ _ | with_reducible exact i64_sum _ | with_reducible apply And.intro) <;> first | omega | (simp only [I64]; omega) | (simp; omega) | (simp; done) | (simp [I64]; omega)))) ?_) | (refine brP_d (fun h => ?_) (fun h => ?_)) | (refine optP_i (fun x hx => ?_) (fun hx => ?_) <;> (try have hxl := pseudo_len hx)) | (refine brP_nd (fun h => ?_) (fun h => ?_)) | (refine brP_i (fun h => ?_) (fun h => ?_) <;> (try simp only [Bool.and_eq_true, Bool.or_eq_true, Bool.and_eq_false_iff, Bool.or_eq_false_iff, decide_eq_true_eq, decide_eq_false_iff_not, Bool.not_eq_true', Bool.not_eq_false', Bool.not_true, Bool.not_false, Bool.true_and, Bool.and_true, Bool.false_or, Bool.or_false, beq_iff_eq, beq_eq_false_iff_ne, ne_eq] at h)))
    all_goals first
      | exact hK
      | (exfalso; omega)
      | (exfalso; simp only [List.length_drop] at *; omega)
      | trace_state
  · rw [ether_Decode_nil]; exact h
  · exact h.elim
def Tet3 : Specs := ext Tet2 17 (etDecRow)
theorem Tet3_sound : TSound Try.prog Tet3 := ext_sound Tet2_sound (row_of Tet2_sound mixed Try.func17 (by decide +kernel) ether_Decode_p)
abbrev Tet4 : Specs := Tet3
theorem Tet4_sound : TSound Try.prog Tet4 := Tet3_sound
def ann_outriderref02_Encode : Nat → List Nat × Nat × List (List Nat)
  | 3 => ([1, 4, 5, 33, 34, 35, 38, 39, 40, 41, 42], 0, [])
  | 7 => ([1, 4, 6, 33, 34, 35, 38, 39, 40, 41, 42], 0, [])
  | 1000003 => ([], 8, [])
  | 1000007 => ([], 8, [])
  | 2000010 => ([], 16, [[], [0], [0, 1], [0, 1, 2], [0, 1, 2, 3], [0, 1, 2, 3, 4], [0, 1, 2, 3, 4, 5], [0, 1, 2, 3, 4, 5, 6], [0, 1, 2, 3, 4, 5, 6, 7], [0, 1, 2, 3, 4, 5, 6, 7, 8], [0, 1, 2, 3, 4, 5, 6, 7, 8, 9], [0, 1, 2, 3, 4, 5, 6, 7, 8, 9, 10], [0, 1, 2, 3, 4, 5, 6, 7, 8, 9, 10, 11], [0, 1, 2, 3, 4, 5, 6, 7, 8, 9, 10, 11, 12], [0, 1, 2, 3, 4, 5, 6, 7, 8, 9, 10, 11, 12, 13]])
  | _ => ([], 0, [])
set_option maxRecDepth 100000 in
theorem ref02_Encode_eq (a0 a1 a2 a3 a4 a5 b0 b1 b2 b3 b4 b5 : UInt8) (ty : Int) (b : List UInt8) (K : AVal → Hp → Prop) : fnP Try.prog Tet4 ann_outriderref02_Encode Try.f27 [.agg [.byte a0, .byte a1, .byte a2, .byte a3, .byte a4, .byte a5, .byte b0, .byte b1, .byte b2, .byte b3, .byte b4, .byte b5, .int .i64 ty, .str b]] [] K = (
 ((0 : Int) ≤ (0 : Int) ∧ (0 : Int) < (6 : Int)) ∧ (1 : Nat) ≤ (140737488355328 : Nat) ∧ I64 (1 : Int) ∧ ((0 : Int) ≤ (1 : Int) ∧ (1 : Int) < (6 : Int)) ∧ ((2 : Nat) ≤ (140737488355328 : Nat) ∧ (1 : Nat) = (1 : Nat)) ∧ I64 (2 : Int) ∧ ((0 : Int) ≤ (2 : Int) ∧ (2 : Int) < (6 : Int)) ∧ ((3 : Nat) ≤ (140737488355328 : Nat) ∧ (2 : Nat) = (2 : Nat)) ∧ I64 (3 : Int) ∧ ((0 : Int) ≤ (3 : Int) ∧ (3 : Int) < (6 : Int)) ∧ ((4 : Nat) ≤ (140737488355328 : Nat) ∧ (3 : Nat) = (3 : Nat)) ∧ I64 (4 : Int) ∧ ((0 : Int) ≤ (4 : Int) ∧ (4 : Int) < (6 : Int)) ∧ ((5 : Nat) ≤ (140737488355328 : Nat) ∧ (4 : Nat) = (4 : Nat)) ∧ I64 (5 : Int) ∧ ((0 : Int) ≤ (5 : Int) ∧ (5 : Int) < (6 : Int)) ∧ ((6 : Nat) ≤ (140737488355328 : Nat) ∧ (5 : Nat) = (5 : Nat)) ∧ I64 (6 : Int) ∧ ((0 : Int) ≤ (0 : Int) ∧ (0 : Int) < (6 : Int)) ∧ ((7 : Nat) ≤ (140737488355328 : Nat) ∧ (6 : Nat) = (6 : Nat)) ∧ I64 (1 : Int) ∧ ((0 : Int) ≤ (1 : Int) ∧ (1 : Int) < (6 : Int)) ∧ ((8 : Nat) ≤ (140737488355328 : Nat) ∧ (7 : Nat) = (7 : Nat)) ∧ I64 (2 : Int) ∧ ((0 : Int) ≤ (2 : Int) ∧ (2 : Int) < (6 : Int)) ∧ ((9 : Nat) ≤ (140737488355328 : Nat) ∧ (8 : Nat) = (8 : Nat)) ∧ I64 (3 : Int) ∧ ((0 : Int) ≤ (3 : Int) ∧ (3 : Int) < (6 : Int)) ∧ ((10 : Nat) ≤ (140737488355328 : Nat) ∧ (9 : Nat) = (9 : Nat)) ∧ I64 (4 : Int) ∧ ((0 : Int) ≤ (4 : Int) ∧ (4 : Int) < (6 : Int)) ∧ ((11 : Nat) ≤ (140737488355328 : Nat) ∧ (10 : Nat) = (10 : Nat)) ∧ I64 (5 : Int) ∧ ((0 : Int) ≤ (5 : Int) ∧ (5 : Int) < (6 : Int)) ∧ ((12 : Nat) ≤ (140737488355328 : Nat) ∧ (11 : Nat) = (11 : Nat)) ∧ I64 (6 : Int) ∧ impP (!(decide (ty < (1536 : Int)) || decide ((65535 : Int) < ty))) (I64 ((↑(List.length b) : Int) + (14 : Int))) ∧ brP (decide (ty < (1536 : Int)) || decide ((65535 : Int) < ty) || decide ((1514 : Int) < (↑(List.length b) : Int) + (14 : Int))) (K (.tup [.nilS, .int .i64 1]) []) (((256 : Int) ≠ (0 : Int) ∧ I64 (Int.tdiv ty (256 : Int))) ∧ (256 : Int) ≠ (0 : Int) ∧ ((14 : Nat) ≤ (140737488355328 : Nat) ∧ (12 : Nat) = (12 : Nat)) ∧
 (((14 : Nat) + List.length b) * (1 : Nat) ≤ (140737488355328 : Nat) ∧ (14 : Nat) = (14 : Nat)) ∧ K (.tup [.sl (0 : Nat) (0 : Nat) ((14 : Nat) + List.length b) (1 : Nat), .int .i64 0]) [.bytes (List.take (1 : Nat) (List.drop (0 : Nat) [a0]) ++ List.take (1 : Nat) (List.drop (0 : Nat) [a1]) ++ List.take (1 : Nat) (List.drop (0 : Nat) [a2]) ++ List.take (1 : Nat) (List.drop (0 : Nat) [a3]) ++ List.take (1 : Nat) (List.drop (0 : Nat) [a4]) ++ List.take (1 : Nat) (List.drop (0 : Nat) [a5]) ++ List.take (1 : Nat) (List.drop (0 : Nat) [b0]) ++ List.take (1 : Nat) (List.drop (0 : Nat) [b1]) ++ List.take (1 : Nat) (List.drop (0 : Nat) [b2]) ++ List.take (1 : Nat) (List.drop (0 : Nat) [b3]) ++ List.take (1 : Nat) (List.drop (0 : Nat) [b4]) ++ List.take (1 : Nat) (List.drop (0 : Nat) [b5]) ++ List.take (2 : Nat) (List.drop (0 : Nat) [b8 (Int.tdiv ty (256 : Int)), b8 (Int.tmod ty (256 : Int))]) ++ b)])) := by kernel_rfl
theorem outriderref02_Encode_p : ∀ args H K, etEncRowB args H K → fnP Try.prog Tet4 ann_outriderref02_Encode Try.f27 args H K := by
  intro args H K h
  unfold etEncRowB at h
  split at h
  · rename_i a0 a1 a2 a3 a4 a5 b0 b1 b2 b3 b4 b5 ty b
    rw [ref02_Encode_eq]
    obtain ⟨hb, hK⟩ := h
    have i1 : I64 1 ∧ I64 2 ∧ I64 3 ∧ I64 4 ∧ I64 5 ∧ I64 6 := by unfold I64; omega
    simp only [i1, Nat.reduceLeDiff, Int.reduceLE, Int.reduceLT, true_and, and_self]
    rcases etEnc_cases hK with ⟨h1, h2⟩ | ⟨h1, h2⟩ <;> rw [Fm.ok_iff] at h1 <;> simp only at h1
    · have iT : I64 (Int.tdiv ty 256) := by rw [Int.tdiv_eq_ediv_of_nonneg (by omega)]; unfold I64; omega
      have iT' : I64 ((b.length : Int) + 14) := by unfold I64; omega
      rw [tdT (by omega)]
      repeat' first
        | (refine And.intro (by first | first | omega | with_reducible exact i64_x256 _ | with_reducible exact i64_w16 _ _ | with_reducible exact i64_sum _ | (repeat' first | with_reducible exact i64_x256 _ | with_reducible exact i64_w16 _ _ | with_reducible exact i64_sum _ | with_reducible apply And.intro) <;> first | omega | (simp only [I64]; omega) | (simp; omega) | (simp; done) | (simp [I64]; omega) | (with_reducible refine impP_i (fun hg => ?_) <;> (try simp only [Bool.and_eq_true, Bool.or_eq_true, Bool.and_eq_false_iff, Bool.or_eq_false_iff, decide_eq_true_eq, decide_eq_false_iff_not, Bool.not_eq_true', Bool.not_eq_false', Bool.not_true, Bool.not_false, Bool.true_and, Bool.and_true, Bool.false_or, Bool.or_false, beq_iff_eq, beq_eq_false_iff_ne, ne_eq] at hg) <;> (first | omega | with_reducible exact i64_x256 _ | with_reducible exact i64_w16 _ _ | with_reducible exact i64_sum _ | (repeat' first | with_reducible exact i64_x256 _ | with_reducible exact i64_w16 _ _ | with_reducible exact i64_sum _ | with_reducible apply And.intro) <;> first | omega | (simp only [I64]; omega) | (simp; omega) | (simp; done) | (simp [I64]; omega)))) ?_)
        | (refine brP_d (fun h => ?_) (fun h => ?_))
        | (refine optP_i (fun x hx => ?_) (fun hx => ?_) <;> (try have hxl := pseudo_len hx))
        | (refine brP_nd (fun h => ?_) (fun h => ?_))
        | (refine brP_i (fun h => ?_) (fun h => ?_) <;> (try simp only [Bool.and_eq_true, Bool.or_eq_true, Bool.and_eq_false_iff, Bool.or_eq_false_iff, decide_eq_true_eq, decide_eq_false_iff_not, Bool.not_eq_true', Bool.not_eq_false', Bool.not_true, Bool.not_false, Bool.true_and, Bool.and_true, Bool.false_or, Bool.or_false, beq_iff_eq, beq_eq_false_iff_ne, ne_eq] at h))
      all_goals first
        | (exfalso; omega)
        | (refine endK_eq h2 ?_ ?_ <;> simp [Fm.bytes, Mc.bytes] <;> omega)
    · repeat' first
        | (refine And.intro (by first | first | omega | with_reducible exact i64_x256 _ | with_reducible exact i64_w16 _ _ | with_reducible exact i64_sum _ | (repeat' first | with_reducible exact i64_x256 _ | with_reducible exact i64_w16 _ _ | with_reducible exact i64_sum _ | with_reducible apply And.intro) <;> first | omega | (simp only [I64]; omega) | (simp; omega) | (simp; done) | (simp [I64]; omega) | (with_reducible refine impP_i (fun hg => ?_) <;> (try simp only [Bool.and_eq_true, Bool.or_eq_true, Bool.and_eq_false_iff, Bool.or_eq_false_iff, decide_eq_true_eq, decide_eq_false_iff_not, Bool.not_eq_true', Bool.not_eq_false', Bool.not_true, Bool.not_false, Bool.true_and, Bool.and_true, Bool.false_or, Bool.or_false, beq_iff_eq, beq_eq_false_iff_ne, ne_eq] at hg) <;> (first | omega | with_reducible exact i64_x256 _ | with_reducible exact i64_w16 _ _ | with_reducible exact i64_sum _ | (repeat' first | with_reducible exact i64_x256 _ | with_reducible exact i64_w16 _ _ | with_reducible exact i64_sum _ | with_reducible apply And.intro) <;> first | omega | (simp only [I64]; omega) | (simp; omega) | (simp; done) | (simp [I64]; omega)))) ?_)
        | (refine brP_d (fun h => ?_) (fun h => ?_))
        | (refine optP_i (fun x hx => ?_) (fun hx => ?_) <;> (try have hxl := pseudo_len hx))
        | (refine brP_nd (fun h => ?_) (fun h => ?_))
        | (refine brP_i (fun h => ?_) (fun h => ?_) <;> (try simp only [Bool.and_eq_true, Bool.or_eq_true, Bool.and_eq_false_iff, Bool.or_eq_false_iff, decide_eq_true_eq, decide_eq_false_iff_not, Bool.not_eq_true', Bool.not_eq_false', Bool.not_true, Bool.not_false, Bool.true_and, Bool.and_true, Bool.false_or, Bool.or_false, beq_iff_eq, beq_eq_false_iff_ne, ne_eq] at h))
      all_goals first
        | exact h2
        | (exfalso; omega)
  · exact h.elim
def Tet5 : Specs := ext Tet4 27 (etEncRowB)
theorem Tet5_sound : TSound Try.prog Tet5 := ext_sound Tet4_sound (row_of Tet4_sound mixed Try.func27 (by decide +kernel) outriderref02_Encode_p)
abbrev Tet : Specs := Tet5
theorem Tet_sound : TSound Try.prog Tet := Tet5_sound
end Go.Proofs.Ytnbbaemijogeoaa.Ae

set_option linter.unusedSimpArgs false
set_option linter.unusedVariables false
namespace Go.Proofs.Ytnbbaemijogeoaa
open Ae (b8 b8_toNat b8_byte b8_toNatN)

structure Hd where
  proto : Int
  src : Int
  dst : Int
  flags : Int
  at' : Int
deriving DecidableEq
def noHd : Hd := ⟨0, 0, 0, 0, 0⟩
def two (n : Int) : List UInt8 := [b8 (n / 256), b8 n]
theorem two_def (n : Int) : [b8 (n / 256), b8 n] = two n := rfl
theorem two_len (n : Int) : (two n).length = 2 := rfl
def pseudoL (src dst : List UInt8) (proto long : Int) : List UInt8 := (pseudo src dst proto long).getD []
def hdOk (h : Hd) : Bool :=
  decide (0 ≤ h.src) && decide (h.src ≤ 65535) && decide (0 ≤ h.dst) && decide (h.dst ≤ 65535) && decide (0 ≤ h.flags) && decide (h.flags < 64) && decide (h.at' = 0) && (decide (h.proto = 6) || decide (h.flags = 0))
/-- a body: ports laid out ahead, data, a sum -/
def ptBd (proto flags : Int) (ps data : List UInt8) (s : Int) : List UInt8 :=
  if proto = 17 then ps ++ two (8 + (data.length : Int)) ++ two s ++ data
  else ps ++ [0, 0, 0, 0, 0, 0, 0, 0] ++ [80] ++ [b8 flags] ++ [255, 255] ++ two s ++ [0, 0] ++ data
theorem ptBd_len (proto flags : Int) (ps data : List UInt8) (s : Int) : (ptBd proto flags ps data s).length = ps.length + data.length + (if proto = 17 then 4 else 16) := by
  unfold ptBd two; split <;> simp <;> omega
def ptBody (h : Hd) (data : List UInt8) (s : Int) : List UInt8 := ptBd h.proto h.flags (two h.src ++ two h.dst) data s
def ptRaw (p : Ip) (h : Hd) (data : List UInt8) : Int :=
  65535 - sumB (pseudoL p.src p.dst h.proto ((ptBody h data 0).length : Int) ++ ptBody h data 0)
def ptSum (p : Ip) (h : Hd) (data : List UInt8) : Int := if ptRaw p h data = 0 ∧ h.proto = 17 then 65535 else ptRaw p h data
def ptPacket (p : Ip) (h : Hd) (data : List UInt8) : Ip := ⟨p.src, p.dst, h.proto, p.ttl, ptBody h data (ptSum p h data)⟩
def ptWrite (p : Ip) (h : Hd) (data : List UInt8) : Ip × Int :=
  if h.proto ≠ 6 ∧ h.proto ≠ 17 then (noIp, 51)
  else if hdOk h = true ∧ ipOk (ptPacket p h data) = true then (ptPacket p h data, 0)
  else (noIp, 1)

theorem hdOk_iff (h : Hd) : hdOk h = true ↔ 0 ≤ h.src ∧ h.src ≤ 65535 ∧ 0 ≤ h.dst ∧ h.dst ≤ 65535 ∧ 0 ≤ h.flags ∧ h.flags < 64 ∧ h.at' = 0 ∧ (h.proto = 6 ∨ h.flags = 0) := by
  unfold hdOk
  simp only [Bool.and_eq_true, Bool.or_eq_true, decide_eq_true_eq]
  constructor
  · rintro ⟨⟨⟨⟨⟨⟨⟨h1, h2⟩, h3⟩, h4⟩, h5⟩, h6⟩, h7⟩, h8⟩; exact ⟨h1, h2, h3, h4, h5, h6, h7, h8⟩
  · rintro ⟨h1, h2, h3, h4, h5, h6, h7, h8⟩; exact ⟨⟨⟨⟨⟨⟨⟨h1, h2⟩, h3⟩, h4⟩, h5⟩, h6⟩, h7⟩, h8⟩
theorem ptWrite_cases (p : Ip) (h : Hd) (d : List UInt8) :
    ((h.proto ≠ 6 ∧ h.proto ≠ 17) ∧ ptWrite p h d = (noIp, 51)) ∨ ((h.proto = 6 ∨ h.proto = 17) ∧ hdOk h = true ∧ ipOk (ptPacket p h d) = true ∧ ptWrite p h d = (ptPacket p h d, 0)) ∨
      ((h.proto = 6 ∨ h.proto = 17) ∧ ¬ (hdOk h = true ∧ ipOk (ptPacket p h d) = true) ∧ ptWrite p h d = (noIp, 1)) := by
  unfold ptWrite
  by_cases h1 : h.proto ≠ 6 ∧ h.proto ≠ 17
  · exact .inl ⟨h1, if_pos h1⟩
  · by_cases h2 : hdOk h = true ∧ ipOk (ptPacket p h d) = true
    · exact .inr (.inl ⟨by omega, h2.1, h2.2, by rw [if_neg h1, if_pos h2]⟩)
    · exact .inr (.inr ⟨by omega, h2, by rw [if_neg h1, if_neg h2]⟩)
theorem ptPacket_is {p : Ip} {h : Hd} {d l : List UInt8} (hl : pseudoL p.src p.dst h.proto ((ptBody h d 0).length : Int) = l) :
    (65535 - sumB (l ++ ptBody h d 0) = 0 ∧ h.proto = 17 → ptPacket p h d = ⟨p.src, p.dst, h.proto, p.ttl, ptBody h d 65535⟩) ∧
    (¬ (65535 - sumB (l ++ ptBody h d 0) = 0 ∧ h.proto = 17) → ptPacket p h d = ⟨p.src, p.dst, h.proto, p.ttl, ptBody h d (65535 - sumB (l ++ ptBody h d 0))⟩) := by
  unfold ptPacket ptSum ptRaw
  rw [hl]
  exact ⟨fun hz => by rw [if_pos hz], fun hz => by rw [if_neg hz]⟩

def ptShape (p : Ip) : Hd × Int :=
  if p.proto ≠ 6 ∧ p.proto ≠ 17 then (noHd, 51)
  else if (p.proto = 6 ∧ p.body.length < 20) ∨ p.body.length < 8 then (noHd, 50)
  else if p.proto = 17 then
    if w16 (p.body.getD 4 0) (p.body.getD 5 0) ≠ p.body.length then (noHd, 53)
    else (⟨17, w16 (p.body.getD 0 0) (p.body.getD 1 0), w16 (p.body.getD 2 0) (p.body.getD 3 0), 0, 8⟩, 0)
  else if ((p.body.getD 12 0).toNat : Int) / 16 * 4 < 20 ∨ (p.body.length : Int) < ((p.body.getD 12 0).toNat : Int) / 16 * 4 then (noHd, 53)
  else (⟨6, w16 (p.body.getD 0 0) (p.body.getD 1 0), w16 (p.body.getD 2 0) (p.body.getD 3 0), ((p.body.getD 13 0).toNat : Int) % 64, ((p.body.getD 12 0).toNat : Int) / 16 * 4⟩, 0)
theorem ptShape_ok {p : Ip} (h : (ptShape p).2 = 0) : 8 ≤ p.body.length ∧ (p.proto = 6 ∨ p.proto = 17) ∧ (ptShape p).1.proto = p.proto := by
  unfold ptShape at *
  repeat' split at h
  all_goals first
    | (simp at h; done)
    | skip
  · rename_i h1 h2 h3 h4
    rw [if_neg h1, if_neg h2, if_pos h3, if_neg h4]
    exact ⟨by omega, .inr h3, h3.symm⟩
  · rename_i h1 h2 h3 h4
    rw [if_neg h1, if_neg h2, if_neg h3, if_neg h4]
    exact ⟨by omega, by omega, by simp only; omega⟩
def ptNone (p : Ip) : Bool := decide (p.proto = 17) && decide (p.src.length = 4) && decide (p.dst.length = 4) && decide (p.body.getD 6 0 = 0) && decide (p.body.getD 7 0 = 0)
def ptGood (p : Ip) : Bool := sumB (pseudoL p.src p.dst p.proto (p.body.length : Int) ++ p.body) == 65535
def ptRead (p : Ip) : Hd × Int :=
  if (ptShape p).2 ≠ 0 then (noHd, (ptShape p).2)
  else if ptNone p = false ∧ ptGood p = false then (noHd, 52)
  else if ¬ (rightA p.src = true ∧ p.src.length = p.dst.length) then (noHd, 53)
  else ((ptShape p).1, 0)

structure Fl where
  proto : Int
  src : List UInt8
  dst : List UInt8
  port : Int
  dest : Int
deriving DecidableEq
def noFl : Fl := ⟨0, [], [], 0, 0⟩
def ptFlow (p : Ip) : Fl × Int := if (ptRead p).2 ≠ 0 then (noFl, (ptRead p).2) else (⟨(ptRead p).1.proto, p.src, p.dst, (ptRead p).1.src, (ptRead p).1.dst⟩, 0)
def Fl.turn (f : Fl) : Fl := ⟨f.proto, f.dst, f.src, f.dest, f.port⟩
def ptErrs (p : Ip) : Bool :=
  decide (p.body ≠ []) && decide (p.src.length = p.dst.length) &&
    ((decide (p.src.length = 4) && decide (p.proto = 1) && (decide ((p.body.getD 0 0).toNat = 3) || decide ((p.body.getD 0 0).toNat = 11))) ||
     (decide (p.src.length = 16) && decide (p.proto = 58) && (decide (1 ≤ (p.body.getD 0 0).toNat) && decide ((p.body.getD 0 0).toNat ≤ 3))))
theorem ptErrs_ok {p : Ip} (h : ptErrs p = true) : 0 < p.body.length ∧ p.src.length = p.dst.length ∧ ((p.src.length = 4 ∧ p.proto = 1) ∨ (p.src.length = 16 ∧ p.proto = 58)) := by
  unfold ptErrs at h
  simp only [Bool.and_eq_true, Bool.or_eq_true, decide_eq_true_eq] at h
  have := List.length_pos_iff.2 h.1.1
  omega
theorem ptErrs_iff (p : Ip) : ptErrs p = true ↔ 0 < p.body.length ∧ p.src.length = p.dst.length ∧ ((p.src.length = 4 ∧ p.proto = 1 ∧ ((p.body.getD 0 0).toNat = 3 ∨ (p.body.getD 0 0).toNat = 11)) ∨ (p.src.length = 16 ∧ p.proto = 58 ∧ 1 ≤ (p.body.getD 0 0).toNat ∧ (p.body.getD 0 0).toNat ≤ 3)) := by
  unfold ptErrs
  simp only [Bool.and_eq_true, Bool.or_eq_true, decide_eq_true_eq]
  rw [show (p.body ≠ []) ↔ 0 < p.body.length from List.length_pos_iff.symm]
  constructor <;> intro h <;> omega
def ptQuoted (p : Ip) : Fl × Int :=
  if ptErrs p = false then (noFl, 51)
  else if p.src.length = 4 then
    if sumB p.body ≠ 65535 then (noFl, 52)
    else if p.body.length < 32 ∨ (p.body.getD 8 0).toNat ≠ 69 ∨ ((p.body.getD 17 0).toNat ≠ 6 ∧ (p.body.getD 17 0).toNat ≠ 17) then (noFl, 53)
    else (⟨(p.body.getD 17 0).toNat, (p.body.take 24).drop 20, (p.body.take 28).drop 24, w16 (p.body.getD 28 0) (p.body.getD 29 0), w16 (p.body.getD 30 0) (p.body.getD 31 0)⟩, 0)
  else
    if sumB (pseudoL p.src p.dst p.proto (p.body.length : Int) ++ p.body) ≠ 65535 then (noFl, 52)
    else if p.body.length < 52 ∨ (p.body.getD 8 0).toNat / 16 ≠ 6 ∨ ((p.body.getD 14 0).toNat ≠ 6 ∧ (p.body.getD 14 0).toNat ≠ 17) then (noFl, 53)
    else (⟨(p.body.getD 14 0).toNat, (p.body.take 32).drop 16, (p.body.take 48).drop 32, w16 (p.body.getD 48 0) (p.body.getD 49 0), w16 (p.body.getD 50 0) (p.body.getD 51 0)⟩, 0)
end Go.Proofs.Ytnbbaemijogeoaa
set_option linter.unusedSimpArgs false
set_option linter.unusedVariables false
namespace Go.Proofs.Ytnbbaemijogeoaa
open Ae (b8 b8_toNat b8_byte b8_toNatN)

structure Nt where
  kind : Int
  mac : Mc
  addr : List UInt8
  target : List UInt8
  asked : Bool
deriving DecidableEq
def noNt : Nt := ⟨0, noMc, [], [], false⟩
def nbNear (a : List UInt8) : List UInt8 := if a.length = 16 then [255, 2, 0, 0, 0, 0, 0, 0, 0, 0, 0, 1, 255] ++ a.drop 13 else []
def nbEvery : List UInt8 := [255, 2, 0, 0, 0, 0, 0, 0, 0, 0, 0, 0, 0, 0, 0, 1]
def allMc : Mc := ⟨255, 255, 255, 255, 255, 255⟩
def nbArpB (kind : UInt8) (m : Mc) (addr : List UInt8) (o : Mc) (target : List UInt8) : List UInt8 := [0, 1, 8, 0, 6, 4, 0] ++ [kind] ++ m.bytes ++ addr ++ o.bytes ++ target
def nbArp (kind : UInt8) (dst m : Mc) (addr : List UInt8) (o : Mc) (target : List UInt8) : Option (List UInt8) := etEncode ⟨dst, m, 2054, nbArpB kind m addr o target⟩
/-- the body of an ND with a sum -/
def nbBody (kind flags opt : UInt8) (target : List UInt8) (m : Mc) (s : Int) : List UInt8 := [kind, 0] ++ two s ++ ([flags, 0, 0, 0] ++ target ++ [opt, 1] ++ m.bytes)
def nbSum (kind flags opt : UInt8) (target : List UInt8) (m : Mc) (src dst : List UInt8) : Int := 65535 - sumB (pseudoL src dst 58 ((nbBody kind flags opt target m 0).length : Int) ++ nbBody kind flags opt target m 0)
def nbIp (kind flags opt : UInt8) (target : List UInt8) (m : Mc) (src dst : List UInt8) : Ip := ⟨src, dst, 58, 255, nbBody kind flags opt target m (nbSum kind flags opt target m src dst)⟩
def nbNd (kind flags opt : UInt8) (target : List UInt8) (m card : Mc) (src dst : List UInt8) : Option (List UInt8) :=
  match ipEncode (nbIp kind flags opt target m src dst) with
  | none => none
  | some b => etEncode ⟨card, m, 34525, b⟩
/-- an ND by its body without a sum -/
def ndIp (body src dst : List UInt8) : Ip := ⟨src, dst, 58, 255, body.take 2 ++ two (65535 - sumB (pseudoL src dst 58 32 ++ body)) ++ body.drop 4⟩
def ndG (body : List UInt8) (m card : Mc) (src dst : List UInt8) : Option (List UInt8) :=
  match ipEncode (ndIp body src dst) with
  | none => none
  | some b => etEncode ⟨card, m, 34525, b⟩
theorem nbBody_len {kind flags opt : UInt8} {target : List UInt8} {m : Mc} {s : Int} (h : target.length = 16) : (nbBody kind flags opt target m s).length = 32 := by
  unfold nbBody two Mc.bytes; simp; omega
theorem ndG_eq {kind flags opt : UInt8} {target : List UInt8} {m card : Mc} {src dst : List UInt8} (h : target.length = 16) : ndG (nbBody kind flags opt target m 0) m card src dst = nbNd kind flags opt target m card src dst := by
  have e : ndIp (nbBody kind flags opt target m 0) src dst = nbIp kind flags opt target m src dst := by
    unfold ndIp nbIp nbSum
    rw [nbBody_len h]
    rfl
  unfold ndG nbNd
  rw [e]
def pair (a b : List UInt8) : Bool := rightA a && decide (a.length = b.length)
def nbAsk (m : Mc) (a b : List UInt8) : Option (List UInt8) :=
  if pair a b = false then none
  else if a.length = 16 then nbNd 135 0 1 b m (etMany (nbNear b)).1 a (nbNear b)
  else nbArp 1 allMc m a noMc b
def nbTell (m : Mc) (a : List UInt8) (t : Mc) (b : List UInt8) : Option (List UInt8) :=
  if pair a b = false then none
  else if a.length = 16 then nbNd 136 96 2 a m t a b
  else nbArp 2 t m a t b
def nbClaim (m : Mc) (a : List UInt8) : Option (List UInt8) :=
  if rightA a = false then none
  else if a.length = 16 then nbNd 136 32 2 a m (etMany nbEvery).1 a nbEvery
  else nbArp 1 allMc m a noMc a
theorem pair_cases (a b : List UInt8) : (pair a b = false ∧ ¬ ((a.length = 4 ∨ a.length = 16) ∧ a.length = b.length)) ∨ (pair a b = true ∧ a.length = 16 ∧ b.length = 16) ∨ (pair a b = true ∧ a.length = 4 ∧ b.length = 4) := by
  unfold pair rightA
  by_cases h4 : a.length = 4 <;> by_cases h16 : a.length = 16 <;> by_cases hb : a.length = b.length <;> simp [h4, h16, hb] <;> omega
theorem nbAsk_cases (m : Mc) (a b : List UInt8) : (¬ ((a.length = 4 ∨ a.length = 16) ∧ a.length = b.length) ∧ nbAsk m a b = none) ∨ ((a.length = 16 ∧ b.length = 16) ∧ nbAsk m a b = nbNd 135 0 1 b m (etMany (nbNear b)).1 a (nbNear b)) ∨ ((a.length = 4 ∧ b.length = 4) ∧ nbAsk m a b = nbArp 1 allMc m a noMc b) := by
  unfold nbAsk
  rcases pair_cases a b with ⟨h, h1⟩ | ⟨h, h1, h2⟩ | ⟨h, h1, h2⟩
  · exact .inl ⟨h1, if_pos h⟩
  · exact .inr (.inl ⟨⟨h1, h2⟩, by rw [if_neg (by rw [h]; simp), if_pos h1]⟩)
  · exact .inr (.inr ⟨⟨h1, h2⟩, by rw [if_neg (by rw [h]; simp), if_neg (by omega)]⟩)
theorem nbTell_cases (m : Mc) (a : List UInt8) (t : Mc) (b : List UInt8) : (¬ ((a.length = 4 ∨ a.length = 16) ∧ a.length = b.length) ∧ nbTell m a t b = none) ∨ ((a.length = 16 ∧ b.length = 16) ∧ nbTell m a t b = nbNd 136 96 2 a m t a b) ∨ ((a.length = 4 ∧ b.length = 4) ∧ nbTell m a t b = nbArp 2 t m a t b) := by
  unfold nbTell
  rcases pair_cases a b with ⟨h, h1⟩ | ⟨h, h1, h2⟩ | ⟨h, h1, h2⟩
  · exact .inl ⟨h1, if_pos h⟩
  · exact .inr (.inl ⟨⟨h1, h2⟩, by rw [if_neg (by rw [h]; simp), if_pos h1]⟩)
  · exact .inr (.inr ⟨⟨h1, h2⟩, by rw [if_neg (by rw [h]; simp), if_neg (by omega)]⟩)
theorem nbClaim_cases (m : Mc) (a : List UInt8) : (¬ (a.length = 4 ∨ a.length = 16) ∧ nbClaim m a = none) ∨ (a.length = 16 ∧ nbClaim m a = nbNd 136 32 2 a m (etMany nbEvery).1 a nbEvery) ∨ (a.length = 4 ∧ nbClaim m a = nbArp 1 allMc m a noMc a) := by
  unfold nbClaim rightA
  by_cases h4 : a.length = 4
  · exact .inr (.inr ⟨h4, by rw [if_neg (by simp [h4]), if_neg (by omega)]⟩)
  · by_cases h16 : a.length = 16
    · exact .inr (.inl ⟨h16, by rw [if_neg (by simp [h16]), if_pos h16]⟩)
    · exact .inl ⟨by omega, by rw [if_pos (by simp [h4, h16])]⟩
theorem near_many {b : List UInt8} (h : b.length = 16) : (etMany (nbNear b)).1 = ⟨51, 51, 255, b.getD 13 0, b.getD 14 0, b.getD 15 0⟩ := by
  obtain ⟨_, _, _, _, _, _, _, _, _, _, _, _, _, _, _, _, rfl⟩ := list16 h
  rfl
theorem every_many : (etMany nbEvery).1 = ⟨51, 51, 0, 0, 0, 1⟩ := rfl
theorem nbBody_is (k fl op : UInt8) (tg : List UInt8) (m : Mc) : [k, 0, 0, 0, fl, 0, 0, 0] ++ tg ++ [op, 1] ++ [m.a0, m.a1, m.a2, m.a3, m.a4, m.a5] = nbBody k fl op tg m 0 := by
  unfold nbBody; rw [show two 0 = [0, 0] by decide +kernel]; simp [Mc.bytes]
theorem nbArp_is (k : UInt8) (m o : Mc) (a b : List UInt8) : [0, 1, 8, 0, 6, 4, 0, k] ++ ([m.a0, m.a1, m.a2, m.a3, m.a4, m.a5] ++ a) ++ ([o.a0, o.a1, o.a2, o.a3, o.a4, o.a5] ++ b) = nbArpB k m a o b := by
  unfold nbArpB Mc.bytes; simp
def nbStart (s : List UInt8) : Prop := (((((((s.getD 0 0).toNat = 0 ∧ (s.getD 1 0).toNat = 1) ∧ (s.getD 2 0).toNat = 8) ∧ (s.getD 3 0).toNat = 0) ∧ (s.getD 4 0).toNat = 6) ∧ (s.getD 5 0).toNat = 4) ∧ (s.getD 6 0).toNat = 0)
instance (s : List UInt8) : Decidable (nbStart s) := by unfold nbStart; infer_instance
def nbReadArp (s : List UInt8) : Nt × Int :=
  if s.length < 28 ∨ ¬ nbStart s ∨ ((s.getD 7 0).toNat ≠ 1 ∧ (s.getD 7 0).toNat ≠ 2) then (noNt, 40)
  else (⟨(s.getD 7 0).toNat, mcAt s 8, (s.take 18).drop 14, (s.take 28).drop 24, decide ((s.getD 7 0).toNat = 2)⟩, 0)
theorem nbReadArp_cases (s : List UInt8) : ((s.length < 28 ∨ ¬ nbStart s ∨ ((s.getD 7 0).toNat ≠ 1 ∧ (s.getD 7 0).toNat ≠ 2)) ∧ nbReadArp s = (noNt, 40)) ∨
    (28 ≤ s.length ∧ nbStart s ∧ ((s.getD 7 0).toNat = 1 ∨ (s.getD 7 0).toNat = 2) ∧ nbReadArp s = (⟨(s.getD 7 0).toNat, mcAt s 8, (s.take 18).drop 14, (s.take 28).drop 24, decide ((s.getD 7 0).toNat = 2)⟩, 0)) := by
  unfold nbReadArp
  by_cases h1 : s.length < 28 ∨ ¬ nbStart s ∨ ((s.getD 7 0).toNat ≠ 1 ∧ (s.getD 7 0).toNat ≠ 2)
  · exact .inl ⟨h1, if_pos h1⟩
  · by_cases h2 : nbStart s
    · exact .inr ⟨by omega, h2, by omega, if_neg h1⟩
    · exact absurd (.inr (.inl h2)) h1
theorem take8 {s : List UInt8} (h : 8 ≤ s.length) (k : UInt8) : s.take 8 = [0, 1, 8, 0, 6, 4, 0, k] ↔ nbStart s ∧ (s.getD 7 0).toNat = k.toNat := by
  match s, h with
  | a :: b :: c :: d :: e :: f :: g :: i :: r, _ =>
    unfold nbStart
    simp only [List.take_succ_cons, List.take_zero, List.cons.injEq, and_true, List.getD_cons_zero, List.getD_cons_succ, Ae.u8_eq_iff, UInt8.reduceToNat, and_assoc]
theorem and64 (x : UInt8) : (!decide (x.toNat &&& 64 = 0)) = decide (x.toNat / 64 % 2 = 1) := by
  have h : ∀ n : Nat, n < 256 → (!decide (n &&& 64 = 0)) = decide (n / 64 % 2 = 1) := by decide +kernel
  exact h _ x.toNat_lt
def nbAsks (b : List UInt8) : Bool := decide ((b.getD 0 0).toNat = 135) && decide ((b.getD 24 0).toNat = 1)
def nbTells (b : List UInt8) : Bool := decide ((b.getD 0 0).toNat = 136) && decide ((b.getD 24 0).toNat = 2)
def nbReadP (p : Ip) : Nt × Int :=
  if (p.body.getD 1 0).toNat ≠ 0 ∨ (nbAsks p.body = false ∧ nbTells p.body = false) ∨ (p.body.getD 25 0).toNat ≠ 1 then (noNt, 40)
  else if sumB (pseudoL p.src p.dst 58 32 ++ p.body) ≠ 65535 then (noNt, 41)
  else if nbAsks p.body = true then (⟨1, mcAt p.body 26, p.src, (p.body.take 24).drop 8, false⟩, 0)
  else (⟨2, mcAt p.body 26, (p.body.take 24).drop 8, p.dst, decide ((p.body.getD 4 0).toNat / 64 % 2 = 1)⟩, 0)
def nbReadNd (s : List UInt8) : Nt × Int :=
  if (ipDecode s).2 ≠ 0 ∨ (ipDecode s).1.src.length ≠ 16 ∨ (ipDecode s).1.proto ≠ 58 ∨ (ipDecode s).1.ttl ≠ 255 ∨ (ipDecode s).1.body.length ≠ 32 then (noNt, 40)
  else nbReadP (ipDecode s).1
def nbRead (f : Fm) : Nt × Int :=
  if f.ty = 2054 then nbReadArp f.body else if f.ty = 34525 then nbReadNd f.body else (noNt, 40)
end Go.Proofs.Ytnbbaemijogeoaa
set_option linter.unusedSimpArgs false
set_option linter.unusedVariables false
set_option maxRecDepth 8000
namespace Go.Proofs.Ytnbbaemijogeoaa.Ae
open Go

def outK (o : Option (List UInt8)) (K : AVal → Hp → Prop) : Prop := optP o (fun l => K (.tup [.sl 0 0 l.length 1, .int .i64 0]) [.bytes l]) (K (.tup [.nilS, .int .i64 1]) [])
def nearRow : Srow := fun args H K => match args, H with
  | [.str a], [] => K (.str (nbNear a)) []
  | _, _ => False
def everyRow : Srow := fun args H K => match args, H with
  | [], [] => K (.str nbEvery) []
  | _, _ => False
def arpRow : Srow := fun args H K => match args, H with
  | [.byte k, .agg [.byte t0, .byte t1, .byte t2, .byte t3, .byte t4, .byte t5], .agg [.byte m0, .byte m1, .byte m2, .byte m3, .byte m4, .byte m5], .str a, .agg [.byte o0, .byte o1, .byte o2, .byte o3, .byte o4, .byte o5], .str b], [] => (a.length = 4 ∧ b.length = 4) ∧
    outK (nbArp k ⟨t0, t1, t2, t3, t4, t5⟩ ⟨m0, m1, m2, m3, m4, m5⟩ a ⟨o0, o1, o2, o3, o4, o5⟩ b) K
  | _, _ => False
def ndRow : Srow := fun args H K => match args, H with
  | [.agg [.byte k, .byte fl, .byte op, .str tg], .agg [.byte m0, .byte m1, .byte m2, .byte m3, .byte m4, .byte m5], .agg [.byte t0, .byte t1, .byte t2, .byte t3, .byte t4, .byte t5], .agg [.str f, .str t, .int .i64 p, .int .i64 q, .str b]], [] => tg.length = 16 ∧
    outK (nbNd k fl op tg ⟨m0, m1, m2, m3, m4, m5⟩ ⟨t0, t1, t2, t3, t4, t5⟩ f t) K
  | _, _ => False
def ndGRow : Srow := fun args H K => match args, H with
  | [.agg [.byte m0, .byte m1, .byte m2, .byte m3, .byte m4, .byte m5], .agg [.byte t0, .byte t1, .byte t2, .byte t3, .byte t4, .byte t5], .agg [.str f, .str t, .int .i64 p, .int .i64 q, .str b], .str body], [] => body.length = 32 ∧
    outK (ndG body ⟨m0, m1, m2, m3, m4, m5⟩ ⟨t0, t1, t2, t3, t4, t5⟩ f t) K
  | _, _ => False
def askRow : Srow := fun args H K => match args, H with
  | [.agg [.byte m0, .byte m1, .byte m2, .byte m3, .byte m4, .byte m5], .str a, .str b], [] => outK (nbAsk ⟨m0, m1, m2, m3, m4, m5⟩ a b) K
  | _, _ => False
def tellRow : Srow := fun args H K => match args, H with
  | [.agg [.byte m0, .byte m1, .byte m2, .byte m3, .byte m4, .byte m5], .str a, .agg [.byte t0, .byte t1, .byte t2, .byte t3, .byte t4, .byte t5], .str b], [] => outK (nbTell ⟨m0, m1, m2, m3, m4, m5⟩ a ⟨t0, t1, t2, t3, t4, t5⟩ b) K
  | _, _ => False
def claimRow : Srow := fun args H K => match args, H with
  | [.agg [.byte m0, .byte m1, .byte m2, .byte m3, .byte m4, .byte m5], .str a], [] => outK (nbClaim ⟨m0, m1, m2, m3, m4, m5⟩ a) K
  | _, _ => False
def ntV (n : Nt) : List AVal := [.int .i64 n.kind, .byte n.mac.a0, .byte n.mac.a1, .byte n.mac.a2, .byte n.mac.a3, .byte n.mac.a4, .byte n.mac.a5, .str n.addr, .str n.target, .bool n.asked]
def ntRow (g : List UInt8 → Nt × Int) : Srow := fun args H K => match args, H with
  | [.str s], [] => s.length ≤ 140737488351232 ∧ K (.tup [.agg (ntV (g s).1), .int .i64 (g s).2]) []
  | _, _ => False
def readRow : Srow := fun args H K => match args, H with
  | [.agg [.byte a0, .byte a1, .byte a2, .byte a3, .byte a4, .byte a5, .byte b0, .byte b1, .byte b2, .byte b3, .byte b4, .byte b5, .int .i64 ty, .str b]], [] => b.length ≤ 140737488351232 ∧
    K (.tup [.agg (ntV (nbRead ⟨⟨a0, a1, a2, a3, a4, a5⟩, ⟨b0, b1, b2, b3, b4, b5⟩, ty, b⟩).1), .int .i64 (nbRead ⟨⟨a0, a1, a2, a3, a4, a5⟩, ⟨b0, b1, b2, b3, b4, b5⟩, ty, b⟩).2]) []
  | _, _ => False
theorem optP_n {α : Type} (k : α → Prop) (d : Prop) : optP none k d = d := rfl
theorem optP_s {α : Type} (x : α) (k : α → Prop) (d : Prop) : optP (some x) k d = k x := rfl
def ann_neigh_start : Nat → List Nat × Nat × List (List Nat)
  | _ => ([], 0, [])
def Tnb1 : Specs := ext Tet 88 (fnP Try.prog Tet ann_neigh_start Try.f88)
theorem Tnb1_sound : TSound Try.prog Tnb1 := ext_sound Tet_sound (fn_row Tet_sound mixed Try.func88 (by decide +kernel))
abbrev Tnb2 : Specs := Tnb1
theorem Tnb2_sound : TSound Try.prog Tnb2 := Tnb1_sound
def ann_neigh_card : Nat → List Nat × Nat × List (List Nat)
  | _ => ([], 0, [])
def Tnb3 : Specs := ext Tnb2 89 (fnP Try.prog Tnb2 ann_neigh_card Try.f89)
theorem Tnb3_sound : TSound Try.prog Tnb3 := ext_sound Tnb2_sound (fn_row Tnb2_sound mixed Try.func89 (by decide +kernel))
abbrev Tnb4 : Specs := Tnb3
theorem Tnb4_sound : TSound Try.prog Tnb4 := Tnb3_sound
abbrev Tnb5 : Specs := Tnb4
theorem Tnb5_sound : TSound Try.prog Tnb5 := Tnb4_sound
abbrev Tnb6 : Specs := Tnb5
theorem Tnb6_sound : TSound Try.prog Tnb6 := Tnb5_sound
abbrev Tnb7 : Specs := Tnb6
theorem Tnb7_sound : TSound Try.prog Tnb7 := Tnb6_sound
def ann_neigh_readArp : Nat → List Nat × Nat × List (List Nat)
  | 1 => ([], 22, [[], [0], [0, 1], [0, 1, 2], [0, 1, 2, 3], [0, 1, 2, 3, 4], [0, 1, 2, 3, 4, 5], [0, 1, 2, 3, 4, 5, 6], [0, 1, 2, 3, 4, 5, 6, 7], [0, 1, 2, 3], [0, 1, 2, 3, 4, 5, 6, 7, 8, 9], [0, 1, 2, 3, 4, 5, 6, 7, 8, 9, 10], [0, 1, 2, 3, 4, 5, 6, 7, 8, 9, 10, 11], [0, 1, 2, 3, 4, 5, 6, 7, 8, 9, 10, 11, 12], [0, 1, 2, 3, 4, 5, 6, 7, 8, 9, 10, 11, 12, 13], [0, 1, 2, 3, 4, 5, 6, 7, 8, 9, 10, 11, 12, 13, 14], [0, 1, 2, 3, 4, 5, 6, 7, 8, 9, 10, 11, 12, 13, 14, 15], [0, 1, 2, 3, 4, 5, 6, 7, 8, 9, 10, 11, 12, 13, 14, 15, 16], [0, 1, 2, 3, 4, 5, 6, 7, 8, 9, 10, 11, 12, 13, 14, 15, 16, 17], [0, 1, 2, 3, 4, 5, 6, 7, 8, 9, 10, 11, 12, 13, 14, 15, 16, 17, 18], [0, 1, 2, 3, 4, 5, 6, 7, 8, 9, 10, 11, 12, 13, 14, 15, 16, 17, 18, 19], [0, 1, 2, 3, 4, 5, 6, 7, 8, 9, 10, 11, 12, 13, 14, 15, 16, 17, 18, 19, 20]])
  | 3 => ([], 14, [[], [0], [0, 1], [], [3], [3, 4], [], [6], [], [8], [], [10], [10, 11], [0, 1, 2, 3, 4, 5, 6, 7, 8, 9, 10, 11, 12]])
  | _ => ([], 0, [])
set_option maxRecDepth 100000 in
theorem neigh_readArp_eq (s : List UInt8) (K : AVal → Hp → Prop) : fnP Try.prog Tnb7 ann_neigh_readArp Try.f80 [.str s] [] K = (
 brP (decide ((↑(List.length s) : Int) < (28 : Int))) (K (.tup [.agg [.int .i64 0, .byte 0, .byte 0, .byte 0, .byte 0, .byte 0, .byte 0, .str [], .str [], .bool false], .int .i64 40]) []) (((0 : Int) ≤ (7 : Int) ∧ (7 : Int) ≤ (↑(List.length s) : Int)) ∧ List.length (List.take (7 : Nat) s) ≤ (140737488355328 : Nat) ∧ ((0 : Nat) < (7 : Nat) ∧ (7 : Nat) ≤ List.length (List.take (7 : Nat) s)) ∧ (7 : Nat) ≤ List.length (List.take (7 : Nat) s) ∧ brP (!(decide (List.getD (List.take (7 : Nat) s) (0 : Nat) (0 : UInt8) = (0 : UInt8)) && (decide (List.getD (List.take (7 : Nat) s) (1 : Nat) (0 : UInt8) = (1 : UInt8)) && (decide (List.getD (List.take (7 : Nat) s) (2 : Nat) (0 : UInt8) = (8 : UInt8)) && (decide (List.getD (List.take (7 : Nat) s) (3 : Nat) (0 : UInt8) = (0 : UInt8)) && (decide (List.getD (List.take (7 : Nat) s) (4 : Nat) (0 : UInt8) = (6 : UInt8)) && (decide (List.getD (List.take (7 : Nat) s) (5 : Nat) (0 : UInt8) = (4 : UInt8)) && decide (List.getD (List.take (7 : Nat) s) (6 : Nat) (0 : UInt8) = (0 : UInt8))))))))) (K (.tup [.agg [.int .i64 0, .byte 0, .byte 0, .byte 0, .byte 0, .byte 0, .byte 0, .str [], .str [], .bool false], .int .i64 40]) []) (((0 : Int) ≤ (7 : Int) ∧ (7 : Int) < (↑(List.length s) : Int)) ∧ brP (!decide (List.getD s (7 : Nat) (0 : UInt8) = (1 : UInt8))) (((0 : Int) ≤ (7 : Int) ∧ (7 : Int) < (↑(List.length s) : Int)) ∧ brP (!decide (List.getD s (7 : Nat) (0 : UInt8) = (2 : UInt8))) (K (.tup [.agg [.int .i64 0, .byte 0, .byte 0, .byte 0, .byte 0, .byte 0, .byte 0, .str [], .str [], .bool false], .int .i64 40]) []) (((0 : Int) ≤ (7 : Int) ∧ (7 : Int) < (↑(List.length s) : Int)) ∧ ((0 : Int) ≤ (8 : Int) ∧ (8 : Int) ≤ (14 : Int) ∧ (14 : Int) ≤ (↑(List.length s) : Int)) ∧ (6 : Nat) ≤ List.length (List.drop (8 : Nat) (List.take (14 : Nat) s)) ∧ ((0 : Int) ≤ (14 : Int) ∧ (14 : Int) ≤ (18 : Int) ∧ (18 : Int) ≤ (↑(List.length s) : Int)) ∧ ((0 : Int) ≤ (24 : Int) ∧ (24 : Int) ≤ (28 : Int) ∧ (28 : Int) ≤ (↑(List.length s) : Int)) ∧
 ((0 : Int) ≤ (7 : Int) ∧ (7 : Int) < (↑(List.length s) : Int)) ∧ K (.tup [.agg [.int .i64 (↑(UInt8.toNat (List.getD s (7 : Nat) (0 : UInt8))) : Int), .byte (List.getD (List.drop (8 : Nat) (List.take (14 : Nat) s)) (0 : Nat) (0 : UInt8)), .byte (List.getD (List.drop (8 : Nat) (List.take (14 : Nat) s)) (1 : Nat) (0 : UInt8)), .byte (List.getD (List.drop (8 : Nat) (List.take (14 : Nat) s)) (2 : Nat) (0 : UInt8)), .byte (List.getD (List.drop (8 : Nat) (List.take (14 : Nat) s)) (3 : Nat) (0 : UInt8)), .byte (List.getD (List.drop (8 : Nat) (List.take (14 : Nat) s)) (4 : Nat) (0 : UInt8)), .byte (List.getD (List.drop (8 : Nat) (List.take (14 : Nat) s)) (5 : Nat) (0 : UInt8)), .str (List.drop (14 : Nat) (List.take (18 : Nat) s)), .str (List.drop (24 : Nat) (List.take (28 : Nat) s)), .bool (decide (List.getD s (7 : Nat) (0 : UInt8) = (2 : UInt8)))], .int .i64 0]) [])) (((0 : Int) ≤ (7 : Int) ∧ (7 : Int) < (↑(List.length s) : Int)) ∧ ((0 : Int) ≤ (8 : Int) ∧ (8 : Int) ≤ (14 : Int) ∧ (14 : Int) ≤ (↑(List.length s) : Int)) ∧ (6 : Nat) ≤ List.length (List.drop (8 : Nat) (List.take (14 : Nat) s)) ∧ ((0 : Int) ≤ (14 : Int) ∧ (14 : Int) ≤ (18 : Int) ∧ (18 : Int) ≤ (↑(List.length s) : Int)) ∧ ((0 : Int) ≤ (24 : Int) ∧ (24 : Int) ≤ (28 : Int) ∧ (28 : Int) ≤ (↑(List.length s) : Int)) ∧ ((0 : Int) ≤ (7 : Int) ∧ (7 : Int) < (↑(List.length s) : Int)) ∧ K (.tup [.agg [.int .i64 (↑(UInt8.toNat (List.getD s (7 : Nat) (0 : UInt8))) : Int), .byte (List.getD (List.drop (8 : Nat) (List.take (14 : Nat) s)) (0 : Nat) (0 : UInt8)), .byte (List.getD (List.drop (8 : Nat) (List.take (14 : Nat) s)) (1 : Nat) (0 : UInt8)), .byte (List.getD (List.drop (8 : Nat) (List.take (14 : Nat) s)) (2 : Nat) (0 : UInt8)), .byte (List.getD (List.drop (8 : Nat) (List.take (14 : Nat) s)) (3 : Nat) (0 : UInt8)), .byte (List.getD (List.drop (8 : Nat) (List.take (14 : Nat) s)) (4 : Nat) (0 : UInt8)), .byte (List.getD (List.drop (8 : Nat) (List.take (14 : Nat) s)) (5 : Nat) (0 : UInt8)),
 .str (List.drop (14 : Nat) (List.take (18 : Nat) s)), .str (List.drop (24 : Nat) (List.take (28 : Nat) s)), .bool (decide (List.getD s (7 : Nat) (0 : UInt8) = (2 : UInt8)))], .int .i64 0]) [])))) := by kernel_rfl
theorem neigh_readArp_p : ∀ args H K, ntRow nbReadArp args H K → fnP Try.prog Tnb7 ann_neigh_readArp Try.f80 args H K := by
  intro args H K h
  unfold ntRow at h
  split at h
  · rename_i s
    obtain ⟨hl, hK⟩ := h
    rw [neigh_readArp_eq]
    simp only [or_w16, div2, div3, add_w16, and255, b8_mod, List.set_cons_zero, List.set_cons_succ, andNot_4000, getD_drop, getD_take, b8_byte, b8_toNatN, UInt8.toNat_ofNat', UInt8.toNat_and, nat_mask4, nat_mask6, nat_240, u8_eq_iff, UInt8.reduceToNat, Int.reduceLT, List.take_succ_cons, List.take_zero, List.drop_zero, List.flatten_cons, List.flatten_nil, List.append_nil, List.nil_append, List.take_length, Nat.mul_one, Nat.zero_add, Nat.reduceAdd, Nat.reduceLT, List.length_drop, List.length_take]
    rcases nbReadArp_cases s with ⟨k1, e⟩ | ⟨k1, k2, k3, e⟩ <;> rw [e] at hK <;> simp only [ntV, noNt, noMc, mcAt, Nat.reduceAdd] at hK
    all_goals unfold nbStart at *
    all_goals (repeat' first | (refine And.intro (by first | first | omega | with_reducible exact i64_x256 _ | with_reducible exact i64_w16 _ _ | with_reducible exact i64_sum _ | (repeat' first | with_reducible exact i64_x256 _ | with_reducible exact i64_w16 _ _ | with_reducible exact i64_sum _ | with_reducible apply And.intro) <;> first | omega | (simp only [I64]; omega) | (simp; omega) | (simp; done) | (simp [I64]; omega) | (with_reducible refine impP_i (fun hg => ?_) <;> (try simp only [Bool.and_eq_true, Bool.or_eq_true, Bool.and_eq_false_iff, Bool.or_eq_false_iff, decide_eq_true_eq, decide_eq_false_iff_not, Bool.not_eq_true', Bool.not_eq_false', Bool.not_true, Bool.not_false, Bool.true_and, Bool.and_true, Bool.false_or, Bool.or_false, beq_iff_eq, beq_eq_false_iff_ne, ne_eq] at hg) <;> (first | omega | with_reducible exact i64_x256 _ | with_reducible exact i64_w16 _ _ | with_reducible exact i64_sum _ | (repeat' first | with_reducible exact i64_x256 _ | with_reducible exact i64_w16 _ _ | with_reducible exact i64_sum _ | with_reducible apply And.intro) <;> first | omega | (simp only [I64]; omega) | (simp; omega) | (simp; done) | (simp [I64]; omega)))) ?_) | (refine brP_d (fun h => ?_) (fun h => ?_)) | (refine optP_i (fun x hx => ?_) (fun hx => ?_) <;> (try have hxl := pseudo_len hx)) | (refine brP_nd (fun h => ?_) (fun h => ?_)) | (refine brP_i (fun h => ?_) (fun h => ?_) <;> (try simp only [Bool.and_eq_true, Bool.or_eq_true, Bool.and_eq_false_iff, Bool.or_eq_false_iff, decide_eq_true_eq, decide_eq_false_iff_not, Bool.not_eq_true', Bool.not_eq_false', Bool.not_true, Bool.not_false, Bool.true_and, Bool.and_true, Bool.false_or, Bool.or_false, beq_iff_eq, beq_eq_false_iff_ne, ne_eq] at h)))
    all_goals first
      | exact hK
      | (exfalso; omega)
      | trace_state
  · exact h.elim
def Tnb8 : Specs := ext Tnb7 80 (ntRow nbReadArp)
theorem Tnb8_sound : TSound Try.prog Tnb8 := ext_sound Tnb7_sound (row_of Tnb7_sound mixed Try.func80 (by decide +kernel) neigh_readArp_p)
def ann_neigh_readNd : Nat → List Nat × Nat × List (List Nat)
  | 5 => ([], 17, [[], [0], [0, 1], [0, 1, 2], [0, 1, 2, 3], [0, 1, 2, 3, 4], [0, 1, 2, 3, 4, 5], [0, 1, 2, 3, 4, 5, 6], [], [8], [8, 9], [0, 1, 2, 3, 8, 9, 10], [0, 1, 2, 3, 8, 9, 10, 11], [0, 1, 2, 3, 8, 9, 10, 11, 12], [0, 1, 2, 3, 8, 9, 10, 11, 12, 13], [0, 1, 2, 3, 8, 9, 10, 11, 12, 13, 14], [0, 1, 2, 3, 4, 5, 6, 7, 8, 9, 10, 11]])
  | 11 => ([], 8, [[], [0], [0, 1], [], [3], [], [5], [0, 1, 2, 3, 4, 5, 6]])
  | 12 => ([], 12, [[], [0], [0, 1], [], [3], [], [5], [], [7], [7, 8], [7, 8, 9], [0, 1, 2, 3, 4, 5, 6, 7, 8, 9, 10]])
  | 2000005 => ([], 18, [[], [0], [0, 1], [0, 1, 2], [0, 1, 2, 3], [0, 1, 2, 3, 4], [0, 1, 2, 3, 4, 5], [0, 1, 2, 3, 4, 5, 6], [], [8], [8, 9], [0, 1, 2, 3, 8, 9, 10], [0, 1, 2, 3, 8, 9, 10, 11], [0, 1, 2, 3, 8, 9, 10, 11, 12], [0, 1, 2, 3, 8, 9, 10, 11, 12, 13], [0, 1, 2, 3, 8, 9, 10, 11, 12, 13, 14], [0, 1, 2, 3, 4, 5, 6, 7, 8, 9, 10, 11]])
  | 2000006 => ([], 17, [[], [0], [0, 1], [0, 1, 2], [0, 1, 2, 3], [0, 1, 2, 3, 4], [0, 1, 2, 3, 4, 5], [0, 1, 2, 3, 4, 5, 6], [0, 1, 2, 3, 4, 5, 6, 7], [0, 1, 2, 3, 4, 5, 6, 7, 8], [0, 1, 2, 3, 4, 5, 6, 7, 8, 9], [0, 1, 2, 3, 4, 5, 6, 7, 8, 9, 10], [0, 1, 2, 3, 4, 5, 6, 7, 8, 9, 10, 11], [0, 1, 2, 3, 4, 5, 6, 7, 8, 9, 10, 11, 12], [0, 1, 2, 3, 4, 5, 6, 7, 8, 9, 10, 11, 12, 13], [0, 1, 2, 3, 4, 5, 6, 7, 8, 9, 10, 11, 12, 13, 14]])
  | _ => ([], 0, [])
set_option maxRecDepth 100000 in
theorem neigh_readNd_eq (s : List UInt8) (K : AVal → Hp → Prop) : fnP Try.prog Tnb8 ann_neigh_readNd Try.f81 [.str s] [] K = (
 List.length s ≤ (140737488355328 : Nat) ∧ brP (!decide ((ipDecode (List.take (List.length s) (List.drop (0 : Nat) s))).snd = (0 : Int))) (K (.tup [.agg [.int .i64 0, .byte 0, .byte 0, .byte 0, .byte 0, .byte 0, .byte 0, .str [], .str [], .bool false], .int .i64 40]) []) (brP (!decide ((↑(List.length (ipDecode (List.take (List.length s) (List.drop (0 : Nat) s))).fst.src) : Int) = (16 : Int))) (K (.tup [.agg [.int .i64 0, .byte 0, .byte 0, .byte 0, .byte 0, .byte 0, .byte 0, .str [], .str [], .bool false], .int .i64 40]) []) (brP (!decide ((ipDecode (List.take (List.length s) (List.drop (0 : Nat) s))).fst.proto = (58 : Int))) (K (.tup [.agg [.int .i64 0, .byte 0, .byte 0, .byte 0, .byte 0, .byte 0, .byte 0, .str [], .str [], .bool false], .int .i64 40]) []) (brP (!decide ((ipDecode (List.take (List.length s) (List.drop (0 : Nat) s))).fst.ttl = (255 : Int))) (K (.tup [.agg [.int .i64 0, .byte 0, .byte 0, .byte 0, .byte 0, .byte 0, .byte 0, .str [], .str [], .bool false], .int .i64 40]) []) (brP (!decide ((↑(List.length (ipDecode (List.take (List.length s) (List.drop (0 : Nat) s))).fst.body) : Int) = (32 : Int))) (K (.tup [.agg [.int .i64 0, .byte 0, .byte 0, .byte 0, .byte 0, .byte 0, .byte 0, .str [], .str [], .bool false], .int .i64 40]) []) (impP true ((0 : Int) ≤ (0 : Int) ∧ (0 : Int) < (↑(List.length (ipDecode (List.take (List.length s) (List.drop (0 : Nat) s))).fst.body) : Int)) ∧ impP (decide (List.getD (ipDecode (List.take (List.length s) (List.drop (0 : Nat) s))).fst.body (0 : Nat) (0 : UInt8) = (135 : UInt8))) ((0 : Int) ≤ (24 : Int) ∧ (24 : Int) < (↑(List.length (ipDecode (List.take (List.length s) (List.drop (0 : Nat) s))).fst.body) : Int)) ∧ impP true ((0 : Int) ≤ (0 : Int) ∧ (0 : Int) < (↑(List.length (ipDecode (List.take (List.length s) (List.drop (0 : Nat) s))).fst.body) : Int)) ∧ impP (decide (List.getD (ipDecode (List.take (List.length s) (List.drop (0 : Nat) s))).fst.body (0 : Nat) (0 : UInt8) = (136 : UInt8))) ((0 : Int) ≤ (24 : Int) ∧ (24 : Int) <
 (↑(List.length (ipDecode (List.take (List.length s) (List.drop (0 : Nat) s))).fst.body) : Int)) ∧ impP true ((0 : Int) ≤ (1 : Int) ∧ (1 : Int) < (↑(List.length (ipDecode (List.take (List.length s) (List.drop (0 : Nat) s))).fst.body) : Int)) ∧ impP (!(!decide (List.getD (ipDecode (List.take (List.length s) (List.drop (0 : Nat) s))).fst.body (1 : Nat) (0 : UInt8) = (0 : UInt8)) || !(decide (List.getD (ipDecode (List.take (List.length s) (List.drop (0 : Nat) s))).fst.body (0 : Nat) (0 : UInt8) = (135 : UInt8)) && decide (List.getD (ipDecode (List.take (List.length s) (List.drop (0 : Nat) s))).fst.body (24 : Nat) (0 : UInt8) = (1 : UInt8))) && !(decide (List.getD (ipDecode (List.take (List.length s) (List.drop (0 : Nat) s))).fst.body (0 : Nat) (0 : UInt8) = (136 : UInt8)) && decide (List.getD (ipDecode (List.take (List.length s) (List.drop (0 : Nat) s))).fst.body (24 : Nat) (0 : UInt8) = (2 : UInt8))))) ((0 : Int) ≤ (25 : Int) ∧ (25 : Int) < (↑(List.length (ipDecode (List.take (List.length s) (List.drop (0 : Nat) s))).fst.body) : Int)) ∧ brP (!decide (List.getD (ipDecode (List.take (List.length s) (List.drop (0 : Nat) s))).fst.body (1 : Nat) (0 : UInt8) = (0 : UInt8)) || !(decide (List.getD (ipDecode (List.take (List.length s) (List.drop (0 : Nat) s))).fst.body (0 : Nat) (0 : UInt8) = (135 : UInt8)) && decide (List.getD (ipDecode (List.take (List.length s) (List.drop (0 : Nat) s))).fst.body (24 : Nat) (0 : UInt8) = (1 : UInt8))) && !(decide (List.getD (ipDecode (List.take (List.length s) (List.drop (0 : Nat) s))).fst.body (0 : Nat) (0 : UInt8) = (136 : UInt8)) && decide (List.getD (ipDecode (List.take (List.length s) (List.drop (0 : Nat) s))).fst.body (24 : Nat) (0 : UInt8) = (2 : UInt8))) || !decide (List.getD (ipDecode (List.take (List.length s) (List.drop (0 : Nat) s))).fst.body (25 : Nat) (0 : UInt8) = (1 : UInt8))) (K (.tup [.agg [.int .i64 0, .byte 0, .byte 0, .byte 0, .byte 0, .byte 0, .byte 0, .str [], .str [], .bool false], .int .i64 40]) []) (optP
 (pseudo (ipDecode (List.take (List.length s) (List.drop (0 : Nat) s))).fst.src (ipDecode (List.take (List.length s) (List.drop (0 : Nat) s))).fst.dst (58 : Int) (↑(List.length (ipDecode (List.take (List.length s) (List.drop (0 : Nat) s))).fst.body) : Int)) (fun x => List.length (ipDecode (List.take (List.length s) (List.drop (0 : Nat) s))).fst.body ≤ (140737488355328 : Nat) ∧ ((2 : Nat) ≤ (1000 : Nat) ∧ List.length (List.flatten [List.take (List.length x) (List.drop (0 : Nat) x), List.take (List.length (ipDecode (List.take (List.length s) (List.drop (0 : Nat) s))).fst.body) (List.drop (0 : Nat) (ipDecode (List.take (List.length s) (List.drop (0 : Nat) s))).fst.body)]) ≤ (562949953421312 : Nat)) ∧ brP (!sumB (List.flatten [List.take (List.length x) (List.drop (0 : Nat) x), List.take (List.length (ipDecode (List.take (List.length s) (List.drop (0 : Nat) s))).fst.body) (List.drop (0 : Nat) (ipDecode (List.take (List.length s) (List.drop (0 : Nat) s))).fst.body)]) == (65535 : Int)) (K (.tup [.agg [.int .i64 0, .byte 0, .byte 0, .byte 0, .byte 0, .byte 0, .byte 0, .str [], .str [], .bool false], .int .i64 41]) []) (brP (decide (List.getD (ipDecode (List.take (List.length s) (List.drop (0 : Nat) s))).fst.body (0 : Nat) (0 : UInt8) = (135 : UInt8)) && decide (List.getD (ipDecode (List.take (List.length s) (List.drop (0 : Nat) s))).fst.body (24 : Nat) (0 : UInt8) = (1 : UInt8))) (((0 : Int) ≤ (26 : Int) ∧ (26 : Int) ≤ (↑(List.length (ipDecode (List.take (List.length s) (List.drop (0 : Nat) s))).fst.body) : Int)) ∧ (6 : Nat) ≤ List.length (List.drop (26 : Nat) (ipDecode (List.take (List.length s) (List.drop (0 : Nat) s))).fst.body) ∧ ((0 : Int) ≤ (8 : Int) ∧ (8 : Int) ≤ (24 : Int) ∧ (24 : Int) ≤ (↑(List.length (ipDecode (List.take (List.length s) (List.drop (0 : Nat) s))).fst.body) : Int)) ∧ K (.tup [.agg [.int .i64 1, .byte (List.getD (List.drop (26 : Nat) (ipDecode (List.take (List.length s) (List.drop (0 : Nat) s))).fst.body) (0 : Nat) (0 : UInt8)), .byte (List.getD
 (List.drop (26 : Nat) (ipDecode (List.take (List.length s) (List.drop (0 : Nat) s))).fst.body) (1 : Nat) (0 : UInt8)), .byte (List.getD (List.drop (26 : Nat) (ipDecode (List.take (List.length s) (List.drop (0 : Nat) s))).fst.body) (2 : Nat) (0 : UInt8)), .byte (List.getD (List.drop (26 : Nat) (ipDecode (List.take (List.length s) (List.drop (0 : Nat) s))).fst.body) (3 : Nat) (0 : UInt8)), .byte (List.getD (List.drop (26 : Nat) (ipDecode (List.take (List.length s) (List.drop (0 : Nat) s))).fst.body) (4 : Nat) (0 : UInt8)), .byte (List.getD (List.drop (26 : Nat) (ipDecode (List.take (List.length s) (List.drop (0 : Nat) s))).fst.body) (5 : Nat) (0 : UInt8)), .str (ipDecode (List.take (List.length s) (List.drop (0 : Nat) s))).fst.src, .str (List.drop (8 : Nat) (List.take (24 : Nat) (ipDecode (List.take (List.length s) (List.drop (0 : Nat) s))).fst.body)), .bool false], .int .i64 0]) []) (((0 : Int) ≤ (26 : Int) ∧ (26 : Int) ≤ (↑(List.length (ipDecode (List.take (List.length s) (List.drop (0 : Nat) s))).fst.body) : Int)) ∧ (6 : Nat) ≤ List.length (List.drop (26 : Nat) (ipDecode (List.take (List.length s) (List.drop (0 : Nat) s))).fst.body) ∧ ((0 : Int) ≤ (8 : Int) ∧ (8 : Int) ≤ (24 : Int) ∧ (24 : Int) ≤ (↑(List.length (ipDecode (List.take (List.length s) (List.drop (0 : Nat) s))).fst.body) : Int)) ∧ ((0 : Int) ≤ (4 : Int) ∧ (4 : Int) < (↑(List.length (ipDecode (List.take (List.length s) (List.drop (0 : Nat) s))).fst.body) : Int)) ∧ K (.tup [.agg [.int .i64 2, .byte (List.getD (List.drop (26 : Nat) (ipDecode (List.take (List.length s) (List.drop (0 : Nat) s))).fst.body) (0 : Nat) (0 : UInt8)), .byte (List.getD (List.drop (26 : Nat) (ipDecode (List.take (List.length s) (List.drop (0 : Nat) s))).fst.body) (1 : Nat) (0 : UInt8)), .byte (List.getD (List.drop (26 : Nat) (ipDecode (List.take (List.length s) (List.drop (0 : Nat) s))).fst.body) (2 : Nat) (0 : UInt8)), .byte (List.getD (List.drop (26 : Nat) (ipDecode (List.take (List.length s) (List.drop (0 : Nat) s))).fst.body)
 (3 : Nat) (0 : UInt8)), .byte (List.getD (List.drop (26 : Nat) (ipDecode (List.take (List.length s) (List.drop (0 : Nat) s))).fst.body) (4 : Nat) (0 : UInt8)), .byte (List.getD (List.drop (26 : Nat) (ipDecode (List.take (List.length s) (List.drop (0 : Nat) s))).fst.body) (5 : Nat) (0 : UInt8)), .str (List.drop (8 : Nat) (List.take (24 : Nat) (ipDecode (List.take (List.length s) (List.drop (0 : Nat) s))).fst.body)), .str (ipDecode (List.take (List.length s) (List.drop (0 : Nat) s))).fst.dst, .bool !decide (List.getD (ipDecode (List.take (List.length s) (List.drop (0 : Nat) s))).fst.body (4 : Nat) (0 : UInt8) &&& (64 : UInt8) = (0 : UInt8))], .int .i64 0]) []))) (List.length (ipDecode (List.take (List.length s) (List.drop (0 : Nat) s))).fst.body ≤ (140737488355328 : Nat) ∧ ((2 : Nat) ≤ (1000 : Nat) ∧ List.length (List.flatten [[], List.take (List.length (ipDecode (List.take (List.length s) (List.drop (0 : Nat) s))).fst.body) (List.drop (0 : Nat) (ipDecode (List.take (List.length s) (List.drop (0 : Nat) s))).fst.body)]) ≤ (562949953421312 : Nat)) ∧ brP (!sumB (List.flatten [[], List.take (List.length (ipDecode (List.take (List.length s) (List.drop (0 : Nat) s))).fst.body) (List.drop (0 : Nat) (ipDecode (List.take (List.length s) (List.drop (0 : Nat) s))).fst.body)]) == (65535 : Int)) (K (.tup [.agg [.int .i64 0, .byte 0, .byte 0, .byte 0, .byte 0, .byte 0, .byte 0, .str [], .str [], .bool false], .int .i64 41]) []) (brP (decide (List.getD (ipDecode (List.take (List.length s) (List.drop (0 : Nat) s))).fst.body (0 : Nat) (0 : UInt8) = (135 : UInt8)) && decide (List.getD (ipDecode (List.take (List.length s) (List.drop (0 : Nat) s))).fst.body (24 : Nat) (0 : UInt8) = (1 : UInt8))) (((0 : Int) ≤ (26 : Int) ∧ (26 : Int) ≤ (↑(List.length (ipDecode (List.take (List.length s) (List.drop (0 : Nat) s))).fst.body) : Int)) ∧ (6 : Nat) ≤ List.length (List.drop (26 : Nat) (ipDecode (List.take (List.length s) (List.drop (0 : Nat) s))).fst.body) ∧ ((0 : Int) ≤ (8 : Int) ∧
 (8 : Int) ≤ (24 : Int) ∧ (24 : Int) ≤ (↑(List.length (ipDecode (List.take (List.length s) (List.drop (0 : Nat) s))).fst.body) : Int)) ∧ K (.tup [.agg [.int .i64 1, .byte (List.getD (List.drop (26 : Nat) (ipDecode (List.take (List.length s) (List.drop (0 : Nat) s))).fst.body) (0 : Nat) (0 : UInt8)), .byte (List.getD (List.drop (26 : Nat) (ipDecode (List.take (List.length s) (List.drop (0 : Nat) s))).fst.body) (1 : Nat) (0 : UInt8)), .byte (List.getD (List.drop (26 : Nat) (ipDecode (List.take (List.length s) (List.drop (0 : Nat) s))).fst.body) (2 : Nat) (0 : UInt8)), .byte (List.getD (List.drop (26 : Nat) (ipDecode (List.take (List.length s) (List.drop (0 : Nat) s))).fst.body) (3 : Nat) (0 : UInt8)), .byte (List.getD (List.drop (26 : Nat) (ipDecode (List.take (List.length s) (List.drop (0 : Nat) s))).fst.body) (4 : Nat) (0 : UInt8)), .byte (List.getD (List.drop (26 : Nat) (ipDecode (List.take (List.length s) (List.drop (0 : Nat) s))).fst.body) (5 : Nat) (0 : UInt8)), .str (ipDecode (List.take (List.length s) (List.drop (0 : Nat) s))).fst.src, .str (List.drop (8 : Nat) (List.take (24 : Nat) (ipDecode (List.take (List.length s) (List.drop (0 : Nat) s))).fst.body)), .bool false], .int .i64 0]) []) (((0 : Int) ≤ (26 : Int) ∧ (26 : Int) ≤ (↑(List.length (ipDecode (List.take (List.length s) (List.drop (0 : Nat) s))).fst.body) : Int)) ∧ (6 : Nat) ≤ List.length (List.drop (26 : Nat) (ipDecode (List.take (List.length s) (List.drop (0 : Nat) s))).fst.body) ∧ ((0 : Int) ≤ (8 : Int) ∧ (8 : Int) ≤ (24 : Int) ∧ (24 : Int) ≤ (↑(List.length (ipDecode (List.take (List.length s) (List.drop (0 : Nat) s))).fst.body) : Int)) ∧ ((0 : Int) ≤ (4 : Int) ∧ (4 : Int) < (↑(List.length (ipDecode (List.take (List.length s) (List.drop (0 : Nat) s))).fst.body) : Int)) ∧ K (.tup [.agg [.int .i64 2, .byte (List.getD (List.drop (26 : Nat) (ipDecode (List.take (List.length s) (List.drop (0 : Nat) s))).fst.body) (0 : Nat) (0 : UInt8)), .byte (List.getD (List.drop (26 : Nat)
 (ipDecode (List.take (List.length s) (List.drop (0 : Nat) s))).fst.body) (1 : Nat) (0 : UInt8)), .byte (List.getD (List.drop (26 : Nat) (ipDecode (List.take (List.length s) (List.drop (0 : Nat) s))).fst.body) (2 : Nat) (0 : UInt8)), .byte (List.getD (List.drop (26 : Nat) (ipDecode (List.take (List.length s) (List.drop (0 : Nat) s))).fst.body) (3 : Nat) (0 : UInt8)), .byte (List.getD (List.drop (26 : Nat) (ipDecode (List.take (List.length s) (List.drop (0 : Nat) s))).fst.body) (4 : Nat) (0 : UInt8)), .byte (List.getD (List.drop (26 : Nat) (ipDecode (List.take (List.length s) (List.drop (0 : Nat) s))).fst.body) (5 : Nat) (0 : UInt8)), .str (List.drop (8 : Nat) (List.take (24 : Nat) (ipDecode (List.take (List.length s) (List.drop (0 : Nat) s))).fst.body)), .str (ipDecode (List.take (List.length s) (List.drop (0 : Nat) s))).fst.dst, .bool !decide (List.getD (ipDecode (List.take (List.length s) (List.drop (0 : Nat) s))).fst.body (4 : Nat) (0 : UInt8) &&& (64 : UInt8) = (0 : UInt8))], .int .i64 0]) [])))))))))) := by kernel_rfl
theorem neigh_readNd_p : ∀ args H K, ntRow nbReadNd args H K → fnP Try.prog Tnb8 ann_neigh_readNd Try.f81 args H K := by
  intro args H K h
  unfold ntRow at h
  split at h
  · rename_i s
    obtain ⟨hl, hK⟩ := h
    rw [neigh_readNd_eq]
    simp only [or_w16, div2, div3, add_w16, and255, b8_mod, List.set_cons_zero, List.set_cons_succ, andNot_4000, getD_drop, getD_take, b8_byte, b8_toNatN, UInt8.toNat_ofNat', UInt8.toNat_and, nat_mask4, nat_mask6, nat_240, u8_eq_iff, UInt8.reduceToNat, Int.reduceLT, List.take_succ_cons, List.take_zero, List.drop_zero, List.flatten_cons, List.flatten_nil, List.append_nil, List.nil_append, List.take_length, Nat.mul_one, Nat.zero_add, Nat.reduceAdd, Nat.reduceLT, List.length_drop, List.length_take]
    unfold nbReadNd at hK
    generalize ipDecode s = D at hK ⊢
    obtain ⟨⟨f, t, p, q, b⟩, e⟩ := D
    simp only at hK ⊢
    by_cases hbad : e ≠ 0 ∨ f.length ≠ 16 ∨ p ≠ 58 ∨ q ≠ 255 ∨ b.length ≠ 32
    · rw [if_pos hbad] at hK
      simp only [ntV, noNt, noMc] at hK
      refine ⟨by omega, ?_⟩
      refine brP_nd (fun _ => hK) (fun _ => ?_)
      refine brP_nd (fun _ => hK) (fun _ => ?_)
      refine brP_nd (fun _ => hK) (fun _ => ?_)
      refine brP_nd (fun _ => hK) (fun _ => ?_)
      refine brP_nd (fun _ => hK) (fun _ => ?_)
      exfalso; omega
    · rw [if_neg hbad] at hK
      obtain ⟨rfl, hf, rfl, rfl, hb⟩ : e = 0 ∧ f.length = 16 ∧ p = 58 ∧ q = 255 ∧ b.length = 32 := by omega
      simp only [hb, hf] at hK ⊢
      unfold nbReadP nbAsks nbTells pseudoL at hK
      simp only [ntV, mcAt, Nat.reduceAdd, Bool.and_eq_true, Bool.or_eq_true, Bool.and_eq_false_iff, Bool.or_eq_false_iff, decide_eq_true_eq, decide_eq_false_iff_not, Bool.not_eq_true', Bool.not_eq_false', Bool.not_true, Bool.not_false, Bool.true_and, Bool.and_true, Bool.false_or, Bool.or_false, beq_iff_eq, beq_eq_false_iff_ne, ne_eq] at hK
      have x0 := (b.getD 0 0).toNat_lt
      cases hps : pseudo f t 58 32 with
      | none =>
        simp only [hps, Option.getD_none, List.nil_append] at hK
        simp only [show (((32 : Nat) : Int)) = 32 from rfl, hps, optP_n, and64]
        repeat' first
          | (refine And.intro (by first | first | omega | with_reducible exact i64_x256 _ | with_reducible exact i64_w16 _ _ | with_reducible exact i64_sum _ | (repeat' first | with_reducible exact i64_x256 _ | with_reducible exact i64_w16 _ _ | with_reducible exact i64_sum _ | with_reducible apply And.intro) <;> first | omega | (simp only [I64]; omega) | (simp; omega) | (simp; done) | (simp [I64]; omega) | (with_reducible refine impP_i (fun hg => ?_) <;> (try simp only [Bool.and_eq_true, Bool.or_eq_true, Bool.and_eq_false_iff, Bool.or_eq_false_iff, decide_eq_true_eq, decide_eq_false_iff_not, Bool.not_eq_true', Bool.not_eq_false', Bool.not_true, Bool.not_false, Bool.true_and, Bool.and_true, Bool.false_or, Bool.or_false, beq_iff_eq, beq_eq_false_iff_ne, ne_eq] at hg) <;> (first | omega | with_reducible exact i64_x256 _ | with_reducible exact i64_w16 _ _ | with_reducible exact i64_sum _ | (repeat' first | with_reducible exact i64_x256 _ | with_reducible exact i64_w16 _ _ | with_reducible exact i64_sum _ | with_reducible apply And.intro) <;> first | omega | (simp only [I64]; omega) | (simp; omega) | (simp; done) | (simp [I64]; omega)))) ?_)
          | (refine brP_d (fun h => ?_) (fun h => ?_))
          | (refine optP_i (fun x hx => ?_) (fun hx => ?_) <;> (try have hxl := pseudo_len hx))
          | (refine brP_nd (fun h => ?_) (fun h => ?_))
          | (refine brP_i (fun h => ?_) (fun h => ?_) <;> (try simp only [Bool.and_eq_true, Bool.or_eq_true, Bool.and_eq_false_iff, Bool.or_eq_false_iff, decide_eq_true_eq, decide_eq_false_iff_not, Bool.not_eq_true', Bool.not_eq_false', Bool.not_true, Bool.not_false, Bool.true_and, Bool.and_true, Bool.false_or, Bool.or_false, beq_iff_eq, beq_eq_false_iff_ne, ne_eq] at h))
        all_goals repeat' split at hK
        all_goals first
          | exact hK
          | (exfalso; omega)
          | trace_state
      | some l =>
        have hl := pseudo_len hps
        simp only [hps, Option.getD_some] at hK
        simp only [show (((32 : Nat) : Int)) = 32 from rfl, hps, optP_s, and64, List.length_append, hb]
        repeat' first
          | (refine And.intro (by first | first | omega | with_reducible exact i64_x256 _ | with_reducible exact i64_w16 _ _ | with_reducible exact i64_sum _ | (repeat' first | with_reducible exact i64_x256 _ | with_reducible exact i64_w16 _ _ | with_reducible exact i64_sum _ | with_reducible apply And.intro) <;> first | omega | (simp only [I64]; omega) | (simp; omega) | (simp; done) | (simp [I64]; omega) | (with_reducible refine impP_i (fun hg => ?_) <;> (try simp only [Bool.and_eq_true, Bool.or_eq_true, Bool.and_eq_false_iff, Bool.or_eq_false_iff, decide_eq_true_eq, decide_eq_false_iff_not, Bool.not_eq_true', Bool.not_eq_false', Bool.not_true, Bool.not_false, Bool.true_and, Bool.and_true, Bool.false_or, Bool.or_false, beq_iff_eq, beq_eq_false_iff_ne, ne_eq] at hg) <;> (first | omega | with_reducible exact i64_x256 _ | with_reducible exact i64_w16 _ _ | with_reducible exact i64_sum _ | (repeat' first | with_reducible exact i64_x256 _ | with_reducible exact i64_w16 _ _ | with_reducible exact i64_sum _ | with_reducible apply And.intro) <;> first | omega | (simp only [I64]; omega) | (simp; omega) | (simp; done) | (simp [I64]; omega)))) ?_)
          | (refine brP_d (fun h => ?_) (fun h => ?_))
          | (refine optP_i (fun x hx => ?_) (fun hx => ?_) <;> (try have hxl := pseudo_len hx))
          | (refine brP_nd (fun h => ?_) (fun h => ?_))
          | (refine brP_i (fun h => ?_) (fun h => ?_) <;> (try simp only [Bool.and_eq_true, Bool.or_eq_true, Bool.and_eq_false_iff, Bool.or_eq_false_iff, decide_eq_true_eq, decide_eq_false_iff_not, Bool.not_eq_true', Bool.not_eq_false', Bool.not_true, Bool.not_false, Bool.true_and, Bool.and_true, Bool.false_or, Bool.or_false, beq_iff_eq, beq_eq_false_iff_ne, ne_eq] at h))
        all_goals repeat' split at hK
        all_goals first
          | exact hK
          | (exfalso; omega)
          | trace_state
  · exact h.elim
def Tnb9 : Specs := ext Tnb8 81 (ntRow nbReadNd)
theorem Tnb9_sound : TSound Try.prog Tnb9 := ext_sound Tnb8_sound (row_of Tnb8_sound mixed Try.func81 (by decide +kernel) neigh_readNd_p)
def ann_outriderref04_Near : Nat → List Nat × Nat × List (List Nat)
  | _ => ([], 0, [])
set_option maxRecDepth 100000 in
theorem ref04_Near_eq (a : List UInt8) (K : AVal → Hp → Prop) : fnP Try.prog Tnb9 ann_outriderref04_Near Try.f32 [.str a] [] K = (
 brP (!decide ((↑(List.length a) : Int) = (16 : Int))) (K (.str []) []) (((0 : Int) ≤ (16 : Int) ∧ (16 : Int) = (16 : Int) ∧ (16 : Int) ≤ (140737488355328 : Int)) ∧ ((0 : Int) ≤ (0 : Int) ∧ (0 : Int) < (16 : Int)) ∧ (0 : Nat) < (16 : Nat) ∧ ((0 : Int) ≤ (1 : Int) ∧ (1 : Int) < (16 : Int)) ∧ (1 : Nat) < (16 : Nat) ∧ ((0 : Int) ≤ (11 : Int) ∧ (11 : Int) < (16 : Int)) ∧ (11 : Nat) < (16 : Nat) ∧ ((0 : Int) ≤ (12 : Int) ∧ (12 : Int) < (16 : Int)) ∧ (12 : Nat) < (16 : Nat) ∧ ((0 : Int) ≤ (13 : Int) ∧ (13 : Int) < (↑(List.length a) : Int)) ∧ ((0 : Int) ≤ (13 : Int) ∧ (13 : Int) < (16 : Int)) ∧ (13 : Nat) < (16 : Nat) ∧ ((0 : Int) ≤ (14 : Int) ∧ (14 : Int) < (↑(List.length a) : Int)) ∧ ((0 : Int) ≤ (14 : Int) ∧ (14 : Int) < (16 : Int)) ∧ (14 : Nat) < (16 : Nat) ∧ ((0 : Int) ≤ (15 : Int) ∧ (15 : Int) < (↑(List.length a) : Int)) ∧ ((0 : Int) ≤ (15 : Int) ∧ (15 : Int) < (16 : Int)) ∧ (15 : Nat) < (16 : Nat) ∧ K (.str (List.take (16 : Nat) (List.drop (0 : Nat) (List.set (List.set (List.set [(255 : UInt8), (2 : UInt8), (0 : UInt8), (0 : UInt8), (0 : UInt8), (0 : UInt8), (0 : UInt8), (0 : UInt8), (0 : UInt8), (0 : UInt8), (0 : UInt8), (1 : UInt8), (255 : UInt8), (0 : UInt8), (0 : UInt8), (0 : UInt8)] (13 : Nat) (List.getD a (13 : Nat) (0 : UInt8))) (14 : Nat) (List.getD a (14 : Nat) (0 : UInt8))) (15 : Nat) (List.getD a (15 : Nat) (0 : UInt8)))))) [])) := by kernel_rfl
theorem outriderref04_Near_p : ∀ args H K, nearRow args H K → fnP Try.prog Tnb9 ann_outriderref04_Near Try.f32 args H K := by
  intro args H K h
  unfold nearRow at h
  split at h
  · rename_i a
    rw [ref04_Near_eq]
    revert h; intro hK
    unfold nbNear at hK
    by_cases h16 : a.length = 16
    · rw [if_pos h16] at hK
      repeat' first
        | (refine And.intro (by first | first | omega | with_reducible exact i64_x256 _ | with_reducible exact i64_w16 _ _ | with_reducible exact i64_sum _ | (repeat' first | with_reducible exact i64_x256 _ | with_reducible exact i64_w16 _ _ | with_reducible exact i64_sum _ | with_reducible apply And.intro) <;> first | omega | (simp only [I64]; omega) | (simp; omega) | (simp; done) | (simp [I64]; omega) | (with_reducible refine impP_i (fun hg => ?_) <;> (try simp only [Bool.and_eq_true, Bool.or_eq_true, Bool.and_eq_false_iff, Bool.or_eq_false_iff, decide_eq_true_eq, decide_eq_false_iff_not, Bool.not_eq_true', Bool.not_eq_false', Bool.not_true, Bool.not_false, Bool.true_and, Bool.and_true, Bool.false_or, Bool.or_false, beq_iff_eq, beq_eq_false_iff_ne, ne_eq] at hg) <;> (first | omega | with_reducible exact i64_x256 _ | with_reducible exact i64_w16 _ _ | with_reducible exact i64_sum _ | (repeat' first | with_reducible exact i64_x256 _ | with_reducible exact i64_w16 _ _ | with_reducible exact i64_sum _ | with_reducible apply And.intro) <;> first | omega | (simp only [I64]; omega) | (simp; omega) | (simp; done) | (simp [I64]; omega)))) ?_)
        | (refine brP_d (fun h => ?_) (fun h => ?_))
        | (refine optP_i (fun x hx => ?_) (fun hx => ?_) <;> (try have hxl := pseudo_len hx))
        | (refine brP_nd (fun h => ?_) (fun h => ?_))
        | (refine brP_i (fun h => ?_) (fun h => ?_) <;> (try simp only [Bool.and_eq_true, Bool.or_eq_true, Bool.and_eq_false_iff, Bool.or_eq_false_iff, decide_eq_true_eq, decide_eq_false_iff_not, Bool.not_eq_true', Bool.not_eq_false', Bool.not_true, Bool.not_false, Bool.true_and, Bool.and_true, Bool.false_or, Bool.or_false, beq_iff_eq, beq_eq_false_iff_ne, ne_eq] at h))
      all_goals first
        | (exfalso; omega)
        | (refine endK_eq hK ?_ rfl
           obtain ⟨_, _, _, _, _, _, _, _, _, _, _, _, _, _, _, _, rfl⟩ := list16 h16
           rfl)
    · rw [if_neg h16] at hK
      repeat' first
        | (refine And.intro (by first | first | omega | with_reducible exact i64_x256 _ | with_reducible exact i64_w16 _ _ | with_reducible exact i64_sum _ | (repeat' first | with_reducible exact i64_x256 _ | with_reducible exact i64_w16 _ _ | with_reducible exact i64_sum _ | with_reducible apply And.intro) <;> first | omega | (simp only [I64]; omega) | (simp; omega) | (simp; done) | (simp [I64]; omega) | (with_reducible refine impP_i (fun hg => ?_) <;> (try simp only [Bool.and_eq_true, Bool.or_eq_true, Bool.and_eq_false_iff, Bool.or_eq_false_iff, decide_eq_true_eq, decide_eq_false_iff_not, Bool.not_eq_true', Bool.not_eq_false', Bool.not_true, Bool.not_false, Bool.true_and, Bool.and_true, Bool.false_or, Bool.or_false, beq_iff_eq, beq_eq_false_iff_ne, ne_eq] at hg) <;> (first | omega | with_reducible exact i64_x256 _ | with_reducible exact i64_w16 _ _ | with_reducible exact i64_sum _ | (repeat' first | with_reducible exact i64_x256 _ | with_reducible exact i64_w16 _ _ | with_reducible exact i64_sum _ | with_reducible apply And.intro) <;> first | omega | (simp only [I64]; omega) | (simp; omega) | (simp; done) | (simp [I64]; omega)))) ?_)
        | (refine brP_d (fun h => ?_) (fun h => ?_))
        | (refine optP_i (fun x hx => ?_) (fun hx => ?_) <;> (try have hxl := pseudo_len hx))
        | (refine brP_nd (fun h => ?_) (fun h => ?_))
        | (refine brP_i (fun h => ?_) (fun h => ?_) <;> (try simp only [Bool.and_eq_true, Bool.or_eq_true, Bool.and_eq_false_iff, Bool.or_eq_false_iff, decide_eq_true_eq, decide_eq_false_iff_not, Bool.not_eq_true', Bool.not_eq_false', Bool.not_true, Bool.not_false, Bool.true_and, Bool.and_true, Bool.false_or, Bool.or_false, beq_iff_eq, beq_eq_false_iff_ne, ne_eq] at h))
      all_goals first | exact hK | (exfalso; omega) | (exact absurd trivial h)
  · exact h.elim
def Tnb10 : Specs := ext Tnb9 32 (nearRow)
theorem Tnb10_sound : TSound Try.prog Tnb10 := ext_sound Tnb9_sound (row_of Tnb9_sound mixed Try.func32 (by decide +kernel) outriderref04_Near_p)
abbrev Tnb11 : Specs := Tnb10
theorem Tnb11_sound : TSound Try.prog Tnb11 := Tnb10_sound
def ann_outriderref04_text : Nat → List Nat × Nat × List (List Nat)
  | _ => ([], 0, [])
def Tnb12 : Specs := ext Tnb11 30 (fnP Try.prog Tnb11 ann_outriderref04_text Try.f30)
theorem Tnb12_sound : TSound Try.prog Tnb12 := ext_sound Tnb11_sound (fn_row Tnb11_sound mixed Try.func30 (by decide +kernel))
def ann_outriderref04_all : Nat → List Nat × Nat × List (List Nat)
  | _ => ([], 0, [])
def Tnb13 : Specs := ext Tnb12 28 (fnP Try.prog Tnb12 ann_outriderref04_all Try.f28)
theorem Tnb13_sound : TSound Try.prog Tnb13 := ext_sound Tnb12_sound (fn_row Tnb12_sound mixed Try.func28 (by decide +kernel))
def ann_outriderref04_arp : Nat → List Nat × Nat × List (List Nat)
  | _ => ([], 0, [])
def Tnb14 : Specs := ext Tnb13 29 (fnP Try.prog Tnb13 ann_outriderref04_arp Try.f29)
theorem Tnb14_sound : TSound Try.prog Tnb14 := ext_sound Tnb13_sound (fn_row Tnb13_sound mixed Try.func29 (by decide +kernel))
def ann_outriderref04_kind : Nat → List Nat × Nat × List (List Nat)
  | _ => ([], 0, [])
def Tnb15 : Specs := ext Tnb14 26 (fnP Try.prog Tnb14 ann_outriderref04_kind Try.f26)
theorem Tnb15_sound : TSound Try.prog Tnb15 := ext_sound Tnb14_sound (fn_row Tnb14_sound mixed Try.func26 (by decide +kernel))
abbrev Tnb16 : Specs := Tnb15
theorem Tnb16_sound : TSound Try.prog Tnb16 := Tnb15_sound
def ann_outriderref04_nd : Nat → List Nat × Nat × List (List Nat)
  | 4 => ([], 15, [[], [0], [], [2], [2, 3], [], [5], [5, 6], [2, 3, 4, 5, 6, 7], [2, 3, 4, 5, 6, 7, 8], [0, 1, 2, 3, 4, 5, 6, 7, 8, 9], [], [11], [0, 1, 2, 3, 4, 5, 6, 7, 8, 9, 10, 11, 12], [0, 1, 2, 3, 4, 5, 6, 7, 8, 9, 10, 11, 12, 13]])
  | _ => ([], 0, [])
set_option maxRecDepth 100000 in
theorem ref04_nd_eq (m0 m1 m2 m3 m4 m5 t0 t1 t2 t3 t4 t5 : UInt8) (f t : List UInt8) (p q : Int) (b body : List UInt8) (K : AVal → Hp → Prop) : fnP Try.prog Tnb16 ann_outriderref04_nd Try.f31 [.agg [.byte m0, .byte m1, .byte m2, .byte m3, .byte m4, .byte m5], .agg [.byte t0, .byte t1, .byte t2, .byte t3, .byte t4, .byte t5], .agg [.str f, .str t, .int .i64 p, .int .i64 q, .str b], .str body] [] K = (
 optP (pseudo f t (58 : Int) (32 : Int)) (fun x => List.length (List.take (List.length x) (List.drop (0 : Nat) x)) + List.length body ≤ (4611686018427387904 : Nat) ∧ List.length (List.take (List.length x) (List.drop (0 : Nat) x) ++ body) ≤ (140737488355328 : Nat) ∧ I64 ((65535 : Int) - sumB (List.take (List.length (List.take (List.length x) (List.drop (0 : Nat) x) ++ body)) (List.drop (0 : Nat) (List.take (List.length x) (List.drop (0 : Nat) x) ++ body)))) ∧ ((0 : Int) ≤ (2 : Int) ∧ (2 : Int) ≤ (↑(List.length body) : Int)) ∧ ((256 : Int) ≠ (0 : Int) ∧ I64 (Int.tdiv ((65535 : Int) - sumB (List.take (List.length (List.take (List.length x) (List.drop (0 : Nat) x) ++ body)) (List.drop (0 : Nat) (List.take (List.length x) (List.drop (0 : Nat) x) ++ body)))) (256 : Int))) ∧ (256 : Int) ≠ (0 : Int) ∧ List.length (List.take (2 : Nat) body) + (2 : Nat) ≤ (4611686018427387904 : Nat) ∧ ((0 : Int) ≤ (4 : Int) ∧ (4 : Int) ≤ (↑(List.length body) : Int)) ∧ List.length (List.take (2 : Nat) body ++ List.take (2 : Nat) (List.drop (0 : Nat) [b8 (Int.tdiv ((65535 : Int) - sumB (List.take (List.length (List.take (List.length x) (List.drop (0 : Nat) x) ++ body)) (List.drop (0 : Nat) (List.take (List.length x) (List.drop (0 : Nat) x) ++ body)))) (256 : Int)), b8 (Int.tmod ((65535 : Int) - sumB (List.take (List.length (List.take (List.length x) (List.drop (0 : Nat) x) ++ body)) (List.drop (0 : Nat) (List.take (List.length x) (List.drop (0 : Nat) x) ++ body)))) (256 : Int))])) + List.length (List.drop (4 : Nat) body) ≤ (4611686018427387904 : Nat) ∧ optP (ipEncode (Ip.mk f t (58 : Int) (255 : Int) (List.take (2 : Nat) body ++ List.take (2 : Nat) (List.drop (0 : Nat) [b8 (Int.tdiv ((65535 : Int) - sumB (List.take (List.length (List.take (List.length x) (List.drop (0 : Nat) x) ++ body)) (List.drop (0 : Nat) (List.take (List.length x) (List.drop (0 : Nat) x) ++ body)))) (256 : Int)), b8 (Int.tmod ((65535 : Int) - sumB
 (List.take (List.length (List.take (List.length x) (List.drop (0 : Nat) x) ++ body)) (List.drop (0 : Nat) (List.take (List.length x) (List.drop (0 : Nat) x) ++ body)))) (256 : Int))]) ++ List.drop (4 : Nat) body))) (fun x => List.length (List.take (List.length x) (List.drop (0 : Nat) x)) ≤ (140737488351232 : Nat) ∧ optP (etEncode (Fm.mk (Mc.mk t0 t1 t2 t3 t4 t5) (Mc.mk m0 m1 m2 m3 m4 m5) (34525 : Int) (List.take (List.length x) (List.drop (0 : Nat) x)))) (fun x => K (.tup [.sl (0 : Nat) (0 : Nat) (List.length x) (1 : Nat), .int .i64 0]) [.bytes x]) (K (.tup [.nilS, .int .i64 1]) [])) (K (.tup [.nilS, .int .i64 1]) [])) ((0 : Nat) + List.length body ≤ (4611686018427387904 : Nat) ∧ List.length ([] ++ body) ≤ (140737488355328 : Nat) ∧ I64 ((65535 : Int) - sumB (List.take (List.length ([] ++ body)) (List.drop (0 : Nat) ([] ++ body)))) ∧ ((0 : Int) ≤ (2 : Int) ∧ (2 : Int) ≤ (↑(List.length body) : Int)) ∧ ((256 : Int) ≠ (0 : Int) ∧ I64 (Int.tdiv ((65535 : Int) - sumB (List.take (List.length ([] ++ body)) (List.drop (0 : Nat) ([] ++ body)))) (256 : Int))) ∧ (256 : Int) ≠ (0 : Int) ∧ List.length (List.take (2 : Nat) body) + (2 : Nat) ≤ (4611686018427387904 : Nat) ∧ ((0 : Int) ≤ (4 : Int) ∧ (4 : Int) ≤ (↑(List.length body) : Int)) ∧ List.length (List.take (2 : Nat) body ++ List.take (2 : Nat) (List.drop (0 : Nat) [b8 (Int.tdiv ((65535 : Int) - sumB (List.take (List.length ([] ++ body)) (List.drop (0 : Nat) ([] ++ body)))) (256 : Int)), b8 (Int.tmod ((65535 : Int) - sumB (List.take (List.length ([] ++ body)) (List.drop (0 : Nat) ([] ++ body)))) (256 : Int))])) + List.length (List.drop (4 : Nat) body) ≤ (4611686018427387904 : Nat) ∧ optP (ipEncode (Ip.mk f t (58 : Int) (255 : Int) (List.take (2 : Nat) body ++ List.take (2 : Nat) (List.drop (0 : Nat) [b8 (Int.tdiv ((65535 : Int) - sumB (List.take (List.length ([] ++ body)) (List.drop (0 : Nat) ([] ++ body)))) (256 : Int)), b8 (Int.tmod
 ((65535 : Int) - sumB (List.take (List.length ([] ++ body)) (List.drop (0 : Nat) ([] ++ body)))) (256 : Int))]) ++ List.drop (4 : Nat) body))) (fun x => List.length (List.take (List.length x) (List.drop (0 : Nat) x)) ≤ (140737488351232 : Nat) ∧ optP (etEncode (Fm.mk (Mc.mk t0 t1 t2 t3 t4 t5) (Mc.mk m0 m1 m2 m3 m4 m5) (34525 : Int) (List.take (List.length x) (List.drop (0 : Nat) x)))) (fun x => K (.tup [.sl (0 : Nat) (0 : Nat) (List.length x) (1 : Nat), .int .i64 0]) [.bytes x]) (K (.tup [.nilS, .int .i64 1]) [])) (K (.tup [.nilS, .int .i64 1]) []))) := by kernel_rfl
theorem outriderref04_nd_p : ∀ args H K, ndGRow args H K → fnP Try.prog Tnb16 ann_outriderref04_nd Try.f31 args H K := by
  intro args H K h
  unfold ndGRow at h
  split at h
  · rename_i m0 m1 m2 m3 m4 m5 t0 t1 t2 t3 t4 t5 f t p q b body
    obtain ⟨htg, hK⟩ := h
    rw [ref04_nd_eq]
    have iS : ∀ l, I64 (Int.tdiv (65535 - sumB l) 256) := fun l => by have := sumB_bd l; rw [Int.tdiv_eq_ediv_of_nonneg (by omega)]; unfold I64; omega
    have tS : ∀ l, [b8 (Int.tdiv (65535 - sumB l) 256), b8 (Int.tmod (65535 - sumB l) 256)] = two (65535 - sumB l) := fun l => tdT (by have := sumB_bd l; omega)
    have tk2 : ∀ (y z : UInt8), List.take 2 [y, z] = [y, z] := fun _ _ => rfl
    simp only [List.drop_zero, List.take_length, tk2, tS, iS, i64_sum, true_and]
    have hK' : optP (ipEncode (ndIp body f t)) (fun x => outK (etEncode ⟨⟨t0, t1, t2, t3, t4, t5⟩, ⟨m0, m1, m2, m3, m4, m5⟩, 34525, x⟩) K) (K (.tup [.nilS, .int .i64 1]) []) := by
      unfold ndG at hK; revert hK; cases ipEncode (ndIp body f t) <;> exact id
    unfold ndIp pseudoL at hK'
    have hl40 := @pseudo_len f t 58
    have n256 : ((256 : Int) ≠ 0) = True := eq_true (by decide)
    have tk3 : ∀ n, List.take 2 (two n) = two n := fun _ => rfl
    simp only [tk3, n256, true_and, List.length_append, List.length_take, List.length_drop, two_len, htg]
    have lims : ∀ X : Ip, ∀ x, ipEncode X = some x → x.length ≤ 1500 := fun X x hx => by
      have h1 := ipEnc_some hx
      unfold ipEncode at hx; rw [if_pos h1] at hx
      have := enc_len h1
      rw [Option.some.inj hx] at this; exact this
    cases hps : pseudo f t 58 32 with
    | none =>
      rw [hps] at hK'
      simp only [optP_n, Option.getD_none, List.nil_append] at hK' ⊢
      repeat' (refine And.intro (by first | first | omega | with_reducible exact i64_x256 _ | with_reducible exact i64_w16 _ _ | with_reducible exact i64_sum _ | (repeat' first | with_reducible exact i64_x256 _ | with_reducible exact i64_w16 _ _ | with_reducible exact i64_sum _ | with_reducible apply And.intro) <;> first | omega | (simp only [I64]; omega) | (simp; omega) | (simp; done) | (simp [I64]; omega) | (with_reducible refine impP_i (fun hg => ?_) <;> (try simp only [Bool.and_eq_true, Bool.or_eq_true, Bool.and_eq_false_iff, Bool.or_eq_false_iff, decide_eq_true_eq, decide_eq_false_iff_not, Bool.not_eq_true', Bool.not_eq_false', Bool.not_true, Bool.not_false, Bool.true_and, Bool.and_true, Bool.false_or, Bool.or_false, beq_iff_eq, beq_eq_false_iff_ne, ne_eq] at hg) <;> (first | omega | with_reducible exact i64_x256 _ | with_reducible exact i64_w16 _ _ | with_reducible exact i64_sum _ | (repeat' first | with_reducible exact i64_x256 _ | with_reducible exact i64_w16 _ _ | with_reducible exact i64_sum _ | with_reducible apply And.intro) <;> first | omega | (simp only [I64]; omega) | (simp; omega) | (simp; done) | (simp [I64]; omega)))) ?_)
      generalize hX : ipEncode _ = X at hK' ⊢
      cases X with
      | none => exact hK'
      | some x => exact ⟨by have := lims _ x hX; omega, hK'⟩
    | some l =>
      rw [hps] at hK'
      have hl := hl40 hps
      simp only [optP_s, Option.getD_some] at hK' ⊢
      repeat' (refine And.intro (by first | first | omega | with_reducible exact i64_x256 _ | with_reducible exact i64_w16 _ _ | with_reducible exact i64_sum _ | (repeat' first | with_reducible exact i64_x256 _ | with_reducible exact i64_w16 _ _ | with_reducible exact i64_sum _ | with_reducible apply And.intro) <;> first | omega | (simp only [I64]; omega) | (simp; omega) | (simp; done) | (simp [I64]; omega) | (with_reducible refine impP_i (fun hg => ?_) <;> (try simp only [Bool.and_eq_true, Bool.or_eq_true, Bool.and_eq_false_iff, Bool.or_eq_false_iff, decide_eq_true_eq, decide_eq_false_iff_not, Bool.not_eq_true', Bool.not_eq_false', Bool.not_true, Bool.not_false, Bool.true_and, Bool.and_true, Bool.false_or, Bool.or_false, beq_iff_eq, beq_eq_false_iff_ne, ne_eq] at hg) <;> (first | omega | with_reducible exact i64_x256 _ | with_reducible exact i64_w16 _ _ | with_reducible exact i64_sum _ | (repeat' first | with_reducible exact i64_x256 _ | with_reducible exact i64_w16 _ _ | with_reducible exact i64_sum _ | with_reducible apply And.intro) <;> first | omega | (simp only [I64]; omega) | (simp; omega) | (simp; done) | (simp [I64]; omega)))) ?_)
      generalize hX : ipEncode _ = X at hK' ⊢
      cases X with
      | none => exact hK'
      | some x => exact ⟨by have := lims _ x hX; omega, hK'⟩
  · exact h.elim
def Tnb17 : Specs := ext Tnb16 31 (ndGRow)
theorem Tnb17_sound : TSound Try.prog Tnb17 := ext_sound Tnb16_sound (row_of Tnb16_sound mixed Try.func31 (by decide +kernel) outriderref04_nd_p)
abbrev Tnb18 : Specs := Tnb17
theorem Tnb18_sound : TSound Try.prog Tnb18 := Tnb17_sound
abbrev Tnb19 : Specs := Tnb18
theorem Tnb19_sound : TSound Try.prog Tnb19 := Tnb18_sound
abbrev Tnb20 : Specs := Tnb19
theorem Tnb20_sound : TSound Try.prog Tnb20 := Tnb19_sound
abbrev Tnb21 : Specs := Tnb20
theorem Tnb21_sound : TSound Try.prog Tnb21 := Tnb20_sound
def ann_outriderref04_Ask : Nat → List Nat × Nat × List (List Nat)
  | 5 => ([], 13, [[], [], [], [0, 2], [], [0, 2, 3, 4], [], [6], [0, 2, 3, 4, 5, 6, 7], [0, 1, 2, 3, 4, 5, 6, 7, 8], [0, 1, 2, 3, 4, 5, 6, 7, 8, 9], [0, 1, 2, 3, 4, 5, 6, 7, 8, 9, 10], [0, 1, 2, 3, 4, 5, 6, 7, 8, 9, 10]])
  | 6 => ([], 8, [[], [0], [], [2], [], [4], [0, 1, 2, 3, 4, 5], []])
  | 7 => ([], 15, [[], [], [], [], [3], [2, 3, 4], [], [6], [6, 7], [], [3, 4, 9], [3, 4, 6, 7, 8, 9, 10], [0, 1, 2, 3, 4, 5, 6, 7, 8, 9, 10, 11], [0, 1, 2, 3, 4, 5, 6, 7, 8, 9, 10, 11, 12], [0, 1, 2, 3, 4, 5, 6, 7, 8, 9, 10, 11, 12]])
  | _ => ([], 0, [])
set_option maxRecDepth 100000 in
theorem ref04_Ask_eq (m0 m1 m2 m3 m4 m5 : UInt8) (a b : List UInt8) (K : AVal → Hp → Prop) : fnP Try.prog Tnb21 ann_outriderref04_Ask Try.f16 [.agg [.byte m0, .byte m1, .byte m2, .byte m3, .byte m4, .byte m5], .str a, .str b] [] K = (
 brP (decide ((↑(List.length a) : Int) = (↑(List.length b) : Int))) (brP (decide ((↑(List.length a) : Int) = (4 : Int))) (brP (decide ((↑(List.length a) : Int) = (0 : Int))) (K (.tup [.nilS, .int .i64 1]) []) (brP (decide ((↑(List.length a) : Int) = (4 : Int))) ((6 : Nat) + List.length a ≤ (4611686018427387904 : Nat) ∧ (6 : Nat) + List.length b ≤ (4611686018427387904 : Nat) ∧ (8 : Nat) ≤ (4611686018427387904 : Nat) ∧ (8 : Nat) + List.length ([m0, m1, m2, m3, m4, m5] ++ a) ≤ (4611686018427387904 : Nat) ∧ List.length ([(0 : UInt8), (1 : UInt8), (8 : UInt8), (0 : UInt8), (6 : UInt8), (4 : UInt8), (0 : UInt8), (1 : UInt8)] ++ ([m0, m1, m2, m3, m4, m5] ++ a)) + List.length ([(0 : UInt8), (0 : UInt8), (0 : UInt8), (0 : UInt8), (0 : UInt8), (0 : UInt8)] ++ b) ≤ (4611686018427387904 : Nat) ∧ List.length ([(0 : UInt8), (1 : UInt8), (8 : UInt8), (0 : UInt8), (6 : UInt8), (4 : UInt8), (0 : UInt8), (1 : UInt8)] ++ ([m0, m1, m2, m3, m4, m5] ++ a) ++ ([(0 : UInt8), (0 : UInt8), (0 : UInt8), (0 : UInt8), (0 : UInt8), (0 : UInt8)] ++ b)) ≤ (140737488351232 : Nat) ∧ optP (etEncode (Fm.mk (Mc.mk (255 : UInt8) (255 : UInt8) (255 : UInt8) (255 : UInt8) (255 : UInt8) (255 : UInt8)) (Mc.mk m0 m1 m2 m3 m4 m5) (2054 : Int) ([(0 : UInt8), (1 : UInt8), (8 : UInt8), (0 : UInt8), (6 : UInt8), (4 : UInt8), (0 : UInt8), (1 : UInt8)] ++ ([m0, m1, m2, m3, m4, m5] ++ a) ++ ([(0 : UInt8), (0 : UInt8), (0 : UInt8), (0 : UInt8), (0 : UInt8), (0 : UInt8)] ++ b)))) (fun x => K (.tup [.sl (0 : Nat) (0 : Nat) (List.length x) (1 : Nat), .int .i64 0]) [.bytes x]) (K (.tup [.nilS, .int .i64 1]) [])) (((0 : Int) ≤ (13 : Int) ∧ (13 : Int) < (↑(List.length b) : Int)) ∧ ((0 : Int) ≤ (14 : Int) ∧ (14 : Int) < (↑(List.length b) : Int)) ∧ ((0 : Int) ≤ (15 : Int) ∧ (15 : Int) < (↑(List.length b) : Int)) ∧ (8 : Nat) + List.length b ≤ (4611686018427387904 : Nat) ∧ List.length ([(135 : UInt8), (0 : UInt8), (0 : UInt8), (0 : UInt8), (0 : UInt8), (0 : UInt8), (0 : UInt8), (0 : UInt8)] ++ b) + (2 : Nat) ≤
 (4611686018427387904 : Nat) ∧ List.length ([(135 : UInt8), (0 : UInt8), (0 : UInt8), (0 : UInt8), (0 : UInt8), (0 : UInt8), (0 : UInt8), (0 : UInt8)] ++ b ++ [(1 : UInt8), (1 : UInt8)]) + (6 : Nat) ≤ (4611686018427387904 : Nat) ∧ List.length ([(135 : UInt8), (0 : UInt8), (0 : UInt8), (0 : UInt8), (0 : UInt8), (0 : UInt8), (0 : UInt8), (0 : UInt8)] ++ b ++ [(1 : UInt8), (1 : UInt8)] ++ [m0, m1, m2, m3, m4, m5]) = (32 : Nat) ∧ optP (ndG ([(135 : UInt8), (0 : UInt8), (0 : UInt8), (0 : UInt8), (0 : UInt8), (0 : UInt8), (0 : UInt8), (0 : UInt8)] ++ b ++ [(1 : UInt8), (1 : UInt8)] ++ [m0, m1, m2, m3, m4, m5]) (Mc.mk m0 m1 m2 m3 m4 m5) (Mc.mk (51 : UInt8) (51 : UInt8) (255 : UInt8) (List.getD b (13 : Nat) (0 : UInt8)) (List.getD b (14 : Nat) (0 : UInt8)) (List.getD b (15 : Nat) (0 : UInt8))) a (nbNear b)) (fun x => K (.tup [.sl (0 : Nat) (0 : Nat) (List.length x) (1 : Nat), .int .i64 0]) [.bytes x]) (K (.tup [.nilS, .int .i64 1]) [])))) (brP (decide ((↑(List.length a) : Int) = (16 : Int))) (brP (decide ((↑(List.length a) : Int) = (0 : Int))) (K (.tup [.nilS, .int .i64 1]) []) (brP (decide ((↑(List.length a) : Int) = (4 : Int))) ((6 : Nat) + List.length a ≤ (4611686018427387904 : Nat) ∧ (6 : Nat) + List.length b ≤ (4611686018427387904 : Nat) ∧ (8 : Nat) ≤ (4611686018427387904 : Nat) ∧ (8 : Nat) + List.length ([m0, m1, m2, m3, m4, m5] ++ a) ≤ (4611686018427387904 : Nat) ∧ List.length ([(0 : UInt8), (1 : UInt8), (8 : UInt8), (0 : UInt8), (6 : UInt8), (4 : UInt8), (0 : UInt8), (1 : UInt8)] ++ ([m0, m1, m2, m3, m4, m5] ++ a)) + List.length ([(0 : UInt8), (0 : UInt8), (0 : UInt8), (0 : UInt8), (0 : UInt8), (0 : UInt8)] ++ b) ≤ (4611686018427387904 : Nat) ∧ List.length ([(0 : UInt8), (1 : UInt8), (8 : UInt8), (0 : UInt8), (6 : UInt8), (4 : UInt8), (0 : UInt8), (1 : UInt8)] ++ ([m0, m1, m2, m3, m4, m5] ++ a) ++ ([(0 : UInt8), (0 : UInt8), (0 : UInt8), (0 : UInt8), (0 : UInt8), (0 : UInt8)] ++ b)) ≤ (140737488351232 : Nat) ∧ optP (etEncode
 (Fm.mk (Mc.mk (255 : UInt8) (255 : UInt8) (255 : UInt8) (255 : UInt8) (255 : UInt8) (255 : UInt8)) (Mc.mk m0 m1 m2 m3 m4 m5) (2054 : Int) ([(0 : UInt8), (1 : UInt8), (8 : UInt8), (0 : UInt8), (6 : UInt8), (4 : UInt8), (0 : UInt8), (1 : UInt8)] ++ ([m0, m1, m2, m3, m4, m5] ++ a) ++ ([(0 : UInt8), (0 : UInt8), (0 : UInt8), (0 : UInt8), (0 : UInt8), (0 : UInt8)] ++ b)))) (fun x => K (.tup [.sl (0 : Nat) (0 : Nat) (List.length x) (1 : Nat), .int .i64 0]) [.bytes x]) (K (.tup [.nilS, .int .i64 1]) [])) (((0 : Int) ≤ (13 : Int) ∧ (13 : Int) < (↑(List.length b) : Int)) ∧ ((0 : Int) ≤ (14 : Int) ∧ (14 : Int) < (↑(List.length b) : Int)) ∧ ((0 : Int) ≤ (15 : Int) ∧ (15 : Int) < (↑(List.length b) : Int)) ∧ (8 : Nat) + List.length b ≤ (4611686018427387904 : Nat) ∧ List.length ([(135 : UInt8), (0 : UInt8), (0 : UInt8), (0 : UInt8), (0 : UInt8), (0 : UInt8), (0 : UInt8), (0 : UInt8)] ++ b) + (2 : Nat) ≤ (4611686018427387904 : Nat) ∧ List.length ([(135 : UInt8), (0 : UInt8), (0 : UInt8), (0 : UInt8), (0 : UInt8), (0 : UInt8), (0 : UInt8), (0 : UInt8)] ++ b ++ [(1 : UInt8), (1 : UInt8)]) + (6 : Nat) ≤ (4611686018427387904 : Nat) ∧ List.length ([(135 : UInt8), (0 : UInt8), (0 : UInt8), (0 : UInt8), (0 : UInt8), (0 : UInt8), (0 : UInt8), (0 : UInt8)] ++ b ++ [(1 : UInt8), (1 : UInt8)] ++ [m0, m1, m2, m3, m4, m5]) = (32 : Nat) ∧ optP (ndG ([(135 : UInt8), (0 : UInt8), (0 : UInt8), (0 : UInt8), (0 : UInt8), (0 : UInt8), (0 : UInt8), (0 : UInt8)] ++ b ++ [(1 : UInt8), (1 : UInt8)] ++ [m0, m1, m2, m3, m4, m5]) (Mc.mk m0 m1 m2 m3 m4 m5) (Mc.mk (51 : UInt8) (51 : UInt8) (255 : UInt8) (List.getD b (13 : Nat) (0 : UInt8)) (List.getD b (14 : Nat) (0 : UInt8)) (List.getD b (15 : Nat) (0 : UInt8))) a (nbNear b)) (fun x => K (.tup [.sl (0 : Nat) (0 : Nat) (List.length x) (1 : Nat), .int .i64 0]) [.bytes x]) (K (.tup [.nilS, .int .i64 1]) [])))) (K (.tup [.nilS, .int .i64 1]) []))) (K (.tup [.nilS, .int .i64 1]) [])) := by kernel_rfl
theorem outriderref04_Ask_p : ∀ args H K, askRow args H K → fnP Try.prog Tnb21 ann_outriderref04_Ask Try.f16 args H K := by
  intro args H K h
  unfold askRow at h
  split at h
  · rename_i m0 m1 m2 m3 m4 m5 a b
    rw [ref04_Ask_eq]
    revert h; intro hK
    have hB := nbArp_is 1 ⟨m0, m1, m2, m3, m4, m5⟩ ⟨0, 0, 0, 0, 0, 0⟩ a b
    have hN := nbBody_is 135 0 1 b ⟨m0, m1, m2, m3, m4, m5⟩
    simp only at hB hN
    rcases nbAsk_cases ⟨m0, m1, m2, m3, m4, m5⟩ a b with ⟨h1, e⟩ | ⟨h1, e⟩ | ⟨h1, e⟩ <;> rw [e] at hK
    · simp only [List.length_append, List.length_cons, List.length_nil, hB, hN]
      repeat' first | (refine And.intro (by first | first | omega | with_reducible exact i64_x256 _ | with_reducible exact i64_w16 _ _ | with_reducible exact i64_sum _ | (repeat' first | with_reducible exact i64_x256 _ | with_reducible exact i64_w16 _ _ | with_reducible exact i64_sum _ | with_reducible apply And.intro) <;> first | omega | (simp only [I64]; omega) | (simp; omega) | (simp; done) | (simp [I64]; omega) | (with_reducible refine impP_i (fun hg => ?_) <;> (try simp only [Bool.and_eq_true, Bool.or_eq_true, Bool.and_eq_false_iff, Bool.or_eq_false_iff, decide_eq_true_eq, decide_eq_false_iff_not, Bool.not_eq_true', Bool.not_eq_false', Bool.not_true, Bool.not_false, Bool.true_and, Bool.and_true, Bool.false_or, Bool.or_false, beq_iff_eq, beq_eq_false_iff_ne, ne_eq] at hg) <;> (first | omega | with_reducible exact i64_x256 _ | with_reducible exact i64_w16 _ _ | with_reducible exact i64_sum _ | (repeat' first | with_reducible exact i64_x256 _ | with_reducible exact i64_w16 _ _ | with_reducible exact i64_sum _ | with_reducible apply And.intro) <;> first | omega | (simp only [I64]; omega) | (simp; omega) | (simp; done) | (simp [I64]; omega)))) ?_) | (refine brP_d (fun h => ?_) (fun h => ?_)) | (refine brP_nd (fun h => ?_) (fun h => ?_)) | (refine brP_i (fun h => ?_) (fun h => ?_) <;> (try simp only [Bool.and_eq_true, Bool.or_eq_true, Bool.and_eq_false_iff, Bool.or_eq_false_iff, decide_eq_true_eq, decide_eq_false_iff_not, Bool.not_eq_true', Bool.not_eq_false', Bool.not_true, Bool.not_false, Bool.true_and, Bool.and_true, Bool.false_or, Bool.or_false, beq_iff_eq, beq_eq_false_iff_ne, ne_eq] at h))
      all_goals first | exact hK | (exfalso; omega) | (exact absurd trivial h)
    · have hlen := nbBody_len (kind := 135) (flags := 0) (opt := 1) (target := b) (m := ⟨m0, m1, m2, m3, m4, m5⟩) (s := 0) (by omega)
      simp only [hB, hN, ndG_eq (show b.length = 16 by omega), hlen]
      simp only [List.length_append, List.length_cons, List.length_nil]
      try rw [near_many (by omega)] at hK
      try rw [every_many] at hK
      repeat' first | (refine And.intro (by first | first | omega | with_reducible exact i64_x256 _ | with_reducible exact i64_w16 _ _ | with_reducible exact i64_sum _ | (repeat' first | with_reducible exact i64_x256 _ | with_reducible exact i64_w16 _ _ | with_reducible exact i64_sum _ | with_reducible apply And.intro) <;> first | omega | (simp only [I64]; omega) | (simp; omega) | (simp; done) | (simp [I64]; omega) | (with_reducible refine impP_i (fun hg => ?_) <;> (try simp only [Bool.and_eq_true, Bool.or_eq_true, Bool.and_eq_false_iff, Bool.or_eq_false_iff, decide_eq_true_eq, decide_eq_false_iff_not, Bool.not_eq_true', Bool.not_eq_false', Bool.not_true, Bool.not_false, Bool.true_and, Bool.and_true, Bool.false_or, Bool.or_false, beq_iff_eq, beq_eq_false_iff_ne, ne_eq] at hg) <;> (first | omega | with_reducible exact i64_x256 _ | with_reducible exact i64_w16 _ _ | with_reducible exact i64_sum _ | (repeat' first | with_reducible exact i64_x256 _ | with_reducible exact i64_w16 _ _ | with_reducible exact i64_sum _ | with_reducible apply And.intro) <;> first | omega | (simp only [I64]; omega) | (simp; omega) | (simp; done) | (simp [I64]; omega)))) ?_) | (refine brP_d (fun h => ?_) (fun h => ?_)) | (refine brP_nd (fun h => ?_) (fun h => ?_)) | (refine brP_i (fun h => ?_) (fun h => ?_) <;> (try simp only [Bool.and_eq_true, Bool.or_eq_true, Bool.and_eq_false_iff, Bool.or_eq_false_iff, decide_eq_true_eq, decide_eq_false_iff_not, Bool.not_eq_true', Bool.not_eq_false', Bool.not_true, Bool.not_false, Bool.true_and, Bool.and_true, Bool.false_or, Bool.or_false, beq_iff_eq, beq_eq_false_iff_ne, ne_eq] at h))
      all_goals first | exact hK | (exfalso; omega) | (exact absurd trivial h)
    · simp only [hB, hN]
      have hal : (nbArpB 1 ⟨m0, m1, m2, m3, m4, m5⟩ a ⟨0, 0, 0, 0, 0, 0⟩ b).length = 28 := by unfold nbArpB Mc.bytes; simp; omega
      simp only [hal, List.length_append, List.length_cons, List.length_nil]
      repeat' first | (refine And.intro (by first | first | omega | with_reducible exact i64_x256 _ | with_reducible exact i64_w16 _ _ | with_reducible exact i64_sum _ | (repeat' first | with_reducible exact i64_x256 _ | with_reducible exact i64_w16 _ _ | with_reducible exact i64_sum _ | with_reducible apply And.intro) <;> first | omega | (simp only [I64]; omega) | (simp; omega) | (simp; done) | (simp [I64]; omega) | (with_reducible refine impP_i (fun hg => ?_) <;> (try simp only [Bool.and_eq_true, Bool.or_eq_true, Bool.and_eq_false_iff, Bool.or_eq_false_iff, decide_eq_true_eq, decide_eq_false_iff_not, Bool.not_eq_true', Bool.not_eq_false', Bool.not_true, Bool.not_false, Bool.true_and, Bool.and_true, Bool.false_or, Bool.or_false, beq_iff_eq, beq_eq_false_iff_ne, ne_eq] at hg) <;> (first | omega | with_reducible exact i64_x256 _ | with_reducible exact i64_w16 _ _ | with_reducible exact i64_sum _ | (repeat' first | with_reducible exact i64_x256 _ | with_reducible exact i64_w16 _ _ | with_reducible exact i64_sum _ | with_reducible apply And.intro) <;> first | omega | (simp only [I64]; omega) | (simp; omega) | (simp; done) | (simp [I64]; omega)))) ?_) | (refine brP_d (fun h => ?_) (fun h => ?_)) | (refine brP_nd (fun h => ?_) (fun h => ?_)) | (refine brP_i (fun h => ?_) (fun h => ?_) <;> (try simp only [Bool.and_eq_true, Bool.or_eq_true, Bool.and_eq_false_iff, Bool.or_eq_false_iff, decide_eq_true_eq, decide_eq_false_iff_not, Bool.not_eq_true', Bool.not_eq_false', Bool.not_true, Bool.not_false, Bool.true_and, Bool.and_true, Bool.false_or, Bool.or_false, beq_iff_eq, beq_eq_false_iff_ne, ne_eq] at h))
      all_goals first | exact hK | (exfalso; omega) | (exact absurd trivial h)
  · exact h.elim
def Tnb22 : Specs := ext Tnb21 16 (askRow)
theorem Tnb22_sound : TSound Try.prog Tnb22 := ext_sound Tnb21_sound (row_of Tnb21_sound mixed Try.func16 (by decide +kernel) outriderref04_Ask_p)
abbrev Tnb23 : Specs := Tnb22
theorem Tnb23_sound : TSound Try.prog Tnb23 := Tnb22_sound
abbrev Tnb24 : Specs := Tnb23
theorem Tnb24_sound : TSound Try.prog Tnb24 := Tnb23_sound
def ann_neigh_Read : Nat → List Nat × Nat × List (List Nat)
  | _ => ([], 0, [])
set_option maxRecDepth 100000 in
theorem neigh_Read_eq (a0 a1 a2 a3 a4 a5 b0 b1 b2 b3 b4 b5 : UInt8) (ty : Int) (b : List UInt8) (K : AVal → Hp → Prop) : fnP Try.prog Tnb24 ann_neigh_Read Try.f53 [.agg [.byte a0, .byte a1, .byte a2, .byte a3, .byte a4, .byte a5, .byte b0, .byte b1, .byte b2, .byte b3, .byte b4, .byte b5, .int .i64 ty, .str b]] [] K = (
 brP (decide (ty = (2054 : Int))) (List.length b ≤ (140737488351232 : Nat) ∧ K (.tup [.agg [.int .i64 (nbReadArp b).fst.kind, .byte (nbReadArp b).fst.mac.a0, .byte (nbReadArp b).fst.mac.a1, .byte (nbReadArp b).fst.mac.a2, .byte (nbReadArp b).fst.mac.a3, .byte (nbReadArp b).fst.mac.a4, .byte (nbReadArp b).fst.mac.a5, .str (nbReadArp b).fst.addr, .str (nbReadArp b).fst.target, .bool (nbReadArp b).fst.asked], .int .i64 (nbReadArp b).snd]) []) (brP (decide (ty = (34525 : Int))) (List.length b ≤ (140737488351232 : Nat) ∧ K (.tup [.agg [.int .i64 (nbReadNd b).fst.kind, .byte (nbReadNd b).fst.mac.a0, .byte (nbReadNd b).fst.mac.a1, .byte (nbReadNd b).fst.mac.a2, .byte (nbReadNd b).fst.mac.a3, .byte (nbReadNd b).fst.mac.a4, .byte (nbReadNd b).fst.mac.a5, .str (nbReadNd b).fst.addr, .str (nbReadNd b).fst.target, .bool (nbReadNd b).fst.asked], .int .i64 (nbReadNd b).snd]) []) (K (.tup [.agg [.int .i64 0, .byte 0, .byte 0, .byte 0, .byte 0, .byte 0, .byte 0, .str [], .str [], .bool false], .int .i64 40]) []))) := by kernel_rfl
theorem neigh_Read_p : ∀ args H K, readRow args H K → fnP Try.prog Tnb24 ann_neigh_Read Try.f53 args H K := by
  intro args H K h
  unfold readRow at h
  split at h
  · obtain ⟨hl, hK⟩ := h
    rw [neigh_Read_eq]
    unfold nbRead at hK
    simp only at hK
    refine brP_d (fun h => ⟨hl, ?_⟩) (fun h => ?_)
    · rw [if_pos h] at hK; exact hK
    rw [if_neg h] at hK
    refine brP_d (fun h => ⟨hl, ?_⟩) (fun h => ?_)
    · rw [if_pos h] at hK; exact hK
    · rw [if_neg h] at hK; exact hK
  · exact h.elim
def Tnb25 : Specs := ext Tnb24 53 (readRow)
theorem Tnb25_sound : TSound Try.prog Tnb25 := ext_sound Tnb24_sound (row_of Tnb24_sound mixed Try.func53 (by decide +kernel) neigh_Read_p)
abbrev Tnb : Specs := Tnb25
theorem Tnb_sound : TSound Try.prog Tnb := Tnb25_sound
end Go.Proofs.Ytnbbaemijogeoaa.Ae

set_option linter.unusedSimpArgs false
set_option linter.unusedVariables false
namespace Go.Proofs.Ytnbbaemijogeoaa.Ae
open Go Go.RowKit

/-- what a type's cells are -/
inductive Lf where
  | bool | int (k : IntKind) | byte | str | bytes
def repLf : Nat → List Lf → List Lf
  | 0, _ => []
  | n + 1, ks => ks ++ repLf n ks
def fieldsShape (P : Program) (f : TypeId → Option (List Lf)) : List Field → Nat → Option (List Lf)
  | [], _ => some []
  | x :: r, off => match f x.type, fieldsShape P f r (off + P.cellsOf x.type) with
    | some ks, some l => cond (Nat.beq x.offset off && Nat.beq ks.length (P.cellsOf x.type)) (some (ks ++ l)) none
    | _, _ => none
def shapeT (P : Program) : Nat → TypeId → Option (List Lf)
  | 0, _ => none
  | d + 1, t => match P.underlying t with
    | some .bool => some [.bool]
    | some (.int .u8) => some [.byte]
    | some (.int k) => some [.int k]
    | some .string => some [.str]
    | some (.struct fs) => match fieldsShape P (shapeT P d) fs.toList 0 with
      | some ks => cond (Nat.beq ks.length (P.cellsOf t)) (some ks) none
      | none => none
    | some (.array n e) => match shapeT P d e with
      | some ks => cond (Nat.beq ks.length (P.cellsOf e) && Nat.beq (n * P.cellsOf e) (P.cellsOf t)) (some (repLf n ks)) none
      | none => none
    | some (.slice e) => match P.underlying e with
      | some (.int .u8) => cond (Nat.beq (P.cellsOf e) 1 && Nat.beq (P.bytesOf e) 1) (some [.bytes]) none
      | _ => none
    | _ => none
def LfR (b : Bool) : Lf → AVal → Prop
  | .bool, v => ∃ c, v = .bool c
  | .int k, v => ∃ n, v = .int k n ∧ (Lit.int k n).wf = true
  | .byte, v => ∃ x, v = .byte x
  | .str, v => ∃ l, v = .str l ∧ l.length ≤ lim b
  | .bytes, v => ∃ l, v = .roB l ∧ l.length ≤ lim b
def LfsR (b : Bool) : List Lf → List AVal → Prop
  | [], vs => vs = []
  | k :: ks, vs => ∃ v r, vs = v :: r ∧ LfR b k v ∧ LfsR b ks r
theorem LfsR.append {b : Bool} : ∀ {ks ls : List Lf} {vs us : List AVal}, LfsR b ks vs → LfsR b ls us → LfsR b (ks ++ ls) (vs ++ us)
  | [], ls, vs, us, h, g => by simp only [LfsR] at h; subst h; exact g
  | k :: ks, ls, vs, us, ⟨v, r, h1, h2, h3⟩, g => by subst h1; exact ⟨v, r ++ us, rfl, h2, h3.append g⟩
theorem LfsR.length {b : Bool} : ∀ {ks : List Lf} {vs : List AVal}, LfsR b ks vs → vs.length = ks.length
  | [], vs, h => by simp only [LfsR] at h; subst h; rfl
  | k :: ks, vs, ⟨v, r, h1, h2, h3⟩ => by subst h1; simp [h3.length]

section
variable {H : Type} {enc : TypeId × Value → H} {b : Bool} {P : Program} {W : World}

/-- values, and that cells hold them -/
def Opens (b : Bool) (W : World) (ks : List Lf) (cs : List Value) : Prop := ∃ vs, LfsR b ks vs ∧ VL (old W) W Mp.nil [] vs cs ∧ ∀ x ∈ cs, x.oneCell' = true
theorem Opens.append {ks ls : List Lf} {cs ds : List Value} (h : Opens b W ks cs) (g : Opens b W ls ds) : Opens b W (ks ++ ls) (cs ++ ds) := by
  obtain ⟨vs, h1, h2, h3⟩ := h
  obtain ⟨us, g1, g2, g3⟩ := g
  refine ⟨vs ++ us, h1.append g1, VL.append h2 g2, fun x hx => ?_⟩
  rcases List.mem_append.1 hx with hx | hx
  · exact h3 x hx
  · exact g3 x hx
theorem Opens.one {k : Lf} {v : AVal} {c : Value} (h : LfR b k v) (hv : VR (old W) W Mp.nil [] v c) (hc : c.oneCell' = true) : Opens b W [k] [c] :=
  ⟨[v], ⟨v, [], rfl, h, rfl⟩, ⟨rfl, fun i u x hu hx => by
    cases i with
    | zero => simp at hu hx; subst hu hx; exact hv
    | succ i => simp at hu⟩, fun x hx => by simp at hx; subst hx; exact hc⟩
theorem Opens.nil : Opens b W [] [] := ⟨[], rfl, ⟨rfl, fun i v x h _ => by simp at h⟩, fun x hx => by simp at hx⟩

theorem opens_fields {f : TypeId → Option (List Lf)} {cs : List Value} (ih : ∀ t ks ds, f t = some ks → Rd enc b P W t ds → Opens b W ks ds) : ∀ (fs : List Field) (off : Nat) (ks : List Lf), fieldsShape P f fs off = some ks →
    (∀ x ∈ fs, Rd enc b P W x.type ((cs.drop x.offset).take (P.cellsOf x.type))) → Opens b W ks ((cs.drop off).take ks.length)
  | [], off, ks, h, _ => by simp only [fieldsShape, Option.some.injEq] at h; subst h; exact .nil
  | x :: r, off, ks, h, hr => by
    simp only [fieldsShape] at h
    split at h
    · rename_i k1 l h1 h2
      cases hc : Nat.beq x.offset off && Nat.beq k1.length (P.cellsOf x.type) with
      | false => rw [hc] at h; cases h
      | true =>
        rw [hc] at h
        simp only [cond_true, Option.some.injEq] at h
        subst h
        rw [Bool.and_eq_true] at hc
        have e1 := Nat.eq_of_beq_eq_true hc.1
        have e2 := Nat.eq_of_beq_eq_true hc.2
        have a1 := ih _ _ _ h1 (hr x (List.mem_cons_self ..))
        have a2 := opens_fields ih r _ _ h2 fun y hy => hr y (List.mem_cons_of_mem _ hy)
        rw [e1] at a1
        rw [List.length_append, List.take_add, List.drop_drop]
        rw [← e2] at a1 a2
        exact a1.append a2
    · cases h
theorem opens_array {ks : List Lf} {e : TypeId} {cs : List Value} (hk : ks.length = P.cellsOf e) (ih : ∀ ds, Rd enc b P W e ds → Opens b W ks ds) : ∀ (n i : Nat), (∀ j, j < n → Rd enc b P W e ((cs.drop ((i + j) * P.cellsOf e)).take (P.cellsOf e))) →
    Opens b W (repLf n ks) ((cs.drop (i * P.cellsOf e)).take (n * P.cellsOf e))
  | 0, i, _ => by simp only [repLf, Nat.zero_mul, List.take_zero]; exact .nil
  | n + 1, i, h => by
    have a1 := ih _ (h 0 (by omega))
    have a2 := opens_array hk ih n (i + 1) fun j hj => by
      have := h (j + 1) (by omega)
      rw [show i + 1 + j = i + (j + 1) by omega]; exact this
    rw [Nat.add_zero] at a1
    simp only [repLf]
    rw [Nat.add_mul, Nat.one_mul, Nat.add_comm (n * P.cellsOf e), List.take_add, List.drop_drop]
    rw [show (i + 1) * P.cellsOf e = i * P.cellsOf e + P.cellsOf e by rw [Nat.add_mul, Nat.one_mul]] at a2
    exact a1.append a2

theorem opens : ∀ (d : Nat) (t : TypeId) (ks : List Lf) (cs : List Value), shapeT P d t = some ks → Rd enc b P W t cs → Opens b W ks cs
  | 0, t, ks, cs, h, _ => by simp [shapeT] at h
  | d + 1, t, ks, cs, h, hr => by
    simp only [shapeT] at h
    split at h
    · rename_i ht; cases h
      obtain ⟨c, rfl⟩ := hr.bool ht
      exact .one ⟨c, rfl⟩ (.bool c) rfl
    · rename_i ht; cases h
      obtain ⟨n, rfl, hw⟩ := hr.int ht
      obtain ⟨x, rfl⟩ := u8_of hw
      exact .one ⟨x, rfl⟩ (.byte x) rfl
    · rename_i k _ ht; cases h
      obtain ⟨n, rfl, hw⟩ := hr.int ht
      exact .one ⟨n, rfl, hw⟩ (.int k n) rfl
    · rename_i ht; cases h
      obtain ⟨s, rfl, hs⟩ := hr.string ht
      have e : s = ⟨s.data.toList.toArray⟩ := by simp
      have hl : s.data.toList.length = s.size := rfl
      have := lim_le b
      refine .one (v := .str s.data.toList) ⟨_, rfl, by rw [hl]; exact hs⟩ ?_ rfl
      conv => arg 6; rw [e]
      exact .str _ (by rw [hl]; unfold big; omega)
    · rename_i fs ht
      obtain ⟨h1, h2⟩ := hr.struct ht
      split at h
      · rename_i ks' hk
        cases hc : Nat.beq ks'.length (P.cellsOf t) with
        | false => rw [hc] at h; cases h
        | true =>
          rw [hc] at h
          simp only [cond_true, Option.some.injEq] at h
          subst h
          have e := Nat.eq_of_beq_eq_true hc
          have := opens_fields (cs := cs) (fun t ks ds => opens d t ks ds) fs.toList 0 _ hk fun x hx => by
            obtain ⟨i, hi⟩ := List.getElem?_of_mem hx
            exact h2 i x (by rw [← Array.getElem?_toList]; exact hi)
          rwa [List.drop_zero, e, ← h1, List.take_length] at this
      · cases h
    · rename_i n e ht
      obtain ⟨h1, h2⟩ := hr.array ht
      split at h
      · rename_i ks' hk
        cases hc : Nat.beq ks'.length (P.cellsOf e) && Nat.beq (n * P.cellsOf e) (P.cellsOf t) with
        | false => rw [hc] at h; cases h
        | true =>
          rw [hc] at h
          simp only [cond_true, Option.some.injEq] at h
          subst h
          rw [Bool.and_eq_true] at hc
          have e1 := Nat.eq_of_beq_eq_true hc.1
          have e2 := Nat.eq_of_beq_eq_true hc.2
          have := opens_array (cs := cs) e1 (fun ds => opens d e _ ds hk) n 0 fun j hj => by rw [Nat.zero_add]; exact h2 j hj
          rwa [Nat.zero_mul, List.drop_zero, e2, ← h1, List.take_length] at this
      · cases h
    · rename_i e ht
      split at h
      · rename_i hu
        cases hc : Nat.beq (P.cellsOf e) 1 && Nat.beq (P.bytesOf e) 1 with
        | false => rw [hc] at h; cases h
        | true =>
          rw [hc] at h
          simp only [cond_true, Option.some.injEq] at h
          subst h
          rw [Bool.and_eq_true] at hc
          have hx : ∃ a n c, cs = [.slice a n c] := by
            rcases hr.slice ht with h1 | ⟨a, n, c, h1, _⟩
            · exact ⟨_, _, _, h1⟩
            · exact ⟨_, _, _, h1⟩
          obtain ⟨a, n, c, rfl⟩ := hx
          obtain ⟨l, hB, hc'⟩ := hr.bytes ht hu (Nat.eq_of_beq_eq_true hc.1) (Nat.eq_of_beq_eq_true hc.2)
          obtain ⟨l', hl, hv⟩ := bytes_arg (b := b) (W := W) (m := Mp.nil) (G := []) hB hc'
          exact .one ⟨l', rfl, hl⟩ hv rfl
      · cases h
    · cases h

theorem vl_nil : VL (old W) W Mp.nil [] [] [] := ⟨rfl, fun i v x h _ => by simp at h⟩
theorem vl_cons {a : AVal} {x : Value} {us : List AVal} {xs : List Value} (h : VR (old W) W Mp.nil [] a x) (hs : VL (old W) W Mp.nil [] us xs) : VL (old W) W Mp.nil [] (a :: us) (x :: xs) :=
  ⟨by simp [hs.1], fun i v y hv hy => by
    cases i with
    | zero => simp at hv hy; subst hv hy; exact h
    | succ i => exact hs.2 i v y (by simpa using hv) (by simpa using hy)⟩
theorem len_lim {l : List UInt8} (h : l.length ≤ lim b) : l.length ≤ 140737488351232 := Nat.le_trans h (lim_le b)
/-- one argument -/
theorem arg_of {t : TypeId} {v : Value} {d : Nat} {ks : List Lf} (hs : shapeT P d t = some ks) (h : RdV enc b P W t v) : ∃ vs, LfsR b ks vs ∧ VL (old W) W Mp.nil [] vs v.cells.toList ∧ ∀ x ∈ v.cells.toList, x.oneCell' = true :=
  opens d t ks _ hs h.2
theorem arg_agg {t : TypeId} {v : Value} {d : Nat} {ks : List Lf} (ht : (∃ fs, P.underlying t = some (.struct fs)) ∨ (∃ n e, P.underlying t = some (.array n e))) (hs : shapeT P d t = some ks) (h : RdV enc b P W t v) :
    ∃ vs, LfsR b ks vs ∧ VR (old W) W Mp.nil [] (.agg vs) v := by
  obtain ⟨cs, rfl, hc⟩ := h.agg ht
  obtain ⟨vs, h1, h2, h3⟩ := opens d t ks cs hs hc
  exact ⟨vs, h1, .agg vs cs h2.1 h2.2 h3⟩
end
end Go.Proofs.Ytnbbaemijogeoaa.Ae
set_option linter.unusedSimpArgs false
set_option linter.unusedVariables false
namespace Go.Proofs.Ytnbbaemijogeoaa.Ae
open Go Go.RowKit

section
variable {H : Type} (enc : TypeId × Value → H) (b : Bool) (P : Program) (W : World)

/-- the cells of a type, read as a thing -/
def OpenAs (t : TypeId) {α : Type} (en : α → List AVal) (Q : α → Prop) : Prop :=
  ∀ cs, Rd enc b P W t cs → ∃ a, Q a ∧ VL (old W) W Mp.nil [] (en a) cs ∧ ∀ x ∈ cs, x.oneCell' = true
def fieldsCells : List Field → Nat
  | [] => 0
  | x :: r => P.cellsOf x.type + fieldsCells r
def FieldsAs (fs : List Field) (off : Nat) {α : Type} (en : α → List AVal) (Q : α → Prop) : Prop :=
  ∀ cs : List Value, (∀ x ∈ fs, Rd enc b P W x.type ((cs.drop x.offset).take (P.cellsOf x.type))) → ∃ a, Q a ∧ VL (old W) W Mp.nil [] (en a) ((cs.drop off).take (fieldsCells P fs)) ∧ ∀ x ∈ (cs.drop off).take (fieldsCells P fs), x.oneCell' = true
variable {enc b P W}

theorem OpenAs.map {t : TypeId} {α β : Type} {en : α → List AVal} {Q : α → Prop} (h : OpenAs enc b P W t en Q) {en' : β → List AVal} {Q' : β → Prop} (g : α → β) (h1 : ∀ a, Q a → en' (g a) = en a) (h2 : ∀ a, Q a → Q' (g a)) : OpenAs enc b P W t en' Q' :=
  fun cs hr => let ⟨a, x, y, z⟩ := h cs hr
  ⟨g a, h2 a x, by rw [h1 a x]; exact y, z⟩
theorem open_int {t : TypeId} {k : IntKind} (ht : P.underlying t = some (.int k)) : OpenAs enc b P W t (fun n : Int => [.int k n]) (fun n => (Lit.int k n).wf = true) := by
  intro cs hr
  obtain ⟨n, rfl, hw⟩ := hr.int ht
  exact ⟨n, hw, vl_cons (.int k n) vl_nil, fun x hx => by simp at hx; subst hx; rfl⟩
theorem open_i64 {t : TypeId} (ht : P.underlying t = some (.int .i64)) : OpenAs enc b P W t (fun n : Int => [.int .i64 n]) (fun n => I64 n) :=
  (open_int ht).map id (fun _ _ => rfl) fun _ h => i64_bd h
theorem open_bool {t : TypeId} (ht : P.underlying t = some .bool) : OpenAs enc b P W t (fun c : Bool => [.bool c]) (fun _ => True) := by
  intro cs hr
  obtain ⟨c, rfl⟩ := hr.bool ht
  exact ⟨c, trivial, vl_cons (.bool c) vl_nil, fun x hx => by simp at hx; subst hx; rfl⟩
theorem open_str {t : TypeId} (ht : P.underlying t = some .string) : OpenAs enc b P W t (fun l : List UInt8 => [.str l]) (fun l => l.length ≤ 140737488351232) := by
  intro cs hr
  obtain ⟨s, rfl, hs⟩ := hr.string ht
  have e : s = ⟨s.data.toList.toArray⟩ := by simp
  have hl : s.data.toList.length = s.size := rfl
  have := lim_le b
  refine ⟨s.data.toList, by show s.data.toList.length ≤ _; omega, vl_cons ?_ vl_nil, fun x hx => by simp at hx; subst hx; rfl⟩
  conv => arg 6; rw [e]
  exact .str _ (by rw [hl]; unfold big; omega)
/-- by the type's shape -/
theorem open_shape {t : TypeId} {d : Nat} {ks : List Lf} (hs : shapeT P d t = some ks) : OpenAs enc b P W t (fun vs : List AVal => vs) (LfsR b ks) :=
  fun cs hr => let ⟨vs, h1, h2, h3⟩ := opens d t ks cs hs hr
  ⟨vs, h1, h2, h3⟩
theorem fields_nil {off : Nat} : FieldsAs enc b P W [] off (fun _ : Unit => []) (fun _ => True) := by
  intro cs _
  exact ⟨(), trivial, by simp only [fieldsCells, List.take_zero]; exact vl_nil, fun x hx => by simp [fieldsCells] at hx⟩
theorem fields_cons {x : Field} {r : List Field} {off : Nat} {α β : Type} {en : α → List AVal} {Q : α → Prop} {en' : β → List AVal} {Q' : β → Prop} (ho : x.offset = off) (h : OpenAs enc b P W x.type en Q)
    (h' : FieldsAs enc b P W r (off + P.cellsOf x.type) en' Q') : FieldsAs enc b P W (x :: r) off (fun a : α × β => en a.1 ++ en' a.2) (fun a => Q a.1 ∧ Q' a.2) := by
  intro cs hr
  obtain ⟨a, a1, a2, a3⟩ := h _ (hr x (List.mem_cons_self ..))
  obtain ⟨c, c1, c2, c3⟩ := h' cs fun y hy => hr y (List.mem_cons_of_mem _ hy)
  rw [ho] at a2 a3
  refine ⟨(a, c), ⟨a1, c1⟩, ?_, fun y hy => ?_⟩
  · simp only [fieldsCells]
    rw [List.take_add, List.drop_drop]
    exact VL.append a2 c2
  · simp only [fieldsCells] at hy
    rw [List.take_add, List.drop_drop] at hy
    rcases List.mem_append.1 hy with hy | hy
    · exact a3 y hy
    · exact c3 y hy
theorem open_struct {t : TypeId} {fs : Array Field} {α : Type} {en : α → List AVal} {Q : α → Prop} (ht : P.underlying t = some (.struct fs)) (hn : fieldsCells P fs.toList = P.cellsOf t) (h : FieldsAs enc b P W fs.toList 0 en Q) : OpenAs enc b P W t en Q := by
  intro cs hr
  obtain ⟨h1, h2⟩ := hr.struct ht
  obtain ⟨a, a1, a2, a3⟩ := h cs fun x hx => by
    obtain ⟨i, hi⟩ := List.getElem?_of_mem hx
    exact h2 i x (by rw [← Array.getElem?_toList]; exact hi)
  rw [hn, List.drop_zero, ← h1, List.take_length] at a2 a3
  exact ⟨a, a1, a2, a3⟩
theorem cell_old {w : World} {g off : Nat} {v : Value} (h : w.cell? ⟨g, off, none⟩ = some v) : old w g := by
  unfold old
  rcases Nat.lt_or_ge g w.heap.size with h' | h'
  · exact h'
  · unfold World.cell? at h
    simp [Array.getElem?_eq_none h'] at h
theorem open_slice {t e : TypeId} {α : Type} {en : α → List AVal} {Q : α → Prop} {sz : Nat} (d : α) (ht : P.underlying t = some (.slice e)) (hsz : P.cellsOf e = sz) (h1 : 1 ≤ sz) (hb : 1 ≤ P.bytesOf e) (hb2 : P.bytesOf e ≤ 1000000) (he : OpenAs enc b P W e en Q) (hlen : ∀ a, (en a).length = sz) :
    OpenAs enc b P W t (fun l : List α => [.ro l.length sz (fun i => en (l.getD i d))]) (fun l => (∀ a ∈ l, Q a) ∧ l.length * P.bytesOf e ≤ 140737488351232) := by
  intro cs hr
  have hlim := lim_le b
  rcases hr.slice ht with rfl | ⟨a, n, c, rfl, h2, h3, h4⟩
  · refine ⟨[], ⟨fun _ h => by simp at h, by simp⟩, vl_cons ?_ vl_nil, fun x hx => by simp at hx; subst hx; rfl⟩
    exact .ro 0 sz _ none 0 0 0 (fun _ _ => .bool true) (Nat.le_refl _) (Nat.zero_le _) (Nat.zero_le _) (fun h => by omega) (fun i j v h _ => by omega) (fun i j v h _ => by omega) (fun i h => by omega)
  · have hnb : n * P.bytesOf e ≤ 140737488351232 := by
      cases b with
      | true =>
        simp only [Nat.mul_one] at h3
        have h5 : n ≤ 1048576 := by unfold lim at h3; simp only at h3; omega
        calc n * P.bytesOf e ≤ 1048576 * 1000000 := Nat.mul_le_mul h5 hb2
          _ ≤ _ := by omega
      | false =>
        simp only at h3
        have := Nat.mul_le_mul_right (P.bytesOf e) h2
        omega
    have hc : c ≤ lim b := by
      cases b with
      | true => simpa using h3
      | false =>
        simp only at h3
        have := Nat.mul_le_mul_left c hb
        omega
    -- the elements
    have h5 : ∀ i, ∃ z : α × List Value, i < n → Q z.1 ∧ VL (old W) W Mp.nil [] (en z.1) z.2 ∧ (∀ x ∈ z.2, x.oneCell' = true) ∧ W.cells? 0 (a.add (i * P.cellsOf e)) (P.cellsOf e) = some z.2 := by
      intro i
      by_cases hi : i < n
      · obtain ⟨xs, hx, hr'⟩ := h4 i hi
        obtain ⟨z, q1, q2, q3⟩ := he xs hr'
        exact ⟨(z, xs), fun _ => ⟨q1, q2, q3, hx⟩⟩
      · exact ⟨(d, []), fun h => absurd h hi⟩
    let z : Nat → α × List Value := fun i => Classical.choose (h5 i)
    have hz : ∀ i, i < n → Q (z i).1 ∧ VL (old W) W Mp.nil [] (en (z i).1) (z i).2 ∧ (∀ x ∈ (z i).2, x.oneCell' = true) ∧ W.cells? 0 (a.add (i * P.cellsOf e)) (P.cellsOf e) = some (z i).2 := fun i => Classical.choose_spec (h5 i)
    have hget : ∀ i, i < n → ((List.range n).map fun i => (z i).1).getD i d = (z i).1 := fun i hi => by
      rw [List.getD_eq_getElem?_getD, List.getElem?_map, List.getElem?_range hi]; rfl
    refine ⟨(List.range n).map fun i => (z i).1, ⟨fun x hx => ?_, by simpa using hnb⟩, vl_cons ?_ vl_nil, fun x hx => by simp at hx; subst hx; rfl⟩
    · obtain ⟨i, hi, rfl⟩ := List.mem_map.1 hx
      exact (hz i (by simpa using hi)).1
    obtain ⟨g, off, spot⟩ := a
    have hsome : 0 < n → spot = none := fun hp => by
      have := (World.cells?_some (hz 0 hp).2.2.2).2.2 0 (by omega)
      rw [Nat.zero_mul] at this
      have hl := (hz 0 hp).2.1.1
      rw [hlen] at hl
      rw [List.getElem?_eq_getElem (by omega)] at this
      simpa [Addr.add] using World.cell?_spot this
    have key : ∀ i j v, i < n → (en (z i).1)[j]? = some v → ∃ x, (z i).2[j]? = some x ∧ W.cell? ⟨g, off + i * sz + j, none⟩ = some x ∧ x.oneCell' = true ∧ VR (old W) W Mp.nil [] v x := by
      intro i j v hi hv
      obtain ⟨q1, q2, q3, q4⟩ := hz i hi
      have hj := (List.getElem?_eq_some_iff.1 hv).1
      rw [hlen] at hj
      have hl := q2.1
      rw [hlen] at hl
      have hx := List.getElem?_eq_getElem (l := (z i).2) (i := j) (by omega)
      refine ⟨_, hx, ?_, q3 _ (List.getElem_mem _), q2.2 j _ _ hv hx⟩
      have := (World.cells?_some q4).2.2 j (by omega)
      rw [hx] at this
      rw [← this]
      have hs := hsome (by omega)
      subst hs
      rw [hsz]
      unfold Addr.add
      by_cases h0 : i * sz = 0
      · rw [if_pos h0]
        by_cases h00 : j = 0
        · rw [if_pos h00]; simp [h0, h00]
        · rw [if_neg h00]; simp [h0]
      · rw [if_neg h0]
        by_cases h00 : j = 0
        · rw [if_pos h00]; simp [h00]
        · rw [if_neg h00]
    have hgen := VR.ro (R := old W) (w := W) (m := Mp.nil) (H := []) n sz (fun i => en (((List.range n).map fun i => (z i).1).getD i d)) (some ⟨g, off, spot⟩) c g off (fun i j => ((z i).2[j]?).getD (.bool true)) h2 (by unfold maxI; omega) (by unfold room; omega) ?_ ?_ ?_ ?_
    · have hnl : ((List.range n).map fun i => (z i).1).length = n := by simp
      conv => arg 5; rw [hnl]
      exact hgen
    · intro hp
      refine ⟨by rw [hsome hp], ?_⟩
      have hl : 0 < (en (z 0).1).length := by rw [hlen]; omega
      obtain ⟨x, _, hc, _⟩ := key 0 0 _ hp (List.getElem?_eq_getElem hl)
      exact cell_old hc
    · intro i j v hi hv
      rw [hget i hi] at hv
      obtain ⟨x, k1, k2, k3, _⟩ := key i j v hi hv
      rw [k1]
      exact ⟨k2, k3⟩
    · intro i j v hi hv
      rw [hget i hi] at hv
      obtain ⟨x, k1, _, _, k4⟩ := key i j v hi hv
      rw [k1]
      exact k4
    · intro i _
      exact hlen _
/-- an argument that is one cell -/
theorem arg_one {t : TypeId} {v : Value} {α : Type} {en : α → AVal} {Q : α → Prop} (h : OpenAs enc b P W t (fun a => [en a]) Q) (hv : RdV enc b P W t v) (hc : v.cells.toList = [v]) : ∃ a, Q a ∧ VR (old W) W Mp.nil [] (en a) v := by
  obtain ⟨a, h1, h2, h3⟩ := h _ hv.2
  rw [hc] at h2
  obtain ⟨u, hu, h4⟩ := h2.one
  cases hu
  exact ⟨a, h1, h4⟩
theorem arg_slice {t e : TypeId} {v : Value} {α : Type} {en : α → AVal} {Q : α → Prop} (ht : P.underlying t = some (.slice e)) (h : OpenAs enc b P W t (fun a => [en a]) Q) (hv : RdV enc b P W t v) : ∃ a, Q a ∧ VR (old W) W Mp.nil [] (en a) v := by
  obtain ⟨x, n, c, rfl, _⟩ := hv.slice ht
  exact arg_one h hv rfl
theorem arg_struct {t : TypeId} {v : Value} {α : Type} {en : α → List AVal} {Q : α → Prop} (ht : (∃ fs, P.underlying t = some (.struct fs)) ∨ (∃ n e, P.underlying t = some (.array n e))) (h : OpenAs enc b P W t en Q) (hv : RdV enc b P W t v) : ∃ a, Q a ∧ VR (old W) W Mp.nil [] (.agg (en a)) v := by
  obtain ⟨cs, rfl, hc⟩ := hv.agg ht
  obtain ⟨a, h1, h2, h3⟩ := h cs hc
  exact ⟨a, h1, .agg _ cs h2.1 h2.2 h3⟩
end
end Go.Proofs.Ytnbbaemijogeoaa.Ae
set_option linter.unusedSimpArgs false
set_option linter.unusedVariables false
namespace Go.Proofs.Ytnbbaemijogeoaa.Ae
open Go Go.RowKit

def VE (H : Hp) (v v' : AVal) : Prop := ∀ R w m x, Sim R w m H → VR R w m H v x → VR R w m H v' x
def ArgsLe (H : Hp) (us bs : List AVal) : Prop := ∀ R w m xs, Sim R w m H → VL R w m H us xs → VL R w m H bs xs
def ResLe (v : AVal) (H' : Hp) (v2 : AVal) (H2 : Hp) : Prop := ∀ R w m x, Sim R w m H' → VR R w m H' v x → ∃ R2 m2, Far R w m H' R2 w m2 H2 ∧ VR R2 w m2 H2 v2 x
theorem VE.refl {H : Hp} {v : AVal} : VE H v v := fun _ _ _ _ _ h => h
theorem VE.ro {H : Hp} {n sz : Nat} {f f' : Nat → List AVal} (h : ∀ i, i < n → f i = f' i) : VE H (.ro n sz f) (.ro n sz f') := by
  intro R w m x _ hv
  cases hv with
  | ro _ _ _ a c g off X h1 h2 h3 h4 h5 h6 h7 =>
    exact .ro n sz f' a c g off X h1 h2 h3 h4 (fun i j v hi hv => h5 i j v hi (by rw [h i hi]; exact hv)) (fun i j v hi hv => h6 i j v hi (by rw [h i hi]; exact hv)) (fun i hi => by rw [← h i hi]; exact h7 i hi)
theorem ArgsLe.refl {H : Hp} {us : List AVal} : ArgsLe H us us := fun _ _ _ _ _ h => h
theorem ArgsLe.nil {H : Hp} : ArgsLe H [] [] := ArgsLe.refl
theorem ArgsLe.cons {H : Hp} {a b : AVal} {us bs : List AVal} (h : VE H a b) (hs : ArgsLe H us bs) : ArgsLe H (a :: us) (b :: bs) := by
  intro R w m xs hS hx
  obtain ⟨x, r, rfl, h1, h2⟩ := hx.cons_inv
  exact VL.cons (h R w m x hS h1) (hs R w m r hS h2)
theorem VE.agg {H : Hp} {cs ds : List AVal} (h : ArgsLe H cs ds) : VE H (.agg cs) (.agg ds) := by
  intro R w m x hS hv
  cases hv with
  | agg _ xs h1 h2 h3 =>
    have := h R w m xs hS ⟨h1, h2⟩
    exact .agg ds xs this.1 this.2 h3
theorem ResLe.refl {v : AVal} {H : Hp} : ResLe v H v H := fun R w m _ hS hv => ⟨R, m, .refl hS, hv⟩
theorem ResLe.val {v v' : AVal} {H : Hp} (h : VE H v v') : ResLe v H v' H := fun R w m x hS hv => ⟨R, m, .refl hS, h R w m x hS hv⟩
theorem ResLe.trans {v v2 v3 : AVal} {H H2 H3 : Hp} (h : ResLe v H v2 H2) (h' : ResLe v2 H2 v3 H3) : ResLe v H v3 H3 := fun R w m x hS hv => by
  obtain ⟨R2, m2, F, V⟩ := h R w m x hS hv
  obtain ⟨R3, m3, F', V'⟩ := h' R2 w m2 x F.sim V
  exact ⟨R3, m3, F.trans F', V'⟩
theorem row_weak {P : Program} {T : Specs} {ann : Nat → List Nat × Nat × List (List Nat)} {k : Nat} {fn : Func} {S : Srow} (hT : TSound P T) (hm : P.follows .mixedOrders = true)
    (hf : P.funcs[k]? = some fn) (hname : (fn.name == "runtime.NumGoroutine") = false)
    (hS : ∀ args H K, S args H K → ∃ args', ArgsLe H args args' ∧ fnP P T ann fn args' H (fun v H' => ∃ v2 H2, ResLe v H' v2 H2 ∧ K v2 H2)) : RSound P k S := by
  intro args H K h
  obtain ⟨args', hA, hF⟩ := hS args H K h
  obtain ⟨v, H', ⟨v2, H2, hR, hK⟩, hG⟩ := fn_sound hT hm hf hname hF
  refine ⟨v2, H2, hK, hG.fn, fun R w m xs hSim hx => ?_⟩
  refine (hG.run R w m xs hSim (hA R w m xs hSim hx)).mono ?_
  rintro e w' ⟨R', m', x, he, F, V⟩
  obtain ⟨R2, m2, F2, V2⟩ := hR R' w' m' x F.sim V
  exact ⟨R2, m2, x, he, F.trans F2, V2⟩

end Go.Proofs.Ytnbbaemijogeoaa.Ae
namespace Go.Proofs.Ytnbbaemijogeoaa
open Go Ae
/-! ### slices of strings -/
def strAt (f : Nat → List AVal) (i : Nat) : List UInt8 := match f i with
  | [.str l] => l
  | _ => []
def strs (n : Nat) (f : Nat → List AVal) : List (List UInt8) := (List.range n).map (strAt f)
def IsStrs (n : Nat) (f : Nat → List AVal) : Prop := ∀ i, i < n → f i = [.str (strAt f i)]
theorem strs_len {n : Nat} {f : Nat → List AVal} : (strs n f).length = n := by simp [strs]
theorem strs_get {n : Nat} {f : Nat → List AVal} {i : Nat} (h : i < n) : (strs n f)[i]? = some (strAt f i) := by
  unfold strs; rw [List.getElem?_map, List.getElem?_range h]; rfl
theorem strs_of (ls : List (List UInt8)) : strs ls.length (fun i => [.str (ls.getD i [])]) = ls := by
  apply List.ext_getElem?
  intro i
  rcases Nat.lt_or_ge i ls.length with h | h
  · rw [strs_get h]
    simp [strAt, List.getD_eq_getElem?_getD, h]
  · rw [List.getElem?_eq_none (by rw [strs_len]; exact h), List.getElem?_eq_none h]
theorem isStrs_of (n : Nat) (g : Nat → List UInt8) : IsStrs n (fun i => [.str (g i)]) := fun i _ => rfl
/-- the strings alone -/
def onlyStrs (f : Nat → List AVal) : Nat → List AVal := fun i => [.str (strAt f i)]
theorem strs_only (n : Nat) (f : Nat → List AVal) : strs n (onlyStrs f) = strs n f := rfl
end Go.Proofs.Ytnbbaemijogeoaa
namespace Go.Proofs.Ytnbbaemijogeoaa.Ae
open Go Go.RowKit
theorem VE.strs {H : Hp} {n : Nat} {f : Nat → List AVal} (h : IsStrs n f) : VE H (.ro n 1 f) (.ro n 1 (onlyStrs f)) := VE.ro fun i hi => h i hi
end Go.Proofs.Ytnbbaemijogeoaa.Ae
set_option linter.unusedSimpArgs false
set_option linter.unusedVariables false
set_option maxRecDepth 100000
namespace Go.Proofs.Ytnbbaemijogeoaa
open Go Ae
structure BkV where
  name : List UInt8
  addr : List UInt8
  mac : Mc
  port : Int
  weight : Int
structure SvV where
  name : List UInt8
  vip : List UInt8
  proto : Int
  port : Int
  mode : Int
  sched : Int
  rise : Int
  fall : Int
  probe : Int
  bks : List BkV
structure TrV where
  name : List UInt8
  weight : Int
structure CfV where
  mac : Mc
  addr : List UInt8
  peer : List UInt8
  id : Int
  pri : Int
  every : Int
  pre : Bool
  vips : List (List UInt8)
  trs : List TrV
  svs : List SvV
def bk0 : BkV := ⟨[], [], noMc, 0, 0⟩
def sv0 : SvV := ⟨[], [], 0, 0, 0, 0, 0, 0, 0, []⟩
def tr0 : TrV := ⟨[], 0⟩
end Go.Proofs.Ytnbbaemijogeoaa
namespace Go.Proofs.Ytnbbaemijogeoaa.Ae
open Go Go.RowKit
def macCells (m : Mc) : List AVal := [.byte m.a0, .byte m.a1, .byte m.a2, .byte m.a3, .byte m.a4, .byte m.a5]
def bkCells (b : BkV) : List AVal := [.str b.name, .str b.addr, .byte b.mac.a0, .byte b.mac.a1, .byte b.mac.a2, .byte b.mac.a3, .byte b.mac.a4, .byte b.mac.a5, .int .i64 b.port, .int .i64 b.weight]
end Go.Proofs.Ytnbbaemijogeoaa.Ae
namespace Go.Proofs.Ytnbbaemijogeoaa
open Go Ae
def bkF (l : List BkV) : Nat → List AVal := fun i => bkCells (l.getD i bk0)
end Go.Proofs.Ytnbbaemijogeoaa
namespace Go.Proofs.Ytnbbaemijogeoaa.Ae
open Go Go.RowKit
def svCells (s : SvV) : List AVal := [.str s.name, .str s.vip, .int .i64 s.proto, .int .i64 s.port, .int .i64 s.mode, .int .i64 s.sched, .int .i64 s.rise, .int .i64 s.fall, .int .i64 s.probe, .ro s.bks.length 10 (bkF s.bks)]
end Go.Proofs.Ytnbbaemijogeoaa.Ae
namespace Go.Proofs.Ytnbbaemijogeoaa
open Go Ae
def svF (l : List SvV) : Nat → List AVal := fun i => svCells (l.getD i sv0)
end Go.Proofs.Ytnbbaemijogeoaa
namespace Go.Proofs.Ytnbbaemijogeoaa.Ae
open Go Go.RowKit
end Go.Proofs.Ytnbbaemijogeoaa.Ae
namespace Go.Proofs.Ytnbbaemijogeoaa
open Go Ae
def trF (l : List TrV) : Nat → List AVal := fun i => [.str (l.getD i tr0).name, .int .i64 (l.getD i tr0).weight]
end Go.Proofs.Ytnbbaemijogeoaa
namespace Go.Proofs.Ytnbbaemijogeoaa.Ae
open Go Go.RowKit
def cfCells (c : CfV) : List AVal := [.byte c.mac.a0, .byte c.mac.a1, .byte c.mac.a2, .byte c.mac.a3, .byte c.mac.a4, .byte c.mac.a5, .str c.addr, .str c.peer, .int .i64 c.id, .int .i64 c.pri, .int .i64 c.every, .bool c.pre,
  .ro c.vips.length 1 (fun i => [.str (c.vips.getD i [])]), .ro c.trs.length 2 (trF c.trs), .ro c.svs.length 10 (svF c.svs)]
def SvOk (s : SvV) : Prop := s.bks.length ≤ 2513169434870 ∧ I64 s.port ∧ ∀ b ∈ s.bks, I64 b.port
def CfOk (c : CfV) : Prop := c.vips.length ≤ 8796093022000 ∧ c.trs.length ≤ 5864062014800 ∧ c.svs.length ≤ 1256584717440 ∧ I64 c.id ∧ ∀ s ∈ c.svs, SvOk s
end Go.Proofs.Ytnbbaemijogeoaa.Ae
namespace Go.Proofs.Ytnbbaemijogeoaa
open Go Ae
def IsCf (cs : List AVal) : Prop := ∃ c, cs = cfCells c ∧ CfOk c
def nbOf (f : Nat → List AVal) (i : Nat) : Nat := match (f i)[9]? with
  | some (AVal.ro n _ _) => n
  | _ => 0
/-- as the machine adds -/
def fewK (f : Nat → List AVal) (k : Int) : Nat → Int
  | 0 => k
  | i + 1 => IntKind.i64.wrap (fewK f k i + (nbOf f i : Int))
def fewB (cs : List AVal) : Bool := match cs[12]?, cs[14]? with
  | some (AVal.ro nv _ _), some (AVal.ro ns _ fs) => decide (fewK fs ((nv : Int) + (ns : Int)) ns ≤ 200)
  | _, _ => false
end Go.Proofs.Ytnbbaemijogeoaa
namespace Go.Proofs.Ytnbbaemijogeoaa.Ae
open Go Go.RowKit
def zeroCf : List AVal := [.byte 0, .byte 0, .byte 0, .byte 0, .byte 0, .byte 0, .str [], .str [], .int .i64 0, .int .i64 0, .int .i64 0, .bool false, .nilS, .nilS, .nilS]
def cfHead (c : CfV) (a b : AVal) : List AVal := [.byte c.mac.a0, .byte c.mac.a1, .byte c.mac.a2, .byte c.mac.a3, .byte c.mac.a4, .byte c.mac.a5, .str c.addr, .str c.peer, .int .i64 c.id, .int .i64 c.pri, .int .i64 c.every, .bool c.pre,
  .ro c.vips.length 1 (fun i => [.str (c.vips.getD i [])]), a, b]
def svHead (s : SvV) (a : AVal) : List AVal := [.str s.name, .str s.vip, .int .i64 s.proto, .int .i64 s.port, .int .i64 s.mode, .int .i64 s.sched, .int .i64 s.rise, .int .i64 s.fall, .int .i64 s.probe, a]
theorem sim_nil0 {R : Nat → Prop} {w : World} {m : Mp} {H : Hp} (hS : Sim R w m H) : Sim R w Mp.nil [] :=
  ⟨hS.rlt, fun _ _ => rfl, fun k _ h _ => absurd (hget_out (Nat.zero_le k)) h, fun k h _ => absurd (hget_out (Nat.zero_le k)) h, fun k _ _ h _ _ _ => absurd (hget_out (Nat.zero_le k)) h⟩
/-- rows whose cells say as much -/
theorem VE.ro2 {H : Hp} {k sz : Nat} {f f' : Nat → List AVal} (h : ∀ i, i < k → (f' i).length = sz ∧ ∀ (j : Nat) (v' : AVal), (f' i)[j]? = some v' → ∃ v, (f i)[j]? = some v ∧ VE [] v v') : VE H (.ro k sz f) (.ro k sz f') := by
  intro R w m x hS hv
  cases hv with
  | ro _ _ _ a c g off X h1 h2 h3 h4 h5 h6 h7 =>
    refine .ro k sz f' a c g off X h1 h2 h3 h4 (fun i j v hi hv => ?_) (fun i j v hi hv => ?_) (fun i hi => (h i hi).1)
    · obtain ⟨v0, e0, _⟩ := (h i hi).2 j v hv
      exact h5 i j v0 hi e0
    · obtain ⟨v0, e0, e1⟩ := (h i hi).2 j v hv
      exact e1 R w Mp.nil _ (sim_nil0 hS) (h6 i j v0 hi e0)
theorem fm_len {n : Nat} {u : Nat → List AVal} (hu : ∀ i, (u i).length = n) : ∀ k, ((List.range k).flatMap u).length = k * n
  | 0 => by simp
  | k + 1 => by rw [List.range_succ, List.flatMap_append, List.length_append, fm_len hu k]; simp [hu, Nat.succ_mul]
theorem fm_succ (u : Nat → List AVal) (k : Nat) : (List.range (k + 1)).flatMap u = (List.range k).flatMap u ++ u k := by
  rw [List.range_succ, List.flatMap_append]; simp
theorem rows_fm {n : Nat} {u : Nat → List AVal} (hu : ∀ i, (u i).length = n) : ∀ (k i : Nat), i < k → rowsOf n ((List.range k).flatMap u) i = u i
  | 0, i, h => by omega
  | k + 1, i, h => by
    rw [fm_succ]
    unfold rowsOf
    by_cases hk : i < k
    · have h1 : i * n + n ≤ k * n := by rw [← Nat.succ_mul]; exact Nat.mul_le_mul_right n hk
      rw [List.drop_append_of_le_length (by rw [fm_len hu]; omega), List.take_append_of_le_length (by rw [List.length_drop, fm_len hu]; omega)]
      exact rows_fm hu k i hk
    · obtain rfl : i = k := by omega
      rw [← fm_len hu i, List.drop_left, ← hu i, List.take_length]
theorem ve_fm {n : Nat} {u : Nat → List AVal} {H : Hp} (hu : ∀ i, (u i).length = n) (k : Nat) : VE H (.ro k n (rowsOf n (((List.range k).flatMap u).take (k * n)))) (.ro k n u) :=
  VE.ro fun i hi => by rw [← fm_len hu k, List.take_length]; exact rows_fm hu k i hi
theorem VE.trans {H : Hp} {a b c : AVal} (h : VE H a b) (h' : VE H b c) : VE H a c := fun R w m x hS hv => h' R w m x hS (h R w m x hS hv)
/-- a service whose backends are a row of the call's own -/
def svOwn (l : List SvV) : Nat → List AVal := fun i => svHead (l.getD i sv0) (.ro (l.getD i sv0).bks.length 10 (rowsOf 10 (((List.range (l.getD i sv0).bks.length).flatMap (bkF (l.getD i sv0).bks)).take ((l.getD i sv0).bks.length * 10))))
theorem ve_svs {H : Hp} (l : List SvV) : VE H (.ro l.length 10 (svOwn l)) (.ro l.length 10 (svF l)) :=
  VE.ro2 fun i hi => ⟨rfl, fun j v' hv => by
    have hj : j < 10 := (List.getElem?_eq_some_iff.1 hv).1
    have hb := ve_fm (n := 10) (u := bkF (l.getD i sv0).bks) (H := []) (fun _ => rfl) (l.getD i sv0).bks.length
    have : j = 0 ∨ j = 1 ∨ j = 2 ∨ j = 3 ∨ j = 4 ∨ j = 5 ∨ j = 6 ∨ j = 7 ∨ j = 8 ∨ j = 9 := by omega
    rcases this with rfl | rfl | rfl | rfl | rfl | rfl | rfl | rfl | rfl | rfl <;> cases hv <;> first | exact ⟨_, rfl, hb⟩ | exact ⟨_, rfl, VE.refl⟩⟩
theorem ve_own {H : Hp} (c : CfV) : VE H (.agg (cfHead c (.ro c.trs.length 2 (rowsOf 2 (((List.range c.trs.length).flatMap (trF c.trs)).take (c.trs.length * 2)))) (.ro c.svs.length 10 (rowsOf 10 (((List.range c.svs.length).flatMap (svOwn c.svs)).take (c.svs.length * 10)))))) (.agg (cfCells c)) := by
  have h1 := ve_fm (n := 2) (u := trF c.trs) (H := H) (fun _ => rfl) c.trs.length
  have h2 := (ve_fm (n := 10) (u := svOwn c.svs) (H := H) (fun _ => rfl) c.svs.length).trans (ve_svs c.svs)
  exact VE.agg (.cons .refl (.cons .refl (.cons .refl (.cons .refl (.cons .refl (.cons .refl (.cons .refl (.cons .refl (.cons .refl (.cons .refl (.cons .refl (.cons .refl (.cons .refl (.cons h1 (.cons h2 .nil)))))))))))))))
def fewRow : Srow := fun args H K => match args, H with
  | [.agg cs], [] => IsCf cs ∧ K (.bool (fewB cs)) []
  | _, _ => False
def ownRow : Srow := fun args H K => match args, H with
  | [.agg cs], [] => IsCf cs ∧ K (.agg cs) []
  | _, _ => False
def ann_outriderlaw20_few : Nat → List Nat × Nat × List (List Nat)
  | 3 => ([3, 14, 15, 16], 0, [])
  | 4000005 => ([], 1, [])
  | _ => ([], 0, [])
noncomputable abbrev fw_lp_X : Cx := ⟨Try.prog, Tnb, Try.f7.ntmps, 0, ann_outriderlaw20_few⟩
noncomputable def fw_lp_c : Code := cAt [.r, .r, .l, .r, .b] (bodyOf Try.f7)
noncomputable def fw_lp_k (K : AVal → Hp → Prop) : Post := kAt fw_lp_X [.r, .r, .l, .r, .b] (bodyOf Try.f7) (fnK Try.prog 0 Try.f7.results.toList K)
def fw_lp_n (K : AVal → Hp → Prop) (n : Nat) (s : St) : Prop := loopP (awp fw_lp_X (loopB fw_lp_c)) 0 [3, 14, 15, 16] n s (fw_lp_k K)
def fw_lp (K : AVal → Hp → Prop) (s : St) : Prop := ∃ n, fw_lp_n K n s
def fw_lp_b (K : AVal → Hp → Prop) (J : St → Prop) (s : St) : Prop := awp fw_lp_X (loopB fw_lp_c) s (seqK (fun s' => normK 0 [3, 14, 15, 16] s' J) (fw_lp_k K))
theorem fw_lp_next {K : AVal → Hp → Prop} {n : Nat} {s : St} (h : fw_lp_b K (fun s' => fw_lp_n K n s') s) : fw_lp_n K (n + 1) s := h
set_option maxRecDepth 100000 in
theorem few_eq (c : CfV) (K : AVal → Hp → Prop) : fnP Try.prog Tnb ann_outriderlaw20_few Try.f7 [.agg (cfCells c)] [] K = (
 I64 ((↑(List.length c.vips) : Int) + (↑(List.length c.svs) : Int)) ∧ fw_lp K (St.mk [(3, .int .i64 ((↑(List.length c.vips) : Int) + (↑(List.length c.svs) : Int))), (14, .ro (List.length c.svs) (10 : Nat) (svF c.svs)), (15, .int .i64 (↑(List.length c.svs) : Int)), (16, .int .i64 0)] [])) := by kernel_rfl
set_option maxRecDepth 100000 in
theorem fw_lp_step (l : List SvV) (k i : Int) (K : AVal → Hp → Prop) (J : St → Prop) : fw_lp_b K J (St.mk [(3, .int .i64 k), (14, .ro l.length 10 (svF l)), (15, .int .i64 (l.length : Int)), (16, .int .i64 i)] []) = (
 brP (decide (i < (↑(List.length l) : Int))) (((0 : Int) ≤ i ∧ i < (↑(List.length l) : Int)) ∧ I64 (i + (1 : Int)) ∧ J (St.mk [((3 : Nat), .int .i64 (IntKind.wrap IntKind.i64 (k + (↑(List.length (List.getD l (Int.toNat i) sv0).bks) : Int)))), (14, .ro (List.length l) (10 : Nat) (svF l)), (15, .int .i64 (↑(List.length l) : Int)), (16, .int .i64 (i + (1 : Int)))] [])) (K (.bool (decide (k ≤ (200 : Int)))) [])) := by kernel_rfl
theorem few_all (K : AVal → Hp → Prop) (k0 : Int) (l : List SvV) (hK : K (.bool (decide (fewK (svF l) k0 l.length ≤ 200))) []) (hl : l.length ≤ 1256584717440) : ∀ (j i : Nat), i + j = l.length →
    fw_lp_n K (j + 1) (St.mk [(3, .int .i64 (fewK (svF l) k0 i)), (14, .ro l.length 10 (svF l)), (15, .int .i64 (l.length : Int)), (16, .int .i64 (i : Int))] [])
  | 0, i, h => by
    refine fw_lp_next ?_
    rw [fw_lp_step]
    obtain rfl : i = l.length := by omega
    exact brP_d (fun h' => by omega) (fun _ => hK)
  | j + 1, i, h => by
    refine fw_lp_next ?_
    rw [fw_lp_step]
    have nx := few_all K k0 l hK hl j (i + 1) (by omega)
    refine brP_d (fun _ => ⟨by omega, by unfold I64; omega, ?_⟩) (fun h' => by omega)
    rw [Int.toNat_natCast]
    exact nx
attribute [local irreducible] fnP in
theorem outriderlaw20_few_p : ∀ args H K, fewRow args H K → fnP Try.prog Tnb ann_outriderlaw20_few Try.f7 args H K := by
  intro args H K h
  unfold fewRow at h
  split at h
  · obtain ⟨⟨c, rfl, h1, h2, h3, h4, h5⟩, hK⟩ := h
    rw [few_eq]
    exact ⟨by unfold I64; omega, _, few_all K _ c.svs hK h3 c.svs.length 0 (by omega)⟩
  · exact h.elim
def Tcf1 : Specs := ext Tnb 7 (fewRow)
theorem Tcf1_sound : TSound Try.prog Tcf1 := ext_sound Tnb_sound (row_of Tnb_sound mixed Try.func7 (by decide +kernel) outriderlaw20_few_p)
def ann_outriderlaw20_own : Nat → List Nat × Nat × List (List Nat)
  | 3 => ([1, 2, 3, 29, 30, 31, 999999], 0, [])
  | 8 => ([2, 3, 43, 44, 45, 999999], 0, [])
  | 12 => ([2, 3, 8, 43, 44, 45, 69, 70, 71, 999999], 0, [])
  | 4000002 => ([0, 3, 13, 2], 0, [])
  | 4000007 => ([1, 3, 13, 2, 0, 3, 14, 10], 0, [])
  | 4000011 => ([0, 8, 9, 10], 0, [])
  | 4000016 => ([1, 8, 9, 10], 0, [])
  | 4000018 => ([1, 3, 14, 10, 2, 2, 0, 0], 0, [])
  | _ => ([], 0, [])
noncomputable abbrev ot_lp_X : Cx := ⟨Try.prog, Tcf1, Try.f10.ntmps, 0, ann_outriderlaw20_own⟩
noncomputable def ot_lp_c : Code := cAt [.r, .r, .l, .r, .b] (bodyOf Try.f10)
noncomputable def ot_lp_k (K : AVal → Hp → Prop) : Post := kAt ot_lp_X [.r, .r, .l, .r, .b] (bodyOf Try.f10) (fnK Try.prog 0 Try.f10.results.toList K)
def ot_lp_n (K : AVal → Hp → Prop) (n : Nat) (s : St) : Prop := loopP (awp ot_lp_X (loopB ot_lp_c)) 0 [1, 2, 3, 29, 30, 31, 999999] n s (ot_lp_k K)
def ot_lp (K : AVal → Hp → Prop) (s : St) : Prop := ∃ n, ot_lp_n K n s
def ot_lp_b (K : AVal → Hp → Prop) (J : St → Prop) (s : St) : Prop := awp ot_lp_X (loopB ot_lp_c) s (seqK (fun s' => normK 0 [1, 2, 3, 29, 30, 31, 999999] s' J) (ot_lp_k K))
theorem ot_lp_next {K : AVal → Hp → Prop} {n : Nat} {s : St} (h : ot_lp_b K (fun s' => ot_lp_n K n s') s) : ot_lp_n K (n + 1) s := h
noncomputable abbrev os_lp_X : Cx := ⟨Try.prog, Tcf1, Try.f10.ntmps, 0, ann_outriderlaw20_own⟩
noncomputable def os_lp_c : Code := cAt [.r, .r, .r, .l, .r, .b] (bodyOf Try.f10)
noncomputable def os_lp_k (K : AVal → Hp → Prop) : Post := kAt os_lp_X [.r, .r, .r, .l, .r, .b] (bodyOf Try.f10) (fnK Try.prog 0 Try.f10.results.toList K)
def os_lp_n (K : AVal → Hp → Prop) (n : Nat) (s : St) : Prop := loopP (awp os_lp_X (loopB os_lp_c)) 0 [2, 3, 43, 44, 45, 999999] n s (os_lp_k K)
def os_lp (K : AVal → Hp → Prop) (s : St) : Prop := ∃ n, os_lp_n K n s
def os_lp_b (K : AVal → Hp → Prop) (J : St → Prop) (s : St) : Prop := awp os_lp_X (loopB os_lp_c) s (seqK (fun s' => normK 0 [2, 3, 43, 44, 45, 999999] s' J) (os_lp_k K))
theorem os_lp_next {K : AVal → Hp → Prop} {n : Nat} {s : St} (h : os_lp_b K (fun s' => os_lp_n K n s') s) : os_lp_n K (n + 1) s := h
noncomputable abbrev ob_lp_X : Cx := ⟨Try.prog, Tcf1, Try.f10.ntmps, 0, ann_outriderlaw20_own⟩
noncomputable def ob_lp_c : Code := cAt [.r, .r, .l, .b, .r, .r, .l, .r, .b] (loopB os_lp_c)
noncomputable def ob_lp_k (I : St → Prop) (K : AVal → Hp → Prop) : Post := kAt ob_lp_X [.r, .r, .l, .b, .r, .r, .l, .r, .b] (loopB os_lp_c) (seqK (fun s' => normK 0 [2, 3, 43, 44, 45, 999999] s' I) (os_lp_k K))
def ob_lp_n (I : St → Prop) (K : AVal → Hp → Prop) (n : Nat) (s : St) : Prop := loopP (awp ob_lp_X (loopB ob_lp_c)) 0 [2, 3, 8, 43, 44, 45, 69, 70, 71, 999999] n s (ob_lp_k I K)
def ob_lp (I : St → Prop) (K : AVal → Hp → Prop) (s : St) : Prop := ∃ n, ob_lp_n I K n s
def ob_lp_b (I : St → Prop) (K : AVal → Hp → Prop) (J : St → Prop) (s : St) : Prop := awp ob_lp_X (loopB ob_lp_c) s (seqK (fun s' => normK 0 [2, 3, 8, 43, 44, 45, 69, 70, 71, 999999] s' J) (ob_lp_k I K))
theorem ob_lp_next {I : St → Prop} {K : AVal → Hp → Prop} {n : Nat} {s : St} (h : ob_lp_b I K (fun s' => ob_lp_n I K n s') s) : ob_lp_n I K (n + 1) s := h
set_option maxRecDepth 100000 in
theorem own_eq (c : CfV) (K : AVal → Hp → Prop) : fnP Try.prog Tcf1 ann_outriderlaw20_own Try.f10 [.agg (cfCells c)] [] K = (
 ot_lp K (St.mk [(1, .ptr 0 0), (2, .ptr 1 0), (3, .ptr 2 0), (29, .ro (List.length c.trs) (2 : Nat) (trF c.trs)), (30, .int .i64 (↑(List.length c.trs) : Int)), (31, .int .i64 0), (999999, .undef)] [.flat [.byte c.mac.a0, .byte c.mac.a1, .byte c.mac.a2, .byte c.mac.a3, .byte c.mac.a4, .byte c.mac.a5, .str c.addr, .str c.peer, .int .i64 c.id, .int .i64 c.pri, .int .i64 c.every, .bool c.pre, .ro (List.length c.vips) (1 : Nat) fun i => [.str (List.getD c.vips i [])], .ro (List.length c.trs) (2 : Nat) (trF c.trs), .ro (List.length c.svs) (10 : Nat) (svF c.svs)], .flat [.byte 0, .byte 0, .byte 0, .byte 0, .byte 0, .byte 0, .str [], .str [], .int .i64 0, .int .i64 0, .int .i64 0, .bool false, .nilS, .nilS, .nilS], .vals [.byte c.mac.a0, .byte c.mac.a1, .byte c.mac.a2, .byte c.mac.a3, .byte c.mac.a4, .byte c.mac.a5, .str c.addr, .str c.peer, .int .i64 c.id, .int .i64 c.pri, .int .i64 c.every, .bool c.pre, .ro (List.length c.vips) (1 : Nat) fun i => [.str (List.getD c.vips i [])], .sl (3 : Nat) (0 : Nat) (0 : Nat) (2 : Nat), .nilS], .flat []])) := by kernel_rfl
set_option maxRecDepth 100000 in
theorem ot_lp_step (c : CfV) (i : Nat) (cs : List AVal) (z : Int) (K : AVal → Hp → Prop) (J : St → Prop) : ot_lp_b K J (St.mk [(1, .ptr 0 0), (2, .ptr 1 0), (3, .ptr 2 0), (29, .ro c.trs.length 2 (trF c.trs)), (30, .int .i64 (c.trs.length : Int)), (31, .int .i64 z), (999999, .undef)] [.flat (cfCells c), .flat zeroCf, .vals (cfHead c (.sl 3 0 i 2) .nilS), .flat cs]) = (
 brP (decide (z < (↑(List.length c.trs) : Int))) (((0 : Int) ≤ z ∧ z < (↑(List.length c.trs) : Int)) ∧ ((i + (1 : Nat)) * (24 : Nat) ≤ (140737488355328 : Nat) ∧ List.length cs = i * (2 : Nat)) ∧ I64 (z + (1 : Int)) ∧ J (St.mk [(1, .ptr 0 0), (2, .ptr 1 0), (3, .ptr 2 0), (29, .ro (List.length c.trs) (2 : Nat) (trF c.trs)), (30, .int .i64 (↑(List.length c.trs) : Int)), (31, .int .i64 (z + (1 : Int))), (999999, .undef)] [.flat [.byte c.mac.a0, .byte c.mac.a1, .byte c.mac.a2, .byte c.mac.a3, .byte c.mac.a4, .byte c.mac.a5, .str c.addr, .str c.peer, .int .i64 c.id, .int .i64 c.pri, .int .i64 c.every, .bool c.pre, .ro (List.length c.vips) (1 : Nat) fun i => [.str (List.getD c.vips i [])], .ro (List.length c.trs) (2 : Nat) (trF c.trs), .ro (List.length c.svs) (10 : Nat) (svF c.svs)], .flat [.byte 0, .byte 0, .byte 0, .byte 0, .byte 0, .byte 0, .str [], .str [], .int .i64 0, .int .i64 0, .int .i64 0, .bool false, .nilS, .nilS, .nilS], .vals [.byte c.mac.a0, .byte c.mac.a1, .byte c.mac.a2, .byte c.mac.a3, .byte c.mac.a4, .byte c.mac.a5, .str c.addr, .str c.peer, .int .i64 c.id, .int .i64 c.pri, .int .i64 c.every, .bool c.pre, .ro (List.length c.vips) (1 : Nat) fun i => [.str (List.getD c.vips i [])], .sl (3 : Nat) (0 : Nat) (i + (1 : Nat)) (2 : Nat), .nilS], .flat (cs ++ [.str (List.getD c.trs (Int.toNat z) tr0).name, .int .i64 (List.getD c.trs (Int.toNat z) tr0).weight])])) (os_lp K (St.mk [(2, .ptr 0 0), (3, .ptr 1 0), (43, .ro (List.length c.svs) (10 : Nat) (svF c.svs)), (44, .int .i64 (↑(List.length c.svs) : Int)), (45, .int .i64 0), (999999, .undef)] [.flat [.byte 0, .byte 0, .byte 0, .byte 0, .byte 0, .byte 0, .str [], .str [], .int .i64 0, .int .i64 0, .int .i64 0, .bool false, .nilS, .nilS, .nilS], .vals [.byte c.mac.a0, .byte c.mac.a1, .byte c.mac.a2, .byte c.mac.a3, .byte c.mac.a4, .byte c.mac.a5, .str c.addr, .str c.peer, .int .i64 c.id, .int .i64 c.pri, .int .i64 c.every, .bool c.pre, .ro (List.length c.vips) (1 : Nat) fun i => [.str (List.getD c.vips i [])],
 .ro i (2 : Nat) (rowsOf (2 : Nat) (List.take (i * (2 : Nat)) cs)), .sl (2 : Nat) (0 : Nat) (0 : Nat) (10 : Nat)], .flat []]))) := by kernel_rfl
set_option maxRecDepth 100000 in
theorem os_lp_step (c : CfV) (i : Nat) (cs : List AVal) (z : Int) (nt : Nat) (ft : Nat → List AVal) (K : AVal → Hp → Prop) (J : St → Prop) : os_lp_b K J (St.mk [(2, .ptr 0 0), (3, .ptr 1 0), (43, .ro c.svs.length 10 (svF c.svs)), (44, .int .i64 (c.svs.length : Int)), (45, .int .i64 z), (999999, .undef)] [.flat zeroCf, .vals (cfHead c (.ro nt 2 ft) (.sl 2 0 i 10)), .flat cs]) = (
 brP (decide (z < (↑(List.length c.svs) : Int))) (((0 : Int) ≤ z ∧ z < (↑(List.length c.svs) : Int)) ∧ ob_lp J K (St.mk [(2, .ptr 0 0), (3, .ptr 1 0), (8, .ptr 2 0), (43, .ro (List.length c.svs) (10 : Nat) (svF c.svs)), (44, .int .i64 (↑(List.length c.svs) : Int)), (45, .int .i64 z), ((69 : Nat), .ro (List.length (List.getD c.svs (Int.toNat z) sv0).bks) (10 : Nat) (bkF (List.getD c.svs (Int.toNat z) sv0).bks)), (70, .int .i64 (↑(List.length (List.getD c.svs (Int.toNat z) sv0).bks) : Int)), (71, .int .i64 0), (999999, .undef)] [.flat [.byte 0, .byte 0, .byte 0, .byte 0, .byte 0, .byte 0, .str [], .str [], .int .i64 0, .int .i64 0, .int .i64 0, .bool false, .nilS, .nilS, .nilS], .vals [.byte c.mac.a0, .byte c.mac.a1, .byte c.mac.a2, .byte c.mac.a3, .byte c.mac.a4, .byte c.mac.a5, .str c.addr, .str c.peer, .int .i64 c.id, .int .i64 c.pri, .int .i64 c.every, .bool c.pre, .ro (List.length c.vips) (1 : Nat) fun i => [.str (List.getD c.vips i [])], .ro nt (2 : Nat) ft, .sl (3 : Nat) (0 : Nat) i (10 : Nat)], .vals [.str (List.getD c.svs (Int.toNat z) sv0).name, .str (List.getD c.svs (Int.toNat z) sv0).vip, .int .i64 (List.getD c.svs (Int.toNat z) sv0).proto, .int .i64 (List.getD c.svs (Int.toNat z) sv0).port, .int .i64 (List.getD c.svs (Int.toNat z) sv0).mode, .int .i64 (List.getD c.svs (Int.toNat z) sv0).sched, .int .i64 (List.getD c.svs (Int.toNat z) sv0).rise, .int .i64 (List.getD c.svs (Int.toNat z) sv0).fall, .int .i64 (List.getD c.svs (Int.toNat z) sv0).probe, .sl (4 : Nat) (0 : Nat) (0 : Nat) (10 : Nat)], .flat cs, .flat []])) (K (.agg [.byte c.mac.a0, .byte c.mac.a1, .byte c.mac.a2, .byte c.mac.a3, .byte c.mac.a4, .byte c.mac.a5, .str c.addr, .str c.peer, .int .i64 c.id, .int .i64 c.pri, .int .i64 c.every, .bool c.pre, .ro (List.length c.vips) (1 : Nat) fun i => [.str (List.getD c.vips i [])], .ro nt (2 : Nat) ft, .ro i (10 : Nat) (rowsOf (10 : Nat) (List.take (i * (10 : Nat)) cs))]) [])) := by kernel_rfl
set_option maxRecDepth 100000 in
theorem ob_lp_step (c : CfV) (l : List SvV) (s : SvV) (i j : Nat) (cs ds : List AVal) (z q : Int) (nt : Nat) (ft : Nat → List AVal) (I : St → Prop) (K : AVal → Hp → Prop) (J : St → Prop) : ob_lp_b I K J (St.mk [(2, .ptr 0 0), (3, .ptr 1 0), (8, .ptr 2 0), (43, .ro l.length 10 (svF l)), (44, .int .i64 (l.length : Int)), (45, .int .i64 z), (69, .ro s.bks.length 10 (bkF s.bks)), (70, .int .i64 (s.bks.length : Int)), (71, .int .i64 q), (999999, .undef)] [.flat zeroCf, .vals (cfHead c (.ro nt 2 ft) (.sl 3 0 i 10)), .vals (svHead s (.sl 4 0 j 10)), .flat cs, .flat ds]) = (
 brP (decide (q < (↑(List.length s.bks) : Int))) (((0 : Int) ≤ q ∧ q < (↑(List.length s.bks) : Int)) ∧ ((j + (1 : Nat)) * (56 : Nat) ≤ (140737488355328 : Nat) ∧ List.length ds = j * (10 : Nat)) ∧ I64 (q + (1 : Int)) ∧ J (St.mk [(2, .ptr 0 0), (3, .ptr 1 0), (8, .ptr 2 0), (43, .ro (List.length l) (10 : Nat) (svF l)), (44, .int .i64 (↑(List.length l) : Int)), (45, .int .i64 z), (69, .ro (List.length s.bks) (10 : Nat) (bkF s.bks)), (70, .int .i64 (↑(List.length s.bks) : Int)), (71, .int .i64 (q + (1 : Int))), (999999, .undef)] [.flat [.byte 0, .byte 0, .byte 0, .byte 0, .byte 0, .byte 0, .str [], .str [], .int .i64 0, .int .i64 0, .int .i64 0, .bool false, .nilS, .nilS, .nilS], .vals [.byte c.mac.a0, .byte c.mac.a1, .byte c.mac.a2, .byte c.mac.a3, .byte c.mac.a4, .byte c.mac.a5, .str c.addr, .str c.peer, .int .i64 c.id, .int .i64 c.pri, .int .i64 c.every, .bool c.pre, .ro (List.length c.vips) (1 : Nat) fun i => [.str (List.getD c.vips i [])], .ro nt (2 : Nat) ft, .sl (3 : Nat) (0 : Nat) i (10 : Nat)], .vals [.str s.name, .str s.vip, .int .i64 s.proto, .int .i64 s.port, .int .i64 s.mode, .int .i64 s.sched, .int .i64 s.rise, .int .i64 s.fall, .int .i64 s.probe, .sl (4 : Nat) (0 : Nat) (j + (1 : Nat)) (10 : Nat)], .flat cs, .flat (ds ++ [.str (List.getD s.bks (Int.toNat q) bk0).name, .str (List.getD s.bks (Int.toNat q) bk0).addr, .byte (List.getD s.bks (Int.toNat q) bk0).mac.a0, .byte (List.getD s.bks (Int.toNat q) bk0).mac.a1, .byte (List.getD s.bks (Int.toNat q) bk0).mac.a2, .byte (List.getD s.bks (Int.toNat q) bk0).mac.a3, .byte (List.getD s.bks (Int.toNat q) bk0).mac.a4, .byte (List.getD s.bks (Int.toNat q) bk0).mac.a5, .int .i64 (List.getD s.bks (Int.toNat q) bk0).port, .int .i64 (List.getD s.bks (Int.toNat q) bk0).weight])])) (((i + (1 : Nat)) * (112 : Nat) ≤ (140737488355328 : Nat) ∧ List.length cs = i * (10 : Nat)) ∧ I64 (z + (1 : Int)) ∧ I (St.mk [(2, .ptr 0 0), (3, .ptr 1 0), (43, .ro (List.length l) (10 : Nat) (svF l)),
 (44, .int .i64 (↑(List.length l) : Int)), (45, .int .i64 (z + (1 : Int))), (999999, .undef)] [.flat [.byte 0, .byte 0, .byte 0, .byte 0, .byte 0, .byte 0, .str [], .str [], .int .i64 0, .int .i64 0, .int .i64 0, .bool false, .nilS, .nilS, .nilS], .vals [.byte c.mac.a0, .byte c.mac.a1, .byte c.mac.a2, .byte c.mac.a3, .byte c.mac.a4, .byte c.mac.a5, .str c.addr, .str c.peer, .int .i64 c.id, .int .i64 c.pri, .int .i64 c.every, .bool c.pre, .ro (List.length c.vips) (1 : Nat) fun i => [.str (List.getD c.vips i [])], .ro nt (2 : Nat) ft, .sl (2 : Nat) (0 : Nat) (i + (1 : Nat)) (10 : Nat)], .flat (cs ++ [.str s.name, .str s.vip, .int .i64 s.proto, .int .i64 s.port, .int .i64 s.mode, .int .i64 s.sched, .int .i64 s.rise, .int .i64 s.fall, .int .i64 s.probe, .ro j (10 : Nat) (rowsOf (10 : Nat) (List.take (j * (10 : Nat)) ds))])]))) := by kernel_rfl
attribute [local irreducible] ot_lp_n ot_lp_b os_lp_n os_lp_b ob_lp_n ob_lp_b
theorem ob_all (J : St → Prop) (K : AVal → Hp → Prop) (c : CfV) (l : List SvV) (s : SvV) (i : Nat) (cs : List AVal) (z : Int) (nt : Nat) (ft : Nat → List AVal) (hz : I64 (z + 1)) (hi : (i + 1) * 112 ≤ 140737488355328) (hcs : cs.length = i * 10) (hb : s.bks.length ≤ 2513169434870)
    (hJ : J (St.mk [(2, .ptr 0 0), (3, .ptr 1 0), (43, .ro l.length 10 (svF l)), (44, .int .i64 (l.length : Int)), (45, .int .i64 (z + 1)), (999999, .undef)] [.flat zeroCf, .vals (cfHead c (.ro nt 2 ft) (.sl 2 0 (i + 1) 10)), .flat (cs ++ svHead s (.ro s.bks.length 10 (rowsOf 10 (((List.range s.bks.length).flatMap (bkF s.bks)).take (s.bks.length * 10)))))])) : ∀ (k j : Nat), j + k = s.bks.length →
    ob_lp_n J K (k + 1) (St.mk [(2, .ptr 0 0), (3, .ptr 1 0), (8, .ptr 2 0), (43, .ro l.length 10 (svF l)), (44, .int .i64 (l.length : Int)), (45, .int .i64 z), (69, .ro s.bks.length 10 (bkF s.bks)), (70, .int .i64 (s.bks.length : Int)), (71, .int .i64 (j : Int)), (999999, .undef)] [.flat zeroCf, .vals (cfHead c (.ro nt 2 ft) (.sl 3 0 i 10)), .vals (svHead s (.sl 4 0 j 10)), .flat cs, .flat ((List.range j).flatMap (bkF s.bks))])
  | 0, j, h => by
    refine ob_lp_next ?_
    rw [ob_lp_step]
    obtain rfl : j = s.bks.length := by omega
    exact brP_d (fun h' => by omega) (fun _ => ⟨⟨hi, hcs⟩, hz, hJ⟩)
  | k + 1, j, h => by
    refine ob_lp_next ?_
    rw [ob_lp_step]
    have nx := ob_all J K c l s i cs z nt ft hz hi hcs hb hJ k (j + 1) (by omega)
    rw [fm_succ] at nx
    refine brP_d (fun _ => ⟨by omega, ⟨by omega, fm_len (n := 10) (u := bkF s.bks) (fun _ => rfl) j⟩, by unfold I64; omega, ?_⟩) (fun h' => by omega)
    rw [Int.toNat_natCast]
    exact nx
theorem os_all (K : AVal → Hp → Prop) (c : CfV) (nt : Nat) (ft : Nat → List AVal) (hl : c.svs.length ≤ 1256584717440) (hs : ∀ s ∈ c.svs, SvOk s)
    (hK : K (.agg (cfHead c (.ro nt 2 ft) (.ro c.svs.length 10 (rowsOf 10 (((List.range c.svs.length).flatMap (svOwn c.svs)).take (c.svs.length * 10)))))) []) : ∀ (k i : Nat), i + k = c.svs.length →
    os_lp_n K (k + 1) (St.mk [(2, .ptr 0 0), (3, .ptr 1 0), (43, .ro c.svs.length 10 (svF c.svs)), (44, .int .i64 (c.svs.length : Int)), (45, .int .i64 (i : Int)), (999999, .undef)] [.flat zeroCf, .vals (cfHead c (.ro nt 2 ft) (.sl 2 0 i 10)), .flat ((List.range i).flatMap (svOwn c.svs))])
  | 0, i, h => by
    refine os_lp_next ?_
    rw [os_lp_step]
    obtain rfl : i = c.svs.length := by omega
    exact brP_d (fun h' => by omega) (fun _ => hK)
  | k + 1, i, h => by
    refine os_lp_next ?_
    rw [os_lp_step]
    have nx := os_all K c nt ft hl hs hK k (i + 1) (by omega)
    rw [fm_succ] at nx
    refine brP_d (fun _ => ⟨by omega, ?_⟩) (fun h' => by omega)
    rw [Int.toNat_natCast]
    have hsi : SvOk (c.svs.getD i sv0) := by
      rw [List.getD_eq_getElem?_getD, List.getElem?_eq_getElem (by omega)]
      exact hs _ (List.getElem_mem _)
    exact ⟨_, ob_all _ K c c.svs (c.svs.getD i sv0) i _ (i : Int) nt ft (by unfold I64; omega) (by omega) (fm_len (n := 10) (u := svOwn c.svs) (fun _ => rfl) i) hsi.1 nx (c.svs.getD i sv0).bks.length 0 (by omega)⟩
theorem ot_all (K : AVal → Hp → Prop) (c : CfV) (hc : CfOk c) (hK : K (.agg (cfHead c (.ro c.trs.length 2 (rowsOf 2 (((List.range c.trs.length).flatMap (trF c.trs)).take (c.trs.length * 2)))) (.ro c.svs.length 10 (rowsOf 10 (((List.range c.svs.length).flatMap (svOwn c.svs)).take (c.svs.length * 10)))))) []) : ∀ (k i : Nat), i + k = c.trs.length →
    ot_lp_n K (k + 1) (St.mk [(1, .ptr 0 0), (2, .ptr 1 0), (3, .ptr 2 0), (29, .ro c.trs.length 2 (trF c.trs)), (30, .int .i64 (c.trs.length : Int)), (31, .int .i64 (i : Int)), (999999, .undef)] [.flat (cfCells c), .flat zeroCf, .vals (cfHead c (.sl 3 0 i 2) .nilS), .flat ((List.range i).flatMap (trF c.trs))])
  | 0, i, h => by
    refine ot_lp_next ?_
    rw [ot_lp_step]
    obtain rfl : i = c.trs.length := by omega
    obtain ⟨h1, h2, h3, h4, h5⟩ := hc
    exact brP_d (fun h' => by omega) (fun _ => ⟨_, os_all K c _ _ h3 h5 hK c.svs.length 0 (by omega)⟩)
  | k + 1, i, h => by
    refine ot_lp_next ?_
    rw [ot_lp_step]
    have nx := ot_all K c hc hK k (i + 1) (by omega)
    rw [fm_succ] at nx
    obtain ⟨h1, h2, h3, h4, h5⟩ := hc
    refine brP_d (fun _ => ⟨by omega, ⟨by omega, fm_len (n := 2) (u := trF c.trs) (fun _ => rfl) i⟩, by unfold I64; omega, ?_⟩) (fun h' => by omega)
    rw [Int.toNat_natCast]
    exact nx
attribute [local irreducible] fnP in
theorem outriderlaw20_own_p : ∀ args H K, ownRow args H K → ∃ args', ArgsLe H args args' ∧ fnP Try.prog Tcf1 ann_outriderlaw20_own Try.f10 args' H (fun v H' => ∃ v2 H2, ResLe v H' v2 H2 ∧ K v2 H2) := by
  intro args H K h
  unfold ownRow at h
  split at h
  · obtain ⟨⟨c, rfl, hc⟩, hK⟩ := h
    refine ⟨[.agg (cfCells c)], .refl, ?_⟩
    rw [own_eq]
    exact ⟨_, ot_all _ c hc ⟨_, _, .val (ve_own c), hK⟩ c.trs.length 0 (by omega)⟩
  · exact h.elim
def Tcf2 : Specs := ext Tcf1 10 (ownRow)
theorem Tcf2_sound : TSound Try.prog Tcf2 := ext_sound Tcf1_sound (row_weak Tcf1_sound mixed Try.func10 (by decide +kernel) outriderlaw20_own_p)
abbrev Tcf : Specs := Tcf2
theorem Tcf_sound : TSound Try.prog Tcf := Tcf2_sound
end Go.Proofs.Ytnbbaemijogeoaa.Ae

set_option linter.unusedSimpArgs false
set_option linter.unusedVariables false
set_option maxRecDepth 100000
namespace Go.Proofs.Ytnbbaemijogeoaa.Ae
open Go
def trueRow : Srow := fun args H K => match args, H with
  | [], [] => K (.bool true) []
  | _, _ => False
def ann_ether_Virtual : Nat → List Nat × Nat × List (List Nat)
  | 2000001 => ([], 7, [[], [0], [0, 1], [0, 1, 2], [0, 1, 2, 3], [0, 1, 2, 3, 4]])
  | _ => ([], 0, [])
def Tlw1 : Specs := ext Tcf 33 (fnP Try.prog Tcf ann_ether_Virtual Try.f33)
theorem Tlw1_sound : TSound Try.prog Tlw1 := ext_sound Tcf_sound (fn_row Tcf_sound mixed Try.func33 (by decide +kernel))
def ann_ether_Group : Nat → List Nat × Nat × List (List Nat)
  | _ => ([], 0, [])
def Tlw2 : Specs := ext Tlw1 35 (fnP Try.prog Tlw1 ann_ether_Group Try.f35)
theorem Tlw2_sound : TSound Try.prog Tlw2 := ext_sound Tlw1_sound (fn_row Tlw1_sound mixed Try.func35 (by decide +kernel))
def ann___outrider_admit_gate__is : Nat → List Nat × Nat × List (List Nat)
  | _ => ([], 0, [])
def Tlw3 : Specs := ext Tlw2 39 (fnP Try.prog Tlw2 ann___outrider_admit_gate__is Try.f39)
theorem Tlw3_sound : TSound Try.prog Tlw3 := ext_sound Tlw2_sound (fn_row Tlw2_sound mixed Try.func39 (by decide +kernel))
def ann___outrider_admit_gate__drop : Nat → List Nat × Nat × List (List Nat)
  | _ => ([], 0, [])
def Tlw4 : Specs := ext Tlw3 18 (fnP Try.prog Tlw3 ann___outrider_admit_gate__drop Try.f18)
theorem Tlw4_sound : TSound Try.prog Tlw4 := ext_sound Tlw3_sound (fn_row Tlw3_sound mixed Try.func18 (by decide +kernel))
def ann___outrider_admit_gate__frame : Nat → List Nat × Nat × List (List Nat)
  | 2 => ([], 16, [[], [0], [0, 1], [0, 1, 2], [0, 1, 2, 3], [], [5], [5, 6], [5, 6, 7], [5, 6, 7, 8], [5, 6, 7, 8, 9], [0, 1, 2, 3, 4, 5, 6, 7, 8, 9, 10], [0, 1, 2, 3, 4, 5, 6, 7, 8, 9, 10, 11], [0, 1, 2, 3, 4, 5, 6, 7, 8, 9, 10, 11, 12], [0, 1, 2, 3, 4, 5, 6, 7, 8, 9, 10, 11, 12], []])
  | 3 => ([], 25, [[], [], [1], [1, 2], [1, 2, 3], [1, 2, 3, 4], [0, 1, 2, 3, 4, 5], [0, 1, 2, 3, 4, 5, 6], [0, 1, 2, 3, 4, 5, 6, 7], [0, 1, 2, 3, 4, 5, 6, 7, 8], [0, 1, 2, 3, 4, 5, 6, 7, 8, 9], [0, 1, 2, 3, 4, 5, 6, 7, 8, 9, 10], [0, 1, 2, 3, 4, 5, 6, 7, 8, 9, 10, 11], [0, 1, 2, 3, 4, 5, 6, 7, 8, 9, 10, 11, 12], [0, 1, 2, 3, 4, 5, 6, 7, 8, 9, 10, 11, 12, 13], [0, 1, 2, 3, 4, 5, 6, 7, 8, 9, 10, 11, 12, 13, 14], [0, 1, 2, 3, 4, 5, 6, 7, 8, 9, 10, 11, 12, 13, 14, 15], [0, 1, 2, 3, 4, 5, 6, 7, 8, 9, 10, 11, 12, 13, 14, 15, 16], [0, 1, 2, 3, 4, 5, 6, 7, 8, 9, 10, 11, 12, 13, 14, 15, 16, 17], [0, 1, 2, 3, 4, 5, 6, 7, 8, 9, 10, 11, 12, 13, 14, 15, 16, 17, 18], [0, 1, 2, 3, 4, 5, 6, 7, 8, 9, 10, 11, 12, 13, 14, 15, 16, 17, 18, 19], [0, 1, 2, 3, 4, 5, 6, 7, 8, 9, 10, 11, 12, 13, 14, 15, 16, 17, 18, 19], [0, 1, 2, 3, 4, 5, 6, 7, 8, 9, 10, 11, 12, 13, 14, 15, 16, 17, 18, 19, 20, 21], [0, 1, 2, 3, 4, 5, 6, 7, 8, 9, 10, 11, 12, 13, 14, 15, 16, 17, 18, 19, 20, 21, 22], [0, 1, 2, 3, 4, 5, 6, 7, 8, 9, 10, 11, 12, 13, 14, 15, 16, 17, 18, 19, 20, 21, 22, 23]])
  | 3000002 => ([16], 0, [])
  | _ => ([], 0, [])
def Tlw5 : Specs := ext Tlw4 19 (fnP Try.prog Tlw4 ann___outrider_admit_gate__frame Try.f19)
theorem Tlw5_sound : TSound Try.prog Tlw5 := ext_sound Tlw4_sound (fn_row Tlw4_sound mixed Try.func19 (by decide +kernel))
def ann___outrider_admit_gate__note : Nat → List Nat × Nat × List (List Nat)
  | _ => ([], 0, [])
def Tlw6 : Specs := ext Tlw5 36 (fnP Try.prog Tlw5 ann___outrider_admit_gate__note Try.f36)
theorem Tlw6_sound : TSound Try.prog Tlw6 := ext_sound Tlw5_sound (fn_row Tlw5_sound mixed Try.func36 (by decide +kernel))
def ann___outrider_admit_gate__packet : Nat → List Nat × Nat × List (List Nat)
  | 11 => ([], 7, [[], [0], [0, 1], [], [3], [3, 4], [0, 1, 2, 3, 4, 5]])
  | 2000014 => ([], 21, [[], [0], [0, 1], [0, 1, 2], [0, 1, 2, 3], [0, 1, 2, 3, 4], [0, 1, 2, 3, 4, 5], [0, 1, 2, 3, 4, 5, 6], [0, 1, 2, 3, 4, 5, 6, 7], [0, 1, 2, 3, 4, 5, 6, 7, 8], [0, 1, 2, 3, 4, 5, 6, 7, 8, 9], [0, 1, 2, 3, 4, 5, 6, 7, 8, 9, 10], [0, 1, 2, 3, 4, 5, 6, 7, 8, 9, 10, 11], [0, 1, 2, 3, 4, 5, 6, 7, 8, 9, 10, 11, 12], [0, 1, 2, 3, 4, 5, 6, 7, 8, 9, 10, 11, 12, 13], [0, 1, 2, 3, 4, 5, 6, 7, 8, 9, 10, 11, 12, 13, 14], [0, 1, 2, 3, 4, 5, 6, 7, 8, 9, 10, 11, 12, 13, 14, 15], [0, 1, 2, 3, 4, 5, 6, 7, 8, 9, 10, 11, 12, 13, 14, 15, 16], [0, 1, 2, 3, 4, 5, 6, 7, 8, 9, 10, 11, 12, 13, 14, 15, 16, 17], [0, 1, 2, 3, 4, 5, 6, 7, 8, 9, 10, 11, 12, 13, 14, 15, 16, 17, 18]])
  | _ => ([], 0, [])
def Tlw7 : Specs := ext Tlw6 20 (fnP Try.prog Tlw6 ann___outrider_admit_gate__packet Try.f20)
theorem Tlw7_sound : TSound Try.prog Tlw7 := ext_sound Tlw6_sound (fn_row Tlw6_sound mixed Try.func20 (by decide +kernel))
def ann_admit_Sort : Nat → List Nat × Nat × List (List Nat)
  | 6 => ([6, 9, 30, 31, 32], 0, [])
  | 1000006 => ([], 7, [])
  | _ => ([], 0, [])
def Tlw8 : Specs := ext Tlw7 12 (fnP Try.prog Tlw7 ann_admit_Sort Try.f12)
theorem Tlw8_sound : TSound Try.prog Tlw8 := ext_sound Tlw7_sound (fn_row Tlw7_sound mixed Try.func12 (by decide +kernel))
def ann_admit_Port : Nat → List Nat × Nat × List (List Nat)
  | 2000001 => ([], 10, [[], [0], [0, 1], [0, 1, 2], [0, 1, 2, 3], [0, 1, 2, 3, 4], [0, 1, 2, 3, 4, 5], [0, 1, 2, 3, 4, 5, 6], [0, 1, 2, 3, 4, 5, 6, 7]])
  | _ => ([], 0, [])
def Tlw9 : Specs := ext Tlw8 9 (fnP Try.prog Tlw8 ann_admit_Port Try.f9)
theorem Tlw9_sound : TSound Try.prog Tlw9 := ext_sound Tlw8_sound (fn_row Tlw8_sound mixed Try.func9 (by decide +kernel))
def ann_outriderref20_Port : Nat → List Nat × Nat × List (List Nat)
  | 2000001 => ([], 10, [[], [0], [0, 1], [0, 1, 2], [0, 1, 2, 3], [0, 1, 2, 3, 4], [0, 1, 2, 3, 4, 5], [0, 1, 2, 3, 4, 5, 6], [0, 1, 2, 3, 4, 5, 6, 7]])
  | _ => ([], 0, [])
def Tlw10 : Specs := ext Tlw9 11 (fnP Try.prog Tlw9 ann_outriderref20_Port Try.f11)
theorem Tlw10_sound : TSound Try.prog Tlw10 := ext_sound Tlw9_sound (fn_row Tlw9_sound mixed Try.func11 (by decide +kernel))
def ann_outriderlaw20_alive : Nat → List Nat × Nat × List (List Nat)
  | _ => ([], 0, [])
set_option maxRecDepth 100000 in
theorem alive20_eq  (K : AVal → Hp → Prop) : fnP Try.prog Tlw10 ann_outriderlaw20_alive Try.f8 [] [] K = (
 (42 : Nat) ≤ (140737488355328 : Nat) ∧ ((0 : Int) ≤ (0 : Int) ∧ (0 : Int) < (6 : Int)) ∧ ((0 : Int) ≤ (0 : Int) ∧ (0 : Int) < (6 : Int)) ∧ I64 (1 : Int) ∧ ((0 : Int) ≤ (1 : Int) ∧ (1 : Int) < (6 : Int)) ∧ (28 : Nat) ≤ (140737488351232 : Nat) ∧ ((0 : Int) ≤ (1 : Int) ∧ (1 : Int) = (1 : Int) ∧ (56 : Int) ≤ (140737488355328 : Int)) ∧ ((0 : Int) ≤ (0 : Int) ∧ (0 : Int) < (1 : Int)) ∧ K (.bool true) []) := by kernel_rfl
theorem outriderlaw20_alive_p : ∀ args H K, trueRow args H K → fnP Try.prog Tlw10 ann_outriderlaw20_alive Try.f8 args H K := by
  intro args H K h
  unfold trueRow at h
  split at h
  · rw [alive20_eq]
    exact ⟨by omega, by omega, by omega, by unfold I64; omega, by omega, by omega, by omega, by omega, h⟩
  · exact h.elim
def Tlw11 : Specs := ext Tlw10 8 (trueRow)
theorem Tlw11_sound : TSound Try.prog Tlw11 := ext_sound Tlw10_sound (row_of Tlw10_sound mixed Try.func8 (by decide +kernel) outriderlaw20_alive_p)
abbrev Tlw : Specs := Tlw11
theorem Tlw_sound : TSound Try.prog Tlw := Tlw11_sound
end Go.Proofs.Ytnbbaemijogeoaa.Ae

set_option linter.unusedSimpArgs false
set_option linter.unusedVariables false
namespace Go.Proofs.Ytnbbaemijogeoaa.Ae
open Go Go.RowKit
def byteAt (vs : List AVal) (i : Nat) : UInt8 := match vs[i]? with
  | some (.byte x) => x
  | _ => 0
section
variable {H : Type} {enc : TypeId × Value → H} {b : Bool} {W : World}
theorem open_addrs : OpenAs enc b Try.prog W 25 (fun l : List (List UInt8) => [.ro l.length 1 (fun i => [.str (l.getD i [])])]) (fun l => (∀ x ∈ l, x.length ≤ 140737488351232) ∧ l.length ≤ 8796093022000) :=
  (open_slice (sz := 1) [] Try.underlying25 (by kernel_rfl) (by omega) (by decide +kernel) (by decide +kernel) (open_str Try.underlying24) (fun _ => rfl)).map id (fun _ _ => rfl) fun l h => ⟨h.1, by have h2 := h.2; rw [show Try.prog.bytesOf 24 = 16 from by kernel_rfl] at h2; show l.length ≤ 8796093022000; omega⟩
theorem open_mac : OpenAs enc b Try.prog W 23 macCells (fun _ => True) :=
  (open_shape (d := 3) (t := 23) (ks := [.byte, .byte, .byte, .byte, .byte, .byte]) (by kernel_rfl)).map
    (fun vs => ⟨byteAt vs 0, byteAt vs 1, byteAt vs 2, byteAt vs 3, byteAt vs 4, byteAt vs 5⟩)
    (fun vs h => by
      obtain ⟨_, _, rfl, ⟨x0, rfl⟩, _, _, rfl, ⟨x1, rfl⟩, _, _, rfl, ⟨x2, rfl⟩, _, _, rfl, ⟨x3, rfl⟩, _, _, rfl, ⟨x4, rfl⟩, _, _, rfl, ⟨x5, rfl⟩, h⟩ := h
      simp only [LfsR] at h; subst h; rfl)
    (fun _ _ => trivial)
theorem open_bk : OpenAs enc b Try.prog W 73 bkCells (fun s => I64 s.port) :=
  (open_struct Try.underlying73 (by kernel_rfl) (fields_cons (by kernel_rfl) (open_str Try.underlying9) (fields_cons (by kernel_rfl) (open_str Try.underlying24) (fields_cons (by kernel_rfl) open_mac (fields_cons (by kernel_rfl) (open_i64 Try.underlying3) (fields_cons (by kernel_rfl) (open_i64 Try.underlying3) fields_nil)))))).map
    (fun a => (⟨a.1, a.2.1, a.2.2.1, a.2.2.2.1, a.2.2.2.2.1⟩ : BkV)) (fun _ _ => rfl) (fun a h => h.2.2.2.1)
theorem open_bks : OpenAs enc b Try.prog W 42 (fun l : List BkV => [.ro l.length 10 (bkF l)]) (fun l => (∀ x ∈ l, I64 x.port) ∧ l.length ≤ 2513169434870) :=
  (open_slice (sz := 10) bk0 Try.underlying42 (by kernel_rfl) (by omega) (by decide +kernel) (by decide +kernel) open_bk (fun _ => rfl)).map id (fun _ _ => rfl) fun l h => ⟨h.1, by have h2 := h.2; rw [show Try.prog.bytesOf 73 = 56 from by kernel_rfl] at h2; show l.length ≤ 2513169434870; omega⟩
theorem open_sv : OpenAs enc b Try.prog W 44 svCells SvOk :=
  (open_struct Try.underlying44 (by kernel_rfl) (fields_cons (by kernel_rfl) (open_str Try.underlying9) (fields_cons (by kernel_rfl) (open_str Try.underlying24)
    (fields_cons (by kernel_rfl) (open_i64 Try.underlying3) (fields_cons (by kernel_rfl) (open_i64 Try.underlying3) (fields_cons (by kernel_rfl) (open_i64 Try.underlying3) (fields_cons (by kernel_rfl) (open_i64 Try.underlying3)
    (fields_cons (by kernel_rfl) (open_i64 Try.underlying3) (fields_cons (by kernel_rfl) (open_i64 Try.underlying3) (fields_cons (by kernel_rfl) (open_i64 Try.underlying3) (fields_cons (by kernel_rfl) open_bks fields_nil))))))))))).map
    (fun a => (⟨a.1, a.2.1, a.2.2.1, a.2.2.2.1, a.2.2.2.2.1, a.2.2.2.2.2.1, a.2.2.2.2.2.2.1, a.2.2.2.2.2.2.2.1, a.2.2.2.2.2.2.2.2.1, a.2.2.2.2.2.2.2.2.2.1⟩ : SvV)) (fun _ _ => rfl)
    (fun a h => ⟨h.2.2.2.2.2.2.2.2.2.1.2, h.2.2.2.1, h.2.2.2.2.2.2.2.2.2.1.1⟩)
theorem open_svs : OpenAs enc b Try.prog W 27 (fun l : List SvV => [.ro l.length 10 (svF l)]) (fun l => (∀ x ∈ l, SvOk x) ∧ l.length ≤ 1256584717440) :=
  (open_slice (sz := 10) sv0 Try.underlying27 (by kernel_rfl) (by omega) (by decide +kernel) (by decide +kernel) open_sv (fun _ => rfl)).map id (fun _ _ => rfl) fun l h => ⟨h.1, by have h2 := h.2; rw [show Try.prog.bytesOf 44 = 112 from by kernel_rfl] at h2; show l.length ≤ 1256584717440; omega⟩
theorem open_tr : OpenAs enc b Try.prog W 78 (fun s : TrV => [.str s.name, .int .i64 s.weight]) (fun _ => True) :=
  (open_struct Try.underlying78 (by kernel_rfl) (fields_cons (by kernel_rfl) (open_str Try.underlying9) (fields_cons (by kernel_rfl) (open_i64 Try.underlying3) fields_nil))).map
    (fun a => (⟨a.1, a.2.1⟩ : TrV)) (fun _ _ => rfl) (fun _ _ => trivial)
theorem open_trs : OpenAs enc b Try.prog W 26 (fun l : List TrV => [.ro l.length 2 (trF l)]) (fun l => l.length ≤ 5864062014800) :=
  (open_slice (sz := 2) tr0 Try.underlying26 (by kernel_rfl) (by omega) (by decide +kernel) (by decide +kernel) open_tr (fun _ => rfl)).map id (fun _ _ => rfl) fun l h => by have h2 := h.2; rw [show Try.prog.bytesOf 78 = 24 from by kernel_rfl] at h2; show l.length ≤ 5864062014800; omega
theorem open_cf : OpenAs enc b Try.prog W 29 cfCells CfOk :=
  (open_struct Try.underlying29 (by kernel_rfl) (fields_cons (by kernel_rfl) open_mac (fields_cons (by kernel_rfl) (open_str Try.underlying24) (fields_cons (by kernel_rfl) (open_str Try.underlying24)
    (fields_cons (by kernel_rfl) (open_i64 Try.underlying3) (fields_cons (by kernel_rfl) (open_i64 Try.underlying3) (fields_cons (by kernel_rfl) (open_i64 Try.underlying3) (fields_cons (by kernel_rfl) (open_bool Try.underlying4)
    (fields_cons (by kernel_rfl) open_addrs (fields_cons (by kernel_rfl) open_trs (fields_cons (by kernel_rfl) open_svs fields_nil))))))))))).map
    (fun a => (⟨a.1, a.2.1, a.2.2.1, a.2.2.2.1, a.2.2.2.2.1, a.2.2.2.2.2.1, a.2.2.2.2.2.2.1, a.2.2.2.2.2.2.2.1, a.2.2.2.2.2.2.2.2.1, a.2.2.2.2.2.2.2.2.2.1⟩ : CfV)) (fun _ _ => rfl)
    (fun a h => ⟨h.2.2.2.2.2.2.2.1.2, h.2.2.2.2.2.2.2.2.1, h.2.2.2.2.2.2.2.2.2.1.2, h.2.2.2.1, h.2.2.2.2.2.2.2.2.2.1.1⟩)
end
end Go.Proofs.Ytnbbaemijogeoaa.Ae

set_option linter.unusedSimpArgs false
set_option linter.unusedVariables false
namespace Go.Proofs.Ytnbbaemijogeoaa
open Ae (b8 b8_toNat b8_byte b8_toNatN)

theorem two_raw {s : Int} (h : 0 ≤ s ∧ s ≤ 65535) : (raw true (two s) : Int) = s := by
  unfold two
  rw [raw_cons, raw_cons]
  have h1 := b8_toNat (s / 256)
  have h2 := b8_toNat s
  simp only [if_true, Bool.not_true, Bool.false_eq_true, if_false, raw]
  omega
theorem sum_slot {A B : List UInt8} {s : Int} (hA : A.length % 2 = 0) (h : 0 ≤ s ∧ s ≤ 65535) :
    (raw true (A ++ two s ++ B) : Int) = raw true (A ++ two 0 ++ B) + s := by
  have hs : side true A.length = true := by unfold side; simp; omega
  have h2 := two_raw h
  have h0 := two_raw (s := 0) (by omega)
  rw [List.append_assoc, List.append_assoc, raw_append, raw_append, raw_append, raw_append (b := B), hs, two_len, two_len]
  omega
theorem good_slot {A B : List UInt8} {s : Int} (hA : A.length % 2 = 0) (h : s = 65535 - sumB (A ++ two 0 ++ B) ∨ (s = 65535 ∧ 65535 - sumB (A ++ two 0 ++ B) = 0)) : sumB (A ++ two s ++ B) = 65535 := by
  have hb := sumB_bd (A ++ two 0 ++ B)
  have h1 := sum_slot (B := B) hA (s := s) (by omega)
  have h2 : sumB (A ++ two 0 ++ B) % 65535 = (raw true (A ++ two 0 ++ B) : Int) % 65535 := fld_mod _
  have h3 : raw true (A ++ two 0 ++ B) = 0 → sumB (A ++ two 0 ++ B) = 0 := fun e => by unfold sumB; rw [e]; exact fld_small 0 (by omega) (by omega)
  rw [sum_good]
  omega
theorem w16_b8 {n : Int} (h : 0 ≤ n ∧ n ≤ 65535) : w16 (b8 (n / 256)) (b8 n) = n := by
  unfold w16
  have h1 := b8_toNat (n / 256)
  have h2 := b8_toNat n
  omega
theorem b8_small {n : Int} (h : 0 ≤ n ∧ n ≤ 255) : ((b8 n).toNat : Int) = n := by
  have h2 := b8_toNat n
  omega

theorem shape17 (f t : List UInt8) (q fl a c s : Int) (d : List UInt8) (ha : 0 ≤ a ∧ a ≤ 65535) (hc : 0 ≤ c ∧ c ≤ 65535) (hd : d.length ≤ 65000) :
    ptShape ⟨f, t, 17, q, ptBd 17 fl (two a ++ two c) d s⟩ = (⟨17, a, c, 0, 8⟩, 0) := by
  have h8 := w16_b8 (n := 8 + (d.length : Int)) (by omega)
  have e : ptBd 17 fl (two a ++ two c) d s = b8 (a / 256) :: b8 a :: b8 (c / 256) :: b8 c :: b8 ((8 + (d.length : Int)) / 256) :: b8 (8 + (d.length : Int)) :: b8 (s / 256) :: b8 s :: d := by
    unfold ptBd two; rw [if_pos rfl]; rfl
  rw [e]
  unfold ptShape
  rw [if_neg (by simp only; omega), if_neg (by simp only [List.length_cons]; omega), if_pos rfl]
  simp only [List.getD_cons_zero, List.getD_cons_succ, w16_b8 ha, w16_b8 hc, h8, List.length_cons]
  rw [if_neg (by omega)]
theorem shape6 (f t : List UInt8) (q fl a c s : Int) (d : List UInt8) (ha : 0 ≤ a ∧ a ≤ 65535) (hc : 0 ≤ c ∧ c ≤ 65535) (hf : 0 ≤ fl ∧ fl < 64) :
    ptShape ⟨f, t, 6, q, ptBd 6 fl (two a ++ two c) d s⟩ = (⟨6, a, c, fl, 20⟩, 0) := by
  have h8 := b8_small (n := fl) (by omega)
  have e : ptBd 6 fl (two a ++ two c) d s = b8 (a / 256) :: b8 a :: b8 (c / 256) :: b8 c :: 0 :: 0 :: 0 :: 0 :: 0 :: 0 :: 0 :: 0 :: 80 :: b8 fl :: 255 :: 255 :: b8 (s / 256) :: b8 s :: 0 :: 0 :: d := by
    unfold ptBd two; rw [if_neg (by omega)]; rfl
  rw [e]
  unfold ptShape
  rw [if_neg (by simp only; omega), if_neg (by simp only [List.length_cons]; omega), if_neg (by simp only; omega)]
  simp only [List.getD_cons_zero, List.getD_cons_succ, w16_b8 ha, w16_b8 hc, h8, List.length_cons]
  have h80 : ((80 : UInt8).toNat : Int) = 80 := rfl
  rw [h80, if_neg (by omega)]
  simp only [Prod.mk.injEq, Hd.mk.injEq, and_true, true_and]
  omega
def hdAt (proto : Int) : Int := if proto = 6 then 20 else 8
theorem ptW_ok {p : Ip} {h : Hd} {d : List UInt8} (hw : (ptWrite p h d).2 = 0) :
    (h.proto = 6 ∨ h.proto = 17) ∧ hdOk h = true ∧ ipOk (ptPacket p h d) = true ∧ ptWrite p h d = (ptPacket p h d, 0) := by
  rcases ptWrite_cases p h d with ⟨k1, e⟩ | ⟨k1, k2, k3, e⟩ | ⟨k1, k2, e⟩
  · rw [e] at hw; simp at hw
  · exact ⟨k1, k2, k3, e⟩
  · rw [e] at hw; simp at hw
theorem ptW_no {p : Ip} {h : Hd} {d : List UInt8} (hw : (ptWrite p h d).2 ≠ 0) : (ptWrite p h d).1 = noIp := by
  rcases ptWrite_cases p h d with ⟨k1, e⟩ | ⟨k1, k2, k3, e⟩ | ⟨k1, k2, e⟩ <;> rw [e] at hw ⊢ <;> simp at hw ⊢
theorem ptBody_slot (h : Hd) (d : List UInt8) : ∃ A B, A.length % 2 = 0 ∧ ∀ s, ptBody h d s = A ++ two s ++ B := by
  unfold ptBody ptBd
  split
  · exact ⟨two h.src ++ two h.dst ++ two (8 + (d.length : Int)), d, by simp [two], fun s => rfl⟩
  · exact ⟨two h.src ++ two h.dst ++ [0, 0, 0, 0, 0, 0, 0, 0] ++ [80] ++ [b8 h.flags] ++ [255, 255], [0, 0] ++ d, by simp [two], fun s => by simp⟩
theorem ptBody_len (h : Hd) (d : List UInt8) (s : Int) : (ptBody h d s).length = d.length + (if h.proto = 17 then 8 else 20) := by
  unfold ptBody; rw [ptBd_len]; simp only [List.length_append, two_len]; split <;> omega
theorem pseudoL_even (f t : List UInt8) (p l : Int) : (pseudoL f t p l).length % 2 = 0 := by
  unfold pseudoL
  cases h : pseudo f t p l with
  | none => rfl
  | some x => exact (pseudo_len h).2
theorem pt_good (p : Ip) (h : Hd) (d : List UInt8) : ptGood (ptPacket p h d) = true := by
  unfold ptGood
  rw [beq_iff_eq]
  simp only [ptPacket]
  obtain ⟨A, B, hA, hs⟩ := ptBody_slot h d
  have hl : (ptBody h d (ptSum p h d)).length = (ptBody h d 0).length := by rw [ptBody_len, ptBody_len]
  rw [hl]
  have he := pseudoL_even p.src p.dst h.proto ((ptBody h d 0).length : Int)
  have hsum : ptSum p h d = ptRaw p h d ∨ (ptSum p h d = 65535 ∧ ptRaw p h d = 0) := by
    unfold ptSum; split
    · rename_i hz; exact .inr ⟨rfl, hz.1⟩
    · exact .inl rfl
  unfold ptRaw at hsum
  generalize pseudoL p.src p.dst h.proto ((ptBody h d 0).length : Int) = L at he hsum ⊢
  rw [hs] at hsum ⊢
  rw [← List.append_assoc, ← List.append_assoc] at hsum ⊢
  exact good_slot (by rw [List.length_append]; omega) hsum
theorem ptRead_good {P : Ip} {x : Hd} (hs : ptShape P = (x, 0)) (hg : ptGood P = true) (hr : rightA P.src = true) (hl : P.src.length = P.dst.length) : ptRead P = (x, 0) := by
  unfold ptRead
  rw [hs, if_neg (by simp), if_neg (by rw [hg]; simp), if_neg (by simp [hr, hl])]
theorem pt_back {p : Ip} {h : Hd} {d : List UInt8} (hw : (ptWrite p h d).2 = 0) :
    ptRead (ptPacket p h d) = (⟨h.proto, h.src, h.dst, h.flags, hdAt h.proto⟩, 0) := by
  obtain ⟨h1, h2, h3, _⟩ := ptW_ok hw
  rw [hdOk_iff] at h2
  have hip := (ipOk_iff _).1 h3
  simp only [ptPacket, ptBody_len] at hip
  have hr : rightA p.src = true := by unfold rightA; simp; omega
  refine ptRead_good ?_ (pt_good p h d) hr (by simp only [ptPacket]; omega)
  obtain ⟨pr, a, c, fl, at'⟩ := h
  simp only at h1 h2 hip
  rcases h1 with rfl | rfl
  · simp only [ptPacket, ptBody]
    rw [shape6 _ _ _ _ _ _ _ _ (by omega) (by omega) (by omega)]; rfl
  · have : fl = 0 := by omega
    subst this
    simp only [ptPacket, ptBody]
    simp only [if_true] at hip
    rw [shape17 _ _ _ _ _ _ _ _ (by omega) (by omega) (by omega)]; rfl
theorem pt_drop (h : Hd) (d : List UInt8) (s : Int) (h1 : h.proto = 6 ∨ h.proto = 17) : (ptBody h d s).drop (hdAt h.proto).toNat = d := by
  obtain ⟨pr, a, c, fl, at'⟩ := h
  simp only at h1
  rcases h1 with rfl | rfl
  · simp only [ptBody, ptBd, two]; rw [if_neg (by omega)]; rfl
  · simp only [ptBody, ptBd, two]; rw [if_pos trivial]; rfl
theorem pt_flow {p : Ip} {h : Hd} {d : List UInt8} (hw : (ptWrite p h d).2 = 0) :
    ptFlow (ptPacket p h d) = (⟨h.proto, p.src, p.dst, h.src, h.dst⟩, 0) := by
  unfold ptFlow
  rw [pt_back hw]; rfl
theorem pt_other {p : Ip} {h : Hd} {d : List UInt8} (hw : (ptWrite p h d).2 = 0) :
    (ptWrite ⟨p.dst, p.src, p.proto, p.ttl, p.body⟩ ⟨h.proto, h.dst, h.src, h.flags, 0⟩ d).2 = 0 := by
  obtain ⟨h1, h2, h3, _⟩ := ptW_ok hw
  rw [hdOk_iff] at h2
  have hip := (ipOk_iff _).1 h3
  simp only [ptPacket, ptBody_len] at hip
  unfold ptWrite
  rw [if_neg (by simp only; omega), if_pos]
  refine ⟨?_, ?_⟩
  · rw [hdOk_iff]
    obtain ⟨k1, k2, k3, k4, k5, k6, k7, k8⟩ := h2
    exact ⟨k3, k4, k1, k2, k5, k6, rfl, k8⟩
  · rw [ipOk_iff]; simp only [ptPacket, ptBody_len]
    obtain ⟨hl, k1, k2, k3, k4, k5⟩ := hip
    exact ⟨by omega, k1.symm, k2, k3, k4, k5⟩
theorem getD_app_r {α : Type} (a b : List α) (k : Nat) (x : α) : (a ++ b).getD (a.length + k) x = b.getD k x := by
  rw [List.getD_eq_getElem?_getD, List.getD_eq_getElem?_getD, List.getElem?_append_right (by omega), Nat.add_sub_cancel_left]
theorem getD_app_l {α : Type} (a b : List α) {k : Nat} (h : k < a.length) (x : α) : (a ++ b).getD k x = a.getD k x := by
  rw [List.getD_eq_getElem?_getD, List.getD_eq_getElem?_getD, List.getElem?_append_left h]
theorem pt_refuse {Q : Ip} (h6 : Q.proto = 6) (hl : 20 ≤ Q.body.length) (hg : ptGood Q = false) : ∃ e, ptRead Q = (noHd, e) ∧ (e = 52 ∨ e = 53) := by
  have hn : ptNone Q = false := by unfold ptNone; rw [h6]; rfl
  unfold ptRead
  by_cases hs : (ptShape Q).2 = 0
  · rw [if_neg (by omega), if_pos ⟨hn, hg⟩]; exact ⟨_, rfl, .inl rfl⟩
  · rw [if_pos hs]
    refine ⟨_, rfl, .inr ?_⟩
    revert hs
    unfold ptShape
    rw [if_neg (by omega), if_neg (by omega), if_neg (by omega)]
    split <;> simp
theorem pt_turned1 {p : Ip} {h : Hd} {d : List UInt8} (hw : (ptWrite p h d).2 = 0) (h6 : h.proto = 6) {k : Nat} (hk : k < (ptPacket p h d).body.length) {z : UInt8} (hz : z ≠ 0) :
    ∃ e, ptRead ⟨(ptPacket p h d).src, (ptPacket p h d).dst, (ptPacket p h d).proto, (ptPacket p h d).ttl, (ptPacket p h d).body.set k ((ptPacket p h d).body.getD k 0 ^^^ z)⟩ = (noHd, e) ∧ (e = 52 ∨ e = 53) := by
  have hg := pt_good p h d
  have hlen : 20 ≤ (ptPacket p h d).body.length := by simp only [ptPacket, ptBody_len]; rw [if_neg (by omega)]; omega
  have hpr : (ptPacket p h d).proto = 6 := h6
  generalize ptPacket p h d = P at hg hk hlen hpr ⊢
  refine pt_refuse hpr (by simpa using hlen) ?_
  unfold ptGood at hg ⊢
  rw [beq_iff_eq] at hg
  rw [beq_eq_false_iff_ne]
  simp only [List.length_set]
  have := sum_turned (l := pseudoL P.src P.dst P.proto (P.body.length : Int) ++ P.body) (k := (pseudoL P.src P.dst P.proto (P.body.length : Int)).length + k) (y := P.body.getD k 0 ^^^ z) (by rw [List.length_append]; omega)
    (by rw [getD_app_r]; exact xor_ne hz) hg
  rwa [List.set_append_right _ _ (by omega), Nat.add_sub_cancel_left] at this
theorem pt_turned2 {p : Ip} {h : Hd} {d : List UInt8} (hw : (ptWrite p h d).2 = 0) (h6 : h.proto = 6) {k : Nat} (hk : k < (ptPacket p h d).src.length) {z : UInt8} (hz : z ≠ 0) :
    ∃ e, ptRead ⟨(ptPacket p h d).src.set k ((ptPacket p h d).src.getD k 0 ^^^ z), (ptPacket p h d).dst, (ptPacket p h d).proto, (ptPacket p h d).ttl, (ptPacket p h d).body⟩ = (noHd, e) ∧ (e = 52 ∨ e = 53) := by
  have hg := pt_good p h d
  have hlen : 20 ≤ (ptPacket p h d).body.length := by simp only [ptPacket, ptBody_len]; rw [if_neg (by omega)]; omega
  have hpr : (ptPacket p h d).proto = 6 := h6
  obtain ⟨_, _, h3, _⟩ := ptW_ok hw
  have hip := (ipOk_iff _).1 h3
  generalize ptPacket p h d = P at hg hk hlen hpr hip ⊢
  refine pt_refuse hpr hlen ?_
  unfold ptGood at hg ⊢
  rw [beq_iff_eq] at hg
  rw [beq_eq_false_iff_ne]
  simp only
  have hps : ∀ src : List UInt8, src.length = P.src.length → pseudoL src P.dst P.proto (P.body.length : Int) = pseudoB src P.dst P.proto (P.body.length : Int) := fun src e => by
    unfold pseudoL pseudo; rw [if_pos (by omega)]; rfl
  rw [hps _ (by simp)]
  rw [hps _ rfl] at hg
  have hB : ∀ src : List UInt8, src.length = P.src.length → ∃ r, pseudoB src P.dst P.proto (P.body.length : Int) = src ++ r ∧ ∀ src' : List UInt8, src'.length = P.src.length → pseudoB src' P.dst P.proto (P.body.length : Int) = src' ++ r := by
    intro src e
    unfold pseudoB
    by_cases h16 : P.src.length = 16
    · refine ⟨P.dst ++ [b8 ((P.body.length : Int) / 16777216), b8 ((P.body.length : Int) / 65536), b8 ((P.body.length : Int) / 256), b8 (P.body.length : Int), 0, 0, 0, b8 P.proto], ?_, fun src' e' => ?_⟩
      · rw [if_pos (by omega), List.append_assoc]
      · rw [if_pos (by omega), List.append_assoc]
    · refine ⟨P.dst ++ [0, b8 P.proto, b8 ((P.body.length : Int) / 256), b8 (P.body.length : Int)], ?_, fun src' e' => ?_⟩
      · rw [if_neg (by omega), List.append_assoc]
      · rw [if_neg (by omega), List.append_assoc]
  obtain ⟨r, hr, hr'⟩ := hB P.src rfl
  rw [hr' _ (by simp)]
  rw [hr] at hg
  have := sum_turned (l := P.src ++ r ++ P.body) (k := k) (y := P.src.getD k 0 ^^^ z) (by simp only [List.length_append]; omega)
    (by rw [List.append_assoc, getD_app_l _ _ hk]; exact xor_ne hz) hg
  rwa [List.append_assoc, List.set_append_left _ _ hk, ← List.append_assoc] at this
/-- what quotes a packet -/
def quote (l : List UInt8) (s : Int) : List UInt8 := [11, 0, b8 (s / 256), b8 s, 0, 0, 0, 0] ++ l
theorem quote_two (l : List UInt8) (s : Int) : quote l s = [11, 0] ++ two s ++ ([0, 0, 0, 0] ++ l) := by unfold quote two; simp
theorem quote_good (l : List UInt8) : sumB (quote l (65535 - sumB (quote l 0))) = 65535 := by
  rw [quote_two, quote_two]
  exact good_slot rfl (.inl rfl)
theorem take_more {α : Type} {l a b : List α} {n : Nat} (e : l = a ++ b) (hn : a.length ≤ n) : ∃ r, l.take n = a ++ r := by
  refine ⟨b.take (n - a.length), ?_⟩
  rw [e, List.take_append, List.take_of_length_le hn]
theorem pt_quoted {p : Ip} {h : Hd} {d : List UInt8} (hw : (ptWrite p h d).2 = 0) (h4 : p.src.length ≠ 16) {n : Nat} (hn : 24 ≤ n) (q : Int) :
    ptQuoted ⟨p.dst, p.src, 1, q, quote ((ipBytes (ptPacket p h d)).take n) (65535 - sumB (quote ((ipBytes (ptPacket p h d)).take n) 0))⟩ = (⟨h.proto, p.src, p.dst, h.src, h.dst⟩, 0) := by
  obtain ⟨h1, h2, h3, _⟩ := ptW_ok hw
  rw [hdOk_iff] at h2
  have hip := (ipOk_iff _).1 h3
  have hs4 : (ptPacket p h d).src.length ≠ 16 := h4
  obtain ⟨a, b, c, e, x, y, f0, f1, f2, f3, t0, t1, t2, t3, e1, e2, e3, _, _, _, e4, _⟩ := bytes4_form h3 hs4
  have hbody : ∃ r, (ptPacket p h d).body = [b8 (h.src / 256), b8 h.src, b8 (h.dst / 256), b8 h.dst] ++ r := by
    simp only [ptPacket, ptBody, ptBd, two]
    split
    · exact ⟨_, by simp only [List.append_assoc]; rfl⟩
    · exact ⟨_, by simp only [List.append_assoc]; rfl⟩
  obtain ⟨r, hr⟩ := hbody
  rw [hr, ← List.append_assoc] at e3
  obtain ⟨r', hr'⟩ := take_more e3 (n := n) (by simp [head4]; omega)
  rw [hr']
  clear hr' e3 hr
  have hg := quote_good (head4 a b c e x y f0 f1 f2 f3 t0 t1 t2 t3 ++ [b8 (h.src / 256), b8 h.src, b8 (h.dst / 256), b8 h.dst] ++ r')
  generalize 65535 - sumB (quote (head4 a b c e x y f0 f1 f2 f3 t0 t1 t2 t3 ++ [b8 (h.src / 256), b8 h.src, b8 (h.dst / 256), b8 h.dst] ++ r') 0) = s at hg ⊢
  have e1' : p.src = [f0, f1, f2, f3] := e1
  have e2' : p.dst = [t0, t1, t2, t3] := e2
  have e4' : (e.toNat : Int) = h.proto := e4
  have hq : quote (head4 a b c e x y f0 f1 f2 f3 t0 t1 t2 t3 ++ [b8 (h.src / 256), b8 h.src, b8 (h.dst / 256), b8 h.dst] ++ r') s = 11 :: 0 :: b8 (s / 256) :: b8 s :: 0 :: 0 :: 0 :: 0 :: 69 :: 0 :: a :: b :: 0 :: 0 :: 64 :: 0 :: c :: e :: x :: y :: f0 :: f1 :: f2 :: f3 :: t0 :: t1 :: t2 :: t3 :: b8 (h.src / 256) :: b8 h.src :: b8 (h.dst / 256) :: b8 h.dst :: r' := rfl
  rw [hq] at hg ⊢
  have hE : ptErrs ⟨p.dst, p.src, 1, q, 11 :: 0 :: b8 (s / 256) :: b8 s :: 0 :: 0 :: 0 :: 0 :: 69 :: 0 :: a :: b :: 0 :: 0 :: 64 :: 0 :: c :: e :: x :: y :: f0 :: f1 :: f2 :: f3 :: t0 :: t1 :: t2 :: t3 :: b8 (h.src / 256) :: b8 h.src :: b8 (h.dst / 256) :: b8 h.dst :: r'⟩ = true := by
    rw [ptErrs_iff, e1', e2']
    refine ⟨by simp, rfl, .inl ⟨rfl, rfl, .inr rfl⟩⟩
  unfold ptQuoted
  rw [if_neg (by rw [hE]; simp), if_pos (by simp only; rw [e2']; rfl), if_neg (by simp only; rw [hg]; simp)]
  simp only [List.getD_cons_zero, List.getD_cons_succ, List.length_cons, w16_b8 (n := h.src) (by omega), w16_b8 (n := h.dst) (by omega)]
  rw [if_neg (by
    have h69 : (69 : UInt8).toNat = 69 := rfl
    omega), e4', e1', e2']
  rfl
end Go.Proofs.Ytnbbaemijogeoaa
set_option linter.unusedSimpArgs false
set_option linter.unusedVariables false
namespace Go.Proofs.Ytnbbaemijogeoaa
open Ae (b8 b8_toNat b8_byte b8_toNatN)

structure Adv where
  id : Int
  pri : Int
  every : Int
  addrs : List (List UInt8)
def noAdv : Adv := ⟨0, 0, 0, []⟩
def adGroup (six : Bool) : List UInt8 := if six then [255, 2, 0, 0, 0, 0, 0, 0, 0, 0, 0, 0, 0, 0, 0, 18] else [224, 0, 0, 18]
def adRight (a : Adv) (src : List UInt8) : Bool :=
  rightA src && decide (1 ≤ a.id) && decide (a.id ≤ 255) && decide (0 ≤ a.pri) && decide (a.pri ≤ 255) && decide (1 ≤ a.every) && decide (a.every ≤ 4095) && decide (1 ≤ a.addrs.length) && decide (a.addrs.length ≤ 8) && a.addrs.all fun x => decide (x.length = src.length)
def adHead (a : Adv) (s : Int) : List UInt8 := [49, b8 a.id, b8 a.pri, b8 (a.addrs.length : Int), b8 (a.every / 256), b8 a.every, b8 (s / 256), b8 s]
def adBody (a : Adv) (s : Int) : List UInt8 := adHead a s ++ a.addrs.flatten
def adSum (a : Adv) (src : List UInt8) : Int := 65535 - sumB (pseudoL src (adGroup (decide (src.length = 16))) 112 ((adBody a 0).length : Int) ++ adBody a 0)
def adPacket (a : Adv) (src : List UInt8) : Ip := ⟨src, adGroup (decide (src.length = 16)), 112, 255, adBody a (adSum a src)⟩
def adEncode (a : Adv) (src : List UInt8) : Ip × Int := if adRight a src then (adPacket a src, 0) else (noIp, 1)
/-- parts of n bytes, from a place on -/
def parts (n : Nat) (l : List UInt8) : Nat → List (List UInt8)
  | 0 => []
  | k + 1 => l.take n :: parts n (l.drop n) k
def adDecode (p : Ip) : Adv × Int :=
  if p.ttl ≠ 255 ∨ p.proto ≠ 112 then (noAdv, 65)
  else if rightA p.src = false ∨ p.src.length ≠ p.dst.length ∨ p.body.length < 8 then (noAdv, 60)
  else if (p.body.getD 0 0).toNat / 16 ≠ 3 then (noAdv, 61)
  else if (p.body.getD 0 0).toNat % 16 ≠ 1 then (noAdv, 62)
  else if (p.body.getD 3 0).toNat < 1 ∨ 8 < (p.body.getD 3 0).toNat ∨ p.body.length ≠ 8 + (p.body.getD 3 0).toNat * p.src.length then (noAdv, 63)
  else if sumB (pseudoL p.src p.dst 112 (p.body.length : Int) ++ p.body) ≠ 65535 then (noAdv, 64)
  else if (p.body.getD 1 0).toNat = 0 ∨ w16 (p.body.getD 4 0) (p.body.getD 5 0) = 0 ∨ 4095 < w16 (p.body.getD 4 0) (p.body.getD 5 0) then (noAdv, 66)
  else (⟨(p.body.getD 1 0).toNat, (p.body.getD 2 0).toNat, w16 (p.body.getD 4 0) (p.body.getD 5 0), parts p.src.length (p.body.drop 8) (p.body.getD 3 0).toNat⟩, 0)
theorem adRight_iff (a : Adv) (s : List UInt8) : adRight a s = true ↔ (s.length = 4 ∨ s.length = 16) ∧ 1 ≤ a.id ∧ a.id ≤ 255 ∧ 0 ≤ a.pri ∧ a.pri ≤ 255 ∧ 1 ≤ a.every ∧ a.every ≤ 4095 ∧ 1 ≤ a.addrs.length ∧ a.addrs.length ≤ 8 ∧ ∀ x ∈ a.addrs, x.length = s.length := by
  unfold adRight rightA
  simp only [Bool.and_eq_true, Bool.or_eq_true, decide_eq_true_eq, List.all_eq_true]
  constructor
  · rintro ⟨⟨⟨⟨⟨⟨⟨⟨⟨h0, h1⟩, h2⟩, h3⟩, h4⟩, h5⟩, h6⟩, h7⟩, h8⟩, h9⟩
    exact ⟨h0, h1, h2, h3, h4, h5, h6, h7, h8, h9⟩
  · rintro ⟨h0, h1, h2, h3, h4, h5, h6, h7, h8, h9⟩
    exact ⟨⟨⟨⟨⟨⟨⟨⟨⟨h0, h1⟩, h2⟩, h3⟩, h4⟩, h5⟩, h6⟩, h7⟩, h8⟩, h9⟩
theorem adEncode_no {a : Adv} {s : List UInt8} (h : ¬ adRight a s = true) : adEncode a s = (noIp, 1) := if_neg h
theorem adEncode_yes {a : Adv} {s : List UInt8} (h : adRight a s = true) : adEncode a s = (adPacket a s, 0) := if_pos h
theorem b8_0 : b8 0 = 0 := by decide
theorem b8_00 : b8 (0 / 256) = 0 := by decide
theorem adHead_0 (a : Adv) : adHead a 0 = [49, b8 a.id, b8 a.pri, b8 (a.addrs.length : Int), b8 (a.every / 256), b8 a.every, 0, 0] := by unfold adHead; rw [b8_0, b8_00]
theorem adBody_set (a : Adv) (q : Int) : ((adBody a 0).set 6 (b8 (q / 256))).set 7 (b8 q) = adBody a q := rfl
theorem adBody_len (a : Adv) (q : Int) : (adBody a q).length = 8 + a.addrs.flatten.length := by unfold adBody adHead; simp; omega
theorem flat_len : ∀ (l : List (List UInt8)) (m : Nat), (∀ x ∈ l, x.length = m) → l.flatten.length = l.length * m
  | [], m, _ => by simp
  | x :: r, m, h => by
    rw [List.flatten_cons, List.length_append, flat_len r m fun y hy => h y (List.mem_cons_of_mem _ hy), h x (List.mem_cons_self ..), List.length_cons, Nat.add_mul]
    omega
theorem ad_len {a : Adv} {s : List UInt8} (h : adRight a s = true) : a.addrs.flatten.length = a.addrs.length * s.length ∧ a.addrs.length * s.length ≤ 128 := by
  obtain ⟨h0, _, _, _, _, _, _, _, h8, h9⟩ := (adRight_iff a s).1 h
  refine ⟨flat_len _ _ h9, ?_⟩
  have h16 : s.length ≤ 16 := by omega
  calc a.addrs.length * s.length ≤ 8 * 16 := Nat.mul_le_mul h8 h16
    _ = 128 := rfl
theorem adGroup_len (b : Bool) : (adGroup b).length = if b then 16 else 4 := by cases b <;> rfl
theorem ad_pseudo {s : List UInt8} (h : s.length = 4 ∨ s.length = 16) (n : Int) : ∃ x, pseudo s (adGroup (decide (s.length = 16))) 112 n = some x ∧ pseudoL s (adGroup (decide (s.length = 16))) 112 n = x ∧ x.length ≤ 40 := by
  have hl := adGroup_len (decide (s.length = 16))
  have e : pseudo s (adGroup (decide (s.length = 16))) 112 n = some (pseudoB s (adGroup (decide (s.length = 16))) 112 n) := by
    unfold pseudo
    rw [if_pos ⟨h, by rcases h with h | h <;> simp [h] at hl ⊢ <;> omega⟩]
  exact ⟨_, e, by unfold pseudoL; rw [e]; rfl, (pseudo_len e).1⟩
end Go.Proofs.Ytnbbaemijogeoaa
set_option linter.unusedSimpArgs false
set_option linter.unusedVariables false
set_option maxRecDepth 100000
namespace Go.Proofs.Ytnbbaemijogeoaa
open Go Ae
/-- the first of some lists that has another length -/
def idxFrom (g : Nat → List UInt8) (L : Nat) : Nat → Nat → Int
  | 0, _ => -1
  | j + 1, k => if (g k).length ≠ L then (k : Int) else idxFrom g L j (k + 1)
theorem idxFrom_neg {g : Nat → List UInt8} {L : Nat} : ∀ {j k : Nat}, 0 ≤ idxFrom g L j k ↔ ∃ i, k ≤ i ∧ i < k + j ∧ (g i).length ≠ L
  | 0, k => by
    unfold idxFrom
    exact ⟨fun h => by omega, fun ⟨i, h1, h2, _⟩ => by omega⟩
  | j + 1, k => by
    unfold idxFrom
    split
    · rename_i h
      exact ⟨fun _ => ⟨k, by omega, by omega, h⟩, fun _ => by omega⟩
    · rename_i h
      rw [idxFrom_neg]
      constructor
      · rintro ⟨i, h1, h2, h3⟩
        exact ⟨i, by omega, by omega, h3⟩
      · rintro ⟨i, h1, h2, h3⟩
        have : i ≠ k := fun e => h (by rw [← e]; exact h3)
        exact ⟨i, by omega, by omega, h3⟩
theorem strs_all {n : Nat} {f : Nat → List AVal} {L : Nat} : ((strs n f).all fun x => decide (x.length = L)) = !decide (0 ≤ idxFrom (strAt f) L n 0) := by
  rw [Bool.eq_iff_iff, List.all_eq_true, Bool.not_eq_true', decide_eq_false_iff_not, idxFrom_neg]
  unfold strs
  constructor
  · rintro h ⟨i, _, h2, h3⟩
    exact h3 (by simpa using h _ (List.mem_map.2 ⟨i, by simpa using h2, rfl⟩))
  · intro h x hx
    obtain ⟨i, hi, rfl⟩ := List.mem_map.1 hx
    have : i < n := by simpa using hi
    rw [decide_eq_true_eq]
    exact Classical.byContradiction fun h3 => h ⟨i, by omega, by omega, h3⟩
end Go.Proofs.Ytnbbaemijogeoaa
namespace Go.Proofs.Ytnbbaemijogeoaa.Ae
open Go
def adIp (x : Ip × Int) : AVal := .tup [.agg [.str x.1.src, .str x.1.dst, .int .i64 x.1.proto, .int .i64 x.1.ttl, .str x.1.body], .int .i64 x.2]
def adEncRow : Srow := fun args H K => match args, H with
  | [.agg [.int .i64 i, .int .i64 p, .int .i64 e, .ro n 1 f], .str s], [] => (IsStrs n f ∧ n ≤ 140737488351232) ∧
    K (.tup [.agg [.str (adEncode ⟨i, p, e, strs n f⟩ s).1.src, .str (adEncode ⟨i, p, e, strs n f⟩ s).1.dst, .int .i64 (adEncode ⟨i, p, e, strs n f⟩ s).1.proto, .int .i64 (adEncode ⟨i, p, e, strs n f⟩ s).1.ttl, .str (adEncode ⟨i, p, e, strs n f⟩ s).1.body], .int .i64 (adEncode ⟨i, p, e, strs n f⟩ s).2]) []
  | _, _ => False
abbrev Tad1 : Specs := Tip
theorem Tad1_sound : TSound Try.prog Tad1 := Tip_sound
abbrev Tad2 : Specs := Tad1
theorem Tad2_sound : TSound Try.prog Tad2 := Tad1_sound
abbrev Tad3 : Specs := Tad2
theorem Tad3_sound : TSound Try.prog Tad3 := Tad2_sound
abbrev Tad4 : Specs := Tad3
theorem Tad4_sound : TSound Try.prog Tad4 := Tad3_sound
abbrev Tad5 : Specs := Tad4
theorem Tad5_sound : TSound Try.prog Tad5 := Tad4_sound
abbrev Tad6 : Specs := Tad5
theorem Tad6_sound : TSound Try.prog Tad6 := Tad5_sound
abbrev Tad7 : Specs := Tad6
theorem Tad7_sound : TSound Try.prog Tad7 := Tad6_sound
abbrev Tad8 : Specs := Tad7
theorem Tad8_sound : TSound Try.prog Tad8 := Tad7_sound
abbrev Tad9 : Specs := Tad8
theorem Tad9_sound : TSound Try.prog Tad9 := Tad8_sound
abbrev Tad : Specs := Tad9
theorem Tad_sound : TSound Try.prog Tad := Tad9_sound
end Go.Proofs.Ytnbbaemijogeoaa.Ae

set_option linter.unusedSimpArgs false
set_option linter.unusedVariables false
namespace Go.Proofs.Ytnbbaemijogeoaa
open Go Go.RowKit
attribute [local go_sem] Oper.semAt_some
def encS (x : List UInt8) : Value := .string ⟨x.toArray⟩
/-- what a round keeps: the body, and how long a part is -/
def KpA (Bb Bl : Nat) (W W' : World) : Prop := W'.cell? ⟨Bb, 0, none⟩ = W.cell? ⟨Bb, 0, none⟩ ∧ W'.cell? ⟨Bl, 0, none⟩ = W.cell? ⟨Bl, 0, none⟩
theorem KpA.t {Bb Bl : Nat} {A B C : World} (h : KpA Bb Bl A B) (k : KpA Bb Bl B C) : KpA Bb Bl A C := ⟨k.1.trans h.1, k.2.trans h.2⟩
theorem cell_putObj {W : World} {l B : Nat} {o : Obj} (h : B ≠ l) : (W.putObj l o).cell? ⟨B, 0, none⟩ = W.cell? ⟨B, 0, none⟩ := World.cell?_of_block (World.putObj_heap_other h)
theorem parts_length (m : Nat) : ∀ (l : List UInt8) (k : Nat), (parts m l k).length = k
  | _, 0 => rfl
  | l, k + 1 => congrArg (· + 1) (parts_length m (l.drop m) k)
theorem parts_snoc (m : Nat) : ∀ (l : List UInt8) (k : Nat), parts m l (k + 1) = parts m l k ++ [(l.drop (k * m)).take m]
  | l, 0 => by simp [parts]
  | l, k + 1 => by
    show l.take m :: parts m (l.drop m) (k + 1) = (l.take m :: parts m (l.drop m) k) ++ _
    rw [parts_snoc m (l.drop m) k, List.drop_drop, Nat.add_mul, Nat.one_mul, Nat.add_comm m (k * m)]
    rfl
theorem parts_prefix (m : Nat) : ∀ (l : List UInt8) (k c : Nat), k < c → parts m l (k + 1) <+: parts m l c
  | l, k, 0, h => by omega
  | l, 0, c + 1, _ => by
    show [l.take m] <+: l.take m :: parts m (l.drop m) c
    exact ⟨_, rfl⟩
  | l, k + 1, c + 1, h => by
    show l.take m :: parts m (l.drop m) (k + 1) <+: l.take m :: parts m (l.drop m) c
    exact (List.prefix_cons_inj _).2 (parts_prefix m (l.drop m) k c (by omega))
def mAt (N : Nat) (v : Value) : Nat := match v with
  | .int _ z => N - z.toNat
  | _ => 0
set_option maxRecDepth 100000 in
set_option maxHeartbeats 1000000 in
theorem addrs1_in (F : Fence) (n : Nat) (hF : F.fn 84) (hro : F.round = none) (hn : 1 ≤ n) (l Bb Bl : Nat) (b : List UInt8) (m c : Nat) (hm : 1 ≤ m) (hb : b.length = 8 + c * m) (hlen : b.length ≤ 140737488351232) (J Jx : List (List UInt8) → World → Prop)
    (hY : ∀ pre (x : List UInt8) W, J pre W → pre.length < c → x.length ≤ b.length → YieldAt F (n - 1) Try.prog l #[encS x] W fun e W' =>
      (e = .returned (.bool true) ∧ J (pre ++ [x]) W' ∧ KpA Bb Bl W W') ∨ (e = .returned (.bool false) ∧ Jx (pre ++ [x]) W'))
    (W : World) (hBb : W.cell? ⟨Bb, 0, none⟩ = some (encS b)) (hBl : W.cell? ⟨Bl, 0, none⟩ = some (.int .i64 (m : Int))) (h0 : J [] W) :
    CallsIn F n Try.prog 84 #[.func (.yield l) #[] #[], .pointer (some ⟨Bb, 0, none⟩), .pointer (some ⟨Bl, 0, none⟩)] W fun e W' => (∃ v, e = .returned v) ∧
      ((∃ ys, ys = parts m (b.drop 8) c ∧ J ys W') ∨ (∃ pre, pre <+: parts m (b.drop 8) c ∧ Jx pre W')) := by
  refine callsIn_of_wp Try.func84 rfl hF ?_ hro
  simp only [Try.ntmps84, List.size_toArray, List.length_cons, List.length_nil, Nat.reduceAdd, Nat.reduceSub, Array.replicate_succ, Array.replicate_zero, List.push_toArray, List.append_toArray, List.nil_append, List.cons_append]
  gi_wp2
  gi_loopw [4] (fun p wr => ∃ (k t : Nat), p = .int .i64 (t : Int) ∧ t = 8 + k * m ∧ k ≤ c ∧ wr.cell? ⟨Bb, 0, none⟩ = some (encS b) ∧ wr.cell? ⟨Bl, 0, none⟩ = some (.int .i64 (m : Int)) ∧ J (parts m (b.drop 8) k) wr)
    (fun p wr => mAt b.length p)
  case atStart => exact ⟨0, 8, rfl, by simp, Nat.zero_le _, hBb, hBl, h0⟩
  case round =>
    obtain ⟨k, t, rfl, ht, hk, hc1, hc2, hJ⟩ := hrel
    unfold encS at hc1
    rcases Nat.lt_or_ge k c with hkc | hkc
    · have hkm : (k + 1) * m ≤ c * m := Nat.mul_le_mul_right m hkc
      rw [Nat.add_mul, Nat.one_mul] at hkm
      have hlt : (t : Int) < (b.length : Int) := by omega
      have hwr : wrap64 ((t : Int) + (m : Int)) = (t : Int) + (m : Int) := IntWalk.wrap64_in _ (by omega)
      have hcut : ∀ w : World, (Instr.slice 9 (.string ⟨b.toArray⟩) (some (.int .i64 (t : Int))) (some (.int .i64 ((t : Int) + (m : Int)))) none).run Try.prog w = .ok (encS ((b.drop t).take m)) w := fun w => by
        rw [run_slice_string w 9 ⟨b.toArray⟩ .i64 .i64 (t : Int) ((t : Int) + (m : Int)) Try.underlying9 (by omega) (by omega) (by show _ ≤ ((b.toArray.size : Nat) : Int); rw [List.size_toArray]; omega), ByteArray.extract_mk]
        rw [show ((t : Int) + (m : Int)).toNat = t + m by omega, Int.toNat_natCast, Nat.add_sub_cancel_left]
        rfl
      obtain ⟨fn, tmps, assign, body, hy, hR⟩ := hY _ ((b.drop t).take m) wr hJ (by rw [parts_length]; exact hkc) (by rw [List.length_take, List.length_drop]; omega)
      have HT := hid ht
      have HB := hid hb
      clear ht hb
      gi_wp2
      refine hR.mono ?_
      rintro e W3 (⟨rfl, hJ3, hk3⟩ | ⟨rfl, hJx3⟩)
      · have hc3 := hk3.1.trans hc1
        have hc4 := hk3.2.trans hc2
        gi_wp2
        have ht := HT.out
        have hb := HB.out
        go_roundw
        case rel => exact ⟨k + 1, t + m, by rw [hwr]; simp, by rw [Nat.add_mul]; omega, hkc, hc3, hc4, by rw [parts_snoc, List.drop_drop, ← ht]; exact hJ3⟩
        case measure => rw [hwr]; simp only [mAt]; clear hR hy hcut hY; omega
      · gi_wp2
        have ht := HT.out
        refine bodyPost_ret (results_none rfl _ _ _) rfl ?_
        exact ⟨⟨_, rfl⟩, .inr ⟨_, parts_prefix m _ k c hkc, by rw [parts_snoc, List.drop_drop, ← ht]; exact hJx3⟩⟩
    · obtain rfl : k = c := by omega
      have hnl : ¬ (t : Int) < (b.length : Int) := by omega
      clear ht hb
      gi_wp2
      go_end0
      exact ⟨⟨_, rfl⟩, .inl hJ⟩
abbrev Str := { x : List UInt8 // x.length ≤ Ae.big }
theorem addrs_stops (F : Fence) (n : Nat) (hF : F.fn 84) (hro : F.round = none) (hn : 1 ≤ n) (Bb Bl : Nat) (b : List UInt8) (m c : Nat) (hm : 1 ≤ m) (hb : b.length = 8 + c * m) (hlen : b.length ≤ 140737488351232) (w : World)
    (h1 : Bb < w.heap.size) (h2 : Bl < w.heap.size) (hc1 : w.cell? ⟨Bb, 0, none⟩ = some (encS b)) (hc2 : w.cell? ⟨Bl, 0, none⟩ = some (.int .i64 (m : Int))) :
    SeqStopsK F n Try.prog 84 #[.pointer (some ⟨Bb, 0, none⟩), .pointer (some ⟨Bl, 0, none⟩)] (fun x : Str => #[encS x.1]) (KpA Bb Bl) (fun ys => ys.map (·.1) = parts m (b.drop 8) c) (fun pre => pre.map (·.1) <+: parts m (b.drop 8) c) c w := fun l J Jx W hW _ _ hY h0 => by
  refine (addrs1_in F n hF hro hn l Bb Bl b m c hm hb hlen (fun pre W => ∃ ys : List Str, ys.map (·.1) = pre ∧ J ys W) (fun pre W => ∃ ys : List Str, ys.map (·.1) = pre ∧ Jx ys W) (fun pre x W hJ hl hx => ?_) W ((hW.cell (p := ⟨Bb, 0, none⟩) h1).trans hc1) ((hW.cell (p := ⟨Bl, 0, none⟩) h2).trans hc2) ⟨[], rfl, h0⟩).mono ?_
  · obtain ⟨ys, rfl, hJ⟩ := hJ
    obtain ⟨fn, tmps, assign, body, h3, h4⟩ := hY ys ⟨x, by unfold Ae.big; omega⟩ W hJ (by simpa using hl)
    refine ⟨fn, tmps, assign, body, h3, h4.mono fun e W' h5 => ?_⟩
    rcases h5 with ⟨h6, h7, h8⟩ | ⟨h6, h7⟩
    · exact .inl ⟨h6, ⟨_, by simp, h7⟩, h8⟩
    · exact .inr ⟨h6, ⟨_, by simp, h7⟩⟩
  · rintro e W' ⟨h3, h4⟩
    refine ⟨h3, ?_⟩
    rcases h4 with ⟨ys, rfl, xs, h5, h6⟩ | ⟨pre, h5, xs, h6, h7⟩
    · exact .inl ⟨xs, h5, h6⟩
    · exact .inr ⟨xs, by show xs.map (·.1) <+: _; rw [h6]; exact h5, h7⟩
end Go.Proofs.Ytnbbaemijogeoaa

set_option linter.unusedSimpArgs false
set_option linter.unusedVariables false
namespace Go.Proofs.Ytnbbaemijogeoaa.Ae
open Go Go.RowKit

/-- each live block of the second heap is one of the first (o), or holds nothing -/
structure Turn (R : Nat → Prop) (w : World) (m : Mp) (H : Hp) (R2 : Nat → Prop) (m2 : Mp) (H2 : Hp) (o : Nat → Option Nat) : Prop where
  sub : ∀ g, R g → R2 g
  newR : ∀ g, R2 g → R g ∨ ∃ k0, hget k0 H ≠ .dead ∧ m k0 = some g ∧ ∀ k, hget k H2 ≠ .dead → o k ≠ some k0
  out : ∀ k, H2.length ≤ k → m2 k = none
  orig : ∀ k, hget k H2 ≠ .dead → (o k = none ∧ m2 k = none ∧ (hget k H2).len = 0) ∨
    ∃ k0, o k = some k0 ∧ hget k0 H ≠ .dead ∧ m2 k = m k0 ∧ (hget k H2).len = (hget k0 H).len ∧ ∀ xs, BR R w m H (hget k0 H) xs → BR R2 w m2 H2 (hget k H2) xs
  inj : ∀ k k' k0, hget k H2 ≠ .dead → hget k' H2 ≠ .dead → o k = some k0 → o k' = some k0 → k = k'
  len : H.length ≤ H2.length
  same : ∀ k, k < H.length → m2 k = m k
  old : ∀ k, k < H.length → hget k H2 = .dead ∨ o k = some k
theorem Turn.far {R : Nat → Prop} {w : World} {m : Mp} {H : Hp} {R2 : Nat → Prop} {m2 : Mp} {H2 : Hp} {o : Nat → Option Nat} (t : Turn R w m H R2 m2 H2 o) (hS : Sim R w m H) : Far R w m H R2 w m2 H2 := by
  have hS2 : Sim R2 w m2 H2 := by
    refine ⟨fun g hg => ?_, t.out, fun k g hk hg => ?_, fun k hk hn => ?_, fun k k' g hk hk' hg hg' => ?_⟩
    · rcases t.newR g hg with h | ⟨k0, h1, h2, _⟩
      · exact hS.rlt g h
      · obtain ⟨_, xs, e, fr, h3, _⟩ := hS.own k0 g h1 h2
        exact (Array.getElem?_eq_some_iff.1 h3).1
    · rcases t.orig k hk with ⟨_, h, _⟩ | ⟨k0, h0, h1, h2, h3, h4⟩
      · rw [h] at hg; cases hg
      · rw [h2] at hg
        obtain ⟨a1, xs, e, fr, a2, a3, a4, a5⟩ := hS.own k0 g h1 hg
        refine ⟨fun hr => ?_, xs, e, fr, a2, a3, a4, h4 xs a5⟩
        rcases t.newR g hr with h | ⟨k1, c1, c2, c3⟩
        · exact a1 h
        · have := hS.inj k0 k1 g h1 c1 hg c2
          subst this
          exact c3 k hk h0
    · rcases t.orig k hk with ⟨_, _, h⟩ | ⟨k0, h0, h1, h2, h3, h4⟩
      · exact h
      · rw [h3]; rw [h2] at hn; exact hS.ph k0 h1 hn
    · rcases t.orig k hk with ⟨_, h, _⟩ | ⟨k0, h0, h1, h2, _, _⟩
      · rw [h] at hg; cases hg
      rcases t.orig k' hk' with ⟨_, h, _⟩ | ⟨k1, c0, c1, c2, _, _⟩
      · rw [h] at hg'; cases hg'
      rw [h2] at hg; rw [c2] at hg'
      have := hS.inj k0 k1 g h1 c1 hg hg'
      subst this
      exact t.inj k k' k0 hk hk' h0 c0
  refine ⟨t.sub, fun g hg => ?_, hS2, rfl, rfl, rfl, Nat.le_refl _, fun _ _ => rfl, fun _ _ _ => rfl, fun k g hg => ?_, t.len, fun k hk => ?_, fun k g hk hg => ?_, t.same⟩
  · rcases t.newR g hg with h | ⟨k0, h1, h2, _⟩
    · exact .inl h
    · exact .inr (.inr ⟨k0, h1, h2⟩)
  · rcases Nat.lt_or_ge k H.length with h | h
    · rw [t.same k h]; exact hg
    · rw [hS.out k h] at hg; cases hg
  · by_cases hd : hget k H2 = .dead
    · exact .inl hd
    · rcases t.old k hk with h | h
      · exact .inl h
      · rcases t.orig k hd with ⟨h1, _⟩ | ⟨k0, h0, h1, h2, h3, _⟩
        · rw [h] at h1; cases h1
        · rw [h] at h0; cases h0
          exact .inr ⟨h1, h3⟩
  · rcases t.orig k hk with ⟨_, h, _⟩ | ⟨k0, h0, h1, h2, _, _⟩
    · rw [h] at hg; cases hg
    · rw [h2] at hg; exact .inr ⟨k0, h1, hg⟩

theorem hget_big {k : Nat} {H : Hp} (h : hget k H ≠ .dead) : k < H.length := hget_lt h
section
variable {pre cs : List AVal} {k : Nat}
theorem vl_swap {R R2 : Nat → Prop} {w : World} {m m2 : Mp} {H H2 : Hp} {u v : AVal} (hpre : closedL pre = true) (hR : ∀ g, R g → R2 g) (h : ∀ x, VR R w m H u x → VR R2 w m2 H2 v x) {xs : List Value} (hx : VL R w m H (pre ++ [u]) xs) : VL R2 w m2 H2 (pre ++ [v]) xs := by
  obtain ⟨a, b, rfl, h1, h2⟩ := hx.split
  obtain ⟨x, rfl, h3⟩ := h2.one
  have h1' : VL R w Mp.nil [] pre a := VL.closed h1 hpre
  have h1'' : VL R2 w Mp.nil [] pre a := ⟨h1'.1, fun i v x hv hx => (h1'.2 i v x hv hx).mono hR (fun _ _ => rfl) (fun _ _ h => h) (fun _ _ h => h) (Nat.le_refl _) (fun k hk => by simp at hk)⟩
  exact VL.append (VL.closed h1'' hpre) (VL.cons (h x h3) VL.nil)
theorem br_swap {R R2 : Nat → Prop} {w : World} {m m2 : Mp} {H H2 : Hp} {u v : AVal} (hpre : closedL pre = true) (hR : ∀ g, R g → R2 g) (h : ∀ x, VR R w m H u x → VR R2 w m2 H2 v x) {xs : List Value} (hx : BR R w m H (.vals (pre ++ [u])) xs) : BR R2 w m2 H2 (.vals (pre ++ [v])) xs := by
  obtain ⟨ys, r, rfl, hv⟩ := hx
  exact ⟨ys, r, rfl, vl_swap hpre hR h hv⟩
theorem br_flat {R R2 : Nat → Prop} {w : World} {m m2 : Mp} {H H2 : Hp} (hR : ∀ g, R g → R2 g) {xs : List Value} (hx : BR R w m H (.flat cs) xs) : BR R2 w m2 H2 (.flat cs) xs := by
  obtain ⟨ys, r, rfl, hv⟩ := hx
  exact ⟨ys, r, rfl, hv.1, fun i v x hv' hx => (hv.2 i v x hv' hx).mono hR (fun _ _ => rfl) (fun _ _ h => h) (fun _ _ h => h) (Nat.le_refl _) (fun k hk => by simp at hk)⟩
/-- the row stands under the next number -/
theorem ResLe.move {v : AVal} (hv : closed v = true) (hpre : closedL pre = true) {sz : Nat} : ResLe v [.vals (pre ++ [.sl 1 0 k sz]), .flat cs] v [.vals (pre ++ [.sl 2 0 k sz]), .dead, .flat cs] := by
  intro R w m x hS hx
  have h2 : m 2 = none := hS.out 2 (by simp)
  refine ⟨R, fun j => if j = 2 then m 1 else m j, Turn.far (o := fun j => if j = 0 then some 0 else if j = 2 then some 1 else none) ⟨fun _ h => h, fun g h => .inl h, fun j hj => ?_, fun j hj => ?_, fun j j' k0 hj hj' h h' => ?_, by simp, fun j hj => ?_, fun j hj => ?_⟩ hS, hx.closed hv⟩
  · simp at hj
    rw [if_neg (by omega)]; exact hS.out j (by simp; omega)
  · have := hget_lt hj
    simp at this
    have : j = 0 ∨ j = 1 ∨ j = 2 := by omega
    rcases this with rfl | rfl | rfl
    · refine .inr ⟨0, rfl, by simp [hget], by simp, by simp [hget, ABlk.len], fun xs hb => ?_⟩
      refine br_swap (u := .sl 1 0 k sz) hpre (fun _ h => h) (fun y hy => ?_) hb
      cases hy with
      | sl _ _ _ _ a c q1 q2 q3 q4 q5 q6 =>
        refine .sl 2 0 k sz a c q1 q2 q3 (by simp) (fun hc => ?_) ?_
        · simpa using q5 hc
        · simpa [hget] using q6
    · simp [hget] at hj
    · refine .inr ⟨1, rfl, by simp [hget], by simp, by simp [hget], fun xs hb => ?_⟩
      exact br_flat (fun _ h => h) hb
  · have l1 := hget_lt hj
    have l2 := hget_lt hj'
    simp at l1 l2
    have c1 : j = 0 ∨ j = 1 ∨ j = 2 := by omega
    have c2 : j' = 0 ∨ j' = 1 ∨ j' = 2 := by omega
    rcases c1 with rfl | rfl | rfl <;> rcases c2 with rfl | rfl | rfl <;> simp at h h' <;> first | rfl | omega | (subst h; simp at h')
  · simp at hj
    rw [if_neg (by omega)]
  · simp at hj
    have : j = 0 ∨ j = 1 := by omega
    rcases this with rfl | rfl
    · exact .inr rfl
    · exact .inl rfl
/-- the row is only read from now on; a new one holds nothing -/
theorem ResLe.taken {sz : Nat} (hsz : 1 ≤ sz) (hpre : closedL pre = true) : ResLe (.sl 1 0 k sz) [.vals (pre ++ [.nilS]), .flat cs] (.ro k sz (rowsOf sz ((cs.drop 0).take (k * sz)))) [.vals (pre ++ [.sl 2 0 0 sz]), .dead, .flat []] := by
  intro R w m x hS hx
  have h2 : m 2 = none := hS.out 2 (by simp)
  have hb : Nat.ble 1 sz = true := Nat.ble_eq_true_of_le hsz
  have hsn := snapC_sound hS (imps := []) (ks := [1]) hx (v' := .ro k sz (rowsOf sz ((cs.drop 0).take (k * sz)))) (by simp [snapC, elemN, hget, hb]) (fun j hj => by simpa [snapsC, elemN] using hj)
  have hsub : ∀ g, R g → RC R m [.vals (pre ++ [.nilS]), .flat cs] [1] g := fun g h => .inl h
  refine ⟨RC R m [.vals (pre ++ [.nilS]), .flat cs] [1], m, Turn.far (o := fun j => if j = 0 then some 0 else none) ⟨hsub, fun g h => ?_, fun j hj => ?_, fun j hj => ?_, fun j j' k0 hj hj' h h' => ?_, by simp, fun j hj => rfl, fun j hj => ?_⟩ hS, hsn.closed rfl⟩
  · rcases h with h | ⟨j, hj, h3, h4⟩
    · exact .inl h
    · have : j = 1 := by simpa using hj
      subst this
      exact .inr ⟨1, h3, h4, fun j _ he => by split at he <;> simp at he⟩
  · simp at hj; exact hS.out j (by simp; omega)
  · have := hget_lt hj
    simp at this
    have : j = 0 ∨ j = 1 ∨ j = 2 := by omega
    rcases this with rfl | rfl | rfl
    · refine .inr ⟨0, rfl, by simp [hget], rfl, by simp [hget, ABlk.len], fun xs hb => ?_⟩
      refine br_swap (u := .nilS) hpre hsub (fun y hy => ?_) hb
      cases hy with
      | nilS => exact .sl 2 0 0 sz none 0 (Nat.le_refl _) (Nat.zero_le _) (Nat.zero_le _) (by simp) (fun hc => by omega) (.inr (by simp))
    · simp [hget] at hj
    · exact .inl ⟨rfl, h2, by simp [hget, ABlk.len]⟩
  · split at h <;> split at h' <;> simp_all
  · simp at hj
    have : j = 0 ∨ j = 1 := by omega
    rcases this with rfl | rfl
    · exact .inr rfl
    · exact .inl rfl
/-- nil, as a row of none -/
theorem ResLe.none {sz : Nat} (hpre : closedL pre = true) {v v2 : AVal} (hv : ∀ R w m x, Sim R w m [.vals (pre ++ [.nilS])] → VR R w m [.vals (pre ++ [.nilS])] v x → VR R w m [.vals (pre ++ [.sl 1 0 0 sz]), .flat []] v2 x) : ResLe v [.vals (pre ++ [.nilS])] v2 [.vals (pre ++ [.sl 1 0 0 sz]), .flat []] := by
  intro R w m x hS hx
  have h1 : m 1 = Option.none := hS.out 1 (by simp)
  refine ⟨R, m, Turn.far (o := fun j => if j = 0 then some 0 else Option.none) ⟨fun _ h => h, fun g h => .inl h, fun j hj => ?_, fun j hj => ?_, fun j j' k0 hj hj' h h' => ?_, by simp, fun j hj => rfl, fun j hj => ?_⟩ hS, hv R w m x hS hx⟩
  · simp at hj; exact hS.out j (by simp; omega)
  · have := hget_lt hj
    simp at this
    have : j = 0 ∨ j = 1 := by omega
    rcases this with rfl | rfl
    · refine .inr ⟨0, rfl, by simp [hget], rfl, by simp [hget, ABlk.len], fun xs hb => ?_⟩
      refine br_swap (u := .nilS) hpre (fun _ h => h) (fun y hy => ?_) hb
      cases hy with
      | nilS => exact .sl 1 0 0 sz _ 0 (Nat.le_refl _) (Nat.zero_le _) (Nat.zero_le _) (by simp) (fun hc => by omega) (.inr (by simp))
    · exact .inl ⟨rfl, h1, by simp [hget, ABlk.len]⟩
  · split at h <;> split at h' <;> simp_all
  · simp at hj
    subst hj
    exact .inr rfl
end
/-- a row of the call's own is only read from now on -/
theorem VE.nil_ro {H : Hp} {sz : Nat} {f : Nat → List AVal} : VE H .nilS (.ro 0 sz f) := by
  intro R w m x _ hv
  cases hv with
  | nilS => exact .ro 0 sz f Option.none 0 0 0 (fun _ _ => .bool true) (Nat.le_refl _) (Nat.zero_le _) (Nat.zero_le _) (fun h => by omega) (fun i j v h _ => by omega) (fun i j v h _ => by omega) (fun i h => by omega)
/-- what a row says that is only read -/
theorem ResLe.flat {v : AVal} {A cs cs' : List AVal} (hlen : cs.length = cs'.length) (h : ∀ R w xs, VL R w Mp.nil [] cs xs → VL R w Mp.nil [] cs' xs) : ResLe v [.vals A, .dead, .flat cs] v [.vals A, .dead, .flat cs'] := by
  intro R w m x hS hx
  have hh : ∀ k, k < ([.vals A, .dead, .flat cs] : Hp).length → hget k [.vals A, .dead, .flat cs'] = .dead ∨ (hget k [.vals A, .dead, .flat cs] ≠ .dead ∧ (hget k [.vals A, .dead, .flat cs']).len = (hget k [.vals A, .dead, .flat cs]).len) := fun k hk => by
    simp at hk
    have : k = 0 ∨ k = 1 ∨ k = 2 := by omega
    rcases this with rfl | rfl | rfl
    · exact .inr ⟨by simp [hget], rfl⟩
    · exact .inl rfl
    · exact .inr ⟨by simp [hget], by simp [hget, ABlk.len, hlen]⟩
  refine ⟨R, m, Turn.far (o := some) ⟨fun _ h => h, fun g h => .inl h, fun j hj => hS.out j (by simpa using hj), fun j hj => ?_, fun j j' k0 _ _ h h' => ?_, by simp, fun _ _ => rfl, fun _ _ => .inr rfl⟩ hS, hx.mono (fun _ h => h) (fun _ _ => rfl) (fun _ _ h => h) (fun _ _ h => h) (by simp) hh⟩
  · have := hget_lt hj
    simp at this
    have : j = 0 ∨ j = 1 ∨ j = 2 := by omega
    rcases this with rfl | rfl | rfl
    · refine .inr ⟨0, rfl, by simp [hget], rfl, rfl, fun xs hb => ?_⟩
      obtain ⟨ys, r, rfl, hv⟩ := hb
      exact ⟨ys, r, rfl, hv.mono (fun _ h => h) (fun _ _ => rfl) (fun _ _ h => h) (fun _ _ h => h) (by simp) hh⟩
    · simp [hget] at hj
    · refine .inr ⟨2, rfl, by simp [hget], rfl, by simp [hget, ABlk.len, hlen], fun xs hb => ?_⟩
      obtain ⟨ys, r, rfl, hv⟩ := hb
      exact ⟨ys, r, rfl, h _ _ _ hv⟩
  · cases h; cases h'; rfl
theorem ResLe.flat1 {v : AVal} {cs cs' : List AVal} (hlen : cs.length = cs'.length) (h : ∀ R w xs, VL R w Mp.nil [] cs xs → VL R w Mp.nil [] cs' xs) : ResLe v [.flat cs] v [.flat cs'] := by
  intro R w m x hS hx
  have hh : ∀ k, k < ([.flat cs] : Hp).length → hget k [.flat cs'] = .dead ∨ (hget k [.flat cs] ≠ .dead ∧ (hget k [.flat cs']).len = (hget k [.flat cs]).len) := fun k hk => by
    simp at hk
    subst hk
    exact .inr ⟨by simp [hget], by simp [hget, ABlk.len, hlen]⟩
  refine ⟨R, m, Turn.far (o := some) ⟨fun _ h => h, fun g h => .inl h, fun j hj => hS.out j (by simpa using hj), fun j hj => ?_, fun j j' k0 _ _ h h' => ?_, by simp, fun _ _ => rfl, fun _ _ => .inr rfl⟩ hS, hx.mono (fun _ h => h) (fun _ _ => rfl) (fun _ _ h => h) (fun _ _ h => h) (by simp) hh⟩
  · have := hget_lt hj
    simp at this
    subst this
    refine .inr ⟨0, rfl, by simp [hget], rfl, by simp [hget, ABlk.len, hlen], fun xs hb => ?_⟩
    obtain ⟨ys, r, rfl, hv⟩ := hb
    exact ⟨ys, r, rfl, h _ _ _ hv⟩
  · cases h; cases h'; rfl
/-- a block of nothing more -/
theorem ResLe.pad {v : AVal} (hv : closed v = true) : ResLe v [] v [.dead] := by
  intro R w m x hS hx
  refine ⟨R, m, Turn.far (o := some) ⟨fun _ h => h, fun g h => .inl h, fun j hj => hS.out j (by simp), fun j hj => ?_, fun j j' k0 _ _ h h' => ?_, by simp, fun _ _ => rfl, fun j hj => by simp at hj⟩ hS, hx.closed hv⟩
  · have := hget_lt hj
    simp at this
    subst this
    simp [hget] at hj
  · cases h; cases h'; rfl
/-- a row in a value is only read from now on -/
theorem ResLe.frz {pre cs : List AVal} {k sz : Nat} (hsz : 1 ≤ sz) (hpre : closedL pre = true) : ResLe (.agg (pre ++ [.sl 0 0 k sz])) [.flat cs] (.agg (pre ++ [.ro k sz (rowsOf sz ((cs.drop 0).take (k * sz)))])) [.dead] := by
  intro R w m x hS hx
  have hb : Nat.ble 1 sz = true := Nat.ble_eq_true_of_le hsz
  have hsub : ∀ g, R g → RC R m [.flat cs] [0] g := fun g h => .inl h
  cases hx with
  | agg _ xs h1 h2 h3 =>
    have hV := vl_swap (R2 := RC R m [.flat cs] [0]) (m2 := m) (H2 := [.dead]) (u := .sl 0 0 k sz) (v := .ro k sz (rowsOf sz ((cs.drop 0).take (k * sz)))) hpre hsub (fun y hy => ?_) ⟨h1, h2⟩
    · refine ⟨RC R m [.flat cs] [0], m, Turn.far (o := fun _ => Option.none) ⟨hsub, fun g h => ?_, fun j hj => hS.out j (by simpa using hj), fun j hj => ?_, fun j j' k0 _ _ h h' => (by cases h), by simp, fun _ _ => rfl, fun j hj => ?_⟩ hS, .agg _ xs hV.1 hV.2 h3⟩
      · rcases h with h | ⟨j, hj, h3, h4⟩
        · exact .inl h
        · have : j = 0 := by simpa using hj
          subst this
          exact .inr ⟨0, h3, h4, fun j _ he => by cases he⟩
      · have := hget_lt hj
        simp at this
        subst this
        simp [hget] at hj
      · simp at hj; subst hj; exact .inl rfl
    · exact (snapC_sound hS (imps := []) (ks := [0]) hy (v' := .ro k sz (rowsOf sz ((cs.drop 0).take (k * sz)))) (by simp [snapC, elemN, hget, hb]) (fun j hj => by simpa [snapsC, elemN] using hj)).closed rfl
end Go.Proofs.Ytnbbaemijogeoaa.Ae
set_option linter.unusedSimpArgs false
set_option linter.unusedVariables false
namespace Go.Proofs.Ytnbbaemijogeoaa.Ae
open Go Go.RowKit
section
variable {R R0 : Nat → Prop} {w w0 : World} {m m0 : Mp} {H H0 : Hp} {env env' : Env} {a : Act}

theorem EnvR.sub (hE : EnvR R w m H env a) (h : ∀ t, eget t env' = eget t env ∨ eget t env' = .undef) : EnvR R w m H env' a := fun t => by
  rcases h t with e | e
  · rw [e]; exact hE t
  · rw [e]; exact .undef _
/-- a block is only read from now on -/
theorem frz_far (hS : Sim R w m H) {k : Nat} {cs : List AVal} (hk : hget k H = .vals cs) (hc : closedL cs = true) : Far R w m H (RC R m H [k]) w m (hset k .dead H) := by
  have K := hS.kill k
  have hl : hget k H ≠ .dead := by rw [hk]; simp
  have sub : ∀ g, R g → RC R m H [k] g := fun g h => .inl h
  have live : ∀ j, hget j (hset k .dead H) ≠ .dead → j ≠ k ∧ hget j H ≠ .dead ∧ hget j (hset k .dead H) = hget j H := fun j h => by
    have hlt := hget_lt h
    rw [hset_length] at hlt
    by_cases e : j = k
    · subst e; rw [hget_hset_same hlt] at h; exact absurd rfl h
    · rw [hget_hset_ne e] at h ⊢; exact ⟨e, h, rfl⟩
  refine ⟨sub, fun g hg => ?_, ⟨fun g hg => ?_, K.sim.out, fun j g hj hg => ?_, K.sim.ph, K.sim.inj⟩, rfl, rfl, rfl, Nat.le_refl _, fun g _ => rfl, fun g _ _ => rfl, fun _ _ h => h, by rw [hset_length]; exact Nat.le_refl _, K.hext, fun j g hj hg => .inr ⟨j, (live j hj).2.1, hg⟩, fun _ _ => rfl⟩
  · rcases hg with h | ⟨j, h1, h2, h3⟩
    · exact .inl h
    · exact .inr (.inr ⟨j, h2, h3⟩)
  · rcases hg with h | ⟨j, h1, h2, h3⟩
    · exact hS.rlt g h
    · obtain ⟨_, xs, e, fr, h4, _⟩ := hS.own j g h2 h3
      exact (Array.getElem?_eq_some_iff.1 h4).1
  · obtain ⟨h1, h2, h3⟩ := live j hj
    obtain ⟨a1, xs, e, fr, a2, a3, a4, a5⟩ := K.sim.own j g hj hg
    refine ⟨fun h => ?_, xs, e, fr, a2, a3, a4, a5.mono sub (fun _ _ => rfl) (fun _ _ h => h) (fun _ _ h => h) (Nat.le_refl _) (hext_self _)⟩
    rcases h with h | ⟨q, q1, q2, q3⟩
    · exact a1 h
    · have : q = k := by simpa using q1
      subst this
      exact h1 (hS.inj j q g h2 q2 hg q3)
theorem frz_ptr (hS : Sim R w m H) {k : Nat} {cs : List AVal} (hk : hget k H = .vals cs) (hc : closedL cs = true) {x : Value} (hx : VR R w m H (.ptr k 0) x) {m' : Mp} {H' : Hp} : VR (RC R m H [k]) w m' H' (.rop cs) x := by
  cases hx with
  | ptr _ _ g hg =>
    have hl : hget k H ≠ .dead := by rw [hk]; simp
    obtain ⟨_, xs, e, fr, h1, h2, h3, h4⟩ := hS.own k g hl hg
    rw [hk] at h4
    obtain ⟨ys, r, rfl, hv⟩ := h4
    have hcell : ∀ j v, cs[j]? = some v → ∃ x, ys[j]? = some x ∧ w.cell? ⟨g, 0 + j, none⟩ = some x ∧ x.oneCell' = true := fun j v hj => by
      have hj' := (List.getElem?_eq_some_iff.1 hj).1
      rw [hv.1] at hj'
      refine ⟨ys[j], List.getElem?_eq_getElem hj', ?_, h3 _ (List.mem_append_left _ (List.getElem_mem hj'))⟩
      rw [cell_of h1, Nat.zero_add, List.getElem?_append_left hj', List.getElem?_eq_getElem hj']
    refine .rop cs g 0 (fun j => (ys[j]?).getD undef) (.inr ⟨k, by simp, hl, hg⟩) (fun j v hj => ?_) (fun j v hj => ?_)
    · obtain ⟨x, e1, e2, e3⟩ := hcell j v hj
      simp only [e1, Option.getD_some]
      exact ⟨e2, e3⟩
    · obtain ⟨x, e1, e2, e3⟩ := hcell j v hj
      simp only [e1, Option.getD_some]
      exact ((hv.2 j v x hj e1).mono (fun _ h => .inl h) (fun _ _ => rfl) (fun _ _ h => h) (fun _ _ h => h) (Nat.le_refl _) (hext_self H)).closed (closedL_get hc hj)
theorem Inv.frz {nt : Nat} (h : Inv nt R0 w0 m0 H0 a w ⟨env, H⟩) {k : Nat} {cs : List AVal} (hk : hget k H = .vals cs) (hc : closedL cs = true)
    (he : ∀ t, eget t env' = eget t env ∨ eget t env' = .undef ∨ (eget t env = .ptr k 0 ∧ eget t env' = .rop cs)) : Inv nt R0 w0 m0 H0 a w ⟨env', hset k .dead H⟩ := by
  obtain ⟨⟨R, m, hF, hE⟩, hsz, hnd⟩ := h
  have F := frz_far hF.sim hk hc
  refine ⟨⟨_, m, hF.trans F, fun t => ?_⟩, hsz, hnd⟩
  show VR _ w m _ (eget t env') _
  rcases he t with e | e | ⟨e1, e2⟩
  · rw [e]; exact (hE t).far F hF.sim
  · rw [e]; exact .undef _
  · rw [e2]
    have := hE t
    simp only at this
    rw [e1] at this
    exact frz_ptr hF.sim hk hc this
/-- an operation on plain data, whatever order it comes in -/
theorem gstep {P : Program} {o : Oper} {v : AVal} {e : Eff} (hF : Far R0 w0 m0 H0 R w m H) (hE : EnvR R w m H env a) (hop : opF P o.op env H = some ⟨none, v, e⟩) (hd : dstOk a.tmps.size o.dst = true) :
    gives P o a w fun x w' => ∃ R' m', Far R0 w0 m0 H0 R' w' m' (e.app H) ∧ EnvR R' w' m' (e.app H) (putEnv o.dst v env) (a.put o.dst x) := by
  have h := opDoes_of (P := P) hop (fun q h => by cases h) R w m a hF.sim hE
  have mono : ∀ {S S' : Value → World → Prop} {r : Result Next}, givesUpon P S r → (∀ x w', S x w' → S' x w') → givesUpon P S' r := fun {S S' r} h hs => by
    cases r with
    | ok n w' =>
      cases n <;> simp only [givesUpon] at h ⊢
      case value u => exact hs _ _ h
      case skip => exact hs _ _ h
      case enter f args => exact Calls.mono h fun e w'' ⟨v, he, hr⟩ => ⟨v, he, hs _ _ hr⟩
    | halt x w' => simp only [givesUpon] at h
  refine mono h fun x w' ⟨R', m', F, V⟩ => ⟨R', m', hF.trans F, (hE.far F hF.sim).put hd V⟩

/-! ### in any frame -/
def simpleOp : Op → Bool
  | .call ⟨.builtin _, _, _⟩ => true
  | .call _ => false
  | .defer _ => false
  | .go _ => false
  | _ => true
def simpleL : List Oper → Bool
  | [] => true
  | o :: r => simpleOp o.op && o.guard.isNone && simpleL r
theorem opP_simple {X : Cx} {o : Oper} {K : AVal → Eff → Prop} (hs : simpleOp o.op = true) (h : opP X o.op env H K) : opK (opF X.P o.op env H) K := by
  unfold opP at h
  split at h
  · rename_i ho; rw [ho] at hs; cases hs
  · exact h
/-- operations on plain data, none of them a call of a function, in any frame -/
theorem opsP_in {X : Cx} {F : Fence} {n : Nat} (hF : ∀ f, F.fn f) {ops : Array Oper} : ∀ {l : List Oper} {s : St} {K : St → Prop}, simpleL l = true → opsP X ops.toList l s K →
    ∃ s', K s' ∧ ∀ (R : Nat → Prop) (w : World) (m : Mp) (a : Act), Sim R w m s.heap → EnvR R w m s.heap s.env a → a.tmps.size = X.nt → ∀ Q : Exit → Act → World → Prop,
      (∀ a' w' m', Far R w m s.heap R w' m' s'.heap → EnvR R w' m' s'.heap s'.env a' → a'.tmps.size = X.nt → a'.defers = a.defers → Q .normal a' w') → wpListIn F n X.P ops Q l a w
  | [], s, K, _, h => ⟨s, h, fun R w m a hS hE hsz Q hq => hq a w m (.refl hS) hE hsz rfl⟩
  | o :: r, s, K, hs, h => by
    simp only [simpleL, Bool.and_eq_true, Option.isNone_iff_eq_none] at hs
    obtain ⟨⟨hs1, hg⟩, hs2⟩ := hs
    unfold opsP operP at h
    cases hd : dstOk X.nt o.dst with
    | false => rw [hd] at h; exact h.elim
    | true =>
      rw [hd, hg] at h
      simp only [cond_true] at h
      unfold doP at h
      have h1 := opP_simple hs1 h
      unfold opK at h1
      split at h1
      · rename_i p v e hop
        obtain ⟨hp, hk⟩ := andP_iff h1
        rw [forceV_iff, effK_app, putK_iff] at hk
        obtain ⟨s', hK, ih⟩ := opsP_in hF hs2 hk
        refine ⟨s', hK, fun R w m a hS hE hsz Q hq => ?_⟩
        obtain ⟨x, w', m', hr, hst, hv⟩ := opF_sound (P := X.P) hS hE hop hp
        refine wpListIn_plain hg fun K' hK' => ⟨fun f _ => hF f, ?_⟩
        have hnd : ∀ c, o.op ≠ .defer c := fun c e => by rw [e] at hs1; cases hs1
        rw [Oper.semAt_plain F _ _ hnd]
        have hE' := (hE.far hst.far hS).put (d := o.dst) (x := x) (by rw [hsz]; exact hd) hv
        have nx : wpListIn F n X.P ops Q r (a.put o.dst x) w' := ih R w' m' (a.put o.dst x) hst.sim hE' (by rw [Act.put_size']; exact hsz) Q fun a2 w2 m2 F2 E2 z2 d2 => hq a2 w2 m2 (hst.far.trans F2) E2 z2 (by rw [d2, Act.put_defers'])
        rcases hr with hr | ⟨hr, rfl⟩
        · rw [hr, Oper.uponIn_value]; exact hK' _ _ nx
        · rw [hr, Oper.uponIn_skip]; exact hK' _ _ nx
      · exact h1.elim

/-! ### a world that has grown elsewhere -/
theorem Far.grown (F : Far R0 w0 m0 H0 R w m H) {W : World} {row : Option Nat} (hg : w.grownBy W row) (hB : ∀ r, row = some r → w0.heap.size ≤ r ∧ ¬ R r ∧ ∃ o : Obj, w.heap[r]? = some o ∧ o.isCells = false) :
    Far R0 w0 m0 H0 R W m H ∧ ∀ {v : AVal} {x : Value}, VR R w m H v x → VR R W m H v x := by
  have same : ∀ g, g < w.heap.size → some g ≠ row → W.heap[g]? = w.heap[g]? := fun g h1 h2 => hg.block g h1 h2
  have cells : ∀ g (o : Obj), w.heap[g]? = some o → o.isCells = true → W.heap[g]? = w.heap[g]? := fun g o h1 h2 => by
    refine same g (Array.getElem?_eq_some_iff.1 h1).1 fun e => ?_
    obtain ⟨_, _, o', h3, h4⟩ := hB g e.symm
    rw [h1] at h3; cases h3; rw [h2] at h4; cases h4
  have rw' : ∀ g, R g → W.heap[g]? = w.heap[g]? := fun g h => same g (F.sim.rlt g h) fun e => (hB g e.symm).2.1 h
  have rows : ∀ g n, rowSize w g = some n → rowSize W g = some n := fun g n h => by
    have hl := rowSize_lt h
    obtain ⟨o, ho⟩ : ∃ o, w.heap[g]? = some o := ⟨_, Array.getElem?_eq_getElem hl⟩
    have hc : o.isCells = true := by
      unfold rowSize World.shape? at h
      rw [ho] at h
      cases o <;> simp_all [Obj.isCells]
    unfold rowSize World.shape? at h ⊢
    rw [cells g o ho hc]; exact h
  have vr : ∀ {v : AVal} {x : Value}, VR R w m H v x → VR R W m H v x := fun h => h.mono (fun _ h => h) rw' rows (fun _ _ h => h) (Nat.le_refl _) (hext_self H)
  have base : ∀ g, g < w0.heap.size → W.heap[g]? = w.heap[g]? := fun g h => same g (Nat.lt_of_lt_of_le h F.size) fun e => by
    have := (hB g e.symm).1; omega
  refine ⟨⟨F.sub, F.newR, ⟨fun g h => Nat.lt_of_lt_of_le (F.sim.rlt g h) hg.size, F.sim.out, fun k g hk hm => ?_, F.sim.ph, F.sim.inj⟩, hg.os.trans F.os, hg.tape.trans F.tape, hg.output.trans F.output, Nat.le_trans F.size hg.size, fun g h => ?_, fun g h hn => (base g h).trans (F.frame g h hn), F.agree, F.hlen, F.hext, F.news, F.same⟩, vr⟩
  · obtain ⟨a1, xs, e, fr, a2, a3, a4, a5⟩ := F.sim.own k g hk hm
    exact ⟨a1, xs, e, fr, (cells g _ a2 rfl).trans a2, a3, a4, a5.mono (fun _ h => h) rw' rows (fun _ _ h => h) (Nat.le_refl _) (hext_self H)⟩
  · rw [← F.shape g h]
    unfold rowSize World.shape?
    rw [base g h]
theorem Far.others {R' : Nat → Prop} {w' : World} {m' : Mp} {H' : Hp} (F : Far R w m H R' w' m' H') (hS : Sim R w m H) : KeepsOthers w w' :=
  ⟨F.size, fun k o hk ho => by
    rw [F.frame k (Array.getElem?_eq_some_iff.1 hk).1 fun j hj hm => ?_]
    · exact hk
    · obtain ⟨_, xs, e, fr, h2, _⟩ := hS.own j k hj hm
      rw [hk] at h2; cases h2; cases ho⟩
/-- the state with what is needed alone -/
theorem norm_far (hF : Far R0 w0 m0 H0 R w m H) (hE : EnvR R w m H env a) (hS0 : Sim R0 w0 m0 H0) (live : List Nat) : ∃ m', Far R0 w0 m0 H0 R w m' (flatC H0.length live (subHeap (fun k => idxO k (seek H H0.length (egets env live))) H (seek H H0.length (egets env live)))) ∧
    EnvR R w m' (flatC H0.length live (subHeap (fun k => idxO k (seek H H0.length (egets env live))) H (seek H H0.length (egets env live)))) (normEnv (seek H H0.length (egets env live)) live ⟨env, H⟩) a := by
  obtain ⟨hn, hp⟩ := seek_ok H H0.length (egets env live)
  generalize seek H H0.length (egets env live) = S at *
  have hF2 := hF.restrict hS0 hn hp
  have hE2 : EnvR R w (subM S m) (subHeap (fun k => idxO k S) H S) (normEnv S live ⟨env, H⟩) a := fun t => by
    show VR R w _ _ (eget t (zipEnv live (renL (fun k => idxO k S) (egets env live)))) _
    rcases zipEnv_get (r := fun k => idxO k S) (env := env) (t := t) live with h | h
    · rw [h]; exact .undef _
    · rw [h]; exact (hE t).ren (sub_num S m H)
  unfold flatC
  cases elemN 999999 live with
  | false => exact ⟨subM S m, hF2, hE2⟩
  | true =>
    have hs := (flat_stp hF2.sim H0.length).far
    exact ⟨subM S m, hF2.trans hs, hE2.far hs hF2.sim⟩
theorem VE.tup {us bs : List AVal} (h : ArgsLe H us bs) : VE H (.tup us) (.tup bs) := by
  intro R w m x hS hv
  cases hv with
  | tup _ xs h1 h2 =>
    have := h R w m xs hS ⟨h1, h2⟩
    exact .tup bs xs this.1 this.2
/-- code, and what follows it -/
theorem seq_step {X : Cx} (hT : TSound X.P X.T) (hD : DrawSound X) {n : Nat} {x y : Code} {G : St → Prop} {K : Post} {s : St} {Q : Exit → Act → World → Prop} (h : awp X x s (seqK G K)) (hl : H0.length = X.n0) (hS0 : Sim R0 w0 m0 H0) (hI : Inv X.nt R0 w0 m0 H0 a w s)
    (hn : ∀ s' a' w', G s' → Inv X.nt R0 w0 m0 H0 a' w' s' → y.wpIn Fence.wide n X.P Q a' w') (he : ∀ e s' a' w' e1, e ≠ .normal → K e s' → ExR e e1 → Inv X.nt R0 w0 m0 H0 a' w' s' → Q e1 a' w') : (Code.seq x y).wpIn Fence.wide n X.P Q a w := by
  obtain ⟨e, s', hk, ok⟩ := awp_sound hT hD x s _ h
  refine wpIn_seq (wpIn_wide.2 (wp_mono (ok R0 w0 m0 H0 hl hS0 a w hI) fun e1 a1 w1 ⟨he1, hI1⟩ => ?_))
  cases e with
  | normal => cases he1; exact hn s' a1 w1 hk hI1
  | exit i => cases he1; exact he (.exit i) s' a1 w1 (.exit i) (by simp) hk rfl hI1
  | ret => cases he1; exact he .ret s' a1 w1 .ret (by simp) hk rfl hI1
theorem seq_ok {X : Cx} {n : Nat} {x y : Code} {s s' : St} {Q : Exit → Act → World → Prop} (ok : CodeOk X x s .normal s') (hl : H0.length = X.n0) (hS0 : Sim R0 w0 m0 H0) (hI : Inv X.nt R0 w0 m0 H0 a w s)
    (hn : ∀ a' w', Inv X.nt R0 w0 m0 H0 a' w' s' → y.wpIn Fence.wide n X.P Q a' w') : (Code.seq x y).wpIn Fence.wide n X.P Q a w :=
  wpIn_seq (wpIn_wide.2 (wp_mono (ok R0 w0 m0 H0 hl hS0 a w hI) fun e1 a1 w1 ⟨he1, hI1⟩ => by cases he1; exact hn a1 w1 hI1))
end
end Go.Proofs.Ytnbbaemijogeoaa.Ae
set_option linter.unusedSimpArgs false
set_option linter.unusedVariables false
set_option maxRecDepth 100000
namespace Go.Proofs.Ytnbbaemijogeoaa.Ae
open Go
def ann_advert_Decode_1 : Nat → List Nat × Nat × List (List Nat)
  | _ => ([], 0, [])
def Tdc1 : Specs := ext Tad 56 (fnP Try.prog Tad ann_advert_Decode_1 Try.f56)
theorem Tdc1_sound : TSound Try.prog Tdc1 := ext_sound Tad_sound (fn_row Tad_sound mixed Try.func56 (by decide +kernel))
def ann_advert_Decode_2 : Nat → List Nat × Nat × List (List Nat)
  | 2000001 => ([], 9, [[], [0], [0, 1], [0, 1, 2], [0, 1, 2, 3], [0, 1, 2, 3, 4], [0, 1, 2, 3, 4, 5], [0, 1, 2, 3, 4, 5, 6]])
  | _ => ([], 0, [])
def Tdc2 : Specs := ext Tdc1 57 (fnP Try.prog Tdc1 ann_advert_Decode_2 Try.f57)
theorem Tdc2_sound : TSound Try.prog Tdc2 := ext_sound Tdc1_sound (fn_row Tdc1_sound mixed Try.func57 (by decide +kernel))
def ann_advert_Decode_3 : Nat → List Nat × Nat × List (List Nat)
  | _ => ([], 0, [])
def Tdc3 : Specs := ext Tdc2 58 (fnP Try.prog Tdc2 ann_advert_Decode_3 Try.f58)
theorem Tdc3_sound : TSound Try.prog Tdc3 := ext_sound Tdc2_sound (fn_row Tdc2_sound mixed Try.func58 (by decide +kernel))
def ann_advert_Decode_4 : Nat → List Nat × Nat × List (List Nat)
  | _ => ([], 0, [])
def Tdc4 : Specs := ext Tdc3 60 (fnP Try.prog Tdc3 ann_advert_Decode_4 Try.f60)
theorem Tdc4_sound : TSound Try.prog Tdc4 := ext_sound Tdc3_sound (fn_row Tdc3_sound mixed Try.func60 (by decide +kernel))
def ann_advert_Decode_5 : Nat → List Nat × Nat × List (List Nat)
  | _ => ([], 0, [])
def Tdc5 : Specs := ext Tdc4 61 (fnP Try.prog Tdc4 ann_advert_Decode_5 Try.f61)
theorem Tdc5_sound : TSound Try.prog Tdc5 := ext_sound Tdc4_sound (fn_row Tdc4_sound mixed Try.func61 (by decide +kernel))
def ann_advert_Decode_6 : Nat → List Nat × Nat × List (List Nat)
  | 1 => ([], 18, [[], [0], [0, 1], [0, 1, 2], [0, 1, 2, 3], [0, 1, 2, 3, 4], [0, 1, 2, 3, 4, 5], [0, 1, 2, 3, 4, 5, 6], [0, 1, 2, 3, 4, 5, 6, 7], [0, 1, 2, 3, 4, 5, 6, 7, 8], [0, 1, 2, 3, 4, 5, 6, 7, 8, 9], [0, 1, 2, 3, 4, 5, 6, 7, 8], [0, 1, 2, 3, 4, 5, 6, 7, 8, 11], [0, 1, 2, 3, 4, 5, 6, 7, 8], [0, 1, 2, 3, 4, 5, 6, 7, 8, 11, 12, 13], [0, 1, 2, 3, 4, 5, 6, 7, 8, 11, 12, 13, 14], [0, 1, 2, 3, 4, 5, 6, 7, 8, 9, 10, 11, 12, 13, 14, 15], [0, 1, 2, 3, 4, 5, 6, 7, 8, 9, 10, 11, 12, 13, 14, 15, 16]])
  | _ => ([], 0, [])
def Tdc6 : Specs := ext Tdc5 62 (fnP Try.prog Tdc5 ann_advert_Decode_6 Try.f62)
theorem Tdc6_sound : TSound Try.prog Tdc6 := ext_sound Tdc5_sound (fn_row Tdc5_sound mixed Try.func62 (by decide +kernel))
def ann_advert_Decode_7 : Nat → List Nat × Nat × List (List Nat)
  | 1 => ([], 14, [[], [0], [], [2], [], [4], [], [6], [0, 1, 2, 3, 4, 5, 6, 7], [], [9], [0, 1, 2, 3, 4, 5, 6, 7, 8, 9, 10], [0, 1, 2, 3, 4, 5, 6, 7, 8, 9, 10, 11], [0, 1, 2, 3, 4, 5, 6, 7, 8, 9, 10, 11, 12]])
  | _ => ([], 0, [])
def Tdc7 : Specs := ext Tdc6 63 (fnP Try.prog Tdc6 ann_advert_Decode_7 Try.f63)
theorem Tdc7_sound : TSound Try.prog Tdc7 := ext_sound Tdc6_sound (fn_row Tdc6_sound mixed Try.func63 (by decide +kernel))
def ann_advert_Decode_8 : Nat → List Nat × Nat × List (List Nat)
  | 1 => ([], 17, [[], [0], [0, 1], [0, 1, 2], [0, 1, 2, 3], [0, 1, 2, 3, 4], [0, 1, 2, 3, 4, 5], [0, 1, 2, 3, 4, 5, 6], [0, 1, 2, 3, 4, 5, 6, 7], [0, 1, 2, 3, 4, 5, 6, 7, 8], [0, 1, 2, 3, 4, 5, 6, 7, 8, 9], [0, 1, 2, 3, 4, 5, 6, 7, 8, 9, 10], [0, 1, 2, 3, 4, 5, 6, 7, 8, 9], [0, 1, 2, 3, 4, 5, 6, 7, 8, 9, 10, 11, 12], [0, 1, 2, 3, 4, 5, 6, 7, 8, 9, 10, 11, 12, 13], [0, 1, 2, 3, 4, 5, 6, 7, 8, 9, 10, 11, 12, 13, 14], [0, 1, 2, 3, 4, 5, 6, 7, 8, 9, 10, 11, 12, 13, 14, 15]])
  | _ => ([], 0, [])
def Tdc8 : Specs := ext Tdc7 66 (fnP Try.prog Tdc7 ann_advert_Decode_8 Try.f66)
theorem Tdc8_sound : TSound Try.prog Tdc8 := ext_sound Tdc7_sound (fn_row Tdc7_sound mixed Try.func66 (by decide +kernel))
def ann_advert_addrs : Nat → List Nat × Nat × List (List Nat)
  | _ => ([], 0, [])
def Tdc9 : Specs := ext Tdc8 67 (fnP Try.prog Tdc8 ann_advert_addrs Try.f67)
theorem Tdc9_sound : TSound Try.prog Tdc9 := ext_sound Tdc8_sound (fn_row Tdc8_sound mixed Try.func67 (by decide +kernel))
abbrev Tdc : Specs := Tdc9
theorem Tdc_sound : TSound Try.prog Tdc := Tdc9_sound
def ann_advert_Decode : Nat → List Nat × Nat × List (List Nat)
  | 1 => ([], 8, [[], [0], [], [2], [2, 3], [], [], [0, 1, 5, 6]])
  | 4 => ([2, 4, 5, 6, 31, 32, 33], 0, [])
  | 7 => ([], 4, [[3], [], [], [1], [0]])
  | 9 => ([], 12, [[], [0], [], [0, 1, 2], [], [0, 1, 2, 3, 4], [0, 1, 2, 3, 4, 5], [], [0, 1, 2, 3, 4, 5, 7], [0, 1, 2, 3, 4, 5, 6, 7, 8], [0, 1, 2, 3, 4, 5, 6, 7, 8, 9], []])
  | 1000004 => ([], 8, [])
  | _ => ([], 0, [])
noncomputable def dcB : Code := bodyOf Try.f38
noncomputable abbrev dcX : Cx := ⟨Try.prog, Tdc, Try.f38.ntmps, 0, ann_advert_Decode⟩
noncomputable def dc0 : Code := cAt [.l] dcB
noncomputable def dc1 : Code := cAt [.r, .l] dcB
noncomputable def dc2 : Code := cAt [.r, .r, .l] dcB
noncomputable def dc3 : Code := cAt [.r, .r, .r, .l] dcB
noncomputable def dc4 : Code := cAt [.r, .r, .r, .r, .l] dcB
noncomputable def dc5 : Code := cAt [.r, .r, .r, .r, .r, .l, .l] dcB
noncomputable def dcPre : Code := .seq dc3 (.seq dc4 dc5)
noncomputable def dcK (G : St → Prop) (K : AVal → Hp → Prop) : Post
  | .normal, s => normK 0 [2, 9, 57] s G
  | .ret, s => endK Try.prog 0 Try.f38.results.toList K s
  | .exit _, _ => False
def dcP (src dst : List UInt8) (proto ttl : Int) (body : List UInt8) : List AVal := [.str src, .str dst, .int .i64 proto, .int .i64 ttl, .str body]
def dcZ : List AVal := [.int .i64 0, .int .i64 0, .int .i64 0, .nilS]
def dcS1 (src dst : List UInt8) (proto ttl : Int) (body : List UInt8) : St := ⟨[(1, .rop (dcP src dst proto ttl body)), (2, .ptr 0 0), (3, .int .i64 0)], [.vals dcZ]⟩
def dcS2 (src dst : List UInt8) (proto ttl : Int) (body : List UInt8) : St := ⟨[(1, .rop (dcP src dst proto ttl body)), (2, .ptr 0 0), (3, .int .i64 0), (4, .ptr 1 0), (5, .ptr 2 0)], [.vals dcZ, .vals [.str body], .vals [.int .i64 (src.length : Int)]]⟩
def dcS2f (src dst : List UInt8) (proto ttl : Int) (body : List UInt8) : St := ⟨[(1, .rop (dcP src dst proto ttl body)), (2, .ptr 0 0), (3, .int .i64 0), (4, .rop [.str body]), (5, .rop [.int .i64 (src.length : Int)])], [.vals dcZ]⟩
def dcS3 (src dst : List UInt8) (proto ttl : Int) (body : List UInt8) : St := ⟨[(1, .rop (dcP src dst proto ttl body)), (2, .ptr 0 0), (3, .int .i64 0), (4, .rop [.str body]), (5, .rop [.int .i64 (src.length : Int)]), (6, .ptr 1 0)], [.vals dcZ, .vals [.fn 56 [] [.rop [.str body]]]]⟩
def dcS3f (src dst : List UInt8) (proto ttl : Int) (body : List UInt8) : St := ⟨[(1, .rop (dcP src dst proto ttl body)), (2, .ptr 0 0), (3, .int .i64 0), (4, .rop [.str body]), (5, .rop [.int .i64 (src.length : Int)]), (6, .rop [.fn 56 [] [.rop [.str body]]])], [.vals dcZ]⟩
theorem dc0_eq (src dst : List UInt8) (proto ttl : Int) (body : List UInt8) : awp dcX dc0 ⟨argEnv 0 [.agg (dcP src dst proto ttl body)], []⟩ (seqK (fun s => normK 0 [1, 2, 3] s fun s => s = ⟨[(1, .ptr 0 0), (2, .ptr 1 0), (3, .int .i64 0)], [.vals (dcP src dst proto ttl body), .vals dcZ]⟩) (fun _ _ => False)) = ((⟨[(1, .ptr 0 0), (2, .ptr 1 0), (3, .int .i64 0)], [.vals (dcP src dst proto ttl body), .vals dcZ]⟩ : St) = ⟨[(1, .ptr 0 0), (2, .ptr 1 0), (3, .int .i64 0)], [.vals (dcP src dst proto ttl body), .vals dcZ]⟩) := by kernel_rfl
theorem dc2_eq (src dst : List UInt8) (proto ttl : Int) (body : List UInt8) : awp dcX dc2 (dcS2f src dst proto ttl body) (seqK (fun s => normK 0 [1, 2, 3, 4, 5, 6] s fun s => s = dcS3 src dst proto ttl body) (fun _ _ => False)) = (dcS3 src dst proto ttl body = dcS3 src dst proto ttl body) := by kernel_rfl
set_option maxRecDepth 100000 in
theorem dcPre_eq (src dst : List UInt8) (proto ttl : Int) (body : List UInt8) (G : St → Prop) (K : AVal → Hp → Prop) : awp dcX dcPre (dcS3f src dst proto ttl body) (dcK G K) = (
 ((0 : Int) ≤ (0 : Int) ∧ (0 : Int) < (7 : Int)) ∧ brP (!decide (ttl = (255 : Int)) || !decide (proto = (112 : Int))) (K (.tup [.agg [.int .i64 0, .int .i64 0, .int .i64 0, .nilS], .int .i64 65]) []) (I64 (1 : Int) ∧ ((0 : Int) ≤ (1 : Int) ∧ (1 : Int) < (7 : Int)) ∧ brP (decide ((↑(List.length src) : Int) = (4 : Int))) (brP (!decide ((↑(List.length src) : Int) = (↑(List.length dst) : Int))) (K (.tup [.agg [.int .i64 0, .int .i64 0, .int .i64 0, .nilS], .int .i64 60]) []) (brP (decide ((↑(List.length body) : Int) < (8 : Int))) (K (.tup [.agg [.int .i64 0, .int .i64 0, .int .i64 0, .nilS], .int .i64 60]) []) (I64 (2 : Int) ∧ ((0 : Int) ≤ (2 : Int) ∧ (2 : Int) < (7 : Int)) ∧ ((0 : Int) ≤ (0 : Int) ∧ (0 : Int) < (↑(List.length body) : Int)) ∧ ((0 : Int) ≤ (4 : Int) ∧ (4 : Nat) < (64 : Nat)) ∧ brP (!decide ((↑(UInt8.toNat (List.getD body (0 : Nat) (0 : UInt8))) : Int) / (16 : Int) = (3 : Int))) (K (.tup [.agg [.int .i64 0, .int .i64 0, .int .i64 0, .nilS], .int .i64 61]) []) (I64 (3 : Int) ∧ ((0 : Int) ≤ (3 : Int) ∧ (3 : Int) < (7 : Int)) ∧ ((0 : Int) ≤ (0 : Int) ∧ (0 : Int) < (↑(List.length body) : Int)) ∧ brP (!decide (bits BinOp.and IntKind.i64 (↑(UInt8.toNat (List.getD body (0 : Nat) (0 : UInt8))) : Int) (15 : Int) = (1 : Int))) (K (.tup [.agg [.int .i64 0, .int .i64 0, .int .i64 0, .nilS], .int .i64 62]) []) (I64 (4 : Int) ∧ ((0 : Int) ≤ (4 : Int) ∧ (4 : Int) < (7 : Int)) ∧ ((0 : Int) ≤ (3 : Int) ∧ (3 : Int) < (↑(List.length body) : Int)) ∧ brP (decide ((↑(UInt8.toNat (List.getD body (3 : Nat) (0 : UInt8))) : Int) < (1 : Int))) (K (.tup [.agg [.int .i64 0, .int .i64 0, .int .i64 0, .nilS], .int .i64 63]) []) (((0 : Int) ≤ (3 : Int) ∧ (3 : Int) < (↑(List.length body) : Int)) ∧ brP (decide ((8 : Int) < (↑(UInt8.toNat (List.getD body (3 : Nat) (0 : UInt8))) : Int))) (K (.tup [.agg [.int .i64 0, .int .i64 0, .int .i64 0, .nilS], .int .i64 63]) []) (((0 : Int) ≤ (3 : Int) ∧ (3 : Int) < (↑(List.length body) : Int)) ∧ I64
 ((↑(UInt8.toNat (List.getD body (3 : Nat) (0 : UInt8))) : Int) * (↑(List.length src) : Int)) ∧ I64 ((8 : Int) + (↑(UInt8.toNat (List.getD body (3 : Nat) (0 : UInt8))) : Int) * (↑(List.length src) : Int)) ∧ brP (!decide ((↑(List.length body) : Int) = (8 : Int) + (↑(UInt8.toNat (List.getD body (3 : Nat) (0 : UInt8))) : Int) * (↑(List.length src) : Int))) (K (.tup [.agg [.int .i64 0, .int .i64 0, .int .i64 0, .nilS], .int .i64 63]) []) (I64 (5 : Int) ∧ ((0 : Int) ≤ (5 : Int) ∧ (5 : Int) < (7 : Int)) ∧ optP (pseudo src dst proto (↑(List.length body) : Int)) (fun x => List.length body ≤ (140737488355328 : Nat) ∧ ((2 : Nat) ≤ (1000 : Nat) ∧ List.length (List.flatten [List.take (List.length x) (List.drop (0 : Nat) x), List.take (List.length body) (List.drop (0 : Nat) body)]) ≤ (562949953421312 : Nat)) ∧ brP (!sumB (List.flatten [List.take (List.length x) (List.drop (0 : Nat) x), List.take (List.length body) (List.drop (0 : Nat) body)]) == (65535 : Int)) (K (.tup [.agg [.int .i64 0, .int .i64 0, .int .i64 0, .nilS], .int .i64 64]) []) (I64 (6 : Int) ∧ ((0 : Int) ≤ (6 : Int) ∧ (6 : Int) < (7 : Int)) ∧ ((0 : Int) ≤ (1 : Int) ∧ (1 : Int) < (↑(List.length body) : Int)) ∧ brP (decide ((↑(UInt8.toNat (List.getD body (1 : Nat) (0 : UInt8))) : Int) = (0 : Int))) (K (.tup [.agg [.int .i64 0, .int .i64 0, .int .i64 0, .nilS], .int .i64 66]) []) (((0 : Int) ≤ (4 : Int) ∧ (4 : Int) < (↑(List.length body) : Int)) ∧ ((0 : Int) ≤ (4 : Int) ∧ (4 : Nat) < (64 : Nat)) ∧ brP (!decide ((↑(UInt8.toNat (List.getD body (4 : Nat) (0 : UInt8))) : Int) / (16 : Int) = (0 : Int))) (K (.tup [.agg [.int .i64 0, .int .i64 0, .int .i64 0, .nilS], .int .i64 66]) []) (((0 : Int) ≤ (4 : Int) ∧ (4 : Int) < (↑(List.length body) : Int)) ∧ ((0 : Int) ≤ (5 : Int) ∧ (5 : Int) < (↑(List.length body) : Int)) ∧ brP (decide (bits BinOp.or IntKind.i64 (↑(UInt8.toNat (List.getD body (4 : Nat) (0 : UInt8))) : Int) (↑(UInt8.toNat (List.getD body (5 : Nat) (0 : UInt8))) : Int) = (0 : Int))) (K (.tup [.agg
 [.int .i64 0, .int .i64 0, .int .i64 0, .nilS], .int .i64 66]) []) (I64 (7 : Int) ∧ ((0 : Int) ≤ (1 : Int) ∧ (1 : Int) < (↑(List.length body) : Int)) ∧ ((0 : Int) ≤ (2 : Int) ∧ (2 : Int) < (↑(List.length body) : Int)) ∧ ((0 : Int) ≤ (4 : Int) ∧ (4 : Int) < (↑(List.length body) : Int)) ∧ ((0 : Int) ≤ (8 : Int) ∧ (8 : Int) < (64 : Int) ∧ I64 ((↑(UInt8.toNat (List.getD body (4 : Nat) (0 : UInt8))) : Int) * (256 : Int))) ∧ ((0 : Int) ≤ (5 : Int) ∧ (5 : Int) < (↑(List.length body) : Int)) ∧ G (St.mk [(2, .ptr 0 0), (9, .ptr 1 0), ((57 : Nat), .fn 84 [] [.ptr 2 0, .ptr 3 0])] [.vals [.int .i64 0, .int .i64 0, .int .i64 0, .nilS], .vals [.int .i64 (↑(UInt8.toNat (List.getD body (1 : Nat) (0 : UInt8))) : Int), .int .i64 (↑(UInt8.toNat (List.getD body (2 : Nat) (0 : UInt8))) : Int), .int .i64 (bits BinOp.or IntKind.i64 ((↑(UInt8.toNat (List.getD body (4 : Nat) (0 : UInt8))) : Int) * (256 : Int)) (↑(UInt8.toNat (List.getD body (5 : Nat) (0 : UInt8))) : Int)), .nilS], .vals [.str body], .vals [.int .i64 (↑(List.length src) : Int)]])))))) (List.length body ≤ (140737488355328 : Nat) ∧ ((2 : Nat) ≤ (1000 : Nat) ∧ List.length (List.flatten [[], List.take (List.length body) (List.drop (0 : Nat) body)]) ≤ (562949953421312 : Nat)) ∧ brP (!sumB (List.flatten [[], List.take (List.length body) (List.drop (0 : Nat) body)]) == (65535 : Int)) (K (.tup [.agg [.int .i64 0, .int .i64 0, .int .i64 0, .nilS], .int .i64 64]) []) (I64 (6 : Int) ∧ ((0 : Int) ≤ (6 : Int) ∧ (6 : Int) < (7 : Int)) ∧ ((0 : Int) ≤ (1 : Int) ∧ (1 : Int) < (↑(List.length body) : Int)) ∧ brP (decide ((↑(UInt8.toNat (List.getD body (1 : Nat) (0 : UInt8))) : Int) = (0 : Int))) (K (.tup [.agg [.int .i64 0, .int .i64 0, .int .i64 0, .nilS], .int .i64 66]) []) (((0 : Int) ≤ (4 : Int) ∧ (4 : Int) < (↑(List.length body) : Int)) ∧ ((0 : Int) ≤ (4 : Int) ∧ (4 : Nat) < (64 : Nat)) ∧ brP (!decide ((↑(UInt8.toNat (List.getD body (4 : Nat) (0 : UInt8))) : Int) / (16 : Int) = (0 : Int))) (K (.tup [.agg [.int .i64 0, .int .i64 0,
 .int .i64 0, .nilS], .int .i64 66]) []) (((0 : Int) ≤ (4 : Int) ∧ (4 : Int) < (↑(List.length body) : Int)) ∧ ((0 : Int) ≤ (5 : Int) ∧ (5 : Int) < (↑(List.length body) : Int)) ∧ brP (decide (bits BinOp.or IntKind.i64 (↑(UInt8.toNat (List.getD body (4 : Nat) (0 : UInt8))) : Int) (↑(UInt8.toNat (List.getD body (5 : Nat) (0 : UInt8))) : Int) = (0 : Int))) (K (.tup [.agg [.int .i64 0, .int .i64 0, .int .i64 0, .nilS], .int .i64 66]) []) (I64 (7 : Int) ∧ ((0 : Int) ≤ (1 : Int) ∧ (1 : Int) < (↑(List.length body) : Int)) ∧ ((0 : Int) ≤ (2 : Int) ∧ (2 : Int) < (↑(List.length body) : Int)) ∧ ((0 : Int) ≤ (4 : Int) ∧ (4 : Int) < (↑(List.length body) : Int)) ∧ ((0 : Int) ≤ (8 : Int) ∧ (8 : Int) < (64 : Int) ∧ I64 ((↑(UInt8.toNat (List.getD body (4 : Nat) (0 : UInt8))) : Int) * (256 : Int))) ∧ ((0 : Int) ≤ (5 : Int) ∧ (5 : Int) < (↑(List.length body) : Int)) ∧ G (St.mk [(2, .ptr 0 0), (9, .ptr 1 0), ((57 : Nat), .fn 84 [] [.ptr 2 0, .ptr 3 0])] [.vals [.int .i64 0, .int .i64 0, .int .i64 0, .nilS], .vals [.int .i64 (↑(UInt8.toNat (List.getD body (1 : Nat) (0 : UInt8))) : Int), .int .i64 (↑(UInt8.toNat (List.getD body (2 : Nat) (0 : UInt8))) : Int), .int .i64 (bits BinOp.or IntKind.i64 ((↑(UInt8.toNat (List.getD body (4 : Nat) (0 : UInt8))) : Int) * (256 : Int)) (↑(UInt8.toNat (List.getD body (5 : Nat) (0 : UInt8))) : Int)), .nilS], .vals [.str body], .vals [.int .i64 (↑(List.length src) : Int)]])))))))))))))) (brP (!decide ((↑(List.length src) : Int) = (16 : Int))) (K (.tup [.agg [.int .i64 0, .int .i64 0, .int .i64 0, .nilS], .int .i64 60]) []) (brP (!decide ((↑(List.length src) : Int) = (↑(List.length dst) : Int))) (K (.tup [.agg [.int .i64 0, .int .i64 0, .int .i64 0, .nilS], .int .i64 60]) []) (brP (decide ((↑(List.length body) : Int) < (8 : Int))) (K (.tup [.agg [.int .i64 0, .int .i64 0, .int .i64 0, .nilS], .int .i64 60]) []) (I64 (2 : Int) ∧ ((0 : Int) ≤ (2 : Int) ∧ (2 : Int) < (7 : Int)) ∧ ((0 : Int) ≤ (0 : Int) ∧ (0 : Int) < (↑(List.length body) : Int)) ∧
 ((0 : Int) ≤ (4 : Int) ∧ (4 : Nat) < (64 : Nat)) ∧ brP (!decide ((↑(UInt8.toNat (List.getD body (0 : Nat) (0 : UInt8))) : Int) / (16 : Int) = (3 : Int))) (K (.tup [.agg [.int .i64 0, .int .i64 0, .int .i64 0, .nilS], .int .i64 61]) []) (I64 (3 : Int) ∧ ((0 : Int) ≤ (3 : Int) ∧ (3 : Int) < (7 : Int)) ∧ ((0 : Int) ≤ (0 : Int) ∧ (0 : Int) < (↑(List.length body) : Int)) ∧ brP (!decide (bits BinOp.and IntKind.i64 (↑(UInt8.toNat (List.getD body (0 : Nat) (0 : UInt8))) : Int) (15 : Int) = (1 : Int))) (K (.tup [.agg [.int .i64 0, .int .i64 0, .int .i64 0, .nilS], .int .i64 62]) []) (I64 (4 : Int) ∧ ((0 : Int) ≤ (4 : Int) ∧ (4 : Int) < (7 : Int)) ∧ ((0 : Int) ≤ (3 : Int) ∧ (3 : Int) < (↑(List.length body) : Int)) ∧ brP (decide ((↑(UInt8.toNat (List.getD body (3 : Nat) (0 : UInt8))) : Int) < (1 : Int))) (K (.tup [.agg [.int .i64 0, .int .i64 0, .int .i64 0, .nilS], .int .i64 63]) []) (((0 : Int) ≤ (3 : Int) ∧ (3 : Int) < (↑(List.length body) : Int)) ∧ brP (decide ((8 : Int) < (↑(UInt8.toNat (List.getD body (3 : Nat) (0 : UInt8))) : Int))) (K (.tup [.agg [.int .i64 0, .int .i64 0, .int .i64 0, .nilS], .int .i64 63]) []) (((0 : Int) ≤ (3 : Int) ∧ (3 : Int) < (↑(List.length body) : Int)) ∧ I64 ((↑(UInt8.toNat (List.getD body (3 : Nat) (0 : UInt8))) : Int) * (↑(List.length src) : Int)) ∧ I64 ((8 : Int) + (↑(UInt8.toNat (List.getD body (3 : Nat) (0 : UInt8))) : Int) * (↑(List.length src) : Int)) ∧ brP (!decide ((↑(List.length body) : Int) = (8 : Int) + (↑(UInt8.toNat (List.getD body (3 : Nat) (0 : UInt8))) : Int) * (↑(List.length src) : Int))) (K (.tup [.agg [.int .i64 0, .int .i64 0, .int .i64 0, .nilS], .int .i64 63]) []) (I64 (5 : Int) ∧ ((0 : Int) ≤ (5 : Int) ∧ (5 : Int) < (7 : Int)) ∧ optP (pseudo src dst proto (↑(List.length body) : Int)) (fun x => List.length body ≤ (140737488355328 : Nat) ∧ ((2 : Nat) ≤ (1000 : Nat) ∧ List.length (List.flatten [List.take (List.length x) (List.drop (0 : Nat) x), List.take (List.length body) (List.drop (0 : Nat) body)]) ≤
 (562949953421312 : Nat)) ∧ brP (!sumB (List.flatten [List.take (List.length x) (List.drop (0 : Nat) x), List.take (List.length body) (List.drop (0 : Nat) body)]) == (65535 : Int)) (K (.tup [.agg [.int .i64 0, .int .i64 0, .int .i64 0, .nilS], .int .i64 64]) []) (I64 (6 : Int) ∧ ((0 : Int) ≤ (6 : Int) ∧ (6 : Int) < (7 : Int)) ∧ ((0 : Int) ≤ (1 : Int) ∧ (1 : Int) < (↑(List.length body) : Int)) ∧ brP (decide ((↑(UInt8.toNat (List.getD body (1 : Nat) (0 : UInt8))) : Int) = (0 : Int))) (K (.tup [.agg [.int .i64 0, .int .i64 0, .int .i64 0, .nilS], .int .i64 66]) []) (((0 : Int) ≤ (4 : Int) ∧ (4 : Int) < (↑(List.length body) : Int)) ∧ ((0 : Int) ≤ (4 : Int) ∧ (4 : Nat) < (64 : Nat)) ∧ brP (!decide ((↑(UInt8.toNat (List.getD body (4 : Nat) (0 : UInt8))) : Int) / (16 : Int) = (0 : Int))) (K (.tup [.agg [.int .i64 0, .int .i64 0, .int .i64 0, .nilS], .int .i64 66]) []) (((0 : Int) ≤ (4 : Int) ∧ (4 : Int) < (↑(List.length body) : Int)) ∧ ((0 : Int) ≤ (5 : Int) ∧ (5 : Int) < (↑(List.length body) : Int)) ∧ brP (decide (bits BinOp.or IntKind.i64 (↑(UInt8.toNat (List.getD body (4 : Nat) (0 : UInt8))) : Int) (↑(UInt8.toNat (List.getD body (5 : Nat) (0 : UInt8))) : Int) = (0 : Int))) (K (.tup [.agg [.int .i64 0, .int .i64 0, .int .i64 0, .nilS], .int .i64 66]) []) (I64 (7 : Int) ∧ ((0 : Int) ≤ (1 : Int) ∧ (1 : Int) < (↑(List.length body) : Int)) ∧ ((0 : Int) ≤ (2 : Int) ∧ (2 : Int) < (↑(List.length body) : Int)) ∧ ((0 : Int) ≤ (4 : Int) ∧ (4 : Int) < (↑(List.length body) : Int)) ∧ ((0 : Int) ≤ (8 : Int) ∧ (8 : Int) < (64 : Int) ∧ I64 ((↑(UInt8.toNat (List.getD body (4 : Nat) (0 : UInt8))) : Int) * (256 : Int))) ∧ ((0 : Int) ≤ (5 : Int) ∧ (5 : Int) < (↑(List.length body) : Int)) ∧ G (St.mk [(2, .ptr 0 0), (9, .ptr 1 0), ((57 : Nat), .fn 84 [] [.ptr 2 0, .ptr 3 0])] [.vals [.int .i64 0, .int .i64 0, .int .i64 0, .nilS], .vals [.int .i64 (↑(UInt8.toNat (List.getD body (1 : Nat) (0 : UInt8))) : Int), .int .i64 (↑(UInt8.toNat (List.getD body (2 : Nat) (0 : UInt8))) : Int), .int .i64
 (bits BinOp.or IntKind.i64 ((↑(UInt8.toNat (List.getD body (4 : Nat) (0 : UInt8))) : Int) * (256 : Int)) (↑(UInt8.toNat (List.getD body (5 : Nat) (0 : UInt8))) : Int)), .nilS], .vals [.str body], .vals [.int .i64 (↑(List.length src) : Int)]])))))) (List.length body ≤ (140737488355328 : Nat) ∧ ((2 : Nat) ≤ (1000 : Nat) ∧ List.length (List.flatten [[], List.take (List.length body) (List.drop (0 : Nat) body)]) ≤ (562949953421312 : Nat)) ∧ brP (!sumB (List.flatten [[], List.take (List.length body) (List.drop (0 : Nat) body)]) == (65535 : Int)) (K (.tup [.agg [.int .i64 0, .int .i64 0, .int .i64 0, .nilS], .int .i64 64]) []) (I64 (6 : Int) ∧ ((0 : Int) ≤ (6 : Int) ∧ (6 : Int) < (7 : Int)) ∧ ((0 : Int) ≤ (1 : Int) ∧ (1 : Int) < (↑(List.length body) : Int)) ∧ brP (decide ((↑(UInt8.toNat (List.getD body (1 : Nat) (0 : UInt8))) : Int) = (0 : Int))) (K (.tup [.agg [.int .i64 0, .int .i64 0, .int .i64 0, .nilS], .int .i64 66]) []) (((0 : Int) ≤ (4 : Int) ∧ (4 : Int) < (↑(List.length body) : Int)) ∧ ((0 : Int) ≤ (4 : Int) ∧ (4 : Nat) < (64 : Nat)) ∧ brP (!decide ((↑(UInt8.toNat (List.getD body (4 : Nat) (0 : UInt8))) : Int) / (16 : Int) = (0 : Int))) (K (.tup [.agg [.int .i64 0, .int .i64 0, .int .i64 0, .nilS], .int .i64 66]) []) (((0 : Int) ≤ (4 : Int) ∧ (4 : Int) < (↑(List.length body) : Int)) ∧ ((0 : Int) ≤ (5 : Int) ∧ (5 : Int) < (↑(List.length body) : Int)) ∧ brP (decide (bits BinOp.or IntKind.i64 (↑(UInt8.toNat (List.getD body (4 : Nat) (0 : UInt8))) : Int) (↑(UInt8.toNat (List.getD body (5 : Nat) (0 : UInt8))) : Int) = (0 : Int))) (K (.tup [.agg [.int .i64 0, .int .i64 0, .int .i64 0, .nilS], .int .i64 66]) []) (I64 (7 : Int) ∧ ((0 : Int) ≤ (1 : Int) ∧ (1 : Int) < (↑(List.length body) : Int)) ∧ ((0 : Int) ≤ (2 : Int) ∧ (2 : Int) < (↑(List.length body) : Int)) ∧ ((0 : Int) ≤ (4 : Int) ∧ (4 : Int) < (↑(List.length body) : Int)) ∧ ((0 : Int) ≤ (8 : Int) ∧ (8 : Int) < (64 : Int) ∧ I64 ((↑(UInt8.toNat (List.getD body (4 : Nat) (0 : UInt8))) : Int) * (256 : Int))) ∧
 ((0 : Int) ≤ (5 : Int) ∧ (5 : Int) < (↑(List.length body) : Int)) ∧ G (St.mk [(2, .ptr 0 0), (9, .ptr 1 0), ((57 : Nat), .fn 84 [] [.ptr 2 0, .ptr 3 0])] [.vals [.int .i64 0, .int .i64 0, .int .i64 0, .nilS], .vals [.int .i64 (↑(UInt8.toNat (List.getD body (1 : Nat) (0 : UInt8))) : Int), .int .i64 (↑(UInt8.toNat (List.getD body (2 : Nat) (0 : UInt8))) : Int), .int .i64 (bits BinOp.or IntKind.i64 ((↑(UInt8.toNat (List.getD body (4 : Nat) (0 : UInt8))) : Int) * (256 : Int)) (↑(UInt8.toNat (List.getD body (5 : Nat) (0 : UInt8))) : Int)), .nilS], .vals [.str body], .vals [.int .i64 (↑(List.length src) : Int)]]))))))))))))))))) := by kernel_rfl
end Go.Proofs.Ytnbbaemijogeoaa.Ae

