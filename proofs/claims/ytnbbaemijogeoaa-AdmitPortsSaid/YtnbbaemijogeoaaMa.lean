/- Plain arithmetic of the sum of bytes: no program in sight. -/
import Derived.WalkKit
namespace Go.Proofs.Ytnbbaemijogeoaa

/-- what adding the high parts to the lowest sixteen bits comes to -/
def fld (n : Int) : Int := if n = 0 then 0 else (n - 1) % 65535 + 1

theorem fld_step (n : Int) (h : 65535 < n) : fld (n % 65536 + n / 65536) = fld n := by
  unfold fld
  rw [if_neg (by omega), if_neg (by omega)]
  omega
theorem fld_small (n : Int) (h0 : 0 ≤ n) (h : n ≤ 65535) : fld n = n := by
  unfold fld; split <;> omega
theorem fld_bd (n : Int) : 0 ≤ fld n ∧ fld n ≤ 65535 := by
  unfold fld; split <;> omega
theorem fld_add (a b : Int) (ha : 0 ≤ a) (hb : 0 ≤ b) : fld (fld a + b) = fld (a + b) := by
  unfold fld
  by_cases h : a = 0
  · simp [h]
  · rw [if_neg h, if_neg (by omega), if_neg (by omega)]; omega
theorem fld_mod (a : Int) : fld a % 65535 = a % 65535 := by
  unfold fld; split <;> omega

/-- the bytes' numbers, added: every second one counts 256 times -/
def raw : Bool → List UInt8 → Nat
  | _, [] => 0
  | true, x :: t => x.toNat * 256 + raw false t
  | false, x :: t => x.toNat + raw true t

@[simp] theorem raw_nil (h : Bool) : raw h [] = 0 := by cases h <;> rfl
theorem raw_cons (h : Bool) (x : UInt8) (t : List UInt8) : raw h (x :: t) = (if h then x.toNat * 256 else x.toNat) + raw (!h) t := by
  cases h <;> simp [raw]

/-- the side on which the next byte counts, behind so many -/
def side (h : Bool) (n : Nat) : Bool := if n % 2 = 0 then h else !h

@[simp] theorem side_zero (h : Bool) : side h 0 = h := by simp [side]
theorem side_succ (h : Bool) (n : Nat) : side h (n + 1) = !(side h n) := by
  unfold side
  by_cases e : n % 2 = 0
  · rw [if_neg (by omega), if_pos e]
  · rw [if_pos (by omega), if_neg e]; simp
theorem side_not (h : Bool) (n : Nat) : side (!h) n = !(side h n) := by
  unfold side; split <;> simp
theorem side_add (h : Bool) (m n : Nat) : side h (m + n) = side (side h m) n := by
  induction n with
  | zero => simp
  | succ n ih => rw [← Nat.add_assoc, side_succ, side_succ, ih]

theorem raw_append (h : Bool) (a b : List UInt8) : raw h (a ++ b) = raw h a + raw (side h a.length) b := by
  induction a generalizing h with
  | nil => simp
  | cons x t ih =>
    rw [List.cons_append, raw_cons, raw_cons, ih, List.length_cons, side_succ, side_not]
    omega
theorem raw_snoc (h : Bool) (a : List UInt8) (x : UInt8) : raw h (a ++ [x]) = raw h a + (if side h a.length then x.toNat * 256 else x.toNat) := by
  rw [raw_append, raw_cons]; simp

theorem raw_bd2 (l : List UInt8) : 2 * raw true l ≤ 65535 * l.length + 65025 ∧ 2 * raw false l ≤ 65535 * l.length := by
  induction l with
  | nil => simp
  | cons x t ih =>
    have hx := x.toNat_lt
    rw [raw_cons, raw_cons]
    simp only [List.length_cons, if_true, Bool.not_true, Bool.not_false, Bool.false_eq_true, if_false]
    omega
theorem raw_bd (h : Bool) (l : List UInt8) : 2 * raw h l ≤ 65535 * l.length + 65025 := by
  have := raw_bd2 l
  cases h <;> omega

theorem raw_zeros (h : Bool) (n : Nat) : raw h (List.replicate n 0) = 0 := by
  induction n generalizing h with
  | zero => simp
  | succ n ih => rw [List.replicate_succ, raw_cons, ih]; cases h <;> simp

/-- the sum of bytes -/
def sumB (l : List UInt8) : Int := fld (raw true l : Int)
theorem sumB_bd (l : List UInt8) : 0 ≤ sumB l ∧ sumB l ≤ 65535 := fld_bd _

theorem sumB_append (a b : List UInt8) (h : a.length % 2 = 0) : sumB (a ++ b) = fld (sumB a + raw true b) := by
  unfold sumB
  rw [raw_append, side, if_pos h, fld_add _ _ (by omega) (by omega)]
  simp

/-- a sum when a number changes -/
def upd (s a b : Int) : Int := 65535 - fld (65535 - s + (65535 - a) + b)
theorem upd_bd (s a b : Int) : 0 ≤ upd s a b ∧ upd s a b ≤ 65535 := by
  have := fld_bd (65535 - s + (65535 - a) + b); unfold upd; omega
theorem upd_mod (s a b : Int) : upd s a b % 65535 = (s + a - b) % 65535 := by
  have := fld_mod (65535 - s + (65535 - a) + b); unfold upd; omega

theorem take_succ_getD {α : Type} (l : List α) (k : Nat) (d : α) (h : k < l.length) : l.take (k + 1) = l.take k ++ [l.getD k d] := by
  rw [List.take_succ_eq_append_getElem h, List.getD_eq_getElem?_getD, List.getElem?_eq_getElem h]; rfl

end Go.Proofs.Ytnbbaemijogeoaa
