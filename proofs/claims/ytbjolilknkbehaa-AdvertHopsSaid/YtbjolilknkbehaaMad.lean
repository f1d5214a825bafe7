/- What chapter 6's functions compute. No program in sight. -/
import Derived.Test.YtbjolilknkbehaaMpt2
set_option linter.unusedSimpArgs false
set_option linter.unusedVariables false
namespace Go.Proofs.Ytbjolilknkbehaa
open Ae (b8 b8_toNat b8_byte b8_toNatN)

structure Adv where
  id : Int
  pri : Int
  every : Int
  addrs : List (List UInt8)
def noAdv : Adv := ⟨0, 0, 0, []⟩
def adGroup (six : Bool) : List UInt8 := if six then [255, 2, 0, 0, 0, 0, 0, 0, 0, 0, 0, 0, 0, 0, 0, 18] else [224, 0, 0, 18]
def adRight (a : Adv) (src : List UInt8) : Bool :=
  rightA src && decide (1 ≤ a.id) && decide (a.id ≤ 255) && decide (0 ≤ a.pri) && decide (a.pri ≤ 255) && decide (1 ≤ a.every) && decide (a.every ≤ 4095) && decide (1 ≤ a.addrs.length) && decide (a.addrs.length ≤ 8) && a.addrs.all fun x => decide (x.length = src.length)
def adHead (a : Adv) (s : Int) : List UInt8 := [49, b8 a.id, b8 a.pri, b8 (a.addrs.length : Int), b8 (a.every / 256), b8 a.every, b8 (s / 256), b8 s]
def adBody (a : Adv) (s : Int) : List UInt8 := adHead a s ++ a.addrs.flatten
def adSum (a : Adv) (src : List UInt8) : Int := 65535 - sumB (pseudoL src (adGroup (decide (src.length = 16))) 112 ((adBody a 0).length : Int) ++ adBody a 0)
def adPacket (a : Adv) (src : List UInt8) : Ip := ⟨src, adGroup (decide (src.length = 16)), 112, 255, adBody a (adSum a src)⟩
def adEncode (a : Adv) (src : List UInt8) : Ip × Int := if adRight a src then (adPacket a src, 0) else (noIp, 1)
/-- parts of n bytes, from a place on -/
def parts (n : Nat) (l : List UInt8) : Nat → List (List UInt8)
  | 0 => []
  | k + 1 => l.take n :: parts n (l.drop n) k
def adDecode (p : Ip) : Adv × Int :=
  if p.ttl ≠ 255 ∨ p.proto ≠ 112 then (noAdv, 65)
  else if rightA p.src = false ∨ p.src.length ≠ p.dst.length ∨ p.body.length < 8 then (noAdv, 60)
  else if (p.body.getD 0 0).toNat / 16 ≠ 3 then (noAdv, 61)
  else if (p.body.getD 0 0).toNat % 16 ≠ 1 then (noAdv, 62)
  else if (p.body.getD 3 0).toNat < 1 ∨ 8 < (p.body.getD 3 0).toNat ∨ p.body.length ≠ 8 + (p.body.getD 3 0).toNat * p.src.length then (noAdv, 63)
  else if sumB (pseudoL p.src p.dst 112 (p.body.length : Int) ++ p.body) ≠ 65535 then (noAdv, 64)
  else if (p.body.getD 1 0).toNat = 0 ∨ w16 (p.body.getD 4 0) (p.body.getD 5 0) = 0 ∨ 4095 < w16 (p.body.getD 4 0) (p.body.getD 5 0) then (noAdv, 66)
  else (⟨(p.body.getD 1 0).toNat, (p.body.getD 2 0).toNat, w16 (p.body.getD 4 0) (p.body.getD 5 0), parts p.src.length (p.body.drop 8) (p.body.getD 3 0).toNat⟩, 0)
theorem adRight_iff (a : Adv) (s : List UInt8) : adRight a s = true ↔ (s.length = 4 ∨ s.length = 16) ∧ 1 ≤ a.id ∧ a.id ≤ 255 ∧ 0 ≤ a.pri ∧ a.pri ≤ 255 ∧ 1 ≤ a.every ∧ a.every ≤ 4095 ∧ 1 ≤ a.addrs.length ∧ a.addrs.length ≤ 8 ∧ ∀ x ∈ a.addrs, x.length = s.length := by
  unfold adRight rightA
  simp only [Bool.and_eq_true, Bool.or_eq_true, decide_eq_true_eq, List.all_eq_true]
  constructor
  · rintro ⟨⟨⟨⟨⟨⟨⟨⟨⟨h0, h1⟩, h2⟩, h3⟩, h4⟩, h5⟩, h6⟩, h7⟩, h8⟩, h9⟩
    exact ⟨h0, h1, h2, h3, h4, h5, h6, h7, h8, h9⟩
  · rintro ⟨h0, h1, h2, h3, h4, h5, h6, h7, h8, h9⟩
    exact ⟨⟨⟨⟨⟨⟨⟨⟨⟨h0, h1⟩, h2⟩, h3⟩, h4⟩, h5⟩, h6⟩, h7⟩, h8⟩, h9⟩
theorem adEncode_no {a : Adv} {s : List UInt8} (h : ¬ adRight a s = true) : adEncode a s = (noIp, 1) := if_neg h
theorem adEncode_yes {a : Adv} {s : List UInt8} (h : adRight a s = true) : adEncode a s = (adPacket a s, 0) := if_pos h
theorem b8_0 : b8 0 = 0 := by decide
theorem b8_00 : b8 (0 / 256) = 0 := by decide
theorem adHead_0 (a : Adv) : adHead a 0 = [49, b8 a.id, b8 a.pri, b8 (a.addrs.length : Int), b8 (a.every / 256), b8 a.every, 0, 0] := by unfold adHead; rw [b8_0, b8_00]
theorem adBody_set (a : Adv) (q : Int) : ((adBody a 0).set 6 (b8 (q / 256))).set 7 (b8 q) = adBody a q := rfl
theorem adBody_len (a : Adv) (q : Int) : (adBody a q).length = 8 + a.addrs.flatten.length := by unfold adBody adHead; simp; omega
theorem flat_len : ∀ (l : List (List UInt8)) (m : Nat), (∀ x ∈ l, x.length = m) → l.flatten.length = l.length * m
  | [], m, _ => by simp
  | x :: r, m, h => by
    rw [List.flatten_cons, List.length_append, flat_len r m fun y hy => h y (List.mem_cons_of_mem _ hy), h x (List.mem_cons_self ..), List.length_cons, Nat.add_mul]
    omega
theorem ad_len {a : Adv} {s : List UInt8} (h : adRight a s = true) : a.addrs.flatten.length = a.addrs.length * s.length ∧ a.addrs.length * s.length ≤ 128 := by
  obtain ⟨h0, _, _, _, _, _, _, _, h8, h9⟩ := (adRight_iff a s).1 h
  refine ⟨flat_len _ _ h9, ?_⟩
  have h16 : s.length ≤ 16 := by omega
  calc a.addrs.length * s.length ≤ 8 * 16 := Nat.mul_le_mul h8 h16
    _ = 128 := rfl
theorem adGroup_len (b : Bool) : (adGroup b).length = if b then 16 else 4 := by cases b <;> rfl
theorem ad_pseudo {s : List UInt8} (h : s.length = 4 ∨ s.length = 16) (n : Int) : ∃ x, pseudo s (adGroup (decide (s.length = 16))) 112 n = some x ∧ pseudoL s (adGroup (decide (s.length = 16))) 112 n = x ∧ x.length ≤ 40 := by
  have hl := adGroup_len (decide (s.length = 16))
  have e : pseudo s (adGroup (decide (s.length = 16))) 112 n = some (pseudoB s (adGroup (decide (s.length = 16))) 112 n) := by
    unfold pseudo
    rw [if_pos ⟨h, by rcases h with h | h <;> simp [h] at hl ⊢ <;> omega⟩]
  exact ⟨_, e, by unfold pseudoL; rw [e]; rfl, (pseudo_len e).1⟩
end Go.Proofs.Ytbjolilknkbehaa
