/- What chapter 2's functions compute. No program in sight. -/
import Derived.Test.YtnbbaemijogeoaaMip2
set_option linter.unusedSimpArgs false
set_option linter.unusedVariables false
namespace Go.Proofs.Ytnbbaemijogeoaa
open Ae (b8 b8_toNat b8_byte b8_toNatN)

structure Mc where
  (a0 a1 a2 a3 a4 a5 : UInt8)
deriving DecidableEq
structure Fm where
  (a b : Mc)
  (ty : Int)
  (body : List UInt8)
deriving DecidableEq
def Mc.bytes (m : Mc) : List UInt8 := [m.a0, m.a1, m.a2, m.a3, m.a4, m.a5]
def noMc : Mc := ⟨0, 0, 0, 0, 0, 0⟩
def noFm : Fm := ⟨noMc, noMc, 0, []⟩
def Fm.bytes (f : Fm) : List UInt8 := f.a.bytes ++ f.b.bytes ++ [b8 (f.ty / 256), b8 f.ty] ++ f.body
def Fm.ok (f : Fm) : Bool := decide (1536 ≤ f.ty) && decide (f.ty ≤ 65535) && decide (f.body.length ≤ 1500)
theorem Fm.ok_iff (f : Fm) : f.ok = true ↔ 1536 ≤ f.ty ∧ f.ty ≤ 65535 ∧ f.body.length ≤ 1500 := by
  unfold Fm.ok; simp only [Bool.and_eq_true, decide_eq_true_eq, and_assoc]
def etEncode (f : Fm) : Option (List UInt8) := if f.ok = true then some f.bytes else none
theorem etEnc_cases {f : Fm} {k : List UInt8 → Prop} {d : Prop} (h : Ae.optP (etEncode f) k d) : (f.ok = true ∧ k f.bytes) ∨ (¬ f.ok = true ∧ d) := by
  unfold etEncode at h
  split at h
  · rename_i h1; exact .inl ⟨h1, h⟩
  · rename_i h1; exact .inr ⟨h1, h⟩
def mcAt (l : List UInt8) (k : Nat) : Mc := ⟨l.getD k 0, l.getD (k + 1) 0, l.getD (k + 2) 0, l.getD (k + 3) 0, l.getD (k + 4) 0, l.getD (k + 5) 0⟩
def etDecode (l : List UInt8) : Fm × Int :=
  if l.length < 14 ∨ 1514 < l.length then (noFm, 20)
  else if w16 (l.getD 12 0) (l.getD 13 0) < 1536 then (noFm, 1)
  else (⟨mcAt l 0, mcAt l 6, w16 (l.getD 12 0) (l.getD 13 0), l.drop 14⟩, 0)
theorem etDec_cases (l : List UInt8) : ((l.length < 14 ∨ 1514 < l.length) ∧ etDecode l = (noFm, 20)) ∨ ((14 ≤ l.length ∧ l.length ≤ 1514) ∧ w16 (l.getD 12 0) (l.getD 13 0) < 1536 ∧ etDecode l = (noFm, 1)) ∨
    ((14 ≤ l.length ∧ l.length ≤ 1514) ∧ 1536 ≤ w16 (l.getD 12 0) (l.getD 13 0) ∧ etDecode l = (⟨mcAt l 0, mcAt l 6, w16 (l.getD 12 0) (l.getD 13 0), l.drop 14⟩, 0)) := by
  unfold etDecode
  by_cases h1 : l.length < 14 ∨ 1514 < l.length
  · exact .inl ⟨h1, if_pos h1⟩
  · by_cases h2 : w16 (l.getD 12 0) (l.getD 13 0) < 1536
    · exact .inr (.inl ⟨by omega, h2, by rw [if_neg h1, if_pos h2]⟩)
    · exact .inr (.inr ⟨by omega, by omega, by rw [if_neg h1, if_neg h2]⟩)
theorem tdT {n : Int} (h : 0 ≤ n) : [b8 (Int.tdiv n 256), b8 (Int.tmod n 256)] = [b8 (n / 256), b8 n] := by
  rw [Int.tdiv_eq_ediv_of_nonneg h, Int.tmod_eq_emod_of_nonneg h, Ae.b8_mod]
def etMany (a : List UInt8) : Mc × Bool :=
  if a.length = 4 ∧ 224 ≤ (a.getD 0 0).toNat ∧ (a.getD 0 0).toNat ≤ 239 then (⟨1, 0, 94, a.getD 1 0 &&& 127, a.getD 2 0, a.getD 3 0⟩, true)
  else if a.length = 16 ∧ (a.getD 0 0).toNat = 255 then (⟨51, 51, a.getD 12 0, a.getD 13 0, a.getD 14 0, a.getD 15 0⟩, true)
  else (noMc, false)
end Go.Proofs.Ytnbbaemijogeoaa
