/- What chapter 3's functions compute. No program in sight. -/
import Derived.Test.YtnbbaemijogeoaaMa
import Derived.Test.YtnbbaemijogeoaaAeNm
namespace Go.Proofs.Ytnbbaemijogeoaa
open Ae (b8)

structure Ip where
  src : List UInt8
  dst : List UInt8
  proto : Int
  ttl : Int
  body : List UInt8
deriving DecidableEq
def noIp : Ip := ⟨[], [], 0, 0, []⟩
def rightA (a : List UInt8) : Bool := decide (a.length = 4) || decide (a.length = 16)

def ipOk (p : Ip) : Bool :=
  rightA p.src && decide (p.dst.length = p.src.length) && decide (0 ≤ p.proto) && decide (p.proto ≤ 255) && decide (0 ≤ p.ttl) && decide (p.ttl ≤ 255) &&
    decide (p.body.length + (if p.src.length = 16 then 40 else 20) ≤ 1500)
def ipHead4 (p : Ip) : List UInt8 :=
  [69, 0, b8 ((20 + (p.body.length : Int)) / 256), b8 (20 + (p.body.length : Int)), 0, 0, 64, 0, b8 p.ttl, b8 p.proto, 0, 0] ++ p.src ++ p.dst
def ipSum4 (p : Ip) : Int := 65535 - sumB (ipHead4 p)
def ipBytes4 (p : Ip) : List UInt8 := ((ipHead4 p).set 10 (b8 (ipSum4 p / 256))).set 11 (b8 (ipSum4 p)) ++ p.body
def ipBytes6 (p : Ip) : List UInt8 :=
  [96, 0, 0, 0, b8 ((p.body.length : Int) / 256), b8 (p.body.length : Int), b8 p.proto, b8 p.ttl] ++ p.src ++ p.dst ++ p.body
def ipBytes (p : Ip) : List UInt8 := if p.src.length = 16 then ipBytes6 p else ipBytes4 p
def ipEncode (p : Ip) : Option (List UInt8) := if ipOk p then some (ipBytes p) else none

theorem ipOk_iff (p : Ip) : ipOk p = true ↔ ((p.src.length = 4 ∧ p.body.length ≤ 1480) ∨ (p.src.length = 16 ∧ p.body.length ≤ 1460)) ∧ p.dst.length = p.src.length ∧ 0 ≤ p.proto ∧ p.proto ≤ 255 ∧ 0 ≤ p.ttl ∧ p.ttl ≤ 255 := by
  unfold ipOk rightA
  simp only [Bool.and_eq_true, Bool.or_eq_true, decide_eq_true_eq]
  constructor
  · rintro ⟨⟨⟨⟨⟨⟨h1 | h1, h2⟩, h3⟩, h4⟩, h5⟩, h6⟩, h7⟩
    · rw [if_neg (by omega)] at h7; exact ⟨.inl ⟨h1, by omega⟩, h2, h3, h4, h5, h6⟩
    · rw [if_pos h1] at h7; exact ⟨.inr ⟨h1, by omega⟩, h2, h3, h4, h5, h6⟩
  · rintro ⟨⟨h1, h7⟩ | ⟨h1, h7⟩, h2, h3, h4, h5, h6⟩
    · exact ⟨⟨⟨⟨⟨⟨.inl h1, h2⟩, h3⟩, h4⟩, h5⟩, h6⟩, by rw [if_neg (by omega)]; omega⟩
    · exact ⟨⟨⟨⟨⟨⟨.inr h1, h2⟩, h3⟩, h4⟩, h5⟩, h6⟩, by rw [if_pos h1]; omega⟩
theorem ipEnc_cases {p : Ip} {k : List UInt8 → Prop} {d : Prop} (h : Ae.optP (ipEncode p) k d) : (ipOk p = true ∧ k (ipBytes p)) ∨ (¬ ipOk p = true ∧ d) := by
  unfold ipEncode at h
  split at h
  · rename_i h1; exact .inl ⟨h1, h⟩
  · rename_i h1; exact .inr ⟨h1, h⟩

def ipDec4 (l : List UInt8) : Ip × Int :=
  if l.length < 20 then (noIp, 30)
  else if (l.getD 0 0).toNat % 16 ≠ 5 then (noIp, 32)
  else if w16 (l.getD 2 0) (l.getD 3 0) < 20 ∨ (l.length : Int) < w16 (l.getD 2 0) (l.getD 3 0) then (noIp, 33)
  else if sumB (l.take 20) ≠ 65535 then (noIp, 34)
  else if (l.getD 7 0).toNat ≠ 0 ∨ ((l.getD 6 0).toNat ≠ 0 ∧ (l.getD 6 0).toNat ≠ 64) then (noIp, 32)
  else (⟨(l.take 16).drop 12, (l.take 20).drop 16, (l.getD 9 0).toNat, (l.getD 8 0).toNat, (l.take (w16 (l.getD 2 0) (l.getD 3 0)).toNat).drop 20⟩, 0)
def ipDec6 (l : List UInt8) : Ip × Int :=
  if l.length < 40 then (noIp, 30)
  else if (l.length : Int) < 40 + w16 (l.getD 4 0) (l.getD 5 0) then (noIp, 33)
  else (⟨(l.take 24).drop 8, (l.take 40).drop 24, (l.getD 6 0).toNat, (l.getD 7 0).toNat, (l.take (40 + w16 (l.getD 4 0) (l.getD 5 0)).toNat).drop 40⟩, 0)
def ipDecode (l : List UInt8) : Ip × Int :=
  if l.length = 0 then (noIp, 30)
  else if (l.getD 0 0).toNat / 16 = 4 then ipDec4 l
  else if (l.getD 0 0).toNat / 16 = 6 then ipDec6 l
  else (noIp, 31)

def pseudoB (src dst : List UInt8) (proto long : Int) : List UInt8 :=
  if src.length = 16 then src ++ dst ++ [b8 (long / 16777216), b8 (long / 65536), b8 (long / 256), b8 long, 0, 0, 0, b8 proto]
  else src ++ dst ++ [0, b8 proto, b8 (long / 256), b8 long]
def pseudo (src dst : List UInt8) (proto long : Int) : Option (List UInt8) :=
  if (src.length = 4 ∨ src.length = 16) ∧ dst.length = src.length then some (pseudoB src dst proto long) else none
theorem pseudo_cases {src dst : List UInt8} {proto long : Int} {k : List UInt8 → Prop} {d : Prop} (h : Ae.optP (pseudo src dst proto long) k d) :
    (((src.length = 4 ∨ src.length = 16) ∧ dst.length = src.length) ∧ k (pseudoB src dst proto long)) ∨ (¬ ((src.length = 4 ∨ src.length = 16) ∧ dst.length = src.length) ∧ d) := by
  unfold pseudo at h
  split at h
  · rename_i h1; exact .inl ⟨h1, h⟩
  · rename_i h1; exact .inr ⟨h1, h⟩
end Go.Proofs.Ytnbbaemijogeoaa
