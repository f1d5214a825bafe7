/- What chapter 5's functions compute. No program in sight. -/
import Derived.Test.YtnbbaemijogeoaaMip2
set_option linter.unusedSimpArgs false
set_option linter.unusedVariables false
namespace Go.Proofs.Ytnbbaemijogeoaa
open Ae (b8 b8_toNat b8_byte b8_toNatN)

structure Hd where
  proto : Int
  src : Int
  dst : Int
  flags : Int
  at' : Int
deriving DecidableEq
def noHd : Hd := ⟨0, 0, 0, 0, 0⟩
def two (n : Int) : List UInt8 := [b8 (n / 256), b8 n]
theorem two_def (n : Int) : [b8 (n / 256), b8 n] = two n := rfl
theorem two_len (n : Int) : (two n).length = 2 := rfl
def pseudoL (src dst : List UInt8) (proto long : Int) : List UInt8 := (pseudo src dst proto long).getD []
def hdOk (h : Hd) : Bool :=
  decide (0 ≤ h.src) && decide (h.src ≤ 65535) && decide (0 ≤ h.dst) && decide (h.dst ≤ 65535) && decide (0 ≤ h.flags) && decide (h.flags < 64) && decide (h.at' = 0) && (decide (h.proto = 6) || decide (h.flags = 0))
/-- a body: ports laid out ahead, data, a sum -/
def ptBd (proto flags : Int) (ps data : List UInt8) (s : Int) : List UInt8 :=
  if proto = 17 then ps ++ two (8 + (data.length : Int)) ++ two s ++ data
  else ps ++ [0, 0, 0, 0, 0, 0, 0, 0] ++ [80] ++ [b8 flags] ++ [255, 255] ++ two s ++ [0, 0] ++ data
theorem ptBd_len (proto flags : Int) (ps data : List UInt8) (s : Int) : (ptBd proto flags ps data s).length = ps.length + data.length + (if proto = 17 then 4 else 16) := by
  unfold ptBd two; split <;> simp <;> omega
def ptBody (h : Hd) (data : List UInt8) (s : Int) : List UInt8 := ptBd h.proto h.flags (two h.src ++ two h.dst) data s
def ptRaw (p : Ip) (h : Hd) (data : List UInt8) : Int :=
  65535 - sumB (pseudoL p.src p.dst h.proto ((ptBody h data 0).length : Int) ++ ptBody h data 0)
def ptSum (p : Ip) (h : Hd) (data : List UInt8) : Int := if ptRaw p h data = 0 ∧ h.proto = 17 then 65535 else ptRaw p h data
def ptPacket (p : Ip) (h : Hd) (data : List UInt8) : Ip := ⟨p.src, p.dst, h.proto, p.ttl, ptBody h data (ptSum p h data)⟩
def ptWrite (p : Ip) (h : Hd) (data : List UInt8) : Ip × Int :=
  if h.proto ≠ 6 ∧ h.proto ≠ 17 then (noIp, 51)
  else if hdOk h = true ∧ ipOk (ptPacket p h data) = true then (ptPacket p h data, 0)
  else (noIp, 1)

theorem hdOk_iff (h : Hd) : hdOk h = true ↔ 0 ≤ h.src ∧ h.src ≤ 65535 ∧ 0 ≤ h.dst ∧ h.dst ≤ 65535 ∧ 0 ≤ h.flags ∧ h.flags < 64 ∧ h.at' = 0 ∧ (h.proto = 6 ∨ h.flags = 0) := by
  unfold hdOk
  simp only [Bool.and_eq_true, Bool.or_eq_true, decide_eq_true_eq]
  constructor
  · rintro ⟨⟨⟨⟨⟨⟨⟨h1, h2⟩, h3⟩, h4⟩, h5⟩, h6⟩, h7⟩, h8⟩; exact ⟨h1, h2, h3, h4, h5, h6, h7, h8⟩
  · rintro ⟨h1, h2, h3, h4, h5, h6, h7, h8⟩; exact ⟨⟨⟨⟨⟨⟨⟨h1, h2⟩, h3⟩, h4⟩, h5⟩, h6⟩, h7⟩, h8⟩
theorem ptWrite_cases (p : Ip) (h : Hd) (d : List UInt8) :
    ((h.proto ≠ 6 ∧ h.proto ≠ 17) ∧ ptWrite p h d = (noIp, 51)) ∨ ((h.proto = 6 ∨ h.proto = 17) ∧ hdOk h = true ∧ ipOk (ptPacket p h d) = true ∧ ptWrite p h d = (ptPacket p h d, 0)) ∨
      ((h.proto = 6 ∨ h.proto = 17) ∧ ¬ (hdOk h = true ∧ ipOk (ptPacket p h d) = true) ∧ ptWrite p h d = (noIp, 1)) := by
  unfold ptWrite
  by_cases h1 : h.proto ≠ 6 ∧ h.proto ≠ 17
  · exact .inl ⟨h1, if_pos h1⟩
  · by_cases h2 : hdOk h = true ∧ ipOk (ptPacket p h d) = true
    · exact .inr (.inl ⟨by omega, h2.1, h2.2, by rw [if_neg h1, if_pos h2]⟩)
    · exact .inr (.inr ⟨by omega, h2, by rw [if_neg h1, if_neg h2]⟩)
theorem ptPacket_is {p : Ip} {h : Hd} {d l : List UInt8} (hl : pseudoL p.src p.dst h.proto ((ptBody h d 0).length : Int) = l) :
    (65535 - sumB (l ++ ptBody h d 0) = 0 ∧ h.proto = 17 → ptPacket p h d = ⟨p.src, p.dst, h.proto, p.ttl, ptBody h d 65535⟩) ∧
    (¬ (65535 - sumB (l ++ ptBody h d 0) = 0 ∧ h.proto = 17) → ptPacket p h d = ⟨p.src, p.dst, h.proto, p.ttl, ptBody h d (65535 - sumB (l ++ ptBody h d 0))⟩) := by
  unfold ptPacket ptSum ptRaw
  rw [hl]
  exact ⟨fun hz => by rw [if_pos hz], fun hz => by rw [if_neg hz]⟩

def ptShape (p : Ip) : Hd × Int :=
  if p.proto ≠ 6 ∧ p.proto ≠ 17 then (noHd, 51)
  else if (p.proto = 6 ∧ p.body.length < 20) ∨ p.body.length < 8 then (noHd, 50)
  else if p.proto = 17 then
    if w16 (p.body.getD 4 0) (p.body.getD 5 0) ≠ p.body.length then (noHd, 53)
    else (⟨17, w16 (p.body.getD 0 0) (p.body.getD 1 0), w16 (p.body.getD 2 0) (p.body.getD 3 0), 0, 8⟩, 0)
  else if ((p.body.getD 12 0).toNat : Int) / 16 * 4 < 20 ∨ (p.body.length : Int) < ((p.body.getD 12 0).toNat : Int) / 16 * 4 then (noHd, 53)
  else (⟨6, w16 (p.body.getD 0 0) (p.body.getD 1 0), w16 (p.body.getD 2 0) (p.body.getD 3 0), ((p.body.getD 13 0).toNat : Int) % 64, ((p.body.getD 12 0).toNat : Int) / 16 * 4⟩, 0)
theorem ptShape_ok {p : Ip} (h : (ptShape p).2 = 0) : 8 ≤ p.body.length ∧ (p.proto = 6 ∨ p.proto = 17) ∧ (ptShape p).1.proto = p.proto := by
  unfold ptShape at *
  repeat' split at h
  all_goals first
    | (simp at h; done)
    | skip
  · rename_i h1 h2 h3 h4
    rw [if_neg h1, if_neg h2, if_pos h3, if_neg h4]
    exact ⟨by omega, .inr h3, h3.symm⟩
  · rename_i h1 h2 h3 h4
    rw [if_neg h1, if_neg h2, if_neg h3, if_neg h4]
    exact ⟨by omega, by omega, by simp only; omega⟩
def ptNone (p : Ip) : Bool := decide (p.proto = 17) && decide (p.src.length = 4) && decide (p.dst.length = 4) && decide (p.body.getD 6 0 = 0) && decide (p.body.getD 7 0 = 0)
def ptGood (p : Ip) : Bool := sumB (pseudoL p.src p.dst p.proto (p.body.length : Int) ++ p.body) == 65535
def ptRead (p : Ip) : Hd × Int :=
  if (ptShape p).2 ≠ 0 then (noHd, (ptShape p).2)
  else if ptNone p = false ∧ ptGood p = false then (noHd, 52)
  else if ¬ (rightA p.src = true ∧ p.src.length = p.dst.length) then (noHd, 53)
  else ((ptShape p).1, 0)

structure Fl where
  proto : Int
  src : List UInt8
  dst : List UInt8
  port : Int
  dest : Int
deriving DecidableEq
def noFl : Fl := ⟨0, [], [], 0, 0⟩
def ptFlow (p : Ip) : Fl × Int := if (ptRead p).2 ≠ 0 then (noFl, (ptRead p).2) else (⟨(ptRead p).1.proto, p.src, p.dst, (ptRead p).1.src, (ptRead p).1.dst⟩, 0)
def Fl.turn (f : Fl) : Fl := ⟨f.proto, f.dst, f.src, f.dest, f.port⟩
def ptErrs (p : Ip) : Bool :=
  decide (p.body ≠ []) && decide (p.src.length = p.dst.length) &&
    ((decide (p.src.length = 4) && decide (p.proto = 1) && (decide ((p.body.getD 0 0).toNat = 3) || decide ((p.body.getD 0 0).toNat = 11))) ||
     (decide (p.src.length = 16) && decide (p.proto = 58) && (decide (1 ≤ (p.body.getD 0 0).toNat) && decide ((p.body.getD 0 0).toNat ≤ 3))))
theorem ptErrs_ok {p : Ip} (h : ptErrs p = true) : 0 < p.body.length ∧ p.src.length = p.dst.length ∧ ((p.src.length = 4 ∧ p.proto = 1) ∨ (p.src.length = 16 ∧ p.proto = 58)) := by
  unfold ptErrs at h
  simp only [Bool.and_eq_true, Bool.or_eq_true, decide_eq_true_eq] at h
  have := List.length_pos_iff.2 h.1.1
  omega
theorem ptErrs_iff (p : Ip) : ptErrs p = true ↔ 0 < p.body.length ∧ p.src.length = p.dst.length ∧ ((p.src.length = 4 ∧ p.proto = 1 ∧ ((p.body.getD 0 0).toNat = 3 ∨ (p.body.getD 0 0).toNat = 11)) ∨ (p.src.length = 16 ∧ p.proto = 58 ∧ 1 ≤ (p.body.getD 0 0).toNat ∧ (p.body.getD 0 0).toNat ≤ 3)) := by
  unfold ptErrs
  simp only [Bool.and_eq_true, Bool.or_eq_true, decide_eq_true_eq]
  rw [show (p.body ≠ []) ↔ 0 < p.body.length from List.length_pos_iff.symm]
  constructor <;> intro h <;> omega
def ptQuoted (p : Ip) : Fl × Int :=
  if ptErrs p = false then (noFl, 51)
  else if p.src.length = 4 then
    if sumB p.body ≠ 65535 then (noFl, 52)
    else if p.body.length < 32 ∨ (p.body.getD 8 0).toNat ≠ 69 ∨ ((p.body.getD 17 0).toNat ≠ 6 ∧ (p.body.getD 17 0).toNat ≠ 17) then (noFl, 53)
    else (⟨(p.body.getD 17 0).toNat, (p.body.take 24).drop 20, (p.body.take 28).drop 24, w16 (p.body.getD 28 0) (p.body.getD 29 0), w16 (p.body.getD 30 0) (p.body.getD 31 0)⟩, 0)
  else
    if sumB (pseudoL p.src p.dst p.proto (p.body.length : Int) ++ p.body) ≠ 65535 then (noFl, 52)
    else if p.body.length < 52 ∨ (p.body.getD 8 0).toNat / 16 ≠ 6 ∨ ((p.body.getD 14 0).toNat ≠ 6 ∧ (p.body.getD 14 0).toNat ≠ 17) then (noFl, 53)
    else (⟨(p.body.getD 14 0).toNat, (p.body.take 32).drop 16, (p.body.take 48).drop 32, w16 (p.body.getD 48 0) (p.body.getD 49 0), w16 (p.body.getD 50 0) (p.body.getD 51 0)⟩, 0)
end Go.Proofs.Ytnbbaemijogeoaa
