/- What chapter 4's functions compute. No program in sight. -/
import Derived.Test.YtnbbaemijogeoaaMet
import Derived.Test.YtnbbaemijogeoaaMpt
set_option linter.unusedSimpArgs false
set_option linter.unusedVariables false
namespace Go.Proofs.Ytnbbaemijogeoaa
open Ae (b8 b8_toNat b8_byte b8_toNatN)

structure Nt where
  kind : Int
  mac : Mc
  addr : List UInt8
  target : List UInt8
  asked : Bool
deriving DecidableEq
def noNt : Nt := ⟨0, noMc, [], [], false⟩
def nbNear (a : List UInt8) : List UInt8 := if a.length = 16 then [255, 2, 0, 0, 0, 0, 0, 0, 0, 0, 0, 1, 255] ++ a.drop 13 else []
def nbEvery : List UInt8 := [255, 2, 0, 0, 0, 0, 0, 0, 0, 0, 0, 0, 0, 0, 0, 1]
def allMc : Mc := ⟨255, 255, 255, 255, 255, 255⟩
def nbArpB (kind : UInt8) (m : Mc) (addr : List UInt8) (o : Mc) (target : List UInt8) : List UInt8 := [0, 1, 8, 0, 6, 4, 0] ++ [kind] ++ m.bytes ++ addr ++ o.bytes ++ target
def nbArp (kind : UInt8) (dst m : Mc) (addr : List UInt8) (o : Mc) (target : List UInt8) : Option (List UInt8) := etEncode ⟨dst, m, 2054, nbArpB kind m addr o target⟩
/-- the body of an ND with a sum -/
def nbBody (kind flags opt : UInt8) (target : List UInt8) (m : Mc) (s : Int) : List UInt8 := [kind, 0] ++ two s ++ ([flags, 0, 0, 0] ++ target ++ [opt, 1] ++ m.bytes)
def nbSum (kind flags opt : UInt8) (target : List UInt8) (m : Mc) (src dst : List UInt8) : Int := 65535 - sumB (pseudoL src dst 58 ((nbBody kind flags opt target m 0).length : Int) ++ nbBody kind flags opt target m 0)
def nbIp (kind flags opt : UInt8) (target : List UInt8) (m : Mc) (src dst : List UInt8) : Ip := ⟨src, dst, 58, 255, nbBody kind flags opt target m (nbSum kind flags opt target m src dst)⟩
def nbNd (kind flags opt : UInt8) (target : List UInt8) (m card : Mc) (src dst : List UInt8) : Option (List UInt8) :=
  match ipEncode (nbIp kind flags opt target m src dst) with
  | none => none
  | some b => etEncode ⟨card, m, 34525, b⟩
/-- an ND by its body without a sum -/
def ndIp (body src dst : List UInt8) : Ip := ⟨src, dst, 58, 255, body.take 2 ++ two (65535 - sumB (pseudoL src dst 58 32 ++ body)) ++ body.drop 4⟩
def ndG (body : List UInt8) (m card : Mc) (src dst : List UInt8) : Option (List UInt8) :=
  match ipEncode (ndIp body src dst) with
  | none => none
  | some b => etEncode ⟨card, m, 34525, b⟩
theorem nbBody_len {kind flags opt : UInt8} {target : List UInt8} {m : Mc} {s : Int} (h : target.length = 16) : (nbBody kind flags opt target m s).length = 32 := by
  unfold nbBody two Mc.bytes; simp; omega
theorem ndG_eq {kind flags opt : UInt8} {target : List UInt8} {m card : Mc} {src dst : List UInt8} (h : target.length = 16) : ndG (nbBody kind flags opt target m 0) m card src dst = nbNd kind flags opt target m card src dst := by
  have e : ndIp (nbBody kind flags opt target m 0) src dst = nbIp kind flags opt target m src dst := by
    unfold ndIp nbIp nbSum
    rw [nbBody_len h]
    rfl
  unfold ndG nbNd
  rw [e]
def pair (a b : List UInt8) : Bool := rightA a && decide (a.length = b.length)
def nbAsk (m : Mc) (a b : List UInt8) : Option (List UInt8) :=
  if pair a b = false then none
  else if a.length = 16 then nbNd 135 0 1 b m (etMany (nbNear b)).1 a (nbNear b)
  else nbArp 1 allMc m a noMc b
def nbTell (m : Mc) (a : List UInt8) (t : Mc) (b : List UInt8) : Option (List UInt8) :=
  if pair a b = false then none
  else if a.length = 16 then nbNd 136 96 2 a m t a b
  else nbArp 2 t m a t b
def nbClaim (m : Mc) (a : List UInt8) : Option (List UInt8) :=
  if rightA a = false then none
  else if a.length = 16 then nbNd 136 32 2 a m (etMany nbEvery).1 a nbEvery
  else nbArp 1 allMc m a noMc a
theorem pair_cases (a b : List UInt8) : (pair a b = false ∧ ¬ ((a.length = 4 ∨ a.length = 16) ∧ a.length = b.length)) ∨ (pair a b = true ∧ a.length = 16 ∧ b.length = 16) ∨ (pair a b = true ∧ a.length = 4 ∧ b.length = 4) := by
  unfold pair rightA
  by_cases h4 : a.length = 4 <;> by_cases h16 : a.length = 16 <;> by_cases hb : a.length = b.length <;> simp [h4, h16, hb] <;> omega
theorem nbAsk_cases (m : Mc) (a b : List UInt8) : (¬ ((a.length = 4 ∨ a.length = 16) ∧ a.length = b.length) ∧ nbAsk m a b = none) ∨ ((a.length = 16 ∧ b.length = 16) ∧ nbAsk m a b = nbNd 135 0 1 b m (etMany (nbNear b)).1 a (nbNear b)) ∨ ((a.length = 4 ∧ b.length = 4) ∧ nbAsk m a b = nbArp 1 allMc m a noMc b) := by
  unfold nbAsk
  rcases pair_cases a b with ⟨h, h1⟩ | ⟨h, h1, h2⟩ | ⟨h, h1, h2⟩
  · exact .inl ⟨h1, if_pos h⟩
  · exact .inr (.inl ⟨⟨h1, h2⟩, by rw [if_neg (by rw [h]; simp), if_pos h1]⟩)
  · exact .inr (.inr ⟨⟨h1, h2⟩, by rw [if_neg (by rw [h]; simp), if_neg (by omega)]⟩)
theorem nbTell_cases (m : Mc) (a : List UInt8) (t : Mc) (b : List UInt8) : (¬ ((a.length = 4 ∨ a.length = 16) ∧ a.length = b.length) ∧ nbTell m a t b = none) ∨ ((a.length = 16 ∧ b.length = 16) ∧ nbTell m a t b = nbNd 136 96 2 a m t a b) ∨ ((a.length = 4 ∧ b.length = 4) ∧ nbTell m a t b = nbArp 2 t m a t b) := by
  unfold nbTell
  rcases pair_cases a b with ⟨h, h1⟩ | ⟨h, h1, h2⟩ | ⟨h, h1, h2⟩
  · exact .inl ⟨h1, if_pos h⟩
  · exact .inr (.inl ⟨⟨h1, h2⟩, by rw [if_neg (by rw [h]; simp), if_pos h1]⟩)
  · exact .inr (.inr ⟨⟨h1, h2⟩, by rw [if_neg (by rw [h]; simp), if_neg (by omega)]⟩)
theorem nbClaim_cases (m : Mc) (a : List UInt8) : (¬ (a.length = 4 ∨ a.length = 16) ∧ nbClaim m a = none) ∨ (a.length = 16 ∧ nbClaim m a = nbNd 136 32 2 a m (etMany nbEvery).1 a nbEvery) ∨ (a.length = 4 ∧ nbClaim m a = nbArp 1 allMc m a noMc a) := by
  unfold nbClaim rightA
  by_cases h4 : a.length = 4
  · exact .inr (.inr ⟨h4, by rw [if_neg (by simp [h4]), if_neg (by omega)]⟩)
  · by_cases h16 : a.length = 16
    · exact .inr (.inl ⟨h16, by rw [if_neg (by simp [h16]), if_pos h16]⟩)
    · exact .inl ⟨by omega, by rw [if_pos (by simp [h4, h16])]⟩
theorem near_many {b : List UInt8} (h : b.length = 16) : (etMany (nbNear b)).1 = ⟨51, 51, 255, b.getD 13 0, b.getD 14 0, b.getD 15 0⟩ := by
  obtain ⟨_, _, _, _, _, _, _, _, _, _, _, _, _, _, _, _, rfl⟩ := list16 h
  rfl
theorem every_many : (etMany nbEvery).1 = ⟨51, 51, 0, 0, 0, 1⟩ := rfl
theorem nbBody_is (k fl op : UInt8) (tg : List UInt8) (m : Mc) : [k, 0, 0, 0, fl, 0, 0, 0] ++ tg ++ [op, 1] ++ [m.a0, m.a1, m.a2, m.a3, m.a4, m.a5] = nbBody k fl op tg m 0 := by
  unfold nbBody; rw [show two 0 = [0, 0] by decide +kernel]; simp [Mc.bytes]
theorem nbArp_is (k : UInt8) (m o : Mc) (a b : List UInt8) : [0, 1, 8, 0, 6, 4, 0, k] ++ ([m.a0, m.a1, m.a2, m.a3, m.a4, m.a5] ++ a) ++ ([o.a0, o.a1, o.a2, o.a3, o.a4, o.a5] ++ b) = nbArpB k m a o b := by
  unfold nbArpB Mc.bytes; simp
def nbStart (s : List UInt8) : Prop := (((((((s.getD 0 0).toNat = 0 ∧ (s.getD 1 0).toNat = 1) ∧ (s.getD 2 0).toNat = 8) ∧ (s.getD 3 0).toNat = 0) ∧ (s.getD 4 0).toNat = 6) ∧ (s.getD 5 0).toNat = 4) ∧ (s.getD 6 0).toNat = 0)
instance (s : List UInt8) : Decidable (nbStart s) := by unfold nbStart; infer_instance
def nbReadArp (s : List UInt8) : Nt × Int :=
  if s.length < 28 ∨ ¬ nbStart s ∨ ((s.getD 7 0).toNat ≠ 1 ∧ (s.getD 7 0).toNat ≠ 2) then (noNt, 40)
  else (⟨(s.getD 7 0).toNat, mcAt s 8, (s.take 18).drop 14, (s.take 28).drop 24, decide ((s.getD 7 0).toNat = 2)⟩, 0)
theorem nbReadArp_cases (s : List UInt8) : ((s.length < 28 ∨ ¬ nbStart s ∨ ((s.getD 7 0).toNat ≠ 1 ∧ (s.getD 7 0).toNat ≠ 2)) ∧ nbReadArp s = (noNt, 40)) ∨
    (28 ≤ s.length ∧ nbStart s ∧ ((s.getD 7 0).toNat = 1 ∨ (s.getD 7 0).toNat = 2) ∧ nbReadArp s = (⟨(s.getD 7 0).toNat, mcAt s 8, (s.take 18).drop 14, (s.take 28).drop 24, decide ((s.getD 7 0).toNat = 2)⟩, 0)) := by
  unfold nbReadArp
  by_cases h1 : s.length < 28 ∨ ¬ nbStart s ∨ ((s.getD 7 0).toNat ≠ 1 ∧ (s.getD 7 0).toNat ≠ 2)
  · exact .inl ⟨h1, if_pos h1⟩
  · by_cases h2 : nbStart s
    · exact .inr ⟨by omega, h2, by omega, if_neg h1⟩
    · exact absurd (.inr (.inl h2)) h1
theorem take8 {s : List UInt8} (h : 8 ≤ s.length) (k : UInt8) : s.take 8 = [0, 1, 8, 0, 6, 4, 0, k] ↔ nbStart s ∧ (s.getD 7 0).toNat = k.toNat := by
  match s, h with
  | a :: b :: c :: d :: e :: f :: g :: i :: r, _ =>
    unfold nbStart
    simp only [List.take_succ_cons, List.take_zero, List.cons.injEq, and_true, List.getD_cons_zero, List.getD_cons_succ, Ae.u8_eq_iff, UInt8.reduceToNat, and_assoc]
theorem and64 (x : UInt8) : (!decide (x.toNat &&& 64 = 0)) = decide (x.toNat / 64 % 2 = 1) := by
  have h : ∀ n : Nat, n < 256 → (!decide (n &&& 64 = 0)) = decide (n / 64 % 2 = 1) := by decide +kernel
  exact h _ x.toNat_lt
def nbAsks (b : List UInt8) : Bool := decide ((b.getD 0 0).toNat = 135) && decide ((b.getD 24 0).toNat = 1)
def nbTells (b : List UInt8) : Bool := decide ((b.getD 0 0).toNat = 136) && decide ((b.getD 24 0).toNat = 2)
def nbReadP (p : Ip) : Nt × Int :=
  if (p.body.getD 1 0).toNat ≠ 0 ∨ (nbAsks p.body = false ∧ nbTells p.body = false) ∨ (p.body.getD 25 0).toNat ≠ 1 then (noNt, 40)
  else if sumB (pseudoL p.src p.dst 58 32 ++ p.body) ≠ 65535 then (noNt, 41)
  else if nbAsks p.body = true then (⟨1, mcAt p.body 26, p.src, (p.body.take 24).drop 8, false⟩, 0)
  else (⟨2, mcAt p.body 26, (p.body.take 24).drop 8, p.dst, decide ((p.body.getD 4 0).toNat / 64 % 2 = 1)⟩, 0)
def nbReadNd (s : List UInt8) : Nt × Int :=
  if (ipDecode s).2 ≠ 0 ∨ (ipDecode s).1.src.length ≠ 16 ∨ (ipDecode s).1.proto ≠ 58 ∨ (ipDecode s).1.ttl ≠ 255 ∨ (ipDecode s).1.body.length ≠ 32 then (noNt, 40)
  else nbReadP (ipDecode s).1
def nbRead (f : Fm) : Nt × Int :=
  if f.ty = 2054 then nbReadArp f.body else if f.ty = 34525 then nbReadNd f.body else (noNt, 40)
end Go.Proofs.Ytnbbaemijogeoaa
