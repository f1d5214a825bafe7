/- What chapter 19's functions compute. No program in sight. -/
import Derived.Test.YtbmiaohigkjeeaaMpt2
import Derived.Test.YtbmiaohigkjeeaaCk2
set_option linter.unusedSimpArgs false
set_option linter.unusedVariables false
namespace Go.Proofs.Ytbmiaohigkjeeaa
open Ae (b8 b8_toNat b8_byte b8_toNatN)

theorem ptRead_len {p : Ip} (h : (ptRead p).2 = 0) : ((p.proto = 17 ∧ 8 ≤ p.body.length) ∨ (p.proto = 6 ∧ 20 ≤ p.body.length)) ∧ (p.src.length = 4 ∨ p.src.length = 16) ∧ p.src.length = p.dst.length := by
  unfold ptRead at h
  split at h
  · rename_i h1; exact absurd h h1
  rename_i h1
  split at h
  · simp at h
  split at h
  · simp at h
  rename_i h3
  have h1 : (ptShape p).2 = 0 := by omega
  have h3 : rightA p.src = true ∧ p.src.length = p.dst.length := by
    by_cases hx : rightA p.src = true ∧ p.src.length = p.dst.length
    · exact hx
    · exact absurd hx h3
  have hs := ptShape_ok h1
  have hr : p.src.length = 4 ∨ p.src.length = 16 := by
    have := h3.1
    unfold rightA at this
    simpa using this
  refine ⟨?_, hr, h3.2⟩
  rcases hs.2.1 with h6 | h17
  · right
    refine ⟨h6, ?_⟩
    unfold ptShape at h1
    rw [if_neg (by omega)] at h1
    by_cases hl : p.body.length < 20
    · rw [if_pos (.inl ⟨h6, hl⟩)] at h1; simp at h1
    · omega
  · exact .inl ⟨h17, hs.1⟩
def putB (b : List UInt8) (i : Nat) (two : List UInt8) : List UInt8 := b.take i ++ two ++ b.drop (i + 2)
theorem putB_is (b : List UInt8) (i : Nat) (u v : UInt8) : b.take i ++ ([u, v] ++ b.drop (i + 2)) = putB b i [u, v] := by unfold putB; rw [List.append_assoc]
theorem putB_len {b : List UInt8} {i : Nat} {u v : UInt8} (h : i + 2 ≤ b.length) : (putB b i [u, v]).length = b.length := by
  unfold putB; simp; omega
theorem putB_get {b : List UInt8} {i k : Nat} {u v : UInt8} (h : i + 2 ≤ b.length) (hk : i + 2 ≤ k) : (putB b i [u, v]).getD k 0 = b.getD k 0 := by
  unfold putB
  have hl : (b.take i ++ [u, v]).length = i + 2 := by simp; omega
  have e := getD_app_r (b.take i ++ [u, v]) (b.drop (i + 2)) (k - (i + 2)) 0
  rw [hl, show i + 2 + (k - (i + 2)) = k by omega] at e
  rw [e, List.getD_eq_getElem?_getD, List.getD_eq_getElem?_getD, List.getElem?_drop, show i + 2 + (k - (i + 2)) = k by omega]
theorem putB_set {b : List UInt8} {k : Nat} {x y : UInt8} (h : k + 2 ≤ b.length) : (b.set k x).set (k + 1) y = putB b k [x, y] := by
  unfold putB
  have e : b = b.take k ++ (b.getD k 0 :: b.getD (k + 1) 0 :: b.drop (k + 2)) := by
    have h1 : b.drop k = b.getD k 0 :: b.drop (k + 1) := by
      rw [List.getD_eq_getElem?_getD, List.getElem?_eq_getElem (by omega)]
      exact List.drop_eq_getElem_cons (by omega)
    have h2 : b.drop (k + 1) = b.getD (k + 1) 0 :: b.drop (k + 2) := by
      rw [List.getD_eq_getElem?_getD, List.getElem?_eq_getElem (by omega)]
      exact List.drop_eq_getElem_cons (by omega)
    rw [← h2, ← h1, List.take_append_drop]
  have hl : (b.take k).length = k := by simp; omega
  conv => lhs; rw [e]
  rw [List.set_append_right _ _ (by omega), hl, Nat.sub_self, List.set_cons_zero, List.set_append_right _ _ (by omega), hl, Nat.add_sub_cancel_left, List.set_cons_succ, List.set_cons_zero, List.append_assoc]
  rfl
theorem take_all {b : List UInt8} {i : Nat} : (b.drop i).take (b.length - i) = b.drop i := List.take_of_length_le (by simp)
def twoAt (b : List UInt8) (i : Nat) : List UInt8 := [b.getD i 0, b.getD (i + 1) 0]
theorem twoAt_is {b : List UInt8} {i : Nat} (h : i + 2 ≤ b.length) : (b.take (i + 2)).drop i = [b.getD i 0, b.getD (i + 1) 0] := by
  have h1 : b.drop i = b.getD i 0 :: b.getD (i + 1) 0 :: b.drop (i + 2) := by
    have h1 : b.drop i = b.getD i 0 :: b.drop (i + 1) := by
      rw [List.getD_eq_getElem?_getD, List.getElem?_eq_getElem (by omega)]
      exact List.drop_eq_getElem_cons (by omega)
    have h2 : b.drop (i + 1) = b.getD (i + 1) 0 :: b.drop (i + 2) := by
      rw [List.getD_eq_getElem?_getD, List.getElem?_eq_getElem (by omega)]
      exact List.drop_eq_getElem_cons (by omega)
    rw [← h2, ← h1]
  rw [List.drop_take, h1, Nat.add_sub_cancel_left]
  rfl
theorem tdT' {n : Int} (h : 0 ≤ n) : [b8 (Int.tdiv n 256), b8 (Int.tmod n 256)] = [b8 (n / 256), b8 n] := by
  rw [Int.tdiv_eq_ediv_of_nonneg h, Int.tmod_eq_emod_of_nonneg h, Ae.b8_mod]
def sumAt (p : Ip) : Nat := if p.proto = 17 then 6 else 16
def rwFresh (b : List UInt8) (i : Nat) (port : Int) : List UInt8 := if port = 0 then twoAt b i else two port
def rwOld (p : Ip) : Int := w16 (p.body.getD (sumAt p) 0) (p.body.getD (sumAt p + 1) 0)
def rwNew (p : Ip) (i : Nat) (was now : List UInt8) (port : Int) : Int := chg (chg (rwOld p) was now) (twoAt p.body i) (rwFresh p.body i port)
def rwTurned (p : Ip) (i : Nat) (was now : List UInt8) (port : Int) : List UInt8 :=
  if p.proto = 17 ∧ rwOld p = 0 ∧ was.length = 4 then putB p.body i (rwFresh p.body i port)
  else putB (putB p.body i (rwFresh p.body i port)) (sumAt p) (two (if p.proto = 17 ∧ rwNew p i was now port = 0 then 65535 else rwNew p i was now port))
def rwHop (p : Ip) : Ip × Int := if p.ttl ≤ 1 then (noIp, 191) else (⟨p.src, p.dst, p.proto, p.ttl - 1, p.body⟩, 0)
def rwTo (p : Ip) (a : List UInt8) (port : Int) : Ip × Int :=
  if (ptRead p).2 ≠ 0 ∨ a.length ≠ p.dst.length ∨ port < 0 ∨ 65535 < port then (noIp, 190)
  else if p.ttl ≤ 1 then (noIp, 191)
  else (⟨p.src, a, p.proto, p.ttl - 1, rwTurned p 2 p.dst a port⟩, 0)
def rwFrom (p : Ip) (a : List UInt8) (port : Int) : Ip × Int :=
  if (ptRead p).2 ≠ 0 ∨ a.length ≠ p.src.length ∨ port < 0 ∨ 65535 < port then (noIp, 190)
  else if p.ttl ≤ 1 then (noIp, 191)
  else (⟨a, p.dst, p.proto, p.ttl - 1, rwTurned p 0 p.src a port⟩, 0)
def rwKind (a : List UInt8) : Int := if a.length = 16 then 41 else 4
def rwWrap (p : Ip) (f t : List UInt8) : Ip × Int :=
  if p.ttl ≤ 1 then (noIp, 191)
  else if ipOk ⟨p.src, p.dst, p.proto, p.ttl - 1, p.body⟩ = true ∧ ipOk ⟨f, t, rwKind p.src, 64, ipBytes ⟨p.src, p.dst, p.proto, p.ttl - 1, p.body⟩⟩ = true then (⟨f, t, rwKind p.src, 64, ipBytes ⟨p.src, p.dst, p.proto, p.ttl - 1, p.body⟩⟩, 0)
  else (noIp, 190)
def rwUnwrap (p : Ip) : Ip × Int :=
  if (ipDecode p.body).2 = 0 ∧ p.proto = rwKind (ipDecode p.body).1.src then ((ipDecode p.body).1, 0) else (noIp, 190)
end Go.Proofs.Ytbmiaohigkjeeaa
