/- The reference's Sum, and both Changes. -/
import Derived.Test.YtnbbaemijogeoaaSum
namespace Go.Proofs.Ytnbbaemijogeoaa
open Go.RowKit

theorem raw_take2 (l : List UInt8) (j : Nat) (h : j + 1 < l.length) (he : j % 2 = 0) :
    raw true (l.take (j + 2)) = raw true (l.take j) + ((l.getD j 0).toNat * 256 + (l.getD (j + 1) 0).toNat) := by
  rw [take_succ_getD l (j + 1) 0 h, take_succ_getD l j 0 (by omega), raw_snoc, raw_snoc]
  have e1 : (l.take j).length = j := by simp; omega
  have e2 : (l.take j ++ [l.getD j 0]).length = j + 1 := by simp; omega
  rw [e1, e2, side_succ, side, if_pos he]
  simp; omega
theorem raw_take1 (l : List UInt8) (j : Nat) (h : j + 1 = l.length) (he : j % 2 = 0) :
    raw true l = raw true (l.take j) + (l.getD j 0).toNat * 256 := by
  have e1 : (l.take j).length = j := by simp; omega
  have e := raw_snoc true (l.take j) (l.getD j 0)
  rw [← take_succ_getD l j 0 (by omega), h, List.take_length, e1, side, if_pos he] at e
  simpa using e

set_option maxHeartbeats 1000000 in
theorem refSum_c (a : Option Addr) (n cap : Nat) (l : List UInt8) (w : World) (hp : Bytes w a n cap l) :
    Calls Try.prog 78 #[.slice a n cap] w fun e w' => e = .returned (.int .i64 (sumB l)) ∧ w = w' := by
  have hl := hid hp.len
  have hle := hp.le
  have hroom := hp.room
  have hcap := hp.capr
  go_enter Try.func78, Try.ntmps78
  go_wp2
  go_loopg [3, 4] (n + 2) (fun g v3 v4 wx => ∃ j : Nat, n + 2 ≤ j + g ∧ j % 2 = 0 ∧ j ≤ n + 1 ∧ v3 = .int .i64 (fld (raw true (l.take j) : Int)) ∧ v4 = .int .i64 j ∧ w = wx)
  case atStart => exact ⟨0, by omega, rfl, by omega, by simp [fld], rfl, rfl⟩
  case round =>
    obtain ⟨j, hjg, hj2, hjn, rfl, rfl, rfl⟩ := hrel
    have hfb := fld_bd (raw true (l.take j) : Int)
    by_cases hlt : j < n
    · have hlt' : (j : Int) < (n : Int) := by omega
      obtain ⟨b, off, rfl, hc⟩ := hp.at (by omega)
      have hc0 := hc j hlt
      have hx := (l.getD j 0).toNat_lt
      obtain ⟨g, rfl⟩ : ∃ m, gk = m + 1 := ⟨gk - 1, by omega⟩
      have hl2 := hl.out
      by_cases hlt1 : j + 1 < n
      · have hlt1' : (j : Int) + 1 < (n : Int) := by omega
        have hc1 := hc (j + 1) hlt1
        have hx1 := (l.getD (j + 1) 0).toNat_lt
        have HR := hid (raw_take2 l j (by omega) hj2)
        have HJ := hid hj2
        clear hl2 hc hj2
        generalize l.getD j 0 = x0 at *
        generalize l.getD (j + 1) 0 = x1 at *
        go_wp2_with (go_at_call 87; refine (added_c _ (by omega) (by omega) _).mono ?_; rintro e w' ⟨rfl, rfl⟩)
        go_roundg g
        case measure => omega
        case rel =>
          refine ⟨j + 2, by omega, by have := HJ.out; omega, by omega, ?_, by go_num, rfl⟩
          rw [HR.out, fld_add _ _ (by omega) (by omega)]; go_num
      · have hlt1' : ¬ (j : Int) + 1 < (n : Int) := by omega
        have HR := hid (raw_take1 l j (by omega) hj2)
        have HJ := hid hj2
        clear hl2 hc hj2
        generalize l.getD j 0 = x0 at *
        go_wp2_with (go_at_call 87; refine (added_c _ (by omega) (by omega) _).mono ?_; rintro e w' ⟨rfl, rfl⟩)
        go_roundg g
        case measure => omega
        case rel =>
          refine ⟨j + 2, by omega, by have := HJ.out; omega, by omega, ?_, by go_num, rfl⟩
          rw [show l.take (j + 2) = l from List.take_of_length_le (by have := hl.out; omega), HR.out, fld_add _ _ (by omega) (by omega)]; go_num
    · have hlt' : ¬ (j : Int) < (n : Int) := by omega
      have HJ := hid hj2
      clear hj2
      go_wp2
      go_ret
      refine ⟨ret_int ?_, rfl⟩
      unfold sumB
      rw [List.take_of_length_le (by have := hl.out; omega)]

/-- a sum when bytes change, pair by pair -/
def chg : Int → List UInt8 → List UInt8 → Int
  | s, a :: b :: t, c :: d :: t' => chg (upd s (a.toNat * 256 + b.toNat : Nat) (c.toNat * 256 + d.toNat : Nat)) t t'
  | s, _, _ => s

theorem chg_bd (s : Int) (l m : List UInt8) (h : 0 ≤ s ∧ s ≤ 65535) : 0 ≤ chg s l m ∧ chg s l m ≤ 65535 := by
  fun_induction chg s l m with
  | case1 s a b t c d t' ih => exact ih (upd_bd _ _ _)
  | case2 s l m hne => exact h

theorem chg_take (s : Int) (l m : List UInt8) (k : Nat) (h : k % 2 = 0) (hl : k + 1 < l.length) (hm : k + 1 < m.length) :
    chg s (l.take (k + 2)) (m.take (k + 2)) = upd (chg s (l.take k) (m.take k)) ((l.getD k 0).toNat * 256 + (l.getD (k + 1) 0).toNat : Nat) ((m.getD k 0).toNat * 256 + (m.getD (k + 1) 0).toNat : Nat) := by
  obtain ⟨q, rfl⟩ : ∃ q, k = 2 * q := ⟨k / 2, by omega⟩
  clear h
  induction q generalizing s l m with
  | zero =>
    match l, m with
    | a :: b :: t, c :: d :: t' => simp [chg]
    | [], _ => simp at hl
    | [_], _ => simp at hl
    | _, [] => simp at hm
    | _, [_] => simp at hm
  | succ q ih =>
    match l, m with
    | a :: b :: t, c :: d :: t' =>
      simp only [List.length_cons] at hl hm
      have := ih (upd s (a.toNat * 256 + b.toNat : Nat) (c.toNat * 256 + d.toNat : Nat)) t t' (by omega) (by omega)
      rw [show 2 * (q + 1) = 2 * q + 2 from by omega]
      simpa [chg] using this
    | [], _ => simp at hl
    | [_], _ => simp at hl
    | _, [] => simp at hm
    | _, [_] => simp at hm

theorem or16 (x y : UInt8) : bits .or .u16 ((x.toNat : Int) * 256) (y.toNat : Int) = ((x.toNat * 256 + y.toNat : Nat) : Int) := by
  have hx := x.toNat_lt
  have hy := y.toNat_lt
  rw [u16_or _ _ (by omega) (by omega) (by omega) (by omega)]
  rw [show ((x.toNat : Int) * 256).toNat = x.toNat * 2 ^ 8 from by omega, Int.toNat_natCast]
  rw [show x.toNat * 2 ^ 8 = 2 ^ 8 * x.toNat from by omega, ← Nat.two_pow_add_eq_or_of_lt (by omega)]



end Go.Proofs.Ytnbbaemijogeoaa
