/- What cksum.Sum, and its reference, come to. -/
import Derived.Test.YtnbbaemijogeoaaCk
namespace Go.Proofs.Ytnbbaemijogeoaa
open Go.RowKit

def tot (ls : List (List UInt8)) (k : Nat) : List UInt8 := (ls.take k).flatten
theorem tot_succ (ls : List (List UInt8)) (k : Nat) (h : k < ls.length) : tot ls (k + 1) = tot ls k ++ ls.getD k [] := by
  unfold tot; rw [take_succ_getD ls k [] h]; simp
theorem tot_all (ls : List (List UInt8)) : tot ls ls.length = ls.flatten := by unfold tot; simp
theorem tot_le (ls : List (List UInt8)) (k : Nat) : (tot ls k).length ≤ ls.flatten.length := by
  have h := congrArg List.length (congrArg List.flatten (List.take_append_drop k ls))
  rw [List.flatten_append, List.length_append] at h
  unfold tot; omega

set_option maxHeartbeats 1000000 in
theorem sum_c (a : Option Addr) (n cap : Nat) (ls : List (List UInt8)) (w : World) (hp : Parts w a n cap ls) (hn : n ≤ 1000) (hb : ls.flatten.length ≤ 562949953421312) :
    Calls Try.prog 83 #[.slice a n cap] w fun e w' => e = .returned (.int .u16 (sumB ls.flatten)) ∧ w = w' := by
  go_enter Try.func83, Try.ntmps83
  go_wp2
  go_step3
  go_wp2
  go_step3
  go_wp2
  go_loopg [3, 4, 11] n (fun g v3 v4 v11 wx => ∃ k : Nat, k + g = n ∧ v3 = .int .u64 (raw true (tot ls k) : Int) ∧ v4 = .bool (side true (tot ls k).length) ∧ v11 = .int .i64 k ∧ w = wx)
  case atStart => exact ⟨0, by omega, rfl, rfl, rfl, rfl⟩
  case round =>
    obtain ⟨k, hkg, rfl, rfl, rfl, rfl⟩ := hrel
    have hrb := raw_bd true (tot ls k)
    have htl := tot_le ls k
    cases gk with
    | zero =>
      have hkn : ¬ ((k : Int) < (n : Int)) := by omega
      go_wp2_with (go_at_call 90; refine (fold_c _ (by omega) (by omega) _).mono ?_; rintro e w' ⟨rfl, rfl⟩)
      rw [Exit.noGoto_ret]
      go_ret
      refine ⟨ret_int ?_, rfl⟩
      have hk : k = ls.length := by have := hp.len; omega
      unfold sumB; rw [hk, tot_all]
    | succ g =>
      have hkn : (k : Int) < (n : Int) := by omega
      obtain ⟨b, off, rfl, hc⟩ := hp.cells (by omega)
      obtain ⟨x, m, c, hcell, hB⟩ := hc k (by omega)
      have hml := hB.len
      have hmr := hB.room
      have hts := hid (tot_succ ls k (by have := hp.len; omega))
      have hmx := tot_le ls (k + 1)
      rw [tot_succ ls k (by have := hp.len; omega), List.length_append, ← hml] at hmx
      by_cases hm : m = 0
      · subst hm
        have hnil : ls.getD k [] = [] := by cases h : ls.getD k [] with | nil => rfl | cons _ _ => rw [h] at hml; simp at hml
        have HN := hid hnil
        clear hnil hml hB hc
        go_wp2
        go_roundg g
        case measure => omega
        case rel => exact ⟨k + 1, by omega, by rw [hts.out, HN.out, List.append_nil], by rw [hts.out, HN.out, List.append_nil], by go_num, rfl⟩
      · have hm0 : ((m : Int) == 0) = false := by simp; omega
        obtain ⟨b2, off2, rfl, hc2⟩ := hB.at (by omega)
        have HM := hid hml
        clear hml hc hB hrb htl
        generalize hL : ls.getD k [] = L at *
        generalize hT : tot ls k = T at *
        clear hL hT
        go_wp2
        go_loopg [3, 4, 20] m (fun g2 v3 v4 v20 wx => ∃ j : Nat, j + g2 = m ∧ v3 = .int .u64 (raw true (T ++ L.take j) : Int) ∧ v4 = .bool (side true (T.length + j)) ∧ v20 = .int .i64 j ∧ w = wx)
        case atStart => exact ⟨0, by omega, by simp, by simp, rfl, rfl⟩
        case round =>
          obtain ⟨j, hjg, rfl, rfl, rfl, rfl⟩ := hrel
          cases gk with
          | zero =>
            have hjm : ¬ ((j : Int) < (m : Int)) := by omega
            go_wp2
            go_roundg g
            case measure => omega
            case rel =>
              have hj : j = L.length := by have := HM.out; omega
              exact ⟨k + 1, by omega, by rw [hts.out, hj, List.take_length], by rw [hts.out, hj, List.length_append], by go_num, rfl⟩
          | succ g2 =>
            have hjm : (j : Int) < (m : Int) := by omega
            have hcj := hc2 j (by omega)
            have hjL : j < L.length := by have := HM.out; omega
            have hsn := hid (show raw true (T ++ L.take (j + 1)) = raw true (T ++ L.take j) + (if side true (T.length + j) then (L.getD j 0).toNat * 256 else (L.getD j 0).toNat) by
              rw [take_succ_getD L j 0 hjL, ← List.append_assoc, raw_snoc]; simp [List.length_take, Nat.min_eq_left (Nat.le_of_lt hjL)])
            have hbd : 2 * raw true (T ++ L.take j) ≤ 65535 * 562949953421312 + 65025 := by
              have h1 := raw_bd true (T ++ L.take j)
              have h2 : (T ++ L.take j).length ≤ T.length + m := by simp only [List.length_append, List.length_take]; omega
              omega
            have hss := hid (side_succ true (T.length + j))
            have hx := (L.getD j 0).toNat_lt
            generalize hG : L.getD j 0 = y at *
            clear hG hc2 hjL
            cases hsd : side true (T.length + j)
            all_goals
              have HS := hid hsd
              clear hsd
              go_wp2
              go_roundg g2
              case measure => omega
              case rel =>
                refine ⟨j + 1, by omega, ?_, ?_, by go_num, rfl⟩
                · have e := hsn.out
                  rw [HS.out] at e
                  rw [e]
                  simp only [Bool.false_eq_true, if_false, if_true]
                  go_num
                · rw [← Nat.add_assoc, hss.out, HS.out]; rfl


theorem good_c (a : Option Addr) (n cap : Nat) (ls : List (List UInt8)) (w : World) (hp : Parts w a n cap ls) (hn : n ≤ 1000) (hb : ls.flatten.length ≤ 562949953421312) :
    Calls Try.prog 64 #[.slice a n cap] w fun e w' => e = .returned (.bool (sumB ls.flatten == 65535)) ∧ w = w' := by
  have hf := sumB_bd ls.flatten
  go_enter Try.func64, Try.ntmps64
  go_wp2_with (go_at_call 83; refine (sum_c _ _ _ _ _ hp hn hb).mono ?_; rintro e w' ⟨rfl, rfl⟩)
  go_ret
  exact ⟨rfl, rfl⟩
theorem sum_is (a : Option Addr) (n cap : Nat) (ls : List (List UInt8)) (s : Int) (w : World) (hs : sumB ls.flatten = s) (hp : Parts w a n cap ls) (hn : n ≤ 1000) (hb : ls.flatten.length ≤ 562949953421312) :
    Calls Try.prog 83 #[.slice a n cap] w fun e w' => e = .returned (.int .u16 s) ∧ w = w' := hs ▸ sum_c a n cap ls w hp hn hb
theorem good_is (a : Option Addr) (n cap : Nat) (ls : List (List UInt8)) (s : Bool) (w : World) (hs : (sumB ls.flatten == 65535) = s) (hp : Parts w a n cap ls) (hn : n ≤ 1000) (hb : ls.flatten.length ≤ 562949953421312) :
    Calls Try.prog 64 #[.slice a n cap] w fun e w' => e = .returned (.bool s) ∧ w = w' := hs ▸ good_c a n cap ls w hp hn hb
theorem sum_v {v : Value} {w : World} {ls : List (List UInt8)} (h : PartsV ls v w) (hb : ls.flatten.length ≤ 562949953421312) :
    Calls Try.prog 83 #[v] w fun e w' => e = .returned (.int .u16 (sumB ls.flatten)) ∧ w = w' := by
  obtain ⟨a, n, c, rfl, hn, hp⟩ := h
  exact sum_c a n c ls w hp hn hb

theorem sum_vis {v : Value} {w : World} {ls : List (List UInt8)} {s : Int} (hs : sumB ls.flatten = s) (h : PartsV ls v w) (hb : ls.flatten.length ≤ 562949953421312) :
    Calls Try.prog 83 #[v] w fun e w' => e = .returned (.int .u16 s) ∧ w = w' := hs ▸ sum_v h hb

theorem good_vis {v : Value} {w : World} {ls : List (List UInt8)} {s : Bool} (hs : (sumB ls.flatten == 65535) = s) (h : PartsV ls v w) (hb : ls.flatten.length ≤ 562949953421312) :
    Calls Try.prog 64 #[v] w fun e w' => e = .returned (.bool s) ∧ w = w' := by
  obtain ⟨a, n, c, rfl, hn, hp⟩ := h
  exact hs ▸ good_c a n c ls w hp hn hb
end Go.Proofs.Ytnbbaemijogeoaa
