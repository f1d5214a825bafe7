/- Contract of chapter 2's Decode. -/
import Derived.Test.YtlmidhmpolopdaaEtB
import Derived.Test.YtlmidhmpolopdaaConv
import Derived.Test.YtlmidhmpolopdaaBlock
import Derived.Test.YtlmidhmpolopdaaBits
import Derived.Test.YtlmidhmpolopdaaFrame
import Derived.RegionTactic
import Derived.ChangeAlike
namespace Go.Proofs.Ytlmidhmpolopdaa
open Go.RowKit

abbrev frame0 : Value := .agg #[.int .u8 0, .int .u8 0, .int .u8 0, .int .u8 0, .int .u8 0, .int .u8 0, .int .u8 0, .int .u8 0, .int .u8 0, .int .u8 0, .int .u8 0, .int .u8 0, .int .i64 0, .string ⟨#[]⟩]

set_option maxHeartbeats 2000000 in
theorem decode_long (a b c d e f a' b' c' d' e' f' y1 y2 : UInt8) (r : List UInt8) (p off n q : Nat) (w : World) (hB : Bytes w (some ⟨p, off, none⟩) n q ([a, b, c, d, e, f, a', b', c', d', e', f', y1, y2] ++ r)) (h1 : n ≤ 1514) (t : Nat) (ht : t = y1.toNat * 256 + y2.toNat) (R : Value) (hR : R = .tuple (if 1536 ≤ t then #[frameV a b c d e f a' b' c' d' e' f' t ⟨r.toArray⟩, .int .i64 0] else #[frame0, .int .i64 1])) :
    Calls Try.prog 15 #[.slice (some ⟨p, off, none⟩) n q] w fun x w' => x = .returned R ∧ Ext w w' := by
  have hle := hB.le
  have hroom := hB.room
  have hcap := hB.capr
  have hl : n = 14 + r.length := by have := hB.len; simp at this; omega
  have q1 : ((n : Int) < 14) = False := by simp; omega
  have q2 : ((1514 : Int) < (n : Int)) = False := by simp; omega
  have q3 : (12 : Int) < (n : Int) := by omega
  have q4 : (13 : Int) < (n : Int) := by omega
  have q5 : (14 : Int) ≤ (n : Int) := by omega
  have B14 : Bytes w (if q = 14 then some ⟨p, off, none⟩ else some ⟨p, off + 14, none⟩) (n - 14) (q - 14) r := by
    have := hB.subIf 14 n (by omega) (Nat.le_refl _)
    rw [show (([a, b, c, d, e, f, a', b', c', d', e', f', y1, y2] ++ r).take n).drop 14 = r by rw [List.take_of_length_le (by simp; omega)]; rfl] at this
    exact this
  have y1' : w.cell? ⟨p, off + 12, none⟩ = some (.int .u8 (y1.toNat : Int)) := hB.cell 12 (by omega) rfl
  have y2' : w.cell? ⟨p, off + 13, none⟩ = some (.int .u8 (y2.toNat : Int)) := hB.cell 13 (by omega) rfl
  have b12 := cell_below (below_alloc w (.cells #[.int .u8 0, .int .u8 0, .int .u8 0, .int .u8 0, .int .u8 0, .int .u8 0, .int .u8 0, .int .u8 0, .int .u8 0, .int .u8 0, .int .u8 0, .int .u8 0, .int .i64 0, .string ⟨#[]⟩] 30)) y1'
  have b13 := cell_below (below_alloc w (.cells #[.int .u8 0, .int .u8 0, .int .u8 0, .int .u8 0, .int .u8 0, .int .u8 0, .int .u8 0, .int .u8 0, .int .u8 0, .int .u8 0, .int .u8 0, .int .u8 0, .int .i64 0, .string ⟨#[]⟩] 30)) y2'
  have c12 := cell_below (below_alloc _ (.cells #[.int .u8 0, .int .u8 0, .int .u8 0, .int .u8 0, .int .u8 0, .int .u8 0, .int .u8 0, .int .u8 0, .int .u8 0, .int .u8 0, .int .u8 0, .int .u8 0, .int .i64 0, .string ⟨#[]⟩] 30)) b12
  have c13 := cell_below (below_alloc _ (.cells #[.int .u8 0, .int .u8 0, .int .u8 0, .int .u8 0, .int .u8 0, .int .u8 0, .int .u8 0, .int .u8 0, .int .u8 0, .int .u8 0, .int .u8 0, .int .u8 0, .int .i64 0, .string ⟨#[]⟩] 30)) b13
  clear y1' y2'
  have s1 := conv_string (P := Try.prog) Try.underlying26 Try.underlying5 Try.underlying9 ((B14.ext (below_alloc w (.cells #[.int .u8 0, .int .u8 0, .int .u8 0, .int .u8 0, .int .u8 0, .int .u8 0, .int .u8 0, .int .u8 0, .int .u8 0, .int .u8 0, .int .u8 0, .int .u8 0, .int .i64 0, .string ⟨#[]⟩] 30))).ext (Ext.refl _).drew)
  have s2 := conv_string (P := Try.prog) Try.underlying26 Try.underlying5 Try.underlying9 ((B14.ext (((Ext.refl w).alloc (.cells #[.int .u8 0, .int .u8 0, .int .u8 0, .int .u8 0, .int .u8 0, .int .u8 0, .int .u8 0, .int .u8 0, .int .u8 0, .int .u8 0, .int .u8 0, .int .u8 0, .int .i64 0, .string ⟨#[]⟩] 30)).alloc (.cells #[.int .u8 0, .int .u8 0, .int .u8 0, .int .u8 0, .int .u8 0, .int .u8 0, .int .u8 0, .int .u8 0, .int .u8 0, .int .u8 0, .int .u8 0, .int .u8 0, .int .i64 0, .string ⟨#[]⟩] 30))).ext (Ext.refl _).drew)
  have HR0 := hid hR
  clear hR
  have HL := hid hl
  have hT := or_two y1 y2
  rw [← ht] at hT
  have BA : Hid (Bytes w (some ⟨p, off, none⟩) 6 q [a, b, c, d, e, f]) := hid (hB.take 6 (by omega))
  have BB : Hid (Bytes w (some ⟨p, off + 6, none⟩) 6 (q - 6) [a', b', c', d', e', f']) := by
    have := ((hB.sub 6 n (off + 6) (n - 6) (q - 6) (by omega) (Nat.le_refl _) (fun _ => rfl) rfl (by omega)).take 6 (by omega))
    have e1 : ([a, b, c, d, e, f, a', b', c', d', e', f', y1, y2] ++ r).take n = [a, b, c, d, e, f, a', b', c', d', e', f', y1, y2] ++ r := List.take_of_length_le (by simp; omega)
    rw [e1] at this
    exact hid this
  clear hl B14 hB ht
  go_enter Try.func15, Try.ntmps15
  go_wp2_with fail
  go_region
  all_goals
    obtain ⟨X3, HR, HF⟩ := two_blocks w [.int .u8 0, .int .u8 0, .int .u8 0, .int .u8 0, .int .u8 0, .int .u8 0, .int .u8 0, .int .u8 0, .int .u8 0, .int .u8 0, .int .u8 0, .int .u8 0, .int .i64 0, .string ⟨#[]⟩] [.int .u8 0, .int .u8 0, .int .u8 0, .int .u8 0, .int .u8 0, .int .u8 0, .int .u8 0, .int .u8 0, .int .u8 0, .int .u8 0, .int .u8 0, .int .u8 0, .int .i64 t, .string ⟨r.toArray⟩] 30 30
    have R3 := hid HR
    have F3 := hid HF
    generalize (if q = 14 then some (⟨p, off, none⟩ : Addr) else some ⟨p, off + 14, none⟩) = dp at *
    have h6 := hid (show 6 = Nat.min n 6 from (Nat.min_eq_right (by have := HL.out; omega)).symm)
    have q6 : (q = 6) = False := by have := HL.out; simp; omega
    have q7 : (6 : Int) ≤ (n : Int) := by have := HL.out; omega
    clear HR HF s1 s2 b12 b13 c12 c13 hT q3 q4 q5 q1 q2
    go_wp2_with (first
      | go_loud (refine wpList_copy_block (off := 0) rfl (.tmp 29) (.tmp 30) 26 26 5 rfl Try.underlying26 (by kernel_rfl) rfl rfl F3.out (BA.out.ext X3) (by decide) h6.out [B8 a, B8 b, B8 c, B8 d, B8 e, B8 f, .int .u8 0, .int .u8 0, .int .u8 0, .int .u8 0, .int .u8 0, .int .u8 0, .int .i64 t, .string ⟨r.toArray⟩] (by simp) rfl ?_; intro w4 F4 o4))
    have X4 : Ext w w4 := Below.trans X3 (o4.below (by omega))
    have R4 := o4.holds (by omega) R3.out
    have FF := hid F4
    have RR := hid R4
    have h6' := hid (show 6 = Nat.min (n - 6) 6 from (Nat.min_eq_right (by have := HL.out; omega)).symm)
    clear X3 R3 F3 h6 R4 F4 o4
    simp only [Act.put, List.setIfInBounds_toArray, List.set_cons_succ, List.set_cons_zero]
    refine wp_region_ex 4 (fun _ => True) (by kernel_rfl) (by kernel_rfl) (by kernel_rfl) (fun _ _ => trivial) ?_
    iterate 4 apply Exists.intro
    refine ⟨?ztxt, ?zgood⟩
    case ztxt =>
      simp only [List.take_succ_cons, List.take_zero]
      apply Txt.on rfl rfl
      · intro w1 hx hk hp
        go_simp
        exact ⟨Ext.refl _, rfl⟩
      simp only [Act.put, List.setIfInBounds_toArray, List.set_cons_succ, List.set_cons_zero]
      apply Txt.on rfl rfl
      · intro w1 hx hk hp
        go_simp
        exact ⟨Ext.refl _, rfl⟩
      simp only [Act.put, List.setIfInBounds_toArray, List.set_cons_succ, List.set_cons_zero]
      apply Txt.on rfl rfl
      · intro w1 hx hk hp; exact ⟨Ext.refl _, rfl⟩
      simp only [Act.put, List.setIfInBounds_toArray, List.set_cons_succ, List.set_cons_zero]
      apply Txt.on rfl rfl
      · intro w1 hx hk hp
        go_simp
        exact ⟨Ext.refl _, rfl⟩
      simp only [Act.put, List.setIfInBounds_toArray, List.set_cons_succ, List.set_cons_zero]
      intro w1 hx hk hp
      simp only [List.drop_succ_cons, List.drop_zero]
      refine wpList_copy_block (off := 6) rfl (.tmp 33) (.tmp 35) 26 26 5 rfl Try.underlying26 (by kernel_rfl) rfl rfl (FF.out.ext hx) (BB.out.ext (X4.trans hx)) (by decide) h6'.out [B8 a, B8 b, B8 c, B8 d, B8 e, B8 f, B8 a', B8 b', B8 c', B8 d', B8 e', B8 f', .int .i64 t, .string ⟨r.toArray⟩] (by simp) rfl ?_
      intro w5 F5 o5
      have X5 : Ext w w5 := Below.trans (X4.trans hx) (o5.below (by omega))
      have R5 := hid (o5.holds (by omega) (RR.out.ext hx))
      obtain ⟨m0, m1, m2, m3, m4, m5, m6, m7, m8, m9, m10, m11, m12, m13⟩ := cells14 (show _ = _ from F5)
      clear h6' FF RR
      by_cases ht : t < 1536
      · have q8 : ((t : Int) < 1536) = True := by simp; omega
        have hR := HR0.out
        rw [if_neg (by omega)] at hR
        subst hR
        clear F5
        go_wp2_with (refine wpList_store_block rfl (.tmp 2) (.tmp 40) 30 rfl (cs := [.int .u8 0, .int .u8 0, .int .u8 0, .int .u8 0, .int .u8 0, .int .u8 0, .int .u8 0, .int .u8 0, .int .u8 0, .int .u8 0, .int .u8 0, .int .u8 0, .int .i64 0, .string ⟨#[]⟩]) rfl rfl R5.out (by kernel_rfl) rfl rfl ?_; intro w6 F6 o6; obtain ⟨n0, n1, n2, n3, n4, n5, n6, n7, n8, n9, n10, n11, n12, n13⟩ := cells14 (show _ = _ from F6))
        refine bodyPost_ret ?_ rfl ⟨rfl, ?_⟩
        · rw [results_cell_tmp rfl]
          go_simp
        · exact Below.trans X5 (o6.below (Nat.le_refl _))
      · have q8 : ((t : Int) < 1536) = False := by simp; omega
        have hR := HR0.out
        rw [if_pos (by omega)] at hR
        subst hR
        clear F5
        go_wp2_with (refine wpList_store_block rfl (.tmp 2) (.tmp 41) 30 rfl (cs := [B8 a, B8 b, B8 c, B8 d, B8 e, B8 f, B8 a', B8 b', B8 c', B8 d', B8 e', B8 f', .int .i64 t, .string ⟨r.toArray⟩]) rfl rfl R5.out (by kernel_rfl) rfl rfl ?_; intro w6 F6 o6; obtain ⟨n0, n1, n2, n3, n4, n5, n6, n7, n8, n9, n10, n11, n12, n13⟩ := cells14 (show _ = _ from F6))
        refine bodyPost_ret ?_ rfl ⟨rfl, ?_⟩
        · rw [results_cell_tmp rfl]
          go_simp
        · exact Below.trans X5 (o6.below (Nat.le_refl _))
    case zgood => exact ⟨GoodG.const _, GoodG.const _, GoodG.const _, GoodG.const _, trivial⟩
end Go.Proofs.Ytlmidhmpolopdaa
