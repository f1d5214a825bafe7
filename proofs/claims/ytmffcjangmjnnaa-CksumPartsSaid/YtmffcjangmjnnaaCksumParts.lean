/- CksumParts: in how many parts the bytes stand is not seen. No condition. -/
import Derived.Test.YtmffcjangmjnnaaL01a
import Derived.Test.YtmffcjangmjnnaaRegV
namespace Go.Proofs.Ytmffcjangmjnnaa
open Go.RowKit

theorem parts3 (l : List UInt8) (i j : Nat) (h : i ≤ j) : [l.take i, (l.take j).drop i, (l.take l.length).drop j].flatten = l := by
  simp only [List.flatten_cons, List.flatten_nil, List.append_nil, List.take_length]
  rw [← List.append_assoc]
  have e : l.take i = (l.take j).take i := by rw [List.take_take, Nat.min_eq_left h]
  rw [e, List.take_append_drop, List.take_append_drop]
theorem parts2 (l : List UInt8) (i : Nat) : [l.take i, [], (l.take l.length).drop i].flatten = l := by simp

set_option maxHeartbeats 1000000 in
theorem cksumParts.core (a : Option Addr) (n c : Nat) (l : List UInt8) (i j : Nat) (w : World) (hB : Bytes w a n c l) (h1 : i ≤ j) (h2 : j ≤ n) (hn : 0 < n) :
    Calls Try.prog 3 #[.slice a n c, .int .i64 i, .int .i64 j] w fun e w' => e = .returned (.bool true) ∧ Below w.heap.size w w' := by
  have hle := hB.le
  have hroom := hB.room
  have hcap := hB.capr
  have hll := hB.len
  obtain ⟨b, off, rfl, hc⟩ := hB.at hn
  have q1 : ((i : Int) < 0) = False := by simp
  have q2 : ((j : Int) < (i : Int)) = False := by simp; omega
  have q3 : ((n : Int) < (j : Int)) = False := by simp; omega
  have q4 : max (j : Int) 0 = (j : Int) := by omega
  have q5 : (i : Int) ≤ (j : Int) := by omega
  have q6 : (j : Int) ≤ (c : Int) := by omega
  have q7 : (i : Int) ≤ (c : Int) := by omega
  have q8 : (i : Int) ≤ (n : Int) := by omega
  have hlen : [l].flatten.length ≤ 562949953421312 := by simp [← hll]; omega
  have hlen3 : [l.take i, (l.take j).drop i, (l.take n).drop j].flatten.length ≤ 562949953421312 := by simp; omega
  have hlen4 : [l.take i, [], (l.take n).drop i].flatten.length ≤ 562949953421312 := by simp; omega
  have HL := hid hll
  have e1 := hid (show sumB [l].flatten = sumB l by simp)
  have e2 := hid (show sumB [l.take i, (l.take j).drop i, (l.take n).drop j].flatten = sumB l by rw [hll, parts3 l i j h1])
  have e3 := hid (show 65535 - sumB [l].flatten = 65535 - sumB l by simp)
  have e4 := hid (show 65535 - sumB [l.take i, [], (l.take n).drop i].flatten = 65535 - sumB l by rw [hll, parts2 l i])
  have B1 : Bytes w (some ⟨b, off, none⟩) i c (l.take i) := by simpa using hB.sub 0 i off i c (Nat.zero_le _) (by omega) (fun _ => rfl) rfl (by omega)
  have B2 := hB.subIf i j h1 h2
  have B3 := hB.subIf j n h2 (Nat.le_refl _)
  have B4 := hB.subIf i n (by omega) (Nat.le_refl _)
  clear hc hll
  go_enter Try.func3, Try.ntmps3
  go_wp2_with fail
  refine wp_region_ex 33 (fun _ => True) (by kernel_rfl) (by kernel_rfl) (by kernel_rfl) (fun _ _ => trivial) ?_
  iterate 33 apply Exists.intro
  refine ⟨?rtxt, ?rgood⟩
  case rtxt =>
    simp only [List.take_succ_cons, List.take_zero]
    apply Txt.on rfl rfl
    · intro w1 hx hk hp
      go_simp
      exact CallsV.below (alive_c _)
    simp only [Act.put, List.setIfInBounds_toArray, List.set_cons_succ, List.set_cons_zero]
    apply Txt.on rfl rfl
    · intro w1 hx hk hp; exact ⟨Ext.refl _, rfl⟩
    simp only [Act.put, List.setIfInBounds_toArray, List.set_cons_succ, List.set_cons_zero]
    apply Txt.on rfl rfl
    · intro w1 hx hk hp; exact ⟨Ext.refl _, rfl⟩
    simp only [Act.put, List.setIfInBounds_toArray, List.set_cons_succ, List.set_cons_zero]
    refine Txt.eff (PartsV [l]) rfl rfl ?_ ?_
    · intro w1 hx hk hp
      go_simp
      exact ⟨below_alloc _ _, PartsV.mk (.cons (hB.ext hx) .nil) rfl rfl rfl (by decide)⟩
    intro vr3 _
    simp only [Act.put, List.setIfInBounds_toArray, List.set_cons_succ, List.set_cons_zero]
    apply Txt.on rfl rfl
    · intro w1 hx hk hp
      go_simp
      exact CallsV.same (sum_vis e1.out (hp 3 _ rfl rfl) hlen)
    simp only [Act.put, List.setIfInBounds_toArray, List.set_cons_succ, List.set_cons_zero]
    apply Txt.on rfl rfl
    · intro w1 hx hk hp; exact ⟨Ext.refl _, rfl⟩
    simp only [Act.put, List.setIfInBounds_toArray, List.set_cons_succ, List.set_cons_zero]
    apply Txt.on rfl rfl
    · intro w1 hx hk hp; exact ⟨Ext.refl _, rfl⟩
    simp only [Act.put, List.setIfInBounds_toArray, List.set_cons_succ, List.set_cons_zero]
    apply Txt.on rfl rfl
    · intro w1 hx hk hp
      go_simp
      exact ⟨Ext.refl _, rfl⟩
    simp only [Act.put, List.setIfInBounds_toArray, List.set_cons_succ, List.set_cons_zero]
    apply Txt.on rfl rfl
    · intro w1 hx hk hp; exact ⟨Ext.refl _, rfl⟩
    simp only [Act.put, List.setIfInBounds_toArray, List.set_cons_succ, List.set_cons_zero]
    apply Txt.on rfl rfl
    · intro w1 hx hk hp; exact ⟨Ext.refl _, rfl⟩
    simp only [Act.put, List.setIfInBounds_toArray, List.set_cons_succ, List.set_cons_zero]
    apply Txt.on rfl rfl
    · intro w1 hx hk hp; exact ⟨Ext.refl _, rfl⟩
    simp only [Act.put, List.setIfInBounds_toArray, List.set_cons_succ, List.set_cons_zero]
    apply Txt.on rfl rfl
    · intro w1 hx hk hp
      go_simp
      exact ⟨Ext.refl _, rfl⟩
    simp only [Act.put, List.setIfInBounds_toArray, List.set_cons_succ, List.set_cons_zero]
    apply Txt.on rfl rfl
    · intro w1 hx hk hp; exact ⟨Ext.refl _, rfl⟩
    simp only [Act.put, List.setIfInBounds_toArray, List.set_cons_succ, List.set_cons_zero]
    apply Txt.on rfl rfl
    · intro w1 hx hk hp; exact ⟨Ext.refl _, rfl⟩
    simp only [Act.put, List.setIfInBounds_toArray, List.set_cons_succ, List.set_cons_zero]
    apply Txt.on rfl rfl
    · intro w1 hx hk hp
      go_simp
      exact ⟨Ext.refl _, rfl⟩
    simp only [Act.put, List.setIfInBounds_toArray, List.set_cons_succ, List.set_cons_zero]
    refine Txt.eff (PartsV [l.take i, (l.take j).drop i, (l.take n).drop j]) rfl rfl ?_ ?_
    · intro w1 hx hk hp
      go_simp
      exact ⟨below_alloc _ _, PartsV.mk (.cons (B1.ext hx) (.cons (B2.ext hx) (.cons (B3.ext hx) .nil))) rfl rfl rfl (by decide)⟩
    intro vr15 _
    simp only [Act.put, List.setIfInBounds_toArray, List.set_cons_succ, List.set_cons_zero]
    apply Txt.on rfl rfl
    · intro w1 hx hk hp
      go_simp
      exact CallsV.same (sum_vis e2.out (hp 15 _ rfl rfl) hlen3)
    simp only [Act.put, List.setIfInBounds_toArray, List.set_cons_succ, List.set_cons_zero]
    apply Txt.on rfl rfl
    · intro w1 hx hk hp
      go_simp
      exact ⟨Ext.refl _, rfl⟩
    simp only [Act.put, List.setIfInBounds_toArray, List.set_cons_succ, List.set_cons_zero]
    apply Txt.on rfl rfl
    · intro w1 hx hk hp
      go_simp
      exact ⟨Ext.refl _, rfl⟩
    simp only [Act.put, List.setIfInBounds_toArray, List.set_cons_succ, List.set_cons_zero]
    apply Txt.on rfl rfl
    · intro w1 hx hk hp; exact ⟨Ext.refl _, rfl⟩
    simp only [Act.put, List.setIfInBounds_toArray, List.set_cons_succ, List.set_cons_zero]
    apply Txt.on rfl rfl
    · intro w1 hx hk hp; exact ⟨Ext.refl _, rfl⟩
    simp only [Act.put, List.setIfInBounds_toArray, List.set_cons_succ, List.set_cons_zero]
    refine Txt.eff (PartsV [l]) rfl rfl ?_ ?_
    · intro w1 hx hk hp
      go_simp
      exact ⟨below_alloc _ _, PartsV.mk (.cons (hB.ext hx) .nil) rfl rfl rfl (by decide)⟩
    intro vr21 _
    simp only [Act.put, List.setIfInBounds_toArray, List.set_cons_succ, List.set_cons_zero]
    apply Txt.on rfl rfl
    · intro w1 hx hk hp
      go_simp
      exact CallsV.same (put_vis e3.out (hp 21 _ rfl rfl) hlen)
    simp only [Act.put, List.setIfInBounds_toArray, List.set_cons_succ, List.set_cons_zero]
    apply Txt.on rfl rfl
    · intro w1 hx hk hp; exact ⟨Ext.refl _, rfl⟩
    simp only [Act.put, List.setIfInBounds_toArray, List.set_cons_succ, List.set_cons_zero]
    apply Txt.on rfl rfl
    · intro w1 hx hk hp; exact ⟨Ext.refl _, rfl⟩
    simp only [Act.put, List.setIfInBounds_toArray, List.set_cons_succ, List.set_cons_zero]
    apply Txt.on rfl rfl
    · intro w1 hx hk hp
      go_simp
      exact ⟨Ext.refl _, rfl⟩
    simp only [Act.put, List.setIfInBounds_toArray, List.set_cons_succ, List.set_cons_zero]
    apply Txt.on rfl rfl
    · intro w1 hx hk hp; exact ⟨Ext.refl _, rfl⟩
    simp only [Act.put, List.setIfInBounds_toArray, List.set_cons_succ, List.set_cons_zero]
    apply Txt.on rfl rfl
    · intro w1 hx hk hp; exact ⟨Ext.refl _, rfl⟩
    simp only [Act.put, List.setIfInBounds_toArray, List.set_cons_succ, List.set_cons_zero]
    apply Txt.on rfl rfl
    · intro w1 hx hk hp
      go_simp
      exact ⟨Ext.refl _, rfl⟩
    simp only [Act.put, List.setIfInBounds_toArray, List.set_cons_succ, List.set_cons_zero]
    refine Txt.eff (PartsV [l.take i, [], (l.take n).drop i]) rfl rfl ?_ ?_
    · intro w1 hx hk hp
      go_simp
      exact ⟨below_alloc _ _, PartsV.mk (.cons (B1.ext hx) (.cons (Bytes.nil _) (.cons (B4.ext hx) .nil))) rfl rfl rfl (by decide)⟩
    intro vr29 _
    simp only [Act.put, List.setIfInBounds_toArray, List.set_cons_succ, List.set_cons_zero]
    apply Txt.on rfl rfl
    · intro w1 hx hk hp
      go_simp
      exact CallsV.same (put_vis e4.out (hp 29 _ rfl rfl) hlen4)
    simp only [Act.put, List.setIfInBounds_toArray, List.set_cons_succ, List.set_cons_zero]
    apply Txt.on rfl rfl
    · intro w1 hx hk hp
      go_simp
      exact ⟨Ext.refl _, rfl⟩
    simp only [Act.put, List.setIfInBounds_toArray, List.set_cons_succ, List.set_cons_zero]
    apply Txt.on rfl rfl
    · intro w1 hx hk hp
      go_simp
      exact ⟨Ext.refl _, rfl⟩
    simp only [Act.put, List.setIfInBounds_toArray, List.set_cons_succ, List.set_cons_zero]
    intro w1 hx hk hp
    simp only [List.drop_succ_cons, List.drop_zero]
    go_wp2
    all_goals (go_ret; exact ⟨rfl, hx⟩)
  case rgood => exact ⟨GoodG.const _, GoodG.const _, GoodG.const _, (good_parts _ (by simp) (by simp [← HL.out]; omega)), GoodG.const _, GoodG.const _, GoodG.const _, GoodG.const _, GoodG.const _, GoodG.const _, GoodG.const _, GoodG.const _, GoodG.const _, GoodG.const _, GoodG.const _, (good_parts _ (by simp) (by simp; omega)), GoodG.const _, GoodG.const _, GoodG.const _, GoodG.const _, GoodG.const _, (good_parts _ (by simp) (by simp [← HL.out]; omega)), GoodG.const _, GoodG.const _, GoodG.const _, GoodG.const _, GoodG.const _, GoodG.const _, GoodG.const _, (good_parts _ (by simp) (by simp; omega)), GoodG.const _, GoodG.const _, GoodG.const _, trivial⟩

set_option maxHeartbeats 1000000 in
theorem cksumParts.core0 (a : Option Addr) (c : Nat) (w : World) (hroom : c ≤ 9223372036854775807) :
    Calls Try.prog 3 #[.slice a 0 c, .int .i64 0, .int .i64 0] w fun e w' => e = .returned (.bool true) ∧ Below w.heap.size w w' := by
  have hlen : ([[]] : List (List UInt8)).flatten.length ≤ 562949953421312 := by simp
  have hlen3 : ([[], [], []] : List (List UInt8)).flatten.length ≤ 562949953421312 := by simp
  have E := Bytes.empty
  go_enter Try.func3, Try.ntmps3
  go_wp2_with fail
  refine wp_region_ex 33 (fun _ => True) (by kernel_rfl) (by kernel_rfl) (by kernel_rfl) (fun _ _ => trivial) ?_
  iterate 33 apply Exists.intro
  refine ⟨?rtxt, ?rgood⟩
  case rtxt =>
    simp only [List.take_succ_cons, List.take_zero]
    apply Txt.on rfl rfl
    · intro w1 hx hk hp
      go_simp
      exact CallsV.below (alive_c _)
    simp only [Act.put, List.setIfInBounds_toArray, List.set_cons_succ, List.set_cons_zero]
    apply Txt.on rfl rfl
    · intro w1 hx hk hp; exact ⟨Ext.refl _, rfl⟩
    simp only [Act.put, List.setIfInBounds_toArray, List.set_cons_succ, List.set_cons_zero]
    apply Txt.on rfl rfl
    · intro w1 hx hk hp; exact ⟨Ext.refl _, rfl⟩
    simp only [Act.put, List.setIfInBounds_toArray, List.set_cons_succ, List.set_cons_zero]
    refine Txt.eff (PartsV [[]]) rfl rfl ?_ ?_
    · intro w1 hx hk hp
      go_simp
      exact ⟨below_alloc _ _, PartsV.mk (.cons (E _ _ _ hroom) .nil) rfl rfl rfl (by decide)⟩
    intro vr3 _
    simp only [Act.put, List.setIfInBounds_toArray, List.set_cons_succ, List.set_cons_zero]
    apply Txt.on rfl rfl
    · intro w1 hx hk hp
      go_simp
      exact CallsV.same (sum_vis (s := 0) rfl (hp 3 _ rfl rfl) hlen)
    simp only [Act.put, List.setIfInBounds_toArray, List.set_cons_succ, List.set_cons_zero]
    apply Txt.on rfl rfl
    · intro w1 hx hk hp; exact ⟨Ext.refl _, rfl⟩
    simp only [Act.put, List.setIfInBounds_toArray, List.set_cons_succ, List.set_cons_zero]
    apply Txt.on rfl rfl
    · intro w1 hx hk hp; exact ⟨Ext.refl _, rfl⟩
    simp only [Act.put, List.setIfInBounds_toArray, List.set_cons_succ, List.set_cons_zero]
    apply Txt.on rfl rfl
    · intro w1 hx hk hp
      go_simp
      exact ⟨Ext.refl _, rfl⟩
    simp only [Act.put, List.setIfInBounds_toArray, List.set_cons_succ, List.set_cons_zero]
    apply Txt.on rfl rfl
    · intro w1 hx hk hp; exact ⟨Ext.refl _, rfl⟩
    simp only [Act.put, List.setIfInBounds_toArray, List.set_cons_succ, List.set_cons_zero]
    apply Txt.on rfl rfl
    · intro w1 hx hk hp; exact ⟨Ext.refl _, rfl⟩
    simp only [Act.put, List.setIfInBounds_toArray, List.set_cons_succ, List.set_cons_zero]
    apply Txt.on rfl rfl
    · intro w1 hx hk hp; exact ⟨Ext.refl _, rfl⟩
    simp only [Act.put, List.setIfInBounds_toArray, List.set_cons_succ, List.set_cons_zero]
    apply Txt.on rfl rfl
    · intro w1 hx hk hp
      go_simp
      exact ⟨Ext.refl _, rfl⟩
    simp only [Act.put, List.setIfInBounds_toArray, List.set_cons_succ, List.set_cons_zero]
    apply Txt.on rfl rfl
    · intro w1 hx hk hp; exact ⟨Ext.refl _, rfl⟩
    simp only [Act.put, List.setIfInBounds_toArray, List.set_cons_succ, List.set_cons_zero]
    apply Txt.on rfl rfl
    · intro w1 hx hk hp; exact ⟨Ext.refl _, rfl⟩
    simp only [Act.put, List.setIfInBounds_toArray, List.set_cons_succ, List.set_cons_zero]
    apply Txt.on rfl rfl
    · intro w1 hx hk hp
      go_simp
      exact ⟨Ext.refl _, rfl⟩
    simp only [Act.put, List.setIfInBounds_toArray, List.set_cons_succ, List.set_cons_zero]
    refine Txt.eff (PartsV [[], [], []]) rfl rfl ?_ ?_
    · intro w1 hx hk hp
      go_simp
      exact ⟨below_alloc _ _, PartsV.mk (.cons (E _ _ _ hroom) (.cons (E _ _ _ hroom) (.cons (E _ _ _ hroom) .nil))) rfl rfl rfl (by decide)⟩
    intro vr15 _
    simp only [Act.put, List.setIfInBounds_toArray, List.set_cons_succ, List.set_cons_zero]
    apply Txt.on rfl rfl
    · intro w1 hx hk hp
      go_simp
      exact CallsV.same (sum_vis (s := 0) rfl (hp 15 _ rfl rfl) hlen3)
    simp only [Act.put, List.setIfInBounds_toArray, List.set_cons_succ, List.set_cons_zero]
    apply Txt.on rfl rfl
    · intro w1 hx hk hp
      go_simp
      exact ⟨Ext.refl _, rfl⟩
    simp only [Act.put, List.setIfInBounds_toArray, List.set_cons_succ, List.set_cons_zero]
    apply Txt.on rfl rfl
    · intro w1 hx hk hp
      go_simp
      exact ⟨Ext.refl _, rfl⟩
    simp only [Act.put, List.setIfInBounds_toArray, List.set_cons_succ, List.set_cons_zero]
    apply Txt.on rfl rfl
    · intro w1 hx hk hp; exact ⟨Ext.refl _, rfl⟩
    simp only [Act.put, List.setIfInBounds_toArray, List.set_cons_succ, List.set_cons_zero]
    apply Txt.on rfl rfl
    · intro w1 hx hk hp; exact ⟨Ext.refl _, rfl⟩
    simp only [Act.put, List.setIfInBounds_toArray, List.set_cons_succ, List.set_cons_zero]
    refine Txt.eff (PartsV [[]]) rfl rfl ?_ ?_
    · intro w1 hx hk hp
      go_simp
      exact ⟨below_alloc _ _, PartsV.mk (.cons (E _ _ _ hroom) .nil) rfl rfl rfl (by decide)⟩
    intro vr21 _
    simp only [Act.put, List.setIfInBounds_toArray, List.set_cons_succ, List.set_cons_zero]
    apply Txt.on rfl rfl
    · intro w1 hx hk hp
      go_simp
      exact CallsV.same (put_vis (s := 65535) rfl (hp 21 _ rfl rfl) hlen)
    simp only [Act.put, List.setIfInBounds_toArray, List.set_cons_succ, List.set_cons_zero]
    apply Txt.on rfl rfl
    · intro w1 hx hk hp; exact ⟨Ext.refl _, rfl⟩
    simp only [Act.put, List.setIfInBounds_toArray, List.set_cons_succ, List.set_cons_zero]
    apply Txt.on rfl rfl
    · intro w1 hx hk hp; exact ⟨Ext.refl _, rfl⟩
    simp only [Act.put, List.setIfInBounds_toArray, List.set_cons_succ, List.set_cons_zero]
    apply Txt.on rfl rfl
    · intro w1 hx hk hp
      go_simp
      exact ⟨Ext.refl _, rfl⟩
    simp only [Act.put, List.setIfInBounds_toArray, List.set_cons_succ, List.set_cons_zero]
    apply Txt.on rfl rfl
    · intro w1 hx hk hp; exact ⟨Ext.refl _, rfl⟩
    simp only [Act.put, List.setIfInBounds_toArray, List.set_cons_succ, List.set_cons_zero]
    apply Txt.on rfl rfl
    · intro w1 hx hk hp; exact ⟨Ext.refl _, rfl⟩
    simp only [Act.put, List.setIfInBounds_toArray, List.set_cons_succ, List.set_cons_zero]
    apply Txt.on rfl rfl
    · intro w1 hx hk hp
      go_simp
      exact ⟨Ext.refl _, rfl⟩
    simp only [Act.put, List.setIfInBounds_toArray, List.set_cons_succ, List.set_cons_zero]
    refine Txt.eff (PartsV [[], [], []]) rfl rfl ?_ ?_
    · intro w1 hx hk hp
      go_simp
      exact ⟨below_alloc _ _, PartsV.mk (.cons (E _ _ _ hroom) (.cons (Bytes.nil _) (.cons (E _ _ _ hroom) .nil))) rfl rfl rfl (by decide)⟩
    intro vr29 _
    simp only [Act.put, List.setIfInBounds_toArray, List.set_cons_succ, List.set_cons_zero]
    apply Txt.on rfl rfl
    · intro w1 hx hk hp
      go_simp
      exact CallsV.same (put_vis (s := 65535) rfl (hp 29 _ rfl rfl) hlen3)
    simp only [Act.put, List.setIfInBounds_toArray, List.set_cons_succ, List.set_cons_zero]
    apply Txt.on rfl rfl
    · intro w1 hx hk hp
      go_simp
      exact ⟨Ext.refl _, rfl⟩
    simp only [Act.put, List.setIfInBounds_toArray, List.set_cons_succ, List.set_cons_zero]
    apply Txt.on rfl rfl
    · intro w1 hx hk hp
      go_simp
      exact ⟨Ext.refl _, rfl⟩
    simp only [Act.put, List.setIfInBounds_toArray, List.set_cons_succ, List.set_cons_zero]
    intro w1 hx hk hp
    simp only [List.drop_succ_cons, List.drop_zero]
    go_wp2
    all_goals (go_ret; exact ⟨rfl, hx⟩)
  case rgood => exact ⟨GoodG.const _, GoodG.const _, GoodG.const _, (good_parts _ (by simp) (by simp)), GoodG.const _, GoodG.const _, GoodG.const _, GoodG.const _, GoodG.const _, GoodG.const _, GoodG.const _, GoodG.const _, GoodG.const _, GoodG.const _, GoodG.const _, (good_parts _ (by simp) (by simp)), GoodG.const _, GoodG.const _, GoodG.const _, GoodG.const _, GoodG.const _, (good_parts _ (by simp) (by simp)), GoodG.const _, GoodG.const _, GoodG.const _, GoodG.const _, GoodG.const _, GoodG.const _, GoodG.const _, (good_parts _ (by simp) (by simp)), GoodG.const _, GoodG.const _, GoodG.const _, trivial⟩

set_option maxHeartbeats 400000 in
theorem cksumParts.no (a : Option Addr) (n c : Nat) (i j : Int) (w : World) (h : i < 0 ∨ j < i ∨ (n : Int) < j) :
    Calls Try.prog 3 #[.slice a n c, .int .i64 i, .int .i64 j] w fun e w' => e = .returned (.bool true) ∧ Below w.heap.size w w' := by
  by_cases h1 : i < 0
  · clear h
    go_enter Try.func3, Try.ntmps3
    go_wp2_with (go_at_call 13; refine (alive_c _).mono ?_; rintro e w1 ⟨rfl, hb1⟩)
    go_ret
    exact ⟨rfl, hb1⟩
  · by_cases h2 : j < i
    · clear h
      go_enter Try.func3, Try.ntmps3
      go_wp2_with (go_at_call 13; refine (alive_c _).mono ?_; rintro e w1 ⟨rfl, hb1⟩)
      go_ret
      exact ⟨rfl, hb1⟩
    · have h3 : (n : Int) < j := by omega
      clear h
      go_enter Try.func3, Try.ntmps3
      go_wp2_with (go_at_call 13; refine (alive_c _).mono ?_; rintro e w1 ⟨rfl, hb1⟩)
      go_ret
      exact ⟨rfl, hb1⟩

theorem cksumParts.walk {H : Type} {enc : TypeId × Value → H} (W : World) (args : Array Value) (hn : args.size = 3)
    (h : ∀ (j : Nat) t v, Try.f3.params[j]? = some t → args[j]? = some v → RdV enc false Try.prog W t v) :
    Calls Try.prog 3 args W fun e w' => e = .returned (.bool true) ∧ Below W.heap.size W w' := by
  obtain ⟨v0, v1, v2, rfl⟩ := args3 hn
  obtain ⟨a, n, c, l, rfl, hB, hc⟩ := (h 0 22 v0 rfl rfl).bytes Try.underlying22 Try.underlying5 (by kernel_rfl) (by kernel_rfl)
  obtain ⟨i, rfl, wi⟩ := (h 1 3 v1 rfl rfl).int Try.underlying3
  obtain ⟨j, rfl, wj⟩ := (h 2 3 v2 rfl rfl).int Try.underlying3
  by_cases hno : i < 0 ∨ j < i ∨ (n : Int) < j
  · exact cksumParts.no a n c i j W hno
  · obtain ⟨i, rfl⟩ := Int.eq_ofNat_of_zero_le (show 0 ≤ i by omega)
    obtain ⟨j, rfl⟩ := Int.eq_ofNat_of_zero_le (show 0 ≤ j by omega)
    by_cases h0 : n = 0
    · subst h0
      obtain rfl : j = 0 := by omega
      obtain rfl : i = 0 := by omega
      exact cksumParts.core0 a c W hB.capr
    · exact cksumParts.core a n c l i j W hB (by omega) (by omega) (by omega)

namespace cksumParts
theorem spec {H : Type} (ds : List (DataW H)) (h : ds.length = Try.f3.params.size) : Rows.cksumPartsSpec.fn H ds = { results := [.lit (.bool true)], args := ds } := by
  have h' : ds.length = 3 := h
  match ds, h' with
  | [_, _, _], _ => rfl

set_option maxRecDepth 100000 in
theorem lifted (os : Os) (started : os.Started) (H : Type) (enc : TypeId × Value → H) :
    ReturnsInHanded {} Try.checked os 3 .any (Rows.cksumPartsSpec.pre6 enc Try.prog Try.f3 Rows.cksumPartsRow.domain false) (Rows.cksumPartsSpec.post enc Try.prog Try.f3 false true false false) :=
  lifted_said (C := Try.checked) (tb := 4) own started (by kernel_rfl) Try.func3
    (ChangeSpec.witness6 (enc := enc) (C := Try.checked) false ⟨#[], #[.slice none 0 0, .int .i64 0, .int .i64 0], []⟩ 8 (by kernel_rfl) (by kernel_rfl) (by kernel_rfl) (by kernel_rfl))
    rfl spec rfl Try.underlying4 laidOut (by kernel_rfl) walk

theorem over : Rows.cksumPartsRow.holds Try.pinned (OpenSpec.ofChange Rows.cksumPartsSpec) :=
  OpenClaim.holds_of_wide 3 Try.f3 rfl rfl rfl rfl rfl rfl rfl ⟨rfl, rfl, rfl, rfl, rfl⟩ rfl rfl rfl rfl rfl (by kernel_rfl) Try.func3 (by kernel_rfl)
    (of_decide_eq_true (by kernel_rfl)) (by unfold Func.isWrapper; first | (rw [if_pos (by decide +kernel)]; kernel_rfl) | (rw [if_neg (by decide +kernel)]; exact ⟨rfl, rfl⟩))
    (fun os started H enc _ => lifted os started H enc)

theorem proved : Rows.CksumPartsSaid := over
#print axioms proved
end cksumParts

end Go.Proofs.Ytmffcjangmjnnaa
