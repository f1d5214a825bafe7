/- CksumNothing: numbers 0 behind an even number of bytes change no sum. No condition. -/
import Derived.Test.YtmffcjangmjnnaaL01a
import Derived.Test.YtmffcjangmjnnaaRegV
namespace Go.Proofs.Ytmffcjangmjnnaa
open Go.RowKit
set_option maxHeartbeats 1000000 in
theorem cksumNothing.core (a : Option Addr) (n c : Nat) (l : List UInt8) (m : Nat) (w : World) (hB : Bytes w a n c l) (hn : n % 2 = 0) (hm : m ≤ 1000) :
    Calls Try.prog 5 #[.slice a n c, .int .i64 m] w fun e w' => e = .returned (.bool true) ∧ Below w.heap.size w w' := by
  have hle := hB.le
  have hroom := hB.room
  have hcap := hB.capr
  have e1 : ((n : Int) % 2 != 0) = false := by simp; omega
  have e2 : ((n : Int) % 2 == 0) = true := by simp; omega
  have HN := hid hn
  clear hn
  have q1 : ((m : Int) < 0) = False := by simp
  have q2 : ((1000 : Int) < (m : Int)) = False := by simp; omega
  have q9 : IntKind.i64.wrap (2 * (m : Int)) = 2 * (m : Int) := IntWalk.i64_in _ (by omega)
  have hll := hB.len
  have b1 : [l].flatten.length ≤ 562949953421312 := by simp [← hll]; omega
  have b2 : [l, List.replicate m 0].flatten.length ≤ 562949953421312 := by simp; omega
  have b3 : [List.replicate (2 * m) 0, l].flatten.length ≤ 562949953421312 := by simp; omega
  have s1 := hid (show sumB [l].flatten = sumB l by simp)
  have s2 := hid (show sumB [l, List.replicate m 0].flatten = sumB l by
    simp only [List.flatten_cons, List.flatten_nil, List.append_nil]
    unfold sumB; rw [raw_append, raw_zeros]; rfl)
  have s3 := hid (show sumB [List.replicate (2 * m) 0, l].flatten = sumB l by
    simp only [List.flatten_cons, List.flatten_nil, List.append_nil]
    unfold sumB; rw [raw_append, raw_zeros, List.length_replicate, side, if_pos (by omega), Nat.zero_add])
  have HL := hid hll
  clear hll
  go_enter Try.func5, Try.ntmps5
  go_wp2_with fail
  refine wp_region_ex 24 (fun _ => True) (by kernel_rfl) (by kernel_rfl) (by kernel_rfl) (fun _ _ => trivial) ?_
  iterate 24 apply Exists.intro
  refine ⟨?rtxt, ?rgood⟩
  case rtxt =>
    simp only [List.take_succ_cons, List.take_zero]
    apply Txt.on rfl rfl
    · intro w1 hx hk hp
      go_simp
      exact CallsV.below (alive_c _)
    simp only [Act.put, List.setIfInBounds_toArray, List.set_cons_succ, List.set_cons_zero]
    apply Txt.on rfl rfl
    · intro w1 hx hk hp; exact ⟨Ext.refl _, rfl⟩
    simp only [Act.put, List.setIfInBounds_toArray, List.set_cons_succ, List.set_cons_zero]
    apply Txt.on rfl rfl
    · intro w1 hx hk hp; exact ⟨Ext.refl _, rfl⟩
    simp only [Act.put, List.setIfInBounds_toArray, List.set_cons_succ, List.set_cons_zero]
    refine Txt.eff (PartsV [l]) rfl rfl ?_ ?_
    · intro w1 hx hk hp
      go_simp
      exact ⟨below_alloc _ _, PartsV.mk (.cons (hB.ext hx) .nil) rfl rfl rfl (by decide)⟩
    intro vr3 _
    simp only [Act.put, List.setIfInBounds_toArray, List.set_cons_succ, List.set_cons_zero]
    apply Txt.on rfl rfl
    · intro w1 hx hk hp
      go_simp
      exact CallsV.same (sum_vis s1.out (hp 3 _ rfl rfl) b1)
    simp only [Act.put, List.setIfInBounds_toArray, List.set_cons_succ, List.set_cons_zero]
    apply Txt.on rfl rfl
    · intro w1 hx hk hp; exact ⟨Ext.refl _, rfl⟩
    simp only [Act.put, List.setIfInBounds_toArray, List.set_cons_succ, List.set_cons_zero]
    apply Txt.on rfl rfl
    · intro w1 hx hk hp; exact ⟨Ext.refl _, rfl⟩
    simp only [Act.put, List.setIfInBounds_toArray, List.set_cons_succ, List.set_cons_zero]
    refine Txt.eff (BytesV (List.replicate m 0)) rfl rfl ?_ ?_
    · intro w1 hx hk hp
      go_simp
      obtain ⟨w2, h1, h2, h3⟩ := run_make_b (w := w1) Try.underlying22 info_u8 0 .i64 .i64 (m : Int) m rfl (by omega) (Nat.zero_le _)
      simp only [h1, Result.andThen_ok]
      exact ⟨h3, BytesV.of_own h2 (by simp; omega)⟩
    rintro _ ⟨_, ar7, nr7, cr7, rfl, _⟩
    simp only [Act.put, List.setIfInBounds_toArray, List.set_cons_succ, List.set_cons_zero]
    refine Txt.eff (PartsV [l, List.replicate m 0]) rfl rfl ?_ ?_
    · intro w1 hx hk hp
      go_simp
      exact ⟨below_alloc _ _, PartsV.mk (.cons (hB.ext hx) (.consV (hp 7 _ rfl rfl) .nil)) rfl rfl rfl (by decide)⟩
    intro vr8 _
    simp only [Act.put, List.setIfInBounds_toArray, List.set_cons_succ, List.set_cons_zero]
    apply Txt.on rfl rfl
    · intro w1 hx hk hp
      go_simp
      exact CallsV.same (sum_vis s2.out (hp 8 _ rfl rfl) b2)
    simp only [Act.put, List.setIfInBounds_toArray, List.set_cons_succ, List.set_cons_zero]
    apply Txt.on rfl rfl
    · intro w1 hx hk hp
      go_simp
      exact ⟨Ext.refl _, rfl⟩
    simp only [Act.put, List.setIfInBounds_toArray, List.set_cons_succ, List.set_cons_zero]
    apply Txt.on rfl rfl
    · intro w1 hx hk hp
      go_simp
      exact ⟨Ext.refl _, rfl⟩
    simp only [Act.put, List.setIfInBounds_toArray, List.set_cons_succ, List.set_cons_zero]
    apply Txt.on rfl rfl
    · intro w1 hx hk hp; exact ⟨Ext.refl _, rfl⟩
    simp only [Act.put, List.setIfInBounds_toArray, List.set_cons_succ, List.set_cons_zero]
    apply Txt.on rfl rfl
    · intro w1 hx hk hp; exact ⟨Ext.refl _, rfl⟩
    simp only [Act.put, List.setIfInBounds_toArray, List.set_cons_succ, List.set_cons_zero]
    refine Txt.eff (PartsV [l]) rfl rfl ?_ ?_
    · intro w1 hx hk hp
      go_simp
      exact ⟨below_alloc _ _, PartsV.mk (.cons (hB.ext hx) .nil) rfl rfl rfl (by decide)⟩
    intro vr14 _
    simp only [Act.put, List.setIfInBounds_toArray, List.set_cons_succ, List.set_cons_zero]
    apply Txt.on rfl rfl
    · intro w1 hx hk hp
      go_simp
      exact CallsV.same (sum_vis s1.out (hp 14 _ rfl rfl) b1)
    simp only [Act.put, List.setIfInBounds_toArray, List.set_cons_succ, List.set_cons_zero]
    apply Txt.on rfl rfl
    · intro w1 hx hk hp; exact ⟨Ext.refl _, rfl⟩
    simp only [Act.put, List.setIfInBounds_toArray, List.set_cons_succ, List.set_cons_zero]
    apply Txt.on rfl rfl
    · intro w1 hx hk hp
      go_simp
      exact ⟨Ext.refl _, rfl⟩
    simp only [Act.put, List.setIfInBounds_toArray, List.set_cons_succ, List.set_cons_zero]
    refine Txt.eff (BytesV (List.replicate (2 * m) 0)) rfl rfl ?_ ?_
    · intro w1 hx hk hp
      go_simp
      obtain ⟨w2, h1, h2, h3⟩ := run_make_b (w := w1) Try.underlying22 info_u8 0 .i64 .i64 (2 * (m : Int)) (2 * m) (by omega) (by omega) (Nat.zero_le _)
      simp only [h1, Result.andThen_ok]
      exact ⟨h3, BytesV.of_own h2 (by simp; omega)⟩
    rintro _ ⟨_, ar18, nr18, cr18, rfl, _⟩
    simp only [Act.put, List.setIfInBounds_toArray, List.set_cons_succ, List.set_cons_zero]
    apply Txt.on rfl rfl
    · intro w1 hx hk hp; exact ⟨Ext.refl _, rfl⟩
    simp only [Act.put, List.setIfInBounds_toArray, List.set_cons_succ, List.set_cons_zero]
    refine Txt.eff (PartsV [List.replicate (2 * m) 0, l]) rfl rfl ?_ ?_
    · intro w1 hx hk hp
      go_simp
      exact ⟨below_alloc _ _, PartsV.mk (.consV (hp 18 _ rfl rfl) (.cons (hB.ext hx) .nil)) rfl rfl rfl (by decide)⟩
    intro vr20 _
    simp only [Act.put, List.setIfInBounds_toArray, List.set_cons_succ, List.set_cons_zero]
    apply Txt.on rfl rfl
    · intro w1 hx hk hp
      go_simp
      exact CallsV.same (sum_vis s3.out (hp 20 _ rfl rfl) b3)
    simp only [Act.put, List.setIfInBounds_toArray, List.set_cons_succ, List.set_cons_zero]
    apply Txt.on rfl rfl
    · intro w1 hx hk hp
      go_simp
      exact ⟨Ext.refl _, rfl⟩
    simp only [Act.put, List.setIfInBounds_toArray, List.set_cons_succ, List.set_cons_zero]
    apply Txt.on rfl rfl
    · intro w1 hx hk hp
      go_simp
      exact ⟨Ext.refl _, rfl⟩
    simp only [Act.put, List.setIfInBounds_toArray, List.set_cons_succ, List.set_cons_zero]
    intro w1 hx hk hp
    simp only [List.drop_succ_cons, List.drop_zero]
    go_wp2
    all_goals (go_ret; exact ⟨rfl, hx⟩)
  case rgood => exact ⟨GoodG.const _, GoodG.const _, GoodG.const _, (good_parts _ (by simp) (by simp [← HL.out]; omega)), GoodG.const _, GoodG.const _, GoodG.const _, (good_bytes _ (by simp; omega)), (good_parts _ (by simp) (by simp [← HL.out]; omega)), GoodG.const _, GoodG.const _, GoodG.const _, GoodG.const _, GoodG.const _, (good_parts _ (by simp) (by simp [← HL.out]; omega)), GoodG.const _, GoodG.const _, GoodG.const _, (good_bytes _ (by simp; omega)), GoodG.const _, (good_parts _ (by simp) (by simp [← HL.out]; omega)), GoodG.const _, GoodG.const _, GoodG.const _, trivial⟩

set_option maxHeartbeats 400000 in
theorem cksumNothing.no (a : Option Addr) (n c : Nat) (m : Int) (w : World) (h : n % 2 ≠ 0 ∨ m < 0 ∨ 1000 < m) :
    Calls Try.prog 5 #[.slice a n c, .int .i64 m] w fun e w' => e = .returned (.bool true) ∧ Below w.heap.size w w' := by
  by_cases h1 : n % 2 = 0
  · have e1 : ((n : Int) % 2 != 0) = false := by simp; omega
    have e2 : ((n : Int) % 2 == 0) = true := by simp; omega
    by_cases h2 : m < 0
    · clear h h1
      go_enter Try.func5, Try.ntmps5
      go_wp2_with (go_at_call 13; refine (alive_c _).mono ?_; rintro e w1 ⟨rfl, hb1⟩)
      go_ret
      exact ⟨rfl, hb1⟩
    · have h3 : 1000 < m := by omega
      clear h h1
      go_enter Try.func5, Try.ntmps5
      go_wp2_with (go_at_call 13; refine (alive_c _).mono ?_; rintro e w1 ⟨rfl, hb1⟩)
      go_ret
      exact ⟨rfl, hb1⟩
  · have e1 : ((n : Int) % 2 != 0) = true := by simp; omega
    have e2 : ((n : Int) % 2 == 0) = false := by simp; omega
    clear h h1
    go_enter Try.func5, Try.ntmps5
    go_wp2_with (go_at_call 13; refine (alive_c _).mono ?_; rintro e w1 ⟨rfl, hb1⟩)
    go_ret
    exact ⟨rfl, hb1⟩

theorem cksumNothing.walk {H : Type} {enc : TypeId × Value → H} (W : World) (args : Array Value) (hn : args.size = 2)
    (h : ∀ (j : Nat) t v, Try.f5.params[j]? = some t → args[j]? = some v → RdV enc false Try.prog W t v) :
    Calls Try.prog 5 args W fun e w' => e = .returned (.bool true) ∧ Below W.heap.size W w' := by
  obtain ⟨v0, v1, rfl⟩ := args2 hn
  obtain ⟨a, n, c, l, rfl, hB, hc⟩ := (h 0 22 v0 rfl rfl).bytes Try.underlying22 Try.underlying5 (by kernel_rfl) (by kernel_rfl)
  obtain ⟨m, rfl, wm⟩ := (h 1 3 v1 rfl rfl).int Try.underlying3
  by_cases hno : n % 2 ≠ 0 ∨ m < 0 ∨ 1000 < m
  · exact cksumNothing.no a n c m W hno
  · obtain ⟨m, rfl⟩ := Int.eq_ofNat_of_zero_le (show 0 ≤ m by omega)
    exact cksumNothing.core a n c l m W hB (by omega) (by omega)

namespace cksumNothing
theorem spec {H : Type} (ds : List (DataW H)) (h : ds.length = Try.f5.params.size) : Rows.cksumNothingSpec.fn H ds = { results := [.lit (.bool true)], args := ds } := by
  have h' : ds.length = 2 := h
  match ds, h' with
  | [_, _], _ => rfl

set_option maxRecDepth 100000 in
theorem lifted (os : Os) (started : os.Started) (H : Type) (enc : TypeId × Value → H) :
    ReturnsInHanded {} Try.checked os 5 .any (Rows.cksumNothingSpec.pre6 enc Try.prog Try.f5 Rows.cksumNothingRow.domain false) (Rows.cksumNothingSpec.post enc Try.prog Try.f5 false true false false) :=
  lifted_said (C := Try.checked) (tb := 4) own started (by kernel_rfl) Try.func5
    (ChangeSpec.witness6 (enc := enc) (C := Try.checked) false ⟨#[], #[.slice none 0 0, .int .i64 0], []⟩ 8 (by kernel_rfl) (by kernel_rfl) (by kernel_rfl) (by kernel_rfl))
    rfl spec rfl Try.underlying4 laidOut (by kernel_rfl) walk

theorem over : Rows.cksumNothingRow.holds Try.pinned (OpenSpec.ofChange Rows.cksumNothingSpec) :=
  OpenClaim.holds_of_wide 5 Try.f5 rfl rfl rfl rfl rfl rfl rfl ⟨rfl, rfl, rfl, rfl, rfl⟩ rfl rfl rfl rfl rfl (by kernel_rfl) Try.func5 (by kernel_rfl)
    (of_decide_eq_true (by kernel_rfl)) (by unfold Func.isWrapper; first | (rw [if_pos (by decide +kernel)]; kernel_rfl) | (rw [if_neg (by decide +kernel)]; exact ⟨rfl, rfl⟩))
    (fun os started H enc _ => lifted os started H enc)

theorem proved : Rows.CksumNothingSaid := over
#print axioms proved
end cksumNothing

end Go.Proofs.Ytmffcjangmjnnaa
