/- CksumOrder: in which order two changes are made is not seen, as sums count. No condition. -/
import Derived.Test.YtmffcjangmjnnaaL01a
import Derived.Test.YtmffcjangmjnnaaRegV
namespace Go.Proofs.Ytmffcjangmjnnaa
open Go.RowKit

set_option maxHeartbeats 1000000 in
theorem cksumOrder.core (s a b c d : Int) (hs : 0 ≤ s ∧ s ≤ 65535) (ha : 0 ≤ a ∧ a ≤ 65535) (hb : 0 ≤ b ∧ b ≤ 65535) (hc : 0 ≤ c ∧ c ≤ 65535) (hd : 0 ≤ d ∧ d ≤ 65535) (w : World) :
    Calls Try.prog 10 #[.int .u16 s, .agg #[.int .u16 a, .int .u16 b], .agg #[.int .u16 c, .int .u16 d]] w fun e w' => e = .returned (.bool true) ∧ Below w.heap.size w w' := by
  go_enter Try.func10, Try.ntmps10
  have u1 := upd_bd s a b
  have u2 := upd_bd s c d
  go_wp2_with fail
  refine wp_region_ex 11 (fun w' => w'.cell? ⟨w.heap.size, 0, none⟩ = some (.int .u16 a) ∧ w'.cell? ⟨w.heap.size, 1, none⟩ = some (.int .u16 b) ∧ w'.cell? ⟨w.heap.size + 1, 0, none⟩ = some (.int .u16 c) ∧ w'.cell? ⟨w.heap.size + 1, 1, none⟩ = some (.int .u16 d)) (by kernel_rfl) (by kernel_rfl) (by kernel_rfl) (fun w' hx => ⟨cell_below hx (by simp), cell_below hx (by simp), cell_below hx (by go_simp), cell_below hx (by go_simp)⟩) ?_
  iterate 11 apply Exists.intro
  refine ⟨?rtxt, ?rgood⟩
  case rtxt =>
    simp only [List.take_succ_cons, List.take_zero]
    apply Txt.on rfl rfl
    · intro w1 hx hk hp; exact ⟨Ext.refl _, rfl⟩
    simp only [Act.put, List.setIfInBounds_toArray, List.set_cons_succ, List.set_cons_zero]
    apply Txt.on rfl rfl
    · intro w1 hx hk hp; obtain ⟨c1, c2, c3, c4⟩ := hk
      go_simp
      exact ⟨Ext.refl _, rfl⟩
    simp only [Act.put, List.setIfInBounds_toArray, List.set_cons_succ, List.set_cons_zero]
    apply Txt.on rfl rfl
    · intro w1 hx hk hp; obtain ⟨c1, c2, c3, c4⟩ := hk
      go_simp
      exact ⟨Ext.refl _, rfl⟩
    simp only [Act.put, List.setIfInBounds_toArray, List.set_cons_succ, List.set_cons_zero]
    apply Txt.on rfl rfl
    · intro w1 hx hk hp; obtain ⟨c1, c2, c3, c4⟩ := hk
      go_simp
      exact ⟨Ext.refl _, rfl⟩
    simp only [Act.put, List.setIfInBounds_toArray, List.set_cons_succ, List.set_cons_zero]
    apply Txt.on rfl rfl
    · intro w1 hx hk hp; obtain ⟨c1, c2, c3, c4⟩ := hk
      go_simp
      exact ⟨Ext.refl _, rfl⟩
    simp only [Act.put, List.setIfInBounds_toArray, List.set_cons_succ, List.set_cons_zero]
    apply Txt.on rfl rfl
    · intro w1 hx hk hp; obtain ⟨c1, c2, c3, c4⟩ := hk
      go_simp
      exact CallsV.same (update_c _ _ _ hs ha hb _)
    simp only [Act.put, List.setIfInBounds_toArray, List.set_cons_succ, List.set_cons_zero]
    apply Txt.on rfl rfl
    · intro w1 hx hk hp; obtain ⟨c1, c2, c3, c4⟩ := hk
      go_simp
      exact ⟨Ext.refl _, rfl⟩
    simp only [Act.put, List.setIfInBounds_toArray, List.set_cons_succ, List.set_cons_zero]
    apply Txt.on rfl rfl
    · intro w1 hx hk hp; obtain ⟨c1, c2, c3, c4⟩ := hk
      go_simp
      exact ⟨Ext.refl _, rfl⟩
    simp only [Act.put, List.setIfInBounds_toArray, List.set_cons_succ, List.set_cons_zero]
    apply Txt.on rfl rfl
    · intro w1 hx hk hp; obtain ⟨c1, c2, c3, c4⟩ := hk
      go_simp
      exact ⟨Ext.refl _, rfl⟩
    simp only [Act.put, List.setIfInBounds_toArray, List.set_cons_succ, List.set_cons_zero]
    apply Txt.on rfl rfl
    · intro w1 hx hk hp; obtain ⟨c1, c2, c3, c4⟩ := hk
      go_simp
      exact ⟨Ext.refl _, rfl⟩
    simp only [Act.put, List.setIfInBounds_toArray, List.set_cons_succ, List.set_cons_zero]
    apply Txt.on rfl rfl
    · intro w1 hx hk hp; obtain ⟨c1, c2, c3, c4⟩ := hk
      go_simp
      exact CallsV.same (update_c _ _ _ u1 hc hd _)
    simp only [Act.put, List.setIfInBounds_toArray, List.set_cons_succ, List.set_cons_zero]
    intro w1 hx hk hp
    obtain ⟨c1, c2, c3, c4⟩ := hk
    simp only [List.drop_succ_cons, List.drop_zero]
    have hx0 := hx
    clear hx
    go_wp2_with fail
    refine wp_region_ex 11 (fun w' => w'.cell? ⟨w.heap.size, 0, none⟩ = some (.int .u16 a) ∧ w'.cell? ⟨w.heap.size, 1, none⟩ = some (.int .u16 b) ∧ w'.cell? ⟨w.heap.size + 1, 0, none⟩ = some (.int .u16 c) ∧ w'.cell? ⟨w.heap.size + 1, 1, none⟩ = some (.int .u16 d)) (by kernel_rfl) (by kernel_rfl) (by kernel_rfl) (fun w' hx => ⟨cell_below hx c1, cell_below hx c2, cell_below hx c3, cell_below hx c4⟩) ?_
    iterate 11 apply Exists.intro
    refine ⟨?stxt, ?sgood⟩
    case stxt =>
      simp only [List.take_succ_cons, List.take_zero]
      apply Txt.on rfl rfl
      · intro w1 hx hk hp; exact ⟨Ext.refl _, rfl⟩
      simp only [Act.put, List.setIfInBounds_toArray, List.set_cons_succ, List.set_cons_zero]
      apply Txt.on rfl rfl
      · intro w1 hx hk hp; obtain ⟨c1, c2, c3, c4⟩ := hk
        go_simp
        exact ⟨Ext.refl _, rfl⟩
      simp only [Act.put, List.setIfInBounds_toArray, List.set_cons_succ, List.set_cons_zero]
      apply Txt.on rfl rfl
      · intro w1 hx hk hp; obtain ⟨c1, c2, c3, c4⟩ := hk
        go_simp
        exact ⟨Ext.refl _, rfl⟩
      simp only [Act.put, List.setIfInBounds_toArray, List.set_cons_succ, List.set_cons_zero]
      apply Txt.on rfl rfl
      · intro w1 hx hk hp; obtain ⟨c1, c2, c3, c4⟩ := hk
        go_simp
        exact ⟨Ext.refl _, rfl⟩
      simp only [Act.put, List.setIfInBounds_toArray, List.set_cons_succ, List.set_cons_zero]
      apply Txt.on rfl rfl
      · intro w1 hx hk hp; obtain ⟨c1, c2, c3, c4⟩ := hk
        go_simp
        exact ⟨Ext.refl _, rfl⟩
      simp only [Act.put, List.setIfInBounds_toArray, List.set_cons_succ, List.set_cons_zero]
      apply Txt.on rfl rfl
      · intro w1 hx hk hp; obtain ⟨c1, c2, c3, c4⟩ := hk
        go_simp
        exact CallsV.same (update_c _ _ _ hs hc hd _)
      simp only [Act.put, List.setIfInBounds_toArray, List.set_cons_succ, List.set_cons_zero]
      apply Txt.on rfl rfl
      · intro w1 hx hk hp; obtain ⟨c1, c2, c3, c4⟩ := hk
        go_simp
        exact ⟨Ext.refl _, rfl⟩
      simp only [Act.put, List.setIfInBounds_toArray, List.set_cons_succ, List.set_cons_zero]
      apply Txt.on rfl rfl
      · intro w1 hx hk hp; obtain ⟨c1, c2, c3, c4⟩ := hk
        go_simp
        exact ⟨Ext.refl _, rfl⟩
      simp only [Act.put, List.setIfInBounds_toArray, List.set_cons_succ, List.set_cons_zero]
      apply Txt.on rfl rfl
      · intro w1 hx hk hp; obtain ⟨c1, c2, c3, c4⟩ := hk
        go_simp
        exact ⟨Ext.refl _, rfl⟩
      simp only [Act.put, List.setIfInBounds_toArray, List.set_cons_succ, List.set_cons_zero]
      apply Txt.on rfl rfl
      · intro w1 hx hk hp; obtain ⟨c1, c2, c3, c4⟩ := hk
        go_simp
        exact ⟨Ext.refl _, rfl⟩
      simp only [Act.put, List.setIfInBounds_toArray, List.set_cons_succ, List.set_cons_zero]
      apply Txt.on rfl rfl
      · intro w1 hx hk hp; obtain ⟨c1, c2, c3, c4⟩ := hk
        go_simp
        exact CallsV.same (update_c _ _ _ u2 ha hb _)
      simp only [Act.put, List.setIfInBounds_toArray, List.set_cons_succ, List.set_cons_zero]
      intro w1 hx hk hp
      obtain ⟨c1, c2, c3, c4⟩ := hk
      simp only [List.drop_succ_cons, List.drop_zero]
      have u3 := upd_bd (upd s a b) c d
      have u4 := upd_bd (upd s c d) a b
      have hm : same (upd (upd s a b) c d) (upd (upd s c d) a b) = true := by
        have m1 := upd_mod s a b
        have m2 := upd_mod s c d
        have m3 := upd_mod (upd s a b) c d
        have m4 := upd_mod (upd s c d) a b
        unfold same
        simp; omega
      go_wp2_with (first
        | (go_at_call 13; refine (alive_c _).mono ?_; rintro e w1 ⟨rfl, hb1⟩)
        | (go_at_call 20; refine (same_c _ _ (by assumption) (by assumption) _).mono ?_; rintro e w2 ⟨rfl, rfl⟩))
      go_ret
      exact ⟨rfl, (((((Ext.refl w).alloc _).alloc _).trans hx0).trans hx).trans hb1⟩
    case sgood => exact ⟨GoodG.const _, GoodG.const _, GoodG.const _, GoodG.const _, GoodG.const _, GoodG.const _, GoodG.const _, GoodG.const _, GoodG.const _, GoodG.const _, GoodG.const _, trivial⟩
  case rgood => exact ⟨GoodG.const _, GoodG.const _, GoodG.const _, GoodG.const _, GoodG.const _, GoodG.const _, GoodG.const _, GoodG.const _, GoodG.const _, GoodG.const _, GoodG.const _, trivial⟩

theorem arr2 {H : Type} {enc : TypeId × Value → H} {m : Bool} {W : World} {t e : TypeId} {k : IntKind} {v : Value} (ht : Try.prog.underlying t = some (.array 2 e)) (he : Try.prog.underlying e = some (.int k)) (h1 : Try.prog.cellsOf t = 2) (h2 : Try.prog.cellsOf e = 1)
    (h : RdV enc m Try.prog W t v) : ∃ a b, v = .agg #[.int k a, .int k b] ∧ (Lit.int k a).wf = true ∧ (Lit.int k b).wf = true := by
  obtain ⟨cs, rfl, hr⟩ := h.agg (.inr ⟨_, _, ht⟩)
  obtain ⟨hl, hi⟩ := hr.array ht
  rw [h1] at hl
  match cs, hl with
  | [x, y], _ =>
    have a0 := hi 0 (by omega)
    have a1 := hi 1 (by omega)
    simp only [h2] at a0 a1
    obtain ⟨a, h3, h4⟩ := a0.int he
    obtain ⟨b, h5, h6⟩ := a1.int he
    simp at h3 h5
    subst h3; subst h5
    exact ⟨a, b, rfl, h4, h6⟩

theorem cksumOrder.walk {H : Type} {enc : TypeId × Value → H} (W : World) (args : Array Value) (hn : args.size = 3)
    (h : ∀ (j : Nat) t v, Try.f10.params[j]? = some t → args[j]? = some v → RdV enc false Try.prog W t v) :
    Calls Try.prog 10 args W fun e w' => e = .returned (.bool true) ∧ Below W.heap.size W w' := by
  obtain ⟨v0, v1, v2, rfl⟩ := args3 hn
  obtain ⟨s, rfl, ws⟩ := (h 0 24 v0 rfl rfl).int Try.underlying24
  obtain ⟨a, b, rfl, wa, wb⟩ := arr2 Try.underlying38 Try.underlying24 (by kernel_rfl) (by kernel_rfl) (h 1 38 v1 rfl rfl)
  obtain ⟨c, d, rfl, wc, wd⟩ := arr2 Try.underlying38 Try.underlying24 (by kernel_rfl) (by kernel_rfl) (h 2 38 v2 rfl rfl)
  exact cksumOrder.core s a b c d (u16_bd ws) (u16_bd wa) (u16_bd wb) (u16_bd wc) (u16_bd wd) W

namespace cksumOrder
theorem spec {H : Type} (ds : List (DataW H)) (h : ds.length = Try.f10.params.size) : Rows.cksumOrderSpec.fn H ds = { results := [.lit (.bool true)], args := ds } := by
  have h' : ds.length = 3 := h
  match ds, h' with
  | [_, _, _], _ => rfl

set_option maxRecDepth 100000 in
theorem lifted (os : Os) (started : os.Started) (H : Type) (enc : TypeId × Value → H) :
    ReturnsInHanded {} Try.checked os 10 .any (Rows.cksumOrderSpec.pre6 enc Try.prog Try.f10 Rows.cksumOrderRow.domain false) (Rows.cksumOrderSpec.post enc Try.prog Try.f10 false true false false) :=
  lifted_said (C := Try.checked) (tb := 4) own started (by kernel_rfl) Try.func10
    (ChangeSpec.witness6 (enc := enc) (C := Try.checked) false ⟨#[], #[.int .u16 0, .agg #[.int .u16 0, .int .u16 0], .agg #[.int .u16 0, .int .u16 0]], []⟩ 8 (by kernel_rfl) (by kernel_rfl) (by kernel_rfl) (by kernel_rfl))
    rfl spec rfl Try.underlying4 laidOut (by kernel_rfl) walk

theorem over : Rows.cksumOrderRow.holds Try.pinned (OpenSpec.ofChange Rows.cksumOrderSpec) :=
  OpenClaim.holds_of_wide 10 Try.f10 rfl rfl rfl rfl rfl rfl rfl ⟨rfl, rfl, rfl, rfl, rfl⟩ rfl rfl rfl rfl rfl (by kernel_rfl) Try.func10 (by kernel_rfl)
    (of_decide_eq_true (by kernel_rfl)) (by unfold Func.isWrapper; first | (rw [if_pos (by decide +kernel)]; kernel_rfl) | (rw [if_neg (by decide +kernel)]; exact ⟨rfl, rfl⟩))
    (fun os started H enc _ => lifted os started H enc)

theorem proved : Rows.CksumOrderSaid := over
#print axioms proved
end cksumOrder

end Go.Proofs.Ytmffcjangmjnnaa
