/- CksumTurned: where pairs of bytes stand in another order the sum is the same. No condition. -/
import Derived.Test.YtmffcjangmjnnaaL01a
import Derived.Test.YtmffcjangmjnnaaRegV
namespace Go.Proofs.Ytmffcjangmjnnaa
open Go.RowKit

theorem turn_step (L T : List UInt8) (g : Nat) (hg : 2 * g + 2 ≤ L.length) (hT : T.length % 2 = 0) (h : raw true T = raw true (L.drop (2 * (g + 1)))) :
    raw true (T ++ [L.getD (2 * g) 0, L.getD (2 * g + 1) 0]) = raw true (L.drop (2 * g)) := by
  have e1 : L.drop (2 * g) = L.getD (2 * g) 0 :: L.getD (2 * g + 1) 0 :: L.drop (2 * (g + 1)) := by
    rw [List.drop_eq_getElem_cons (by omega), List.drop_eq_getElem_cons (by omega)]
    simp only [List.getD_eq_getElem?_getD, List.getElem?_eq_getElem (show 2 * g < L.length by omega), List.getElem?_eq_getElem (show 2 * g + 1 < L.length by omega), Option.getD_some]
    rfl
  rw [raw_append, h, side, if_pos hT, e1]
  simp only [raw_cons, raw_nil, Bool.not_true, Bool.not_false]
  omega

set_option maxHeartbeats 1000000 in
theorem cksumTurned.core (a : Option Addr) (n c : Nat) (l : List UInt8) (w : World) (hB : Bytes w a n c l) :
    Calls Try.prog 4 #[.slice a n c] w fun e w' => e = .returned (.bool true) ∧ Below w.heap.size w w' := by
  have hle := hB.le
  have hroom := hB.room
  have hcap := hB.capr
  go_enter Try.func4, Try.ntmps4
  go_wp2_with fail
  go_loopg [3, 4] (n / 2) (fun g v3 v4 wx => ∃ (T : List UInt8) (k : Int), OwnB 5 wx w.heap.size v3 T ∧ Ext w wx ∧ v4 = .int .i64 k ∧ k = 2 * (g : Int) - 2 ∧ g ≤ n / 2 ∧ T.length = 2 * (n / 2 - g) ∧ raw true T = raw true ((l.take (n / 2 * 2)).drop (2 * g)))
  case atStart => exact ⟨[], _, OwnB.nil _ _ _, Ext.refl _, rfl, by omega, Nat.le_refl _, by simp, by rw [List.drop_of_length_le (by have := hB.len; simp; omega)]⟩
  case round =>
    obtain ⟨T, k, hO, hX, rfl, hk, hg, hT, hR⟩ := hrel
    cases gk with
    | zero =>
      obtain ⟨a3, c3, rfl, B3⟩ := hO.bytes (by omega)
      obtain rfl : k = -2 := by omega
      have s0 := hid (show sumB [l.take (n / 2 * 2)].flatten = sumB (l.take (n / 2 * 2)) by simp)
      have s1 := hid (show sumB [T].flatten = sumB (l.take (n / 2 * 2)) by simp only [List.flatten_cons, List.flatten_nil, List.append_nil]; unfold sumB; rw [hR]; simp)
      have b0 : [l.take (n / 2 * 2)].flatten.length ≤ 562949953421312 := by simp; omega
      have b1 : [T].flatten.length ≤ 562949953421312 := by simp; omega
      have B0 := hB.take (n / 2 * 2) (by omega)
      clear hk hT hR hO
      generalize n / 2 * 2 = m at *
      generalize T.length = tl at *
      go_wp2_with (go_at_call 13; refine (alive_c _).mono ?_; rintro e w1 ⟨rfl, hb1⟩)
      go_at_call 14
      refine (sum_is _ _ _ [l.take m] _ _ s0.out (Parts.one (B0.ext (hX.trans hb1)) _ rfl) (by decide) b0).mono ?_
      rintro e w2 ⟨rfl, rfl⟩
      go_wp2_with fail
      go_at_call 14
      refine (sum_is _ _ _ [T] _ _ s1.out (Parts.one ((B3.ext hb1).alloc _) _ (by simp)) (by decide) b1).mono ?_
      rintro e w2 ⟨rfl, rfl⟩
      go_wp2
      go_ret
      exact ⟨rfl, ((hX.trans hb1).alloc _).alloc _⟩
    | succ g =>
      obtain ⟨kk, hkk⟩ : ∃ kk, kk = 2 * g := ⟨_, rfl⟩
      obtain rfl : k = (kk : Int) := by omega
      have hll := hB.len
      obtain ⟨b, off, rfl, hc⟩ := hB.at (by omega)
      have c0 := hc kk (by omega)
      have c1 := hc (kk + 1) (by omega)
      have g0 : (l.take (n / 2 * 2)).getD (2 * g) 0 = l.getD kk 0 := by rw [← hkk]; simp only [List.getD_eq_getElem?_getD, List.getElem?_take]; rw [if_pos (by omega)]
      have g1 : (l.take (n / 2 * 2)).getD (2 * g + 1) 0 = l.getD (kk + 1) 0 := by rw [← hkk]; simp only [List.getD_eq_getElem?_getD, List.getElem?_take]; rw [if_pos (by omega)]
      have HS := hid (turn_step (l.take (n / 2 * 2)) T g (by simp; omega) (by omega) hR)
      rw [g0, g1] at HS
      have q1 : (0 : Int) ≤ (kk : Int) := by omega
      have q2 : (kk : Int) < (n : Int) / 2 * 2 := by omega
      have q3 : (kk : Int) + 1 < (n : Int) / 2 * 2 := by omega
      have q4 : IntKind.i64.wrap ((kk : Int) + 1) = (kk : Int) + 1 := IntWalk.i64_in _ (by omega)
      have q5 : (0 : Int) ≤ (kk : Int) + 1 := by omega
      have q6 : ((kk : Int) + 1).toNat = kk + 1 := by omega
      have q7 : (kk : Int) - 2 = 2 * (g : Int) - 2 := by omega
      have HH := hid (And.intro hT (And.intro hg q7))
      have HB := hid hB
      clear hc hR hk g0 g1 hll hkk hT hg q7
      go_wp2
      refine wp_region_ex 11 (fun w' => w'.cell? ⟨b, off + kk, none⟩ = some (.int .u8 ((l.getD kk 0).toNat : Int)) ∧ w'.cell? ⟨b, off + (kk + 1), none⟩ = some (.int .u8 ((l.getD (kk + 1) 0).toNat : Int))) (by kernel_rfl) (by kernel_rfl) (by kernel_rfl) (fun w' hx => ⟨cell_below hx (cell_below hX c0), cell_below hx (cell_below hX c1)⟩) ?_
      iterate 11 apply Exists.intro
      refine ⟨?rtxt, ?rgood⟩
      case rtxt =>
        simp only [List.take_succ_cons, List.take_zero]
        apply Txt.on rfl rfl
        · intro w1 hx hk hp; exact ⟨Ext.refl _, rfl⟩
        simp only [Act.put, List.setIfInBounds_toArray, List.set_cons_succ, List.set_cons_zero]
        apply Txt.on rfl rfl
        · intro w1 hx hk hp; exact ⟨Ext.refl _, rfl⟩
        simp only [Act.put, List.setIfInBounds_toArray, List.set_cons_succ, List.set_cons_zero]
        apply Txt.on rfl rfl
        · intro w1 hx hk hp; exact ⟨Ext.refl _, rfl⟩
        simp only [Act.put, List.setIfInBounds_toArray, List.set_cons_succ, List.set_cons_zero]
        apply Txt.on rfl rfl
        · intro w1 hx hk hp; obtain ⟨d0, d1⟩ := hk
          go_simp
          exact ⟨Ext.refl _, rfl⟩
        simp only [Act.put, List.setIfInBounds_toArray, List.set_cons_succ, List.set_cons_zero]
        apply Txt.on rfl rfl
        · intro w1 hx hk hp; obtain ⟨d0, d1⟩ := hk
          go_simp
          exact ⟨Ext.refl _, rfl⟩
        simp only [Act.put, List.setIfInBounds_toArray, List.set_cons_succ, List.set_cons_zero]
        apply Txt.on rfl rfl
        · intro w1 hx hk hp; exact ⟨Ext.refl _, rfl⟩
        simp only [Act.put, List.setIfInBounds_toArray, List.set_cons_succ, List.set_cons_zero]
        apply Txt.on rfl rfl
        · intro w1 hx hk hp; exact ⟨Ext.refl _, rfl⟩
        simp only [Act.put, List.setIfInBounds_toArray, List.set_cons_succ, List.set_cons_zero]
        apply Txt.on rfl rfl
        · intro w1 hx hk hp; obtain ⟨d0, d1⟩ := hk
          go_simp
          exact ⟨Ext.refl _, rfl⟩
        simp only [Act.put, List.setIfInBounds_toArray, List.set_cons_succ, List.set_cons_zero]
        apply Txt.on rfl rfl
        · intro w1 hx hk hp; obtain ⟨d0, d1⟩ := hk
          go_simp
          exact ⟨Ext.refl _, rfl⟩
        simp only [Act.put, List.setIfInBounds_toArray, List.set_cons_succ, List.set_cons_zero]
        apply Txt.on rfl rfl
        · intro w1 hx hk hp; obtain ⟨d0, d1⟩ := hk
          go_simp
          exact ⟨Ext.refl _, rfl⟩
        simp only [Act.put, List.setIfInBounds_toArray, List.set_cons_succ, List.set_cons_zero]
        refine Txt.eff (BytesV [l.getD kk 0, l.getD (kk + 1) 0]) rfl rfl ?_ ?_
        · intro w1 hx hk hp; obtain ⟨d0, d1⟩ := hk
          go_simp
          exact ⟨below_alloc _ _, BytesV.mk (Bytes.new _ _ _ _ _ _ rfl rfl rfl (by decide))⟩
        rintro _ ⟨_, ar10, nr10, cr10, rfl, _⟩
        simp only [Act.put, List.setIfInBounds_toArray, List.set_cons_succ, List.set_cons_zero]
        intro w1 hx hk hp
        obtain ⟨d0, d1⟩ := hk
        simp only [List.drop_succ_cons, List.drop_zero]
        obtain ⟨_, _, _, he, hY⟩ := (show BytesV [l.getD kk 0, l.getD (kk + 1) 0] _ _ from hp 10 _ (by decide) rfl)
        cases he
        have hl2 := hY.len
        have hsz := hx.size
        have hsz2 := hX.size
        have hTl : T.length + 2 ≤ 140737488355328 := by have := HH.out; omega
        refine wpList_append_b rfl (.tmp 18) (.tmp 28) (t := 22) (by kernel_rfl) info_u8 rfl rfl (hO.ext hx) rfl hY (by simpa using hTl) (by omega) ?_
        intro v3 w3 h3 h4 _
        go_wp2
        go_roundg g
        case measure => omega
        case rel =>
          obtain ⟨hT, hg, h7⟩ := HH.out
          exact ⟨T ++ [l.getD kk 0, l.getD (kk + 1) 0], _, h3, Below.trans (hX.trans hx) (grown_below_of (hO.ext hx) (by omega) h4), rfl, h7, by omega, by simp; omega, HS.out⟩
      case rgood => exact ⟨GoodG.const _, GoodG.const _, GoodG.const _, GoodG.const _, GoodG.const _, GoodG.const _, GoodG.const _, GoodG.const _, GoodG.const _, GoodG.const _, (good_bytes _ (by simp)), trivial⟩

theorem cksumTurned.walk {H : Type} {enc : TypeId × Value → H} (W : World) (args : Array Value) (hn : args.size = 1)
    (h : ∀ (j : Nat) t v, Try.f4.params[j]? = some t → args[j]? = some v → RdV enc false Try.prog W t v) :
    Calls Try.prog 4 args W fun e w' => e = .returned (.bool true) ∧ Below W.heap.size W w' := by
  obtain ⟨v0, rfl⟩ := args1 hn
  obtain ⟨a, n, c, l, rfl, hB, hc⟩ := (h 0 22 v0 rfl rfl).bytes Try.underlying22 Try.underlying5 (by kernel_rfl) (by kernel_rfl)
  exact cksumTurned.core a n c l W hB

namespace cksumTurned
theorem spec {H : Type} (ds : List (DataW H)) (h : ds.length = Try.f4.params.size) : Rows.cksumTurnedSpec.fn H ds = { results := [.lit (.bool true)], args := ds } := by
  have h' : ds.length = 1 := h
  match ds, h' with
  | [_], _ => rfl

set_option maxRecDepth 100000 in
theorem lifted (os : Os) (started : os.Started) (H : Type) (enc : TypeId × Value → H) :
    ReturnsInHanded {} Try.checked os 4 .any (Rows.cksumTurnedSpec.pre6 enc Try.prog Try.f4 Rows.cksumTurnedRow.domain false) (Rows.cksumTurnedSpec.post enc Try.prog Try.f4 false true false false) :=
  lifted_said (C := Try.checked) (tb := 4) own started (by kernel_rfl) Try.func4
    (ChangeSpec.witness6 (enc := enc) (C := Try.checked) false ⟨#[], #[.slice none 0 0], []⟩ 8 (by kernel_rfl) (by kernel_rfl) (by kernel_rfl) (by kernel_rfl))
    rfl spec rfl Try.underlying4 laidOut (by kernel_rfl) walk

theorem over : Rows.cksumTurnedRow.holds Try.pinned (OpenSpec.ofChange Rows.cksumTurnedSpec) :=
  OpenClaim.holds_of_wide 4 Try.f4 rfl rfl rfl rfl rfl rfl rfl ⟨rfl, rfl, rfl, rfl, rfl⟩ rfl rfl rfl rfl rfl (by kernel_rfl) Try.func4 (by kernel_rfl)
    (of_decide_eq_true (by kernel_rfl)) (by unfold Func.isWrapper; first | (rw [if_pos (by decide +kernel)]; kernel_rfl) | (rw [if_neg (by decide +kernel)]; exact ⟨rfl, rfl⟩))
    (fun os started H enc _ => lifted os started H enc)

theorem proved : Rows.CksumTurnedSaid := over
#print axioms proved
end cksumTurned

end Go.Proofs.Ytmffcjangmjnnaa
