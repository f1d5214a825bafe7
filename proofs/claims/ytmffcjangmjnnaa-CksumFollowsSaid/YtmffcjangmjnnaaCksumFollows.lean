/- CksumFollows: where bytes of a packet change, its sum, changed so, counts as the one that is put anew. No condition. -/
import Derived.Test.YtmffcjangmjnnaaL01a
import Derived.Test.YtmffcjangmjnnaaRegV
namespace Go.Proofs.Ytmffcjangmjnnaa
open Go.RowKit

theorem chg_mod : ∀ (l m : List UInt8) (s : Int), l.length = m.length → l.length % 2 = 0 → chg s l m % 65535 = (s + raw true l - raw true m) % 65535
  | [], [], s, _, _ => by simp [chg]
  | a :: b :: t, c :: d :: t', s, hl, h => by
    simp only [List.length_cons] at hl h
    have i := chg_mod t t' (upd s (a.toNat * 256 + b.toNat : Nat) (c.toNat * 256 + d.toNat : Nat)) (by omega) (by omega)
    have u := upd_mod s (a.toNat * 256 + b.toNat : Nat) (c.toNat * 256 + d.toNat : Nat)
    have e1 : raw true (a :: b :: t) = a.toNat * 256 + b.toNat + raw true t := by rw [raw_cons, raw_cons]; simp; omega
    have e2 : raw true (c :: d :: t') = c.toNat * 256 + d.toNat + raw true t' := by rw [raw_cons, raw_cons]; simp; omega
    rw [e1, e2]
    show chg (upd s (a.toNat * 256 + b.toNat : Nat) (c.toNat * 256 + d.toNat : Nat)) t t' % 65535 = _
    generalize upd s (a.toNat * 256 + b.toNat : Nat) (c.toNat * 256 + d.toNat : Nat) = z at *
    omega
  | [_], _, _, _, h => by simp at h
  | [], _ :: _, _, hl, _ => by simp at hl
  | _ :: _ :: _, [], _, hl, _ => by simp at hl
  | _ :: _ :: _, [_], _, hl, _ => by simp at hl
theorem sumB_mod (l : List UInt8) : sumB l % 65535 = (raw true l : Int) % 65535 := fld_mod _

theorem follows_same (a f t b : List UInt8) (ha : a.length % 2 = 0) (hl : f.length = t.length) (h : f.length % 2 = 0) :
    same (chg (65535 - sumB [a, f, b].flatten) f t) (65535 - sumB [a, t, b].flatten) = true := by
  have h1 := chg_mod f t (65535 - sumB [a, f, b].flatten) hl h
  have h2 := sumB_mod [a, f, b].flatten
  have h3 := sumB_mod [a, t, b].flatten
  have e : ∀ x : List UInt8, x.length = f.length → raw true [a, x, b].flatten = raw true a + raw true x + raw (side true x.length) b := fun x hx => by
    simp only [List.flatten_cons, List.flatten_nil, List.append_nil]
    rw [raw_append, raw_append, side, if_pos ha]; omega
  rw [e f rfl] at h2
  rw [e t hl.symm, ← hl] at h3
  exact decide_eq_true (by omega)

set_option maxHeartbeats 1000000 in
theorem cksumFollows.core (a1 a2 a3 a4 : Option Addr) (n1 n2 n3 n4 k1 k2 k3 k4 : Nat) (A B F T : List UInt8) (w : World) (hA : Bytes w a1 n1 k1 A) (hB : Bytes w a2 n2 k2 B) (hF : Bytes w a3 n3 k3 F) (hT : Bytes w a4 n4 k4 T) :
    Calls Try.prog 12 #[.slice a1 n1 k1, .slice a2 n2 k2, .agg #[.slice a3 n3 k3, .slice a4 n4 k4]] w fun e w' => e = .returned (.bool true) ∧ Below w.heap.size w w' := by
  have l1 := hA.len
  have l2 := hB.len
  have l3 := hF.len
  have l4 := hT.len
  have r1 := hA.room
  have r2 := hB.room
  have r3 := hF.room
  have r4 := hT.room
  have s1 := hA.le
  have s2 := hB.le
  have s3 := hF.le
  have s4 := hT.le
  have hle1 : [A, F, B].flatten.length ≤ 562949953421312 := by simp; omega
  have hle2 : [A, T, B].flatten.length ≤ 562949953421312 := by simp; omega
  have hsb := sumB_bd [A, F, B].flatten
  have hst := sumB_bd [A, T, B].flatten
  have HLL := hid (show n1 = A.length ∧ n3 = F.length ∧ n4 = T.length from ⟨l1, l3, l4⟩)
  clear l1 l2 l3 l4
  by_cases c1 : n1 % 2 = 0
  · by_cases c2 : n3 = n4
    · subst c2
      by_cases c3 : n3 % 2 = 0
      · have e1 : ((n1 : Int) % 2 != 0) = false := by simp; omega
        have e2 : ((n3 : Int) % 2 != 0) = false := by simp; omega
        have e1' : ((n1 : Int) % 2 == 0) = true := by simp; omega
        have e2' : ((n3 : Int) % 2 == 0) = true := by simp; omega
        have hcb := chg_bd (65535 - sumB [A, F, B].flatten) F T (by omega)
        have hsame := follows_same A F T B (by have := HLL.out.1; omega) (by have := HLL.out.2; omega) (by have := HLL.out.2; omega)
        have HC := hid c3
        clear c1 c3
        have hsb' : 0 ≤ 65535 - sumB [A, F, B].flatten ∧ 65535 - sumB [A, F, B].flatten ≤ 65535 := by omega
        have hst' : 0 ≤ 65535 - sumB [A, T, B].flatten ∧ 65535 - sumB [A, T, B].flatten ≤ 65535 := by omega
        generalize hg1 : 65535 - sumB [A, F, B].flatten = g1 at *
        generalize hg2 : 65535 - sumB [A, T, B].flatten = g2 at *
        have G1 := hid hg1
        have G2 := hid hg2
        clear hg1 hg2 hsb hst
        go_enter Try.func12, Try.ntmps12
        go_wp2_with fail
        go_quiet (fail)
        go_wp2_with fail
        have hx1 : Ext w ((w.alloc (Obj.cells #[Value.slice a3 n3 k3, Value.slice a4 n3 k4] 45)).drewN nq) := ((Ext.refl w).alloc _).drewN nq
        refine (put_is _ _ _ [A, F, B] g1 _ G1.out (Parts.three (hA.ext hx1) (hF.ext hx1) (hB.ext hx1) _ (by simp)) (by omega) hle1).mono ?_
        rintro e w2 ⟨rfl, rfl⟩
        go_wp2_with fail
        refine (change_c _ _ _ _ _ _ F T _ hsb' ((hF.ext hx1).alloc _) ((hT.ext hx1).alloc _) HC.out).mono ?_
        rintro e w3 ⟨rfl, hd3⟩
        have hx3 := (hx1.alloc (Obj.cells #[Value.slice a1 n1 k1, Value.slice a3 n3 k3, Value.slice a2 n2 k2] 22)).trans (hd3.below _)
        clear hx1 hd3
        go_wp2_with fail
        refine (alive_c _).mono ?_
        rintro e w4 ⟨rfl, hb4⟩
        have hx4 := hx3.trans hb4
        clear hx3 hb4
        go_wp2_with fail
        refine (put_is _ _ _ [A, T, B] g2 _ G2.out (Parts.three (hA.ext hx4) (hT.ext hx4) (hB.ext hx4) _ (by simp)) (by omega) hle2).mono ?_
        rintro e w5 ⟨rfl, rfl⟩
        go_wp2_with fail
        refine (same_c _ _ hcb hst' _).mono ?_
        rintro e w6 ⟨rfl, rfl⟩
        go_wp2
        go_ret
        exact ⟨rfl, hx4.alloc _⟩
      · have e1 : ((n1 : Int) % 2 != 0) = false := by simp; omega
        have e2 : ((n3 : Int) % 2 != 0) = true := by simp; omega
        have e1' : ((n1 : Int) % 2 == 0) = true := by simp; omega
        have e2' : ((n3 : Int) % 2 == 0) = false := by simp; omega
        clear c1 c3
        go_enter Try.func12, Try.ntmps12
        go_wp2_with fail
        go_quiet (fail)
        go_wp2_with (go_at_call 13; refine (alive_c _).mono ?_; rintro e w1 ⟨rfl, hb1⟩)
        go_ret
        exact ⟨rfl, (((Ext.refl w).alloc _).drewN nq).trans hb1⟩
    · have e1 : ((n1 : Int) % 2 != 0) = false := by simp; omega
      have e1' : ((n1 : Int) % 2 == 0) = true := by simp; omega
      have e2 : ((n3 : Int) != (n4 : Int)) = true := by simp; omega
      have e2' : ((n3 : Int) == (n4 : Int)) = false := by simp; omega
      clear c1 c2
      go_enter Try.func12, Try.ntmps12
      go_wp2_with fail
      go_quiet (fail)
      go_wp2_with (go_at_call 13; refine (alive_c _).mono ?_; rintro e w1 ⟨rfl, hb1⟩)
      go_ret
      exact ⟨rfl, (((Ext.refl w).alloc _).drewN nq).trans hb1⟩
  · have e1 : ((n1 : Int) % 2 != 0) = true := by simp; omega
    have e1' : ((n1 : Int) % 2 == 0) = false := by simp; omega
    clear c1
    go_enter Try.func12, Try.ntmps12
    go_wp2_with fail
    go_quiet (fail)
    go_wp2_with (go_at_call 13; refine (alive_c _).mono ?_; rintro e w1 ⟨rfl, hb1⟩)
    go_ret
    exact ⟨rfl, (((Ext.refl w).alloc _).drewN nq).trans hb1⟩

theorem arr2s {H : Type} {enc : TypeId × Value → H} {m : Bool} {W : World} {v : Value} (h : RdV enc m Try.prog W 45 v) :
    ∃ a n c b k d l r, v = .agg #[.slice a n c, .slice b k d] ∧ Bytes W a n c l ∧ Bytes W b k d r := by
  obtain ⟨cs, rfl, hr⟩ := h.agg (.inr ⟨_, _, Try.underlying45⟩)
  obtain ⟨hl, hi⟩ := hr.array Try.underlying45
  have h2 : Try.prog.cellsOf 22 = 1 := by kernel_rfl
  have h1 : Try.prog.cellsOf 45 = 2 := by kernel_rfl
  rw [h1] at hl
  match cs, hl with
  | [x, y], _ =>
    have a0 := hi 0 (by omega)
    have a1 := hi 1 (by omega)
    simp only [h2] at a0 a1
    have f0 := a0.slice Try.underlying22
    have f1 := a1.slice Try.underlying22
    have g0 : ∃ a n c, x = .slice a n c := by
      rcases f0 with h | ⟨a, n, c, h, _⟩ <;> simp at h <;> exact ⟨_, _, _, h⟩
    have g1 : ∃ a n c, y = .slice a n c := by
      rcases f1 with h | ⟨a, n, c, h, _⟩ <;> simp at h <;> exact ⟨_, _, _, h⟩
    obtain ⟨a, n, c, rfl⟩ := g0
    obtain ⟨b, k, d, rfl⟩ := g1
    obtain ⟨l, hB, _⟩ := (show Rd enc m Try.prog W 22 [.slice a n c] from a0).bytes Try.underlying22 Try.underlying5 (by kernel_rfl) (by kernel_rfl)
    obtain ⟨r, hR, _⟩ := (show Rd enc m Try.prog W 22 [.slice b k d] from a1).bytes Try.underlying22 Try.underlying5 (by kernel_rfl) (by kernel_rfl)
    exact ⟨a, n, c, b, k, d, l, r, rfl, hB, hR⟩

theorem cksumFollows.walk {H : Type} {enc : TypeId × Value → H} (W : World) (args : Array Value) (hn : args.size = 3)
    (h : ∀ (j : Nat) t v, Try.f12.params[j]? = some t → args[j]? = some v → RdV enc false Try.prog W t v) :
    Calls Try.prog 12 args W fun e w' => e = .returned (.bool true) ∧ Below W.heap.size W w' := by
  obtain ⟨v0, v1, v2, rfl⟩ := args3 hn
  obtain ⟨a1, n1, k1, A, rfl, hA, _⟩ := (h 0 22 v0 rfl rfl).bytes Try.underlying22 Try.underlying5 (by kernel_rfl) (by kernel_rfl)
  obtain ⟨a2, n2, k2, B, rfl, hB, _⟩ := (h 1 22 v1 rfl rfl).bytes Try.underlying22 Try.underlying5 (by kernel_rfl) (by kernel_rfl)
  obtain ⟨a3, n3, k3, a4, n4, k4, F, T, rfl, hF, hT⟩ := arr2s (h 2 45 v2 rfl rfl)
  exact cksumFollows.core a1 a2 a3 a4 n1 n2 n3 n4 k1 k2 k3 k4 A B F T W hA hB hF hT

namespace cksumFollows
theorem spec {H : Type} (ds : List (DataW H)) (h : ds.length = Try.f12.params.size) : Rows.cksumFollowsSpec.fn H ds = { results := [.lit (.bool true)], args := ds } := by
  have h' : ds.length = 3 := h
  match ds, h' with
  | [_, _, _], _ => rfl

set_option maxRecDepth 100000 in
theorem lifted (os : Os) (started : os.Started) (H : Type) (enc : TypeId × Value → H) :
    ReturnsInHanded {} Try.checked os 12 .any (Rows.cksumFollowsSpec.pre6 enc Try.prog Try.f12 Rows.cksumFollowsRow.domain false) (Rows.cksumFollowsSpec.post enc Try.prog Try.f12 false true false false) :=
  lifted_said (C := Try.checked) (tb := 4) own started (by kernel_rfl) Try.func12
    (ChangeSpec.witness6 (enc := enc) (C := Try.checked) false ⟨#[], #[.slice none 0 0, .slice none 0 0, .agg #[.slice none 0 0, .slice none 0 0]], []⟩ 8 (by kernel_rfl) (by kernel_rfl) (by kernel_rfl) (by kernel_rfl))
    rfl spec rfl Try.underlying4 laidOut (by kernel_rfl) walk

theorem over : Rows.cksumFollowsRow.holds Try.pinned (OpenSpec.ofChange Rows.cksumFollowsSpec) :=
  OpenClaim.holds_of_wide 12 Try.f12 rfl rfl rfl rfl rfl rfl rfl ⟨rfl, rfl, rfl, rfl, rfl⟩ rfl rfl rfl rfl rfl (by kernel_rfl) Try.func12 (by kernel_rfl)
    (of_decide_eq_true (by kernel_rfl)) (by unfold Func.isWrapper; first | (rw [if_pos (by decide +kernel)]; kernel_rfl) | (rw [if_neg (by decide +kernel)]; exact ⟨rfl, rfl⟩))
    (fun os started H enc _ => lifted os started H enc)

theorem proved : Rows.CksumFollowsSaid := over
#print axioms proved
end cksumFollows

end Go.Proofs.Ytmffcjangmjnnaa
