/- CksumBack: bytes with what is put behind them are good, if these are an even number. No condition. -/
import Derived.Test.YtmffcjangmjnnaaL01a
namespace Go.Proofs.Ytmffcjangmjnnaa
open Go.RowKit

theorem sum_put (l : List UInt8) (h : l.length % 2 = 0) (x y : UInt8) (hx : (x.toNat : Int) = (65535 - sumB l) / 256) (hy : (y.toNat : Int) = (65535 - sumB l) % 256) : sumB (l ++ [x, y]) = 65535 := by
  have hb := sumB_bd l
  rw [sumB_append _ _ h]
  have e : (raw true [x, y] : Int) = 65535 - sumB l := by simp [raw_cons]; omega
  rw [e, show sumB l + (65535 - sumB l) = 65535 from by omega]
  rfl

theorem u8_ex (v : Int) (h : 0 ≤ v ∧ v ≤ 255) : ∃ x : UInt8, (x.toNat : Int) = v := ⟨UInt8.ofNat v.toNat, by simp; omega⟩

set_option maxHeartbeats 400000 in
theorem cksumBack.core (a : Option Addr) (n c : Nat) (l : List UInt8) (w : World) (hp : Bytes w a n c l) (par : Bool) (hpar : ((n : Int) % 2 != 0) = par) :
    Calls Try.prog 8 #[.slice a n c] w fun e w' => e = .returned (.bool true) ∧ Below w.heap.size w w' := by
  have hb := sumB_bd l
  have hlen := hp.len
  have hle := hp.le
  have hroom := hp.room
  obtain ⟨x, hx⟩ := u8_ex ((65535 - sumB l) / 256) (by omega)
  obtain ⟨y, hy⟩ := u8_ex ((65535 - sumB l) % 256) (by omega)
  have hg : par = false → (sumB ([l, [x, y]].flatten) == 65535) = true := fun h => by
    subst h
    rw [show [l, [x, y]].flatten = l ++ [x, y] from by simp, sum_put l (by simp at hpar; omega) x y hx hy]
    rfl
  have HG := hid hg
  have HL := hid hlen
  have HX := hid (show #[Value.int .u8 ((65535 - sumB l) / 256), Value.int .u8 ((65535 - sumB l) % 256)] = ([x, y].map B8).toArray by simp [hx, hy])
  clear hlen hg hx hy
  go_enter Try.func8, Try.ntmps8
  go_wp2_with fail
  refine (put_is _ _ _ [l] (65535 - sumB l) _ (by simp) (Parts.one hp _ rfl) (by omega) (by simp; have := HL.out; omega)).mono ?_
  rintro e w' ⟨rfl, rfl⟩
  go_wp2_with fail
  have hB2 := Bytes.new (w.alloc (Obj.cells #[Value.slice a n c] 22)) _ 5 (w.heap.size + 1) 2 [x, y] (by simp) rfl HX.out (by decide)
  refine (good_is _ _ _ [l, [x, y]] (sumB ([l, [x, y]].flatten) == 65535) _ rfl (Parts.two ((hp.alloc _).alloc _) hB2 _ (by simp)) (by omega) (by simp; have := HL.out; omega)).mono ?_
  rintro e w' ⟨rfl, rfl⟩
  cases par
  · have hgt := HG.out rfl
    generalize (sumB ([l, [x, y]].flatten) == 65535) = g at *
    subst hgt
    go_wp2_with (go_at_call 13; refine (alive_c _).mono ?_; rintro e w1 ⟨rfl, hb1⟩)
    go_ret
    exact ⟨rfl, ((((Ext.refl w).alloc _).alloc _).alloc _).trans hb1⟩
  · generalize (sumB ([l, [x, y]].flatten) == 65535) = g at *
    go_wp2_with (go_at_call 13; refine (alive_c _).mono ?_; rintro e w1 ⟨rfl, hb1⟩)
    go_ret
    exact ⟨rfl, ((((Ext.refl w).alloc _).alloc _).alloc _).trans hb1⟩

theorem cksumBack.walk {H : Type} {enc : TypeId × Value → H} (W : World) (args : Array Value) (hn : args.size = 1)
    (h : ∀ (j : Nat) t v, Try.f8.params[j]? = some t → args[j]? = some v → RdV enc false Try.prog W t v) :
    Calls Try.prog 8 args W fun e w' => e = .returned (.bool true) ∧ Below W.heap.size W w' := by
  obtain ⟨v0, rfl⟩ := args1 hn
  obtain ⟨a, n, c, l, rfl, hA, hc⟩ := (h 0 22 v0 rfl rfl).bytes Try.underlying22 Try.underlying5 (by kernel_rfl) (by kernel_rfl)
  exact cksumBack.core a n c l W hA _ rfl

namespace cksumBack
theorem spec {H : Type} (ds : List (DataW H)) (h : ds.length = Try.f8.params.size) : Rows.cksumBackSpec.fn H ds = { results := [.lit (.bool true)], args := ds } := by
  have h' : ds.length = 1 := h
  match ds, h' with
  | [_], _ => rfl

set_option maxRecDepth 100000 in
theorem lifted (os : Os) (started : os.Started) (H : Type) (enc : TypeId × Value → H) :
    ReturnsInHanded {} Try.checked os 8 .any (Rows.cksumBackSpec.pre6 enc Try.prog Try.f8 Rows.cksumBackRow.domain false) (Rows.cksumBackSpec.post enc Try.prog Try.f8 false true false false) :=
  lifted_said (C := Try.checked) (tb := 4) own started (by kernel_rfl) Try.func8
    (ChangeSpec.witness6 (enc := enc) (C := Try.checked) false ⟨#[], #[.slice none 0 0], []⟩ 8 (by kernel_rfl) (by kernel_rfl) (by kernel_rfl) (by kernel_rfl))
    rfl spec rfl Try.underlying4 laidOut (by kernel_rfl) walk

theorem over : Rows.cksumBackRow.holds Try.pinned (OpenSpec.ofChange Rows.cksumBackSpec) :=
  OpenClaim.holds_of_wide 8 Try.f8 rfl rfl rfl rfl rfl rfl rfl ⟨rfl, rfl, rfl, rfl, rfl⟩ rfl rfl rfl rfl rfl (by kernel_rfl) Try.func8 (by kernel_rfl)
    (of_decide_eq_true (by kernel_rfl)) (by unfold Func.isWrapper; first | (rw [if_pos (by decide +kernel)]; kernel_rfl) | (rw [if_neg (by decide +kernel)]; exact ⟨rfl, rfl⟩))
    (fun os started H enc _ => lifted os started H enc)

theorem proved : Rows.CksumBackSaid := over
#print axioms proved
end cksumBack

end Go.Proofs.Ytmffcjangmjnnaa
