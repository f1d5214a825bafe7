/- CksumSums: the sum of any parts is the one that the document says, and what is put, and whether it is good; where what is read is together of bulk at most 1048576. -/
import Derived.Test.YtmffcjangmjnnaaL01a
import Derived.Test.YtmffcjangmjnnaaRegV
namespace Go.Proofs.Ytmffcjangmjnnaa
open Go.RowKit

set_option maxHeartbeats 1000000 in
theorem cksumSums.core (a1 a2 a3 : Option Addr) (n1 n2 n3 k1 k2 k3 : Nat) (A B C : List UInt8) (w : World) (hA : Bytes w a1 n1 k1 A) (hB : Bytes w a2 n2 k2 B) (hC : Bytes w a3 n3 k3 C)
    (m1 : k1 ≤ 1048576) (m2 : k2 ≤ 1048576) (m3 : k3 ≤ 1048576) :
    Calls Try.prog 6 #[.slice a1 n1 k1, .slice a2 n2 k2, .slice a3 n3 k3] w fun e w' => e = .returned (.bool true) ∧ Below w.heap.size w w' := by
  have l1 := hA.len
  have l2 := hB.len
  have l3 := hC.len
  have h1 := hA.le
  have h2 := hB.le
  have h3 := hC.le
  have hb := sumB_bd [A, B, C].flatten
  have hle : [A, B, C].flatten.length ≤ 562949953421312 := by simp; omega
  have HS := hid (show sumB ([] ++ A ++ B ++ C) = sumB [A, B, C].flatten by simp)
  have x1 : ([] : List UInt8).length + A.length ≤ 140737488355328 := by simp; omega
  have x2 : ([] ++ A : List UInt8).length + B.length ≤ 140737488355328 := by simp; omega
  have x3 : ([] ++ A ++ B : List UInt8).length + C.length ≤ 140737488355328 := by simp; omega
  have x4 : ([] ++ A ++ B ++ C : List UInt8).length ≤ 140737488355328 := by simp; omega
  clear l1 l2 l3 h1 h2 h3 m1 m2 m3
  go_enter Try.func6, Try.ntmps6
  have e0 : Ext w (w.alloc (.cells #[] 5)) := below_alloc _ _
  have O0 := OwnB.new w w.heap.size 5 #[] w.heap.size 0 [] (Nat.le_refl _) rfl rfl rfl (by decide)
  obtain ⟨Z, hZ⟩ : ∃ Z, ([] ++ A ++ B ++ C : List UInt8) = Z := ⟨_, rfl⟩
  rw [hZ] at HS
  go_wp2_with (first
    | (at_builtin; refine wpList_append_x rfl (.tmp 9) (.tmp 10) (t := 22) (by kernel_rfl) info_u8 rfl rfl O0 e0 rfl (hA.ext e0) x1 ?_; intro v1 w1 o1 e1)
    | (at_builtin; refine wpList_append_x rfl (.tmp 11) (.tmp 12) (t := 22) (by kernel_rfl) info_u8 rfl rfl o1 e1 rfl (hB.ext e1) x2 ?_; intro v2 w2 o2 e2)
    | (at_builtin; refine wpList_append_x rfl (.tmp 13) (.tmp 14) (t := 22) (by kernel_rfl) info_u8 rfl rfl o2 e2 rfl (hC.ext e2) x3 ?_; intro v3 w3 o3 e3; rw [hZ] at o3; obtain ⟨a7, c7, rfl, B7⟩ := o3.bytes (hZ ▸ x4); clear o3; generalize Z.length = z at B7 ⊢))
  have A3 := hA.ext e3
  have B3 := hB.ext e3
  have C3 := hC.ext e3
  clear O0 o1 o2 e0 e1 e2 x1 x2 x3 x4 hA hB hC
  go_at_call 16
  refine (refSum_c _ _ _ _ _ B7).mono ?_
  rintro e w4 ⟨rfl, rfl⟩
  rw [HS.out]
  generalize hs : sumB [A, B, C].flatten = s at hb
  have q1 : IntKind.i64.wrap s = s := IntWalk.i64_in _ (by omega)
  have q2 : IntKind.i64.wrap (65535 - s) = 65535 - s := IntWalk.i64_in _ (by omega)
  have q3 := hid hs
  clear hs HS
  go_wp2_with (go_at_call 13; refine (alive_c _).mono ?_; rintro e w5 ⟨rfl, hb5⟩)
  have A5 := A3.ext hb5
  have B5 := B3.ext hb5
  have C5 := C3.ext hb5
  go_at_call 14
  refine (sum_is _ _ _ [A, B, C] _ _ q3.out (Parts.three A5 B5 C5 _ rfl) (by decide) hle).mono ?_
  rintro e w6 ⟨rfl, rfl⟩
  go_wp2_with fail
  go_at_call 15
  refine (put_is _ _ _ [A, B, C] (65535 - s) _ (by rw [q3.out]) (Parts.three (A5.alloc _) (B5.alloc _) (C5.alloc _) _ (by simp)) (by decide) hle).mono ?_
  rintro e w6 ⟨rfl, rfl⟩
  go_wp2_with fail
  go_at_call 17
  refine (good_is _ _ _ [A, B, C] (s == 65535) _ (by rw [q3.out]) (Parts.three ((A5.alloc _).alloc _) ((B5.alloc _).alloc _) ((C5.alloc _).alloc _) _ (by simp)) (by decide) hle).mono ?_
  rintro e w6 ⟨rfl, rfl⟩
  go_wp2
  go_ret
  refine ⟨rfl, ?_⟩
  have f5 : Ext w w5 := Ext.trans e3 hb5
  clear hb5 e3
  show Ext w _
  refine Ext.alloc ?_ _
  refine Ext.alloc ?_ _
  refine Ext.alloc ?_ _
  exact f5

theorem cksumSums.walk {H : Type} {enc : TypeId × Value → H} (W : World) (args : Array Value) (hn : args.size = 3)
    (h : ∀ (j : Nat) t v, Try.f6.params[j]? = some t → args[j]? = some v → RdV enc true Try.prog W t v) :
    Calls Try.prog 6 args W fun e w' => e = .returned (.bool true) ∧ Below W.heap.size W w' := by
  obtain ⟨v0, v1, v2, rfl⟩ := args3 hn
  obtain ⟨a, n, c, l, rfl, hB, hc⟩ := (h 0 22 v0 rfl rfl).bytes Try.underlying22 Try.underlying5 (by kernel_rfl) (by kernel_rfl)
  obtain ⟨a', n', c', l', rfl, hB', hc'⟩ := (h 1 22 v1 rfl rfl).bytes Try.underlying22 Try.underlying5 (by kernel_rfl) (by kernel_rfl)
  obtain ⟨a'', n'', c'', l'', rfl, hB'', hc''⟩ := (h 2 22 v2 rfl rfl).bytes Try.underlying22 Try.underlying5 (by kernel_rfl) (by kernel_rfl)
  exact cksumSums.core a a' a'' n n' n'' c c' c'' l l' l'' W hB hB' hB'' hc hc' hc''

namespace cksumSums
theorem spec {H : Type} (ds : List (DataW H)) (h : ds.length = Try.f6.params.size) : Rows.cksumSumsSpec.fn H ds = { results := [.lit (.bool true)], args := ds } := by
  have h' : ds.length = 3 := h
  match ds, h' with
  | [_, _, _], _ => rfl

set_option maxRecDepth 100000 in
theorem lifted (os : Os) (started : os.Started) (H : Type) (enc : TypeId × Value → H) (F : Stop.Interp) :
    ReturnsInHanded {} Try.checked os 6 .any ((Rows.OpenSpec.upto Rows.cksumSumsSpec).pre6 enc Try.prog Try.f6 Rows.cksumSumsUptoRow.domain false) (((Rows.OpenSpec.upto Rows.cksumSumsSpec).at F).post enc Try.prog Try.f6 false true false false) :=
  lifted_upto (C := Try.checked) (s := Rows.cksumSumsSpec) (tb := 4) own started (by kernel_rfl) Try.func6
    (OpenSpec.witness (enc := enc) (C := Try.checked) (s := Rows.OpenSpec.upto Rows.cksumSumsSpec) (k := Rows.uptoSmall) rfl false ⟨#[], #[.slice none 0 0, .slice none 0 0, .slice none 0 0], []⟩ 8 (by kernel_rfl) (by kernel_rfl) (by kernel_rfl)
      (x := ([.nil, .nil, .nil], [], [])) (by kernel_rfl) rfl (by kernel_rfl))
    rfl spec rfl Try.underlying4 laidOut (by kernel_rfl) walk

theorem over : Rows.cksumSumsUptoRow.holds Try.pinned (Rows.OpenSpec.upto Rows.cksumSumsSpec) :=
  OpenClaim.holds_of_cond 6 Try.f6 rfl rfl rfl rfl rfl rfl rfl ⟨rfl, rfl, rfl, rfl, rfl⟩ rfl rfl rfl rfl rfl (by kernel_rfl) Try.func6 (by kernel_rfl)
    (of_decide_eq_true (by kernel_rfl)) (by unfold Func.isWrapper; first | (rw [if_pos (by decide +kernel)]; kernel_rfl) | (rw [if_neg (by decide +kernel)]; exact ⟨rfl, rfl⟩))
    (fun os started H enc _ F => lifted os started H enc F)

theorem proved : Rows.CksumSumsUptoSaid := over
#print axioms proved
end cksumSums

end Go.Proofs.Ytmffcjangmjnnaa
