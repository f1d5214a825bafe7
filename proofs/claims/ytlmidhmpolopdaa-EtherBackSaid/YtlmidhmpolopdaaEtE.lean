/- Contract of the document's Decode of chapter 2. -/
import Derived.Test.YtlmidhmpolopdaaEtD
namespace Go.Proofs.Ytlmidhmpolopdaa
open Go.RowKit

/-- the frame after k rounds -/
def stage (A B : List Value) (t : Int) (s : ByteArray) (k : Nat) : List Value := (A.take k ++ List.replicate (6 - k) (.int .u8 0)) ++ (B.take k ++ List.replicate (6 - k) (.int .u8 0)) ++ [.int .i64 t, .string s]
theorem stage_step (A B : List Value) (t : Int) (s : ByteArray) (k : Nat) (hk : k < 6) (hA : A.length = 6) (hB : B.length = 6) :
    ((stage A B t s k).set k (A.getD k undef)).set (6 + k) (B.getD k undef) = stage A B t s (k + 1) := by
  match A, hA, B, hB with
  | [a, b, c, d, e, f], _, [a', b', c', d', e', f'], _ =>
    match k, hk with
    | 0, _ => rfl | 1, _ => rfl | 2, _ => rfl | 3, _ => rfl | 4, _ => rfl | 5, _ => rfl
theorem stage_len (A B : List Value) (t : Int) (s : ByteArray) (k : Nat) (hk : k ≤ 6) (hA : A.length = 6) (hB : B.length = 6) : (stage A B t s k).length = 14 := by
  simp [stage]; omega
theorem Holds.setCell {w : World} {g : Nat} {cs : List Value} {t : TypeId} (h : Holds w g cs t) (i : Nat) (v : Value) : Holds (w.setCell ⟨g, i, none⟩ v) g (cs.set i v) t := by
  unfold Holds at *
  rw [setCell_eq_setRow w g i _ t (0, 0) v h, setRow_heap w g _ _ t (0, 0) h]
  simp
theorem Holds.setCell_other {w : World} {g : Nat} {cs : List Value} {t : TypeId} (h : Holds w g cs t) (p : Addr) (hp : g ≠ p.block) (v : Value) : Holds (w.setCell p v) g cs t :=
  (Below.heap_setCell w p v g hp).trans h

set_option maxHeartbeats 2000000 in
theorem refDecode_long (a b c d e f a' b' c' d' e' f' y1 y2 : UInt8) (r : List UInt8) (p off n q : Nat) (w : World) (hB : Bytes w (some ⟨p, off, none⟩) n q ([a, b, c, d, e, f, a', b', c', d', e', f', y1, y2] ++ r)) (h1 : n ≤ 1514) (t : Nat) (ht : t = y1.toNat * 256 + y2.toNat) (R : Value) (hR : R = .tuple (if 1536 ≤ t then #[frameV a b c d e f a' b' c' d' e' f' t ⟨r.toArray⟩, .int .i64 0] else #[frame0, .int .i64 1])) :
    Calls Try.prog 16 #[.slice (some ⟨p, off, none⟩) n q] w fun x w' => x = .returned R ∧ Ext w w' := by
  have hle := hB.le
  have hroom := hB.room
  have hcap := hB.capr
  have hl : n = 14 + r.length := by have := hB.len; simp at this; omega
  have q1 : ((n : Int) < 14) = False := by simp; omega
  have q2 : ((1514 : Int) < (n : Int)) = False := by simp; omega
  have q3 : (12 : Int) < (n : Int) := by omega
  have q4 : (13 : Int) < (n : Int) := by omega
  have q5 : (14 : Int) ≤ (n : Int) := by omega
  have B14 : Bytes w (if q = 14 then some ⟨p, off, none⟩ else some ⟨p, off + 14, none⟩) (n - 14) (q - 14) r := by
    have := hB.subIf 14 n (by omega) (Nat.le_refl _)
    rw [show (([a, b, c, d, e, f, a', b', c', d', e', f', y1, y2] ++ r).take n).drop 14 = r by rw [List.take_of_length_le (by simp; omega)]; rfl] at this
    exact this
  have y1' : w.cell? ⟨p, off + 12, none⟩ = some (.int .u8 (y1.toNat : Int)) := hB.cell 12 (by omega) rfl
  have y2' : w.cell? ⟨p, off + 13, none⟩ = some (.int .u8 (y2.toNat : Int)) := hB.cell 13 (by omega) rfl
  have b12 := cell_below (below_alloc w (.cells #[.int .u8 0, .int .u8 0, .int .u8 0, .int .u8 0, .int .u8 0, .int .u8 0, .int .u8 0, .int .u8 0, .int .u8 0, .int .u8 0, .int .u8 0, .int .u8 0, .int .i64 0, .string ⟨#[]⟩] 25)) y1'
  have b13 := cell_below (below_alloc w (.cells #[.int .u8 0, .int .u8 0, .int .u8 0, .int .u8 0, .int .u8 0, .int .u8 0, .int .u8 0, .int .u8 0, .int .u8 0, .int .u8 0, .int .u8 0, .int .u8 0, .int .i64 0, .string ⟨#[]⟩] 25)) y2'
  have c12 := cell_below (below_alloc _ (.cells #[.int .u8 0, .int .u8 0, .int .u8 0, .int .u8 0, .int .u8 0, .int .u8 0, .int .u8 0, .int .u8 0, .int .u8 0, .int .u8 0, .int .u8 0, .int .u8 0, .int .i64 0, .string ⟨#[]⟩] 25)) b12
  have c13 := cell_below (below_alloc _ (.cells #[.int .u8 0, .int .u8 0, .int .u8 0, .int .u8 0, .int .u8 0, .int .u8 0, .int .u8 0, .int .u8 0, .int .u8 0, .int .u8 0, .int .u8 0, .int .u8 0, .int .i64 0, .string ⟨#[]⟩] 25)) b13
  clear y1' y2'
  have s1 := conv_string (P := Try.prog) Try.underlying26 Try.underlying5 Try.underlying9 ((B14.ext (below_alloc w (.cells #[.int .u8 0, .int .u8 0, .int .u8 0, .int .u8 0, .int .u8 0, .int .u8 0, .int .u8 0, .int .u8 0, .int .u8 0, .int .u8 0, .int .u8 0, .int .u8 0, .int .i64 0, .string ⟨#[]⟩] 25))).ext (Ext.refl _).drew)
  have s2 := conv_string (P := Try.prog) Try.underlying26 Try.underlying5 Try.underlying9 ((B14.ext (((Ext.refl w).alloc (.cells #[.int .u8 0, .int .u8 0, .int .u8 0, .int .u8 0, .int .u8 0, .int .u8 0, .int .u8 0, .int .u8 0, .int .u8 0, .int .u8 0, .int .u8 0, .int .u8 0, .int .i64 0, .string ⟨#[]⟩] 25)).alloc (.cells #[.int .u8 0, .int .u8 0, .int .u8 0, .int .u8 0, .int .u8 0, .int .u8 0, .int .u8 0, .int .u8 0, .int .u8 0, .int .u8 0, .int .u8 0, .int .u8 0, .int .i64 0, .string ⟨#[]⟩] 25))).ext (Ext.refl _).drew)
  have HR0 := hid hR
  clear hR
  have HL := hid hl
  have hT := add_two y1 y2
  rw [← ht] at hT
  have BA : Hid (Bytes w (some ⟨p, off, none⟩) 6 q [a, b, c, d, e, f]) := hid (hB.take 6 (by omega))
  have CB := hid hB
  have BB : Hid (Bytes w (some ⟨p, off + 6, none⟩) 6 (q - 6) [a', b', c', d', e', f']) := by
    have := ((hB.sub 6 n (off + 6) (n - 6) (q - 6) (by omega) (Nat.le_refl _) (fun _ => rfl) rfl (by omega)).take 6 (by omega))
    have e1 : ([a, b, c, d, e, f, a', b', c', d', e', f', y1, y2] ++ r).take n = [a, b, c, d, e, f, a', b', c', d', e', f', y1, y2] ++ r := List.take_of_length_le (by simp; omega)
    rw [e1] at this
    exact hid this
  clear hl B14 hB ht
  go_enter Try.func16, Try.ntmps16
  go_wp2_with fail
  go_region
  all_goals
    obtain ⟨X3, HR, HF⟩ := two_blocks w [.int .u8 0, .int .u8 0, .int .u8 0, .int .u8 0, .int .u8 0, .int .u8 0, .int .u8 0, .int .u8 0, .int .u8 0, .int .u8 0, .int .u8 0, .int .u8 0, .int .i64 0, .string ⟨#[]⟩] [.int .u8 0, .int .u8 0, .int .u8 0, .int .u8 0, .int .u8 0, .int .u8 0, .int .u8 0, .int .u8 0, .int .u8 0, .int .u8 0, .int .u8 0, .int .u8 0, .int .i64 t, .string ⟨r.toArray⟩] 25 25
    have R3 := hid HR
    have F3 := hid HF
    generalize (if q = 14 then some (⟨p, off, none⟩ : Addr) else some ⟨p, off + 14, none⟩) = dp at *
    go_wp2_with fail
    go_loopg [5] 6 (fun gk v5 wx => ∃ k : Nat, Ext w wx ∧ Holds wx (w.heap.size + 1) (stage [B8 a, B8 b, B8 c, B8 d, B8 e, B8 f] [B8 a', B8 b', B8 c', B8 d', B8 e', B8 f'] t ⟨r.toArray⟩ k) 25 ∧ Holds wx w.heap.size [.int .u8 0, .int .u8 0, .int .u8 0, .int .u8 0, .int .u8 0, .int .u8 0, .int .u8 0, .int .u8 0, .int .u8 0, .int .u8 0, .int .u8 0, .int .u8 0, .int .i64 0, .string ⟨#[]⟩] 25 ∧ v5 = .int .i64 k ∧ k + gk = 6)
    case atStart => exact ⟨0, X3, F3.out, R3.out, rfl, rfl⟩
    case round =>
      obtain ⟨k, X, hF, hR, rfl, hk⟩ := hrel
      have hnl := HL.out
      cases gk with
      | zero =>
        obtain rfl : k = 6 := by omega
        obtain ⟨m0, m1, m2, m3, m4, m5, m6, m7, m8, m9, m10, m11, m12, m13⟩ := cells14 (show _ = _ from hF)
        have R5 := hid hR
        clear hF hR hnl hk R3 F3
        by_cases ht : t < 1536
        · have q8 : ((t : Int) < 1536) = True := by simp; omega
          have hR := HR0.out
          rw [if_neg (by omega)] at hR
          subst hR
          go_wp2_with (refine wpList_store_block rfl (.tmp 2) (.tmp 51) 25 rfl (cs := [.int .u8 0, .int .u8 0, .int .u8 0, .int .u8 0, .int .u8 0, .int .u8 0, .int .u8 0, .int .u8 0, .int .u8 0, .int .u8 0, .int .u8 0, .int .u8 0, .int .i64 0, .string ⟨#[]⟩]) rfl rfl R5.out (by kernel_rfl) rfl rfl ?_; intro w6 F6 o6; obtain ⟨n0, n1, n2, n3, n4, n5, n6, n7, n8, n9, n10, n11, n12, n13⟩ := cells14 (show _ = _ from F6))
          refine bodyPost_ret ?_ rfl ⟨rfl, ?_⟩
          · rw [results_cell_tmp rfl]
            go_simp
          · exact Below.trans X (o6.below (Nat.le_refl _))
        · have q8 : ((t : Int) < 1536) = False := by simp; omega
          have hR := HR0.out
          rw [if_pos (by omega)] at hR
          subst hR
          go_wp2_with (refine wpList_store_block rfl (.tmp 2) (.tmp 52) 25 rfl (cs := [B8 a, B8 b, B8 c, B8 d, B8 e, B8 f, B8 a', B8 b', B8 c', B8 d', B8 e', B8 f', .int .i64 t, .string ⟨r.toArray⟩]) rfl rfl R5.out (by kernel_rfl) rfl rfl ?_; intro w6 F6 o6; obtain ⟨n0, n1, n2, n3, n4, n5, n6, n7, n8, n9, n10, n11, n12, n13⟩ := cells14 (show _ = _ from F6))
          refine bodyPost_ret ?_ rfl ⟨rfl, ?_⟩
          · rw [results_cell_tmp rfl]
            go_simp
          · exact Below.trans X (o6.below (Nat.le_refl _))
      | succ gk =>
        have q8 : (k : Int) < 6 := by omega
        have q9 : (k : Int) < (n : Int) := by omega
        have q10 : (6 : Int) + (k : Int) < (n : Int) := by omega
        have q11 : IntKind.i64.wrap ((k : Int) + 1) = (k : Int) + 1 := IntWalk.i64_in _ (by omega)
        have q12 : IntKind.i64.wrap (6 + (k : Int)) = 6 + (k : Int) := IntWalk.i64_in _ (by omega)
        have q13 : (6 + (k : Int)).toNat = 6 + k := by omega
        have q14 : (0 : Int) ≤ 6 + (k : Int) := by omega
        obtain ⟨x1, hx1, e1⟩ : ∃ x1 : UInt8, [B8 a, B8 b, B8 c, B8 d, B8 e, B8 f].getD k undef = B8 x1 ∧ ([a, b, c, d, e, f, a', b', c', d', e', f', y1, y2] ++ r).getD k 0 = x1 := by
          refine ⟨_, ?_, rfl⟩
          match k, (show k < 6 by omega) with
          | 0, _ => rfl | 1, _ => rfl | 2, _ => rfl | 3, _ => rfl | 4, _ => rfl | 5, _ => rfl
        obtain ⟨x2, hx2, e2⟩ : ∃ x2 : UInt8, [B8 a', B8 b', B8 c', B8 d', B8 e', B8 f'].getD k undef = B8 x2 ∧ ([a, b, c, d, e, f, a', b', c', d', e', f', y1, y2] ++ r).getD (6 + k) 0 = x2 := by
          refine ⟨_, ?_, rfl⟩
          match k, (show k < 6 by omega) with
          | 0, _ => rfl | 1, _ => rfl | 2, _ => rfl | 3, _ => rfl | 4, _ => rfl | 5, _ => rfl
        have hS := hid (stage_step [B8 a, B8 b, B8 c, B8 d, B8 e, B8 f] [B8 a', B8 b', B8 c', B8 d', B8 e', B8 f'] t ⟨r.toArray⟩ k (by omega) rfl rfl)
        rw [hx1, hx2] at hS
        have hln := stage_len [B8 a, B8 b, B8 c, B8 d, B8 e, B8 f] [B8 a', B8 b', B8 c', B8 d', B8 e', B8 f'] t ⟨r.toArray⟩ k (by omega) rfl rfl
        generalize stage [B8 a, B8 b, B8 c, B8 d, B8 e, B8 f] [B8 a', B8 b', B8 c', B8 d', B8 e', B8 f'] t ⟨r.toArray⟩ k = cs at *
        have c1 := (CB.out.ext X).cell k (by omega) (x := (x1.toNat : Int)) (by rw [e1])
        obtain ⟨u1, d1⟩ : ∃ u, wr.cell? ⟨w.heap.size + 1, k, none⟩ = some u := ⟨_, (hF.cell k).trans (List.getElem?_eq_getElem (by omega))⟩
        have f1 := hF.soft k
        have X1 : Ext w (wr.setCell ⟨w.heap.size + 1, k, none⟩ (.int .u8 (x1.toNat : Int))) := X.set (by simp) _
        have H1 := hF.setCell k (.int .u8 (x1.toNat : Int))
        have c2 := (CB.out.ext X1).cell (6 + k) (by omega) (x := (x2.toNat : Int)) (by rw [e2])
        obtain ⟨u2, d2⟩ : ∃ u, (wr.setCell ⟨w.heap.size + 1, k, none⟩ (.int .u8 (x1.toNat : Int))).cell? ⟨w.heap.size + 1, 6 + k, none⟩ = some u := ⟨_, (H1.cell (6 + k)).trans (List.getElem?_eq_getElem (by simp; omega))⟩
        have f2 := H1.soft (6 + k)
        have X2 := X1.set (p := ⟨w.heap.size + 1, 6 + k, none⟩) (by simp) (.int .u8 (x2.toNat : Int))
        have H2 := hid (H1.setCell (6 + k) (.int .u8 (x2.toNat : Int)))
        have hR2 := hid ((hR.setCell_other ⟨w.heap.size + 1, k, none⟩ (by simp) (.int .u8 (x1.toNat : Int))).setCell_other ⟨w.heap.size + 1, 6 + k, none⟩ (by simp) (.int .u8 (x2.toNat : Int)))
        clear hx1 hx2 e1 e2 hln hF hR H1 hnl X R3 F3
        go_wp2
        go_roundg gk
        case measure => omega
        case rel => exact ⟨k + 1, X2, by rw [← hS.out]; exact H2.out, hR2.out, by go_num, by omega⟩
end Go.Proofs.Ytlmidhmpolopdaa
