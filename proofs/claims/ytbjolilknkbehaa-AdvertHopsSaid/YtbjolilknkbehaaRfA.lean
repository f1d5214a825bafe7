/- advert.addrs: what goes through the addresses of a body has its contract. -/
import Derived.Test.YtbjolilknkbehaaFad
import Derived.RangeFuncFrom
import Derived.OwnWalkIn
import Derived.TacticsInMore
import Derived.LoopNIn
import Derived.LoopIn
set_option linter.unusedSimpArgs false
set_option linter.unusedVariables false
namespace Go.Proofs.Ytbjolilknkbehaa
open Go Go.RowKit
attribute [local go_sem] Oper.semAt_some
def encS (x : List UInt8) : Value := .string ⟨x.toArray⟩
/-- what a round keeps: the body, and how long a part is -/
def KpA (Bb Bl : Nat) (W W' : World) : Prop := W'.cell? ⟨Bb, 0, none⟩ = W.cell? ⟨Bb, 0, none⟩ ∧ W'.cell? ⟨Bl, 0, none⟩ = W.cell? ⟨Bl, 0, none⟩
theorem KpA.t {Bb Bl : Nat} {A B C : World} (h : KpA Bb Bl A B) (k : KpA Bb Bl B C) : KpA Bb Bl A C := ⟨k.1.trans h.1, k.2.trans h.2⟩
theorem cell_putObj {W : World} {l B : Nat} {o : Obj} (h : B ≠ l) : (W.putObj l o).cell? ⟨B, 0, none⟩ = W.cell? ⟨B, 0, none⟩ := World.cell?_of_block (World.putObj_heap_other h)
theorem parts_length (m : Nat) : ∀ (l : List UInt8) (k : Nat), (parts m l k).length = k
  | _, 0 => rfl
  | l, k + 1 => congrArg (· + 1) (parts_length m (l.drop m) k)
theorem parts_snoc (m : Nat) : ∀ (l : List UInt8) (k : Nat), parts m l (k + 1) = parts m l k ++ [(l.drop (k * m)).take m]
  | l, 0 => by simp [parts]
  | l, k + 1 => by
    show l.take m :: parts m (l.drop m) (k + 1) = (l.take m :: parts m (l.drop m) k) ++ _
    rw [parts_snoc m (l.drop m) k, List.drop_drop, Nat.add_mul, Nat.one_mul, Nat.add_comm m (k * m)]
    rfl
theorem parts_prefix (m : Nat) : ∀ (l : List UInt8) (k c : Nat), k < c → parts m l (k + 1) <+: parts m l c
  | l, k, 0, h => by omega
  | l, 0, c + 1, _ => by
    show [l.take m] <+: l.take m :: parts m (l.drop m) c
    exact ⟨_, rfl⟩
  | l, k + 1, c + 1, h => by
    show l.take m :: parts m (l.drop m) (k + 1) <+: l.take m :: parts m (l.drop m) c
    exact (List.prefix_cons_inj _).2 (parts_prefix m (l.drop m) k c (by omega))
def mAt (N : Nat) (v : Value) : Nat := match v with
  | .int _ z => N - z.toNat
  | _ => 0
set_option maxRecDepth 100000 in
set_option maxHeartbeats 1000000 in
theorem addrs1_in (F : Fence) (n : Nat) (hF : F.fn 37) (hro : F.round = none) (hn : 1 ≤ n) (l Bb Bl : Nat) (b : List UInt8) (m c : Nat) (hm : 1 ≤ m) (hb : b.length = 8 + c * m) (hlen : b.length ≤ 140737488351232) (J Jx : List (List UInt8) → World → Prop)
    (hY : ∀ pre (x : List UInt8) W, J pre W → pre.length < c → x.length ≤ b.length → YieldAt F (n - 1) Try.prog l #[encS x] W fun e W' =>
      (e = .returned (.bool true) ∧ J (pre ++ [x]) W' ∧ KpA Bb Bl W W') ∨ (e = .returned (.bool false) ∧ Jx (pre ++ [x]) W'))
    (W : World) (hBb : W.cell? ⟨Bb, 0, none⟩ = some (encS b)) (hBl : W.cell? ⟨Bl, 0, none⟩ = some (.int .i64 (m : Int))) (h0 : J [] W) :
    CallsIn F n Try.prog 37 #[.func (.yield l) #[] #[], .pointer (some ⟨Bb, 0, none⟩), .pointer (some ⟨Bl, 0, none⟩)] W fun e W' => (∃ v, e = .returned v) ∧
      ((∃ ys, ys = parts m (b.drop 8) c ∧ J ys W') ∨ (∃ pre, pre <+: parts m (b.drop 8) c ∧ Jx pre W')) := by
  refine callsIn_of_wp Try.func37 rfl hF ?_ hro
  simp only [Try.ntmps37, List.size_toArray, List.length_cons, List.length_nil, Nat.reduceAdd, Nat.reduceSub, Array.replicate_succ, Array.replicate_zero, List.push_toArray, List.append_toArray, List.nil_append, List.cons_append]
  gi_wp2
  gi_loopw [4] (fun p wr => ∃ (k t : Nat), p = .int .i64 (t : Int) ∧ t = 8 + k * m ∧ k ≤ c ∧ wr.cell? ⟨Bb, 0, none⟩ = some (encS b) ∧ wr.cell? ⟨Bl, 0, none⟩ = some (.int .i64 (m : Int)) ∧ J (parts m (b.drop 8) k) wr)
    (fun p wr => mAt b.length p)
  case atStart => exact ⟨0, 8, rfl, by simp, Nat.zero_le _, hBb, hBl, h0⟩
  case round =>
    obtain ⟨k, t, rfl, ht, hk, hc1, hc2, hJ⟩ := hrel
    unfold encS at hc1
    rcases Nat.lt_or_ge k c with hkc | hkc
    · have hkm : (k + 1) * m ≤ c * m := Nat.mul_le_mul_right m hkc
      rw [Nat.add_mul, Nat.one_mul] at hkm
      have hlt : (t : Int) < (b.length : Int) := by omega
      have hwr : wrap64 ((t : Int) + (m : Int)) = (t : Int) + (m : Int) := IntWalk.wrap64_in _ (by omega)
      have hcut : ∀ w : World, (Instr.slice 9 (.string ⟨b.toArray⟩) (some (.int .i64 (t : Int))) (some (.int .i64 ((t : Int) + (m : Int)))) none).run Try.prog w = .ok (encS ((b.drop t).take m)) w := fun w => by
        rw [run_slice_string w 9 ⟨b.toArray⟩ .i64 .i64 (t : Int) ((t : Int) + (m : Int)) Try.underlying9 (by omega) (by omega) (by show _ ≤ ((b.toArray.size : Nat) : Int); rw [List.size_toArray]; omega), ByteArray.extract_mk]
        rw [show ((t : Int) + (m : Int)).toNat = t + m by omega, Int.toNat_natCast, Nat.add_sub_cancel_left]
        rfl
      obtain ⟨fn, tmps, assign, body, hy, hR⟩ := hY _ ((b.drop t).take m) wr hJ (by rw [parts_length]; exact hkc) (by rw [List.length_take, List.length_drop]; omega)
      have HT := hid ht
      have HB := hid hb
      clear ht hb
      gi_wp2
      refine hR.mono ?_
      rintro e W3 (⟨rfl, hJ3, hk3⟩ | ⟨rfl, hJx3⟩)
      · have hc3 := hk3.1.trans hc1
        have hc4 := hk3.2.trans hc2
        gi_wp2
        have ht := HT.out
        have hb := HB.out
        go_roundw
        case rel => exact ⟨k + 1, t + m, by rw [hwr]; simp, by rw [Nat.add_mul]; omega, hkc, hc3, hc4, by rw [parts_snoc, List.drop_drop, ← ht]; exact hJ3⟩
        case measure => rw [hwr]; simp only [mAt]; clear hR hy hcut hY; omega
      · gi_wp2
        have ht := HT.out
        refine bodyPost_ret (results_none rfl _ _ _) rfl ?_
        exact ⟨⟨_, rfl⟩, .inr ⟨_, parts_prefix m _ k c hkc, by rw [parts_snoc, List.drop_drop, ← ht]; exact hJx3⟩⟩
    · obtain rfl : k = c := by omega
      have hnl : ¬ (t : Int) < (b.length : Int) := by omega
      clear ht hb
      gi_wp2
      go_end0
      exact ⟨⟨_, rfl⟩, .inl hJ⟩
abbrev Str := { x : List UInt8 // x.length ≤ Ae.big }
theorem addrs_stops (F : Fence) (n : Nat) (hF : F.fn 37) (hro : F.round = none) (hn : 1 ≤ n) (Bb Bl : Nat) (b : List UInt8) (m c : Nat) (hm : 1 ≤ m) (hb : b.length = 8 + c * m) (hlen : b.length ≤ 140737488351232) (w : World)
    (h1 : Bb < w.heap.size) (h2 : Bl < w.heap.size) (hc1 : w.cell? ⟨Bb, 0, none⟩ = some (encS b)) (hc2 : w.cell? ⟨Bl, 0, none⟩ = some (.int .i64 (m : Int))) :
    SeqStopsK F n Try.prog 37 #[.pointer (some ⟨Bb, 0, none⟩), .pointer (some ⟨Bl, 0, none⟩)] (fun x : Str => #[encS x.1]) (KpA Bb Bl) (fun ys => ys.map (·.1) = parts m (b.drop 8) c) (fun pre => pre.map (·.1) <+: parts m (b.drop 8) c) c w := fun l J Jx W hW _ _ hY h0 => by
  refine (addrs1_in F n hF hro hn l Bb Bl b m c hm hb hlen (fun pre W => ∃ ys : List Str, ys.map (·.1) = pre ∧ J ys W) (fun pre W => ∃ ys : List Str, ys.map (·.1) = pre ∧ Jx ys W) (fun pre x W hJ hl hx => ?_) W ((hW.cell (p := ⟨Bb, 0, none⟩) h1).trans hc1) ((hW.cell (p := ⟨Bl, 0, none⟩) h2).trans hc2) ⟨[], rfl, h0⟩).mono ?_
  · obtain ⟨ys, rfl, hJ⟩ := hJ
    obtain ⟨fn, tmps, assign, body, h3, h4⟩ := hY ys ⟨x, by unfold Ae.big; omega⟩ W hJ (by simpa using hl)
    refine ⟨fn, tmps, assign, body, h3, h4.mono fun e W' h5 => ?_⟩
    rcases h5 with ⟨h6, h7, h8⟩ | ⟨h6, h7⟩
    · exact .inl ⟨h6, ⟨_, by simp, h7⟩, h8⟩
    · exact .inr ⟨h6, ⟨_, by simp, h7⟩⟩
  · rintro e W' ⟨h3, h4⟩
    refine ⟨h3, ?_⟩
    rcases h4 with ⟨ys, rfl, xs, h5, h6⟩ | ⟨pre, h5, xs, h6, h7⟩
    · exact .inl ⟨xs, h5, h6⟩
    · exact .inr ⟨xs, by show xs.map (·.1) <+: _; rw [h6]; exact h5, h7⟩
end Go.Proofs.Ytbjolilknkbehaa

