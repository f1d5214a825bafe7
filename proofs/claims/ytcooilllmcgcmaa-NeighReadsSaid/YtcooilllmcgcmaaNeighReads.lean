/- NeighReads: any frame is read as the document says, or refused. No conditions. -/
import Derived.Test.YtcooilllmcgcmaaAl
set_option linter.unusedSimpArgs false
set_option linter.unusedVariables false
namespace Go.Proofs.Ytcooilllmcgcmaa.Ae
open Go Go.RowKit
def ann_outriderlaw04_NeighReads : Nat → List Nat × Nat × List (List Nat)
  | _ => ([], 0, [])
set_option maxRecDepth 100000 in
theorem NeighReads_eq (m0 m1 m2 m3 m4 m5 t0 t1 t2 t3 t4 t5 : UInt8) (n : Int) (b : List UInt8) (K : AVal → Hp → Prop) : fnP Try.prog Tlw ann_outriderlaw04_NeighReads Try.f3 [.agg [.byte m0, .byte m1, .byte m2, .byte m3, .byte m4, .byte m5, .byte t0, .byte t1, .byte t2, .byte t3, .byte t4, .byte t5, .int .i64 n, .str b]] [] K = (
  List.length b ≤ (140737488351232 : Nat) ∧
    List.length b ≤ (140737488351232 : Nat) ∧
     brP
      (decide
        ((nbRead (Fm.mk (Mc.mk m0 m1 m2 m3 m4 m5) (Mc.mk t0 t1 t2 t3 t4 t5) n b)).fst.kind =
         (nbRead (Fm.mk (Mc.mk m0 m1 m2 m3 m4 m5) (Mc.mk t0 t1 t2 t3 t4 t5) n b)).fst.kind) &&
       (decide
         ((nbRead (Fm.mk (Mc.mk m0 m1 m2 m3 m4 m5) (Mc.mk t0 t1 t2 t3 t4 t5) n b)).fst.mac.a0 =
          (nbRead (Fm.mk (Mc.mk m0 m1 m2 m3 m4 m5) (Mc.mk t0 t1 t2 t3 t4 t5) n b)).fst.mac.a0) &&
        (decide
          ((nbRead (Fm.mk (Mc.mk m0 m1 m2 m3 m4 m5) (Mc.mk t0 t1 t2 t3 t4 t5) n b)).fst.mac.a1 =
           (nbRead (Fm.mk (Mc.mk m0 m1 m2 m3 m4 m5) (Mc.mk t0 t1 t2 t3 t4 t5) n b)).fst.mac.a1) &&
         (decide
           ((nbRead (Fm.mk (Mc.mk m0 m1 m2 m3 m4 m5) (Mc.mk t0 t1 t2 t3 t4 t5) n b)).fst.mac.a2 =
            (nbRead (Fm.mk (Mc.mk m0 m1 m2 m3 m4 m5) (Mc.mk t0 t1 t2 t3 t4 t5) n b)).fst.mac.a2) &&
          (decide
            ((nbRead (Fm.mk (Mc.mk m0 m1 m2 m3 m4 m5) (Mc.mk t0 t1 t2 t3 t4 t5) n b)).fst.mac.a3 =
             (nbRead (Fm.mk (Mc.mk m0 m1 m2 m3 m4 m5) (Mc.mk t0 t1 t2 t3 t4 t5) n b)).fst.mac.a3) &&
           (decide
             ((nbRead (Fm.mk (Mc.mk m0 m1 m2 m3 m4 m5) (Mc.mk t0 t1 t2 t3 t4 t5) n b)).fst.mac.a4 =
              (nbRead (Fm.mk (Mc.mk m0 m1 m2 m3 m4 m5) (Mc.mk t0 t1 t2 t3 t4 t5) n b)).fst.mac.a4) &&
            (decide
              ((nbRead (Fm.mk (Mc.mk m0 m1 m2 m3 m4 m5) (Mc.mk t0 t1 t2 t3 t4 t5) n b)).fst.mac.a5 =
               (nbRead (Fm.mk (Mc.mk m0 m1 m2 m3 m4 m5) (Mc.mk t0 t1 t2 t3 t4 t5) n b)).fst.mac.a5) &&
             (decide
               ((nbRead (Fm.mk (Mc.mk m0 m1 m2 m3 m4 m5) (Mc.mk t0 t1 t2 t3 t4 t5) n b)).fst.addr =
                (nbRead (Fm.mk (Mc.mk m0 m1 m2 m3 m4 m5) (Mc.mk t0 t1 t2 t3 t4 t5) n b)).fst.addr) &&
              (decide
                ((nbRead (Fm.mk (Mc.mk m0 m1 m2 m3 m4 m5) (Mc.mk t0 t1 t2 t3 t4 t5) n b)).fst.target =
                 (nbRead (Fm.mk (Mc.mk m0 m1 m2 m3 m4 m5) (Mc.mk t0 t1 t2 t3 t4 t5) n b)).fst.target) &&
               decide
                ((nbRead (Fm.mk (Mc.mk m0 m1 m2 m3 m4 m5) (Mc.mk t0 t1 t2 t3 t4 t5) n b)).fst.asked =
                 (nbRead (Fm.mk (Mc.mk m0 m1 m2 m3 m4 m5) (Mc.mk t0 t1 t2 t3 t4 t5) n b)).fst.asked))))))))))
      (K
       (AVal.bool
        (decide
         ((nbRead (Fm.mk (Mc.mk m0 m1 m2 m3 m4 m5) (Mc.mk t0 t1 t2 t3 t4 t5) n b)).snd =
          (nbRead (Fm.mk (Mc.mk m0 m1 m2 m3 m4 m5) (Mc.mk t0 t1 t2 t3 t4 t5) n b)).snd)))
       [])
      (K (AVal.bool false) [])) := by kernel_rfl
theorem neighReads.core (m0 m1 m2 m3 m4 m5 t0 t1 t2 t3 t4 t5 : UInt8) (n : Int) (b : List UInt8)  (h_n : -9223372036854775808 ≤ n ∧ n ≤ 9223372036854775807) (h_b : b.length ≤ 140737488351232) :
    fnP Try.prog Tlw ann_outriderlaw04_NeighReads Try.f3 [.agg [.byte m0, .byte m1, .byte m2, .byte m3, .byte m4, .byte m5, .byte t0, .byte t1, .byte t2, .byte t3, .byte t4, .byte t5, .int .i64 n, .str b]] [] (fun v _ => v = .bool true) := by
  rw [NeighReads_eq]
  refine ⟨h_b, h_b, ?_⟩
  simp [brP]
end Go.Proofs.Ytcooilllmcgcmaa.Ae
namespace Go.Proofs.Ytcooilllmcgcmaa
open Go Go.RowKit Ae
attribute [local irreducible] fnP in
set_option maxRecDepth 100000 in
theorem neighReads.walk {H : Type} {enc : TypeId × Value → H} (W : World) (args : Array Value) (hn : args.size = 1)
    (h : ∀ (j : Nat) t v, Try.f3.params[j]? = some t → args[j]? = some v → RdV enc false Try.prog W t v) :
    Calls Try.prog 3 args W fun e w' => e = .returned (.bool true) ∧ Below W.heap.size W w' := by
  obtain ⟨v0, rfl⟩ := args1 hn
  obtain ⟨vs0, hs0, hv0⟩ := arg_agg (b := false) (d := 6) (ks := [.byte, .byte, .byte, .byte, .byte, .byte, .byte, .byte, .byte, .byte, .byte, .byte, .int .i64, .str]) (.inl ⟨_, Try.underlying25⟩) (by kernel_rfl) (h 0 25 v0 rfl rfl)
  obtain ⟨_, _, rfl, ⟨m0, rfl⟩, _, _, rfl, ⟨m1, rfl⟩, _, _, rfl, ⟨m2, rfl⟩, _, _, rfl, ⟨m3, rfl⟩, _, _, rfl, ⟨m4, rfl⟩, _, _, rfl, ⟨m5, rfl⟩, _, _, rfl, ⟨t0, rfl⟩, _, _, rfl, ⟨t1, rfl⟩, _, _, rfl, ⟨t2, rfl⟩, _, _, rfl, ⟨t3, rfl⟩, _, _, rfl, ⟨t4, rfl⟩, _, _, rfl, ⟨t5, rfl⟩, _, _, rfl, ⟨n, rfl, h_n⟩, _, _, rfl, ⟨b, rfl, h_b⟩, rfl⟩ := hs0
  obtain ⟨r, H1, hr, hG⟩ := fn_sound Tlw_sound mixed Try.func3 (by decide +kernel) (neighReads.core m0 m1 m2 m3 m4 m5 t0 t1 t2 t3 t4 t5 n b (i64_bd h_n) (len_lim h_b))
  subst hr
  exact law_walk hG (vl_cons hv0 vl_nil)

namespace neighReads
theorem spec {H : Type} (ds : List (DataW H)) (h : ds.length = Try.f3.params.size) : Rows.neighReadsSpec.fn H ds = { results := [.lit (.bool true)], args := ds } := by
  have h' : ds.length = 1 := h
  match ds, h' with
  | [_], _ => rfl

set_option maxRecDepth 100000 in
theorem lifted (os : Os) (started : os.Started) (H : Type) (enc : TypeId × Value → H) :
    ReturnsInHanded {} Try.checked os 3 .any (Rows.neighReadsSpec.pre6 enc Try.prog Try.f3 Rows.neighReadsRow.domain false) (Rows.neighReadsSpec.post enc Try.prog Try.f3 false true false false) :=
  lifted_said (C := Try.checked) (tb := 4) own started (by kernel_rfl) Try.func3
    (ChangeSpec.witness6 (enc := enc) (C := Try.checked) false ⟨#[], #[.agg #[.int .u8 0, .int .u8 0, .int .u8 0, .int .u8 0, .int .u8 0, .int .u8 0, .int .u8 0, .int .u8 0, .int .u8 0, .int .u8 0, .int .u8 0, .int .u8 0, .int .i64 0, .string .empty]], []⟩ 8 (by kernel_rfl) (by kernel_rfl) (by kernel_rfl) (by kernel_rfl))
    rfl spec rfl Try.underlying4 laidOut (by kernel_rfl) walk

theorem over : Rows.neighReadsRow.holds Try.pinned (OpenSpec.ofChange Rows.neighReadsSpec) :=
  OpenClaim.holds_of_wide 3 Try.f3 rfl rfl rfl rfl rfl rfl rfl ⟨rfl, rfl, rfl, rfl, rfl⟩ rfl rfl rfl rfl rfl (by kernel_rfl) Try.func3 (by kernel_rfl)
    (of_decide_eq_true (by kernel_rfl)) (by unfold Func.isWrapper; first | (rw [if_pos (by decide +kernel)]; kernel_rfl) | (rw [if_neg (by decide +kernel)]; exact ⟨rfl, rfl⟩))
    (fun os started H enc _ => lifted os started H enc)

theorem proved : Rows.NeighReadsSaid := over
#print axioms proved
end neighReads

end Go.Proofs.Ytcooilllmcgcmaa

