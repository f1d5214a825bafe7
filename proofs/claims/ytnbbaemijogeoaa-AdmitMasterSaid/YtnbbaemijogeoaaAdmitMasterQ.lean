/- AdmitMaster: what only a master serves is never told to a backup; all else is to both the same, but for the card that masters have. No conditions. -/
import Derived.Test.YtnbbaemijogeoaaBsd
import Derived.Test.YtnbbaemijogeoaaBsf
set_option linter.unusedSimpArgs false
set_option linter.unusedVariables false
set_option maxRecDepth 100000
namespace Go.Proofs.Ytnbbaemijogeoaa.Ae
open Go Go.RowKit
def ann_outriderlaw20_AdmitMaster : Nat → List Nat × Nat × List (List Nat)
  | 3 => ([], 10, [[], [0], [], [0, 1, 2], [], [0, 1, 2, 3, 4], [], [0, 1, 2, 3, 4, 5, 6], [], []])
  | 8 => ([], 8, [[], [0], [0, 1], [0, 1, 2], [0, 1], [0, 1, 2, 3, 4], [0, 1, 2, 3, 4, 5], [0, 1, 2, 3, 4, 5, 6]])
  | 2000004 => ([], 22, [[], [0], [0, 1], [0, 1, 2], [0, 1, 2, 3], [0, 1, 2, 3, 4], [0, 1, 2, 3, 4, 5], [0, 1, 2, 3, 4, 5, 6], [0, 1, 2, 3, 4, 5, 6, 7], [0, 1, 2, 3, 4, 5, 6, 7, 8], [0, 1, 2, 3, 4, 5, 6, 7, 8, 9], [0, 1, 2, 3, 4, 5, 6, 7, 8, 9, 10], [0, 1, 2, 3, 4, 5, 6, 7, 8, 9, 10, 11], [0, 1, 2, 3, 4, 5, 6, 7, 8, 9, 10, 11, 12], [0, 1, 2, 3, 4, 5, 6, 7, 8, 9, 10, 11, 12, 13], [0, 1, 2, 3, 4, 5, 6, 7, 8, 9, 10, 11, 12, 13, 14], [0, 1, 2, 3, 4, 5, 6, 7, 8, 9, 10, 11, 12, 13, 14, 15], [0, 1, 2, 3, 4, 5, 6, 7, 8, 9, 10, 11, 12, 13, 14, 15, 16], [0, 1, 2, 3, 4, 5, 6, 7, 8, 9, 10, 11, 12, 13, 14, 15, 16, 17], [0, 1, 2, 3, 4, 5, 6, 7, 8, 9, 10, 11, 12, 13, 14, 15, 16, 17, 18], [0, 1, 2, 3, 4, 5, 6, 7, 8, 9, 10, 11, 12, 13, 14, 15, 16, 17, 18, 19]])
  | 2000006 => ([], 9, [[], [0], [0, 1], [0, 1, 2], [0, 1, 2, 3], [0, 1, 2, 3, 4], [0, 1, 2, 3, 4, 5], [0, 1, 2, 3, 4, 5, 6]])
  | _ => ([], 0, [])
set_option maxRecDepth 100000 in
theorem AdmitMaster_eq (c : CfV) (b : List UInt8) (K : AVal → Hp → Prop) : fnP Try.prog Tgx ann_outriderlaw20_AdmitMaster Try.f4 [.agg (cfCells c), .roB b] [] K = (
 IsCf [.byte c.mac.a0, .byte c.mac.a1, .byte c.mac.a2, .byte c.mac.a3, .byte c.mac.a4, .byte c.mac.a5, .str c.addr, .str c.peer, .int .i64 c.id, .int .i64 c.pri, .int .i64 c.every, .bool c.pre, .ro (List.length c.vips) (1 : Nat) fun i => [.str (List.getD c.vips i [])], .ro (List.length c.trs) (2 : Nat) (trF c.trs), .ro (List.length c.svs) (10 : Nat) (svF c.svs)] ∧ brP (!fewB [.byte c.mac.a0, .byte c.mac.a1, .byte c.mac.a2, .byte c.mac.a3, .byte c.mac.a4, .byte c.mac.a5, .str c.addr, .str c.peer, .int .i64 c.id, .int .i64 c.pri, .int .i64 c.every, .bool c.pre, .ro (List.length c.vips) (1 : Nat) fun i => [.str (List.getD c.vips i [])], .ro (List.length c.trs) (2 : Nat) (trF c.trs), .ro (List.length c.svs) (10 : Nat) (svF c.svs)]) (K (.bool true) []) (IsCf [.byte c.mac.a0, .byte c.mac.a1, .byte c.mac.a2, .byte c.mac.a3, .byte c.mac.a4, .byte c.mac.a5, .str c.addr, .str c.peer, .int .i64 c.id, .int .i64 c.pri, .int .i64 c.every, .bool c.pre, .ro (List.length c.vips) (1 : Nat) fun i => [.str (List.getD c.vips i [])], .ro (List.length c.trs) (2 : Nat) (trF c.trs), .ro (List.length c.svs) (10 : Nat) (svF c.svs)] ∧ (IsCf [.byte c.mac.a0, .byte c.mac.a1, .byte c.mac.a2, .byte c.mac.a3, .byte c.mac.a4, .byte c.mac.a5, .str c.addr, .str c.peer, .int .i64 c.id, .int .i64 c.pri, .int .i64 c.every, .bool c.pre, .ro (List.length c.vips) (1 : Nat) fun i => [.str (List.getD c.vips i [])], .ro (List.length c.trs) (2 : Nat) (trF c.trs), .ro (List.length c.svs) (10 : Nat) (svF c.svs)] ∧ List.length b ≤ (140737488351232 : Nat)) ∧ optP (srtO (cfOf [.byte c.mac.a0, .byte c.mac.a1, .byte c.mac.a2, .byte c.mac.a3, .byte c.mac.a4, .byte c.mac.a5, .str c.addr, .str c.peer, .int .i64 c.id, .int .i64 c.pri, .int .i64 c.every, .bool c.pre, .ro (List.length c.vips) (1 : Nat) fun i => [.str (List.getD c.vips i [])], .ro (List.length c.trs) (2 : Nat) (trF c.trs), .ro (List.length c.svs) (10 : Nat) (svF c.svs)]) false b) (fun x => IsCf
 [.byte c.mac.a0, .byte c.mac.a1, .byte c.mac.a2, .byte c.mac.a3, .byte c.mac.a4, .byte c.mac.a5, .str c.addr, .str c.peer, .int .i64 c.id, .int .i64 c.pri, .int .i64 c.every, .bool c.pre, .ro (List.length c.vips) (1 : Nat) fun i => [.str (List.getD c.vips i [])], .ro (List.length c.trs) (2 : Nat) (trF c.trs), .ro (List.length c.svs) (10 : Nat) (svF c.svs)] ∧ (IsCf [.byte c.mac.a0, .byte c.mac.a1, .byte c.mac.a2, .byte c.mac.a3, .byte c.mac.a4, .byte c.mac.a5, .str c.addr, .str c.peer, .int .i64 c.id, .int .i64 c.pri, .int .i64 c.every, .bool c.pre, .ro (List.length c.vips) (1 : Nat) fun i => [.str (List.getD c.vips i [])], .ro (List.length c.trs) (2 : Nat) (trF c.trs), .ro (List.length c.svs) (10 : Nat) (svF c.svs)] ∧ List.length b ≤ (140737488351232 : Nat)) ∧ optP (srtO (cfOf [.byte c.mac.a0, .byte c.mac.a1, .byte c.mac.a2, .byte c.mac.a3, .byte c.mac.a4, .byte c.mac.a5, .str c.addr, .str c.peer, .int .i64 c.id, .int .i64 c.pri, .int .i64 c.every, .bool c.pre, .ro (List.length c.vips) (1 : Nat) fun i => [.str (List.getD c.vips i [])], .ro (List.length c.trs) (2 : Nat) (trF c.trs), .ro (List.length c.svs) (10 : Nat) (svF c.svs)]) true b) (fun x_1 => brP (decide ((4 : Int) ≤ x.kind) || !decide (decide (x.kind = (0 : Int)) = !decide (x.why = (0 : Int))) || !decide (decide (x_1.kind = (0 : Int)) = !decide (x_1.why = (0 : Int)))) (K (.bool false) []) (brP (decide (x.why = (200 : Int)) || decide (x.why = (201 : Int))) (K (.bool true) []) ((IsVd [.int .i64 x.kind, .int .i64 x.why, .byte x.fm.a.a0, .byte x.fm.a.a1, .byte x.fm.a.a2, .byte x.fm.a.a3, .byte x.fm.a.a4, .byte x.fm.a.a5, .byte x.fm.b.a0, .byte x.fm.b.a1, .byte x.fm.b.a2, .byte x.fm.b.a3, .byte x.fm.b.a4, .byte x.fm.b.a5, .int .i64 x.fm.ty, .str x.fm.body, .int .i64 x.nt.kind, .byte x.nt.mac.a0, .byte x.nt.mac.a1, .byte x.nt.mac.a2, .byte x.nt.mac.a3, .byte x.nt.mac.a4, .byte x.nt.mac.a5, .str x.nt.addr, .str x.nt.target, .bool x.nt.asked, .int .i64 x.a.id, .int .i64 x.a.pri, .int .i64 x.a.every,
 .ro (List.length x.a.addrs) (1 : Nat) fun i => [.str (List.getD x.a.addrs i [])], .str x.p.src, .str x.p.dst, .int .i64 x.p.proto, .int .i64 x.p.ttl, .str x.p.body, .int .i64 x.fl.proto, .str x.fl.src, .str x.fl.dst, .int .i64 x.fl.port, .int .i64 x.fl.dest, .int .i64 x.flags, .int .i64 x.svc, .int .i64 x.bk] ∧ IsVd [.int .i64 x_1.kind, .int .i64 x_1.why, .byte x_1.fm.a.a0, .byte x_1.fm.a.a1, .byte x_1.fm.a.a2, .byte x_1.fm.a.a3, .byte x_1.fm.a.a4, .byte x_1.fm.a.a5, .byte x_1.fm.b.a0, .byte x_1.fm.b.a1, .byte x_1.fm.b.a2, .byte x_1.fm.b.a3, .byte x_1.fm.b.a4, .byte x_1.fm.b.a5, .int .i64 x_1.fm.ty, .str x_1.fm.body, .int .i64 x_1.nt.kind, .byte x_1.nt.mac.a0, .byte x_1.nt.mac.a1, .byte x_1.nt.mac.a2, .byte x_1.nt.mac.a3, .byte x_1.nt.mac.a4, .byte x_1.nt.mac.a5, .str x_1.nt.addr, .str x_1.nt.target, .bool x_1.nt.asked, .int .i64 x_1.a.id, .int .i64 x_1.a.pri, .int .i64 x_1.a.every, .ro (List.length x_1.a.addrs) (1 : Nat) fun i => [.str (List.getD x_1.a.addrs i [])], .str x_1.p.src, .str x_1.p.dst, .int .i64 x_1.p.proto, .int .i64 x_1.p.ttl, .str x_1.p.body, .int .i64 x_1.fl.proto, .str x_1.fl.src, .str x_1.fl.dst, .int .i64 x_1.fl.port, .int .i64 x_1.fl.dest, .int .i64 x_1.flags, .int .i64 x_1.svc, .int .i64 x_1.bk]) ∧ K (.bool (sameV (vdOf [.int .i64 x.kind, .int .i64 x.why, .byte x.fm.a.a0, .byte x.fm.a.a1, .byte x.fm.a.a2, .byte x.fm.a.a3, .byte x.fm.a.a4, .byte x.fm.a.a5, .byte x.fm.b.a0, .byte x.fm.b.a1, .byte x.fm.b.a2, .byte x.fm.b.a3, .byte x.fm.b.a4, .byte x.fm.b.a5, .int .i64 x.fm.ty, .str x.fm.body, .int .i64 x.nt.kind, .byte x.nt.mac.a0, .byte x.nt.mac.a1, .byte x.nt.mac.a2, .byte x.nt.mac.a3, .byte x.nt.mac.a4, .byte x.nt.mac.a5, .str x.nt.addr, .str x.nt.target, .bool x.nt.asked, .int .i64 x.a.id, .int .i64 x.a.pri, .int .i64 x.a.every, .ro (List.length x.a.addrs) (1 : Nat) fun i => [.str (List.getD x.a.addrs i [])], .str x.p.src, .str x.p.dst, .int .i64 x.p.proto, .int .i64 x.p.ttl, .str x.p.body, .int .i64 x.fl.proto, .str x.fl.src, .str x.fl.dst,
 .int .i64 x.fl.port, .int .i64 x.fl.dest, .int .i64 x.flags, .int .i64 x.svc, .int .i64 x.bk]) (vdOf [.int .i64 x_1.kind, .int .i64 x_1.why, .byte x_1.fm.a.a0, .byte x_1.fm.a.a1, .byte x_1.fm.a.a2, .byte x_1.fm.a.a3, .byte x_1.fm.a.a4, .byte x_1.fm.a.a5, .byte x_1.fm.b.a0, .byte x_1.fm.b.a1, .byte x_1.fm.b.a2, .byte x_1.fm.b.a3, .byte x_1.fm.b.a4, .byte x_1.fm.b.a5, .int .i64 x_1.fm.ty, .str x_1.fm.body, .int .i64 x_1.nt.kind, .byte x_1.nt.mac.a0, .byte x_1.nt.mac.a1, .byte x_1.nt.mac.a2, .byte x_1.nt.mac.a3, .byte x_1.nt.mac.a4, .byte x_1.nt.mac.a5, .str x_1.nt.addr, .str x_1.nt.target, .bool x_1.nt.asked, .int .i64 x_1.a.id, .int .i64 x_1.a.pri, .int .i64 x_1.a.every, .ro (List.length x_1.a.addrs) (1 : Nat) fun i => [.str (List.getD x_1.a.addrs i [])], .str x_1.p.src, .str x_1.p.dst, .int .i64 x_1.p.proto, .int .i64 x_1.p.ttl, .str x_1.p.body, .int .i64 x_1.fl.proto, .str x_1.fl.src, .str x_1.fl.dst, .int .i64 x_1.fl.port, .int .i64 x_1.fl.dest, .int .i64 x_1.flags, .int .i64 x_1.svc, .int .i64 x_1.bk]))) []))) False) False)) := by kernel_rfl
attribute [local irreducible] fnP srt in
theorem admitMaster.core (c : CfV) (b : List UInt8) (h_c : CfOk c) (h_b : b.length ≤ 140737488351232) :
    fnP Try.prog Tgx ann_outriderlaw20_AdmitMaster Try.f4 [.agg (cfCells c), .roB b] [] (fun v _ => v = .bool true) := by
  rw [AdmitMaster_eq]
  have hIs : IsCf (cfCells c) := ⟨c, rfl, h_c⟩
  have hb := h_b
  have so : ∀ m, srtO (cfOf (cfCells c)) m b = some (srt c m b) := fun m => by rw [cfOf_of, srtO_is]
  refine ⟨hIs, brP_i (fun _ => rfl) (fun _ => ⟨hIs, ⟨hIs, hb⟩, optP_i (fun x hx => ⟨hIs, ⟨hIs, hb⟩, optP_i (fun y hy => ?_) (fun hy => ?_)⟩) (fun hx => ?_)⟩)⟩
  · obtain rfl : srt c false b = x := Option.some.inj ((so false).symm.trans hx)
    obtain rfl : srt c true b = y := Option.some.inj ((so true).symm.trans hy)
    have k1 := srt_low c b
    have k2 := srt_kind (c := c) (m := false) (b := b)
    have k3 := srt_kind (c := c) (m := true) (b := b)
    have k4 := srt_both c b
    have l1 := srt_len c false b
    have l2 := srt_len c true b
    generalize srt c false b = v at *
    generalize srt c true b = w at *
    refine brP_i (fun h => ?_) (fun h => brP_i (fun _ => rfl) (fun h2 => ⟨⟨⟨v, l1, .inl rfl⟩, ⟨w, l2, .inl rfl⟩⟩, ?_⟩))
    · exfalso
      have e1 : decide (v.kind = 0) = !decide (v.why = 0) := by rw [Bool.eq_iff_iff]; simpa using k2
      have e2 : decide (w.kind = 0) = !decide (w.why = 0) := by rw [Bool.eq_iff_iff]; simpa using k3
      rw [e1, e2, decide_eq_false (show ¬ 4 ≤ v.kind by omega)] at h
      simp at h
    · simp only [Bool.and_eq_true, Bool.or_eq_true, Bool.and_eq_false_iff, Bool.or_eq_false_iff, decide_eq_true_eq, decide_eq_false_iff_not, Bool.not_eq_true', Bool.not_eq_false', Bool.not_true, Bool.not_false, Bool.true_and, Bool.and_true, Bool.false_or, Bool.or_false, beq_iff_eq, beq_eq_false_iff_ne, ne_eq] at h2
      have e : v = w := by
        rcases k4 with q | q | q
        · exact absurd q h2.1
        · exact absurd q h2.2
        · exact q
      subst e
      have e3 : sameV (vdOf (vdCells v)) (vdOf (vdCells v)) = true := sameV_refl _
      exact congrArg AVal.bool e3
  · exact absurd (hy.symm.trans (so true)) (by simp)
  · exact absurd (hx.symm.trans (so false)) (by simp)
end Go.Proofs.Ytnbbaemijogeoaa.Ae
namespace Go.Proofs.Ytnbbaemijogeoaa
open Go Go.RowKit Ae
attribute [local irreducible] fnP in
set_option maxRecDepth 100000 in
theorem admitMaster.walk {H : Type} {enc : TypeId × Value → H} (W : World) (args : Array Value) (hn : args.size = 2)
    (h : ∀ (j : Nat) t v, Try.f4.params[j]? = some t → args[j]? = some v → RdV enc false Try.prog W t v) :
    Calls Try.prog 4 args W fun e w' => e = .returned (.bool true) ∧ Below W.heap.size W w' := by
  obtain ⟨v0, v1, rfl⟩ := args2 hn
  obtain ⟨c, h_c, hv0⟩ := arg_struct (b := false) (.inl ⟨_, Try.underlying29⟩) open_cf (h 0 29 v0 rfl rfl)
  obtain ⟨b, h_b, hv1⟩ := arg_bytes (b := false) (m := Mp.nil) (G := []) Try.underlying46 Try.underlying5 (by kernel_rfl) (by kernel_rfl) (h 1 46 v1 rfl rfl)
  obtain ⟨r, H1, hr, hG⟩ := fn_sound Tgx_sound mixed Try.func4 (by decide +kernel) (admitMaster.core c b h_c (len_lim h_b))
  subst hr
  exact law_walk hG (vl_cons hv0 (vl_cons hv1 vl_nil))

namespace admitMaster
theorem spec {H : Type} (ds : List (DataW H)) (h : ds.length = Try.f4.params.size) : Rows.admitMasterSpec.fn H ds = { results := [.lit (.bool true)], args := ds } := by
  have h' : ds.length = 2 := h
  match ds, h' with
  | [_, _], _ => rfl

set_option maxRecDepth 100000 in
theorem lifted (os : Os) (started : os.Started) (H : Type) (enc : TypeId × Value → H) :
    ReturnsInHanded {} Try.checked os 4 .any (Rows.admitMasterSpec.pre6 enc Try.prog Try.f4 Rows.admitMasterRow.domain false) (Rows.admitMasterSpec.post enc Try.prog Try.f4 false true false false) :=
  lifted_said (C := Try.checked) (tb := 4) own started (by kernel_rfl) Try.func4
    (ChangeSpec.witness6 (enc := enc) (C := Try.checked) false ⟨#[], #[.agg #[.int .u8 0, .int .u8 0, .int .u8 0, .int .u8 0, .int .u8 0, .int .u8 0, .string .empty, .string .empty, .int .i64 0, .int .i64 0, .int .i64 0, .bool false, .slice none 0 0, .slice none 0 0, .slice none 0 0], .slice none 0 0], []⟩ 8 (by kernel_rfl) (by kernel_rfl) (by kernel_rfl) (by kernel_rfl))
    rfl spec rfl Try.underlying4 laidOut (by kernel_rfl) walk

theorem over : Rows.admitMasterRow.holds Try.pinned (OpenSpec.ofChange Rows.admitMasterSpec) :=
  OpenClaim.holds_of_wide 4 Try.f4 rfl rfl rfl rfl rfl rfl rfl ⟨rfl, rfl, rfl, rfl, rfl⟩ rfl rfl rfl rfl rfl (by kernel_rfl) Try.func4 (by kernel_rfl)
    (of_decide_eq_true (by kernel_rfl)) (by unfold Func.isWrapper; first | (rw [if_pos (by decide +kernel)]; kernel_rfl) | (rw [if_neg (by decide +kernel)]; exact ⟨rfl, rfl⟩))
    (fun os started H enc _ => lifted os started H enc)

theorem proved : Rows.AdmitMasterSaid := over
#print axioms proved
end admitMaster

end Go.Proofs.Ytnbbaemijogeoaa

