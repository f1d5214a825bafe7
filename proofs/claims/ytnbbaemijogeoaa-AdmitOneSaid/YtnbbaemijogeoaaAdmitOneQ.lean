/- AdmitOne: of a frame that is dropped nothing else is told; of one that is not, the frame is. No conditions. -/
import Derived.Test.YtnbbaemijogeoaaBsd
import Derived.Test.YtnbbaemijogeoaaBsf
set_option linter.unusedSimpArgs false
set_option linter.unusedVariables false
set_option maxRecDepth 100000
namespace Go.Proofs.Ytnbbaemijogeoaa.Ae
open Go Go.RowKit
def ann_outriderlaw20_AdmitOne : Nat → List Nat × Nat × List (List Nat)
  | _ => ([], 0, [])
set_option maxRecDepth 100000 in
theorem AdmitOne_eq (c : CfV) (m : Bool) (b : List UInt8) (K : AVal → Hp → Prop) : fnP Try.prog Tgx ann_outriderlaw20_AdmitOne Try.f5 [.agg (cfCells c), .bool m, .roB b] [] K = (
 IsCf [.byte c.mac.a0, .byte c.mac.a1, .byte c.mac.a2, .byte c.mac.a3, .byte c.mac.a4, .byte c.mac.a5, .str c.addr, .str c.peer, .int .i64 c.id, .int .i64 c.pri, .int .i64 c.every, .bool c.pre, .ro (List.length c.vips) (1 : Nat) fun i => [.str (List.getD c.vips i [])], .ro (List.length c.trs) (2 : Nat) (trF c.trs), .ro (List.length c.svs) (10 : Nat) (svF c.svs)] ∧ brP (!fewB [.byte c.mac.a0, .byte c.mac.a1, .byte c.mac.a2, .byte c.mac.a3, .byte c.mac.a4, .byte c.mac.a5, .str c.addr, .str c.peer, .int .i64 c.id, .int .i64 c.pri, .int .i64 c.every, .bool c.pre, .ro (List.length c.vips) (1 : Nat) fun i => [.str (List.getD c.vips i [])], .ro (List.length c.trs) (2 : Nat) (trF c.trs), .ro (List.length c.svs) (10 : Nat) (svF c.svs)]) (K (.bool true) []) (IsCf [.byte c.mac.a0, .byte c.mac.a1, .byte c.mac.a2, .byte c.mac.a3, .byte c.mac.a4, .byte c.mac.a5, .str c.addr, .str c.peer, .int .i64 c.id, .int .i64 c.pri, .int .i64 c.every, .bool c.pre, .ro (List.length c.vips) (1 : Nat) fun i => [.str (List.getD c.vips i [])], .ro (List.length c.trs) (2 : Nat) (trF c.trs), .ro (List.length c.svs) (10 : Nat) (svF c.svs)] ∧ (IsCf [.byte c.mac.a0, .byte c.mac.a1, .byte c.mac.a2, .byte c.mac.a3, .byte c.mac.a4, .byte c.mac.a5, .str c.addr, .str c.peer, .int .i64 c.id, .int .i64 c.pri, .int .i64 c.every, .bool c.pre, .ro (List.length c.vips) (1 : Nat) fun i => [.str (List.getD c.vips i [])], .ro (List.length c.trs) (2 : Nat) (trF c.trs), .ro (List.length c.svs) (10 : Nat) (svF c.svs)] ∧ List.length b ≤ (140737488351232 : Nat)) ∧ optP (srtO (cfOf [.byte c.mac.a0, .byte c.mac.a1, .byte c.mac.a2, .byte c.mac.a3, .byte c.mac.a4, .byte c.mac.a5, .str c.addr, .str c.peer, .int .i64 c.id, .int .i64 c.pri, .int .i64 c.every, .bool c.pre, .ro (List.length c.vips) (1 : Nat) fun i => [.str (List.getD c.vips i [])], .ro (List.length c.trs) (2 : Nat) (trF c.trs), .ro (List.length c.svs) (10 : Nat) (svF c.svs)]) m b) (fun x => brP (decide (x.kind = (0 : Int))) ((IsVd
 [.int .i64 x.kind, .int .i64 x.why, .byte x.fm.a.a0, .byte x.fm.a.a1, .byte x.fm.a.a2, .byte x.fm.a.a3, .byte x.fm.a.a4, .byte x.fm.a.a5, .byte x.fm.b.a0, .byte x.fm.b.a1, .byte x.fm.b.a2, .byte x.fm.b.a3, .byte x.fm.b.a4, .byte x.fm.b.a5, .int .i64 x.fm.ty, .str x.fm.body, .int .i64 x.nt.kind, .byte x.nt.mac.a0, .byte x.nt.mac.a1, .byte x.nt.mac.a2, .byte x.nt.mac.a3, .byte x.nt.mac.a4, .byte x.nt.mac.a5, .str x.nt.addr, .str x.nt.target, .bool x.nt.asked, .int .i64 x.a.id, .int .i64 x.a.pri, .int .i64 x.a.every, .ro (List.length x.a.addrs) (1 : Nat) fun i => [.str (List.getD x.a.addrs i [])], .str x.p.src, .str x.p.dst, .int .i64 x.p.proto, .int .i64 x.p.ttl, .str x.p.body, .int .i64 x.fl.proto, .str x.fl.src, .str x.fl.dst, .int .i64 x.fl.port, .int .i64 x.fl.dest, .int .i64 x.flags, .int .i64 x.svc, .int .i64 x.bk] ∧ IsVd [.int .i64 0, .int .i64 x.why, .byte 0, .byte 0, .byte 0, .byte 0, .byte 0, .byte 0, .byte 0, .byte 0, .byte 0, .byte 0, .byte 0, .byte 0, .int .i64 0, .str [], .int .i64 0, .byte 0, .byte 0, .byte 0, .byte 0, .byte 0, .byte 0, .str [], .str [], .bool false, .int .i64 0, .int .i64 0, .int .i64 0, .nilS, .str [], .str [], .int .i64 0, .int .i64 0, .str [], .int .i64 0, .str [], .str [], .int .i64 0, .int .i64 0, .int .i64 0, .int .i64 0, .int .i64 0]) ∧ brP (sameV (vdOf [.int .i64 x.kind, .int .i64 x.why, .byte x.fm.a.a0, .byte x.fm.a.a1, .byte x.fm.a.a2, .byte x.fm.a.a3, .byte x.fm.a.a4, .byte x.fm.a.a5, .byte x.fm.b.a0, .byte x.fm.b.a1, .byte x.fm.b.a2, .byte x.fm.b.a3, .byte x.fm.b.a4, .byte x.fm.b.a5, .int .i64 x.fm.ty, .str x.fm.body, .int .i64 x.nt.kind, .byte x.nt.mac.a0, .byte x.nt.mac.a1, .byte x.nt.mac.a2, .byte x.nt.mac.a3, .byte x.nt.mac.a4, .byte x.nt.mac.a5, .str x.nt.addr, .str x.nt.target, .bool x.nt.asked, .int .i64 x.a.id, .int .i64 x.a.pri, .int .i64 x.a.every, .ro (List.length x.a.addrs) (1 : Nat) fun i => [.str (List.getD x.a.addrs i [])], .str x.p.src, .str x.p.dst, .int .i64 x.p.proto, .int .i64 x.p.ttl, .str x.p.body,
 .int .i64 x.fl.proto, .str x.fl.src, .str x.fl.dst, .int .i64 x.fl.port, .int .i64 x.fl.dest, .int .i64 x.flags, .int .i64 x.svc, .int .i64 x.bk]) (vdOf [.int .i64 0, .int .i64 x.why, .byte 0, .byte 0, .byte 0, .byte 0, .byte 0, .byte 0, .byte 0, .byte 0, .byte 0, .byte 0, .byte 0, .byte 0, .int .i64 0, .str [], .int .i64 0, .byte 0, .byte 0, .byte 0, .byte 0, .byte 0, .byte 0, .str [], .str [], .bool false, .int .i64 0, .int .i64 0, .int .i64 0, .nilS, .str [], .str [], .int .i64 0, .int .i64 0, .str [], .int .i64 0, .str [], .str [], .int .i64 0, .int .i64 0, .int .i64 0, .int .i64 0, .int .i64 0])) (K (.bool !decide (x.why = (0 : Int))) []) (K (.bool false) [])) (List.length b ≤ (140737488355328 : Nat) ∧ brP (decide ((etDecode b).snd = (0 : Int))) (brP (decide (x.fm.a.a0 = (etDecode b).fst.a.a0) && (decide (x.fm.a.a1 = (etDecode b).fst.a.a1) && (decide (x.fm.a.a2 = (etDecode b).fst.a.a2) && (decide (x.fm.a.a3 = (etDecode b).fst.a.a3) && (decide (x.fm.a.a4 = (etDecode b).fst.a.a4) && (decide (x.fm.a.a5 = (etDecode b).fst.a.a5) && (decide (x.fm.b.a0 = (etDecode b).fst.b.a0) && (decide (x.fm.b.a1 = (etDecode b).fst.b.a1) && (decide (x.fm.b.a2 = (etDecode b).fst.b.a2) && (decide (x.fm.b.a3 = (etDecode b).fst.b.a3) && (decide (x.fm.b.a4 = (etDecode b).fst.b.a4) && (decide (x.fm.b.a5 = (etDecode b).fst.b.a5) && (decide (x.fm.ty = (etDecode b).fst.ty) && decide (x.fm.body = (etDecode b).fst.body)))))))))))))) (brP (decide (x.why = (0 : Int))) (K (.bool (decide (x.kind ≤ (6 : Int)))) []) (K (.bool false) [])) (K (.bool false) [])) (K (.bool false) []))) False)) := by kernel_rfl
attribute [local irreducible] fnP srt in
theorem admitOne.core (c : CfV) (m : Bool) (b : List UInt8) (h_c : CfOk c) (h_b : b.length ≤ 140737488351232) :
    fnP Try.prog Tgx ann_outriderlaw20_AdmitOne Try.f5 [.agg (cfCells c), .bool m, .roB b] [] (fun v _ => v = .bool true) := by
  rw [AdmitOne_eq]
  have hIs : IsCf (cfCells c) := ⟨c, rfl, h_c⟩
  have hb := h_b
  have so : srtO (cfOf (cfCells c)) m b = some (srt c m b) := by rw [cfOf_of, srtO_is]
  refine ⟨hIs, brP_i (fun _ => rfl) (fun _ => ⟨hIs, ⟨hIs, hb⟩, optP_i (fun x hx => ?_) (fun hx => ?_)⟩)⟩
  · obtain rfl : srt c m b = x := Option.some.inj (so.symm.trans hx)
    have k2 := srt_kind (c := c) (m := m) (b := b)
    have k4 := srt_cases c m b
    have l1 := srt_len c m b
    generalize srt c m b = v at *
    refine brP_d (fun h => ⟨⟨⟨v, l1, .inl rfl⟩, ⟨dropV v.why, Nat.zero_le _, .inr ⟨rfl, rfl⟩⟩⟩, ?_⟩) (fun h => ⟨by omega, ?_⟩)
    · rcases k4 with ⟨e, he, hv⟩ | ⟨_, ht⟩
      · subst hv
        have e3 : sameV (vdOf (vdCells (dropV e))) (vdOf (vdNil (dropV e))) = true := sameV_refl (dropV e)
        refine brP_i (fun _ => ?_) (fun q => ?_)
        · show AVal.bool (!decide (e = 0)) = .bool true
          rw [decide_eq_false he]; rfl
        · exact absurd (e3.symm.trans q) (by decide)
      · have := ht.lo; omega
    · rcases k4 with ⟨e, he, hv⟩ | ⟨h0, ht⟩
      · subst hv; exact absurd rfl h
      · rw [fm_dec]
        refine brP_d (fun _ => brP_d (fun _ => brP_d (fun _ => ?_) (fun q => absurd ht.why q)) (fun q => absurd ht.fm q)) (fun q => absurd h0 q)
        exact congrArg AVal.bool (decide_eq_true ht.hi)
  · exact absurd (hx.symm.trans so) (by simp)
end Go.Proofs.Ytnbbaemijogeoaa.Ae
namespace Go.Proofs.Ytnbbaemijogeoaa
open Go Go.RowKit Ae
attribute [local irreducible] fnP in
set_option maxRecDepth 100000 in
theorem admitOne.walk {H : Type} {enc : TypeId × Value → H} (W : World) (args : Array Value) (hn : args.size = 3)
    (h : ∀ (j : Nat) t v, Try.f5.params[j]? = some t → args[j]? = some v → RdV enc false Try.prog W t v) :
    Calls Try.prog 5 args W fun e w' => e = .returned (.bool true) ∧ Below W.heap.size W w' := by
  obtain ⟨v0, v1, v2, rfl⟩ := args3 hn
  obtain ⟨c, h_c, hv0⟩ := arg_struct (b := false) (.inl ⟨_, Try.underlying29⟩) open_cf (h 0 29 v0 rfl rfl)
  obtain ⟨m, hv1⟩ := arg_bool (b := false) (m := Mp.nil) (G := []) Try.underlying4 (h 1 4 v1 rfl rfl)
  obtain ⟨b, h_b, hv2⟩ := arg_bytes (b := false) (m := Mp.nil) (G := []) Try.underlying46 Try.underlying5 (by kernel_rfl) (by kernel_rfl) (h 2 46 v2 rfl rfl)
  obtain ⟨r, H1, hr, hG⟩ := fn_sound Tgx_sound mixed Try.func5 (by decide +kernel) (admitOne.core c m b h_c (len_lim h_b))
  subst hr
  exact law_walk hG (vl_cons hv0 (vl_cons hv1 (vl_cons hv2 vl_nil)))

namespace admitOne
theorem spec {H : Type} (ds : List (DataW H)) (h : ds.length = Try.f5.params.size) : Rows.admitOneSpec.fn H ds = { results := [.lit (.bool true)], args := ds } := by
  have h' : ds.length = 3 := h
  match ds, h' with
  | [_, _, _], _ => rfl

set_option maxRecDepth 100000 in
theorem lifted (os : Os) (started : os.Started) (H : Type) (enc : TypeId × Value → H) :
    ReturnsInHanded {} Try.checked os 5 .any (Rows.admitOneSpec.pre6 enc Try.prog Try.f5 Rows.admitOneRow.domain false) (Rows.admitOneSpec.post enc Try.prog Try.f5 false true false false) :=
  lifted_said (C := Try.checked) (tb := 4) own started (by kernel_rfl) Try.func5
    (ChangeSpec.witness6 (enc := enc) (C := Try.checked) false ⟨#[], #[.agg #[.int .u8 0, .int .u8 0, .int .u8 0, .int .u8 0, .int .u8 0, .int .u8 0, .string .empty, .string .empty, .int .i64 0, .int .i64 0, .int .i64 0, .bool false, .slice none 0 0, .slice none 0 0, .slice none 0 0], .bool false, .slice none 0 0], []⟩ 8 (by kernel_rfl) (by kernel_rfl) (by kernel_rfl) (by kernel_rfl))
    rfl spec rfl Try.underlying4 laidOut (by kernel_rfl) walk

theorem over : Rows.admitOneRow.holds Try.pinned (OpenSpec.ofChange Rows.admitOneSpec) :=
  OpenClaim.holds_of_wide 5 Try.f5 rfl rfl rfl rfl rfl rfl rfl ⟨rfl, rfl, rfl, rfl, rfl⟩ rfl rfl rfl rfl rfl (by kernel_rfl) Try.func5 (by kernel_rfl)
    (of_decide_eq_true (by kernel_rfl)) (by unfold Func.isWrapper; first | (rw [if_pos (by decide +kernel)]; kernel_rfl) | (rw [if_neg (by decide +kernel)]; exact ⟨rfl, rfl⟩))
    (fun os started H enc _ => lifted os started H enc)

theorem proved : Rows.AdmitOneSaid := over
#print axioms proved
end admitOne

end Go.Proofs.Ytnbbaemijogeoaa

