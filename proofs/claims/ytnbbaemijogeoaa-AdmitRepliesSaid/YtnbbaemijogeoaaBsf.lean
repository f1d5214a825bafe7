/- Chapter 20's Sort: what a frame is, whole. Chapter 20: are two verdicts the same; chapter 2's reading, by the document. What a frame is: what the laws of chapter 20 want of it. No program in sight. -/
import Derived.Test.YtnbbaemijogeoaaBse
set_option linter.unusedSimpArgs false
set_option linter.unusedVariables false
set_option maxRecDepth 100000
namespace Go.Proofs.Ytnbbaemijogeoaa.Ae
open Go Go.RowKit
def vdCells (v : VdV) : List AVal := [.int .i64 v.kind, .int .i64 v.why, .byte v.fm.a.a0, .byte v.fm.a.a1, .byte v.fm.a.a2, .byte v.fm.a.a3, .byte v.fm.a.a4, .byte v.fm.a.a5, .byte v.fm.b.a0, .byte v.fm.b.a1, .byte v.fm.b.a2, .byte v.fm.b.a3, .byte v.fm.b.a4, .byte v.fm.b.a5, .int .i64 v.fm.ty, .str v.fm.body,
  .int .i64 v.nt.kind, .byte v.nt.mac.a0, .byte v.nt.mac.a1, .byte v.nt.mac.a2, .byte v.nt.mac.a3, .byte v.nt.mac.a4, .byte v.nt.mac.a5, .str v.nt.addr, .str v.nt.target, .bool v.nt.asked,
  .int .i64 v.a.id, .int .i64 v.a.pri, .int .i64 v.a.every, .ro v.a.addrs.length 1 (fun i => [.str (v.a.addrs.getD i [])]), .str v.p.src, .str v.p.dst, .int .i64 v.p.proto, .int .i64 v.p.ttl, .str v.p.body,
  .int .i64 v.fl.proto, .str v.fl.src, .str v.fl.dst, .int .i64 v.fl.port, .int .i64 v.fl.dest, .int .i64 v.flags, .int .i64 v.svc, .int .i64 v.bk]
/-- .. with no addresses -/
def vdNil (v : VdV) : List AVal := (vdCells v).take 26 ++ (.int .i64 0 :: .int .i64 0 :: .int .i64 0 :: .nilS :: (vdCells v).drop 30)
theorem argsLe_refl' {H : Hp} : ∀ {l r : List AVal} {a b : List AVal}, ArgsLe H a b → ArgsLe H (l ++ a) (l ++ b)
  | [], r, a, b, h => h
  | x :: l, r, a, b, h => .cons .refl (argsLe_refl' (r := r) h)
theorem vdArgs {H : Hp} {v : VdV} (ha : v.a = noAdv) : ArgsLe H (vdNil v) (vdCells v) := by
  have e : vdCells v = (vdCells v).take 26 ++ (.int .i64 v.a.id :: .int .i64 v.a.pri :: .int .i64 v.a.every :: .ro v.a.addrs.length 1 (fun i => [.str (v.a.addrs.getD i [])]) :: (vdCells v).drop 30) := rfl
  rw [e]
  unfold vdNil
  refine argsLe_refl' (r := []) ?_
  rw [ha]
  exact .cons .refl (.cons .refl (.cons .refl (.cons VE.nil_ro .refl)))
theorem vdLeaf {K : AVal → Hp → Prop} {v : VdV} (h : K (.agg (vdCells v)) []) (ha : v.a = noAdv) : ∃ v2 H2, ResLe (.agg (vdNil v)) [] v2 H2 ∧ K v2 H2 := by
  refine ⟨_, _, .val (VE.agg ?_), h⟩
  have e : vdCells v = (vdCells v).take 26 ++ (.int .i64 v.a.id :: .int .i64 v.a.pri :: .int .i64 v.a.every :: .ro v.a.addrs.length 1 (fun i => [.str (v.a.addrs.getD i [])]) :: (vdCells v).drop 30) := rfl
  rw [e]
  unfold vdNil
  refine argsLe_refl' (r := []) ?_
  rw [ha]
  exact .cons .refl (.cons .refl (.cons .refl (.cons VE.nil_ro .refl)))
theorem vdSame {K : AVal → Hp → Prop} {v : VdV} (h : K (.agg (vdCells v)) []) : ∃ v2 H2, ResLe (.agg (vdCells v)) [] v2 H2 ∧ K v2 H2 := ⟨_, _, .refl, h⟩
def sortRow : Srow := fun args H K => match args, H with
  | [.agg cs, .bool m, .roB b], [] => (IsCf cs ∧ b.length ≤ 140737488351232) ∧ optP (srtO (cfOf cs) m b) (fun v => K (.agg (vdCells v)) []) False
  | _, _ => False
set_option maxRecDepth 100000 in
theorem Sort_eq (c : CfV) (m : Bool) (b : List UInt8) (K : AVal → Hp → Prop) : fnP Try.prog Tgs ann_admit_Sort Try.f12 [.agg (cfCells c), .bool m, .roB b] [] K = (
 List.length b ≤ (140737488355328 : Nat) ∧ brP (decide ((etDecode b).snd = (0 : Int))) (((0 : Int) ≤ (0 : Int) ∧ (0 : Int) < (6 : Int)) ∧ IsGt [.byte c.mac.a0, .byte c.mac.a1, .byte c.mac.a2, .byte c.mac.a3, .byte c.mac.a4, .byte c.mac.a5, .str c.addr, .str c.peer, .int .i64 c.id, .int .i64 c.pri, .int .i64 c.every, .bool c.pre, .ro (List.length c.vips) (1 : Nat) fun i => [.str (List.getD c.vips i [])], .ro (List.length c.trs) (2 : Nat) (trF c.trs), .ro (List.length c.svs) (10 : Nat) (svF c.svs), .bool m, .int .i64 0, .int .i64 0, .byte (etDecode b).fst.a.a0, .byte (etDecode b).fst.a.a1, .byte (etDecode b).fst.a.a2, .byte (etDecode b).fst.a.a3, .byte (etDecode b).fst.a.a4, .byte (etDecode b).fst.a.a5, .byte (etDecode b).fst.b.a0, .byte (etDecode b).fst.b.a1, .byte (etDecode b).fst.b.a2, .byte (etDecode b).fst.b.a3, .byte (etDecode b).fst.b.a4, .byte (etDecode b).fst.b.a5, .int .i64 (etDecode b).fst.ty, .str (etDecode b).fst.body, .int .i64 0, .byte 0, .byte 0, .byte 0, .byte 0, .byte 0, .byte 0, .str [], .str [], .bool false, .int .i64 0, .int .i64 0, .int .i64 0, .nilS, .str [], .str [], .int .i64 0, .int .i64 0, .str [], .int .i64 0, .str [], .str [], .int .i64 0, .int .i64 0, .int .i64 0, .int .i64 0, .int .i64 0] ∧ brP (frB (Mc.mk (cByte (.byte c.mac.a0)) (cByte (.byte c.mac.a1)) (cByte (.byte c.mac.a2)) (cByte (.byte c.mac.a3)) (cByte (.byte c.mac.a4)) (cByte (.byte c.mac.a5))) (cInt (.int .i64 c.id)) (cStr (.str c.addr)) (cBool (.bool m)) (Mc.mk (cByte (.byte (etDecode b).fst.a.a0)) (cByte (.byte (etDecode b).fst.a.a1)) (cByte (.byte (etDecode b).fst.a.a2)) (cByte (.byte (etDecode b).fst.a.a3)) (cByte (.byte (etDecode b).fst.a.a4)) (cByte (.byte (etDecode b).fst.a.a5)))) (K (.agg [.int .i64 0, .int .i64 200, .byte 0, .byte 0, .byte 0, .byte 0, .byte 0, .byte 0, .byte 0, .byte 0, .byte 0, .byte 0, .byte 0, .byte 0, .int .i64 0, .str [], .int .i64 0, .byte 0, .byte 0, .byte 0, .byte 0, .byte 0, .byte 0, .str [], .str [], .bool false,
 .int .i64 0, .int .i64 0, .int .i64 0, .nilS, .str [], .str [], .int .i64 0, .int .i64 0, .str [], .int .i64 0, .str [], .str [], .int .i64 0, .int .i64 0, .int .i64 0, .int .i64 0, .int .i64 0]) []) (I64 (1 : Int) ∧ ((0 : Int) ≤ (1 : Int) ∧ (1 : Int) < (6 : Int)) ∧ IsGt [.byte c.mac.a0, .byte c.mac.a1, .byte c.mac.a2, .byte c.mac.a3, .byte c.mac.a4, .byte c.mac.a5, .str c.addr, .str c.peer, .int .i64 c.id, .int .i64 c.pri, .int .i64 c.every, .bool c.pre, .ro (List.length c.vips) (1 : Nat) fun i => [.str (List.getD c.vips i [])], .ro (List.length c.trs) (2 : Nat) (trF c.trs), .ro (List.length c.svs) (10 : Nat) (svF c.svs), .bool m, .int .i64 0, .int .i64 0, .byte (etDecode b).fst.a.a0, .byte (etDecode b).fst.a.a1, .byte (etDecode b).fst.a.a2, .byte (etDecode b).fst.a.a3, .byte (etDecode b).fst.a.a4, .byte (etDecode b).fst.a.a5, .byte (etDecode b).fst.b.a0, .byte (etDecode b).fst.b.a1, .byte (etDecode b).fst.b.a2, .byte (etDecode b).fst.b.a3, .byte (etDecode b).fst.b.a4, .byte (etDecode b).fst.b.a5, .int .i64 (etDecode b).fst.ty, .str (etDecode b).fst.body, .int .i64 0, .byte 0, .byte 0, .byte 0, .byte 0, .byte 0, .byte 0, .str [], .str [], .bool false, .int .i64 0, .int .i64 0, .int .i64 0, .nilS, .str [], .str [], .int .i64 0, .int .i64 0, .str [], .int .i64 0, .str [], .str [], .int .i64 0, .int .i64 0, .int .i64 0, .int .i64 0, .int .i64 0] ∧ optP (pkO (Fm.mk (Mc.mk (cByte (.byte (etDecode b).fst.a.a0)) (cByte (.byte (etDecode b).fst.a.a1)) (cByte (.byte (etDecode b).fst.a.a2)) (cByte (.byte (etDecode b).fst.a.a3)) (cByte (.byte (etDecode b).fst.a.a4)) (cByte (.byte (etDecode b).fst.a.a5))) (Mc.mk (cByte (.byte (etDecode b).fst.b.a0)) (cByte (.byte (etDecode b).fst.b.a1)) (cByte (.byte (etDecode b).fst.b.a2)) (cByte (.byte (etDecode b).fst.b.a3)) (cByte (.byte (etDecode b).fst.b.a4)) (cByte (.byte (etDecode b).fst.b.a5))) (cInt (.int .i64 (etDecode b).fst.ty)) (cStr (.str (etDecode b).fst.body))) (Ip.mk (cStr (.str [])) (cStr (.str [])) (cInt (.int .i64 0))
 (cInt (.int .i64 0)) (cStr (.str [])))) (fun x => brP (decide (x.why = (0 : Int))) (brP x.noted (K (.agg [.int .i64 1, .int .i64 0, .byte (etDecode b).fst.a.a0, .byte (etDecode b).fst.a.a1, .byte (etDecode b).fst.a.a2, .byte (etDecode b).fst.a.a3, .byte (etDecode b).fst.a.a4, .byte (etDecode b).fst.a.a5, .byte (etDecode b).fst.b.a0, .byte (etDecode b).fst.b.a1, .byte (etDecode b).fst.b.a2, .byte (etDecode b).fst.b.a3, .byte (etDecode b).fst.b.a4, .byte (etDecode b).fst.b.a5, .int .i64 (etDecode b).fst.ty, .str (etDecode b).fst.body, .int .i64 x.n.kind, .byte x.n.mac.a0, .byte x.n.mac.a1, .byte x.n.mac.a2, .byte x.n.mac.a3, .byte x.n.mac.a4, .byte x.n.mac.a5, .str x.n.addr, .str x.n.target, .bool x.n.asked, .int .i64 0, .int .i64 0, .int .i64 0, .nilS, .str x.p.src, .str x.p.dst, .int .i64 x.p.proto, .int .i64 x.p.ttl, .str x.p.body, .int .i64 0, .str [], .str [], .int .i64 0, .int .i64 0, .int .i64 0, .int .i64 0, .int .i64 0]) []) (I64 (2 : Int) ∧ ((0 : Int) ≤ (2 : Int) ∧ (2 : Int) < (6 : Int)) ∧ brP (!decide (x.p.proto = (112 : Int))) (I64 (3 : Int) ∧ ((0 : Int) ≤ (3 : Int) ∧ (3 : Int) < (6 : Int)) ∧ brP (!decide (x.p.src = c.peer) || !decide (x.p.dst = c.addr) || !decide (x.p.proto = (17 : Int))) (I64 (4 : Int) ∧ ((0 : Int) ≤ (4 : Int) ∧ (4 : Int) < (6 : Int)) ∧ ((IsStrs (List.length c.vips) fun i => [.str (List.getD c.vips i [])]) ∧ List.length c.vips ≤ (140737488351232 : Nat)) ∧ brP (!decide ((0 : Int) ≤ ixFrom (fun i => decide (x.p.dst = strAt (fun i => [.str (List.getD c.vips i [])]) i)) (List.length c.vips) (0 : Nat))) (I64 (5 : Int) ∧ ((0 : Int) ≤ (5 : Int) ∧ (5 : Int) < (6 : Int)) ∧ IsGt [.byte c.mac.a0, .byte c.mac.a1, .byte c.mac.a2, .byte c.mac.a3, .byte c.mac.a4, .byte c.mac.a5, .str c.addr, .str c.peer, .int .i64 c.id, .int .i64 c.pri, .int .i64 c.every, .bool c.pre, .ro (List.length c.vips) (1 : Nat) fun i => [.str (List.getD c.vips i [])], .ro (List.length c.trs) (2 : Nat) (trF c.trs), .ro (List.length c.svs) (10 : Nat) (svF c.svs), .bool m,
 .int .i64 0, .int .i64 0, .byte (etDecode b).fst.a.a0, .byte (etDecode b).fst.a.a1, .byte (etDecode b).fst.a.a2, .byte (etDecode b).fst.a.a3, .byte (etDecode b).fst.a.a4, .byte (etDecode b).fst.a.a5, .byte (etDecode b).fst.b.a0, .byte (etDecode b).fst.b.a1, .byte (etDecode b).fst.b.a2, .byte (etDecode b).fst.b.a3, .byte (etDecode b).fst.b.a4, .byte (etDecode b).fst.b.a5, .int .i64 (etDecode b).fst.ty, .str (etDecode b).fst.body, .int .i64 0, .byte 0, .byte 0, .byte 0, .byte 0, .byte 0, .byte 0, .str [], .str [], .bool false, .int .i64 0, .int .i64 0, .int .i64 0, .nilS, .str x.p.src, .str x.p.dst, .int .i64 x.p.proto, .int .i64 x.p.ttl, .str x.p.body, .int .i64 0, .str [], .str [], .int .i64 0, .int .i64 0, .int .i64 0, .int .i64 0, .int .i64 0] ∧ optP (rpO (svsV (.ro (List.length c.svs) (10 : Nat) (svF c.svs))) (cBool (.bool m)) (Ip.mk (cStr (.str x.p.src)) (cStr (.str x.p.dst)) (cInt (.int .i64 x.p.proto)) (cInt (.int .i64 x.p.ttl)) (cStr (.str x.p.body)))) (fun x_1 => brP (decide (x_1.why = (0 : Int))) (K (.agg [.int .i64 5, .int .i64 0, .byte (etDecode b).fst.a.a0, .byte (etDecode b).fst.a.a1, .byte (etDecode b).fst.a.a2, .byte (etDecode b).fst.a.a3, .byte (etDecode b).fst.a.a4, .byte (etDecode b).fst.a.a5, .byte (etDecode b).fst.b.a0, .byte (etDecode b).fst.b.a1, .byte (etDecode b).fst.b.a2, .byte (etDecode b).fst.b.a3, .byte (etDecode b).fst.b.a4, .byte (etDecode b).fst.b.a5, .int .i64 (etDecode b).fst.ty, .str (etDecode b).fst.body, .int .i64 0, .byte 0, .byte 0, .byte 0, .byte 0, .byte 0, .byte 0, .str [], .str [], .bool false, .int .i64 0, .int .i64 0, .int .i64 0, .nilS, .str x.p.src, .str x.p.dst, .int .i64 x.p.proto, .int .i64 x.p.ttl, .str x.p.body, .int .i64 x_1.fl.proto, .str x_1.fl.src, .str x_1.fl.dst, .int .i64 x_1.fl.port, .int .i64 x_1.fl.dest, .int .i64 x_1.flags, .int .i64 x_1.svc, .int .i64 x_1.bk]) []) (K (.agg [.int .i64 0, .int .i64 x_1.why, .byte 0, .byte 0, .byte 0, .byte 0, .byte 0, .byte 0, .byte 0, .byte 0, .byte 0, .byte 0,
 .byte 0, .byte 0, .int .i64 0, .str [], .int .i64 0, .byte 0, .byte 0, .byte 0, .byte 0, .byte 0, .byte 0, .str [], .str [], .bool false, .int .i64 0, .int .i64 0, .int .i64 0, .nilS, .str [], .str [], .int .i64 0, .int .i64 0, .str [], .int .i64 0, .str [], .str [], .int .i64 0, .int .i64 0, .int .i64 0, .int .i64 0, .int .i64 0]) [])) (I64 (6 : Int) ∧ K (.agg [.int .i64 0, .int .i64 204, .byte 0, .byte 0, .byte 0, .byte 0, .byte 0, .byte 0, .byte 0, .byte 0, .byte 0, .byte 0, .byte 0, .byte 0, .int .i64 0, .str [], .int .i64 0, .byte 0, .byte 0, .byte 0, .byte 0, .byte 0, .byte 0, .str [], .str [], .bool false, .int .i64 0, .int .i64 0, .int .i64 0, .nilS, .str [], .str [], .int .i64 0, .int .i64 0, .str [], .int .i64 0, .str [], .str [], .int .i64 0, .int .i64 0, .int .i64 0, .int .i64 0, .int .i64 0]) [])) (brP (!m) (K (.agg [.int .i64 0, .int .i64 201, .byte 0, .byte 0, .byte 0, .byte 0, .byte 0, .byte 0, .byte 0, .byte 0, .byte 0, .byte 0, .byte 0, .byte 0, .int .i64 0, .str [], .int .i64 0, .byte 0, .byte 0, .byte 0, .byte 0, .byte 0, .byte 0, .str [], .str [], .bool false, .int .i64 0, .int .i64 0, .int .i64 0, .nilS, .str [], .str [], .int .i64 0, .int .i64 0, .str [], .int .i64 0, .str [], .str [], .int .i64 0, .int .i64 0, .int .i64 0, .int .i64 0, .int .i64 0]) []) (brP (!(decide (x.p.proto = (6 : Int)) || decide (x.p.proto = (17 : Int)))) (List.length x.p.body ≤ (140737488351232 : Nat) ∧ brP (decide ((ptQuoted (Ip.mk x.p.src x.p.dst x.p.proto x.p.ttl x.p.body)).snd = (0 : Int))) (IsSvs (List.length c.svs) (svF c.svs) ∧ brP (!decide ((ptQuoted (Ip.mk x.p.src x.p.dst x.p.proto x.p.ttl x.p.body)).fst.src = x.p.dst) || decide (svIx (svsOf (List.length c.svs) (svF c.svs)) (Fl.mk (ptQuoted (Ip.mk x.p.src x.p.dst x.p.proto x.p.ttl x.p.body)).fst.proto (ptQuoted (Ip.mk x.p.src x.p.dst x.p.proto x.p.ttl x.p.body)).fst.dst (ptQuoted (Ip.mk x.p.src x.p.dst x.p.proto x.p.ttl x.p.body)).fst.src (ptQuoted (Ip.mk x.p.src x.p.dst x.p.proto x.p.ttl x.p.body)).fst.dest
 (ptQuoted (Ip.mk x.p.src x.p.dst x.p.proto x.p.ttl x.p.body)).fst.port) < (0 : Int))) (K (.agg [.int .i64 0, .int .i64 202, .byte 0, .byte 0, .byte 0, .byte 0, .byte 0, .byte 0, .byte 0, .byte 0, .byte 0, .byte 0, .byte 0, .byte 0, .int .i64 0, .str [], .int .i64 0, .byte 0, .byte 0, .byte 0, .byte 0, .byte 0, .byte 0, .str [], .str [], .bool false, .int .i64 0, .int .i64 0, .int .i64 0, .nilS, .str [], .str [], .int .i64 0, .int .i64 0, .str [], .int .i64 0, .str [], .str [], .int .i64 0, .int .i64 0, .int .i64 0, .int .i64 0, .int .i64 0]) []) (K (.agg [.int .i64 6, .int .i64 0, .byte (etDecode b).fst.a.a0, .byte (etDecode b).fst.a.a1, .byte (etDecode b).fst.a.a2, .byte (etDecode b).fst.a.a3, .byte (etDecode b).fst.a.a4, .byte (etDecode b).fst.a.a5, .byte (etDecode b).fst.b.a0, .byte (etDecode b).fst.b.a1, .byte (etDecode b).fst.b.a2, .byte (etDecode b).fst.b.a3, .byte (etDecode b).fst.b.a4, .byte (etDecode b).fst.b.a5, .int .i64 (etDecode b).fst.ty, .str (etDecode b).fst.body, .int .i64 0, .byte 0, .byte 0, .byte 0, .byte 0, .byte 0, .byte 0, .str [], .str [], .bool false, .int .i64 0, .int .i64 0, .int .i64 0, .nilS, .str x.p.src, .str x.p.dst, .int .i64 x.p.proto, .int .i64 x.p.ttl, .str x.p.body, .int .i64 (ptQuoted (Ip.mk x.p.src x.p.dst x.p.proto x.p.ttl x.p.body)).fst.proto, .str (ptQuoted (Ip.mk x.p.src x.p.dst x.p.proto x.p.ttl x.p.body)).fst.dst, .str (ptQuoted (Ip.mk x.p.src x.p.dst x.p.proto x.p.ttl x.p.body)).fst.src, .int .i64 (ptQuoted (Ip.mk x.p.src x.p.dst x.p.proto x.p.ttl x.p.body)).fst.dest, .int .i64 (ptQuoted (Ip.mk x.p.src x.p.dst x.p.proto x.p.ttl x.p.body)).fst.port, .int .i64 0, .int .i64 (svIx (svsOf (List.length c.svs) (svF c.svs)) (Fl.mk (ptQuoted (Ip.mk x.p.src x.p.dst x.p.proto x.p.ttl x.p.body)).fst.proto (ptQuoted (Ip.mk x.p.src x.p.dst x.p.proto x.p.ttl x.p.body)).fst.dst (ptQuoted (Ip.mk x.p.src x.p.dst x.p.proto x.p.ttl x.p.body)).fst.src (ptQuoted (Ip.mk x.p.src x.p.dst x.p.proto x.p.ttl x.p.body)).fst.dest
 (ptQuoted (Ip.mk x.p.src x.p.dst x.p.proto x.p.ttl x.p.body)).fst.port)), .int .i64 0]) [])) (K (.agg [.int .i64 0, .int .i64 (ptQuoted (Ip.mk x.p.src x.p.dst x.p.proto x.p.ttl x.p.body)).snd, .byte 0, .byte 0, .byte 0, .byte 0, .byte 0, .byte 0, .byte 0, .byte 0, .byte 0, .byte 0, .byte 0, .byte 0, .int .i64 0, .str [], .int .i64 0, .byte 0, .byte 0, .byte 0, .byte 0, .byte 0, .byte 0, .str [], .str [], .bool false, .int .i64 0, .int .i64 0, .int .i64 0, .nilS, .str [], .str [], .int .i64 0, .int .i64 0, .str [], .int .i64 0, .str [], .str [], .int .i64 0, .int .i64 0, .int .i64 0, .int .i64 0, .int .i64 0]) [])) (List.length x.p.body ≤ (140737488351232 : Nat) ∧ brP (!decide ((ptRead (Ip.mk x.p.src x.p.dst x.p.proto x.p.ttl x.p.body)).snd = (0 : Int))) (brP (decide ((ptRead (Ip.mk x.p.src x.p.dst x.p.proto x.p.ttl x.p.body)).snd = (0 : Int))) (IsSvs (List.length c.svs) (svF c.svs) ∧ brP (decide (svIx (svsOf (List.length c.svs) (svF c.svs)) (Fl.mk (0 : Int) [] [] (0 : Int) (0 : Int)) < (0 : Int))) (K (.agg [.int .i64 0, .int .i64 202, .byte 0, .byte 0, .byte 0, .byte 0, .byte 0, .byte 0, .byte 0, .byte 0, .byte 0, .byte 0, .byte 0, .byte 0, .int .i64 0, .str [], .int .i64 0, .byte 0, .byte 0, .byte 0, .byte 0, .byte 0, .byte 0, .str [], .str [], .bool false, .int .i64 0, .int .i64 0, .int .i64 0, .nilS, .str [], .str [], .int .i64 0, .int .i64 0, .str [], .int .i64 0, .str [], .str [], .int .i64 0, .int .i64 0, .int .i64 0, .int .i64 0, .int .i64 0]) []) (List.length x.p.body ≤ (140737488351232 : Nat) ∧ K (.agg [.int .i64 4, .int .i64 0, .byte (etDecode b).fst.a.a0, .byte (etDecode b).fst.a.a1, .byte (etDecode b).fst.a.a2, .byte (etDecode b).fst.a.a3, .byte (etDecode b).fst.a.a4, .byte (etDecode b).fst.a.a5, .byte (etDecode b).fst.b.a0, .byte (etDecode b).fst.b.a1, .byte (etDecode b).fst.b.a2, .byte (etDecode b).fst.b.a3, .byte (etDecode b).fst.b.a4, .byte (etDecode b).fst.b.a5, .int .i64 (etDecode b).fst.ty, .str (etDecode b).fst.body,
 .int .i64 0, .byte 0, .byte 0, .byte 0, .byte 0, .byte 0, .byte 0, .str [], .str [], .bool false, .int .i64 0, .int .i64 0, .int .i64 0, .nilS, .str x.p.src, .str x.p.dst, .int .i64 x.p.proto, .int .i64 x.p.ttl, .str x.p.body, .int .i64 0, .str [], .str [], .int .i64 0, .int .i64 0, .int .i64 (ptRead (Ip.mk x.p.src x.p.dst x.p.proto x.p.ttl x.p.body)).fst.flags, .int .i64 (svIx (svsOf (List.length c.svs) (svF c.svs)) (Fl.mk (0 : Int) [] [] (0 : Int) (0 : Int))), .int .i64 0]) [])) (K (.agg [.int .i64 0, .int .i64 (ptRead (Ip.mk x.p.src x.p.dst x.p.proto x.p.ttl x.p.body)).snd, .byte 0, .byte 0, .byte 0, .byte 0, .byte 0, .byte 0, .byte 0, .byte 0, .byte 0, .byte 0, .byte 0, .byte 0, .int .i64 0, .str [], .int .i64 0, .byte 0, .byte 0, .byte 0, .byte 0, .byte 0, .byte 0, .str [], .str [], .bool false, .int .i64 0, .int .i64 0, .int .i64 0, .nilS, .str [], .str [], .int .i64 0, .int .i64 0, .str [], .int .i64 0, .str [], .str [], .int .i64 0, .int .i64 0, .int .i64 0, .int .i64 0, .int .i64 0]) [])) (IsSvs (List.length c.svs) (svF c.svs) ∧ brP (decide (svIx (svsOf (List.length c.svs) (svF c.svs)) (Fl.mk (ptRead (Ip.mk x.p.src x.p.dst x.p.proto x.p.ttl x.p.body)).fst.proto x.p.src x.p.dst (ptRead (Ip.mk x.p.src x.p.dst x.p.proto x.p.ttl x.p.body)).fst.src (ptRead (Ip.mk x.p.src x.p.dst x.p.proto x.p.ttl x.p.body)).fst.dst) < (0 : Int))) (K (.agg [.int .i64 0, .int .i64 202, .byte 0, .byte 0, .byte 0, .byte 0, .byte 0, .byte 0, .byte 0, .byte 0, .byte 0, .byte 0, .byte 0, .byte 0, .int .i64 0, .str [], .int .i64 0, .byte 0, .byte 0, .byte 0, .byte 0, .byte 0, .byte 0, .str [], .str [], .bool false, .int .i64 0, .int .i64 0, .int .i64 0, .nilS, .str [], .str [], .int .i64 0, .int .i64 0, .str [], .int .i64 0, .str [], .str [], .int .i64 0, .int .i64 0, .int .i64 0, .int .i64 0, .int .i64 0]) []) (List.length x.p.body ≤ (140737488351232 : Nat) ∧ K (.agg [.int .i64 4, .int .i64 0, .byte (etDecode b).fst.a.a0, .byte (etDecode b).fst.a.a1,
 .byte (etDecode b).fst.a.a2, .byte (etDecode b).fst.a.a3, .byte (etDecode b).fst.a.a4, .byte (etDecode b).fst.a.a5, .byte (etDecode b).fst.b.a0, .byte (etDecode b).fst.b.a1, .byte (etDecode b).fst.b.a2, .byte (etDecode b).fst.b.a3, .byte (etDecode b).fst.b.a4, .byte (etDecode b).fst.b.a5, .int .i64 (etDecode b).fst.ty, .str (etDecode b).fst.body, .int .i64 0, .byte 0, .byte 0, .byte 0, .byte 0, .byte 0, .byte 0, .str [], .str [], .bool false, .int .i64 0, .int .i64 0, .int .i64 0, .nilS, .str x.p.src, .str x.p.dst, .int .i64 x.p.proto, .int .i64 x.p.ttl, .str x.p.body, .int .i64 (ptRead (Ip.mk x.p.src x.p.dst x.p.proto x.p.ttl x.p.body)).fst.proto, .str x.p.src, .str x.p.dst, .int .i64 (ptRead (Ip.mk x.p.src x.p.dst x.p.proto x.p.ttl x.p.body)).fst.src, .int .i64 (ptRead (Ip.mk x.p.src x.p.dst x.p.proto x.p.ttl x.p.body)).fst.dst, .int .i64 (ptRead (Ip.mk x.p.src x.p.dst x.p.proto x.p.ttl x.p.body)).fst.flags, .int .i64 (svIx (svsOf (List.length c.svs) (svF c.svs)) (Fl.mk (ptRead (Ip.mk x.p.src x.p.dst x.p.proto x.p.ttl x.p.body)).fst.proto x.p.src x.p.dst (ptRead (Ip.mk x.p.src x.p.dst x.p.proto x.p.ttl x.p.body)).fst.src (ptRead (Ip.mk x.p.src x.p.dst x.p.proto x.p.ttl x.p.body)).fst.dst)), .int .i64 0]) [])))))) (List.length x.p.body ≤ (140737488351232 : Nat) ∧ brP (decide ((ptRead (Ip.mk x.p.src x.p.dst x.p.proto x.p.ttl x.p.body)).snd = (0 : Int))) (brP (!decide ((ptRead (Ip.mk x.p.src x.p.dst x.p.proto x.p.ttl x.p.body)).fst.dst = (7777 : Int))) (K (.agg [.int .i64 0, .int .i64 202, .byte 0, .byte 0, .byte 0, .byte 0, .byte 0, .byte 0, .byte 0, .byte 0, .byte 0, .byte 0, .byte 0, .byte 0, .int .i64 0, .str [], .int .i64 0, .byte 0, .byte 0, .byte 0, .byte 0, .byte 0, .byte 0, .str [], .str [], .bool false, .int .i64 0, .int .i64 0, .int .i64 0, .nilS, .str [], .str [], .int .i64 0, .int .i64 0, .str [], .int .i64 0, .str [], .str [], .int .i64 0, .int .i64 0, .int .i64 0, .int .i64 0, .int .i64 0]) []) (K (.agg [.int .i64 3, .int .i64 0,
 .byte (etDecode b).fst.a.a0, .byte (etDecode b).fst.a.a1, .byte (etDecode b).fst.a.a2, .byte (etDecode b).fst.a.a3, .byte (etDecode b).fst.a.a4, .byte (etDecode b).fst.a.a5, .byte (etDecode b).fst.b.a0, .byte (etDecode b).fst.b.a1, .byte (etDecode b).fst.b.a2, .byte (etDecode b).fst.b.a3, .byte (etDecode b).fst.b.a4, .byte (etDecode b).fst.b.a5, .int .i64 (etDecode b).fst.ty, .str (etDecode b).fst.body, .int .i64 0, .byte 0, .byte 0, .byte 0, .byte 0, .byte 0, .byte 0, .str [], .str [], .bool false, .int .i64 0, .int .i64 0, .int .i64 0, .nilS, .str x.p.src, .str x.p.dst, .int .i64 x.p.proto, .int .i64 x.p.ttl, .str x.p.body, .int .i64 0, .str [], .str [], .int .i64 0, .int .i64 0, .int .i64 0, .int .i64 0, .int .i64 0]) [])) (K (.agg [.int .i64 0, .int .i64 (ptRead (Ip.mk x.p.src x.p.dst x.p.proto x.p.ttl x.p.body)).snd, .byte 0, .byte 0, .byte 0, .byte 0, .byte 0, .byte 0, .byte 0, .byte 0, .byte 0, .byte 0, .byte 0, .byte 0, .int .i64 0, .str [], .int .i64 0, .byte 0, .byte 0, .byte 0, .byte 0, .byte 0, .byte 0, .str [], .str [], .bool false, .int .i64 0, .int .i64 0, .int .i64 0, .nilS, .str [], .str [], .int .i64 0, .int .i64 0, .str [], .int .i64 0, .str [], .str [], .int .i64 0, .int .i64 0, .int .i64 0, .int .i64 0, .int .i64 0]) []))) (List.length x.p.body ≤ (140737488351232 : Nat) ∧ brP (decide ((adDecode (Ip.mk x.p.src x.p.dst x.p.proto x.p.ttl x.p.body)).snd = (0 : Int))) (brP (!decide ((adDecode (Ip.mk x.p.src x.p.dst x.p.proto x.p.ttl x.p.body)).fst.id = c.id)) (K (.agg [.int .i64 0, .int .i64 66, .byte 0, .byte 0, .byte 0, .byte 0, .byte 0, .byte 0, .byte 0, .byte 0, .byte 0, .byte 0, .byte 0, .byte 0, .int .i64 0, .str [], .int .i64 0, .byte 0, .byte 0, .byte 0, .byte 0, .byte 0, .byte 0, .str [], .str [], .bool false, .int .i64 0, .int .i64 0, .int .i64 0, .nilS, .str [], .str [], .int .i64 0, .int .i64 0, .str [], .int .i64 0, .str [], .str [], .int .i64 0, .int .i64 0, .int .i64 0, .int .i64 0, .int .i64 0]) []) (brP (decide (x.p.src = c.addr)) (K
 (.agg [.int .i64 0, .int .i64 1, .byte 0, .byte 0, .byte 0, .byte 0, .byte 0, .byte 0, .byte 0, .byte 0, .byte 0, .byte 0, .byte 0, .byte 0, .int .i64 0, .str [], .int .i64 0, .byte 0, .byte 0, .byte 0, .byte 0, .byte 0, .byte 0, .str [], .str [], .bool false, .int .i64 0, .int .i64 0, .int .i64 0, .nilS, .str [], .str [], .int .i64 0, .int .i64 0, .str [], .int .i64 0, .str [], .str [], .int .i64 0, .int .i64 0, .int .i64 0, .int .i64 0, .int .i64 0]) []) (K (.agg [.int .i64 2, .int .i64 0, .byte (etDecode b).fst.a.a0, .byte (etDecode b).fst.a.a1, .byte (etDecode b).fst.a.a2, .byte (etDecode b).fst.a.a3, .byte (etDecode b).fst.a.a4, .byte (etDecode b).fst.a.a5, .byte (etDecode b).fst.b.a0, .byte (etDecode b).fst.b.a1, .byte (etDecode b).fst.b.a2, .byte (etDecode b).fst.b.a3, .byte (etDecode b).fst.b.a4, .byte (etDecode b).fst.b.a5, .int .i64 (etDecode b).fst.ty, .str (etDecode b).fst.body, .int .i64 0, .byte 0, .byte 0, .byte 0, .byte 0, .byte 0, .byte 0, .str [], .str [], .bool false, .int .i64 (adDecode (Ip.mk x.p.src x.p.dst x.p.proto x.p.ttl x.p.body)).fst.id, .int .i64 (adDecode (Ip.mk x.p.src x.p.dst x.p.proto x.p.ttl x.p.body)).fst.pri, .int .i64 (adDecode (Ip.mk x.p.src x.p.dst x.p.proto x.p.ttl x.p.body)).fst.every, .ro (List.length (adDecode (Ip.mk x.p.src x.p.dst x.p.proto x.p.ttl x.p.body)).fst.addrs) (1 : Nat) fun i => [.str (List.getD (adDecode (Ip.mk x.p.src x.p.dst x.p.proto x.p.ttl x.p.body)).fst.addrs i [])], .str x.p.src, .str x.p.dst, .int .i64 x.p.proto, .int .i64 x.p.ttl, .str x.p.body, .int .i64 0, .str [], .str [], .int .i64 0, .int .i64 0, .int .i64 0, .int .i64 0, .int .i64 0]) []))) (K (.agg [.int .i64 0, .int .i64 (adDecode (Ip.mk x.p.src x.p.dst x.p.proto x.p.ttl x.p.body)).snd, .byte 0, .byte 0, .byte 0, .byte 0, .byte 0, .byte 0, .byte 0, .byte 0, .byte 0, .byte 0, .byte 0, .byte 0, .int .i64 0, .str [], .int .i64 0, .byte 0, .byte 0, .byte 0, .byte 0, .byte 0, .byte 0, .str [], .str [], .bool false, .int .i64 0,
 .int .i64 0, .int .i64 0, .nilS, .str [], .str [], .int .i64 0, .int .i64 0, .str [], .int .i64 0, .str [], .str [], .int .i64 0, .int .i64 0, .int .i64 0, .int .i64 0, .int .i64 0]) [])))) (K (.agg [.int .i64 0, .int .i64 x.why, .byte 0, .byte 0, .byte 0, .byte 0, .byte 0, .byte 0, .byte 0, .byte 0, .byte 0, .byte 0, .byte 0, .byte 0, .int .i64 0, .str [], .int .i64 0, .byte 0, .byte 0, .byte 0, .byte 0, .byte 0, .byte 0, .str [], .str [], .bool false, .int .i64 0, .int .i64 0, .int .i64 0, .nilS, .str [], .str [], .int .i64 0, .int .i64 0, .str [], .int .i64 0, .str [], .str [], .int .i64 0, .int .i64 0, .int .i64 0, .int .i64 0, .int .i64 0]) [])) False)) (K (.agg [.int .i64 0, .int .i64 (etDecode b).snd, .byte 0, .byte 0, .byte 0, .byte 0, .byte 0, .byte 0, .byte 0, .byte 0, .byte 0, .byte 0, .byte 0, .byte 0, .int .i64 0, .str [], .int .i64 0, .byte 0, .byte 0, .byte 0, .byte 0, .byte 0, .byte 0, .str [], .str [], .bool false, .int .i64 0, .int .i64 0, .int .i64 0, .nilS, .str [], .str [], .int .i64 0, .int .i64 0, .str [], .int .i64 0, .str [], .str [], .int .i64 0, .int .i64 0, .int .i64 0, .int .i64 0, .int .i64 0]) [])) := by kernel_rfl
attribute [local irreducible] fnP etDecode pkO frB adDecode ptRead ptQuoted rpO ixFrom in
theorem admit_Sort_p : ∀ args H K, sortRow args H K → ∃ args', ArgsLe H args args' ∧ fnP Try.prog Tgs ann_admit_Sort Try.f12 args' H (fun v H' => ∃ v2 H2, ResLe v H' v2 H2 ∧ K v2 H2) := by
  intro args H K hh
  unfold sortRow at hh
  split at hh
  · rename_i cs m b
    obtain ⟨⟨⟨c, rfl, hc⟩, hb⟩, hK⟩ := hh
    rw [cfOf_of, srtO_is] at hK
    change K (.agg (vdCells (srt c m b))) [] at hK
    refine ⟨_, .refl, ?_⟩
    rw [Sort_eq]
    unfold srt at hK
    have hfb : (etDecode b).1.body.length ≤ 140737488351232 := Nat.le_trans (etDecode_len b) hb
    have hG0 : ∀ p : Ip, p.body.length ≤ 140737488351232 → IsGt (gateCells c m (etDecode b).1 p) := fun p hp => ⟨c, m, _, p, rfl, hc, hp, hfb⟩
    refine ⟨by omega, brP_d (fun h0 => ⟨by omega, hG0 noIp (Nat.zero_le _), brP_i (fun h1 => ?_) (fun h1 => ⟨by unfold I64; omega, by omega, hG0 noIp (Nat.zero_le _), optP_i (fun x hx => ?_) (fun hx => absurd hx (pkO_some _ _))⟩)⟩) (fun h0 => ?_)⟩
    · rw [if_neg (by rw [h0]; decide), if_pos (show frB c.mac c.id c.addr m (etDecode b).1.a = true from h1)] at hK
      exact vdLeaf hK rfl
    · rw [if_neg (by rw [h0]; decide), if_neg (show ¬ frB c.mac c.id c.addr m (etDecode b).1.a = true by rw [show frB c.mac c.id c.addr m (etDecode b).1.a = false from h1]; decide)] at hK
      have hx' : pkO (etDecode b).1 noIp = some x := hx
      have hxb := Nat.le_trans (pkO_len hx') hfb
      rw [hx'] at hK
      unfold srt3 at hK
      simp only at hK
      have hS : IsSvs c.svs.length (svF c.svs) := ⟨c.svs, rfl, rfl, hc.2.2.1, hc.2.2.2.2⟩
      refine brP_d (fun h2 => ?_) (fun h2 => ?_)
      · rw [if_neg (by rw [h2]; decide)] at hK
        refine brP_i (fun h3 => ?_) (fun h3 => ⟨by unfold I64; omega, by omega, ?_⟩)
        · rw [if_pos h3] at hK
          exact vdLeaf hK rfl
        rw [if_neg (by rw [h3]; decide)] at hK
        unfold srt4 at hK
        refine brP_nd (fun h4 => ⟨by unfold I64; omega, by omega, ?_⟩) (fun h4 => ⟨hxb, ?_⟩)
        · rw [if_neg h4] at hK
          refine brP_i (fun h5 => ⟨by unfold I64; omega, by omega, ⟨isStrs_of _ _, by have := hc.1; omega⟩, ?_⟩) (fun h5 => ⟨hxb, ?_⟩) <;> simp only [Bool.and_eq_true, Bool.or_eq_true, Bool.and_eq_false_iff, Bool.or_eq_false_iff, decide_eq_true_eq, decide_eq_false_iff_not, Bool.not_eq_true', Bool.not_eq_false', Bool.not_true, Bool.not_false, Bool.true_and, Bool.and_true, Bool.false_or, Bool.or_false, beq_iff_eq, beq_eq_false_iff_ne, ne_eq] at h5
          · rw [if_neg (by rintro ⟨q1, q2, q3⟩; rcases h5 with (h5 | h5) | h5 <;> exact h5 (by assumption))] at hK
            have hi : hasB c.vips x.p.dst = decide (0 ≤ ixFrom (fun i => decide (x.p.dst = c.vips.getD i [])) c.vips.length 0) := rfl
            rw [hi] at hK
            refine brP_nd (fun h6 => ⟨by unfold I64; omega, by omega, hG0 x.p hxb, ?_⟩) (fun h6 => ?_)
            · rw [if_neg (show ¬ decide (0 ≤ ixFrom (fun i => decide (x.p.dst = c.vips.getD i [])) c.vips.length 0) = true from fun q => h6 (of_decide_eq_true q))] at hK
              unfold replyV at hK
              refine optP_i (fun y hy => ?_) (fun hy => ⟨by unfold I64; omega, ?_⟩)
              · have hy' : rpO c.svs m x.p = some y := by rw [← hy]; exact congrArg (fun l => rpO l m x.p) (svsOf_of c.svs).symm
                rw [hy'] at hK
                simp only at hK
                refine brP_d (fun h7 => ?_) (fun h7 => ?_)
                · rw [if_pos h7] at hK; exact vdLeaf hK rfl
                · rw [if_neg h7] at hK; exact vdLeaf hK rfl
              · have hy' : rpO c.svs m x.p = none := by rw [← hy]; exact congrArg (fun l => rpO l m x.p) (svsOf_of c.svs).symm
                rw [hy'] at hK
                exact vdLeaf hK rfl
            · rw [if_pos (show decide (0 ≤ ixFrom (fun i => decide (x.p.dst = c.vips.getD i [])) c.vips.length 0) = true from decide_eq_true h6)] at hK
              refine brP_i (fun h7 => ?_) (fun h7 => ?_)
              · rw [if_pos (by simpa using h7)] at hK; exact vdLeaf hK rfl
              rw [if_neg (by simpa using h7)] at hK
              unfold clientV at hK
              have hsv : svsOf c.svs.length (svF c.svs) = c.svs := svsOf_of c.svs
              simp only [hsv]
              refine brP_i (fun h8 => ⟨hxb, ?_⟩) (fun h8 => ⟨hxb, ?_⟩) <;> simp only [Bool.and_eq_true, Bool.or_eq_true, Bool.and_eq_false_iff, Bool.or_eq_false_iff, decide_eq_true_eq, decide_eq_false_iff_not, Bool.not_eq_true', Bool.not_eq_false', Bool.not_true, Bool.not_false, Bool.true_and, Bool.and_true, Bool.false_or, Bool.or_false, beq_iff_eq, beq_eq_false_iff_ne, ne_eq] at h8
              · rw [if_neg (by omega)] at hK
                refine brP_d (fun h9 => ⟨hS, ?_⟩) (fun h9 => ?_)
                · rw [if_neg (show ¬ (ptQuoted x.p).2 ≠ 0 from fun q => q h9)] at hK
                  refine brP_i (fun h10 => ?_) (fun h10 => ?_) <;> simp only [Bool.and_eq_true, Bool.or_eq_true, Bool.and_eq_false_iff, Bool.or_eq_false_iff, decide_eq_true_eq, decide_eq_false_iff_not, Bool.not_eq_true', Bool.not_eq_false', Bool.not_true, Bool.not_false, Bool.true_and, Bool.and_true, Bool.false_or, Bool.or_false, beq_iff_eq, beq_eq_false_iff_ne, ne_eq] at h10
                  · rw [if_pos (show (ptQuoted x.p).1.src ≠ x.p.dst ∨ svIx c.svs (ptQuoted x.p).1.turn < 0 from h10)] at hK
                    exact vdLeaf hK rfl
                  · rw [if_neg (show ¬ ((ptQuoted x.p).1.src ≠ x.p.dst ∨ svIx c.svs (ptQuoted x.p).1.turn < 0) from fun q => by
                      rcases q with q | q
                      · exact q h10.1
                      · exact h10.2 q)] at hK
                    exact vdLeaf hK rfl
                · rw [if_pos (show (ptQuoted x.p).2 ≠ 0 from h9)] at hK
                  exact vdLeaf hK rfl
              · rw [if_pos (by omega)] at hK
                refine brP_nd (fun h9 => brP_d (fun h10 => absurd h10 h9) (fun h10 => ?_)) (fun h9 => ⟨hS, ?_⟩)
                · rw [if_pos (show (ptRead x.p).2 ≠ 0 from h9)] at hK
                  exact vdLeaf hK rfl
                · rw [if_neg (show ¬ (ptRead x.p).2 ≠ 0 from fun q => q h9)] at hK
                  refine brP_d (fun h10 => ?_) (fun h10 => ⟨hxb, ?_⟩)
                  · rw [if_pos (show svIx c.svs (flOf x.p) < 0 from h10)] at hK
                    exact vdLeaf hK rfl
                  · rw [if_neg (show ¬ svIx c.svs (flOf x.p) < 0 from h10)] at hK
                    exact vdLeaf hK rfl
          · rw [if_pos (show x.p.src = c.peer ∧ x.p.dst = c.addr ∧ x.p.proto = 17 from ⟨h5.1.1, h5.1.2, h5.2⟩)] at hK
            unfold syncV at hK
            refine brP_d (fun h6 => brP_nd (fun h7 => ?_) (fun h7 => ?_)) (fun h6 => ?_)
            · rw [if_neg (show ¬ (ptRead x.p).2 ≠ 0 from fun q => q h6), if_pos (show (ptRead x.p).1.dst ≠ 7777 from h7)] at hK
              exact vdLeaf hK rfl
            · rw [if_neg (show ¬ (ptRead x.p).2 ≠ 0 from fun q => q h6), if_neg (show ¬ (ptRead x.p).1.dst ≠ 7777 from fun q => q h7)] at hK
              exact vdLeaf hK rfl
            · rw [if_pos (show (ptRead x.p).2 ≠ 0 from h6)] at hK
              exact vdLeaf hK rfl
        · rw [if_pos h4] at hK
          unfold advV at hK
          refine brP_d (fun h5 => brP_nd (fun h6 => ?_) (fun h6 => brP_d (fun h7 => ?_) (fun h7 => ?_))) (fun h5 => ?_)
          · rw [if_neg (show ¬ (adDecode x.p).2 ≠ 0 from fun q => q h5), if_pos (show (adDecode x.p).1.id ≠ c.id from h6)] at hK
            exact vdLeaf hK rfl
          · rw [if_neg (show ¬ (adDecode x.p).2 ≠ 0 from fun q => q h5), if_neg (show ¬ (adDecode x.p).1.id ≠ c.id from fun q => q h6), if_pos h7] at hK
            exact vdLeaf hK rfl
          · rw [if_neg (show ¬ (adDecode x.p).2 ≠ 0 from fun q => q h5), if_neg (show ¬ (adDecode x.p).1.id ≠ c.id from fun q => q h6), if_neg h7] at hK
            exact vdSame hK
          · rw [if_pos (show (adDecode x.p).2 ≠ 0 from h5)] at hK
            exact vdLeaf hK rfl
      · rw [if_pos h2] at hK
        exact vdLeaf hK rfl
    · rw [if_pos h0] at hK
      exact vdLeaf hK rfl
  · exact hh.elim
def Tgw1 : Specs := ext Tgs 12 (sortRow)
theorem Tgw1_sound : TSound Try.prog Tgw1 := ext_sound Tgs_sound (row_weak Tgs_sound mixed Try.func12 (by decide +kernel) admit_Sort_p)
abbrev Tgw : Specs := Tgw1
theorem Tgw_sound : TSound Try.prog Tgw := Tgw1_sound
end Go.Proofs.Ytnbbaemijogeoaa.Ae

set_option linter.unusedSimpArgs false
set_option linter.unusedVariables false
set_option maxRecDepth 100000
namespace Go.Proofs.Ytnbbaemijogeoaa
open Go Ae
def vdOf (cs : List AVal) : VdV := ⟨cInt (nthC cs 0), cInt (nthC cs 1), ⟨⟨cByte (nthC cs 2), cByte (nthC cs 3), cByte (nthC cs 4), cByte (nthC cs 5), cByte (nthC cs 6), cByte (nthC cs 7)⟩, ⟨cByte (nthC cs 8), cByte (nthC cs 9), cByte (nthC cs 10), cByte (nthC cs 11), cByte (nthC cs 12), cByte (nthC cs 13)⟩, cInt (nthC cs 14), cStr (nthC cs 15)⟩,
  ⟨cInt (nthC cs 16), ⟨cByte (nthC cs 17), cByte (nthC cs 18), cByte (nthC cs 19), cByte (nthC cs 20), cByte (nthC cs 21), cByte (nthC cs 22)⟩, cStr (nthC cs 23), cStr (nthC cs 24), cBool (nthC cs 25)⟩, ⟨cInt (nthC cs 26), cInt (nthC cs 27), cInt (nthC cs 28), strsV (nthC cs 29)⟩,
  ⟨cStr (nthC cs 30), cStr (nthC cs 31), cInt (nthC cs 32), cInt (nthC cs 33), cStr (nthC cs 34)⟩, ⟨cInt (nthC cs 35), cStr (nthC cs 36), cStr (nthC cs 37), cInt (nthC cs 38), cInt (nthC cs 39)⟩, cInt (nthC cs 40), cInt (nthC cs 41), cInt (nthC cs 42)⟩
theorem vdOf_of (v : VdV) : vdOf (vdCells v) = v := by
  obtain ⟨k, w, fm, nt, ⟨i, p, e, l⟩, q, fl, g, s, b⟩ := v
  have e2 := strs_of l
  show VdV.mk k w fm nt ⟨i, p, e, strs l.length (fun i => [.str (l.getD i [])])⟩ q fl g s b = _
  rw [e2]
def IsVd (cs : List AVal) : Prop := ∃ v : VdV, v.a.addrs.length ≤ 8796093022000 ∧ (cs = vdCells v ∨ (cs = vdNil v ∧ v.a = noAdv))
deriving instance DecidableEq for Nt
deriving instance DecidableEq for Adv
deriving instance DecidableEq for Ip
/-- are two verdicts the same? -/
def sameV (v w : VdV) : Bool := decide (v.kind = w.kind) && decide (v.why = w.why) && decide (v.fm = w.fm) && decide (v.nt = w.nt) && decide (v.a = w.a) && decide (v.p = w.p) && decide (v.fl = w.fl) && decide (v.flags = w.flags) && decide (v.svc = w.svc) && decide (v.bk = w.bk)
theorem fm_dec (x y : Fm) : (decide (x.a.a0 = y.a.a0) && (decide (x.a.a1 = y.a.a1) && (decide (x.a.a2 = y.a.a2) && (decide (x.a.a3 = y.a.a3) && (decide (x.a.a4 = y.a.a4) && (decide (x.a.a5 = y.a.a5) && (decide (x.b.a0 = y.b.a0) && (decide (x.b.a1 = y.b.a1) && (decide (x.b.a2 = y.b.a2) && (decide (x.b.a3 = y.b.a3) && (decide (x.b.a4 = y.b.a4) && (decide (x.b.a5 = y.b.a5) && (decide (x.ty = y.ty) && decide (x.body = y.body)))))))))))))) = decide (x = y) := by
  obtain ⟨⟨_, _, _, _, _, _⟩, ⟨_, _, _, _, _, _⟩, _, _⟩ := x
  obtain ⟨⟨_, _, _, _, _, _⟩, ⟨_, _, _, _, _, _⟩, _, _⟩ := y
  rw [Bool.eq_iff_iff]
  simp only [Bool.and_eq_true, decide_eq_true_eq, Mc.mk.injEq, Fm.mk.injEq, and_assoc]
theorem nt_dec (x y : Nt) : (decide (x.kind = y.kind) && (decide (x.mac.a0 = y.mac.a0) && (decide (x.mac.a1 = y.mac.a1) && (decide (x.mac.a2 = y.mac.a2) && (decide (x.mac.a3 = y.mac.a3) && (decide (x.mac.a4 = y.mac.a4) && (decide (x.mac.a5 = y.mac.a5) && (decide (x.addr = y.addr) && (decide (x.target = y.target) && decide (x.asked = y.asked)))))))))) = decide (x = y) := by
  obtain ⟨_, ⟨_, _, _, _, _, _⟩, _, _, _⟩ := x
  obtain ⟨_, ⟨_, _, _, _, _, _⟩, _, _, _⟩ := y
  rw [Bool.eq_iff_iff]
  simp only [Bool.and_eq_true, decide_eq_true_eq, Mc.mk.injEq, Nt.mk.injEq, and_assoc]
theorem ip_dec (x y : Ip) : (decide (x.src = y.src) && (decide (x.dst = y.dst) && (decide (x.proto = y.proto) && (decide (x.ttl = y.ttl) && decide (x.body = y.body))))) = decide (x = y) := by
  obtain ⟨_, _, _, _, _⟩ := x
  obtain ⟨_, _, _, _, _⟩ := y
  rw [Bool.eq_iff_iff]
  simp only [Bool.and_eq_true, decide_eq_true_eq, Ip.mk.injEq, and_assoc]
theorem fl_dec (x y : Fl) : (decide (x.proto = y.proto) && (decide (x.src = y.src) && (decide (x.dst = y.dst) && (decide (x.port = y.port) && decide (x.dest = y.dest))))) = decide (x = y) := by
  obtain ⟨_, _, _, _, _⟩ := x
  obtain ⟨_, _, _, _, _⟩ := y
  rw [Bool.eq_iff_iff]
  simp only [Bool.and_eq_true, decide_eq_true_eq, Fl.mk.injEq, and_assoc]
theorem ad_dec (x y : Adv) : sameA x.id x.pri x.every x.addrs.length (fun i => [.str (x.addrs.getD i [])]) y.id y.pri y.every y.addrs.length (fun i => [.str (y.addrs.getD i [])]) = decide (x = y) := by
  obtain ⟨_, _, _, l⟩ := x
  obtain ⟨_, _, _, q⟩ := y
  have e1 := strs_of l
  have e2 := strs_of q
  unfold sameA
  rw [Bool.eq_iff_iff]
  simp only [Bool.and_eq_true, decide_eq_true_eq, Adv.mk.injEq, and_assoc]
  rw [e1, e2]
theorem isVd_of {cs : List AVal} (h : IsVd cs) : ∃ v : VdV, v.a.addrs.length ≤ 8796093022000 ∧ vdOf cs = v ∧ ArgsLe [] cs (vdCells v) := by
  obtain ⟨v, hl, h | ⟨h, ha⟩⟩ := h
  · subst h; exact ⟨v, hl, vdOf_of v, ArgsLe.refl⟩
  · subst h
    refine ⟨v, hl, ?_, vdArgs ha⟩
    obtain ⟨k, w, fm, nt, a, q, fl, g, s, b⟩ := v
    simp only at ha
    subst ha
    rfl
end Go.Proofs.Ytnbbaemijogeoaa
namespace Go.Proofs.Ytnbbaemijogeoaa.Ae
open Go Go.RowKit
def ref02DecRow : Srow := fun args H K => match args, H with
  | [.roB l], [] => l.length ≤ 140737488355328 ∧ K (.tup [.agg (fmV (etDecode l).1), .int .i64 (etDecode l).2]) []
  | _, _ => False
def same20Row : Srow := fun args H K => match args, H with
  | [.agg cs, .agg ds], [] => (IsVd cs ∧ IsVd ds) ∧ K (.bool (sameV (vdOf cs) (vdOf ds))) []
  | _, _ => False
def ann_outriderlaw20_plain : Nat → List Nat × Nat × List (List Nat)
  | _ => ([], 0, [])
def Tgx1 : Specs := ext Tgw 14 (fnP Try.prog Tgw ann_outriderlaw20_plain Try.f14)
theorem Tgx1_sound : TSound Try.prog Tgx1 := ext_sound Tgw_sound (fn_row Tgw_sound mixed Try.func14 (by decide +kernel))
def ann_outriderref20_Same : Nat → List Nat × Nat × List (List Nat)
  | _ => ([], 0, [])
set_option maxRecDepth 100000 in
theorem same20_eq (v w : VdV) (K : AVal → Hp → Prop) : fnP Try.prog Tgx1 ann_outriderref20_Same Try.f13 [.agg (vdCells v), .agg (vdCells w)] [] K = (
 brP (decide (v.kind = w.kind)) (brP (decide (v.why = w.why)) (brP (decide (v.fm.a.a0 = w.fm.a.a0) && (decide (v.fm.a.a1 = w.fm.a.a1) && (decide (v.fm.a.a2 = w.fm.a.a2) && (decide (v.fm.a.a3 = w.fm.a.a3) && (decide (v.fm.a.a4 = w.fm.a.a4) && (decide (v.fm.a.a5 = w.fm.a.a5) && (decide (v.fm.b.a0 = w.fm.b.a0) && (decide (v.fm.b.a1 = w.fm.b.a1) && (decide (v.fm.b.a2 = w.fm.b.a2) && (decide (v.fm.b.a3 = w.fm.b.a3) && (decide (v.fm.b.a4 = w.fm.b.a4) && (decide (v.fm.b.a5 = w.fm.b.a5) && (decide (v.fm.ty = w.fm.ty) && decide (v.fm.body = w.fm.body)))))))))))))) (brP (decide (v.nt.kind = w.nt.kind) && (decide (v.nt.mac.a0 = w.nt.mac.a0) && (decide (v.nt.mac.a1 = w.nt.mac.a1) && (decide (v.nt.mac.a2 = w.nt.mac.a2) && (decide (v.nt.mac.a3 = w.nt.mac.a3) && (decide (v.nt.mac.a4 = w.nt.mac.a4) && (decide (v.nt.mac.a5 = w.nt.mac.a5) && (decide (v.nt.addr = w.nt.addr) && (decide (v.nt.target = w.nt.target) && decide (v.nt.asked = w.nt.asked)))))))))) (((IsStrs (List.length v.a.addrs) fun i => [.str (List.getD v.a.addrs i [])]) ∧ (IsStrs (List.length w.a.addrs) fun i => [.str (List.getD w.a.addrs i [])]) ∧ List.length v.a.addrs ≤ (8796093022000 : Nat)) ∧ brP (sameA v.a.id v.a.pri v.a.every (List.length v.a.addrs) (fun i => [.str (List.getD v.a.addrs i [])]) w.a.id w.a.pri w.a.every (List.length w.a.addrs) fun i => [.str (List.getD w.a.addrs i [])]) (brP (decide (v.p.src = w.p.src) && (decide (v.p.dst = w.p.dst) && (decide (v.p.proto = w.p.proto) && (decide (v.p.ttl = w.p.ttl) && decide (v.p.body = w.p.body))))) (brP (decide (v.fl.proto = w.fl.proto) && (decide (v.fl.src = w.fl.src) && (decide (v.fl.dst = w.fl.dst) && (decide (v.fl.port = w.fl.port) && decide (v.fl.dest = w.fl.dest))))) (brP (decide (v.flags = w.flags)) (brP (decide (v.svc = w.svc)) (K (.bool (decide (v.bk = w.bk))) []) (K (.bool false) [])) (K (.bool false) [])) (K (.bool false) [])) (K (.bool false) [])) (K (.bool false) [])) (K (.bool false) [])) (K (.bool false) [])) (K (.bool false) [])) (K (.bool false) [])) := by kernel_rfl
attribute [local irreducible] fnP in
theorem outriderref20_Same_p : ∀ args H K, same20Row args H K → ∃ args', ArgsLe H args args' ∧ fnP Try.prog Tgx1 ann_outriderref20_Same Try.f13 args' H (fun v H' => ∃ v2 H2, ResLe v H' v2 H2 ∧ K v2 H2) := by
  intro args H K h
  unfold same20Row at h
  split at h
  · obtain ⟨⟨h1, h2⟩, hK⟩ := h
    obtain ⟨v, hv, e1, l1⟩ := isVd_of h1
    obtain ⟨w, hw, e2, l2⟩ := isVd_of h2
    rw [e1, e2] at hK
    refine ⟨[.agg (vdCells v), .agg (vdCells w)], .cons (VE.agg l1) (.cons (VE.agg l2) .nil), ?_⟩
    rw [same20_eq, fm_dec, nt_dec, ip_dec, fl_dec, ad_dec]
    unfold sameV at hK
    have hs := isStrs_of v.a.addrs.length fun i => v.a.addrs.getD i []
    have hs' := isStrs_of w.a.addrs.length fun i => w.a.addrs.getD i []
    generalize decide (v.kind = w.kind) = b1 at *
    generalize decide (v.why = w.why) = b2 at *
    generalize decide (v.fm = w.fm) = b3 at *
    generalize decide (v.nt = w.nt) = b4 at *
    generalize decide (v.a = w.a) = b5 at *
    generalize decide (v.p = w.p) = b6 at *
    generalize decide (v.fl = w.fl) = b7 at *
    generalize decide (v.flags = w.flags) = b8 at *
    generalize decide (v.svc = w.svc) = b9 at *
    generalize decide (v.bk = w.bk) = b10 at *
    have no : K (.bool false) [] → ∃ v2 H2, ResLe (.bool false) [] v2 H2 ∧ K v2 H2 := fun q => ⟨_, _, .refl, q⟩
    simp only [Bool.and_assoc] at hK
    cases b1
    · exact no hK
    cases b2
    · exact no hK
    cases b3
    · exact no hK
    cases b4
    · exact no hK
    refine ⟨⟨hs, hs', hv⟩, ?_⟩
    cases b5
    · exact no hK
    cases b6
    · exact no hK
    cases b7
    · exact no hK
    cases b8
    · exact no hK
    cases b9
    · exact no hK
    exact ⟨_, _, .refl, hK⟩
  · exact h.elim
def Tgx2 : Specs := ext Tgx1 13 (same20Row)
theorem Tgx2_sound : TSound Try.prog Tgx2 := ext_sound Tgx1_sound (row_weak Tgx1_sound mixed Try.func13 (by decide +kernel) outriderref20_Same_p)
def ann_outriderref02_Decode : Nat → List Nat × Nat × List (List Nat)
  | 3 => ([], 15, [[], [0], [0, 1], [0, 1, 2], [0, 1, 2, 3], [], [5], [5, 6], [5, 6, 7], [0, 1, 2, 3, 4, 5, 6, 7, 8], [], [10], [10, 11], [0, 1, 2, 3, 4, 5, 6, 7, 8, 9, 10, 11, 12], []])
  | 5 => ([0, 2, 4, 5], 0, [])
  | 1000005 => ([], 7, [])
  | 2000001 => ([], 9, [[], [0], [0, 1], [0, 1, 2], [0, 1, 2, 3], [0, 1, 2, 3, 4], [0, 1, 2, 3, 4, 5], [0, 1, 2, 3, 4, 5, 6]])
  | _ => ([], 0, [])
set_option maxRecDepth 100000 in
theorem ref02_Dec_eq (l : List UInt8) (K : AVal → Hp → Prop) : fnP Try.prog Tgx2 ann_outriderref02_Decode Try.f15 [.roB l] [] K = (
 brP (decide ((↑(List.length l) : Int) < (14 : Int)) || decide ((1514 : Int) < (↑(List.length l) : Int))) (K (.tup [.agg [.byte 0, .byte 0, .byte 0, .byte 0, .byte 0, .byte 0, .byte 0, .byte 0, .byte 0, .byte 0, .byte 0, .byte 0, .int .i64 0, .str []], .int .i64 20]) []) (((0 : Int) ≤ (12 : Int) ∧ (12 : Int) < (↑(List.length l) : Int)) ∧ I64 ((↑(UInt8.toNat (List.getD l (12 : Nat) (0 : UInt8))) : Int) * (256 : Int)) ∧ ((0 : Int) ≤ (13 : Int) ∧ (13 : Int) < (↑(List.length l) : Int)) ∧ I64 ((↑(UInt8.toNat (List.getD l (12 : Nat) (0 : UInt8))) : Int) * (256 : Int) + (↑(UInt8.toNat (List.getD l (13 : Nat) (0 : UInt8))) : Int)) ∧ ((0 : Int) ≤ (14 : Int) ∧ (14 : Int) ≤ (↑(List.length l) : Int)) ∧ ((0 : Int) ≤ (0 : Int) ∧ (0 : Int) < (↑(List.length l) : Int)) ∧ ((0 : Int) ≤ (0 : Int) ∧ (0 : Int) < (6 : Int)) ∧ I64 (6 : Int) ∧ ((0 : Int) ≤ (6 : Int) ∧ (6 : Int) < (↑(List.length l) : Int)) ∧ ((0 : Int) ≤ (0 : Int) ∧ (0 : Int) < (6 : Int)) ∧ I64 (1 : Int) ∧ ((0 : Int) ≤ (1 : Int) ∧ (1 : Int) < (↑(List.length l) : Int)) ∧ ((0 : Int) ≤ (1 : Int) ∧ (1 : Int) < (6 : Int)) ∧ I64 (7 : Int) ∧ ((0 : Int) ≤ (7 : Int) ∧ (7 : Int) < (↑(List.length l) : Int)) ∧ ((0 : Int) ≤ (1 : Int) ∧ (1 : Int) < (6 : Int)) ∧ I64 (2 : Int) ∧ ((0 : Int) ≤ (2 : Int) ∧ (2 : Int) < (↑(List.length l) : Int)) ∧ ((0 : Int) ≤ (2 : Int) ∧ (2 : Int) < (6 : Int)) ∧ I64 (8 : Int) ∧ ((0 : Int) ≤ (8 : Int) ∧ (8 : Int) < (↑(List.length l) : Int)) ∧ ((0 : Int) ≤ (2 : Int) ∧ (2 : Int) < (6 : Int)) ∧ I64 (3 : Int) ∧ ((0 : Int) ≤ (3 : Int) ∧ (3 : Int) < (↑(List.length l) : Int)) ∧ ((0 : Int) ≤ (3 : Int) ∧ (3 : Int) < (6 : Int)) ∧ I64 (9 : Int) ∧ ((0 : Int) ≤ (9 : Int) ∧ (9 : Int) < (↑(List.length l) : Int)) ∧ ((0 : Int) ≤ (3 : Int) ∧ (3 : Int) < (6 : Int)) ∧ I64 (4 : Int) ∧ ((0 : Int) ≤ (4 : Int) ∧ (4 : Int) < (↑(List.length l) : Int)) ∧ ((0 : Int) ≤ (4 : Int) ∧ (4 : Int) < (6 : Int)) ∧ I64 (10 : Int) ∧ ((0 : Int) ≤ (10 : Int) ∧ (10 : Int) < (↑(List.length l) : Int)) ∧ ((0 : Int) ≤ (4 : Int) ∧ (4 : Int) < (6 : Int)) ∧
 I64 (5 : Int) ∧ ((0 : Int) ≤ (5 : Int) ∧ (5 : Int) < (↑(List.length l) : Int)) ∧ ((0 : Int) ≤ (5 : Int) ∧ (5 : Int) < (6 : Int)) ∧ I64 (11 : Int) ∧ ((0 : Int) ≤ (11 : Int) ∧ (11 : Int) < (↑(List.length l) : Int)) ∧ ((0 : Int) ≤ (5 : Int) ∧ (5 : Int) < (6 : Int)) ∧ I64 (6 : Int) ∧ brP (decide ((↑(UInt8.toNat (List.getD l (12 : Nat) (0 : UInt8))) : Int) * (256 : Int) + (↑(UInt8.toNat (List.getD l (13 : Nat) (0 : UInt8))) : Int) < (1536 : Int))) (K (.tup [.agg [.byte 0, .byte 0, .byte 0, .byte 0, .byte 0, .byte 0, .byte 0, .byte 0, .byte 0, .byte 0, .byte 0, .byte 0, .int .i64 0, .str []], .int .i64 1]) []) (K (.tup [.agg [.byte (List.getD l (0 : Nat) (0 : UInt8)), .byte (List.getD l (1 : Nat) (0 : UInt8)), .byte (List.getD l (2 : Nat) (0 : UInt8)), .byte (List.getD l (3 : Nat) (0 : UInt8)), .byte (List.getD l (4 : Nat) (0 : UInt8)), .byte (List.getD l (5 : Nat) (0 : UInt8)), .byte (List.getD l (6 : Nat) (0 : UInt8)), .byte (List.getD l (7 : Nat) (0 : UInt8)), .byte (List.getD l (8 : Nat) (0 : UInt8)), .byte (List.getD l (9 : Nat) (0 : UInt8)), .byte (List.getD l (10 : Nat) (0 : UInt8)), .byte (List.getD l (11 : Nat) (0 : UInt8)), .int .i64 ((↑(UInt8.toNat (List.getD l (12 : Nat) (0 : UInt8))) : Int) * (256 : Int) + (↑(UInt8.toNat (List.getD l (13 : Nat) (0 : UInt8))) : Int)), .str (List.drop (14 : Nat) l)], .int .i64 0]) []))) := by kernel_rfl
attribute [local irreducible] fnP in
theorem outriderref02_Decode_p : ∀ args H K, ref02DecRow args H K → fnP Try.prog Tgx2 ann_outriderref02_Decode Try.f15 args H K := by
  intro args H K h
  unfold ref02DecRow at h
  split at h
  · rename_i l
    rw [ref02_Dec_eq]
    obtain ⟨hl, hK⟩ := h
    have x12 := (l.getD 12 0).toNat_lt
    have x13 := (l.getD 13 0).toNat_lt
    have wd : w16 (l.getD 12 0) (l.getD 13 0) = ((l.getD 12 0).toNat : Int) * 256 + ((l.getD 13 0).toNat : Int) := rfl
    rcases etDec_cases l with ⟨k1, e⟩ | ⟨k1, k2, e⟩ | ⟨k1, k2, e⟩ <;> rw [e] at hK <;> simp only [fmV, noFm, noMc, mcAt] at hK
    · refine brP_i (fun h => hK) (fun h => ?_)
      simp only [Bool.and_eq_true, Bool.or_eq_true, Bool.and_eq_false_iff, Bool.or_eq_false_iff, decide_eq_true_eq, decide_eq_false_iff_not, Bool.not_eq_true', Bool.not_eq_false', Bool.not_true, Bool.not_false, Bool.true_and, Bool.and_true, Bool.false_or, Bool.or_false, beq_iff_eq, beq_eq_false_iff_ne, ne_eq] at h
      exfalso; omega
    all_goals
      refine brP_i (fun h => ?_) (fun h => ?_) <;> simp only [Bool.and_eq_true, Bool.or_eq_true, Bool.and_eq_false_iff, Bool.or_eq_false_iff, decide_eq_true_eq, decide_eq_false_iff_not, Bool.not_eq_true', Bool.not_eq_false', Bool.not_true, Bool.not_false, Bool.true_and, Bool.and_true, Bool.false_or, Bool.or_false, beq_iff_eq, beq_eq_false_iff_ne, ne_eq] at h
      · exfalso; omega
      repeat' (refine And.intro (by first | omega | (unfold I64; omega)) ?_)
    · exact brP_d (fun _ => hK) (fun h => by exfalso; omega)
    · exact brP_d (fun h => by exfalso; omega) (fun _ => hK)
  · exact h.elim
def Tgx3 : Specs := ext Tgx2 15 (ref02DecRow)
theorem Tgx3_sound : TSound Try.prog Tgx3 := ext_sound Tgx2_sound (row_of Tgx2_sound mixed Try.func15 (by decide +kernel) outriderref02_Decode_p)
abbrev Tgx : Specs := Tgx3
theorem Tgx_sound : TSound Try.prog Tgx := Tgx3_sound
end Go.Proofs.Ytnbbaemijogeoaa.Ae

set_option linter.unusedSimpArgs false
set_option linter.unusedVariables false
namespace Go.Proofs.Ytnbbaemijogeoaa
open Go Ae
theorem rpO_none {l : List SvV} {m : Bool} {p : Ip} : rpO l m p = none ↔ (¬ (p.proto = 6 ∨ p.proto = 17) ∨ ofIx l p < 0) := by
  unfold rpO
  constructor
  · intro h
    refine Classical.byContradiction fun hn => ?_
    rw [if_neg hn] at h
    repeat' split at h
    all_goals cases h
  · intro h; rw [if_pos h]
theorem rpO_cases (l : List SvV) (m : Bool) (p : Ip) : rpO l m p = none ∨ (∃ x, rpO l m p = some x ∧ x.why ≠ 0 ∧ (m = false → x.why = 201)) ∨
    (m = true ∧ ∃ k j, rpO l m p = some ⟨0, ⟨p.proto, p.dst, (l.getD k sv0).vip, (ptRead p).1.dst, (l.getD k sv0).port⟩, (ptRead p).1.flags, (k : Nat), j⟩ ∧ rpOut l p (ptRead p).1 l.length 0 = some (k, j)) := by
  unfold rpO
  by_cases h1 : ¬ (p.proto = 6 ∨ p.proto = 17) ∨ ofIx l p < 0
  · rw [if_pos h1]; exact .inl rfl
  rw [if_neg h1]
  by_cases h2 : m = false
  · rw [if_pos h2]; exact .inr (.inl ⟨_, rfl, by decide, fun _ => rfl⟩)
  rw [if_neg h2]
  by_cases h3 : (ptRead p).2 ≠ 0
  · rw [if_pos h3]; exact .inr (.inl ⟨_, rfl, h3, fun h => absurd h h2⟩)
  rw [if_neg h3]
  cases h4 : rpOut l p (ptRead p).1 l.length 0 with
  | none => exact .inr (.inl ⟨_, rfl, by simp, fun h => absurd h h2⟩)
  | some q =>
    obtain ⟨k, j⟩ := q
    exact .inr (.inr ⟨by simpa using h2, k, j, rfl, rfl⟩)
theorem rpOut_some {l : List SvV} {p : Ip} {h : Hd} {q : Nat} {x : Int} : ∀ {j k : Nat}, rpOut l p h j k = some (q, x) → q < k + j ∧ rpAt (l.getD q sv0) p h = x ∧ 0 ≤ x
  | 0, k, e => by cases e
  | j + 1, k, e => by
    unfold rpOut at e
    split at e
    · cases e; exact ⟨by omega, rfl, by assumption⟩
    · have := rpOut_some e; exact ⟨by omega, this.2⟩
theorem rpAt_some {s : SvV} {p : Ip} {h : Hd} {x : Int} (e : rpAt s p h = x) (h0 : 0 ≤ x) : s.proto = p.proto ∧ s.mode = 1 ∧ x < s.bks.length ∧ (s.bks.getD x.toNat bk0).addr = p.src := by
  unfold rpAt at e
  split at e
  · rename_i ha
    unfold ansB at ha
    simp only [Bool.and_eq_true, decide_eq_true_eq] at ha
    rcases ixFrom_cases (fun i => rpIs s p h i) s.bks.length 0 with ⟨e1, _⟩ | ⟨i, h1, h2, e1, h3, _⟩
    · omega
    · have h3' : rpIs s p h i = true := h3
      unfold rpIs at h3'
      simp only [Bool.and_eq_true, decide_eq_true_eq] at h3'
      have hx : x.toNat = i := by omega
      exact ⟨ha.1.1, ha.1.2, by omega, by rw [hx]; exact h3'.1⟩
  · omega
/-- dropped, or not -/
def Drops (v : VdV) : Prop := ∃ e, e ≠ 0 ∧ v = dropV e
structure Told (m : Bool) (f : Fm) (v : VdV) : Prop where
  why : v.why = 0
  fm : v.fm = f
  lo : 1 ≤ v.kind
  hi : v.kind ≤ 6
  low : m = false → v.kind ≤ 3
  len : v.a.addrs.length ≤ 300
theorem parts_len (n : Nat) : ∀ (k : Nat) (l : List UInt8), (parts n l k).length = k
  | 0, _ => rfl
  | k + 1, l => by unfold parts; simp [parts_len n k]
theorem adDecode_len (p : Ip) : (adDecode p).1.addrs.length ≤ 300 := by
  unfold adDecode
  have := (p.body.getD 3 0).toNat_lt
  repeat' split
  all_goals first | exact Nat.zero_le _ | (simp only [parts_len]; omega)
theorem told_of {m : Bool} {f : Fm} {k : Int} {n : Nt} {a : Adv} {p : Ip} {fl : Fl} {g s b : Int} (h1 : 1 ≤ k) (h2 : k ≤ 6) (h3 : m = false → k ≤ 3) (h4 : a.addrs.length ≤ 300) : Told m f ⟨k, 0, f, n, a, p, fl, g, s, b⟩ := ⟨rfl, rfl, h1, h2, h3, h4⟩
theorem replyV_cases (c : CfV) (m : Bool) (f : Fm) (p : Ip) : Drops (replyV c m f p) ∨ Told m f (replyV c m f p) := by
  unfold replyV
  rcases rpO_cases c.svs m p with e | ⟨x, e, hx, _⟩ | ⟨hm, k, j, e, _⟩ <;> rw [e] <;> simp only
  · exact .inl ⟨204, by decide, rfl⟩
  · rw [if_neg hx]; exact .inl ⟨_, hx, rfl⟩
  · rw [if_pos trivial]; exact .inr (told_of (by omega) (by omega) (fun h => by rw [hm] at h; cases h) (Nat.zero_le _))
theorem clientV_cases (c : CfV) (f : Fm) (p : Ip) : Drops (clientV c f p) ∨ Told true f (clientV c f p) := by
  unfold clientV
  split
  · split
    · exact .inl ⟨_, by assumption, rfl⟩
    · split
      · exact .inl ⟨202, by decide, rfl⟩
      · exact .inr (told_of (by omega) (by omega) (fun h => by cases h) (Nat.zero_le _))
  · split
    · exact .inl ⟨_, by assumption, rfl⟩
    · split
      · exact .inl ⟨202, by decide, rfl⟩
      · exact .inr (told_of (by omega) (by omega) (fun h => by cases h) (Nat.zero_le _))
theorem syncV_cases (m : Bool) (f : Fm) (p : Ip) : Drops (syncV f p) ∨ Told m f (syncV f p) := by
  unfold syncV
  split
  · exact .inl ⟨_, by assumption, rfl⟩
  · split
    · exact .inl ⟨202, by decide, rfl⟩
    · exact .inr (told_of (by omega) (by omega) (fun _ => by omega) (Nat.zero_le _))
theorem advV_cases (c : CfV) (m : Bool) (f : Fm) (p : Ip) : Drops (advV c f p) ∨ Told m f (advV c f p) := by
  unfold advV
  split
  · exact .inl ⟨_, by assumption, rfl⟩
  · split
    · exact .inl ⟨66, by decide, rfl⟩
    · split
      · exact .inl ⟨1, by decide, rfl⟩
      · exact .inr (told_of (by omega) (by omega) (fun _ => by omega) (adDecode_len p))
theorem srt4_cases (c : CfV) (m : Bool) (f : Fm) (p : Ip) : Drops (srt4 c m f p) ∨ Told m f (srt4 c m f p) := by
  unfold srt4
  split
  · exact advV_cases c m f p
  · split
    · exact syncV_cases m f p
    · split
      · split
        · exact .inl ⟨201, by decide, rfl⟩
        · rename_i hm
          have : m = true := by simpa using hm
          subst this
          exact clientV_cases c f p
      · exact replyV_cases c m f p
theorem srt_cases (c : CfV) (m : Bool) (b : List UInt8) : Drops (srt c m b) ∨ ((etDecode b).2 = 0 ∧ Told m (etDecode b).1 (srt c m b)) := by
  unfold srt
  split
  · exact .inl ⟨_, by assumption, rfl⟩
  · rename_i h0
    have h0' : (etDecode b).2 = 0 := Classical.not_not.1 h0
    split
    · exact .inl ⟨200, by decide, rfl⟩
    · cases hp : pkO (etDecode b).1 noIp with
      | none => exact absurd hp (pkO_some _ _)
      | some x =>
        unfold srt3
        simp only
        split
        · exact .inl ⟨_, by assumption, rfl⟩
        · split
          · exact .inr ⟨h0', told_of (by omega) (by omega) (fun _ => by omega) (Nat.zero_le _)⟩
          · rcases srt4_cases c m (etDecode b).1 x.p with h | h
            · exact .inl h
            · exact .inr ⟨h0', h⟩
theorem srt_kind {c : CfV} {m : Bool} {b : List UInt8} : ((srt c m b).kind = 0 ↔ (srt c m b).why ≠ 0) := by
  rcases srt_cases c m b with ⟨e, he, h⟩ | ⟨_, h⟩
  · rw [h]; exact ⟨fun _ => he, fun _ => rfl⟩
  · have h1 := h.why; have h2 := h.lo
    exact ⟨fun q => by omega, fun q => absurd h1 q⟩
theorem srt_len (c : CfV) (m : Bool) (b : List UInt8) : (srt c m b).a.addrs.length ≤ 8796093022000 := by
  rcases srt_cases c m b with ⟨e, he, h⟩ | ⟨_, h⟩
  · rw [h]; exact Nat.zero_le _
  · have := h.len; omega
theorem srt_low (c : CfV) (b : List UInt8) : (srt c false b).kind ≤ 3 := by
  rcases srt_cases c false b with ⟨e, he, h⟩ | ⟨_, h⟩
  · rw [h]; show (0 : Int) ≤ 3; omega
  · exact h.low rfl
theorem frB_mono {card : Mc} {id : Int} {ad : List UInt8} {to : Mc} (h : ¬ frB card id ad false to = true) : ¬ frB card id ad true to = true := by
  unfold frB at *
  revert h
  generalize decide (to = card) = a
  generalize decide (to.a0 &&& 1 = 1) = b
  generalize ((etVirt id (decide (ad.length = 16))).2 && decide (to = (etVirt id (decide (ad.length = 16))).1)) = d
  revert a b d; decide
/-- a backup is told what a master is, but for what only a master is -/
theorem srt_both (c : CfV) (b : List UInt8) : (srt c false b).why = 200 ∨ (srt c false b).why = 201 ∨ srt c false b = srt c true b := by
  unfold srt
  by_cases h0 : (etDecode b).2 ≠ 0
  · rw [if_pos h0, if_pos h0]; exact .inr (.inr rfl)
  rw [if_neg h0, if_neg h0]
  by_cases h1 : frB c.mac c.id c.addr false (etDecode b).1.a = true
  · rw [if_pos h1]; exact .inl rfl
  rw [if_neg h1, if_neg (frB_mono h1)]
  cases pkO (etDecode b).1 noIp with
  | none => exact .inr (.inr rfl)
  | some x =>
    unfold srt3
    simp only
    by_cases h2 : x.why ≠ 0
    · rw [if_pos h2, if_pos h2]; exact .inr (.inr rfl)
    rw [if_neg h2, if_neg h2]
    by_cases h3 : x.noted = true
    · rw [if_pos h3, if_pos h3]; exact .inr (.inr rfl)
    rw [if_neg h3, if_neg h3]
    unfold srt4
    by_cases h4 : x.p.proto = 112
    · rw [if_pos h4, if_pos h4]; exact .inr (.inr rfl)
    rw [if_neg h4, if_neg h4]
    by_cases h5 : x.p.src = c.peer ∧ x.p.dst = c.addr ∧ x.p.proto = 17
    · rw [if_pos h5, if_pos h5]; exact .inr (.inr rfl)
    rw [if_neg h5, if_neg h5]
    by_cases h6 : hasB c.vips x.p.dst = true
    · rw [if_pos h6, if_pos rfl]; exact .inr (.inl rfl)
    rw [if_neg h6, if_neg h6]
    unfold replyV
    rcases rpO_cases c.svs false x.p with e | ⟨y, e, hy, h7⟩ | ⟨hm, _⟩
    · rw [e, rpO_none.2 (rpO_none.1 e)]; exact .inr (.inr rfl)
    · rw [e]
      simp only
      rw [if_neg hy]
      exact .inr (.inl (h7 rfl))
    · cases hm
theorem sameV_refl (v : VdV) : sameV v v = true := by unfold sameV; simp
/-- a backend's answer -/
theorem srt_reply {c : CfV} {b : List UInt8} (h : (srt c true b).kind = 5) : ∃ (k : Nat) (x : Int), (srt c true b).svc = k ∧ (srt c true b).bk = x ∧ k < c.svs.length ∧ 0 ≤ x ∧ x < (c.svs.getD k sv0).bks.length ∧
    ((c.svs.getD k sv0).bks.getD x.toNat bk0).addr = (srt c true b).p.src ∧ (srt c true b).fl.src = (srt c true b).p.dst ∧ (srt c true b).fl.dst = (c.svs.getD k sv0).vip ∧ (srt c true b).fl.dest = (c.svs.getD k sv0).port ∧ (c.svs.getD k sv0).mode = 1 ∧ (srt c true b).fl.proto = (c.svs.getD k sv0).proto := by
  have drop : ∀ e, (dropV e).kind = 5 → False := fun e he => by cases he
  unfold srt at h ⊢
  by_cases h0 : (etDecode b).2 ≠ 0
  · rw [if_pos h0] at h; exact (drop _ h).elim
  rw [if_neg h0] at h ⊢
  by_cases h1 : frB c.mac c.id c.addr true (etDecode b).1.a = true
  · rw [if_pos h1] at h; exact (drop _ h).elim
  rw [if_neg h1] at h ⊢
  cases hp : pkO (etDecode b).1 noIp with
  | none => exact absurd hp (pkO_some _ _)
  | some x =>
    rw [hp] at h
    unfold srt3 at h ⊢
    simp only at h ⊢
    by_cases h2 : x.why ≠ 0
    · rw [if_pos h2] at h; exact (drop _ h).elim
    rw [if_neg h2] at h ⊢
    by_cases h3 : x.noted = true
    · rw [if_pos h3] at h; cases h
    rw [if_neg h3] at h ⊢
    unfold srt4 at h ⊢
    by_cases h4 : x.p.proto = 112
    · rw [if_pos h4] at h
      unfold advV at h
      repeat' split at h
      all_goals cases h
    rw [if_neg h4] at h ⊢
    by_cases h5 : x.p.src = c.peer ∧ x.p.dst = c.addr ∧ x.p.proto = 17
    · rw [if_pos h5] at h
      unfold syncV at h
      repeat' split at h
      all_goals cases h
    rw [if_neg h5] at h ⊢
    by_cases h6 : hasB c.vips x.p.dst = true
    · rw [if_pos h6] at h
      rw [if_neg (by decide)] at h
      unfold clientV at h
      repeat' split at h
      all_goals cases h
    rw [if_neg h6] at h ⊢
    unfold replyV at h ⊢
    rcases rpO_cases c.svs true x.p with e | ⟨y, e, hy, _⟩ | ⟨_, k, j, e, hr⟩ <;> rw [e] at h ⊢ <;> simp only at h ⊢
    · exact (drop _ h).elim
    · rw [if_neg hy] at h; exact (drop _ h).elim
    · rw [if_pos trivial]
      obtain ⟨r1, r2, r3⟩ := rpOut_some hr
      obtain ⟨s1, s2, s3, s4⟩ := rpAt_some r2 r3
      exact ⟨k, j, rfl, rfl, by omega, r3, s3, s4, rfl, rfl, rfl, s2, s1.symm⟩
end Go.Proofs.Ytnbbaemijogeoaa
