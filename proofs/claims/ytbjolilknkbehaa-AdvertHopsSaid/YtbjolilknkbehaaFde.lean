/- advert.Decode: up to the loop over the body's addresses. -/
import Derived.Test.YtbjolilknkbehaaRfA
import Derived.Test.YtbjolilknkbehaaAeWh
import Derived.Test.YtbjolilknkbehaaAeFz
import Derived.Test.YtbjolilknkbehaaAeQk
import Derived.Test.YtbjolilknkbehaaAeNm
set_option linter.unusedSimpArgs false
set_option linter.unusedVariables false
set_option maxRecDepth 100000
namespace Go.Proofs.Ytbjolilknkbehaa.Ae
open Go
def ann_advert_Decode_1 : Nat → List Nat × Nat × List (List Nat)
  | _ => ([], 0, [])
def Tdc1 : Specs := ext Tad 21 (fnP Try.prog Tad ann_advert_Decode_1 Try.f21)
theorem Tdc1_sound : TSound Try.prog Tdc1 := ext_sound Tad_sound (fn_row Tad_sound mixed Try.func21 (by decide +kernel))
def ann_advert_Decode_2 : Nat → List Nat × Nat × List (List Nat)
  | 2000001 => ([], 9, [[], [0], [0, 1], [0, 1, 2], [0, 1, 2, 3], [0, 1, 2, 3, 4], [0, 1, 2, 3, 4, 5], [0, 1, 2, 3, 4, 5, 6]])
  | _ => ([], 0, [])
def Tdc2 : Specs := ext Tdc1 22 (fnP Try.prog Tdc1 ann_advert_Decode_2 Try.f22)
theorem Tdc2_sound : TSound Try.prog Tdc2 := ext_sound Tdc1_sound (fn_row Tdc1_sound mixed Try.func22 (by decide +kernel))
def ann_advert_Decode_3 : Nat → List Nat × Nat × List (List Nat)
  | _ => ([], 0, [])
def Tdc3 : Specs := ext Tdc2 23 (fnP Try.prog Tdc2 ann_advert_Decode_3 Try.f23)
theorem Tdc3_sound : TSound Try.prog Tdc3 := ext_sound Tdc2_sound (fn_row Tdc2_sound mixed Try.func23 (by decide +kernel))
def ann_advert_Decode_4 : Nat → List Nat × Nat × List (List Nat)
  | _ => ([], 0, [])
def Tdc4 : Specs := ext Tdc3 25 (fnP Try.prog Tdc3 ann_advert_Decode_4 Try.f25)
theorem Tdc4_sound : TSound Try.prog Tdc4 := ext_sound Tdc3_sound (fn_row Tdc3_sound mixed Try.func25 (by decide +kernel))
def ann_advert_Decode_5 : Nat → List Nat × Nat × List (List Nat)
  | _ => ([], 0, [])
def Tdc5 : Specs := ext Tdc4 26 (fnP Try.prog Tdc4 ann_advert_Decode_5 Try.f26)
theorem Tdc5_sound : TSound Try.prog Tdc5 := ext_sound Tdc4_sound (fn_row Tdc4_sound mixed Try.func26 (by decide +kernel))
def ann_advert_Decode_6 : Nat → List Nat × Nat × List (List Nat)
  | 1 => ([], 18, [[], [0], [0, 1], [0, 1, 2], [0, 1, 2, 3], [0, 1, 2, 3, 4], [0, 1, 2, 3, 4, 5], [0, 1, 2, 3, 4, 5, 6], [0, 1, 2, 3, 4, 5, 6, 7], [0, 1, 2, 3, 4, 5, 6, 7, 8], [0, 1, 2, 3, 4, 5, 6, 7, 8, 9], [0, 1, 2, 3, 4, 5, 6, 7, 8], [0, 1, 2, 3, 4, 5, 6, 7, 8, 11], [0, 1, 2, 3, 4, 5, 6, 7, 8], [0, 1, 2, 3, 4, 5, 6, 7, 8, 11, 12, 13], [0, 1, 2, 3, 4, 5, 6, 7, 8, 11, 12, 13, 14], [0, 1, 2, 3, 4, 5, 6, 7, 8, 9, 10, 11, 12, 13, 14, 15], [0, 1, 2, 3, 4, 5, 6, 7, 8, 9, 10, 11, 12, 13, 14, 15, 16]])
  | _ => ([], 0, [])
def Tdc6 : Specs := ext Tdc5 27 (fnP Try.prog Tdc5 ann_advert_Decode_6 Try.f27)
theorem Tdc6_sound : TSound Try.prog Tdc6 := ext_sound Tdc5_sound (fn_row Tdc5_sound mixed Try.func27 (by decide +kernel))
def ann_advert_Decode_7 : Nat → List Nat × Nat × List (List Nat)
  | 1 => ([], 14, [[], [0], [], [2], [], [4], [], [6], [0, 1, 2, 3, 4, 5, 6, 7], [], [9], [0, 1, 2, 3, 4, 5, 6, 7, 8, 9, 10], [0, 1, 2, 3, 4, 5, 6, 7, 8, 9, 10, 11], [0, 1, 2, 3, 4, 5, 6, 7, 8, 9, 10, 11, 12]])
  | _ => ([], 0, [])
def Tdc7 : Specs := ext Tdc6 28 (fnP Try.prog Tdc6 ann_advert_Decode_7 Try.f28)
theorem Tdc7_sound : TSound Try.prog Tdc7 := ext_sound Tdc6_sound (fn_row Tdc6_sound mixed Try.func28 (by decide +kernel))
def ann_advert_Decode_8 : Nat → List Nat × Nat × List (List Nat)
  | 1 => ([], 17, [[], [0], [0, 1], [0, 1, 2], [0, 1, 2, 3], [0, 1, 2, 3, 4], [0, 1, 2, 3, 4, 5], [0, 1, 2, 3, 4, 5, 6], [0, 1, 2, 3, 4, 5, 6, 7], [0, 1, 2, 3, 4, 5, 6, 7, 8], [0, 1, 2, 3, 4, 5, 6, 7, 8, 9], [0, 1, 2, 3, 4, 5, 6, 7, 8, 9, 10], [0, 1, 2, 3, 4, 5, 6, 7, 8, 9], [0, 1, 2, 3, 4, 5, 6, 7, 8, 9, 10, 11, 12], [0, 1, 2, 3, 4, 5, 6, 7, 8, 9, 10, 11, 12, 13], [0, 1, 2, 3, 4, 5, 6, 7, 8, 9, 10, 11, 12, 13, 14], [0, 1, 2, 3, 4, 5, 6, 7, 8, 9, 10, 11, 12, 13, 14, 15]])
  | _ => ([], 0, [])
def Tdc8 : Specs := ext Tdc7 30 (fnP Try.prog Tdc7 ann_advert_Decode_8 Try.f30)
theorem Tdc8_sound : TSound Try.prog Tdc8 := ext_sound Tdc7_sound (fn_row Tdc7_sound mixed Try.func30 (by decide +kernel))
def ann_advert_addrs : Nat → List Nat × Nat × List (List Nat)
  | _ => ([], 0, [])
def Tdc9 : Specs := ext Tdc8 31 (fnP Try.prog Tdc8 ann_advert_addrs Try.f31)
theorem Tdc9_sound : TSound Try.prog Tdc9 := ext_sound Tdc8_sound (fn_row Tdc8_sound mixed Try.func31 (by decide +kernel))
abbrev Tdc : Specs := Tdc9
theorem Tdc_sound : TSound Try.prog Tdc := Tdc9_sound
def ann_advert_Decode : Nat → List Nat × Nat × List (List Nat)
  | 1 => ([], 8, [[], [0], [], [2], [2, 3], [], [], [0, 1, 5, 6]])
  | 4 => ([2, 4, 5, 6, 31, 32, 33], 0, [])
  | 7 => ([], 4, [[3], [], [], [1], [0]])
  | 9 => ([], 12, [[], [0], [], [0, 1, 2], [], [0, 1, 2, 3, 4], [0, 1, 2, 3, 4, 5], [], [0, 1, 2, 3, 4, 5, 7], [0, 1, 2, 3, 4, 5, 6, 7, 8], [0, 1, 2, 3, 4, 5, 6, 7, 8, 9], []])
  | 1000004 => ([], 8, [])
  | _ => ([], 0, [])
noncomputable def dcB : Code := bodyOf Try.f13
noncomputable abbrev dcX : Cx := ⟨Try.prog, Tdc, Try.f13.ntmps, 0, ann_advert_Decode⟩
noncomputable def dc0 : Code := cAt [.l] dcB
noncomputable def dc1 : Code := cAt [.r, .l] dcB
noncomputable def dc2 : Code := cAt [.r, .r, .l] dcB
noncomputable def dc3 : Code := cAt [.r, .r, .r, .l] dcB
noncomputable def dc4 : Code := cAt [.r, .r, .r, .r, .l] dcB
noncomputable def dc5 : Code := cAt [.r, .r, .r, .r, .r, .l, .l] dcB
noncomputable def dcPre : Code := .seq dc3 (.seq dc4 dc5)
noncomputable def dcK (G : St → Prop) (K : AVal → Hp → Prop) : Post
  | .normal, s => normK 0 [2, 9, 57] s G
  | .ret, s => endK Try.prog 0 Try.f13.results.toList K s
  | .exit _, _ => False
def dcP (src dst : List UInt8) (proto ttl : Int) (body : List UInt8) : List AVal := [.str src, .str dst, .int .i64 proto, .int .i64 ttl, .str body]
def dcZ : List AVal := [.int .i64 0, .int .i64 0, .int .i64 0, .nilS]
def dcS1 (src dst : List UInt8) (proto ttl : Int) (body : List UInt8) : St := ⟨[(1, .rop (dcP src dst proto ttl body)), (2, .ptr 0 0), (3, .int .i64 0)], [.vals dcZ]⟩
def dcS2 (src dst : List UInt8) (proto ttl : Int) (body : List UInt8) : St := ⟨[(1, .rop (dcP src dst proto ttl body)), (2, .ptr 0 0), (3, .int .i64 0), (4, .ptr 1 0), (5, .ptr 2 0)], [.vals dcZ, .vals [.str body], .vals [.int .i64 (src.length : Int)]]⟩
def dcS2f (src dst : List UInt8) (proto ttl : Int) (body : List UInt8) : St := ⟨[(1, .rop (dcP src dst proto ttl body)), (2, .ptr 0 0), (3, .int .i64 0), (4, .rop [.str body]), (5, .rop [.int .i64 (src.length : Int)])], [.vals dcZ]⟩
def dcS3 (src dst : List UInt8) (proto ttl : Int) (body : List UInt8) : St := ⟨[(1, .rop (dcP src dst proto ttl body)), (2, .ptr 0 0), (3, .int .i64 0), (4, .rop [.str body]), (5, .rop [.int .i64 (src.length : Int)]), (6, .ptr 1 0)], [.vals dcZ, .vals [.fn 21 [] [.rop [.str body]]]]⟩
def dcS3f (src dst : List UInt8) (proto ttl : Int) (body : List UInt8) : St := ⟨[(1, .rop (dcP src dst proto ttl body)), (2, .ptr 0 0), (3, .int .i64 0), (4, .rop [.str body]), (5, .rop [.int .i64 (src.length : Int)]), (6, .rop [.fn 21 [] [.rop [.str body]]])], [.vals dcZ]⟩
theorem dc0_eq (src dst : List UInt8) (proto ttl : Int) (body : List UInt8) : awp dcX dc0 ⟨argEnv 0 [.agg (dcP src dst proto ttl body)], []⟩ (seqK (fun s => normK 0 [1, 2, 3] s fun s => s = ⟨[(1, .ptr 0 0), (2, .ptr 1 0), (3, .int .i64 0)], [.vals (dcP src dst proto ttl body), .vals dcZ]⟩) (fun _ _ => False)) = ((⟨[(1, .ptr 0 0), (2, .ptr 1 0), (3, .int .i64 0)], [.vals (dcP src dst proto ttl body), .vals dcZ]⟩ : St) = ⟨[(1, .ptr 0 0), (2, .ptr 1 0), (3, .int .i64 0)], [.vals (dcP src dst proto ttl body), .vals dcZ]⟩) := by kernel_rfl
theorem dc2_eq (src dst : List UInt8) (proto ttl : Int) (body : List UInt8) : awp dcX dc2 (dcS2f src dst proto ttl body) (seqK (fun s => normK 0 [1, 2, 3, 4, 5, 6] s fun s => s = dcS3 src dst proto ttl body) (fun _ _ => False)) = (dcS3 src dst proto ttl body = dcS3 src dst proto ttl body) := by kernel_rfl
set_option maxRecDepth 100000 in
theorem dcPre_eq (src dst : List UInt8) (proto ttl : Int) (body : List UInt8) (G : St → Prop) (K : AVal → Hp → Prop) : awp dcX dcPre (dcS3f src dst proto ttl body) (dcK G K) = (
 ((0 : Int) ≤ (0 : Int) ∧ (0 : Int) < (7 : Int)) ∧
 brP (!decide (ttl = (255 : Int)) || !decide (proto = (112 : Int)))
 (K
 (AVal.tup
 [AVal.agg
 [AVal.int IntKind.i64 (0 : Int), AVal.int IntKind.i64 (0 : Int), AVal.int IntKind.i64 (0 : Int), AVal.nilS],
 AVal.int IntKind.i64 (65 : Int)])
 [])
 (I64 (1 : Int) ∧
 ((0 : Int) ≤ (1 : Int) ∧ (1 : Int) < (7 : Int)) ∧
 brP (decide ((↑(List.length src) : Int) = (4 : Int)))
 (brP (!decide ((↑(List.length src) : Int) = (↑(List.length dst) : Int)))
 (K
 (AVal.tup
 [AVal.agg
 [AVal.int IntKind.i64 (0 : Int), AVal.int IntKind.i64 (0 : Int), AVal.int IntKind.i64 (0 : Int), AVal.nilS],
 AVal.int IntKind.i64 (60 : Int)])
 [])
 (brP (decide ((↑(List.length body) : Int) < (8 : Int)))
 (K
 (AVal.tup
 [AVal.agg
 [AVal.int IntKind.i64 (0 : Int), AVal.int IntKind.i64 (0 : Int), AVal.int IntKind.i64 (0 : Int), AVal.nilS],
 AVal.int IntKind.i64 (60 : Int)])
 [])
 (I64 (2 : Int) ∧
 ((0 : Int) ≤ (2 : Int) ∧ (2 : Int) < (7 : Int)) ∧
 ((0 : Int) ≤ (0 : Int) ∧ (0 : Int) < (↑(List.length body) : Int)) ∧
 ((0 : Int) ≤ (4 : Int) ∧ (4 : Nat) < (64 : Nat)) ∧
 brP (!decide ((↑(UInt8.toNat (List.getD body (0 : Nat) (0 : UInt8))) : Int) / (16 : Int) = (3 : Int)))
 (K
 (AVal.tup
 [AVal.agg
 [AVal.int IntKind.i64 (0 : Int), AVal.int IntKind.i64 (0 : Int), AVal.int IntKind.i64 (0 : Int),
 AVal.nilS],
 AVal.int IntKind.i64 (61 : Int)])
 [])
 (I64 (3 : Int) ∧
 ((0 : Int) ≤ (3 : Int) ∧ (3 : Int) < (7 : Int)) ∧
 ((0 : Int) ≤ (0 : Int) ∧ (0 : Int) < (↑(List.length body) : Int)) ∧
 brP
 (!decide
 (bits BinOp.and IntKind.i64 (↑(UInt8.toNat (List.getD body (0 : Nat) (0 : UInt8))) : Int)
 (15 : Int) =
 (1 : Int)))
 (K
 (AVal.tup
 [AVal.agg
 [AVal.int IntKind.i64 (0 : Int), AVal.int IntKind.i64 (0 : Int), AVal.int IntKind.i64 (0 : Int),
 AVal.nilS],
 AVal.int IntKind.i64 (62 : Int)])
 [])
 (I64 (4 : Int) ∧
 ((0 : Int) ≤ (4 : Int) ∧ (4 : Int) < (7 : Int)) ∧
 ((0 : Int) ≤ (3 : Int) ∧ (3 : Int) < (↑(List.length body) : Int)) ∧
 brP (decide ((↑(UInt8.toNat (List.getD body (3 : Nat) (0 : UInt8))) : Int) < (1 : Int)))
 (K
 (AVal.tup
 [AVal.agg
 [AVal.int IntKind.i64 (0 : Int), AVal.int IntKind.i64 (0 : Int),
 AVal.int IntKind.i64 (0 : Int), AVal.nilS],
 AVal.int IntKind.i64 (63 : Int)])
 [])
 (((0 : Int) ≤ (3 : Int) ∧ (3 : Int) < (↑(List.length body) : Int)) ∧
 brP (decide ((8 : Int) < (↑(UInt8.toNat (List.getD body (3 : Nat) (0 : UInt8))) : Int)))
 (K
 (AVal.tup
 [AVal.agg
 [AVal.int IntKind.i64 (0 : Int), AVal.int IntKind.i64 (0 : Int),
 AVal.int IntKind.i64 (0 : Int), AVal.nilS],
 AVal.int IntKind.i64 (63 : Int)])
 [])
 (((0 : Int) ≤ (3 : Int) ∧ (3 : Int) < (↑(List.length body) : Int)) ∧
 I64
 ((↑(UInt8.toNat (List.getD body (3 : Nat) (0 : UInt8))) : Int) * (↑(List.length src) : Int)) ∧
 I64
 ((8 : Int) +
 (↑(UInt8.toNat (List.getD body (3 : Nat) (0 : UInt8))) : Int) *
 (↑(List.length src) : Int)) ∧
 brP
 (!decide
 ((↑(List.length body) : Int) =
 (8 : Int) +
 (↑(UInt8.toNat (List.getD body (3 : Nat) (0 : UInt8))) : Int) *
 (↑(List.length src) : Int)))
 (K
 (AVal.tup
 [AVal.agg
 [AVal.int IntKind.i64 (0 : Int), AVal.int IntKind.i64 (0 : Int),
 AVal.int IntKind.i64 (0 : Int), AVal.nilS],
 AVal.int IntKind.i64 (63 : Int)])
 [])
 (I64 (5 : Int) ∧
 ((0 : Int) ≤ (5 : Int) ∧ (5 : Int) < (7 : Int)) ∧
 optP (pseudo src dst proto (↑(List.length body) : Int))
 (fun x =>
 List.length body ≤ (140737488355328 : Nat) ∧
 ((2 : Nat) ≤ (1000 : Nat) ∧
 List.length
 (List.flatten
 [List.take (List.length x) (List.drop (0 : Nat) x),
 List.take (List.length body) (List.drop (0 : Nat) body)]) ≤
 (562949953421312 : Nat)) ∧
 brP
 (!sumB
 (List.flatten
 [List.take (List.length x) (List.drop (0 : Nat) x),
 List.take (List.length body) (List.drop (0 : Nat) body)]) ==
 (65535 : Int))
 (K
 (AVal.tup
 [AVal.agg
 [AVal.int IntKind.i64 (0 : Int), AVal.int IntKind.i64 (0 : Int),
 AVal.int IntKind.i64 (0 : Int), AVal.nilS],
 AVal.int IntKind.i64 (64 : Int)])
 [])
 (I64 (6 : Int) ∧
 ((0 : Int) ≤ (6 : Int) ∧ (6 : Int) < (7 : Int)) ∧
 ((0 : Int) ≤ (1 : Int) ∧ (1 : Int) < (↑(List.length body) : Int)) ∧
 brP
 (decide
 ((↑(UInt8.toNat (List.getD body (1 : Nat) (0 : UInt8))) : Int) = (0 : Int)))
 (K
 (AVal.tup
 [AVal.agg
 [AVal.int IntKind.i64 (0 : Int), AVal.int IntKind.i64 (0 : Int),
 AVal.int IntKind.i64 (0 : Int), AVal.nilS],
 AVal.int IntKind.i64 (66 : Int)])
 [])
 (((0 : Int) ≤ (4 : Int) ∧ (4 : Int) < (↑(List.length body) : Int)) ∧
 ((0 : Int) ≤ (4 : Int) ∧ (4 : Nat) < (64 : Nat)) ∧
 brP
 (!decide
 ((↑(UInt8.toNat (List.getD body (4 : Nat) (0 : UInt8))) : Int) / (16 : Int) =
 (0 : Int)))
 (K
 (AVal.tup
 [AVal.agg
 [AVal.int IntKind.i64 (0 : Int), AVal.int IntKind.i64 (0 : Int),
 AVal.int IntKind.i64 (0 : Int), AVal.nilS],
 AVal.int IntKind.i64 (66 : Int)])
 [])
 (((0 : Int) ≤ (4 : Int) ∧ (4 : Int) < (↑(List.length body) : Int)) ∧
 ((0 : Int) ≤ (5 : Int) ∧ (5 : Int) < (↑(List.length body) : Int)) ∧
 brP
 (decide
 (bits BinOp.or IntKind.i64
 (↑(UInt8.toNat (List.getD body (4 : Nat) (0 : UInt8))) : Int)
 (↑(UInt8.toNat (List.getD body (5 : Nat) (0 : UInt8))) : Int) =
 (0 : Int)))
 (K
 (AVal.tup
 [AVal.agg
 [AVal.int IntKind.i64 (0 : Int), AVal.int IntKind.i64 (0 : Int),
 AVal.int IntKind.i64 (0 : Int), AVal.nilS],
 AVal.int IntKind.i64 (66 : Int)])
 [])
 (I64 (7 : Int) ∧
 ((0 : Int) ≤ (1 : Int) ∧ (1 : Int) < (↑(List.length body) : Int)) ∧
 ((0 : Int) ≤ (2 : Int) ∧ (2 : Int) < (↑(List.length body) : Int)) ∧
 ((0 : Int) ≤ (4 : Int) ∧ (4 : Int) < (↑(List.length body) : Int)) ∧
 ((0 : Int) ≤ (8 : Int) ∧
 (8 : Int) < (64 : Int) ∧
 I64
 ((↑(UInt8.toNat (List.getD body (4 : Nat) (0 : UInt8))) : Int) *
 (256 : Int))) ∧
 ((0 : Int) ≤ (5 : Int) ∧ (5 : Int) < (↑(List.length body) : Int)) ∧
 G
 (St.mk
 [((2 : Nat), AVal.ptr (0 : Nat) (0 : Nat)),
 ((9 : Nat), AVal.ptr (1 : Nat) (0 : Nat)),
 ((57 : Nat),
 AVal.fn 37 []
 [AVal.ptr (2 : Nat) (0 : Nat), AVal.ptr (3 : Nat) (0 : Nat)])]
 [ABlk.vals
 [AVal.int IntKind.i64 (0 : Int), AVal.int IntKind.i64 (0 : Int),
 AVal.int IntKind.i64 (0 : Int), AVal.nilS],
 ABlk.vals
 [AVal.int IntKind.i64
 (↑(UInt8.toNat (List.getD body (1 : Nat) (0 : UInt8))) : Int),
 AVal.int IntKind.i64
 (↑(UInt8.toNat (List.getD body (2 : Nat) (0 : UInt8))) : Int),
 AVal.int IntKind.i64
 (bits BinOp.or IntKind.i64
 ((↑(UInt8.toNat (List.getD body (4 : Nat) (0 : UInt8))) :
 Int) *
 (256 : Int))
 (↑(UInt8.toNat (List.getD body (5 : Nat) (0 : UInt8))) : Int)),
 AVal.nilS],
 ABlk.vals [AVal.str body],
 ABlk.vals [AVal.int IntKind.i64 (↑(List.length src) : Int)]]))))))
 (List.length body ≤ (140737488355328 : Nat) ∧
 ((2 : Nat) ≤ (1000 : Nat) ∧
 List.length
 (List.flatten [[], List.take (List.length body) (List.drop (0 : Nat) body)]) ≤
 (562949953421312 : Nat)) ∧
 brP
 (!sumB (List.flatten [[], List.take (List.length body) (List.drop (0 : Nat) body)]) ==
 (65535 : Int))
 (K
 (AVal.tup
 [AVal.agg
 [AVal.int IntKind.i64 (0 : Int), AVal.int IntKind.i64 (0 : Int),
 AVal.int IntKind.i64 (0 : Int), AVal.nilS],
 AVal.int IntKind.i64 (64 : Int)])
 [])
 (I64 (6 : Int) ∧
 ((0 : Int) ≤ (6 : Int) ∧ (6 : Int) < (7 : Int)) ∧
 ((0 : Int) ≤ (1 : Int) ∧ (1 : Int) < (↑(List.length body) : Int)) ∧
 brP
 (decide
 ((↑(UInt8.toNat (List.getD body (1 : Nat) (0 : UInt8))) : Int) = (0 : Int)))
 (K
 (AVal.tup
 [AVal.agg
 [AVal.int IntKind.i64 (0 : Int), AVal.int IntKind.i64 (0 : Int),
 AVal.int IntKind.i64 (0 : Int), AVal.nilS],
 AVal.int IntKind.i64 (66 : Int)])
 [])
 (((0 : Int) ≤ (4 : Int) ∧ (4 : Int) < (↑(List.length body) : Int)) ∧
 ((0 : Int) ≤ (4 : Int) ∧ (4 : Nat) < (64 : Nat)) ∧
 brP
 (!decide
 ((↑(UInt8.toNat (List.getD body (4 : Nat) (0 : UInt8))) : Int) / (16 : Int) =
 (0 : Int)))
 (K
 (AVal.tup
 [AVal.agg
 [AVal.int IntKind.i64 (0 : Int), AVal.int IntKind.i64 (0 : Int),
 AVal.int IntKind.i64 (0 : Int), AVal.nilS],
 AVal.int IntKind.i64 (66 : Int)])
 [])
 (((0 : Int) ≤ (4 : Int) ∧ (4 : Int) < (↑(List.length body) : Int)) ∧
 ((0 : Int) ≤ (5 : Int) ∧ (5 : Int) < (↑(List.length body) : Int)) ∧
 brP
 (decide
 (bits BinOp.or IntKind.i64
 (↑(UInt8.toNat (List.getD body (4 : Nat) (0 : UInt8))) : Int)
 (↑(UInt8.toNat (List.getD body (5 : Nat) (0 : UInt8))) : Int) =
 (0 : Int)))
 (K
 (AVal.tup
 [AVal.agg
 [AVal.int IntKind.i64 (0 : Int), AVal.int IntKind.i64 (0 : Int),
 AVal.int IntKind.i64 (0 : Int), AVal.nilS],
 AVal.int IntKind.i64 (66 : Int)])
 [])
 (I64 (7 : Int) ∧
 ((0 : Int) ≤ (1 : Int) ∧ (1 : Int) < (↑(List.length body) : Int)) ∧
 ((0 : Int) ≤ (2 : Int) ∧ (2 : Int) < (↑(List.length body) : Int)) ∧
 ((0 : Int) ≤ (4 : Int) ∧ (4 : Int) < (↑(List.length body) : Int)) ∧
 ((0 : Int) ≤ (8 : Int) ∧
 (8 : Int) < (64 : Int) ∧
 I64
 ((↑(UInt8.toNat (List.getD body (4 : Nat) (0 : UInt8))) : Int) *
 (256 : Int))) ∧
 ((0 : Int) ≤ (5 : Int) ∧ (5 : Int) < (↑(List.length body) : Int)) ∧
 G
 (St.mk
 [((2 : Nat), AVal.ptr (0 : Nat) (0 : Nat)),
 ((9 : Nat), AVal.ptr (1 : Nat) (0 : Nat)),
 ((57 : Nat),
 AVal.fn 37 []
 [AVal.ptr (2 : Nat) (0 : Nat), AVal.ptr (3 : Nat) (0 : Nat)])]
 [ABlk.vals
 [AVal.int IntKind.i64 (0 : Int), AVal.int IntKind.i64 (0 : Int),
 AVal.int IntKind.i64 (0 : Int), AVal.nilS],
 ABlk.vals
 [AVal.int IntKind.i64
 (↑(UInt8.toNat (List.getD body (1 : Nat) (0 : UInt8))) : Int),
 AVal.int IntKind.i64
 (↑(UInt8.toNat (List.getD body (2 : Nat) (0 : UInt8))) : Int),
 AVal.int IntKind.i64
 (bits BinOp.or IntKind.i64
 ((↑(UInt8.toNat (List.getD body (4 : Nat) (0 : UInt8))) : Int) *
 (256 : Int))
 (↑(UInt8.toNat (List.getD body (5 : Nat) (0 : UInt8))) : Int)),
 AVal.nilS],
 ABlk.vals [AVal.str body],
 ABlk.vals
 [AVal.int IntKind.i64 (↑(List.length src) : Int)]]))))))))))))))
 (brP (!decide ((↑(List.length src) : Int) = (16 : Int)))
 (K
 (AVal.tup
 [AVal.agg
 [AVal.int IntKind.i64 (0 : Int), AVal.int IntKind.i64 (0 : Int), AVal.int IntKind.i64 (0 : Int), AVal.nilS],
 AVal.int IntKind.i64 (60 : Int)])
 [])
 (brP (!decide ((↑(List.length src) : Int) = (↑(List.length dst) : Int)))
 (K
 (AVal.tup
 [AVal.agg
 [AVal.int IntKind.i64 (0 : Int), AVal.int IntKind.i64 (0 : Int), AVal.int IntKind.i64 (0 : Int), AVal.nilS],
 AVal.int IntKind.i64 (60 : Int)])
 [])
 (brP (decide ((↑(List.length body) : Int) < (8 : Int)))
 (K
 (AVal.tup
 [AVal.agg
 [AVal.int IntKind.i64 (0 : Int), AVal.int IntKind.i64 (0 : Int), AVal.int IntKind.i64 (0 : Int),
 AVal.nilS],
 AVal.int IntKind.i64 (60 : Int)])
 [])
 (I64 (2 : Int) ∧
 ((0 : Int) ≤ (2 : Int) ∧ (2 : Int) < (7 : Int)) ∧
 ((0 : Int) ≤ (0 : Int) ∧ (0 : Int) < (↑(List.length body) : Int)) ∧
 ((0 : Int) ≤ (4 : Int) ∧ (4 : Nat) < (64 : Nat)) ∧
 brP (!decide ((↑(UInt8.toNat (List.getD body (0 : Nat) (0 : UInt8))) : Int) / (16 : Int) = (3 : Int)))
 (K
 (AVal.tup
 [AVal.agg
 [AVal.int IntKind.i64 (0 : Int), AVal.int IntKind.i64 (0 : Int), AVal.int IntKind.i64 (0 : Int),
 AVal.nilS],
 AVal.int IntKind.i64 (61 : Int)])
 [])
 (I64 (3 : Int) ∧
 ((0 : Int) ≤ (3 : Int) ∧ (3 : Int) < (7 : Int)) ∧
 ((0 : Int) ≤ (0 : Int) ∧ (0 : Int) < (↑(List.length body) : Int)) ∧
 brP
 (!decide
 (bits BinOp.and IntKind.i64 (↑(UInt8.toNat (List.getD body (0 : Nat) (0 : UInt8))) : Int)
 (15 : Int) =
 (1 : Int)))
 (K
 (AVal.tup
 [AVal.agg
 [AVal.int IntKind.i64 (0 : Int), AVal.int IntKind.i64 (0 : Int), AVal.int IntKind.i64 (0 : Int),
 AVal.nilS],
 AVal.int IntKind.i64 (62 : Int)])
 [])
 (I64 (4 : Int) ∧
 ((0 : Int) ≤ (4 : Int) ∧ (4 : Int) < (7 : Int)) ∧
 ((0 : Int) ≤ (3 : Int) ∧ (3 : Int) < (↑(List.length body) : Int)) ∧
 brP (decide ((↑(UInt8.toNat (List.getD body (3 : Nat) (0 : UInt8))) : Int) < (1 : Int)))
 (K
 (AVal.tup
 [AVal.agg
 [AVal.int IntKind.i64 (0 : Int), AVal.int IntKind.i64 (0 : Int),
 AVal.int IntKind.i64 (0 : Int), AVal.nilS],
 AVal.int IntKind.i64 (63 : Int)])
 [])
 (((0 : Int) ≤ (3 : Int) ∧ (3 : Int) < (↑(List.length body) : Int)) ∧
 brP (decide ((8 : Int) < (↑(UInt8.toNat (List.getD body (3 : Nat) (0 : UInt8))) : Int)))
 (K
 (AVal.tup
 [AVal.agg
 [AVal.int IntKind.i64 (0 : Int), AVal.int IntKind.i64 (0 : Int),
 AVal.int IntKind.i64 (0 : Int), AVal.nilS],
 AVal.int IntKind.i64 (63 : Int)])
 [])
 (((0 : Int) ≤ (3 : Int) ∧ (3 : Int) < (↑(List.length body) : Int)) ∧
 I64
 ((↑(UInt8.toNat (List.getD body (3 : Nat) (0 : UInt8))) : Int) *
 (↑(List.length src) : Int)) ∧
 I64
 ((8 : Int) +
 (↑(UInt8.toNat (List.getD body (3 : Nat) (0 : UInt8))) : Int) *
 (↑(List.length src) : Int)) ∧
 brP
 (!decide
 ((↑(List.length body) : Int) =
 (8 : Int) +
 (↑(UInt8.toNat (List.getD body (3 : Nat) (0 : UInt8))) : Int) *
 (↑(List.length src) : Int)))
 (K
 (AVal.tup
 [AVal.agg
 [AVal.int IntKind.i64 (0 : Int), AVal.int IntKind.i64 (0 : Int),
 AVal.int IntKind.i64 (0 : Int), AVal.nilS],
 AVal.int IntKind.i64 (63 : Int)])
 [])
 (I64 (5 : Int) ∧
 ((0 : Int) ≤ (5 : Int) ∧ (5 : Int) < (7 : Int)) ∧
 optP (pseudo src dst proto (↑(List.length body) : Int))
 (fun x =>
 List.length body ≤ (140737488355328 : Nat) ∧
 ((2 : Nat) ≤ (1000 : Nat) ∧
 List.length
 (List.flatten
 [List.take (List.length x) (List.drop (0 : Nat) x),
 List.take (List.length body) (List.drop (0 : Nat) body)]) ≤
 (562949953421312 : Nat)) ∧
 brP
 (!sumB
 (List.flatten
 [List.take (List.length x) (List.drop (0 : Nat) x),
 List.take (List.length body) (List.drop (0 : Nat) body)]) ==
 (65535 : Int))
 (K
 (AVal.tup
 [AVal.agg
 [AVal.int IntKind.i64 (0 : Int), AVal.int IntKind.i64 (0 : Int),
 AVal.int IntKind.i64 (0 : Int), AVal.nilS],
 AVal.int IntKind.i64 (64 : Int)])
 [])
 (I64 (6 : Int) ∧
 ((0 : Int) ≤ (6 : Int) ∧ (6 : Int) < (7 : Int)) ∧
 ((0 : Int) ≤ (1 : Int) ∧ (1 : Int) < (↑(List.length body) : Int)) ∧
 brP
 (decide
 ((↑(UInt8.toNat (List.getD body (1 : Nat) (0 : UInt8))) : Int) = (0 : Int)))
 (K
 (AVal.tup
 [AVal.agg
 [AVal.int IntKind.i64 (0 : Int), AVal.int IntKind.i64 (0 : Int),
 AVal.int IntKind.i64 (0 : Int), AVal.nilS],
 AVal.int IntKind.i64 (66 : Int)])
 [])
 (((0 : Int) ≤ (4 : Int) ∧ (4 : Int) < (↑(List.length body) : Int)) ∧
 ((0 : Int) ≤ (4 : Int) ∧ (4 : Nat) < (64 : Nat)) ∧
 brP
 (!decide
 ((↑(UInt8.toNat (List.getD body (4 : Nat) (0 : UInt8))) : Int) /
 (16 : Int) =
 (0 : Int)))
 (K
 (AVal.tup
 [AVal.agg
 [AVal.int IntKind.i64 (0 : Int), AVal.int IntKind.i64 (0 : Int),
 AVal.int IntKind.i64 (0 : Int), AVal.nilS],
 AVal.int IntKind.i64 (66 : Int)])
 [])
 (((0 : Int) ≤ (4 : Int) ∧ (4 : Int) < (↑(List.length body) : Int)) ∧
 ((0 : Int) ≤ (5 : Int) ∧ (5 : Int) < (↑(List.length body) : Int)) ∧
 brP
 (decide
 (bits BinOp.or IntKind.i64
 (↑(UInt8.toNat (List.getD body (4 : Nat) (0 : UInt8))) : Int)
 (↑(UInt8.toNat (List.getD body (5 : Nat) (0 : UInt8))) : Int) =
 (0 : Int)))
 (K
 (AVal.tup
 [AVal.agg
 [AVal.int IntKind.i64 (0 : Int), AVal.int IntKind.i64 (0 : Int),
 AVal.int IntKind.i64 (0 : Int), AVal.nilS],
 AVal.int IntKind.i64 (66 : Int)])
 [])
 (I64 (7 : Int) ∧
 ((0 : Int) ≤ (1 : Int) ∧ (1 : Int) < (↑(List.length body) : Int)) ∧
 ((0 : Int) ≤ (2 : Int) ∧ (2 : Int) < (↑(List.length body) : Int)) ∧
 ((0 : Int) ≤ (4 : Int) ∧ (4 : Int) < (↑(List.length body) : Int)) ∧
 ((0 : Int) ≤ (8 : Int) ∧
 (8 : Int) < (64 : Int) ∧
 I64
 ((↑(UInt8.toNat (List.getD body (4 : Nat) (0 : UInt8))) : Int) *
 (256 : Int))) ∧
 ((0 : Int) ≤ (5 : Int) ∧ (5 : Int) < (↑(List.length body) : Int)) ∧
 G
 (St.mk
 [((2 : Nat), AVal.ptr (0 : Nat) (0 : Nat)),
 ((9 : Nat), AVal.ptr (1 : Nat) (0 : Nat)),
 ((57 : Nat),
 AVal.fn 37 []
 [AVal.ptr (2 : Nat) (0 : Nat), AVal.ptr (3 : Nat) (0 : Nat)])]
 [ABlk.vals
 [AVal.int IntKind.i64 (0 : Int), AVal.int IntKind.i64 (0 : Int),
 AVal.int IntKind.i64 (0 : Int), AVal.nilS],
 ABlk.vals
 [AVal.int IntKind.i64
 (↑(UInt8.toNat (List.getD body (1 : Nat) (0 : UInt8))) : Int),
 AVal.int IntKind.i64
 (↑(UInt8.toNat (List.getD body (2 : Nat) (0 : UInt8))) : Int),
 AVal.int IntKind.i64
 (bits BinOp.or IntKind.i64
 ((↑(UInt8.toNat (List.getD body (4 : Nat) (0 : UInt8))) :
 Int) *
 (256 : Int))
 (↑(UInt8.toNat (List.getD body (5 : Nat) (0 : UInt8))) :
 Int)),
 AVal.nilS],
 ABlk.vals [AVal.str body],
 ABlk.vals [AVal.int IntKind.i64 (↑(List.length src) : Int)]]))))))
 (List.length body ≤ (140737488355328 : Nat) ∧
 ((2 : Nat) ≤ (1000 : Nat) ∧
 List.length
 (List.flatten [[], List.take (List.length body) (List.drop (0 : Nat) body)]) ≤
 (562949953421312 : Nat)) ∧
 brP
 (!sumB (List.flatten [[], List.take (List.length body) (List.drop (0 : Nat) body)]) ==
 (65535 : Int))
 (K
 (AVal.tup
 [AVal.agg
 [AVal.int IntKind.i64 (0 : Int), AVal.int IntKind.i64 (0 : Int),
 AVal.int IntKind.i64 (0 : Int), AVal.nilS],
 AVal.int IntKind.i64 (64 : Int)])
 [])
 (I64 (6 : Int) ∧
 ((0 : Int) ≤ (6 : Int) ∧ (6 : Int) < (7 : Int)) ∧
 ((0 : Int) ≤ (1 : Int) ∧ (1 : Int) < (↑(List.length body) : Int)) ∧
 brP
 (decide
 ((↑(UInt8.toNat (List.getD body (1 : Nat) (0 : UInt8))) : Int) = (0 : Int)))
 (K
 (AVal.tup
 [AVal.agg
 [AVal.int IntKind.i64 (0 : Int), AVal.int IntKind.i64 (0 : Int),
 AVal.int IntKind.i64 (0 : Int), AVal.nilS],
 AVal.int IntKind.i64 (66 : Int)])
 [])
 (((0 : Int) ≤ (4 : Int) ∧ (4 : Int) < (↑(List.length body) : Int)) ∧
 ((0 : Int) ≤ (4 : Int) ∧ (4 : Nat) < (64 : Nat)) ∧
 brP
 (!decide
 ((↑(UInt8.toNat (List.getD body (4 : Nat) (0 : UInt8))) : Int) / (16 : Int) =
 (0 : Int)))
 (K
 (AVal.tup
 [AVal.agg
 [AVal.int IntKind.i64 (0 : Int), AVal.int IntKind.i64 (0 : Int),
 AVal.int IntKind.i64 (0 : Int), AVal.nilS],
 AVal.int IntKind.i64 (66 : Int)])
 [])
 (((0 : Int) ≤ (4 : Int) ∧ (4 : Int) < (↑(List.length body) : Int)) ∧
 ((0 : Int) ≤ (5 : Int) ∧ (5 : Int) < (↑(List.length body) : Int)) ∧
 brP
 (decide
 (bits BinOp.or IntKind.i64
 (↑(UInt8.toNat (List.getD body (4 : Nat) (0 : UInt8))) : Int)
 (↑(UInt8.toNat (List.getD body (5 : Nat) (0 : UInt8))) : Int) =
 (0 : Int)))
 (K
 (AVal.tup
 [AVal.agg
 [AVal.int IntKind.i64 (0 : Int), AVal.int IntKind.i64 (0 : Int),
 AVal.int IntKind.i64 (0 : Int), AVal.nilS],
 AVal.int IntKind.i64 (66 : Int)])
 [])
 (I64 (7 : Int) ∧
 ((0 : Int) ≤ (1 : Int) ∧ (1 : Int) < (↑(List.length body) : Int)) ∧
 ((0 : Int) ≤ (2 : Int) ∧ (2 : Int) < (↑(List.length body) : Int)) ∧
 ((0 : Int) ≤ (4 : Int) ∧ (4 : Int) < (↑(List.length body) : Int)) ∧
 ((0 : Int) ≤ (8 : Int) ∧
 (8 : Int) < (64 : Int) ∧
 I64
 ((↑(UInt8.toNat (List.getD body (4 : Nat) (0 : UInt8))) : Int) *
 (256 : Int))) ∧
 ((0 : Int) ≤ (5 : Int) ∧ (5 : Int) < (↑(List.length body) : Int)) ∧
 G
 (St.mk
 [((2 : Nat), AVal.ptr (0 : Nat) (0 : Nat)),
 ((9 : Nat), AVal.ptr (1 : Nat) (0 : Nat)),
 ((57 : Nat),
 AVal.fn 37 []
 [AVal.ptr (2 : Nat) (0 : Nat), AVal.ptr (3 : Nat) (0 : Nat)])]
 [ABlk.vals
 [AVal.int IntKind.i64 (0 : Int), AVal.int IntKind.i64 (0 : Int),
 AVal.int IntKind.i64 (0 : Int), AVal.nilS],
 ABlk.vals
 [AVal.int IntKind.i64
 (↑(UInt8.toNat (List.getD body (1 : Nat) (0 : UInt8))) : Int),
 AVal.int IntKind.i64
 (↑(UInt8.toNat (List.getD body (2 : Nat) (0 : UInt8))) : Int),
 AVal.int IntKind.i64
 (bits BinOp.or IntKind.i64
 ((↑(UInt8.toNat (List.getD body (4 : Nat) (0 : UInt8))) :
 Int) *
 (256 : Int))
 (↑(UInt8.toNat (List.getD body (5 : Nat) (0 : UInt8))) : Int)),
 AVal.nilS],
 ABlk.vals [AVal.str body],
 ABlk.vals
 [AVal.int IntKind.i64 (↑(List.length src) : Int)]]))))))))))))))))) := by kernel_rfl
end Go.Proofs.Ytbjolilknkbehaa.Ae

