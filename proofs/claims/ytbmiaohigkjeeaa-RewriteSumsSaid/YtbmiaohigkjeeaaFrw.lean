/- Chapter 19's functions as a table. -/
import Derived.Test.YtbmiaohigkjeeaaFpr
import Derived.Test.YtbmiaohigkjeeaaMrw
import Derived.Test.YtbmiaohigkjeeaaAeCh
import Derived.Test.YtbmiaohigkjeeaaAeQk
set_option linter.unusedSimpArgs false
set_option linter.unusedVariables false
set_option maxRecDepth 8000
namespace Go.Proofs.Ytbmiaohigkjeeaa.Ae
open Go

def ipV (p : Ip) : List AVal := [.str p.src, .str p.dst, .int .i64 p.proto, .int .i64 p.ttl, .str p.body]
def turnRow : Srow := fun args H K => match args, H with
  | [.agg [.str f, .str t, .int .i64 p, .int .i64 q, .str b], .int .i64 0, .str was, .str now, .int .i64 port], [] => (((p = 17 ∧ 8 ≤ b.length) ∨ (p ≠ 17 ∧ 20 ≤ b.length)) ∧ b.length ≤ 140737488351232 ∧ was.length = now.length ∧ was.length % 2 = 0 ∧ was.length ≤ 16 ∧ 0 ≤ port ∧ port ≤ 65535) ∧ K (.str (rwTurned ⟨f, t, p, q, b⟩ 0 was now port)) []
  | [.agg [.str f, .str t, .int .i64 p, .int .i64 q, .str b], .int .i64 2, .str was, .str now, .int .i64 port], [] => (((p = 17 ∧ 8 ≤ b.length) ∨ (p ≠ 17 ∧ 20 ≤ b.length)) ∧ b.length ≤ 140737488351232 ∧ was.length = now.length ∧ was.length % 2 = 0 ∧ was.length ≤ 16 ∧ 0 ≤ port ∧ port ≤ 65535) ∧ K (.str (rwTurned ⟨f, t, p, q, b⟩ 2 was now port)) []
  | _, _ => False
theorem wrap_u16_small {n : Int} (h : 0 ≤ n ∧ n < 65536) : IntKind.wrap IntKind.u16 n = n := by
  simp [IntKind.wrap, IntKind.bits, IntKind.signed]
  omega
theorem or_u16 (x y : UInt8) : bits BinOp.or IntKind.u16 (IntKind.wrap IntKind.u16 ((x.toNat : Int) * 256)) (y.toNat : Int) = w16 x y := by
  have hx := x.toNat_lt
  have hy := y.toNat_lt
  rw [wrap_u16_small (by omega), show ((x.toNat : Int) * 256) = ((x.toNat * 256 : Nat) : Int) by omega]
  have h : ∀ n : Nat, n < 65536 → (BitVec.ofInt 16 (n : Int)).toNat = n := fun n hn => by
    rw [BitVec.ofInt_natCast, BitVec.toNat_ofNat]; exact Nat.mod_eq_of_lt (by omega)
  show IntKind.u16.wrap ((BitVec.ofInt 16 ((x.toNat * 256 : Nat) : Int) ||| BitVec.ofInt 16 ((y.toNat : Nat) : Int)).toNat : Int) = _
  rw [BitVec.toNat_or, h _ (by omega), h _ (by omega), or_256 _ _ hy, wrap_u16_small (by omega)]
  unfold w16; omega
theorem add_w16' (x y : UInt8) : (x.toNat : Int) * 256 + (y.toNat : Int) = w16 x y := (add_w16 x y).trans (by cases x; rfl)
def ipOut (g : Ip × Int) (K : AVal → Hp → Prop) : Prop := K (.tup [.agg [.str g.1.src, .str g.1.dst, .int .i64 g.1.proto, .int .i64 g.1.ttl, .str g.1.body], .int .i64 g.2]) []
def chRow (gTo gFrom : Nat) : Srow := fun args H K => match args, H with
  | [.agg [.str f, .str t, .int .i64 p, .int .i64 q, .str b], .str a, .int .i64 n, .fn g [] []], [] => b.length ≤ 140737488351232 ∧ I64 q ∧
    cond (Nat.beq g gTo) (ipOut (rwTo ⟨f, t, p, q, b⟩ a n) K) (cond (Nat.beq g gFrom) (ipOut (rwFrom ⟨f, t, p, q, b⟩ a n) K) False)
  | _, _ => False
def toRow (g : Ip → List UInt8 → Int → Ip × Int) : Srow := fun args H K => match args, H with
  | [.agg [.str f, .str t, .int .i64 p, .int .i64 q, .str b], .str a, .int .i64 n], [] => (b.length ≤ 140737488351232 ∧ I64 q) ∧ ipOut (g ⟨f, t, p, q, b⟩ a n) K
  | _, _ => False
def wrapRow : Srow := fun args H K => match args, H with
  | [.agg [.str f, .str t, .int .i64 p, .int .i64 q, .str b], .str x, .str y], [] => I64 q ∧ ipOut (rwWrap ⟨f, t, p, q, b⟩ x y) K
  | _, _ => False
def unwrapRow : Srow := fun args H K => match args, H with
  | [.agg [.str f, .str t, .int .i64 p, .int .i64 q, .str b]], [] => b.length ≤ 140737488351232 ∧ ipOut (rwUnwrap ⟨f, t, p, q, b⟩) K
  | _, _ => False
def Trw1 : Specs := ext Tpr 57 (chgRow16)
theorem Trw1_sound : TSound Try.prog Trw1 := ext_sound Tpr_sound ((fun _ _ _ h => chg16_row h))
def Trw2 : Specs := ext Trw1 47 (chgRow64)
theorem Trw2_sound : TSound Try.prog Trw2 := ext_sound Trw1_sound ((fun _ _ _ h => chg64_row h))
def ann_cksum_Same : Nat → List Nat × Nat × List (List Nat)
  | 2000001 => ([], 18, [[], [0], [0, 1], [0, 1, 2], [0, 1, 2, 3], [0, 1, 2, 3, 4], [0, 1, 2, 3, 4, 5], [0, 1, 2, 3, 4, 5, 6], [0, 1, 2, 3, 4, 5, 6, 7], [0, 1, 2, 3, 4, 5, 6, 7, 8], [0, 1, 2, 3, 4, 5, 6, 7, 8, 9], [0, 1, 2, 3, 4, 5, 6, 7, 8, 9, 10], [0, 1, 2, 3, 4, 5, 6, 7, 8, 9, 10, 11], [0, 1, 2, 3, 4, 5, 6, 7, 8, 9, 10, 11, 12], [0, 1, 2, 3, 4, 5, 6, 7, 8, 9, 10, 11, 12, 13], [0, 1, 2, 3, 4, 5, 6, 7, 8, 9, 10, 11, 12, 13, 14], [0, 1, 2, 3, 4, 5, 6, 7, 8, 9, 10, 11, 12, 13, 14, 15]])
  | _ => ([], 0, [])
def Trw3 : Specs := ext Trw2 11 (fnP Try.prog Trw2 ann_cksum_Same Try.f11)
theorem Trw3_sound : TSound Try.prog Trw3 := ext_sound Trw2_sound (fn_row Trw2_sound mixed Try.func11 (by decide +kernel))
def ann_outriderref05_Read : Nat → List Nat × Nat × List (List Nat)
  | 2000010 => ([], 11, [[], [0], [0, 1], [0, 1, 2], [0, 1, 2, 3], [0, 1, 2, 3, 4], [0, 1, 2, 3, 4, 5], [0, 1, 2, 3, 4, 5, 6], [0, 1, 2, 3, 4, 5, 6, 7], [0, 1, 2, 3, 4, 5, 6, 7, 8]])
  | 2000020 => ([], 26, [[], [0], [0, 1], [0, 1, 2], [0, 1, 2, 3], [0, 1, 2, 3, 4], [0, 1, 2, 3, 4, 5], [0, 1, 2, 3, 4, 5, 6], [0, 1, 2, 3, 4, 5, 6, 7], [0, 1, 2, 3, 4, 5, 6, 7, 8], [0, 1, 2, 3, 4, 5, 6, 7, 8, 9], [0, 1, 2, 3, 4, 5, 6, 7, 8, 9, 10], [0, 1, 2, 3, 4, 5, 6, 7, 8, 9, 10, 11], [0, 1, 2, 3, 4, 5, 6, 7, 8, 9, 10, 11, 12], [0, 1, 2, 3, 4, 5, 6, 7, 8, 9, 10, 11, 12, 13], [0, 1, 2, 3, 4, 5, 6, 7, 8, 9, 10, 11, 12, 13, 14], [0, 1, 2, 3, 4, 5, 6, 7, 8, 9, 10, 11, 12, 13, 14, 15], [0, 1, 2, 3, 4, 5, 6, 7, 8, 9, 10, 11, 12, 13, 14, 15, 16], [0, 1, 2, 3, 4, 5, 6, 7, 8, 9, 10, 11, 12, 13, 14, 15, 16, 17], [0, 1, 2, 3, 4, 5, 6, 7, 8, 9, 10, 11, 12, 13, 14, 15, 16, 17, 18], [0, 1, 2, 3, 4, 5, 6, 7, 8, 9, 10, 11, 12, 13, 14, 15, 16, 17, 18, 19], [0, 1, 2, 3, 4, 5, 6, 7, 8, 9, 10, 11, 12, 13, 14, 15, 16, 17, 18, 19, 20], [0, 1, 2, 3, 4, 5, 6, 7, 8, 9, 10, 11, 12, 13, 14, 15, 16, 17, 18, 19, 20, 21], [0, 1, 2, 3, 4, 5, 6, 7, 8, 9, 10, 11, 12, 13, 14, 15, 16, 17, 18, 19, 20, 21, 22], [0, 1, 2, 3, 4, 5, 6, 7, 8, 9, 10, 11, 12, 13, 14, 15, 16, 17, 18, 19, 20, 21, 22, 23]])
  | _ => ([], 0, [])
set_option maxRecDepth 100000 in
theorem ref05_Read_eq (f t : List UInt8) (p q : Int) (b : List UInt8) (K : AVal → Hp → Prop) : fnP Try.prog Trw3 ann_outriderref05_Read Try.f44 [.agg [.str f, .str t, .int .i64 p, .int .i64 q, .str b]] [] K = (
 brP (decide (p = (6 : Int)))
 (brP (decide ((↑(List.length b) : Int) < (20 : Int)))
 (K
 (AVal.tup
 [AVal.agg
 [AVal.int IntKind.i64 (0 : Int), AVal.int IntKind.i64 (0 : Int), AVal.int IntKind.i64 (0 : Int),
 AVal.int IntKind.i64 (0 : Int), AVal.int IntKind.i64 (0 : Int)],
 AVal.int IntKind.i64 (50 : Int)])
 [])
 (((0 : Int) ≤ (12 : Int) ∧ (12 : Int) < (↑(List.length b) : Int)) ∧
 ((16 : Int) ≠ (0 : Int) ∧ I64 (Int.tdiv (↑(UInt8.toNat (List.getD b (12 : Nat) (0 : UInt8))) : Int) (16 : Int))) ∧
 I64 (Int.tdiv (↑(UInt8.toNat (List.getD b (12 : Nat) (0 : UInt8))) : Int) (16 : Int) * (4 : Int)) ∧
 ((0 : Int) ≤ (13 : Int) ∧ (13 : Int) < (↑(List.length b) : Int)) ∧
 (64 : Int) ≠ (0 : Int) ∧
 brP
 (decide
 (Int.tdiv (↑(UInt8.toNat (List.getD b (12 : Nat) (0 : UInt8))) : Int) (16 : Int) * (4 : Int) < (20 : Int)) ||
 decide
 ((↑(List.length b) : Int) <
 Int.tdiv (↑(UInt8.toNat (List.getD b (12 : Nat) (0 : UInt8))) : Int) (16 : Int) * (4 : Int)))
 (K
 (AVal.tup
 [AVal.agg
 [AVal.int IntKind.i64 (0 : Int), AVal.int IntKind.i64 (0 : Int), AVal.int IntKind.i64 (0 : Int),
 AVal.int IntKind.i64 (0 : Int), AVal.int IntKind.i64 (0 : Int)],
 AVal.int IntKind.i64 (53 : Int)])
 [])
 (((0 : Int) ≤ (0 : Int) ∧ (0 : Int) ≤ (2 : Int) ∧ (2 : Int) ≤ (↑(List.length b) : Int)) ∧
 ((0 : Int) ≤ (0 : Int) ∧ (0 : Int) < (↑(List.length (List.drop (0 : Nat) (List.take (2 : Nat) b))) : Int)) ∧
 I64
 ((↑(UInt8.toNat (List.getD (List.drop (0 : Nat) (List.take (2 : Nat) b)) (0 : Nat) (0 : UInt8))) : Int) *
 (256 : Int)) ∧
 ((0 : Int) ≤ (1 : Int) ∧ (1 : Int) < (↑(List.length (List.drop (0 : Nat) (List.take (2 : Nat) b))) : Int)) ∧
 I64
 ((↑(UInt8.toNat (List.getD (List.drop (0 : Nat) (List.take (2 : Nat) b)) (0 : Nat) (0 : UInt8))) : Int) *
 (256 : Int) +
 (↑(UInt8.toNat (List.getD (List.drop (0 : Nat) (List.take (2 : Nat) b)) (1 : Nat) (0 : UInt8))) :
 Int)) ∧
 ((0 : Int) ≤ (2 : Int) ∧ (2 : Int) ≤ (4 : Int) ∧ (4 : Int) ≤ (↑(List.length b) : Int)) ∧
 ((0 : Int) ≤ (0 : Int) ∧
 (0 : Int) < (↑(List.length (List.drop (2 : Nat) (List.take (4 : Nat) b))) : Int)) ∧
 I64
 ((↑(UInt8.toNat (List.getD (List.drop (2 : Nat) (List.take (4 : Nat) b)) (0 : Nat) (0 : UInt8))) :
 Int) *
 (256 : Int)) ∧
 ((0 : Int) ≤ (1 : Int) ∧
 (1 : Int) < (↑(List.length (List.drop (2 : Nat) (List.take (4 : Nat) b))) : Int)) ∧
 I64
 ((↑(UInt8.toNat (List.getD (List.drop (2 : Nat) (List.take (4 : Nat) b)) (0 : Nat) (0 : UInt8))) :
 Int) *
 (256 : Int) +
 (↑(UInt8.toNat (List.getD (List.drop (2 : Nat) (List.take (4 : Nat) b)) (1 : Nat) (0 : UInt8))) :
 Int)) ∧
 impP
 (decide (p = (17 : Int)) && decide ((↑(List.length f) : Int) = (4 : Int)) &&
 decide ((↑(List.length t) : Int) = (4 : Int)))
 ((0 : Int) ≤ (6 : Int) ∧ (6 : Int) < (↑(List.length b) : Int)) ∧
 impP
 (decide (p = (17 : Int)) && decide ((↑(List.length f) : Int) = (4 : Int)) &&
 decide ((↑(List.length t) : Int) = (4 : Int)) &&
 decide (List.getD b (6 : Nat) (0 : UInt8) = (0 : UInt8)))
 ((0 : Int) ≤ (7 : Int) ∧ (7 : Int) < (↑(List.length b) : Int)) ∧
 brP
 (!(decide (p = (17 : Int)) && decide ((↑(List.length f) : Int) = (4 : Int)) &&
 decide ((↑(List.length t) : Int) = (4 : Int)) &&
 decide (List.getD b (6 : Nat) (0 : UInt8) = (0 : UInt8)) &&
 decide (List.getD b (7 : Nat) (0 : UInt8) = (0 : UInt8))))
 (optP (pseudo f t p (↑(List.length b) : Int))
 (fun x =>
 List.length (List.take (List.length x) (List.drop (0 : Nat) x)) + List.length b ≤
 (4611686018427387904 : Nat) ∧
 List.length (List.take (List.length x) (List.drop (0 : Nat) x) ++ b) ≤
 (140737488355328 : Nat) ∧
 brP
 (!decide
 (sumB
 (List.take (List.length (List.take (List.length x) (List.drop (0 : Nat) x) ++ b))
 (List.drop (0 : Nat) (List.take (List.length x) (List.drop (0 : Nat) x) ++ b))) =
 (65535 : Int)))
 (K
 (AVal.tup
 [AVal.agg
 [AVal.int IntKind.i64 (0 : Int), AVal.int IntKind.i64 (0 : Int),
 AVal.int IntKind.i64 (0 : Int), AVal.int IntKind.i64 (0 : Int),
 AVal.int IntKind.i64 (0 : Int)],
 AVal.int IntKind.i64 (52 : Int)])
 [])
 (brP (decide ((↑(List.length f) : Int) = (4 : Int)))
 (brP (!decide ((↑(List.length f) : Int) = (↑(List.length t) : Int)))
 (K
 (AVal.tup
 [AVal.agg
 [AVal.int IntKind.i64 (0 : Int), AVal.int IntKind.i64 (0 : Int),
 AVal.int IntKind.i64 (0 : Int), AVal.int IntKind.i64 (0 : Int),
 AVal.int IntKind.i64 (0 : Int)],
 AVal.int IntKind.i64 (53 : Int)])
 [])
 (K
 (AVal.tup
 [AVal.agg
 [AVal.int IntKind.i64 p,
 AVal.int IntKind.i64
 ((↑(UInt8.toNat
 (List.getD (List.drop (0 : Nat) (List.take (2 : Nat) b)) (0 : Nat)
 (0 : UInt8))) :
 Int) *
 (256 : Int) +
 (↑(UInt8.toNat
 (List.getD (List.drop (0 : Nat) (List.take (2 : Nat) b)) (1 : Nat)
 (0 : UInt8))) :
 Int)),
 AVal.int IntKind.i64
 ((↑(UInt8.toNat
 (List.getD (List.drop (2 : Nat) (List.take (4 : Nat) b)) (0 : Nat)
 (0 : UInt8))) :
 Int) *
 (256 : Int) +
 (↑(UInt8.toNat
 (List.getD (List.drop (2 : Nat) (List.take (4 : Nat) b)) (1 : Nat)
 (0 : UInt8))) :
 Int)),
 AVal.int IntKind.i64
 (Int.tmod (↑(UInt8.toNat (List.getD b (13 : Nat) (0 : UInt8))) : Int) (64 : Int)),
 AVal.int IntKind.i64
 (Int.tdiv (↑(UInt8.toNat (List.getD b (12 : Nat) (0 : UInt8))) : Int) (16 : Int) *
 (4 : Int))],
 AVal.int IntKind.i64 (0 : Int)])
 []))
 (brP (!decide ((↑(List.length f) : Int) = (16 : Int)))
 (K
 (AVal.tup
 [AVal.agg
 [AVal.int IntKind.i64 (0 : Int), AVal.int IntKind.i64 (0 : Int),
 AVal.int IntKind.i64 (0 : Int), AVal.int IntKind.i64 (0 : Int),
 AVal.int IntKind.i64 (0 : Int)],
 AVal.int IntKind.i64 (53 : Int)])
 [])
 (brP (!decide ((↑(List.length f) : Int) = (↑(List.length t) : Int)))
 (K
 (AVal.tup
 [AVal.agg
 [AVal.int IntKind.i64 (0 : Int), AVal.int IntKind.i64 (0 : Int),
 AVal.int IntKind.i64 (0 : Int), AVal.int IntKind.i64 (0 : Int),
 AVal.int IntKind.i64 (0 : Int)],
 AVal.int IntKind.i64 (53 : Int)])
 [])
 (K
 (AVal.tup
 [AVal.agg
 [AVal.int IntKind.i64 p,
 AVal.int IntKind.i64
 ((↑(UInt8.toNat
 (List.getD (List.drop (0 : Nat) (List.take (2 : Nat) b)) (0 : Nat)
 (0 : UInt8))) :
 Int) *
 (256 : Int) +
 (↑(UInt8.toNat
 (List.getD (List.drop (0 : Nat) (List.take (2 : Nat) b)) (1 : Nat)
 (0 : UInt8))) :
 Int)),
 AVal.int IntKind.i64
 ((↑(UInt8.toNat
 (List.getD (List.drop (2 : Nat) (List.take (4 : Nat) b)) (0 : Nat)
 (0 : UInt8))) :
 Int) *
 (256 : Int) +
 (↑(UInt8.toNat
 (List.getD (List.drop (2 : Nat) (List.take (4 : Nat) b)) (1 : Nat)
 (0 : UInt8))) :
 Int)),
 AVal.int IntKind.i64
 (Int.tmod (↑(UInt8.toNat (List.getD b (13 : Nat) (0 : UInt8))) : Int) (64 : Int)),
 AVal.int IntKind.i64
 (Int.tdiv (↑(UInt8.toNat (List.getD b (12 : Nat) (0 : UInt8))) : Int) (16 : Int) *
 (4 : Int))],
 AVal.int IntKind.i64 (0 : Int)])
 [])))))
 ((0 : Nat) + List.length b ≤ (4611686018427387904 : Nat) ∧
 List.length ([] ++ b) ≤ (140737488355328 : Nat) ∧
 brP
 (!decide
 (sumB (List.take (List.length ([] ++ b)) (List.drop (0 : Nat) ([] ++ b))) = (65535 : Int)))
 (K
 (AVal.tup
 [AVal.agg
 [AVal.int IntKind.i64 (0 : Int), AVal.int IntKind.i64 (0 : Int),
 AVal.int IntKind.i64 (0 : Int), AVal.int IntKind.i64 (0 : Int),
 AVal.int IntKind.i64 (0 : Int)],
 AVal.int IntKind.i64 (52 : Int)])
 [])
 (brP (decide ((↑(List.length f) : Int) = (4 : Int)))
 (brP (!decide ((↑(List.length f) : Int) = (↑(List.length t) : Int)))
 (K
 (AVal.tup
 [AVal.agg
 [AVal.int IntKind.i64 (0 : Int), AVal.int IntKind.i64 (0 : Int),
 AVal.int IntKind.i64 (0 : Int), AVal.int IntKind.i64 (0 : Int),
 AVal.int IntKind.i64 (0 : Int)],
 AVal.int IntKind.i64 (53 : Int)])
 [])
 (K
 (AVal.tup
 [AVal.agg
 [AVal.int IntKind.i64 p,
 AVal.int IntKind.i64
 ((↑(UInt8.toNat
 (List.getD (List.drop (0 : Nat) (List.take (2 : Nat) b)) (0 : Nat)
 (0 : UInt8))) :
 Int) *
 (256 : Int) +
 (↑(UInt8.toNat
 (List.getD (List.drop (0 : Nat) (List.take (2 : Nat) b)) (1 : Nat) (0 : UInt8))) :
 Int)),
 AVal.int IntKind.i64
 ((↑(UInt8.toNat
 (List.getD (List.drop (2 : Nat) (List.take (4 : Nat) b)) (0 : Nat)
 (0 : UInt8))) :
 Int) *
 (256 : Int) +
 (↑(UInt8.toNat
 (List.getD (List.drop (2 : Nat) (List.take (4 : Nat) b)) (1 : Nat) (0 : UInt8))) :
 Int)),
 AVal.int IntKind.i64
 (Int.tmod (↑(UInt8.toNat (List.getD b (13 : Nat) (0 : UInt8))) : Int) (64 : Int)),
 AVal.int IntKind.i64
 (Int.tdiv (↑(UInt8.toNat (List.getD b (12 : Nat) (0 : UInt8))) : Int) (16 : Int) *
 (4 : Int))],
 AVal.int IntKind.i64 (0 : Int)])
 []))
 (brP (!decide ((↑(List.length f) : Int) = (16 : Int)))
 (K
 (AVal.tup
 [AVal.agg
 [AVal.int IntKind.i64 (0 : Int), AVal.int IntKind.i64 (0 : Int),
 AVal.int IntKind.i64 (0 : Int), AVal.int IntKind.i64 (0 : Int),
 AVal.int IntKind.i64 (0 : Int)],
 AVal.int IntKind.i64 (53 : Int)])
 [])
 (brP (!decide ((↑(List.length f) : Int) = (↑(List.length t) : Int)))
 (K
 (AVal.tup
 [AVal.agg
 [AVal.int IntKind.i64 (0 : Int), AVal.int IntKind.i64 (0 : Int),
 AVal.int IntKind.i64 (0 : Int), AVal.int IntKind.i64 (0 : Int),
 AVal.int IntKind.i64 (0 : Int)],
 AVal.int IntKind.i64 (53 : Int)])
 [])
 (K
 (AVal.tup
 [AVal.agg
 [AVal.int IntKind.i64 p,
 AVal.int IntKind.i64
 ((↑(UInt8.toNat
 (List.getD (List.drop (0 : Nat) (List.take (2 : Nat) b)) (0 : Nat)
 (0 : UInt8))) :
 Int) *
 (256 : Int) +
 (↑(UInt8.toNat
 (List.getD (List.drop (0 : Nat) (List.take (2 : Nat) b)) (1 : Nat)
 (0 : UInt8))) :
 Int)),
 AVal.int IntKind.i64
 ((↑(UInt8.toNat
 (List.getD (List.drop (2 : Nat) (List.take (4 : Nat) b)) (0 : Nat)
 (0 : UInt8))) :
 Int) *
 (256 : Int) +
 (↑(UInt8.toNat
 (List.getD (List.drop (2 : Nat) (List.take (4 : Nat) b)) (1 : Nat)
 (0 : UInt8))) :
 Int)),
 AVal.int IntKind.i64
 (Int.tmod (↑(UInt8.toNat (List.getD b (13 : Nat) (0 : UInt8))) : Int) (64 : Int)),
 AVal.int IntKind.i64
 (Int.tdiv (↑(UInt8.toNat (List.getD b (12 : Nat) (0 : UInt8))) : Int) (16 : Int) *
 (4 : Int))],
 AVal.int IntKind.i64 (0 : Int)])
 []))))))
 (brP (decide ((↑(List.length f) : Int) = (4 : Int)))
 (brP (!decide ((↑(List.length f) : Int) = (↑(List.length t) : Int)))
 (K
 (AVal.tup
 [AVal.agg
 [AVal.int IntKind.i64 (0 : Int), AVal.int IntKind.i64 (0 : Int),
 AVal.int IntKind.i64 (0 : Int), AVal.int IntKind.i64 (0 : Int),
 AVal.int IntKind.i64 (0 : Int)],
 AVal.int IntKind.i64 (53 : Int)])
 [])
 (K
 (AVal.tup
 [AVal.agg
 [AVal.int IntKind.i64 p,
 AVal.int IntKind.i64
 ((↑(UInt8.toNat
 (List.getD (List.drop (0 : Nat) (List.take (2 : Nat) b)) (0 : Nat) (0 : UInt8))) :
 Int) *
 (256 : Int) +
 (↑(UInt8.toNat
 (List.getD (List.drop (0 : Nat) (List.take (2 : Nat) b)) (1 : Nat) (0 : UInt8))) :
 Int)),
 AVal.int IntKind.i64
 ((↑(UInt8.toNat
 (List.getD (List.drop (2 : Nat) (List.take (4 : Nat) b)) (0 : Nat) (0 : UInt8))) :
 Int) *
 (256 : Int) +
 (↑(UInt8.toNat
 (List.getD (List.drop (2 : Nat) (List.take (4 : Nat) b)) (1 : Nat) (0 : UInt8))) :
 Int)),
 AVal.int IntKind.i64
 (Int.tmod (↑(UInt8.toNat (List.getD b (13 : Nat) (0 : UInt8))) : Int) (64 : Int)),
 AVal.int IntKind.i64
 (Int.tdiv (↑(UInt8.toNat (List.getD b (12 : Nat) (0 : UInt8))) : Int) (16 : Int) *
 (4 : Int))],
 AVal.int IntKind.i64 (0 : Int)])
 []))
 (brP (!decide ((↑(List.length f) : Int) = (16 : Int)))
 (K
 (AVal.tup
 [AVal.agg
 [AVal.int IntKind.i64 (0 : Int), AVal.int IntKind.i64 (0 : Int),
 AVal.int IntKind.i64 (0 : Int), AVal.int IntKind.i64 (0 : Int),
 AVal.int IntKind.i64 (0 : Int)],
 AVal.int IntKind.i64 (53 : Int)])
 [])
 (brP (!decide ((↑(List.length f) : Int) = (↑(List.length t) : Int)))
 (K
 (AVal.tup
 [AVal.agg
 [AVal.int IntKind.i64 (0 : Int), AVal.int IntKind.i64 (0 : Int),
 AVal.int IntKind.i64 (0 : Int), AVal.int IntKind.i64 (0 : Int),
 AVal.int IntKind.i64 (0 : Int)],
 AVal.int IntKind.i64 (53 : Int)])
 [])
 (K
 (AVal.tup
 [AVal.agg
 [AVal.int IntKind.i64 p,
 AVal.int IntKind.i64
 ((↑(UInt8.toNat
 (List.getD (List.drop (0 : Nat) (List.take (2 : Nat) b)) (0 : Nat) (0 : UInt8))) :
 Int) *
 (256 : Int) +
 (↑(UInt8.toNat
 (List.getD (List.drop (0 : Nat) (List.take (2 : Nat) b)) (1 : Nat) (0 : UInt8))) :
 Int)),
 AVal.int IntKind.i64
 ((↑(UInt8.toNat
 (List.getD (List.drop (2 : Nat) (List.take (4 : Nat) b)) (0 : Nat) (0 : UInt8))) :
 Int) *
 (256 : Int) +
 (↑(UInt8.toNat
 (List.getD (List.drop (2 : Nat) (List.take (4 : Nat) b)) (1 : Nat) (0 : UInt8))) :
 Int)),
 AVal.int IntKind.i64
 (Int.tmod (↑(UInt8.toNat (List.getD b (13 : Nat) (0 : UInt8))) : Int) (64 : Int)),
 AVal.int IntKind.i64
 (Int.tdiv (↑(UInt8.toNat (List.getD b (12 : Nat) (0 : UInt8))) : Int) (16 : Int) *
 (4 : Int))],
 AVal.int IntKind.i64 (0 : Int)])
 [])))))))
 (brP (decide (p = (17 : Int)))
 (brP (decide ((↑(List.length b) : Int) < (8 : Int)))
 (K
 (AVal.tup
 [AVal.agg
 [AVal.int IntKind.i64 (0 : Int), AVal.int IntKind.i64 (0 : Int), AVal.int IntKind.i64 (0 : Int),
 AVal.int IntKind.i64 (0 : Int), AVal.int IntKind.i64 (0 : Int)],
 AVal.int IntKind.i64 (50 : Int)])
 [])
 (((0 : Int) ≤ (4 : Int) ∧ (4 : Int) ≤ (6 : Int) ∧ (6 : Int) ≤ (↑(List.length b) : Int)) ∧
 ((0 : Int) ≤ (0 : Int) ∧ (0 : Int) < (↑(List.length (List.drop (4 : Nat) (List.take (6 : Nat) b))) : Int)) ∧
 I64
 ((↑(UInt8.toNat (List.getD (List.drop (4 : Nat) (List.take (6 : Nat) b)) (0 : Nat) (0 : UInt8))) : Int) *
 (256 : Int)) ∧
 ((0 : Int) ≤ (1 : Int) ∧ (1 : Int) < (↑(List.length (List.drop (4 : Nat) (List.take (6 : Nat) b))) : Int)) ∧
 I64
 ((↑(UInt8.toNat (List.getD (List.drop (4 : Nat) (List.take (6 : Nat) b)) (0 : Nat) (0 : UInt8))) : Int) *
 (256 : Int) +
 (↑(UInt8.toNat (List.getD (List.drop (4 : Nat) (List.take (6 : Nat) b)) (1 : Nat) (0 : UInt8))) : Int)) ∧
 brP
 (!decide
 ((↑(UInt8.toNat (List.getD (List.drop (4 : Nat) (List.take (6 : Nat) b)) (0 : Nat) (0 : UInt8))) : Int) *
 (256 : Int) +
 (↑(UInt8.toNat (List.getD (List.drop (4 : Nat) (List.take (6 : Nat) b)) (1 : Nat) (0 : UInt8))) : Int) =
 (↑(List.length b) : Int)))
 (K
 (AVal.tup
 [AVal.agg
 [AVal.int IntKind.i64 (0 : Int), AVal.int IntKind.i64 (0 : Int), AVal.int IntKind.i64 (0 : Int),
 AVal.int IntKind.i64 (0 : Int), AVal.int IntKind.i64 (0 : Int)],
 AVal.int IntKind.i64 (53 : Int)])
 [])
 (((0 : Int) ≤ (0 : Int) ∧ (0 : Int) ≤ (2 : Int) ∧ (2 : Int) ≤ (↑(List.length b) : Int)) ∧
 ((0 : Int) ≤ (0 : Int) ∧ (0 : Int) < (↑(List.length (List.drop (0 : Nat) (List.take (2 : Nat) b))) : Int)) ∧
 I64
 ((↑(UInt8.toNat (List.getD (List.drop (0 : Nat) (List.take (2 : Nat) b)) (0 : Nat) (0 : UInt8))) : Int) *
 (256 : Int)) ∧
 ((0 : Int) ≤ (1 : Int) ∧
 (1 : Int) < (↑(List.length (List.drop (0 : Nat) (List.take (2 : Nat) b))) : Int)) ∧
 I64
 ((↑(UInt8.toNat (List.getD (List.drop (0 : Nat) (List.take (2 : Nat) b)) (0 : Nat) (0 : UInt8))) :
 Int) *
 (256 : Int) +
 (↑(UInt8.toNat (List.getD (List.drop (0 : Nat) (List.take (2 : Nat) b)) (1 : Nat) (0 : UInt8))) :
 Int)) ∧
 ((0 : Int) ≤ (2 : Int) ∧ (2 : Int) ≤ (4 : Int) ∧ (4 : Int) ≤ (↑(List.length b) : Int)) ∧
 ((0 : Int) ≤ (0 : Int) ∧
 (0 : Int) < (↑(List.length (List.drop (2 : Nat) (List.take (4 : Nat) b))) : Int)) ∧
 I64
 ((↑(UInt8.toNat (List.getD (List.drop (2 : Nat) (List.take (4 : Nat) b)) (0 : Nat) (0 : UInt8))) :
 Int) *
 (256 : Int)) ∧
 ((0 : Int) ≤ (1 : Int) ∧
 (1 : Int) < (↑(List.length (List.drop (2 : Nat) (List.take (4 : Nat) b))) : Int)) ∧
 I64
 ((↑(UInt8.toNat (List.getD (List.drop (2 : Nat) (List.take (4 : Nat) b)) (0 : Nat) (0 : UInt8))) :
 Int) *
 (256 : Int) +
 (↑(UInt8.toNat (List.getD (List.drop (2 : Nat) (List.take (4 : Nat) b)) (1 : Nat) (0 : UInt8))) :
 Int)) ∧
 impP
 (decide (p = (17 : Int)) && decide ((↑(List.length f) : Int) = (4 : Int)) &&
 decide ((↑(List.length t) : Int) = (4 : Int)))
 ((0 : Int) ≤ (6 : Int) ∧ (6 : Int) < (↑(List.length b) : Int)) ∧
 impP
 (decide (p = (17 : Int)) && decide ((↑(List.length f) : Int) = (4 : Int)) &&
 decide ((↑(List.length t) : Int) = (4 : Int)) &&
 decide (List.getD b (6 : Nat) (0 : UInt8) = (0 : UInt8)))
 ((0 : Int) ≤ (7 : Int) ∧ (7 : Int) < (↑(List.length b) : Int)) ∧
 brP
 (!(decide (p = (17 : Int)) && decide ((↑(List.length f) : Int) = (4 : Int)) &&
 decide ((↑(List.length t) : Int) = (4 : Int)) &&
 decide (List.getD b (6 : Nat) (0 : UInt8) = (0 : UInt8)) &&
 decide (List.getD b (7 : Nat) (0 : UInt8) = (0 : UInt8))))
 (optP (pseudo f t p (↑(List.length b) : Int))
 (fun x =>
 List.length (List.take (List.length x) (List.drop (0 : Nat) x)) + List.length b ≤
 (4611686018427387904 : Nat) ∧
 List.length (List.take (List.length x) (List.drop (0 : Nat) x) ++ b) ≤
 (140737488355328 : Nat) ∧
 brP
 (!decide
 (sumB
 (List.take (List.length (List.take (List.length x) (List.drop (0 : Nat) x) ++ b))
 (List.drop (0 : Nat) (List.take (List.length x) (List.drop (0 : Nat) x) ++ b))) =
 (65535 : Int)))
 (K
 (AVal.tup
 [AVal.agg
 [AVal.int IntKind.i64 (0 : Int), AVal.int IntKind.i64 (0 : Int),
 AVal.int IntKind.i64 (0 : Int), AVal.int IntKind.i64 (0 : Int),
 AVal.int IntKind.i64 (0 : Int)],
 AVal.int IntKind.i64 (52 : Int)])
 [])
 (brP (decide ((↑(List.length f) : Int) = (4 : Int)))
 (brP (!decide ((↑(List.length f) : Int) = (↑(List.length t) : Int)))
 (K
 (AVal.tup
 [AVal.agg
 [AVal.int IntKind.i64 (0 : Int), AVal.int IntKind.i64 (0 : Int),
 AVal.int IntKind.i64 (0 : Int), AVal.int IntKind.i64 (0 : Int),
 AVal.int IntKind.i64 (0 : Int)],
 AVal.int IntKind.i64 (53 : Int)])
 [])
 (K
 (AVal.tup
 [AVal.agg
 [AVal.int IntKind.i64 p,
 AVal.int IntKind.i64
 ((↑(UInt8.toNat
 (List.getD (List.drop (0 : Nat) (List.take (2 : Nat) b)) (0 : Nat)
 (0 : UInt8))) :
 Int) *
 (256 : Int) +
 (↑(UInt8.toNat
 (List.getD (List.drop (0 : Nat) (List.take (2 : Nat) b)) (1 : Nat)
 (0 : UInt8))) :
 Int)),
 AVal.int IntKind.i64
 ((↑(UInt8.toNat
 (List.getD (List.drop (2 : Nat) (List.take (4 : Nat) b)) (0 : Nat)
 (0 : UInt8))) :
 Int) *
 (256 : Int) +
 (↑(UInt8.toNat
 (List.getD (List.drop (2 : Nat) (List.take (4 : Nat) b)) (1 : Nat)
 (0 : UInt8))) :
 Int)),
 AVal.int IntKind.i64 (0 : Int), AVal.int IntKind.i64 (8 : Int)],
 AVal.int IntKind.i64 (0 : Int)])
 []))
 (brP (!decide ((↑(List.length f) : Int) = (16 : Int)))
 (K
 (AVal.tup
 [AVal.agg
 [AVal.int IntKind.i64 (0 : Int), AVal.int IntKind.i64 (0 : Int),
 AVal.int IntKind.i64 (0 : Int), AVal.int IntKind.i64 (0 : Int),
 AVal.int IntKind.i64 (0 : Int)],
 AVal.int IntKind.i64 (53 : Int)])
 [])
 (brP (!decide ((↑(List.length f) : Int) = (↑(List.length t) : Int)))
 (K
 (AVal.tup
 [AVal.agg
 [AVal.int IntKind.i64 (0 : Int), AVal.int IntKind.i64 (0 : Int),
 AVal.int IntKind.i64 (0 : Int), AVal.int IntKind.i64 (0 : Int),
 AVal.int IntKind.i64 (0 : Int)],
 AVal.int IntKind.i64 (53 : Int)])
 [])
 (K
 (AVal.tup
 [AVal.agg
 [AVal.int IntKind.i64 p,
 AVal.int IntKind.i64
 ((↑(UInt8.toNat
 (List.getD (List.drop (0 : Nat) (List.take (2 : Nat) b)) (0 : Nat)
 (0 : UInt8))) :
 Int) *
 (256 : Int) +
 (↑(UInt8.toNat
 (List.getD (List.drop (0 : Nat) (List.take (2 : Nat) b)) (1 : Nat)
 (0 : UInt8))) :
 Int)),
 AVal.int IntKind.i64
 ((↑(UInt8.toNat
 (List.getD (List.drop (2 : Nat) (List.take (4 : Nat) b)) (0 : Nat)
 (0 : UInt8))) :
 Int) *
 (256 : Int) +
 (↑(UInt8.toNat
 (List.getD (List.drop (2 : Nat) (List.take (4 : Nat) b)) (1 : Nat)
 (0 : UInt8))) :
 Int)),
 AVal.int IntKind.i64 (0 : Int), AVal.int IntKind.i64 (8 : Int)],
 AVal.int IntKind.i64 (0 : Int)])
 [])))))
 ((0 : Nat) + List.length b ≤ (4611686018427387904 : Nat) ∧
 List.length ([] ++ b) ≤ (140737488355328 : Nat) ∧
 brP
 (!decide
 (sumB (List.take (List.length ([] ++ b)) (List.drop (0 : Nat) ([] ++ b))) = (65535 : Int)))
 (K
 (AVal.tup
 [AVal.agg
 [AVal.int IntKind.i64 (0 : Int), AVal.int IntKind.i64 (0 : Int),
 AVal.int IntKind.i64 (0 : Int), AVal.int IntKind.i64 (0 : Int),
 AVal.int IntKind.i64 (0 : Int)],
 AVal.int IntKind.i64 (52 : Int)])
 [])
 (brP (decide ((↑(List.length f) : Int) = (4 : Int)))
 (brP (!decide ((↑(List.length f) : Int) = (↑(List.length t) : Int)))
 (K
 (AVal.tup
 [AVal.agg
 [AVal.int IntKind.i64 (0 : Int), AVal.int IntKind.i64 (0 : Int),
 AVal.int IntKind.i64 (0 : Int), AVal.int IntKind.i64 (0 : Int),
 AVal.int IntKind.i64 (0 : Int)],
 AVal.int IntKind.i64 (53 : Int)])
 [])
 (K
 (AVal.tup
 [AVal.agg
 [AVal.int IntKind.i64 p,
 AVal.int IntKind.i64
 ((↑(UInt8.toNat
 (List.getD (List.drop (0 : Nat) (List.take (2 : Nat) b)) (0 : Nat)
 (0 : UInt8))) :
 Int) *
 (256 : Int) +
 (↑(UInt8.toNat
 (List.getD (List.drop (0 : Nat) (List.take (2 : Nat) b)) (1 : Nat)
 (0 : UInt8))) :
 Int)),
 AVal.int IntKind.i64
 ((↑(UInt8.toNat
 (List.getD (List.drop (2 : Nat) (List.take (4 : Nat) b)) (0 : Nat)
 (0 : UInt8))) :
 Int) *
 (256 : Int) +
 (↑(UInt8.toNat
 (List.getD (List.drop (2 : Nat) (List.take (4 : Nat) b)) (1 : Nat)
 (0 : UInt8))) :
 Int)),
 AVal.int IntKind.i64 (0 : Int), AVal.int IntKind.i64 (8 : Int)],
 AVal.int IntKind.i64 (0 : Int)])
 []))
 (brP (!decide ((↑(List.length f) : Int) = (16 : Int)))
 (K
 (AVal.tup
 [AVal.agg
 [AVal.int IntKind.i64 (0 : Int), AVal.int IntKind.i64 (0 : Int),
 AVal.int IntKind.i64 (0 : Int), AVal.int IntKind.i64 (0 : Int),
 AVal.int IntKind.i64 (0 : Int)],
 AVal.int IntKind.i64 (53 : Int)])
 [])
 (brP (!decide ((↑(List.length f) : Int) = (↑(List.length t) : Int)))
 (K
 (AVal.tup
 [AVal.agg
 [AVal.int IntKind.i64 (0 : Int), AVal.int IntKind.i64 (0 : Int),
 AVal.int IntKind.i64 (0 : Int), AVal.int IntKind.i64 (0 : Int),
 AVal.int IntKind.i64 (0 : Int)],
 AVal.int IntKind.i64 (53 : Int)])
 [])
 (K
 (AVal.tup
 [AVal.agg
 [AVal.int IntKind.i64 p,
 AVal.int IntKind.i64
 ((↑(UInt8.toNat
 (List.getD (List.drop (0 : Nat) (List.take (2 : Nat) b)) (0 : Nat)
 (0 : UInt8))) :
 Int) *
 (256 : Int) +
 (↑(UInt8.toNat
 (List.getD (List.drop (0 : Nat) (List.take (2 : Nat) b)) (1 : Nat)
 (0 : UInt8))) :
 Int)),
 AVal.int IntKind.i64
 ((↑(UInt8.toNat
 (List.getD (List.drop (2 : Nat) (List.take (4 : Nat) b)) (0 : Nat)
 (0 : UInt8))) :
 Int) *
 (256 : Int) +
 (↑(UInt8.toNat
 (List.getD (List.drop (2 : Nat) (List.take (4 : Nat) b)) (1 : Nat)
 (0 : UInt8))) :
 Int)),
 AVal.int IntKind.i64 (0 : Int), AVal.int IntKind.i64 (8 : Int)],
 AVal.int IntKind.i64 (0 : Int)])
 []))))))
 (brP (decide ((↑(List.length f) : Int) = (4 : Int)))
 (brP (!decide ((↑(List.length f) : Int) = (↑(List.length t) : Int)))
 (K
 (AVal.tup
 [AVal.agg
 [AVal.int IntKind.i64 (0 : Int), AVal.int IntKind.i64 (0 : Int),
 AVal.int IntKind.i64 (0 : Int), AVal.int IntKind.i64 (0 : Int),
 AVal.int IntKind.i64 (0 : Int)],
 AVal.int IntKind.i64 (53 : Int)])
 [])
 (K
 (AVal.tup
 [AVal.agg
 [AVal.int IntKind.i64 p,
 AVal.int IntKind.i64
 ((↑(UInt8.toNat
 (List.getD (List.drop (0 : Nat) (List.take (2 : Nat) b)) (0 : Nat) (0 : UInt8))) :
 Int) *
 (256 : Int) +
 (↑(UInt8.toNat
 (List.getD (List.drop (0 : Nat) (List.take (2 : Nat) b)) (1 : Nat) (0 : UInt8))) :
 Int)),
 AVal.int IntKind.i64
 ((↑(UInt8.toNat
 (List.getD (List.drop (2 : Nat) (List.take (4 : Nat) b)) (0 : Nat) (0 : UInt8))) :
 Int) *
 (256 : Int) +
 (↑(UInt8.toNat
 (List.getD (List.drop (2 : Nat) (List.take (4 : Nat) b)) (1 : Nat) (0 : UInt8))) :
 Int)),
 AVal.int IntKind.i64 (0 : Int), AVal.int IntKind.i64 (8 : Int)],
 AVal.int IntKind.i64 (0 : Int)])
 []))
 (brP (!decide ((↑(List.length f) : Int) = (16 : Int)))
 (K
 (AVal.tup
 [AVal.agg
 [AVal.int IntKind.i64 (0 : Int), AVal.int IntKind.i64 (0 : Int),
 AVal.int IntKind.i64 (0 : Int), AVal.int IntKind.i64 (0 : Int),
 AVal.int IntKind.i64 (0 : Int)],
 AVal.int IntKind.i64 (53 : Int)])
 [])
 (brP (!decide ((↑(List.length f) : Int) = (↑(List.length t) : Int)))
 (K
 (AVal.tup
 [AVal.agg
 [AVal.int IntKind.i64 (0 : Int), AVal.int IntKind.i64 (0 : Int),
 AVal.int IntKind.i64 (0 : Int), AVal.int IntKind.i64 (0 : Int),
 AVal.int IntKind.i64 (0 : Int)],
 AVal.int IntKind.i64 (53 : Int)])
 [])
 (K
 (AVal.tup
 [AVal.agg
 [AVal.int IntKind.i64 p,
 AVal.int IntKind.i64
 ((↑(UInt8.toNat
 (List.getD (List.drop (0 : Nat) (List.take (2 : Nat) b)) (0 : Nat) (0 : UInt8))) :
 Int) *
 (256 : Int) +
 (↑(UInt8.toNat
 (List.getD (List.drop (0 : Nat) (List.take (2 : Nat) b)) (1 : Nat) (0 : UInt8))) :
 Int)),
 AVal.int IntKind.i64
 ((↑(UInt8.toNat
 (List.getD (List.drop (2 : Nat) (List.take (4 : Nat) b)) (0 : Nat) (0 : UInt8))) :
 Int) *
 (256 : Int) +
 (↑(UInt8.toNat
 (List.getD (List.drop (2 : Nat) (List.take (4 : Nat) b)) (1 : Nat) (0 : UInt8))) :
 Int)),
 AVal.int IntKind.i64 (0 : Int), AVal.int IntKind.i64 (8 : Int)],
 AVal.int IntKind.i64 (0 : Int)])
 [])))))))
 (K
 (AVal.tup
 [AVal.agg
 [AVal.int IntKind.i64 (0 : Int), AVal.int IntKind.i64 (0 : Int), AVal.int IntKind.i64 (0 : Int),
 AVal.int IntKind.i64 (0 : Int), AVal.int IntKind.i64 (0 : Int)],
 AVal.int IntKind.i64 (51 : Int)])
 []))) := by kernel_rfl
def ann_rewrite_Hop : Nat → List Nat × Nat × List (List Nat)
  | _ => ([], 0, [])
def Trw4 : Specs := ext Trw3 17 (fnP Try.prog Trw3 ann_rewrite_Hop Try.f17)
theorem Trw4_sound : TSound Try.prog Trw4 := ext_sound Trw3_sound (fn_row Trw3_sound mixed Try.func17 (by decide +kernel))
def ann_rewrite_To_1 : Nat → List Nat × Nat × List (List Nat)
  | _ => ([], 0, [])
def Trw5 : Specs := ext Trw4 24 (fnP Try.prog Trw4 ann_rewrite_To_1 Try.f24)
theorem Trw5_sound : TSound Try.prog Trw5 := ext_sound Trw4_sound (fn_row Trw4_sound mixed Try.func24 (by decide +kernel))
def ann_rewrite_From_1 : Nat → List Nat × Nat × List (List Nat)
  | _ => ([], 0, [])
def Trw6 : Specs := ext Trw5 35 (fnP Try.prog Trw5 ann_rewrite_From_1 Try.f35)
theorem Trw6_sound : TSound Try.prog Trw6 := ext_sound Trw5_sound (fn_row Trw5_sound mixed Try.func35 (by decide +kernel))
def ann_rewrite_kind : Nat → List Nat × Nat × List (List Nat)
  | _ => ([], 0, [])
def Trw7 : Specs := ext Trw6 37 (fnP Try.prog Trw6 ann_rewrite_kind Try.f37)
theorem Trw7_sound : TSound Try.prog Trw7 := ext_sound Trw6_sound (fn_row Trw6_sound mixed Try.func37 (by decide +kernel))
def ann_outriderref19_Hop : Nat → List Nat × Nat × List (List Nat)
  | _ => ([], 0, [])
def Trw8 : Specs := ext Trw7 18 (fnP Try.prog Trw7 ann_outriderref19_Hop Try.f18)
theorem Trw8_sound : TSound Try.prog Trw8 := ext_sound Trw7_sound (fn_row Trw7_sound mixed Try.func18 (by decide +kernel))
def ann_outriderref19_two : Nat → List Nat × Nat × List (List Nat)
  | _ => ([], 0, [])
def Trw9 : Specs := ext Trw8 45 (fnP Try.prog Trw8 ann_outriderref19_two Try.f45)
theorem Trw9_sound : TSound Try.prog Trw9 := ext_sound Trw8_sound (fn_row Trw8_sound mixed Try.func45 (by decide +kernel))
def ann_outriderref19_put : Nat → List Nat × Nat × List (List Nat)
  | 1 => ([], 10, [[], [], [0, 1], [], [0, 1, 2, 3], [], [], [6], [5, 6, 7], [0, 1, 2, 3, 4, 5, 6, 7, 8]])
  | _ => ([], 0, [])
def Trw10 : Specs := ext Trw9 46 (fnP Try.prog Trw9 ann_outriderref19_put Try.f46)
theorem Trw10_sound : TSound Try.prog Trw10 := ext_sound Trw9_sound (fn_row Trw9_sound mixed Try.func46 (by decide +kernel))
def ann_rewrite_turned : Nat → List Nat × Nat × List (List Nat)
  | 6 => ([], 5, [[4], [], [], [], [1, 2], [0, 1, 2, 3]])
  | 10 => ([], 5, [[4], [], [], [0, 1], [], [0, 1, 2, 3]])
  | 11 => ([], 13, [[], [], [0, 1], [0, 1, 2], [0, 1, 2, 3], [0, 1, 2, 3, 4], [], [], [7], [6, 7, 8], [6, 7, 8, 9], [6, 7, 8, 9, 10], [0, 1, 2, 3, 4, 5, 6, 7, 8, 9, 10, 11]])
  | 15 => ([], 8, [[3], [], [], [], [0, 1, 2], [0, 1, 2, 3], [0, 1, 2, 3, 4], [0, 1, 2, 3, 4], [0, 1, 2, 3, 4, 5]])
  | 2000012 => ([], 13, [[], [0], [0, 1], [0, 1, 2], [0, 1, 2, 3], [0, 1, 2, 3, 4], [0, 1, 2, 3, 4, 5], [0, 1, 2, 3, 4, 5, 6], [0, 1, 2, 3, 4, 5, 6, 7], [0, 1, 2, 3, 4, 5, 6, 7, 8], [0, 1, 2, 3, 4, 5, 6, 7, 8, 9], [0, 1, 2, 3, 4, 5, 6, 7, 8, 9, 10]])
  | 2000016 => ([], 8, [[], [0], [0, 1], [0, 1, 2], [0, 1, 2, 3], [0, 1, 2, 3, 4], [0, 1, 2, 3, 4, 5]])
  | _ => ([], 0, [])
set_option maxRecDepth 100000 in
theorem rewrite_turned_0 (f t : List UInt8) (p q : Int) (b was now : List UInt8) (port : Int) (K : AVal → Hp → Prop) : fnP Try.prog Trw10 ann_rewrite_turned Try.f41 [.agg [.str f, .str t, .int .i64 p, .int .i64 q, .str b], .int .i64 0, .str was, .str now, .int .i64 port] [] K = (
 List.length b ≤ (140737488355328 : Nat) ∧
 brP (decide (p = (17 : Int)))
 (((0 : Int) ≤ (0 : Int) ∧ (0 : Int) ≤ (↑(List.length b) : Int)) ∧
 (2 : Nat) ≤ List.length (List.take (Int.toNat (↑(List.length b) : Int) - (0 : Nat)) (List.drop (0 : Nat) b)) ∧
 brP (!decide (port = (0 : Int)))
 (((0 : Int) ≤ (8 : Int) ∧ (8 : Nat) < (64 : Nat)) ∧
 ((0 : Int) ≤ (0 : Int) ∧ (0 : Int) ≤ (↑(List.length b) : Int)) ∧
 ((2 : Nat) ≤ List.length b ∧ (2 : Nat) ≤ Int.toNat (↑(List.length b) : Int) - (0 : Nat)) ∧
 ((0 : Int) ≤ (6 : Int) ∧ (6 : Int) < (↑(List.length b) : Int)) ∧
 (6 : Nat) <
 List.length (List.take (0 : Nat) b ++ ([b8 (port / (256 : Int)), b8 port] ++ List.drop (2 : Nat) b)) ∧
 ((0 : Int) ≤ (8 : Int) ∧ (8 : Nat) < (16 : Nat)) ∧
 I64 (7 : Int) ∧
 ((0 : Int) ≤ (7 : Int) ∧ (7 : Int) < (↑(List.length b) : Int)) ∧
 (7 : Nat) <
 List.length (List.take (0 : Nat) b ++ ([b8 (port / (256 : Int)), b8 port] ++ List.drop (2 : Nat) b)) ∧
 brP
 (decide (p = (17 : Int)) &&
 decide
 (bits BinOp.or IntKind.u16
 (IntKind.wrap IntKind.u16
 ((↑(UInt8.toNat
 (List.getD
 (List.take (0 : Nat) b ++ ([b8 (port / (256 : Int)), b8 port] ++ List.drop (2 : Nat) b))
 (6 : Nat) (0 : UInt8))) :
 Int) *
 (256 : Int)))
 (↑(UInt8.toNat
 (List.getD
 (List.take (0 : Nat) b ++ ([b8 (port / (256 : Int)), b8 port] ++ List.drop (2 : Nat) b))
 (7 : Nat) (0 : UInt8))) :
 Int) =
 (0 : Int)) &&
 decide ((↑(List.length was) : Int) = (4 : Int)))
 (K
 (AVal.str
 (List.take (List.length b)
 (List.drop (0 : Nat)
 (List.take (0 : Nat) b ++ ([b8 (port / (256 : Int)), b8 port] ++ List.drop (2 : Nat) b)))))
 [])
 (List.length was ≤ (140737488355328 : Nat) ∧
 List.length now ≤ (140737488355328 : Nat) ∧
 ((0 : Int) ≤
 bits BinOp.or IntKind.u16
 (IntKind.wrap IntKind.u16
 ((↑(UInt8.toNat
 (List.getD
 (List.take (0 : Nat) b ++ ([b8 (port / (256 : Int)), b8 port] ++ List.drop (2 : Nat) b))
 (6 : Nat) (0 : UInt8))) :
 Int) *
 (256 : Int)))
 (↑(UInt8.toNat
 (List.getD
 (List.take (0 : Nat) b ++ ([b8 (port / (256 : Int)), b8 port] ++ List.drop (2 : Nat) b))
 (7 : Nat) (0 : UInt8))) :
 Int) ∧
 bits BinOp.or IntKind.u16
 (IntKind.wrap IntKind.u16
 ((↑(UInt8.toNat
 (List.getD
 (List.take (0 : Nat) b ++ ([b8 (port / (256 : Int)), b8 port] ++ List.drop (2 : Nat) b))
 (6 : Nat) (0 : UInt8))) :
 Int) *
 (256 : Int)))
 (↑(UInt8.toNat
 (List.getD
 (List.take (0 : Nat) b ++ ([b8 (port / (256 : Int)), b8 port] ++ List.drop (2 : Nat) b))
 (7 : Nat) (0 : UInt8))) :
 Int) ≤
 (65535 : Int) ∧
 List.length (List.take (List.length was) (List.drop (0 : Nat) was)) =
 List.length (List.take (List.length now) (List.drop (0 : Nat) now)) ∧
 List.length (List.take (List.length was) (List.drop (0 : Nat) was)) % (2 : Nat) = (0 : Nat)) ∧
 ((0 : Int) ≤
 chg
 (bits BinOp.or IntKind.u16
 (IntKind.wrap IntKind.u16
 ((↑(UInt8.toNat
 (List.getD
 (List.take (0 : Nat) b ++ ([b8 (port / (256 : Int)), b8 port] ++ List.drop (2 : Nat) b))
 (6 : Nat) (0 : UInt8))) :
 Int) *
 (256 : Int)))
 (↑(UInt8.toNat
 (List.getD
 (List.take (0 : Nat) b ++ ([b8 (port / (256 : Int)), b8 port] ++ List.drop (2 : Nat) b))
 (7 : Nat) (0 : UInt8))) :
 Int))
 (List.take (List.length was) (List.drop (0 : Nat) was))
 (List.take (List.length now) (List.drop (0 : Nat) now)) ∧
 chg
 (bits BinOp.or IntKind.u16
 (IntKind.wrap IntKind.u16
 ((↑(UInt8.toNat
 (List.getD
 (List.take (0 : Nat) b ++ ([b8 (port / (256 : Int)), b8 port] ++ List.drop (2 : Nat) b))
 (6 : Nat) (0 : UInt8))) :
 Int) *
 (256 : Int)))
 (↑(UInt8.toNat
 (List.getD
 (List.take (0 : Nat) b ++ ([b8 (port / (256 : Int)), b8 port] ++ List.drop (2 : Nat) b))
 (7 : Nat) (0 : UInt8))) :
 Int))
 (List.take (List.length was) (List.drop (0 : Nat) was))
 (List.take (List.length now) (List.drop (0 : Nat) now)) ≤
 (65535 : Int) ∧
 (2 : Nat) = (2 : Nat) ∧ (0 : Nat) = (0 : Nat)) ∧
 brP
 (decide (p = (17 : Int)) &&
 decide
 (chg
 (chg
 (bits BinOp.or IntKind.u16
 (IntKind.wrap IntKind.u16
 ((↑(UInt8.toNat
 (List.getD
 (List.take (0 : Nat) b ++
 ([b8 (port / (256 : Int)), b8 port] ++ List.drop (2 : Nat) b))
 (6 : Nat) (0 : UInt8))) :
 Int) *
 (256 : Int)))
 (↑(UInt8.toNat
 (List.getD
 (List.take (0 : Nat) b ++ ([b8 (port / (256 : Int)), b8 port] ++ List.drop (2 : Nat) b))
 (7 : Nat) (0 : UInt8))) :
 Int))
 (List.take (List.length was) (List.drop (0 : Nat) was))
 (List.take (List.length now) (List.drop (0 : Nat) now)))
 [List.getD (List.take (Int.toNat (↑(List.length b) : Int) - (0 : Nat)) (List.drop (0 : Nat) b))
 (0 : Nat) (0 : UInt8),
 List.getD (List.take (Int.toNat (↑(List.length b) : Int) - (0 : Nat)) (List.drop (0 : Nat) b))
 (1 : Nat) (0 : UInt8)]
 [b8 (port / (256 : Int)), b8 port] =
 (0 : Int)))
 (I64 (7 : Int) ∧
 ((0 : Int) ≤ (8 : Int) ∧ (8 : Nat) < (16 : Nat)) ∧
 ((0 : Int) ≤ (6 : Int) ∧ (6 : Int) < (↑(List.length b) : Int)) ∧
 (6 : Nat) <
 List.length
 (List.take (0 : Nat) b ++ ([b8 (port / (256 : Int)), b8 port] ++ List.drop (2 : Nat) b)) ∧
 ((0 : Int) ≤ (7 : Int) ∧ (7 : Int) < (↑(List.length b) : Int)) ∧
 (7 : Nat) <
 List.length
 (List.set
 (List.take (0 : Nat) b ++ ([b8 (port / (256 : Int)), b8 port] ++ List.drop (2 : Nat) b))
 (6 : Nat) (255 : UInt8)) ∧
 K
 (AVal.str
 (List.take (List.length b)
 (List.drop (0 : Nat)
 (List.set
 (List.set
 (List.take (0 : Nat) b ++
 ([b8 (port / (256 : Int)), b8 port] ++ List.drop (2 : Nat) b))
 (6 : Nat) (255 : UInt8))
 (7 : Nat) (255 : UInt8)))))
 [])
 (I64 (7 : Int) ∧
 ((0 : Int) ≤ (8 : Int) ∧ (8 : Nat) < (16 : Nat)) ∧
 ((0 : Int) ≤ (6 : Int) ∧ (6 : Int) < (↑(List.length b) : Int)) ∧
 (6 : Nat) <
 List.length
 (List.take (0 : Nat) b ++ ([b8 (port / (256 : Int)), b8 port] ++ List.drop (2 : Nat) b)) ∧
 ((0 : Int) ≤ (7 : Int) ∧ (7 : Int) < (↑(List.length b) : Int)) ∧
 (7 : Nat) <
 List.length
 (List.set
 (List.take (0 : Nat) b ++ ([b8 (port / (256 : Int)), b8 port] ++ List.drop (2 : Nat) b))
 (6 : Nat)
 (b8
 (chg
 (chg
 (bits BinOp.or IntKind.u16
 (IntKind.wrap IntKind.u16
 ((↑(UInt8.toNat
 (List.getD
 (List.take (0 : Nat) b ++
 ([b8 (port / (256 : Int)), b8 port] ++ List.drop (2 : Nat) b))
 (6 : Nat) (0 : UInt8))) :
 Int) *
 (256 : Int)))
 (↑(UInt8.toNat
 (List.getD
 (List.take (0 : Nat) b ++
 ([b8 (port / (256 : Int)), b8 port] ++ List.drop (2 : Nat) b))
 (7 : Nat) (0 : UInt8))) :
 Int))
 (List.take (List.length was) (List.drop (0 : Nat) was))
 (List.take (List.length now) (List.drop (0 : Nat) now)))
 [List.getD
 (List.take (Int.toNat (↑(List.length b) : Int) - (0 : Nat)) (List.drop (0 : Nat) b))
 (0 : Nat) (0 : UInt8),
 List.getD
 (List.take (Int.toNat (↑(List.length b) : Int) - (0 : Nat)) (List.drop (0 : Nat) b))
 (1 : Nat) (0 : UInt8)]
 [b8 (port / (256 : Int)), b8 port] /
 (256 : Int)))) ∧
 K
 (AVal.str
 (List.take (List.length b)
 (List.drop (0 : Nat)
 (List.set
 (List.set
 (List.take (0 : Nat) b ++
 ([b8 (port / (256 : Int)), b8 port] ++ List.drop (2 : Nat) b))
 (6 : Nat)
 (b8
 (chg
 (chg
 (bits BinOp.or IntKind.u16
 (IntKind.wrap IntKind.u16
 ((↑(UInt8.toNat
 (List.getD
 (List.take (0 : Nat) b ++
 ([b8 (port / (256 : Int)), b8 port] ++ List.drop (2 : Nat) b))
 (6 : Nat) (0 : UInt8))) :
 Int) *
 (256 : Int)))
 (↑(UInt8.toNat
 (List.getD
 (List.take (0 : Nat) b ++
 ([b8 (port / (256 : Int)), b8 port] ++ List.drop (2 : Nat) b))
 (7 : Nat) (0 : UInt8))) :
 Int))
 (List.take (List.length was) (List.drop (0 : Nat) was))
 (List.take (List.length now) (List.drop (0 : Nat) now)))
 [List.getD
 (List.take (Int.toNat (↑(List.length b) : Int) - (0 : Nat))
 (List.drop (0 : Nat) b))
 (0 : Nat) (0 : UInt8),
 List.getD
 (List.take (Int.toNat (↑(List.length b) : Int) - (0 : Nat))
 (List.drop (0 : Nat) b))
 (1 : Nat) (0 : UInt8)]
 [b8 (port / (256 : Int)), b8 port] /
 (256 : Int))))
 (7 : Nat)
 (b8
 (chg
 (chg
 (bits BinOp.or IntKind.u16
 (IntKind.wrap IntKind.u16
 ((↑(UInt8.toNat
 (List.getD
 (List.take (0 : Nat) b ++
 ([b8 (port / (256 : Int)), b8 port] ++ List.drop (2 : Nat) b))
 (6 : Nat) (0 : UInt8))) :
 Int) *
 (256 : Int)))
 (↑(UInt8.toNat
 (List.getD
 (List.take (0 : Nat) b ++
 ([b8 (port / (256 : Int)), b8 port] ++ List.drop (2 : Nat) b))
 (7 : Nat) (0 : UInt8))) :
 Int))
 (List.take (List.length was) (List.drop (0 : Nat) was))
 (List.take (List.length now) (List.drop (0 : Nat) now)))
 [List.getD
 (List.take (Int.toNat (↑(List.length b) : Int) - (0 : Nat)) (List.drop (0 : Nat) b))
 (0 : Nat) (0 : UInt8),
 List.getD
 (List.take (Int.toNat (↑(List.length b) : Int) - (0 : Nat)) (List.drop (0 : Nat) b))
 (1 : Nat) (0 : UInt8)]
 [b8 (port / (256 : Int)), b8 port]))))))
 [])))
 (((0 : Int) ≤ (0 : Int) ∧ (0 : Int) ≤ (↑(List.length b) : Int)) ∧
 ((2 : Nat) ≤ List.length b ∧ (2 : Nat) ≤ Int.toNat (↑(List.length b) : Int) - (0 : Nat)) ∧
 ((0 : Int) ≤ (6 : Int) ∧ (6 : Int) < (↑(List.length b) : Int)) ∧
 (6 : Nat) <
 List.length
 (List.take (0 : Nat) b ++
 ([List.getD (List.take (Int.toNat (↑(List.length b) : Int) - (0 : Nat)) (List.drop (0 : Nat) b)) (0 : Nat)
 (0 : UInt8),
 List.getD (List.take (Int.toNat (↑(List.length b) : Int) - (0 : Nat)) (List.drop (0 : Nat) b)) (1 : Nat)
 (0 : UInt8)] ++
 List.drop (2 : Nat) b)) ∧
 ((0 : Int) ≤ (8 : Int) ∧ (8 : Nat) < (16 : Nat)) ∧
 I64 (7 : Int) ∧
 ((0 : Int) ≤ (7 : Int) ∧ (7 : Int) < (↑(List.length b) : Int)) ∧
 (7 : Nat) <
 List.length
 (List.take (0 : Nat) b ++
 ([List.getD (List.take (Int.toNat (↑(List.length b) : Int) - (0 : Nat)) (List.drop (0 : Nat) b))
 (0 : Nat) (0 : UInt8),
 List.getD (List.take (Int.toNat (↑(List.length b) : Int) - (0 : Nat)) (List.drop (0 : Nat) b))
 (1 : Nat) (0 : UInt8)] ++
 List.drop (2 : Nat) b)) ∧
 brP
 (decide (p = (17 : Int)) &&
 decide
 (bits BinOp.or IntKind.u16
 (IntKind.wrap IntKind.u16
 ((↑(UInt8.toNat
 (List.getD
 (List.take (0 : Nat) b ++
 ([List.getD
 (List.take (Int.toNat (↑(List.length b) : Int) - (0 : Nat)) (List.drop (0 : Nat) b))
 (0 : Nat) (0 : UInt8),
 List.getD
 (List.take (Int.toNat (↑(List.length b) : Int) - (0 : Nat)) (List.drop (0 : Nat) b))
 (1 : Nat) (0 : UInt8)] ++
 List.drop (2 : Nat) b))
 (6 : Nat) (0 : UInt8))) :
 Int) *
 (256 : Int)))
 (↑(UInt8.toNat
 (List.getD
 (List.take (0 : Nat) b ++
 ([List.getD
 (List.take (Int.toNat (↑(List.length b) : Int) - (0 : Nat)) (List.drop (0 : Nat) b))
 (0 : Nat) (0 : UInt8),
 List.getD
 (List.take (Int.toNat (↑(List.length b) : Int) - (0 : Nat)) (List.drop (0 : Nat) b))
 (1 : Nat) (0 : UInt8)] ++
 List.drop (2 : Nat) b))
 (7 : Nat) (0 : UInt8))) :
 Int) =
 (0 : Int)) &&
 decide ((↑(List.length was) : Int) = (4 : Int)))
 (K
 (AVal.str
 (List.take (List.length b)
 (List.drop (0 : Nat)
 (List.take (0 : Nat) b ++
 ([List.getD (List.take (Int.toNat (↑(List.length b) : Int) - (0 : Nat)) (List.drop (0 : Nat) b))
 (0 : Nat) (0 : UInt8),
 List.getD (List.take (Int.toNat (↑(List.length b) : Int) - (0 : Nat)) (List.drop (0 : Nat) b))
 (1 : Nat) (0 : UInt8)] ++
 List.drop (2 : Nat) b)))))
 [])
 (List.length was ≤ (140737488355328 : Nat) ∧
 List.length now ≤ (140737488355328 : Nat) ∧
 ((0 : Int) ≤
 bits BinOp.or IntKind.u16
 (IntKind.wrap IntKind.u16
 ((↑(UInt8.toNat
 (List.getD
 (List.take (0 : Nat) b ++
 ([List.getD
 (List.take (Int.toNat (↑(List.length b) : Int) - (0 : Nat)) (List.drop (0 : Nat) b))
 (0 : Nat) (0 : UInt8),
 List.getD
 (List.take (Int.toNat (↑(List.length b) : Int) - (0 : Nat)) (List.drop (0 : Nat) b))
 (1 : Nat) (0 : UInt8)] ++
 List.drop (2 : Nat) b))
 (6 : Nat) (0 : UInt8))) :
 Int) *
 (256 : Int)))
 (↑(UInt8.toNat
 (List.getD
 (List.take (0 : Nat) b ++
 ([List.getD
 (List.take (Int.toNat (↑(List.length b) : Int) - (0 : Nat)) (List.drop (0 : Nat) b))
 (0 : Nat) (0 : UInt8),
 List.getD
 (List.take (Int.toNat (↑(List.length b) : Int) - (0 : Nat)) (List.drop (0 : Nat) b))
 (1 : Nat) (0 : UInt8)] ++
 List.drop (2 : Nat) b))
 (7 : Nat) (0 : UInt8))) :
 Int) ∧
 bits BinOp.or IntKind.u16
 (IntKind.wrap IntKind.u16
 ((↑(UInt8.toNat
 (List.getD
 (List.take (0 : Nat) b ++
 ([List.getD
 (List.take (Int.toNat (↑(List.length b) : Int) - (0 : Nat)) (List.drop (0 : Nat) b))
 (0 : Nat) (0 : UInt8),
 List.getD
 (List.take (Int.toNat (↑(List.length b) : Int) - (0 : Nat)) (List.drop (0 : Nat) b))
 (1 : Nat) (0 : UInt8)] ++
 List.drop (2 : Nat) b))
 (6 : Nat) (0 : UInt8))) :
 Int) *
 (256 : Int)))
 (↑(UInt8.toNat
 (List.getD
 (List.take (0 : Nat) b ++
 ([List.getD
 (List.take (Int.toNat (↑(List.length b) : Int) - (0 : Nat)) (List.drop (0 : Nat) b))
 (0 : Nat) (0 : UInt8),
 List.getD
 (List.take (Int.toNat (↑(List.length b) : Int) - (0 : Nat)) (List.drop (0 : Nat) b))
 (1 : Nat) (0 : UInt8)] ++
 List.drop (2 : Nat) b))
 (7 : Nat) (0 : UInt8))) :
 Int) ≤
 (65535 : Int) ∧
 List.length (List.take (List.length was) (List.drop (0 : Nat) was)) =
 List.length (List.take (List.length now) (List.drop (0 : Nat) now)) ∧
 List.length (List.take (List.length was) (List.drop (0 : Nat) was)) % (2 : Nat) = (0 : Nat)) ∧
 ((0 : Int) ≤
 chg
 (bits BinOp.or IntKind.u16
 (IntKind.wrap IntKind.u16
 ((↑(UInt8.toNat
 (List.getD
 (List.take (0 : Nat) b ++
 ([List.getD
 (List.take (Int.toNat (↑(List.length b) : Int) - (0 : Nat)) (List.drop (0 : Nat) b))
 (0 : Nat) (0 : UInt8),
 List.getD
 (List.take (Int.toNat (↑(List.length b) : Int) - (0 : Nat)) (List.drop (0 : Nat) b))
 (1 : Nat) (0 : UInt8)] ++
 List.drop (2 : Nat) b))
 (6 : Nat) (0 : UInt8))) :
 Int) *
 (256 : Int)))
 (↑(UInt8.toNat
 (List.getD
 (List.take (0 : Nat) b ++
 ([List.getD
 (List.take (Int.toNat (↑(List.length b) : Int) - (0 : Nat)) (List.drop (0 : Nat) b))
 (0 : Nat) (0 : UInt8),
 List.getD
 (List.take (Int.toNat (↑(List.length b) : Int) - (0 : Nat)) (List.drop (0 : Nat) b))
 (1 : Nat) (0 : UInt8)] ++
 List.drop (2 : Nat) b))
 (7 : Nat) (0 : UInt8))) :
 Int))
 (List.take (List.length was) (List.drop (0 : Nat) was))
 (List.take (List.length now) (List.drop (0 : Nat) now)) ∧
 chg
 (bits BinOp.or IntKind.u16
 (IntKind.wrap IntKind.u16
 ((↑(UInt8.toNat
 (List.getD
 (List.take (0 : Nat) b ++
 ([List.getD
 (List.take (Int.toNat (↑(List.length b) : Int) - (0 : Nat)) (List.drop (0 : Nat) b))
 (0 : Nat) (0 : UInt8),
 List.getD
 (List.take (Int.toNat (↑(List.length b) : Int) - (0 : Nat)) (List.drop (0 : Nat) b))
 (1 : Nat) (0 : UInt8)] ++
 List.drop (2 : Nat) b))
 (6 : Nat) (0 : UInt8))) :
 Int) *
 (256 : Int)))
 (↑(UInt8.toNat
 (List.getD
 (List.take (0 : Nat) b ++
 ([List.getD
 (List.take (Int.toNat (↑(List.length b) : Int) - (0 : Nat)) (List.drop (0 : Nat) b))
 (0 : Nat) (0 : UInt8),
 List.getD
 (List.take (Int.toNat (↑(List.length b) : Int) - (0 : Nat)) (List.drop (0 : Nat) b))
 (1 : Nat) (0 : UInt8)] ++
 List.drop (2 : Nat) b))
 (7 : Nat) (0 : UInt8))) :
 Int))
 (List.take (List.length was) (List.drop (0 : Nat) was))
 (List.take (List.length now) (List.drop (0 : Nat) now)) ≤
 (65535 : Int) ∧
 (2 : Nat) = (2 : Nat) ∧ (0 : Nat) = (0 : Nat)) ∧
 brP
 (decide (p = (17 : Int)) &&
 decide
 (chg
 (chg
 (bits BinOp.or IntKind.u16
 (IntKind.wrap IntKind.u16
 ((↑(UInt8.toNat
 (List.getD
 (List.take (0 : Nat) b ++
 ([List.getD
 (List.take (Int.toNat (↑(List.length b) : Int) - (0 : Nat)) (List.drop (0 : Nat) b))
 (0 : Nat) (0 : UInt8),
 List.getD
 (List.take (Int.toNat (↑(List.length b) : Int) - (0 : Nat)) (List.drop (0 : Nat) b))
 (1 : Nat) (0 : UInt8)] ++
 List.drop (2 : Nat) b))
 (6 : Nat) (0 : UInt8))) :
 Int) *
 (256 : Int)))
 (↑(UInt8.toNat
 (List.getD
 (List.take (0 : Nat) b ++
 ([List.getD
 (List.take (Int.toNat (↑(List.length b) : Int) - (0 : Nat)) (List.drop (0 : Nat) b))
 (0 : Nat) (0 : UInt8),
 List.getD
 (List.take (Int.toNat (↑(List.length b) : Int) - (0 : Nat)) (List.drop (0 : Nat) b))
 (1 : Nat) (0 : UInt8)] ++
 List.drop (2 : Nat) b))
 (7 : Nat) (0 : UInt8))) :
 Int))
 (List.take (List.length was) (List.drop (0 : Nat) was))
 (List.take (List.length now) (List.drop (0 : Nat) now)))
 [List.getD (List.take (Int.toNat (↑(List.length b) : Int) - (0 : Nat)) (List.drop (0 : Nat) b))
 (0 : Nat) (0 : UInt8),
 List.getD (List.take (Int.toNat (↑(List.length b) : Int) - (0 : Nat)) (List.drop (0 : Nat) b))
 (1 : Nat) (0 : UInt8)]
 [List.getD (List.take (Int.toNat (↑(List.length b) : Int) - (0 : Nat)) (List.drop (0 : Nat) b))
 (0 : Nat) (0 : UInt8),
 List.getD (List.take (Int.toNat (↑(List.length b) : Int) - (0 : Nat)) (List.drop (0 : Nat) b))
 (1 : Nat) (0 : UInt8)] =
 (0 : Int)))
 (I64 (7 : Int) ∧
 ((0 : Int) ≤ (8 : Int) ∧ (8 : Nat) < (16 : Nat)) ∧
 ((0 : Int) ≤ (6 : Int) ∧ (6 : Int) < (↑(List.length b) : Int)) ∧
 (6 : Nat) <
 List.length
 (List.take (0 : Nat) b ++
 ([List.getD
 (List.take (Int.toNat (↑(List.length b) : Int) - (0 : Nat)) (List.drop (0 : Nat) b))
 (0 : Nat) (0 : UInt8),
 List.getD
 (List.take (Int.toNat (↑(List.length b) : Int) - (0 : Nat)) (List.drop (0 : Nat) b))
 (1 : Nat) (0 : UInt8)] ++
 List.drop (2 : Nat) b)) ∧
 ((0 : Int) ≤ (7 : Int) ∧ (7 : Int) < (↑(List.length b) : Int)) ∧
 (7 : Nat) <
 List.length
 (List.set
 (List.take (0 : Nat) b ++
 ([List.getD
 (List.take (Int.toNat (↑(List.length b) : Int) - (0 : Nat)) (List.drop (0 : Nat) b))
 (0 : Nat) (0 : UInt8),
 List.getD
 (List.take (Int.toNat (↑(List.length b) : Int) - (0 : Nat)) (List.drop (0 : Nat) b))
 (1 : Nat) (0 : UInt8)] ++
 List.drop (2 : Nat) b))
 (6 : Nat) (255 : UInt8)) ∧
 K
 (AVal.str
 (List.take (List.length b)
 (List.drop (0 : Nat)
 (List.set
 (List.set
 (List.take (0 : Nat) b ++
 ([List.getD
 (List.take (Int.toNat (↑(List.length b) : Int) - (0 : Nat)) (List.drop (0 : Nat) b))
 (0 : Nat) (0 : UInt8),
 List.getD
 (List.take (Int.toNat (↑(List.length b) : Int) - (0 : Nat)) (List.drop (0 : Nat) b))
 (1 : Nat) (0 : UInt8)] ++
 List.drop (2 : Nat) b))
 (6 : Nat) (255 : UInt8))
 (7 : Nat) (255 : UInt8)))))
 [])
 (I64 (7 : Int) ∧
 ((0 : Int) ≤ (8 : Int) ∧ (8 : Nat) < (16 : Nat)) ∧
 ((0 : Int) ≤ (6 : Int) ∧ (6 : Int) < (↑(List.length b) : Int)) ∧
 (6 : Nat) <
 List.length
 (List.take (0 : Nat) b ++
 ([List.getD
 (List.take (Int.toNat (↑(List.length b) : Int) - (0 : Nat)) (List.drop (0 : Nat) b))
 (0 : Nat) (0 : UInt8),
 List.getD
 (List.take (Int.toNat (↑(List.length b) : Int) - (0 : Nat)) (List.drop (0 : Nat) b))
 (1 : Nat) (0 : UInt8)] ++
 List.drop (2 : Nat) b)) ∧
 ((0 : Int) ≤ (7 : Int) ∧ (7 : Int) < (↑(List.length b) : Int)) ∧
 (7 : Nat) <
 List.length
 (List.set
 (List.take (0 : Nat) b ++
 ([List.getD
 (List.take (Int.toNat (↑(List.length b) : Int) - (0 : Nat)) (List.drop (0 : Nat) b))
 (0 : Nat) (0 : UInt8),
 List.getD
 (List.take (Int.toNat (↑(List.length b) : Int) - (0 : Nat)) (List.drop (0 : Nat) b))
 (1 : Nat) (0 : UInt8)] ++
 List.drop (2 : Nat) b))
 (6 : Nat)
 (b8
 (chg
 (chg
 (bits BinOp.or IntKind.u16
 (IntKind.wrap IntKind.u16
 ((↑(UInt8.toNat
 (List.getD
 (List.take (0 : Nat) b ++
 ([List.getD
 (List.take (Int.toNat (↑(List.length b) : Int) - (0 : Nat))
 (List.drop (0 : Nat) b))
 (0 : Nat) (0 : UInt8),
 List.getD
 (List.take (Int.toNat (↑(List.length b) : Int) - (0 : Nat))
 (List.drop (0 : Nat) b))
 (1 : Nat) (0 : UInt8)] ++
 List.drop (2 : Nat) b))
 (6 : Nat) (0 : UInt8))) :
 Int) *
 (256 : Int)))
 (↑(UInt8.toNat
 (List.getD
 (List.take (0 : Nat) b ++
 ([List.getD
 (List.take (Int.toNat (↑(List.length b) : Int) - (0 : Nat))
 (List.drop (0 : Nat) b))
 (0 : Nat) (0 : UInt8),
 List.getD
 (List.take (Int.toNat (↑(List.length b) : Int) - (0 : Nat))
 (List.drop (0 : Nat) b))
 (1 : Nat) (0 : UInt8)] ++
 List.drop (2 : Nat) b))
 (7 : Nat) (0 : UInt8))) :
 Int))
 (List.take (List.length was) (List.drop (0 : Nat) was))
 (List.take (List.length now) (List.drop (0 : Nat) now)))
 [List.getD
 (List.take (Int.toNat (↑(List.length b) : Int) - (0 : Nat)) (List.drop (0 : Nat) b))
 (0 : Nat) (0 : UInt8),
 List.getD
 (List.take (Int.toNat (↑(List.length b) : Int) - (0 : Nat)) (List.drop (0 : Nat) b))
 (1 : Nat) (0 : UInt8)]
 [List.getD
 (List.take (Int.toNat (↑(List.length b) : Int) - (0 : Nat)) (List.drop (0 : Nat) b))
 (0 : Nat) (0 : UInt8),
 List.getD
 (List.take (Int.toNat (↑(List.length b) : Int) - (0 : Nat)) (List.drop (0 : Nat) b))
 (1 : Nat) (0 : UInt8)] /
 (256 : Int)))) ∧
 K
 (AVal.str
 (List.take (List.length b)
 (List.drop (0 : Nat)
 (List.set
 (List.set
 (List.take (0 : Nat) b ++
 ([List.getD
 (List.take (Int.toNat (↑(List.length b) : Int) - (0 : Nat)) (List.drop (0 : Nat) b))
 (0 : Nat) (0 : UInt8),
 List.getD
 (List.take (Int.toNat (↑(List.length b) : Int) - (0 : Nat)) (List.drop (0 : Nat) b))
 (1 : Nat) (0 : UInt8)] ++
 List.drop (2 : Nat) b))
 (6 : Nat)
 (b8
 (chg
 (chg
 (bits BinOp.or IntKind.u16
 (IntKind.wrap IntKind.u16
 ((↑(UInt8.toNat
 (List.getD
 (List.take (0 : Nat) b ++
 ([List.getD
 (List.take (Int.toNat (↑(List.length b) : Int) - (0 : Nat))
 (List.drop (0 : Nat) b))
 (0 : Nat) (0 : UInt8),
 List.getD
 (List.take (Int.toNat (↑(List.length b) : Int) - (0 : Nat))
 (List.drop (0 : Nat) b))
 (1 : Nat) (0 : UInt8)] ++
 List.drop (2 : Nat) b))
 (6 : Nat) (0 : UInt8))) :
 Int) *
 (256 : Int)))
 (↑(UInt8.toNat
 (List.getD
 (List.take (0 : Nat) b ++
 ([List.getD
 (List.take (Int.toNat (↑(List.length b) : Int) - (0 : Nat))
 (List.drop (0 : Nat) b))
 (0 : Nat) (0 : UInt8),
 List.getD
 (List.take (Int.toNat (↑(List.length b) : Int) - (0 : Nat))
 (List.drop (0 : Nat) b))
 (1 : Nat) (0 : UInt8)] ++
 List.drop (2 : Nat) b))
 (7 : Nat) (0 : UInt8))) :
 Int))
 (List.take (List.length was) (List.drop (0 : Nat) was))
 (List.take (List.length now) (List.drop (0 : Nat) now)))
 [List.getD
 (List.take (Int.toNat (↑(List.length b) : Int) - (0 : Nat))
 (List.drop (0 : Nat) b))
 (0 : Nat) (0 : UInt8),
 List.getD
 (List.take (Int.toNat (↑(List.length b) : Int) - (0 : Nat))
 (List.drop (0 : Nat) b))
 (1 : Nat) (0 : UInt8)]
 [List.getD
 (List.take (Int.toNat (↑(List.length b) : Int) - (0 : Nat))
 (List.drop (0 : Nat) b))
 (0 : Nat) (0 : UInt8),
 List.getD
 (List.take (Int.toNat (↑(List.length b) : Int) - (0 : Nat))
 (List.drop (0 : Nat) b))
 (1 : Nat) (0 : UInt8)] /
 (256 : Int))))
 (7 : Nat)
 (b8
 (chg
 (chg
 (bits BinOp.or IntKind.u16
 (IntKind.wrap IntKind.u16
 ((↑(UInt8.toNat
 (List.getD
 (List.take (0 : Nat) b ++
 ([List.getD
 (List.take (Int.toNat (↑(List.length b) : Int) - (0 : Nat))
 (List.drop (0 : Nat) b))
 (0 : Nat) (0 : UInt8),
 List.getD
 (List.take (Int.toNat (↑(List.length b) : Int) - (0 : Nat))
 (List.drop (0 : Nat) b))
 (1 : Nat) (0 : UInt8)] ++
 List.drop (2 : Nat) b))
 (6 : Nat) (0 : UInt8))) :
 Int) *
 (256 : Int)))
 (↑(UInt8.toNat
 (List.getD
 (List.take (0 : Nat) b ++
 ([List.getD
 (List.take (Int.toNat (↑(List.length b) : Int) - (0 : Nat))
 (List.drop (0 : Nat) b))
 (0 : Nat) (0 : UInt8),
 List.getD
 (List.take (Int.toNat (↑(List.length b) : Int) - (0 : Nat))
 (List.drop (0 : Nat) b))
 (1 : Nat) (0 : UInt8)] ++
 List.drop (2 : Nat) b))
 (7 : Nat) (0 : UInt8))) :
 Int))
 (List.take (List.length was) (List.drop (0 : Nat) was))
 (List.take (List.length now) (List.drop (0 : Nat) now)))
 [List.getD
 (List.take (Int.toNat (↑(List.length b) : Int) - (0 : Nat)) (List.drop (0 : Nat) b))
 (0 : Nat) (0 : UInt8),
 List.getD
 (List.take (Int.toNat (↑(List.length b) : Int) - (0 : Nat)) (List.drop (0 : Nat) b))
 (1 : Nat) (0 : UInt8)]
 [List.getD
 (List.take (Int.toNat (↑(List.length b) : Int) - (0 : Nat)) (List.drop (0 : Nat) b))
 (0 : Nat) (0 : UInt8),
 List.getD
 (List.take (Int.toNat (↑(List.length b) : Int) - (0 : Nat)) (List.drop (0 : Nat) b))
 (1 : Nat) (0 : UInt8)]))))))
 []))))
 (((0 : Int) ≤ (0 : Int) ∧ (0 : Int) ≤ (↑(List.length b) : Int)) ∧
 (2 : Nat) ≤ List.length (List.take (Int.toNat (↑(List.length b) : Int) - (0 : Nat)) (List.drop (0 : Nat) b)) ∧
 brP (!decide (port = (0 : Int)))
 (((0 : Int) ≤ (8 : Int) ∧ (8 : Nat) < (64 : Nat)) ∧
 ((0 : Int) ≤ (0 : Int) ∧ (0 : Int) ≤ (↑(List.length b) : Int)) ∧
 ((2 : Nat) ≤ List.length b ∧ (2 : Nat) ≤ Int.toNat (↑(List.length b) : Int) - (0 : Nat)) ∧
 ((0 : Int) ≤ (16 : Int) ∧ (16 : Int) < (↑(List.length b) : Int)) ∧
 (16 : Nat) <
 List.length (List.take (0 : Nat) b ++ ([b8 (port / (256 : Int)), b8 port] ++ List.drop (2 : Nat) b)) ∧
 ((0 : Int) ≤ (8 : Int) ∧ (8 : Nat) < (16 : Nat)) ∧
 I64 (17 : Int) ∧
 ((0 : Int) ≤ (17 : Int) ∧ (17 : Int) < (↑(List.length b) : Int)) ∧
 (17 : Nat) <
 List.length (List.take (0 : Nat) b ++ ([b8 (port / (256 : Int)), b8 port] ++ List.drop (2 : Nat) b)) ∧
 brP
 (decide (p = (17 : Int)) &&
 decide
 (bits BinOp.or IntKind.u16
 (IntKind.wrap IntKind.u16
 ((↑(UInt8.toNat
 (List.getD
 (List.take (0 : Nat) b ++ ([b8 (port / (256 : Int)), b8 port] ++ List.drop (2 : Nat) b))
 (16 : Nat) (0 : UInt8))) :
 Int) *
 (256 : Int)))
 (↑(UInt8.toNat
 (List.getD
 (List.take (0 : Nat) b ++ ([b8 (port / (256 : Int)), b8 port] ++ List.drop (2 : Nat) b))
 (17 : Nat) (0 : UInt8))) :
 Int) =
 (0 : Int)) &&
 decide ((↑(List.length was) : Int) = (4 : Int)))
 (K
 (AVal.str
 (List.take (List.length b)
 (List.drop (0 : Nat)
 (List.take (0 : Nat) b ++ ([b8 (port / (256 : Int)), b8 port] ++ List.drop (2 : Nat) b)))))
 [])
 (List.length was ≤ (140737488355328 : Nat) ∧
 List.length now ≤ (140737488355328 : Nat) ∧
 ((0 : Int) ≤
 bits BinOp.or IntKind.u16
 (IntKind.wrap IntKind.u16
 ((↑(UInt8.toNat
 (List.getD
 (List.take (0 : Nat) b ++ ([b8 (port / (256 : Int)), b8 port] ++ List.drop (2 : Nat) b))
 (16 : Nat) (0 : UInt8))) :
 Int) *
 (256 : Int)))
 (↑(UInt8.toNat
 (List.getD
 (List.take (0 : Nat) b ++ ([b8 (port / (256 : Int)), b8 port] ++ List.drop (2 : Nat) b))
 (17 : Nat) (0 : UInt8))) :
 Int) ∧
 bits BinOp.or IntKind.u16
 (IntKind.wrap IntKind.u16
 ((↑(UInt8.toNat
 (List.getD
 (List.take (0 : Nat) b ++ ([b8 (port / (256 : Int)), b8 port] ++ List.drop (2 : Nat) b))
 (16 : Nat) (0 : UInt8))) :
 Int) *
 (256 : Int)))
 (↑(UInt8.toNat
 (List.getD
 (List.take (0 : Nat) b ++ ([b8 (port / (256 : Int)), b8 port] ++ List.drop (2 : Nat) b))
 (17 : Nat) (0 : UInt8))) :
 Int) ≤
 (65535 : Int) ∧
 List.length (List.take (List.length was) (List.drop (0 : Nat) was)) =
 List.length (List.take (List.length now) (List.drop (0 : Nat) now)) ∧
 List.length (List.take (List.length was) (List.drop (0 : Nat) was)) % (2 : Nat) = (0 : Nat)) ∧
 ((0 : Int) ≤
 chg
 (bits BinOp.or IntKind.u16
 (IntKind.wrap IntKind.u16
 ((↑(UInt8.toNat
 (List.getD
 (List.take (0 : Nat) b ++ ([b8 (port / (256 : Int)), b8 port] ++ List.drop (2 : Nat) b))
 (16 : Nat) (0 : UInt8))) :
 Int) *
 (256 : Int)))
 (↑(UInt8.toNat
 (List.getD
 (List.take (0 : Nat) b ++ ([b8 (port / (256 : Int)), b8 port] ++ List.drop (2 : Nat) b))
 (17 : Nat) (0 : UInt8))) :
 Int))
 (List.take (List.length was) (List.drop (0 : Nat) was))
 (List.take (List.length now) (List.drop (0 : Nat) now)) ∧
 chg
 (bits BinOp.or IntKind.u16
 (IntKind.wrap IntKind.u16
 ((↑(UInt8.toNat
 (List.getD
 (List.take (0 : Nat) b ++ ([b8 (port / (256 : Int)), b8 port] ++ List.drop (2 : Nat) b))
 (16 : Nat) (0 : UInt8))) :
 Int) *
 (256 : Int)))
 (↑(UInt8.toNat
 (List.getD
 (List.take (0 : Nat) b ++ ([b8 (port / (256 : Int)), b8 port] ++ List.drop (2 : Nat) b))
 (17 : Nat) (0 : UInt8))) :
 Int))
 (List.take (List.length was) (List.drop (0 : Nat) was))
 (List.take (List.length now) (List.drop (0 : Nat) now)) ≤
 (65535 : Int) ∧
 (2 : Nat) = (2 : Nat) ∧ (0 : Nat) = (0 : Nat)) ∧
 brP
 (decide (p = (17 : Int)) &&
 decide
 (chg
 (chg
 (bits BinOp.or IntKind.u16
 (IntKind.wrap IntKind.u16
 ((↑(UInt8.toNat
 (List.getD
 (List.take (0 : Nat) b ++
 ([b8 (port / (256 : Int)), b8 port] ++ List.drop (2 : Nat) b))
 (16 : Nat) (0 : UInt8))) :
 Int) *
 (256 : Int)))
 (↑(UInt8.toNat
 (List.getD
 (List.take (0 : Nat) b ++ ([b8 (port / (256 : Int)), b8 port] ++ List.drop (2 : Nat) b))
 (17 : Nat) (0 : UInt8))) :
 Int))
 (List.take (List.length was) (List.drop (0 : Nat) was))
 (List.take (List.length now) (List.drop (0 : Nat) now)))
 [List.getD (List.take (Int.toNat (↑(List.length b) : Int) - (0 : Nat)) (List.drop (0 : Nat) b))
 (0 : Nat) (0 : UInt8),
 List.getD (List.take (Int.toNat (↑(List.length b) : Int) - (0 : Nat)) (List.drop (0 : Nat) b))
 (1 : Nat) (0 : UInt8)]
 [b8 (port / (256 : Int)), b8 port] =
 (0 : Int)))
 (I64 (17 : Int) ∧
 ((0 : Int) ≤ (8 : Int) ∧ (8 : Nat) < (16 : Nat)) ∧
 ((0 : Int) ≤ (16 : Int) ∧ (16 : Int) < (↑(List.length b) : Int)) ∧
 (16 : Nat) <
 List.length
 (List.take (0 : Nat) b ++ ([b8 (port / (256 : Int)), b8 port] ++ List.drop (2 : Nat) b)) ∧
 ((0 : Int) ≤ (17 : Int) ∧ (17 : Int) < (↑(List.length b) : Int)) ∧
 (17 : Nat) <
 List.length
 (List.set
 (List.take (0 : Nat) b ++ ([b8 (port / (256 : Int)), b8 port] ++ List.drop (2 : Nat) b))
 (16 : Nat) (255 : UInt8)) ∧
 K
 (AVal.str
 (List.take (List.length b)
 (List.drop (0 : Nat)
 (List.set
 (List.set
 (List.take (0 : Nat) b ++
 ([b8 (port / (256 : Int)), b8 port] ++ List.drop (2 : Nat) b))
 (16 : Nat) (255 : UInt8))
 (17 : Nat) (255 : UInt8)))))
 [])
 (I64 (17 : Int) ∧
 ((0 : Int) ≤ (8 : Int) ∧ (8 : Nat) < (16 : Nat)) ∧
 ((0 : Int) ≤ (16 : Int) ∧ (16 : Int) < (↑(List.length b) : Int)) ∧
 (16 : Nat) <
 List.length
 (List.take (0 : Nat) b ++ ([b8 (port / (256 : Int)), b8 port] ++ List.drop (2 : Nat) b)) ∧
 ((0 : Int) ≤ (17 : Int) ∧ (17 : Int) < (↑(List.length b) : Int)) ∧
 (17 : Nat) <
 List.length
 (List.set
 (List.take (0 : Nat) b ++ ([b8 (port / (256 : Int)), b8 port] ++ List.drop (2 : Nat) b))
 (16 : Nat)
 (b8
 (chg
 (chg
 (bits BinOp.or IntKind.u16
 (IntKind.wrap IntKind.u16
 ((↑(UInt8.toNat
 (List.getD
 (List.take (0 : Nat) b ++
 ([b8 (port / (256 : Int)), b8 port] ++ List.drop (2 : Nat) b))
 (16 : Nat) (0 : UInt8))) :
 Int) *
 (256 : Int)))
 (↑(UInt8.toNat
 (List.getD
 (List.take (0 : Nat) b ++
 ([b8 (port / (256 : Int)), b8 port] ++ List.drop (2 : Nat) b))
 (17 : Nat) (0 : UInt8))) :
 Int))
 (List.take (List.length was) (List.drop (0 : Nat) was))
 (List.take (List.length now) (List.drop (0 : Nat) now)))
 [List.getD
 (List.take (Int.toNat (↑(List.length b) : Int) - (0 : Nat)) (List.drop (0 : Nat) b))
 (0 : Nat) (0 : UInt8),
 List.getD
 (List.take (Int.toNat (↑(List.length b) : Int) - (0 : Nat)) (List.drop (0 : Nat) b))
 (1 : Nat) (0 : UInt8)]
 [b8 (port / (256 : Int)), b8 port] /
 (256 : Int)))) ∧
 K
 (AVal.str
 (List.take (List.length b)
 (List.drop (0 : Nat)
 (List.set
 (List.set
 (List.take (0 : Nat) b ++
 ([b8 (port / (256 : Int)), b8 port] ++ List.drop (2 : Nat) b))
 (16 : Nat)
 (b8
 (chg
 (chg
 (bits BinOp.or IntKind.u16
 (IntKind.wrap IntKind.u16
 ((↑(UInt8.toNat
 (List.getD
 (List.take (0 : Nat) b ++
 ([b8 (port / (256 : Int)), b8 port] ++ List.drop (2 : Nat) b))
 (16 : Nat) (0 : UInt8))) :
 Int) *
 (256 : Int)))
 (↑(UInt8.toNat
 (List.getD
 (List.take (0 : Nat) b ++
 ([b8 (port / (256 : Int)), b8 port] ++ List.drop (2 : Nat) b))
 (17 : Nat) (0 : UInt8))) :
 Int))
 (List.take (List.length was) (List.drop (0 : Nat) was))
 (List.take (List.length now) (List.drop (0 : Nat) now)))
 [List.getD
 (List.take (Int.toNat (↑(List.length b) : Int) - (0 : Nat))
 (List.drop (0 : Nat) b))
 (0 : Nat) (0 : UInt8),
 List.getD
 (List.take (Int.toNat (↑(List.length b) : Int) - (0 : Nat))
 (List.drop (0 : Nat) b))
 (1 : Nat) (0 : UInt8)]
 [b8 (port / (256 : Int)), b8 port] /
 (256 : Int))))
 (17 : Nat)
 (b8
 (chg
 (chg
 (bits BinOp.or IntKind.u16
 (IntKind.wrap IntKind.u16
 ((↑(UInt8.toNat
 (List.getD
 (List.take (0 : Nat) b ++
 ([b8 (port / (256 : Int)), b8 port] ++ List.drop (2 : Nat) b))
 (16 : Nat) (0 : UInt8))) :
 Int) *
 (256 : Int)))
 (↑(UInt8.toNat
 (List.getD
 (List.take (0 : Nat) b ++
 ([b8 (port / (256 : Int)), b8 port] ++ List.drop (2 : Nat) b))
 (17 : Nat) (0 : UInt8))) :
 Int))
 (List.take (List.length was) (List.drop (0 : Nat) was))
 (List.take (List.length now) (List.drop (0 : Nat) now)))
 [List.getD
 (List.take (Int.toNat (↑(List.length b) : Int) - (0 : Nat)) (List.drop (0 : Nat) b))
 (0 : Nat) (0 : UInt8),
 List.getD
 (List.take (Int.toNat (↑(List.length b) : Int) - (0 : Nat)) (List.drop (0 : Nat) b))
 (1 : Nat) (0 : UInt8)]
 [b8 (port / (256 : Int)), b8 port]))))))
 [])))
 (((0 : Int) ≤ (0 : Int) ∧ (0 : Int) ≤ (↑(List.length b) : Int)) ∧
 ((2 : Nat) ≤ List.length b ∧ (2 : Nat) ≤ Int.toNat (↑(List.length b) : Int) - (0 : Nat)) ∧
 ((0 : Int) ≤ (16 : Int) ∧ (16 : Int) < (↑(List.length b) : Int)) ∧
 (16 : Nat) <
 List.length
 (List.take (0 : Nat) b ++
 ([List.getD (List.take (Int.toNat (↑(List.length b) : Int) - (0 : Nat)) (List.drop (0 : Nat) b)) (0 : Nat)
 (0 : UInt8),
 List.getD (List.take (Int.toNat (↑(List.length b) : Int) - (0 : Nat)) (List.drop (0 : Nat) b)) (1 : Nat)
 (0 : UInt8)] ++
 List.drop (2 : Nat) b)) ∧
 ((0 : Int) ≤ (8 : Int) ∧ (8 : Nat) < (16 : Nat)) ∧
 I64 (17 : Int) ∧
 ((0 : Int) ≤ (17 : Int) ∧ (17 : Int) < (↑(List.length b) : Int)) ∧
 (17 : Nat) <
 List.length
 (List.take (0 : Nat) b ++
 ([List.getD (List.take (Int.toNat (↑(List.length b) : Int) - (0 : Nat)) (List.drop (0 : Nat) b))
 (0 : Nat) (0 : UInt8),
 List.getD (List.take (Int.toNat (↑(List.length b) : Int) - (0 : Nat)) (List.drop (0 : Nat) b))
 (1 : Nat) (0 : UInt8)] ++
 List.drop (2 : Nat) b)) ∧
 brP
 (decide (p = (17 : Int)) &&
 decide
 (bits BinOp.or IntKind.u16
 (IntKind.wrap IntKind.u16
 ((↑(UInt8.toNat
 (List.getD
 (List.take (0 : Nat) b ++
 ([List.getD
 (List.take (Int.toNat (↑(List.length b) : Int) - (0 : Nat)) (List.drop (0 : Nat) b))
 (0 : Nat) (0 : UInt8),
 List.getD
 (List.take (Int.toNat (↑(List.length b) : Int) - (0 : Nat)) (List.drop (0 : Nat) b))
 (1 : Nat) (0 : UInt8)] ++
 List.drop (2 : Nat) b))
 (16 : Nat) (0 : UInt8))) :
 Int) *
 (256 : Int)))
 (↑(UInt8.toNat
 (List.getD
 (List.take (0 : Nat) b ++
 ([List.getD
 (List.take (Int.toNat (↑(List.length b) : Int) - (0 : Nat)) (List.drop (0 : Nat) b))
 (0 : Nat) (0 : UInt8),
 List.getD
 (List.take (Int.toNat (↑(List.length b) : Int) - (0 : Nat)) (List.drop (0 : Nat) b))
 (1 : Nat) (0 : UInt8)] ++
 List.drop (2 : Nat) b))
 (17 : Nat) (0 : UInt8))) :
 Int) =
 (0 : Int)) &&
 decide ((↑(List.length was) : Int) = (4 : Int)))
 (K
 (AVal.str
 (List.take (List.length b)
 (List.drop (0 : Nat)
 (List.take (0 : Nat) b ++
 ([List.getD (List.take (Int.toNat (↑(List.length b) : Int) - (0 : Nat)) (List.drop (0 : Nat) b))
 (0 : Nat) (0 : UInt8),
 List.getD (List.take (Int.toNat (↑(List.length b) : Int) - (0 : Nat)) (List.drop (0 : Nat) b))
 (1 : Nat) (0 : UInt8)] ++
 List.drop (2 : Nat) b)))))
 [])
 (List.length was ≤ (140737488355328 : Nat) ∧
 List.length now ≤ (140737488355328 : Nat) ∧
 ((0 : Int) ≤
 bits BinOp.or IntKind.u16
 (IntKind.wrap IntKind.u16
 ((↑(UInt8.toNat
 (List.getD
 (List.take (0 : Nat) b ++
 ([List.getD
 (List.take (Int.toNat (↑(List.length b) : Int) - (0 : Nat)) (List.drop (0 : Nat) b))
 (0 : Nat) (0 : UInt8),
 List.getD
 (List.take (Int.toNat (↑(List.length b) : Int) - (0 : Nat)) (List.drop (0 : Nat) b))
 (1 : Nat) (0 : UInt8)] ++
 List.drop (2 : Nat) b))
 (16 : Nat) (0 : UInt8))) :
 Int) *
 (256 : Int)))
 (↑(UInt8.toNat
 (List.getD
 (List.take (0 : Nat) b ++
 ([List.getD
 (List.take (Int.toNat (↑(List.length b) : Int) - (0 : Nat)) (List.drop (0 : Nat) b))
 (0 : Nat) (0 : UInt8),
 List.getD
 (List.take (Int.toNat (↑(List.length b) : Int) - (0 : Nat)) (List.drop (0 : Nat) b))
 (1 : Nat) (0 : UInt8)] ++
 List.drop (2 : Nat) b))
 (17 : Nat) (0 : UInt8))) :
 Int) ∧
 bits BinOp.or IntKind.u16
 (IntKind.wrap IntKind.u16
 ((↑(UInt8.toNat
 (List.getD
 (List.take (0 : Nat) b ++
 ([List.getD
 (List.take (Int.toNat (↑(List.length b) : Int) - (0 : Nat)) (List.drop (0 : Nat) b))
 (0 : Nat) (0 : UInt8),
 List.getD
 (List.take (Int.toNat (↑(List.length b) : Int) - (0 : Nat)) (List.drop (0 : Nat) b))
 (1 : Nat) (0 : UInt8)] ++
 List.drop (2 : Nat) b))
 (16 : Nat) (0 : UInt8))) :
 Int) *
 (256 : Int)))
 (↑(UInt8.toNat
 (List.getD
 (List.take (0 : Nat) b ++
 ([List.getD
 (List.take (Int.toNat (↑(List.length b) : Int) - (0 : Nat)) (List.drop (0 : Nat) b))
 (0 : Nat) (0 : UInt8),
 List.getD
 (List.take (Int.toNat (↑(List.length b) : Int) - (0 : Nat)) (List.drop (0 : Nat) b))
 (1 : Nat) (0 : UInt8)] ++
 List.drop (2 : Nat) b))
 (17 : Nat) (0 : UInt8))) :
 Int) ≤
 (65535 : Int) ∧
 List.length (List.take (List.length was) (List.drop (0 : Nat) was)) =
 List.length (List.take (List.length now) (List.drop (0 : Nat) now)) ∧
 List.length (List.take (List.length was) (List.drop (0 : Nat) was)) % (2 : Nat) = (0 : Nat)) ∧
 ((0 : Int) ≤
 chg
 (bits BinOp.or IntKind.u16
 (IntKind.wrap IntKind.u16
 ((↑(UInt8.toNat
 (List.getD
 (List.take (0 : Nat) b ++
 ([List.getD
 (List.take (Int.toNat (↑(List.length b) : Int) - (0 : Nat)) (List.drop (0 : Nat) b))
 (0 : Nat) (0 : UInt8),
 List.getD
 (List.take (Int.toNat (↑(List.length b) : Int) - (0 : Nat)) (List.drop (0 : Nat) b))
 (1 : Nat) (0 : UInt8)] ++
 List.drop (2 : Nat) b))
 (16 : Nat) (0 : UInt8))) :
 Int) *
 (256 : Int)))
 (↑(UInt8.toNat
 (List.getD
 (List.take (0 : Nat) b ++
 ([List.getD
 (List.take (Int.toNat (↑(List.length b) : Int) - (0 : Nat)) (List.drop (0 : Nat) b))
 (0 : Nat) (0 : UInt8),
 List.getD
 (List.take (Int.toNat (↑(List.length b) : Int) - (0 : Nat)) (List.drop (0 : Nat) b))
 (1 : Nat) (0 : UInt8)] ++
 List.drop (2 : Nat) b))
 (17 : Nat) (0 : UInt8))) :
 Int))
 (List.take (List.length was) (List.drop (0 : Nat) was))
 (List.take (List.length now) (List.drop (0 : Nat) now)) ∧
 chg
 (bits BinOp.or IntKind.u16
 (IntKind.wrap IntKind.u16
 ((↑(UInt8.toNat
 (List.getD
 (List.take (0 : Nat) b ++
 ([List.getD
 (List.take (Int.toNat (↑(List.length b) : Int) - (0 : Nat)) (List.drop (0 : Nat) b))
 (0 : Nat) (0 : UInt8),
 List.getD
 (List.take (Int.toNat (↑(List.length b) : Int) - (0 : Nat)) (List.drop (0 : Nat) b))
 (1 : Nat) (0 : UInt8)] ++
 List.drop (2 : Nat) b))
 (16 : Nat) (0 : UInt8))) :
 Int) *
 (256 : Int)))
 (↑(UInt8.toNat
 (List.getD
 (List.take (0 : Nat) b ++
 ([List.getD
 (List.take (Int.toNat (↑(List.length b) : Int) - (0 : Nat)) (List.drop (0 : Nat) b))
 (0 : Nat) (0 : UInt8),
 List.getD
 (List.take (Int.toNat (↑(List.length b) : Int) - (0 : Nat)) (List.drop (0 : Nat) b))
 (1 : Nat) (0 : UInt8)] ++
 List.drop (2 : Nat) b))
 (17 : Nat) (0 : UInt8))) :
 Int))
 (List.take (List.length was) (List.drop (0 : Nat) was))
 (List.take (List.length now) (List.drop (0 : Nat) now)) ≤
 (65535 : Int) ∧
 (2 : Nat) = (2 : Nat) ∧ (0 : Nat) = (0 : Nat)) ∧
 brP
 (decide (p = (17 : Int)) &&
 decide
 (chg
 (chg
 (bits BinOp.or IntKind.u16
 (IntKind.wrap IntKind.u16
 ((↑(UInt8.toNat
 (List.getD
 (List.take (0 : Nat) b ++
 ([List.getD
 (List.take (Int.toNat (↑(List.length b) : Int) - (0 : Nat)) (List.drop (0 : Nat) b))
 (0 : Nat) (0 : UInt8),
 List.getD
 (List.take (Int.toNat (↑(List.length b) : Int) - (0 : Nat)) (List.drop (0 : Nat) b))
 (1 : Nat) (0 : UInt8)] ++
 List.drop (2 : Nat) b))
 (16 : Nat) (0 : UInt8))) :
 Int) *
 (256 : Int)))
 (↑(UInt8.toNat
 (List.getD
 (List.take (0 : Nat) b ++
 ([List.getD
 (List.take (Int.toNat (↑(List.length b) : Int) - (0 : Nat)) (List.drop (0 : Nat) b))
 (0 : Nat) (0 : UInt8),
 List.getD
 (List.take (Int.toNat (↑(List.length b) : Int) - (0 : Nat)) (List.drop (0 : Nat) b))
 (1 : Nat) (0 : UInt8)] ++
 List.drop (2 : Nat) b))
 (17 : Nat) (0 : UInt8))) :
 Int))
 (List.take (List.length was) (List.drop (0 : Nat) was))
 (List.take (List.length now) (List.drop (0 : Nat) now)))
 [List.getD (List.take (Int.toNat (↑(List.length b) : Int) - (0 : Nat)) (List.drop (0 : Nat) b))
 (0 : Nat) (0 : UInt8),
 List.getD (List.take (Int.toNat (↑(List.length b) : Int) - (0 : Nat)) (List.drop (0 : Nat) b))
 (1 : Nat) (0 : UInt8)]
 [List.getD (List.take (Int.toNat (↑(List.length b) : Int) - (0 : Nat)) (List.drop (0 : Nat) b))
 (0 : Nat) (0 : UInt8),
 List.getD (List.take (Int.toNat (↑(List.length b) : Int) - (0 : Nat)) (List.drop (0 : Nat) b))
 (1 : Nat) (0 : UInt8)] =
 (0 : Int)))
 (I64 (17 : Int) ∧
 ((0 : Int) ≤ (8 : Int) ∧ (8 : Nat) < (16 : Nat)) ∧
 ((0 : Int) ≤ (16 : Int) ∧ (16 : Int) < (↑(List.length b) : Int)) ∧
 (16 : Nat) <
 List.length
 (List.take (0 : Nat) b ++
 ([List.getD
 (List.take (Int.toNat (↑(List.length b) : Int) - (0 : Nat)) (List.drop (0 : Nat) b))
 (0 : Nat) (0 : UInt8),
 List.getD
 (List.take (Int.toNat (↑(List.length b) : Int) - (0 : Nat)) (List.drop (0 : Nat) b))
 (1 : Nat) (0 : UInt8)] ++
 List.drop (2 : Nat) b)) ∧
 ((0 : Int) ≤ (17 : Int) ∧ (17 : Int) < (↑(List.length b) : Int)) ∧
 (17 : Nat) <
 List.length
 (List.set
 (List.take (0 : Nat) b ++
 ([List.getD
 (List.take (Int.toNat (↑(List.length b) : Int) - (0 : Nat)) (List.drop (0 : Nat) b))
 (0 : Nat) (0 : UInt8),
 List.getD
 (List.take (Int.toNat (↑(List.length b) : Int) - (0 : Nat)) (List.drop (0 : Nat) b))
 (1 : Nat) (0 : UInt8)] ++
 List.drop (2 : Nat) b))
 (16 : Nat) (255 : UInt8)) ∧
 K
 (AVal.str
 (List.take (List.length b)
 (List.drop (0 : Nat)
 (List.set
 (List.set
 (List.take (0 : Nat) b ++
 ([List.getD
 (List.take (Int.toNat (↑(List.length b) : Int) - (0 : Nat)) (List.drop (0 : Nat) b))
 (0 : Nat) (0 : UInt8),
 List.getD
 (List.take (Int.toNat (↑(List.length b) : Int) - (0 : Nat)) (List.drop (0 : Nat) b))
 (1 : Nat) (0 : UInt8)] ++
 List.drop (2 : Nat) b))
 (16 : Nat) (255 : UInt8))
 (17 : Nat) (255 : UInt8)))))
 [])
 (I64 (17 : Int) ∧
 ((0 : Int) ≤ (8 : Int) ∧ (8 : Nat) < (16 : Nat)) ∧
 ((0 : Int) ≤ (16 : Int) ∧ (16 : Int) < (↑(List.length b) : Int)) ∧
 (16 : Nat) <
 List.length
 (List.take (0 : Nat) b ++
 ([List.getD
 (List.take (Int.toNat (↑(List.length b) : Int) - (0 : Nat)) (List.drop (0 : Nat) b))
 (0 : Nat) (0 : UInt8),
 List.getD
 (List.take (Int.toNat (↑(List.length b) : Int) - (0 : Nat)) (List.drop (0 : Nat) b))
 (1 : Nat) (0 : UInt8)] ++
 List.drop (2 : Nat) b)) ∧
 ((0 : Int) ≤ (17 : Int) ∧ (17 : Int) < (↑(List.length b) : Int)) ∧
 (17 : Nat) <
 List.length
 (List.set
 (List.take (0 : Nat) b ++
 ([List.getD
 (List.take (Int.toNat (↑(List.length b) : Int) - (0 : Nat)) (List.drop (0 : Nat) b))
 (0 : Nat) (0 : UInt8),
 List.getD
 (List.take (Int.toNat (↑(List.length b) : Int) - (0 : Nat)) (List.drop (0 : Nat) b))
 (1 : Nat) (0 : UInt8)] ++
 List.drop (2 : Nat) b))
 (16 : Nat)
 (b8
 (chg
 (chg
 (bits BinOp.or IntKind.u16
 (IntKind.wrap IntKind.u16
 ((↑(UInt8.toNat
 (List.getD
 (List.take (0 : Nat) b ++
 ([List.getD
 (List.take (Int.toNat (↑(List.length b) : Int) - (0 : Nat))
 (List.drop (0 : Nat) b))
 (0 : Nat) (0 : UInt8),
 List.getD
 (List.take (Int.toNat (↑(List.length b) : Int) - (0 : Nat))
 (List.drop (0 : Nat) b))
 (1 : Nat) (0 : UInt8)] ++
 List.drop (2 : Nat) b))
 (16 : Nat) (0 : UInt8))) :
 Int) *
 (256 : Int)))
 (↑(UInt8.toNat
 (List.getD
 (List.take (0 : Nat) b ++
 ([List.getD
 (List.take (Int.toNat (↑(List.length b) : Int) - (0 : Nat))
 (List.drop (0 : Nat) b))
 (0 : Nat) (0 : UInt8),
 List.getD
 (List.take (Int.toNat (↑(List.length b) : Int) - (0 : Nat))
 (List.drop (0 : Nat) b))
 (1 : Nat) (0 : UInt8)] ++
 List.drop (2 : Nat) b))
 (17 : Nat) (0 : UInt8))) :
 Int))
 (List.take (List.length was) (List.drop (0 : Nat) was))
 (List.take (List.length now) (List.drop (0 : Nat) now)))
 [List.getD
 (List.take (Int.toNat (↑(List.length b) : Int) - (0 : Nat)) (List.drop (0 : Nat) b))
 (0 : Nat) (0 : UInt8),
 List.getD
 (List.take (Int.toNat (↑(List.length b) : Int) - (0 : Nat)) (List.drop (0 : Nat) b))
 (1 : Nat) (0 : UInt8)]
 [List.getD
 (List.take (Int.toNat (↑(List.length b) : Int) - (0 : Nat)) (List.drop (0 : Nat) b))
 (0 : Nat) (0 : UInt8),
 List.getD
 (List.take (Int.toNat (↑(List.length b) : Int) - (0 : Nat)) (List.drop (0 : Nat) b))
 (1 : Nat) (0 : UInt8)] /
 (256 : Int)))) ∧
 K
 (AVal.str
 (List.take (List.length b)
 (List.drop (0 : Nat)
 (List.set
 (List.set
 (List.take (0 : Nat) b ++
 ([List.getD
 (List.take (Int.toNat (↑(List.length b) : Int) - (0 : Nat)) (List.drop (0 : Nat) b))
 (0 : Nat) (0 : UInt8),
 List.getD
 (List.take (Int.toNat (↑(List.length b) : Int) - (0 : Nat)) (List.drop (0 : Nat) b))
 (1 : Nat) (0 : UInt8)] ++
 List.drop (2 : Nat) b))
 (16 : Nat)
 (b8
 (chg
 (chg
 (bits BinOp.or IntKind.u16
 (IntKind.wrap IntKind.u16
 ((↑(UInt8.toNat
 (List.getD
 (List.take (0 : Nat) b ++
 ([List.getD
 (List.take (Int.toNat (↑(List.length b) : Int) - (0 : Nat))
 (List.drop (0 : Nat) b))
 (0 : Nat) (0 : UInt8),
 List.getD
 (List.take (Int.toNat (↑(List.length b) : Int) - (0 : Nat))
 (List.drop (0 : Nat) b))
 (1 : Nat) (0 : UInt8)] ++
 List.drop (2 : Nat) b))
 (16 : Nat) (0 : UInt8))) :
 Int) *
 (256 : Int)))
 (↑(UInt8.toNat
 (List.getD
 (List.take (0 : Nat) b ++
 ([List.getD
 (List.take (Int.toNat (↑(List.length b) : Int) - (0 : Nat))
 (List.drop (0 : Nat) b))
 (0 : Nat) (0 : UInt8),
 List.getD
 (List.take (Int.toNat (↑(List.length b) : Int) - (0 : Nat))
 (List.drop (0 : Nat) b))
 (1 : Nat) (0 : UInt8)] ++
 List.drop (2 : Nat) b))
 (17 : Nat) (0 : UInt8))) :
 Int))
 (List.take (List.length was) (List.drop (0 : Nat) was))
 (List.take (List.length now) (List.drop (0 : Nat) now)))
 [List.getD
 (List.take (Int.toNat (↑(List.length b) : Int) - (0 : Nat))
 (List.drop (0 : Nat) b))
 (0 : Nat) (0 : UInt8),
 List.getD
 (List.take (Int.toNat (↑(List.length b) : Int) - (0 : Nat))
 (List.drop (0 : Nat) b))
 (1 : Nat) (0 : UInt8)]
 [List.getD
 (List.take (Int.toNat (↑(List.length b) : Int) - (0 : Nat))
 (List.drop (0 : Nat) b))
 (0 : Nat) (0 : UInt8),
 List.getD
 (List.take (Int.toNat (↑(List.length b) : Int) - (0 : Nat))
 (List.drop (0 : Nat) b))
 (1 : Nat) (0 : UInt8)] /
 (256 : Int))))
 (17 : Nat)
 (b8
 (chg
 (chg
 (bits BinOp.or IntKind.u16
 (IntKind.wrap IntKind.u16
 ((↑(UInt8.toNat
 (List.getD
 (List.take (0 : Nat) b ++
 ([List.getD
 (List.take (Int.toNat (↑(List.length b) : Int) - (0 : Nat))
 (List.drop (0 : Nat) b))
 (0 : Nat) (0 : UInt8),
 List.getD
 (List.take (Int.toNat (↑(List.length b) : Int) - (0 : Nat))
 (List.drop (0 : Nat) b))
 (1 : Nat) (0 : UInt8)] ++
 List.drop (2 : Nat) b))
 (16 : Nat) (0 : UInt8))) :
 Int) *
 (256 : Int)))
 (↑(UInt8.toNat
 (List.getD
 (List.take (0 : Nat) b ++
 ([List.getD
 (List.take (Int.toNat (↑(List.length b) : Int) - (0 : Nat))
 (List.drop (0 : Nat) b))
 (0 : Nat) (0 : UInt8),
 List.getD
 (List.take (Int.toNat (↑(List.length b) : Int) - (0 : Nat))
 (List.drop (0 : Nat) b))
 (1 : Nat) (0 : UInt8)] ++
 List.drop (2 : Nat) b))
 (17 : Nat) (0 : UInt8))) :
 Int))
 (List.take (List.length was) (List.drop (0 : Nat) was))
 (List.take (List.length now) (List.drop (0 : Nat) now)))
 [List.getD
 (List.take (Int.toNat (↑(List.length b) : Int) - (0 : Nat)) (List.drop (0 : Nat) b))
 (0 : Nat) (0 : UInt8),
 List.getD
 (List.take (Int.toNat (↑(List.length b) : Int) - (0 : Nat)) (List.drop (0 : Nat) b))
 (1 : Nat) (0 : UInt8)]
 [List.getD
 (List.take (Int.toNat (↑(List.length b) : Int) - (0 : Nat)) (List.drop (0 : Nat) b))
 (0 : Nat) (0 : UInt8),
 List.getD
 (List.take (Int.toNat (↑(List.length b) : Int) - (0 : Nat)) (List.drop (0 : Nat) b))
 (1 : Nat) (0 : UInt8)]))))))
 []))))) := by kernel_rfl
set_option maxRecDepth 100000 in
theorem rewrite_turned_2 (f t : List UInt8) (p q : Int) (b was now : List UInt8) (port : Int) (K : AVal → Hp → Prop) : fnP Try.prog Trw10 ann_rewrite_turned Try.f41 [.agg [.str f, .str t, .int .i64 p, .int .i64 q, .str b], .int .i64 2, .str was, .str now, .int .i64 port] [] K = (
 List.length b ≤ (140737488355328 : Nat) ∧
 brP (decide (p = (17 : Int)))
 (((0 : Int) ≤ (2 : Int) ∧ (2 : Int) ≤ (↑(List.length b) : Int)) ∧
 (2 : Nat) ≤ List.length (List.take (Int.toNat (↑(List.length b) : Int) - (2 : Nat)) (List.drop (2 : Nat) b)) ∧
 brP (!decide (port = (0 : Int)))
 (((0 : Int) ≤ (8 : Int) ∧ (8 : Nat) < (64 : Nat)) ∧
 ((0 : Int) ≤ (2 : Int) ∧ (2 : Int) ≤ (↑(List.length b) : Int)) ∧
 ((4 : Nat) ≤ List.length b ∧ (2 : Nat) ≤ Int.toNat (↑(List.length b) : Int) - (2 : Nat)) ∧
 ((0 : Int) ≤ (6 : Int) ∧ (6 : Int) < (↑(List.length b) : Int)) ∧
 (6 : Nat) <
 List.length (List.take (2 : Nat) b ++ ([b8 (port / (256 : Int)), b8 port] ++ List.drop (4 : Nat) b)) ∧
 ((0 : Int) ≤ (8 : Int) ∧ (8 : Nat) < (16 : Nat)) ∧
 I64 (7 : Int) ∧
 ((0 : Int) ≤ (7 : Int) ∧ (7 : Int) < (↑(List.length b) : Int)) ∧
 (7 : Nat) <
 List.length (List.take (2 : Nat) b ++ ([b8 (port / (256 : Int)), b8 port] ++ List.drop (4 : Nat) b)) ∧
 brP
 (decide (p = (17 : Int)) &&
 decide
 (bits BinOp.or IntKind.u16
 (IntKind.wrap IntKind.u16
 ((↑(UInt8.toNat
 (List.getD
 (List.take (2 : Nat) b ++ ([b8 (port / (256 : Int)), b8 port] ++ List.drop (4 : Nat) b))
 (6 : Nat) (0 : UInt8))) :
 Int) *
 (256 : Int)))
 (↑(UInt8.toNat
 (List.getD
 (List.take (2 : Nat) b ++ ([b8 (port / (256 : Int)), b8 port] ++ List.drop (4 : Nat) b))
 (7 : Nat) (0 : UInt8))) :
 Int) =
 (0 : Int)) &&
 decide ((↑(List.length was) : Int) = (4 : Int)))
 (K
 (AVal.str
 (List.take (List.length b)
 (List.drop (0 : Nat)
 (List.take (2 : Nat) b ++ ([b8 (port / (256 : Int)), b8 port] ++ List.drop (4 : Nat) b)))))
 [])
 (List.length was ≤ (140737488355328 : Nat) ∧
 List.length now ≤ (140737488355328 : Nat) ∧
 ((0 : Int) ≤
 bits BinOp.or IntKind.u16
 (IntKind.wrap IntKind.u16
 ((↑(UInt8.toNat
 (List.getD
 (List.take (2 : Nat) b ++ ([b8 (port / (256 : Int)), b8 port] ++ List.drop (4 : Nat) b))
 (6 : Nat) (0 : UInt8))) :
 Int) *
 (256 : Int)))
 (↑(UInt8.toNat
 (List.getD
 (List.take (2 : Nat) b ++ ([b8 (port / (256 : Int)), b8 port] ++ List.drop (4 : Nat) b))
 (7 : Nat) (0 : UInt8))) :
 Int) ∧
 bits BinOp.or IntKind.u16
 (IntKind.wrap IntKind.u16
 ((↑(UInt8.toNat
 (List.getD
 (List.take (2 : Nat) b ++ ([b8 (port / (256 : Int)), b8 port] ++ List.drop (4 : Nat) b))
 (6 : Nat) (0 : UInt8))) :
 Int) *
 (256 : Int)))
 (↑(UInt8.toNat
 (List.getD
 (List.take (2 : Nat) b ++ ([b8 (port / (256 : Int)), b8 port] ++ List.drop (4 : Nat) b))
 (7 : Nat) (0 : UInt8))) :
 Int) ≤
 (65535 : Int) ∧
 List.length (List.take (List.length was) (List.drop (0 : Nat) was)) =
 List.length (List.take (List.length now) (List.drop (0 : Nat) now)) ∧
 List.length (List.take (List.length was) (List.drop (0 : Nat) was)) % (2 : Nat) = (0 : Nat)) ∧
 ((0 : Int) ≤
 chg
 (bits BinOp.or IntKind.u16
 (IntKind.wrap IntKind.u16
 ((↑(UInt8.toNat
 (List.getD
 (List.take (2 : Nat) b ++ ([b8 (port / (256 : Int)), b8 port] ++ List.drop (4 : Nat) b))
 (6 : Nat) (0 : UInt8))) :
 Int) *
 (256 : Int)))
 (↑(UInt8.toNat
 (List.getD
 (List.take (2 : Nat) b ++ ([b8 (port / (256 : Int)), b8 port] ++ List.drop (4 : Nat) b))
 (7 : Nat) (0 : UInt8))) :
 Int))
 (List.take (List.length was) (List.drop (0 : Nat) was))
 (List.take (List.length now) (List.drop (0 : Nat) now)) ∧
 chg
 (bits BinOp.or IntKind.u16
 (IntKind.wrap IntKind.u16
 ((↑(UInt8.toNat
 (List.getD
 (List.take (2 : Nat) b ++ ([b8 (port / (256 : Int)), b8 port] ++ List.drop (4 : Nat) b))
 (6 : Nat) (0 : UInt8))) :
 Int) *
 (256 : Int)))
 (↑(UInt8.toNat
 (List.getD
 (List.take (2 : Nat) b ++ ([b8 (port / (256 : Int)), b8 port] ++ List.drop (4 : Nat) b))
 (7 : Nat) (0 : UInt8))) :
 Int))
 (List.take (List.length was) (List.drop (0 : Nat) was))
 (List.take (List.length now) (List.drop (0 : Nat) now)) ≤
 (65535 : Int) ∧
 (2 : Nat) = (2 : Nat) ∧ (0 : Nat) = (0 : Nat)) ∧
 brP
 (decide (p = (17 : Int)) &&
 decide
 (chg
 (chg
 (bits BinOp.or IntKind.u16
 (IntKind.wrap IntKind.u16
 ((↑(UInt8.toNat
 (List.getD
 (List.take (2 : Nat) b ++
 ([b8 (port / (256 : Int)), b8 port] ++ List.drop (4 : Nat) b))
 (6 : Nat) (0 : UInt8))) :
 Int) *
 (256 : Int)))
 (↑(UInt8.toNat
 (List.getD
 (List.take (2 : Nat) b ++ ([b8 (port / (256 : Int)), b8 port] ++ List.drop (4 : Nat) b))
 (7 : Nat) (0 : UInt8))) :
 Int))
 (List.take (List.length was) (List.drop (0 : Nat) was))
 (List.take (List.length now) (List.drop (0 : Nat) now)))
 [List.getD (List.take (Int.toNat (↑(List.length b) : Int) - (2 : Nat)) (List.drop (2 : Nat) b))
 (0 : Nat) (0 : UInt8),
 List.getD (List.take (Int.toNat (↑(List.length b) : Int) - (2 : Nat)) (List.drop (2 : Nat) b))
 (1 : Nat) (0 : UInt8)]
 [b8 (port / (256 : Int)), b8 port] =
 (0 : Int)))
 (I64 (7 : Int) ∧
 ((0 : Int) ≤ (8 : Int) ∧ (8 : Nat) < (16 : Nat)) ∧
 ((0 : Int) ≤ (6 : Int) ∧ (6 : Int) < (↑(List.length b) : Int)) ∧
 (6 : Nat) <
 List.length
 (List.take (2 : Nat) b ++ ([b8 (port / (256 : Int)), b8 port] ++ List.drop (4 : Nat) b)) ∧
 ((0 : Int) ≤ (7 : Int) ∧ (7 : Int) < (↑(List.length b) : Int)) ∧
 (7 : Nat) <
 List.length
 (List.set
 (List.take (2 : Nat) b ++ ([b8 (port / (256 : Int)), b8 port] ++ List.drop (4 : Nat) b))
 (6 : Nat) (255 : UInt8)) ∧
 K
 (AVal.str
 (List.take (List.length b)
 (List.drop (0 : Nat)
 (List.set
 (List.set
 (List.take (2 : Nat) b ++
 ([b8 (port / (256 : Int)), b8 port] ++ List.drop (4 : Nat) b))
 (6 : Nat) (255 : UInt8))
 (7 : Nat) (255 : UInt8)))))
 [])
 (I64 (7 : Int) ∧
 ((0 : Int) ≤ (8 : Int) ∧ (8 : Nat) < (16 : Nat)) ∧
 ((0 : Int) ≤ (6 : Int) ∧ (6 : Int) < (↑(List.length b) : Int)) ∧
 (6 : Nat) <
 List.length
 (List.take (2 : Nat) b ++ ([b8 (port / (256 : Int)), b8 port] ++ List.drop (4 : Nat) b)) ∧
 ((0 : Int) ≤ (7 : Int) ∧ (7 : Int) < (↑(List.length b) : Int)) ∧
 (7 : Nat) <
 List.length
 (List.set
 (List.take (2 : Nat) b ++ ([b8 (port / (256 : Int)), b8 port] ++ List.drop (4 : Nat) b))
 (6 : Nat)
 (b8
 (chg
 (chg
 (bits BinOp.or IntKind.u16
 (IntKind.wrap IntKind.u16
 ((↑(UInt8.toNat
 (List.getD
 (List.take (2 : Nat) b ++
 ([b8 (port / (256 : Int)), b8 port] ++ List.drop (4 : Nat) b))
 (6 : Nat) (0 : UInt8))) :
 Int) *
 (256 : Int)))
 (↑(UInt8.toNat
 (List.getD
 (List.take (2 : Nat) b ++
 ([b8 (port / (256 : Int)), b8 port] ++ List.drop (4 : Nat) b))
 (7 : Nat) (0 : UInt8))) :
 Int))
 (List.take (List.length was) (List.drop (0 : Nat) was))
 (List.take (List.length now) (List.drop (0 : Nat) now)))
 [List.getD
 (List.take (Int.toNat (↑(List.length b) : Int) - (2 : Nat)) (List.drop (2 : Nat) b))
 (0 : Nat) (0 : UInt8),
 List.getD
 (List.take (Int.toNat (↑(List.length b) : Int) - (2 : Nat)) (List.drop (2 : Nat) b))
 (1 : Nat) (0 : UInt8)]
 [b8 (port / (256 : Int)), b8 port] /
 (256 : Int)))) ∧
 K
 (AVal.str
 (List.take (List.length b)
 (List.drop (0 : Nat)
 (List.set
 (List.set
 (List.take (2 : Nat) b ++
 ([b8 (port / (256 : Int)), b8 port] ++ List.drop (4 : Nat) b))
 (6 : Nat)
 (b8
 (chg
 (chg
 (bits BinOp.or IntKind.u16
 (IntKind.wrap IntKind.u16
 ((↑(UInt8.toNat
 (List.getD
 (List.take (2 : Nat) b ++
 ([b8 (port / (256 : Int)), b8 port] ++ List.drop (4 : Nat) b))
 (6 : Nat) (0 : UInt8))) :
 Int) *
 (256 : Int)))
 (↑(UInt8.toNat
 (List.getD
 (List.take (2 : Nat) b ++
 ([b8 (port / (256 : Int)), b8 port] ++ List.drop (4 : Nat) b))
 (7 : Nat) (0 : UInt8))) :
 Int))
 (List.take (List.length was) (List.drop (0 : Nat) was))
 (List.take (List.length now) (List.drop (0 : Nat) now)))
 [List.getD
 (List.take (Int.toNat (↑(List.length b) : Int) - (2 : Nat))
 (List.drop (2 : Nat) b))
 (0 : Nat) (0 : UInt8),
 List.getD
 (List.take (Int.toNat (↑(List.length b) : Int) - (2 : Nat))
 (List.drop (2 : Nat) b))
 (1 : Nat) (0 : UInt8)]
 [b8 (port / (256 : Int)), b8 port] /
 (256 : Int))))
 (7 : Nat)
 (b8
 (chg
 (chg
 (bits BinOp.or IntKind.u16
 (IntKind.wrap IntKind.u16
 ((↑(UInt8.toNat
 (List.getD
 (List.take (2 : Nat) b ++
 ([b8 (port / (256 : Int)), b8 port] ++ List.drop (4 : Nat) b))
 (6 : Nat) (0 : UInt8))) :
 Int) *
 (256 : Int)))
 (↑(UInt8.toNat
 (List.getD
 (List.take (2 : Nat) b ++
 ([b8 (port / (256 : Int)), b8 port] ++ List.drop (4 : Nat) b))
 (7 : Nat) (0 : UInt8))) :
 Int))
 (List.take (List.length was) (List.drop (0 : Nat) was))
 (List.take (List.length now) (List.drop (0 : Nat) now)))
 [List.getD
 (List.take (Int.toNat (↑(List.length b) : Int) - (2 : Nat)) (List.drop (2 : Nat) b))
 (0 : Nat) (0 : UInt8),
 List.getD
 (List.take (Int.toNat (↑(List.length b) : Int) - (2 : Nat)) (List.drop (2 : Nat) b))
 (1 : Nat) (0 : UInt8)]
 [b8 (port / (256 : Int)), b8 port]))))))
 [])))
 (((0 : Int) ≤ (2 : Int) ∧ (2 : Int) ≤ (↑(List.length b) : Int)) ∧
 ((4 : Nat) ≤ List.length b ∧ (2 : Nat) ≤ Int.toNat (↑(List.length b) : Int) - (2 : Nat)) ∧
 ((0 : Int) ≤ (6 : Int) ∧ (6 : Int) < (↑(List.length b) : Int)) ∧
 (6 : Nat) <
 List.length
 (List.take (2 : Nat) b ++
 ([List.getD (List.take (Int.toNat (↑(List.length b) : Int) - (2 : Nat)) (List.drop (2 : Nat) b)) (0 : Nat)
 (0 : UInt8),
 List.getD (List.take (Int.toNat (↑(List.length b) : Int) - (2 : Nat)) (List.drop (2 : Nat) b)) (1 : Nat)
 (0 : UInt8)] ++
 List.drop (4 : Nat) b)) ∧
 ((0 : Int) ≤ (8 : Int) ∧ (8 : Nat) < (16 : Nat)) ∧
 I64 (7 : Int) ∧
 ((0 : Int) ≤ (7 : Int) ∧ (7 : Int) < (↑(List.length b) : Int)) ∧
 (7 : Nat) <
 List.length
 (List.take (2 : Nat) b ++
 ([List.getD (List.take (Int.toNat (↑(List.length b) : Int) - (2 : Nat)) (List.drop (2 : Nat) b))
 (0 : Nat) (0 : UInt8),
 List.getD (List.take (Int.toNat (↑(List.length b) : Int) - (2 : Nat)) (List.drop (2 : Nat) b))
 (1 : Nat) (0 : UInt8)] ++
 List.drop (4 : Nat) b)) ∧
 brP
 (decide (p = (17 : Int)) &&
 decide
 (bits BinOp.or IntKind.u16
 (IntKind.wrap IntKind.u16
 ((↑(UInt8.toNat
 (List.getD
 (List.take (2 : Nat) b ++
 ([List.getD
 (List.take (Int.toNat (↑(List.length b) : Int) - (2 : Nat)) (List.drop (2 : Nat) b))
 (0 : Nat) (0 : UInt8),
 List.getD
 (List.take (Int.toNat (↑(List.length b) : Int) - (2 : Nat)) (List.drop (2 : Nat) b))
 (1 : Nat) (0 : UInt8)] ++
 List.drop (4 : Nat) b))
 (6 : Nat) (0 : UInt8))) :
 Int) *
 (256 : Int)))
 (↑(UInt8.toNat
 (List.getD
 (List.take (2 : Nat) b ++
 ([List.getD
 (List.take (Int.toNat (↑(List.length b) : Int) - (2 : Nat)) (List.drop (2 : Nat) b))
 (0 : Nat) (0 : UInt8),
 List.getD
 (List.take (Int.toNat (↑(List.length b) : Int) - (2 : Nat)) (List.drop (2 : Nat) b))
 (1 : Nat) (0 : UInt8)] ++
 List.drop (4 : Nat) b))
 (7 : Nat) (0 : UInt8))) :
 Int) =
 (0 : Int)) &&
 decide ((↑(List.length was) : Int) = (4 : Int)))
 (K
 (AVal.str
 (List.take (List.length b)
 (List.drop (0 : Nat)
 (List.take (2 : Nat) b ++
 ([List.getD (List.take (Int.toNat (↑(List.length b) : Int) - (2 : Nat)) (List.drop (2 : Nat) b))
 (0 : Nat) (0 : UInt8),
 List.getD (List.take (Int.toNat (↑(List.length b) : Int) - (2 : Nat)) (List.drop (2 : Nat) b))
 (1 : Nat) (0 : UInt8)] ++
 List.drop (4 : Nat) b)))))
 [])
 (List.length was ≤ (140737488355328 : Nat) ∧
 List.length now ≤ (140737488355328 : Nat) ∧
 ((0 : Int) ≤
 bits BinOp.or IntKind.u16
 (IntKind.wrap IntKind.u16
 ((↑(UInt8.toNat
 (List.getD
 (List.take (2 : Nat) b ++
 ([List.getD
 (List.take (Int.toNat (↑(List.length b) : Int) - (2 : Nat)) (List.drop (2 : Nat) b))
 (0 : Nat) (0 : UInt8),
 List.getD
 (List.take (Int.toNat (↑(List.length b) : Int) - (2 : Nat)) (List.drop (2 : Nat) b))
 (1 : Nat) (0 : UInt8)] ++
 List.drop (4 : Nat) b))
 (6 : Nat) (0 : UInt8))) :
 Int) *
 (256 : Int)))
 (↑(UInt8.toNat
 (List.getD
 (List.take (2 : Nat) b ++
 ([List.getD
 (List.take (Int.toNat (↑(List.length b) : Int) - (2 : Nat)) (List.drop (2 : Nat) b))
 (0 : Nat) (0 : UInt8),
 List.getD
 (List.take (Int.toNat (↑(List.length b) : Int) - (2 : Nat)) (List.drop (2 : Nat) b))
 (1 : Nat) (0 : UInt8)] ++
 List.drop (4 : Nat) b))
 (7 : Nat) (0 : UInt8))) :
 Int) ∧
 bits BinOp.or IntKind.u16
 (IntKind.wrap IntKind.u16
 ((↑(UInt8.toNat
 (List.getD
 (List.take (2 : Nat) b ++
 ([List.getD
 (List.take (Int.toNat (↑(List.length b) : Int) - (2 : Nat)) (List.drop (2 : Nat) b))
 (0 : Nat) (0 : UInt8),
 List.getD
 (List.take (Int.toNat (↑(List.length b) : Int) - (2 : Nat)) (List.drop (2 : Nat) b))
 (1 : Nat) (0 : UInt8)] ++
 List.drop (4 : Nat) b))
 (6 : Nat) (0 : UInt8))) :
 Int) *
 (256 : Int)))
 (↑(UInt8.toNat
 (List.getD
 (List.take (2 : Nat) b ++
 ([List.getD
 (List.take (Int.toNat (↑(List.length b) : Int) - (2 : Nat)) (List.drop (2 : Nat) b))
 (0 : Nat) (0 : UInt8),
 List.getD
 (List.take (Int.toNat (↑(List.length b) : Int) - (2 : Nat)) (List.drop (2 : Nat) b))
 (1 : Nat) (0 : UInt8)] ++
 List.drop (4 : Nat) b))
 (7 : Nat) (0 : UInt8))) :
 Int) ≤
 (65535 : Int) ∧
 List.length (List.take (List.length was) (List.drop (0 : Nat) was)) =
 List.length (List.take (List.length now) (List.drop (0 : Nat) now)) ∧
 List.length (List.take (List.length was) (List.drop (0 : Nat) was)) % (2 : Nat) = (0 : Nat)) ∧
 ((0 : Int) ≤
 chg
 (bits BinOp.or IntKind.u16
 (IntKind.wrap IntKind.u16
 ((↑(UInt8.toNat
 (List.getD
 (List.take (2 : Nat) b ++
 ([List.getD
 (List.take (Int.toNat (↑(List.length b) : Int) - (2 : Nat)) (List.drop (2 : Nat) b))
 (0 : Nat) (0 : UInt8),
 List.getD
 (List.take (Int.toNat (↑(List.length b) : Int) - (2 : Nat)) (List.drop (2 : Nat) b))
 (1 : Nat) (0 : UInt8)] ++
 List.drop (4 : Nat) b))
 (6 : Nat) (0 : UInt8))) :
 Int) *
 (256 : Int)))
 (↑(UInt8.toNat
 (List.getD
 (List.take (2 : Nat) b ++
 ([List.getD
 (List.take (Int.toNat (↑(List.length b) : Int) - (2 : Nat)) (List.drop (2 : Nat) b))
 (0 : Nat) (0 : UInt8),
 List.getD
 (List.take (Int.toNat (↑(List.length b) : Int) - (2 : Nat)) (List.drop (2 : Nat) b))
 (1 : Nat) (0 : UInt8)] ++
 List.drop (4 : Nat) b))
 (7 : Nat) (0 : UInt8))) :
 Int))
 (List.take (List.length was) (List.drop (0 : Nat) was))
 (List.take (List.length now) (List.drop (0 : Nat) now)) ∧
 chg
 (bits BinOp.or IntKind.u16
 (IntKind.wrap IntKind.u16
 ((↑(UInt8.toNat
 (List.getD
 (List.take (2 : Nat) b ++
 ([List.getD
 (List.take (Int.toNat (↑(List.length b) : Int) - (2 : Nat)) (List.drop (2 : Nat) b))
 (0 : Nat) (0 : UInt8),
 List.getD
 (List.take (Int.toNat (↑(List.length b) : Int) - (2 : Nat)) (List.drop (2 : Nat) b))
 (1 : Nat) (0 : UInt8)] ++
 List.drop (4 : Nat) b))
 (6 : Nat) (0 : UInt8))) :
 Int) *
 (256 : Int)))
 (↑(UInt8.toNat
 (List.getD
 (List.take (2 : Nat) b ++
 ([List.getD
 (List.take (Int.toNat (↑(List.length b) : Int) - (2 : Nat)) (List.drop (2 : Nat) b))
 (0 : Nat) (0 : UInt8),
 List.getD
 (List.take (Int.toNat (↑(List.length b) : Int) - (2 : Nat)) (List.drop (2 : Nat) b))
 (1 : Nat) (0 : UInt8)] ++
 List.drop (4 : Nat) b))
 (7 : Nat) (0 : UInt8))) :
 Int))
 (List.take (List.length was) (List.drop (0 : Nat) was))
 (List.take (List.length now) (List.drop (0 : Nat) now)) ≤
 (65535 : Int) ∧
 (2 : Nat) = (2 : Nat) ∧ (0 : Nat) = (0 : Nat)) ∧
 brP
 (decide (p = (17 : Int)) &&
 decide
 (chg
 (chg
 (bits BinOp.or IntKind.u16
 (IntKind.wrap IntKind.u16
 ((↑(UInt8.toNat
 (List.getD
 (List.take (2 : Nat) b ++
 ([List.getD
 (List.take (Int.toNat (↑(List.length b) : Int) - (2 : Nat)) (List.drop (2 : Nat) b))
 (0 : Nat) (0 : UInt8),
 List.getD
 (List.take (Int.toNat (↑(List.length b) : Int) - (2 : Nat)) (List.drop (2 : Nat) b))
 (1 : Nat) (0 : UInt8)] ++
 List.drop (4 : Nat) b))
 (6 : Nat) (0 : UInt8))) :
 Int) *
 (256 : Int)))
 (↑(UInt8.toNat
 (List.getD
 (List.take (2 : Nat) b ++
 ([List.getD
 (List.take (Int.toNat (↑(List.length b) : Int) - (2 : Nat)) (List.drop (2 : Nat) b))
 (0 : Nat) (0 : UInt8),
 List.getD
 (List.take (Int.toNat (↑(List.length b) : Int) - (2 : Nat)) (List.drop (2 : Nat) b))
 (1 : Nat) (0 : UInt8)] ++
 List.drop (4 : Nat) b))
 (7 : Nat) (0 : UInt8))) :
 Int))
 (List.take (List.length was) (List.drop (0 : Nat) was))
 (List.take (List.length now) (List.drop (0 : Nat) now)))
 [List.getD (List.take (Int.toNat (↑(List.length b) : Int) - (2 : Nat)) (List.drop (2 : Nat) b))
 (0 : Nat) (0 : UInt8),
 List.getD (List.take (Int.toNat (↑(List.length b) : Int) - (2 : Nat)) (List.drop (2 : Nat) b))
 (1 : Nat) (0 : UInt8)]
 [List.getD (List.take (Int.toNat (↑(List.length b) : Int) - (2 : Nat)) (List.drop (2 : Nat) b))
 (0 : Nat) (0 : UInt8),
 List.getD (List.take (Int.toNat (↑(List.length b) : Int) - (2 : Nat)) (List.drop (2 : Nat) b))
 (1 : Nat) (0 : UInt8)] =
 (0 : Int)))
 (I64 (7 : Int) ∧
 ((0 : Int) ≤ (8 : Int) ∧ (8 : Nat) < (16 : Nat)) ∧
 ((0 : Int) ≤ (6 : Int) ∧ (6 : Int) < (↑(List.length b) : Int)) ∧
 (6 : Nat) <
 List.length
 (List.take (2 : Nat) b ++
 ([List.getD
 (List.take (Int.toNat (↑(List.length b) : Int) - (2 : Nat)) (List.drop (2 : Nat) b))
 (0 : Nat) (0 : UInt8),
 List.getD
 (List.take (Int.toNat (↑(List.length b) : Int) - (2 : Nat)) (List.drop (2 : Nat) b))
 (1 : Nat) (0 : UInt8)] ++
 List.drop (4 : Nat) b)) ∧
 ((0 : Int) ≤ (7 : Int) ∧ (7 : Int) < (↑(List.length b) : Int)) ∧
 (7 : Nat) <
 List.length
 (List.set
 (List.take (2 : Nat) b ++
 ([List.getD
 (List.take (Int.toNat (↑(List.length b) : Int) - (2 : Nat)) (List.drop (2 : Nat) b))
 (0 : Nat) (0 : UInt8),
 List.getD
 (List.take (Int.toNat (↑(List.length b) : Int) - (2 : Nat)) (List.drop (2 : Nat) b))
 (1 : Nat) (0 : UInt8)] ++
 List.drop (4 : Nat) b))
 (6 : Nat) (255 : UInt8)) ∧
 K
 (AVal.str
 (List.take (List.length b)
 (List.drop (0 : Nat)
 (List.set
 (List.set
 (List.take (2 : Nat) b ++
 ([List.getD
 (List.take (Int.toNat (↑(List.length b) : Int) - (2 : Nat)) (List.drop (2 : Nat) b))
 (0 : Nat) (0 : UInt8),
 List.getD
 (List.take (Int.toNat (↑(List.length b) : Int) - (2 : Nat)) (List.drop (2 : Nat) b))
 (1 : Nat) (0 : UInt8)] ++
 List.drop (4 : Nat) b))
 (6 : Nat) (255 : UInt8))
 (7 : Nat) (255 : UInt8)))))
 [])
 (I64 (7 : Int) ∧
 ((0 : Int) ≤ (8 : Int) ∧ (8 : Nat) < (16 : Nat)) ∧
 ((0 : Int) ≤ (6 : Int) ∧ (6 : Int) < (↑(List.length b) : Int)) ∧
 (6 : Nat) <
 List.length
 (List.take (2 : Nat) b ++
 ([List.getD
 (List.take (Int.toNat (↑(List.length b) : Int) - (2 : Nat)) (List.drop (2 : Nat) b))
 (0 : Nat) (0 : UInt8),
 List.getD
 (List.take (Int.toNat (↑(List.length b) : Int) - (2 : Nat)) (List.drop (2 : Nat) b))
 (1 : Nat) (0 : UInt8)] ++
 List.drop (4 : Nat) b)) ∧
 ((0 : Int) ≤ (7 : Int) ∧ (7 : Int) < (↑(List.length b) : Int)) ∧
 (7 : Nat) <
 List.length
 (List.set
 (List.take (2 : Nat) b ++
 ([List.getD
 (List.take (Int.toNat (↑(List.length b) : Int) - (2 : Nat)) (List.drop (2 : Nat) b))
 (0 : Nat) (0 : UInt8),
 List.getD
 (List.take (Int.toNat (↑(List.length b) : Int) - (2 : Nat)) (List.drop (2 : Nat) b))
 (1 : Nat) (0 : UInt8)] ++
 List.drop (4 : Nat) b))
 (6 : Nat)
 (b8
 (chg
 (chg
 (bits BinOp.or IntKind.u16
 (IntKind.wrap IntKind.u16
 ((↑(UInt8.toNat
 (List.getD
 (List.take (2 : Nat) b ++
 ([List.getD
 (List.take (Int.toNat (↑(List.length b) : Int) - (2 : Nat))
 (List.drop (2 : Nat) b))
 (0 : Nat) (0 : UInt8),
 List.getD
 (List.take (Int.toNat (↑(List.length b) : Int) - (2 : Nat))
 (List.drop (2 : Nat) b))
 (1 : Nat) (0 : UInt8)] ++
 List.drop (4 : Nat) b))
 (6 : Nat) (0 : UInt8))) :
 Int) *
 (256 : Int)))
 (↑(UInt8.toNat
 (List.getD
 (List.take (2 : Nat) b ++
 ([List.getD
 (List.take (Int.toNat (↑(List.length b) : Int) - (2 : Nat))
 (List.drop (2 : Nat) b))
 (0 : Nat) (0 : UInt8),
 List.getD
 (List.take (Int.toNat (↑(List.length b) : Int) - (2 : Nat))
 (List.drop (2 : Nat) b))
 (1 : Nat) (0 : UInt8)] ++
 List.drop (4 : Nat) b))
 (7 : Nat) (0 : UInt8))) :
 Int))
 (List.take (List.length was) (List.drop (0 : Nat) was))
 (List.take (List.length now) (List.drop (0 : Nat) now)))
 [List.getD
 (List.take (Int.toNat (↑(List.length b) : Int) - (2 : Nat)) (List.drop (2 : Nat) b))
 (0 : Nat) (0 : UInt8),
 List.getD
 (List.take (Int.toNat (↑(List.length b) : Int) - (2 : Nat)) (List.drop (2 : Nat) b))
 (1 : Nat) (0 : UInt8)]
 [List.getD
 (List.take (Int.toNat (↑(List.length b) : Int) - (2 : Nat)) (List.drop (2 : Nat) b))
 (0 : Nat) (0 : UInt8),
 List.getD
 (List.take (Int.toNat (↑(List.length b) : Int) - (2 : Nat)) (List.drop (2 : Nat) b))
 (1 : Nat) (0 : UInt8)] /
 (256 : Int)))) ∧
 K
 (AVal.str
 (List.take (List.length b)
 (List.drop (0 : Nat)
 (List.set
 (List.set
 (List.take (2 : Nat) b ++
 ([List.getD
 (List.take (Int.toNat (↑(List.length b) : Int) - (2 : Nat)) (List.drop (2 : Nat) b))
 (0 : Nat) (0 : UInt8),
 List.getD
 (List.take (Int.toNat (↑(List.length b) : Int) - (2 : Nat)) (List.drop (2 : Nat) b))
 (1 : Nat) (0 : UInt8)] ++
 List.drop (4 : Nat) b))
 (6 : Nat)
 (b8
 (chg
 (chg
 (bits BinOp.or IntKind.u16
 (IntKind.wrap IntKind.u16
 ((↑(UInt8.toNat
 (List.getD
 (List.take (2 : Nat) b ++
 ([List.getD
 (List.take (Int.toNat (↑(List.length b) : Int) - (2 : Nat))
 (List.drop (2 : Nat) b))
 (0 : Nat) (0 : UInt8),
 List.getD
 (List.take (Int.toNat (↑(List.length b) : Int) - (2 : Nat))
 (List.drop (2 : Nat) b))
 (1 : Nat) (0 : UInt8)] ++
 List.drop (4 : Nat) b))
 (6 : Nat) (0 : UInt8))) :
 Int) *
 (256 : Int)))
 (↑(UInt8.toNat
 (List.getD
 (List.take (2 : Nat) b ++
 ([List.getD
 (List.take (Int.toNat (↑(List.length b) : Int) - (2 : Nat))
 (List.drop (2 : Nat) b))
 (0 : Nat) (0 : UInt8),
 List.getD
 (List.take (Int.toNat (↑(List.length b) : Int) - (2 : Nat))
 (List.drop (2 : Nat) b))
 (1 : Nat) (0 : UInt8)] ++
 List.drop (4 : Nat) b))
 (7 : Nat) (0 : UInt8))) :
 Int))
 (List.take (List.length was) (List.drop (0 : Nat) was))
 (List.take (List.length now) (List.drop (0 : Nat) now)))
 [List.getD
 (List.take (Int.toNat (↑(List.length b) : Int) - (2 : Nat))
 (List.drop (2 : Nat) b))
 (0 : Nat) (0 : UInt8),
 List.getD
 (List.take (Int.toNat (↑(List.length b) : Int) - (2 : Nat))
 (List.drop (2 : Nat) b))
 (1 : Nat) (0 : UInt8)]
 [List.getD
 (List.take (Int.toNat (↑(List.length b) : Int) - (2 : Nat))
 (List.drop (2 : Nat) b))
 (0 : Nat) (0 : UInt8),
 List.getD
 (List.take (Int.toNat (↑(List.length b) : Int) - (2 : Nat))
 (List.drop (2 : Nat) b))
 (1 : Nat) (0 : UInt8)] /
 (256 : Int))))
 (7 : Nat)
 (b8
 (chg
 (chg
 (bits BinOp.or IntKind.u16
 (IntKind.wrap IntKind.u16
 ((↑(UInt8.toNat
 (List.getD
 (List.take (2 : Nat) b ++
 ([List.getD
 (List.take (Int.toNat (↑(List.length b) : Int) - (2 : Nat))
 (List.drop (2 : Nat) b))
 (0 : Nat) (0 : UInt8),
 List.getD
 (List.take (Int.toNat (↑(List.length b) : Int) - (2 : Nat))
 (List.drop (2 : Nat) b))
 (1 : Nat) (0 : UInt8)] ++
 List.drop (4 : Nat) b))
 (6 : Nat) (0 : UInt8))) :
 Int) *
 (256 : Int)))
 (↑(UInt8.toNat
 (List.getD
 (List.take (2 : Nat) b ++
 ([List.getD
 (List.take (Int.toNat (↑(List.length b) : Int) - (2 : Nat))
 (List.drop (2 : Nat) b))
 (0 : Nat) (0 : UInt8),
 List.getD
 (List.take (Int.toNat (↑(List.length b) : Int) - (2 : Nat))
 (List.drop (2 : Nat) b))
 (1 : Nat) (0 : UInt8)] ++
 List.drop (4 : Nat) b))
 (7 : Nat) (0 : UInt8))) :
 Int))
 (List.take (List.length was) (List.drop (0 : Nat) was))
 (List.take (List.length now) (List.drop (0 : Nat) now)))
 [List.getD
 (List.take (Int.toNat (↑(List.length b) : Int) - (2 : Nat)) (List.drop (2 : Nat) b))
 (0 : Nat) (0 : UInt8),
 List.getD
 (List.take (Int.toNat (↑(List.length b) : Int) - (2 : Nat)) (List.drop (2 : Nat) b))
 (1 : Nat) (0 : UInt8)]
 [List.getD
 (List.take (Int.toNat (↑(List.length b) : Int) - (2 : Nat)) (List.drop (2 : Nat) b))
 (0 : Nat) (0 : UInt8),
 List.getD
 (List.take (Int.toNat (↑(List.length b) : Int) - (2 : Nat)) (List.drop (2 : Nat) b))
 (1 : Nat) (0 : UInt8)]))))))
 []))))
 (((0 : Int) ≤ (2 : Int) ∧ (2 : Int) ≤ (↑(List.length b) : Int)) ∧
 (2 : Nat) ≤ List.length (List.take (Int.toNat (↑(List.length b) : Int) - (2 : Nat)) (List.drop (2 : Nat) b)) ∧
 brP (!decide (port = (0 : Int)))
 (((0 : Int) ≤ (8 : Int) ∧ (8 : Nat) < (64 : Nat)) ∧
 ((0 : Int) ≤ (2 : Int) ∧ (2 : Int) ≤ (↑(List.length b) : Int)) ∧
 ((4 : Nat) ≤ List.length b ∧ (2 : Nat) ≤ Int.toNat (↑(List.length b) : Int) - (2 : Nat)) ∧
 ((0 : Int) ≤ (16 : Int) ∧ (16 : Int) < (↑(List.length b) : Int)) ∧
 (16 : Nat) <
 List.length (List.take (2 : Nat) b ++ ([b8 (port / (256 : Int)), b8 port] ++ List.drop (4 : Nat) b)) ∧
 ((0 : Int) ≤ (8 : Int) ∧ (8 : Nat) < (16 : Nat)) ∧
 I64 (17 : Int) ∧
 ((0 : Int) ≤ (17 : Int) ∧ (17 : Int) < (↑(List.length b) : Int)) ∧
 (17 : Nat) <
 List.length (List.take (2 : Nat) b ++ ([b8 (port / (256 : Int)), b8 port] ++ List.drop (4 : Nat) b)) ∧
 brP
 (decide (p = (17 : Int)) &&
 decide
 (bits BinOp.or IntKind.u16
 (IntKind.wrap IntKind.u16
 ((↑(UInt8.toNat
 (List.getD
 (List.take (2 : Nat) b ++ ([b8 (port / (256 : Int)), b8 port] ++ List.drop (4 : Nat) b))
 (16 : Nat) (0 : UInt8))) :
 Int) *
 (256 : Int)))
 (↑(UInt8.toNat
 (List.getD
 (List.take (2 : Nat) b ++ ([b8 (port / (256 : Int)), b8 port] ++ List.drop (4 : Nat) b))
 (17 : Nat) (0 : UInt8))) :
 Int) =
 (0 : Int)) &&
 decide ((↑(List.length was) : Int) = (4 : Int)))
 (K
 (AVal.str
 (List.take (List.length b)
 (List.drop (0 : Nat)
 (List.take (2 : Nat) b ++ ([b8 (port / (256 : Int)), b8 port] ++ List.drop (4 : Nat) b)))))
 [])
 (List.length was ≤ (140737488355328 : Nat) ∧
 List.length now ≤ (140737488355328 : Nat) ∧
 ((0 : Int) ≤
 bits BinOp.or IntKind.u16
 (IntKind.wrap IntKind.u16
 ((↑(UInt8.toNat
 (List.getD
 (List.take (2 : Nat) b ++ ([b8 (port / (256 : Int)), b8 port] ++ List.drop (4 : Nat) b))
 (16 : Nat) (0 : UInt8))) :
 Int) *
 (256 : Int)))
 (↑(UInt8.toNat
 (List.getD
 (List.take (2 : Nat) b ++ ([b8 (port / (256 : Int)), b8 port] ++ List.drop (4 : Nat) b))
 (17 : Nat) (0 : UInt8))) :
 Int) ∧
 bits BinOp.or IntKind.u16
 (IntKind.wrap IntKind.u16
 ((↑(UInt8.toNat
 (List.getD
 (List.take (2 : Nat) b ++ ([b8 (port / (256 : Int)), b8 port] ++ List.drop (4 : Nat) b))
 (16 : Nat) (0 : UInt8))) :
 Int) *
 (256 : Int)))
 (↑(UInt8.toNat
 (List.getD
 (List.take (2 : Nat) b ++ ([b8 (port / (256 : Int)), b8 port] ++ List.drop (4 : Nat) b))
 (17 : Nat) (0 : UInt8))) :
 Int) ≤
 (65535 : Int) ∧
 List.length (List.take (List.length was) (List.drop (0 : Nat) was)) =
 List.length (List.take (List.length now) (List.drop (0 : Nat) now)) ∧
 List.length (List.take (List.length was) (List.drop (0 : Nat) was)) % (2 : Nat) = (0 : Nat)) ∧
 ((0 : Int) ≤
 chg
 (bits BinOp.or IntKind.u16
 (IntKind.wrap IntKind.u16
 ((↑(UInt8.toNat
 (List.getD
 (List.take (2 : Nat) b ++ ([b8 (port / (256 : Int)), b8 port] ++ List.drop (4 : Nat) b))
 (16 : Nat) (0 : UInt8))) :
 Int) *
 (256 : Int)))
 (↑(UInt8.toNat
 (List.getD
 (List.take (2 : Nat) b ++ ([b8 (port / (256 : Int)), b8 port] ++ List.drop (4 : Nat) b))
 (17 : Nat) (0 : UInt8))) :
 Int))
 (List.take (List.length was) (List.drop (0 : Nat) was))
 (List.take (List.length now) (List.drop (0 : Nat) now)) ∧
 chg
 (bits BinOp.or IntKind.u16
 (IntKind.wrap IntKind.u16
 ((↑(UInt8.toNat
 (List.getD
 (List.take (2 : Nat) b ++ ([b8 (port / (256 : Int)), b8 port] ++ List.drop (4 : Nat) b))
 (16 : Nat) (0 : UInt8))) :
 Int) *
 (256 : Int)))
 (↑(UInt8.toNat
 (List.getD
 (List.take (2 : Nat) b ++ ([b8 (port / (256 : Int)), b8 port] ++ List.drop (4 : Nat) b))
 (17 : Nat) (0 : UInt8))) :
 Int))
 (List.take (List.length was) (List.drop (0 : Nat) was))
 (List.take (List.length now) (List.drop (0 : Nat) now)) ≤
 (65535 : Int) ∧
 (2 : Nat) = (2 : Nat) ∧ (0 : Nat) = (0 : Nat)) ∧
 brP
 (decide (p = (17 : Int)) &&
 decide
 (chg
 (chg
 (bits BinOp.or IntKind.u16
 (IntKind.wrap IntKind.u16
 ((↑(UInt8.toNat
 (List.getD
 (List.take (2 : Nat) b ++
 ([b8 (port / (256 : Int)), b8 port] ++ List.drop (4 : Nat) b))
 (16 : Nat) (0 : UInt8))) :
 Int) *
 (256 : Int)))
 (↑(UInt8.toNat
 (List.getD
 (List.take (2 : Nat) b ++ ([b8 (port / (256 : Int)), b8 port] ++ List.drop (4 : Nat) b))
 (17 : Nat) (0 : UInt8))) :
 Int))
 (List.take (List.length was) (List.drop (0 : Nat) was))
 (List.take (List.length now) (List.drop (0 : Nat) now)))
 [List.getD (List.take (Int.toNat (↑(List.length b) : Int) - (2 : Nat)) (List.drop (2 : Nat) b))
 (0 : Nat) (0 : UInt8),
 List.getD (List.take (Int.toNat (↑(List.length b) : Int) - (2 : Nat)) (List.drop (2 : Nat) b))
 (1 : Nat) (0 : UInt8)]
 [b8 (port / (256 : Int)), b8 port] =
 (0 : Int)))
 (I64 (17 : Int) ∧
 ((0 : Int) ≤ (8 : Int) ∧ (8 : Nat) < (16 : Nat)) ∧
 ((0 : Int) ≤ (16 : Int) ∧ (16 : Int) < (↑(List.length b) : Int)) ∧
 (16 : Nat) <
 List.length
 (List.take (2 : Nat) b ++ ([b8 (port / (256 : Int)), b8 port] ++ List.drop (4 : Nat) b)) ∧
 ((0 : Int) ≤ (17 : Int) ∧ (17 : Int) < (↑(List.length b) : Int)) ∧
 (17 : Nat) <
 List.length
 (List.set
 (List.take (2 : Nat) b ++ ([b8 (port / (256 : Int)), b8 port] ++ List.drop (4 : Nat) b))
 (16 : Nat) (255 : UInt8)) ∧
 K
 (AVal.str
 (List.take (List.length b)
 (List.drop (0 : Nat)
 (List.set
 (List.set
 (List.take (2 : Nat) b ++
 ([b8 (port / (256 : Int)), b8 port] ++ List.drop (4 : Nat) b))
 (16 : Nat) (255 : UInt8))
 (17 : Nat) (255 : UInt8)))))
 [])
 (I64 (17 : Int) ∧
 ((0 : Int) ≤ (8 : Int) ∧ (8 : Nat) < (16 : Nat)) ∧
 ((0 : Int) ≤ (16 : Int) ∧ (16 : Int) < (↑(List.length b) : Int)) ∧
 (16 : Nat) <
 List.length
 (List.take (2 : Nat) b ++ ([b8 (port / (256 : Int)), b8 port] ++ List.drop (4 : Nat) b)) ∧
 ((0 : Int) ≤ (17 : Int) ∧ (17 : Int) < (↑(List.length b) : Int)) ∧
 (17 : Nat) <
 List.length
 (List.set
 (List.take (2 : Nat) b ++ ([b8 (port / (256 : Int)), b8 port] ++ List.drop (4 : Nat) b))
 (16 : Nat)
 (b8
 (chg
 (chg
 (bits BinOp.or IntKind.u16
 (IntKind.wrap IntKind.u16
 ((↑(UInt8.toNat
 (List.getD
 (List.take (2 : Nat) b ++
 ([b8 (port / (256 : Int)), b8 port] ++ List.drop (4 : Nat) b))
 (16 : Nat) (0 : UInt8))) :
 Int) *
 (256 : Int)))
 (↑(UInt8.toNat
 (List.getD
 (List.take (2 : Nat) b ++
 ([b8 (port / (256 : Int)), b8 port] ++ List.drop (4 : Nat) b))
 (17 : Nat) (0 : UInt8))) :
 Int))
 (List.take (List.length was) (List.drop (0 : Nat) was))
 (List.take (List.length now) (List.drop (0 : Nat) now)))
 [List.getD
 (List.take (Int.toNat (↑(List.length b) : Int) - (2 : Nat)) (List.drop (2 : Nat) b))
 (0 : Nat) (0 : UInt8),
 List.getD
 (List.take (Int.toNat (↑(List.length b) : Int) - (2 : Nat)) (List.drop (2 : Nat) b))
 (1 : Nat) (0 : UInt8)]
 [b8 (port / (256 : Int)), b8 port] /
 (256 : Int)))) ∧
 K
 (AVal.str
 (List.take (List.length b)
 (List.drop (0 : Nat)
 (List.set
 (List.set
 (List.take (2 : Nat) b ++
 ([b8 (port / (256 : Int)), b8 port] ++ List.drop (4 : Nat) b))
 (16 : Nat)
 (b8
 (chg
 (chg
 (bits BinOp.or IntKind.u16
 (IntKind.wrap IntKind.u16
 ((↑(UInt8.toNat
 (List.getD
 (List.take (2 : Nat) b ++
 ([b8 (port / (256 : Int)), b8 port] ++ List.drop (4 : Nat) b))
 (16 : Nat) (0 : UInt8))) :
 Int) *
 (256 : Int)))
 (↑(UInt8.toNat
 (List.getD
 (List.take (2 : Nat) b ++
 ([b8 (port / (256 : Int)), b8 port] ++ List.drop (4 : Nat) b))
 (17 : Nat) (0 : UInt8))) :
 Int))
 (List.take (List.length was) (List.drop (0 : Nat) was))
 (List.take (List.length now) (List.drop (0 : Nat) now)))
 [List.getD
 (List.take (Int.toNat (↑(List.length b) : Int) - (2 : Nat))
 (List.drop (2 : Nat) b))
 (0 : Nat) (0 : UInt8),
 List.getD
 (List.take (Int.toNat (↑(List.length b) : Int) - (2 : Nat))
 (List.drop (2 : Nat) b))
 (1 : Nat) (0 : UInt8)]
 [b8 (port / (256 : Int)), b8 port] /
 (256 : Int))))
 (17 : Nat)
 (b8
 (chg
 (chg
 (bits BinOp.or IntKind.u16
 (IntKind.wrap IntKind.u16
 ((↑(UInt8.toNat
 (List.getD
 (List.take (2 : Nat) b ++
 ([b8 (port / (256 : Int)), b8 port] ++ List.drop (4 : Nat) b))
 (16 : Nat) (0 : UInt8))) :
 Int) *
 (256 : Int)))
 (↑(UInt8.toNat
 (List.getD
 (List.take (2 : Nat) b ++
 ([b8 (port / (256 : Int)), b8 port] ++ List.drop (4 : Nat) b))
 (17 : Nat) (0 : UInt8))) :
 Int))
 (List.take (List.length was) (List.drop (0 : Nat) was))
 (List.take (List.length now) (List.drop (0 : Nat) now)))
 [List.getD
 (List.take (Int.toNat (↑(List.length b) : Int) - (2 : Nat)) (List.drop (2 : Nat) b))
 (0 : Nat) (0 : UInt8),
 List.getD
 (List.take (Int.toNat (↑(List.length b) : Int) - (2 : Nat)) (List.drop (2 : Nat) b))
 (1 : Nat) (0 : UInt8)]
 [b8 (port / (256 : Int)), b8 port]))))))
 [])))
 (((0 : Int) ≤ (2 : Int) ∧ (2 : Int) ≤ (↑(List.length b) : Int)) ∧
 ((4 : Nat) ≤ List.length b ∧ (2 : Nat) ≤ Int.toNat (↑(List.length b) : Int) - (2 : Nat)) ∧
 ((0 : Int) ≤ (16 : Int) ∧ (16 : Int) < (↑(List.length b) : Int)) ∧
 (16 : Nat) <
 List.length
 (List.take (2 : Nat) b ++
 ([List.getD (List.take (Int.toNat (↑(List.length b) : Int) - (2 : Nat)) (List.drop (2 : Nat) b)) (0 : Nat)
 (0 : UInt8),
 List.getD (List.take (Int.toNat (↑(List.length b) : Int) - (2 : Nat)) (List.drop (2 : Nat) b)) (1 : Nat)
 (0 : UInt8)] ++
 List.drop (4 : Nat) b)) ∧
 ((0 : Int) ≤ (8 : Int) ∧ (8 : Nat) < (16 : Nat)) ∧
 I64 (17 : Int) ∧
 ((0 : Int) ≤ (17 : Int) ∧ (17 : Int) < (↑(List.length b) : Int)) ∧
 (17 : Nat) <
 List.length
 (List.take (2 : Nat) b ++
 ([List.getD (List.take (Int.toNat (↑(List.length b) : Int) - (2 : Nat)) (List.drop (2 : Nat) b))
 (0 : Nat) (0 : UInt8),
 List.getD (List.take (Int.toNat (↑(List.length b) : Int) - (2 : Nat)) (List.drop (2 : Nat) b))
 (1 : Nat) (0 : UInt8)] ++
 List.drop (4 : Nat) b)) ∧
 brP
 (decide (p = (17 : Int)) &&
 decide
 (bits BinOp.or IntKind.u16
 (IntKind.wrap IntKind.u16
 ((↑(UInt8.toNat
 (List.getD
 (List.take (2 : Nat) b ++
 ([List.getD
 (List.take (Int.toNat (↑(List.length b) : Int) - (2 : Nat)) (List.drop (2 : Nat) b))
 (0 : Nat) (0 : UInt8),
 List.getD
 (List.take (Int.toNat (↑(List.length b) : Int) - (2 : Nat)) (List.drop (2 : Nat) b))
 (1 : Nat) (0 : UInt8)] ++
 List.drop (4 : Nat) b))
 (16 : Nat) (0 : UInt8))) :
 Int) *
 (256 : Int)))
 (↑(UInt8.toNat
 (List.getD
 (List.take (2 : Nat) b ++
 ([List.getD
 (List.take (Int.toNat (↑(List.length b) : Int) - (2 : Nat)) (List.drop (2 : Nat) b))
 (0 : Nat) (0 : UInt8),
 List.getD
 (List.take (Int.toNat (↑(List.length b) : Int) - (2 : Nat)) (List.drop (2 : Nat) b))
 (1 : Nat) (0 : UInt8)] ++
 List.drop (4 : Nat) b))
 (17 : Nat) (0 : UInt8))) :
 Int) =
 (0 : Int)) &&
 decide ((↑(List.length was) : Int) = (4 : Int)))
 (K
 (AVal.str
 (List.take (List.length b)
 (List.drop (0 : Nat)
 (List.take (2 : Nat) b ++
 ([List.getD (List.take (Int.toNat (↑(List.length b) : Int) - (2 : Nat)) (List.drop (2 : Nat) b))
 (0 : Nat) (0 : UInt8),
 List.getD (List.take (Int.toNat (↑(List.length b) : Int) - (2 : Nat)) (List.drop (2 : Nat) b))
 (1 : Nat) (0 : UInt8)] ++
 List.drop (4 : Nat) b)))))
 [])
 (List.length was ≤ (140737488355328 : Nat) ∧
 List.length now ≤ (140737488355328 : Nat) ∧
 ((0 : Int) ≤
 bits BinOp.or IntKind.u16
 (IntKind.wrap IntKind.u16
 ((↑(UInt8.toNat
 (List.getD
 (List.take (2 : Nat) b ++
 ([List.getD
 (List.take (Int.toNat (↑(List.length b) : Int) - (2 : Nat)) (List.drop (2 : Nat) b))
 (0 : Nat) (0 : UInt8),
 List.getD
 (List.take (Int.toNat (↑(List.length b) : Int) - (2 : Nat)) (List.drop (2 : Nat) b))
 (1 : Nat) (0 : UInt8)] ++
 List.drop (4 : Nat) b))
 (16 : Nat) (0 : UInt8))) :
 Int) *
 (256 : Int)))
 (↑(UInt8.toNat
 (List.getD
 (List.take (2 : Nat) b ++
 ([List.getD
 (List.take (Int.toNat (↑(List.length b) : Int) - (2 : Nat)) (List.drop (2 : Nat) b))
 (0 : Nat) (0 : UInt8),
 List.getD
 (List.take (Int.toNat (↑(List.length b) : Int) - (2 : Nat)) (List.drop (2 : Nat) b))
 (1 : Nat) (0 : UInt8)] ++
 List.drop (4 : Nat) b))
 (17 : Nat) (0 : UInt8))) :
 Int) ∧
 bits BinOp.or IntKind.u16
 (IntKind.wrap IntKind.u16
 ((↑(UInt8.toNat
 (List.getD
 (List.take (2 : Nat) b ++
 ([List.getD
 (List.take (Int.toNat (↑(List.length b) : Int) - (2 : Nat)) (List.drop (2 : Nat) b))
 (0 : Nat) (0 : UInt8),
 List.getD
 (List.take (Int.toNat (↑(List.length b) : Int) - (2 : Nat)) (List.drop (2 : Nat) b))
 (1 : Nat) (0 : UInt8)] ++
 List.drop (4 : Nat) b))
 (16 : Nat) (0 : UInt8))) :
 Int) *
 (256 : Int)))
 (↑(UInt8.toNat
 (List.getD
 (List.take (2 : Nat) b ++
 ([List.getD
 (List.take (Int.toNat (↑(List.length b) : Int) - (2 : Nat)) (List.drop (2 : Nat) b))
 (0 : Nat) (0 : UInt8),
 List.getD
 (List.take (Int.toNat (↑(List.length b) : Int) - (2 : Nat)) (List.drop (2 : Nat) b))
 (1 : Nat) (0 : UInt8)] ++
 List.drop (4 : Nat) b))
 (17 : Nat) (0 : UInt8))) :
 Int) ≤
 (65535 : Int) ∧
 List.length (List.take (List.length was) (List.drop (0 : Nat) was)) =
 List.length (List.take (List.length now) (List.drop (0 : Nat) now)) ∧
 List.length (List.take (List.length was) (List.drop (0 : Nat) was)) % (2 : Nat) = (0 : Nat)) ∧
 ((0 : Int) ≤
 chg
 (bits BinOp.or IntKind.u16
 (IntKind.wrap IntKind.u16
 ((↑(UInt8.toNat
 (List.getD
 (List.take (2 : Nat) b ++
 ([List.getD
 (List.take (Int.toNat (↑(List.length b) : Int) - (2 : Nat)) (List.drop (2 : Nat) b))
 (0 : Nat) (0 : UInt8),
 List.getD
 (List.take (Int.toNat (↑(List.length b) : Int) - (2 : Nat)) (List.drop (2 : Nat) b))
 (1 : Nat) (0 : UInt8)] ++
 List.drop (4 : Nat) b))
 (16 : Nat) (0 : UInt8))) :
 Int) *
 (256 : Int)))
 (↑(UInt8.toNat
 (List.getD
 (List.take (2 : Nat) b ++
 ([List.getD
 (List.take (Int.toNat (↑(List.length b) : Int) - (2 : Nat)) (List.drop (2 : Nat) b))
 (0 : Nat) (0 : UInt8),
 List.getD
 (List.take (Int.toNat (↑(List.length b) : Int) - (2 : Nat)) (List.drop (2 : Nat) b))
 (1 : Nat) (0 : UInt8)] ++
 List.drop (4 : Nat) b))
 (17 : Nat) (0 : UInt8))) :
 Int))
 (List.take (List.length was) (List.drop (0 : Nat) was))
 (List.take (List.length now) (List.drop (0 : Nat) now)) ∧
 chg
 (bits BinOp.or IntKind.u16
 (IntKind.wrap IntKind.u16
 ((↑(UInt8.toNat
 (List.getD
 (List.take (2 : Nat) b ++
 ([List.getD
 (List.take (Int.toNat (↑(List.length b) : Int) - (2 : Nat)) (List.drop (2 : Nat) b))
 (0 : Nat) (0 : UInt8),
 List.getD
 (List.take (Int.toNat (↑(List.length b) : Int) - (2 : Nat)) (List.drop (2 : Nat) b))
 (1 : Nat) (0 : UInt8)] ++
 List.drop (4 : Nat) b))
 (16 : Nat) (0 : UInt8))) :
 Int) *
 (256 : Int)))
 (↑(UInt8.toNat
 (List.getD
 (List.take (2 : Nat) b ++
 ([List.getD
 (List.take (Int.toNat (↑(List.length b) : Int) - (2 : Nat)) (List.drop (2 : Nat) b))
 (0 : Nat) (0 : UInt8),
 List.getD
 (List.take (Int.toNat (↑(List.length b) : Int) - (2 : Nat)) (List.drop (2 : Nat) b))
 (1 : Nat) (0 : UInt8)] ++
 List.drop (4 : Nat) b))
 (17 : Nat) (0 : UInt8))) :
 Int))
 (List.take (List.length was) (List.drop (0 : Nat) was))
 (List.take (List.length now) (List.drop (0 : Nat) now)) ≤
 (65535 : Int) ∧
 (2 : Nat) = (2 : Nat) ∧ (0 : Nat) = (0 : Nat)) ∧
 brP
 (decide (p = (17 : Int)) &&
 decide
 (chg
 (chg
 (bits BinOp.or IntKind.u16
 (IntKind.wrap IntKind.u16
 ((↑(UInt8.toNat
 (List.getD
 (List.take (2 : Nat) b ++
 ([List.getD
 (List.take (Int.toNat (↑(List.length b) : Int) - (2 : Nat)) (List.drop (2 : Nat) b))
 (0 : Nat) (0 : UInt8),
 List.getD
 (List.take (Int.toNat (↑(List.length b) : Int) - (2 : Nat)) (List.drop (2 : Nat) b))
 (1 : Nat) (0 : UInt8)] ++
 List.drop (4 : Nat) b))
 (16 : Nat) (0 : UInt8))) :
 Int) *
 (256 : Int)))
 (↑(UInt8.toNat
 (List.getD
 (List.take (2 : Nat) b ++
 ([List.getD
 (List.take (Int.toNat (↑(List.length b) : Int) - (2 : Nat)) (List.drop (2 : Nat) b))
 (0 : Nat) (0 : UInt8),
 List.getD
 (List.take (Int.toNat (↑(List.length b) : Int) - (2 : Nat)) (List.drop (2 : Nat) b))
 (1 : Nat) (0 : UInt8)] ++
 List.drop (4 : Nat) b))
 (17 : Nat) (0 : UInt8))) :
 Int))
 (List.take (List.length was) (List.drop (0 : Nat) was))
 (List.take (List.length now) (List.drop (0 : Nat) now)))
 [List.getD (List.take (Int.toNat (↑(List.length b) : Int) - (2 : Nat)) (List.drop (2 : Nat) b))
 (0 : Nat) (0 : UInt8),
 List.getD (List.take (Int.toNat (↑(List.length b) : Int) - (2 : Nat)) (List.drop (2 : Nat) b))
 (1 : Nat) (0 : UInt8)]
 [List.getD (List.take (Int.toNat (↑(List.length b) : Int) - (2 : Nat)) (List.drop (2 : Nat) b))
 (0 : Nat) (0 : UInt8),
 List.getD (List.take (Int.toNat (↑(List.length b) : Int) - (2 : Nat)) (List.drop (2 : Nat) b))
 (1 : Nat) (0 : UInt8)] =
 (0 : Int)))
 (I64 (17 : Int) ∧
 ((0 : Int) ≤ (8 : Int) ∧ (8 : Nat) < (16 : Nat)) ∧
 ((0 : Int) ≤ (16 : Int) ∧ (16 : Int) < (↑(List.length b) : Int)) ∧
 (16 : Nat) <
 List.length
 (List.take (2 : Nat) b ++
 ([List.getD
 (List.take (Int.toNat (↑(List.length b) : Int) - (2 : Nat)) (List.drop (2 : Nat) b))
 (0 : Nat) (0 : UInt8),
 List.getD
 (List.take (Int.toNat (↑(List.length b) : Int) - (2 : Nat)) (List.drop (2 : Nat) b))
 (1 : Nat) (0 : UInt8)] ++
 List.drop (4 : Nat) b)) ∧
 ((0 : Int) ≤ (17 : Int) ∧ (17 : Int) < (↑(List.length b) : Int)) ∧
 (17 : Nat) <
 List.length
 (List.set
 (List.take (2 : Nat) b ++
 ([List.getD
 (List.take (Int.toNat (↑(List.length b) : Int) - (2 : Nat)) (List.drop (2 : Nat) b))
 (0 : Nat) (0 : UInt8),
 List.getD
 (List.take (Int.toNat (↑(List.length b) : Int) - (2 : Nat)) (List.drop (2 : Nat) b))
 (1 : Nat) (0 : UInt8)] ++
 List.drop (4 : Nat) b))
 (16 : Nat) (255 : UInt8)) ∧
 K
 (AVal.str
 (List.take (List.length b)
 (List.drop (0 : Nat)
 (List.set
 (List.set
 (List.take (2 : Nat) b ++
 ([List.getD
 (List.take (Int.toNat (↑(List.length b) : Int) - (2 : Nat)) (List.drop (2 : Nat) b))
 (0 : Nat) (0 : UInt8),
 List.getD
 (List.take (Int.toNat (↑(List.length b) : Int) - (2 : Nat)) (List.drop (2 : Nat) b))
 (1 : Nat) (0 : UInt8)] ++
 List.drop (4 : Nat) b))
 (16 : Nat) (255 : UInt8))
 (17 : Nat) (255 : UInt8)))))
 [])
 (I64 (17 : Int) ∧
 ((0 : Int) ≤ (8 : Int) ∧ (8 : Nat) < (16 : Nat)) ∧
 ((0 : Int) ≤ (16 : Int) ∧ (16 : Int) < (↑(List.length b) : Int)) ∧
 (16 : Nat) <
 List.length
 (List.take (2 : Nat) b ++
 ([List.getD
 (List.take (Int.toNat (↑(List.length b) : Int) - (2 : Nat)) (List.drop (2 : Nat) b))
 (0 : Nat) (0 : UInt8),
 List.getD
 (List.take (Int.toNat (↑(List.length b) : Int) - (2 : Nat)) (List.drop (2 : Nat) b))
 (1 : Nat) (0 : UInt8)] ++
 List.drop (4 : Nat) b)) ∧
 ((0 : Int) ≤ (17 : Int) ∧ (17 : Int) < (↑(List.length b) : Int)) ∧
 (17 : Nat) <
 List.length
 (List.set
 (List.take (2 : Nat) b ++
 ([List.getD
 (List.take (Int.toNat (↑(List.length b) : Int) - (2 : Nat)) (List.drop (2 : Nat) b))
 (0 : Nat) (0 : UInt8),
 List.getD
 (List.take (Int.toNat (↑(List.length b) : Int) - (2 : Nat)) (List.drop (2 : Nat) b))
 (1 : Nat) (0 : UInt8)] ++
 List.drop (4 : Nat) b))
 (16 : Nat)
 (b8
 (chg
 (chg
 (bits BinOp.or IntKind.u16
 (IntKind.wrap IntKind.u16
 ((↑(UInt8.toNat
 (List.getD
 (List.take (2 : Nat) b ++
 ([List.getD
 (List.take (Int.toNat (↑(List.length b) : Int) - (2 : Nat))
 (List.drop (2 : Nat) b))
 (0 : Nat) (0 : UInt8),
 List.getD
 (List.take (Int.toNat (↑(List.length b) : Int) - (2 : Nat))
 (List.drop (2 : Nat) b))
 (1 : Nat) (0 : UInt8)] ++
 List.drop (4 : Nat) b))
 (16 : Nat) (0 : UInt8))) :
 Int) *
 (256 : Int)))
 (↑(UInt8.toNat
 (List.getD
 (List.take (2 : Nat) b ++
 ([List.getD
 (List.take (Int.toNat (↑(List.length b) : Int) - (2 : Nat))
 (List.drop (2 : Nat) b))
 (0 : Nat) (0 : UInt8),
 List.getD
 (List.take (Int.toNat (↑(List.length b) : Int) - (2 : Nat))
 (List.drop (2 : Nat) b))
 (1 : Nat) (0 : UInt8)] ++
 List.drop (4 : Nat) b))
 (17 : Nat) (0 : UInt8))) :
 Int))
 (List.take (List.length was) (List.drop (0 : Nat) was))
 (List.take (List.length now) (List.drop (0 : Nat) now)))
 [List.getD
 (List.take (Int.toNat (↑(List.length b) : Int) - (2 : Nat)) (List.drop (2 : Nat) b))
 (0 : Nat) (0 : UInt8),
 List.getD
 (List.take (Int.toNat (↑(List.length b) : Int) - (2 : Nat)) (List.drop (2 : Nat) b))
 (1 : Nat) (0 : UInt8)]
 [List.getD
 (List.take (Int.toNat (↑(List.length b) : Int) - (2 : Nat)) (List.drop (2 : Nat) b))
 (0 : Nat) (0 : UInt8),
 List.getD
 (List.take (Int.toNat (↑(List.length b) : Int) - (2 : Nat)) (List.drop (2 : Nat) b))
 (1 : Nat) (0 : UInt8)] /
 (256 : Int)))) ∧
 K
 (AVal.str
 (List.take (List.length b)
 (List.drop (0 : Nat)
 (List.set
 (List.set
 (List.take (2 : Nat) b ++
 ([List.getD
 (List.take (Int.toNat (↑(List.length b) : Int) - (2 : Nat)) (List.drop (2 : Nat) b))
 (0 : Nat) (0 : UInt8),
 List.getD
 (List.take (Int.toNat (↑(List.length b) : Int) - (2 : Nat)) (List.drop (2 : Nat) b))
 (1 : Nat) (0 : UInt8)] ++
 List.drop (4 : Nat) b))
 (16 : Nat)
 (b8
 (chg
 (chg
 (bits BinOp.or IntKind.u16
 (IntKind.wrap IntKind.u16
 ((↑(UInt8.toNat
 (List.getD
 (List.take (2 : Nat) b ++
 ([List.getD
 (List.take (Int.toNat (↑(List.length b) : Int) - (2 : Nat))
 (List.drop (2 : Nat) b))
 (0 : Nat) (0 : UInt8),
 List.getD
 (List.take (Int.toNat (↑(List.length b) : Int) - (2 : Nat))
 (List.drop (2 : Nat) b))
 (1 : Nat) (0 : UInt8)] ++
 List.drop (4 : Nat) b))
 (16 : Nat) (0 : UInt8))) :
 Int) *
 (256 : Int)))
 (↑(UInt8.toNat
 (List.getD
 (List.take (2 : Nat) b ++
 ([List.getD
 (List.take (Int.toNat (↑(List.length b) : Int) - (2 : Nat))
 (List.drop (2 : Nat) b))
 (0 : Nat) (0 : UInt8),
 List.getD
 (List.take (Int.toNat (↑(List.length b) : Int) - (2 : Nat))
 (List.drop (2 : Nat) b))
 (1 : Nat) (0 : UInt8)] ++
 List.drop (4 : Nat) b))
 (17 : Nat) (0 : UInt8))) :
 Int))
 (List.take (List.length was) (List.drop (0 : Nat) was))
 (List.take (List.length now) (List.drop (0 : Nat) now)))
 [List.getD
 (List.take (Int.toNat (↑(List.length b) : Int) - (2 : Nat))
 (List.drop (2 : Nat) b))
 (0 : Nat) (0 : UInt8),
 List.getD
 (List.take (Int.toNat (↑(List.length b) : Int) - (2 : Nat))
 (List.drop (2 : Nat) b))
 (1 : Nat) (0 : UInt8)]
 [List.getD
 (List.take (Int.toNat (↑(List.length b) : Int) - (2 : Nat))
 (List.drop (2 : Nat) b))
 (0 : Nat) (0 : UInt8),
 List.getD
 (List.take (Int.toNat (↑(List.length b) : Int) - (2 : Nat))
 (List.drop (2 : Nat) b))
 (1 : Nat) (0 : UInt8)] /
 (256 : Int))))
 (17 : Nat)
 (b8
 (chg
 (chg
 (bits BinOp.or IntKind.u16
 (IntKind.wrap IntKind.u16
 ((↑(UInt8.toNat
 (List.getD
 (List.take (2 : Nat) b ++
 ([List.getD
 (List.take (Int.toNat (↑(List.length b) : Int) - (2 : Nat))
 (List.drop (2 : Nat) b))
 (0 : Nat) (0 : UInt8),
 List.getD
 (List.take (Int.toNat (↑(List.length b) : Int) - (2 : Nat))
 (List.drop (2 : Nat) b))
 (1 : Nat) (0 : UInt8)] ++
 List.drop (4 : Nat) b))
 (16 : Nat) (0 : UInt8))) :
 Int) *
 (256 : Int)))
 (↑(UInt8.toNat
 (List.getD
 (List.take (2 : Nat) b ++
 ([List.getD
 (List.take (Int.toNat (↑(List.length b) : Int) - (2 : Nat))
 (List.drop (2 : Nat) b))
 (0 : Nat) (0 : UInt8),
 List.getD
 (List.take (Int.toNat (↑(List.length b) : Int) - (2 : Nat))
 (List.drop (2 : Nat) b))
 (1 : Nat) (0 : UInt8)] ++
 List.drop (4 : Nat) b))
 (17 : Nat) (0 : UInt8))) :
 Int))
 (List.take (List.length was) (List.drop (0 : Nat) was))
 (List.take (List.length now) (List.drop (0 : Nat) now)))
 [List.getD
 (List.take (Int.toNat (↑(List.length b) : Int) - (2 : Nat)) (List.drop (2 : Nat) b))
 (0 : Nat) (0 : UInt8),
 List.getD
 (List.take (Int.toNat (↑(List.length b) : Int) - (2 : Nat)) (List.drop (2 : Nat) b))
 (1 : Nat) (0 : UInt8)]
 [List.getD
 (List.take (Int.toNat (↑(List.length b) : Int) - (2 : Nat)) (List.drop (2 : Nat) b))
 (0 : Nat) (0 : UInt8),
 List.getD
 (List.take (Int.toNat (↑(List.length b) : Int) - (2 : Nat)) (List.drop (2 : Nat) b))
 (1 : Nat) (0 : UInt8)]))))))
 []))))) := by kernel_rfl
theorem rewrite_turned_p : ∀ args H K, turnRow args H K → fnP Try.prog Trw10 ann_rewrite_turned Try.f41 args H K := by
  intro args H K h
  unfold turnRow at h
  split at h
  · rename_i f t p q b was now port
    obtain ⟨⟨hlen, hb, hwn, hw2, hw16, hp0, hp1⟩, hK⟩ := h
    rw [rewrite_turned_0]
    have hl : (b.length : Int).toNat = b.length := Int.toNat_natCast _
    have hT : List.take (b.length - 0) (List.drop 0 b) = List.drop 0 b := take_all
    have h8 : 0 + 2 ≤ b.length := by omega
    have hbl : ∀ u v, (putB b 0 [u, v]).length = b.length := fun u v => putB_len h8
    have hP : ∀ u v : UInt8, List.take 0 b ++ ([u, v] ++ List.drop 2 b) = putB b 0 [u, v] := fun u v => putB_is b 0 u v
    have hg : ∀ (u v : UInt8) (k : Nat), 0 + 2 ≤ k → (putB b 0 [u, v]).getD k 0 = b.getD k 0 := fun u v k hk => putB_get h8 hk
    have hg6 := fun u v => hg u v 6 (by omega)
    have hg7 := fun u v => hg u v 7 (by omega)
    have hg16 := fun u v => hg u v 16 (by omega)
    have hg17 := fun u v => hg u v 17 (by omega)
    have hc1 := fun s h => chg_bd s was now h
    have hwb := w16_bd (b.getD 6 0) (b.getD 7 0)
    have hwb' := w16_bd (b.getD 16 0) (b.getD 17 0)
    simp only [hl, hT, hP, hbl, hg6, hg7, hg16, hg17, or_u16, List.take_length, List.drop_zero, List.length_set, Nat.sub_zero, getD_drop, Nat.reduceAdd]
    have ht1 : ∀ u v : UInt8, List.take b.length (putB b 0 [u, v]) = putB b 0 [u, v] := fun u v => List.take_of_length_le (by rw [hbl]; omega)
    have hF1 : b8 (65535 / 256) = 255 := by decide +kernel
    have hF2 : b8 65535 = 255 := by decide +kernel
    rcases hlen with ⟨hp, hb8⟩ | ⟨hp, hb20⟩
    · subst hp
      have hs : ∀ u v x y : UInt8, ((putB b 0 [u, v]).set 6 x).set 7 y = putB (putB b 0 [u, v]) 6 [x, y] := fun u v x y => putB_set (by rw [hbl]; omega)
      have ht2 : ∀ u v x y : UInt8, List.take b.length (putB (putB b 0 [u, v]) 6 [x, y]) = putB (putB b 0 [u, v]) 6 [x, y] := fun u v x y => List.take_of_length_le (by rw [putB_len (by rw [hbl]; omega), hbl]; omega)
      have hc1 := chg_bd (w16 (b.getD 6 0) (b.getD 7 0)) was now (w16_bd _ _)
      unfold rwTurned rwNew rwOld sumAt rwFresh twoAt at hK
      simp only [if_true, if_false, true_and, false_and, two, Nat.reduceAdd] at hK
      simp only [decide_true, decide_false, Bool.true_and, Bool.false_and, brP_t, brP_f]
      by_cases hport : port = 0
      · simp only [hport, if_true, decide_true, Bool.not_true, brP_t, brP_f, hs, ht2, ht1] at hK ⊢
        repeat' first | (refine And.intro (by first | first | omega | with_reducible exact i64_x256 _ | with_reducible exact i64_w16 _ _ | with_reducible exact i64_sum _ | (repeat' first | with_reducible exact i64_x256 _ | with_reducible exact i64_w16 _ _ | with_reducible exact i64_sum _ | with_reducible apply And.intro) <;> first | omega | (simp only [I64]; omega) | (simp; omega) | (simp; done) | (simp [I64]; omega) | (with_reducible refine impP_i (fun hg => ?_) <;> (try simp only [Bool.and_eq_true, Bool.or_eq_true, Bool.and_eq_false_iff, Bool.or_eq_false_iff, decide_eq_true_eq, decide_eq_false_iff_not, Bool.not_eq_true', Bool.not_eq_false', Bool.not_true, Bool.not_false, Bool.true_and, Bool.and_true, Bool.false_or, Bool.or_false, beq_iff_eq, beq_eq_false_iff_ne, ne_eq] at hg) <;> (first | omega | with_reducible exact i64_x256 _ | with_reducible exact i64_w16 _ _ | with_reducible exact i64_sum _ | (repeat' first | with_reducible exact i64_x256 _ | with_reducible exact i64_w16 _ _ | with_reducible exact i64_sum _ | with_reducible apply And.intro) <;> first | omega | (simp only [I64]; omega) | (simp; omega) | (simp; done) | (simp [I64]; omega)))) ?_) | (refine brP_d (fun h => ?_) (fun h => ?_)) | (refine brP_nd (fun h => ?_) (fun h => ?_)) | (refine brP_i (fun h => ?_) (fun h => ?_) <;> (try simp only [Bool.and_eq_true, Bool.or_eq_true, Bool.and_eq_false_iff, Bool.or_eq_false_iff, decide_eq_true_eq, decide_eq_false_iff_not, Bool.not_eq_true', Bool.not_eq_false', Bool.not_true, Bool.not_false, Bool.true_and, Bool.and_true, Bool.false_or, Bool.or_false, beq_iff_eq, beq_eq_false_iff_ne, ne_eq] at h))
        all_goals repeat' split at hK
        all_goals first | exact hK | (simp only [hF1, hF2] at hK; exact hK) | (exfalso; omega) | trace_state
      · simp only [hport, if_false, decide_false, Bool.not_false, brP_t, brP_f, hs, ht2, ht1] at hK ⊢
        repeat' first | (refine And.intro (by first | first | omega | with_reducible exact i64_x256 _ | with_reducible exact i64_w16 _ _ | with_reducible exact i64_sum _ | (repeat' first | with_reducible exact i64_x256 _ | with_reducible exact i64_w16 _ _ | with_reducible exact i64_sum _ | with_reducible apply And.intro) <;> first | omega | (simp only [I64]; omega) | (simp; omega) | (simp; done) | (simp [I64]; omega) | (with_reducible refine impP_i (fun hg => ?_) <;> (try simp only [Bool.and_eq_true, Bool.or_eq_true, Bool.and_eq_false_iff, Bool.or_eq_false_iff, decide_eq_true_eq, decide_eq_false_iff_not, Bool.not_eq_true', Bool.not_eq_false', Bool.not_true, Bool.not_false, Bool.true_and, Bool.and_true, Bool.false_or, Bool.or_false, beq_iff_eq, beq_eq_false_iff_ne, ne_eq] at hg) <;> (first | omega | with_reducible exact i64_x256 _ | with_reducible exact i64_w16 _ _ | with_reducible exact i64_sum _ | (repeat' first | with_reducible exact i64_x256 _ | with_reducible exact i64_w16 _ _ | with_reducible exact i64_sum _ | with_reducible apply And.intro) <;> first | omega | (simp only [I64]; omega) | (simp; omega) | (simp; done) | (simp [I64]; omega)))) ?_) | (refine brP_d (fun h => ?_) (fun h => ?_)) | (refine brP_nd (fun h => ?_) (fun h => ?_)) | (refine brP_i (fun h => ?_) (fun h => ?_) <;> (try simp only [Bool.and_eq_true, Bool.or_eq_true, Bool.and_eq_false_iff, Bool.or_eq_false_iff, decide_eq_true_eq, decide_eq_false_iff_not, Bool.not_eq_true', Bool.not_eq_false', Bool.not_true, Bool.not_false, Bool.true_and, Bool.and_true, Bool.false_or, Bool.or_false, beq_iff_eq, beq_eq_false_iff_ne, ne_eq] at h))
        all_goals repeat' split at hK
        all_goals first | exact hK | (simp only [hF1, hF2] at hK; exact hK) | (exfalso; omega) | trace_state
    · have hpf : (p = 17) = False := eq_false hp
      have hs : ∀ u v x y : UInt8, ((putB b 0 [u, v]).set 16 x).set 17 y = putB (putB b 0 [u, v]) 16 [x, y] := fun u v x y => putB_set (by rw [hbl]; omega)
      have ht2 : ∀ u v x y : UInt8, List.take b.length (putB (putB b 0 [u, v]) 16 [x, y]) = putB (putB b 0 [u, v]) 16 [x, y] := fun u v x y => List.take_of_length_le (by rw [putB_len (by rw [hbl]; omega), hbl]; omega)
      have hc1 := chg_bd (w16 (b.getD 16 0) (b.getD 17 0)) was now (w16_bd _ _)
      unfold rwTurned rwNew rwOld sumAt rwFresh twoAt at hK
      simp only [hpf, if_true, if_false, true_and, false_and, two, Nat.reduceAdd] at hK
      simp only [hpf, decide_true, decide_false, Bool.true_and, Bool.false_and, brP_t, brP_f]
      by_cases hport : port = 0
      · simp only [hport, if_true, decide_true, Bool.not_true, brP_t, brP_f, hs, ht2, ht1] at hK ⊢
        repeat' first | (refine And.intro (by first | first | omega | with_reducible exact i64_x256 _ | with_reducible exact i64_w16 _ _ | with_reducible exact i64_sum _ | (repeat' first | with_reducible exact i64_x256 _ | with_reducible exact i64_w16 _ _ | with_reducible exact i64_sum _ | with_reducible apply And.intro) <;> first | omega | (simp only [I64]; omega) | (simp; omega) | (simp; done) | (simp [I64]; omega) | (with_reducible refine impP_i (fun hg => ?_) <;> (try simp only [Bool.and_eq_true, Bool.or_eq_true, Bool.and_eq_false_iff, Bool.or_eq_false_iff, decide_eq_true_eq, decide_eq_false_iff_not, Bool.not_eq_true', Bool.not_eq_false', Bool.not_true, Bool.not_false, Bool.true_and, Bool.and_true, Bool.false_or, Bool.or_false, beq_iff_eq, beq_eq_false_iff_ne, ne_eq] at hg) <;> (first | omega | with_reducible exact i64_x256 _ | with_reducible exact i64_w16 _ _ | with_reducible exact i64_sum _ | (repeat' first | with_reducible exact i64_x256 _ | with_reducible exact i64_w16 _ _ | with_reducible exact i64_sum _ | with_reducible apply And.intro) <;> first | omega | (simp only [I64]; omega) | (simp; omega) | (simp; done) | (simp [I64]; omega)))) ?_) | (refine brP_d (fun h => ?_) (fun h => ?_)) | (refine brP_nd (fun h => ?_) (fun h => ?_)) | (refine brP_i (fun h => ?_) (fun h => ?_) <;> (try simp only [Bool.and_eq_true, Bool.or_eq_true, Bool.and_eq_false_iff, Bool.or_eq_false_iff, decide_eq_true_eq, decide_eq_false_iff_not, Bool.not_eq_true', Bool.not_eq_false', Bool.not_true, Bool.not_false, Bool.true_and, Bool.and_true, Bool.false_or, Bool.or_false, beq_iff_eq, beq_eq_false_iff_ne, ne_eq] at h))
        all_goals repeat' split at hK
        all_goals first | exact hK | (simp only [hF1, hF2] at hK; exact hK) | (exfalso; omega) | trace_state
      · simp only [hport, if_false, decide_false, Bool.not_false, brP_t, brP_f, hs, ht2, ht1] at hK ⊢
        repeat' first | (refine And.intro (by first | first | omega | with_reducible exact i64_x256 _ | with_reducible exact i64_w16 _ _ | with_reducible exact i64_sum _ | (repeat' first | with_reducible exact i64_x256 _ | with_reducible exact i64_w16 _ _ | with_reducible exact i64_sum _ | with_reducible apply And.intro) <;> first | omega | (simp only [I64]; omega) | (simp; omega) | (simp; done) | (simp [I64]; omega) | (with_reducible refine impP_i (fun hg => ?_) <;> (try simp only [Bool.and_eq_true, Bool.or_eq_true, Bool.and_eq_false_iff, Bool.or_eq_false_iff, decide_eq_true_eq, decide_eq_false_iff_not, Bool.not_eq_true', Bool.not_eq_false', Bool.not_true, Bool.not_false, Bool.true_and, Bool.and_true, Bool.false_or, Bool.or_false, beq_iff_eq, beq_eq_false_iff_ne, ne_eq] at hg) <;> (first | omega | with_reducible exact i64_x256 _ | with_reducible exact i64_w16 _ _ | with_reducible exact i64_sum _ | (repeat' first | with_reducible exact i64_x256 _ | with_reducible exact i64_w16 _ _ | with_reducible exact i64_sum _ | with_reducible apply And.intro) <;> first | omega | (simp only [I64]; omega) | (simp; omega) | (simp; done) | (simp [I64]; omega)))) ?_) | (refine brP_d (fun h => ?_) (fun h => ?_)) | (refine brP_nd (fun h => ?_) (fun h => ?_)) | (refine brP_i (fun h => ?_) (fun h => ?_) <;> (try simp only [Bool.and_eq_true, Bool.or_eq_true, Bool.and_eq_false_iff, Bool.or_eq_false_iff, decide_eq_true_eq, decide_eq_false_iff_not, Bool.not_eq_true', Bool.not_eq_false', Bool.not_true, Bool.not_false, Bool.true_and, Bool.and_true, Bool.false_or, Bool.or_false, beq_iff_eq, beq_eq_false_iff_ne, ne_eq] at h))
        all_goals repeat' split at hK
        all_goals first | exact hK | (simp only [hF1, hF2] at hK; exact hK) | (exfalso; omega) | trace_state
  · rename_i f t p q b was now port
    obtain ⟨⟨hlen, hb, hwn, hw2, hw16, hp0, hp1⟩, hK⟩ := h
    rw [rewrite_turned_2]
    have hl : (b.length : Int).toNat = b.length := Int.toNat_natCast _
    have hT : List.take (b.length - 2) (List.drop 2 b) = List.drop 2 b := take_all
    have h8 : 2 + 2 ≤ b.length := by omega
    have hbl : ∀ u v, (putB b 2 [u, v]).length = b.length := fun u v => putB_len h8
    have hP : ∀ u v : UInt8, List.take 2 b ++ ([u, v] ++ List.drop 4 b) = putB b 2 [u, v] := fun u v => putB_is b 2 u v
    have hg : ∀ (u v : UInt8) (k : Nat), 2 + 2 ≤ k → (putB b 2 [u, v]).getD k 0 = b.getD k 0 := fun u v k hk => putB_get h8 hk
    have hg6 := fun u v => hg u v 6 (by omega)
    have hg7 := fun u v => hg u v 7 (by omega)
    have hg16 := fun u v => hg u v 16 (by omega)
    have hg17 := fun u v => hg u v 17 (by omega)
    have hc1 := fun s h => chg_bd s was now h
    have hwb := w16_bd (b.getD 6 0) (b.getD 7 0)
    have hwb' := w16_bd (b.getD 16 0) (b.getD 17 0)
    simp only [hl, hT, hP, hbl, hg6, hg7, hg16, hg17, or_u16, List.take_length, List.drop_zero, List.length_set, Nat.sub_zero, getD_drop, Nat.reduceAdd]
    have ht1 : ∀ u v : UInt8, List.take b.length (putB b 2 [u, v]) = putB b 2 [u, v] := fun u v => List.take_of_length_le (by rw [hbl]; omega)
    have hF1 : b8 (65535 / 256) = 255 := by decide +kernel
    have hF2 : b8 65535 = 255 := by decide +kernel
    rcases hlen with ⟨hp, hb8⟩ | ⟨hp, hb20⟩
    · subst hp
      have hs : ∀ u v x y : UInt8, ((putB b 2 [u, v]).set 6 x).set 7 y = putB (putB b 2 [u, v]) 6 [x, y] := fun u v x y => putB_set (by rw [hbl]; omega)
      have ht2 : ∀ u v x y : UInt8, List.take b.length (putB (putB b 2 [u, v]) 6 [x, y]) = putB (putB b 2 [u, v]) 6 [x, y] := fun u v x y => List.take_of_length_le (by rw [putB_len (by rw [hbl]; omega), hbl]; omega)
      have hc1 := chg_bd (w16 (b.getD 6 0) (b.getD 7 0)) was now (w16_bd _ _)
      unfold rwTurned rwNew rwOld sumAt rwFresh twoAt at hK
      simp only [if_true, if_false, true_and, false_and, two, Nat.reduceAdd] at hK
      simp only [decide_true, decide_false, Bool.true_and, Bool.false_and, brP_t, brP_f]
      by_cases hport : port = 0
      · simp only [hport, if_true, decide_true, Bool.not_true, brP_t, brP_f, hs, ht2, ht1] at hK ⊢
        repeat' first | (refine And.intro (by first | first | omega | with_reducible exact i64_x256 _ | with_reducible exact i64_w16 _ _ | with_reducible exact i64_sum _ | (repeat' first | with_reducible exact i64_x256 _ | with_reducible exact i64_w16 _ _ | with_reducible exact i64_sum _ | with_reducible apply And.intro) <;> first | omega | (simp only [I64]; omega) | (simp; omega) | (simp; done) | (simp [I64]; omega) | (with_reducible refine impP_i (fun hg => ?_) <;> (try simp only [Bool.and_eq_true, Bool.or_eq_true, Bool.and_eq_false_iff, Bool.or_eq_false_iff, decide_eq_true_eq, decide_eq_false_iff_not, Bool.not_eq_true', Bool.not_eq_false', Bool.not_true, Bool.not_false, Bool.true_and, Bool.and_true, Bool.false_or, Bool.or_false, beq_iff_eq, beq_eq_false_iff_ne, ne_eq] at hg) <;> (first | omega | with_reducible exact i64_x256 _ | with_reducible exact i64_w16 _ _ | with_reducible exact i64_sum _ | (repeat' first | with_reducible exact i64_x256 _ | with_reducible exact i64_w16 _ _ | with_reducible exact i64_sum _ | with_reducible apply And.intro) <;> first | omega | (simp only [I64]; omega) | (simp; omega) | (simp; done) | (simp [I64]; omega)))) ?_) | (refine brP_d (fun h => ?_) (fun h => ?_)) | (refine brP_nd (fun h => ?_) (fun h => ?_)) | (refine brP_i (fun h => ?_) (fun h => ?_) <;> (try simp only [Bool.and_eq_true, Bool.or_eq_true, Bool.and_eq_false_iff, Bool.or_eq_false_iff, decide_eq_true_eq, decide_eq_false_iff_not, Bool.not_eq_true', Bool.not_eq_false', Bool.not_true, Bool.not_false, Bool.true_and, Bool.and_true, Bool.false_or, Bool.or_false, beq_iff_eq, beq_eq_false_iff_ne, ne_eq] at h))
        all_goals repeat' split at hK
        all_goals first | exact hK | (simp only [hF1, hF2] at hK; exact hK) | (exfalso; omega) | trace_state
      · simp only [hport, if_false, decide_false, Bool.not_false, brP_t, brP_f, hs, ht2, ht1] at hK ⊢
        repeat' first | (refine And.intro (by first | first | omega | with_reducible exact i64_x256 _ | with_reducible exact i64_w16 _ _ | with_reducible exact i64_sum _ | (repeat' first | with_reducible exact i64_x256 _ | with_reducible exact i64_w16 _ _ | with_reducible exact i64_sum _ | with_reducible apply And.intro) <;> first | omega | (simp only [I64]; omega) | (simp; omega) | (simp; done) | (simp [I64]; omega) | (with_reducible refine impP_i (fun hg => ?_) <;> (try simp only [Bool.and_eq_true, Bool.or_eq_true, Bool.and_eq_false_iff, Bool.or_eq_false_iff, decide_eq_true_eq, decide_eq_false_iff_not, Bool.not_eq_true', Bool.not_eq_false', Bool.not_true, Bool.not_false, Bool.true_and, Bool.and_true, Bool.false_or, Bool.or_false, beq_iff_eq, beq_eq_false_iff_ne, ne_eq] at hg) <;> (first | omega | with_reducible exact i64_x256 _ | with_reducible exact i64_w16 _ _ | with_reducible exact i64_sum _ | (repeat' first | with_reducible exact i64_x256 _ | with_reducible exact i64_w16 _ _ | with_reducible exact i64_sum _ | with_reducible apply And.intro) <;> first | omega | (simp only [I64]; omega) | (simp; omega) | (simp; done) | (simp [I64]; omega)))) ?_) | (refine brP_d (fun h => ?_) (fun h => ?_)) | (refine brP_nd (fun h => ?_) (fun h => ?_)) | (refine brP_i (fun h => ?_) (fun h => ?_) <;> (try simp only [Bool.and_eq_true, Bool.or_eq_true, Bool.and_eq_false_iff, Bool.or_eq_false_iff, decide_eq_true_eq, decide_eq_false_iff_not, Bool.not_eq_true', Bool.not_eq_false', Bool.not_true, Bool.not_false, Bool.true_and, Bool.and_true, Bool.false_or, Bool.or_false, beq_iff_eq, beq_eq_false_iff_ne, ne_eq] at h))
        all_goals repeat' split at hK
        all_goals first | exact hK | (simp only [hF1, hF2] at hK; exact hK) | (exfalso; omega) | trace_state
    · have hpf : (p = 17) = False := eq_false hp
      have hs : ∀ u v x y : UInt8, ((putB b 2 [u, v]).set 16 x).set 17 y = putB (putB b 2 [u, v]) 16 [x, y] := fun u v x y => putB_set (by rw [hbl]; omega)
      have ht2 : ∀ u v x y : UInt8, List.take b.length (putB (putB b 2 [u, v]) 16 [x, y]) = putB (putB b 2 [u, v]) 16 [x, y] := fun u v x y => List.take_of_length_le (by rw [putB_len (by rw [hbl]; omega), hbl]; omega)
      have hc1 := chg_bd (w16 (b.getD 16 0) (b.getD 17 0)) was now (w16_bd _ _)
      unfold rwTurned rwNew rwOld sumAt rwFresh twoAt at hK
      simp only [hpf, if_true, if_false, true_and, false_and, two, Nat.reduceAdd] at hK
      simp only [hpf, decide_true, decide_false, Bool.true_and, Bool.false_and, brP_t, brP_f]
      by_cases hport : port = 0
      · simp only [hport, if_true, decide_true, Bool.not_true, brP_t, brP_f, hs, ht2, ht1] at hK ⊢
        repeat' first | (refine And.intro (by first | first | omega | with_reducible exact i64_x256 _ | with_reducible exact i64_w16 _ _ | with_reducible exact i64_sum _ | (repeat' first | with_reducible exact i64_x256 _ | with_reducible exact i64_w16 _ _ | with_reducible exact i64_sum _ | with_reducible apply And.intro) <;> first | omega | (simp only [I64]; omega) | (simp; omega) | (simp; done) | (simp [I64]; omega) | (with_reducible refine impP_i (fun hg => ?_) <;> (try simp only [Bool.and_eq_true, Bool.or_eq_true, Bool.and_eq_false_iff, Bool.or_eq_false_iff, decide_eq_true_eq, decide_eq_false_iff_not, Bool.not_eq_true', Bool.not_eq_false', Bool.not_true, Bool.not_false, Bool.true_and, Bool.and_true, Bool.false_or, Bool.or_false, beq_iff_eq, beq_eq_false_iff_ne, ne_eq] at hg) <;> (first | omega | with_reducible exact i64_x256 _ | with_reducible exact i64_w16 _ _ | with_reducible exact i64_sum _ | (repeat' first | with_reducible exact i64_x256 _ | with_reducible exact i64_w16 _ _ | with_reducible exact i64_sum _ | with_reducible apply And.intro) <;> first | omega | (simp only [I64]; omega) | (simp; omega) | (simp; done) | (simp [I64]; omega)))) ?_) | (refine brP_d (fun h => ?_) (fun h => ?_)) | (refine brP_nd (fun h => ?_) (fun h => ?_)) | (refine brP_i (fun h => ?_) (fun h => ?_) <;> (try simp only [Bool.and_eq_true, Bool.or_eq_true, Bool.and_eq_false_iff, Bool.or_eq_false_iff, decide_eq_true_eq, decide_eq_false_iff_not, Bool.not_eq_true', Bool.not_eq_false', Bool.not_true, Bool.not_false, Bool.true_and, Bool.and_true, Bool.false_or, Bool.or_false, beq_iff_eq, beq_eq_false_iff_ne, ne_eq] at h))
        all_goals repeat' split at hK
        all_goals first | exact hK | (simp only [hF1, hF2] at hK; exact hK) | (exfalso; omega) | trace_state
      · simp only [hport, if_false, decide_false, Bool.not_false, brP_t, brP_f, hs, ht2, ht1] at hK ⊢
        repeat' first | (refine And.intro (by first | first | omega | with_reducible exact i64_x256 _ | with_reducible exact i64_w16 _ _ | with_reducible exact i64_sum _ | (repeat' first | with_reducible exact i64_x256 _ | with_reducible exact i64_w16 _ _ | with_reducible exact i64_sum _ | with_reducible apply And.intro) <;> first | omega | (simp only [I64]; omega) | (simp; omega) | (simp; done) | (simp [I64]; omega) | (with_reducible refine impP_i (fun hg => ?_) <;> (try simp only [Bool.and_eq_true, Bool.or_eq_true, Bool.and_eq_false_iff, Bool.or_eq_false_iff, decide_eq_true_eq, decide_eq_false_iff_not, Bool.not_eq_true', Bool.not_eq_false', Bool.not_true, Bool.not_false, Bool.true_and, Bool.and_true, Bool.false_or, Bool.or_false, beq_iff_eq, beq_eq_false_iff_ne, ne_eq] at hg) <;> (first | omega | with_reducible exact i64_x256 _ | with_reducible exact i64_w16 _ _ | with_reducible exact i64_sum _ | (repeat' first | with_reducible exact i64_x256 _ | with_reducible exact i64_w16 _ _ | with_reducible exact i64_sum _ | with_reducible apply And.intro) <;> first | omega | (simp only [I64]; omega) | (simp; omega) | (simp; done) | (simp [I64]; omega)))) ?_) | (refine brP_d (fun h => ?_) (fun h => ?_)) | (refine brP_nd (fun h => ?_) (fun h => ?_)) | (refine brP_i (fun h => ?_) (fun h => ?_) <;> (try simp only [Bool.and_eq_true, Bool.or_eq_true, Bool.and_eq_false_iff, Bool.or_eq_false_iff, decide_eq_true_eq, decide_eq_false_iff_not, Bool.not_eq_true', Bool.not_eq_false', Bool.not_true, Bool.not_false, Bool.true_and, Bool.and_true, Bool.false_or, Bool.or_false, beq_iff_eq, beq_eq_false_iff_ne, ne_eq] at h))
        all_goals repeat' split at hK
        all_goals first | exact hK | (simp only [hF1, hF2] at hK; exact hK) | (exfalso; omega) | trace_state
  · exact h.elim
def Trw11 : Specs := ext Trw10 41 (turnRow)
theorem Trw11_sound : TSound Try.prog Trw11 := ext_sound Trw10_sound (row_of Trw10_sound mixed Try.func41 (by decide +kernel) rewrite_turned_p)
def ann_outriderref19_changed : Nat → List Nat × Nat × List (List Nat)
  | 10 => ([], 11, [[], [], [0, 1], [0, 1, 2], [0, 1, 2, 3], [], [], [6], [5, 6, 7], [5, 6, 7, 8], [0, 1, 2, 3, 4, 5, 6, 7, 8, 9]])
  | 2000011 => ([], 13, [[], [0], [0, 1], [0, 1, 2], [0, 1, 2, 3], [0, 1, 2, 3, 4], [0, 1, 2, 3, 4, 5], [0, 1, 2, 3, 4, 5, 6], [0, 1, 2, 3, 4, 5, 6, 7], [0, 1, 2, 3, 4, 5, 6, 7, 8], [0, 1, 2, 3, 4, 5, 6, 7, 8, 9], [0, 1, 2, 3, 4, 5, 6, 7, 8, 9, 10]])
  | 2000015 => ([], 8, [[], [0], [0, 1], [0, 1, 2], [0, 1, 2, 3], [0, 1, 2, 3, 4], [0, 1, 2, 3, 4, 5]])
  | _ => ([], 0, [])
set_option maxRecDepth 100000 in
theorem ref19_changed_0 (f t : List UInt8) (p q : Int) (b was now : List UInt8) (port : Int) (K : AVal → Hp → Prop) : fnP Try.prog Trw11 ann_outriderref19_changed Try.f34 [.agg [.str f, .str t, .int .i64 p, .int .i64 q, .str b], .int .i64 0, .str was, .str now, .int .i64 port] [] K = (
 brP (decide (p = (17 : Int)))
 (I64 (2 : Int) ∧
 ((0 : Int) ≤ (0 : Int) ∧ (0 : Int) ≤ (2 : Int) ∧ (2 : Int) ≤ (↑(List.length b) : Int)) ∧
 brP (decide ((0 : Int) < port))
 (((256 : Int) ≠ (0 : Int) ∧ I64 (Int.tdiv port (256 : Int))) ∧
 (256 : Int) ≠ (0 : Int) ∧
 ((0 : Int) ≤ (0 : Int) ∧ (0 : Int) ≤ (↑(List.length b) : Int)) ∧
 (2 : Nat) ≤ (4611686018427387904 : Nat) ∧
 I64 (2 : Int) ∧
 ((0 : Int) ≤ (2 : Int) ∧ (2 : Int) ≤ (↑(List.length b) : Int)) ∧
 (2 : Nat) + List.length (List.drop (2 : Nat) b) ≤ (4611686018427387904 : Nat) ∧
 ((0 : Int) ≤ (6 : Int) ∧ (6 : Int) < (↑(List.length b) : Int)) ∧
 I64 ((↑(UInt8.toNat (List.getD b (6 : Nat) (0 : UInt8))) : Int) * (256 : Int)) ∧
 I64 (7 : Int) ∧
 ((0 : Int) ≤ (7 : Int) ∧ (7 : Int) < (↑(List.length b) : Int)) ∧
 I64
 ((↑(UInt8.toNat (List.getD b (6 : Nat) (0 : UInt8))) : Int) * (256 : Int) +
 (↑(UInt8.toNat (List.getD b (7 : Nat) (0 : UInt8))) : Int)) ∧
 brP
 (decide (p = (17 : Int)) &&
 decide
 ((↑(UInt8.toNat (List.getD b (6 : Nat) (0 : UInt8))) : Int) * (256 : Int) +
 (↑(UInt8.toNat (List.getD b (7 : Nat) (0 : UInt8))) : Int) =
 (0 : Int)) &&
 decide ((↑(List.length was) : Int) = (4 : Int)))
 (K
 (AVal.str
 (List.take (0 : Nat) b ++
 List.take (2 : Nat)
 (List.drop (0 : Nat) [b8 (Int.tdiv port (256 : Int)), b8 (Int.tmod port (256 : Int))]) ++
 List.drop (2 : Nat) b))
 [])
 (List.length was ≤ (140737488355328 : Nat) ∧
 List.length now ≤ (140737488355328 : Nat) ∧
 ((0 : Int) ≤
 (↑(UInt8.toNat (List.getD b (6 : Nat) (0 : UInt8))) : Int) * (256 : Int) +
 (↑(UInt8.toNat (List.getD b (7 : Nat) (0 : UInt8))) : Int) ∧
 (↑(UInt8.toNat (List.getD b (6 : Nat) (0 : UInt8))) : Int) * (256 : Int) +
 (↑(UInt8.toNat (List.getD b (7 : Nat) (0 : UInt8))) : Int) ≤
 (65535 : Int) ∧
 List.length (List.take (List.length was) (List.drop (0 : Nat) was)) =
 List.length (List.take (List.length now) (List.drop (0 : Nat) now)) ∧
 List.length (List.take (List.length was) (List.drop (0 : Nat) was)) % (2 : Nat) = (0 : Nat)) ∧
 List.length (List.drop (0 : Nat) (List.take (2 : Nat) b)) ≤ (140737488355328 : Nat) ∧
 (2 : Nat) ≤ (140737488355328 : Nat) ∧
 ((0 : Int) ≤
 chg
 ((↑(UInt8.toNat (List.getD b (6 : Nat) (0 : UInt8))) : Int) * (256 : Int) +
 (↑(UInt8.toNat (List.getD b (7 : Nat) (0 : UInt8))) : Int))
 (List.take (List.length was) (List.drop (0 : Nat) was))
 (List.take (List.length now) (List.drop (0 : Nat) now)) ∧
 chg
 ((↑(UInt8.toNat (List.getD b (6 : Nat) (0 : UInt8))) : Int) * (256 : Int) +
 (↑(UInt8.toNat (List.getD b (7 : Nat) (0 : UInt8))) : Int))
 (List.take (List.length was) (List.drop (0 : Nat) was))
 (List.take (List.length now) (List.drop (0 : Nat) now)) ≤
 (65535 : Int) ∧
 List.length
 (List.take (List.length (List.drop (0 : Nat) (List.take (2 : Nat) b)))
 (List.drop (0 : Nat) (List.drop (0 : Nat) (List.take (2 : Nat) b)))) =
 (2 : Nat) ∧
 List.length
 (List.take (List.length (List.drop (0 : Nat) (List.take (2 : Nat) b)))
 (List.drop (0 : Nat) (List.drop (0 : Nat) (List.take (2 : Nat) b)))) %
 (2 : Nat) =
 (0 : Nat)) ∧
 brP
 (decide (p = (17 : Int)) &&
 decide
 (chg
 (chg
 ((↑(UInt8.toNat (List.getD b (6 : Nat) (0 : UInt8))) : Int) * (256 : Int) +
 (↑(UInt8.toNat (List.getD b (7 : Nat) (0 : UInt8))) : Int))
 (List.take (List.length was) (List.drop (0 : Nat) was))
 (List.take (List.length now) (List.drop (0 : Nat) now)))
 (List.take (List.length (List.drop (0 : Nat) (List.take (2 : Nat) b)))
 (List.drop (0 : Nat) (List.drop (0 : Nat) (List.take (2 : Nat) b))))
 (List.take (2 : Nat)
 (List.drop (0 : Nat)
 (List.take (2 : Nat)
 (List.drop (0 : Nat)
 [b8 (Int.tdiv port (256 : Int)), b8 (Int.tmod port (256 : Int))])))) =
 (0 : Int)))
 (((256 : Int) ≠ (0 : Int) ∧ I64 (255 : Int)) ∧
 (256 : Int) ≠ (0 : Int) ∧
 ((0 : Int) ≤ (6 : Int) ∧
 (6 : Int) ≤
 (↑(List.length
 (List.take (0 : Nat) b ++
 List.take (2 : Nat)
 (List.drop (0 : Nat)
 [b8 (Int.tdiv port (256 : Int)), b8 (Int.tmod port (256 : Int))]) ++
 List.drop (2 : Nat) b)) :
 Int)) ∧
 List.length
 (List.take (6 : Nat)
 (List.take (0 : Nat) b ++
 List.take (2 : Nat)
 (List.drop (0 : Nat)
 [b8 (Int.tdiv port (256 : Int)), b8 (Int.tmod port (256 : Int))]) ++
 List.drop (2 : Nat) b)) +
 (2 : Nat) ≤
 (4611686018427387904 : Nat) ∧
 I64 (8 : Int) ∧
 ((0 : Int) ≤ (8 : Int) ∧
 (8 : Int) ≤
 (↑(List.length
 (List.take (0 : Nat) b ++
 List.take (2 : Nat)
 (List.drop (0 : Nat)
 [b8 (Int.tdiv port (256 : Int)), b8 (Int.tmod port (256 : Int))]) ++
 List.drop (2 : Nat) b)) :
 Int)) ∧
 List.length
 (List.take (6 : Nat)
 (List.take (0 : Nat) b ++
 List.take (2 : Nat)
 (List.drop (0 : Nat)
 [b8 (Int.tdiv port (256 : Int)), b8 (Int.tmod port (256 : Int))]) ++
 List.drop (2 : Nat) b) ++
 [(255 : UInt8), (255 : UInt8)]) +
 List.length
 (List.drop (8 : Nat)
 (List.take (0 : Nat) b ++
 List.take (2 : Nat)
 (List.drop (0 : Nat)
 [b8 (Int.tdiv port (256 : Int)), b8 (Int.tmod port (256 : Int))]) ++
 List.drop (2 : Nat) b)) ≤
 (4611686018427387904 : Nat) ∧
 K
 (AVal.str
 (List.take (6 : Nat)
 (List.take (0 : Nat) b ++
 List.take (2 : Nat)
 (List.drop (0 : Nat)
 [b8 (Int.tdiv port (256 : Int)), b8 (Int.tmod port (256 : Int))]) ++
 List.drop (2 : Nat) b) ++
 [(255 : UInt8), (255 : UInt8)] ++
 List.drop (8 : Nat)
 (List.take (0 : Nat) b ++
 List.take (2 : Nat)
 (List.drop (0 : Nat)
 [b8 (Int.tdiv port (256 : Int)), b8 (Int.tmod port (256 : Int))]) ++
 List.drop (2 : Nat) b)))
 [])
 (((256 : Int) ≠ (0 : Int) ∧
 I64
 (Int.tdiv
 (chg
 (chg
 ((↑(UInt8.toNat (List.getD b (6 : Nat) (0 : UInt8))) : Int) * (256 : Int) +
 (↑(UInt8.toNat (List.getD b (7 : Nat) (0 : UInt8))) : Int))
 (List.take (List.length was) (List.drop (0 : Nat) was))
 (List.take (List.length now) (List.drop (0 : Nat) now)))
 (List.take (List.length (List.drop (0 : Nat) (List.take (2 : Nat) b)))
 (List.drop (0 : Nat) (List.drop (0 : Nat) (List.take (2 : Nat) b))))
 (List.take (2 : Nat)
 (List.drop (0 : Nat)
 (List.take (2 : Nat)
 (List.drop (0 : Nat)
 [b8 (Int.tdiv port (256 : Int)), b8 (Int.tmod port (256 : Int))])))))
 (256 : Int))) ∧
 (256 : Int) ≠ (0 : Int) ∧
 ((0 : Int) ≤ (6 : Int) ∧
 (6 : Int) ≤
 (↑(List.length
 (List.take (0 : Nat) b ++
 List.take (2 : Nat)
 (List.drop (0 : Nat)
 [b8 (Int.tdiv port (256 : Int)), b8 (Int.tmod port (256 : Int))]) ++
 List.drop (2 : Nat) b)) :
 Int)) ∧
 List.length
 (List.take (6 : Nat)
 (List.take (0 : Nat) b ++
 List.take (2 : Nat)
 (List.drop (0 : Nat)
 [b8 (Int.tdiv port (256 : Int)), b8 (Int.tmod port (256 : Int))]) ++
 List.drop (2 : Nat) b)) +
 (2 : Nat) ≤
 (4611686018427387904 : Nat) ∧
 I64 (8 : Int) ∧
 ((0 : Int) ≤ (8 : Int) ∧
 (8 : Int) ≤
 (↑(List.length
 (List.take (0 : Nat) b ++
 List.take (2 : Nat)
 (List.drop (0 : Nat)
 [b8 (Int.tdiv port (256 : Int)), b8 (Int.tmod port (256 : Int))]) ++
 List.drop (2 : Nat) b)) :
 Int)) ∧
 List.length
 (List.take (6 : Nat)
 (List.take (0 : Nat) b ++
 List.take (2 : Nat)
 (List.drop (0 : Nat)
 [b8 (Int.tdiv port (256 : Int)), b8 (Int.tmod port (256 : Int))]) ++
 List.drop (2 : Nat) b) ++
 List.take (2 : Nat)
 (List.drop (0 : Nat)
 [b8
 (Int.tdiv
 (chg
 (chg
 ((↑(UInt8.toNat (List.getD b (6 : Nat) (0 : UInt8))) : Int) * (256 : Int) +
 (↑(UInt8.toNat (List.getD b (7 : Nat) (0 : UInt8))) : Int))
 (List.take (List.length was) (List.drop (0 : Nat) was))
 (List.take (List.length now) (List.drop (0 : Nat) now)))
 (List.take (List.length (List.drop (0 : Nat) (List.take (2 : Nat) b)))
 (List.drop (0 : Nat) (List.drop (0 : Nat) (List.take (2 : Nat) b))))
 (List.take (2 : Nat)
 (List.drop (0 : Nat)
 (List.take (2 : Nat)
 (List.drop (0 : Nat)
 [b8 (Int.tdiv port (256 : Int)), b8 (Int.tmod port (256 : Int))])))))
 (256 : Int)),
 b8
 (Int.tmod
 (chg
 (chg
 ((↑(UInt8.toNat (List.getD b (6 : Nat) (0 : UInt8))) : Int) * (256 : Int) +
 (↑(UInt8.toNat (List.getD b (7 : Nat) (0 : UInt8))) : Int))
 (List.take (List.length was) (List.drop (0 : Nat) was))
 (List.take (List.length now) (List.drop (0 : Nat) now)))
 (List.take (List.length (List.drop (0 : Nat) (List.take (2 : Nat) b)))
 (List.drop (0 : Nat) (List.drop (0 : Nat) (List.take (2 : Nat) b))))
 (List.take (2 : Nat)
 (List.drop (0 : Nat)
 (List.take (2 : Nat)
 (List.drop (0 : Nat)
 [b8 (Int.tdiv port (256 : Int)), b8 (Int.tmod port (256 : Int))])))))
 (256 : Int))])) +
 List.length
 (List.drop (8 : Nat)
 (List.take (0 : Nat) b ++
 List.take (2 : Nat)
 (List.drop (0 : Nat)
 [b8 (Int.tdiv port (256 : Int)), b8 (Int.tmod port (256 : Int))]) ++
 List.drop (2 : Nat) b)) ≤
 (4611686018427387904 : Nat) ∧
 K
 (AVal.str
 (List.take (6 : Nat)
 (List.take (0 : Nat) b ++
 List.take (2 : Nat)
 (List.drop (0 : Nat)
 [b8 (Int.tdiv port (256 : Int)), b8 (Int.tmod port (256 : Int))]) ++
 List.drop (2 : Nat) b) ++
 List.take (2 : Nat)
 (List.drop (0 : Nat)
 [b8
 (Int.tdiv
 (chg
 (chg
 ((↑(UInt8.toNat (List.getD b (6 : Nat) (0 : UInt8))) : Int) * (256 : Int) +
 (↑(UInt8.toNat (List.getD b (7 : Nat) (0 : UInt8))) : Int))
 (List.take (List.length was) (List.drop (0 : Nat) was))
 (List.take (List.length now) (List.drop (0 : Nat) now)))
 (List.take (List.length (List.drop (0 : Nat) (List.take (2 : Nat) b)))
 (List.drop (0 : Nat) (List.drop (0 : Nat) (List.take (2 : Nat) b))))
 (List.take (2 : Nat)
 (List.drop (0 : Nat)
 (List.take (2 : Nat)
 (List.drop (0 : Nat)
 [b8 (Int.tdiv port (256 : Int)), b8 (Int.tmod port (256 : Int))])))))
 (256 : Int)),
 b8
 (Int.tmod
 (chg
 (chg
 ((↑(UInt8.toNat (List.getD b (6 : Nat) (0 : UInt8))) : Int) * (256 : Int) +
 (↑(UInt8.toNat (List.getD b (7 : Nat) (0 : UInt8))) : Int))
 (List.take (List.length was) (List.drop (0 : Nat) was))
 (List.take (List.length now) (List.drop (0 : Nat) now)))
 (List.take (List.length (List.drop (0 : Nat) (List.take (2 : Nat) b)))
 (List.drop (0 : Nat) (List.drop (0 : Nat) (List.take (2 : Nat) b))))
 (List.take (2 : Nat)
 (List.drop (0 : Nat)
 (List.take (2 : Nat)
 (List.drop (0 : Nat)
 [b8 (Int.tdiv port (256 : Int)), b8 (Int.tmod port (256 : Int))])))))
 (256 : Int))]) ++
 List.drop (8 : Nat)
 (List.take (0 : Nat) b ++
 List.take (2 : Nat)
 (List.drop (0 : Nat)
 [b8 (Int.tdiv port (256 : Int)), b8 (Int.tmod port (256 : Int))]) ++
 List.drop (2 : Nat) b)))
 [])))
 (((0 : Int) ≤ (0 : Int) ∧ (0 : Int) ≤ (↑(List.length b) : Int)) ∧
 (0 : Nat) + List.length (List.drop (0 : Nat) (List.take (2 : Nat) b)) ≤ (4611686018427387904 : Nat) ∧
 I64 (2 : Int) ∧
 ((0 : Int) ≤ (2 : Int) ∧ (2 : Int) ≤ (↑(List.length b) : Int)) ∧
 List.length (List.take (0 : Nat) b ++ List.drop (0 : Nat) (List.take (2 : Nat) b)) +
 List.length (List.drop (2 : Nat) b) ≤
 (4611686018427387904 : Nat) ∧
 ((0 : Int) ≤ (6 : Int) ∧ (6 : Int) < (↑(List.length b) : Int)) ∧
 I64 ((↑(UInt8.toNat (List.getD b (6 : Nat) (0 : UInt8))) : Int) * (256 : Int)) ∧
 I64 (7 : Int) ∧
 ((0 : Int) ≤ (7 : Int) ∧ (7 : Int) < (↑(List.length b) : Int)) ∧
 I64
 ((↑(UInt8.toNat (List.getD b (6 : Nat) (0 : UInt8))) : Int) * (256 : Int) +
 (↑(UInt8.toNat (List.getD b (7 : Nat) (0 : UInt8))) : Int)) ∧
 brP
 (decide (p = (17 : Int)) &&
 decide
 ((↑(UInt8.toNat (List.getD b (6 : Nat) (0 : UInt8))) : Int) * (256 : Int) +
 (↑(UInt8.toNat (List.getD b (7 : Nat) (0 : UInt8))) : Int) =
 (0 : Int)) &&
 decide ((↑(List.length was) : Int) = (4 : Int)))
 (K
 (AVal.str
 (List.take (0 : Nat) b ++ List.drop (0 : Nat) (List.take (2 : Nat) b) ++ List.drop (2 : Nat) b))
 [])
 (List.length was ≤ (140737488355328 : Nat) ∧
 List.length now ≤ (140737488355328 : Nat) ∧
 ((0 : Int) ≤
 (↑(UInt8.toNat (List.getD b (6 : Nat) (0 : UInt8))) : Int) * (256 : Int) +
 (↑(UInt8.toNat (List.getD b (7 : Nat) (0 : UInt8))) : Int) ∧
 (↑(UInt8.toNat (List.getD b (6 : Nat) (0 : UInt8))) : Int) * (256 : Int) +
 (↑(UInt8.toNat (List.getD b (7 : Nat) (0 : UInt8))) : Int) ≤
 (65535 : Int) ∧
 List.length (List.take (List.length was) (List.drop (0 : Nat) was)) =
 List.length (List.take (List.length now) (List.drop (0 : Nat) now)) ∧
 List.length (List.take (List.length was) (List.drop (0 : Nat) was)) % (2 : Nat) = (0 : Nat)) ∧
 List.length (List.drop (0 : Nat) (List.take (2 : Nat) b)) ≤ (140737488355328 : Nat) ∧
 List.length (List.drop (0 : Nat) (List.take (2 : Nat) b)) ≤ (140737488355328 : Nat) ∧
 ((0 : Int) ≤
 chg
 ((↑(UInt8.toNat (List.getD b (6 : Nat) (0 : UInt8))) : Int) * (256 : Int) +
 (↑(UInt8.toNat (List.getD b (7 : Nat) (0 : UInt8))) : Int))
 (List.take (List.length was) (List.drop (0 : Nat) was))
 (List.take (List.length now) (List.drop (0 : Nat) now)) ∧
 chg
 ((↑(UInt8.toNat (List.getD b (6 : Nat) (0 : UInt8))) : Int) * (256 : Int) +
 (↑(UInt8.toNat (List.getD b (7 : Nat) (0 : UInt8))) : Int))
 (List.take (List.length was) (List.drop (0 : Nat) was))
 (List.take (List.length now) (List.drop (0 : Nat) now)) ≤
 (65535 : Int) ∧
 List.length
 (List.take (List.length (List.drop (0 : Nat) (List.take (2 : Nat) b)))
 (List.drop (0 : Nat) (List.drop (0 : Nat) (List.take (2 : Nat) b)))) =
 List.length
 (List.take (List.length (List.drop (0 : Nat) (List.take (2 : Nat) b)))
 (List.drop (0 : Nat) (List.drop (0 : Nat) (List.take (2 : Nat) b)))) ∧
 List.length
 (List.take (List.length (List.drop (0 : Nat) (List.take (2 : Nat) b)))
 (List.drop (0 : Nat) (List.drop (0 : Nat) (List.take (2 : Nat) b)))) %
 (2 : Nat) =
 (0 : Nat)) ∧
 brP
 (decide (p = (17 : Int)) &&
 decide
 (chg
 (chg
 ((↑(UInt8.toNat (List.getD b (6 : Nat) (0 : UInt8))) : Int) * (256 : Int) +
 (↑(UInt8.toNat (List.getD b (7 : Nat) (0 : UInt8))) : Int))
 (List.take (List.length was) (List.drop (0 : Nat) was))
 (List.take (List.length now) (List.drop (0 : Nat) now)))
 (List.take (List.length (List.drop (0 : Nat) (List.take (2 : Nat) b)))
 (List.drop (0 : Nat) (List.drop (0 : Nat) (List.take (2 : Nat) b))))
 (List.take (List.length (List.drop (0 : Nat) (List.take (2 : Nat) b)))
 (List.drop (0 : Nat) (List.drop (0 : Nat) (List.take (2 : Nat) b)))) =
 (0 : Int)))
 (((256 : Int) ≠ (0 : Int) ∧ I64 (255 : Int)) ∧
 (256 : Int) ≠ (0 : Int) ∧
 ((0 : Int) ≤ (6 : Int) ∧
 (6 : Int) ≤
 (↑(List.length
 (List.take (0 : Nat) b ++ List.drop (0 : Nat) (List.take (2 : Nat) b) ++
 List.drop (2 : Nat) b)) :
 Int)) ∧
 List.length
 (List.take (6 : Nat)
 (List.take (0 : Nat) b ++ List.drop (0 : Nat) (List.take (2 : Nat) b) ++
 List.drop (2 : Nat) b)) +
 (2 : Nat) ≤
 (4611686018427387904 : Nat) ∧
 I64 (8 : Int) ∧
 ((0 : Int) ≤ (8 : Int) ∧
 (8 : Int) ≤
 (↑(List.length
 (List.take (0 : Nat) b ++ List.drop (0 : Nat) (List.take (2 : Nat) b) ++
 List.drop (2 : Nat) b)) :
 Int)) ∧
 List.length
 (List.take (6 : Nat)
 (List.take (0 : Nat) b ++ List.drop (0 : Nat) (List.take (2 : Nat) b) ++
 List.drop (2 : Nat) b) ++
 [(255 : UInt8), (255 : UInt8)]) +
 List.length
 (List.drop (8 : Nat)
 (List.take (0 : Nat) b ++ List.drop (0 : Nat) (List.take (2 : Nat) b) ++
 List.drop (2 : Nat) b)) ≤
 (4611686018427387904 : Nat) ∧
 K
 (AVal.str
 (List.take (6 : Nat)
 (List.take (0 : Nat) b ++ List.drop (0 : Nat) (List.take (2 : Nat) b) ++
 List.drop (2 : Nat) b) ++
 [(255 : UInt8), (255 : UInt8)] ++
 List.drop (8 : Nat)
 (List.take (0 : Nat) b ++ List.drop (0 : Nat) (List.take (2 : Nat) b) ++
 List.drop (2 : Nat) b)))
 [])
 (((256 : Int) ≠ (0 : Int) ∧
 I64
 (Int.tdiv
 (chg
 (chg
 ((↑(UInt8.toNat (List.getD b (6 : Nat) (0 : UInt8))) : Int) * (256 : Int) +
 (↑(UInt8.toNat (List.getD b (7 : Nat) (0 : UInt8))) : Int))
 (List.take (List.length was) (List.drop (0 : Nat) was))
 (List.take (List.length now) (List.drop (0 : Nat) now)))
 (List.take (List.length (List.drop (0 : Nat) (List.take (2 : Nat) b)))
 (List.drop (0 : Nat) (List.drop (0 : Nat) (List.take (2 : Nat) b))))
 (List.take (List.length (List.drop (0 : Nat) (List.take (2 : Nat) b)))
 (List.drop (0 : Nat) (List.drop (0 : Nat) (List.take (2 : Nat) b)))))
 (256 : Int))) ∧
 (256 : Int) ≠ (0 : Int) ∧
 ((0 : Int) ≤ (6 : Int) ∧
 (6 : Int) ≤
 (↑(List.length
 (List.take (0 : Nat) b ++ List.drop (0 : Nat) (List.take (2 : Nat) b) ++
 List.drop (2 : Nat) b)) :
 Int)) ∧
 List.length
 (List.take (6 : Nat)
 (List.take (0 : Nat) b ++ List.drop (0 : Nat) (List.take (2 : Nat) b) ++
 List.drop (2 : Nat) b)) +
 (2 : Nat) ≤
 (4611686018427387904 : Nat) ∧
 I64 (8 : Int) ∧
 ((0 : Int) ≤ (8 : Int) ∧
 (8 : Int) ≤
 (↑(List.length
 (List.take (0 : Nat) b ++ List.drop (0 : Nat) (List.take (2 : Nat) b) ++
 List.drop (2 : Nat) b)) :
 Int)) ∧
 List.length
 (List.take (6 : Nat)
 (List.take (0 : Nat) b ++ List.drop (0 : Nat) (List.take (2 : Nat) b) ++
 List.drop (2 : Nat) b) ++
 List.take (2 : Nat)
 (List.drop (0 : Nat)
 [b8
 (Int.tdiv
 (chg
 (chg
 ((↑(UInt8.toNat (List.getD b (6 : Nat) (0 : UInt8))) : Int) * (256 : Int) +
 (↑(UInt8.toNat (List.getD b (7 : Nat) (0 : UInt8))) : Int))
 (List.take (List.length was) (List.drop (0 : Nat) was))
 (List.take (List.length now) (List.drop (0 : Nat) now)))
 (List.take (List.length (List.drop (0 : Nat) (List.take (2 : Nat) b)))
 (List.drop (0 : Nat) (List.drop (0 : Nat) (List.take (2 : Nat) b))))
 (List.take (List.length (List.drop (0 : Nat) (List.take (2 : Nat) b)))
 (List.drop (0 : Nat) (List.drop (0 : Nat) (List.take (2 : Nat) b)))))
 (256 : Int)),
 b8
 (Int.tmod
 (chg
 (chg
 ((↑(UInt8.toNat (List.getD b (6 : Nat) (0 : UInt8))) : Int) * (256 : Int) +
 (↑(UInt8.toNat (List.getD b (7 : Nat) (0 : UInt8))) : Int))
 (List.take (List.length was) (List.drop (0 : Nat) was))
 (List.take (List.length now) (List.drop (0 : Nat) now)))
 (List.take (List.length (List.drop (0 : Nat) (List.take (2 : Nat) b)))
 (List.drop (0 : Nat) (List.drop (0 : Nat) (List.take (2 : Nat) b))))
 (List.take (List.length (List.drop (0 : Nat) (List.take (2 : Nat) b)))
 (List.drop (0 : Nat) (List.drop (0 : Nat) (List.take (2 : Nat) b)))))
 (256 : Int))])) +
 List.length
 (List.drop (8 : Nat)
 (List.take (0 : Nat) b ++ List.drop (0 : Nat) (List.take (2 : Nat) b) ++
 List.drop (2 : Nat) b)) ≤
 (4611686018427387904 : Nat) ∧
 K
 (AVal.str
 (List.take (6 : Nat)
 (List.take (0 : Nat) b ++ List.drop (0 : Nat) (List.take (2 : Nat) b) ++
 List.drop (2 : Nat) b) ++
 List.take (2 : Nat)
 (List.drop (0 : Nat)
 [b8
 (Int.tdiv
 (chg
 (chg
 ((↑(UInt8.toNat (List.getD b (6 : Nat) (0 : UInt8))) : Int) * (256 : Int) +
 (↑(UInt8.toNat (List.getD b (7 : Nat) (0 : UInt8))) : Int))
 (List.take (List.length was) (List.drop (0 : Nat) was))
 (List.take (List.length now) (List.drop (0 : Nat) now)))
 (List.take (List.length (List.drop (0 : Nat) (List.take (2 : Nat) b)))
 (List.drop (0 : Nat) (List.drop (0 : Nat) (List.take (2 : Nat) b))))
 (List.take (List.length (List.drop (0 : Nat) (List.take (2 : Nat) b)))
 (List.drop (0 : Nat) (List.drop (0 : Nat) (List.take (2 : Nat) b)))))
 (256 : Int)),
 b8
 (Int.tmod
 (chg
 (chg
 ((↑(UInt8.toNat (List.getD b (6 : Nat) (0 : UInt8))) : Int) * (256 : Int) +
 (↑(UInt8.toNat (List.getD b (7 : Nat) (0 : UInt8))) : Int))
 (List.take (List.length was) (List.drop (0 : Nat) was))
 (List.take (List.length now) (List.drop (0 : Nat) now)))
 (List.take (List.length (List.drop (0 : Nat) (List.take (2 : Nat) b)))
 (List.drop (0 : Nat) (List.drop (0 : Nat) (List.take (2 : Nat) b))))
 (List.take (List.length (List.drop (0 : Nat) (List.take (2 : Nat) b)))
 (List.drop (0 : Nat) (List.drop (0 : Nat) (List.take (2 : Nat) b)))))
 (256 : Int))]) ++
 List.drop (8 : Nat)
 (List.take (0 : Nat) b ++ List.drop (0 : Nat) (List.take (2 : Nat) b) ++
 List.drop (2 : Nat) b)))
 []))))
 (I64 (2 : Int) ∧
 ((0 : Int) ≤ (0 : Int) ∧ (0 : Int) ≤ (2 : Int) ∧ (2 : Int) ≤ (↑(List.length b) : Int)) ∧
 brP (decide ((0 : Int) < port))
 (((256 : Int) ≠ (0 : Int) ∧ I64 (Int.tdiv port (256 : Int))) ∧
 (256 : Int) ≠ (0 : Int) ∧
 ((0 : Int) ≤ (0 : Int) ∧ (0 : Int) ≤ (↑(List.length b) : Int)) ∧
 (2 : Nat) ≤ (4611686018427387904 : Nat) ∧
 I64 (2 : Int) ∧
 ((0 : Int) ≤ (2 : Int) ∧ (2 : Int) ≤ (↑(List.length b) : Int)) ∧
 (2 : Nat) + List.length (List.drop (2 : Nat) b) ≤ (4611686018427387904 : Nat) ∧
 ((0 : Int) ≤ (16 : Int) ∧ (16 : Int) < (↑(List.length b) : Int)) ∧
 I64 ((↑(UInt8.toNat (List.getD b (16 : Nat) (0 : UInt8))) : Int) * (256 : Int)) ∧
 I64 (17 : Int) ∧
 ((0 : Int) ≤ (17 : Int) ∧ (17 : Int) < (↑(List.length b) : Int)) ∧
 I64
 ((↑(UInt8.toNat (List.getD b (16 : Nat) (0 : UInt8))) : Int) * (256 : Int) +
 (↑(UInt8.toNat (List.getD b (17 : Nat) (0 : UInt8))) : Int)) ∧
 brP
 (decide (p = (17 : Int)) &&
 decide
 ((↑(UInt8.toNat (List.getD b (16 : Nat) (0 : UInt8))) : Int) * (256 : Int) +
 (↑(UInt8.toNat (List.getD b (17 : Nat) (0 : UInt8))) : Int) =
 (0 : Int)) &&
 decide ((↑(List.length was) : Int) = (4 : Int)))
 (K
 (AVal.str
 (List.take (0 : Nat) b ++
 List.take (2 : Nat)
 (List.drop (0 : Nat) [b8 (Int.tdiv port (256 : Int)), b8 (Int.tmod port (256 : Int))]) ++
 List.drop (2 : Nat) b))
 [])
 (List.length was ≤ (140737488355328 : Nat) ∧
 List.length now ≤ (140737488355328 : Nat) ∧
 ((0 : Int) ≤
 (↑(UInt8.toNat (List.getD b (16 : Nat) (0 : UInt8))) : Int) * (256 : Int) +
 (↑(UInt8.toNat (List.getD b (17 : Nat) (0 : UInt8))) : Int) ∧
 (↑(UInt8.toNat (List.getD b (16 : Nat) (0 : UInt8))) : Int) * (256 : Int) +
 (↑(UInt8.toNat (List.getD b (17 : Nat) (0 : UInt8))) : Int) ≤
 (65535 : Int) ∧
 List.length (List.take (List.length was) (List.drop (0 : Nat) was)) =
 List.length (List.take (List.length now) (List.drop (0 : Nat) now)) ∧
 List.length (List.take (List.length was) (List.drop (0 : Nat) was)) % (2 : Nat) = (0 : Nat)) ∧
 List.length (List.drop (0 : Nat) (List.take (2 : Nat) b)) ≤ (140737488355328 : Nat) ∧
 (2 : Nat) ≤ (140737488355328 : Nat) ∧
 ((0 : Int) ≤
 chg
 ((↑(UInt8.toNat (List.getD b (16 : Nat) (0 : UInt8))) : Int) * (256 : Int) +
 (↑(UInt8.toNat (List.getD b (17 : Nat) (0 : UInt8))) : Int))
 (List.take (List.length was) (List.drop (0 : Nat) was))
 (List.take (List.length now) (List.drop (0 : Nat) now)) ∧
 chg
 ((↑(UInt8.toNat (List.getD b (16 : Nat) (0 : UInt8))) : Int) * (256 : Int) +
 (↑(UInt8.toNat (List.getD b (17 : Nat) (0 : UInt8))) : Int))
 (List.take (List.length was) (List.drop (0 : Nat) was))
 (List.take (List.length now) (List.drop (0 : Nat) now)) ≤
 (65535 : Int) ∧
 List.length
 (List.take (List.length (List.drop (0 : Nat) (List.take (2 : Nat) b)))
 (List.drop (0 : Nat) (List.drop (0 : Nat) (List.take (2 : Nat) b)))) =
 (2 : Nat) ∧
 List.length
 (List.take (List.length (List.drop (0 : Nat) (List.take (2 : Nat) b)))
 (List.drop (0 : Nat) (List.drop (0 : Nat) (List.take (2 : Nat) b)))) %
 (2 : Nat) =
 (0 : Nat)) ∧
 brP
 (decide (p = (17 : Int)) &&
 decide
 (chg
 (chg
 ((↑(UInt8.toNat (List.getD b (16 : Nat) (0 : UInt8))) : Int) * (256 : Int) +
 (↑(UInt8.toNat (List.getD b (17 : Nat) (0 : UInt8))) : Int))
 (List.take (List.length was) (List.drop (0 : Nat) was))
 (List.take (List.length now) (List.drop (0 : Nat) now)))
 (List.take (List.length (List.drop (0 : Nat) (List.take (2 : Nat) b)))
 (List.drop (0 : Nat) (List.drop (0 : Nat) (List.take (2 : Nat) b))))
 (List.take (2 : Nat)
 (List.drop (0 : Nat)
 (List.take (2 : Nat)
 (List.drop (0 : Nat)
 [b8 (Int.tdiv port (256 : Int)), b8 (Int.tmod port (256 : Int))])))) =
 (0 : Int)))
 (((256 : Int) ≠ (0 : Int) ∧ I64 (255 : Int)) ∧
 (256 : Int) ≠ (0 : Int) ∧
 ((0 : Int) ≤ (16 : Int) ∧
 (16 : Int) ≤
 (↑(List.length
 (List.take (0 : Nat) b ++
 List.take (2 : Nat)
 (List.drop (0 : Nat)
 [b8 (Int.tdiv port (256 : Int)), b8 (Int.tmod port (256 : Int))]) ++
 List.drop (2 : Nat) b)) :
 Int)) ∧
 List.length
 (List.take (16 : Nat)
 (List.take (0 : Nat) b ++
 List.take (2 : Nat)
 (List.drop (0 : Nat)
 [b8 (Int.tdiv port (256 : Int)), b8 (Int.tmod port (256 : Int))]) ++
 List.drop (2 : Nat) b)) +
 (2 : Nat) ≤
 (4611686018427387904 : Nat) ∧
 I64 (18 : Int) ∧
 ((0 : Int) ≤ (18 : Int) ∧
 (18 : Int) ≤
 (↑(List.length
 (List.take (0 : Nat) b ++
 List.take (2 : Nat)
 (List.drop (0 : Nat)
 [b8 (Int.tdiv port (256 : Int)), b8 (Int.tmod port (256 : Int))]) ++
 List.drop (2 : Nat) b)) :
 Int)) ∧
 List.length
 (List.take (16 : Nat)
 (List.take (0 : Nat) b ++
 List.take (2 : Nat)
 (List.drop (0 : Nat)
 [b8 (Int.tdiv port (256 : Int)), b8 (Int.tmod port (256 : Int))]) ++
 List.drop (2 : Nat) b) ++
 [(255 : UInt8), (255 : UInt8)]) +
 List.length
 (List.drop (18 : Nat)
 (List.take (0 : Nat) b ++
 List.take (2 : Nat)
 (List.drop (0 : Nat)
 [b8 (Int.tdiv port (256 : Int)), b8 (Int.tmod port (256 : Int))]) ++
 List.drop (2 : Nat) b)) ≤
 (4611686018427387904 : Nat) ∧
 K
 (AVal.str
 (List.take (16 : Nat)
 (List.take (0 : Nat) b ++
 List.take (2 : Nat)
 (List.drop (0 : Nat)
 [b8 (Int.tdiv port (256 : Int)), b8 (Int.tmod port (256 : Int))]) ++
 List.drop (2 : Nat) b) ++
 [(255 : UInt8), (255 : UInt8)] ++
 List.drop (18 : Nat)
 (List.take (0 : Nat) b ++
 List.take (2 : Nat)
 (List.drop (0 : Nat)
 [b8 (Int.tdiv port (256 : Int)), b8 (Int.tmod port (256 : Int))]) ++
 List.drop (2 : Nat) b)))
 [])
 (((256 : Int) ≠ (0 : Int) ∧
 I64
 (Int.tdiv
 (chg
 (chg
 ((↑(UInt8.toNat (List.getD b (16 : Nat) (0 : UInt8))) : Int) * (256 : Int) +
 (↑(UInt8.toNat (List.getD b (17 : Nat) (0 : UInt8))) : Int))
 (List.take (List.length was) (List.drop (0 : Nat) was))
 (List.take (List.length now) (List.drop (0 : Nat) now)))
 (List.take (List.length (List.drop (0 : Nat) (List.take (2 : Nat) b)))
 (List.drop (0 : Nat) (List.drop (0 : Nat) (List.take (2 : Nat) b))))
 (List.take (2 : Nat)
 (List.drop (0 : Nat)
 (List.take (2 : Nat)
 (List.drop (0 : Nat)
 [b8 (Int.tdiv port (256 : Int)), b8 (Int.tmod port (256 : Int))])))))
 (256 : Int))) ∧
 (256 : Int) ≠ (0 : Int) ∧
 ((0 : Int) ≤ (16 : Int) ∧
 (16 : Int) ≤
 (↑(List.length
 (List.take (0 : Nat) b ++
 List.take (2 : Nat)
 (List.drop (0 : Nat)
 [b8 (Int.tdiv port (256 : Int)), b8 (Int.tmod port (256 : Int))]) ++
 List.drop (2 : Nat) b)) :
 Int)) ∧
 List.length
 (List.take (16 : Nat)
 (List.take (0 : Nat) b ++
 List.take (2 : Nat)
 (List.drop (0 : Nat)
 [b8 (Int.tdiv port (256 : Int)), b8 (Int.tmod port (256 : Int))]) ++
 List.drop (2 : Nat) b)) +
 (2 : Nat) ≤
 (4611686018427387904 : Nat) ∧
 I64 (18 : Int) ∧
 ((0 : Int) ≤ (18 : Int) ∧
 (18 : Int) ≤
 (↑(List.length
 (List.take (0 : Nat) b ++
 List.take (2 : Nat)
 (List.drop (0 : Nat)
 [b8 (Int.tdiv port (256 : Int)), b8 (Int.tmod port (256 : Int))]) ++
 List.drop (2 : Nat) b)) :
 Int)) ∧
 List.length
 (List.take (16 : Nat)
 (List.take (0 : Nat) b ++
 List.take (2 : Nat)
 (List.drop (0 : Nat)
 [b8 (Int.tdiv port (256 : Int)), b8 (Int.tmod port (256 : Int))]) ++
 List.drop (2 : Nat) b) ++
 List.take (2 : Nat)
 (List.drop (0 : Nat)
 [b8
 (Int.tdiv
 (chg
 (chg
 ((↑(UInt8.toNat (List.getD b (16 : Nat) (0 : UInt8))) : Int) * (256 : Int) +
 (↑(UInt8.toNat (List.getD b (17 : Nat) (0 : UInt8))) : Int))
 (List.take (List.length was) (List.drop (0 : Nat) was))
 (List.take (List.length now) (List.drop (0 : Nat) now)))
 (List.take (List.length (List.drop (0 : Nat) (List.take (2 : Nat) b)))
 (List.drop (0 : Nat) (List.drop (0 : Nat) (List.take (2 : Nat) b))))
 (List.take (2 : Nat)
 (List.drop (0 : Nat)
 (List.take (2 : Nat)
 (List.drop (0 : Nat)
 [b8 (Int.tdiv port (256 : Int)), b8 (Int.tmod port (256 : Int))])))))
 (256 : Int)),
 b8
 (Int.tmod
 (chg
 (chg
 ((↑(UInt8.toNat (List.getD b (16 : Nat) (0 : UInt8))) : Int) * (256 : Int) +
 (↑(UInt8.toNat (List.getD b (17 : Nat) (0 : UInt8))) : Int))
 (List.take (List.length was) (List.drop (0 : Nat) was))
 (List.take (List.length now) (List.drop (0 : Nat) now)))
 (List.take (List.length (List.drop (0 : Nat) (List.take (2 : Nat) b)))
 (List.drop (0 : Nat) (List.drop (0 : Nat) (List.take (2 : Nat) b))))
 (List.take (2 : Nat)
 (List.drop (0 : Nat)
 (List.take (2 : Nat)
 (List.drop (0 : Nat)
 [b8 (Int.tdiv port (256 : Int)), b8 (Int.tmod port (256 : Int))])))))
 (256 : Int))])) +
 List.length
 (List.drop (18 : Nat)
 (List.take (0 : Nat) b ++
 List.take (2 : Nat)
 (List.drop (0 : Nat)
 [b8 (Int.tdiv port (256 : Int)), b8 (Int.tmod port (256 : Int))]) ++
 List.drop (2 : Nat) b)) ≤
 (4611686018427387904 : Nat) ∧
 K
 (AVal.str
 (List.take (16 : Nat)
 (List.take (0 : Nat) b ++
 List.take (2 : Nat)
 (List.drop (0 : Nat)
 [b8 (Int.tdiv port (256 : Int)), b8 (Int.tmod port (256 : Int))]) ++
 List.drop (2 : Nat) b) ++
 List.take (2 : Nat)
 (List.drop (0 : Nat)
 [b8
 (Int.tdiv
 (chg
 (chg
 ((↑(UInt8.toNat (List.getD b (16 : Nat) (0 : UInt8))) : Int) * (256 : Int) +
 (↑(UInt8.toNat (List.getD b (17 : Nat) (0 : UInt8))) : Int))
 (List.take (List.length was) (List.drop (0 : Nat) was))
 (List.take (List.length now) (List.drop (0 : Nat) now)))
 (List.take (List.length (List.drop (0 : Nat) (List.take (2 : Nat) b)))
 (List.drop (0 : Nat) (List.drop (0 : Nat) (List.take (2 : Nat) b))))
 (List.take (2 : Nat)
 (List.drop (0 : Nat)
 (List.take (2 : Nat)
 (List.drop (0 : Nat)
 [b8 (Int.tdiv port (256 : Int)), b8 (Int.tmod port (256 : Int))])))))
 (256 : Int)),
 b8
 (Int.tmod
 (chg
 (chg
 ((↑(UInt8.toNat (List.getD b (16 : Nat) (0 : UInt8))) : Int) * (256 : Int) +
 (↑(UInt8.toNat (List.getD b (17 : Nat) (0 : UInt8))) : Int))
 (List.take (List.length was) (List.drop (0 : Nat) was))
 (List.take (List.length now) (List.drop (0 : Nat) now)))
 (List.take (List.length (List.drop (0 : Nat) (List.take (2 : Nat) b)))
 (List.drop (0 : Nat) (List.drop (0 : Nat) (List.take (2 : Nat) b))))
 (List.take (2 : Nat)
 (List.drop (0 : Nat)
 (List.take (2 : Nat)
 (List.drop (0 : Nat)
 [b8 (Int.tdiv port (256 : Int)), b8 (Int.tmod port (256 : Int))])))))
 (256 : Int))]) ++
 List.drop (18 : Nat)
 (List.take (0 : Nat) b ++
 List.take (2 : Nat)
 (List.drop (0 : Nat)
 [b8 (Int.tdiv port (256 : Int)), b8 (Int.tmod port (256 : Int))]) ++
 List.drop (2 : Nat) b)))
 [])))
 (((0 : Int) ≤ (0 : Int) ∧ (0 : Int) ≤ (↑(List.length b) : Int)) ∧
 (0 : Nat) + List.length (List.drop (0 : Nat) (List.take (2 : Nat) b)) ≤ (4611686018427387904 : Nat) ∧
 I64 (2 : Int) ∧
 ((0 : Int) ≤ (2 : Int) ∧ (2 : Int) ≤ (↑(List.length b) : Int)) ∧
 List.length (List.take (0 : Nat) b ++ List.drop (0 : Nat) (List.take (2 : Nat) b)) +
 List.length (List.drop (2 : Nat) b) ≤
 (4611686018427387904 : Nat) ∧
 ((0 : Int) ≤ (16 : Int) ∧ (16 : Int) < (↑(List.length b) : Int)) ∧
 I64 ((↑(UInt8.toNat (List.getD b (16 : Nat) (0 : UInt8))) : Int) * (256 : Int)) ∧
 I64 (17 : Int) ∧
 ((0 : Int) ≤ (17 : Int) ∧ (17 : Int) < (↑(List.length b) : Int)) ∧
 I64
 ((↑(UInt8.toNat (List.getD b (16 : Nat) (0 : UInt8))) : Int) * (256 : Int) +
 (↑(UInt8.toNat (List.getD b (17 : Nat) (0 : UInt8))) : Int)) ∧
 brP
 (decide (p = (17 : Int)) &&
 decide
 ((↑(UInt8.toNat (List.getD b (16 : Nat) (0 : UInt8))) : Int) * (256 : Int) +
 (↑(UInt8.toNat (List.getD b (17 : Nat) (0 : UInt8))) : Int) =
 (0 : Int)) &&
 decide ((↑(List.length was) : Int) = (4 : Int)))
 (K
 (AVal.str
 (List.take (0 : Nat) b ++ List.drop (0 : Nat) (List.take (2 : Nat) b) ++ List.drop (2 : Nat) b))
 [])
 (List.length was ≤ (140737488355328 : Nat) ∧
 List.length now ≤ (140737488355328 : Nat) ∧
 ((0 : Int) ≤
 (↑(UInt8.toNat (List.getD b (16 : Nat) (0 : UInt8))) : Int) * (256 : Int) +
 (↑(UInt8.toNat (List.getD b (17 : Nat) (0 : UInt8))) : Int) ∧
 (↑(UInt8.toNat (List.getD b (16 : Nat) (0 : UInt8))) : Int) * (256 : Int) +
 (↑(UInt8.toNat (List.getD b (17 : Nat) (0 : UInt8))) : Int) ≤
 (65535 : Int) ∧
 List.length (List.take (List.length was) (List.drop (0 : Nat) was)) =
 List.length (List.take (List.length now) (List.drop (0 : Nat) now)) ∧
 List.length (List.take (List.length was) (List.drop (0 : Nat) was)) % (2 : Nat) = (0 : Nat)) ∧
 List.length (List.drop (0 : Nat) (List.take (2 : Nat) b)) ≤ (140737488355328 : Nat) ∧
 List.length (List.drop (0 : Nat) (List.take (2 : Nat) b)) ≤ (140737488355328 : Nat) ∧
 ((0 : Int) ≤
 chg
 ((↑(UInt8.toNat (List.getD b (16 : Nat) (0 : UInt8))) : Int) * (256 : Int) +
 (↑(UInt8.toNat (List.getD b (17 : Nat) (0 : UInt8))) : Int))
 (List.take (List.length was) (List.drop (0 : Nat) was))
 (List.take (List.length now) (List.drop (0 : Nat) now)) ∧
 chg
 ((↑(UInt8.toNat (List.getD b (16 : Nat) (0 : UInt8))) : Int) * (256 : Int) +
 (↑(UInt8.toNat (List.getD b (17 : Nat) (0 : UInt8))) : Int))
 (List.take (List.length was) (List.drop (0 : Nat) was))
 (List.take (List.length now) (List.drop (0 : Nat) now)) ≤
 (65535 : Int) ∧
 List.length
 (List.take (List.length (List.drop (0 : Nat) (List.take (2 : Nat) b)))
 (List.drop (0 : Nat) (List.drop (0 : Nat) (List.take (2 : Nat) b)))) =
 List.length
 (List.take (List.length (List.drop (0 : Nat) (List.take (2 : Nat) b)))
 (List.drop (0 : Nat) (List.drop (0 : Nat) (List.take (2 : Nat) b)))) ∧
 List.length
 (List.take (List.length (List.drop (0 : Nat) (List.take (2 : Nat) b)))
 (List.drop (0 : Nat) (List.drop (0 : Nat) (List.take (2 : Nat) b)))) %
 (2 : Nat) =
 (0 : Nat)) ∧
 brP
 (decide (p = (17 : Int)) &&
 decide
 (chg
 (chg
 ((↑(UInt8.toNat (List.getD b (16 : Nat) (0 : UInt8))) : Int) * (256 : Int) +
 (↑(UInt8.toNat (List.getD b (17 : Nat) (0 : UInt8))) : Int))
 (List.take (List.length was) (List.drop (0 : Nat) was))
 (List.take (List.length now) (List.drop (0 : Nat) now)))
 (List.take (List.length (List.drop (0 : Nat) (List.take (2 : Nat) b)))
 (List.drop (0 : Nat) (List.drop (0 : Nat) (List.take (2 : Nat) b))))
 (List.take (List.length (List.drop (0 : Nat) (List.take (2 : Nat) b)))
 (List.drop (0 : Nat) (List.drop (0 : Nat) (List.take (2 : Nat) b)))) =
 (0 : Int)))
 (((256 : Int) ≠ (0 : Int) ∧ I64 (255 : Int)) ∧
 (256 : Int) ≠ (0 : Int) ∧
 ((0 : Int) ≤ (16 : Int) ∧
 (16 : Int) ≤
 (↑(List.length
 (List.take (0 : Nat) b ++ List.drop (0 : Nat) (List.take (2 : Nat) b) ++
 List.drop (2 : Nat) b)) :
 Int)) ∧
 List.length
 (List.take (16 : Nat)
 (List.take (0 : Nat) b ++ List.drop (0 : Nat) (List.take (2 : Nat) b) ++
 List.drop (2 : Nat) b)) +
 (2 : Nat) ≤
 (4611686018427387904 : Nat) ∧
 I64 (18 : Int) ∧
 ((0 : Int) ≤ (18 : Int) ∧
 (18 : Int) ≤
 (↑(List.length
 (List.take (0 : Nat) b ++ List.drop (0 : Nat) (List.take (2 : Nat) b) ++
 List.drop (2 : Nat) b)) :
 Int)) ∧
 List.length
 (List.take (16 : Nat)
 (List.take (0 : Nat) b ++ List.drop (0 : Nat) (List.take (2 : Nat) b) ++
 List.drop (2 : Nat) b) ++
 [(255 : UInt8), (255 : UInt8)]) +
 List.length
 (List.drop (18 : Nat)
 (List.take (0 : Nat) b ++ List.drop (0 : Nat) (List.take (2 : Nat) b) ++
 List.drop (2 : Nat) b)) ≤
 (4611686018427387904 : Nat) ∧
 K
 (AVal.str
 (List.take (16 : Nat)
 (List.take (0 : Nat) b ++ List.drop (0 : Nat) (List.take (2 : Nat) b) ++
 List.drop (2 : Nat) b) ++
 [(255 : UInt8), (255 : UInt8)] ++
 List.drop (18 : Nat)
 (List.take (0 : Nat) b ++ List.drop (0 : Nat) (List.take (2 : Nat) b) ++
 List.drop (2 : Nat) b)))
 [])
 (((256 : Int) ≠ (0 : Int) ∧
 I64
 (Int.tdiv
 (chg
 (chg
 ((↑(UInt8.toNat (List.getD b (16 : Nat) (0 : UInt8))) : Int) * (256 : Int) +
 (↑(UInt8.toNat (List.getD b (17 : Nat) (0 : UInt8))) : Int))
 (List.take (List.length was) (List.drop (0 : Nat) was))
 (List.take (List.length now) (List.drop (0 : Nat) now)))
 (List.take (List.length (List.drop (0 : Nat) (List.take (2 : Nat) b)))
 (List.drop (0 : Nat) (List.drop (0 : Nat) (List.take (2 : Nat) b))))
 (List.take (List.length (List.drop (0 : Nat) (List.take (2 : Nat) b)))
 (List.drop (0 : Nat) (List.drop (0 : Nat) (List.take (2 : Nat) b)))))
 (256 : Int))) ∧
 (256 : Int) ≠ (0 : Int) ∧
 ((0 : Int) ≤ (16 : Int) ∧
 (16 : Int) ≤
 (↑(List.length
 (List.take (0 : Nat) b ++ List.drop (0 : Nat) (List.take (2 : Nat) b) ++
 List.drop (2 : Nat) b)) :
 Int)) ∧
 List.length
 (List.take (16 : Nat)
 (List.take (0 : Nat) b ++ List.drop (0 : Nat) (List.take (2 : Nat) b) ++
 List.drop (2 : Nat) b)) +
 (2 : Nat) ≤
 (4611686018427387904 : Nat) ∧
 I64 (18 : Int) ∧
 ((0 : Int) ≤ (18 : Int) ∧
 (18 : Int) ≤
 (↑(List.length
 (List.take (0 : Nat) b ++ List.drop (0 : Nat) (List.take (2 : Nat) b) ++
 List.drop (2 : Nat) b)) :
 Int)) ∧
 List.length
 (List.take (16 : Nat)
 (List.take (0 : Nat) b ++ List.drop (0 : Nat) (List.take (2 : Nat) b) ++
 List.drop (2 : Nat) b) ++
 List.take (2 : Nat)
 (List.drop (0 : Nat)
 [b8
 (Int.tdiv
 (chg
 (chg
 ((↑(UInt8.toNat (List.getD b (16 : Nat) (0 : UInt8))) : Int) * (256 : Int) +
 (↑(UInt8.toNat (List.getD b (17 : Nat) (0 : UInt8))) : Int))
 (List.take (List.length was) (List.drop (0 : Nat) was))
 (List.take (List.length now) (List.drop (0 : Nat) now)))
 (List.take (List.length (List.drop (0 : Nat) (List.take (2 : Nat) b)))
 (List.drop (0 : Nat) (List.drop (0 : Nat) (List.take (2 : Nat) b))))
 (List.take (List.length (List.drop (0 : Nat) (List.take (2 : Nat) b)))
 (List.drop (0 : Nat) (List.drop (0 : Nat) (List.take (2 : Nat) b)))))
 (256 : Int)),
 b8
 (Int.tmod
 (chg
 (chg
 ((↑(UInt8.toNat (List.getD b (16 : Nat) (0 : UInt8))) : Int) * (256 : Int) +
 (↑(UInt8.toNat (List.getD b (17 : Nat) (0 : UInt8))) : Int))
 (List.take (List.length was) (List.drop (0 : Nat) was))
 (List.take (List.length now) (List.drop (0 : Nat) now)))
 (List.take (List.length (List.drop (0 : Nat) (List.take (2 : Nat) b)))
 (List.drop (0 : Nat) (List.drop (0 : Nat) (List.take (2 : Nat) b))))
 (List.take (List.length (List.drop (0 : Nat) (List.take (2 : Nat) b)))
 (List.drop (0 : Nat) (List.drop (0 : Nat) (List.take (2 : Nat) b)))))
 (256 : Int))])) +
 List.length
 (List.drop (18 : Nat)
 (List.take (0 : Nat) b ++ List.drop (0 : Nat) (List.take (2 : Nat) b) ++
 List.drop (2 : Nat) b)) ≤
 (4611686018427387904 : Nat) ∧
 K
 (AVal.str
 (List.take (16 : Nat)
 (List.take (0 : Nat) b ++ List.drop (0 : Nat) (List.take (2 : Nat) b) ++
 List.drop (2 : Nat) b) ++
 List.take (2 : Nat)
 (List.drop (0 : Nat)
 [b8
 (Int.tdiv
 (chg
 (chg
 ((↑(UInt8.toNat (List.getD b (16 : Nat) (0 : UInt8))) : Int) * (256 : Int) +
 (↑(UInt8.toNat (List.getD b (17 : Nat) (0 : UInt8))) : Int))
 (List.take (List.length was) (List.drop (0 : Nat) was))
 (List.take (List.length now) (List.drop (0 : Nat) now)))
 (List.take (List.length (List.drop (0 : Nat) (List.take (2 : Nat) b)))
 (List.drop (0 : Nat) (List.drop (0 : Nat) (List.take (2 : Nat) b))))
 (List.take (List.length (List.drop (0 : Nat) (List.take (2 : Nat) b)))
 (List.drop (0 : Nat) (List.drop (0 : Nat) (List.take (2 : Nat) b)))))
 (256 : Int)),
 b8
 (Int.tmod
 (chg
 (chg
 ((↑(UInt8.toNat (List.getD b (16 : Nat) (0 : UInt8))) : Int) * (256 : Int) +
 (↑(UInt8.toNat (List.getD b (17 : Nat) (0 : UInt8))) : Int))
 (List.take (List.length was) (List.drop (0 : Nat) was))
 (List.take (List.length now) (List.drop (0 : Nat) now)))
 (List.take (List.length (List.drop (0 : Nat) (List.take (2 : Nat) b)))
 (List.drop (0 : Nat) (List.drop (0 : Nat) (List.take (2 : Nat) b))))
 (List.take (List.length (List.drop (0 : Nat) (List.take (2 : Nat) b)))
 (List.drop (0 : Nat) (List.drop (0 : Nat) (List.take (2 : Nat) b)))))
 (256 : Int))]) ++
 List.drop (18 : Nat)
 (List.take (0 : Nat) b ++ List.drop (0 : Nat) (List.take (2 : Nat) b) ++
 List.drop (2 : Nat) b)))
 []))))) := by kernel_rfl
set_option maxRecDepth 100000 in
theorem ref19_changed_2 (f t : List UInt8) (p q : Int) (b was now : List UInt8) (port : Int) (K : AVal → Hp → Prop) : fnP Try.prog Trw11 ann_outriderref19_changed Try.f34 [.agg [.str f, .str t, .int .i64 p, .int .i64 q, .str b], .int .i64 2, .str was, .str now, .int .i64 port] [] K = (
 brP (decide (p = (17 : Int)))
 (I64 (4 : Int) ∧
 ((0 : Int) ≤ (2 : Int) ∧ (2 : Int) ≤ (4 : Int) ∧ (4 : Int) ≤ (↑(List.length b) : Int)) ∧
 brP (decide ((0 : Int) < port))
 (((256 : Int) ≠ (0 : Int) ∧ I64 (Int.tdiv port (256 : Int))) ∧
 (256 : Int) ≠ (0 : Int) ∧
 ((0 : Int) ≤ (2 : Int) ∧ (2 : Int) ≤ (↑(List.length b) : Int)) ∧
 List.length (List.take (2 : Nat) b) + (2 : Nat) ≤ (4611686018427387904 : Nat) ∧
 I64 (4 : Int) ∧
 ((0 : Int) ≤ (4 : Int) ∧ (4 : Int) ≤ (↑(List.length b) : Int)) ∧
 List.length
 (List.take (2 : Nat) b ++
 List.take (2 : Nat)
 (List.drop (0 : Nat) [b8 (Int.tdiv port (256 : Int)), b8 (Int.tmod port (256 : Int))])) +
 List.length (List.drop (4 : Nat) b) ≤
 (4611686018427387904 : Nat) ∧
 ((0 : Int) ≤ (6 : Int) ∧ (6 : Int) < (↑(List.length b) : Int)) ∧
 I64 ((↑(UInt8.toNat (List.getD b (6 : Nat) (0 : UInt8))) : Int) * (256 : Int)) ∧
 I64 (7 : Int) ∧
 ((0 : Int) ≤ (7 : Int) ∧ (7 : Int) < (↑(List.length b) : Int)) ∧
 I64
 ((↑(UInt8.toNat (List.getD b (6 : Nat) (0 : UInt8))) : Int) * (256 : Int) +
 (↑(UInt8.toNat (List.getD b (7 : Nat) (0 : UInt8))) : Int)) ∧
 brP
 (decide (p = (17 : Int)) &&
 decide
 ((↑(UInt8.toNat (List.getD b (6 : Nat) (0 : UInt8))) : Int) * (256 : Int) +
 (↑(UInt8.toNat (List.getD b (7 : Nat) (0 : UInt8))) : Int) =
 (0 : Int)) &&
 decide ((↑(List.length was) : Int) = (4 : Int)))
 (K
 (AVal.str
 (List.take (2 : Nat) b ++
 List.take (2 : Nat)
 (List.drop (0 : Nat) [b8 (Int.tdiv port (256 : Int)), b8 (Int.tmod port (256 : Int))]) ++
 List.drop (4 : Nat) b))
 [])
 (List.length was ≤ (140737488355328 : Nat) ∧
 List.length now ≤ (140737488355328 : Nat) ∧
 ((0 : Int) ≤
 (↑(UInt8.toNat (List.getD b (6 : Nat) (0 : UInt8))) : Int) * (256 : Int) +
 (↑(UInt8.toNat (List.getD b (7 : Nat) (0 : UInt8))) : Int) ∧
 (↑(UInt8.toNat (List.getD b (6 : Nat) (0 : UInt8))) : Int) * (256 : Int) +
 (↑(UInt8.toNat (List.getD b (7 : Nat) (0 : UInt8))) : Int) ≤
 (65535 : Int) ∧
 List.length (List.take (List.length was) (List.drop (0 : Nat) was)) =
 List.length (List.take (List.length now) (List.drop (0 : Nat) now)) ∧
 List.length (List.take (List.length was) (List.drop (0 : Nat) was)) % (2 : Nat) = (0 : Nat)) ∧
 List.length (List.drop (2 : Nat) (List.take (4 : Nat) b)) ≤ (140737488355328 : Nat) ∧
 (2 : Nat) ≤ (140737488355328 : Nat) ∧
 ((0 : Int) ≤
 chg
 ((↑(UInt8.toNat (List.getD b (6 : Nat) (0 : UInt8))) : Int) * (256 : Int) +
 (↑(UInt8.toNat (List.getD b (7 : Nat) (0 : UInt8))) : Int))
 (List.take (List.length was) (List.drop (0 : Nat) was))
 (List.take (List.length now) (List.drop (0 : Nat) now)) ∧
 chg
 ((↑(UInt8.toNat (List.getD b (6 : Nat) (0 : UInt8))) : Int) * (256 : Int) +
 (↑(UInt8.toNat (List.getD b (7 : Nat) (0 : UInt8))) : Int))
 (List.take (List.length was) (List.drop (0 : Nat) was))
 (List.take (List.length now) (List.drop (0 : Nat) now)) ≤
 (65535 : Int) ∧
 List.length
 (List.take (List.length (List.drop (2 : Nat) (List.take (4 : Nat) b)))
 (List.drop (0 : Nat) (List.drop (2 : Nat) (List.take (4 : Nat) b)))) =
 (2 : Nat) ∧
 List.length
 (List.take (List.length (List.drop (2 : Nat) (List.take (4 : Nat) b)))
 (List.drop (0 : Nat) (List.drop (2 : Nat) (List.take (4 : Nat) b)))) %
 (2 : Nat) =
 (0 : Nat)) ∧
 brP
 (decide (p = (17 : Int)) &&
 decide
 (chg
 (chg
 ((↑(UInt8.toNat (List.getD b (6 : Nat) (0 : UInt8))) : Int) * (256 : Int) +
 (↑(UInt8.toNat (List.getD b (7 : Nat) (0 : UInt8))) : Int))
 (List.take (List.length was) (List.drop (0 : Nat) was))
 (List.take (List.length now) (List.drop (0 : Nat) now)))
 (List.take (List.length (List.drop (2 : Nat) (List.take (4 : Nat) b)))
 (List.drop (0 : Nat) (List.drop (2 : Nat) (List.take (4 : Nat) b))))
 (List.take (2 : Nat)
 (List.drop (0 : Nat)
 (List.take (2 : Nat)
 (List.drop (0 : Nat)
 [b8 (Int.tdiv port (256 : Int)), b8 (Int.tmod port (256 : Int))])))) =
 (0 : Int)))
 (((256 : Int) ≠ (0 : Int) ∧ I64 (255 : Int)) ∧
 (256 : Int) ≠ (0 : Int) ∧
 ((0 : Int) ≤ (6 : Int) ∧
 (6 : Int) ≤
 (↑(List.length
 (List.take (2 : Nat) b ++
 List.take (2 : Nat)
 (List.drop (0 : Nat)
 [b8 (Int.tdiv port (256 : Int)), b8 (Int.tmod port (256 : Int))]) ++
 List.drop (4 : Nat) b)) :
 Int)) ∧
 List.length
 (List.take (6 : Nat)
 (List.take (2 : Nat) b ++
 List.take (2 : Nat)
 (List.drop (0 : Nat)
 [b8 (Int.tdiv port (256 : Int)), b8 (Int.tmod port (256 : Int))]) ++
 List.drop (4 : Nat) b)) +
 (2 : Nat) ≤
 (4611686018427387904 : Nat) ∧
 I64 (8 : Int) ∧
 ((0 : Int) ≤ (8 : Int) ∧
 (8 : Int) ≤
 (↑(List.length
 (List.take (2 : Nat) b ++
 List.take (2 : Nat)
 (List.drop (0 : Nat)
 [b8 (Int.tdiv port (256 : Int)), b8 (Int.tmod port (256 : Int))]) ++
 List.drop (4 : Nat) b)) :
 Int)) ∧
 List.length
 (List.take (6 : Nat)
 (List.take (2 : Nat) b ++
 List.take (2 : Nat)
 (List.drop (0 : Nat)
 [b8 (Int.tdiv port (256 : Int)), b8 (Int.tmod port (256 : Int))]) ++
 List.drop (4 : Nat) b) ++
 [(255 : UInt8), (255 : UInt8)]) +
 List.length
 (List.drop (8 : Nat)
 (List.take (2 : Nat) b ++
 List.take (2 : Nat)
 (List.drop (0 : Nat)
 [b8 (Int.tdiv port (256 : Int)), b8 (Int.tmod port (256 : Int))]) ++
 List.drop (4 : Nat) b)) ≤
 (4611686018427387904 : Nat) ∧
 K
 (AVal.str
 (List.take (6 : Nat)
 (List.take (2 : Nat) b ++
 List.take (2 : Nat)
 (List.drop (0 : Nat)
 [b8 (Int.tdiv port (256 : Int)), b8 (Int.tmod port (256 : Int))]) ++
 List.drop (4 : Nat) b) ++
 [(255 : UInt8), (255 : UInt8)] ++
 List.drop (8 : Nat)
 (List.take (2 : Nat) b ++
 List.take (2 : Nat)
 (List.drop (0 : Nat)
 [b8 (Int.tdiv port (256 : Int)), b8 (Int.tmod port (256 : Int))]) ++
 List.drop (4 : Nat) b)))
 [])
 (((256 : Int) ≠ (0 : Int) ∧
 I64
 (Int.tdiv
 (chg
 (chg
 ((↑(UInt8.toNat (List.getD b (6 : Nat) (0 : UInt8))) : Int) * (256 : Int) +
 (↑(UInt8.toNat (List.getD b (7 : Nat) (0 : UInt8))) : Int))
 (List.take (List.length was) (List.drop (0 : Nat) was))
 (List.take (List.length now) (List.drop (0 : Nat) now)))
 (List.take (List.length (List.drop (2 : Nat) (List.take (4 : Nat) b)))
 (List.drop (0 : Nat) (List.drop (2 : Nat) (List.take (4 : Nat) b))))
 (List.take (2 : Nat)
 (List.drop (0 : Nat)
 (List.take (2 : Nat)
 (List.drop (0 : Nat)
 [b8 (Int.tdiv port (256 : Int)), b8 (Int.tmod port (256 : Int))])))))
 (256 : Int))) ∧
 (256 : Int) ≠ (0 : Int) ∧
 ((0 : Int) ≤ (6 : Int) ∧
 (6 : Int) ≤
 (↑(List.length
 (List.take (2 : Nat) b ++
 List.take (2 : Nat)
 (List.drop (0 : Nat)
 [b8 (Int.tdiv port (256 : Int)), b8 (Int.tmod port (256 : Int))]) ++
 List.drop (4 : Nat) b)) :
 Int)) ∧
 List.length
 (List.take (6 : Nat)
 (List.take (2 : Nat) b ++
 List.take (2 : Nat)
 (List.drop (0 : Nat)
 [b8 (Int.tdiv port (256 : Int)), b8 (Int.tmod port (256 : Int))]) ++
 List.drop (4 : Nat) b)) +
 (2 : Nat) ≤
 (4611686018427387904 : Nat) ∧
 I64 (8 : Int) ∧
 ((0 : Int) ≤ (8 : Int) ∧
 (8 : Int) ≤
 (↑(List.length
 (List.take (2 : Nat) b ++
 List.take (2 : Nat)
 (List.drop (0 : Nat)
 [b8 (Int.tdiv port (256 : Int)), b8 (Int.tmod port (256 : Int))]) ++
 List.drop (4 : Nat) b)) :
 Int)) ∧
 List.length
 (List.take (6 : Nat)
 (List.take (2 : Nat) b ++
 List.take (2 : Nat)
 (List.drop (0 : Nat)
 [b8 (Int.tdiv port (256 : Int)), b8 (Int.tmod port (256 : Int))]) ++
 List.drop (4 : Nat) b) ++
 List.take (2 : Nat)
 (List.drop (0 : Nat)
 [b8
 (Int.tdiv
 (chg
 (chg
 ((↑(UInt8.toNat (List.getD b (6 : Nat) (0 : UInt8))) : Int) * (256 : Int) +
 (↑(UInt8.toNat (List.getD b (7 : Nat) (0 : UInt8))) : Int))
 (List.take (List.length was) (List.drop (0 : Nat) was))
 (List.take (List.length now) (List.drop (0 : Nat) now)))
 (List.take (List.length (List.drop (2 : Nat) (List.take (4 : Nat) b)))
 (List.drop (0 : Nat) (List.drop (2 : Nat) (List.take (4 : Nat) b))))
 (List.take (2 : Nat)
 (List.drop (0 : Nat)
 (List.take (2 : Nat)
 (List.drop (0 : Nat)
 [b8 (Int.tdiv port (256 : Int)), b8 (Int.tmod port (256 : Int))])))))
 (256 : Int)),
 b8
 (Int.tmod
 (chg
 (chg
 ((↑(UInt8.toNat (List.getD b (6 : Nat) (0 : UInt8))) : Int) * (256 : Int) +
 (↑(UInt8.toNat (List.getD b (7 : Nat) (0 : UInt8))) : Int))
 (List.take (List.length was) (List.drop (0 : Nat) was))
 (List.take (List.length now) (List.drop (0 : Nat) now)))
 (List.take (List.length (List.drop (2 : Nat) (List.take (4 : Nat) b)))
 (List.drop (0 : Nat) (List.drop (2 : Nat) (List.take (4 : Nat) b))))
 (List.take (2 : Nat)
 (List.drop (0 : Nat)
 (List.take (2 : Nat)
 (List.drop (0 : Nat)
 [b8 (Int.tdiv port (256 : Int)), b8 (Int.tmod port (256 : Int))])))))
 (256 : Int))])) +
 List.length
 (List.drop (8 : Nat)
 (List.take (2 : Nat) b ++
 List.take (2 : Nat)
 (List.drop (0 : Nat)
 [b8 (Int.tdiv port (256 : Int)), b8 (Int.tmod port (256 : Int))]) ++
 List.drop (4 : Nat) b)) ≤
 (4611686018427387904 : Nat) ∧
 K
 (AVal.str
 (List.take (6 : Nat)
 (List.take (2 : Nat) b ++
 List.take (2 : Nat)
 (List.drop (0 : Nat)
 [b8 (Int.tdiv port (256 : Int)), b8 (Int.tmod port (256 : Int))]) ++
 List.drop (4 : Nat) b) ++
 List.take (2 : Nat)
 (List.drop (0 : Nat)
 [b8
 (Int.tdiv
 (chg
 (chg
 ((↑(UInt8.toNat (List.getD b (6 : Nat) (0 : UInt8))) : Int) * (256 : Int) +
 (↑(UInt8.toNat (List.getD b (7 : Nat) (0 : UInt8))) : Int))
 (List.take (List.length was) (List.drop (0 : Nat) was))
 (List.take (List.length now) (List.drop (0 : Nat) now)))
 (List.take (List.length (List.drop (2 : Nat) (List.take (4 : Nat) b)))
 (List.drop (0 : Nat) (List.drop (2 : Nat) (List.take (4 : Nat) b))))
 (List.take (2 : Nat)
 (List.drop (0 : Nat)
 (List.take (2 : Nat)
 (List.drop (0 : Nat)
 [b8 (Int.tdiv port (256 : Int)), b8 (Int.tmod port (256 : Int))])))))
 (256 : Int)),
 b8
 (Int.tmod
 (chg
 (chg
 ((↑(UInt8.toNat (List.getD b (6 : Nat) (0 : UInt8))) : Int) * (256 : Int) +
 (↑(UInt8.toNat (List.getD b (7 : Nat) (0 : UInt8))) : Int))
 (List.take (List.length was) (List.drop (0 : Nat) was))
 (List.take (List.length now) (List.drop (0 : Nat) now)))
 (List.take (List.length (List.drop (2 : Nat) (List.take (4 : Nat) b)))
 (List.drop (0 : Nat) (List.drop (2 : Nat) (List.take (4 : Nat) b))))
 (List.take (2 : Nat)
 (List.drop (0 : Nat)
 (List.take (2 : Nat)
 (List.drop (0 : Nat)
 [b8 (Int.tdiv port (256 : Int)), b8 (Int.tmod port (256 : Int))])))))
 (256 : Int))]) ++
 List.drop (8 : Nat)
 (List.take (2 : Nat) b ++
 List.take (2 : Nat)
 (List.drop (0 : Nat)
 [b8 (Int.tdiv port (256 : Int)), b8 (Int.tmod port (256 : Int))]) ++
 List.drop (4 : Nat) b)))
 [])))
 (((0 : Int) ≤ (2 : Int) ∧ (2 : Int) ≤ (↑(List.length b) : Int)) ∧
 List.length (List.take (2 : Nat) b) + List.length (List.drop (2 : Nat) (List.take (4 : Nat) b)) ≤
 (4611686018427387904 : Nat) ∧
 I64 (4 : Int) ∧
 ((0 : Int) ≤ (4 : Int) ∧ (4 : Int) ≤ (↑(List.length b) : Int)) ∧
 List.length (List.take (2 : Nat) b ++ List.drop (2 : Nat) (List.take (4 : Nat) b)) +
 List.length (List.drop (4 : Nat) b) ≤
 (4611686018427387904 : Nat) ∧
 ((0 : Int) ≤ (6 : Int) ∧ (6 : Int) < (↑(List.length b) : Int)) ∧
 I64 ((↑(UInt8.toNat (List.getD b (6 : Nat) (0 : UInt8))) : Int) * (256 : Int)) ∧
 I64 (7 : Int) ∧
 ((0 : Int) ≤ (7 : Int) ∧ (7 : Int) < (↑(List.length b) : Int)) ∧
 I64
 ((↑(UInt8.toNat (List.getD b (6 : Nat) (0 : UInt8))) : Int) * (256 : Int) +
 (↑(UInt8.toNat (List.getD b (7 : Nat) (0 : UInt8))) : Int)) ∧
 brP
 (decide (p = (17 : Int)) &&
 decide
 ((↑(UInt8.toNat (List.getD b (6 : Nat) (0 : UInt8))) : Int) * (256 : Int) +
 (↑(UInt8.toNat (List.getD b (7 : Nat) (0 : UInt8))) : Int) =
 (0 : Int)) &&
 decide ((↑(List.length was) : Int) = (4 : Int)))
 (K
 (AVal.str
 (List.take (2 : Nat) b ++ List.drop (2 : Nat) (List.take (4 : Nat) b) ++ List.drop (4 : Nat) b))
 [])
 (List.length was ≤ (140737488355328 : Nat) ∧
 List.length now ≤ (140737488355328 : Nat) ∧
 ((0 : Int) ≤
 (↑(UInt8.toNat (List.getD b (6 : Nat) (0 : UInt8))) : Int) * (256 : Int) +
 (↑(UInt8.toNat (List.getD b (7 : Nat) (0 : UInt8))) : Int) ∧
 (↑(UInt8.toNat (List.getD b (6 : Nat) (0 : UInt8))) : Int) * (256 : Int) +
 (↑(UInt8.toNat (List.getD b (7 : Nat) (0 : UInt8))) : Int) ≤
 (65535 : Int) ∧
 List.length (List.take (List.length was) (List.drop (0 : Nat) was)) =
 List.length (List.take (List.length now) (List.drop (0 : Nat) now)) ∧
 List.length (List.take (List.length was) (List.drop (0 : Nat) was)) % (2 : Nat) = (0 : Nat)) ∧
 List.length (List.drop (2 : Nat) (List.take (4 : Nat) b)) ≤ (140737488355328 : Nat) ∧
 List.length (List.drop (2 : Nat) (List.take (4 : Nat) b)) ≤ (140737488355328 : Nat) ∧
 ((0 : Int) ≤
 chg
 ((↑(UInt8.toNat (List.getD b (6 : Nat) (0 : UInt8))) : Int) * (256 : Int) +
 (↑(UInt8.toNat (List.getD b (7 : Nat) (0 : UInt8))) : Int))
 (List.take (List.length was) (List.drop (0 : Nat) was))
 (List.take (List.length now) (List.drop (0 : Nat) now)) ∧
 chg
 ((↑(UInt8.toNat (List.getD b (6 : Nat) (0 : UInt8))) : Int) * (256 : Int) +
 (↑(UInt8.toNat (List.getD b (7 : Nat) (0 : UInt8))) : Int))
 (List.take (List.length was) (List.drop (0 : Nat) was))
 (List.take (List.length now) (List.drop (0 : Nat) now)) ≤
 (65535 : Int) ∧
 List.length
 (List.take (List.length (List.drop (2 : Nat) (List.take (4 : Nat) b)))
 (List.drop (0 : Nat) (List.drop (2 : Nat) (List.take (4 : Nat) b)))) =
 List.length
 (List.take (List.length (List.drop (2 : Nat) (List.take (4 : Nat) b)))
 (List.drop (0 : Nat) (List.drop (2 : Nat) (List.take (4 : Nat) b)))) ∧
 List.length
 (List.take (List.length (List.drop (2 : Nat) (List.take (4 : Nat) b)))
 (List.drop (0 : Nat) (List.drop (2 : Nat) (List.take (4 : Nat) b)))) %
 (2 : Nat) =
 (0 : Nat)) ∧
 brP
 (decide (p = (17 : Int)) &&
 decide
 (chg
 (chg
 ((↑(UInt8.toNat (List.getD b (6 : Nat) (0 : UInt8))) : Int) * (256 : Int) +
 (↑(UInt8.toNat (List.getD b (7 : Nat) (0 : UInt8))) : Int))
 (List.take (List.length was) (List.drop (0 : Nat) was))
 (List.take (List.length now) (List.drop (0 : Nat) now)))
 (List.take (List.length (List.drop (2 : Nat) (List.take (4 : Nat) b)))
 (List.drop (0 : Nat) (List.drop (2 : Nat) (List.take (4 : Nat) b))))
 (List.take (List.length (List.drop (2 : Nat) (List.take (4 : Nat) b)))
 (List.drop (0 : Nat) (List.drop (2 : Nat) (List.take (4 : Nat) b)))) =
 (0 : Int)))
 (((256 : Int) ≠ (0 : Int) ∧ I64 (255 : Int)) ∧
 (256 : Int) ≠ (0 : Int) ∧
 ((0 : Int) ≤ (6 : Int) ∧
 (6 : Int) ≤
 (↑(List.length
 (List.take (2 : Nat) b ++ List.drop (2 : Nat) (List.take (4 : Nat) b) ++
 List.drop (4 : Nat) b)) :
 Int)) ∧
 List.length
 (List.take (6 : Nat)
 (List.take (2 : Nat) b ++ List.drop (2 : Nat) (List.take (4 : Nat) b) ++
 List.drop (4 : Nat) b)) +
 (2 : Nat) ≤
 (4611686018427387904 : Nat) ∧
 I64 (8 : Int) ∧
 ((0 : Int) ≤ (8 : Int) ∧
 (8 : Int) ≤
 (↑(List.length
 (List.take (2 : Nat) b ++ List.drop (2 : Nat) (List.take (4 : Nat) b) ++
 List.drop (4 : Nat) b)) :
 Int)) ∧
 List.length
 (List.take (6 : Nat)
 (List.take (2 : Nat) b ++ List.drop (2 : Nat) (List.take (4 : Nat) b) ++
 List.drop (4 : Nat) b) ++
 [(255 : UInt8), (255 : UInt8)]) +
 List.length
 (List.drop (8 : Nat)
 (List.take (2 : Nat) b ++ List.drop (2 : Nat) (List.take (4 : Nat) b) ++
 List.drop (4 : Nat) b)) ≤
 (4611686018427387904 : Nat) ∧
 K
 (AVal.str
 (List.take (6 : Nat)
 (List.take (2 : Nat) b ++ List.drop (2 : Nat) (List.take (4 : Nat) b) ++
 List.drop (4 : Nat) b) ++
 [(255 : UInt8), (255 : UInt8)] ++
 List.drop (8 : Nat)
 (List.take (2 : Nat) b ++ List.drop (2 : Nat) (List.take (4 : Nat) b) ++
 List.drop (4 : Nat) b)))
 [])
 (((256 : Int) ≠ (0 : Int) ∧
 I64
 (Int.tdiv
 (chg
 (chg
 ((↑(UInt8.toNat (List.getD b (6 : Nat) (0 : UInt8))) : Int) * (256 : Int) +
 (↑(UInt8.toNat (List.getD b (7 : Nat) (0 : UInt8))) : Int))
 (List.take (List.length was) (List.drop (0 : Nat) was))
 (List.take (List.length now) (List.drop (0 : Nat) now)))
 (List.take (List.length (List.drop (2 : Nat) (List.take (4 : Nat) b)))
 (List.drop (0 : Nat) (List.drop (2 : Nat) (List.take (4 : Nat) b))))
 (List.take (List.length (List.drop (2 : Nat) (List.take (4 : Nat) b)))
 (List.drop (0 : Nat) (List.drop (2 : Nat) (List.take (4 : Nat) b)))))
 (256 : Int))) ∧
 (256 : Int) ≠ (0 : Int) ∧
 ((0 : Int) ≤ (6 : Int) ∧
 (6 : Int) ≤
 (↑(List.length
 (List.take (2 : Nat) b ++ List.drop (2 : Nat) (List.take (4 : Nat) b) ++
 List.drop (4 : Nat) b)) :
 Int)) ∧
 List.length
 (List.take (6 : Nat)
 (List.take (2 : Nat) b ++ List.drop (2 : Nat) (List.take (4 : Nat) b) ++
 List.drop (4 : Nat) b)) +
 (2 : Nat) ≤
 (4611686018427387904 : Nat) ∧
 I64 (8 : Int) ∧
 ((0 : Int) ≤ (8 : Int) ∧
 (8 : Int) ≤
 (↑(List.length
 (List.take (2 : Nat) b ++ List.drop (2 : Nat) (List.take (4 : Nat) b) ++
 List.drop (4 : Nat) b)) :
 Int)) ∧
 List.length
 (List.take (6 : Nat)
 (List.take (2 : Nat) b ++ List.drop (2 : Nat) (List.take (4 : Nat) b) ++
 List.drop (4 : Nat) b) ++
 List.take (2 : Nat)
 (List.drop (0 : Nat)
 [b8
 (Int.tdiv
 (chg
 (chg
 ((↑(UInt8.toNat (List.getD b (6 : Nat) (0 : UInt8))) : Int) * (256 : Int) +
 (↑(UInt8.toNat (List.getD b (7 : Nat) (0 : UInt8))) : Int))
 (List.take (List.length was) (List.drop (0 : Nat) was))
 (List.take (List.length now) (List.drop (0 : Nat) now)))
 (List.take (List.length (List.drop (2 : Nat) (List.take (4 : Nat) b)))
 (List.drop (0 : Nat) (List.drop (2 : Nat) (List.take (4 : Nat) b))))
 (List.take (List.length (List.drop (2 : Nat) (List.take (4 : Nat) b)))
 (List.drop (0 : Nat) (List.drop (2 : Nat) (List.take (4 : Nat) b)))))
 (256 : Int)),
 b8
 (Int.tmod
 (chg
 (chg
 ((↑(UInt8.toNat (List.getD b (6 : Nat) (0 : UInt8))) : Int) * (256 : Int) +
 (↑(UInt8.toNat (List.getD b (7 : Nat) (0 : UInt8))) : Int))
 (List.take (List.length was) (List.drop (0 : Nat) was))
 (List.take (List.length now) (List.drop (0 : Nat) now)))
 (List.take (List.length (List.drop (2 : Nat) (List.take (4 : Nat) b)))
 (List.drop (0 : Nat) (List.drop (2 : Nat) (List.take (4 : Nat) b))))
 (List.take (List.length (List.drop (2 : Nat) (List.take (4 : Nat) b)))
 (List.drop (0 : Nat) (List.drop (2 : Nat) (List.take (4 : Nat) b)))))
 (256 : Int))])) +
 List.length
 (List.drop (8 : Nat)
 (List.take (2 : Nat) b ++ List.drop (2 : Nat) (List.take (4 : Nat) b) ++
 List.drop (4 : Nat) b)) ≤
 (4611686018427387904 : Nat) ∧
 K
 (AVal.str
 (List.take (6 : Nat)
 (List.take (2 : Nat) b ++ List.drop (2 : Nat) (List.take (4 : Nat) b) ++
 List.drop (4 : Nat) b) ++
 List.take (2 : Nat)
 (List.drop (0 : Nat)
 [b8
 (Int.tdiv
 (chg
 (chg
 ((↑(UInt8.toNat (List.getD b (6 : Nat) (0 : UInt8))) : Int) * (256 : Int) +
 (↑(UInt8.toNat (List.getD b (7 : Nat) (0 : UInt8))) : Int))
 (List.take (List.length was) (List.drop (0 : Nat) was))
 (List.take (List.length now) (List.drop (0 : Nat) now)))
 (List.take (List.length (List.drop (2 : Nat) (List.take (4 : Nat) b)))
 (List.drop (0 : Nat) (List.drop (2 : Nat) (List.take (4 : Nat) b))))
 (List.take (List.length (List.drop (2 : Nat) (List.take (4 : Nat) b)))
 (List.drop (0 : Nat) (List.drop (2 : Nat) (List.take (4 : Nat) b)))))
 (256 : Int)),
 b8
 (Int.tmod
 (chg
 (chg
 ((↑(UInt8.toNat (List.getD b (6 : Nat) (0 : UInt8))) : Int) * (256 : Int) +
 (↑(UInt8.toNat (List.getD b (7 : Nat) (0 : UInt8))) : Int))
 (List.take (List.length was) (List.drop (0 : Nat) was))
 (List.take (List.length now) (List.drop (0 : Nat) now)))
 (List.take (List.length (List.drop (2 : Nat) (List.take (4 : Nat) b)))
 (List.drop (0 : Nat) (List.drop (2 : Nat) (List.take (4 : Nat) b))))
 (List.take (List.length (List.drop (2 : Nat) (List.take (4 : Nat) b)))
 (List.drop (0 : Nat) (List.drop (2 : Nat) (List.take (4 : Nat) b)))))
 (256 : Int))]) ++
 List.drop (8 : Nat)
 (List.take (2 : Nat) b ++ List.drop (2 : Nat) (List.take (4 : Nat) b) ++
 List.drop (4 : Nat) b)))
 []))))
 (I64 (4 : Int) ∧
 ((0 : Int) ≤ (2 : Int) ∧ (2 : Int) ≤ (4 : Int) ∧ (4 : Int) ≤ (↑(List.length b) : Int)) ∧
 brP (decide ((0 : Int) < port))
 (((256 : Int) ≠ (0 : Int) ∧ I64 (Int.tdiv port (256 : Int))) ∧
 (256 : Int) ≠ (0 : Int) ∧
 ((0 : Int) ≤ (2 : Int) ∧ (2 : Int) ≤ (↑(List.length b) : Int)) ∧
 List.length (List.take (2 : Nat) b) + (2 : Nat) ≤ (4611686018427387904 : Nat) ∧
 I64 (4 : Int) ∧
 ((0 : Int) ≤ (4 : Int) ∧ (4 : Int) ≤ (↑(List.length b) : Int)) ∧
 List.length
 (List.take (2 : Nat) b ++
 List.take (2 : Nat)
 (List.drop (0 : Nat) [b8 (Int.tdiv port (256 : Int)), b8 (Int.tmod port (256 : Int))])) +
 List.length (List.drop (4 : Nat) b) ≤
 (4611686018427387904 : Nat) ∧
 ((0 : Int) ≤ (16 : Int) ∧ (16 : Int) < (↑(List.length b) : Int)) ∧
 I64 ((↑(UInt8.toNat (List.getD b (16 : Nat) (0 : UInt8))) : Int) * (256 : Int)) ∧
 I64 (17 : Int) ∧
 ((0 : Int) ≤ (17 : Int) ∧ (17 : Int) < (↑(List.length b) : Int)) ∧
 I64
 ((↑(UInt8.toNat (List.getD b (16 : Nat) (0 : UInt8))) : Int) * (256 : Int) +
 (↑(UInt8.toNat (List.getD b (17 : Nat) (0 : UInt8))) : Int)) ∧
 brP
 (decide (p = (17 : Int)) &&
 decide
 ((↑(UInt8.toNat (List.getD b (16 : Nat) (0 : UInt8))) : Int) * (256 : Int) +
 (↑(UInt8.toNat (List.getD b (17 : Nat) (0 : UInt8))) : Int) =
 (0 : Int)) &&
 decide ((↑(List.length was) : Int) = (4 : Int)))
 (K
 (AVal.str
 (List.take (2 : Nat) b ++
 List.take (2 : Nat)
 (List.drop (0 : Nat) [b8 (Int.tdiv port (256 : Int)), b8 (Int.tmod port (256 : Int))]) ++
 List.drop (4 : Nat) b))
 [])
 (List.length was ≤ (140737488355328 : Nat) ∧
 List.length now ≤ (140737488355328 : Nat) ∧
 ((0 : Int) ≤
 (↑(UInt8.toNat (List.getD b (16 : Nat) (0 : UInt8))) : Int) * (256 : Int) +
 (↑(UInt8.toNat (List.getD b (17 : Nat) (0 : UInt8))) : Int) ∧
 (↑(UInt8.toNat (List.getD b (16 : Nat) (0 : UInt8))) : Int) * (256 : Int) +
 (↑(UInt8.toNat (List.getD b (17 : Nat) (0 : UInt8))) : Int) ≤
 (65535 : Int) ∧
 List.length (List.take (List.length was) (List.drop (0 : Nat) was)) =
 List.length (List.take (List.length now) (List.drop (0 : Nat) now)) ∧
 List.length (List.take (List.length was) (List.drop (0 : Nat) was)) % (2 : Nat) = (0 : Nat)) ∧
 List.length (List.drop (2 : Nat) (List.take (4 : Nat) b)) ≤ (140737488355328 : Nat) ∧
 (2 : Nat) ≤ (140737488355328 : Nat) ∧
 ((0 : Int) ≤
 chg
 ((↑(UInt8.toNat (List.getD b (16 : Nat) (0 : UInt8))) : Int) * (256 : Int) +
 (↑(UInt8.toNat (List.getD b (17 : Nat) (0 : UInt8))) : Int))
 (List.take (List.length was) (List.drop (0 : Nat) was))
 (List.take (List.length now) (List.drop (0 : Nat) now)) ∧
 chg
 ((↑(UInt8.toNat (List.getD b (16 : Nat) (0 : UInt8))) : Int) * (256 : Int) +
 (↑(UInt8.toNat (List.getD b (17 : Nat) (0 : UInt8))) : Int))
 (List.take (List.length was) (List.drop (0 : Nat) was))
 (List.take (List.length now) (List.drop (0 : Nat) now)) ≤
 (65535 : Int) ∧
 List.length
 (List.take (List.length (List.drop (2 : Nat) (List.take (4 : Nat) b)))
 (List.drop (0 : Nat) (List.drop (2 : Nat) (List.take (4 : Nat) b)))) =
 (2 : Nat) ∧
 List.length
 (List.take (List.length (List.drop (2 : Nat) (List.take (4 : Nat) b)))
 (List.drop (0 : Nat) (List.drop (2 : Nat) (List.take (4 : Nat) b)))) %
 (2 : Nat) =
 (0 : Nat)) ∧
 brP
 (decide (p = (17 : Int)) &&
 decide
 (chg
 (chg
 ((↑(UInt8.toNat (List.getD b (16 : Nat) (0 : UInt8))) : Int) * (256 : Int) +
 (↑(UInt8.toNat (List.getD b (17 : Nat) (0 : UInt8))) : Int))
 (List.take (List.length was) (List.drop (0 : Nat) was))
 (List.take (List.length now) (List.drop (0 : Nat) now)))
 (List.take (List.length (List.drop (2 : Nat) (List.take (4 : Nat) b)))
 (List.drop (0 : Nat) (List.drop (2 : Nat) (List.take (4 : Nat) b))))
 (List.take (2 : Nat)
 (List.drop (0 : Nat)
 (List.take (2 : Nat)
 (List.drop (0 : Nat)
 [b8 (Int.tdiv port (256 : Int)), b8 (Int.tmod port (256 : Int))])))) =
 (0 : Int)))
 (((256 : Int) ≠ (0 : Int) ∧ I64 (255 : Int)) ∧
 (256 : Int) ≠ (0 : Int) ∧
 ((0 : Int) ≤ (16 : Int) ∧
 (16 : Int) ≤
 (↑(List.length
 (List.take (2 : Nat) b ++
 List.take (2 : Nat)
 (List.drop (0 : Nat)
 [b8 (Int.tdiv port (256 : Int)), b8 (Int.tmod port (256 : Int))]) ++
 List.drop (4 : Nat) b)) :
 Int)) ∧
 List.length
 (List.take (16 : Nat)
 (List.take (2 : Nat) b ++
 List.take (2 : Nat)
 (List.drop (0 : Nat)
 [b8 (Int.tdiv port (256 : Int)), b8 (Int.tmod port (256 : Int))]) ++
 List.drop (4 : Nat) b)) +
 (2 : Nat) ≤
 (4611686018427387904 : Nat) ∧
 I64 (18 : Int) ∧
 ((0 : Int) ≤ (18 : Int) ∧
 (18 : Int) ≤
 (↑(List.length
 (List.take (2 : Nat) b ++
 List.take (2 : Nat)
 (List.drop (0 : Nat)
 [b8 (Int.tdiv port (256 : Int)), b8 (Int.tmod port (256 : Int))]) ++
 List.drop (4 : Nat) b)) :
 Int)) ∧
 List.length
 (List.take (16 : Nat)
 (List.take (2 : Nat) b ++
 List.take (2 : Nat)
 (List.drop (0 : Nat)
 [b8 (Int.tdiv port (256 : Int)), b8 (Int.tmod port (256 : Int))]) ++
 List.drop (4 : Nat) b) ++
 [(255 : UInt8), (255 : UInt8)]) +
 List.length
 (List.drop (18 : Nat)
 (List.take (2 : Nat) b ++
 List.take (2 : Nat)
 (List.drop (0 : Nat)
 [b8 (Int.tdiv port (256 : Int)), b8 (Int.tmod port (256 : Int))]) ++
 List.drop (4 : Nat) b)) ≤
 (4611686018427387904 : Nat) ∧
 K
 (AVal.str
 (List.take (16 : Nat)
 (List.take (2 : Nat) b ++
 List.take (2 : Nat)
 (List.drop (0 : Nat)
 [b8 (Int.tdiv port (256 : Int)), b8 (Int.tmod port (256 : Int))]) ++
 List.drop (4 : Nat) b) ++
 [(255 : UInt8), (255 : UInt8)] ++
 List.drop (18 : Nat)
 (List.take (2 : Nat) b ++
 List.take (2 : Nat)
 (List.drop (0 : Nat)
 [b8 (Int.tdiv port (256 : Int)), b8 (Int.tmod port (256 : Int))]) ++
 List.drop (4 : Nat) b)))
 [])
 (((256 : Int) ≠ (0 : Int) ∧
 I64
 (Int.tdiv
 (chg
 (chg
 ((↑(UInt8.toNat (List.getD b (16 : Nat) (0 : UInt8))) : Int) * (256 : Int) +
 (↑(UInt8.toNat (List.getD b (17 : Nat) (0 : UInt8))) : Int))
 (List.take (List.length was) (List.drop (0 : Nat) was))
 (List.take (List.length now) (List.drop (0 : Nat) now)))
 (List.take (List.length (List.drop (2 : Nat) (List.take (4 : Nat) b)))
 (List.drop (0 : Nat) (List.drop (2 : Nat) (List.take (4 : Nat) b))))
 (List.take (2 : Nat)
 (List.drop (0 : Nat)
 (List.take (2 : Nat)
 (List.drop (0 : Nat)
 [b8 (Int.tdiv port (256 : Int)), b8 (Int.tmod port (256 : Int))])))))
 (256 : Int))) ∧
 (256 : Int) ≠ (0 : Int) ∧
 ((0 : Int) ≤ (16 : Int) ∧
 (16 : Int) ≤
 (↑(List.length
 (List.take (2 : Nat) b ++
 List.take (2 : Nat)
 (List.drop (0 : Nat)
 [b8 (Int.tdiv port (256 : Int)), b8 (Int.tmod port (256 : Int))]) ++
 List.drop (4 : Nat) b)) :
 Int)) ∧
 List.length
 (List.take (16 : Nat)
 (List.take (2 : Nat) b ++
 List.take (2 : Nat)
 (List.drop (0 : Nat)
 [b8 (Int.tdiv port (256 : Int)), b8 (Int.tmod port (256 : Int))]) ++
 List.drop (4 : Nat) b)) +
 (2 : Nat) ≤
 (4611686018427387904 : Nat) ∧
 I64 (18 : Int) ∧
 ((0 : Int) ≤ (18 : Int) ∧
 (18 : Int) ≤
 (↑(List.length
 (List.take (2 : Nat) b ++
 List.take (2 : Nat)
 (List.drop (0 : Nat)
 [b8 (Int.tdiv port (256 : Int)), b8 (Int.tmod port (256 : Int))]) ++
 List.drop (4 : Nat) b)) :
 Int)) ∧
 List.length
 (List.take (16 : Nat)
 (List.take (2 : Nat) b ++
 List.take (2 : Nat)
 (List.drop (0 : Nat)
 [b8 (Int.tdiv port (256 : Int)), b8 (Int.tmod port (256 : Int))]) ++
 List.drop (4 : Nat) b) ++
 List.take (2 : Nat)
 (List.drop (0 : Nat)
 [b8
 (Int.tdiv
 (chg
 (chg
 ((↑(UInt8.toNat (List.getD b (16 : Nat) (0 : UInt8))) : Int) * (256 : Int) +
 (↑(UInt8.toNat (List.getD b (17 : Nat) (0 : UInt8))) : Int))
 (List.take (List.length was) (List.drop (0 : Nat) was))
 (List.take (List.length now) (List.drop (0 : Nat) now)))
 (List.take (List.length (List.drop (2 : Nat) (List.take (4 : Nat) b)))
 (List.drop (0 : Nat) (List.drop (2 : Nat) (List.take (4 : Nat) b))))
 (List.take (2 : Nat)
 (List.drop (0 : Nat)
 (List.take (2 : Nat)
 (List.drop (0 : Nat)
 [b8 (Int.tdiv port (256 : Int)), b8 (Int.tmod port (256 : Int))])))))
 (256 : Int)),
 b8
 (Int.tmod
 (chg
 (chg
 ((↑(UInt8.toNat (List.getD b (16 : Nat) (0 : UInt8))) : Int) * (256 : Int) +
 (↑(UInt8.toNat (List.getD b (17 : Nat) (0 : UInt8))) : Int))
 (List.take (List.length was) (List.drop (0 : Nat) was))
 (List.take (List.length now) (List.drop (0 : Nat) now)))
 (List.take (List.length (List.drop (2 : Nat) (List.take (4 : Nat) b)))
 (List.drop (0 : Nat) (List.drop (2 : Nat) (List.take (4 : Nat) b))))
 (List.take (2 : Nat)
 (List.drop (0 : Nat)
 (List.take (2 : Nat)
 (List.drop (0 : Nat)
 [b8 (Int.tdiv port (256 : Int)), b8 (Int.tmod port (256 : Int))])))))
 (256 : Int))])) +
 List.length
 (List.drop (18 : Nat)
 (List.take (2 : Nat) b ++
 List.take (2 : Nat)
 (List.drop (0 : Nat)
 [b8 (Int.tdiv port (256 : Int)), b8 (Int.tmod port (256 : Int))]) ++
 List.drop (4 : Nat) b)) ≤
 (4611686018427387904 : Nat) ∧
 K
 (AVal.str
 (List.take (16 : Nat)
 (List.take (2 : Nat) b ++
 List.take (2 : Nat)
 (List.drop (0 : Nat)
 [b8 (Int.tdiv port (256 : Int)), b8 (Int.tmod port (256 : Int))]) ++
 List.drop (4 : Nat) b) ++
 List.take (2 : Nat)
 (List.drop (0 : Nat)
 [b8
 (Int.tdiv
 (chg
 (chg
 ((↑(UInt8.toNat (List.getD b (16 : Nat) (0 : UInt8))) : Int) * (256 : Int) +
 (↑(UInt8.toNat (List.getD b (17 : Nat) (0 : UInt8))) : Int))
 (List.take (List.length was) (List.drop (0 : Nat) was))
 (List.take (List.length now) (List.drop (0 : Nat) now)))
 (List.take (List.length (List.drop (2 : Nat) (List.take (4 : Nat) b)))
 (List.drop (0 : Nat) (List.drop (2 : Nat) (List.take (4 : Nat) b))))
 (List.take (2 : Nat)
 (List.drop (0 : Nat)
 (List.take (2 : Nat)
 (List.drop (0 : Nat)
 [b8 (Int.tdiv port (256 : Int)), b8 (Int.tmod port (256 : Int))])))))
 (256 : Int)),
 b8
 (Int.tmod
 (chg
 (chg
 ((↑(UInt8.toNat (List.getD b (16 : Nat) (0 : UInt8))) : Int) * (256 : Int) +
 (↑(UInt8.toNat (List.getD b (17 : Nat) (0 : UInt8))) : Int))
 (List.take (List.length was) (List.drop (0 : Nat) was))
 (List.take (List.length now) (List.drop (0 : Nat) now)))
 (List.take (List.length (List.drop (2 : Nat) (List.take (4 : Nat) b)))
 (List.drop (0 : Nat) (List.drop (2 : Nat) (List.take (4 : Nat) b))))
 (List.take (2 : Nat)
 (List.drop (0 : Nat)
 (List.take (2 : Nat)
 (List.drop (0 : Nat)
 [b8 (Int.tdiv port (256 : Int)), b8 (Int.tmod port (256 : Int))])))))
 (256 : Int))]) ++
 List.drop (18 : Nat)
 (List.take (2 : Nat) b ++
 List.take (2 : Nat)
 (List.drop (0 : Nat)
 [b8 (Int.tdiv port (256 : Int)), b8 (Int.tmod port (256 : Int))]) ++
 List.drop (4 : Nat) b)))
 [])))
 (((0 : Int) ≤ (2 : Int) ∧ (2 : Int) ≤ (↑(List.length b) : Int)) ∧
 List.length (List.take (2 : Nat) b) + List.length (List.drop (2 : Nat) (List.take (4 : Nat) b)) ≤
 (4611686018427387904 : Nat) ∧
 I64 (4 : Int) ∧
 ((0 : Int) ≤ (4 : Int) ∧ (4 : Int) ≤ (↑(List.length b) : Int)) ∧
 List.length (List.take (2 : Nat) b ++ List.drop (2 : Nat) (List.take (4 : Nat) b)) +
 List.length (List.drop (4 : Nat) b) ≤
 (4611686018427387904 : Nat) ∧
 ((0 : Int) ≤ (16 : Int) ∧ (16 : Int) < (↑(List.length b) : Int)) ∧
 I64 ((↑(UInt8.toNat (List.getD b (16 : Nat) (0 : UInt8))) : Int) * (256 : Int)) ∧
 I64 (17 : Int) ∧
 ((0 : Int) ≤ (17 : Int) ∧ (17 : Int) < (↑(List.length b) : Int)) ∧
 I64
 ((↑(UInt8.toNat (List.getD b (16 : Nat) (0 : UInt8))) : Int) * (256 : Int) +
 (↑(UInt8.toNat (List.getD b (17 : Nat) (0 : UInt8))) : Int)) ∧
 brP
 (decide (p = (17 : Int)) &&
 decide
 ((↑(UInt8.toNat (List.getD b (16 : Nat) (0 : UInt8))) : Int) * (256 : Int) +
 (↑(UInt8.toNat (List.getD b (17 : Nat) (0 : UInt8))) : Int) =
 (0 : Int)) &&
 decide ((↑(List.length was) : Int) = (4 : Int)))
 (K
 (AVal.str
 (List.take (2 : Nat) b ++ List.drop (2 : Nat) (List.take (4 : Nat) b) ++ List.drop (4 : Nat) b))
 [])
 (List.length was ≤ (140737488355328 : Nat) ∧
 List.length now ≤ (140737488355328 : Nat) ∧
 ((0 : Int) ≤
 (↑(UInt8.toNat (List.getD b (16 : Nat) (0 : UInt8))) : Int) * (256 : Int) +
 (↑(UInt8.toNat (List.getD b (17 : Nat) (0 : UInt8))) : Int) ∧
 (↑(UInt8.toNat (List.getD b (16 : Nat) (0 : UInt8))) : Int) * (256 : Int) +
 (↑(UInt8.toNat (List.getD b (17 : Nat) (0 : UInt8))) : Int) ≤
 (65535 : Int) ∧
 List.length (List.take (List.length was) (List.drop (0 : Nat) was)) =
 List.length (List.take (List.length now) (List.drop (0 : Nat) now)) ∧
 List.length (List.take (List.length was) (List.drop (0 : Nat) was)) % (2 : Nat) = (0 : Nat)) ∧
 List.length (List.drop (2 : Nat) (List.take (4 : Nat) b)) ≤ (140737488355328 : Nat) ∧
 List.length (List.drop (2 : Nat) (List.take (4 : Nat) b)) ≤ (140737488355328 : Nat) ∧
 ((0 : Int) ≤
 chg
 ((↑(UInt8.toNat (List.getD b (16 : Nat) (0 : UInt8))) : Int) * (256 : Int) +
 (↑(UInt8.toNat (List.getD b (17 : Nat) (0 : UInt8))) : Int))
 (List.take (List.length was) (List.drop (0 : Nat) was))
 (List.take (List.length now) (List.drop (0 : Nat) now)) ∧
 chg
 ((↑(UInt8.toNat (List.getD b (16 : Nat) (0 : UInt8))) : Int) * (256 : Int) +
 (↑(UInt8.toNat (List.getD b (17 : Nat) (0 : UInt8))) : Int))
 (List.take (List.length was) (List.drop (0 : Nat) was))
 (List.take (List.length now) (List.drop (0 : Nat) now)) ≤
 (65535 : Int) ∧
 List.length
 (List.take (List.length (List.drop (2 : Nat) (List.take (4 : Nat) b)))
 (List.drop (0 : Nat) (List.drop (2 : Nat) (List.take (4 : Nat) b)))) =
 List.length
 (List.take (List.length (List.drop (2 : Nat) (List.take (4 : Nat) b)))
 (List.drop (0 : Nat) (List.drop (2 : Nat) (List.take (4 : Nat) b)))) ∧
 List.length
 (List.take (List.length (List.drop (2 : Nat) (List.take (4 : Nat) b)))
 (List.drop (0 : Nat) (List.drop (2 : Nat) (List.take (4 : Nat) b)))) %
 (2 : Nat) =
 (0 : Nat)) ∧
 brP
 (decide (p = (17 : Int)) &&
 decide
 (chg
 (chg
 ((↑(UInt8.toNat (List.getD b (16 : Nat) (0 : UInt8))) : Int) * (256 : Int) +
 (↑(UInt8.toNat (List.getD b (17 : Nat) (0 : UInt8))) : Int))
 (List.take (List.length was) (List.drop (0 : Nat) was))
 (List.take (List.length now) (List.drop (0 : Nat) now)))
 (List.take (List.length (List.drop (2 : Nat) (List.take (4 : Nat) b)))
 (List.drop (0 : Nat) (List.drop (2 : Nat) (List.take (4 : Nat) b))))
 (List.take (List.length (List.drop (2 : Nat) (List.take (4 : Nat) b)))
 (List.drop (0 : Nat) (List.drop (2 : Nat) (List.take (4 : Nat) b)))) =
 (0 : Int)))
 (((256 : Int) ≠ (0 : Int) ∧ I64 (255 : Int)) ∧
 (256 : Int) ≠ (0 : Int) ∧
 ((0 : Int) ≤ (16 : Int) ∧
 (16 : Int) ≤
 (↑(List.length
 (List.take (2 : Nat) b ++ List.drop (2 : Nat) (List.take (4 : Nat) b) ++
 List.drop (4 : Nat) b)) :
 Int)) ∧
 List.length
 (List.take (16 : Nat)
 (List.take (2 : Nat) b ++ List.drop (2 : Nat) (List.take (4 : Nat) b) ++
 List.drop (4 : Nat) b)) +
 (2 : Nat) ≤
 (4611686018427387904 : Nat) ∧
 I64 (18 : Int) ∧
 ((0 : Int) ≤ (18 : Int) ∧
 (18 : Int) ≤
 (↑(List.length
 (List.take (2 : Nat) b ++ List.drop (2 : Nat) (List.take (4 : Nat) b) ++
 List.drop (4 : Nat) b)) :
 Int)) ∧
 List.length
 (List.take (16 : Nat)
 (List.take (2 : Nat) b ++ List.drop (2 : Nat) (List.take (4 : Nat) b) ++
 List.drop (4 : Nat) b) ++
 [(255 : UInt8), (255 : UInt8)]) +
 List.length
 (List.drop (18 : Nat)
 (List.take (2 : Nat) b ++ List.drop (2 : Nat) (List.take (4 : Nat) b) ++
 List.drop (4 : Nat) b)) ≤
 (4611686018427387904 : Nat) ∧
 K
 (AVal.str
 (List.take (16 : Nat)
 (List.take (2 : Nat) b ++ List.drop (2 : Nat) (List.take (4 : Nat) b) ++
 List.drop (4 : Nat) b) ++
 [(255 : UInt8), (255 : UInt8)] ++
 List.drop (18 : Nat)
 (List.take (2 : Nat) b ++ List.drop (2 : Nat) (List.take (4 : Nat) b) ++
 List.drop (4 : Nat) b)))
 [])
 (((256 : Int) ≠ (0 : Int) ∧
 I64
 (Int.tdiv
 (chg
 (chg
 ((↑(UInt8.toNat (List.getD b (16 : Nat) (0 : UInt8))) : Int) * (256 : Int) +
 (↑(UInt8.toNat (List.getD b (17 : Nat) (0 : UInt8))) : Int))
 (List.take (List.length was) (List.drop (0 : Nat) was))
 (List.take (List.length now) (List.drop (0 : Nat) now)))
 (List.take (List.length (List.drop (2 : Nat) (List.take (4 : Nat) b)))
 (List.drop (0 : Nat) (List.drop (2 : Nat) (List.take (4 : Nat) b))))
 (List.take (List.length (List.drop (2 : Nat) (List.take (4 : Nat) b)))
 (List.drop (0 : Nat) (List.drop (2 : Nat) (List.take (4 : Nat) b)))))
 (256 : Int))) ∧
 (256 : Int) ≠ (0 : Int) ∧
 ((0 : Int) ≤ (16 : Int) ∧
 (16 : Int) ≤
 (↑(List.length
 (List.take (2 : Nat) b ++ List.drop (2 : Nat) (List.take (4 : Nat) b) ++
 List.drop (4 : Nat) b)) :
 Int)) ∧
 List.length
 (List.take (16 : Nat)
 (List.take (2 : Nat) b ++ List.drop (2 : Nat) (List.take (4 : Nat) b) ++
 List.drop (4 : Nat) b)) +
 (2 : Nat) ≤
 (4611686018427387904 : Nat) ∧
 I64 (18 : Int) ∧
 ((0 : Int) ≤ (18 : Int) ∧
 (18 : Int) ≤
 (↑(List.length
 (List.take (2 : Nat) b ++ List.drop (2 : Nat) (List.take (4 : Nat) b) ++
 List.drop (4 : Nat) b)) :
 Int)) ∧
 List.length
 (List.take (16 : Nat)
 (List.take (2 : Nat) b ++ List.drop (2 : Nat) (List.take (4 : Nat) b) ++
 List.drop (4 : Nat) b) ++
 List.take (2 : Nat)
 (List.drop (0 : Nat)
 [b8
 (Int.tdiv
 (chg
 (chg
 ((↑(UInt8.toNat (List.getD b (16 : Nat) (0 : UInt8))) : Int) * (256 : Int) +
 (↑(UInt8.toNat (List.getD b (17 : Nat) (0 : UInt8))) : Int))
 (List.take (List.length was) (List.drop (0 : Nat) was))
 (List.take (List.length now) (List.drop (0 : Nat) now)))
 (List.take (List.length (List.drop (2 : Nat) (List.take (4 : Nat) b)))
 (List.drop (0 : Nat) (List.drop (2 : Nat) (List.take (4 : Nat) b))))
 (List.take (List.length (List.drop (2 : Nat) (List.take (4 : Nat) b)))
 (List.drop (0 : Nat) (List.drop (2 : Nat) (List.take (4 : Nat) b)))))
 (256 : Int)),
 b8
 (Int.tmod
 (chg
 (chg
 ((↑(UInt8.toNat (List.getD b (16 : Nat) (0 : UInt8))) : Int) * (256 : Int) +
 (↑(UInt8.toNat (List.getD b (17 : Nat) (0 : UInt8))) : Int))
 (List.take (List.length was) (List.drop (0 : Nat) was))
 (List.take (List.length now) (List.drop (0 : Nat) now)))
 (List.take (List.length (List.drop (2 : Nat) (List.take (4 : Nat) b)))
 (List.drop (0 : Nat) (List.drop (2 : Nat) (List.take (4 : Nat) b))))
 (List.take (List.length (List.drop (2 : Nat) (List.take (4 : Nat) b)))
 (List.drop (0 : Nat) (List.drop (2 : Nat) (List.take (4 : Nat) b)))))
 (256 : Int))])) +
 List.length
 (List.drop (18 : Nat)
 (List.take (2 : Nat) b ++ List.drop (2 : Nat) (List.take (4 : Nat) b) ++
 List.drop (4 : Nat) b)) ≤
 (4611686018427387904 : Nat) ∧
 K
 (AVal.str
 (List.take (16 : Nat)
 (List.take (2 : Nat) b ++ List.drop (2 : Nat) (List.take (4 : Nat) b) ++
 List.drop (4 : Nat) b) ++
 List.take (2 : Nat)
 (List.drop (0 : Nat)
 [b8
 (Int.tdiv
 (chg
 (chg
 ((↑(UInt8.toNat (List.getD b (16 : Nat) (0 : UInt8))) : Int) * (256 : Int) +
 (↑(UInt8.toNat (List.getD b (17 : Nat) (0 : UInt8))) : Int))
 (List.take (List.length was) (List.drop (0 : Nat) was))
 (List.take (List.length now) (List.drop (0 : Nat) now)))
 (List.take (List.length (List.drop (2 : Nat) (List.take (4 : Nat) b)))
 (List.drop (0 : Nat) (List.drop (2 : Nat) (List.take (4 : Nat) b))))
 (List.take (List.length (List.drop (2 : Nat) (List.take (4 : Nat) b)))
 (List.drop (0 : Nat) (List.drop (2 : Nat) (List.take (4 : Nat) b)))))
 (256 : Int)),
 b8
 (Int.tmod
 (chg
 (chg
 ((↑(UInt8.toNat (List.getD b (16 : Nat) (0 : UInt8))) : Int) * (256 : Int) +
 (↑(UInt8.toNat (List.getD b (17 : Nat) (0 : UInt8))) : Int))
 (List.take (List.length was) (List.drop (0 : Nat) was))
 (List.take (List.length now) (List.drop (0 : Nat) now)))
 (List.take (List.length (List.drop (2 : Nat) (List.take (4 : Nat) b)))
 (List.drop (0 : Nat) (List.drop (2 : Nat) (List.take (4 : Nat) b))))
 (List.take (List.length (List.drop (2 : Nat) (List.take (4 : Nat) b)))
 (List.drop (0 : Nat) (List.drop (2 : Nat) (List.take (4 : Nat) b)))))
 (256 : Int))]) ++
 List.drop (18 : Nat)
 (List.take (2 : Nat) b ++ List.drop (2 : Nat) (List.take (4 : Nat) b) ++
 List.drop (4 : Nat) b)))
 []))))) := by kernel_rfl
theorem outriderref19_changed_p : ∀ args H K, turnRow args H K → fnP Try.prog Trw11 ann_outriderref19_changed Try.f34 args H K := by
  intro args H K h
  unfold turnRow at h
  split at h
  · rename_i f t p q b was now port
    obtain ⟨⟨hlen, hb, hwn, hw2, hw16, hp0, hp1⟩, hK⟩ := h
    rw [ref19_changed_0]
    have h8 : 0 + 2 ≤ b.length := by omega
    have tk2 : ∀ (y z : UInt8), List.take 2 [y, z] = [y, z] := fun _ _ => rfl
    have hold : List.take 2 b = [b.getD 0 0, b.getD 1 0] := twoAt_is h8
    have hbl : ∀ u v, (putB b 0 [u, v]).length = b.length := fun u v => putB_len h8
    have hP : ∀ u v : UInt8, List.take 0 b ++ [u, v] ++ List.drop 2 b = putB b 0 [u, v] := fun u v => rfl
    have hpT := tdT' hp0
    have hpI : I64 (Int.tdiv port 256) := by rw [Int.tdiv_eq_ediv_of_nonneg hp0]; unfold I64; omega
    have n256 : ((256 : Int) ≠ 0) = True := eq_true (by decide)
    have hF1 : b8 (65535 / 256) = 255 := by decide +kernel
    have hF2 : b8 65535 = 255 := by decide +kernel
    simp only [List.take_length, List.drop_zero, Nat.sub_zero, add_w16', hpT, hpI, n256, true_and, tk2, hold, hP]
    rcases hlen with ⟨hp, hb8⟩ | ⟨hp, hb20⟩
    · subst hp
      have hwb := w16_bd (b.getD 6 0) (b.getD 7 0)
      have hc1 := chg_bd (w16 (b.getD 6 0) (b.getD 7 0)) was now hwb
      have hcT : ∀ O F, [b8 (Int.tdiv (chg (chg (w16 (b.getD 6 0) (b.getD 7 0)) was now) O F) 256), b8 (Int.tmod (chg (chg (w16 (b.getD 6 0) (b.getD 7 0)) was now) O F) 256)] = [b8 (chg (chg (w16 (b.getD 6 0) (b.getD 7 0)) was now) O F / 256), b8 (chg (chg (w16 (b.getD 6 0) (b.getD 7 0)) was now) O F)] := fun O F => tdT' (chg_bd _ _ _ hc1).1
      have hcI : ∀ O F, I64 (Int.tdiv (chg (chg (w16 (b.getD 6 0) (b.getD 7 0)) was now) O F) 256) := fun O F => by
        have := chg_bd _ O F hc1
        rw [Int.tdiv_eq_ediv_of_nonneg this.1]; unfold I64; omega
      have hS : ∀ u v x y : UInt8, List.take 6 (putB b 0 [u, v]) ++ [x, y] ++ List.drop 8 (putB b 0 [u, v]) = putB (putB b 0 [u, v]) 6 [x, y] := fun u v x y => rfl
      unfold rwTurned rwNew rwOld sumAt rwFresh twoAt at hK
      simp only [if_true, if_false, true_and, false_and, two, Nat.reduceAdd] at hK
      simp only [decide_true, decide_false, Bool.true_and, Bool.false_and, brP_t, brP_f]
      by_cases hport : port = 0
      · have hpos : decide (0 < port) = false := by rw [hport]; rfl
        simp only [hport, if_true, hpos, brP_t, brP_f, hcT, hcI, hS, List.length_append, List.length_take, List.length_drop, List.length_cons, List.length_nil, hbl] at hK ⊢
        repeat' first | (refine And.intro (by first | first | omega | with_reducible exact i64_x256 _ | with_reducible exact i64_w16 _ _ | with_reducible exact i64_sum _ | (repeat' first | with_reducible exact i64_x256 _ | with_reducible exact i64_w16 _ _ | with_reducible exact i64_sum _ | with_reducible apply And.intro) <;> first | omega | (simp only [I64]; omega) | (simp; omega) | (simp; done) | (simp [I64]; omega) | (with_reducible refine impP_i (fun hg => ?_) <;> (try simp only [Bool.and_eq_true, Bool.or_eq_true, Bool.and_eq_false_iff, Bool.or_eq_false_iff, decide_eq_true_eq, decide_eq_false_iff_not, Bool.not_eq_true', Bool.not_eq_false', Bool.not_true, Bool.not_false, Bool.true_and, Bool.and_true, Bool.false_or, Bool.or_false, beq_iff_eq, beq_eq_false_iff_ne, ne_eq] at hg) <;> (first | omega | with_reducible exact i64_x256 _ | with_reducible exact i64_w16 _ _ | with_reducible exact i64_sum _ | (repeat' first | with_reducible exact i64_x256 _ | with_reducible exact i64_w16 _ _ | with_reducible exact i64_sum _ | with_reducible apply And.intro) <;> first | omega | (simp only [I64]; omega) | (simp; omega) | (simp; done) | (simp [I64]; omega)))) ?_) | (refine brP_d (fun h => ?_) (fun h => ?_)) | (refine brP_nd (fun h => ?_) (fun h => ?_)) | (refine brP_i (fun h => ?_) (fun h => ?_) <;> (try simp only [Bool.and_eq_true, Bool.or_eq_true, Bool.and_eq_false_iff, Bool.or_eq_false_iff, decide_eq_true_eq, decide_eq_false_iff_not, Bool.not_eq_true', Bool.not_eq_false', Bool.not_true, Bool.not_false, Bool.true_and, Bool.and_true, Bool.false_or, Bool.or_false, beq_iff_eq, beq_eq_false_iff_ne, ne_eq] at h))
        all_goals repeat' split at hK
        all_goals first | exact hK | (simp only [hF1, hF2] at hK; exact hK) | (exfalso; omega) | trace_state
      · have hpos : decide (0 < port) = true := by simp; omega
        simp only [hport, if_false, hpos, brP_t, brP_f, hcT, hcI, hS, List.length_append, List.length_take, List.length_drop, List.length_cons, List.length_nil, hbl] at hK ⊢
        repeat' first | (refine And.intro (by first | first | omega | with_reducible exact i64_x256 _ | with_reducible exact i64_w16 _ _ | with_reducible exact i64_sum _ | (repeat' first | with_reducible exact i64_x256 _ | with_reducible exact i64_w16 _ _ | with_reducible exact i64_sum _ | with_reducible apply And.intro) <;> first | omega | (simp only [I64]; omega) | (simp; omega) | (simp; done) | (simp [I64]; omega) | (with_reducible refine impP_i (fun hg => ?_) <;> (try simp only [Bool.and_eq_true, Bool.or_eq_true, Bool.and_eq_false_iff, Bool.or_eq_false_iff, decide_eq_true_eq, decide_eq_false_iff_not, Bool.not_eq_true', Bool.not_eq_false', Bool.not_true, Bool.not_false, Bool.true_and, Bool.and_true, Bool.false_or, Bool.or_false, beq_iff_eq, beq_eq_false_iff_ne, ne_eq] at hg) <;> (first | omega | with_reducible exact i64_x256 _ | with_reducible exact i64_w16 _ _ | with_reducible exact i64_sum _ | (repeat' first | with_reducible exact i64_x256 _ | with_reducible exact i64_w16 _ _ | with_reducible exact i64_sum _ | with_reducible apply And.intro) <;> first | omega | (simp only [I64]; omega) | (simp; omega) | (simp; done) | (simp [I64]; omega)))) ?_) | (refine brP_d (fun h => ?_) (fun h => ?_)) | (refine brP_nd (fun h => ?_) (fun h => ?_)) | (refine brP_i (fun h => ?_) (fun h => ?_) <;> (try simp only [Bool.and_eq_true, Bool.or_eq_true, Bool.and_eq_false_iff, Bool.or_eq_false_iff, decide_eq_true_eq, decide_eq_false_iff_not, Bool.not_eq_true', Bool.not_eq_false', Bool.not_true, Bool.not_false, Bool.true_and, Bool.and_true, Bool.false_or, Bool.or_false, beq_iff_eq, beq_eq_false_iff_ne, ne_eq] at h))
        all_goals repeat' split at hK
        all_goals first | exact hK | (simp only [hF1, hF2] at hK; exact hK) | (exfalso; omega) | trace_state
    · have hpf : (p = 17) = False := eq_false hp
      have hwb := w16_bd (b.getD 16 0) (b.getD 17 0)
      have hc1 := chg_bd (w16 (b.getD 16 0) (b.getD 17 0)) was now hwb
      have hcT : ∀ O F, [b8 (Int.tdiv (chg (chg (w16 (b.getD 16 0) (b.getD 17 0)) was now) O F) 256), b8 (Int.tmod (chg (chg (w16 (b.getD 16 0) (b.getD 17 0)) was now) O F) 256)] = [b8 (chg (chg (w16 (b.getD 16 0) (b.getD 17 0)) was now) O F / 256), b8 (chg (chg (w16 (b.getD 16 0) (b.getD 17 0)) was now) O F)] := fun O F => tdT' (chg_bd _ _ _ hc1).1
      have hcI : ∀ O F, I64 (Int.tdiv (chg (chg (w16 (b.getD 16 0) (b.getD 17 0)) was now) O F) 256) := fun O F => by
        have := chg_bd _ O F hc1
        rw [Int.tdiv_eq_ediv_of_nonneg this.1]; unfold I64; omega
      have hS : ∀ u v x y : UInt8, List.take 16 (putB b 0 [u, v]) ++ [x, y] ++ List.drop 18 (putB b 0 [u, v]) = putB (putB b 0 [u, v]) 16 [x, y] := fun u v x y => rfl
      unfold rwTurned rwNew rwOld sumAt rwFresh twoAt at hK
      simp only [hpf, if_true, if_false, true_and, false_and, two, Nat.reduceAdd] at hK
      simp only [hpf, decide_true, decide_false, Bool.true_and, Bool.false_and, brP_t, brP_f]
      by_cases hport : port = 0
      · have hpos : decide (0 < port) = false := by rw [hport]; rfl
        simp only [hport, if_true, hpos, brP_t, brP_f, hcT, hcI, hS, List.length_append, List.length_take, List.length_drop, List.length_cons, List.length_nil, hbl] at hK ⊢
        repeat' first | (refine And.intro (by first | first | omega | with_reducible exact i64_x256 _ | with_reducible exact i64_w16 _ _ | with_reducible exact i64_sum _ | (repeat' first | with_reducible exact i64_x256 _ | with_reducible exact i64_w16 _ _ | with_reducible exact i64_sum _ | with_reducible apply And.intro) <;> first | omega | (simp only [I64]; omega) | (simp; omega) | (simp; done) | (simp [I64]; omega) | (with_reducible refine impP_i (fun hg => ?_) <;> (try simp only [Bool.and_eq_true, Bool.or_eq_true, Bool.and_eq_false_iff, Bool.or_eq_false_iff, decide_eq_true_eq, decide_eq_false_iff_not, Bool.not_eq_true', Bool.not_eq_false', Bool.not_true, Bool.not_false, Bool.true_and, Bool.and_true, Bool.false_or, Bool.or_false, beq_iff_eq, beq_eq_false_iff_ne, ne_eq] at hg) <;> (first | omega | with_reducible exact i64_x256 _ | with_reducible exact i64_w16 _ _ | with_reducible exact i64_sum _ | (repeat' first | with_reducible exact i64_x256 _ | with_reducible exact i64_w16 _ _ | with_reducible exact i64_sum _ | with_reducible apply And.intro) <;> first | omega | (simp only [I64]; omega) | (simp; omega) | (simp; done) | (simp [I64]; omega)))) ?_) | (refine brP_d (fun h => ?_) (fun h => ?_)) | (refine brP_nd (fun h => ?_) (fun h => ?_)) | (refine brP_i (fun h => ?_) (fun h => ?_) <;> (try simp only [Bool.and_eq_true, Bool.or_eq_true, Bool.and_eq_false_iff, Bool.or_eq_false_iff, decide_eq_true_eq, decide_eq_false_iff_not, Bool.not_eq_true', Bool.not_eq_false', Bool.not_true, Bool.not_false, Bool.true_and, Bool.and_true, Bool.false_or, Bool.or_false, beq_iff_eq, beq_eq_false_iff_ne, ne_eq] at h))
        all_goals repeat' split at hK
        all_goals first | exact hK | (simp only [hF1, hF2] at hK; exact hK) | (exfalso; omega) | trace_state
      · have hpos : decide (0 < port) = true := by simp; omega
        simp only [hport, if_false, hpos, brP_t, brP_f, hcT, hcI, hS, List.length_append, List.length_take, List.length_drop, List.length_cons, List.length_nil, hbl] at hK ⊢
        repeat' first | (refine And.intro (by first | first | omega | with_reducible exact i64_x256 _ | with_reducible exact i64_w16 _ _ | with_reducible exact i64_sum _ | (repeat' first | with_reducible exact i64_x256 _ | with_reducible exact i64_w16 _ _ | with_reducible exact i64_sum _ | with_reducible apply And.intro) <;> first | omega | (simp only [I64]; omega) | (simp; omega) | (simp; done) | (simp [I64]; omega) | (with_reducible refine impP_i (fun hg => ?_) <;> (try simp only [Bool.and_eq_true, Bool.or_eq_true, Bool.and_eq_false_iff, Bool.or_eq_false_iff, decide_eq_true_eq, decide_eq_false_iff_not, Bool.not_eq_true', Bool.not_eq_false', Bool.not_true, Bool.not_false, Bool.true_and, Bool.and_true, Bool.false_or, Bool.or_false, beq_iff_eq, beq_eq_false_iff_ne, ne_eq] at hg) <;> (first | omega | with_reducible exact i64_x256 _ | with_reducible exact i64_w16 _ _ | with_reducible exact i64_sum _ | (repeat' first | with_reducible exact i64_x256 _ | with_reducible exact i64_w16 _ _ | with_reducible exact i64_sum _ | with_reducible apply And.intro) <;> first | omega | (simp only [I64]; omega) | (simp; omega) | (simp; done) | (simp [I64]; omega)))) ?_) | (refine brP_d (fun h => ?_) (fun h => ?_)) | (refine brP_nd (fun h => ?_) (fun h => ?_)) | (refine brP_i (fun h => ?_) (fun h => ?_) <;> (try simp only [Bool.and_eq_true, Bool.or_eq_true, Bool.and_eq_false_iff, Bool.or_eq_false_iff, decide_eq_true_eq, decide_eq_false_iff_not, Bool.not_eq_true', Bool.not_eq_false', Bool.not_true, Bool.not_false, Bool.true_and, Bool.and_true, Bool.false_or, Bool.or_false, beq_iff_eq, beq_eq_false_iff_ne, ne_eq] at h))
        all_goals repeat' split at hK
        all_goals first | exact hK | (simp only [hF1, hF2] at hK; exact hK) | (exfalso; omega) | trace_state
  · rename_i f t p q b was now port
    obtain ⟨⟨hlen, hb, hwn, hw2, hw16, hp0, hp1⟩, hK⟩ := h
    rw [ref19_changed_2]
    have h8 : 2 + 2 ≤ b.length := by omega
    have tk2 : ∀ (y z : UInt8), List.take 2 [y, z] = [y, z] := fun _ _ => rfl
    have hold : List.drop 2 (List.take 4 b) = [b.getD 2 0, b.getD 3 0] := twoAt_is h8
    have hbl : ∀ u v, (putB b 2 [u, v]).length = b.length := fun u v => putB_len h8
    have hP : ∀ u v : UInt8, List.take 2 b ++ [u, v] ++ List.drop 4 b = putB b 2 [u, v] := fun u v => rfl
    have hpT := tdT' hp0
    have hpI : I64 (Int.tdiv port 256) := by rw [Int.tdiv_eq_ediv_of_nonneg hp0]; unfold I64; omega
    have n256 : ((256 : Int) ≠ 0) = True := eq_true (by decide)
    have hF1 : b8 (65535 / 256) = 255 := by decide +kernel
    have hF2 : b8 65535 = 255 := by decide +kernel
    simp only [List.take_length, List.drop_zero, Nat.sub_zero, add_w16', hpT, hpI, n256, true_and, tk2, hold, hP]
    rcases hlen with ⟨hp, hb8⟩ | ⟨hp, hb20⟩
    · subst hp
      have hwb := w16_bd (b.getD 6 0) (b.getD 7 0)
      have hc1 := chg_bd (w16 (b.getD 6 0) (b.getD 7 0)) was now hwb
      have hcT : ∀ O F, [b8 (Int.tdiv (chg (chg (w16 (b.getD 6 0) (b.getD 7 0)) was now) O F) 256), b8 (Int.tmod (chg (chg (w16 (b.getD 6 0) (b.getD 7 0)) was now) O F) 256)] = [b8 (chg (chg (w16 (b.getD 6 0) (b.getD 7 0)) was now) O F / 256), b8 (chg (chg (w16 (b.getD 6 0) (b.getD 7 0)) was now) O F)] := fun O F => tdT' (chg_bd _ _ _ hc1).1
      have hcI : ∀ O F, I64 (Int.tdiv (chg (chg (w16 (b.getD 6 0) (b.getD 7 0)) was now) O F) 256) := fun O F => by
        have := chg_bd _ O F hc1
        rw [Int.tdiv_eq_ediv_of_nonneg this.1]; unfold I64; omega
      have hS : ∀ u v x y : UInt8, List.take 6 (putB b 2 [u, v]) ++ [x, y] ++ List.drop 8 (putB b 2 [u, v]) = putB (putB b 2 [u, v]) 6 [x, y] := fun u v x y => rfl
      unfold rwTurned rwNew rwOld sumAt rwFresh twoAt at hK
      simp only [if_true, if_false, true_and, false_and, two, Nat.reduceAdd] at hK
      simp only [decide_true, decide_false, Bool.true_and, Bool.false_and, brP_t, brP_f]
      by_cases hport : port = 0
      · have hpos : decide (0 < port) = false := by rw [hport]; rfl
        simp only [hport, if_true, hpos, brP_t, brP_f, hcT, hcI, hS, List.length_append, List.length_take, List.length_drop, List.length_cons, List.length_nil, hbl] at hK ⊢
        repeat' first | (refine And.intro (by first | first | omega | with_reducible exact i64_x256 _ | with_reducible exact i64_w16 _ _ | with_reducible exact i64_sum _ | (repeat' first | with_reducible exact i64_x256 _ | with_reducible exact i64_w16 _ _ | with_reducible exact i64_sum _ | with_reducible apply And.intro) <;> first | omega | (simp only [I64]; omega) | (simp; omega) | (simp; done) | (simp [I64]; omega) | (with_reducible refine impP_i (fun hg => ?_) <;> (try simp only [Bool.and_eq_true, Bool.or_eq_true, Bool.and_eq_false_iff, Bool.or_eq_false_iff, decide_eq_true_eq, decide_eq_false_iff_not, Bool.not_eq_true', Bool.not_eq_false', Bool.not_true, Bool.not_false, Bool.true_and, Bool.and_true, Bool.false_or, Bool.or_false, beq_iff_eq, beq_eq_false_iff_ne, ne_eq] at hg) <;> (first | omega | with_reducible exact i64_x256 _ | with_reducible exact i64_w16 _ _ | with_reducible exact i64_sum _ | (repeat' first | with_reducible exact i64_x256 _ | with_reducible exact i64_w16 _ _ | with_reducible exact i64_sum _ | with_reducible apply And.intro) <;> first | omega | (simp only [I64]; omega) | (simp; omega) | (simp; done) | (simp [I64]; omega)))) ?_) | (refine brP_d (fun h => ?_) (fun h => ?_)) | (refine brP_nd (fun h => ?_) (fun h => ?_)) | (refine brP_i (fun h => ?_) (fun h => ?_) <;> (try simp only [Bool.and_eq_true, Bool.or_eq_true, Bool.and_eq_false_iff, Bool.or_eq_false_iff, decide_eq_true_eq, decide_eq_false_iff_not, Bool.not_eq_true', Bool.not_eq_false', Bool.not_true, Bool.not_false, Bool.true_and, Bool.and_true, Bool.false_or, Bool.or_false, beq_iff_eq, beq_eq_false_iff_ne, ne_eq] at h))
        all_goals repeat' split at hK
        all_goals first | exact hK | (simp only [hF1, hF2] at hK; exact hK) | (exfalso; omega) | trace_state
      · have hpos : decide (0 < port) = true := by simp; omega
        simp only [hport, if_false, hpos, brP_t, brP_f, hcT, hcI, hS, List.length_append, List.length_take, List.length_drop, List.length_cons, List.length_nil, hbl] at hK ⊢
        repeat' first | (refine And.intro (by first | first | omega | with_reducible exact i64_x256 _ | with_reducible exact i64_w16 _ _ | with_reducible exact i64_sum _ | (repeat' first | with_reducible exact i64_x256 _ | with_reducible exact i64_w16 _ _ | with_reducible exact i64_sum _ | with_reducible apply And.intro) <;> first | omega | (simp only [I64]; omega) | (simp; omega) | (simp; done) | (simp [I64]; omega) | (with_reducible refine impP_i (fun hg => ?_) <;> (try simp only [Bool.and_eq_true, Bool.or_eq_true, Bool.and_eq_false_iff, Bool.or_eq_false_iff, decide_eq_true_eq, decide_eq_false_iff_not, Bool.not_eq_true', Bool.not_eq_false', Bool.not_true, Bool.not_false, Bool.true_and, Bool.and_true, Bool.false_or, Bool.or_false, beq_iff_eq, beq_eq_false_iff_ne, ne_eq] at hg) <;> (first | omega | with_reducible exact i64_x256 _ | with_reducible exact i64_w16 _ _ | with_reducible exact i64_sum _ | (repeat' first | with_reducible exact i64_x256 _ | with_reducible exact i64_w16 _ _ | with_reducible exact i64_sum _ | with_reducible apply And.intro) <;> first | omega | (simp only [I64]; omega) | (simp; omega) | (simp; done) | (simp [I64]; omega)))) ?_) | (refine brP_d (fun h => ?_) (fun h => ?_)) | (refine brP_nd (fun h => ?_) (fun h => ?_)) | (refine brP_i (fun h => ?_) (fun h => ?_) <;> (try simp only [Bool.and_eq_true, Bool.or_eq_true, Bool.and_eq_false_iff, Bool.or_eq_false_iff, decide_eq_true_eq, decide_eq_false_iff_not, Bool.not_eq_true', Bool.not_eq_false', Bool.not_true, Bool.not_false, Bool.true_and, Bool.and_true, Bool.false_or, Bool.or_false, beq_iff_eq, beq_eq_false_iff_ne, ne_eq] at h))
        all_goals repeat' split at hK
        all_goals first | exact hK | (simp only [hF1, hF2] at hK; exact hK) | (exfalso; omega) | trace_state
    · have hpf : (p = 17) = False := eq_false hp
      have hwb := w16_bd (b.getD 16 0) (b.getD 17 0)
      have hc1 := chg_bd (w16 (b.getD 16 0) (b.getD 17 0)) was now hwb
      have hcT : ∀ O F, [b8 (Int.tdiv (chg (chg (w16 (b.getD 16 0) (b.getD 17 0)) was now) O F) 256), b8 (Int.tmod (chg (chg (w16 (b.getD 16 0) (b.getD 17 0)) was now) O F) 256)] = [b8 (chg (chg (w16 (b.getD 16 0) (b.getD 17 0)) was now) O F / 256), b8 (chg (chg (w16 (b.getD 16 0) (b.getD 17 0)) was now) O F)] := fun O F => tdT' (chg_bd _ _ _ hc1).1
      have hcI : ∀ O F, I64 (Int.tdiv (chg (chg (w16 (b.getD 16 0) (b.getD 17 0)) was now) O F) 256) := fun O F => by
        have := chg_bd _ O F hc1
        rw [Int.tdiv_eq_ediv_of_nonneg this.1]; unfold I64; omega
      have hS : ∀ u v x y : UInt8, List.take 16 (putB b 2 [u, v]) ++ [x, y] ++ List.drop 18 (putB b 2 [u, v]) = putB (putB b 2 [u, v]) 16 [x, y] := fun u v x y => rfl
      unfold rwTurned rwNew rwOld sumAt rwFresh twoAt at hK
      simp only [hpf, if_true, if_false, true_and, false_and, two, Nat.reduceAdd] at hK
      simp only [hpf, decide_true, decide_false, Bool.true_and, Bool.false_and, brP_t, brP_f]
      by_cases hport : port = 0
      · have hpos : decide (0 < port) = false := by rw [hport]; rfl
        simp only [hport, if_true, hpos, brP_t, brP_f, hcT, hcI, hS, List.length_append, List.length_take, List.length_drop, List.length_cons, List.length_nil, hbl] at hK ⊢
        repeat' first | (refine And.intro (by first | first | omega | with_reducible exact i64_x256 _ | with_reducible exact i64_w16 _ _ | with_reducible exact i64_sum _ | (repeat' first | with_reducible exact i64_x256 _ | with_reducible exact i64_w16 _ _ | with_reducible exact i64_sum _ | with_reducible apply And.intro) <;> first | omega | (simp only [I64]; omega) | (simp; omega) | (simp; done) | (simp [I64]; omega) | (with_reducible refine impP_i (fun hg => ?_) <;> (try simp only [Bool.and_eq_true, Bool.or_eq_true, Bool.and_eq_false_iff, Bool.or_eq_false_iff, decide_eq_true_eq, decide_eq_false_iff_not, Bool.not_eq_true', Bool.not_eq_false', Bool.not_true, Bool.not_false, Bool.true_and, Bool.and_true, Bool.false_or, Bool.or_false, beq_iff_eq, beq_eq_false_iff_ne, ne_eq] at hg) <;> (first | omega | with_reducible exact i64_x256 _ | with_reducible exact i64_w16 _ _ | with_reducible exact i64_sum _ | (repeat' first | with_reducible exact i64_x256 _ | with_reducible exact i64_w16 _ _ | with_reducible exact i64_sum _ | with_reducible apply And.intro) <;> first | omega | (simp only [I64]; omega) | (simp; omega) | (simp; done) | (simp [I64]; omega)))) ?_) | (refine brP_d (fun h => ?_) (fun h => ?_)) | (refine brP_nd (fun h => ?_) (fun h => ?_)) | (refine brP_i (fun h => ?_) (fun h => ?_) <;> (try simp only [Bool.and_eq_true, Bool.or_eq_true, Bool.and_eq_false_iff, Bool.or_eq_false_iff, decide_eq_true_eq, decide_eq_false_iff_not, Bool.not_eq_true', Bool.not_eq_false', Bool.not_true, Bool.not_false, Bool.true_and, Bool.and_true, Bool.false_or, Bool.or_false, beq_iff_eq, beq_eq_false_iff_ne, ne_eq] at h))
        all_goals repeat' split at hK
        all_goals first | exact hK | (simp only [hF1, hF2] at hK; exact hK) | (exfalso; omega) | trace_state
      · have hpos : decide (0 < port) = true := by simp; omega
        simp only [hport, if_false, hpos, brP_t, brP_f, hcT, hcI, hS, List.length_append, List.length_take, List.length_drop, List.length_cons, List.length_nil, hbl] at hK ⊢
        repeat' first | (refine And.intro (by first | first | omega | with_reducible exact i64_x256 _ | with_reducible exact i64_w16 _ _ | with_reducible exact i64_sum _ | (repeat' first | with_reducible exact i64_x256 _ | with_reducible exact i64_w16 _ _ | with_reducible exact i64_sum _ | with_reducible apply And.intro) <;> first | omega | (simp only [I64]; omega) | (simp; omega) | (simp; done) | (simp [I64]; omega) | (with_reducible refine impP_i (fun hg => ?_) <;> (try simp only [Bool.and_eq_true, Bool.or_eq_true, Bool.and_eq_false_iff, Bool.or_eq_false_iff, decide_eq_true_eq, decide_eq_false_iff_not, Bool.not_eq_true', Bool.not_eq_false', Bool.not_true, Bool.not_false, Bool.true_and, Bool.and_true, Bool.false_or, Bool.or_false, beq_iff_eq, beq_eq_false_iff_ne, ne_eq] at hg) <;> (first | omega | with_reducible exact i64_x256 _ | with_reducible exact i64_w16 _ _ | with_reducible exact i64_sum _ | (repeat' first | with_reducible exact i64_x256 _ | with_reducible exact i64_w16 _ _ | with_reducible exact i64_sum _ | with_reducible apply And.intro) <;> first | omega | (simp only [I64]; omega) | (simp; omega) | (simp; done) | (simp [I64]; omega)))) ?_) | (refine brP_d (fun h => ?_) (fun h => ?_)) | (refine brP_nd (fun h => ?_) (fun h => ?_)) | (refine brP_i (fun h => ?_) (fun h => ?_) <;> (try simp only [Bool.and_eq_true, Bool.or_eq_true, Bool.and_eq_false_iff, Bool.or_eq_false_iff, decide_eq_true_eq, decide_eq_false_iff_not, Bool.not_eq_true', Bool.not_eq_false', Bool.not_true, Bool.not_false, Bool.true_and, Bool.and_true, Bool.false_or, Bool.or_false, beq_iff_eq, beq_eq_false_iff_ne, ne_eq] at h))
        all_goals repeat' split at hK
        all_goals first | exact hK | (simp only [hF1, hF2] at hK; exact hK) | (exfalso; omega) | trace_state
  · exact h.elim
def Trw12 : Specs := ext Trw11 34 (turnRow)
theorem Trw12_sound : TSound Try.prog Trw12 := ext_sound Trw11_sound (row_of Trw11_sound mixed Try.func34 (by decide +kernel) outriderref19_changed_p)
def ann_rewrite_change : Nat → List Nat × Nat × List (List Nat)
  | 8 => ([], 9, [[], [], [], [2], [2, 3], [], [], [0, 1, 2, 3, 4, 5, 6], [0, 1, 2, 3, 4, 5, 6, 7]])
  | 2000003 => ([], 20, [[], [0], [0, 1], [0, 1, 2], [0, 1, 2, 3], [0, 1, 2, 3, 4], [0, 1, 2, 3, 4, 5], [0, 1, 2, 3, 4, 5, 6], [0, 1, 2, 3, 4, 5, 6, 7], [0, 1, 2, 3, 4, 5, 6, 7, 8], [0, 1, 2, 3, 4, 5, 6, 7, 8, 9], [0, 1, 2, 3, 4, 5, 6, 7, 8, 9, 10], [0, 1, 2, 3, 4, 5, 6, 7, 8, 9, 10, 11], [0, 1, 2, 3, 4, 5, 6, 7, 8, 9, 10, 11, 12], [0, 1, 2, 3, 4, 5, 6, 7, 8, 9, 10, 11, 12, 13], [0, 1, 2, 3, 4, 5, 6, 7, 8, 9, 10, 11, 12, 13, 14], [0, 1, 2, 3, 4, 5, 6, 7, 8, 9, 10, 11, 12, 13, 14, 15], [0, 1, 2, 3, 4, 5, 6, 7, 8, 9, 10, 11, 12, 13, 14, 15, 16], [0, 1, 2, 3, 4, 5, 6, 7, 8, 9, 10, 11, 12, 13, 14, 15, 16, 17]])
  | _ => ([], 0, [])
set_option maxRecDepth 100000 in
theorem rewrite_change_to (f t : List UInt8) (p q : Int) (b a : List UInt8) (n : Int) (K : AVal → Hp → Prop) : fnP Try.prog Trw12 ann_rewrite_change Try.f23 [.agg [.str f, .str t, .int .i64 p, .int .i64 q, .str b], .str a, .int .i64 n, .fn 24 [] []] [] K = (
 List.length b ≤ (140737488351232 : Nat) ∧
 brP
 (!decide ((ptRead (Ip.mk f t p q b)).snd = (0 : Int)) ||
 !decide ((↑(List.length a) : Int) = (↑(List.length t) : Int)) ||
 decide (n < (0 : Int)) ||
 decide ((65535 : Int) < n))
 (K
 (AVal.tup
 [AVal.agg [AVal.str [], AVal.str [], AVal.int IntKind.i64 (0 : Int), AVal.int IntKind.i64 (0 : Int), AVal.str []],
 AVal.int IntKind.i64 (190 : Int)])
 [])
 (brP (decide (q ≤ (1 : Int)))
 (K
 (AVal.tup
 [AVal.agg [AVal.str [], AVal.str [], AVal.int IntKind.i64 (0 : Int), AVal.int IntKind.i64 (0 : Int), AVal.str []],
 AVal.int IntKind.i64 (191 : Int)])
 [])
 (I64 (q - (1 : Int)) ∧
 ((p = (17 : Int) ∧ (8 : Nat) ≤ List.length b ∨ p ≠ (17 : Int) ∧ (20 : Nat) ≤ List.length b) ∧
 List.length b ≤ (140737488351232 : Nat) ∧
 List.length t = List.length a ∧
 List.length t % (2 : Nat) = (0 : Nat) ∧ List.length t ≤ (16 : Nat) ∧ (0 : Int) ≤ n ∧ n ≤ (65535 : Int)) ∧
 K
 (AVal.tup
 [AVal.agg
 [AVal.str f, AVal.str a, AVal.int IntKind.i64 p, AVal.int IntKind.i64 (q - (1 : Int)),
 AVal.str (rwTurned (Ip.mk f t p q b) (2 : Nat) t a n)],
 AVal.int IntKind.i64 (0 : Int)])
 []))) := by kernel_rfl
set_option maxRecDepth 100000 in
theorem rewrite_change_from (f t : List UInt8) (p q : Int) (b a : List UInt8) (n : Int) (K : AVal → Hp → Prop) : fnP Try.prog Trw12 ann_rewrite_change Try.f23 [.agg [.str f, .str t, .int .i64 p, .int .i64 q, .str b], .str a, .int .i64 n, .fn 35 [] []] [] K = (
 List.length b ≤ (140737488351232 : Nat) ∧
 brP
 (!decide ((ptRead (Ip.mk f t p q b)).snd = (0 : Int)) ||
 !decide ((↑(List.length a) : Int) = (↑(List.length f) : Int)) ||
 decide (n < (0 : Int)) ||
 decide ((65535 : Int) < n))
 (K
 (AVal.tup
 [AVal.agg [AVal.str [], AVal.str [], AVal.int IntKind.i64 (0 : Int), AVal.int IntKind.i64 (0 : Int), AVal.str []],
 AVal.int IntKind.i64 (190 : Int)])
 [])
 (brP (decide (q ≤ (1 : Int)))
 (K
 (AVal.tup
 [AVal.agg [AVal.str [], AVal.str [], AVal.int IntKind.i64 (0 : Int), AVal.int IntKind.i64 (0 : Int), AVal.str []],
 AVal.int IntKind.i64 (191 : Int)])
 [])
 (I64 (q - (1 : Int)) ∧
 ((p = (17 : Int) ∧ (8 : Nat) ≤ List.length b ∨ p ≠ (17 : Int) ∧ (20 : Nat) ≤ List.length b) ∧
 List.length b ≤ (140737488351232 : Nat) ∧
 List.length f = List.length a ∧
 List.length f % (2 : Nat) = (0 : Nat) ∧ List.length f ≤ (16 : Nat) ∧ (0 : Int) ≤ n ∧ n ≤ (65535 : Int)) ∧
 K
 (AVal.tup
 [AVal.agg
 [AVal.str a, AVal.str t, AVal.int IntKind.i64 p, AVal.int IntKind.i64 (q - (1 : Int)),
 AVal.str (rwTurned (Ip.mk f t p q b) (0 : Nat) f a n)],
 AVal.int IntKind.i64 (0 : Int)])
 []))) := by kernel_rfl
theorem rewrite_change_p : ∀ args H K, chRow 24 35 args H K → fnP Try.prog Trw12 ann_rewrite_change Try.f23 args H K := by
  intro args H K h
  unfold chRow at h
  split at h
  · rename_i f t p q b a n g
    obtain ⟨hb, hq, hK⟩ := h
    cases hg : Nat.beq g 24 with
    | true =>
      rw [hg] at hK
      obtain rfl := Nat.eq_of_beq_eq_true hg
      simp only [cond_true] at hK
      rw [rewrite_change_to]
      unfold ipOut rwTo at hK
      refine ⟨hb, ?_⟩
      refine brP_i (fun h => ?_) (fun h => ?_)
      · simp only [Bool.and_eq_true, Bool.or_eq_true, Bool.and_eq_false_iff, Bool.or_eq_false_iff, decide_eq_true_eq, decide_eq_false_iff_not, Bool.not_eq_true', Bool.not_eq_false', Bool.not_true, Bool.not_false, Bool.true_and, Bool.and_true, Bool.false_or, Bool.or_false, beq_iff_eq, beq_eq_false_iff_ne, ne_eq] at h
        rw [if_pos (by simp only; omega)] at hK; exact hK
      simp only [Bool.and_eq_true, Bool.or_eq_true, Bool.and_eq_false_iff, Bool.or_eq_false_iff, decide_eq_true_eq, decide_eq_false_iff_not, Bool.not_eq_true', Bool.not_eq_false', Bool.not_true, Bool.not_false, Bool.true_and, Bool.and_true, Bool.false_or, Bool.or_false, beq_iff_eq, beq_eq_false_iff_ne, ne_eq] at h
      rw [if_neg (by simp only; omega)] at hK
      refine brP_d (fun h2 => ?_) (fun h2 => ?_)
      · simp only [h2, if_true] at hK; exact hK
      simp only [h2, if_false] at hK
      have hr := ptRead_len h.1.1.1
      simp only at hr
      refine ⟨by unfold I64 at *; omega, ⟨by omega, by omega, by omega, by omega, by omega, by omega, by omega⟩, hK⟩
    | false =>
      rw [hg] at hK
      simp only [cond_false] at hK
      cases hg2 : Nat.beq g 35 with
      | false => rw [hg2] at hK; exact hK.elim
      | true =>
        rw [hg2] at hK
        obtain rfl := Nat.eq_of_beq_eq_true hg2
        simp only [cond_true] at hK
        rw [rewrite_change_from]
        unfold ipOut rwFrom at hK
        refine ⟨hb, ?_⟩
        refine brP_i (fun h => ?_) (fun h => ?_)
        · simp only [Bool.and_eq_true, Bool.or_eq_true, Bool.and_eq_false_iff, Bool.or_eq_false_iff, decide_eq_true_eq, decide_eq_false_iff_not, Bool.not_eq_true', Bool.not_eq_false', Bool.not_true, Bool.not_false, Bool.true_and, Bool.and_true, Bool.false_or, Bool.or_false, beq_iff_eq, beq_eq_false_iff_ne, ne_eq] at h
          rw [if_pos (by simp only; omega)] at hK; exact hK
        simp only [Bool.and_eq_true, Bool.or_eq_true, Bool.and_eq_false_iff, Bool.or_eq_false_iff, decide_eq_true_eq, decide_eq_false_iff_not, Bool.not_eq_true', Bool.not_eq_false', Bool.not_true, Bool.not_false, Bool.true_and, Bool.and_true, Bool.false_or, Bool.or_false, beq_iff_eq, beq_eq_false_iff_ne, ne_eq] at h
        rw [if_neg (by simp only; omega)] at hK
        refine brP_d (fun h2 => ?_) (fun h2 => ?_)
        · simp only [h2, if_true] at hK; exact hK
        simp only [h2, if_false] at hK
        have hr := ptRead_len h.1.1.1
        simp only at hr
        refine ⟨by unfold I64 at *; omega, ⟨by omega, by omega, by omega, by omega, by omega, by omega, by omega⟩, hK⟩
  · exact h.elim
def Trw13 : Specs := ext Trw12 23 (chRow 24 35)
theorem Trw13_sound : TSound Try.prog Trw13 := ext_sound Trw12_sound (row_of Trw12_sound mixed Try.func23 (by decide +kernel) rewrite_change_p)
def ann_rewrite_To : Nat → List Nat × Nat × List (List Nat)
  | _ => ([], 0, [])
def Trw14 : Specs := ext Trw13 8 (fnP Try.prog Trw13 ann_rewrite_To Try.f8)
theorem Trw14_sound : TSound Try.prog Trw14 := ext_sound Trw13_sound (fn_row Trw13_sound mixed Try.func8 (by decide +kernel))
def ann_rewrite_From : Nat → List Nat × Nat × List (List Nat)
  | _ => ([], 0, [])
def Trw15 : Specs := ext Trw14 15 (fnP Try.prog Trw14 ann_rewrite_From Try.f15)
theorem Trw15_sound : TSound Try.prog Trw15 := ext_sound Trw14_sound (fn_row Trw14_sound mixed Try.func15 (by decide +kernel))
def ann_rewrite_Wrap : Nat → List Nat × Nat × List (List Nat)
  | 5 => ([], 9, [[], [], [], [2], [2, 3], [], [5], [0, 1, 2, 3, 4, 5, 6], []])
  | 2000007 => ([], 7, [[], [0], [0, 1], [0, 1, 2], [0, 1, 2, 3], [0, 1, 2, 3, 4]])
  | _ => ([], 0, [])
set_option maxRecDepth 100000 in
theorem rewrite_Wrap_eq (f t : List UInt8) (p q : Int) (b x y : List UInt8) (K : AVal → Hp → Prop) : fnP Try.prog Trw15 ann_rewrite_Wrap Try.f19 [.agg [.str f, .str t, .int .i64 p, .int .i64 q, .str b], .str x, .str y] [] K = (
 brP (decide (q ≤ (1 : Int)))
 (K
 (AVal.tup
 [AVal.agg [AVal.str [], AVal.str [], AVal.int IntKind.i64 (0 : Int), AVal.int IntKind.i64 (0 : Int), AVal.str []],
 AVal.int IntKind.i64 (191 : Int)])
 [])
 (I64 (q - (1 : Int)) ∧
 optP (ipEncode (Ip.mk f t p (q - (1 : Int)) b))
 (fun x_1 =>
 brP (decide ((↑(List.length f) : Int) = (16 : Int)))
 (optP (ipEncode (Ip.mk x y (41 : Int) (64 : Int) (List.take (List.length x_1) (List.drop (0 : Nat) x_1))))
 (fun x_2 =>
 K
 (AVal.tup
 [AVal.agg
 [AVal.str x, AVal.str y, AVal.int IntKind.i64 (41 : Int), AVal.int IntKind.i64 (64 : Int),
 AVal.str (List.take (List.length x_1) (List.drop (0 : Nat) x_1))],
 AVal.int IntKind.i64 (0 : Int)])
 [])
 (K
 (AVal.tup
 [AVal.agg
 [AVal.str [], AVal.str [], AVal.int IntKind.i64 (0 : Int), AVal.int IntKind.i64 (0 : Int), AVal.str []],
 AVal.int IntKind.i64 (190 : Int)])
 []))
 (optP (ipEncode (Ip.mk x y (4 : Int) (64 : Int) (List.take (List.length x_1) (List.drop (0 : Nat) x_1))))
 (fun x_2 =>
 K
 (AVal.tup
 [AVal.agg
 [AVal.str x, AVal.str y, AVal.int IntKind.i64 (4 : Int), AVal.int IntKind.i64 (64 : Int),
 AVal.str (List.take (List.length x_1) (List.drop (0 : Nat) x_1))],
 AVal.int IntKind.i64 (0 : Int)])
 [])
 (K
 (AVal.tup
 [AVal.agg
 [AVal.str [], AVal.str [], AVal.int IntKind.i64 (0 : Int), AVal.int IntKind.i64 (0 : Int), AVal.str []],
 AVal.int IntKind.i64 (190 : Int)])
 [])))
 (brP (decide ((↑(List.length f) : Int) = (16 : Int)))
 (optP (ipEncode (Ip.mk x y (41 : Int) (64 : Int) []))
 (fun x =>
 K
 (AVal.tup
 [AVal.agg
 [AVal.str [], AVal.str [], AVal.int IntKind.i64 (0 : Int), AVal.int IntKind.i64 (0 : Int), AVal.str []],
 AVal.int IntKind.i64 (190 : Int)])
 [])
 (K
 (AVal.tup
 [AVal.agg
 [AVal.str [], AVal.str [], AVal.int IntKind.i64 (0 : Int), AVal.int IntKind.i64 (0 : Int), AVal.str []],
 AVal.int IntKind.i64 (190 : Int)])
 []))
 (optP (ipEncode (Ip.mk x y (4 : Int) (64 : Int) []))
 (fun x =>
 K
 (AVal.tup
 [AVal.agg
 [AVal.str [], AVal.str [], AVal.int IntKind.i64 (0 : Int), AVal.int IntKind.i64 (0 : Int), AVal.str []],
 AVal.int IntKind.i64 (190 : Int)])
 [])
 (K
 (AVal.tup
 [AVal.agg
 [AVal.str [], AVal.str [], AVal.int IntKind.i64 (0 : Int), AVal.int IntKind.i64 (0 : Int), AVal.str []],
 AVal.int IntKind.i64 (190 : Int)])
 []))))) := by kernel_rfl
theorem rewrite_Wrap_p : ∀ args H K, wrapRow args H K → fnP Try.prog Trw15 ann_rewrite_Wrap Try.f19 args H K := by
  intro args H K h
  unfold wrapRow at h
  split at h
  · rename_i f t p q b x y
    obtain ⟨hq, hK⟩ := h
    rw [rewrite_Wrap_eq]
    unfold ipOut rwWrap rwKind at hK
    refine brP_d (fun h => ?_) (fun h => ⟨by unfold I64 at *; omega, ?_⟩)
    · simp only [h, if_true] at hK; exact hK
    simp only [h, if_false] at hK
    refine optP_i (fun x1 h1 => ?_) (fun h1 => ?_)
    · have ok1 := ipEnc_some h1
      have e1 : x1 = ipBytes ⟨f, t, p, q - 1, b⟩ := by
        unfold ipEncode at h1; rw [if_pos ok1] at h1; exact (Option.some.inj h1).symm
      subst e1
      simp only [List.drop_zero, List.take_length]
      refine brP_d (fun h16 => ?_) (fun h16 => ?_)
      · have h16 : f.length = 16 := by omega
        simp only [h16, if_true, ok1, true_and] at hK
        refine optP_i (fun x2 h2 => ?_) (fun h2 => ?_)
        · simp only [ipEnc_some h2, if_true] at hK; exact hK
        · simp only [ipEnc_none h2, Bool.false_eq_true, if_false] at hK; exact hK
      · have h16 : ¬ f.length = 16 := by omega
        simp only [h16, if_false, ok1, true_and] at hK
        refine optP_i (fun x2 h2 => ?_) (fun h2 => ?_)
        · simp only [ipEnc_some h2, if_true] at hK; exact hK
        · simp only [ipEnc_none h2, Bool.false_eq_true, if_false] at hK; exact hK
    · simp only [ipEnc_none h1, Bool.false_eq_true, false_and, if_false] at hK
      first
        | exact hK
        | exact brP_d (fun _ => optP_i (fun _ _ => hK) (fun _ => hK)) (fun _ => optP_i (fun _ _ => hK) (fun _ => hK))
  · exact h.elim
def Trw16 : Specs := ext Trw15 19 (wrapRow)
theorem Trw16_sound : TSound Try.prog Trw16 := ext_sound Trw15_sound (row_of Trw15_sound mixed Try.func19 (by decide +kernel) rewrite_Wrap_p)
def ann_rewrite_Unwrap : Nat → List Nat × Nat × List (List Nat)
  | 2 => ([], 10, [[], [0], [0, 1], [0, 1, 2], [0, 1, 2, 3], [0, 1, 2], [0, 1, 2, 5], [0, 1, 2, 5, 6], [0, 1, 2, 3, 4, 5, 6, 7], [0, 1, 2, 3, 4, 5, 6, 7, 8]])
  | _ => ([], 0, [])
set_option maxRecDepth 100000 in
theorem rewrite_Unwrap_eq (f t : List UInt8) (p q : Int) (b : List UInt8) (K : AVal → Hp → Prop) : fnP Try.prog Trw16 ann_rewrite_Unwrap Try.f21 [.agg [.str f, .str t, .int .i64 p, .int .i64 q, .str b]] [] K = (
 List.length b ≤ (140737488355328 : Nat) ∧
 brP (!decide ((ipDecode (List.take (List.length b) (List.drop (0 : Nat) b))).snd = (0 : Int)))
 (K
 (AVal.tup
 [AVal.agg [AVal.str [], AVal.str [], AVal.int IntKind.i64 (0 : Int), AVal.int IntKind.i64 (0 : Int), AVal.str []],
 AVal.int IntKind.i64 (190 : Int)])
 [])
 (brP
 (decide
 ((↑(List.length (ipDecode (List.take (List.length b) (List.drop (0 : Nat) b))).fst.src) : Int) = (16 : Int)))
 (brP (!decide (p = (41 : Int)))
 (K
 (AVal.tup
 [AVal.agg
 [AVal.str [], AVal.str [], AVal.int IntKind.i64 (0 : Int), AVal.int IntKind.i64 (0 : Int), AVal.str []],
 AVal.int IntKind.i64 (190 : Int)])
 [])
 (K
 (AVal.tup
 [AVal.agg
 [AVal.str (ipDecode (List.take (List.length b) (List.drop (0 : Nat) b))).fst.src,
 AVal.str (ipDecode (List.take (List.length b) (List.drop (0 : Nat) b))).fst.dst,
 AVal.int IntKind.i64 (ipDecode (List.take (List.length b) (List.drop (0 : Nat) b))).fst.proto,
 AVal.int IntKind.i64 (ipDecode (List.take (List.length b) (List.drop (0 : Nat) b))).fst.ttl,
 AVal.str (ipDecode (List.take (List.length b) (List.drop (0 : Nat) b))).fst.body],
 AVal.int IntKind.i64 (0 : Int)])
 []))
 (brP (!decide (p = (4 : Int)))
 (K
 (AVal.tup
 [AVal.agg
 [AVal.str [], AVal.str [], AVal.int IntKind.i64 (0 : Int), AVal.int IntKind.i64 (0 : Int), AVal.str []],
 AVal.int IntKind.i64 (190 : Int)])
 [])
 (K
 (AVal.tup
 [AVal.agg
 [AVal.str (ipDecode (List.take (List.length b) (List.drop (0 : Nat) b))).fst.src,
 AVal.str (ipDecode (List.take (List.length b) (List.drop (0 : Nat) b))).fst.dst,
 AVal.int IntKind.i64 (ipDecode (List.take (List.length b) (List.drop (0 : Nat) b))).fst.proto,
 AVal.int IntKind.i64 (ipDecode (List.take (List.length b) (List.drop (0 : Nat) b))).fst.ttl,
 AVal.str (ipDecode (List.take (List.length b) (List.drop (0 : Nat) b))).fst.body],
 AVal.int IntKind.i64 (0 : Int)])
 [])))) := by kernel_rfl
theorem rewrite_Unwrap_p : ∀ args H K, unwrapRow args H K → fnP Try.prog Trw16 ann_rewrite_Unwrap Try.f21 args H K := by
  intro args H K h
  unfold unwrapRow at h
  split at h
  · rename_i f t p q b
    obtain ⟨hb, hK⟩ := h
    rw [rewrite_Unwrap_eq]
    unfold ipOut rwUnwrap rwKind at hK
    simp only [or_w16, div2, div3, add_w16, and255, b8_mod, List.set_cons_zero, List.set_cons_succ, andNot_4000, getD_drop, getD_take, b8_byte, b8_toNatN, UInt8.toNat_ofNat', UInt8.toNat_and, nat_mask4, nat_mask6, nat_240, u8_eq_iff, UInt8.reduceToNat, Int.reduceLT, List.take_succ_cons, List.take_zero, List.drop_zero, List.flatten_cons, List.flatten_nil, List.append_nil, List.nil_append, List.take_length, Nat.mul_one, Nat.zero_add, Nat.reduceAdd, Nat.reduceLT]
    generalize ipDecode b = D at hK ⊢
    obtain ⟨⟨f', t', p', q', b'⟩, e⟩ := D
    simp only at hK ⊢
    by_cases h16 : f'.length = 16
    · simp only [h16, if_true] at hK
      repeat' first | (refine And.intro (by first | first | omega | with_reducible exact i64_x256 _ | with_reducible exact i64_w16 _ _ | with_reducible exact i64_sum _ | (repeat' first | with_reducible exact i64_x256 _ | with_reducible exact i64_w16 _ _ | with_reducible exact i64_sum _ | with_reducible apply And.intro) <;> first | omega | (simp only [I64]; omega) | (simp; omega) | (simp; done) | (simp [I64]; omega) | (with_reducible refine impP_i (fun hg => ?_) <;> (try simp only [Bool.and_eq_true, Bool.or_eq_true, Bool.and_eq_false_iff, Bool.or_eq_false_iff, decide_eq_true_eq, decide_eq_false_iff_not, Bool.not_eq_true', Bool.not_eq_false', Bool.not_true, Bool.not_false, Bool.true_and, Bool.and_true, Bool.false_or, Bool.or_false, beq_iff_eq, beq_eq_false_iff_ne, ne_eq] at hg) <;> (first | omega | with_reducible exact i64_x256 _ | with_reducible exact i64_w16 _ _ | with_reducible exact i64_sum _ | (repeat' first | with_reducible exact i64_x256 _ | with_reducible exact i64_w16 _ _ | with_reducible exact i64_sum _ | with_reducible apply And.intro) <;> first | omega | (simp only [I64]; omega) | (simp; omega) | (simp; done) | (simp [I64]; omega)))) ?_) | (refine brP_d (fun h => ?_) (fun h => ?_)) | (refine brP_nd (fun h => ?_) (fun h => ?_)) | (refine brP_i (fun h => ?_) (fun h => ?_) <;> (try simp only [Bool.and_eq_true, Bool.or_eq_true, Bool.and_eq_false_iff, Bool.or_eq_false_iff, decide_eq_true_eq, decide_eq_false_iff_not, Bool.not_eq_true', Bool.not_eq_false', Bool.not_true, Bool.not_false, Bool.true_and, Bool.and_true, Bool.false_or, Bool.or_false, beq_iff_eq, beq_eq_false_iff_ne, ne_eq] at h))
      all_goals repeat' split at hK
      all_goals first | exact hK | (exfalso; omega)
    · simp only [h16, if_false] at hK
      repeat' first | (refine And.intro (by first | first | omega | with_reducible exact i64_x256 _ | with_reducible exact i64_w16 _ _ | with_reducible exact i64_sum _ | (repeat' first | with_reducible exact i64_x256 _ | with_reducible exact i64_w16 _ _ | with_reducible exact i64_sum _ | with_reducible apply And.intro) <;> first | omega | (simp only [I64]; omega) | (simp; omega) | (simp; done) | (simp [I64]; omega) | (with_reducible refine impP_i (fun hg => ?_) <;> (try simp only [Bool.and_eq_true, Bool.or_eq_true, Bool.and_eq_false_iff, Bool.or_eq_false_iff, decide_eq_true_eq, decide_eq_false_iff_not, Bool.not_eq_true', Bool.not_eq_false', Bool.not_true, Bool.not_false, Bool.true_and, Bool.and_true, Bool.false_or, Bool.or_false, beq_iff_eq, beq_eq_false_iff_ne, ne_eq] at hg) <;> (first | omega | with_reducible exact i64_x256 _ | with_reducible exact i64_w16 _ _ | with_reducible exact i64_sum _ | (repeat' first | with_reducible exact i64_x256 _ | with_reducible exact i64_w16 _ _ | with_reducible exact i64_sum _ | with_reducible apply And.intro) <;> first | omega | (simp only [I64]; omega) | (simp; omega) | (simp; done) | (simp [I64]; omega)))) ?_) | (refine brP_d (fun h => ?_) (fun h => ?_)) | (refine brP_nd (fun h => ?_) (fun h => ?_)) | (refine brP_i (fun h => ?_) (fun h => ?_) <;> (try simp only [Bool.and_eq_true, Bool.or_eq_true, Bool.and_eq_false_iff, Bool.or_eq_false_iff, decide_eq_true_eq, decide_eq_false_iff_not, Bool.not_eq_true', Bool.not_eq_false', Bool.not_true, Bool.not_false, Bool.true_and, Bool.and_true, Bool.false_or, Bool.or_false, beq_iff_eq, beq_eq_false_iff_ne, ne_eq] at h))
      all_goals repeat' split at hK
      all_goals first | exact hK | (exfalso; omega)
  · exact h.elim
def Trw17 : Specs := ext Trw16 21 (unwrapRow)
theorem Trw17_sound : TSound Try.prog Trw17 := ext_sound Trw16_sound (row_of Trw16_sound mixed Try.func21 (by decide +kernel) rewrite_Unwrap_p)
def ann_outriderref19_Wrap : Nat → List Nat × Nat × List (List Nat)
  | _ => ([], 0, [])
set_option maxRecDepth 100000 in
theorem ref19_Wrap_eq (f t : List UInt8) (p q : Int) (b x y : List UInt8) (K : AVal → Hp → Prop) : fnP Try.prog Trw17 ann_outriderref19_Wrap Try.f20 [.agg [.str f, .str t, .int .i64 p, .int .i64 q, .str b], .str x, .str y] [] K = (
 brP (decide (q ≤ (1 : Int)))
 (K
 (AVal.tup
 [AVal.agg [AVal.str [], AVal.str [], AVal.int IntKind.i64 (0 : Int), AVal.int IntKind.i64 (0 : Int), AVal.str []],
 AVal.int IntKind.i64 (191 : Int)])
 [])
 (I64 (q - (1 : Int)) ∧
 optP (ipEncode (Ip.mk f t p (q - (1 : Int)) b))
 (fun x_1 =>
 brP (decide ((↑(List.length f) : Int) = (16 : Int)))
 (optP (ipEncode (Ip.mk x y (41 : Int) (64 : Int) (List.take (List.length x_1) (List.drop (0 : Nat) x_1))))
 (fun x_2 =>
 K
 (AVal.tup
 [AVal.agg
 [AVal.str x, AVal.str y, AVal.int IntKind.i64 (41 : Int), AVal.int IntKind.i64 (64 : Int),
 AVal.str (List.take (List.length x_1) (List.drop (0 : Nat) x_1))],
 AVal.int IntKind.i64 (0 : Int)])
 [])
 (K
 (AVal.tup
 [AVal.agg
 [AVal.str [], AVal.str [], AVal.int IntKind.i64 (0 : Int), AVal.int IntKind.i64 (0 : Int), AVal.str []],
 AVal.int IntKind.i64 (190 : Int)])
 []))
 (optP (ipEncode (Ip.mk x y (4 : Int) (64 : Int) (List.take (List.length x_1) (List.drop (0 : Nat) x_1))))
 (fun x_2 =>
 K
 (AVal.tup
 [AVal.agg
 [AVal.str x, AVal.str y, AVal.int IntKind.i64 (4 : Int), AVal.int IntKind.i64 (64 : Int),
 AVal.str (List.take (List.length x_1) (List.drop (0 : Nat) x_1))],
 AVal.int IntKind.i64 (0 : Int)])
 [])
 (K
 (AVal.tup
 [AVal.agg
 [AVal.str [], AVal.str [], AVal.int IntKind.i64 (0 : Int), AVal.int IntKind.i64 (0 : Int), AVal.str []],
 AVal.int IntKind.i64 (190 : Int)])
 [])))
 (K
 (AVal.tup
 [AVal.agg [AVal.str [], AVal.str [], AVal.int IntKind.i64 (0 : Int), AVal.int IntKind.i64 (0 : Int), AVal.str []],
 AVal.int IntKind.i64 (190 : Int)])
 []))) := by kernel_rfl
theorem outriderref19_Wrap_p : ∀ args H K, wrapRow args H K → fnP Try.prog Trw17 ann_outriderref19_Wrap Try.f20 args H K := by
  intro args H K h
  unfold wrapRow at h
  split at h
  · rename_i f t p q b x y
    obtain ⟨hq, hK⟩ := h
    rw [ref19_Wrap_eq]
    unfold ipOut rwWrap rwKind at hK
    refine brP_d (fun h => ?_) (fun h => ⟨by unfold I64 at *; omega, ?_⟩)
    · simp only [h, if_true] at hK; exact hK
    simp only [h, if_false] at hK
    refine optP_i (fun x1 h1 => ?_) (fun h1 => ?_)
    · have ok1 := ipEnc_some h1
      have e1 : x1 = ipBytes ⟨f, t, p, q - 1, b⟩ := by
        unfold ipEncode at h1; rw [if_pos ok1] at h1; exact (Option.some.inj h1).symm
      subst e1
      simp only [List.drop_zero, List.take_length]
      refine brP_d (fun h16 => ?_) (fun h16 => ?_)
      · have h16 : f.length = 16 := by omega
        simp only [h16, if_true, ok1, true_and] at hK
        refine optP_i (fun x2 h2 => ?_) (fun h2 => ?_)
        · simp only [ipEnc_some h2, if_true] at hK; exact hK
        · simp only [ipEnc_none h2, Bool.false_eq_true, if_false] at hK; exact hK
      · have h16 : ¬ f.length = 16 := by omega
        simp only [h16, if_false, ok1, true_and] at hK
        refine optP_i (fun x2 h2 => ?_) (fun h2 => ?_)
        · simp only [ipEnc_some h2, if_true] at hK; exact hK
        · simp only [ipEnc_none h2, Bool.false_eq_true, if_false] at hK; exact hK
    · simp only [ipEnc_none h1, Bool.false_eq_true, false_and, if_false] at hK
      first
        | exact hK
        | exact brP_d (fun _ => optP_i (fun _ _ => hK) (fun _ => hK)) (fun _ => optP_i (fun _ _ => hK) (fun _ => hK))
  · exact h.elim
def Trw18 : Specs := ext Trw17 20 (wrapRow)
theorem Trw18_sound : TSound Try.prog Trw18 := ext_sound Trw17_sound (row_of Trw17_sound mixed Try.func20 (by decide +kernel) outriderref19_Wrap_p)
def ann_outriderref19_Unwrap : Nat → List Nat × Nat × List (List Nat)
  | 2000002 => ([], 23, [[], [0], [0, 1], [0, 1, 2], [0, 1, 2, 3], [0, 1, 2, 3, 4], [0, 1, 2, 3, 4, 5], [0, 1, 2, 3, 4, 5, 6], [0, 1, 2, 3, 4, 5, 6, 7], [0, 1, 2, 3, 4, 5, 6, 7, 8], [0, 1, 2, 3, 4, 5, 6, 7, 8, 9], [0, 1, 2, 3, 4, 5, 6, 7, 8, 9, 10], [0, 1, 2, 3, 4, 5, 6, 7, 8, 9, 10, 11], [0, 1, 2, 3, 4, 5, 6, 7, 8, 9, 10, 11, 12], [0, 1, 2, 3, 4, 5, 6, 7, 8, 9, 10, 11, 12, 13], [0, 1, 2, 3, 4, 5, 6, 7, 8, 9, 10, 11, 12, 13, 14], [0, 1, 2, 3, 4, 5, 6, 7, 8, 9, 10, 11, 12, 13, 14, 15], [0, 1, 2, 3, 4, 5, 6, 7, 8, 9, 10, 11, 12, 13, 14, 15, 16], [0, 1, 2, 3, 4, 5, 6, 7, 8, 9, 10, 11, 12, 13, 14, 15, 16, 17], [0, 1, 2, 3, 4, 5, 6, 7, 8, 9, 10, 11, 12, 13, 14, 15, 16, 17, 18], [0, 1, 2, 3, 4, 5, 6, 7, 8, 9, 10, 11, 12, 13, 14, 15, 16, 17, 18, 19], [0, 1, 2, 3, 4, 5, 6, 7, 8, 9, 10, 11, 12, 13, 14, 15, 16, 17, 18, 19, 20]])
  | _ => ([], 0, [])
set_option maxRecDepth 100000 in
theorem ref19_Unwrap_eq (f t : List UInt8) (p q : Int) (b : List UInt8) (K : AVal → Hp → Prop) : fnP Try.prog Trw18 ann_outriderref19_Unwrap Try.f22 [.agg [.str f, .str t, .int .i64 p, .int .i64 q, .str b]] [] K = (
 List.length b ≤ (140737488355328 : Nat) ∧
 List.length (List.take (List.length b) (List.drop (0 : Nat) b)) ≤ (140737488355328 : Nat) ∧
 brP
 (!decide ((ipDecode (List.take (List.length b) (List.drop (0 : Nat) b))).snd = (0 : Int)) ||
 !decide (p = (4 : Int)) && !decide (p = (41 : Int)) ||
 !decide
 (decide (p = (41 : Int)) =
 decide
 ((↑(List.length (ipDecode (List.take (List.length b) (List.drop (0 : Nat) b))).fst.src) : Int) = (16 : Int))))
 (K
 (AVal.tup
 [AVal.agg [AVal.str [], AVal.str [], AVal.int IntKind.i64 (0 : Int), AVal.int IntKind.i64 (0 : Int), AVal.str []],
 AVal.int IntKind.i64 (190 : Int)])
 [])
 (K
 (AVal.tup
 [AVal.agg
 [AVal.str (ipDecode (List.take (List.length b) (List.drop (0 : Nat) b))).fst.src,
 AVal.str (ipDecode (List.take (List.length b) (List.drop (0 : Nat) b))).fst.dst,
 AVal.int IntKind.i64 (ipDecode (List.take (List.length b) (List.drop (0 : Nat) b))).fst.proto,
 AVal.int IntKind.i64 (ipDecode (List.take (List.length b) (List.drop (0 : Nat) b))).fst.ttl,
 AVal.str (ipDecode (List.take (List.length b) (List.drop (0 : Nat) b))).fst.body],
 AVal.int IntKind.i64 (0 : Int)])
 [])) := by kernel_rfl
theorem outriderref19_Unwrap_p : ∀ args H K, unwrapRow args H K → fnP Try.prog Trw18 ann_outriderref19_Unwrap Try.f22 args H K := by
  intro args H K h
  unfold unwrapRow at h
  split at h
  · rename_i f t p q b
    obtain ⟨hb, hK⟩ := h
    rw [ref19_Unwrap_eq]
    unfold ipOut rwUnwrap rwKind at hK
    simp only [or_w16, div2, div3, add_w16, and255, b8_mod, List.set_cons_zero, List.set_cons_succ, andNot_4000, getD_drop, getD_take, b8_byte, b8_toNatN, UInt8.toNat_ofNat', UInt8.toNat_and, nat_mask4, nat_mask6, nat_240, u8_eq_iff, UInt8.reduceToNat, Int.reduceLT, List.take_succ_cons, List.take_zero, List.drop_zero, List.flatten_cons, List.flatten_nil, List.append_nil, List.nil_append, List.take_length, Nat.mul_one, Nat.zero_add, Nat.reduceAdd, Nat.reduceLT]
    generalize ipDecode b = D at hK ⊢
    obtain ⟨⟨f', t', p', q', b'⟩, e⟩ := D
    simp only at hK ⊢
    refine ⟨by omega, by omega, ?_⟩
    have h16i : ((f'.length : Int) = 16) = (f'.length = 16) := by rw [eq_iff_iff]; omega
    simp only [h16i]
    by_cases h16 : f'.length = 16 <;> by_cases he : e = 0 <;> by_cases hp : p = 41 <;> by_cases hp4 : p = 4 <;> (try omega)
    all_goals simp only [h16, he, hp, hp4, if_true, if_false, decide_true, decide_false, true_and, false_and, and_false, and_true, Int.reduceEq, Bool.not_true, Bool.not_false, Bool.and_true, Bool.and_false, Bool.true_and, Bool.false_and, Bool.or_true, Bool.true_or, Bool.or_false, Bool.false_or, Bool.true_eq_false, Bool.false_eq_true, brP_t, brP_f] at hK ⊢
    all_goals first | exact hK | trace_state
  · exact h.elim
def Trw19 : Specs := ext Trw18 22 (unwrapRow)
theorem Trw19_sound : TSound Try.prog Trw19 := ext_sound Trw18_sound (row_of Trw18_sound mixed Try.func22 (by decide +kernel) outriderref19_Unwrap_p)
abbrev Trw : Specs := Trw19
theorem Trw_sound : TSound Try.prog Trw := Trw19_sound
end Go.Proofs.Ytbmiaohigkjeeaa.Ae

