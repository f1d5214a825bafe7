/- Chapter 19's document answers as a table. -/
import Derived.Test.YtbmiaohigkjeeaaFrw
set_option linter.unusedSimpArgs false
set_option linter.unusedVariables false
set_option maxRecDepth 8000
namespace Go.Proofs.Ytbmiaohigkjeeaa.Ae
open Go
theorem ptShape_cases (p : Ip) : ((p.proto ≠ 6 ∧ p.proto ≠ 17) ∧ ptShape p = (noHd, 51)) ∨ ((p.proto = 6 ∧ p.body.length < 20) ∧ ptShape p = (noHd, 50)) ∨ ((p.proto = 17 ∧ p.body.length < 8) ∧ ptShape p = (noHd, 50)) ∨
    ((p.proto = 17 ∧ 8 ≤ p.body.length) ∧ w16 (p.body.getD 4 0) (p.body.getD 5 0) ≠ p.body.length ∧ ptShape p = (noHd, 53)) ∨
    ((p.proto = 17 ∧ 8 ≤ p.body.length) ∧ w16 (p.body.getD 4 0) (p.body.getD 5 0) = p.body.length ∧ ptShape p = (⟨17, w16 (p.body.getD 0 0) (p.body.getD 1 0), w16 (p.body.getD 2 0) (p.body.getD 3 0), 0, 8⟩, 0)) ∨
    ((p.proto = 6 ∧ 20 ≤ p.body.length) ∧ (((p.body.getD 12 0).toNat : Int) / 16 * 4 < 20 ∨ (p.body.length : Int) < ((p.body.getD 12 0).toNat : Int) / 16 * 4) ∧ ptShape p = (noHd, 53)) ∨
    ((p.proto = 6 ∧ 20 ≤ p.body.length) ∧ (¬ (((p.body.getD 12 0).toNat : Int) / 16 * 4 < 20 ∨ (p.body.length : Int) < ((p.body.getD 12 0).toNat : Int) / 16 * 4)) ∧ ptShape p = (⟨6, w16 (p.body.getD 0 0) (p.body.getD 1 0), w16 (p.body.getD 2 0) (p.body.getD 3 0), ((p.body.getD 13 0).toNat : Int) % 64, ((p.body.getD 12 0).toNat : Int) / 16 * 4⟩, 0)) := by
  unfold ptShape
  by_cases h1 : p.proto ≠ 6 ∧ p.proto ≠ 17
  · exact .inl ⟨h1, if_pos h1⟩
  rw [if_neg h1]
  right
  by_cases h2 : (p.proto = 6 ∧ p.body.length < 20) ∨ p.body.length < 8
  · rw [if_pos h2]
    by_cases h6 : p.proto = 6
    · exact .inl ⟨⟨h6, by omega⟩, rfl⟩
    · exact .inr (.inl ⟨⟨by omega, by omega⟩, rfl⟩)
  rw [if_neg h2]
  right; right
  by_cases h17 : p.proto = 17
  · rw [if_pos h17]
    by_cases h3 : w16 (p.body.getD 4 0) (p.body.getD 5 0) ≠ p.body.length
    · exact .inl ⟨⟨h17, by omega⟩, h3, if_pos h3⟩
    · exact .inr (.inl ⟨⟨h17, by omega⟩, by omega, if_neg h3⟩)
  · rw [if_neg h17]
    right; right
    by_cases h3 : ((p.body.getD 12 0).toNat : Int) / 16 * 4 < 20 ∨ (p.body.length : Int) < ((p.body.getD 12 0).toNat : Int) / 16 * 4
    · exact .inl ⟨⟨by omega, by omega⟩, h3, if_pos h3⟩
    · exact .inr ⟨⟨by omega, by omega⟩, h3, if_neg h3⟩
theorem optQ_n {α : Type} (k : α → Prop) (d : Prop) : optP none k d = d := rfl
theorem optQ_s {α : Type} (x : α) (k : α → Prop) (d : Prop) : optP (some x) k d = k x := rfl
set_option maxRecDepth 100000 in
theorem ref05_Read2_eq (f t : List UInt8) (p q : Int) (b : List UInt8) (K : AVal → Hp → Prop) : fnP Try.prog Trw ann_outriderref05_Read Try.f44 [.agg [.str f, .str t, .int .i64 p, .int .i64 q, .str b]] [] K = (
 brP (decide (p = (6 : Int)))
 (brP (decide ((↑(List.length b) : Int) < (20 : Int)))
 (K
 (AVal.tup
 [AVal.agg
 [AVal.int IntKind.i64 (0 : Int), AVal.int IntKind.i64 (0 : Int), AVal.int IntKind.i64 (0 : Int),
 AVal.int IntKind.i64 (0 : Int), AVal.int IntKind.i64 (0 : Int)],
 AVal.int IntKind.i64 (50 : Int)])
 [])
 (((0 : Int) ≤ (12 : Int) ∧ (12 : Int) < (↑(List.length b) : Int)) ∧
 ((16 : Int) ≠ (0 : Int) ∧ I64 (Int.tdiv (↑(UInt8.toNat (List.getD b (12 : Nat) (0 : UInt8))) : Int) (16 : Int))) ∧
 I64 (Int.tdiv (↑(UInt8.toNat (List.getD b (12 : Nat) (0 : UInt8))) : Int) (16 : Int) * (4 : Int)) ∧
 ((0 : Int) ≤ (13 : Int) ∧ (13 : Int) < (↑(List.length b) : Int)) ∧
 (64 : Int) ≠ (0 : Int) ∧
 brP
 (decide
 (Int.tdiv (↑(UInt8.toNat (List.getD b (12 : Nat) (0 : UInt8))) : Int) (16 : Int) * (4 : Int) < (20 : Int)) ||
 decide
 ((↑(List.length b) : Int) <
 Int.tdiv (↑(UInt8.toNat (List.getD b (12 : Nat) (0 : UInt8))) : Int) (16 : Int) * (4 : Int)))
 (K
 (AVal.tup
 [AVal.agg
 [AVal.int IntKind.i64 (0 : Int), AVal.int IntKind.i64 (0 : Int), AVal.int IntKind.i64 (0 : Int),
 AVal.int IntKind.i64 (0 : Int), AVal.int IntKind.i64 (0 : Int)],
 AVal.int IntKind.i64 (53 : Int)])
 [])
 (((0 : Int) ≤ (0 : Int) ∧ (0 : Int) ≤ (2 : Int) ∧ (2 : Int) ≤ (↑(List.length b) : Int)) ∧
 ((0 : Int) ≤ (0 : Int) ∧ (0 : Int) < (↑(List.length (List.drop (0 : Nat) (List.take (2 : Nat) b))) : Int)) ∧
 I64
 ((↑(UInt8.toNat (List.getD (List.drop (0 : Nat) (List.take (2 : Nat) b)) (0 : Nat) (0 : UInt8))) : Int) *
 (256 : Int)) ∧
 ((0 : Int) ≤ (1 : Int) ∧ (1 : Int) < (↑(List.length (List.drop (0 : Nat) (List.take (2 : Nat) b))) : Int)) ∧
 I64
 ((↑(UInt8.toNat (List.getD (List.drop (0 : Nat) (List.take (2 : Nat) b)) (0 : Nat) (0 : UInt8))) : Int) *
 (256 : Int) +
 (↑(UInt8.toNat (List.getD (List.drop (0 : Nat) (List.take (2 : Nat) b)) (1 : Nat) (0 : UInt8))) :
 Int)) ∧
 ((0 : Int) ≤ (2 : Int) ∧ (2 : Int) ≤ (4 : Int) ∧ (4 : Int) ≤ (↑(List.length b) : Int)) ∧
 ((0 : Int) ≤ (0 : Int) ∧
 (0 : Int) < (↑(List.length (List.drop (2 : Nat) (List.take (4 : Nat) b))) : Int)) ∧
 I64
 ((↑(UInt8.toNat (List.getD (List.drop (2 : Nat) (List.take (4 : Nat) b)) (0 : Nat) (0 : UInt8))) :
 Int) *
 (256 : Int)) ∧
 ((0 : Int) ≤ (1 : Int) ∧
 (1 : Int) < (↑(List.length (List.drop (2 : Nat) (List.take (4 : Nat) b))) : Int)) ∧
 I64
 ((↑(UInt8.toNat (List.getD (List.drop (2 : Nat) (List.take (4 : Nat) b)) (0 : Nat) (0 : UInt8))) :
 Int) *
 (256 : Int) +
 (↑(UInt8.toNat (List.getD (List.drop (2 : Nat) (List.take (4 : Nat) b)) (1 : Nat) (0 : UInt8))) :
 Int)) ∧
 impP
 (decide (p = (17 : Int)) && decide ((↑(List.length f) : Int) = (4 : Int)) &&
 decide ((↑(List.length t) : Int) = (4 : Int)))
 ((0 : Int) ≤ (6 : Int) ∧ (6 : Int) < (↑(List.length b) : Int)) ∧
 impP
 (decide (p = (17 : Int)) && decide ((↑(List.length f) : Int) = (4 : Int)) &&
 decide ((↑(List.length t) : Int) = (4 : Int)) &&
 decide (List.getD b (6 : Nat) (0 : UInt8) = (0 : UInt8)))
 ((0 : Int) ≤ (7 : Int) ∧ (7 : Int) < (↑(List.length b) : Int)) ∧
 brP
 (!(decide (p = (17 : Int)) && decide ((↑(List.length f) : Int) = (4 : Int)) &&
 decide ((↑(List.length t) : Int) = (4 : Int)) &&
 decide (List.getD b (6 : Nat) (0 : UInt8) = (0 : UInt8)) &&
 decide (List.getD b (7 : Nat) (0 : UInt8) = (0 : UInt8))))
 (optP (pseudo f t p (↑(List.length b) : Int))
 (fun x =>
 List.length (List.take (List.length x) (List.drop (0 : Nat) x)) + List.length b ≤
 (4611686018427387904 : Nat) ∧
 List.length (List.take (List.length x) (List.drop (0 : Nat) x) ++ b) ≤
 (140737488355328 : Nat) ∧
 brP
 (!decide
 (sumB
 (List.take (List.length (List.take (List.length x) (List.drop (0 : Nat) x) ++ b))
 (List.drop (0 : Nat) (List.take (List.length x) (List.drop (0 : Nat) x) ++ b))) =
 (65535 : Int)))
 (K
 (AVal.tup
 [AVal.agg
 [AVal.int IntKind.i64 (0 : Int), AVal.int IntKind.i64 (0 : Int),
 AVal.int IntKind.i64 (0 : Int), AVal.int IntKind.i64 (0 : Int),
 AVal.int IntKind.i64 (0 : Int)],
 AVal.int IntKind.i64 (52 : Int)])
 [])
 (brP (decide ((↑(List.length f) : Int) = (4 : Int)))
 (brP (!decide ((↑(List.length f) : Int) = (↑(List.length t) : Int)))
 (K
 (AVal.tup
 [AVal.agg
 [AVal.int IntKind.i64 (0 : Int), AVal.int IntKind.i64 (0 : Int),
 AVal.int IntKind.i64 (0 : Int), AVal.int IntKind.i64 (0 : Int),
 AVal.int IntKind.i64 (0 : Int)],
 AVal.int IntKind.i64 (53 : Int)])
 [])
 (K
 (AVal.tup
 [AVal.agg
 [AVal.int IntKind.i64 p,
 AVal.int IntKind.i64
 ((↑(UInt8.toNat
 (List.getD (List.drop (0 : Nat) (List.take (2 : Nat) b)) (0 : Nat)
 (0 : UInt8))) :
 Int) *
 (256 : Int) +
 (↑(UInt8.toNat
 (List.getD (List.drop (0 : Nat) (List.take (2 : Nat) b)) (1 : Nat)
 (0 : UInt8))) :
 Int)),
 AVal.int IntKind.i64
 ((↑(UInt8.toNat
 (List.getD (List.drop (2 : Nat) (List.take (4 : Nat) b)) (0 : Nat)
 (0 : UInt8))) :
 Int) *
 (256 : Int) +
 (↑(UInt8.toNat
 (List.getD (List.drop (2 : Nat) (List.take (4 : Nat) b)) (1 : Nat)
 (0 : UInt8))) :
 Int)),
 AVal.int IntKind.i64
 (Int.tmod (↑(UInt8.toNat (List.getD b (13 : Nat) (0 : UInt8))) : Int) (64 : Int)),
 AVal.int IntKind.i64
 (Int.tdiv (↑(UInt8.toNat (List.getD b (12 : Nat) (0 : UInt8))) : Int) (16 : Int) *
 (4 : Int))],
 AVal.int IntKind.i64 (0 : Int)])
 []))
 (brP (!decide ((↑(List.length f) : Int) = (16 : Int)))
 (K
 (AVal.tup
 [AVal.agg
 [AVal.int IntKind.i64 (0 : Int), AVal.int IntKind.i64 (0 : Int),
 AVal.int IntKind.i64 (0 : Int), AVal.int IntKind.i64 (0 : Int),
 AVal.int IntKind.i64 (0 : Int)],
 AVal.int IntKind.i64 (53 : Int)])
 [])
 (brP (!decide ((↑(List.length f) : Int) = (↑(List.length t) : Int)))
 (K
 (AVal.tup
 [AVal.agg
 [AVal.int IntKind.i64 (0 : Int), AVal.int IntKind.i64 (0 : Int),
 AVal.int IntKind.i64 (0 : Int), AVal.int IntKind.i64 (0 : Int),
 AVal.int IntKind.i64 (0 : Int)],
 AVal.int IntKind.i64 (53 : Int)])
 [])
 (K
 (AVal.tup
 [AVal.agg
 [AVal.int IntKind.i64 p,
 AVal.int IntKind.i64
 ((↑(UInt8.toNat
 (List.getD (List.drop (0 : Nat) (List.take (2 : Nat) b)) (0 : Nat)
 (0 : UInt8))) :
 Int) *
 (256 : Int) +
 (↑(UInt8.toNat
 (List.getD (List.drop (0 : Nat) (List.take (2 : Nat) b)) (1 : Nat)
 (0 : UInt8))) :
 Int)),
 AVal.int IntKind.i64
 ((↑(UInt8.toNat
 (List.getD (List.drop (2 : Nat) (List.take (4 : Nat) b)) (0 : Nat)
 (0 : UInt8))) :
 Int) *
 (256 : Int) +
 (↑(UInt8.toNat
 (List.getD (List.drop (2 : Nat) (List.take (4 : Nat) b)) (1 : Nat)
 (0 : UInt8))) :
 Int)),
 AVal.int IntKind.i64
 (Int.tmod (↑(UInt8.toNat (List.getD b (13 : Nat) (0 : UInt8))) : Int) (64 : Int)),
 AVal.int IntKind.i64
 (Int.tdiv (↑(UInt8.toNat (List.getD b (12 : Nat) (0 : UInt8))) : Int) (16 : Int) *
 (4 : Int))],
 AVal.int IntKind.i64 (0 : Int)])
 [])))))
 ((0 : Nat) + List.length b ≤ (4611686018427387904 : Nat) ∧
 List.length ([] ++ b) ≤ (140737488355328 : Nat) ∧
 brP
 (!decide
 (sumB (List.take (List.length ([] ++ b)) (List.drop (0 : Nat) ([] ++ b))) = (65535 : Int)))
 (K
 (AVal.tup
 [AVal.agg
 [AVal.int IntKind.i64 (0 : Int), AVal.int IntKind.i64 (0 : Int),
 AVal.int IntKind.i64 (0 : Int), AVal.int IntKind.i64 (0 : Int),
 AVal.int IntKind.i64 (0 : Int)],
 AVal.int IntKind.i64 (52 : Int)])
 [])
 (brP (decide ((↑(List.length f) : Int) = (4 : Int)))
 (brP (!decide ((↑(List.length f) : Int) = (↑(List.length t) : Int)))
 (K
 (AVal.tup
 [AVal.agg
 [AVal.int IntKind.i64 (0 : Int), AVal.int IntKind.i64 (0 : Int),
 AVal.int IntKind.i64 (0 : Int), AVal.int IntKind.i64 (0 : Int),
 AVal.int IntKind.i64 (0 : Int)],
 AVal.int IntKind.i64 (53 : Int)])
 [])
 (K
 (AVal.tup
 [AVal.agg
 [AVal.int IntKind.i64 p,
 AVal.int IntKind.i64
 ((↑(UInt8.toNat
 (List.getD (List.drop (0 : Nat) (List.take (2 : Nat) b)) (0 : Nat)
 (0 : UInt8))) :
 Int) *
 (256 : Int) +
 (↑(UInt8.toNat
 (List.getD (List.drop (0 : Nat) (List.take (2 : Nat) b)) (1 : Nat) (0 : UInt8))) :
 Int)),
 AVal.int IntKind.i64
 ((↑(UInt8.toNat
 (List.getD (List.drop (2 : Nat) (List.take (4 : Nat) b)) (0 : Nat)
 (0 : UInt8))) :
 Int) *
 (256 : Int) +
 (↑(UInt8.toNat
 (List.getD (List.drop (2 : Nat) (List.take (4 : Nat) b)) (1 : Nat) (0 : UInt8))) :
 Int)),
 AVal.int IntKind.i64
 (Int.tmod (↑(UInt8.toNat (List.getD b (13 : Nat) (0 : UInt8))) : Int) (64 : Int)),
 AVal.int IntKind.i64
 (Int.tdiv (↑(UInt8.toNat (List.getD b (12 : Nat) (0 : UInt8))) : Int) (16 : Int) *
 (4 : Int))],
 AVal.int IntKind.i64 (0 : Int)])
 []))
 (brP (!decide ((↑(List.length f) : Int) = (16 : Int)))
 (K
 (AVal.tup
 [AVal.agg
 [AVal.int IntKind.i64 (0 : Int), AVal.int IntKind.i64 (0 : Int),
 AVal.int IntKind.i64 (0 : Int), AVal.int IntKind.i64 (0 : Int),
 AVal.int IntKind.i64 (0 : Int)],
 AVal.int IntKind.i64 (53 : Int)])
 [])
 (brP (!decide ((↑(List.length f) : Int) = (↑(List.length t) : Int)))
 (K
 (AVal.tup
 [AVal.agg
 [AVal.int IntKind.i64 (0 : Int), AVal.int IntKind.i64 (0 : Int),
 AVal.int IntKind.i64 (0 : Int), AVal.int IntKind.i64 (0 : Int),
 AVal.int IntKind.i64 (0 : Int)],
 AVal.int IntKind.i64 (53 : Int)])
 [])
 (K
 (AVal.tup
 [AVal.agg
 [AVal.int IntKind.i64 p,
 AVal.int IntKind.i64
 ((↑(UInt8.toNat
 (List.getD (List.drop (0 : Nat) (List.take (2 : Nat) b)) (0 : Nat)
 (0 : UInt8))) :
 Int) *
 (256 : Int) +
 (↑(UInt8.toNat
 (List.getD (List.drop (0 : Nat) (List.take (2 : Nat) b)) (1 : Nat)
 (0 : UInt8))) :
 Int)),
 AVal.int IntKind.i64
 ((↑(UInt8.toNat
 (List.getD (List.drop (2 : Nat) (List.take (4 : Nat) b)) (0 : Nat)
 (0 : UInt8))) :
 Int) *
 (256 : Int) +
 (↑(UInt8.toNat
 (List.getD (List.drop (2 : Nat) (List.take (4 : Nat) b)) (1 : Nat)
 (0 : UInt8))) :
 Int)),
 AVal.int IntKind.i64
 (Int.tmod (↑(UInt8.toNat (List.getD b (13 : Nat) (0 : UInt8))) : Int) (64 : Int)),
 AVal.int IntKind.i64
 (Int.tdiv (↑(UInt8.toNat (List.getD b (12 : Nat) (0 : UInt8))) : Int) (16 : Int) *
 (4 : Int))],
 AVal.int IntKind.i64 (0 : Int)])
 []))))))
 (brP (decide ((↑(List.length f) : Int) = (4 : Int)))
 (brP (!decide ((↑(List.length f) : Int) = (↑(List.length t) : Int)))
 (K
 (AVal.tup
 [AVal.agg
 [AVal.int IntKind.i64 (0 : Int), AVal.int IntKind.i64 (0 : Int),
 AVal.int IntKind.i64 (0 : Int), AVal.int IntKind.i64 (0 : Int),
 AVal.int IntKind.i64 (0 : Int)],
 AVal.int IntKind.i64 (53 : Int)])
 [])
 (K
 (AVal.tup
 [AVal.agg
 [AVal.int IntKind.i64 p,
 AVal.int IntKind.i64
 ((↑(UInt8.toNat
 (List.getD (List.drop (0 : Nat) (List.take (2 : Nat) b)) (0 : Nat) (0 : UInt8))) :
 Int) *
 (256 : Int) +
 (↑(UInt8.toNat
 (List.getD (List.drop (0 : Nat) (List.take (2 : Nat) b)) (1 : Nat) (0 : UInt8))) :
 Int)),
 AVal.int IntKind.i64
 ((↑(UInt8.toNat
 (List.getD (List.drop (2 : Nat) (List.take (4 : Nat) b)) (0 : Nat) (0 : UInt8))) :
 Int) *
 (256 : Int) +
 (↑(UInt8.toNat
 (List.getD (List.drop (2 : Nat) (List.take (4 : Nat) b)) (1 : Nat) (0 : UInt8))) :
 Int)),
 AVal.int IntKind.i64
 (Int.tmod (↑(UInt8.toNat (List.getD b (13 : Nat) (0 : UInt8))) : Int) (64 : Int)),
 AVal.int IntKind.i64
 (Int.tdiv (↑(UInt8.toNat (List.getD b (12 : Nat) (0 : UInt8))) : Int) (16 : Int) *
 (4 : Int))],
 AVal.int IntKind.i64 (0 : Int)])
 []))
 (brP (!decide ((↑(List.length f) : Int) = (16 : Int)))
 (K
 (AVal.tup
 [AVal.agg
 [AVal.int IntKind.i64 (0 : Int), AVal.int IntKind.i64 (0 : Int),
 AVal.int IntKind.i64 (0 : Int), AVal.int IntKind.i64 (0 : Int),
 AVal.int IntKind.i64 (0 : Int)],
 AVal.int IntKind.i64 (53 : Int)])
 [])
 (brP (!decide ((↑(List.length f) : Int) = (↑(List.length t) : Int)))
 (K
 (AVal.tup
 [AVal.agg
 [AVal.int IntKind.i64 (0 : Int), AVal.int IntKind.i64 (0 : Int),
 AVal.int IntKind.i64 (0 : Int), AVal.int IntKind.i64 (0 : Int),
 AVal.int IntKind.i64 (0 : Int)],
 AVal.int IntKind.i64 (53 : Int)])
 [])
 (K
 (AVal.tup
 [AVal.agg
 [AVal.int IntKind.i64 p,
 AVal.int IntKind.i64
 ((↑(UInt8.toNat
 (List.getD (List.drop (0 : Nat) (List.take (2 : Nat) b)) (0 : Nat) (0 : UInt8))) :
 Int) *
 (256 : Int) +
 (↑(UInt8.toNat
 (List.getD (List.drop (0 : Nat) (List.take (2 : Nat) b)) (1 : Nat) (0 : UInt8))) :
 Int)),
 AVal.int IntKind.i64
 ((↑(UInt8.toNat
 (List.getD (List.drop (2 : Nat) (List.take (4 : Nat) b)) (0 : Nat) (0 : UInt8))) :
 Int) *
 (256 : Int) +
 (↑(UInt8.toNat
 (List.getD (List.drop (2 : Nat) (List.take (4 : Nat) b)) (1 : Nat) (0 : UInt8))) :
 Int)),
 AVal.int IntKind.i64
 (Int.tmod (↑(UInt8.toNat (List.getD b (13 : Nat) (0 : UInt8))) : Int) (64 : Int)),
 AVal.int IntKind.i64
 (Int.tdiv (↑(UInt8.toNat (List.getD b (12 : Nat) (0 : UInt8))) : Int) (16 : Int) *
 (4 : Int))],
 AVal.int IntKind.i64 (0 : Int)])
 [])))))))
 (brP (decide (p = (17 : Int)))
 (brP (decide ((↑(List.length b) : Int) < (8 : Int)))
 (K
 (AVal.tup
 [AVal.agg
 [AVal.int IntKind.i64 (0 : Int), AVal.int IntKind.i64 (0 : Int), AVal.int IntKind.i64 (0 : Int),
 AVal.int IntKind.i64 (0 : Int), AVal.int IntKind.i64 (0 : Int)],
 AVal.int IntKind.i64 (50 : Int)])
 [])
 (((0 : Int) ≤ (4 : Int) ∧ (4 : Int) ≤ (6 : Int) ∧ (6 : Int) ≤ (↑(List.length b) : Int)) ∧
 ((0 : Int) ≤ (0 : Int) ∧ (0 : Int) < (↑(List.length (List.drop (4 : Nat) (List.take (6 : Nat) b))) : Int)) ∧
 I64
 ((↑(UInt8.toNat (List.getD (List.drop (4 : Nat) (List.take (6 : Nat) b)) (0 : Nat) (0 : UInt8))) : Int) *
 (256 : Int)) ∧
 ((0 : Int) ≤ (1 : Int) ∧ (1 : Int) < (↑(List.length (List.drop (4 : Nat) (List.take (6 : Nat) b))) : Int)) ∧
 I64
 ((↑(UInt8.toNat (List.getD (List.drop (4 : Nat) (List.take (6 : Nat) b)) (0 : Nat) (0 : UInt8))) : Int) *
 (256 : Int) +
 (↑(UInt8.toNat (List.getD (List.drop (4 : Nat) (List.take (6 : Nat) b)) (1 : Nat) (0 : UInt8))) : Int)) ∧
 brP
 (!decide
 ((↑(UInt8.toNat (List.getD (List.drop (4 : Nat) (List.take (6 : Nat) b)) (0 : Nat) (0 : UInt8))) : Int) *
 (256 : Int) +
 (↑(UInt8.toNat (List.getD (List.drop (4 : Nat) (List.take (6 : Nat) b)) (1 : Nat) (0 : UInt8))) : Int) =
 (↑(List.length b) : Int)))
 (K
 (AVal.tup
 [AVal.agg
 [AVal.int IntKind.i64 (0 : Int), AVal.int IntKind.i64 (0 : Int), AVal.int IntKind.i64 (0 : Int),
 AVal.int IntKind.i64 (0 : Int), AVal.int IntKind.i64 (0 : Int)],
 AVal.int IntKind.i64 (53 : Int)])
 [])
 (((0 : Int) ≤ (0 : Int) ∧ (0 : Int) ≤ (2 : Int) ∧ (2 : Int) ≤ (↑(List.length b) : Int)) ∧
 ((0 : Int) ≤ (0 : Int) ∧ (0 : Int) < (↑(List.length (List.drop (0 : Nat) (List.take (2 : Nat) b))) : Int)) ∧
 I64
 ((↑(UInt8.toNat (List.getD (List.drop (0 : Nat) (List.take (2 : Nat) b)) (0 : Nat) (0 : UInt8))) : Int) *
 (256 : Int)) ∧
 ((0 : Int) ≤ (1 : Int) ∧
 (1 : Int) < (↑(List.length (List.drop (0 : Nat) (List.take (2 : Nat) b))) : Int)) ∧
 I64
 ((↑(UInt8.toNat (List.getD (List.drop (0 : Nat) (List.take (2 : Nat) b)) (0 : Nat) (0 : UInt8))) :
 Int) *
 (256 : Int) +
 (↑(UInt8.toNat (List.getD (List.drop (0 : Nat) (List.take (2 : Nat) b)) (1 : Nat) (0 : UInt8))) :
 Int)) ∧
 ((0 : Int) ≤ (2 : Int) ∧ (2 : Int) ≤ (4 : Int) ∧ (4 : Int) ≤ (↑(List.length b) : Int)) ∧
 ((0 : Int) ≤ (0 : Int) ∧
 (0 : Int) < (↑(List.length (List.drop (2 : Nat) (List.take (4 : Nat) b))) : Int)) ∧
 I64
 ((↑(UInt8.toNat (List.getD (List.drop (2 : Nat) (List.take (4 : Nat) b)) (0 : Nat) (0 : UInt8))) :
 Int) *
 (256 : Int)) ∧
 ((0 : Int) ≤ (1 : Int) ∧
 (1 : Int) < (↑(List.length (List.drop (2 : Nat) (List.take (4 : Nat) b))) : Int)) ∧
 I64
 ((↑(UInt8.toNat (List.getD (List.drop (2 : Nat) (List.take (4 : Nat) b)) (0 : Nat) (0 : UInt8))) :
 Int) *
 (256 : Int) +
 (↑(UInt8.toNat (List.getD (List.drop (2 : Nat) (List.take (4 : Nat) b)) (1 : Nat) (0 : UInt8))) :
 Int)) ∧
 impP
 (decide (p = (17 : Int)) && decide ((↑(List.length f) : Int) = (4 : Int)) &&
 decide ((↑(List.length t) : Int) = (4 : Int)))
 ((0 : Int) ≤ (6 : Int) ∧ (6 : Int) < (↑(List.length b) : Int)) ∧
 impP
 (decide (p = (17 : Int)) && decide ((↑(List.length f) : Int) = (4 : Int)) &&
 decide ((↑(List.length t) : Int) = (4 : Int)) &&
 decide (List.getD b (6 : Nat) (0 : UInt8) = (0 : UInt8)))
 ((0 : Int) ≤ (7 : Int) ∧ (7 : Int) < (↑(List.length b) : Int)) ∧
 brP
 (!(decide (p = (17 : Int)) && decide ((↑(List.length f) : Int) = (4 : Int)) &&
 decide ((↑(List.length t) : Int) = (4 : Int)) &&
 decide (List.getD b (6 : Nat) (0 : UInt8) = (0 : UInt8)) &&
 decide (List.getD b (7 : Nat) (0 : UInt8) = (0 : UInt8))))
 (optP (pseudo f t p (↑(List.length b) : Int))
 (fun x =>
 List.length (List.take (List.length x) (List.drop (0 : Nat) x)) + List.length b ≤
 (4611686018427387904 : Nat) ∧
 List.length (List.take (List.length x) (List.drop (0 : Nat) x) ++ b) ≤
 (140737488355328 : Nat) ∧
 brP
 (!decide
 (sumB
 (List.take (List.length (List.take (List.length x) (List.drop (0 : Nat) x) ++ b))
 (List.drop (0 : Nat) (List.take (List.length x) (List.drop (0 : Nat) x) ++ b))) =
 (65535 : Int)))
 (K
 (AVal.tup
 [AVal.agg
 [AVal.int IntKind.i64 (0 : Int), AVal.int IntKind.i64 (0 : Int),
 AVal.int IntKind.i64 (0 : Int), AVal.int IntKind.i64 (0 : Int),
 AVal.int IntKind.i64 (0 : Int)],
 AVal.int IntKind.i64 (52 : Int)])
 [])
 (brP (decide ((↑(List.length f) : Int) = (4 : Int)))
 (brP (!decide ((↑(List.length f) : Int) = (↑(List.length t) : Int)))
 (K
 (AVal.tup
 [AVal.agg
 [AVal.int IntKind.i64 (0 : Int), AVal.int IntKind.i64 (0 : Int),
 AVal.int IntKind.i64 (0 : Int), AVal.int IntKind.i64 (0 : Int),
 AVal.int IntKind.i64 (0 : Int)],
 AVal.int IntKind.i64 (53 : Int)])
 [])
 (K
 (AVal.tup
 [AVal.agg
 [AVal.int IntKind.i64 p,
 AVal.int IntKind.i64
 ((↑(UInt8.toNat
 (List.getD (List.drop (0 : Nat) (List.take (2 : Nat) b)) (0 : Nat)
 (0 : UInt8))) :
 Int) *
 (256 : Int) +
 (↑(UInt8.toNat
 (List.getD (List.drop (0 : Nat) (List.take (2 : Nat) b)) (1 : Nat)
 (0 : UInt8))) :
 Int)),
 AVal.int IntKind.i64
 ((↑(UInt8.toNat
 (List.getD (List.drop (2 : Nat) (List.take (4 : Nat) b)) (0 : Nat)
 (0 : UInt8))) :
 Int) *
 (256 : Int) +
 (↑(UInt8.toNat
 (List.getD (List.drop (2 : Nat) (List.take (4 : Nat) b)) (1 : Nat)
 (0 : UInt8))) :
 Int)),
 AVal.int IntKind.i64 (0 : Int), AVal.int IntKind.i64 (8 : Int)],
 AVal.int IntKind.i64 (0 : Int)])
 []))
 (brP (!decide ((↑(List.length f) : Int) = (16 : Int)))
 (K
 (AVal.tup
 [AVal.agg
 [AVal.int IntKind.i64 (0 : Int), AVal.int IntKind.i64 (0 : Int),
 AVal.int IntKind.i64 (0 : Int), AVal.int IntKind.i64 (0 : Int),
 AVal.int IntKind.i64 (0 : Int)],
 AVal.int IntKind.i64 (53 : Int)])
 [])
 (brP (!decide ((↑(List.length f) : Int) = (↑(List.length t) : Int)))
 (K
 (AVal.tup
 [AVal.agg
 [AVal.int IntKind.i64 (0 : Int), AVal.int IntKind.i64 (0 : Int),
 AVal.int IntKind.i64 (0 : Int), AVal.int IntKind.i64 (0 : Int),
 AVal.int IntKind.i64 (0 : Int)],
 AVal.int IntKind.i64 (53 : Int)])
 [])
 (K
 (AVal.tup
 [AVal.agg
 [AVal.int IntKind.i64 p,
 AVal.int IntKind.i64
 ((↑(UInt8.toNat
 (List.getD (List.drop (0 : Nat) (List.take (2 : Nat) b)) (0 : Nat)
 (0 : UInt8))) :
 Int) *
 (256 : Int) +
 (↑(UInt8.toNat
 (List.getD (List.drop (0 : Nat) (List.take (2 : Nat) b)) (1 : Nat)
 (0 : UInt8))) :
 Int)),
 AVal.int IntKind.i64
 ((↑(UInt8.toNat
 (List.getD (List.drop (2 : Nat) (List.take (4 : Nat) b)) (0 : Nat)
 (0 : UInt8))) :
 Int) *
 (256 : Int) +
 (↑(UInt8.toNat
 (List.getD (List.drop (2 : Nat) (List.take (4 : Nat) b)) (1 : Nat)
 (0 : UInt8))) :
 Int)),
 AVal.int IntKind.i64 (0 : Int), AVal.int IntKind.i64 (8 : Int)],
 AVal.int IntKind.i64 (0 : Int)])
 [])))))
 ((0 : Nat) + List.length b ≤ (4611686018427387904 : Nat) ∧
 List.length ([] ++ b) ≤ (140737488355328 : Nat) ∧
 brP
 (!decide
 (sumB (List.take (List.length ([] ++ b)) (List.drop (0 : Nat) ([] ++ b))) = (65535 : Int)))
 (K
 (AVal.tup
 [AVal.agg
 [AVal.int IntKind.i64 (0 : Int), AVal.int IntKind.i64 (0 : Int),
 AVal.int IntKind.i64 (0 : Int), AVal.int IntKind.i64 (0 : Int),
 AVal.int IntKind.i64 (0 : Int)],
 AVal.int IntKind.i64 (52 : Int)])
 [])
 (brP (decide ((↑(List.length f) : Int) = (4 : Int)))
 (brP (!decide ((↑(List.length f) : Int) = (↑(List.length t) : Int)))
 (K
 (AVal.tup
 [AVal.agg
 [AVal.int IntKind.i64 (0 : Int), AVal.int IntKind.i64 (0 : Int),
 AVal.int IntKind.i64 (0 : Int), AVal.int IntKind.i64 (0 : Int),
 AVal.int IntKind.i64 (0 : Int)],
 AVal.int IntKind.i64 (53 : Int)])
 [])
 (K
 (AVal.tup
 [AVal.agg
 [AVal.int IntKind.i64 p,
 AVal.int IntKind.i64
 ((↑(UInt8.toNat
 (List.getD (List.drop (0 : Nat) (List.take (2 : Nat) b)) (0 : Nat)
 (0 : UInt8))) :
 Int) *
 (256 : Int) +
 (↑(UInt8.toNat
 (List.getD (List.drop (0 : Nat) (List.take (2 : Nat) b)) (1 : Nat)
 (0 : UInt8))) :
 Int)),
 AVal.int IntKind.i64
 ((↑(UInt8.toNat
 (List.getD (List.drop (2 : Nat) (List.take (4 : Nat) b)) (0 : Nat)
 (0 : UInt8))) :
 Int) *
 (256 : Int) +
 (↑(UInt8.toNat
 (List.getD (List.drop (2 : Nat) (List.take (4 : Nat) b)) (1 : Nat)
 (0 : UInt8))) :
 Int)),
 AVal.int IntKind.i64 (0 : Int), AVal.int IntKind.i64 (8 : Int)],
 AVal.int IntKind.i64 (0 : Int)])
 []))
 (brP (!decide ((↑(List.length f) : Int) = (16 : Int)))
 (K
 (AVal.tup
 [AVal.agg
 [AVal.int IntKind.i64 (0 : Int), AVal.int IntKind.i64 (0 : Int),
 AVal.int IntKind.i64 (0 : Int), AVal.int IntKind.i64 (0 : Int),
 AVal.int IntKind.i64 (0 : Int)],
 AVal.int IntKind.i64 (53 : Int)])
 [])
 (brP (!decide ((↑(List.length f) : Int) = (↑(List.length t) : Int)))
 (K
 (AVal.tup
 [AVal.agg
 [AVal.int IntKind.i64 (0 : Int), AVal.int IntKind.i64 (0 : Int),
 AVal.int IntKind.i64 (0 : Int), AVal.int IntKind.i64 (0 : Int),
 AVal.int IntKind.i64 (0 : Int)],
 AVal.int IntKind.i64 (53 : Int)])
 [])
 (K
 (AVal.tup
 [AVal.agg
 [AVal.int IntKind.i64 p,
 AVal.int IntKind.i64
 ((↑(UInt8.toNat
 (List.getD (List.drop (0 : Nat) (List.take (2 : Nat) b)) (0 : Nat)
 (0 : UInt8))) :
 Int) *
 (256 : Int) +
 (↑(UInt8.toNat
 (List.getD (List.drop (0 : Nat) (List.take (2 : Nat) b)) (1 : Nat)
 (0 : UInt8))) :
 Int)),
 AVal.int IntKind.i64
 ((↑(UInt8.toNat
 (List.getD (List.drop (2 : Nat) (List.take (4 : Nat) b)) (0 : Nat)
 (0 : UInt8))) :
 Int) *
 (256 : Int) +
 (↑(UInt8.toNat
 (List.getD (List.drop (2 : Nat) (List.take (4 : Nat) b)) (1 : Nat)
 (0 : UInt8))) :
 Int)),
 AVal.int IntKind.i64 (0 : Int), AVal.int IntKind.i64 (8 : Int)],
 AVal.int IntKind.i64 (0 : Int)])
 []))))))
 (brP (decide ((↑(List.length f) : Int) = (4 : Int)))
 (brP (!decide ((↑(List.length f) : Int) = (↑(List.length t) : Int)))
 (K
 (AVal.tup
 [AVal.agg
 [AVal.int IntKind.i64 (0 : Int), AVal.int IntKind.i64 (0 : Int),
 AVal.int IntKind.i64 (0 : Int), AVal.int IntKind.i64 (0 : Int),
 AVal.int IntKind.i64 (0 : Int)],
 AVal.int IntKind.i64 (53 : Int)])
 [])
 (K
 (AVal.tup
 [AVal.agg
 [AVal.int IntKind.i64 p,
 AVal.int IntKind.i64
 ((↑(UInt8.toNat
 (List.getD (List.drop (0 : Nat) (List.take (2 : Nat) b)) (0 : Nat) (0 : UInt8))) :
 Int) *
 (256 : Int) +
 (↑(UInt8.toNat
 (List.getD (List.drop (0 : Nat) (List.take (2 : Nat) b)) (1 : Nat) (0 : UInt8))) :
 Int)),
 AVal.int IntKind.i64
 ((↑(UInt8.toNat
 (List.getD (List.drop (2 : Nat) (List.take (4 : Nat) b)) (0 : Nat) (0 : UInt8))) :
 Int) *
 (256 : Int) +
 (↑(UInt8.toNat
 (List.getD (List.drop (2 : Nat) (List.take (4 : Nat) b)) (1 : Nat) (0 : UInt8))) :
 Int)),
 AVal.int IntKind.i64 (0 : Int), AVal.int IntKind.i64 (8 : Int)],
 AVal.int IntKind.i64 (0 : Int)])
 []))
 (brP (!decide ((↑(List.length f) : Int) = (16 : Int)))
 (K
 (AVal.tup
 [AVal.agg
 [AVal.int IntKind.i64 (0 : Int), AVal.int IntKind.i64 (0 : Int),
 AVal.int IntKind.i64 (0 : Int), AVal.int IntKind.i64 (0 : Int),
 AVal.int IntKind.i64 (0 : Int)],
 AVal.int IntKind.i64 (53 : Int)])
 [])
 (brP (!decide ((↑(List.length f) : Int) = (↑(List.length t) : Int)))
 (K
 (AVal.tup
 [AVal.agg
 [AVal.int IntKind.i64 (0 : Int), AVal.int IntKind.i64 (0 : Int),
 AVal.int IntKind.i64 (0 : Int), AVal.int IntKind.i64 (0 : Int),
 AVal.int IntKind.i64 (0 : Int)],
 AVal.int IntKind.i64 (53 : Int)])
 [])
 (K
 (AVal.tup
 [AVal.agg
 [AVal.int IntKind.i64 p,
 AVal.int IntKind.i64
 ((↑(UInt8.toNat
 (List.getD (List.drop (0 : Nat) (List.take (2 : Nat) b)) (0 : Nat) (0 : UInt8))) :
 Int) *
 (256 : Int) +
 (↑(UInt8.toNat
 (List.getD (List.drop (0 : Nat) (List.take (2 : Nat) b)) (1 : Nat) (0 : UInt8))) :
 Int)),
 AVal.int IntKind.i64
 ((↑(UInt8.toNat
 (List.getD (List.drop (2 : Nat) (List.take (4 : Nat) b)) (0 : Nat) (0 : UInt8))) :
 Int) *
 (256 : Int) +
 (↑(UInt8.toNat
 (List.getD (List.drop (2 : Nat) (List.take (4 : Nat) b)) (1 : Nat) (0 : UInt8))) :
 Int)),
 AVal.int IntKind.i64 (0 : Int), AVal.int IntKind.i64 (8 : Int)],
 AVal.int IntKind.i64 (0 : Int)])
 [])))))))
 (K
 (AVal.tup
 [AVal.agg
 [AVal.int IntKind.i64 (0 : Int), AVal.int IntKind.i64 (0 : Int), AVal.int IntKind.i64 (0 : Int),
 AVal.int IntKind.i64 (0 : Int), AVal.int IntKind.i64 (0 : Int)],
 AVal.int IntKind.i64 (51 : Int)])
 []))) := by kernel_rfl
set_option maxHeartbeats 4000000 in
theorem outriderref05_Read_p : ∀ args H K, ptHdRow ptRead args H K → fnP Try.prog Trw ann_outriderref05_Read Try.f44 args H K := by
  intro args H K h
  unfold ptHdRow at h
  split at h
  · rename_i f t p q b
    obtain ⟨hl, hK⟩ := h
    rw [ref05_Read2_eq]
    simp only [or_w16, div2, div3, add_w16, and255, b8_mod, List.set_cons_zero, List.set_cons_succ, andNot_4000, getD_drop, getD_take, b8_byte, b8_toNatN, UInt8.toNat_ofNat', UInt8.toNat_and, nat_mask4, nat_mask6, nat_240, u8_eq_iff, UInt8.reduceToNat, Int.reduceLT, List.take_succ_cons, List.take_zero, List.drop_zero, List.flatten_cons, List.flatten_nil, List.append_nil, List.nil_append, List.take_length, Nat.mul_one, Nat.zero_add, Nat.reduceAdd, Nat.reduceLT]
    have x12 := (b.getD 12 0).toNat_lt
    have x13 := (b.getD 13 0).toNat_lt
    have x6 := (b.getD 6 0).toNat_lt
    have x7 := (b.getD 7 0).toNat_lt
    have w01 := w16_bd (b.getD 0 0) (b.getD 1 0)
    have w23 := w16_bd (b.getD 2 0) (b.getD 3 0)
    have w45 := w16_bd (b.getD 4 0) (b.getD 5 0)
    unfold ptRead ptNone ptGood pseudoL rightA at hK
    have hpl := @pseudo_len f t p (b.length : Int)
    generalize pseudo f t p (b.length : Int) = o at hK hpl ⊢
    have hd12 : (((b.getD 12 0).toNat : Int)).tdiv 16 = ((b.getD 12 0).toNat : Int) / 16 := Int.tdiv_eq_ediv_of_nonneg (by omega)
    have hm13 : (((b.getD 13 0).toNat : Int)).tmod 64 = ((b.getD 13 0).toNat : Int) % 64 := Int.tmod_eq_emod_of_nonneg (by omega)
    rcases ptShape_cases ⟨f, t, p, q, b⟩ with ⟨k, e⟩ | ⟨k, e⟩ | ⟨k, e⟩ | ⟨k, k2, e⟩ | ⟨k, k2, e⟩ | ⟨k, k2, e⟩ | ⟨k, k2, e⟩ <;> simp only at k e
    · have kp := eq_false k.1
      have kq := eq_false k.2
      try simp only at k2
      simp only [e, noHd, Bool.and_eq_true, Bool.or_eq_true, Bool.and_eq_false_iff, Bool.or_eq_false_iff, decide_eq_true_eq, decide_eq_false_iff_not, Bool.not_eq_true', Bool.not_eq_false', Bool.not_true, Bool.not_false, Bool.true_and, Bool.and_true, Bool.false_or, Bool.or_false, beq_iff_eq, beq_eq_false_iff_ne, ne_eq, u8_eq_iff, UInt8.reduceToNat, Int.reduceEq, not_true_eq_false, not_false_eq_true, false_or, or_false, true_and, and_true, true_or, or_true, false_and, and_false, if_true, if_false] at hK
      simp only [kp, kq, hd12, hm13, List.length_take, List.length_drop, Int.reduceEq, decide_true, decide_false, brP_t, brP_f, impP_t, impP_f, Bool.true_and, Bool.and_true, Bool.false_and, Bool.and_false, Bool.true_or, Bool.or_true, Bool.false_or, Bool.or_false, Bool.not_true, Bool.not_false, decide_true, decide_false, true_and, and_true]
      cases o with
      | none =>
        try simp only [Option.getD_none, List.nil_append] at hK
        try simp only [optQ_n]
        repeat' first | (refine And.intro (by first | first | omega | with_reducible exact i64_x256 _ | with_reducible exact i64_w16 _ _ | with_reducible exact i64_sum _ | (repeat' first | with_reducible exact i64_x256 _ | with_reducible exact i64_w16 _ _ | with_reducible exact i64_sum _ | with_reducible apply And.intro) <;> first | omega | (simp only [I64]; omega) | (simp; omega) | (simp; done) | (simp [I64]; omega) | (with_reducible refine impP_i (fun hg => ?_) <;> (try simp only [Bool.and_eq_true, Bool.or_eq_true, Bool.and_eq_false_iff, Bool.or_eq_false_iff, decide_eq_true_eq, decide_eq_false_iff_not, Bool.not_eq_true', Bool.not_eq_false', Bool.not_true, Bool.not_false, Bool.true_and, Bool.and_true, Bool.false_or, Bool.or_false, beq_iff_eq, beq_eq_false_iff_ne, ne_eq] at hg) <;> (first | omega | with_reducible exact i64_x256 _ | with_reducible exact i64_w16 _ _ | with_reducible exact i64_sum _ | (repeat' first | with_reducible exact i64_x256 _ | with_reducible exact i64_w16 _ _ | with_reducible exact i64_sum _ | with_reducible apply And.intro) <;> first | omega | (simp only [I64]; omega) | (simp; omega) | (simp; done) | (simp [I64]; omega)))) ?_) | (refine brP_d (fun h => ?_) (fun h => ?_)) | (refine brP_nd (fun h => ?_) (fun h => ?_)) | (refine brP_i (fun h => ?_) (fun h => ?_) <;> (try simp only [Bool.and_eq_true, Bool.or_eq_true, Bool.and_eq_false_iff, Bool.or_eq_false_iff, decide_eq_true_eq, decide_eq_false_iff_not, Bool.not_eq_true', Bool.not_eq_false', Bool.not_true, Bool.not_false, Bool.true_and, Bool.and_true, Bool.false_or, Bool.or_false, beq_iff_eq, beq_eq_false_iff_ne, ne_eq] at h))
        all_goals repeat' split at hK
        all_goals first
          | exact hK
          | (rename_i hx; exact absurd trivial hx)
          | (exfalso; omega)
      | some l =>
        have hl2 := hpl rfl
        try simp only [Option.getD_some] at hK
        try simp only [optQ_s, List.length_append]
        repeat' first | (refine And.intro (by first | first | omega | with_reducible exact i64_x256 _ | with_reducible exact i64_w16 _ _ | with_reducible exact i64_sum _ | (repeat' first | with_reducible exact i64_x256 _ | with_reducible exact i64_w16 _ _ | with_reducible exact i64_sum _ | with_reducible apply And.intro) <;> first | omega | (simp only [I64]; omega) | (simp; omega) | (simp; done) | (simp [I64]; omega) | (with_reducible refine impP_i (fun hg => ?_) <;> (try simp only [Bool.and_eq_true, Bool.or_eq_true, Bool.and_eq_false_iff, Bool.or_eq_false_iff, decide_eq_true_eq, decide_eq_false_iff_not, Bool.not_eq_true', Bool.not_eq_false', Bool.not_true, Bool.not_false, Bool.true_and, Bool.and_true, Bool.false_or, Bool.or_false, beq_iff_eq, beq_eq_false_iff_ne, ne_eq] at hg) <;> (first | omega | with_reducible exact i64_x256 _ | with_reducible exact i64_w16 _ _ | with_reducible exact i64_sum _ | (repeat' first | with_reducible exact i64_x256 _ | with_reducible exact i64_w16 _ _ | with_reducible exact i64_sum _ | with_reducible apply And.intro) <;> first | omega | (simp only [I64]; omega) | (simp; omega) | (simp; done) | (simp [I64]; omega)))) ?_) | (refine brP_d (fun h => ?_) (fun h => ?_)) | (refine brP_nd (fun h => ?_) (fun h => ?_)) | (refine brP_i (fun h => ?_) (fun h => ?_) <;> (try simp only [Bool.and_eq_true, Bool.or_eq_true, Bool.and_eq_false_iff, Bool.or_eq_false_iff, decide_eq_true_eq, decide_eq_false_iff_not, Bool.not_eq_true', Bool.not_eq_false', Bool.not_true, Bool.not_false, Bool.true_and, Bool.and_true, Bool.false_or, Bool.or_false, beq_iff_eq, beq_eq_false_iff_ne, ne_eq] at h))
        all_goals repeat' split at hK
        all_goals first
          | exact hK
          | (rename_i hx; exact absurd trivial hx)
          | (exfalso; omega)
    · obtain ⟨rfl, kl⟩ := k
      try simp only at k2
      simp only [e, noHd, Bool.and_eq_true, Bool.or_eq_true, Bool.and_eq_false_iff, Bool.or_eq_false_iff, decide_eq_true_eq, decide_eq_false_iff_not, Bool.not_eq_true', Bool.not_eq_false', Bool.not_true, Bool.not_false, Bool.true_and, Bool.and_true, Bool.false_or, Bool.or_false, beq_iff_eq, beq_eq_false_iff_ne, ne_eq, u8_eq_iff, UInt8.reduceToNat, Int.reduceEq, not_true_eq_false, not_false_eq_true, false_or, or_false, true_and, and_true, true_or, or_true, false_and, and_false, if_true, if_false] at hK
      simp only [hd12, hm13, List.length_take, List.length_drop, Int.reduceEq, decide_true, decide_false, brP_t, brP_f, impP_t, impP_f, Bool.true_and, Bool.and_true, Bool.false_and, Bool.and_false, Bool.true_or, Bool.or_true, Bool.false_or, Bool.or_false, Bool.not_true, Bool.not_false, decide_true, decide_false, true_and, and_true]
      cases o with
      | none =>
        try simp only [Option.getD_none, List.nil_append] at hK
        try simp only [optQ_n]
        repeat' first | (refine And.intro (by first | first | omega | with_reducible exact i64_x256 _ | with_reducible exact i64_w16 _ _ | with_reducible exact i64_sum _ | (repeat' first | with_reducible exact i64_x256 _ | with_reducible exact i64_w16 _ _ | with_reducible exact i64_sum _ | with_reducible apply And.intro) <;> first | omega | (simp only [I64]; omega) | (simp; omega) | (simp; done) | (simp [I64]; omega) | (with_reducible refine impP_i (fun hg => ?_) <;> (try simp only [Bool.and_eq_true, Bool.or_eq_true, Bool.and_eq_false_iff, Bool.or_eq_false_iff, decide_eq_true_eq, decide_eq_false_iff_not, Bool.not_eq_true', Bool.not_eq_false', Bool.not_true, Bool.not_false, Bool.true_and, Bool.and_true, Bool.false_or, Bool.or_false, beq_iff_eq, beq_eq_false_iff_ne, ne_eq] at hg) <;> (first | omega | with_reducible exact i64_x256 _ | with_reducible exact i64_w16 _ _ | with_reducible exact i64_sum _ | (repeat' first | with_reducible exact i64_x256 _ | with_reducible exact i64_w16 _ _ | with_reducible exact i64_sum _ | with_reducible apply And.intro) <;> first | omega | (simp only [I64]; omega) | (simp; omega) | (simp; done) | (simp [I64]; omega)))) ?_) | (refine brP_d (fun h => ?_) (fun h => ?_)) | (refine brP_nd (fun h => ?_) (fun h => ?_)) | (refine brP_i (fun h => ?_) (fun h => ?_) <;> (try simp only [Bool.and_eq_true, Bool.or_eq_true, Bool.and_eq_false_iff, Bool.or_eq_false_iff, decide_eq_true_eq, decide_eq_false_iff_not, Bool.not_eq_true', Bool.not_eq_false', Bool.not_true, Bool.not_false, Bool.true_and, Bool.and_true, Bool.false_or, Bool.or_false, beq_iff_eq, beq_eq_false_iff_ne, ne_eq] at h))
        all_goals repeat' split at hK
        all_goals first
          | exact hK
          | (rename_i hx; exact absurd trivial hx)
          | (exfalso; omega)
      | some l =>
        have hl2 := hpl rfl
        try simp only [Option.getD_some] at hK
        try simp only [optQ_s, List.length_append]
        repeat' first | (refine And.intro (by first | first | omega | with_reducible exact i64_x256 _ | with_reducible exact i64_w16 _ _ | with_reducible exact i64_sum _ | (repeat' first | with_reducible exact i64_x256 _ | with_reducible exact i64_w16 _ _ | with_reducible exact i64_sum _ | with_reducible apply And.intro) <;> first | omega | (simp only [I64]; omega) | (simp; omega) | (simp; done) | (simp [I64]; omega) | (with_reducible refine impP_i (fun hg => ?_) <;> (try simp only [Bool.and_eq_true, Bool.or_eq_true, Bool.and_eq_false_iff, Bool.or_eq_false_iff, decide_eq_true_eq, decide_eq_false_iff_not, Bool.not_eq_true', Bool.not_eq_false', Bool.not_true, Bool.not_false, Bool.true_and, Bool.and_true, Bool.false_or, Bool.or_false, beq_iff_eq, beq_eq_false_iff_ne, ne_eq] at hg) <;> (first | omega | with_reducible exact i64_x256 _ | with_reducible exact i64_w16 _ _ | with_reducible exact i64_sum _ | (repeat' first | with_reducible exact i64_x256 _ | with_reducible exact i64_w16 _ _ | with_reducible exact i64_sum _ | with_reducible apply And.intro) <;> first | omega | (simp only [I64]; omega) | (simp; omega) | (simp; done) | (simp [I64]; omega)))) ?_) | (refine brP_d (fun h => ?_) (fun h => ?_)) | (refine brP_nd (fun h => ?_) (fun h => ?_)) | (refine brP_i (fun h => ?_) (fun h => ?_) <;> (try simp only [Bool.and_eq_true, Bool.or_eq_true, Bool.and_eq_false_iff, Bool.or_eq_false_iff, decide_eq_true_eq, decide_eq_false_iff_not, Bool.not_eq_true', Bool.not_eq_false', Bool.not_true, Bool.not_false, Bool.true_and, Bool.and_true, Bool.false_or, Bool.or_false, beq_iff_eq, beq_eq_false_iff_ne, ne_eq] at h))
        all_goals repeat' split at hK
        all_goals first
          | exact hK
          | (rename_i hx; exact absurd trivial hx)
          | (exfalso; omega)
    · obtain ⟨rfl, kl⟩ := k
      try simp only at k2
      simp only [e, noHd, Bool.and_eq_true, Bool.or_eq_true, Bool.and_eq_false_iff, Bool.or_eq_false_iff, decide_eq_true_eq, decide_eq_false_iff_not, Bool.not_eq_true', Bool.not_eq_false', Bool.not_true, Bool.not_false, Bool.true_and, Bool.and_true, Bool.false_or, Bool.or_false, beq_iff_eq, beq_eq_false_iff_ne, ne_eq, u8_eq_iff, UInt8.reduceToNat, Int.reduceEq, not_true_eq_false, not_false_eq_true, false_or, or_false, true_and, and_true, true_or, or_true, false_and, and_false, if_true, if_false] at hK
      simp only [hd12, hm13, List.length_take, List.length_drop, Int.reduceEq, decide_true, decide_false, brP_t, brP_f, impP_t, impP_f, Bool.true_and, Bool.and_true, Bool.false_and, Bool.and_false, Bool.true_or, Bool.or_true, Bool.false_or, Bool.or_false, Bool.not_true, Bool.not_false, decide_true, decide_false, true_and, and_true]
      cases o with
      | none =>
        try simp only [Option.getD_none, List.nil_append] at hK
        try simp only [optQ_n]
        repeat' first | (refine And.intro (by first | first | omega | with_reducible exact i64_x256 _ | with_reducible exact i64_w16 _ _ | with_reducible exact i64_sum _ | (repeat' first | with_reducible exact i64_x256 _ | with_reducible exact i64_w16 _ _ | with_reducible exact i64_sum _ | with_reducible apply And.intro) <;> first | omega | (simp only [I64]; omega) | (simp; omega) | (simp; done) | (simp [I64]; omega) | (with_reducible refine impP_i (fun hg => ?_) <;> (try simp only [Bool.and_eq_true, Bool.or_eq_true, Bool.and_eq_false_iff, Bool.or_eq_false_iff, decide_eq_true_eq, decide_eq_false_iff_not, Bool.not_eq_true', Bool.not_eq_false', Bool.not_true, Bool.not_false, Bool.true_and, Bool.and_true, Bool.false_or, Bool.or_false, beq_iff_eq, beq_eq_false_iff_ne, ne_eq] at hg) <;> (first | omega | with_reducible exact i64_x256 _ | with_reducible exact i64_w16 _ _ | with_reducible exact i64_sum _ | (repeat' first | with_reducible exact i64_x256 _ | with_reducible exact i64_w16 _ _ | with_reducible exact i64_sum _ | with_reducible apply And.intro) <;> first | omega | (simp only [I64]; omega) | (simp; omega) | (simp; done) | (simp [I64]; omega)))) ?_) | (refine brP_d (fun h => ?_) (fun h => ?_)) | (refine brP_nd (fun h => ?_) (fun h => ?_)) | (refine brP_i (fun h => ?_) (fun h => ?_) <;> (try simp only [Bool.and_eq_true, Bool.or_eq_true, Bool.and_eq_false_iff, Bool.or_eq_false_iff, decide_eq_true_eq, decide_eq_false_iff_not, Bool.not_eq_true', Bool.not_eq_false', Bool.not_true, Bool.not_false, Bool.true_and, Bool.and_true, Bool.false_or, Bool.or_false, beq_iff_eq, beq_eq_false_iff_ne, ne_eq] at h))
        all_goals repeat' split at hK
        all_goals first
          | exact hK
          | (rename_i hx; exact absurd trivial hx)
          | (exfalso; omega)
      | some l =>
        have hl2 := hpl rfl
        try simp only [Option.getD_some] at hK
        try simp only [optQ_s, List.length_append]
        repeat' first | (refine And.intro (by first | first | omega | with_reducible exact i64_x256 _ | with_reducible exact i64_w16 _ _ | with_reducible exact i64_sum _ | (repeat' first | with_reducible exact i64_x256 _ | with_reducible exact i64_w16 _ _ | with_reducible exact i64_sum _ | with_reducible apply And.intro) <;> first | omega | (simp only [I64]; omega) | (simp; omega) | (simp; done) | (simp [I64]; omega) | (with_reducible refine impP_i (fun hg => ?_) <;> (try simp only [Bool.and_eq_true, Bool.or_eq_true, Bool.and_eq_false_iff, Bool.or_eq_false_iff, decide_eq_true_eq, decide_eq_false_iff_not, Bool.not_eq_true', Bool.not_eq_false', Bool.not_true, Bool.not_false, Bool.true_and, Bool.and_true, Bool.false_or, Bool.or_false, beq_iff_eq, beq_eq_false_iff_ne, ne_eq] at hg) <;> (first | omega | with_reducible exact i64_x256 _ | with_reducible exact i64_w16 _ _ | with_reducible exact i64_sum _ | (repeat' first | with_reducible exact i64_x256 _ | with_reducible exact i64_w16 _ _ | with_reducible exact i64_sum _ | with_reducible apply And.intro) <;> first | omega | (simp only [I64]; omega) | (simp; omega) | (simp; done) | (simp [I64]; omega)))) ?_) | (refine brP_d (fun h => ?_) (fun h => ?_)) | (refine brP_nd (fun h => ?_) (fun h => ?_)) | (refine brP_i (fun h => ?_) (fun h => ?_) <;> (try simp only [Bool.and_eq_true, Bool.or_eq_true, Bool.and_eq_false_iff, Bool.or_eq_false_iff, decide_eq_true_eq, decide_eq_false_iff_not, Bool.not_eq_true', Bool.not_eq_false', Bool.not_true, Bool.not_false, Bool.true_and, Bool.and_true, Bool.false_or, Bool.or_false, beq_iff_eq, beq_eq_false_iff_ne, ne_eq] at h))
        all_goals repeat' split at hK
        all_goals first
          | exact hK
          | (rename_i hx; exact absurd trivial hx)
          | (exfalso; omega)
    · obtain ⟨rfl, kl⟩ := k
      try simp only at k2
      simp only [e, noHd, Bool.and_eq_true, Bool.or_eq_true, Bool.and_eq_false_iff, Bool.or_eq_false_iff, decide_eq_true_eq, decide_eq_false_iff_not, Bool.not_eq_true', Bool.not_eq_false', Bool.not_true, Bool.not_false, Bool.true_and, Bool.and_true, Bool.false_or, Bool.or_false, beq_iff_eq, beq_eq_false_iff_ne, ne_eq, u8_eq_iff, UInt8.reduceToNat, Int.reduceEq, not_true_eq_false, not_false_eq_true, false_or, or_false, true_and, and_true, true_or, or_true, false_and, and_false, if_true, if_false] at hK
      simp only [hd12, hm13, List.length_take, List.length_drop, Int.reduceEq, decide_true, decide_false, brP_t, brP_f, impP_t, impP_f, Bool.true_and, Bool.and_true, Bool.false_and, Bool.and_false, Bool.true_or, Bool.or_true, Bool.false_or, Bool.or_false, Bool.not_true, Bool.not_false, decide_true, decide_false, true_and, and_true]
      cases o with
      | none =>
        try simp only [Option.getD_none, List.nil_append] at hK
        try simp only [optQ_n]
        repeat' first | (refine And.intro (by first | first | omega | with_reducible exact i64_x256 _ | with_reducible exact i64_w16 _ _ | with_reducible exact i64_sum _ | (repeat' first | with_reducible exact i64_x256 _ | with_reducible exact i64_w16 _ _ | with_reducible exact i64_sum _ | with_reducible apply And.intro) <;> first | omega | (simp only [I64]; omega) | (simp; omega) | (simp; done) | (simp [I64]; omega) | (with_reducible refine impP_i (fun hg => ?_) <;> (try simp only [Bool.and_eq_true, Bool.or_eq_true, Bool.and_eq_false_iff, Bool.or_eq_false_iff, decide_eq_true_eq, decide_eq_false_iff_not, Bool.not_eq_true', Bool.not_eq_false', Bool.not_true, Bool.not_false, Bool.true_and, Bool.and_true, Bool.false_or, Bool.or_false, beq_iff_eq, beq_eq_false_iff_ne, ne_eq] at hg) <;> (first | omega | with_reducible exact i64_x256 _ | with_reducible exact i64_w16 _ _ | with_reducible exact i64_sum _ | (repeat' first | with_reducible exact i64_x256 _ | with_reducible exact i64_w16 _ _ | with_reducible exact i64_sum _ | with_reducible apply And.intro) <;> first | omega | (simp only [I64]; omega) | (simp; omega) | (simp; done) | (simp [I64]; omega)))) ?_) | (refine brP_d (fun h => ?_) (fun h => ?_)) | (refine brP_nd (fun h => ?_) (fun h => ?_)) | (refine brP_i (fun h => ?_) (fun h => ?_) <;> (try simp only [Bool.and_eq_true, Bool.or_eq_true, Bool.and_eq_false_iff, Bool.or_eq_false_iff, decide_eq_true_eq, decide_eq_false_iff_not, Bool.not_eq_true', Bool.not_eq_false', Bool.not_true, Bool.not_false, Bool.true_and, Bool.and_true, Bool.false_or, Bool.or_false, beq_iff_eq, beq_eq_false_iff_ne, ne_eq] at h))
        all_goals repeat' split at hK
        all_goals first
          | exact hK
          | (rename_i hx; exact absurd trivial hx)
          | (exfalso; omega)
      | some l =>
        have hl2 := hpl rfl
        try simp only [Option.getD_some] at hK
        try simp only [optQ_s, List.length_append]
        repeat' first | (refine And.intro (by first | first | omega | with_reducible exact i64_x256 _ | with_reducible exact i64_w16 _ _ | with_reducible exact i64_sum _ | (repeat' first | with_reducible exact i64_x256 _ | with_reducible exact i64_w16 _ _ | with_reducible exact i64_sum _ | with_reducible apply And.intro) <;> first | omega | (simp only [I64]; omega) | (simp; omega) | (simp; done) | (simp [I64]; omega) | (with_reducible refine impP_i (fun hg => ?_) <;> (try simp only [Bool.and_eq_true, Bool.or_eq_true, Bool.and_eq_false_iff, Bool.or_eq_false_iff, decide_eq_true_eq, decide_eq_false_iff_not, Bool.not_eq_true', Bool.not_eq_false', Bool.not_true, Bool.not_false, Bool.true_and, Bool.and_true, Bool.false_or, Bool.or_false, beq_iff_eq, beq_eq_false_iff_ne, ne_eq] at hg) <;> (first | omega | with_reducible exact i64_x256 _ | with_reducible exact i64_w16 _ _ | with_reducible exact i64_sum _ | (repeat' first | with_reducible exact i64_x256 _ | with_reducible exact i64_w16 _ _ | with_reducible exact i64_sum _ | with_reducible apply And.intro) <;> first | omega | (simp only [I64]; omega) | (simp; omega) | (simp; done) | (simp [I64]; omega)))) ?_) | (refine brP_d (fun h => ?_) (fun h => ?_)) | (refine brP_nd (fun h => ?_) (fun h => ?_)) | (refine brP_i (fun h => ?_) (fun h => ?_) <;> (try simp only [Bool.and_eq_true, Bool.or_eq_true, Bool.and_eq_false_iff, Bool.or_eq_false_iff, decide_eq_true_eq, decide_eq_false_iff_not, Bool.not_eq_true', Bool.not_eq_false', Bool.not_true, Bool.not_false, Bool.true_and, Bool.and_true, Bool.false_or, Bool.or_false, beq_iff_eq, beq_eq_false_iff_ne, ne_eq] at h))
        all_goals repeat' split at hK
        all_goals first
          | exact hK
          | (rename_i hx; exact absurd trivial hx)
          | (exfalso; omega)
    · obtain ⟨rfl, kl⟩ := k
      try simp only at k2
      simp only [e, noHd, Bool.and_eq_true, Bool.or_eq_true, Bool.and_eq_false_iff, Bool.or_eq_false_iff, decide_eq_true_eq, decide_eq_false_iff_not, Bool.not_eq_true', Bool.not_eq_false', Bool.not_true, Bool.not_false, Bool.true_and, Bool.and_true, Bool.false_or, Bool.or_false, beq_iff_eq, beq_eq_false_iff_ne, ne_eq, u8_eq_iff, UInt8.reduceToNat, Int.reduceEq, not_true_eq_false, not_false_eq_true, false_or, or_false, true_and, and_true, true_or, or_true, false_and, and_false, if_true, if_false] at hK
      simp only [hd12, hm13, List.length_take, List.length_drop, Int.reduceEq, decide_true, decide_false, brP_t, brP_f, impP_t, impP_f, Bool.true_and, Bool.and_true, Bool.false_and, Bool.and_false, Bool.true_or, Bool.or_true, Bool.false_or, Bool.or_false, Bool.not_true, Bool.not_false, decide_true, decide_false, true_and, and_true]
      cases o with
      | none =>
        try simp only [Option.getD_none, List.nil_append] at hK
        try simp only [optQ_n]
        repeat' first | (refine And.intro (by first | first | omega | with_reducible exact i64_x256 _ | with_reducible exact i64_w16 _ _ | with_reducible exact i64_sum _ | (repeat' first | with_reducible exact i64_x256 _ | with_reducible exact i64_w16 _ _ | with_reducible exact i64_sum _ | with_reducible apply And.intro) <;> first | omega | (simp only [I64]; omega) | (simp; omega) | (simp; done) | (simp [I64]; omega) | (with_reducible refine impP_i (fun hg => ?_) <;> (try simp only [Bool.and_eq_true, Bool.or_eq_true, Bool.and_eq_false_iff, Bool.or_eq_false_iff, decide_eq_true_eq, decide_eq_false_iff_not, Bool.not_eq_true', Bool.not_eq_false', Bool.not_true, Bool.not_false, Bool.true_and, Bool.and_true, Bool.false_or, Bool.or_false, beq_iff_eq, beq_eq_false_iff_ne, ne_eq] at hg) <;> (first | omega | with_reducible exact i64_x256 _ | with_reducible exact i64_w16 _ _ | with_reducible exact i64_sum _ | (repeat' first | with_reducible exact i64_x256 _ | with_reducible exact i64_w16 _ _ | with_reducible exact i64_sum _ | with_reducible apply And.intro) <;> first | omega | (simp only [I64]; omega) | (simp; omega) | (simp; done) | (simp [I64]; omega)))) ?_) | (refine brP_d (fun h => ?_) (fun h => ?_)) | (refine brP_nd (fun h => ?_) (fun h => ?_)) | (refine brP_i (fun h => ?_) (fun h => ?_) <;> (try simp only [Bool.and_eq_true, Bool.or_eq_true, Bool.and_eq_false_iff, Bool.or_eq_false_iff, decide_eq_true_eq, decide_eq_false_iff_not, Bool.not_eq_true', Bool.not_eq_false', Bool.not_true, Bool.not_false, Bool.true_and, Bool.and_true, Bool.false_or, Bool.or_false, beq_iff_eq, beq_eq_false_iff_ne, ne_eq] at h))
        all_goals repeat' split at hK
        all_goals first
          | exact hK
          | (rename_i hx; exact absurd trivial hx)
          | (exfalso; omega)
      | some l =>
        have hl2 := hpl rfl
        try simp only [Option.getD_some] at hK
        try simp only [optQ_s, List.length_append]
        repeat' first | (refine And.intro (by first | first | omega | with_reducible exact i64_x256 _ | with_reducible exact i64_w16 _ _ | with_reducible exact i64_sum _ | (repeat' first | with_reducible exact i64_x256 _ | with_reducible exact i64_w16 _ _ | with_reducible exact i64_sum _ | with_reducible apply And.intro) <;> first | omega | (simp only [I64]; omega) | (simp; omega) | (simp; done) | (simp [I64]; omega) | (with_reducible refine impP_i (fun hg => ?_) <;> (try simp only [Bool.and_eq_true, Bool.or_eq_true, Bool.and_eq_false_iff, Bool.or_eq_false_iff, decide_eq_true_eq, decide_eq_false_iff_not, Bool.not_eq_true', Bool.not_eq_false', Bool.not_true, Bool.not_false, Bool.true_and, Bool.and_true, Bool.false_or, Bool.or_false, beq_iff_eq, beq_eq_false_iff_ne, ne_eq] at hg) <;> (first | omega | with_reducible exact i64_x256 _ | with_reducible exact i64_w16 _ _ | with_reducible exact i64_sum _ | (repeat' first | with_reducible exact i64_x256 _ | with_reducible exact i64_w16 _ _ | with_reducible exact i64_sum _ | with_reducible apply And.intro) <;> first | omega | (simp only [I64]; omega) | (simp; omega) | (simp; done) | (simp [I64]; omega)))) ?_) | (refine brP_d (fun h => ?_) (fun h => ?_)) | (refine brP_nd (fun h => ?_) (fun h => ?_)) | (refine brP_i (fun h => ?_) (fun h => ?_) <;> (try simp only [Bool.and_eq_true, Bool.or_eq_true, Bool.and_eq_false_iff, Bool.or_eq_false_iff, decide_eq_true_eq, decide_eq_false_iff_not, Bool.not_eq_true', Bool.not_eq_false', Bool.not_true, Bool.not_false, Bool.true_and, Bool.and_true, Bool.false_or, Bool.or_false, beq_iff_eq, beq_eq_false_iff_ne, ne_eq] at h))
        all_goals repeat' split at hK
        all_goals first
          | exact hK
          | (rename_i hx; exact absurd trivial hx)
          | (exfalso; omega)
    · obtain ⟨rfl, kl⟩ := k
      try simp only at k2
      simp only [e, noHd, Bool.and_eq_true, Bool.or_eq_true, Bool.and_eq_false_iff, Bool.or_eq_false_iff, decide_eq_true_eq, decide_eq_false_iff_not, Bool.not_eq_true', Bool.not_eq_false', Bool.not_true, Bool.not_false, Bool.true_and, Bool.and_true, Bool.false_or, Bool.or_false, beq_iff_eq, beq_eq_false_iff_ne, ne_eq, u8_eq_iff, UInt8.reduceToNat, Int.reduceEq, not_true_eq_false, not_false_eq_true, false_or, or_false, true_and, and_true, true_or, or_true, false_and, and_false, if_true, if_false] at hK
      simp only [hd12, hm13, List.length_take, List.length_drop, Int.reduceEq, decide_true, decide_false, brP_t, brP_f, impP_t, impP_f, Bool.true_and, Bool.and_true, Bool.false_and, Bool.and_false, Bool.true_or, Bool.or_true, Bool.false_or, Bool.or_false, Bool.not_true, Bool.not_false, decide_true, decide_false, true_and, and_true]
      cases o with
      | none =>
        try simp only [Option.getD_none, List.nil_append] at hK
        try simp only [optQ_n]
        repeat' first | (refine And.intro (by first | first | omega | with_reducible exact i64_x256 _ | with_reducible exact i64_w16 _ _ | with_reducible exact i64_sum _ | (repeat' first | with_reducible exact i64_x256 _ | with_reducible exact i64_w16 _ _ | with_reducible exact i64_sum _ | with_reducible apply And.intro) <;> first | omega | (simp only [I64]; omega) | (simp; omega) | (simp; done) | (simp [I64]; omega) | (with_reducible refine impP_i (fun hg => ?_) <;> (try simp only [Bool.and_eq_true, Bool.or_eq_true, Bool.and_eq_false_iff, Bool.or_eq_false_iff, decide_eq_true_eq, decide_eq_false_iff_not, Bool.not_eq_true', Bool.not_eq_false', Bool.not_true, Bool.not_false, Bool.true_and, Bool.and_true, Bool.false_or, Bool.or_false, beq_iff_eq, beq_eq_false_iff_ne, ne_eq] at hg) <;> (first | omega | with_reducible exact i64_x256 _ | with_reducible exact i64_w16 _ _ | with_reducible exact i64_sum _ | (repeat' first | with_reducible exact i64_x256 _ | with_reducible exact i64_w16 _ _ | with_reducible exact i64_sum _ | with_reducible apply And.intro) <;> first | omega | (simp only [I64]; omega) | (simp; omega) | (simp; done) | (simp [I64]; omega)))) ?_) | (refine brP_d (fun h => ?_) (fun h => ?_)) | (refine brP_nd (fun h => ?_) (fun h => ?_)) | (refine brP_i (fun h => ?_) (fun h => ?_) <;> (try simp only [Bool.and_eq_true, Bool.or_eq_true, Bool.and_eq_false_iff, Bool.or_eq_false_iff, decide_eq_true_eq, decide_eq_false_iff_not, Bool.not_eq_true', Bool.not_eq_false', Bool.not_true, Bool.not_false, Bool.true_and, Bool.and_true, Bool.false_or, Bool.or_false, beq_iff_eq, beq_eq_false_iff_ne, ne_eq] at h))
        all_goals repeat' split at hK
        all_goals first
          | exact hK
          | (rename_i hx; exact absurd trivial hx)
          | (exfalso; omega)
      | some l =>
        have hl2 := hpl rfl
        try simp only [Option.getD_some] at hK
        try simp only [optQ_s, List.length_append]
        repeat' first | (refine And.intro (by first | first | omega | with_reducible exact i64_x256 _ | with_reducible exact i64_w16 _ _ | with_reducible exact i64_sum _ | (repeat' first | with_reducible exact i64_x256 _ | with_reducible exact i64_w16 _ _ | with_reducible exact i64_sum _ | with_reducible apply And.intro) <;> first | omega | (simp only [I64]; omega) | (simp; omega) | (simp; done) | (simp [I64]; omega) | (with_reducible refine impP_i (fun hg => ?_) <;> (try simp only [Bool.and_eq_true, Bool.or_eq_true, Bool.and_eq_false_iff, Bool.or_eq_false_iff, decide_eq_true_eq, decide_eq_false_iff_not, Bool.not_eq_true', Bool.not_eq_false', Bool.not_true, Bool.not_false, Bool.true_and, Bool.and_true, Bool.false_or, Bool.or_false, beq_iff_eq, beq_eq_false_iff_ne, ne_eq] at hg) <;> (first | omega | with_reducible exact i64_x256 _ | with_reducible exact i64_w16 _ _ | with_reducible exact i64_sum _ | (repeat' first | with_reducible exact i64_x256 _ | with_reducible exact i64_w16 _ _ | with_reducible exact i64_sum _ | with_reducible apply And.intro) <;> first | omega | (simp only [I64]; omega) | (simp; omega) | (simp; done) | (simp [I64]; omega)))) ?_) | (refine brP_d (fun h => ?_) (fun h => ?_)) | (refine brP_nd (fun h => ?_) (fun h => ?_)) | (refine brP_i (fun h => ?_) (fun h => ?_) <;> (try simp only [Bool.and_eq_true, Bool.or_eq_true, Bool.and_eq_false_iff, Bool.or_eq_false_iff, decide_eq_true_eq, decide_eq_false_iff_not, Bool.not_eq_true', Bool.not_eq_false', Bool.not_true, Bool.not_false, Bool.true_and, Bool.and_true, Bool.false_or, Bool.or_false, beq_iff_eq, beq_eq_false_iff_ne, ne_eq] at h))
        all_goals repeat' split at hK
        all_goals first
          | exact hK
          | (rename_i hx; exact absurd trivial hx)
          | (exfalso; omega)
    · obtain ⟨rfl, kl⟩ := k
      try simp only at k2
      simp only [e, noHd, Bool.and_eq_true, Bool.or_eq_true, Bool.and_eq_false_iff, Bool.or_eq_false_iff, decide_eq_true_eq, decide_eq_false_iff_not, Bool.not_eq_true', Bool.not_eq_false', Bool.not_true, Bool.not_false, Bool.true_and, Bool.and_true, Bool.false_or, Bool.or_false, beq_iff_eq, beq_eq_false_iff_ne, ne_eq, u8_eq_iff, UInt8.reduceToNat, Int.reduceEq, not_true_eq_false, not_false_eq_true, false_or, or_false, true_and, and_true, true_or, or_true, false_and, and_false, if_true, if_false] at hK
      simp only [hd12, hm13, List.length_take, List.length_drop, Int.reduceEq, decide_true, decide_false, brP_t, brP_f, impP_t, impP_f, Bool.true_and, Bool.and_true, Bool.false_and, Bool.and_false, Bool.true_or, Bool.or_true, Bool.false_or, Bool.or_false, Bool.not_true, Bool.not_false, decide_true, decide_false, true_and, and_true]
      cases o with
      | none =>
        try simp only [Option.getD_none, List.nil_append] at hK
        try simp only [optQ_n]
        repeat' first | (refine And.intro (by first | first | omega | with_reducible exact i64_x256 _ | with_reducible exact i64_w16 _ _ | with_reducible exact i64_sum _ | (repeat' first | with_reducible exact i64_x256 _ | with_reducible exact i64_w16 _ _ | with_reducible exact i64_sum _ | with_reducible apply And.intro) <;> first | omega | (simp only [I64]; omega) | (simp; omega) | (simp; done) | (simp [I64]; omega) | (with_reducible refine impP_i (fun hg => ?_) <;> (try simp only [Bool.and_eq_true, Bool.or_eq_true, Bool.and_eq_false_iff, Bool.or_eq_false_iff, decide_eq_true_eq, decide_eq_false_iff_not, Bool.not_eq_true', Bool.not_eq_false', Bool.not_true, Bool.not_false, Bool.true_and, Bool.and_true, Bool.false_or, Bool.or_false, beq_iff_eq, beq_eq_false_iff_ne, ne_eq] at hg) <;> (first | omega | with_reducible exact i64_x256 _ | with_reducible exact i64_w16 _ _ | with_reducible exact i64_sum _ | (repeat' first | with_reducible exact i64_x256 _ | with_reducible exact i64_w16 _ _ | with_reducible exact i64_sum _ | with_reducible apply And.intro) <;> first | omega | (simp only [I64]; omega) | (simp; omega) | (simp; done) | (simp [I64]; omega)))) ?_) | (refine brP_d (fun h => ?_) (fun h => ?_)) | (refine brP_nd (fun h => ?_) (fun h => ?_)) | (refine brP_i (fun h => ?_) (fun h => ?_) <;> (try simp only [Bool.and_eq_true, Bool.or_eq_true, Bool.and_eq_false_iff, Bool.or_eq_false_iff, decide_eq_true_eq, decide_eq_false_iff_not, Bool.not_eq_true', Bool.not_eq_false', Bool.not_true, Bool.not_false, Bool.true_and, Bool.and_true, Bool.false_or, Bool.or_false, beq_iff_eq, beq_eq_false_iff_ne, ne_eq] at h))
        all_goals repeat' split at hK
        all_goals first
          | exact hK
          | (rename_i hx; exact absurd trivial hx)
          | (exfalso; omega)
      | some l =>
        have hl2 := hpl rfl
        try simp only [Option.getD_some] at hK
        try simp only [optQ_s, List.length_append]
        repeat' first | (refine And.intro (by first | first | omega | with_reducible exact i64_x256 _ | with_reducible exact i64_w16 _ _ | with_reducible exact i64_sum _ | (repeat' first | with_reducible exact i64_x256 _ | with_reducible exact i64_w16 _ _ | with_reducible exact i64_sum _ | with_reducible apply And.intro) <;> first | omega | (simp only [I64]; omega) | (simp; omega) | (simp; done) | (simp [I64]; omega) | (with_reducible refine impP_i (fun hg => ?_) <;> (try simp only [Bool.and_eq_true, Bool.or_eq_true, Bool.and_eq_false_iff, Bool.or_eq_false_iff, decide_eq_true_eq, decide_eq_false_iff_not, Bool.not_eq_true', Bool.not_eq_false', Bool.not_true, Bool.not_false, Bool.true_and, Bool.and_true, Bool.false_or, Bool.or_false, beq_iff_eq, beq_eq_false_iff_ne, ne_eq] at hg) <;> (first | omega | with_reducible exact i64_x256 _ | with_reducible exact i64_w16 _ _ | with_reducible exact i64_sum _ | (repeat' first | with_reducible exact i64_x256 _ | with_reducible exact i64_w16 _ _ | with_reducible exact i64_sum _ | with_reducible apply And.intro) <;> first | omega | (simp only [I64]; omega) | (simp; omega) | (simp; done) | (simp [I64]; omega)))) ?_) | (refine brP_d (fun h => ?_) (fun h => ?_)) | (refine brP_nd (fun h => ?_) (fun h => ?_)) | (refine brP_i (fun h => ?_) (fun h => ?_) <;> (try simp only [Bool.and_eq_true, Bool.or_eq_true, Bool.and_eq_false_iff, Bool.or_eq_false_iff, decide_eq_true_eq, decide_eq_false_iff_not, Bool.not_eq_true', Bool.not_eq_false', Bool.not_true, Bool.not_false, Bool.true_and, Bool.and_true, Bool.false_or, Bool.or_false, beq_iff_eq, beq_eq_false_iff_ne, ne_eq] at h))
        all_goals repeat' split at hK
        all_goals first
          | exact hK
          | (rename_i hx; exact absurd trivial hx)
          | (exfalso; omega)
  · exact h.elim
def Trx1 : Specs := ext Trw 44 (ptHdRow ptRead)
theorem Trx1_sound : TSound Try.prog Trx1 := ext_sound Trw_sound (row_of Trw_sound mixed Try.func44 (by decide +kernel) outriderref05_Read_p)
def ann_outriderref19_bad : Nat → List Nat × Nat × List (List Nat)
  | 2000002 => ([], 18, [[], [0], [0, 1], [0, 1, 2], [0, 1, 2, 3], [0, 1, 2, 3, 4], [0, 1, 2, 3, 4, 5], [0, 1, 2, 3, 4, 5, 6], [0, 1, 2, 3, 4, 5, 6, 7], [0, 1, 2, 3, 4, 5, 6, 7, 8], [0, 1, 2, 3, 4, 5, 6, 7, 8, 9], [0, 1, 2, 3, 4, 5, 6, 7, 8, 9, 10], [0, 1, 2, 3, 4, 5, 6, 7, 8, 9, 10, 11], [0, 1, 2, 3, 4, 5, 6, 7, 8, 9, 10, 11, 12], [0, 1, 2, 3, 4, 5, 6, 7, 8, 9, 10, 11, 12, 13], [0, 1, 2, 3, 4, 5, 6, 7, 8, 9, 10, 11, 12, 13, 14], [0, 1, 2, 3, 4, 5, 6, 7, 8, 9, 10, 11, 12, 13, 14, 15]])
  | _ => ([], 0, [])
def Trx2 : Specs := ext Trx1 33 (fnP Try.prog Trx1 ann_outriderref19_bad Try.f33)
theorem Trx2_sound : TSound Try.prog Trx2 := ext_sound Trx1_sound (fn_row Trx1_sound mixed Try.func33 (by decide +kernel))
def ann_outriderref19_To : Nat → List Nat × Nat × List (List Nat)
  | 5 => ([], 15, [[], [0], [], [], [3], [], [5], [5, 6], [], [], [9], [], [], [8, 9, 10, 11, 12], [0, 1, 2, 3, 4, 5, 6, 7, 8, 9, 10, 11, 12, 13]])
  | _ => ([], 0, [])
set_option maxRecDepth 100000 in
theorem ref19_To_eq (f t : List UInt8) (p q : Int) (b a : List UInt8) (n : Int) (K : AVal → Hp → Prop) : fnP Try.prog Trx2 ann_outriderref19_To Try.f14 [.agg [.str f, .str t, .int .i64 p, .int .i64 q, .str b], .str a, .int .i64 n] [] K = (
 List.length b ≤ (140737488351232 : Nat) ∧
 brP
 (!decide ((ptRead (Ip.mk f t p q b)).snd = (0 : Int)) ||
 !decide ((↑(List.length t) : Int) = (↑(List.length a) : Int)) ||
 decide (n < (0 : Int)) ||
 decide ((65535 : Int) < n))
 (K
 (AVal.tup
 [AVal.agg [AVal.str [], AVal.str [], AVal.int IntKind.i64 (0 : Int), AVal.int IntKind.i64 (0 : Int), AVal.str []],
 AVal.int IntKind.i64 (190 : Int)])
 [])
 (brP (decide (q ≤ (1 : Int)))
 (K
 (AVal.tup
 [AVal.agg [AVal.str [], AVal.str [], AVal.int IntKind.i64 (0 : Int), AVal.int IntKind.i64 (0 : Int), AVal.str []],
 AVal.int IntKind.i64 (191 : Int)])
 [])
 (I64 (q - (1 : Int)) ∧
 ((p = (17 : Int) ∧ (8 : Nat) ≤ List.length b ∨ p ≠ (17 : Int) ∧ (20 : Nat) ≤ List.length b) ∧
 List.length b ≤ (140737488351232 : Nat) ∧
 List.length t = List.length a ∧
 List.length t % (2 : Nat) = (0 : Nat) ∧ List.length t ≤ (16 : Nat) ∧ (0 : Int) ≤ n ∧ n ≤ (65535 : Int)) ∧
 K
 (AVal.tup
 [AVal.agg
 [AVal.str f, AVal.str a, AVal.int IntKind.i64 p, AVal.int IntKind.i64 (q - (1 : Int)),
 AVal.str (rwTurned (Ip.mk f t p q b) (2 : Nat) t a n)],
 AVal.int IntKind.i64 (0 : Int)])
 []))) := by kernel_rfl
theorem outriderref19_To_p : ∀ args H K, toRow rwTo args H K → fnP Try.prog Trx2 ann_outriderref19_To Try.f14 args H K := by
  intro args H K h
  unfold toRow at h
  split at h
  · rename_i f t p q b a n
    obtain ⟨⟨hb, hq⟩, hK⟩ := h
    rw [ref19_To_eq]
    unfold ipOut rwTo at hK
    refine ⟨hb, ?_⟩
    by_cases h1 : (ptRead ⟨f, t, p, q, b⟩).2 ≠ 0 ∨ a.length ≠ t.length ∨ n < 0 ∨ 65535 < n
    · rw [if_pos h1] at hK
      repeat' first | (refine And.intro (by first | first | omega | with_reducible exact i64_x256 _ | with_reducible exact i64_w16 _ _ | with_reducible exact i64_sum _ | (repeat' first | with_reducible exact i64_x256 _ | with_reducible exact i64_w16 _ _ | with_reducible exact i64_sum _ | with_reducible apply And.intro) <;> first | omega | (simp only [I64]; omega) | (simp; omega) | (simp; done) | (simp [I64]; omega) | (with_reducible refine impP_i (fun hg => ?_) <;> (try simp only [Bool.and_eq_true, Bool.or_eq_true, Bool.and_eq_false_iff, Bool.or_eq_false_iff, decide_eq_true_eq, decide_eq_false_iff_not, Bool.not_eq_true', Bool.not_eq_false', Bool.not_true, Bool.not_false, Bool.true_and, Bool.and_true, Bool.false_or, Bool.or_false, beq_iff_eq, beq_eq_false_iff_ne, ne_eq] at hg) <;> (first | omega | with_reducible exact i64_x256 _ | with_reducible exact i64_w16 _ _ | with_reducible exact i64_sum _ | (repeat' first | with_reducible exact i64_x256 _ | with_reducible exact i64_w16 _ _ | with_reducible exact i64_sum _ | with_reducible apply And.intro) <;> first | omega | (simp only [I64]; omega) | (simp; omega) | (simp; done) | (simp [I64]; omega)))) ?_) | (refine brP_d (fun h => ?_) (fun h => ?_)) | (refine brP_nd (fun h => ?_) (fun h => ?_)) | (refine brP_i (fun h => ?_) (fun h => ?_) <;> (try simp only [Bool.and_eq_true, Bool.or_eq_true, Bool.and_eq_false_iff, Bool.or_eq_false_iff, decide_eq_true_eq, decide_eq_false_iff_not, Bool.not_eq_true', Bool.not_eq_false', Bool.not_true, Bool.not_false, Bool.true_and, Bool.and_true, Bool.false_or, Bool.or_false, beq_iff_eq, beq_eq_false_iff_ne, ne_eq] at h))
      all_goals first | exact hK | (exfalso; omega)
    · rw [if_neg h1] at hK
      have hr := ptRead_len (p := ⟨f, t, p, q, b⟩) (by omega)
      simp only at hr
      by_cases h2 : q ≤ 1
      · rw [if_pos h2] at hK
        repeat' first | (refine And.intro (by first | first | omega | with_reducible exact i64_x256 _ | with_reducible exact i64_w16 _ _ | with_reducible exact i64_sum _ | (repeat' first | with_reducible exact i64_x256 _ | with_reducible exact i64_w16 _ _ | with_reducible exact i64_sum _ | with_reducible apply And.intro) <;> first | omega | (simp only [I64]; omega) | (simp; omega) | (simp; done) | (simp [I64]; omega) | (with_reducible refine impP_i (fun hg => ?_) <;> (try simp only [Bool.and_eq_true, Bool.or_eq_true, Bool.and_eq_false_iff, Bool.or_eq_false_iff, decide_eq_true_eq, decide_eq_false_iff_not, Bool.not_eq_true', Bool.not_eq_false', Bool.not_true, Bool.not_false, Bool.true_and, Bool.and_true, Bool.false_or, Bool.or_false, beq_iff_eq, beq_eq_false_iff_ne, ne_eq] at hg) <;> (first | omega | with_reducible exact i64_x256 _ | with_reducible exact i64_w16 _ _ | with_reducible exact i64_sum _ | (repeat' first | with_reducible exact i64_x256 _ | with_reducible exact i64_w16 _ _ | with_reducible exact i64_sum _ | with_reducible apply And.intro) <;> first | omega | (simp only [I64]; omega) | (simp; omega) | (simp; done) | (simp [I64]; omega)))) ?_) | (refine brP_d (fun h => ?_) (fun h => ?_)) | (refine brP_nd (fun h => ?_) (fun h => ?_)) | (refine brP_i (fun h => ?_) (fun h => ?_) <;> (try simp only [Bool.and_eq_true, Bool.or_eq_true, Bool.and_eq_false_iff, Bool.or_eq_false_iff, decide_eq_true_eq, decide_eq_false_iff_not, Bool.not_eq_true', Bool.not_eq_false', Bool.not_true, Bool.not_false, Bool.true_and, Bool.and_true, Bool.false_or, Bool.or_false, beq_iff_eq, beq_eq_false_iff_ne, ne_eq] at h))
        all_goals first | exact hK | (exfalso; omega)
      · rw [if_neg h2] at hK
        have hq1 : I64 (q - 1) := by unfold I64 at *; omega
        repeat' first | (refine And.intro (by first | first | omega | with_reducible exact i64_x256 _ | with_reducible exact i64_w16 _ _ | with_reducible exact i64_sum _ | (repeat' first | with_reducible exact i64_x256 _ | with_reducible exact i64_w16 _ _ | with_reducible exact i64_sum _ | with_reducible apply And.intro) <;> first | omega | (simp only [I64]; omega) | (simp; omega) | (simp; done) | (simp [I64]; omega) | (with_reducible refine impP_i (fun hg => ?_) <;> (try simp only [Bool.and_eq_true, Bool.or_eq_true, Bool.and_eq_false_iff, Bool.or_eq_false_iff, decide_eq_true_eq, decide_eq_false_iff_not, Bool.not_eq_true', Bool.not_eq_false', Bool.not_true, Bool.not_false, Bool.true_and, Bool.and_true, Bool.false_or, Bool.or_false, beq_iff_eq, beq_eq_false_iff_ne, ne_eq] at hg) <;> (first | omega | with_reducible exact i64_x256 _ | with_reducible exact i64_w16 _ _ | with_reducible exact i64_sum _ | (repeat' first | with_reducible exact i64_x256 _ | with_reducible exact i64_w16 _ _ | with_reducible exact i64_sum _ | with_reducible apply And.intro) <;> first | omega | (simp only [I64]; omega) | (simp; omega) | (simp; done) | (simp [I64]; omega)))) ?_) | (refine brP_d (fun h => ?_) (fun h => ?_)) | (refine brP_nd (fun h => ?_) (fun h => ?_)) | (refine brP_i (fun h => ?_) (fun h => ?_) <;> (try simp only [Bool.and_eq_true, Bool.or_eq_true, Bool.and_eq_false_iff, Bool.or_eq_false_iff, decide_eq_true_eq, decide_eq_false_iff_not, Bool.not_eq_true', Bool.not_eq_false', Bool.not_true, Bool.not_false, Bool.true_and, Bool.and_true, Bool.false_or, Bool.or_false, beq_iff_eq, beq_eq_false_iff_ne, ne_eq] at h))
        all_goals first | exact hK | (exfalso; omega)
  · exact h.elim
def Trx3 : Specs := ext Trx2 14 (toRow rwTo)
theorem Trx3_sound : TSound Try.prog Trx3 := ext_sound Trx2_sound (row_of Trx2_sound mixed Try.func14 (by decide +kernel) outriderref19_To_p)
def ann_outriderref19_From : Nat → List Nat × Nat × List (List Nat)
  | 5 => ([], 15, [[], [], [1], [], [3], [], [5], [5, 6], [], [], [9], [], [], [8, 9, 10, 11, 12], [0, 1, 2, 3, 4, 5, 6, 7, 8, 9, 10, 11, 12, 13]])
  | _ => ([], 0, [])
set_option maxRecDepth 100000 in
theorem ref19_From_eq (f t : List UInt8) (p q : Int) (b a : List UInt8) (n : Int) (K : AVal → Hp → Prop) : fnP Try.prog Trx3 ann_outriderref19_From Try.f16 [.agg [.str f, .str t, .int .i64 p, .int .i64 q, .str b], .str a, .int .i64 n] [] K = (
 List.length b ≤ (140737488351232 : Nat) ∧
 brP
 (!decide ((ptRead (Ip.mk f t p q b)).snd = (0 : Int)) ||
 !decide ((↑(List.length f) : Int) = (↑(List.length a) : Int)) ||
 decide (n < (0 : Int)) ||
 decide ((65535 : Int) < n))
 (K
 (AVal.tup
 [AVal.agg [AVal.str [], AVal.str [], AVal.int IntKind.i64 (0 : Int), AVal.int IntKind.i64 (0 : Int), AVal.str []],
 AVal.int IntKind.i64 (190 : Int)])
 [])
 (brP (decide (q ≤ (1 : Int)))
 (K
 (AVal.tup
 [AVal.agg [AVal.str [], AVal.str [], AVal.int IntKind.i64 (0 : Int), AVal.int IntKind.i64 (0 : Int), AVal.str []],
 AVal.int IntKind.i64 (191 : Int)])
 [])
 (I64 (q - (1 : Int)) ∧
 ((p = (17 : Int) ∧ (8 : Nat) ≤ List.length b ∨ p ≠ (17 : Int) ∧ (20 : Nat) ≤ List.length b) ∧
 List.length b ≤ (140737488351232 : Nat) ∧
 List.length f = List.length a ∧
 List.length f % (2 : Nat) = (0 : Nat) ∧ List.length f ≤ (16 : Nat) ∧ (0 : Int) ≤ n ∧ n ≤ (65535 : Int)) ∧
 K
 (AVal.tup
 [AVal.agg
 [AVal.str a, AVal.str t, AVal.int IntKind.i64 p, AVal.int IntKind.i64 (q - (1 : Int)),
 AVal.str (rwTurned (Ip.mk f t p q b) (0 : Nat) f a n)],
 AVal.int IntKind.i64 (0 : Int)])
 []))) := by kernel_rfl
theorem outriderref19_From_p : ∀ args H K, toRow rwFrom args H K → fnP Try.prog Trx3 ann_outriderref19_From Try.f16 args H K := by
  intro args H K h
  unfold toRow at h
  split at h
  · rename_i f t p q b a n
    obtain ⟨⟨hb, hq⟩, hK⟩ := h
    rw [ref19_From_eq]
    unfold ipOut rwFrom at hK
    refine ⟨hb, ?_⟩
    by_cases h1 : (ptRead ⟨f, t, p, q, b⟩).2 ≠ 0 ∨ a.length ≠ f.length ∨ n < 0 ∨ 65535 < n
    · rw [if_pos h1] at hK
      repeat' first | (refine And.intro (by first | first | omega | with_reducible exact i64_x256 _ | with_reducible exact i64_w16 _ _ | with_reducible exact i64_sum _ | (repeat' first | with_reducible exact i64_x256 _ | with_reducible exact i64_w16 _ _ | with_reducible exact i64_sum _ | with_reducible apply And.intro) <;> first | omega | (simp only [I64]; omega) | (simp; omega) | (simp; done) | (simp [I64]; omega) | (with_reducible refine impP_i (fun hg => ?_) <;> (try simp only [Bool.and_eq_true, Bool.or_eq_true, Bool.and_eq_false_iff, Bool.or_eq_false_iff, decide_eq_true_eq, decide_eq_false_iff_not, Bool.not_eq_true', Bool.not_eq_false', Bool.not_true, Bool.not_false, Bool.true_and, Bool.and_true, Bool.false_or, Bool.or_false, beq_iff_eq, beq_eq_false_iff_ne, ne_eq] at hg) <;> (first | omega | with_reducible exact i64_x256 _ | with_reducible exact i64_w16 _ _ | with_reducible exact i64_sum _ | (repeat' first | with_reducible exact i64_x256 _ | with_reducible exact i64_w16 _ _ | with_reducible exact i64_sum _ | with_reducible apply And.intro) <;> first | omega | (simp only [I64]; omega) | (simp; omega) | (simp; done) | (simp [I64]; omega)))) ?_) | (refine brP_d (fun h => ?_) (fun h => ?_)) | (refine brP_nd (fun h => ?_) (fun h => ?_)) | (refine brP_i (fun h => ?_) (fun h => ?_) <;> (try simp only [Bool.and_eq_true, Bool.or_eq_true, Bool.and_eq_false_iff, Bool.or_eq_false_iff, decide_eq_true_eq, decide_eq_false_iff_not, Bool.not_eq_true', Bool.not_eq_false', Bool.not_true, Bool.not_false, Bool.true_and, Bool.and_true, Bool.false_or, Bool.or_false, beq_iff_eq, beq_eq_false_iff_ne, ne_eq] at h))
      all_goals first | exact hK | (exfalso; omega)
    · rw [if_neg h1] at hK
      have hr := ptRead_len (p := ⟨f, t, p, q, b⟩) (by omega)
      simp only at hr
      by_cases h2 : q ≤ 1
      · rw [if_pos h2] at hK
        repeat' first | (refine And.intro (by first | first | omega | with_reducible exact i64_x256 _ | with_reducible exact i64_w16 _ _ | with_reducible exact i64_sum _ | (repeat' first | with_reducible exact i64_x256 _ | with_reducible exact i64_w16 _ _ | with_reducible exact i64_sum _ | with_reducible apply And.intro) <;> first | omega | (simp only [I64]; omega) | (simp; omega) | (simp; done) | (simp [I64]; omega) | (with_reducible refine impP_i (fun hg => ?_) <;> (try simp only [Bool.and_eq_true, Bool.or_eq_true, Bool.and_eq_false_iff, Bool.or_eq_false_iff, decide_eq_true_eq, decide_eq_false_iff_not, Bool.not_eq_true', Bool.not_eq_false', Bool.not_true, Bool.not_false, Bool.true_and, Bool.and_true, Bool.false_or, Bool.or_false, beq_iff_eq, beq_eq_false_iff_ne, ne_eq] at hg) <;> (first | omega | with_reducible exact i64_x256 _ | with_reducible exact i64_w16 _ _ | with_reducible exact i64_sum _ | (repeat' first | with_reducible exact i64_x256 _ | with_reducible exact i64_w16 _ _ | with_reducible exact i64_sum _ | with_reducible apply And.intro) <;> first | omega | (simp only [I64]; omega) | (simp; omega) | (simp; done) | (simp [I64]; omega)))) ?_) | (refine brP_d (fun h => ?_) (fun h => ?_)) | (refine brP_nd (fun h => ?_) (fun h => ?_)) | (refine brP_i (fun h => ?_) (fun h => ?_) <;> (try simp only [Bool.and_eq_true, Bool.or_eq_true, Bool.and_eq_false_iff, Bool.or_eq_false_iff, decide_eq_true_eq, decide_eq_false_iff_not, Bool.not_eq_true', Bool.not_eq_false', Bool.not_true, Bool.not_false, Bool.true_and, Bool.and_true, Bool.false_or, Bool.or_false, beq_iff_eq, beq_eq_false_iff_ne, ne_eq] at h))
        all_goals first | exact hK | (exfalso; omega)
      · rw [if_neg h2] at hK
        have hq1 : I64 (q - 1) := by unfold I64 at *; omega
        repeat' first | (refine And.intro (by first | first | omega | with_reducible exact i64_x256 _ | with_reducible exact i64_w16 _ _ | with_reducible exact i64_sum _ | (repeat' first | with_reducible exact i64_x256 _ | with_reducible exact i64_w16 _ _ | with_reducible exact i64_sum _ | with_reducible apply And.intro) <;> first | omega | (simp only [I64]; omega) | (simp; omega) | (simp; done) | (simp [I64]; omega) | (with_reducible refine impP_i (fun hg => ?_) <;> (try simp only [Bool.and_eq_true, Bool.or_eq_true, Bool.and_eq_false_iff, Bool.or_eq_false_iff, decide_eq_true_eq, decide_eq_false_iff_not, Bool.not_eq_true', Bool.not_eq_false', Bool.not_true, Bool.not_false, Bool.true_and, Bool.and_true, Bool.false_or, Bool.or_false, beq_iff_eq, beq_eq_false_iff_ne, ne_eq] at hg) <;> (first | omega | with_reducible exact i64_x256 _ | with_reducible exact i64_w16 _ _ | with_reducible exact i64_sum _ | (repeat' first | with_reducible exact i64_x256 _ | with_reducible exact i64_w16 _ _ | with_reducible exact i64_sum _ | with_reducible apply And.intro) <;> first | omega | (simp only [I64]; omega) | (simp; omega) | (simp; done) | (simp [I64]; omega)))) ?_) | (refine brP_d (fun h => ?_) (fun h => ?_)) | (refine brP_nd (fun h => ?_) (fun h => ?_)) | (refine brP_i (fun h => ?_) (fun h => ?_) <;> (try simp only [Bool.and_eq_true, Bool.or_eq_true, Bool.and_eq_false_iff, Bool.or_eq_false_iff, decide_eq_true_eq, decide_eq_false_iff_not, Bool.not_eq_true', Bool.not_eq_false', Bool.not_true, Bool.not_false, Bool.true_and, Bool.and_true, Bool.false_or, Bool.or_false, beq_iff_eq, beq_eq_false_iff_ne, ne_eq] at h))
        all_goals first | exact hK | (exfalso; omega)
  · exact h.elim
def Trx4 : Specs := ext Trx3 16 (toRow rwFrom)
theorem Trx4_sound : TSound Try.prog Trx4 := ext_sound Trx3_sound (row_of Trx3_sound mixed Try.func16 (by decide +kernel) outriderref19_From_p)
abbrev Trx : Specs := Trx4
theorem Trx_sound : TSound Try.prog Trx := Trx4_sound
end Go.Proofs.Ytbmiaohigkjeeaa.Ae

