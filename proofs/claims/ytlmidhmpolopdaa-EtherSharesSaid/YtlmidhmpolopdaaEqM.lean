/- Two cards' addresses are alike. -/
import Derived.Test.YtlmidhmpolopdaaProg
import Derived.ProofKit
import Derived.ChangeKeysEq
import Derived.Laws.StructEq
namespace Go.Proofs.Ytlmidhmpolopdaa

theorem mac_eq (w : World) (a b c d e f a' b' c' d' e' f' : Int) :
    (Op.equalIn 10000 23 (.agg #[.int .u8 a, .int .u8 b, .int .u8 c, .int .u8 d, .int .u8 e, .int .u8 f]) (.agg #[.int .u8 a', .int .u8 b', .int .u8 c', .int .u8 d', .int .u8 e', .int .u8 f'])).run Try.prog w =
      .ok (a == a' && (b == b' && (c == c' && (d == d' && (e == e' && f == f'))))) w := by
  have he := Try.underlying5
  have hp : ∀ (v : Array Value) (k : Nat) (x : Int), v[k]? = some (.int .u8 x) → ∀ w, (part 5 v k).run Try.prog w = .ok (.int .u8 x) w := fun v k x h w => by
    simp [part, isAgg, run_underlying he, h]
  have hce : Try.prog.cellsOf 5 = 1 := by kernel_rfl
  obtain ⟨i, hi⟩ := Option.isSome_iff_exists.1 (show (Try.prog.info? 5).isSome = true by kernel_rfl)
  have hq : ∀ (x y : Int) w, (Op.equalIn 9999 5 (.int .u8 x) (.int .u8 y)).run Try.prog w = .ok (x == y) w := fun x y w => run_equalIn_int w 9998 _ _ _ _ _ he
  rw [run_equalIn_array w 9999 _ _ Try.underlying23 hi, hce]
  have hr : List.range 6 = [0, 1, 2, 3, 4, 5] := rfl
  rw [hr]
  generalize hX : (#[.int .u8 a, .int .u8 b, .int .u8 c, .int .u8 d, .int .u8 e, .int .u8 f] : Array Value) = X
  generalize hY : (#[.int .u8 a', .int .u8 b', .int .u8 c', .int .u8 d', .int .u8 e', .int .u8 f'] : Array Value) = Y
  have p0 := hp X 0 a (by subst hX; rfl)
  have p1 := hp X 1 b (by subst hX; rfl)
  have p2 := hp X 2 c (by subst hX; rfl)
  have p3 := hp X 3 d (by subst hX; rfl)
  have p4 := hp X 4 e (by subst hX; rfl)
  have p5 := hp X 5 f (by subst hX; rfl)
  have r0 := hp Y 0 a' (by subst hY; rfl)
  have r1 := hp Y 1 b' (by subst hY; rfl)
  have r2 := hp Y 2 c' (by subst hY; rfl)
  have r3 := hp Y 3 d' (by subst hY; rfl)
  have r4 := hp Y 4 e' (by subst hY; rfl)
  have r5 := hp Y 5 f' (by subst hY; rfl)
  clear hX hY hp
  simp only [Op.eqItems, Nat.mul_one, Sem.run_bind, p0, p1, p2, p3, p4, p5, r0, r1, r2, r3, r4, r5, Result.andThen_ok, hq, Sem.run_ite, Sem.run_pure]
  cases (a == a') <;> cases (b == b') <;> cases (c == c') <;> cases (d == d') <;> cases (e == e') <;> cases (f == f') <;> rfl

theorem mac_eq9 (w : World) (a b c d e f a' b' c' d' e' f' : Int) :
    (Op.equalIn 9999 23 (.agg #[.int .u8 a, .int .u8 b, .int .u8 c, .int .u8 d, .int .u8 e, .int .u8 f]) (.agg #[.int .u8 a', .int .u8 b', .int .u8 c', .int .u8 d', .int .u8 e', .int .u8 f'])).run Try.prog w =
      .ok (a == a' && (b == b' && (c == c' && (d == d' && (e == e' && f == f'))))) w := by
  have he := Try.underlying5
  have hp : ∀ (v : Array Value) (k : Nat) (x : Int), v[k]? = some (.int .u8 x) → ∀ w, (part 5 v k).run Try.prog w = .ok (.int .u8 x) w := fun v k x h w => by
    simp [part, isAgg, run_underlying he, h]
  have hce : Try.prog.cellsOf 5 = 1 := by kernel_rfl
  obtain ⟨i, hi⟩ := Option.isSome_iff_exists.1 (show (Try.prog.info? 5).isSome = true by kernel_rfl)
  have hq : ∀ (x y : Int) w, (Op.equalIn 9998 5 (.int .u8 x) (.int .u8 y)).run Try.prog w = .ok (x == y) w := fun x y w => run_equalIn_int w 9997 _ _ _ _ _ he
  rw [run_equalIn_array w 9998 _ _ Try.underlying23 hi, hce]
  have hr : List.range 6 = [0, 1, 2, 3, 4, 5] := rfl
  rw [hr]
  generalize hX : (#[.int .u8 a, .int .u8 b, .int .u8 c, .int .u8 d, .int .u8 e, .int .u8 f] : Array Value) = X
  generalize hY : (#[.int .u8 a', .int .u8 b', .int .u8 c', .int .u8 d', .int .u8 e', .int .u8 f'] : Array Value) = Y
  have p0 := hp X 0 a (by subst hX; rfl)
  have p1 := hp X 1 b (by subst hX; rfl)
  have p2 := hp X 2 c (by subst hX; rfl)
  have p3 := hp X 3 d (by subst hX; rfl)
  have p4 := hp X 4 e (by subst hX; rfl)
  have p5 := hp X 5 f (by subst hX; rfl)
  have r0 := hp Y 0 a' (by subst hY; rfl)
  have r1 := hp Y 1 b' (by subst hY; rfl)
  have r2 := hp Y 2 c' (by subst hY; rfl)
  have r3 := hp Y 3 d' (by subst hY; rfl)
  have r4 := hp Y 4 e' (by subst hY; rfl)
  have r5 := hp Y 5 f' (by subst hY; rfl)
  clear hX hY hp
  simp only [Op.eqItems, Nat.mul_one, Sem.run_bind, p0, p1, p2, p3, p4, p5, r0, r1, r2, r3, r4, r5, Result.andThen_ok, hq, Sem.run_ite, Sem.run_pure]
  cases (a == a') <;> cases (b == b') <;> cases (c == c') <;> cases (d == d') <;> cases (e == e') <;> cases (f == f') <;> rfl

theorem mac_index5 (w : World) (a b c d e f : Int) :
    (Instr.index 23 (.agg #[.int .u8 a, .int .u8 b, .int .u8 c, .int .u8 d, .int .u8 e, .int .u8 f]) (.int .i64 5)).run Try.prog w = .ok (.int .u8 f) w := by
  have he := Try.underlying5
  simp [Instr.index, asIntOf, run_underlying Try.underlying23, part, isAgg, run_underlying he]

attribute [go_sem] mac_eq mac_eq9 mac_index5
end Go.Proofs.Ytlmidhmpolopdaa
