/- append(v, s...), v the call's own bytes, s a string. No program in sight. -/
import Derived.Test.YtnbbaemijogeoaaMem
import Derived.Lib.AppendStr
namespace Go.Proofs.Ytnbbaemijogeoaa
open Go.RowKit

theorem strCells_b8 (s : ByteArray) : Lib.strCells s = s.data.toList.map B8 := by
  simp [Lib.strCells]

theorem wpList_append_str {P : Program} {w w0 : World} {ops : Array Oper} {rest : List Oper} {o : Oper} {a : Act} {Q : Exit → Act → World → Prop} (hgd : o.guard = none) (s x : Operand) {t u e : TypeId} (ht : P.underlying t = some (.slice e)) (hu : P.underlying u = some .string) (hi : (P.info? e).map (fun i => (i.zero, i.size, i.bytes)) = some (some (.int .u8 0), 1, 1))
    (ho : o.op = .call { callee := .builtin .append, args := #[s, x], argTypes := #[t, u] }) {v : Value} {l : List UInt8} (hs : a.eval s = v) (hown : OwnB e w w0.heap.size v l) (hw : Ext w0 w)
    {str : ByteArray} (hx : a.eval x = .string str) (hlen : l.length + str.size ≤ 140737488355328)
    (h : ∀ v' w', OwnB e w' w0.heap.size v' (l ++ str.data.toList) → Ext w0 w' → wpList P ops Q rest (a.put o.dst v') w') : wpList P ops Q (o :: rest) a w := by
  obtain ⟨i, hi', hx'⟩ := Option.map_eq_some_iff.1 hi
  simp only [Prod.mk.injEq] at hx'
  obtain ⟨hz, hs', hb⟩ := hx'
  refine wpList_plain hgd fun K hK => ?_
  obtain ⟨v', w', h1, h2, h3, _⟩ := Lib.run_append_own_string (P := P) w w0.heap.size t u o.type e i ht hu hi' hz hs' hb v l.length (l.map B8) hown str (by unfold maxLen; omega) hlen hw.size
  unfold Oper.wp execOp
  simp only [ho, resolve, invoke, builtin, Sem.run_bind, Sem.run_pure, Result.andThen_ok, List.map_toArray, List.map_cons, List.map_nil, hs, hx, h1]
  refine hK _ _ (h v' w' ?_ (Below.trans hw (grown_below_of hown hw.size h3)))
  rw [strCells_b8, ← List.map_append] at h2
  unfold OwnB
  rw [List.length_append]
  simpa using h2
end Go.Proofs.Ytnbbaemijogeoaa
