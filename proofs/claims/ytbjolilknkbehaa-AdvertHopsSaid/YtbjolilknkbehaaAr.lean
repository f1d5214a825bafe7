/- Chapter 6's arguments: advertisements. -/
import Derived.Test.YtbjolilknkbehaaAl
set_option linter.unusedSimpArgs false
set_option linter.unusedVariables false
namespace Go.Proofs.Ytbjolilknkbehaa.Ae
open Go Go.RowKit
def advCells (a : Adv) : List AVal := [.int .i64 a.id, .int .i64 a.pri, .int .i64 a.every, .ro a.addrs.length 1 (fun i => [.str (a.addrs.getD i [])])]
def AdvOk (a : Adv) : Prop := I64 a.id ∧ I64 a.pri ∧ I64 a.every ∧ a.addrs.length ≤ 8796093022000
section
variable {H : Type} {enc : TypeId × Value → H} {b : Bool} {W : World}
theorem open_addrs : OpenAs enc b Try.prog W 22 (fun l : List (List UInt8) => [.ro l.length 1 (fun i => [.str (l.getD i [])])]) (fun l => (∀ x ∈ l, x.length ≤ 140737488351232) ∧ l.length ≤ 8796093022000) :=
  (open_slice (sz := 1) [] Try.underlying22 (by kernel_rfl) (by omega) (by decide +kernel) (by decide +kernel) (open_str Try.underlying25) (fun _ => rfl)).map id (fun _ _ => rfl) fun l h => ⟨h.1, by have h2 := h.2; rw [show Try.prog.bytesOf 25 = 16 from by kernel_rfl] at h2; show l.length ≤ 8796093022000; omega⟩
theorem open_adv : OpenAs enc b Try.prog W 24 advCells AdvOk :=
  (open_struct Try.underlying24 (by kernel_rfl) (fields_cons (by kernel_rfl) (open_i64 Try.underlying3) (fields_cons (by kernel_rfl) (open_i64 Try.underlying3) (fields_cons (by kernel_rfl) (open_i64 Try.underlying3) (fields_cons (by kernel_rfl) open_addrs fields_nil))))).map
    (fun a => ⟨a.1, a.2.1, a.2.2.1, a.2.2.2.1⟩) (fun _ _ => rfl) (fun a h => ⟨h.1, h.2.1, h.2.2.1, h.2.2.2.1.2⟩)
end
end Go.Proofs.Ytbjolilknkbehaa.Ae

