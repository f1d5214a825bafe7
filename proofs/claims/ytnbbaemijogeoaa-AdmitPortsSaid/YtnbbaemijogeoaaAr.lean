/- Chapter 20's arguments: configurations. -/
import Derived.Test.YtnbbaemijogeoaaAl
set_option linter.unusedSimpArgs false
set_option linter.unusedVariables false
namespace Go.Proofs.Ytnbbaemijogeoaa.Ae
open Go Go.RowKit
def byteAt (vs : List AVal) (i : Nat) : UInt8 := match vs[i]? with
  | some (.byte x) => x
  | _ => 0
section
variable {H : Type} {enc : TypeId × Value → H} {b : Bool} {W : World}
theorem open_addrs : OpenAs enc b Try.prog W 25 (fun l : List (List UInt8) => [.ro l.length 1 (fun i => [.str (l.getD i [])])]) (fun l => (∀ x ∈ l, x.length ≤ 140737488351232) ∧ l.length ≤ 8796093022000) :=
  (open_slice (sz := 1) [] Try.underlying25 (by kernel_rfl) (by omega) (by decide +kernel) (by decide +kernel) (open_str Try.underlying24) (fun _ => rfl)).map id (fun _ _ => rfl) fun l h => ⟨h.1, by have h2 := h.2; rw [show Try.prog.bytesOf 24 = 16 from by kernel_rfl] at h2; show l.length ≤ 8796093022000; omega⟩
theorem open_mac : OpenAs enc b Try.prog W 23 macCells (fun _ => True) :=
  (open_shape (d := 3) (t := 23) (ks := [.byte, .byte, .byte, .byte, .byte, .byte]) (by kernel_rfl)).map
    (fun vs => ⟨byteAt vs 0, byteAt vs 1, byteAt vs 2, byteAt vs 3, byteAt vs 4, byteAt vs 5⟩)
    (fun vs h => by
      obtain ⟨_, _, rfl, ⟨x0, rfl⟩, _, _, rfl, ⟨x1, rfl⟩, _, _, rfl, ⟨x2, rfl⟩, _, _, rfl, ⟨x3, rfl⟩, _, _, rfl, ⟨x4, rfl⟩, _, _, rfl, ⟨x5, rfl⟩, h⟩ := h
      simp only [LfsR] at h; subst h; rfl)
    (fun _ _ => trivial)
theorem open_bk : OpenAs enc b Try.prog W 73 bkCells (fun s => I64 s.port) :=
  (open_struct Try.underlying73 (by kernel_rfl) (fields_cons (by kernel_rfl) (open_str Try.underlying9) (fields_cons (by kernel_rfl) (open_str Try.underlying24) (fields_cons (by kernel_rfl) open_mac (fields_cons (by kernel_rfl) (open_i64 Try.underlying3) (fields_cons (by kernel_rfl) (open_i64 Try.underlying3) fields_nil)))))).map
    (fun a => (⟨a.1, a.2.1, a.2.2.1, a.2.2.2.1, a.2.2.2.2.1⟩ : BkV)) (fun _ _ => rfl) (fun a h => h.2.2.2.1)
theorem open_bks : OpenAs enc b Try.prog W 42 (fun l : List BkV => [.ro l.length 10 (bkF l)]) (fun l => (∀ x ∈ l, I64 x.port) ∧ l.length ≤ 2513169434870) :=
  (open_slice (sz := 10) bk0 Try.underlying42 (by kernel_rfl) (by omega) (by decide +kernel) (by decide +kernel) open_bk (fun _ => rfl)).map id (fun _ _ => rfl) fun l h => ⟨h.1, by have h2 := h.2; rw [show Try.prog.bytesOf 73 = 56 from by kernel_rfl] at h2; show l.length ≤ 2513169434870; omega⟩
theorem open_sv : OpenAs enc b Try.prog W 44 svCells SvOk :=
  (open_struct Try.underlying44 (by kernel_rfl) (fields_cons (by kernel_rfl) (open_str Try.underlying9) (fields_cons (by kernel_rfl) (open_str Try.underlying24)
    (fields_cons (by kernel_rfl) (open_i64 Try.underlying3) (fields_cons (by kernel_rfl) (open_i64 Try.underlying3) (fields_cons (by kernel_rfl) (open_i64 Try.underlying3) (fields_cons (by kernel_rfl) (open_i64 Try.underlying3)
    (fields_cons (by kernel_rfl) (open_i64 Try.underlying3) (fields_cons (by kernel_rfl) (open_i64 Try.underlying3) (fields_cons (by kernel_rfl) (open_i64 Try.underlying3) (fields_cons (by kernel_rfl) open_bks fields_nil))))))))))).map
    (fun a => (⟨a.1, a.2.1, a.2.2.1, a.2.2.2.1, a.2.2.2.2.1, a.2.2.2.2.2.1, a.2.2.2.2.2.2.1, a.2.2.2.2.2.2.2.1, a.2.2.2.2.2.2.2.2.1, a.2.2.2.2.2.2.2.2.2.1⟩ : SvV)) (fun _ _ => rfl)
    (fun a h => ⟨h.2.2.2.2.2.2.2.2.2.1.2, h.2.2.2.1, h.2.2.2.2.2.2.2.2.2.1.1⟩)
theorem open_svs : OpenAs enc b Try.prog W 27 (fun l : List SvV => [.ro l.length 10 (svF l)]) (fun l => (∀ x ∈ l, SvOk x) ∧ l.length ≤ 1256584717440) :=
  (open_slice (sz := 10) sv0 Try.underlying27 (by kernel_rfl) (by omega) (by decide +kernel) (by decide +kernel) open_sv (fun _ => rfl)).map id (fun _ _ => rfl) fun l h => ⟨h.1, by have h2 := h.2; rw [show Try.prog.bytesOf 44 = 112 from by kernel_rfl] at h2; show l.length ≤ 1256584717440; omega⟩
theorem open_tr : OpenAs enc b Try.prog W 78 (fun s : TrV => [.str s.name, .int .i64 s.weight]) (fun _ => True) :=
  (open_struct Try.underlying78 (by kernel_rfl) (fields_cons (by kernel_rfl) (open_str Try.underlying9) (fields_cons (by kernel_rfl) (open_i64 Try.underlying3) fields_nil))).map
    (fun a => (⟨a.1, a.2.1⟩ : TrV)) (fun _ _ => rfl) (fun _ _ => trivial)
theorem open_trs : OpenAs enc b Try.prog W 26 (fun l : List TrV => [.ro l.length 2 (trF l)]) (fun l => l.length ≤ 5864062014800) :=
  (open_slice (sz := 2) tr0 Try.underlying26 (by kernel_rfl) (by omega) (by decide +kernel) (by decide +kernel) open_tr (fun _ => rfl)).map id (fun _ _ => rfl) fun l h => by have h2 := h.2; rw [show Try.prog.bytesOf 78 = 24 from by kernel_rfl] at h2; show l.length ≤ 5864062014800; omega
theorem open_cf : OpenAs enc b Try.prog W 29 cfCells CfOk :=
  (open_struct Try.underlying29 (by kernel_rfl) (fields_cons (by kernel_rfl) open_mac (fields_cons (by kernel_rfl) (open_str Try.underlying24) (fields_cons (by kernel_rfl) (open_str Try.underlying24)
    (fields_cons (by kernel_rfl) (open_i64 Try.underlying3) (fields_cons (by kernel_rfl) (open_i64 Try.underlying3) (fields_cons (by kernel_rfl) (open_i64 Try.underlying3) (fields_cons (by kernel_rfl) (open_bool Try.underlying4)
    (fields_cons (by kernel_rfl) open_addrs (fields_cons (by kernel_rfl) open_trs (fields_cons (by kernel_rfl) open_svs fields_nil))))))))))).map
    (fun a => (⟨a.1, a.2.1, a.2.2.1, a.2.2.2.1, a.2.2.2.2.1, a.2.2.2.2.2.1, a.2.2.2.2.2.2.1, a.2.2.2.2.2.2.2.1, a.2.2.2.2.2.2.2.2.1, a.2.2.2.2.2.2.2.2.2.1⟩ : CfV)) (fun _ _ => rfl)
    (fun a h => ⟨h.2.2.2.2.2.2.2.1.2, h.2.2.2.2.2.2.2.2.1, h.2.2.2.2.2.2.2.2.2.1.2, h.2.2.2.1, h.2.2.2.2.2.2.2.2.2.1.1⟩)
end
end Go.Proofs.Ytnbbaemijogeoaa.Ae

