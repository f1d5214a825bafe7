/- Chapter 13's arguments: configurations, scripts. -/
import Derived.Test.YtldfkjjjjfbbmaaAl
set_option linter.unusedSimpArgs false
set_option linter.unusedVariables false
namespace Go.Proofs.Ytldfkjjjjfbbmaa
open Go Ae
structure Cfg where
  id : Int
  pri : Int
  every : Int
  pre : Bool
  src : List UInt8
  addrs : List (List UInt8)
structure OpV where
  kd : Int
  q : Int
  src : List UInt8
  id : Int
  pri : Int
  every : Int
  addrs : List (List UInt8)
def opNone : OpV := ⟨0, 0, [], 0, 0, 0, []⟩
structure TdV where
  src : List UInt8
  id : Int
  pri : Int
  every : Int
  addrs : List (List UInt8)
/-- what stays as it was -/
structure SameC (x y : VX) : Prop where
  id : y.m.id = x.m.id
  every : y.m.every = x.m.every
  pre : y.m.pre = x.m.pre
  src : y.m.src = x.m.src
  n : y.m.n = x.m.n
  f : y.m.f = x.m.f
theorem SameC.refl {x : VX} : SameC x x := ⟨rfl, rfl, rfl, rfl, rfl, rfl⟩
theorem SameC.trans {x y z : VX} (h : SameC x y) (g : SameC y z) : SameC x z := ⟨g.id.trans h.id, g.every.trans h.every, g.pre.trans h.pre, g.src.trans h.src, g.n.trans h.n, g.f.trans h.f⟩
theorem lead_cfg {x : VX} : SameC x (vrLead x) := ⟨rfl, rfl, rfl, rfl, rfl, rfl⟩
theorem follow_cfg {x : VX} {p : Int} : SameC x (vrFollow p x) := ⟨rfl, rfl, rfl, rfl, rfl, rfl⟩
theorem say_cfg {x : VX} {p : Int} : SameC x (vrSay p x) := ⟨rfl, rfl, rfl, rfl, rfl, rfl⟩
theorem set_cfg {x : VX} {p q : Int} : SameC x (vrSet p q x) := ⟨rfl, rfl, rfl, rfl, rfl, rfl⟩
theorem pri_cfg {x : VX} {p : Int} : SameC x (vrPri p x) := by
  unfold vrPri
  split
  · exact .refl
  · exact ⟨rfl, rfl, rfl, rfl, rfl, rfl⟩
theorem start_cfg {x : VX} : SameC x (vrStart x) := by
  unfold vrStart
  repeat' split
  · exact .refl
  · exact lead_cfg
  · exact follow_cfg
theorem stop_cfg {x : VX} : SameC x (vrStop x) := by
  unfold vrStop
  split
  · exact say_cfg.trans set_cfg
  · exact set_cfg
theorem tick_cfg {x : VX} : SameC x (vrTick x) := by
  unfold vrTick
  repeat' split
  · exact .refl
  · exact set_cfg
  · exact lead_cfg
  · exact say_cfg
theorem ticks_cfg : ∀ {j : Nat} {x : VX}, SameC x (vrTicks j x)
  | 0, x => .refl
  | j + 1, x => tick_cfg.trans ticks_cfg
theorem take_cfg {x : VX} {s : List UInt8} {a : Adv} : SameC x (vrTake s a x) := by
  unfold vrTake
  repeat' split
  all_goals first
    | exact .refl
    | exact set_cfg
    | exact follow_cfg
    | exact say_cfg
theorem vrDo_cfg {x : VX} {kd q : Int} {s : List UInt8} {a : Adv} : SameC x (vrDo kd q s a x) := by
  unfold vrDo
  repeat' split
  · exact start_cfg
  · exact stop_cfg
  · exact ticks_cfg
  · exact take_cfg
  · exact pri_cfg
  · exact .refl
theorem new_ok {id pri every : Int} (pre : Bool) {src : List UInt8} {n : Nat} {f : Nat → List AVal} (hr : adRight ⟨id, pri, every, strs n f⟩ src = true) (hp : pri ≠ 0) : VOk ⟨⟨id, pri, every, pre, src, n, f, 1, every, 0⟩, [], 0⟩ ∧ 1 ≤ id ∧ id ≤ 255 := by
  obtain ⟨_, h1, h2, h3, h4, h5, h6, _, h8, _⟩ := (adRight_iff _ _).1 hr
  simp only [strs_len] at *
  exact ⟨⟨by simp only; omega, by simp only; omega, by simp only; omega, .inl rfl, by simp, fun h => absurd rfl h, h8, rfl, by simp⟩, h1, h2⟩
end Go.Proofs.Ytldfkjjjjfbbmaa
namespace Go.Proofs.Ytldfkjjjjfbbmaa.Ae
open Go Go.RowKit
def addrsV (l : List (List UInt8)) : AVal := .ro l.length 1 (fun i => [.str (l.getD i [])])
def cfgCells (c : Cfg) : List AVal := [.int .i64 c.id, .int .i64 c.pri, .int .i64 c.every, .bool c.pre, .str c.src, .ro c.addrs.length 1 (fun i => [.str (c.addrs.getD i [])])]
def advCells (a : Adv) : List AVal := [.int .i64 a.id, .int .i64 a.pri, .int .i64 a.every, .ro a.addrs.length 1 (fun i => [.str (a.addrs.getD i [])])]
def AdvOk (a : Adv) : Prop := I64 a.id ∧ I64 a.pri ∧ I64 a.every ∧ a.addrs.length ≤ 8796093022000
def opCells (o : OpV) : List AVal := [.int .i64 o.kd, .int .i64 o.q, .str o.src, .int .i64 o.id, .int .i64 o.pri, .int .i64 o.every, .ro o.addrs.length 1 (fun i => [.str (o.addrs.getD i [])])]
def tdCells (o : TdV) : List AVal := [.str o.src, .int .i64 o.id, .int .i64 o.pri, .int .i64 o.every, .ro o.addrs.length 1 (fun i => [.str (o.addrs.getD i [])])]
def scV (sc : List OpV) : AVal := .ro sc.length 7 (fun i => opCells (sc.getD i opNone))
def CfgOk (c : Cfg) : Prop := I64 c.id ∧ I64 c.pri ∧ I64 c.every ∧ c.src.length ≤ 140737488351232 ∧ c.addrs.length ≤ 8796093022000
def OpOk (o : OpV) : Prop := I64 o.kd ∧ I64 o.q ∧ I64 o.id ∧ I64 o.pri ∧ I64 o.every
def TdOk (o : TdV) : Prop := I64 o.id ∧ I64 o.pri ∧ I64 o.every
section
variable {H : Type} {enc : TypeId × Value → H} {b : Bool} {W : World}
theorem open_addrs : OpenAs enc b Try.prog W 26 (fun l : List (List UInt8) => [.ro l.length 1 (fun i => [.str (l.getD i [])])]) (fun l => (∀ x ∈ l, x.length ≤ 140737488351232) ∧ l.length ≤ 8796093022000) :=
  (open_slice (sz := 1) [] Try.underlying26 (by kernel_rfl) (by omega) (by decide +kernel) (by decide +kernel) (open_str Try.underlying25) (fun _ => rfl)).map id (fun _ _ => rfl) fun l h => ⟨h.1, by have h2 := h.2; rw [show Try.prog.bytesOf 25 = 16 from by kernel_rfl] at h2; show l.length ≤ 8796093022000; omega⟩
theorem open_cfg : OpenAs enc b Try.prog W 28 cfgCells CfgOk :=
  (open_struct Try.underlying28 (by kernel_rfl) (fields_cons (by kernel_rfl) (open_i64 Try.underlying3) (fields_cons (by kernel_rfl) (open_i64 Try.underlying3) (fields_cons (by kernel_rfl) (open_i64 Try.underlying3) (fields_cons (by kernel_rfl) (open_bool Try.underlying4) (fields_cons (by kernel_rfl) (open_str Try.underlying25) (fields_cons (by kernel_rfl) open_addrs fields_nil))))))).map
    (fun a => ⟨a.1, a.2.1, a.2.2.1, a.2.2.2.1, a.2.2.2.2.1, a.2.2.2.2.2.1⟩) (fun _ _ => rfl) (fun a h => ⟨h.1, h.2.1, h.2.2.1, h.2.2.2.2.1, h.2.2.2.2.2.1.2⟩)
theorem open_adv : OpenAs enc b Try.prog W 42 advCells AdvOk :=
  (open_struct Try.underlying42 (by kernel_rfl) (fields_cons (by kernel_rfl) (open_i64 Try.underlying3) (fields_cons (by kernel_rfl) (open_i64 Try.underlying3) (fields_cons (by kernel_rfl) (open_i64 Try.underlying3) (fields_cons (by kernel_rfl) open_addrs fields_nil))))).map
    (fun a => ⟨a.1, a.2.1, a.2.2.1, a.2.2.2.1⟩) (fun _ _ => rfl) (fun a h => ⟨h.1, h.2.1, h.2.2.1, h.2.2.2.1.2⟩)
theorem open_op : OpenAs enc b Try.prog W 54 opCells OpOk :=
  (open_struct Try.underlying54 (by kernel_rfl) (fields_cons (by kernel_rfl) (open_i64 Try.underlying3) (fields_cons (by kernel_rfl) (open_i64 Try.underlying3) (fields_cons (by kernel_rfl) (open_str Try.underlying25) (fields_cons (by kernel_rfl)
    (open_struct Try.underlying42 (by kernel_rfl) (fields_cons (by kernel_rfl) (open_i64 Try.underlying3) (fields_cons (by kernel_rfl) (open_i64 Try.underlying3) (fields_cons (by kernel_rfl) (open_i64 Try.underlying3) (fields_cons (by kernel_rfl) open_addrs fields_nil))))) fields_nil))))).map
    (fun a => ⟨a.1, a.2.1, a.2.2.1, a.2.2.2.1.1, a.2.2.2.1.2.1, a.2.2.2.1.2.2.1, a.2.2.2.1.2.2.2.1⟩) (fun _ _ => rfl) (fun a h => ⟨h.1, h.2.1, h.2.2.2.1.1, h.2.2.2.1.2.1, h.2.2.2.1.2.2.1⟩)
theorem open_sc : OpenAs enc b Try.prog W 47 (fun sc : List OpV => [scV sc]) (fun sc => (∀ o ∈ sc, OpOk o) ∧ sc.length ≤ 140737488351232) :=
  (open_slice (sz := 7) opNone Try.underlying47 (by kernel_rfl) (by omega) (by decide +kernel) (by decide +kernel) open_op (fun _ => rfl)).map id (fun _ _ => rfl) fun sc h => ⟨h.1, by have h2 := h.2; have h3 : 1 ≤ Try.prog.bytesOf 54 := (by decide +kernel); have h4 := Nat.mul_le_mul_left sc.length h3; rw [Nat.mul_one] at h4; exact Nat.le_trans h4 h2⟩
theorem open_td : OpenAs enc b Try.prog W 63 tdCells TdOk :=
  (open_struct Try.underlying63 (by kernel_rfl) (fields_cons (by kernel_rfl) (open_str Try.underlying25) (fields_cons (by kernel_rfl)
    (open_struct Try.underlying42 (by kernel_rfl) (fields_cons (by kernel_rfl) (open_i64 Try.underlying3) (fields_cons (by kernel_rfl) (open_i64 Try.underlying3) (fields_cons (by kernel_rfl) (open_i64 Try.underlying3) (fields_cons (by kernel_rfl) open_addrs fields_nil))))) fields_nil))).map
    (fun a => ⟨a.1, a.2.1.1, a.2.1.2.1, a.2.1.2.2.1, a.2.1.2.2.2.1⟩) (fun _ _ => rfl) (fun a h => ⟨h.2.1.1, h.2.1.2.1, h.2.1.2.2.1⟩)
end
end Go.Proofs.Ytldfkjjjjfbbmaa.Ae

