/- Tables, one function at a time; places in code. No program in sight. -/
import Derived.Test.YtnbbaemijogeoaaAeLw
namespace Go.Proofs.Ytnbbaemijogeoaa.Ae
open Go Go.RowKit

abbrev Srow := List AVal → Hp → (AVal → Hp → Prop) → Prop
def RSound (P : Program) (k : Nat) (S : Srow) : Prop := ∀ args H K, S args H K → ∃ v H', K v H' ∧ Gives P k args H v H'
def ext (T : Specs) (k : Nat) (S : Srow) : Specs := fun f args H K => cond (Nat.beq f k) (S args H K) (T f args H K)
def noT : Specs := fun _ _ _ _ => False
theorem noT_sound {P : Program} : TSound P noT := fun _ _ _ _ h => h.elim
theorem ext_sound {P : Program} {T : Specs} {k : Nat} {S : Srow} (hT : TSound P T) (hS : RSound P k S) : TSound P (ext T k S) := by
  intro f args H K h
  unfold ext at h
  cases hb : Nat.beq f k with
  | true =>
    rw [hb] at h
    obtain rfl := Nat.eq_of_beq_eq_true hb
    exact hS _ _ _ h
  | false =>
    rw [hb] at h
    exact hT _ _ _ _ h
theorem fn_row {P : Program} {T : Specs} {ann : Nat → List Nat × Nat × List (List Nat)} {k : Nat} {fn : Func} (hT : TSound P T) (hm : P.follows .mixedOrders = true)
    (hf : P.funcs[k]? = some fn) (hname : (fn.name == "runtime.NumGoroutine") = false) : RSound P k (fnP P T ann fn) :=
  fun _ _ _ h => fn_sound hT hm hf hname h
theorem row_of {P : Program} {T : Specs} {ann : Nat → List Nat × Nat × List (List Nat)} {k : Nat} {fn : Func} {S : Srow} (hT : TSound P T) (hm : P.follows .mixedOrders = true)
    (hf : P.funcs[k]? = some fn) (hname : (fn.name == "runtime.NumGoroutine") = false) (hS : ∀ args H K, S args H K → fnP P T ann fn args H K) : RSound P k S :=
  fun args H K h => fn_sound hT hm hf hname (hS args H K h)

/-! ### places in code -/
inductive Dir where
  | l | r | b | t | e
def cAt : List Dir → Code → Code
  | .l :: p, .seq a _ => cAt p a
  | .r :: p, .seq _ c => cAt p c
  | .b :: p, .block _ c => cAt p c
  | .b :: p, .scope c => cAt p c
  | .b :: p, .loop c => cAt p c
  | .t :: p, .cond _ a _ => cAt p a
  | .e :: p, .cond _ _ c => cAt p c
  | _, c => c
/-- what follows there -/
def kAt (X : Cx) : List Dir → Code → Post → Post
  | .l :: p, .seq a c, K => kAt X p a (seqK (fun s => awp X c s K) K)
  | .r :: p, .seq _ c, K => kAt X p c K
  | .b :: p, .block id c, K => kAt X p c (blockK id K)
  | .b :: p, .scope c, K => kAt X p c K
  | .t :: p, .cond _ a _, K => kAt X p a K
  | .e :: p, .cond _ _ c, K => kAt X p c K
  | _, _, K => K
def bodyOf (fn : Func) : Code := match fn.body with
  | some c => c
  | none => .skip
def loopB : Code → Code
  | .loop c => c
  | c => c
/-- a loop at a place: the body's code 'loopB c' -/
def loopFrom (X : Cx) (c : Code) (live : List Nat) (s : St) (K : Post) : Prop := ∃ n, loopP (awp X (loopB c)) X.n0 live n s K
/-- one round -/
theorem loop_one {X : Cx} {c : Code} {live : List Nat} {s : St} {K : Post} (h : ∃ n, awp X (loopB c) s (seqK (fun s' => normK X.n0 live s' fun s' => loopP (awp X (loopB c)) X.n0 live n s' K) K)) : loopFrom X c live s K :=
  let ⟨n, h⟩ := h
  ⟨n + 1, h⟩

/-! ### branches -/
theorem brP_i {b : Bool} {x y : Prop} (h1 : b = true → x) (h2 : b = false → y) : brP b x y := by
  cases b
  · exact h2 rfl
  · exact h1 rfl
theorem brP_d {p : Prop} [Decidable p] {x y : Prop} (h1 : p → x) (h2 : ¬p → y) : brP (decide p) x y := brP_i (fun h => h1 (of_decide_eq_true h)) (fun h => h2 (of_decide_eq_false h))
theorem brP_nd {p : Prop} [Decidable p] {x y : Prop} (h1 : ¬p → x) (h2 : p → y) : brP (!decide p) x y :=
  brP_i (fun h => h1 (by simpa using h)) (fun h => h2 (by simpa using h))
theorem impP_i {g : Bool} {p : Prop} (h : g = true → p) : impP g p := h
/-- something, or nothing -/
def optP {α : Type} (o : Option α) (k : α → Prop) (d : Prop) : Prop := match o with
  | some x => k x
  | none => d
theorem optP_i {α : Type} {o : Option α} {k : α → Prop} {d : Prop} (h1 : ∀ x, o = some x → k x) (h2 : o = none → d) : optP o k d := by
  cases o with
  | none => exact h2 rfl
  | some x => exact h1 x rfl
/-- an end: what is handed back is as told -/
theorem endK_eq {K : AVal → Hp → Prop} {v v' : AVal} {H H' : Hp} (h : K v H) (hv : v = v') (hH : H = H') : K v' H' := by subst hv hH; exact h
theorem end2 {K : AVal → Hp → Prop} {r r' : AVal × Hp} (h : K r.1 r.2) (e : r = r') : K r'.1 r'.2 := by subst e; exact h
end Go.Proofs.Ytnbbaemijogeoaa.Ae
