/- Rows by way of other arguments and results that say as much. No program in sight. -/
import Derived.Test.YtnbbaemijogeoaaAeRw
set_option linter.unusedSimpArgs false
set_option linter.unusedVariables false
namespace Go.Proofs.Ytnbbaemijogeoaa.Ae
open Go Go.RowKit

def VE (H : Hp) (v v' : AVal) : Prop := ∀ R w m x, Sim R w m H → VR R w m H v x → VR R w m H v' x
def ArgsLe (H : Hp) (us bs : List AVal) : Prop := ∀ R w m xs, Sim R w m H → VL R w m H us xs → VL R w m H bs xs
def ResLe (v : AVal) (H' : Hp) (v2 : AVal) (H2 : Hp) : Prop := ∀ R w m x, Sim R w m H' → VR R w m H' v x → ∃ R2 m2, Far R w m H' R2 w m2 H2 ∧ VR R2 w m2 H2 v2 x
theorem VE.refl {H : Hp} {v : AVal} : VE H v v := fun _ _ _ _ _ h => h
theorem VE.ro {H : Hp} {n sz : Nat} {f f' : Nat → List AVal} (h : ∀ i, i < n → f i = f' i) : VE H (.ro n sz f) (.ro n sz f') := by
  intro R w m x _ hv
  cases hv with
  | ro _ _ _ a c g off X h1 h2 h3 h4 h5 h6 h7 =>
    exact .ro n sz f' a c g off X h1 h2 h3 h4 (fun i j v hi hv => h5 i j v hi (by rw [h i hi]; exact hv)) (fun i j v hi hv => h6 i j v hi (by rw [h i hi]; exact hv)) (fun i hi => by rw [← h i hi]; exact h7 i hi)
theorem ArgsLe.refl {H : Hp} {us : List AVal} : ArgsLe H us us := fun _ _ _ _ _ h => h
theorem ArgsLe.nil {H : Hp} : ArgsLe H [] [] := ArgsLe.refl
theorem ArgsLe.cons {H : Hp} {a b : AVal} {us bs : List AVal} (h : VE H a b) (hs : ArgsLe H us bs) : ArgsLe H (a :: us) (b :: bs) := by
  intro R w m xs hS hx
  obtain ⟨x, r, rfl, h1, h2⟩ := hx.cons_inv
  exact VL.cons (h R w m x hS h1) (hs R w m r hS h2)
theorem VE.agg {H : Hp} {cs ds : List AVal} (h : ArgsLe H cs ds) : VE H (.agg cs) (.agg ds) := by
  intro R w m x hS hv
  cases hv with
  | agg _ xs h1 h2 h3 =>
    have := h R w m xs hS ⟨h1, h2⟩
    exact .agg ds xs this.1 this.2 h3
theorem ResLe.refl {v : AVal} {H : Hp} : ResLe v H v H := fun R w m _ hS hv => ⟨R, m, .refl hS, hv⟩
theorem ResLe.val {v v' : AVal} {H : Hp} (h : VE H v v') : ResLe v H v' H := fun R w m x hS hv => ⟨R, m, .refl hS, h R w m x hS hv⟩
theorem ResLe.trans {v v2 v3 : AVal} {H H2 H3 : Hp} (h : ResLe v H v2 H2) (h' : ResLe v2 H2 v3 H3) : ResLe v H v3 H3 := fun R w m x hS hv => by
  obtain ⟨R2, m2, F, V⟩ := h R w m x hS hv
  obtain ⟨R3, m3, F', V'⟩ := h' R2 w m2 x F.sim V
  exact ⟨R3, m3, F.trans F', V'⟩
theorem row_weak {P : Program} {T : Specs} {ann : Nat → List Nat × Nat × List (List Nat)} {k : Nat} {fn : Func} {S : Srow} (hT : TSound P T) (hm : P.follows .mixedOrders = true)
    (hf : P.funcs[k]? = some fn) (hname : (fn.name == "runtime.NumGoroutine") = false)
    (hS : ∀ args H K, S args H K → ∃ args', ArgsLe H args args' ∧ fnP P T ann fn args' H (fun v H' => ∃ v2 H2, ResLe v H' v2 H2 ∧ K v2 H2)) : RSound P k S := by
  intro args H K h
  obtain ⟨args', hA, hF⟩ := hS args H K h
  obtain ⟨v, H', ⟨v2, H2, hR, hK⟩, hG⟩ := fn_sound hT hm hf hname hF
  refine ⟨v2, H2, hK, hG.fn, fun R w m xs hSim hx => ?_⟩
  refine (hG.run R w m xs hSim (hA R w m xs hSim hx)).mono ?_
  rintro e w' ⟨R', m', x, he, F, V⟩
  obtain ⟨R2, m2, F2, V2⟩ := hR R' w' m' x F.sim V
  exact ⟨R2, m2, x, he, F.trans F2, V2⟩

end Go.Proofs.Ytnbbaemijogeoaa.Ae
namespace Go.Proofs.Ytnbbaemijogeoaa
open Go Ae
/-! ### slices of strings -/
def strAt (f : Nat → List AVal) (i : Nat) : List UInt8 := match f i with
  | [.str l] => l
  | _ => []
def strs (n : Nat) (f : Nat → List AVal) : List (List UInt8) := (List.range n).map (strAt f)
def IsStrs (n : Nat) (f : Nat → List AVal) : Prop := ∀ i, i < n → f i = [.str (strAt f i)]
theorem strs_len {n : Nat} {f : Nat → List AVal} : (strs n f).length = n := by simp [strs]
theorem strs_get {n : Nat} {f : Nat → List AVal} {i : Nat} (h : i < n) : (strs n f)[i]? = some (strAt f i) := by
  unfold strs; rw [List.getElem?_map, List.getElem?_range h]; rfl
theorem strs_of (ls : List (List UInt8)) : strs ls.length (fun i => [.str (ls.getD i [])]) = ls := by
  apply List.ext_getElem?
  intro i
  rcases Nat.lt_or_ge i ls.length with h | h
  · rw [strs_get h]
    simp [strAt, List.getD_eq_getElem?_getD, h]
  · rw [List.getElem?_eq_none (by rw [strs_len]; exact h), List.getElem?_eq_none h]
theorem isStrs_of (n : Nat) (g : Nat → List UInt8) : IsStrs n (fun i => [.str (g i)]) := fun i _ => rfl
/-- the strings alone -/
def onlyStrs (f : Nat → List AVal) : Nat → List AVal := fun i => [.str (strAt f i)]
theorem strs_only (n : Nat) (f : Nat → List AVal) : strs n (onlyStrs f) = strs n f := rfl
end Go.Proofs.Ytnbbaemijogeoaa
namespace Go.Proofs.Ytnbbaemijogeoaa.Ae
open Go Go.RowKit
theorem VE.strs {H : Hp} {n : Nat} {f : Nat → List AVal} (h : IsStrs n f) : VE H (.ro n 1 f) (.ro n 1 (onlyStrs f)) := VE.ro fun i hi => h i hi
end Go.Proofs.Ytnbbaemijogeoaa.Ae
