/- Chapter 1's functions as rows of a table. -/
import Derived.Test.YtnbbaemijogeoaaAeLw
import Derived.Test.YtnbbaemijogeoaaSum
import Derived.Test.YtnbbaemijogeoaaCk2
namespace Go.Proofs.Ytnbbaemijogeoaa.Ae
open Go Go.RowKit

/-- parts: a literal list of slices of bytes -/
def partsOf : Nat → (Nat → List AVal) → Option (List (List UInt8))
  | 0, _ => some []
  | n + 1, f => match f 0 with
    | [.roB l] => match partsOf n (fun i => f (i + 1)) with
      | some r => some (l :: r)
      | none => none
    | [.nilS] => match partsOf n (fun i => f (i + 1)) with
      | some r => some ([] :: r)
      | none => none
    | _ => none
theorem partsOf_get : ∀ {n : Nat} {f : Nat → List AVal} {ls : List (List UInt8)}, partsOf n f = some ls → ls.length = n ∧ ∀ i, i < n → f i = [.roB (ls.getD i [])] ∨ (f i = [.nilS] ∧ ls.getD i [] = [])
  | 0, f, ls, h => by simp [partsOf] at h; subst h; exact ⟨rfl, fun i hi => by omega⟩
  | n + 1, f, ls, h => by
    simp only [partsOf] at h
    have aux : ∀ (l : List UInt8) (r : List (List UInt8)), partsOf n (fun i => f (i + 1)) = some r → ls = l :: r → (f 0 = [.roB l] ∨ (f 0 = [.nilS] ∧ l = [])) → ls.length = n + 1 ∧ ∀ i, i < n + 1 → f i = [.roB (ls.getD i [])] ∨ (f i = [.nilS] ∧ ls.getD i [] = []) := fun l r hr hls h0 => by
      obtain ⟨h1, h2⟩ := partsOf_get hr
      subst hls
      refine ⟨by simp [h1], fun i hi => ?_⟩
      cases i with
      | zero => simpa using h0
      | succ i => simpa using h2 i (by omega)
    split at h
    · rename_i l h0
      split at h
      · rename_i r hr; cases h; exact aux l r hr rfl (.inl h0)
      · cases h
    · rename_i h0
      split at h
      · rename_i r hr; cases h; exact aux [] r hr rfl (.inr ⟨h0, rfl⟩)
      · cases h
    · cases h

section
variable {R : Nat → Prop} {w : World} {m : Mp} {H : Hp}
theorem bytes_of {l : List UInt8} {v : Value} (h : VR R w m H (.roB l) v) : ∃ a c, v = .slice a l.length c ∧ Bytes w a l.length c l := by
  cases h with
  | roB l a c g off h1 h2 h3 h4 h5 =>
    refine ⟨a, c, rfl, by simp, h1, h3, h2, fun hp => ⟨g, off, (h4 hp).1, fun i hi => ?_⟩⟩
    rw [h5 i _ (List.getElem?_eq_getElem hi)]
    simp [hi, B8]
theorem parts_of {n : Nat} {f : Nat → List AVal} {v : Value} {ls : List (List UInt8)} (h : VR R w m H (.ro n 1 f) v) (hf : partsOf n f = some ls) (hn : n ≤ 1000) : PartsV ls v w := by
  obtain ⟨g1, g2⟩ := partsOf_get hf
  cases h with
  | ro n sz f a c g off X h1 h2 h3 h4 h5 h6 h7 =>
    refine ⟨a, n, c, rfl, hn, g1.symm, fun hp => ⟨g, off, (h4 hp).1, fun i hi => ?_⟩⟩
    rcases g2 i hi with e | ⟨e, e2⟩
    · have k5 := h5 i 0 (.roB (ls.getD i [])) hi (by rw [e]; rfl)
      have k6 := h6 i 0 (.roB (ls.getD i [])) hi (by rw [e]; rfl)
      obtain ⟨x, c', hx, hB⟩ := bytes_of k6
      rw [hx] at k5
      refine ⟨x, _, c', by simpa using k5.1, hB⟩
    · have k5 := h5 i 0 .nilS hi (by rw [e]; rfl)
      have k6 := h6 i 0 .nilS hi (by rw [e]; rfl)
      generalize X i 0 = x at k5 k6
      cases k6
      refine ⟨none, 0, 0, by simpa using k5.1, ?_⟩
      rw [e2]
      exact ⟨rfl, Nat.le_refl _, by omega, by omega, fun h => absurd h (by omega)⟩
end

/-- a row over parts -/
def partsRow (g : List (List UInt8) → AVal) (args : List AVal) (H : Hp) (K : AVal → Hp → Prop) : Prop := match args, H with
  | [.ro n sz f], [] => cond (Nat.beq sz 1) (match partsOf n f with
    | some ls => (n ≤ 1000 ∧ ls.flatten.length ≤ 562949953421312) ∧ K (g ls) []
    | none => False) False
  | _, _ => False

theorem partsRow_sound {P : Program} {f : Nat} {g : List (List UInt8) → AVal} {r : List (List UInt8) → Value} (hg : ∀ ls R w m H, VR R w m H (g ls) (r ls)) (hfn : ∃ fn, P.funcs[f]? = some fn ∧ (fn.name == "runtime.NumGoroutine") = false ∧ fn.body.isNone = false)
    (hc : ∀ (v : Value) (w : World) (ls : List (List UInt8)), PartsV ls v w → ls.flatten.length ≤ 562949953421312 → Calls P f #[v] w fun e w' => e = .returned (r ls) ∧ w = w')
    {args : List AVal} {H : Hp} {K : AVal → Hp → Prop} (h : partsRow g args H K) : ∃ v H', K v H' ∧ Gives P f args H v H' := by
  unfold partsRow at h
  split at h
  · rename_i n sz q
    cases hs : Nat.beq sz 1 with
    | false => rw [hs] at h; exact h.elim
    | true =>
      rw [hs] at h
      obtain rfl := Nat.eq_of_beq_eq_true hs
      simp only [cond_true] at h
      split at h
      · rename_i ls hl
        obtain ⟨⟨h1, h2⟩, h3⟩ := h
        refine ⟨g ls, [], h3, hfn, fun R w m xs hS hx => ?_⟩
        obtain ⟨u, rfl, hu⟩ := hx.one
        refine (hc u w ls (parts_of hu hl h1) h2).mono ?_
        rintro e w' ⟨he, rfl⟩
        exact ⟨R, m, r ls, he, .refl hS, hg ls R w m []⟩
      · exact h.elim
  · exact h.elim

theorem sum_row {args : List AVal} {H : Hp} {K : AVal → Hp → Prop} (h : partsRow (fun ls => .int .u16 (sumB ls.flatten)) args H K) : ∃ v H', K v H' ∧ Gives Try.prog 83 args H v H' :=
  partsRow_sound (r := fun ls => .int .u16 (sumB ls.flatten)) (fun _ _ _ _ _ => .int _ _) ⟨_, Try.func83, by decide +kernel, rfl⟩ (fun _ _ _ hp hb => sum_v hp hb) h
theorem good_row {args : List AVal} {H : Hp} {K : AVal → Hp → Prop} (h : partsRow (fun ls => .bool (sumB ls.flatten == 65535)) args H K) : ∃ v H', K v H' ∧ Gives Try.prog 64 args H v H' :=
  partsRow_sound (r := fun ls => .bool (sumB ls.flatten == 65535)) (fun _ _ _ _ _ => .bool _) ⟨_, Try.func64, by decide +kernel, rfl⟩ (fun _ _ _ hp hb => good_vis rfl hp hb) h

/-- a row over bytes -/
def bytesRow (g : List UInt8 → AVal) (args : List AVal) (H : Hp) (K : AVal → Hp → Prop) : Prop := match args, H with
  | [.roB l], [] => K (g l) []
  | [.nilS], [] => K (g []) []
  | _, _ => False
theorem bytesRow_sound {P : Program} {f : Nat} {g : List UInt8 → AVal} {r : List UInt8 → Value} (hg : ∀ l R w m H, VR R w m H (g l) (r l)) (hfn : ∃ fn, P.funcs[f]? = some fn ∧ (fn.name == "runtime.NumGoroutine") = false ∧ fn.body.isNone = false)
    (hc : ∀ (a : Option Addr) (n cap : Nat) (l : List UInt8) (w : World), Bytes w a n cap l → Calls P f #[.slice a n cap] w fun e w' => e = .returned (r l) ∧ w = w')
    {args : List AVal} {H : Hp} {K : AVal → Hp → Prop} (h : bytesRow g args H K) : ∃ v H', K v H' ∧ Gives P f args H v H' := by
  unfold bytesRow at h
  split at h
  · rename_i l
    refine ⟨g l, [], h, hfn, fun R w m xs hS hx => ?_⟩
    obtain ⟨u, rfl, hu⟩ := hx.one
    obtain ⟨a, c, rfl, hB⟩ := bytes_of hu
    refine (hc a _ c l w hB).mono ?_
    rintro e w' ⟨he, rfl⟩
    exact ⟨R, m, r l, he, .refl hS, hg l R w m []⟩
  · refine ⟨g [], [], h, hfn, fun R w m xs hS hx => ?_⟩
    obtain ⟨u, rfl, hu⟩ := hx.one
    cases hu
    refine (hc none 0 0 [] w ⟨rfl, Nat.le_refl _, by omega, by omega, fun h => absurd h (by omega)⟩).mono ?_
    rintro e w' ⟨he, rfl⟩
    exact ⟨R, m, r [], he, .refl hS, hg [] R w m []⟩
  · exact h.elim
theorem refSum_row {args : List AVal} {H : Hp} {K : AVal → Hp → Prop} (h : bytesRow (fun l => .int .i64 (sumB l)) args H K) : ∃ v H', K v H' ∧ Gives Try.prog 78 args H v H' :=
  bytesRow_sound (r := fun l => .int .i64 (sumB l)) (fun _ _ _ _ _ => .int _ _) ⟨_, Try.func78, by decide +kernel, rfl⟩ (fun a n c l w hB => refSum_c a n c l w hB) h

end Go.Proofs.Ytnbbaemijogeoaa.Ae
