/- What chapter 13's functions compute. No program in sight. -/
import Derived.Test.YtldfkjjjjfbbmaaAeWh
import Derived.Test.YtldfkjjjjfbbmaaMad
set_option linter.unusedSimpArgs false
set_option linter.unusedVariables false
namespace Go.Proofs.Ytldfkjjjjfbbmaa
open Go Ae

/-- a machine, but for what it did -/
structure VM where
  id : Int
  pri : Int
  every : Int
  pre : Bool
  src : List UInt8
  n : Nat
  f : Nat → List AVal
  st : Int
  pace : Int
  wait : Int
/-- .. and what it did: cells -/
structure VX where
  m : VM
  out : List AVal
  k : Nat
def vrSkew (p e : Int) : Int := if p < 0 ∨ 255 < p ∨ e < 1 ∨ 4095 < e then 0 else (256 - p) * e / 256
def vrDown (m : VM) : Int := 3 * m.pace + vrSkew m.pri m.pace
def evSay (m : VM) (p : Int) : List AVal := [.int .i64 1, .int .i64 m.id, .int .i64 p, .int .i64 m.every, .ro m.n 1 m.f]
def evClaim : List AVal := [.int .i64 2, .int .i64 0, .int .i64 0, .int .i64 0, .ro 0 1 (fun _ => [])]
def vrLead (x : VX) : VX := ⟨⟨x.m.id, x.m.pri, x.m.every, x.m.pre, x.m.src, x.m.n, x.m.f, 3, x.m.pace, x.m.every⟩, x.out ++ (evSay x.m x.m.pri ++ evClaim), x.k + 2⟩
def vrPace (p : Int) : Int := if 4095 < (if p < 1 then 1 else p) then 4095 else (if p < 1 then 1 else p)
def vrFollow (p : Int) (x : VX) : VX := ⟨⟨x.m.id, x.m.pri, x.m.every, x.m.pre, x.m.src, x.m.n, x.m.f, 2, vrPace p, 3 * vrPace p + vrSkew x.m.pri (vrPace p)⟩, x.out, x.k⟩
def vrSay (p : Int) (x : VX) : VX := ⟨⟨x.m.id, x.m.pri, x.m.every, x.m.pre, x.m.src, x.m.n, x.m.f, x.m.st, x.m.pace, x.m.every⟩, x.out ++ evSay x.m p, x.k + 1⟩
def vrSet (st wait : Int) (x : VX) : VX := ⟨⟨x.m.id, x.m.pri, x.m.every, x.m.pre, x.m.src, x.m.n, x.m.f, st, x.m.pace, wait⟩, x.out, x.k⟩
def vrPri (p : Int) (x : VX) : VX := if p < 1 ∨ 255 < p then x else ⟨⟨x.m.id, p, x.m.every, x.m.pre, x.m.src, x.m.n, x.m.f, x.m.st, x.m.pace, x.m.wait⟩, x.out, x.k⟩
def vrStart (x : VX) : VX := if x.m.st ≠ 1 then x else if x.m.pri = 255 then vrLead x else vrFollow x.m.every x
def vrStop (x : VX) : VX := vrSet 1 0 (if x.m.st = 3 then vrSay 0 x else x)
def vrTick (x : VX) : VX := if x.m.st = 1 then x else
  if 0 < x.m.wait - 1 then vrSet x.m.st (x.m.wait - 1) x
  else if x.m.st = 2 then vrLead x
  else vrSay x.m.pri x
def vrTake (src : List UInt8) (a : Adv) (x : VX) : VX := if a.id ≠ x.m.id then x
  else if x.m.st = 2 then
    (if a.pri = 0 then vrSet 2 (if vrSkew x.m.pri x.m.pace < 1 then 1 else vrSkew x.m.pri x.m.pace) x
     else if x.m.pre = false ∨ x.m.pri ≤ a.pri then vrFollow a.every x else x)
  else if x.m.st = 3 then
    (if a.pri = 0 then vrSay x.m.pri x
     else if x.m.pri < a.pri ∨ (a.pri = x.m.pri ∧ (Op.bytesLess src x.m.src = false ∧ src ≠ x.m.src)) then vrFollow a.every x else x)
  else x
/-- what holds of every machine -/
structure VOk (x : VX) : Prop where
  every : 1 ≤ x.m.every ∧ x.m.every ≤ 4095
  pri : 1 ≤ x.m.pri ∧ x.m.pri ≤ 255
  pace : 1 ≤ x.m.pace ∧ x.m.pace ≤ 4095
  st : x.m.st = 1 ∨ x.m.st = 2 ∨ x.m.st = 3
  wait : 0 ≤ x.m.wait ∧ x.m.wait ≤ 20000
  run : x.m.st ≠ 1 → 1 ≤ x.m.wait
  n : x.m.n ≤ 8
  len : x.out.length = x.k * 5
  k : x.k ≤ 1000000000000
/-- what its functions want -/
structure VB (x : VX) : Prop where
  every : 1 ≤ x.m.every ∧ x.m.every ≤ 4095
  pri : 1 ≤ x.m.pri ∧ x.m.pri ≤ 255
  pace : 1 ≤ x.m.pace ∧ x.m.pace ≤ 4095
  st : x.m.st = 1 ∨ x.m.st = 2 ∨ x.m.st = 3
  n : x.m.n ≤ 8
  len : x.out.length = x.k * 5
  k : x.k + 2 ≤ 1000000000000
theorem VOk.vb {x : VX} (h : VOk x) (hk : x.k + 2 ≤ 1000000000000) : VB x := ⟨h.every, h.pri, h.pace, h.st, h.n, h.len, hk⟩
/-- .. as time goes on -/
def VBw (x : VX) : Prop := VB x ∧ 0 ≤ x.m.wait ∧ x.m.wait ≤ 20000
theorem VOk.vbw {x : VX} (h : VOk x) (hk : x.k + 2 ≤ 1000000000000) : VBw x := ⟨h.vb hk, h.wait⟩
theorem vrSkew_bd (p e : Int) : 0 ≤ vrSkew p e ∧ vrSkew p e ≤ 4095 := by
  unfold vrSkew
  split
  · omega
  · rename_i h
    have h1 : 0 ≤ (256 - p) * e := Int.mul_nonneg (by omega) (by omega)
    have h2 : (256 - p) * e ≤ 256 * 4095 := Int.mul_le_mul (by omega) (by omega) (by omega) (by omega)
    omega
theorem vrSkew_pos {p e : Int} (hp : 0 ≤ p ∧ p ≤ 255) (he : 1 ≤ e ∧ e ≤ 4095) : vrSkew p e = (256 - p) * e / 256 := by
  unfold vrSkew; rw [if_neg (by omega)]
theorem vrPace_bd (p : Int) : 1 ≤ vrPace p ∧ vrPace p ≤ 4095 := by unfold vrPace; split <;> split <;> omega
theorem vrPace_id {p : Int} (h : 1 ≤ p ∧ p ≤ 4095) : vrPace p = p := by unfold vrPace; rw [if_neg (by omega), if_neg (by omega)]
theorem evSay_len (m : VM) (p : Int) : (evSay m p).length = 5 := rfl
theorem evClaim_len : evClaim.length = 5 := rfl
section
variable {x : VX}
theorem vrLead_ok (h : VOk x) (hk : x.k + 2 ≤ 1000000000000) : VOk (vrLead x) := by
  have := h.every
  refine ⟨h.every, h.pri, h.pace, .inr (.inr rfl), ?_, fun _ => ?_, h.n, ?_, hk⟩
  · show 0 ≤ x.m.every ∧ x.m.every ≤ 20000; omega
  · show 1 ≤ x.m.every; omega
  · show (x.out ++ (evSay x.m x.m.pri ++ evClaim)).length = (x.k + 2) * 5
    rw [List.length_append, List.length_append, h.len, evSay_len, evClaim_len]; omega
theorem vrFollow_ok (h : VOk x) (p : Int) : VOk (vrFollow p x) := by
  have h1 := vrPace_bd p
  have h2 := vrSkew_bd x.m.pri (vrPace p)
  refine ⟨h.every, h.pri, h1, .inr (.inl rfl), ?_, fun _ => ?_, h.n, h.len, h.k⟩
  · show 0 ≤ 3 * vrPace p + vrSkew x.m.pri (vrPace p) ∧ _; show 0 ≤ 3 * vrPace p + vrSkew x.m.pri (vrPace p) ∧ 3 * vrPace p + vrSkew x.m.pri (vrPace p) ≤ 20000; omega
  · show 1 ≤ 3 * vrPace p + vrSkew x.m.pri (vrPace p); omega
theorem vrSay_ok (h : VOk x) (p : Int) (hk : x.k + 1 ≤ 1000000000000) : VOk (vrSay p x) := by
  have := h.every
  refine ⟨h.every, h.pri, h.pace, h.st, ?_, fun _ => ?_, h.n, ?_, hk⟩
  · show 0 ≤ x.m.every ∧ x.m.every ≤ 20000; omega
  · show 1 ≤ x.m.every; omega
  · show (x.out ++ evSay x.m p).length = (x.k + 1) * 5
    rw [List.length_append, h.len, evSay_len]; omega
theorem vrSet_ok (h : VOk x) {s q : Int} (hs : s = 1 ∨ s = 2 ∨ s = 3) (hq : 0 ≤ q ∧ q ≤ 20000) (hr : s ≠ 1 → 1 ≤ q) : VOk (vrSet s q x) := ⟨h.every, h.pri, h.pace, hs, hq, hr, h.n, h.len, h.k⟩
theorem vrPri_ok (h : VOk x) (p : Int) : VOk (vrPri p x) := by
  unfold vrPri
  split
  · exact h
  · rename_i hp
    exact ⟨h.every, by show 1 ≤ p ∧ p ≤ 255; omega, h.pace, h.st, h.wait, h.run, h.n, h.len, h.k⟩
theorem vrStart_ok (h : VOk x) (hk : x.k + 2 ≤ 1000000000000) : VOk (vrStart x) := by
  unfold vrStart
  split
  · exact h
  · split
    · exact vrLead_ok h hk
    · exact vrFollow_ok h _
theorem vrStop_ok (h : VOk x) (hk : x.k + 2 ≤ 1000000000000) : VOk (vrStop x) := by
  unfold vrStop
  split
  · exact vrSet_ok (vrSay_ok h 0 (by omega)) (.inl rfl) (by omega) (fun h => absurd rfl h)
  · exact vrSet_ok h (.inl rfl) (by omega) (fun h => absurd rfl h)
theorem vrTick_ok (h : VOk x) (hk : x.k + 2 ≤ 1000000000000) : VOk (vrTick x) := by
  have hw := h.wait
  unfold vrTick
  split
  · exact h
  · split
    · exact vrSet_ok h h.st (by omega) (fun _ => by omega)
    · split
      · exact vrLead_ok h hk
      · exact vrSay_ok h _ (by omega)
theorem vrTake_ok (h : VOk x) (hk : x.k + 2 ≤ 1000000000000) (s : List UInt8) (a : Adv) : VOk (vrTake s a x) := by
  have hb := vrSkew_bd x.m.pri x.m.pace
  unfold vrTake
  split
  · exact h
  split
  · split
    · refine vrSet_ok h (.inr (.inl rfl)) ?_ (fun _ => ?_)
      · split <;> omega
      · split <;> omega
    · split
      · exact vrFollow_ok h _
      · exact h
  split
  · split
    · exact vrSay_ok h _ (by omega)
    · split
      · exact vrFollow_ok h _
      · exact h
  · exact h
def vrTicks : Nat → VX → VX
  | 0, x => x
  | j + 1, x => vrTicks j (vrTick x)
def vrCount (n : Int) : Nat := if n < 2000 then n.toNat else 2000
def vrDo (kind n : Int) (s : List UInt8) (a : Adv) (x : VX) : VX :=
  if kind = 0 then vrStart x else if kind = 1 then vrStop x else if kind = 2 then vrTicks (vrCount n) x else if kind = 3 then vrTake s a x else if kind = 4 then vrPri n x else x
theorem vrTick_k : (vrTick x).k ≤ x.k + 2 := by
  unfold vrTick
  split
  · omega
  · split
    · exact Nat.le_add_right _ _
    · split
      · exact Nat.le_refl _
      · show x.k + 1 ≤ x.k + 2; omega
theorem vrTicks_ok : ∀ (j : Nat) {x : VX}, VOk x → x.k + 2 * j ≤ 1000000000000 → VOk (vrTicks j x) ∧ (vrTicks j x).k ≤ x.k + 2 * j
  | 0, x, h, _ => ⟨h, Nat.le_refl _⟩
  | j + 1, x, h, hk => by
    have h1 := vrTick_k (x := x)
    obtain ⟨h2, h3⟩ := vrTicks_ok j (vrTick_ok h (by omega)) (by omega)
    exact ⟨h2, by unfold vrTicks; omega⟩
theorem vrCount_le (n : Int) : vrCount n ≤ 2000 := by unfold vrCount; split <;> omega
theorem vrStart_k : (vrStart x).k ≤ x.k + 2 := by
  unfold vrStart
  split
  · omega
  · split
    · exact Nat.le_refl _
    · exact Nat.le_add_right _ _
theorem vrStop_k : (vrStop x).k ≤ x.k + 2 := by
  unfold vrStop
  split
  · show x.k + 1 ≤ x.k + 2; omega
  · exact Nat.le_add_right _ _
theorem vrTake_k (s : List UInt8) (a : Adv) : (vrTake s a x).k ≤ x.k + 2 := by
  unfold vrTake
  repeat' split
  all_goals first
    | omega
    | exact Nat.le_add_right _ _
    | (show x.k + 1 ≤ x.k + 2; omega)
theorem vrDo_ok (h : VOk x) (hk : x.k + 4000 ≤ 1000000000000) (kind n : Int) (s : List UInt8) (a : Adv) : VOk (vrDo kind n s a x) ∧ (vrDo kind n s a x).k ≤ x.k + 4000 := by
  have hc := vrCount_le n
  unfold vrDo
  split
  · exact ⟨vrStart_ok h (by omega), Nat.le_trans vrStart_k (by omega)⟩
  split
  · exact ⟨vrStop_ok h (by omega), Nat.le_trans vrStop_k (by omega)⟩
  split
  · obtain ⟨h1, h2⟩ := vrTicks_ok (vrCount n) h (by omega)
    exact ⟨h1, by omega⟩
  split
  · exact ⟨vrTake_ok h (by omega) s a, Nat.le_trans (vrTake_k s a) (by omega)⟩
  split
  · refine ⟨vrPri_ok h n, ?_⟩
    unfold vrPri
    split
    · omega
    · show x.k ≤ x.k + 4000; omega
  · exact ⟨h, by omega⟩
theorem flat_rows {cs : List AVal} {k : Nat} (h : cs.length = k * 5) : (List.range k).flatMap (rowsOf 5 cs) = cs := by
  have : ∀ j, j ≤ k → (List.range j).flatMap (rowsOf 5 cs) = cs.take (j * 5) := by
    intro j
    induction j with
    | zero => intro _; simp
    | succ j ih =>
      intro hj
      rw [List.range_succ, List.flatMap_append, ih (by omega)]
      simp only [List.flatMap_cons, List.flatMap_nil, List.append_nil]
      unfold rowsOf
      rw [show (j + 1) * 5 = j * 5 + 5 by omega, List.take_add]
  rw [this k (Nat.le_refl _), ← h, List.take_length]
theorem vrLead_k : (vrLead x).k = x.k + 2 := rfl
end
end Go.Proofs.Ytldfkjjjjfbbmaa
