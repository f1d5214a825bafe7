/- An operation of a drawn region: it sees a part of the heap, and adds blocks of its own. No program in sight. Code and functions: what the evaluator says is what the model does. No program in sight. Drawn regions: what the evaluator's run in text order says of every order. No program in sight. Drawn regions: any order. No program in sight. Drawn regions: one more operation. No program in sight. -/
import Derived.Test.YtnbbaemijogeoaaAeS
namespace Go.Proofs.Ytnbbaemijogeoaa.Ae
open Go
section
variable {P : Program} {R R' : Nat → Prop} {w w' : World} {m m' : Mp} {H H' : Hp}

theorem ren_id {r : Nat → Option Nat} : ∀ {v : AVal}, (∀ k ∈ refs v, r k = some k) → ren r v = v := by
  intro v
  refine AVal.rec (motive_1 := fun v => (∀ k ∈ refs v, r k = some k) → ren r v = v) (motive_2 := fun vs => (∀ k ∈ refsL vs, r k = some k) → renL r vs = vs) ?_ ?_ ?_ ?_ ?_ ?_ ?_ ?_ ?_ ?_ ?_ ?_ ?_ ?_ ?_ ?_ ?_ ?_ v
  all_goals try (intros; rfl)
  · intro b off len sz h; simp only [ren, h b (by simp [refs])]
  · intro b off h; simp only [ren, h b (by simp [refs])]
  · intro cs ih h; simp only [ren]; rw [ih (by simpa [refs] using h)]
  · intro cs ih h; simp only [ren]; rw [ih (by simpa [refs] using h)]
  · intro f a b iha ihb h
    simp only [refs, List.mem_append] at h
    simp only [ren]
    rw [iha fun k hk => h k (.inl hk), ihb fun k hk => h k (.inr hk)]
  · intro v vs ih1 ih2 h
    simp only [refsL, List.mem_append] at h
    simp only [renL]
    rw [ih1 fun k hk => h k (.inl hk), ih2 fun k hk => h k (.inr hk)]
theorem renL_id {r : Nat → Option Nat} : ∀ {vs : List AVal}, (∀ k ∈ refsL vs, r k = some k) → renL r vs = vs
  | [], _ => rfl
  | v :: vs, h => by
    simp only [refsL, List.mem_append] at h
    simp only [renL]
    rw [ren_id fun k hk => h k (.inl hk), renL_id fun k hk => h k (.inr hk)]
theorem renB_id {r : Nat → Option Nat} {B : ABlk} (h : ∀ k ∈ refsB B, r k = some k) : renB r B = B := by
  cases B with
  | vals cs => simp only [renB]; rw [renL_id (by simpa [refsB] using h)]
  | _ => rfl

/-- the first blocks, and live ones -/
def In (base : Nat) (G : Hp) (k : Nat) : Prop := k < base ∨ hget k G ≠ .dead
open Classical in
noncomputable def rOn (base : Nat) (G : Hp) (k : Nat) : Option Nat := if In base G k then some k else none
theorem rOn_in {base : Nat} {G : Hp} {k : Nat} (h : In base G k) : rOn base G k = some k := if_pos h
theorem rOn_some {base : Nat} {G : Hp} {k k' : Nat} (h : rOn base G k = some k') : k' = k ∧ In base G k := by
  unfold rOn at h
  split at h
  · rename_i hi; exact ⟨(Option.some.inj h).symm, hi⟩
  · cases h
/-- the numbers of a part -/
def cutM (m : Mp) (n : Nat) : Mp := fun k => if k < n then m k else none

/-- a part of a heap, and the heap with new blocks -/
structure Fit (base : Nat) (Hs Hb Hb' : Hp) (news : List ABlk) : Prop where
  le : base ≤ Hs.length
  low : ∀ k, k < base → hget k Hb = hget k Hs
  live : ∀ k, hget k Hs ≠ .dead → hget k Hb = hget k Hs
  gap : ∀ q, q < news.length → hget (Hs.length + q) Hb = .dead
  fill : ∀ q, q < news.length → hget (Hs.length + q) Hb' = hget q news
  rest : ∀ k, (k < Hs.length ∨ Hs.length + news.length ≤ k) → hget k Hb' = hget k Hb
  len : Hb'.length = Hb.length
  room : Hs.length + news.length ≤ Hb.length
  refS : ∀ k, hget k Hs ≠ .dead → ∀ j ∈ refsB (hget k Hs), In base Hs j
  refB : ∀ k, hget k Hb ≠ .dead → ∀ j ∈ refsB (hget k Hb), In base Hb j
  refN : ∀ q, q < news.length → ∀ j ∈ refsB (hget q news), In base (Hs ++ news) j

theorem Fit.numS {base : Nat} {Hs Hb Hb' : Hp} {news : List ABlk} (f : Fit base Hs Hb Hb' news) (m : Mp) : Num (rOn base Hs) m Hb (cutM m Hs.length) Hs := by
  have lt : ∀ k, In base Hs k → k < Hs.length := fun k h => by
    rcases h with h | h
    · have := f.le; omega
    · exact hget_lt h
  refine ⟨fun k k' g h hm => ?_, fun k k' h _ => ?_, fun k k' h _ => ?_⟩
  · obtain ⟨rfl, hi⟩ := rOn_some h
    simp [cutM, lt _ hi, hm]
  · obtain ⟨rfl, hi⟩ := rOn_some h
    exact lt _ hi
  · obtain ⟨rfl, hi⟩ := rOn_some h
    have e : hget k' Hb = hget k' Hs := by
      rcases hi with hi | hi
      · exact f.low _ hi
      · exact f.live _ hi
    rw [e]
    by_cases hd : hget k' Hs = .dead
    · exact .inl hd
    · exact .inr ⟨hd, rfl⟩
theorem Fit.simS {base : Nat} {Hs Hb Hb' : Hp} {news : List ABlk} (f : Fit base Hs Hb Hb' news) (hS : Sim R w m Hb) : Sim R w (cutM m Hs.length) Hs := by
  have hm : ∀ k, hget k Hs ≠ .dead → cutM m Hs.length k = m k := fun k h => by simp [cutM, hget_lt h]
  have hb : ∀ k, hget k Hs ≠ .dead → hget k Hb ≠ .dead := fun k h => by rw [f.live k h]; exact h
  refine ⟨hS.rlt, fun k hk => by simp [cutM, Nat.not_lt.2 hk], fun k g hk hg => ?_, fun k hk hg => ?_, fun k k' g hk hk' hg hg' => ?_⟩
  · rw [hm k hk] at hg
    obtain ⟨a1, xs, e, fr, a2, a3, a4, a5⟩ := hS.own k g (hb k hk) hg
    refine ⟨a1, xs, e, fr, a2, a3, a4, ?_⟩
    rw [f.live k hk] at a5
    have := a5.ren (f.numS m)
    rwa [renB_id fun j hj => rOn_in (f.refS k hk j hj)] at this
  · rw [hm k hk] at hg
    rw [← f.live k hk]; exact hS.ph k (hb k hk) hg
  · rw [hm k hk] at hg; rw [hm k' hk'] at hg'
    exact hS.inj k k' g (hb k hk) (hb k' hk') hg hg'

/-- the numbers afterwards -/
def newM (m m' : Mp) (n l : Nat) : Mp := fun k => if n ≤ k ∧ k < n + l then m' k else m k

theorem Fit.lift {R1 : Nat → Prop} {w1 : World} {m1 : Mp} {H1 : Hp} {Hs Hb Hb' : Hp} {news : List ABlk} (f : Fit H1.length Hs Hb Hb' news) (F0 : Far R1 w1 m1 H1 R w m Hb) (hgap : ∀ q, q < news.length → m (Hs.length + q) = none)
    (F : Far R w (cutM m Hs.length) Hs R' w' m' (Hs ++ news)) :
    Far R1 w1 m1 H1 R' w' (newM m m' Hs.length news.length) Hb' ∧ Num (rOn H1.length (Hs ++ news)) m' (Hs ++ news) (newM m m' Hs.length news.length) Hb' ∧ Num (rOn H1.length Hb) m Hb (newM m m' Hs.length news.length) Hb' ∧
      (∀ g, R g → R' g) ∧ (∀ g, R g → w'.heap[g]? = w.heap[g]?) ∧ (∀ g n, rowSize w g = some n → rowSize w' g = some n) := by
  have hS := F0.sim
  generalize hbase : H1.length = base at *
  generalize hm2 : newM m m' Hs.length news.length = m2
  have m2in : ∀ k, Hs.length ≤ k → k < Hs.length + news.length → m2 k = m' k := fun k h1 h2 => by rw [← hm2]; exact if_pos ⟨h1, h2⟩
  have m2out : ∀ k, (k < Hs.length ∨ Hs.length + news.length ≤ k) → m2 k = m k := fun k h => by rw [← hm2]; exact if_neg (by omega)
  have msame : ∀ k, k < Hs.length → m' k = m k := fun k hk => by rw [F.same k hk]; simp [cutM, hk]
  have low1 : ∀ k, k < Hs.length → hget k (Hs ++ news) = hget k Hs := fun k hk => hget_append_lt hk
  have hi1 : ∀ q, hget (Hs.length + q) (Hs ++ news) = hget q news := fun q => hget_append_ge
  -- what the callee's part says of the whole
  have sub : ∀ k, hget k (Hs ++ news) ≠ .dead → hget k Hb' = hget k (Hs ++ news) ∧ m2 k = m' k := fun k hk => by
    have hlt := hget_lt hk
    simp only [List.length_append] at hlt
    by_cases h : k < Hs.length
    · rw [low1 k h] at hk ⊢
      exact ⟨by rw [f.rest k (.inl h), f.live k hk], by rw [m2out k (.inl h), msame k h]⟩
    · have e : k = Hs.length + (k - Hs.length) := by omega
      refine ⟨?_, m2in k (by omega) (by omega)⟩
      rw [e, f.fill _ (by omega), hi1]
  have cls : ∀ k, hget k Hb' ≠ .dead → (hget k (Hs ++ news) ≠ .dead ∧ hget k Hb' = hget k (Hs ++ news) ∧ m2 k = m' k) ∨ (hget k Hs = .dead ∧ hget k Hb ≠ .dead ∧ hget k Hb' = hget k Hb ∧ m2 k = m k) := fun k hk => by
    by_cases h : hget k (Hs ++ news) = .dead
    · right
      have hr : k < Hs.length ∨ Hs.length + news.length ≤ k := by
        rcases Nat.lt_or_ge k Hs.length with h1 | h1
        · exact .inl h1
        · rcases Nat.lt_or_ge k (Hs.length + news.length) with h2 | h2
          · have e : k = Hs.length + (k - Hs.length) := by omega
            rw [e, f.fill _ (by omega), ← hi1, ← e] at hk
            exact absurd h hk
          · exact .inr h2
      refine ⟨?_, by rw [← f.rest k hr]; exact hk, f.rest k hr, m2out k hr⟩
      rcases Nat.lt_or_ge k Hs.length with h1 | h1
      · rw [← low1 k h1]; exact h
      · exact hget_out h1
    · exact .inl ⟨h, sub k h⟩
  have num1 : Num (rOn base (Hs ++ news)) m' (Hs ++ news) m2 Hb' := by
    refine ⟨fun k k' g h hm => ?_, fun k k' h hk => ?_, fun k k' h hk => ?_⟩
    · obtain ⟨rfl, hi⟩ := rOn_some h
      rcases hi with hi | hi
      · have hlt := Nat.lt_of_lt_of_le hi f.le
        rw [m2out _ (.inl hlt), ← msame _ hlt]; exact hm
      · rw [(sub _ hi).2]; exact hm
    · obtain ⟨rfl, hi⟩ := rOn_some h
      simp only [List.length_append] at hk
      have := f.room; have := f.len; omega
    · obtain ⟨rfl, hi⟩ := rOn_some h
      have e : hget k' Hb' = hget k' (Hs ++ news) := by
        rcases hi with hi | hi
        · have hlt := Nat.lt_of_lt_of_le hi f.le
          rw [low1 _ hlt, f.rest _ (.inl hlt), f.low _ hi]
        · exact (sub _ hi).1
      rw [e]
      by_cases hd : hget k' (Hs ++ news) = .dead
      · exact .inl hd
      · exact .inr ⟨hd, rfl⟩
  have gapB : ∀ k, hget k Hb ≠ .dead → k < Hs.length ∨ Hs.length + news.length ≤ k := fun k hk => by
    rcases Nat.lt_or_ge k Hs.length with h1 | h1
    · exact .inl h1
    · rcases Nat.lt_or_ge k (Hs.length + news.length) with h2 | h2
      · have e : k = Hs.length + (k - Hs.length) := by omega
        rw [e] at hk
        exact absurd (f.gap _ (by omega)) hk
      · exact .inr h2
  have hagree : ∀ k g, m k = some g → m2 k = some g := fun k g hm => by
    by_cases h : Hs.length ≤ k ∧ k < Hs.length + news.length
    · have e : k = Hs.length + (k - Hs.length) := by omega
      rw [e, hgap _ (by omega)] at hm; cases hm
    · rw [m2out k (by omega)]; exact hm
  have num2 : Num (rOn base Hb) m Hb m2 Hb' := by
    refine ⟨fun k k' g h hm => ?_, fun k k' h hk => ?_, fun k k' h hk => ?_⟩
    · obtain ⟨rfl, hi⟩ := rOn_some h
      exact hagree _ _ hm
    · obtain ⟨rfl, hi⟩ := rOn_some h
      rw [f.len]; exact hk
    · obtain ⟨rfl, hi⟩ := rOn_some h
      have e : hget k' Hb' = hget k' Hb := by
        rcases hi with hi | hi
        · exact f.rest _ (.inl (Nat.lt_of_lt_of_le hi f.le))
        · exact f.rest _ (gapB _ hi)
      rw [e]
      by_cases hd : hget k' Hb = .dead
      · exact .inl hd
      · exact .inr ⟨hd, rfl⟩
  have hS1 := f.simS hS
  have gone : ∀ k g, hget k Hs = .dead → hget k Hb ≠ .dead → m k = some g → g < w.heap.size ∧ ∀ j, hget j Hs ≠ .dead → cutM m Hs.length j ≠ some g := fun k g h1 h2 h3 => by
    obtain ⟨_, ys, e, fr, h4, _⟩ := hS.own k g h2 h3
    refine ⟨(Array.getElem?_eq_some_iff.1 h4).1, fun j hj hm => ?_⟩
    simp only [cutM, hget_lt hj, if_true] at hm
    have := hS.inj j k g (by rw [f.live j hj]; exact hj) h2 hm h3
    subst this
    exact hj h1
  have hsim : Sim R' w' m2 Hb' := by
    refine ⟨F.sim.rlt, fun k hk => ?_, fun k g hk hg => ?_, fun k hk hg => ?_, fun k k' g hk hk' hg hg' => ?_⟩
    · rw [f.len] at hk
      have := f.room
      rw [m2out k (.inr (by omega))]; exact hS.out k hk
    · rcases cls k hk with ⟨b1, b2, b3⟩ | ⟨b1, b2, b3, b4⟩
      · rw [b3] at hg
        obtain ⟨a1, xs, e, fr, a2, a3, a4, a5⟩ := F.sim.own k g b1 hg
        refine ⟨a1, xs, e, fr, a2, a3, a4, ?_⟩
        have h6 := a5.ren num1
        rw [b2]
        rwa [renB_id fun j hj => rOn_in ?_] at h6
        have hlt := hget_lt b1
        simp only [List.length_append] at hlt
        by_cases h : k < Hs.length
        · rw [low1 k h] at hj b1
          rcases f.refS k b1 j hj with h7 | h7
          · exact .inl h7
          · exact .inr (by rw [low1 j (hget_lt h7)]; exact h7)
        · have e : k = Hs.length + (k - Hs.length) := by omega
          rw [e, hi1] at hj
          exact f.refN _ (by omega) j hj
      · rw [b4] at hg
        obtain ⟨a1, xs, e, fr, a2, a3, a4, a5⟩ := hS.own k g b2 hg
        obtain ⟨c1, c2⟩ := gone k g b1 b2 hg
        refine ⟨fun h => ?_, xs, e, fr, by rw [F.frame g c1 c2]; exact a2, a3, a4, ?_⟩
        · rcases F.newR g h with h | h | ⟨j, d1, d2⟩
          · exact a1 h
          · omega
          · exact c2 j d1 d2
        · have h6 : BR R' w' m Hb (hget k Hb) xs := a5.mono F.sub (F.rsame hS1) F.rows (fun _ _ h => h) (Nat.le_refl _) (hext_self _)
          have h7 := h6.ren num2
          rw [b3]
          rwa [renB_id fun j hj => rOn_in (f.refB k b2 j hj)] at h7
    · rcases cls k hk with ⟨b1, b2, b3⟩ | ⟨b1, b2, b3, b4⟩
      · rw [b3] at hg; rw [b2]; exact F.sim.ph k b1 hg
      · rw [b4] at hg; rw [b3]; exact hS.ph k b2 hg
    · have mix : ∀ k k', (hget k (Hs ++ news) ≠ .dead ∧ hget k Hb' = hget k (Hs ++ news) ∧ m2 k = m' k) → (hget k' Hs = .dead ∧ hget k' Hb ≠ .dead ∧ hget k' Hb' = hget k' Hb ∧ m2 k' = m k') → m2 k = some g → m2 k' = some g → False := by
        rintro k k' ⟨b1, b2, b3⟩ ⟨c1, c2, c3, c4⟩ hg hg'
        rw [b3] at hg; rw [c4] at hg'
        obtain ⟨d1, d2⟩ := gone k' g c1 c2 hg'
        rcases F.news k g b1 hg with h | ⟨j, h1, h2⟩
        · omega
        · exact d2 j h1 h2
      have ck := cls k hk
      have ck' := cls k' hk'
      rcases ck with b | b <;> rcases ck' with c | c
      · rw [b.2.2] at hg; rw [c.2.2] at hg'
        exact F.sim.inj k k' g b.1 c.1 hg hg'
      · exact (mix k k' b c hg hg').elim
      · exact (mix k' k c b hg' hg).elim
      · rw [b.2.2.2] at hg; rw [c.2.2.2] at hg'
        exact hS.inj k k' g b.2.1 c.2.1 hg hg'
  have back : ∀ j g, hget j Hs ≠ .dead → cutM m Hs.length j = some g → w1.heap.size ≤ g ∨ ∃ k0, hget k0 H1 ≠ .dead ∧ m1 k0 = some g := fun j g h1 h2 => by
    simp only [cutM, hget_lt h1, if_true] at h2
    exact F0.news j g (by rw [f.live j h1]; exact h1) h2
  refine ⟨⟨fun g h => F.sub g (F0.sub g h), fun g hg => ?_, hsim, F.os.trans F0.os, F.tape.trans F0.tape, F.output.trans F0.output, Nat.le_trans F0.size F.size, fun g hg => ?_, fun g hg hno => ?_, fun k g h => hagree k g (F0.agree k g h), ?_, fun k hk => ?_, fun k g hk hg => ?_, fun k hk => ?_⟩, num1, num2, F.sub, F.rsame hS1, F.rows⟩
  · rcases F.newR g hg with h | h | ⟨j, h1, h2⟩
    · exact F0.newR g h
    · exact .inr (.inl (Nat.le_trans F0.size h))
    · exact .inr (back j g h1 h2)
  · rw [F.shape g (Nat.lt_of_lt_of_le hg F0.size), F0.shape g hg]
  · rw [F.frame g (Nat.lt_of_lt_of_le hg F0.size) fun j hj hm => ?_, F0.frame g hg hno]
    rcases back j g hj hm with h | ⟨k0, h1, h2⟩
    · omega
    · exact hno k0 h1 h2
  · rw [f.len]; exact F0.hlen
  · have := f.le
    rw [f.rest k (.inl (by omega))]; exact F0.hext k hk
  · rcases cls k hk with ⟨b1, b2, b3⟩ | ⟨b1, b2, b3, b4⟩
    · rw [b3] at hg
      rcases F.news k g b1 hg with h | ⟨j, h1, h2⟩
      · exact .inl (Nat.le_trans F0.size h)
      · exact back j g h1 h2
    · rw [b4] at hg
      exact F0.news k g b2 hg
  · have := f.le
    rw [m2out k (.inl (by omega))]; exact F0.same k hk

end
end Go.Proofs.Ytnbbaemijogeoaa.Ae

namespace Go.Proofs.Ytnbbaemijogeoaa.Ae
open Go

def ExR : AExit → Exit → Prop
  | .normal, e => e = .normal
  | .exit i, e => e = .exit i
  | .ret, e => e = .ret

/-- a stretch of code leads from a state to a state -/
def CodeOk (X : Cx) (c : Code) (s : St) (e : AExit) (s' : St) : Prop :=
  ∀ (R0 : Nat → Prop) (w0 : World) (m0 : Mp) (H0 : Hp), H0.length = X.n0 → Sim R0 w0 m0 H0 → ∀ (a : Act) (w : World), Inv X.nt R0 w0 m0 H0 a w s → c.wp X.P (fun e1 a1 w1 => ExR e e1 ∧ Inv X.nt R0 w0 m0 H0 a1 w1 s') a w
/-- a drawn region, in whatever order -/
def AnyOk (X : Cx) (ops : Array Oper) (s s' : St) : Prop :=
  ∀ (R0 : Nat → Prop) (w0 : World) (m0 : Mp) (H0 : Hp), H0.length = X.n0 → Sim R0 w0 m0 H0 → ∀ (a : Act) (w : World), Inv X.nt R0 w0 m0 H0 a w s → wpAny X.P .any ops (fun e1 a1 w1 => ExR .normal e1 ∧ Inv X.nt R0 w0 m0 H0 a1 w1 s') ops.size (Array.replicate ops.size false) a w.drew
/-- drawn regions -/
def DrawSound (X : Cx) : Prop := ∀ (id : Nat) (ops : Array Oper) (b : Bool) (s : St) (K : St → Prop), regionP X id ops b s K → ∃ s', K s' ∧ CodeOk X (.region id ops b) s .normal s'

section
variable {X : Cx}

theorem region_sound (_ : TSound X.P X.T) (hD : DrawSound X) {id : Nat} {ops : Array Oper} {b : Bool} {s : St} {K : St → Prop} (h : regionP X id ops b s K) : ∃ s', K s' ∧ CodeOk X (.region id ops b) s .normal s' := hD id ops b s K h
theorem seq_sound (hT : TSound X.P X.T) {id : Nat} {ops : Array Oper} {s : St} {K : St → Prop} (h : opsP X ops.toList ops.toList s K) : ∃ s', K s' ∧ CodeOk X (.region id ops false) s .normal s' := by
  obtain ⟨s', hk, hs⟩ := opsP_sound (X := X) hT (ops := ops) h
  exact ⟨s', hk, fun R0 w0 m0 H0 _ _ a w hI => wp_region_list (hs R0 w0 m0 H0 a w hI _ fun a' w' hI' => ⟨rfl, hI'⟩)⟩

theorem egets_get (env : Env) : ∀ (l : List Nat) (i : Nat), (egets env l)[i]? = (l[i]?).map fun t => eget t env
  | [], i => by simp [egets]
  | t :: l, 0 => by simp [egets]
  | t :: l, i + 1 => by simpa [egets] using egets_get env l i
theorem zipEnv_get {r : Nat → Option Nat} {env : Env} {t : Nat} : ∀ (live : List Nat), eget t (zipEnv live (renL r (egets env live))) = .undef ∨ eget t (zipEnv live (renL r (egets env live))) = ren r (eget t env)
  | [] => .inl rfl
  | u :: live => by
    simp only [egets, renL, zipEnv, eget]
    cases hu : Nat.beq t u with
    | true => have := Nat.eq_of_beq_eq_true hu; subst this; exact .inr rfl
    | false => exact zipEnv_get live

theorem flatN_len : ∀ (n : Nat) (H : Hp), (flatN n H).length = H.length
  | n, [] => by cases n <;> rfl
  | 0, _ :: r => congrArg (· + 1) (flatN_len 0 r)
  | n + 1, _ :: r => congrArg (· + 1) (flatN_len n r)
theorem flatB_or (b : ABlk) : flatB b = b ∨ ∃ cs, b = .vals cs ∧ closedL cs = true ∧ flatB b = .flat cs := by
  cases b with
  | vals cs =>
    simp only [flatB]
    cases h : closedL cs with
    | true => exact .inr ⟨cs, rfl, h, rfl⟩
    | false => exact .inl rfl
  | _ => exact .inl rfl
theorem flatN_get : ∀ (n : Nat) (H : Hp) (k : Nat), hget k (flatN n H) = hget k H ∨ ∃ cs, hget k H = .vals cs ∧ closedL cs = true ∧ hget k (flatN n H) = .flat cs
  | n, [], k => by cases n <;> exact .inl rfl
  | 0, b :: r, 0 => flatB_or b
  | 0, _ :: r, k + 1 => flatN_get 0 r k
  | n + 1, b :: r, 0 => .inl rfl
  | n + 1, _ :: r, k + 1 => flatN_get n r k
theorem flat_stp {R : Nat → Prop} {w : World} {m : Mp} {H : Hp} (hS : Sim R w m H) (n : Nat) : Stp R w m H w m (flatN n H) := by
  have hll := flatN_len n H
  have live : ∀ j, hget j (flatN n H) ≠ .dead → hget j H ≠ .dead := fun j h => by
    rcases flatN_get n H j with e | ⟨cs, e, _, _⟩
    · rwa [e] at h
    · rw [e]; simp
  have hlen : ∀ j, (hget j (flatN n H)).len = (hget j H).len := fun j => by
    rcases flatN_get n H j with e | ⟨cs, e, _, e2⟩
    · rw [e]
    · rw [e, e2]; rfl
  have hH : ∀ j, j < H.length → hget j (flatN n H) = .dead ∨ (hget j H ≠ .dead ∧ (hget j (flatN n H)).len = (hget j H).len) := fun j _ => by
    by_cases h : hget j (flatN n H) = .dead
    · exact .inl h
    · exact .inr ⟨live j h, hlen j⟩
  refine ⟨⟨hS.rlt, fun j hj => hS.out j (by omega), fun j g' h hg' => ?_, fun j h hn => ?_, fun j j' g' h h' => hS.inj j j' g' (live j h) (live j' h')⟩, rfl, rfl, rfl, Nat.le_refl _,
    fun j _ => rfl, fun j _ hn => rfl, fun _ _ h => h, by omega, hH, fun j g' h hg' => .inr ⟨j, live j h, hg'⟩, fun _ _ => rfl⟩
  · obtain ⟨a1, ys, e', fr', a2, a3, a4, a5⟩ := hS.own j g' (live j h) hg'
    refine ⟨a1, ys, e', fr', a2, a3, a4, ?_⟩
    rcases flatN_get n H j with e | ⟨cs, e, hc, e2⟩
    · rw [e]; exact a5.mono (fun _ h => h) (fun _ _ => rfl) (fun _ _ h => h) (fun _ _ h => h) (by omega) hH
    · rw [e] at a5
      rw [e2]
      obtain ⟨zs, r, rfl, hv⟩ := a5
      exact ⟨zs, r, rfl, hv.closed hc⟩
  · rw [hlen j]; exact hS.ph j (live j h) hn
theorem normK_iff {n0 : Nat} {live : List Nat} {s : St} {k : St → Prop} : normK n0 live s k ↔ k ⟨normEnv (seek s.heap n0 (egets s.env live)) live s, flatC n0 live (subHeap (fun k => idxO k (seek s.heap n0 (egets s.env live))) s.heap (seek s.heap n0 (egets s.env live)))⟩ := by
  unfold normK
  rw [forceL_iff, forceL_iff, forceL_iff]
  unfold flatC
  cases elemN 999999 live with
  | true => simp only [cond_true]; rw [forceL_iff]
  | false => simp only [cond_false]

theorem Inv.norm {nt : Nat} {R0 : Nat → Prop} {w0 : World} {m0 : Mp} {H0 : Hp} {a : Act} {w : World} {s : St} (h : Inv nt R0 w0 m0 H0 a w s) (hS0 : Sim R0 w0 m0 H0) (live : List Nat) :
    Inv nt R0 w0 m0 H0 a w ⟨normEnv (seek s.heap H0.length (egets s.env live)) live s, flatC H0.length live (subHeap (fun k => idxO k (seek s.heap H0.length (egets s.env live))) s.heap (seek s.heap H0.length (egets s.env live)))⟩ := by
  obtain ⟨⟨R, m, hF, hE⟩, hsz, hnd⟩ := h
  obtain ⟨hn, hp⟩ := seek_ok s.heap H0.length (egets s.env live)
  generalize seek s.heap H0.length (egets s.env live) = S at *
  have hF2 := hF.restrict hS0 hn hp
  have hE2 : EnvR R w (subM S m) (subHeap (fun k => idxO k S) s.heap S) (normEnv S live s) a := fun t => by
    show VR R w _ _ (eget t (zipEnv live (renL (fun k => idxO k S) (egets s.env live)))) _
    rcases zipEnv_get (r := fun k => idxO k S) (env := s.env) (t := t) live with h | h
    · rw [h]; exact .undef _
    · rw [h]; exact (hE t).ren (sub_num S m s.heap)
  unfold flatC
  cases elemN 999999 live with
  | false => exact ⟨⟨R, subM S m, hF2, hE2⟩, hsz, hnd⟩
  | true =>
    have hs := (flat_stp hF2.sim H0.length).far
    exact ⟨⟨R, subM S m, hF2.trans hs, hE2.far hs hF2.sim⟩, hsz, hnd⟩

theorem loop_sound {b : Code} (ih : ∀ s K, awp X b s K → ∃ e s', K e s' ∧ CodeOk X b s e s') {live : List Nat} : ∀ (n : Nat) (s : St) (K : Post), loopP (awp X b) X.n0 live n s K → ∃ e s', K e s' ∧
    ∀ (R0 : Nat → Prop) (w0 : World) (m0 : Mp) (H0 : Hp), H0.length = X.n0 → Sim R0 w0 m0 H0 → ∀ (a : Act) (w : World), Inv X.nt R0 w0 m0 H0 a w s → Code.rounds X.P b (fun e1 a1 w1 => ExR e e1 ∧ Inv X.nt R0 w0 m0 H0 a1 w1 s') n a w
  | 0, s, K, h => h.elim
  | n + 1, s, K, h => by
    obtain ⟨e, s1, hk, ok⟩ := ih s _ h
    cases e with
    | normal =>
      rw [show seqK (fun s' => normK X.n0 live s' fun s' => loopP (awp X b) X.n0 live n s' K) K .normal s1 = normK X.n0 live s1 (fun s' => loopP (awp X b) X.n0 live n s' K) from rfl, normK_iff] at hk
      obtain ⟨e2, s2, hk2, ok2⟩ := loop_sound ih n _ K hk
      refine ⟨e2, s2, hk2, fun R0 w0 m0 H0 hl hS0 a w hI => ?_⟩
      rw [rounds_succ]
      refine wp_mono (ok R0 w0 m0 H0 hl hS0 a w hI) fun e1 a1 w1 ⟨he, hI1⟩ => ?_
      cases he
      have h2 := hI1.norm hS0 live
      rw [hl] at h2
      exact ok2 R0 w0 m0 H0 hl hS0 a1 w1 h2
    | exit i =>
      refine ⟨.exit i, s1, hk, fun R0 w0 m0 H0 hl hS0 a w hI => ?_⟩
      rw [rounds_succ]
      refine wp_mono (ok R0 w0 m0 H0 hl hS0 a w hI) fun e1 a1 w1 ⟨he, hI1⟩ => ?_
      cases he
      exact ⟨rfl, hI1⟩
    | ret =>
      refine ⟨.ret, s1, hk, fun R0 w0 m0 H0 hl hS0 a w hI => ?_⟩
      rw [rounds_succ]
      refine wp_mono (ok R0 w0 m0 H0 hl hS0 a w hI) fun e1 a1 w1 ⟨he, hI1⟩ => ?_
      cases he
      exact ⟨rfl, hI1⟩

theorem Inv.evalBool {nt : Nat} {R0 : Nat → Prop} {w0 : World} {m0 : Mp} {H0 : Hp} {a : Act} {w : World} {s : St} {c : Operand} {t : Bool} (h : Inv nt R0 w0 m0 H0 a w s) (hc : oper s.env c = some (.bool t)) :
    a.eval c = .bool t ∧ Inv nt R0 w0 m0 H0 a w (setTmp c t s) := by
  refine ⟨?_, ?_⟩
  · obtain ⟨⟨R, m, hF, hE⟩, hsz, hnd⟩ := h
    have := oper_sound hE hc
    generalize a.eval c = v at this
    cases this; rfl
  · cases c with
    | tmp u => obtain ⟨env, H⟩ := s; exact h.known (by simpa [oper] using hc)
    | const v => exact h
    | func f => exact h
    | global g => exact h

theorem awp_sound (hT : TSound X.P X.T) (hD : DrawSound X) : ∀ (c : Code) (s : St) (K : Post), awp X c s K → ∃ e s', K e s' ∧ CodeOk X c s e s' := by
  intro c
  induction c with
  | skip => exact fun s K h => ⟨.normal, s, h, fun R0 w0 m0 H0 _ _ a w hI => wp_skip ⟨rfl, hI⟩⟩
  | label l => exact fun s K h => ⟨.normal, s, h, fun R0 w0 m0 H0 _ _ a w hI => wp_label ⟨rfl, hI⟩⟩
  | region id ops b =>
    intro s K h
    obtain ⟨s', hk, ok⟩ := region_sound hT hD (show regionP X id ops b s (K .normal) from h)
    exact ⟨.normal, s', hk, ok⟩
  | seq x y ihx ihy =>
    intro s K h
    obtain ⟨e, s1, hk, ok⟩ := ihx s _ h
    cases e with
    | normal =>
      obtain ⟨e2, s2, hk2, ok2⟩ := ihy s1 K hk
      refine ⟨e2, s2, hk2, fun R0 w0 m0 H0 hl hS0 a w hI => wp_seq (wp_mono (ok R0 w0 m0 H0 hl hS0 a w hI) fun e1 a1 w1 ⟨he, hI1⟩ => ?_)⟩
      cases he
      exact ok2 R0 w0 m0 H0 hl hS0 a1 w1 hI1
    | exit i =>
      refine ⟨.exit i, s1, hk, fun R0 w0 m0 H0 hl hS0 a w hI => wp_seq (wp_mono (ok R0 w0 m0 H0 hl hS0 a w hI) fun e1 a1 w1 ⟨he, hI1⟩ => ?_)⟩
      cases he
      exact ⟨rfl, hI1⟩
    | ret =>
      refine ⟨.ret, s1, hk, fun R0 w0 m0 H0 hl hS0 a w hI => wp_seq (wp_mono (ok R0 w0 m0 H0 hl hS0 a w hI) fun e1 a1 w1 ⟨he, hI1⟩ => ?_)⟩
      cases he
      exact ⟨rfl, hI1⟩
  | cond c x y ihx ihy =>
    intro s K h
    simp only [awp] at h
    split at h
    · rename_i t hc
      cases t with
      | true =>
        obtain ⟨e, s', hk, ok⟩ := ihx _ K h
        refine ⟨e, s', hk, fun R0 w0 m0 H0 hl hS0 a w hI => ?_⟩
        obtain ⟨h1, h2⟩ := hI.evalBool hc
        exact wp_cond_true h1 (ok R0 w0 m0 H0 hl hS0 a w h2)
      | false =>
        obtain ⟨e, s', hk, ok⟩ := ihy _ K h
        refine ⟨e, s', hk, fun R0 w0 m0 H0 hl hS0 a w hI => ?_⟩
        obtain ⟨h1, h2⟩ := hI.evalBool hc
        exact wp_cond_false h1 (ok R0 w0 m0 H0 hl hS0 a w h2)
    · exact h.elim
  | block id b ih =>
    intro s K h
    obtain ⟨e, s1, hk, ok⟩ := ih s _ h
    cases e with
    | normal =>
      refine ⟨.normal, s1, hk, fun R0 w0 m0 H0 hl hS0 a w hI => wp_block (wp_mono (ok R0 w0 m0 H0 hl hS0 a w hI) fun e1 a1 w1 ⟨he, hI1⟩ => ?_)⟩
      cases he
      exact ⟨rfl, hI1⟩
    | exit i =>
      simp only [blockK] at hk
      cases hi : Nat.beq i id with
      | true =>
        rw [hi] at hk
        have := Nat.eq_of_beq_eq_true hi
        subst this
        refine ⟨.normal, s1, hk, fun R0 w0 m0 H0 hl hS0 a w hI => wp_block (wp_mono (ok R0 w0 m0 H0 hl hS0 a w hI) fun e1 a1 w1 ⟨he, hI1⟩ => ?_)⟩
        cases he
        simp only [Exit.inBlock, if_true]
        exact ⟨rfl, hI1⟩
      | false =>
        rw [hi] at hk
        have hne : i ≠ id := fun e => by subst e; simp [Nat.beq_refl] at hi
        refine ⟨.exit i, s1, hk, fun R0 w0 m0 H0 hl hS0 a w hI => wp_block (wp_mono (ok R0 w0 m0 H0 hl hS0 a w hI) fun e1 a1 w1 ⟨he, hI1⟩ => ?_)⟩
        cases he
        simp only [Exit.inBlock, if_neg hne]
        exact ⟨rfl, hI1⟩
    | ret =>
      refine ⟨.ret, s1, hk, fun R0 w0 m0 H0 hl hS0 a w hI => wp_block (wp_mono (ok R0 w0 m0 H0 hl hS0 a w hI) fun e1 a1 w1 ⟨he, hI1⟩ => ?_)⟩
      cases he
      exact ⟨rfl, hI1⟩
  | loop b ih =>
    intro s K h
    simp only [awp] at h
    rw [normK_iff] at h
    obtain ⟨n, hn⟩ := fuelP_ex h
    obtain ⟨e, s', hk, ok⟩ := loop_sound ih n _ K hn
    refine ⟨e, s', hk, fun R0 w0 m0 H0 hl hS0 a w hI => ?_⟩
    have h2 := hI.norm hS0 (X.ann (firstReg b)).1
    rw [hl] at h2
    exact wp_loop_rounds n (ok R0 w0 m0 H0 hl hS0 a w h2)
  | scope b ih =>
    intro s K h
    obtain ⟨e, s1, hk, ok⟩ := ih s K h
    refine ⟨e, s1, hk, fun R0 w0 m0 H0 hl hS0 a w hI => wp_scope_straight (wp_mono (ok R0 w0 m0 H0 hl hS0 a w hI) fun e1 a1 w1 ⟨he, hI1⟩ => ?_)⟩
    cases e <;> cases he <;> exact ⟨rfl, hI1⟩
  | exit id => exact fun s K h => ⟨.exit id, s, h, fun R0 w0 m0 H0 _ _ a w hI => wp_exit ⟨rfl, hI⟩⟩
  | ret => exact fun s K h => ⟨.ret, s, h, fun R0 w0 m0 H0 _ _ a w hI => wp_ret ⟨rfl, hI⟩⟩
  | _ => exact fun s K h => h.elim

/-! ### functions -/
theorem andO_iff {p q : Option Prop} : (∀ r, andO p q = some r → r) → (∀ r, p = some r → r) ∧ (∀ r, q = some r → r) := by
  intro h
  cases p with
  | none => exact ⟨fun r e => (by cases e), h⟩
  | some p => cases q with
    | none => exact ⟨h, fun r e => (by cases e)⟩
    | some q => have := h _ rfl; exact ⟨fun r e => (by cases e; exact this.1), fun r e => (by cases e; exact this.2)⟩

def resOp (tmps : Array Value) : ResultVar → Sem Value
  | .tmp t => pure (tmps.getD t undef)
  | .cell a t => do loadVar t (← asAddr (tmps.getD a undef))
theorem resF_sound {P : Program} {R : Nat → Prop} {w : World} {m : Mp} {s : St} {a : Act} (hS : Sim R w m s.heap) (hE : EnvR R w m s.heap s.env a) : ∀ {rs : List ResultVar} {p : Option Prop} {l : List AVal}, resF P s rs = some (p, l) → (∀ q, p = some q → q) →
    ∃ xs : List Value, (rs.mapM (resOp a.tmps)).run P w = .ok xs w ∧ VL R w m s.heap l xs
  | [], p, l, h, _ => by
    simp only [resF, Option.some.injEq, Prod.mk.injEq] at h
    obtain ⟨-, rfl⟩ := h
    exact ⟨[], by simp, VL.nil⟩
  | .tmp t :: r, p, l, h, hp => by
    simp only [resF] at h
    split at h
    · rename_i p' l' hr
      cases h
      obtain ⟨xs, h1, h2⟩ := resF_sound hS hE hr hp
      exact ⟨_ :: xs, by simp only [List.mapM_cons, Sem.run_bind, resOp, Sem.run_pure, Result.andThen_ok, h1], .cons (hE t) h2⟩
    · cases h
  | .cell b t :: r, p, l, h, hp => by
    simp only [resF] at h
    split at h
    · rename_i q v p' l' hq hr
      cases h
      obtain ⟨g1, g2⟩ := andO_iff hp
      obtain ⟨xs, h1, h2⟩ := resF_sound hS hE hr g2
      obtain ⟨ad, x, e1, e2, e3⟩ := loadF_sound hS (hE b) hq g1
      refine ⟨x :: xs, ?_, .cons e3 h2⟩
      simp only [List.mapM_cons, Sem.run_bind, resOp, e1, asAddr, Sem.run_pure, Result.andThen_ok, e2, h1]
    · cases h

theorem retV_sound {R : Nat → Prop} {w : World} {m : Mp} {H : Hp} {l : List AVal} {xs : List Value} (h : VL R w m H l xs) : VR R w m H (retV l) (if h : xs.toArray.size = 1 then xs.toArray[0] else .tuple xs.toArray) := by
  obtain ⟨h1, h2⟩ := h
  match l, xs, h1 with
  | [], [], _ => exact .tup [] [] rfl fun i v x hv _ => by simp at hv
  | [v], [x], _ => exact h2 0 v x rfl rfl
  | v :: u :: l, x :: y :: xs, h1 => exact .tup _ _ h1 h2
theorem results_run {P : Program} {R : Nat → Prop} {w : World} {m : Mp} {s : St} {a : Act} (hS : Sim R w m s.heap) (hE : EnvR R w m s.heap s.env a) {fn : Func} {p : Option Prop} {l : List AVal} (h : resF P s fn.results.toList = some (p, l)) (hp : ∀ q, p = some q → q) :
    ∃ x, (results fn a.tmps).run P w = .ok x w ∧ VR R w m s.heap (retV l) x := by
  obtain ⟨xs, h1, h2⟩ := resF_sound hS hE h hp
  refine ⟨_, ?_, retV_sound h2⟩
  have e : (fn.results.mapM (resOp a.tmps)).run P w = .ok xs.toArray w := by
    rw [Array.mapM_eq_mapM_toList, Sem.run_map, h1]; rfl
  have e2 : (results fn a.tmps).run P w = (do let vs ← fn.results.mapM (resOp a.tmps); pure (if h : vs.size = 1 then vs[0] else .tuple vs) : Sem Value).run P w := by
    unfold results
    congr 2
  rw [e2, Sem.run_bind, e]
  rfl

theorem argEnv_get : ∀ (l : List AVal) (i t : Nat), eget t (argEnv i l) = .undef ∨ (i ≤ t ∧ ∃ v, l[t - i]? = some v ∧ eget t (argEnv i l) = v)
  | [], i, t => .inl rfl
  | v :: l, i, t => by
    simp only [argEnv, eget]
    cases hu : Nat.beq t i with
    | true => have := Nat.eq_of_beq_eq_true hu; subst this; exact .inr ⟨Nat.le_refl _, v, by simp, rfl⟩
    | false =>
      have hne : t ≠ i := fun e => by subst e; simp [Nat.beq_refl] at hu
      rcases argEnv_get l (i + 1) t with h | ⟨h1, v', h2, h3⟩
      · exact .inl h
      · refine .inr ⟨by omega, v', ?_, h3⟩
        rw [show t - i = (t - (i + 1)) + 1 by omega]; simpa using h2

/-- what a function's text says, it does -/
theorem fnP_sound {P : Program} {T : Specs} {ann : Nat → List Nat × Nat × List (List Nat)} {f : Nat} {fn : Func} {args : List AVal} {H : Hp} {K : AVal → Hp → Prop} (hT : TSound P T) (hD : DrawSound ⟨P, T, fn.ntmps, H.length, ann⟩)
    (hf : P.funcs[f]? = some fn) (hname : (fn.name == "runtime.NumGoroutine") = false) (h : fnP P T ann fn args H K) : ∃ v H', K v H' ∧ Gives P f args H v H' := by
  unfold fnP at h
  split at h
  · rename_i c hb
    cases hl : Nat.ble args.length fn.ntmps with
    | false => rw [hl] at h; exact h.elim
    | true =>
      rw [hl] at h
      have hle := Nat.le_of_ble_eq_true hl
      obtain ⟨e, s, hk, ok⟩ := awp_sound (X := ⟨P, T, fn.ntmps, H.length, ann⟩) hT hD c _ _ h
      have fin : endK P H.length fn.results.toList K s → (e = .normal ∨ e = .ret) → ∃ v H', K v H' ∧ Gives P f args H v H' := by
        intro hend hee
        unfold endK at hend
        split at hend
        · rename_i p vs hr
          obtain ⟨hp, hret⟩ := andP_iff hend
          unfold retK at hret
          rw [forceL_iff] at hret
          refine ⟨_, _, hret, ⟨fn, hf, hname, by rw [hb]; rfl⟩, fun R w m xs hS hx => ?_⟩
          refine calls_of_wp hf hb (wp_mono (ok R w m H rfl hS _ w ⟨⟨R, m, .refl hS, fun t => ?_⟩, ?_, rfl⟩) fun e1 a1 w1 ⟨he, hI⟩ => ?_)
          · rcases argEnv_get args 0 t with h | ⟨_, v, h1, h2⟩
            · rw [h]; exact .undef _
            · rw [h2]
              rw [Nat.sub_zero] at h1
              have hlt : t < xs.length := by rw [← hx.1]; exact (List.getElem?_eq_some_iff.1 h1).1
              have hg : (xs.toArray ++ Array.replicate (fn.ntmps - xs.toArray.size) undef).getD t undef = xs[t] := by
                rw [Array.getD_eq_getD_getElem?, Array.getElem?_append_left (by simpa using hlt)]
                simp [hlt]
              show VR R w m H v ((xs.toArray ++ Array.replicate (fn.ntmps - xs.toArray.size) undef).getD t undef)
              rw [hg]
              exact hx.2 t v _ h1 (List.getElem?_eq_getElem hlt)
          · have := hx.1
            show (xs.toArray ++ Array.replicate (fn.ntmps - xs.toArray.size) undef).size = fn.ntmps
            simp; omega
          · obtain ⟨⟨R', m', hF, hE⟩, _, hnd⟩ := hI
            obtain ⟨x, hx1, hx2⟩ := results_run hF.sim hE hr hp
            obtain ⟨hn, hpp⟩ := seek_ok s.heap H.length [retV vs]
            have post : a1.defers = [] ∧ ∃ v, (results fn a1.tmps).run P w1 = .ok v w1 ∧ ∃ R' m' x, Ending.returned v = .returned x ∧ Far R w m H R' w1 m' (subHeap (fun k => idxO k (seek s.heap H.length [retV vs])) s.heap (seek s.heap H.length [retV vs])) ∧ VR R' w1 m' (subHeap (fun k => idxO k (seek s.heap H.length [retV vs])) s.heap (seek s.heap H.length [retV vs])) (ren (fun k => idxO k (seek s.heap H.length [retV vs])) (retV vs)) x :=
              ⟨hnd, x, hx1, R', _, x, rfl, hF.restrict hS hn hpp, hx2.ren (sub_num _ _ _)⟩
            rcases hee with rfl | rfl <;> cases he <;> exact post
        · exact hend.elim
      cases e with
      | normal => exact fin hk (.inl rfl)
      | ret => exact fin hk (.inr rfl)
      | exit i => exact hk.elim
  · exact h.elim

end
end Go.Proofs.Ytnbbaemijogeoaa.Ae

namespace Go.Proofs.Ytnbbaemijogeoaa.Ae
open Go

def mEnv (p : Nat → Bool) (env : Env) : List Done → Env
  | [] => env
  | d :: r => cond (p d.i) (putEnv d.dst d.v (mEnv p env r)) (mEnv p env r)
def mHeap (p : Nat → Bool) (H : Hp) : List Done → Hp
  | [] => H
  | d :: r => mHeap p H r ++ cond (p d.i) d.news (deadL d.news)
theorem maskEnv_eq (ps : List Nat) (env : Env) : ∀ D, maskEnv ps env D = mEnv (fun k => elemN k ps) env D
  | [] => rfl
  | d :: r => by simp only [maskEnv, mEnv, maskEnv_eq ps env r]
theorem maskHeap_eq (ps : List Nat) (H : Hp) : ∀ D, maskHeap ps H D = mHeap (fun k => elemN k ps) H D
  | [] => rfl
  | d :: r => by simp only [maskHeap, mHeap, maskHeap_eq ps H r]
theorem maskEnvK_iff {ps : List Nat} {env : Env} : ∀ {D : List Done} {k : Env → Prop}, maskEnvK ps env D k ↔ k (mEnv (fun k => elemN k ps) env D)
  | [], k => Iff.rfl
  | d :: r, k => by
    simp only [maskEnvK, maskEnvK_iff (D := r), mEnv]
    cases elemN d.i ps with
    | true => exact putK_iff
    | false => exact Iff.rfl
theorem maskHeapK_iff {ps : List Nat} {H : Hp} : ∀ {D : List Done} {k : Hp → Prop}, maskHeapK ps H D k ↔ k (mHeap (fun k => elemN k ps) H D)
  | [], k => Iff.rfl
  | d :: r, k => by
    simp only [maskHeapK, maskHeapK_iff (D := r), mHeap]
    cases hn : d.news with
    | nil => cases elemN d.i ps <;> simp [deadL]
    | cons n ns => exact joinK_iff

theorem deadL_length : ∀ l : List ABlk, (deadL l).length = l.length
  | [] => rfl
  | _ :: r => by simp [deadL, deadL_length r]
theorem deadL_get : ∀ (l : List ABlk) (k : Nat), hget k (deadL l) = .dead
  | [], k => by simp [deadL, hget]
  | _ :: r, 0 => rfl
  | _ :: r, k + 1 => by simpa [deadL, hget] using deadL_get r k
theorem mHeap_length (p q : Nat → Bool) (H : Hp) : ∀ D, (mHeap p H D).length = (mHeap q H D).length
  | [] => rfl
  | d :: r => by
    simp only [mHeap, List.length_append, mHeap_length p q H r]
    cases p d.i <;> cases q d.i <;> simp [deadL_length]
theorem mHeap_len_cons (p : Nat → Bool) (H : Hp) (d : Done) (r : List Done) : (mHeap p H (d :: r)).length = (mHeap p H r).length + d.news.length := by
  simp only [mHeap, List.length_append]
  cases p d.i <;> simp [deadL_length]
theorem mHeap_base_le (p : Nat → Bool) (H : Hp) : ∀ D, H.length ≤ (mHeap p H D).length
  | [] => Nat.le_refl _
  | d :: r => by rw [mHeap_len_cons]; have := mHeap_base_le p H r; omega
theorem mHeap_low (p : Nat → Bool) (H : Hp) {D : List Done} {k : Nat} : ∀ pre : List Done, k < (mHeap p H D).length → hget k (mHeap p H (pre ++ D)) = hget k (mHeap p H D) ∧ (mHeap p H D).length ≤ (mHeap p H (pre ++ D)).length
  | [], _ => ⟨rfl, Nat.le_refl _⟩
  | e :: pre, h => by
    obtain ⟨h1, h2⟩ := mHeap_low p H pre h
    refine ⟨?_, ?_⟩
    · simp only [List.cons_append, mHeap]
      rw [hget_append_lt (by omega)]; exact h1
    · rw [List.cons_append, mHeap_len_cons]; omega
theorem mHeap_len_le (p : Nat → Bool) (H : Hp) {D : List Done} : ∀ pre : List Done, (mHeap p H D).length ≤ (mHeap p H (pre ++ D)).length
  | [] => Nat.le_refl _
  | e :: pre => by rw [List.cons_append, mHeap_len_cons]; have := mHeap_len_le p H (D := D) pre; omega
theorem mHeap_base (p : Nat → Bool) (H : Hp) (D : List Done) {k : Nat} (h : k < H.length) : hget k (mHeap p H D) = hget k H := by
  have := (mHeap_low p H (D := []) D h).1
  simpa [mHeap] using this
theorem mHeap_new (p : Nat → Bool) (H : Hp) (d : Done) (D : List Done) (q : Nat) : hget ((mHeap p H D).length + q) (mHeap p H (d :: D)) = cond (p d.i) (hget q d.news) .dead := by
  simp only [mHeap]
  rw [hget_append_ge]
  cases p d.i
  · exact deadL_get _ _
  · rfl
theorem mHeap_live (p q : Nat → Bool) (H : Hp) : ∀ {D : List Done} {k : Nat}, (∀ d ∈ D, p d.i = true → q d.i = true) → hget k (mHeap p H D) ≠ .dead → hget k (mHeap q H D) = hget k (mHeap p H D)
  | [], k, _, _ => rfl
  | d :: r, k, h, hk => by
    rcases Nat.lt_or_ge k (mHeap p H r).length with hlt | hge
    · simp only [mHeap] at hk ⊢
      rw [hget_append_lt hlt] at hk
      rw [hget_append_lt hlt, hget_append_lt (by rw [mHeap_length q p]; exact hlt)]
      exact mHeap_live p q H (fun d hd => h d (List.mem_cons_of_mem _ hd)) hk
    · have e : k = (mHeap p H r).length + (k - (mHeap p H r).length) := by omega
      rw [e, mHeap_new] at hk ⊢
      rw [mHeap_length p q, mHeap_new]
      cases hp : p d.i with
      | false => rw [hp] at hk; exact absurd rfl hk
      | true => rw [h d (List.mem_cons_self ..) hp]
theorem mHeap_congr (p q : Nat → Bool) (H : Hp) : ∀ {D : List Done}, (∀ d ∈ D, p d.i = q d.i) → mHeap p H D = mHeap q H D
  | [], _ => rfl
  | d :: r, h => by simp only [mHeap]; rw [mHeap_congr p q H (fun d hd => h d (List.mem_cons_of_mem _ hd)), h d (List.mem_cons_self ..)]
theorem mHeap_high (p q : Nat → Bool) (H : Hp) {D : List Done} {k : Nat} (hk : (mHeap p H D).length ≤ k) : ∀ {pre : List Done}, (∀ d ∈ pre, p d.i = q d.i) → hget k (mHeap p H (pre ++ D)) = hget k (mHeap q H (pre ++ D))
  | [], _ => by
    rw [List.nil_append, hget_out hk, hget_out (by rw [mHeap_length q p]; exact hk)]
  | e :: pre, h => by
    have ih := mHeap_high p q H hk (pre := pre) (fun d hd => h d (List.mem_cons_of_mem _ hd))
    rcases Nat.lt_or_ge k (mHeap p H (pre ++ D)).length with hlt | hge
    · simp only [List.cons_append, mHeap]
      rw [hget_append_lt hlt, hget_append_lt (by rw [mHeap_length q p]; exact hlt)]; exact ih
    · have e' : k = (mHeap p H (pre ++ D)).length + (k - (mHeap p H (pre ++ D)).length) := by omega
      rw [List.cons_append, e', mHeap_new, mHeap_length p q, mHeap_new, h e (List.mem_cons_self ..)]

theorem refsIn_get {base : Nat} {G : Hp} : ∀ {l : List Nat}, refsIn base G l = true → ∀ k ∈ l, In base G k
  | [], _, k, h => by simp at h
  | j :: r, h, k, hk => by
    simp only [refsIn, Bool.and_eq_true, Bool.or_eq_true] at h
    rcases List.mem_cons.1 hk with rfl | hk
    · rcases h.1 with h1 | h1
      · exact .inl (Nat.le_of_ble_eq_true h1)
      · exact .inr fun hd => by rw [hd] at h1; cases h1
    · exact refsIn_get h.2 k hk
theorem refsBs_get : ∀ {l : List ABlk} {q : Nat}, ∀ k ∈ refsB (hget q l), k ∈ refsBs l
  | [], q, k, h => by simp [hget, refsB] at h
  | b :: r, 0, k, h => by simp only [hget] at h; simp [refsBs, h]
  | b :: r, q + 1, k, h => by simp only [hget] at h; simp [refsBs, refsBs_get (l := r) k h]
theorem subL_get : ∀ {a b : List Nat}, subL a b = true → ∀ k ∈ a, k ∈ b
  | [], b, _, k, h => by simp at h
  | j :: r, b, h, k, hk => by
    simp only [subL, Bool.and_eq_true] at h
    rcases List.mem_cons.1 hk with rfl | hk
    · exact elemN_iff.1 h.1
    · exact subL_get h.2 k hk

/-! ### what the run in text order says -/
def Want (ps : List Nat) (o : Oper) (D : List Done) (r : Bool) : Prop := match o.guard with
  | none => r = true
  | some (j, want) => j ∈ ps ∧ ((∃ c, doneV j D = .bool c ∧ r = (c == want)) ∨ (doneV j D = .tup [] ∧ r = false))
def Fact (X : Cx) (env0 : Env) (H : Hp) (ps : List Nat) (o : Oper) (d : Done) (D : List Done) : Prop :=
  (Want ps o D true ∧ OpDoes X.P o (mEnv (fun k => elemN k ps) env0 D) (mHeap (fun k => elemN k ps) H D) d.v ⟨[], d.news⟩ ∧
    refsIn H.length (mHeap (fun k => elemN k ps) H D ++ d.news) (refs d.v ++ refsBs d.news) = true) ∨ (Want ps o D false ∧ d.v = .tup [] ∧ d.news = [])
def DOk (X : Cx) (ops : Array Oper) (pss : List (List Nat)) (env0 : Env) (H : Hp) : List Done → Prop
  | [] => True
  | d :: D => DOk X ops pss env0 H D ∧ d.i = D.length ∧ ∃ o, ops[d.i]? = some o ∧ d.dst = o.dst ∧ Fact X env0 H (nthL d.i pss) o d D

theorem doneSet_self {j : Nat} {v : AVal} : ∀ {D : List Done}, doneV j D = v → doneSet j v D = D
  | [], _ => rfl
  | d :: r, h => by
    simp only [doneV] at h
    simp only [doneSet]
    cases hj : Nat.beq j d.i with
    | true => rw [hj] at h; simp only [cond] at h ⊢; rw [← h]
    | false => rw [hj] at h; simp only [cond] at h ⊢; rw [doneSet_self h]

theorem drawOne_sound {X : Cx} (hT : TSound X.P X.T) {env0 : Env} {H : Hp} {o : Oper} {ps : List Nat} {i : Nat} {D : List Done} {K : List Done → Prop} (h : drawOne X env0 H o ps i D K) :
    ∃ v n, K (⟨i, o.dst, v, n⟩ :: D) ∧ OpDoes X.P o (mEnv (fun k => elemN k ps) env0 D) (mHeap (fun k => elemN k ps) H D) v ⟨[], n⟩ ∧ refsIn H.length (mHeap (fun k => elemN k ps) H D ++ n) (refs v ++ refsBs n) = true := by
  unfold drawOne at h
  rw [maskEnvK_iff, maskHeapK_iff] at h
  obtain ⟨v, e, hk, hdo⟩ := opP_sound hT h
  obtain ⟨ss, n⟩ := e
  unfold newsK at hk
  cases ss with
  | cons s ss => exact hk.elim
  | nil =>
    simp only [chkP] at hk
    cases hr : refsIn H.length (mHeap (fun k => elemN k ps) H D ++ n) (refs v ++ refsBs n) with
    | false => rw [hr] at hk; exact hk.elim
    | true => rw [hr] at hk; exact ⟨v, n, hk, hdo, hr⟩

theorem drawP_sound {X : Cx} (hT : TSound X.P X.T) {ops : Array Oper} {pss : List (List Nat)} {env0 : Env} {H : Hp} : ∀ (l : List Oper) (pr : List (List Nat)) (D : List Done) (K : List Done → Prop), DOk X ops pss env0 H D →
    (∀ j o, l[j]? = some o → ops[D.length + j]? = some o) → (∀ j, nthL j pr = nthL (D.length + j) pss) → drawP X env0 H l pr D.length D K → ∃ Df, DOk X ops pss env0 H Df ∧ Df.length = D.length + l.length ∧ K Df
  | [], pr, D, K, hD, _, _, h => ⟨D, hD, rfl, by simpa [drawP] using h⟩
  | o :: r, [], D, K, _, _, _, h => h.elim
  | o :: r, ps :: pr, D, K, hD, hl, hp, h => by
    have ho : ops[D.length]? = some o := hl 0 o rfl
    have hps : ps = nthL D.length pss := hp 0
    have step : ∀ (d : Done), d.i = D.length → d.dst = o.dst → Fact X env0 H ps o d D → drawP X env0 H r pr (D.length + 1) (d :: D) K → ∃ Df, DOk X ops pss env0 H Df ∧ Df.length = D.length + (o :: r).length ∧ K Df := fun d hi hd hF h => by
      obtain ⟨Df, h1, h2, h3⟩ := drawP_sound hT r pr (d :: D) K ⟨hD, hi, o, by rw [hi]; exact ho, hd, by rw [hi, ← hps]; exact hF⟩ (fun j o' hj => by
        have := hl (j + 1) o' (by simpa using hj)
        rw [List.length_cons, show D.length + 1 + j = D.length + (j + 1) by omega]; exact this) (fun j => by
        have := hp (j + 1)
        rw [List.length_cons, show D.length + 1 + j = D.length + (j + 1) by omega]; exact this) h
      exact ⟨Df, h1, by simp at h2 ⊢; omega, h3⟩
    have one : ∀ (hw : Want ps o D true), drawOne X env0 H o ps D.length D (fun D' => drawP X env0 H r pr (D.length + 1) D' K) → ∃ Df, DOk X ops pss env0 H Df ∧ Df.length = D.length + (o :: r).length ∧ K Df := fun hw h => by
      obtain ⟨v, n, hk, hdo, hr⟩ := drawOne_sound hT h
      exact step ⟨D.length, o.dst, v, n⟩ rfl rfl (.inl ⟨hw, hdo, hr⟩) hk
    have off : ∀ (hw : Want ps o D false), drawP X env0 H r pr (D.length + 1) (⟨D.length, o.dst, .tup [], []⟩ :: D) K → ∃ Df, DOk X ops pss env0 H Df ∧ Df.length = D.length + (o :: r).length ∧ K Df := fun hw h =>
      step ⟨D.length, o.dst, .tup [], []⟩ rfl rfl (.inr ⟨hw, rfl, rfl⟩) h
    unfold drawP at h
    split at h
    · rename_i hg
      exact one (by simp [Want, hg]) h
    · rename_i j want hg
      cases hj : elemN j ps with
      | false => rw [hj] at h; exact h.elim
      | true =>
        rw [hj] at h
        simp only [cond_true] at h
        split at h
        · rename_i b hb
          have hw : Want ps o D (b == want) := by simp only [Want, hg]; exact ⟨elemN_iff.1 hj, .inl ⟨b, hb, rfl⟩⟩
          cases b with
          | true =>
            simp only [brP, cond_true] at h
            rw [forceL_iff, doneSet_self hb] at h
            cases want with
            | true => exact one hw h
            | false => exact off hw h
          | false =>
            simp only [brP, cond_false] at h
            rw [forceL_iff, doneSet_self hb] at h
            cases want with
            | true => exact off hw h
            | false => exact one hw h
        · rename_i hb
          exact off (by simp only [Want, hg]; exact ⟨elemN_iff.1 hj, .inr ⟨hb, trivial⟩⟩) h
        · exact h.elim

end Go.Proofs.Ytnbbaemijogeoaa.Ae

namespace Go.Proofs.Ytnbbaemijogeoaa.Ae
open Go
section
variable {X : Cx} {ops : Array Oper} {pss : List (List Nat)} {env0 : Env} {H : Hp}

/-- with one, all that it was run after -/
def Clo (pss : List (List Nat)) (p : Nat → Bool) (n : Nat) : Prop := ∀ i, i < n → p i = true → ∀ j ∈ nthL i pss, p j = true

theorem DOk.tail {d : Done} {D : List Done} (h : DOk X ops pss env0 H (d :: D)) : DOk X ops pss env0 H D := h.1
theorem DOk.suffix : ∀ {pre D : List Done}, DOk X ops pss env0 H (pre ++ D) → DOk X ops pss env0 H D
  | [], _, h => h
  | _ :: pre, _, h => DOk.suffix (pre := pre) h.1
theorem DOk.lt : ∀ {D : List Done}, DOk X ops pss env0 H D → ∀ d ∈ D, d.i < D.length
  | [], _, d, hd => by simp at hd
  | e :: D, h, d, hd => by
    rcases List.mem_cons.1 hd with rfl | hd
    · rw [h.2.1]; simp
    · have := DOk.lt h.1 d hd; simp; omega
theorem DOk.find : ∀ {D : List Done} {i : Nat}, DOk X ops pss env0 H D → i < D.length → ∃ pre d D', D = pre ++ d :: D' ∧ d.i = i ∧ D'.length = i
  | [], i, _, h => by simp at h
  | e :: D, i, h, hi => by
    by_cases hd : e.i = i
    · exact ⟨[], e, D, rfl, hd, by rw [← hd, h.2.1]⟩
    · have h1 := h.2.1
      simp at hi
      obtain ⟨pre, d, D', h2, h3, h4⟩ := DOk.find (i := i) h.1 (by omega)
      exact ⟨e :: pre, d, D', by rw [h2]; rfl, h3, h4⟩
theorem DOk.apart : ∀ {pre D : List Done} {d : Done}, DOk X ops pss env0 H (pre ++ d :: D) → (∀ e ∈ pre, e.i ≠ d.i) ∧ (∀ e ∈ D, e.i ≠ d.i) := by
  intro pre D d h
  have h1 := DOk.suffix h
  refine ⟨?_, fun e he => by have := DOk.lt h1.1 e he; rw [h1.2.1]; omega⟩
  induction pre with
  | nil => intro e he; simp at he
  | cons f pre ih =>
    intro e he
    rcases List.mem_cons.1 he with rfl | he
    · have h2 := h.2.1
      have h3 := DOk.lt h.1 d (by simp)
      omega
    · exact ih h.1 e he

/-- live blocks lead to live ones -/
theorem live_refs (hbase : allLt (refsBs H) H.length = true) {p : Nat → Bool} : ∀ {D : List Done}, DOk X ops pss env0 H D → Clo pss p D.length → ∀ k, hget k (mHeap p H D) ≠ .dead → ∀ j ∈ refsB (hget k (mHeap p H D)), In H.length (mHeap p H D) j
  | [], _, _, k, hk, j, hj => by
    simp only [mHeap] at hj
    exact .inl (allLt_get hbase j (refsBs_get j hj))
  | d :: D, h, hc, k, hk, j, hj => by
    have keep : ∀ j, In H.length (mHeap p H D) j → In H.length (mHeap p H (d :: D)) j := fun j h => by
      rcases h with h | h
      · exact .inl h
      · refine .inr ?_
        simp only [mHeap]; rw [hget_append_lt (hget_lt h)]; exact h
    rcases Nat.lt_or_ge k (mHeap p H D).length with hlt | hge
    · have e : hget k (mHeap p H (d :: D)) = hget k (mHeap p H D) := by simp only [mHeap]; rw [hget_append_lt hlt]
      rw [e] at hk hj
      exact keep j (live_refs hbase h.1 (fun i hi => hc i (by simp; omega)) k hk j hj)
    · have e : k = (mHeap p H D).length + (k - (mHeap p H D).length) := by omega
      rw [e, mHeap_new] at hk hj
      cases hp : p d.i with
      | false => rw [hp] at hk; exact absurd rfl hk
      | true =>
        rw [hp] at hj hk
        simp only [cond_true] at hj hk
        obtain ⟨_, hi, o, _, _, hF⟩ := h
        rcases hF with ⟨_, _, hr⟩ | ⟨_, _, hn⟩
        · rcases refsIn_get hr j (List.mem_append_right _ (refsBs_get j hj)) with h1 | h1
          · exact .inl h1
          · refine .inr ?_
            have hl : (mHeap (fun k => elemN k (nthL d.i pss)) H D).length = (mHeap p H D).length := mHeap_length _ _ _ _
            rcases Nat.lt_or_ge j (mHeap p H D).length with hjl | hjl
            · rw [hget_append_lt (by omega)] at h1
              have h2 := mHeap_live _ p H (fun d' _ hd' => hc d.i (by rw [hi]; simp) hp d'.i (elemN_iff.1 hd')) h1
              simp only [mHeap]; rw [hget_append_lt hjl, h2]; exact h1
            · have e2 : j = (mHeap p H D).length + (j - (mHeap p H D).length) := by omega
              rw [e2, ← hl, hget_append_ge] at h1
              rw [e2, mHeap_new, hp]
              rw [hl] at h1
              exact h1
        · rw [hn] at hk; simp [hget] at hk
/-- and so do values -/
theorem val_refs {p : Nat → Bool} {pre D : List Done} {d : Done} (h : DOk X ops pss env0 H (pre ++ d :: D)) (hc : Clo pss p (pre ++ d :: D).length) (hp : p d.i = true) : ∀ j ∈ refs d.v, In H.length (mHeap p H (pre ++ d :: D)) j := by
  intro j hj
  have hs := DOk.suffix h
  obtain ⟨_, hi, o, _, _, hF⟩ := hs
  rcases hF with ⟨_, _, hr⟩ | ⟨_, hv, _⟩
  · rcases refsIn_get hr j (List.mem_append_left _ hj) with h1 | h1
    · exact .inl h1
    · refine .inr ?_
      have hl : (mHeap (fun k => elemN k (nthL d.i pss)) H D).length = (mHeap p H D).length := mHeap_length _ _ _ _
      have hlt : j < (mHeap p H (d :: D)).length := by
        have := hget_lt h1
        rw [List.length_append] at this
        rw [mHeap_len_cons]; omega
      rw [(mHeap_low p H pre hlt).1]
      rcases Nat.lt_or_ge j (mHeap p H D).length with hjl | hjl
      · rw [hget_append_lt (by omega)] at h1
        have h2 := mHeap_live _ p H (fun d' _ hd' => hc d.i (by rw [hi]; simp; omega) hp d'.i (elemN_iff.1 hd')) h1
        simp only [mHeap]; rw [hget_append_lt hjl, h2]; exact h1
      · have e2 : j = (mHeap p H D).length + (j - (mHeap p H D).length) := by omega
        rw [e2, ← hl, hget_append_ge] at h1
        rw [e2, mHeap_new, hp]
        rw [hl] at h1
        exact h1
  · rw [hv] at hj; simp [refs, refsL] at hj

/-! ### the temporaries -/
def Dist (D : List Done) : Prop := ∀ d ∈ D, ∀ e ∈ D, ∀ t, d.dst = some t → e.dst = some t → d.i = e.i
theorem mEnv_no {p : Nat → Bool} {t : Nat} : ∀ {D : List Done}, (∀ d ∈ D, p d.i = true → d.dst ≠ some t) → eget t (mEnv p env0 D) = eget t env0
  | [], _ => rfl
  | d :: D, h => by
    have ih := mEnv_no (p := p) (t := t) (D := D) (fun e he => h e (List.mem_cons_of_mem _ he))
    simp only [mEnv]
    cases hp : p d.i with
    | false => exact ih
    | true =>
      simp only [cond_true]
      have := h d (List.mem_cons_self ..) hp
      cases hd : d.dst with
      | none => exact ih
      | some u =>
        simp only [putEnv, eget]
        have hne : Nat.beq t u = false := by
          cases hb : Nat.beq t u with
          | false => rfl
          | true => have := Nat.eq_of_beq_eq_true hb; subst this; exact absurd hd (h d (List.mem_cons_self ..) hp)
        rw [hne]; exact ih
theorem mEnv_own {p : Nat → Bool} {t : Nat} {d : Done} : ∀ {pre D : List Done}, (∀ e ∈ pre, e.dst ≠ some t) → p d.i = true → d.dst = some t → eget t (mEnv p env0 (pre ++ d :: D)) = d.v
  | [], D, _, hp, hd => by simp [mEnv, hp, hd, putEnv, eget, Nat.beq_refl]
  | e :: pre, D, h, hp, hd => by
    have ih := mEnv_own (p := p) (t := t) (d := d) (pre := pre) (D := D) (fun f hf => h f (List.mem_cons_of_mem _ hf)) hp hd
    simp only [List.cons_append, mEnv]
    cases hpe : p e.i with
    | false => exact ih
    | true =>
      simp only [cond_true]
      cases hde : e.dst with
      | none => exact ih
      | some u =>
        simp only [putEnv, eget]
        have hne : Nat.beq t u = false := by
          cases hb : Nat.beq t u with
          | false => rfl
          | true => have := Nat.eq_of_beq_eq_true hb; subst this; exact absurd hde (h e (List.mem_cons_self ..))
        rw [hne]; exact ih
theorem Dist.pre {pre D : List Done} {d : Done} {t : Nat} (h : Dist (pre ++ d :: D)) (ha : ∀ e ∈ pre, e.i ≠ d.i) (hd : d.dst = some t) : ∀ e ∈ pre, e.dst ≠ some t := fun e he hed =>
  ha e he (h e (List.mem_append_left _ he) d (List.mem_append_right _ (List.mem_cons_self ..)) t hed hd)
theorem Dist.suf {pre D : List Done} (h : Dist (pre ++ D)) : Dist D := fun d hd e he t => h d (List.mem_append_right _ hd) e (List.mem_append_right _ he) t

end
end Go.Proofs.Ytnbbaemijogeoaa.Ae

namespace Go.Proofs.Ytnbbaemijogeoaa.Ae
open Go
section
variable {X : Cx} {ops : Array Oper} {pss : List (List Nat)} {env0 : Env} {H : Hp}

/-- what holds of the text's run -/
structure Ran (X : Cx) (ops : Array Oper) (pss : List (List Nat)) (env0 : Env) (H : Hp) (Df : List Done) : Prop where
  ok : DOk X ops pss env0 H Df
  dist : Dist Df
  base : allLt (refsBs H) H.length = true
  env : ∀ t, ∀ j ∈ refs (eget t env0), j < H.length
  und : ∀ d ∈ Df, ∀ t, d.dst = some t → eget t env0 = .undef
  tr : ∀ i, i < Df.length → ∀ j ∈ nthL i pss, j < i ∧ ∀ k ∈ nthL j pss, k ∈ nthL i pss
  dst : ∀ d ∈ Df, dstOk X.nt d.dst = true

/-- the state when some have run -/
def At (R1 : Nat → Prop) (w1 : World) (m1 : Mp) (H : Hp) (env0 : Env) (Df : List Done) (p : Nat → Bool) (a : Act) (w : World) : Prop :=
  ∃ R m, Far R1 w1 m1 H R w m (mHeap p H Df) ∧ EnvR R w m (mHeap p H Df) (mEnv p env0 Df) a ∧ ∀ pre d D, Df = pre ++ d :: D → p d.i = false → ∀ q, q < d.news.length → m ((mHeap p H D).length + q) = none

theorem mEnv_congr {p q : Nat → Bool} {t : Nat} : ∀ {D : List Done}, (∀ e ∈ D, e.dst = some t → p e.i = q e.i) → eget t (mEnv p env0 D) = eget t (mEnv q env0 D)
  | [], _ => rfl
  | e :: D, h => by
    have ih := mEnv_congr (p := p) (q := q) (t := t) (D := D) (fun f hf => h f (List.mem_cons_of_mem _ hf))
    have put : ∀ env : Env, e.dst ≠ some t → eget t (putEnv e.dst e.v env) = eget t env := fun env hne => by
      cases hd : e.dst with
      | none => rfl
      | some u =>
        simp only [putEnv, eget]
        cases hb : Nat.beq t u with
        | false => rfl
        | true => have := Nat.eq_of_beq_eq_true hb; subst this; exact absurd hd hne
    simp only [mEnv]
    by_cases hd : e.dst = some t
    · rw [h e (List.mem_cons_self ..) hd]
      cases q e.i with
      | false => exact ih
      | true => simp only [cond_true, hd, putEnv, eget, Nat.beq_refl]
    · cases p e.i <;> cases q e.i <;> simp only [cond_true, cond_false] <;> (try rw [put _ hd]) <;> (try rw [put _ hd]) <;> exact ih

theorem split_mem {e : Done} {D : List Done} (h : e ∈ D) : ∃ pre D', D = pre ++ e :: D' := List.append_of_mem h

theorem Ran.own {Df : List Done} (r : Ran X ops pss env0 H Df) {p : Nat → Bool} {e : Done} {t : Nat} (he : e ∈ Df) (hp : p e.i = true) (hd : e.dst = some t) : eget t (mEnv p env0 Df) = e.v := by
  obtain ⟨pre, D', rfl⟩ := split_mem he
  exact mEnv_own (r.dist.pre (DOk.apart r.ok).1 hd) hp hd
open Classical in
theorem Ran.envRefs {Df : List Done} (r : Ran X ops pss env0 H Df) {p : Nat → Bool} (hc : Clo pss p Df.length) (t : Nat) : ∀ j ∈ refs (eget t (mEnv p env0 Df)), In H.length (mHeap p H Df) j := by
  by_cases h : ∃ e ∈ Df, p e.i = true ∧ e.dst = some t
  · obtain ⟨e, he, hp, hd⟩ := h
    rw [r.own he hp hd]
    obtain ⟨pre, D', rfl⟩ := split_mem he
    exact val_refs r.ok hc hp
  · rw [mEnv_no fun d hd hp hdt => h ⟨d, hd, hp, hdt⟩]
    exact fun j hj => .inl (r.env t j hj)
theorem Ran.suf {pre D : List Done} (r : Ran X ops pss env0 H (pre ++ D)) : Ran X ops pss env0 H D :=
  ⟨DOk.suffix r.ok, r.dist.suf, r.base, r.env, fun d hd => r.und d (List.mem_append_right _ hd), fun i hi => r.tr i (by simp; omega), fun d hd => r.dst d (List.mem_append_right _ hd)⟩

theorem Ran.fit {pre D : List Done} {d : Done} (r : Ran X ops pss env0 H (pre ++ d :: D)) {p p' : Nat → Bool} (hc : Clo pss p (pre ++ d :: D).length) (hno : p d.i = false) (hps : ∀ j ∈ nthL d.i pss, p j = true)
    (h1 : p' d.i = true) (h2 : ∀ k, k ≠ d.i → p' k = p k) (hn : ∀ j ∈ refsBs d.news, In H.length (mHeap (fun k => elemN k (nthL d.i pss)) H D ++ d.news) j) :
    Fit H.length (mHeap (fun k => elemN k (nthL d.i pss)) H D) (mHeap p H (pre ++ d :: D)) (mHeap p' H (pre ++ d :: D)) d.news := by
  have hl : ∀ q : Nat → Bool, (mHeap (fun k => elemN k (nthL d.i pss)) H D).length = (mHeap q H D).length := fun q => mHeap_length _ _ _ _
  have hap := DOk.apart r.ok
  have hdi : d.i = D.length := (DOk.suffix r.ok).2.1
  have hdl : d.i < (pre ++ d :: D).length := by rw [hdi]; simp; omega
  have low : ∀ (q : Nat → Bool) (k : Nat), k < (mHeap q H D).length → hget k (mHeap q H (pre ++ d :: D)) = hget k (mHeap q H D) := fun q k hk => by
    rw [(mHeap_low q H pre (by rw [mHeap_len_cons]; omega)).1]
    simp only [mHeap]; rw [hget_append_lt hk]
  have at' : ∀ (q : Nat → Bool) (j : Nat), j < d.news.length → hget ((mHeap q H D).length + j) (mHeap q H (pre ++ d :: D)) = cond (q d.i) (hget j d.news) .dead := fun q j hj => by
    rw [(mHeap_low q H pre (by rw [mHeap_len_cons]; omega)).1, mHeap_new]
  refine ⟨mHeap_base_le _ _ _, fun k hk => by rw [mHeap_base _ _ _ hk, mHeap_base _ _ _ hk], fun k hk => ?_, fun q hq => ?_, fun q hq => ?_, fun k hk => ?_, mHeap_length _ _ _ _, ?_, ?_, ?_, fun q hq j hj => hn j (refsBs_get j hj)⟩
  · rw [low p k (by rw [← hl p]; exact hget_lt hk)]
    exact mHeap_live _ p H (fun e _ he => hps e.i (elemN_iff.1 he)) hk
  · rw [hl p, at' p q hq, hno]; rfl
  · rw [hl p', at' p' q hq, h1]; rfl
  · rcases hk with hk | hk
    · rw [low p' k (by rw [← hl p']; exact hk), low p k (by rw [← hl p]; exact hk), mHeap_congr p' p H fun e he => h2 e.i (hap.2 e he)]
    · refine mHeap_high p' p H ?_ fun e he => h2 e.i (hap.1 e he)
      rw [mHeap_len_cons, ← hl p']; exact hk
  · have := mHeap_len_le p H (D := d :: D) pre
    rw [mHeap_len_cons, ← hl p] at this; exact this
  · refine live_refs r.base (DOk.suffix r.ok).1 fun i _ hi j hj => ?_
    have hi' := elemN_iff.1 hi
    exact elemN_iff.2 ((r.tr d.i hdl i hi').2 j hj)
  · exact live_refs r.base r.ok hc

theorem At.step {R1 : Nat → Prop} {w1 : World} {m1 : Mp} {pre D : List Done} {d : Done} (r : Ran X ops pss env0 H (pre ++ d :: D)) {p p' : Nat → Bool} (hc : Clo pss p (pre ++ d :: D).length) (hno : p d.i = false) (hps : ∀ j ∈ nthL d.i pss, p j = true)
    (h1 : p' d.i = true) (h2 : ∀ k, k ≠ d.i → p' k = p k) {a : Act} {w : World} (hsz : a.tmps.size = X.nt) (hA : At R1 w1 m1 H env0 (pre ++ d :: D) p a w) {o : Oper} (hF : Fact X env0 H (nthL d.i pss) o d D) :
    (Want (nthL d.i pss) o D true ∧ gives X.P o a w fun x w' => At R1 w1 m1 H env0 (pre ++ d :: D) p' (a.put d.dst x) w') ∨ (Want (nthL d.i pss) o D false ∧ At R1 w1 m1 H env0 (pre ++ d :: D) p' (a.put d.dst undef) w) := by
  obtain ⟨R, m, F0, hE, hgap⟩ := hA
  have hap := DOk.apart r.ok
  have hdm : d ∈ pre ++ d :: D := List.mem_append_right _ (List.mem_cons_self ..)
  have hdi : d.i = D.length := (DOk.suffix r.ok).2.1
  have hdl : d.i < (pre ++ d :: D).length := by rw [hdi]; simp; omega
  have hdst : dstOk a.tmps.size d.dst = true := by rw [hsz]; exact r.dst d hdm
  have uniq : ∀ e ∈ pre ++ d :: D, e.i = d.i → e = d := fun e he hei => by
    rcases List.mem_append.1 he with h | h
    · exact absurd hei (hap.1 e h)
    · rcases List.mem_cons.1 h with h | h
      · exact h
      · exact absurd hei (hap.2 e h)
  have other : ∀ t, d.dst ≠ some t → eget t (mEnv p' env0 (pre ++ d :: D)) = eget t (mEnv p env0 (pre ++ d :: D)) := fun t ht => mEnv_congr fun e he hed => h2 e.i fun hei => ht (by rw [← uniq e he hei]; exact hed)
  -- the rest, when the new state is given
  have gaps : ∀ (m2 : Mp), (∀ k, (k < (mHeap p H D).length ∨ (mHeap p H D).length + d.news.length ≤ k) → m2 k = m k) → ∀ pre2 d2 D2, pre ++ d :: D = pre2 ++ d2 :: D2 → p' d2.i = false → ∀ q, q < d2.news.length → m2 ((mHeap p' H D2).length + q) = none := by
    intro m2 hm2 pre2 d2 D2 he hp2 q hq
    have hne : d2.i ≠ d.i := fun e => by rw [e, h1] at hp2; cases hp2
    have hok2 : DOk X ops pss env0 H (d2 :: D2) := DOk.suffix (pre := pre2) (by rw [← he]; exact r.ok)
    have hd2 : d2.i = D2.length := hok2.2.1
    rw [mHeap_length p' p, hm2]
    · exact hgap pre2 d2 D2 he (by rw [← h2 d2.i hne]; exact hp2) q hq
    · have s1 : (d :: D) <:+ (pre ++ d :: D) := ⟨pre, rfl⟩
      have s2 : (d2 :: D2) <:+ (pre ++ d :: D) := ⟨pre2, he.symm⟩
      rcases Nat.lt_or_gt_of_ne hne with h | h
      · left
        obtain ⟨mid, hmid⟩ := List.suffix_of_suffix_length_le s2 (⟨pre ++ [d], by simp⟩ : D <:+ (pre ++ d :: D)) (by simp; omega)
        have := mHeap_len_le p H (D := d2 :: D2) mid
        rw [hmid, mHeap_len_cons] at this
        omega
      · right
        obtain ⟨mid, hmid⟩ := List.suffix_of_suffix_length_le s1 (⟨pre2 ++ [d2], by simp [he]⟩ : D2 <:+ (pre ++ d :: D)) (by simp; omega)
        have := mHeap_len_le p H (D := d :: D) mid
        rw [hmid, mHeap_len_cons] at this
        omega
  rcases hF with ⟨hw, hdo, hr⟩ | ⟨hw, hv, hn⟩
  · left
    refine ⟨hw, ?_⟩
    have f := r.fit hc hno hps h1 h2 fun j hj => refsIn_get hr j (List.mem_append_right _ hj)
    have hSs := f.simS F0.sim
    have hnum := f.numS m
    have hEs : EnvR R w (cutM m (mHeap (fun k => elemN k (nthL d.i pss)) H D).length) (mHeap (fun k => elemN k (nthL d.i pss)) H D) (mEnv (fun k => elemN k (nthL d.i pss)) env0 D) a := by
      have rD : Ran X ops pss env0 H D := (Ran.suf (pre := [d]) (Ran.suf r))
      intro t
      by_cases h : ∃ e ∈ D, elemN e.i (nthL d.i pss) = true ∧ e.dst = some t
      · obtain ⟨e, he, hpe, hd⟩ := h
        have e1 : eget t (mEnv (fun k => elemN k (nthL d.i pss)) env0 D) = e.v := rD.own (p := fun k => elemN k (nthL d.i pss)) he hpe hd
        have e2 : eget t (mEnv p env0 (pre ++ d :: D)) = e.v := r.own (List.mem_append_right _ (List.mem_cons_of_mem _ he)) (hps _ (elemN_iff.1 hpe)) hd
        have h3 := hE t
        rw [e2] at h3
        have h4 := h3.ren hnum
        rw [e1]
        rwa [ren_id fun j hj => rOn_in ?_] at h4
        obtain ⟨pre', D', hD⟩ := split_mem he
        have := val_refs (p := fun k => elemN k (nthL d.i pss)) (pre := pre') (D := D') (d := e) (by rw [← hD]; exact rD.ok) (fun i _ hi j hj => elemN_iff.2 ((r.tr d.i hdl i (elemN_iff.1 hi)).2 j hj)) hpe j hj
        rw [← hD] at this; exact this
      · rw [mEnv_no fun e he hp hdt => h ⟨e, he, hp, hdt⟩]
        by_cases h' : ∃ e ∈ pre ++ d :: D, e.dst = some t
        · obtain ⟨e, he, hd⟩ := h'
          rw [r.und e he t hd]; exact .undef _
        · have h3 := hE t
          rw [mEnv_no fun e he _ hdt => h' ⟨e, he, hdt⟩] at h3
          have h4 := h3.ren hnum
          rwa [ren_id fun j hj => rOn_in (.inl (r.env t j hj))] at h4
    have hg := hdo R w _ a hSs hEs
    unfold gives at hg ⊢
    have mono : ∀ {S S' : Value → World → Prop} {z : Result Next}, (∀ x w', S x w' → S' x w') → givesUpon X.P S z → givesUpon X.P S' z := fun hss h => by
      rename_i S S' z
      cases z with
      | ok n w' =>
        cases n <;> simp only [givesUpon] at h ⊢
        case value u => exact hss _ _ h
        case skip => exact hss _ _ h
        case enter f args => exact Calls.mono h fun e w'' ⟨v, he, hr⟩ => ⟨v, he, hss _ _ hr⟩
      | halt x w' => simp only [givesUpon] at h
    refine mono (fun x w' ⟨R', m', F, hV⟩ => ?_) hg
    have hap' : (⟨[], d.news⟩ : Eff).app (mHeap (fun k => elemN k (nthL d.i pss)) H D) = mHeap (fun k => elemN k (nthL d.i pss)) H D ++ d.news := rfl
    rw [hap'] at F hV
    obtain ⟨F1, n1, n2, hR, hw', hrow⟩ := f.lift F0 (fun q hq => by
      rw [mHeap_length _ p]; exact hgap pre d D rfl hno q hq) F
    refine ⟨R', _, F1, fun t => ?_, gaps _ fun k hk => ?_⟩
    · by_cases hdt : d.dst = some t
      · rw [r.own hdm h1 hdt, hdt]
        have e : (a.put (some t) x).tmps.getD t undef = x := by
          rw [Array.getD_eq_getD_getElem?, put_get_eq a x t (by rw [hdt] at hdst; exact Nat.le_of_ble_eq_true hdst)]; rfl
        rw [e]
        have h4 := hV.ren n1
        rwa [ren_id fun j hj => rOn_in (refsIn_get hr j (List.mem_append_left _ hj))] at h4
      · rw [other t hdt, getD_eq (put_get_ne a d.dst x t hdt)]
        have h3 : VR R' w' m (mHeap p H (pre ++ d :: D)) (eget t (mEnv p env0 (pre ++ d :: D))) (a.tmps.getD t undef) := (hE t).mono hR hw' hrow (fun _ _ h => h) (Nat.le_refl _) (hext_self _)
        have h4 := h3.ren n2
        rwa [ren_id fun j hj => rOn_in (r.envRefs hc t j hj)] at h4
    · exact if_neg (by rw [mHeap_length _ p]; omega)
  · right
    refine ⟨hw, R, m, ?_, fun t => ?_, gaps m fun _ _ => rfl⟩
    · have e : mHeap p' H (pre ++ d :: D) = mHeap p H (pre ++ d :: D) := by
        have key : ∀ q : List Done, (∀ e ∈ q, p' e.i = p e.i ∨ e.news = []) → mHeap p' H q = mHeap p H q := by
          intro q
          induction q with
          | nil => intro _; rfl
          | cons e q ih =>
            intro hq
            simp only [mHeap]
            rw [ih fun f hf => hq f (List.mem_cons_of_mem _ hf)]
            rcases hq e (List.mem_cons_self ..) with h | h
            · rw [h]
            · rw [h]; cases p' e.i <;> cases p e.i <;> rfl
        refine key _ fun e he => ?_
        by_cases hei : e.i = d.i
        · right; rw [uniq e he hei]; exact hn
        · left; exact h2 _ hei
      rw [e]; exact F0
    · have e : mHeap p' H (pre ++ d :: D) = mHeap p H (pre ++ d :: D) := by
        have key : ∀ q : List Done, (∀ e ∈ q, p' e.i = p e.i ∨ e.news = []) → mHeap p' H q = mHeap p H q := by
          intro q
          induction q with
          | nil => intro _; rfl
          | cons e q ih =>
            intro hq
            simp only [mHeap]
            rw [ih fun f hf => hq f (List.mem_cons_of_mem _ hf)]
            rcases hq e (List.mem_cons_self ..) with h | h
            · rw [h]
            · rw [h]; cases p' e.i <;> cases p e.i <;> rfl
        refine key _ fun e he => ?_
        by_cases hei : e.i = d.i
        · right; rw [uniq e he hei]; exact hn
        · left; exact h2 _ hei
      rw [e]
      by_cases hdt : d.dst = some t
      · rw [r.own hdm h1 hdt, hv, hdt]
        have e : (a.put (some t) undef).tmps.getD t undef = undef := by
          rw [Array.getD_eq_getD_getElem?, put_get_eq a undef t (by rw [hdt] at hdst; exact Nat.le_of_ble_eq_true hdst)]; rfl
        rw [e]; exact VR.skip
      · rw [other t hdt, getD_eq (put_get_ne a d.dst undef t hdt)]; exact hE t

end
end Go.Proofs.Ytnbbaemijogeoaa.Ae
