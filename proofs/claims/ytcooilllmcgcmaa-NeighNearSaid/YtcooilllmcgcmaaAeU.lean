/- An operation of a drawn region: it sees a part of the heap, and adds blocks of its own. No program in sight. -/
import Derived.Test.YtcooilllmcgcmaaAeT
namespace Go.Proofs.Ytcooilllmcgcmaa.Ae
open Go
section
variable {P : Program} {R R' : Nat → Prop} {w w' : World} {m m' : Mp} {H H' : Hp}

theorem ren_id {r : Nat → Option Nat} : ∀ {v : AVal}, (∀ k ∈ refs v, r k = some k) → ren r v = v := by
  intro v
  refine AVal.rec (motive_1 := fun v => (∀ k ∈ refs v, r k = some k) → ren r v = v) (motive_2 := fun vs => (∀ k ∈ refsL vs, r k = some k) → renL r vs = vs) ?_ ?_ ?_ ?_ ?_ ?_ ?_ ?_ ?_ ?_ ?_ ?_ ?_ ?_ ?_ ?_ ?_ ?_ v
  all_goals try (intros; rfl)
  · intro b off len sz h; simp only [ren, h b (by simp [refs])]
  · intro b off h; simp only [ren, h b (by simp [refs])]
  · intro cs ih h; simp only [ren]; rw [ih (by simpa [refs] using h)]
  · intro cs ih h; simp only [ren]; rw [ih (by simpa [refs] using h)]
  · intro f a b iha ihb h
    simp only [refs, List.mem_append] at h
    simp only [ren]
    rw [iha fun k hk => h k (.inl hk), ihb fun k hk => h k (.inr hk)]
  · intro v vs ih1 ih2 h
    simp only [refsL, List.mem_append] at h
    simp only [renL]
    rw [ih1 fun k hk => h k (.inl hk), ih2 fun k hk => h k (.inr hk)]
theorem renL_id {r : Nat → Option Nat} : ∀ {vs : List AVal}, (∀ k ∈ refsL vs, r k = some k) → renL r vs = vs
  | [], _ => rfl
  | v :: vs, h => by
    simp only [refsL, List.mem_append] at h
    simp only [renL]
    rw [ren_id fun k hk => h k (.inl hk), renL_id fun k hk => h k (.inr hk)]
theorem renB_id {r : Nat → Option Nat} {B : ABlk} (h : ∀ k ∈ refsB B, r k = some k) : renB r B = B := by
  cases B with
  | vals cs => simp only [renB]; rw [renL_id (by simpa [refsB] using h)]
  | _ => rfl

/-- the first blocks, and live ones -/
def In (base : Nat) (G : Hp) (k : Nat) : Prop := k < base ∨ hget k G ≠ .dead
open Classical in
noncomputable def rOn (base : Nat) (G : Hp) (k : Nat) : Option Nat := if In base G k then some k else none
theorem rOn_in {base : Nat} {G : Hp} {k : Nat} (h : In base G k) : rOn base G k = some k := if_pos h
theorem rOn_some {base : Nat} {G : Hp} {k k' : Nat} (h : rOn base G k = some k') : k' = k ∧ In base G k := by
  unfold rOn at h
  split at h
  · rename_i hi; exact ⟨(Option.some.inj h).symm, hi⟩
  · cases h
/-- the numbers of a part -/
def cutM (m : Mp) (n : Nat) : Mp := fun k => if k < n then m k else none

/-- a part of a heap, and the heap with new blocks -/
structure Fit (base : Nat) (Hs Hb Hb' : Hp) (news : List ABlk) : Prop where
  le : base ≤ Hs.length
  low : ∀ k, k < base → hget k Hb = hget k Hs
  live : ∀ k, hget k Hs ≠ .dead → hget k Hb = hget k Hs
  gap : ∀ q, q < news.length → hget (Hs.length + q) Hb = .dead
  fill : ∀ q, q < news.length → hget (Hs.length + q) Hb' = hget q news
  rest : ∀ k, (k < Hs.length ∨ Hs.length + news.length ≤ k) → hget k Hb' = hget k Hb
  len : Hb'.length = Hb.length
  room : Hs.length + news.length ≤ Hb.length
  refS : ∀ k, hget k Hs ≠ .dead → ∀ j ∈ refsB (hget k Hs), In base Hs j
  refB : ∀ k, hget k Hb ≠ .dead → ∀ j ∈ refsB (hget k Hb), In base Hb j
  refN : ∀ q, q < news.length → ∀ j ∈ refsB (hget q news), In base (Hs ++ news) j

theorem Fit.numS {base : Nat} {Hs Hb Hb' : Hp} {news : List ABlk} (f : Fit base Hs Hb Hb' news) (m : Mp) : Num (rOn base Hs) m Hb (cutM m Hs.length) Hs := by
  have lt : ∀ k, In base Hs k → k < Hs.length := fun k h => by
    rcases h with h | h
    · have := f.le; omega
    · exact hget_lt h
  refine ⟨fun k k' g h hm => ?_, fun k k' h _ => ?_, fun k k' h _ => ?_⟩
  · obtain ⟨rfl, hi⟩ := rOn_some h
    simp [cutM, lt _ hi, hm]
  · obtain ⟨rfl, hi⟩ := rOn_some h
    exact lt _ hi
  · obtain ⟨rfl, hi⟩ := rOn_some h
    have e : hget k' Hb = hget k' Hs := by
      rcases hi with hi | hi
      · exact f.low _ hi
      · exact f.live _ hi
    rw [e]
    by_cases hd : hget k' Hs = .dead
    · exact .inl hd
    · exact .inr ⟨hd, rfl⟩
theorem Fit.simS {base : Nat} {Hs Hb Hb' : Hp} {news : List ABlk} (f : Fit base Hs Hb Hb' news) (hS : Sim R w m Hb) : Sim R w (cutM m Hs.length) Hs := by
  have hm : ∀ k, hget k Hs ≠ .dead → cutM m Hs.length k = m k := fun k h => by simp [cutM, hget_lt h]
  have hb : ∀ k, hget k Hs ≠ .dead → hget k Hb ≠ .dead := fun k h => by rw [f.live k h]; exact h
  refine ⟨hS.rlt, fun k hk => by simp [cutM, Nat.not_lt.2 hk], fun k g hk hg => ?_, fun k hk hg => ?_, fun k k' g hk hk' hg hg' => ?_⟩
  · rw [hm k hk] at hg
    obtain ⟨a1, xs, e, fr, a2, a3, a4, a5⟩ := hS.own k g (hb k hk) hg
    refine ⟨a1, xs, e, fr, a2, a3, a4, ?_⟩
    rw [f.live k hk] at a5
    have := a5.ren (f.numS m)
    rwa [renB_id fun j hj => rOn_in (f.refS k hk j hj)] at this
  · rw [hm k hk] at hg
    rw [← f.live k hk]; exact hS.ph k (hb k hk) hg
  · rw [hm k hk] at hg; rw [hm k' hk'] at hg'
    exact hS.inj k k' g (hb k hk) (hb k' hk') hg hg'

/-- the numbers afterwards -/
def newM (m m' : Mp) (n l : Nat) : Mp := fun k => if n ≤ k ∧ k < n + l then m' k else m k

theorem Fit.lift {R1 : Nat → Prop} {w1 : World} {m1 : Mp} {H1 : Hp} {Hs Hb Hb' : Hp} {news : List ABlk} (f : Fit H1.length Hs Hb Hb' news) (F0 : Far R1 w1 m1 H1 R w m Hb) (hgap : ∀ q, q < news.length → m (Hs.length + q) = none)
    (F : Far R w (cutM m Hs.length) Hs R' w' m' (Hs ++ news)) :
    Far R1 w1 m1 H1 R' w' (newM m m' Hs.length news.length) Hb' ∧ Num (rOn H1.length (Hs ++ news)) m' (Hs ++ news) (newM m m' Hs.length news.length) Hb' ∧ Num (rOn H1.length Hb) m Hb (newM m m' Hs.length news.length) Hb' ∧
      (∀ g, R g → R' g) ∧ (∀ g, R g → w'.heap[g]? = w.heap[g]?) ∧ (∀ g n, rowSize w g = some n → rowSize w' g = some n) := by
  have hS := F0.sim
  generalize hbase : H1.length = base at *
  generalize hm2 : newM m m' Hs.length news.length = m2
  have m2in : ∀ k, Hs.length ≤ k → k < Hs.length + news.length → m2 k = m' k := fun k h1 h2 => by rw [← hm2]; exact if_pos ⟨h1, h2⟩
  have m2out : ∀ k, (k < Hs.length ∨ Hs.length + news.length ≤ k) → m2 k = m k := fun k h => by rw [← hm2]; exact if_neg (by omega)
  have msame : ∀ k, k < Hs.length → m' k = m k := fun k hk => by rw [F.same k hk]; simp [cutM, hk]
  have low1 : ∀ k, k < Hs.length → hget k (Hs ++ news) = hget k Hs := fun k hk => hget_append_lt hk
  have hi1 : ∀ q, hget (Hs.length + q) (Hs ++ news) = hget q news := fun q => hget_append_ge
  -- what the callee's part says of the whole
  have sub : ∀ k, hget k (Hs ++ news) ≠ .dead → hget k Hb' = hget k (Hs ++ news) ∧ m2 k = m' k := fun k hk => by
    have hlt := hget_lt hk
    simp only [List.length_append] at hlt
    by_cases h : k < Hs.length
    · rw [low1 k h] at hk ⊢
      exact ⟨by rw [f.rest k (.inl h), f.live k hk], by rw [m2out k (.inl h), msame k h]⟩
    · have e : k = Hs.length + (k - Hs.length) := by omega
      refine ⟨?_, m2in k (by omega) (by omega)⟩
      rw [e, f.fill _ (by omega), hi1]
  have cls : ∀ k, hget k Hb' ≠ .dead → (hget k (Hs ++ news) ≠ .dead ∧ hget k Hb' = hget k (Hs ++ news) ∧ m2 k = m' k) ∨ (hget k Hs = .dead ∧ hget k Hb ≠ .dead ∧ hget k Hb' = hget k Hb ∧ m2 k = m k) := fun k hk => by
    by_cases h : hget k (Hs ++ news) = .dead
    · right
      have hr : k < Hs.length ∨ Hs.length + news.length ≤ k := by
        rcases Nat.lt_or_ge k Hs.length with h1 | h1
        · exact .inl h1
        · rcases Nat.lt_or_ge k (Hs.length + news.length) with h2 | h2
          · have e : k = Hs.length + (k - Hs.length) := by omega
            rw [e, f.fill _ (by omega), ← hi1, ← e] at hk
            exact absurd h hk
          · exact .inr h2
      refine ⟨?_, by rw [← f.rest k hr]; exact hk, f.rest k hr, m2out k hr⟩
      rcases Nat.lt_or_ge k Hs.length with h1 | h1
      · rw [← low1 k h1]; exact h
      · exact hget_out h1
    · exact .inl ⟨h, sub k h⟩
  have num1 : Num (rOn base (Hs ++ news)) m' (Hs ++ news) m2 Hb' := by
    refine ⟨fun k k' g h hm => ?_, fun k k' h hk => ?_, fun k k' h hk => ?_⟩
    · obtain ⟨rfl, hi⟩ := rOn_some h
      rcases hi with hi | hi
      · have hlt := Nat.lt_of_lt_of_le hi f.le
        rw [m2out _ (.inl hlt), ← msame _ hlt]; exact hm
      · rw [(sub _ hi).2]; exact hm
    · obtain ⟨rfl, hi⟩ := rOn_some h
      simp only [List.length_append] at hk
      have := f.room; have := f.len; omega
    · obtain ⟨rfl, hi⟩ := rOn_some h
      have e : hget k' Hb' = hget k' (Hs ++ news) := by
        rcases hi with hi | hi
        · have hlt := Nat.lt_of_lt_of_le hi f.le
          rw [low1 _ hlt, f.rest _ (.inl hlt), f.low _ hi]
        · exact (sub _ hi).1
      rw [e]
      by_cases hd : hget k' (Hs ++ news) = .dead
      · exact .inl hd
      · exact .inr ⟨hd, rfl⟩
  have gapB : ∀ k, hget k Hb ≠ .dead → k < Hs.length ∨ Hs.length + news.length ≤ k := fun k hk => by
    rcases Nat.lt_or_ge k Hs.length with h1 | h1
    · exact .inl h1
    · rcases Nat.lt_or_ge k (Hs.length + news.length) with h2 | h2
      · have e : k = Hs.length + (k - Hs.length) := by omega
        rw [e] at hk
        exact absurd (f.gap _ (by omega)) hk
      · exact .inr h2
  have hagree : ∀ k g, m k = some g → m2 k = some g := fun k g hm => by
    by_cases h : Hs.length ≤ k ∧ k < Hs.length + news.length
    · have e : k = Hs.length + (k - Hs.length) := by omega
      rw [e, hgap _ (by omega)] at hm; cases hm
    · rw [m2out k (by omega)]; exact hm
  have num2 : Num (rOn base Hb) m Hb m2 Hb' := by
    refine ⟨fun k k' g h hm => ?_, fun k k' h hk => ?_, fun k k' h hk => ?_⟩
    · obtain ⟨rfl, hi⟩ := rOn_some h
      exact hagree _ _ hm
    · obtain ⟨rfl, hi⟩ := rOn_some h
      rw [f.len]; exact hk
    · obtain ⟨rfl, hi⟩ := rOn_some h
      have e : hget k' Hb' = hget k' Hb := by
        rcases hi with hi | hi
        · exact f.rest _ (.inl (Nat.lt_of_lt_of_le hi f.le))
        · exact f.rest _ (gapB _ hi)
      rw [e]
      by_cases hd : hget k' Hb = .dead
      · exact .inl hd
      · exact .inr ⟨hd, rfl⟩
  have hS1 := f.simS hS
  have gone : ∀ k g, hget k Hs = .dead → hget k Hb ≠ .dead → m k = some g → g < w.heap.size ∧ ∀ j, hget j Hs ≠ .dead → cutM m Hs.length j ≠ some g := fun k g h1 h2 h3 => by
    obtain ⟨_, ys, e, fr, h4, _⟩ := hS.own k g h2 h3
    refine ⟨(Array.getElem?_eq_some_iff.1 h4).1, fun j hj hm => ?_⟩
    simp only [cutM, hget_lt hj, if_true] at hm
    have := hS.inj j k g (by rw [f.live j hj]; exact hj) h2 hm h3
    subst this
    exact hj h1
  have hsim : Sim R' w' m2 Hb' := by
    refine ⟨F.sim.rlt, fun k hk => ?_, fun k g hk hg => ?_, fun k hk hg => ?_, fun k k' g hk hk' hg hg' => ?_⟩
    · rw [f.len] at hk
      have := f.room
      rw [m2out k (.inr (by omega))]; exact hS.out k hk
    · rcases cls k hk with ⟨b1, b2, b3⟩ | ⟨b1, b2, b3, b4⟩
      · rw [b3] at hg
        obtain ⟨a1, xs, e, fr, a2, a3, a4, a5⟩ := F.sim.own k g b1 hg
        refine ⟨a1, xs, e, fr, a2, a3, a4, ?_⟩
        have h6 := a5.ren num1
        rw [b2]
        rwa [renB_id fun j hj => rOn_in ?_] at h6
        have hlt := hget_lt b1
        simp only [List.length_append] at hlt
        by_cases h : k < Hs.length
        · rw [low1 k h] at hj b1
          rcases f.refS k b1 j hj with h7 | h7
          · exact .inl h7
          · exact .inr (by rw [low1 j (hget_lt h7)]; exact h7)
        · have e : k = Hs.length + (k - Hs.length) := by omega
          rw [e, hi1] at hj
          exact f.refN _ (by omega) j hj
      · rw [b4] at hg
        obtain ⟨a1, xs, e, fr, a2, a3, a4, a5⟩ := hS.own k g b2 hg
        obtain ⟨c1, c2⟩ := gone k g b1 b2 hg
        refine ⟨fun h => ?_, xs, e, fr, by rw [F.frame g c1 c2]; exact a2, a3, a4, ?_⟩
        · rcases F.newR g h with h | h | ⟨j, d1, d2⟩
          · exact a1 h
          · omega
          · exact c2 j d1 d2
        · have h6 : BR R' w' m Hb (hget k Hb) xs := a5.mono F.sub (F.rsame hS1) F.rows (fun _ _ h => h) (Nat.le_refl _) (hext_self _)
          have h7 := h6.ren num2
          rw [b3]
          rwa [renB_id fun j hj => rOn_in (f.refB k b2 j hj)] at h7
    · rcases cls k hk with ⟨b1, b2, b3⟩ | ⟨b1, b2, b3, b4⟩
      · rw [b3] at hg; rw [b2]; exact F.sim.ph k b1 hg
      · rw [b4] at hg; rw [b3]; exact hS.ph k b2 hg
    · have mix : ∀ k k', (hget k (Hs ++ news) ≠ .dead ∧ hget k Hb' = hget k (Hs ++ news) ∧ m2 k = m' k) → (hget k' Hs = .dead ∧ hget k' Hb ≠ .dead ∧ hget k' Hb' = hget k' Hb ∧ m2 k' = m k') → m2 k = some g → m2 k' = some g → False := by
        rintro k k' ⟨b1, b2, b3⟩ ⟨c1, c2, c3, c4⟩ hg hg'
        rw [b3] at hg; rw [c4] at hg'
        obtain ⟨d1, d2⟩ := gone k' g c1 c2 hg'
        rcases F.news k g b1 hg with h | ⟨j, h1, h2⟩
        · omega
        · exact d2 j h1 h2
      have ck := cls k hk
      have ck' := cls k' hk'
      rcases ck with b | b <;> rcases ck' with c | c
      · rw [b.2.2] at hg; rw [c.2.2] at hg'
        exact F.sim.inj k k' g b.1 c.1 hg hg'
      · exact (mix k k' b c hg hg').elim
      · exact (mix k' k c b hg' hg).elim
      · rw [b.2.2.2] at hg; rw [c.2.2.2] at hg'
        exact hS.inj k k' g b.2.1 c.2.1 hg hg'
  have back : ∀ j g, hget j Hs ≠ .dead → cutM m Hs.length j = some g → w1.heap.size ≤ g ∨ ∃ k0, hget k0 H1 ≠ .dead ∧ m1 k0 = some g := fun j g h1 h2 => by
    simp only [cutM, hget_lt h1, if_true] at h2
    exact F0.news j g (by rw [f.live j h1]; exact h1) h2
  refine ⟨⟨fun g h => F.sub g (F0.sub g h), fun g hg => ?_, hsim, F.os.trans F0.os, F.tape.trans F0.tape, F.output.trans F0.output, Nat.le_trans F0.size F.size, fun g hg => ?_, fun g hg hno => ?_, fun k g h => hagree k g (F0.agree k g h), ?_, fun k hk => ?_, fun k g hk hg => ?_, fun k hk => ?_⟩, num1, num2, F.sub, F.rsame hS1, F.rows⟩
  · rcases F.newR g hg with h | h | ⟨j, h1, h2⟩
    · exact F0.newR g h
    · exact .inr (.inl (Nat.le_trans F0.size h))
    · exact .inr (back j g h1 h2)
  · rw [F.shape g (Nat.lt_of_lt_of_le hg F0.size), F0.shape g hg]
  · rw [F.frame g (Nat.lt_of_lt_of_le hg F0.size) fun j hj hm => ?_, F0.frame g hg hno]
    rcases back j g hj hm with h | ⟨k0, h1, h2⟩
    · omega
    · exact hno k0 h1 h2
  · rw [f.len]; exact F0.hlen
  · have := f.le
    rw [f.rest k (.inl (by omega))]; exact F0.hext k hk
  · rcases cls k hk with ⟨b1, b2, b3⟩ | ⟨b1, b2, b3, b4⟩
    · rw [b3] at hg
      rcases F.news k g b1 hg with h | ⟨j, h1, h2⟩
      · exact .inl (Nat.le_trans F0.size h)
      · exact back j g h1 h2
    · rw [b4] at hg
      exact F0.news k g b2 hg
  · have := f.le
    rw [m2out k (.inl (by omega))]; exact F0.same k hk

end
end Go.Proofs.Ytcooilllmcgcmaa.Ae
