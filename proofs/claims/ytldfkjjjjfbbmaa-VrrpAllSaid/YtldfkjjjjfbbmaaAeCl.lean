/- slices.Clone at addresses: what is only read comes back. -/
import Derived.Test.YtldfkjjjjfbbmaaAeWk
import Derived.Lib.SliceRun
import Derived.Lib.Walk
set_option linter.unusedSimpArgs false
set_option linter.unusedVariables false
namespace Go.Proofs.Ytldfkjjjjfbbmaa.Ae
open Go Go.RowKit Go.Lib
theorem info_addr : (Try.prog.info? 25).map (fun i => (i.zero, i.size, i.bytes)) = some (some (.string .empty), 1, 16) := by kernel_rfl
set_option maxHeartbeats 2000000 in
theorem cloneA_c (ad : Addr) (n c : Nat) (news : List Value) (w : World) (hl : news.length = n * 1) (hn : n ≤ 8796093022000) (hc : ∀ j u, news[j]? = some u → w.cell? (ad.add j) = some u) (h1 : ∀ u ∈ news, u.oneCell' = true) :
    Calls Try.prog 30 #[.slice (some ad) n c] w fun e w' => ∃ v', e = .returned v' ∧ w'.ownsRow w.heap.size 25 1 v' n news ∧ v' ≠ .slice none 0 0 ∧ Below w.heap.size w w' := by
  have qT : ∀ (w : World) (a : Option Addr) (n c n' c' : Nat), (binOp .eql 26 (.slice a n c) (.slice none n' c')).run Try.prog w = .ok (.bool a.isNone) w := fun w a n c n' c' => Lib.run_eql_slice_nil w _ _ a n c n' c' Try.underlying26
  have A := hid hc
  clear hc
  obtain ⟨i0, hi, hz⟩ := Option.map_eq_some_iff.1 info_addr
  simp only [Prod.mk.injEq] at hz
  obtain ⟨hz0, hz1, hz2⟩ := hz
  go_enter Try.func30, Try.ntmps30
  go_wp2_with (at_builtin; refine wpList_append_own _ rfl _ _ 26 rfl w.heap.size 25 i0 _ 1 16 Try.underlying26 hi hz0 hz1 hz2 rfl (by omega) _ _ _ rfl (World.ownsRow_made w #[] 0 (Nat.le_refl _) (Nat.zero_le _) (by simp)) ad n c news rfl ?qc1 ?qc2 ?qc3 ?qc4 ?qc5 ?qc6 ?_)
  case qc1 => exact hl
  case qc2 => intro j u hj; exact Lib.cell?_alloc_some _ (A.out j u hj)
  case qc3 => exact h1
  case qc4 => rw [Nat.zero_add]; unfold maxLen; omega
  case qc5 => rw [Nat.zero_add]; omega
  case qc6 => simp
  intro v' w1 hown hgrow hnil
  go_wp2
  go_ret
  refine ⟨v', rfl, by simpa using hown, ?_, ?_⟩
  · exact hnil
  · exact ((Below.refl _ w).alloc (Nat.le_refl _) _).grown hgrow (by simp) (by intro k hk; simp [Value.ownBlock] at hk; omega)
theorem cloneA_nil (n c : Nat) (w : World) : Calls Try.prog 30 #[.slice none n c] w fun e w' => e = .returned (.slice none 0 0) ∧ w' = w := by
  have qT : ∀ (w : World) (a : Option Addr) (n c n' c' : Nat), (binOp .eql 26 (.slice a n c) (.slice none n' c')).run Try.prog w = .ok (.bool a.isNone) w := fun w a n c n' c' => Lib.run_eql_slice_nil w _ _ a n c n' c' Try.underlying26
  go_enter Try.func30, Try.ntmps30
  go_wp2
  go_ret
  exact ⟨rfl, rfl⟩
/-- addresses that are only read: as they are -/
def cloneRow : Srow := fun args H K => match args, H with
  | [.ro n 1 f], [] => n ≤ 8796093022000 ∧ K (.ro n 1 f) []
  | _, _ => False
theorem sim_nil {R : Nat → Prop} {w : World} {m : Mp} (hS : Sim R w m []) : Sim R w Mp.nil [] :=
  ⟨hS.rlt, fun _ _ => rfl, fun k _ h _ => absurd (hget_out (Nat.zero_le k)) h, fun k h _ => absurd (hget_out (Nat.zero_le k)) h, fun k _ _ h _ _ _ => absurd (hget_out (Nat.zero_le k)) h⟩
theorem far_one {R : Nat → Prop} {w w' : World} {m : Mp} {g : Nat} (hS : Sim R w m []) (hb : Below w.heap.size w w') (hg : w.heap.size ≤ g) (hg' : g < w'.heap.size) : Far R w m [] (fun k => R k ∨ k = g) w' m [] := by
  refine ⟨fun k h => .inl h, fun k h => ?_, ⟨fun k h => ?_, hS.out, fun k _ h _ => absurd (hget_out (Nat.zero_le k)) h, fun k h _ => absurd (hget_out (Nat.zero_le k)) h, fun k _ _ h _ _ _ => absurd (hget_out (Nat.zero_le k)) h⟩, hb.os, hb.tape, hb.output, hb.size, fun k hk => ?_, fun k hk _ => hb.block k hk, fun _ _ h => h, Nat.le_refl _, fun k hk => by simp at hk, fun k _ h => absurd (hget_out (Nat.zero_le k)) h, fun k hk => by simp at hk⟩
  · rcases h with h | rfl
    · exact .inl h
    · exact .inr (.inl hg)
  · rcases h with h | rfl
    · exact Nat.lt_of_lt_of_le (hS.rlt _ h) hb.size
    · exact hg'
  · unfold rowSize World.shape?; rw [hb.block k hk]
theorem clone_gives {n : Nat} {f : Nat → List AVal} (hn : n ≤ 8796093022000) {R : Nat → Prop} {w : World} {m : Mp} (hS : Sim R w m []) {u : Value} (hu : VR R w m [] (.ro n 1 f) u) :
    Calls Try.prog 30 [u].toArray w fun e w' => ∃ R' m' x, e = .returned x ∧ Far R w m [] R' w' m' [] ∧ VR R' w' m' [] (.ro n 1 f) x := by
  have hu' := hu
  cases hu with
  | ro _ _ _ a c g off X h1 h2 h3 h4 h5 h6 h7 =>
    cases a with
    | none =>
      have h0 : n = 0 := by
        rcases Nat.eq_zero_or_pos n with h | h
        · exact h
        · exact absurd (h4 h).1 (by simp)
      subst h0
      refine (cloneA_nil 0 c w).mono ?_
      rintro e w' ⟨rfl, rfl⟩
      exact ⟨R, m, _, rfl, .refl hS, .ro 0 1 f none 0 0 0 X (Nat.le_refl _) (Nat.zero_le _) (Nat.zero_le _) (fun h => by omega) (fun i j v hi _ => by omega) (fun i j v hi _ => by omega) (fun i hi => by omega)⟩
    | some ad =>
      have hcell : ∀ i, i < n → w.cell? (ad.add i) = some (X i 0) ∧ (X i 0).oneCell' = true := fun i hi => by
        have had : ad = ⟨g, off, none⟩ := Option.some.inj (h4 (by omega)).1
        have hl := h7 i hi
        have hv := List.getElem?_eq_getElem (l := f i) (i := 0) (by omega)
        obtain ⟨e1, e2⟩ := h5 i 0 _ hi hv
        refine ⟨?_, e2⟩
        rw [← e1, had]
        unfold Addr.add
        by_cases h0 : i = 0
        · rw [if_pos h0]; simp [h0]
        · rw [if_neg h0]; simp
      refine (cloneA_c ad n c ((List.range n).map fun i => X i 0) w (by simp) hn (fun j u hj => ?_) (fun u hu => ?_)).mono ?_
      · have hj' : j < n := by have := (List.getElem?_eq_some_iff.1 hj).1; simpa using this
        rw [List.getElem?_map, List.getElem?_range hj'] at hj
        simp only [Option.map_some, Option.some.injEq] at hj
        subst hj
        exact (hcell j hj').1
      · obtain ⟨i, hi, rfl⟩ := List.mem_map.1 hu
        exact (hcell i (by simpa using hi)).2
      · rintro e w' ⟨v', rfl, ⟨ho1, ho2⟩, hne, hb⟩
        rcases ho2 with ⟨e1, _⟩ | ⟨g', cap, cur, e1, e2, e3, e4, e5, e6, e7⟩
        · exact absurd e1 hne
        subst e1
        have hg' : g' < w'.heap.size := (Array.getElem?_eq_some_iff.1 e3).1
        have F := far_one (R := R) (m := m) hS hb e2 hg'
        refine ⟨_, m, _, rfl, F, .ro n 1 f (some ⟨g', 0, none⟩) cap g' 0 X e4 (by unfold maxLen at e5; unfold maxI; omega) h3 (fun _ => ⟨rfl, .inr rfl⟩) (fun i j v hi hv => ?_) (fun i j v hi hv => (h6 i j v hi hv).far (far_one (sim_nil hS) hb e2 hg') (sim_nil hS)) h7⟩
        have hj : j = 0 := by have := (List.getElem?_eq_some_iff.1 hv).1; rw [h7 i hi] at this; omega
        subst hj
        refine ⟨?_, (h5 i 0 v hi hv).2⟩
        have hci : cur.toList[i]? = some (X i 0) := by
          have h8 : (cur.toList.take (n * 1))[i]? = some (X i 0) := by rw [e7, List.getElem?_map, List.getElem?_range hi]; rfl
          rw [List.getElem?_take_of_lt (by omega)] at h8
          exact h8
        unfold World.cell?
        simp only [e3]
        simpa using hci
theorem clone_row {args : List AVal} {H : Hp} {K : AVal → Hp → Prop} (h : cloneRow args H K) : ∃ v H', K v H' ∧ Gives Try.prog 30 args H v H' := by
  unfold cloneRow at h
  split at h
  · rename_i n f
    obtain ⟨hn, hK⟩ := h
    refine ⟨_, _, hK, ⟨_, Try.func30, by decide +kernel, by decide +kernel⟩, fun R w m xs hS hx => ?_⟩
    obtain ⟨u, rfl, hu⟩ := hx.one
    exact clone_gives hn hS hu
  · exact h.elim
end Go.Proofs.Ytldfkjjjjfbbmaa.Ae

