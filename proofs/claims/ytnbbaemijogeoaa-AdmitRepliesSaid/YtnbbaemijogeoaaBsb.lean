/- Append, copy, make. No program in sight. Copy, make, built values. No program in sight. Copy; structs, arrays and slices built of parts. No program in sight. Equality of structs and arrays. No program in sight. Arithmetic, comparisons. No program in sight. Every operation that is no call: what the evaluator says is what the model does. No program in sight. One operation: what the evaluator says is what the model does. No program in sight. What a stretch of code leaves behind; blocks under other numbers. No program in sight. What a call sees of the caller's blocks. No program in sight. A call: what the callee gives, under the caller's numbers. No program in sight. Operations in sequence. No program in sight. An operation of a drawn region: it sees a part of the heap, and adds blocks of its own. No program in sight. Code and functions: what the evaluator says is what the model does. No program in sight. Drawn regions: what the evaluator's run in text order says of every order. No program in sight. Drawn regions: any order. No program in sight. Drawn regions: one more operation. No program in sight. -/
import Derived.Test.YtnbbaemijogeoaaBsa
import Derived.Laws.Append
namespace Go.Proofs.Ytnbbaemijogeoaa.Ae
open Go
section
variable {P : Program} {R : Nat → Prop} {w : World} {m : Mp} {H : Hp} {env : Env} {a : Act}

theorem closedL_get : ∀ {l : List AVal} {i : Nat} {v : AVal}, closedL l = true → l[i]? = some v → closed v = true
  | [], _, _, _, h => by simp at h
  | u :: l, 0, v, hc, h => by simp [closedL] at hc h; subst h; exact hc.1
  | u :: l, i + 1, v, hc, h => by simp [closedL] at hc; exact closedL_get hc.2 (by simpa using h)
theorem VR.closed {v : AVal} {x : Value} (h : VR R w m H v x) : Ae.closed v = true → ∀ {m' : Mp} {H' : Hp}, VR R w m' H' v x := by
  induction h with
  | undef x => intros; exact .undef x
  | bool b => intros; exact .bool b
  | int k n => intros; exact .int k n
  | byte x => intros; exact .byte x
  | str l h => intros; exact .str l h
  | nilS => intros; exact .nilS
  | sl b off len sz a c h1 h2 h3 h4 h5 h6 => intro hc; simp [Ae.closed] at hc
  | roB l a c g off h1 h2 h3 h4 h5 => intros; exact .roB l a c g off h1 h2 h3 h4 h5
  | ro n sz f a c g off X h1 h2 h3 h4 h5 h6 h7 ih => intros; exact .ro n sz f a c g off X h1 h2 h3 h4 h5 h6 h7
  | nilP => intros; exact .nilP
  | ptr b off g h => intro hc; simp [Ae.closed] at hc
  | rop cs g off X h4 h5 h6 ih => intros; exact .rop cs g off X h4 h5 h6
  | agg cs xs h1 h2 h3 ih =>
    intro hc m' H'
    simp only [Ae.closed] at hc
    exact .agg cs xs h1 (fun i v x hv hx => ih i v x hv hx (closedL_get hc hv)) h3
  | tup cs xs h1 h2 ih =>
    intro hc m' H'
    simp only [Ae.closed] at hc
    exact .tup cs xs h1 (fun i v x hv hx => ih i v x hv hx (closedL_get hc hv))
  | fn f a b xs ys h1 h2 h3 h4 ih1 ih2 =>
    intro hc m' H'
    simp only [Ae.closed, Bool.and_eq_true] at hc
    exact .fn f a b xs ys h1 (fun i v x hv hx => ih1 i v x hv hx (closedL_get hc.1 hv)) h3 (fun i v x hv hx => ih2 i v x hv hx (closedL_get hc.2 hv))
  | nilF => intros; exact .nilF

theorem VL.closed {vs : List AVal} {xs : List Value} (h : VL R w m H vs xs) (hc : closedL vs = true) {m' : Mp} {H' : Hp} : VL R w m' H' vs xs :=
  ⟨h.1, fun i v x hv hx => (h.2 i v x hv hx).closed (closedL_get hc hv)⟩
theorem joinSrc_sound {B B' : ABlk} {src : Src} (h : joinSrc B src = some B') {xs ys news : List Value} {n sz : Nat} {y : Value} (hB : BR R w m H B xs) (hy : ys = xs.take B.len) (hs : SrcR P R w m H src n sz y news) (r : List Value) :
    B' ≠ .dead ∧ B ≠ .dead ∧ B'.len = B.len + news.length ∧ BR R w m H B' (ys ++ (news ++ r)) := by
  have hvl := hs.vl
  cases B with
  | dead => cases src <;> simp [joinSrc] at h
  | bytes l =>
    obtain ⟨q, rfl⟩ := hB
    have e : ys = l.map bcell := by rw [hy]; exact List.take_left' (by simp [ABlk.len])
    cases src with
    | bytes k =>
      simp only [joinSrc, Option.some.injEq] at h; subst h
      have e2 := hvl.bytes_inv
      refine ⟨by simp, by simp, by rw [e2]; simp [ABlk.len], r, ?_⟩
      rw [e, e2]; simp [bcell]
    | vals k =>
      cases k with
      | nil =>
        simp only [joinSrc, Option.some.injEq] at h; subst h
        have e2 : news = [] := VL.nil_inv hvl
        refine ⟨by simp, by simp, by rw [e2]; simp [ABlk.len], r, ?_⟩
        rw [e, e2]; simp [bcell]
      | cons x k =>
        cases l with
        | cons _ _ => simp [joinSrc] at h
        | nil =>
          simp only [joinSrc, Option.some.injEq] at h; subst h
          refine ⟨by simp, by simp, ?_, ys ++ news, r, by simp, ?_⟩
          · have := hvl.1; simp [ABlk.len, Src.av] at this ⊢; exact this
          · rw [e]; exact hvl
    | flat k =>
      cases l with
      | cons _ _ => simp [joinSrc] at h
      | nil =>
        simp only [joinSrc, Option.some.injEq] at h; subst h
        refine ⟨by simp, by simp, ?_, news, r, by rw [e]; simp, hs.flat _ rfl⟩
        have := (hs.flat _ rfl).1; simp [ABlk.len]; exact this
  | vals cs =>
    obtain ⟨zs, q, rfl, hz⟩ := hB
    have e : ys = zs := by rw [hy]; exact List.take_left' (by simp [ABlk.len, hz.1])
    subst e
    cases src with
    | bytes k =>
      cases cs with
      | nil =>
        simp only [joinSrc, Option.some.injEq] at h; subst h
        have e2 := hvl.bytes_inv
        have e1 : ys = [] := hz.nil_inv
        refine ⟨by simp, by simp, by rw [e2]; simp [ABlk.len], r, ?_⟩
        rw [e1, e2]; simp
      | cons _ _ => simp [joinSrc] at h
    | vals k =>
      have h' : B' = .vals (cs ++ k) := by
        cases cs <;> cases k <;> simp [joinSrc] at h <;> simp [← h]
      subst h'
      refine ⟨by simp, by simp, ?_, ys ++ news, r, by simp, hz.append hvl⟩
      have := hvl.1; simp [ABlk.len, Src.av] at this ⊢; exact this
    | flat k =>
      cases cs with
      | nil =>
        simp only [joinSrc, Option.some.injEq] at h; subst h
        have e1 : ys = [] := hz.nil_inv
        refine ⟨by simp, by simp, ?_, news, r, by rw [e1]; simp, hs.flat _ rfl⟩
        have := (hs.flat _ rfl).1; simp [ABlk.len]; exact this
      | cons _ _ => simp [joinSrc] at h
  | flat cs =>
    obtain ⟨zs, q, rfl, hz⟩ := hB
    have e : ys = zs := by rw [hy]; exact List.take_left' (by simp [ABlk.len, hz.1])
    subst e
    cases src with
    | bytes k => simp [joinSrc] at h
    | vals k =>
      cases k with
      | nil =>
        simp only [joinSrc, Option.some.injEq] at h; subst h
        have e2 : news = [] := VL.nil_inv hvl
        refine ⟨by simp, by simp, by rw [e2]; simp [ABlk.len], ys, r, by rw [e2]; simp, hz⟩
      | cons x k =>
        simp only [joinSrc] at h
        cases hc : closedL (x :: k) with
        | false => rw [hc] at h; cases h
        | true =>
          rw [hc] at h
          simp only [cond_true, Option.some.injEq] at h; subst h
          refine ⟨by simp, by simp, ?_, ys ++ news, r, by simp, hz.append (VL.closed (vs := x :: k) hvl hc)⟩
          have := hvl.1; simp [ABlk.len, Src.av] at this ⊢; omega
    | flat k =>
      simp only [joinSrc, Option.some.injEq] at h; subst h
      refine ⟨by simp, by simp, ?_, ys ++ news, r, by simp, hz.append (hs.flat _ rfl)⟩
      have := (hs.flat _ rfl).1; simp [ABlk.len]; exact this

theorem sizeT_info {t : TypeId} {n : Nat} (h : sizeT P t = some n) : ∃ i, P.info? t = some i ∧ i.size = n := by
  unfold sizeT at h
  split at h
  · rename_i i hi; cases h; exact ⟨i, hi, rfl⟩
  · cases h
theorem bytesT_eq {t : TypeId} {i : TypeInfo} (h : P.info? t = some i) : bytesT P t = i.bytes := by simp [bytesT, Program.bytesOf, h]
theorem zero_of {t : TypeId} {z : List AVal} (h : zeroT P t = some z) {i : TypeInfo} (hi : P.info? t = some i) : ∃ v, i.zero = some v ∧ v.cells.size = z.length ∧ ∀ x ∈ v.cells.toList, x.oneCell' = true := by
  obtain ⟨v, h1, h2, h3⟩ := zeroT_run h (default : World)
  refine ⟨v, ?_, ?_, h3⟩
  · unfold zeroValue at h1
    simp only [Sem.run_bind, typeInfo, run_program, Result.andThen_ok, hi, Sem.run_pure] at h1
    cases hz : i.zero with
    | none => rw [hz] at h1; simp at h1
    | some u => rw [hz] at h1; simp at h1; rw [h1]
  · have := (h2 (fun _ => False) default Mp.nil []).1
    simp at this; exact this.symm
theorem one_zeroCells {z : Array Value} (hz : ∀ x ∈ z.toList, x.oneCell' = true) (hp : 0 < z.size) (n : Nat) : ∀ x ∈ (Builtin.zeroCells z n).toList, x.oneCell' = true := by
  intro x hx
  simp only [Builtin.zeroCells, Array.toList_map, List.mem_map] at hx
  obtain ⟨i, _, rfl⟩ := hx
  have : i % z.size < z.size := Nat.mod_lt _ hp
  rw [getElem!_pos z (i % z.size) this]
  exact hz _ (by simp)

/-- an append that makes a new array -/
theorem grow_run {t u ty e : TypeId} {i : TypeInfo} {z : Value} (ht : P.underlying t = some (.slice e)) (hu : isSrcT P u = true) (hi : P.info? e = some i) (hz : i.zero = some z) {base : Option Addr} {sLen sCap n : Nat} {y : Value} {old news : List Value}
    (hold : (Builtin.firstCells i.size sLen (.slice base sLen sCap)).run P w.drew = .ok old.toArray w.drew) (hlen : (Builtin.lenOf y).run P w = .ok n w) (hfirst : (Builtin.firstCells i.size n y).run P w.drew = .ok news.toArray w.drew)
    (hneed : sCap < sLen + n) (hby : (sLen + n) * i.bytes ≤ 140737488355328) (hmax : sLen + n ≤ 9223372036854775807) :
    (Builtin.append_ #[t, u] ty #[.slice base sLen sCap, y]).run P w =
      .ok (.slice (some ⟨w.heap.size, 0, none⟩) (sLen + n) (grownCap w (sLen + n) sCap e)) (w.drew.alloc (.cells (old ++ (news ++ (Builtin.zeroCells z.cells (grownCap w (sLen + n) sCap e - (sLen + n))).toList)).toArray e)) := by
  have hnot : (∃ e', P.underlying u = some (.slice e')) ∨ P.underlying u = some .string := by
    unfold isSrcT at hu
    split at hu
    · rename_i _ h; exact .inl ⟨_, h⟩
    · rename_i h; exact .inr h
    · cases hu
  have hfit := growslice_fits hneed hby
  have h1 : ¬ (sLen + n ≤ sCap) := by omega
  have h2 : ¬ (281474976710656 < Builtin.nextslicecap (sLen + n) sCap * i.bytes) := by omega
  have h3 : ¬ ((9223372036854775807 : Int) < (sLen : Int) + (n : Int)) := by omega
  simp only [Builtin.append_]
  rcases hnot with ⟨e', hd⟩ | hd <;>
    simp [run_underlying ht, run_underlying hd, sizeOf, typeInfo, hi, hlen, h1, h2, h3, IntKind.max, IntKind.signed, IntKind.bits, Question.forced, zeroValue, hz, hold, hfirst, newRow, grownCap] <;> (congr 2; apply Array.ext'; simp)
/-- .. that stays -/
theorem stay_run {t u ty e : TypeId} {i : TypeInfo} (ht : P.underlying t = some (.slice e)) (hu : isSrcT P u = true) (hi : P.info? e = some i) {base : Option Addr} {sLen sCap n : Nat} {y : Value} {news : List Value} {w' : World}
    (hlen : (Builtin.lenOf y).run P w = .ok n w) (hfirst : (Builtin.firstCells i.size n y).run P w = .ok news.toArray w)
    (hneed : sLen + n ≤ sCap) (hst : match base with | none => w' = w | some ad => (storeCells (ad.add (sLen * i.size)) news).run P w = .ok () w') :
    (Builtin.append_ #[t, u] ty #[.slice base sLen sCap, y]).run P w = .ok (.slice base (sLen + n) sCap) w' := by
  have hnot : (∃ e', P.underlying u = some (.slice e')) ∨ P.underlying u = some .string := by
    unfold isSrcT at hu
    split at hu
    · rename_i _ h; exact .inl ⟨_, h⟩
    · rename_i h; exact .inr h
    · cases hu
  simp only [Builtin.append_]
  cases base with
  | none =>
    simp only at hst
    subst hst
    rcases hnot with ⟨e', hd⟩ | hd <;> simp [run_underlying ht, run_underlying hd, sizeOf, typeInfo, hi, hlen, hneed, hfirst]
  | some ad =>
    simp only at hst
    rcases hnot with ⟨e', hd⟩ | hd <;> simp [run_underlying ht, run_underlying hd, sizeOf, typeInfo, hi, hlen, hneed, hfirst, hst]

theorem last_blk (H : Hp) (B : ABlk) : hget H.length (H ++ [B]) = B := by have := hget_append_ge (k := 0) (H := H) (G := [B]); simpa [hget] using this
theorem grown_stp (hS : Sim R w m H) {B : ABlk} {xs : List Value} {e : TypeId} (h1 : ∀ x ∈ xs, x.oneCell' = true) (hB : BR R w m H B xs) : Stp R w m H (w.drew.alloc (.cells xs.toArray e)) (upd m H.length w.heap.size) (H ++ [B]) := by
  have s1 := hS.drew
  refine s1.trans (s1.sim.alloc B xs e (0, 0) (fun i _ => by omega) h1 ?_)
  exact hB.mono (fun _ h => h) (s1.rsame hS) s1.rows s1.agree s1.hlen s1.hext
theorem kill_len (k : Nat) (H : Hp) : (hset k .dead H).length = H.length := hset_length ..

theorem appendF_sound (hS : Sim R w m H) {t u ty : TypeId} (hu : isSrcT P u = true) {s x q : AVal} {sv y : Value} {c : Option Prop} {ef : Eff} (hs : VR R w m H s sv) (hx : VR R w m H x y) (h : appendF P H t s x = some (c, q, ef)) (hc : ∀ p, c = some p → p) :
    ∃ z w' m', (Builtin.append_ #[t, u] ty #[sv, y]).run P w = .ok z w' ∧ Stp R w m H w' m' (ef.app H) ∧ VR R w' m' (ef.app H) q z := by
  unfold appendF at h
  simp only [forceB_eq] at h
  split at h
  case h_2 => cases h
  rename_i e ht
  split at h
  case h_2 => cases h
  rename_i sz hsz
  cases hck : (Nat.ble 1 sz && zeroLen P e sz && Nat.ble 1 (bytesT P e)) with
  | false => rw [hck] at h; cases h
  | true =>
  rw [hck] at h
  simp only [cond_true] at h
  simp only [Bool.and_eq_true] at hck
  have hsz1 := Nat.le_of_ble_eq_true hck.1.1
  obtain ⟨i, hi, rfl⟩ := sizeT_info hsz
  have hby := bytesT_eq hi
  have hb1 := Nat.le_of_ble_eq_true hck.2
  rw [hby] at hb1
  obtain ⟨zv, hz, hzl, hz1⟩ : ∃ v, i.zero = some v ∧ v.cells.size = i.size ∧ ∀ x ∈ v.cells.toList, x.oneCell' = true := by
    have := hck.1.2
    unfold zeroLen at this
    split at this
    · rename_i z hzz
      obtain ⟨v, a1, a2, a3⟩ := zero_of hzz hi
      exact ⟨v, a1, by rw [a2, Nat.eq_of_beq_eq_true this], a3⟩
    · cases this
  split at h
  case h_2 => cases h
  rename_i src hsrc
  have hSd := hS.drew
  split at h
  case h_3 => cases h
  · -- nothing yet
    rename_i n hn
    cases hs with
    | nilS =>
    split at h
    case h_2 => cases h
    rename_i B hB
    simp only [Option.some.injEq, Prod.mk.injEq] at h
    obtain ⟨rfl, rfl, rfl⟩ := h
    have hroom := hc _ rfl
    rw [hby] at hroom
    obtain ⟨news, hsr⟩ := src_sound (P := P) hS hx hsrc hn hsz1
    obtain ⟨news', hsr'⟩ := src_sound (P := P) hSd.sim (hx.step hSd hS) hsrc hn hsz1
    rw [app_new]
    by_cases h0 : n = 0
    · subst h0
      obtain ⟨b1, _, b3, _⟩ := joinSrc_sound (R := R) (w := w) (m := m) (H := H) hB (xs := []) (ys := []) ⟨[], [], rfl, VL.nil⟩ rfl hsr []
      have hl0 : B.len = 0 := by have := hsr.len; rw [Nat.zero_mul] at this; rw [b3, this]; rfl
      refine ⟨.slice none 0 0, w, m, ?_, hS.ghost B hl0, .sl _ _ _ _ _ _ (Nat.le_refl _) (Nat.zero_le _) (Nat.zero_le _) (by simp) (fun h => by omega) (.inr (by rw [last_blk]; omega))⟩
      exact stay_run (base := none) (sLen := 0) (sCap := 0) ht hu hi hsr.lenOf hsr.first (by omega) rfl
    · have hr := grow_run (P := P) (w := w) (t := t) (u := u) (ty := ty) ht hu hi hz (base := none) (sLen := 0) (sCap := 0) (n := n) (y := y) (old := []) (news := news') (by simp [Builtin.firstCells]) hsr.lenOf hsr'.first (by omega) (by rw [Nat.zero_add]; exact hroom) (by have := hsr.le; unfold big at this; omega)
      have hle := hsr.le
      have hcap := grownCap_ge w (0 + n) 0 e
      have hcap2 := grownCap_le_maxLen w (0 + n) 0 e (by simp only [maxLen]; unfold big at hle; omega)
      generalize grownCap w (0 + n) 0 e = cap at *
      rw [Nat.zero_add] at hr hcap
      obtain ⟨b1, _, b3, b4⟩ := joinSrc_sound (R := R) (w := w.drew) (m := m) (H := H) hB (xs := []) (ys := []) ⟨[], [], rfl, VL.nil⟩ rfl hsr' (Builtin.zeroCells zv.cells (cap - n)).toList
      have hone : ∀ x ∈ ([] : List Value) ++ (news' ++ (Builtin.zeroCells zv.cells (cap - n)).toList), x.oneCell' = true := fun x hx => by
        rw [List.nil_append] at hx
        rcases List.mem_append.1 hx with hx | hx
        · exact hsr'.one x hx
        · exact one_zeroCells hz1 (by omega) _ x hx
      have hxl : (([] : List Value) ++ (news' ++ (Builtin.zeroCells zv.cells (cap - n)).toList)).length = cap * i.size := by
        have e1 : (Builtin.zeroCells zv.cells (cap - n)).toList.length = (cap - n) * i.size := by simp [Builtin.zeroCells, hzl]
        rw [List.nil_append, List.length_append, e1, hsr'.len, ← Nat.add_mul]; congr 1; omega
      have s2 := hSd.trans (hSd.sim.alloc B _ e (0, 0) (fun i _ => by omega) hone b4)
      have hmul : n * i.bytes ≤ room := hroom
      refine ⟨_, _, upd m H.length w.drew.heap.size, hr, s2, .sl _ _ _ _ _ _ hcap (by simp only [maxLen] at hcap2; exact hcap2) ?_ (by simp) (fun _ => ⟨w.heap.size, cap * i.size, upd_self _ _ _, rfl, ?_, by omega⟩) (.inr ?_)⟩
      · exact Nat.le_trans (Nat.le_mul_of_pos_right n hb1) hroom
      · rw [← hxl]; exact rowSize_of (e := e) (fr := (0, 0)) Array.getElem?_push_size
      · rw [last_blk, b3, hsr'.len]; simp [ABlk.len]
  · rename_i n b off len sz' hn
    cases hck2 : (Nat.beq off 0 && Nat.beq i.size sz') with
    | false => rw [hck2] at h; cases h
    | true =>
    rw [hck2] at h
    simp only [cond_true] at h
    simp only [Bool.and_eq_true] at hck2
    obtain rfl := Nat.eq_of_beq_eq_true hck2.1
    obtain rfl := Nat.eq_of_beq_eq_true hck2.2
    split at h
    case h_2 => cases h
    rename_i B hB
    simp only [Option.some.injEq, Prod.mk.injEq] at h
    obtain ⟨rfl, rfl, rfl⟩ := h
    obtain ⟨hroom, hblen⟩ := hc _ rfl
    rw [hby] at hroom
    have hreal : len + n ≤ room := Nat.le_trans (Nat.le_mul_of_pos_right _ hb1) hroom
    have hea : Eff.app ⟨[(b, .dead)], [B]⟩ H = hset b .dead H ++ [B] := by simp [Eff.app, hsets]
    rw [hea]
    have hkl := kill_len b H
    have hlast : hget H.length (hset b .dead H ++ [B]) = B := by have := last_blk (hset b .dead H) B; rwa [hkl] at this
    obtain ⟨news, hsr⟩ := src_sound (P := P) hS hx hsrc hn hsz1
    obtain ⟨news', hsr'⟩ := src_sound (P := P) hSd.sim (hx.step hSd hS) hsrc hn hsz1
    have hlive : hget b H ≠ .dead := by intro e; rw [e] at hB; cases src <;> simp [joinSrc] at hB
    cases hs with
    | sl _ _ _ _ ad cp g1 g2 g3 g4 g5 g6 =>
    by_cases hcp : 0 < cp
    · obtain ⟨g, nn, e1, rfl, e3, e4⟩ := g5 hcp
      clear g5 g6
      obtain ⟨xs, e', fr, q1, q2, q3, q4, _⟩ := hS.cells hlive e1
      have hnn : nn = xs.length := by rw [rowSize_of q1] at e3; exact (Option.some.inj e3).symm
      have hcs : len * i.size ≤ cp * i.size := Nat.mul_le_mul_right _ g1
      by_cases hneed : len + n ≤ cp
      · have hfit : len * i.size + news.length ≤ xs.length := by
          rw [hsr.len, ← Nat.add_mul]
          have := Nat.mul_le_mul_right i.size hneed
          omega
        have hst := storeG P g (len * i.size) e' fr news 0 xs w q1 q2 (by omega) hsr.one
        rw [Nat.add_zero] at hst
        have hr := stay_run (P := P) (w := w) (t := t) (u := u) (ty := ty) (base := some ⟨g, 0, none⟩) (sLen := len) (sCap := cp) (n := n) (y := y) (news := news) ht hu hi hsr.lenOf hsr.first hneed (by
          show (storeCells ((⟨g, 0, none⟩ : Addr).add (len * i.size)) news).run P w = _
          rw [add_off, Nat.zero_add]; exact hst)
        obtain ⟨b1, _, b3, b4⟩ := joinSrc_sound hB q4 (ys := xs.take (len * i.size)) (by rw [hblen]) hsr (xs.drop (len * i.size + news.length))
        have hxl : (xs.take (len * i.size) ++ (news ++ xs.drop (len * i.size + news.length))).length = xs.length := by simp; omega
        have s := hS.move hlive e1 q1 B hxl (fun x hx => by
          rcases List.mem_append.1 hx with hx | hx
          · exact q3 x (List.mem_of_mem_take hx)
          · rcases List.mem_append.1 hx with hx | hx
            · exact hsr.one x hx
            · exact q3 x (List.mem_of_mem_drop hx)) b4
        refine ⟨_, _, _, hr, s, .sl _ _ _ _ _ _ hneed g2 hreal (by simp [hkl]) (fun _ => ⟨g, xs.length, upd_self _ _ _, rfl, ?_, by omega⟩) (.inr ?_)⟩
        · rw [rowSize_setRow w g xs _ e' fr q1 hxl]; exact rowSize_of q1
        · rw [hlast, b3, hblen, hsr.len, Nat.zero_add, Nat.add_mul]; exact Nat.le_refl _
      · have hold : (Builtin.firstCells i.size len (.slice (some ⟨g, 0, none⟩) len cp)).run P w.drew = .ok (xs.take (len * i.size)).toArray w.drew := by
          refine run_firstCells_some _ i.size len _ _ _ _ (by simp; omega) fun j v hv => ?_
          rw [add_off, Nat.zero_add]
          show w.cell? _ = _
          rw [cell_of q1]
          rw [List.getElem?_take] at hv
          split at hv
          · exact hv
          · cases hv
        have hr := grow_run (P := P) (w := w) (t := t) (u := u) (ty := ty) ht hu hi hz (base := some ⟨g, 0, none⟩) (sLen := len) (sCap := cp) (n := n) (y := y) hold hsr.lenOf hsr'.first (by omega) hroom (by unfold room at hreal; omega)
        have hcap := grownCap_ge w (len + n) cp e
        have hcap2 := grownCap_le_maxLen w (len + n) cp e (by simp only [maxLen]; unfold room at hreal; omega)
        generalize grownCap w (len + n) cp e = cap at *
        have q4' : BR R w.drew m H (hget b H) xs := q4.mono (fun _ h => h) (hSd.rsame hS) hSd.rows hSd.agree hSd.hlen hSd.hext
        obtain ⟨b1, _, b3, b4⟩ := joinSrc_sound hB q4' (ys := xs.take (len * i.size)) (by rw [hblen]) hsr' (Builtin.zeroCells zv.cells (cap - (len + n))).toList
        have hone : ∀ x ∈ xs.take (len * i.size) ++ (news' ++ (Builtin.zeroCells zv.cells (cap - (len + n))).toList), x.oneCell' = true := fun x hx => by
          rcases List.mem_append.1 hx with hx | hx
          · exact q3 x (List.mem_of_mem_take hx)
          · rcases List.mem_append.1 hx with hx | hx
            · exact hsr'.one x hx
            · exact one_zeroCells hz1 (by omega) _ x hx
        have hxl : (xs.take (len * i.size) ++ (news' ++ (Builtin.zeroCells zv.cells (cap - (len + n))).toList)).length = cap * i.size := by
          have e1 : (Builtin.zeroCells zv.cells (cap - (len + n))).toList.length = (cap - (len + n)) * i.size := by simp [Builtin.zeroCells, hzl]
          have e2 : (xs.take (len * i.size)).length = len * i.size := by simp; omega
          rw [List.length_append, List.length_append, e1, e2, hsr'.len, ← Nat.add_mul, ← Nat.add_mul]; congr 1; omega
        have s1 := hSd.sim.kill b
        have s2 := s1.sim.alloc B _ e (0, 0) (fun i _ => by omega) hone (b4.mono (fun _ h => h) (s1.rsame hSd.sim) s1.rows s1.agree s1.hlen s1.hext)
        rw [hkl] at s2
        refine ⟨_, _, upd m H.length w.drew.heap.size, hr, hSd.trans (s1.trans s2), .sl _ _ _ _ _ _ hcap (by simp only [maxLen] at hcap2; exact hcap2) hreal (by simp [hkl]) (fun _ => ⟨w.heap.size, cap * i.size, upd_self _ _ _, rfl, ?_, by omega⟩) (.inr ?_)⟩
        · rw [← hxl]; exact rowSize_of (e := e) (fr := (0, 0)) Array.getElem?_push_size
        · rw [hlast, b3, hblen, hsr'.len, Nat.zero_add, Nat.add_mul]; exact Nat.le_refl _
    · have hl0 : len = 0 := by omega
      subst hl0
      have hbl0 : (hget b H).len = 0 := by rw [hblen]; simp
      by_cases h0 : n = 0
      · subst h0
        have hnews : news = [] := List.eq_nil_of_length_eq_zero (by rw [hsr.len]; simp)
        subst hnews
        have hlB : B.len = 0 := by
          cases hbk : hget b H with
          | dead => exact absurd hbk hlive
          | bytes l =>
            rw [hbk] at hB hbl0
            have : l = [] := List.eq_nil_of_length_eq_zero hbl0
            subst this
            have := (joinSrc_sound (R := R) (w := w) (m := m) (H := H) hB (xs := []) (ys := []) ⟨[], rfl⟩ rfl hsr []).2.2.1
            rw [this]; rfl
          | vals cs =>
            rw [hbk] at hB hbl0
            have : cs = [] := List.eq_nil_of_length_eq_zero hbl0
            subst this
            have := (joinSrc_sound (R := R) (w := w) (m := m) (H := H) hB (xs := []) (ys := []) ⟨[], [], rfl, VL.nil⟩ rfl hsr []).2.2.1
            rw [this]; rfl
          | flat cs =>
            rw [hbk] at hB hbl0
            have : cs = [] := List.eq_nil_of_length_eq_zero hbl0
            subst this
            have := (joinSrc_sound (R := R) (w := w) (m := m) (H := H) hB (xs := []) (ys := []) ⟨[], [], rfl, VL.nil⟩ rfl hsr []).2.2.1
            rw [this]; rfl
        have hr := stay_run (P := P) (w := w) (w' := w) (t := t) (u := u) (ty := ty) (base := ad) (sLen := 0) (sCap := cp) (n := 0) (y := y) (news := []) ht hu hi hsr.lenOf hsr.first (by omega) (by
          cases ad with
          | none => rfl
          | some ad => rfl)
        have s1 := hS.kill b
        refine ⟨_, _, _, hr, s1.trans (s1.sim.ghost B hlB), .sl _ _ _ _ _ _ (by omega) g2 hreal (by simp [hkl]) (fun h => by omega) (.inr (by rw [hlast, hlB]; simp))⟩
      · have hold : (Builtin.firstCells i.size 0 (.slice ad 0 cp)).run P w.drew = .ok ([] : List Value).toArray w.drew := by
          cases ad with
          | none => simp [Builtin.firstCells]
          | some ad => exact run_firstCells_some _ i.size 0 _ _ _ _ (by simp) fun j v hv => by simp at hv
        have hr := grow_run (P := P) (w := w) (t := t) (u := u) (ty := ty) ht hu hi hz (base := ad) (sLen := 0) (sCap := cp) (n := n) (y := y) hold hsr.lenOf hsr'.first (by omega) hroom (by unfold room at hreal; omega)
        have hcap := grownCap_ge w (0 + n) cp e
        have hcap2 := grownCap_le_maxLen w (0 + n) cp e (by simp only [maxLen]; unfold room at hreal; omega)
        generalize grownCap w (0 + n) cp e = cap at *
        obtain ⟨xs0, q4'⟩ : ∃ xs0, BR R w.drew m H (hget b H) xs0 := by
          cases hbk : hget b H with
          | dead => exact ⟨[], trivial⟩
          | bytes l => rw [hbk] at hbl0; have : l = [] := List.eq_nil_of_length_eq_zero hbl0; subst this; exact ⟨[], [], rfl⟩
          | vals cs => rw [hbk] at hbl0; have : cs = [] := List.eq_nil_of_length_eq_zero hbl0; subst this; exact ⟨[], [], [], rfl, VL.nil⟩
          | flat cs => rw [hbk] at hbl0; have : cs = [] := List.eq_nil_of_length_eq_zero hbl0; subst this; exact ⟨[], [], [], rfl, VL.nil⟩
        obtain ⟨b1, _, b3, b4⟩ := joinSrc_sound hB q4' (ys := []) (by rw [hbl0]; simp) hsr' (Builtin.zeroCells zv.cells (cap - (0 + n))).toList
        have hone : ∀ x ∈ ([] : List Value) ++ (news' ++ (Builtin.zeroCells zv.cells (cap - (0 + n))).toList), x.oneCell' = true := fun x hx => by
          rw [List.nil_append] at hx
          rcases List.mem_append.1 hx with hx | hx
          · exact hsr'.one x hx
          · exact one_zeroCells hz1 (by omega) _ x hx
        have hxl : (([] : List Value) ++ (news' ++ (Builtin.zeroCells zv.cells (cap - (0 + n))).toList)).length = cap * i.size := by
          have e1 : (Builtin.zeroCells zv.cells (cap - (0 + n))).toList.length = (cap - (0 + n)) * i.size := by simp [Builtin.zeroCells, hzl]
          rw [List.nil_append, List.length_append, e1, hsr'.len, ← Nat.add_mul]; congr 1; omega
        have s1 := hSd.sim.kill b
        have s2 := s1.sim.alloc B _ e (0, 0) (fun i _ => by omega) hone (b4.mono (fun _ h => h) (s1.rsame hSd.sim) s1.rows s1.agree s1.hlen s1.hext)
        rw [hkl] at s2
        refine ⟨_, _, upd m H.length w.drew.heap.size, hr, hSd.trans (s1.trans s2), .sl _ _ _ _ _ _ hcap (by simp only [maxLen] at hcap2; exact hcap2) hreal (by simp [hkl]) (fun _ => ⟨w.heap.size, cap * i.size, upd_self _ _ _, rfl, ?_, by omega⟩) (.inr ?_)⟩
        · rw [← hxl]; exact rowSize_of (e := e) (fr := (0, 0)) Array.getElem?_push_size
        · rw [hlast, b3, hbl0, hsr'.len]; simp
end
end Go.Proofs.Ytnbbaemijogeoaa.Ae

namespace Go.Proofs.Ytnbbaemijogeoaa.Ae
open Go

theorem hset_self : ∀ (k : Nat) (H : Hp), hset k (hget k H) H = H
  | _, [] => by simp [hset]
  | 0, _ :: _ => by simp [hset, hget]
  | k + 1, _ :: r => by simp [hset, hget, hset_self k r]
theorem rep_len (n : Nat) (z : List AVal) : (rep n z).length = n * z.length := by
  induction n with
  | zero => simp [rep]
  | succ n ih => simp [rep, ih, Nat.add_mul]; omega
theorem rep_get (z : List AVal) (hz : 1 ≤ z.length) : ∀ (n j : Nat), j < n * z.length → (rep n z)[j]? = z[j % z.length]?
  | 0, j, h => by simp at h
  | n + 1, j, h => by
    rw [rep]
    by_cases hj : j < z.length
    · rw [List.getElem?_append_left hj, Nat.mod_eq_of_lt hj]
    · rw [List.getElem?_append_right (by omega), rep_get z hz n (j - z.length) (by rw [Nat.add_mul, Nat.one_mul] at h; omega), ← Nat.mod_eq_sub_mod (by omega : z.length ≤ j)]

section
variable {P : Program} {R : Nat → Prop} {w : World} {m : Mp} {H : Hp} {env : Env} {a : Act}

theorem VL.made {z : List AVal} {zs : Array Value} (h : VL R w m H z zs.toList) (hz : 1 ≤ z.length) (n : Nat) : VL R w m H (rep n z) (madeCells zs (n * z.length)).toList := by
  have hl : z.length = zs.size := by simpa using h.1
  refine ⟨by rw [rep_len]; simp [madeCells], fun i v x hv hx => ?_⟩
  have hi : i < n * z.length := by have := (List.getElem?_eq_some_iff.1 hv).1; rwa [rep_len] at this
  rw [rep_get z hz n i hi] at hv
  have hm : i % zs.size < zs.size := Nat.mod_lt _ (by omega)
  simp [madeCells, hi] at hx
  rw [hl] at hv
  refine h.2 _ v x hv ?_
  rw [← hx, getElem?_pos zs.toList _ (by simpa using hm)]
  simp [getElem!_pos zs (i % zs.size) hm]
theorem one_made {zs : Array Value} (hz : ∀ x ∈ zs.toList, x.oneCell' = true) (hp : 0 < zs.size) (n : Nat) : ∀ x ∈ (madeCells zs n).toList, x.oneCell' = true := by
  intro x hx
  simp only [madeCells, Array.toList_map, List.mem_map] at hx
  obtain ⟨i, _, rfl⟩ := hx
  have hm : i % zs.size < zs.size := Nat.mod_lt _ hp
  rw [getElem!_pos zs (i % zs.size) hm]
  exact hz _ (by simp)

theorem isU8_eq {t : TypeId} (h : isU8 P t = true) : P.underlying t = some (.int .u8) := by
  unfold isU8 at h; split at h
  · assumption
  · cases h
theorem new_sl (hS : Sim R w m H) {B : ABlk} {xs : List Value} {e : TypeId} (h1 : ∀ x ∈ xs, x.oneCell' = true) (hB : BR R w m H B xs) {n sz : Nat} (hx : xs.length = n * sz) (hb : B.len = n * sz) (hr : n ≤ room) :
    Stp R w m H (w.alloc (.cells xs.toArray e)) (upd m H.length w.heap.size) (H ++ [B]) ∧ VR R (w.alloc (.cells xs.toArray e)) (upd m H.length w.heap.size) (H ++ [B]) (.sl H.length 0 n sz) (.slice (some ⟨w.heap.size, 0, none⟩) n n) := by
  refine ⟨hS.alloc B xs e (0, 0) (fun i _ => by omega) h1 hB, .sl _ _ _ _ _ _ (Nat.le_refl _) (by unfold room at hr; unfold maxI; omega) hr (by simp) (fun _ => ⟨w.heap.size, xs.length, upd_self _ _ _, rfl, rowSize_of (e := e) (fr := (0, 0)) Array.getElem?_push_size, by omega⟩) (.inr (by rw [last_blk, hb]; omega))⟩
theorem toArray_made (zs : Array Value) (n : Nat) : madeCells zs n = (madeCells zs n).toList.toArray := by simp
theorem makeF_sound (hS : Sim R w m H) {t : TypeId} {nv cv q : AVal} {ny cy : Value} {c : Option Prop} {ef : Eff} (hn : VR R w m H nv ny) (hcv : VR R w m H cv cy) (h : makeF P H t nv cv = some (c, q, ef)) (hc : ∀ p, c = some p → p) :
    ∃ z w' m', (Instr.makeSlice t ny cy).run P w = .ok z w' ∧ Stp R w m H w' m' (ef.app H) ∧ VR R w' m' (ef.app H) q z := by
  unfold makeF at h
  split at h
  case h_2 => cases h
  rename_i e a b ht ha hb
  obtain ⟨k1, rfl⟩ := intOf_sound hn ha
  obtain ⟨k2, rfl⟩ := intOf_sound hcv hb
  split at h
  case h_2 => cases h
  rename_i sz0 z hsz hz
  obtain ⟨i, hi, hsz0⟩ := sizeT_info hsz
  obtain ⟨zv, g1, g2, g3⟩ := zeroT_run hz w
  have hzz : i.zero = some zv := by
    unfold zeroValue at g1
    simp only [Sem.run_bind, typeInfo, run_program, Result.andThen_ok, hi, Sem.run_pure] at g1
    cases hz : i.zero with
    | none => rw [hz] at g1; simp at g1
    | some u => rw [hz] at g1; simp at g1; rw [g1]
  have hzl : z.length = zv.cells.size := by have := (g2 R w m H).1; simpa using this
  split at h
  · rename_i x hx hck
    simp only [Bool.and_eq_true] at hck
    simp only [Option.some.injEq, Prod.mk.injEq] at h
    obtain ⟨rfl, rfl, rfl⟩ := h
    obtain ⟨p1, rfl, p3⟩ := hc _ rfl
    have hb1 := Nat.eq_of_beq_eq_true hck.1
    have hs1 := Nat.eq_of_beq_eq_true hck.2
    rw [bytesT_eq hi] at hb1
    have hr := run_make (P := P) w t e i zv ht hi hzz k1 k2 a a p1 (Int.le_refl _) (by rw [hb1]; unfold room at p3; omega) (by unfold room at p3; omega)
    rw [hsz0, hs1, Nat.mul_one] at hr
    have hzc : zv.cells = #[bcell x] := by
      have := g2 R w m H
      rw [toBytes_eq hx] at this
      have := this.bytes_inv
      apply Array.ext'
      rw [this]; rfl
    have hmade : madeCells zv.cells a.toNat = (List.replicate a.toNat (bcell x)).toArray := by
      apply Array.ext'
      rw [hzc]
      apply List.ext_getElem
      · simp [madeCells]
      · intro j h1 h2
        simp [madeCells, Nat.mod_one]
    rw [hmade] at hr
    obtain ⟨s1, s2⟩ := new_sl hS (B := .bytes (List.replicate a.toNat x)) (xs := List.replicate a.toNat (bcell x)) (e := e) (fun y hy => by rw [List.eq_of_mem_replicate hy]; rfl) ⟨[], by simp [bcell]⟩ (n := a.toNat) (sz := 1) (by simp) (by simp [ABlk.len]) (by omega)
    rw [app_new]
    exact ⟨_, _, _, hr, s1, s2⟩
  · cases hck : (Nat.beq z.length sz0 && Nat.ble 1 sz0 && Nat.ble 1 (bytesT P e)) with
    | false => rw [hck] at h; cases h
    | true =>
    rw [hck] at h
    simp only [cond_true, Option.some.injEq, Prod.mk.injEq] at h
    obtain ⟨rfl, rfl, rfl⟩ := h
    obtain ⟨p1, rfl, p3⟩ := hc _ rfl
    simp only [Bool.and_eq_true] at hck
    have hz1 := Nat.eq_of_beq_eq_true hck.1.1
    have hsz1 := Nat.le_of_ble_eq_true hck.1.2
    have hb1 := Nat.le_of_ble_eq_true hck.2
    rw [bytesT_eq hi] at p3 hb1
    have hroom : a.toNat ≤ room := by
      have h1 : a * 1 ≤ a * (i.bytes : Int) := Int.mul_le_mul_of_nonneg_left (by omega) p1
      omega
    have hr := run_make (P := P) w t e i zv ht hi hzz k1 k2 a a p1 (Int.le_refl _) (by rw [Int.mul_comm]; unfold room at p3; omega) (by unfold room at hroom; omega)
    rw [toArray_made, hsz0] at hr
    have hvl := (g2 R w m H).made (by omega) a.toNat
    have hml : (madeCells zv.cells (a.toNat * z.length)).toList.length = a.toNat * sz0 := by simp [madeCells, hz1]
    rw [hz1] at hml hvl
    obtain ⟨s1, s2⟩ := new_sl hS (B := .vals (rep a.toNat z)) (xs := (madeCells zv.cells (a.toNat * sz0)).toList) (e := e) (one_made g3 (by omega) _) ⟨_, [], by simp, hvl⟩ (n := a.toNat) (sz := sz0) hml (by simp [ABlk.len, rep_len, hz1]) hroom
    rw [app_new]
    exact ⟨_, _, _, hr, s1, s2⟩
end
end Go.Proofs.Ytnbbaemijogeoaa.Ae

namespace Go.Proofs.Ytnbbaemijogeoaa.Ae
open Go
section
variable {P : Program} {R : Nat → Prop} {w : World} {m : Mp} {H : Hp} {env : Env} {a : Act}

/-- the first bytes of a source -/
theorem srcBytes (hS : Sim R w m H) {x : AVal} {y : Value} {l : List UInt8} (hx : VR R w m H x y) (h : bytesSrc H x = some l) :
    (Builtin.lenOf y).run P w = .ok l.length w ∧ ∀ n, n ≤ l.length → (Builtin.firstCells 1 n y).run P w = .ok ((l.take n).map bcell).toArray w := by
  by_cases hs : ∃ k, x = .str k
  · obtain ⟨k, rfl⟩ := hs
    simp only [bytesSrc, Option.some.injEq] at h; subst h
    cases hx with
    | str _ hl =>
    have hsz : (⟨k.toArray⟩ : ByteArray).size = k.length := by show k.toArray.size = _; simp
    refine ⟨by simp [Builtin.lenOf, hsz], fun n hn => ?_⟩
    have : (⟨k.toArray⟩ : ByteArray).extract 0 n = ⟨(k.take n).toArray⟩ := by
      apply ByteArray.ext; rw [ByteArray.data_extract]; simp [List.extract_toArray, List.extract]
    simp [Builtin.firstCells]
    rfl
  · have h' : bytesOf H x = some l := by unfold bytesSrc at h; cases x <;> first | exact h | exact absurd ⟨_, rfl⟩ hs
    obtain ⟨ad, c, rfl, h1, h2, h3⟩ := bytesOf_sound hS hx h'
    refine ⟨by simp [Builtin.lenOf], fun n hn => ?_⟩
    by_cases h0 : 0 < l.length
    · obtain ⟨g, off, rfl, h4⟩ := h3 h0
      refine run_firstCells_some w 1 n _ _ _ _ (by simp; omega) fun j v hv => ?_
      rw [add_off]
      rw [List.getElem?_map] at hv
      obtain ⟨u, hu, rfl⟩ := Option.map_eq_some_iff.1 hv
      rw [List.getElem?_take] at hu
      split at hu
      · exact h4 j u hu
      · cases hu
    · have hl0 : l = [] := List.eq_nil_of_length_eq_zero (by omega)
      subst hl0
      have : n = 0 := by simpa using hn
      subst this
      cases ad with
      | none => simp [Builtin.firstCells]
      | some ad => exact run_firstCells_some w 1 0 _ _ _ _ (by simp) fun j v hv => by simp at hv

theorem copyF_sound (hS : Sim R w m H) {t u ty : TypeId} {d x q : AVal} {dv y : Value} {c : Option Prop} {ef : Eff} (hd : VR R w m H d dv) (hx : VR R w m H x y) (h : copyF P H t d x = some (c, q, ef)) (hc : ∀ p, c = some p → p) :
    ∃ z w', (Builtin.copy_ #[t, u] ty #[dv, y]).run P w = .ok z w' ∧ Stp R w m H w' m (ef.app H) ∧ VR R w' m (ef.app H) q z := by
  unfold copyF at h
  split at h
  case h_2 => cases h
  rename_i b off len sz l hb hl
  obtain ⟨e, ht, he, hsz⟩ := isBytes_eq hb
  obtain ⟨q1, q2⟩ := srcBytes (P := P) hS hx hl
  have step : ∀ (base : Option Addr) (cp n : Nat) (w' : World), dv = .slice base len cp → n = Nat.min l.length len → (match base with | none => w' = w | some ad => (storeCells ad ((l.take n).map bcell)).run P w = .ok () w') →
      (Builtin.copy_ #[t, u] ty #[dv, y]).run P w = .ok (.int .i64 (n : Int)) w' := by
    intro base cp n w' hdv hn hst
    subst hdv
    have h1 := q2 n (by rw [hn]; exact Nat.min_le_left _ _)
    subst hn
    cases base with
    | none =>
      simp only at hst
      subst hst
      simp [Builtin.copy_, run_underlying ht, q1, sizeT_run hsz, h1, goInt]
    | some ad =>
      simp only at hst
      simp [Builtin.copy_, run_underlying ht, q1, sizeT_run hsz, h1, goInt] at hst ⊢
      rw [hst]; simp
  cases hd with
  | sl _ _ _ _ ad cp g1 g2 g3 g4 g5 g6 =>
  cases hbk : hget b H with
  | dead => rw [hbk] at h; cases h
  | flat cs => rw [hbk] at h; cases h
  | bytes k =>
    rw [hbk] at h
    simp only [Option.some.injEq, Prod.mk.injEq] at h
    obtain ⟨rfl, rfl, rfl⟩ := h
    obtain ⟨p1, p2⟩ := hc _ rfl
    have hmin : l.length = Nat.min l.length len := (Nat.min_eq_left p2).symm
    rw [app_set]
    by_cases h0 : 0 < l.length
    · obtain ⟨g, nn, e1, rfl, e3, e4⟩ := g5 (by clear g5; omega)
      clear g5
      have hlive : hget b H ≠ .dead := by rw [hbk]; simp
      obtain ⟨xs, e', fr, r1, r2, r3, r4, _⟩ := hS.cells hlive e1
      rw [hbk] at r4
      obtain ⟨rest, rfl⟩ := r4
      have hst := storeG P g off e' fr ((l.take l.length).map bcell) 0 _ w r1 r2 (by simp; omega) (one_bytes _)
      rw [Nat.add_zero] at hst
      have e5 : List.take off (k.map (fun x => Value.int .u8 (x.toNat : Int)) ++ rest) ++ ((l.take l.length).map bcell ++ List.drop (off + ((l.take l.length).map bcell).length) (k.map (fun x => Value.int .u8 (x.toNat : Int)) ++ rest)) =
          (k.take off ++ (l ++ k.drop (off + l.length))).map (fun x => Value.int .u8 (x.toNat : Int)) ++ rest := by
        rw [List.take_append_of_le_length (by simp; omega), List.drop_append_of_le_length (by simp; omega)]
        simp [bcell, List.map_take, List.map_drop]
      rw [e5] at hst
      exact ⟨_, _, step _ cp _ _ rfl hmin hst, hS.put hlive e1 r1 (.bytes _) (by rw [hbk]; simp [ABlk.len]; omega) (by simp; omega) (fun x hx => by
        rcases List.mem_append.1 hx with hx | hx
        · obtain ⟨u, _, rfl⟩ := List.mem_map.1 hx; rfl
        · exact r3 x (List.mem_append_right _ hx)) ⟨rest, rfl⟩, .int _ _⟩
    · have hl0 : l = [] := List.eq_nil_of_length_eq_zero (by clear g5; omega)
      subst hl0
      have e5 : hset b (.bytes (k.take off ++ (([] : List UInt8) ++ k.drop (off + ([] : List UInt8).length)))) H = H := by
        have : k.take off ++ (([] : List UInt8) ++ k.drop (off + ([] : List UInt8).length)) = k := by simp
        rw [this, ← hbk, hset_self]
      rw [e5]
      refine ⟨_, w, step ad cp _ w rfl hmin ?_, .refl hS, .int _ _⟩
      cases ad with
      | none => rfl
      | some ad => rfl
  | vals cs =>
    rw [hbk] at h
    simp only at h
    split at h
    case h_2 => cases h
    rename_i r hr
    simp only [Option.some.injEq, Prod.mk.injEq] at h
    obtain ⟨rfl, rfl, rfl⟩ := h
    have p1 := hc _ rfl
    have hmin : len = Nat.min l.length len := (Nat.min_eq_right p1).symm
    have hcb := copyBytesV_eq l len 0 (by omega)
    rw [List.drop_zero] at hcb
    rw [hcb] at hr
    obtain ⟨rfl, hle⟩ := putN_eq hr
    have htl : ((l.take len).map AVal.byte).length = len := by simp; omega
    rw [htl] at hle
    rw [app_set]
    by_cases h0 : 0 < len
    · obtain ⟨g, nn, e1, rfl, e3, e4⟩ := g5 (by clear g5; omega)
      clear g5
      have hlive : hget b H ≠ .dead := by rw [hbk]; simp
      obtain ⟨xs, e', fr, r1, r2, r3, r4, _⟩ := hS.cells hlive e1
      rw [hbk] at r4
      obtain ⟨ys, rest, rfl, hvl⟩ := r4
      have hyl := hvl.1
      have hsl : ((l.take len).map bcell).length = len := by simp; omega
      have hst := storeG P g off e' fr ((l.take len).map bcell) 0 _ w r1 r2 (by simp; omega) (one_bytes _)
      rw [Nat.add_zero] at hst
      have e5 : List.take off (ys ++ rest) ++ ((l.take len).map bcell ++ List.drop (off + ((l.take len).map bcell).length) (ys ++ rest)) = (ys.take off ++ ((l.take len).map bcell ++ ys.drop (off + len))) ++ rest := by
        rw [hsl, List.take_append_of_le_length (by omega), List.drop_append_of_le_length (by omega)]; simp
      rw [e5] at hst
      refine ⟨_, _, step _ cp _ _ rfl hmin hst, hS.put hlive e1 r1 (.vals _) (by rw [hbk]; simp [ABlk.len]; omega) (by simp; omega) (fun x hx => ?_) ⟨_, rest, rfl, (hvl.take off).append ((VL.of_bytes _).append (by rw [htl]; exact hvl.drop _))⟩, .int _ _⟩
      rcases List.mem_append.1 hx with hx | hx
      · rcases List.mem_append.1 hx with hx | hx
        · exact r3 x (List.mem_append_left _ (List.mem_of_mem_take hx))
        · rcases List.mem_append.1 hx with hx | hx
          · exact one_bytes _ x hx
          · exact r3 x (List.mem_append_left _ (List.mem_of_mem_drop hx))
      · exact r3 x (List.mem_append_right _ hx)
    · have hl0 : len = 0 := by clear g5; omega
      subst hl0
      have e5 : hset b (.vals (cs.take off ++ ((l.take 0).map AVal.byte ++ cs.drop (off + ((l.take 0).map AVal.byte).length)))) H = H := by
        have : cs.take off ++ ((l.take 0).map AVal.byte ++ cs.drop (off + ((l.take 0).map AVal.byte).length)) = cs := by simp
        rw [this, ← hbk, hset_self]
      rw [e5]
      refine ⟨_, w, step ad cp _ w rfl hmin ?_, .refl hS, .int _ _⟩
      cases ad with
      | none => rfl
      | some ad => rfl

/-! ### parts -/
theorem fold_set (off : Nat) : ∀ (vs : List Value) (k : Nat) (cells : List Value), off + k + vs.length ≤ cells.length →
    (vs.zipIdx k).foldl (fun (cs : Array Value) (p : Value × Nat) => cs.setIfInBounds (off + p.2) p.1) cells.toArray = (cells.take (off + k) ++ (vs ++ cells.drop (off + k + vs.length))).toArray
  | [], k, cells, _ => by simp
  | v :: vs, k, cells, h => by
    simp only [List.length_cons] at h
    rw [List.zipIdx_cons, List.foldl_cons]
    have e : (cells.toArray.setIfInBounds (off + k) v) = (cells.set (off + k) v).toArray := by simp
    rw [e, fold_set off vs (k + 1) (cells.set (off + k) v) (by simp; omega)]
    have := list_set cells (off + k) v vs (by omega)
    rw [← Nat.add_assoc, this]; simp
/-- 'fill', as lists -/
theorem fill_sound {place : Nat → Option (Nat × Nat)} : ∀ {parts : List (Nat × AVal)} {vps : List (Nat × Value)} {cs r : List AVal} {xs : List Value}, VL R w m H cs xs → (∀ x ∈ xs, x.oneCell' = true) →
    (parts.length = vps.length ∧ ∀ (i : Nat) p q, parts[i]? = some p → vps[i]? = some q → p.1 = q.1 ∧ VR R w m H p.2 q.2) → layParts place cs parts = some r →
    ∃ ys : List Value, Instr.fill place xs.toArray vps = some ys.toArray ∧ VL R w m H r ys ∧ (∀ y ∈ ys, y.oneCell' = true)
  | [], vps, cs, r, xs, hv, h1, hp, h => by
    have : vps = [] := List.eq_nil_of_length_eq_zero (by simpa using hp.1.symm)
    subst this
    simp [layParts] at h; subst h
    exact ⟨xs, by simp [Instr.fill], hv, h1⟩
  | (i, v) :: parts, vps, cs, r, xs, hv, h1, hp, h => by
    match vps, hp with
    | [], hp => simp at hp
    | (i', x) :: vps, hp =>
      obtain ⟨rfl, hvx⟩ := hp.2 0 (i, v) (i', x) rfl rfl
      simp only at hvx
      simp only [layParts] at h
      cases hpl : place i with
      | none => rw [hpl] at h; cases h
      | some on =>
        obtain ⟨off, n⟩ := on
        rw [hpl] at h
        simp only at h
        cases hck : (Nat.beq v.cells.length n && okCell v) with
        | false => rw [hck] at h; cases h
        | true =>
        rw [hck] at h
        simp only [cond_true] at h
        simp only [Bool.and_eq_true] at hck
        have hn := Nat.eq_of_beq_eq_true hck.1
        obtain ⟨c1, c2⟩ := hvx.cells hck.2
        have hl := hv.1
        have hcl : v.cells.length = x.cells.size := by have := c1.1; simpa using this
        split at h
        case h_2 => cases h
        rename_i cs' hput
        obtain ⟨rfl, hle⟩ := putN_eq hput
        have hfold := fold_set off x.cells.toList 0 xs (by simp; omega)
        have e1 : (xs.take (off + 0) ++ (x.cells.toList ++ xs.drop (off + 0 + x.cells.toList.length))) = xs.take off ++ (x.cells.toList ++ xs.drop (off + v.cells.length)) := by simp [hcl]
        rw [e1] at hfold
        obtain ⟨ys, f1, f2, f3⟩ := fill_sound (place := place) (vps := vps) (xs := xs.take off ++ (x.cells.toList ++ xs.drop (off + v.cells.length))) ((hv.take off).append (c1.append (hv.drop _))) (fun y hy => by
          rcases List.mem_append.1 hy with hy | hy
          · exact h1 y (List.mem_of_mem_take hy)
          · rcases List.mem_append.1 hy with hy | hy
            · exact c2 y hy
            · exact h1 y (List.mem_of_mem_drop hy)) ⟨by have := hp.1; simpa using this, fun j p q hpj hqj => hp.2 (j + 1) p q (by simpa using hpj) (by simpa using hqj)⟩ h
        refine ⟨ys, ?_, f2, f3⟩
        have hsz : ¬ x.cells.size ≠ n := by omega
        have hfit : ¬ (off + x.cells.size > xs.length) := by omega
        rw [← f1, ← hfold]
        simp only [Instr.fill, hpl]
        have hc1 : (decide (x.cells.size ≠ n) || decide (off + x.cells.size > xs.toArray.size)) = false := by simp; omega
        rw [if_neg (by simpa using hc1)]
        congr 1
        rw [← Array.foldl_toList]
        simp
end
end Go.Proofs.Ytnbbaemijogeoaa.Ae
namespace Go.Proofs.Ytnbbaemijogeoaa.Ae
open Go

def eqs : List AVal → List AVal → Option Bool
  | [], [] => some true
  | x :: r, y :: q => match cellEq x y, eqs r q with
    | some a, some b => some (a && b)
    | _, _ => none
  | _, _ => none
theorem cellsEq_cons (x y : AVal) (xs ys : List AVal) : cellsEq (x :: xs) (y :: ys) = match cellEq x y, cellsEq xs ys with
    | some a, some b => some (a && b)
    | _, _ => none := by
  cases xs <;> cases ys <;> simp only [cellsEq]
  · cases cellEq x y <;> simp
  · cases cellEq x y <;> rfl
  · cases cellEq x y <;> rfl
  · rename_i a b c d
    generalize cellsEq (a :: b) (c :: d) = z
    cases z <;> cases cellEq x y <;> rfl
theorem cellsEq_eqs : ∀ {xs ys : List AVal}, cellsEq xs ys = eqs xs ys
  | [], [] => by simp [cellsEq, eqs]
  | [], _ :: _ => by simp [cellsEq, eqs]
  | x :: xs, [] => by cases xs <;> simp [cellsEq, eqs]
  | x :: xs, y :: ys => by rw [cellsEq_cons, eqs, cellsEq_eqs (xs := xs) (ys := ys)]
theorem eqs_len : ∀ {xs ys : List AVal} {r : Bool}, eqs xs ys = some r → xs.length = ys.length
  | [], [], _, _ => rfl
  | [], _ :: _, _, h => by simp [eqs] at h
  | _ :: _, [], _, h => by simp [eqs] at h
  | x :: xs, y :: ys, r, h => by
    simp only [eqs] at h
    split at h
    · rename_i a b _ h2; simp [eqs_len h2]
    · cases h
theorem eqs_split : ∀ {xs ys us vs : List AVal} {r : Bool}, xs.length = ys.length → eqs (xs ++ us) (ys ++ vs) = some r → ∃ a b, eqs xs ys = some a ∧ eqs us vs = some b ∧ r = (a && b)
  | [], [], us, vs, r, _, h => ⟨true, r, rfl, h, by simp⟩
  | [], _ :: _, _, _, _, hl, _ => by simp at hl
  | _ :: _, [], _, _, _, hl, _ => by simp at hl
  | x :: xs, y :: ys, us, vs, r, hl, h => by
    simp only [List.cons_append, eqs] at h
    split at h
    · rename_i a b h1 h2
      obtain ⟨c, e, h3, h4, rfl⟩ := eqs_split (by simpa using hl) h2
      cases h
      exact ⟨a && c, e, by simp [eqs, h1, h3], h4, by simp [Bool.and_assoc]⟩
    · cases h

def valOf (k : Kind) (zs : List Value) : Value := match k, zs with
  | .agg, zs => .agg zs.toArray
  | .one, [z] => z
  | _, _ => undef

section
variable {P : Program} {R : Nat → Prop} {w : World} {m : Mp} {H : Hp}

theorem run_forIn_step {α : Type} (g : α → Option Bool × Unit → Sem (ForInStep (Option Bool × Unit))) (x : α) (l : List α) (b : Bool)
    (h : (g x (none, ())).run P w = .ok (if b = true then .yield (none, ()) else .done (some false, ())) w) :
    (forIn (x :: l) (none, ()) g).run P w = if b = true then (forIn l (none, ()) g).run P w else .ok (some false, ()) w := by
  rw [List.forIn_cons]
  simp only [Sem.run_bind, h]
  cases b <;> simp

theorem part_run {t : TypeId} {k : Kind} {o n : Nat} {xs : List Value} (hk : kindOf P t = some k) (hsz : sizeT P t = some n) (h1 : k = .one → n = 1) (hle : o + n ≤ xs.length) (w : World) :
    (part t xs.toArray o).run P w = .ok (valOf k ((xs.drop o).take n)) w := by
  cases k with
  | agg => simp [part, kindOf_run hk, sizeT_run hsz, List.extract_toArray, List.extract, valOf]
  | one =>
    obtain rfl := h1 rfl
    have : (xs.drop o).take 1 = [xs[o]] := by
      rw [List.drop_eq_getElem_cons (by omega)]; rfl
    rw [this]
    simp [part, kindOf_run hk, valOf, List.getElem?_eq_getElem (show o < xs.length by omega)]

theorem kindsOk_len : ∀ {ks : List Nat} {cs : List AVal}, kindsOk ks cs = true → ks.length = cs.length
  | [], [], _ => rfl
  | [], _ :: _, h => by simp [kindsOk] at h
  | k :: ks, [], h => by
    match k, h with
    | 0, h => simp [kindsOk] at h
    | 1, h => simp [kindsOk] at h
    | 2, h => simp [kindsOk] at h
    | k + 3, h => simp [kindsOk] at h
  | k :: ks, c :: cs, h => by
    have key : kindsOk ks cs = true := by
      match k, h with
      | 0, h => cases c <;> simp [kindsOk] at h <;> exact h
      | 1, h => cases c <;> simp [kindsOk] at h <;> exact h
      | 2, h => cases c <;> simp [kindsOk] at h <;> exact h
      | k + 3, h => simp [kindsOk] at h
    simp [kindsOk_len key]
theorem kindsOk_cons {k : Nat} {ks : List Nat} {c : AVal} {cs : List AVal} (h : kindsOk (k :: ks) (c :: cs) = true) : kindsOk [k] [c] = true ∧ kindsOk ks cs = true := by
  match k, h with
  | 0, h => cases c <;> simp [kindsOk] at h ⊢ <;> exact h
  | 1, h => cases c <;> simp [kindsOk] at h ⊢ <;> exact h
  | 2, h => cases c <;> simp [kindsOk] at h ⊢ <;> exact h
  | k + 3, h => simp [kindsOk] at h
theorem kindsOk_split : ∀ {ks ls : List Nat} {cs : List AVal}, kindsOk (ks ++ ls) cs = true → kindsOk ks (cs.take ks.length) = true ∧ kindsOk ls (cs.drop ks.length) = true
  | [], ls, cs, h => ⟨by simp [kindsOk], by simpa using h⟩
  | k :: ks, ls, [], h => by have := kindsOk_len h; simp at this
  | k :: ks, ls, c :: cs, h => by
    obtain ⟨h1, h2⟩ := kindsOk_cons (ks := ks ++ ls) (by simpa using h)
    obtain ⟨h3, h4⟩ := kindsOk_split h2
    refine ⟨?_, by simpa using h4⟩
    match k, h1 with
    | 0, h1 => cases c <;> simp [kindsOk] at h1 ⊢ <;> exact h3
    | 1, h1 => cases c <;> simp [kindsOk] at h1 ⊢ <;> exact h3
    | 2, h1 => cases c <;> simp [kindsOk] at h1 ⊢ <;> exact h3
    | k + 3, h1 => simp [kindsOk] at h1

theorem leaf_run {u v : AVal} {x y : Value} {b : Bool} (hx : VR R w m H u x) (hy : VR R w m H v y) (h : cellEq u v = some b) {t : TypeId} {k : Nat} (hu : kindsOk [k] [u] = true)
    (ht : (k = 0 ∧ P.underlying t = some .bool) ∨ (k = 1 ∧ ∃ kk, P.underlying t = some (.int kk)) ∨ (k = 2 ∧ P.underlying t = some .string)) (d : Nat) (w' : World) :
    (Op.equalIn (d + 1) t x y).run P w' = .ok b w' := by
  rcases ht with ⟨rfl, ht⟩ | ⟨rfl, kk, ht⟩ | ⟨rfl, ht⟩
  · cases hx <;> simp [kindsOk] at hu
    cases hy <;> simp [cellEq] at h
    subst h
    simp [Op.equalIn, run_underlying ht]
    rw [Bool.eq_iff_iff]; simp
  · cases hx <;> simp [kindsOk] at hu
    · cases hy <;> simp only [cellEq, reduceCtorEq] at h
      split at h
      · rename_i hk
        obtain rfl := kindEq_eq hk
        simp only [Option.some.injEq] at h; subst h
        simp [Op.equalIn, run_underlying ht]
        rfl
      · cases h
    · cases hy <;> simp only [cellEq, reduceCtorEq, Option.some.injEq] at h
      subst h
      simp [Op.equalIn, run_underlying ht]
      rw [Bool.eq_iff_iff]
      simp only [beq_iff_eq, decide_eq_true_eq]
      constructor
      · intro h; exact UInt8.toNat_inj.1 (by omega)
      · rintro rfl; rfl
  · cases hx <;> simp [kindsOk] at hu
    cases hy <;> simp only [cellEq, reduceCtorEq, Option.some.injEq] at h
    subst h
    simp [Op.equalIn, run_underlying ht]
    rename_i l hl l' hl'
    rw [Bool.eq_iff_iff, decide_eq_true_eq]
    constructor
    · intro h
      have h2 : (l.toArray == l'.toArray) = true := h
      simpa using h2
    · rintro rfl
      show (l.toArray == l.toArray) = true
      simp

/-- what is said of a type's equality at a depth -/
def EqOk (P : Program) (R : Nat → Prop) (w : World) (m : Mp) (H : Hp) (d : Nat) (t : TypeId) (ks : List Nat) : Prop :=
  ∃ k, kindOf P t = some k ∧ (k = .one → ks.length = 1) ∧ ∀ (j : Nat) (xs ys : List Value) (cs ds : List AVal) (r : Bool), VL R w m H cs xs → VL R w m H ds ys → kindsOk ks cs = true → kindsOk ks ds = true → eqs cs ds = some r →
    ∀ w', (Op.equalIn (d + j) t (valOf k xs) (valOf k ys)).run P w' = .ok r w'

theorem eqFields_tail {E : TypeId → Option (List Nat)} : ∀ {l : List Field} {acc K : List Nat}, eqFields P E l acc = some K → ∃ q, K = acc ++ q
  | [], acc, K, h => by simp [eqFields] at h; exact ⟨[], by simp [h]⟩
  | f :: l, acc, K, h => by
    simp only [eqFields] at h
    split at h
    · rename_i ks n _ _
      cases hck : (Nat.beq ks.length n && Nat.beq f.offset acc.length && f.name != "_") with
      | false => rw [hck] at h; cases h
      | true =>
        rw [hck] at h
        obtain ⟨q, rfl⟩ := eqFields_tail (by simpa using h)
        exact ⟨ks ++ q, by simp⟩
    · cases h

theorem kind_fields {d j : Nat} {E : TypeId → Option (List Nat)} (hE : ∀ t ks, E t = some ks → EqOk P R w m H d t ks) {xs ys : List Value} {cs ds : List AVal} (hx : VL R w m H cs xs) (hy : VL R w m H ds ys) (w' : World) :
    ∀ {l : List Field} {acc K : List Nat} {r : Bool}, eqFields P E l acc = some K → kindsOk K cs = true → kindsOk K ds = true → eqs (cs.drop acc.length) (ds.drop acc.length) = some r →
      (forIn l (none, ()) fun (f : Field) (_ : Option Bool × Unit) => (if f.name = "_" then pure (ForInStep.yield (none, ()))
            else do
              let u ← part f.type xs.toArray f.offset
              let v ← part f.type ys.toArray f.offset
              let b ← Op.equalIn (d + j) f.type u v
              if b = false then pure (ForInStep.done (some false, ())) else pure (ForInStep.yield (none, ())) : Sem (ForInStep (Option Bool × Unit)))).run P w' = .ok (if r = true then (none, ()) else (some false, ())) w'
  | [], acc, K, r, h, hc, hd, hr => by
    simp [eqFields] at h; subst h
    have e1 := kindsOk_len hc
    have e2 := kindsOk_len hd
    rw [List.drop_of_length_le (by omega), List.drop_of_length_le (by omega)] at hr
    simp [eqs] at hr; subst hr
    simp
  | f :: l, acc, K, r, h, hc, hd, hr => by
    simp only [eqFields] at h
    split at h
    case h_2 => cases h
    rename_i ks n hks hsz
    cases hck : (Nat.beq ks.length n && Nat.beq f.offset acc.length && f.name != "_") with
    | false => rw [hck] at h; cases h
    | true =>
    rw [hck] at h
    simp only [cond_true] at h
    simp only [Bool.and_eq_true] at hck
    obtain rfl := Nat.eq_of_beq_eq_true hck.1.1
    have hoff := Nat.eq_of_beq_eq_true hck.1.2
    have hname : ¬ f.name = "_" := by simpa using hck.2
    obtain ⟨q, rfl⟩ := eqFields_tail h
    have e1 := kindsOk_len hc
    have e2 := kindsOk_len hd
    simp only [List.length_append] at e1 e2
    obtain ⟨k, hk, hk1, hrun⟩ := hE _ _ hks
    -- the field's own cells
    obtain ⟨c1, c2⟩ := kindsOk_split (ks := acc) (ls := ks ++ q) (by simpa using hc)
    obtain ⟨d1, d2⟩ := kindsOk_split (ks := acc) (ls := ks ++ q) (by simpa using hd)
    obtain ⟨c3, c4⟩ := kindsOk_split c2
    obtain ⟨d3, d4⟩ := kindsOk_split d2
    have hs := eqs_split (xs := (cs.drop acc.length).take ks.length) (ys := (ds.drop acc.length).take ks.length) (us := (cs.drop acc.length).drop ks.length) (vs := (ds.drop acc.length).drop ks.length) (by simp; omega) (by rw [List.take_append_drop, List.take_append_drop]; exact hr)
    obtain ⟨b, b', hb, hb', rfl⟩ := hs
    have hxl := hx.1
    have hyl := hy.1
    have p1 := part_run (P := P) (o := f.offset) (xs := xs) hk hsz (fun e => hk1 e) (by omega) w'
    have p2 := part_run (P := P) (o := f.offset) (xs := ys) hk hsz (fun e => hk1 e) (by omega) w'
    have hq := hrun j _ _ _ _ b ((hx.drop acc.length).take ks.length) ((hy.drop acc.length).take ks.length) c3 d3 hb w'
    rw [← hoff] at hq
    have ih := kind_fields (j := j) hE hx hy w' (l := l) (acc := acc ++ ks) (r := b') h hc hd (by simpa [List.drop_drop] using hb')
    rw [run_forIn_step _ f l b (by
      rw [if_neg hname]
      simp only [Sem.run_bind, p1, p2, hq, Result.andThen_ok]
      cases b <;> simp), ih]
    cases b <;> simp

theorem kind_array {d j sz : Nat} {e : TypeId} {ks : List Nat} {k : Kind} (hk : kindOf P e = some k) (hk1 : k = .one → ks.length = 1) (hsz : sizeT P e = some ks.length)
    (hrun : ∀ (j : Nat) (xs ys : List Value) (cs ds : List AVal) (r : Bool), VL R w m H cs xs → VL R w m H ds ys → kindsOk ks cs = true → kindsOk ks ds = true → eqs cs ds = some r → ∀ w', (Op.equalIn (d + j) e (valOf k xs) (valOf k ys)).run P w' = .ok r w')
    {xs ys : List Value} {cs ds : List AVal} (hx : VL R w m H cs xs) (hy : VL R w m H ds ys) (w' : World) :
    ∀ (n i : Nat) (r : Bool), kindsOk (repN n ks) (cs.drop (i * ks.length)) = true → kindsOk (repN n ks) (ds.drop (i * ks.length)) = true → i * ks.length ≤ cs.length → i * ks.length ≤ ds.length → eqs (cs.drop (i * ks.length)) (ds.drop (i * ks.length)) = some r →
      (forIn (List.range' i n) (none, ()) fun (i : Nat) (_ : Option Bool × Unit) => (do
            let u ← part e xs.toArray (i * ks.length)
            let v ← part e ys.toArray (i * ks.length)
            let b ← Op.equalIn (d + j) e u v
            if b = false then pure (ForInStep.done (some false, ())) else pure (ForInStep.yield (none, ())) : Sem (ForInStep (Option Bool × Unit)))).run P w' = .ok (if r = true then (none, ()) else (some false, ())) w'
  | 0, i, r, hc, hd, _, _, hr => by
    have e1 := kindsOk_len hc
    have e2 := kindsOk_len hd
    rw [List.eq_nil_of_length_eq_zero (l := cs.drop _) (by simpa [repN] using e1.symm), List.eq_nil_of_length_eq_zero (l := ds.drop _) (by simpa [repN] using e2.symm)] at hr
    simp [eqs] at hr; subst hr
    simp
  | n + 1, i, r, hc, hd, hl1, hl2, hr => by
    simp only [repN] at hc hd
    have e1 := kindsOk_len hc
    have e2 := kindsOk_len hd
    simp only [List.length_append, List.length_drop] at e1 e2
    obtain ⟨c3, c4⟩ := kindsOk_split hc
    obtain ⟨d3, d4⟩ := kindsOk_split hd
    have hs := eqs_split (xs := (cs.drop (i * ks.length)).take ks.length) (ys := (ds.drop (i * ks.length)).take ks.length) (us := (cs.drop (i * ks.length)).drop ks.length) (vs := (ds.drop (i * ks.length)).drop ks.length) (by simp; omega) (by rw [List.take_append_drop, List.take_append_drop]; exact hr)
    obtain ⟨b, b', hb, hb', rfl⟩ := hs
    have hxl := hx.1
    have hyl := hy.1
    have p1 := part_run (P := P) (o := i * ks.length) (xs := xs) hk hsz (fun e => hk1 e) (by omega) w'
    have p2 := part_run (P := P) (o := i * ks.length) (xs := ys) hk hsz (fun e => hk1 e) (by omega) w'
    have hq := hrun j _ _ _ _ b ((hx.drop (i * ks.length)).take ks.length) ((hy.drop (i * ks.length)).take ks.length) c3 d3 hb w'
    have hi : (i + 1) * ks.length = i * ks.length + ks.length := by rw [Nat.add_mul, Nat.one_mul]
    have ih := kind_array (j := j) (sz := sz) hk hk1 hsz hrun hx hy w' n (i + 1) b' (by rw [hi, ← List.drop_drop]; exact c4) (by rw [hi, ← List.drop_drop]; exact d4) (by omega) (by omega) (by rw [hi, ← List.drop_drop, ← List.drop_drop]; exact hb')
    rw [List.range'_succ, run_forIn_step _ i _ b (by
      simp only [Sem.run_bind, p1, p2, hq, Result.andThen_ok]
      cases b <;> simp), ih]
    cases b <;> simp

theorem eqN_sound : ∀ (d : Nat) (t : TypeId) (ks : List Nat), eqN P d t = some ks → EqOk P R w m H d t ks
  | 0, t, ks, h => by simp [eqN] at h
  | d + 1, t, ks, h => by
    have hd : ∀ j, d + 1 + j = (d + j) + 1 := fun j => by omega
    simp only [eqN] at h
    have leaf : ∀ (k : Nat), ks = [k] → kindOf P t = some .one → ((k = 0 ∧ P.underlying t = some .bool) ∨ (k = 1 ∧ ∃ kk, P.underlying t = some (.int kk)) ∨ (k = 2 ∧ P.underlying t = some .string)) → EqOk P R w m H (d + 1) t ks := by
      intro k hks hk ht
      subst hks
      refine ⟨.one, hk, fun _ => rfl, fun j xs ys cs ds r hx hy hc hd' hr w' => ?_⟩
      match cs, hc with
      | [c], hc =>
        match ds, hd' with
        | [e], hd' =>
          obtain ⟨x, q, rfl, hx1, hx2⟩ := hx.cons_inv
          obtain ⟨y, q', rfl, hy1, hy2⟩ := hy.cons_inv
          obtain rfl := hx2.nil_inv
          obtain rfl := hy2.nil_inv
          have hr' : cellEq c e = some r := by rw [← cellsEq_eqs] at hr; simpa [cellsEq] using hr
          rw [hd]
          exact leaf_run hx1 hy1 hr' hc ht _ w'
        | [], hd' => have := kindsOk_len hd'; simp at this
        | _ :: _ :: _, hd' => have := kindsOk_len hd'; simp at this
      | [], hc => have := kindsOk_len hc; simp at this
      | _ :: _ :: _, hc => have := kindsOk_len hc; simp at this
    split at h
    · rename_i hu; cases h; exact leaf 0 rfl (by simp [kindOf, hu]) (.inl ⟨rfl, hu⟩)
    · rename_i kk hu; cases h; exact leaf 1 rfl (by simp [kindOf, hu]) (.inr (.inl ⟨rfl, kk, hu⟩))
    · rename_i hu; cases h; exact leaf 2 rfl (by simp [kindOf, hu]) (.inr (.inr ⟨rfl, hu⟩))
    · rename_i fs hu
      cases hst : P.stoodInHeld t with
      | true => rw [hst] at h; cases h
      | false =>
      rw [hst] at h
      simp only [Bool.not_false, cond_true] at h
      refine ⟨.agg, by simp [kindOf, hu], (fun e => by cases e), fun j xs ys cs ds r hx hy hc hd' hr w' => ?_⟩
      have hf := kind_fields (P := P) (d := d) (j := j) (fun t ks h => eqN_sound d t ks h) hx hy w' (l := fs.toList) (acc := []) (r := r) h hc hd' (by simpa using hr)
      rw [hd]
      simp only [valOf, Op.equalIn, Sem.run_bind, run_underlying hu, Result.andThen_ok, run_program, hst]
      simp only [Bool.false_eq_true, if_false, ← Array.forIn_toList]
      simp at hf ⊢
      rw [hf]
      cases r <;> simp
    · rename_i n e hu
      split at h
      · rename_i ks' k' hks hsz
        cases hck : Nat.beq ks'.length k' with
        | false => rw [hck] at h; cases h
        | true =>
        rw [hck] at h
        simp only [cond_true, Option.some.injEq] at h
        subst h
        obtain rfl := Nat.eq_of_beq_eq_true hck
        obtain ⟨k, hk, hk1, hrun⟩ := eqN_sound d e ks' hks
        refine ⟨.agg, by simp [kindOf, hu], (fun e => by cases e), fun j xs ys cs ds r hx hy hc hd' hr w' => ?_⟩
        have hf := kind_array (P := P) (sz := 0) (j := j) hk hk1 hsz hrun hx hy w' n 0 r (by simpa using hc) (by simpa using hd') (by simp) (by simp) (by simpa using hr)
        rw [hd]
        simp only [valOf, Op.equalIn, Sem.run_bind, run_underlying hu, Result.andThen_ok, sizeT_run hsz]
        simp at hf ⊢
        rw [hf]
        cases r <;> simp
      · cases h
    · cases h
end
end Go.Proofs.Ytnbbaemijogeoaa.Ae

namespace Go.Proofs.Ytnbbaemijogeoaa.Ae
open Go
theorem pw_eq (n : Nat) : pw n = 2 ^ n := by
  unfold pw
  split <;> first | rfl | (decide)
theorem xor_u8 (x y : UInt8) : bits .xor .u8 (x.toNat : Int) (y.toNat : Int) = ((x ^^^ y).toNat : Int) := by
  rw [u8_xor_nat _ _ x.toNat_lt y.toNat_lt, UInt8.toNat_xor]
theorem and_u8 (x y : UInt8) : bits .and .u8 (x.toNat : Int) (y.toNat : Int) = ((x &&& y).toNat : Int) := by
  rw [u8_and_nat _ _ x.toNat_lt y.toNat_lt, UInt8.toNat_and]
theorem or_u8 (x y : UInt8) : bits .or .u8 (x.toNat : Int) (y.toNat : Int) = ((x ||| y).toNat : Int) := by
  rw [u8_or_nat _ _ x.toNat_lt y.toNat_lt, UInt8.toNat_or]
theorem not_u8 (y : UInt8) : (~~~y).toNat = 255 - y.toNat := by
  rw [UInt8.toNat_not]; rfl
theorem andNot_u8 (x y : UInt8) : bits .andNot .u8 (x.toNat : Int) (y.toNat : Int) = ((x &&& ~~~y).toNat : Int) := by
  rw [u8_andNot_nat _ _ x.toNat_lt y.toNat_lt, UInt8.toNat_and, not_u8]
section
variable {P : Program} {R : Nat → Prop} {w : World} {m : Mp} {H : Hp}

theorem ret_byte {x : UInt8} {n : Int} (h : n = (x.toNat : Int)) : VR R w m H (.byte x) (.int .u8 n) := by rw [h]; exact .byte x

theorem arithF_sound {op : BinOp} {k : IntKind} {x y : Int} {c : Option Prop} {q : AVal} (h : arithF op k x y = some (c, q)) (hc : ∀ p, c = some p → p) (t : TypeId) (w' : World) :
    ∃ z, (binOp op t (.int k x) (.int k y)).run P w' = .ok z w' ∧ VR R w m H q z := by
  cases op <;> simp only [arithF, reduceCtorEq] at h
  case add =>
    split at h
    · rename_i h64; obtain rfl := is64_eq h64
      simp only [Option.some.injEq, Prod.mk.injEq] at h; obtain ⟨rfl, rfl⟩ := h
      exact ⟨_, by simp [binOp, Op.intArith, wrap_I64 (hc _ rfl)] <;> rfl, .int _ _⟩
    · simp only [Option.some.injEq, Prod.mk.injEq] at h; obtain ⟨rfl, rfl⟩ := h
      exact ⟨_, by simp [binOp, Op.intArith] <;> rfl, .int _ _⟩
  case sub =>
    split at h
    · rename_i h64; obtain rfl := is64_eq h64
      simp only [Option.some.injEq, Prod.mk.injEq] at h; obtain ⟨rfl, rfl⟩ := h
      exact ⟨_, by simp [binOp, Op.intArith, wrap_I64 (hc _ rfl)] <;> rfl, .int _ _⟩
    · simp only [Option.some.injEq, Prod.mk.injEq] at h; obtain ⟨rfl, rfl⟩ := h
      exact ⟨_, by simp [binOp, Op.intArith] <;> rfl, .int _ _⟩
  case mul =>
    split at h
    · rename_i h64; obtain rfl := is64_eq h64
      simp only [Option.some.injEq, Prod.mk.injEq] at h; obtain ⟨rfl, rfl⟩ := h
      exact ⟨_, by simp [binOp, Op.intArith, wrap_I64 (hc _ rfl)] <;> rfl, .int _ _⟩
    · simp only [Option.some.injEq, Prod.mk.injEq] at h; obtain ⟨rfl, rfl⟩ := h
      exact ⟨_, by simp [binOp, Op.intArith] <;> rfl, .int _ _⟩
  case quo =>
    split at h
    · rename_i h64; obtain rfl := is64_eq h64
      simp only [Option.some.injEq, Prod.mk.injEq] at h; obtain ⟨rfl, rfl⟩ := h
      obtain ⟨p1, p2⟩ := hc _ rfl
      exact ⟨_, by simp [binOp, Op.intDiv, p1, wrap_I64 p2] <;> rfl, .int _ _⟩
    · simp only [Option.some.injEq, Prod.mk.injEq] at h; obtain ⟨rfl, rfl⟩ := h
      exact ⟨_, by simp [binOp, Op.intDiv, hc _ rfl] <;> rfl, .int _ _⟩
  case rem =>
    simp only [Option.some.injEq, Prod.mk.injEq] at h; obtain ⟨rfl, rfl⟩ := h
    exact ⟨_, by simp [binOp, Op.intDiv, hc _ rfl] <;> rfl, .int _ _⟩
  all_goals
    simp only [Option.some.injEq, Prod.mk.injEq] at h; obtain ⟨rfl, rfl⟩ := h
    exact ⟨_, by simp [binOp, intBits_and, intBits_or, intBits_xor, intBits_andNot] <;> rfl, .int _ _⟩
theorem cmpF_sound {op : BinOp} {k : IntKind} {x y : Int} {r : Bool} (h : cmpF op x y = some r) (t : TypeId) (w' : World) : (binOp op t (.int k x) (.int k y)).run P w' = .ok (.bool r) w' := by
  cases op <;> simp only [cmpF, Option.some.injEq, reduceCtorEq] at h <;> subst h <;> simp [binOp, Op.intCmp] <;> first | rfl | (rw [Bool.eq_iff_iff]; simp)
theorem byteF_sound {op : BinOp} {x y : UInt8} {c : Option Prop} {q : AVal} (hs : isShift op = false) (h : byteF op x y = some (c, q)) (hc : ∀ p, c = some p → p) (t : TypeId) (w' : World) :
    ∃ z, (binOp op t (.int .u8 (x.toNat : Int)) (.int .u8 (y.toNat : Int))).run P w' = .ok z w' ∧ VR R w m H q z := by
  have hx := x.toNat_lt
  have hy := y.toNat_lt
  cases op <;> simp only [byteF, reduceCtorEq, Option.some.injEq, Prod.mk.injEq] at h
  all_goals (obtain ⟨rfl, rfl⟩ := h)
  case add =>
    exact ⟨_, by simp [binOp, Op.intArith] <;> rfl, ret_byte (by rw [IntKind.wrap_u8', UInt8.toNat_add]; omega)⟩
  case sub =>
    exact ⟨_, by simp [binOp, Op.intArith] <;> rfl, ret_byte (by rw [IntKind.wrap_u8', UInt8.toNat_sub]; omega)⟩
  case mul =>
    exact ⟨_, by simp [binOp, Op.intArith] <;> rfl, ret_byte (by rw [IntKind.wrap_u8', UInt8.toNat_mul]; simp [Int.natCast_mul])⟩
  case quo =>
    have p := hc _ rfl
    refine ⟨_, by simp [binOp, Op.intDiv, p] <;> rfl, ret_byte ?_⟩
    have : x.toNat / y.toNat ≤ x.toNat := Nat.div_le_self _ _
    rw [IntKind.wrap_u8', UInt8.toNat_ofNat', ← Int.natCast_ediv]
    omega
  case rem =>
    have p := hc _ rfl
    refine ⟨_, by simp [binOp, Op.intDiv, p] <;> rfl, ret_byte ?_⟩
    have : x.toNat % y.toNat < y.toNat := Nat.mod_lt _ (by omega)
    rw [UInt8.toNat_ofNat', Int.tmod_eq_emod_of_nonneg (by omega), ← Int.natCast_emod]
    omega
  case and => exact ⟨_, by simp [binOp, intBits_and] <;> rfl, ret_byte (and_u8 x y)⟩
  case or => exact ⟨_, by simp [binOp, intBits_or] <;> rfl, ret_byte (or_u8 x y)⟩
  case xor => exact ⟨_, by simp [binOp, intBits_xor] <;> rfl, ret_byte (xor_u8 x y)⟩
  case andNot => exact ⟨_, by simp [binOp, intBits_andNot] <;> rfl, ret_byte (andNot_u8 x y)⟩
  case eql =>
    refine ⟨_, by simp [binOp, Op.intCmp] <;> rfl, ?_⟩
    have : ((x.toNat : Int) == (y.toNat : Int)) = decide (x = y) := by
      rw [Bool.eq_iff_iff]; simp only [beq_iff_eq, decide_eq_true_eq]
      exact ⟨fun h => UInt8.toNat_inj.1 (by omega), fun h => by rw [h]⟩
    rw [this]; exact .bool _
  case neq =>
    refine ⟨_, by simp [binOp, Op.intCmp] <;> rfl, ?_⟩
    have : ((x.toNat : Int) != (y.toNat : Int)) = !decide (x = y) := by
      rw [Bool.eq_iff_iff]; simp only [bne_iff_ne, Bool.not_eq_true', decide_eq_false_iff_not]
      exact ⟨fun h e => h (by rw [e]), fun h e => h (UInt8.toNat_inj.1 (by omega))⟩
    rw [this]; exact .bool _
  all_goals
    refine ⟨_, by simp [binOp, Op.intCmp] <;> rfl, ?_⟩
    first
      | exact .bool _
      | (rw [show (decide ((x.toNat : Int) < (y.toNat : Int))) = decide (x.toNat < y.toNat) by rw [Bool.eq_iff_iff]; simp]; exact .bool _)
      | (rw [show (decide ((x.toNat : Int) ≤ (y.toNat : Int))) = decide (x.toNat ≤ y.toNat) by rw [Bool.eq_iff_iff]; simp]; exact .bool _)
      | (rw [show (decide ((y.toNat : Int) < (x.toNat : Int))) = decide (y.toNat < x.toNat) by rw [Bool.eq_iff_iff]; simp]; exact .bool _)
      | (rw [show (decide ((y.toNat : Int) ≤ (x.toNat : Int))) = decide (y.toNat ≤ x.toNat) by rw [Bool.eq_iff_iff]; simp]; exact .bool _)
      | skip

theorem shiftF_sound {op : BinOp} {k k' : IntKind} {x n : Int} {c : Option Prop} {q : AVal} (h : shiftF op k x n = some (c, q)) (hc : ∀ p, c = some p → p) (t : TypeId) (w' : World) :
    ∃ z, (binOp op t (.int k x) (.int k' n)).run P w' = .ok z w' ∧ VR R w m H q z := by
  cases op <;> simp only [shiftF, reduceCtorEq] at h
  case shl =>
    split at h
    · rename_i h64; obtain rfl := is64_eq h64
      simp only [Option.some.injEq, Prod.mk.injEq] at h; obtain ⟨rfl, rfl⟩ := h
      obtain ⟨p1, p2, p3⟩ := hc _ rfl
      rw [pw_eq] at p3 ⊢
      refine ⟨_, ?_, .int _ _⟩
      show (Op.shift .shl _ _ k' _).run P w' = _
      rw [shift_shl _ _ _ _ p1 (by simp [IntKind.bits]; omega), wrap_I64 p3]; rfl
    · simp only [Option.some.injEq, Prod.mk.injEq] at h; obtain ⟨rfl, rfl⟩ := h
      obtain ⟨p1, p2⟩ := hc _ rfl
      rw [pw_eq]
      refine ⟨_, ?_, .int _ _⟩
      show (Op.shift .shl _ _ k' _).run P w' = _
      rw [shift_shl _ _ _ _ p1 (by omega)]; rfl
  case shr =>
    simp only [Option.some.injEq, Prod.mk.injEq] at h; obtain ⟨rfl, rfl⟩ := h
    obtain ⟨p1, p2⟩ := hc _ rfl
    rw [pw_eq]
    refine ⟨_, ?_, .int _ _⟩
    show (Op.shift .shr _ _ k' _).run P w' = _
    rw [shift_shr _ _ _ _ p1 (by omega)]; rfl
theorem shiftB_sound {op : BinOp} {k' : IntKind} {x : UInt8} {n : Int} {c : Option Prop} {q : AVal} (h : shiftB op x n = some (c, q)) (hc : ∀ p, c = some p → p) (t : TypeId) (w' : World) :
    ∃ z, (binOp op t (.int .u8 (x.toNat : Int)) (.int k' n)).run P w' = .ok z w' ∧ VR R w m H q z := by
  cases op <;> simp only [shiftB, reduceCtorEq, Option.some.injEq, Prod.mk.injEq] at h
  case shl =>
    obtain ⟨rfl, rfl⟩ := h
    obtain ⟨p1, p2⟩ := hc _ rfl
    refine ⟨_, ?_, ret_byte (b8_wrap _).symm⟩
    show (Op.shift .shl _ _ k' _).run P w' = _
    rw [shift_shl _ _ _ _ p1 (by simp [IntKind.bits]; omega), pw_eq]; rfl
  case shr =>
    obtain ⟨rfl, rfl⟩ := h
    obtain ⟨p1, p2⟩ := hc _ rfl
    refine ⟨_, ?_, ret_byte (n := (x.toNat : Int) / 2 ^ n.toNat) ?_⟩
    · show (Op.shift .shr _ _ k' _).run P w' = _
      rw [shift_shr _ _ _ _ p1 (by simp [IntKind.bits]; omega)]; rfl
    · rw [b8_wrap, IntKind.wrap_u8', pw_eq]
      have hx := x.toNat_lt
      have h1 : (0 : Int) ≤ (x.toNat : Int) / 2 ^ n.toNat := Int.ediv_nonneg (by omega) (Int.pow_nonneg (by decide))
      have h2 : (x.toNat : Int) / 2 ^ n.toNat ≤ (x.toNat : Int) := Int.ediv_le_self _ (by omega)
      omega
theorem strF_sound {op : BinOp} {x y : List UInt8} {c : Option Prop} {q : AVal} (h : strF op x y = some (c, q)) (hc : ∀ p, c = some p → p) (t : TypeId) (w' : World) :
    ∃ z, (binOp op t (.string ⟨x.toArray⟩) (.string ⟨y.toArray⟩)).run P w' = .ok z w' ∧ VR R w m H q z := by
  have e1 : (⟨x.toArray⟩ : ByteArray).toList = x := by rw [ByteArray.toList_eq]
  have e2 : (⟨y.toArray⟩ : ByteArray).toList = y := by rw [ByteArray.toList_eq]
  have s1 : (⟨x.toArray⟩ : ByteArray).size = x.length := by show x.toArray.size = _; simp
  have s2 : (⟨y.toArray⟩ : ByteArray).size = y.length := by show y.toArray.size = _; simp
  have d : (x == y) = decide (x = y) := by rw [Bool.eq_iff_iff]; simp
  cases op <;> simp only [strF, reduceCtorEq, Option.some.injEq, Prod.mk.injEq] at h
  case add =>
    obtain ⟨rfl, rfl⟩ := h
    have p := hc _ rfl
    refine ⟨.string ⟨(x ++ y).toArray⟩, ?_, .str _ (by simp; exact p)⟩
    have : ¬ ((9223372036854775807 : Int) < (x.length : Int) + (y.length : Int)) := by unfold big at p; omega
    have e3 : (⟨x.toArray⟩ : ByteArray) ++ ⟨y.toArray⟩ = ⟨(x ++ y).toArray⟩ := by
      apply ByteArray.ext; rw [ByteArray.data_append]; simp
    simp [binOp, Op.stringOp, s1, s2, IntKind.max, IntKind.signed, IntKind.bits, this]
    rw [e3]
  all_goals
    obtain ⟨rfl, rfl⟩ := h
    refine ⟨_, by simp [binOp, Op.stringOp, e1, e2] <;> rfl, ?_⟩
    first | exact .bool _ | (rw [d]; exact .bool _) | (simp only [d]; exact .bool _) | (simp only [d, ← Bool.not_or]; exact .bool _)

theorem guard_off {D : Nat} : ∀ (d : Nat) (t : TypeId) (ks : List Nat), d ≤ D → eqN P d t = some ks → P.eqGuardType D t = false := by
  induction D with
  | zero => intro d t ks hd h; obtain rfl : d = 0 := by omega
            simp [eqN] at h
  | succ D ih =>
    intro d t ks hd h
    cases d with
    | zero => simp [eqN] at h
    | succ d =>
      simp only [eqN] at h
      split at h
      · rename_i hu; simp [Program.eqGuardType, hu]
      · rename_i hu; simp [Program.eqGuardType, hu]
      · rename_i hu; simp [Program.eqGuardType, hu]
      · rename_i fs hu
        cases hst : P.stoodInHeld t with
        | true => rw [hst] at h; cases h
        | false =>
        rw [hst] at h
        simp only [Bool.not_false, cond_true] at h
        have key : ∀ (l : List Field) (acc K : List Nat), eqFields P (eqN P d) l acc = some K → ∀ f ∈ l, P.eqGuardType D f.type = false := by
          intro l
          induction l with
          | nil => intro acc K _ f hf; simp at hf
          | cons g l ihl =>
            intro acc K hK f hf
            simp only [eqFields] at hK
            split at hK
            case h_2 => cases hK
            rename_i ks' n hks hsz
            cases hck : (Nat.beq ks'.length n && Nat.beq g.offset acc.length && g.name != "_") with
            | false => rw [hck] at hK; cases hK
            | true =>
            rw [hck] at hK
            rcases List.mem_cons.1 hf with rfl | hf
            · exact ih d _ ks' (by omega) hks
            · exact ihl _ _ (by simpa using hK) f hf
        have := key _ _ _ h
        simp only [Program.eqGuardType, hu]
        rw [← Array.any_toList]
        rw [List.any_eq_false]
        intro f hf
        simp [this f hf]
      · rename_i n e hu
        split at h
        · rename_i ks' k' hks hsz
          simp only [Program.eqGuardType, hu]
          exact ih d e ks' (by omega) hks
        · cases h
      · cases h

theorem eqF_sound {t : TypeId} {x y : AVal} {u v : Value} {r : Bool} (hx : VR R w m H x u) (hy : VR R w m H y v) (h : eqF P t x y = some r) (xo yo : Operand) (w' : World) :
    (Op.equal t u v).run P w' = .ok r w' ∧ (eqGuard .eql t xo yo u v).run P w' = .ok () w' ∧ (eqGuard .neq t xo yo u v).run P w' = .ok () w' := by
  cases hx <;> cases hy <;> simp only [eqF, reduceCtorEq] at h
  case agg.agg =>
    rename_i cs xs g1 g2 g3 ds ys k1 k2 k3
    split at h
    case h_2 => cases h
    rename_i ks hks hkind
    cases hck : (kindsOk ks cs && kindsOk ks ds && Nat.ble 6 P.depth) with
    | false => rw [hck] at h; cases h
    | true =>
    rw [hck] at h
    simp only [cond_true] at h
    simp only [Bool.and_eq_true] at hck
    rw [cellsEq_eqs] at h
    obtain ⟨k, hk, hk1, hrun⟩ := eqN_sound (P := P) (R := R) (w := w) (m := m) (H := H) 6 t ks hks
    have hgd := guard_off (P := P) (D := P.depth) 6 t ks (Nat.le_of_ble_eq_true hck.2) hks
    have hkk : valOf k xs = .agg xs.toArray ∧ valOf k ys = .agg ys.toArray := by
      cases k with
      | agg => exact ⟨rfl, rfl⟩
      | one => rw [hkind] at hk; cases hk
    have := hrun 9994 xs ys cs ds r ⟨g1, by assumption⟩ ⟨k1, by assumption⟩ hck.1.1 hck.1.2 h w'
    rw [hkk.1, hkk.2] at this
    refine ⟨this, ?_, ?_⟩ <;> simp [eqGuard, hgd]
  all_goals
    split at h
    case h_2 => cases h
    simp only [Option.some.injEq] at h
    subst h
    rename_i hu
    refine ⟨?_, by simp [eqGuard], by simp [eqGuard]⟩
    unfold Op.equal
    rw [show Op.maxDepth = 9999 + 1 from rfl]
    generalize 9999 = dd
    first
      | (simp [Op.equalIn, run_underlying hu]; done)
      | (simp [Op.equalIn, run_underlying hu]; rw [Bool.eq_iff_iff]; simp)
end
end Go.Proofs.Ytnbbaemijogeoaa.Ae

namespace Go.Proofs.Ytnbbaemijogeoaa.Ae
open Go
section
variable {P : Program} {R : Nat → Prop} {w : World} {m : Mp} {H : Hp} {env : Env} {a : Act}

theorem binF_sound {op : BinOp} {t : TypeId} {x y : AVal} {u v : Value} {c : Option Prop} {q : AVal} (hx : VR R w m H x u) (hy : VR R w m H y v) (h : binF P op t x y = some (c, q)) (hc : ∀ p, c = some p → p) (xo yo : Operand) :
    ∃ z, (do eqGuard op t xo yo u v; binOp op t u v).run P w = .ok z w ∧ VR R w m H q z := by
  have plainG : (∀ cs ds, ¬ (u = .agg cs ∧ v = .agg ds)) → ¬ (u = .nilIface ∧ v = .nilIface) → (eqGuard op t xo yo u v).run P w = .ok () w := by
    intro h1 h2
    unfold eqGuard
    cases op <;> simp <;> (cases u <;> cases v <;> first | rfl | exact absurd ⟨rfl, rfl⟩ (h1 _ _) | exact absurd ⟨rfl, rfl⟩ h2)
  have fin : ∀ {z : Value}, (eqGuard op t xo yo u v).run P w = .ok () w → (binOp op t u v).run P w = .ok z w → VR R w m H q z → ∃ z, (do eqGuard op t xo yo u v; binOp op t u v).run P w = .ok z w ∧ VR R w m H q z := by
    intro z h1 h2 h3
    exact ⟨z, by simp only [Sem.run_bind, h1, Result.andThen_ok, h2], h3⟩
  unfold binF at h
  split at h
  · rename_i k n k' n'
    cases hx with
    | int =>
    cases hy with
    | int =>
    have g := plainG (by simp) (by simp)
    split at h
    · obtain ⟨z, h1, h2⟩ := shiftF_sound (P := P) (R := R) (w := w) (m := m) (H := H) (k' := k') h hc t w
      exact fin g h1 h2
    · split at h
      · rename_i hk
        obtain rfl := kindEq_eq hk
        split at h
        · rename_i r hr
          simp only [Option.some.injEq, Prod.mk.injEq] at h
          obtain ⟨rfl, rfl⟩ := h
          exact fin g (cmpF_sound hr t w) (.bool _)
        · obtain ⟨z, h1, h2⟩ := arithF_sound (P := P) (R := R) (w := w) (m := m) (H := H) h hc t w
          exact fin g h1 h2
      · cases h
  · cases hx with
    | byte =>
    cases hy with
    | int =>
    obtain ⟨z, h1, h2⟩ := shiftB_sound (P := P) (R := R) (w := w) (m := m) (H := H) (k' := _) h hc t w
    exact fin (plainG (by simp) (by simp)) h1 h2
  · cases hx with
    | int =>
    cases hy with
    | byte =>
    obtain ⟨z, h1, h2⟩ := shiftF_sound (P := P) (R := R) (w := w) (m := m) (H := H) (k' := .u8) h hc t w
    exact fin (plainG (by simp) (by simp)) h1 h2
  · cases hx with
    | byte =>
    cases hy with
    | byte =>
    have g := plainG (by simp) (by simp)
    split at h
    · obtain ⟨z, h1, h2⟩ := shiftB_sound (P := P) (R := R) (w := w) (m := m) (H := H) (k' := .u8) h hc t w
      exact fin g h1 h2
    · rename_i hs
      obtain ⟨z, h1, h2⟩ := byteF_sound (P := P) (R := R) (w := w) (m := m) (H := H) hs h hc t w
      exact fin g h1 h2
  · cases hx with
    | str =>
    cases hy with
    | str =>
    obtain ⟨z, h1, h2⟩ := strF_sound (P := P) (R := R) (w := w) (m := m) (H := H) h hc t w
    exact fin (plainG (by simp) (by simp)) h1 h2
  · have gen : ∀ op', (op' = .eql ∨ op' = .neq) → ∀ r, eqF P t x y = some r → ∀ b, (Op.equal t u v).run P w = .ok b w → (binOp op' t u v).run P w = .ok (.bool (if op' = .eql then b else !b)) w := by
      intro op' ho r hr b hb
      have : binOp op' t u v = if op' = .eql then (do pure (.bool (← Op.equal t u v))) else (do pure (.bool (!(← Op.equal t u v)))) := by
        rcases ho with rfl | rfl <;> cases hx <;> cases hy <;> first
          | (simp only [eqF, reduceCtorEq] at hr; done)
          | rfl
      rw [this]
      rcases ho with rfl | rfl <;> simp [hb]
    split at h
    · split at h
      · rename_i r hr
        simp only [Option.some.injEq, Prod.mk.injEq] at h
        obtain ⟨rfl, rfl⟩ := h
        obtain ⟨e1, e2, e3⟩ := eqF_sound hx hy hr xo yo w
        exact fin e2 (by simpa using gen .eql (.inl rfl) r hr r e1) (.bool _)
      · cases h
    · split at h
      · rename_i r hr
        simp only [Option.some.injEq, Prod.mk.injEq] at h
        obtain ⟨rfl, rfl⟩ := h
        obtain ⟨e1, e2, e3⟩ := eqF_sound hx hy hr xo yo w
        exact fin e3 (by simpa using gen .neq (.inr rfl) r hr r e1) (.bool _)
      · cases h
    · cases h
theorem unF_sound {op : UnOp} {x : AVal} {u : Value} {c : Option Prop} {q : AVal} (hx : VR R w m H x u) (h : unF op x = some (c, q)) (hc : ∀ p, c = some p → p) : ∃ z, (Op.unary op u).run P w = .ok z w ∧ VR R w m H q z := by
  unfold unF at h
  split at h
  · cases hx with
    | bool b =>
    simp only [Option.some.injEq, Prod.mk.injEq] at h
    obtain ⟨rfl, rfl⟩ := h
    exact ⟨_, by simp [Op.unary] <;> rfl, .bool _⟩
  · rename_i k n
    cases hx with
    | int =>
    obtain ⟨z, h1, h2⟩ := arithF_sound (P := P) (R := R) (w := w) (m := m) (H := H) h hc 0 w
    exact ⟨z, by show (Op.intArith .sub k 0 n).run P w = _; simpa [binOp] using h1, h2⟩
  · rename_i k n
    cases hx with
    | int =>
    simp only [Option.some.injEq, Prod.mk.injEq] at h
    obtain ⟨rfl, rfl⟩ := h
    exact ⟨_, by simp [Op.unary, intBits_xor] <;> rfl, .int _ _⟩
  · rename_i n
    cases hx with
    | byte =>
    simp only [Option.some.injEq, Prod.mk.injEq] at h
    obtain ⟨rfl, rfl⟩ := h
    refine ⟨.int .u8 (bits .xor .u8 255 (n.toNat : Int)), by simp [Op.unary, intBits_xor, IntKind.signed, IntKind.max, IntKind.bits], ret_byte ?_⟩
    have h1 := xor_u8 255 n
    rw [show ((255 : UInt8).toNat : Int) = 255 from rfl] at h1
    rw [h1]
    congr 1
  · cases h

theorem partOpers_sound (hE : EnvR R w m H env a) : ∀ {ps : List (Nat × Operand)} {l : List (Nat × AVal)}, partOpers env ps = some l →
    l.length = (ps.map fun (p : Nat × Operand) => (p.1, a.eval p.2)).length ∧ ∀ (i : Nat) p q, l[i]? = some p → (ps.map fun (p : Nat × Operand) => (p.1, a.eval p.2))[i]? = some q → p.1 = q.1 ∧ VR R w m H p.2 q.2
  | [], l, h => by simp [partOpers] at h; subst h; exact ⟨rfl, fun i p q h => by simp at h⟩
  | (j, x) :: ps, l, h => by
    simp only [partOpers] at h
    split at h
    · rename_i v l' h1 h2
      cases h
      obtain ⟨a1, a2⟩ := partOpers_sound hE h2
      refine ⟨by simpa using a1, fun i p q hp hq => ?_⟩
      cases i with
      | zero =>
        simp at hp hq; subst hp; subst hq
        exact ⟨rfl, oper_sound hE h1⟩
      | succ i => exact a2 i p q (by simpa using hp) (by simpa using hq)
    · cases h

theorem sizes_run : ∀ (l : List Field), (l.all fun f => (sizeT P f.type).isSome) = true → ∀ w : World, (l.mapM fun (f : Field) => (do pure (f.offset, ← sizeOf f.type) : Sem (Nat × Nat))).run P w = .ok (l.map fun f => (f.offset, (sizeT P f.type).getD 0)) w
  | [], _, w => by simp
  | f :: l, h, w => by
    simp only [List.all_cons, Bool.and_eq_true] at h
    obtain ⟨n, hn⟩ := Option.isSome_iff_exists.1 h.1
    have ih := sizes_run l h.2 w
    simp only [List.mapM_cons, Sem.run_bind, sizeT_run hn, Result.andThen_ok, Sem.run_pure, ih, List.map_cons, hn, Option.getD_some]
theorem place_eq {t : TypeId} {fs : Array Field} (hu : P.underlying t = some (.struct fs)) (hs : (fs.toList.all fun f => (sizeT P f.type).isSome) = true) :
    fieldPlaceF P t = fun i => (fs.toList.map fun f => (f.offset, (sizeT P f.type).getD 0)).toArray[i]? := by
  funext i
  simp only [fieldPlaceF, fieldOf, hu]
  cases hf : fs[i]? with
  | none =>
    have : fs.toList[i]? = none := by rw [Array.getElem?_toList]; exact hf
    simp [this]
  | some f =>
    have h1 : fs.toList[i]? = some f := by rw [Array.getElem?_toList]; exact hf
    obtain ⟨n, hn⟩ := Option.isSome_iff_exists.1 (List.all_eq_true.1 hs f (List.mem_of_getElem? h1))
    simp [h1, hn]
theorem buildF_sound (hE : EnvR R w m H env a) {t : TypeId} {parts : Array (Nat × Operand)} {l : List (Nat × AVal)} {v : AVal} (hl : partOpers env parts.toList = some l) (h : buildF P t l = some v) :
    ∃ x, (Instr.build t (parts.map fun (p : Nat × Operand) => (p.1, a.eval p.2))).run P w = .ok x w ∧ VR R w m H v x := by
  have hp := partOpers_sound hE hl
  unfold buildF at h
  split at h
  · rename_i z fs hz hu
    obtain ⟨zv, g1, g2, g3⟩ := zeroT_run hz w
    cases hck : (fs.toList.all fun f => (sizeT P f.type).isSome) with
    | false => rw [hck] at h; cases h
    | true =>
    rw [hck] at h
    simp only [cond_true] at h
    split at h
    case h_2 => cases h
    rename_i cs hcs
    cases h
    rw [place_eq hu hck] at hcs
    obtain ⟨ys, f1, f2, f3⟩ := fill_sound (g2 R w m H) g3 hp hcs
    refine ⟨.agg ys.toArray, ?_, f2.agg f3⟩
    have hm : (fs.mapM fun (f : Field) => (do pure (f.offset, ← sizeOf f.type) : Sem (Nat × Nat))).run P w = .ok (fs.toList.map fun f => (f.offset, (sizeT P f.type).getD 0)).toArray w := by
      rw [Array.mapM_eq_mapM_toList, Sem.run_map, sizes_run fs.toList hck w]; rfl
    simp only [Instr.build, Sem.run_bind, g1, Result.andThen_ok, run_underlying hu, hm]
    simp only [Array.toArray_toList] at f1
    rw [Array.toList_map, f1]
    rfl
  · rename_i z n e hz hu
    obtain ⟨zv, g1, g2, g3⟩ := zeroT_run hz w
    split at h
    case h_2 => cases h
    rename_i sz hsz
    split at h
    case h_2 => cases h
    rename_i cs hcs
    cases h
    obtain ⟨ys, f1, f2, f3⟩ := fill_sound (g2 R w m H) g3 hp hcs
    refine ⟨.agg ys.toArray, ?_, f2.agg f3⟩
    simp only [Instr.build, Sem.run_bind, g1, Result.andThen_ok, run_underlying hu, sizeT_run hsz]
    simp only [Array.toArray_toList] at f1
    rw [Array.toList_map, f1]
    rfl
  · cases h
theorem BR_mk {cs : List AVal} {ys : List Value} (h : VL R w m H cs ys) : BR R w m H (mkBlk cs) ys ∧ (mkBlk cs).len = cs.length := by
  unfold mkBlk
  split
  · rename_i l hl
    have e := toBytes_eq hl
    rw [e] at h
    exact ⟨⟨[], by rw [h.bytes_inv]; simp⟩, by rw [e]; simp [ABlk.len]⟩
  · exact ⟨⟨ys, [], by simp, h⟩, rfl⟩
theorem buildSliceF_sound (hS : Sim R w m H) (hE : EnvR R w m H env a) {t : TypeId} {len : Nat} {parts : Array (Nat × Operand)} {l : List (Nat × AVal)} {v : AVal} {ef : Eff} (hl : partOpers env parts.toList = some l) (h : buildSliceF P H t len l = some (v, ef)) :
    ∃ x w' m', (Instr.buildSlice t len (parts.map fun (p : Nat × Operand) => (p.1, a.eval p.2))).run P w = .ok x w' ∧ Stp R w m H w' m' (ef.app H) ∧ VR R w' m' (ef.app H) v x := by
  have hp := partOpers_sound hE hl
  unfold buildSliceF at h
  split at h
  case h_2 => cases h
  rename_i e hu
  split at h
  case h_2 => cases h
  rename_i sz z hsz hz
  cases hck : (Nat.ble (len * sz) 100000 && Nat.beq z.length sz && Nat.ble 1 sz) with
  | false => rw [hck] at h; cases h
  | true =>
  rw [hck] at h
  simp only [cond_true] at h
  simp only [Bool.and_eq_true] at hck
  have hle := Nat.le_of_ble_eq_true hck.1.1
  have hzl := Nat.eq_of_beq_eq_true hck.1.2
  have hs1 := Nat.le_of_ble_eq_true hck.2
  split at h
  case h_2 => cases h
  rename_i cs hcs
  simp only [Option.some.injEq, Prod.mk.injEq] at h
  obtain ⟨rfl, rfl⟩ := h
  obtain ⟨zv, g1, g2, g3⟩ := zeroT_run hz w
  have hzv : z.length = zv.cells.size := by have := (g2 R w m H).1; simpa using this
  have hmade := (g2 R w m H).made (by omega) len
  have hone := one_made g3 (by omega) (len * z.length)
  obtain ⟨ys, f1, f2, f3⟩ := fill_sound hmade hone hp hcs
  have hyl : ys.length = len * sz := by
    have h1 := f2.1
    have h2 : ∀ {place : Nat → Option (Nat × Nat)} {ps : List (Nat × AVal)} {cs r : List AVal}, layParts place cs ps = some r → r.length = cs.length := by
      intro place ps
      induction ps with
      | nil => intro cs r h; simp [layParts] at h; rw [h]
      | cons p ps ih =>
        intro cs r h
        obtain ⟨i, v⟩ := p
        simp only [layParts] at h
        split at h
        case h_2 => cases h
        rename_i off n _
        cases hc : (Nat.beq v.cells.length n && okCell v) with
        | false => rw [hc] at h; cases h
        | true =>
        rw [hc] at h
        simp only [cond_true] at h
        split at h
        case h_2 => cases h
        rename_i cs' hput
        obtain ⟨rfl, hle⟩ := putN_eq hput
        rw [ih h]; simp; omega
    rw [← h1, h2 hcs, rep_len, hzl]
  have hroom : len ≤ room := by
    have := Nat.le_mul_of_pos_right len hs1
    unfold room; omega
  obtain ⟨s1, s2⟩ := new_sl hS (B := mkBlk cs) (xs := ys) (e := e) f3 (BR_mk f2).1 (n := len) (sz := sz) hyl (by rw [(BR_mk f2).2, f2.1, hyl]) hroom
  rw [app_new]
  refine ⟨_, _, _, ?_, s1, s2⟩
  have hmk : (Array.range (len * sz)).map (fun x => zv.cells[x % zv.cells.size]!) = madeCells zv.cells (len * z.length) := by rw [hzl]; rfl
  by_cases h0 : len * sz = 0
  · have hl0 : len = 0 := by rcases Nat.mul_eq_zero.1 h0 with h | h <;> omega
    subst hl0
    have hy0 : ys = [] := List.eq_nil_of_length_eq_zero (by rw [hyl]; simp)
    subst hy0
    have e0 : (madeCells zv.cells (0 * z.length)).toList.toArray = (#[] : Array Value) := by simp [madeCells]
    rw [e0] at f1
    simp only [Instr.buildSlice, Sem.run_bind, run_underlying hu, Result.andThen_ok, sizeT_run hsz, Nat.zero_mul]
    simp [newRow]
    rw [show (Array.map (fun _ => (default : Value)) (Array.range 0)) = #[] by simp, f1]
    simp
  · have e0 : (madeCells zv.cells (len * z.length)).toList.toArray = madeCells zv.cells (len * z.length) := by simp
    rw [e0, ← hmk] at f1
    have hng : ¬ (len * sz > 2 ^ 24) := by omega
    simp only [Instr.buildSlice, Sem.run_bind, run_underlying hu, Result.andThen_ok, sizeT_run hsz]
    rw [if_neg hng]
    simp [h0, newRow, g1]
    rw [f1]
    simp
end
end Go.Proofs.Ytnbbaemijogeoaa.Ae

namespace Go.Proofs.Ytnbbaemijogeoaa.Ae
open Go
section
variable {P : Program} {R : Nat → Prop} {w : World} {m : Mp} {H : Hp} {env : Env} {a : Act}

theorem noEff_app (H : Hp) : noEff.app H = H := by simp [Eff.app, noEff, hsets]

/-- what an operation comes to, beside the evaluator's word -/
def Does (P : Program) (R : Nat → Prop) (w : World) (m : Mp) (H : Hp) (a : Act) (o : Oper) (v : AVal) (e : Eff) : Prop :=
  ∃ x w' m', Runs P o a w x w' ∧ Stp R w m H w' m' (e.app H) ∧ VR R w' m' (e.app H) v x
theorem Does.pure (hS : Sim R w m H) {o : Oper} {v : AVal} {x : Value} (h : (execOp a.eval o).run P w = .ok (.value x) w) (hv : VR R w m H v x) : Does P R w m H a o v noEff :=
  ⟨x, w, m, .inl h, by rw [noEff_app]; exact .refl hS, by rw [noEff_app]; exact hv⟩

theorem toArrayF_sound {t : TypeId} {x q : AVal} {y : Value} {c : Option Prop} (hx : VR R w m H x y) (h : toArrayF P t x = some (c, q)) (hc : ∀ p, c = some p → p) :
    ∃ z, (Instr.arrayAt t y).run P w = .ok z w ∧ VR R w m H q z := by
  unfold toArrayF at h
  split at h
  · rename_i n e hu
    split at h
    · rename_i b off len sz
      cases h
      obtain ⟨h0, h1⟩ := hc _ rfl
      cases hx with
      | sl b off len sz ad c e1 e2 e3 e4 e5 e6 =>
        obtain ⟨g, n', f1, rfl, _⟩ := e5 (by omega)
        refine ⟨_, by simp [Instr.arrayAt, run_underlying hu, Nat.not_lt.2 h1], .ptr b off g f1⟩
    · cases h
  · cases h

theorem minF_sound {b : Bool} {x y q : AVal} {u v : Value} (hx : VR R w m H x u) (hy : VR R w m H y v) (h : minF b x y = some q) (ts : Array TypeId) (ty : TypeId) :
    ∃ z, (match b with | true => Builtin.min_ ts ty #[u, v] | false => Builtin.max_ ts ty #[u, v]).run P w = .ok z w ∧ VR R w m H q z := by
  unfold minF at h
  split at h
  · split at h
    · rename_i k a k' b hk
      cases h; cases hx; cases hy
      exact ⟨_, by simp [Builtin.min_, Builtin.min2], .int _ _⟩
    · cases h
  · split at h
    · rename_i k a k' b hk
      cases h; cases hx; cases hy
      exact ⟨_, by simp [Builtin.max_, Builtin.max2], .int _ _⟩
    · cases h
  · cases h

theorem VL.two {x y : AVal} {us : List Value} (h : VL R w m H [x, y] us) : ∃ u v, us = [u, v] ∧ VR R w m H x u ∧ VR R w m H y v := by
  obtain ⟨h1, h2⟩ := h
  match us, h1 with
  | [u, v], _ => exact ⟨u, v, rfl, h2 0 _ _ rfl rfl, h2 1 _ _ rfl rfl⟩
theorem VL.one {x : AVal} {us : List Value} (h : VL R w m H [x] us) : ∃ u, us = [u] ∧ VR R w m H x u := by
  obtain ⟨h1, h2⟩ := h
  match us, h1 with
  | [u], _ => exact ⟨u, rfl, h2 0 _ _ rfl rfl⟩

theorem builtinF_sound (hS : Sim R w m H) {b : Builtin} {ts : Array TypeId} {args : List AVal} {us : List Value} {c : Option Prop} {q : AVal} {ef : Eff} (hx : VL R w m H args us)
    (h : builtinF P H b ts.toList args = some ⟨c, q, ef⟩) (hc : ∀ p, c = some p → p) (ty : TypeId) (cs : Array Bool) :
    ∃ z w' m', (builtin b ts ty cs us.toArray).run P w = .ok (.value z) w' ∧ Stp R w m H w' m' (ef.app H) ∧ VR R w' m' (ef.app H) q z := by
  have fin : ∀ {s : Sem Value} {z : Value} {w' : World}, s.run P w = .ok z w' → (do Pure.pure (Next.value (← s)) : Sem Next).run P w = .ok (.value z) w' := fun h => by simp [h]
  obtain ⟨tl⟩ := ts
  simp only at h
  unfold builtinF at h
  split at h
  · rename_i _ _ _ t r x
    obtain ⟨u, rfl, hu1⟩ := hx.one
    clear hx
    split at h
    · rename_i n e hu
      cases h
      exact ⟨_, w, m, fin (by simp [Builtin.len_, run_underlying hu]; rfl), by rw [noEff_app]; exact .refl hS, by rw [noEff_app]; exact .int _ _⟩
    · rename_i hu
      split at h
      · cases h; cases hu1
        exact ⟨_, w, m, fin (by simp [Builtin.len_, run_underlying hu]; rfl), by rw [noEff_app]; exact .refl hS, by rw [noEff_app]; exact .int _ _⟩
      · cases h
    · rename_i e hu
      split at h
      · cases h; cases hu1
        exact ⟨_, w, m, fin (by simp [Builtin.len_, run_underlying hu]; rfl), by rw [noEff_app]; exact .refl hS, by rw [noEff_app]; exact .int _ _⟩
      · cases h; cases hu1
        exact ⟨_, w, m, fin (by simp [Builtin.len_, run_underlying hu]; rfl), by rw [noEff_app]; exact .refl hS, by rw [noEff_app]; exact .int _ _⟩
      · cases h; cases hu1
        exact ⟨_, w, m, fin (by simp [Builtin.len_, run_underlying hu]; rfl), by rw [noEff_app]; exact .refl hS, by rw [noEff_app]; exact .int _ _⟩
      · cases h; cases hu1
        exact ⟨_, w, m, fin (by simp [Builtin.len_, run_underlying hu]; rfl), by rw [noEff_app]; exact .refl hS, by rw [noEff_app]; exact .int _ _⟩
      · cases h
    · cases h
  · rename_i _ _ _ t u' r s x
    obtain ⟨sv, y, rfl, hs, hy⟩ := hx.two
    cases hu : isSrcT P u' with
    | false => rw [hu] at h; cases h
    | true =>
      rw [hu] at h
      simp only [cond] at h
      split at h
      · rename_i p v e ha
        cases h
        obtain ⟨z, w', m', f1, f2, f3⟩ := appendF_sound hS (ty := ty) hu hs hy ha hc
        exact ⟨z, w', m', fin ((congrArg (fun s => Sem.run P s w) (show Builtin.append_ ⟨t :: u' :: r⟩ ty #[sv, y] = Builtin.append_ #[t, u'] ty #[sv, y] from rfl)).trans f1), f2, f3⟩
      · cases h
  · rename_i _ _ _ t r d x
    obtain ⟨dv, y, rfl, hd, hy⟩ := hx.two
    split at h
    · rename_i p v e ha
      cases h
      obtain ⟨z, w', f1, f2, f3⟩ := copyF_sound hS (u := t) (ty := ty) hd hy ha hc
      exact ⟨z, w', m, fin ((congrArg (fun s => Sem.run P s w) (show Builtin.copy_ ⟨t :: r⟩ ty #[dv, y] = Builtin.copy_ #[t, t] ty #[dv, y] from rfl)).trans f1), f2, f3⟩
    · cases h
  · rename_i _ _ _ x y
    obtain ⟨u, v, rfl, hu, hv⟩ := hx.two
    split at h
    · rename_i r hr
      cases h
      obtain ⟨z, f1, f2⟩ := minF_sound hu hv hr ⟨tl⟩ ty
      exact ⟨z, w, m, fin f1, by rw [noEff_app]; exact .refl hS, by rw [noEff_app]; exact f2⟩
    · cases h
  · rename_i _ _ _ x y
    obtain ⟨u, v, rfl, hu, hv⟩ := hx.two
    split at h
    · rename_i r hr
      cases h
      obtain ⟨z, f1, f2⟩ := minF_sound hu hv hr ⟨tl⟩ ty
      exact ⟨z, w, m, fin f1, by rw [noEff_app]; exact .refl hS, by rw [noEff_app]; exact f2⟩
    · cases h
  · cases h

theorem oper?_sound (hE : EnvR R w m H env a) {x : Option Operand} {v : Option AVal} (h : oper? env x = some v) : match (generalizing := false) v, x.map a.eval with | none, none => True | some v, some u => VR R w m H v u | _, _ => False := by
  cases x with
  | none => simp [oper?] at h; subst h; trivial
  | some x =>
    simp only [oper?] at h
    split at h
    · rename_i u hu; cases h; exact oper_sound hE hu
    · cases h

theorem plain?_some {r : Option (Option Prop × AVal)} {p : Option Prop} {v : AVal} {e : Eff} (h : plain? r = some ⟨p, v, e⟩) : r = some (p, v) ∧ e = noEff := by
  unfold plain? at h
  split at h
  · cases h; exact ⟨rfl, rfl⟩
  · cases h
theorem pure?_some {r : Option AVal} {p : Option Prop} {v : AVal} {e : Eff} (h : pure? r = some ⟨p, v, e⟩) : r = some v ∧ p = none ∧ e = noEff := by
  unfold pure? at h
  split at h
  · cases h; exact ⟨rfl, rfl, rfl⟩
  · cases h

theorem exec_builtin {o : Oper} {c : Call} {b : Builtin} (ho : o.op = .call c) (hb : c.callee = .builtin b) : ∃ cs, ∀ P w, (execOp a.eval o).run P w = (builtin b c.argTypes o.type cs (c.args.map a.eval)).run P w := by
  refine ⟨?_, fun P w => ?_⟩
  rotate_left
  · simp only [execOp, ho, resolve, hb, invoke, Sem.run_bind, Sem.run_pure]
    rfl

theorem opF_sound (hS : Sim R w m H) (hE : EnvR R w m H env a) {o : Oper} {p : Option Prop} {v : AVal} {e : Eff} (h : opF P o.op env H = some ⟨p, v, e⟩) (hc : ∀ q, p = some q → q) : Does P R w m H a o v e := by
  have fin : ∀ {s : Sem Value} {z : Value} {w' : World}, s.run P w = .ok z w' → (do Pure.pure (Next.value (← s)) : Sem Next).run P w = .ok (.value z) w' := fun h => by simp [h]
  have ex : ∀ {s : Sem Next}, execOp a.eval o = s → ∀ {x : Next} {w' : World}, s.run P w = .ok x w' → (execOp a.eval o).run P w = .ok x w' := fun h1 _ _ h2 => by rw [h1]; exact h2
  have pu : ∀ {s : Sem Value} {q : AVal}, execOp a.eval o = (do Pure.pure (Next.value (← s)) : Sem Next) → (∃ z, s.run P w = .ok z w ∧ VR R w m H q z) → Does P R w m H a o q noEff := fun h1 ⟨z, h2, h3⟩ => .pure hS (ex h1 (fin h2)) h3
  have st : ∀ {s : Sem Value} {q : AVal} {e : Eff}, execOp a.eval o = (do Pure.pure (Next.value (← s)) : Sem Next) → (∃ z w' m', s.run P w = .ok z w' ∧ Stp R w m H w' m' (e.app H) ∧ VR R w' m' (e.app H) q z) → Does P R w m H a o q e := fun h1 ⟨z, w', m', h2, h3, h4⟩ => ⟨z, w', m', .inl (ex h1 (fin h2)), h3, h4⟩
  unfold opF at h
  split at h
  · rename_i x ho
    split at h
    · rename_i u hu; cases h
      exact .pure hS (x := a.eval x) (by simp [execOp, ho]) (oper_sound hE hu)
    · cases h
  · rename_i x ho
    split at h
    · rename_i u hu; cases h
      exact .pure hS (x := a.eval x) (by simp [execOp, ho]) (oper_sound hE hu)
    · cases h
  · rename_i c x y ho
    split at h
    · rename_i t u u' h1 h2 h3
      cases h
      have k1 := oper_sound hE h1
      have k2 := oper_sound hE h2
      have k3 := oper_sound hE h3
      generalize hcv : a.eval c = cv at k1
      cases k1
      refine .pure hS (x := if t then a.eval x else a.eval y) (by simp [execOp, ho, hcv, asBool]) ?_
      unfold pickF
      split
      · cases t <;> simpa
      · cases t <;> simpa
    · cases h
  · rename_i t ho
    split at h
    · rename_i z hz; cases h
      obtain ⟨x, w', m', f1, f2, f3⟩ := alloc_sound (a := a) hS hz ho
      exact ⟨x, w', m', f1, f2, f3⟩
    · cases h
  · rename_i t x ho
    split at h
    · rename_i u hu
      cases hk : okCell u with
      | false => rw [hk] at h; cases h
      | true =>
        rw [hk] at h; cases h
        obtain ⟨x, w', m', f1, f2, f3⟩ := box_sound hS (oper_sound hE hu) hk ho
        exact ⟨x, w', m', f1, f2, f3⟩
    · cases h
  · rename_i t parts ho
    split at h
    · rename_i l hl
      obtain ⟨h1, rfl, rfl⟩ := pure?_some h
      exact pu (by simp only [execOp, ho]) (buildF_sound hE hl h1)
    · cases h
  · rename_i t len parts ho
    split at h
    · rename_i l hl
      split at h
      · rename_i v' e' h1
        cases h
        exact st (by simp only [execOp, ho]) (buildSliceF_sound hS hE hl h1)
      · cases h
    · cases h
  · rename_i t x ho
    split at h
    · rename_i u hu
      obtain ⟨h1, rfl⟩ := plain?_some h
      obtain ⟨ad, y, f1, f2, f3⟩ := loadF_sound hS (oper_sound hE hu) h1 hc
      exact pu (s := Instr.loadAt t (a.eval x)) (by simp only [execOp, ho]) ⟨y, by simp [Instr.loadAt, f1, Instr.sureAddr, f2], f3⟩
    · cases h
  · rename_i t x y ho
    split at h
    · rename_i u u' h1 h2
      split at h
      · rename_i c' e' h3
        cases h
        obtain ⟨ad, w', f1, f2, f3⟩ := storeF_sound hS (oper_sound hE h1) (oper_sound hE h2) h3 hc
        exact ⟨undef, w', m, .inr ⟨by simp [execOp, ho, Instr.storeAt, f1, Instr.sureAddr, f2], rfl⟩, f3, .undef _⟩
      · cases h
    · cases h
  · rename_i x ho
    split at h
    · rename_i b of hu; cases h
      have k := oper_sound hE hu
      generalize hx : a.eval x = y at k
      refine .pure hS (x := y) ?_ k
      cases k; simp [execOp, ho, hx]
    · rename_i cs hu; cases h
      have k := oper_sound hE hu
      generalize hx : a.eval x = y at k
      refine .pure hS (x := y) ?_ k
      cases k; simp [execOp, ho, hx]
    · rename_i f fi ca hu; cases h
      have k := oper_sound hE hu
      generalize hx : a.eval x = y at k
      refine .pure hS (x := y) ?_ k
      cases k; simp [execOp, ho, hx]
    · cases h
  · rename_i op t x y po ho
    split at h
    · rename_i u u' h1 h2
      obtain ⟨h3, rfl⟩ := plain?_some h
      exact pu (by simp only [execOp, ho]) (binF_sound (oper_sound hE h1) (oper_sound hE h2) h3 hc x y)
    · cases h
  · rename_i op t x ho
    split at h
    · rename_i u h1
      obtain ⟨h3, rfl⟩ := plain?_some h
      exact pu (by simp only [execOp, ho]) (unF_sound (oper_sound hE h1) h3 hc)
    · cases h
  · rename_i s d x ho
    split at h
    · rename_i u h1
      cases hk : (P.underlying s).isSome with
      | false => rw [hk] at h; cases h
      | true =>
        rw [hk] at h
        simp only [cond] at h
        split at h
        · rename_i c' v' e' h3
          cases h
          exact st (by simp only [execOp, ho]) (convF_sound hS hk (oper_sound hE h1) h3 hc)
        · cases h
    · cases h
  · rename_i t x ho
    split at h
    · rename_i u h1
      obtain ⟨h3, rfl⟩ := plain?_some h
      exact pu (by simp only [execOp, ho]) (toArrayF_sound (oper_sound hE h1) h3 hc)
    · cases h
  · rename_i f fi ca ho
    split at h
    · rename_i l l' h1 h2
      cases h
      have k1 := opers_sound hE h1
      have k2 := opers_sound hE h2
      refine .pure hS (x := .func (.func f) (fi.map a.eval) (ca.map a.eval)) (by simp [execOp, ho, Instr.makeFunc]) ?_
      have := VR.fn (R := R) (w := w) (m := m) (H := H) f l l' _ _ k1.1 k1.2 k2.1 k2.2
      have e : ∀ x : Array Operand, (x.toList.map a.eval).toArray = x.map a.eval := fun x => by rw [← Array.toList_map]
      rw [e, e] at this; exact this
    · cases h
  · rename_i t n c ho
    split at h
    · rename_i u u' h1 h2
      split at h
      · rename_i c' v' e' h3
        cases h
        exact st (by simp only [execOp, ho]) (makeF_sound hS (oper_sound hE h1) (oper_sound hE h2) h3 hc)
      · cases h
    · cases h
  · rename_i t x lo hi mx ho
    split at h
    · rename_i u l' h' m' h1 h2 h3 h4
      obtain ⟨h5, rfl⟩ := plain?_some h
      exact pu (s := Instr.sliceAt t (a.eval x) (lo.map a.eval) (hi.map a.eval) (mx.map a.eval)) (by simp only [execOp, ho]) (cutF_sound hS (oper_sound hE h1) (oper?_sound hE h2) (oper?_sound hE h3) (oper?_sound hE h4) h5 hc)
    · cases h
  · rename_i t x i ho
    split at h
    · rename_i u h1
      obtain ⟨h3, rfl, rfl⟩ := pure?_some h
      exact pu (by simp only [execOp, ho]) (fieldAddrF_sound (oper_sound hE h1) h3)
    · cases h
  · rename_i t x i ho
    split at h
    · rename_i u h1
      obtain ⟨h3, rfl, rfl⟩ := pure?_some h
      exact pu (by simp only [execOp, ho]) (fieldF_sound (oper_sound hE h1) h3)
    · cases h
  · rename_i t x i ho
    split at h
    · rename_i u u' h1 h2
      obtain ⟨h3, rfl⟩ := plain?_some h
      exact pu (by simp only [execOp, ho]) (indexAddrF_sound (oper_sound hE h1) (oper_sound hE h2) h3 hc)
    · cases h
  · rename_i t x i ho
    split at h
    · rename_i u u' h1 h2
      obtain ⟨h3, rfl⟩ := plain?_some h
      exact pu (by simp only [execOp, ho]) (indexF_sound (oper_sound hE h1) (oper_sound hE h2) h3 hc)
    · cases h
  · rename_i x i ho
    split at h
    · rename_i vs h1
      split at h
      · rename_i v' h2
        cases h
        have k := oper_sound hE h1
        generalize hx : a.eval x = y at k
        cases k with
        | tup _ xs e1 e2 =>
          have hi : i < xs.length := by rw [← e1]; exact (List.getElem?_eq_some_iff.1 h2).1
          exact pu (s := Instr.extract (a.eval x) i) (by simp only [execOp, ho]) ⟨xs[i], by simp [Instr.extract, hx, hi], e2 i _ _ h2 (List.getElem?_eq_getElem hi)⟩
      · cases h
    · cases h
  · rename_i c ho
    split at h
    · rename_i b hb
      split at h
      · rename_i l hl
        obtain ⟨cs, hcs⟩ := exec_builtin (a := a) ho hb
        obtain ⟨z, w', m', f1, f2, f3⟩ := builtinF_sound hS (opers_sound hE hl) h hc o.type cs
        refine ⟨z, w', m', .inl ?_, f2, f3⟩
        have e : (c.args.toList.map a.eval).toArray = c.args.map a.eval := by rw [← Array.toList_map]
        rw [e] at f1
        rw [hcs]; exact f1
      · cases h
    · cases h
  · cases h

end
end Go.Proofs.Ytnbbaemijogeoaa.Ae
namespace Go.Proofs.Ytnbbaemijogeoaa.Ae
open Go

/-- what a stretch of code leaves behind: more may be frozen than before -/
structure Far (R : Nat → Prop) (w : World) (m : Mp) (H : Hp) (R' : Nat → Prop) (w' : World) (m' : Mp) (H' : Hp) : Prop where
  sub : ∀ g, R g → R' g
  newR : ∀ g, R' g → R g ∨ w.heap.size ≤ g ∨ ∃ k, hget k H ≠ .dead ∧ m k = some g
  sim : Sim R' w' m' H'
  os : w'.os = w.os
  tape : w'.tape = w.tape
  output : w'.output = w.output
  size : w.heap.size ≤ w'.heap.size
  shape : ∀ g, g < w.heap.size → rowSize w' g = rowSize w g
  frame : ∀ g, g < w.heap.size → (∀ k, hget k H ≠ .dead → m k ≠ some g) → w'.heap[g]? = w.heap[g]?
  agree : ∀ k g, m k = some g → m' k = some g
  hlen : H.length ≤ H'.length
  hext : ∀ k, k < H.length → hget k H' = .dead ∨ (hget k H ≠ .dead ∧ (hget k H').len = (hget k H).len)
  news : ∀ k g, hget k H' ≠ .dead → m' k = some g → w.heap.size ≤ g ∨ ∃ k0, hget k0 H ≠ .dead ∧ m k0 = some g
  same : ∀ k, k < H.length → m' k = m k

section
variable {R R' R'' : Nat → Prop} {w w' w'' : World} {m m' m'' : Mp} {H H' H'' : Hp}

theorem Stp.far (s : Stp R w m H w' m' H') : Far R w m H R w' m' H' :=
  ⟨fun _ h => h, fun _ h => .inl h, s.sim, s.os, s.tape, s.output, s.size, s.shape, s.frame, s.agree, s.hlen, s.hext, s.news, s.same⟩
theorem Far.refl (hS : Sim R w m H) : Far R w m H R w m H := (Stp.refl hS).far
theorem Far.trans (s : Far R w m H R' w' m' H') (t : Far R' w' m' H' R'' w'' m'' H'') : Far R w m H R'' w'' m'' H'' := by
  refine ⟨fun g h => t.sub g (s.sub g h), fun g h => ?_, t.sim, t.os.trans s.os, t.tape.trans s.tape, t.output.trans s.output, Nat.le_trans s.size t.size, fun g hg => ?_, fun g hg hn => ?_, fun k g h => t.agree _ _ (s.agree _ _ h), Nat.le_trans s.hlen t.hlen, fun k hk => ?_, fun k g hk hg => ?_, fun k hk => (t.same k (Nat.lt_of_lt_of_le hk s.hlen)).trans (s.same k hk)⟩
  · rcases t.newR g h with h | h | ⟨k, h1, h2⟩
    · exact s.newR g h
    · exact .inr (.inl (Nat.le_trans s.size h))
    · rcases s.news k g h1 h2 with h | h
      · exact .inr (.inl h)
      · exact .inr (.inr h)
  · rw [t.shape g (Nat.lt_of_lt_of_le hg s.size), s.shape g hg]
  · rw [t.frame g (Nat.lt_of_lt_of_le hg s.size) fun k hk e => ?_, s.frame g hg hn]
    rcases s.news k g hk e with h | ⟨k0, h1, h2⟩
    · omega
    · exact hn k0 h1 h2
  · rcases t.hext k (Nat.lt_of_lt_of_le hk s.hlen) with h | ⟨h1, h2⟩
    · exact .inl h
    · rcases s.hext k hk with h | ⟨h3, h4⟩
      · exact absurd h h1
      · exact .inr ⟨h3, h2.trans h4⟩
  · rcases t.news k g hk hg with h | ⟨k0, h1, h2⟩
    · exact .inl (Nat.le_trans s.size h)
    · exact s.news k0 g h1 h2
theorem Far.rsame (s : Far R w m H R' w' m' H') (hS : Sim R w m H) (g : Nat) (hg : R g) : w'.heap[g]? = w.heap[g]? :=
  s.frame g (hS.rlt g hg) fun k hk e => (hS.own k g hk e).1 hg
theorem Far.rows (s : Far R w m H R' w' m' H') (g n : Nat) (h : rowSize w g = some n) : rowSize w' g = some n := by
  rw [s.shape g (rowSize_lt h)]; exact h
theorem VR.far (s : Far R w m H R' w' m' H') (hS : Sim R w m H) {v : AVal} {x : Value} (h : VR R w m H v x) : VR R' w' m' H' v x :=
  h.mono s.sub (s.rsame hS) s.rows s.agree s.hlen s.hext
theorem VL.far (s : Far R w m H R' w' m' H') (hS : Sim R w m H) {vs : List AVal} {xs : List Value} (h : VL R w m H vs xs) : VL R' w' m' H' vs xs :=
  h.mono s.sub (s.rsame hS) s.rows s.agree s.hlen s.hext

/-! ### other numbers -/
/-- one heap's blocks are found in the other one -/
structure Num (r : Nat → Option Nat) (m : Mp) (H : Hp) (m' : Mp) (H' : Hp) : Prop where
  map : ∀ k k' g, r k = some k' → m k = some g → m' k' = some g
  lt : ∀ k k', r k = some k' → k < H.length → k' < H'.length
  len : ∀ k k', r k = some k' → k < H.length → hget k' H' = .dead ∨ (hget k H ≠ .dead ∧ (hget k' H').len = (hget k H).len)

theorem renL_get (r : Nat → Option Nat) : ∀ (l : List AVal) (i : Nat), (renL r l)[i]? = (l[i]?).map (ren r)
  | [], i => by simp [renL]
  | v :: l, 0 => by simp [renL]
  | v :: l, i + 1 => by simpa [renL] using renL_get r l i
theorem renL_length (r : Nat → Option Nat) : ∀ (l : List AVal), (renL r l).length = l.length
  | [] => rfl
  | v :: l => by simp [renL, renL_length r l]
theorem renL_some {r : Nat → Option Nat} {l : List AVal} {i : Nat} {v : AVal} (h : (renL r l)[i]? = some v) : ∃ u, l[i]? = some u ∧ v = ren r u := by
  rw [renL_get] at h
  cases hl : l[i]? with
  | none => rw [hl] at h; cases h
  | some u => rw [hl] at h; exact ⟨u, rfl, (Option.some.inj h).symm⟩

theorem VR.ren {r : Nat → Option Nat} {v : AVal} {x : Value} (h : VR R w m H v x) : ∀ {m' : Mp} {H' : Hp}, Num r m H m' H' → VR R w m' H' (ren r v) x := by
  induction h with
  | undef x => intros; exact .undef x
  | bool b => intros; exact .bool b
  | int k n => intros; exact .int k n
  | byte x => intros; exact .byte x
  | str l h => intros; exact .str l h
  | nilS => intros; exact .nilS
  | sl b off len sz a c h1 h2 h3 h4 h5 h6 =>
    intro m' H' hN
    simp only [Ae.ren]
    cases hb : r b with
    | none => exact .undef _
    | some k =>
      refine .sl k off len sz a c h1 h2 h3 (hN.lt _ _ hb h4) (fun hc => ?_) ?_
      · obtain ⟨g, n, e1, e2⟩ := h5 hc
        exact ⟨g, n, hN.map _ _ _ hb e1, e2⟩
      · rcases hN.len _ _ hb h4 with hd | ⟨hd, he⟩
        · exact .inl hd
        · rcases h6 with h6 | h6
          · exact absurd h6 hd
          · exact .inr (by rw [he]; exact h6)
  | roB l a c g off h1 h2 h3 h4 h5 => intros; exact .roB l a c g off h1 h2 h3 h4 h5
  | ro n sz f a c g off X h1 h2 h3 h4 h5 h6 h7 ih => intros; exact .ro n sz f a c g off X h1 h2 h3 h4 h5 h6 h7
  | nilP => intros; exact .nilP
  | ptr b off g h =>
    intro m' H' hN
    simp only [Ae.ren]
    cases hb : r b with
    | none => exact .undef _
    | some k => exact .ptr k off g (hN.map _ _ _ hb h)
  | rop cs g off X h4 h5 h6 ih => intros; exact .rop cs g off X h4 h5 h6
  | agg cs xs h1 h2 h3 ih =>
    intro m' H' hN
    simp only [Ae.ren]
    refine .agg _ xs (by rw [renL_length]; exact h1) (fun i v x hv hx => ?_) h3
    obtain ⟨u, hu, rfl⟩ := renL_some hv
    exact ih i u x hu hx hN
  | tup cs xs h1 h2 ih =>
    intro m' H' hN
    simp only [Ae.ren]
    refine .tup _ xs (by rw [renL_length]; exact h1) (fun i v x hv hx => ?_)
    obtain ⟨u, hu, rfl⟩ := renL_some hv
    exact ih i u x hu hx hN
  | fn f a b xs ys h1 h2 h3 h4 ih1 ih2 =>
    intro m' H' hN
    simp only [Ae.ren]
    refine .fn f _ _ xs ys (by rw [renL_length]; exact h1) (fun i v x hv hx => ?_) (by rw [renL_length]; exact h3) (fun i v x hv hx => ?_)
    · obtain ⟨u, hu, rfl⟩ := renL_some hv
      exact ih1 i u x hu hx hN
    · obtain ⟨u, hu, rfl⟩ := renL_some hv
      exact ih2 i u x hu hx hN
  | nilF => intros; exact .nilF
theorem VL.ren {r : Nat → Option Nat} {vs : List AVal} {xs : List Value} (h : VL R w m H vs xs) (hN : Num r m H m' H') : VL R w m' H' (renL r vs) xs := by
  refine ⟨by rw [renL_length]; exact h.1, fun i v x hv hx => ?_⟩
  obtain ⟨u, hu, rfl⟩ := renL_some hv
  exact (h.2 i u x hu hx).ren hN
theorem BR.ren {r : Nat → Option Nat} {B : ABlk} {xs : List Value} (h : BR R w m H B xs) (hN : Num r m H m' H') : BR R w m' H' (renB r B) xs := by
  cases B with
  | dead => trivial
  | bytes l => exact h
  | vals cs => obtain ⟨ys, q, e, h⟩ := h; exact ⟨ys, q, e, h.ren hN⟩
  | flat cs => exact h
theorem renB_len (r : Nat → Option Nat) (B : ABlk) : (renB r B).len = B.len := by cases B <;> simp [renB, ABlk.len, renL_length]
theorem renB_dead {r : Nat → Option Nat} {B : ABlk} : renB r B = .dead ↔ B = .dead := by cases B <;> simp [renB]

/-! ### lists of numbers -/
theorem elemN_iff {k : Nat} : ∀ {l : List Nat}, elemN k l = true ↔ k ∈ l
  | [] => by simp [elemN]
  | j :: r => by
    simp only [elemN]
    cases hk : Nat.beq k j with
    | true => have := Nat.eq_of_beq_eq_true hk; simp [this]
    | false =>
      have : k ≠ j := fun e => by subst e; simp [Nat.beq_refl] at hk
      simp [this, elemN_iff (l := r)]
theorem idxO_get {k : Nat} : ∀ {l : List Nat} {i : Nat}, idxO k l = some i → l[i]? = some k
  | [], i, h => by simp [idxO] at h
  | j :: r, i, h => by
    simp only [idxO] at h
    cases hk : Nat.beq k j with
    | true => rw [hk] at h; have := Nat.eq_of_beq_eq_true hk; simp at h; subst h this; rfl
    | false =>
      rw [hk] at h
      simp only [cond] at h
      split at h
      · rename_i i' hi; cases h; simpa using idxO_get hi
      · cases h
theorem idxO_mem {k : Nat} : ∀ {l : List Nat}, k ∈ l → ∃ i, idxO k l = some i
  | [], h => by simp at h
  | j :: r, h => by
    simp only [idxO]
    cases hk : Nat.beq k j with
    | true => exact ⟨0, rfl⟩
    | false =>
      have hne : k ≠ j := fun e => by subst e; simp [Nat.beq_refl] at hk
      obtain ⟨i, hi⟩ := idxO_mem (l := r) (by simpa [hne] using h)
      exact ⟨i + 1, by simp [hi]⟩
theorem reach_seen (H : Hp) : ∀ (n : Nat) (todo seen : List Nat), ∃ more, reach H n todo seen = seen ++ more ∧ (seen.Nodup → (reach H n todo seen).Nodup)
  | 0, _, seen => ⟨[], by simp [reach], fun h => h⟩
  | n + 1, [], seen => ⟨[], by simp [reach], fun h => h⟩
  | n + 1, k :: r, seen => by
    simp only [reach]
    cases hk : elemN k seen with
    | true => exact reach_seen H n r seen
    | false =>
      obtain ⟨more, e, hn⟩ := reach_seen H n (r ++ refsB (hget k H)) (seen ++ [k])
      refine ⟨k :: more, by simp only [cond]; rw [e]; simp, fun h => hn ?_⟩
      have : k ∉ seen := fun h => by rw [elemN_iff.2 h] at hk; cases hk
      rw [List.nodup_append]
      exact ⟨h, by simp, fun a ha b hb => by simp at hb; subst hb; exact fun e => this (e ▸ ha)⟩
theorem seek_ok (H : Hp) (n0 : Nat) (vs : List AVal) : (seek H n0 vs).Nodup ∧ (∀ i, i < n0 → (seek H n0 vs)[i]? = some i) := by
  obtain ⟨more, e, hn⟩ := reach_seen H 200 (refsLow n0 H ++ refsL vs) (List.range n0)
  refine ⟨hn List.nodup_range, fun i hi => ?_⟩
  unfold seek
  rw [e, List.getElem?_append_left (by simpa using hi)]
  simp [hi]

theorem subHeap_length (r : Nat → Option Nat) (H : Hp) : ∀ S, (subHeap r H S).length = S.length
  | [] => rfl
  | k :: S => by simp [subHeap, subHeap_length r H S]
theorem subHeap_get (r : Nat → Option Nat) (H : Hp) : ∀ (S : List Nat) (i k : Nat), S[i]? = some k → hget i (subHeap r H S) = renB r (hget k H)
  | [], i, k, h => by simp at h
  | j :: S, 0, k, h => by simp at h; subst h; rfl
  | j :: S, i + 1, k, h => by simpa [subHeap, hget] using subHeap_get r H S i k (by simpa using h)

theorem nodup_inj {l : List Nat} (h : l.Nodup) {i j k : Nat} (hi : l[i]? = some k) (hj : l[j]? = some k) : i = j := by
  obtain ⟨i1, i2⟩ := List.getElem?_eq_some_iff.1 hi
  obtain ⟨j1, j2⟩ := List.getElem?_eq_some_iff.1 hj
  rw [List.Nodup, List.pairwise_iff_getElem] at h
  rcases Nat.lt_trichotomy i j with hl | hl | hl
  · exact absurd (i2.trans j2.symm) (h i j i1 j1 hl)
  · exact hl
  · exact absurd (j2.trans i2.symm) (h j i j1 i1 hl)
/-- the heap of the blocks of a list -/
def subM (S : List Nat) (m : Mp) : Mp := fun i => (S[i]?).bind m

theorem sub_num (S : List Nat) (m : Mp) (H : Hp) : Num (fun k => idxO k S) m H (subM S m) (subHeap (fun k => idxO k S) H S) := by
  refine ⟨fun k k' g h hm => ?_, fun k k' h _ => ?_, fun k k' h _ => ?_⟩
  · simp [subM, idxO_get h, hm]
  · rw [subHeap_length]; exact (List.getElem?_eq_some_iff.1 (idxO_get h)).1
  · rw [subHeap_get _ _ _ _ _ (idxO_get h), renB_len]
    by_cases hd : hget k H = .dead
    · exact .inl (by rw [hd]; rfl)
    · exact .inr ⟨hd, rfl⟩

theorem Sim.sub (hS : Sim R w m H) {S : List Nat} (hn : S.Nodup) : Sim R w (subM S m) (subHeap (fun k => idxO k S) H S) := by
  have hN := sub_num S m H
  have key : ∀ i, hget i (subHeap (fun k => idxO k S) H S) ≠ .dead → ∃ k, S[i]? = some k ∧ hget k H ≠ .dead ∧ hget i (subHeap (fun k => idxO k S) H S) = renB (fun k => idxO k S) (hget k H) ∧ subM S m i = m k := fun i hi => by
    have hlt := hget_lt hi
    rw [subHeap_length] at hlt
    refine ⟨S[i], List.getElem?_eq_getElem hlt, fun hd => hi ?_, subHeap_get _ _ _ _ _ (List.getElem?_eq_getElem hlt), by simp [subM, hlt]⟩
    rw [subHeap_get _ _ _ _ _ (List.getElem?_eq_getElem hlt), hd]; rfl
  refine ⟨hS.rlt, fun k hk => ?_, fun k g hk hg => ?_, fun k hk hm => ?_, fun k k' g hk hk' hg hg' => ?_⟩
  · rw [subHeap_length] at hk; simp [subM, List.getElem?_eq_none hk]
  · obtain ⟨j, e1, e2, e3, e4⟩ := key k hk
    rw [e4] at hg
    obtain ⟨a1, xs, e, fr, a2, a3, a4, a5⟩ := hS.own j g e2 hg
    exact ⟨a1, xs, e, fr, a2, a3, a4, by rw [e3]; exact a5.ren hN⟩
  · obtain ⟨j, e1, e2, e3, e4⟩ := key k hk
    rw [e4] at hm
    rw [e3, renB_len]; exact hS.ph j e2 hm
  · obtain ⟨j, e1, e2, e3, e4⟩ := key k hk
    obtain ⟨j', f1, f2, f3, f4⟩ := key k' hk'
    rw [e4] at hg; rw [f4] at hg'
    have := hS.inj j j' g e2 f2 hg hg'
    subst this
    exact nodup_inj hn e1 f1

/-- the blocks that are needed alone -/
theorem Far.restrict {R0 : Nat → Prop} {w0 : World} {m0 : Mp} {H0 : Hp} (s : Far R0 w0 m0 H0 R w m H) (hS0 : Sim R0 w0 m0 H0) {S : List Nat} (hn : S.Nodup) (hp : ∀ i, i < H0.length → S[i]? = some i) :
    Far R0 w0 m0 H0 R w (subM S m) (subHeap (fun k => idxO k S) H S) := by
  refine ⟨s.sub, s.newR, s.sim.sub hn, s.os, s.tape, s.output, s.size, s.shape, s.frame, fun k g h => ?_, ?_, fun k hk => ?_, fun k g hk hg => ?_, fun k hk => by simp [subM, hp k hk, s.same k hk]⟩
  · have hk : k < H0.length := by
      rcases Nat.lt_or_ge k H0.length with h' | h'
      · exact h'
      · rw [hS0.out k h'] at h; cases h
    simp [subM, hp k hk, s.agree k g h]
  · rw [subHeap_length]
    rcases Nat.eq_zero_or_pos H0.length with h | h
    · omega
    · have := (List.getElem?_eq_some_iff.1 (hp (H0.length - 1) (by omega))).1; omega
  · rw [subHeap_get _ _ _ _ _ (hp k hk), renB_len, renB_dead]
    exact s.hext k hk
  · have hlt := hget_lt hk
    rw [subHeap_length] at hlt
    have e := List.getElem?_eq_getElem hlt
    have hd : hget S[k] H ≠ .dead := fun hd => hk (by rw [subHeap_get _ _ _ _ _ e, hd]; rfl)
    simp only [subM, e, Option.bind_some] at hg
    exact s.news _ g hd hg
end
end Go.Proofs.Ytnbbaemijogeoaa.Ae

namespace Go.Proofs.Ytnbbaemijogeoaa.Ae
open Go
section
variable {P : Program} {R R' : Nat → Prop} {w w' : World} {m m' : Mp} {H H' : Hp}

theorem noRoL_get : ∀ {l : List AVal} {i : Nat} {v : AVal}, noRoL l = true → l[i]? = some v → noRo v = true
  | [], _, _, _, h => by simp at h
  | u :: l, 0, v, hc, h => by simp [noRoL] at hc h; subst h; exact hc.1
  | u :: l, i + 1, v, hc, h => by simp [noRoL] at hc; exact noRoL_get hc.2 (by simpa using h)

theorem VR.noRo {v : AVal} {x : Value} (h : VR R w m H v x) : Ae.noRo v = true → ∀ (R' : Nat → Prop), VR R' w m H v x := by
  induction h with
  | undef x => intros; exact .undef x
  | bool b => intros; exact .bool b
  | int k n => intros; exact .int k n
  | byte x => intros; exact .byte x
  | str l h => intros; exact .str l h
  | nilS => intros; exact .nilS
  | sl b off len sz a c h1 h2 h3 h4 h5 h6 => intros; exact .sl b off len sz a c h1 h2 h3 h4 h5 h6
  | roB l a c g off h1 h2 h3 h4 h5 => intro hc; simp [Ae.noRo] at hc
  | ro n sz f a c g off X h1 h2 h3 h4 h5 h6 h7 ih => intro hc; simp [Ae.noRo] at hc
  | nilP => intros; exact .nilP
  | ptr b off g h => intros; exact .ptr b off g h
  | rop cs g off X h4 h5 h6 ih => intro hc; simp [Ae.noRo] at hc
  | agg cs xs h1 h2 h3 ih =>
    intro hc R'
    simp only [Ae.noRo] at hc
    exact .agg cs xs h1 (fun i v x hv hx => ih i v x hv hx (noRoL_get hc hv) R') h3
  | tup cs xs h1 h2 ih =>
    intro hc R'
    simp only [Ae.noRo] at hc
    exact .tup cs xs h1 (fun i v x hv hx => ih i v x hv hx (noRoL_get hc hv) R')
  | fn f a b xs ys h1 h2 h3 h4 ih1 ih2 =>
    intro hc R'
    simp only [Ae.noRo, Bool.and_eq_true] at hc
    exact .fn f a b xs ys h1 (fun i v x hv hx => ih1 i v x hv hx (noRoL_get hc.1 hv) R') h3 (fun i v x hv hx => ih2 i v x hv hx (noRoL_get hc.2 hv) R')
  | nilF => intros; exact .nilF
theorem BR.noRo {B : ABlk} {xs : List Value} (h : BR R w m H B xs) (hB : noRoB B = true) (R' : Nat → Prop) : BR R' w m H B xs := by
  cases B with
  | dead => trivial
  | bytes l => exact h
  | vals cs => obtain ⟨ys, q, e, h⟩ := h; exact ⟨ys, q, e, h.1, fun i v x hv hx => (h.2 i v x hv hx).noRo (noRoL_get hB hv) R'⟩
  | flat cs => simp [noRoB] at hB

theorem ro_of {len sz off : Nat} {a : Option Addr} {c : Nat} {r : List AVal} (h1 : len ≤ c) (h2 : c ≤ maxI) (h3 : len ≤ room) (hr : r.length = len * sz)
    (h : 0 < len → ∃ g, a = some ⟨g, off, none⟩ ∧ R g ∧ ∀ j v, r[j]? = some v → ∃ x, w.cell? ⟨g, off + j, none⟩ = some x ∧ x.oneCell' = true ∧ VR R w Mp.nil [] v x) : VR R w m H (.ro len sz (rowsOf sz r)) (.slice a len c) := by
  have hrow : ∀ i, i < len → i * sz + sz ≤ len * sz := fun i hi => by
    have := Nat.mul_le_mul_right sz (show i + 1 ≤ len from hi)
    rw [Nat.add_mul] at this; omega
  have hget : ∀ i j v, (rowsOf sz r i)[j]? = some v → r[i * sz + j]? = some v := fun i j v h => by
    unfold rowsOf at h
    rw [List.getElem?_take] at h
    split at h
    · rwa [List.getElem?_drop] at h
    · cases h
  by_cases h0 : 0 < len
  · obtain ⟨g, ha, hR, hc⟩ := h h0
    refine .ro len sz _ a c g off (fun i j => (w.cell? ⟨g, off + i * sz + j, none⟩).getD undef) h1 h2 h3 (fun _ => ⟨ha, hR⟩) (fun i j v hi hv => ?_) (fun i j v hi hv => ?_) fun i hi => ?_
    · obtain ⟨x, e1, e2, e3⟩ := hc _ v (hget i j v hv)
      rw [← Nat.add_assoc] at e1
      simp only [e1, Option.getD_some]; exact ⟨trivial, e2⟩
    · obtain ⟨x, e1, e2, e3⟩ := hc _ v (hget i j v hv)
      rw [← Nat.add_assoc] at e1
      simp only [e1, Option.getD_some]; exact e3
    · unfold rowsOf
      have := hrow i hi
      simp; omega
  · obtain rfl : len = 0 := by omega
    exact .ro 0 sz _ a c 0 off (fun _ _ => undef) h1 h2 h3 (fun h => absurd h (by omega)) (fun i j v hi _ => absurd hi (by omega)) (fun i j v hi _ => absurd hi (by omega)) fun i hi => absurd hi (by omega)

theorem roB_of {off : Nat} {a : Option Addr} {c : Nat} {l : List UInt8} (h1 : l.length ≤ c) (h2 : c ≤ maxI) (h3 : l.length ≤ room)
    (h : 0 < l.length → ∃ g, a = some ⟨g, off, none⟩ ∧ R g ∧ ∀ (i : Nat) x, l[i]? = some x → w.cell? ⟨g, off + i, none⟩ = some (.int .u8 (x.toNat : Int))) : VR R w m H (.roB l) (.slice a l.length c) := by
  by_cases h0 : 0 < l.length
  · obtain ⟨g, ha, hR, hc⟩ := h h0
    exact .roB l a c g off h1 h2 h3 (fun _ => ⟨ha, hR⟩) hc
  · exact .roB l a c 0 off h1 h2 h3 (fun h => absurd h h0) fun i x hx => by have := (List.getElem?_eq_some_iff.1 hx).1; omega

/-- what is frozen for the call -/
def RC (R : Nat → Prop) (m : Mp) (H : Hp) (ks : List Nat) (g : Nat) : Prop := R g ∨ ∃ k, k ∈ ks ∧ hget k H ≠ .dead ∧ m k = some g

theorem snapCL_get {imps : List Nat} : ∀ {cs l : List AVal}, snapCL imps H cs = some l → cs.length = l.length ∧ ∀ (i : Nat) v, l[i]? = some v → ∃ u, cs[i]? = some u ∧ snapC imps H u = some v
  | [], l, h => by simp [snapCL] at h; subst h; exact ⟨rfl, fun i v h => by simp at h⟩
  | u :: cs, l, h => by
    simp only [snapCL] at h
    split at h
    · rename_i a q h1 h2
      cases h
      obtain ⟨e1, e2⟩ := snapCL_get h2
      refine ⟨by simp [e1], fun i v hv => ?_⟩
      cases i with
      | zero => simp at hv; subst hv; exact ⟨u, rfl, h1⟩
      | succ i => simpa using e2 i v (by simpa using hv)
    · cases h
theorem snapsCL_sub {imps : List Nat} : ∀ {cs : List AVal} {i : Nat} {u : AVal}, cs[i]? = some u → ∀ k ∈ snapsC imps u, k ∈ snapsCL imps cs
  | [], i, u, h => by simp at h
  | v :: cs, 0, u, h => fun k hk => by simp at h; subst h; simp [snapsCL, hk]
  | v :: cs, i + 1, u, h => fun k hk => by simp [snapsCL]; exact .inr (snapsCL_sub (by simpa using h) k hk)

theorem snapC_sound (hS : Sim R w m H) {imps ks : List Nat} {v : AVal} {x : Value} (h : VR R w m H v x) : ∀ {v' : AVal}, snapC imps H v = some v' → (∀ k ∈ snapsC imps v, k ∈ ks) → VR (RC R m H ks) w m H v' x := by
  have same : ∀ {v : AVal} {x : Value}, VR R w m H v x → VR (RC R m H ks) w m H v x := fun h => VR.mono (fun _ h => .inl h) (fun _ _ => rfl) (fun _ _ h => h) h (fun _ _ h => h) (Nat.le_refl _) (hext_self H)
  suffices go : ∀ {m1 : Mp} {H1 : Hp}, m1 = m → H1 = H → VR R w m1 H1 v x → ∀ {v' : AVal}, snapC imps H v = some v' → (∀ k ∈ snapsC imps v, k ∈ ks) → VR (RC R m H ks) w m H v' x from fun {_} h1 h2 => go rfl rfl h h1 h2
  clear h
  intro m1 H1 hm hH h
  induction h with
  | undef x => intro v' h _; simp only [snapC, Option.some.injEq] at h; subst h; exact .undef x
  | bool b => intro v' h _; simp only [snapC, Option.some.injEq] at h; subst h; exact .bool b
  | int k n => intro v' h _; simp only [snapC, Option.some.injEq] at h; subst h; exact .int k n
  | byte x => intro v' h _; simp only [snapC, Option.some.injEq] at h; subst h; exact .byte x
  | str l hl => intro v' h _; simp only [snapC, Option.some.injEq] at h; subst h; exact .str l hl
  | nilS => intro v' h _; simp only [snapC, Option.some.injEq] at h; subst h; exact .nilS
  | @sl m1 H1 b off len sz a c h1 h2 h3 h4 h5 h6 =>
    subst hm hH
    intro v' h hk
    simp only [snapC] at h
    cases hb : elemN b imps with
    | true =>
      rw [hb] at h; simp only [cond_true, Option.some.injEq] at h; subst h
      exact same (.sl b off len sz a c h1 h2 h3 h4 h5 h6)
    | false =>
      rw [hb] at h; simp only [cond_false] at h
      have hbk : b ∈ ks := hk b (by simp [snapsC, hb])
      have src : ∀ B, hget b H1 = B → B ≠ .dead → 0 < len → ∃ g, a = some ⟨g, off, none⟩ ∧ RC R m1 H1 ks g ∧ ∀ j v, (B.av.drop off)[j]? = some v → ∃ x, w.cell? ⟨g, off + j, none⟩ = some x ∧ x.oneCell' = true ∧ VR R w m1 H1 v x ∧ (∀ cs, B = .flat cs → VR R w Mp.nil [] v x) := by
        intro B hB hd hp
        obtain ⟨g, n, e1, e2, _, _⟩ := h5 (by omega)
        refine ⟨g, e2, .inr ⟨b, hbk, by rw [hB]; exact hd, e1⟩, fun j v hv => ?_⟩
        obtain ⟨xs, e, fr, q1, q2, q3, q4, ys, r, hys, hvl⟩ := hS.cells (by rw [hB]; exact hd) e1
        rw [hB] at hvl q4
        rw [List.getElem?_drop] at hv
        have hlt : off + j < ys.length := by rw [← hvl.1]; exact (List.getElem?_eq_some_iff.1 hv).1
        have hx : xs[off + j]? = some ys[off + j] := by rw [hys, List.getElem?_append_left hlt, List.getElem?_eq_getElem hlt]
        refine ⟨ys[off + j], by rw [cell_of q1]; exact hx, q3 _ (by rw [hys]; exact List.mem_append_left _ (List.getElem_mem hlt)), hvl.2 _ _ _ hv (List.getElem?_eq_getElem hlt), fun cs hc => ?_⟩
        subst hc
        obtain ⟨zs, r', hz, hfl⟩ := q4
        have hlt' : off + j < zs.length := by rw [← hfl.1]; exact (List.getElem?_eq_some_iff.1 hv).1
        refine hfl.2 _ _ _ hv ?_
        rw [hz, List.getElem?_append_left hlt'] at hx; exact hx
      have lift : ∀ {v : AVal} {x : Value}, VR R w Mp.nil [] v x → VR (RC R m1 H1 ks) w Mp.nil [] v x := fun h => VR.mono (fun _ h => .inl h) (fun _ _ => rfl) (fun _ _ h => h) h (fun _ _ h => h) (Nat.le_refl _) (hext_self [])
      have take_get : ∀ (l : List AVal) (n j : Nat) (v : AVal), (l.take n)[j]? = some v → l[j]? = some v := fun l n j v h => by
        rw [List.getElem?_take] at h
        split at h
        · exact h
        · cases h
      split at h
      · rename_i l hl
        cases hsz : Nat.beq sz 1 with
        | false => rw [hsz] at h; cases h
        | true =>
          rw [hsz] at h; simp only [cond_true, Option.some.injEq] at h; subst h
          obtain rfl := Nat.eq_of_beq_eq_true hsz
          have hlen : ((l.drop off).take len).length = len := by
            rcases h6 with h6 | h6
            · rw [hl] at h6; cases h6
            · rw [hl] at h6; simp [ABlk.len] at h6 ⊢; omega
          have := roB_of (R := RC R m1 H1 ks) (w := w) (m := m1) (H := H1) (off := off) (a := a) (c := c) (l := (l.drop off).take len) (by omega) h2 (by omega) fun hp => by
            obtain ⟨g, e1, e2, e3⟩ := src _ hl (by simp) (by omega)
            refine ⟨g, e1, e2, fun i x hx => ?_⟩
            obtain ⟨y, f1, f2, f3, _⟩ := e3 i (.byte x) (by
              have := take_get _ _ i (.byte x) (show (((ABlk.bytes l).av.drop off).take len)[i]? = some (.byte x) by
                simp only [ABlk.av, ← List.map_drop, ← List.map_take, List.getElem?_map, hx]; rfl)
              exact this)
            cases f3; exact f1
          rw [hlen] at this; exact this
      · rename_i cs hl
        split at h
        · rename_i r hr
          obtain ⟨rfl, hle⟩ := partN_eq hr
          have hrl : ((cs.drop off).take (len * sz)).length = len * sz := by simp; omega
          split at h
          · rename_i l hb'
            cases hsz : Nat.beq sz 1 with
            | false => rw [hsz] at h; cases h
            | true =>
              rw [hsz] at h; simp only [cond_true, Option.some.injEq] at h; subst h
              obtain rfl := Nat.eq_of_beq_eq_true hsz
              have hbs := toBytes_eq hb'
              have hlen : l.length = len := by have := congrArg List.length hbs; rw [hrl] at this; simp at this; omega
              have := roB_of (R := RC R m1 H1 ks) (w := w) (m := m1) (H := H1) (off := off) (a := a) (c := c) (l := l) (by omega) h2 (by omega) fun hp => by
                obtain ⟨g, e1, e2, e3⟩ := src _ hl (by simp) (by omega)
                refine ⟨g, e1, e2, fun i x hx => ?_⟩
                obtain ⟨y, f1, f2, f3, _⟩ := e3 i (.byte x) (by
                  have := take_get _ _ i (.byte x) (show ((cs.drop off).take (len * 1))[i]? = some (.byte x) by
                    rw [hbs, List.getElem?_map, hx]; rfl)
                  exact this)
                cases f3; exact f1
              rw [hlen] at this; exact this
          · cases hcl : closedL ((cs.drop off).take (len * sz)) && Nat.ble 1 sz with
            | false => rw [hcl] at h; cases h
            | true =>
              rw [hcl] at h; simp only [cond_true, Option.some.injEq] at h; subst h
              rw [Bool.and_eq_true] at hcl
              refine ro_of (off := off) h1 h2 h3 hrl fun hp => ?_
              obtain ⟨g, e1, e2, e3⟩ := src _ hl (by simp) hp
              refine ⟨g, e1, e2, fun j v hv => ?_⟩
              obtain ⟨y, f1, f2, f3, _⟩ := e3 j v (take_get _ _ j v hv)
              exact ⟨y, f1, f2, lift (f3.closed (closedL_get hcl.1 hv))⟩
        · cases h
      · rename_i cs hl
        cases hsz : Nat.ble 1 sz with
        | false => rw [hsz] at h; cases h
        | true =>
          rw [hsz] at h; simp only [cond_true, Option.some.injEq] at h; subst h
          have hrl : ((cs.drop off).take (len * sz)).length = len * sz := by
            rcases h6 with h6 | h6
            · rw [hl] at h6; cases h6
            · rw [hl] at h6; simp [ABlk.len] at h6 ⊢; omega
          refine ro_of (off := off) h1 h2 h3 hrl fun hp => ?_
          obtain ⟨g, e1, e2, e3⟩ := src _ hl (by simp) hp
          refine ⟨g, e1, e2, fun j v hv => ?_⟩
          obtain ⟨y, f1, f2, _, f3⟩ := e3 j v (take_get _ _ j v hv)
          exact ⟨y, f1, f2, lift (f3 _ rfl)⟩
      · cases h
  | roB l a c g off h1 h2 h3 h4 h5 => intro v' h _; simp only [snapC, Option.some.injEq] at h; subst h; exact .roB l a c g off h1 h2 h3 (fun h => ⟨(h4 h).1, .inl (h4 h).2⟩) h5
  | ro n sz f a c g off X h1 h2 h3 h4 h5 h6 h7 ih =>
    intro v' h _; simp only [snapC, Option.some.injEq] at h; subst h
    refine same (.ro n sz f a c g off X h1 h2 h3 h4 h5 h6 h7)
  | nilP => intro v' h _; simp only [snapC, Option.some.injEq] at h; subst h; exact .nilP
  | ptr b off g hp => intro v' h _; simp only [snapC, Option.some.injEq] at h; subst h; subst hm hH; exact .ptr b off g hp
  | rop cs g off X h4 h5 h6 ih => intro v' h _; simp only [snapC, Option.some.injEq] at h; subst h; exact same (.rop cs g off X h4 h5 h6)
  | agg cs xs h1 h2 h3 ih =>
    intro v' h hk
    simp only [snapC] at h
    split at h
    · rename_i l hl
      cases h
      obtain ⟨e1, e2⟩ := snapCL_get hl
      refine .agg l xs (by omega) (fun i v x hv hx => ?_) h3
      obtain ⟨u, hu, hs⟩ := e2 i v hv
      exact ih i u x hu hx hm hH hs fun k hk' => hk k (by simp only [snapsC]; exact snapsCL_sub hu k hk')
    · cases h
  | tup cs xs h1 h2 ih => intro v' h hk; simp [snapC] at h
  | fn f a b xs ys h1 h2 h3 h4 ih1 ih2 =>
    intro v' h _; simp only [snapC, Option.some.injEq] at h; subst h; subst hm hH
    exact same (.fn f a b xs ys h1 h2 h3 h4)
  | nilF => intro v' h _; simp only [snapC, Option.some.injEq] at h; subst h; exact .nilF

theorem snapL_get {imps : List Nat} : ∀ {cs l : List AVal}, snapL imps H cs = some l → cs.length = l.length ∧ ∀ (i : Nat) v, l[i]? = some v → ∃ u, cs[i]? = some u ∧ snap imps H u = some v
  | [], l, h => by simp [snapL] at h; subst h; exact ⟨rfl, fun i v h => by simp at h⟩
  | u :: cs, l, h => by
    simp only [snapL] at h
    split at h
    · rename_i a q h1 h2
      cases h
      obtain ⟨e1, e2⟩ := snapL_get h2
      refine ⟨by simp [e1], fun i v hv => ?_⟩
      cases i with
      | zero => simp at hv; subst hv; exact ⟨u, rfl, h1⟩
      | succ i => simpa using e2 i v (by simpa using hv)
    · cases h
theorem snapsL_sub {imps : List Nat} : ∀ {cs : List AVal} {i : Nat} {u : AVal}, cs[i]? = some u → ∀ k ∈ snaps imps H u, k ∈ snapsL imps H cs
  | [], i, u, h => by simp at h
  | v :: cs, 0, u, h => fun k hk => by simp at h; subst h; simp [snapsL, hk]
  | v :: cs, i + 1, u, h => fun k hk => by simp [snapsL]; exact .inr (snapsL_sub (by simpa using h) k hk)

theorem snapN_sound (hS : Sim R w m H) {imps ks : List Nat} {b off len sz : Nat} {x : Value} (h : VR R w m H (.sl b off len sz) x) {v' : AVal} (hs : snapN imps H b off len sz = some v') (hb : b ∈ ks) (hk : ∀ k ∈ innerN imps H b off len sz, k ∈ ks) : VR (RC R m H ks) w m H v' x := by
  cases h with
  | sl b off len sz a c h1 h2 h3 h4 h5 h6 =>
  unfold snapN at hs
  unfold innerN at hk
  split at hs
  · rename_i cs hl
    rw [hl] at hk
    split at hs
    · rename_i r hr
      simp only [hr] at hk
      obtain ⟨rfl, hle⟩ := partN_eq hr
      split at hs
      · rename_i r' hr'
        cases hc : closedL r' && Nat.ble 1 sz with
        | false => rw [hc] at hs; cases hs
        | true =>
          rw [hc] at hs
          simp only [cond_true, Option.some.injEq] at hs
          subst hs
          rw [Bool.and_eq_true] at hc
          obtain ⟨g1, g2⟩ := snapCL_get hr'
          have hrl : r'.length = len * sz := by rw [← g1]; simp; omega
          refine ro_of (off := off) h1 h2 h3 hrl fun hp => ?_
          obtain ⟨g, n, e1, e2, _, _⟩ := h5 (by omega)
          refine ⟨g, e2, .inr ⟨b, hb, by rw [hl]; simp, e1⟩, fun j v hv => ?_⟩
          obtain ⟨u, hu, hsn⟩ := g2 j v hv
          obtain ⟨xs, e, fr, q1, q2, q3, q4, ys, rr, hys, hvl⟩ := hS.cells (by rw [hl]; simp) e1
          rw [hl] at hvl
          have hu' : cs[off + j]? = some u := by
            rw [List.getElem?_take] at hu
            split at hu
            · rwa [List.getElem?_drop] at hu
            · cases hu
          have hlt : off + j < ys.length := by rw [← hvl.1]; exact (List.getElem?_eq_some_iff.1 hu').1
          have hx : xs[off + j]? = some ys[off + j] := by rw [hys, List.getElem?_append_left hlt, List.getElem?_eq_getElem hlt]
          have hvr := hvl.2 (off + j) u _ hu' (List.getElem?_eq_getElem hlt)
          have := snapC_sound hS hvr hsn (ks := ks) fun k hk' => hk k (snapsCL_sub hu k hk')
          exact ⟨ys[off + j], by rw [cell_of q1]; exact hx, q3 _ (by rw [hys]; exact List.mem_append_left _ (List.getElem_mem hlt)), this.closed (closedL_get hc.1 hv)⟩
      · cases hs
    · cases hs
  · cases hs

theorem snap_sound (hS : Sim R w m H) {imps ks : List Nat} {v : AVal} : ∀ {x : Value}, VR R w m H v x → ∀ {v' : AVal}, snap imps H v = some v' → (∀ k ∈ snaps imps H v, k ∈ ks) → VR (RC R m H ks) w m H v' x := by
  refine AVal.rec (motive_1 := fun v => ∀ {x : Value}, VR R w m H v x → ∀ {v' : AVal}, snap imps H v = some v' → (∀ k ∈ snaps imps H v, k ∈ ks) → VR (RC R m H ks) w m H v' x)
    (motive_2 := fun vs => ∀ (i : Nat) v, vs[i]? = some v → ∀ {x : Value}, VR R w m H v x → ∀ {v' : AVal}, snap imps H v = some v' → (∀ k ∈ snaps imps H v, k ∈ ks) → VR (RC R m H ks) w m H v' x) ?_ ?_ ?_ ?_ ?_ ?_ ?_ ?_ ?_ ?_ ?_ ?_ ?_ ?_ ?_ ?_ ?_ ?_ v
  · intro x h v' hs hk; exact snapC_sound (imps := imps) hS h hs hk
  · intro b x h v' hs hk; exact snapC_sound (imps := imps) hS h hs hk
  · intro k n x h v' hs hk; exact snapC_sound (imps := imps) hS h hs hk
  · intro y x h v' hs hk; exact snapC_sound (imps := imps) hS h hs hk
  · intro l x h v' hs hk; exact snapC_sound (imps := imps) hS h hs hk
  · intro x h v' hs hk; exact snapC_sound (imps := imps) hS h hs hk
  · intro b off len sz x h v' hs hk
    simp only [snap] at hs
    split at hs
    · rename_i v hv
      cases hs
      refine snapC_sound hS h hv fun k hk' => ?_
      simp only [snapsC] at hk'
      simp only [snaps] at hk
      cases hb : elemN b imps with
      | true => rw [hb] at hk'; simp at hk'
      | false => rw [hb] at hk'; simp at hk'; rw [hb] at hk; exact hk k (by simp [hk'])
    · cases hb : elemN b imps with
      | true => rw [hb] at hs; cases hs
      | false =>
        rw [hb] at hs
        simp only [cond_false] at hs
        simp only [snaps, hb, cond_false] at hk
        exact snapN_sound hS h hs (hk b (by simp)) fun k hk' => hk k (by simp [hk'])
  · intro l x h v' hs hk; exact snapC_sound (imps := imps) hS h hs hk
  · intro n sz f ih x h v' hs hk; exact snapC_sound (imps := imps) hS h hs hk
  · intro x h v' hs hk; exact snapC_sound (imps := imps) hS h hs hk
  · intro b off x h v' hs hk; exact snapC_sound (imps := imps) hS h hs hk
  · intro cs ih x h v' hs hk; exact snapC_sound (imps := imps) hS h hs hk
  · intro cs ih x h v' hs hk
    cases h with
    | agg cs xs h1 h2 h3 =>
      simp only [snap] at hs
      split at hs
      · rename_i l hl
        cases hs
        obtain ⟨e1, e2⟩ := snapL_get hl
        refine .agg l xs (by omega) (fun i v x hv hx => ?_) h3
        obtain ⟨u, hu, hs⟩ := e2 i v hv
        exact ih i u hu (h2 i u x hu hx) hs fun k hk' => hk k (by simp only [snaps]; exact snapsL_sub hu k hk')
      · cases hs
  · intro cs ih x h v' hs hk; simp [snap] at hs
  · intro f a b iha ihb x h v' hs hk; exact snapC_sound (imps := imps) hS h hs hk
  · intro x h v' hs hk; exact snapC_sound (imps := imps) hS h hs hk
  · intro i v h; simp at h
  · intro v vs h1 h2 i u hu
    cases i with
    | zero => simp at hu; subst hu; exact h1
    | succ i => exact h2 i u (by simpa using hu)

end
end Go.Proofs.Ytnbbaemijogeoaa.Ae
namespace Go.Proofs.Ytnbbaemijogeoaa.Ae
open Go

/-- what a function comes to -/
structure Gives (P : Program) (f : Nat) (args : List AVal) (H : Hp) (v : AVal) (H' : Hp) : Prop where
  fn : ∃ g, P.funcs[f]? = some g ∧ (g.name == "runtime.NumGoroutine") = false ∧ g.body.isNone = false
  run : ∀ (R : Nat → Prop) (w : World) (m : Mp) (xs : List Value), Sim R w m H → VL R w m H args xs → Calls P f xs.toArray w fun e w' => ∃ R' m' x, e = .returned x ∧ Far R w m H R' w' m' H' ∧ VR R' w' m' H' v x
/-- a table of what functions come to -/
def TSound (P : Program) (T : Specs) : Prop := ∀ f args H K, T f args H K → ∃ v H', K v H' ∧ Gives P f args H v H'

theorem forceV_iff {v : AVal} {k : AVal → Prop} : forceV v k ↔ k v := by cases v <;> exact Iff.rfl
theorem forceL_iff {α : Type} : ∀ {l : List α} {k : List α → Prop}, forceL l k ↔ k l
  | [], k => Iff.rfl
  | x :: r, k => by simp only [forceL]; exact forceL_iff

section
variable {P : Program} {R R' : Nat → Prop} {w w' : World} {m m' : Mp} {H H' : Hp}

theorem backN_lt {base : Nat} : ∀ {imps : List Nat} {j k : Nat}, imps[j]? = some k → backN base imps j = some k
  | [], j, k, h => by simp at h
  | i :: r, 0, k, h => by simp at h; subst h; rfl
  | i :: r, j + 1, k, h => by simpa [backN] using backN_lt (base := base) (imps := r) (by simpa using h)
theorem backN_ge {base : Nat} : ∀ {imps : List Nat} {j : Nat}, backN base imps (imps.length + j) = some (base + j)
  | [], j => by simp [backN]
  | i :: r, j => by
    rw [List.length_cons, show r.length + 1 + j = (r.length + j) + 1 by omega]
    simpa [backN] using backN_ge (base := base) (imps := r) (j := j)
theorem dropH_get : ∀ {imps : List Nat} {Hc : Hp} {j : Nat}, imps.length ≤ Hc.length → hget j (dropH imps Hc) = hget (imps.length + j) Hc
  | [], Hc, j, _ => by simp [dropH]
  | i :: r, [], j, h => by simp at h
  | i :: r, b :: bs, j, h => by
    rw [List.length_cons, show r.length + 1 + j = (r.length + j) + 1 by omega]
    simpa [dropH, hget] using dropH_get (imps := r) (Hc := bs) (j := j) (by simpa using h)
theorem dropH_length : ∀ {imps : List Nat} {Hc : Hp}, imps.length ≤ Hc.length → (dropH imps Hc).length = Hc.length - imps.length
  | [], Hc, _ => by simp [dropH]
  | i :: r, [], h => by simp at h
  | i :: r, b :: bs, h => by simpa [dropH] using dropH_length (imps := r) (Hc := bs) (by simpa using h)
theorem renH_get (r : Nat → Option Nat) : ∀ (H : Hp) (k : Nat), hget k (renH r H) = renB r (hget k H)
  | [], k => by simp [renH, hget, renB]
  | b :: bs, 0 => rfl
  | b :: bs, k + 1 => by simpa [renH, hget] using renH_get r bs k
theorem renH_length (r : Nat → Option Nat) : ∀ (H : Hp), (renH r H).length = H.length
  | [] => rfl
  | b :: bs => by simp [renH, renH_length r bs]
theorem hsets_length : ∀ (l : List (Nat × ABlk)) (H : Hp), (hsets l H).length = H.length
  | [], H => rfl
  | (k, b) :: r, H => by simp only [hsets]; rw [hsets_length r, hset_length]
theorem hsets_append : ∀ (l l' : List (Nat × ABlk)) (H : Hp), hsets (l ++ l') H = hsets l' (hsets l H)
  | [], l', H => rfl
  | (k, b) :: r, l', H => by simp only [List.cons_append, hsets]; exact hsets_append r l' _
theorem hsets_zip_ne (r : Nat → Option Nat) {k : Nat} : ∀ {imps : List Nat} {Hc H : Hp}, k ∉ imps → hget k (hsets (zipSets r imps Hc) H) = hget k H
  | [], Hc, H, _ => by cases Hc <;> rfl
  | i :: is, [], H, _ => rfl
  | i :: is, b :: bs, H, h => by
    simp only [zipSets, hsets]
    rw [hsets_zip_ne r (imps := is) (fun hm => h (by simp [hm])), hget_hset_ne (fun e => h (by simp [e]))]
theorem hsets_zip (r : Nat → Option Nat) {k : Nat} : ∀ {imps : List Nat} {Hc H : Hp} {j : Nat}, imps.Nodup → imps.length ≤ Hc.length → imps[j]? = some k → k < H.length → hget k (hsets (zipSets r imps Hc) H) = renB r (hget j Hc)
  | [], Hc, H, j, _, _, h, _ => by simp at h
  | i :: is, [], H, j, _, h, _, _ => by simp at h
  | i :: is, b :: bs, H, 0, hn, hl, h, hk => by
    simp at h; subst h
    simp only [zipSets, hsets]
    rw [hsets_zip_ne r (List.nodup_cons.1 hn).1, hget_hset_same hk]; rfl
  | i :: is, b :: bs, H, j + 1, hn, hl, h, hk => by
    simp only [zipSets, hsets]
    rw [hsets_zip r (imps := is) (Hc := bs) (j := j) (List.nodup_cons.1 hn).2 (by simpa using hl) (by simpa using h) (by rw [hset_length]; exact hk)]
    rfl
theorem deads_in {k : Nat} : ∀ {ks : List Nat} {H : Hp}, k ∈ ks → hget k (hsets (deads ks) H) = .dead
  | [], H, h => by simp at h
  | i :: r, H, h => by
    simp only [deads, hsets]
    by_cases hr : k ∈ r
    · exact deads_in hr
    · have : k = i := by simpa [hr] using h
      subst this
      have keep : ∀ (l : List Nat) (H : Hp), hget k H = .dead → hget k (hsets (deads l) H) = .dead := by
        intro l
        induction l with
        | nil => intro H h; exact h
        | cons j l ih =>
          intro H h
          simp only [deads, hsets]
          refine ih _ ?_
          by_cases hj : k = j
          · subst hj
            rcases Nat.lt_or_ge k H.length with hlt | hge
            · exact hget_hset_same hlt
            · exact hget_out (by rw [hset_length]; exact hge)
          · rw [hget_hset_ne hj]; exact h
      refine keep r _ ?_
      rcases Nat.lt_or_ge k H.length with hlt | hge
      · exact hget_hset_same hlt
      · exact hget_out (by rw [hset_length]; exact hge)
theorem deads_out {k : Nat} : ∀ {ks : List Nat} {H : Hp}, k ∉ ks → hget k (hsets (deads ks) H) = hget k H
  | [], H, _ => rfl
  | i :: r, H, h => by
    simp only [deads, hsets]
    rw [deads_out (fun hm => h (by simp [hm])), hget_hset_ne (fun e => h (by simp [e]))]
theorem noRoH_get : ∀ {H : Hp} {k : Nat}, noRoH H = true → noRoB (hget k H) = true
  | [], k, _ => by simp [hget, noRoB]
  | b :: r, 0, h => by simp [noRoH] at h; exact h.1
  | b :: r, k + 1, h => by simp [noRoH] at h; simpa [hget] using noRoH_get (k := k) h.2
theorem snapsC_imps {imps : List Nat} : ∀ {vs : List AVal} {k : Nat}, k ∈ snapsCL imps vs → k ∉ imps := by
  have one : ∀ (v : AVal) (k : Nat), k ∈ snapsC imps v → k ∉ imps := by
    intro v
    refine AVal.rec (motive_1 := fun v => ∀ k, k ∈ snapsC imps v → k ∉ imps) (motive_2 := fun vs => ∀ k, k ∈ snapsCL imps vs → k ∉ imps) ?_ ?_ ?_ ?_ ?_ ?_ ?_ ?_ ?_ ?_ ?_ ?_ ?_ ?_ ?_ ?_ ?_ ?_ v
    all_goals try (intros; simp_all [snapsC, snapsCL]; done)
    · intro b off len sz k hk
      simp only [snapsC] at hk
      cases hb : elemN b imps with
      | true => rw [hb] at hk; simp at hk
      | false => rw [hb] at hk; simp at hk; subst hk; exact fun h => by rw [elemN_iff.2 h] at hb; cases hb
    · intro v vs h1 h2 k hk
      simp only [snapsCL, List.mem_append] at hk
      exact hk.elim (h1 k) (h2 k)
  intro vs
  induction vs with
  | nil => intro k h; simp [snapsCL] at h
  | cons v vs ih => intro k h; simp only [snapsCL, List.mem_append] at h; exact h.elim (one v k) ih
theorem snaps_imps {imps : List Nat} {H : Hp} : ∀ {vs : List AVal} {k : Nat}, k ∈ snapsL imps H vs → k ∉ imps := by
  have one : ∀ (v : AVal) (k : Nat), k ∈ snaps imps H v → k ∉ imps := by
    intro v
    refine AVal.rec (motive_1 := fun v => ∀ k, k ∈ snaps imps H v → k ∉ imps) (motive_2 := fun vs => ∀ k, k ∈ snapsL imps H vs → k ∉ imps) ?_ ?_ ?_ ?_ ?_ ?_ ?_ ?_ ?_ ?_ ?_ ?_ ?_ ?_ ?_ ?_ ?_ ?_ v
    all_goals try (intros; simp_all [snaps, snapsL]; done)
    · intro b off len sz k hk
      simp only [snaps] at hk
      cases hb : elemN b imps with
      | true => rw [hb] at hk; simp at hk
      | false =>
        rw [hb] at hk
        simp only [cond_false, List.mem_cons] at hk
        rcases hk with rfl | hk
        · exact fun h => by rw [elemN_iff.2 h] at hb; cases hb
        · unfold innerN at hk
          split at hk
          · split at hk
            · exact snapsC_imps hk
            · simp at hk
          · simp at hk
    · intro v vs h1 h2 k hk
      simp only [snapsL, List.mem_append] at hk
      exact hk.elim (h1 k) (h2 k)
  intro vs
  induction vs with
  | nil => intro k h; simp [snapsL] at h
  | cons v vs ih => intro k h; simp only [snapsL, List.mem_append] at h; exact h.elim (one v k) ih

theorem idxO_none {k : Nat} {l : List Nat} (h : idxO k l = none) : k ∉ l := fun hm => by
  obtain ⟨i, hi⟩ := idxO_mem hm
  rw [h] at hi; cases hi
theorem allLt_get : ∀ {l : List Nat} {n : Nat}, allLt l n = true → ∀ k ∈ l, k < n
  | [], n, _, k, h => by simp at h
  | j :: r, n, h, k, hk => by
    simp only [allLt, Bool.and_eq_true] at h
    rcases List.mem_cons.1 hk with rfl | hk
    · exact Nat.le_of_ble_eq_true h.1
    · exact allLt_get h.2 k hk

theorem call_sound (hS : Sim R w m H) {args as1 : List AVal} {xs : List Value} (hx : VL R w m H args xs) {imps : List Nat} (hn : imps.Nodup) (hlt : ∀ k ∈ imps, k < H.length)
    (hs : snapL imps H args = some as1) {f : Nat} {v : AVal} {Hc : Hp} (hg : Gives P f (renL (fun k => idxO k imps) as1) (subHeap (fun k => idxO k imps) H imps) v Hc) :
    Calls P f xs.toArray w fun e w' => ∃ R' m' x, e = .returned x ∧ Far R w m H R' w' m' ((backE imps (snapsL imps H args) H v Hc).app H) ∧ VR R' w' m' ((backE imps (snapsL imps H args) H v Hc).app H) (ren (backN H.length imps) v) x := by
  have hks : ∀ k ∈ snapsL imps H args, k ∉ imps := fun k => snaps_imps
  generalize hksd : snapsL imps H args = ks at *
  have hN := sub_num imps m H
  have hS1 := hS.sub hn
  generalize hHs : subHeap (fun k => idxO k imps) H imps = Hs at *
  have hHl : Hs.length = imps.length := by rw [← hHs, subHeap_length]
  have hsub : ∀ (j k : Nat), imps[j]? = some k → hget j Hs = renB (fun k => idxO k imps) (hget k H) ∧ subM imps m j = m k := fun j k h => ⟨by rw [← hHs]; exact subHeap_get _ _ _ _ _ h, by simp [subM, h]⟩
  have hsubl : ∀ j, hget j Hs ≠ .dead → ∃ k, imps[j]? = some k ∧ hget k H ≠ .dead ∧ subM imps m j = m k := fun j hj => by
    have h1 : j < imps.length := by rw [← hHl]; exact hget_lt hj
    have h2 := List.getElem?_eq_getElem h1
    exact ⟨_, h2, fun hd => hj (by rw [(hsub _ _ h2).1, hd]; rfl), (hsub _ _ h2).2⟩
  have hSc : Sim (RC R m H ks) w (subM imps m) Hs := by
    refine ⟨fun g hg => ?_, hS1.out, fun k g hk hg => ?_, hS1.ph, hS1.inj⟩
    · rcases hg with hg | ⟨k, _, h1, h2⟩
      · exact hS.rlt g hg
      · obtain ⟨_, ys, e, fr, h3, _⟩ := hS.own k g h1 h2
        exact (Array.getElem?_eq_some_iff.1 h3).1
    · obtain ⟨a1, ys, e, fr, a2, a3, a4, a5⟩ := hS1.own k g hk hg
      refine ⟨fun hr => ?_, ys, e, fr, a2, a3, a4, a5.mono (fun _ h => .inl h) (fun _ _ => rfl) (fun _ _ h => h) (fun _ _ h => h) (Nat.le_refl _) (hext_self _)⟩
      rcases hr with hr | ⟨k', b1, b2, b3⟩
      · exact a1 hr
      · obtain ⟨q, q1, q2, q3⟩ := hsubl k hk
        rw [q3] at hg
        have := hS.inj _ _ _ b2 q2 b3 hg
        subst this
        exact hks k' b1 (List.mem_of_getElem? q1)
  have hxc : VL (RC R m H ks) w (subM imps m) Hs (renL (fun k => idxO k imps) as1) xs := by
    obtain ⟨e1, e2⟩ := snapL_get hs
    refine ⟨by rw [renL_length, ← e1]; exact hx.1, fun i v x hv hx' => ?_⟩
    obtain ⟨u, hu, rfl⟩ := renL_some hv
    obtain ⟨u', hu', hsn⟩ := e2 i u hu
    exact (snap_sound hS (hx.2 i u' x hu' hx') hsn fun k hk => by rw [← hksd]; exact snapsL_sub hu' k hk).ren hN
  refine (hg.run _ w _ xs hSc hxc).mono fun e w' ⟨R', m', x, he, F, V⟩ => ?_
  have hic : imps.length ≤ Hc.length := by rw [← hHl]; exact F.hlen
  generalize hkeep : (noRo v && noRoH Hc) = keep
  generalize hβ : backN H.length imps = β
  generalize hm2 : (fun k => if k < H.length then (match idxO k imps with | some j => m' j | none => m k) else m' (imps.length + (k - H.length)) : Mp) = m2
  generalize hH2 : (backE imps ks H v Hc).app H = H2
  have hzl : ∀ (k : Nat), k < H.length → hget k H2 = hget k (hsets (deads (cond keep [] ks)) (hsets (zipSets β imps Hc) H)) := fun k hk => by
    rw [← hH2]
    simp only [Eff.app, backE, hkeep, hβ]
    rw [hget_append_lt (by rw [hsets_length]; exact hk), hsets_append]
  have hlen2 : H2.length = H.length + (Hc.length - imps.length) := by
    rw [← hH2]; simp only [Eff.app, backE, List.length_append, hsets_length, renH_length]; rw [dropH_length hic]
  have hnew : ∀ j, hget (H.length + j) H2 = renB β (hget (imps.length + j) Hc) := fun j => by
    rw [← hH2]
    simp only [Eff.app, backE, hβ]
    rw [show H.length + j = (hsets (zipSets β imps Hc ++ deads (cond (noRo v && noRoH Hc) [] ks)) H).length + j by rw [hsets_length], hget_append_ge, renH_get, dropH_get hic]
  have himp : ∀ (j k : Nat), imps[j]? = some k → hget k H2 = renB β (hget j Hc) ∧ m2 k = m' j ∧ β j = some k := fun j k h => by
    have hk := hlt k (List.mem_of_getElem? h)
    have hnk : k ∉ ks := fun hm => hks k hm (List.mem_of_getElem? h)
    refine ⟨?_, ?_, by rw [← hβ]; exact backN_lt h⟩
    · rw [hzl k hk, deads_out (fun hm => hnk (by cases keep with | true => simp at hm | false => exact hm)), hsets_zip β hn hic h hk]
    · obtain ⟨i, hi⟩ := idxO_mem (List.mem_of_getElem? h)
      have := nodup_inj hn (idxO_get hi) h
      subst this
      rw [← hm2]; simp [hk, hi]
  have hold : ∀ k, k < H.length → k ∉ imps → m2 k = m k ∧ (hget k H2 = .dead ∨ (hget k H2 = hget k H ∧ (keep = true ∨ k ∉ ks))) := fun k hk hni => by
    refine ⟨?_, ?_⟩
    · have : idxO k imps = none := by
        cases hi : idxO k imps with
        | none => rfl
        | some i => exact absurd (List.mem_of_getElem? (idxO_get hi)) hni
      rw [← hm2]; simp [hk, this]
    · rw [hzl k hk]
      cases keep with
      | true => exact .inr ⟨by simp only [cond]; rw [show hsets (deads []) (hsets (zipSets β imps Hc) H) = hsets (zipSets β imps Hc) H from rfl, hsets_zip_ne β hni], .inl rfl⟩
      | false =>
        by_cases hkk : k ∈ ks
        · exact .inl (deads_in hkk)
        · exact .inr ⟨by rw [deads_out (by simpa using hkk), hsets_zip_ne β hni], .inr hkk⟩
  have hnewm : ∀ j, m2 (H.length + j) = m' (imps.length + j) ∧ β (imps.length + j) = some (H.length + j) := fun j => by
    refine ⟨by rw [← hm2]; exact (if_neg (by omega)).trans (by rw [show H.length + j - H.length = j by omega]), by rw [← hβ]; exact backN_ge⟩
  -- every block is the callee's or the caller's alone
  have cls : ∀ k, hget k H2 ≠ .dead → (∃ j, β j = some k ∧ hget k H2 = renB β (hget j Hc) ∧ m2 k = m' j ∧ hget j Hc ≠ .dead) ∨ (k < H.length ∧ k ∉ imps ∧ m2 k = m k ∧ hget k H2 = hget k H ∧ (keep = true ∨ k ∉ ks)) := fun k hk => by
    by_cases h : k < H.length
    · by_cases hi : k ∈ imps
      · obtain ⟨j, hj⟩ := List.getElem?_of_mem hi
        obtain ⟨a, b, c⟩ := himp j k hj
        exact .inl ⟨j, c, a, b, fun hd => hk (by rw [a, hd]; rfl)⟩
      · obtain ⟨a, b⟩ := hold k h hi
        rcases b with b | ⟨b, c⟩
        · exact absurd b hk
        · exact .inr ⟨h, hi, a, b, c⟩
    · have e : k = H.length + (k - H.length) := by omega
      rw [e] at hk ⊢
      obtain ⟨a, b⟩ := hnewm (k - H.length)
      exact .inl ⟨_, b, hnew _, a, fun hd => hk (by rw [hnew, hd]; rfl)⟩
  have hβi : ∀ j j' k, β j = some k → β j' = some k → hget k H2 ≠ .dead → j = j' := by
    have aux : ∀ j k, β j = some k → (imps[j]? = some k) ∨ (imps.length ≤ j ∧ k = H.length + (j - imps.length)) := fun j k h => by
      rcases Nat.lt_or_ge j imps.length with hj | hj
      · have h1 := List.getElem?_eq_getElem hj
        rw [← hβ, backN_lt h1] at h
        exact .inl (by rw [h1]; exact h)
      · have e : j = imps.length + (j - imps.length) := by omega
        rw [e, (hnewm _).2] at h
        exact .inr ⟨hj, (Option.some.inj h).symm⟩
    intro j j' k h h' _
    rcases aux j k h with h1 | ⟨h1, h2⟩ <;> rcases aux j' k h' with h3 | ⟨h3, h4⟩
    · exact nodup_inj hn h1 h3
    · have := hlt k (List.mem_of_getElem? h1); omega
    · have := hlt k (List.mem_of_getElem? h3); omega
    · omega
  have hNb : Num β m' Hc m2 H2 := by
    have aux : ∀ j k, β j = some k → m2 k = m' j ∧ hget k H2 = renB β (hget j Hc) ∧ (j < Hc.length → k < H2.length) := fun j k h => by
      rcases Nat.lt_or_ge j imps.length with hj | hj
      · have h1 := List.getElem?_eq_getElem hj
        have h2 := h1
        rw [← hβ, backN_lt h1] at h
        rw [h] at h2
        obtain ⟨a, b, _⟩ := himp j k h2
        exact ⟨b, a, fun _ => by have := hlt k (List.mem_of_getElem? h2); omega⟩
      · have e : j = imps.length + (j - imps.length) := by omega
        rw [e, (hnewm _).2] at h
        obtain rfl := Option.some.inj h
        refine ⟨by rw [(hnewm _).1, ← e], by rw [hnew, ← e], fun hjl => by omega⟩
    refine ⟨fun j k g h hm => by rw [(aux j k h).1]; exact hm, fun j k h hj => (aux j k h).2.2 hj, fun j k h hj => ?_⟩
    rw [(aux j k h).2.1, renB_len, renB_dead]
    by_cases hd : hget j Hc = .dead
    · exact .inl hd
    · exact .inr ⟨hd, rfl⟩
  have hagree : ∀ k g, m k = some g → m2 k = some g := fun k g h => by
    have hk : k < H.length := by
      rcases Nat.lt_or_ge k H.length with h' | h'
      · exact h'
      · rw [hS.out k h'] at h; cases h
    by_cases hi : k ∈ imps
    · obtain ⟨j, hj⟩ := List.getElem?_of_mem hi
      rw [(himp j k hj).2.1]
      exact F.agree j g (by rw [(hsub j k hj).2]; exact h)
    · rw [(hold k hk hi).1]; exact h
  have hsame : ∀ k, k < H.length → m2 k = m k := fun k hk => by
    by_cases hi : k ∈ imps
    · obtain ⟨j, hj⟩ := List.getElem?_of_mem hi
      rw [(himp j k hj).2.1, F.same j (by rw [hHl]; exact (List.getElem?_eq_some_iff.1 hj).1), (hsub j k hj).2]
    · exact (hold k hk hi).1
  have hext : ∀ k, k < H.length → hget k H2 = .dead ∨ (hget k H ≠ .dead ∧ (hget k H2).len = (hget k H).len) := fun k hk => by
    by_cases hi : k ∈ imps
    · obtain ⟨j, hj⟩ := List.getElem?_of_mem hi
      rw [(himp j k hj).1, renB_len, renB_dead]
      rcases F.hext j (by rw [hHl]; exact (List.getElem?_eq_some_iff.1 hj).1) with h | ⟨h1, h2⟩
      · exact .inl h
      · rw [(hsub j k hj).1, renB_len] at h2
        rw [(hsub j k hj).1] at h1
        exact .inr ⟨fun hd => h1 (renB_dead.2 hd), h2⟩
    · rcases (hold k hk hi).2 with h | ⟨h, _⟩
      · exact .inl h
      · by_cases hd : hget k H = .dead
        · exact .inl (by rw [h]; exact hd)
        · exact .inr ⟨hd, by rw [h]⟩
  have hlen : H.length ≤ H2.length := by omega
  have hR2 : ∀ g, R g → R' g := fun g h => F.sub g (.inl h)
  have gone : ∀ k g, k < H.length → k ∉ imps → hget k H ≠ .dead → m k = some g → g < w.heap.size ∧ ∀ j, hget j Hs ≠ .dead → subM imps m j ≠ some g := fun k g _ hi hd hg => by
    obtain ⟨_, ys, e, fr, h3, _⟩ := hS.own k g hd hg
    refine ⟨(Array.getElem?_eq_some_iff.1 h3).1, fun j hj hm => ?_⟩
    obtain ⟨q, q1, q2, q3⟩ := hsubl j hj
    rw [q3] at hm
    have := hS.inj _ _ _ hd q2 hg hm
    subst this
    exact hi (List.mem_of_getElem? q1)
  -- both ways at once: what is frozen afterwards
  have main : ∀ R2 : Nat → Prop, (∀ g, R g → R2 g) → (∀ g, R2 g → R' g) → (keep = true → R2 = R) → (keep = false → R2 = R') → Sim R2 w' m2 H2 := by
    intro R2 hl hr hk1 hk0
    have br : ∀ (j : Nat) (B : ABlk) (xs : List Value), hget j Hc = B → BR R' w' m' Hc B xs → BR R2 w' m2 H2 (renB β B) xs := fun j B xs hB hb => by
      refine BR.ren ?_ hNb
      cases hkk : keep with
      | true =>
        rw [hkk, Bool.and_eq_true] at hkeep
        exact hb.noRo (by rw [← hB]; exact noRoH_get hkeep.2) R2
      | false => rw [hk0 hkk]; exact hb
    refine ⟨fun g hg => F.sim.rlt g (hr g hg), fun k hk => ?_, fun k g hk hg => ?_, fun k hk hg => ?_, fun k k' g hk hk' hg hg' => ?_⟩
    · have e : k = H.length + (k - H.length) := by omega
      rw [e, (hnewm _).1]
      exact F.sim.out _ (by omega)
    · rcases cls k hk with ⟨j, b1, b2, b3, b4⟩ | ⟨b1, b2, b3, b4, b5⟩
      · rw [b3] at hg
        obtain ⟨a1, ys, e, fr, a2, a3, a4, a5⟩ := F.sim.own j g b4 hg
        exact ⟨fun h => a1 (hr g h), ys, e, fr, a2, a3, a4, by rw [b2]; exact br j _ ys rfl a5⟩
      · rw [b3] at hg
        have hd : hget k H ≠ .dead := by rw [← b4]; exact hk
        obtain ⟨a1, ys, e, fr, a2, a3, a4, a5⟩ := hS.own k g hd hg
        obtain ⟨c1, c2⟩ := gone k g b1 b2 hd hg
        refine ⟨fun h => ?_, ys, e, fr, by rw [F.frame g c1 c2]; exact a2, a3, a4, ?_⟩
        · cases hkk : keep with
          | true => rw [hk1 hkk] at h; exact a1 h
          | false =>
            rcases F.newR g (hr g h) with (h | ⟨k', d1, d2, d3⟩) | h | ⟨j, d1, d2⟩
            · exact a1 h
            · have := hS.inj _ _ _ d2 hd d3 hg
              subst this
              rcases b5 with b5 | b5
              · rw [hkk] at b5; cases b5
              · exact b5 d1
            · omega
            · exact c2 j d1 d2
        · rw [b4]
          exact a5.mono hl (fun g hg => F.rsame hSc g (.inl hg)) F.rows hagree hlen hext
    · rcases cls k hk with ⟨j, b1, b2, b3, b4⟩ | ⟨b1, b2, b3, b4, b5⟩
      · rw [b3] at hg; rw [b2, renB_len]; exact F.sim.ph j b4 hg
      · rw [b3] at hg; rw [b4] at hk ⊢; exact hS.ph k hk hg
    · have mix : ∀ k k', hget k H2 ≠ .dead → hget k' H2 ≠ .dead → (∃ j, β j = some k ∧ hget k H2 = renB β (hget j Hc) ∧ m2 k = m' j ∧ hget j Hc ≠ .dead) → (k' < H.length ∧ k' ∉ imps ∧ m2 k' = m k' ∧ hget k' H2 = hget k' H ∧ (keep = true ∨ k' ∉ ks)) → m2 k = some g → m2 k' = some g → False := by
        rintro k k' hk hk' ⟨j, b1, b2, b3, b4⟩ ⟨c1, c2, c3, c4, c5⟩ hg hg'
        rw [b3] at hg; rw [c3] at hg'
        obtain ⟨d1, d2⟩ := gone k' g c1 c2 (by rw [← c4]; exact hk') hg'
        rcases F.news j g b4 hg with h | ⟨j0, h1, h2⟩
        · omega
        · exact d2 j0 h1 h2
      have ck := cls k hk
      have ck' := cls k' hk'
      rcases ck with b | b <;> rcases ck' with c | c
      · obtain ⟨j, b1, b2, b3, b4⟩ := b
        obtain ⟨j', c1, c2, c3, c4⟩ := c
        rw [b3] at hg; rw [c3] at hg'
        have := F.sim.inj j j' g b4 c4 hg hg'
        subst this
        exact Option.some.inj (b1.symm.trans c1)
      · exact (mix k k' hk hk' b c hg hg').elim
      · exact (mix k' k hk' hk c b hg' hg).elim
      · obtain ⟨b1, b2, b3, b4, _⟩ := b
        obtain ⟨c1, c2, c3, c4, _⟩ := c
        rw [b3] at hg; rw [c3] at hg'
        rw [b4] at hk; rw [c4] at hk'
        exact hS.inj k k' g hk hk' hg hg'
  have far : ∀ R2 : Nat → Prop, (∀ g, R g → R2 g) → (∀ g, R2 g → R' g) → (keep = true → R2 = R) → (keep = false → R2 = R') → Far R w m H R2 w' m2 H2 := by
    intro R2 hl hr hk1 hk0
    refine ⟨hl, fun g hg => ?_, main R2 hl hr hk1 hk0, F.os, F.tape, F.output, F.size, F.shape, fun g hg hno => F.frame g hg fun j hj hm => ?_, hagree, hlen, hext, fun k g hk hg => ?_, hsame⟩
    · rcases F.newR g (hr g hg) with (h | ⟨k', _, d2, d3⟩) | h | ⟨j, d1, d2⟩
      · exact .inl h
      · exact .inr (.inr ⟨k', d2, d3⟩)
      · exact .inr (.inl h)
      · obtain ⟨q, q1, q2, q3⟩ := hsubl j d1
        exact .inr (.inr ⟨q, q2, by rw [← q3]; exact d2⟩)
    · obtain ⟨q, q1, q2, q3⟩ := hsubl j hj
      exact hno q q2 (by rw [← q3]; exact hm)
    · rcases cls k hk with ⟨j, b1, b2, b3, b4⟩ | ⟨b1, b2, b3, b4, b5⟩
      · rw [b3] at hg
        rcases F.news j g b4 hg with h | ⟨j0, h1, h2⟩
        · exact .inl h
        · obtain ⟨q, q1, q2, q3⟩ := hsubl j0 h1
          exact .inr ⟨q, q2, by rw [← q3]; exact h2⟩
      · rw [b3] at hg; rw [b4] at hk
        exact .inr ⟨k, hk, hg⟩
  cases hkk : keep with
  | true =>
    have hk2 := hkeep
    rw [hkk, Bool.and_eq_true] at hk2
    exact ⟨R, m2, x, he, far R (fun _ h => h) hR2 (fun _ => rfl) (fun h => by rw [hkk] at h; cases h), (V.noRo hk2.1 R).ren hNb⟩
  | false => exact ⟨R', m2, x, he, far R' hR2 (fun _ h => h) (fun h => by rw [hkk] at h; cases h) (fun _ => rfl), V.ren hNb⟩

theorem callP_sound {T : Specs} (hT : TSound P T) {f : Nat} {args : List AVal} {H : Hp} {K : AVal → Eff → Prop} (h : callP T f args H K) :
    ∃ v e, K v e ∧ (∃ g, P.funcs[f]? = some g ∧ (g.name == "runtime.NumGoroutine") = false ∧ g.body.isNone = false) ∧ ∀ (R : Nat → Prop) (w : World) (m : Mp) (xs : List Value), Sim R w m H → VL R w m H args xs →
      Calls P f xs.toArray w fun en w' => ∃ R' m' x, en = .returned x ∧ Far R w m H R' w' m' (e.app H) ∧ VR R' w' m' (e.app H) v x := by
  unfold callP at h
  rw [forceL_iff] at h
  obtain ⟨_, _, hn⟩ := reach_seen H 60 (pinsL args) []
  generalize reach H 60 (pinsL args) [] = imps at *
  cases hlt : allLt imps H.length with
  | false => rw [hlt] at h; exact h.elim
  | true =>
    rw [hlt] at h
    simp only [cond_true] at h
    split at h
    · rename_i as1 has
      obtain ⟨v, Hc, hk, hg⟩ := hT _ _ _ _ h
      exact ⟨_, _, hk, hg.fn, fun R w m xs hS hx => call_sound hS hx (hn List.nodup_nil) (allLt_get hlt) has hg⟩
    · exact h.elim

end
end Go.Proofs.Ytnbbaemijogeoaa.Ae

namespace Go.Proofs.Ytnbbaemijogeoaa.Ae
open Go
section
variable {P : Program} {R R' : Nat → Prop} {w w' : World} {m m' : Mp} {H H' : Hp} {env : Env} {a : Act}

theorem andP_iff {p : Option Prop} {q : Prop} (h : andP p q) : (∀ r, p = some r → r) ∧ q := by
  cases p with
  | none => exact ⟨fun r h => (by cases h), h⟩
  | some p => exact ⟨fun r e => (by cases e; exact h.1), h.2⟩

/-- an operation's word and what it does -/
def OpDoes (P : Program) (o : Oper) (env : Env) (H : Hp) (v : AVal) (e : Eff) : Prop :=
  ∀ (R : Nat → Prop) (w : World) (m : Mp) (a : Act), Sim R w m H → EnvR R w m H env a → gives P o a w fun x w' => ∃ R' m', Far R w m H R' w' m' (e.app H) ∧ VR R' w' m' (e.app H) v x

theorem exec_call {o : Oper} {f : Operand} {args : Array Operand} {ts : Array TypeId} {g : Nat} {xs ys : List Value} (ho : o.op = .call ⟨.value f, args, ts⟩) (hf : a.eval f = .func (.func g) xs.toArray ys.toArray)
    (hg : ∃ fn, P.funcs[g]? = some fn ∧ (fn.name == "runtime.NumGoroutine") = false ∧ fn.body.isNone = false) (w : World) :
    (execOp a.eval o).run P w = .ok (.enter g (xs ++ (args.toList.map a.eval ++ ys)).toArray) w := by
  obtain ⟨fn, h1, h2, h3⟩ := hg
  have e : xs.toArray ++ args.map a.eval ++ ys.toArray = (xs ++ (args.toList.map a.eval ++ ys)).toArray := by
    apply Array.ext'
    simp
  have h2' : ¬ fn.name = "runtime.NumGoroutine" := by simpa using h2
  have h3' : ¬ fn.body = none := fun e => by rw [e] at h3; cases h3
  rw [← e]
  simp only [execOp, ho, resolve, hf, Deferred.ofValue]
  simp [invoke, callFunc, h1, h2', h3']

theorem opP_sound {X : Cx} (hT : TSound X.P X.T) {o : Oper} {K : AVal → Eff → Prop} (h : opP X o.op env H K) : ∃ v e, K v e ∧ OpDoes X.P o env H v e := by
  have plainCase : opK (opF X.P o.op env H) K → ∃ v e, K v e ∧ OpDoes X.P o env H v e := fun h => by
    unfold opK at h
    split at h
    · rename_i p v e hop
      obtain ⟨hp, hk⟩ := andP_iff h
      rw [forceV_iff] at hk
      refine ⟨v, e, hk, fun R w m a hS hE => ?_⟩
      obtain ⟨x, w', m', hr, hs, hv⟩ := opF_sound (P := X.P) hS hE hop hp
      unfold gives
      rcases hr with hr | ⟨hr, rfl⟩
      · rw [hr]; exact ⟨R, m', hs.far, hv⟩
      · rw [hr]; exact ⟨R, m', hs.far, hv⟩
    · exact h.elim
  unfold opP at h
  split at h
  · rename_i op f args ts ho
    split at h
    · rename_i g first cap l hf hl
      obtain ⟨v, e, hk, hg, hrun⟩ := callP_sound hT h
      rw [forceV_iff] at hk
      refine ⟨v, e, hk, fun R w m a hS hE => ?_⟩
      have k1 := oper_sound hE hf
      have k2 := opers_sound hE hl
      generalize hfv : a.eval f = fv at k1
      cases k1 with
      | fn _ _ _ xs ys h1 h2 h3 h4 =>
        have hx : VL R w m H (first ++ (l ++ cap)) (xs ++ (args.toList.map a.eval ++ ys)) := VL.append ⟨h1, h2⟩ (VL.append k2 ⟨h3, h4⟩)
        unfold gives
        rw [exec_call ho hfv hg w]
        refine (hrun R w m _ hS hx).mono fun en w'' ⟨R', m', x, he, hF, hV⟩ => ⟨x, he, R', m', hF, hV⟩
    · exact h.elim
  · exact plainCase h

theorem effK_app : ∀ {e : Eff} {H : Hp} {k : Hp → Prop}, effK e H k ↔ k (e.app H) := by
  have jn : ∀ (a b : Hp) (k : Hp → Prop), joinK a b k ↔ k (a ++ b) := by
    intro a
    induction a with
    | nil => intro b k; exact Iff.rfl
    | cons x r ih => intro b k; simp only [joinK]; rw [ih]; rfl
  have hs : ∀ (l : List (Nat × ABlk)) (H : Hp) (k : Hp → Prop), hsetsK l H k ↔ k (hsets l H) := by
    intro l
    induction l with
    | nil => intro H k; exact Iff.rfl
    | cons p r ih => intro H k; obtain ⟨j, b⟩ := p; simp only [hsetsK]; rw [forceL_iff, ih]; rfl
  intro e H k
  obtain ⟨ss, ns⟩ := e
  unfold effK Eff.app
  cases ss with
  | nil => cases ns with
    | nil => simp [hsets]
    | cons n ns => simp only [hsets]; exact jn _ _ _
  | cons s ss => simp only; rw [hs]; exact jn _ _ _

theorem joinK_iff {α : Type} : ∀ {a b : List α} {k : List α → Prop}, joinK a b k ↔ k (a ++ b)
  | [], b, k => Iff.rfl
  | x :: r, b, k => by simp only [joinK]; rw [joinK_iff]; rfl

theorem putK_iff {d : Option Nat} {v : AVal} {env : Env} {k : Env → Prop} : putK d v env k ↔ k (putEnv d v env) := by
  cases d <;> exact Iff.rfl

theorem EnvR.put (hE : EnvR R w m H env a) {d : Option Nat} {v : AVal} {x : Value} (hd : dstOk a.tmps.size d = true) (hv : VR R w m H v x) : EnvR R w m H (putEnv d v env) (a.put d x) := by
  cases d with
  | none => exact hE
  | some t =>
    have ht : t < a.tmps.size := Nat.le_of_ble_eq_true hd
    intro u
    simp only [putEnv, eget]
    cases hu : Nat.beq u t with
    | true =>
      obtain rfl := Nat.eq_of_beq_eq_true hu
      have e : (a.put (some u) x).tmps.getD u undef = x := by
        rw [Array.getD_eq_getD_getElem?, put_get_eq a x u ht]; rfl
      rw [e]; exact hv
    | false =>
      have hne : some t ≠ some u := fun e => by cases e; simp [Nat.beq_refl] at hu
      rw [getD_eq (put_get_ne a (some t) x u hne)]
      exact hE u
theorem EnvR.far (s : Far R w m H R' w' m' H') (hS : Sim R w m H) (hE : EnvR R w m H env a) : EnvR R' w' m' H' env a := fun t => (hE t).far s hS

/-- the state beside the model's, since the function's start -/
structure Inv (nt : Nat) (R0 : Nat → Prop) (w0 : World) (m0 : Mp) (H0 : Hp) (a : Act) (w : World) (s : St) : Prop where
  ex : ∃ R m, Far R0 w0 m0 H0 R w m s.heap ∧ EnvR R w m s.heap s.env a
  size : a.tmps.size = nt
  nod : a.defers = []

theorem Act.put_size' (a : Act) (d : Option Tmp) (v : Value) : (a.put d v).tmps.size = a.tmps.size := by cases d <;> simp [Act.put]
theorem Act.put_defers' (a : Act) (d : Option Tmp) (v : Value) : (a.put d v).defers = a.defers := by cases d <;> rfl

theorem VR.skip : VR R w m H (.tup []) Go.undef := by
  refine VR.tup [] [] rfl (fun i v x h _ => ?_)
  simp at h
theorem yielded_none {ops : Array Oper} {a : Act} {j t : Nat} (ht : (ops[j]?).bind (·.dst) = some t) (hv : a.tmps.getD t undef = .tuple #[]) : yielded ops a.tmps j = none := by
  unfold yielded
  rw [ht]
  simp only [Option.bind_some]
  cases hx : a.tmps[t]? with
  | none => rfl
  | some x =>
    have : x = .tuple #[] := by rw [Array.getD_eq_getD_getElem?, hx] at hv; exact hv
    rw [this]
/-- an operation, or its being left out -/
def OpStep (P : Program) (ops : Array Oper) (o : Oper) (next : Act → World → Prop) (Q : Exit → Act → World → Prop) (a : Act) (w : World) : Prop :=
  if Region.wanted o (yielded ops a.tmps) then o.wp P a w next Q ∨ (o.asks P a w ∧ LetsOut Q) else next (a.put o.dst undef) w

theorem gslot_eq {ops : Array Oper} {j : Nat} : gslot ops.toList j = (ops[j]?).bind (·.dst) := by
  have : ∀ (l : List Oper) (j : Nat), gslot l j = (l[j]?).bind (·.dst) := by
    intro l
    induction l with
    | nil => intro j; simp [gslot]
    | cons o r ih => intro j; cases j with
      | zero => simp [gslot]
      | succ j => simp [gslot, ih]
  rw [this]; simp

theorem doP_sound {X : Cx} (hT : TSound X.P X.T) {o : Oper} {env : Env} {H : Hp} {K : St → Prop} (hd : dstOk X.nt o.dst = true) (h : doP X o env H K) :
    ∃ s', K s' ∧ ∀ R0 w0 m0 H0, ∀ a w, Inv X.nt R0 w0 m0 H0 a w ⟨env, H⟩ → ∀ (next : Act → World → Prop) Q, (∀ a' w', Inv X.nt R0 w0 m0 H0 a' w' s' → next a' w') → o.wp X.P a w next Q := by
  obtain ⟨v, e, hk, hdo⟩ := opP_sound hT h
  rw [effK_app, putK_iff] at hk
  refine ⟨_, hk, fun R0 w0 m0 H0 a w hI next Q hn => ?_⟩
  obtain ⟨⟨R, m, hF, hE⟩, hsz, hnd⟩ := hI
  refine gives_wp (hdo R w m a hF.sim hE) fun x w' ⟨R', m', hF', hV⟩ => hn _ _ ⟨⟨R', m', hF.trans hF', ?_⟩, by rw [Act.put_size']; exact hsz, by rw [Act.put_defers']; exact hnd⟩
  exact (hE.far hF' hF.sim).put (by rw [hsz]; exact hd) hV
theorem skipP_sound {X : Cx} {o : Oper} {env : Env} {H : Hp} {K : St → Prop} (hd : dstOk X.nt o.dst = true) (h : skipP o env H K) :
    ∃ s', K s' ∧ ∀ R0 w0 m0 H0, ∀ a w, Inv X.nt R0 w0 m0 H0 a w ⟨env, H⟩ → Inv X.nt R0 w0 m0 H0 (a.put o.dst undef) w s' := by
  unfold skipP at h
  rw [putK_iff] at h
  refine ⟨_, h, fun R0 w0 m0 H0 a w hI => ?_⟩
  obtain ⟨⟨R, m, hF, hE⟩, hsz, hnd⟩ := hI
  exact ⟨⟨R, m, hF, hE.put (by rw [hsz]; exact hd) VR.skip⟩, by rw [Act.put_size']; exact hsz, by rw [Act.put_defers']; exact hnd⟩

theorem Inv.known {nt : Nat} {R0 : Nat → Prop} {w0 : World} {m0 : Mp} {H0 : Hp} {a : Act} {w : World} {env : Env} {H : Hp} {t : Nat} {v : AVal} (h : Inv nt R0 w0 m0 H0 a w ⟨env, H⟩) (ht : eget t env = v) : Inv nt R0 w0 m0 H0 a w ⟨(t, v) :: env, H⟩ := by
  obtain ⟨⟨R, m, hF, hE⟩, hsz, hnd⟩ := h
  refine ⟨⟨R, m, hF, fun u => ?_⟩, hsz, hnd⟩
  simp only [eget]
  cases hu : Nat.beq u t with
  | true => have := Nat.eq_of_beq_eq_true hu; subst this; have := hE u; rw [ht] at this; exact this
  | false => exact hE u

theorem operP_sound {X : Cx} (hT : TSound X.P X.T) {ops : Array Oper} {o : Oper} {s : St} {K : St → Prop} (h : operP X ops.toList o s K) :
    ∃ s', K s' ∧ ∀ R0 w0 m0 H0, ∀ a w, Inv X.nt R0 w0 m0 H0 a w s → ∀ (next : Act → World → Prop) Q, (∀ a' w', Inv X.nt R0 w0 m0 H0 a' w' s' → next a' w') → OpStep X.P ops o next Q a w := by
  unfold operP at h
  cases hd : dstOk X.nt o.dst with
  | false => rw [hd] at h; exact h.elim
  | true =>
    rw [hd] at h
    simp only [cond_true] at h
    split at h
    · rename_i hg
      obtain ⟨s', hk, hs⟩ := doP_sound hT hd h
      refine ⟨s', hk, fun R0 w0 m0 H0 a w hI next Q hn => ?_⟩
      unfold OpStep
      rw [if_pos (by simp [Region.wanted, hg])]
      exact .inl (hs R0 w0 m0 H0 a w hI next Q hn)
    · rename_i j want hg
      split at h
      · rename_i t ht
        rw [gslot_eq] at ht
        split at h
        · rename_i b hb
          have hw : ∀ R0 w0 m0 H0 a w, Inv X.nt R0 w0 m0 H0 a w s → Region.wanted o (yielded ops a.tmps) = (b == want) := fun R0 w0 m0 H0 a w hI => by
            obtain ⟨⟨R, m, hF, hE⟩, hsz, hnd⟩ := hI
            have := hE t
            rw [hb] at this
            generalize hv : a.tmps.getD t undef = v at this
            cases this
            have hlt : t < a.tmps.size := by
              rcases Nat.lt_or_ge t a.tmps.size with h' | h'
              · exact h'
              · simp [Array.getD, Nat.not_lt.2 h', undef] at hv
            have hy : yielded ops a.tmps j = some b := by
              unfold yielded
              rw [ht]
              simp only [Array.getD, hlt, dif_pos] at hv
              simp [hlt]
              simp at hv
              rw [hv]
            simp [Region.wanted, hg, hy]
          obtain ⟨env, H⟩ := s
          cases b with
          | true =>
            cases want with
            | true =>
              obtain ⟨s', hk, hs⟩ := doP_sound hT hd h
              refine ⟨s', hk, fun R0 w0 m0 H0 a w hI next Q hn => ?_⟩
              unfold OpStep
              rw [if_pos (by rw [hw _ _ _ _ a w hI]; rfl)]
              exact .inl (hs R0 w0 m0 H0 a w (hI.known hb) next Q hn)
            | false =>
              obtain ⟨s', hk, hs⟩ := skipP_sound hd h
              refine ⟨s', hk, fun R0 w0 m0 H0 a w hI next Q hn => ?_⟩
              unfold OpStep
              rw [if_neg (by rw [hw _ _ _ _ a w hI]; decide)]
              exact hn _ _ (hs R0 w0 m0 H0 a w (hI.known hb))
          | false =>
            cases want with
            | true =>
              obtain ⟨s', hk, hs⟩ := skipP_sound hd h
              refine ⟨s', hk, fun R0 w0 m0 H0 a w hI next Q hn => ?_⟩
              unfold OpStep
              rw [if_neg (by rw [hw _ _ _ _ a w hI]; decide)]
              exact hn _ _ (hs R0 w0 m0 H0 a w (hI.known hb))
            | false =>
              obtain ⟨s', hk, hs⟩ := doP_sound hT hd h
              refine ⟨s', hk, fun R0 w0 m0 H0 a w hI next Q hn => ?_⟩
              unfold OpStep
              rw [if_pos (by rw [hw _ _ _ _ a w hI]; rfl)]
              exact .inl (hs R0 w0 m0 H0 a w (hI.known hb) next Q hn)
        · rename_i hb
          obtain ⟨env, H⟩ := s
          obtain ⟨s', hk, hs⟩ := skipP_sound hd h
          refine ⟨s', hk, fun R0 w0 m0 H0 a w hI next Q hn => ?_⟩
          have hI0 := hI
          obtain ⟨⟨R, m, hF, hE⟩, hsz, hnd⟩ := hI
          have hv := hE t
          rw [hb] at hv
          generalize hvv : a.tmps.getD t undef = v at hv
          have hv0 : v = .tuple #[] := by
            cases hv with
            | tup cs xs h1 h2 =>
              cases xs with
              | nil => rfl
              | cons x xs => simp at h1
          have hy := yielded_none ht (hvv.trans hv0)
          unfold OpStep
          rw [if_neg (by simp [Region.wanted, hg, hy])]
          exact hn _ _ (hs R0 w0 m0 H0 a w hI0)
        · exact h.elim
      · exact h.elim

theorem opsP_sound {X : Cx} (hT : TSound X.P X.T) {ops : Array Oper} : ∀ {l : List Oper} {s : St} {K : St → Prop}, opsP X ops.toList l s K →
    ∃ s', K s' ∧ ∀ R0 w0 m0 H0, ∀ a w, Inv X.nt R0 w0 m0 H0 a w s → ∀ Q : Exit → Act → World → Prop, (∀ a' w', Inv X.nt R0 w0 m0 H0 a' w' s' → Q .normal a' w') → wpList X.P ops Q l a w
  | [], s, K, h => ⟨s, h, fun R0 w0 m0 H0 a w hI Q hQ => hQ a w hI⟩
  | o :: r, s, K, h => by
    obtain ⟨s1, h1, hs1⟩ := operP_sound hT h
    obtain ⟨s2, h2, hs2⟩ := opsP_sound hT (l := r) h1
    refine ⟨s2, h2, fun R0 w0 m0 H0 a w hI Q hQ => ?_⟩
    exact hs1 R0 w0 m0 H0 a w hI _ Q fun a' w' hI' => hs2 R0 w0 m0 H0 a' w' hI' Q hQ

end
end Go.Proofs.Ytnbbaemijogeoaa.Ae
namespace Go.Proofs.Ytnbbaemijogeoaa.Ae
open Go
section
variable {P : Program} {R R' : Nat → Prop} {w w' : World} {m m' : Mp} {H H' : Hp}

theorem ren_id {r : Nat → Option Nat} : ∀ {v : AVal}, (∀ k ∈ refs v, r k = some k) → ren r v = v := by
  intro v
  refine AVal.rec (motive_1 := fun v => (∀ k ∈ refs v, r k = some k) → ren r v = v) (motive_2 := fun vs => (∀ k ∈ refsL vs, r k = some k) → renL r vs = vs) ?_ ?_ ?_ ?_ ?_ ?_ ?_ ?_ ?_ ?_ ?_ ?_ ?_ ?_ ?_ ?_ ?_ ?_ v
  all_goals try (intros; rfl)
  · intro b off len sz h; simp only [ren, h b (by simp [refs])]
  · intro b off h; simp only [ren, h b (by simp [refs])]
  · intro cs ih h; simp only [ren]; rw [ih (by simpa [refs] using h)]
  · intro cs ih h; simp only [ren]; rw [ih (by simpa [refs] using h)]
  · intro f a b iha ihb h
    simp only [refs, List.mem_append] at h
    simp only [ren]
    rw [iha fun k hk => h k (.inl hk), ihb fun k hk => h k (.inr hk)]
  · intro v vs ih1 ih2 h
    simp only [refsL, List.mem_append] at h
    simp only [renL]
    rw [ih1 fun k hk => h k (.inl hk), ih2 fun k hk => h k (.inr hk)]
theorem renL_id {r : Nat → Option Nat} : ∀ {vs : List AVal}, (∀ k ∈ refsL vs, r k = some k) → renL r vs = vs
  | [], _ => rfl
  | v :: vs, h => by
    simp only [refsL, List.mem_append] at h
    simp only [renL]
    rw [ren_id fun k hk => h k (.inl hk), renL_id fun k hk => h k (.inr hk)]
theorem renB_id {r : Nat → Option Nat} {B : ABlk} (h : ∀ k ∈ refsB B, r k = some k) : renB r B = B := by
  cases B with
  | vals cs => simp only [renB]; rw [renL_id (by simpa [refsB] using h)]
  | _ => rfl

/-- the first blocks, and live ones -/
def In (base : Nat) (G : Hp) (k : Nat) : Prop := k < base ∨ hget k G ≠ .dead
open Classical in
noncomputable def rOn (base : Nat) (G : Hp) (k : Nat) : Option Nat := if In base G k then some k else none
theorem rOn_in {base : Nat} {G : Hp} {k : Nat} (h : In base G k) : rOn base G k = some k := if_pos h
theorem rOn_some {base : Nat} {G : Hp} {k k' : Nat} (h : rOn base G k = some k') : k' = k ∧ In base G k := by
  unfold rOn at h
  split at h
  · rename_i hi; exact ⟨(Option.some.inj h).symm, hi⟩
  · cases h
/-- the numbers of a part -/
def cutM (m : Mp) (n : Nat) : Mp := fun k => if k < n then m k else none

/-- a part of a heap, and the heap with new blocks -/
structure Fit (base : Nat) (Hs Hb Hb' : Hp) (news : List ABlk) : Prop where
  le : base ≤ Hs.length
  low : ∀ k, k < base → hget k Hb = hget k Hs
  live : ∀ k, hget k Hs ≠ .dead → hget k Hb = hget k Hs
  gap : ∀ q, q < news.length → hget (Hs.length + q) Hb = .dead
  fill : ∀ q, q < news.length → hget (Hs.length + q) Hb' = hget q news
  rest : ∀ k, (k < Hs.length ∨ Hs.length + news.length ≤ k) → hget k Hb' = hget k Hb
  len : Hb'.length = Hb.length
  room : Hs.length + news.length ≤ Hb.length
  refS : ∀ k, hget k Hs ≠ .dead → ∀ j ∈ refsB (hget k Hs), In base Hs j
  refB : ∀ k, hget k Hb ≠ .dead → ∀ j ∈ refsB (hget k Hb), In base Hb j
  refN : ∀ q, q < news.length → ∀ j ∈ refsB (hget q news), In base (Hs ++ news) j

theorem Fit.numS {base : Nat} {Hs Hb Hb' : Hp} {news : List ABlk} (f : Fit base Hs Hb Hb' news) (m : Mp) : Num (rOn base Hs) m Hb (cutM m Hs.length) Hs := by
  have lt : ∀ k, In base Hs k → k < Hs.length := fun k h => by
    rcases h with h | h
    · have := f.le; omega
    · exact hget_lt h
  refine ⟨fun k k' g h hm => ?_, fun k k' h _ => ?_, fun k k' h _ => ?_⟩
  · obtain ⟨rfl, hi⟩ := rOn_some h
    simp [cutM, lt _ hi, hm]
  · obtain ⟨rfl, hi⟩ := rOn_some h
    exact lt _ hi
  · obtain ⟨rfl, hi⟩ := rOn_some h
    have e : hget k' Hb = hget k' Hs := by
      rcases hi with hi | hi
      · exact f.low _ hi
      · exact f.live _ hi
    rw [e]
    by_cases hd : hget k' Hs = .dead
    · exact .inl hd
    · exact .inr ⟨hd, rfl⟩
theorem Fit.simS {base : Nat} {Hs Hb Hb' : Hp} {news : List ABlk} (f : Fit base Hs Hb Hb' news) (hS : Sim R w m Hb) : Sim R w (cutM m Hs.length) Hs := by
  have hm : ∀ k, hget k Hs ≠ .dead → cutM m Hs.length k = m k := fun k h => by simp [cutM, hget_lt h]
  have hb : ∀ k, hget k Hs ≠ .dead → hget k Hb ≠ .dead := fun k h => by rw [f.live k h]; exact h
  refine ⟨hS.rlt, fun k hk => by simp [cutM, Nat.not_lt.2 hk], fun k g hk hg => ?_, fun k hk hg => ?_, fun k k' g hk hk' hg hg' => ?_⟩
  · rw [hm k hk] at hg
    obtain ⟨a1, xs, e, fr, a2, a3, a4, a5⟩ := hS.own k g (hb k hk) hg
    refine ⟨a1, xs, e, fr, a2, a3, a4, ?_⟩
    rw [f.live k hk] at a5
    have := a5.ren (f.numS m)
    rwa [renB_id fun j hj => rOn_in (f.refS k hk j hj)] at this
  · rw [hm k hk] at hg
    rw [← f.live k hk]; exact hS.ph k (hb k hk) hg
  · rw [hm k hk] at hg; rw [hm k' hk'] at hg'
    exact hS.inj k k' g (hb k hk) (hb k' hk') hg hg'

/-- the numbers afterwards -/
def newM (m m' : Mp) (n l : Nat) : Mp := fun k => if n ≤ k ∧ k < n + l then m' k else m k

theorem Fit.lift {R1 : Nat → Prop} {w1 : World} {m1 : Mp} {H1 : Hp} {Hs Hb Hb' : Hp} {news : List ABlk} (f : Fit H1.length Hs Hb Hb' news) (F0 : Far R1 w1 m1 H1 R w m Hb) (hgap : ∀ q, q < news.length → m (Hs.length + q) = none)
    (F : Far R w (cutM m Hs.length) Hs R' w' m' (Hs ++ news)) :
    Far R1 w1 m1 H1 R' w' (newM m m' Hs.length news.length) Hb' ∧ Num (rOn H1.length (Hs ++ news)) m' (Hs ++ news) (newM m m' Hs.length news.length) Hb' ∧ Num (rOn H1.length Hb) m Hb (newM m m' Hs.length news.length) Hb' ∧
      (∀ g, R g → R' g) ∧ (∀ g, R g → w'.heap[g]? = w.heap[g]?) ∧ (∀ g n, rowSize w g = some n → rowSize w' g = some n) := by
  have hS := F0.sim
  generalize hbase : H1.length = base at *
  generalize hm2 : newM m m' Hs.length news.length = m2
  have m2in : ∀ k, Hs.length ≤ k → k < Hs.length + news.length → m2 k = m' k := fun k h1 h2 => by rw [← hm2]; exact if_pos ⟨h1, h2⟩
  have m2out : ∀ k, (k < Hs.length ∨ Hs.length + news.length ≤ k) → m2 k = m k := fun k h => by rw [← hm2]; exact if_neg (by omega)
  have msame : ∀ k, k < Hs.length → m' k = m k := fun k hk => by rw [F.same k hk]; simp [cutM, hk]
  have low1 : ∀ k, k < Hs.length → hget k (Hs ++ news) = hget k Hs := fun k hk => hget_append_lt hk
  have hi1 : ∀ q, hget (Hs.length + q) (Hs ++ news) = hget q news := fun q => hget_append_ge
  -- what the callee's part says of the whole
  have sub : ∀ k, hget k (Hs ++ news) ≠ .dead → hget k Hb' = hget k (Hs ++ news) ∧ m2 k = m' k := fun k hk => by
    have hlt := hget_lt hk
    simp only [List.length_append] at hlt
    by_cases h : k < Hs.length
    · rw [low1 k h] at hk ⊢
      exact ⟨by rw [f.rest k (.inl h), f.live k hk], by rw [m2out k (.inl h), msame k h]⟩
    · have e : k = Hs.length + (k - Hs.length) := by omega
      refine ⟨?_, m2in k (by omega) (by omega)⟩
      rw [e, f.fill _ (by omega), hi1]
  have cls : ∀ k, hget k Hb' ≠ .dead → (hget k (Hs ++ news) ≠ .dead ∧ hget k Hb' = hget k (Hs ++ news) ∧ m2 k = m' k) ∨ (hget k Hs = .dead ∧ hget k Hb ≠ .dead ∧ hget k Hb' = hget k Hb ∧ m2 k = m k) := fun k hk => by
    by_cases h : hget k (Hs ++ news) = .dead
    · right
      have hr : k < Hs.length ∨ Hs.length + news.length ≤ k := by
        rcases Nat.lt_or_ge k Hs.length with h1 | h1
        · exact .inl h1
        · rcases Nat.lt_or_ge k (Hs.length + news.length) with h2 | h2
          · have e : k = Hs.length + (k - Hs.length) := by omega
            rw [e, f.fill _ (by omega), ← hi1, ← e] at hk
            exact absurd h hk
          · exact .inr h2
      refine ⟨?_, by rw [← f.rest k hr]; exact hk, f.rest k hr, m2out k hr⟩
      rcases Nat.lt_or_ge k Hs.length with h1 | h1
      · rw [← low1 k h1]; exact h
      · exact hget_out h1
    · exact .inl ⟨h, sub k h⟩
  have num1 : Num (rOn base (Hs ++ news)) m' (Hs ++ news) m2 Hb' := by
    refine ⟨fun k k' g h hm => ?_, fun k k' h hk => ?_, fun k k' h hk => ?_⟩
    · obtain ⟨rfl, hi⟩ := rOn_some h
      rcases hi with hi | hi
      · have hlt := Nat.lt_of_lt_of_le hi f.le
        rw [m2out _ (.inl hlt), ← msame _ hlt]; exact hm
      · rw [(sub _ hi).2]; exact hm
    · obtain ⟨rfl, hi⟩ := rOn_some h
      simp only [List.length_append] at hk
      have := f.room; have := f.len; omega
    · obtain ⟨rfl, hi⟩ := rOn_some h
      have e : hget k' Hb' = hget k' (Hs ++ news) := by
        rcases hi with hi | hi
        · have hlt := Nat.lt_of_lt_of_le hi f.le
          rw [low1 _ hlt, f.rest _ (.inl hlt), f.low _ hi]
        · exact (sub _ hi).1
      rw [e]
      by_cases hd : hget k' (Hs ++ news) = .dead
      · exact .inl hd
      · exact .inr ⟨hd, rfl⟩
  have gapB : ∀ k, hget k Hb ≠ .dead → k < Hs.length ∨ Hs.length + news.length ≤ k := fun k hk => by
    rcases Nat.lt_or_ge k Hs.length with h1 | h1
    · exact .inl h1
    · rcases Nat.lt_or_ge k (Hs.length + news.length) with h2 | h2
      · have e : k = Hs.length + (k - Hs.length) := by omega
        rw [e] at hk
        exact absurd (f.gap _ (by omega)) hk
      · exact .inr h2
  have hagree : ∀ k g, m k = some g → m2 k = some g := fun k g hm => by
    by_cases h : Hs.length ≤ k ∧ k < Hs.length + news.length
    · have e : k = Hs.length + (k - Hs.length) := by omega
      rw [e, hgap _ (by omega)] at hm; cases hm
    · rw [m2out k (by omega)]; exact hm
  have num2 : Num (rOn base Hb) m Hb m2 Hb' := by
    refine ⟨fun k k' g h hm => ?_, fun k k' h hk => ?_, fun k k' h hk => ?_⟩
    · obtain ⟨rfl, hi⟩ := rOn_some h
      exact hagree _ _ hm
    · obtain ⟨rfl, hi⟩ := rOn_some h
      rw [f.len]; exact hk
    · obtain ⟨rfl, hi⟩ := rOn_some h
      have e : hget k' Hb' = hget k' Hb := by
        rcases hi with hi | hi
        · exact f.rest _ (.inl (Nat.lt_of_lt_of_le hi f.le))
        · exact f.rest _ (gapB _ hi)
      rw [e]
      by_cases hd : hget k' Hb = .dead
      · exact .inl hd
      · exact .inr ⟨hd, rfl⟩
  have hS1 := f.simS hS
  have gone : ∀ k g, hget k Hs = .dead → hget k Hb ≠ .dead → m k = some g → g < w.heap.size ∧ ∀ j, hget j Hs ≠ .dead → cutM m Hs.length j ≠ some g := fun k g h1 h2 h3 => by
    obtain ⟨_, ys, e, fr, h4, _⟩ := hS.own k g h2 h3
    refine ⟨(Array.getElem?_eq_some_iff.1 h4).1, fun j hj hm => ?_⟩
    simp only [cutM, hget_lt hj, if_true] at hm
    have := hS.inj j k g (by rw [f.live j hj]; exact hj) h2 hm h3
    subst this
    exact hj h1
  have hsim : Sim R' w' m2 Hb' := by
    refine ⟨F.sim.rlt, fun k hk => ?_, fun k g hk hg => ?_, fun k hk hg => ?_, fun k k' g hk hk' hg hg' => ?_⟩
    · rw [f.len] at hk
      have := f.room
      rw [m2out k (.inr (by omega))]; exact hS.out k hk
    · rcases cls k hk with ⟨b1, b2, b3⟩ | ⟨b1, b2, b3, b4⟩
      · rw [b3] at hg
        obtain ⟨a1, xs, e, fr, a2, a3, a4, a5⟩ := F.sim.own k g b1 hg
        refine ⟨a1, xs, e, fr, a2, a3, a4, ?_⟩
        have h6 := a5.ren num1
        rw [b2]
        rwa [renB_id fun j hj => rOn_in ?_] at h6
        have hlt := hget_lt b1
        simp only [List.length_append] at hlt
        by_cases h : k < Hs.length
        · rw [low1 k h] at hj b1
          rcases f.refS k b1 j hj with h7 | h7
          · exact .inl h7
          · exact .inr (by rw [low1 j (hget_lt h7)]; exact h7)
        · have e : k = Hs.length + (k - Hs.length) := by omega
          rw [e, hi1] at hj
          exact f.refN _ (by omega) j hj
      · rw [b4] at hg
        obtain ⟨a1, xs, e, fr, a2, a3, a4, a5⟩ := hS.own k g b2 hg
        obtain ⟨c1, c2⟩ := gone k g b1 b2 hg
        refine ⟨fun h => ?_, xs, e, fr, by rw [F.frame g c1 c2]; exact a2, a3, a4, ?_⟩
        · rcases F.newR g h with h | h | ⟨j, d1, d2⟩
          · exact a1 h
          · omega
          · exact c2 j d1 d2
        · have h6 : BR R' w' m Hb (hget k Hb) xs := a5.mono F.sub (F.rsame hS1) F.rows (fun _ _ h => h) (Nat.le_refl _) (hext_self _)
          have h7 := h6.ren num2
          rw [b3]
          rwa [renB_id fun j hj => rOn_in (f.refB k b2 j hj)] at h7
    · rcases cls k hk with ⟨b1, b2, b3⟩ | ⟨b1, b2, b3, b4⟩
      · rw [b3] at hg; rw [b2]; exact F.sim.ph k b1 hg
      · rw [b4] at hg; rw [b3]; exact hS.ph k b2 hg
    · have mix : ∀ k k', (hget k (Hs ++ news) ≠ .dead ∧ hget k Hb' = hget k (Hs ++ news) ∧ m2 k = m' k) → (hget k' Hs = .dead ∧ hget k' Hb ≠ .dead ∧ hget k' Hb' = hget k' Hb ∧ m2 k' = m k') → m2 k = some g → m2 k' = some g → False := by
        rintro k k' ⟨b1, b2, b3⟩ ⟨c1, c2, c3, c4⟩ hg hg'
        rw [b3] at hg; rw [c4] at hg'
        obtain ⟨d1, d2⟩ := gone k' g c1 c2 hg'
        rcases F.news k g b1 hg with h | ⟨j, h1, h2⟩
        · omega
        · exact d2 j h1 h2
      have ck := cls k hk
      have ck' := cls k' hk'
      rcases ck with b | b <;> rcases ck' with c | c
      · rw [b.2.2] at hg; rw [c.2.2] at hg'
        exact F.sim.inj k k' g b.1 c.1 hg hg'
      · exact (mix k k' b c hg hg').elim
      · exact (mix k' k c b hg' hg).elim
      · rw [b.2.2.2] at hg; rw [c.2.2.2] at hg'
        exact hS.inj k k' g b.2.1 c.2.1 hg hg'
  have back : ∀ j g, hget j Hs ≠ .dead → cutM m Hs.length j = some g → w1.heap.size ≤ g ∨ ∃ k0, hget k0 H1 ≠ .dead ∧ m1 k0 = some g := fun j g h1 h2 => by
    simp only [cutM, hget_lt h1, if_true] at h2
    exact F0.news j g (by rw [f.live j h1]; exact h1) h2
  refine ⟨⟨fun g h => F.sub g (F0.sub g h), fun g hg => ?_, hsim, F.os.trans F0.os, F.tape.trans F0.tape, F.output.trans F0.output, Nat.le_trans F0.size F.size, fun g hg => ?_, fun g hg hno => ?_, fun k g h => hagree k g (F0.agree k g h), ?_, fun k hk => ?_, fun k g hk hg => ?_, fun k hk => ?_⟩, num1, num2, F.sub, F.rsame hS1, F.rows⟩
  · rcases F.newR g hg with h | h | ⟨j, h1, h2⟩
    · exact F0.newR g h
    · exact .inr (.inl (Nat.le_trans F0.size h))
    · exact .inr (back j g h1 h2)
  · rw [F.shape g (Nat.lt_of_lt_of_le hg F0.size), F0.shape g hg]
  · rw [F.frame g (Nat.lt_of_lt_of_le hg F0.size) fun j hj hm => ?_, F0.frame g hg hno]
    rcases back j g hj hm with h | ⟨k0, h1, h2⟩
    · omega
    · exact hno k0 h1 h2
  · rw [f.len]; exact F0.hlen
  · have := f.le
    rw [f.rest k (.inl (by omega))]; exact F0.hext k hk
  · rcases cls k hk with ⟨b1, b2, b3⟩ | ⟨b1, b2, b3, b4⟩
    · rw [b3] at hg
      rcases F.news k g b1 hg with h | ⟨j, h1, h2⟩
      · exact .inl (Nat.le_trans F0.size h)
      · exact back j g h1 h2
    · rw [b4] at hg
      exact F0.news k g b2 hg
  · have := f.le
    rw [m2out k (.inl (by omega))]; exact F0.same k hk

end
end Go.Proofs.Ytnbbaemijogeoaa.Ae

namespace Go.Proofs.Ytnbbaemijogeoaa.Ae
open Go

def ExR : AExit → Exit → Prop
  | .normal, e => e = .normal
  | .exit i, e => e = .exit i
  | .ret, e => e = .ret

/-- a stretch of code leads from a state to a state -/
def CodeOk (X : Cx) (c : Code) (s : St) (e : AExit) (s' : St) : Prop :=
  ∀ (R0 : Nat → Prop) (w0 : World) (m0 : Mp) (H0 : Hp), H0.length = X.n0 → Sim R0 w0 m0 H0 → ∀ (a : Act) (w : World), Inv X.nt R0 w0 m0 H0 a w s → c.wp X.P (fun e1 a1 w1 => ExR e e1 ∧ Inv X.nt R0 w0 m0 H0 a1 w1 s') a w
/-- a drawn region, in whatever order -/
def AnyOk (X : Cx) (ops : Array Oper) (s s' : St) : Prop :=
  ∀ (R0 : Nat → Prop) (w0 : World) (m0 : Mp) (H0 : Hp), H0.length = X.n0 → Sim R0 w0 m0 H0 → ∀ (a : Act) (w : World), Inv X.nt R0 w0 m0 H0 a w s → wpAny X.P .any ops (fun e1 a1 w1 => ExR .normal e1 ∧ Inv X.nt R0 w0 m0 H0 a1 w1 s') ops.size (Array.replicate ops.size false) a w.drew
/-- drawn regions -/
def DrawSound (X : Cx) : Prop := ∀ (id : Nat) (ops : Array Oper) (b : Bool) (s : St) (K : St → Prop), regionP X id ops b s K → ∃ s', K s' ∧ CodeOk X (.region id ops b) s .normal s'

section
variable {X : Cx}

theorem region_sound (_ : TSound X.P X.T) (hD : DrawSound X) {id : Nat} {ops : Array Oper} {b : Bool} {s : St} {K : St → Prop} (h : regionP X id ops b s K) : ∃ s', K s' ∧ CodeOk X (.region id ops b) s .normal s' := hD id ops b s K h
theorem seq_sound (hT : TSound X.P X.T) {id : Nat} {ops : Array Oper} {s : St} {K : St → Prop} (h : opsP X ops.toList ops.toList s K) : ∃ s', K s' ∧ CodeOk X (.region id ops false) s .normal s' := by
  obtain ⟨s', hk, hs⟩ := opsP_sound (X := X) hT (ops := ops) h
  exact ⟨s', hk, fun R0 w0 m0 H0 _ _ a w hI => wp_region_list (hs R0 w0 m0 H0 a w hI _ fun a' w' hI' => ⟨rfl, hI'⟩)⟩

theorem egets_get (env : Env) : ∀ (l : List Nat) (i : Nat), (egets env l)[i]? = (l[i]?).map fun t => eget t env
  | [], i => by simp [egets]
  | t :: l, 0 => by simp [egets]
  | t :: l, i + 1 => by simpa [egets] using egets_get env l i
theorem zipEnv_get {r : Nat → Option Nat} {env : Env} {t : Nat} : ∀ (live : List Nat), eget t (zipEnv live (renL r (egets env live))) = .undef ∨ eget t (zipEnv live (renL r (egets env live))) = ren r (eget t env)
  | [] => .inl rfl
  | u :: live => by
    simp only [egets, renL, zipEnv, eget]
    cases hu : Nat.beq t u with
    | true => have := Nat.eq_of_beq_eq_true hu; subst this; exact .inr rfl
    | false => exact zipEnv_get live

theorem flatN_len : ∀ (n : Nat) (H : Hp), (flatN n H).length = H.length
  | n, [] => by cases n <;> rfl
  | 0, _ :: r => congrArg (· + 1) (flatN_len 0 r)
  | n + 1, _ :: r => congrArg (· + 1) (flatN_len n r)
theorem flatB_or (b : ABlk) : flatB b = b ∨ ∃ cs, b = .vals cs ∧ closedL cs = true ∧ flatB b = .flat cs := by
  cases b with
  | vals cs =>
    simp only [flatB]
    cases h : closedL cs with
    | true => exact .inr ⟨cs, rfl, h, rfl⟩
    | false => exact .inl rfl
  | _ => exact .inl rfl
theorem flatN_get : ∀ (n : Nat) (H : Hp) (k : Nat), hget k (flatN n H) = hget k H ∨ ∃ cs, hget k H = .vals cs ∧ closedL cs = true ∧ hget k (flatN n H) = .flat cs
  | n, [], k => by cases n <;> exact .inl rfl
  | 0, b :: r, 0 => flatB_or b
  | 0, _ :: r, k + 1 => flatN_get 0 r k
  | n + 1, b :: r, 0 => .inl rfl
  | n + 1, _ :: r, k + 1 => flatN_get n r k
theorem flat_stp {R : Nat → Prop} {w : World} {m : Mp} {H : Hp} (hS : Sim R w m H) (n : Nat) : Stp R w m H w m (flatN n H) := by
  have hll := flatN_len n H
  have live : ∀ j, hget j (flatN n H) ≠ .dead → hget j H ≠ .dead := fun j h => by
    rcases flatN_get n H j with e | ⟨cs, e, _, _⟩
    · rwa [e] at h
    · rw [e]; simp
  have hlen : ∀ j, (hget j (flatN n H)).len = (hget j H).len := fun j => by
    rcases flatN_get n H j with e | ⟨cs, e, _, e2⟩
    · rw [e]
    · rw [e, e2]; rfl
  have hH : ∀ j, j < H.length → hget j (flatN n H) = .dead ∨ (hget j H ≠ .dead ∧ (hget j (flatN n H)).len = (hget j H).len) := fun j _ => by
    by_cases h : hget j (flatN n H) = .dead
    · exact .inl h
    · exact .inr ⟨live j h, hlen j⟩
  refine ⟨⟨hS.rlt, fun j hj => hS.out j (by omega), fun j g' h hg' => ?_, fun j h hn => ?_, fun j j' g' h h' => hS.inj j j' g' (live j h) (live j' h')⟩, rfl, rfl, rfl, Nat.le_refl _,
    fun j _ => rfl, fun j _ hn => rfl, fun _ _ h => h, by omega, hH, fun j g' h hg' => .inr ⟨j, live j h, hg'⟩, fun _ _ => rfl⟩
  · obtain ⟨a1, ys, e', fr', a2, a3, a4, a5⟩ := hS.own j g' (live j h) hg'
    refine ⟨a1, ys, e', fr', a2, a3, a4, ?_⟩
    rcases flatN_get n H j with e | ⟨cs, e, hc, e2⟩
    · rw [e]; exact a5.mono (fun _ h => h) (fun _ _ => rfl) (fun _ _ h => h) (fun _ _ h => h) (by omega) hH
    · rw [e] at a5
      rw [e2]
      obtain ⟨zs, r, rfl, hv⟩ := a5
      exact ⟨zs, r, rfl, hv.closed hc⟩
  · rw [hlen j]; exact hS.ph j (live j h) hn
theorem normK_iff {n0 : Nat} {live : List Nat} {s : St} {k : St → Prop} : normK n0 live s k ↔ k ⟨normEnv (seek s.heap n0 (egets s.env live)) live s, flatC n0 live (subHeap (fun k => idxO k (seek s.heap n0 (egets s.env live))) s.heap (seek s.heap n0 (egets s.env live)))⟩ := by
  unfold normK
  rw [forceL_iff, forceL_iff, forceL_iff]
  unfold flatC
  cases elemN 999999 live with
  | true => simp only [cond_true]; rw [forceL_iff]
  | false => simp only [cond_false]

theorem Inv.norm {nt : Nat} {R0 : Nat → Prop} {w0 : World} {m0 : Mp} {H0 : Hp} {a : Act} {w : World} {s : St} (h : Inv nt R0 w0 m0 H0 a w s) (hS0 : Sim R0 w0 m0 H0) (live : List Nat) :
    Inv nt R0 w0 m0 H0 a w ⟨normEnv (seek s.heap H0.length (egets s.env live)) live s, flatC H0.length live (subHeap (fun k => idxO k (seek s.heap H0.length (egets s.env live))) s.heap (seek s.heap H0.length (egets s.env live)))⟩ := by
  obtain ⟨⟨R, m, hF, hE⟩, hsz, hnd⟩ := h
  obtain ⟨hn, hp⟩ := seek_ok s.heap H0.length (egets s.env live)
  generalize seek s.heap H0.length (egets s.env live) = S at *
  have hF2 := hF.restrict hS0 hn hp
  have hE2 : EnvR R w (subM S m) (subHeap (fun k => idxO k S) s.heap S) (normEnv S live s) a := fun t => by
    show VR R w _ _ (eget t (zipEnv live (renL (fun k => idxO k S) (egets s.env live)))) _
    rcases zipEnv_get (r := fun k => idxO k S) (env := s.env) (t := t) live with h | h
    · rw [h]; exact .undef _
    · rw [h]; exact (hE t).ren (sub_num S m s.heap)
  unfold flatC
  cases elemN 999999 live with
  | false => exact ⟨⟨R, subM S m, hF2, hE2⟩, hsz, hnd⟩
  | true =>
    have hs := (flat_stp hF2.sim H0.length).far
    exact ⟨⟨R, subM S m, hF2.trans hs, hE2.far hs hF2.sim⟩, hsz, hnd⟩

theorem loop_sound {b : Code} (ih : ∀ s K, awp X b s K → ∃ e s', K e s' ∧ CodeOk X b s e s') {live : List Nat} : ∀ (n : Nat) (s : St) (K : Post), loopP (awp X b) X.n0 live n s K → ∃ e s', K e s' ∧
    ∀ (R0 : Nat → Prop) (w0 : World) (m0 : Mp) (H0 : Hp), H0.length = X.n0 → Sim R0 w0 m0 H0 → ∀ (a : Act) (w : World), Inv X.nt R0 w0 m0 H0 a w s → Code.rounds X.P b (fun e1 a1 w1 => ExR e e1 ∧ Inv X.nt R0 w0 m0 H0 a1 w1 s') n a w
  | 0, s, K, h => h.elim
  | n + 1, s, K, h => by
    obtain ⟨e, s1, hk, ok⟩ := ih s _ h
    cases e with
    | normal =>
      rw [show seqK (fun s' => normK X.n0 live s' fun s' => loopP (awp X b) X.n0 live n s' K) K .normal s1 = normK X.n0 live s1 (fun s' => loopP (awp X b) X.n0 live n s' K) from rfl, normK_iff] at hk
      obtain ⟨e2, s2, hk2, ok2⟩ := loop_sound ih n _ K hk
      refine ⟨e2, s2, hk2, fun R0 w0 m0 H0 hl hS0 a w hI => ?_⟩
      rw [rounds_succ]
      refine wp_mono (ok R0 w0 m0 H0 hl hS0 a w hI) fun e1 a1 w1 ⟨he, hI1⟩ => ?_
      cases he
      have h2 := hI1.norm hS0 live
      rw [hl] at h2
      exact ok2 R0 w0 m0 H0 hl hS0 a1 w1 h2
    | exit i =>
      refine ⟨.exit i, s1, hk, fun R0 w0 m0 H0 hl hS0 a w hI => ?_⟩
      rw [rounds_succ]
      refine wp_mono (ok R0 w0 m0 H0 hl hS0 a w hI) fun e1 a1 w1 ⟨he, hI1⟩ => ?_
      cases he
      exact ⟨rfl, hI1⟩
    | ret =>
      refine ⟨.ret, s1, hk, fun R0 w0 m0 H0 hl hS0 a w hI => ?_⟩
      rw [rounds_succ]
      refine wp_mono (ok R0 w0 m0 H0 hl hS0 a w hI) fun e1 a1 w1 ⟨he, hI1⟩ => ?_
      cases he
      exact ⟨rfl, hI1⟩

theorem Inv.evalBool {nt : Nat} {R0 : Nat → Prop} {w0 : World} {m0 : Mp} {H0 : Hp} {a : Act} {w : World} {s : St} {c : Operand} {t : Bool} (h : Inv nt R0 w0 m0 H0 a w s) (hc : oper s.env c = some (.bool t)) :
    a.eval c = .bool t ∧ Inv nt R0 w0 m0 H0 a w (setTmp c t s) := by
  refine ⟨?_, ?_⟩
  · obtain ⟨⟨R, m, hF, hE⟩, hsz, hnd⟩ := h
    have := oper_sound hE hc
    generalize a.eval c = v at this
    cases this; rfl
  · cases c with
    | tmp u => obtain ⟨env, H⟩ := s; exact h.known (by simpa [oper] using hc)
    | const v => exact h
    | func f => exact h
    | global g => exact h

theorem awp_sound (hT : TSound X.P X.T) (hD : DrawSound X) : ∀ (c : Code) (s : St) (K : Post), awp X c s K → ∃ e s', K e s' ∧ CodeOk X c s e s' := by
  intro c
  induction c with
  | skip => exact fun s K h => ⟨.normal, s, h, fun R0 w0 m0 H0 _ _ a w hI => wp_skip ⟨rfl, hI⟩⟩
  | label l => exact fun s K h => ⟨.normal, s, h, fun R0 w0 m0 H0 _ _ a w hI => wp_label ⟨rfl, hI⟩⟩
  | region id ops b =>
    intro s K h
    obtain ⟨s', hk, ok⟩ := region_sound hT hD (show regionP X id ops b s (K .normal) from h)
    exact ⟨.normal, s', hk, ok⟩
  | seq x y ihx ihy =>
    intro s K h
    obtain ⟨e, s1, hk, ok⟩ := ihx s _ h
    cases e with
    | normal =>
      obtain ⟨e2, s2, hk2, ok2⟩ := ihy s1 K hk
      refine ⟨e2, s2, hk2, fun R0 w0 m0 H0 hl hS0 a w hI => wp_seq (wp_mono (ok R0 w0 m0 H0 hl hS0 a w hI) fun e1 a1 w1 ⟨he, hI1⟩ => ?_)⟩
      cases he
      exact ok2 R0 w0 m0 H0 hl hS0 a1 w1 hI1
    | exit i =>
      refine ⟨.exit i, s1, hk, fun R0 w0 m0 H0 hl hS0 a w hI => wp_seq (wp_mono (ok R0 w0 m0 H0 hl hS0 a w hI) fun e1 a1 w1 ⟨he, hI1⟩ => ?_)⟩
      cases he
      exact ⟨rfl, hI1⟩
    | ret =>
      refine ⟨.ret, s1, hk, fun R0 w0 m0 H0 hl hS0 a w hI => wp_seq (wp_mono (ok R0 w0 m0 H0 hl hS0 a w hI) fun e1 a1 w1 ⟨he, hI1⟩ => ?_)⟩
      cases he
      exact ⟨rfl, hI1⟩
  | cond c x y ihx ihy =>
    intro s K h
    simp only [awp] at h
    split at h
    · rename_i t hc
      cases t with
      | true =>
        obtain ⟨e, s', hk, ok⟩ := ihx _ K h
        refine ⟨e, s', hk, fun R0 w0 m0 H0 hl hS0 a w hI => ?_⟩
        obtain ⟨h1, h2⟩ := hI.evalBool hc
        exact wp_cond_true h1 (ok R0 w0 m0 H0 hl hS0 a w h2)
      | false =>
        obtain ⟨e, s', hk, ok⟩ := ihy _ K h
        refine ⟨e, s', hk, fun R0 w0 m0 H0 hl hS0 a w hI => ?_⟩
        obtain ⟨h1, h2⟩ := hI.evalBool hc
        exact wp_cond_false h1 (ok R0 w0 m0 H0 hl hS0 a w h2)
    · exact h.elim
  | block id b ih =>
    intro s K h
    obtain ⟨e, s1, hk, ok⟩ := ih s _ h
    cases e with
    | normal =>
      refine ⟨.normal, s1, hk, fun R0 w0 m0 H0 hl hS0 a w hI => wp_block (wp_mono (ok R0 w0 m0 H0 hl hS0 a w hI) fun e1 a1 w1 ⟨he, hI1⟩ => ?_)⟩
      cases he
      exact ⟨rfl, hI1⟩
    | exit i =>
      simp only [blockK] at hk
      cases hi : Nat.beq i id with
      | true =>
        rw [hi] at hk
        have := Nat.eq_of_beq_eq_true hi
        subst this
        refine ⟨.normal, s1, hk, fun R0 w0 m0 H0 hl hS0 a w hI => wp_block (wp_mono (ok R0 w0 m0 H0 hl hS0 a w hI) fun e1 a1 w1 ⟨he, hI1⟩ => ?_)⟩
        cases he
        simp only [Exit.inBlock, if_true]
        exact ⟨rfl, hI1⟩
      | false =>
        rw [hi] at hk
        have hne : i ≠ id := fun e => by subst e; simp [Nat.beq_refl] at hi
        refine ⟨.exit i, s1, hk, fun R0 w0 m0 H0 hl hS0 a w hI => wp_block (wp_mono (ok R0 w0 m0 H0 hl hS0 a w hI) fun e1 a1 w1 ⟨he, hI1⟩ => ?_)⟩
        cases he
        simp only [Exit.inBlock, if_neg hne]
        exact ⟨rfl, hI1⟩
    | ret =>
      refine ⟨.ret, s1, hk, fun R0 w0 m0 H0 hl hS0 a w hI => wp_block (wp_mono (ok R0 w0 m0 H0 hl hS0 a w hI) fun e1 a1 w1 ⟨he, hI1⟩ => ?_)⟩
      cases he
      exact ⟨rfl, hI1⟩
  | loop b ih =>
    intro s K h
    simp only [awp] at h
    rw [normK_iff] at h
    obtain ⟨n, hn⟩ := fuelP_ex h
    obtain ⟨e, s', hk, ok⟩ := loop_sound ih n _ K hn
    refine ⟨e, s', hk, fun R0 w0 m0 H0 hl hS0 a w hI => ?_⟩
    have h2 := hI.norm hS0 (X.ann (firstReg b)).1
    rw [hl] at h2
    exact wp_loop_rounds n (ok R0 w0 m0 H0 hl hS0 a w h2)
  | scope b ih =>
    intro s K h
    obtain ⟨e, s1, hk, ok⟩ := ih s K h
    refine ⟨e, s1, hk, fun R0 w0 m0 H0 hl hS0 a w hI => wp_scope_straight (wp_mono (ok R0 w0 m0 H0 hl hS0 a w hI) fun e1 a1 w1 ⟨he, hI1⟩ => ?_)⟩
    cases e <;> cases he <;> exact ⟨rfl, hI1⟩
  | exit id => exact fun s K h => ⟨.exit id, s, h, fun R0 w0 m0 H0 _ _ a w hI => wp_exit ⟨rfl, hI⟩⟩
  | ret => exact fun s K h => ⟨.ret, s, h, fun R0 w0 m0 H0 _ _ a w hI => wp_ret ⟨rfl, hI⟩⟩
  | _ => exact fun s K h => h.elim

/-! ### functions -/
theorem andO_iff {p q : Option Prop} : (∀ r, andO p q = some r → r) → (∀ r, p = some r → r) ∧ (∀ r, q = some r → r) := by
  intro h
  cases p with
  | none => exact ⟨fun r e => (by cases e), h⟩
  | some p => cases q with
    | none => exact ⟨h, fun r e => (by cases e)⟩
    | some q => have := h _ rfl; exact ⟨fun r e => (by cases e; exact this.1), fun r e => (by cases e; exact this.2)⟩

def resOp (tmps : Array Value) : ResultVar → Sem Value
  | .tmp t => pure (tmps.getD t undef)
  | .cell a t => do loadVar t (← asAddr (tmps.getD a undef))
theorem resF_sound {P : Program} {R : Nat → Prop} {w : World} {m : Mp} {s : St} {a : Act} (hS : Sim R w m s.heap) (hE : EnvR R w m s.heap s.env a) : ∀ {rs : List ResultVar} {p : Option Prop} {l : List AVal}, resF P s rs = some (p, l) → (∀ q, p = some q → q) →
    ∃ xs : List Value, (rs.mapM (resOp a.tmps)).run P w = .ok xs w ∧ VL R w m s.heap l xs
  | [], p, l, h, _ => by
    simp only [resF, Option.some.injEq, Prod.mk.injEq] at h
    obtain ⟨-, rfl⟩ := h
    exact ⟨[], by simp, VL.nil⟩
  | .tmp t :: r, p, l, h, hp => by
    simp only [resF] at h
    split at h
    · rename_i p' l' hr
      cases h
      obtain ⟨xs, h1, h2⟩ := resF_sound hS hE hr hp
      exact ⟨_ :: xs, by simp only [List.mapM_cons, Sem.run_bind, resOp, Sem.run_pure, Result.andThen_ok, h1], .cons (hE t) h2⟩
    · cases h
  | .cell b t :: r, p, l, h, hp => by
    simp only [resF] at h
    split at h
    · rename_i q v p' l' hq hr
      cases h
      obtain ⟨g1, g2⟩ := andO_iff hp
      obtain ⟨xs, h1, h2⟩ := resF_sound hS hE hr g2
      obtain ⟨ad, x, e1, e2, e3⟩ := loadF_sound hS (hE b) hq g1
      refine ⟨x :: xs, ?_, .cons e3 h2⟩
      simp only [List.mapM_cons, Sem.run_bind, resOp, e1, asAddr, Sem.run_pure, Result.andThen_ok, e2, h1]
    · cases h

theorem retV_sound {R : Nat → Prop} {w : World} {m : Mp} {H : Hp} {l : List AVal} {xs : List Value} (h : VL R w m H l xs) : VR R w m H (retV l) (if h : xs.toArray.size = 1 then xs.toArray[0] else .tuple xs.toArray) := by
  obtain ⟨h1, h2⟩ := h
  match l, xs, h1 with
  | [], [], _ => exact .tup [] [] rfl fun i v x hv _ => by simp at hv
  | [v], [x], _ => exact h2 0 v x rfl rfl
  | v :: u :: l, x :: y :: xs, h1 => exact .tup _ _ h1 h2
theorem results_run {P : Program} {R : Nat → Prop} {w : World} {m : Mp} {s : St} {a : Act} (hS : Sim R w m s.heap) (hE : EnvR R w m s.heap s.env a) {fn : Func} {p : Option Prop} {l : List AVal} (h : resF P s fn.results.toList = some (p, l)) (hp : ∀ q, p = some q → q) :
    ∃ x, (results fn a.tmps).run P w = .ok x w ∧ VR R w m s.heap (retV l) x := by
  obtain ⟨xs, h1, h2⟩ := resF_sound hS hE h hp
  refine ⟨_, ?_, retV_sound h2⟩
  have e : (fn.results.mapM (resOp a.tmps)).run P w = .ok xs.toArray w := by
    rw [Array.mapM_eq_mapM_toList, Sem.run_map, h1]; rfl
  have e2 : (results fn a.tmps).run P w = (do let vs ← fn.results.mapM (resOp a.tmps); pure (if h : vs.size = 1 then vs[0] else .tuple vs) : Sem Value).run P w := by
    unfold results
    congr 2
  rw [e2, Sem.run_bind, e]
  rfl

theorem argEnv_get : ∀ (l : List AVal) (i t : Nat), eget t (argEnv i l) = .undef ∨ (i ≤ t ∧ ∃ v, l[t - i]? = some v ∧ eget t (argEnv i l) = v)
  | [], i, t => .inl rfl
  | v :: l, i, t => by
    simp only [argEnv, eget]
    cases hu : Nat.beq t i with
    | true => have := Nat.eq_of_beq_eq_true hu; subst this; exact .inr ⟨Nat.le_refl _, v, by simp, rfl⟩
    | false =>
      have hne : t ≠ i := fun e => by subst e; simp [Nat.beq_refl] at hu
      rcases argEnv_get l (i + 1) t with h | ⟨h1, v', h2, h3⟩
      · exact .inl h
      · refine .inr ⟨by omega, v', ?_, h3⟩
        rw [show t - i = (t - (i + 1)) + 1 by omega]; simpa using h2

/-- what a function's text says, it does -/
theorem fnP_sound {P : Program} {T : Specs} {ann : Nat → List Nat × Nat × List (List Nat)} {f : Nat} {fn : Func} {args : List AVal} {H : Hp} {K : AVal → Hp → Prop} (hT : TSound P T) (hD : DrawSound ⟨P, T, fn.ntmps, H.length, ann⟩)
    (hf : P.funcs[f]? = some fn) (hname : (fn.name == "runtime.NumGoroutine") = false) (h : fnP P T ann fn args H K) : ∃ v H', K v H' ∧ Gives P f args H v H' := by
  unfold fnP at h
  split at h
  · rename_i c hb
    cases hl : Nat.ble args.length fn.ntmps with
    | false => rw [hl] at h; exact h.elim
    | true =>
      rw [hl] at h
      have hle := Nat.le_of_ble_eq_true hl
      obtain ⟨e, s, hk, ok⟩ := awp_sound (X := ⟨P, T, fn.ntmps, H.length, ann⟩) hT hD c _ _ h
      have fin : endK P H.length fn.results.toList K s → (e = .normal ∨ e = .ret) → ∃ v H', K v H' ∧ Gives P f args H v H' := by
        intro hend hee
        unfold endK at hend
        split at hend
        · rename_i p vs hr
          obtain ⟨hp, hret⟩ := andP_iff hend
          unfold retK at hret
          rw [forceL_iff] at hret
          refine ⟨_, _, hret, ⟨fn, hf, hname, by rw [hb]; rfl⟩, fun R w m xs hS hx => ?_⟩
          refine calls_of_wp hf hb (wp_mono (ok R w m H rfl hS _ w ⟨⟨R, m, .refl hS, fun t => ?_⟩, ?_, rfl⟩) fun e1 a1 w1 ⟨he, hI⟩ => ?_)
          · rcases argEnv_get args 0 t with h | ⟨_, v, h1, h2⟩
            · rw [h]; exact .undef _
            · rw [h2]
              rw [Nat.sub_zero] at h1
              have hlt : t < xs.length := by rw [← hx.1]; exact (List.getElem?_eq_some_iff.1 h1).1
              have hg : (xs.toArray ++ Array.replicate (fn.ntmps - xs.toArray.size) undef).getD t undef = xs[t] := by
                rw [Array.getD_eq_getD_getElem?, Array.getElem?_append_left (by simpa using hlt)]
                simp [hlt]
              show VR R w m H v ((xs.toArray ++ Array.replicate (fn.ntmps - xs.toArray.size) undef).getD t undef)
              rw [hg]
              exact hx.2 t v _ h1 (List.getElem?_eq_getElem hlt)
          · have := hx.1
            show (xs.toArray ++ Array.replicate (fn.ntmps - xs.toArray.size) undef).size = fn.ntmps
            simp; omega
          · obtain ⟨⟨R', m', hF, hE⟩, _, hnd⟩ := hI
            obtain ⟨x, hx1, hx2⟩ := results_run hF.sim hE hr hp
            obtain ⟨hn, hpp⟩ := seek_ok s.heap H.length [retV vs]
            have post : a1.defers = [] ∧ ∃ v, (results fn a1.tmps).run P w1 = .ok v w1 ∧ ∃ R' m' x, Ending.returned v = .returned x ∧ Far R w m H R' w1 m' (subHeap (fun k => idxO k (seek s.heap H.length [retV vs])) s.heap (seek s.heap H.length [retV vs])) ∧ VR R' w1 m' (subHeap (fun k => idxO k (seek s.heap H.length [retV vs])) s.heap (seek s.heap H.length [retV vs])) (ren (fun k => idxO k (seek s.heap H.length [retV vs])) (retV vs)) x :=
              ⟨hnd, x, hx1, R', _, x, rfl, hF.restrict hS hn hpp, hx2.ren (sub_num _ _ _)⟩
            rcases hee with rfl | rfl <;> cases he <;> exact post
        · exact hend.elim
      cases e with
      | normal => exact fin hk (.inl rfl)
      | ret => exact fin hk (.inr rfl)
      | exit i => exact hk.elim
  · exact h.elim

end
end Go.Proofs.Ytnbbaemijogeoaa.Ae

namespace Go.Proofs.Ytnbbaemijogeoaa.Ae
open Go

def mEnv (p : Nat → Bool) (env : Env) : List Done → Env
  | [] => env
  | d :: r => cond (p d.i) (putEnv d.dst d.v (mEnv p env r)) (mEnv p env r)
def mHeap (p : Nat → Bool) (H : Hp) : List Done → Hp
  | [] => H
  | d :: r => mHeap p H r ++ cond (p d.i) d.news (deadL d.news)
theorem maskEnv_eq (ps : List Nat) (env : Env) : ∀ D, maskEnv ps env D = mEnv (fun k => elemN k ps) env D
  | [] => rfl
  | d :: r => by simp only [maskEnv, mEnv, maskEnv_eq ps env r]
theorem maskHeap_eq (ps : List Nat) (H : Hp) : ∀ D, maskHeap ps H D = mHeap (fun k => elemN k ps) H D
  | [] => rfl
  | d :: r => by simp only [maskHeap, mHeap, maskHeap_eq ps H r]
theorem maskEnvK_iff {ps : List Nat} {env : Env} : ∀ {D : List Done} {k : Env → Prop}, maskEnvK ps env D k ↔ k (mEnv (fun k => elemN k ps) env D)
  | [], k => Iff.rfl
  | d :: r, k => by
    simp only [maskEnvK, maskEnvK_iff (D := r), mEnv]
    cases elemN d.i ps with
    | true => exact putK_iff
    | false => exact Iff.rfl
theorem maskHeapK_iff {ps : List Nat} {H : Hp} : ∀ {D : List Done} {k : Hp → Prop}, maskHeapK ps H D k ↔ k (mHeap (fun k => elemN k ps) H D)
  | [], k => Iff.rfl
  | d :: r, k => by
    simp only [maskHeapK, maskHeapK_iff (D := r), mHeap]
    cases hn : d.news with
    | nil => cases elemN d.i ps <;> simp [deadL]
    | cons n ns => exact joinK_iff

theorem deadL_length : ∀ l : List ABlk, (deadL l).length = l.length
  | [] => rfl
  | _ :: r => by simp [deadL, deadL_length r]
theorem deadL_get : ∀ (l : List ABlk) (k : Nat), hget k (deadL l) = .dead
  | [], k => by simp [deadL, hget]
  | _ :: r, 0 => rfl
  | _ :: r, k + 1 => by simpa [deadL, hget] using deadL_get r k
theorem mHeap_length (p q : Nat → Bool) (H : Hp) : ∀ D, (mHeap p H D).length = (mHeap q H D).length
  | [] => rfl
  | d :: r => by
    simp only [mHeap, List.length_append, mHeap_length p q H r]
    cases p d.i <;> cases q d.i <;> simp [deadL_length]
theorem mHeap_len_cons (p : Nat → Bool) (H : Hp) (d : Done) (r : List Done) : (mHeap p H (d :: r)).length = (mHeap p H r).length + d.news.length := by
  simp only [mHeap, List.length_append]
  cases p d.i <;> simp [deadL_length]
theorem mHeap_base_le (p : Nat → Bool) (H : Hp) : ∀ D, H.length ≤ (mHeap p H D).length
  | [] => Nat.le_refl _
  | d :: r => by rw [mHeap_len_cons]; have := mHeap_base_le p H r; omega
theorem mHeap_low (p : Nat → Bool) (H : Hp) {D : List Done} {k : Nat} : ∀ pre : List Done, k < (mHeap p H D).length → hget k (mHeap p H (pre ++ D)) = hget k (mHeap p H D) ∧ (mHeap p H D).length ≤ (mHeap p H (pre ++ D)).length
  | [], _ => ⟨rfl, Nat.le_refl _⟩
  | e :: pre, h => by
    obtain ⟨h1, h2⟩ := mHeap_low p H pre h
    refine ⟨?_, ?_⟩
    · simp only [List.cons_append, mHeap]
      rw [hget_append_lt (by omega)]; exact h1
    · rw [List.cons_append, mHeap_len_cons]; omega
theorem mHeap_len_le (p : Nat → Bool) (H : Hp) {D : List Done} : ∀ pre : List Done, (mHeap p H D).length ≤ (mHeap p H (pre ++ D)).length
  | [] => Nat.le_refl _
  | e :: pre => by rw [List.cons_append, mHeap_len_cons]; have := mHeap_len_le p H (D := D) pre; omega
theorem mHeap_base (p : Nat → Bool) (H : Hp) (D : List Done) {k : Nat} (h : k < H.length) : hget k (mHeap p H D) = hget k H := by
  have := (mHeap_low p H (D := []) D h).1
  simpa [mHeap] using this
theorem mHeap_new (p : Nat → Bool) (H : Hp) (d : Done) (D : List Done) (q : Nat) : hget ((mHeap p H D).length + q) (mHeap p H (d :: D)) = cond (p d.i) (hget q d.news) .dead := by
  simp only [mHeap]
  rw [hget_append_ge]
  cases p d.i
  · exact deadL_get _ _
  · rfl
theorem mHeap_live (p q : Nat → Bool) (H : Hp) : ∀ {D : List Done} {k : Nat}, (∀ d ∈ D, p d.i = true → q d.i = true) → hget k (mHeap p H D) ≠ .dead → hget k (mHeap q H D) = hget k (mHeap p H D)
  | [], k, _, _ => rfl
  | d :: r, k, h, hk => by
    rcases Nat.lt_or_ge k (mHeap p H r).length with hlt | hge
    · simp only [mHeap] at hk ⊢
      rw [hget_append_lt hlt] at hk
      rw [hget_append_lt hlt, hget_append_lt (by rw [mHeap_length q p]; exact hlt)]
      exact mHeap_live p q H (fun d hd => h d (List.mem_cons_of_mem _ hd)) hk
    · have e : k = (mHeap p H r).length + (k - (mHeap p H r).length) := by omega
      rw [e, mHeap_new] at hk ⊢
      rw [mHeap_length p q, mHeap_new]
      cases hp : p d.i with
      | false => rw [hp] at hk; exact absurd rfl hk
      | true => rw [h d (List.mem_cons_self ..) hp]
theorem mHeap_congr (p q : Nat → Bool) (H : Hp) : ∀ {D : List Done}, (∀ d ∈ D, p d.i = q d.i) → mHeap p H D = mHeap q H D
  | [], _ => rfl
  | d :: r, h => by simp only [mHeap]; rw [mHeap_congr p q H (fun d hd => h d (List.mem_cons_of_mem _ hd)), h d (List.mem_cons_self ..)]
theorem mHeap_high (p q : Nat → Bool) (H : Hp) {D : List Done} {k : Nat} (hk : (mHeap p H D).length ≤ k) : ∀ {pre : List Done}, (∀ d ∈ pre, p d.i = q d.i) → hget k (mHeap p H (pre ++ D)) = hget k (mHeap q H (pre ++ D))
  | [], _ => by
    rw [List.nil_append, hget_out hk, hget_out (by rw [mHeap_length q p]; exact hk)]
  | e :: pre, h => by
    have ih := mHeap_high p q H hk (pre := pre) (fun d hd => h d (List.mem_cons_of_mem _ hd))
    rcases Nat.lt_or_ge k (mHeap p H (pre ++ D)).length with hlt | hge
    · simp only [List.cons_append, mHeap]
      rw [hget_append_lt hlt, hget_append_lt (by rw [mHeap_length q p]; exact hlt)]; exact ih
    · have e' : k = (mHeap p H (pre ++ D)).length + (k - (mHeap p H (pre ++ D)).length) := by omega
      rw [List.cons_append, e', mHeap_new, mHeap_length p q, mHeap_new, h e (List.mem_cons_self ..)]

theorem refsIn_get {base : Nat} {G : Hp} : ∀ {l : List Nat}, refsIn base G l = true → ∀ k ∈ l, In base G k
  | [], _, k, h => by simp at h
  | j :: r, h, k, hk => by
    simp only [refsIn, Bool.and_eq_true, Bool.or_eq_true] at h
    rcases List.mem_cons.1 hk with rfl | hk
    · rcases h.1 with h1 | h1
      · exact .inl (Nat.le_of_ble_eq_true h1)
      · exact .inr fun hd => by rw [hd] at h1; cases h1
    · exact refsIn_get h.2 k hk
theorem refsBs_get : ∀ {l : List ABlk} {q : Nat}, ∀ k ∈ refsB (hget q l), k ∈ refsBs l
  | [], q, k, h => by simp [hget, refsB] at h
  | b :: r, 0, k, h => by simp only [hget] at h; simp [refsBs, h]
  | b :: r, q + 1, k, h => by simp only [hget] at h; simp [refsBs, refsBs_get (l := r) k h]
theorem subL_get : ∀ {a b : List Nat}, subL a b = true → ∀ k ∈ a, k ∈ b
  | [], b, _, k, h => by simp at h
  | j :: r, b, h, k, hk => by
    simp only [subL, Bool.and_eq_true] at h
    rcases List.mem_cons.1 hk with rfl | hk
    · exact elemN_iff.1 h.1
    · exact subL_get h.2 k hk

/-! ### what the run in text order says -/
def Want (ps : List Nat) (o : Oper) (D : List Done) (r : Bool) : Prop := match o.guard with
  | none => r = true
  | some (j, want) => j ∈ ps ∧ ((∃ c, doneV j D = .bool c ∧ r = (c == want)) ∨ (doneV j D = .tup [] ∧ r = false))
def Fact (X : Cx) (env0 : Env) (H : Hp) (ps : List Nat) (o : Oper) (d : Done) (D : List Done) : Prop :=
  (Want ps o D true ∧ OpDoes X.P o (mEnv (fun k => elemN k ps) env0 D) (mHeap (fun k => elemN k ps) H D) d.v ⟨[], d.news⟩ ∧
    refsIn H.length (mHeap (fun k => elemN k ps) H D ++ d.news) (refs d.v ++ refsBs d.news) = true) ∨ (Want ps o D false ∧ d.v = .tup [] ∧ d.news = [])
def DOk (X : Cx) (ops : Array Oper) (pss : List (List Nat)) (env0 : Env) (H : Hp) : List Done → Prop
  | [] => True
  | d :: D => DOk X ops pss env0 H D ∧ d.i = D.length ∧ ∃ o, ops[d.i]? = some o ∧ d.dst = o.dst ∧ Fact X env0 H (nthL d.i pss) o d D

theorem doneSet_self {j : Nat} {v : AVal} : ∀ {D : List Done}, doneV j D = v → doneSet j v D = D
  | [], _ => rfl
  | d :: r, h => by
    simp only [doneV] at h
    simp only [doneSet]
    cases hj : Nat.beq j d.i with
    | true => rw [hj] at h; simp only [cond] at h ⊢; rw [← h]
    | false => rw [hj] at h; simp only [cond] at h ⊢; rw [doneSet_self h]

theorem drawOne_sound {X : Cx} (hT : TSound X.P X.T) {env0 : Env} {H : Hp} {o : Oper} {ps : List Nat} {i : Nat} {D : List Done} {K : List Done → Prop} (h : drawOne X env0 H o ps i D K) :
    ∃ v n, K (⟨i, o.dst, v, n⟩ :: D) ∧ OpDoes X.P o (mEnv (fun k => elemN k ps) env0 D) (mHeap (fun k => elemN k ps) H D) v ⟨[], n⟩ ∧ refsIn H.length (mHeap (fun k => elemN k ps) H D ++ n) (refs v ++ refsBs n) = true := by
  unfold drawOne at h
  rw [maskEnvK_iff, maskHeapK_iff] at h
  obtain ⟨v, e, hk, hdo⟩ := opP_sound hT h
  obtain ⟨ss, n⟩ := e
  unfold newsK at hk
  cases ss with
  | cons s ss => exact hk.elim
  | nil =>
    simp only [chkP] at hk
    cases hr : refsIn H.length (mHeap (fun k => elemN k ps) H D ++ n) (refs v ++ refsBs n) with
    | false => rw [hr] at hk; exact hk.elim
    | true => rw [hr] at hk; exact ⟨v, n, hk, hdo, hr⟩

theorem drawP_sound {X : Cx} (hT : TSound X.P X.T) {ops : Array Oper} {pss : List (List Nat)} {env0 : Env} {H : Hp} : ∀ (l : List Oper) (pr : List (List Nat)) (D : List Done) (K : List Done → Prop), DOk X ops pss env0 H D →
    (∀ j o, l[j]? = some o → ops[D.length + j]? = some o) → (∀ j, nthL j pr = nthL (D.length + j) pss) → drawP X env0 H l pr D.length D K → ∃ Df, DOk X ops pss env0 H Df ∧ Df.length = D.length + l.length ∧ K Df
  | [], pr, D, K, hD, _, _, h => ⟨D, hD, rfl, by simpa [drawP] using h⟩
  | o :: r, [], D, K, _, _, _, h => h.elim
  | o :: r, ps :: pr, D, K, hD, hl, hp, h => by
    have ho : ops[D.length]? = some o := hl 0 o rfl
    have hps : ps = nthL D.length pss := hp 0
    have step : ∀ (d : Done), d.i = D.length → d.dst = o.dst → Fact X env0 H ps o d D → drawP X env0 H r pr (D.length + 1) (d :: D) K → ∃ Df, DOk X ops pss env0 H Df ∧ Df.length = D.length + (o :: r).length ∧ K Df := fun d hi hd hF h => by
      obtain ⟨Df, h1, h2, h3⟩ := drawP_sound hT r pr (d :: D) K ⟨hD, hi, o, by rw [hi]; exact ho, hd, by rw [hi, ← hps]; exact hF⟩ (fun j o' hj => by
        have := hl (j + 1) o' (by simpa using hj)
        rw [List.length_cons, show D.length + 1 + j = D.length + (j + 1) by omega]; exact this) (fun j => by
        have := hp (j + 1)
        rw [List.length_cons, show D.length + 1 + j = D.length + (j + 1) by omega]; exact this) h
      exact ⟨Df, h1, by simp at h2 ⊢; omega, h3⟩
    have one : ∀ (hw : Want ps o D true), drawOne X env0 H o ps D.length D (fun D' => drawP X env0 H r pr (D.length + 1) D' K) → ∃ Df, DOk X ops pss env0 H Df ∧ Df.length = D.length + (o :: r).length ∧ K Df := fun hw h => by
      obtain ⟨v, n, hk, hdo, hr⟩ := drawOne_sound hT h
      exact step ⟨D.length, o.dst, v, n⟩ rfl rfl (.inl ⟨hw, hdo, hr⟩) hk
    have off : ∀ (hw : Want ps o D false), drawP X env0 H r pr (D.length + 1) (⟨D.length, o.dst, .tup [], []⟩ :: D) K → ∃ Df, DOk X ops pss env0 H Df ∧ Df.length = D.length + (o :: r).length ∧ K Df := fun hw h =>
      step ⟨D.length, o.dst, .tup [], []⟩ rfl rfl (.inr ⟨hw, rfl, rfl⟩) h
    unfold drawP at h
    split at h
    · rename_i hg
      exact one (by simp [Want, hg]) h
    · rename_i j want hg
      cases hj : elemN j ps with
      | false => rw [hj] at h; exact h.elim
      | true =>
        rw [hj] at h
        simp only [cond_true] at h
        split at h
        · rename_i b hb
          have hw : Want ps o D (b == want) := by simp only [Want, hg]; exact ⟨elemN_iff.1 hj, .inl ⟨b, hb, rfl⟩⟩
          cases b with
          | true =>
            simp only [brP, cond_true] at h
            rw [forceL_iff, doneSet_self hb] at h
            cases want with
            | true => exact one hw h
            | false => exact off hw h
          | false =>
            simp only [brP, cond_false] at h
            rw [forceL_iff, doneSet_self hb] at h
            cases want with
            | true => exact off hw h
            | false => exact one hw h
        · rename_i hb
          exact off (by simp only [Want, hg]; exact ⟨elemN_iff.1 hj, .inr ⟨hb, trivial⟩⟩) h
        · exact h.elim

end Go.Proofs.Ytnbbaemijogeoaa.Ae

namespace Go.Proofs.Ytnbbaemijogeoaa.Ae
open Go
section
variable {X : Cx} {ops : Array Oper} {pss : List (List Nat)} {env0 : Env} {H : Hp}

/-- with one, all that it was run after -/
def Clo (pss : List (List Nat)) (p : Nat → Bool) (n : Nat) : Prop := ∀ i, i < n → p i = true → ∀ j ∈ nthL i pss, p j = true

theorem DOk.tail {d : Done} {D : List Done} (h : DOk X ops pss env0 H (d :: D)) : DOk X ops pss env0 H D := h.1
theorem DOk.suffix : ∀ {pre D : List Done}, DOk X ops pss env0 H (pre ++ D) → DOk X ops pss env0 H D
  | [], _, h => h
  | _ :: pre, _, h => DOk.suffix (pre := pre) h.1
theorem DOk.lt : ∀ {D : List Done}, DOk X ops pss env0 H D → ∀ d ∈ D, d.i < D.length
  | [], _, d, hd => by simp at hd
  | e :: D, h, d, hd => by
    rcases List.mem_cons.1 hd with rfl | hd
    · rw [h.2.1]; simp
    · have := DOk.lt h.1 d hd; simp; omega
theorem DOk.find : ∀ {D : List Done} {i : Nat}, DOk X ops pss env0 H D → i < D.length → ∃ pre d D', D = pre ++ d :: D' ∧ d.i = i ∧ D'.length = i
  | [], i, _, h => by simp at h
  | e :: D, i, h, hi => by
    by_cases hd : e.i = i
    · exact ⟨[], e, D, rfl, hd, by rw [← hd, h.2.1]⟩
    · have h1 := h.2.1
      simp at hi
      obtain ⟨pre, d, D', h2, h3, h4⟩ := DOk.find (i := i) h.1 (by omega)
      exact ⟨e :: pre, d, D', by rw [h2]; rfl, h3, h4⟩
theorem DOk.apart : ∀ {pre D : List Done} {d : Done}, DOk X ops pss env0 H (pre ++ d :: D) → (∀ e ∈ pre, e.i ≠ d.i) ∧ (∀ e ∈ D, e.i ≠ d.i) := by
  intro pre D d h
  have h1 := DOk.suffix h
  refine ⟨?_, fun e he => by have := DOk.lt h1.1 e he; rw [h1.2.1]; omega⟩
  induction pre with
  | nil => intro e he; simp at he
  | cons f pre ih =>
    intro e he
    rcases List.mem_cons.1 he with rfl | he
    · have h2 := h.2.1
      have h3 := DOk.lt h.1 d (by simp)
      omega
    · exact ih h.1 e he

/-- live blocks lead to live ones -/
theorem live_refs (hbase : allLt (refsBs H) H.length = true) {p : Nat → Bool} : ∀ {D : List Done}, DOk X ops pss env0 H D → Clo pss p D.length → ∀ k, hget k (mHeap p H D) ≠ .dead → ∀ j ∈ refsB (hget k (mHeap p H D)), In H.length (mHeap p H D) j
  | [], _, _, k, hk, j, hj => by
    simp only [mHeap] at hj
    exact .inl (allLt_get hbase j (refsBs_get j hj))
  | d :: D, h, hc, k, hk, j, hj => by
    have keep : ∀ j, In H.length (mHeap p H D) j → In H.length (mHeap p H (d :: D)) j := fun j h => by
      rcases h with h | h
      · exact .inl h
      · refine .inr ?_
        simp only [mHeap]; rw [hget_append_lt (hget_lt h)]; exact h
    rcases Nat.lt_or_ge k (mHeap p H D).length with hlt | hge
    · have e : hget k (mHeap p H (d :: D)) = hget k (mHeap p H D) := by simp only [mHeap]; rw [hget_append_lt hlt]
      rw [e] at hk hj
      exact keep j (live_refs hbase h.1 (fun i hi => hc i (by simp; omega)) k hk j hj)
    · have e : k = (mHeap p H D).length + (k - (mHeap p H D).length) := by omega
      rw [e, mHeap_new] at hk hj
      cases hp : p d.i with
      | false => rw [hp] at hk; exact absurd rfl hk
      | true =>
        rw [hp] at hj hk
        simp only [cond_true] at hj hk
        obtain ⟨_, hi, o, _, _, hF⟩ := h
        rcases hF with ⟨_, _, hr⟩ | ⟨_, _, hn⟩
        · rcases refsIn_get hr j (List.mem_append_right _ (refsBs_get j hj)) with h1 | h1
          · exact .inl h1
          · refine .inr ?_
            have hl : (mHeap (fun k => elemN k (nthL d.i pss)) H D).length = (mHeap p H D).length := mHeap_length _ _ _ _
            rcases Nat.lt_or_ge j (mHeap p H D).length with hjl | hjl
            · rw [hget_append_lt (by omega)] at h1
              have h2 := mHeap_live _ p H (fun d' _ hd' => hc d.i (by rw [hi]; simp) hp d'.i (elemN_iff.1 hd')) h1
              simp only [mHeap]; rw [hget_append_lt hjl, h2]; exact h1
            · have e2 : j = (mHeap p H D).length + (j - (mHeap p H D).length) := by omega
              rw [e2, ← hl, hget_append_ge] at h1
              rw [e2, mHeap_new, hp]
              rw [hl] at h1
              exact h1
        · rw [hn] at hk; simp [hget] at hk
/-- and so do values -/
theorem val_refs {p : Nat → Bool} {pre D : List Done} {d : Done} (h : DOk X ops pss env0 H (pre ++ d :: D)) (hc : Clo pss p (pre ++ d :: D).length) (hp : p d.i = true) : ∀ j ∈ refs d.v, In H.length (mHeap p H (pre ++ d :: D)) j := by
  intro j hj
  have hs := DOk.suffix h
  obtain ⟨_, hi, o, _, _, hF⟩ := hs
  rcases hF with ⟨_, _, hr⟩ | ⟨_, hv, _⟩
  · rcases refsIn_get hr j (List.mem_append_left _ hj) with h1 | h1
    · exact .inl h1
    · refine .inr ?_
      have hl : (mHeap (fun k => elemN k (nthL d.i pss)) H D).length = (mHeap p H D).length := mHeap_length _ _ _ _
      have hlt : j < (mHeap p H (d :: D)).length := by
        have := hget_lt h1
        rw [List.length_append] at this
        rw [mHeap_len_cons]; omega
      rw [(mHeap_low p H pre hlt).1]
      rcases Nat.lt_or_ge j (mHeap p H D).length with hjl | hjl
      · rw [hget_append_lt (by omega)] at h1
        have h2 := mHeap_live _ p H (fun d' _ hd' => hc d.i (by rw [hi]; simp; omega) hp d'.i (elemN_iff.1 hd')) h1
        simp only [mHeap]; rw [hget_append_lt hjl, h2]; exact h1
      · have e2 : j = (mHeap p H D).length + (j - (mHeap p H D).length) := by omega
        rw [e2, ← hl, hget_append_ge] at h1
        rw [e2, mHeap_new, hp]
        rw [hl] at h1
        exact h1
  · rw [hv] at hj; simp [refs, refsL] at hj

/-! ### the temporaries -/
def Dist (D : List Done) : Prop := ∀ d ∈ D, ∀ e ∈ D, ∀ t, d.dst = some t → e.dst = some t → d.i = e.i
theorem mEnv_no {p : Nat → Bool} {t : Nat} : ∀ {D : List Done}, (∀ d ∈ D, p d.i = true → d.dst ≠ some t) → eget t (mEnv p env0 D) = eget t env0
  | [], _ => rfl
  | d :: D, h => by
    have ih := mEnv_no (p := p) (t := t) (D := D) (fun e he => h e (List.mem_cons_of_mem _ he))
    simp only [mEnv]
    cases hp : p d.i with
    | false => exact ih
    | true =>
      simp only [cond_true]
      have := h d (List.mem_cons_self ..) hp
      cases hd : d.dst with
      | none => exact ih
      | some u =>
        simp only [putEnv, eget]
        have hne : Nat.beq t u = false := by
          cases hb : Nat.beq t u with
          | false => rfl
          | true => have := Nat.eq_of_beq_eq_true hb; subst this; exact absurd hd (h d (List.mem_cons_self ..) hp)
        rw [hne]; exact ih
theorem mEnv_own {p : Nat → Bool} {t : Nat} {d : Done} : ∀ {pre D : List Done}, (∀ e ∈ pre, e.dst ≠ some t) → p d.i = true → d.dst = some t → eget t (mEnv p env0 (pre ++ d :: D)) = d.v
  | [], D, _, hp, hd => by simp [mEnv, hp, hd, putEnv, eget, Nat.beq_refl]
  | e :: pre, D, h, hp, hd => by
    have ih := mEnv_own (p := p) (t := t) (d := d) (pre := pre) (D := D) (fun f hf => h f (List.mem_cons_of_mem _ hf)) hp hd
    simp only [List.cons_append, mEnv]
    cases hpe : p e.i with
    | false => exact ih
    | true =>
      simp only [cond_true]
      cases hde : e.dst with
      | none => exact ih
      | some u =>
        simp only [putEnv, eget]
        have hne : Nat.beq t u = false := by
          cases hb : Nat.beq t u with
          | false => rfl
          | true => have := Nat.eq_of_beq_eq_true hb; subst this; exact absurd hde (h e (List.mem_cons_self ..))
        rw [hne]; exact ih
theorem Dist.pre {pre D : List Done} {d : Done} {t : Nat} (h : Dist (pre ++ d :: D)) (ha : ∀ e ∈ pre, e.i ≠ d.i) (hd : d.dst = some t) : ∀ e ∈ pre, e.dst ≠ some t := fun e he hed =>
  ha e he (h e (List.mem_append_left _ he) d (List.mem_append_right _ (List.mem_cons_self ..)) t hed hd)
theorem Dist.suf {pre D : List Done} (h : Dist (pre ++ D)) : Dist D := fun d hd e he t => h d (List.mem_append_right _ hd) e (List.mem_append_right _ he) t

end
end Go.Proofs.Ytnbbaemijogeoaa.Ae

namespace Go.Proofs.Ytnbbaemijogeoaa.Ae
open Go
section
variable {X : Cx} {ops : Array Oper} {pss : List (List Nat)} {env0 : Env} {H : Hp}

/-- what holds of the text's run -/
structure Ran (X : Cx) (ops : Array Oper) (pss : List (List Nat)) (env0 : Env) (H : Hp) (Df : List Done) : Prop where
  ok : DOk X ops pss env0 H Df
  dist : Dist Df
  base : allLt (refsBs H) H.length = true
  env : ∀ t, ∀ j ∈ refs (eget t env0), j < H.length
  und : ∀ d ∈ Df, ∀ t, d.dst = some t → eget t env0 = .undef
  tr : ∀ i, i < Df.length → ∀ j ∈ nthL i pss, j < i ∧ ∀ k ∈ nthL j pss, k ∈ nthL i pss
  dst : ∀ d ∈ Df, dstOk X.nt d.dst = true

/-- the state when some have run -/
def At (R1 : Nat → Prop) (w1 : World) (m1 : Mp) (H : Hp) (env0 : Env) (Df : List Done) (p : Nat → Bool) (a : Act) (w : World) : Prop :=
  ∃ R m, Far R1 w1 m1 H R w m (mHeap p H Df) ∧ EnvR R w m (mHeap p H Df) (mEnv p env0 Df) a ∧ ∀ pre d D, Df = pre ++ d :: D → p d.i = false → ∀ q, q < d.news.length → m ((mHeap p H D).length + q) = none

theorem mEnv_congr {p q : Nat → Bool} {t : Nat} : ∀ {D : List Done}, (∀ e ∈ D, e.dst = some t → p e.i = q e.i) → eget t (mEnv p env0 D) = eget t (mEnv q env0 D)
  | [], _ => rfl
  | e :: D, h => by
    have ih := mEnv_congr (p := p) (q := q) (t := t) (D := D) (fun f hf => h f (List.mem_cons_of_mem _ hf))
    have put : ∀ env : Env, e.dst ≠ some t → eget t (putEnv e.dst e.v env) = eget t env := fun env hne => by
      cases hd : e.dst with
      | none => rfl
      | some u =>
        simp only [putEnv, eget]
        cases hb : Nat.beq t u with
        | false => rfl
        | true => have := Nat.eq_of_beq_eq_true hb; subst this; exact absurd hd hne
    simp only [mEnv]
    by_cases hd : e.dst = some t
    · rw [h e (List.mem_cons_self ..) hd]
      cases q e.i with
      | false => exact ih
      | true => simp only [cond_true, hd, putEnv, eget, Nat.beq_refl]
    · cases p e.i <;> cases q e.i <;> simp only [cond_true, cond_false] <;> (try rw [put _ hd]) <;> (try rw [put _ hd]) <;> exact ih

theorem split_mem {e : Done} {D : List Done} (h : e ∈ D) : ∃ pre D', D = pre ++ e :: D' := List.append_of_mem h

theorem Ran.own {Df : List Done} (r : Ran X ops pss env0 H Df) {p : Nat → Bool} {e : Done} {t : Nat} (he : e ∈ Df) (hp : p e.i = true) (hd : e.dst = some t) : eget t (mEnv p env0 Df) = e.v := by
  obtain ⟨pre, D', rfl⟩ := split_mem he
  exact mEnv_own (r.dist.pre (DOk.apart r.ok).1 hd) hp hd
open Classical in
theorem Ran.envRefs {Df : List Done} (r : Ran X ops pss env0 H Df) {p : Nat → Bool} (hc : Clo pss p Df.length) (t : Nat) : ∀ j ∈ refs (eget t (mEnv p env0 Df)), In H.length (mHeap p H Df) j := by
  by_cases h : ∃ e ∈ Df, p e.i = true ∧ e.dst = some t
  · obtain ⟨e, he, hp, hd⟩ := h
    rw [r.own he hp hd]
    obtain ⟨pre, D', rfl⟩ := split_mem he
    exact val_refs r.ok hc hp
  · rw [mEnv_no fun d hd hp hdt => h ⟨d, hd, hp, hdt⟩]
    exact fun j hj => .inl (r.env t j hj)
theorem Ran.suf {pre D : List Done} (r : Ran X ops pss env0 H (pre ++ D)) : Ran X ops pss env0 H D :=
  ⟨DOk.suffix r.ok, r.dist.suf, r.base, r.env, fun d hd => r.und d (List.mem_append_right _ hd), fun i hi => r.tr i (by simp; omega), fun d hd => r.dst d (List.mem_append_right _ hd)⟩

theorem Ran.fit {pre D : List Done} {d : Done} (r : Ran X ops pss env0 H (pre ++ d :: D)) {p p' : Nat → Bool} (hc : Clo pss p (pre ++ d :: D).length) (hno : p d.i = false) (hps : ∀ j ∈ nthL d.i pss, p j = true)
    (h1 : p' d.i = true) (h2 : ∀ k, k ≠ d.i → p' k = p k) (hn : ∀ j ∈ refsBs d.news, In H.length (mHeap (fun k => elemN k (nthL d.i pss)) H D ++ d.news) j) :
    Fit H.length (mHeap (fun k => elemN k (nthL d.i pss)) H D) (mHeap p H (pre ++ d :: D)) (mHeap p' H (pre ++ d :: D)) d.news := by
  have hl : ∀ q : Nat → Bool, (mHeap (fun k => elemN k (nthL d.i pss)) H D).length = (mHeap q H D).length := fun q => mHeap_length _ _ _ _
  have hap := DOk.apart r.ok
  have hdi : d.i = D.length := (DOk.suffix r.ok).2.1
  have hdl : d.i < (pre ++ d :: D).length := by rw [hdi]; simp; omega
  have low : ∀ (q : Nat → Bool) (k : Nat), k < (mHeap q H D).length → hget k (mHeap q H (pre ++ d :: D)) = hget k (mHeap q H D) := fun q k hk => by
    rw [(mHeap_low q H pre (by rw [mHeap_len_cons]; omega)).1]
    simp only [mHeap]; rw [hget_append_lt hk]
  have at' : ∀ (q : Nat → Bool) (j : Nat), j < d.news.length → hget ((mHeap q H D).length + j) (mHeap q H (pre ++ d :: D)) = cond (q d.i) (hget j d.news) .dead := fun q j hj => by
    rw [(mHeap_low q H pre (by rw [mHeap_len_cons]; omega)).1, mHeap_new]
  refine ⟨mHeap_base_le _ _ _, fun k hk => by rw [mHeap_base _ _ _ hk, mHeap_base _ _ _ hk], fun k hk => ?_, fun q hq => ?_, fun q hq => ?_, fun k hk => ?_, mHeap_length _ _ _ _, ?_, ?_, ?_, fun q hq j hj => hn j (refsBs_get j hj)⟩
  · rw [low p k (by rw [← hl p]; exact hget_lt hk)]
    exact mHeap_live _ p H (fun e _ he => hps e.i (elemN_iff.1 he)) hk
  · rw [hl p, at' p q hq, hno]; rfl
  · rw [hl p', at' p' q hq, h1]; rfl
  · rcases hk with hk | hk
    · rw [low p' k (by rw [← hl p']; exact hk), low p k (by rw [← hl p]; exact hk), mHeap_congr p' p H fun e he => h2 e.i (hap.2 e he)]
    · refine mHeap_high p' p H ?_ fun e he => h2 e.i (hap.1 e he)
      rw [mHeap_len_cons, ← hl p']; exact hk
  · have := mHeap_len_le p H (D := d :: D) pre
    rw [mHeap_len_cons, ← hl p] at this; exact this
  · refine live_refs r.base (DOk.suffix r.ok).1 fun i _ hi j hj => ?_
    have hi' := elemN_iff.1 hi
    exact elemN_iff.2 ((r.tr d.i hdl i hi').2 j hj)
  · exact live_refs r.base r.ok hc

theorem At.step {R1 : Nat → Prop} {w1 : World} {m1 : Mp} {pre D : List Done} {d : Done} (r : Ran X ops pss env0 H (pre ++ d :: D)) {p p' : Nat → Bool} (hc : Clo pss p (pre ++ d :: D).length) (hno : p d.i = false) (hps : ∀ j ∈ nthL d.i pss, p j = true)
    (h1 : p' d.i = true) (h2 : ∀ k, k ≠ d.i → p' k = p k) {a : Act} {w : World} (hsz : a.tmps.size = X.nt) (hA : At R1 w1 m1 H env0 (pre ++ d :: D) p a w) {o : Oper} (hF : Fact X env0 H (nthL d.i pss) o d D) :
    (Want (nthL d.i pss) o D true ∧ gives X.P o a w fun x w' => At R1 w1 m1 H env0 (pre ++ d :: D) p' (a.put d.dst x) w') ∨ (Want (nthL d.i pss) o D false ∧ At R1 w1 m1 H env0 (pre ++ d :: D) p' (a.put d.dst undef) w) := by
  obtain ⟨R, m, F0, hE, hgap⟩ := hA
  have hap := DOk.apart r.ok
  have hdm : d ∈ pre ++ d :: D := List.mem_append_right _ (List.mem_cons_self ..)
  have hdi : d.i = D.length := (DOk.suffix r.ok).2.1
  have hdl : d.i < (pre ++ d :: D).length := by rw [hdi]; simp; omega
  have hdst : dstOk a.tmps.size d.dst = true := by rw [hsz]; exact r.dst d hdm
  have uniq : ∀ e ∈ pre ++ d :: D, e.i = d.i → e = d := fun e he hei => by
    rcases List.mem_append.1 he with h | h
    · exact absurd hei (hap.1 e h)
    · rcases List.mem_cons.1 h with h | h
      · exact h
      · exact absurd hei (hap.2 e h)
  have other : ∀ t, d.dst ≠ some t → eget t (mEnv p' env0 (pre ++ d :: D)) = eget t (mEnv p env0 (pre ++ d :: D)) := fun t ht => mEnv_congr fun e he hed => h2 e.i fun hei => ht (by rw [← uniq e he hei]; exact hed)
  -- the rest, when the new state is given
  have gaps : ∀ (m2 : Mp), (∀ k, (k < (mHeap p H D).length ∨ (mHeap p H D).length + d.news.length ≤ k) → m2 k = m k) → ∀ pre2 d2 D2, pre ++ d :: D = pre2 ++ d2 :: D2 → p' d2.i = false → ∀ q, q < d2.news.length → m2 ((mHeap p' H D2).length + q) = none := by
    intro m2 hm2 pre2 d2 D2 he hp2 q hq
    have hne : d2.i ≠ d.i := fun e => by rw [e, h1] at hp2; cases hp2
    have hok2 : DOk X ops pss env0 H (d2 :: D2) := DOk.suffix (pre := pre2) (by rw [← he]; exact r.ok)
    have hd2 : d2.i = D2.length := hok2.2.1
    rw [mHeap_length p' p, hm2]
    · exact hgap pre2 d2 D2 he (by rw [← h2 d2.i hne]; exact hp2) q hq
    · have s1 : (d :: D) <:+ (pre ++ d :: D) := ⟨pre, rfl⟩
      have s2 : (d2 :: D2) <:+ (pre ++ d :: D) := ⟨pre2, he.symm⟩
      rcases Nat.lt_or_gt_of_ne hne with h | h
      · left
        obtain ⟨mid, hmid⟩ := List.suffix_of_suffix_length_le s2 (⟨pre ++ [d], by simp⟩ : D <:+ (pre ++ d :: D)) (by simp; omega)
        have := mHeap_len_le p H (D := d2 :: D2) mid
        rw [hmid, mHeap_len_cons] at this
        omega
      · right
        obtain ⟨mid, hmid⟩ := List.suffix_of_suffix_length_le s1 (⟨pre2 ++ [d2], by simp [he]⟩ : D2 <:+ (pre ++ d :: D)) (by simp; omega)
        have := mHeap_len_le p H (D := d :: D) mid
        rw [hmid, mHeap_len_cons] at this
        omega
  rcases hF with ⟨hw, hdo, hr⟩ | ⟨hw, hv, hn⟩
  · left
    refine ⟨hw, ?_⟩
    have f := r.fit hc hno hps h1 h2 fun j hj => refsIn_get hr j (List.mem_append_right _ hj)
    have hSs := f.simS F0.sim
    have hnum := f.numS m
    have hEs : EnvR R w (cutM m (mHeap (fun k => elemN k (nthL d.i pss)) H D).length) (mHeap (fun k => elemN k (nthL d.i pss)) H D) (mEnv (fun k => elemN k (nthL d.i pss)) env0 D) a := by
      have rD : Ran X ops pss env0 H D := (Ran.suf (pre := [d]) (Ran.suf r))
      intro t
      by_cases h : ∃ e ∈ D, elemN e.i (nthL d.i pss) = true ∧ e.dst = some t
      · obtain ⟨e, he, hpe, hd⟩ := h
        have e1 : eget t (mEnv (fun k => elemN k (nthL d.i pss)) env0 D) = e.v := rD.own (p := fun k => elemN k (nthL d.i pss)) he hpe hd
        have e2 : eget t (mEnv p env0 (pre ++ d :: D)) = e.v := r.own (List.mem_append_right _ (List.mem_cons_of_mem _ he)) (hps _ (elemN_iff.1 hpe)) hd
        have h3 := hE t
        rw [e2] at h3
        have h4 := h3.ren hnum
        rw [e1]
        rwa [ren_id fun j hj => rOn_in ?_] at h4
        obtain ⟨pre', D', hD⟩ := split_mem he
        have := val_refs (p := fun k => elemN k (nthL d.i pss)) (pre := pre') (D := D') (d := e) (by rw [← hD]; exact rD.ok) (fun i _ hi j hj => elemN_iff.2 ((r.tr d.i hdl i (elemN_iff.1 hi)).2 j hj)) hpe j hj
        rw [← hD] at this; exact this
      · rw [mEnv_no fun e he hp hdt => h ⟨e, he, hp, hdt⟩]
        by_cases h' : ∃ e ∈ pre ++ d :: D, e.dst = some t
        · obtain ⟨e, he, hd⟩ := h'
          rw [r.und e he t hd]; exact .undef _
        · have h3 := hE t
          rw [mEnv_no fun e he _ hdt => h' ⟨e, he, hdt⟩] at h3
          have h4 := h3.ren hnum
          rwa [ren_id fun j hj => rOn_in (.inl (r.env t j hj))] at h4
    have hg := hdo R w _ a hSs hEs
    unfold gives at hg ⊢
    have mono : ∀ {S S' : Value → World → Prop} {z : Result Next}, (∀ x w', S x w' → S' x w') → givesUpon X.P S z → givesUpon X.P S' z := fun hss h => by
      rename_i S S' z
      cases z with
      | ok n w' =>
        cases n <;> simp only [givesUpon] at h ⊢
        case value u => exact hss _ _ h
        case skip => exact hss _ _ h
        case enter f args => exact Calls.mono h fun e w'' ⟨v, he, hr⟩ => ⟨v, he, hss _ _ hr⟩
      | halt x w' => simp only [givesUpon] at h
    refine mono (fun x w' ⟨R', m', F, hV⟩ => ?_) hg
    have hap' : (⟨[], d.news⟩ : Eff).app (mHeap (fun k => elemN k (nthL d.i pss)) H D) = mHeap (fun k => elemN k (nthL d.i pss)) H D ++ d.news := rfl
    rw [hap'] at F hV
    obtain ⟨F1, n1, n2, hR, hw', hrow⟩ := f.lift F0 (fun q hq => by
      rw [mHeap_length _ p]; exact hgap pre d D rfl hno q hq) F
    refine ⟨R', _, F1, fun t => ?_, gaps _ fun k hk => ?_⟩
    · by_cases hdt : d.dst = some t
      · rw [r.own hdm h1 hdt, hdt]
        have e : (a.put (some t) x).tmps.getD t undef = x := by
          rw [Array.getD_eq_getD_getElem?, put_get_eq a x t (by rw [hdt] at hdst; exact Nat.le_of_ble_eq_true hdst)]; rfl
        rw [e]
        have h4 := hV.ren n1
        rwa [ren_id fun j hj => rOn_in (refsIn_get hr j (List.mem_append_left _ hj))] at h4
      · rw [other t hdt, getD_eq (put_get_ne a d.dst x t hdt)]
        have h3 : VR R' w' m (mHeap p H (pre ++ d :: D)) (eget t (mEnv p env0 (pre ++ d :: D))) (a.tmps.getD t undef) := (hE t).mono hR hw' hrow (fun _ _ h => h) (Nat.le_refl _) (hext_self _)
        have h4 := h3.ren n2
        rwa [ren_id fun j hj => rOn_in (r.envRefs hc t j hj)] at h4
    · exact if_neg (by rw [mHeap_length _ p]; omega)
  · right
    refine ⟨hw, R, m, ?_, fun t => ?_, gaps m fun _ _ => rfl⟩
    · have e : mHeap p' H (pre ++ d :: D) = mHeap p H (pre ++ d :: D) := by
        have key : ∀ q : List Done, (∀ e ∈ q, p' e.i = p e.i ∨ e.news = []) → mHeap p' H q = mHeap p H q := by
          intro q
          induction q with
          | nil => intro _; rfl
          | cons e q ih =>
            intro hq
            simp only [mHeap]
            rw [ih fun f hf => hq f (List.mem_cons_of_mem _ hf)]
            rcases hq e (List.mem_cons_self ..) with h | h
            · rw [h]
            · rw [h]; cases p' e.i <;> cases p e.i <;> rfl
        refine key _ fun e he => ?_
        by_cases hei : e.i = d.i
        · right; rw [uniq e he hei]; exact hn
        · left; exact h2 _ hei
      rw [e]; exact F0
    · have e : mHeap p' H (pre ++ d :: D) = mHeap p H (pre ++ d :: D) := by
        have key : ∀ q : List Done, (∀ e ∈ q, p' e.i = p e.i ∨ e.news = []) → mHeap p' H q = mHeap p H q := by
          intro q
          induction q with
          | nil => intro _; rfl
          | cons e q ih =>
            intro hq
            simp only [mHeap]
            rw [ih fun f hf => hq f (List.mem_cons_of_mem _ hf)]
            rcases hq e (List.mem_cons_self ..) with h | h
            · rw [h]
            · rw [h]; cases p' e.i <;> cases p e.i <;> rfl
        refine key _ fun e he => ?_
        by_cases hei : e.i = d.i
        · right; rw [uniq e he hei]; exact hn
        · left; exact h2 _ hei
      rw [e]
      by_cases hdt : d.dst = some t
      · rw [r.own hdm h1 hdt, hv, hdt]
        have e : (a.put (some t) undef).tmps.getD t undef = undef := by
          rw [Array.getD_eq_getD_getElem?, put_get_eq a undef t (by rw [hdt] at hdst; exact Nat.le_of_ble_eq_true hdst)]; rfl
        rw [e]; exact VR.skip
      · rw [other t hdt, getD_eq (put_get_ne a d.dst undef t hdt)]; exact hE t

end
end Go.Proofs.Ytnbbaemijogeoaa.Ae
