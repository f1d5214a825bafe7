/- Append, copy, make. No program in sight. Copy, make, built values. No program in sight. Copy; structs, arrays and slices built of parts. No program in sight. -/
import Derived.Test.YtnbbaemijogeoaaAeG
import Derived.Laws.Append
namespace Go.Proofs.Ytnbbaemijogeoaa.Ae
open Go
section
variable {P : Program} {R : Nat → Prop} {w : World} {m : Mp} {H : Hp} {env : Env} {a : Act}

theorem closedL_get : ∀ {l : List AVal} {i : Nat} {v : AVal}, closedL l = true → l[i]? = some v → closed v = true
  | [], _, _, _, h => by simp at h
  | u :: l, 0, v, hc, h => by simp [closedL] at hc h; subst h; exact hc.1
  | u :: l, i + 1, v, hc, h => by simp [closedL] at hc; exact closedL_get hc.2 (by simpa using h)
theorem VR.closed {v : AVal} {x : Value} (h : VR R w m H v x) : Ae.closed v = true → ∀ {m' : Mp} {H' : Hp}, VR R w m' H' v x := by
  induction h with
  | undef x => intros; exact .undef x
  | bool b => intros; exact .bool b
  | int k n => intros; exact .int k n
  | byte x => intros; exact .byte x
  | str l h => intros; exact .str l h
  | nilS => intros; exact .nilS
  | sl b off len sz a c h1 h2 h3 h4 h5 h6 => intro hc; simp [Ae.closed] at hc
  | roB l a c g off h1 h2 h3 h4 h5 => intros; exact .roB l a c g off h1 h2 h3 h4 h5
  | ro n sz f a c g off X h1 h2 h3 h4 h5 h6 h7 ih => intros; exact .ro n sz f a c g off X h1 h2 h3 h4 h5 h6 h7
  | nilP => intros; exact .nilP
  | ptr b off g h => intro hc; simp [Ae.closed] at hc
  | rop cs g off X h4 h5 h6 ih => intros; exact .rop cs g off X h4 h5 h6
  | agg cs xs h1 h2 h3 ih =>
    intro hc m' H'
    simp only [Ae.closed] at hc
    exact .agg cs xs h1 (fun i v x hv hx => ih i v x hv hx (closedL_get hc hv)) h3
  | tup cs xs h1 h2 ih =>
    intro hc m' H'
    simp only [Ae.closed] at hc
    exact .tup cs xs h1 (fun i v x hv hx => ih i v x hv hx (closedL_get hc hv))
  | fn f a b xs ys h1 h2 h3 h4 ih1 ih2 =>
    intro hc m' H'
    simp only [Ae.closed, Bool.and_eq_true] at hc
    exact .fn f a b xs ys h1 (fun i v x hv hx => ih1 i v x hv hx (closedL_get hc.1 hv)) h3 (fun i v x hv hx => ih2 i v x hv hx (closedL_get hc.2 hv))
  | nilF => intros; exact .nilF

theorem VL.closed {vs : List AVal} {xs : List Value} (h : VL R w m H vs xs) (hc : closedL vs = true) {m' : Mp} {H' : Hp} : VL R w m' H' vs xs :=
  ⟨h.1, fun i v x hv hx => (h.2 i v x hv hx).closed (closedL_get hc hv)⟩
theorem joinSrc_sound {B B' : ABlk} {src : Src} (h : joinSrc B src = some B') {xs ys news : List Value} {n sz : Nat} {y : Value} (hB : BR R w m H B xs) (hy : ys = xs.take B.len) (hs : SrcR P R w m H src n sz y news) (r : List Value) :
    B' ≠ .dead ∧ B ≠ .dead ∧ B'.len = B.len + news.length ∧ BR R w m H B' (ys ++ (news ++ r)) := by
  have hvl := hs.vl
  cases B with
  | dead => cases src <;> simp [joinSrc] at h
  | bytes l =>
    obtain ⟨q, rfl⟩ := hB
    have e : ys = l.map bcell := by rw [hy]; exact List.take_left' (by simp [ABlk.len])
    cases src with
    | bytes k =>
      simp only [joinSrc, Option.some.injEq] at h; subst h
      have e2 := hvl.bytes_inv
      refine ⟨by simp, by simp, by rw [e2]; simp [ABlk.len], r, ?_⟩
      rw [e, e2]; simp [bcell]
    | vals k =>
      cases k with
      | nil =>
        simp only [joinSrc, Option.some.injEq] at h; subst h
        have e2 : news = [] := VL.nil_inv hvl
        refine ⟨by simp, by simp, by rw [e2]; simp [ABlk.len], r, ?_⟩
        rw [e, e2]; simp [bcell]
      | cons x k =>
        cases l with
        | cons _ _ => simp [joinSrc] at h
        | nil =>
          simp only [joinSrc, Option.some.injEq] at h; subst h
          refine ⟨by simp, by simp, ?_, ys ++ news, r, by simp, ?_⟩
          · have := hvl.1; simp [ABlk.len, Src.av] at this ⊢; exact this
          · rw [e]; exact hvl
    | flat k =>
      cases l with
      | cons _ _ => simp [joinSrc] at h
      | nil =>
        simp only [joinSrc, Option.some.injEq] at h; subst h
        refine ⟨by simp, by simp, ?_, news, r, by rw [e]; simp, hs.flat _ rfl⟩
        have := (hs.flat _ rfl).1; simp [ABlk.len]; exact this
  | vals cs =>
    obtain ⟨zs, q, rfl, hz⟩ := hB
    have e : ys = zs := by rw [hy]; exact List.take_left' (by simp [ABlk.len, hz.1])
    subst e
    cases src with
    | bytes k =>
      cases cs with
      | nil =>
        simp only [joinSrc, Option.some.injEq] at h; subst h
        have e2 := hvl.bytes_inv
        have e1 : ys = [] := hz.nil_inv
        refine ⟨by simp, by simp, by rw [e2]; simp [ABlk.len], r, ?_⟩
        rw [e1, e2]; simp
      | cons _ _ => simp [joinSrc] at h
    | vals k =>
      have h' : B' = .vals (cs ++ k) := by
        cases cs <;> cases k <;> simp [joinSrc] at h <;> simp [← h]
      subst h'
      refine ⟨by simp, by simp, ?_, ys ++ news, r, by simp, hz.append hvl⟩
      have := hvl.1; simp [ABlk.len, Src.av] at this ⊢; exact this
    | flat k =>
      cases cs with
      | nil =>
        simp only [joinSrc, Option.some.injEq] at h; subst h
        have e1 : ys = [] := hz.nil_inv
        refine ⟨by simp, by simp, ?_, news, r, by rw [e1]; simp, hs.flat _ rfl⟩
        have := (hs.flat _ rfl).1; simp [ABlk.len]; exact this
      | cons _ _ => simp [joinSrc] at h
  | flat cs =>
    obtain ⟨zs, q, rfl, hz⟩ := hB
    have e : ys = zs := by rw [hy]; exact List.take_left' (by simp [ABlk.len, hz.1])
    subst e
    cases src with
    | bytes k => simp [joinSrc] at h
    | vals k =>
      cases k with
      | nil =>
        simp only [joinSrc, Option.some.injEq] at h; subst h
        have e2 : news = [] := VL.nil_inv hvl
        refine ⟨by simp, by simp, by rw [e2]; simp [ABlk.len], ys, r, by rw [e2]; simp, hz⟩
      | cons x k =>
        simp only [joinSrc] at h
        cases hc : closedL (x :: k) with
        | false => rw [hc] at h; cases h
        | true =>
          rw [hc] at h
          simp only [cond_true, Option.some.injEq] at h; subst h
          refine ⟨by simp, by simp, ?_, ys ++ news, r, by simp, hz.append (VL.closed (vs := x :: k) hvl hc)⟩
          have := hvl.1; simp [ABlk.len, Src.av] at this ⊢; omega
    | flat k =>
      simp only [joinSrc, Option.some.injEq] at h; subst h
      refine ⟨by simp, by simp, ?_, ys ++ news, r, by simp, hz.append (hs.flat _ rfl)⟩
      have := (hs.flat _ rfl).1; simp [ABlk.len]; exact this

theorem sizeT_info {t : TypeId} {n : Nat} (h : sizeT P t = some n) : ∃ i, P.info? t = some i ∧ i.size = n := by
  unfold sizeT at h
  split at h
  · rename_i i hi; cases h; exact ⟨i, hi, rfl⟩
  · cases h
theorem bytesT_eq {t : TypeId} {i : TypeInfo} (h : P.info? t = some i) : bytesT P t = i.bytes := by simp [bytesT, Program.bytesOf, h]
theorem zero_of {t : TypeId} {z : List AVal} (h : zeroT P t = some z) {i : TypeInfo} (hi : P.info? t = some i) : ∃ v, i.zero = some v ∧ v.cells.size = z.length ∧ ∀ x ∈ v.cells.toList, x.oneCell' = true := by
  obtain ⟨v, h1, h2, h3⟩ := zeroT_run h (default : World)
  refine ⟨v, ?_, ?_, h3⟩
  · unfold zeroValue at h1
    simp only [Sem.run_bind, typeInfo, run_program, Result.andThen_ok, hi, Sem.run_pure] at h1
    cases hz : i.zero with
    | none => rw [hz] at h1; simp at h1
    | some u => rw [hz] at h1; simp at h1; rw [h1]
  · have := (h2 (fun _ => False) default Mp.nil []).1
    simp at this; exact this.symm
theorem one_zeroCells {z : Array Value} (hz : ∀ x ∈ z.toList, x.oneCell' = true) (hp : 0 < z.size) (n : Nat) : ∀ x ∈ (Builtin.zeroCells z n).toList, x.oneCell' = true := by
  intro x hx
  simp only [Builtin.zeroCells, Array.toList_map, List.mem_map] at hx
  obtain ⟨i, _, rfl⟩ := hx
  have : i % z.size < z.size := Nat.mod_lt _ hp
  rw [getElem!_pos z (i % z.size) this]
  exact hz _ (by simp)

/-- an append that makes a new array -/
theorem grow_run {t u ty e : TypeId} {i : TypeInfo} {z : Value} (ht : P.underlying t = some (.slice e)) (hu : isSrcT P u = true) (hi : P.info? e = some i) (hz : i.zero = some z) {base : Option Addr} {sLen sCap n : Nat} {y : Value} {old news : List Value}
    (hold : (Builtin.firstCells i.size sLen (.slice base sLen sCap)).run P w.drew = .ok old.toArray w.drew) (hlen : (Builtin.lenOf y).run P w = .ok n w) (hfirst : (Builtin.firstCells i.size n y).run P w.drew = .ok news.toArray w.drew)
    (hneed : sCap < sLen + n) (hby : (sLen + n) * i.bytes ≤ 140737488355328) (hmax : sLen + n ≤ 9223372036854775807) :
    (Builtin.append_ #[t, u] ty #[.slice base sLen sCap, y]).run P w =
      .ok (.slice (some ⟨w.heap.size, 0, none⟩) (sLen + n) (grownCap w (sLen + n) sCap e)) (w.drew.alloc (.cells (old ++ (news ++ (Builtin.zeroCells z.cells (grownCap w (sLen + n) sCap e - (sLen + n))).toList)).toArray e)) := by
  have hnot : (∃ e', P.underlying u = some (.slice e')) ∨ P.underlying u = some .string := by
    unfold isSrcT at hu
    split at hu
    · rename_i _ h; exact .inl ⟨_, h⟩
    · rename_i h; exact .inr h
    · cases hu
  have hfit := growslice_fits hneed hby
  have h1 : ¬ (sLen + n ≤ sCap) := by omega
  have h2 : ¬ (281474976710656 < Builtin.nextslicecap (sLen + n) sCap * i.bytes) := by omega
  have h3 : ¬ ((9223372036854775807 : Int) < (sLen : Int) + (n : Int)) := by omega
  simp only [Builtin.append_]
  rcases hnot with ⟨e', hd⟩ | hd <;>
    simp [run_underlying ht, run_underlying hd, sizeOf, typeInfo, hi, hlen, h1, h2, h3, IntKind.max, IntKind.signed, IntKind.bits, Question.forced, zeroValue, hz, hold, hfirst, newRow, grownCap] <;> (congr 2; apply Array.ext'; simp)
/-- .. that stays -/
theorem stay_run {t u ty e : TypeId} {i : TypeInfo} (ht : P.underlying t = some (.slice e)) (hu : isSrcT P u = true) (hi : P.info? e = some i) {base : Option Addr} {sLen sCap n : Nat} {y : Value} {news : List Value} {w' : World}
    (hlen : (Builtin.lenOf y).run P w = .ok n w) (hfirst : (Builtin.firstCells i.size n y).run P w = .ok news.toArray w)
    (hneed : sLen + n ≤ sCap) (hst : match base with | none => w' = w | some ad => (storeCells (ad.add (sLen * i.size)) news).run P w = .ok () w') :
    (Builtin.append_ #[t, u] ty #[.slice base sLen sCap, y]).run P w = .ok (.slice base (sLen + n) sCap) w' := by
  have hnot : (∃ e', P.underlying u = some (.slice e')) ∨ P.underlying u = some .string := by
    unfold isSrcT at hu
    split at hu
    · rename_i _ h; exact .inl ⟨_, h⟩
    · rename_i h; exact .inr h
    · cases hu
  simp only [Builtin.append_]
  cases base with
  | none =>
    simp only at hst
    subst hst
    rcases hnot with ⟨e', hd⟩ | hd <;> simp [run_underlying ht, run_underlying hd, sizeOf, typeInfo, hi, hlen, hneed, hfirst]
  | some ad =>
    simp only at hst
    rcases hnot with ⟨e', hd⟩ | hd <;> simp [run_underlying ht, run_underlying hd, sizeOf, typeInfo, hi, hlen, hneed, hfirst, hst]

theorem last_blk (H : Hp) (B : ABlk) : hget H.length (H ++ [B]) = B := by have := hget_append_ge (k := 0) (H := H) (G := [B]); simpa [hget] using this
theorem grown_stp (hS : Sim R w m H) {B : ABlk} {xs : List Value} {e : TypeId} (h1 : ∀ x ∈ xs, x.oneCell' = true) (hB : BR R w m H B xs) : Stp R w m H (w.drew.alloc (.cells xs.toArray e)) (upd m H.length w.heap.size) (H ++ [B]) := by
  have s1 := hS.drew
  refine s1.trans (s1.sim.alloc B xs e (0, 0) (fun i _ => by omega) h1 ?_)
  exact hB.mono (fun _ h => h) (s1.rsame hS) s1.rows s1.agree s1.hlen s1.hext
theorem kill_len (k : Nat) (H : Hp) : (hset k .dead H).length = H.length := hset_length ..

theorem appendF_sound (hS : Sim R w m H) {t u ty : TypeId} (hu : isSrcT P u = true) {s x q : AVal} {sv y : Value} {c : Option Prop} {ef : Eff} (hs : VR R w m H s sv) (hx : VR R w m H x y) (h : appendF P H t s x = some (c, q, ef)) (hc : ∀ p, c = some p → p) :
    ∃ z w' m', (Builtin.append_ #[t, u] ty #[sv, y]).run P w = .ok z w' ∧ Stp R w m H w' m' (ef.app H) ∧ VR R w' m' (ef.app H) q z := by
  unfold appendF at h
  simp only [forceB_eq] at h
  split at h
  case h_2 => cases h
  rename_i e ht
  split at h
  case h_2 => cases h
  rename_i sz hsz
  cases hck : (Nat.ble 1 sz && zeroLen P e sz && Nat.ble 1 (bytesT P e)) with
  | false => rw [hck] at h; cases h
  | true =>
  rw [hck] at h
  simp only [cond_true] at h
  simp only [Bool.and_eq_true] at hck
  have hsz1 := Nat.le_of_ble_eq_true hck.1.1
  obtain ⟨i, hi, rfl⟩ := sizeT_info hsz
  have hby := bytesT_eq hi
  have hb1 := Nat.le_of_ble_eq_true hck.2
  rw [hby] at hb1
  obtain ⟨zv, hz, hzl, hz1⟩ : ∃ v, i.zero = some v ∧ v.cells.size = i.size ∧ ∀ x ∈ v.cells.toList, x.oneCell' = true := by
    have := hck.1.2
    unfold zeroLen at this
    split at this
    · rename_i z hzz
      obtain ⟨v, a1, a2, a3⟩ := zero_of hzz hi
      exact ⟨v, a1, by rw [a2, Nat.eq_of_beq_eq_true this], a3⟩
    · cases this
  split at h
  case h_2 => cases h
  rename_i src hsrc
  have hSd := hS.drew
  split at h
  case h_3 => cases h
  · -- nothing yet
    rename_i n hn
    cases hs with
    | nilS =>
    split at h
    case h_2 => cases h
    rename_i B hB
    simp only [Option.some.injEq, Prod.mk.injEq] at h
    obtain ⟨rfl, rfl, rfl⟩ := h
    have hroom := hc _ rfl
    rw [hby] at hroom
    obtain ⟨news, hsr⟩ := src_sound (P := P) hS hx hsrc hn hsz1
    obtain ⟨news', hsr'⟩ := src_sound (P := P) hSd.sim (hx.step hSd hS) hsrc hn hsz1
    rw [app_new]
    by_cases h0 : n = 0
    · subst h0
      obtain ⟨b1, _, b3, _⟩ := joinSrc_sound (R := R) (w := w) (m := m) (H := H) hB (xs := []) (ys := []) ⟨[], [], rfl, VL.nil⟩ rfl hsr []
      have hl0 : B.len = 0 := by have := hsr.len; rw [Nat.zero_mul] at this; rw [b3, this]; rfl
      refine ⟨.slice none 0 0, w, m, ?_, hS.ghost B hl0, .sl _ _ _ _ _ _ (Nat.le_refl _) (Nat.zero_le _) (Nat.zero_le _) (by simp) (fun h => by omega) (.inr (by rw [last_blk]; omega))⟩
      exact stay_run (base := none) (sLen := 0) (sCap := 0) ht hu hi hsr.lenOf hsr.first (by omega) rfl
    · have hr := grow_run (P := P) (w := w) (t := t) (u := u) (ty := ty) ht hu hi hz (base := none) (sLen := 0) (sCap := 0) (n := n) (y := y) (old := []) (news := news') (by simp [Builtin.firstCells]) hsr.lenOf hsr'.first (by omega) (by rw [Nat.zero_add]; exact hroom) (by have := hsr.le; unfold big at this; omega)
      have hle := hsr.le
      have hcap := grownCap_ge w (0 + n) 0 e
      have hcap2 := grownCap_le_maxLen w (0 + n) 0 e (by simp only [maxLen]; unfold big at hle; omega)
      generalize grownCap w (0 + n) 0 e = cap at *
      rw [Nat.zero_add] at hr hcap
      obtain ⟨b1, _, b3, b4⟩ := joinSrc_sound (R := R) (w := w.drew) (m := m) (H := H) hB (xs := []) (ys := []) ⟨[], [], rfl, VL.nil⟩ rfl hsr' (Builtin.zeroCells zv.cells (cap - n)).toList
      have hone : ∀ x ∈ ([] : List Value) ++ (news' ++ (Builtin.zeroCells zv.cells (cap - n)).toList), x.oneCell' = true := fun x hx => by
        rw [List.nil_append] at hx
        rcases List.mem_append.1 hx with hx | hx
        · exact hsr'.one x hx
        · exact one_zeroCells hz1 (by omega) _ x hx
      have hxl : (([] : List Value) ++ (news' ++ (Builtin.zeroCells zv.cells (cap - n)).toList)).length = cap * i.size := by
        have e1 : (Builtin.zeroCells zv.cells (cap - n)).toList.length = (cap - n) * i.size := by simp [Builtin.zeroCells, hzl]
        rw [List.nil_append, List.length_append, e1, hsr'.len, ← Nat.add_mul]; congr 1; omega
      have s2 := hSd.trans (hSd.sim.alloc B _ e (0, 0) (fun i _ => by omega) hone b4)
      have hmul : n * i.bytes ≤ room := hroom
      refine ⟨_, _, upd m H.length w.drew.heap.size, hr, s2, .sl _ _ _ _ _ _ hcap (by simp only [maxLen] at hcap2; exact hcap2) ?_ (by simp) (fun _ => ⟨w.heap.size, cap * i.size, upd_self _ _ _, rfl, ?_, by omega⟩) (.inr ?_)⟩
      · exact Nat.le_trans (Nat.le_mul_of_pos_right n hb1) hroom
      · rw [← hxl]; exact rowSize_of (e := e) (fr := (0, 0)) Array.getElem?_push_size
      · rw [last_blk, b3, hsr'.len]; simp [ABlk.len]
  · rename_i n b off len sz' hn
    cases hck2 : (Nat.beq off 0 && Nat.beq i.size sz') with
    | false => rw [hck2] at h; cases h
    | true =>
    rw [hck2] at h
    simp only [cond_true] at h
    simp only [Bool.and_eq_true] at hck2
    obtain rfl := Nat.eq_of_beq_eq_true hck2.1
    obtain rfl := Nat.eq_of_beq_eq_true hck2.2
    split at h
    case h_2 => cases h
    rename_i B hB
    simp only [Option.some.injEq, Prod.mk.injEq] at h
    obtain ⟨rfl, rfl, rfl⟩ := h
    obtain ⟨hroom, hblen⟩ := hc _ rfl
    rw [hby] at hroom
    have hreal : len + n ≤ room := Nat.le_trans (Nat.le_mul_of_pos_right _ hb1) hroom
    have hea : Eff.app ⟨[(b, .dead)], [B]⟩ H = hset b .dead H ++ [B] := by simp [Eff.app, hsets]
    rw [hea]
    have hkl := kill_len b H
    have hlast : hget H.length (hset b .dead H ++ [B]) = B := by have := last_blk (hset b .dead H) B; rwa [hkl] at this
    obtain ⟨news, hsr⟩ := src_sound (P := P) hS hx hsrc hn hsz1
    obtain ⟨news', hsr'⟩ := src_sound (P := P) hSd.sim (hx.step hSd hS) hsrc hn hsz1
    have hlive : hget b H ≠ .dead := by intro e; rw [e] at hB; cases src <;> simp [joinSrc] at hB
    cases hs with
    | sl _ _ _ _ ad cp g1 g2 g3 g4 g5 g6 =>
    by_cases hcp : 0 < cp
    · obtain ⟨g, nn, e1, rfl, e3, e4⟩ := g5 hcp
      clear g5 g6
      obtain ⟨xs, e', fr, q1, q2, q3, q4, _⟩ := hS.cells hlive e1
      have hnn : nn = xs.length := by rw [rowSize_of q1] at e3; exact (Option.some.inj e3).symm
      have hcs : len * i.size ≤ cp * i.size := Nat.mul_le_mul_right _ g1
      by_cases hneed : len + n ≤ cp
      · have hfit : len * i.size + news.length ≤ xs.length := by
          rw [hsr.len, ← Nat.add_mul]
          have := Nat.mul_le_mul_right i.size hneed
          omega
        have hst := storeG P g (len * i.size) e' fr news 0 xs w q1 q2 (by omega) hsr.one
        rw [Nat.add_zero] at hst
        have hr := stay_run (P := P) (w := w) (t := t) (u := u) (ty := ty) (base := some ⟨g, 0, none⟩) (sLen := len) (sCap := cp) (n := n) (y := y) (news := news) ht hu hi hsr.lenOf hsr.first hneed (by
          show (storeCells ((⟨g, 0, none⟩ : Addr).add (len * i.size)) news).run P w = _
          rw [add_off, Nat.zero_add]; exact hst)
        obtain ⟨b1, _, b3, b4⟩ := joinSrc_sound hB q4 (ys := xs.take (len * i.size)) (by rw [hblen]) hsr (xs.drop (len * i.size + news.length))
        have hxl : (xs.take (len * i.size) ++ (news ++ xs.drop (len * i.size + news.length))).length = xs.length := by simp; omega
        have s := hS.move hlive e1 q1 B hxl (fun x hx => by
          rcases List.mem_append.1 hx with hx | hx
          · exact q3 x (List.mem_of_mem_take hx)
          · rcases List.mem_append.1 hx with hx | hx
            · exact hsr.one x hx
            · exact q3 x (List.mem_of_mem_drop hx)) b4
        refine ⟨_, _, _, hr, s, .sl _ _ _ _ _ _ hneed g2 hreal (by simp [hkl]) (fun _ => ⟨g, xs.length, upd_self _ _ _, rfl, ?_, by omega⟩) (.inr ?_)⟩
        · rw [rowSize_setRow w g xs _ e' fr q1 hxl]; exact rowSize_of q1
        · rw [hlast, b3, hblen, hsr.len, Nat.zero_add, Nat.add_mul]; exact Nat.le_refl _
      · have hold : (Builtin.firstCells i.size len (.slice (some ⟨g, 0, none⟩) len cp)).run P w.drew = .ok (xs.take (len * i.size)).toArray w.drew := by
          refine run_firstCells_some _ i.size len _ _ _ _ (by simp; omega) fun j v hv => ?_
          rw [add_off, Nat.zero_add]
          show w.cell? _ = _
          rw [cell_of q1]
          rw [List.getElem?_take] at hv
          split at hv
          · exact hv
          · cases hv
        have hr := grow_run (P := P) (w := w) (t := t) (u := u) (ty := ty) ht hu hi hz (base := some ⟨g, 0, none⟩) (sLen := len) (sCap := cp) (n := n) (y := y) hold hsr.lenOf hsr'.first (by omega) hroom (by unfold room at hreal; omega)
        have hcap := grownCap_ge w (len + n) cp e
        have hcap2 := grownCap_le_maxLen w (len + n) cp e (by simp only [maxLen]; unfold room at hreal; omega)
        generalize grownCap w (len + n) cp e = cap at *
        have q4' : BR R w.drew m H (hget b H) xs := q4.mono (fun _ h => h) (hSd.rsame hS) hSd.rows hSd.agree hSd.hlen hSd.hext
        obtain ⟨b1, _, b3, b4⟩ := joinSrc_sound hB q4' (ys := xs.take (len * i.size)) (by rw [hblen]) hsr' (Builtin.zeroCells zv.cells (cap - (len + n))).toList
        have hone : ∀ x ∈ xs.take (len * i.size) ++ (news' ++ (Builtin.zeroCells zv.cells (cap - (len + n))).toList), x.oneCell' = true := fun x hx => by
          rcases List.mem_append.1 hx with hx | hx
          · exact q3 x (List.mem_of_mem_take hx)
          · rcases List.mem_append.1 hx with hx | hx
            · exact hsr'.one x hx
            · exact one_zeroCells hz1 (by omega) _ x hx
        have hxl : (xs.take (len * i.size) ++ (news' ++ (Builtin.zeroCells zv.cells (cap - (len + n))).toList)).length = cap * i.size := by
          have e1 : (Builtin.zeroCells zv.cells (cap - (len + n))).toList.length = (cap - (len + n)) * i.size := by simp [Builtin.zeroCells, hzl]
          have e2 : (xs.take (len * i.size)).length = len * i.size := by simp; omega
          rw [List.length_append, List.length_append, e1, e2, hsr'.len, ← Nat.add_mul, ← Nat.add_mul]; congr 1; omega
        have s1 := hSd.sim.kill b
        have s2 := s1.sim.alloc B _ e (0, 0) (fun i _ => by omega) hone (b4.mono (fun _ h => h) (s1.rsame hSd.sim) s1.rows s1.agree s1.hlen s1.hext)
        rw [hkl] at s2
        refine ⟨_, _, upd m H.length w.drew.heap.size, hr, hSd.trans (s1.trans s2), .sl _ _ _ _ _ _ hcap (by simp only [maxLen] at hcap2; exact hcap2) hreal (by simp [hkl]) (fun _ => ⟨w.heap.size, cap * i.size, upd_self _ _ _, rfl, ?_, by omega⟩) (.inr ?_)⟩
        · rw [← hxl]; exact rowSize_of (e := e) (fr := (0, 0)) Array.getElem?_push_size
        · rw [hlast, b3, hblen, hsr'.len, Nat.zero_add, Nat.add_mul]; exact Nat.le_refl _
    · have hl0 : len = 0 := by omega
      subst hl0
      have hbl0 : (hget b H).len = 0 := by rw [hblen]; simp
      by_cases h0 : n = 0
      · subst h0
        have hnews : news = [] := List.eq_nil_of_length_eq_zero (by rw [hsr.len]; simp)
        subst hnews
        have hlB : B.len = 0 := by
          cases hbk : hget b H with
          | dead => exact absurd hbk hlive
          | bytes l =>
            rw [hbk] at hB hbl0
            have : l = [] := List.eq_nil_of_length_eq_zero hbl0
            subst this
            have := (joinSrc_sound (R := R) (w := w) (m := m) (H := H) hB (xs := []) (ys := []) ⟨[], rfl⟩ rfl hsr []).2.2.1
            rw [this]; rfl
          | vals cs =>
            rw [hbk] at hB hbl0
            have : cs = [] := List.eq_nil_of_length_eq_zero hbl0
            subst this
            have := (joinSrc_sound (R := R) (w := w) (m := m) (H := H) hB (xs := []) (ys := []) ⟨[], [], rfl, VL.nil⟩ rfl hsr []).2.2.1
            rw [this]; rfl
          | flat cs =>
            rw [hbk] at hB hbl0
            have : cs = [] := List.eq_nil_of_length_eq_zero hbl0
            subst this
            have := (joinSrc_sound (R := R) (w := w) (m := m) (H := H) hB (xs := []) (ys := []) ⟨[], [], rfl, VL.nil⟩ rfl hsr []).2.2.1
            rw [this]; rfl
        have hr := stay_run (P := P) (w := w) (w' := w) (t := t) (u := u) (ty := ty) (base := ad) (sLen := 0) (sCap := cp) (n := 0) (y := y) (news := []) ht hu hi hsr.lenOf hsr.first (by omega) (by
          cases ad with
          | none => rfl
          | some ad => rfl)
        have s1 := hS.kill b
        refine ⟨_, _, _, hr, s1.trans (s1.sim.ghost B hlB), .sl _ _ _ _ _ _ (by omega) g2 hreal (by simp [hkl]) (fun h => by omega) (.inr (by rw [hlast, hlB]; simp))⟩
      · have hold : (Builtin.firstCells i.size 0 (.slice ad 0 cp)).run P w.drew = .ok ([] : List Value).toArray w.drew := by
          cases ad with
          | none => simp [Builtin.firstCells]
          | some ad => exact run_firstCells_some _ i.size 0 _ _ _ _ (by simp) fun j v hv => by simp at hv
        have hr := grow_run (P := P) (w := w) (t := t) (u := u) (ty := ty) ht hu hi hz (base := ad) (sLen := 0) (sCap := cp) (n := n) (y := y) hold hsr.lenOf hsr'.first (by omega) hroom (by unfold room at hreal; omega)
        have hcap := grownCap_ge w (0 + n) cp e
        have hcap2 := grownCap_le_maxLen w (0 + n) cp e (by simp only [maxLen]; unfold room at hreal; omega)
        generalize grownCap w (0 + n) cp e = cap at *
        obtain ⟨xs0, q4'⟩ : ∃ xs0, BR R w.drew m H (hget b H) xs0 := by
          cases hbk : hget b H with
          | dead => exact ⟨[], trivial⟩
          | bytes l => rw [hbk] at hbl0; have : l = [] := List.eq_nil_of_length_eq_zero hbl0; subst this; exact ⟨[], [], rfl⟩
          | vals cs => rw [hbk] at hbl0; have : cs = [] := List.eq_nil_of_length_eq_zero hbl0; subst this; exact ⟨[], [], [], rfl, VL.nil⟩
          | flat cs => rw [hbk] at hbl0; have : cs = [] := List.eq_nil_of_length_eq_zero hbl0; subst this; exact ⟨[], [], [], rfl, VL.nil⟩
        obtain ⟨b1, _, b3, b4⟩ := joinSrc_sound hB q4' (ys := []) (by rw [hbl0]; simp) hsr' (Builtin.zeroCells zv.cells (cap - (0 + n))).toList
        have hone : ∀ x ∈ ([] : List Value) ++ (news' ++ (Builtin.zeroCells zv.cells (cap - (0 + n))).toList), x.oneCell' = true := fun x hx => by
          rw [List.nil_append] at hx
          rcases List.mem_append.1 hx with hx | hx
          · exact hsr'.one x hx
          · exact one_zeroCells hz1 (by omega) _ x hx
        have hxl : (([] : List Value) ++ (news' ++ (Builtin.zeroCells zv.cells (cap - (0 + n))).toList)).length = cap * i.size := by
          have e1 : (Builtin.zeroCells zv.cells (cap - (0 + n))).toList.length = (cap - (0 + n)) * i.size := by simp [Builtin.zeroCells, hzl]
          rw [List.nil_append, List.length_append, e1, hsr'.len, ← Nat.add_mul]; congr 1; omega
        have s1 := hSd.sim.kill b
        have s2 := s1.sim.alloc B _ e (0, 0) (fun i _ => by omega) hone (b4.mono (fun _ h => h) (s1.rsame hSd.sim) s1.rows s1.agree s1.hlen s1.hext)
        rw [hkl] at s2
        refine ⟨_, _, upd m H.length w.drew.heap.size, hr, hSd.trans (s1.trans s2), .sl _ _ _ _ _ _ hcap (by simp only [maxLen] at hcap2; exact hcap2) hreal (by simp [hkl]) (fun _ => ⟨w.heap.size, cap * i.size, upd_self _ _ _, rfl, ?_, by omega⟩) (.inr ?_)⟩
        · rw [← hxl]; exact rowSize_of (e := e) (fr := (0, 0)) Array.getElem?_push_size
        · rw [hlast, b3, hbl0, hsr'.len]; simp
end
end Go.Proofs.Ytnbbaemijogeoaa.Ae

namespace Go.Proofs.Ytnbbaemijogeoaa.Ae
open Go

theorem hset_self : ∀ (k : Nat) (H : Hp), hset k (hget k H) H = H
  | _, [] => by simp [hset]
  | 0, _ :: _ => by simp [hset, hget]
  | k + 1, _ :: r => by simp [hset, hget, hset_self k r]
theorem rep_len (n : Nat) (z : List AVal) : (rep n z).length = n * z.length := by
  induction n with
  | zero => simp [rep]
  | succ n ih => simp [rep, ih, Nat.add_mul]; omega
theorem rep_get (z : List AVal) (hz : 1 ≤ z.length) : ∀ (n j : Nat), j < n * z.length → (rep n z)[j]? = z[j % z.length]?
  | 0, j, h => by simp at h
  | n + 1, j, h => by
    rw [rep]
    by_cases hj : j < z.length
    · rw [List.getElem?_append_left hj, Nat.mod_eq_of_lt hj]
    · rw [List.getElem?_append_right (by omega), rep_get z hz n (j - z.length) (by rw [Nat.add_mul, Nat.one_mul] at h; omega), ← Nat.mod_eq_sub_mod (by omega : z.length ≤ j)]

section
variable {P : Program} {R : Nat → Prop} {w : World} {m : Mp} {H : Hp} {env : Env} {a : Act}

theorem VL.made {z : List AVal} {zs : Array Value} (h : VL R w m H z zs.toList) (hz : 1 ≤ z.length) (n : Nat) : VL R w m H (rep n z) (madeCells zs (n * z.length)).toList := by
  have hl : z.length = zs.size := by simpa using h.1
  refine ⟨by rw [rep_len]; simp [madeCells], fun i v x hv hx => ?_⟩
  have hi : i < n * z.length := by have := (List.getElem?_eq_some_iff.1 hv).1; rwa [rep_len] at this
  rw [rep_get z hz n i hi] at hv
  have hm : i % zs.size < zs.size := Nat.mod_lt _ (by omega)
  simp [madeCells, hi] at hx
  rw [hl] at hv
  refine h.2 _ v x hv ?_
  rw [← hx, getElem?_pos zs.toList _ (by simpa using hm)]
  simp [getElem!_pos zs (i % zs.size) hm]
theorem one_made {zs : Array Value} (hz : ∀ x ∈ zs.toList, x.oneCell' = true) (hp : 0 < zs.size) (n : Nat) : ∀ x ∈ (madeCells zs n).toList, x.oneCell' = true := by
  intro x hx
  simp only [madeCells, Array.toList_map, List.mem_map] at hx
  obtain ⟨i, _, rfl⟩ := hx
  have hm : i % zs.size < zs.size := Nat.mod_lt _ hp
  rw [getElem!_pos zs (i % zs.size) hm]
  exact hz _ (by simp)

theorem isU8_eq {t : TypeId} (h : isU8 P t = true) : P.underlying t = some (.int .u8) := by
  unfold isU8 at h; split at h
  · assumption
  · cases h
theorem new_sl (hS : Sim R w m H) {B : ABlk} {xs : List Value} {e : TypeId} (h1 : ∀ x ∈ xs, x.oneCell' = true) (hB : BR R w m H B xs) {n sz : Nat} (hx : xs.length = n * sz) (hb : B.len = n * sz) (hr : n ≤ room) :
    Stp R w m H (w.alloc (.cells xs.toArray e)) (upd m H.length w.heap.size) (H ++ [B]) ∧ VR R (w.alloc (.cells xs.toArray e)) (upd m H.length w.heap.size) (H ++ [B]) (.sl H.length 0 n sz) (.slice (some ⟨w.heap.size, 0, none⟩) n n) := by
  refine ⟨hS.alloc B xs e (0, 0) (fun i _ => by omega) h1 hB, .sl _ _ _ _ _ _ (Nat.le_refl _) (by unfold room at hr; unfold maxI; omega) hr (by simp) (fun _ => ⟨w.heap.size, xs.length, upd_self _ _ _, rfl, rowSize_of (e := e) (fr := (0, 0)) Array.getElem?_push_size, by omega⟩) (.inr (by rw [last_blk, hb]; omega))⟩
theorem toArray_made (zs : Array Value) (n : Nat) : madeCells zs n = (madeCells zs n).toList.toArray := by simp
theorem makeF_sound (hS : Sim R w m H) {t : TypeId} {nv cv q : AVal} {ny cy : Value} {c : Option Prop} {ef : Eff} (hn : VR R w m H nv ny) (hcv : VR R w m H cv cy) (h : makeF P H t nv cv = some (c, q, ef)) (hc : ∀ p, c = some p → p) :
    ∃ z w' m', (Instr.makeSlice t ny cy).run P w = .ok z w' ∧ Stp R w m H w' m' (ef.app H) ∧ VR R w' m' (ef.app H) q z := by
  unfold makeF at h
  split at h
  case h_2 => cases h
  rename_i e a b ht ha hb
  obtain ⟨k1, rfl⟩ := intOf_sound hn ha
  obtain ⟨k2, rfl⟩ := intOf_sound hcv hb
  split at h
  case h_2 => cases h
  rename_i sz0 z hsz hz
  obtain ⟨i, hi, hsz0⟩ := sizeT_info hsz
  obtain ⟨zv, g1, g2, g3⟩ := zeroT_run hz w
  have hzz : i.zero = some zv := by
    unfold zeroValue at g1
    simp only [Sem.run_bind, typeInfo, run_program, Result.andThen_ok, hi, Sem.run_pure] at g1
    cases hz : i.zero with
    | none => rw [hz] at g1; simp at g1
    | some u => rw [hz] at g1; simp at g1; rw [g1]
  have hzl : z.length = zv.cells.size := by have := (g2 R w m H).1; simpa using this
  split at h
  · rename_i x hx hck
    simp only [Bool.and_eq_true] at hck
    simp only [Option.some.injEq, Prod.mk.injEq] at h
    obtain ⟨rfl, rfl, rfl⟩ := h
    obtain ⟨p1, rfl, p3⟩ := hc _ rfl
    have hb1 := Nat.eq_of_beq_eq_true hck.1
    have hs1 := Nat.eq_of_beq_eq_true hck.2
    rw [bytesT_eq hi] at hb1
    have hr := run_make (P := P) w t e i zv ht hi hzz k1 k2 a a p1 (Int.le_refl _) (by rw [hb1]; unfold room at p3; omega) (by unfold room at p3; omega)
    rw [hsz0, hs1, Nat.mul_one] at hr
    have hzc : zv.cells = #[bcell x] := by
      have := g2 R w m H
      rw [toBytes_eq hx] at this
      have := this.bytes_inv
      apply Array.ext'
      rw [this]; rfl
    have hmade : madeCells zv.cells a.toNat = (List.replicate a.toNat (bcell x)).toArray := by
      apply Array.ext'
      rw [hzc]
      apply List.ext_getElem
      · simp [madeCells]
      · intro j h1 h2
        simp [madeCells, Nat.mod_one]
    rw [hmade] at hr
    obtain ⟨s1, s2⟩ := new_sl hS (B := .bytes (List.replicate a.toNat x)) (xs := List.replicate a.toNat (bcell x)) (e := e) (fun y hy => by rw [List.eq_of_mem_replicate hy]; rfl) ⟨[], by simp [bcell]⟩ (n := a.toNat) (sz := 1) (by simp) (by simp [ABlk.len]) (by omega)
    rw [app_new]
    exact ⟨_, _, _, hr, s1, s2⟩
  · cases hck : (Nat.beq z.length sz0 && Nat.ble 1 sz0 && Nat.ble 1 (bytesT P e)) with
    | false => rw [hck] at h; cases h
    | true =>
    rw [hck] at h
    simp only [cond_true, Option.some.injEq, Prod.mk.injEq] at h
    obtain ⟨rfl, rfl, rfl⟩ := h
    obtain ⟨p1, rfl, p3⟩ := hc _ rfl
    simp only [Bool.and_eq_true] at hck
    have hz1 := Nat.eq_of_beq_eq_true hck.1.1
    have hsz1 := Nat.le_of_ble_eq_true hck.1.2
    have hb1 := Nat.le_of_ble_eq_true hck.2
    rw [bytesT_eq hi] at p3 hb1
    have hroom : a.toNat ≤ room := by
      have h1 : a * 1 ≤ a * (i.bytes : Int) := Int.mul_le_mul_of_nonneg_left (by omega) p1
      omega
    have hr := run_make (P := P) w t e i zv ht hi hzz k1 k2 a a p1 (Int.le_refl _) (by rw [Int.mul_comm]; unfold room at p3; omega) (by unfold room at hroom; omega)
    rw [toArray_made, hsz0] at hr
    have hvl := (g2 R w m H).made (by omega) a.toNat
    have hml : (madeCells zv.cells (a.toNat * z.length)).toList.length = a.toNat * sz0 := by simp [madeCells, hz1]
    rw [hz1] at hml hvl
    obtain ⟨s1, s2⟩ := new_sl hS (B := .vals (rep a.toNat z)) (xs := (madeCells zv.cells (a.toNat * sz0)).toList) (e := e) (one_made g3 (by omega) _) ⟨_, [], by simp, hvl⟩ (n := a.toNat) (sz := sz0) hml (by simp [ABlk.len, rep_len, hz1]) hroom
    rw [app_new]
    exact ⟨_, _, _, hr, s1, s2⟩
end
end Go.Proofs.Ytnbbaemijogeoaa.Ae

namespace Go.Proofs.Ytnbbaemijogeoaa.Ae
open Go
section
variable {P : Program} {R : Nat → Prop} {w : World} {m : Mp} {H : Hp} {env : Env} {a : Act}

/-- the first bytes of a source -/
theorem srcBytes (hS : Sim R w m H) {x : AVal} {y : Value} {l : List UInt8} (hx : VR R w m H x y) (h : bytesSrc H x = some l) :
    (Builtin.lenOf y).run P w = .ok l.length w ∧ ∀ n, n ≤ l.length → (Builtin.firstCells 1 n y).run P w = .ok ((l.take n).map bcell).toArray w := by
  by_cases hs : ∃ k, x = .str k
  · obtain ⟨k, rfl⟩ := hs
    simp only [bytesSrc, Option.some.injEq] at h; subst h
    cases hx with
    | str _ hl =>
    have hsz : (⟨k.toArray⟩ : ByteArray).size = k.length := by show k.toArray.size = _; simp
    refine ⟨by simp [Builtin.lenOf, hsz], fun n hn => ?_⟩
    have : (⟨k.toArray⟩ : ByteArray).extract 0 n = ⟨(k.take n).toArray⟩ := by
      apply ByteArray.ext; rw [ByteArray.data_extract]; simp [List.extract_toArray, List.extract]
    simp [Builtin.firstCells]
    rfl
  · have h' : bytesOf H x = some l := by unfold bytesSrc at h; cases x <;> first | exact h | exact absurd ⟨_, rfl⟩ hs
    obtain ⟨ad, c, rfl, h1, h2, h3⟩ := bytesOf_sound hS hx h'
    refine ⟨by simp [Builtin.lenOf], fun n hn => ?_⟩
    by_cases h0 : 0 < l.length
    · obtain ⟨g, off, rfl, h4⟩ := h3 h0
      refine run_firstCells_some w 1 n _ _ _ _ (by simp; omega) fun j v hv => ?_
      rw [add_off]
      rw [List.getElem?_map] at hv
      obtain ⟨u, hu, rfl⟩ := Option.map_eq_some_iff.1 hv
      rw [List.getElem?_take] at hu
      split at hu
      · exact h4 j u hu
      · cases hu
    · have hl0 : l = [] := List.eq_nil_of_length_eq_zero (by omega)
      subst hl0
      have : n = 0 := by simpa using hn
      subst this
      cases ad with
      | none => simp [Builtin.firstCells]
      | some ad => exact run_firstCells_some w 1 0 _ _ _ _ (by simp) fun j v hv => by simp at hv

theorem copyF_sound (hS : Sim R w m H) {t u ty : TypeId} {d x q : AVal} {dv y : Value} {c : Option Prop} {ef : Eff} (hd : VR R w m H d dv) (hx : VR R w m H x y) (h : copyF P H t d x = some (c, q, ef)) (hc : ∀ p, c = some p → p) :
    ∃ z w', (Builtin.copy_ #[t, u] ty #[dv, y]).run P w = .ok z w' ∧ Stp R w m H w' m (ef.app H) ∧ VR R w' m (ef.app H) q z := by
  unfold copyF at h
  split at h
  case h_2 => cases h
  rename_i b off len sz l hb hl
  obtain ⟨e, ht, he, hsz⟩ := isBytes_eq hb
  obtain ⟨q1, q2⟩ := srcBytes (P := P) hS hx hl
  have step : ∀ (base : Option Addr) (cp n : Nat) (w' : World), dv = .slice base len cp → n = Nat.min l.length len → (match base with | none => w' = w | some ad => (storeCells ad ((l.take n).map bcell)).run P w = .ok () w') →
      (Builtin.copy_ #[t, u] ty #[dv, y]).run P w = .ok (.int .i64 (n : Int)) w' := by
    intro base cp n w' hdv hn hst
    subst hdv
    have h1 := q2 n (by rw [hn]; exact Nat.min_le_left _ _)
    subst hn
    cases base with
    | none =>
      simp only at hst
      subst hst
      simp [Builtin.copy_, run_underlying ht, q1, sizeT_run hsz, h1, goInt]
    | some ad =>
      simp only at hst
      simp [Builtin.copy_, run_underlying ht, q1, sizeT_run hsz, h1, goInt] at hst ⊢
      rw [hst]; simp
  cases hd with
  | sl _ _ _ _ ad cp g1 g2 g3 g4 g5 g6 =>
  cases hbk : hget b H with
  | dead => rw [hbk] at h; cases h
  | flat cs => rw [hbk] at h; cases h
  | bytes k =>
    rw [hbk] at h
    simp only [Option.some.injEq, Prod.mk.injEq] at h
    obtain ⟨rfl, rfl, rfl⟩ := h
    obtain ⟨p1, p2⟩ := hc _ rfl
    have hmin : l.length = Nat.min l.length len := (Nat.min_eq_left p2).symm
    rw [app_set]
    by_cases h0 : 0 < l.length
    · obtain ⟨g, nn, e1, rfl, e3, e4⟩ := g5 (by clear g5; omega)
      clear g5
      have hlive : hget b H ≠ .dead := by rw [hbk]; simp
      obtain ⟨xs, e', fr, r1, r2, r3, r4, _⟩ := hS.cells hlive e1
      rw [hbk] at r4
      obtain ⟨rest, rfl⟩ := r4
      have hst := storeG P g off e' fr ((l.take l.length).map bcell) 0 _ w r1 r2 (by simp; omega) (one_bytes _)
      rw [Nat.add_zero] at hst
      have e5 : List.take off (k.map (fun x => Value.int .u8 (x.toNat : Int)) ++ rest) ++ ((l.take l.length).map bcell ++ List.drop (off + ((l.take l.length).map bcell).length) (k.map (fun x => Value.int .u8 (x.toNat : Int)) ++ rest)) =
          (k.take off ++ (l ++ k.drop (off + l.length))).map (fun x => Value.int .u8 (x.toNat : Int)) ++ rest := by
        rw [List.take_append_of_le_length (by simp; omega), List.drop_append_of_le_length (by simp; omega)]
        simp [bcell, List.map_take, List.map_drop]
      rw [e5] at hst
      exact ⟨_, _, step _ cp _ _ rfl hmin hst, hS.put hlive e1 r1 (.bytes _) (by rw [hbk]; simp [ABlk.len]; omega) (by simp; omega) (fun x hx => by
        rcases List.mem_append.1 hx with hx | hx
        · obtain ⟨u, _, rfl⟩ := List.mem_map.1 hx; rfl
        · exact r3 x (List.mem_append_right _ hx)) ⟨rest, rfl⟩, .int _ _⟩
    · have hl0 : l = [] := List.eq_nil_of_length_eq_zero (by clear g5; omega)
      subst hl0
      have e5 : hset b (.bytes (k.take off ++ (([] : List UInt8) ++ k.drop (off + ([] : List UInt8).length)))) H = H := by
        have : k.take off ++ (([] : List UInt8) ++ k.drop (off + ([] : List UInt8).length)) = k := by simp
        rw [this, ← hbk, hset_self]
      rw [e5]
      refine ⟨_, w, step ad cp _ w rfl hmin ?_, .refl hS, .int _ _⟩
      cases ad with
      | none => rfl
      | some ad => rfl
  | vals cs =>
    rw [hbk] at h
    simp only at h
    split at h
    case h_2 => cases h
    rename_i r hr
    simp only [Option.some.injEq, Prod.mk.injEq] at h
    obtain ⟨rfl, rfl, rfl⟩ := h
    have p1 := hc _ rfl
    have hmin : len = Nat.min l.length len := (Nat.min_eq_right p1).symm
    have hcb := copyBytesV_eq l len 0 (by omega)
    rw [List.drop_zero] at hcb
    rw [hcb] at hr
    obtain ⟨rfl, hle⟩ := putN_eq hr
    have htl : ((l.take len).map AVal.byte).length = len := by simp; omega
    rw [htl] at hle
    rw [app_set]
    by_cases h0 : 0 < len
    · obtain ⟨g, nn, e1, rfl, e3, e4⟩ := g5 (by clear g5; omega)
      clear g5
      have hlive : hget b H ≠ .dead := by rw [hbk]; simp
      obtain ⟨xs, e', fr, r1, r2, r3, r4, _⟩ := hS.cells hlive e1
      rw [hbk] at r4
      obtain ⟨ys, rest, rfl, hvl⟩ := r4
      have hyl := hvl.1
      have hsl : ((l.take len).map bcell).length = len := by simp; omega
      have hst := storeG P g off e' fr ((l.take len).map bcell) 0 _ w r1 r2 (by simp; omega) (one_bytes _)
      rw [Nat.add_zero] at hst
      have e5 : List.take off (ys ++ rest) ++ ((l.take len).map bcell ++ List.drop (off + ((l.take len).map bcell).length) (ys ++ rest)) = (ys.take off ++ ((l.take len).map bcell ++ ys.drop (off + len))) ++ rest := by
        rw [hsl, List.take_append_of_le_length (by omega), List.drop_append_of_le_length (by omega)]; simp
      rw [e5] at hst
      refine ⟨_, _, step _ cp _ _ rfl hmin hst, hS.put hlive e1 r1 (.vals _) (by rw [hbk]; simp [ABlk.len]; omega) (by simp; omega) (fun x hx => ?_) ⟨_, rest, rfl, (hvl.take off).append ((VL.of_bytes _).append (by rw [htl]; exact hvl.drop _))⟩, .int _ _⟩
      rcases List.mem_append.1 hx with hx | hx
      · rcases List.mem_append.1 hx with hx | hx
        · exact r3 x (List.mem_append_left _ (List.mem_of_mem_take hx))
        · rcases List.mem_append.1 hx with hx | hx
          · exact one_bytes _ x hx
          · exact r3 x (List.mem_append_left _ (List.mem_of_mem_drop hx))
      · exact r3 x (List.mem_append_right _ hx)
    · have hl0 : len = 0 := by clear g5; omega
      subst hl0
      have e5 : hset b (.vals (cs.take off ++ ((l.take 0).map AVal.byte ++ cs.drop (off + ((l.take 0).map AVal.byte).length)))) H = H := by
        have : cs.take off ++ ((l.take 0).map AVal.byte ++ cs.drop (off + ((l.take 0).map AVal.byte).length)) = cs := by simp
        rw [this, ← hbk, hset_self]
      rw [e5]
      refine ⟨_, w, step ad cp _ w rfl hmin ?_, .refl hS, .int _ _⟩
      cases ad with
      | none => rfl
      | some ad => rfl

/-! ### parts -/
theorem fold_set (off : Nat) : ∀ (vs : List Value) (k : Nat) (cells : List Value), off + k + vs.length ≤ cells.length →
    (vs.zipIdx k).foldl (fun (cs : Array Value) (p : Value × Nat) => cs.setIfInBounds (off + p.2) p.1) cells.toArray = (cells.take (off + k) ++ (vs ++ cells.drop (off + k + vs.length))).toArray
  | [], k, cells, _ => by simp
  | v :: vs, k, cells, h => by
    simp only [List.length_cons] at h
    rw [List.zipIdx_cons, List.foldl_cons]
    have e : (cells.toArray.setIfInBounds (off + k) v) = (cells.set (off + k) v).toArray := by simp
    rw [e, fold_set off vs (k + 1) (cells.set (off + k) v) (by simp; omega)]
    have := list_set cells (off + k) v vs (by omega)
    rw [← Nat.add_assoc, this]; simp
/-- 'fill', as lists -/
theorem fill_sound {place : Nat → Option (Nat × Nat)} : ∀ {parts : List (Nat × AVal)} {vps : List (Nat × Value)} {cs r : List AVal} {xs : List Value}, VL R w m H cs xs → (∀ x ∈ xs, x.oneCell' = true) →
    (parts.length = vps.length ∧ ∀ (i : Nat) p q, parts[i]? = some p → vps[i]? = some q → p.1 = q.1 ∧ VR R w m H p.2 q.2) → layParts place cs parts = some r →
    ∃ ys : List Value, Instr.fill place xs.toArray vps = some ys.toArray ∧ VL R w m H r ys ∧ (∀ y ∈ ys, y.oneCell' = true)
  | [], vps, cs, r, xs, hv, h1, hp, h => by
    have : vps = [] := List.eq_nil_of_length_eq_zero (by simpa using hp.1.symm)
    subst this
    simp [layParts] at h; subst h
    exact ⟨xs, by simp [Instr.fill], hv, h1⟩
  | (i, v) :: parts, vps, cs, r, xs, hv, h1, hp, h => by
    match vps, hp with
    | [], hp => simp at hp
    | (i', x) :: vps, hp =>
      obtain ⟨rfl, hvx⟩ := hp.2 0 (i, v) (i', x) rfl rfl
      simp only at hvx
      simp only [layParts] at h
      cases hpl : place i with
      | none => rw [hpl] at h; cases h
      | some on =>
        obtain ⟨off, n⟩ := on
        rw [hpl] at h
        simp only at h
        cases hck : (Nat.beq v.cells.length n && okCell v) with
        | false => rw [hck] at h; cases h
        | true =>
        rw [hck] at h
        simp only [cond_true] at h
        simp only [Bool.and_eq_true] at hck
        have hn := Nat.eq_of_beq_eq_true hck.1
        obtain ⟨c1, c2⟩ := hvx.cells hck.2
        have hl := hv.1
        have hcl : v.cells.length = x.cells.size := by have := c1.1; simpa using this
        split at h
        case h_2 => cases h
        rename_i cs' hput
        obtain ⟨rfl, hle⟩ := putN_eq hput
        have hfold := fold_set off x.cells.toList 0 xs (by simp; omega)
        have e1 : (xs.take (off + 0) ++ (x.cells.toList ++ xs.drop (off + 0 + x.cells.toList.length))) = xs.take off ++ (x.cells.toList ++ xs.drop (off + v.cells.length)) := by simp [hcl]
        rw [e1] at hfold
        obtain ⟨ys, f1, f2, f3⟩ := fill_sound (place := place) (vps := vps) (xs := xs.take off ++ (x.cells.toList ++ xs.drop (off + v.cells.length))) ((hv.take off).append (c1.append (hv.drop _))) (fun y hy => by
          rcases List.mem_append.1 hy with hy | hy
          · exact h1 y (List.mem_of_mem_take hy)
          · rcases List.mem_append.1 hy with hy | hy
            · exact c2 y hy
            · exact h1 y (List.mem_of_mem_drop hy)) ⟨by have := hp.1; simpa using this, fun j p q hpj hqj => hp.2 (j + 1) p q (by simpa using hpj) (by simpa using hqj)⟩ h
        refine ⟨ys, ?_, f2, f3⟩
        have hsz : ¬ x.cells.size ≠ n := by omega
        have hfit : ¬ (off + x.cells.size > xs.length) := by omega
        rw [← f1, ← hfold]
        simp only [Instr.fill, hpl]
        have hc1 : (decide (x.cells.size ≠ n) || decide (off + x.cells.size > xs.toArray.size)) = false := by simp; omega
        rw [if_neg (by simpa using hc1)]
        congr 1
        rw [← Array.foldl_toList]
        simp
end
end Go.Proofs.Ytnbbaemijogeoaa.Ae
