/- Equality of structs and arrays. No program in sight. -/
import Derived.Test.YtcooilllmcgcmaaAeL
namespace Go.Proofs.Ytcooilllmcgcmaa.Ae
open Go

def eqs : List AVal → List AVal → Option Bool
  | [], [] => some true
  | x :: r, y :: q => match cellEq x y, eqs r q with
    | some a, some b => some (a && b)
    | _, _ => none
  | _, _ => none
theorem cellsEq_cons (x y : AVal) (xs ys : List AVal) : cellsEq (x :: xs) (y :: ys) = match cellEq x y, cellsEq xs ys with
    | some a, some b => some (a && b)
    | _, _ => none := by
  cases xs <;> cases ys <;> simp only [cellsEq]
  · cases cellEq x y <;> simp
  · cases cellEq x y <;> rfl
  · cases cellEq x y <;> rfl
  · rename_i a b c d
    generalize cellsEq (a :: b) (c :: d) = z
    cases z <;> cases cellEq x y <;> rfl
theorem cellsEq_eqs : ∀ {xs ys : List AVal}, cellsEq xs ys = eqs xs ys
  | [], [] => by simp [cellsEq, eqs]
  | [], _ :: _ => by simp [cellsEq, eqs]
  | x :: xs, [] => by cases xs <;> simp [cellsEq, eqs]
  | x :: xs, y :: ys => by rw [cellsEq_cons, eqs, cellsEq_eqs (xs := xs) (ys := ys)]
theorem eqs_len : ∀ {xs ys : List AVal} {r : Bool}, eqs xs ys = some r → xs.length = ys.length
  | [], [], _, _ => rfl
  | [], _ :: _, _, h => by simp [eqs] at h
  | _ :: _, [], _, h => by simp [eqs] at h
  | x :: xs, y :: ys, r, h => by
    simp only [eqs] at h
    split at h
    · rename_i a b _ h2; simp [eqs_len h2]
    · cases h
theorem eqs_split : ∀ {xs ys us vs : List AVal} {r : Bool}, xs.length = ys.length → eqs (xs ++ us) (ys ++ vs) = some r → ∃ a b, eqs xs ys = some a ∧ eqs us vs = some b ∧ r = (a && b)
  | [], [], us, vs, r, _, h => ⟨true, r, rfl, h, by simp⟩
  | [], _ :: _, _, _, _, hl, _ => by simp at hl
  | _ :: _, [], _, _, _, hl, _ => by simp at hl
  | x :: xs, y :: ys, us, vs, r, hl, h => by
    simp only [List.cons_append, eqs] at h
    split at h
    · rename_i a b h1 h2
      obtain ⟨c, e, h3, h4, rfl⟩ := eqs_split (by simpa using hl) h2
      cases h
      exact ⟨a && c, e, by simp [eqs, h1, h3], h4, by simp [Bool.and_assoc]⟩
    · cases h

def valOf (k : Kind) (zs : List Value) : Value := match k, zs with
  | .agg, zs => .agg zs.toArray
  | .one, [z] => z
  | _, _ => undef

section
variable {P : Program} {R : Nat → Prop} {w : World} {m : Mp} {H : Hp}

theorem run_forIn_step {α : Type} (g : α → Option Bool × Unit → Sem (ForInStep (Option Bool × Unit))) (x : α) (l : List α) (b : Bool)
    (h : (g x (none, ())).run P w = .ok (if b = true then .yield (none, ()) else .done (some false, ())) w) :
    (forIn (x :: l) (none, ()) g).run P w = if b = true then (forIn l (none, ()) g).run P w else .ok (some false, ()) w := by
  rw [List.forIn_cons]
  simp only [Sem.run_bind, h]
  cases b <;> simp

theorem part_run {t : TypeId} {k : Kind} {o n : Nat} {xs : List Value} (hk : kindOf P t = some k) (hsz : sizeT P t = some n) (h1 : k = .one → n = 1) (hle : o + n ≤ xs.length) (w : World) :
    (part t xs.toArray o).run P w = .ok (valOf k ((xs.drop o).take n)) w := by
  cases k with
  | agg => simp [part, kindOf_run hk, sizeT_run hsz, List.extract_toArray, List.extract, valOf]
  | one =>
    obtain rfl := h1 rfl
    have : (xs.drop o).take 1 = [xs[o]] := by
      rw [List.drop_eq_getElem_cons (by omega)]; rfl
    rw [this]
    simp [part, kindOf_run hk, valOf, List.getElem?_eq_getElem (show o < xs.length by omega)]

theorem kindsOk_len : ∀ {ks : List Nat} {cs : List AVal}, kindsOk ks cs = true → ks.length = cs.length
  | [], [], _ => rfl
  | [], _ :: _, h => by simp [kindsOk] at h
  | k :: ks, [], h => by
    match k, h with
    | 0, h => simp [kindsOk] at h
    | 1, h => simp [kindsOk] at h
    | 2, h => simp [kindsOk] at h
    | k + 3, h => simp [kindsOk] at h
  | k :: ks, c :: cs, h => by
    have key : kindsOk ks cs = true := by
      match k, h with
      | 0, h => cases c <;> simp [kindsOk] at h <;> exact h
      | 1, h => cases c <;> simp [kindsOk] at h <;> exact h
      | 2, h => cases c <;> simp [kindsOk] at h <;> exact h
      | k + 3, h => simp [kindsOk] at h
    simp [kindsOk_len key]
theorem kindsOk_cons {k : Nat} {ks : List Nat} {c : AVal} {cs : List AVal} (h : kindsOk (k :: ks) (c :: cs) = true) : kindsOk [k] [c] = true ∧ kindsOk ks cs = true := by
  match k, h with
  | 0, h => cases c <;> simp [kindsOk] at h ⊢ <;> exact h
  | 1, h => cases c <;> simp [kindsOk] at h ⊢ <;> exact h
  | 2, h => cases c <;> simp [kindsOk] at h ⊢ <;> exact h
  | k + 3, h => simp [kindsOk] at h
theorem kindsOk_split : ∀ {ks ls : List Nat} {cs : List AVal}, kindsOk (ks ++ ls) cs = true → kindsOk ks (cs.take ks.length) = true ∧ kindsOk ls (cs.drop ks.length) = true
  | [], ls, cs, h => ⟨by simp [kindsOk], by simpa using h⟩
  | k :: ks, ls, [], h => by have := kindsOk_len h; simp at this
  | k :: ks, ls, c :: cs, h => by
    obtain ⟨h1, h2⟩ := kindsOk_cons (ks := ks ++ ls) (by simpa using h)
    obtain ⟨h3, h4⟩ := kindsOk_split h2
    refine ⟨?_, by simpa using h4⟩
    match k, h1 with
    | 0, h1 => cases c <;> simp [kindsOk] at h1 ⊢ <;> exact h3
    | 1, h1 => cases c <;> simp [kindsOk] at h1 ⊢ <;> exact h3
    | 2, h1 => cases c <;> simp [kindsOk] at h1 ⊢ <;> exact h3
    | k + 3, h1 => simp [kindsOk] at h1

theorem leaf_run {u v : AVal} {x y : Value} {b : Bool} (hx : VR R w m H u x) (hy : VR R w m H v y) (h : cellEq u v = some b) {t : TypeId} {k : Nat} (hu : kindsOk [k] [u] = true)
    (ht : (k = 0 ∧ P.underlying t = some .bool) ∨ (k = 1 ∧ ∃ kk, P.underlying t = some (.int kk)) ∨ (k = 2 ∧ P.underlying t = some .string)) (d : Nat) (w' : World) :
    (Op.equalIn (d + 1) t x y).run P w' = .ok b w' := by
  rcases ht with ⟨rfl, ht⟩ | ⟨rfl, kk, ht⟩ | ⟨rfl, ht⟩
  · cases hx <;> simp [kindsOk] at hu
    cases hy <;> simp [cellEq] at h
    subst h
    simp [Op.equalIn, run_underlying ht]
    rw [Bool.eq_iff_iff]; simp
  · cases hx <;> simp [kindsOk] at hu
    · cases hy <;> simp only [cellEq, reduceCtorEq] at h
      split at h
      · rename_i hk
        obtain rfl := kindEq_eq hk
        simp only [Option.some.injEq] at h; subst h
        simp [Op.equalIn, run_underlying ht]
        rfl
      · cases h
    · cases hy <;> simp only [cellEq, reduceCtorEq, Option.some.injEq] at h
      subst h
      simp [Op.equalIn, run_underlying ht]
      rw [Bool.eq_iff_iff]
      simp only [beq_iff_eq, decide_eq_true_eq]
      constructor
      · intro h; exact UInt8.toNat_inj.1 (by omega)
      · rintro rfl; rfl
  · cases hx <;> simp [kindsOk] at hu
    cases hy <;> simp only [cellEq, reduceCtorEq, Option.some.injEq] at h
    subst h
    simp [Op.equalIn, run_underlying ht]
    rename_i l hl l' hl'
    rw [Bool.eq_iff_iff, decide_eq_true_eq]
    constructor
    · intro h
      have h2 : (l.toArray == l'.toArray) = true := h
      simpa using h2
    · rintro rfl
      show (l.toArray == l.toArray) = true
      simp

/-- what is said of a type's equality at a depth -/
def EqOk (P : Program) (R : Nat → Prop) (w : World) (m : Mp) (H : Hp) (d : Nat) (t : TypeId) (ks : List Nat) : Prop :=
  ∃ k, kindOf P t = some k ∧ (k = .one → ks.length = 1) ∧ ∀ (j : Nat) (xs ys : List Value) (cs ds : List AVal) (r : Bool), VL R w m H cs xs → VL R w m H ds ys → kindsOk ks cs = true → kindsOk ks ds = true → eqs cs ds = some r →
    ∀ w', (Op.equalIn (d + j) t (valOf k xs) (valOf k ys)).run P w' = .ok r w'

theorem eqFields_tail {E : TypeId → Option (List Nat)} : ∀ {l : List Field} {acc K : List Nat}, eqFields P E l acc = some K → ∃ q, K = acc ++ q
  | [], acc, K, h => by simp [eqFields] at h; exact ⟨[], by simp [h]⟩
  | f :: l, acc, K, h => by
    simp only [eqFields] at h
    split at h
    · rename_i ks n _ _
      cases hck : (Nat.beq ks.length n && Nat.beq f.offset acc.length && f.name != "_") with
      | false => rw [hck] at h; cases h
      | true =>
        rw [hck] at h
        obtain ⟨q, rfl⟩ := eqFields_tail (by simpa using h)
        exact ⟨ks ++ q, by simp⟩
    · cases h

theorem kind_fields {d j : Nat} {E : TypeId → Option (List Nat)} (hE : ∀ t ks, E t = some ks → EqOk P R w m H d t ks) {xs ys : List Value} {cs ds : List AVal} (hx : VL R w m H cs xs) (hy : VL R w m H ds ys) (w' : World) :
    ∀ {l : List Field} {acc K : List Nat} {r : Bool}, eqFields P E l acc = some K → kindsOk K cs = true → kindsOk K ds = true → eqs (cs.drop acc.length) (ds.drop acc.length) = some r →
      (forIn l (none, ()) fun (f : Field) (_ : Option Bool × Unit) => (if f.name = "_" then pure (ForInStep.yield (none, ()))
            else do
              let u ← part f.type xs.toArray f.offset
              let v ← part f.type ys.toArray f.offset
              let b ← Op.equalIn (d + j) f.type u v
              if b = false then pure (ForInStep.done (some false, ())) else pure (ForInStep.yield (none, ())) : Sem (ForInStep (Option Bool × Unit)))).run P w' = .ok (if r = true then (none, ()) else (some false, ())) w'
  | [], acc, K, r, h, hc, hd, hr => by
    simp [eqFields] at h; subst h
    have e1 := kindsOk_len hc
    have e2 := kindsOk_len hd
    rw [List.drop_of_length_le (by omega), List.drop_of_length_le (by omega)] at hr
    simp [eqs] at hr; subst hr
    simp
  | f :: l, acc, K, r, h, hc, hd, hr => by
    simp only [eqFields] at h
    split at h
    case h_2 => cases h
    rename_i ks n hks hsz
    cases hck : (Nat.beq ks.length n && Nat.beq f.offset acc.length && f.name != "_") with
    | false => rw [hck] at h; cases h
    | true =>
    rw [hck] at h
    simp only [cond_true] at h
    simp only [Bool.and_eq_true] at hck
    obtain rfl := Nat.eq_of_beq_eq_true hck.1.1
    have hoff := Nat.eq_of_beq_eq_true hck.1.2
    have hname : ¬ f.name = "_" := by simpa using hck.2
    obtain ⟨q, rfl⟩ := eqFields_tail h
    have e1 := kindsOk_len hc
    have e2 := kindsOk_len hd
    simp only [List.length_append] at e1 e2
    obtain ⟨k, hk, hk1, hrun⟩ := hE _ _ hks
    -- the field's own cells
    obtain ⟨c1, c2⟩ := kindsOk_split (ks := acc) (ls := ks ++ q) (by simpa using hc)
    obtain ⟨d1, d2⟩ := kindsOk_split (ks := acc) (ls := ks ++ q) (by simpa using hd)
    obtain ⟨c3, c4⟩ := kindsOk_split c2
    obtain ⟨d3, d4⟩ := kindsOk_split d2
    have hs := eqs_split (xs := (cs.drop acc.length).take ks.length) (ys := (ds.drop acc.length).take ks.length) (us := (cs.drop acc.length).drop ks.length) (vs := (ds.drop acc.length).drop ks.length) (by simp; omega) (by rw [List.take_append_drop, List.take_append_drop]; exact hr)
    obtain ⟨b, b', hb, hb', rfl⟩ := hs
    have hxl := hx.1
    have hyl := hy.1
    have p1 := part_run (P := P) (o := f.offset) (xs := xs) hk hsz (fun e => hk1 e) (by omega) w'
    have p2 := part_run (P := P) (o := f.offset) (xs := ys) hk hsz (fun e => hk1 e) (by omega) w'
    have hq := hrun j _ _ _ _ b ((hx.drop acc.length).take ks.length) ((hy.drop acc.length).take ks.length) c3 d3 hb w'
    rw [← hoff] at hq
    have ih := kind_fields (j := j) hE hx hy w' (l := l) (acc := acc ++ ks) (r := b') h hc hd (by simpa [List.drop_drop] using hb')
    rw [run_forIn_step _ f l b (by
      rw [if_neg hname]
      simp only [Sem.run_bind, p1, p2, hq, Result.andThen_ok]
      cases b <;> simp), ih]
    cases b <;> simp

theorem kind_array {d j sz : Nat} {e : TypeId} {ks : List Nat} {k : Kind} (hk : kindOf P e = some k) (hk1 : k = .one → ks.length = 1) (hsz : sizeT P e = some ks.length)
    (hrun : ∀ (j : Nat) (xs ys : List Value) (cs ds : List AVal) (r : Bool), VL R w m H cs xs → VL R w m H ds ys → kindsOk ks cs = true → kindsOk ks ds = true → eqs cs ds = some r → ∀ w', (Op.equalIn (d + j) e (valOf k xs) (valOf k ys)).run P w' = .ok r w')
    {xs ys : List Value} {cs ds : List AVal} (hx : VL R w m H cs xs) (hy : VL R w m H ds ys) (w' : World) :
    ∀ (n i : Nat) (r : Bool), kindsOk (repN n ks) (cs.drop (i * ks.length)) = true → kindsOk (repN n ks) (ds.drop (i * ks.length)) = true → i * ks.length ≤ cs.length → i * ks.length ≤ ds.length → eqs (cs.drop (i * ks.length)) (ds.drop (i * ks.length)) = some r →
      (forIn (List.range' i n) (none, ()) fun (i : Nat) (_ : Option Bool × Unit) => (do
            let u ← part e xs.toArray (i * ks.length)
            let v ← part e ys.toArray (i * ks.length)
            let b ← Op.equalIn (d + j) e u v
            if b = false then pure (ForInStep.done (some false, ())) else pure (ForInStep.yield (none, ())) : Sem (ForInStep (Option Bool × Unit)))).run P w' = .ok (if r = true then (none, ()) else (some false, ())) w'
  | 0, i, r, hc, hd, _, _, hr => by
    have e1 := kindsOk_len hc
    have e2 := kindsOk_len hd
    rw [List.eq_nil_of_length_eq_zero (l := cs.drop _) (by simpa [repN] using e1.symm), List.eq_nil_of_length_eq_zero (l := ds.drop _) (by simpa [repN] using e2.symm)] at hr
    simp [eqs] at hr; subst hr
    simp
  | n + 1, i, r, hc, hd, hl1, hl2, hr => by
    simp only [repN] at hc hd
    have e1 := kindsOk_len hc
    have e2 := kindsOk_len hd
    simp only [List.length_append, List.length_drop] at e1 e2
    obtain ⟨c3, c4⟩ := kindsOk_split hc
    obtain ⟨d3, d4⟩ := kindsOk_split hd
    have hs := eqs_split (xs := (cs.drop (i * ks.length)).take ks.length) (ys := (ds.drop (i * ks.length)).take ks.length) (us := (cs.drop (i * ks.length)).drop ks.length) (vs := (ds.drop (i * ks.length)).drop ks.length) (by simp; omega) (by rw [List.take_append_drop, List.take_append_drop]; exact hr)
    obtain ⟨b, b', hb, hb', rfl⟩ := hs
    have hxl := hx.1
    have hyl := hy.1
    have p1 := part_run (P := P) (o := i * ks.length) (xs := xs) hk hsz (fun e => hk1 e) (by omega) w'
    have p2 := part_run (P := P) (o := i * ks.length) (xs := ys) hk hsz (fun e => hk1 e) (by omega) w'
    have hq := hrun j _ _ _ _ b ((hx.drop (i * ks.length)).take ks.length) ((hy.drop (i * ks.length)).take ks.length) c3 d3 hb w'
    have hi : (i + 1) * ks.length = i * ks.length + ks.length := by rw [Nat.add_mul, Nat.one_mul]
    have ih := kind_array (j := j) (sz := sz) hk hk1 hsz hrun hx hy w' n (i + 1) b' (by rw [hi, ← List.drop_drop]; exact c4) (by rw [hi, ← List.drop_drop]; exact d4) (by omega) (by omega) (by rw [hi, ← List.drop_drop, ← List.drop_drop]; exact hb')
    rw [List.range'_succ, run_forIn_step _ i _ b (by
      simp only [Sem.run_bind, p1, p2, hq, Result.andThen_ok]
      cases b <;> simp), ih]
    cases b <;> simp

theorem eqN_sound : ∀ (d : Nat) (t : TypeId) (ks : List Nat), eqN P d t = some ks → EqOk P R w m H d t ks
  | 0, t, ks, h => by simp [eqN] at h
  | d + 1, t, ks, h => by
    have hd : ∀ j, d + 1 + j = (d + j) + 1 := fun j => by omega
    simp only [eqN] at h
    have leaf : ∀ (k : Nat), ks = [k] → kindOf P t = some .one → ((k = 0 ∧ P.underlying t = some .bool) ∨ (k = 1 ∧ ∃ kk, P.underlying t = some (.int kk)) ∨ (k = 2 ∧ P.underlying t = some .string)) → EqOk P R w m H (d + 1) t ks := by
      intro k hks hk ht
      subst hks
      refine ⟨.one, hk, fun _ => rfl, fun j xs ys cs ds r hx hy hc hd' hr w' => ?_⟩
      match cs, hc with
      | [c], hc =>
        match ds, hd' with
        | [e], hd' =>
          obtain ⟨x, q, rfl, hx1, hx2⟩ := hx.cons_inv
          obtain ⟨y, q', rfl, hy1, hy2⟩ := hy.cons_inv
          obtain rfl := hx2.nil_inv
          obtain rfl := hy2.nil_inv
          have hr' : cellEq c e = some r := by rw [← cellsEq_eqs] at hr; simpa [cellsEq] using hr
          rw [hd]
          exact leaf_run hx1 hy1 hr' hc ht _ w'
        | [], hd' => have := kindsOk_len hd'; simp at this
        | _ :: _ :: _, hd' => have := kindsOk_len hd'; simp at this
      | [], hc => have := kindsOk_len hc; simp at this
      | _ :: _ :: _, hc => have := kindsOk_len hc; simp at this
    split at h
    · rename_i hu; cases h; exact leaf 0 rfl (by simp [kindOf, hu]) (.inl ⟨rfl, hu⟩)
    · rename_i kk hu; cases h; exact leaf 1 rfl (by simp [kindOf, hu]) (.inr (.inl ⟨rfl, kk, hu⟩))
    · rename_i hu; cases h; exact leaf 2 rfl (by simp [kindOf, hu]) (.inr (.inr ⟨rfl, hu⟩))
    · rename_i fs hu
      cases hst : P.stoodInHeld t with
      | true => rw [hst] at h; cases h
      | false =>
      rw [hst] at h
      simp only [Bool.not_false, cond_true] at h
      refine ⟨.agg, by simp [kindOf, hu], (fun e => by cases e), fun j xs ys cs ds r hx hy hc hd' hr w' => ?_⟩
      have hf := kind_fields (P := P) (d := d) (j := j) (fun t ks h => eqN_sound d t ks h) hx hy w' (l := fs.toList) (acc := []) (r := r) h hc hd' (by simpa using hr)
      rw [hd]
      simp only [valOf, Op.equalIn, Sem.run_bind, run_underlying hu, Result.andThen_ok, run_program, hst]
      simp only [Bool.false_eq_true, if_false, ← Array.forIn_toList]
      simp at hf ⊢
      rw [hf]
      cases r <;> simp
    · rename_i n e hu
      split at h
      · rename_i ks' k' hks hsz
        cases hck : Nat.beq ks'.length k' with
        | false => rw [hck] at h; cases h
        | true =>
        rw [hck] at h
        simp only [cond_true, Option.some.injEq] at h
        subst h
        obtain rfl := Nat.eq_of_beq_eq_true hck
        obtain ⟨k, hk, hk1, hrun⟩ := eqN_sound d e ks' hks
        refine ⟨.agg, by simp [kindOf, hu], (fun e => by cases e), fun j xs ys cs ds r hx hy hc hd' hr w' => ?_⟩
        have hf := kind_array (P := P) (sz := 0) (j := j) hk hk1 hsz hrun hx hy w' n 0 r (by simpa using hc) (by simpa using hd') (by simp) (by simp) (by simpa using hr)
        rw [hd]
        simp only [valOf, Op.equalIn, Sem.run_bind, run_underlying hu, Result.andThen_ok, sizeT_run hsz]
        simp at hf ⊢
        rw [hf]
        cases r <;> simp
      · cases h
    · cases h
end
end Go.Proofs.Ytcooilllmcgcmaa.Ae
