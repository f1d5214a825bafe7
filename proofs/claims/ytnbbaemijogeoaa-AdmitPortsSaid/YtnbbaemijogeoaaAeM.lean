/- Equality of structs and arrays. No program in sight. Arithmetic, comparisons. No program in sight. Every operation that is no call: what the evaluator says is what the model does. No program in sight. One operation: what the evaluator says is what the model does. No program in sight. -/
import Derived.Test.YtnbbaemijogeoaaAeJ
namespace Go.Proofs.Ytnbbaemijogeoaa.Ae
open Go

def eqs : List AVal → List AVal → Option Bool
  | [], [] => some true
  | x :: r, y :: q => match cellEq x y, eqs r q with
    | some a, some b => some (a && b)
    | _, _ => none
  | _, _ => none
theorem cellsEq_cons (x y : AVal) (xs ys : List AVal) : cellsEq (x :: xs) (y :: ys) = match cellEq x y, cellsEq xs ys with
    | some a, some b => some (a && b)
    | _, _ => none := by
  cases xs <;> cases ys <;> simp only [cellsEq]
  · cases cellEq x y <;> simp
  · cases cellEq x y <;> rfl
  · cases cellEq x y <;> rfl
  · rename_i a b c d
    generalize cellsEq (a :: b) (c :: d) = z
    cases z <;> cases cellEq x y <;> rfl
theorem cellsEq_eqs : ∀ {xs ys : List AVal}, cellsEq xs ys = eqs xs ys
  | [], [] => by simp [cellsEq, eqs]
  | [], _ :: _ => by simp [cellsEq, eqs]
  | x :: xs, [] => by cases xs <;> simp [cellsEq, eqs]
  | x :: xs, y :: ys => by rw [cellsEq_cons, eqs, cellsEq_eqs (xs := xs) (ys := ys)]
theorem eqs_len : ∀ {xs ys : List AVal} {r : Bool}, eqs xs ys = some r → xs.length = ys.length
  | [], [], _, _ => rfl
  | [], _ :: _, _, h => by simp [eqs] at h
  | _ :: _, [], _, h => by simp [eqs] at h
  | x :: xs, y :: ys, r, h => by
    simp only [eqs] at h
    split at h
    · rename_i a b _ h2; simp [eqs_len h2]
    · cases h
theorem eqs_split : ∀ {xs ys us vs : List AVal} {r : Bool}, xs.length = ys.length → eqs (xs ++ us) (ys ++ vs) = some r → ∃ a b, eqs xs ys = some a ∧ eqs us vs = some b ∧ r = (a && b)
  | [], [], us, vs, r, _, h => ⟨true, r, rfl, h, by simp⟩
  | [], _ :: _, _, _, _, hl, _ => by simp at hl
  | _ :: _, [], _, _, _, hl, _ => by simp at hl
  | x :: xs, y :: ys, us, vs, r, hl, h => by
    simp only [List.cons_append, eqs] at h
    split at h
    · rename_i a b h1 h2
      obtain ⟨c, e, h3, h4, rfl⟩ := eqs_split (by simpa using hl) h2
      cases h
      exact ⟨a && c, e, by simp [eqs, h1, h3], h4, by simp [Bool.and_assoc]⟩
    · cases h

def valOf (k : Kind) (zs : List Value) : Value := match k, zs with
  | .agg, zs => .agg zs.toArray
  | .one, [z] => z
  | _, _ => undef

section
variable {P : Program} {R : Nat → Prop} {w : World} {m : Mp} {H : Hp}

theorem run_forIn_step {α : Type} (g : α → Option Bool × Unit → Sem (ForInStep (Option Bool × Unit))) (x : α) (l : List α) (b : Bool)
    (h : (g x (none, ())).run P w = .ok (if b = true then .yield (none, ()) else .done (some false, ())) w) :
    (forIn (x :: l) (none, ()) g).run P w = if b = true then (forIn l (none, ()) g).run P w else .ok (some false, ()) w := by
  rw [List.forIn_cons]
  simp only [Sem.run_bind, h]
  cases b <;> simp

theorem part_run {t : TypeId} {k : Kind} {o n : Nat} {xs : List Value} (hk : kindOf P t = some k) (hsz : sizeT P t = some n) (h1 : k = .one → n = 1) (hle : o + n ≤ xs.length) (w : World) :
    (part t xs.toArray o).run P w = .ok (valOf k ((xs.drop o).take n)) w := by
  cases k with
  | agg => simp [part, kindOf_run hk, sizeT_run hsz, List.extract_toArray, List.extract, valOf]
  | one =>
    obtain rfl := h1 rfl
    have : (xs.drop o).take 1 = [xs[o]] := by
      rw [List.drop_eq_getElem_cons (by omega)]; rfl
    rw [this]
    simp [part, kindOf_run hk, valOf, List.getElem?_eq_getElem (show o < xs.length by omega)]

theorem kindsOk_len : ∀ {ks : List Nat} {cs : List AVal}, kindsOk ks cs = true → ks.length = cs.length
  | [], [], _ => rfl
  | [], _ :: _, h => by simp [kindsOk] at h
  | k :: ks, [], h => by
    match k, h with
    | 0, h => simp [kindsOk] at h
    | 1, h => simp [kindsOk] at h
    | 2, h => simp [kindsOk] at h
    | k + 3, h => simp [kindsOk] at h
  | k :: ks, c :: cs, h => by
    have key : kindsOk ks cs = true := by
      match k, h with
      | 0, h => cases c <;> simp [kindsOk] at h <;> exact h
      | 1, h => cases c <;> simp [kindsOk] at h <;> exact h
      | 2, h => cases c <;> simp [kindsOk] at h <;> exact h
      | k + 3, h => simp [kindsOk] at h
    simp [kindsOk_len key]
theorem kindsOk_cons {k : Nat} {ks : List Nat} {c : AVal} {cs : List AVal} (h : kindsOk (k :: ks) (c :: cs) = true) : kindsOk [k] [c] = true ∧ kindsOk ks cs = true := by
  match k, h with
  | 0, h => cases c <;> simp [kindsOk] at h ⊢ <;> exact h
  | 1, h => cases c <;> simp [kindsOk] at h ⊢ <;> exact h
  | 2, h => cases c <;> simp [kindsOk] at h ⊢ <;> exact h
  | k + 3, h => simp [kindsOk] at h
theorem kindsOk_split : ∀ {ks ls : List Nat} {cs : List AVal}, kindsOk (ks ++ ls) cs = true → kindsOk ks (cs.take ks.length) = true ∧ kindsOk ls (cs.drop ks.length) = true
  | [], ls, cs, h => ⟨by simp [kindsOk], by simpa using h⟩
  | k :: ks, ls, [], h => by have := kindsOk_len h; simp at this
  | k :: ks, ls, c :: cs, h => by
    obtain ⟨h1, h2⟩ := kindsOk_cons (ks := ks ++ ls) (by simpa using h)
    obtain ⟨h3, h4⟩ := kindsOk_split h2
    refine ⟨?_, by simpa using h4⟩
    match k, h1 with
    | 0, h1 => cases c <;> simp [kindsOk] at h1 ⊢ <;> exact h3
    | 1, h1 => cases c <;> simp [kindsOk] at h1 ⊢ <;> exact h3
    | 2, h1 => cases c <;> simp [kindsOk] at h1 ⊢ <;> exact h3
    | k + 3, h1 => simp [kindsOk] at h1

theorem leaf_run {u v : AVal} {x y : Value} {b : Bool} (hx : VR R w m H u x) (hy : VR R w m H v y) (h : cellEq u v = some b) {t : TypeId} {k : Nat} (hu : kindsOk [k] [u] = true)
    (ht : (k = 0 ∧ P.underlying t = some .bool) ∨ (k = 1 ∧ ∃ kk, P.underlying t = some (.int kk)) ∨ (k = 2 ∧ P.underlying t = some .string)) (d : Nat) (w' : World) :
    (Op.equalIn (d + 1) t x y).run P w' = .ok b w' := by
  rcases ht with ⟨rfl, ht⟩ | ⟨rfl, kk, ht⟩ | ⟨rfl, ht⟩
  · cases hx <;> simp [kindsOk] at hu
    cases hy <;> simp [cellEq] at h
    subst h
    simp [Op.equalIn, run_underlying ht]
    rw [Bool.eq_iff_iff]; simp
  · cases hx <;> simp [kindsOk] at hu
    · cases hy <;> simp only [cellEq, reduceCtorEq] at h
      split at h
      · rename_i hk
        obtain rfl := kindEq_eq hk
        simp only [Option.some.injEq] at h; subst h
        simp [Op.equalIn, run_underlying ht]
        rfl
      · cases h
    · cases hy <;> simp only [cellEq, reduceCtorEq, Option.some.injEq] at h
      subst h
      simp [Op.equalIn, run_underlying ht]
      rw [Bool.eq_iff_iff]
      simp only [beq_iff_eq, decide_eq_true_eq]
      constructor
      · intro h; exact UInt8.toNat_inj.1 (by omega)
      · rintro rfl; rfl
  · cases hx <;> simp [kindsOk] at hu
    cases hy <;> simp only [cellEq, reduceCtorEq, Option.some.injEq] at h
    subst h
    simp [Op.equalIn, run_underlying ht]
    rename_i l hl l' hl'
    rw [Bool.eq_iff_iff, decide_eq_true_eq]
    constructor
    · intro h
      have h2 : (l.toArray == l'.toArray) = true := h
      simpa using h2
    · rintro rfl
      show (l.toArray == l.toArray) = true
      simp

/-- what is said of a type's equality at a depth -/
def EqOk (P : Program) (R : Nat → Prop) (w : World) (m : Mp) (H : Hp) (d : Nat) (t : TypeId) (ks : List Nat) : Prop :=
  ∃ k, kindOf P t = some k ∧ (k = .one → ks.length = 1) ∧ ∀ (j : Nat) (xs ys : List Value) (cs ds : List AVal) (r : Bool), VL R w m H cs xs → VL R w m H ds ys → kindsOk ks cs = true → kindsOk ks ds = true → eqs cs ds = some r →
    ∀ w', (Op.equalIn (d + j) t (valOf k xs) (valOf k ys)).run P w' = .ok r w'

theorem eqFields_tail {E : TypeId → Option (List Nat)} : ∀ {l : List Field} {acc K : List Nat}, eqFields P E l acc = some K → ∃ q, K = acc ++ q
  | [], acc, K, h => by simp [eqFields] at h; exact ⟨[], by simp [h]⟩
  | f :: l, acc, K, h => by
    simp only [eqFields] at h
    split at h
    · rename_i ks n _ _
      cases hck : (Nat.beq ks.length n && Nat.beq f.offset acc.length && f.name != "_") with
      | false => rw [hck] at h; cases h
      | true =>
        rw [hck] at h
        obtain ⟨q, rfl⟩ := eqFields_tail (by simpa using h)
        exact ⟨ks ++ q, by simp⟩
    · cases h

theorem kind_fields {d j : Nat} {E : TypeId → Option (List Nat)} (hE : ∀ t ks, E t = some ks → EqOk P R w m H d t ks) {xs ys : List Value} {cs ds : List AVal} (hx : VL R w m H cs xs) (hy : VL R w m H ds ys) (w' : World) :
    ∀ {l : List Field} {acc K : List Nat} {r : Bool}, eqFields P E l acc = some K → kindsOk K cs = true → kindsOk K ds = true → eqs (cs.drop acc.length) (ds.drop acc.length) = some r →
      (forIn l (none, ()) fun (f : Field) (_ : Option Bool × Unit) => (if f.name = "_" then pure (ForInStep.yield (none, ()))
            else do
              let u ← part f.type xs.toArray f.offset
              let v ← part f.type ys.toArray f.offset
              let b ← Op.equalIn (d + j) f.type u v
              if b = false then pure (ForInStep.done (some false, ())) else pure (ForInStep.yield (none, ())) : Sem (ForInStep (Option Bool × Unit)))).run P w' = .ok (if r = true then (none, ()) else (some false, ())) w'
  | [], acc, K, r, h, hc, hd, hr => by
    simp [eqFields] at h; subst h
    have e1 := kindsOk_len hc
    have e2 := kindsOk_len hd
    rw [List.drop_of_length_le (by omega), List.drop_of_length_le (by omega)] at hr
    simp [eqs] at hr; subst hr
    simp
  | f :: l, acc, K, r, h, hc, hd, hr => by
    simp only [eqFields] at h
    split at h
    case h_2 => cases h
    rename_i ks n hks hsz
    cases hck : (Nat.beq ks.length n && Nat.beq f.offset acc.length && f.name != "_") with
    | false => rw [hck] at h; cases h
    | true =>
    rw [hck] at h
    simp only [cond_true] at h
    simp only [Bool.and_eq_true] at hck
    obtain rfl := Nat.eq_of_beq_eq_true hck.1.1
    have hoff := Nat.eq_of_beq_eq_true hck.1.2
    have hname : ¬ f.name = "_" := by simpa using hck.2
    obtain ⟨q, rfl⟩ := eqFields_tail h
    have e1 := kindsOk_len hc
    have e2 := kindsOk_len hd
    simp only [List.length_append] at e1 e2
    obtain ⟨k, hk, hk1, hrun⟩ := hE _ _ hks
    -- the field's own cells
    obtain ⟨c1, c2⟩ := kindsOk_split (ks := acc) (ls := ks ++ q) (by simpa using hc)
    obtain ⟨d1, d2⟩ := kindsOk_split (ks := acc) (ls := ks ++ q) (by simpa using hd)
    obtain ⟨c3, c4⟩ := kindsOk_split c2
    obtain ⟨d3, d4⟩ := kindsOk_split d2
    have hs := eqs_split (xs := (cs.drop acc.length).take ks.length) (ys := (ds.drop acc.length).take ks.length) (us := (cs.drop acc.length).drop ks.length) (vs := (ds.drop acc.length).drop ks.length) (by simp; omega) (by rw [List.take_append_drop, List.take_append_drop]; exact hr)
    obtain ⟨b, b', hb, hb', rfl⟩ := hs
    have hxl := hx.1
    have hyl := hy.1
    have p1 := part_run (P := P) (o := f.offset) (xs := xs) hk hsz (fun e => hk1 e) (by omega) w'
    have p2 := part_run (P := P) (o := f.offset) (xs := ys) hk hsz (fun e => hk1 e) (by omega) w'
    have hq := hrun j _ _ _ _ b ((hx.drop acc.length).take ks.length) ((hy.drop acc.length).take ks.length) c3 d3 hb w'
    rw [← hoff] at hq
    have ih := kind_fields (j := j) hE hx hy w' (l := l) (acc := acc ++ ks) (r := b') h hc hd (by simpa [List.drop_drop] using hb')
    rw [run_forIn_step _ f l b (by
      rw [if_neg hname]
      simp only [Sem.run_bind, p1, p2, hq, Result.andThen_ok]
      cases b <;> simp), ih]
    cases b <;> simp

theorem kind_array {d j sz : Nat} {e : TypeId} {ks : List Nat} {k : Kind} (hk : kindOf P e = some k) (hk1 : k = .one → ks.length = 1) (hsz : sizeT P e = some ks.length)
    (hrun : ∀ (j : Nat) (xs ys : List Value) (cs ds : List AVal) (r : Bool), VL R w m H cs xs → VL R w m H ds ys → kindsOk ks cs = true → kindsOk ks ds = true → eqs cs ds = some r → ∀ w', (Op.equalIn (d + j) e (valOf k xs) (valOf k ys)).run P w' = .ok r w')
    {xs ys : List Value} {cs ds : List AVal} (hx : VL R w m H cs xs) (hy : VL R w m H ds ys) (w' : World) :
    ∀ (n i : Nat) (r : Bool), kindsOk (repN n ks) (cs.drop (i * ks.length)) = true → kindsOk (repN n ks) (ds.drop (i * ks.length)) = true → i * ks.length ≤ cs.length → i * ks.length ≤ ds.length → eqs (cs.drop (i * ks.length)) (ds.drop (i * ks.length)) = some r →
      (forIn (List.range' i n) (none, ()) fun (i : Nat) (_ : Option Bool × Unit) => (do
            let u ← part e xs.toArray (i * ks.length)
            let v ← part e ys.toArray (i * ks.length)
            let b ← Op.equalIn (d + j) e u v
            if b = false then pure (ForInStep.done (some false, ())) else pure (ForInStep.yield (none, ())) : Sem (ForInStep (Option Bool × Unit)))).run P w' = .ok (if r = true then (none, ()) else (some false, ())) w'
  | 0, i, r, hc, hd, _, _, hr => by
    have e1 := kindsOk_len hc
    have e2 := kindsOk_len hd
    rw [List.eq_nil_of_length_eq_zero (l := cs.drop _) (by simpa [repN] using e1.symm), List.eq_nil_of_length_eq_zero (l := ds.drop _) (by simpa [repN] using e2.symm)] at hr
    simp [eqs] at hr; subst hr
    simp
  | n + 1, i, r, hc, hd, hl1, hl2, hr => by
    simp only [repN] at hc hd
    have e1 := kindsOk_len hc
    have e2 := kindsOk_len hd
    simp only [List.length_append, List.length_drop] at e1 e2
    obtain ⟨c3, c4⟩ := kindsOk_split hc
    obtain ⟨d3, d4⟩ := kindsOk_split hd
    have hs := eqs_split (xs := (cs.drop (i * ks.length)).take ks.length) (ys := (ds.drop (i * ks.length)).take ks.length) (us := (cs.drop (i * ks.length)).drop ks.length) (vs := (ds.drop (i * ks.length)).drop ks.length) (by simp; omega) (by rw [List.take_append_drop, List.take_append_drop]; exact hr)
    obtain ⟨b, b', hb, hb', rfl⟩ := hs
    have hxl := hx.1
    have hyl := hy.1
    have p1 := part_run (P := P) (o := i * ks.length) (xs := xs) hk hsz (fun e => hk1 e) (by omega) w'
    have p2 := part_run (P := P) (o := i * ks.length) (xs := ys) hk hsz (fun e => hk1 e) (by omega) w'
    have hq := hrun j _ _ _ _ b ((hx.drop (i * ks.length)).take ks.length) ((hy.drop (i * ks.length)).take ks.length) c3 d3 hb w'
    have hi : (i + 1) * ks.length = i * ks.length + ks.length := by rw [Nat.add_mul, Nat.one_mul]
    have ih := kind_array (j := j) (sz := sz) hk hk1 hsz hrun hx hy w' n (i + 1) b' (by rw [hi, ← List.drop_drop]; exact c4) (by rw [hi, ← List.drop_drop]; exact d4) (by omega) (by omega) (by rw [hi, ← List.drop_drop, ← List.drop_drop]; exact hb')
    rw [List.range'_succ, run_forIn_step _ i _ b (by
      simp only [Sem.run_bind, p1, p2, hq, Result.andThen_ok]
      cases b <;> simp), ih]
    cases b <;> simp

theorem eqN_sound : ∀ (d : Nat) (t : TypeId) (ks : List Nat), eqN P d t = some ks → EqOk P R w m H d t ks
  | 0, t, ks, h => by simp [eqN] at h
  | d + 1, t, ks, h => by
    have hd : ∀ j, d + 1 + j = (d + j) + 1 := fun j => by omega
    simp only [eqN] at h
    have leaf : ∀ (k : Nat), ks = [k] → kindOf P t = some .one → ((k = 0 ∧ P.underlying t = some .bool) ∨ (k = 1 ∧ ∃ kk, P.underlying t = some (.int kk)) ∨ (k = 2 ∧ P.underlying t = some .string)) → EqOk P R w m H (d + 1) t ks := by
      intro k hks hk ht
      subst hks
      refine ⟨.one, hk, fun _ => rfl, fun j xs ys cs ds r hx hy hc hd' hr w' => ?_⟩
      match cs, hc with
      | [c], hc =>
        match ds, hd' with
        | [e], hd' =>
          obtain ⟨x, q, rfl, hx1, hx2⟩ := hx.cons_inv
          obtain ⟨y, q', rfl, hy1, hy2⟩ := hy.cons_inv
          obtain rfl := hx2.nil_inv
          obtain rfl := hy2.nil_inv
          have hr' : cellEq c e = some r := by rw [← cellsEq_eqs] at hr; simpa [cellsEq] using hr
          rw [hd]
          exact leaf_run hx1 hy1 hr' hc ht _ w'
        | [], hd' => have := kindsOk_len hd'; simp at this
        | _ :: _ :: _, hd' => have := kindsOk_len hd'; simp at this
      | [], hc => have := kindsOk_len hc; simp at this
      | _ :: _ :: _, hc => have := kindsOk_len hc; simp at this
    split at h
    · rename_i hu; cases h; exact leaf 0 rfl (by simp [kindOf, hu]) (.inl ⟨rfl, hu⟩)
    · rename_i kk hu; cases h; exact leaf 1 rfl (by simp [kindOf, hu]) (.inr (.inl ⟨rfl, kk, hu⟩))
    · rename_i hu; cases h; exact leaf 2 rfl (by simp [kindOf, hu]) (.inr (.inr ⟨rfl, hu⟩))
    · rename_i fs hu
      cases hst : P.stoodInHeld t with
      | true => rw [hst] at h; cases h
      | false =>
      rw [hst] at h
      simp only [Bool.not_false, cond_true] at h
      refine ⟨.agg, by simp [kindOf, hu], (fun e => by cases e), fun j xs ys cs ds r hx hy hc hd' hr w' => ?_⟩
      have hf := kind_fields (P := P) (d := d) (j := j) (fun t ks h => eqN_sound d t ks h) hx hy w' (l := fs.toList) (acc := []) (r := r) h hc hd' (by simpa using hr)
      rw [hd]
      simp only [valOf, Op.equalIn, Sem.run_bind, run_underlying hu, Result.andThen_ok, run_program, hst]
      simp only [Bool.false_eq_true, if_false, ← Array.forIn_toList]
      simp at hf ⊢
      rw [hf]
      cases r <;> simp
    · rename_i n e hu
      split at h
      · rename_i ks' k' hks hsz
        cases hck : Nat.beq ks'.length k' with
        | false => rw [hck] at h; cases h
        | true =>
        rw [hck] at h
        simp only [cond_true, Option.some.injEq] at h
        subst h
        obtain rfl := Nat.eq_of_beq_eq_true hck
        obtain ⟨k, hk, hk1, hrun⟩ := eqN_sound d e ks' hks
        refine ⟨.agg, by simp [kindOf, hu], (fun e => by cases e), fun j xs ys cs ds r hx hy hc hd' hr w' => ?_⟩
        have hf := kind_array (P := P) (sz := 0) (j := j) hk hk1 hsz hrun hx hy w' n 0 r (by simpa using hc) (by simpa using hd') (by simp) (by simp) (by simpa using hr)
        rw [hd]
        simp only [valOf, Op.equalIn, Sem.run_bind, run_underlying hu, Result.andThen_ok, sizeT_run hsz]
        simp at hf ⊢
        rw [hf]
        cases r <;> simp
      · cases h
    · cases h
end
end Go.Proofs.Ytnbbaemijogeoaa.Ae

namespace Go.Proofs.Ytnbbaemijogeoaa.Ae
open Go
theorem pw_eq (n : Nat) : pw n = 2 ^ n := by
  unfold pw
  split <;> first | rfl | (decide)
theorem xor_u8 (x y : UInt8) : bits .xor .u8 (x.toNat : Int) (y.toNat : Int) = ((x ^^^ y).toNat : Int) := by
  rw [u8_xor_nat _ _ x.toNat_lt y.toNat_lt, UInt8.toNat_xor]
theorem and_u8 (x y : UInt8) : bits .and .u8 (x.toNat : Int) (y.toNat : Int) = ((x &&& y).toNat : Int) := by
  rw [u8_and_nat _ _ x.toNat_lt y.toNat_lt, UInt8.toNat_and]
theorem or_u8 (x y : UInt8) : bits .or .u8 (x.toNat : Int) (y.toNat : Int) = ((x ||| y).toNat : Int) := by
  rw [u8_or_nat _ _ x.toNat_lt y.toNat_lt, UInt8.toNat_or]
theorem not_u8 (y : UInt8) : (~~~y).toNat = 255 - y.toNat := by
  rw [UInt8.toNat_not]; rfl
theorem andNot_u8 (x y : UInt8) : bits .andNot .u8 (x.toNat : Int) (y.toNat : Int) = ((x &&& ~~~y).toNat : Int) := by
  rw [u8_andNot_nat _ _ x.toNat_lt y.toNat_lt, UInt8.toNat_and, not_u8]
section
variable {P : Program} {R : Nat → Prop} {w : World} {m : Mp} {H : Hp}

theorem ret_byte {x : UInt8} {n : Int} (h : n = (x.toNat : Int)) : VR R w m H (.byte x) (.int .u8 n) := by rw [h]; exact .byte x

theorem arithF_sound {op : BinOp} {k : IntKind} {x y : Int} {c : Option Prop} {q : AVal} (h : arithF op k x y = some (c, q)) (hc : ∀ p, c = some p → p) (t : TypeId) (w' : World) :
    ∃ z, (binOp op t (.int k x) (.int k y)).run P w' = .ok z w' ∧ VR R w m H q z := by
  cases op <;> simp only [arithF, reduceCtorEq] at h
  case add =>
    split at h
    · rename_i h64; obtain rfl := is64_eq h64
      simp only [Option.some.injEq, Prod.mk.injEq] at h; obtain ⟨rfl, rfl⟩ := h
      exact ⟨_, by simp [binOp, Op.intArith, wrap_I64 (hc _ rfl)] <;> rfl, .int _ _⟩
    · simp only [Option.some.injEq, Prod.mk.injEq] at h; obtain ⟨rfl, rfl⟩ := h
      exact ⟨_, by simp [binOp, Op.intArith] <;> rfl, .int _ _⟩
  case sub =>
    split at h
    · rename_i h64; obtain rfl := is64_eq h64
      simp only [Option.some.injEq, Prod.mk.injEq] at h; obtain ⟨rfl, rfl⟩ := h
      exact ⟨_, by simp [binOp, Op.intArith, wrap_I64 (hc _ rfl)] <;> rfl, .int _ _⟩
    · simp only [Option.some.injEq, Prod.mk.injEq] at h; obtain ⟨rfl, rfl⟩ := h
      exact ⟨_, by simp [binOp, Op.intArith] <;> rfl, .int _ _⟩
  case mul =>
    split at h
    · rename_i h64; obtain rfl := is64_eq h64
      simp only [Option.some.injEq, Prod.mk.injEq] at h; obtain ⟨rfl, rfl⟩ := h
      exact ⟨_, by simp [binOp, Op.intArith, wrap_I64 (hc _ rfl)] <;> rfl, .int _ _⟩
    · simp only [Option.some.injEq, Prod.mk.injEq] at h; obtain ⟨rfl, rfl⟩ := h
      exact ⟨_, by simp [binOp, Op.intArith] <;> rfl, .int _ _⟩
  case quo =>
    split at h
    · rename_i h64; obtain rfl := is64_eq h64
      simp only [Option.some.injEq, Prod.mk.injEq] at h; obtain ⟨rfl, rfl⟩ := h
      obtain ⟨p1, p2⟩ := hc _ rfl
      exact ⟨_, by simp [binOp, Op.intDiv, p1, wrap_I64 p2] <;> rfl, .int _ _⟩
    · simp only [Option.some.injEq, Prod.mk.injEq] at h; obtain ⟨rfl, rfl⟩ := h
      exact ⟨_, by simp [binOp, Op.intDiv, hc _ rfl] <;> rfl, .int _ _⟩
  case rem =>
    simp only [Option.some.injEq, Prod.mk.injEq] at h; obtain ⟨rfl, rfl⟩ := h
    exact ⟨_, by simp [binOp, Op.intDiv, hc _ rfl] <;> rfl, .int _ _⟩
  all_goals
    simp only [Option.some.injEq, Prod.mk.injEq] at h; obtain ⟨rfl, rfl⟩ := h
    exact ⟨_, by simp [binOp, intBits_and, intBits_or, intBits_xor, intBits_andNot] <;> rfl, .int _ _⟩
theorem cmpF_sound {op : BinOp} {k : IntKind} {x y : Int} {r : Bool} (h : cmpF op x y = some r) (t : TypeId) (w' : World) : (binOp op t (.int k x) (.int k y)).run P w' = .ok (.bool r) w' := by
  cases op <;> simp only [cmpF, Option.some.injEq, reduceCtorEq] at h <;> subst h <;> simp [binOp, Op.intCmp] <;> first | rfl | (rw [Bool.eq_iff_iff]; simp)
theorem byteF_sound {op : BinOp} {x y : UInt8} {c : Option Prop} {q : AVal} (hs : isShift op = false) (h : byteF op x y = some (c, q)) (hc : ∀ p, c = some p → p) (t : TypeId) (w' : World) :
    ∃ z, (binOp op t (.int .u8 (x.toNat : Int)) (.int .u8 (y.toNat : Int))).run P w' = .ok z w' ∧ VR R w m H q z := by
  have hx := x.toNat_lt
  have hy := y.toNat_lt
  cases op <;> simp only [byteF, reduceCtorEq, Option.some.injEq, Prod.mk.injEq] at h
  all_goals (obtain ⟨rfl, rfl⟩ := h)
  case add =>
    exact ⟨_, by simp [binOp, Op.intArith] <;> rfl, ret_byte (by rw [IntKind.wrap_u8', UInt8.toNat_add]; omega)⟩
  case sub =>
    exact ⟨_, by simp [binOp, Op.intArith] <;> rfl, ret_byte (by rw [IntKind.wrap_u8', UInt8.toNat_sub]; omega)⟩
  case mul =>
    exact ⟨_, by simp [binOp, Op.intArith] <;> rfl, ret_byte (by rw [IntKind.wrap_u8', UInt8.toNat_mul]; simp [Int.natCast_mul])⟩
  case quo =>
    have p := hc _ rfl
    refine ⟨_, by simp [binOp, Op.intDiv, p] <;> rfl, ret_byte ?_⟩
    have : x.toNat / y.toNat ≤ x.toNat := Nat.div_le_self _ _
    rw [IntKind.wrap_u8', UInt8.toNat_ofNat', ← Int.natCast_ediv]
    omega
  case rem =>
    have p := hc _ rfl
    refine ⟨_, by simp [binOp, Op.intDiv, p] <;> rfl, ret_byte ?_⟩
    have : x.toNat % y.toNat < y.toNat := Nat.mod_lt _ (by omega)
    rw [UInt8.toNat_ofNat', Int.tmod_eq_emod_of_nonneg (by omega), ← Int.natCast_emod]
    omega
  case and => exact ⟨_, by simp [binOp, intBits_and] <;> rfl, ret_byte (and_u8 x y)⟩
  case or => exact ⟨_, by simp [binOp, intBits_or] <;> rfl, ret_byte (or_u8 x y)⟩
  case xor => exact ⟨_, by simp [binOp, intBits_xor] <;> rfl, ret_byte (xor_u8 x y)⟩
  case andNot => exact ⟨_, by simp [binOp, intBits_andNot] <;> rfl, ret_byte (andNot_u8 x y)⟩
  case eql =>
    refine ⟨_, by simp [binOp, Op.intCmp] <;> rfl, ?_⟩
    have : ((x.toNat : Int) == (y.toNat : Int)) = decide (x = y) := by
      rw [Bool.eq_iff_iff]; simp only [beq_iff_eq, decide_eq_true_eq]
      exact ⟨fun h => UInt8.toNat_inj.1 (by omega), fun h => by rw [h]⟩
    rw [this]; exact .bool _
  case neq =>
    refine ⟨_, by simp [binOp, Op.intCmp] <;> rfl, ?_⟩
    have : ((x.toNat : Int) != (y.toNat : Int)) = !decide (x = y) := by
      rw [Bool.eq_iff_iff]; simp only [bne_iff_ne, Bool.not_eq_true', decide_eq_false_iff_not]
      exact ⟨fun h e => h (by rw [e]), fun h e => h (UInt8.toNat_inj.1 (by omega))⟩
    rw [this]; exact .bool _
  all_goals
    refine ⟨_, by simp [binOp, Op.intCmp] <;> rfl, ?_⟩
    first
      | exact .bool _
      | (rw [show (decide ((x.toNat : Int) < (y.toNat : Int))) = decide (x.toNat < y.toNat) by rw [Bool.eq_iff_iff]; simp]; exact .bool _)
      | (rw [show (decide ((x.toNat : Int) ≤ (y.toNat : Int))) = decide (x.toNat ≤ y.toNat) by rw [Bool.eq_iff_iff]; simp]; exact .bool _)
      | (rw [show (decide ((y.toNat : Int) < (x.toNat : Int))) = decide (y.toNat < x.toNat) by rw [Bool.eq_iff_iff]; simp]; exact .bool _)
      | (rw [show (decide ((y.toNat : Int) ≤ (x.toNat : Int))) = decide (y.toNat ≤ x.toNat) by rw [Bool.eq_iff_iff]; simp]; exact .bool _)
      | skip

theorem shiftF_sound {op : BinOp} {k k' : IntKind} {x n : Int} {c : Option Prop} {q : AVal} (h : shiftF op k x n = some (c, q)) (hc : ∀ p, c = some p → p) (t : TypeId) (w' : World) :
    ∃ z, (binOp op t (.int k x) (.int k' n)).run P w' = .ok z w' ∧ VR R w m H q z := by
  cases op <;> simp only [shiftF, reduceCtorEq] at h
  case shl =>
    split at h
    · rename_i h64; obtain rfl := is64_eq h64
      simp only [Option.some.injEq, Prod.mk.injEq] at h; obtain ⟨rfl, rfl⟩ := h
      obtain ⟨p1, p2, p3⟩ := hc _ rfl
      rw [pw_eq] at p3 ⊢
      refine ⟨_, ?_, .int _ _⟩
      show (Op.shift .shl _ _ k' _).run P w' = _
      rw [shift_shl _ _ _ _ p1 (by simp [IntKind.bits]; omega), wrap_I64 p3]; rfl
    · simp only [Option.some.injEq, Prod.mk.injEq] at h; obtain ⟨rfl, rfl⟩ := h
      obtain ⟨p1, p2⟩ := hc _ rfl
      rw [pw_eq]
      refine ⟨_, ?_, .int _ _⟩
      show (Op.shift .shl _ _ k' _).run P w' = _
      rw [shift_shl _ _ _ _ p1 (by omega)]; rfl
  case shr =>
    simp only [Option.some.injEq, Prod.mk.injEq] at h; obtain ⟨rfl, rfl⟩ := h
    obtain ⟨p1, p2⟩ := hc _ rfl
    rw [pw_eq]
    refine ⟨_, ?_, .int _ _⟩
    show (Op.shift .shr _ _ k' _).run P w' = _
    rw [shift_shr _ _ _ _ p1 (by omega)]; rfl
theorem shiftB_sound {op : BinOp} {k' : IntKind} {x : UInt8} {n : Int} {c : Option Prop} {q : AVal} (h : shiftB op x n = some (c, q)) (hc : ∀ p, c = some p → p) (t : TypeId) (w' : World) :
    ∃ z, (binOp op t (.int .u8 (x.toNat : Int)) (.int k' n)).run P w' = .ok z w' ∧ VR R w m H q z := by
  cases op <;> simp only [shiftB, reduceCtorEq, Option.some.injEq, Prod.mk.injEq] at h
  case shl =>
    obtain ⟨rfl, rfl⟩ := h
    obtain ⟨p1, p2⟩ := hc _ rfl
    refine ⟨_, ?_, ret_byte (b8_wrap _).symm⟩
    show (Op.shift .shl _ _ k' _).run P w' = _
    rw [shift_shl _ _ _ _ p1 (by simp [IntKind.bits]; omega), pw_eq]; rfl
  case shr =>
    obtain ⟨rfl, rfl⟩ := h
    obtain ⟨p1, p2⟩ := hc _ rfl
    refine ⟨_, ?_, ret_byte (n := (x.toNat : Int) / 2 ^ n.toNat) ?_⟩
    · show (Op.shift .shr _ _ k' _).run P w' = _
      rw [shift_shr _ _ _ _ p1 (by simp [IntKind.bits]; omega)]; rfl
    · rw [b8_wrap, IntKind.wrap_u8', pw_eq]
      have hx := x.toNat_lt
      have h1 : (0 : Int) ≤ (x.toNat : Int) / 2 ^ n.toNat := Int.ediv_nonneg (by omega) (Int.pow_nonneg (by decide))
      have h2 : (x.toNat : Int) / 2 ^ n.toNat ≤ (x.toNat : Int) := Int.ediv_le_self _ (by omega)
      omega
theorem strF_sound {op : BinOp} {x y : List UInt8} {c : Option Prop} {q : AVal} (h : strF op x y = some (c, q)) (hc : ∀ p, c = some p → p) (t : TypeId) (w' : World) :
    ∃ z, (binOp op t (.string ⟨x.toArray⟩) (.string ⟨y.toArray⟩)).run P w' = .ok z w' ∧ VR R w m H q z := by
  have e1 : (⟨x.toArray⟩ : ByteArray).toList = x := by rw [ByteArray.toList_eq]
  have e2 : (⟨y.toArray⟩ : ByteArray).toList = y := by rw [ByteArray.toList_eq]
  have s1 : (⟨x.toArray⟩ : ByteArray).size = x.length := by show x.toArray.size = _; simp
  have s2 : (⟨y.toArray⟩ : ByteArray).size = y.length := by show y.toArray.size = _; simp
  have d : (x == y) = decide (x = y) := by rw [Bool.eq_iff_iff]; simp
  cases op <;> simp only [strF, reduceCtorEq, Option.some.injEq, Prod.mk.injEq] at h
  case add =>
    obtain ⟨rfl, rfl⟩ := h
    have p := hc _ rfl
    refine ⟨.string ⟨(x ++ y).toArray⟩, ?_, .str _ (by simp; exact p)⟩
    have : ¬ ((9223372036854775807 : Int) < (x.length : Int) + (y.length : Int)) := by unfold big at p; omega
    have e3 : (⟨x.toArray⟩ : ByteArray) ++ ⟨y.toArray⟩ = ⟨(x ++ y).toArray⟩ := by
      apply ByteArray.ext; rw [ByteArray.data_append]; simp
    simp [binOp, Op.stringOp, s1, s2, IntKind.max, IntKind.signed, IntKind.bits, this]
    rw [e3]
  all_goals
    obtain ⟨rfl, rfl⟩ := h
    refine ⟨_, by simp [binOp, Op.stringOp, e1, e2] <;> rfl, ?_⟩
    first | exact .bool _ | (rw [d]; exact .bool _) | (simp only [d]; exact .bool _) | (simp only [d, ← Bool.not_or]; exact .bool _)

theorem guard_off {D : Nat} : ∀ (d : Nat) (t : TypeId) (ks : List Nat), d ≤ D → eqN P d t = some ks → P.eqGuardType D t = false := by
  induction D with
  | zero => intro d t ks hd h; obtain rfl : d = 0 := by omega
            simp [eqN] at h
  | succ D ih =>
    intro d t ks hd h
    cases d with
    | zero => simp [eqN] at h
    | succ d =>
      simp only [eqN] at h
      split at h
      · rename_i hu; simp [Program.eqGuardType, hu]
      · rename_i hu; simp [Program.eqGuardType, hu]
      · rename_i hu; simp [Program.eqGuardType, hu]
      · rename_i fs hu
        cases hst : P.stoodInHeld t with
        | true => rw [hst] at h; cases h
        | false =>
        rw [hst] at h
        simp only [Bool.not_false, cond_true] at h
        have key : ∀ (l : List Field) (acc K : List Nat), eqFields P (eqN P d) l acc = some K → ∀ f ∈ l, P.eqGuardType D f.type = false := by
          intro l
          induction l with
          | nil => intro acc K _ f hf; simp at hf
          | cons g l ihl =>
            intro acc K hK f hf
            simp only [eqFields] at hK
            split at hK
            case h_2 => cases hK
            rename_i ks' n hks hsz
            cases hck : (Nat.beq ks'.length n && Nat.beq g.offset acc.length && g.name != "_") with
            | false => rw [hck] at hK; cases hK
            | true =>
            rw [hck] at hK
            rcases List.mem_cons.1 hf with rfl | hf
            · exact ih d _ ks' (by omega) hks
            · exact ihl _ _ (by simpa using hK) f hf
        have := key _ _ _ h
        simp only [Program.eqGuardType, hu]
        rw [← Array.any_toList]
        rw [List.any_eq_false]
        intro f hf
        simp [this f hf]
      · rename_i n e hu
        split at h
        · rename_i ks' k' hks hsz
          simp only [Program.eqGuardType, hu]
          exact ih d e ks' (by omega) hks
        · cases h
      · cases h

theorem eqF_sound {t : TypeId} {x y : AVal} {u v : Value} {r : Bool} (hx : VR R w m H x u) (hy : VR R w m H y v) (h : eqF P t x y = some r) (xo yo : Operand) (w' : World) :
    (Op.equal t u v).run P w' = .ok r w' ∧ (eqGuard .eql t xo yo u v).run P w' = .ok () w' ∧ (eqGuard .neq t xo yo u v).run P w' = .ok () w' := by
  cases hx <;> cases hy <;> simp only [eqF, reduceCtorEq] at h
  case agg.agg =>
    rename_i cs xs g1 g2 g3 ds ys k1 k2 k3
    split at h
    case h_2 => cases h
    rename_i ks hks hkind
    cases hck : (kindsOk ks cs && kindsOk ks ds && Nat.ble 6 P.depth) with
    | false => rw [hck] at h; cases h
    | true =>
    rw [hck] at h
    simp only [cond_true] at h
    simp only [Bool.and_eq_true] at hck
    rw [cellsEq_eqs] at h
    obtain ⟨k, hk, hk1, hrun⟩ := eqN_sound (P := P) (R := R) (w := w) (m := m) (H := H) 6 t ks hks
    have hgd := guard_off (P := P) (D := P.depth) 6 t ks (Nat.le_of_ble_eq_true hck.2) hks
    have hkk : valOf k xs = .agg xs.toArray ∧ valOf k ys = .agg ys.toArray := by
      cases k with
      | agg => exact ⟨rfl, rfl⟩
      | one => rw [hkind] at hk; cases hk
    have := hrun 9994 xs ys cs ds r ⟨g1, by assumption⟩ ⟨k1, by assumption⟩ hck.1.1 hck.1.2 h w'
    rw [hkk.1, hkk.2] at this
    refine ⟨this, ?_, ?_⟩ <;> simp [eqGuard, hgd]
  all_goals
    split at h
    case h_2 => cases h
    simp only [Option.some.injEq] at h
    subst h
    rename_i hu
    refine ⟨?_, by simp [eqGuard], by simp [eqGuard]⟩
    unfold Op.equal
    rw [show Op.maxDepth = 9999 + 1 from rfl]
    generalize 9999 = dd
    first
      | (simp [Op.equalIn, run_underlying hu]; done)
      | (simp [Op.equalIn, run_underlying hu]; rw [Bool.eq_iff_iff]; simp)
end
end Go.Proofs.Ytnbbaemijogeoaa.Ae

namespace Go.Proofs.Ytnbbaemijogeoaa.Ae
open Go
section
variable {P : Program} {R : Nat → Prop} {w : World} {m : Mp} {H : Hp} {env : Env} {a : Act}

theorem binF_sound {op : BinOp} {t : TypeId} {x y : AVal} {u v : Value} {c : Option Prop} {q : AVal} (hx : VR R w m H x u) (hy : VR R w m H y v) (h : binF P op t x y = some (c, q)) (hc : ∀ p, c = some p → p) (xo yo : Operand) :
    ∃ z, (do eqGuard op t xo yo u v; binOp op t u v).run P w = .ok z w ∧ VR R w m H q z := by
  have plainG : (∀ cs ds, ¬ (u = .agg cs ∧ v = .agg ds)) → ¬ (u = .nilIface ∧ v = .nilIface) → (eqGuard op t xo yo u v).run P w = .ok () w := by
    intro h1 h2
    unfold eqGuard
    cases op <;> simp <;> (cases u <;> cases v <;> first | rfl | exact absurd ⟨rfl, rfl⟩ (h1 _ _) | exact absurd ⟨rfl, rfl⟩ h2)
  have fin : ∀ {z : Value}, (eqGuard op t xo yo u v).run P w = .ok () w → (binOp op t u v).run P w = .ok z w → VR R w m H q z → ∃ z, (do eqGuard op t xo yo u v; binOp op t u v).run P w = .ok z w ∧ VR R w m H q z := by
    intro z h1 h2 h3
    exact ⟨z, by simp only [Sem.run_bind, h1, Result.andThen_ok, h2], h3⟩
  unfold binF at h
  split at h
  · rename_i k n k' n'
    cases hx with
    | int =>
    cases hy with
    | int =>
    have g := plainG (by simp) (by simp)
    split at h
    · obtain ⟨z, h1, h2⟩ := shiftF_sound (P := P) (R := R) (w := w) (m := m) (H := H) (k' := k') h hc t w
      exact fin g h1 h2
    · split at h
      · rename_i hk
        obtain rfl := kindEq_eq hk
        split at h
        · rename_i r hr
          simp only [Option.some.injEq, Prod.mk.injEq] at h
          obtain ⟨rfl, rfl⟩ := h
          exact fin g (cmpF_sound hr t w) (.bool _)
        · obtain ⟨z, h1, h2⟩ := arithF_sound (P := P) (R := R) (w := w) (m := m) (H := H) h hc t w
          exact fin g h1 h2
      · cases h
  · cases hx with
    | byte =>
    cases hy with
    | int =>
    obtain ⟨z, h1, h2⟩ := shiftB_sound (P := P) (R := R) (w := w) (m := m) (H := H) (k' := _) h hc t w
    exact fin (plainG (by simp) (by simp)) h1 h2
  · cases hx with
    | int =>
    cases hy with
    | byte =>
    obtain ⟨z, h1, h2⟩ := shiftF_sound (P := P) (R := R) (w := w) (m := m) (H := H) (k' := .u8) h hc t w
    exact fin (plainG (by simp) (by simp)) h1 h2
  · cases hx with
    | byte =>
    cases hy with
    | byte =>
    have g := plainG (by simp) (by simp)
    split at h
    · obtain ⟨z, h1, h2⟩ := shiftB_sound (P := P) (R := R) (w := w) (m := m) (H := H) (k' := .u8) h hc t w
      exact fin g h1 h2
    · rename_i hs
      obtain ⟨z, h1, h2⟩ := byteF_sound (P := P) (R := R) (w := w) (m := m) (H := H) hs h hc t w
      exact fin g h1 h2
  · cases hx with
    | str =>
    cases hy with
    | str =>
    obtain ⟨z, h1, h2⟩ := strF_sound (P := P) (R := R) (w := w) (m := m) (H := H) h hc t w
    exact fin (plainG (by simp) (by simp)) h1 h2
  · have gen : ∀ op', (op' = .eql ∨ op' = .neq) → ∀ r, eqF P t x y = some r → ∀ b, (Op.equal t u v).run P w = .ok b w → (binOp op' t u v).run P w = .ok (.bool (if op' = .eql then b else !b)) w := by
      intro op' ho r hr b hb
      have : binOp op' t u v = if op' = .eql then (do pure (.bool (← Op.equal t u v))) else (do pure (.bool (!(← Op.equal t u v)))) := by
        rcases ho with rfl | rfl <;> cases hx <;> cases hy <;> first
          | (simp only [eqF, reduceCtorEq] at hr; done)
          | rfl
      rw [this]
      rcases ho with rfl | rfl <;> simp [hb]
    split at h
    · split at h
      · rename_i r hr
        simp only [Option.some.injEq, Prod.mk.injEq] at h
        obtain ⟨rfl, rfl⟩ := h
        obtain ⟨e1, e2, e3⟩ := eqF_sound hx hy hr xo yo w
        exact fin e2 (by simpa using gen .eql (.inl rfl) r hr r e1) (.bool _)
      · cases h
    · split at h
      · rename_i r hr
        simp only [Option.some.injEq, Prod.mk.injEq] at h
        obtain ⟨rfl, rfl⟩ := h
        obtain ⟨e1, e2, e3⟩ := eqF_sound hx hy hr xo yo w
        exact fin e3 (by simpa using gen .neq (.inr rfl) r hr r e1) (.bool _)
      · cases h
    · cases h
theorem unF_sound {op : UnOp} {x : AVal} {u : Value} {c : Option Prop} {q : AVal} (hx : VR R w m H x u) (h : unF op x = some (c, q)) (hc : ∀ p, c = some p → p) : ∃ z, (Op.unary op u).run P w = .ok z w ∧ VR R w m H q z := by
  unfold unF at h
  split at h
  · cases hx with
    | bool b =>
    simp only [Option.some.injEq, Prod.mk.injEq] at h
    obtain ⟨rfl, rfl⟩ := h
    exact ⟨_, by simp [Op.unary] <;> rfl, .bool _⟩
  · rename_i k n
    cases hx with
    | int =>
    obtain ⟨z, h1, h2⟩ := arithF_sound (P := P) (R := R) (w := w) (m := m) (H := H) h hc 0 w
    exact ⟨z, by show (Op.intArith .sub k 0 n).run P w = _; simpa [binOp] using h1, h2⟩
  · rename_i k n
    cases hx with
    | int =>
    simp only [Option.some.injEq, Prod.mk.injEq] at h
    obtain ⟨rfl, rfl⟩ := h
    exact ⟨_, by simp [Op.unary, intBits_xor] <;> rfl, .int _ _⟩
  · rename_i n
    cases hx with
    | byte =>
    simp only [Option.some.injEq, Prod.mk.injEq] at h
    obtain ⟨rfl, rfl⟩ := h
    refine ⟨.int .u8 (bits .xor .u8 255 (n.toNat : Int)), by simp [Op.unary, intBits_xor, IntKind.signed, IntKind.max, IntKind.bits], ret_byte ?_⟩
    have h1 := xor_u8 255 n
    rw [show ((255 : UInt8).toNat : Int) = 255 from rfl] at h1
    rw [h1]
    congr 1
  · cases h

theorem partOpers_sound (hE : EnvR R w m H env a) : ∀ {ps : List (Nat × Operand)} {l : List (Nat × AVal)}, partOpers env ps = some l →
    l.length = (ps.map fun (p : Nat × Operand) => (p.1, a.eval p.2)).length ∧ ∀ (i : Nat) p q, l[i]? = some p → (ps.map fun (p : Nat × Operand) => (p.1, a.eval p.2))[i]? = some q → p.1 = q.1 ∧ VR R w m H p.2 q.2
  | [], l, h => by simp [partOpers] at h; subst h; exact ⟨rfl, fun i p q h => by simp at h⟩
  | (j, x) :: ps, l, h => by
    simp only [partOpers] at h
    split at h
    · rename_i v l' h1 h2
      cases h
      obtain ⟨a1, a2⟩ := partOpers_sound hE h2
      refine ⟨by simpa using a1, fun i p q hp hq => ?_⟩
      cases i with
      | zero =>
        simp at hp hq; subst hp; subst hq
        exact ⟨rfl, oper_sound hE h1⟩
      | succ i => exact a2 i p q (by simpa using hp) (by simpa using hq)
    · cases h

theorem sizes_run : ∀ (l : List Field), (l.all fun f => (sizeT P f.type).isSome) = true → ∀ w : World, (l.mapM fun (f : Field) => (do pure (f.offset, ← sizeOf f.type) : Sem (Nat × Nat))).run P w = .ok (l.map fun f => (f.offset, (sizeT P f.type).getD 0)) w
  | [], _, w => by simp
  | f :: l, h, w => by
    simp only [List.all_cons, Bool.and_eq_true] at h
    obtain ⟨n, hn⟩ := Option.isSome_iff_exists.1 h.1
    have ih := sizes_run l h.2 w
    simp only [List.mapM_cons, Sem.run_bind, sizeT_run hn, Result.andThen_ok, Sem.run_pure, ih, List.map_cons, hn, Option.getD_some]
theorem place_eq {t : TypeId} {fs : Array Field} (hu : P.underlying t = some (.struct fs)) (hs : (fs.toList.all fun f => (sizeT P f.type).isSome) = true) :
    fieldPlaceF P t = fun i => (fs.toList.map fun f => (f.offset, (sizeT P f.type).getD 0)).toArray[i]? := by
  funext i
  simp only [fieldPlaceF, fieldOf, hu]
  cases hf : fs[i]? with
  | none =>
    have : fs.toList[i]? = none := by rw [Array.getElem?_toList]; exact hf
    simp [this]
  | some f =>
    have h1 : fs.toList[i]? = some f := by rw [Array.getElem?_toList]; exact hf
    obtain ⟨n, hn⟩ := Option.isSome_iff_exists.1 (List.all_eq_true.1 hs f (List.mem_of_getElem? h1))
    simp [h1, hn]
theorem buildF_sound (hE : EnvR R w m H env a) {t : TypeId} {parts : Array (Nat × Operand)} {l : List (Nat × AVal)} {v : AVal} (hl : partOpers env parts.toList = some l) (h : buildF P t l = some v) :
    ∃ x, (Instr.build t (parts.map fun (p : Nat × Operand) => (p.1, a.eval p.2))).run P w = .ok x w ∧ VR R w m H v x := by
  have hp := partOpers_sound hE hl
  unfold buildF at h
  split at h
  · rename_i z fs hz hu
    obtain ⟨zv, g1, g2, g3⟩ := zeroT_run hz w
    cases hck : (fs.toList.all fun f => (sizeT P f.type).isSome) with
    | false => rw [hck] at h; cases h
    | true =>
    rw [hck] at h
    simp only [cond_true] at h
    split at h
    case h_2 => cases h
    rename_i cs hcs
    cases h
    rw [place_eq hu hck] at hcs
    obtain ⟨ys, f1, f2, f3⟩ := fill_sound (g2 R w m H) g3 hp hcs
    refine ⟨.agg ys.toArray, ?_, f2.agg f3⟩
    have hm : (fs.mapM fun (f : Field) => (do pure (f.offset, ← sizeOf f.type) : Sem (Nat × Nat))).run P w = .ok (fs.toList.map fun f => (f.offset, (sizeT P f.type).getD 0)).toArray w := by
      rw [Array.mapM_eq_mapM_toList, Sem.run_map, sizes_run fs.toList hck w]; rfl
    simp only [Instr.build, Sem.run_bind, g1, Result.andThen_ok, run_underlying hu, hm]
    simp only [Array.toArray_toList] at f1
    rw [Array.toList_map, f1]
    rfl
  · rename_i z n e hz hu
    obtain ⟨zv, g1, g2, g3⟩ := zeroT_run hz w
    split at h
    case h_2 => cases h
    rename_i sz hsz
    split at h
    case h_2 => cases h
    rename_i cs hcs
    cases h
    obtain ⟨ys, f1, f2, f3⟩ := fill_sound (g2 R w m H) g3 hp hcs
    refine ⟨.agg ys.toArray, ?_, f2.agg f3⟩
    simp only [Instr.build, Sem.run_bind, g1, Result.andThen_ok, run_underlying hu, sizeT_run hsz]
    simp only [Array.toArray_toList] at f1
    rw [Array.toList_map, f1]
    rfl
  · cases h
theorem BR_mk {cs : List AVal} {ys : List Value} (h : VL R w m H cs ys) : BR R w m H (mkBlk cs) ys ∧ (mkBlk cs).len = cs.length := by
  unfold mkBlk
  split
  · rename_i l hl
    have e := toBytes_eq hl
    rw [e] at h
    exact ⟨⟨[], by rw [h.bytes_inv]; simp⟩, by rw [e]; simp [ABlk.len]⟩
  · exact ⟨⟨ys, [], by simp, h⟩, rfl⟩
theorem buildSliceF_sound (hS : Sim R w m H) (hE : EnvR R w m H env a) {t : TypeId} {len : Nat} {parts : Array (Nat × Operand)} {l : List (Nat × AVal)} {v : AVal} {ef : Eff} (hl : partOpers env parts.toList = some l) (h : buildSliceF P H t len l = some (v, ef)) :
    ∃ x w' m', (Instr.buildSlice t len (parts.map fun (p : Nat × Operand) => (p.1, a.eval p.2))).run P w = .ok x w' ∧ Stp R w m H w' m' (ef.app H) ∧ VR R w' m' (ef.app H) v x := by
  have hp := partOpers_sound hE hl
  unfold buildSliceF at h
  split at h
  case h_2 => cases h
  rename_i e hu
  split at h
  case h_2 => cases h
  rename_i sz z hsz hz
  cases hck : (Nat.ble (len * sz) 100000 && Nat.beq z.length sz && Nat.ble 1 sz) with
  | false => rw [hck] at h; cases h
  | true =>
  rw [hck] at h
  simp only [cond_true] at h
  simp only [Bool.and_eq_true] at hck
  have hle := Nat.le_of_ble_eq_true hck.1.1
  have hzl := Nat.eq_of_beq_eq_true hck.1.2
  have hs1 := Nat.le_of_ble_eq_true hck.2
  split at h
  case h_2 => cases h
  rename_i cs hcs
  simp only [Option.some.injEq, Prod.mk.injEq] at h
  obtain ⟨rfl, rfl⟩ := h
  obtain ⟨zv, g1, g2, g3⟩ := zeroT_run hz w
  have hzv : z.length = zv.cells.size := by have := (g2 R w m H).1; simpa using this
  have hmade := (g2 R w m H).made (by omega) len
  have hone := one_made g3 (by omega) (len * z.length)
  obtain ⟨ys, f1, f2, f3⟩ := fill_sound hmade hone hp hcs
  have hyl : ys.length = len * sz := by
    have h1 := f2.1
    have h2 : ∀ {place : Nat → Option (Nat × Nat)} {ps : List (Nat × AVal)} {cs r : List AVal}, layParts place cs ps = some r → r.length = cs.length := by
      intro place ps
      induction ps with
      | nil => intro cs r h; simp [layParts] at h; rw [h]
      | cons p ps ih =>
        intro cs r h
        obtain ⟨i, v⟩ := p
        simp only [layParts] at h
        split at h
        case h_2 => cases h
        rename_i off n _
        cases hc : (Nat.beq v.cells.length n && okCell v) with
        | false => rw [hc] at h; cases h
        | true =>
        rw [hc] at h
        simp only [cond_true] at h
        split at h
        case h_2 => cases h
        rename_i cs' hput
        obtain ⟨rfl, hle⟩ := putN_eq hput
        rw [ih h]; simp; omega
    rw [← h1, h2 hcs, rep_len, hzl]
  have hroom : len ≤ room := by
    have := Nat.le_mul_of_pos_right len hs1
    unfold room; omega
  obtain ⟨s1, s2⟩ := new_sl hS (B := mkBlk cs) (xs := ys) (e := e) f3 (BR_mk f2).1 (n := len) (sz := sz) hyl (by rw [(BR_mk f2).2, f2.1, hyl]) hroom
  rw [app_new]
  refine ⟨_, _, _, ?_, s1, s2⟩
  have hmk : (Array.range (len * sz)).map (fun x => zv.cells[x % zv.cells.size]!) = madeCells zv.cells (len * z.length) := by rw [hzl]; rfl
  by_cases h0 : len * sz = 0
  · have hl0 : len = 0 := by rcases Nat.mul_eq_zero.1 h0 with h | h <;> omega
    subst hl0
    have hy0 : ys = [] := List.eq_nil_of_length_eq_zero (by rw [hyl]; simp)
    subst hy0
    have e0 : (madeCells zv.cells (0 * z.length)).toList.toArray = (#[] : Array Value) := by simp [madeCells]
    rw [e0] at f1
    simp only [Instr.buildSlice, Sem.run_bind, run_underlying hu, Result.andThen_ok, sizeT_run hsz, Nat.zero_mul]
    simp [newRow]
    rw [show (Array.map (fun _ => (default : Value)) (Array.range 0)) = #[] by simp, f1]
    simp
  · have e0 : (madeCells zv.cells (len * z.length)).toList.toArray = madeCells zv.cells (len * z.length) := by simp
    rw [e0, ← hmk] at f1
    have hng : ¬ (len * sz > 2 ^ 24) := by omega
    simp only [Instr.buildSlice, Sem.run_bind, run_underlying hu, Result.andThen_ok, sizeT_run hsz]
    rw [if_neg hng]
    simp [h0, newRow, g1]
    rw [f1]
    simp
end
end Go.Proofs.Ytnbbaemijogeoaa.Ae

namespace Go.Proofs.Ytnbbaemijogeoaa.Ae
open Go
section
variable {P : Program} {R : Nat → Prop} {w : World} {m : Mp} {H : Hp} {env : Env} {a : Act}

theorem noEff_app (H : Hp) : noEff.app H = H := by simp [Eff.app, noEff, hsets]

/-- what an operation comes to, beside the evaluator's word -/
def Does (P : Program) (R : Nat → Prop) (w : World) (m : Mp) (H : Hp) (a : Act) (o : Oper) (v : AVal) (e : Eff) : Prop :=
  ∃ x w' m', Runs P o a w x w' ∧ Stp R w m H w' m' (e.app H) ∧ VR R w' m' (e.app H) v x
theorem Does.pure (hS : Sim R w m H) {o : Oper} {v : AVal} {x : Value} (h : (execOp a.eval o).run P w = .ok (.value x) w) (hv : VR R w m H v x) : Does P R w m H a o v noEff :=
  ⟨x, w, m, .inl h, by rw [noEff_app]; exact .refl hS, by rw [noEff_app]; exact hv⟩

theorem toArrayF_sound {t : TypeId} {x q : AVal} {y : Value} {c : Option Prop} (hx : VR R w m H x y) (h : toArrayF P t x = some (c, q)) (hc : ∀ p, c = some p → p) :
    ∃ z, (Instr.arrayAt t y).run P w = .ok z w ∧ VR R w m H q z := by
  unfold toArrayF at h
  split at h
  · rename_i n e hu
    split at h
    · rename_i b off len sz
      cases h
      obtain ⟨h0, h1⟩ := hc _ rfl
      cases hx with
      | sl b off len sz ad c e1 e2 e3 e4 e5 e6 =>
        obtain ⟨g, n', f1, rfl, _⟩ := e5 (by omega)
        refine ⟨_, by simp [Instr.arrayAt, run_underlying hu, Nat.not_lt.2 h1], .ptr b off g f1⟩
    · cases h
  · cases h

theorem minF_sound {b : Bool} {x y q : AVal} {u v : Value} (hx : VR R w m H x u) (hy : VR R w m H y v) (h : minF b x y = some q) (ts : Array TypeId) (ty : TypeId) :
    ∃ z, (match b with | true => Builtin.min_ ts ty #[u, v] | false => Builtin.max_ ts ty #[u, v]).run P w = .ok z w ∧ VR R w m H q z := by
  unfold minF at h
  split at h
  · split at h
    · rename_i k a k' b hk
      cases h; cases hx; cases hy
      exact ⟨_, by simp [Builtin.min_, Builtin.min2], .int _ _⟩
    · cases h
  · split at h
    · rename_i k a k' b hk
      cases h; cases hx; cases hy
      exact ⟨_, by simp [Builtin.max_, Builtin.max2], .int _ _⟩
    · cases h
  · cases h

theorem VL.two {x y : AVal} {us : List Value} (h : VL R w m H [x, y] us) : ∃ u v, us = [u, v] ∧ VR R w m H x u ∧ VR R w m H y v := by
  obtain ⟨h1, h2⟩ := h
  match us, h1 with
  | [u, v], _ => exact ⟨u, v, rfl, h2 0 _ _ rfl rfl, h2 1 _ _ rfl rfl⟩
theorem VL.one {x : AVal} {us : List Value} (h : VL R w m H [x] us) : ∃ u, us = [u] ∧ VR R w m H x u := by
  obtain ⟨h1, h2⟩ := h
  match us, h1 with
  | [u], _ => exact ⟨u, rfl, h2 0 _ _ rfl rfl⟩

theorem builtinF_sound (hS : Sim R w m H) {b : Builtin} {ts : Array TypeId} {args : List AVal} {us : List Value} {c : Option Prop} {q : AVal} {ef : Eff} (hx : VL R w m H args us)
    (h : builtinF P H b ts.toList args = some ⟨c, q, ef⟩) (hc : ∀ p, c = some p → p) (ty : TypeId) (cs : Array Bool) :
    ∃ z w' m', (builtin b ts ty cs us.toArray).run P w = .ok (.value z) w' ∧ Stp R w m H w' m' (ef.app H) ∧ VR R w' m' (ef.app H) q z := by
  have fin : ∀ {s : Sem Value} {z : Value} {w' : World}, s.run P w = .ok z w' → (do Pure.pure (Next.value (← s)) : Sem Next).run P w = .ok (.value z) w' := fun h => by simp [h]
  obtain ⟨tl⟩ := ts
  simp only at h
  unfold builtinF at h
  split at h
  · rename_i _ _ _ t r x
    obtain ⟨u, rfl, hu1⟩ := hx.one
    clear hx
    split at h
    · rename_i n e hu
      cases h
      exact ⟨_, w, m, fin (by simp [Builtin.len_, run_underlying hu]; rfl), by rw [noEff_app]; exact .refl hS, by rw [noEff_app]; exact .int _ _⟩
    · rename_i hu
      split at h
      · cases h; cases hu1
        exact ⟨_, w, m, fin (by simp [Builtin.len_, run_underlying hu]; rfl), by rw [noEff_app]; exact .refl hS, by rw [noEff_app]; exact .int _ _⟩
      · cases h
    · rename_i e hu
      split at h
      · cases h; cases hu1
        exact ⟨_, w, m, fin (by simp [Builtin.len_, run_underlying hu]; rfl), by rw [noEff_app]; exact .refl hS, by rw [noEff_app]; exact .int _ _⟩
      · cases h; cases hu1
        exact ⟨_, w, m, fin (by simp [Builtin.len_, run_underlying hu]; rfl), by rw [noEff_app]; exact .refl hS, by rw [noEff_app]; exact .int _ _⟩
      · cases h; cases hu1
        exact ⟨_, w, m, fin (by simp [Builtin.len_, run_underlying hu]; rfl), by rw [noEff_app]; exact .refl hS, by rw [noEff_app]; exact .int _ _⟩
      · cases h; cases hu1
        exact ⟨_, w, m, fin (by simp [Builtin.len_, run_underlying hu]; rfl), by rw [noEff_app]; exact .refl hS, by rw [noEff_app]; exact .int _ _⟩
      · cases h
    · cases h
  · rename_i _ _ _ t u' r s x
    obtain ⟨sv, y, rfl, hs, hy⟩ := hx.two
    cases hu : isSrcT P u' with
    | false => rw [hu] at h; cases h
    | true =>
      rw [hu] at h
      simp only [cond] at h
      split at h
      · rename_i p v e ha
        cases h
        obtain ⟨z, w', m', f1, f2, f3⟩ := appendF_sound hS (ty := ty) hu hs hy ha hc
        exact ⟨z, w', m', fin ((congrArg (fun s => Sem.run P s w) (show Builtin.append_ ⟨t :: u' :: r⟩ ty #[sv, y] = Builtin.append_ #[t, u'] ty #[sv, y] from rfl)).trans f1), f2, f3⟩
      · cases h
  · rename_i _ _ _ t r d x
    obtain ⟨dv, y, rfl, hd, hy⟩ := hx.two
    split at h
    · rename_i p v e ha
      cases h
      obtain ⟨z, w', f1, f2, f3⟩ := copyF_sound hS (u := t) (ty := ty) hd hy ha hc
      exact ⟨z, w', m, fin ((congrArg (fun s => Sem.run P s w) (show Builtin.copy_ ⟨t :: r⟩ ty #[dv, y] = Builtin.copy_ #[t, t] ty #[dv, y] from rfl)).trans f1), f2, f3⟩
    · cases h
  · rename_i _ _ _ x y
    obtain ⟨u, v, rfl, hu, hv⟩ := hx.two
    split at h
    · rename_i r hr
      cases h
      obtain ⟨z, f1, f2⟩ := minF_sound hu hv hr ⟨tl⟩ ty
      exact ⟨z, w, m, fin f1, by rw [noEff_app]; exact .refl hS, by rw [noEff_app]; exact f2⟩
    · cases h
  · rename_i _ _ _ x y
    obtain ⟨u, v, rfl, hu, hv⟩ := hx.two
    split at h
    · rename_i r hr
      cases h
      obtain ⟨z, f1, f2⟩ := minF_sound hu hv hr ⟨tl⟩ ty
      exact ⟨z, w, m, fin f1, by rw [noEff_app]; exact .refl hS, by rw [noEff_app]; exact f2⟩
    · cases h
  · cases h

theorem oper?_sound (hE : EnvR R w m H env a) {x : Option Operand} {v : Option AVal} (h : oper? env x = some v) : match (generalizing := false) v, x.map a.eval with | none, none => True | some v, some u => VR R w m H v u | _, _ => False := by
  cases x with
  | none => simp [oper?] at h; subst h; trivial
  | some x =>
    simp only [oper?] at h
    split at h
    · rename_i u hu; cases h; exact oper_sound hE hu
    · cases h

theorem plain?_some {r : Option (Option Prop × AVal)} {p : Option Prop} {v : AVal} {e : Eff} (h : plain? r = some ⟨p, v, e⟩) : r = some (p, v) ∧ e = noEff := by
  unfold plain? at h
  split at h
  · cases h; exact ⟨rfl, rfl⟩
  · cases h
theorem pure?_some {r : Option AVal} {p : Option Prop} {v : AVal} {e : Eff} (h : pure? r = some ⟨p, v, e⟩) : r = some v ∧ p = none ∧ e = noEff := by
  unfold pure? at h
  split at h
  · cases h; exact ⟨rfl, rfl, rfl⟩
  · cases h

theorem exec_builtin {o : Oper} {c : Call} {b : Builtin} (ho : o.op = .call c) (hb : c.callee = .builtin b) : ∃ cs, ∀ P w, (execOp a.eval o).run P w = (builtin b c.argTypes o.type cs (c.args.map a.eval)).run P w := by
  refine ⟨?_, fun P w => ?_⟩
  rotate_left
  · simp only [execOp, ho, resolve, hb, invoke, Sem.run_bind, Sem.run_pure]
    rfl

theorem opF_sound (hS : Sim R w m H) (hE : EnvR R w m H env a) {o : Oper} {p : Option Prop} {v : AVal} {e : Eff} (h : opF P o.op env H = some ⟨p, v, e⟩) (hc : ∀ q, p = some q → q) : Does P R w m H a o v e := by
  have fin : ∀ {s : Sem Value} {z : Value} {w' : World}, s.run P w = .ok z w' → (do Pure.pure (Next.value (← s)) : Sem Next).run P w = .ok (.value z) w' := fun h => by simp [h]
  have ex : ∀ {s : Sem Next}, execOp a.eval o = s → ∀ {x : Next} {w' : World}, s.run P w = .ok x w' → (execOp a.eval o).run P w = .ok x w' := fun h1 _ _ h2 => by rw [h1]; exact h2
  have pu : ∀ {s : Sem Value} {q : AVal}, execOp a.eval o = (do Pure.pure (Next.value (← s)) : Sem Next) → (∃ z, s.run P w = .ok z w ∧ VR R w m H q z) → Does P R w m H a o q noEff := fun h1 ⟨z, h2, h3⟩ => .pure hS (ex h1 (fin h2)) h3
  have st : ∀ {s : Sem Value} {q : AVal} {e : Eff}, execOp a.eval o = (do Pure.pure (Next.value (← s)) : Sem Next) → (∃ z w' m', s.run P w = .ok z w' ∧ Stp R w m H w' m' (e.app H) ∧ VR R w' m' (e.app H) q z) → Does P R w m H a o q e := fun h1 ⟨z, w', m', h2, h3, h4⟩ => ⟨z, w', m', .inl (ex h1 (fin h2)), h3, h4⟩
  unfold opF at h
  split at h
  · rename_i x ho
    split at h
    · rename_i u hu; cases h
      exact .pure hS (x := a.eval x) (by simp [execOp, ho]) (oper_sound hE hu)
    · cases h
  · rename_i x ho
    split at h
    · rename_i u hu; cases h
      exact .pure hS (x := a.eval x) (by simp [execOp, ho]) (oper_sound hE hu)
    · cases h
  · rename_i c x y ho
    split at h
    · rename_i t u u' h1 h2 h3
      cases h
      have k1 := oper_sound hE h1
      have k2 := oper_sound hE h2
      have k3 := oper_sound hE h3
      generalize hcv : a.eval c = cv at k1
      cases k1
      refine .pure hS (x := if t then a.eval x else a.eval y) (by simp [execOp, ho, hcv, asBool]) ?_
      unfold pickF
      split
      · cases t <;> simpa
      · cases t <;> simpa
    · cases h
  · rename_i t ho
    split at h
    · rename_i z hz; cases h
      obtain ⟨x, w', m', f1, f2, f3⟩ := alloc_sound (a := a) hS hz ho
      exact ⟨x, w', m', f1, f2, f3⟩
    · cases h
  · rename_i t x ho
    split at h
    · rename_i u hu
      cases hk : okCell u with
      | false => rw [hk] at h; cases h
      | true =>
        rw [hk] at h; cases h
        obtain ⟨x, w', m', f1, f2, f3⟩ := box_sound hS (oper_sound hE hu) hk ho
        exact ⟨x, w', m', f1, f2, f3⟩
    · cases h
  · rename_i t parts ho
    split at h
    · rename_i l hl
      obtain ⟨h1, rfl, rfl⟩ := pure?_some h
      exact pu (by simp only [execOp, ho]) (buildF_sound hE hl h1)
    · cases h
  · rename_i t len parts ho
    split at h
    · rename_i l hl
      split at h
      · rename_i v' e' h1
        cases h
        exact st (by simp only [execOp, ho]) (buildSliceF_sound hS hE hl h1)
      · cases h
    · cases h
  · rename_i t x ho
    split at h
    · rename_i u hu
      obtain ⟨h1, rfl⟩ := plain?_some h
      obtain ⟨ad, y, f1, f2, f3⟩ := loadF_sound hS (oper_sound hE hu) h1 hc
      exact pu (s := Instr.loadAt t (a.eval x)) (by simp only [execOp, ho]) ⟨y, by simp [Instr.loadAt, f1, Instr.sureAddr, f2], f3⟩
    · cases h
  · rename_i t x y ho
    split at h
    · rename_i u u' h1 h2
      split at h
      · rename_i c' e' h3
        cases h
        obtain ⟨ad, w', f1, f2, f3⟩ := storeF_sound hS (oper_sound hE h1) (oper_sound hE h2) h3 hc
        exact ⟨undef, w', m, .inr ⟨by simp [execOp, ho, Instr.storeAt, f1, Instr.sureAddr, f2], rfl⟩, f3, .undef _⟩
      · cases h
    · cases h
  · rename_i x ho
    split at h
    · rename_i b of hu; cases h
      have k := oper_sound hE hu
      generalize hx : a.eval x = y at k
      refine .pure hS (x := y) ?_ k
      cases k; simp [execOp, ho, hx]
    · rename_i cs hu; cases h
      have k := oper_sound hE hu
      generalize hx : a.eval x = y at k
      refine .pure hS (x := y) ?_ k
      cases k; simp [execOp, ho, hx]
    · rename_i f fi ca hu; cases h
      have k := oper_sound hE hu
      generalize hx : a.eval x = y at k
      refine .pure hS (x := y) ?_ k
      cases k; simp [execOp, ho, hx]
    · cases h
  · rename_i op t x y po ho
    split at h
    · rename_i u u' h1 h2
      obtain ⟨h3, rfl⟩ := plain?_some h
      exact pu (by simp only [execOp, ho]) (binF_sound (oper_sound hE h1) (oper_sound hE h2) h3 hc x y)
    · cases h
  · rename_i op t x ho
    split at h
    · rename_i u h1
      obtain ⟨h3, rfl⟩ := plain?_some h
      exact pu (by simp only [execOp, ho]) (unF_sound (oper_sound hE h1) h3 hc)
    · cases h
  · rename_i s d x ho
    split at h
    · rename_i u h1
      cases hk : (P.underlying s).isSome with
      | false => rw [hk] at h; cases h
      | true =>
        rw [hk] at h
        simp only [cond] at h
        split at h
        · rename_i c' v' e' h3
          cases h
          exact st (by simp only [execOp, ho]) (convF_sound hS hk (oper_sound hE h1) h3 hc)
        · cases h
    · cases h
  · rename_i t x ho
    split at h
    · rename_i u h1
      obtain ⟨h3, rfl⟩ := plain?_some h
      exact pu (by simp only [execOp, ho]) (toArrayF_sound (oper_sound hE h1) h3 hc)
    · cases h
  · rename_i f fi ca ho
    split at h
    · rename_i l l' h1 h2
      cases h
      have k1 := opers_sound hE h1
      have k2 := opers_sound hE h2
      refine .pure hS (x := .func (.func f) (fi.map a.eval) (ca.map a.eval)) (by simp [execOp, ho, Instr.makeFunc]) ?_
      have := VR.fn (R := R) (w := w) (m := m) (H := H) f l l' _ _ k1.1 k1.2 k2.1 k2.2
      have e : ∀ x : Array Operand, (x.toList.map a.eval).toArray = x.map a.eval := fun x => by rw [← Array.toList_map]
      rw [e, e] at this; exact this
    · cases h
  · rename_i t n c ho
    split at h
    · rename_i u u' h1 h2
      split at h
      · rename_i c' v' e' h3
        cases h
        exact st (by simp only [execOp, ho]) (makeF_sound hS (oper_sound hE h1) (oper_sound hE h2) h3 hc)
      · cases h
    · cases h
  · rename_i t x lo hi mx ho
    split at h
    · rename_i u l' h' m' h1 h2 h3 h4
      obtain ⟨h5, rfl⟩ := plain?_some h
      exact pu (s := Instr.sliceAt t (a.eval x) (lo.map a.eval) (hi.map a.eval) (mx.map a.eval)) (by simp only [execOp, ho]) (cutF_sound hS (oper_sound hE h1) (oper?_sound hE h2) (oper?_sound hE h3) (oper?_sound hE h4) h5 hc)
    · cases h
  · rename_i t x i ho
    split at h
    · rename_i u h1
      obtain ⟨h3, rfl, rfl⟩ := pure?_some h
      exact pu (by simp only [execOp, ho]) (fieldAddrF_sound (oper_sound hE h1) h3)
    · cases h
  · rename_i t x i ho
    split at h
    · rename_i u h1
      obtain ⟨h3, rfl, rfl⟩ := pure?_some h
      exact pu (by simp only [execOp, ho]) (fieldF_sound (oper_sound hE h1) h3)
    · cases h
  · rename_i t x i ho
    split at h
    · rename_i u u' h1 h2
      obtain ⟨h3, rfl⟩ := plain?_some h
      exact pu (by simp only [execOp, ho]) (indexAddrF_sound (oper_sound hE h1) (oper_sound hE h2) h3 hc)
    · cases h
  · rename_i t x i ho
    split at h
    · rename_i u u' h1 h2
      obtain ⟨h3, rfl⟩ := plain?_some h
      exact pu (by simp only [execOp, ho]) (indexF_sound (oper_sound hE h1) (oper_sound hE h2) h3 hc)
    · cases h
  · rename_i x i ho
    split at h
    · rename_i vs h1
      split at h
      · rename_i v' h2
        cases h
        have k := oper_sound hE h1
        generalize hx : a.eval x = y at k
        cases k with
        | tup _ xs e1 e2 =>
          have hi : i < xs.length := by rw [← e1]; exact (List.getElem?_eq_some_iff.1 h2).1
          exact pu (s := Instr.extract (a.eval x) i) (by simp only [execOp, ho]) ⟨xs[i], by simp [Instr.extract, hx, hi], e2 i _ _ h2 (List.getElem?_eq_getElem hi)⟩
      · cases h
    · cases h
  · rename_i c ho
    split at h
    · rename_i b hb
      split at h
      · rename_i l hl
        obtain ⟨cs, hcs⟩ := exec_builtin (a := a) ho hb
        obtain ⟨z, w', m', f1, f2, f3⟩ := builtinF_sound hS (opers_sound hE hl) h hc o.type cs
        refine ⟨z, w', m', .inl ?_, f2, f3⟩
        have e : (c.args.toList.map a.eval).toArray = c.args.map a.eval := by rw [← Array.toList_map]
        rw [e] at f1
        rw [hcs]; exact f1
      · cases h
    · cases h
  · cases h

end
end Go.Proofs.Ytnbbaemijogeoaa.Ae
