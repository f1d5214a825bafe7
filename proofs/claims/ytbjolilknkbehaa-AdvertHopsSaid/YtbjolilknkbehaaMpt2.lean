/- Plain laws of chapter 5. No program in sight. -/
import Derived.Test.YtbjolilknkbehaaMpt
set_option linter.unusedSimpArgs false
set_option linter.unusedVariables false
namespace Go.Proofs.Ytbjolilknkbehaa
open Ae (b8 b8_toNat b8_byte b8_toNatN)

theorem two_raw {s : Int} (h : 0 ≤ s ∧ s ≤ 65535) : (raw true (two s) : Int) = s := by
  unfold two
  rw [raw_cons, raw_cons]
  have h1 := b8_toNat (s / 256)
  have h2 := b8_toNat s
  simp only [if_true, Bool.not_true, Bool.false_eq_true, if_false, raw]
  omega
theorem sum_slot {A B : List UInt8} {s : Int} (hA : A.length % 2 = 0) (h : 0 ≤ s ∧ s ≤ 65535) :
    (raw true (A ++ two s ++ B) : Int) = raw true (A ++ two 0 ++ B) + s := by
  have hs : side true A.length = true := by unfold side; simp; omega
  have h2 := two_raw h
  have h0 := two_raw (s := 0) (by omega)
  rw [List.append_assoc, List.append_assoc, raw_append, raw_append, raw_append, raw_append (b := B), hs, two_len, two_len]
  omega
theorem good_slot {A B : List UInt8} {s : Int} (hA : A.length % 2 = 0) (h : s = 65535 - sumB (A ++ two 0 ++ B) ∨ (s = 65535 ∧ 65535 - sumB (A ++ two 0 ++ B) = 0)) : sumB (A ++ two s ++ B) = 65535 := by
  have hb := sumB_bd (A ++ two 0 ++ B)
  have h1 := sum_slot (B := B) hA (s := s) (by omega)
  have h2 : sumB (A ++ two 0 ++ B) % 65535 = (raw true (A ++ two 0 ++ B) : Int) % 65535 := fld_mod _
  have h3 : raw true (A ++ two 0 ++ B) = 0 → sumB (A ++ two 0 ++ B) = 0 := fun e => by unfold sumB; rw [e]; exact fld_small 0 (by omega) (by omega)
  rw [sum_good]
  omega
theorem w16_b8 {n : Int} (h : 0 ≤ n ∧ n ≤ 65535) : w16 (b8 (n / 256)) (b8 n) = n := by
  unfold w16
  have h1 := b8_toNat (n / 256)
  have h2 := b8_toNat n
  omega
theorem b8_small {n : Int} (h : 0 ≤ n ∧ n ≤ 255) : ((b8 n).toNat : Int) = n := by
  have h2 := b8_toNat n
  omega

theorem shape17 (f t : List UInt8) (q fl a c s : Int) (d : List UInt8) (ha : 0 ≤ a ∧ a ≤ 65535) (hc : 0 ≤ c ∧ c ≤ 65535) (hd : d.length ≤ 65000) :
    ptShape ⟨f, t, 17, q, ptBd 17 fl (two a ++ two c) d s⟩ = (⟨17, a, c, 0, 8⟩, 0) := by
  have h8 := w16_b8 (n := 8 + (d.length : Int)) (by omega)
  have e : ptBd 17 fl (two a ++ two c) d s = b8 (a / 256) :: b8 a :: b8 (c / 256) :: b8 c :: b8 ((8 + (d.length : Int)) / 256) :: b8 (8 + (d.length : Int)) :: b8 (s / 256) :: b8 s :: d := by
    unfold ptBd two; rw [if_pos rfl]; rfl
  rw [e]
  unfold ptShape
  rw [if_neg (by simp only; omega), if_neg (by simp only [List.length_cons]; omega), if_pos rfl]
  simp only [List.getD_cons_zero, List.getD_cons_succ, w16_b8 ha, w16_b8 hc, h8, List.length_cons]
  rw [if_neg (by omega)]
theorem shape6 (f t : List UInt8) (q fl a c s : Int) (d : List UInt8) (ha : 0 ≤ a ∧ a ≤ 65535) (hc : 0 ≤ c ∧ c ≤ 65535) (hf : 0 ≤ fl ∧ fl < 64) :
    ptShape ⟨f, t, 6, q, ptBd 6 fl (two a ++ two c) d s⟩ = (⟨6, a, c, fl, 20⟩, 0) := by
  have h8 := b8_small (n := fl) (by omega)
  have e : ptBd 6 fl (two a ++ two c) d s = b8 (a / 256) :: b8 a :: b8 (c / 256) :: b8 c :: 0 :: 0 :: 0 :: 0 :: 0 :: 0 :: 0 :: 0 :: 80 :: b8 fl :: 255 :: 255 :: b8 (s / 256) :: b8 s :: 0 :: 0 :: d := by
    unfold ptBd two; rw [if_neg (by omega)]; rfl
  rw [e]
  unfold ptShape
  rw [if_neg (by simp only; omega), if_neg (by simp only [List.length_cons]; omega), if_neg (by simp only; omega)]
  simp only [List.getD_cons_zero, List.getD_cons_succ, w16_b8 ha, w16_b8 hc, h8, List.length_cons]
  have h80 : ((80 : UInt8).toNat : Int) = 80 := rfl
  rw [h80, if_neg (by omega)]
  simp only [Prod.mk.injEq, Hd.mk.injEq, and_true, true_and]
  omega
def hdAt (proto : Int) : Int := if proto = 6 then 20 else 8
theorem ptW_ok {p : Ip} {h : Hd} {d : List UInt8} (hw : (ptWrite p h d).2 = 0) :
    (h.proto = 6 ∨ h.proto = 17) ∧ hdOk h = true ∧ ipOk (ptPacket p h d) = true ∧ ptWrite p h d = (ptPacket p h d, 0) := by
  rcases ptWrite_cases p h d with ⟨k1, e⟩ | ⟨k1, k2, k3, e⟩ | ⟨k1, k2, e⟩
  · rw [e] at hw; simp at hw
  · exact ⟨k1, k2, k3, e⟩
  · rw [e] at hw; simp at hw
theorem ptW_no {p : Ip} {h : Hd} {d : List UInt8} (hw : (ptWrite p h d).2 ≠ 0) : (ptWrite p h d).1 = noIp := by
  rcases ptWrite_cases p h d with ⟨k1, e⟩ | ⟨k1, k2, k3, e⟩ | ⟨k1, k2, e⟩ <;> rw [e] at hw ⊢ <;> simp at hw ⊢
theorem ptBody_slot (h : Hd) (d : List UInt8) : ∃ A B, A.length % 2 = 0 ∧ ∀ s, ptBody h d s = A ++ two s ++ B := by
  unfold ptBody ptBd
  split
  · exact ⟨two h.src ++ two h.dst ++ two (8 + (d.length : Int)), d, by simp [two], fun s => rfl⟩
  · exact ⟨two h.src ++ two h.dst ++ [0, 0, 0, 0, 0, 0, 0, 0] ++ [80] ++ [b8 h.flags] ++ [255, 255], [0, 0] ++ d, by simp [two], fun s => by simp⟩
theorem ptBody_len (h : Hd) (d : List UInt8) (s : Int) : (ptBody h d s).length = d.length + (if h.proto = 17 then 8 else 20) := by
  unfold ptBody; rw [ptBd_len]; simp only [List.length_append, two_len]; split <;> omega
theorem pseudoL_even (f t : List UInt8) (p l : Int) : (pseudoL f t p l).length % 2 = 0 := by
  unfold pseudoL
  cases h : pseudo f t p l with
  | none => rfl
  | some x => exact (pseudo_len h).2
theorem pt_good (p : Ip) (h : Hd) (d : List UInt8) : ptGood (ptPacket p h d) = true := by
  unfold ptGood
  rw [beq_iff_eq]
  simp only [ptPacket]
  obtain ⟨A, B, hA, hs⟩ := ptBody_slot h d
  have hl : (ptBody h d (ptSum p h d)).length = (ptBody h d 0).length := by rw [ptBody_len, ptBody_len]
  rw [hl]
  have he := pseudoL_even p.src p.dst h.proto ((ptBody h d 0).length : Int)
  have hsum : ptSum p h d = ptRaw p h d ∨ (ptSum p h d = 65535 ∧ ptRaw p h d = 0) := by
    unfold ptSum; split
    · rename_i hz; exact .inr ⟨rfl, hz.1⟩
    · exact .inl rfl
  unfold ptRaw at hsum
  generalize pseudoL p.src p.dst h.proto ((ptBody h d 0).length : Int) = L at he hsum ⊢
  rw [hs] at hsum ⊢
  rw [← List.append_assoc, ← List.append_assoc] at hsum ⊢
  exact good_slot (by rw [List.length_append]; omega) hsum
theorem ptRead_good {P : Ip} {x : Hd} (hs : ptShape P = (x, 0)) (hg : ptGood P = true) (hr : rightA P.src = true) (hl : P.src.length = P.dst.length) : ptRead P = (x, 0) := by
  unfold ptRead
  rw [hs, if_neg (by simp), if_neg (by rw [hg]; simp), if_neg (by simp [hr, hl])]
theorem pt_back {p : Ip} {h : Hd} {d : List UInt8} (hw : (ptWrite p h d).2 = 0) :
    ptRead (ptPacket p h d) = (⟨h.proto, h.src, h.dst, h.flags, hdAt h.proto⟩, 0) := by
  obtain ⟨h1, h2, h3, _⟩ := ptW_ok hw
  rw [hdOk_iff] at h2
  have hip := (ipOk_iff _).1 h3
  simp only [ptPacket, ptBody_len] at hip
  have hr : rightA p.src = true := by unfold rightA; simp; omega
  refine ptRead_good ?_ (pt_good p h d) hr (by simp only [ptPacket]; omega)
  obtain ⟨pr, a, c, fl, at'⟩ := h
  simp only at h1 h2 hip
  rcases h1 with rfl | rfl
  · simp only [ptPacket, ptBody]
    rw [shape6 _ _ _ _ _ _ _ _ (by omega) (by omega) (by omega)]; rfl
  · have : fl = 0 := by omega
    subst this
    simp only [ptPacket, ptBody]
    simp only [if_true] at hip
    rw [shape17 _ _ _ _ _ _ _ _ (by omega) (by omega) (by omega)]; rfl
theorem pt_drop (h : Hd) (d : List UInt8) (s : Int) (h1 : h.proto = 6 ∨ h.proto = 17) : (ptBody h d s).drop (hdAt h.proto).toNat = d := by
  obtain ⟨pr, a, c, fl, at'⟩ := h
  simp only at h1
  rcases h1 with rfl | rfl
  · simp only [ptBody, ptBd, two]; rw [if_neg (by omega)]; rfl
  · simp only [ptBody, ptBd, two]; rw [if_pos trivial]; rfl
theorem pt_flow {p : Ip} {h : Hd} {d : List UInt8} (hw : (ptWrite p h d).2 = 0) :
    ptFlow (ptPacket p h d) = (⟨h.proto, p.src, p.dst, h.src, h.dst⟩, 0) := by
  unfold ptFlow
  rw [pt_back hw]; rfl
theorem pt_other {p : Ip} {h : Hd} {d : List UInt8} (hw : (ptWrite p h d).2 = 0) :
    (ptWrite ⟨p.dst, p.src, p.proto, p.ttl, p.body⟩ ⟨h.proto, h.dst, h.src, h.flags, 0⟩ d).2 = 0 := by
  obtain ⟨h1, h2, h3, _⟩ := ptW_ok hw
  rw [hdOk_iff] at h2
  have hip := (ipOk_iff _).1 h3
  simp only [ptPacket, ptBody_len] at hip
  unfold ptWrite
  rw [if_neg (by simp only; omega), if_pos]
  refine ⟨?_, ?_⟩
  · rw [hdOk_iff]
    obtain ⟨k1, k2, k3, k4, k5, k6, k7, k8⟩ := h2
    exact ⟨k3, k4, k1, k2, k5, k6, rfl, k8⟩
  · rw [ipOk_iff]; simp only [ptPacket, ptBody_len]
    obtain ⟨hl, k1, k2, k3, k4, k5⟩ := hip
    exact ⟨by omega, k1.symm, k2, k3, k4, k5⟩
theorem getD_app_r {α : Type} (a b : List α) (k : Nat) (x : α) : (a ++ b).getD (a.length + k) x = b.getD k x := by
  rw [List.getD_eq_getElem?_getD, List.getD_eq_getElem?_getD, List.getElem?_append_right (by omega), Nat.add_sub_cancel_left]
theorem getD_app_l {α : Type} (a b : List α) {k : Nat} (h : k < a.length) (x : α) : (a ++ b).getD k x = a.getD k x := by
  rw [List.getD_eq_getElem?_getD, List.getD_eq_getElem?_getD, List.getElem?_append_left h]
theorem pt_refuse {Q : Ip} (h6 : Q.proto = 6) (hl : 20 ≤ Q.body.length) (hg : ptGood Q = false) : ∃ e, ptRead Q = (noHd, e) ∧ (e = 52 ∨ e = 53) := by
  have hn : ptNone Q = false := by unfold ptNone; rw [h6]; rfl
  unfold ptRead
  by_cases hs : (ptShape Q).2 = 0
  · rw [if_neg (by omega), if_pos ⟨hn, hg⟩]; exact ⟨_, rfl, .inl rfl⟩
  · rw [if_pos hs]
    refine ⟨_, rfl, .inr ?_⟩
    revert hs
    unfold ptShape
    rw [if_neg (by omega), if_neg (by omega), if_neg (by omega)]
    split <;> simp
theorem pt_turned1 {p : Ip} {h : Hd} {d : List UInt8} (hw : (ptWrite p h d).2 = 0) (h6 : h.proto = 6) {k : Nat} (hk : k < (ptPacket p h d).body.length) {z : UInt8} (hz : z ≠ 0) :
    ∃ e, ptRead ⟨(ptPacket p h d).src, (ptPacket p h d).dst, (ptPacket p h d).proto, (ptPacket p h d).ttl, (ptPacket p h d).body.set k ((ptPacket p h d).body.getD k 0 ^^^ z)⟩ = (noHd, e) ∧ (e = 52 ∨ e = 53) := by
  have hg := pt_good p h d
  have hlen : 20 ≤ (ptPacket p h d).body.length := by simp only [ptPacket, ptBody_len]; rw [if_neg (by omega)]; omega
  have hpr : (ptPacket p h d).proto = 6 := h6
  generalize ptPacket p h d = P at hg hk hlen hpr ⊢
  refine pt_refuse hpr (by simpa using hlen) ?_
  unfold ptGood at hg ⊢
  rw [beq_iff_eq] at hg
  rw [beq_eq_false_iff_ne]
  simp only [List.length_set]
  have := sum_turned (l := pseudoL P.src P.dst P.proto (P.body.length : Int) ++ P.body) (k := (pseudoL P.src P.dst P.proto (P.body.length : Int)).length + k) (y := P.body.getD k 0 ^^^ z) (by rw [List.length_append]; omega)
    (by rw [getD_app_r]; exact xor_ne hz) hg
  rwa [List.set_append_right _ _ (by omega), Nat.add_sub_cancel_left] at this
theorem pt_turned2 {p : Ip} {h : Hd} {d : List UInt8} (hw : (ptWrite p h d).2 = 0) (h6 : h.proto = 6) {k : Nat} (hk : k < (ptPacket p h d).src.length) {z : UInt8} (hz : z ≠ 0) :
    ∃ e, ptRead ⟨(ptPacket p h d).src.set k ((ptPacket p h d).src.getD k 0 ^^^ z), (ptPacket p h d).dst, (ptPacket p h d).proto, (ptPacket p h d).ttl, (ptPacket p h d).body⟩ = (noHd, e) ∧ (e = 52 ∨ e = 53) := by
  have hg := pt_good p h d
  have hlen : 20 ≤ (ptPacket p h d).body.length := by simp only [ptPacket, ptBody_len]; rw [if_neg (by omega)]; omega
  have hpr : (ptPacket p h d).proto = 6 := h6
  obtain ⟨_, _, h3, _⟩ := ptW_ok hw
  have hip := (ipOk_iff _).1 h3
  generalize ptPacket p h d = P at hg hk hlen hpr hip ⊢
  refine pt_refuse hpr hlen ?_
  unfold ptGood at hg ⊢
  rw [beq_iff_eq] at hg
  rw [beq_eq_false_iff_ne]
  simp only
  have hps : ∀ src : List UInt8, src.length = P.src.length → pseudoL src P.dst P.proto (P.body.length : Int) = pseudoB src P.dst P.proto (P.body.length : Int) := fun src e => by
    unfold pseudoL pseudo; rw [if_pos (by omega)]; rfl
  rw [hps _ (by simp)]
  rw [hps _ rfl] at hg
  have hB : ∀ src : List UInt8, src.length = P.src.length → ∃ r, pseudoB src P.dst P.proto (P.body.length : Int) = src ++ r ∧ ∀ src' : List UInt8, src'.length = P.src.length → pseudoB src' P.dst P.proto (P.body.length : Int) = src' ++ r := by
    intro src e
    unfold pseudoB
    by_cases h16 : P.src.length = 16
    · refine ⟨P.dst ++ [b8 ((P.body.length : Int) / 16777216), b8 ((P.body.length : Int) / 65536), b8 ((P.body.length : Int) / 256), b8 (P.body.length : Int), 0, 0, 0, b8 P.proto], ?_, fun src' e' => ?_⟩
      · rw [if_pos (by omega), List.append_assoc]
      · rw [if_pos (by omega), List.append_assoc]
    · refine ⟨P.dst ++ [0, b8 P.proto, b8 ((P.body.length : Int) / 256), b8 (P.body.length : Int)], ?_, fun src' e' => ?_⟩
      · rw [if_neg (by omega), List.append_assoc]
      · rw [if_neg (by omega), List.append_assoc]
  obtain ⟨r, hr, hr'⟩ := hB P.src rfl
  rw [hr' _ (by simp)]
  rw [hr] at hg
  have := sum_turned (l := P.src ++ r ++ P.body) (k := k) (y := P.src.getD k 0 ^^^ z) (by simp only [List.length_append]; omega)
    (by rw [List.append_assoc, getD_app_l _ _ hk]; exact xor_ne hz) hg
  rwa [List.append_assoc, List.set_append_left _ _ hk, ← List.append_assoc] at this
/-- what quotes a packet -/
def quote (l : List UInt8) (s : Int) : List UInt8 := [11, 0, b8 (s / 256), b8 s, 0, 0, 0, 0] ++ l
theorem quote_two (l : List UInt8) (s : Int) : quote l s = [11, 0] ++ two s ++ ([0, 0, 0, 0] ++ l) := by unfold quote two; simp
theorem quote_good (l : List UInt8) : sumB (quote l (65535 - sumB (quote l 0))) = 65535 := by
  rw [quote_two, quote_two]
  exact good_slot rfl (.inl rfl)
theorem take_more {α : Type} {l a b : List α} {n : Nat} (e : l = a ++ b) (hn : a.length ≤ n) : ∃ r, l.take n = a ++ r := by
  refine ⟨b.take (n - a.length), ?_⟩
  rw [e, List.take_append, List.take_of_length_le hn]
theorem pt_quoted {p : Ip} {h : Hd} {d : List UInt8} (hw : (ptWrite p h d).2 = 0) (h4 : p.src.length ≠ 16) {n : Nat} (hn : 24 ≤ n) (q : Int) :
    ptQuoted ⟨p.dst, p.src, 1, q, quote ((ipBytes (ptPacket p h d)).take n) (65535 - sumB (quote ((ipBytes (ptPacket p h d)).take n) 0))⟩ = (⟨h.proto, p.src, p.dst, h.src, h.dst⟩, 0) := by
  obtain ⟨h1, h2, h3, _⟩ := ptW_ok hw
  rw [hdOk_iff] at h2
  have hip := (ipOk_iff _).1 h3
  have hs4 : (ptPacket p h d).src.length ≠ 16 := h4
  obtain ⟨a, b, c, e, x, y, f0, f1, f2, f3, t0, t1, t2, t3, e1, e2, e3, _, _, _, e4, _⟩ := bytes4_form h3 hs4
  have hbody : ∃ r, (ptPacket p h d).body = [b8 (h.src / 256), b8 h.src, b8 (h.dst / 256), b8 h.dst] ++ r := by
    simp only [ptPacket, ptBody, ptBd, two]
    split
    · exact ⟨_, by simp only [List.append_assoc]; rfl⟩
    · exact ⟨_, by simp only [List.append_assoc]; rfl⟩
  obtain ⟨r, hr⟩ := hbody
  rw [hr, ← List.append_assoc] at e3
  obtain ⟨r', hr'⟩ := take_more e3 (n := n) (by simp [head4]; omega)
  rw [hr']
  clear hr' e3 hr
  have hg := quote_good (head4 a b c e x y f0 f1 f2 f3 t0 t1 t2 t3 ++ [b8 (h.src / 256), b8 h.src, b8 (h.dst / 256), b8 h.dst] ++ r')
  generalize 65535 - sumB (quote (head4 a b c e x y f0 f1 f2 f3 t0 t1 t2 t3 ++ [b8 (h.src / 256), b8 h.src, b8 (h.dst / 256), b8 h.dst] ++ r') 0) = s at hg ⊢
  have e1' : p.src = [f0, f1, f2, f3] := e1
  have e2' : p.dst = [t0, t1, t2, t3] := e2
  have e4' : (e.toNat : Int) = h.proto := e4
  have hq : quote (head4 a b c e x y f0 f1 f2 f3 t0 t1 t2 t3 ++ [b8 (h.src / 256), b8 h.src, b8 (h.dst / 256), b8 h.dst] ++ r') s = 11 :: 0 :: b8 (s / 256) :: b8 s :: 0 :: 0 :: 0 :: 0 :: 69 :: 0 :: a :: b :: 0 :: 0 :: 64 :: 0 :: c :: e :: x :: y :: f0 :: f1 :: f2 :: f3 :: t0 :: t1 :: t2 :: t3 :: b8 (h.src / 256) :: b8 h.src :: b8 (h.dst / 256) :: b8 h.dst :: r' := rfl
  rw [hq] at hg ⊢
  have hE : ptErrs ⟨p.dst, p.src, 1, q, 11 :: 0 :: b8 (s / 256) :: b8 s :: 0 :: 0 :: 0 :: 0 :: 69 :: 0 :: a :: b :: 0 :: 0 :: 64 :: 0 :: c :: e :: x :: y :: f0 :: f1 :: f2 :: f3 :: t0 :: t1 :: t2 :: t3 :: b8 (h.src / 256) :: b8 h.src :: b8 (h.dst / 256) :: b8 h.dst :: r'⟩ = true := by
    rw [ptErrs_iff, e1', e2']
    refine ⟨by simp, rfl, .inl ⟨rfl, rfl, .inr rfl⟩⟩
  unfold ptQuoted
  rw [if_neg (by rw [hE]; simp), if_pos (by simp only; rw [e2']; rfl), if_neg (by simp only; rw [hg]; simp)]
  simp only [List.getD_cons_zero, List.getD_cons_succ, List.length_cons, w16_b8 (n := h.src) (by omega), w16_b8 (n := h.dst) (by omega)]
  rw [if_neg (by
    have h69 : (69 : UInt8).toNat = 69 := rfl
    omega), e4', e1', e2']
  rfl
end Go.Proofs.Ytbjolilknkbehaa
