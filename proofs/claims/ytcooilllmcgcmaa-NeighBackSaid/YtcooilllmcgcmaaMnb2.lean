/- Plain laws of chapter 4. No program in sight. -/
import Derived.Test.YtcooilllmcgcmaaMnb
import Derived.Test.YtcooilllmcgcmaaMpt2
set_option linter.unusedSimpArgs false
set_option linter.unusedVariables false
namespace Go.Proofs.Ytcooilllmcgcmaa
open Ae (b8 b8_toNat b8_byte b8_toNatN)

theorem et_dec {f : Fm} (h : f.ok = true) : etDecode f.bytes = (f, 0) := by
  rw [Fm.ok_iff] at h
  obtain ⟨⟨a0, a1, a2, a3, a4, a5⟩, ⟨b0, b1, b2, b3, b4, b5⟩, ty, body⟩ := f
  simp only at h
  have hw := w16_b8 (n := ty) (by omega)
  have e : Fm.bytes ⟨⟨a0, a1, a2, a3, a4, a5⟩, ⟨b0, b1, b2, b3, b4, b5⟩, ty, body⟩ = a0 :: a1 :: a2 :: a3 :: a4 :: a5 :: b0 :: b1 :: b2 :: b3 :: b4 :: b5 :: b8 (ty / 256) :: b8 ty :: body := rfl
  rw [e]
  unfold etDecode
  rw [if_neg (by simp only [List.length_cons]; omega), if_neg (by simp only [List.getD_cons_zero, List.getD_cons_succ, hw]; omega)]
  simp only [mcAt, List.getD_cons_zero, List.getD_cons_succ, hw]
  rfl
theorem ip_dec {P : Ip} (h : ipOk P = true) : ipDecode (ipBytes P) = (P, 0) := by
  have := dec_enc h []
  rwa [List.append_nil] at this
theorem ip6_len {P : Ip} (hs : P.src.length = 16) (hd : P.dst.length = 16) : (ipBytes P).length = 40 + P.body.length := by
  unfold ipBytes; rw [if_pos hs]; unfold ipBytes6
  simp only [List.length_append, List.length_cons, List.length_nil]; omega
theorem nbIp_ok {k fl op : UInt8} {tg : List UInt8} {m : Mc} {src dst : List UInt8} (htg : tg.length = 16) (hs : src.length = 16) (hd : dst.length = 16) : ipOk (nbIp k fl op tg m src dst) = true := by
  rw [ipOk_iff]
  simp only [nbIp, nbBody_len htg]
  omega
theorem nbNd_some {k fl op : UInt8} {tg : List UInt8} {m card : Mc} {src dst : List UInt8} (htg : tg.length = 16) (hs : src.length = 16) (hd : dst.length = 16) :
    nbNd k fl op tg m card src dst = some (Fm.bytes ⟨card, m, 34525, ipBytes (nbIp k fl op tg m src dst)⟩) ∧ Fm.ok ⟨card, m, 34525, ipBytes (nbIp k fl op tg m src dst)⟩ = true := by
  have h := nbIp_ok (k := k) (fl := fl) (op := op) (m := m) htg hs hd
  have hl := ip6_len (P := nbIp k fl op tg m src dst) hs hd
  have hb : (nbIp k fl op tg m src dst).body.length = 32 := nbBody_len htg
  have hok : Fm.ok ⟨card, m, 34525, ipBytes (nbIp k fl op tg m src dst)⟩ = true := by
    rw [Fm.ok_iff]; simp only; omega
  refine ⟨?_, hok⟩
  unfold nbNd ipEncode
  rw [if_pos h]
  simp only
  unfold etEncode
  rw [if_pos hok]
theorem nb_good {k fl op : UInt8} {tg : List UInt8} {m : Mc} {src dst : List UInt8} (htg : tg.length = 16) :
    sumB (pseudoL src dst 58 32 ++ (nbIp k fl op tg m src dst).body) = 65535 := by
  have hE := pseudoL_even src dst 58 32
  have hl := nbBody_len (kind := k) (flags := fl) (opt := op) (m := m) (s := 0) htg
  have := good_slot (A := pseudoL src dst 58 32 ++ [k, 0]) (B := [fl, 0, 0, 0] ++ tg ++ [op, 1] ++ m.bytes) (s := nbSum k fl op tg m src dst) (by simp; omega) (.inl (by
    unfold nbSum; rw [hl]; unfold nbBody; simp only [List.append_assoc]; rfl))
  simp only [nbIp, nbBody]
  simp only [List.append_assoc] at this ⊢
  exact this
theorem nbRead_ip {card m : Mc} {P : Ip} (h : ipOk P = true) (hs : P.src.length = 16) (hp : P.proto = 58) (ht : P.ttl = 255) (hb : P.body.length = 32) : nbRead ⟨card, m, 34525, ipBytes P⟩ = nbReadP P := by
  unfold nbRead nbReadNd
  simp only
  rw [if_neg (by omega), if_pos trivial, ip_dec h, if_neg]
  simp only; omega
theorem nbReadP_tell {fl : UInt8} {tg : List UInt8} {m : Mc} {src dst : List UInt8} (htg : tg.length = 16) :
    nbReadP (nbIp 136 fl 2 tg m src dst) = (⟨2, m, tg, dst, decide (fl.toNat / 64 % 2 = 1)⟩, 0) := by
  have hg := nb_good (k := 136) (fl := fl) (op := 2) (m := m) (src := src) (dst := dst) htg
  unfold nbReadP
  have hbody : (nbIp 136 fl 2 tg m src dst).body = nbBody 136 fl 2 tg m (nbSum 136 fl 2 tg m src dst) := rfl
  obtain ⟨_, _, _, _, _, _, _, _, _, _, _, _, _, _, _, _, rfl⟩ := list16 htg
  obtain ⟨m0, m1, m2, m3, m4, m5⟩ := m
  rw [if_neg (by rw [hbody]; rw [show ∀ a b : Nat, (a ≠ b) = ¬ (a = b) from fun _ _ => rfl]; simp [nbBody, two, Mc.bytes, nbAsks, nbTells]), if_neg (by rw [show (nbIp 136 fl 2 _ _ src dst).src = src from rfl, show (nbIp 136 fl 2 _ _ src dst).dst = dst from rfl, hg]; simp), if_neg (by rw [hbody]; simp [nbBody, two, Mc.bytes, nbAsks])]
  rw [hbody]
  simp [nbBody, two, Mc.bytes, mcAt, nbIp]
theorem nbReadP_ask {tg : List UInt8} {m : Mc} {src dst : List UInt8} (htg : tg.length = 16) :
    nbReadP (nbIp 135 0 1 tg m src dst) = (⟨1, m, src, tg, false⟩, 0) := by
  have hg := nb_good (k := 135) (fl := 0) (op := 1) (m := m) (src := src) (dst := dst) htg
  unfold nbReadP
  have hbody : (nbIp 135 0 1 tg m src dst).body = nbBody 135 0 1 tg m (nbSum 135 0 1 tg m src dst) := rfl
  obtain ⟨_, _, _, _, _, _, _, _, _, _, _, _, _, _, _, _, rfl⟩ := list16 htg
  obtain ⟨m0, m1, m2, m3, m4, m5⟩ := m
  rw [if_neg (by rw [hbody]; simp [nbBody, two, Mc.bytes, nbAsks, nbTells]), if_neg (by rw [show (nbIp 135 0 1 _ _ src dst).src = src from rfl, show (nbIp 135 0 1 _ _ src dst).dst = dst from rfl, hg]; simp), if_pos (by rw [hbody]; simp [nbBody, two, Mc.bytes, nbAsks])]
  rw [hbody]
  simp [nbBody, two, Mc.bytes, mcAt, nbIp]
theorem ip6_split (P : Ip) (hs : P.src.length = 16) (hd : P.dst.length = 16) : ∃ H : List UInt8, H.length = 40 ∧ ∀ B : List UInt8, B.length = P.body.length → ipBytes ⟨P.src, P.dst, P.proto, P.ttl, B⟩ = H ++ B := by
  refine ⟨[96, 0, 0, 0, b8 ((P.body.length : Int) / 256), b8 (P.body.length : Int), b8 P.proto, b8 P.ttl] ++ P.src ++ P.dst, by simp; omega, fun B hB => ?_⟩
  unfold ipBytes; rw [if_pos hs]; unfold ipBytes6; rw [hB]
theorem nb_turned {fl : UInt8} {tg : List UInt8} {m card : Mc} {src dst : List UInt8} (htg : tg.length = 16) (hs : src.length = 16) (hd : dst.length = 16) {k : Nat} (hk : k < 32) {z : UInt8} (hz : z ≠ 0)
    {x : List UInt8} (hx : x = Fm.bytes ⟨card, m, 34525, ipBytes (nbIp 136 fl 2 tg m src dst)⟩) :
    ∃ Q e, x.set (54 + k) (x.getD (54 + k) 0 ^^^ z) = Fm.bytes ⟨card, m, 34525, ipBytes Q⟩ ∧ Fm.ok ⟨card, m, 34525, ipBytes Q⟩ = true ∧ nbRead ⟨card, m, 34525, ipBytes Q⟩ = (noNt, e) ∧ (e = 40 ∨ e = 41) := by
  have hok := nbIp_ok (k := 136) (fl := fl) (op := 2) (m := m) htg hs hd
  have hg := nb_good (k := 136) (fl := fl) (op := 2) (m := m) (src := src) (dst := dst) htg
  have hbl : (nbIp 136 fl 2 tg m src dst).body.length = 32 := nbBody_len htg
  have h1 : (nbIp 136 fl 2 tg m src dst).src = src := rfl
  have h2 : (nbIp 136 fl 2 tg m src dst).dst = dst := rfl
  have h3 : (nbIp 136 fl 2 tg m src dst).proto = 58 := rfl
  have h4 : (nbIp 136 fl 2 tg m src dst).ttl = 255 := rfl
  generalize nbIp 136 fl 2 tg m src dst = P at *
  subst h1 h2
  obtain ⟨H, hH, hB⟩ := ip6_split P hs hd
  have hP := hB P.body rfl
  have hl : (P.body.set k (P.body.getD k 0 ^^^ z)).length = 32 := by simp; exact hbl
  refine ⟨⟨P.src, P.dst, P.proto, P.ttl, P.body.set k (P.body.getD k 0 ^^^ z)⟩, ?_⟩
  have hQ := hB (P.body.set k (P.body.getD k 0 ^^^ z)) (by simp)
  have hP' : ipBytes P = H ++ P.body := hP
  have hQok : ipOk ⟨P.src, P.dst, P.proto, P.ttl, P.body.set k (P.body.getD k 0 ^^^ z)⟩ = true := by
    rw [ipOk_iff] at hok ⊢; simp only [List.length_set]; exact hok
  have hfr : ∀ b : List UInt8, Fm.bytes ⟨card, m, 34525, b⟩ = (card.bytes ++ m.bytes ++ [b8 (34525 / 256), b8 34525]) ++ b := fun b => rfl
  have h14 : (card.bytes ++ m.bytes ++ [b8 (34525 / 256), b8 34525]).length = 14 := rfl
  have hset : x.set (54 + k) (x.getD (54 + k) 0 ^^^ z) = Fm.bytes ⟨card, m, 34525, ipBytes ⟨P.src, P.dst, P.proto, P.ttl, P.body.set k (P.body.getD k 0 ^^^ z)⟩⟩ := by
    rw [hx, hfr, hfr, hQ, hP', ← List.append_assoc, ← List.append_assoc]
    generalize hA : (card.bytes ++ m.bytes ++ [b8 (34525 / 256), b8 34525]) ++ H = A
    have hAl : A.length = 54 := by rw [← hA, List.length_append, h14, hH]
    rw [show 54 + k = A.length + k by omega, getD_app_r, List.set_append_right _ _ (by omega), Nat.add_sub_cancel_left]
  have hread : nbRead ⟨card, m, 34525, ipBytes ⟨P.src, P.dst, P.proto, P.ttl, P.body.set k (P.body.getD k 0 ^^^ z)⟩⟩ = nbReadP ⟨P.src, P.dst, P.proto, P.ttl, P.body.set k (P.body.getD k 0 ^^^ z)⟩ := nbRead_ip hQok hs h3 h4 hl
  have hbad : sumB (pseudoL P.src P.dst 58 32 ++ P.body.set k (P.body.getD k 0 ^^^ z)) ≠ 65535 := by
    have := sum_turned (l := pseudoL P.src P.dst 58 32 ++ P.body) (k := (pseudoL P.src P.dst 58 32).length + k) (y := P.body.getD k 0 ^^^ z) (by rw [List.length_append]; omega)
      (by rw [getD_app_r]; exact xor_ne hz) hg
    rwa [List.set_append_right _ _ (by omega), Nat.add_sub_cancel_left] at this
  have hfok : Fm.ok ⟨card, m, 34525, ipBytes ⟨P.src, P.dst, P.proto, P.ttl, P.body.set k (P.body.getD k 0 ^^^ z)⟩⟩ = true := by
    rw [Fm.ok_iff]; simp only [hQ, List.length_append, hH, hl]; omega
  rw [hread]
  unfold nbReadP
  simp only
  split
  · exact ⟨40, hset, hfok, rfl, .inl rfl⟩
  · exact ⟨41, hset, hfok, rfl, .inr rfl⟩
theorem nbArp_some {k : UInt8} {t m o : Mc} {a b : List UInt8} (ha : a.length = 4) (hb : b.length = 4) :
    nbArp k t m a o b = some (Fm.bytes ⟨t, m, 2054, nbArpB k m a o b⟩) ∧ Fm.ok ⟨t, m, 2054, nbArpB k m a o b⟩ = true ∧ (nbArpB k m a o b).length = 28 := by
  have hl : (nbArpB k m a o b).length = 28 := by unfold nbArpB Mc.bytes; simp; omega
  have hok : Fm.ok ⟨t, m, 2054, nbArpB k m a o b⟩ = true := by rw [Fm.ok_iff]; simp only; omega
  exact ⟨by unfold nbArp etEncode; rw [if_pos hok], hok, hl⟩
theorem nbReadArp_is {k : UInt8} {m o : Mc} {a b : List UInt8} (ha : a.length = 4) (hb : b.length = 4) (hk : k = 1 ∨ k = 2) (l : List UInt8) :
    nbReadArp (nbArpB k m a o b ++ l) = (⟨(k.toNat : Int), m, a, b, decide (k.toNat = 2)⟩, 0) := by
  obtain ⟨_, _, _, _, rfl⟩ := list4 ha
  obtain ⟨_, _, _, _, rfl⟩ := list4 hb
  obtain ⟨m0, m1, m2, m3, m4, m5⟩ := m
  obtain ⟨o0, o1, o2, o3, o4, o5⟩ := o
  unfold nbReadArp
  rw [if_neg]
  · simp [nbArpB, Mc.bytes, mcAt]
  · rcases hk with rfl | rfl <;> simp [nbArpB, Mc.bytes, nbStart]
theorem nbReadArp_cut {s : List UInt8} (h : s.length < 28) : nbReadArp s = (noNt, 40) := by
  unfold nbReadArp; rw [if_pos (.inl h)]
theorem fm_len (f : Fm) : f.bytes.length = 14 + f.body.length := by
  unfold Fm.bytes Mc.bytes; simp; omega
/-- what was written is a frame that says this -/
def Says (x : List UInt8) (f : Fm) (n : Nt) : Prop := etDecode x = (f, 0) ∧ nbRead f = (n, 0) ∧ x.length ≤ 1514 ∧ f.body.length ≤ 1500
theorem says_nd {k fl op : UInt8} {tg : List UInt8} {m card : Mc} {src dst : List UInt8} {n : Nt} (htg : tg.length = 16) (hs : src.length = 16) (hd : dst.length = 16) (hr : nbReadP (nbIp k fl op tg m src dst) = (n, 0)) :
    ∃ x, nbNd k fl op tg m card src dst = some x ∧ Says x ⟨card, m, 34525, ipBytes (nbIp k fl op tg m src dst)⟩ n ∧ x = Fm.bytes ⟨card, m, 34525, ipBytes (nbIp k fl op tg m src dst)⟩ ∧ x.length = 86 := by
  obtain ⟨h1, h2⟩ := nbNd_some (k := k) (fl := fl) (op := op) (m := m) (card := card) htg hs hd
  have hl := ip6_len (P := nbIp k fl op tg m src dst) hs hd
  have hb : (nbIp k fl op tg m src dst).body.length = 32 := nbBody_len htg
  have hx := fm_len ⟨card, m, 34525, ipBytes (nbIp k fl op tg m src dst)⟩
  simp only at hx
  refine ⟨_, h1, ⟨et_dec h2, ?_, by omega, by simp only; omega⟩, rfl, by omega⟩
  rw [nbRead_ip (nbIp_ok htg hs hd) hs rfl rfl hb, hr]
theorem says_arp {k : UInt8} {t m o : Mc} {a b : List UInt8} (ha : a.length = 4) (hb : b.length = 4) (hk : k = 1 ∨ k = 2) :
    ∃ x, nbArp k t m a o b = some x ∧ Says x ⟨t, m, 2054, nbArpB k m a o b⟩ ⟨(k.toNat : Int), m, a, b, decide (k.toNat = 2)⟩ := by
  obtain ⟨h1, h2, h3⟩ := nbArp_some (k := k) (t := t) (m := m) (o := o) ha hb
  have hx := fm_len ⟨t, m, 2054, nbArpB k m a o b⟩
  simp only at hx
  refine ⟨_, h1, et_dec h2, ?_, by omega, by simp only; omega⟩
  unfold nbRead
  rw [if_pos rfl]
  have := nbReadArp_is (m := m) (o := o) ha hb hk []
  rwa [List.append_nil] at this
theorem near_len {b : List UInt8} (h : b.length = 16) : (nbNear b).length = 16 := by
  unfold nbNear; rw [if_pos h]; simp; omega
/-- asked, told, claimed -/
theorem says_all (m t : Mc) (a b : List UInt8) : (nbAsk m a b = none) ∨ (∃ x y z f g h n, nbAsk m a b = some x ∧ nbTell m a t b = some y ∧ nbClaim m a = some z ∧
    Says x f ⟨1, m, a, b, false⟩ ∧ Says y g ⟨2, m, a, b, true⟩ ∧ Says z h n ∧ n.mac = m ∧ n.addr = a ∧ n.asked = false ∧ ((a.length = 16 ∧ n.kind = 2) ∨ (a.length = 4 ∧ n.kind = 1 ∧ n.target = a))) := by
  rcases nbAsk_cases m a b with ⟨h, e⟩ | ⟨⟨ha, hb⟩, e⟩ | ⟨⟨ha, hb⟩, e⟩
  · exact .inl e
  · right
    obtain ⟨x, x1, x2, _⟩ := says_nd (k := 135) (fl := 0) (op := 1) (tg := b) (m := m) (card := (etMany (nbNear b)).1) (src := a) (dst := nbNear b) hb ha (near_len hb) (nbReadP_ask hb)
    obtain ⟨y, y1, y2, _⟩ := says_nd (k := 136) (fl := 96) (op := 2) (tg := a) (m := m) (card := t) (src := a) (dst := b) ha ha hb (nbReadP_tell ha)
    obtain ⟨z, z1, z2, _⟩ := says_nd (k := 136) (fl := 32) (op := 2) (tg := a) (m := m) (card := (etMany nbEvery).1) (src := a) (dst := nbEvery) ha ha rfl (nbReadP_tell ha)
    refine ⟨x, y, z, _, _, _, _, e.trans x1, ?_, ?_, x2, y2, z2, rfl, rfl, rfl, .inl ⟨ha, rfl⟩⟩
    · rcases nbTell_cases m a t b with ⟨h, _⟩ | ⟨_, e⟩ | ⟨⟨h, _⟩, _⟩
      · exact absurd ⟨.inr ha, by omega⟩ h
      · exact e.trans y1
      · omega
    · rcases nbClaim_cases m a with ⟨h, _⟩ | ⟨_, e⟩ | ⟨h, _⟩
      · omega
      · exact e.trans z1
      · omega
  · right
    obtain ⟨x, x1, x2⟩ := says_arp (k := 1) (t := allMc) (m := m) (o := noMc) (a := a) (b := b) ha hb (.inl rfl)
    obtain ⟨y, y1, y2⟩ := says_arp (k := 2) (t := t) (m := m) (o := t) (a := a) (b := b) ha hb (.inr rfl)
    obtain ⟨z, z1, z2⟩ := says_arp (k := 1) (t := allMc) (m := m) (o := noMc) (a := a) (b := a) ha ha (.inl rfl)
    refine ⟨x, y, z, _, _, _, _, e.trans x1, ?_, ?_, x2, y2, z2, rfl, rfl, rfl, .inr ⟨ha, rfl, rfl⟩⟩
    · rcases nbTell_cases m a t b with ⟨h, _⟩ | ⟨⟨h, _⟩, _⟩ | ⟨_, e⟩
      · exact absurd ⟨.inl ha, by omega⟩ h
      · omega
      · exact e.trans y1
    · rcases nbClaim_cases m a with ⟨h, _⟩ | ⟨h, _⟩ | ⟨_, e⟩
      · omega
      · omega
      · exact e.trans z1
end Go.Proofs.Ytcooilllmcgcmaa
