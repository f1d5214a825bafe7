/- advert.Decode: its contract. -/
import Derived.Test.YtbjolilknkbehaaFdg
set_option linter.unusedSimpArgs false
set_option linter.unusedVariables false
set_option maxRecDepth 100000
namespace Go.Proofs.Ytbjolilknkbehaa
open Go Ae
theorem adDecode_no {p : Ip} (h : (adDecode p).2 ≠ 0) : (adDecode p).1 = noAdv := by
  generalize hr : adDecode p = r at h ⊢
  unfold adDecode at hr
  repeat' split at hr
  all_goals subst hr
  all_goals first
    | rfl
    | exact absurd rfl h
end Go.Proofs.Ytbjolilknkbehaa
namespace Go.Proofs.Ytbjolilknkbehaa.Ae
open Go Go.RowKit
/-- an advertisement, and an error -/
def decV (a : Adv) (e : Int) : AVal := .tup [.agg [.int .i64 a.id, .int .i64 a.pri, .int .i64 a.every, .ro a.addrs.length 1 (fun i => [.str (a.addrs.getD i [])])], .int .i64 e]
theorem ResLe.tup1 {A A2 v : AVal} {H H2 : Hp} (h : ResLe A H A2 H2) (hv : closed v = true) : ResLe (.tup [A, v]) H (.tup [A2, v]) H2 := by
  intro R w m x hS hx
  cases hx with
  | tup _ xs h1 h2 =>
    match xs, h1, h2 with
    | [y1, y2], _, h2 =>
      obtain ⟨R2, m2, F, V⟩ := h R w m y1 hS (h2 0 _ _ rfl rfl)
      refine ⟨R2, m2, F, .tup _ _ rfl fun i v' x' hv' hx' => ?_⟩
      match i with
      | 0 => cases hv'; cases hx'; exact V
      | 1 => cases hv'; cases hx'; exact ((h2 1 _ _ rfl rfl).far F hS).closed hv
theorem rows1 (l : List (List UInt8)) (i : Nat) (h : i < l.length) : rowsOf 1 ((((l.map AVal.str).drop 0).take (l.length * 1))) i = [.str (l.getD i [])] := by
  have e : ((l.map AVal.str).drop 0).take (l.length * 1) = l.map AVal.str := by
    rw [List.drop_zero]
    exact List.take_of_length_le (by simp)
  rw [e]
  unfold rowsOf
  rw [Nat.mul_one, List.drop_eq_getElem_cons (by simpa using h), List.take_succ_cons, List.take_zero, List.getD_eq_getElem?_getD, List.getElem?_eq_getElem h]
  simp
theorem inv_norm_eq {nt : Nat} {R0 : Nat → Prop} {w0 : World} {m0 : Mp} {H0 : Hp} {a : Act} {w : World} {s t : St} (hI : Inv nt R0 w0 m0 H0 a w s) (hS0 : Sim R0 w0 m0 H0) (hl : H0.length = 0) {live : List Nat} (h : normK 0 live s (fun s => s = t)) : Inv nt R0 w0 m0 H0 a w t := by
  have h2 := hI.norm hS0 live
  rw [hl] at h2
  rw [normK_iff] at h
  rw [← h]
  exact h2
theorem ret_post {K : AVal → Hp → Prop} {s : St} {fn : Func} (h : endK Try.prog 0 fn.results.toList K s) {R0 : Nat → Prop} {w0 : World} {m0 : Mp} {H0 : Hp} (hl : H0.length = 0) (hS0 : Sim R0 w0 m0 H0) {R : Nat → Prop} {w : World} {m : Mp} {a : Act} (hF : Far R0 w0 m0 H0 R w m s.heap) (hE : EnvR R w m s.heap s.env a) :
    ∃ v H', K v H' ∧ ∃ x m', (results fn a.tmps).run Try.prog w = .ok x w ∧ Far R0 w0 m0 H0 R w m' H' ∧ VR R w m' H' v x := by
  unfold endK at h
  split at h
  · rename_i p vs hr
    obtain ⟨hp, hret⟩ := andP_iff h
    unfold retK at hret
    rw [forceL_iff] at hret
    obtain ⟨x, hx1, hx2⟩ := results_run hF.sim hE hr hp
    obtain ⟨hn, hpp⟩ := seek_ok s.heap H0.length [retV vs]
    rw [hl] at hn hpp
    exact ⟨_, _, hret, x, _, hx1, hF.restrict hS0 hn (fun i hi => hpp i (by omega)), hx2.ren (sub_num _ _ _)⟩
  · exact h.elim
theorem n1_eq (src dst : List UInt8) (proto ttl : Int) (body : List UInt8) : normK 0 [1, 2, 3] ⟨[(1, .rop (dcP src dst proto ttl body)), (2, .ptr 1 0), (3, .int .i64 0)], hset 0 .dead [.vals (dcP src dst proto ttl body), .vals dcZ]⟩ (fun s => s = dcS1 src dst proto ttl body) = (dcS1 src dst proto ttl body = dcS1 src dst proto ttl body) := by kernel_rfl
theorem n2_eq (src dst : List UInt8) (proto ttl : Int) (body : List UInt8) : normK 0 [1, 2, 3, 4, 5] ⟨[(1, .rop (dcP src dst proto ttl body)), (2, .ptr 0 0), (3, .int .i64 0), (4, .rop [.str body]), (5, .rop [.int .i64 (src.length : Int)])], hset 2 .dead (hset 1 .dead [.vals dcZ, .vals [.str body], .vals [.int .i64 (src.length : Int)]])⟩ (fun s => s = dcS2f src dst proto ttl body) = (dcS2f src dst proto ttl body = dcS2f src dst proto ttl body) := by kernel_rfl
theorem n3_eq (src dst : List UInt8) (proto ttl : Int) (body : List UInt8) : normK 0 [1, 2, 3, 4, 5, 6] ⟨(dcS3f src dst proto ttl body).env, hset 1 .dead (dcS3 src dst proto ttl body).heap⟩ (fun s => s = dcS3f src dst proto ttl body) = (dcS3f src dst proto ttl body = dcS3f src dst proto ttl body) := by kernel_rfl
theorem dcB_of : (Try.f13).body = some dcB := by kernel_rfl
theorem dec_fail (src dst : List UInt8) (proto ttl : Int) (body : List UInt8) (h : (adDecode ⟨src, dst, proto, ttl, body⟩).2 ≠ 0) : ResLe (.tup [.agg dcZ, .int .i64 (adDecode ⟨src, dst, proto, ttl, body⟩).2]) [] (decV (adDecode ⟨src, dst, proto, ttl, body⟩).1 (adDecode ⟨src, dst, proto, ttl, body⟩).2) [.dead] := by
  rw [adDecode_no h]
  generalize (adDecode ⟨src, dst, proto, ttl, body⟩).2 = e
  exact (ResLe.val (VE.tup (.cons (.agg (.cons .refl (.cons .refl (.cons .refl (.cons VE.nil_ro .nil))))) (.cons .refl .nil)))).trans (ResLe.pad rfl)
theorem dec_done (i j q : Int) (l : List (List UInt8)) : ResLe (.tup [.agg [.int .i64 i, .int .i64 j, .int .i64 q, .sl 0 0 l.length 1], .int .i64 0]) [.flat (l.map AVal.str)] (decV ⟨i, j, q, l⟩ 0) [.dead] := by
  have h1 := ResLe.tup1 (v := .int .i64 0) (ResLe.frz (pre := [.int .i64 i, .int .i64 j, .int .i64 q]) (cs := l.map AVal.str) (k := l.length) (sz := 1) (by omega) rfl) rfl
  refine h1.trans (ResLe.val (VE.tup (.cons (.agg (.cons .refl (.cons .refl (.cons .refl (.cons (VE.ro fun i hi => rows1 l i hi) .nil))))) (.cons .refl .nil))))
theorem awp_seq {X : Cx} {x y : Code} {s : St} {K : Post} : awp X (.seq x y) s K = awp X x s (seqK (fun s' => awp X y s' K) K) := rfl
theorem dcK_seq (G : St → Prop) (K : AVal → Hp → Prop) : dcK G K = seqK (fun s => normK 0 [2, 9, 57] s G) (dcK G K) := by
  funext e s
  cases e <;> rfl
set_option maxHeartbeats 2000000 in
attribute [local irreducible] awp in
theorem decode_gives (src dst : List UInt8) (proto ttl : Int) (body : List UInt8) (hb : body.length ≤ 140737488351232) : Gives Try.prog 13 [.agg (dcP src dst proto ttl body)] [] (decV (adDecode ⟨src, dst, proto, ttl, body⟩).1 (adDecode ⟨src, dst, proto, ttl, body⟩).2) [.dead] := by
  refine ⟨⟨_, Try.func13, by decide +kernel, by decide +kernel⟩, fun R0 w0 m0 xs hS0 hx => ?_⟩
  obtain ⟨u, rfl, hu⟩ := hx.one
  have hD := draw_sound (X := dcX) Tdc_sound mixed
  have hnt : dcX.nt = 66 := by kernel_rfl
  refine callsIn_wide.1 (callsIn_of_wp_marks (F := Fence.wide) (n := 10) Try.func13 dcB_of trivial ?_ rfl)
  have hI0 : Inv dcX.nt R0 w0 m0 [] { tmps := [u].toArray ++ Array.replicate ((Try.f13).ntmps - [u].toArray.size) undef, defers := [] } w0 ⟨argEnv 0 [.agg (dcP src dst proto ttl body)], []⟩ := by
    refine ⟨⟨R0, m0, .refl hS0, fun t => ?_⟩, ?_, rfl⟩
    · rcases argEnv_get [AVal.agg (dcP src dst proto ttl body)] 0 t with h | ⟨_, v, h1, h2⟩
      · rw [h]; exact .undef _
      · rw [h2]
        rw [Nat.sub_zero] at h1
        have ht : t = 0 := by have := (List.getElem?_eq_some_iff.1 h1).1; simp at this; exact this
        subst ht
        simp at h1
        subst h1
        simpa [Array.getD] using hu
    · show ([u].toArray ++ Array.replicate ((Try.f13).ntmps - [u].toArray.size) undef).size = dcX.nt
      have : (Try.f13).ntmps = 66 := by kernel_rfl
      rw [hnt, this]; simp
  generalize ({ tmps := [u].toArray ++ Array.replicate ((Try.f13).ntmps - [u].toArray.size) undef, defers := [] } : Act) = a0 at hI0
  rw [dcB_is]
  -- the arguments' box
  refine seq_step (X := dcX) (H0 := []) Tdc_sound hD (K := fun _ _ => False) (by rw [dc0_eq]) rfl hS0 hI0 (fun s1 a1 w1 hk1 hI1 => ?_) (fun _ _ _ _ _ _ h _ _ => h.elim)
  have I1 := inv_norm_eq hI1 hS0 rfl hk1
  have I2 := I1.frz (k := 0) (cs := dcP src dst proto ttl body) (env' := [(1, .rop (dcP src dst proto ttl body)), (2, .ptr 1 0), (3, .int .i64 0)]) rfl rfl (fun t => by
    simp only [eget]
    cases Nat.beq t 1 with
    | true => exact .inr (.inr ⟨rfl, rfl⟩)
    | false => exact .inl rfl)
  have I3 := inv_norm_eq (t := dcS1 src dst proto ttl body) (live := [1, 2, 3]) I2 hS0 rfl (by rw [n1_eq])
  -- the shared variables
  refine seq_ok (X := dcX) (H0 := []) (dc1_ok src dst proto ttl body) rfl hS0 I3 fun a2 w2 I4 => ?_
  have I5 := I4.frz (k := 1) (cs := [.str body]) (env' := [(1, .rop (dcP src dst proto ttl body)), (2, .ptr 0 0), (3, .int .i64 0), (4, .rop [.str body]), (5, .ptr 2 0)]) rfl rfl (fun t => by
    simp only [eget]
    cases Nat.beq t 1 with
    | true => exact .inl rfl
    | false => cases Nat.beq t 2 with
      | true => exact .inl rfl
      | false => cases Nat.beq t 3 with
        | true => exact .inl rfl
        | false => cases Nat.beq t 4 with
          | true => exact .inr (.inr ⟨rfl, rfl⟩)
          | false => exact .inl rfl)
  have I6 := I5.frz (k := 2) (cs := [.int .i64 (src.length : Int)]) (env' := [(1, .rop (dcP src dst proto ttl body)), (2, .ptr 0 0), (3, .int .i64 0), (4, .rop [.str body]), (5, .rop [.int .i64 (src.length : Int)])]) rfl rfl (fun t => by
    simp only [eget]
    cases Nat.beq t 1 with
    | true => exact .inl rfl
    | false => cases Nat.beq t 2 with
      | true => exact .inl rfl
      | false => cases Nat.beq t 3 with
        | true => exact .inl rfl
        | false => cases Nat.beq t 4 with
          | true => exact .inl rfl
          | false => cases Nat.beq t 5 with
            | true => exact .inr (.inr ⟨rfl, rfl⟩)
            | false => exact .inl rfl)
  have I7 := inv_norm_eq (t := dcS2f src dst proto ttl body) (live := [1, 2, 3, 4, 5]) I6 hS0 rfl (by rw [n2_eq])
  -- 'at'
  refine seq_step (X := dcX) (H0 := []) Tdc_sound hD (K := fun _ _ => False) (by rw [dc2_eq]) rfl hS0 I7 (fun s3 a3 w3 hk3 hI3 => ?_) (fun _ _ _ _ _ _ h _ _ => h.elim)
  have I8 := inv_norm_eq hI3 hS0 rfl hk3
  have I9 := I8.frz (k := 1) (cs := [.fn 21 [] [.rop [.str body]]]) (env' := (dcS3f src dst proto ttl body).env) rfl rfl (fun t => by
    simp only [dcS3, dcS3f, eget]
    cases Nat.beq t 1 with
    | true => exact .inl rfl
    | false => cases Nat.beq t 2 with
      | true => exact .inl rfl
      | false => cases Nat.beq t 3 with
        | true => exact .inl rfl
        | false => cases Nat.beq t 4 with
          | true => exact .inl rfl
          | false => cases Nat.beq t 5 with
            | true => exact .inl rfl
            | false => cases Nat.beq t 6 with
              | true => exact .inr (.inr ⟨rfl, rfl⟩)
              | false => exact .inl rfl)
  have I10 := inv_norm_eq (t := dcS3f src dst proto ttl body) (live := [1, 2, 3, 4, 5, 6]) I9 hS0 rfl ((n3_eq src dst proto ttl body).mpr rfl)
  clear I1 I2 I3 I4 I5 I6 I7 I8 I9 hI0 hI1 hI3 hk1 hk3
  obtain ⟨p, hp⟩ : ∃ p : Ip, p = ⟨src, dst, proto, ttl, body⟩ := ⟨_, rfl⟩
  have hpre := dcPre_p src dst proto ttl body hb (fun s => s = dcSt p ∧ (adDecode p).2 = 0 ∧ dcOk p ∧ (adDecode p).1 = ⟨(body.getD 1 0).toNat, (body.getD 2 0).toNat, w16 (body.getD 4 0) (body.getD 5 0), parts src.length (body.drop 8) (body.getD 3 0).toNat⟩)
    (fun v H' => ResLe v H' (decV (adDecode p).1 (adDecode p).2) [.dead]) (by
      subst hp
      split
      · rename_i h0
        exact fun h1 h2 => ⟨rfl, h0, h1, h2⟩
      · rename_i h0
        exact dec_fail src dst proto ttl body h0)
  rw [← hp]
  -- how it may end
  have ends : ∀ (e : AExit) (s' : St) (a' : Act) (w' : World) (e1 : Exit), e ≠ .normal → dcK (fun s => s = dcSt p ∧ (adDecode p).2 = 0 ∧ dcOk p ∧ (adDecode p).1 = ⟨(body.getD 1 0).toNat, (body.getD 2 0).toNat, w16 (body.getD 4 0) (body.getD 5 0), parts src.length (body.drop 8) (body.getD 3 0).toNat⟩) (fun v H' => ResLe v H' (decV (adDecode p).1 (adDecode p).2) [.dead]) e s' → ExR e e1 → Inv dcX.nt R0 w0 m0 [] a' w' s' →
      bodyPostM Fence.wide 10 Try.prog Try.f13 (fun e w' => ∃ R' m' x, e = .returned x ∧ Far R0 w0 m0 [] R' w' m' [.dead] ∧ VR R' w' m' [.dead] (decV (adDecode p).1 (adDecode p).2) x) e1 a' w' := by
    intro e s' a' w' e1 hne hk he hI
    cases e with
    | normal => exact absurd rfl hne
    | exit i => exact hk.elim
    | ret =>
      cases he
      obtain ⟨⟨R, m, hF, hE⟩, _, hnd⟩ := hI
      obtain ⟨v, H', hK, x, m', h1, h2, h3⟩ := ret_post hk rfl hS0 hF hE
      obtain ⟨R2, m2, F2, V2⟩ := hK R w' m' x h2.sim h3
      show LeavesInM Fence.wide 10 Try.prog Try.f13 a'.tmps _ a'.defers .returning w'
      rw [hnd]
      exact ⟨x, h1, R2, m2, x, rfl, h2.trans F2, V2⟩
  unfold dcPre at hpre
  refine seq_step (X := dcX) (H0 := []) Tdc_sound hD (G := fun s => awp dcX (.seq dc4 dc5) s (dcK _ _)) (by rw [awp_seq] at hpre; exact hpre) rfl hS0 I10 (fun s4 a4 w4 hk4 hI4 => ?_) ends
  refine seq_step (X := dcX) (H0 := []) Tdc_sound hD (G := fun s => awp dcX dc5 s (dcK _ _)) (by rw [awp_seq] at hk4; exact hk4) rfl hS0 hI4 (fun s5 a5 w5 hk5 hI5 => ?_) ends
  refine wpIn_seq ?_
  refine seq_step (X := dcX) (H0 := []) Tdc_sound hD (G := fun s => normK 0 [2, 9, 57] s fun s => s = dcSt p ∧ (adDecode p).2 = 0 ∧ dcOk p ∧ (adDecode p).1 = ⟨(body.getD 1 0).toNat, (body.getD 2 0).toNat, w16 (body.getD 4 0) (body.getD 5 0), parts src.length (body.drop 8) (body.getD 3 0).toNat⟩) (by rw [dcK_seq] at hk5; exact hk5) rfl hS0 hI5 (fun s6 a6 w6 hk6 hI6 => ?_) (fun e s' a' w' e1 h1 h2 h3 h4 => by
    have := ends e s' a' w' e1 h1 h2 h3 h4
    cases e with
    | normal => exact absurd rfl h1
    | exit i => cases h3; exact this
    | ret => cases h3; exact this)
  rw [normK_iff] at hk6
  obtain ⟨k1, k2, k3, k4⟩ := hk6
  have I11 : Inv dcX.nt R0 w0 m0 [] a6 w6 (dcSt p) := inv_norm_eq (live := [2, 9, 57]) hI6 hS0 rfl (normK_iff.2 k1)
  subst hp
  obtain ⟨o1, o2, o3, o4⟩ := k3
  simp only at o1 o2 o3 o4 k4
  refine wpIn_block (rf_loop _ _ _ body src.length (body.getD 3 0).toNat o4 (by omega) o2 hb (H0 := []) rfl hS0 I11 (by omega) fun R m D W hD hRD hK hF hE => ?_)
  show dc6.wpIn Fence.wide 10 dcX.P _ _ W
  have hnd := I11.nod
  have hz := I11.size
  have hpl := parts_length src.length (body.drop 8) (body.getD 3 0).toNat
  have hfin : ResLe (.tup [.agg [.int .i64 ((body.getD 1 0).toNat : Int), .int .i64 ((body.getD 2 0).toNat : Int), .int .i64 (w16 (body.getD 4 0) (body.getD 5 0)), .sl 0 0 (parts src.length (body.drop 8) (body.getD 3 0).toNat).length 1], .int .i64 0]) [.flat ((parts src.length (body.drop 8) (body.getD 3 0).toNat).map AVal.str)] (decV (adDecode ⟨src, dst, proto, ttl, body⟩).1 (adDecode ⟨src, dst, proto, ttl, body⟩).2) [.dead] := by
    rw [k4, k2]
    exact dec_done _ _ _ _
  generalize parts src.length (body.drop 8) (body.getD 3 0).toNat = l at *
  cases l with
  | nil => rw [List.length_nil] at hpl; omega
  | cons y r =>
    have ev := (rf_end ((body.getD 1 0).toNat : Int) ((body.getD 2 0).toNat : Int) (w16 (body.getD 4 0) (body.getD 5 0)) body src.length (r.length + 1) ((y :: r).map AVal.str) (fun v H' => ResLe v H' (decV (adDecode ⟨src, dst, proto, ttl, body⟩).1 (adDecode ⟨src, dst, proto, ttl, body⟩).2) [.dead])).mpr hfin
    rw [dc6_is]
    refine wpIn_seq (wpIn_region_list ?_)
    obtain ⟨s', hk, hs⟩ := opsP_in (X := dcX) (F := Fence.wide) (n := 10) (fun _ => trivial) ops13_s ev
    refine hs R W m ⟨a6.tmps, { target := .collected D, args := #[] } :: a6.defers⟩ hF.sim hE hz _ (fun a' W' m' F2 E2 z2 d2 => ?_)
    refine wpIn_ret ?_
    show LeavesInM Fence.wide 10 Try.prog Try.f13 a'.tmps _ a'.defers .returning W'
    rw [d2, hnd]
    have hK' := (F2.others hF.sim).same D _ hK rfl
    obtain ⟨G1, vr⟩ := (hF.trans F2).grown (grownBy_putObj' W' D (.deferred none)) (fun r e => by cases e; exact ⟨hD, hRD, _, hK', rfl⟩)
    obtain ⟨v, H', hKv, x, m3, h1, h2, h3⟩ := ret_post hk rfl hS0 G1 (fun t => vr (E2 t))
    obtain ⟨R2, m2, F3, V3⟩ := hKv R _ m3 x h2.sim h3
    exact ⟨by simp, .inl ⟨D, _, rfl, run_takeDeferred hK', x, h1, R2, m2, x, rfl, h2.trans F3, V3⟩⟩
def decRow : Srow := fun args H K => match args, H with
  | [.agg [.str src, .str dst, .int .i64 proto, .int .i64 ttl, .str body]], [] => body.length ≤ 140737488351232 ∧ K (decV (adDecode ⟨src, dst, proto, ttl, body⟩).1 (adDecode ⟨src, dst, proto, ttl, body⟩).2) [.dead]
  | _, _ => False
theorem decode_row : RSound Try.prog 13 decRow := by
  intro args H K h
  unfold decRow at h
  split at h
  · exact ⟨_, _, h.2, decode_gives _ _ _ _ _ h.1⟩
  · exact h.elim
#print axioms decode_row
end Go.Proofs.Ytbjolilknkbehaa.Ae

