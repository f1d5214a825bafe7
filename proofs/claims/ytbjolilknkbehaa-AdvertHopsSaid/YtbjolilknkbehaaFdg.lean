/- advert.Decode: the loop over the body's addresses. -/
import Derived.Test.YtbjolilknkbehaaFdp
import Derived.Test.YtbjolilknkbehaaFdd
set_option linter.unusedSimpArgs false
set_option linter.unusedVariables false
set_option maxRecDepth 100000
namespace Go.Proofs.Ytbjolilknkbehaa.Ae
open Go Go.RowKit
noncomputable def dcR : Code := cAt [.r, .r, .r, .r, .r, .l, .r, .b] dcB
noncomputable def dc6 : Code := cAt [.r, .r, .r, .r, .r, .r] dcB
noncomputable def opsAt (c : Code) : Array Oper := match c with
  | .region _ ops _ => ops
  | _ => #[]
noncomputable def rfAssign : Code := match dcR with
  | .rangeFunc _ _ a _ => a
  | _ => .skip
noncomputable def rfBody : Code := match dcR with
  | .rangeFunc _ _ _ b => b
  | _ => .skip
noncomputable def ops11 : Array Oper := opsAt rfAssign
noncomputable def ops12 : Array Oper := match rfBody with
  | .block _ c => opsAt c
  | _ => #[]
noncomputable def ops13 : Array Oper := opsAt (cAt [.l] dc6)
theorem dcB_is : dcB = .seq dc0 (.seq dc1 (.seq dc2 (.seq dc3 (.seq dc4 (.seq (.seq dc5 (.block 2 dcR)) dc6))))) := by kernel_rfl
theorem dcR_is : dcR = .rangeFunc (.tmp 57) #[58] rfAssign rfBody := by kernel_rfl
theorem rfAssign_is : rfAssign = .region 11 ops11 false := by kernel_rfl
theorem rfBody_is : rfBody = .block 3 (.region 12 ops12 false) := by kernel_rfl
theorem dc6_is : dc6 = .seq (.region 13 ops13 false) .ret := by kernel_rfl
theorem ops11_s : simpleL ops11.toList = true := by kernel_rfl
noncomputable def o11 : Oper := (ops11[0]?).getD default
theorem ops11_is : ops11.toList = [o11] := by kernel_rfl
theorem o11_is : o11.guard = none ∧ o11.op = .assign (.tmp 58) ∧ o11.dst = some 10 := by
  refine ⟨?_, ?_, ?_⟩ <;> kernel_rfl
theorem ops12_s : simpleL ops12.toList = true := by kernel_rfl
theorem ops13_s : simpleL ops13.toList = true := by kernel_rfl
def rfE : Env := [(2, .ptr 0 0), (9, .ptr 1 0), (57, .fn 37 [] [.ptr 2 0, .ptr 3 0])]
def rfA (i j q : Int) (body : List UInt8) (n : Nat) (s : AVal) : Hp := [.vals dcZ, .vals [.int .i64 i, .int .i64 j, .int .i64 q, s], .vals [.str body], .vals [.int .i64 (n : Int)]]
set_option maxRecDepth 100000 in
theorem rf_first (i j q : Int) (body : List UInt8) (n : Nat) (x : List UInt8) (G : St → Prop) : opsP dcX ops12.toList ops12.toList ⟨(10, .str x) :: rfE, rfA i j q body n .nilS⟩ (fun s => egets s.env [2, 9, 57] = egets rfE [2, 9, 57] ∧ normK 0 [2, 9, 57] s G) = (
 (16 : Nat) ≤ (140737488355328 : Nat) ∧
 [AVal.ptr (0 : Nat) (0 : Nat), AVal.ptr (1 : Nat) (0 : Nat),
 AVal.fn 37 [] [AVal.ptr (2 : Nat) (0 : Nat), AVal.ptr (3 : Nat) (0 : Nat)]] =
 [AVal.ptr (0 : Nat) (0 : Nat), AVal.ptr (1 : Nat) (0 : Nat),
 AVal.fn 37 [] [AVal.ptr (2 : Nat) (0 : Nat), AVal.ptr (3 : Nat) (0 : Nat)]] ∧
 G
 (St.mk
 [((2 : Nat), AVal.ptr (0 : Nat) (0 : Nat)), ((9 : Nat), AVal.ptr (1 : Nat) (0 : Nat)),
 ((57 : Nat), AVal.fn 37 [] [AVal.ptr (2 : Nat) (0 : Nat), AVal.ptr (3 : Nat) (0 : Nat)])]
 [ABlk.vals
 [AVal.int IntKind.i64 (0 : Int), AVal.int IntKind.i64 (0 : Int), AVal.int IntKind.i64 (0 : Int), AVal.nilS],
 ABlk.vals
 [AVal.int IntKind.i64 i, AVal.int IntKind.i64 j, AVal.int IntKind.i64 q,
 AVal.sl (4 : Nat) (0 : Nat) (1 : Nat) (1 : Nat)],
 ABlk.vals [AVal.str body], ABlk.vals [AVal.int IntKind.i64 (↑n : Int)], ABlk.vals [AVal.str x]])) := by kernel_rfl
set_option maxRecDepth 100000 in
theorem rf_next (i j q : Int) (body : List UInt8) (n : Nat) (x : List UInt8) (k : Nat) (cs : List AVal) (G : St → Prop) : opsP dcX ops12.toList ops12.toList ⟨(10, .str x) :: rfE, rfA i j q body n (.sl 4 0 k 1) ++ [.flat cs]⟩ (fun s => egets s.env [2, 9, 57] = egets rfE [2, 9, 57] ∧ normK 0 [2, 9, 57] s G) = (
 ((k + (1 : Nat)) * (16 : Nat) ≤ (140737488355328 : Nat) ∧ List.length cs = k * (1 : Nat)) ∧
 [AVal.ptr (0 : Nat) (0 : Nat), AVal.ptr (1 : Nat) (0 : Nat),
 AVal.fn 37 [] [AVal.ptr (2 : Nat) (0 : Nat), AVal.ptr (3 : Nat) (0 : Nat)]] =
 [AVal.ptr (0 : Nat) (0 : Nat), AVal.ptr (1 : Nat) (0 : Nat),
 AVal.fn 37 [] [AVal.ptr (2 : Nat) (0 : Nat), AVal.ptr (3 : Nat) (0 : Nat)]] ∧
 G
 (St.mk
 [((2 : Nat), AVal.ptr (0 : Nat) (0 : Nat)), ((9 : Nat), AVal.ptr (1 : Nat) (0 : Nat)),
 ((57 : Nat), AVal.fn 37 [] [AVal.ptr (2 : Nat) (0 : Nat), AVal.ptr (3 : Nat) (0 : Nat)])]
 [ABlk.vals
 [AVal.int IntKind.i64 (0 : Int), AVal.int IntKind.i64 (0 : Int), AVal.int IntKind.i64 (0 : Int), AVal.nilS],
 ABlk.vals
 [AVal.int IntKind.i64 i, AVal.int IntKind.i64 j, AVal.int IntKind.i64 q,
 AVal.sl (4 : Nat) (0 : Nat) (k + (1 : Nat)) (1 : Nat)],
 ABlk.vals [AVal.str body], ABlk.vals [AVal.int IntKind.i64 (↑n : Int)], ABlk.flat (cs ++ [AVal.str x])])) := by kernel_rfl
set_option maxRecDepth 100000 in
theorem rf_end (i j q : Int) (body : List UInt8) (n : Nat) (k : Nat) (cs : List AVal) (K : AVal → Hp → Prop) : opsP dcX ops13.toList ops13.toList ⟨rfE, rfA i j q body n (.sl 4 0 k 1) ++ [.flat cs]⟩ (fun s => endK Try.prog 0 Try.f13.results.toList K s) = (
 K
 (AVal.tup
 [AVal.agg
 [AVal.int IntKind.i64 i, AVal.int IntKind.i64 j, AVal.int IntKind.i64 q, AVal.sl (0 : Nat) (0 : Nat) k (1 : Nat)],
 AVal.int IntKind.i64 (0 : Int)])
 [ABlk.flat cs]) := by kernel_rfl
def rfH (i j q : Int) (body : List UInt8) (n : Nat) (pre : List (List UInt8)) : Hp := match pre with
  | [] => rfA i j q body n .nilS
  | x :: r => rfA i j q body n (.sl 4 0 (r.length + 1) 1) ++ [.flat ((x :: r).map AVal.str)]
theorem rfH_snoc (i j q : Int) (body : List UInt8) (n : Nat) (y : List UInt8) (r : List (List UInt8)) (x : List UInt8) : rfH i j q body n ((y :: r) ++ [x]) = rfA i j q body n (.sl 4 0 (r.length + 1 + 1) 1) ++ [.flat ((y :: r).map AVal.str ++ [.str x])] := by
  show rfA i j q body n (.sl 4 0 ((r ++ [x]).length + 1) 1) ++ [.flat ((y :: (r ++ [x])).map AVal.str)] = _
  rw [List.length_append, ← List.cons_append, List.map_append]; rfl
theorem rfH_body (i j q : Int) (body : List UInt8) (n : Nat) (pre : List (List UInt8)) : hget 2 (rfH i j q body n pre) = .vals [.str body] ∧ hget 3 (rfH i j q body n pre) = .vals [.int .i64 (n : Int)] := by cases pre <;> exact ⟨rfl, rfl⟩
theorem cell_blk {R : Nat → Prop} {w : World} {m : Mp} {H : Hp} (hS : Sim R w m H) {k g : Nat} (hm : m k = some g) {v : AVal} {r : List AVal} (hk : hget k H = .vals (v :: r)) {x : Value} (hv : ∀ y, VR R w m H v y → y = x) : w.cell? ⟨g, 0, none⟩ = some x := by
  obtain ⟨_, xs, e, fr, h1, h2, h3, h4⟩ := hS.own k g (by rw [hk]; simp) hm
  rw [hk] at h4
  obtain ⟨ys, r', rfl, h5⟩ := h4
  obtain ⟨y, r2, rfl, h6, _⟩ := h5.cons_inv
  rw [cell_of h1, hv y h6]
  rfl
theorem rf_ptrs {R : Nat → Prop} {w : World} {m : Mp} {H : Hp} {f : Nat} {v : Value} (h : VR R w m H (.fn f [] [.ptr 2 0, .ptr 3 0]) v) : ∃ Bb Bl, v = .func (.func f) #[] #[.pointer (some ⟨Bb, 0, none⟩), .pointer (some ⟨Bl, 0, none⟩)] ∧ m 2 = some Bb ∧ m 3 = some Bl := by
  cases h with
  | fn _ _ _ xs ys g1 g2 g3 g4 =>
    match xs, ys, g1, g3, g4 with
    | [], [y1, y2], _, _, g4 =>
      have h1 := g4 0 _ _ rfl rfl
      have h2 := g4 1 _ _ rfl rfl
      cases h1 with
      | ptr _ _ Bb hm2 => cases h2 with
        | ptr _ _ Bl hm3 => exact ⟨Bb, Bl, rfl, hm2, hm3⟩
theorem rf_ptrs2 {R' : Nat → Prop} {w' : World} {m' : Mp} {H' : Hp} {f Bb Bl : Nat} (h : VR R' w' m' H' (.fn f [] [.ptr 2 0, .ptr 3 0]) (.func (.func f) #[] #[.pointer (some ⟨Bb, 0, none⟩), .pointer (some ⟨Bl, 0, none⟩)])) : m' 2 = some Bb ∧ m' 3 = some Bl := by
  obtain ⟨b1, b2, e, h1, h2⟩ := rf_ptrs h
  simp only [Value.func.injEq, Fn.func.injEq, true_and, Array.mk.injEq, List.cons.injEq, Value.pointer.injEq, Option.some.injEq, Addr.mk.injEq, and_true] at e
  obtain ⟨rfl, rfl⟩ := e
  exact ⟨h1, h2⟩
set_option maxHeartbeats 1000000 in
theorem rf_loop (i j q : Int) (body : List UInt8) (n c : Nat) (hc8 : c ≤ 8) (hn1 : 1 ≤ n) (hlen : body.length = 8 + c * n) (hb : body.length ≤ 140737488351232) {R0 : Nat → Prop} {w0 : World} {m0 : Mp} {H0 : Hp} (hl : H0.length = 0) (hS0 : Sim R0 w0 m0 H0) {a : Act} {w : World}
    (hI : Inv dcX.nt R0 w0 m0 H0 a w ⟨rfE, rfA i j q body n .nilS⟩) {Q : Exit → Act → World → Prop} {nn : Nat} (hnn : 3 ≤ nn)
    (hdone : ∀ (R : Nat → Prop) (m : Mp) (D : Nat) (W : World), w0.heap.size ≤ D → ¬ R D → W.heap[D]? = some (.deferred (some [])) → Far R0 w0 m0 H0 R W m (rfH i j q body n (parts n (body.drop 8) c)) → EnvR R W m (rfH i j q body n (parts n (body.drop 8) c)) rfE a →
      Q .normal { a with defers := { target := .collected D, args := #[] } :: a.defers } W) : dcR.wpIn Fence.wide nn dcX.P Q a w := by
  obtain ⟨⟨R, m, hF, hE⟩, hsz, hnd⟩ := hI
  have hnt : dcX.nt = 66 := by kernel_rfl
  have h57 : VR R w m (rfA i j q body n .nilS) (.fn 37 [] [.ptr 2 0, .ptr 3 0]) (a.tmps.getD 57 undef) := hE 57
  obtain ⟨Bb, Bl, e57, hm2, hm3⟩ := rf_ptrs h57
  have rlt : ∀ g, R g → g < w.heap.size := hF.sim.rlt
  have body_of : ∀ {R : Nat → Prop} {w : World} {m : Mp} {H : Hp} y, VR R w m H (.str body) y → y = encS body := fun y h => by cases h; rfl
  have int_of : ∀ {R : Nat → Prop} {w : World} {m : Mp} {H : Hp} y, VR R w m H (.int .i64 (n : Int)) y → y = .int .i64 (n : Int) := fun y h => by cases h; rfl
  have hc1 : w.cell? ⟨Bb, 0, none⟩ = some (encS body) := cell_blk hF.sim hm2 (k := 2) rfl body_of
  have hc2 : w.cell? ⟨Bl, 0, none⟩ = some (.int .i64 (n : Int)) := cell_blk hF.sim hm3 (k := 3) rfl int_of
  have hB1 : Bb < w.heap.size := by
    obtain ⟨_, xs, e, fr, h, _⟩ := hF.sim.own 2 Bb (by simp [rfA, hget]) hm2
    exact (Array.getElem?_eq_some_iff.1 h).1
  have hB2 : Bl < w.heap.size := by
    obtain ⟨_, xs, e, fr, h, _⟩ := hF.sim.own 3 Bl (by simp [rfA, hget]) hm3
    exact (Array.getElem?_eq_some_iff.1 h).1
  rw [dcR_is]
  refine wpIn_rangeFunc_ownF (α := Str) (F := Fence.wide) rfl (by omega) (gf := 37) (lb := #[.pointer (some ⟨Bb, 0, none⟩), .pointer (some ⟨Bl, 0, none⟩)]) e57 trivial ?eg
    (addrs_stops Fence.wide (nn - 1) trivial rfl (by omega) Bb Bl body n c hn1 hlen hb w hB1 hB2 hc1 hc2) (fun h k => KpA.t h k) ?kb (Below.refl _ _) (fun _ => rfl)
    (fun pre W => ∃ m', Far R0 w0 m0 H0 R W m' (rfH i j q body n (pre.map (·.1))) ∧ EnvR R W m' (rfH i j q body n (pre.map (·.1))) rfE a) (fun _ _ _ => False) ?hI (fun _ _ _ _ _ hs _ _ => hs) ⟨m, hF, hE⟩
    (fun x => Act.put { tmps := a.tmps.setIfInBounds 58 (encS x.1), defers := [] } (some 10) (encS x.1)) ?assign ?body ?done ?stop
  case eg =>
    intro args w'
    have h1 := Try.func37
    have h2 : ¬ (Try.f37).name = "runtime.NumGoroutine" := by decide +kernel
    have h3 : ¬ (Try.f37).body = none := by decide +kernel
    simp [callFunc, h1, h2, h3]
  case kb => exact fun W l o o' hl' hW _ _ => ⟨cell_putObj (by omega), cell_putObj (by omega)⟩
  case hI =>
    intro s W W' row hs hg hr
    obtain ⟨m', F', E'⟩ := hs
    obtain ⟨F2, vr⟩ := F'.grown hg fun r e => ⟨by have := (hr r e).1; have := hF.size; omega, fun hR => by have := rlt r hR; have := (hr r e).1; omega, (hr r e).2⟩
    exact ⟨m', F2, fun t => vr (E' t)⟩
  case done =>
    intro D xs W hD hxs hIx hK
    obtain ⟨m', F', E'⟩ := hIx
    rw [hxs] at F' E'
    exact hdone R m' D W (by have := hF.size; omega) (fun hR => by have := rlt D hR; omega) hK F' E'
  case stop => exact fun D c pre W _ _ h _ => h.elim
  case assign =>
    rintro l ⟨x, hx⟩ W K hK
    simp only at hK ⊢
    rw [rfAssign_is]
    have e0 : ((#[58] : Array Tmp).zip #[encS x]).foldl (fun t (p, v) => t.setIfInBounds p v) a.tmps = a.tmps.setIfInBounds 58 (encS x) := by simp
    rw [e0]
    refine wpIn_region_list ?_
    rw [ops11_is]
    refine wpListIn_plain o11_is.1 fun K' hK' => ⟨fun _ _ => trivial, ?_⟩
    rw [Oper.semAt_plain _ _ _ (by rw [o11_is.2.1]; intro c h; cases h)]
    have e1 : (Act.eval { tmps := a.tmps.setIfInBounds 58 (encS x), defers := [] } (.tmp 58)) = encS x := by
      show (a.tmps.setIfInBounds 58 (encS x)).getD 58 undef = encS x
      simp [Array.getD, hsz, hnt]
    have e2 : (execOp (Act.eval { tmps := a.tmps.setIfInBounds 58 (encS x), defers := [] }) o11).run dcX.P W = .ok (.value (encS x)) W := by
      unfold execOp
      simp only [o11_is.2.1]
      rw [e1]
      rfl
    rw [e2, Oper.uponIn_value, o11_is.2.2]
    exact hK' _ _ hK
  case body =>
    rintro l pre0 ⟨x, hx⟩ W hIp hlt0
    obtain ⟨m', F', E'⟩ := hIp
    obtain ⟨pre, hpre⟩ : ∃ pre, pre0.map (·.1) = pre := ⟨_, rfl⟩
    have hlt : pre.length < c := by rw [← hpre]; simpa using hlt0
    rw [hpre] at F' E'
    have hE1 : EnvR R W m' (rfH i j q body n pre) ((10, .str x) :: rfE) (Act.put { tmps := a.tmps.setIfInBounds 58 (encS x), defers := [] } (some 10) (encS x)) := by
      refine EnvR.put (d := some 10) (v := .str x) (env := rfE) (fun t => ?_) (by simp [dstOk, hsz, hnt]) (.str x ?_)
      · by_cases e : t = 58
        · subst e; exact .undef _
        · have h := E' t
          have e2 : (a.tmps.setIfInBounds 58 (encS x)).getD t undef = a.tmps.getD t undef := by
            simp only [Array.getD_eq_getD_getElem?]
            rw [Array.getElem?_setIfInBounds_ne (Ne.symm e)]
          show VR R W m' _ (eget t rfE) ((a.tmps.setIfInBounds 58 (encS x)).getD t undef)
          rw [e2]; exact h
      · exact hx
    have hz1 : (Act.put { tmps := a.tmps.setIfInBounds 58 (encS x), defers := [] } (some 10) (encS x)).tmps.size = dcX.nt := by rw [Act.put_size']; simp [hsz]
    have ev : opsP dcX ops12.toList ops12.toList ⟨(10, .str x) :: rfE, rfH i j q body n pre⟩ (fun s => egets s.env [2, 9, 57] = egets rfE [2, 9, 57] ∧ normK 0 [2, 9, 57] s fun s => ⟨s.env, flatN 4 s.heap⟩ = (⟨rfE, rfH i j q body n (pre ++ [x])⟩ : St)) := by
      cases pre with
      | nil =>
        show opsP dcX ops12.toList ops12.toList ⟨(10, .str x) :: rfE, rfA i j q body n .nilS⟩ _
        rw [rf_first]
        exact ⟨by omega, rfl, rfl⟩
      | cons y r =>
        show opsP dcX ops12.toList ops12.toList ⟨(10, .str x) :: rfE, rfA i j q body n (.sl 4 0 (r.length + 1) 1) ++ [.flat ((y :: r).map AVal.str)]⟩ _
        rw [rf_next]
        refine ⟨⟨?_, by simp⟩, rfl, ?_⟩
        · simp only [List.length_cons] at hlt
          omega
        · rw [rfH_snoc]; rfl
    rw [rfBody_is]
    refine wpIn_block (wpIn_region_list ?_)
    obtain ⟨s', ⟨heq, hk⟩, hs⟩ := opsP_in (X := dcX) (F := Fence.wide.inRound l) (n := nn - 1 - 1) (fun _ => trivial) ops12_s ev
    rw [normK_iff] at hk
    refine hs R W m' _ F'.sim hE1 hz1 _ fun a' W' m2 F2 E2 z2 d2 => ?_
    have N := norm_far (F'.trans F2) ((E'.far F2 F'.sim)) hS0 [2, 9, 57]
    rw [hl, ← heq] at N
    obtain ⟨m3, F3, E3⟩ := N
    obtain ⟨k1, k2⟩ := St.mk.inj hk
    have E4 : EnvR R W' m3 (flatC 0 [2, 9, 57] (subHeap (fun k => idxO k (seek s'.heap 0 (egets s'.env [2, 9, 57]))) s'.heap (seek s'.heap 0 (egets s'.env [2, 9, 57])))) rfE a := by
      have e0 : normEnv (seek s'.heap 0 (egets s'.env [2, 9, 57])) [2, 9, 57] ⟨rfE, s'.heap⟩ = normEnv (seek s'.heap 0 (egets s'.env [2, 9, 57])) [2, 9, 57] s' := by
        show zipEnv _ (renL _ (egets rfE [2, 9, 57])) = zipEnv _ (renL _ (egets s'.env [2, 9, 57]))
        rw [heq]
      have k1' : normEnv (seek s'.heap 0 (egets s'.env [2, 9, 57])) [2, 9, 57] s' = rfE := k1
      rw [e0, k1'] at E3
      exact E3
    have fl := (flat_stp F3.sim 4).far
    have F5 := F3.trans fl
    have E5 := E4.far fl F3.sim
    rw [k2] at F5 E5
    obtain ⟨b1, b2⟩ := rfH_body i j q body n pre
    obtain ⟨b3, b4⟩ := rfH_body i j q body n (pre ++ [x])
    have p1 := rf_ptrs2 (f := 37) (by have := E' 57; rw [e57] at this; exact this)
    have p2 := rf_ptrs2 (f := 37) (by have := E5 57; rw [e57] at this; exact this)
    refine ⟨F2.others F'.sim, ⟨?_, ?_⟩, m3, ?_, ?_⟩
    · rw [cell_blk F5.sim p2.1 b3 body_of, cell_blk F'.sim p1.1 b1 body_of]
    · rw [cell_blk F5.sim p2.2 b4 int_of, cell_blk F'.sim p1.2 b2 int_of]
    · rw [show (pre0 ++ [(⟨x, hx⟩ : Str)]).map (·.1) = pre ++ [x] from by rw [List.map_append, hpre]; rfl]; exact F5
    · rw [show (pre0 ++ [(⟨x, hx⟩ : Str)]).map (·.1) = pre ++ [x] from by rw [List.map_append, hpre]; rfl]; exact E5
end Go.Proofs.Ytbjolilknkbehaa.Ae

