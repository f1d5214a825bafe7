/- Chapter 20's law: configurations; the program's own of one. -/
import Derived.Test.YtnbbaemijogeoaaFnb
import Derived.Test.YtnbbaemijogeoaaAeOp
import Derived.Test.YtnbbaemijogeoaaAeWk
import Derived.Test.YtnbbaemijogeoaaAeQk
set_option linter.unusedSimpArgs false
set_option linter.unusedVariables false
set_option maxRecDepth 100000
namespace Go.Proofs.Ytnbbaemijogeoaa
open Go Ae
structure MacV where
  b0 : UInt8
  b1 : UInt8
  b2 : UInt8
  b3 : UInt8
  b4 : UInt8
  b5 : UInt8
structure BkV where
  name : List UInt8
  addr : List UInt8
  mac : MacV
  port : Int
  weight : Int
structure SvV where
  name : List UInt8
  vip : List UInt8
  proto : Int
  port : Int
  mode : Int
  sched : Int
  rise : Int
  fall : Int
  probe : Int
  bks : List BkV
structure TrV where
  name : List UInt8
  weight : Int
structure CfV where
  mac : MacV
  addr : List UInt8
  peer : List UInt8
  id : Int
  pri : Int
  every : Int
  pre : Bool
  vips : List (List UInt8)
  trs : List TrV
  svs : List SvV
def mac0 : MacV := ⟨0, 0, 0, 0, 0, 0⟩
def bk0 : BkV := ⟨[], [], mac0, 0, 0⟩
def sv0 : SvV := ⟨[], [], 0, 0, 0, 0, 0, 0, 0, []⟩
def tr0 : TrV := ⟨[], 0⟩
end Go.Proofs.Ytnbbaemijogeoaa
namespace Go.Proofs.Ytnbbaemijogeoaa.Ae
open Go Go.RowKit
def macCells (m : MacV) : List AVal := [.byte m.b0, .byte m.b1, .byte m.b2, .byte m.b3, .byte m.b4, .byte m.b5]
def bkCells (b : BkV) : List AVal := [.str b.name, .str b.addr, .byte b.mac.b0, .byte b.mac.b1, .byte b.mac.b2, .byte b.mac.b3, .byte b.mac.b4, .byte b.mac.b5, .int .i64 b.port, .int .i64 b.weight]
def bkF (l : List BkV) : Nat → List AVal := fun i => bkCells (l.getD i bk0)
def svCells (s : SvV) : List AVal := [.str s.name, .str s.vip, .int .i64 s.proto, .int .i64 s.port, .int .i64 s.mode, .int .i64 s.sched, .int .i64 s.rise, .int .i64 s.fall, .int .i64 s.probe, .ro s.bks.length 10 (bkF s.bks)]
def svF (l : List SvV) : Nat → List AVal := fun i => svCells (l.getD i sv0)
def trF (l : List TrV) : Nat → List AVal := fun i => [.str (l.getD i tr0).name, .int .i64 (l.getD i tr0).weight]
def cfCells (c : CfV) : List AVal := [.byte c.mac.b0, .byte c.mac.b1, .byte c.mac.b2, .byte c.mac.b3, .byte c.mac.b4, .byte c.mac.b5, .str c.addr, .str c.peer, .int .i64 c.id, .int .i64 c.pri, .int .i64 c.every, .bool c.pre,
  .ro c.vips.length 1 (fun i => [.str (c.vips.getD i [])]), .ro c.trs.length 2 (trF c.trs), .ro c.svs.length 10 (svF c.svs)]
def SvOk (s : SvV) : Prop := s.bks.length ≤ 2513169434870 ∧ I64 s.port ∧ ∀ b ∈ s.bks, I64 b.port
def CfOk (c : CfV) : Prop := c.vips.length ≤ 8796093022000 ∧ c.trs.length ≤ 5864062014800 ∧ c.svs.length ≤ 1256584717440 ∧ I64 c.id ∧ ∀ s ∈ c.svs, SvOk s
end Go.Proofs.Ytnbbaemijogeoaa.Ae
namespace Go.Proofs.Ytnbbaemijogeoaa
open Go Ae
def IsCf (cs : List AVal) : Prop := ∃ c, cs = cfCells c ∧ CfOk c
def nbOf (f : Nat → List AVal) (i : Nat) : Nat := match (f i)[9]? with
  | some (AVal.ro n _ _) => n
  | _ => 0
/-- as the machine adds -/
def fewK (f : Nat → List AVal) (k : Int) : Nat → Int
  | 0 => k
  | i + 1 => IntKind.i64.wrap (fewK f k i + (nbOf f i : Int))
def fewB (cs : List AVal) : Bool := match cs[12]?, cs[14]? with
  | some (AVal.ro nv _ _), some (AVal.ro ns _ fs) => decide (fewK fs ((nv : Int) + (ns : Int)) ns ≤ 200)
  | _, _ => false
end Go.Proofs.Ytnbbaemijogeoaa
namespace Go.Proofs.Ytnbbaemijogeoaa.Ae
open Go Go.RowKit
def zeroCf : List AVal := [.byte 0, .byte 0, .byte 0, .byte 0, .byte 0, .byte 0, .str [], .str [], .int .i64 0, .int .i64 0, .int .i64 0, .bool false, .nilS, .nilS, .nilS]
def cfHead (c : CfV) (a b : AVal) : List AVal := [.byte c.mac.b0, .byte c.mac.b1, .byte c.mac.b2, .byte c.mac.b3, .byte c.mac.b4, .byte c.mac.b5, .str c.addr, .str c.peer, .int .i64 c.id, .int .i64 c.pri, .int .i64 c.every, .bool c.pre,
  .ro c.vips.length 1 (fun i => [.str (c.vips.getD i [])]), a, b]
def svHead (s : SvV) (a : AVal) : List AVal := [.str s.name, .str s.vip, .int .i64 s.proto, .int .i64 s.port, .int .i64 s.mode, .int .i64 s.sched, .int .i64 s.rise, .int .i64 s.fall, .int .i64 s.probe, a]
theorem sim_nil0 {R : Nat → Prop} {w : World} {m : Mp} {H : Hp} (hS : Sim R w m H) : Sim R w Mp.nil [] :=
  ⟨hS.rlt, fun _ _ => rfl, fun k _ h _ => absurd (hget_out (Nat.zero_le k)) h, fun k h _ => absurd (hget_out (Nat.zero_le k)) h, fun k _ _ h _ _ _ => absurd (hget_out (Nat.zero_le k)) h⟩
/-- rows whose cells say as much -/
theorem VE.ro2 {H : Hp} {k sz : Nat} {f f' : Nat → List AVal} (h : ∀ i, i < k → (f' i).length = sz ∧ ∀ (j : Nat) (v' : AVal), (f' i)[j]? = some v' → ∃ v, (f i)[j]? = some v ∧ VE [] v v') : VE H (.ro k sz f) (.ro k sz f') := by
  intro R w m x hS hv
  cases hv with
  | ro _ _ _ a c g off X h1 h2 h3 h4 h5 h6 h7 =>
    refine .ro k sz f' a c g off X h1 h2 h3 h4 (fun i j v hi hv => ?_) (fun i j v hi hv => ?_) (fun i hi => (h i hi).1)
    · obtain ⟨v0, e0, _⟩ := (h i hi).2 j v hv
      exact h5 i j v0 hi e0
    · obtain ⟨v0, e0, e1⟩ := (h i hi).2 j v hv
      exact e1 R w Mp.nil _ (sim_nil0 hS) (h6 i j v0 hi e0)
theorem fm_len {n : Nat} {u : Nat → List AVal} (hu : ∀ i, (u i).length = n) : ∀ k, ((List.range k).flatMap u).length = k * n
  | 0 => by simp
  | k + 1 => by rw [List.range_succ, List.flatMap_append, List.length_append, fm_len hu k]; simp [hu, Nat.succ_mul]
theorem fm_succ (u : Nat → List AVal) (k : Nat) : (List.range (k + 1)).flatMap u = (List.range k).flatMap u ++ u k := by
  rw [List.range_succ, List.flatMap_append]; simp
theorem rows_fm {n : Nat} {u : Nat → List AVal} (hu : ∀ i, (u i).length = n) : ∀ (k i : Nat), i < k → rowsOf n ((List.range k).flatMap u) i = u i
  | 0, i, h => by omega
  | k + 1, i, h => by
    rw [fm_succ]
    unfold rowsOf
    by_cases hk : i < k
    · have h1 : i * n + n ≤ k * n := by rw [← Nat.succ_mul]; exact Nat.mul_le_mul_right n hk
      rw [List.drop_append_of_le_length (by rw [fm_len hu]; omega), List.take_append_of_le_length (by rw [List.length_drop, fm_len hu]; omega)]
      exact rows_fm hu k i hk
    · obtain rfl : i = k := by omega
      rw [← fm_len hu i, List.drop_left, ← hu i, List.take_length]
theorem ve_fm {n : Nat} {u : Nat → List AVal} {H : Hp} (hu : ∀ i, (u i).length = n) (k : Nat) : VE H (.ro k n (rowsOf n (((List.range k).flatMap u).take (k * n)))) (.ro k n u) :=
  VE.ro fun i hi => by rw [← fm_len hu k, List.take_length]; exact rows_fm hu k i hi
theorem VE.trans {H : Hp} {a b c : AVal} (h : VE H a b) (h' : VE H b c) : VE H a c := fun R w m x hS hv => h' R w m x hS (h R w m x hS hv)
/-- a service whose backends are a row of the call's own -/
def svOwn (l : List SvV) : Nat → List AVal := fun i => svHead (l.getD i sv0) (.ro (l.getD i sv0).bks.length 10 (rowsOf 10 (((List.range (l.getD i sv0).bks.length).flatMap (bkF (l.getD i sv0).bks)).take ((l.getD i sv0).bks.length * 10))))
theorem ve_svs {H : Hp} (l : List SvV) : VE H (.ro l.length 10 (svOwn l)) (.ro l.length 10 (svF l)) :=
  VE.ro2 fun i hi => ⟨rfl, fun j v' hv => by
    have hj : j < 10 := (List.getElem?_eq_some_iff.1 hv).1
    have hb := ve_fm (n := 10) (u := bkF (l.getD i sv0).bks) (H := []) (fun _ => rfl) (l.getD i sv0).bks.length
    have : j = 0 ∨ j = 1 ∨ j = 2 ∨ j = 3 ∨ j = 4 ∨ j = 5 ∨ j = 6 ∨ j = 7 ∨ j = 8 ∨ j = 9 := by omega
    rcases this with rfl | rfl | rfl | rfl | rfl | rfl | rfl | rfl | rfl | rfl <;> cases hv <;> first | exact ⟨_, rfl, hb⟩ | exact ⟨_, rfl, VE.refl⟩⟩
theorem ve_own {H : Hp} (c : CfV) : VE H (.agg (cfHead c (.ro c.trs.length 2 (rowsOf 2 (((List.range c.trs.length).flatMap (trF c.trs)).take (c.trs.length * 2)))) (.ro c.svs.length 10 (rowsOf 10 (((List.range c.svs.length).flatMap (svOwn c.svs)).take (c.svs.length * 10)))))) (.agg (cfCells c)) := by
  have h1 := ve_fm (n := 2) (u := trF c.trs) (H := H) (fun _ => rfl) c.trs.length
  have h2 := (ve_fm (n := 10) (u := svOwn c.svs) (H := H) (fun _ => rfl) c.svs.length).trans (ve_svs c.svs)
  exact VE.agg (.cons .refl (.cons .refl (.cons .refl (.cons .refl (.cons .refl (.cons .refl (.cons .refl (.cons .refl (.cons .refl (.cons .refl (.cons .refl (.cons .refl (.cons .refl (.cons h1 (.cons h2 .nil)))))))))))))))
def fewRow : Srow := fun args H K => match args, H with
  | [.agg cs], [] => IsCf cs ∧ K (.bool (fewB cs)) []
  | _, _ => False
def ownRow : Srow := fun args H K => match args, H with
  | [.agg cs], [] => IsCf cs ∧ K (.agg cs) []
  | _, _ => False
def ann_outriderlaw20_few : Nat → List Nat × Nat × List (List Nat)
  | 3 => ([3, 14, 15, 16], 0, [])
  | 4000005 => ([], 1, [])
  | _ => ([], 0, [])
noncomputable abbrev fw_lp_X : Cx := ⟨Try.prog, Tnb, Try.f7.ntmps, 0, ann_outriderlaw20_few⟩
noncomputable def fw_lp_c : Code := cAt [.r, .r, .l, .r, .b] (bodyOf Try.f7)
noncomputable def fw_lp_k (K : AVal → Hp → Prop) : Post := kAt fw_lp_X [.r, .r, .l, .r, .b] (bodyOf Try.f7) (fnK Try.prog 0 Try.f7.results.toList K)
def fw_lp_n (K : AVal → Hp → Prop) (n : Nat) (s : St) : Prop := loopP (awp fw_lp_X (loopB fw_lp_c)) 0 [3, 14, 15, 16] n s (fw_lp_k K)
def fw_lp (K : AVal → Hp → Prop) (s : St) : Prop := ∃ n, fw_lp_n K n s
def fw_lp_b (K : AVal → Hp → Prop) (J : St → Prop) (s : St) : Prop := awp fw_lp_X (loopB fw_lp_c) s (seqK (fun s' => normK 0 [3, 14, 15, 16] s' J) (fw_lp_k K))
theorem fw_lp_next {K : AVal → Hp → Prop} {n : Nat} {s : St} (h : fw_lp_b K (fun s' => fw_lp_n K n s') s) : fw_lp_n K (n + 1) s := h
set_option maxRecDepth 100000 in
theorem few_eq (c : CfV) (K : AVal → Hp → Prop) : fnP Try.prog Tnb ann_outriderlaw20_few Try.f7 [.agg (cfCells c)] [] K = (
 I64 ((↑(List.length c.vips) : Int) + (↑(List.length c.svs) : Int)) ∧
 fw_lp K
 (St.mk
 [((3 : Nat), AVal.int IntKind.i64 ((↑(List.length c.vips) : Int) + (↑(List.length c.svs) : Int))),
 ((14 : Nat),
 AVal.ro (List.length c.svs) (10 : Nat) fun i =>
 [AVal.str (List.getD c.svs i sv0).name, AVal.str (List.getD c.svs i sv0).vip,
 AVal.int IntKind.i64 (List.getD c.svs i sv0).proto, AVal.int IntKind.i64 (List.getD c.svs i sv0).port,
 AVal.int IntKind.i64 (List.getD c.svs i sv0).mode, AVal.int IntKind.i64 (List.getD c.svs i sv0).sched,
 AVal.int IntKind.i64 (List.getD c.svs i sv0).rise, AVal.int IntKind.i64 (List.getD c.svs i sv0).fall,
 AVal.int IntKind.i64 (List.getD c.svs i sv0).probe,
 AVal.ro (List.length (List.getD c.svs i sv0).bks) (10 : Nat) fun i_1 =>
 [AVal.str (List.getD (List.getD c.svs i sv0).bks i_1 bk0).name,
 AVal.str (List.getD (List.getD c.svs i sv0).bks i_1 bk0).addr,
 AVal.byte (List.getD (List.getD c.svs i sv0).bks i_1 bk0).mac.b0,
 AVal.byte (List.getD (List.getD c.svs i sv0).bks i_1 bk0).mac.b1,
 AVal.byte (List.getD (List.getD c.svs i sv0).bks i_1 bk0).mac.b2,
 AVal.byte (List.getD (List.getD c.svs i sv0).bks i_1 bk0).mac.b3,
 AVal.byte (List.getD (List.getD c.svs i sv0).bks i_1 bk0).mac.b4,
 AVal.byte (List.getD (List.getD c.svs i sv0).bks i_1 bk0).mac.b5,
 AVal.int IntKind.i64 (List.getD (List.getD c.svs i sv0).bks i_1 bk0).port,
 AVal.int IntKind.i64 (List.getD (List.getD c.svs i sv0).bks i_1 bk0).weight]]),
 ((15 : Nat), AVal.int IntKind.i64 (↑(List.length c.svs) : Int)), ((16 : Nat), AVal.int IntKind.i64 (0 : Int))]
 [])) := by kernel_rfl
set_option maxRecDepth 100000 in
theorem fw_lp_step (l : List SvV) (k i : Int) (K : AVal → Hp → Prop) (J : St → Prop) : fw_lp_b K J (St.mk [(3, .int .i64 k), (14, .ro l.length 10 (svF l)), (15, .int .i64 (l.length : Int)), (16, .int .i64 i)] []) = (
 brP (decide (i < (↑(List.length l) : Int)))
 (((0 : Int) ≤ i ∧ i < (↑(List.length l) : Int)) ∧
 I64 (i + (1 : Int)) ∧
 J
 (St.mk
 [((3 : Nat),
 AVal.int IntKind.i64
 (IntKind.wrap IntKind.i64 (k + (↑(List.length (List.getD l (Int.toNat i) sv0).bks) : Int)))),
 ((14 : Nat),
 AVal.ro (List.length l) (10 : Nat) fun i =>
 [AVal.str (List.getD l i sv0).name, AVal.str (List.getD l i sv0).vip,
 AVal.int IntKind.i64 (List.getD l i sv0).proto, AVal.int IntKind.i64 (List.getD l i sv0).port,
 AVal.int IntKind.i64 (List.getD l i sv0).mode, AVal.int IntKind.i64 (List.getD l i sv0).sched,
 AVal.int IntKind.i64 (List.getD l i sv0).rise, AVal.int IntKind.i64 (List.getD l i sv0).fall,
 AVal.int IntKind.i64 (List.getD l i sv0).probe,
 AVal.ro (List.length (List.getD l i sv0).bks) (10 : Nat) fun i_1 =>
 [AVal.str (List.getD (List.getD l i sv0).bks i_1 bk0).name,
 AVal.str (List.getD (List.getD l i sv0).bks i_1 bk0).addr,
 AVal.byte (List.getD (List.getD l i sv0).bks i_1 bk0).mac.b0,
 AVal.byte (List.getD (List.getD l i sv0).bks i_1 bk0).mac.b1,
 AVal.byte (List.getD (List.getD l i sv0).bks i_1 bk0).mac.b2,
 AVal.byte (List.getD (List.getD l i sv0).bks i_1 bk0).mac.b3,
 AVal.byte (List.getD (List.getD l i sv0).bks i_1 bk0).mac.b4,
 AVal.byte (List.getD (List.getD l i sv0).bks i_1 bk0).mac.b5,
 AVal.int IntKind.i64 (List.getD (List.getD l i sv0).bks i_1 bk0).port,
 AVal.int IntKind.i64 (List.getD (List.getD l i sv0).bks i_1 bk0).weight]]),
 ((15 : Nat), AVal.int IntKind.i64 (↑(List.length l) : Int)), ((16 : Nat), AVal.int IntKind.i64 (i + (1 : Int)))]
 []))
 (K (AVal.bool (decide (k ≤ (200 : Int)))) [])) := by kernel_rfl
theorem few_all (K : AVal → Hp → Prop) (k0 : Int) (l : List SvV) (hK : K (.bool (decide (fewK (svF l) k0 l.length ≤ 200))) []) (hl : l.length ≤ 1256584717440) : ∀ (j i : Nat), i + j = l.length →
    fw_lp_n K (j + 1) (St.mk [(3, .int .i64 (fewK (svF l) k0 i)), (14, .ro l.length 10 (svF l)), (15, .int .i64 (l.length : Int)), (16, .int .i64 (i : Int))] [])
  | 0, i, h => by
    refine fw_lp_next ?_
    rw [fw_lp_step]
    obtain rfl : i = l.length := by omega
    exact brP_d (fun h' => by omega) (fun _ => hK)
  | j + 1, i, h => by
    refine fw_lp_next ?_
    rw [fw_lp_step]
    have nx := few_all K k0 l hK hl j (i + 1) (by omega)
    refine brP_d (fun _ => ⟨by omega, by unfold I64; omega, ?_⟩) (fun h' => by omega)
    rw [Int.toNat_natCast]
    exact nx
attribute [local irreducible] fnP in
theorem outriderlaw20_few_p : ∀ args H K, fewRow args H K → fnP Try.prog Tnb ann_outriderlaw20_few Try.f7 args H K := by
  intro args H K h
  unfold fewRow at h
  split at h
  · obtain ⟨⟨c, rfl, h1, h2, h3, h4, h5⟩, hK⟩ := h
    rw [few_eq]
    exact ⟨by unfold I64; omega, _, few_all K _ c.svs hK h3 c.svs.length 0 (by omega)⟩
  · exact h.elim
def Tcf1 : Specs := ext Tnb 7 (fewRow)
theorem Tcf1_sound : TSound Try.prog Tcf1 := ext_sound Tnb_sound (row_of Tnb_sound mixed Try.func7 (by decide +kernel) outriderlaw20_few_p)
def ann_outriderlaw20_own : Nat → List Nat × Nat × List (List Nat)
  | 3 => ([1, 2, 3, 29, 30, 31, 999999], 0, [])
  | 8 => ([2, 3, 43, 44, 45, 999999], 0, [])
  | 12 => ([2, 3, 8, 43, 44, 45, 69, 70, 71, 999999], 0, [])
  | 4000002 => ([0, 3, 13, 2], 0, [])
  | 4000007 => ([1, 3, 13, 2, 0, 3, 14, 10], 0, [])
  | 4000011 => ([0, 8, 9, 10], 0, [])
  | 4000016 => ([1, 8, 9, 10], 0, [])
  | 4000018 => ([1, 3, 14, 10, 2, 2, 0, 0], 0, [])
  | _ => ([], 0, [])
noncomputable abbrev ot_lp_X : Cx := ⟨Try.prog, Tcf1, Try.f10.ntmps, 0, ann_outriderlaw20_own⟩
noncomputable def ot_lp_c : Code := cAt [.r, .r, .l, .r, .b] (bodyOf Try.f10)
noncomputable def ot_lp_k (K : AVal → Hp → Prop) : Post := kAt ot_lp_X [.r, .r, .l, .r, .b] (bodyOf Try.f10) (fnK Try.prog 0 Try.f10.results.toList K)
def ot_lp_n (K : AVal → Hp → Prop) (n : Nat) (s : St) : Prop := loopP (awp ot_lp_X (loopB ot_lp_c)) 0 [1, 2, 3, 29, 30, 31, 999999] n s (ot_lp_k K)
def ot_lp (K : AVal → Hp → Prop) (s : St) : Prop := ∃ n, ot_lp_n K n s
def ot_lp_b (K : AVal → Hp → Prop) (J : St → Prop) (s : St) : Prop := awp ot_lp_X (loopB ot_lp_c) s (seqK (fun s' => normK 0 [1, 2, 3, 29, 30, 31, 999999] s' J) (ot_lp_k K))
theorem ot_lp_next {K : AVal → Hp → Prop} {n : Nat} {s : St} (h : ot_lp_b K (fun s' => ot_lp_n K n s') s) : ot_lp_n K (n + 1) s := h
noncomputable abbrev os_lp_X : Cx := ⟨Try.prog, Tcf1, Try.f10.ntmps, 0, ann_outriderlaw20_own⟩
noncomputable def os_lp_c : Code := cAt [.r, .r, .r, .l, .r, .b] (bodyOf Try.f10)
noncomputable def os_lp_k (K : AVal → Hp → Prop) : Post := kAt os_lp_X [.r, .r, .r, .l, .r, .b] (bodyOf Try.f10) (fnK Try.prog 0 Try.f10.results.toList K)
def os_lp_n (K : AVal → Hp → Prop) (n : Nat) (s : St) : Prop := loopP (awp os_lp_X (loopB os_lp_c)) 0 [2, 3, 43, 44, 45, 999999] n s (os_lp_k K)
def os_lp (K : AVal → Hp → Prop) (s : St) : Prop := ∃ n, os_lp_n K n s
def os_lp_b (K : AVal → Hp → Prop) (J : St → Prop) (s : St) : Prop := awp os_lp_X (loopB os_lp_c) s (seqK (fun s' => normK 0 [2, 3, 43, 44, 45, 999999] s' J) (os_lp_k K))
theorem os_lp_next {K : AVal → Hp → Prop} {n : Nat} {s : St} (h : os_lp_b K (fun s' => os_lp_n K n s') s) : os_lp_n K (n + 1) s := h
noncomputable abbrev ob_lp_X : Cx := ⟨Try.prog, Tcf1, Try.f10.ntmps, 0, ann_outriderlaw20_own⟩
noncomputable def ob_lp_c : Code := cAt [.r, .r, .l, .b, .r, .r, .l, .r, .b] (loopB os_lp_c)
noncomputable def ob_lp_k (I : St → Prop) (K : AVal → Hp → Prop) : Post := kAt ob_lp_X [.r, .r, .l, .b, .r, .r, .l, .r, .b] (loopB os_lp_c) (seqK (fun s' => normK 0 [2, 3, 43, 44, 45, 999999] s' I) (os_lp_k K))
def ob_lp_n (I : St → Prop) (K : AVal → Hp → Prop) (n : Nat) (s : St) : Prop := loopP (awp ob_lp_X (loopB ob_lp_c)) 0 [2, 3, 8, 43, 44, 45, 69, 70, 71, 999999] n s (ob_lp_k I K)
def ob_lp (I : St → Prop) (K : AVal → Hp → Prop) (s : St) : Prop := ∃ n, ob_lp_n I K n s
def ob_lp_b (I : St → Prop) (K : AVal → Hp → Prop) (J : St → Prop) (s : St) : Prop := awp ob_lp_X (loopB ob_lp_c) s (seqK (fun s' => normK 0 [2, 3, 8, 43, 44, 45, 69, 70, 71, 999999] s' J) (ob_lp_k I K))
theorem ob_lp_next {I : St → Prop} {K : AVal → Hp → Prop} {n : Nat} {s : St} (h : ob_lp_b I K (fun s' => ob_lp_n I K n s') s) : ob_lp_n I K (n + 1) s := h
set_option maxRecDepth 100000 in
theorem own_eq (c : CfV) (K : AVal → Hp → Prop) : fnP Try.prog Tcf1 ann_outriderlaw20_own Try.f10 [.agg (cfCells c)] [] K = (
 ot_lp K
 (St.mk
 [((1 : Nat), AVal.ptr (0 : Nat) (0 : Nat)), ((2 : Nat), AVal.ptr (1 : Nat) (0 : Nat)),
 ((3 : Nat), AVal.ptr (2 : Nat) (0 : Nat)),
 ((29 : Nat),
 AVal.ro (List.length c.trs) (2 : Nat) fun i =>
 [AVal.str (List.getD c.trs i tr0).name, AVal.int IntKind.i64 (List.getD c.trs i tr0).weight]),
 ((30 : Nat), AVal.int IntKind.i64 (↑(List.length c.trs) : Int)), ((31 : Nat), AVal.int IntKind.i64 (0 : Int)),
 ((999999 : Nat), AVal.undef)]
 [ABlk.flat
 [AVal.byte c.mac.b0, AVal.byte c.mac.b1, AVal.byte c.mac.b2, AVal.byte c.mac.b3, AVal.byte c.mac.b4,
 AVal.byte c.mac.b5, AVal.str c.addr, AVal.str c.peer, AVal.int IntKind.i64 c.id, AVal.int IntKind.i64 c.pri,
 AVal.int IntKind.i64 c.every, AVal.bool c.pre,
 AVal.ro (List.length c.vips) (1 : Nat) fun i => [AVal.str (List.getD c.vips i [])],
 AVal.ro (List.length c.trs) (2 : Nat) fun i =>
 [AVal.str (List.getD c.trs i tr0).name, AVal.int IntKind.i64 (List.getD c.trs i tr0).weight],
 AVal.ro (List.length c.svs) (10 : Nat) fun i =>
 [AVal.str (List.getD c.svs i sv0).name, AVal.str (List.getD c.svs i sv0).vip,
 AVal.int IntKind.i64 (List.getD c.svs i sv0).proto, AVal.int IntKind.i64 (List.getD c.svs i sv0).port,
 AVal.int IntKind.i64 (List.getD c.svs i sv0).mode, AVal.int IntKind.i64 (List.getD c.svs i sv0).sched,
 AVal.int IntKind.i64 (List.getD c.svs i sv0).rise, AVal.int IntKind.i64 (List.getD c.svs i sv0).fall,
 AVal.int IntKind.i64 (List.getD c.svs i sv0).probe,
 AVal.ro (List.length (List.getD c.svs i sv0).bks) (10 : Nat) fun i_1 =>
 [AVal.str (List.getD (List.getD c.svs i sv0).bks i_1 bk0).name,
 AVal.str (List.getD (List.getD c.svs i sv0).bks i_1 bk0).addr,
 AVal.byte (List.getD (List.getD c.svs i sv0).bks i_1 bk0).mac.b0,
 AVal.byte (List.getD (List.getD c.svs i sv0).bks i_1 bk0).mac.b1,
 AVal.byte (List.getD (List.getD c.svs i sv0).bks i_1 bk0).mac.b2,
 AVal.byte (List.getD (List.getD c.svs i sv0).bks i_1 bk0).mac.b3,
 AVal.byte (List.getD (List.getD c.svs i sv0).bks i_1 bk0).mac.b4,
 AVal.byte (List.getD (List.getD c.svs i sv0).bks i_1 bk0).mac.b5,
 AVal.int IntKind.i64 (List.getD (List.getD c.svs i sv0).bks i_1 bk0).port,
 AVal.int IntKind.i64 (List.getD (List.getD c.svs i sv0).bks i_1 bk0).weight]]],
 ABlk.flat
 [AVal.byte (0 : UInt8), AVal.byte (0 : UInt8), AVal.byte (0 : UInt8), AVal.byte (0 : UInt8), AVal.byte (0 : UInt8),
 AVal.byte (0 : UInt8), AVal.str [], AVal.str [], AVal.int IntKind.i64 (0 : Int), AVal.int IntKind.i64 (0 : Int),
 AVal.int IntKind.i64 (0 : Int), AVal.bool false, AVal.nilS, AVal.nilS, AVal.nilS],
 ABlk.vals
 [AVal.byte c.mac.b0, AVal.byte c.mac.b1, AVal.byte c.mac.b2, AVal.byte c.mac.b3, AVal.byte c.mac.b4,
 AVal.byte c.mac.b5, AVal.str c.addr, AVal.str c.peer, AVal.int IntKind.i64 c.id, AVal.int IntKind.i64 c.pri,
 AVal.int IntKind.i64 c.every, AVal.bool c.pre,
 AVal.ro (List.length c.vips) (1 : Nat) fun i => [AVal.str (List.getD c.vips i [])],
 AVal.sl (3 : Nat) (0 : Nat) (0 : Nat) (2 : Nat), AVal.nilS],
 ABlk.flat []])) := by kernel_rfl
set_option maxRecDepth 100000 in
theorem ot_lp_step (c : CfV) (i : Nat) (cs : List AVal) (z : Int) (K : AVal → Hp → Prop) (J : St → Prop) : ot_lp_b K J (St.mk [(1, .ptr 0 0), (2, .ptr 1 0), (3, .ptr 2 0), (29, .ro c.trs.length 2 (trF c.trs)), (30, .int .i64 (c.trs.length : Int)), (31, .int .i64 z), (999999, .undef)] [.flat (cfCells c), .flat zeroCf, .vals (cfHead c (.sl 3 0 i 2) .nilS), .flat cs]) = (
 brP (decide (z < (↑(List.length c.trs) : Int)))
 (((0 : Int) ≤ z ∧ z < (↑(List.length c.trs) : Int)) ∧
 ((i + (1 : Nat)) * (24 : Nat) ≤ (140737488355328 : Nat) ∧ List.length cs = i * (2 : Nat)) ∧
 I64 (z + (1 : Int)) ∧
 J
 (St.mk
 [((1 : Nat), AVal.ptr (0 : Nat) (0 : Nat)), ((2 : Nat), AVal.ptr (1 : Nat) (0 : Nat)),
 ((3 : Nat), AVal.ptr (2 : Nat) (0 : Nat)),
 ((29 : Nat),
 AVal.ro (List.length c.trs) (2 : Nat) fun i =>
 [AVal.str (List.getD c.trs i tr0).name, AVal.int IntKind.i64 (List.getD c.trs i tr0).weight]),
 ((30 : Nat), AVal.int IntKind.i64 (↑(List.length c.trs) : Int)),
 ((31 : Nat), AVal.int IntKind.i64 (z + (1 : Int))), ((999999 : Nat), AVal.undef)]
 [ABlk.flat
 [AVal.byte c.mac.b0, AVal.byte c.mac.b1, AVal.byte c.mac.b2, AVal.byte c.mac.b3, AVal.byte c.mac.b4,
 AVal.byte c.mac.b5, AVal.str c.addr, AVal.str c.peer, AVal.int IntKind.i64 c.id, AVal.int IntKind.i64 c.pri,
 AVal.int IntKind.i64 c.every, AVal.bool c.pre,
 AVal.ro (List.length c.vips) (1 : Nat) fun i => [AVal.str (List.getD c.vips i [])],
 AVal.ro (List.length c.trs) (2 : Nat) fun i =>
 [AVal.str (List.getD c.trs i tr0).name, AVal.int IntKind.i64 (List.getD c.trs i tr0).weight],
 AVal.ro (List.length c.svs) (10 : Nat) fun i =>
 [AVal.str (List.getD c.svs i sv0).name, AVal.str (List.getD c.svs i sv0).vip,
 AVal.int IntKind.i64 (List.getD c.svs i sv0).proto, AVal.int IntKind.i64 (List.getD c.svs i sv0).port,
 AVal.int IntKind.i64 (List.getD c.svs i sv0).mode, AVal.int IntKind.i64 (List.getD c.svs i sv0).sched,
 AVal.int IntKind.i64 (List.getD c.svs i sv0).rise, AVal.int IntKind.i64 (List.getD c.svs i sv0).fall,
 AVal.int IntKind.i64 (List.getD c.svs i sv0).probe,
 AVal.ro (List.length (List.getD c.svs i sv0).bks) (10 : Nat) fun i_1 =>
 [AVal.str (List.getD (List.getD c.svs i sv0).bks i_1 bk0).name,
 AVal.str (List.getD (List.getD c.svs i sv0).bks i_1 bk0).addr,
 AVal.byte (List.getD (List.getD c.svs i sv0).bks i_1 bk0).mac.b0,
 AVal.byte (List.getD (List.getD c.svs i sv0).bks i_1 bk0).mac.b1,
 AVal.byte (List.getD (List.getD c.svs i sv0).bks i_1 bk0).mac.b2,
 AVal.byte (List.getD (List.getD c.svs i sv0).bks i_1 bk0).mac.b3,
 AVal.byte (List.getD (List.getD c.svs i sv0).bks i_1 bk0).mac.b4,
 AVal.byte (List.getD (List.getD c.svs i sv0).bks i_1 bk0).mac.b5,
 AVal.int IntKind.i64 (List.getD (List.getD c.svs i sv0).bks i_1 bk0).port,
 AVal.int IntKind.i64 (List.getD (List.getD c.svs i sv0).bks i_1 bk0).weight]]],
 ABlk.flat
 [AVal.byte (0 : UInt8), AVal.byte (0 : UInt8), AVal.byte (0 : UInt8), AVal.byte (0 : UInt8),
 AVal.byte (0 : UInt8), AVal.byte (0 : UInt8), AVal.str [], AVal.str [], AVal.int IntKind.i64 (0 : Int),
 AVal.int IntKind.i64 (0 : Int), AVal.int IntKind.i64 (0 : Int), AVal.bool false, AVal.nilS, AVal.nilS,
 AVal.nilS],
 ABlk.vals
 [AVal.byte c.mac.b0, AVal.byte c.mac.b1, AVal.byte c.mac.b2, AVal.byte c.mac.b3, AVal.byte c.mac.b4,
 AVal.byte c.mac.b5, AVal.str c.addr, AVal.str c.peer, AVal.int IntKind.i64 c.id, AVal.int IntKind.i64 c.pri,
 AVal.int IntKind.i64 c.every, AVal.bool c.pre,
 AVal.ro (List.length c.vips) (1 : Nat) fun i => [AVal.str (List.getD c.vips i [])],
 AVal.sl (3 : Nat) (0 : Nat) (i + (1 : Nat)) (2 : Nat), AVal.nilS],
 ABlk.flat
 (cs ++
 [AVal.str (List.getD c.trs (Int.toNat z) tr0).name,
 AVal.int IntKind.i64 (List.getD c.trs (Int.toNat z) tr0).weight])]))
 (os_lp K
 (St.mk
 [((2 : Nat), AVal.ptr (0 : Nat) (0 : Nat)), ((3 : Nat), AVal.ptr (1 : Nat) (0 : Nat)),
 ((43 : Nat),
 AVal.ro (List.length c.svs) (10 : Nat) fun i =>
 [AVal.str (List.getD c.svs i sv0).name, AVal.str (List.getD c.svs i sv0).vip,
 AVal.int IntKind.i64 (List.getD c.svs i sv0).proto, AVal.int IntKind.i64 (List.getD c.svs i sv0).port,
 AVal.int IntKind.i64 (List.getD c.svs i sv0).mode, AVal.int IntKind.i64 (List.getD c.svs i sv0).sched,
 AVal.int IntKind.i64 (List.getD c.svs i sv0).rise, AVal.int IntKind.i64 (List.getD c.svs i sv0).fall,
 AVal.int IntKind.i64 (List.getD c.svs i sv0).probe,
 AVal.ro (List.length (List.getD c.svs i sv0).bks) (10 : Nat) fun i_1 =>
 [AVal.str (List.getD (List.getD c.svs i sv0).bks i_1 bk0).name,
 AVal.str (List.getD (List.getD c.svs i sv0).bks i_1 bk0).addr,
 AVal.byte (List.getD (List.getD c.svs i sv0).bks i_1 bk0).mac.b0,
 AVal.byte (List.getD (List.getD c.svs i sv0).bks i_1 bk0).mac.b1,
 AVal.byte (List.getD (List.getD c.svs i sv0).bks i_1 bk0).mac.b2,
 AVal.byte (List.getD (List.getD c.svs i sv0).bks i_1 bk0).mac.b3,
 AVal.byte (List.getD (List.getD c.svs i sv0).bks i_1 bk0).mac.b4,
 AVal.byte (List.getD (List.getD c.svs i sv0).bks i_1 bk0).mac.b5,
 AVal.int IntKind.i64 (List.getD (List.getD c.svs i sv0).bks i_1 bk0).port,
 AVal.int IntKind.i64 (List.getD (List.getD c.svs i sv0).bks i_1 bk0).weight]]),
 ((44 : Nat), AVal.int IntKind.i64 (↑(List.length c.svs) : Int)), ((45 : Nat), AVal.int IntKind.i64 (0 : Int)),
 ((999999 : Nat), AVal.undef)]
 [ABlk.flat
 [AVal.byte (0 : UInt8), AVal.byte (0 : UInt8), AVal.byte (0 : UInt8), AVal.byte (0 : UInt8),
 AVal.byte (0 : UInt8), AVal.byte (0 : UInt8), AVal.str [], AVal.str [], AVal.int IntKind.i64 (0 : Int),
 AVal.int IntKind.i64 (0 : Int), AVal.int IntKind.i64 (0 : Int), AVal.bool false, AVal.nilS, AVal.nilS,
 AVal.nilS],
 ABlk.vals
 [AVal.byte c.mac.b0, AVal.byte c.mac.b1, AVal.byte c.mac.b2, AVal.byte c.mac.b3, AVal.byte c.mac.b4,
 AVal.byte c.mac.b5, AVal.str c.addr, AVal.str c.peer, AVal.int IntKind.i64 c.id, AVal.int IntKind.i64 c.pri,
 AVal.int IntKind.i64 c.every, AVal.bool c.pre,
 AVal.ro (List.length c.vips) (1 : Nat) fun i => [AVal.str (List.getD c.vips i [])],
 AVal.ro i (2 : Nat) (rowsOf (2 : Nat) (List.take (i * (2 : Nat)) cs)),
 AVal.sl (2 : Nat) (0 : Nat) (0 : Nat) (10 : Nat)],
 ABlk.flat []]))) := by kernel_rfl
set_option maxRecDepth 100000 in
theorem os_lp_step (c : CfV) (i : Nat) (cs : List AVal) (z : Int) (nt : Nat) (ft : Nat → List AVal) (K : AVal → Hp → Prop) (J : St → Prop) : os_lp_b K J (St.mk [(2, .ptr 0 0), (3, .ptr 1 0), (43, .ro c.svs.length 10 (svF c.svs)), (44, .int .i64 (c.svs.length : Int)), (45, .int .i64 z), (999999, .undef)] [.flat zeroCf, .vals (cfHead c (.ro nt 2 ft) (.sl 2 0 i 10)), .flat cs]) = (
 brP (decide (z < (↑(List.length c.svs) : Int)))
 (((0 : Int) ≤ z ∧ z < (↑(List.length c.svs) : Int)) ∧
 ob_lp J K
 (St.mk
 [((2 : Nat), AVal.ptr (0 : Nat) (0 : Nat)), ((3 : Nat), AVal.ptr (1 : Nat) (0 : Nat)),
 ((8 : Nat), AVal.ptr (2 : Nat) (0 : Nat)),
 ((43 : Nat),
 AVal.ro (List.length c.svs) (10 : Nat) fun i =>
 [AVal.str (List.getD c.svs i sv0).name, AVal.str (List.getD c.svs i sv0).vip,
 AVal.int IntKind.i64 (List.getD c.svs i sv0).proto, AVal.int IntKind.i64 (List.getD c.svs i sv0).port,
 AVal.int IntKind.i64 (List.getD c.svs i sv0).mode, AVal.int IntKind.i64 (List.getD c.svs i sv0).sched,
 AVal.int IntKind.i64 (List.getD c.svs i sv0).rise, AVal.int IntKind.i64 (List.getD c.svs i sv0).fall,
 AVal.int IntKind.i64 (List.getD c.svs i sv0).probe,
 AVal.ro (List.length (List.getD c.svs i sv0).bks) (10 : Nat) fun i_1 =>
 [AVal.str (List.getD (List.getD c.svs i sv0).bks i_1 bk0).name,
 AVal.str (List.getD (List.getD c.svs i sv0).bks i_1 bk0).addr,
 AVal.byte (List.getD (List.getD c.svs i sv0).bks i_1 bk0).mac.b0,
 AVal.byte (List.getD (List.getD c.svs i sv0).bks i_1 bk0).mac.b1,
 AVal.byte (List.getD (List.getD c.svs i sv0).bks i_1 bk0).mac.b2,
 AVal.byte (List.getD (List.getD c.svs i sv0).bks i_1 bk0).mac.b3,
 AVal.byte (List.getD (List.getD c.svs i sv0).bks i_1 bk0).mac.b4,
 AVal.byte (List.getD (List.getD c.svs i sv0).bks i_1 bk0).mac.b5,
 AVal.int IntKind.i64 (List.getD (List.getD c.svs i sv0).bks i_1 bk0).port,
 AVal.int IntKind.i64 (List.getD (List.getD c.svs i sv0).bks i_1 bk0).weight]]),
 ((44 : Nat), AVal.int IntKind.i64 (↑(List.length c.svs) : Int)), ((45 : Nat), AVal.int IntKind.i64 z),
 ((69 : Nat),
 AVal.ro (List.length (List.getD c.svs (Int.toNat z) sv0).bks) (10 : Nat) fun i =>
 [AVal.str (List.getD (List.getD c.svs (Int.toNat z) sv0).bks i bk0).name,
 AVal.str (List.getD (List.getD c.svs (Int.toNat z) sv0).bks i bk0).addr,
 AVal.byte (List.getD (List.getD c.svs (Int.toNat z) sv0).bks i bk0).mac.b0,
 AVal.byte (List.getD (List.getD c.svs (Int.toNat z) sv0).bks i bk0).mac.b1,
 AVal.byte (List.getD (List.getD c.svs (Int.toNat z) sv0).bks i bk0).mac.b2,
 AVal.byte (List.getD (List.getD c.svs (Int.toNat z) sv0).bks i bk0).mac.b3,
 AVal.byte (List.getD (List.getD c.svs (Int.toNat z) sv0).bks i bk0).mac.b4,
 AVal.byte (List.getD (List.getD c.svs (Int.toNat z) sv0).bks i bk0).mac.b5,
 AVal.int IntKind.i64 (List.getD (List.getD c.svs (Int.toNat z) sv0).bks i bk0).port,
 AVal.int IntKind.i64 (List.getD (List.getD c.svs (Int.toNat z) sv0).bks i bk0).weight]),
 ((70 : Nat), AVal.int IntKind.i64 (↑(List.length (List.getD c.svs (Int.toNat z) sv0).bks) : Int)),
 ((71 : Nat), AVal.int IntKind.i64 (0 : Int)), ((999999 : Nat), AVal.undef)]
 [ABlk.flat
 [AVal.byte (0 : UInt8), AVal.byte (0 : UInt8), AVal.byte (0 : UInt8), AVal.byte (0 : UInt8),
 AVal.byte (0 : UInt8), AVal.byte (0 : UInt8), AVal.str [], AVal.str [], AVal.int IntKind.i64 (0 : Int),
 AVal.int IntKind.i64 (0 : Int), AVal.int IntKind.i64 (0 : Int), AVal.bool false, AVal.nilS, AVal.nilS,
 AVal.nilS],
 ABlk.vals
 [AVal.byte c.mac.b0, AVal.byte c.mac.b1, AVal.byte c.mac.b2, AVal.byte c.mac.b3, AVal.byte c.mac.b4,
 AVal.byte c.mac.b5, AVal.str c.addr, AVal.str c.peer, AVal.int IntKind.i64 c.id, AVal.int IntKind.i64 c.pri,
 AVal.int IntKind.i64 c.every, AVal.bool c.pre,
 AVal.ro (List.length c.vips) (1 : Nat) fun i => [AVal.str (List.getD c.vips i [])], AVal.ro nt (2 : Nat) ft,
 AVal.sl (3 : Nat) (0 : Nat) i (10 : Nat)],
 ABlk.vals
 [AVal.str (List.getD c.svs (Int.toNat z) sv0).name, AVal.str (List.getD c.svs (Int.toNat z) sv0).vip,
 AVal.int IntKind.i64 (List.getD c.svs (Int.toNat z) sv0).proto,
 AVal.int IntKind.i64 (List.getD c.svs (Int.toNat z) sv0).port,
 AVal.int IntKind.i64 (List.getD c.svs (Int.toNat z) sv0).mode,
 AVal.int IntKind.i64 (List.getD c.svs (Int.toNat z) sv0).sched,
 AVal.int IntKind.i64 (List.getD c.svs (Int.toNat z) sv0).rise,
 AVal.int IntKind.i64 (List.getD c.svs (Int.toNat z) sv0).fall,
 AVal.int IntKind.i64 (List.getD c.svs (Int.toNat z) sv0).probe,
 AVal.sl (4 : Nat) (0 : Nat) (0 : Nat) (10 : Nat)],
 ABlk.flat cs, ABlk.flat []]))
 (K
 (AVal.agg
 [AVal.byte c.mac.b0, AVal.byte c.mac.b1, AVal.byte c.mac.b2, AVal.byte c.mac.b3, AVal.byte c.mac.b4,
 AVal.byte c.mac.b5, AVal.str c.addr, AVal.str c.peer, AVal.int IntKind.i64 c.id, AVal.int IntKind.i64 c.pri,
 AVal.int IntKind.i64 c.every, AVal.bool c.pre,
 AVal.ro (List.length c.vips) (1 : Nat) fun i => [AVal.str (List.getD c.vips i [])], AVal.ro nt (2 : Nat) ft,
 AVal.ro i (10 : Nat) (rowsOf (10 : Nat) (List.take (i * (10 : Nat)) cs))])
 [])) := by kernel_rfl
set_option maxRecDepth 100000 in
theorem ob_lp_step (c : CfV) (l : List SvV) (s : SvV) (i j : Nat) (cs ds : List AVal) (z q : Int) (nt : Nat) (ft : Nat → List AVal) (I : St → Prop) (K : AVal → Hp → Prop) (J : St → Prop) : ob_lp_b I K J (St.mk [(2, .ptr 0 0), (3, .ptr 1 0), (8, .ptr 2 0), (43, .ro l.length 10 (svF l)), (44, .int .i64 (l.length : Int)), (45, .int .i64 z), (69, .ro s.bks.length 10 (bkF s.bks)), (70, .int .i64 (s.bks.length : Int)), (71, .int .i64 q), (999999, .undef)] [.flat zeroCf, .vals (cfHead c (.ro nt 2 ft) (.sl 3 0 i 10)), .vals (svHead s (.sl 4 0 j 10)), .flat cs, .flat ds]) = (
 brP (decide (q < (↑(List.length s.bks) : Int)))
 (((0 : Int) ≤ q ∧ q < (↑(List.length s.bks) : Int)) ∧
 ((j + (1 : Nat)) * (56 : Nat) ≤ (140737488355328 : Nat) ∧ List.length ds = j * (10 : Nat)) ∧
 I64 (q + (1 : Int)) ∧
 J
 (St.mk
 [((2 : Nat), AVal.ptr (0 : Nat) (0 : Nat)), ((3 : Nat), AVal.ptr (1 : Nat) (0 : Nat)),
 ((8 : Nat), AVal.ptr (2 : Nat) (0 : Nat)),
 ((43 : Nat),
 AVal.ro (List.length l) (10 : Nat) fun i =>
 [AVal.str (List.getD l i sv0).name, AVal.str (List.getD l i sv0).vip,
 AVal.int IntKind.i64 (List.getD l i sv0).proto, AVal.int IntKind.i64 (List.getD l i sv0).port,
 AVal.int IntKind.i64 (List.getD l i sv0).mode, AVal.int IntKind.i64 (List.getD l i sv0).sched,
 AVal.int IntKind.i64 (List.getD l i sv0).rise, AVal.int IntKind.i64 (List.getD l i sv0).fall,
 AVal.int IntKind.i64 (List.getD l i sv0).probe,
 AVal.ro (List.length (List.getD l i sv0).bks) (10 : Nat) fun i_1 =>
 [AVal.str (List.getD (List.getD l i sv0).bks i_1 bk0).name,
 AVal.str (List.getD (List.getD l i sv0).bks i_1 bk0).addr,
 AVal.byte (List.getD (List.getD l i sv0).bks i_1 bk0).mac.b0,
 AVal.byte (List.getD (List.getD l i sv0).bks i_1 bk0).mac.b1,
 AVal.byte (List.getD (List.getD l i sv0).bks i_1 bk0).mac.b2,
 AVal.byte (List.getD (List.getD l i sv0).bks i_1 bk0).mac.b3,
 AVal.byte (List.getD (List.getD l i sv0).bks i_1 bk0).mac.b4,
 AVal.byte (List.getD (List.getD l i sv0).bks i_1 bk0).mac.b5,
 AVal.int IntKind.i64 (List.getD (List.getD l i sv0).bks i_1 bk0).port,
 AVal.int IntKind.i64 (List.getD (List.getD l i sv0).bks i_1 bk0).weight]]),
 ((44 : Nat), AVal.int IntKind.i64 (↑(List.length l) : Int)), ((45 : Nat), AVal.int IntKind.i64 z),
 ((69 : Nat),
 AVal.ro (List.length s.bks) (10 : Nat) fun i =>
 [AVal.str (List.getD s.bks i bk0).name, AVal.str (List.getD s.bks i bk0).addr,
 AVal.byte (List.getD s.bks i bk0).mac.b0, AVal.byte (List.getD s.bks i bk0).mac.b1,
 AVal.byte (List.getD s.bks i bk0).mac.b2, AVal.byte (List.getD s.bks i bk0).mac.b3,
 AVal.byte (List.getD s.bks i bk0).mac.b4, AVal.byte (List.getD s.bks i bk0).mac.b5,
 AVal.int IntKind.i64 (List.getD s.bks i bk0).port, AVal.int IntKind.i64 (List.getD s.bks i bk0).weight]),
 ((70 : Nat), AVal.int IntKind.i64 (↑(List.length s.bks) : Int)),
 ((71 : Nat), AVal.int IntKind.i64 (q + (1 : Int))), ((999999 : Nat), AVal.undef)]
 [ABlk.flat
 [AVal.byte (0 : UInt8), AVal.byte (0 : UInt8), AVal.byte (0 : UInt8), AVal.byte (0 : UInt8),
 AVal.byte (0 : UInt8), AVal.byte (0 : UInt8), AVal.str [], AVal.str [], AVal.int IntKind.i64 (0 : Int),
 AVal.int IntKind.i64 (0 : Int), AVal.int IntKind.i64 (0 : Int), AVal.bool false, AVal.nilS, AVal.nilS,
 AVal.nilS],
 ABlk.vals
 [AVal.byte c.mac.b0, AVal.byte c.mac.b1, AVal.byte c.mac.b2, AVal.byte c.mac.b3, AVal.byte c.mac.b4,
 AVal.byte c.mac.b5, AVal.str c.addr, AVal.str c.peer, AVal.int IntKind.i64 c.id, AVal.int IntKind.i64 c.pri,
 AVal.int IntKind.i64 c.every, AVal.bool c.pre,
 AVal.ro (List.length c.vips) (1 : Nat) fun i => [AVal.str (List.getD c.vips i [])], AVal.ro nt (2 : Nat) ft,
 AVal.sl (3 : Nat) (0 : Nat) i (10 : Nat)],
 ABlk.vals
 [AVal.str s.name, AVal.str s.vip, AVal.int IntKind.i64 s.proto, AVal.int IntKind.i64 s.port,
 AVal.int IntKind.i64 s.mode, AVal.int IntKind.i64 s.sched, AVal.int IntKind.i64 s.rise,
 AVal.int IntKind.i64 s.fall, AVal.int IntKind.i64 s.probe,
 AVal.sl (4 : Nat) (0 : Nat) (j + (1 : Nat)) (10 : Nat)],
 ABlk.flat cs,
 ABlk.flat
 (ds ++
 [AVal.str (List.getD s.bks (Int.toNat q) bk0).name, AVal.str (List.getD s.bks (Int.toNat q) bk0).addr,
 AVal.byte (List.getD s.bks (Int.toNat q) bk0).mac.b0, AVal.byte (List.getD s.bks (Int.toNat q) bk0).mac.b1,
 AVal.byte (List.getD s.bks (Int.toNat q) bk0).mac.b2, AVal.byte (List.getD s.bks (Int.toNat q) bk0).mac.b3,
 AVal.byte (List.getD s.bks (Int.toNat q) bk0).mac.b4, AVal.byte (List.getD s.bks (Int.toNat q) bk0).mac.b5,
 AVal.int IntKind.i64 (List.getD s.bks (Int.toNat q) bk0).port,
 AVal.int IntKind.i64 (List.getD s.bks (Int.toNat q) bk0).weight])]))
 (((i + (1 : Nat)) * (112 : Nat) ≤ (140737488355328 : Nat) ∧ List.length cs = i * (10 : Nat)) ∧
 I64 (z + (1 : Int)) ∧
 I
 (St.mk
 [((2 : Nat), AVal.ptr (0 : Nat) (0 : Nat)), ((3 : Nat), AVal.ptr (1 : Nat) (0 : Nat)),
 ((43 : Nat),
 AVal.ro (List.length l) (10 : Nat) fun i =>
 [AVal.str (List.getD l i sv0).name, AVal.str (List.getD l i sv0).vip,
 AVal.int IntKind.i64 (List.getD l i sv0).proto, AVal.int IntKind.i64 (List.getD l i sv0).port,
 AVal.int IntKind.i64 (List.getD l i sv0).mode, AVal.int IntKind.i64 (List.getD l i sv0).sched,
 AVal.int IntKind.i64 (List.getD l i sv0).rise, AVal.int IntKind.i64 (List.getD l i sv0).fall,
 AVal.int IntKind.i64 (List.getD l i sv0).probe,
 AVal.ro (List.length (List.getD l i sv0).bks) (10 : Nat) fun i_1 =>
 [AVal.str (List.getD (List.getD l i sv0).bks i_1 bk0).name,
 AVal.str (List.getD (List.getD l i sv0).bks i_1 bk0).addr,
 AVal.byte (List.getD (List.getD l i sv0).bks i_1 bk0).mac.b0,
 AVal.byte (List.getD (List.getD l i sv0).bks i_1 bk0).mac.b1,
 AVal.byte (List.getD (List.getD l i sv0).bks i_1 bk0).mac.b2,
 AVal.byte (List.getD (List.getD l i sv0).bks i_1 bk0).mac.b3,
 AVal.byte (List.getD (List.getD l i sv0).bks i_1 bk0).mac.b4,
 AVal.byte (List.getD (List.getD l i sv0).bks i_1 bk0).mac.b5,
 AVal.int IntKind.i64 (List.getD (List.getD l i sv0).bks i_1 bk0).port,
 AVal.int IntKind.i64 (List.getD (List.getD l i sv0).bks i_1 bk0).weight]]),
 ((44 : Nat), AVal.int IntKind.i64 (↑(List.length l) : Int)), ((45 : Nat), AVal.int IntKind.i64 (z + (1 : Int))),
 ((999999 : Nat), AVal.undef)]
 [ABlk.flat
 [AVal.byte (0 : UInt8), AVal.byte (0 : UInt8), AVal.byte (0 : UInt8), AVal.byte (0 : UInt8),
 AVal.byte (0 : UInt8), AVal.byte (0 : UInt8), AVal.str [], AVal.str [], AVal.int IntKind.i64 (0 : Int),
 AVal.int IntKind.i64 (0 : Int), AVal.int IntKind.i64 (0 : Int), AVal.bool false, AVal.nilS, AVal.nilS,
 AVal.nilS],
 ABlk.vals
 [AVal.byte c.mac.b0, AVal.byte c.mac.b1, AVal.byte c.mac.b2, AVal.byte c.mac.b3, AVal.byte c.mac.b4,
 AVal.byte c.mac.b5, AVal.str c.addr, AVal.str c.peer, AVal.int IntKind.i64 c.id, AVal.int IntKind.i64 c.pri,
 AVal.int IntKind.i64 c.every, AVal.bool c.pre,
 AVal.ro (List.length c.vips) (1 : Nat) fun i => [AVal.str (List.getD c.vips i [])], AVal.ro nt (2 : Nat) ft,
 AVal.sl (2 : Nat) (0 : Nat) (i + (1 : Nat)) (10 : Nat)],
 ABlk.flat
 (cs ++
 [AVal.str s.name, AVal.str s.vip, AVal.int IntKind.i64 s.proto, AVal.int IntKind.i64 s.port,
 AVal.int IntKind.i64 s.mode, AVal.int IntKind.i64 s.sched, AVal.int IntKind.i64 s.rise,
 AVal.int IntKind.i64 s.fall, AVal.int IntKind.i64 s.probe,
 AVal.ro j (10 : Nat) (rowsOf (10 : Nat) (List.take (j * (10 : Nat)) ds))])]))) := by kernel_rfl
attribute [local irreducible] ot_lp_n ot_lp_b os_lp_n os_lp_b ob_lp_n ob_lp_b
theorem ob_all (J : St → Prop) (K : AVal → Hp → Prop) (c : CfV) (l : List SvV) (s : SvV) (i : Nat) (cs : List AVal) (z : Int) (nt : Nat) (ft : Nat → List AVal) (hz : I64 (z + 1)) (hi : (i + 1) * 112 ≤ 140737488355328) (hcs : cs.length = i * 10) (hb : s.bks.length ≤ 2513169434870)
    (hJ : J (St.mk [(2, .ptr 0 0), (3, .ptr 1 0), (43, .ro l.length 10 (svF l)), (44, .int .i64 (l.length : Int)), (45, .int .i64 (z + 1)), (999999, .undef)] [.flat zeroCf, .vals (cfHead c (.ro nt 2 ft) (.sl 2 0 (i + 1) 10)), .flat (cs ++ svHead s (.ro s.bks.length 10 (rowsOf 10 (((List.range s.bks.length).flatMap (bkF s.bks)).take (s.bks.length * 10)))))])) : ∀ (k j : Nat), j + k = s.bks.length →
    ob_lp_n J K (k + 1) (St.mk [(2, .ptr 0 0), (3, .ptr 1 0), (8, .ptr 2 0), (43, .ro l.length 10 (svF l)), (44, .int .i64 (l.length : Int)), (45, .int .i64 z), (69, .ro s.bks.length 10 (bkF s.bks)), (70, .int .i64 (s.bks.length : Int)), (71, .int .i64 (j : Int)), (999999, .undef)] [.flat zeroCf, .vals (cfHead c (.ro nt 2 ft) (.sl 3 0 i 10)), .vals (svHead s (.sl 4 0 j 10)), .flat cs, .flat ((List.range j).flatMap (bkF s.bks))])
  | 0, j, h => by
    refine ob_lp_next ?_
    rw [ob_lp_step]
    obtain rfl : j = s.bks.length := by omega
    exact brP_d (fun h' => by omega) (fun _ => ⟨⟨hi, hcs⟩, hz, hJ⟩)
  | k + 1, j, h => by
    refine ob_lp_next ?_
    rw [ob_lp_step]
    have nx := ob_all J K c l s i cs z nt ft hz hi hcs hb hJ k (j + 1) (by omega)
    rw [fm_succ] at nx
    refine brP_d (fun _ => ⟨by omega, ⟨by omega, fm_len (n := 10) (u := bkF s.bks) (fun _ => rfl) j⟩, by unfold I64; omega, ?_⟩) (fun h' => by omega)
    rw [Int.toNat_natCast]
    exact nx
theorem os_all (K : AVal → Hp → Prop) (c : CfV) (nt : Nat) (ft : Nat → List AVal) (hl : c.svs.length ≤ 1256584717440) (hs : ∀ s ∈ c.svs, SvOk s)
    (hK : K (.agg (cfHead c (.ro nt 2 ft) (.ro c.svs.length 10 (rowsOf 10 (((List.range c.svs.length).flatMap (svOwn c.svs)).take (c.svs.length * 10)))))) []) : ∀ (k i : Nat), i + k = c.svs.length →
    os_lp_n K (k + 1) (St.mk [(2, .ptr 0 0), (3, .ptr 1 0), (43, .ro c.svs.length 10 (svF c.svs)), (44, .int .i64 (c.svs.length : Int)), (45, .int .i64 (i : Int)), (999999, .undef)] [.flat zeroCf, .vals (cfHead c (.ro nt 2 ft) (.sl 2 0 i 10)), .flat ((List.range i).flatMap (svOwn c.svs))])
  | 0, i, h => by
    refine os_lp_next ?_
    rw [os_lp_step]
    obtain rfl : i = c.svs.length := by omega
    exact brP_d (fun h' => by omega) (fun _ => hK)
  | k + 1, i, h => by
    refine os_lp_next ?_
    rw [os_lp_step]
    have nx := os_all K c nt ft hl hs hK k (i + 1) (by omega)
    rw [fm_succ] at nx
    refine brP_d (fun _ => ⟨by omega, ?_⟩) (fun h' => by omega)
    rw [Int.toNat_natCast]
    have hsi : SvOk (c.svs.getD i sv0) := by
      rw [List.getD_eq_getElem?_getD, List.getElem?_eq_getElem (by omega)]
      exact hs _ (List.getElem_mem _)
    exact ⟨_, ob_all _ K c c.svs (c.svs.getD i sv0) i _ (i : Int) nt ft (by unfold I64; omega) (by omega) (fm_len (n := 10) (u := svOwn c.svs) (fun _ => rfl) i) hsi.1 nx (c.svs.getD i sv0).bks.length 0 (by omega)⟩
theorem ot_all (K : AVal → Hp → Prop) (c : CfV) (hc : CfOk c) (hK : K (.agg (cfHead c (.ro c.trs.length 2 (rowsOf 2 (((List.range c.trs.length).flatMap (trF c.trs)).take (c.trs.length * 2)))) (.ro c.svs.length 10 (rowsOf 10 (((List.range c.svs.length).flatMap (svOwn c.svs)).take (c.svs.length * 10)))))) []) : ∀ (k i : Nat), i + k = c.trs.length →
    ot_lp_n K (k + 1) (St.mk [(1, .ptr 0 0), (2, .ptr 1 0), (3, .ptr 2 0), (29, .ro c.trs.length 2 (trF c.trs)), (30, .int .i64 (c.trs.length : Int)), (31, .int .i64 (i : Int)), (999999, .undef)] [.flat (cfCells c), .flat zeroCf, .vals (cfHead c (.sl 3 0 i 2) .nilS), .flat ((List.range i).flatMap (trF c.trs))])
  | 0, i, h => by
    refine ot_lp_next ?_
    rw [ot_lp_step]
    obtain rfl : i = c.trs.length := by omega
    obtain ⟨h1, h2, h3, h4, h5⟩ := hc
    exact brP_d (fun h' => by omega) (fun _ => ⟨_, os_all K c _ _ h3 h5 hK c.svs.length 0 (by omega)⟩)
  | k + 1, i, h => by
    refine ot_lp_next ?_
    rw [ot_lp_step]
    have nx := ot_all K c hc hK k (i + 1) (by omega)
    rw [fm_succ] at nx
    obtain ⟨h1, h2, h3, h4, h5⟩ := hc
    refine brP_d (fun _ => ⟨by omega, ⟨by omega, fm_len (n := 2) (u := trF c.trs) (fun _ => rfl) i⟩, by unfold I64; omega, ?_⟩) (fun h' => by omega)
    rw [Int.toNat_natCast]
    exact nx
attribute [local irreducible] fnP in
theorem outriderlaw20_own_p : ∀ args H K, ownRow args H K → ∃ args', ArgsLe H args args' ∧ fnP Try.prog Tcf1 ann_outriderlaw20_own Try.f10 args' H (fun v H' => ∃ v2 H2, ResLe v H' v2 H2 ∧ K v2 H2) := by
  intro args H K h
  unfold ownRow at h
  split at h
  · obtain ⟨⟨c, rfl, hc⟩, hK⟩ := h
    refine ⟨[.agg (cfCells c)], .refl, ?_⟩
    rw [own_eq]
    exact ⟨_, ot_all _ c hc ⟨_, _, .val (ve_own c), hK⟩ c.trs.length 0 (by omega)⟩
  · exact h.elim
def Tcf2 : Specs := ext Tcf1 10 (ownRow)
theorem Tcf2_sound : TSound Try.prog Tcf2 := ext_sound Tcf1_sound (row_weak Tcf1_sound mixed Try.func10 (by decide +kernel) outriderlaw20_own_p)
abbrev Tcf : Specs := Tcf2
theorem Tcf_sound : TSound Try.prog Tcf := Tcf2_sound
end Go.Proofs.Ytnbbaemijogeoaa.Ae

