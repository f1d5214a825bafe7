/- Chapter 1's Changes as rows. -/
import Derived.Test.YtbmiaohigkjeeaaAeCk
import Derived.Test.YtbmiaohigkjeeaaAeRw
namespace Go.Proofs.Ytbmiaohigkjeeaa.Ae
open Go Go.RowKit
theorem stp_drewN {R : Nat → Prop} {m : Mp} {H : Hp} : ∀ (q : Nat) {w : World}, Sim R w m H → Stp R w m H (w.drewN q) m H
  | 0, w, hS => .refl hS
  | q + 1, w, hS => by
    have s := hS.drew
    have e : w.drew.drewN q = w.drewN (q + 1) := by rw [World.drewN_drew, Nat.add_comm]
    have t := stp_drewN q s.sim
    rw [e] at t
    exact s.trans t
def chgRow16 : Srow := fun args H K => match args, H with
  | [.int .u16 s, .roB l, .roB m], [] => (0 ≤ s ∧ s ≤ 65535 ∧ l.length = m.length ∧ l.length % 2 = 0) ∧ K (.tup [.int .u16 (chg s l m), .bool true]) []
  | _, _ => False
def chgRow64 : Srow := fun args H K => match args, H with
  | [.int .i64 s, .roB l, .roB m], [] => (0 ≤ s ∧ s ≤ 65535 ∧ l.length = m.length ∧ l.length % 2 = 0) ∧ K (.tup [.int .i64 (chg s l m), .bool true]) []
  | _, _ => False
theorem chg_sound {P : Program} {f : Nat} {k : IntKind} {s' : Int} {l m : List UInt8} {K : AVal → Hp → Prop} (hfn : ∃ fn, P.funcs[f]? = some fn ∧ (fn.name == "runtime.NumGoroutine") = false ∧ fn.body.isNone = false)
    (hc : ∀ (a b : Option Addr) (n c d : Nat) (w : World), Bytes w a n c l → Bytes w b n d m → n % 2 = 0 → Calls P f #[.int k s', .slice a n c, .slice b n d] w fun e w' => e = .returned (.tuple #[.int k (chg s' l m), .bool true]) ∧ Drew w w')
    (h2 : l.length = m.length) (h3 : l.length % 2 = 0) (hK : K (.tup [.int k (chg s' l m), .bool true]) []) : ∃ v H', K v H' ∧ Gives P f [.int k s', .roB l, .roB m] [] v H' := by
  refine ⟨_, [], hK, hfn, fun R w mp xs hS hx => ?_⟩
  obtain ⟨x0, r0, rfl, hx0, hr0⟩ := hx.cons_inv
  obtain ⟨x1, r1, rfl, hx1, hr1⟩ := hr0.cons_inv
  obtain ⟨x2, rfl, hx2⟩ := hr1.one
  cases hx0
  obtain ⟨a, c, rfl, hA⟩ := bytes_of hx1
  obtain ⟨b, d, rfl, hB⟩ := bytes_of hx2
  rw [← h2] at hB
  have := hc a b l.length c d w hA hB h3
  rw [← h2]
  refine this.mono ?_
  rintro e w' ⟨he, q, rfl⟩
  have s := stp_drewN q hS
  refine ⟨R, mp, _, he, s.far, .tup _ [.int k (chg s' l m), .bool true] rfl fun i v x hv hx => ?_⟩
  match i, hv, hx with
  | 0, hv, hx => cases hv; cases hx; exact .int _ _
  | 1, hv, hx => cases hv; cases hx; exact .bool _
theorem chg16_row {args : List AVal} {H : Hp} {K : AVal → Hp → Prop} (h : chgRow16 args H K) : ∃ v H', K v H' ∧ Gives Try.prog 57 args H v H' := by
  unfold chgRow16 at h
  split at h
  · obtain ⟨⟨h0, h1, h2, h3⟩, hK⟩ := h
    exact chg_sound ⟨_, Try.func57, by decide +kernel, rfl⟩ (fun a b n c d w hA hB hn => change_c _ a b n c d _ _ w ⟨h0, h1⟩ hA hB hn) h2 h3 hK
  · exact h.elim
theorem chg64_row {args : List AVal} {H : Hp} {K : AVal → Hp → Prop} (h : chgRow64 args H K) : ∃ v H', K v H' ∧ Gives Try.prog 47 args H v H' := by
  unfold chgRow64 at h
  split at h
  · obtain ⟨⟨h0, h1, h2, h3⟩, hK⟩ := h
    exact chg_sound ⟨_, Try.func47, by decide +kernel, rfl⟩ (fun a b n c d w hA hB hn => refChange_c _ a b n c d _ _ w ⟨h0, h1⟩ hA hB hn) h2 h3 hK
  · exact h.elim
end Go.Proofs.Ytbmiaohigkjeeaa.Ae
