/-
  No cell of these rows narrows 'for every input' (looked for: loops, veiled, ifaces, maps, wideKeys, modest, calm, conditions, laid).
  DERIVED. THE GIVEN ROWS OF THIS SEAT. 8 by the template 'for every input the law returns true; each argument reads behind the call as it read before'; 0 by the template 'total and deterministic' (their statements: YtldfkjjjjfbbmaaTotals.lean).
  GIVEN WITH THE SEED: the statements are not yours to turn. If you find one false, say at which input.
  Laid BY PROGRAM, IN A SANDBOX (cutbox-rows.mjs): the forced cells as the released guide's own fill.sh prints them over the translation 6a258e6711e16161… (all of the seat's roots in one cut). By AI agents, Wed Nov 11 2026. No macro, syntax, notation, axiom, sorry.
-/
import Derived.Test.YtldfkjjjjfbbmaaChecked
import GoSem.Claim
import GoSem.ClaimJoined
import GoSem.ClaimMapViews
import Derived.JoinedTies
import Derived.KernelRfl
namespace Go.Proofs.Ytldfkjjjjfbbmaa
/- THE CELL 'sum', in the pinned program and in every row, IS THE sha256 OF THE DUMP (.gsa) THAT YtldfkjjjjfbbmaaProg.lean LOADS. Nothing in Lean hashes anything: it is a label: what it is worth is what the hold of that sum in a sandbox is worth. -/
noncomputable def Try.pinned : Pinned := { name := "ytldfkjjjjfbbmaa", sum := "6a258e6711e16161c7b9bba3da7797c805aa394db87a083d1efdb340acb049f2", checked := Try.checked }
namespace Rows
def none {H : Type} : Left H := { results := [], args := [] }

/-- 'outriderlaw13.VrrpSkews': WHATEVER THE INPUT: true; the input reads as it did. -/
def vrrpSkewsSpec : ChangeSpec := { name := "vrrpSkews", fn := fun _ => fun
  | [d1, d2] => { results := [.lit (.bool true)], args := [d1, d2] }
  | _ => none }
def vrrpSkewsRow : OpenClaim := { program := "ytldfkjjjjfbbmaa", sum := "6a258e6711e16161c7b9bba3da7797c805aa394db87a083d1efdb340acb049f2", func := "outrider/outriderlaw13.VrrpSkews", spec := "vrrpSkews", unfollowed := true, recurses := true, apart := false }
def VrrpSkewsSaid : Prop := vrrpSkewsRow.holds Try.pinned (OpenSpec.ofChange vrrpSkewsSpec)

/-- ITS FALSE NEIGHBOUR: 'it returns false'. Refute it at one input. -/
def vrrpSkewsWrong : ChangeSpec := { name := "vrrpSkews", fn := fun _ => fun
  | [d1, d2] => { results := [.lit (.bool false)], args := [d1, d2] }
  | _ => none }
def VrrpSkewsWrongFalsely : Prop := vrrpSkewsRow.holds Try.pinned (OpenSpec.ofChange vrrpSkewsWrong)

/-- 'outriderlaw13.VrrpSends': WHATEVER THE INPUT: true; the input reads as it did. -/
def vrrpSendsSpec : ChangeSpec := { name := "vrrpSends", fn := fun _ => fun
  | [d1, d2] => { results := [.lit (.bool true)], args := [d1, d2] }
  | _ => none }
def vrrpSendsRow : OpenClaim := { program := "ytldfkjjjjfbbmaa", sum := "6a258e6711e16161c7b9bba3da7797c805aa394db87a083d1efdb340acb049f2", func := "outrider/outriderlaw13.VrrpSends", spec := "vrrpSends", unfollowed := true, recurses := true, apart := false }
def VrrpSendsSaid : Prop := vrrpSendsRow.holds Try.pinned (OpenSpec.ofChange vrrpSendsSpec)

/-- ITS FALSE NEIGHBOUR: 'it returns false'. Refute it at one input. -/
def vrrpSendsWrong : ChangeSpec := { name := "vrrpSends", fn := fun _ => fun
  | [d1, d2] => { results := [.lit (.bool false)], args := [d1, d2] }
  | _ => none }
def VrrpSendsWrongFalsely : Prop := vrrpSendsRow.holds Try.pinned (OpenSpec.ofChange vrrpSendsWrong)

/-- 'outriderlaw13.VrrpWaits': WHATEVER THE INPUT: true; the input reads as it did. -/
def vrrpWaitsSpec : ChangeSpec := { name := "vrrpWaits", fn := fun _ => fun
  | [d1, d2, d3] => { results := [.lit (.bool true)], args := [d1, d2, d3] }
  | _ => none }
def vrrpWaitsRow : OpenClaim := { program := "ytldfkjjjjfbbmaa", sum := "6a258e6711e16161c7b9bba3da7797c805aa394db87a083d1efdb340acb049f2", func := "outrider/outriderlaw13.VrrpWaits", spec := "vrrpWaits", unfollowed := true, recurses := true, apart := false }
def VrrpWaitsSaid : Prop := vrrpWaitsRow.holds Try.pinned (OpenSpec.ofChange vrrpWaitsSpec)

/-- ITS FALSE NEIGHBOUR: 'it returns false'. Refute it at one input. -/
def vrrpWaitsWrong : ChangeSpec := { name := "vrrpWaits", fn := fun _ => fun
  | [d1, d2, d3] => { results := [.lit (.bool false)], args := [d1, d2, d3] }
  | _ => none }
def VrrpWaitsWrongFalsely : Prop := vrrpWaitsRow.holds Try.pinned (OpenSpec.ofChange vrrpWaitsWrong)

/-- 'outriderlaw13.VrrpYields': WHATEVER THE INPUT: true; the input reads as it did. -/
def vrrpYieldsSpec : ChangeSpec := { name := "vrrpYields", fn := fun _ => fun
  | [d1, d2, d3] => { results := [.lit (.bool true)], args := [d1, d2, d3] }
  | _ => none }
def vrrpYieldsRow : OpenClaim := { program := "ytldfkjjjjfbbmaa", sum := "6a258e6711e16161c7b9bba3da7797c805aa394db87a083d1efdb340acb049f2", func := "outrider/outriderlaw13.VrrpYields", spec := "vrrpYields", unfollowed := true, recurses := true, apart := false }
def VrrpYieldsSaid : Prop := vrrpYieldsRow.holds Try.pinned (OpenSpec.ofChange vrrpYieldsSpec)

/-- ITS FALSE NEIGHBOUR: 'it returns false'. Refute it at one input. -/
def vrrpYieldsWrong : ChangeSpec := { name := "vrrpYields", fn := fun _ => fun
  | [d1, d2, d3] => { results := [.lit (.bool false)], args := [d1, d2, d3] }
  | _ => none }
def VrrpYieldsWrongFalsely : Prop := vrrpYieldsRow.holds Try.pinned (OpenSpec.ofChange vrrpYieldsWrong)

/-- 'outriderlaw13.VrrpAll': WHATEVER THE INPUT: true; the input reads as it did. -/
def vrrpAllSpec : ChangeSpec := { name := "vrrpAll", fn := fun _ => fun
  | [d1, d2] => { results := [.lit (.bool true)], args := [d1, d2] }
  | _ => none }
def vrrpAllRow : OpenClaim := { program := "ytldfkjjjjfbbmaa", sum := "6a258e6711e16161c7b9bba3da7797c805aa394db87a083d1efdb340acb049f2", func := "outrider/outriderlaw13.VrrpAll", spec := "vrrpAll", unfollowed := true, recurses := true, apart := false }
def VrrpAllSaid : Prop := vrrpAllRow.holds Try.pinned (OpenSpec.ofChange vrrpAllSpec)

/-- ITS FALSE NEIGHBOUR: 'it returns false'. Refute it at one input. -/
def vrrpAllWrong : ChangeSpec := { name := "vrrpAll", fn := fun _ => fun
  | [d1, d2] => { results := [.lit (.bool false)], args := [d1, d2] }
  | _ => none }
def VrrpAllWrongFalsely : Prop := vrrpAllRow.holds Try.pinned (OpenSpec.ofChange vrrpAllWrong)

/-- 'outriderlaw13.VrrpStopped': WHATEVER THE INPUT: true; the input reads as it did. -/
def vrrpStoppedSpec : ChangeSpec := { name := "vrrpStopped", fn := fun _ => fun
  | [d1, d2] => { results := [.lit (.bool true)], args := [d1, d2] }
  | _ => none }
def vrrpStoppedRow : OpenClaim := { program := "ytldfkjjjjfbbmaa", sum := "6a258e6711e16161c7b9bba3da7797c805aa394db87a083d1efdb340acb049f2", func := "outrider/outriderlaw13.VrrpStopped", spec := "vrrpStopped", unfollowed := true, recurses := true, apart := false }
def VrrpStoppedSaid : Prop := vrrpStoppedRow.holds Try.pinned (OpenSpec.ofChange vrrpStoppedSpec)

/-- ITS FALSE NEIGHBOUR: 'it returns false'. Refute it at one input. -/
def vrrpStoppedWrong : ChangeSpec := { name := "vrrpStopped", fn := fun _ => fun
  | [d1, d2] => { results := [.lit (.bool false)], args := [d1, d2] }
  | _ => none }
def VrrpStoppedWrongFalsely : Prop := vrrpStoppedRow.holds Try.pinned (OpenSpec.ofChange vrrpStoppedWrong)

/-- 'outriderlaw13.VrrpOthers': WHATEVER THE INPUT: true; the input reads as it did. -/
def vrrpOthersSpec : ChangeSpec := { name := "vrrpOthers", fn := fun _ => fun
  | [d1, d2, d3] => { results := [.lit (.bool true)], args := [d1, d2, d3] }
  | _ => none }
def vrrpOthersRow : OpenClaim := { program := "ytldfkjjjjfbbmaa", sum := "6a258e6711e16161c7b9bba3da7797c805aa394db87a083d1efdb340acb049f2", func := "outrider/outriderlaw13.VrrpOthers", spec := "vrrpOthers", unfollowed := true, recurses := true, apart := false }
def VrrpOthersSaid : Prop := vrrpOthersRow.holds Try.pinned (OpenSpec.ofChange vrrpOthersSpec)

/-- ITS FALSE NEIGHBOUR: 'it returns false'. Refute it at one input. -/
def vrrpOthersWrong : ChangeSpec := { name := "vrrpOthers", fn := fun _ => fun
  | [d1, d2, d3] => { results := [.lit (.bool false)], args := [d1, d2, d3] }
  | _ => none }
def VrrpOthersWrongFalsely : Prop := vrrpOthersRow.holds Try.pinned (OpenSpec.ofChange vrrpOthersWrong)

/-- 'outriderlaw13.VrrpClaims': WHATEVER THE INPUT: true; the input reads as it did. -/
def vrrpClaimsSpec : ChangeSpec := { name := "vrrpClaims", fn := fun _ => fun
  | [d1, d2] => { results := [.lit (.bool true)], args := [d1, d2] }
  | _ => none }
def vrrpClaimsRow : OpenClaim := { program := "ytldfkjjjjfbbmaa", sum := "6a258e6711e16161c7b9bba3da7797c805aa394db87a083d1efdb340acb049f2", func := "outrider/outriderlaw13.VrrpClaims", spec := "vrrpClaims", unfollowed := true, recurses := true, apart := false }
def VrrpClaimsSaid : Prop := vrrpClaimsRow.holds Try.pinned (OpenSpec.ofChange vrrpClaimsSpec)

/-- ITS FALSE NEIGHBOUR: 'it returns false'. Refute it at one input. -/
def vrrpClaimsWrong : ChangeSpec := { name := "vrrpClaims", fn := fun _ => fun
  | [d1, d2] => { results := [.lit (.bool false)], args := [d1, d2] }
  | _ => none }
def VrrpClaimsWrongFalsely : Prop := vrrpClaimsRow.holds Try.pinned (OpenSpec.ofChange vrrpClaimsWrong)

/- THE SECOND FORM. 'bulk': how many values and letters a reading holds, each counted each time it is reached (what is shared counts as often as it is met; a slice's spare places count too). A statement '..UptoSaid' is the law's where the arguments, and the package variables that the reading takes, are together of bulk at most 1048576: NARROWER than '..Said'. Prove '..Said' where nothing that the law and all that it calls make is longer than what came in: it says more and counts as full. Else prove '..UptoSaid'. A law counts once. -/
mutual
def uptoBulk {H : Type} : DataW H → Nat
  | .lit (.string bytes) => bytes.length + 1
  | .lit _ => 1
  | .nil => 1
  | .ptr d => uptoBulk d + 1
  | .slice elems spare => uptoBulkAll elems + uptoBulkAll spare + 1
  | .agg parts => uptoBulkAll parts + 1
  | .iface _ d => uptoBulk d + 1
  | .map entries => uptoBulkEntries entries + 1
  | .held _ => 1
def uptoBulkAll {H : Type} : List (DataW H) → Nat
  | [] => 0
  | d :: r => uptoBulk d + uptoBulkAll r
def uptoBulkEntries {H : Type} : List (Lit × DataW H) → Nat
  | [] => 0
  | x :: r => uptoBulkEntry x + uptoBulkEntries r
def uptoBulkEntry {H : Type} : Lit × DataW H → Nat
  | (.string bytes, d) => bytes.length + uptoBulk d + 1
  | (_, d) => uptoBulk d + 1
 end
def uptoSmall : (H : Type) → List (DataW H) → Bool := fun _ ds => decide (uptoBulkAll ds ≤ 1048576)
def OpenSpec.upto (s : _root_.Go.ChangeSpec) : _root_.Go.OpenSpec := { _root_.Go.OpenSpec.ofChange s with cond := some uptoSmall }

/-- 'outriderlaw13.VrrpSkews', WHERE WHAT IT READS IS OF BULK AT MOST 1048576: true; the input reads as it did. -/
def vrrpSkewsUptoRow : OpenClaim := { program := "ytldfkjjjjfbbmaa", sum := "6a258e6711e16161c7b9bba3da7797c805aa394db87a083d1efdb340acb049f2", func := "outrider/outriderlaw13.VrrpSkews", spec := "vrrpSkews", unfollowed := true, recurses := true, apart := false, narrowed := true }
def VrrpSkewsUptoSaid : Prop := vrrpSkewsUptoRow.holds Try.pinned (OpenSpec.upto vrrpSkewsSpec)

/-- 'outriderlaw13.VrrpSends', WHERE WHAT IT READS IS OF BULK AT MOST 1048576: true; the input reads as it did. -/
def vrrpSendsUptoRow : OpenClaim := { program := "ytldfkjjjjfbbmaa", sum := "6a258e6711e16161c7b9bba3da7797c805aa394db87a083d1efdb340acb049f2", func := "outrider/outriderlaw13.VrrpSends", spec := "vrrpSends", unfollowed := true, recurses := true, apart := false, narrowed := true }
def VrrpSendsUptoSaid : Prop := vrrpSendsUptoRow.holds Try.pinned (OpenSpec.upto vrrpSendsSpec)

/-- 'outriderlaw13.VrrpWaits', WHERE WHAT IT READS IS OF BULK AT MOST 1048576: true; the input reads as it did. -/
def vrrpWaitsUptoRow : OpenClaim := { program := "ytldfkjjjjfbbmaa", sum := "6a258e6711e16161c7b9bba3da7797c805aa394db87a083d1efdb340acb049f2", func := "outrider/outriderlaw13.VrrpWaits", spec := "vrrpWaits", unfollowed := true, recurses := true, apart := false, narrowed := true }
def VrrpWaitsUptoSaid : Prop := vrrpWaitsUptoRow.holds Try.pinned (OpenSpec.upto vrrpWaitsSpec)

/-- 'outriderlaw13.VrrpYields', WHERE WHAT IT READS IS OF BULK AT MOST 1048576: true; the input reads as it did. -/
def vrrpYieldsUptoRow : OpenClaim := { program := "ytldfkjjjjfbbmaa", sum := "6a258e6711e16161c7b9bba3da7797c805aa394db87a083d1efdb340acb049f2", func := "outrider/outriderlaw13.VrrpYields", spec := "vrrpYields", unfollowed := true, recurses := true, apart := false, narrowed := true }
def VrrpYieldsUptoSaid : Prop := vrrpYieldsUptoRow.holds Try.pinned (OpenSpec.upto vrrpYieldsSpec)

/-- 'outriderlaw13.VrrpAll', WHERE WHAT IT READS IS OF BULK AT MOST 1048576: true; the input reads as it did. -/
def vrrpAllUptoRow : OpenClaim := { program := "ytldfkjjjjfbbmaa", sum := "6a258e6711e16161c7b9bba3da7797c805aa394db87a083d1efdb340acb049f2", func := "outrider/outriderlaw13.VrrpAll", spec := "vrrpAll", unfollowed := true, recurses := true, apart := false, narrowed := true }
def VrrpAllUptoSaid : Prop := vrrpAllUptoRow.holds Try.pinned (OpenSpec.upto vrrpAllSpec)

/-- 'outriderlaw13.VrrpStopped', WHERE WHAT IT READS IS OF BULK AT MOST 1048576: true; the input reads as it did. -/
def vrrpStoppedUptoRow : OpenClaim := { program := "ytldfkjjjjfbbmaa", sum := "6a258e6711e16161c7b9bba3da7797c805aa394db87a083d1efdb340acb049f2", func := "outrider/outriderlaw13.VrrpStopped", spec := "vrrpStopped", unfollowed := true, recurses := true, apart := false, narrowed := true }
def VrrpStoppedUptoSaid : Prop := vrrpStoppedUptoRow.holds Try.pinned (OpenSpec.upto vrrpStoppedSpec)

/-- 'outriderlaw13.VrrpOthers', WHERE WHAT IT READS IS OF BULK AT MOST 1048576: true; the input reads as it did. -/
def vrrpOthersUptoRow : OpenClaim := { program := "ytldfkjjjjfbbmaa", sum := "6a258e6711e16161c7b9bba3da7797c805aa394db87a083d1efdb340acb049f2", func := "outrider/outriderlaw13.VrrpOthers", spec := "vrrpOthers", unfollowed := true, recurses := true, apart := false, narrowed := true }
def VrrpOthersUptoSaid : Prop := vrrpOthersUptoRow.holds Try.pinned (OpenSpec.upto vrrpOthersSpec)

/-- 'outriderlaw13.VrrpClaims', WHERE WHAT IT READS IS OF BULK AT MOST 1048576: true; the input reads as it did. -/
def vrrpClaimsUptoRow : OpenClaim := { program := "ytldfkjjjjfbbmaa", sum := "6a258e6711e16161c7b9bba3da7797c805aa394db87a083d1efdb340acb049f2", func := "outrider/outriderlaw13.VrrpClaims", spec := "vrrpClaims", unfollowed := true, recurses := true, apart := false, narrowed := true }
def VrrpClaimsUptoSaid : Prop := vrrpClaimsUptoRow.holds Try.pinned (OpenSpec.upto vrrpClaimsSpec)

end Rows
end Go.Proofs.Ytldfkjjjjfbbmaa
