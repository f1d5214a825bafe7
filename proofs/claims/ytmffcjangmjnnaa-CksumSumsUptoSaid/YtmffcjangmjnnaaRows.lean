/-
  No cell of these rows narrows 'for every input' (looked for: loops, veiled, ifaces, maps, wideKeys, modest, calm, conditions, laid).
  DERIVED. THE GIVEN ROWS OF THIS SEAT. 10 by the template 'for every input the law returns true; each argument reads behind the call as it read before'; 0 by the template 'total and deterministic' (their statements: YtmffcjangmjnnaaTotals.lean).
  GIVEN WITH THE SEED: the statements are not yours to turn. If you find one false, say at which input.
  Laid BY PROGRAM, IN A SANDBOX (cutbox-rows.mjs): the forced cells as the released guide's own fill.sh prints them over the translation ab94861c9b3bfe31… (all of the seat's roots in one cut). By AI agents, Wed Nov 11 2026. No macro, syntax, notation, axiom, sorry.
-/
import Derived.Test.YtmffcjangmjnnaaChecked
import GoSem.Claim
import GoSem.ClaimJoined
import GoSem.ClaimMapViews
import Derived.JoinedTies
import Derived.KernelRfl
namespace Go.Proofs.Ytmffcjangmjnnaa
/- THE CELL 'sum', in the pinned program and in every row, IS THE sha256 OF THE DUMP (.gsa) THAT YtmffcjangmjnnaaProg.lean LOADS. Nothing in Lean hashes anything: it is a label: what it is worth is what the hold of that sum in a sandbox is worth. -/
noncomputable def Try.pinned : Pinned := { name := "ytmffcjangmjnnaa", sum := "ab94861c9b3bfe31be190bb3a7bf943bc7cc252f17e6868fd24515c53eece9e1", checked := Try.checked }
namespace Rows
def none {H : Type} : Left H := { results := [], args := [] }

/-- 'outriderlaw01.CksumParts': WHATEVER THE INPUT: true; the input reads as it did. -/
def cksumPartsSpec : ChangeSpec := { name := "cksumParts", fn := fun _ => fun
  | [d1, d2, d3] => { results := [.lit (.bool true)], args := [d1, d2, d3] }
  | _ => none }
def cksumPartsRow : OpenClaim := { program := "ytmffcjangmjnnaa", sum := "ab94861c9b3bfe31be190bb3a7bf943bc7cc252f17e6868fd24515c53eece9e1", func := "outrider/outriderlaw01.CksumParts", spec := "cksumParts", apart := false }
def CksumPartsSaid : Prop := cksumPartsRow.holds Try.pinned (OpenSpec.ofChange cksumPartsSpec)

/-- ITS FALSE NEIGHBOUR: 'it returns false'. Refute it at one input. -/
def cksumPartsWrong : ChangeSpec := { name := "cksumParts", fn := fun _ => fun
  | [d1, d2, d3] => { results := [.lit (.bool false)], args := [d1, d2, d3] }
  | _ => none }
def CksumPartsWrongFalsely : Prop := cksumPartsRow.holds Try.pinned (OpenSpec.ofChange cksumPartsWrong)

/-- 'outriderlaw01.CksumTurned': WHATEVER THE INPUT: true; the input reads as it did. -/
def cksumTurnedSpec : ChangeSpec := { name := "cksumTurned", fn := fun _ => fun
  | [d] => { results := [.lit (.bool true)], args := [d] }
  | _ => none }
def cksumTurnedRow : OpenClaim := { program := "ytmffcjangmjnnaa", sum := "ab94861c9b3bfe31be190bb3a7bf943bc7cc252f17e6868fd24515c53eece9e1", func := "outrider/outriderlaw01.CksumTurned", spec := "cksumTurned", apart := false }
def CksumTurnedSaid : Prop := cksumTurnedRow.holds Try.pinned (OpenSpec.ofChange cksumTurnedSpec)

/-- ITS FALSE NEIGHBOUR: 'it returns false'. Refute it at one input. -/
def cksumTurnedWrong : ChangeSpec := { name := "cksumTurned", fn := fun _ => fun
  | [d] => { results := [.lit (.bool false)], args := [d] }
  | _ => none }
def CksumTurnedWrongFalsely : Prop := cksumTurnedRow.holds Try.pinned (OpenSpec.ofChange cksumTurnedWrong)

/-- 'outriderlaw01.CksumNothing': WHATEVER THE INPUT: true; the input reads as it did. -/
def cksumNothingSpec : ChangeSpec := { name := "cksumNothing", fn := fun _ => fun
  | [d1, d2] => { results := [.lit (.bool true)], args := [d1, d2] }
  | _ => none }
def cksumNothingRow : OpenClaim := { program := "ytmffcjangmjnnaa", sum := "ab94861c9b3bfe31be190bb3a7bf943bc7cc252f17e6868fd24515c53eece9e1", func := "outrider/outriderlaw01.CksumNothing", spec := "cksumNothing", apart := false }
def CksumNothingSaid : Prop := cksumNothingRow.holds Try.pinned (OpenSpec.ofChange cksumNothingSpec)

/-- ITS FALSE NEIGHBOUR: 'it returns false'. Refute it at one input. -/
def cksumNothingWrong : ChangeSpec := { name := "cksumNothing", fn := fun _ => fun
  | [d1, d2] => { results := [.lit (.bool false)], args := [d1, d2] }
  | _ => none }
def CksumNothingWrongFalsely : Prop := cksumNothingRow.holds Try.pinned (OpenSpec.ofChange cksumNothingWrong)

/-- 'outriderlaw01.CksumSums': WHATEVER THE INPUT: true; the input reads as it did. -/
def cksumSumsSpec : ChangeSpec := { name := "cksumSums", fn := fun _ => fun
  | [d1, d2, d3] => { results := [.lit (.bool true)], args := [d1, d2, d3] }
  | _ => none }
def cksumSumsRow : OpenClaim := { program := "ytmffcjangmjnnaa", sum := "ab94861c9b3bfe31be190bb3a7bf943bc7cc252f17e6868fd24515c53eece9e1", func := "outrider/outriderlaw01.CksumSums", spec := "cksumSums", apart := false }
def CksumSumsSaid : Prop := cksumSumsRow.holds Try.pinned (OpenSpec.ofChange cksumSumsSpec)

/-- ITS FALSE NEIGHBOUR: 'it returns false'. Refute it at one input. -/
def cksumSumsWrong : ChangeSpec := { name := "cksumSums", fn := fun _ => fun
  | [d1, d2, d3] => { results := [.lit (.bool false)], args := [d1, d2, d3] }
  | _ => none }
def CksumSumsWrongFalsely : Prop := cksumSumsRow.holds Try.pinned (OpenSpec.ofChange cksumSumsWrong)

/-- 'outriderlaw01.CksumUpdates': WHATEVER THE INPUT: true; the input reads as it did. -/
def cksumUpdatesSpec : ChangeSpec := { name := "cksumUpdates", fn := fun _ => fun
  | [d1, d2, d3] => { results := [.lit (.bool true)], args := [d1, d2, d3] }
  | _ => none }
def cksumUpdatesRow : OpenClaim := { program := "ytmffcjangmjnnaa", sum := "ab94861c9b3bfe31be190bb3a7bf943bc7cc252f17e6868fd24515c53eece9e1", func := "outrider/outriderlaw01.CksumUpdates", spec := "cksumUpdates", apart := false }
def CksumUpdatesSaid : Prop := cksumUpdatesRow.holds Try.pinned (OpenSpec.ofChange cksumUpdatesSpec)

/-- ITS FALSE NEIGHBOUR: 'it returns false'. Refute it at one input. -/
def cksumUpdatesWrong : ChangeSpec := { name := "cksumUpdates", fn := fun _ => fun
  | [d1, d2, d3] => { results := [.lit (.bool false)], args := [d1, d2, d3] }
  | _ => none }
def CksumUpdatesWrongFalsely : Prop := cksumUpdatesRow.holds Try.pinned (OpenSpec.ofChange cksumUpdatesWrong)

/-- 'outriderlaw01.CksumBack': WHATEVER THE INPUT: true; the input reads as it did. -/
def cksumBackSpec : ChangeSpec := { name := "cksumBack", fn := fun _ => fun
  | [d] => { results := [.lit (.bool true)], args := [d] }
  | _ => none }
def cksumBackRow : OpenClaim := { program := "ytmffcjangmjnnaa", sum := "ab94861c9b3bfe31be190bb3a7bf943bc7cc252f17e6868fd24515c53eece9e1", func := "outrider/outriderlaw01.CksumBack", spec := "cksumBack", apart := false }
def CksumBackSaid : Prop := cksumBackRow.holds Try.pinned (OpenSpec.ofChange cksumBackSpec)

/-- ITS FALSE NEIGHBOUR: 'it returns false'. Refute it at one input. -/
def cksumBackWrong : ChangeSpec := { name := "cksumBack", fn := fun _ => fun
  | [d] => { results := [.lit (.bool false)], args := [d] }
  | _ => none }
def CksumBackWrongFalsely : Prop := cksumBackRow.holds Try.pinned (OpenSpec.ofChange cksumBackWrong)

/-- 'outriderlaw01.CksumBoth': WHATEVER THE INPUT: true; the input reads as it did. -/
def cksumBothSpec : ChangeSpec := { name := "cksumBoth", fn := fun _ => fun
  | [d1, d2, d3] => { results := [.lit (.bool true)], args := [d1, d2, d3] }
  | _ => none }
def cksumBothRow : OpenClaim := { program := "ytmffcjangmjnnaa", sum := "ab94861c9b3bfe31be190bb3a7bf943bc7cc252f17e6868fd24515c53eece9e1", func := "outrider/outriderlaw01.CksumBoth", spec := "cksumBoth", apart := false }
def CksumBothSaid : Prop := cksumBothRow.holds Try.pinned (OpenSpec.ofChange cksumBothSpec)

/-- ITS FALSE NEIGHBOUR: 'it returns false'. Refute it at one input. -/
def cksumBothWrong : ChangeSpec := { name := "cksumBoth", fn := fun _ => fun
  | [d1, d2, d3] => { results := [.lit (.bool false)], args := [d1, d2, d3] }
  | _ => none }
def CksumBothWrongFalsely : Prop := cksumBothRow.holds Try.pinned (OpenSpec.ofChange cksumBothWrong)

/-- 'outriderlaw01.CksumOrder': WHATEVER THE INPUT: true; the input reads as it did. -/
def cksumOrderSpec : ChangeSpec := { name := "cksumOrder", fn := fun _ => fun
  | [d1, d2, d3] => { results := [.lit (.bool true)], args := [d1, d2, d3] }
  | _ => none }
def cksumOrderRow : OpenClaim := { program := "ytmffcjangmjnnaa", sum := "ab94861c9b3bfe31be190bb3a7bf943bc7cc252f17e6868fd24515c53eece9e1", func := "outrider/outriderlaw01.CksumOrder", spec := "cksumOrder", apart := false }
def CksumOrderSaid : Prop := cksumOrderRow.holds Try.pinned (OpenSpec.ofChange cksumOrderSpec)

/-- ITS FALSE NEIGHBOUR: 'it returns false'. Refute it at one input. -/
def cksumOrderWrong : ChangeSpec := { name := "cksumOrder", fn := fun _ => fun
  | [d1, d2, d3] => { results := [.lit (.bool false)], args := [d1, d2, d3] }
  | _ => none }
def CksumOrderWrongFalsely : Prop := cksumOrderRow.holds Try.pinned (OpenSpec.ofChange cksumOrderWrong)

/-- 'outriderlaw01.CksumChanges': WHATEVER THE INPUT: true; the input reads as it did. -/
def cksumChangesSpec : ChangeSpec := { name := "cksumChanges", fn := fun _ => fun
  | [d1, d2, d3] => { results := [.lit (.bool true)], args := [d1, d2, d3] }
  | _ => none }
def cksumChangesRow : OpenClaim := { program := "ytmffcjangmjnnaa", sum := "ab94861c9b3bfe31be190bb3a7bf943bc7cc252f17e6868fd24515c53eece9e1", func := "outrider/outriderlaw01.CksumChanges", spec := "cksumChanges", apart := false }
def CksumChangesSaid : Prop := cksumChangesRow.holds Try.pinned (OpenSpec.ofChange cksumChangesSpec)

/-- ITS FALSE NEIGHBOUR: 'it returns false'. Refute it at one input. -/
def cksumChangesWrong : ChangeSpec := { name := "cksumChanges", fn := fun _ => fun
  | [d1, d2, d3] => { results := [.lit (.bool false)], args := [d1, d2, d3] }
  | _ => none }
def CksumChangesWrongFalsely : Prop := cksumChangesRow.holds Try.pinned (OpenSpec.ofChange cksumChangesWrong)

/-- 'outriderlaw01.CksumFollows': WHATEVER THE INPUT: true; the input reads as it did. -/
def cksumFollowsSpec : ChangeSpec := { name := "cksumFollows", fn := fun _ => fun
  | [d1, d2, d3] => { results := [.lit (.bool true)], args := [d1, d2, d3] }
  | _ => none }
def cksumFollowsRow : OpenClaim := { program := "ytmffcjangmjnnaa", sum := "ab94861c9b3bfe31be190bb3a7bf943bc7cc252f17e6868fd24515c53eece9e1", func := "outrider/outriderlaw01.CksumFollows", spec := "cksumFollows", apart := false }
def CksumFollowsSaid : Prop := cksumFollowsRow.holds Try.pinned (OpenSpec.ofChange cksumFollowsSpec)

/-- ITS FALSE NEIGHBOUR: 'it returns false'. Refute it at one input. -/
def cksumFollowsWrong : ChangeSpec := { name := "cksumFollows", fn := fun _ => fun
  | [d1, d2, d3] => { results := [.lit (.bool false)], args := [d1, d2, d3] }
  | _ => none }
def CksumFollowsWrongFalsely : Prop := cksumFollowsRow.holds Try.pinned (OpenSpec.ofChange cksumFollowsWrong)

/- THE SECOND FORM. 'bulk': how many values and letters a reading holds, each counted each time it is reached (what is shared counts as often as it is met; a slice's spare places count too). A statement '..UptoSaid' is the law's where the arguments, and the package variables that the reading takes, are together of bulk at most 1048576: NARROWER than '..Said'. Prove '..Said' where nothing that the law and all that it calls make is longer than what came in: it says more and counts as full. Else prove '..UptoSaid'. A law counts once. -/
mutual
def uptoBulk {H : Type} : DataW H → Nat
  | .lit (.string bytes) => bytes.length + 1
  | .lit _ => 1
  | .nil => 1
  | .ptr d => uptoBulk d + 1
  | .slice elems spare => uptoBulkAll elems + uptoBulkAll spare + 1
  | .agg parts => uptoBulkAll parts + 1
  | .iface _ d => uptoBulk d + 1
  | .map entries => uptoBulkEntries entries + 1
  | .held _ => 1
def uptoBulkAll {H : Type} : List (DataW H) → Nat
  | [] => 0
  | d :: r => uptoBulk d + uptoBulkAll r
def uptoBulkEntries {H : Type} : List (Lit × DataW H) → Nat
  | [] => 0
  | x :: r => uptoBulkEntry x + uptoBulkEntries r
def uptoBulkEntry {H : Type} : Lit × DataW H → Nat
  | (.string bytes, d) => bytes.length + uptoBulk d + 1
  | (_, d) => uptoBulk d + 1
 end
def uptoSmall : (H : Type) → List (DataW H) → Bool := fun _ ds => decide (uptoBulkAll ds ≤ 1048576)
def OpenSpec.upto (s : _root_.Go.ChangeSpec) : _root_.Go.OpenSpec := { _root_.Go.OpenSpec.ofChange s with cond := some uptoSmall }

/-- 'outriderlaw01.CksumParts', WHERE WHAT IT READS IS OF BULK AT MOST 1048576: true; the input reads as it did. -/
def cksumPartsUptoRow : OpenClaim := { program := "ytmffcjangmjnnaa", sum := "ab94861c9b3bfe31be190bb3a7bf943bc7cc252f17e6868fd24515c53eece9e1", func := "outrider/outriderlaw01.CksumParts", spec := "cksumParts", apart := false, narrowed := true }
def CksumPartsUptoSaid : Prop := cksumPartsUptoRow.holds Try.pinned (OpenSpec.upto cksumPartsSpec)

/-- 'outriderlaw01.CksumTurned', WHERE WHAT IT READS IS OF BULK AT MOST 1048576: true; the input reads as it did. -/
def cksumTurnedUptoRow : OpenClaim := { program := "ytmffcjangmjnnaa", sum := "ab94861c9b3bfe31be190bb3a7bf943bc7cc252f17e6868fd24515c53eece9e1", func := "outrider/outriderlaw01.CksumTurned", spec := "cksumTurned", apart := false, narrowed := true }
def CksumTurnedUptoSaid : Prop := cksumTurnedUptoRow.holds Try.pinned (OpenSpec.upto cksumTurnedSpec)

/-- 'outriderlaw01.CksumNothing', WHERE WHAT IT READS IS OF BULK AT MOST 1048576: true; the input reads as it did. -/
def cksumNothingUptoRow : OpenClaim := { program := "ytmffcjangmjnnaa", sum := "ab94861c9b3bfe31be190bb3a7bf943bc7cc252f17e6868fd24515c53eece9e1", func := "outrider/outriderlaw01.CksumNothing", spec := "cksumNothing", apart := false, narrowed := true }
def CksumNothingUptoSaid : Prop := cksumNothingUptoRow.holds Try.pinned (OpenSpec.upto cksumNothingSpec)

/-- 'outriderlaw01.CksumSums', WHERE WHAT IT READS IS OF BULK AT MOST 1048576: true; the input reads as it did. -/
def cksumSumsUptoRow : OpenClaim := { program := "ytmffcjangmjnnaa", sum := "ab94861c9b3bfe31be190bb3a7bf943bc7cc252f17e6868fd24515c53eece9e1", func := "outrider/outriderlaw01.CksumSums", spec := "cksumSums", apart := false, narrowed := true }
def CksumSumsUptoSaid : Prop := cksumSumsUptoRow.holds Try.pinned (OpenSpec.upto cksumSumsSpec)

/-- 'outriderlaw01.CksumUpdates', WHERE WHAT IT READS IS OF BULK AT MOST 1048576: true; the input reads as it did. -/
def cksumUpdatesUptoRow : OpenClaim := { program := "ytmffcjangmjnnaa", sum := "ab94861c9b3bfe31be190bb3a7bf943bc7cc252f17e6868fd24515c53eece9e1", func := "outrider/outriderlaw01.CksumUpdates", spec := "cksumUpdates", apart := false, narrowed := true }
def CksumUpdatesUptoSaid : Prop := cksumUpdatesUptoRow.holds Try.pinned (OpenSpec.upto cksumUpdatesSpec)

/-- 'outriderlaw01.CksumBack', WHERE WHAT IT READS IS OF BULK AT MOST 1048576: true; the input reads as it did. -/
def cksumBackUptoRow : OpenClaim := { program := "ytmffcjangmjnnaa", sum := "ab94861c9b3bfe31be190bb3a7bf943bc7cc252f17e6868fd24515c53eece9e1", func := "outrider/outriderlaw01.CksumBack", spec := "cksumBack", apart := false, narrowed := true }
def CksumBackUptoSaid : Prop := cksumBackUptoRow.holds Try.pinned (OpenSpec.upto cksumBackSpec)

/-- 'outriderlaw01.CksumBoth', WHERE WHAT IT READS IS OF BULK AT MOST 1048576: true; the input reads as it did. -/
def cksumBothUptoRow : OpenClaim := { program := "ytmffcjangmjnnaa", sum := "ab94861c9b3bfe31be190bb3a7bf943bc7cc252f17e6868fd24515c53eece9e1", func := "outrider/outriderlaw01.CksumBoth", spec := "cksumBoth", apart := false, narrowed := true }
def CksumBothUptoSaid : Prop := cksumBothUptoRow.holds Try.pinned (OpenSpec.upto cksumBothSpec)

/-- 'outriderlaw01.CksumOrder', WHERE WHAT IT READS IS OF BULK AT MOST 1048576: true; the input reads as it did. -/
def cksumOrderUptoRow : OpenClaim := { program := "ytmffcjangmjnnaa", sum := "ab94861c9b3bfe31be190bb3a7bf943bc7cc252f17e6868fd24515c53eece9e1", func := "outrider/outriderlaw01.CksumOrder", spec := "cksumOrder", apart := false, narrowed := true }
def CksumOrderUptoSaid : Prop := cksumOrderUptoRow.holds Try.pinned (OpenSpec.upto cksumOrderSpec)

/-- 'outriderlaw01.CksumChanges', WHERE WHAT IT READS IS OF BULK AT MOST 1048576: true; the input reads as it did. -/
def cksumChangesUptoRow : OpenClaim := { program := "ytmffcjangmjnnaa", sum := "ab94861c9b3bfe31be190bb3a7bf943bc7cc252f17e6868fd24515c53eece9e1", func := "outrider/outriderlaw01.CksumChanges", spec := "cksumChanges", apart := false, narrowed := true }
def CksumChangesUptoSaid : Prop := cksumChangesUptoRow.holds Try.pinned (OpenSpec.upto cksumChangesSpec)

/-- 'outriderlaw01.CksumFollows', WHERE WHAT IT READS IS OF BULK AT MOST 1048576: true; the input reads as it did. -/
def cksumFollowsUptoRow : OpenClaim := { program := "ytmffcjangmjnnaa", sum := "ab94861c9b3bfe31be190bb3a7bf943bc7cc252f17e6868fd24515c53eece9e1", func := "outrider/outriderlaw01.CksumFollows", spec := "cksumFollows", apart := false, narrowed := true }
def CksumFollowsUptoSaid : Prop := cksumFollowsUptoRow.holds Try.pinned (OpenSpec.upto cksumFollowsSpec)

end Rows
end Go.Proofs.Ytmffcjangmjnnaa
