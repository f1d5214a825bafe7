/-
  No cell of these rows narrows 'for every input' (looked for: loops, veiled, ifaces, maps, wideKeys, modest, calm, conditions, laid).
  DERIVED. THE GIVEN ROWS OF THIS SEAT. 5 by the template 'for every input the law returns true; each argument reads behind the call as it read before'; 0 by the template 'total and deterministic' (their statements: YtbmiaohigkjeeaaTotals.lean).
  GIVEN WITH THE SEED: the statements are not yours to turn. If you find one false, say at which input.
  Laid BY PROGRAM, IN A SANDBOX (cutbox-rows.mjs): the forced cells as the released guide's own fill.sh prints them over the translation 6153d9446f6daaf8… (all of the seat's roots in one cut). By AI agents, Wed Nov 11 2026. No macro, syntax, notation, axiom, sorry.
-/
import Derived.Test.YtbmiaohigkjeeaaChecked
import GoSem.Claim
import GoSem.ClaimJoined
import GoSem.ClaimMapViews
import Derived.JoinedTies
import Derived.KernelRfl
namespace Go.Proofs.Ytbmiaohigkjeeaa
/- THE CELL 'sum', in the pinned program and in every row, IS THE sha256 OF THE DUMP (.gsa) THAT YtbmiaohigkjeeaaProg.lean LOADS. Nothing in Lean hashes anything: it is a label: what it is worth is what the hold of that sum in a sandbox is worth. -/
noncomputable def Try.pinned : Pinned := { name := "ytbmiaohigkjeeaa", sum := "6153d9446f6daaf87b044b647e458b2233d616ba91e221291f2540f49c53f015", checked := Try.checked }
namespace Rows
def none {H : Type} : Left H := { results := [], args := [] }

/-- 'outriderlaw19.RewriteSums': WHATEVER THE INPUT: true; the input reads as it did. -/
def rewriteSumsSpec : ChangeSpec := { name := "rewriteSums", fn := fun _ => fun
  | [d1, d2, d3] => { results := [.lit (.bool true)], args := [d1, d2, d3] }
  | _ => none }
def rewriteSumsRow : OpenClaim := { program := "ytbmiaohigkjeeaa", sum := "6153d9446f6daaf87b044b647e458b2233d616ba91e221291f2540f49c53f015", func := "outrider/outriderlaw19.RewriteSums", spec := "rewriteSums", unfollowed := true, recurses := true, apart := false }
def RewriteSumsSaid : Prop := rewriteSumsRow.holds Try.pinned (OpenSpec.ofChange rewriteSumsSpec)

/-- ITS FALSE NEIGHBOUR: 'it returns false'. Refute it at one input. -/
def rewriteSumsWrong : ChangeSpec := { name := "rewriteSums", fn := fun _ => fun
  | [d1, d2, d3] => { results := [.lit (.bool false)], args := [d1, d2, d3] }
  | _ => none }
def RewriteSumsWrongFalsely : Prop := rewriteSumsRow.holds Try.pinned (OpenSpec.ofChange rewriteSumsWrong)

/-- 'outriderlaw19.RewriteBack': WHATEVER THE INPUT: true; the input reads as it did. -/
def rewriteBackSpec : ChangeSpec := { name := "rewriteBack", fn := fun _ => fun
  | [d1, d2, d3] => { results := [.lit (.bool true)], args := [d1, d2, d3] }
  | _ => none }
def rewriteBackRow : OpenClaim := { program := "ytbmiaohigkjeeaa", sum := "6153d9446f6daaf87b044b647e458b2233d616ba91e221291f2540f49c53f015", func := "outrider/outriderlaw19.RewriteBack", spec := "rewriteBack", unfollowed := true, recurses := true, apart := false }
def RewriteBackSaid : Prop := rewriteBackRow.holds Try.pinned (OpenSpec.ofChange rewriteBackSpec)

/-- ITS FALSE NEIGHBOUR: 'it returns false'. Refute it at one input. -/
def rewriteBackWrong : ChangeSpec := { name := "rewriteBack", fn := fun _ => fun
  | [d1, d2, d3] => { results := [.lit (.bool false)], args := [d1, d2, d3] }
  | _ => none }
def RewriteBackWrongFalsely : Prop := rewriteBackRow.holds Try.pinned (OpenSpec.ofChange rewriteBackWrong)

/-- 'outriderlaw19.RewriteAll': WHATEVER THE INPUT: true; the input reads as it did. -/
def rewriteAllSpec : ChangeSpec := { name := "rewriteAll", fn := fun _ => fun
  | [d1, d2, d3] => { results := [.lit (.bool true)], args := [d1, d2, d3] }
  | _ => none }
def rewriteAllRow : OpenClaim := { program := "ytbmiaohigkjeeaa", sum := "6153d9446f6daaf87b044b647e458b2233d616ba91e221291f2540f49c53f015", func := "outrider/outriderlaw19.RewriteAll", spec := "rewriteAll", unfollowed := true, recurses := true, apart := false }
def RewriteAllSaid : Prop := rewriteAllRow.holds Try.pinned (OpenSpec.ofChange rewriteAllSpec)

/-- ITS FALSE NEIGHBOUR: 'it returns false'. Refute it at one input. -/
def rewriteAllWrong : ChangeSpec := { name := "rewriteAll", fn := fun _ => fun
  | [d1, d2, d3] => { results := [.lit (.bool false)], args := [d1, d2, d3] }
  | _ => none }
def RewriteAllWrongFalsely : Prop := rewriteAllRow.holds Try.pinned (OpenSpec.ofChange rewriteAllWrong)

/-- 'outriderlaw19.RewriteSides': WHATEVER THE INPUT: true; the input reads as it did. -/
def rewriteSidesSpec : ChangeSpec := { name := "rewriteSides", fn := fun _ => fun
  | [d1, d2, d3] => { results := [.lit (.bool true)], args := [d1, d2, d3] }
  | _ => none }
def rewriteSidesRow : OpenClaim := { program := "ytbmiaohigkjeeaa", sum := "6153d9446f6daaf87b044b647e458b2233d616ba91e221291f2540f49c53f015", func := "outrider/outriderlaw19.RewriteSides", spec := "rewriteSides", unfollowed := true, recurses := true, apart := false }
def RewriteSidesSaid : Prop := rewriteSidesRow.holds Try.pinned (OpenSpec.ofChange rewriteSidesSpec)

/-- ITS FALSE NEIGHBOUR: 'it returns false'. Refute it at one input. -/
def rewriteSidesWrong : ChangeSpec := { name := "rewriteSides", fn := fun _ => fun
  | [d1, d2, d3] => { results := [.lit (.bool false)], args := [d1, d2, d3] }
  | _ => none }
def RewriteSidesWrongFalsely : Prop := rewriteSidesRow.holds Try.pinned (OpenSpec.ofChange rewriteSidesWrong)

/-- 'outriderlaw19.RewriteWraps': WHATEVER THE INPUT: true; the input reads as it did. -/
def rewriteWrapsSpec : ChangeSpec := { name := "rewriteWraps", fn := fun _ => fun
  | [d1, d2, d3] => { results := [.lit (.bool true)], args := [d1, d2, d3] }
  | _ => none }
def rewriteWrapsRow : OpenClaim := { program := "ytbmiaohigkjeeaa", sum := "6153d9446f6daaf87b044b647e458b2233d616ba91e221291f2540f49c53f015", func := "outrider/outriderlaw19.RewriteWraps", spec := "rewriteWraps", unfollowed := true, recurses := true, apart := false }
def RewriteWrapsSaid : Prop := rewriteWrapsRow.holds Try.pinned (OpenSpec.ofChange rewriteWrapsSpec)

/-- ITS FALSE NEIGHBOUR: 'it returns false'. Refute it at one input. -/
def rewriteWrapsWrong : ChangeSpec := { name := "rewriteWraps", fn := fun _ => fun
  | [d1, d2, d3] => { results := [.lit (.bool false)], args := [d1, d2, d3] }
  | _ => none }
def RewriteWrapsWrongFalsely : Prop := rewriteWrapsRow.holds Try.pinned (OpenSpec.ofChange rewriteWrapsWrong)

/- THE SECOND FORM. 'bulk': how many values and letters a reading holds, each counted each time it is reached (what is shared counts as often as it is met; a slice's spare places count too). A statement '..UptoSaid' is the law's where the arguments, and the package variables that the reading takes, are together of bulk at most 1048576: NARROWER than '..Said'. Prove '..Said' where nothing that the law and all that it calls make is longer than what came in: it says more and counts as full. Else prove '..UptoSaid'. A law counts once. -/
mutual
def uptoBulk {H : Type} : DataW H → Nat
  | .lit (.string bytes) => bytes.length + 1
  | .lit _ => 1
  | .nil => 1
  | .ptr d => uptoBulk d + 1
  | .slice elems spare => uptoBulkAll elems + uptoBulkAll spare + 1
  | .agg parts => uptoBulkAll parts + 1
  | .iface _ d => uptoBulk d + 1
  | .map entries => uptoBulkEntries entries + 1
  | .held _ => 1
def uptoBulkAll {H : Type} : List (DataW H) → Nat
  | [] => 0
  | d :: r => uptoBulk d + uptoBulkAll r
def uptoBulkEntries {H : Type} : List (Lit × DataW H) → Nat
  | [] => 0
  | x :: r => uptoBulkEntry x + uptoBulkEntries r
def uptoBulkEntry {H : Type} : Lit × DataW H → Nat
  | (.string bytes, d) => bytes.length + uptoBulk d + 1
  | (_, d) => uptoBulk d + 1
 end
def uptoSmall : (H : Type) → List (DataW H) → Bool := fun _ ds => decide (uptoBulkAll ds ≤ 1048576)
def OpenSpec.upto (s : _root_.Go.ChangeSpec) : _root_.Go.OpenSpec := { _root_.Go.OpenSpec.ofChange s with cond := some uptoSmall }

/-- 'outriderlaw19.RewriteSums', WHERE WHAT IT READS IS OF BULK AT MOST 1048576: true; the input reads as it did. -/
def rewriteSumsUptoRow : OpenClaim := { program := "ytbmiaohigkjeeaa", sum := "6153d9446f6daaf87b044b647e458b2233d616ba91e221291f2540f49c53f015", func := "outrider/outriderlaw19.RewriteSums", spec := "rewriteSums", unfollowed := true, recurses := true, apart := false, narrowed := true }
def RewriteSumsUptoSaid : Prop := rewriteSumsUptoRow.holds Try.pinned (OpenSpec.upto rewriteSumsSpec)

/-- 'outriderlaw19.RewriteBack', WHERE WHAT IT READS IS OF BULK AT MOST 1048576: true; the input reads as it did. -/
def rewriteBackUptoRow : OpenClaim := { program := "ytbmiaohigkjeeaa", sum := "6153d9446f6daaf87b044b647e458b2233d616ba91e221291f2540f49c53f015", func := "outrider/outriderlaw19.RewriteBack", spec := "rewriteBack", unfollowed := true, recurses := true, apart := false, narrowed := true }
def RewriteBackUptoSaid : Prop := rewriteBackUptoRow.holds Try.pinned (OpenSpec.upto rewriteBackSpec)

/-- 'outriderlaw19.RewriteAll', WHERE WHAT IT READS IS OF BULK AT MOST 1048576: true; the input reads as it did. -/
def rewriteAllUptoRow : OpenClaim := { program := "ytbmiaohigkjeeaa", sum := "6153d9446f6daaf87b044b647e458b2233d616ba91e221291f2540f49c53f015", func := "outrider/outriderlaw19.RewriteAll", spec := "rewriteAll", unfollowed := true, recurses := true, apart := false, narrowed := true }
def RewriteAllUptoSaid : Prop := rewriteAllUptoRow.holds Try.pinned (OpenSpec.upto rewriteAllSpec)

/-- 'outriderlaw19.RewriteSides', WHERE WHAT IT READS IS OF BULK AT MOST 1048576: true; the input reads as it did. -/
def rewriteSidesUptoRow : OpenClaim := { program := "ytbmiaohigkjeeaa", sum := "6153d9446f6daaf87b044b647e458b2233d616ba91e221291f2540f49c53f015", func := "outrider/outriderlaw19.RewriteSides", spec := "rewriteSides", unfollowed := true, recurses := true, apart := false, narrowed := true }
def RewriteSidesUptoSaid : Prop := rewriteSidesUptoRow.holds Try.pinned (OpenSpec.upto rewriteSidesSpec)

/-- 'outriderlaw19.RewriteWraps', WHERE WHAT IT READS IS OF BULK AT MOST 1048576: true; the input reads as it did. -/
def rewriteWrapsUptoRow : OpenClaim := { program := "ytbmiaohigkjeeaa", sum := "6153d9446f6daaf87b044b647e458b2233d616ba91e221291f2540f49c53f015", func := "outrider/outriderlaw19.RewriteWraps", spec := "rewriteWraps", unfollowed := true, recurses := true, apart := false, narrowed := true }
def RewriteWrapsUptoSaid : Prop := rewriteWrapsUptoRow.holds Try.pinned (OpenSpec.upto rewriteWrapsSpec)

end Rows
end Go.Proofs.Ytbmiaohigkjeeaa
