/-
  No cell of these rows narrows 'for every input' (looked for: loops, veiled, ifaces, maps, wideKeys, modest, calm, conditions, laid).
  DERIVED. THE GIVEN ROWS OF THIS SEAT. 6 by the template 'for every input the law returns true; each argument reads behind the call as it read before'; 0 by the template 'total and deterministic' (their statements: YtcooilllmcgcmaaTotals.lean).
  GIVEN WITH THE SEED: the statements are not yours to turn. If you find one false, say at which input.
  Laid BY PROGRAM, IN A SANDBOX (cutbox-rows.mjs): the forced cells as the released guide's own fill.sh prints them over the translation 296b9a6184dd35c8… (all of the seat's roots in one cut). By AI agents, Wed Nov 11 2026. No macro, syntax, notation, axiom, sorry.
-/
import Derived.Test.YtcooilllmcgcmaaChecked
import GoSem.Claim
import GoSem.ClaimJoined
import GoSem.ClaimMapViews
import Derived.JoinedTies
import Derived.KernelRfl
namespace Go.Proofs.Ytcooilllmcgcmaa
/- THE CELL 'sum', in the pinned program and in every row, IS THE sha256 OF THE DUMP (.gsa) THAT YtcooilllmcgcmaaProg.lean LOADS. Nothing in Lean hashes anything: it is a label: what it is worth is what the hold of that sum in a sandbox is worth. -/
noncomputable def Try.pinned : Pinned := { name := "ytcooilllmcgcmaa", sum := "296b9a6184dd35c8710059dfaf818e3afc39fcdce8d28258ca9505222e6279a9", checked := Try.checked }
namespace Rows
def none {H : Type} : Left H := { results := [], args := [] }

/-- 'outriderlaw04.NeighReads': WHATEVER THE INPUT: true; the input reads as it did. -/
def neighReadsSpec : ChangeSpec := { name := "neighReads", fn := fun _ => fun
  | [d] => { results := [.lit (.bool true)], args := [d] }
  | _ => none }
def neighReadsRow : OpenClaim := { program := "ytcooilllmcgcmaa", sum := "296b9a6184dd35c8710059dfaf818e3afc39fcdce8d28258ca9505222e6279a9", func := "outrider/outriderlaw04.NeighReads", spec := "neighReads", unfollowed := true, recurses := true, apart := false }
def NeighReadsSaid : Prop := neighReadsRow.holds Try.pinned (OpenSpec.ofChange neighReadsSpec)

/-- ITS FALSE NEIGHBOUR: 'it returns false'. Refute it at one input. -/
def neighReadsWrong : ChangeSpec := { name := "neighReads", fn := fun _ => fun
  | [d] => { results := [.lit (.bool false)], args := [d] }
  | _ => none }
def NeighReadsWrongFalsely : Prop := neighReadsRow.holds Try.pinned (OpenSpec.ofChange neighReadsWrong)

/-- 'outriderlaw04.NeighTurned': WHATEVER THE INPUT: true; the input reads as it did. -/
def neighTurnedSpec : ChangeSpec := { name := "neighTurned", fn := fun _ => fun
  | [d1, d2, d3] => { results := [.lit (.bool true)], args := [d1, d2, d3] }
  | _ => none }
def neighTurnedRow : OpenClaim := { program := "ytcooilllmcgcmaa", sum := "296b9a6184dd35c8710059dfaf818e3afc39fcdce8d28258ca9505222e6279a9", func := "outrider/outriderlaw04.NeighTurned", spec := "neighTurned", unfollowed := true, recurses := true, apart := false }
def NeighTurnedSaid : Prop := neighTurnedRow.holds Try.pinned (OpenSpec.ofChange neighTurnedSpec)

/-- ITS FALSE NEIGHBOUR: 'it returns false'. Refute it at one input. -/
def neighTurnedWrong : ChangeSpec := { name := "neighTurned", fn := fun _ => fun
  | [d1, d2, d3] => { results := [.lit (.bool false)], args := [d1, d2, d3] }
  | _ => none }
def NeighTurnedWrongFalsely : Prop := neighTurnedRow.holds Try.pinned (OpenSpec.ofChange neighTurnedWrong)

/-- 'outriderlaw04.NeighNear': WHATEVER THE INPUT: true; the input reads as it did. -/
def neighNearSpec : ChangeSpec := { name := "neighNear", fn := fun _ => fun
  | [d1, d2] => { results := [.lit (.bool true)], args := [d1, d2] }
  | _ => none }
def neighNearRow : OpenClaim := { program := "ytcooilllmcgcmaa", sum := "296b9a6184dd35c8710059dfaf818e3afc39fcdce8d28258ca9505222e6279a9", func := "outrider/outriderlaw04.NeighNear", spec := "neighNear", unfollowed := true, recurses := true, apart := false }
def NeighNearSaid : Prop := neighNearRow.holds Try.pinned (OpenSpec.ofChange neighNearSpec)

/-- ITS FALSE NEIGHBOUR: 'it returns false'. Refute it at one input. -/
def neighNearWrong : ChangeSpec := { name := "neighNear", fn := fun _ => fun
  | [d1, d2] => { results := [.lit (.bool false)], args := [d1, d2] }
  | _ => none }
def NeighNearWrongFalsely : Prop := neighNearRow.holds Try.pinned (OpenSpec.ofChange neighNearWrong)

/-- 'outriderlaw04.NeighPadded': WHATEVER THE INPUT: true; the input reads as it did. -/
def neighPaddedSpec : ChangeSpec := { name := "neighPadded", fn := fun _ => fun
  | [d1, d2, d3] => { results := [.lit (.bool true)], args := [d1, d2, d3] }
  | _ => none }
def neighPaddedRow : OpenClaim := { program := "ytcooilllmcgcmaa", sum := "296b9a6184dd35c8710059dfaf818e3afc39fcdce8d28258ca9505222e6279a9", func := "outrider/outriderlaw04.NeighPadded", spec := "neighPadded", unfollowed := true, recurses := true, apart := false }
def NeighPaddedSaid : Prop := neighPaddedRow.holds Try.pinned (OpenSpec.ofChange neighPaddedSpec)

/-- ITS FALSE NEIGHBOUR: 'it returns false'. Refute it at one input. -/
def neighPaddedWrong : ChangeSpec := { name := "neighPadded", fn := fun _ => fun
  | [d1, d2, d3] => { results := [.lit (.bool false)], args := [d1, d2, d3] }
  | _ => none }
def NeighPaddedWrongFalsely : Prop := neighPaddedRow.holds Try.pinned (OpenSpec.ofChange neighPaddedWrong)

/-- 'outriderlaw04.NeighAsks': WHATEVER THE INPUT: true; the input reads as it did. -/
def neighAsksSpec : ChangeSpec := { name := "neighAsks", fn := fun _ => fun
  | [d1, d2, d3] => { results := [.lit (.bool true)], args := [d1, d2, d3] }
  | _ => none }
def neighAsksRow : OpenClaim := { program := "ytcooilllmcgcmaa", sum := "296b9a6184dd35c8710059dfaf818e3afc39fcdce8d28258ca9505222e6279a9", func := "outrider/outriderlaw04.NeighAsks", spec := "neighAsks", unfollowed := true, recurses := true, apart := false }
def NeighAsksSaid : Prop := neighAsksRow.holds Try.pinned (OpenSpec.ofChange neighAsksSpec)

/-- ITS FALSE NEIGHBOUR: 'it returns false'. Refute it at one input. -/
def neighAsksWrong : ChangeSpec := { name := "neighAsks", fn := fun _ => fun
  | [d1, d2, d3] => { results := [.lit (.bool false)], args := [d1, d2, d3] }
  | _ => none }
def NeighAsksWrongFalsely : Prop := neighAsksRow.holds Try.pinned (OpenSpec.ofChange neighAsksWrong)

/-- 'outriderlaw04.NeighBack': WHATEVER THE INPUT: true; the input reads as it did. -/
def neighBackSpec : ChangeSpec := { name := "neighBack", fn := fun _ => fun
  | [d1, d2, d3] => { results := [.lit (.bool true)], args := [d1, d2, d3] }
  | _ => none }
def neighBackRow : OpenClaim := { program := "ytcooilllmcgcmaa", sum := "296b9a6184dd35c8710059dfaf818e3afc39fcdce8d28258ca9505222e6279a9", func := "outrider/outriderlaw04.NeighBack", spec := "neighBack", unfollowed := true, recurses := true, apart := false }
def NeighBackSaid : Prop := neighBackRow.holds Try.pinned (OpenSpec.ofChange neighBackSpec)

/-- ITS FALSE NEIGHBOUR: 'it returns false'. Refute it at one input. -/
def neighBackWrong : ChangeSpec := { name := "neighBack", fn := fun _ => fun
  | [d1, d2, d3] => { results := [.lit (.bool false)], args := [d1, d2, d3] }
  | _ => none }
def NeighBackWrongFalsely : Prop := neighBackRow.holds Try.pinned (OpenSpec.ofChange neighBackWrong)

/- THE SECOND FORM. 'bulk': how many values and letters a reading holds, each counted each time it is reached (what is shared counts as often as it is met; a slice's spare places count too). A statement '..UptoSaid' is the law's where the arguments, and the package variables that the reading takes, are together of bulk at most 1048576: NARROWER than '..Said'. Prove '..Said' where nothing that the law and all that it calls make is longer than what came in: it says more and counts as full. Else prove '..UptoSaid'. A law counts once. -/
mutual
def uptoBulk {H : Type} : DataW H → Nat
  | .lit (.string bytes) => bytes.length + 1
  | .lit _ => 1
  | .nil => 1
  | .ptr d => uptoBulk d + 1
  | .slice elems spare => uptoBulkAll elems + uptoBulkAll spare + 1
  | .agg parts => uptoBulkAll parts + 1
  | .iface _ d => uptoBulk d + 1
  | .map entries => uptoBulkEntries entries + 1
  | .held _ => 1
def uptoBulkAll {H : Type} : List (DataW H) → Nat
  | [] => 0
  | d :: r => uptoBulk d + uptoBulkAll r
def uptoBulkEntries {H : Type} : List (Lit × DataW H) → Nat
  | [] => 0
  | x :: r => uptoBulkEntry x + uptoBulkEntries r
def uptoBulkEntry {H : Type} : Lit × DataW H → Nat
  | (.string bytes, d) => bytes.length + uptoBulk d + 1
  | (_, d) => uptoBulk d + 1
 end
def uptoSmall : (H : Type) → List (DataW H) → Bool := fun _ ds => decide (uptoBulkAll ds ≤ 1048576)
def OpenSpec.upto (s : _root_.Go.ChangeSpec) : _root_.Go.OpenSpec := { _root_.Go.OpenSpec.ofChange s with cond := some uptoSmall }

/-- 'outriderlaw04.NeighReads', WHERE WHAT IT READS IS OF BULK AT MOST 1048576: true; the input reads as it did. -/
def neighReadsUptoRow : OpenClaim := { program := "ytcooilllmcgcmaa", sum := "296b9a6184dd35c8710059dfaf818e3afc39fcdce8d28258ca9505222e6279a9", func := "outrider/outriderlaw04.NeighReads", spec := "neighReads", unfollowed := true, recurses := true, apart := false, narrowed := true }
def NeighReadsUptoSaid : Prop := neighReadsUptoRow.holds Try.pinned (OpenSpec.upto neighReadsSpec)

/-- 'outriderlaw04.NeighTurned', WHERE WHAT IT READS IS OF BULK AT MOST 1048576: true; the input reads as it did. -/
def neighTurnedUptoRow : OpenClaim := { program := "ytcooilllmcgcmaa", sum := "296b9a6184dd35c8710059dfaf818e3afc39fcdce8d28258ca9505222e6279a9", func := "outrider/outriderlaw04.NeighTurned", spec := "neighTurned", unfollowed := true, recurses := true, apart := false, narrowed := true }
def NeighTurnedUptoSaid : Prop := neighTurnedUptoRow.holds Try.pinned (OpenSpec.upto neighTurnedSpec)

/-- 'outriderlaw04.NeighNear', WHERE WHAT IT READS IS OF BULK AT MOST 1048576: true; the input reads as it did. -/
def neighNearUptoRow : OpenClaim := { program := "ytcooilllmcgcmaa", sum := "296b9a6184dd35c8710059dfaf818e3afc39fcdce8d28258ca9505222e6279a9", func := "outrider/outriderlaw04.NeighNear", spec := "neighNear", unfollowed := true, recurses := true, apart := false, narrowed := true }
def NeighNearUptoSaid : Prop := neighNearUptoRow.holds Try.pinned (OpenSpec.upto neighNearSpec)

/-- 'outriderlaw04.NeighPadded', WHERE WHAT IT READS IS OF BULK AT MOST 1048576: true; the input reads as it did. -/
def neighPaddedUptoRow : OpenClaim := { program := "ytcooilllmcgcmaa", sum := "296b9a6184dd35c8710059dfaf818e3afc39fcdce8d28258ca9505222e6279a9", func := "outrider/outriderlaw04.NeighPadded", spec := "neighPadded", unfollowed := true, recurses := true, apart := false, narrowed := true }
def NeighPaddedUptoSaid : Prop := neighPaddedUptoRow.holds Try.pinned (OpenSpec.upto neighPaddedSpec)

/-- 'outriderlaw04.NeighAsks', WHERE WHAT IT READS IS OF BULK AT MOST 1048576: true; the input reads as it did. -/
def neighAsksUptoRow : OpenClaim := { program := "ytcooilllmcgcmaa", sum := "296b9a6184dd35c8710059dfaf818e3afc39fcdce8d28258ca9505222e6279a9", func := "outrider/outriderlaw04.NeighAsks", spec := "neighAsks", unfollowed := true, recurses := true, apart := false, narrowed := true }
def NeighAsksUptoSaid : Prop := neighAsksUptoRow.holds Try.pinned (OpenSpec.upto neighAsksSpec)

/-- 'outriderlaw04.NeighBack', WHERE WHAT IT READS IS OF BULK AT MOST 1048576: true; the input reads as it did. -/
def neighBackUptoRow : OpenClaim := { program := "ytcooilllmcgcmaa", sum := "296b9a6184dd35c8710059dfaf818e3afc39fcdce8d28258ca9505222e6279a9", func := "outrider/outriderlaw04.NeighBack", spec := "neighBack", unfollowed := true, recurses := true, apart := false, narrowed := true }
def NeighBackUptoSaid : Prop := neighBackUptoRow.holds Try.pinned (OpenSpec.upto neighBackSpec)

end Rows
end Go.Proofs.Ytcooilllmcgcmaa
