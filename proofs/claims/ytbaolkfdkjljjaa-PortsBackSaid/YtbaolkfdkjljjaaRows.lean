/-
  No cell of these rows narrows 'for every input' (looked for: loops, veiled, ifaces, maps, wideKeys, modest, calm, conditions, laid).
  DERIVED. THE GIVEN ROWS OF THIS SEAT. 6 by the template 'for every input the law returns true; each argument reads behind the call as it read before'; 0 by the template 'total and deterministic' (their statements: YtbaolkfdkjljjaaTotals.lean).
  GIVEN WITH THE SEED: the statements are not yours to turn. If you find one false, say at which input.
  Laid BY PROGRAM, IN A SANDBOX (cutbox-rows.mjs): the forced cells as the released guide's own fill.sh prints them over the translation a9d945142f15eb77… (all of the seat's roots in one cut). By AI agents, Wed Nov 11 2026. No macro, syntax, notation, axiom, sorry.
-/
import Derived.Test.YtbaolkfdkjljjaaChecked
import GoSem.Claim
import GoSem.ClaimJoined
import GoSem.ClaimMapViews
import Derived.JoinedTies
import Derived.KernelRfl
namespace Go.Proofs.Ytbaolkfdkjljjaa
/- THE CELL 'sum', in the pinned program and in every row, IS THE sha256 OF THE DUMP (.gsa) THAT YtbaolkfdkjljjaaProg.lean LOADS. Nothing in Lean hashes anything: it is a label: what it is worth is what the hold of that sum in a sandbox is worth. -/
noncomputable def Try.pinned : Pinned := { name := "ytbaolkfdkjljjaa", sum := "a9d945142f15eb7779393ffe63ef4b6b3e6ba2d69c0ec35487183e5d4879089c", checked := Try.checked }
namespace Rows
def none {H : Type} : Left H := { results := [], args := [] }

/-- 'outriderlaw05.PortsWrites': WHATEVER THE INPUT: true; the input reads as it did. -/
def portsWritesSpec : ChangeSpec := { name := "portsWrites", fn := fun _ => fun
  | [d1, d2, d3] => { results := [.lit (.bool true)], args := [d1, d2, d3] }
  | _ => none }
def portsWritesRow : OpenClaim := { program := "ytbaolkfdkjljjaa", sum := "a9d945142f15eb7779393ffe63ef4b6b3e6ba2d69c0ec35487183e5d4879089c", func := "outrider/outriderlaw05.PortsWrites", spec := "portsWrites", unfollowed := true, recurses := true, apart := false }
def PortsWritesSaid : Prop := portsWritesRow.holds Try.pinned (OpenSpec.ofChange portsWritesSpec)

/-- ITS FALSE NEIGHBOUR: 'it returns false'. Refute it at one input. -/
def portsWritesWrong : ChangeSpec := { name := "portsWrites", fn := fun _ => fun
  | [d1, d2, d3] => { results := [.lit (.bool false)], args := [d1, d2, d3] }
  | _ => none }
def PortsWritesWrongFalsely : Prop := portsWritesRow.holds Try.pinned (OpenSpec.ofChange portsWritesWrong)

/-- 'outriderlaw05.PortsTurned': WHATEVER THE INPUT: true; the input reads as it did. -/
def portsTurnedSpec : ChangeSpec := { name := "portsTurned", fn := fun _ => fun
  | [d1, d2, d3] => { results := [.lit (.bool true)], args := [d1, d2, d3] }
  | _ => none }
def portsTurnedRow : OpenClaim := { program := "ytbaolkfdkjljjaa", sum := "a9d945142f15eb7779393ffe63ef4b6b3e6ba2d69c0ec35487183e5d4879089c", func := "outrider/outriderlaw05.PortsTurned", spec := "portsTurned", unfollowed := true, recurses := true, apart := false }
def PortsTurnedSaid : Prop := portsTurnedRow.holds Try.pinned (OpenSpec.ofChange portsTurnedSpec)

/-- ITS FALSE NEIGHBOUR: 'it returns false'. Refute it at one input. -/
def portsTurnedWrong : ChangeSpec := { name := "portsTurned", fn := fun _ => fun
  | [d1, d2, d3] => { results := [.lit (.bool false)], args := [d1, d2, d3] }
  | _ => none }
def PortsTurnedWrongFalsely : Prop := portsTurnedRow.holds Try.pinned (OpenSpec.ofChange portsTurnedWrong)

/-- 'outriderlaw05.PortsTurns': WHATEVER THE INPUT: true; the input reads as it did. -/
def portsTurnsSpec : ChangeSpec := { name := "portsTurns", fn := fun _ => fun
  | [d] => { results := [.lit (.bool true)], args := [d] }
  | _ => none }
def portsTurnsRow : OpenClaim := { program := "ytbaolkfdkjljjaa", sum := "a9d945142f15eb7779393ffe63ef4b6b3e6ba2d69c0ec35487183e5d4879089c", func := "outrider/outriderlaw05.PortsTurns", spec := "portsTurns", unfollowed := true, recurses := true, apart := false }
def PortsTurnsSaid : Prop := portsTurnsRow.holds Try.pinned (OpenSpec.ofChange portsTurnsSpec)

/-- ITS FALSE NEIGHBOUR: 'it returns false'. Refute it at one input. -/
def portsTurnsWrong : ChangeSpec := { name := "portsTurns", fn := fun _ => fun
  | [d] => { results := [.lit (.bool false)], args := [d] }
  | _ => none }
def PortsTurnsWrongFalsely : Prop := portsTurnsRow.holds Try.pinned (OpenSpec.ofChange portsTurnsWrong)

/-- 'outriderlaw05.PortsBack': WHATEVER THE INPUT: true; the input reads as it did. -/
def portsBackSpec : ChangeSpec := { name := "portsBack", fn := fun _ => fun
  | [d1, d2, d3] => { results := [.lit (.bool true)], args := [d1, d2, d3] }
  | _ => none }
def portsBackRow : OpenClaim := { program := "ytbaolkfdkjljjaa", sum := "a9d945142f15eb7779393ffe63ef4b6b3e6ba2d69c0ec35487183e5d4879089c", func := "outrider/outriderlaw05.PortsBack", spec := "portsBack", unfollowed := true, recurses := true, apart := false }
def PortsBackSaid : Prop := portsBackRow.holds Try.pinned (OpenSpec.ofChange portsBackSpec)

/-- ITS FALSE NEIGHBOUR: 'it returns false'. Refute it at one input. -/
def portsBackWrong : ChangeSpec := { name := "portsBack", fn := fun _ => fun
  | [d1, d2, d3] => { results := [.lit (.bool false)], args := [d1, d2, d3] }
  | _ => none }
def PortsBackWrongFalsely : Prop := portsBackRow.holds Try.pinned (OpenSpec.ofChange portsBackWrong)

/-- 'outriderlaw05.PortsQuotes': WHATEVER THE INPUT: true; the input reads as it did. -/
def portsQuotesSpec : ChangeSpec := { name := "portsQuotes", fn := fun _ => fun
  | [d] => { results := [.lit (.bool true)], args := [d] }
  | _ => none }
def portsQuotesRow : OpenClaim := { program := "ytbaolkfdkjljjaa", sum := "a9d945142f15eb7779393ffe63ef4b6b3e6ba2d69c0ec35487183e5d4879089c", func := "outrider/outriderlaw05.PortsQuotes", spec := "portsQuotes", unfollowed := true, recurses := true, apart := false }
def PortsQuotesSaid : Prop := portsQuotesRow.holds Try.pinned (OpenSpec.ofChange portsQuotesSpec)

/-- ITS FALSE NEIGHBOUR: 'it returns false'. Refute it at one input. -/
def portsQuotesWrong : ChangeSpec := { name := "portsQuotes", fn := fun _ => fun
  | [d] => { results := [.lit (.bool false)], args := [d] }
  | _ => none }
def PortsQuotesWrongFalsely : Prop := portsQuotesRow.holds Try.pinned (OpenSpec.ofChange portsQuotesWrong)

/-- 'outriderlaw05.PortsErrors': WHATEVER THE INPUT: true; the input reads as it did. -/
def portsErrorsSpec : ChangeSpec := { name := "portsErrors", fn := fun _ => fun
  | [d1, d2, d3] => { results := [.lit (.bool true)], args := [d1, d2, d3] }
  | _ => none }
def portsErrorsRow : OpenClaim := { program := "ytbaolkfdkjljjaa", sum := "a9d945142f15eb7779393ffe63ef4b6b3e6ba2d69c0ec35487183e5d4879089c", func := "outrider/outriderlaw05.PortsErrors", spec := "portsErrors", unfollowed := true, recurses := true, apart := false }
def PortsErrorsSaid : Prop := portsErrorsRow.holds Try.pinned (OpenSpec.ofChange portsErrorsSpec)

/-- ITS FALSE NEIGHBOUR: 'it returns false'. Refute it at one input. -/
def portsErrorsWrong : ChangeSpec := { name := "portsErrors", fn := fun _ => fun
  | [d1, d2, d3] => { results := [.lit (.bool false)], args := [d1, d2, d3] }
  | _ => none }
def PortsErrorsWrongFalsely : Prop := portsErrorsRow.holds Try.pinned (OpenSpec.ofChange portsErrorsWrong)

/- THE SECOND FORM. 'bulk': how many values and letters a reading holds, each counted each time it is reached (what is shared counts as often as it is met; a slice's spare places count too). A statement '..UptoSaid' is the law's where the arguments, and the package variables that the reading takes, are together of bulk at most 1048576: NARROWER than '..Said'. Prove '..Said' where nothing that the law and all that it calls make is longer than what came in: it says more and counts as full. Else prove '..UptoSaid'. A law counts once. -/
mutual
def uptoBulk {H : Type} : DataW H → Nat
  | .lit (.string bytes) => bytes.length + 1
  | .lit _ => 1
  | .nil => 1
  | .ptr d => uptoBulk d + 1
  | .slice elems spare => uptoBulkAll elems + uptoBulkAll spare + 1
  | .agg parts => uptoBulkAll parts + 1
  | .iface _ d => uptoBulk d + 1
  | .map entries => uptoBulkEntries entries + 1
  | .held _ => 1
def uptoBulkAll {H : Type} : List (DataW H) → Nat
  | [] => 0
  | d :: r => uptoBulk d + uptoBulkAll r
def uptoBulkEntries {H : Type} : List (Lit × DataW H) → Nat
  | [] => 0
  | x :: r => uptoBulkEntry x + uptoBulkEntries r
def uptoBulkEntry {H : Type} : Lit × DataW H → Nat
  | (.string bytes, d) => bytes.length + uptoBulk d + 1
  | (_, d) => uptoBulk d + 1
 end
def uptoSmall : (H : Type) → List (DataW H) → Bool := fun _ ds => decide (uptoBulkAll ds ≤ 1048576)
def OpenSpec.upto (s : _root_.Go.ChangeSpec) : _root_.Go.OpenSpec := { _root_.Go.OpenSpec.ofChange s with cond := some uptoSmall }

/-- 'outriderlaw05.PortsWrites', WHERE WHAT IT READS IS OF BULK AT MOST 1048576: true; the input reads as it did. -/
def portsWritesUptoRow : OpenClaim := { program := "ytbaolkfdkjljjaa", sum := "a9d945142f15eb7779393ffe63ef4b6b3e6ba2d69c0ec35487183e5d4879089c", func := "outrider/outriderlaw05.PortsWrites", spec := "portsWrites", unfollowed := true, recurses := true, apart := false, narrowed := true }
def PortsWritesUptoSaid : Prop := portsWritesUptoRow.holds Try.pinned (OpenSpec.upto portsWritesSpec)

/-- 'outriderlaw05.PortsTurned', WHERE WHAT IT READS IS OF BULK AT MOST 1048576: true; the input reads as it did. -/
def portsTurnedUptoRow : OpenClaim := { program := "ytbaolkfdkjljjaa", sum := "a9d945142f15eb7779393ffe63ef4b6b3e6ba2d69c0ec35487183e5d4879089c", func := "outrider/outriderlaw05.PortsTurned", spec := "portsTurned", unfollowed := true, recurses := true, apart := false, narrowed := true }
def PortsTurnedUptoSaid : Prop := portsTurnedUptoRow.holds Try.pinned (OpenSpec.upto portsTurnedSpec)

/-- 'outriderlaw05.PortsTurns', WHERE WHAT IT READS IS OF BULK AT MOST 1048576: true; the input reads as it did. -/
def portsTurnsUptoRow : OpenClaim := { program := "ytbaolkfdkjljjaa", sum := "a9d945142f15eb7779393ffe63ef4b6b3e6ba2d69c0ec35487183e5d4879089c", func := "outrider/outriderlaw05.PortsTurns", spec := "portsTurns", unfollowed := true, recurses := true, apart := false, narrowed := true }
def PortsTurnsUptoSaid : Prop := portsTurnsUptoRow.holds Try.pinned (OpenSpec.upto portsTurnsSpec)

/-- 'outriderlaw05.PortsBack', WHERE WHAT IT READS IS OF BULK AT MOST 1048576: true; the input reads as it did. -/
def portsBackUptoRow : OpenClaim := { program := "ytbaolkfdkjljjaa", sum := "a9d945142f15eb7779393ffe63ef4b6b3e6ba2d69c0ec35487183e5d4879089c", func := "outrider/outriderlaw05.PortsBack", spec := "portsBack", unfollowed := true, recurses := true, apart := false, narrowed := true }
def PortsBackUptoSaid : Prop := portsBackUptoRow.holds Try.pinned (OpenSpec.upto portsBackSpec)

/-- 'outriderlaw05.PortsQuotes', WHERE WHAT IT READS IS OF BULK AT MOST 1048576: true; the input reads as it did. -/
def portsQuotesUptoRow : OpenClaim := { program := "ytbaolkfdkjljjaa", sum := "a9d945142f15eb7779393ffe63ef4b6b3e6ba2d69c0ec35487183e5d4879089c", func := "outrider/outriderlaw05.PortsQuotes", spec := "portsQuotes", unfollowed := true, recurses := true, apart := false, narrowed := true }
def PortsQuotesUptoSaid : Prop := portsQuotesUptoRow.holds Try.pinned (OpenSpec.upto portsQuotesSpec)

/-- 'outriderlaw05.PortsErrors', WHERE WHAT IT READS IS OF BULK AT MOST 1048576: true; the input reads as it did. -/
def portsErrorsUptoRow : OpenClaim := { program := "ytbaolkfdkjljjaa", sum := "a9d945142f15eb7779393ffe63ef4b6b3e6ba2d69c0ec35487183e5d4879089c", func := "outrider/outriderlaw05.PortsErrors", spec := "portsErrors", unfollowed := true, recurses := true, apart := false, narrowed := true }
def PortsErrorsUptoSaid : Prop := portsErrorsUptoRow.holds Try.pinned (OpenSpec.upto portsErrorsSpec)

end Rows
end Go.Proofs.Ytbaolkfdkjljjaa
