/-
  No cell of these rows narrows 'for every input' (looked for: loops, veiled, ifaces, maps, wideKeys, modest, calm, conditions, laid).
  DERIVED. THE GIVEN ROWS OF THIS SEAT. 5 by the template 'for every input the law returns true; each argument reads behind the call as it read before'; 0 by the template 'total and deterministic' (their statements: YtbjolilknkbehaaTotals.lean).
  GIVEN WITH THE SEED: the statements are not yours to turn. If you find one false, say at which input.
  Laid BY PROGRAM, IN A SANDBOX (cutbox-rows.mjs): the forced cells as the released guide's own fill.sh prints them over the translation 7c72b5245f46c3ad… (all of the seat's roots in one cut). By AI agents, Wed Nov 11 2026. No macro, syntax, notation, axiom, sorry.
-/
import Derived.Test.YtbjolilknkbehaaChecked
import GoSem.Claim
import GoSem.ClaimJoined
import GoSem.ClaimMapViews
import Derived.JoinedTies
import Derived.KernelRfl
namespace Go.Proofs.Ytbjolilknkbehaa
/- THE CELL 'sum', in the pinned program and in every row, IS THE sha256 OF THE DUMP (.gsa) THAT YtbjolilknkbehaaProg.lean LOADS. Nothing in Lean hashes anything: it is a label: what it is worth is what the hold of that sum in a sandbox is worth. -/
noncomputable def Try.pinned : Pinned := { name := "ytbjolilknkbehaa", sum := "7c72b5245f46c3ad1978f67fbc65d02103b364d1407df317e20866f72538ef67", checked := Try.checked }
namespace Rows
def none {H : Type} : Left H := { results := [], args := [] }

/-- 'outriderlaw06.AdvertWrites': WHATEVER THE INPUT: true; the input reads as it did. -/
def advertWritesSpec : ChangeSpec := { name := "advertWrites", fn := fun _ => fun
  | [d1, d2] => { results := [.lit (.bool true)], args := [d1, d2] }
  | _ => none }
def advertWritesRow : OpenClaim := { program := "ytbjolilknkbehaa", sum := "7c72b5245f46c3ad1978f67fbc65d02103b364d1407df317e20866f72538ef67", func := "outrider/outriderlaw06.AdvertWrites", spec := "advertWrites", unfollowed := true, recurses := true, apart := false }
def AdvertWritesSaid : Prop := advertWritesRow.holds Try.pinned (OpenSpec.ofChange advertWritesSpec)

/-- ITS FALSE NEIGHBOUR: 'it returns false'. Refute it at one input. -/
def advertWritesWrong : ChangeSpec := { name := "advertWrites", fn := fun _ => fun
  | [d1, d2] => { results := [.lit (.bool false)], args := [d1, d2] }
  | _ => none }
def AdvertWritesWrongFalsely : Prop := advertWritesRow.holds Try.pinned (OpenSpec.ofChange advertWritesWrong)

/-- 'outriderlaw06.AdvertBack': WHATEVER THE INPUT: true; the input reads as it did. -/
def advertBackSpec : ChangeSpec := { name := "advertBack", fn := fun _ => fun
  | [d1, d2] => { results := [.lit (.bool true)], args := [d1, d2] }
  | _ => none }
def advertBackRow : OpenClaim := { program := "ytbjolilknkbehaa", sum := "7c72b5245f46c3ad1978f67fbc65d02103b364d1407df317e20866f72538ef67", func := "outrider/outriderlaw06.AdvertBack", spec := "advertBack", unfollowed := true, recurses := true, apart := false }
def AdvertBackSaid : Prop := advertBackRow.holds Try.pinned (OpenSpec.ofChange advertBackSpec)

/-- ITS FALSE NEIGHBOUR: 'it returns false'. Refute it at one input. -/
def advertBackWrong : ChangeSpec := { name := "advertBack", fn := fun _ => fun
  | [d1, d2] => { results := [.lit (.bool false)], args := [d1, d2] }
  | _ => none }
def AdvertBackWrongFalsely : Prop := advertBackRow.holds Try.pinned (OpenSpec.ofChange advertBackWrong)

/-- 'outriderlaw06.AdvertTurned': WHATEVER THE INPUT: true; the input reads as it did. -/
def advertTurnedSpec : ChangeSpec := { name := "advertTurned", fn := fun _ => fun
  | [d1, d2, d3] => { results := [.lit (.bool true)], args := [d1, d2, d3] }
  | _ => none }
def advertTurnedRow : OpenClaim := { program := "ytbjolilknkbehaa", sum := "7c72b5245f46c3ad1978f67fbc65d02103b364d1407df317e20866f72538ef67", func := "outrider/outriderlaw06.AdvertTurned", spec := "advertTurned", unfollowed := true, recurses := true, apart := false }
def AdvertTurnedSaid : Prop := advertTurnedRow.holds Try.pinned (OpenSpec.ofChange advertTurnedSpec)

/-- ITS FALSE NEIGHBOUR: 'it returns false'. Refute it at one input. -/
def advertTurnedWrong : ChangeSpec := { name := "advertTurned", fn := fun _ => fun
  | [d1, d2, d3] => { results := [.lit (.bool false)], args := [d1, d2, d3] }
  | _ => none }
def AdvertTurnedWrongFalsely : Prop := advertTurnedRow.holds Try.pinned (OpenSpec.ofChange advertTurnedWrong)

/-- 'outriderlaw06.AdvertCut': WHATEVER THE INPUT: true; the input reads as it did. -/
def advertCutSpec : ChangeSpec := { name := "advertCut", fn := fun _ => fun
  | [d1, d2, d3] => { results := [.lit (.bool true)], args := [d1, d2, d3] }
  | _ => none }
def advertCutRow : OpenClaim := { program := "ytbjolilknkbehaa", sum := "7c72b5245f46c3ad1978f67fbc65d02103b364d1407df317e20866f72538ef67", func := "outrider/outriderlaw06.AdvertCut", spec := "advertCut", unfollowed := true, recurses := true, apart := false }
def AdvertCutSaid : Prop := advertCutRow.holds Try.pinned (OpenSpec.ofChange advertCutSpec)

/-- ITS FALSE NEIGHBOUR: 'it returns false'. Refute it at one input. -/
def advertCutWrong : ChangeSpec := { name := "advertCut", fn := fun _ => fun
  | [d1, d2, d3] => { results := [.lit (.bool false)], args := [d1, d2, d3] }
  | _ => none }
def AdvertCutWrongFalsely : Prop := advertCutRow.holds Try.pinned (OpenSpec.ofChange advertCutWrong)

/-- 'outriderlaw06.AdvertHops': WHATEVER THE INPUT: true; the input reads as it did. -/
def advertHopsSpec : ChangeSpec := { name := "advertHops", fn := fun _ => fun
  | [d1, d2, d3] => { results := [.lit (.bool true)], args := [d1, d2, d3] }
  | _ => none }
def advertHopsRow : OpenClaim := { program := "ytbjolilknkbehaa", sum := "7c72b5245f46c3ad1978f67fbc65d02103b364d1407df317e20866f72538ef67", func := "outrider/outriderlaw06.AdvertHops", spec := "advertHops", unfollowed := true, recurses := true, apart := false }
def AdvertHopsSaid : Prop := advertHopsRow.holds Try.pinned (OpenSpec.ofChange advertHopsSpec)

/-- ITS FALSE NEIGHBOUR: 'it returns false'. Refute it at one input. -/
def advertHopsWrong : ChangeSpec := { name := "advertHops", fn := fun _ => fun
  | [d1, d2, d3] => { results := [.lit (.bool false)], args := [d1, d2, d3] }
  | _ => none }
def AdvertHopsWrongFalsely : Prop := advertHopsRow.holds Try.pinned (OpenSpec.ofChange advertHopsWrong)

/- THE SECOND FORM. 'bulk': how many values and letters a reading holds, each counted each time it is reached (what is shared counts as often as it is met; a slice's spare places count too). A statement '..UptoSaid' is the law's where the arguments, and the package variables that the reading takes, are together of bulk at most 1048576: NARROWER than '..Said'. Prove '..Said' where nothing that the law and all that it calls make is longer than what came in: it says more and counts as full. Else prove '..UptoSaid'. A law counts once. -/
mutual
def uptoBulk {H : Type} : DataW H → Nat
  | .lit (.string bytes) => bytes.length + 1
  | .lit _ => 1
  | .nil => 1
  | .ptr d => uptoBulk d + 1
  | .slice elems spare => uptoBulkAll elems + uptoBulkAll spare + 1
  | .agg parts => uptoBulkAll parts + 1
  | .iface _ d => uptoBulk d + 1
  | .map entries => uptoBulkEntries entries + 1
  | .held _ => 1
def uptoBulkAll {H : Type} : List (DataW H) → Nat
  | [] => 0
  | d :: r => uptoBulk d + uptoBulkAll r
def uptoBulkEntries {H : Type} : List (Lit × DataW H) → Nat
  | [] => 0
  | x :: r => uptoBulkEntry x + uptoBulkEntries r
def uptoBulkEntry {H : Type} : Lit × DataW H → Nat
  | (.string bytes, d) => bytes.length + uptoBulk d + 1
  | (_, d) => uptoBulk d + 1
 end
def uptoSmall : (H : Type) → List (DataW H) → Bool := fun _ ds => decide (uptoBulkAll ds ≤ 1048576)
def OpenSpec.upto (s : _root_.Go.ChangeSpec) : _root_.Go.OpenSpec := { _root_.Go.OpenSpec.ofChange s with cond := some uptoSmall }

/-- 'outriderlaw06.AdvertWrites', WHERE WHAT IT READS IS OF BULK AT MOST 1048576: true; the input reads as it did. -/
def advertWritesUptoRow : OpenClaim := { program := "ytbjolilknkbehaa", sum := "7c72b5245f46c3ad1978f67fbc65d02103b364d1407df317e20866f72538ef67", func := "outrider/outriderlaw06.AdvertWrites", spec := "advertWrites", unfollowed := true, recurses := true, apart := false, narrowed := true }
def AdvertWritesUptoSaid : Prop := advertWritesUptoRow.holds Try.pinned (OpenSpec.upto advertWritesSpec)

/-- 'outriderlaw06.AdvertBack', WHERE WHAT IT READS IS OF BULK AT MOST 1048576: true; the input reads as it did. -/
def advertBackUptoRow : OpenClaim := { program := "ytbjolilknkbehaa", sum := "7c72b5245f46c3ad1978f67fbc65d02103b364d1407df317e20866f72538ef67", func := "outrider/outriderlaw06.AdvertBack", spec := "advertBack", unfollowed := true, recurses := true, apart := false, narrowed := true }
def AdvertBackUptoSaid : Prop := advertBackUptoRow.holds Try.pinned (OpenSpec.upto advertBackSpec)

/-- 'outriderlaw06.AdvertTurned', WHERE WHAT IT READS IS OF BULK AT MOST 1048576: true; the input reads as it did. -/
def advertTurnedUptoRow : OpenClaim := { program := "ytbjolilknkbehaa", sum := "7c72b5245f46c3ad1978f67fbc65d02103b364d1407df317e20866f72538ef67", func := "outrider/outriderlaw06.AdvertTurned", spec := "advertTurned", unfollowed := true, recurses := true, apart := false, narrowed := true }
def AdvertTurnedUptoSaid : Prop := advertTurnedUptoRow.holds Try.pinned (OpenSpec.upto advertTurnedSpec)

/-- 'outriderlaw06.AdvertCut', WHERE WHAT IT READS IS OF BULK AT MOST 1048576: true; the input reads as it did. -/
def advertCutUptoRow : OpenClaim := { program := "ytbjolilknkbehaa", sum := "7c72b5245f46c3ad1978f67fbc65d02103b364d1407df317e20866f72538ef67", func := "outrider/outriderlaw06.AdvertCut", spec := "advertCut", unfollowed := true, recurses := true, apart := false, narrowed := true }
def AdvertCutUptoSaid : Prop := advertCutUptoRow.holds Try.pinned (OpenSpec.upto advertCutSpec)

/-- 'outriderlaw06.AdvertHops', WHERE WHAT IT READS IS OF BULK AT MOST 1048576: true; the input reads as it did. -/
def advertHopsUptoRow : OpenClaim := { program := "ytbjolilknkbehaa", sum := "7c72b5245f46c3ad1978f67fbc65d02103b364d1407df317e20866f72538ef67", func := "outrider/outriderlaw06.AdvertHops", spec := "advertHops", unfollowed := true, recurses := true, apart := false, narrowed := true }
def AdvertHopsUptoSaid : Prop := advertHopsUptoRow.holds Try.pinned (OpenSpec.upto advertHopsSpec)

end Rows
end Go.Proofs.Ytbjolilknkbehaa
