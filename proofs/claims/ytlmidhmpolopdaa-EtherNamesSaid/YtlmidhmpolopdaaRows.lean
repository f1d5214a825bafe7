/-
  No cell of these rows narrows 'for every input' (looked for: loops, veiled, ifaces, maps, wideKeys, modest, calm, conditions, laid).
  DERIVED. THE GIVEN ROWS OF THIS SEAT. 7 by the template 'for every input the law returns true; each argument reads behind the call as it read before'; 0 by the template 'total and deterministic' (their statements: YtlmidhmpolopdaaTotals.lean).
  GIVEN WITH THE SEED: the statements are not yours to turn. If you find one false, say at which input.
  Laid BY PROGRAM, IN A SANDBOX (cutbox-rows.mjs): the forced cells as the released guide's own fill.sh prints them over the translation e6c50ff2e97c4f09… (all of the seat's roots in one cut). By AI agents, Wed Nov 11 2026. No macro, syntax, notation, axiom, sorry.
-/
import Derived.Test.YtlmidhmpolopdaaChecked
import GoSem.Claim
import GoSem.ClaimJoined
import GoSem.ClaimMapViews
import Derived.JoinedTies
import Derived.KernelRfl
namespace Go.Proofs.Ytlmidhmpolopdaa
/- THE CELL 'sum', in the pinned program and in every row, IS THE sha256 OF THE DUMP (.gsa) THAT YtlmidhmpolopdaaProg.lean LOADS. Nothing in Lean hashes anything: it is a label: what it is worth is what the hold of that sum in a sandbox is worth. -/
noncomputable def Try.pinned : Pinned := { name := "ytlmidhmpolopdaa", sum := "e6c50ff2e97c4f096088e1737918a72a18172b51f66c9a11542a50368d90077b", checked := Try.checked }
namespace Rows
def none {H : Type} : Left H := { results := [], args := [] }

/-- 'outriderlaw02.EtherWrites': WHATEVER THE INPUT: true; the input reads as it did. -/
def etherWritesSpec : ChangeSpec := { name := "etherWrites", fn := fun _ => fun
  | [d] => { results := [.lit (.bool true)], args := [d] }
  | _ => none }
def etherWritesRow : OpenClaim := { program := "ytlmidhmpolopdaa", sum := "e6c50ff2e97c4f096088e1737918a72a18172b51f66c9a11542a50368d90077b", func := "outrider/outriderlaw02.EtherWrites", spec := "etherWrites", apart := false }
def EtherWritesSaid : Prop := etherWritesRow.holds Try.pinned (OpenSpec.ofChange etherWritesSpec)

/-- ITS FALSE NEIGHBOUR: 'it returns false'. Refute it at one input. -/
def etherWritesWrong : ChangeSpec := { name := "etherWrites", fn := fun _ => fun
  | [d] => { results := [.lit (.bool false)], args := [d] }
  | _ => none }
def EtherWritesWrongFalsely : Prop := etherWritesRow.holds Try.pinned (OpenSpec.ofChange etherWritesWrong)

/-- 'outriderlaw02.EtherVirtuals': WHATEVER THE INPUT: true; the input reads as it did. -/
def etherVirtualsSpec : ChangeSpec := { name := "etherVirtuals", fn := fun _ => fun
  | [d1, d2] => { results := [.lit (.bool true)], args := [d1, d2] }
  | _ => none }
def etherVirtualsRow : OpenClaim := { program := "ytlmidhmpolopdaa", sum := "e6c50ff2e97c4f096088e1737918a72a18172b51f66c9a11542a50368d90077b", func := "outrider/outriderlaw02.EtherVirtuals", spec := "etherVirtuals", apart := false }
def EtherVirtualsSaid : Prop := etherVirtualsRow.holds Try.pinned (OpenSpec.ofChange etherVirtualsSpec)

/-- ITS FALSE NEIGHBOUR: 'it returns false'. Refute it at one input. -/
def etherVirtualsWrong : ChangeSpec := { name := "etherVirtuals", fn := fun _ => fun
  | [d1, d2] => { results := [.lit (.bool false)], args := [d1, d2] }
  | _ => none }
def EtherVirtualsWrongFalsely : Prop := etherVirtualsRow.holds Try.pinned (OpenSpec.ofChange etherVirtualsWrong)

/-- 'outriderlaw02.EtherShares': WHATEVER THE INPUT: true; the input reads as it did. -/
def etherSharesSpec : ChangeSpec := { name := "etherShares", fn := fun _ => fun
  | [d] => { results := [.lit (.bool true)], args := [d] }
  | _ => none }
def etherSharesRow : OpenClaim := { program := "ytlmidhmpolopdaa", sum := "e6c50ff2e97c4f096088e1737918a72a18172b51f66c9a11542a50368d90077b", func := "outrider/outriderlaw02.EtherShares", spec := "etherShares", apart := false }
def EtherSharesSaid : Prop := etherSharesRow.holds Try.pinned (OpenSpec.ofChange etherSharesSpec)

/-- ITS FALSE NEIGHBOUR: 'it returns false'. Refute it at one input. -/
def etherSharesWrong : ChangeSpec := { name := "etherShares", fn := fun _ => fun
  | [d] => { results := [.lit (.bool false)], args := [d] }
  | _ => none }
def EtherSharesWrongFalsely : Prop := etherSharesRow.holds Try.pinned (OpenSpec.ofChange etherSharesWrong)

/-- 'outriderlaw02.EtherReads': WHATEVER THE INPUT: true; the input reads as it did. -/
def etherReadsSpec : ChangeSpec := { name := "etherReads", fn := fun _ => fun
  | [d] => { results := [.lit (.bool true)], args := [d] }
  | _ => none }
def etherReadsRow : OpenClaim := { program := "ytlmidhmpolopdaa", sum := "e6c50ff2e97c4f096088e1737918a72a18172b51f66c9a11542a50368d90077b", func := "outrider/outriderlaw02.EtherReads", spec := "etherReads", apart := false }
def EtherReadsSaid : Prop := etherReadsRow.holds Try.pinned (OpenSpec.ofChange etherReadsSpec)

/-- ITS FALSE NEIGHBOUR: 'it returns false'. Refute it at one input. -/
def etherReadsWrong : ChangeSpec := { name := "etherReads", fn := fun _ => fun
  | [d] => { results := [.lit (.bool false)], args := [d] }
  | _ => none }
def EtherReadsWrongFalsely : Prop := etherReadsRow.holds Try.pinned (OpenSpec.ofChange etherReadsWrong)

/-- 'outriderlaw02.EtherBack': WHATEVER THE INPUT: true; the input reads as it did. -/
def etherBackSpec : ChangeSpec := { name := "etherBack", fn := fun _ => fun
  | [d1, d2] => { results := [.lit (.bool true)], args := [d1, d2] }
  | _ => none }
def etherBackRow : OpenClaim := { program := "ytlmidhmpolopdaa", sum := "e6c50ff2e97c4f096088e1737918a72a18172b51f66c9a11542a50368d90077b", func := "outrider/outriderlaw02.EtherBack", spec := "etherBack", apart := false }
def EtherBackSaid : Prop := etherBackRow.holds Try.pinned (OpenSpec.ofChange etherBackSpec)

/-- ITS FALSE NEIGHBOUR: 'it returns false'. Refute it at one input. -/
def etherBackWrong : ChangeSpec := { name := "etherBack", fn := fun _ => fun
  | [d1, d2] => { results := [.lit (.bool false)], args := [d1, d2] }
  | _ => none }
def EtherBackWrongFalsely : Prop := etherBackRow.holds Try.pinned (OpenSpec.ofChange etherBackWrong)

/-- 'outriderlaw02.EtherNames': WHATEVER THE INPUT: true; the input reads as it did. -/
def etherNamesSpec : ChangeSpec := { name := "etherNames", fn := fun _ => fun
  | [d1, d2, d3] => { results := [.lit (.bool true)], args := [d1, d2, d3] }
  | _ => none }
def etherNamesRow : OpenClaim := { program := "ytlmidhmpolopdaa", sum := "e6c50ff2e97c4f096088e1737918a72a18172b51f66c9a11542a50368d90077b", func := "outrider/outriderlaw02.EtherNames", spec := "etherNames", apart := false }
def EtherNamesSaid : Prop := etherNamesRow.holds Try.pinned (OpenSpec.ofChange etherNamesSpec)

/-- ITS FALSE NEIGHBOUR: 'it returns false'. Refute it at one input. -/
def etherNamesWrong : ChangeSpec := { name := "etherNames", fn := fun _ => fun
  | [d1, d2, d3] => { results := [.lit (.bool false)], args := [d1, d2, d3] }
  | _ => none }
def EtherNamesWrongFalsely : Prop := etherNamesRow.holds Try.pinned (OpenSpec.ofChange etherNamesWrong)

/-- 'outriderlaw02.EtherCut': WHATEVER THE INPUT: true; the input reads as it did. -/
def etherCutSpec : ChangeSpec := { name := "etherCut", fn := fun _ => fun
  | [d1, d2] => { results := [.lit (.bool true)], args := [d1, d2] }
  | _ => none }
def etherCutRow : OpenClaim := { program := "ytlmidhmpolopdaa", sum := "e6c50ff2e97c4f096088e1737918a72a18172b51f66c9a11542a50368d90077b", func := "outrider/outriderlaw02.EtherCut", spec := "etherCut", apart := false }
def EtherCutSaid : Prop := etherCutRow.holds Try.pinned (OpenSpec.ofChange etherCutSpec)

/-- ITS FALSE NEIGHBOUR: 'it returns false'. Refute it at one input. -/
def etherCutWrong : ChangeSpec := { name := "etherCut", fn := fun _ => fun
  | [d1, d2] => { results := [.lit (.bool false)], args := [d1, d2] }
  | _ => none }
def EtherCutWrongFalsely : Prop := etherCutRow.holds Try.pinned (OpenSpec.ofChange etherCutWrong)

/- THE SECOND FORM. 'bulk': how many values and letters a reading holds, each counted each time it is reached (what is shared counts as often as it is met; a slice's spare places count too). A statement '..UptoSaid' is the law's where the arguments, and the package variables that the reading takes, are together of bulk at most 1048576: NARROWER than '..Said'. Prove '..Said' where nothing that the law and all that it calls make is longer than what came in: it says more and counts as full. Else prove '..UptoSaid'. A law counts once. -/
mutual
def uptoBulk {H : Type} : DataW H → Nat
  | .lit (.string bytes) => bytes.length + 1
  | .lit _ => 1
  | .nil => 1
  | .ptr d => uptoBulk d + 1
  | .slice elems spare => uptoBulkAll elems + uptoBulkAll spare + 1
  | .agg parts => uptoBulkAll parts + 1
  | .iface _ d => uptoBulk d + 1
  | .map entries => uptoBulkEntries entries + 1
  | .held _ => 1
def uptoBulkAll {H : Type} : List (DataW H) → Nat
  | [] => 0
  | d :: r => uptoBulk d + uptoBulkAll r
def uptoBulkEntries {H : Type} : List (Lit × DataW H) → Nat
  | [] => 0
  | x :: r => uptoBulkEntry x + uptoBulkEntries r
def uptoBulkEntry {H : Type} : Lit × DataW H → Nat
  | (.string bytes, d) => bytes.length + uptoBulk d + 1
  | (_, d) => uptoBulk d + 1
 end
def uptoSmall : (H : Type) → List (DataW H) → Bool := fun _ ds => decide (uptoBulkAll ds ≤ 1048576)
def OpenSpec.upto (s : _root_.Go.ChangeSpec) : _root_.Go.OpenSpec := { _root_.Go.OpenSpec.ofChange s with cond := some uptoSmall }

/-- 'outriderlaw02.EtherWrites', WHERE WHAT IT READS IS OF BULK AT MOST 1048576: true; the input reads as it did. -/
def etherWritesUptoRow : OpenClaim := { program := "ytlmidhmpolopdaa", sum := "e6c50ff2e97c4f096088e1737918a72a18172b51f66c9a11542a50368d90077b", func := "outrider/outriderlaw02.EtherWrites", spec := "etherWrites", apart := false, narrowed := true }
def EtherWritesUptoSaid : Prop := etherWritesUptoRow.holds Try.pinned (OpenSpec.upto etherWritesSpec)

/-- 'outriderlaw02.EtherVirtuals', WHERE WHAT IT READS IS OF BULK AT MOST 1048576: true; the input reads as it did. -/
def etherVirtualsUptoRow : OpenClaim := { program := "ytlmidhmpolopdaa", sum := "e6c50ff2e97c4f096088e1737918a72a18172b51f66c9a11542a50368d90077b", func := "outrider/outriderlaw02.EtherVirtuals", spec := "etherVirtuals", apart := false, narrowed := true }
def EtherVirtualsUptoSaid : Prop := etherVirtualsUptoRow.holds Try.pinned (OpenSpec.upto etherVirtualsSpec)

/-- 'outriderlaw02.EtherShares', WHERE WHAT IT READS IS OF BULK AT MOST 1048576: true; the input reads as it did. -/
def etherSharesUptoRow : OpenClaim := { program := "ytlmidhmpolopdaa", sum := "e6c50ff2e97c4f096088e1737918a72a18172b51f66c9a11542a50368d90077b", func := "outrider/outriderlaw02.EtherShares", spec := "etherShares", apart := false, narrowed := true }
def EtherSharesUptoSaid : Prop := etherSharesUptoRow.holds Try.pinned (OpenSpec.upto etherSharesSpec)

/-- 'outriderlaw02.EtherReads', WHERE WHAT IT READS IS OF BULK AT MOST 1048576: true; the input reads as it did. -/
def etherReadsUptoRow : OpenClaim := { program := "ytlmidhmpolopdaa", sum := "e6c50ff2e97c4f096088e1737918a72a18172b51f66c9a11542a50368d90077b", func := "outrider/outriderlaw02.EtherReads", spec := "etherReads", apart := false, narrowed := true }
def EtherReadsUptoSaid : Prop := etherReadsUptoRow.holds Try.pinned (OpenSpec.upto etherReadsSpec)

/-- 'outriderlaw02.EtherBack', WHERE WHAT IT READS IS OF BULK AT MOST 1048576: true; the input reads as it did. -/
def etherBackUptoRow : OpenClaim := { program := "ytlmidhmpolopdaa", sum := "e6c50ff2e97c4f096088e1737918a72a18172b51f66c9a11542a50368d90077b", func := "outrider/outriderlaw02.EtherBack", spec := "etherBack", apart := false, narrowed := true }
def EtherBackUptoSaid : Prop := etherBackUptoRow.holds Try.pinned (OpenSpec.upto etherBackSpec)

/-- 'outriderlaw02.EtherNames', WHERE WHAT IT READS IS OF BULK AT MOST 1048576: true; the input reads as it did. -/
def etherNamesUptoRow : OpenClaim := { program := "ytlmidhmpolopdaa", sum := "e6c50ff2e97c4f096088e1737918a72a18172b51f66c9a11542a50368d90077b", func := "outrider/outriderlaw02.EtherNames", spec := "etherNames", apart := false, narrowed := true }
def EtherNamesUptoSaid : Prop := etherNamesUptoRow.holds Try.pinned (OpenSpec.upto etherNamesSpec)

/-- 'outriderlaw02.EtherCut', WHERE WHAT IT READS IS OF BULK AT MOST 1048576: true; the input reads as it did. -/
def etherCutUptoRow : OpenClaim := { program := "ytlmidhmpolopdaa", sum := "e6c50ff2e97c4f096088e1737918a72a18172b51f66c9a11542a50368d90077b", func := "outrider/outriderlaw02.EtherCut", spec := "etherCut", apart := false, narrowed := true }
def EtherCutUptoSaid : Prop := etherCutUptoRow.holds Try.pinned (OpenSpec.upto etherCutSpec)

end Rows
end Go.Proofs.Ytlmidhmpolopdaa
