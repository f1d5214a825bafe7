/-
  No cell of these rows narrows 'for every input' (looked for: loops, veiled, ifaces, maps, wideKeys, modest, calm, conditions, laid).
  DERIVED. THE GIVEN ROWS OF THIS SEAT. 7 by the template 'for every input the law returns true; each argument reads behind the call as it read before'; 0 by the template 'total and deterministic' (their statements: YtlmliffcockfgaaTotals.lean).
  GIVEN WITH THE SEED: the statements are not yours to turn. If you find one false, say at which input.
  Laid BY PROGRAM, IN A SANDBOX (cutbox-rows.mjs): the forced cells as the released guide's own fill.sh prints them over the translation 9b0433d0720adea2… (all of the seat's roots in one cut). By AI agents, Wed Nov 11 2026. No macro, syntax, notation, axiom, sorry.
-/
import Derived.Test.YtlmliffcockfgaaChecked
import GoSem.Claim
import GoSem.ClaimJoined
import GoSem.ClaimMapViews
import Derived.JoinedTies
import Derived.KernelRfl
namespace Go.Proofs.Ytlmliffcockfgaa
/- THE CELL 'sum', in the pinned program and in every row, IS THE sha256 OF THE DUMP (.gsa) THAT YtlmliffcockfgaaProg.lean LOADS. Nothing in Lean hashes anything: it is a label: what it is worth is what the hold of that sum in a sandbox is worth. -/
noncomputable def Try.pinned : Pinned := { name := "ytlmliffcockfgaa", sum := "9b0433d0720adea2dfa3113bc6f250b8a46220d0a4ad0817593c2341a294a6b0", checked := Try.checked }
namespace Rows
def none {H : Type} : Left H := { results := [], args := [] }

/-- 'outriderlaw03.IpvWrites': WHATEVER THE INPUT: true; the input reads as it did. -/
def ipvWritesSpec : ChangeSpec := { name := "ipvWrites", fn := fun _ => fun
  | [d] => { results := [.lit (.bool true)], args := [d] }
  | _ => none }
def ipvWritesRow : OpenClaim := { program := "ytlmliffcockfgaa", sum := "9b0433d0720adea2dfa3113bc6f250b8a46220d0a4ad0817593c2341a294a6b0", func := "outrider/outriderlaw03.IpvWrites", spec := "ipvWrites", unfollowed := true, recurses := true, apart := false }
def IpvWritesSaid : Prop := ipvWritesRow.holds Try.pinned (OpenSpec.ofChange ipvWritesSpec)

/-- ITS FALSE NEIGHBOUR: 'it returns false'. Refute it at one input. -/
def ipvWritesWrong : ChangeSpec := { name := "ipvWrites", fn := fun _ => fun
  | [d] => { results := [.lit (.bool false)], args := [d] }
  | _ => none }
def IpvWritesWrongFalsely : Prop := ipvWritesRow.holds Try.pinned (OpenSpec.ofChange ipvWritesWrong)

/-- 'outriderlaw03.IpvReads': WHATEVER THE INPUT: true; the input reads as it did. -/
def ipvReadsSpec : ChangeSpec := { name := "ipvReads", fn := fun _ => fun
  | [d] => { results := [.lit (.bool true)], args := [d] }
  | _ => none }
def ipvReadsRow : OpenClaim := { program := "ytlmliffcockfgaa", sum := "9b0433d0720adea2dfa3113bc6f250b8a46220d0a4ad0817593c2341a294a6b0", func := "outrider/outriderlaw03.IpvReads", spec := "ipvReads", unfollowed := true, recurses := true, apart := false }
def IpvReadsSaid : Prop := ipvReadsRow.holds Try.pinned (OpenSpec.ofChange ipvReadsSpec)

/-- ITS FALSE NEIGHBOUR: 'it returns false'. Refute it at one input. -/
def ipvReadsWrong : ChangeSpec := { name := "ipvReads", fn := fun _ => fun
  | [d] => { results := [.lit (.bool false)], args := [d] }
  | _ => none }
def IpvReadsWrongFalsely : Prop := ipvReadsRow.holds Try.pinned (OpenSpec.ofChange ipvReadsWrong)

/-- 'outriderlaw03.IpvBack': WHATEVER THE INPUT: true; the input reads as it did. -/
def ipvBackSpec : ChangeSpec := { name := "ipvBack", fn := fun _ => fun
  | [d1, d2] => { results := [.lit (.bool true)], args := [d1, d2] }
  | _ => none }
def ipvBackRow : OpenClaim := { program := "ytlmliffcockfgaa", sum := "9b0433d0720adea2dfa3113bc6f250b8a46220d0a4ad0817593c2341a294a6b0", func := "outrider/outriderlaw03.IpvBack", spec := "ipvBack", unfollowed := true, recurses := true, apart := false }
def IpvBackSaid : Prop := ipvBackRow.holds Try.pinned (OpenSpec.ofChange ipvBackSpec)

/-- ITS FALSE NEIGHBOUR: 'it returns false'. Refute it at one input. -/
def ipvBackWrong : ChangeSpec := { name := "ipvBack", fn := fun _ => fun
  | [d1, d2] => { results := [.lit (.bool false)], args := [d1, d2] }
  | _ => none }
def IpvBackWrongFalsely : Prop := ipvBackRow.holds Try.pinned (OpenSpec.ofChange ipvBackWrong)

/-- 'outriderlaw03.IpvSums': WHATEVER THE INPUT: true; the input reads as it did. -/
def ipvSumsSpec : ChangeSpec := { name := "ipvSums", fn := fun _ => fun
  | [d1, d2] => { results := [.lit (.bool true)], args := [d1, d2] }
  | _ => none }
def ipvSumsRow : OpenClaim := { program := "ytlmliffcockfgaa", sum := "9b0433d0720adea2dfa3113bc6f250b8a46220d0a4ad0817593c2341a294a6b0", func := "outrider/outriderlaw03.IpvSums", spec := "ipvSums", unfollowed := true, recurses := true, apart := false }
def IpvSumsSaid : Prop := ipvSumsRow.holds Try.pinned (OpenSpec.ofChange ipvSumsSpec)

/-- ITS FALSE NEIGHBOUR: 'it returns false'. Refute it at one input. -/
def ipvSumsWrong : ChangeSpec := { name := "ipvSums", fn := fun _ => fun
  | [d1, d2] => { results := [.lit (.bool false)], args := [d1, d2] }
  | _ => none }
def IpvSumsWrongFalsely : Prop := ipvSumsRow.holds Try.pinned (OpenSpec.ofChange ipvSumsWrong)

/-- 'outriderlaw03.IpvCut': WHATEVER THE INPUT: true; the input reads as it did. -/
def ipvCutSpec : ChangeSpec := { name := "ipvCut", fn := fun _ => fun
  | [d1, d2] => { results := [.lit (.bool true)], args := [d1, d2] }
  | _ => none }
def ipvCutRow : OpenClaim := { program := "ytlmliffcockfgaa", sum := "9b0433d0720adea2dfa3113bc6f250b8a46220d0a4ad0817593c2341a294a6b0", func := "outrider/outriderlaw03.IpvCut", spec := "ipvCut", unfollowed := true, recurses := true, apart := false }
def IpvCutSaid : Prop := ipvCutRow.holds Try.pinned (OpenSpec.ofChange ipvCutSpec)

/-- ITS FALSE NEIGHBOUR: 'it returns false'. Refute it at one input. -/
def ipvCutWrong : ChangeSpec := { name := "ipvCut", fn := fun _ => fun
  | [d1, d2] => { results := [.lit (.bool false)], args := [d1, d2] }
  | _ => none }
def IpvCutWrongFalsely : Prop := ipvCutRow.holds Try.pinned (OpenSpec.ofChange ipvCutWrong)

/-- 'outriderlaw03.IpvTurned': WHATEVER THE INPUT: true; the input reads as it did. -/
def ipvTurnedSpec : ChangeSpec := { name := "ipvTurned", fn := fun _ => fun
  | [d1, d2, d3] => { results := [.lit (.bool true)], args := [d1, d2, d3] }
  | _ => none }
def ipvTurnedRow : OpenClaim := { program := "ytlmliffcockfgaa", sum := "9b0433d0720adea2dfa3113bc6f250b8a46220d0a4ad0817593c2341a294a6b0", func := "outrider/outriderlaw03.IpvTurned", spec := "ipvTurned", unfollowed := true, recurses := true, apart := false }
def IpvTurnedSaid : Prop := ipvTurnedRow.holds Try.pinned (OpenSpec.ofChange ipvTurnedSpec)

/-- ITS FALSE NEIGHBOUR: 'it returns false'. Refute it at one input. -/
def ipvTurnedWrong : ChangeSpec := { name := "ipvTurned", fn := fun _ => fun
  | [d1, d2, d3] => { results := [.lit (.bool false)], args := [d1, d2, d3] }
  | _ => none }
def IpvTurnedWrongFalsely : Prop := ipvTurnedRow.holds Try.pinned (OpenSpec.ofChange ipvTurnedWrong)

/-- 'outriderlaw03.IpvPseudo': WHATEVER THE INPUT: true; the input reads as it did. -/
def ipvPseudoSpec : ChangeSpec := { name := "ipvPseudo", fn := fun _ => fun
  | [d1, d2, d3] => { results := [.lit (.bool true)], args := [d1, d2, d3] }
  | _ => none }
def ipvPseudoRow : OpenClaim := { program := "ytlmliffcockfgaa", sum := "9b0433d0720adea2dfa3113bc6f250b8a46220d0a4ad0817593c2341a294a6b0", func := "outrider/outriderlaw03.IpvPseudo", spec := "ipvPseudo", unfollowed := true, recurses := true, apart := false }
def IpvPseudoSaid : Prop := ipvPseudoRow.holds Try.pinned (OpenSpec.ofChange ipvPseudoSpec)

/-- ITS FALSE NEIGHBOUR: 'it returns false'. Refute it at one input. -/
def ipvPseudoWrong : ChangeSpec := { name := "ipvPseudo", fn := fun _ => fun
  | [d1, d2, d3] => { results := [.lit (.bool false)], args := [d1, d2, d3] }
  | _ => none }
def IpvPseudoWrongFalsely : Prop := ipvPseudoRow.holds Try.pinned (OpenSpec.ofChange ipvPseudoWrong)

/- THE SECOND FORM. 'bulk': how many values and letters a reading holds, each counted each time it is reached (what is shared counts as often as it is met; a slice's spare places count too). A statement '..UptoSaid' is the law's where the arguments, and the package variables that the reading takes, are together of bulk at most 1048576: NARROWER than '..Said'. Prove '..Said' where nothing that the law and all that it calls make is longer than what came in: it says more and counts as full. Else prove '..UptoSaid'. A law counts once. -/
mutual
def uptoBulk {H : Type} : DataW H → Nat
  | .lit (.string bytes) => bytes.length + 1
  | .lit _ => 1
  | .nil => 1
  | .ptr d => uptoBulk d + 1
  | .slice elems spare => uptoBulkAll elems + uptoBulkAll spare + 1
  | .agg parts => uptoBulkAll parts + 1
  | .iface _ d => uptoBulk d + 1
  | .map entries => uptoBulkEntries entries + 1
  | .held _ => 1
def uptoBulkAll {H : Type} : List (DataW H) → Nat
  | [] => 0
  | d :: r => uptoBulk d + uptoBulkAll r
def uptoBulkEntries {H : Type} : List (Lit × DataW H) → Nat
  | [] => 0
  | x :: r => uptoBulkEntry x + uptoBulkEntries r
def uptoBulkEntry {H : Type} : Lit × DataW H → Nat
  | (.string bytes, d) => bytes.length + uptoBulk d + 1
  | (_, d) => uptoBulk d + 1
 end
def uptoSmall : (H : Type) → List (DataW H) → Bool := fun _ ds => decide (uptoBulkAll ds ≤ 1048576)
def OpenSpec.upto (s : _root_.Go.ChangeSpec) : _root_.Go.OpenSpec := { _root_.Go.OpenSpec.ofChange s with cond := some uptoSmall }

/-- 'outriderlaw03.IpvWrites', WHERE WHAT IT READS IS OF BULK AT MOST 1048576: true; the input reads as it did. -/
def ipvWritesUptoRow : OpenClaim := { program := "ytlmliffcockfgaa", sum := "9b0433d0720adea2dfa3113bc6f250b8a46220d0a4ad0817593c2341a294a6b0", func := "outrider/outriderlaw03.IpvWrites", spec := "ipvWrites", unfollowed := true, recurses := true, apart := false, narrowed := true }
def IpvWritesUptoSaid : Prop := ipvWritesUptoRow.holds Try.pinned (OpenSpec.upto ipvWritesSpec)

/-- 'outriderlaw03.IpvReads', WHERE WHAT IT READS IS OF BULK AT MOST 1048576: true; the input reads as it did. -/
def ipvReadsUptoRow : OpenClaim := { program := "ytlmliffcockfgaa", sum := "9b0433d0720adea2dfa3113bc6f250b8a46220d0a4ad0817593c2341a294a6b0", func := "outrider/outriderlaw03.IpvReads", spec := "ipvReads", unfollowed := true, recurses := true, apart := false, narrowed := true }
def IpvReadsUptoSaid : Prop := ipvReadsUptoRow.holds Try.pinned (OpenSpec.upto ipvReadsSpec)

/-- 'outriderlaw03.IpvBack', WHERE WHAT IT READS IS OF BULK AT MOST 1048576: true; the input reads as it did. -/
def ipvBackUptoRow : OpenClaim := { program := "ytlmliffcockfgaa", sum := "9b0433d0720adea2dfa3113bc6f250b8a46220d0a4ad0817593c2341a294a6b0", func := "outrider/outriderlaw03.IpvBack", spec := "ipvBack", unfollowed := true, recurses := true, apart := false, narrowed := true }
def IpvBackUptoSaid : Prop := ipvBackUptoRow.holds Try.pinned (OpenSpec.upto ipvBackSpec)

/-- 'outriderlaw03.IpvSums', WHERE WHAT IT READS IS OF BULK AT MOST 1048576: true; the input reads as it did. -/
def ipvSumsUptoRow : OpenClaim := { program := "ytlmliffcockfgaa", sum := "9b0433d0720adea2dfa3113bc6f250b8a46220d0a4ad0817593c2341a294a6b0", func := "outrider/outriderlaw03.IpvSums", spec := "ipvSums", unfollowed := true, recurses := true, apart := false, narrowed := true }
def IpvSumsUptoSaid : Prop := ipvSumsUptoRow.holds Try.pinned (OpenSpec.upto ipvSumsSpec)

/-- 'outriderlaw03.IpvCut', WHERE WHAT IT READS IS OF BULK AT MOST 1048576: true; the input reads as it did. -/
def ipvCutUptoRow : OpenClaim := { program := "ytlmliffcockfgaa", sum := "9b0433d0720adea2dfa3113bc6f250b8a46220d0a4ad0817593c2341a294a6b0", func := "outrider/outriderlaw03.IpvCut", spec := "ipvCut", unfollowed := true, recurses := true, apart := false, narrowed := true }
def IpvCutUptoSaid : Prop := ipvCutUptoRow.holds Try.pinned (OpenSpec.upto ipvCutSpec)

/-- 'outriderlaw03.IpvTurned', WHERE WHAT IT READS IS OF BULK AT MOST 1048576: true; the input reads as it did. -/
def ipvTurnedUptoRow : OpenClaim := { program := "ytlmliffcockfgaa", sum := "9b0433d0720adea2dfa3113bc6f250b8a46220d0a4ad0817593c2341a294a6b0", func := "outrider/outriderlaw03.IpvTurned", spec := "ipvTurned", unfollowed := true, recurses := true, apart := false, narrowed := true }
def IpvTurnedUptoSaid : Prop := ipvTurnedUptoRow.holds Try.pinned (OpenSpec.upto ipvTurnedSpec)

/-- 'outriderlaw03.IpvPseudo', WHERE WHAT IT READS IS OF BULK AT MOST 1048576: true; the input reads as it did. -/
def ipvPseudoUptoRow : OpenClaim := { program := "ytlmliffcockfgaa", sum := "9b0433d0720adea2dfa3113bc6f250b8a46220d0a4ad0817593c2341a294a6b0", func := "outrider/outriderlaw03.IpvPseudo", spec := "ipvPseudo", unfollowed := true, recurses := true, apart := false, narrowed := true }
def IpvPseudoUptoSaid : Prop := ipvPseudoUptoRow.holds Try.pinned (OpenSpec.upto ipvPseudoSpec)

end Rows
end Go.Proofs.Ytlmliffcockfgaa
