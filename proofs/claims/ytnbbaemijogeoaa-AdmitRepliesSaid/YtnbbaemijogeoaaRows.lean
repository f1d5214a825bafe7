/-
  No cell of these rows narrows 'for every input' (looked for: loops, veiled, ifaces, maps, wideKeys, modest, calm, conditions, laid).
  DERIVED. THE GIVEN ROWS OF THIS SEAT. 4 by the template 'for every input the law returns true; each argument reads behind the call as it read before'; 0 by the template 'total and deterministic' (their statements: YtnbbaemijogeoaaTotals.lean).
  GIVEN WITH THE SEED: the statements are not yours to turn. If you find one false, say at which input.
  Laid BY PROGRAM, IN A SANDBOX (cutbox-rows.mjs): the forced cells as the released guide's own fill.sh prints them over the translation 9586ceef7603c7db… (all of the seat's roots in one cut). By AI agents, Wed Nov 11 2026. No macro, syntax, notation, axiom, sorry.
-/
import Derived.Test.YtnbbaemijogeoaaChecked
import GoSem.Claim
import GoSem.ClaimJoined
import GoSem.ClaimMapViews
import Derived.JoinedTies
import Derived.KernelRfl
namespace Go.Proofs.Ytnbbaemijogeoaa
/- THE CELL 'sum', in the pinned program and in every row, IS THE sha256 OF THE DUMP (.gsa) THAT YtnbbaemijogeoaaProg.lean LOADS. Nothing in Lean hashes anything: it is a label: what it is worth is what the hold of that sum in a sandbox is worth. -/
noncomputable def Try.pinned : Pinned := { name := "ytnbbaemijogeoaa", sum := "9586ceef7603c7db2c38773e98ee3b9e36a25493993cff09b5818f909ee32718", checked := Try.checked }
namespace Rows
def none {H : Type} : Left H := { results := [], args := [] }

/-- 'outriderlaw20.AdmitPorts': WHATEVER THE INPUT: true; the input reads as it did. -/
def admitPortsSpec : ChangeSpec := { name := "admitPorts", fn := fun _ => fun
  | [d1, d2, d3] => { results := [.lit (.bool true)], args := [d1, d2, d3] }
  | _ => none }
def admitPortsRow : OpenClaim := { program := "ytnbbaemijogeoaa", sum := "9586ceef7603c7db2c38773e98ee3b9e36a25493993cff09b5818f909ee32718", func := "outrider/outriderlaw20.AdmitPorts", spec := "admitPorts", unfollowed := true, recurses := true, apart := false }
def AdmitPortsSaid : Prop := admitPortsRow.holds Try.pinned (OpenSpec.ofChange admitPortsSpec)

/-- ITS FALSE NEIGHBOUR: 'it returns false'. Refute it at one input. -/
def admitPortsWrong : ChangeSpec := { name := "admitPorts", fn := fun _ => fun
  | [d1, d2, d3] => { results := [.lit (.bool false)], args := [d1, d2, d3] }
  | _ => none }
def AdmitPortsWrongFalsely : Prop := admitPortsRow.holds Try.pinned (OpenSpec.ofChange admitPortsWrong)

/-- 'outriderlaw20.AdmitMaster': WHATEVER THE INPUT: true; the input reads as it did. -/
def admitMasterSpec : ChangeSpec := { name := "admitMaster", fn := fun _ => fun
  | [d1, d2] => { results := [.lit (.bool true)], args := [d1, d2] }
  | _ => none }
def admitMasterRow : OpenClaim := { program := "ytnbbaemijogeoaa", sum := "9586ceef7603c7db2c38773e98ee3b9e36a25493993cff09b5818f909ee32718", func := "outrider/outriderlaw20.AdmitMaster", spec := "admitMaster", unfollowed := true, recurses := true, apart := false }
def AdmitMasterSaid : Prop := admitMasterRow.holds Try.pinned (OpenSpec.ofChange admitMasterSpec)

/-- ITS FALSE NEIGHBOUR: 'it returns false'. Refute it at one input. -/
def admitMasterWrong : ChangeSpec := { name := "admitMaster", fn := fun _ => fun
  | [d1, d2] => { results := [.lit (.bool false)], args := [d1, d2] }
  | _ => none }
def AdmitMasterWrongFalsely : Prop := admitMasterRow.holds Try.pinned (OpenSpec.ofChange admitMasterWrong)

/-- 'outriderlaw20.AdmitOne': WHATEVER THE INPUT: true; the input reads as it did. -/
def admitOneSpec : ChangeSpec := { name := "admitOne", fn := fun _ => fun
  | [d1, d2, d3] => { results := [.lit (.bool true)], args := [d1, d2, d3] }
  | _ => none }
def admitOneRow : OpenClaim := { program := "ytnbbaemijogeoaa", sum := "9586ceef7603c7db2c38773e98ee3b9e36a25493993cff09b5818f909ee32718", func := "outrider/outriderlaw20.AdmitOne", spec := "admitOne", unfollowed := true, recurses := true, apart := false }
def AdmitOneSaid : Prop := admitOneRow.holds Try.pinned (OpenSpec.ofChange admitOneSpec)

/-- ITS FALSE NEIGHBOUR: 'it returns false'. Refute it at one input. -/
def admitOneWrong : ChangeSpec := { name := "admitOne", fn := fun _ => fun
  | [d1, d2, d3] => { results := [.lit (.bool false)], args := [d1, d2, d3] }
  | _ => none }
def AdmitOneWrongFalsely : Prop := admitOneRow.holds Try.pinned (OpenSpec.ofChange admitOneWrong)

/-- 'outriderlaw20.AdmitReplies': WHATEVER THE INPUT: true; the input reads as it did. -/
def admitRepliesSpec : ChangeSpec := { name := "admitReplies", fn := fun _ => fun
  | [d1, d2] => { results := [.lit (.bool true)], args := [d1, d2] }
  | _ => none }
def admitRepliesRow : OpenClaim := { program := "ytnbbaemijogeoaa", sum := "9586ceef7603c7db2c38773e98ee3b9e36a25493993cff09b5818f909ee32718", func := "outrider/outriderlaw20.AdmitReplies", spec := "admitReplies", unfollowed := true, recurses := true, apart := false }
def AdmitRepliesSaid : Prop := admitRepliesRow.holds Try.pinned (OpenSpec.ofChange admitRepliesSpec)

/-- ITS FALSE NEIGHBOUR: 'it returns false'. Refute it at one input. -/
def admitRepliesWrong : ChangeSpec := { name := "admitReplies", fn := fun _ => fun
  | [d1, d2] => { results := [.lit (.bool false)], args := [d1, d2] }
  | _ => none }
def AdmitRepliesWrongFalsely : Prop := admitRepliesRow.holds Try.pinned (OpenSpec.ofChange admitRepliesWrong)

/- THE SECOND FORM. 'bulk': how many values and letters a reading holds, each counted each time it is reached (what is shared counts as often as it is met; a slice's spare places count too). A statement '..UptoSaid' is the law's where the arguments, and the package variables that the reading takes, are together of bulk at most 1048576: NARROWER than '..Said'. Prove '..Said' where nothing that the law and all that it calls make is longer than what came in: it says more and counts as full. Else prove '..UptoSaid'. A law counts once. -/
mutual
def uptoBulk {H : Type} : DataW H → Nat
  | .lit (.string bytes) => bytes.length + 1
  | .lit _ => 1
  | .nil => 1
  | .ptr d => uptoBulk d + 1
  | .slice elems spare => uptoBulkAll elems + uptoBulkAll spare + 1
  | .agg parts => uptoBulkAll parts + 1
  | .iface _ d => uptoBulk d + 1
  | .map entries => uptoBulkEntries entries + 1
  | .held _ => 1
def uptoBulkAll {H : Type} : List (DataW H) → Nat
  | [] => 0
  | d :: r => uptoBulk d + uptoBulkAll r
def uptoBulkEntries {H : Type} : List (Lit × DataW H) → Nat
  | [] => 0
  | x :: r => uptoBulkEntry x + uptoBulkEntries r
def uptoBulkEntry {H : Type} : Lit × DataW H → Nat
  | (.string bytes, d) => bytes.length + uptoBulk d + 1
  | (_, d) => uptoBulk d + 1
 end
def uptoSmall : (H : Type) → List (DataW H) → Bool := fun _ ds => decide (uptoBulkAll ds ≤ 1048576)
def OpenSpec.upto (s : _root_.Go.ChangeSpec) : _root_.Go.OpenSpec := { _root_.Go.OpenSpec.ofChange s with cond := some uptoSmall }

/-- 'outriderlaw20.AdmitPorts', WHERE WHAT IT READS IS OF BULK AT MOST 1048576: true; the input reads as it did. -/
def admitPortsUptoRow : OpenClaim := { program := "ytnbbaemijogeoaa", sum := "9586ceef7603c7db2c38773e98ee3b9e36a25493993cff09b5818f909ee32718", func := "outrider/outriderlaw20.AdmitPorts", spec := "admitPorts", unfollowed := true, recurses := true, apart := false, narrowed := true }
def AdmitPortsUptoSaid : Prop := admitPortsUptoRow.holds Try.pinned (OpenSpec.upto admitPortsSpec)

/-- 'outriderlaw20.AdmitMaster', WHERE WHAT IT READS IS OF BULK AT MOST 1048576: true; the input reads as it did. -/
def admitMasterUptoRow : OpenClaim := { program := "ytnbbaemijogeoaa", sum := "9586ceef7603c7db2c38773e98ee3b9e36a25493993cff09b5818f909ee32718", func := "outrider/outriderlaw20.AdmitMaster", spec := "admitMaster", unfollowed := true, recurses := true, apart := false, narrowed := true }
def AdmitMasterUptoSaid : Prop := admitMasterUptoRow.holds Try.pinned (OpenSpec.upto admitMasterSpec)

/-- 'outriderlaw20.AdmitOne', WHERE WHAT IT READS IS OF BULK AT MOST 1048576: true; the input reads as it did. -/
def admitOneUptoRow : OpenClaim := { program := "ytnbbaemijogeoaa", sum := "9586ceef7603c7db2c38773e98ee3b9e36a25493993cff09b5818f909ee32718", func := "outrider/outriderlaw20.AdmitOne", spec := "admitOne", unfollowed := true, recurses := true, apart := false, narrowed := true }
def AdmitOneUptoSaid : Prop := admitOneUptoRow.holds Try.pinned (OpenSpec.upto admitOneSpec)

/-- 'outriderlaw20.AdmitReplies', WHERE WHAT IT READS IS OF BULK AT MOST 1048576: true; the input reads as it did. -/
def admitRepliesUptoRow : OpenClaim := { program := "ytnbbaemijogeoaa", sum := "9586ceef7603c7db2c38773e98ee3b9e36a25493993cff09b5818f909ee32718", func := "outrider/outriderlaw20.AdmitReplies", spec := "admitReplies", unfollowed := true, recurses := true, apart := false, narrowed := true }
def AdmitRepliesUptoSaid : Prop := admitRepliesUptoRow.holds Try.pinned (OpenSpec.upto admitRepliesSpec)

end Rows
end Go.Proofs.Ytnbbaemijogeoaa
