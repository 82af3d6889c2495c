/-
  No cell of these rows narrows 'for every input' (looked for: loops, veiled, ifaces, maps, wideKeys, modest, calm, conditions, laid).
  DERIVED. THE GIVEN ROWS OF THIS SEAT. 6 by the template 'for every input the law returns true; each argument reads behind the call as it read before'; 0 by the template 'total and deterministic' (their statements: YtlbaigkpojkfjaaTotals.lean).
  GIVEN WITH THE SEED: the statements are not yours to turn. If you find one false, say at which input.
  Laid BY PROGRAM, IN A SANDBOX (cutbox-rows.mjs): the forced cells as the released guide's own fill.sh prints them over the translation 46fc7385628e15b4… (all of the seat's roots in one cut). By AI agents, Wed Nov 11 2026. No macro, syntax, notation, axiom, sorry.
-/
import Derived.Test.YtlbaigkpojkfjaaChecked
import GoSem.Claim
import GoSem.ClaimJoined
import GoSem.ClaimMapViews
import Derived.JoinedTies
import Derived.KernelRfl
namespace Go.Proofs.Ytlbaigkpojkfjaa
/- THE CELL 'sum', in the pinned program and in every row, IS THE sha256 OF THE DUMP (.gsa) THAT YtlbaigkpojkfjaaProg.lean LOADS. Nothing in Lean hashes anything: it is a label: what it is worth is what the hold of that sum in a sandbox is worth. -/
noncomputable def Try.pinned : Pinned := { name := "ytlbaigkpojkfjaa", sum := "46fc7385628e15b41833035fe264d6d3a3f76a916bcd7287f5afda6006c99741", checked := Try.checked }
namespace Rows
def none {H : Type} : Left H := { results := [], args := [] }

/-- 'abutmentlaw13.JoinNumbers': WHATEVER THE INPUT: true; the input reads as it did. -/
def joinNumbersSpec : ChangeSpec := { name := "joinNumbers", fn := fun _ => fun
  | [d1, d2] => { results := [.lit (.bool true)], args := [d1, d2] }
  | _ => none }
def joinNumbersRow : OpenClaim := { program := "ytlbaigkpojkfjaa", sum := "46fc7385628e15b41833035fe264d6d3a3f76a916bcd7287f5afda6006c99741", func := "abutment/abutmentlaw13.JoinNumbers", spec := "joinNumbers", inPlace := ["slices.overlaps[abutment/space.Extent]"], unfollowed := true, recurses := true, apart := false }
def JoinNumbersSaid : Prop := joinNumbersRow.holds Try.pinned (OpenSpec.ofChange joinNumbersSpec)

/-- ITS FALSE NEIGHBOUR: 'it returns false'. Refute it at one input. -/
def joinNumbersWrong : ChangeSpec := { name := "joinNumbers", fn := fun _ => fun
  | [d1, d2] => { results := [.lit (.bool false)], args := [d1, d2] }
  | _ => none }
def JoinNumbersWrongFalsely : Prop := joinNumbersRow.holds Try.pinned (OpenSpec.ofChange joinNumbersWrong)

/-- 'abutmentlaw13.JoinKeeps': WHATEVER THE INPUT: true; the input reads as it did. -/
def joinKeepsSpec : ChangeSpec := { name := "joinKeeps", fn := fun _ => fun
  | [d1, d2, d3] => { results := [.lit (.bool true)], args := [d1, d2, d3] }
  | _ => none }
def joinKeepsRow : OpenClaim := { program := "ytlbaigkpojkfjaa", sum := "46fc7385628e15b41833035fe264d6d3a3f76a916bcd7287f5afda6006c99741", func := "abutment/abutmentlaw13.JoinKeeps", spec := "joinKeeps", inPlace := ["slices.overlaps[abutment/space.Extent]"], unfollowed := true, recurses := true, apart := false }
def JoinKeepsSaid : Prop := joinKeepsRow.holds Try.pinned (OpenSpec.ofChange joinKeepsSpec)

/-- ITS FALSE NEIGHBOUR: 'it returns false'. Refute it at one input. -/
def joinKeepsWrong : ChangeSpec := { name := "joinKeeps", fn := fun _ => fun
  | [d1, d2, d3] => { results := [.lit (.bool false)], args := [d1, d2, d3] }
  | _ => none }
def JoinKeepsWrongFalsely : Prop := joinKeepsRow.holds Try.pinned (OpenSpec.ofChange joinKeepsWrong)

/-- 'abutmentlaw13.JoinCuts': WHATEVER THE INPUT: true; the input reads as it did. -/
def joinCutsSpec : ChangeSpec := { name := "joinCuts", fn := fun _ => fun
  | [d1, d2] => { results := [.lit (.bool true)], args := [d1, d2] }
  | _ => none }
def joinCutsRow : OpenClaim := { program := "ytlbaigkpojkfjaa", sum := "46fc7385628e15b41833035fe264d6d3a3f76a916bcd7287f5afda6006c99741", func := "abutment/abutmentlaw13.JoinCuts", spec := "joinCuts", inPlace := ["slices.overlaps[abutment/space.Extent]"], unfollowed := true, recurses := true, apart := false }
def JoinCutsSaid : Prop := joinCutsRow.holds Try.pinned (OpenSpec.ofChange joinCutsSpec)

/-- ITS FALSE NEIGHBOUR: 'it returns false'. Refute it at one input. -/
def joinCutsWrong : ChangeSpec := { name := "joinCuts", fn := fun _ => fun
  | [d1, d2] => { results := [.lit (.bool false)], args := [d1, d2] }
  | _ => none }
def JoinCutsWrongFalsely : Prop := joinCutsRow.holds Try.pinned (OpenSpec.ofChange joinCutsWrong)

/-- 'abutmentlaw13.JoinNil': WHATEVER THE INPUT: true; the input reads as it did. -/
def joinNilSpec : ChangeSpec := { name := "joinNil", fn := fun _ => fun
  | [d1, d2, d3] => { results := [.lit (.bool true)], args := [d1, d2, d3] }
  | _ => none }
def joinNilRow : OpenClaim := { program := "ytlbaigkpojkfjaa", sum := "46fc7385628e15b41833035fe264d6d3a3f76a916bcd7287f5afda6006c99741", func := "abutment/abutmentlaw13.JoinNil", spec := "joinNil", inPlace := ["slices.overlaps[abutment/space.Extent]"], unfollowed := true, recurses := true, apart := false }
def JoinNilSaid : Prop := joinNilRow.holds Try.pinned (OpenSpec.ofChange joinNilSpec)

/-- ITS FALSE NEIGHBOUR: 'it returns false'. Refute it at one input. -/
def joinNilWrong : ChangeSpec := { name := "joinNil", fn := fun _ => fun
  | [d1, d2, d3] => { results := [.lit (.bool false)], args := [d1, d2, d3] }
  | _ => none }
def JoinNilWrongFalsely : Prop := joinNilRow.holds Try.pinned (OpenSpec.ofChange joinNilWrong)

/-- 'abutmentlaw13.JoinBack': WHATEVER THE INPUT: true; the input reads as it did. -/
def joinBackSpec : ChangeSpec := { name := "joinBack", fn := fun _ => fun
  | [d] => { results := [.lit (.bool true)], args := [d] }
  | _ => none }
def joinBackRow : OpenClaim := { program := "ytlbaigkpojkfjaa", sum := "46fc7385628e15b41833035fe264d6d3a3f76a916bcd7287f5afda6006c99741", func := "abutment/abutmentlaw13.JoinBack", spec := "joinBack", inPlace := ["slices.overlaps[abutment/space.Extent]"], unfollowed := true, recurses := true, apart := false }
def JoinBackSaid : Prop := joinBackRow.holds Try.pinned (OpenSpec.ofChange joinBackSpec)

/-- ITS FALSE NEIGHBOUR: 'it returns false'. Refute it at one input. -/
def joinBackWrong : ChangeSpec := { name := "joinBack", fn := fun _ => fun
  | [d] => { results := [.lit (.bool false)], args := [d] }
  | _ => none }
def JoinBackWrongFalsely : Prop := joinBackRow.holds Try.pinned (OpenSpec.ofChange joinBackWrong)

/-- 'abutmentlaw13.JoinFaults': WHATEVER THE INPUT: true; the input reads as it did. -/
def joinFaultsSpec : ChangeSpec := { name := "joinFaults", fn := fun _ => fun
  | [d1, d2, d3] => { results := [.lit (.bool true)], args := [d1, d2, d3] }
  | _ => none }
def joinFaultsRow : OpenClaim := { program := "ytlbaigkpojkfjaa", sum := "46fc7385628e15b41833035fe264d6d3a3f76a916bcd7287f5afda6006c99741", func := "abutment/abutmentlaw13.JoinFaults", spec := "joinFaults", inPlace := ["slices.overlaps[abutment/space.Extent]"], unfollowed := true, recurses := true, apart := false }
def JoinFaultsSaid : Prop := joinFaultsRow.holds Try.pinned (OpenSpec.ofChange joinFaultsSpec)

/-- ITS FALSE NEIGHBOUR: 'it returns false'. Refute it at one input. -/
def joinFaultsWrong : ChangeSpec := { name := "joinFaults", fn := fun _ => fun
  | [d1, d2, d3] => { results := [.lit (.bool false)], args := [d1, d2, d3] }
  | _ => none }
def JoinFaultsWrongFalsely : Prop := joinFaultsRow.holds Try.pinned (OpenSpec.ofChange joinFaultsWrong)

/- THE SECOND FORM. 'bulk': how many values and letters a reading holds, each counted each time it is reached (what is shared counts as often as it is met; a slice's spare places count too). A statement '..UptoSaid' is the law's where the arguments, and the package variables that the reading takes, are together of bulk at most 1048576: NARROWER than '..Said'. Prove '..Said' where nothing that the law and all that it calls make is longer than what came in: it says more and counts as full. Else prove '..UptoSaid'. A law counts once. -/
mutual
def uptoBulk {H : Type} : DataW H → Nat
  | .lit (.string bytes) => bytes.length + 1
  | .lit _ => 1
  | .nil => 1
  | .ptr d => uptoBulk d + 1
  | .slice elems spare => uptoBulkAll elems + uptoBulkAll spare + 1
  | .agg parts => uptoBulkAll parts + 1
  | .iface _ d => uptoBulk d + 1
  | .map entries => uptoBulkEntries entries + 1
  | .held _ => 1
def uptoBulkAll {H : Type} : List (DataW H) → Nat
  | [] => 0
  | d :: r => uptoBulk d + uptoBulkAll r
def uptoBulkEntries {H : Type} : List (Lit × DataW H) → Nat
  | [] => 0
  | x :: r => uptoBulkEntry x + uptoBulkEntries r
def uptoBulkEntry {H : Type} : Lit × DataW H → Nat
  | (.string bytes, d) => bytes.length + uptoBulk d + 1
  | (_, d) => uptoBulk d + 1
 end
def uptoSmall : (H : Type) → List (DataW H) → Bool := fun _ ds => decide (uptoBulkAll ds ≤ 1048576)
def OpenSpec.upto (s : _root_.Go.ChangeSpec) : _root_.Go.OpenSpec := { _root_.Go.OpenSpec.ofChange s with cond := some uptoSmall }

/-- 'abutmentlaw13.JoinNumbers', WHERE WHAT IT READS IS OF BULK AT MOST 1048576: true; the input reads as it did. -/
def joinNumbersUptoRow : OpenClaim := { program := "ytlbaigkpojkfjaa", sum := "46fc7385628e15b41833035fe264d6d3a3f76a916bcd7287f5afda6006c99741", func := "abutment/abutmentlaw13.JoinNumbers", spec := "joinNumbers", inPlace := ["slices.overlaps[abutment/space.Extent]"], unfollowed := true, recurses := true, apart := false, narrowed := true }
def JoinNumbersUptoSaid : Prop := joinNumbersUptoRow.holds Try.pinned (OpenSpec.upto joinNumbersSpec)

/-- 'abutmentlaw13.JoinKeeps', WHERE WHAT IT READS IS OF BULK AT MOST 1048576: true; the input reads as it did. -/
def joinKeepsUptoRow : OpenClaim := { program := "ytlbaigkpojkfjaa", sum := "46fc7385628e15b41833035fe264d6d3a3f76a916bcd7287f5afda6006c99741", func := "abutment/abutmentlaw13.JoinKeeps", spec := "joinKeeps", inPlace := ["slices.overlaps[abutment/space.Extent]"], unfollowed := true, recurses := true, apart := false, narrowed := true }
def JoinKeepsUptoSaid : Prop := joinKeepsUptoRow.holds Try.pinned (OpenSpec.upto joinKeepsSpec)

/-- 'abutmentlaw13.JoinCuts', WHERE WHAT IT READS IS OF BULK AT MOST 1048576: true; the input reads as it did. -/
def joinCutsUptoRow : OpenClaim := { program := "ytlbaigkpojkfjaa", sum := "46fc7385628e15b41833035fe264d6d3a3f76a916bcd7287f5afda6006c99741", func := "abutment/abutmentlaw13.JoinCuts", spec := "joinCuts", inPlace := ["slices.overlaps[abutment/space.Extent]"], unfollowed := true, recurses := true, apart := false, narrowed := true }
def JoinCutsUptoSaid : Prop := joinCutsUptoRow.holds Try.pinned (OpenSpec.upto joinCutsSpec)

/-- 'abutmentlaw13.JoinNil', WHERE WHAT IT READS IS OF BULK AT MOST 1048576: true; the input reads as it did. -/
def joinNilUptoRow : OpenClaim := { program := "ytlbaigkpojkfjaa", sum := "46fc7385628e15b41833035fe264d6d3a3f76a916bcd7287f5afda6006c99741", func := "abutment/abutmentlaw13.JoinNil", spec := "joinNil", inPlace := ["slices.overlaps[abutment/space.Extent]"], unfollowed := true, recurses := true, apart := false, narrowed := true }
def JoinNilUptoSaid : Prop := joinNilUptoRow.holds Try.pinned (OpenSpec.upto joinNilSpec)

/-- 'abutmentlaw13.JoinBack', WHERE WHAT IT READS IS OF BULK AT MOST 1048576: true; the input reads as it did. -/
def joinBackUptoRow : OpenClaim := { program := "ytlbaigkpojkfjaa", sum := "46fc7385628e15b41833035fe264d6d3a3f76a916bcd7287f5afda6006c99741", func := "abutment/abutmentlaw13.JoinBack", spec := "joinBack", inPlace := ["slices.overlaps[abutment/space.Extent]"], unfollowed := true, recurses := true, apart := false, narrowed := true }
def JoinBackUptoSaid : Prop := joinBackUptoRow.holds Try.pinned (OpenSpec.upto joinBackSpec)

/-- 'abutmentlaw13.JoinFaults', WHERE WHAT IT READS IS OF BULK AT MOST 1048576: true; the input reads as it did. -/
def joinFaultsUptoRow : OpenClaim := { program := "ytlbaigkpojkfjaa", sum := "46fc7385628e15b41833035fe264d6d3a3f76a916bcd7287f5afda6006c99741", func := "abutment/abutmentlaw13.JoinFaults", spec := "joinFaults", inPlace := ["slices.overlaps[abutment/space.Extent]"], unfollowed := true, recurses := true, apart := false, narrowed := true }
def JoinFaultsUptoSaid : Prop := joinFaultsUptoRow.holds Try.pinned (OpenSpec.upto joinFaultsSpec)

end Rows
end Go.Proofs.Ytlbaigkpojkfjaa
