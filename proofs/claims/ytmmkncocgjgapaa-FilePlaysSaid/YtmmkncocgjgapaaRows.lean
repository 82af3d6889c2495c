/-
  No cell of these rows narrows 'for every input' (looked for: loops, veiled, ifaces, maps, wideKeys, modest, calm, conditions, laid).
  DERIVED. THE GIVEN ROWS OF THIS SEAT. 6 by the template 'for every input the law returns true; each argument reads behind the call as it read before'; 0 by the template 'total and deterministic' (their statements: YtmmkncocgjgapaaTotals.lean).
  GIVEN WITH THE SEED: the statements are not yours to turn. If you find one false, say at which input.
  Laid BY PROGRAM, IN A SANDBOX (cutbox-rows.mjs): the forced cells as the released guide's own fill.sh prints them over the translation cbd448d5e4109642… (all of the seat's roots in one cut). By AI agents, Wed Nov 11 2026. No macro, syntax, notation, axiom, sorry.
-/
import Derived.Test.YtmmkncocgjgapaaChecked
import GoSem.Claim
import GoSem.ClaimJoined
import GoSem.ClaimMapViews
import Derived.JoinedTies
import Derived.KernelRfl
namespace Go.Proofs.Ytmmkncocgjgapaa
/- THE CELL 'sum', in the pinned program and in every row, IS THE sha256 OF THE DUMP (.gsa) THAT YtmmkncocgjgapaaProg.lean LOADS. Nothing in Lean hashes anything: it is a label: what it is worth is what the hold of that sum in a sandbox is worth. -/
noncomputable def Try.pinned : Pinned := { name := "ytmmkncocgjgapaa", sum := "cbd448d5e4109642a3dc4771fae29d765012359e5c6a89fff96c27e539b8cb68", checked := Try.checked }
namespace Rows
def none {H : Type} : Left H := { results := [], args := [] }

/-- 'abutmentlaw10.FileSealed': WHATEVER THE INPUT: true; the input reads as it did. -/
def fileSealedSpec : ChangeSpec := { name := "fileSealed", fn := fun _ => fun
  | [d1, d2, d3] => { results := [.lit (.bool true)], args := [d1, d2, d3] }
  | _ => none }
def fileSealedRow : OpenClaim := { program := "ytmmkncocgjgapaa", sum := "cbd448d5e4109642a3dc4771fae29d765012359e5c6a89fff96c27e539b8cb68", func := "abutment/abutmentlaw10.FileSealed", spec := "fileSealed", inPlace := ["slices.overlaps[abutment/space.Extent]"], unfollowed := true, recurses := true, apart := false }
def FileSealedSaid : Prop := fileSealedRow.holds Try.pinned (OpenSpec.ofChange fileSealedSpec)

/-- ITS FALSE NEIGHBOUR: 'it returns false'. Refute it at one input. -/
def fileSealedWrong : ChangeSpec := { name := "fileSealed", fn := fun _ => fun
  | [d1, d2, d3] => { results := [.lit (.bool false)], args := [d1, d2, d3] }
  | _ => none }
def FileSealedWrongFalsely : Prop := fileSealedRow.holds Try.pinned (OpenSpec.ofChange fileSealedWrong)

/-- 'abutmentlaw10.FilePlays': WHATEVER THE INPUT: true; the input reads as it did. -/
def filePlaysSpec : ChangeSpec := { name := "filePlays", fn := fun _ => fun
  | [d1, d2] => { results := [.lit (.bool true)], args := [d1, d2] }
  | _ => none }
def filePlaysRow : OpenClaim := { program := "ytmmkncocgjgapaa", sum := "cbd448d5e4109642a3dc4771fae29d765012359e5c6a89fff96c27e539b8cb68", func := "abutment/abutmentlaw10.FilePlays", spec := "filePlays", inPlace := ["slices.overlaps[abutment/space.Extent]"], unfollowed := true, recurses := true, apart := false }
def FilePlaysSaid : Prop := filePlaysRow.holds Try.pinned (OpenSpec.ofChange filePlaysSpec)

/-- ITS FALSE NEIGHBOUR: 'it returns false'. Refute it at one input. -/
def filePlaysWrong : ChangeSpec := { name := "filePlays", fn := fun _ => fun
  | [d1, d2] => { results := [.lit (.bool false)], args := [d1, d2] }
  | _ => none }
def FilePlaysWrongFalsely : Prop := filePlaysRow.holds Try.pinned (OpenSpec.ofChange filePlaysWrong)

/-- 'abutmentlaw10.FileApart': WHATEVER THE INPUT: true; the input reads as it did. -/
def fileApartSpec : ChangeSpec := { name := "fileApart", fn := fun _ => fun
  | [d1, d2] => { results := [.lit (.bool true)], args := [d1, d2] }
  | _ => none }
def fileApartRow : OpenClaim := { program := "ytmmkncocgjgapaa", sum := "cbd448d5e4109642a3dc4771fae29d765012359e5c6a89fff96c27e539b8cb68", func := "abutment/abutmentlaw10.FileApart", spec := "fileApart", inPlace := ["slices.overlaps[abutment/space.Extent]"], unfollowed := true, recurses := true, apart := false }
def FileApartSaid : Prop := fileApartRow.holds Try.pinned (OpenSpec.ofChange fileApartSpec)

/-- ITS FALSE NEIGHBOUR: 'it returns false'. Refute it at one input. -/
def fileApartWrong : ChangeSpec := { name := "fileApart", fn := fun _ => fun
  | [d1, d2] => { results := [.lit (.bool false)], args := [d1, d2] }
  | _ => none }
def FileApartWrongFalsely : Prop := fileApartRow.holds Try.pinned (OpenSpec.ofChange fileApartWrong)

/-- 'abutmentlaw10.FileNil': WHATEVER THE INPUT: true; the input reads as it did. -/
def fileNilSpec : ChangeSpec := { name := "fileNil", fn := fun _ => fun
  | [d1, d2, d3] => { results := [.lit (.bool true)], args := [d1, d2, d3] }
  | _ => none }
def fileNilRow : OpenClaim := { program := "ytmmkncocgjgapaa", sum := "cbd448d5e4109642a3dc4771fae29d765012359e5c6a89fff96c27e539b8cb68", func := "abutment/abutmentlaw10.FileNil", spec := "fileNil", inPlace := ["slices.overlaps[abutment/space.Extent]"], unfollowed := true, recurses := true, apart := false }
def FileNilSaid : Prop := fileNilRow.holds Try.pinned (OpenSpec.ofChange fileNilSpec)

/-- ITS FALSE NEIGHBOUR: 'it returns false'. Refute it at one input. -/
def fileNilWrong : ChangeSpec := { name := "fileNil", fn := fun _ => fun
  | [d1, d2, d3] => { results := [.lit (.bool false)], args := [d1, d2, d3] }
  | _ => none }
def FileNilWrongFalsely : Prop := fileNilRow.holds Try.pinned (OpenSpec.ofChange fileNilWrong)

/-- 'abutmentlaw10.FileLays': WHATEVER THE INPUT: true; the input reads as it did. -/
def fileLaysSpec : ChangeSpec := { name := "fileLays", fn := fun _ => fun
  | [d1, d2, d3] => { results := [.lit (.bool true)], args := [d1, d2, d3] }
  | _ => none }
def fileLaysRow : OpenClaim := { program := "ytmmkncocgjgapaa", sum := "cbd448d5e4109642a3dc4771fae29d765012359e5c6a89fff96c27e539b8cb68", func := "abutment/abutmentlaw10.FileLays", spec := "fileLays", inPlace := ["slices.overlaps[abutment/space.Extent]"], unfollowed := true, recurses := true, apart := false }
def FileLaysSaid : Prop := fileLaysRow.holds Try.pinned (OpenSpec.ofChange fileLaysSpec)

/-- ITS FALSE NEIGHBOUR: 'it returns false'. Refute it at one input. -/
def fileLaysWrong : ChangeSpec := { name := "fileLays", fn := fun _ => fun
  | [d1, d2, d3] => { results := [.lit (.bool false)], args := [d1, d2, d3] }
  | _ => none }
def FileLaysWrongFalsely : Prop := fileLaysRow.holds Try.pinned (OpenSpec.ofChange fileLaysWrong)

/-- 'abutmentlaw10.FileFaults': WHATEVER THE INPUT: true; the input reads as it did. -/
def fileFaultsSpec : ChangeSpec := { name := "fileFaults", fn := fun _ => fun
  | [d1, d2, d3] => { results := [.lit (.bool true)], args := [d1, d2, d3] }
  | _ => none }
def fileFaultsRow : OpenClaim := { program := "ytmmkncocgjgapaa", sum := "cbd448d5e4109642a3dc4771fae29d765012359e5c6a89fff96c27e539b8cb68", func := "abutment/abutmentlaw10.FileFaults", spec := "fileFaults", inPlace := ["slices.overlaps[abutment/space.Extent]"], unfollowed := true, recurses := true, apart := false }
def FileFaultsSaid : Prop := fileFaultsRow.holds Try.pinned (OpenSpec.ofChange fileFaultsSpec)

/-- ITS FALSE NEIGHBOUR: 'it returns false'. Refute it at one input. -/
def fileFaultsWrong : ChangeSpec := { name := "fileFaults", fn := fun _ => fun
  | [d1, d2, d3] => { results := [.lit (.bool false)], args := [d1, d2, d3] }
  | _ => none }
def FileFaultsWrongFalsely : Prop := fileFaultsRow.holds Try.pinned (OpenSpec.ofChange fileFaultsWrong)

/- THE SECOND FORM. 'bulk': how many values and letters a reading holds, each counted each time it is reached (what is shared counts as often as it is met; a slice's spare places count too). A statement '..UptoSaid' is the law's where the arguments, and the package variables that the reading takes, are together of bulk at most 1048576: NARROWER than '..Said'. Prove '..Said' where nothing that the law and all that it calls make is longer than what came in: it says more and counts as full. Else prove '..UptoSaid'. A law counts once. -/
mutual
def uptoBulk {H : Type} : DataW H → Nat
  | .lit (.string bytes) => bytes.length + 1
  | .lit _ => 1
  | .nil => 1
  | .ptr d => uptoBulk d + 1
  | .slice elems spare => uptoBulkAll elems + uptoBulkAll spare + 1
  | .agg parts => uptoBulkAll parts + 1
  | .iface _ d => uptoBulk d + 1
  | .map entries => uptoBulkEntries entries + 1
  | .held _ => 1
def uptoBulkAll {H : Type} : List (DataW H) → Nat
  | [] => 0
  | d :: r => uptoBulk d + uptoBulkAll r
def uptoBulkEntries {H : Type} : List (Lit × DataW H) → Nat
  | [] => 0
  | x :: r => uptoBulkEntry x + uptoBulkEntries r
def uptoBulkEntry {H : Type} : Lit × DataW H → Nat
  | (.string bytes, d) => bytes.length + uptoBulk d + 1
  | (_, d) => uptoBulk d + 1
 end
def uptoSmall : (H : Type) → List (DataW H) → Bool := fun _ ds => decide (uptoBulkAll ds ≤ 1048576)
def OpenSpec.upto (s : _root_.Go.ChangeSpec) : _root_.Go.OpenSpec := { _root_.Go.OpenSpec.ofChange s with cond := some uptoSmall }

/-- 'abutmentlaw10.FileSealed', WHERE WHAT IT READS IS OF BULK AT MOST 1048576: true; the input reads as it did. -/
def fileSealedUptoRow : OpenClaim := { program := "ytmmkncocgjgapaa", sum := "cbd448d5e4109642a3dc4771fae29d765012359e5c6a89fff96c27e539b8cb68", func := "abutment/abutmentlaw10.FileSealed", spec := "fileSealed", inPlace := ["slices.overlaps[abutment/space.Extent]"], unfollowed := true, recurses := true, apart := false, narrowed := true }
def FileSealedUptoSaid : Prop := fileSealedUptoRow.holds Try.pinned (OpenSpec.upto fileSealedSpec)

/-- 'abutmentlaw10.FilePlays', WHERE WHAT IT READS IS OF BULK AT MOST 1048576: true; the input reads as it did. -/
def filePlaysUptoRow : OpenClaim := { program := "ytmmkncocgjgapaa", sum := "cbd448d5e4109642a3dc4771fae29d765012359e5c6a89fff96c27e539b8cb68", func := "abutment/abutmentlaw10.FilePlays", spec := "filePlays", inPlace := ["slices.overlaps[abutment/space.Extent]"], unfollowed := true, recurses := true, apart := false, narrowed := true }
def FilePlaysUptoSaid : Prop := filePlaysUptoRow.holds Try.pinned (OpenSpec.upto filePlaysSpec)

/-- 'abutmentlaw10.FileApart', WHERE WHAT IT READS IS OF BULK AT MOST 1048576: true; the input reads as it did. -/
def fileApartUptoRow : OpenClaim := { program := "ytmmkncocgjgapaa", sum := "cbd448d5e4109642a3dc4771fae29d765012359e5c6a89fff96c27e539b8cb68", func := "abutment/abutmentlaw10.FileApart", spec := "fileApart", inPlace := ["slices.overlaps[abutment/space.Extent]"], unfollowed := true, recurses := true, apart := false, narrowed := true }
def FileApartUptoSaid : Prop := fileApartUptoRow.holds Try.pinned (OpenSpec.upto fileApartSpec)

/-- 'abutmentlaw10.FileNil', WHERE WHAT IT READS IS OF BULK AT MOST 1048576: true; the input reads as it did. -/
def fileNilUptoRow : OpenClaim := { program := "ytmmkncocgjgapaa", sum := "cbd448d5e4109642a3dc4771fae29d765012359e5c6a89fff96c27e539b8cb68", func := "abutment/abutmentlaw10.FileNil", spec := "fileNil", inPlace := ["slices.overlaps[abutment/space.Extent]"], unfollowed := true, recurses := true, apart := false, narrowed := true }
def FileNilUptoSaid : Prop := fileNilUptoRow.holds Try.pinned (OpenSpec.upto fileNilSpec)

/-- 'abutmentlaw10.FileLays', WHERE WHAT IT READS IS OF BULK AT MOST 1048576: true; the input reads as it did. -/
def fileLaysUptoRow : OpenClaim := { program := "ytmmkncocgjgapaa", sum := "cbd448d5e4109642a3dc4771fae29d765012359e5c6a89fff96c27e539b8cb68", func := "abutment/abutmentlaw10.FileLays", spec := "fileLays", inPlace := ["slices.overlaps[abutment/space.Extent]"], unfollowed := true, recurses := true, apart := false, narrowed := true }
def FileLaysUptoSaid : Prop := fileLaysUptoRow.holds Try.pinned (OpenSpec.upto fileLaysSpec)

/-- 'abutmentlaw10.FileFaults', WHERE WHAT IT READS IS OF BULK AT MOST 1048576: true; the input reads as it did. -/
def fileFaultsUptoRow : OpenClaim := { program := "ytmmkncocgjgapaa", sum := "cbd448d5e4109642a3dc4771fae29d765012359e5c6a89fff96c27e539b8cb68", func := "abutment/abutmentlaw10.FileFaults", spec := "fileFaults", inPlace := ["slices.overlaps[abutment/space.Extent]"], unfollowed := true, recurses := true, apart := false, narrowed := true }
def FileFaultsUptoSaid : Prop := fileFaultsUptoRow.holds Try.pinned (OpenSpec.upto fileFaultsSpec)

end Rows
end Go.Proofs.Ytmmkncocgjgapaa
