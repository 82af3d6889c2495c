/-
  No cell of these rows narrows 'for every input' (looked for: loops, veiled, ifaces, maps, wideKeys, modest, calm, conditions, laid).
  DERIVED. THE GIVEN ROWS OF THIS SEAT. 9 by the template 'for every input the law returns true; each argument reads behind the call as it read before'; 0 by the template 'total and deterministic' (their statements: YtodjibhnmibedaaTotals.lean).
  GIVEN WITH THE SEED: the statements are not yours to turn. If you find one false, say at which input.
  Laid BY PROGRAM, IN A SANDBOX (cutbox-rows.mjs): the forced cells as the released guide's own fill.sh prints them over the translation ce19417f6592bae7… (all of the seat's roots in one cut). By AI agents, Wed Nov 11 2026. No macro, syntax, notation, axiom, sorry.
-/
import Derived.Test.YtodjibhnmibedaaChecked
import GoSem.Claim
import GoSem.ClaimJoined
import GoSem.ClaimMapViews
import Derived.JoinedTies
import Derived.KernelRfl
namespace Go.Proofs.Ytodjibhnmibedaa
/- THE CELL 'sum', in the pinned program and in every row, IS THE sha256 OF THE DUMP (.gsa) THAT YtodjibhnmibedaaProg.lean LOADS. Nothing in Lean hashes anything: it is a label: what it is worth is what the hold of that sum in a sandbox is worth. -/
noncomputable def Try.pinned : Pinned := { name := "ytodjibhnmibedaa", sum := "ce19417f6592bae78231c5def712b2b9569e5d731d053c3d7b629a970df4b710", checked := Try.checked }
namespace Rows
def none {H : Type} : Left H := { results := [], args := [] }

/-- 'abutmentlaw05.DeviceApart': WHATEVER THE INPUT: true; the input reads as it did. -/
def deviceApartSpec : ChangeSpec := { name := "deviceApart", fn := fun _ => fun
  | [d1, d2, d3] => { results := [.lit (.bool true)], args := [d1, d2, d3] }
  | _ => none }
def deviceApartRow : OpenClaim := { program := "ytodjibhnmibedaa", sum := "ce19417f6592bae78231c5def712b2b9569e5d731d053c3d7b629a970df4b710", func := "abutment/abutmentlaw05.DeviceApart", spec := "deviceApart", apart := false }
def DeviceApartSaid : Prop := deviceApartRow.holds Try.pinned (OpenSpec.ofChange deviceApartSpec)

/-- ITS FALSE NEIGHBOUR: 'it returns false'. Refute it at one input. -/
def deviceApartWrong : ChangeSpec := { name := "deviceApart", fn := fun _ => fun
  | [d1, d2, d3] => { results := [.lit (.bool false)], args := [d1, d2, d3] }
  | _ => none }
def DeviceApartWrongFalsely : Prop := deviceApartRow.holds Try.pinned (OpenSpec.ofChange deviceApartWrong)

/-- 'abutmentlaw05.DeviceFaults': WHATEVER THE INPUT: true; the input reads as it did. -/
def deviceFaultsSpec : ChangeSpec := { name := "deviceFaults", fn := fun _ => fun
  | [d1, d2, d3] => { results := [.lit (.bool true)], args := [d1, d2, d3] }
  | _ => none }
def deviceFaultsRow : OpenClaim := { program := "ytodjibhnmibedaa", sum := "ce19417f6592bae78231c5def712b2b9569e5d731d053c3d7b629a970df4b710", func := "abutment/abutmentlaw05.DeviceFaults", spec := "deviceFaults", apart := false }
def DeviceFaultsSaid : Prop := deviceFaultsRow.holds Try.pinned (OpenSpec.ofChange deviceFaultsSpec)

/-- ITS FALSE NEIGHBOUR: 'it returns false'. Refute it at one input. -/
def deviceFaultsWrong : ChangeSpec := { name := "deviceFaults", fn := fun _ => fun
  | [d1, d2, d3] => { results := [.lit (.bool false)], args := [d1, d2, d3] }
  | _ => none }
def DeviceFaultsWrongFalsely : Prop := deviceFaultsRow.holds Try.pinned (OpenSpec.ofChange deviceFaultsWrong)

/-- 'abutmentlaw05.DeviceKeeps': WHATEVER THE INPUT: true; the input reads as it did. -/
def deviceKeepsSpec : ChangeSpec := { name := "deviceKeeps", fn := fun _ => fun
  | [d1, d2] => { results := [.lit (.bool true)], args := [d1, d2] }
  | _ => none }
def deviceKeepsRow : OpenClaim := { program := "ytodjibhnmibedaa", sum := "ce19417f6592bae78231c5def712b2b9569e5d731d053c3d7b629a970df4b710", func := "abutment/abutmentlaw05.DeviceKeeps", spec := "deviceKeeps", inPlace := ["maps.clone"], apart := false }
def DeviceKeepsSaid : Prop := deviceKeepsRow.holds Try.pinned (OpenSpec.ofChange deviceKeepsSpec)

/-- ITS FALSE NEIGHBOUR: 'it returns false'. Refute it at one input. -/
def deviceKeepsWrong : ChangeSpec := { name := "deviceKeeps", fn := fun _ => fun
  | [d1, d2] => { results := [.lit (.bool false)], args := [d1, d2] }
  | _ => none }
def DeviceKeepsWrongFalsely : Prop := deviceKeepsRow.holds Try.pinned (OpenSpec.ofChange deviceKeepsWrong)

/-- 'abutmentlaw05.DeviceTwice': WHATEVER THE INPUT: true; the input reads as it did. -/
def deviceTwiceSpec : ChangeSpec := { name := "deviceTwice", fn := fun _ => fun
  | [d1, d2] => { results := [.lit (.bool true)], args := [d1, d2] }
  | _ => none }
def deviceTwiceRow : OpenClaim := { program := "ytodjibhnmibedaa", sum := "ce19417f6592bae78231c5def712b2b9569e5d731d053c3d7b629a970df4b710", func := "abutment/abutmentlaw05.DeviceTwice", spec := "deviceTwice", inPlace := ["maps.clone"], apart := false }
def DeviceTwiceSaid : Prop := deviceTwiceRow.holds Try.pinned (OpenSpec.ofChange deviceTwiceSpec)

/-- ITS FALSE NEIGHBOUR: 'it returns false'. Refute it at one input. -/
def deviceTwiceWrong : ChangeSpec := { name := "deviceTwice", fn := fun _ => fun
  | [d1, d2] => { results := [.lit (.bool false)], args := [d1, d2] }
  | _ => none }
def DeviceTwiceWrongFalsely : Prop := deviceTwiceRow.holds Try.pinned (OpenSpec.ofChange deviceTwiceWrong)

/-- 'abutmentlaw05.DeviceNil': WHATEVER THE INPUT: true; the input reads as it did. -/
def deviceNilSpec : ChangeSpec := { name := "deviceNil", fn := fun _ => fun
  | [d] => { results := [.lit (.bool true)], args := [d] }
  | _ => none }
def deviceNilRow : OpenClaim := { program := "ytodjibhnmibedaa", sum := "ce19417f6592bae78231c5def712b2b9569e5d731d053c3d7b629a970df4b710", func := "abutment/abutmentlaw05.DeviceNil", spec := "deviceNil", inPlace := ["maps.clone"], apart := false }
def DeviceNilSaid : Prop := deviceNilRow.holds Try.pinned (OpenSpec.ofChange deviceNilSpec)

/-- ITS FALSE NEIGHBOUR: 'it returns false'. Refute it at one input. -/
def deviceNilWrong : ChangeSpec := { name := "deviceNil", fn := fun _ => fun
  | [d] => { results := [.lit (.bool false)], args := [d] }
  | _ => none }
def DeviceNilWrongFalsely : Prop := deviceNilRow.holds Try.pinned (OpenSpec.ofChange deviceNilWrong)

/-- 'abutmentlaw07.SpaceHeld': WHATEVER THE INPUT: true; the input reads as it did. -/
def spaceHeldSpec : ChangeSpec := { name := "spaceHeld", fn := fun _ => fun
  | [d1, d2] => { results := [.lit (.bool true)], args := [d1, d2] }
  | _ => none }
def spaceHeldRow : OpenClaim := { program := "ytodjibhnmibedaa", sum := "ce19417f6592bae78231c5def712b2b9569e5d731d053c3d7b629a970df4b710", func := "abutment/abutmentlaw07.SpaceHeld", spec := "spaceHeld", inPlace := ["slices.overlaps[abutment/space.Extent]"], unfollowed := true, recurses := true, apart := false }
def SpaceHeldSaid : Prop := spaceHeldRow.holds Try.pinned (OpenSpec.ofChange spaceHeldSpec)

/-- ITS FALSE NEIGHBOUR: 'it returns false'. Refute it at one input. -/
def spaceHeldWrong : ChangeSpec := { name := "spaceHeld", fn := fun _ => fun
  | [d1, d2] => { results := [.lit (.bool false)], args := [d1, d2] }
  | _ => none }
def SpaceHeldWrongFalsely : Prop := spaceHeldRow.holds Try.pinned (OpenSpec.ofChange spaceHeldWrong)

/-- 'abutmentlaw07.SpacePlays': WHATEVER THE INPUT: true; the input reads as it did. -/
def spacePlaysSpec : ChangeSpec := { name := "spacePlays", fn := fun _ => fun
  | [d1, d2, d3] => { results := [.lit (.bool true)], args := [d1, d2, d3] }
  | _ => none }
def spacePlaysRow : OpenClaim := { program := "ytodjibhnmibedaa", sum := "ce19417f6592bae78231c5def712b2b9569e5d731d053c3d7b629a970df4b710", func := "abutment/abutmentlaw07.SpacePlays", spec := "spacePlays", inPlace := ["slices.overlaps[abutment/space.Extent]"], unfollowed := true, recurses := true, apart := false }
def SpacePlaysSaid : Prop := spacePlaysRow.holds Try.pinned (OpenSpec.ofChange spacePlaysSpec)

/-- ITS FALSE NEIGHBOUR: 'it returns false'. Refute it at one input. -/
def spacePlaysWrong : ChangeSpec := { name := "spacePlays", fn := fun _ => fun
  | [d1, d2, d3] => { results := [.lit (.bool false)], args := [d1, d2, d3] }
  | _ => none }
def SpacePlaysWrongFalsely : Prop := spacePlaysRow.holds Try.pinned (OpenSpec.ofChange spacePlaysWrong)

/-- 'abutmentlaw07.SpaceApart': WHATEVER THE INPUT: true; the input reads as it did. -/
def spaceApartSpec : ChangeSpec := { name := "spaceApart", fn := fun _ => fun
  | [d1, d2] => { results := [.lit (.bool true)], args := [d1, d2] }
  | _ => none }
def spaceApartRow : OpenClaim := { program := "ytodjibhnmibedaa", sum := "ce19417f6592bae78231c5def712b2b9569e5d731d053c3d7b629a970df4b710", func := "abutment/abutmentlaw07.SpaceApart", spec := "spaceApart", inPlace := ["slices.overlaps[abutment/space.Extent]"], unfollowed := true, recurses := true, apart := false }
def SpaceApartSaid : Prop := spaceApartRow.holds Try.pinned (OpenSpec.ofChange spaceApartSpec)

/-- ITS FALSE NEIGHBOUR: 'it returns false'. Refute it at one input. -/
def spaceApartWrong : ChangeSpec := { name := "spaceApart", fn := fun _ => fun
  | [d1, d2] => { results := [.lit (.bool false)], args := [d1, d2] }
  | _ => none }
def SpaceApartWrongFalsely : Prop := spaceApartRow.holds Try.pinned (OpenSpec.ofChange spaceApartWrong)

/-- 'abutmentlaw07.SpaceLeast': WHATEVER THE INPUT: true; the input reads as it did. -/
def spaceLeastSpec : ChangeSpec := { name := "spaceLeast", fn := fun _ => fun
  | [d1, d2] => { results := [.lit (.bool true)], args := [d1, d2] }
  | _ => none }
def spaceLeastRow : OpenClaim := { program := "ytodjibhnmibedaa", sum := "ce19417f6592bae78231c5def712b2b9569e5d731d053c3d7b629a970df4b710", func := "abutment/abutmentlaw07.SpaceLeast", spec := "spaceLeast", inPlace := ["slices.overlaps[abutment/space.Extent]"], unfollowed := true, recurses := true, apart := false }
def SpaceLeastSaid : Prop := spaceLeastRow.holds Try.pinned (OpenSpec.ofChange spaceLeastSpec)

/-- ITS FALSE NEIGHBOUR: 'it returns false'. Refute it at one input. -/
def spaceLeastWrong : ChangeSpec := { name := "spaceLeast", fn := fun _ => fun
  | [d1, d2] => { results := [.lit (.bool false)], args := [d1, d2] }
  | _ => none }
def SpaceLeastWrongFalsely : Prop := spaceLeastRow.holds Try.pinned (OpenSpec.ofChange spaceLeastWrong)

/- THE SECOND FORM. 'bulk': how many values and letters a reading holds, each counted each time it is reached (what is shared counts as often as it is met; a slice's spare places count too). A statement '..UptoSaid' is the law's where the arguments, and the package variables that the reading takes, are together of bulk at most 1048576: NARROWER than '..Said'. Prove '..Said' where nothing that the law and all that it calls make is longer than what came in: it says more and counts as full. Else prove '..UptoSaid'. A law counts once. -/
mutual
def uptoBulk {H : Type} : DataW H → Nat
  | .lit (.string bytes) => bytes.length + 1
  | .lit _ => 1
  | .nil => 1
  | .ptr d => uptoBulk d + 1
  | .slice elems spare => uptoBulkAll elems + uptoBulkAll spare + 1
  | .agg parts => uptoBulkAll parts + 1
  | .iface _ d => uptoBulk d + 1
  | .map entries => uptoBulkEntries entries + 1
  | .held _ => 1
def uptoBulkAll {H : Type} : List (DataW H) → Nat
  | [] => 0
  | d :: r => uptoBulk d + uptoBulkAll r
def uptoBulkEntries {H : Type} : List (Lit × DataW H) → Nat
  | [] => 0
  | x :: r => uptoBulkEntry x + uptoBulkEntries r
def uptoBulkEntry {H : Type} : Lit × DataW H → Nat
  | (.string bytes, d) => bytes.length + uptoBulk d + 1
  | (_, d) => uptoBulk d + 1
 end
def uptoSmall : (H : Type) → List (DataW H) → Bool := fun _ ds => decide (uptoBulkAll ds ≤ 1048576)
def OpenSpec.upto (s : _root_.Go.ChangeSpec) : _root_.Go.OpenSpec := { _root_.Go.OpenSpec.ofChange s with cond := some uptoSmall }

/-- 'abutmentlaw05.DeviceApart', WHERE WHAT IT READS IS OF BULK AT MOST 1048576: true; the input reads as it did. -/
def deviceApartUptoRow : OpenClaim := { program := "ytodjibhnmibedaa", sum := "ce19417f6592bae78231c5def712b2b9569e5d731d053c3d7b629a970df4b710", func := "abutment/abutmentlaw05.DeviceApart", spec := "deviceApart", apart := false, narrowed := true }
def DeviceApartUptoSaid : Prop := deviceApartUptoRow.holds Try.pinned (OpenSpec.upto deviceApartSpec)

/-- 'abutmentlaw05.DeviceFaults', WHERE WHAT IT READS IS OF BULK AT MOST 1048576: true; the input reads as it did. -/
def deviceFaultsUptoRow : OpenClaim := { program := "ytodjibhnmibedaa", sum := "ce19417f6592bae78231c5def712b2b9569e5d731d053c3d7b629a970df4b710", func := "abutment/abutmentlaw05.DeviceFaults", spec := "deviceFaults", apart := false, narrowed := true }
def DeviceFaultsUptoSaid : Prop := deviceFaultsUptoRow.holds Try.pinned (OpenSpec.upto deviceFaultsSpec)

/-- 'abutmentlaw05.DeviceKeeps', WHERE WHAT IT READS IS OF BULK AT MOST 1048576: true; the input reads as it did. -/
def deviceKeepsUptoRow : OpenClaim := { program := "ytodjibhnmibedaa", sum := "ce19417f6592bae78231c5def712b2b9569e5d731d053c3d7b629a970df4b710", func := "abutment/abutmentlaw05.DeviceKeeps", spec := "deviceKeeps", inPlace := ["maps.clone"], apart := false, narrowed := true }
def DeviceKeepsUptoSaid : Prop := deviceKeepsUptoRow.holds Try.pinned (OpenSpec.upto deviceKeepsSpec)

/-- 'abutmentlaw05.DeviceTwice', WHERE WHAT IT READS IS OF BULK AT MOST 1048576: true; the input reads as it did. -/
def deviceTwiceUptoRow : OpenClaim := { program := "ytodjibhnmibedaa", sum := "ce19417f6592bae78231c5def712b2b9569e5d731d053c3d7b629a970df4b710", func := "abutment/abutmentlaw05.DeviceTwice", spec := "deviceTwice", inPlace := ["maps.clone"], apart := false, narrowed := true }
def DeviceTwiceUptoSaid : Prop := deviceTwiceUptoRow.holds Try.pinned (OpenSpec.upto deviceTwiceSpec)

/-- 'abutmentlaw05.DeviceNil', WHERE WHAT IT READS IS OF BULK AT MOST 1048576: true; the input reads as it did. -/
def deviceNilUptoRow : OpenClaim := { program := "ytodjibhnmibedaa", sum := "ce19417f6592bae78231c5def712b2b9569e5d731d053c3d7b629a970df4b710", func := "abutment/abutmentlaw05.DeviceNil", spec := "deviceNil", inPlace := ["maps.clone"], apart := false, narrowed := true }
def DeviceNilUptoSaid : Prop := deviceNilUptoRow.holds Try.pinned (OpenSpec.upto deviceNilSpec)

/-- 'abutmentlaw07.SpaceHeld', WHERE WHAT IT READS IS OF BULK AT MOST 1048576: true; the input reads as it did. -/
def spaceHeldUptoRow : OpenClaim := { program := "ytodjibhnmibedaa", sum := "ce19417f6592bae78231c5def712b2b9569e5d731d053c3d7b629a970df4b710", func := "abutment/abutmentlaw07.SpaceHeld", spec := "spaceHeld", inPlace := ["slices.overlaps[abutment/space.Extent]"], unfollowed := true, recurses := true, apart := false, narrowed := true }
def SpaceHeldUptoSaid : Prop := spaceHeldUptoRow.holds Try.pinned (OpenSpec.upto spaceHeldSpec)

/-- 'abutmentlaw07.SpacePlays', WHERE WHAT IT READS IS OF BULK AT MOST 1048576: true; the input reads as it did. -/
def spacePlaysUptoRow : OpenClaim := { program := "ytodjibhnmibedaa", sum := "ce19417f6592bae78231c5def712b2b9569e5d731d053c3d7b629a970df4b710", func := "abutment/abutmentlaw07.SpacePlays", spec := "spacePlays", inPlace := ["slices.overlaps[abutment/space.Extent]"], unfollowed := true, recurses := true, apart := false, narrowed := true }
def SpacePlaysUptoSaid : Prop := spacePlaysUptoRow.holds Try.pinned (OpenSpec.upto spacePlaysSpec)

/-- 'abutmentlaw07.SpaceApart', WHERE WHAT IT READS IS OF BULK AT MOST 1048576: true; the input reads as it did. -/
def spaceApartUptoRow : OpenClaim := { program := "ytodjibhnmibedaa", sum := "ce19417f6592bae78231c5def712b2b9569e5d731d053c3d7b629a970df4b710", func := "abutment/abutmentlaw07.SpaceApart", spec := "spaceApart", inPlace := ["slices.overlaps[abutment/space.Extent]"], unfollowed := true, recurses := true, apart := false, narrowed := true }
def SpaceApartUptoSaid : Prop := spaceApartUptoRow.holds Try.pinned (OpenSpec.upto spaceApartSpec)

/-- 'abutmentlaw07.SpaceLeast', WHERE WHAT IT READS IS OF BULK AT MOST 1048576: true; the input reads as it did. -/
def spaceLeastUptoRow : OpenClaim := { program := "ytodjibhnmibedaa", sum := "ce19417f6592bae78231c5def712b2b9569e5d731d053c3d7b629a970df4b710", func := "abutment/abutmentlaw07.SpaceLeast", spec := "spaceLeast", inPlace := ["slices.overlaps[abutment/space.Extent]"], unfollowed := true, recurses := true, apart := false, narrowed := true }
def SpaceLeastUptoSaid : Prop := spaceLeastUptoRow.holds Try.pinned (OpenSpec.upto spaceLeastSpec)

end Rows
end Go.Proofs.Ytodjibhnmibedaa
