/-
  No cell of these rows narrows 'for every input' (looked for: loops, veiled, ifaces, maps, wideKeys, modest, calm, conditions, laid).
  DERIVED. THE GIVEN ROWS OF THIS SEAT. 9 by the template 'for every input the law returns true; each argument reads behind the call as it read before'; 0 by the template 'total and deterministic' (their statements: YtoodkfjldflbeaaTotals.lean).
  GIVEN WITH THE SEED: the statements are not yours to turn. If you find one false, say at which input.
  Laid BY PROGRAM, IN A SANDBOX (cutbox-rows.mjs): the forced cells as the released guide's own fill.sh prints them over the translation e79f9e638aa9b13b… (all of the seat's roots in one cut). By AI agents, Wed Nov 11 2026. No macro, syntax, notation, axiom, sorry.
-/
import Derived.Test.YtoodkfjldflbeaaChecked
import GoSem.Claim
import GoSem.ClaimJoined
import GoSem.ClaimMapViews
import Derived.JoinedTies
import Derived.KernelRfl
namespace Go.Proofs.Ytoodkfjldflbeaa
/- THE CELL 'sum', in the pinned program and in every row, IS THE sha256 OF THE DUMP (.gsa) THAT YtoodkfjldflbeaaProg.lean LOADS. Nothing in Lean hashes anything: it is a label: what it is worth is what the hold of that sum in a sandbox is worth. -/
noncomputable def Try.pinned : Pinned := { name := "ytoodkfjldflbeaa", sum := "e79f9e638aa9b13b3c878a6d02973d31de78e4b72dff5a5e4ea844e436b03746", checked := Try.checked }
namespace Rows
def none {H : Type} : Left H := { results := [], args := [] }

/-- 'abutmentlaw06.ArenaFits': WHATEVER THE INPUT: true; the input reads as it did. -/
def arenaFitsSpec : ChangeSpec := { name := "arenaFits", fn := fun _ => fun
  | [d1, d2] => { results := [.lit (.bool true)], args := [d1, d2] }
  | _ => none }
def arenaFitsRow : OpenClaim := { program := "ytoodkfjldflbeaa", sum := "e79f9e638aa9b13b3c878a6d02973d31de78e4b72dff5a5e4ea844e436b03746", func := "abutment/abutmentlaw06.ArenaFits", spec := "arenaFits", apart := false }
def ArenaFitsSaid : Prop := arenaFitsRow.holds Try.pinned (OpenSpec.ofChange arenaFitsSpec)

/-- ITS FALSE NEIGHBOUR: 'it returns false'. Refute it at one input. -/
def arenaFitsWrong : ChangeSpec := { name := "arenaFits", fn := fun _ => fun
  | [d1, d2] => { results := [.lit (.bool false)], args := [d1, d2] }
  | _ => none }
def ArenaFitsWrongFalsely : Prop := arenaFitsRow.holds Try.pinned (OpenSpec.ofChange arenaFitsWrong)

/-- 'abutmentlaw08.SealPuts': WHATEVER THE INPUT: true; the input reads as it did. -/
def sealPutsSpec : ChangeSpec := { name := "sealPuts", fn := fun _ => fun
  | [d1, d2, d3] => { results := [.lit (.bool true)], args := [d1, d2, d3] }
  | _ => none }
def sealPutsRow : OpenClaim := { program := "ytoodkfjldflbeaa", sum := "e79f9e638aa9b13b3c878a6d02973d31de78e4b72dff5a5e4ea844e436b03746", func := "abutment/abutmentlaw08.SealPuts", spec := "sealPuts", apart := false }
def SealPutsSaid : Prop := sealPutsRow.holds Try.pinned (OpenSpec.ofChange sealPutsSpec)

/-- ITS FALSE NEIGHBOUR: 'it returns false'. Refute it at one input. -/
def sealPutsWrong : ChangeSpec := { name := "sealPuts", fn := fun _ => fun
  | [d1, d2, d3] => { results := [.lit (.bool false)], args := [d1, d2, d3] }
  | _ => none }
def SealPutsWrongFalsely : Prop := sealPutsRow.holds Try.pinned (OpenSpec.ofChange sealPutsWrong)

/-- 'abutmentlaw06.ArenaApart': WHATEVER THE INPUT: true; the input reads as it did. -/
def arenaApartSpec : ChangeSpec := { name := "arenaApart", fn := fun _ => fun
  | [d1, d2] => { results := [.lit (.bool true)], args := [d1, d2] }
  | _ => none }
def arenaApartRow : OpenClaim := { program := "ytoodkfjldflbeaa", sum := "e79f9e638aa9b13b3c878a6d02973d31de78e4b72dff5a5e4ea844e436b03746", func := "abutment/abutmentlaw06.ArenaApart", spec := "arenaApart", apart := false }
def ArenaApartSaid : Prop := arenaApartRow.holds Try.pinned (OpenSpec.ofChange arenaApartSpec)

/-- ITS FALSE NEIGHBOUR: 'it returns false'. Refute it at one input. -/
def arenaApartWrong : ChangeSpec := { name := "arenaApart", fn := fun _ => fun
  | [d1, d2] => { results := [.lit (.bool false)], args := [d1, d2] }
  | _ => none }
def ArenaApartWrongFalsely : Prop := arenaApartRow.holds Try.pinned (OpenSpec.ofChange arenaApartWrong)

/-- 'abutmentlaw06.ArenaPlays': WHATEVER THE INPUT: true; the input reads as it did. -/
def arenaPlaysSpec : ChangeSpec := { name := "arenaPlays", fn := fun _ => fun
  | [d1, d2] => { results := [.lit (.bool true)], args := [d1, d2] }
  | _ => none }
def arenaPlaysRow : OpenClaim := { program := "ytoodkfjldflbeaa", sum := "e79f9e638aa9b13b3c878a6d02973d31de78e4b72dff5a5e4ea844e436b03746", func := "abutment/abutmentlaw06.ArenaPlays", spec := "arenaPlays", apart := false }
def ArenaPlaysSaid : Prop := arenaPlaysRow.holds Try.pinned (OpenSpec.ofChange arenaPlaysSpec)

/-- ITS FALSE NEIGHBOUR: 'it returns false'. Refute it at one input. -/
def arenaPlaysWrong : ChangeSpec := { name := "arenaPlays", fn := fun _ => fun
  | [d1, d2] => { results := [.lit (.bool false)], args := [d1, d2] }
  | _ => none }
def ArenaPlaysWrongFalsely : Prop := arenaPlaysRow.holds Try.pinned (OpenSpec.ofChange arenaPlaysWrong)

/-- 'abutmentlaw06.ArenaPeak': WHATEVER THE INPUT: true; the input reads as it did. -/
def arenaPeakSpec : ChangeSpec := { name := "arenaPeak", fn := fun _ => fun
  | [d1, d2] => { results := [.lit (.bool true)], args := [d1, d2] }
  | _ => none }
def arenaPeakRow : OpenClaim := { program := "ytoodkfjldflbeaa", sum := "e79f9e638aa9b13b3c878a6d02973d31de78e4b72dff5a5e4ea844e436b03746", func := "abutment/abutmentlaw06.ArenaPeak", spec := "arenaPeak", apart := false }
def ArenaPeakSaid : Prop := arenaPeakRow.holds Try.pinned (OpenSpec.ofChange arenaPeakSpec)

/-- ITS FALSE NEIGHBOUR: 'it returns false'. Refute it at one input. -/
def arenaPeakWrong : ChangeSpec := { name := "arenaPeak", fn := fun _ => fun
  | [d1, d2] => { results := [.lit (.bool false)], args := [d1, d2] }
  | _ => none }
def ArenaPeakWrongFalsely : Prop := arenaPeakRow.holds Try.pinned (OpenSpec.ofChange arenaPeakWrong)

/-- 'abutmentlaw08.SealGets': WHATEVER THE INPUT: true; the input reads as it did. -/
def sealGetsSpec : ChangeSpec := { name := "sealGets", fn := fun _ => fun
  | [d1, d2] => { results := [.lit (.bool true)], args := [d1, d2] }
  | _ => none }
def sealGetsRow : OpenClaim := { program := "ytoodkfjldflbeaa", sum := "e79f9e638aa9b13b3c878a6d02973d31de78e4b72dff5a5e4ea844e436b03746", func := "abutment/abutmentlaw08.SealGets", spec := "sealGets", unfollowed := true, recurses := true, apart := false }
def SealGetsSaid : Prop := sealGetsRow.holds Try.pinned (OpenSpec.ofChange sealGetsSpec)

/-- ITS FALSE NEIGHBOUR: 'it returns false'. Refute it at one input. -/
def sealGetsWrong : ChangeSpec := { name := "sealGets", fn := fun _ => fun
  | [d1, d2] => { results := [.lit (.bool false)], args := [d1, d2] }
  | _ => none }
def SealGetsWrongFalsely : Prop := sealGetsRow.holds Try.pinned (OpenSpec.ofChange sealGetsWrong)

/-- 'abutmentlaw08.SealBack': WHATEVER THE INPUT: true; the input reads as it did. -/
def sealBackSpec : ChangeSpec := { name := "sealBack", fn := fun _ => fun
  | [d1, d2, d3] => { results := [.lit (.bool true)], args := [d1, d2, d3] }
  | _ => none }
def sealBackRow : OpenClaim := { program := "ytoodkfjldflbeaa", sum := "e79f9e638aa9b13b3c878a6d02973d31de78e4b72dff5a5e4ea844e436b03746", func := "abutment/abutmentlaw08.SealBack", spec := "sealBack", unfollowed := true, recurses := true, apart := false }
def SealBackSaid : Prop := sealBackRow.holds Try.pinned (OpenSpec.ofChange sealBackSpec)

/-- ITS FALSE NEIGHBOUR: 'it returns false'. Refute it at one input. -/
def sealBackWrong : ChangeSpec := { name := "sealBack", fn := fun _ => fun
  | [d1, d2, d3] => { results := [.lit (.bool false)], args := [d1, d2, d3] }
  | _ => none }
def SealBackWrongFalsely : Prop := sealBackRow.holds Try.pinned (OpenSpec.ofChange sealBackWrong)

/-- 'abutmentlaw08.SealZeros': WHATEVER THE INPUT: true; the input reads as it did. -/
def sealZerosSpec : ChangeSpec := { name := "sealZeros", fn := fun _ => fun
  | [d1, d2] => { results := [.lit (.bool true)], args := [d1, d2] }
  | _ => none }
def sealZerosRow : OpenClaim := { program := "ytoodkfjldflbeaa", sum := "e79f9e638aa9b13b3c878a6d02973d31de78e4b72dff5a5e4ea844e436b03746", func := "abutment/abutmentlaw08.SealZeros", spec := "sealZeros", unfollowed := true, recurses := true, apart := false }
def SealZerosSaid : Prop := sealZerosRow.holds Try.pinned (OpenSpec.ofChange sealZerosSpec)

/-- ITS FALSE NEIGHBOUR: 'it returns false'. Refute it at one input. -/
def sealZerosWrong : ChangeSpec := { name := "sealZeros", fn := fun _ => fun
  | [d1, d2] => { results := [.lit (.bool false)], args := [d1, d2] }
  | _ => none }
def SealZerosWrongFalsely : Prop := sealZerosRow.holds Try.pinned (OpenSpec.ofChange sealZerosWrong)

/-- 'abutmentlaw08.SealElse': WHATEVER THE INPUT: true; the input reads as it did. -/
def sealElseSpec : ChangeSpec := { name := "sealElse", fn := fun _ => fun
  | [d1, d2, d3] => { results := [.lit (.bool true)], args := [d1, d2, d3] }
  | _ => none }
def sealElseRow : OpenClaim := { program := "ytoodkfjldflbeaa", sum := "e79f9e638aa9b13b3c878a6d02973d31de78e4b72dff5a5e4ea844e436b03746", func := "abutment/abutmentlaw08.SealElse", spec := "sealElse", unfollowed := true, recurses := true, apart := false }
def SealElseSaid : Prop := sealElseRow.holds Try.pinned (OpenSpec.ofChange sealElseSpec)

/-- ITS FALSE NEIGHBOUR: 'it returns false'. Refute it at one input. -/
def sealElseWrong : ChangeSpec := { name := "sealElse", fn := fun _ => fun
  | [d1, d2, d3] => { results := [.lit (.bool false)], args := [d1, d2, d3] }
  | _ => none }
def SealElseWrongFalsely : Prop := sealElseRow.holds Try.pinned (OpenSpec.ofChange sealElseWrong)

/- THE SECOND FORM. 'bulk': how many values and letters a reading holds, each counted each time it is reached (what is shared counts as often as it is met; a slice's spare places count too). A statement '..UptoSaid' is the law's where the arguments, and the package variables that the reading takes, are together of bulk at most 1048576: NARROWER than '..Said'. Prove '..Said' where nothing that the law and all that it calls make is longer than what came in: it says more and counts as full. Else prove '..UptoSaid'. A law counts once. -/
mutual
def uptoBulk {H : Type} : DataW H → Nat
  | .lit (.string bytes) => bytes.length + 1
  | .lit _ => 1
  | .nil => 1
  | .ptr d => uptoBulk d + 1
  | .slice elems spare => uptoBulkAll elems + uptoBulkAll spare + 1
  | .agg parts => uptoBulkAll parts + 1
  | .iface _ d => uptoBulk d + 1
  | .map entries => uptoBulkEntries entries + 1
  | .held _ => 1
def uptoBulkAll {H : Type} : List (DataW H) → Nat
  | [] => 0
  | d :: r => uptoBulk d + uptoBulkAll r
def uptoBulkEntries {H : Type} : List (Lit × DataW H) → Nat
  | [] => 0
  | x :: r => uptoBulkEntry x + uptoBulkEntries r
def uptoBulkEntry {H : Type} : Lit × DataW H → Nat
  | (.string bytes, d) => bytes.length + uptoBulk d + 1
  | (_, d) => uptoBulk d + 1
 end
def uptoSmall : (H : Type) → List (DataW H) → Bool := fun _ ds => decide (uptoBulkAll ds ≤ 1048576)
def OpenSpec.upto (s : _root_.Go.ChangeSpec) : _root_.Go.OpenSpec := { _root_.Go.OpenSpec.ofChange s with cond := some uptoSmall }

/-- 'abutmentlaw06.ArenaFits', WHERE WHAT IT READS IS OF BULK AT MOST 1048576: true; the input reads as it did. -/
def arenaFitsUptoRow : OpenClaim := { program := "ytoodkfjldflbeaa", sum := "e79f9e638aa9b13b3c878a6d02973d31de78e4b72dff5a5e4ea844e436b03746", func := "abutment/abutmentlaw06.ArenaFits", spec := "arenaFits", apart := false, narrowed := true }
def ArenaFitsUptoSaid : Prop := arenaFitsUptoRow.holds Try.pinned (OpenSpec.upto arenaFitsSpec)

/-- 'abutmentlaw08.SealPuts', WHERE WHAT IT READS IS OF BULK AT MOST 1048576: true; the input reads as it did. -/
def sealPutsUptoRow : OpenClaim := { program := "ytoodkfjldflbeaa", sum := "e79f9e638aa9b13b3c878a6d02973d31de78e4b72dff5a5e4ea844e436b03746", func := "abutment/abutmentlaw08.SealPuts", spec := "sealPuts", apart := false, narrowed := true }
def SealPutsUptoSaid : Prop := sealPutsUptoRow.holds Try.pinned (OpenSpec.upto sealPutsSpec)

/-- 'abutmentlaw06.ArenaApart', WHERE WHAT IT READS IS OF BULK AT MOST 1048576: true; the input reads as it did. -/
def arenaApartUptoRow : OpenClaim := { program := "ytoodkfjldflbeaa", sum := "e79f9e638aa9b13b3c878a6d02973d31de78e4b72dff5a5e4ea844e436b03746", func := "abutment/abutmentlaw06.ArenaApart", spec := "arenaApart", apart := false, narrowed := true }
def ArenaApartUptoSaid : Prop := arenaApartUptoRow.holds Try.pinned (OpenSpec.upto arenaApartSpec)

/-- 'abutmentlaw06.ArenaPlays', WHERE WHAT IT READS IS OF BULK AT MOST 1048576: true; the input reads as it did. -/
def arenaPlaysUptoRow : OpenClaim := { program := "ytoodkfjldflbeaa", sum := "e79f9e638aa9b13b3c878a6d02973d31de78e4b72dff5a5e4ea844e436b03746", func := "abutment/abutmentlaw06.ArenaPlays", spec := "arenaPlays", apart := false, narrowed := true }
def ArenaPlaysUptoSaid : Prop := arenaPlaysUptoRow.holds Try.pinned (OpenSpec.upto arenaPlaysSpec)

/-- 'abutmentlaw06.ArenaPeak', WHERE WHAT IT READS IS OF BULK AT MOST 1048576: true; the input reads as it did. -/
def arenaPeakUptoRow : OpenClaim := { program := "ytoodkfjldflbeaa", sum := "e79f9e638aa9b13b3c878a6d02973d31de78e4b72dff5a5e4ea844e436b03746", func := "abutment/abutmentlaw06.ArenaPeak", spec := "arenaPeak", apart := false, narrowed := true }
def ArenaPeakUptoSaid : Prop := arenaPeakUptoRow.holds Try.pinned (OpenSpec.upto arenaPeakSpec)

/-- 'abutmentlaw08.SealGets', WHERE WHAT IT READS IS OF BULK AT MOST 1048576: true; the input reads as it did. -/
def sealGetsUptoRow : OpenClaim := { program := "ytoodkfjldflbeaa", sum := "e79f9e638aa9b13b3c878a6d02973d31de78e4b72dff5a5e4ea844e436b03746", func := "abutment/abutmentlaw08.SealGets", spec := "sealGets", unfollowed := true, recurses := true, apart := false, narrowed := true }
def SealGetsUptoSaid : Prop := sealGetsUptoRow.holds Try.pinned (OpenSpec.upto sealGetsSpec)

/-- 'abutmentlaw08.SealBack', WHERE WHAT IT READS IS OF BULK AT MOST 1048576: true; the input reads as it did. -/
def sealBackUptoRow : OpenClaim := { program := "ytoodkfjldflbeaa", sum := "e79f9e638aa9b13b3c878a6d02973d31de78e4b72dff5a5e4ea844e436b03746", func := "abutment/abutmentlaw08.SealBack", spec := "sealBack", unfollowed := true, recurses := true, apart := false, narrowed := true }
def SealBackUptoSaid : Prop := sealBackUptoRow.holds Try.pinned (OpenSpec.upto sealBackSpec)

/-- 'abutmentlaw08.SealZeros', WHERE WHAT IT READS IS OF BULK AT MOST 1048576: true; the input reads as it did. -/
def sealZerosUptoRow : OpenClaim := { program := "ytoodkfjldflbeaa", sum := "e79f9e638aa9b13b3c878a6d02973d31de78e4b72dff5a5e4ea844e436b03746", func := "abutment/abutmentlaw08.SealZeros", spec := "sealZeros", unfollowed := true, recurses := true, apart := false, narrowed := true }
def SealZerosUptoSaid : Prop := sealZerosUptoRow.holds Try.pinned (OpenSpec.upto sealZerosSpec)

/-- 'abutmentlaw08.SealElse', WHERE WHAT IT READS IS OF BULK AT MOST 1048576: true; the input reads as it did. -/
def sealElseUptoRow : OpenClaim := { program := "ytoodkfjldflbeaa", sum := "e79f9e638aa9b13b3c878a6d02973d31de78e4b72dff5a5e4ea844e436b03746", func := "abutment/abutmentlaw08.SealElse", spec := "sealElse", unfollowed := true, recurses := true, apart := false, narrowed := true }
def SealElseUptoSaid : Prop := sealElseUptoRow.holds Try.pinned (OpenSpec.upto sealElseSpec)

end Rows
end Go.Proofs.Ytoodkfjldflbeaa
