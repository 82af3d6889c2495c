/-
  No cell of these rows narrows 'for every input' (looked for: loops, veiled, ifaces, maps, wideKeys, modest, calm, conditions, laid).
  DERIVED. THE GIVEN ROWS OF THIS SEAT. 11 by the template 'for every input the law returns true; each argument reads behind the call as it read before'; 0 by the template 'total and deterministic' (their statements: YtlepmefknglkeaaTotals.lean).
  GIVEN WITH THE SEED: the statements are not yours to turn. If you find one false, say at which input.
  Laid BY PROGRAM, IN A SANDBOX (cutbox-rows.mjs): the forced cells as the released guide's own fill.sh prints them over the translation cc19f41ff97c823e… (all of the seat's roots in one cut). By AI agents, Wed Nov 11 2026. No macro, syntax, notation, axiom, sorry.
-/
import Derived.Test.YtlepmefknglkeaaChecked
import GoSem.Claim
import GoSem.ClaimJoined
import GoSem.ClaimMapViews
import Derived.JoinedTies
import Derived.KernelRfl
namespace Go.Proofs.Ytlepmefknglkeaa
/- THE CELL 'sum', in the pinned program and in every row, IS THE sha256 OF THE DUMP (.gsa) THAT YtlepmefknglkeaaProg.lean LOADS. Nothing in Lean hashes anything: it is a label: what it is worth is what the hold of that sum in a sandbox is worth. -/
noncomputable def Try.pinned : Pinned := { name := "ytlepmefknglkeaa", sum := "cc19f41ff97c823ee46c2a7b7553eaa40c87adb41495b4fc9f884cd4debbb5fc", checked := Try.checked }
namespace Rows
def none {H : Type} : Left H := { results := [], args := [] }

/-- 'abutmentlaw03.GraphForms': WHATEVER THE INPUT: true; the input reads as it did. -/
def graphFormsSpec : ChangeSpec := { name := "graphForms", fn := fun _ => fun
  | [d1, d2] => { results := [.lit (.bool true)], args := [d1, d2] }
  | _ => none }
def graphFormsRow : OpenClaim := { program := "ytlepmefknglkeaa", sum := "cc19f41ff97c823ee46c2a7b7553eaa40c87adb41495b4fc9f884cd4debbb5fc", func := "abutment/abutmentlaw03.GraphForms", spec := "graphForms", unfollowed := true, recurses := true, apart := false }
def GraphFormsSaid : Prop := graphFormsRow.holds Try.pinned (OpenSpec.ofChange graphFormsSpec)

/-- ITS FALSE NEIGHBOUR: 'it returns false'. Refute it at one input. -/
def graphFormsWrong : ChangeSpec := { name := "graphForms", fn := fun _ => fun
  | [d1, d2] => { results := [.lit (.bool false)], args := [d1, d2] }
  | _ => none }
def GraphFormsWrongFalsely : Prop := graphFormsRow.holds Try.pinned (OpenSpec.ofChange graphFormsWrong)

/-- 'abutmentlaw03.GraphCounts': WHATEVER THE INPUT: true; the input reads as it did. -/
def graphCountsSpec : ChangeSpec := { name := "graphCounts", fn := fun _ => fun
  | [d] => { results := [.lit (.bool true)], args := [d] }
  | _ => none }
def graphCountsRow : OpenClaim := { program := "ytlepmefknglkeaa", sum := "cc19f41ff97c823ee46c2a7b7553eaa40c87adb41495b4fc9f884cd4debbb5fc", func := "abutment/abutmentlaw03.GraphCounts", spec := "graphCounts", unfollowed := true, recurses := true, apart := false }
def GraphCountsSaid : Prop := graphCountsRow.holds Try.pinned (OpenSpec.ofChange graphCountsSpec)

/-- ITS FALSE NEIGHBOUR: 'it returns false'. Refute it at one input. -/
def graphCountsWrong : ChangeSpec := { name := "graphCounts", fn := fun _ => fun
  | [d] => { results := [.lit (.bool false)], args := [d] }
  | _ => none }
def GraphCountsWrongFalsely : Prop := graphCountsRow.holds Try.pinned (OpenSpec.ofChange graphCountsWrong)

/-- 'abutmentlaw03.GraphOrders': WHATEVER THE INPUT: true; the input reads as it did. -/
def graphOrdersSpec : ChangeSpec := { name := "graphOrders", fn := fun _ => fun
  | [d] => { results := [.lit (.bool true)], args := [d] }
  | _ => none }
def graphOrdersRow : OpenClaim := { program := "ytlepmefknglkeaa", sum := "cc19f41ff97c823ee46c2a7b7553eaa40c87adb41495b4fc9f884cd4debbb5fc", func := "abutment/abutmentlaw03.GraphOrders", spec := "graphOrders", unfollowed := true, recurses := true, apart := false }
def GraphOrdersSaid : Prop := graphOrdersRow.holds Try.pinned (OpenSpec.ofChange graphOrdersSpec)

/-- ITS FALSE NEIGHBOUR: 'it returns false'. Refute it at one input. -/
def graphOrdersWrong : ChangeSpec := { name := "graphOrders", fn := fun _ => fun
  | [d] => { results := [.lit (.bool false)], args := [d] }
  | _ => none }
def GraphOrdersWrongFalsely : Prop := graphOrdersRow.holds Try.pinned (OpenSpec.ofChange graphOrdersWrong)

/-- 'abutmentlaw03.GraphApart': WHATEVER THE INPUT: true; the input reads as it did. -/
def graphApartSpec : ChangeSpec := { name := "graphApart", fn := fun _ => fun
  | [d1, d2] => { results := [.lit (.bool true)], args := [d1, d2] }
  | _ => none }
def graphApartRow : OpenClaim := { program := "ytlepmefknglkeaa", sum := "cc19f41ff97c823ee46c2a7b7553eaa40c87adb41495b4fc9f884cd4debbb5fc", func := "abutment/abutmentlaw03.GraphApart", spec := "graphApart", unfollowed := true, recurses := true, apart := false }
def GraphApartSaid : Prop := graphApartRow.holds Try.pinned (OpenSpec.ofChange graphApartSpec)

/-- ITS FALSE NEIGHBOUR: 'it returns false'. Refute it at one input. -/
def graphApartWrong : ChangeSpec := { name := "graphApart", fn := fun _ => fun
  | [d1, d2] => { results := [.lit (.bool false)], args := [d1, d2] }
  | _ => none }
def GraphApartWrongFalsely : Prop := graphApartRow.holds Try.pinned (OpenSpec.ofChange graphApartWrong)

/-- 'abutmentlaw04.FormatEncodes': WHATEVER THE INPUT: true; the input reads as it did. -/
def formatEncodesSpec : ChangeSpec := { name := "formatEncodes", fn := fun _ => fun
  | [d] => { results := [.lit (.bool true)], args := [d] }
  | _ => none }
def formatEncodesRow : OpenClaim := { program := "ytlepmefknglkeaa", sum := "cc19f41ff97c823ee46c2a7b7553eaa40c87adb41495b4fc9f884cd4debbb5fc", func := "abutment/abutmentlaw04.FormatEncodes", spec := "formatEncodes", unfollowed := true, recurses := true, apart := false }
def FormatEncodesSaid : Prop := formatEncodesRow.holds Try.pinned (OpenSpec.ofChange formatEncodesSpec)

/-- ITS FALSE NEIGHBOUR: 'it returns false'. Refute it at one input. -/
def formatEncodesWrong : ChangeSpec := { name := "formatEncodes", fn := fun _ => fun
  | [d] => { results := [.lit (.bool false)], args := [d] }
  | _ => none }
def FormatEncodesWrongFalsely : Prop := formatEncodesRow.holds Try.pinned (OpenSpec.ofChange formatEncodesWrong)

/-- 'abutmentlaw04.FormatOnly': WHATEVER THE INPUT: true; the input reads as it did. -/
def formatOnlySpec : ChangeSpec := { name := "formatOnly", fn := fun _ => fun
  | [d1, d2] => { results := [.lit (.bool true)], args := [d1, d2] }
  | _ => none }
def formatOnlyRow : OpenClaim := { program := "ytlepmefknglkeaa", sum := "cc19f41ff97c823ee46c2a7b7553eaa40c87adb41495b4fc9f884cd4debbb5fc", func := "abutment/abutmentlaw04.FormatOnly", spec := "formatOnly", unfollowed := true, recurses := true, apart := false }
def FormatOnlySaid : Prop := formatOnlyRow.holds Try.pinned (OpenSpec.ofChange formatOnlySpec)

/-- ITS FALSE NEIGHBOUR: 'it returns false'. Refute it at one input. -/
def formatOnlyWrong : ChangeSpec := { name := "formatOnly", fn := fun _ => fun
  | [d1, d2] => { results := [.lit (.bool false)], args := [d1, d2] }
  | _ => none }
def FormatOnlyWrongFalsely : Prop := formatOnlyRow.holds Try.pinned (OpenSpec.ofChange formatOnlyWrong)

/-- 'abutmentlaw03.GraphStays': WHATEVER THE INPUT: true; the input reads as it did. -/
def graphStaysSpec : ChangeSpec := { name := "graphStays", fn := fun _ => fun
  | [d1, d2] => { results := [.lit (.bool true)], args := [d1, d2] }
  | _ => none }
def graphStaysRow : OpenClaim := { program := "ytlepmefknglkeaa", sum := "cc19f41ff97c823ee46c2a7b7553eaa40c87adb41495b4fc9f884cd4debbb5fc", func := "abutment/abutmentlaw03.GraphStays", spec := "graphStays", unfollowed := true, recurses := true, apart := false }
def GraphStaysSaid : Prop := graphStaysRow.holds Try.pinned (OpenSpec.ofChange graphStaysSpec)

/-- ITS FALSE NEIGHBOUR: 'it returns false'. Refute it at one input. -/
def graphStaysWrong : ChangeSpec := { name := "graphStays", fn := fun _ => fun
  | [d1, d2] => { results := [.lit (.bool false)], args := [d1, d2] }
  | _ => none }
def GraphStaysWrongFalsely : Prop := graphStaysRow.holds Try.pinned (OpenSpec.ofChange graphStaysWrong)

/-- 'abutmentlaw04.FormatDecodes': WHATEVER THE INPUT: true; the input reads as it did. -/
def formatDecodesSpec : ChangeSpec := { name := "formatDecodes", fn := fun _ => fun
  | [d] => { results := [.lit (.bool true)], args := [d] }
  | _ => none }
def formatDecodesRow : OpenClaim := { program := "ytlepmefknglkeaa", sum := "cc19f41ff97c823ee46c2a7b7553eaa40c87adb41495b4fc9f884cd4debbb5fc", func := "abutment/abutmentlaw04.FormatDecodes", spec := "formatDecodes", unfollowed := true, recurses := true, apart := false }
def FormatDecodesSaid : Prop := formatDecodesRow.holds Try.pinned (OpenSpec.ofChange formatDecodesSpec)

/-- ITS FALSE NEIGHBOUR: 'it returns false'. Refute it at one input. -/
def formatDecodesWrong : ChangeSpec := { name := "formatDecodes", fn := fun _ => fun
  | [d] => { results := [.lit (.bool false)], args := [d] }
  | _ => none }
def FormatDecodesWrongFalsely : Prop := formatDecodesRow.holds Try.pinned (OpenSpec.ofChange formatDecodesWrong)

/-- 'abutmentlaw04.FormatBack': WHATEVER THE INPUT: true; the input reads as it did. -/
def formatBackSpec : ChangeSpec := { name := "formatBack", fn := fun _ => fun
  | [d1, d2] => { results := [.lit (.bool true)], args := [d1, d2] }
  | _ => none }
def formatBackRow : OpenClaim := { program := "ytlepmefknglkeaa", sum := "cc19f41ff97c823ee46c2a7b7553eaa40c87adb41495b4fc9f884cd4debbb5fc", func := "abutment/abutmentlaw04.FormatBack", spec := "formatBack", unfollowed := true, recurses := true, apart := false }
def FormatBackSaid : Prop := formatBackRow.holds Try.pinned (OpenSpec.ofChange formatBackSpec)

/-- ITS FALSE NEIGHBOUR: 'it returns false'. Refute it at one input. -/
def formatBackWrong : ChangeSpec := { name := "formatBack", fn := fun _ => fun
  | [d1, d2] => { results := [.lit (.bool false)], args := [d1, d2] }
  | _ => none }
def FormatBackWrongFalsely : Prop := formatBackRow.holds Try.pinned (OpenSpec.ofChange formatBackWrong)

/-- 'abutmentlaw04.FormatCuts': WHATEVER THE INPUT: true; the input reads as it did. -/
def formatCutsSpec : ChangeSpec := { name := "formatCuts", fn := fun _ => fun
  | [d1, d2, d3] => { results := [.lit (.bool true)], args := [d1, d2, d3] }
  | _ => none }
def formatCutsRow : OpenClaim := { program := "ytlepmefknglkeaa", sum := "cc19f41ff97c823ee46c2a7b7553eaa40c87adb41495b4fc9f884cd4debbb5fc", func := "abutment/abutmentlaw04.FormatCuts", spec := "formatCuts", unfollowed := true, recurses := true, apart := false }
def FormatCutsSaid : Prop := formatCutsRow.holds Try.pinned (OpenSpec.ofChange formatCutsSpec)

/-- ITS FALSE NEIGHBOUR: 'it returns false'. Refute it at one input. -/
def formatCutsWrong : ChangeSpec := { name := "formatCuts", fn := fun _ => fun
  | [d1, d2, d3] => { results := [.lit (.bool false)], args := [d1, d2, d3] }
  | _ => none }
def FormatCutsWrongFalsely : Prop := formatCutsRow.holds Try.pinned (OpenSpec.ofChange formatCutsWrong)

/-- 'abutmentlaw04.FormatLeast': WHATEVER THE INPUT: true; the input reads as it did. -/
def formatLeastSpec : ChangeSpec := { name := "formatLeast", fn := fun _ => fun
  | [d] => { results := [.lit (.bool true)], args := [d] }
  | _ => none }
def formatLeastRow : OpenClaim := { program := "ytlepmefknglkeaa", sum := "cc19f41ff97c823ee46c2a7b7553eaa40c87adb41495b4fc9f884cd4debbb5fc", func := "abutment/abutmentlaw04.FormatLeast", spec := "formatLeast", unfollowed := true, recurses := true, apart := false }
def FormatLeastSaid : Prop := formatLeastRow.holds Try.pinned (OpenSpec.ofChange formatLeastSpec)

/-- ITS FALSE NEIGHBOUR: 'it returns false'. Refute it at one input. -/
def formatLeastWrong : ChangeSpec := { name := "formatLeast", fn := fun _ => fun
  | [d] => { results := [.lit (.bool false)], args := [d] }
  | _ => none }
def FormatLeastWrongFalsely : Prop := formatLeastRow.holds Try.pinned (OpenSpec.ofChange formatLeastWrong)

/- THE SECOND FORM. 'bulk': how many values and letters a reading holds, each counted each time it is reached (what is shared counts as often as it is met; a slice's spare places count too). A statement '..UptoSaid' is the law's where the arguments, and the package variables that the reading takes, are together of bulk at most 1048576: NARROWER than '..Said'. Prove '..Said' where nothing that the law and all that it calls make is longer than what came in: it says more and counts as full. Else prove '..UptoSaid'. A law counts once. -/
mutual
def uptoBulk {H : Type} : DataW H → Nat
  | .lit (.string bytes) => bytes.length + 1
  | .lit _ => 1
  | .nil => 1
  | .ptr d => uptoBulk d + 1
  | .slice elems spare => uptoBulkAll elems + uptoBulkAll spare + 1
  | .agg parts => uptoBulkAll parts + 1
  | .iface _ d => uptoBulk d + 1
  | .map entries => uptoBulkEntries entries + 1
  | .held _ => 1
def uptoBulkAll {H : Type} : List (DataW H) → Nat
  | [] => 0
  | d :: r => uptoBulk d + uptoBulkAll r
def uptoBulkEntries {H : Type} : List (Lit × DataW H) → Nat
  | [] => 0
  | x :: r => uptoBulkEntry x + uptoBulkEntries r
def uptoBulkEntry {H : Type} : Lit × DataW H → Nat
  | (.string bytes, d) => bytes.length + uptoBulk d + 1
  | (_, d) => uptoBulk d + 1
 end
def uptoSmall : (H : Type) → List (DataW H) → Bool := fun _ ds => decide (uptoBulkAll ds ≤ 1048576)
def OpenSpec.upto (s : _root_.Go.ChangeSpec) : _root_.Go.OpenSpec := { _root_.Go.OpenSpec.ofChange s with cond := some uptoSmall }

/-- 'abutmentlaw03.GraphForms', WHERE WHAT IT READS IS OF BULK AT MOST 1048576: true; the input reads as it did. -/
def graphFormsUptoRow : OpenClaim := { program := "ytlepmefknglkeaa", sum := "cc19f41ff97c823ee46c2a7b7553eaa40c87adb41495b4fc9f884cd4debbb5fc", func := "abutment/abutmentlaw03.GraphForms", spec := "graphForms", unfollowed := true, recurses := true, apart := false, narrowed := true }
def GraphFormsUptoSaid : Prop := graphFormsUptoRow.holds Try.pinned (OpenSpec.upto graphFormsSpec)

/-- 'abutmentlaw03.GraphCounts', WHERE WHAT IT READS IS OF BULK AT MOST 1048576: true; the input reads as it did. -/
def graphCountsUptoRow : OpenClaim := { program := "ytlepmefknglkeaa", sum := "cc19f41ff97c823ee46c2a7b7553eaa40c87adb41495b4fc9f884cd4debbb5fc", func := "abutment/abutmentlaw03.GraphCounts", spec := "graphCounts", unfollowed := true, recurses := true, apart := false, narrowed := true }
def GraphCountsUptoSaid : Prop := graphCountsUptoRow.holds Try.pinned (OpenSpec.upto graphCountsSpec)

/-- 'abutmentlaw03.GraphOrders', WHERE WHAT IT READS IS OF BULK AT MOST 1048576: true; the input reads as it did. -/
def graphOrdersUptoRow : OpenClaim := { program := "ytlepmefknglkeaa", sum := "cc19f41ff97c823ee46c2a7b7553eaa40c87adb41495b4fc9f884cd4debbb5fc", func := "abutment/abutmentlaw03.GraphOrders", spec := "graphOrders", unfollowed := true, recurses := true, apart := false, narrowed := true }
def GraphOrdersUptoSaid : Prop := graphOrdersUptoRow.holds Try.pinned (OpenSpec.upto graphOrdersSpec)

/-- 'abutmentlaw03.GraphApart', WHERE WHAT IT READS IS OF BULK AT MOST 1048576: true; the input reads as it did. -/
def graphApartUptoRow : OpenClaim := { program := "ytlepmefknglkeaa", sum := "cc19f41ff97c823ee46c2a7b7553eaa40c87adb41495b4fc9f884cd4debbb5fc", func := "abutment/abutmentlaw03.GraphApart", spec := "graphApart", unfollowed := true, recurses := true, apart := false, narrowed := true }
def GraphApartUptoSaid : Prop := graphApartUptoRow.holds Try.pinned (OpenSpec.upto graphApartSpec)

/-- 'abutmentlaw04.FormatEncodes', WHERE WHAT IT READS IS OF BULK AT MOST 1048576: true; the input reads as it did. -/
def formatEncodesUptoRow : OpenClaim := { program := "ytlepmefknglkeaa", sum := "cc19f41ff97c823ee46c2a7b7553eaa40c87adb41495b4fc9f884cd4debbb5fc", func := "abutment/abutmentlaw04.FormatEncodes", spec := "formatEncodes", unfollowed := true, recurses := true, apart := false, narrowed := true }
def FormatEncodesUptoSaid : Prop := formatEncodesUptoRow.holds Try.pinned (OpenSpec.upto formatEncodesSpec)

/-- 'abutmentlaw04.FormatOnly', WHERE WHAT IT READS IS OF BULK AT MOST 1048576: true; the input reads as it did. -/
def formatOnlyUptoRow : OpenClaim := { program := "ytlepmefknglkeaa", sum := "cc19f41ff97c823ee46c2a7b7553eaa40c87adb41495b4fc9f884cd4debbb5fc", func := "abutment/abutmentlaw04.FormatOnly", spec := "formatOnly", unfollowed := true, recurses := true, apart := false, narrowed := true }
def FormatOnlyUptoSaid : Prop := formatOnlyUptoRow.holds Try.pinned (OpenSpec.upto formatOnlySpec)

/-- 'abutmentlaw03.GraphStays', WHERE WHAT IT READS IS OF BULK AT MOST 1048576: true; the input reads as it did. -/
def graphStaysUptoRow : OpenClaim := { program := "ytlepmefknglkeaa", sum := "cc19f41ff97c823ee46c2a7b7553eaa40c87adb41495b4fc9f884cd4debbb5fc", func := "abutment/abutmentlaw03.GraphStays", spec := "graphStays", unfollowed := true, recurses := true, apart := false, narrowed := true }
def GraphStaysUptoSaid : Prop := graphStaysUptoRow.holds Try.pinned (OpenSpec.upto graphStaysSpec)

/-- 'abutmentlaw04.FormatDecodes', WHERE WHAT IT READS IS OF BULK AT MOST 1048576: true; the input reads as it did. -/
def formatDecodesUptoRow : OpenClaim := { program := "ytlepmefknglkeaa", sum := "cc19f41ff97c823ee46c2a7b7553eaa40c87adb41495b4fc9f884cd4debbb5fc", func := "abutment/abutmentlaw04.FormatDecodes", spec := "formatDecodes", unfollowed := true, recurses := true, apart := false, narrowed := true }
def FormatDecodesUptoSaid : Prop := formatDecodesUptoRow.holds Try.pinned (OpenSpec.upto formatDecodesSpec)

/-- 'abutmentlaw04.FormatBack', WHERE WHAT IT READS IS OF BULK AT MOST 1048576: true; the input reads as it did. -/
def formatBackUptoRow : OpenClaim := { program := "ytlepmefknglkeaa", sum := "cc19f41ff97c823ee46c2a7b7553eaa40c87adb41495b4fc9f884cd4debbb5fc", func := "abutment/abutmentlaw04.FormatBack", spec := "formatBack", unfollowed := true, recurses := true, apart := false, narrowed := true }
def FormatBackUptoSaid : Prop := formatBackUptoRow.holds Try.pinned (OpenSpec.upto formatBackSpec)

/-- 'abutmentlaw04.FormatCuts', WHERE WHAT IT READS IS OF BULK AT MOST 1048576: true; the input reads as it did. -/
def formatCutsUptoRow : OpenClaim := { program := "ytlepmefknglkeaa", sum := "cc19f41ff97c823ee46c2a7b7553eaa40c87adb41495b4fc9f884cd4debbb5fc", func := "abutment/abutmentlaw04.FormatCuts", spec := "formatCuts", unfollowed := true, recurses := true, apart := false, narrowed := true }
def FormatCutsUptoSaid : Prop := formatCutsUptoRow.holds Try.pinned (OpenSpec.upto formatCutsSpec)

/-- 'abutmentlaw04.FormatLeast', WHERE WHAT IT READS IS OF BULK AT MOST 1048576: true; the input reads as it did. -/
def formatLeastUptoRow : OpenClaim := { program := "ytlepmefknglkeaa", sum := "cc19f41ff97c823ee46c2a7b7553eaa40c87adb41495b4fc9f884cd4debbb5fc", func := "abutment/abutmentlaw04.FormatLeast", spec := "formatLeast", unfollowed := true, recurses := true, apart := false, narrowed := true }
def FormatLeastUptoSaid : Prop := formatLeastUptoRow.holds Try.pinned (OpenSpec.upto formatLeastSpec)

end Rows
end Go.Proofs.Ytlepmefknglkeaa
