/-
  DERIVED. GIVEN WITH THE SEED: THE CARDS: each row of YtmmkncocgjgapaaDoorRows.lean that lists a variable, with what it lists TIED to the program's text (the seventh form; the later family's looks); each row that meets fmt, with fmt's text TOLD by the authors' own Lean function (tested against real Go, not proved from fmt's source: count such statements apart). THE CARD IS WHAT COUNTS. Prove the row's statement (the work); the ties are given (YtmmkncocgjgapaaDoorTie.lean); close each card by the builder's one call (the guide's Derived/Test/ToyasCard.lean, 'card_holds'). Laid BY PROGRAM, IN A SANDBOX (cutbox-door.mjs). By AI agents, Wed Nov 11 2026. No macro, syntax, notation, axiom, sorry.
-/
import Derived.Test.YtmmkncocgjgapaaDoorRows
import GoSem.ClaimSeven
namespace Go.Proofs.YtmmkncocgjgapaaDoor
namespace Rows

/-- THE TIED CARD OF 'abutmentlaw09.ManifestForms'. -/
def manifestFormsCard : Claim7 := { stood := { row := manifestFormsRow, standIns := [], harness := (true, "aa8f8fe5b291d7a16f5b29f70008eac8bbeeef6d79a1a6408e1a6f5faee67ee8"), looks := true }, kinds := [], alts := [], laidByText := true, laidKinds := [.data, .pinned], laidTests := true, laidLooks := .later }
def ManifestFormsCardSaid : Prop := Claim7.holds Tryd.pinned (.plain (OpenSpec.ofChange manifestFormsSpec)) manifestFormsCard

/-- THE TIED CARD OF 'abutmentlaw09.ManifestBack'. -/
def manifestBackCard : Claim7 := { stood := { row := manifestBackRow, standIns := [], harness := (true, "aa8f8fe5b291d7a16f5b29f70008eac8bbeeef6d79a1a6408e1a6f5faee67ee8"), looks := true }, kinds := [], alts := [], laidByText := true, laidKinds := [.data, .pinned], laidTests := true, laidLooks := .later }
def ManifestBackCardSaid : Prop := Claim7.holds Tryd.pinned (.plain (OpenSpec.ofChange manifestBackSpec)) manifestBackCard

/-- THE TIED CARD OF 'abutmentlaw09.ManifestSlots'. -/
def manifestSlotsCard : Claim7 := { stood := { row := manifestSlotsRow, standIns := [], harness := (true, "aa8f8fe5b291d7a16f5b29f70008eac8bbeeef6d79a1a6408e1a6f5faee67ee8"), looks := true }, kinds := [], alts := [], laidByText := true, laidKinds := [.data, .pinned], laidTests := true, laidLooks := .later }
def ManifestSlotsCardSaid : Prop := Claim7.holds Tryd.pinned (.plain (OpenSpec.ofChange manifestSlotsSpec)) manifestSlotsCard

/-- THE TIED CARD OF 'abutmentlaw09.ManifestCuts'. -/
def manifestCutsCard : Claim7 := { stood := { row := manifestCutsRow, standIns := [], harness := (true, "aa8f8fe5b291d7a16f5b29f70008eac8bbeeef6d79a1a6408e1a6f5faee67ee8"), looks := true }, kinds := [], alts := [], laidByText := true, laidKinds := [.data, .pinned], laidTests := true, laidLooks := .later }
def ManifestCutsCardSaid : Prop := Claim7.holds Tryd.pinned (.plain (OpenSpec.ofChange manifestCutsSpec)) manifestCutsCard

/-- THE SECOND FORM's CARD OF 'abutmentlaw09.ManifestForms'. -/
def manifestFormsUptoCard : Claim7 := { stood := { row := manifestFormsUptoRow, standIns := [], harness := (true, "aa8f8fe5b291d7a16f5b29f70008eac8bbeeef6d79a1a6408e1a6f5faee67ee8"), looks := true }, kinds := [], alts := [], laidByText := true, laidKinds := [.data, .pinned], laidTests := true, laidLooks := .later }
def ManifestFormsUptoCardSaid : Prop := Claim7.holds Tryd.pinned (.plain (OpenSpec.upto manifestFormsSpec)) manifestFormsUptoCard

/-- THE SECOND FORM's CARD OF 'abutmentlaw09.ManifestBack'. -/
def manifestBackUptoCard : Claim7 := { stood := { row := manifestBackUptoRow, standIns := [], harness := (true, "aa8f8fe5b291d7a16f5b29f70008eac8bbeeef6d79a1a6408e1a6f5faee67ee8"), looks := true }, kinds := [], alts := [], laidByText := true, laidKinds := [.data, .pinned], laidTests := true, laidLooks := .later }
def ManifestBackUptoCardSaid : Prop := Claim7.holds Tryd.pinned (.plain (OpenSpec.upto manifestBackSpec)) manifestBackUptoCard

/-- THE SECOND FORM's CARD OF 'abutmentlaw09.ManifestSlots'. -/
def manifestSlotsUptoCard : Claim7 := { stood := { row := manifestSlotsUptoRow, standIns := [], harness := (true, "aa8f8fe5b291d7a16f5b29f70008eac8bbeeef6d79a1a6408e1a6f5faee67ee8"), looks := true }, kinds := [], alts := [], laidByText := true, laidKinds := [.data, .pinned], laidTests := true, laidLooks := .later }
def ManifestSlotsUptoCardSaid : Prop := Claim7.holds Tryd.pinned (.plain (OpenSpec.upto manifestSlotsSpec)) manifestSlotsUptoCard

/-- THE SECOND FORM's CARD OF 'abutmentlaw09.ManifestCuts'. -/
def manifestCutsUptoCard : Claim7 := { stood := { row := manifestCutsUptoRow, standIns := [], harness := (true, "aa8f8fe5b291d7a16f5b29f70008eac8bbeeef6d79a1a6408e1a6f5faee67ee8"), looks := true }, kinds := [], alts := [], laidByText := true, laidKinds := [.data, .pinned], laidTests := true, laidLooks := .later }
def ManifestCutsUptoCardSaid : Prop := Claim7.holds Tryd.pinned (.plain (OpenSpec.upto manifestCutsSpec)) manifestCutsUptoCard
end Rows
end Go.Proofs.YtmmkncocgjgapaaDoor
