/-
  DERIVED. GIVEN WITH THE SEED: THE CARDS: each row of YtebbdifhiihfkaaGreatDoorRows.lean that lists a variable, with what it lists TIED to the program's text (the seventh form; the later family's looks); each row that meets fmt, with fmt's text TOLD by the authors' own Lean function (tested against real Go, not proved from fmt's source: count such statements apart). THE CARD IS WHAT COUNTS. Prove the row's statement (the work); the ties are given (YtebbdifhiihfkaaGreatDoorTie.lean); close each card by the builder's one call (the guide's Derived/Test/ToyasCard.lean, 'card_holds'). Laid BY PROGRAM, IN A SANDBOX (cutbox-door.mjs). By AI agents, Wed Nov 11 2026. No macro, syntax, notation, axiom, sorry.
-/
import Derived.Test.YtebbdifhiihfkaaGreatDoorRows
import GoSem.ClaimSeven
namespace Go.Proofs.YtebbdifhiihfkaaGreatDoor
namespace Rows

/-- THE TIED CARD OF 'aqulaw13.PngReads'. -/
def pngReadsCard : Claim7 := { stood := { row := pngReadsRow, standIns := [], harness := (true, "14fa010a5b9b5df0bf82c23dc4a93122f40ec1867a009b432f0b738ea14cb647"), looks := false }, kinds := [], alts := [], laidByText := true, laidKinds := [.sentinel], laidTests := true, laidLooks := .later }
def PngReadsCardSaid : Prop := Claim7.holds Tryz.pinned (.plain (OpenSpec.ofChange pngReadsSpec)) pngReadsCard

/-- THE TIED CARD OF 'aqulaw13.PngChunks'. -/
def pngChunksCard : Claim7 := { stood := { row := pngChunksRow, standIns := [], harness := (true, "14fa010a5b9b5df0bf82c23dc4a93122f40ec1867a009b432f0b738ea14cb647"), looks := false }, kinds := [], alts := [], laidByText := true, laidKinds := [.sentinel], laidTests := true, laidLooks := .later }
def PngChunksCardSaid : Prop := Claim7.holds Tryz.pinned (.plain (OpenSpec.ofChange pngChunksSpec)) pngChunksCard

/-- THE TIED CARD OF 'aqulaw13.PngSplits'. -/
def pngSplitsCard : Claim7 := { stood := { row := pngSplitsRow, standIns := [], harness := (true, "14fa010a5b9b5df0bf82c23dc4a93122f40ec1867a009b432f0b738ea14cb647"), looks := false }, kinds := [], alts := [], laidByText := true, laidKinds := [.sentinel], laidTests := true, laidLooks := .later }
def PngSplitsCardSaid : Prop := Claim7.holds Tryz.pinned (.plain (OpenSpec.ofChange pngSplitsSpec)) pngSplitsCard

/-- THE TIED CARD OF 'aqulaw13.PngHeads'. -/
def pngHeadsCard : Claim7 := { stood := { row := pngHeadsRow, standIns := [], harness := (true, "14fa010a5b9b5df0bf82c23dc4a93122f40ec1867a009b432f0b738ea14cb647"), looks := false }, kinds := [], alts := [], laidByText := true, laidKinds := [.sentinel], laidTests := true, laidLooks := .later }
def PngHeadsCardSaid : Prop := Claim7.holds Tryz.pinned (.plain (OpenSpec.ofChange pngHeadsSpec)) pngHeadsCard

/-- THE SECOND FORM's CARD OF 'aqulaw13.PngReads'. -/
def pngReadsUptoCard : Claim7 := { stood := { row := pngReadsUptoRow, standIns := [], harness := (true, "14fa010a5b9b5df0bf82c23dc4a93122f40ec1867a009b432f0b738ea14cb647"), looks := false }, kinds := [], alts := [], laidByText := true, laidKinds := [.sentinel], laidTests := true, laidLooks := .later }
def PngReadsUptoCardSaid : Prop := Claim7.holds Tryz.pinned (.plain (OpenSpec.upto pngReadsSpec)) pngReadsUptoCard

/-- THE SECOND FORM's CARD OF 'aqulaw13.PngChunks'. -/
def pngChunksUptoCard : Claim7 := { stood := { row := pngChunksUptoRow, standIns := [], harness := (true, "14fa010a5b9b5df0bf82c23dc4a93122f40ec1867a009b432f0b738ea14cb647"), looks := false }, kinds := [], alts := [], laidByText := true, laidKinds := [.sentinel], laidTests := true, laidLooks := .later }
def PngChunksUptoCardSaid : Prop := Claim7.holds Tryz.pinned (.plain (OpenSpec.upto pngChunksSpec)) pngChunksUptoCard

/-- THE SECOND FORM's CARD OF 'aqulaw13.PngSplits'. -/
def pngSplitsUptoCard : Claim7 := { stood := { row := pngSplitsUptoRow, standIns := [], harness := (true, "14fa010a5b9b5df0bf82c23dc4a93122f40ec1867a009b432f0b738ea14cb647"), looks := false }, kinds := [], alts := [], laidByText := true, laidKinds := [.sentinel], laidTests := true, laidLooks := .later }
def PngSplitsUptoCardSaid : Prop := Claim7.holds Tryz.pinned (.plain (OpenSpec.upto pngSplitsSpec)) pngSplitsUptoCard

/-- THE SECOND FORM's CARD OF 'aqulaw13.PngHeads'. -/
def pngHeadsUptoCard : Claim7 := { stood := { row := pngHeadsUptoRow, standIns := [], harness := (true, "14fa010a5b9b5df0bf82c23dc4a93122f40ec1867a009b432f0b738ea14cb647"), looks := false }, kinds := [], alts := [], laidByText := true, laidKinds := [.sentinel], laidTests := true, laidLooks := .later }
def PngHeadsUptoCardSaid : Prop := Claim7.holds Tryz.pinned (.plain (OpenSpec.upto pngHeadsSpec)) pngHeadsUptoCard
end Rows
end Go.Proofs.YtebbdifhiihfkaaGreatDoor
