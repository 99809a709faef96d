/-
  DERIVED. GIVEN WITH THE SEED: THE CARDS: each row of YthkmocfdpmlllabDoorRows.lean that lists a variable, with what it lists TIED to the program's text (the seventh form; the later family's looks); each row that meets fmt, with fmt's text TOLD by the authors' own Lean function (tested against real Go, not proved from fmt's source: count such statements apart). THE CARD IS WHAT COUNTS. Prove the row's statement (the work); the ties are given (YthkmocfdpmlllabDoorTie.lean); close each card by the builder's one call (the guide's Derived/Test/ToyasCard.lean, 'card_holds'). Laid BY PROGRAM, IN A SANDBOX (cutbox-door.mjs). By AI agents, Wed Nov 11 2026. No macro, syntax, notation, axiom, sorry.
-/
import Derived.Test.YthkmocfdpmlllabDoorRows
import GoSem.ClaimSeven
namespace Go.Proofs.YthkmocfdpmlllabDoor
namespace Rows

/-- THE TIED CARD OF 'tattlerlaw4.VectorBytes'. -/
def vectorBytesCard : Claim7 := { stood := { row := vectorBytesRow, standIns := [], harness := (true, "731c0eef8b37811a465ef009e69d56defe8e4e44ae05497448515edc070e9d25"), looks := true }, kinds := [], alts := [], laidByText := true, laidKinds := [.data, .data, .data], laidTests := true, laidLooks := .later }
def VectorBytesCardSaid : Prop := Claim7.holds Tryd.pinned (.plain (OpenSpec.ofChange vectorBytesSpec)) vectorBytesCard

/-- THE TIED CARD OF 'tattlerlaw4.VectorTexts'. -/
def vectorTextsCard : Claim7 := { stood := { row := vectorTextsRow, standIns := [], harness := (true, "731c0eef8b37811a465ef009e69d56defe8e4e44ae05497448515edc070e9d25"), looks := true }, kinds := [], alts := [], laidByText := true, laidKinds := [.data, .data, .data, .data, .sentinel, .sentinel, .pinned], laidTests := true, laidLooks := .later }
def VectorTextsCardSaid : Prop := Claim7.holds Tryd.pinned (.plain (OpenSpec.ofChange vectorTextsSpec)) vectorTextsCard

/-- THE TIED CARD OF 'tattlerlaw4.VectorBack'. -/
def vectorBackCard : Claim7 := { stood := { row := vectorBackRow, standIns := [], harness := (true, "731c0eef8b37811a465ef009e69d56defe8e4e44ae05497448515edc070e9d25"), looks := true }, kinds := [], alts := [], laidByText := true, laidKinds := [.data, .data, .data, .data, .sentinel, .sentinel, .pinned], laidTests := true, laidLooks := .later }
def VectorBackCardSaid : Prop := Claim7.holds Tryd.pinned (.plain (OpenSpec.ofChange vectorBackSpec)) vectorBackCard

/-- THE SECOND FORM's CARD OF 'tattlerlaw4.VectorBytes'. -/
def vectorBytesUptoCard : Claim7 := { stood := { row := vectorBytesUptoRow, standIns := [], harness := (true, "731c0eef8b37811a465ef009e69d56defe8e4e44ae05497448515edc070e9d25"), looks := true }, kinds := [], alts := [], laidByText := true, laidKinds := [.data, .data, .data], laidTests := true, laidLooks := .later }
def VectorBytesUptoCardSaid : Prop := Claim7.holds Tryd.pinned (.plain (OpenSpec.upto vectorBytesSpec)) vectorBytesUptoCard

/-- THE SECOND FORM's CARD OF 'tattlerlaw4.VectorTexts'. -/
def vectorTextsUptoCard : Claim7 := { stood := { row := vectorTextsUptoRow, standIns := [], harness := (true, "731c0eef8b37811a465ef009e69d56defe8e4e44ae05497448515edc070e9d25"), looks := true }, kinds := [], alts := [], laidByText := true, laidKinds := [.data, .data, .data, .data, .sentinel, .sentinel, .pinned], laidTests := true, laidLooks := .later }
def VectorTextsUptoCardSaid : Prop := Claim7.holds Tryd.pinned (.plain (OpenSpec.upto vectorTextsSpec)) vectorTextsUptoCard

/-- THE SECOND FORM's CARD OF 'tattlerlaw4.VectorBack'. -/
def vectorBackUptoCard : Claim7 := { stood := { row := vectorBackUptoRow, standIns := [], harness := (true, "731c0eef8b37811a465ef009e69d56defe8e4e44ae05497448515edc070e9d25"), looks := true }, kinds := [], alts := [], laidByText := true, laidKinds := [.data, .data, .data, .data, .sentinel, .sentinel, .pinned], laidTests := true, laidLooks := .later }
def VectorBackUptoCardSaid : Prop := Claim7.holds Tryd.pinned (.plain (OpenSpec.upto vectorBackSpec)) vectorBackUptoCard
end Rows
end Go.Proofs.YthkmocfdpmlllabDoor
