/-
  DERIVED. GIVEN WITH THE SEED: THE CARDS: each row of YthkmocfdpmlllaaDoorRows.lean that lists a variable, with what it lists TIED to the program's text (the seventh form; the later family's looks); each row that meets fmt, with fmt's text TOLD by the authors' own Lean function (tested against real Go, not proved from fmt's source: count such statements apart). THE CARD IS WHAT COUNTS. Prove the row's statement (the work); the ties are given (YthkmocfdpmlllaaDoorTie.lean); close each card by the builder's one call (the guide's Derived/Test/ToyasCard.lean, 'card_holds'). Laid BY PROGRAM, IN A SANDBOX (cutbox-door.mjs). By AI agents, Wed Nov 11 2026. No macro, syntax, notation, axiom, sorry.
-/
import Derived.Test.YthkmocfdpmlllaaDoorRows
import GoSem.ClaimSeven
namespace Go.Proofs.YthkmocfdpmlllaaDoor
namespace Rows

/-- THE TIED CARD OF 'tattlerlaw4.VectorJoins'. -/
def vectorJoinsCard : Claim7 := { stood := { row := vectorJoinsRow, standIns := [], harness := (true, "41a7076b6526856d27ae0d4ff096ed90049e881b58c894a3c5f42c8040d3fb54"), looks := false }, kinds := [], alts := [], laidByText := true, laidKinds := [.data, .data, .data], laidTests := true, laidLooks := .later }
def VectorJoinsCardSaid : Prop := Claim7.holds Tryd.pinned (.plain (OpenSpec.ofChange vectorJoinsSpec)) vectorJoinsCard

/-- THE TIED CARD OF 'tattlerlaw4.VectorApart'. -/
def vectorApartCard : Claim7 := { stood := { row := vectorApartRow, standIns := [], harness := (true, "41a7076b6526856d27ae0d4ff096ed90049e881b58c894a3c5f42c8040d3fb54"), looks := false }, kinds := [], alts := [], laidByText := true, laidKinds := [.data, .data, .data], laidTests := true, laidLooks := .later }
def VectorApartCardSaid : Prop := Claim7.holds Tryd.pinned (.plain (OpenSpec.ofChange vectorApartSpec)) vectorApartCard

/-- THE TIED CARD OF 'tattlerlaw4.VectorCovers'. -/
def vectorCoversCard : Claim7 := { stood := { row := vectorCoversRow, standIns := [], harness := (true, "41a7076b6526856d27ae0d4ff096ed90049e881b58c894a3c5f42c8040d3fb54"), looks := false }, kinds := [], alts := [], laidByText := true, laidKinds := [.data, .data, .data], laidTests := true, laidLooks := .later }
def VectorCoversCardSaid : Prop := Claim7.holds Tryd.pinned (.plain (OpenSpec.ofChange vectorCoversSpec)) vectorCoversCard

/-- THE TIED CARD OF 'tattlerlaw4.VectorNexts'. -/
def vectorNextsCard : Claim7 := { stood := { row := vectorNextsRow, standIns := [], harness := (true, "41a7076b6526856d27ae0d4ff096ed90049e881b58c894a3c5f42c8040d3fb54"), looks := false }, kinds := [], alts := [], laidByText := true, laidKinds := [.data, .data, .data], laidTests := true, laidLooks := .later }
def VectorNextsCardSaid : Prop := Claim7.holds Tryd.pinned (.plain (OpenSpec.ofChange vectorNextsSpec)) vectorNextsCard

/-- THE TIED CARD OF 'tattlerlaw4.VectorOrder'. -/
def vectorOrderCard : Claim7 := { stood := { row := vectorOrderRow, standIns := [], harness := (true, "41a7076b6526856d27ae0d4ff096ed90049e881b58c894a3c5f42c8040d3fb54"), looks := false }, kinds := [], alts := [], laidByText := true, laidKinds := [.data, .data, .data], laidTests := true, laidLooks := .later }
def VectorOrderCardSaid : Prop := Claim7.holds Tryd.pinned (.plain (OpenSpec.ofChange vectorOrderSpec)) vectorOrderCard

/-- THE TIED CARD OF 'tattlerlaw4.VectorReckons'. -/
def vectorReckonsCard : Claim7 := { stood := { row := vectorReckonsRow, standIns := [], harness := (true, "41a7076b6526856d27ae0d4ff096ed90049e881b58c894a3c5f42c8040d3fb54"), looks := false }, kinds := [], alts := [], laidByText := true, laidKinds := [.data, .data, .data], laidTests := true, laidLooks := .later }
def VectorReckonsCardSaid : Prop := Claim7.holds Tryd.pinned (.plain (OpenSpec.ofChange vectorReckonsSpec)) vectorReckonsCard

/-- THE SECOND FORM's CARD OF 'tattlerlaw4.VectorJoins'. -/
def vectorJoinsUptoCard : Claim7 := { stood := { row := vectorJoinsUptoRow, standIns := [], harness := (true, "41a7076b6526856d27ae0d4ff096ed90049e881b58c894a3c5f42c8040d3fb54"), looks := false }, kinds := [], alts := [], laidByText := true, laidKinds := [.data, .data, .data], laidTests := true, laidLooks := .later }
def VectorJoinsUptoCardSaid : Prop := Claim7.holds Tryd.pinned (.plain (OpenSpec.upto vectorJoinsSpec)) vectorJoinsUptoCard

/-- THE SECOND FORM's CARD OF 'tattlerlaw4.VectorApart'. -/
def vectorApartUptoCard : Claim7 := { stood := { row := vectorApartUptoRow, standIns := [], harness := (true, "41a7076b6526856d27ae0d4ff096ed90049e881b58c894a3c5f42c8040d3fb54"), looks := false }, kinds := [], alts := [], laidByText := true, laidKinds := [.data, .data, .data], laidTests := true, laidLooks := .later }
def VectorApartUptoCardSaid : Prop := Claim7.holds Tryd.pinned (.plain (OpenSpec.upto vectorApartSpec)) vectorApartUptoCard

/-- THE SECOND FORM's CARD OF 'tattlerlaw4.VectorCovers'. -/
def vectorCoversUptoCard : Claim7 := { stood := { row := vectorCoversUptoRow, standIns := [], harness := (true, "41a7076b6526856d27ae0d4ff096ed90049e881b58c894a3c5f42c8040d3fb54"), looks := false }, kinds := [], alts := [], laidByText := true, laidKinds := [.data, .data, .data], laidTests := true, laidLooks := .later }
def VectorCoversUptoCardSaid : Prop := Claim7.holds Tryd.pinned (.plain (OpenSpec.upto vectorCoversSpec)) vectorCoversUptoCard

/-- THE SECOND FORM's CARD OF 'tattlerlaw4.VectorNexts'. -/
def vectorNextsUptoCard : Claim7 := { stood := { row := vectorNextsUptoRow, standIns := [], harness := (true, "41a7076b6526856d27ae0d4ff096ed90049e881b58c894a3c5f42c8040d3fb54"), looks := false }, kinds := [], alts := [], laidByText := true, laidKinds := [.data, .data, .data], laidTests := true, laidLooks := .later }
def VectorNextsUptoCardSaid : Prop := Claim7.holds Tryd.pinned (.plain (OpenSpec.upto vectorNextsSpec)) vectorNextsUptoCard

/-- THE SECOND FORM's CARD OF 'tattlerlaw4.VectorOrder'. -/
def vectorOrderUptoCard : Claim7 := { stood := { row := vectorOrderUptoRow, standIns := [], harness := (true, "41a7076b6526856d27ae0d4ff096ed90049e881b58c894a3c5f42c8040d3fb54"), looks := false }, kinds := [], alts := [], laidByText := true, laidKinds := [.data, .data, .data], laidTests := true, laidLooks := .later }
def VectorOrderUptoCardSaid : Prop := Claim7.holds Tryd.pinned (.plain (OpenSpec.upto vectorOrderSpec)) vectorOrderUptoCard

/-- THE SECOND FORM's CARD OF 'tattlerlaw4.VectorReckons'. -/
def vectorReckonsUptoCard : Claim7 := { stood := { row := vectorReckonsUptoRow, standIns := [], harness := (true, "41a7076b6526856d27ae0d4ff096ed90049e881b58c894a3c5f42c8040d3fb54"), looks := false }, kinds := [], alts := [], laidByText := true, laidKinds := [.data, .data, .data], laidTests := true, laidLooks := .later }
def VectorReckonsUptoCardSaid : Prop := Claim7.holds Tryd.pinned (.plain (OpenSpec.upto vectorReckonsSpec)) vectorReckonsUptoCard
end Rows
end Go.Proofs.YthkmocfdpmlllaaDoor
