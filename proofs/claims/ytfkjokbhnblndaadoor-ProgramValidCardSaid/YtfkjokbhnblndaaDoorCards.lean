/-
  DERIVED. GIVEN WITH THE SEED: THE CARDS: each row of YtfkjokbhnblndaaDoorRows.lean that lists a variable, with what it lists TIED to the program's text (the seventh form; the later family's looks); each row that meets fmt, with fmt's text TOLD by the authors' own Lean function (tested against real Go, not proved from fmt's source: count such statements apart). THE CARD IS WHAT COUNTS. Prove the row's statement (the work); the ties are given (YtfkjokbhnblndaaDoorTie.lean); close each card by the builder's one call (the guide's Derived/Test/ToyasCard.lean, 'card_holds'). Laid BY PROGRAM, IN A SANDBOX (cutbox-door.mjs). By AI agents, Wed Nov 11 2026. No macro, syntax, notation, axiom, sorry.
-/
import Derived.Test.YtfkjokbhnblndaaDoorRows
import GoSem.ClaimSeven
namespace Go.Proofs.YtfkjokbhnblndaaDoor
namespace Rows

/-- THE TIED CARD OF 'nurserylaw13.ProgramCheck'. -/
def programCheckCard : Claim7 := { stood := { row := programCheckRow, standIns := [], harness := (true, "3c397983d471bcc260c9dcc5c04547f642d97c822147d04b7a0a7b5b2c048415"), looks := true }, kinds := [], alts := [], laidByText := true, laidKinds := [.data, .data, .data], laidTests := true, laidLooks := .later }
def ProgramCheckCardSaid : Prop := Claim7.holds Tryd.pinned (.plain (OpenSpec.ofChange programCheckSpec)) programCheckCard

/-- THE TIED CARD OF 'nurserylaw13.ProgramGrows'. -/
def programGrowsCard : Claim7 := { stood := { row := programGrowsRow, standIns := [], harness := (true, "3c397983d471bcc260c9dcc5c04547f642d97c822147d04b7a0a7b5b2c048415"), looks := true }, kinds := [], alts := [], laidByText := true, laidKinds := [.data, .data, .data], laidTests := true, laidLooks := .later }
def ProgramGrowsCardSaid : Prop := Claim7.holds Tryd.pinned (.plain (OpenSpec.ofChange programGrowsSpec)) programGrowsCard

/-- THE TIED CARD OF 'nurserylaw13.ProgramListing'. -/
def programListingCard : Claim7 := { stood := { row := programListingRow, standIns := [], harness := (true, "3c397983d471bcc260c9dcc5c04547f642d97c822147d04b7a0a7b5b2c048415"), looks := true }, kinds := [], alts := [], laidByText := true, laidKinds := [.data, .data, .data], laidTests := true, laidLooks := .later }
def ProgramListingCardSaid : Prop := Claim7.holds Tryd.pinned (.plain (OpenSpec.ofChange programListingSpec)) programListingCard

/-- THE TIED CARD OF 'nurserylaw13.ProgramValid'. -/
def programValidCard : Claim7 := { stood := { row := programValidRow, standIns := [], harness := (true, "3c397983d471bcc260c9dcc5c04547f642d97c822147d04b7a0a7b5b2c048415"), looks := true }, kinds := [], alts := [], laidByText := true, laidKinds := [.data, .data, .data], laidTests := true, laidLooks := .later }
def ProgramValidCardSaid : Prop := Claim7.holds Tryd.pinned (.plain (OpenSpec.ofChange programValidSpec)) programValidCard

/-- THE SECOND FORM's CARD OF 'nurserylaw13.ProgramCheck'. -/
def programCheckUptoCard : Claim7 := { stood := { row := programCheckUptoRow, standIns := [], harness := (true, "3c397983d471bcc260c9dcc5c04547f642d97c822147d04b7a0a7b5b2c048415"), looks := true }, kinds := [], alts := [], laidByText := true, laidKinds := [.data, .data, .data], laidTests := true, laidLooks := .later }
def ProgramCheckUptoCardSaid : Prop := Claim7.holds Tryd.pinned (.plain (OpenSpec.upto programCheckSpec)) programCheckUptoCard

/-- THE SECOND FORM's CARD OF 'nurserylaw13.ProgramGrows'. -/
def programGrowsUptoCard : Claim7 := { stood := { row := programGrowsUptoRow, standIns := [], harness := (true, "3c397983d471bcc260c9dcc5c04547f642d97c822147d04b7a0a7b5b2c048415"), looks := true }, kinds := [], alts := [], laidByText := true, laidKinds := [.data, .data, .data], laidTests := true, laidLooks := .later }
def ProgramGrowsUptoCardSaid : Prop := Claim7.holds Tryd.pinned (.plain (OpenSpec.upto programGrowsSpec)) programGrowsUptoCard

/-- THE SECOND FORM's CARD OF 'nurserylaw13.ProgramListing'. -/
def programListingUptoCard : Claim7 := { stood := { row := programListingUptoRow, standIns := [], harness := (true, "3c397983d471bcc260c9dcc5c04547f642d97c822147d04b7a0a7b5b2c048415"), looks := true }, kinds := [], alts := [], laidByText := true, laidKinds := [.data, .data, .data], laidTests := true, laidLooks := .later }
def ProgramListingUptoCardSaid : Prop := Claim7.holds Tryd.pinned (.plain (OpenSpec.upto programListingSpec)) programListingUptoCard

/-- THE SECOND FORM's CARD OF 'nurserylaw13.ProgramValid'. -/
def programValidUptoCard : Claim7 := { stood := { row := programValidUptoRow, standIns := [], harness := (true, "3c397983d471bcc260c9dcc5c04547f642d97c822147d04b7a0a7b5b2c048415"), looks := true }, kinds := [], alts := [], laidByText := true, laidKinds := [.data, .data, .data], laidTests := true, laidLooks := .later }
def ProgramValidUptoCardSaid : Prop := Claim7.holds Tryd.pinned (.plain (OpenSpec.upto programValidSpec)) programValidUptoCard
end Rows
end Go.Proofs.YtfkjokbhnblndaaDoor
