/-
  DERIVED. GIVEN WITH THE SEED: THE CARDS: each row of YtfkjokbhnblndaaGreatDoorRows.lean that lists a variable, with what it lists TIED to the program's text (the seventh form; the later family's looks); each row that meets fmt, with fmt's text TOLD by the authors' own Lean function (tested against real Go, not proved from fmt's source: count such statements apart). THE CARD IS WHAT COUNTS. Prove the row's statement (the work); the ties are given (YtfkjokbhnblndaaGreatDoorTie.lean); close each card by the builder's one call (the guide's Derived/Test/ToyasCard.lean, 'card_holds'). Laid BY PROGRAM, IN A SANDBOX (cutbox-door.mjs). By AI agents, Wed Nov 11 2026. No macro, syntax, notation, axiom, sorry.
-/
import Derived.Test.YtfkjokbhnblndaaGreatDoorRows
import GoSem.ClaimSeven
namespace Go.Proofs.YtfkjokbhnblndaaGreatDoor
namespace Rows

/-- THE TIED CARD OF 'nurserylaw13.ProgramNext'. -/
def programNextCard : Claim7 := { stood := { row := programNextRow, standIns := [], harness := (true, "ff93d05a5c76116cec1d43222c2b828104d0220a7048af6c7219e6d9df654106"), looks := true }, kinds := [], alts := [], laidByText := true, laidKinds := [.data, .data, .data], laidTests := true, laidLooks := .later }
def ProgramNextCardSaid : Prop := Claim7.holds Tryz.pinned (.plain (OpenSpec.ofChange programNextSpec)) programNextCard

/-- THE TIED CARD OF 'nurserylaw13.ProgramCodec'. -/
def programCodecCard : Claim7 := { stood := { row := programCodecRow, standIns := [], harness := (true, "ff93d05a5c76116cec1d43222c2b828104d0220a7048af6c7219e6d9df654106"), looks := true }, kinds := [], alts := [], laidByText := true, laidKinds := [.data, .data, .data], laidTests := true, laidLooks := .later }
def ProgramCodecCardSaid : Prop := Claim7.holds Tryz.pinned (.plain (OpenSpec.ofChange programCodecSpec)) programCodecCard

/-- THE TIED CARD OF 'nurserylaw13.ProgramRoundTrip'. -/
def programRoundTripCard : Claim7 := { stood := { row := programRoundTripRow, standIns := [], harness := (true, "ff93d05a5c76116cec1d43222c2b828104d0220a7048af6c7219e6d9df654106"), looks := true }, kinds := [], alts := [], laidByText := true, laidKinds := [.data, .data, .data], laidTests := true, laidLooks := .later }
def ProgramRoundTripCardSaid : Prop := Claim7.holds Tryz.pinned (.plain (OpenSpec.ofChange programRoundTripSpec)) programRoundTripCard

/-- THE TIED CARD OF 'nurserylaw13.ProgramCanonical'. -/
def programCanonicalCard : Claim7 := { stood := { row := programCanonicalRow, standIns := [], harness := (true, "ff93d05a5c76116cec1d43222c2b828104d0220a7048af6c7219e6d9df654106"), looks := true }, kinds := [], alts := [], laidByText := true, laidKinds := [.data, .data, .data], laidTests := true, laidLooks := .later }
def ProgramCanonicalCardSaid : Prop := Claim7.holds Tryz.pinned (.plain (OpenSpec.ofChange programCanonicalSpec)) programCanonicalCard

/-- THE SECOND FORM's CARD OF 'nurserylaw13.ProgramNext'. -/
def programNextUptoCard : Claim7 := { stood := { row := programNextUptoRow, standIns := [], harness := (true, "ff93d05a5c76116cec1d43222c2b828104d0220a7048af6c7219e6d9df654106"), looks := true }, kinds := [], alts := [], laidByText := true, laidKinds := [.data, .data, .data], laidTests := true, laidLooks := .later }
def ProgramNextUptoCardSaid : Prop := Claim7.holds Tryz.pinned (.plain (OpenSpec.upto programNextSpec)) programNextUptoCard

/-- THE SECOND FORM's CARD OF 'nurserylaw13.ProgramCodec'. -/
def programCodecUptoCard : Claim7 := { stood := { row := programCodecUptoRow, standIns := [], harness := (true, "ff93d05a5c76116cec1d43222c2b828104d0220a7048af6c7219e6d9df654106"), looks := true }, kinds := [], alts := [], laidByText := true, laidKinds := [.data, .data, .data], laidTests := true, laidLooks := .later }
def ProgramCodecUptoCardSaid : Prop := Claim7.holds Tryz.pinned (.plain (OpenSpec.upto programCodecSpec)) programCodecUptoCard

/-- THE SECOND FORM's CARD OF 'nurserylaw13.ProgramRoundTrip'. -/
def programRoundTripUptoCard : Claim7 := { stood := { row := programRoundTripUptoRow, standIns := [], harness := (true, "ff93d05a5c76116cec1d43222c2b828104d0220a7048af6c7219e6d9df654106"), looks := true }, kinds := [], alts := [], laidByText := true, laidKinds := [.data, .data, .data], laidTests := true, laidLooks := .later }
def ProgramRoundTripUptoCardSaid : Prop := Claim7.holds Tryz.pinned (.plain (OpenSpec.upto programRoundTripSpec)) programRoundTripUptoCard

/-- THE SECOND FORM's CARD OF 'nurserylaw13.ProgramCanonical'. -/
def programCanonicalUptoCard : Claim7 := { stood := { row := programCanonicalUptoRow, standIns := [], harness := (true, "ff93d05a5c76116cec1d43222c2b828104d0220a7048af6c7219e6d9df654106"), looks := true }, kinds := [], alts := [], laidByText := true, laidKinds := [.data, .data, .data], laidTests := true, laidLooks := .later }
def ProgramCanonicalUptoCardSaid : Prop := Claim7.holds Tryz.pinned (.plain (OpenSpec.upto programCanonicalSpec)) programCanonicalUptoCard
end Rows
end Go.Proofs.YtfkjokbhnblndaaGreatDoor
