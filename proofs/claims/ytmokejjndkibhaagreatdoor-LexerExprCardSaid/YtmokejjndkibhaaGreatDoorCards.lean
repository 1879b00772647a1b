/-
  DERIVED. GIVEN WITH THE SEED: THE CARDS: each row of YtmokejjndkibhaaGreatDoorRows.lean that lists a variable, with what it lists TIED to the program's text (the seventh form; the later family's looks); each row that meets fmt, with fmt's text TOLD by the authors' own Lean function (tested against real Go, not proved from fmt's source: count such statements apart). THE CARD IS WHAT COUNTS. Prove the row's statement (the work); the ties are given (YtmokejjndkibhaaGreatDoorTie.lean); close each card by the builder's one call (the guide's Derived/Test/ToyasCard.lean, 'card_holds'). Laid BY PROGRAM, IN A SANDBOX (cutbox-door.mjs). By AI agents, Wed Nov 11 2026. No macro, syntax, notation, axiom, sorry.
-/
import Derived.Test.YtmokejjndkibhaaGreatDoorRows
import GoSem.ClaimSeven
namespace Go.Proofs.YtmokejjndkibhaaGreatDoor
namespace Rows

/-- THE TIED CARD OF 'nurserylaw10.LexerParse'. -/
def lexerParseCard : Claim7 := { stood := { row := lexerParseRow, standIns := [], harness := (true, "8eafc6323afbc7786ce7ee7233efd9f2b200f70020142ebc6d2a03e890889121"), looks := true }, kinds := [], alts := [], laidByText := true, laidKinds := [.data, .data, .data], laidTests := true, laidLooks := .later }
def LexerParseCardSaid : Prop := Claim7.holds Tryz.pinned (.plain (OpenSpec.ofChange lexerParseSpec)) lexerParseCard

/-- THE TIED CARD OF 'nurserylaw10.LexerErrors'. -/
def lexerErrorsCard : Claim7 := { stood := { row := lexerErrorsRow, standIns := [], harness := (true, "8eafc6323afbc7786ce7ee7233efd9f2b200f70020142ebc6d2a03e890889121"), looks := true }, kinds := [], alts := [], laidByText := true, laidKinds := [.data, .data, .data], laidTests := true, laidLooks := .later }
def LexerErrorsCardSaid : Prop := Claim7.holds Tryz.pinned (.plain (OpenSpec.ofChange lexerErrorsSpec)) lexerErrorsCard

/-- THE TIED CARD OF 'nurserylaw10.LexerExpr'. -/
def lexerExprCard : Claim7 := { stood := { row := lexerExprRow, standIns := [], harness := (true, "8eafc6323afbc7786ce7ee7233efd9f2b200f70020142ebc6d2a03e890889121"), looks := true }, kinds := [], alts := [], laidByText := true, laidKinds := [.data, .data, .data], laidTests := true, laidLooks := .later }
def LexerExprCardSaid : Prop := Claim7.holds Tryz.pinned (.plain (OpenSpec.ofChange lexerExprSpec)) lexerExprCard

/-- THE TIED CARD OF 'nurserylaw10.LexerOffsets'. -/
def lexerOffsetsCard : Claim7 := { stood := { row := lexerOffsetsRow, standIns := [], harness := (true, "8eafc6323afbc7786ce7ee7233efd9f2b200f70020142ebc6d2a03e890889121"), looks := true }, kinds := [], alts := [], laidByText := true, laidKinds := [.data, .data, .data], laidTests := true, laidLooks := .later }
def LexerOffsetsCardSaid : Prop := Claim7.holds Tryz.pinned (.plain (OpenSpec.ofChange lexerOffsetsSpec)) lexerOffsetsCard

/-- THE TIED CARD OF 'nurserylaw10.LexerTokens'. -/
def lexerTokensCard : Claim7 := { stood := { row := lexerTokensRow, standIns := [], harness := (true, "8eafc6323afbc7786ce7ee7233efd9f2b200f70020142ebc6d2a03e890889121"), looks := true }, kinds := [], alts := [], laidByText := true, laidKinds := [.data, .data, .data], laidTests := true, laidLooks := .later }
def LexerTokensCardSaid : Prop := Claim7.holds Tryz.pinned (.plain (OpenSpec.ofChange lexerTokensSpec)) lexerTokensCard

/-- THE TIED CARD OF 'nurserylaw10.LexerPositions'. -/
def lexerPositionsCard : Claim7 := { stood := { row := lexerPositionsRow, standIns := [], harness := (true, "8eafc6323afbc7786ce7ee7233efd9f2b200f70020142ebc6d2a03e890889121"), looks := true }, kinds := [], alts := [], laidByText := true, laidKinds := [.data, .data, .data], laidTests := true, laidLooks := .later }
def LexerPositionsCardSaid : Prop := Claim7.holds Tryz.pinned (.plain (OpenSpec.ofChange lexerPositionsSpec)) lexerPositionsCard

/-- THE TIED CARD OF 'nurserylaw10.LexerRoundTrip'. -/
def lexerRoundTripCard : Claim7 := { stood := { row := lexerRoundTripRow, standIns := [], harness := (true, "8eafc6323afbc7786ce7ee7233efd9f2b200f70020142ebc6d2a03e890889121"), looks := true }, kinds := [], alts := [], laidByText := true, laidKinds := [.data, .data, .data], laidTests := true, laidLooks := .later }
def LexerRoundTripCardSaid : Prop := Claim7.holds Tryz.pinned (.plain (OpenSpec.ofChange lexerRoundTripSpec)) lexerRoundTripCard

/-- THE SECOND FORM's CARD OF 'nurserylaw10.LexerParse'. -/
def lexerParseUptoCard : Claim7 := { stood := { row := lexerParseUptoRow, standIns := [], harness := (true, "8eafc6323afbc7786ce7ee7233efd9f2b200f70020142ebc6d2a03e890889121"), looks := true }, kinds := [], alts := [], laidByText := true, laidKinds := [.data, .data, .data], laidTests := true, laidLooks := .later }
def LexerParseUptoCardSaid : Prop := Claim7.holds Tryz.pinned (.plain (OpenSpec.upto lexerParseSpec)) lexerParseUptoCard

/-- THE SECOND FORM's CARD OF 'nurserylaw10.LexerErrors'. -/
def lexerErrorsUptoCard : Claim7 := { stood := { row := lexerErrorsUptoRow, standIns := [], harness := (true, "8eafc6323afbc7786ce7ee7233efd9f2b200f70020142ebc6d2a03e890889121"), looks := true }, kinds := [], alts := [], laidByText := true, laidKinds := [.data, .data, .data], laidTests := true, laidLooks := .later }
def LexerErrorsUptoCardSaid : Prop := Claim7.holds Tryz.pinned (.plain (OpenSpec.upto lexerErrorsSpec)) lexerErrorsUptoCard

/-- THE SECOND FORM's CARD OF 'nurserylaw10.LexerExpr'. -/
def lexerExprUptoCard : Claim7 := { stood := { row := lexerExprUptoRow, standIns := [], harness := (true, "8eafc6323afbc7786ce7ee7233efd9f2b200f70020142ebc6d2a03e890889121"), looks := true }, kinds := [], alts := [], laidByText := true, laidKinds := [.data, .data, .data], laidTests := true, laidLooks := .later }
def LexerExprUptoCardSaid : Prop := Claim7.holds Tryz.pinned (.plain (OpenSpec.upto lexerExprSpec)) lexerExprUptoCard

/-- THE SECOND FORM's CARD OF 'nurserylaw10.LexerOffsets'. -/
def lexerOffsetsUptoCard : Claim7 := { stood := { row := lexerOffsetsUptoRow, standIns := [], harness := (true, "8eafc6323afbc7786ce7ee7233efd9f2b200f70020142ebc6d2a03e890889121"), looks := true }, kinds := [], alts := [], laidByText := true, laidKinds := [.data, .data, .data], laidTests := true, laidLooks := .later }
def LexerOffsetsUptoCardSaid : Prop := Claim7.holds Tryz.pinned (.plain (OpenSpec.upto lexerOffsetsSpec)) lexerOffsetsUptoCard

/-- THE SECOND FORM's CARD OF 'nurserylaw10.LexerTokens'. -/
def lexerTokensUptoCard : Claim7 := { stood := { row := lexerTokensUptoRow, standIns := [], harness := (true, "8eafc6323afbc7786ce7ee7233efd9f2b200f70020142ebc6d2a03e890889121"), looks := true }, kinds := [], alts := [], laidByText := true, laidKinds := [.data, .data, .data], laidTests := true, laidLooks := .later }
def LexerTokensUptoCardSaid : Prop := Claim7.holds Tryz.pinned (.plain (OpenSpec.upto lexerTokensSpec)) lexerTokensUptoCard

/-- THE SECOND FORM's CARD OF 'nurserylaw10.LexerPositions'. -/
def lexerPositionsUptoCard : Claim7 := { stood := { row := lexerPositionsUptoRow, standIns := [], harness := (true, "8eafc6323afbc7786ce7ee7233efd9f2b200f70020142ebc6d2a03e890889121"), looks := true }, kinds := [], alts := [], laidByText := true, laidKinds := [.data, .data, .data], laidTests := true, laidLooks := .later }
def LexerPositionsUptoCardSaid : Prop := Claim7.holds Tryz.pinned (.plain (OpenSpec.upto lexerPositionsSpec)) lexerPositionsUptoCard

/-- THE SECOND FORM's CARD OF 'nurserylaw10.LexerRoundTrip'. -/
def lexerRoundTripUptoCard : Claim7 := { stood := { row := lexerRoundTripUptoRow, standIns := [], harness := (true, "8eafc6323afbc7786ce7ee7233efd9f2b200f70020142ebc6d2a03e890889121"), looks := true }, kinds := [], alts := [], laidByText := true, laidKinds := [.data, .data, .data], laidTests := true, laidLooks := .later }
def LexerRoundTripUptoCardSaid : Prop := Claim7.holds Tryz.pinned (.plain (OpenSpec.upto lexerRoundTripSpec)) lexerRoundTripUptoCard
end Rows
end Go.Proofs.YtmokejjndkibhaaGreatDoor
