/-
  DERIVED. GIVEN WITH THE SEED: THE CARDS: each row of YtmokejjndkibhaaDoorRows.lean that lists a variable, with what it lists TIED to the program's text (the seventh form; the later family's looks); each row that meets fmt, with fmt's text TOLD by the authors' own Lean function (tested against real Go, not proved from fmt's source: count such statements apart). THE CARD IS WHAT COUNTS. Prove the row's statement (the work); the ties are given (YtmokejjndkibhaaDoorTie.lean); close each card by the builder's one call (the guide's Derived/Test/ToyasCard.lean, 'card_holds'). Laid BY PROGRAM, IN A SANDBOX (cutbox-door.mjs). By AI agents, Wed Nov 11 2026. No macro, syntax, notation, axiom, sorry.
-/
import Derived.Test.YtmokejjndkibhaaDoorRows
import GoSem.ClaimSeven
namespace Go.Proofs.YtmokejjndkibhaaDoor
namespace Rows

/-- THE TIED CARD OF 'nurserylaw10.LexerNormal'. -/
def lexerNormalCard : Claim7 := { stood := { row := lexerNormalRow, standIns := [], harness := (true, "609924fd9817fcf267c4dd3d47513bb6f2651f96cb354b41aadebe57dde9f4bb"), looks := true }, kinds := [], alts := [], laidByText := true, laidKinds := [.data, .data, .data], laidTests := true, laidLooks := .later }
def LexerNormalCardSaid : Prop := Claim7.holds Tryd.pinned (.plain (OpenSpec.ofChange lexerNormalSpec)) lexerNormalCard

/-- THE TIED CARD OF 'nurserylaw10.LexerParentheses'. -/
def lexerParenthesesCard : Claim7 := { stood := { row := lexerParenthesesRow, standIns := [], harness := (true, "609924fd9817fcf267c4dd3d47513bb6f2651f96cb354b41aadebe57dde9f4bb"), looks := true }, kinds := [], alts := [], laidByText := true, laidKinds := [.data, .data, .data], laidTests := true, laidLooks := .later }
def LexerParenthesesCardSaid : Prop := Claim7.holds Tryd.pinned (.plain (OpenSpec.ofChange lexerParenthesesSpec)) lexerParenthesesCard

/-- THE TIED CARD OF 'nurserylaw10.LexerGrouping'. -/
def lexerGroupingCard : Claim7 := { stood := { row := lexerGroupingRow, standIns := [], harness := (true, "609924fd9817fcf267c4dd3d47513bb6f2651f96cb354b41aadebe57dde9f4bb"), looks := true }, kinds := [], alts := [], laidByText := true, laidKinds := [.data, .data, .data], laidTests := true, laidLooks := .later }
def LexerGroupingCardSaid : Prop := Claim7.holds Tryd.pinned (.plain (OpenSpec.ofChange lexerGroupingSpec)) lexerGroupingCard

/-- THE TIED CARD OF 'nurserylaw10.LexerSpaces'. -/
def lexerSpacesCard : Claim7 := { stood := { row := lexerSpacesRow, standIns := [], harness := (true, "609924fd9817fcf267c4dd3d47513bb6f2651f96cb354b41aadebe57dde9f4bb"), looks := true }, kinds := [], alts := [], laidByText := true, laidKinds := [.data, .data, .data], laidTests := true, laidLooks := .later }
def LexerSpacesCardSaid : Prop := Claim7.holds Tryd.pinned (.plain (OpenSpec.ofChange lexerSpacesSpec)) lexerSpacesCard

/-- THE SECOND FORM's CARD OF 'nurserylaw10.LexerNormal'. -/
def lexerNormalUptoCard : Claim7 := { stood := { row := lexerNormalUptoRow, standIns := [], harness := (true, "609924fd9817fcf267c4dd3d47513bb6f2651f96cb354b41aadebe57dde9f4bb"), looks := true }, kinds := [], alts := [], laidByText := true, laidKinds := [.data, .data, .data], laidTests := true, laidLooks := .later }
def LexerNormalUptoCardSaid : Prop := Claim7.holds Tryd.pinned (.plain (OpenSpec.upto lexerNormalSpec)) lexerNormalUptoCard

/-- THE SECOND FORM's CARD OF 'nurserylaw10.LexerParentheses'. -/
def lexerParenthesesUptoCard : Claim7 := { stood := { row := lexerParenthesesUptoRow, standIns := [], harness := (true, "609924fd9817fcf267c4dd3d47513bb6f2651f96cb354b41aadebe57dde9f4bb"), looks := true }, kinds := [], alts := [], laidByText := true, laidKinds := [.data, .data, .data], laidTests := true, laidLooks := .later }
def LexerParenthesesUptoCardSaid : Prop := Claim7.holds Tryd.pinned (.plain (OpenSpec.upto lexerParenthesesSpec)) lexerParenthesesUptoCard

/-- THE SECOND FORM's CARD OF 'nurserylaw10.LexerGrouping'. -/
def lexerGroupingUptoCard : Claim7 := { stood := { row := lexerGroupingUptoRow, standIns := [], harness := (true, "609924fd9817fcf267c4dd3d47513bb6f2651f96cb354b41aadebe57dde9f4bb"), looks := true }, kinds := [], alts := [], laidByText := true, laidKinds := [.data, .data, .data], laidTests := true, laidLooks := .later }
def LexerGroupingUptoCardSaid : Prop := Claim7.holds Tryd.pinned (.plain (OpenSpec.upto lexerGroupingSpec)) lexerGroupingUptoCard

/-- THE SECOND FORM's CARD OF 'nurserylaw10.LexerSpaces'. -/
def lexerSpacesUptoCard : Claim7 := { stood := { row := lexerSpacesUptoRow, standIns := [], harness := (true, "609924fd9817fcf267c4dd3d47513bb6f2651f96cb354b41aadebe57dde9f4bb"), looks := true }, kinds := [], alts := [], laidByText := true, laidKinds := [.data, .data, .data], laidTests := true, laidLooks := .later }
def LexerSpacesUptoCardSaid : Prop := Claim7.holds Tryd.pinned (.plain (OpenSpec.upto lexerSpacesSpec)) lexerSpacesUptoCard
end Rows
end Go.Proofs.YtmokejjndkibhaaDoor
