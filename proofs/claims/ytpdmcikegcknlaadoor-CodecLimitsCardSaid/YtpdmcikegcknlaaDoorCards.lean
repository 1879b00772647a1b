/-
  DERIVED. GIVEN WITH THE SEED: THE CARDS: each row of YtpdmcikegcknlaaDoorRows.lean that lists a variable, with what it lists TIED to the program's text (the seventh form; the later family's looks); each row that meets fmt, with fmt's text TOLD by the authors' own Lean function (tested against real Go, not proved from fmt's source: count such statements apart). THE CARD IS WHAT COUNTS. Prove the row's statement (the work); the ties are given (YtpdmcikegcknlaaDoorTie.lean); close each card by the builder's one call (the guide's Derived/Test/ToyasCard.lean, 'card_holds'). Laid BY PROGRAM, IN A SANDBOX (cutbox-door.mjs). By AI agents, Wed Nov 11 2026. No macro, syntax, notation, axiom, sorry.
-/
import Derived.Test.YtpdmcikegcknlaaDoorRows
import GoSem.ClaimSeven
namespace Go.Proofs.YtpdmcikegcknlaaDoor
namespace Rows

/-- THE TIED CARD OF 'nurserylaw01.CodecOrder'. -/
def codecOrderCard : Claim7 := { stood := { row := codecOrderRow, standIns := [], harness := (true, "f089c19256d4c1596eaecb7f8a3ed922d8882d71560b6c6f24d0de37329fc1c1"), looks := false }, kinds := [], alts := [], laidByText := true, laidKinds := [.data, .pinned], laidTests := true, laidLooks := .later }
def CodecOrderCardSaid : Prop := Claim7.holds Tryd.pinned (.plain (OpenSpec.ofChange codecOrderSpec)) codecOrderCard

/-- THE TIED CARD OF 'nurserylaw01.CodecTexts'. -/
def codecTextsCard : Claim7 := { stood := { row := codecTextsRow, standIns := [], harness := (true, "f089c19256d4c1596eaecb7f8a3ed922d8882d71560b6c6f24d0de37329fc1c1"), looks := false }, kinds := [], alts := [], laidByText := true, laidKinds := [.data, .pinned], laidTests := true, laidLooks := .later }
def CodecTextsCardSaid : Prop := Claim7.holds Tryd.pinned (.plain (OpenSpec.ofChange codecTextsSpec)) codecTextsCard

/-- THE TIED CARD OF 'nurserylaw01.CodecInts'. -/
def codecIntsCard : Claim7 := { stood := { row := codecIntsRow, standIns := [], harness := (true, "f089c19256d4c1596eaecb7f8a3ed922d8882d71560b6c6f24d0de37329fc1c1"), looks := false }, kinds := [], alts := [], laidByText := true, laidKinds := [.data, .pinned], laidTests := true, laidLooks := .later }
def CodecIntsCardSaid : Prop := Claim7.holds Tryd.pinned (.plain (OpenSpec.ofChange codecIntsSpec)) codecIntsCard

/-- THE TIED CARD OF 'nurserylaw01.CodecDelimited'. -/
def codecDelimitedCard : Claim7 := { stood := { row := codecDelimitedRow, standIns := [], harness := (true, "f089c19256d4c1596eaecb7f8a3ed922d8882d71560b6c6f24d0de37329fc1c1"), looks := false }, kinds := [], alts := [], laidByText := true, laidKinds := [.data, .pinned], laidTests := true, laidLooks := .later }
def CodecDelimitedCardSaid : Prop := Claim7.holds Tryd.pinned (.plain (OpenSpec.ofChange codecDelimitedSpec)) codecDelimitedCard

/-- THE TIED CARD OF 'nurserylaw01.CodecLists'. -/
def codecListsCard : Claim7 := { stood := { row := codecListsRow, standIns := [], harness := (true, "f089c19256d4c1596eaecb7f8a3ed922d8882d71560b6c6f24d0de37329fc1c1"), looks := false }, kinds := [], alts := [], laidByText := true, laidKinds := [.data, .pinned], laidTests := true, laidLooks := .later }
def CodecListsCardSaid : Prop := Claim7.holds Tryd.pinned (.plain (OpenSpec.ofChange codecListsSpec)) codecListsCard

/-- THE TIED CARD OF 'nurserylaw01.CodecRoundTrip'. -/
def codecRoundTripCard : Claim7 := { stood := { row := codecRoundTripRow, standIns := [], harness := (true, "f089c19256d4c1596eaecb7f8a3ed922d8882d71560b6c6f24d0de37329fc1c1"), looks := false }, kinds := [], alts := [], laidByText := true, laidKinds := [.data, .pinned], laidTests := true, laidLooks := .later }
def CodecRoundTripCardSaid : Prop := Claim7.holds Tryd.pinned (.plain (OpenSpec.ofChange codecRoundTripSpec)) codecRoundTripCard

/-- THE TIED CARD OF 'nurserylaw01.CodecCanonical'. -/
def codecCanonicalCard : Claim7 := { stood := { row := codecCanonicalRow, standIns := [], harness := (true, "f089c19256d4c1596eaecb7f8a3ed922d8882d71560b6c6f24d0de37329fc1c1"), looks := false }, kinds := [], alts := [], laidByText := true, laidKinds := [.data, .pinned], laidTests := true, laidLooks := .later }
def CodecCanonicalCardSaid : Prop := Claim7.holds Tryd.pinned (.plain (OpenSpec.ofChange codecCanonicalSpec)) codecCanonicalCard

/-- THE TIED CARD OF 'nurserylaw01.CodecLimits'. -/
def codecLimitsCard : Claim7 := { stood := { row := codecLimitsRow, standIns := [], harness := (true, "f089c19256d4c1596eaecb7f8a3ed922d8882d71560b6c6f24d0de37329fc1c1"), looks := false }, kinds := [], alts := [], laidByText := true, laidKinds := [.data, .pinned], laidTests := true, laidLooks := .later }
def CodecLimitsCardSaid : Prop := Claim7.holds Tryd.pinned (.plain (OpenSpec.ofChange codecLimitsSpec)) codecLimitsCard

/-- THE SECOND FORM's CARD OF 'nurserylaw01.CodecOrder'. -/
def codecOrderUptoCard : Claim7 := { stood := { row := codecOrderUptoRow, standIns := [], harness := (true, "f089c19256d4c1596eaecb7f8a3ed922d8882d71560b6c6f24d0de37329fc1c1"), looks := false }, kinds := [], alts := [], laidByText := true, laidKinds := [.data, .pinned], laidTests := true, laidLooks := .later }
def CodecOrderUptoCardSaid : Prop := Claim7.holds Tryd.pinned (.plain (OpenSpec.upto codecOrderSpec)) codecOrderUptoCard

/-- THE SECOND FORM's CARD OF 'nurserylaw01.CodecTexts'. -/
def codecTextsUptoCard : Claim7 := { stood := { row := codecTextsUptoRow, standIns := [], harness := (true, "f089c19256d4c1596eaecb7f8a3ed922d8882d71560b6c6f24d0de37329fc1c1"), looks := false }, kinds := [], alts := [], laidByText := true, laidKinds := [.data, .pinned], laidTests := true, laidLooks := .later }
def CodecTextsUptoCardSaid : Prop := Claim7.holds Tryd.pinned (.plain (OpenSpec.upto codecTextsSpec)) codecTextsUptoCard

/-- THE SECOND FORM's CARD OF 'nurserylaw01.CodecInts'. -/
def codecIntsUptoCard : Claim7 := { stood := { row := codecIntsUptoRow, standIns := [], harness := (true, "f089c19256d4c1596eaecb7f8a3ed922d8882d71560b6c6f24d0de37329fc1c1"), looks := false }, kinds := [], alts := [], laidByText := true, laidKinds := [.data, .pinned], laidTests := true, laidLooks := .later }
def CodecIntsUptoCardSaid : Prop := Claim7.holds Tryd.pinned (.plain (OpenSpec.upto codecIntsSpec)) codecIntsUptoCard

/-- THE SECOND FORM's CARD OF 'nurserylaw01.CodecDelimited'. -/
def codecDelimitedUptoCard : Claim7 := { stood := { row := codecDelimitedUptoRow, standIns := [], harness := (true, "f089c19256d4c1596eaecb7f8a3ed922d8882d71560b6c6f24d0de37329fc1c1"), looks := false }, kinds := [], alts := [], laidByText := true, laidKinds := [.data, .pinned], laidTests := true, laidLooks := .later }
def CodecDelimitedUptoCardSaid : Prop := Claim7.holds Tryd.pinned (.plain (OpenSpec.upto codecDelimitedSpec)) codecDelimitedUptoCard

/-- THE SECOND FORM's CARD OF 'nurserylaw01.CodecLists'. -/
def codecListsUptoCard : Claim7 := { stood := { row := codecListsUptoRow, standIns := [], harness := (true, "f089c19256d4c1596eaecb7f8a3ed922d8882d71560b6c6f24d0de37329fc1c1"), looks := false }, kinds := [], alts := [], laidByText := true, laidKinds := [.data, .pinned], laidTests := true, laidLooks := .later }
def CodecListsUptoCardSaid : Prop := Claim7.holds Tryd.pinned (.plain (OpenSpec.upto codecListsSpec)) codecListsUptoCard

/-- THE SECOND FORM's CARD OF 'nurserylaw01.CodecRoundTrip'. -/
def codecRoundTripUptoCard : Claim7 := { stood := { row := codecRoundTripUptoRow, standIns := [], harness := (true, "f089c19256d4c1596eaecb7f8a3ed922d8882d71560b6c6f24d0de37329fc1c1"), looks := false }, kinds := [], alts := [], laidByText := true, laidKinds := [.data, .pinned], laidTests := true, laidLooks := .later }
def CodecRoundTripUptoCardSaid : Prop := Claim7.holds Tryd.pinned (.plain (OpenSpec.upto codecRoundTripSpec)) codecRoundTripUptoCard

/-- THE SECOND FORM's CARD OF 'nurserylaw01.CodecCanonical'. -/
def codecCanonicalUptoCard : Claim7 := { stood := { row := codecCanonicalUptoRow, standIns := [], harness := (true, "f089c19256d4c1596eaecb7f8a3ed922d8882d71560b6c6f24d0de37329fc1c1"), looks := false }, kinds := [], alts := [], laidByText := true, laidKinds := [.data, .pinned], laidTests := true, laidLooks := .later }
def CodecCanonicalUptoCardSaid : Prop := Claim7.holds Tryd.pinned (.plain (OpenSpec.upto codecCanonicalSpec)) codecCanonicalUptoCard

/-- THE SECOND FORM's CARD OF 'nurserylaw01.CodecLimits'. -/
def codecLimitsUptoCard : Claim7 := { stood := { row := codecLimitsUptoRow, standIns := [], harness := (true, "f089c19256d4c1596eaecb7f8a3ed922d8882d71560b6c6f24d0de37329fc1c1"), looks := false }, kinds := [], alts := [], laidByText := true, laidKinds := [.data, .pinned], laidTests := true, laidLooks := .later }
def CodecLimitsUptoCardSaid : Prop := Claim7.holds Tryd.pinned (.plain (OpenSpec.upto codecLimitsSpec)) codecLimitsUptoCard
end Rows
end Go.Proofs.YtpdmcikegcknlaaDoor
