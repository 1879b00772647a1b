/-
  DERIVED. GIVEN WITH THE SEED: THE CARDS: each row of YtgkalcboklhdgaaGreatDoorRows.lean that lists a variable, with what it lists TIED to the program's text (the seventh form; the later family's looks); each row that meets fmt, with fmt's text TOLD by the authors' own Lean function (tested against real Go, not proved from fmt's source: count such statements apart). THE CARD IS WHAT COUNTS. Prove the row's statement (the work); the ties are given (YtgkalcboklhdgaaGreatDoorTie.lean); close each card by the builder's one call (the guide's Derived/Test/ToyasCard.lean, 'card_holds'). Laid BY PROGRAM, IN A SANDBOX (cutbox-door.mjs). By AI agents, Wed Nov 11 2026. No macro, syntax, notation, axiom, sorry.
-/
import Derived.Test.YtgkalcboklhdgaaGreatDoorRows
import GoSem.ClaimSeven
namespace Go.Proofs.YtgkalcboklhdgaaGreatDoor
namespace Rows

/-- THE TIED CARD OF 'nurserylaw09.ExprTexts'. -/
def exprTextsCard : Claim7 := { stood := { row := exprTextsRow, standIns := [], harness := (true, "159260c6861fa9965db1639c4f060b2b7b355f1ec5e9ba114d229d96eabf3cea"), looks := false }, kinds := [], alts := [], laidByText := true, laidKinds := [.data, .data, .data], laidTests := true, laidLooks := .later }
def ExprTextsCardSaid : Prop := Claim7.holds Tryz.pinned (.plain (OpenSpec.ofChange exprTextsSpec)) exprTextsCard

/-- THE TIED CARD OF 'nurserylaw09.ExprCheck'. -/
def exprCheckCard : Claim7 := { stood := { row := exprCheckRow, standIns := [], harness := (true, "159260c6861fa9965db1639c4f060b2b7b355f1ec5e9ba114d229d96eabf3cea"), looks := false }, kinds := [], alts := [], laidByText := true, laidKinds := [.data, .data, .data], laidTests := true, laidLooks := .later }
def ExprCheckCardSaid : Prop := Claim7.holds Tryz.pinned (.plain (OpenSpec.ofChange exprCheckSpec)) exprCheckCard

/-- THE TIED CARD OF 'nurserylaw09.ExprSubstitute'. -/
def exprSubstituteCard : Claim7 := { stood := { row := exprSubstituteRow, standIns := [], harness := (true, "159260c6861fa9965db1639c4f060b2b7b355f1ec5e9ba114d229d96eabf3cea"), looks := false }, kinds := [], alts := [], laidByText := true, laidKinds := [.data, .data, .data], laidTests := true, laidLooks := .later }
def ExprSubstituteCardSaid : Prop := Claim7.holds Tryz.pinned (.plain (OpenSpec.ofChange exprSubstituteSpec)) exprSubstituteCard

/-- THE SECOND FORM's CARD OF 'nurserylaw09.ExprTexts'. -/
def exprTextsUptoCard : Claim7 := { stood := { row := exprTextsUptoRow, standIns := [], harness := (true, "159260c6861fa9965db1639c4f060b2b7b355f1ec5e9ba114d229d96eabf3cea"), looks := false }, kinds := [], alts := [], laidByText := true, laidKinds := [.data, .data, .data], laidTests := true, laidLooks := .later }
def ExprTextsUptoCardSaid : Prop := Claim7.holds Tryz.pinned (.plain (OpenSpec.upto exprTextsSpec)) exprTextsUptoCard

/-- THE SECOND FORM's CARD OF 'nurserylaw09.ExprCheck'. -/
def exprCheckUptoCard : Claim7 := { stood := { row := exprCheckUptoRow, standIns := [], harness := (true, "159260c6861fa9965db1639c4f060b2b7b355f1ec5e9ba114d229d96eabf3cea"), looks := false }, kinds := [], alts := [], laidByText := true, laidKinds := [.data, .data, .data], laidTests := true, laidLooks := .later }
def ExprCheckUptoCardSaid : Prop := Claim7.holds Tryz.pinned (.plain (OpenSpec.upto exprCheckSpec)) exprCheckUptoCard

/-- THE SECOND FORM's CARD OF 'nurserylaw09.ExprSubstitute'. -/
def exprSubstituteUptoCard : Claim7 := { stood := { row := exprSubstituteUptoRow, standIns := [], harness := (true, "159260c6861fa9965db1639c4f060b2b7b355f1ec5e9ba114d229d96eabf3cea"), looks := false }, kinds := [], alts := [], laidByText := true, laidKinds := [.data, .data, .data], laidTests := true, laidLooks := .later }
def ExprSubstituteUptoCardSaid : Prop := Claim7.holds Tryz.pinned (.plain (OpenSpec.upto exprSubstituteSpec)) exprSubstituteUptoCard
end Rows
end Go.Proofs.YtgkalcboklhdgaaGreatDoor
