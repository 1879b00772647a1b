/-
  DERIVED. GIVEN WITH THE SEED: THE CARDS: each row of YtgkalcboklhdgaaDoorRows.lean that lists a variable, with what it lists TIED to the program's text (the seventh form; the later family's looks); each row that meets fmt, with fmt's text TOLD by the authors' own Lean function (tested against real Go, not proved from fmt's source: count such statements apart). THE CARD IS WHAT COUNTS. Prove the row's statement (the work); the ties are given (YtgkalcboklhdgaaDoorTie.lean); close each card by the builder's one call (the guide's Derived/Test/ToyasCard.lean, 'card_holds'). Laid BY PROGRAM, IN A SANDBOX (cutbox-door.mjs). By AI agents, Wed Nov 11 2026. No macro, syntax, notation, axiom, sorry.
-/
import Derived.Test.YtgkalcboklhdgaaDoorRows
import GoSem.ClaimSeven
namespace Go.Proofs.YtgkalcboklhdgaaDoor
namespace Rows

/-- THE TIED CARD OF 'nurserylaw09.ExprEval'. -/
def exprEvalCard : Claim7 := { stood := { row := exprEvalRow, standIns := [], harness := (true, "bb8162de9bffff0939c3b6fa5c12dcf26b2f28d631c905c238b1c24144d60d59"), looks := false }, kinds := [], alts := [], laidByText := true, laidKinds := [.data, .data, .data], laidTests := true, laidLooks := .later }
def ExprEvalCardSaid : Prop := Claim7.holds Tryd.pinned (.plain (OpenSpec.ofChange exprEvalSpec)) exprEvalCard

/-- THE TIED CARD OF 'nurserylaw09.ExprTypes'. -/
def exprTypesCard : Claim7 := { stood := { row := exprTypesRow, standIns := [], harness := (true, "bb8162de9bffff0939c3b6fa5c12dcf26b2f28d631c905c238b1c24144d60d59"), looks := false }, kinds := [], alts := [], laidByText := true, laidKinds := [.data, .data, .data], laidTests := true, laidLooks := .later }
def ExprTypesCardSaid : Prop := Claim7.holds Tryd.pinned (.plain (OpenSpec.ofChange exprTypesSpec)) exprTypesCard

/-- THE TIED CARD OF 'nurserylaw09.ExprArithmetic'. -/
def exprArithmeticCard : Claim7 := { stood := { row := exprArithmeticRow, standIns := [], harness := (true, "bb8162de9bffff0939c3b6fa5c12dcf26b2f28d631c905c238b1c24144d60d59"), looks := false }, kinds := [], alts := [], laidByText := true, laidKinds := [.data, .data, .data], laidTests := true, laidLooks := .later }
def ExprArithmeticCardSaid : Prop := Claim7.holds Tryd.pinned (.plain (OpenSpec.ofChange exprArithmeticSpec)) exprArithmeticCard

/-- THE TIED CARD OF 'nurserylaw09.ExprChange'. -/
def exprChangeCard : Claim7 := { stood := { row := exprChangeRow, standIns := [], harness := (true, "bb8162de9bffff0939c3b6fa5c12dcf26b2f28d631c905c238b1c24144d60d59"), looks := false }, kinds := [], alts := [], laidByText := true, laidKinds := [.data, .data, .data], laidTests := true, laidLooks := .later }
def ExprChangeCardSaid : Prop := Claim7.holds Tryd.pinned (.plain (OpenSpec.ofChange exprChangeSpec)) exprChangeCard

/-- THE TIED CARD OF 'nurserylaw09.ExprFold'. -/
def exprFoldCard : Claim7 := { stood := { row := exprFoldRow, standIns := [], harness := (true, "bb8162de9bffff0939c3b6fa5c12dcf26b2f28d631c905c238b1c24144d60d59"), looks := false }, kinds := [], alts := [], laidByText := true, laidKinds := [.data, .data, .data], laidTests := true, laidLooks := .later }
def ExprFoldCardSaid : Prop := Claim7.holds Tryd.pinned (.plain (OpenSpec.ofChange exprFoldSpec)) exprFoldCard

/-- THE SECOND FORM's CARD OF 'nurserylaw09.ExprEval'. -/
def exprEvalUptoCard : Claim7 := { stood := { row := exprEvalUptoRow, standIns := [], harness := (true, "bb8162de9bffff0939c3b6fa5c12dcf26b2f28d631c905c238b1c24144d60d59"), looks := false }, kinds := [], alts := [], laidByText := true, laidKinds := [.data, .data, .data], laidTests := true, laidLooks := .later }
def ExprEvalUptoCardSaid : Prop := Claim7.holds Tryd.pinned (.plain (OpenSpec.upto exprEvalSpec)) exprEvalUptoCard

/-- THE SECOND FORM's CARD OF 'nurserylaw09.ExprTypes'. -/
def exprTypesUptoCard : Claim7 := { stood := { row := exprTypesUptoRow, standIns := [], harness := (true, "bb8162de9bffff0939c3b6fa5c12dcf26b2f28d631c905c238b1c24144d60d59"), looks := false }, kinds := [], alts := [], laidByText := true, laidKinds := [.data, .data, .data], laidTests := true, laidLooks := .later }
def ExprTypesUptoCardSaid : Prop := Claim7.holds Tryd.pinned (.plain (OpenSpec.upto exprTypesSpec)) exprTypesUptoCard

/-- THE SECOND FORM's CARD OF 'nurserylaw09.ExprArithmetic'. -/
def exprArithmeticUptoCard : Claim7 := { stood := { row := exprArithmeticUptoRow, standIns := [], harness := (true, "bb8162de9bffff0939c3b6fa5c12dcf26b2f28d631c905c238b1c24144d60d59"), looks := false }, kinds := [], alts := [], laidByText := true, laidKinds := [.data, .data, .data], laidTests := true, laidLooks := .later }
def ExprArithmeticUptoCardSaid : Prop := Claim7.holds Tryd.pinned (.plain (OpenSpec.upto exprArithmeticSpec)) exprArithmeticUptoCard

/-- THE SECOND FORM's CARD OF 'nurserylaw09.ExprChange'. -/
def exprChangeUptoCard : Claim7 := { stood := { row := exprChangeUptoRow, standIns := [], harness := (true, "bb8162de9bffff0939c3b6fa5c12dcf26b2f28d631c905c238b1c24144d60d59"), looks := false }, kinds := [], alts := [], laidByText := true, laidKinds := [.data, .data, .data], laidTests := true, laidLooks := .later }
def ExprChangeUptoCardSaid : Prop := Claim7.holds Tryd.pinned (.plain (OpenSpec.upto exprChangeSpec)) exprChangeUptoCard

/-- THE SECOND FORM's CARD OF 'nurserylaw09.ExprFold'. -/
def exprFoldUptoCard : Claim7 := { stood := { row := exprFoldUptoRow, standIns := [], harness := (true, "bb8162de9bffff0939c3b6fa5c12dcf26b2f28d631c905c238b1c24144d60d59"), looks := false }, kinds := [], alts := [], laidByText := true, laidKinds := [.data, .data, .data], laidTests := true, laidLooks := .later }
def ExprFoldUptoCardSaid : Prop := Claim7.holds Tryd.pinned (.plain (OpenSpec.upto exprFoldSpec)) exprFoldUptoCard
end Rows
end Go.Proofs.YtgkalcboklhdgaaDoor
