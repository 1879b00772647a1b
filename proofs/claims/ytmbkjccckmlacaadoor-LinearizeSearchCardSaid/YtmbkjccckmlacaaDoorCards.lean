/-
  DERIVED. GIVEN WITH THE SEED: THE CARDS: each row of YtmbkjccckmlacaaDoorRows.lean that lists a variable, with what it lists TIED to the program's text (the seventh form; the later family's looks); each row that meets fmt, with fmt's text TOLD by the authors' own Lean function (tested against real Go, not proved from fmt's source: count such statements apart). THE CARD IS WHAT COUNTS. Prove the row's statement (the work); the ties are given (YtmbkjccckmlacaaDoorTie.lean); close each card by the builder's one call (the guide's Derived/Test/ToyasCard.lean, 'card_holds'). Laid BY PROGRAM, IN A SANDBOX (cutbox-door.mjs). By AI agents, Wed Nov 11 2026. No macro, syntax, notation, axiom, sorry.
-/
import Derived.Test.YtmbkjccckmlacaaDoorRows
import GoSem.ClaimSeven
namespace Go.Proofs.YtmbkjccckmlacaaDoor
namespace Rows

/-- THE TIED CARD OF 'nurserylaw44.LinearizeBeginnings'. -/
def linearizeBeginningsCard : Claim7 := { stood := { row := linearizeBeginningsRow, standIns := [], harness := (true, "13d88b02b6ed9f6bc1bfad2d9073cabf0a93a5f1932e926c25bd7a5332992082"), looks := false }, kinds := [], alts := [], laidByText := true, laidKinds := [.data, .data, .data], laidTests := true, laidLooks := .later }
def LinearizeBeginningsCardSaid : Prop := Claim7.holds Tryd.pinned (.plain (OpenSpec.ofChange linearizeBeginningsSpec)) linearizeBeginningsCard

/-- THE TIED CARD OF 'nurserylaw44.LinearizeSearch'. -/
def linearizeSearchCard : Claim7 := { stood := { row := linearizeSearchRow, standIns := [], harness := (true, "13d88b02b6ed9f6bc1bfad2d9073cabf0a93a5f1932e926c25bd7a5332992082"), looks := false }, kinds := [], alts := [], laidByText := true, laidKinds := [.data, .data, .data], laidTests := true, laidLooks := .later }
def LinearizeSearchCardSaid : Prop := Claim7.holds Tryd.pinned (.plain (OpenSpec.ofChange linearizeSearchSpec)) linearizeSearchCard

/-- THE TIED CARD OF 'nurserylaw44.LinearizeVerify'. -/
def linearizeVerifyCard : Claim7 := { stood := { row := linearizeVerifyRow, standIns := [], harness := (true, "13d88b02b6ed9f6bc1bfad2d9073cabf0a93a5f1932e926c25bd7a5332992082"), looks := false }, kinds := [], alts := [], laidByText := true, laidKinds := [.data, .data, .data], laidTests := true, laidLooks := .later }
def LinearizeVerifyCardSaid : Prop := Claim7.holds Tryd.pinned (.plain (OpenSpec.ofChange linearizeVerifySpec)) linearizeVerifyCard

/-- THE TIED CARD OF 'nurserylaw44.LinearizeApply'. -/
def linearizeApplyCard : Claim7 := { stood := { row := linearizeApplyRow, standIns := [], harness := (true, "13d88b02b6ed9f6bc1bfad2d9073cabf0a93a5f1932e926c25bd7a5332992082"), looks := false }, kinds := [], alts := [], laidByText := true, laidKinds := [.data, .data, .data], laidTests := true, laidLooks := .later }
def LinearizeApplyCardSaid : Prop := Claim7.holds Tryd.pinned (.plain (OpenSpec.ofChange linearizeApplySpec)) linearizeApplyCard

/-- THE TIED CARD OF 'nurserylaw44.LinearizeFinds'. -/
def linearizeFindsCard : Claim7 := { stood := { row := linearizeFindsRow, standIns := [], harness := (true, "13d88b02b6ed9f6bc1bfad2d9073cabf0a93a5f1932e926c25bd7a5332992082"), looks := false }, kinds := [], alts := [], laidByText := true, laidKinds := [.data, .data, .data], laidTests := true, laidLooks := .later }
def LinearizeFindsCardSaid : Prop := Claim7.holds Tryd.pinned (.plain (OpenSpec.ofChange linearizeFindsSpec)) linearizeFindsCard

/-- THE TIED CARD OF 'nurserylaw44.LinearizeSequential'. -/
def linearizeSequentialCard : Claim7 := { stood := { row := linearizeSequentialRow, standIns := [], harness := (true, "13d88b02b6ed9f6bc1bfad2d9073cabf0a93a5f1932e926c25bd7a5332992082"), looks := false }, kinds := [], alts := [], laidByText := true, laidKinds := [.data, .data, .data], laidTests := true, laidLooks := .later }
def LinearizeSequentialCardSaid : Prop := Claim7.holds Tryd.pinned (.plain (OpenSpec.ofChange linearizeSequentialSpec)) linearizeSequentialCard

/-- THE TIED CARD OF 'nurserylaw44.LinearizeExplains'. -/
def linearizeExplainsCard : Claim7 := { stood := { row := linearizeExplainsRow, standIns := [], harness := (true, "13d88b02b6ed9f6bc1bfad2d9073cabf0a93a5f1932e926c25bd7a5332992082"), looks := false }, kinds := [], alts := [], laidByText := true, laidKinds := [.data, .data, .data], laidTests := true, laidLooks := .later }
def LinearizeExplainsCardSaid : Prop := Claim7.holds Tryd.pinned (.plain (OpenSpec.ofChange linearizeExplainsSpec)) linearizeExplainsCard

/-- THE SECOND FORM's CARD OF 'nurserylaw44.LinearizeBeginnings'. -/
def linearizeBeginningsUptoCard : Claim7 := { stood := { row := linearizeBeginningsUptoRow, standIns := [], harness := (true, "13d88b02b6ed9f6bc1bfad2d9073cabf0a93a5f1932e926c25bd7a5332992082"), looks := false }, kinds := [], alts := [], laidByText := true, laidKinds := [.data, .data, .data], laidTests := true, laidLooks := .later }
def LinearizeBeginningsUptoCardSaid : Prop := Claim7.holds Tryd.pinned (.plain (OpenSpec.upto linearizeBeginningsSpec)) linearizeBeginningsUptoCard

/-- THE SECOND FORM's CARD OF 'nurserylaw44.LinearizeSearch'. -/
def linearizeSearchUptoCard : Claim7 := { stood := { row := linearizeSearchUptoRow, standIns := [], harness := (true, "13d88b02b6ed9f6bc1bfad2d9073cabf0a93a5f1932e926c25bd7a5332992082"), looks := false }, kinds := [], alts := [], laidByText := true, laidKinds := [.data, .data, .data], laidTests := true, laidLooks := .later }
def LinearizeSearchUptoCardSaid : Prop := Claim7.holds Tryd.pinned (.plain (OpenSpec.upto linearizeSearchSpec)) linearizeSearchUptoCard

/-- THE SECOND FORM's CARD OF 'nurserylaw44.LinearizeVerify'. -/
def linearizeVerifyUptoCard : Claim7 := { stood := { row := linearizeVerifyUptoRow, standIns := [], harness := (true, "13d88b02b6ed9f6bc1bfad2d9073cabf0a93a5f1932e926c25bd7a5332992082"), looks := false }, kinds := [], alts := [], laidByText := true, laidKinds := [.data, .data, .data], laidTests := true, laidLooks := .later }
def LinearizeVerifyUptoCardSaid : Prop := Claim7.holds Tryd.pinned (.plain (OpenSpec.upto linearizeVerifySpec)) linearizeVerifyUptoCard

/-- THE SECOND FORM's CARD OF 'nurserylaw44.LinearizeApply'. -/
def linearizeApplyUptoCard : Claim7 := { stood := { row := linearizeApplyUptoRow, standIns := [], harness := (true, "13d88b02b6ed9f6bc1bfad2d9073cabf0a93a5f1932e926c25bd7a5332992082"), looks := false }, kinds := [], alts := [], laidByText := true, laidKinds := [.data, .data, .data], laidTests := true, laidLooks := .later }
def LinearizeApplyUptoCardSaid : Prop := Claim7.holds Tryd.pinned (.plain (OpenSpec.upto linearizeApplySpec)) linearizeApplyUptoCard

/-- THE SECOND FORM's CARD OF 'nurserylaw44.LinearizeFinds'. -/
def linearizeFindsUptoCard : Claim7 := { stood := { row := linearizeFindsUptoRow, standIns := [], harness := (true, "13d88b02b6ed9f6bc1bfad2d9073cabf0a93a5f1932e926c25bd7a5332992082"), looks := false }, kinds := [], alts := [], laidByText := true, laidKinds := [.data, .data, .data], laidTests := true, laidLooks := .later }
def LinearizeFindsUptoCardSaid : Prop := Claim7.holds Tryd.pinned (.plain (OpenSpec.upto linearizeFindsSpec)) linearizeFindsUptoCard

/-- THE SECOND FORM's CARD OF 'nurserylaw44.LinearizeSequential'. -/
def linearizeSequentialUptoCard : Claim7 := { stood := { row := linearizeSequentialUptoRow, standIns := [], harness := (true, "13d88b02b6ed9f6bc1bfad2d9073cabf0a93a5f1932e926c25bd7a5332992082"), looks := false }, kinds := [], alts := [], laidByText := true, laidKinds := [.data, .data, .data], laidTests := true, laidLooks := .later }
def LinearizeSequentialUptoCardSaid : Prop := Claim7.holds Tryd.pinned (.plain (OpenSpec.upto linearizeSequentialSpec)) linearizeSequentialUptoCard

/-- THE SECOND FORM's CARD OF 'nurserylaw44.LinearizeExplains'. -/
def linearizeExplainsUptoCard : Claim7 := { stood := { row := linearizeExplainsUptoRow, standIns := [], harness := (true, "13d88b02b6ed9f6bc1bfad2d9073cabf0a93a5f1932e926c25bd7a5332992082"), looks := false }, kinds := [], alts := [], laidByText := true, laidKinds := [.data, .data, .data], laidTests := true, laidLooks := .later }
def LinearizeExplainsUptoCardSaid : Prop := Claim7.holds Tryd.pinned (.plain (OpenSpec.upto linearizeExplainsSpec)) linearizeExplainsUptoCard
end Rows
end Go.Proofs.YtmbkjccckmlacaaDoor
