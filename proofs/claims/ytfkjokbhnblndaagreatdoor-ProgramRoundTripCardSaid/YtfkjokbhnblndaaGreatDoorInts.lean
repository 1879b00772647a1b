/- Slices of integers; the checks of clocks. -/
import Derived.Test.YtfkjokbhnblndaaGreatDoorRows
import Derived.Test.YtfkjokbhnblndaaGreatDoorBase
import Derived.Test.YtfkjokbhnblndaaGreatDoorISl
namespace Go.Proofs.YtfkjokbhnblndaaGreatDoor
open Go.RowKit
set_option linter.unusedVariables false

def bad (x : Int) : Bool := decide (x < 0) || decide (1099511627776 < x)
def chk (l : List Int) : Int := if 32 < l.length then 4 else if l.any bad = true then 2 else 0

end Go.Proofs.YtfkjokbhnblndaaGreatDoor
