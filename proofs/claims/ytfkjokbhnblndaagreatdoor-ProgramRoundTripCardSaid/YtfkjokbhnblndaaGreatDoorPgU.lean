/- Small laws of drawn regions and boxes. -/
import Derived.Test.YtfkjokbhnblndaaGreatDoorPgE
import Derived.Test.YtfkjokbhnblndaaGreatDoorRu
namespace Go.Proofs.YtfkjokbhnblndaaGreatDoor
open Go.RowKit
set_option linter.unusedVariables false
set_option linter.unusedSimpArgs false

theorem Up.callE {P : Program} {f : FuncId} {args args' : Array Value} {w : World} {v : Value} {U : Up w} (h : ∀ W, Ext w W → Gives P f args' W v) (e : args = args') : Calls P f args U.W fun e w'' => e = .returned v ∧ ∃ U' : Up w, w'' = U'.W := by
  subst e; exact Up.call (h _ U.ext)
theorem ext_alloc {w W : World} (h : Ext w W) (o : Obj) : Ext w (W.alloc o) := h.below.alloc h.size _
end Go.Proofs.YtfkjokbhnblndaaGreatDoor
