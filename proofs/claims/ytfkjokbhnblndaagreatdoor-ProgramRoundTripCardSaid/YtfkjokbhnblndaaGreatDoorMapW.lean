/- The walk's law for a store of a new key; where a map lies. -/
import Derived.Test.YtfkjokbhnblndaaGreatDoorMapI
import Derived.OwnWalk
namespace Go.Proofs.YtfkjokbhnblndaaGreatDoor
open Go.RowKit
set_option linter.unusedVariables false
set_option linter.unusedSimpArgs false

/-- block b is a map with these entries -/
def MapAt (w : World) (b : Nat) (l : List (Int × Value)) : Prop := ∃ es clock, w.heap[b]? = some (.map es clock) ∧ Holds es l
theorem MapAt.ext {w W : World} {b : Nat} {l : List (Int × Value)} (h : MapAt w b l) (hE : Ext w W) : MapAt W b l := by
  obtain ⟨es, c, h1, h2⟩ := h
  exact ⟨es, c, (hE.below.block b (lt_of_block h1)).trans h1, h2⟩
theorem MapAt.lt {w : World} {b : Nat} {l : List (Int × Value)} (h : MapAt w b l) : b < w.heap.size := by
  obtain ⟨es, c, h1, h2⟩ := h
  exact lt_of_block h1
theorem MapAt.made (w : World) : MapAt (w.alloc (.map #[] 0)) w.heap.size [] := ⟨#[], 0, alloc_here _ _, rfl⟩

variable {P : Program} {ops : Array Oper} {rest : List Oper} {o : Oper} {a : Act} {Q : Exit → Act → World → Prop}
theorem wp_insert {w : World} (hg : o.guard = none) (m x v : Operand) (t : TypeId) (hop : o.op = Op.insert t m x v) (kt e : TypeId) (ht : P.underlying t = some (.map kt e)) (hk : P.underlying kt = some (.int .i64))
    (b : Nat) (l : List (Int × Value)) (hm : a.eval m = .map (some b)) (h : MapAt w b l) (k : Int) (val : Value) (hx : a.eval x = .int .i64 k) (hv : a.eval v = val) (hno : l.all (fun p => p.1 != k) = true)
    (hK : ∀ W, MapAt W b (l ++ [(k, val)]) → Below b w W → (∀ j, j < w.heap.size → j ≠ b → W.heap[j]? = w.heap[j]?) → wpList P ops Q rest (a.put o.dst undef) W) : wpList P ops Q (o :: rest) a w := by
  obtain ⟨es, c, h1, h2⟩ := h
  obtain ⟨es', c', W, hrun, h3, h4⟩ := run_insert_new ht hk h1 h2 k hno val
  refine wpList_plain hg fun K' hK' => ?_
  unfold Oper.wp
  simp [execOp, hop, hm, hx, hv, hrun, Result.andThen]
  exact hK' _ _ (hK W ⟨es', c', h4.here, h3⟩ (h4.below (Nat.le_refl _) (Nat.le_of_lt (lt_of_block h1))) h4.other)

end Go.Proofs.YtfkjokbhnblndaaGreatDoor
