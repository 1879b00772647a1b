/- Rows of the call's own beside a block that turns. -/
import Derived.Test.YtpdmcikegcknlaaDoorApp
namespace Go.Proofs.YtpdmcikegcknlaaDoor
open Go.RowKit
set_option linter.unusedVariables false

theorem Turn.of_low {k : Nat} {o : Obj} {a w w' : World} (h : Turn k o a w) (hb : Below a.heap.size w w') (hk : k < a.heap.size) : Turn k o a w' :=
  ⟨hb.os.trans h.os, hb.tape.trans h.tape, hb.output.trans h.output, Nat.le_trans h.size hb.size, (hb.block k hk).trans h.here, fun j hj hk => (hb.block j hj).trans (h.other j hj hk)⟩
theorem ownsRow_turn {base : Nat} {e : TypeId} {n : Nat} {v : Value} {m : Nat} {xs : List Value} {k : Nat} {o : Obj} {w w' : World} (h : w.ownsRow base e n v m xs) (hT : Turn k o w w') (hk : k < base) : w'.ownsRow base e n v m xs :=
  h.kept (row := some k) ⟨hT.os, hT.tape, hT.output, hT.size, fun i hi hne => hT.other i hi (fun e => hne (by rw [e]))⟩ (by
    cases hv : v.ownBlock with
    | none => exact .inl rfl
    | some j => exact .inr (fun e => by cases e; have := (h.lt k hv).1; omega))
theorem Row8.turn {base : Nat} {v : Value} {l : List UInt8} {k : Nat} {o : Obj} {w w' : World} (h : Row8 base v l w) (hT : Turn k o w w') (hk : k < base) : Row8 base v l w' := ownsRow_turn h hT hk
theorem RowI.turn {base : Nat} {v : Value} {l : List Int} {k : Nat} {o : Obj} {w w' : World} (h : RowI base v l w) (hT : Turn k o w w') (hk : k < base) : RowI base v l w' := ownsRow_turn h hT hk

theorem Row8.slice {base : Nat} {v : Value} {l : List UInt8} {w : World} (h : Row8 base v l w) : ∃ x c, v = .slice x l.length c := by
  rcases h.forms with ⟨rfl, h0⟩ | ⟨g, cap, rfl⟩
  · exact ⟨none, 0, by rw [h0]⟩
  · exact ⟨_, _, rfl⟩
theorem RowI.slice {base : Nat} {v : Value} {l : List Int} {w : World} (h : RowI base v l w) : ∃ x c, v = .slice x l.length c := by
  rcases h.forms with ⟨rfl, h0⟩ | ⟨g, cap, rfl⟩
  · exact ⟨none, 0, by rw [h0]⟩
  · exact ⟨_, _, rfl⟩

theorem byte_ne {c : UInt8} (n : Nat) (h : c ≠ UInt8.ofNat n) (hn : n < 256) : ((c.toNat : Int) == (n : Int)) = false := by
  rw [beq_eq_false_iff_ne]; intro e
  apply h
  apply UInt8.toNat_inj.1
  simp; omega

end Go.Proofs.YtpdmcikegcknlaaDoor
