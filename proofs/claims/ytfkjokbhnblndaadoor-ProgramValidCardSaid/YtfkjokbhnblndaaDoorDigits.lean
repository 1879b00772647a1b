/- codec.digits, codec.integer, codec.fits, codec.Int: their contracts. -/
import Derived.RangeFuncBox
import Derived.RangeFuncLeaves
import Derived.RangeFuncNested
import Derived.Shelf.Abstract
import Derived.WalkKit
import Derived.OwnWalkIn
import Derived.TacticsInMore
import Derived.LoopNIn
import Derived.LoopIn
import Derived.Maps.AppendAt
import Derived.Lib.Hide
import Derived.Test.YtfkjokbhnblndaaDoorRows
import Derived.Test.YtfkjokbhnblndaaDoorBase
import Derived.Test.YtfkjokbhnblndaaDoorMag
namespace Go.Proofs.YtfkjokbhnblndaaDoor
open Go.RowKit Go.Shelf
set_option linter.unusedVariables false
attribute [local go_sem] Oper.semAt_some

theorem int_eq {k : IntKind} {a b : Int} (h : a = b) : Value.int k a = Value.int k b := by rw [h]

/-- one shift of the loop: what has come, and what comes next -/
theorem mag_shift (m k : Nat) (hm : m < 2 ^ 63) (h : m / 2 ^ (8 * k) ≠ 0) : mag (m / 2 ^ (8 * k)) = mag (m / 2 ^ (8 * (k + 1))) ++ [UInt8.ofNat (m / 2 ^ (8 * k) % 256)] := by
  have e : m / 2 ^ (8 * (k + 1)) = m / 2 ^ (8 * k) / 256 := by
    rw [Nat.div_div_eq_div_mul, Nat.mul_add, Nat.pow_add]
  rw [e]
  exact mag_step _ (Nat.lt_of_le_of_lt (Nat.div_le_self _ _) (by omega)) h
theorem mag_shift0 (m k : Nat) (h : m / 2 ^ (8 * k) = 0) : mag (m / 2 ^ (8 * (k + 1))) = mag (m / 2 ^ (8 * k)) := by
  have e : m / 2 ^ (8 * (k + 1)) = m / 2 ^ (8 * k) / 256 := by
    rw [Nat.div_div_eq_div_mul, Nat.mul_add, Nat.pow_add]
  rw [e, h]
theorem shift_rel {k' : Nat} (hk : k' + 1 ≤ 8) {J : Nat → Prop} (h : J k') : ∃ k : Nat, k ≤ 8 ∧ ((k = 0 ∧ Value.int .i64 (8 * (k' : Int) - 8) = .int .i64 (-8)) ∨ ∃ j, k = j + 1 ∧ Value.int .i64 (8 * (k' : Int) - 8) = .int .i64 (8 * (j : Int))) ∧ J k := by
  cases k' with
  | zero => exact ⟨0, by omega, .inl ⟨rfl, by simp⟩, h⟩
  | succ j => exact ⟨j + 1, by omega, .inr ⟨j, rfl, int_eq (by omega)⟩, h⟩
theorem u8_of (m k : Nat) : (((UInt8.ofNat (m / 2 ^ (8 * k) % 256)).toNat : Nat) : Int) = (m : Int) / 2 ^ (8 * k) % 256 := by
  have : (UInt8.ofNat (m / 2 ^ (8 * k) % 256)).toNat = m / 2 ^ (8 * k) % 256 := by simp
  rw [this]; simp

/-- what a round of the loop over the digits must keep: the box of the number -/
def KeepAt (Bn : Nat) (W W' : World) : Prop := W'.cell? ⟨Bn, 0, none⟩ = W.cell? ⟨Bn, 0, none⟩
theorem keepAt_t {Bn : Nat} {A B C : World} (h : KeepAt Bn A B) (k : KeepAt Bn B C) : KeepAt Bn A C := Eq.trans k h
theorem keepAt_b {Bn : Nat} {w : World} (hn : Bn < w.heap.size) (W : World) (l : Nat) (o o' : Obj) (hl : w.heap.size ≤ l) (h : W.heap[l]? = some o) (h1 : o.isCells = false) (h2 : o.isWalk = false) : KeepAt Bn W (W.putObj l o') :=
  (belowK_b (n₀ := w.heap.size) (w := w) (Nat.le_refl _) W l o o' hl h h1 h2).cell (p := ⟨Bn, 0, none⟩) hn

end Go.Proofs.YtfkjokbhnblndaaDoor
