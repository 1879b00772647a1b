/- Frame relations between two worlds of the model, used by all the walks of this seat: 'Turn k o w w'' (block k now holds o, every other old block is as it was). -/
import Derived.Below
import Derived.OneCell
import Derived.WalkSmall
import Derived.WalkKit
import Derived.Lib.Hide
import Derived.WalkSpells
namespace Go.Proofs.YtfkjokbhnblndaaGreatDoor
open Go.RowKit

/-- Block k holds o in w'; every other block that was there is as it was. -/
structure Turn (k : Nat) (o : Obj) (w w' : World) : Prop where
  os : w'.os = w.os
  tape : w'.tape = w.tape
  output : w'.output = w.output
  size : w.heap.size ≤ w'.heap.size
  here : w'.heap[k]? = some o
  other : ∀ j, j < w.heap.size → j ≠ k → w'.heap[j]? = w.heap[j]?

theorem Turn.refl {k : Nat} {o : Obj} {w : World} (h : w.heap[k]? = some o) : Turn k o w w := ⟨rfl, rfl, rfl, Nat.le_refl _, h, fun _ _ _ => rfl⟩
theorem Turn.trans {k : Nat} {o o' : Obj} {a b c : World} (h : Turn k o a b) (g : Turn k o' b c) : Turn k o' a c :=
  ⟨g.os.trans h.os, g.tape.trans h.tape, g.output.trans h.output, Nat.le_trans h.size g.size, g.here, fun j hj hk => (g.other j (Nat.lt_of_lt_of_le hj h.size) hk).trans (h.other j hj hk)⟩
theorem Turn.lt {k : Nat} {o : Obj} {w w' : World} (h : Turn k o w w') : k < w'.heap.size := lt_of_block h.here
theorem Turn.below {k B : Nat} {o : Obj} {w w' : World} (h : Turn k o w w') (hk : B ≤ k) (hB : B ≤ w.heap.size) : Below B w w' :=
  ⟨h.os, h.tape, h.output, h.size, fun j hj => h.other j (by omega) (by omega)⟩
theorem Turn.drew {k : Nat} {o : Obj} {a w : World} (h : Turn k o a w) : Turn k o a w.drew := ⟨h.os, h.tape, h.output, h.size, h.here, h.other⟩
theorem Turn.drewN {k : Nat} {o : Obj} {a w : World} (h : Turn k o a w) (n : Nat) : Turn k o a (w.drewN n) := ⟨h.os, h.tape, h.output, h.size, h.here, h.other⟩
theorem Turn.alloc {k : Nat} {o : Obj} {a w : World} (h : Turn k o a w) (x : Obj) : Turn k o a (w.alloc x) :=
  ⟨h.os, h.tape, h.output, by have := h.size; simp; omega, (Below.heap_alloc _ _ _ h.lt).trans h.here, fun j hj hk => (Below.heap_alloc _ _ _ (Nat.lt_of_lt_of_le hj h.size)).trans (h.other j hj hk)⟩
theorem Turn.of_below {k : Nat} {o : Obj} {a w w' : World} (h : Turn k o a w) (hb : Below w.heap.size w w') : Turn k o a w' :=
  ⟨hb.os.trans h.os, hb.tape.trans h.tape, hb.output.trans h.output, Nat.le_trans h.size hb.size, (hb.block k h.lt).trans h.here, fun j hj hk => (hb.block j (Nat.lt_of_lt_of_le hj h.size)).trans (h.other j hj hk)⟩
/-- a store into block k -/
theorem Turn.setCell {k i : Nat} {c : Array Value} {t : TypeId} {f : Nat × Nat} {a w : World} (h : Turn k (.cells c t f) a w) (u : Value) : Turn k (.cells (c.setIfInBounds i u) t f) a (w.setCell ⟨k, i, none⟩ u) := by
  refine ⟨h.os, h.tape, h.output, by have := h.size; simp [World.setCell]; omega, ?_, fun j hj hk => ?_⟩
  · simp only [World.setCell, Array.getElem?_modify, if_true, h.here]
    rfl
  · exact (Below.heap_setCell _ _ _ _ hk).trans (h.other j hj hk)

theorem cell_of {w : World} {k i : Nat} {c : Array Value} {t : TypeId} {f : Nat × Nat} {v : Value} (h : w.heap[k]? = some (.cells c t f)) (hv : c[i]? = some v) : w.cell? ⟨k, i, none⟩ = some v := by
  simp [World.cell?, h, hv]
theorem free_of {w : World} {k i : Nat} {c : Array Value} {t : TypeId} (h : w.heap[k]? = some (.cells c t (0, 0))) : w.frozen? ⟨k, i, none⟩ = false := by
  simp [World.frozen?, h]
theorem alloc_here (w : World) (o : Obj) : (w.alloc o).heap[w.heap.size]? = some o := by show (w.heap.push o)[w.heap.size]? = _; simp

/-- a string by the list of its bytes -/
def sB (l : List UInt8) : ByteArray := ⟨l.toArray⟩
abbrev sV (l : List UInt8) : Value := .string (sB l)
theorem sB_of (s : ByteArray) : ∃ l, s = sB l := ⟨s.data.toList, rfl⟩
theorem sB_size (l : List UInt8) : (sB l).size = l.length := by simp [sB, ByteArray.size]
theorem sB_app (a b : List UInt8) : sB a ++ sB b = sB (a ++ b) := by
  apply ByteArray.ext
  apply Array.toList_inj.1
  simp [sB]
theorem sB_get (l : List UInt8) (i : Nat) (h : i < (sB l).size) : (sB l)[i] = l[i]'(by rw [sB_size] at h; exact h) := rfl
theorem sB_inj {a b : List UInt8} : sB a = sB b ↔ a = b := by
  constructor
  · intro h; have := congrArg (fun s : ByteArray => s.data.toList) h; simpa [sB] using this
  · rintro rfl; rfl
theorem sB_extract (l : List UInt8) (a b : Nat) : (sB l).extract a b = sB ((l.take b).drop a) := by
  apply ByteArray.ext
  apply Array.toList_inj.1
  simp [sB, List.extract, List.drop_take]
theorem sB_data (l : List UInt8) : (sB l).data.toList = l := by simp [sB]
theorem sB_toList (l : List UInt8) : (sB l).toList = l := by rw [ByteArray.toList_eq, sB_data]
theorem sB_nil : (ByteArray.mk #[]) = sB [] := rfl
attribute [go_sem] sB_size sB_app sB_get sB_data sB_toList

theorem bcell {W w1 : World} (hb : Below W.heap.size W w1) : (∀ b o, b < W.heap.size → w1.cell? ⟨b, o, none⟩ = W.cell? ⟨b, o, none⟩) ∧ (∀ b o, b < W.heap.size → w1.frozen? ⟨b, o, none⟩ = W.frozen? ⟨b, o, none⟩) :=
  ⟨fun b o h => hb.cell (p := ⟨b, o, none⟩) h, fun b o h => hb.frozen (p := ⟨b, o, none⟩) h⟩

/-- a call that leaves old memory as it was -/
def Gives (P : Program) (f : FuncId) (args : Array Value) (w : World) (v : Value) : Prop :=
  Calls P f args w fun e w' => e = .returned v ∧ Below w.heap.size w w'

theorem Gives.mono {P : Program} {f : FuncId} {args : Array Value} {w : World} {v : Value} (h : Gives P f args w v) {R : Ending → World → Prop}
    (hr : ∀ w', Below w.heap.size w w' → R (.returned v) w') : Calls P f args w R :=
  Calls.mono h (fun e w' h => by obtain ⟨rfl, hb⟩ := h; exact hr w' hb)

theorem tdiv_neg_eq (n : Int) (h : n < 0) (k : Int) : n.tdiv k = -((-n) / k) := by
  have h1 : n = -(-n) := by omega
  conv => lhs; rw [h1]
  rw [Int.neg_tdiv, Int.tdiv_eq_ediv_of_nonneg (by omega)]
theorem tmod_neg_eq (n : Int) (h : n < 0) (k : Int) : n.tmod k = -((-n) % k) := by
  have h1 : n = -(-n) := by omega
  conv => lhs; rw [h1]
  rw [Int.neg_tmod, Int.tmod_eq_emod_of_nonneg (by omega)]
theorem wrapi {x : Int} (h1 : -9223372036854775808 ≤ x) (h2 : x ≤ 9223372036854775807) : IntKind.i64.wrap x = x := IntWalk.i64_in _ ⟨h1, h2⟩
theorem i64_bd {n : Int} (h : (Lit.int .i64 n).wf = true) : -9223372036854775808 ≤ n ∧ n ≤ 9223372036854775807 := by
  simpa [Lit.wf, IntKind.min, IntKind.max, IntKind.signed, IntKind.bits] using h

end Go.Proofs.YtfkjokbhnblndaaGreatDoor
