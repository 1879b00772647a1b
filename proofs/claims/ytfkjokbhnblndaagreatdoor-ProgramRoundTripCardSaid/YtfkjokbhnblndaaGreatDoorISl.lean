/- Slices of integers (the part of XInts that knows no function). -/
import Derived.Test.YtfkjokbhnblndaaGreatDoorBase
import Derived.Test.YtfkjokbhnblndaaGreatDoorRegion
namespace Go.Proofs.YtfkjokbhnblndaaGreatDoor
open Go.RowKit
set_option linter.unusedVariables false

/-- a slice of integers that came in -/
def IsRow (k : IntKind) (w : World) (a : Option Addr) (len cap : Nat) (zs : List Int) : Prop :=
  (a = none ∧ len = 0 ∧ cap = 0 ∧ zs = []) ∨
  ∃ x, a = some x ∧ len ≤ cap ∧ cap ≤ maxLen ∧ zs.length = cap ∧ (∀ i, i < zs.length → w.cell? (x.add i) = some (.int k (zs.getD i 0))) ∧ ∀ n ∈ zs, (Lit.int k n).wf = true

/-- the slice at a holds the integers l -/
def IntsAt (w : World) (a : Option Addr) (l : List Int) : Prop := ∀ i (h : i < l.length), ∃ b off, a = some ⟨b, off, none⟩ ∧ w.cell? ⟨b, off + i, none⟩ = some (.int .i64 l[i])
theorem cell_lt {w : World} {a : Addr} {v : Value} (h : w.cell? a = some v) : a.block < w.heap.size := by
  unfold World.cell? at h
  split at h
  · rename_i hx; exact lt_of_block hx
  · cases h
theorem IntsAt.below {w W : World} {a : Option Addr} {l : List Int} (h : IntsAt w a l) (hE : Below w.heap.size w W) : IntsAt W a l := fun i hi => by
  obtain ⟨b, off, e, hc⟩ := h i hi
  exact ⟨b, off, e, (hE.cell (p := ⟨b, off + i, none⟩) (cell_lt hc)).trans hc⟩
theorem IntsAt.at {w : World} {a : Option Addr} {l : List Int} (h : IntsAt w a l) {i : Nat} (hi : i < l.length) : ∃ b off, a = some ⟨b, off, none⟩ ∧ w.cell? ⟨b, off + i, none⟩ = some (.int .i64 l[i]) := h i hi
theorem IntsAt.nil {w : World} {a : Option Addr} : IntsAt w a [] := fun i hi => by simp at hi
theorem IsRow.ints {w : World} {a : Option Addr} {len cap : Nat} {zs : List Int} (h : IsRow .i64 w a len cap zs) :
    ∃ l : List Int, l.length = len ∧ len ≤ maxLen ∧ IntsAt w a l ∧ ∀ n ∈ l, -9223372036854775808 ≤ n ∧ n ≤ 9223372036854775807 := by
  rcases h with ⟨rfl, rfl, rfl, rfl⟩ | ⟨x, rfl, hl, hm, hz, hcell, hwz⟩
  · exact ⟨[], rfl, by simp, IntsAt.nil, by simp⟩
  · refine ⟨zs.take len, by simp; omega, by omega, fun i hi => ?_, fun n hn => i64_bd (hwz n (List.mem_of_mem_take hn))⟩
    have hi2 : i < zs.length := by simp at hi; omega
    have hc := hcell i hi2
    obtain ⟨b, off, spot⟩ := x
    have hspot : spot = none := by
      have := World.cell?_spot (hcell 0 (by omega))
      simpa [Addr.add] using this
    subst hspot
    refine ⟨b, off, rfl, ?_⟩
    have e : (⟨b, off, none⟩ : Addr).add i = ⟨b, off + i, none⟩ := by unfold Addr.add; split <;> simp_all
    rw [e] at hc
    rw [hc]
    simp [List.getD_eq_getElem?_getD, hi2]


end Go.Proofs.YtfkjokbhnblndaaGreatDoor
