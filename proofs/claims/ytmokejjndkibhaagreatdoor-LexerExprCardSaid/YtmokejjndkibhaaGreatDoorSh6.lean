/- Lemmas and walks for the statements of this seat, part 6, merged from smaller texts: slices.Sort and slices.Compact on rows of the call's own.; Print in general: Itoa of a program whose table stands; slices.Equal of two rows.; Names.; Arguments that came in: an expression as a tree. -/
import Derived.Sort.OwnSorted
import Derived.Lib.ItoaMem
import Derived.Lib.LaidTab
import Derived.Deep.Slices
import Derived.Deep.Fields
import Derived.ChangeSame
import Derived.Lib.SmallJoins
import Derived.SizedLaws
import Derived.Test.YtmokejjndkibhaaGreatDoorSh5
import Derived.Test.YtmokejjndkibhaaGreatDoorSh3
import Derived.Test.YtmokejjndkibhaaGreatDoorSh5

namespace Go.Proofs.YtmokejjndkibhaaGreatDoor
open Go.RowKit
set_option linter.unusedVariables false
set_option linter.unusedSimpArgs false

end Go.Proofs.YtmokejjndkibhaaGreatDoor

namespace Go.Proofs.YtmokejjndkibhaaGreatDoor
open Go.RowKit
set_option linter.unusedVariables false
set_option linter.unusedSimpArgs false
open Ex

/-- the table of powers of ten stands -/
def TabW (w : World) : Prop := Lib.TabIs Tryz.prog w "internal/strconv.uint64pow10" .u64 Lib.pow10Tab
theorem TabW.below {w W : World} (h : TabW w) (hb : Below w.heap.size w W) : TabW W := by
  unfold TabW Lib.TabIs World.var? at h ⊢
  cases hg : Tryz.prog.globalNamed "internal/strconv.uint64pow10" with
  | none => rw [hg] at h; cases h
  | some g =>
    rw [hg] at h
    simp only [Option.bind_some] at h ⊢
    have hlt : g < w.heap.size := by
      rcases Nat.lt_or_ge g w.heap.size with h' | h'
      · exact h'
      · rw [Array.getElem?_eq_none h'] at h; cases h
    rw [hb.block g hlt]
    exact h
theorem ext_grow (w : World) (k : Nat) (os : Array Obj) : Ext w (Go.Sort.grow (w.drewN k) os) :=
  ⟨rfl, rfl, rfl, by simp [Go.Sort.grow], fun j hj => by rw [Go.Sort.heap_grow_old _ _ (by simpa using hj)]; simp⟩
theorem Itoa_gen {w : World} (hT : TabW w) (v : Int) (W : World) (hv : 0 ≤ v ∧ v ≤ 1099511627776) (hb : Below w.heap.size w W) :
    Calls Tryz.prog 84 #[.int .i64 v] W fun r w' => r = .returned (sV (decI v)) ∧ Ext W w' := by
  refine (Tryz.strconv_Itoa v (by omega) (by omega) W (hT.below hb)).mono ?_
  rintro e w' ⟨rfl, k, os, rfl⟩
  refine ⟨?_, ext_grow _ _ _⟩
  unfold decI Lib.itoa
  rw [if_neg (by omega)]
  rfl
theorem PrintZ_any (e : Ex) (p : Option Addr) (c : Nat) (w : World) (hT : TabW w) (hA : Ex.At w p e) :
    Gives Tryz.prog 27 #[e.val p c] w (.tuple #[sV (prR decI e).1, .int .i64 (prR decI e).2]) :=
  Print_any (fun v => 0 ≤ v ∧ v ≤ 1099511627776) decI (fun W => Below w.heap.size w W) (fun v W hv hW => Itoa_gen hT v W hv hW) e
    (fun h => ⟨nums_of e (chk_zero h).2.2, txt_le h⟩) p c w (fun B hB W W' h hK => hK.trans (h.mono hB)) (Below.refl _ _) hA
end Go.Proofs.YtmokejjndkibhaaGreatDoor

namespace Go.Proofs.YtmokejjndkibhaaGreatDoor
open Go.RowKit
set_option linter.unusedVariables false
set_option linter.unusedSimpArgs false
attribute [local go_sem] Oper.semAt_some
open Ex

end Go.Proofs.YtmokejjndkibhaaGreatDoor

namespace Go.Proofs.YtmokejjndkibhaaGreatDoor
open Go.RowKit Go.ChangeShapes Go.WideShapes Go.Deep Go.Joins
set_option linter.unusedVariables false
set_option linter.unusedSimpArgs false

theorem weights_all_mem {H : Type} {P : Program} {e : TypeId} : ∀ {ds : List (DataW H)} {d : DataW H}, d ∈ ds → ∀ n ∈ d.weights P e, n ∈ DataW.weightsAll P e ds
  | d0 :: ds, d, hd, n, hn => by
    simp only [DataW.weightsAll, List.mem_append]
    rcases List.mem_cons.1 hd with rfl | hd
    · exact .inl hn
    · exact .inr (weights_all_mem hd n hn)
  | [], _, hd, _, _ => by cases hd
theorem add_zero {a : Addr} {w : World} {v : Value} (h : w.cell? (a.add 0) = some v) : a = ⟨a.block, a.off, none⟩ := by
  obtain ⟨b, o, s⟩ := a
  have hs : s = none := World.cell?_spot (a := ⟨b, o, s⟩) (by simpa [Addr.add] using h)
  rw [hs]
theorem add_cell {a : Addr} {j : Nat} {w : World} {v : Value} (h : w.cell? (a.add j) = some v) : w.cell? ⟨a.block, a.off + j, none⟩ = some v := by
  by_cases h0 : j = 0
  · subst h0
    have h1 := add_zero h
    rw [h1] at h
    simpa [Addr.add] using h
  · unfold Addr.add at h
    rw [if_neg h0] at h
    exact h
theorem cells_at {w : World} {base : Nat} {a : Addr} {n : Nat} {cs : List Value} (h : w.cells? base a n = some cs) : ∀ j v, j < n → cs[j]? = some v → w.cell? (a.add j) = some v := by
  intro j v hj hv
  obtain ⟨_, _, hat⟩ := World.cells?_some h
  exact (hat j hj).trans hv

theorem intCells : Tryz.prog.cellsOf 3 = 1 := by kernel_rfl
theorem strCells1 : Tryz.prog.cellsOf 9 = 1 := by kernel_rfl
end Go.Proofs.YtmokejjndkibhaaGreatDoor

