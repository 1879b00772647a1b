/- VclockCausality: the law's walk, for happenings that came in. -/
import Derived.Test.YtaplbcmpjhdohaaCsE
import Derived.Deep.Slices
import Derived.Deep.Fields
import Derived.ChangeSame
import Derived.Lib.SmallJoins
import Derived.SizedLaws
namespace Go.Proofs.Ytaplbcmpjhdohaa
open Go.RowKit Go.ChangeShapes Go.WideShapes Go.Deep
set_option linter.unusedVariables false
set_option linter.unusedSimpArgs false

theorem add_zero {a : Addr} {w : World} {v : Value} (h : w.cell? (a.add 0) = some v) : a = ⟨a.block, a.off, none⟩ := by
  obtain ⟨b, o, s⟩ := a
  have hs : s = none := World.cell?_spot (a := ⟨b, o, s⟩) (by simpa [Addr.add] using h)
  rw [hs]
theorem add_cell {a : Addr} {j : Nat} {w : World} {v : Value} (h : w.cell? (a.add j) = some v) : w.cell? ⟨a.block, a.off + j, none⟩ = some v := by
  by_cases h0 : j = 0
  · subst h0
    have h1 := add_zero h
    rw [h1] at h
    simpa [Addr.add] using h
  · unfold Addr.add at h
    rw [if_neg h0] at h
    exact h
theorem cells_at {w : World} {base : Nat} {a : Addr} {n : Nat} {cs : List Value} (h : w.cells? base a n = some cs) : ∀ j v, j < n → cs[j]? = some v → w.cell? (a.add j) = some v := by
  intro j v hj hv
  obtain ⟨_, _, hat⟩ := World.cells?_some h
  exact (hat j hj).trans hv
theorem hapCells : Try.prog.cellsOf 43 = 2 := by kernel_rfl
theorem u8Cells1 : Try.prog.cellsOf 5 = 1 := by kernel_rfl

set_option maxRecDepth 100000 in
/-- happenings that came in -/
theorem open_haps {H : Type} {enc : TypeId × Value → H} {W : World} {base : Nat} {sp : Nat → Bool} {hd : Bool} {a0 : Option Addr} {len0 cap0 : Nat} {d : DataW H} {ps : List MemPlace}
    (h : DataW.Trod enc Try.prog W base sp hd 39 (.slice a0 len0 cap0) d ps) : ∃ l : List (Int × Int), len0 = l.length ∧ HapAt W a0 l ∧ ∀ x ∈ l, (0 ≤ x.1 ∧ x.1 ≤ 255) ∧ 0 ≤ x.2 ∧ x.2 ≤ 255 := by
  obtain ⟨fuel, h⟩ := h
  rcases DataW.trod_slice Try.underlying39 h with ⟨hc, he⟩ | ⟨a, len, cap, elems, rest, n', hn', hc, he, hb, hl, hm, hel, hat, _, _⟩
  · obtain ⟨rfl, rfl⟩ := Prod.mk.inj he
    simp [Value.cells] at hc
    obtain ⟨rfl, rfl, rfl⟩ := hc
    exact ⟨[], rfl, fun i h => by simp at h, by simp⟩
  · obtain ⟨rfl, rfl⟩ := Prod.mk.inj he
    simp [Value.cells] at hc
    obtain ⟨rfl, rfl, rfl⟩ := hc
    have hE : ∀ i, i < len0 → ∃ b : Int × Int, ((0 ≤ b.1 ∧ b.1 ≤ 255) ∧ 0 ≤ b.2 ∧ b.2 ≤ 255) ∧ W.cell? (a.add (i * 2 + 0)) = some (.int .u8 b.1) ∧ W.cell? (a.add (i * 2 + 1)) = some (.int .u8 b.2) := by
      intro i hi
      have hx := hat i hi
      rw [hapCells, List.getElem?_eq_getElem (by omega)] at hx
      obtain ⟨cs', hcs, hx⟩ := Option.bind_eq_some_iff.1 hx
      obtain ⟨xs, n, hn, hxe, hl, hlen, hf⟩ := DataW.trod_struct Try.underlying43 hx
      rw [hapCells] at hl
      match cs', hl, xs, hlen, hcs with
      | [c0, c1], _, [y0, y1], _, hcs =>
        have h0 : DataW.trod enc Try.prog W base sp hd n 5 [c0] = some y0 := by simpa [u8Cells1] using hf 0 _ rfl
        have h1 : DataW.trod enc Try.prog W base sp hd n 5 [c1] = some y1 := by simpa [u8Cells1] using hf 1 _ rfl
        obtain ⟨t, ht, rfl, wt⟩ := DataW.trod_int Try.underlying5 h0
        obtain ⟨v, hv, rfl, wv⟩ := DataW.trod_int Try.underlying5 h1
        cases ht; cases hv
        refine ⟨(t, v), ?_, ?_, ?_⟩
        · simp [Lit.wf, IntKind.min, IntKind.max, IntKind.signed, IntKind.bits] at wt wv
          exact ⟨wt, wv⟩
        · rw [← Go.Deep.add_add]; exact cells_at hcs 0 _ (by omega) rfl
        · rw [← Go.Deep.add_add]; exact cells_at hcs 1 _ (by omega) rfl
    haveI : Inhabited (Int × Int) := ⟨(0, 0)⟩
    obtain ⟨f, hf⟩ := choose_lt hE
    refine ⟨(List.range len0).map f, by simp, ?_, ?_⟩
    · intro j hj
      have hj' : j < len0 := by simpa using hj
      obtain ⟨_, g1, g2⟩ := hf j hj'
      have ha : a = ⟨a.block, a.off, none⟩ := add_zero (hf 0 (by omega)).2.1
      refine ⟨a.block, a.off, congrArg some ha, ?_⟩
      simp only [List.getElem_map, List.getElem_range]
      exact ⟨add_cell g1, add_cell g2⟩
    · intro b hb
      obtain ⟨i, hi, rfl⟩ := List.mem_map.1 hb
      exact (hf i (List.mem_range.1 hi)).1

set_option maxRecDepth 100000 in
set_option maxHeartbeats 2000000 in
theorem vclockCausality_walk (l : List (Int × Int)) (a : Option Addr) (cap : Nat) (w : World) (h : HapAt w a l ∧ ∀ x ∈ l, (0 ≤ x.1 ∧ x.1 ≤ 255) ∧ 0 ≤ x.2 ∧ x.2 ≤ 255) :
    Gives Try.prog 7 #[.slice a l.length cap] w (.bool true) := by
  by_cases hl : l.length ≤ 20
  · exact causality_main l a cap w hl h.1 h.2
  · clear h
    unfold Gives
    go_enter Try.func7, Try.ntmps7
    have hg : (20 : Int) < l.length := by omega
    go_wp2_with fail
    refine (awake_any _).mono ?_
    intro w5 hE5
    go_wp2
    go_ret
    exact ⟨rfl, hE5⟩
end Go.Proofs.Ytaplbcmpjhdohaa
