/- nurserylaw01.awake. -/
import Derived.Test.YtpdmcikegcknlaaDoorRefReadList
import Derived.Test.YtpdmcikegcknlaaDoorRefList
import Derived.Test.YtpdmcikegcknlaaDoorText
import Derived.Test.YtpdmcikegcknlaaDoorHash
import Derived.Outline
namespace Go.Proofs.YtpdmcikegcknlaaDoor
open Go.RowKit
set_option linter.unusedVariables false

def awT : TypeId := 51
def awC : Array Value := #[.int .i64 0, .string ⟨#[128]⟩, .int .i64 5, .string ⟨#[129, 5]⟩, .int .i64 256, .string ⟨#[130, 1, 0]⟩, .int .i64 (-1), .string ⟨#[127]⟩, .int .i64 (-2), .string ⟨#[126, 254]⟩, .int .i64 (-256), .string ⟨#[126, 0]⟩]
theorem Text_a0 (w : World) (hm : MaxL w) : Gives Tryd.prog 18 #[.string ⟨#[97, 0]⟩] w (.tuple #[.string ⟨#[97, 0, 255, 0, 1]⟩, .int .i64 0]) := by
  have := Text_any [97, 0] w (by simp) hm
  rw [show txS [97, 0] = [97, 0, 255, 0, 1] by decide +kernel, show txE [97, 0] = 0 by decide +kernel] at this
  exact this
theorem List_51 (w : World) (g : Nat) (h : w.heap[g]? = some (.cells #[.int .i64 5, .int .i64 (-1)] 3 (0, 0))) : Gives Tryd.prog 13 #[.slice (some ⟨g, 0, none⟩) 2 2] w (.tuple #[.string ⟨#[129, 5, 127, 1]⟩, .int .i64 0]) := by
  have := List_any [5, -1] (some ⟨g, 0, none⟩) 2 w (by unfold maxLen; simp) (fun i hi => ⟨g, 0, rfl, by
    match i, hi with
    | 0, _ => exact cell_of h rfl
    | 1, _ => exact cell_of h rfl⟩) (by simp)
  rw [show lsS [5, -1] = [129, 5, 127, 1] by decide +kernel, show lsE [5, -1] = 0 by decide +kernel] at this
  exact this

theorem awInt (n : Int) (l : List UInt8) (h : enc n = l) (h1 : -4611686018427387904 ≤ n) (h2 : n ≤ 4611686018427387904) (w : World) : Gives Tryd.prog 16 #[.int .i64 n] w (.tuple #[sV l, .int .i64 0]) := by
  subst h; exact Int_yes n w h1 h2

set_option maxRecDepth 100000 in
set_option maxHeartbeats 8000000 in
theorem awake1_any (w : World) (hm : MaxL w) : Gives Tryd.prog 12 #[] w (.bool true) := by
  unfold Gives
  have HM := Lib.hid hm
  clear hm
  go_enter Tryd.func12, Tryd.ntmps12
  go_wp2
  have hC0 := Lib.hid (show (w.alloc (.cells awC 51)).heap[w.heap.size]? = some (.cells awC 51 (0, 0)) from alloc_here _ _)
  go_loopg [17] 6 (fun n i wr => ∃ j : Nat, n + j = 6 ∧ i = .int .i64 j ∧ wr.heap[w.heap.size]? = some (.cells awC 51 (0, 0)) ∧ Below w.heap.size w wr)
  case atStart => exact ⟨0, rfl, rfl, hC0.out, (Below.refl _ w).alloc (Nat.le_refl _) _⟩
  case round =>
    obtain ⟨j, hj, rfl, hC, hB⟩ := hrel
    have HJ := Lib.hid hj
    have HC := Lib.hid hC
    have HB := Lib.hid hB
    have hz := hB.size
    have hlt := lt_of_block hC
    have hj6 : j ≤ 6 := by omega
    clear hj hC hB
    by_cases g0 : j = 0
    · subst g0
      have c0 := cell_of (i := 0) (v := .int .i64 0) HC.out rfl
      have c1 := cell_of (i := 1) (v := .string ⟨#[128]⟩) HC.out rfl
      have I := awInt 0 [128] (by decide +kernel) (by omega) (by omega)
      go_wp2_with fail
      refine (I _).mono ?_
      intro w1 hB1
      have HC1 := Lib.hid (show w1.heap[w.heap.size]? = _ from (hB1.block _ (by simp; omega)).trans ((Below.heap_alloc _ _ _ hlt).trans HC.out))
      have d1 := (hB1.cell (p := ⟨wr.heap.size, 1, none⟩) (by simp)).trans (cell_of (i := 1) (v := .string ⟨#[128]⟩) (alloc_here _ _) rfl)
      have HB1 := Lib.hid (show Below w.heap.size w w1 from Ext.trans (HB.out.alloc hz _) hB1)
      clear hB1 c0 c1
      go_wp2
      go_roundg (5 - 0)
      case measure => have := HJ.out; omega
      case rel => exact ⟨1, by omega, rfl, HC1.out, HB1.out⟩
    by_cases g1 : j = 1
    · subst g1
      have c0 := cell_of (i := 2) (v := .int .i64 5) HC.out rfl
      have c1 := cell_of (i := 3) (v := .string ⟨#[129, 5]⟩) HC.out rfl
      have I := awInt 5 [129, 5] (by decide +kernel) (by omega) (by omega)
      go_wp2_with fail
      refine (I _).mono ?_
      intro w1 hB1
      have HC1 := Lib.hid (show w1.heap[w.heap.size]? = _ from (hB1.block _ (by simp; omega)).trans ((Below.heap_alloc _ _ _ hlt).trans HC.out))
      have d1 := (hB1.cell (p := ⟨wr.heap.size, 1, none⟩) (by simp)).trans (cell_of (i := 1) (v := .string ⟨#[129, 5]⟩) (alloc_here _ _) rfl)
      have HB1 := Lib.hid (show Below w.heap.size w w1 from Ext.trans (HB.out.alloc hz _) hB1)
      clear hB1 c0 c1
      go_wp2
      go_roundg (5 - 1)
      case measure => have := HJ.out; omega
      case rel => exact ⟨2, by omega, rfl, HC1.out, HB1.out⟩
    by_cases g2 : j = 2
    · subst g2
      have c0 := cell_of (i := 4) (v := .int .i64 256) HC.out rfl
      have c1 := cell_of (i := 5) (v := .string ⟨#[130, 1, 0]⟩) HC.out rfl
      have I := awInt 256 [130, 1, 0] (by decide +kernel) (by omega) (by omega)
      go_wp2_with fail
      refine (I _).mono ?_
      intro w1 hB1
      have HC1 := Lib.hid (show w1.heap[w.heap.size]? = _ from (hB1.block _ (by simp; omega)).trans ((Below.heap_alloc _ _ _ hlt).trans HC.out))
      have d1 := (hB1.cell (p := ⟨wr.heap.size, 1, none⟩) (by simp)).trans (cell_of (i := 1) (v := .string ⟨#[130, 1, 0]⟩) (alloc_here _ _) rfl)
      have HB1 := Lib.hid (show Below w.heap.size w w1 from Ext.trans (HB.out.alloc hz _) hB1)
      clear hB1 c0 c1
      go_wp2
      go_roundg (5 - 2)
      case measure => have := HJ.out; omega
      case rel => exact ⟨3, by omega, rfl, HC1.out, HB1.out⟩
    by_cases g3 : j = 3
    · subst g3
      have c0 := cell_of (i := 6) (v := .int .i64 (-1)) HC.out rfl
      have c1 := cell_of (i := 7) (v := .string ⟨#[127]⟩) HC.out rfl
      have I := awInt (-1) [127] (by decide +kernel) (by omega) (by omega)
      go_wp2_with fail
      refine (I _).mono ?_
      intro w1 hB1
      have HC1 := Lib.hid (show w1.heap[w.heap.size]? = _ from (hB1.block _ (by simp; omega)).trans ((Below.heap_alloc _ _ _ hlt).trans HC.out))
      have d1 := (hB1.cell (p := ⟨wr.heap.size, 1, none⟩) (by simp)).trans (cell_of (i := 1) (v := .string ⟨#[127]⟩) (alloc_here _ _) rfl)
      have HB1 := Lib.hid (show Below w.heap.size w w1 from Ext.trans (HB.out.alloc hz _) hB1)
      clear hB1 c0 c1
      go_wp2
      go_roundg (5 - 3)
      case measure => have := HJ.out; omega
      case rel => exact ⟨4, by omega, rfl, HC1.out, HB1.out⟩
    by_cases g4 : j = 4
    · subst g4
      have c0 := cell_of (i := 8) (v := .int .i64 (-2)) HC.out rfl
      have c1 := cell_of (i := 9) (v := .string ⟨#[126, 254]⟩) HC.out rfl
      have I := awInt (-2) [126, 254] (by decide +kernel) (by omega) (by omega)
      go_wp2_with fail
      refine (I _).mono ?_
      intro w1 hB1
      have HC1 := Lib.hid (show w1.heap[w.heap.size]? = _ from (hB1.block _ (by simp; omega)).trans ((Below.heap_alloc _ _ _ hlt).trans HC.out))
      have d1 := (hB1.cell (p := ⟨wr.heap.size, 1, none⟩) (by simp)).trans (cell_of (i := 1) (v := .string ⟨#[126, 254]⟩) (alloc_here _ _) rfl)
      have HB1 := Lib.hid (show Below w.heap.size w w1 from Ext.trans (HB.out.alloc hz _) hB1)
      clear hB1 c0 c1
      go_wp2
      go_roundg (5 - 4)
      case measure => have := HJ.out; omega
      case rel => exact ⟨5, by omega, rfl, HC1.out, HB1.out⟩
    by_cases g5 : j = 5
    · subst g5
      have c0 := cell_of (i := 10) (v := .int .i64 (-256)) HC.out rfl
      have c1 := cell_of (i := 11) (v := .string ⟨#[126, 0]⟩) HC.out rfl
      have I := awInt (-256) [126, 0] (by decide +kernel) (by omega) (by omega)
      go_wp2_with fail
      refine (I _).mono ?_
      intro w1 hB1
      have HC1 := Lib.hid (show w1.heap[w.heap.size]? = _ from (hB1.block _ (by simp; omega)).trans ((Below.heap_alloc _ _ _ hlt).trans HC.out))
      have d1 := (hB1.cell (p := ⟨wr.heap.size, 1, none⟩) (by simp)).trans (cell_of (i := 1) (v := .string ⟨#[126, 0]⟩) (alloc_here _ _) rfl)
      have HB1 := Lib.hid (show Below w.heap.size w w1 from Ext.trans (HB.out.alloc hz _) hB1)
      clear hB1 c0 c1
      go_wp2
      go_roundg (5 - 5)
      case measure => have := HJ.out; omega
      case rel => exact ⟨6, by omega, rfl, HC1.out, HB1.out⟩
    obtain rfl : j = 6 := by omega
    have HM1 := Lib.hid (HM.out.ext (HB.out.mono (Nat.le_refl _)))
    go_wp2_with fail
    refine (Text_a0 _ HM1.out).mono ?_
    intro w1 hB1
    have HB1 := Lib.hid (show Below w.heap.size w w1 from Ext.trans HB.out hB1)
    have hz1 := HB1.out.size
    clear hB1
    go_wp2_with fail
    refine (List_51 _ _ (alloc_here _ _)).mono ?_
    intro w2 hB2
    have HB2 := Lib.hid (show Below w.heap.size w w2 from Ext.trans (HB1.out.alloc hz1 _) hB2)
    clear hB2
    go_wp2
    go_ret
    exact ⟨rfl, HB2.out⟩

end Go.Proofs.YtpdmcikegcknlaaDoor
