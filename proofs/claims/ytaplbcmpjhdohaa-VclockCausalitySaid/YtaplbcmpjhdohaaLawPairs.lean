/- VclockPairs: the walk. -/
import Derived.Test.YtaplbcmpjhdohaaVc5
namespace Go.Proofs.Ytaplbcmpjhdohaa
open Go.RowKit
set_option linter.unusedVariables false

theorem bothV_len (op : Int → Int → Int) (l m : List Int) : (bothV op l m).length ≤ l.length := by
  unfold bothV
  split
  · simp
  · rw [List.length_zipWith]; omega
theorem sameL (l : List Int) (a b : Option Addr) (c c' : Nat) (w : World) (hl : l.length ≤ 34) (h : IntsAt w a l) (h' : IntsAt w b l) :
    Gives Try.prog 16 #[.slice a l.length c, .slice b l.length c'] w (.bool true) := by
  have := Same_any l l a b c c' w (by unfold maxLen; omega) (by unfold maxLen; omega) h h'
  rw [show (l == l) = true by simp] at this
  exact this
theorem great2 (a b : Option Addr) (n m c c' : Nat) (w : World) (t : TypeId) :
    Gives Try.prog 10 #[.slice (some ⟨w.heap.size, 0, none⟩) 2 2] (w.alloc (.cells #[.slice a n c, .slice b m c'] t)) (.bool (longB (a, n, c) || longB (b, m, c'))) := by
  have := great_any [(a, n, c), (b, m, c')] w.heap.size 2 (w.alloc (.cells #[.slice a n c, .slice b m c'] t)) (by simp) (fun i hi => by
    match i, hi with
    | 0, _ => exact cell_of (alloc_here _ _) rfl
    | 1, _ => exact cell_of (alloc_here _ _) rfl)
  rw [show ([(a, n, c), (b, m, c')] : List (Option Addr × Nat × Nat)).any longB = (longB (a, n, c) || longB (b, m, c')) by simp] at this
  exact this

set_option maxRecDepth 100000 in
set_option maxHeartbeats 4000000 in
theorem pairs_main (l m : List Int) (a b : Option Addr) (c c' : Nat) (w : World) (hl : l.length ≤ 34) (hm : m.length ≤ 34) (ha : a = none → c = 0) (h : IntsAt w a l) (h' : IntsAt w b m) :
    Gives Try.prog 3 #[.slice a l.length c, .slice b m.length c'] w (.bool true) := by
  have G := great2 a b l.length m.length c c' w 23
  rw [show (longB (a, l.length, c) || longB (b, m.length, c')) = false by simp [longB]; omega] at G
  have hl' : l.length ≤ maxLen := by unfold maxLen; omega
  have hm' : m.length ≤ maxLen := by unfold maxLen; omega
  have J := Lib.hid (fun w' (hB : Below w.heap.size w w') => Join_any l m a b c c' w' hl' hm' (h.below hB) (h'.below hB))
  have RJ := Lib.hid (fun w' (hB : Below w.heap.size w w') => refJoin_any l m a b c c' w' hl' hm' ha (h.below hB) (h'.below hB))
  have M := Lib.hid (fun w' (hB : Below w.heap.size w w') => Meet_any l m a b c c' w' hl' hm' (h.below hB) (h'.below hB))
  have RM := Lib.hid (fun w' (hB : Below w.heap.size w w') => refMeet_any l m a b c c' w' hl' hm' ha (h.below hB) (h'.below hB))
  have K := Lib.hid (fun w' (hB : Below w.heap.size w w') => Compare_any l m a b c c' w' hl' hm' (h.below hB) (h'.below hB))
  have RK := Lib.hid (fun w' (hB : Below w.heap.size w w') => refCompare_any l m a b c c' w' hl' hm' (h.below hB) (h'.below hB))
  have L1 : (bothV max l m).length ≤ 34 := Nat.le_trans (bothV_len _ _ _) hl
  have L2 : (bothV min l m).length ≤ 34 := Nat.le_trans (bothV_len _ _ _) hl
  have L1 := Lib.hid L1
  have L2 := Lib.hid L2
  clear h h' hl' hm' ha
  generalize bothV max l m = p at *
  generalize bothV min l m = q at *
  generalize bothE l m = er at *
  generalize cmpV l m = k at *
  unfold Gives
  go_enter Try.func3, Try.ntmps3
  go_wp2_with fail
  refine G.mono ?_
  intro w0 hB0
  have hE0 := Lib.hid (show Ext w w0 from Ext.trans (show Ext w (w.alloc (.cells #[.slice a l.length c, .slice b m.length c'] 23)) from (Below.refl _ w).alloc (Nat.le_refl _) _) hB0)
  clear hB0 G
  go_wp2_with fail
  refine (J.out _ hE0.out).mono ?_
  rintro e w1 ⟨⟨x1, d1, rfl, hX1⟩, hB1⟩
  have hE1 := Lib.hid (Ext.trans hE0.out hB1)
  have HX1 := Lib.hid hX1
  clear hE0 hB1 hX1
  go_wp2_with fail
  refine (RJ.out _ hE1.out).mono ?_
  rintro e w2 ⟨⟨x2, d2, rfl, hX2⟩, hB2⟩
  have hE2 := Lib.hid (Ext.trans hE1.out hB2)
  have HX1 := Lib.hid (HX1.out.below hB2)
  have HX2 := Lib.hid hX2
  clear hE1 hB2 hX2
  go_wp2_with fail
  refine (M.out _ hE2.out).mono ?_
  rintro e w3 ⟨⟨x3, d3, rfl, hX3⟩, hB3⟩
  have hE3 := Lib.hid (Ext.trans hE2.out hB3)
  have HX1 := Lib.hid (HX1.out.below hB3)
  have HX2 := Lib.hid (HX2.out.below hB3)
  have HX3 := Lib.hid hX3
  clear hE2 hB3 hX3
  go_wp2_with fail
  refine (RM.out _ hE3.out).mono ?_
  rintro e w4 ⟨⟨x4, d4, rfl, hX4⟩, hB4⟩
  have hE4 := Lib.hid (Ext.trans hE3.out hB4)
  have HX1 := Lib.hid (HX1.out.below hB4)
  have HX2 := Lib.hid (HX2.out.below hB4)
  have HX3 := Lib.hid (HX3.out.below hB4)
  have HX4 := Lib.hid hX4
  clear hE3 hB4 hX4
  go_wp2_with fail
  refine (sameL p _ _ _ _ _ L1.out HX1.out HX2.out).mono ?_
  intro w5 hB5
  have hE5 := Lib.hid (Ext.trans hE4.out hB5)
  have HX3 := Lib.hid (HX3.out.below hB5)
  have HX4 := Lib.hid (HX4.out.below hB5)
  clear hE4 hB5
  go_wp2_with fail
  refine (sameL q _ _ _ _ _ L2.out HX3.out HX4.out).mono ?_
  intro w6 hB6
  have hE6 := Lib.hid (Ext.trans hE5.out hB6)
  clear hE5 hB6
  go_wp2_with fail
  refine (K.out _ hE6.out).mono ?_
  intro w7 hB7
  have hE7 := Lib.hid (Ext.trans hE6.out hB7)
  clear hE6 hB7
  go_wp2_with fail
  refine (RK.out _ hE7.out).mono ?_
  intro w8 hB8
  have hE8 := Lib.hid (Ext.trans hE7.out hB8)
  clear hE7 hB8
  go_wp2_with fail
  refine (awake_any _).mono ?_
  intro w9 hB9
  have hE9 := Lib.hid (Ext.trans hE8.out hB9)
  clear hE8 hB9
  go_wp2
  go_ret
  exact ⟨rfl, hE9.out⟩

set_option maxRecDepth 100000 in
theorem vclockPairs_walk (a0 : Option Addr) (len0 cap0 : Nat) (z0 : List Int) (a1 : Option Addr) (len1 cap1 : Nat) (z1 : List Int) (w : World) (w0 : IsRow .i64 w a0 len0 cap0 z0) (w1 : IsRow .i64 w a1 len1 cap1 z1) :
    Gives Try.prog 3 #[.slice a0 len0 cap0, .slice a1 len1 cap1] w (.bool true) := by
  have ha : a0 = none → cap0 = 0 := by
    rcases w0 with ⟨rfl, rfl, rfl, rfl⟩ | ⟨x, rfl, _⟩
    · exact fun _ => rfl
    · exact fun h => by cases h
  obtain ⟨l, rfl, hl, h, _⟩ := w0.ints
  obtain ⟨m, rfl, hm, h', _⟩ := w1.ints
  by_cases h5 : l.length ≤ 34 ∧ m.length ≤ 34
  · exact pairs_main l m a0 a1 cap0 cap1 w h5.1 h5.2 ha h h'
  · have G := great2 a0 a1 l.length m.length cap0 cap1 w 23
    rw [show (longB (a0, l.length, cap0) || longB (a1, m.length, cap1)) = true by simp [longB]; omega] at G
    clear w0 w1 h h' ha hl hm h5
    unfold Gives
    go_enter Try.func3, Try.ntmps3
    go_wp2_with fail
    refine G.mono ?_
    intro w0 hB0
    have hE0 := Lib.hid (show Ext w w0 from Ext.trans (show Ext w (w.alloc (.cells #[.slice a0 l.length cap0, .slice a1 m.length cap1] 23)) from (Below.refl _ w).alloc (Nat.le_refl _) _) hB0)
    clear hB0 G
    go_wp2_with fail
    refine (awake_any _).mono ?_
    intro w9 hB9
    have hE9 := Lib.hid (Ext.trans hE0.out hB9)
    clear hE0 hB9
    go_wp2
    go_ret
    exact ⟨rfl, hE9.out⟩

end Go.Proofs.Ytaplbcmpjhdohaa
