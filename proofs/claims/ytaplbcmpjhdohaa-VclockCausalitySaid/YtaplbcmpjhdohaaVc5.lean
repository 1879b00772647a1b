/- The laws of clocks: great, awake. -/
import Derived.Test.YtaplbcmpjhdohaaVc4
namespace Go.Proofs.Ytaplbcmpjhdohaa
open Go.RowKit
set_option linter.unusedVariables false

/-- a slice's value, by its address, length and capacity -/
def slV (p : Option Addr × Nat × Nat) : Value := .slice p.1 p.2.1 p.2.2
def longB (p : Option Addr × Nat × Nat) : Bool := decide ((34 : Int) < (p.2.1 : Int))

theorem great1_any (p : Option Addr × Nat × Nat) (w : World) : Gives Try.prog 40 #[slV p] w (.bool (longB p)) := by
  obtain ⟨a, n, c⟩ := p
  unfold Gives slV longB
  simp only
  go_enter Try.func40, Try.ntmps40
  go_wp2
  go_ret
  exact ⟨rfl, Below.refl _ _⟩

set_option maxHeartbeats 1000000 in
theorem indexGreat_any (L : List (Option Addr × Nat × Nat)) (g cap : Nat) (w : World) (hl : L.length ≤ 1000) (h : ∀ i (hi : i < L.length), w.cell? ⟨g, i, none⟩ = some (slV L[i])) :
    Calls Try.prog 58 #[.slice (some ⟨g, 0, none⟩) L.length cap, .func (.func 40) #[] #[]] w fun e w' => (∃ r : Int, e = .returned (.int .i64 r) ∧ decide (0 ≤ r) = L.any longB) ∧ Below w.heap.size w w' := by
  go_enter Try.func58, Try.ntmps58
  go_wp2
  go_loopw [8] (fun i wr => ∃ j : Nat, j ≤ L.length ∧ i = .int .i64 j ∧ (L.take j).any longB = false ∧ Below w.heap.size w wr) (fun i _ => L.length - (intOf i).toNat)
  case atStart => exact ⟨0, Nat.zero_le _, rfl, by simp, Below.refl _ _⟩
  case round =>
    obtain ⟨j, hj, rfl, hA, hB⟩ := hrel
    by_cases hlt : j < L.length
    · have hc0 := h j hlt
      have hc := (hB.cell (p := ⟨g, j, none⟩) (cell_lt hc0)).trans hc0
      have hs : L.take (j + 1) = L.take j ++ [L[j]] := List.take_succ_eq_append_getElem hlt
      have HN := Lib.hid (show L[j] ∈ L from List.getElem_mem hlt)
      have HS := Lib.hid (show (L.take (j + 1)).any longB = (longB L[j]) by rw [hs, List.any_append, hA]; simp)
      clear hs hc0
      generalize L[j] = x at *
      have C := great1_any x
      cases hq : longB x with
      | true =>
        rw [hq] at C
        have HV := Lib.hid (show L.any longB = true from List.any_eq_true.2 ⟨x, HN.out, hq⟩)
        go_wp2_with fail
        refine (C _).mono ?_
        intro w2 hB2
        go_wp2
        go_ret
        exact ⟨⟨_, rfl, by rw [HV.out]; simp⟩, hB.trans (hB2.mono hB.size)⟩
      | false =>
        rw [hq] at C
        go_wp2_with fail
        refine (C _).mono ?_
        intro w2 hB2
        go_wp2
        go_roundw
        case rel => exact ⟨j + 1, by omega, by go_num, by rw [HS.out, hq], hB.trans (hB2.mono hB.size)⟩
        case measure => simp [intOf]; omega
    · have hk : L.take j = L := List.take_of_length_le (by omega)
      rw [hk] at hA
      have HA := Lib.hid hA
      clear hA
      go_wp2
      go_ret
      exact ⟨⟨_, rfl, by rw [HA.out]; simp⟩, hB⟩

theorem great_any (L : List (Option Addr × Nat × Nat)) (g cap : Nat) (w : World) (hl : L.length ≤ 1000) (h : ∀ i (hi : i < L.length), w.cell? ⟨g, i, none⟩ = some (slV L[i])) :
    Gives Try.prog 10 #[.slice (some ⟨g, 0, none⟩) L.length cap] w (.bool (L.any longB)) := by
  have C : Gives Try.prog 39 #[.slice (some ⟨g, 0, none⟩) L.length cap, .func (.func 40) #[] #[]] w (.bool (L.any longB)) := by
    have C := indexGreat_any L g cap w hl h
    unfold Gives
    go_enter Try.func39, Try.ntmps39
    go_wp2_with fail
    refine C.mono ?_
    rintro e w1 ⟨⟨r, rfl, hr⟩, hB⟩
    have HR := Lib.hid hr
    clear hr
    go_wp2
    go_ret
    exact ⟨by rw [← HR.out]; rfl, hB⟩
  unfold Gives
  generalize L.any longB = r at *
  go_enter Try.func10, Try.ntmps10
  go_wp2_with fail
  refine C.mono ?_
  intro w1 hB
  go_wp2
  go_ret
  exact ⟨rfl, hB⟩

theorem ints_lit (w : World) (l : List Int) (cs : Array Value) (t : TypeId) (h : ∀ i (hi : i < l.length), cs[i]? = some (.int .i64 l[i])) : IntsAt (w.alloc (.cells cs t)) (some ⟨w.heap.size, 0, none⟩) l := fun i hi =>
  ⟨_, _, rfl, by rw [Nat.zero_add]; exact cell_of (alloc_here _ _) (h i hi)⟩
theorem ints2 (w : World) (x y : Int) (t : TypeId) : IntsAt (w.alloc (.cells #[.int .i64 x, .int .i64 y] t)) (some ⟨w.heap.size, 0, none⟩) [x, y] :=
  ints_lit w _ _ t (fun i hi => by
    match i, hi with
    | 0, _ => rfl
    | 1, _ => rfl)

theorem awJ (w : World) (a b : Option Addr) (h : IntsAt w a [1, 2]) (h' : IntsAt w b [2, 1]) : GivesL Try.prog 12 #[.slice a 2 2, .slice b 2 2] w [2, 2] 0 := by
  have := Join_any [1, 2] [2, 1] a b 2 2 w (by unfold maxLen; simp) (by unfold maxLen; simp) h h'
  rw [show bothV max [1, 2] [2, 1] = [2, 2] by decide +kernel, show bothE [1, 2] [2, 1] = 0 by decide +kernel] at this
  exact this
theorem awM (w : World) (a b : Option Addr) (h : IntsAt w a [1, 2]) (h' : IntsAt w b [2, 1]) : GivesL Try.prog 14 #[.slice a 2 2, .slice b 2 2] w [1, 1] 0 := by
  have := Meet_any [1, 2] [2, 1] a b 2 2 w (by unfold maxLen; simp) (by unfold maxLen; simp) h h'
  rw [show bothV min [1, 2] [2, 1] = [1, 1] by decide +kernel, show bothE [1, 2] [2, 1] = 0 by decide +kernel] at this
  exact this
theorem awS (w : World) (x : Int) (a b : Option Addr) (c c' : Nat) (h : IntsAt w a [x, x]) (h' : IntsAt w b [x, x]) : Gives Try.prog 16 #[.slice a 2 c, .slice b 2 c'] w (.bool true) := by
  have := Same_any [x, x] [x, x] a b c c' w (by unfold maxLen; simp) (by unfold maxLen; simp) h h'
  rw [show ([x, x] == [x, x]) = true by simp] at this
  exact this
theorem awC (w : World) (a b : Option Addr) (c c' : Nat) (h : IntsAt w a [1, 2]) (h' : IntsAt w b [2, 1]) : Gives Try.prog 17 #[.slice a 2 c, .slice b 2 c'] w (.int .i64 3) := by
  have := Compare_any [1, 2] [2, 1] a b c c' w (by unfold maxLen; simp) (by unfold maxLen; simp) h h'
  rw [show cmpV [1, 2] [2, 1] = 3 by decide +kernel] at this
  exact this
theorem awC1 (w : World) (a b : Option Addr) (c c' : Nat) (h : IntsAt w a [1, 2]) (h' : IntsAt w b [1, 3]) : Gives Try.prog 17 #[.slice a 2 c, .slice b 2 c'] w (.int .i64 1) := by
  have := Compare_any [1, 2] [1, 3] a b c c' w (by unfold maxLen; simp) (by unfold maxLen; simp) h h'
  rw [show cmpV [1, 2] [1, 3] = 1 by decide +kernel] at this
  exact this
theorem ints_alloc {w : World} {a : Option Addr} {l : List Int} (h : IntsAt w a l) (o : Obj) : IntsAt (w.alloc o) a l := h.below ((Below.refl _ _).alloc (Nat.le_refl _) _)

set_option maxRecDepth 100000 in
set_option maxHeartbeats 4000000 in
theorem awake_any (w : World) : Gives Try.prog 11 #[] w (.bool true) := by
  have IA := Lib.hid (ints_alloc (ints2 w 1 2 3) (.cells #[.int .i64 2, .int .i64 1] 3))
  have IB := Lib.hid (ints2 (w.alloc (.cells #[.int .i64 1, .int .i64 2] 3)) 2 1 3)
  have hB0 := Lib.hid (show Ext w ((w.alloc (.cells #[.int .i64 1, .int .i64 2] 3)).alloc (.cells #[.int .i64 2, .int .i64 1] 3)) from (((Below.refl _ w).alloc (Nat.le_refl _) _).alloc (by simp) _))
  unfold Gives
  go_enter Try.func11, Try.ntmps11
  go_wp2_with fail
  rw [show (w.alloc (.cells #[.int .i64 1, .int .i64 2] 3)).heap.size = w.heap.size + 1 by simp] at IB
  generalize hw1 : (w.alloc (.cells #[.int .i64 1, .int .i64 2] 3)).alloc (.cells #[.int .i64 2, .int .i64 1] 3) = w1 at *
  generalize w.heap.size = g at *
  clear hw1
  refine (awJ _ _ _ IA.out IB.out).mono ?_
  rintro e w2 ⟨⟨x, c, rfl, hX⟩, hB2⟩
  have HX := Lib.hid hX
  have IA2 := Lib.hid (IA.out.below hB2)
  have IB2 := Lib.hid (IB.out.below hB2)
  have hE2 := Lib.hid (Ext.trans hB0.out hB2)
  clear IA IB hB0 hX hB2
  go_wp2_with fail
  refine (awM _ _ _ IA2.out IB2.out).mono ?_
  rintro e w3 ⟨⟨y, d, rfl, hY⟩, hB3⟩
  have HY := Lib.hid hY
  have HX3 := Lib.hid (HX.out.below hB3)
  have IA3 := Lib.hid (IA2.out.below hB3)
  have IB3 := Lib.hid (IB2.out.below hB3)
  have hE3 := Lib.hid (Ext.trans hE2.out hB3)
  clear IA2 IB2 hE2 HX hY hB3
  go_wp2_with fail
  refine (awS _ 2 _ _ _ _ (ints_alloc HX3.out _) (ints2 w3 2 2 3)).mono ?_
  intro w4 hB4
  have hB4 := Ext.trans (show Ext w3 (w3.alloc (.cells #[.int .i64 2, .int .i64 2] 3)) from (Below.refl _ w3).alloc (Nat.le_refl _) _) hB4
  have HY4 := Lib.hid (HY.out.below hB4)
  have IA4 := Lib.hid (IA3.out.below hB4)
  have IB4 := Lib.hid (IB3.out.below hB4)
  have hE4 := Lib.hid (Ext.trans hE3.out hB4)
  clear IA3 IB3 hE3 HX3 HY hB4
  go_wp2_with fail
  refine (awS _ 1 _ _ _ _ (ints_alloc HY4.out _) (ints2 w4 1 1 3)).mono ?_
  intro w5 hB5
  have hB5 := Ext.trans (show Ext w4 (w4.alloc (.cells #[.int .i64 1, .int .i64 1] 3)) from (Below.refl _ w4).alloc (Nat.le_refl _) _) hB5
  have IA5 := Lib.hid (IA4.out.below hB5)
  have IB5 := Lib.hid (IB4.out.below hB5)
  have hE5 := Lib.hid (Ext.trans hE4.out hB5)
  clear IA4 IB4 hE4 HY4 hB5
  go_wp2_with fail
  refine (awC _ _ _ _ _ IA5.out IB5.out).mono ?_
  intro w6 hB6
  have IA6 := Lib.hid (IA5.out.below hB6)
  have hE6 := Lib.hid (Ext.trans hE5.out hB6)
  clear IA5 IB5 hE5 hB6
  go_wp2_with fail
  refine (awC1 _ _ _ _ _ (ints_alloc IA6.out _) (ints2 w6 1 3 3)).mono ?_
  intro w7 hB7
  have hE7 := Lib.hid (Ext.trans (Ext.trans hE6.out (show Ext w6 (w6.alloc (.cells #[.int .i64 1, .int .i64 3] 3)) from (Below.refl _ w6).alloc (Nat.le_refl _) _)) hB7)
  clear hE6 IA6 hB7
  go_wp2
  go_ret
  exact ⟨rfl, hE7.out⟩

end Go.Proofs.Ytaplbcmpjhdohaa
