/- Clocks: checks and comparisons. -/
import Derived.Test.YtaplbcmpjhdohaaInts
import Derived.Deep.QuietTactic
namespace Go.Proofs.Ytaplbcmpjhdohaa
open Go.RowKit
set_option linter.unusedVariables false

theorem containsBad_any (l : List Int) (a : Option Addr) (cap : Nat) (w : World) (hl : l.length ≤ maxLen) (h : IntsAt w a l) :
    Gives Try.prog 54 #[.slice a l.length cap, .func (.func 55) #[] #[]] w (.bool (l.any bad)) := by
  unfold Gives
  have C := indexBad_any l a cap w hl h
  go_enter Try.func54, Try.ntmps54
  go_wp2_with fail
  refine C.mono ?_
  rintro e w1 ⟨⟨r, rfl, hr⟩, hB⟩
  have HR := Lib.hid hr
  clear hr
  go_wp2
  go_ret
  exact ⟨by rw [← HR.out]; rfl, hB⟩

theorem Check_any (l : List Int) (a : Option Addr) (cap : Nat) (w : World) (hl : l.length ≤ maxLen) (h : IntsAt w a l) :
    Gives Try.prog 32 #[.slice a l.length cap] w (.int .i64 (chk l)) := by
  have C := containsBad_any l a cap w hl h
  unfold maxLen at hl
  unfold Gives
  by_cases h32 : 32 < l.length
  · have HV := Lib.hid (show chk l = 4 by unfold chk; rw [if_pos h32])
    have d : decide ((32 : Int) < ((l.length : Nat) : Int)) = true := by simp; omega
    go_enter Try.func32, Try.ntmps32
    go_wp2
    go_ret
    exact ⟨by rw [HV.out]; rfl, Below.refl _ _⟩
  · have d : decide ((32 : Int) < ((l.length : Nat) : Int)) = false := by simp; omega
    cases hq : l.any bad with
    | true =>
      have HV := Lib.hid (show chk l = 2 by unfold chk; rw [if_neg h32, if_pos hq])
      rw [hq] at C
      go_enter Try.func32, Try.ntmps32
      go_wp2_with fail
      refine C.mono ?_
      intro w1 hB
      go_wp2
      go_ret
      exact ⟨by rw [HV.out]; rfl, hB⟩
    | false =>
      have HV := Lib.hid (show chk l = 0 by unfold chk; rw [if_neg h32, if_neg (by simp [hq])])
      rw [hq] at C
      go_enter Try.func32, Try.ntmps32
      go_wp2_with fail
      refine C.mono ?_
      intro w1 hB
      go_wp2
      go_ret
      exact ⟨by rw [HV.out]; rfl, hB⟩

theorem valid_any (l : List Int) (a : Option Addr) (cap : Nat) (w : World) (hl : l.length ≤ maxLen) (h : IntsAt w a l) :
    Gives Try.prog 46 #[.slice a l.length cap] w (.bool (chk l == 0)) := by
  have C := Check_any l a cap w hl h
  unfold Gives
  go_enter Try.func46, Try.ntmps46
  go_wp2_with fail
  refine C.mono ?_
  intro w1 hB
  go_wp2
  go_ret
  exact ⟨rfl, hB⟩

def leB (l m : List Int) : Bool := (List.range l.length).all fun i => decide (l.getD i 0 ≤ m.getD i 0)
theorem leB_false {l m : List Int} {j : Nat} (h : j < l.length) (hm : j < m.length) (hv : m[j] < l[j]) : leB l m = false := by
  unfold leB
  rw [List.all_eq_false]
  refine ⟨j, List.mem_range.2 h, ?_⟩
  simp [List.getD_eq_getElem?_getD, h, hm]; omega
theorem leB_true {l m : List Int} (hlm : l.length = m.length) (h : ∀ i (hi : i < l.length), l[i] ≤ m[i]'(by omega)) : leB l m = true := by
  unfold leB
  rw [List.all_eq_true]
  intro i hi
  have hi := List.mem_range.1 hi
  have := h i hi
  simp [List.getD_eq_getElem?_getD, hi, show i < m.length by omega]; exact this

set_option maxHeartbeats 1000000 in
theorem atMost_any (l m : List Int) (a b : Option Addr) (cap cap' : Nat) (w : World) (hl : l.length ≤ maxLen) (hlm : l.length = m.length) (h : IntsAt w a l) (h' : IntsAt w b m) :
    Gives Try.prog 47 #[.slice a l.length cap, .slice b m.length cap'] w (.bool (leB l m)) := by
  unfold maxLen at hl
  unfold Gives
  go_enter Try.func47, Try.ntmps47
  go_wp2
  go_loopw [9] (fun i wr => ∃ j : Nat, j ≤ l.length ∧ i = .int .i64 j ∧ (∀ i (hi : i < l.length), i < j → l[i] ≤ m[i]'(by omega)) ∧ Below w.heap.size w wr) (fun i _ => l.length - (intOf i).toNat)
  case atStart => exact ⟨0, Nat.zero_le _, rfl, fun i _ h0 => absurd h0 (Nat.not_lt_zero _), Below.refl _ _⟩
  case round =>
    obtain ⟨j, hj, rfl, hA, hB⟩ := hrel
    have HA := Lib.hid hA
    clear hA
    by_cases hlt : j < l.length
    · obtain ⟨b1, o1, rfl, hc1⟩ := (h.below hB).at hlt
      have hlt2 : j < m.length := by omega
      obtain ⟨b2, o2, rfl, hc2⟩ := (h'.below hB).at hlt2
      have HF := Lib.hid (leB_false (l := l) (m := m) hlt hlt2)
      have HT := Lib.hid (show l[j] ≤ m[j] → ∀ i (hi : i < l.length), i < j + 1 → l[i] ≤ m[i]'(by omega) from fun h0 i hi hij => by
        rcases Nat.lt_succ_iff_lt_or_eq.1 hij with h1 | h1
        · exact HA.out i hi h1
        · subst h1; exact h0)
      generalize l[j] = x at *
      generalize m[j] = y at *
      by_cases h0 : y < x
      · go_wp2
        go_ret
        exact ⟨by rw [HF.out h0]; rfl, hB⟩
      · go_wp2
        go_roundw
        case rel => exact ⟨j + 1, by omega, by go_num, HT.out (by omega), hB⟩
        case measure => simp [intOf]; omega
    · go_wp2
      go_ret
      exact ⟨by rw [leB_true hlm fun i hi => HA.out i hi (by omega)]; rfl, hB⟩

set_option maxHeartbeats 1000000 in
theorem lessOrEqual_any (l m : List Int) (a b : Option Addr) (cap cap' : Nat) (w : World) (hl : l.length ≤ maxLen) (hlm : l.length = m.length) (h : IntsAt w a l) (h' : IntsAt w b m) :
    Gives Try.prog 48 #[.slice a l.length cap, .slice b m.length cap'] w (.bool (leB l m)) := by
  unfold maxLen at hl
  have HL := Lib.hid hlm
  clear hlm
  unfold Gives
  go_enter Try.func48, Try.ntmps48
  go_wp2
  go_loopw [5] (fun i wr => ∃ j : Nat, j ≤ l.length ∧ i = .int .i64 j ∧ (∀ i (hi : i < l.length) (hi2 : i < m.length), i < j → l[i] ≤ m[i]) ∧ Below w.heap.size w wr) (fun i _ => l.length - (intOf i).toNat)
  case atStart => exact ⟨0, Nat.zero_le _, rfl, fun i _ _ h0 => absurd h0 (Nat.not_lt_zero _), Below.refl _ _⟩
  case round =>
    obtain ⟨j, hj, rfl, hA, hB⟩ := hrel
    have HA := Lib.hid hA
    clear hA
    by_cases hlt : j < l.length
    · obtain ⟨b1, o1, rfl, hc1⟩ := (h.below hB).at hlt
      have hlt2 : j < m.length := by have := HL.out; omega
      obtain ⟨b2, o2, rfl, hc2⟩ := (h'.below hB).at hlt2
      have HF := Lib.hid (leB_false (l := l) (m := m) hlt hlt2)
      have HT := Lib.hid (show l[j] ≤ m[j] → ∀ i (hi : i < l.length) (hi2 : i < m.length), i < j + 1 → l[i] ≤ m[i] from fun h0 i hi hi2 hij => by
        rcases Nat.lt_succ_iff_lt_or_eq.1 hij with h1 | h1
        · exact HA.out i hi hi2 h1
        · subst h1; exact h0)
      generalize l[j] = x at *
      generalize m[j] = y at *
      by_cases h0 : y < x
      · go_wp2
        go_quiet (fail)
        go_wp2
        go_ret
        exact ⟨by rw [HF.out h0]; rfl, Ext.drewN' hB⟩
      · go_wp2
        go_quiet (fail)
        go_wp2
        go_roundw
        case rel => exact ⟨j + 1, by omega, by go_num, HT.out (by omega), Ext.drewN' hB⟩
        case measure => simp [intOf]; omega
    · go_wp2
      go_ret
      exact ⟨by rw [leB_true HL.out fun i hi => HA.out i hi (by have := HL.out; omega) (by omega)]; rfl, hB⟩

end Go.Proofs.Ytaplbcmpjhdohaa
