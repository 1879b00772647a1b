/- Slices of integers; the checks of clocks. -/
import Derived.Test.YtaplbcmpjhdohaaRows
import Derived.Test.YtaplbcmpjhdohaaBase
import Derived.Test.YtaplbcmpjhdohaaISl
namespace Go.Proofs.Ytaplbcmpjhdohaa
open Go.RowKit
set_option linter.unusedVariables false

def bad (x : Int) : Bool := decide (x < 0) || decide (1099511627776 < x)
def chk (l : List Int) : Int := if 32 < l.length then 4 else if l.any bad = true then 2 else 0

theorem refCheck_any (l : List Int) (a : Option Addr) (cap : Nat) (w : World) (hl : l.length ≤ maxLen) (h : IntsAt w a l) :
    Gives Try.prog 34 #[.slice a l.length cap] w (.int .i64 (chk l)) := by
  unfold maxLen at hl
  by_cases h32 : 32 < l.length
  · have HV := Lib.hid (show chk l = 4 by unfold chk; rw [if_pos h32])
    have d : decide ((32 : Int) < ((l.length : Nat) : Int)) = true := by simp; omega
    unfold Gives
    go_enter Try.func34, Try.ntmps34
    go_wp2
    go_ret
    exact ⟨by rw [HV.out]; rfl, Below.refl _ _⟩
  · have d : decide ((32 : Int) < ((l.length : Nat) : Int)) = false := by simp; omega
    unfold Gives
    go_enter Try.func34, Try.ntmps34
    go_wp2
    go_loopw [3] (fun i wr => ∃ j : Nat, j ≤ l.length ∧ i = .int .i64 j ∧ (l.take j).any bad = false ∧ Below w.heap.size w wr) (fun i _ => l.length - (intOf i).toNat)
    case atStart => exact ⟨0, Nat.zero_le _, rfl, by simp, Below.refl _ _⟩
    case round =>
      obtain ⟨j, hj, rfl, hA, hB⟩ := hrel
      by_cases hlt : j < l.length
      · obtain ⟨b, off, rfl, hc⟩ := (h.below hB).at hlt
        have hs : l.take (j + 1) = l.take j ++ [l[j]] := List.take_succ_eq_append_getElem hlt
        have HN := Lib.hid (show l[j] ∈ l from List.getElem_mem hlt)
        have HS := Lib.hid (show (l.take (j + 1)).any bad = (bad l[j]) by rw [hs, List.any_append, hA]; simp)
        clear hs
        generalize l[j] = x at *
        by_cases h0 : x < 0
        · have HV := Lib.hid (show chk l = 2 by unfold chk; rw [if_neg h32, if_pos (List.any_eq_true.2 ⟨x, HN.out, by simp [bad, h0]⟩)])
          go_wp2
          go_ret
          exact ⟨by rw [HV.out]; rfl, hB⟩
        · by_cases h1 : 1099511627776 < x
          · have HV := Lib.hid (show chk l = 2 by unfold chk; rw [if_neg h32, if_pos (List.any_eq_true.2 ⟨x, HN.out, by simp [bad, h1]⟩)])
            go_wp2
            go_ret
            exact ⟨by rw [HV.out]; rfl, hB⟩
          · go_wp2
            go_roundw
            case rel => exact ⟨j + 1, by omega, by go_num, by rw [HS.out]; simp [bad]; omega, hB⟩
            case measure => simp [intOf]; omega
      · have hk : l.take j = l := List.take_of_length_le (by omega)
        rw [hk] at hA
        have HV := Lib.hid (show chk l = 0 by unfold chk; rw [if_neg h32, if_neg (by simp [hA])])
        clear hA
        go_wp2
        go_ret
        exact ⟨by rw [HV.out]; rfl, hB⟩

theorem check1_any (x : Int) (w : World) : Gives Try.prog 55 #[.int .i64 x] w (.bool (bad x)) := by
  have HV := Lib.hid (show bad x = (decide (x < 0) || decide (1099511627776 < x)) from rfl)
  unfold Gives
  by_cases h0 : x < 0
  · go_enter Try.func55, Try.ntmps55
    go_wp2
    go_ret
    exact ⟨by rw [HV.out]; simp; omega, Below.refl _ _⟩
  · go_enter Try.func55, Try.ntmps55
    go_wp2
    go_ret
    exact ⟨by rw [HV.out]; simp; omega, Below.refl _ _⟩

set_option maxHeartbeats 1000000 in
theorem indexBad_any (l : List Int) (a : Option Addr) (cap : Nat) (w : World) (hl : l.length ≤ maxLen) (h : IntsAt w a l) :
    Calls Try.prog 67 #[.slice a l.length cap, .func (.func 55) #[] #[]] w fun e w' => (∃ r : Int, e = .returned (.int .i64 r) ∧ decide (0 ≤ r) = l.any bad) ∧ Below w.heap.size w w' := by
  unfold maxLen at hl
  go_enter Try.func67, Try.ntmps67
  go_wp2
  go_loopw [8] (fun i wr => ∃ j : Nat, j ≤ l.length ∧ i = .int .i64 j ∧ (l.take j).any bad = false ∧ Below w.heap.size w wr) (fun i _ => l.length - (intOf i).toNat)
  case atStart => exact ⟨0, Nat.zero_le _, rfl, by simp, Below.refl _ _⟩
  case round =>
    obtain ⟨j, hj, rfl, hA, hB⟩ := hrel
    by_cases hlt : j < l.length
    · obtain ⟨b, off, rfl, hc⟩ := (h.below hB).at hlt
      have hs : l.take (j + 1) = l.take j ++ [l[j]] := List.take_succ_eq_append_getElem hlt
      have HN := Lib.hid (show l[j] ∈ l from List.getElem_mem hlt)
      have HS := Lib.hid (show (l.take (j + 1)).any bad = (bad l[j]) by rw [hs, List.any_append, hA]; simp)
      clear hs
      generalize l[j] = x at *
      have C := check1_any x
      cases hq : bad x with
      | true =>
        rw [hq] at C
        have HV := Lib.hid (show l.any bad = true from List.any_eq_true.2 ⟨x, HN.out, hq⟩)
        go_wp2_with fail
        refine (C _).mono ?_
        intro w2 hB2
        go_wp2
        go_ret
        exact ⟨⟨_, rfl, by rw [HV.out]; simp⟩, hB.trans (hB2.mono hB.size)⟩
      | false =>
        rw [hq] at C
        go_wp2_with fail
        refine (C _).mono ?_
        intro w2 hB2
        go_wp2
        go_roundw
        case rel => exact ⟨j + 1, by omega, by go_num, by rw [HS.out, hq], hB.trans (hB2.mono hB.size)⟩
        case measure => simp [intOf]; omega
    · have hk : l.take j = l := List.take_of_length_le (by omega)
      rw [hk] at hA
      have HA := Lib.hid hA
      clear hA
      go_wp2
      go_ret
      exact ⟨⟨_, rfl, by rw [HA.out]; simp⟩, hB⟩

end Go.Proofs.Ytaplbcmpjhdohaa
