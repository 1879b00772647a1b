/- The reference's Same of integers. -/
import Derived.Test.YtfkjokbhnblndaaGreatDoorPgB
import Derived.Test.YtfkjokbhnblndaaGreatDoorRegion
namespace Go.Proofs.YtfkjokbhnblndaaGreatDoor
open Go.RowKit
set_option linter.unusedVariables false
set_option linter.unusedSimpArgs false

set_option maxHeartbeats 1000000 in
theorem sameI_any (l m : List Int) (a b : Option Addr) (cap cap' : Nat) (w : World) (hl : l.length ≤ maxLen) (hm : m.length ≤ maxLen) (h : IntsAt w a l) (h' : IntsAt w b m) :
    Gives Tryz.prog 75 #[.slice a l.length cap, .slice b m.length cap'] w (.bool (l == m)) := by
  unfold maxLen at hl hm
  by_cases q : l.length = m.length
  · have hq : (((l.length : Nat) : Int) != ((m.length : Nat) : Int)) = false := by simp [q]
    have HL := Lib.hid q
    clear q
    unfold Gives
    go_enter Tryz.func75, Tryz.ntmps75
    go_wp2
    go_loopw [5] (fun i wr => ∃ j : Nat, j ≤ l.length ∧ i = .int .i64 j ∧ (∀ i (hi : i < l.length) (hi2 : i < m.length), i < j → l[i] = m[i]) ∧ Below w.heap.size w wr) (fun i _ => l.length - (intOf i).toNat)
    case atStart => exact ⟨0, Nat.zero_le _, rfl, fun i _ _ h0 => absurd h0 (Nat.not_lt_zero _), Below.refl _ _⟩
    case round =>
      obtain ⟨j, hj, rfl, hA, hB⟩ := hrel
      have HA := Lib.hid hA
      clear hA
      by_cases hlt : j < l.length
      · obtain ⟨b1, o1, rfl, hc1⟩ := (h.below hB).at hlt
        have hlt2 : j < m.length := by have := HL.out; omega
        obtain ⟨b2, o2, rfl, hc2⟩ := (h'.below hB).at hlt2
        have HF := Lib.hid (show l[j] ≠ m[j] → (l == m) = false from fun h0 => by
          rw [beq_eq_false_iff_ne]
          rintro rfl
          exact h0 rfl)
        have HT := Lib.hid (show l[j] = m[j] → ∀ i (hi : i < l.length) (hi2 : i < m.length), i < j + 1 → l[i] = m[i] from fun h0 i hi hi2 hij => by
          rcases Nat.lt_succ_iff_lt_or_eq.1 hij with h1 | h1
          · exact HA.out i hi hi2 h1
          · subst h1; exact h0)
        generalize l[j] = x at *
        generalize m[j] = y at *
        by_cases h0 : x = y
        · have hq2 : (x != y) = false := by simp [h0]
          go_wp2
          go_quiet (fail)
          go_wp2
          go_roundw
          case rel => exact ⟨j + 1, by omega, by go_num, HT.out h0, Ext.drewN' hB⟩
          case measure => simp [intOf]; omega
        · have hq2 : (x != y) = true := by rw [bne_iff_ne]; exact h0
          go_wp2
          go_quiet (fail)
          go_wp2
          go_ret
          exact ⟨by rw [HF.out h0]; rfl, Ext.drewN' hB⟩
      · have HV := Lib.hid (show (l == m) = true by
          rw [beq_iff_eq]
          exact List.ext_getElem HL.out (fun i h1 h2 => HA.out i h1 h2 (by omega)))
        go_wp2
        go_ret
        exact ⟨by rw [HV.out]; rfl, hB⟩
  · have hq : (((l.length : Nat) : Int) != ((m.length : Nat) : Int)) = true := by rw [bne_iff_ne]; omega
    have HV := Lib.hid (show (l == m) = false by rw [beq_eq_false_iff_ne]; rintro rfl; exact q rfl)
    clear q
    unfold Gives
    go_enter Tryz.func75, Tryz.ntmps75
    go_wp2
    go_ret
    exact ⟨by rw [HV.out]; rfl, Below.refl _ _⟩

end Go.Proofs.YtfkjokbhnblndaaGreatDoor
