/- Clocks: Compare, Same. -/
import Derived.Test.YtaplbcmpjhdohaaVc
namespace Go.Proofs.Ytaplbcmpjhdohaa
open Go.RowKit
set_option linter.unusedVariables false

def cmpV (l m : List Int) : Int := if chk l ≠ 0 ∨ chk m ≠ 0 ∨ l.length ≠ m.length then 3 else if leB l m = true ∧ leB m l = true then 0 else if leB l m = true then 1 else if leB m l = true then 2 else 3

set_option maxHeartbeats 2000000 in
theorem Compare_any (l m : List Int) (a b : Option Addr) (cap cap' : Nat) (w : World) (hl : l.length ≤ maxLen) (hm : m.length ≤ maxLen) (h : IntsAt w a l) (h' : IntsAt w b m) :
    Gives Try.prog 17 #[.slice a l.length cap, .slice b m.length cap'] w (.int .i64 (cmpV l m)) := by
  have C1 := Lib.hid (fun w' (hB : Below w.heap.size w w') => valid_any l a cap w' hl (h.below hB))
  have C2 := Lib.hid (fun w' (hB : Below w.heap.size w w') => valid_any m b cap' w' hm (h'.below hB))
  by_cases q1 : chk l = 0
  · by_cases q2 : chk m = 0
    · rw [q1] at C1
      rw [q2] at C2
      by_cases q3 : l.length = m.length
      · have D1 := Lib.hid (fun w' (hB : Below w.heap.size w w') => atMost_any l m a b cap cap' w' hl q3 (h.below hB) (h'.below hB))
        have D2 := Lib.hid (fun w' (hB : Below w.heap.size w w') => atMost_any m l b a cap' cap w' hm q3.symm (h'.below hB) (h.below hB))
        have HQ := Lib.hid q3
        have HV := Lib.hid (show cmpV l m = if leB l m = true ∧ leB m l = true then 0 else if leB l m = true then 1 else if leB m l = true then 2 else 3 by unfold cmpV; rw [if_neg (by simp [q1, q2, q3])])
        have hq : (((l.length : Nat) : Int) != ((m.length : Nat) : Int)) = false := by simp [q3]
        clear q3 h h' q1 q2
        unfold Gives
        cases g1 : leB l m <;> cases g2 : leB m l
        all_goals
          rw [g1, g2] at HV
          rw [g1] at D1
          rw [g2] at D2
          unfold maxLen at hl hm
          go_enter Try.func17, Try.ntmps17
          go_wp2_with fail
          refine (C1.out _ (Below.refl _ _)).mono ?_
          intro w1 hB1
          go_wp2_with fail
          refine (C2.out _ hB1).mono ?_
          intro w2 hB2
          have hE2 := Ext.trans hB1 hB2
          clear hB1 hB2
          go_wp2_with fail
          refine (D1.out _ hE2).mono ?_
          intro w3 hB3
          have hE3 := Ext.trans hE2 hB3
          clear hE2 hB3
          go_wp2_with fail
          refine (D2.out _ hE3).mono ?_
          intro w4 hB4
          have hE4 := Ext.trans hE3 hB4
          clear hE3 hB4
          go_wp2
          go_ret
          exact ⟨by rw [HV.out]; rfl, hE4⟩
      · have HV := Lib.hid (show cmpV l m = 3 by unfold cmpV; rw [if_pos (by simp [q3])])
        have hq : (((l.length : Nat) : Int) != ((m.length : Nat) : Int)) = true := by rw [bne_iff_ne]; omega
        clear h h' q1 q2
        unfold Gives
        unfold maxLen at hl hm
        go_enter Try.func17, Try.ntmps17
        go_wp2_with fail
        refine (C1.out _ (Below.refl _ _)).mono ?_
        intro w1 hB1
        go_wp2_with fail
        refine (C2.out _ hB1).mono ?_
        intro w2 hB2
        have hE2 := Ext.trans hB1 hB2
        clear hB1 hB2
        go_wp2
        go_ret
        exact ⟨by rw [HV.out]; rfl, hE2⟩
    · have HV := Lib.hid (show cmpV l m = 3 by unfold cmpV; rw [if_pos (by simp [q2])])
      rw [q1] at C1
      rw [show (chk m == 0) = false by simp [q2]] at C2
      clear h h' q1 q2
      unfold Gives
      unfold maxLen at hl hm
      go_enter Try.func17, Try.ntmps17
      go_wp2_with fail
      refine (C1.out _ (Below.refl _ _)).mono ?_
      intro w1 hB1
      go_wp2_with fail
      refine (C2.out _ hB1).mono ?_
      intro w2 hB2
      have hE2 := Ext.trans hB1 hB2
      clear hB1 hB2
      go_wp2
      go_ret
      exact ⟨by rw [HV.out]; rfl, hE2⟩
  · have HV := Lib.hid (show cmpV l m = 3 by unfold cmpV; rw [if_pos (by simp [q1])])
    rw [show (chk l == 0) = false by simp [q1]] at C1
    clear h h' q1
    unfold Gives
    unfold maxLen at hl hm
    go_enter Try.func17, Try.ntmps17
    go_wp2_with fail
    refine (C1.out _ (Below.refl _ _)).mono ?_
    intro w1 hB1
    go_wp2
    go_ret
    exact ⟨by rw [HV.out]; rfl, hB1⟩

set_option maxHeartbeats 2000000 in
theorem refCompare_any (l m : List Int) (a b : Option Addr) (cap cap' : Nat) (w : World) (hl : l.length ≤ maxLen) (hm : m.length ≤ maxLen) (h : IntsAt w a l) (h' : IntsAt w b m) :
    Gives Try.prog 18 #[.slice a l.length cap, .slice b m.length cap'] w (.int .i64 (cmpV l m)) := by
  have C1 := Lib.hid (fun w' (hB : Below w.heap.size w w') => refCheck_any l a cap w' hl (h.below hB))
  have C2 := Lib.hid (fun w' (hB : Below w.heap.size w w') => refCheck_any m b cap' w' hm (h'.below hB))
  by_cases q1 : chk l = 0
  · by_cases q2 : chk m = 0
    · rw [q1] at C1
      rw [q2] at C2
      by_cases q3 : l.length = m.length
      · have D1 := Lib.hid (fun w' (hB : Below w.heap.size w w') => lessOrEqual_any l m a b cap cap' w' hl q3 (h.below hB) (h'.below hB))
        have D2 := Lib.hid (fun w' (hB : Below w.heap.size w w') => lessOrEqual_any m l b a cap' cap w' hm q3.symm (h'.below hB) (h.below hB))
        have HV := Lib.hid (show cmpV l m = if leB l m = true ∧ leB m l = true then 0 else if leB l m = true then 1 else if leB m l = true then 2 else 3 by unfold cmpV; rw [if_neg (by simp [q1, q2, q3])])
        have hq : (((l.length : Nat) : Int) != ((m.length : Nat) : Int)) = false := by simp [q3]
        clear q3 h h' q1 q2
        unfold Gives
        cases g1 : leB l m <;> cases g2 : leB m l
        · rw [g1, g2] at HV; rw [g1] at D1; rw [g2] at D2
          unfold maxLen at hl hm
          go_enter Try.func18, Try.ntmps18
          go_wp2_with fail
          refine (C1.out _ (Below.refl _ _)).mono ?_
          intro w1 hE1
          go_wp2_with fail
          refine (C2.out _ hE1).mono ?_
          intro w2 hB2
          have hE2 := Ext.trans hE1 hB2
          go_wp2_with fail
          refine (D1.out _ hE2).mono ?_
          intro w3 hB3
          have hE3 := Ext.trans hE2 hB3
          go_wp2_with fail
          refine (D1.out _ hE3).mono ?_
          intro w4 hB4
          have hE4 := Ext.trans hE3 hB4
          go_wp2_with fail
          refine (D2.out _ hE4).mono ?_
          intro w5 hB5
          have hE5 := Ext.trans hE4 hB5
          go_wp2
          go_ret
          exact ⟨by rw [HV.out]; rfl, hE5⟩
        · rw [g1, g2] at HV; rw [g1] at D1; rw [g2] at D2
          unfold maxLen at hl hm
          go_enter Try.func18, Try.ntmps18
          go_wp2_with fail
          refine (C1.out _ (Below.refl _ _)).mono ?_
          intro w1 hE1
          go_wp2_with fail
          refine (C2.out _ hE1).mono ?_
          intro w2 hB2
          have hE2 := Ext.trans hE1 hB2
          go_wp2_with fail
          refine (D1.out _ hE2).mono ?_
          intro w3 hB3
          have hE3 := Ext.trans hE2 hB3
          go_wp2_with fail
          refine (D1.out _ hE3).mono ?_
          intro w4 hB4
          have hE4 := Ext.trans hE3 hB4
          go_wp2_with fail
          refine (D2.out _ hE4).mono ?_
          intro w5 hB5
          have hE5 := Ext.trans hE4 hB5
          go_wp2
          go_ret
          exact ⟨by rw [HV.out]; rfl, hE5⟩
        · rw [g1, g2] at HV; rw [g1] at D1; rw [g2] at D2
          unfold maxLen at hl hm
          go_enter Try.func18, Try.ntmps18
          go_wp2_with fail
          refine (C1.out _ (Below.refl _ _)).mono ?_
          intro w1 hE1
          go_wp2_with fail
          refine (C2.out _ hE1).mono ?_
          intro w2 hB2
          have hE2 := Ext.trans hE1 hB2
          go_wp2_with fail
          refine (D1.out _ hE2).mono ?_
          intro w3 hB3
          have hE3 := Ext.trans hE2 hB3
          go_wp2_with fail
          refine (D2.out _ hE3).mono ?_
          intro w4 hB4
          have hE4 := Ext.trans hE3 hB4
          go_wp2_with fail
          refine (D1.out _ hE4).mono ?_
          intro w5 hB5
          have hE5 := Ext.trans hE4 hB5
          go_wp2
          go_ret
          exact ⟨by rw [HV.out]; rfl, hE5⟩
        · rw [g1, g2] at HV; rw [g1] at D1; rw [g2] at D2
          unfold maxLen at hl hm
          go_enter Try.func18, Try.ntmps18
          go_wp2_with fail
          refine (C1.out _ (Below.refl _ _)).mono ?_
          intro w1 hE1
          go_wp2_with fail
          refine (C2.out _ hE1).mono ?_
          intro w2 hB2
          have hE2 := Ext.trans hE1 hB2
          go_wp2_with fail
          refine (D1.out _ hE2).mono ?_
          intro w3 hB3
          have hE3 := Ext.trans hE2 hB3
          go_wp2_with fail
          refine (D2.out _ hE3).mono ?_
          intro w4 hB4
          have hE4 := Ext.trans hE3 hB4
          go_wp2
          go_ret
          exact ⟨by rw [HV.out]; rfl, hE4⟩
      · have HV := Lib.hid (show cmpV l m = 3 by unfold cmpV; rw [if_pos (by simp [q3])])
        have hq : (((l.length : Nat) : Int) != ((m.length : Nat) : Int)) = true := by rw [bne_iff_ne]; omega
        clear h h' q1 q2
        unfold Gives
        unfold maxLen at hl hm
        go_enter Try.func18, Try.ntmps18
        go_wp2_with fail
        refine (C1.out _ (Below.refl _ _)).mono ?_
        intro w1 hB1
        go_wp2_with fail
        refine (C2.out _ hB1).mono ?_
        intro w2 hB2
        have hE2 := Ext.trans hB1 hB2
        clear hB1 hB2
        go_wp2
        go_ret
        exact ⟨by rw [HV.out]; rfl, hE2⟩
    · have HV := Lib.hid (show cmpV l m = 3 by unfold cmpV; rw [if_pos (by simp [q2])])
      rw [q1] at C1
      have hq2 : (chk m != 0) = true := by rw [bne_iff_ne]; exact q2
      clear h h' q1 q2
      unfold Gives
      unfold maxLen at hl hm
      go_enter Try.func18, Try.ntmps18
      go_wp2_with fail
      refine (C1.out _ (Below.refl _ _)).mono ?_
      intro w1 hB1
      go_wp2_with fail
      refine (C2.out _ hB1).mono ?_
      intro w2 hB2
      have hE2 := Ext.trans hB1 hB2
      clear hB1 hB2
      go_wp2
      go_ret
      exact ⟨by rw [HV.out]; rfl, hE2⟩
  · have HV := Lib.hid (show cmpV l m = 3 by unfold cmpV; rw [if_pos (by simp [q1])])
    have hq1 : (chk l != 0) = true := by rw [bne_iff_ne]; exact q1
    clear h h' q1
    unfold Gives
    unfold maxLen at hl hm
    go_enter Try.func18, Try.ntmps18
    go_wp2_with fail
    refine (C1.out _ (Below.refl _ _)).mono ?_
    intro w1 hB1
    go_wp2
    go_ret
    exact ⟨by rw [HV.out]; rfl, hB1⟩

set_option maxHeartbeats 1000000 in
theorem same1_any (l m : List Int) (a b : Option Addr) (cap cap' : Nat) (w : World) (hl : l.length ≤ maxLen) (hm : m.length ≤ maxLen) (h : IntsAt w a l) (h' : IntsAt w b m) :
    Gives Try.prog 45 #[.slice a l.length cap, .slice b m.length cap'] w (.bool (l == m)) := by
  unfold maxLen at hl hm
  by_cases q : l.length = m.length
  · have hq : (((l.length : Nat) : Int) != ((m.length : Nat) : Int)) = false := by simp [q]
    have HL := Lib.hid q
    clear q
    unfold Gives
    go_enter Try.func45, Try.ntmps45
    go_wp2
    go_loopw [5] (fun i wr => ∃ j : Nat, j ≤ l.length ∧ i = .int .i64 j ∧ (∀ i (hi : i < l.length) (hi2 : i < m.length), i < j → l[i] = m[i]) ∧ Below w.heap.size w wr) (fun i _ => l.length - (intOf i).toNat)
    case atStart => exact ⟨0, Nat.zero_le _, rfl, fun i _ _ h0 => absurd h0 (Nat.not_lt_zero _), Below.refl _ _⟩
    case round =>
      obtain ⟨j, hj, rfl, hA, hB⟩ := hrel
      have HA := Lib.hid hA
      clear hA
      by_cases hlt : j < l.length
      · obtain ⟨b1, o1, rfl, hc1⟩ := (h.below hB).at hlt
        have hlt2 : j < m.length := by have := HL.out; omega
        obtain ⟨b2, o2, rfl, hc2⟩ := (h'.below hB).at hlt2
        have HF := Lib.hid (show l[j] ≠ m[j] → (l == m) = false from fun h0 => by
          rw [beq_eq_false_iff_ne]
          rintro rfl
          exact h0 rfl)
        have HT := Lib.hid (show l[j] = m[j] → ∀ i (hi : i < l.length) (hi2 : i < m.length), i < j + 1 → l[i] = m[i] from fun h0 i hi hi2 hij => by
          rcases Nat.lt_succ_iff_lt_or_eq.1 hij with h1 | h1
          · exact HA.out i hi hi2 h1
          · subst h1; exact h0)
        generalize l[j] = x at *
        generalize m[j] = y at *
        by_cases h0 : x = y
        · have hq2 : (x != y) = false := by simp [h0]
          go_wp2
          go_quiet (fail)
          go_wp2
          go_roundw
          case rel => exact ⟨j + 1, by omega, by go_num, HT.out h0, Ext.drewN' hB⟩
          case measure => simp [intOf]; omega
        · have hq2 : (x != y) = true := by rw [bne_iff_ne]; exact h0
          go_wp2
          go_quiet (fail)
          go_wp2
          go_ret
          exact ⟨by rw [HF.out h0]; rfl, Ext.drewN' hB⟩
      · have HV := Lib.hid (show (l == m) = true by
          rw [beq_iff_eq]
          exact List.ext_getElem HL.out (fun i h1 h2 => HA.out i h1 h2 (by omega)))
        go_wp2
        go_ret
        exact ⟨by rw [HV.out]; rfl, hB⟩
  · have hq : (((l.length : Nat) : Int) != ((m.length : Nat) : Int)) = true := by rw [bne_iff_ne]; omega
    have HV := Lib.hid (show (l == m) = false by rw [beq_eq_false_iff_ne]; rintro rfl; exact q rfl)
    clear q
    unfold Gives
    go_enter Try.func45, Try.ntmps45
    go_wp2
    go_ret
    exact ⟨by rw [HV.out]; rfl, Below.refl _ _⟩

theorem Same_any (l m : List Int) (a b : Option Addr) (cap cap' : Nat) (w : World) (hl : l.length ≤ maxLen) (hm : m.length ≤ maxLen) (h : IntsAt w a l) (h' : IntsAt w b m) :
    Gives Try.prog 16 #[.slice a l.length cap, .slice b m.length cap'] w (.bool (l == m)) := by
  have C := same1_any l m a b cap cap' w hl hm h h'
  unfold Gives
  go_enter Try.func16, Try.ntmps16
  go_wp2_with fail
  refine C.mono ?_
  intro w1 hB
  go_wp2
  go_ret
  exact ⟨rfl, hB⟩

end Go.Proofs.Ytaplbcmpjhdohaa
