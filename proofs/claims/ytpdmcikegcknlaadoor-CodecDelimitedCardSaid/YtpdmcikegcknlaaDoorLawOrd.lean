/- nurseryref01.Compare, and the contracts of CodecOrder's calls. -/
import Derived.Test.YtpdmcikegcknlaaDoorLawTrip
import Derived.Test.YtpdmcikegcknlaaDoorOrdPlain
namespace Go.Proofs.YtpdmcikegcknlaaDoor
open Go.RowKit
set_option linter.unusedVariables false
set_option linter.unusedSimpArgs false

theorem strCmp_any (a b : List UInt8) (w : World) : Calls Tryd.prog 14 #[sV a, sV b] w fun e w' => e = .returned (.int .i64 (cB a b)) ∧ w' = w := by
  have := Tryd.strings_Compare (sB a) (sB b) w
  rw [sB_data, sB_data] at this
  exact this

theorem rcmp_at {l m : List Int} {j : Nat} (h1 : j < l.length) (h2 : j < m.length) : rcmp (l.drop j) (m.drop j) = if l[j] < m[j] then -1 else if m[j] < l[j] then 1 else rcmp (l.drop (j + 1)) (m.drop (j + 1)) := by
  rw [List.drop_eq_getElem_cons h1, List.drop_eq_getElem_cons h2]; rfl
theorem rcmp_end {l m : List Int} {j : Nat} (h : l.length ≤ j ∨ m.length ≤ j) (h1 : j ≤ l.length) (h2 : j ≤ m.length) : rcmp (l.drop j) (m.drop j) = if l.length < m.length then -1 else if m.length < l.length then 1 else 0 := by
  by_cases e1 : l.length ≤ j
  · rw [List.drop_eq_nil_of_le e1]
    by_cases e2 : m.length ≤ j
    · rw [List.drop_eq_nil_of_le e2, if_neg (by omega), if_neg (by omega)]; rfl
    · rw [List.drop_eq_getElem_cons (by omega), if_pos (by omega)]; rfl
  · rw [(show m.drop j = [] from List.drop_eq_nil_of_le (by omega)), List.drop_eq_getElem_cons (by omega : j < l.length), if_neg (by omega), if_pos (by omega)]; rfl

set_option maxRecDepth 100000 in
set_option maxHeartbeats 4000000 in
theorem refCompare01_any (l m : List Int) (a b : Option Addr) (c d : Nat) (w : World) (hl : l.length ≤ maxLen) (hm : m.length ≤ maxLen) (h : IntsAt w a l) (h' : IntsAt w b m) :
    Gives Tryd.prog 15 #[.slice a l.length c, .slice b m.length d] w (.int .i64 (rcmp l m)) := by
  unfold maxLen at hl hm
  unfold Gives
  have HA := Lib.hid h
  have HB := Lib.hid h'
  clear h h'
  go_enter Tryd.func15, Tryd.ntmps15
  go_wp2
  go_loopw [5] (fun i wr => ∃ j : Nat, j ≤ l.length ∧ j ≤ m.length ∧ i = .int .i64 j ∧ rcmp l m = rcmp (l.drop j) (m.drop j) ∧ Below w.heap.size w wr) (fun i _ => l.length - (intOf i).toNat)
  case atStart => exact ⟨0, Nat.zero_le _, Nat.zero_le _, rfl, rfl, Below.refl _ _⟩
  case round =>
    obtain ⟨j, hj, hj2, rfl, hR, hE⟩ := hrel
    have HR := Lib.hid hR
    have HE := Lib.hid hE
    clear hR hE
    by_cases hlt : j < l.length
    · have q1 : decide ((j : Int) < (l.length : Int)) = true := by simp; omega
      by_cases hlt2 : j < m.length
      · have q2 : decide ((j : Int) < (m.length : Int)) = true := by simp; omega
        obtain ⟨b1, o1, rfl, hc1⟩ := (HA.out.below HE.out).at hlt
        obtain ⟨b2, o2, rfl, hc2⟩ := (HB.out.below HE.out).at hlt2
        have q3 : (0 : Int) ≤ (j : Int) := by omega
        have HS := Lib.hid (rcmp_at hlt hlt2)
        generalize l[j] = x at *
        generalize m[j] = y at *
        by_cases g1 : x < y
        · have HV := Lib.hid (show rcmp l m = -1 by rw [HR.out, HS.out, if_pos g1])
          go_wp2
          go_quiet (fail)
          go_wp2
          go_ret
          exact ⟨by rw [HV.out]; rfl, Ext.drewN' HE.out⟩
        · by_cases g2 : y < x
          · have HV := Lib.hid (show rcmp l m = 1 by rw [HR.out, HS.out, if_neg g1, if_pos g2])
            go_wp2
            go_quiet (fail)
            go_wp2
            go_quiet (fail)
            go_wp2
            go_ret
            exact ⟨by rw [HV.out]; rfl, by first | exact Ext.drewN' HE.out | exact Ext.drewN' (Ext.drewN' HE.out)⟩
          · have HV := Lib.hid (show rcmp l m = rcmp (l.drop (j + 1)) (m.drop (j + 1)) by rw [HR.out, HS.out, if_neg g1, if_neg g2])
            go_wp2
            go_quiet (fail)
            go_wp2
            go_quiet (fail)
            go_wp2
            go_roundw
            case rel => exact ⟨j + 1, by omega, by omega, by go_num, HV.out, by first | exact Ext.drewN' HE.out | exact Ext.drewN' (Ext.drewN' HE.out)⟩
            case measure => simp [intOf]; omega
      · have q2 : decide ((j : Int) < (m.length : Int)) = false := by simp; omega
        have HV := Lib.hid (show rcmp l m = 1 by rw [HR.out, rcmp_end (.inr (by omega)) hj hj2, if_neg (by omega), if_pos (by omega)])
        go_wp2
        go_ret
        exact ⟨by rw [HV.out]; rfl, HE.out⟩
    · have q1 : decide ((j : Int) < (l.length : Int)) = false := by simp; omega
      have HV := Lib.hid (show rcmp l m = if l.length < m.length then -1 else if m.length < l.length then 1 else 0 by rw [HR.out, rcmp_end (.inl (by omega)) hj hj2])
      by_cases g1 : l.length < m.length
      · have HV2 := Lib.hid (show rcmp l m = -1 by rw [HV.out, if_pos g1])
        go_wp2
        go_ret
        exact ⟨by rw [HV2.out]; rfl, HE.out⟩
      · have HV2 := Lib.hid (show rcmp l m = 0 by rw [HV.out, if_neg g1, if_neg (by omega)])
        go_wp2
        go_ret
        exact ⟨by rw [HV2.out]; rfl, HE.out⟩

end Go.Proofs.YtpdmcikegcknlaaDoor
