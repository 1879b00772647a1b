/- nurseryref01.List. -/
import Derived.Test.YtpdmcikegcknlaaDoorApp
import Derived.Test.YtpdmcikegcknlaaDoorList
namespace Go.Proofs.YtpdmcikegcknlaaDoor
open Go.RowKit
set_option linter.unusedVariables false

set_option maxHeartbeats 2000000 in
theorem refList_any (l : List Int) (a : Option Addr) (cap : Nat) (w : World) (hl : l.length ≤ maxLen) (h : IntsAt w a l) (hb : ∀ n ∈ l, (Lit.int .i64 n).wf = true) :
    Gives Tryd.prog 29 #[.slice a l.length cap] w (.tuple #[sV (lsS l), .int .i64 (lsE l)]) := by
  unfold maxLen at hl
  unfold Gives
  by_cases h2 : 20000 < l.length
  · have HS := Lib.hid (show lsS l = [] by unfold lsS; rw [if_pos h2])
    have HE := Lib.hid (show lsE l = 4 by unfold lsE; rw [if_pos h2])
    have d : decide ((20000 : Int) < ((l.length : Nat) : Int)) = true := by simp; omega
    clear hb
    go_enter Tryd.func29, Tryd.ntmps29
    go_wp2
    go_ret2
    exact ⟨by rw [HS.out, HE.out]; rfl, Below.refl _ _⟩
  · have d : decide ((20000 : Int) < ((l.length : Nat) : Int)) = false := by simp; omega
    have HB := Lib.hid hb
    clear hb
    go_enter Tryd.func29, Tryd.ntmps29
    go_wp2
    have B0 := Lib.hid (Row8.empty w w.heap.size (Nat.le_refl _))
    go_loopw [4, 5] (fun v i wr => ∃ j : Nat, j ≤ l.length ∧ i = .int .i64 j ∧ (l.take j).all inR = true ∧ Row8 w.heap.size v (encs (l.take j)) wr ∧ Below w.heap.size w wr) (fun _ i _ => l.length - (intOf i).toNat)
    case atStart => exact ⟨0, Nat.zero_le _, rfl, by simp, by simpa [encs] using B0.out, (Below.refl _ w).alloc (Nat.le_refl _) _⟩
    case round =>
      obtain ⟨j, hj, rfl, hA, hBd, hB⟩ := hrel
      have hlen := encs_len _ hA
      have hlen' : (encs (l.take j)).length ≤ 180000 := by have : (l.take j).length ≤ j := List.length_take_le _ _; omega
      clear hlen
      have HA := Lib.hid hA
      have HD := Lib.hid hBd
      have HW := Lib.hid hB
      have hz := hB.size
      clear hA hBd
      by_cases hlt : j < l.length
      · obtain ⟨b, off, rfl, hc⟩ := (h.below hB).at hlt
        clear hB
        have HM := Lib.hid (HB.out l[j] (List.getElem_mem hlt))
        have HF := Lib.hid (all_take_false hlt)
        have HT := Lib.hid (all_take_succ hlt HA.out)
        have HX := Lib.hid (encs_take_succ hlt)
        have HI := Lib.hid (inR_iff l[j])
        have HL := Lib.hid (enc_le9 l[j])
        generalize l[j] = x at *
        by_cases g : -4611686018427387904 ≤ x ∧ x ≤ 4611686018427387904
        · have hok := HI.out.2 g
          have hl9 := HL.out g.1 g.2
          have HK := Lib.hid hok
          clear hok
          go_wp2_with fail
          refine (refInt_yes _ _ g.1 g.2).mono ?_
          intro w1 hB1
          have HD1 := Lib.hid (HD.out.ext hB1)
          have HW1 := Lib.hid (show Below w.heap.size w w1 from Ext.trans HW.out hB1)
          have hz1 := HW1.out.size
          clear hB1 HD
          go_wp2_with (at_builtin; go_loud (refine wp_apps rfl _ _ (by rfl) w.heap.size _ _ (by rfl) _ HD1.out (enc x) (by rfl) (by omega) hz1 ?_); intro v' w2 hD2 hB2)
          rw [HX.out] at hD2
          have HD2 := Lib.hid hD2
          have HW2 := Lib.hid (Below.trans HW1.out hB2)
          clear hD2 hB2 HD1
          go_wp2
          go_roundw
          case rel => exact ⟨j + 1, by omega, by go_num, HT.out HK.out, HD2.out, HW2.out⟩
          case measure => simp [intOf]; omega
        · have HS := Lib.hid (show lsS l = [] by unfold lsS; rw [if_neg h2, if_neg (by rw [HF.out (by rw [Bool.eq_false_iff]; intro h; exact g (HI.out.1 h))]; simp)])
          have HE := Lib.hid (show lsE l = 2 by unfold lsE; rw [if_neg h2, if_neg (by rw [HF.out (by rw [Bool.eq_false_iff]; intro h; exact g (HI.out.1 h))]; simp)])
          go_wp2_with fail
          refine (refInt_no _ _ HM.out (by omega)).mono ?_
          intro w1 hB1
          have HW1 := Lib.hid (show Below w.heap.size w w1 from Ext.trans HW.out hB1)
          clear hB1
          go_wp2
          go_ret2
          exact ⟨by rw [HS.out, HE.out]; rfl, HW1.out⟩
      · have hk : l.take j = l := List.take_of_length_le (by omega)
        rw [hk] at HA HD hlen'
        have HS := Lib.hid (show lsS l = encL l by unfold lsS; rw [if_neg h2, if_pos HA.out])
        have HE := Lib.hid (show lsE l = 0 by unfold lsE; rw [if_neg h2, if_pos HA.out])
        clear hk hB
        go_wp2_with (at_builtin; go_loud (refine wp_app8 rfl _ _ (by rfl) w.heap.size _ _ (by rfl) _ HD.out 1 1 rfl (by rfl) (by omega) hz ?_); intro v' w2 hD2 hB2; have hconv := Row8.conv hD2)
        have HW2 := Lib.hid (Below.trans HW.out hB2)
        clear hB2
        go_wp2
        go_ret2
        exact ⟨by rw [HS.out, HE.out]; rfl, HW2.out⟩

end Go.Proofs.YtpdmcikegcknlaaDoor
