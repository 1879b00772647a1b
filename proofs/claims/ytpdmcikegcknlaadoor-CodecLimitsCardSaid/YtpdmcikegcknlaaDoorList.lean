/- codec.List, nurseryref01.List. -/
import Derived.Test.YtpdmcikegcknlaaDoorBuild
import Derived.Test.YtpdmcikegcknlaaDoorLsPlain
import Derived.Test.YtpdmcikegcknlaaDoorCodecInt
import Derived.Test.YtpdmcikegcknlaaDoorISl
namespace Go.Proofs.YtpdmcikegcknlaaDoor
open Go.RowKit
set_option linter.unusedVariables false

theorem all_take_false {l : List Int} {j : Nat} (h : j < l.length) (hb : inR l[j] = false) : l.all inR = false := by
  rw [List.all_eq_false]
  exact ⟨l[j], List.getElem_mem h, by simp [hb]⟩
theorem all_take_succ {l : List Int} {j : Nat} (h : j < l.length) (ha : (l.take j).all inR = true) (hb : inR l[j] = true) : (l.take (j + 1)).all inR = true := by
  rw [List.take_succ_eq_append_getElem h, List.all_append, ha]; simp [hb]
theorem encs_take_succ {l : List Int} {j : Nat} (h : j < l.length) : encs (l.take j) ++ enc l[j] = encs (l.take (j + 1)) := by
  rw [List.take_succ_eq_append_getElem h, encs_snoc]

set_option maxHeartbeats 2000000 in
theorem List_any (l : List Int) (a : Option Addr) (cap : Nat) (w : World) (hl : l.length ≤ maxLen) (h : IntsAt w a l) (hb : ∀ n ∈ l, -9223372036854775808 ≤ n ∧ n ≤ 9223372036854775807) :
    Gives Tryd.prog 13 #[.slice a l.length cap] w (.tuple #[sV (lsS l), .int .i64 (lsE l)]) := by
  unfold maxLen at hl
  unfold Gives
  by_cases h2 : 20000 < l.length
  · have HS := Lib.hid (show lsS l = [] by unfold lsS; rw [if_pos h2])
    have HE := Lib.hid (show lsE l = 4 by unfold lsE; rw [if_pos h2])
    have d : decide ((20000 : Int) < ((l.length : Nat) : Int)) = true := by simp; omega
    clear hb
    go_enter Tryd.func13, Tryd.ntmps13
    go_wp2
    go_ret2
    exact ⟨by rw [HS.out, HE.out]; rfl, Below.refl _ _⟩
  · have d : decide ((20000 : Int) < ((l.length : Nat) : Int)) = false := by simp; omega
    have HB := Lib.hid hb
    clear hb
    go_enter Tryd.func13, Tryd.ntmps13
    go_wp2
    have B0 := Lib.hid (Bld.fresh w)
    go_loopw [12] (fun i wr => ∃ j : Nat, j ≤ l.length ∧ i = .int .i64 j ∧ (l.take j).all inR = true ∧ Bld w.heap.size w.heap.size (encs (l.take j)) wr ∧ Below w.heap.size w wr) (fun i _ => l.length - (intOf i).toNat)
    case atStart => exact ⟨0, Nat.zero_le _, rfl, by simp, by simpa [encs] using B0.out, (Below.refl _ w).alloc (Nat.le_refl _) _⟩
    case round =>
      obtain ⟨j, hj, rfl, hA, hBd, hB⟩ := hrel
      have hlen := encs_len _ hA
      have hlen' : (encs (l.take j)).length ≤ 180000 := by have : (l.take j).length ≤ j := List.length_take_le _ _; omega
      clear hlen
      have HA := Lib.hid hA
      have HD := Lib.hid hBd
      have HW := Lib.hid hB
      have hz := hB.size
      clear hA hBd
      by_cases hlt : j < l.length
      · obtain ⟨b, off, rfl, hc⟩ := (h.below hB).at hlt
        clear hB
        have HM := Lib.hid (HB.out l[j] (List.getElem_mem hlt))
        have HF := Lib.hid (all_take_false hlt)
        have HT := Lib.hid (all_take_succ hlt HA.out)
        have HX := Lib.hid (encs_take_succ hlt)
        have HI := Lib.hid (inR_iff l[j])
        have HL := Lib.hid (enc_le9 l[j])
        generalize l[j] = x at *
        obtain ⟨hx1, hx2⟩ := HM.out
        by_cases g1 : -4611686018427387904 ≤ x
        · by_cases g2 : x ≤ 4611686018427387904
          · have hok := HI.out.2 ⟨g1, g2⟩
            have hl9 := HL.out g1 g2
            have HK := Lib.hid hok
            clear hok
            go_wp2_with (go_at_call 33; go_in)
            refine (integer_any _ _ g1 g2).mono ?_
            intro w1 hB1
            have HD1 := Lib.hid (HD.out.ext hB1)
            have HW1 := Lib.hid (Ext.trans HW.out hB1)
            have hz1 := HW1.out.size
            clear hB1 HD
            go_wp2_with fail
            refine (writeString_any _ _ _ _ _ HD1.out (by omega) hz1).mono ?_
            rintro e w2 ⟨rfl, hD2, hB2⟩
            rw [HX.out] at hD2
            have HD2 := Lib.hid hD2
            have HW2 := Lib.hid (Below.trans HW1.out hB2)
            clear hD2 hB2 HD1
            go_wp2
            go_roundw
            case rel => exact ⟨j + 1, by omega, by go_num, HT.out HK.out, HD2.out, HW2.out⟩
            case measure => simp [intOf]; omega
          · have HS := Lib.hid (show lsS l = [] by unfold lsS; rw [if_neg h2, if_neg (by rw [HF.out (by rw [Bool.eq_false_iff]; intro h; have := HI.out.1 h; omega)]; simp)])
            have HE := Lib.hid (show lsE l = 2 by unfold lsE; rw [if_neg h2, if_neg (by rw [HF.out (by rw [Bool.eq_false_iff]; intro h; have := HI.out.1 h; omega)]; simp)])
            have hd : decide (x ≤ 4611686018427387904) = false := by simp; omega
            go_wp2_with (go_at_call 33; go_in)
            go_ret2
            exact ⟨by rw [HS.out, HE.out]; rfl, HW.out⟩
        · have HS := Lib.hid (show lsS l = [] by unfold lsS; rw [if_neg h2, if_neg (by rw [HF.out (by rw [Bool.eq_false_iff]; intro h; have := HI.out.1 h; omega)]; simp)])
          have HE := Lib.hid (show lsE l = 2 by unfold lsE; rw [if_neg h2, if_neg (by rw [HF.out (by rw [Bool.eq_false_iff]; intro h; have := HI.out.1 h; omega)]; simp)])
          have hd : decide (-4611686018427387904 ≤ x) = false := by simp; omega
          go_wp2_with (go_at_call 33; go_in)
          go_ret2
          exact ⟨by rw [HS.out, HE.out]; rfl, HW.out⟩
      · have hk : l.take j = l := List.take_of_length_le (by omega)
        rw [hk] at HA HD hlen'
        have HS := Lib.hid (show lsS l = encL l by unfold lsS; rw [if_neg h2, if_pos HA.out])
        have HE := Lib.hid (show lsE l = 0 by unfold lsE; rw [if_neg h2, if_pos HA.out])
        clear hk hB
        go_wp2_with fail
        refine (writeByte_any _ _ _ 1 1 rfl _ HD.out (by omega) hz).mono ?_
        rintro e w2 ⟨rfl, hD2, hB2⟩
        have HD2 := Lib.hid hD2
        have HW2 := Lib.hid (Below.trans HW.out hB2)
        have hz2 := HW2.out.size
        clear hD2 hB2 HD
        go_wp2_with fail
        refine (string_any _ _ _ _ HD2.out hz2).mono ?_
        rintro e w3 ⟨rfl, hB3⟩
        have HW3 := Lib.hid (Below.trans HW2.out hB3)
        clear hB3 HD2
        go_wp2
        go_ret2
        exact ⟨by rw [HS.out, HE.out]; rfl, HW3.out⟩

end Go.Proofs.YtpdmcikegcknlaaDoor
