/- codec.reader.text, codec.ReadText. -/
import Derived.Test.YtpdmcikegcknlaaDoorTurn
import Derived.Test.YtpdmcikegcknlaaDoorTxPlain
import Derived.Test.YtpdmcikegcknlaaDoorReader
import Derived.Deep.LoopGhost
namespace Go.Proofs.YtpdmcikegcknlaaDoor
open Go.RowKit
set_option linter.unusedVariables false

/-- what text leaves -/
def TxPost (s : List UInt8) (k : Nat) (w : World) (e : Ending) (w' : World) : Prop :=
  e = .returned (sV (rdX s).1) ∧ ∃ q, Turn k (rdO s q (rdX s).2.2) w w' ∧ q ≤ s.length ∧ ((rdX s).2.2 = 0 → q = (rdX s).2.1)
theorem TxPost.mk {s l : List UInt8} {k q z : Nat} {e : Int} {w w' : World} (h : rdX s = (l, z, e)) (hT : Turn k (rdO s q e) w w') (hq : q ≤ s.length) (hz : e = 0 → q = z) : TxPost s k w (.returned (sV l)) w' := by
  unfold TxPost; rw [h]; exact ⟨rfl, q, hT, hq, hz⟩
set_option maxRecDepth 100000 in
set_option maxHeartbeats 8000000 in
theorem text_any (s : List UInt8) (k : Nat) (w : World) (hs : s.length ≤ 10000000) (h : w.heap[k]? = some (rdO s 0 0)) :
    Calls Tryd.prog 41 #[.pointer (some ⟨k, 0, none⟩)] w (TxPost s k w) := by
  have hk := lt_of_block h
  have hT0 := Lib.hid (Turn.refl h)
  clear h
  go_enter Tryd.func41, Tryd.ntmps41
  go_wp2
  go_loopg [3] s.length (fun n v wr => ∃ (p : Nat) (acc : List UInt8), n + p = s.length ∧ acc.length ≤ p ∧ rdX s = rdT acc p (s.drop p) ∧ Turn k (rdO s p 0) w wr ∧ Row8 w.heap.size v acc wr)
  case atStart => exact ⟨0, [], by omega, by simp, rfl, hT0.out, Row8.nil _ _⟩
  case round =>
    obtain ⟨p, acc, hp, hacc, hX, hT, hR⟩ := hrel
    have HP := Lib.hid hp
    have hple : p ≤ s.length := by omega
    have HX := Lib.hid hX
    have HT := Lib.hid hT
    have HR := Lib.hid hR
    clear hX hT hR hp
    by_cases hlt : p < s.length
    · have hd := Lib.hid (List.drop_eq_getElem_cons hlt)
      go_wp2_with fail
      refine (next_yes s p 0 k _ (by unfold maxLen; omega) hlt HT.out.here).mono ?_
      rintro r w1 ⟨rfl, hT1⟩
      have HT1 := Lib.hid (HT.out.trans hT1)
      have HR1 := Lib.hid (HR.out.turn hT1 hk)
      have e1 := rd2 hT1.here
      clear hT1
      generalize hcc : s[p] = c at *
      clear hcc
      by_cases hc : c = 0
      · subst hc
        by_cases hlt2 : p + 1 < s.length
        · have hd2 := Lib.hid (List.drop_eq_getElem_cons hlt2)
          go_wp2_with fail
          refine (next_yes s (p + 1) 0 k _ (by unfold maxLen; omega) hlt2 HT1.out.here).mono ?_
          rintro r w2 ⟨rfl, hT2⟩
          have HT2 := Lib.hid (HT1.out.trans hT2)
          have HR2 := Lib.hid (HR1.out.turn hT2 hk)
          have e2 := rd2 hT2.here
          clear hT2
          generalize hdd : s[p + 1] = d at *
          clear hdd e1
          by_cases h1 : d = 1
          · subst h1
            have HZ := Lib.hid (show rdX s = (acc, p + 2, 0) by rw [HX.out, hd.out, hd2.out, rdT, if_pos rfl, if_pos rfl])
            have hconv := Row8.conv HR2.out
            go_wp2
            go_ret
            exact TxPost.mk HZ.out HT2.out (by omega) (fun _ => rfl)
          · have b1 := byte_ne 1 h1 (by omega)
            by_cases h2 : d = 255
            · subst h2
              by_cases hl : acc.length = 100000
              · have bl : ((acc.length : Int) == 100000) = true := by rw [beq_iff_eq]; omega
                have HZ := Lib.hid (show rdX s = ([], 0, 4) by rw [HX.out, hd.out, hd2.out, rdT, if_pos rfl, if_neg h1, if_neg (by simp), if_pos hl])
                clear hl
                obtain ⟨x, cap, rfl⟩ := HR2.out.slice
                go_wp2_with fail
                refine (fail_any s (p + 2) 0 4 k _ HT2.out.here).mono ?_
                rintro r w3 ⟨rfl, hT3⟩
                rw [show ferr 0 4 = 4 from rfl] at hT3
                have HT3 := Lib.hid (HT2.out.trans hT3)
                clear hT3
                go_wp2
                go_ret
                exact TxPost.mk HZ.out HT3.out (by omega) (fun h => by cases h)
              · have bl : ((acc.length : Int) == 100000) = false := by rw [beq_eq_false_iff_ne]; omega
                have HZ := Lib.hid (show rdX s = rdT (acc ++ [0]) (p + 2) (s.drop (p + 2)) by rw [HX.out, hd.out, hd2.out, rdT, if_pos rfl, if_neg h1, if_neg (by simp), if_neg hl])
                have hz := HT2.out.size
                have hgk : 2 ≤ gk := by have := HP.out; omega
                clear hl
                obtain ⟨x, cap, rfl⟩ := HR2.out.slice
                go_wp2_with (at_builtin; go_loud (refine wp_app8 rfl _ _ (by rfl) w.heap.size _ _ (by rfl) _ HR2.out 0 0 rfl (by rfl) (by omega) hz ?_); intro v' w3 hR3 hB3)
                have HR3 := Lib.hid hR3
                have HT3 := Lib.hid (HT2.out.of_low hB3 hk)
                clear hR3 hB3
                go_wp2
                go_roundg (gk - 2)
                case measure => omega
                case rel => exact ⟨p + 2, acc ++ [0], by have := HP.out; omega, by simp; omega, HZ.out, HT3.out, HR3.out⟩
            · have b2 := byte_ne 255 h2 (by omega)
              have b3 : ((d.toNat : Int) != 255) = true := by rw [bne_iff_ne]; intro e; rw [beq_eq_false_iff_ne] at b2; exact b2 e
              have HZ := Lib.hid (show rdX s = ([], 0, 12) by rw [HX.out, hd.out, hd2.out, rdT, if_pos rfl, if_neg h1, if_pos h2])
              go_wp2_with fail
              refine (fail_any s (p + 2) 0 12 k _ HT2.out.here).mono ?_
              rintro r w3 ⟨rfl, hT3⟩
              rw [show ferr 0 12 = 12 from rfl] at hT3
              have HT3 := Lib.hid (HT2.out.trans hT3)
              clear hT3
              go_wp2
              go_ret
              exact TxPost.mk HZ.out HT3.out (by omega) (fun h => by cases h)
        · go_wp2_with fail
          refine (next_no s (p + 1) 0 k _ (by unfold maxLen; omega) (by omega) (by unfold maxLen; omega) HT1.out.here).mono ?_
          rintro r w2 ⟨rfl, hT2⟩
          rw [show ferr 0 11 = 11 from rfl] at hT2
          have HT2 := Lib.hid (HT1.out.trans hT2)
          have HZ := Lib.hid (show rdX s = ([], 0, 11) by rw [HX.out, hd.out, List.drop_eq_nil_of_le (by omega), rdT, if_pos rfl])
          have e2 := rd2 hT2.here
          clear hT2 e1
          go_wp2
          go_ret
          exact TxPost.mk HZ.out HT2.out (by omega) (fun h => by cases h)
      · have b0 := byte_ne 0 hc (by omega)
        by_cases hl : acc.length = 100000
        · have bl : ((acc.length : Int) == 100000) = true := by rw [beq_iff_eq]; omega
          have HZ := Lib.hid (show rdX s = ([], 0, 4) by rw [HX.out, hd.out, rdT_lim _ _ _ _ hc hl])
          clear hl
          obtain ⟨x, cap, rfl⟩ := HR1.out.slice
          go_wp2_with fail
          refine (fail_any s (p + 1) 0 4 k _ HT1.out.here).mono ?_
          rintro r w3 ⟨rfl, hT3⟩
          rw [show ferr 0 4 = 4 from rfl] at hT3
          have HT3 := Lib.hid (HT1.out.trans hT3)
          clear hT3
          go_wp2
          go_ret
          exact TxPost.mk HZ.out HT3.out (by omega) (fun h => by cases h)
        · have bl : ((acc.length : Int) == 100000) = false := by rw [beq_eq_false_iff_ne]; omega
          have HZ := Lib.hid (show rdX s = rdT (acc ++ [c]) (p + 1) (s.drop (p + 1)) by rw [HX.out, hd.out, rdT_one _ _ _ _ hc hl])
          have hz := HT1.out.size
          have hgk : 1 ≤ gk := by have := HP.out; omega
          clear hl
          obtain ⟨x, cap, rfl⟩ := HR1.out.slice
          go_wp2_with (at_builtin; go_loud (refine wp_app8 rfl _ _ (by rfl) w.heap.size _ _ (by rfl) _ HR1.out c _ rfl (by rfl) (by omega) hz ?_); intro v' w3 hR3 hB3)
          have HR3 := Lib.hid hR3
          have HT3 := Lib.hid (HT1.out.of_low hB3 hk)
          clear hR3 hB3
          go_wp2
          go_roundg (gk - 1)
          case measure => omega
          case rel => exact ⟨p + 1, acc ++ [c], by have := HP.out; omega, by simp; omega, HZ.out, HT3.out, HR3.out⟩
    · have HZ := Lib.hid (show rdX s = ([], 0, 11) by rw [HX.out, List.drop_eq_nil_of_le (by omega), rdT])
      go_wp2_with fail
      refine (next_no s p 0 k _ (by unfold maxLen; omega) (by omega) (by unfold maxLen; omega) HT.out.here).mono ?_
      rintro r w1 ⟨rfl, hT1⟩
      rw [show ferr 0 11 = 11 from rfl] at hT1
      have HT1 := Lib.hid (HT.out.trans hT1)
      have e1 := rd2 hT1.here
      clear hT1
      go_wp2
      go_ret
      exact TxPost.mk HZ.out HT1.out hple (fun h => by cases h)

def rdXV (s : List UInt8) : Value := .tuple #[sV (rdX s).1, .int .i64 ((rdX s).2.1 : Int), .int .i64 (rdX s).2.2]
theorem rdXV_err {s : List UInt8} (h : (rdX s).2.2 ≠ 0) : rdXV s = .tuple #[sV [], .int .i64 0, .int .i64 (rdX s).2.2] := by
  obtain ⟨h1, h2⟩ := rdX_err h
  unfold rdXV; rw [h1, h2]; rfl

set_option maxHeartbeats 2000000 in
theorem ReadText_any (s : List UInt8) (w : World) (hs : s.length ≤ 10000000) : Gives Tryd.prog 20 #[sV s] w (rdXV s) := by
  have HI := Lib.hid (fun W h => text_any s w.heap.size W hs h)
  unfold Gives
  go_enter Tryd.func20, Tryd.ntmps20
  go_wp2_with fail
  refine (HI.out _ (alloc_here _ _)).mono ?_
  rintro r w1 ⟨rfl, q, hT, hq, hz⟩
  have HB := Lib.hid (((Below.refl _ w).alloc (Nat.le_refl _) _).trans (hT.below (Nat.le_refl _) (by simp)))
  have h1 := rd1 hT.here
  have h2 := rd2 hT.here
  clear hT
  by_cases he : (rdX s).2.2 = 0
  · have HV := Lib.hid (show rdXV s = .tuple #[sV (rdX s).1, .int .i64 q, .int .i64 0] by unfold rdXV; rw [he, hz he])
    rw [he] at h2
    clear he hz
    generalize (rdX s).1 = tx at *
    go_wp2
    go_quiet (fail)
    go_wp2
    go_ret3
    rw [HV.out]
    exact ⟨rfl, Ext.drewN' HB.out⟩
  · have HV := Lib.hid (rdXV_err he)
    have hb : ((rdX s).2.2 == 0) = false := by rw [beq_eq_false_iff_ne]; exact he
    have hb2 : ((rdX s).2.2 != 0) = true := by rw [bne_iff_ne]; exact he
    clear hz he
    generalize (rdX s).1 = tx at *
    go_wp2
    go_quiet (fail)
    go_wp2
    go_ret3
    rw [HV.out]
    exact ⟨rfl, Ext.drewN' HB.out⟩

end Go.Proofs.YtpdmcikegcknlaaDoor
