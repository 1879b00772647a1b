/- nurseryref01.ReadText, nurseryref01.Text, Hash. -/
import Derived.Test.YtpdmcikegcknlaaDoorReadText
namespace Go.Proofs.YtpdmcikegcknlaaDoor
open Go.RowKit
set_option linter.unusedVariables false

theorem rdXV_of {s l : List UInt8} {z : Nat} {e : Int} (h : rdX s = (l, z, e)) : rdXV s = .tuple #[sV l, .int .i64 (z : Int), .int .i64 e] := by unfold rdXV; rw [h]

set_option maxRecDepth 100000 in
set_option maxHeartbeats 8000000 in
theorem refReadText_any (s : List UInt8) (w : World) (hs : s.length ≤ 10000000) : Gives Tryd.prog 21 #[sV s] w (rdXV s) := by
  have R0 := Lib.hid (Row8.empty w w.heap.size (Nat.le_refl _))
  unfold Gives
  go_enter Tryd.func21, Tryd.ntmps21
  go_wp2
  go_loopg [5, 6] s.length (fun n v i wr => ∃ (p : Nat) (acc : List UInt8), i = .int .i64 p ∧ n + p = s.length ∧ acc.length ≤ p ∧ acc.length ≤ 100000 ∧ rdX s = rdT acc p (s.drop p) ∧ Row8 w.heap.size v acc wr ∧ Below w.heap.size w wr)
  case atStart => exact ⟨0, [], rfl, by omega, by simp, by simp, rfl, R0.out, (Below.refl _ w).alloc (Nat.le_refl _) _⟩
  case round =>
    obtain ⟨p, acc, rfl, hp, hacc, hacc2, hX, hR, hB⟩ := hrel
    have HP := Lib.hid hp
    have hple : p ≤ s.length := by omega
    have HX := Lib.hid hX
    have HR := Lib.hid hR
    have HB := Lib.hid hB
    have hz := hB.size
    clear hX hR hp hB
    by_cases hlt : p < s.length
    · have hd := Lib.hid (List.drop_eq_getElem_cons hlt)
      have q1 : ((p : Int) == (s.length : Int)) = false := by rw [beq_eq_false_iff_ne]; omega
      have hcc : ∃ c, s[p] = c := ⟨_, rfl⟩
      obtain ⟨c, hcc⟩ := hcc
      have hcc' := Lib.hid hcc
      by_cases hc : c = 0
      · subst hc
        by_cases hlt2 : p + 1 < s.length
        · have hd2 := Lib.hid (List.drop_eq_getElem_cons hlt2)
          have q2 : ((p : Int) + 1 == (s.length : Int)) = false := by rw [beq_eq_false_iff_ne]; omega
          have hdd : ∃ d, s[p + 1] = d := ⟨_, rfl⟩
          obtain ⟨d, hdd⟩ := hdd
          have hdd' := Lib.hid hdd
          by_cases h1 : d = 1
          · subst h1
            have HZ := Lib.hid (rdXV_of (show rdX s = (acc, p + 2, 0) by rw [HX.out, hd.out, hd2.out, hcc'.out, hdd'.out, rdT, if_pos rfl, if_pos rfl]))
            have hconv := Row8.conv HR.out
            go_wp2
            go_ret3
            rw [HZ.out]
            exact ⟨by go_num, HB.out⟩
          · have b1 := byte_ne 1 h1 (by omega)
            by_cases h2 : d = 255
            · subst h2
              by_cases hl : acc.length = 100000
              · have HZ := Lib.hid (rdXV_of (show rdX s = ([], 0, 4) by rw [HX.out, hd.out, hd2.out, hcc'.out, hdd'.out, rdT, if_pos rfl, if_neg h1, if_neg (by simp), if_pos hl]))
                obtain ⟨m, HM, hm1⟩ : ∃ m, Hid ((acc ++ [0]).length = m) ∧ 100000 < m := ⟨_, Lib.hid rfl, by simp; omega⟩
                clear hl
                go_wp2_with (at_builtin; go_loud (refine wp_app8 rfl _ _ (by rfl) w.heap.size _ _ (by rfl) _ HR.out 0 0 rfl (by rfl) (by omega) hz ?_); intro v' w3 hR3 hB3; obtain ⟨x, cap, hv⟩ := hR3.slice; rw [HM.out] at hv; subst hv; have HB3 := Lib.hid (Below.trans HB.out hB3); clear hR3 hB3)
                go_ret3
                rw [HZ.out]
                exact ⟨rfl, HB3.out⟩
              · have HZ := Lib.hid (show rdX s = rdT (acc ++ [0]) (p + 2) (s.drop (p + 2)) by rw [HX.out, hd.out, hd2.out, hcc'.out, hdd'.out, rdT, if_pos rfl, if_neg h1, if_neg (by simp), if_neg hl])
                have hgk : 2 ≤ gk := by have := HP.out; omega
                obtain ⟨m, HM, hm1⟩ : ∃ m, Hid ((acc ++ [0]).length = m) ∧ m ≤ 100000 := ⟨_, Lib.hid rfl, by simp; omega⟩
                go_wp2_with (at_builtin; go_loud (refine wp_app8 rfl _ _ (by rfl) w.heap.size _ _ (by rfl) _ HR.out 0 0 rfl (by rfl) (by omega) hz ?_); intro v' w3 hR3 hB3; obtain ⟨x, cap, hv⟩ := hR3.slice; rw [HM.out] at hv; subst hv; have HR3 := Lib.hid hR3; have HB3 := Lib.hid (Below.trans HB.out hB3); clear hR3 hB3)
                go_roundg (gk - 2)
                case measure => omega
                case rel => exact ⟨p + 2, acc ++ [0], by go_num, by have := HP.out; omega, by simp; omega, by simp; omega, HZ.out, HR3.out, HB3.out⟩
            · have b2 := byte_ne 255 h2 (by omega)
              have b3 : ((d.toNat : Int) != 255) = true := by rw [bne_iff_ne]; intro e; rw [beq_eq_false_iff_ne] at b2; exact b2 e
              have HZ := Lib.hid (rdXV_of (show rdX s = ([], 0, 12) by rw [HX.out, hd.out, hd2.out, hcc'.out, hdd'.out, rdT, if_pos rfl, if_neg h1, if_pos h2]))
              go_wp2
              go_ret3
              rw [HZ.out]
              exact ⟨rfl, HB.out⟩
        · have q2 : ((p : Int) + 1 == (s.length : Int)) = true := by rw [beq_iff_eq]; omega
          have HZ := Lib.hid (rdXV_of (show rdX s = ([], 0, 11) by rw [HX.out, hd.out, List.drop_eq_nil_of_le (by omega), hcc'.out, rdT, if_pos rfl]))
          go_wp2
          go_ret3
          rw [HZ.out]
          exact ⟨rfl, HB.out⟩
      · have b0 := byte_ne 0 hc (by omega)
        by_cases hl : acc.length = 100000
        · have HZ := Lib.hid (rdXV_of (show rdX s = ([], 0, 4) by rw [HX.out, hd.out, hcc'.out, rdT_lim _ _ _ _ hc hl]))
          obtain ⟨m, HM, hm1⟩ : ∃ m, Hid ((acc ++ [c]).length = m) ∧ 100000 < m := ⟨_, Lib.hid rfl, by simp; omega⟩
          clear hl
          go_wp2_with (at_builtin; go_loud (refine wp_app8 rfl _ _ (by rfl) w.heap.size _ _ (by rfl) _ HR.out c _ rfl (by rfl) (by omega) hz ?_); intro v' w3 hR3 hB3; obtain ⟨x, cap, hv⟩ := hR3.slice; rw [HM.out] at hv; subst hv; have HB3 := Lib.hid (Below.trans HB.out hB3); clear hR3 hB3)
          go_ret3
          rw [HZ.out]
          exact ⟨rfl, HB3.out⟩
        · have HZ := Lib.hid (show rdX s = rdT (acc ++ [c]) (p + 1) (s.drop (p + 1)) by rw [HX.out, hd.out, hcc'.out, rdT_one _ _ _ _ hc hl])
          have hgk : 1 ≤ gk := by have := HP.out; omega
          obtain ⟨m, HM, hm1⟩ : ∃ m, Hid ((acc ++ [c]).length = m) ∧ m ≤ 100000 := ⟨_, Lib.hid rfl, by simp; omega⟩
          go_wp2_with (at_builtin; go_loud (refine wp_app8 rfl _ _ (by rfl) w.heap.size _ _ (by rfl) _ HR.out c _ rfl (by rfl) (by omega) hz ?_); intro v' w3 hR3 hB3; obtain ⟨x, cap, hv⟩ := hR3.slice; rw [HM.out] at hv; subst hv; have HR3 := Lib.hid hR3; have HB3 := Lib.hid (Below.trans HB.out hB3); clear hR3 hB3)
          go_roundg (gk - 1)
          case measure => omega
          case rel => exact ⟨p + 1, acc ++ [c], by go_num, by have := HP.out; omega, by simp; omega, by simp; omega, HZ.out, HR3.out, HB3.out⟩
    · have q1 : ((p : Int) == (s.length : Int)) = true := by rw [beq_iff_eq]; omega
      have HZ := Lib.hid (rdXV_of (show rdX s = ([], 0, 11) by rw [HX.out, List.drop_eq_nil_of_le (by omega), rdT]))
      go_wp2
      go_ret3
      rw [HZ.out]
      exact ⟨rfl, HB.out⟩

end Go.Proofs.YtpdmcikegcknlaaDoor
