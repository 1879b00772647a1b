/- nurseryref01.ReadList. -/
import Derived.Test.YtpdmcikegcknlaaDoorReadList
import Derived.Test.YtpdmcikegcknlaaDoorRefReadInt
namespace Go.Proofs.YtpdmcikegcknlaaDoor
open Go.RowKit
set_option linter.unusedVariables false

theorem ints_empty (w : World) (t : TypeId) : IntsAt (w.alloc (.cells #[] t)) (some ⟨w.heap.size, 0, none⟩) [] := IntsAt.nil

set_option maxRecDepth 100000 in
set_option maxHeartbeats 8000000 in
theorem refReadList_any (s : List UInt8) (w : World) (hs : s.length ≤ 10000000) (hlim : (rdL s).2.2 ≠ 4) : GivesR Tryd.prog 31 #[sV s] w (rdL s) := by
  have R0 := Lib.hid (RowI.empty w w.heap.size (Nat.le_refl _))
  have HLim := Lib.hid hlim
  clear hlim
  unfold GivesR
  go_enter Tryd.func31, Tryd.ntmps31
  go_wp2
  go_loopg [5, 6] s.length (fun n v i wr => ∃ (p f : Nat) (acc : List Int), i = .int .i64 p ∧ n + p = s.length ∧ s.length ≤ p + f ∧ acc.length ≤ p ∧ acc.length ≤ 20000 ∧ rdL s = rdA (f + 1) acc p (s.drop p) ∧ Below w.heap.size w wr ∧ RowI w.heap.size v acc wr)
  case atStart => exact ⟨0, s.length, [], rfl, by omega, by omega, by simp, by simp, rfl, (Below.refl _ w).alloc (Nat.le_refl _) _, R0.out⟩
  case round =>
    obtain ⟨p, f, acc, rfl, hp, hf, hacc, hacc2, hX, hB, hR⟩ := hrel
    have HP := Lib.hid hp
    have hple : p ≤ s.length := by omega
    have HX := Lib.hid hX
    have HB := Lib.hid hB
    have HR := Lib.hid hR
    have hz0 := hB.size
    clear hX hB hR hp
    by_cases hlt : p < s.length
    · have hd := Lib.hid (List.drop_eq_getElem_cons hlt)
      have q1 : ((p : Int) == (s.length : Int)) = false := by rw [beq_eq_false_iff_ne]; omega
      by_cases hc : s[p] = 1
      · have b0 : ((s[p].toNat : Int) == 1) = true := by rw [hc]; rfl
        have HZ := Lib.hid (show rdL s = (acc, p + 1, 0) by rw [HX.out, hd.out, rdA, if_pos hc])
        obtain ⟨x, cap, rfl, hI, -, hx⟩ := HR.out.ints
        have HI := Lib.hid hI
        have Hx := Lib.hid hx
        clear hI hx hc
        go_wp2
        go_ret3
        exact ⟨⟨x, cap, by rw [HZ.out]; go_num, by rw [HZ.out]; exact HI.out, Hx.out⟩, HB.out⟩
      · have b0 : ((s[p].toNat : Int) == 1) = false := byte_ne 1 hc (by omega)
        by_cases hl : acc.length = 20000
        · exact absurd (show (rdL s).2.2 = 4 by rw [HX.out, hd.out, rdA, if_neg hc, if_pos hl]) HLim.out
        · have bl : ((acc.length : Int) == 20000) = false := by rw [beq_eq_false_iff_ne]; omega
          have HC := Lib.hid hc
          have HL := Lib.hid hl
          obtain ⟨x, cap, hv, -, -, -⟩ := HR.out.ints
          subst hv
          clear hc hl
          have I := Lib.hid (fun W => refReadInt_any (s.drop p) W (by simp; omega))
          unfold rdV at I
          go_wp2_with fail
          refine (I.out _).mono ?_
          intro w1 hB1
          have HR1 := Lib.hid (HR.out.ext hB1)
          have HB1 := Lib.hid (show Below w.heap.size w w1 from Ext.trans HB.out hB1)
          have hz1 := HB1.out.size
          clear hB1 I
          by_cases he : (rdI (s.drop p)).2.2 = 0
          · have HZ := Lib.hid (show rdL s = rdA f (acc ++ [(rdI (s.drop p)).1]) (p + (rdI (s.drop p)).2.1) ((s.drop p).drop (rdI (s.drop p)).2.1) by
              have he2 := he
              rw [hd.out] at he2 ⊢
              rw [HX.out, hd.out, rdA_step HC.out HL.out he2])
            have HS := Lib.hid (rdI_size he)
            have hsz : p + (rdI (s.drop p)).2.1 ≤ s.length := by have := HS.out.2.1; simp at this; omega
            have hsz1 : 1 ≤ (rdI (s.drop p)).2.1 := HS.out.1
            rw [he]
            clear he HS
            generalize hn : (rdI (s.drop p)).1 = n at *
            clear hn
            generalize hz : (rdI (s.drop p)).2.1 = z at *
            clear hz
            obtain ⟨f', hf'⟩ : ∃ f', f = f' + 1 := ⟨f - 1, by omega⟩
            have HF := Lib.hid hf'
            clear hf'
            go_wp2_with (at_builtin; go_loud (refine wp_appI rfl _ _ (by rfl) w.heap.size _ _ (by rfl) _ HR1.out n (by rfl) (by omega) hz1 ?_); intro v' w3 hR3 hB3; have HR3 := Lib.hid hR3; have HB3 := Lib.hid (Below.trans HB1.out hB3); clear hR3 hB3)
            go_roundg (s.length - (p + z))
            case measure => have := HP.out; omega
            case rel =>
              have h3 := HF.out
              have h4 := HL.out
              have h5 := HZ.out
              rw [List.drop_drop, h3] at h5
              exact ⟨p + z, f', acc ++ [n], by go_num, by omega, by omega, by simp; omega, by simp; omega, h5, HB3.out, HR3.out⟩
          · have HZ := Lib.hid (show rdL s = ([], 0, (rdI (s.drop p)).2.2) by
              have he2 := he
              rw [hd.out] at he2 ⊢
              rw [HX.out, hd.out, rdA_bad HC.out HL.out he2])
            have bn : ((rdI (s.drop p)).2.2 != 0) = true := by rw [bne_iff_ne]; exact he
            clear he
            go_wp2
            go_ret3
            exact ⟨⟨_, _, by rw [HZ.out]; rfl, by rw [HZ.out]; exact IntsAt.nil, (fun h => by cases h)⟩, HB1.out.alloc hz1 _⟩
    · have HZ := Lib.hid (show rdL s = ([], 0, 11) by rw [HX.out, List.drop_eq_nil_of_le (by omega), rdA])
      have q1 : ((p : Int) == (s.length : Int)) = true := by rw [beq_iff_eq]; omega
      go_wp2
      go_ret3
      exact ⟨⟨_, _, by rw [HZ.out]; rfl, by rw [HZ.out]; exact IntsAt.nil, (fun h => by cases h)⟩, HB.out.alloc hz0 _⟩

end Go.Proofs.YtpdmcikegcknlaaDoor
