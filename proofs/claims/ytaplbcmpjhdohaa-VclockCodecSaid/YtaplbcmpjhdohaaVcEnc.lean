/- Clocks: Encode, Decode, New, Tick and Covers in all cases, and the reference's. -/
import Derived.Test.YtaplbcmpjhdohaaVc8
import Derived.Test.YtaplbcmpjhdohaaRefReadList
import Derived.Test.YtaplbcmpjhdohaaRefList
namespace Go.Proofs.Ytaplbcmpjhdohaa
open Go.RowKit
set_option linter.unusedVariables false

theorem chk_inR {l : List Int} (hc : chk l = 0) : l.all inR = true := by
  rw [List.all_eq_true]
  intro x hx
  have := chk_bad hc x hx
  rw [inR_iff]; omega
theorem chk_lsS {l : List Int} (hc : chk l = 0) : lsS l = encL l := by
  have := chk_len hc
  unfold lsS; rw [if_neg (by omega), if_pos (chk_inR hc)]
theorem chk_lsE {l : List Int} (hc : chk l = 0) : lsE l = 0 := by
  have := chk_len hc
  unfold lsE; rw [if_neg (by omega), if_pos (chk_inR hc)]
def ecS (l : List Int) : List UInt8 := if chk l ≠ 0 then [] else encL l
def ecE (l : List Int) : Int := if chk l ≠ 0 then 1 else 0
def dcL (s : List UInt8) : List Int := if (rdL s).2.2 ≠ 0 ∨ (rdL s).2.1 ≠ s.length ∨ chk (rdL s).1 ≠ 0 then [] else (rdL s).1
def dcE (s : List UInt8) : Int := if (rdL s).2.2 ≠ 0 ∨ (rdL s).2.1 ≠ s.length ∨ chk (rdL s).1 ≠ 0 then 12 else 0

theorem wf_i64 {n : Int} (h : -9223372036854775808 ≤ n ∧ n ≤ 9223372036854775807) : (Lit.int .i64 n).wf = true := by
  simp [Lit.wf, IntKind.min, IntKind.max, IntKind.signed, IntKind.bits]; omega

theorem Encode_any (l : List Int) (a : Option Addr) (cap : Nat) (w : World) (hl : l.length ≤ maxLen) (h : IntsAt w a l) :
    Gives Try.prog 30 #[.slice a l.length cap] w (.tuple #[sV (ecS l), .int .i64 (ecE l)]) := by
  have V := valid_any l a cap w hl h
  unfold Gives
  by_cases hc : chk l = 0
  · have C := Lib.hid (fun W (hB : Below w.heap.size w W) => List_any l a cap W hl (h.below hB) (fun n hn => by have := chk_bad hc n hn; omega))
    rw [chk_lsS hc, chk_lsE hc] at C
    rw [show (chk l == 0) = true by simp [hc]] at V
    rw [show ecS l = encL l by unfold ecS; rw [if_neg (by simp [hc])], show ecE l = 0 by unfold ecE; rw [if_neg (by simp [hc])]]
    clear h hc
    generalize encL l = r at *
    unfold maxLen at hl
    go_enter Try.func30, Try.ntmps30
    go_wp2_with fail
    refine V.mono ?_
    intro w1 hB1
    have H1 := Lib.hid hB1
    clear hB1 V
    go_wp2_with fail
    refine (C.out _ H1.out).mono ?_
    intro w2 hB2
    have H2 := Lib.hid (Ext.trans H1.out hB2)
    clear hB2
    go_wp2
    go_ret2
    exact ⟨rfl, H2.out⟩
  · rw [show (chk l == 0) = false by simp [hc]] at V
    rw [show ecS l = [] by unfold ecS; rw [if_pos hc], show ecE l = 1 by unfold ecE; rw [if_pos hc]]
    clear h hc
    unfold maxLen at hl
    go_enter Try.func30, Try.ntmps30
    go_wp2_with fail
    refine V.mono ?_
    intro w1 hB1
    go_wp2
    go_ret2
    exact ⟨rfl, hB1⟩
theorem refEncode_any (l : List Int) (a : Option Addr) (cap : Nat) (w : World) (hl : l.length ≤ maxLen) (h : IntsAt w a l) :
    Gives Try.prog 37 #[.slice a l.length cap] w (.tuple #[sV (ecS l), .int .i64 (ecE l)]) := by
  have V := refCheck_any l a cap w hl h
  unfold Gives
  by_cases hc : chk l = 0
  · have C := Lib.hid (fun W (hB : Below w.heap.size w W) => refList_any l a cap W hl (h.below hB) (fun n hn => wf_i64 (by have := chk_bad hc n hn; omega)))
    rw [chk_lsS hc, chk_lsE hc] at C
    rw [hc] at V
    rw [show ecS l = encL l by unfold ecS; rw [if_neg (by simp [hc])], show ecE l = 0 by unfold ecE; rw [if_neg (by simp [hc])]]
    clear h hc
    generalize encL l = r at *
    unfold maxLen at hl
    go_enter Try.func37, Try.ntmps37
    go_wp2_with fail
    refine V.mono ?_
    intro w1 hB1
    have H1 := Lib.hid hB1
    clear hB1 V
    go_wp2_with fail
    refine (C.out _ H1.out).mono ?_
    intro w2 hB2
    have H2 := Lib.hid (Ext.trans H1.out hB2)
    clear hB2
    go_wp2
    go_ret2
    exact ⟨rfl, H2.out⟩
  · have hq : (chk l != 0) = true := by rw [bne_iff_ne]; exact hc
    rw [show ecS l = [] by unfold ecS; rw [if_pos hc], show ecE l = 1 by unfold ecE; rw [if_pos hc]]
    clear h hc
    unfold maxLen at hl
    go_enter Try.func37, Try.ntmps37
    go_wp2_with fail
    refine V.mono ?_
    intro w1 hB1
    go_wp2
    go_ret2
    exact ⟨rfl, hB1⟩

theorem rdL_len (s : List UInt8) : (rdL s).1.length ≤ 20000 := by
  by_cases he : (rdL s).2.2 = 0
  · exact (rdL_ok he).2.2.2.2
  · rw [(rdL_err he).1]; simp

set_option maxHeartbeats 2000000 in
theorem Decode_any (s : List UInt8) (w : World) (hs : s.length ≤ 1000) :
    GivesL Try.prog 31 #[sV s] w (dcL s) (dcE s) := by
  have hlim : (rdL s).2.2 ≠ 4 := rdA_lim _ _ _ _ (by simp; omega)
  have C := ReadList_any s w (by omega) hlim
  have hlen := rdL_len s
  have HL := Lib.hid (show dcL s = if (rdL s).2.2 ≠ 0 ∨ (rdL s).2.1 ≠ s.length ∨ chk (rdL s).1 ≠ 0 then [] else (rdL s).1 from rfl)
  have HE := Lib.hid (show dcE s = if (rdL s).2.2 ≠ 0 ∨ (rdL s).2.1 ≠ s.length ∨ chk (rdL s).1 ≠ 0 then 12 else 0 from rfl)
  unfold GivesR at C
  unfold GivesL
  clear hlim
  generalize (rdL s).1 = l at *
  generalize (rdL s).2.1 = z at *
  generalize (rdL s).2.2 = e at *
  by_cases h1 : e = 0
  · subst h1
    by_cases h2 : z = s.length
    · have q2 : ((z : Int) != (s.length : Int)) = false := by simp [h2]
      have H2 := Lib.hid h2
      clear h2
      by_cases h3 : chk l = 0
      · have HL2 := Lib.hid (show dcL s = l by rw [HL.out, if_neg (by simp [H2.out, h3])])
        have HE2 := Lib.hid (show dcE s = 0 by rw [HE.out, if_neg (by simp [H2.out, h3])])
        have q3 : (chk l == 0) = true := by simp [h3]
        clear HL HE h3
        go_enter Try.func31, Try.ntmps31
        go_wp2_with fail
        refine C.mono ?_
        rintro _ w1 ⟨⟨x, c, rfl, hI, -⟩, hB1⟩
        have V := valid_any l x c w1 (by unfold maxLen; omega) hI
        rw [q3] at V
        have HI := Lib.hid hI
        have H1 := Lib.hid hB1
        clear hI hB1 C
        go_wp2_with fail
        refine V.mono ?_
        intro w2 hB2
        have HI2 := Lib.hid (HI.out.below hB2)
        have H2 := Lib.hid (Ext.trans H1.out hB2)
        clear hB2 HI V
        go_wp2
        go_ret2
        exact ⟨⟨x, c, by rw [HL2.out, HE2.out]; rfl, by rw [HL2.out]; exact HI2.out⟩, H2.out⟩
      · have HL2 := Lib.hid (show dcL s = [] by rw [HL.out, if_pos (.inr (.inr h3))])
        have HE2 := Lib.hid (show dcE s = 12 by rw [HE.out, if_pos (.inr (.inr h3))])
        have q3 : (chk l == 0) = false := by simp [h3]
        clear HL HE h3
        go_enter Try.func31, Try.ntmps31
        go_wp2_with fail
        refine C.mono ?_
        rintro _ w1 ⟨⟨x, c, rfl, hI, -⟩, hB1⟩
        have V := valid_any l x c w1 (by unfold maxLen; omega) hI
        rw [q3] at V
        have H1 := Lib.hid hB1
        clear hI hB1 C
        go_wp2_with fail
        refine V.mono ?_
        intro w2 hB2
        have H2 := Lib.hid (Ext.trans H1.out hB2)
        clear hB2 V
        go_wp2
        go_ret2
        exact ⟨⟨_, _, by rw [HL2.out, HE2.out]; rfl, by rw [HL2.out]; exact IntsAt.nil⟩, H2.out⟩
    · have q2 : ((z : Int) != (s.length : Int)) = true := by rw [bne_iff_ne]; omega
      have HL2 := Lib.hid (show dcL s = [] by rw [HL.out, if_pos (.inr (.inl h2))])
      have HE2 := Lib.hid (show dcE s = 12 by rw [HE.out, if_pos (.inr (.inl h2))])
      clear HL HE h2
      go_enter Try.func31, Try.ntmps31
      go_wp2_with fail
      refine C.mono ?_
      rintro _ w1 ⟨⟨x, c, rfl, hI, -⟩, hB1⟩
      have H1 := Lib.hid hB1
      clear hI hB1 C
      go_wp2
      go_ret2
      exact ⟨⟨_, _, by rw [HL2.out, HE2.out]; rfl, by rw [HL2.out]; exact IntsAt.nil⟩, H1.out⟩
  · have q1 : (e != 0) = true := by rw [bne_iff_ne]; exact h1
    have HL2 := Lib.hid (show dcL s = [] by rw [HL.out, if_pos (.inl h1)])
    have HE2 := Lib.hid (show dcE s = 12 by rw [HE.out, if_pos (.inl h1)])
    clear HL HE h1
    go_enter Try.func31, Try.ntmps31
    go_wp2_with fail
    refine C.mono ?_
    rintro _ w1 ⟨⟨x, c, rfl, hI, -⟩, hB1⟩
    have H1 := Lib.hid hB1
    clear hI hB1 C
    go_wp2
    go_ret2
    exact ⟨⟨_, _, by rw [HL2.out, HE2.out]; rfl, by rw [HL2.out]; exact IntsAt.nil⟩, H1.out⟩

end Go.Proofs.Ytaplbcmpjhdohaa
