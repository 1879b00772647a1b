/- CodecCanonical: the walk. Printed by mk_canon.py. -/
import Derived.Test.YtpdmcikegcknlaaDoorLawTrip
namespace Go.Proofs.YtpdmcikegcknlaaDoor
open Go.RowKit
set_option linter.unusedVariables false
set_option linter.unusedSimpArgs false

/-- what a reader answers, and what the writer answers of it: an error and nothing, or the beginning of s of k bytes -/
structure Cn (s : List UInt8) (k : Nat) (e : Int) (x : List UInt8) (least : Nat) : Prop where
  ok : e = 0 → x = s.take k ∧ least ≤ k ∧ k ≤ s.length

theorem rdL_range (s : List UInt8) : (rdL s).1.all inR = true := by
  by_cases he : (rdL s).2.2 = 0
  · exact (rdL_ok he).1
  · rw [(rdL_err he).1]; rfl

set_option maxRecDepth 100000 in
set_option maxHeartbeats 32000000 in
theorem canon_main (s : List UInt8) (w : World) (hm : MaxL w) (hs : s.length ≤ 400) :
    Gives Tryd.prog 9 #[.string (sB s)] w (.bool true) := by
  have d1 : decide ((400 : Int) < (s.length : Int)) = false := by simp; omega
  have HM := Lib.hid hm
  have A1 := Lib.hid (fun W => ReadInt_any s W (by omega))
  unfold rdV at A1
  have A2 := Lib.hid (fun W => ReadText_any s W (by omega))
  unfold rdXV at A2
  have A3 := Lib.hid (fun W => ReadList_any s W (by omega) (rdA_lim _ _ _ _ (by simp; omega)))
  unfold GivesR at A3
  clear hm
  unfold Gives
  go_enter Tryd.func9, Tryd.ntmps9
  by_cases e0 : (rdI s).2.2 = 0
  · have K := rdI_size e0
    have B := Lib.hid (fun W => Int_yes (rdI s).1 W ((inR_iff _).1 K.2.2.1).1 ((inR_iff _).1 K.2.2.1).2)
    rw [← K.2.2.2.1] at B
    rw [e0] at A1
    have ka0 := K.1
    have kb0 := K.2.1
    clear K e0
    generalize (rdI s).1 = nn0 at *
    generalize (rdI s).2.1 = kk0 at *
    go_wp2_with fail
    refine (A1.out _).mono ?_
    intro w1 hB
    clear A1
    have H1 := Lib.hid (show Ext w w1 from hB)
    clear hB
    go_wp2_with fail
    refine (B.out _).mono ?_
    intro w2 hB
    clear B
    have H2 := Lib.hid (Ext.trans H1.out hB)
    clear hB H1
    by_cases e1 : (rdX s).2.2 = 0
    · have K := rdX_ok e1
      have B := Lib.hid (fun W (hW : MaxL W) => Text_any (rdX s).1 W (by omega) hW)
      rw [show txS (rdX s).1 = s.take (rdX s).2.1 by unfold txS; rw [if_neg (by omega), K.2.2.1], show txE (rdX s).1 = 0 by unfold txE; rw [if_neg (by omega)]] at B
      rw [e1] at A2
      have ka1 : 2 ≤ (rdX s).2.1 := by rw [K.1]; simp [encT]
      have kb1 := K.2.1
      clear K e1
      generalize (rdX s).1 = nn1 at *
      generalize (rdX s).2.1 = kk1 at *
      go_wp2_with fail
      refine (A2.out _).mono ?_
      intro w3 hB
      clear A2
      have H3 := Lib.hid (Ext.trans H2.out hB)
      clear hB H2
      go_wp2_with fail
      refine (B.out _ (HM.out.ext H3.out)).mono ?_
      intro w4 hB
      clear B
      have H4 := Lib.hid (Ext.trans H3.out hB)
      clear hB H3
      by_cases e2 : (rdL s).2.2 = 0
      · have K := rdL_ok e2
        have B := Lib.hid (fun W x c (hI : IntsAt W x (rdL s).1) => List_any (rdL s).1 x c W (by unfold maxLen; omega) hI (fun n hn => by have := (inR_iff n).1 (List.all_eq_true.1 K.1 n hn); omega))
        rw [show lsS (rdL s).1 = s.take (rdL s).2.1 by unfold lsS; rw [if_neg (by omega), if_pos K.1, K.2.2.2.1], show lsE (rdL s).1 = 0 by unfold lsE; rw [if_neg (by omega), if_pos K.1]] at B
        rw [e2] at A3
        have ka2 : 1 ≤ (rdL s).2.1 := by rw [K.2.1]; simp [encL]
        have kb2 := K.2.2.1
        clear K e2
        generalize (rdL s).1 = nn2 at *
        generalize (rdL s).2.1 = kk2 at *
        go_wp2_with fail
        refine (A3.out _).mono ?_
        rintro _ w5 ⟨⟨px, pc, rfl, hI, -⟩, hB⟩
        have HI := Lib.hid hI
        clear hI A3
        have H5 := Lib.hid (Ext.trans H4.out hB)
        clear hB H4
        go_wp2_with fail
        refine (B.out _ _ _ HI.out).mono ?_
        intro w6 hB
        clear B HI
        have H6 := Lib.hid (Ext.trans H5.out hB)
        clear hB H5
        go_wp2_with fail
        refine (awake1_any _ (HM.out.ext H6.out)).mono ?_
        intro wz hB
        have Hz := Lib.hid (Ext.trans H6.out hB)
        clear hB
        go_wp2
        go_ret
        exact ⟨rfl, Hz.out⟩
      · have K := rdL_err e2
        have B := Lib.hid (fun W x c (hI : IntsAt W x []) => List_any [] x c W (by unfold maxLen; simp) hI (by simp))
        rw [K.1, K.2] at A3
        have na2 : ((rdL s).2.2 == 0) = false := by rw [beq_eq_false_iff_ne]; exact e2
        have nb2 : ((rdL s).2.2 != 0) = true := by rw [bne_iff_ne]; exact e2
        clear K e2
        generalize (rdL s).2.2 = gg2 at *
        generalize lsS [] = xa2 at *
        generalize lsE [] = ya2 at *
        go_wp2_with fail
        refine (A3.out _).mono ?_
        rintro _ w5 ⟨⟨px, pc, rfl, hI, -⟩, hB⟩
        have HI := Lib.hid hI
        clear hI A3
        have H5 := Lib.hid (Ext.trans H4.out hB)
        clear hB H4
        go_wp2_with fail
        refine (B.out _ _ _ HI.out).mono ?_
        intro w6 hB
        clear B HI
        have H6 := Lib.hid (Ext.trans H5.out hB)
        clear hB H5
        go_wp2_with fail
        refine (awake1_any _ (HM.out.ext H6.out)).mono ?_
        intro wz hB
        have Hz := Lib.hid (Ext.trans H6.out hB)
        clear hB
        go_wp2
        go_ret
        exact ⟨rfl, Hz.out⟩
    · have K := rdX_err e1
      have B := Lib.hid (fun W (hW : MaxL W) => Text_any [] W (by simp) hW)
      rw [K.1, K.2] at A2
      have na1 : ((rdX s).2.2 == 0) = false := by rw [beq_eq_false_iff_ne]; exact e1
      have nb1 : ((rdX s).2.2 != 0) = true := by rw [bne_iff_ne]; exact e1
      clear K e1
      generalize (rdX s).2.2 = gg1 at *
      generalize txS [] = xa1 at *
      generalize txE [] = ya1 at *
      go_wp2_with fail
      refine (A2.out _).mono ?_
      intro w3 hB
      clear A2
      have H3 := Lib.hid (Ext.trans H2.out hB)
      clear hB H2
      go_wp2_with fail
      refine (B.out _ (HM.out.ext H3.out)).mono ?_
      intro w4 hB
      clear B
      have H4 := Lib.hid (Ext.trans H3.out hB)
      clear hB H3
      by_cases e2 : (rdL s).2.2 = 0
      · have K := rdL_ok e2
        have B := Lib.hid (fun W x c (hI : IntsAt W x (rdL s).1) => List_any (rdL s).1 x c W (by unfold maxLen; omega) hI (fun n hn => by have := (inR_iff n).1 (List.all_eq_true.1 K.1 n hn); omega))
        rw [show lsS (rdL s).1 = s.take (rdL s).2.1 by unfold lsS; rw [if_neg (by omega), if_pos K.1, K.2.2.2.1], show lsE (rdL s).1 = 0 by unfold lsE; rw [if_neg (by omega), if_pos K.1]] at B
        rw [e2] at A3
        have ka2 : 1 ≤ (rdL s).2.1 := by rw [K.2.1]; simp [encL]
        have kb2 := K.2.2.1
        clear K e2
        generalize (rdL s).1 = nn2 at *
        generalize (rdL s).2.1 = kk2 at *
        go_wp2_with fail
        refine (A3.out _).mono ?_
        rintro _ w5 ⟨⟨px, pc, rfl, hI, -⟩, hB⟩
        have HI := Lib.hid hI
        clear hI A3
        have H5 := Lib.hid (Ext.trans H4.out hB)
        clear hB H4
        go_wp2_with fail
        refine (B.out _ _ _ HI.out).mono ?_
        intro w6 hB
        clear B HI
        have H6 := Lib.hid (Ext.trans H5.out hB)
        clear hB H5
        go_wp2_with fail
        refine (awake1_any _ (HM.out.ext H6.out)).mono ?_
        intro wz hB
        have Hz := Lib.hid (Ext.trans H6.out hB)
        clear hB
        go_wp2
        go_ret
        exact ⟨rfl, Hz.out⟩
      · have K := rdL_err e2
        have B := Lib.hid (fun W x c (hI : IntsAt W x []) => List_any [] x c W (by unfold maxLen; simp) hI (by simp))
        rw [K.1, K.2] at A3
        have na2 : ((rdL s).2.2 == 0) = false := by rw [beq_eq_false_iff_ne]; exact e2
        have nb2 : ((rdL s).2.2 != 0) = true := by rw [bne_iff_ne]; exact e2
        clear K e2
        generalize (rdL s).2.2 = gg2 at *
        generalize lsS [] = xa2 at *
        generalize lsE [] = ya2 at *
        go_wp2_with fail
        refine (A3.out _).mono ?_
        rintro _ w5 ⟨⟨px, pc, rfl, hI, -⟩, hB⟩
        have HI := Lib.hid hI
        clear hI A3
        have H5 := Lib.hid (Ext.trans H4.out hB)
        clear hB H4
        go_wp2_with fail
        refine (B.out _ _ _ HI.out).mono ?_
        intro w6 hB
        clear B HI
        have H6 := Lib.hid (Ext.trans H5.out hB)
        clear hB H5
        go_wp2_with fail
        refine (awake1_any _ (HM.out.ext H6.out)).mono ?_
        intro wz hB
        have Hz := Lib.hid (Ext.trans H6.out hB)
        clear hB
        go_wp2
        go_ret
        exact ⟨rfl, Hz.out⟩
  · have K := (rdI_err s).resolve_left e0
    have B := Lib.hid (fun W => Int_yes 0 W (by omega) (by omega))
    rw [K.1, K.2.1] at A1
    have na0 : ((rdI s).2.2 == 0) = false := by rw [beq_eq_false_iff_ne]; exact e0
    have nb0 : ((rdI s).2.2 != 0) = true := by rw [bne_iff_ne]; exact e0
    clear K e0
    generalize (rdI s).2.2 = gg0 at *
    generalize enc 0 = xa0 at *
    go_wp2_with fail
    refine (A1.out _).mono ?_
    intro w1 hB
    clear A1
    have H1 := Lib.hid (show Ext w w1 from hB)
    clear hB
    go_wp2_with fail
    refine (B.out _).mono ?_
    intro w2 hB
    clear B
    have H2 := Lib.hid (Ext.trans H1.out hB)
    clear hB H1
    by_cases e1 : (rdX s).2.2 = 0
    · have K := rdX_ok e1
      have B := Lib.hid (fun W (hW : MaxL W) => Text_any (rdX s).1 W (by omega) hW)
      rw [show txS (rdX s).1 = s.take (rdX s).2.1 by unfold txS; rw [if_neg (by omega), K.2.2.1], show txE (rdX s).1 = 0 by unfold txE; rw [if_neg (by omega)]] at B
      rw [e1] at A2
      have ka1 : 2 ≤ (rdX s).2.1 := by rw [K.1]; simp [encT]
      have kb1 := K.2.1
      clear K e1
      generalize (rdX s).1 = nn1 at *
      generalize (rdX s).2.1 = kk1 at *
      go_wp2_with fail
      refine (A2.out _).mono ?_
      intro w3 hB
      clear A2
      have H3 := Lib.hid (Ext.trans H2.out hB)
      clear hB H2
      go_wp2_with fail
      refine (B.out _ (HM.out.ext H3.out)).mono ?_
      intro w4 hB
      clear B
      have H4 := Lib.hid (Ext.trans H3.out hB)
      clear hB H3
      by_cases e2 : (rdL s).2.2 = 0
      · have K := rdL_ok e2
        have B := Lib.hid (fun W x c (hI : IntsAt W x (rdL s).1) => List_any (rdL s).1 x c W (by unfold maxLen; omega) hI (fun n hn => by have := (inR_iff n).1 (List.all_eq_true.1 K.1 n hn); omega))
        rw [show lsS (rdL s).1 = s.take (rdL s).2.1 by unfold lsS; rw [if_neg (by omega), if_pos K.1, K.2.2.2.1], show lsE (rdL s).1 = 0 by unfold lsE; rw [if_neg (by omega), if_pos K.1]] at B
        rw [e2] at A3
        have ka2 : 1 ≤ (rdL s).2.1 := by rw [K.2.1]; simp [encL]
        have kb2 := K.2.2.1
        clear K e2
        generalize (rdL s).1 = nn2 at *
        generalize (rdL s).2.1 = kk2 at *
        go_wp2_with fail
        refine (A3.out _).mono ?_
        rintro _ w5 ⟨⟨px, pc, rfl, hI, -⟩, hB⟩
        have HI := Lib.hid hI
        clear hI A3
        have H5 := Lib.hid (Ext.trans H4.out hB)
        clear hB H4
        go_wp2_with fail
        refine (B.out _ _ _ HI.out).mono ?_
        intro w6 hB
        clear B HI
        have H6 := Lib.hid (Ext.trans H5.out hB)
        clear hB H5
        go_wp2_with fail
        refine (awake1_any _ (HM.out.ext H6.out)).mono ?_
        intro wz hB
        have Hz := Lib.hid (Ext.trans H6.out hB)
        clear hB
        go_wp2
        go_ret
        exact ⟨rfl, Hz.out⟩
      · have K := rdL_err e2
        have B := Lib.hid (fun W x c (hI : IntsAt W x []) => List_any [] x c W (by unfold maxLen; simp) hI (by simp))
        rw [K.1, K.2] at A3
        have na2 : ((rdL s).2.2 == 0) = false := by rw [beq_eq_false_iff_ne]; exact e2
        have nb2 : ((rdL s).2.2 != 0) = true := by rw [bne_iff_ne]; exact e2
        clear K e2
        generalize (rdL s).2.2 = gg2 at *
        generalize lsS [] = xa2 at *
        generalize lsE [] = ya2 at *
        go_wp2_with fail
        refine (A3.out _).mono ?_
        rintro _ w5 ⟨⟨px, pc, rfl, hI, -⟩, hB⟩
        have HI := Lib.hid hI
        clear hI A3
        have H5 := Lib.hid (Ext.trans H4.out hB)
        clear hB H4
        go_wp2_with fail
        refine (B.out _ _ _ HI.out).mono ?_
        intro w6 hB
        clear B HI
        have H6 := Lib.hid (Ext.trans H5.out hB)
        clear hB H5
        go_wp2_with fail
        refine (awake1_any _ (HM.out.ext H6.out)).mono ?_
        intro wz hB
        have Hz := Lib.hid (Ext.trans H6.out hB)
        clear hB
        go_wp2
        go_ret
        exact ⟨rfl, Hz.out⟩
    · have K := rdX_err e1
      have B := Lib.hid (fun W (hW : MaxL W) => Text_any [] W (by simp) hW)
      rw [K.1, K.2] at A2
      have na1 : ((rdX s).2.2 == 0) = false := by rw [beq_eq_false_iff_ne]; exact e1
      have nb1 : ((rdX s).2.2 != 0) = true := by rw [bne_iff_ne]; exact e1
      clear K e1
      generalize (rdX s).2.2 = gg1 at *
      generalize txS [] = xa1 at *
      generalize txE [] = ya1 at *
      go_wp2_with fail
      refine (A2.out _).mono ?_
      intro w3 hB
      clear A2
      have H3 := Lib.hid (Ext.trans H2.out hB)
      clear hB H2
      go_wp2_with fail
      refine (B.out _ (HM.out.ext H3.out)).mono ?_
      intro w4 hB
      clear B
      have H4 := Lib.hid (Ext.trans H3.out hB)
      clear hB H3
      by_cases e2 : (rdL s).2.2 = 0
      · have K := rdL_ok e2
        have B := Lib.hid (fun W x c (hI : IntsAt W x (rdL s).1) => List_any (rdL s).1 x c W (by unfold maxLen; omega) hI (fun n hn => by have := (inR_iff n).1 (List.all_eq_true.1 K.1 n hn); omega))
        rw [show lsS (rdL s).1 = s.take (rdL s).2.1 by unfold lsS; rw [if_neg (by omega), if_pos K.1, K.2.2.2.1], show lsE (rdL s).1 = 0 by unfold lsE; rw [if_neg (by omega), if_pos K.1]] at B
        rw [e2] at A3
        have ka2 : 1 ≤ (rdL s).2.1 := by rw [K.2.1]; simp [encL]
        have kb2 := K.2.2.1
        clear K e2
        generalize (rdL s).1 = nn2 at *
        generalize (rdL s).2.1 = kk2 at *
        go_wp2_with fail
        refine (A3.out _).mono ?_
        rintro _ w5 ⟨⟨px, pc, rfl, hI, -⟩, hB⟩
        have HI := Lib.hid hI
        clear hI A3
        have H5 := Lib.hid (Ext.trans H4.out hB)
        clear hB H4
        go_wp2_with fail
        refine (B.out _ _ _ HI.out).mono ?_
        intro w6 hB
        clear B HI
        have H6 := Lib.hid (Ext.trans H5.out hB)
        clear hB H5
        go_wp2_with fail
        refine (awake1_any _ (HM.out.ext H6.out)).mono ?_
        intro wz hB
        have Hz := Lib.hid (Ext.trans H6.out hB)
        clear hB
        go_wp2
        go_ret
        exact ⟨rfl, Hz.out⟩
      · have K := rdL_err e2
        have B := Lib.hid (fun W x c (hI : IntsAt W x []) => List_any [] x c W (by unfold maxLen; simp) hI (by simp))
        rw [K.1, K.2] at A3
        have na2 : ((rdL s).2.2 == 0) = false := by rw [beq_eq_false_iff_ne]; exact e2
        have nb2 : ((rdL s).2.2 != 0) = true := by rw [bne_iff_ne]; exact e2
        clear K e2
        generalize (rdL s).2.2 = gg2 at *
        generalize lsS [] = xa2 at *
        generalize lsE [] = ya2 at *
        go_wp2_with fail
        refine (A3.out _).mono ?_
        rintro _ w5 ⟨⟨px, pc, rfl, hI, -⟩, hB⟩
        have HI := Lib.hid hI
        clear hI A3
        have H5 := Lib.hid (Ext.trans H4.out hB)
        clear hB H4
        go_wp2_with fail
        refine (B.out _ _ _ HI.out).mono ?_
        intro w6 hB
        clear B HI
        have H6 := Lib.hid (Ext.trans H5.out hB)
        clear hB H5
        go_wp2_with fail
        refine (awake1_any _ (HM.out.ext H6.out)).mono ?_
        intro wz hB
        have Hz := Lib.hid (Ext.trans H6.out hB)
        clear hB
        go_wp2
        go_ret
        exact ⟨rfl, Hz.out⟩

set_option maxRecDepth 100000 in
set_option maxHeartbeats 8000000 in
theorem codecCanonical_walk (a0 : ByteArray) (w : World) (hm : MaxL w) (w0 : a0.size ≤ 140737488351232) :
    Gives Tryd.prog 9 #[.string a0] w (.bool true) := by
  obtain ⟨s0, rfl⟩ := sB_of a0
  rw [sB_size] at w0
  have HM := Lib.hid hm
  by_cases g1 : s0.length ≤ 400
  · exact canon_main s0 w hm g1
  · have q0 : decide ((400 : Int) < (s0.length : Int)) = true := by simp; omega
    clear hm
    unfold Gives
    go_enter Tryd.func9, Tryd.ntmps9
    go_wp2_with fail
    refine (awake1_any _ HM.out).mono ?_
    intro w7 hB7
    go_wp2
    go_ret
    exact ⟨rfl, hB7⟩


end Go.Proofs.YtpdmcikegcknlaaDoor
