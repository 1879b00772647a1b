/- VclockCodec: the walk. Printed by mk_vcl.py. -/
import Derived.Test.YtaplbcmpjhdohaaLawClocks
import Derived.Test.YtaplbcmpjhdohaaVc5
namespace Go.Proofs.Ytaplbcmpjhdohaa
open Go.RowKit
set_option linter.unusedVariables false
set_option linter.unusedSimpArgs false

theorem dc_enc {l : List Int} (hc : chk l = 0) : dcL (encL l) = l ∧ dcE (encL l) = 0 := by
  have h1 := chk_len hc
  have h2 := rdL_enc l [] (chk_inR hc) (by omega)
  rw [List.append_nil] at h2
  unfold dcL dcE
  rw [h2]
  simp [hc]
theorem dc_nil : dcL [] = [] ∧ dcE [] = 12 := by decide +kernel
theorem dc_ok {s : List UInt8} (h : dcE s = 0) : chk (dcL s) = 0 ∧ encL (dcL s) = s := by
  unfold dcE at h
  unfold dcL
  split at h
  · simp at h
  · rename_i h2
    rw [if_neg h2]
    have h3 : (rdL s).2.2 = 0 := by omega
    have h4 : (rdL s).2.1 = s.length := by omega
    have h5 : chk (rdL s).1 = 0 := by omega
    have h6 := rdL_ok h3
    refine ⟨h5, ?_⟩
    rw [← h6.2.2.2.1, h4, List.take_length]
theorem dc_err {s : List UInt8} (h : dcE s ≠ 0) : dcE s = 12 ∧ dcL s = [] := by
  unfold dcE at h ⊢
  unfold dcL
  split at h
  · rename_i h2; rw [if_pos h2, if_pos h2]; exact ⟨rfl, rfl⟩
  · simp at h

set_option maxRecDepth 100000 in
set_option maxHeartbeats 16000000 in
theorem vcodec_yes (l : List Int) (a : Option Addr) (c : Nat) (s : List UInt8) (w : World) (hl : l.length ≤ 34) (hs : s.length ≤ 400) (h : IntsAt w a l) (hc : chk l = 0) :
    Gives Try.prog 8 #[.slice a l.length c, .string (sB s)] w (.bool true) := by
  have G := greatS a l.length c w 23
  rw [show longB (a, l.length, c) = false by simp [longB]; omega] at G
  have hl' : l.length ≤ maxLen := by unfold maxLen; omega
  have d2 : decide ((400 : Int) < (s.length : Int)) = false := by simp; omega
  have C1 := Lib.hid (fun W (hW : Ext w W) => Encode_any l a c W hl' (h.below hW))
  have C4 := Lib.hid (fun W (hW : Ext w W) => Check_any l a c W hl' (h.below hW))
  have C5 := Lib.hid (fun W => Decode_any s W (by omega))
  have L3 := dcL_len s
  have HI := Lib.hid h
  unfold GivesL at C5
  rw [show ecS l = encL l by unfold ecS; rw [if_neg (by simp [hc])], show ecE l = 0 by unfold ecE; rw [if_neg (by simp [hc])]] at C1
  have L4 : (encL l).length ≤ 1000 := by have := encs_len l (chk_inR hc); simp [encL]; omega
  have C2 := Lib.hid (fun W => Decode_any (encL l) W L4)
  rw [(dc_enc hc).1, (dc_enc hc).2] at C2
  rw [hc] at C4
  unfold GivesL at C2
  have HS := Lib.hid (fun W y d (hE : Ext w W) (hI : IntsAt W y l) => sameSelf l a y c d W (by omega) (HI.out.below hE) hI)
  clear h hc hl' L4
  generalize encL l = x1 at *
  unfold Gives
  go_enter Try.func8, Try.ntmps8
  go_wp2_with fail
  refine G.mono ?_
  intro w0 hB0
  have H0 := Lib.hid (show Ext w w0 from Ext.trans (show Ext w (w.alloc (.cells #[.slice a l.length c] 23)) from (Below.refl _ w).alloc (Nat.le_refl _) _) hB0)
  clear hB0 G
  go_wp2_with fail
  refine (C1.out _ H0.out).mono ?_
  intro w1 hB
  have H1 := Lib.hid (Ext.trans H0.out hB)
  clear hB H0 C1
  go_wp2_with fail
  refine (C2.out _).mono ?_
  rintro _ w2 ⟨⟨xP, cP, rfl, hP⟩, hB⟩
  have P := Lib.hid hP
  clear hP
  have H2 := Lib.hid (Ext.trans H1.out hB)
  clear hB H1 C2
  go_wp2_with fail
  refine (C4.out _ H2.out).mono ?_
  intro w3 hB
  have P := Lib.hid (P.out.below hB)
  have H3 := Lib.hid (Ext.trans H2.out hB)
  clear hB H2 C4
  go_wp2_with fail
  refine (HS.out _ _ _ H3.out P.out).mono ?_
  intro w4 hB
  have P := Lib.hid (P.out.below hB)
  have H4 := Lib.hid (Ext.trans H3.out hB)
  clear hB H3 HS
  clear P
  by_cases he : dcE s = 0
  · have HD := Lib.hid (dc_ok he)
    have C6 := Lib.hid (fun W x c (hI : IntsAt W x (dcL s)) => Encode_any (dcL s) x c W (by unfold maxLen; omega) hI)
    rw [show ecS (dcL s) = s by unfold ecS; rw [if_neg (by simp [HD.out.1]), HD.out.2], show ecE (dcL s) = 0 by unfold ecE; rw [if_neg (by simp [HD.out.1])]] at C6
    rw [he] at C5
    clear he HD
    generalize dcL s = r2 at *
    go_wp2_with fail
    refine (C5.out _).mono ?_
    rintro _ w5 ⟨⟨xZ, cZ, rfl, hZ⟩, hB⟩
    have Z := Lib.hid hZ
    clear hZ
    have H5 := Lib.hid (Ext.trans H4.out hB)
    clear hB H4 C5
    go_wp2_with fail
    refine (C6.out _ _ _ Z.out).mono ?_
    intro w6 hB
    have Z := Lib.hid (Z.out.below hB)
    have H6 := Lib.hid (Ext.trans H5.out hB)
    clear hB H5 C6
    clear Z
    go_wp2_with fail
    refine (awake_any _).mono ?_
    intro w7 hB
    have H7 := Lib.hid (Ext.trans H6.out hB)
    clear hB H6 
    go_wp2
    go_ret
    exact ⟨rfl, H7.out⟩
  · have HD := dc_err he
    rw [HD.1, HD.2] at C5
    clear he HD
    go_wp2_with fail
    refine (C5.out _).mono ?_
    rintro _ w5 ⟨⟨xZ, cZ, rfl, hZ⟩, hB⟩
    have Z := Lib.hid hZ
    clear hZ
    have H5 := Lib.hid (Ext.trans H4.out hB)
    clear hB H4 C5
    clear Z
    go_wp2_with fail
    refine (awake_any _).mono ?_
    intro w6 hB
    have H6 := Lib.hid (Ext.trans H5.out hB)
    clear hB H5 
    go_wp2
    go_ret
    exact ⟨rfl, H6.out⟩

set_option maxRecDepth 100000 in
set_option maxHeartbeats 16000000 in
theorem vcodec_no (l : List Int) (a : Option Addr) (c : Nat) (s : List UInt8) (w : World) (hl : l.length ≤ 34) (hs : s.length ≤ 400) (h : IntsAt w a l) (hc : chk l ≠ 0) :
    Gives Try.prog 8 #[.slice a l.length c, .string (sB s)] w (.bool true) := by
  have G := greatS a l.length c w 23
  rw [show longB (a, l.length, c) = false by simp [longB]; omega] at G
  have hl' : l.length ≤ maxLen := by unfold maxLen; omega
  have d2 : decide ((400 : Int) < (s.length : Int)) = false := by simp; omega
  have C1 := Lib.hid (fun W (hW : Ext w W) => Encode_any l a c W hl' (h.below hW))
  have C4 := Lib.hid (fun W (hW : Ext w W) => Check_any l a c W hl' (h.below hW))
  have C5 := Lib.hid (fun W => Decode_any s W (by omega))
  have L3 := dcL_len s
  have HI := Lib.hid h
  unfold GivesL at C5
  rw [show ecS l = [] by unfold ecS; rw [if_pos hc], show ecE l = 1 by unfold ecE; rw [if_pos hc]] at C1
  have C2 := Lib.hid (fun W => Decode_any [] W (by simp))
  rw [dc_nil.1, dc_nil.2] at C2
  unfold GivesL at C2
  have hq : (chk l == 0) = false := by simp [hc]
  clear h hc hl'
  generalize chk l = k at *
  unfold Gives
  go_enter Try.func8, Try.ntmps8
  go_wp2_with fail
  refine G.mono ?_
  intro w0 hB0
  have H0 := Lib.hid (show Ext w w0 from Ext.trans (show Ext w (w.alloc (.cells #[.slice a l.length c] 23)) from (Below.refl _ w).alloc (Nat.le_refl _) _) hB0)
  clear hB0 G
  go_wp2_with fail
  refine (C1.out _ H0.out).mono ?_
  intro w1 hB
  have H1 := Lib.hid (Ext.trans H0.out hB)
  clear hB H0 C1
  go_wp2_with fail
  refine (C2.out _).mono ?_
  rintro _ w2 ⟨⟨xP, cP, rfl, hP⟩, hB⟩
  have P := Lib.hid hP
  clear hP
  have H2 := Lib.hid (Ext.trans H1.out hB)
  clear hB H1 C2
  clear P
  go_wp2_with fail
  refine (C4.out _ H2.out).mono ?_
  intro w3 hB
  have H3 := Lib.hid (Ext.trans H2.out hB)
  clear hB H2 C4
  by_cases he : dcE s = 0
  · have HD := Lib.hid (dc_ok he)
    have C6 := Lib.hid (fun W x c (hI : IntsAt W x (dcL s)) => Encode_any (dcL s) x c W (by unfold maxLen; omega) hI)
    rw [show ecS (dcL s) = s by unfold ecS; rw [if_neg (by simp [HD.out.1]), HD.out.2], show ecE (dcL s) = 0 by unfold ecE; rw [if_neg (by simp [HD.out.1])]] at C6
    rw [he] at C5
    clear he HD
    generalize dcL s = r2 at *
    go_wp2_with fail
    refine (C5.out _).mono ?_
    rintro _ w4 ⟨⟨xZ, cZ, rfl, hZ⟩, hB⟩
    have Z := Lib.hid hZ
    clear hZ
    have H4 := Lib.hid (Ext.trans H3.out hB)
    clear hB H3 C5
    go_wp2_with fail
    refine (C6.out _ _ _ Z.out).mono ?_
    intro w5 hB
    have Z := Lib.hid (Z.out.below hB)
    have H5 := Lib.hid (Ext.trans H4.out hB)
    clear hB H4 C6
    clear Z
    go_wp2_with fail
    refine (awake_any _).mono ?_
    intro w6 hB
    have H6 := Lib.hid (Ext.trans H5.out hB)
    clear hB H5 
    go_wp2
    go_ret
    exact ⟨rfl, H6.out⟩
  · have HD := dc_err he
    rw [HD.1, HD.2] at C5
    clear he HD
    go_wp2_with fail
    refine (C5.out _).mono ?_
    rintro _ w4 ⟨⟨xZ, cZ, rfl, hZ⟩, hB⟩
    have Z := Lib.hid hZ
    clear hZ
    have H4 := Lib.hid (Ext.trans H3.out hB)
    clear hB H3 C5
    clear Z
    go_wp2_with fail
    refine (awake_any _).mono ?_
    intro w5 hB
    have H5 := Lib.hid (Ext.trans H4.out hB)
    clear hB H4 
    go_wp2
    go_ret
    exact ⟨rfl, H5.out⟩

theorem vcodec_main (l : List Int) (a : Option Addr) (c : Nat) (s : List UInt8) (w : World) (hl : l.length ≤ 34) (hs : s.length ≤ 400) (h : IntsAt w a l) :
    Gives Try.prog 8 #[.slice a l.length c, .string (sB s)] w (.bool true) := by
  by_cases hc : chk l = 0
  · exact vcodec_yes l a c s w hl hs h hc
  · exact vcodec_no l a c s w hl hs h hc

set_option maxRecDepth 100000 in
set_option maxHeartbeats 4000000 in
theorem vclockCodec_walk (a0 : Option Addr) (len0 cap0 : Nat) (z0 : List Int) (a1 : ByteArray) (w : World) (w0 : IsRow .i64 w a0 len0 cap0 z0) (w1 : a1.size ≤ maxLen) :
    Gives Try.prog 8 #[.slice a0 len0 cap0, .string a1] w (.bool true) := by
  obtain ⟨l, rfl, hl, h, _⟩ := w0.ints
  obtain ⟨s, rfl⟩ := sB_of a1
  clear w0
  have G := greatS a0 l.length cap0 w 23
  by_cases h1 : l.length ≤ 34
  · by_cases h2 : s.length ≤ 400
    · exact vcodec_main l a0 cap0 s w h1 h2 h
    · rw [show longB (a0, l.length, cap0) = false by simp [longB]; omega] at G
      have d2 : decide ((400 : Int) < (s.length : Int)) = true := by simp; omega
      clear h w1
      unfold Gives
      go_enter Try.func8, Try.ntmps8
      go_wp2_with fail
      refine G.mono ?_
      intro w0 hB0
      have H0 := Lib.hid (show Ext w w0 from Ext.trans (show Ext w (w.alloc (.cells #[.slice a0 l.length cap0] 23)) from (Below.refl _ w).alloc (Nat.le_refl _) _) hB0)
      clear hB0 G
      go_wp2_with fail
      refine (awake_any _).mono ?_
      intro w7 hB7
      have H7 := Lib.hid (Ext.trans H0.out hB7)
      clear hB7
      go_wp2
      go_ret
      exact ⟨rfl, H7.out⟩
  · rw [show longB (a0, l.length, cap0) = true by simp [longB]; omega] at G
    clear h w1
    unfold Gives
    go_enter Try.func8, Try.ntmps8
    go_wp2_with fail
    refine G.mono ?_
    intro w0 hB0
    have H0 := Lib.hid (show Ext w w0 from Ext.trans (show Ext w (w.alloc (.cells #[.slice a0 l.length cap0] 23)) from (Below.refl _ w).alloc (Nat.le_refl _) _) hB0)
    clear hB0 G
    go_wp2_with fail
    refine (awake_any _).mono ?_
    intro w7 hB7
    have H7 := Lib.hid (Ext.trans H0.out hB7)
    clear hB7
    go_wp2
    go_ret
    exact ⟨rfl, H7.out⟩

end Go.Proofs.Ytaplbcmpjhdohaa
