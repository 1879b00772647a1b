/- CodecLists: the walk. -/
import Derived.Test.YtpdmcikegcknlaaDoorLawTexts
import Derived.Test.YtpdmcikegcknlaaDoorSame1
namespace Go.Proofs.YtpdmcikegcknlaaDoor
open Go.RowKit
set_option linter.unusedVariables false

set_option maxRecDepth 100000 in
set_option maxHeartbeats 8000000 in
theorem lists_main (l : List Int) (a : Option Addr) (c : Nat) (s : List UInt8) (w : World) (hm : MaxL w) (hl : l.length ≤ 40) (hs : s.length ≤ 400) (h : IntsAt w a l) (hwf : ∀ n ∈ l, (Lit.int .i64 n).wf = true) :
    Gives Tryd.prog 7 #[.slice a l.length c, .string (sB s)] w (.bool true) := by
  have G := great01_one a l.length c w 22
  rw [show decide (40 < l.length) = false by simp; omega] at G
  have hb : ∀ n ∈ l, -9223372036854775808 ≤ n ∧ n ≤ 9223372036854775807 := fun n hn => i64_bd (hwf n hn)
  have hlim : (rdL s).2.2 ≠ 4 := rdA_lim _ _ _ _ (by simp; omega)
  have hl' : l.length ≤ maxLen := by unfold maxLen; omega
  have C1 := Lib.hid (fun W (hW : Ext w W) => List_any l a c W hl' (h.below hW) hb)
  have C2 := Lib.hid (fun W (hW : Ext w W) => refList_any l a c W hl' (h.below hW) hwf)
  have C3 := Lib.hid (fun W => ReadList_any s W (by omega) hlim)
  have C4 := Lib.hid (fun W => refReadList_any s W (by omega) hlim)
  have hlen : (rdL s).1.length ≤ 20000 := by
    by_cases he : (rdL s).2.2 = 0
    · exact (rdL_ok he).2.2.2.2
    · rw [(rdL_err he).1]; simp
  have HM := Lib.hid hm
  have d2 : decide ((400 : Int) < (s.length : Int)) = false := by simp; omega
  unfold GivesR at C3 C4
  clear h hb hwf hlim hm
  generalize lsS l = x1 at *
  generalize lsE l = e1 at *
  generalize (rdL s).1 = x2 at *
  generalize (rdL s).2.1 = k2 at *
  generalize (rdL s).2.2 = e2 at *
  unfold Gives
  go_enter Tryd.func7, Tryd.ntmps7
  go_wp2_with fail
  refine G.mono ?_
  intro w0 hB0
  have H0 := Lib.hid (show Ext w w0 from Ext.trans (show Ext w (w.alloc (.cells #[.slice a l.length c] 22)) from (Below.refl _ w).alloc (Nat.le_refl _) _) hB0)
  clear hB0 G
  go_wp2_with fail
  refine (C1.out _ H0.out).mono ?_
  intro w1 hB1
  have H1 := Lib.hid (Ext.trans H0.out hB1)
  clear hB1 C1 H0
  go_wp2_with fail
  refine (C2.out _ H1.out).mono ?_
  intro w2 hB2
  have H2 := Lib.hid (Ext.trans H1.out hB2)
  clear hB2 C2 H1
  go_wp2_with fail
  refine (C3.out _).mono ?_
  rintro _ w3 ⟨⟨x, cx, rfl, hI, -⟩, hB3⟩
  have HI := Lib.hid hI
  have H3 := Lib.hid (Ext.trans H2.out hB3)
  clear hB3 C3 H2 hI
  go_wp2_with fail
  refine (C4.out _).mono ?_
  rintro _ w4 ⟨⟨y, cy, rfl, hJ, -⟩, hB4⟩
  have S := same01_any x2 x2 x y cx cy w4 (by unfold maxLen; omega) (by unfold maxLen; omega) (HI.out.below hB4) hJ
  rw [show (x2 == x2) = true by simp] at S
  have S := Lib.hid S
  have H4 := Lib.hid (Ext.trans H3.out hB4)
  clear hB4 C4 H3 hJ
  go_wp2_with fail
  refine S.out.mono ?_
  intro w5 hB5
  have H5 := Lib.hid (Ext.trans H4.out hB5)
  clear hB5 S H4
  go_wp2_with fail
  refine (awake1_any _ (HM.out.ext H5.out)).mono ?_
  intro w7 hB7
  have H7 := Lib.hid (Ext.trans H5.out hB7)
  clear hB7
  go_wp2
  go_ret
  exact ⟨rfl, H7.out⟩

theorem IsRow.ints' {w : World} {a : Option Addr} {len cap : Nat} {zs : List Int} (h : IsRow .i64 w a len cap zs) :
    ∃ l : List Int, l.length = len ∧ len ≤ maxLen ∧ IntsAt w a l ∧ ∀ n ∈ l, (Lit.int .i64 n).wf = true := by
  obtain ⟨l, h1, h2, h3, h4⟩ := h.ints
  refine ⟨l, h1, h2, h3, fun n hn => ?_⟩
  have := h4 n hn
  simp [Lit.wf, IntKind.min, IntKind.max, IntKind.signed, IntKind.bits]; omega

set_option maxRecDepth 100000 in
set_option maxHeartbeats 8000000 in
theorem codecLists_walk (a0 : Option Addr) (len0 cap0 : Nat) (z0 : List Int) (a1 : ByteArray) (w : World) (hm : MaxL w) (w0 : IsRow .i64 w a0 len0 cap0 z0) (w1 : a1.size ≤ 140737488351232) :
    Gives Tryd.prog 7 #[.slice a0 len0 cap0, .string a1] w (.bool true) := by
  obtain ⟨l, rfl, hl, h, hwf⟩ := w0.ints'
  obtain ⟨s, rfl⟩ := sB_of a1
  rw [sB_size] at w1
  clear w0
  by_cases h1 : l.length ≤ 40
  · by_cases h2 : s.length ≤ 400
    · exact lists_main l a0 cap0 s w hm h1 h2 h hwf
    · have G := great01_one a0 l.length cap0 w 22
      rw [show decide (40 < l.length) = false by simp; omega] at G
      have d2 : decide ((400 : Int) < (s.length : Int)) = true := by simp; omega
      have HM := Lib.hid hm
      clear h hwf hm
      unfold Gives
      go_enter Tryd.func7, Tryd.ntmps7
      go_wp2_with fail
      refine G.mono ?_
      intro w0 hB0
      have H0 := Lib.hid (show Ext w w0 from Ext.trans (show Ext w (w.alloc (.cells #[.slice a0 l.length cap0] 22)) from (Below.refl _ w).alloc (Nat.le_refl _) _) hB0)
      clear hB0 G
      go_wp2_with fail
      refine (awake1_any _ (HM.out.ext H0.out)).mono ?_
      intro w7 hB7
      have H7 := Lib.hid (Ext.trans H0.out hB7)
      clear hB7
      go_wp2
      go_ret
      exact ⟨rfl, H7.out⟩
  · have G := great01_one a0 l.length cap0 w 22
    rw [show decide (40 < l.length) = true by simp; omega] at G
    have HM := Lib.hid hm
    clear h hwf hm
    unfold Gives
    go_enter Tryd.func7, Tryd.ntmps7
    go_wp2_with fail
    refine G.mono ?_
    intro w0 hB0
    have H0 := Lib.hid (show Ext w w0 from Ext.trans (show Ext w (w.alloc (.cells #[.slice a0 l.length cap0] 22)) from (Below.refl _ w).alloc (Nat.le_refl _) _) hB0)
    clear hB0 G
    go_wp2_with fail
    refine (awake1_any _ (HM.out.ext H0.out)).mono ?_
    intro w7 hB7
    have H7 := Lib.hid (Ext.trans H0.out hB7)
    clear hB7
    go_wp2
    go_ret
    exact ⟨rfl, H7.out⟩

end Go.Proofs.YtpdmcikegcknlaaDoor
