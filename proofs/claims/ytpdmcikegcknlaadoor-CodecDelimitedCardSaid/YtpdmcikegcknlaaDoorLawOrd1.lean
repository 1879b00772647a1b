/- CodecOrder: the walk. Printed by mk_ord.py. -/
import Derived.Test.YtpdmcikegcknlaaDoorLawOrd
namespace Go.Proofs.YtpdmcikegcknlaaDoor
open Go.RowKit
set_option linter.unusedVariables false
set_option linter.unusedSimpArgs false

theorem lsE_ok {l : List Int} (hl : l.length ≤ 40) : (l.all inR = true ∧ lsS l = encL l ∧ lsE l = 0) ∨ (lsS l = [] ∧ lsE l = 2) := by
  have h2 : ¬ 20000 < l.length := by omega
  by_cases h : l.all inR = true
  · exact .inl ⟨h, by unfold lsS; rw [if_neg h2, if_pos h], by unfold lsE; rw [if_neg h2, if_pos h]⟩
  · exact .inr ⟨by unfold lsS; rw [if_neg h2, if_neg h], by unfold lsE; rw [if_neg h2, if_neg h]⟩

set_option maxRecDepth 100000 in
set_option maxHeartbeats 8000000 in
theorem order_bad1 (l m : List Int) (a b : Option Addr) (c d : Nat) (t u : List UInt8) (w : World) (hm0 : MaxL w) (hl : l.length ≤ 40) (hm : m.length ≤ 40) (ht : t.length ≤ 400) (hu : u.length ≤ 400) (h : IntsAt w a l) (h' : IntsAt w b m) (hwf : ∀ n ∈ l, (Lit.int .i64 n).wf = true) (hwf' : ∀ n ∈ m, (Lit.int .i64 n).wf = true) (hb : lsS l = [] ∧ lsE l = 2) :
    Gives Tryd.prog 3 #[.slice a l.length c, .slice b m.length d, .string (sB t), .string (sB u)] w (.bool true) := by
  have G := great01_two a b l.length c m.length d w 22
  rw [show (decide (40 < l.length) || decide (40 < m.length)) = false by simp; omega] at G
  have hl' : l.length ≤ maxLen := by unfold maxLen; omega
  have hm' : m.length ≤ maxLen := by unfold maxLen; omega
  have d1 : decide ((400 : Int) < (t.length : Int)) = false := by simp; omega
  have d2 : decide ((400 : Int) < (u.length : Int)) = false := by simp; omega
  have HM := Lib.hid hm0
  have C1 := Lib.hid (fun W (hW : Ext w W) => List_any l a c W hl' (h.below hW) (fun n hn => i64_bd (hwf n hn)))
  have C2 := Lib.hid (fun W (hW : Ext w W) => List_any m b d W hm' (h'.below hW) (fun n hn => i64_bd (hwf' n hn)))
  rw [hb.1, hb.2] at C1
  clear h h' hwf hwf' hm0 hb hl' hm'
  generalize lsS m = x2 at *
  generalize lsE m = e2 at *
  unfold Gives
  go_enter Tryd.func3, Tryd.ntmps3
  go_wp2_with fail
  refine G.mono ?_
  intro w0 hB0
  have H0 := Lib.hid (show Ext w w0 from Ext.trans (show Ext w (w.alloc (.cells #[.slice a l.length c, .slice b m.length d] 22)) from (Below.refl _ w).alloc (Nat.le_refl _) _) hB0)
  clear hB0 G
  go_wp2_with fail
  refine (C1.out _ H0.out).mono ?_
  intro w1 hB
  have H1 := Lib.hid (Ext.trans H0.out hB)
  clear hB H0 C1
  go_wp2_with fail
  refine (C2.out _ H1.out).mono ?_
  intro w2 hB
  have H2 := Lib.hid (Ext.trans H1.out hB)
  clear hB H1 C2
  go_wp2_with fail
  refine (awake1_any _ (HM.out.ext H2.out)).mono ?_
  intro wz hB
  have Hz := Lib.hid (Ext.trans H2.out hB)
  clear hB
  go_wp2
  go_ret
  exact ⟨rfl, Hz.out⟩


set_option maxRecDepth 100000 in
set_option maxHeartbeats 8000000 in
theorem order_bad2 (l m : List Int) (a b : Option Addr) (c d : Nat) (t u : List UInt8) (w : World) (hm0 : MaxL w) (hl : l.length ≤ 40) (hm : m.length ≤ 40) (ht : t.length ≤ 400) (hu : u.length ≤ 400) (h : IntsAt w a l) (h' : IntsAt w b m) (hwf : ∀ n ∈ l, (Lit.int .i64 n).wf = true) (hwf' : ∀ n ∈ m, (Lit.int .i64 n).wf = true) (ha : l.all inR = true ∧ lsS l = encL l ∧ lsE l = 0) (hb : lsS m = [] ∧ lsE m = 2) :
    Gives Tryd.prog 3 #[.slice a l.length c, .slice b m.length d, .string (sB t), .string (sB u)] w (.bool true) := by
  have G := great01_two a b l.length c m.length d w 22
  rw [show (decide (40 < l.length) || decide (40 < m.length)) = false by simp; omega] at G
  have hl' : l.length ≤ maxLen := by unfold maxLen; omega
  have hm' : m.length ≤ maxLen := by unfold maxLen; omega
  have d1 : decide ((400 : Int) < (t.length : Int)) = false := by simp; omega
  have d2 : decide ((400 : Int) < (u.length : Int)) = false := by simp; omega
  have HM := Lib.hid hm0
  have C1 := Lib.hid (fun W (hW : Ext w W) => List_any l a c W hl' (h.below hW) (fun n hn => i64_bd (hwf n hn)))
  have C2 := Lib.hid (fun W (hW : Ext w W) => List_any m b d W hm' (h'.below hW) (fun n hn => i64_bd (hwf' n hn)))
  rw [ha.2.2] at C1
  rw [hb.1, hb.2] at C2
  clear h h' hwf hwf' hm0 ha hb hl' hm'
  generalize lsS l = x1 at *
  unfold Gives
  go_enter Tryd.func3, Tryd.ntmps3
  go_wp2_with fail
  refine G.mono ?_
  intro w0 hB0
  have H0 := Lib.hid (show Ext w w0 from Ext.trans (show Ext w (w.alloc (.cells #[.slice a l.length c, .slice b m.length d] 22)) from (Below.refl _ w).alloc (Nat.le_refl _) _) hB0)
  clear hB0 G
  go_wp2_with fail
  refine (C1.out _ H0.out).mono ?_
  intro w1 hB
  have H1 := Lib.hid (Ext.trans H0.out hB)
  clear hB H0 C1
  go_wp2_with fail
  refine (C2.out _ H1.out).mono ?_
  intro w2 hB
  have H2 := Lib.hid (Ext.trans H1.out hB)
  clear hB H1 C2
  go_wp2_with fail
  refine (awake1_any _ (HM.out.ext H2.out)).mono ?_
  intro wz hB
  have Hz := Lib.hid (Ext.trans H2.out hB)
  clear hB
  go_wp2
  go_ret
  exact ⟨rfl, Hz.out⟩


set_option maxRecDepth 100000 in
set_option maxHeartbeats 16000000 in
theorem order_le (l m : List Int) (a b : Option Addr) (c d : Nat) (t u : List UInt8) (w : World) (hm0 : MaxL w) (hl : l.length ≤ 40) (hm : m.length ≤ 40) (ht : t.length ≤ 400) (hu : u.length ≤ 400) (h : IntsAt w a l) (h' : IntsAt w b m) (hwf : ∀ n ∈ l, (Lit.int .i64 n).wf = true) (hwf' : ∀ n ∈ m, (Lit.int .i64 n).wf = true) (ha : l.all inR = true ∧ lsS l = encL l ∧ lsE l = 0) (hb : m.all inR = true ∧ lsS m = encL m ∧ lsE m = 0) (hK : l.length ≤ m.length) :
    Gives Tryd.prog 3 #[.slice a l.length c, .slice b m.length d, .string (sB t), .string (sB u)] w (.bool true) := by
  have G := great01_two a b l.length c m.length d w 22
  rw [show (decide (40 < l.length) || decide (40 < m.length)) = false by simp; omega] at G
  have hl' : l.length ≤ maxLen := by unfold maxLen; omega
  have hm' : m.length ≤ maxLen := by unfold maxLen; omega
  have d1 : decide ((400 : Int) < (t.length : Int)) = false := by simp; omega
  have d2 : decide ((400 : Int) < (u.length : Int)) = false := by simp; omega
  have HM := Lib.hid hm0
  have C1 := Lib.hid (fun W (hW : Ext w W) => List_any l a c W hl' (h.below hW) (fun n hn => i64_bd (hwf n hn)))
  have C2 := Lib.hid (fun W (hW : Ext w W) => List_any m b d W hm' (h'.below hW) (fun n hn => i64_bd (hwf' n hn)))
  rw [ha.2.1, ha.2.2] at C1
  rw [hb.2.1, hb.2.2] at C2
  have C3 := Lib.hid (fun W => strCmp_any (encL l) (encL m) W)
  rw [encL_cmp l m ha.1 hb.1] at C3
  have C4 := Lib.hid (fun W (hW : Ext w W) => refCompare01_any l m a b c d W hl' hm' (h.below hW) (h'.below hW))
  have T1 := Lib.hid (fun W (hW : MaxL W) => Text_any t W (by omega) hW)
  have T2 := Lib.hid (fun W (hW : MaxL W) => Text_any u W (by omega) hW)
  rw [show txS t = encT t by unfold txS; rw [if_neg (by omega)], show txE t = 0 by unfold txE; rw [if_neg (by omega)]] at T1
  rw [show txS u = encT u by unfold txS; rw [if_neg (by omega)], show txE u = 0 by unfold txE; rw [if_neg (by omega)]] at T2
  have C5 := Lib.hid (fun W => strCmp_any (encT t) (encT u) W)
  rw [encT_cmp] at C5
  have C6 := Lib.hid (fun W => strCmp_any t u W)
  have HA := Lib.hid h
  have HB := Lib.hid h'
  have RA := Lib.hid (fun j (hj : j < l.length) => List.all_eq_true.1 ha.1 l[j] (List.getElem_mem hj))
  have RB := Lib.hid (fun j (hj : j < m.length) => List.all_eq_true.1 hb.1 m[j] (List.getElem_mem hj))
  clear h h' hwf hwf' hm0 ha hb hl' hm'
  generalize encL l = x1 at *
  generalize encL m = x2 at *
  generalize rcmp l m = k1 at *
  generalize encT t = y1 at *
  generalize encT u = y2 at *
  generalize cB t u = k2 at *
  unfold Gives
  go_enter Tryd.func3, Tryd.ntmps3
  go_wp2_with fail
  refine G.mono ?_
  intro w0 hB0
  have H0 := Lib.hid (show Ext w w0 from Ext.trans (show Ext w (w.alloc (.cells #[.slice a l.length c, .slice b m.length d] 22)) from (Below.refl _ w).alloc (Nat.le_refl _) _) hB0)
  clear hB0 G
  go_wp2_with fail
  refine (C1.out _ H0.out).mono ?_
  intro w1 hB
  have H1 := Lib.hid (Ext.trans H0.out hB)
  clear hB H0 C1
  go_wp2_with fail
  refine (C2.out _ H1.out).mono ?_
  intro w2 hB
  have H2 := Lib.hid (Ext.trans H1.out hB)
  clear hB H1 C2
  go_wp2_with fail
  refine (C3.out _).mono ?_
  rintro _ _ ⟨rfl, rfl⟩
  go_wp2_with fail
  refine (C4.out _ H2.out).mono ?_
  intro w3 hB
  have H3 := Lib.hid (Ext.trans H2.out hB)
  clear hB H2 C3 C4
  go_wp2
  go_loopw [66] (fun i wr => ∃ j : Nat, j ≤ l.length ∧ i = .int .i64 j ∧ Ext w wr) (fun i _ => l.length - (intOf i).toNat)
  case atStart => exact ⟨0, Nat.zero_le _, rfl, H3.out⟩
  case round =>
    obtain ⟨j, hj, rfl, hE⟩ := hrel
    have HE := Lib.hid hE
    clear hE
    by_cases hlt : j < l.length
    · have hlt1 : j < l.length := by omega
      have hlt2 : j < m.length := by omega
      obtain ⟨b1, o1, rfl, hc1⟩ := (HA.out.below HE.out).at hlt1
      obtain ⟨b2, o2, rfl, hc2⟩ := (HB.out.below HE.out).at hlt2
      have r1 := (inR_iff _).1 (RA.out j hlt1)
      have r2 := (inR_iff _).1 (RB.out j hlt2)
      have Q3 := Lib.hid (fun W => strCmp_any (enc l[j]) (enc m[j]) W)
      rw [encI_cmp (RA.out j hlt1) (RB.out j hlt2)] at Q3
      have Q4 := Lib.hid (fun W => Tryd.cmp_Compare_int l[j] m[j] W)
      have q3 : (0 : Int) ≤ (j : Int) := by omega
      generalize l[j] = x at *
      generalize m[j] = y at *
      have Q1 := Lib.hid (fun W => Int_yes x W r1.1 r1.2)
      have Q2 := Lib.hid (fun W => Int_yes y W r2.1 r2.2)
      generalize enc x = z1 at *
      generalize enc y = z2 at *
      generalize Go.Lib.compareInt x y = z3 at *
      go_wp2_with fail
      refine (Q1.out _).mono ?_
      intro wa hBa
      have hc1 := (hBa.cell (p := ⟨b1, o1 + j, none⟩) (cell_lt hc1)).trans hc1
      have hc2 := (hBa.cell (p := ⟨b2, o2 + j, none⟩) (cell_lt hc2)).trans hc2
      have Ha := Lib.hid (Ext.trans HE.out hBa)
      clear hBa Q1
      go_wp2_with fail
      refine (Q2.out _).mono ?_
      intro wb hBb
      have hc1 := (hBb.cell (p := ⟨b1, o1 + j, none⟩) (cell_lt hc1)).trans hc1
      have hc2 := (hBb.cell (p := ⟨b2, o2 + j, none⟩) (cell_lt hc2)).trans hc2
      have Hb := Lib.hid (Ext.trans Ha.out hBb)
      clear hBb Q2 Ha
      go_wp2
      go_quiet ((first | (go_at_call 14; exact Calls.quiet_of_same (Q3.out _)) | (go_at_call 17; exact Calls.quiet_of_same (Q4.out _))))
      go_wp2
      go_roundw
      case rel => exact ⟨j + 1, by omega, by go_num, Ext.drewN' Hb.out⟩
      case measure => simp [intOf]; omega
    · have H100 := HE
      go_wp2_with fail
      refine (T1.out _ (HM.out.ext H100.out)).mono ?_
      intro w101 hB
      have H101 := Lib.hid (Ext.trans H100.out hB)
      clear hB H100 T1
      go_wp2_with fail
      refine (T2.out _ (HM.out.ext H101.out)).mono ?_
      intro w102 hB
      have H102 := Lib.hid (Ext.trans H101.out hB)
      clear hB H101 T2
      go_wp2_with fail
      refine (C5.out _).mono ?_
      rintro _ _ ⟨rfl, rfl⟩
      go_wp2_with fail
      refine (C6.out _).mono ?_
      rintro _ _ ⟨rfl, rfl⟩
      go_wp2_with fail
      refine (awake1_any _ (HM.out.ext H102.out)).mono ?_
      intro wz hB
      have Hz := Lib.hid (Ext.trans H102.out hB)
      clear hB
      go_wp2
      go_ret
      exact ⟨rfl, Hz.out⟩


set_option maxRecDepth 100000 in
set_option maxHeartbeats 16000000 in
theorem order_gt (l m : List Int) (a b : Option Addr) (c d : Nat) (t u : List UInt8) (w : World) (hm0 : MaxL w) (hl : l.length ≤ 40) (hm : m.length ≤ 40) (ht : t.length ≤ 400) (hu : u.length ≤ 400) (h : IntsAt w a l) (h' : IntsAt w b m) (hwf : ∀ n ∈ l, (Lit.int .i64 n).wf = true) (hwf' : ∀ n ∈ m, (Lit.int .i64 n).wf = true) (ha : l.all inR = true ∧ lsS l = encL l ∧ lsE l = 0) (hb : m.all inR = true ∧ lsS m = encL m ∧ lsE m = 0) (hK : m.length < l.length) :
    Gives Tryd.prog 3 #[.slice a l.length c, .slice b m.length d, .string (sB t), .string (sB u)] w (.bool true) := by
  have G := great01_two a b l.length c m.length d w 22
  rw [show (decide (40 < l.length) || decide (40 < m.length)) = false by simp; omega] at G
  have hl' : l.length ≤ maxLen := by unfold maxLen; omega
  have hm' : m.length ≤ maxLen := by unfold maxLen; omega
  have d1 : decide ((400 : Int) < (t.length : Int)) = false := by simp; omega
  have d2 : decide ((400 : Int) < (u.length : Int)) = false := by simp; omega
  have HM := Lib.hid hm0
  have C1 := Lib.hid (fun W (hW : Ext w W) => List_any l a c W hl' (h.below hW) (fun n hn => i64_bd (hwf n hn)))
  have C2 := Lib.hid (fun W (hW : Ext w W) => List_any m b d W hm' (h'.below hW) (fun n hn => i64_bd (hwf' n hn)))
  rw [ha.2.1, ha.2.2] at C1
  rw [hb.2.1, hb.2.2] at C2
  have C3 := Lib.hid (fun W => strCmp_any (encL l) (encL m) W)
  rw [encL_cmp l m ha.1 hb.1] at C3
  have C4 := Lib.hid (fun W (hW : Ext w W) => refCompare01_any l m a b c d W hl' hm' (h.below hW) (h'.below hW))
  have T1 := Lib.hid (fun W (hW : MaxL W) => Text_any t W (by omega) hW)
  have T2 := Lib.hid (fun W (hW : MaxL W) => Text_any u W (by omega) hW)
  rw [show txS t = encT t by unfold txS; rw [if_neg (by omega)], show txE t = 0 by unfold txE; rw [if_neg (by omega)]] at T1
  rw [show txS u = encT u by unfold txS; rw [if_neg (by omega)], show txE u = 0 by unfold txE; rw [if_neg (by omega)]] at T2
  have C5 := Lib.hid (fun W => strCmp_any (encT t) (encT u) W)
  rw [encT_cmp] at C5
  have C6 := Lib.hid (fun W => strCmp_any t u W)
  have HA := Lib.hid h
  have HB := Lib.hid h'
  have RA := Lib.hid (fun j (hj : j < l.length) => List.all_eq_true.1 ha.1 l[j] (List.getElem_mem hj))
  have RB := Lib.hid (fun j (hj : j < m.length) => List.all_eq_true.1 hb.1 m[j] (List.getElem_mem hj))
  clear h h' hwf hwf' hm0 ha hb hl' hm'
  generalize encL l = x1 at *
  generalize encL m = x2 at *
  generalize rcmp l m = k1 at *
  generalize encT t = y1 at *
  generalize encT u = y2 at *
  generalize cB t u = k2 at *
  unfold Gives
  go_enter Tryd.func3, Tryd.ntmps3
  go_wp2_with fail
  refine G.mono ?_
  intro w0 hB0
  have H0 := Lib.hid (show Ext w w0 from Ext.trans (show Ext w (w.alloc (.cells #[.slice a l.length c, .slice b m.length d] 22)) from (Below.refl _ w).alloc (Nat.le_refl _) _) hB0)
  clear hB0 G
  go_wp2_with fail
  refine (C1.out _ H0.out).mono ?_
  intro w1 hB
  have H1 := Lib.hid (Ext.trans H0.out hB)
  clear hB H0 C1
  go_wp2_with fail
  refine (C2.out _ H1.out).mono ?_
  intro w2 hB
  have H2 := Lib.hid (Ext.trans H1.out hB)
  clear hB H1 C2
  go_wp2_with fail
  refine (C3.out _).mono ?_
  rintro _ _ ⟨rfl, rfl⟩
  go_wp2_with fail
  refine (C4.out _ H2.out).mono ?_
  intro w3 hB
  have H3 := Lib.hid (Ext.trans H2.out hB)
  clear hB H2 C3 C4
  go_wp2
  go_loopw [66] (fun i wr => ∃ j : Nat, j ≤ m.length ∧ i = .int .i64 j ∧ Ext w wr) (fun i _ => m.length - (intOf i).toNat)
  case atStart => exact ⟨0, Nat.zero_le _, rfl, H3.out⟩
  case round =>
    obtain ⟨j, hj, rfl, hE⟩ := hrel
    have HE := Lib.hid hE
    clear hE
    by_cases hlt : j < m.length
    · have hlt1 : j < l.length := by omega
      have hlt2 : j < m.length := by omega
      obtain ⟨b1, o1, rfl, hc1⟩ := (HA.out.below HE.out).at hlt1
      obtain ⟨b2, o2, rfl, hc2⟩ := (HB.out.below HE.out).at hlt2
      have r1 := (inR_iff _).1 (RA.out j hlt1)
      have r2 := (inR_iff _).1 (RB.out j hlt2)
      have Q3 := Lib.hid (fun W => strCmp_any (enc l[j]) (enc m[j]) W)
      rw [encI_cmp (RA.out j hlt1) (RB.out j hlt2)] at Q3
      have Q4 := Lib.hid (fun W => Tryd.cmp_Compare_int l[j] m[j] W)
      have q3 : (0 : Int) ≤ (j : Int) := by omega
      generalize l[j] = x at *
      generalize m[j] = y at *
      have Q1 := Lib.hid (fun W => Int_yes x W r1.1 r1.2)
      have Q2 := Lib.hid (fun W => Int_yes y W r2.1 r2.2)
      generalize enc x = z1 at *
      generalize enc y = z2 at *
      generalize Go.Lib.compareInt x y = z3 at *
      go_wp2_with fail
      refine (Q1.out _).mono ?_
      intro wa hBa
      have hc1 := (hBa.cell (p := ⟨b1, o1 + j, none⟩) (cell_lt hc1)).trans hc1
      have hc2 := (hBa.cell (p := ⟨b2, o2 + j, none⟩) (cell_lt hc2)).trans hc2
      have Ha := Lib.hid (Ext.trans HE.out hBa)
      clear hBa Q1
      go_wp2_with fail
      refine (Q2.out _).mono ?_
      intro wb hBb
      have hc1 := (hBb.cell (p := ⟨b1, o1 + j, none⟩) (cell_lt hc1)).trans hc1
      have hc2 := (hBb.cell (p := ⟨b2, o2 + j, none⟩) (cell_lt hc2)).trans hc2
      have Hb := Lib.hid (Ext.trans Ha.out hBb)
      clear hBb Q2 Ha
      go_wp2
      go_quiet ((first | (go_at_call 14; exact Calls.quiet_of_same (Q3.out _)) | (go_at_call 17; exact Calls.quiet_of_same (Q4.out _))))
      go_wp2
      go_roundw
      case rel => exact ⟨j + 1, by omega, by go_num, Ext.drewN' Hb.out⟩
      case measure => simp [intOf]; omega
    · have H100 := HE
      go_wp2_with fail
      refine (T1.out _ (HM.out.ext H100.out)).mono ?_
      intro w101 hB
      have H101 := Lib.hid (Ext.trans H100.out hB)
      clear hB H100 T1
      go_wp2_with fail
      refine (T2.out _ (HM.out.ext H101.out)).mono ?_
      intro w102 hB
      have H102 := Lib.hid (Ext.trans H101.out hB)
      clear hB H101 T2
      go_wp2_with fail
      refine (C5.out _).mono ?_
      rintro _ _ ⟨rfl, rfl⟩
      go_wp2_with fail
      refine (C6.out _).mono ?_
      rintro _ _ ⟨rfl, rfl⟩
      go_wp2_with fail
      refine (awake1_any _ (HM.out.ext H102.out)).mono ?_
      intro wz hB
      have Hz := Lib.hid (Ext.trans H102.out hB)
      clear hB
      go_wp2
      go_ret
      exact ⟨rfl, Hz.out⟩


theorem order01_main (l m : List Int) (a b : Option Addr) (c d : Nat) (t u : List UInt8) (w : World) (hm0 : MaxL w) (hl : l.length ≤ 40) (hm : m.length ≤ 40) (ht : t.length ≤ 400) (hu : u.length ≤ 400) (h : IntsAt w a l) (h' : IntsAt w b m) (hwf : ∀ n ∈ l, (Lit.int .i64 n).wf = true) (hwf' : ∀ n ∈ m, (Lit.int .i64 n).wf = true) :
    Gives Tryd.prog 3 #[.slice a l.length c, .slice b m.length d, .string (sB t), .string (sB u)] w (.bool true) := by
  rcases lsE_ok hl with ha | ha
  · rcases lsE_ok hm with hb | hb
    · by_cases hK : l.length ≤ m.length
      · exact order_le l m a b c d t u w hm0 hl hm ht hu h h' hwf hwf' ha hb hK
      · exact order_gt l m a b c d t u w hm0 hl hm ht hu h h' hwf hwf' ha hb (by omega)
    · exact order_bad2 l m a b c d t u w hm0 hl hm ht hu h h' hwf hwf' ha hb
  · exact order_bad1 l m a b c d t u w hm0 hl hm ht hu h h' hwf hwf' ha

set_option maxRecDepth 100000 in
set_option maxHeartbeats 8000000 in
theorem codecOrder_walk (a0 : Option Addr) (len0 cap0 : Nat) (z0 : List Int) (a1 : Option Addr) (len1 cap1 : Nat) (z1 : List Int) (a2 : ByteArray) (a3 : ByteArray) (w : World) (hm : MaxL w) (w0 : IsRow .i64 w a0 len0 cap0 z0) (w1 : IsRow .i64 w a1 len1 cap1 z1) (w2 : a2.size ≤ 140737488351232) (w3 : a3.size ≤ 140737488351232) :
    Gives Tryd.prog 3 #[.slice a0 len0 cap0, .slice a1 len1 cap1, .string a2, .string a3] w (.bool true) := by
  obtain ⟨l0, rfl, hl0, h0, hwf0⟩ := w0.ints'
  clear w0
  obtain ⟨l1, rfl, hl1, h1, hwf1⟩ := w1.ints'
  clear w1
  obtain ⟨s2, rfl⟩ := sB_of a2
  rw [sB_size] at w2
  obtain ⟨s3, rfl⟩ := sB_of a3
  rw [sB_size] at w3
  have HM := Lib.hid hm
  have G := great01_two a0 a1 l0.length cap0 l1.length cap1 w 22
  by_cases g0 : l0.length ≤ 40 ∧ l1.length ≤ 40
  · rw [show (decide (40 < l0.length) || decide (40 < l1.length)) = false by simp; omega] at G
    by_cases g3 : s2.length ≤ 400
    · by_cases g4 : s3.length ≤ 400
      · exact order01_main l0 l1 a0 a1 cap0 cap1 s2 s3 w hm g0.1 g0.2 g3 g4 h0 h1 hwf0 hwf1
      · have q3 : decide ((400 : Int) < (s3.length : Int)) = true := by simp; omega
        have q2 : decide ((400 : Int) < (s2.length : Int)) = false := by simp; omega
        clear h0 hwf0 h1 hwf1 hm
        unfold Gives
        go_enter Tryd.func3, Tryd.ntmps3
        go_wp2_with fail
        refine G.mono ?_
        intro w0 hB0
        have H0 := Lib.hid (show Ext w w0 from Ext.trans (show Ext w (w.alloc (.cells #[.slice a0 l0.length cap0, .slice a1 l1.length cap1] 22)) from (Below.refl _ w).alloc (Nat.le_refl _) _) hB0)
        clear hB0 G
        go_wp2_with fail
        refine (awake1_any _ (HM.out.ext H0.out)).mono ?_
        intro w7 hB7
        have H7 := Lib.hid (Ext.trans H0.out hB7)
        clear hB7
        go_wp2
        go_ret
        exact ⟨rfl, H7.out⟩
    · have q2 : decide ((400 : Int) < (s2.length : Int)) = true := by simp; omega
      clear h0 hwf0 h1 hwf1 hm
      unfold Gives
      go_enter Tryd.func3, Tryd.ntmps3
      go_wp2_with fail
      refine G.mono ?_
      intro w0 hB0
      have H0 := Lib.hid (show Ext w w0 from Ext.trans (show Ext w (w.alloc (.cells #[.slice a0 l0.length cap0, .slice a1 l1.length cap1] 22)) from (Below.refl _ w).alloc (Nat.le_refl _) _) hB0)
      clear hB0 G
      go_wp2_with fail
      refine (awake1_any _ (HM.out.ext H0.out)).mono ?_
      intro w7 hB7
      have H7 := Lib.hid (Ext.trans H0.out hB7)
      clear hB7
      go_wp2
      go_ret
      exact ⟨rfl, H7.out⟩
  · rw [show (decide (40 < l0.length) || decide (40 < l1.length)) = true by simp; omega] at G
    clear h0 hwf0 h1 hwf1 hm
    unfold Gives
    go_enter Tryd.func3, Tryd.ntmps3
    go_wp2_with fail
    refine G.mono ?_
    intro w0 hB0
    have H0 := Lib.hid (show Ext w w0 from Ext.trans (show Ext w (w.alloc (.cells #[.slice a0 l0.length cap0, .slice a1 l1.length cap1] 22)) from (Below.refl _ w).alloc (Nat.le_refl _) _) hB0)
    clear hB0 G
    go_wp2_with fail
    refine (awake1_any _ (HM.out.ext H0.out)).mono ?_
    intro w7 hB7
    have H7 := Lib.hid (Ext.trans H0.out hB7)
    clear hB7
    go_wp2
    go_ret
    exact ⟨rfl, H7.out⟩


end Go.Proofs.YtpdmcikegcknlaaDoor
