/- CodecDelimited: the walk. Printed by mk_ord.py. -/
import Derived.Test.YtpdmcikegcknlaaDoorLawOrd1
namespace Go.Proofs.YtpdmcikegcknlaaDoor
open Go.RowKit
set_option linter.unusedVariables false
set_option linter.unusedSimpArgs false

theorem hasP_any (a b : List UInt8) (w : World) : Calls Tryd.prog 27 #[sV a, sV b] w fun e w' => e = .returned (.bool (Go.Lib.hasPrefix a b)) ∧ w' = w := by
  have := Tryd.strings_HasPrefix (sB a) (sB b) w
  rw [sB_data, sB_data] at this
  exact this

set_option maxRecDepth 100000 in
set_option maxHeartbeats 8000000 in
theorem delim_bad1 (l m : List Int) (a b : Option Addr) (c d : Nat) (t u : List UInt8) (w : World) (hm0 : MaxL w) (hl : l.length ≤ 40) (hm : m.length ≤ 40) (ht : t.length ≤ 400) (hu : u.length ≤ 400) (h : IntsAt w a l) (h' : IntsAt w b m) (hwf : ∀ n ∈ l, (Lit.int .i64 n).wf = true) (hwf' : ∀ n ∈ m, (Lit.int .i64 n).wf = true) (hb : lsS l = [] ∧ lsE l = 2) :
    Gives Tryd.prog 6 #[.slice a l.length c, .slice b m.length d, .string (sB t), .string (sB u)] w (.bool true) := by
  have G := great01_two a b l.length c m.length d w 22
  rw [show (decide (40 < l.length) || decide (40 < m.length)) = false by simp; omega] at G
  have hl' : l.length ≤ maxLen := by unfold maxLen; omega
  have hm' : m.length ≤ maxLen := by unfold maxLen; omega
  have d1 : decide ((400 : Int) < (t.length : Int)) = false := by simp; omega
  have d2 : decide ((400 : Int) < (u.length : Int)) = false := by simp; omega
  have HM := Lib.hid hm0
  have C1 := Lib.hid (fun W (hW : Ext w W) => List_any l a c W hl' (h.below hW) (fun n hn => i64_bd (hwf n hn)))
  have C2 := Lib.hid (fun W (hW : Ext w W) => List_any m b d W hm' (h'.below hW) (fun n hn => i64_bd (hwf' n hn)))
  have T1 := Lib.hid (fun W (hW : MaxL W) => Text_any t W (by omega) hW)
  have T2 := Lib.hid (fun W (hW : MaxL W) => Text_any u W (by omega) hW)
  rw [hb.1, hb.2] at C1
  clear h h' hwf hwf' hm0 hb hl' hm'
  generalize lsS m = x2 at *
  generalize lsE m = e2 at *
  generalize txS t = y1 at *
  generalize txE t = g1 at *
  generalize txS u = y2 at *
  generalize txE u = g2 at *
  unfold Gives
  go_enter Tryd.func6, Tryd.ntmps6
  go_wp2_with fail
  refine G.mono ?_
  intro w0 hB0
  have H0 := Lib.hid (show Ext w w0 from Ext.trans (show Ext w (w.alloc (.cells #[.slice a l.length c, .slice b m.length d] 22)) from (Below.refl _ w).alloc (Nat.le_refl _) _) hB0)
  clear hB0 G
  go_wp2_with fail
  refine (C1.out _ H0.out).mono ?_
  intro w1 hB
  have H1 := Lib.hid (Ext.trans H0.out hB)
  clear hB H0 C1
  go_wp2_with fail
  refine (C2.out _ H1.out).mono ?_
  intro w2 hB
  have H2 := Lib.hid (Ext.trans H1.out hB)
  clear hB H1 C2
  go_wp2_with fail
  refine (T1.out _ (HM.out.ext H2.out)).mono ?_
  intro w3 hB
  have H3 := Lib.hid (Ext.trans H2.out hB)
  clear hB H2 T1
  go_wp2_with fail
  refine (T2.out _ (HM.out.ext H3.out)).mono ?_
  intro w4 hB
  have H4 := Lib.hid (Ext.trans H3.out hB)
  clear hB H3 T2
  go_wp2_with fail
  refine (awake1_any _ (HM.out.ext H4.out)).mono ?_
  intro wz hB
  have Hz := Lib.hid (Ext.trans H4.out hB)
  clear hB
  go_wp2
  go_ret
  exact ⟨rfl, Hz.out⟩


set_option maxRecDepth 100000 in
set_option maxHeartbeats 8000000 in
theorem delim_bad2 (l m : List Int) (a b : Option Addr) (c d : Nat) (t u : List UInt8) (w : World) (hm0 : MaxL w) (hl : l.length ≤ 40) (hm : m.length ≤ 40) (ht : t.length ≤ 400) (hu : u.length ≤ 400) (h : IntsAt w a l) (h' : IntsAt w b m) (hwf : ∀ n ∈ l, (Lit.int .i64 n).wf = true) (hwf' : ∀ n ∈ m, (Lit.int .i64 n).wf = true) (ha : l.all inR = true ∧ lsS l = encL l ∧ lsE l = 0) (hb : lsS m = [] ∧ lsE m = 2) :
    Gives Tryd.prog 6 #[.slice a l.length c, .slice b m.length d, .string (sB t), .string (sB u)] w (.bool true) := by
  have G := great01_two a b l.length c m.length d w 22
  rw [show (decide (40 < l.length) || decide (40 < m.length)) = false by simp; omega] at G
  have hl' : l.length ≤ maxLen := by unfold maxLen; omega
  have hm' : m.length ≤ maxLen := by unfold maxLen; omega
  have d1 : decide ((400 : Int) < (t.length : Int)) = false := by simp; omega
  have d2 : decide ((400 : Int) < (u.length : Int)) = false := by simp; omega
  have HM := Lib.hid hm0
  have C1 := Lib.hid (fun W (hW : Ext w W) => List_any l a c W hl' (h.below hW) (fun n hn => i64_bd (hwf n hn)))
  have C2 := Lib.hid (fun W (hW : Ext w W) => List_any m b d W hm' (h'.below hW) (fun n hn => i64_bd (hwf' n hn)))
  have T1 := Lib.hid (fun W (hW : MaxL W) => Text_any t W (by omega) hW)
  have T2 := Lib.hid (fun W (hW : MaxL W) => Text_any u W (by omega) hW)
  rw [ha.2.2] at C1
  rw [hb.1, hb.2] at C2
  clear h h' hwf hwf' hm0 ha hb hl' hm'
  generalize lsS l = x1 at *
  generalize txS t = y1 at *
  generalize txE t = g1 at *
  generalize txS u = y2 at *
  generalize txE u = g2 at *
  unfold Gives
  go_enter Tryd.func6, Tryd.ntmps6
  go_wp2_with fail
  refine G.mono ?_
  intro w0 hB0
  have H0 := Lib.hid (show Ext w w0 from Ext.trans (show Ext w (w.alloc (.cells #[.slice a l.length c, .slice b m.length d] 22)) from (Below.refl _ w).alloc (Nat.le_refl _) _) hB0)
  clear hB0 G
  go_wp2_with fail
  refine (C1.out _ H0.out).mono ?_
  intro w1 hB
  have H1 := Lib.hid (Ext.trans H0.out hB)
  clear hB H0 C1
  go_wp2_with fail
  refine (C2.out _ H1.out).mono ?_
  intro w2 hB
  have H2 := Lib.hid (Ext.trans H1.out hB)
  clear hB H1 C2
  go_wp2_with fail
  refine (T1.out _ (HM.out.ext H2.out)).mono ?_
  intro w3 hB
  have H3 := Lib.hid (Ext.trans H2.out hB)
  clear hB H2 T1
  go_wp2_with fail
  refine (T2.out _ (HM.out.ext H3.out)).mono ?_
  intro w4 hB
  have H4 := Lib.hid (Ext.trans H3.out hB)
  clear hB H3 T2
  go_wp2_with fail
  refine (awake1_any _ (HM.out.ext H4.out)).mono ?_
  intro wz hB
  have Hz := Lib.hid (Ext.trans H4.out hB)
  clear hB
  go_wp2
  go_ret
  exact ⟨rfl, Hz.out⟩


set_option maxRecDepth 100000 in
set_option maxHeartbeats 16000000 in
theorem delim_ok (l m : List Int) (a b : Option Addr) (c d : Nat) (t u : List UInt8) (w : World) (hm0 : MaxL w) (hl : l.length ≤ 40) (hm : m.length ≤ 40) (ht : t.length ≤ 400) (hu : u.length ≤ 400) (h : IntsAt w a l) (h' : IntsAt w b m) (hwf : ∀ n ∈ l, (Lit.int .i64 n).wf = true) (hwf' : ∀ n ∈ m, (Lit.int .i64 n).wf = true) (ha : l.all inR = true ∧ lsS l = encL l ∧ lsE l = 0) (hb : m.all inR = true ∧ lsS m = encL m ∧ lsE m = 0) :
    Gives Tryd.prog 6 #[.slice a l.length c, .slice b m.length d, .string (sB t), .string (sB u)] w (.bool true) := by
  have G := great01_two a b l.length c m.length d w 22
  rw [show (decide (40 < l.length) || decide (40 < m.length)) = false by simp; omega] at G
  have hl' : l.length ≤ maxLen := by unfold maxLen; omega
  have hm' : m.length ≤ maxLen := by unfold maxLen; omega
  have d1 : decide ((400 : Int) < (t.length : Int)) = false := by simp; omega
  have d2 : decide ((400 : Int) < (u.length : Int)) = false := by simp; omega
  have HM := Lib.hid hm0
  have C1 := Lib.hid (fun W (hW : Ext w W) => List_any l a c W hl' (h.below hW) (fun n hn => i64_bd (hwf n hn)))
  have C2 := Lib.hid (fun W (hW : Ext w W) => List_any m b d W hm' (h'.below hW) (fun n hn => i64_bd (hwf' n hn)))
  rw [ha.2.1, ha.2.2] at C1
  rw [hb.2.1, hb.2.2] at C2
  have T1 := Lib.hid (fun W (hW : MaxL W) => Text_any t W (by omega) hW)
  have T2 := Lib.hid (fun W (hW : MaxL W) => Text_any u W (by omega) hW)
  rw [show txS t = encT t by unfold txS; rw [if_neg (by omega)], show txE t = 0 by unfold txE; rw [if_neg (by omega)]] at T1
  rw [show txS u = encT u by unfold txS; rw [if_neg (by omega)], show txE u = 0 by unfold txE; rw [if_neg (by omega)]] at T2
  have C3 := Lib.hid (fun W => hasP_any (encT t) (encT u) W)
  rw [encT_prefix t u (by omega) (by omega)] at C3
  have C4 := Lib.hid (fun W => hasP_any (encL l) (encL m) W)
  rw [encL_prefix l m ha.1 hb.1 (by omega) (by omega)] at C4
  have C5 := Lib.hid (fun W (hW : Ext w W) => same01_any l m a b c d W hl' hm' (h.below hW) (h'.below hW))
  have C6 := Lib.hid (fun W => strCmp_any (encs l) (encs m) W)
  rw [encs_cmp l m ha.1 hb.1] at C6
  have C7 := Lib.hid (fun W (hW : Ext w W) => refCompare01_any l m a b c d W hl' hm' (h.below hW) (h'.below hW))
  have L1 : (encs l).length ≤ 360 := by have := encs_len l ha.1; omega
  have L2 : (encs m).length ≤ 360 := by have := encs_len m hb.1; omega
  have HA := Lib.hid h
  have RA := Lib.hid ha.1
  have HZ := Lib.hid (show encs l = encs (l.drop 0) from rfl)
  unfold encL at C1 C2 C4
  clear h h' hwf hwf' hm0 ha hb hl' hm'
  obtain ⟨z1, hz1⟩ : ∃ z, encs l = z := ⟨_, rfl⟩
  obtain ⟨z2, hz2⟩ : ∃ z, encs m = z := ⟨_, rfl⟩
  rw [hz1] at C1 C4 C6 L1 HZ
  rw [hz2] at C2 C4 C6 L2
  clear hz1 hz2
  generalize rcmp l m = k1 at *
  generalize encT t = y1 at *
  generalize encT u = y2 at *
  generalize (l == m) = b2 at *
  have n1 : (z1 ++ [1] == []) = false := by simp
  have n2 : (z2 ++ [1] == []) = false := by simp
  unfold Gives
  go_enter Tryd.func6, Tryd.ntmps6
  go_wp2_with fail
  refine G.mono ?_
  intro w0 hB0
  have H0 := Lib.hid (show Ext w w0 from Ext.trans (show Ext w (w.alloc (.cells #[.slice a l.length c, .slice b m.length d] 22)) from (Below.refl _ w).alloc (Nat.le_refl _) _) hB0)
  clear hB0 G
  go_wp2_with fail
  refine (C1.out _ H0.out).mono ?_
  intro w1 hB
  have H1 := Lib.hid (Ext.trans H0.out hB)
  clear hB H0 C1
  go_wp2_with fail
  refine (C2.out _ H1.out).mono ?_
  intro w2 hB
  have H2 := Lib.hid (Ext.trans H1.out hB)
  clear hB H1 C2
  go_wp2_with fail
  refine (T1.out _ (HM.out.ext H2.out)).mono ?_
  intro w3 hB
  have H3 := Lib.hid (Ext.trans H2.out hB)
  clear hB H2 T1
  go_wp2_with fail
  refine (T2.out _ (HM.out.ext H3.out)).mono ?_
  intro w4 hB
  have H4 := Lib.hid (Ext.trans H3.out hB)
  clear hB H3 T2
  go_wp2_with fail
  refine (C3.out _).mono ?_
  rintro _ _ ⟨rfl, rfl⟩
  go_wp2_with fail
  refine (C4.out _).mono ?_
  rintro _ _ ⟨rfl, rfl⟩
  go_wp2_with fail
  refine (C5.out _ H4.out).mono ?_
  intro w5 hB
  have H5 := Lib.hid (Ext.trans H4.out hB)
  clear hB H4 C3 C4 C5
  go_wp2
  have W1 : IntKind.i64.wrap ((z1.length : Int) + 1 - 1) = (z1.length : Int) := by rw [show (z1.length : Int) + 1 - 1 = (z1.length : Int) by omega]; exact wrapi (by omega) (by omega)
  have W2 : IntKind.i64.wrap ((z2.length : Int) + 1 - 1) = (z2.length : Int) := by rw [show (z2.length : Int) + 1 - 1 = (z2.length : Int) by omega]; exact wrapi (by omega) (by omega)
  go_quiet (fail)
  clear W1 W2
  go_wp2
  go_loopw [17, 108] (fun v i wr => ∃ j : Nat, j ≤ l.length ∧ i = .int .i64 j ∧ v = sV (encs (l.drop j)) ∧ Ext w wr) (fun _ i _ => l.length - (intOf i).toNat)
  case atStart => exact ⟨0, Nat.zero_le _, rfl, by rw [HZ.out], Ext.drewN' H5.out⟩
  case round =>
    obtain ⟨j, hj, rfl, rfl, hE⟩ := hrel
    have HE := Lib.hid hE
    clear hE
    by_cases hlt : j < l.length
    · obtain ⟨b1, o1, rfl, hc1⟩ := (HA.out.below HE.out).at hlt
      have HX := Lib.hid (show encs (l.drop j) = enc l[j] ++ encs (l.drop (j + 1)) by rw [List.drop_eq_getElem_cons hlt, encs_cons])
      have r1 := List.all_eq_true.1 RA.out l[j] (List.getElem_mem hlt)
      have L3 : (encs (l.drop (j + 1))).length ≤ 1000 := by
        have h1 : (l.drop (j + 1)).all inR = true := by rw [List.all_eq_true]; exact fun x hx => List.all_eq_true.1 RA.out x (List.mem_of_mem_drop hx)
        have := encs_len _ h1
        have h2 : (l.drop (j + 1)).length ≤ 40 := by rw [List.length_drop]; omega
        omega
      have Q := Lib.hid (fun W => readInt_enc l[j] (encs (l.drop (j + 1))) W r1 L3)
      have L4 := enc_le9 l[j] ((inR_iff _).1 r1).1 ((inR_iff _).1 r1).2
      rw [← HX.out] at Q
      clear r1
      rw [HX.out]
      rw [HX.out] at Q
      generalize l[j] = x at *
      obtain ⟨z3, hz3⟩ : ∃ z, encs (l.drop (j + 1)) = z := ⟨_, rfl⟩
      rw [hz3] at Q HX L3 ⊢
      have HZ3 := Lib.hid hz3
      clear hz3
      generalize enc x = z4 at *
      go_wp2_with fail
      refine (Q.out _).mono ?_
      intro wa hBa
      have Ha := Lib.hid (Ext.trans HE.out hBa)
      clear hBa Q
      go_wp2
      go_roundw
      case rel =>
        have e : List.drop z4.length (List.take (z4.length + z3.length) (z4 ++ z3)) = z3 := by rw [← List.length_append, List.take_length, List.drop_left' rfl]
        exact ⟨j + 1, by omega, by go_num, by rw [e, HZ3.out], Ha.out⟩
      case measure => simp [intOf]; omega
    · have hnil : encs (l.drop j) = [] := by rw [List.drop_eq_nil_of_le (by omega)]; rfl
      rw [hnil]
      clear hnil
      have H200 := HE
      go_wp2_with fail
      refine (C6.out _).mono ?_
      rintro _ _ ⟨rfl, rfl⟩
      go_wp2_with fail
      refine (C7.out _ H200.out).mono ?_
      intro w201 hB
      have H201 := Lib.hid (Ext.trans H200.out hB)
      clear hB H200 C6 C7
      go_wp2_with fail
      refine (awake1_any _ (HM.out.ext H201.out)).mono ?_
      intro wz hB
      have Hz := Lib.hid (Ext.trans H201.out hB)
      clear hB
      go_wp2
      go_ret
      exact ⟨rfl, Hz.out⟩


theorem delim_main (l m : List Int) (a b : Option Addr) (c d : Nat) (t u : List UInt8) (w : World) (hm0 : MaxL w) (hl : l.length ≤ 40) (hm : m.length ≤ 40) (ht : t.length ≤ 400) (hu : u.length ≤ 400) (h : IntsAt w a l) (h' : IntsAt w b m) (hwf : ∀ n ∈ l, (Lit.int .i64 n).wf = true) (hwf' : ∀ n ∈ m, (Lit.int .i64 n).wf = true) :
    Gives Tryd.prog 6 #[.slice a l.length c, .slice b m.length d, .string (sB t), .string (sB u)] w (.bool true) := by
  rcases lsE_ok hl with ha | ha
  · rcases lsE_ok hm with hb | hb
    · exact delim_ok l m a b c d t u w hm0 hl hm ht hu h h' hwf hwf' ha hb
    · exact delim_bad2 l m a b c d t u w hm0 hl hm ht hu h h' hwf hwf' ha hb
  · exact delim_bad1 l m a b c d t u w hm0 hl hm ht hu h h' hwf hwf' ha

set_option maxRecDepth 100000 in
set_option maxHeartbeats 8000000 in
theorem codecDelimited_walk (a0 : Option Addr) (len0 cap0 : Nat) (z0 : List Int) (a1 : Option Addr) (len1 cap1 : Nat) (z1 : List Int) (a2 : ByteArray) (a3 : ByteArray) (w : World) (hm : MaxL w) (w0 : IsRow .i64 w a0 len0 cap0 z0) (w1 : IsRow .i64 w a1 len1 cap1 z1) (w2 : a2.size ≤ 140737488351232) (w3 : a3.size ≤ 140737488351232) :
    Gives Tryd.prog 6 #[.slice a0 len0 cap0, .slice a1 len1 cap1, .string a2, .string a3] w (.bool true) := by
  obtain ⟨l0, rfl, hl0, h0, hwf0⟩ := w0.ints'
  clear w0
  obtain ⟨l1, rfl, hl1, h1, hwf1⟩ := w1.ints'
  clear w1
  obtain ⟨s2, rfl⟩ := sB_of a2
  rw [sB_size] at w2
  obtain ⟨s3, rfl⟩ := sB_of a3
  rw [sB_size] at w3
  have HM := Lib.hid hm
  have G := great01_two a0 a1 l0.length cap0 l1.length cap1 w 22
  by_cases g0 : l0.length ≤ 40 ∧ l1.length ≤ 40
  · rw [show (decide (40 < l0.length) || decide (40 < l1.length)) = false by simp; omega] at G
    by_cases g3 : s2.length ≤ 400
    · by_cases g4 : s3.length ≤ 400
      · exact delim_main l0 l1 a0 a1 cap0 cap1 s2 s3 w hm g0.1 g0.2 g3 g4 h0 h1 hwf0 hwf1
      · have q3 : decide ((400 : Int) < (s3.length : Int)) = true := by simp; omega
        have q2 : decide ((400 : Int) < (s2.length : Int)) = false := by simp; omega
        clear h0 hwf0 h1 hwf1 hm
        unfold Gives
        go_enter Tryd.func6, Tryd.ntmps6
        go_wp2_with fail
        refine G.mono ?_
        intro w0 hB0
        have H0 := Lib.hid (show Ext w w0 from Ext.trans (show Ext w (w.alloc (.cells #[.slice a0 l0.length cap0, .slice a1 l1.length cap1] 22)) from (Below.refl _ w).alloc (Nat.le_refl _) _) hB0)
        clear hB0 G
        go_wp2_with fail
        refine (awake1_any _ (HM.out.ext H0.out)).mono ?_
        intro w7 hB7
        have H7 := Lib.hid (Ext.trans H0.out hB7)
        clear hB7
        go_wp2
        go_ret
        exact ⟨rfl, H7.out⟩
    · have q2 : decide ((400 : Int) < (s2.length : Int)) = true := by simp; omega
      clear h0 hwf0 h1 hwf1 hm
      unfold Gives
      go_enter Tryd.func6, Tryd.ntmps6
      go_wp2_with fail
      refine G.mono ?_
      intro w0 hB0
      have H0 := Lib.hid (show Ext w w0 from Ext.trans (show Ext w (w.alloc (.cells #[.slice a0 l0.length cap0, .slice a1 l1.length cap1] 22)) from (Below.refl _ w).alloc (Nat.le_refl _) _) hB0)
      clear hB0 G
      go_wp2_with fail
      refine (awake1_any _ (HM.out.ext H0.out)).mono ?_
      intro w7 hB7
      have H7 := Lib.hid (Ext.trans H0.out hB7)
      clear hB7
      go_wp2
      go_ret
      exact ⟨rfl, H7.out⟩
  · rw [show (decide (40 < l0.length) || decide (40 < l1.length)) = true by simp; omega] at G
    clear h0 hwf0 h1 hwf1 hm
    unfold Gives
    go_enter Tryd.func6, Tryd.ntmps6
    go_wp2_with fail
    refine G.mono ?_
    intro w0 hB0
    have H0 := Lib.hid (show Ext w w0 from Ext.trans (show Ext w (w.alloc (.cells #[.slice a0 l0.length cap0, .slice a1 l1.length cap1] 22)) from (Below.refl _ w).alloc (Nat.le_refl _) _) hB0)
    clear hB0 G
    go_wp2_with fail
    refine (awake1_any _ (HM.out.ext H0.out)).mono ?_
    intro w7 hB7
    have H7 := Lib.hid (Ext.trans H0.out hB7)
    clear hB7
    go_wp2
    go_ret
    exact ⟨rfl, H7.out⟩


end Go.Proofs.YtpdmcikegcknlaaDoor
