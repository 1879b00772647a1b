/- CodecRoundTrip: the walk. -/
import Derived.Test.YtpdmcikegcknlaaDoorLawLists
namespace Go.Proofs.YtpdmcikegcknlaaDoor
open Go.RowKit
set_option linter.unusedVariables false
set_option linter.unusedSimpArgs false

theorem readInt_enc (n : Int) (r : List UInt8) (w : World) (h : inR n = true) (hr : r.length ≤ 1000) : Gives Tryd.prog 25 #[sV (enc n ++ r)] w (.tuple #[.int .i64 n, .int .i64 ((enc n).length : Int), .int .i64 0]) := by
  have h2 := (inR_iff n).1 h
  have hl := enc_le9 n h2.1 h2.2
  have := ReadInt_any (enc n ++ r) w (by simp; omega)
  unfold rdV at this
  rw [rdI_enc n h2.1 h2.2 r] at this
  exact this
theorem readText_enc (t r : List UInt8) (w : World) (h : t.length ≤ 400) (hr : r.length ≤ 1000) : Gives Tryd.prog 20 #[sV (encT t ++ r)] w (.tuple #[sV t, .int .i64 ((encT t).length : Int), .int .i64 0]) := by
  have hl := (esc_len t).2
  have := ReadText_any (encT t ++ r) w (by simp [encT]; omega)
  unfold rdXV at this
  rw [rdX_enc t r (by omega)] at this
  exact this
theorem readList_enc (l : List Int) (r : List UInt8) (w : World) (h : l.all inR = true) (hl : l.length ≤ 40) (hr : r.length ≤ 1000) : GivesR Tryd.prog 30 #[sV (encL l ++ r)] w (l, (encL l).length, 0) := by
  have hle := encs_len l h
  have := ReadList_any (encL l ++ r) w (by simp [encL]; omega) (by rw [rdL_enc l r h (by omega)]; simp)
  rw [rdL_enc l r h (by omega)] at this
  exact this

/-- how far the loop over the elements has come: all of the first j are in range -/
def TripOk (l : List Int) (j : Nat) : Prop := ∀ i (h : i < l.length), i < j → inR l[i] = true

set_option maxRecDepth 100000 in
set_option maxHeartbeats 16000000 in
theorem trip_main (l : List Int) (a : Option Addr) (c : Nat) (t r : List UInt8) (w : World) (hm : MaxL w) (hl : l.length ≤ 40) (ht : t.length ≤ 400) (hr : r.length ≤ 400) (h : IntsAt w a l) (hwf : ∀ n ∈ l, (Lit.int .i64 n).wf = true) :
    Gives Tryd.prog 8 #[.slice a l.length c, .string (sB t), .string (sB r)] w (.bool true) := by
  have G := great01_one a l.length c w 22
  rw [show decide (40 < l.length) = false by simp; omega] at G
  have hb : ∀ n ∈ l, -9223372036854775808 ≤ n ∧ n ≤ 9223372036854775807 := fun n hn => i64_bd (hwf n hn)
  have hl' : l.length ≤ maxLen := by unfold maxLen; omega
  have d1 : decide ((400 : Int) < (t.length : Int)) = false := by simp; omega
  have d2 : decide ((400 : Int) < (r.length : Int)) = false := by simp; omega
  have HM := Lib.hid hm
  have HH := Lib.hid h
  have HW := Lib.hid hwf
  have HBd := Lib.hid hb
  clear h hb hwf hm
  unfold Gives
  go_enter Tryd.func8, Tryd.ntmps8
  go_wp2_with fail
  refine G.mono ?_
  intro w0 hB0
  have H0 := Lib.hid (show Ext w w0 from Ext.trans (show Ext w (w.alloc (.cells #[.slice a l.length c] 22)) from (Below.refl _ w).alloc (Nat.le_refl _) _) hB0)
  clear hB0 G
  go_wp2
  go_loopw [40] (fun i wr => ∃ j : Nat, j ≤ l.length ∧ i = .int .i64 j ∧ TripOk l j ∧ Ext w wr) (fun i _ => l.length - (intOf i).toNat)
  case atStart => exact ⟨0, Nat.zero_le _, rfl, fun _ _ h => absurd h (Nat.not_lt_zero _), H0.out⟩
  case round =>
    obtain ⟨j, hj, rfl, hT, hE⟩ := hrel
    have HT := Lib.hid hT
    have HE := Lib.hid hE
    clear hT hE
    by_cases hlt : j < l.length
    · obtain ⟨b, off, rfl, hc⟩ := (HH.out.below HE.out).at hlt
      have HWj := Lib.hid (HW.out l[j] (List.getElem_mem hlt))
      have HBj := HBd.out l[j] (List.getElem_mem hlt)
      have HTj := Lib.hid (show inR l[j] = true → TripOk l (j + 1) from fun h i hi hij => by
        rcases Nat.lt_succ_iff_lt_or_eq.1 hij with h1 | h1
        · exact HT.out i hi h1
        · subst h1; exact h)
      generalize l[j] = n at *
      cases hq : inR n with
      | true =>
        have HQ := Lib.hid hq
        have hle := enc_le9 n ((inR_iff n).1 hq).1 ((inR_iff n).1 hq).2
        have C1 := Lib.hid (fun W => Int_yes n W ((inR_iff n).1 HQ.out).1 ((inR_iff n).1 HQ.out).2)
        have C2 := Lib.hid (fun W => readInt_enc n r W HQ.out (by omega))
        clear hq
        generalize enc n = x at *
        go_wp2_with fail
        refine (C1.out _).mono ?_
        intro w1 hB1
        have H1 := Lib.hid (Ext.trans HE.out hB1)
        clear hB1 C1 hc
        go_wp2_with fail
        refine (C2.out _).mono ?_
        intro w2 hB2
        have H2 := Lib.hid (Ext.trans H1.out hB2)
        clear hB2 C2 H1
        go_wp2
        go_roundw
        case rel => exact ⟨j + 1, by omega, by go_num, HTj.out HQ.out, H2.out⟩
        case measure => simp [intOf]; omega
      | false =>
        have hnr : n < -4611686018427387904 ∨ 4611686018427387904 < n := by
          have : ¬ inR n = true := by rw [hq]; simp
          rw [inR_iff] at this; omega
        have HQ := Lib.hid hnr
        have C1 := Lib.hid (fun W => Int_no n W HWj.out HQ.out)
        clear hq hnr
        go_wp2_with fail
        refine (C1.out _).mono ?_
        intro w1 hB1
        have H1 := Lib.hid (Ext.trans HE.out hB1)
        clear hB1 C1 hc
        rcases HQ.out with hn | hn
        · go_wp2_with fail
          refine (awake1_any _ (HM.out.ext H1.out)).mono ?_
          intro w7 hB7
          have H7 := Lib.hid (Ext.trans H1.out hB7)
          clear hB7
          go_wp2
          go_ret
          exact ⟨rfl, H7.out⟩
        · have hn2 : decide (n < -4611686018427387904) = false := by simp; omega
          go_wp2_with fail
          refine (awake1_any _ (HM.out.ext H1.out)).mono ?_
          intro w7 hB7
          have H7 := Lib.hid (Ext.trans H1.out hB7)
          clear hB7
          go_wp2
          go_ret
          exact ⟨rfl, H7.out⟩
    · have hall : l.all inR = true := by
        rw [List.all_eq_true]
        intro x hx
        obtain ⟨i, hi, rfl⟩ := List.mem_iff_getElem.1 hx
        exact HT.out i hi (by omega)
      have C1 := Lib.hid (fun W (hW : MaxL W) => Text_any t W (by omega) hW)
      rw [show txS t = encT t by unfold txS; rw [if_neg (by omega)], show txE t = 0 by unfold txE; rw [if_neg (by omega)]] at C1
      have C2 := Lib.hid (fun W => readText_enc t r W ht (by omega))
      have C3 := Lib.hid (fun W (hW : Ext w W) => List_any l a c W hl' (HH.out.below hW) HBd.out)
      rw [show lsS l = encL l by unfold lsS; rw [if_neg (by omega), if_pos hall], show lsE l = 0 by unfold lsE; rw [if_neg (by omega), if_pos hall]] at C3
      have C4 := Lib.hid (fun W => readList_enc l r W hall hl (by omega))
      have L1 : (encT t).length ≤ 802 := by have := (esc_len t).2; simp [encT]; omega
      have L2 : (encL l).length ≤ 361 := by have := encs_len l hall; simp [encL]; omega
      unfold GivesR at C4
      clear hall HT HBd HW
      generalize encT t = x1 at *
      generalize encL l = x2 at *
      go_wp2_with fail
      refine (C1.out _ (HM.out.ext HE.out)).mono ?_
      intro w1 hB1
      have H1 := Lib.hid (Ext.trans HE.out hB1)
      clear hB1 C1 HE
      go_wp2_with fail
      refine (C2.out _).mono ?_
      intro w2 hB2
      have H2 := Lib.hid (Ext.trans H1.out hB2)
      clear hB2 C2 H1
      go_wp2_with fail
      refine (C3.out _ H2.out).mono ?_
      intro w3 hB3
      have H3 := Lib.hid (Ext.trans H2.out hB3)
      clear hB3 C3 H2
      go_wp2_with fail
      refine (C4.out _).mono ?_
      rintro _ w4 ⟨⟨x, cx, rfl, hI, -⟩, hB4⟩
      have H4 := Lib.hid (Ext.trans H3.out hB4)
      have S := same01_any l l a x c cx w4 hl' hl' (HH.out.below H4.out) hI
      rw [show (l == l) = true by simp] at S
      have S := Lib.hid S
      clear hB4 C4 H3 hI
      go_wp2_with fail
      refine S.out.mono ?_
      intro w5 hB5
      have H5 := Lib.hid (Ext.trans H4.out hB5)
      clear hB5 S H4
      go_wp2_with fail
      refine (awake1_any _ (HM.out.ext H5.out)).mono ?_
      intro w7 hB7
      have H7 := Lib.hid (Ext.trans H5.out hB7)
      clear hB7
      go_wp2
      go_ret
      exact ⟨rfl, H7.out⟩

set_option maxRecDepth 100000 in
set_option maxHeartbeats 8000000 in
theorem codecRoundTrip_walk (a0 : Option Addr) (len0 cap0 : Nat) (z0 : List Int) (a1 : ByteArray) (a2 : ByteArray) (w : World) (hm : MaxL w) (w0 : IsRow .i64 w a0 len0 cap0 z0) (w1 : a1.size ≤ 140737488351232) (w2 : a2.size ≤ 140737488351232) :
    Gives Tryd.prog 8 #[.slice a0 len0 cap0, .string a1, .string a2] w (.bool true) := by
  obtain ⟨l0, rfl, hl0, h0, hwf0⟩ := w0.ints'
  clear w0
  obtain ⟨s1, rfl⟩ := sB_of a1
  rw [sB_size] at w1
  obtain ⟨s2, rfl⟩ := sB_of a2
  rw [sB_size] at w2
  have HM := Lib.hid hm
  have G := great01_one a0 l0.length cap0 w 22
  by_cases g0 : l0.length ≤ 40
  · rw [show decide (40 < l0.length) = false by simp; omega] at G
    by_cases g2 : s1.length ≤ 400
    · by_cases g3 : s2.length ≤ 400
      · exact trip_main l0 a0 cap0 s1 s2 w hm g0 g2 g3 h0 hwf0
      · have q2 : decide ((400 : Int) < (s2.length : Int)) = true := by simp; omega
        have q1 : decide ((400 : Int) < (s1.length : Int)) = false := by simp; omega
        clear h0 hwf0 hm
        unfold Gives
        go_enter Tryd.func8, Tryd.ntmps8
        go_wp2_with fail
        refine G.mono ?_
        intro w0 hB0
        have H0 := Lib.hid (show Ext w w0 from Ext.trans (show Ext w (w.alloc (.cells #[.slice a0 l0.length cap0] 22)) from (Below.refl _ w).alloc (Nat.le_refl _) _) hB0)
        clear hB0 G
        go_wp2_with fail
        refine (awake1_any _ (HM.out.ext H0.out)).mono ?_
        intro w7 hB7
        have H7 := Lib.hid (Ext.trans H0.out hB7)
        clear hB7
        go_wp2
        go_ret
        exact ⟨rfl, H7.out⟩
    · have q1 : decide ((400 : Int) < (s1.length : Int)) = true := by simp; omega
      clear h0 hwf0 hm
      unfold Gives
      go_enter Tryd.func8, Tryd.ntmps8
      go_wp2_with fail
      refine G.mono ?_
      intro w0 hB0
      have H0 := Lib.hid (show Ext w w0 from Ext.trans (show Ext w (w.alloc (.cells #[.slice a0 l0.length cap0] 22)) from (Below.refl _ w).alloc (Nat.le_refl _) _) hB0)
      clear hB0 G
      go_wp2_with fail
      refine (awake1_any _ (HM.out.ext H0.out)).mono ?_
      intro w7 hB7
      have H7 := Lib.hid (Ext.trans H0.out hB7)
      clear hB7
      go_wp2
      go_ret
      exact ⟨rfl, H7.out⟩
  · rw [show decide (40 < l0.length) = true by simp; omega] at G
    clear h0 hwf0 hm
    unfold Gives
    go_enter Tryd.func8, Tryd.ntmps8
    go_wp2_with fail
    refine G.mono ?_
    intro w0 hB0
    have H0 := Lib.hid (show Ext w w0 from Ext.trans (show Ext w (w.alloc (.cells #[.slice a0 l0.length cap0] 22)) from (Below.refl _ w).alloc (Nat.le_refl _) _) hB0)
    clear hB0 G
    go_wp2_with fail
    refine (awake1_any _ (HM.out.ext H0.out)).mono ?_
    intro w7 hB7
    have H7 := Lib.hid (Ext.trans H0.out hB7)
    clear hB7
    go_wp2
    go_ret
    exact ⟨rfl, H7.out⟩


end Go.Proofs.YtpdmcikegcknlaaDoor
