/- VclockClocks: the walk. Printed by mk_vcl.py. -/
import Derived.Test.YtaplbcmpjhdohaaVcEnc3
import Derived.Test.YtaplbcmpjhdohaaVc5
namespace Go.Proofs.Ytaplbcmpjhdohaa
open Go.RowKit
set_option linter.unusedVariables false
set_option linter.unusedSimpArgs false

theorem nwL_len (n : Int) : (nwL n).length ≤ 32 := by unfold nwL; split <;> simp; omega
theorem dcL_len (s : List UInt8) : (dcL s).length ≤ 20000 := by unfold dcL; have := rdL_len s; split <;> simp; omega
theorem tickL_len (l : List Int) (i : Int) : (tickL l i).length ≤ l.length := by unfold tickL; (repeat' split) <;> simp
theorem sameSelf (l : List Int) (a b : Option Addr) (c c' : Nat) (w : World) (hl : l.length ≤ 100000) (h : IntsAt w a l) (h' : IntsAt w b l) :
    Gives Try.prog 16 #[.slice a l.length c, .slice b l.length c'] w (.bool true) := by
  have := Same_any l l a b c c' w (by unfold maxLen; omega) (by unfold maxLen; omega) h h'
  rw [show (l == l) = true by simp] at this
  exact this

set_option maxRecDepth 100000 in
set_option maxHeartbeats 16000000 in
theorem clocks_main (l : List Int) (a : Option Addr) (c : Nat) (n i : Int) (s : List UInt8) (w : World) (hl : l.length ≤ 34) (hs : s.length ≤ 400) (hn : (Lit.int .i64 n).wf = true) (hi : (Lit.int .i64 i).wf = true) (h : IntsAt w a l) :
    Gives Try.prog 9 #[.slice a l.length c, .int .i64 n, .int .i64 i, .string (sB s)] w (.bool true) := by
  have G := greatS a l.length c w 23
  rw [show longB (a, l.length, c) = false by simp [longB]; omega] at G
  have hl' : l.length ≤ maxLen := by unfold maxLen; omega
  have d2 : decide ((400 : Int) < (s.length : Int)) = false := by simp; omega
  have C1 := Lib.hid (fun W => New_any n W hn)
  have C2 := Lib.hid (fun W => refNew_any n W hn)
  have C3 := Lib.hid (fun W (hW : Ext w W) => Check_any l a c W hl' (h.below hW))
  have C4 := Lib.hid (fun W (hW : Ext w W) => refCheck_any l a c W hl' (h.below hW))
  have C5 := Lib.hid (fun W (hW : Ext w W) => Covers_any l i n a c W hl' hi (h.below hW))
  have C6 := Lib.hid (fun W (hW : Ext w W) => refCovers_any l i n a c W hl' hi (h.below hW))
  have C7 := Lib.hid (fun W (hW : Ext w W) => Tick_any l i a c W hl' hi (h.below hW))
  have C8 := Lib.hid (fun W (hW : Ext w W) => refTick_any l i a c W hl' hi (h.below hW))
  have C9 := Lib.hid (fun W (hW : Ext w W) => Encode_any l a c W hl' (h.below hW))
  have C10 := Lib.hid (fun W (hW : Ext w W) => refEncode_any l a c W hl' (h.below hW))
  have C11 := Lib.hid (fun W => Decode_any s W (by omega))
  have C12 := Lib.hid (fun W => refDecode_any s W (by omega))
  have L1 := nwL_len n
  have L2 := tickL_len l i
  have L3 := dcL_len s
  unfold GivesL at C1 C2 C7 C8 C11 C12
  clear h hn hi hl'
  generalize nwL n = r1 at *
  generalize nwE n = e1 at *
  generalize chk l = k1 at *
  generalize cvB l i n = b1 at *
  generalize tickL l i = r2 at *
  generalize tickE l i = e2 at *
  generalize ecS l = x3 at *
  generalize ecE l = e3 at *
  generalize dcL s = r4 at *
  generalize dcE s = e4 at *
  unfold Gives
  go_enter Try.func9, Try.ntmps9
  go_wp2_with fail
  refine G.mono ?_
  intro w0 hB0
  have H0 := Lib.hid (show Ext w w0 from Ext.trans (show Ext w (w.alloc (.cells #[.slice a l.length c] 23)) from (Below.refl _ w).alloc (Nat.le_refl _) _) hB0)
  clear hB0 G
  go_wp2_with fail
  refine (C1.out _).mono ?_
  rintro _ w1 ⟨⟨xP, cP, rfl, hP⟩, hB⟩
  have P := Lib.hid hP
  clear hP
  have H1 := Lib.hid (Ext.trans H0.out hB)
  clear hB H0 C1
  go_wp2_with fail
  refine (C2.out _).mono ?_
  rintro _ w2 ⟨⟨xQ, cQ, rfl, hQ⟩, hB⟩
  have P := Lib.hid (P.out.below hB)
  have Q := Lib.hid hQ
  clear hQ
  have H2 := Lib.hid (Ext.trans H1.out hB)
  clear hB H1 C2
  go_wp2_with fail
  refine (sameSelf r1 _ _ _ _ _ (by omega) P.out Q.out).mono ?_
  intro w3 hB
  have P := Lib.hid (P.out.below hB)
  have Q := Lib.hid (Q.out.below hB)
  have H3 := Lib.hid (Ext.trans H2.out hB)
  clear hB H2 
  clear P Q
  go_wp2_with fail
  refine (C3.out _ H3.out).mono ?_
  intro w4 hB
  have H4 := Lib.hid (Ext.trans H3.out hB)
  clear hB H3 C3
  go_wp2_with fail
  refine (C4.out _ H4.out).mono ?_
  intro w5 hB
  have H5 := Lib.hid (Ext.trans H4.out hB)
  clear hB H4 C4
  go_wp2_with fail
  refine (C5.out _ H5.out).mono ?_
  intro w6 hB
  have H6 := Lib.hid (Ext.trans H5.out hB)
  clear hB H5 C5
  go_wp2_with fail
  refine (C6.out _ H6.out).mono ?_
  intro w7 hB
  have H7 := Lib.hid (Ext.trans H6.out hB)
  clear hB H6 C6
  go_wp2_with fail
  refine (C7.out _ H7.out).mono ?_
  rintro _ w8 ⟨⟨xP, cP, rfl, hP⟩, hB⟩
  have P := Lib.hid hP
  clear hP
  have H8 := Lib.hid (Ext.trans H7.out hB)
  clear hB H7 C7
  go_wp2_with fail
  refine (C8.out _ H8.out).mono ?_
  rintro _ w9 ⟨⟨xQ, cQ, rfl, hQ⟩, hB⟩
  have P := Lib.hid (P.out.below hB)
  have Q := Lib.hid hQ
  clear hQ
  have H9 := Lib.hid (Ext.trans H8.out hB)
  clear hB H8 C8
  go_wp2_with fail
  refine (sameSelf r2 _ _ _ _ _ (by omega) P.out Q.out).mono ?_
  intro w10 hB
  have P := Lib.hid (P.out.below hB)
  have Q := Lib.hid (Q.out.below hB)
  have H10 := Lib.hid (Ext.trans H9.out hB)
  clear hB H9 
  clear P Q
  go_wp2_with fail
  refine (C9.out _ H10.out).mono ?_
  intro w11 hB
  have H11 := Lib.hid (Ext.trans H10.out hB)
  clear hB H10 C9
  go_wp2_with fail
  refine (C10.out _ H11.out).mono ?_
  intro w12 hB
  have H12 := Lib.hid (Ext.trans H11.out hB)
  clear hB H11 C10
  go_wp2_with fail
  refine (C11.out _).mono ?_
  rintro _ w13 ⟨⟨xP, cP, rfl, hP⟩, hB⟩
  have P := Lib.hid hP
  clear hP
  have H13 := Lib.hid (Ext.trans H12.out hB)
  clear hB H12 C11
  go_wp2_with fail
  refine (C12.out _).mono ?_
  rintro _ w14 ⟨⟨xQ, cQ, rfl, hQ⟩, hB⟩
  have P := Lib.hid (P.out.below hB)
  have Q := Lib.hid hQ
  clear hQ
  have H14 := Lib.hid (Ext.trans H13.out hB)
  clear hB H13 C12
  go_wp2_with fail
  refine (sameSelf r4 _ _ _ _ _ (by omega) P.out Q.out).mono ?_
  intro w15 hB
  have P := Lib.hid (P.out.below hB)
  have Q := Lib.hid (Q.out.below hB)
  have H15 := Lib.hid (Ext.trans H14.out hB)
  clear hB H14 
  clear P Q
  go_wp2_with fail
  refine (awake_any _).mono ?_
  intro w16 hB
  have H16 := Lib.hid (Ext.trans H15.out hB)
  clear hB H15 
  go_wp2
  go_ret
  exact ⟨rfl, H16.out⟩

set_option maxRecDepth 100000 in
set_option maxHeartbeats 4000000 in
theorem vclockClocks_walk (a0 : Option Addr) (len0 cap0 : Nat) (z0 : List Int) (a1 a2 : Int) (a3 : ByteArray) (w : World) (w0 : IsRow .i64 w a0 len0 cap0 z0) (w1 : (Lit.int .i64 a1).wf = true) (w2 : (Lit.int .i64 a2).wf = true) (w3 : a3.size ≤ maxLen) :
    Gives Try.prog 9 #[.slice a0 len0 cap0, .int .i64 a1, .int .i64 a2, .string a3] w (.bool true) := by
  obtain ⟨l, rfl, hl, h, _⟩ := w0.ints
  obtain ⟨s, rfl⟩ := sB_of a3
  clear w0
  have G := greatS a0 l.length cap0 w 23
  by_cases h1 : l.length ≤ 34
  · by_cases h2 : s.length ≤ 400
    · exact clocks_main l a0 cap0 a1 a2 s w h1 h2 w1 w2 h
    · rw [show longB (a0, l.length, cap0) = false by simp [longB]; omega] at G
      have d2 : decide ((400 : Int) < (s.length : Int)) = true := by simp; omega
      clear h w1 w2 w3
      unfold Gives
      go_enter Try.func9, Try.ntmps9
      go_wp2_with fail
      refine G.mono ?_
      intro w0 hB0
      have H0 := Lib.hid (show Ext w w0 from Ext.trans (show Ext w (w.alloc (.cells #[.slice a0 l.length cap0] 23)) from (Below.refl _ w).alloc (Nat.le_refl _) _) hB0)
      clear hB0 G
      go_wp2_with fail
      refine (awake_any _).mono ?_
      intro w7 hB7
      have H7 := Lib.hid (Ext.trans H0.out hB7)
      clear hB7
      go_wp2
      go_ret
      exact ⟨rfl, H7.out⟩
  · rw [show longB (a0, l.length, cap0) = true by simp [longB]; omega] at G
    clear h w1 w2 w3
    unfold Gives
    go_enter Try.func9, Try.ntmps9
    go_wp2_with fail
    refine G.mono ?_
    intro w0 hB0
    have H0 := Lib.hid (show Ext w w0 from Ext.trans (show Ext w (w.alloc (.cells #[.slice a0 l.length cap0] 23)) from (Below.refl _ w).alloc (Nat.le_refl _) _) hB0)
    clear hB0 G
    go_wp2_with fail
    refine (awake_any _).mono ?_
    intro w7 hB7
    have H7 := Lib.hid (Ext.trans H0.out hB7)
    clear hB7
    go_wp2
    go_ret
    exact ⟨rfl, H7.out⟩

end Go.Proofs.Ytaplbcmpjhdohaa
