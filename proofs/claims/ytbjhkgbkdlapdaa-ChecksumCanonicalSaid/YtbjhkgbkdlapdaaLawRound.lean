/- ChecksumRoundTrip, ChecksumCanonical, ChecksumShort: the walks. -/
import Derived.Test.YtbjhkgbkdlapdaaOpPlain
import Derived.Test.YtbjhkgbkdlapdaaLawByte
namespace Go.Proofs.Ytbjhkgbkdlapdaa
open Go.RowKit
set_option linter.unusedVariables false

theorem checksumRoundTrip_walk (a0 a1 : ByteArray) (w : World) (w0 : a0.size ≤ maxLen) (w1 : a1.size ≤ maxLen) :
    Gives Try.prog 8 #[.string a0, .string a1] w (.bool true) := by
  obtain ⟨s, rfl⟩ := sB_of a0
  obtain ⟨t, rfl⟩ := sB_of a1
  rw [sB_size] at w0 w1
  by_cases h5 : s.length ≤ 500 ∧ t.length ≤ 500
  · have S1 := Lib.hid (fun w => Seal_yes s w (by omega))
    have h9 := enc_len9 s (by omega)
    have hF := frame_len s
    have hS := opn_frame s t (by omega)
    have O : opV (frame s ++ t) = .tuple #[sV s, .int .i64 ((frame s).length : Nat), .int .i64 0] := by unfold opV; rw [hS]
    have O1 : ∀ w, Gives Try.prog 23 #[sV (frame s ++ t)] w (opV (frame s ++ t)) := fun w => Open_any _ w (by simp; omega)
    rw [O] at O1
    have O1 := Lib.hid O1
    have d1 : decide (500 < ((s.length : Nat) : Int)) = false := by simp; omega
    have d2 : decide (500 < ((t.length : Nat) : Int)) = false := by simp; omega
    have hL : (frame s).length ≤ 1000 := by omega
    have hAp : (frame s ++ t).length ≤ 2000 := by simp; omega
    clear O w0 w1 hS h9 hF
    generalize frame s = F at *
    unfold Gives
    go_enter Try.func8, Try.ntmps8
    go_wp2_with fail
    refine (S1.out _).mono ?_
    intro w1 hB1
    go_wp2_with fail
    refine (O1.out _).mono ?_
    intro w3 hB3
    have hE3 := Ext.trans hB1 hB3
    clear hB1 hB3
    go_wp2_with fail
    refine (awake_any _).mono ?_
    intro w7 hB7
    go_wp2
    go_ret
    exact ⟨rfl, Ext.trans hE3 hB7⟩
  · have h5' : (decide (500 < ((s.length : Nat) : Int)) || decide (500 < ((t.length : Nat) : Int))) = true := by simp; omega
    unfold maxLen at w0 w1
    unfold Gives
    go_enter Try.func8, Try.ntmps8
    cases h6 : decide (500 < ((s.length : Nat) : Int)) with
    | true =>
      go_wp2_with (go_at_call 13; refine (awake_any _).mono ?_; intro w1 hB1)
      go_ret
      exact ⟨rfl, hB1⟩
    | false =>
      have h7 : decide (500 < ((t.length : Nat) : Int)) = true := by simpa [h6] using h5'
      go_wp2_with (go_at_call 13; refine (awake_any _).mono ?_; intro w1 hB1)
      go_ret
      exact ⟨rfl, hB1⟩

theorem canonical_yes (s x : List UInt8) (w : World) (hs : s.length ≤ 500) (hx : x.length ≤ 100000) (hn : (frame x).length ≤ s.length) (hO : opV s = .tuple #[sV x, .int .i64 ((frame x).length : Nat), .int .i64 0]) (ht : s.take (frame x).length = frame x) :
    Gives Try.prog 9 #[sV s] w (.bool true) := by
  have O1 : ∀ w, Gives Try.prog 23 #[sV s] w (opV s) := fun w => Open_any _ w (by omega)
  rw [hO] at O1
  have O1 := Lib.hid O1
  have S1 := Lib.hid (fun w => Seal_yes x w hx)
  have d1 : decide (500 < ((s.length : Nat) : Int)) = false := by simp; omega
  have d2 : decide (((frame x).length : Int) ≤ ((s.length : Nat) : Int)) = true := by simp; omega
  have hq : (s.take (frame x).length == frame x) = true := by rw [beq_iff_eq]; exact ht
  clear hO ht
  generalize frame x = F at *
  unfold Gives
  go_enter Try.func9, Try.ntmps9
  go_wp2_with fail
  refine (O1.out _).mono ?_
  intro w1 hB1
  go_wp2_with fail
  refine (S1.out _).mono ?_
  intro w3 hB3
  have hE3 := Ext.trans hB1 hB3
  clear hB1 hB3
  go_wp2_with fail
  refine (awake_any _).mono ?_
  intro w7 hB7
  go_wp2
  go_ret
  exact ⟨rfl, Ext.trans hE3 hB7⟩

theorem canonical_no (s : List UInt8) (e : Int) (w : World) (hs : s.length ≤ 500) (he : e ≠ 0) (hO : opV s = .tuple #[sV [], .int .i64 0, .int .i64 e]) :
    Gives Try.prog 9 #[sV s] w (.bool true) := by
  have O1 : ∀ w, Gives Try.prog 23 #[sV s] w (opV s) := fun w => Open_any _ w (by omega)
  rw [hO] at O1
  have O1 := Lib.hid O1
  have d1 : decide (500 < ((s.length : Nat) : Int)) = false := by simp; omega
  have d2 : (e != 0) = true := by rw [bne_iff_ne]; exact he
  clear hO
  unfold Gives
  go_enter Try.func9, Try.ntmps9
  go_wp2_with fail
  refine (O1.out _).mono ?_
  intro w1 hB1
  go_wp2_with fail
  refine (awake_any _).mono ?_
  intro w7 hB7
  go_wp2
  go_ret
  exact ⟨rfl, Ext.trans hB1 hB7⟩

theorem checksumCanonical_walk (a0 : ByteArray) (w : World) (w0 : a0.size ≤ maxLen) :
    Gives Try.prog 9 #[.string a0] w (.bool true) := by
  obtain ⟨s, rfl⟩ := sB_of a0
  rw [sB_size] at w0
  by_cases h5 : s.length ≤ 500
  · by_cases h0 : (opn s).2.2 = 0
    · obtain ⟨b1, b2, b3, b4⟩ := opn_yes s h0
      refine canonical_yes s (opn s).1 w h5 b1 (by omega) ?_ (by rw [← b2]; exact b4)
      unfold opV
      rw [h0, b2]
    · obtain ⟨b1, b2⟩ := opn_no s h0
      refine canonical_no s _ w h5 h0 ?_
      unfold opV
      rw [b1, b2]
      rfl
  · have h5' : decide (500 < ((s.length : Nat) : Int)) = true := by simp; omega
    unfold maxLen at w0
    unfold Gives
    go_enter Try.func9, Try.ntmps9
    go_wp2_with (go_at_call 13; refine (awake_any _).mono ?_; intro w1 hB1)
    go_ret
    exact ⟨rfl, hB1⟩

theorem short_main (s : List UInt8) (t : Nat) (w : World) (hs : s.length ≤ 500) (ht : t ≤ 65535) :
    Gives Try.prog 11 #[sV s, .int .u16 t] w (.bool true) := by
  have S1 := Lib.hid (fun w => Seal_yes s w (by omega))
  have h9 := enc_len9 s (by omega)
  have hF := frame_len s
  have hi : t % (frame s).length < (frame s).length := Nat.mod_lt _ (by omega)
  have hS := opn_short s (t % (frame s).length) (by omega) hi
  have O : opV ((frame s).take (t % (frame s).length)) = .tuple #[sV [], .int .i64 0, .int .i64 11] := by unfold opV; rw [hS]; rfl
  have hL : (frame s).length ≤ 1000 := by omega
  have O1 : ∀ w, Gives Try.prog 23 #[sV ((frame s).take (t % (frame s).length))] w (opV ((frame s).take (t % (frame s).length))) := fun w => Open_any _ w (by simp; omega)
  rw [O] at O1
  have O1 := Lib.hid O1
  have d1 : decide (500 < ((s.length : Nat) : Int)) = false := by simp; omega
  have hl1 : ((((frame s).length : Nat) : Int) == 0) = false := by rw [beq_eq_false_iff_ne]; omega
  have hm : ((t : Nat) : Int).tmod (((frame s).length : Nat) : Int) = ((t % (frame s).length : Nat) : Int) := by rw [Int.tmod_eq_emod_of_nonneg (by omega)]; omega
  have hw := wrapi (x := (t : Int)) (by omega) (by omega)
  clear O hS h9 hF
  generalize frame s = F at *
  unfold Gives
  go_enter Try.func11, Try.ntmps11
  go_wp2_with fail
  refine (S1.out _).mono ?_
  intro w1 hB1
  go_wp2_with fail
  refine (O1.out _).mono ?_
  intro w3 hB3
  have hE3 := Ext.trans hB1 hB3
  clear hB1 hB3
  go_wp2_with fail
  refine (awake_any _).mono ?_
  intro w7 hB7
  go_wp2
  go_ret
  exact ⟨rfl, Ext.trans hE3 hB7⟩

theorem checksumShort_walk (a0 : ByteArray) (a1 : Int) (w : World) (w0 : a0.size ≤ maxLen) (w1 : (Lit.int .u16 a1).wf = true) :
    Gives Try.prog 11 #[.string a0, .int .u16 a1] w (.bool true) := by
  obtain ⟨s, rfl⟩ := sB_of a0
  rw [sB_size] at w0
  obtain ⟨g1, g2⟩ := u16_bd w1
  obtain ⟨t, rfl⟩ := Int.eq_ofNat_of_zero_le g1
  by_cases h5 : s.length ≤ 500
  · exact short_main s t w h5 (by omega)
  · have h5' : decide (500 < ((s.length : Nat) : Int)) = true := by simp; omega
    unfold maxLen at w0
    unfold Gives
    go_enter Try.func11, Try.ntmps11
    go_wp2_with (go_at_call 13; refine (awake_any _).mono ?_; intro w1 hB1)
    go_ret
    exact ⟨rfl, hB1⟩

end Go.Proofs.Ytbjhkgbkdlapdaa
