/- ChecksumFrame, ChecksumRoundTrip, ChecksumCanonical: the walks. -/
import Derived.Test.YtbjhkgbkdlapdaaOpPlain
import Derived.Test.YtbjhkgbkdlapdaaAwake
namespace Go.Proofs.Ytbjhkgbkdlapdaa
open Go.RowKit
set_option linter.unusedVariables false

theorem seal_both (l : List UInt8) (hl : l.length ≤ maxLen) : ∃ (x : List UInt8) (e : Int), x.length ≤ 100013 ∧
    (∀ w, Gives Try.prog 21 #[sV l] w (.tuple #[sV x, .int .i64 e])) ∧ (∀ w, Gives Try.prog 22 #[sV l] w (.tuple #[sV x, .int .i64 e])) := by
  by_cases h : l.length ≤ 100000
  · exact ⟨_, _, by rw [frame_len]; have := enc_len9 l h; omega, fun w => Seal_yes l w h, fun w => refSeal_yes l w h⟩
  · exact ⟨[], 4, by simp, fun w => Seal_no l w (by omega) hl, fun w => refSeal_no l w (by omega) hl⟩

theorem checksumFrame_walk (a0 a1 : ByteArray) (w : World) (w0 : a0.size ≤ maxLen) (w1 : a1.size ≤ maxLen) :
    Gives Try.prog 7 #[.string a0, .string a1] w (.bool true) := by
  obtain ⟨s, rfl⟩ := sB_of a0
  obtain ⟨t, rfl⟩ := sB_of a1
  rw [sB_size] at w0 w1
  by_cases h5 : s.length ≤ 500 ∧ t.length ≤ 500
  · obtain ⟨x, e, _, S1, S2⟩ := seal_both s w0
    obtain ⟨y, n, f, O⟩ : ∃ y n f, opV t = .tuple #[sV y, .int .i64 n, .int .i64 f] := ⟨_, _, _, rfl⟩
    have O1 : ∀ w, Gives Try.prog 23 #[sV t] w (opV t) := fun w => Open_any t w (by omega)
    have O2 : ∀ w, Gives Try.prog 24 #[sV t] w (opV t) := fun w => refOpen_any t w (by omega)
    rw [O] at O1 O2
    have S1 := Lib.hid S1
    have S2 := Lib.hid S2
    have O1 := Lib.hid O1
    have O2 := Lib.hid O2
    have d1 : decide (500 < ((s.length : Nat) : Int)) = false := by simp; omega
    have d2 : decide (500 < ((t.length : Nat) : Int)) = false := by simp; omega
    clear O w0 w1
    unfold Gives
    go_enter Try.func7, Try.ntmps7
    go_wp2_with fail
    refine (S1.out _).mono ?_
    intro w1 hB1
    go_wp2_with fail
    refine (S2.out _).mono ?_
    intro w2 hB2
    have hE2 := Ext.trans hB1 hB2
    clear hB1 hB2
    go_wp2_with fail
    refine (O1.out _).mono ?_
    intro w3 hB3
    have hE3 := Ext.trans hE2 hB3
    clear hE2 hB3
    go_wp2_with fail
    refine (O2.out _).mono ?_
    intro w4 hB4
    have hE4 := Ext.trans hE3 hB4
    clear hE3 hB4
    go_wp2_with fail
    refine (awake_any _).mono ?_
    intro w7 hB7
    go_wp2
    go_ret
    exact ⟨rfl, Ext.trans hE4 hB7⟩
  · have h5' : (decide (500 < ((s.length : Nat) : Int)) || decide (500 < ((t.length : Nat) : Int))) = true := by simp; omega
    unfold maxLen at w0 w1
    unfold Gives
    go_enter Try.func7, Try.ntmps7
    cases h6 : decide (500 < ((s.length : Nat) : Int)) with
    | true =>
      go_wp2_with (go_at_call 13; refine (awake_any _).mono ?_; intro w1 hB1)
      go_ret
      exact ⟨rfl, hB1⟩
    | false =>
      have h7 : decide (500 < ((t.length : Nat) : Int)) = true := by simpa [h6] using h5'
      go_wp2_with (go_at_call 13; refine (awake_any _).mono ?_; intro w1 hB1)
      go_ret
      exact ⟨rfl, hB1⟩

end Go.Proofs.Ytbjhkgbkdlapdaa
