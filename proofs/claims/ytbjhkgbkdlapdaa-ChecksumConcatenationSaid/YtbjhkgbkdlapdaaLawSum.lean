/- ChecksumSum, ChecksumConcatenation: the walks. -/
import Derived.Test.YtbjhkgbkdlapdaaRefCombine
import Derived.Test.YtbjhkgbkdlapdaaAwake
namespace Go.Proofs.Ytbjhkgbkdlapdaa
open Go.RowKit
set_option linter.unusedVariables false

theorem upd_both (n : Int) (l : List UInt8) (hl : l.length ≤ maxLen) (h0 : (Lit.int .i64 n).wf = true) : ∃ x e : Int,
    (∀ w, Gives Try.prog 16 #[.int .i64 n, sV l] w (.tuple #[.int .i64 x, .int .i64 e])) ∧ (∀ w, Gives Try.prog 17 #[.int .i64 n, sV l] w (.tuple #[.int .i64 x, .int .i64 e])) := by
  have hs : (sB l).size ≤ maxLen := by rw [sB_size]; exact hl
  cases h : isCk n with
  | true => exact ⟨_, _, fun w => Update_yes n (sB l) w hs h, fun w => refUpdate_yes n (sB l) w hs h⟩
  | false => exact ⟨_, _, fun w => Update_no n (sB l) w h h0, fun w => refUpdate_no n (sB l) w h h0⟩
theorem comb_both (a b n : Int) (wa : (Lit.int .i64 a).wf = true) (wb : (Lit.int .i64 b).wf = true) (wn : (Lit.int .i64 n).wf = true) : ∃ x e : Int,
    (∀ w, Gives Try.prog 18 #[.int .i64 a, .int .i64 b, .int .i64 n] w (.tuple #[.int .i64 x, .int .i64 e])) ∧ (∀ w, Gives Try.prog 19 #[.int .i64 a, .int .i64 b, .int .i64 n] w (.tuple #[.int .i64 x, .int .i64 e])) := by
  by_cases h : isCk a = true ∧ isCk b = true ∧ 0 ≤ n ∧ n ≤ 1099511627776
  · exact ⟨_, _, fun w => Combine_yes a b n w h.1 h.2.1 h.2.2.1 h.2.2.2, fun w => refCombine_yes a b n w h.1 h.2.1 h.2.2.1 h.2.2.2⟩
  · exact ⟨_, _, fun w => Combine_no a b n w wa wb wn h, fun w => refCombine_no a b n w wa wb wn h⟩

theorem checksumSum_walk (a0 : ByteArray) (a1 a2 a3 : Int) (w : World) (w0 : a0.size ≤ maxLen) (w1 : (Lit.int .i64 a1).wf = true) (w2 : (Lit.int .i64 a2).wf = true) (w3 : (Lit.int .i64 a3).wf = true) :
    Gives Try.prog 5 #[.string a0, .int .i64 a1, .int .i64 a2, .int .i64 a3] w (.bool true) := by
  obtain ⟨l, rfl⟩ := sB_of a0
  rw [sB_size] at w0
  by_cases h5 : l.length ≤ 500
  · obtain ⟨x, e, U1, U2⟩ := upd_both a1 l w0 w1
    obtain ⟨y, f, C1, C2⟩ := comb_both a1 a2 a3 w1 w2 w3
    have U1 := Lib.hid U1
    have U2 := Lib.hid U2
    have C1 := Lib.hid C1
    have C2 := Lib.hid C2
    clear w1 w2 w3
    unfold Gives
    go_enter Try.func5, Try.ntmps5
    go_wp2_with fail
    refine (U1.out _).mono ?_
    intro w1 hB1
    go_wp2_with fail
    refine (U2.out _).mono ?_
    intro w2 hB2
    have hE2 := Ext.trans hB1 hB2
    clear hB1 hB2
    go_wp2_with fail
    refine (C1.out _).mono ?_
    intro w3 hB3
    have hE3 := Ext.trans hE2 hB3
    clear hE2 hB3
    go_wp2_with fail
    refine (C2.out _).mono ?_
    intro w4 hB4
    have hE4 := Ext.trans hE3 hB4
    clear hE3 hB4
    go_wp2_with fail
    refine (Sum_l l _ w0).mono ?_
    intro w5 hB5
    have hE5 := Ext.trans hE4 hB5
    clear hE4 hB5
    go_wp2_with fail
    refine (refSum_l l _ w0).mono ?_
    intro w6 hB6
    have hE6 := Ext.trans hE5 hB6
    clear hE5 hB6
    go_wp2_with fail
    refine (awake_any _).mono ?_
    intro w7 hB7
    go_wp2
    go_ret
    exact ⟨rfl, Ext.trans hE6 hB7⟩
  · have h5' : decide (500 < ((l.length : Nat) : Int)) = true := by simp; omega
    unfold maxLen at w0
    unfold Gives
    go_enter Try.func5, Try.ntmps5
    go_wp2_with (go_at_call 13; refine (awake_any _).mono ?_; intro w1 hB1)
    go_ret
    exact ⟨rfl, hB1⟩

theorem checksumConcatenation_walk (a0 a1 : ByteArray) (w : World) (w0 : a0.size ≤ maxLen) (w1 : a1.size ≤ maxLen) :
    Gives Try.prog 6 #[.string a0, .string a1] w (.bool true) := by
  obtain ⟨x, rfl⟩ := sB_of a0
  obtain ⟨y, rfl⟩ := sB_of a1
  rw [sB_size] at w0 w1
  have hs : (sB y).size ≤ maxLen := by rw [sB_size]; exact w1
  by_cases h5 : x.length ≤ 500
  · by_cases h6 : y.length ≤ 500
    · have U1 := Lib.hid (fun w => Update_yes (ck x) (sB y) w hs (isCk_ck x))
      have C1 := Lib.hid (fun w => Combine_yes (ck x) (ck y) y.length w (isCk_ck x) (isCk_ck y) (by omega) (by omega))
      rw [sB_data, updR_ck] at U1
      rw [comb_ck] at C1
      have hxy : (x ++ y).length ≤ 1000 := by simp; omega
      have hd : decide (500 < ((x.length : Nat) : Int)) = false := by simp; omega
      have hd2 : decide (500 < ((y.length : Nat) : Int)) = false := by simp; omega
      clear hs
      unfold Gives
      go_enter Try.func6, Try.ntmps6
      go_wp2_with fail
      refine (Sum_l x _ w0).mono ?_
      intro w1 hB1
      go_wp2_with fail
      refine (U1.out _).mono ?_
      intro w2 hB2
      have hE2 := Ext.trans hB1 hB2
      clear hB1 hB2
      go_wp2_with fail
      refine (Sum_l x _ w0).mono ?_
      intro w3 hB3
      have hE3 := Ext.trans hE2 hB3
      clear hE2 hB3
      go_wp2_with fail
      refine (Sum_l y _ (by assumption)).mono ?_
      intro w4 hB4
      have hE4 := Ext.trans hE3 hB4
      clear hE3 hB4
      go_wp2_with fail
      refine (C1.out _).mono ?_
      intro w5 hB5
      have hE5 := Ext.trans hE4 hB5
      clear hE4 hB5
      go_wp2_with fail
      refine (Sum_l (x ++ y) _ (by unfold maxLen; omega)).mono ?_
      intro w6 hB6
      have hE6 := Ext.trans hE5 hB6
      clear hE5 hB6
      go_wp2_with fail
      refine (awake_any _).mono ?_
      intro w7 hB7
      go_wp2
      go_ret
      exact ⟨rfl, Ext.trans hE6 hB7⟩
    · have hd : decide (500 < ((x.length : Nat) : Int)) = false := by simp; omega
      have hd2 : decide (500 < ((y.length : Nat) : Int)) = true := by simp; omega
      clear hs
      unfold maxLen at w0 w1
      unfold Gives
      go_enter Try.func6, Try.ntmps6
      go_wp2_with (go_at_call 13; refine (awake_any _).mono ?_; intro w1 hB1)
      go_ret
      exact ⟨rfl, hB1⟩
  · have h5' : decide (500 < ((x.length : Nat) : Int)) = true := by simp; omega
    clear hs
    unfold maxLen at w0 w1
    unfold Gives
    go_enter Try.func6, Try.ntmps6
    go_wp2_with (go_at_call 13; refine (awake_any _).mono ?_; intro w1 hB1)
    go_ret
    exact ⟨rfl, hB1⟩

end Go.Proofs.Ytbjhkgbkdlapdaa
