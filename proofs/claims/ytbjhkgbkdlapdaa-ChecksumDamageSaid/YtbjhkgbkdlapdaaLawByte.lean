/- ChecksumByte: the walk. -/
import Derived.Test.YtbjhkgbkdlapdaaAwake
import Derived.Test.YtbjhkgbkdlapdaaRegion
import Derived.Test.YtbjhkgbkdlapdaaCkPlain
import Derived.Laws.BitsAllLaws
namespace Go.Proofs.Ytbjhkgbkdlapdaa
open Go.RowKit
set_option linter.unusedVariables false

theorem xor_u8 (x b : UInt8) : bits BinOp.xor .u8 (x.toNat : Int) (b.toNat : Int) = (((x ^^^ b).toNat : Nat) : Int) := by
  rw [u8_xor_nat _ _ x.toNat_lt b.toNat_lt, UInt8.toNat_xor]

theorem changed_any (l : List UInt8) (i : Nat) (b : UInt8) (w : World) (hl : l.length ≤ 1000) (hi : i < l.length) :
    Gives Try.prog 15 #[sV l, .int .i64 i, .int .u8 (b.toNat : Int)] w (sV (l.set i (l[i] ^^^ b))) := by
  unfold Gives
  go_enter Try.func15, Try.ntmps15
  go_wp2_with (refine wpList_strbytes rfl 9 27 5 _ rfl l rfl Try.underlying9 Try.underlying27 Try.underlying5 ?_; intro W g cap hW hg hz hBy; have hc := (hBy i hi).1; have hf := (hBy i hi).2; have hconv := (hBy.set i (l[i] ^^^ b) hi).conv Try.underlying27 Try.underlying5 Try.underlying9 l.length cap (by simp); rw [← xor_u8] at hconv; clear hBy)
  go_ret
  exact ⟨rfl, hW.below.setCell (p := ⟨g, i, none⟩) hg _⟩

theorem xor_ne (x b : UInt8) (hb : b ≠ 0) : x ^^^ b ≠ x := by
  intro h
  apply hb
  have : x ^^^ (x ^^^ b) = x ^^^ x := by rw [h]
  simpa [← UInt8.xor_assoc] using this

theorem byte_main (l : List UInt8) (at_ : Int) (b : UInt8) (w : World) (hl : l.length ≤ 500) (hl0 : 0 < l.length) (hb : b ≠ 0) (h1 : 0 ≤ at_) (h2 : at_ ≤ 65535) :
    Gives Try.prog 3 #[sV l, .int .u16 at_, .int .u8 (b.toNat : Int)] w (.bool true) := by
  obtain ⟨t, rfl⟩ := Int.eq_ofNat_of_zero_le h1
  have hi : t % l.length < l.length := Nat.mod_lt _ hl0
  have hne := ck_byte l (t % l.length) (l[t % l.length] ^^^ b) hi (xor_ne _ _ hb)
  have hq : ((ck l) == ck (l.set (t % l.length) (l[t % l.length] ^^^ b))) = false := by rw [beq_eq_false_iff_ne]; exact fun e => hne e.symm
  have hq2 : ((ck l) != ck (l.set (t % l.length) (l[t % l.length] ^^^ b))) = true := by rw [bne_iff_ne]; exact fun e => hne e.symm
  have hb0 : (((b.toNat : Nat) : Int) == 0) = false := by
    rw [beq_eq_false_iff_ne]
    intro e
    exact hb (UInt8.toNat_inj.1 (by simpa using e))
  have hl1 : (((l.length : Nat) : Int) == 0) = false := by rw [beq_eq_false_iff_ne]; omega
  have hbl := b.toNat_lt
  have hm : ((t : Nat) : Int).tmod ((l.length : Nat) : Int) = ((t % l.length : Nat) : Int) := by rw [Int.tmod_eq_emod_of_nonneg h1]; omega
  have hw := wrapi (x := (t : Int)) (by omega) (by omega)
  clear hne hb
  unfold Gives
  go_enter Try.func3, Try.ntmps3
  go_wp2
  refine wp_region_ext (by kernel_rfl) (by kernel_rfl) ?_
  repeat (go_big_quiet_step (first | (intro hE; go_at_call 14; exact Ext.call (Sum_l _ _ (by unfold maxLen; simp; omega)) hE) | (intro hE; go_at_call 15; exact Ext.call (changed_any l (t % l.length) b _ (by omega) hi) hE) | (intro hE; go_at_call 13; exact Ext.call (awake_any _) hE) | (intro hE; rfl)))
  refine wpQuiet_nil ?_
  intro w1 hw1
  go_wp2
  go_ret
  exact ⟨rfl, hw1⟩


theorem u8_bd {n : Int} (h : (Lit.int .u8 n).wf = true) : 0 ≤ n ∧ n ≤ 255 := by
  simpa [Lit.wf, IntKind.min, IntKind.max, IntKind.signed, IntKind.bits] using h
theorem u16_bd {n : Int} (h : (Lit.int .u16 n).wf = true) : 0 ≤ n ∧ n ≤ 65535 := by
  simpa [Lit.wf, IntKind.min, IntKind.max, IntKind.signed, IntKind.bits] using h
theorem u8_nat {n : Int} (h : 0 ≤ n ∧ n ≤ 255) : ∃ b : UInt8, n = (b.toNat : Int) := ⟨UInt8.ofNat n.toNat, by simp; omega⟩

theorem checksumByte_walk (a0 : ByteArray) (a1 a2 : Int) (w : World) (w0 : a0.size ≤ maxLen) (w1 : (Lit.int .u16 a1).wf = true) (w2 : (Lit.int .u8 a2).wf = true) :
    Gives Try.prog 3 #[.string a0, .int .u16 a1, .int .u8 a2] w (.bool true) := by
  obtain ⟨l, rfl⟩ := sB_of a0
  rw [sB_size] at w0
  obtain ⟨g1, g2⟩ := u16_bd w1
  obtain ⟨b, rfl⟩ := u8_nat (u8_bd w2)
  clear w1 w2
  by_cases h0 : l.length = 0
  · have hd : (((l.length : Nat) : Int) == 0) = true := by rw [beq_iff_eq]; omega
    clear h0
    unfold Gives
    go_enter Try.func3, Try.ntmps3
    go_wp2_with (go_at_call 13; refine (awake_any _).mono ?_; intro w1 hB1)
    go_ret
    exact ⟨rfl, hB1⟩
  · have hd : (((l.length : Nat) : Int) == 0) = false := by rw [beq_eq_false_iff_ne]; omega
    by_cases h5 : l.length ≤ 500
    · by_cases hb : b = 0
      · subst hb
        have h5' : decide (500 < ((l.length : Nat) : Int)) = false := by simp; omega
        clear h0
        unfold maxLen at w0
        unfold Gives
        go_enter Try.func3, Try.ntmps3
        go_wp2_with (go_at_call 13; refine (awake_any _).mono ?_; intro w1 hB1)
        go_ret
        exact ⟨rfl, hB1⟩
      · exact byte_main l a1 b w h5 (by omega) hb g1 g2
    · have h5' : decide (500 < ((l.length : Nat) : Int)) = true := by simp; omega
      clear h0
      unfold maxLen at w0
      unfold Gives
      go_enter Try.func3, Try.ntmps3
      go_wp2_with (go_at_call 13; refine (awake_any _).mono ?_; intro w1 hB1)
      go_ret
      exact ⟨rfl, hB1⟩

end Go.Proofs.Ytbjhkgbkdlapdaa
