/- ChecksumExchange: the walk. -/
import Derived.Test.YtbjhkgbkdlapdaaLawByte
import Derived.RegionTactic
namespace Go.Proofs.Ytbjhkgbkdlapdaa
open Go.RowKit
set_option linter.unusedVariables false

theorem exch_main (l : List UInt8) (t ap i k : Nat) (w : World) (hl : l.length ≤ 500) (ht : t ≤ 65535) (hap : ap ≤ 255) (hie : i = t % l.length) (hke : k = i + 1 + ap)
    (hi : i < l.length) (hk : k < l.length) (hne : l[i] ≠ l[k]) :
    Gives Try.prog 4 #[sV l, .int .u16 t, .int .u8 ap] w (.bool true) := by
  have hcx := ck_exchange l i k hi hk (by omega) (by omega) hne
  have hq : ((ck l) == ck ((l.set i l[k]).set k l[i])) = false := by rw [beq_eq_false_iff_ne]; exact fun e => hcx e.symm
  have hq2 : ((ck l) != ck ((l.set i l[k]).set k l[i])) = true := by rw [bne_iff_ne]; exact fun e => hcx e.symm
  have hm : ((t : Nat) : Int).tmod ((l.length : Nat) : Int) = (i : Int) := by rw [Int.tmod_eq_emod_of_nonneg (by omega)]; omega
  have hm2 : ((t : Nat) : Int) % ((l.length : Nat) : Int) = (i : Int) := by omega
  have hs : ((i : Nat) : Int) + 1 + ((ap : Nat) : Int) = (k : Int) := by omega
  have hlt : i < k := by omega
  have hl1 : (((l.length : Nat) : Int) == 0) = false := by rw [beq_eq_false_iff_ne]; omega
  have hd : decide ((l.length : Int) ≤ (k : Int)) = false := by simp; omega
  have hbe : (((l[i].toNat : Nat) : Int) == ((l[k].toNat : Nat) : Int)) = false := by
    rw [beq_eq_false_iff_ne]; intro e; exact hne (UInt8.toNat_inj.1 (by omega))
  have HS := Lib.hid hs
  clear hne hs hke hie hcx
  unfold Gives
  go_enter Try.func4, Try.ntmps4
  go_wp2
  rw [HS.out]
  go_quiet (fail)
  go_wp2_with (refine wpList_strbytes rfl 9 27 5 _ rfl l rfl Try.underlying9 Try.underlying27 Try.underlying5 ?_; intro W g cap hW hg hz hBy)
  have hci := (hBy i hi).1
  have hck := (hBy k hk).1
  have hfi := (hBy i hi).2
  have hfk := (hBy k hk).2
  have hB2 := (((hBy.set i l[k] hi).set k l[i] (by simpa using hk)))
  have HB := Lib.hid hB2
  clear hBy hB2
  go_region
  go_wp2
  refine wp_region_ext (by kernel_rfl) (by kernel_rfl) ?_
  repeat (go_big_quiet_step (first | (intro hE; go_at_call 14; exact Ext.call (Sum_l _ _ (by unfold maxLen; simp; omega)) hE) | (intro hE; go_at_call 13; exact Ext.call (awake_any _) hE) | (intro hE; rfl)))
  go_big_quiet_want
  refine quiet_convert rfl rfl (sV ((l.set i l[k]).set k l[i])) (fun W3 hW3 => (HB.out.ext (by simpa using hz) hW3.undrew).conv Try.underlying27 Try.underlying5 Try.underlying9 l.length cap (by simp)) ?_
  go_simp
  go_big_quiet_on
  repeat (go_big_quiet_step (first | (intro hE; go_at_call 14; exact Ext.call (Sum_l _ _ (by unfold maxLen; simp; omega)) hE) | (intro hE; go_at_call 13; exact Ext.call (awake_any _) hE) | (intro hE; rfl)))
  refine wpQuiet_nil ?_
  intro w1 hw1
  go_wp2
  go_ret
  exact ⟨rfl, ((hW.undrewN.below.setCell (p := ⟨g, i, none⟩) hg _).setCell (p := ⟨g, k, none⟩) hg _).trans (hw1.undrew.below.mono (by have := hW.undrewN.size; simpa using this))⟩

theorem checksumExchange_walk (a0 : ByteArray) (a1 a2 : Int) (w : World) (w0 : a0.size ≤ maxLen) (w1 : (Lit.int .u16 a1).wf = true) (w2 : (Lit.int .u8 a2).wf = true) :
    Gives Try.prog 4 #[.string a0, .int .u16 a1, .int .u8 a2] w (.bool true) := by
  obtain ⟨l, rfl⟩ := sB_of a0
  rw [sB_size] at w0
  obtain ⟨g1, g2⟩ := u16_bd w1
  obtain ⟨g3, g4⟩ := u8_bd w2
  obtain ⟨t, rfl⟩ := Int.eq_ofNat_of_zero_le g1
  obtain ⟨ap, rfl⟩ := Int.eq_ofNat_of_zero_le g3
  clear w1 w2
  unfold maxLen at w0
  by_cases h0 : l.length = 0
  · have hd : (((l.length : Nat) : Int) == 0) = true := by rw [beq_iff_eq]; omega
    clear h0
    unfold Gives
    go_enter Try.func4, Try.ntmps4
    go_wp2_with (go_at_call 13; refine (awake_any _).mono ?_; intro w1 hB1)
    go_ret
    exact ⟨rfl, hB1⟩
  · have hd : (((l.length : Nat) : Int) == 0) = false := by rw [beq_eq_false_iff_ne]; omega
    by_cases h5 : l.length ≤ 500
    · obtain ⟨i, hie⟩ : ∃ i, i = t % l.length := ⟨_, rfl⟩
      have hi : i < l.length := by rw [hie]; exact Nat.mod_lt _ (by omega)
      obtain ⟨k, hke⟩ : ∃ k, k = i + 1 + ap := ⟨_, rfl⟩
      have hm : ((t : Nat) : Int).tmod ((l.length : Nat) : Int) = (i : Int) := by rw [Int.tmod_eq_emod_of_nonneg (by omega)]; omega
      have hm2 : ((t : Nat) : Int) % ((l.length : Nat) : Int) = (i : Int) := by omega
      have HS := Lib.hid (show ((i : Nat) : Int) + 1 + ((ap : Nat) : Int) = (k : Int) by omega)
      by_cases hk : k < l.length
      · by_cases hne : l[i] = l[k]
        · have hbe : (((l[i].toNat : Nat) : Int) == ((l[k].toNat : Nat) : Int)) = true := by rw [beq_iff_eq, hne]
          have hdk : decide ((l.length : Int) ≤ (k : Int)) = false := by simp; omega
          clear hke hie hne
          unfold Gives
          go_enter Try.func4, Try.ntmps4
          go_wp2
          rw [HS.out]
          go_quiet (fail)
          go_wp2_with (go_at_call 13; refine (awake_any _).mono ?_; intro w1 hB1)
          go_ret
          exact ⟨rfl, Ext.undrewN hB1⟩
        · exact exch_main l t ap i k w h5 (by omega) (by omega) hie hke hi hk hne
      · have hdk : decide ((l.length : Int) ≤ (k : Int)) = true := by simp; omega
        have hk2 : k ≤ 1000 := by omega
        clear hke hie
        unfold Gives
        go_enter Try.func4, Try.ntmps4
        go_wp2
        rw [HS.out]
        go_quiet (fail)
        go_wp2_with (go_at_call 13; refine (awake_any _).mono ?_; intro w1 hB1)
        go_ret
        exact ⟨rfl, Ext.undrewN hB1⟩
    · have h5' : decide (500 < ((l.length : Nat) : Int)) = true := by simp; omega
      clear h0
      unfold Gives
      go_enter Try.func4, Try.ntmps4
      go_wp2_with (go_at_call 13; refine (awake_any _).mono ?_; intro w1 hB1)
      go_ret
      exact ⟨rfl, hB1⟩

end Go.Proofs.Ytbjhkgbkdlapdaa
