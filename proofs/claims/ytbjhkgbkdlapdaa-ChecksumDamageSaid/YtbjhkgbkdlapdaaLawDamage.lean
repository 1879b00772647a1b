/- ChecksumDamage: the walk. -/
import Derived.Test.YtbjhkgbkdlapdaaOpPlain
import Derived.Test.YtbjhkgbkdlapdaaLawByte
namespace Go.Proofs.Ytbjhkgbkdlapdaa
open Go.RowKit
set_option linter.unusedVariables false

set_option maxRecDepth 100000 in
set_option maxHeartbeats 4000000 in
theorem damage_main (s : List UInt8) (t : Nat) (b : UInt8) (w : World) (hs : s.length ≤ 500) (ht : t ≤ 65535) (hb : b ≠ 0) :
    Gives Try.prog 10 #[sV s, .int .u16 t, .int .u8 (b.toNat : Int)] w (.bool true) := by
  have S1 := Lib.hid (fun w => Seal_yes s w (by omega))
  have h9 := enc_len9 s (by omega)
  have h10 : 1 ≤ (enc s.length).length := by unfold enc; split <;> simp
  have hF := frame_len s
  have hj : t % (s.length + 4) < s.length + 4 := Nat.mod_lt _ (by omega)
  have hi : (enc s.length).length + t % (s.length + 4) < (frame s).length := by omega
  have hS := opn_damage s (t % (s.length + 4)) ((frame s)[(enc s.length).length + t % (s.length + 4)] ^^^ b) (by omega) hj hi (xor_ne _ _ hb)
  have O : opV ((frame s).set ((enc s.length).length + t % (s.length + 4)) ((frame s)[(enc s.length).length + t % (s.length + 4)] ^^^ b)) = .tuple #[sV [], .int .i64 0, .int .i64 13] := by unfold opV; rw [hS]; rfl
  have hL : (frame s).length ≤ 1000 := by omega
  have O1 : ∀ w, Gives Try.prog 23 #[sV ((frame s).set ((enc s.length).length + t % (s.length + 4)) ((frame s)[(enc s.length).length + t % (s.length + 4)] ^^^ b))] w (opV ((frame s).set ((enc s.length).length + t % (s.length + 4)) ((frame s)[(enc s.length).length + t % (s.length + 4)] ^^^ b))) := fun w => Open_any _ w (by simp; omega)
  rw [O] at O1
  have O1 := Lib.hid O1
  have C1 := Lib.hid (fun w => changed_any (frame s) ((enc s.length).length + t % (s.length + 4)) b w hL hi)
  have d1 : decide (500 < ((s.length : Nat) : Int)) = false := by simp; omega
  have hb0 : (((b.toNat : Nat) : Int) == 0) = false := by
    rw [beq_eq_false_iff_ne]
    intro e
    exact hb (UInt8.toNat_inj.1 (by simpa using e))
  have hbl := b.toNat_lt
  have e0 := wrapi (x := (s.length : Int) + 4) (by omega) (by omega)
  have e1 := wrapi (x := ((frame s).length : Int) - (s.length : Int)) (by omega) (by omega)
  have e2 := wrapi (x := ((frame s).length : Int) - (s.length : Int) - 4) (by omega) (by omega)
  have e3 : ((frame s).length : Int) - (s.length : Int) - 4 = ((enc s.length).length : Int) := by omega
  have d2 : decide (((enc s.length).length : Int) < 1) = false := by simp; omega
  have hl1 : (((s.length : Int) + 4) == 0) = false := by rw [beq_eq_false_iff_ne]; omega
  have hm : ((t : Nat) : Int).tmod ((s.length : Int) + 4) = ((t % (s.length + 4) : Nat) : Int) := by rw [Int.tmod_eq_emod_of_nonneg (by omega), show ((s.length : Int) + 4) = ((s.length + 4 : Nat) : Int) by omega, ← Int.natCast_emod]
  have hw := wrapi (x := (t : Int)) (by omega) (by omega)
  have e4 := wrapi (x := ((enc s.length).length : Int) + ((t % (s.length + 4) : Nat) : Int)) (by omega) (by omega)
  have e5 : ((enc s.length).length : Int) + ((t % (s.length + 4) : Nat) : Int) = (((enc s.length).length + t % (s.length + 4) : Nat) : Int) := by omega
  rw [e3] at e2
  have E5 := Lib.hid e5
  clear e5
  clear O hS
  generalize ((frame s).set ((enc s.length).length + t % (s.length + 4)) ((frame s)[(enc s.length).length + t % (s.length + 4)] ^^^ b)) = G at *
  clear hi hF h9
  generalize t % (s.length + 4) = j at *
  generalize (enc s.length).length = k at *
  generalize frame s = F at *
  unfold Gives
  go_enter Try.func10, Try.ntmps10
  go_wp2_with fail
  refine (S1.out _).mono ?_
  intro w1 hB1
  go_wp2_with fail
  rw [E5.out]
  refine (C1.out _).mono ?_
  intro w2 hB2
  have hE2 := Ext.trans hB1 hB2
  clear hB1 hB2
  go_wp2_with fail
  refine (O1.out _).mono ?_
  intro w3 hB3
  have hE3 := Ext.trans hE2 hB3
  clear hE2 hB3
  go_wp2_with fail
  refine (awake_any _).mono ?_
  intro w7 hB7
  go_wp2
  go_ret
  exact ⟨rfl, Ext.trans hE3 hB7⟩

theorem checksumDamage_walk (a0 : ByteArray) (a1 a2 : Int) (w : World) (w0 : a0.size ≤ maxLen) (w1 : (Lit.int .u16 a1).wf = true) (w2 : (Lit.int .u8 a2).wf = true) :
    Gives Try.prog 10 #[.string a0, .int .u16 a1, .int .u8 a2] w (.bool true) := by
  obtain ⟨s, rfl⟩ := sB_of a0
  rw [sB_size] at w0
  obtain ⟨g1, g2⟩ := u16_bd w1
  obtain ⟨b, rfl⟩ := u8_nat (u8_bd w2)
  obtain ⟨t, rfl⟩ := Int.eq_ofNat_of_zero_le g1
  by_cases h5 : s.length ≤ 500
  · by_cases hb : b = 0
    · subst hb
      have d1 : decide (500 < ((s.length : Nat) : Int)) = false := by simp; omega
      clear w2
      unfold Gives
      go_enter Try.func10, Try.ntmps10
      go_wp2_with (go_at_call 13; refine (awake_any _).mono ?_; intro w1 hB1)
      go_ret
      exact ⟨rfl, hB1⟩
    · exact damage_main s t b w h5 (by omega) hb
  · have h5' : decide (500 < ((s.length : Nat) : Int)) = true := by simp; omega
    unfold maxLen at w0
    unfold Gives
    go_enter Try.func10, Try.ntmps10
    go_wp2_with (go_at_call 13; refine (awake_any _).mono ?_; intro w1 hB1)
    go_ret
    exact ⟨rfl, hB1⟩

end Go.Proofs.Ytbjhkgbkdlapdaa
