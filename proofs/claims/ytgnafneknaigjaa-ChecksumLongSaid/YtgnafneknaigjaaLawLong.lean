/- ChecksumLong: the walk. -/
import Derived.Test.YtgnafneknaigjaaAwake
import Derived.Test.YtgnafneknaigjaaShelf
import Derived.Test.YtgnafneknaigjaaRegion
namespace Go.Proofs.Ytgnafneknaigjaa
open Go.RowKit
set_option linter.unusedVariables false
set_option linter.unusedSimpArgs false

theorem repeatL_one (c : UInt8) : ∀ n : Nat, Go.Lib.repeatL [c] n = List.replicate n c
  | 0 => rfl
  | n + 1 => by
    rw [List.replicate_succ, ← repeatL_one c n]; rfl
theorem repeat_any (c : UInt8) (N : Nat) (z : Int) (hz : z = (N : Int)) (hN : N ≤ 1000000) (w : World) : Gives Try.prog 4 #[sV [c], .int .i64 z] w (sV (List.replicate N c)) := by
  subst hz
  have := Try.strings_Repeat (sB [c]) N w (by omega) (by rw [sB_size]; simp; omega)
  rw [sB_data, repeatL_one] at this
  exact this
theorem conv_lit1 (c : UInt8) (W : World) : (convert 23 9 (.slice (some ⟨W.heap.size, 0, none⟩) 1 1)).run Try.prog (W.alloc (.cells #[.int .u8 (c.toNat : Int)] 5)) = .ok (sV [c]) (W.alloc (.cells #[.int .u8 (c.toNat : Int)] 5)) := by
  refine run_convert_bytes_back _ 23 9 5 ⟨W.heap.size, 0, none⟩ 1 [c] Try.underlying23 Try.underlying5 Try.underlying9 (fun j hj => ?_)
  have h0 : j = 0 := by simpa using hj
  subst h0
  exact cell_of (alloc_here _ _) rfl

theorem frame_long (l : List UInt8) (h1 : 99900 ≤ l.length) (h2 : l.length ≤ 100000) : (frame l).length = l.length + 8 := by
  have hm : (mag l.length).length = 3 := by
    rw [mag_step l.length (by omega) (by omega), mag_step (l.length / 256) (by omega) (by omega), mag_step (l.length / 256 / 256) (by omega) (by omega), show l.length / 256 / 256 / 256 = 0 by omega, mag_zero]; rfl
  unfold frame
  have he : (enc (l.length : Int)).length = 4 := by
    unfold enc
    rw [if_pos (by omega)]
    simp [hm]
  simp [he, be4]; omega

set_option maxRecDepth 100000 in
set_option maxHeartbeats 8000000 in
theorem long_main (c : UInt8) (e : Nat) (w : World) (he : e ≤ 255) :
    Gives Try.prog 3 #[.int .u8 (c.toNat : Int), .int .u8 (e : Int)] w (.bool true) := by
  have R := Lib.hid (fun W => repeat_any c (99900 + e) (99900 + (e : Int)) (by omega) (by omega) W)
  have hconv := fun W => conv_lit1 c W
  have L1 : (List.replicate (99900 + e) c).length = 99900 + e := by simp
  generalize List.replicate (99900 + e) c = l at *
  have L2 := Lib.hid L1
  have C2 := Lib.hid (fun W => Sum_l l W (by unfold maxLen; omega))
  have C3 := Lib.hid (fun W => refSum_l l W (by unfold maxLen; omega))
  generalize ck l = k at *
  unfold Gives
  by_cases h : e ≤ 100
  · have C1 := Lib.hid (fun W => Seal_yes l W (by omega))
    have F := frame_long l (by omega) (by omega)
    have d : decide ((100000 : Int) < (l.length : Int)) = false := by simp; omega
    have FL : (((frame l).length : Int) == (l.length : Int) + 8) = true := by rw [beq_iff_eq]; omega
    have L3 : l.length ≤ 100155 := by omega
    have L4 : (frame l).length ≤ 100200 := by omega
    clear L1 F
    generalize frame l = x at *
    go_enter Try.func3, Try.ntmps3
    go_wp2_with fail
    refine (R.out _).mono ?_
    intro w1 hB
    have H1 := Lib.hid (show Ext w w1 from Ext.trans (show Ext w (w.alloc (.cells #[.int .u8 (c.toNat : Int)] 5)) from (Below.refl _ w).alloc (Nat.le_refl _) _) hB)
    clear hB R hconv
    go_wp2_with fail
    refine (C1.out _).mono ?_
    intro w2 hB
    have H2 := Lib.hid (Ext.trans H1.out hB)
    clear hB C1 H1
    go_wp2_with fail
    refine (C2.out _).mono ?_
    intro w3 hB
    have H3 := Lib.hid (Ext.trans H2.out hB)
    clear hB C2 H2
    go_wp2_with fail
    refine (C3.out _).mono ?_
    intro w4 hB
    have H4 := Lib.hid (Ext.trans H3.out hB)
    clear hB C3 H3
    go_wp2_with fail
    refine (awake_any _).mono ?_
    intro wz hB
    have Hz := Lib.hid (Ext.trans H4.out hB)
    clear hB
    go_wp2
    go_ret
    exact ⟨rfl, Hz.out⟩
  · have C1 := Lib.hid (fun W => Seal_no l W (by omega) (by unfold maxLen; omega))
    have d : decide ((100000 : Int) < (l.length : Int)) = true := by simp; omega
    have L3 : l.length ≤ 100155 := by omega
    clear L1
    go_enter Try.func3, Try.ntmps3
    go_wp2_with fail
    refine (R.out _).mono ?_
    intro w1 hB
    have H1 := Lib.hid (show Ext w w1 from Ext.trans (show Ext w (w.alloc (.cells #[.int .u8 (c.toNat : Int)] 5)) from (Below.refl _ w).alloc (Nat.le_refl _) _) hB)
    clear hB R hconv
    go_wp2_with fail
    refine (C1.out _).mono ?_
    intro w2 hB
    have H2 := Lib.hid (Ext.trans H1.out hB)
    clear hB C1 H1
    go_wp2_with fail
    refine (C2.out _).mono ?_
    intro w3 hB
    have H3 := Lib.hid (Ext.trans H2.out hB)
    clear hB C2 H2
    go_wp2_with fail
    refine (C3.out _).mono ?_
    intro w4 hB
    have H4 := Lib.hid (Ext.trans H3.out hB)
    clear hB C3 H3
    go_wp2_with fail
    refine (awake_any _).mono ?_
    intro wz hB
    have Hz := Lib.hid (Ext.trans H4.out hB)
    clear hB
    go_wp2
    go_ret
    exact ⟨rfl, Hz.out⟩

theorem checksumLong_walk (a0 a1 : Int) (w : World) (w0 : (Lit.int .u8 a0).wf = true) (w1 : (Lit.int .u8 a1).wf = true) :
    Gives Try.prog 3 #[.int .u8 a0, .int .u8 a1] w (.bool true) := by
  have h0 : 0 ≤ a0 ∧ a0 ≤ 255 := by simpa [Lit.wf, IntKind.min, IntKind.max, IntKind.signed, IntKind.bits] using w0
  have h2 : 0 ≤ a1 ∧ a1 ≤ 255 := by simpa [Lit.wf, IntKind.min, IntKind.max, IntKind.signed, IntKind.bits] using w1
  have e0 : a0 = (((UInt8.ofNat a0.toNat).toNat : Nat) : Int) := by simp; omega
  obtain ⟨e, he⟩ := Int.eq_ofNat_of_zero_le h2.1
  rw [e0, he]
  exact long_main _ e w (by omega)

end Go.Proofs.Ytgnafneknaigjaa
