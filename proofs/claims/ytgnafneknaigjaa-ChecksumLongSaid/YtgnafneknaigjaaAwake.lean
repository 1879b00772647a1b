/- awake: the example of the chapter. -/
import Derived.Test.YtgnafneknaigjaaSeal
namespace Go.Proofs.Ytgnafneknaigjaa
open Go.RowKit
set_option linter.unusedVariables false

theorem frame_nil : frame [] = [128, 0, 129, 0, 129] := by decide +kernel
theorem ck_nil : ck [] = 1 := by decide +kernel
theorem ck_a : ck [97] = 6422626 := by decide +kernel
theorem ck_ab : ck [97, 98] = 19267780 := by decide +kernel

theorem awake_any (w : World) : Gives Try.prog 8 #[] w (.bool true) := by
  unfold Gives
  go_enter Try.func8, Try.ntmps8
  go_wp2_with fail
  refine (Seal_yes [] _ (by simp)).mono ?_
  intro w1 hB1
  rw [frame_nil]
  have hq : ((sB [128, 0, 129, 0, 129]).toList == (ByteArray.mk #[128, 0, 129, 0, 129]).toList) = true := by decide +kernel
  go_wp2_with fail
  refine (Sum_l [] _ (by unfold maxLen; simp)).mono ?_
  intro w2 hB2
  rw [ck_nil]
  go_wp2_with fail
  refine (Sum_l [97] _ (by unfold maxLen; simp)).mono ?_
  intro w3 hB3
  rw [ck_a]
  go_wp2_with fail
  refine (Sum_l [97, 98] _ (by unfold maxLen; simp)).mono ?_
  intro w4 hB4
  rw [ck_ab]
  go_wp2
  go_ret
  exact ⟨rfl, ((hB1.trans (hB2.mono hB1.size)).trans (hB3.mono (Nat.le_trans hB1.size hB2.size))).trans (hB4.mono (Nat.le_trans (Nat.le_trans hB1.size hB2.size) hB3.size))⟩

end Go.Proofs.Ytgnafneknaigjaa
