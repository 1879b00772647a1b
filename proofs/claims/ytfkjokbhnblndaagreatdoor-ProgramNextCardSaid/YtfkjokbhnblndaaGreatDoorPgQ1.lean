/- The reference's roles. -/
import Derived.Test.YtfkjokbhnblndaaGreatDoorPgE
namespace Go.Proofs.YtfkjokbhnblndaaGreatDoor
open Go.RowKit
set_option linter.unusedVariables false
set_option linter.unusedSimpArgs false
set_option maxRecDepth 100000 in
set_option maxHeartbeats 1000000 in
theorem roles_1 (w : World) : Gives Tryz.prog 124 #[.int .i64 1] w (sV [119, 110, 46, 46]) := by
  unfold Gives
  go_enter Tryz.func124, Tryz.ntmps124
  go_wp2
  go_ret
  exact ⟨rfl, Below.refl _ _⟩
set_option maxRecDepth 100000 in
set_option maxHeartbeats 1000000 in
theorem roles_2 (w : World) : Gives Tryz.prog 124 #[.int .i64 2] w (sV [119, 114, 46, 46]) := by
  unfold Gives
  go_enter Tryz.func124, Tryz.ntmps124
  go_wp2
  go_ret
  exact ⟨rfl, Below.refl _ _⟩
set_option maxRecDepth 100000 in
set_option maxHeartbeats 1000000 in
theorem roles_3 (w : World) : Gives Tryz.prog 124 #[.int .i64 3] w (sV [119, 114, 114, 46]) := by
  unfold Gives
  go_enter Tryz.func124, Tryz.ntmps124
  go_wp2
  go_ret
  exact ⟨rfl, Below.refl _ _⟩
set_option maxRecDepth 100000 in
set_option maxHeartbeats 1000000 in
theorem roles_4 (w : World) : Gives Tryz.prog 124 #[.int .i64 4] w (sV [119, 114, 114, 46]) := by
  unfold Gives
  go_enter Tryz.func124, Tryz.ntmps124
  go_wp2
  go_ret
  exact ⟨rfl, Below.refl _ _⟩
set_option maxRecDepth 100000 in
set_option maxHeartbeats 1000000 in
theorem roles_5 (w : World) : Gives Tryz.prog 124 #[.int .i64 5] w (sV [119, 114, 114, 46]) := by
  unfold Gives
  go_enter Tryz.func124, Tryz.ntmps124
  go_wp2
  go_ret
  exact ⟨rfl, Below.refl _ _⟩
set_option maxRecDepth 100000 in
set_option maxHeartbeats 1000000 in
theorem roles_6 (w : World) : Gives Tryz.prog 124 #[.int .i64 6] w (sV [119, 114, 114, 46]) := by
  unfold Gives
  go_enter Tryz.func124, Tryz.ntmps124
  go_wp2
  go_ret
  exact ⟨rfl, Below.refl _ _⟩
set_option maxRecDepth 100000 in
set_option maxHeartbeats 1000000 in
theorem roles_7 (w : World) : Gives Tryz.prog 124 #[.int .i64 7] w (sV [119, 114, 114, 46]) := by
  unfold Gives
  go_enter Tryz.func124, Tryz.ntmps124
  go_wp2
  go_ret
  exact ⟨rfl, Below.refl _ _⟩
set_option maxRecDepth 100000 in
set_option maxHeartbeats 1000000 in
theorem roles_8 (w : World) : Gives Tryz.prog 124 #[.int .i64 8] w (sV [119, 114, 114, 46]) := by
  unfold Gives
  go_enter Tryz.func124, Tryz.ntmps124
  go_wp2
  go_ret
  exact ⟨rfl, Below.refl _ _⟩
set_option maxRecDepth 100000 in
set_option maxHeartbeats 1000000 in
theorem roles_9 (w : World) : Gives Tryz.prog 124 #[.int .i64 9] w (sV [119, 114, 114, 46]) := by
  unfold Gives
  go_enter Tryz.func124, Tryz.ntmps124
  go_wp2
  go_ret
  exact ⟨rfl, Below.refl _ _⟩
set_option maxRecDepth 100000 in
set_option maxHeartbeats 1000000 in
theorem roles_10 (w : World) : Gives Tryz.prog 124 #[.int .i64 10] w (sV [119, 114, 114, 46]) := by
  unfold Gives
  go_enter Tryz.func124, Tryz.ntmps124
  go_wp2
  go_ret
  exact ⟨rfl, Below.refl _ _⟩
set_option maxRecDepth 100000 in
set_option maxHeartbeats 1000000 in
theorem roles_11 (w : World) : Gives Tryz.prog 124 #[.int .i64 11] w (sV [119, 114, 114, 46]) := by
  unfold Gives
  go_enter Tryz.func124, Tryz.ntmps124
  go_wp2
  go_ret
  exact ⟨rfl, Below.refl _ _⟩
set_option maxRecDepth 100000 in
set_option maxHeartbeats 1000000 in
theorem roles_12 (w : World) : Gives Tryz.prog 124 #[.int .i64 12] w (sV [119, 114, 46, 46]) := by
  unfold Gives
  go_enter Tryz.func124, Tryz.ntmps124
  go_wp2
  go_ret
  exact ⟨rfl, Below.refl _ _⟩
set_option maxRecDepth 100000 in
set_option maxHeartbeats 1000000 in
theorem roles_13 (w : World) : Gives Tryz.prog 124 #[.int .i64 13] w (sV [116, 46, 46, 46]) := by
  unfold Gives
  go_enter Tryz.func124, Tryz.ntmps124
  go_wp2
  go_ret
  exact ⟨rfl, Below.refl _ _⟩
set_option maxRecDepth 100000 in
set_option maxHeartbeats 1000000 in
theorem roles_14 (w : World) : Gives Tryz.prog 124 #[.int .i64 14] w (sV [114, 116, 46, 46]) := by
  unfold Gives
  go_enter Tryz.func124, Tryz.ntmps124
  go_wp2
  go_ret
  exact ⟨rfl, Below.refl _ _⟩
set_option maxRecDepth 100000 in
set_option maxHeartbeats 1000000 in
theorem roles_15 (w : World) : Gives Tryz.prog 124 #[.int .i64 15] w (sV [119, 102, 46, 112]) := by
  unfold Gives
  go_enter Tryz.func124, Tryz.ntmps124
  go_wp2
  go_ret
  exact ⟨rfl, Below.refl _ _⟩
set_option maxRecDepth 100000 in
set_option maxHeartbeats 1000000 in
theorem roles_16 (w : World) : Gives Tryz.prog 124 #[.int .i64 16] w (sV [114, 46, 46, 46]) := by
  unfold Gives
  go_enter Tryz.func124, Tryz.ntmps124
  go_wp2
  go_ret
  exact ⟨rfl, Below.refl _ _⟩
set_option maxRecDepth 100000 in
set_option maxHeartbeats 1000000 in
theorem roles_17 (w : World) : Gives Tryz.prog 124 #[.int .i64 17] w (sV [46, 100, 46, 112]) := by
  unfold Gives
  go_enter Tryz.func124, Tryz.ntmps124
  go_wp2
  go_ret
  exact ⟨rfl, Below.refl _ _⟩
set_option maxRecDepth 100000 in
set_option maxHeartbeats 1000000 in
theorem roles_18 (w : World) : Gives Tryz.prog 124 #[.int .i64 18] w (sV [46, 46, 46, 46]) := by
  unfold Gives
  go_enter Tryz.func124, Tryz.ntmps124
  go_wp2
  go_ret
  exact ⟨rfl, Below.refl _ _⟩
set_option maxRecDepth 100000 in
set_option maxHeartbeats 1000000 in
theorem roles_19 (w : World) : Gives Tryz.prog 124 #[.int .i64 19] w (sV [46, 46, 46, 46]) := by
  unfold Gives
  go_enter Tryz.func124, Tryz.ntmps124
  go_wp2
  go_ret
  exact ⟨rfl, Below.refl _ _⟩
set_option maxRecDepth 100000 in
set_option maxHeartbeats 1000000 in
theorem roles_20 (w : World) : Gives Tryz.prog 124 #[.int .i64 20] w (sV [114, 46, 46, 46]) := by
  unfold Gives
  go_enter Tryz.func124, Tryz.ntmps124
  go_wp2
  go_ret
  exact ⟨rfl, Below.refl _ _⟩
set_option maxRecDepth 100000 in
set_option maxHeartbeats 1000000 in
theorem roles_21 (w : World) : Gives Tryz.prog 124 #[.int .i64 21] w (sV [114, 46, 46, 46]) := by
  unfold Gives
  go_enter Tryz.func124, Tryz.ntmps124
  go_wp2
  go_ret
  exact ⟨rfl, Below.refl _ _⟩
set_option maxRecDepth 100000 in
set_option maxHeartbeats 1000000 in
theorem roles_30 (w : World) : Gives Tryz.prog 124 #[.int .i64 30] w (sV [119, 118, 46, 46]) := by
  unfold Gives
  go_enter Tryz.func124, Tryz.ntmps124
  go_wp2
  go_ret
  exact ⟨rfl, Below.refl _ _⟩
set_option maxRecDepth 100000 in
set_option maxHeartbeats 1000000 in
theorem roles_31 (w : World) : Gives Tryz.prog 124 #[.int .i64 31] w (sV [118, 114, 46, 46]) := by
  unfold Gives
  go_enter Tryz.func124, Tryz.ntmps124
  go_wp2
  go_ret
  exact ⟨rfl, Below.refl _ _⟩
set_option maxRecDepth 100000 in
set_option maxHeartbeats 1000000 in
theorem roles_32 (w : World) : Gives Tryz.prog 124 #[.int .i64 32] w (sV [119, 97, 114, 46]) := by
  unfold Gives
  go_enter Tryz.func124, Tryz.ntmps124
  go_wp2
  go_ret
  exact ⟨rfl, Below.refl _ _⟩
set_option maxRecDepth 100000 in
set_option maxHeartbeats 1000000 in
theorem roles_33 (w : World) : Gives Tryz.prog 124 #[.int .i64 33] w (sV [119, 97, 46, 50]) := by
  unfold Gives
  go_enter Tryz.func124, Tryz.ntmps124
  go_wp2
  go_ret
  exact ⟨rfl, Below.refl _ _⟩
set_option maxRecDepth 100000 in
set_option maxHeartbeats 1000000 in
theorem roles_34 (w : World) : Gives Tryz.prog 124 #[.int .i64 34] w (sV [119, 102, 46, 112]) := by
  unfold Gives
  go_enter Tryz.func124, Tryz.ntmps124
  go_wp2
  go_ret
  exact ⟨rfl, Below.refl _ _⟩
set_option maxRecDepth 100000 in
set_option maxHeartbeats 1000000 in
theorem roles_35 (w : World) : Gives Tryz.prog 124 #[.int .i64 35] w (sV [111, 111, 99, 46]) := by
  unfold Gives
  go_enter Tryz.func124, Tryz.ntmps124
  go_wp2
  go_ret
  exact ⟨rfl, Below.refl _ _⟩
set_option maxRecDepth 100000 in
set_option maxHeartbeats 1000000 in
theorem roles_36 (w : World) : Gives Tryz.prog 124 #[.int .i64 36] w (sV [119, 46, 46, 46]) := by
  unfold Gives
  go_enter Tryz.func124, Tryz.ntmps124
  go_wp2
  go_ret
  exact ⟨rfl, Below.refl _ _⟩
set_option maxRecDepth 100000 in
set_option maxHeartbeats 1000000 in
theorem roles_37 (w : World) : Gives Tryz.prog 124 #[.int .i64 37] w (sV [46, 46, 46, 46]) := by
  unfold Gives
  go_enter Tryz.func124, Tryz.ntmps124
  go_wp2
  go_ret
  exact ⟨rfl, Below.refl _ _⟩
set_option maxRecDepth 100000 in
set_option maxHeartbeats 1000000 in
theorem roles_38 (w : World) : Gives Tryz.prog 124 #[.int .i64 38] w (sV [46, 46, 46, 46]) := by
  unfold Gives
  go_enter Tryz.func124, Tryz.ntmps124
  go_wp2
  go_ret
  exact ⟨rfl, Below.refl _ _⟩
set_option maxRecDepth 100000 in
set_option maxHeartbeats 1000000 in
theorem roles_39 (w : World) : Gives Tryz.prog 124 #[.int .i64 39] w (sV [46, 46, 46, 46]) := by
  unfold Gives
  go_enter Tryz.func124, Tryz.ntmps124
  go_wp2
  go_ret
  exact ⟨rfl, Below.refl _ _⟩
set_option maxRecDepth 100000 in
set_option maxHeartbeats 1000000 in
theorem roles_40 (w : World) : Gives Tryz.prog 124 #[.int .i64 40] w (sV [114, 46, 46, 46]) := by
  unfold Gives
  go_enter Tryz.func124, Tryz.ntmps124
  go_wp2
  go_ret
  exact ⟨rfl, Below.refl _ _⟩
set_option maxRecDepth 100000 in
set_option maxHeartbeats 1000000 in
theorem roles_41 (w : World) : Gives Tryz.prog 124 #[.int .i64 41] w (sV [114, 46, 46, 46]) := by
  unfold Gives
  go_enter Tryz.func124, Tryz.ntmps124
  go_wp2
  go_ret
  exact ⟨rfl, Below.refl _ _⟩
set_option maxRecDepth 100000 in
set_option maxHeartbeats 1000000 in
theorem roles_42 (w : World) : Gives Tryz.prog 124 #[.int .i64 42] w (sV [109, 114, 46, 46]) := by
  unfold Gives
  go_enter Tryz.func124, Tryz.ntmps124
  go_wp2
  go_ret
  exact ⟨rfl, Below.refl _ _⟩
set_option maxRecDepth 100000 in
set_option maxHeartbeats 1000000 in
theorem roles_43 (w : World) : Gives Tryz.prog 124 #[.int .i64 43] w (sV [114, 46, 46, 46]) := by
  unfold Gives
  go_enter Tryz.func124, Tryz.ntmps124
  go_wp2
  go_ret
  exact ⟨rfl, Below.refl _ _⟩
end Go.Proofs.YtfkjokbhnblndaaGreatDoor
