/- The reference's roles, on. -/
import Derived.Test.YtfkjokbhnblndaaGreatDoorPgE
namespace Go.Proofs.YtfkjokbhnblndaaGreatDoor
open Go.RowKit
set_option linter.unusedVariables false
set_option linter.unusedSimpArgs false
set_option maxRecDepth 100000 in
set_option maxHeartbeats 1000000 in
theorem roles_50 (w : World) : Gives Tryz.prog 124 #[.int .i64 50] w (sV [49, 46, 46, 46]) := by
  unfold Gives
  go_enter Tryz.func124, Tryz.ntmps124
  go_wp2
  go_ret
  exact ⟨rfl, Below.refl _ _⟩
set_option maxRecDepth 100000 in
set_option maxHeartbeats 1000000 in
theorem roles_51 (w : World) : Gives Tryz.prog 124 #[.int .i64 51] w (sV [119, 49, 46, 46]) := by
  unfold Gives
  go_enter Tryz.func124, Tryz.ntmps124
  go_wp2
  go_ret
  exact ⟨rfl, Below.refl _ _⟩
set_option maxRecDepth 100000 in
set_option maxHeartbeats 1000000 in
theorem roles_52 (w : World) : Gives Tryz.prog 124 #[.int .i64 52] w (sV [49, 46, 46, 46]) := by
  unfold Gives
  go_enter Tryz.func124, Tryz.ntmps124
  go_wp2
  go_ret
  exact ⟨rfl, Below.refl _ _⟩
set_option maxRecDepth 100000 in
set_option maxHeartbeats 1000000 in
theorem roles_53 (w : World) : Gives Tryz.prog 124 #[.int .i64 53] w (sV [50, 46, 46, 46]) := by
  unfold Gives
  go_enter Tryz.func124, Tryz.ntmps124
  go_wp2
  go_ret
  exact ⟨rfl, Below.refl _ _⟩
set_option maxRecDepth 100000 in
set_option maxHeartbeats 1000000 in
theorem roles_54 (w : World) : Gives Tryz.prog 124 #[.int .i64 54] w (sV [50, 46, 46, 46]) := by
  unfold Gives
  go_enter Tryz.func124, Tryz.ntmps124
  go_wp2
  go_ret
  exact ⟨rfl, Below.refl _ _⟩
set_option maxRecDepth 100000 in
set_option maxHeartbeats 1000000 in
theorem roles_55 (w : World) : Gives Tryz.prog 124 #[.int .i64 55] w (sV [50, 46, 46, 46]) := by
  unfold Gives
  go_enter Tryz.func124, Tryz.ntmps124
  go_wp2
  go_ret
  exact ⟨rfl, Below.refl _ _⟩
set_option maxRecDepth 100000 in
set_option maxHeartbeats 1000000 in
theorem roles_56 (w : World) : Gives Tryz.prog 124 #[.int .i64 56] w (sV [50, 46, 46, 46]) := by
  unfold Gives
  go_enter Tryz.func124, Tryz.ntmps124
  go_wp2
  go_ret
  exact ⟨rfl, Below.refl _ _⟩
set_option maxRecDepth 100000 in
set_option maxHeartbeats 1000000 in
theorem roles_57 (w : World) : Gives Tryz.prog 124 #[.int .i64 57] w (sV [51, 46, 46, 46]) := by
  unfold Gives
  go_enter Tryz.func124, Tryz.ntmps124
  go_wp2
  go_ret
  exact ⟨rfl, Below.refl _ _⟩
set_option maxRecDepth 100000 in
set_option maxHeartbeats 1000000 in
theorem roles_58 (w : World) : Gives Tryz.prog 124 #[.int .i64 58] w (sV [51, 46, 46, 46]) := by
  unfold Gives
  go_enter Tryz.func124, Tryz.ntmps124
  go_wp2
  go_ret
  exact ⟨rfl, Below.refl _ _⟩
set_option maxRecDepth 100000 in
set_option maxHeartbeats 1000000 in
theorem roles_59 (w : World) : Gives Tryz.prog 124 #[.int .i64 59] w (sV [51, 46, 46, 46]) := by
  unfold Gives
  go_enter Tryz.func124, Tryz.ntmps124
  go_wp2
  go_ret
  exact ⟨rfl, Below.refl _ _⟩
set_option maxRecDepth 100000 in
set_option maxHeartbeats 1000000 in
theorem roles_60 (w : World) : Gives Tryz.prog 124 #[.int .i64 60] w (sV [52, 114, 46, 46]) := by
  unfold Gives
  go_enter Tryz.func124, Tryz.ntmps124
  go_wp2
  go_ret
  exact ⟨rfl, Below.refl _ _⟩
set_option maxRecDepth 100000 in
set_option maxHeartbeats 1000000 in
theorem roles_61 (w : World) : Gives Tryz.prog 124 #[.int .i64 61] w (sV [119, 52, 114, 46]) := by
  unfold Gives
  go_enter Tryz.func124, Tryz.ntmps124
  go_wp2
  go_ret
  exact ⟨rfl, Below.refl _ _⟩
set_option maxRecDepth 100000 in
set_option maxHeartbeats 1000000 in
theorem roles_62 (w : World) : Gives Tryz.prog 124 #[.int .i64 62] w (sV [52, 114, 46, 46]) := by
  unfold Gives
  go_enter Tryz.func124, Tryz.ntmps124
  go_wp2
  go_ret
  exact ⟨rfl, Below.refl _ _⟩
set_option maxRecDepth 100000 in
set_option maxHeartbeats 1000000 in
theorem roles_63 (w : World) : Gives Tryz.prog 124 #[.int .i64 63] w (sV [119, 53, 46, 46]) := by
  unfold Gives
  go_enter Tryz.func124, Tryz.ntmps124
  go_wp2
  go_ret
  exact ⟨rfl, Below.refl _ _⟩
set_option maxRecDepth 100000 in
set_option maxHeartbeats 1000000 in
theorem roles_64 (w : World) : Gives Tryz.prog 124 #[.int .i64 64] w (sV [54, 114, 46, 46]) := by
  unfold Gives
  go_enter Tryz.func124, Tryz.ntmps124
  go_wp2
  go_ret
  exact ⟨rfl, Below.refl _ _⟩
set_option maxRecDepth 100000 in
set_option maxHeartbeats 1000000 in
theorem roles_65 (w : World) : Gives Tryz.prog 124 #[.int .i64 65] w (sV [119, 54, 119, 46]) := by
  unfold Gives
  go_enter Tryz.func124, Tryz.ntmps124
  go_wp2
  go_ret
  exact ⟨rfl, Below.refl _ _⟩
set_option maxRecDepth 100000 in
set_option maxHeartbeats 1000000 in
theorem roles_66 (w : World) : Gives Tryz.prog 124 #[.int .i64 66] w (sV [54, 46, 46, 46]) := by
  unfold Gives
  go_enter Tryz.func124, Tryz.ntmps124
  go_wp2
  go_ret
  exact ⟨rfl, Below.refl _ _⟩
set_option maxRecDepth 100000 in
set_option maxHeartbeats 1000000 in
theorem roles_67 (w : World) : Gives Tryz.prog 124 #[.int .i64 67] w (sV [119, 119, 119, 115]) := by
  unfold Gives
  go_enter Tryz.func124, Tryz.ntmps124
  go_wp2
  go_ret
  exact ⟨rfl, Below.refl _ _⟩
set_option maxRecDepth 100000 in
set_option maxHeartbeats 1000000 in
theorem roles_68 (w : World) : Gives Tryz.prog 124 #[.int .i64 68] w (sV [55, 114, 46, 46]) := by
  unfold Gives
  go_enter Tryz.func124, Tryz.ntmps124
  go_wp2
  go_ret
  exact ⟨rfl, Below.refl _ _⟩
set_option maxRecDepth 100000 in
set_option maxHeartbeats 1000000 in
theorem roles_69 (w : World) : Gives Tryz.prog 124 #[.int .i64 69] w (sV [55, 46, 46, 46]) := by
  unfold Gives
  go_enter Tryz.func124, Tryz.ntmps124
  go_wp2
  go_ret
  exact ⟨rfl, Below.refl _ _⟩
set_option maxRecDepth 100000 in
set_option maxHeartbeats 1000000 in
theorem roles_70 (w : World) : Gives Tryz.prog 124 #[.int .i64 70] w (sV [119, 55, 46, 46]) := by
  unfold Gives
  go_enter Tryz.func124, Tryz.ntmps124
  go_wp2
  go_ret
  exact ⟨rfl, Below.refl _ _⟩
set_option maxRecDepth 100000 in
set_option maxHeartbeats 1000000 in
theorem roles_71 (w : World) : Gives Tryz.prog 124 #[.int .i64 71] w (sV [55, 46, 46, 46]) := by
  unfold Gives
  go_enter Tryz.func124, Tryz.ntmps124
  go_wp2
  go_ret
  exact ⟨rfl, Below.refl _ _⟩
set_option maxRecDepth 100000 in
set_option maxHeartbeats 1000000 in
theorem roles_72 (w : World) : Gives Tryz.prog 124 #[.int .i64 72] w (sV [56, 114, 46, 46]) := by
  unfold Gives
  go_enter Tryz.func124, Tryz.ntmps124
  go_wp2
  go_ret
  exact ⟨rfl, Below.refl _ _⟩
set_option maxRecDepth 100000 in
set_option maxHeartbeats 1000000 in
theorem roles_73 (w : World) : Gives Tryz.prog 124 #[.int .i64 73] w (sV [57, 114, 46, 46]) := by
  unfold Gives
  go_enter Tryz.func124, Tryz.ntmps124
  go_wp2
  go_ret
  exact ⟨rfl, Below.refl _ _⟩
set_option maxRecDepth 100000 in
set_option maxHeartbeats 1000000 in
theorem roles_74 (w : World) : Gives Tryz.prog 124 #[.int .i64 74] w (sV [119, 57, 46, 46]) := by
  unfold Gives
  go_enter Tryz.func124, Tryz.ntmps124
  go_wp2
  go_ret
  exact ⟨rfl, Below.refl _ _⟩
set_option maxRecDepth 100000 in
set_option maxHeartbeats 1000000 in
theorem roles_gap0 (k : Int) (h2 : k ≤ 0) (w : World) : Gives Tryz.prog 124 #[.int .i64 k] w (sV []) := by
  unfold Gives
  have e1 : (k == 1) = false := by rw [beq_eq_false_iff_ne]; omega
  have e2 : (k == 2) = false := by rw [beq_eq_false_iff_ne]; omega
  have e12 : (k == 12) = false := by rw [beq_eq_false_iff_ne]; omega
  have e13 : (k == 13) = false := by rw [beq_eq_false_iff_ne]; omega
  have e14 : (k == 14) = false := by rw [beq_eq_false_iff_ne]; omega
  have e15 : (k == 15) = false := by rw [beq_eq_false_iff_ne]; omega
  have e16 : (k == 16) = false := by rw [beq_eq_false_iff_ne]; omega
  have e17 : (k == 17) = false := by rw [beq_eq_false_iff_ne]; omega
  have e18 : (k == 18) = false := by rw [beq_eq_false_iff_ne]; omega
  have e19 : (k == 19) = false := by rw [beq_eq_false_iff_ne]; omega
  have e20 : (k == 20) = false := by rw [beq_eq_false_iff_ne]; omega
  have e21 : (k == 21) = false := by rw [beq_eq_false_iff_ne]; omega
  have e30 : (k == 30) = false := by rw [beq_eq_false_iff_ne]; omega
  have e31 : (k == 31) = false := by rw [beq_eq_false_iff_ne]; omega
  have e32 : (k == 32) = false := by rw [beq_eq_false_iff_ne]; omega
  have e33 : (k == 33) = false := by rw [beq_eq_false_iff_ne]; omega
  have e34 : (k == 34) = false := by rw [beq_eq_false_iff_ne]; omega
  have e35 : (k == 35) = false := by rw [beq_eq_false_iff_ne]; omega
  have e36 : (k == 36) = false := by rw [beq_eq_false_iff_ne]; omega
  have e40 : (k == 40) = false := by rw [beq_eq_false_iff_ne]; omega
  have e41 : (k == 41) = false := by rw [beq_eq_false_iff_ne]; omega
  have e42 : (k == 42) = false := by rw [beq_eq_false_iff_ne]; omega
  have e43 : (k == 43) = false := by rw [beq_eq_false_iff_ne]; omega
  have e50 : (k == 50) = false := by rw [beq_eq_false_iff_ne]; omega
  have e51 : (k == 51) = false := by rw [beq_eq_false_iff_ne]; omega
  have e52 : (k == 52) = false := by rw [beq_eq_false_iff_ne]; omega
  have e60 : (k == 60) = false := by rw [beq_eq_false_iff_ne]; omega
  have e61 : (k == 61) = false := by rw [beq_eq_false_iff_ne]; omega
  have e62 : (k == 62) = false := by rw [beq_eq_false_iff_ne]; omega
  have e63 : (k == 63) = false := by rw [beq_eq_false_iff_ne]; omega
  have e64 : (k == 64) = false := by rw [beq_eq_false_iff_ne]; omega
  have e65 : (k == 65) = false := by rw [beq_eq_false_iff_ne]; omega
  have e66 : (k == 66) = false := by rw [beq_eq_false_iff_ne]; omega
  have e67 : (k == 67) = false := by rw [beq_eq_false_iff_ne]; omega
  have e68 : (k == 68) = false := by rw [beq_eq_false_iff_ne]; omega
  have e69 : (k == 69) = false := by rw [beq_eq_false_iff_ne]; omega
  have e70 : (k == 70) = false := by rw [beq_eq_false_iff_ne]; omega
  have e71 : (k == 71) = false := by rw [beq_eq_false_iff_ne]; omega
  have e72 : (k == 72) = false := by rw [beq_eq_false_iff_ne]; omega
  have e73 : (k == 73) = false := by rw [beq_eq_false_iff_ne]; omega
  have e74 : (k == 74) = false := by rw [beq_eq_false_iff_ne]; omega
  go_enter Tryz.func124, Tryz.ntmps124
  go_wp2
  go_ret
  exact ⟨rfl, Below.refl _ _⟩
set_option maxRecDepth 100000 in
set_option maxHeartbeats 1000000 in
theorem roles_gap1 (k : Int) (h1 : 22 ≤ k) (h2 : k ≤ 29) (w : World) : Gives Tryz.prog 124 #[.int .i64 k] w (sV []) := by
  unfold Gives
  have e1 : (k == 1) = false := by rw [beq_eq_false_iff_ne]; omega
  have e2 : (k == 2) = false := by rw [beq_eq_false_iff_ne]; omega
  have e12 : (k == 12) = false := by rw [beq_eq_false_iff_ne]; omega
  have e13 : (k == 13) = false := by rw [beq_eq_false_iff_ne]; omega
  have e14 : (k == 14) = false := by rw [beq_eq_false_iff_ne]; omega
  have e15 : (k == 15) = false := by rw [beq_eq_false_iff_ne]; omega
  have e16 : (k == 16) = false := by rw [beq_eq_false_iff_ne]; omega
  have e17 : (k == 17) = false := by rw [beq_eq_false_iff_ne]; omega
  have e18 : (k == 18) = false := by rw [beq_eq_false_iff_ne]; omega
  have e19 : (k == 19) = false := by rw [beq_eq_false_iff_ne]; omega
  have e20 : (k == 20) = false := by rw [beq_eq_false_iff_ne]; omega
  have e21 : (k == 21) = false := by rw [beq_eq_false_iff_ne]; omega
  have e30 : (k == 30) = false := by rw [beq_eq_false_iff_ne]; omega
  have e31 : (k == 31) = false := by rw [beq_eq_false_iff_ne]; omega
  have e32 : (k == 32) = false := by rw [beq_eq_false_iff_ne]; omega
  have e33 : (k == 33) = false := by rw [beq_eq_false_iff_ne]; omega
  have e34 : (k == 34) = false := by rw [beq_eq_false_iff_ne]; omega
  have e35 : (k == 35) = false := by rw [beq_eq_false_iff_ne]; omega
  have e36 : (k == 36) = false := by rw [beq_eq_false_iff_ne]; omega
  have e40 : (k == 40) = false := by rw [beq_eq_false_iff_ne]; omega
  have e41 : (k == 41) = false := by rw [beq_eq_false_iff_ne]; omega
  have e42 : (k == 42) = false := by rw [beq_eq_false_iff_ne]; omega
  have e43 : (k == 43) = false := by rw [beq_eq_false_iff_ne]; omega
  have e50 : (k == 50) = false := by rw [beq_eq_false_iff_ne]; omega
  have e51 : (k == 51) = false := by rw [beq_eq_false_iff_ne]; omega
  have e52 : (k == 52) = false := by rw [beq_eq_false_iff_ne]; omega
  have e60 : (k == 60) = false := by rw [beq_eq_false_iff_ne]; omega
  have e61 : (k == 61) = false := by rw [beq_eq_false_iff_ne]; omega
  have e62 : (k == 62) = false := by rw [beq_eq_false_iff_ne]; omega
  have e63 : (k == 63) = false := by rw [beq_eq_false_iff_ne]; omega
  have e64 : (k == 64) = false := by rw [beq_eq_false_iff_ne]; omega
  have e65 : (k == 65) = false := by rw [beq_eq_false_iff_ne]; omega
  have e66 : (k == 66) = false := by rw [beq_eq_false_iff_ne]; omega
  have e67 : (k == 67) = false := by rw [beq_eq_false_iff_ne]; omega
  have e68 : (k == 68) = false := by rw [beq_eq_false_iff_ne]; omega
  have e69 : (k == 69) = false := by rw [beq_eq_false_iff_ne]; omega
  have e70 : (k == 70) = false := by rw [beq_eq_false_iff_ne]; omega
  have e71 : (k == 71) = false := by rw [beq_eq_false_iff_ne]; omega
  have e72 : (k == 72) = false := by rw [beq_eq_false_iff_ne]; omega
  have e73 : (k == 73) = false := by rw [beq_eq_false_iff_ne]; omega
  have e74 : (k == 74) = false := by rw [beq_eq_false_iff_ne]; omega
  go_enter Tryz.func124, Tryz.ntmps124
  go_wp2
  go_ret
  exact ⟨rfl, Below.refl _ _⟩
set_option maxRecDepth 100000 in
set_option maxHeartbeats 1000000 in
theorem roles_gap2 (k : Int) (h1 : 44 ≤ k) (h2 : k ≤ 49) (w : World) : Gives Tryz.prog 124 #[.int .i64 k] w (sV []) := by
  unfold Gives
  have e1 : (k == 1) = false := by rw [beq_eq_false_iff_ne]; omega
  have e2 : (k == 2) = false := by rw [beq_eq_false_iff_ne]; omega
  have e12 : (k == 12) = false := by rw [beq_eq_false_iff_ne]; omega
  have e13 : (k == 13) = false := by rw [beq_eq_false_iff_ne]; omega
  have e14 : (k == 14) = false := by rw [beq_eq_false_iff_ne]; omega
  have e15 : (k == 15) = false := by rw [beq_eq_false_iff_ne]; omega
  have e16 : (k == 16) = false := by rw [beq_eq_false_iff_ne]; omega
  have e17 : (k == 17) = false := by rw [beq_eq_false_iff_ne]; omega
  have e18 : (k == 18) = false := by rw [beq_eq_false_iff_ne]; omega
  have e19 : (k == 19) = false := by rw [beq_eq_false_iff_ne]; omega
  have e20 : (k == 20) = false := by rw [beq_eq_false_iff_ne]; omega
  have e21 : (k == 21) = false := by rw [beq_eq_false_iff_ne]; omega
  have e30 : (k == 30) = false := by rw [beq_eq_false_iff_ne]; omega
  have e31 : (k == 31) = false := by rw [beq_eq_false_iff_ne]; omega
  have e32 : (k == 32) = false := by rw [beq_eq_false_iff_ne]; omega
  have e33 : (k == 33) = false := by rw [beq_eq_false_iff_ne]; omega
  have e34 : (k == 34) = false := by rw [beq_eq_false_iff_ne]; omega
  have e35 : (k == 35) = false := by rw [beq_eq_false_iff_ne]; omega
  have e36 : (k == 36) = false := by rw [beq_eq_false_iff_ne]; omega
  have e40 : (k == 40) = false := by rw [beq_eq_false_iff_ne]; omega
  have e41 : (k == 41) = false := by rw [beq_eq_false_iff_ne]; omega
  have e42 : (k == 42) = false := by rw [beq_eq_false_iff_ne]; omega
  have e43 : (k == 43) = false := by rw [beq_eq_false_iff_ne]; omega
  have e50 : (k == 50) = false := by rw [beq_eq_false_iff_ne]; omega
  have e51 : (k == 51) = false := by rw [beq_eq_false_iff_ne]; omega
  have e52 : (k == 52) = false := by rw [beq_eq_false_iff_ne]; omega
  have e60 : (k == 60) = false := by rw [beq_eq_false_iff_ne]; omega
  have e61 : (k == 61) = false := by rw [beq_eq_false_iff_ne]; omega
  have e62 : (k == 62) = false := by rw [beq_eq_false_iff_ne]; omega
  have e63 : (k == 63) = false := by rw [beq_eq_false_iff_ne]; omega
  have e64 : (k == 64) = false := by rw [beq_eq_false_iff_ne]; omega
  have e65 : (k == 65) = false := by rw [beq_eq_false_iff_ne]; omega
  have e66 : (k == 66) = false := by rw [beq_eq_false_iff_ne]; omega
  have e67 : (k == 67) = false := by rw [beq_eq_false_iff_ne]; omega
  have e68 : (k == 68) = false := by rw [beq_eq_false_iff_ne]; omega
  have e69 : (k == 69) = false := by rw [beq_eq_false_iff_ne]; omega
  have e70 : (k == 70) = false := by rw [beq_eq_false_iff_ne]; omega
  have e71 : (k == 71) = false := by rw [beq_eq_false_iff_ne]; omega
  have e72 : (k == 72) = false := by rw [beq_eq_false_iff_ne]; omega
  have e73 : (k == 73) = false := by rw [beq_eq_false_iff_ne]; omega
  have e74 : (k == 74) = false := by rw [beq_eq_false_iff_ne]; omega
  go_enter Tryz.func124, Tryz.ntmps124
  go_wp2
  go_ret
  exact ⟨rfl, Below.refl _ _⟩
set_option maxRecDepth 100000 in
set_option maxHeartbeats 1000000 in
theorem roles_gap3 (k : Int) (h1 : 75 ≤ k) (w : World) : Gives Tryz.prog 124 #[.int .i64 k] w (sV []) := by
  unfold Gives
  have e1 : (k == 1) = false := by rw [beq_eq_false_iff_ne]; omega
  have e2 : (k == 2) = false := by rw [beq_eq_false_iff_ne]; omega
  have e12 : (k == 12) = false := by rw [beq_eq_false_iff_ne]; omega
  have e13 : (k == 13) = false := by rw [beq_eq_false_iff_ne]; omega
  have e14 : (k == 14) = false := by rw [beq_eq_false_iff_ne]; omega
  have e15 : (k == 15) = false := by rw [beq_eq_false_iff_ne]; omega
  have e16 : (k == 16) = false := by rw [beq_eq_false_iff_ne]; omega
  have e17 : (k == 17) = false := by rw [beq_eq_false_iff_ne]; omega
  have e18 : (k == 18) = false := by rw [beq_eq_false_iff_ne]; omega
  have e19 : (k == 19) = false := by rw [beq_eq_false_iff_ne]; omega
  have e20 : (k == 20) = false := by rw [beq_eq_false_iff_ne]; omega
  have e21 : (k == 21) = false := by rw [beq_eq_false_iff_ne]; omega
  have e30 : (k == 30) = false := by rw [beq_eq_false_iff_ne]; omega
  have e31 : (k == 31) = false := by rw [beq_eq_false_iff_ne]; omega
  have e32 : (k == 32) = false := by rw [beq_eq_false_iff_ne]; omega
  have e33 : (k == 33) = false := by rw [beq_eq_false_iff_ne]; omega
  have e34 : (k == 34) = false := by rw [beq_eq_false_iff_ne]; omega
  have e35 : (k == 35) = false := by rw [beq_eq_false_iff_ne]; omega
  have e36 : (k == 36) = false := by rw [beq_eq_false_iff_ne]; omega
  have e40 : (k == 40) = false := by rw [beq_eq_false_iff_ne]; omega
  have e41 : (k == 41) = false := by rw [beq_eq_false_iff_ne]; omega
  have e42 : (k == 42) = false := by rw [beq_eq_false_iff_ne]; omega
  have e43 : (k == 43) = false := by rw [beq_eq_false_iff_ne]; omega
  have e50 : (k == 50) = false := by rw [beq_eq_false_iff_ne]; omega
  have e51 : (k == 51) = false := by rw [beq_eq_false_iff_ne]; omega
  have e52 : (k == 52) = false := by rw [beq_eq_false_iff_ne]; omega
  have e60 : (k == 60) = false := by rw [beq_eq_false_iff_ne]; omega
  have e61 : (k == 61) = false := by rw [beq_eq_false_iff_ne]; omega
  have e62 : (k == 62) = false := by rw [beq_eq_false_iff_ne]; omega
  have e63 : (k == 63) = false := by rw [beq_eq_false_iff_ne]; omega
  have e64 : (k == 64) = false := by rw [beq_eq_false_iff_ne]; omega
  have e65 : (k == 65) = false := by rw [beq_eq_false_iff_ne]; omega
  have e66 : (k == 66) = false := by rw [beq_eq_false_iff_ne]; omega
  have e67 : (k == 67) = false := by rw [beq_eq_false_iff_ne]; omega
  have e68 : (k == 68) = false := by rw [beq_eq_false_iff_ne]; omega
  have e69 : (k == 69) = false := by rw [beq_eq_false_iff_ne]; omega
  have e70 : (k == 70) = false := by rw [beq_eq_false_iff_ne]; omega
  have e71 : (k == 71) = false := by rw [beq_eq_false_iff_ne]; omega
  have e72 : (k == 72) = false := by rw [beq_eq_false_iff_ne]; omega
  have e73 : (k == 73) = false := by rw [beq_eq_false_iff_ne]; omega
  have e74 : (k == 74) = false := by rw [beq_eq_false_iff_ne]; omega
  go_enter Tryz.func124, Tryz.ntmps124
  go_wp2
  go_ret
  exact ⟨rfl, Below.refl _ _⟩
end Go.Proofs.YtfkjokbhnblndaaGreatDoor
