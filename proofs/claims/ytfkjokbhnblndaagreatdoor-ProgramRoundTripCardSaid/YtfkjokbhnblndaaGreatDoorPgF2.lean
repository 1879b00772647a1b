/- shapeOf, on. -/
import Derived.Test.YtfkjokbhnblndaaGreatDoorPgE
import Derived.Laws.ResultCell
import Derived.RegionCalls
namespace Go.Proofs.YtfkjokbhnblndaaGreatDoor
open Go.RowKit
set_option linter.unusedVariables false
set_option linter.unusedSimpArgs false

set_option maxRecDepth 100000 in
set_option maxHeartbeats 2000000 in
theorem shapeOf_50 (w : World) : Gives Tryz.prog 109 #[.int .i64 50] w (.tuple #[.agg #[.int .i64 12, .int .i64 1, .int .i64 0, .int .i64 0, .int .i64 0, .int .i64 0, .int .i64 0], .bool true]) := by
  unfold Gives
  go_enter Tryz.func109, Tryz.ntmps109
  go_wp2
  first
    | (refine bodyPost_ret (v := .tuple #[.agg #[.int .i64 12, .int .i64 1, .int .i64 0, .int .i64 0, .int .i64 0, .int .i64 0, .int .i64 0], .bool true]) ?_ rfl ⟨rfl, by go_grown⟩
       rw [results_cell_tmp rfl]
       simp [go_sem, asAddr, Result.andThen]
       done)
    | (go_region_calls
       all_goals (
         go_wp2
         refine bodyPost_ret (v := .tuple #[.agg #[.int .i64 12, .int .i64 1, .int .i64 0, .int .i64 0, .int .i64 0, .int .i64 0, .int .i64 0], .bool true]) ?_ rfl ⟨rfl, by go_grown⟩
         rw [results_cell_tmp rfl]
         simp [go_sem, asAddr, Result.andThen]
         done))
set_option maxRecDepth 100000 in
set_option maxHeartbeats 2000000 in
theorem shapeOf_51 (w : World) : Gives Tryz.prog 109 #[.int .i64 51] w (.tuple #[.agg #[.int .i64 4, .int .i64 0, .int .i64 12, .int .i64 1, .int .i64 0, .int .i64 0, .int .i64 0], .bool true]) := by
  unfold Gives
  go_enter Tryz.func109, Tryz.ntmps109
  go_wp2
  first
    | (refine bodyPost_ret (v := .tuple #[.agg #[.int .i64 4, .int .i64 0, .int .i64 12, .int .i64 1, .int .i64 0, .int .i64 0, .int .i64 0], .bool true]) ?_ rfl ⟨rfl, by go_grown⟩
       rw [results_cell_tmp rfl]
       simp [go_sem, asAddr, Result.andThen]
       done)
    | (go_region_calls
       all_goals (
         go_wp2
         refine bodyPost_ret (v := .tuple #[.agg #[.int .i64 4, .int .i64 0, .int .i64 12, .int .i64 1, .int .i64 0, .int .i64 0, .int .i64 0], .bool true]) ?_ rfl ⟨rfl, by go_grown⟩
         rw [results_cell_tmp rfl]
         simp [go_sem, asAddr, Result.andThen]
         done))
set_option maxRecDepth 100000 in
set_option maxHeartbeats 2000000 in
theorem shapeOf_52 (w : World) : Gives Tryz.prog 109 #[.int .i64 52] w (.tuple #[.agg #[.int .i64 12, .int .i64 1, .int .i64 0, .int .i64 0, .int .i64 0, .int .i64 0, .int .i64 0], .bool true]) := by
  unfold Gives
  go_enter Tryz.func109, Tryz.ntmps109
  go_wp2
  first
    | (refine bodyPost_ret (v := .tuple #[.agg #[.int .i64 12, .int .i64 1, .int .i64 0, .int .i64 0, .int .i64 0, .int .i64 0, .int .i64 0], .bool true]) ?_ rfl ⟨rfl, by go_grown⟩
       rw [results_cell_tmp rfl]
       simp [go_sem, asAddr, Result.andThen]
       done)
    | (go_region_calls
       all_goals (
         go_wp2
         refine bodyPost_ret (v := .tuple #[.agg #[.int .i64 12, .int .i64 1, .int .i64 0, .int .i64 0, .int .i64 0, .int .i64 0, .int .i64 0], .bool true]) ?_ rfl ⟨rfl, by go_grown⟩
         rw [results_cell_tmp rfl]
         simp [go_sem, asAddr, Result.andThen]
         done))
set_option maxRecDepth 100000 in
set_option maxHeartbeats 2000000 in
theorem shapeOf_53 (w : World) : Gives Tryz.prog 109 #[.int .i64 53] w (.tuple #[.agg #[.int .i64 12, .int .i64 2, .int .i64 0, .int .i64 0, .int .i64 0, .int .i64 0, .int .i64 0], .bool true]) := by
  unfold Gives
  go_enter Tryz.func109, Tryz.ntmps109
  go_wp2
  first
    | (refine bodyPost_ret (v := .tuple #[.agg #[.int .i64 12, .int .i64 2, .int .i64 0, .int .i64 0, .int .i64 0, .int .i64 0, .int .i64 0], .bool true]) ?_ rfl ⟨rfl, by go_grown⟩
       rw [results_cell_tmp rfl]
       simp [go_sem, asAddr, Result.andThen]
       done)
    | (go_region_calls
       all_goals (
         go_wp2
         refine bodyPost_ret (v := .tuple #[.agg #[.int .i64 12, .int .i64 2, .int .i64 0, .int .i64 0, .int .i64 0, .int .i64 0, .int .i64 0], .bool true]) ?_ rfl ⟨rfl, by go_grown⟩
         rw [results_cell_tmp rfl]
         simp [go_sem, asAddr, Result.andThen]
         done))
set_option maxRecDepth 100000 in
set_option maxHeartbeats 2000000 in
theorem shapeOf_54 (w : World) : Gives Tryz.prog 109 #[.int .i64 54] w (.tuple #[.agg #[.int .i64 12, .int .i64 2, .int .i64 0, .int .i64 0, .int .i64 0, .int .i64 0, .int .i64 0], .bool true]) := by
  unfold Gives
  go_enter Tryz.func109, Tryz.ntmps109
  go_wp2
  first
    | (refine bodyPost_ret (v := .tuple #[.agg #[.int .i64 12, .int .i64 2, .int .i64 0, .int .i64 0, .int .i64 0, .int .i64 0, .int .i64 0], .bool true]) ?_ rfl ⟨rfl, by go_grown⟩
       rw [results_cell_tmp rfl]
       simp [go_sem, asAddr, Result.andThen]
       done)
    | (go_region_calls
       all_goals (
         go_wp2
         refine bodyPost_ret (v := .tuple #[.agg #[.int .i64 12, .int .i64 2, .int .i64 0, .int .i64 0, .int .i64 0, .int .i64 0, .int .i64 0], .bool true]) ?_ rfl ⟨rfl, by go_grown⟩
         rw [results_cell_tmp rfl]
         simp [go_sem, asAddr, Result.andThen]
         done))
set_option maxRecDepth 100000 in
set_option maxHeartbeats 2000000 in
theorem shapeOf_55 (w : World) : Gives Tryz.prog 109 #[.int .i64 55] w (.tuple #[.agg #[.int .i64 12, .int .i64 2, .int .i64 0, .int .i64 0, .int .i64 0, .int .i64 0, .int .i64 0], .bool true]) := by
  unfold Gives
  go_enter Tryz.func109, Tryz.ntmps109
  go_wp2
  first
    | (refine bodyPost_ret (v := .tuple #[.agg #[.int .i64 12, .int .i64 2, .int .i64 0, .int .i64 0, .int .i64 0, .int .i64 0, .int .i64 0], .bool true]) ?_ rfl ⟨rfl, by go_grown⟩
       rw [results_cell_tmp rfl]
       simp [go_sem, asAddr, Result.andThen]
       done)
    | (go_region_calls
       all_goals (
         go_wp2
         refine bodyPost_ret (v := .tuple #[.agg #[.int .i64 12, .int .i64 2, .int .i64 0, .int .i64 0, .int .i64 0, .int .i64 0, .int .i64 0], .bool true]) ?_ rfl ⟨rfl, by go_grown⟩
         rw [results_cell_tmp rfl]
         simp [go_sem, asAddr, Result.andThen]
         done))
set_option maxRecDepth 100000 in
set_option maxHeartbeats 2000000 in
theorem shapeOf_56 (w : World) : Gives Tryz.prog 109 #[.int .i64 56] w (.tuple #[.agg #[.int .i64 12, .int .i64 2, .int .i64 0, .int .i64 0, .int .i64 0, .int .i64 0, .int .i64 0], .bool true]) := by
  unfold Gives
  go_enter Tryz.func109, Tryz.ntmps109
  go_wp2
  first
    | (refine bodyPost_ret (v := .tuple #[.agg #[.int .i64 12, .int .i64 2, .int .i64 0, .int .i64 0, .int .i64 0, .int .i64 0, .int .i64 0], .bool true]) ?_ rfl ⟨rfl, by go_grown⟩
       rw [results_cell_tmp rfl]
       simp [go_sem, asAddr, Result.andThen]
       done)
    | (go_region_calls
       all_goals (
         go_wp2
         refine bodyPost_ret (v := .tuple #[.agg #[.int .i64 12, .int .i64 2, .int .i64 0, .int .i64 0, .int .i64 0, .int .i64 0, .int .i64 0], .bool true]) ?_ rfl ⟨rfl, by go_grown⟩
         rw [results_cell_tmp rfl]
         simp [go_sem, asAddr, Result.andThen]
         done))
set_option maxRecDepth 100000 in
set_option maxHeartbeats 2000000 in
theorem shapeOf_57 (w : World) : Gives Tryz.prog 109 #[.int .i64 57] w (.tuple #[.agg #[.int .i64 12, .int .i64 3, .int .i64 0, .int .i64 0, .int .i64 0, .int .i64 0, .int .i64 0], .bool true]) := by
  unfold Gives
  go_enter Tryz.func109, Tryz.ntmps109
  go_wp2
  first
    | (refine bodyPost_ret (v := .tuple #[.agg #[.int .i64 12, .int .i64 3, .int .i64 0, .int .i64 0, .int .i64 0, .int .i64 0, .int .i64 0], .bool true]) ?_ rfl ⟨rfl, by go_grown⟩
       rw [results_cell_tmp rfl]
       simp [go_sem, asAddr, Result.andThen]
       done)
    | (go_region_calls
       all_goals (
         go_wp2
         refine bodyPost_ret (v := .tuple #[.agg #[.int .i64 12, .int .i64 3, .int .i64 0, .int .i64 0, .int .i64 0, .int .i64 0, .int .i64 0], .bool true]) ?_ rfl ⟨rfl, by go_grown⟩
         rw [results_cell_tmp rfl]
         simp [go_sem, asAddr, Result.andThen]
         done))
set_option maxRecDepth 100000 in
set_option maxHeartbeats 2000000 in
theorem shapeOf_58 (w : World) : Gives Tryz.prog 109 #[.int .i64 58] w (.tuple #[.agg #[.int .i64 12, .int .i64 3, .int .i64 0, .int .i64 0, .int .i64 0, .int .i64 0, .int .i64 0], .bool true]) := by
  unfold Gives
  go_enter Tryz.func109, Tryz.ntmps109
  go_wp2
  first
    | (refine bodyPost_ret (v := .tuple #[.agg #[.int .i64 12, .int .i64 3, .int .i64 0, .int .i64 0, .int .i64 0, .int .i64 0, .int .i64 0], .bool true]) ?_ rfl ⟨rfl, by go_grown⟩
       rw [results_cell_tmp rfl]
       simp [go_sem, asAddr, Result.andThen]
       done)
    | (go_region_calls
       all_goals (
         go_wp2
         refine bodyPost_ret (v := .tuple #[.agg #[.int .i64 12, .int .i64 3, .int .i64 0, .int .i64 0, .int .i64 0, .int .i64 0, .int .i64 0], .bool true]) ?_ rfl ⟨rfl, by go_grown⟩
         rw [results_cell_tmp rfl]
         simp [go_sem, asAddr, Result.andThen]
         done))
set_option maxRecDepth 100000 in
set_option maxHeartbeats 2000000 in
theorem shapeOf_59 (w : World) : Gives Tryz.prog 109 #[.int .i64 59] w (.tuple #[.agg #[.int .i64 12, .int .i64 3, .int .i64 0, .int .i64 0, .int .i64 0, .int .i64 0, .int .i64 0], .bool true]) := by
  unfold Gives
  go_enter Tryz.func109, Tryz.ntmps109
  go_wp2
  first
    | (refine bodyPost_ret (v := .tuple #[.agg #[.int .i64 12, .int .i64 3, .int .i64 0, .int .i64 0, .int .i64 0, .int .i64 0, .int .i64 0], .bool true]) ?_ rfl ⟨rfl, by go_grown⟩
       rw [results_cell_tmp rfl]
       simp [go_sem, asAddr, Result.andThen]
       done)
    | (go_region_calls
       all_goals (
         go_wp2
         refine bodyPost_ret (v := .tuple #[.agg #[.int .i64 12, .int .i64 3, .int .i64 0, .int .i64 0, .int .i64 0, .int .i64 0, .int .i64 0], .bool true]) ?_ rfl ⟨rfl, by go_grown⟩
         rw [results_cell_tmp rfl]
         simp [go_sem, asAddr, Result.andThen]
         done))
set_option maxRecDepth 100000 in
set_option maxHeartbeats 2000000 in
theorem shapeOf_60 (w : World) : Gives Tryz.prog 109 #[.int .i64 60] w (.tuple #[.agg #[.int .i64 12, .int .i64 4, .int .i64 3, .int .i64 0, .int .i64 0, .int .i64 0, .int .i64 0], .bool true]) := by
  unfold Gives
  go_enter Tryz.func109, Tryz.ntmps109
  go_wp2
  first
    | (refine bodyPost_ret (v := .tuple #[.agg #[.int .i64 12, .int .i64 4, .int .i64 3, .int .i64 0, .int .i64 0, .int .i64 0, .int .i64 0], .bool true]) ?_ rfl ⟨rfl, by go_grown⟩
       rw [results_cell_tmp rfl]
       simp [go_sem, asAddr, Result.andThen]
       done)
    | (go_region_calls
       all_goals (
         go_wp2
         refine bodyPost_ret (v := .tuple #[.agg #[.int .i64 12, .int .i64 4, .int .i64 3, .int .i64 0, .int .i64 0, .int .i64 0, .int .i64 0], .bool true]) ?_ rfl ⟨rfl, by go_grown⟩
         rw [results_cell_tmp rfl]
         simp [go_sem, asAddr, Result.andThen]
         done))
set_option maxRecDepth 100000 in
set_option maxHeartbeats 2000000 in
theorem shapeOf_61 (w : World) : Gives Tryz.prog 109 #[.int .i64 61] w (.tuple #[.agg #[.int .i64 4, .int .i64 0, .int .i64 12, .int .i64 4, .int .i64 3, .int .i64 0, .int .i64 0], .bool true]) := by
  unfold Gives
  go_enter Tryz.func109, Tryz.ntmps109
  go_wp2
  first
    | (refine bodyPost_ret (v := .tuple #[.agg #[.int .i64 4, .int .i64 0, .int .i64 12, .int .i64 4, .int .i64 3, .int .i64 0, .int .i64 0], .bool true]) ?_ rfl ⟨rfl, by go_grown⟩
       rw [results_cell_tmp rfl]
       simp [go_sem, asAddr, Result.andThen]
       done)
    | (go_region_calls
       all_goals (
         go_wp2
         refine bodyPost_ret (v := .tuple #[.agg #[.int .i64 4, .int .i64 0, .int .i64 12, .int .i64 4, .int .i64 3, .int .i64 0, .int .i64 0], .bool true]) ?_ rfl ⟨rfl, by go_grown⟩
         rw [results_cell_tmp rfl]
         simp [go_sem, asAddr, Result.andThen]
         done))
set_option maxRecDepth 100000 in
set_option maxHeartbeats 2000000 in
theorem shapeOf_62 (w : World) : Gives Tryz.prog 109 #[.int .i64 62] w (.tuple #[.agg #[.int .i64 12, .int .i64 4, .int .i64 3, .int .i64 0, .int .i64 0, .int .i64 0, .int .i64 0], .bool true]) := by
  unfold Gives
  go_enter Tryz.func109, Tryz.ntmps109
  go_wp2
  first
    | (refine bodyPost_ret (v := .tuple #[.agg #[.int .i64 12, .int .i64 4, .int .i64 3, .int .i64 0, .int .i64 0, .int .i64 0, .int .i64 0], .bool true]) ?_ rfl ⟨rfl, by go_grown⟩
       rw [results_cell_tmp rfl]
       simp [go_sem, asAddr, Result.andThen]
       done)
    | (go_region_calls
       all_goals (
         go_wp2
         refine bodyPost_ret (v := .tuple #[.agg #[.int .i64 12, .int .i64 4, .int .i64 3, .int .i64 0, .int .i64 0, .int .i64 0, .int .i64 0], .bool true]) ?_ rfl ⟨rfl, by go_grown⟩
         rw [results_cell_tmp rfl]
         simp [go_sem, asAddr, Result.andThen]
         done))
set_option maxRecDepth 100000 in
set_option maxHeartbeats 2000000 in
theorem shapeOf_63 (w : World) : Gives Tryz.prog 109 #[.int .i64 63] w (.tuple #[.agg #[.int .i64 4, .int .i64 0, .int .i64 12, .int .i64 5, .int .i64 0, .int .i64 0, .int .i64 0], .bool true]) := by
  unfold Gives
  go_enter Tryz.func109, Tryz.ntmps109
  go_wp2
  first
    | (refine bodyPost_ret (v := .tuple #[.agg #[.int .i64 4, .int .i64 0, .int .i64 12, .int .i64 5, .int .i64 0, .int .i64 0, .int .i64 0], .bool true]) ?_ rfl ⟨rfl, by go_grown⟩
       rw [results_cell_tmp rfl]
       simp [go_sem, asAddr, Result.andThen]
       done)
    | (go_region_calls
       all_goals (
         go_wp2
         refine bodyPost_ret (v := .tuple #[.agg #[.int .i64 4, .int .i64 0, .int .i64 12, .int .i64 5, .int .i64 0, .int .i64 0, .int .i64 0], .bool true]) ?_ rfl ⟨rfl, by go_grown⟩
         rw [results_cell_tmp rfl]
         simp [go_sem, asAddr, Result.andThen]
         done))
set_option maxRecDepth 100000 in
set_option maxHeartbeats 2000000 in
theorem shapeOf_64 (w : World) : Gives Tryz.prog 109 #[.int .i64 64] w (.tuple #[.agg #[.int .i64 12, .int .i64 6, .int .i64 3, .int .i64 0, .int .i64 0, .int .i64 0, .int .i64 0], .bool true]) := by
  unfold Gives
  go_enter Tryz.func109, Tryz.ntmps109
  go_wp2
  first
    | (refine bodyPost_ret (v := .tuple #[.agg #[.int .i64 12, .int .i64 6, .int .i64 3, .int .i64 0, .int .i64 0, .int .i64 0, .int .i64 0], .bool true]) ?_ rfl ⟨rfl, by go_grown⟩
       rw [results_cell_tmp rfl]
       simp [go_sem, asAddr, Result.andThen]
       done)
    | (go_region_calls
       all_goals (
         go_wp2
         refine bodyPost_ret (v := .tuple #[.agg #[.int .i64 12, .int .i64 6, .int .i64 3, .int .i64 0, .int .i64 0, .int .i64 0, .int .i64 0], .bool true]) ?_ rfl ⟨rfl, by go_grown⟩
         rw [results_cell_tmp rfl]
         simp [go_sem, asAddr, Result.andThen]
         done))
set_option maxRecDepth 100000 in
set_option maxHeartbeats 2000000 in
theorem shapeOf_65 (w : World) : Gives Tryz.prog 109 #[.int .i64 65] w (.tuple #[.agg #[.int .i64 4, .int .i64 0, .int .i64 12, .int .i64 6, .int .i64 4, .int .i64 0, .int .i64 0], .bool true]) := by
  unfold Gives
  go_enter Tryz.func109, Tryz.ntmps109
  go_wp2
  first
    | (refine bodyPost_ret (v := .tuple #[.agg #[.int .i64 4, .int .i64 0, .int .i64 12, .int .i64 6, .int .i64 4, .int .i64 0, .int .i64 0], .bool true]) ?_ rfl ⟨rfl, by go_grown⟩
       rw [results_cell_tmp rfl]
       simp [go_sem, asAddr, Result.andThen]
       done)
    | (go_region_calls
       all_goals (
         go_wp2
         refine bodyPost_ret (v := .tuple #[.agg #[.int .i64 4, .int .i64 0, .int .i64 12, .int .i64 6, .int .i64 4, .int .i64 0, .int .i64 0], .bool true]) ?_ rfl ⟨rfl, by go_grown⟩
         rw [results_cell_tmp rfl]
         simp [go_sem, asAddr, Result.andThen]
         done))
set_option maxRecDepth 100000 in
set_option maxHeartbeats 2000000 in
theorem shapeOf_66 (w : World) : Gives Tryz.prog 109 #[.int .i64 66] w (.tuple #[.agg #[.int .i64 12, .int .i64 6, .int .i64 0, .int .i64 0, .int .i64 0, .int .i64 0, .int .i64 0], .bool true]) := by
  unfold Gives
  go_enter Tryz.func109, Tryz.ntmps109
  go_wp2
  first
    | (refine bodyPost_ret (v := .tuple #[.agg #[.int .i64 12, .int .i64 6, .int .i64 0, .int .i64 0, .int .i64 0, .int .i64 0, .int .i64 0], .bool true]) ?_ rfl ⟨rfl, by go_grown⟩
       rw [results_cell_tmp rfl]
       simp [go_sem, asAddr, Result.andThen]
       done)
    | (go_region_calls
       all_goals (
         go_wp2
         refine bodyPost_ret (v := .tuple #[.agg #[.int .i64 12, .int .i64 6, .int .i64 0, .int .i64 0, .int .i64 0, .int .i64 0, .int .i64 0], .bool true]) ?_ rfl ⟨rfl, by go_grown⟩
         rw [results_cell_tmp rfl]
         simp [go_sem, asAddr, Result.andThen]
         done))
set_option maxRecDepth 100000 in
set_option maxHeartbeats 2000000 in
theorem shapeOf_67 (w : World) : Gives Tryz.prog 109 #[.int .i64 67] w (.tuple #[.agg #[.int .i64 4, .int .i64 0, .int .i64 4, .int .i64 0, .int .i64 4, .int .i64 0, .int .i64 3], .bool true]) := by
  unfold Gives
  go_enter Tryz.func109, Tryz.ntmps109
  go_wp2
  first
    | (refine bodyPost_ret (v := .tuple #[.agg #[.int .i64 4, .int .i64 0, .int .i64 4, .int .i64 0, .int .i64 4, .int .i64 0, .int .i64 3], .bool true]) ?_ rfl ⟨rfl, by go_grown⟩
       rw [results_cell_tmp rfl]
       simp [go_sem, asAddr, Result.andThen]
       done)
    | (go_region_calls
       all_goals (
         go_wp2
         refine bodyPost_ret (v := .tuple #[.agg #[.int .i64 4, .int .i64 0, .int .i64 4, .int .i64 0, .int .i64 4, .int .i64 0, .int .i64 3], .bool true]) ?_ rfl ⟨rfl, by go_grown⟩
         rw [results_cell_tmp rfl]
         simp [go_sem, asAddr, Result.andThen]
         done))
set_option maxRecDepth 100000 in
set_option maxHeartbeats 2000000 in
theorem shapeOf_68 (w : World) : Gives Tryz.prog 109 #[.int .i64 68] w (.tuple #[.agg #[.int .i64 12, .int .i64 7, .int .i64 3, .int .i64 0, .int .i64 0, .int .i64 0, .int .i64 0], .bool true]) := by
  unfold Gives
  go_enter Tryz.func109, Tryz.ntmps109
  go_wp2
  first
    | (refine bodyPost_ret (v := .tuple #[.agg #[.int .i64 12, .int .i64 7, .int .i64 3, .int .i64 0, .int .i64 0, .int .i64 0, .int .i64 0], .bool true]) ?_ rfl ⟨rfl, by go_grown⟩
       rw [results_cell_tmp rfl]
       simp [go_sem, asAddr, Result.andThen]
       done)
    | (go_region_calls
       all_goals (
         go_wp2
         refine bodyPost_ret (v := .tuple #[.agg #[.int .i64 12, .int .i64 7, .int .i64 3, .int .i64 0, .int .i64 0, .int .i64 0, .int .i64 0], .bool true]) ?_ rfl ⟨rfl, by go_grown⟩
         rw [results_cell_tmp rfl]
         simp [go_sem, asAddr, Result.andThen]
         done))
set_option maxRecDepth 100000 in
set_option maxHeartbeats 2000000 in
theorem shapeOf_69 (w : World) : Gives Tryz.prog 109 #[.int .i64 69] w (.tuple #[.agg #[.int .i64 12, .int .i64 7, .int .i64 0, .int .i64 0, .int .i64 0, .int .i64 0, .int .i64 0], .bool true]) := by
  unfold Gives
  go_enter Tryz.func109, Tryz.ntmps109
  go_wp2
  first
    | (refine bodyPost_ret (v := .tuple #[.agg #[.int .i64 12, .int .i64 7, .int .i64 0, .int .i64 0, .int .i64 0, .int .i64 0, .int .i64 0], .bool true]) ?_ rfl ⟨rfl, by go_grown⟩
       rw [results_cell_tmp rfl]
       simp [go_sem, asAddr, Result.andThen]
       done)
    | (go_region_calls
       all_goals (
         go_wp2
         refine bodyPost_ret (v := .tuple #[.agg #[.int .i64 12, .int .i64 7, .int .i64 0, .int .i64 0, .int .i64 0, .int .i64 0, .int .i64 0], .bool true]) ?_ rfl ⟨rfl, by go_grown⟩
         rw [results_cell_tmp rfl]
         simp [go_sem, asAddr, Result.andThen]
         done))
set_option maxRecDepth 100000 in
set_option maxHeartbeats 2000000 in
theorem shapeOf_70 (w : World) : Gives Tryz.prog 109 #[.int .i64 70] w (.tuple #[.agg #[.int .i64 4, .int .i64 0, .int .i64 12, .int .i64 7, .int .i64 0, .int .i64 0, .int .i64 0], .bool true]) := by
  unfold Gives
  go_enter Tryz.func109, Tryz.ntmps109
  go_wp2
  first
    | (refine bodyPost_ret (v := .tuple #[.agg #[.int .i64 4, .int .i64 0, .int .i64 12, .int .i64 7, .int .i64 0, .int .i64 0, .int .i64 0], .bool true]) ?_ rfl ⟨rfl, by go_grown⟩
       rw [results_cell_tmp rfl]
       simp [go_sem, asAddr, Result.andThen]
       done)
    | (go_region_calls
       all_goals (
         go_wp2
         refine bodyPost_ret (v := .tuple #[.agg #[.int .i64 4, .int .i64 0, .int .i64 12, .int .i64 7, .int .i64 0, .int .i64 0, .int .i64 0], .bool true]) ?_ rfl ⟨rfl, by go_grown⟩
         rw [results_cell_tmp rfl]
         simp [go_sem, asAddr, Result.andThen]
         done))
set_option maxRecDepth 100000 in
set_option maxHeartbeats 2000000 in
theorem shapeOf_71 (w : World) : Gives Tryz.prog 109 #[.int .i64 71] w (.tuple #[.agg #[.int .i64 12, .int .i64 7, .int .i64 0, .int .i64 0, .int .i64 0, .int .i64 0, .int .i64 0], .bool true]) := by
  unfold Gives
  go_enter Tryz.func109, Tryz.ntmps109
  go_wp2
  first
    | (refine bodyPost_ret (v := .tuple #[.agg #[.int .i64 12, .int .i64 7, .int .i64 0, .int .i64 0, .int .i64 0, .int .i64 0, .int .i64 0], .bool true]) ?_ rfl ⟨rfl, by go_grown⟩
       rw [results_cell_tmp rfl]
       simp [go_sem, asAddr, Result.andThen]
       done)
    | (go_region_calls
       all_goals (
         go_wp2
         refine bodyPost_ret (v := .tuple #[.agg #[.int .i64 12, .int .i64 7, .int .i64 0, .int .i64 0, .int .i64 0, .int .i64 0, .int .i64 0], .bool true]) ?_ rfl ⟨rfl, by go_grown⟩
         rw [results_cell_tmp rfl]
         simp [go_sem, asAddr, Result.andThen]
         done))
set_option maxRecDepth 100000 in
set_option maxHeartbeats 2000000 in
theorem shapeOf_72 (w : World) : Gives Tryz.prog 109 #[.int .i64 72] w (.tuple #[.agg #[.int .i64 12, .int .i64 8, .int .i64 3, .int .i64 0, .int .i64 0, .int .i64 0, .int .i64 0], .bool true]) := by
  unfold Gives
  go_enter Tryz.func109, Tryz.ntmps109
  go_wp2
  first
    | (refine bodyPost_ret (v := .tuple #[.agg #[.int .i64 12, .int .i64 8, .int .i64 3, .int .i64 0, .int .i64 0, .int .i64 0, .int .i64 0], .bool true]) ?_ rfl ⟨rfl, by go_grown⟩
       rw [results_cell_tmp rfl]
       simp [go_sem, asAddr, Result.andThen]
       done)
    | (go_region_calls
       all_goals (
         go_wp2
         refine bodyPost_ret (v := .tuple #[.agg #[.int .i64 12, .int .i64 8, .int .i64 3, .int .i64 0, .int .i64 0, .int .i64 0, .int .i64 0], .bool true]) ?_ rfl ⟨rfl, by go_grown⟩
         rw [results_cell_tmp rfl]
         simp [go_sem, asAddr, Result.andThen]
         done))
set_option maxRecDepth 100000 in
set_option maxHeartbeats 2000000 in
theorem shapeOf_73 (w : World) : Gives Tryz.prog 109 #[.int .i64 73] w (.tuple #[.agg #[.int .i64 12, .int .i64 9, .int .i64 3, .int .i64 0, .int .i64 0, .int .i64 0, .int .i64 0], .bool true]) := by
  unfold Gives
  go_enter Tryz.func109, Tryz.ntmps109
  go_wp2
  first
    | (refine bodyPost_ret (v := .tuple #[.agg #[.int .i64 12, .int .i64 9, .int .i64 3, .int .i64 0, .int .i64 0, .int .i64 0, .int .i64 0], .bool true]) ?_ rfl ⟨rfl, by go_grown⟩
       rw [results_cell_tmp rfl]
       simp [go_sem, asAddr, Result.andThen]
       done)
    | (go_region_calls
       all_goals (
         go_wp2
         refine bodyPost_ret (v := .tuple #[.agg #[.int .i64 12, .int .i64 9, .int .i64 3, .int .i64 0, .int .i64 0, .int .i64 0, .int .i64 0], .bool true]) ?_ rfl ⟨rfl, by go_grown⟩
         rw [results_cell_tmp rfl]
         simp [go_sem, asAddr, Result.andThen]
         done))
set_option maxRecDepth 100000 in
set_option maxHeartbeats 2000000 in
theorem shapeOf_74 (w : World) : Gives Tryz.prog 109 #[.int .i64 74] w (.tuple #[.agg #[.int .i64 4, .int .i64 0, .int .i64 12, .int .i64 9, .int .i64 0, .int .i64 0, .int .i64 0], .bool true]) := by
  unfold Gives
  go_enter Tryz.func109, Tryz.ntmps109
  go_wp2
  first
    | (refine bodyPost_ret (v := .tuple #[.agg #[.int .i64 4, .int .i64 0, .int .i64 12, .int .i64 9, .int .i64 0, .int .i64 0, .int .i64 0], .bool true]) ?_ rfl ⟨rfl, by go_grown⟩
       rw [results_cell_tmp rfl]
       simp [go_sem, asAddr, Result.andThen]
       done)
    | (go_region_calls
       all_goals (
         go_wp2
         refine bodyPost_ret (v := .tuple #[.agg #[.int .i64 4, .int .i64 0, .int .i64 12, .int .i64 9, .int .i64 0, .int .i64 0, .int .i64 0], .bool true]) ?_ rfl ⟨rfl, by go_grown⟩
         rw [results_cell_tmp rfl]
         simp [go_sem, asAddr, Result.andThen]
         done))
end Go.Proofs.YtfkjokbhnblndaaGreatDoor
