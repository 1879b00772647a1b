/- shapeOf. -/
import Derived.Test.YtfkjokbhnblndaaGreatDoorPgE
import Derived.Laws.ResultCell
import Derived.RegionCalls
namespace Go.Proofs.YtfkjokbhnblndaaGreatDoor
open Go.RowKit
set_option linter.unusedVariables false
set_option linter.unusedSimpArgs false

/-- a shape as a value -/
abbrev SV (s : Sh) : Value := .agg #[.int .i64 s.a.what, .int .i64 s.a.kind, .int .i64 s.b.what, .int .i64 s.b.kind, .int .i64 s.c.what, .int .i64 s.c.kind, .int .i64 s.args]
theorem shp_some : ∀ k s, shp k = some s → (k, s) ∈ shTab := by
  intro k s h
  unfold shp at h
  generalize shTab = l at *
  induction l with
  | nil => simp at h
  | cons x l ih =>
    obtain ⟨j, t⟩ := x
    rw [List.lookup_cons] at h
    by_cases e : k = j
    · subst e; simp at h; subst h; simp
    · have e1 : (k == j) = false := by simpa using e
      rw [e1] at h
      exact List.mem_cons_of_mem _ (ih h)

set_option maxRecDepth 100000 in
set_option maxHeartbeats 2000000 in
theorem shapeOf_1 (w : World) : Gives Tryz.prog 109 #[.int .i64 1] w (.tuple #[.agg #[.int .i64 4, .int .i64 0, .int .i64 1, .int .i64 0, .int .i64 0, .int .i64 0, .int .i64 0], .bool true]) := by
  unfold Gives
  go_enter Tryz.func109, Tryz.ntmps109
  go_wp2
  first
    | (refine bodyPost_ret (v := .tuple #[.agg #[.int .i64 4, .int .i64 0, .int .i64 1, .int .i64 0, .int .i64 0, .int .i64 0, .int .i64 0], .bool true]) ?_ rfl ⟨rfl, by go_grown⟩
       rw [results_cell_tmp rfl]
       simp [go_sem, asAddr, Result.andThen]
       done)
    | (go_region_calls
       all_goals (
         go_wp2
         refine bodyPost_ret (v := .tuple #[.agg #[.int .i64 4, .int .i64 0, .int .i64 1, .int .i64 0, .int .i64 0, .int .i64 0, .int .i64 0], .bool true]) ?_ rfl ⟨rfl, by go_grown⟩
         rw [results_cell_tmp rfl]
         simp [go_sem, asAddr, Result.andThen]
         done))
set_option maxRecDepth 100000 in
set_option maxHeartbeats 2000000 in
theorem shapeOf_2 (w : World) : Gives Tryz.prog 109 #[.int .i64 2] w (.tuple #[.agg #[.int .i64 4, .int .i64 0, .int .i64 3, .int .i64 0, .int .i64 0, .int .i64 0, .int .i64 0], .bool true]) := by
  unfold Gives
  go_enter Tryz.func109, Tryz.ntmps109
  go_wp2
  first
    | (refine bodyPost_ret (v := .tuple #[.agg #[.int .i64 4, .int .i64 0, .int .i64 3, .int .i64 0, .int .i64 0, .int .i64 0, .int .i64 0], .bool true]) ?_ rfl ⟨rfl, by go_grown⟩
       rw [results_cell_tmp rfl]
       simp [go_sem, asAddr, Result.andThen]
       done)
    | (go_region_calls
       all_goals (
         go_wp2
         refine bodyPost_ret (v := .tuple #[.agg #[.int .i64 4, .int .i64 0, .int .i64 3, .int .i64 0, .int .i64 0, .int .i64 0, .int .i64 0], .bool true]) ?_ rfl ⟨rfl, by go_grown⟩
         rw [results_cell_tmp rfl]
         simp [go_sem, asAddr, Result.andThen]
         done))
set_option maxRecDepth 100000 in
set_option maxHeartbeats 2000000 in
theorem shapeOf_3 (w : World) : Gives Tryz.prog 109 #[.int .i64 3] w (.tuple #[.agg #[.int .i64 4, .int .i64 0, .int .i64 3, .int .i64 0, .int .i64 3, .int .i64 0, .int .i64 0], .bool true]) := by
  unfold Gives
  go_enter Tryz.func109, Tryz.ntmps109
  go_wp2
  first
    | (refine bodyPost_ret (v := .tuple #[.agg #[.int .i64 4, .int .i64 0, .int .i64 3, .int .i64 0, .int .i64 3, .int .i64 0, .int .i64 0], .bool true]) ?_ rfl ⟨rfl, by go_grown⟩
       rw [results_cell_tmp rfl]
       simp [go_sem, asAddr, Result.andThen]
       done)
    | (go_region_calls
       all_goals (
         go_wp2
         refine bodyPost_ret (v := .tuple #[.agg #[.int .i64 4, .int .i64 0, .int .i64 3, .int .i64 0, .int .i64 3, .int .i64 0, .int .i64 0], .bool true]) ?_ rfl ⟨rfl, by go_grown⟩
         rw [results_cell_tmp rfl]
         simp [go_sem, asAddr, Result.andThen]
         done))
set_option maxRecDepth 100000 in
set_option maxHeartbeats 2000000 in
theorem shapeOf_4 (w : World) : Gives Tryz.prog 109 #[.int .i64 4] w (.tuple #[.agg #[.int .i64 4, .int .i64 0, .int .i64 3, .int .i64 0, .int .i64 3, .int .i64 0, .int .i64 0], .bool true]) := by
  unfold Gives
  go_enter Tryz.func109, Tryz.ntmps109
  go_wp2
  first
    | (refine bodyPost_ret (v := .tuple #[.agg #[.int .i64 4, .int .i64 0, .int .i64 3, .int .i64 0, .int .i64 3, .int .i64 0, .int .i64 0], .bool true]) ?_ rfl ⟨rfl, by go_grown⟩
       rw [results_cell_tmp rfl]
       simp [go_sem, asAddr, Result.andThen]
       done)
    | (go_region_calls
       all_goals (
         go_wp2
         refine bodyPost_ret (v := .tuple #[.agg #[.int .i64 4, .int .i64 0, .int .i64 3, .int .i64 0, .int .i64 3, .int .i64 0, .int .i64 0], .bool true]) ?_ rfl ⟨rfl, by go_grown⟩
         rw [results_cell_tmp rfl]
         simp [go_sem, asAddr, Result.andThen]
         done))
set_option maxRecDepth 100000 in
set_option maxHeartbeats 2000000 in
theorem shapeOf_5 (w : World) : Gives Tryz.prog 109 #[.int .i64 5] w (.tuple #[.agg #[.int .i64 4, .int .i64 0, .int .i64 3, .int .i64 0, .int .i64 3, .int .i64 0, .int .i64 0], .bool true]) := by
  unfold Gives
  go_enter Tryz.func109, Tryz.ntmps109
  go_wp2
  first
    | (refine bodyPost_ret (v := .tuple #[.agg #[.int .i64 4, .int .i64 0, .int .i64 3, .int .i64 0, .int .i64 3, .int .i64 0, .int .i64 0], .bool true]) ?_ rfl ⟨rfl, by go_grown⟩
       rw [results_cell_tmp rfl]
       simp [go_sem, asAddr, Result.andThen]
       done)
    | (go_region_calls
       all_goals (
         go_wp2
         refine bodyPost_ret (v := .tuple #[.agg #[.int .i64 4, .int .i64 0, .int .i64 3, .int .i64 0, .int .i64 3, .int .i64 0, .int .i64 0], .bool true]) ?_ rfl ⟨rfl, by go_grown⟩
         rw [results_cell_tmp rfl]
         simp [go_sem, asAddr, Result.andThen]
         done))
set_option maxRecDepth 100000 in
set_option maxHeartbeats 2000000 in
theorem shapeOf_6 (w : World) : Gives Tryz.prog 109 #[.int .i64 6] w (.tuple #[.agg #[.int .i64 4, .int .i64 0, .int .i64 3, .int .i64 0, .int .i64 3, .int .i64 0, .int .i64 0], .bool true]) := by
  unfold Gives
  go_enter Tryz.func109, Tryz.ntmps109
  go_wp2
  first
    | (refine bodyPost_ret (v := .tuple #[.agg #[.int .i64 4, .int .i64 0, .int .i64 3, .int .i64 0, .int .i64 3, .int .i64 0, .int .i64 0], .bool true]) ?_ rfl ⟨rfl, by go_grown⟩
       rw [results_cell_tmp rfl]
       simp [go_sem, asAddr, Result.andThen]
       done)
    | (go_region_calls
       all_goals (
         go_wp2
         refine bodyPost_ret (v := .tuple #[.agg #[.int .i64 4, .int .i64 0, .int .i64 3, .int .i64 0, .int .i64 3, .int .i64 0, .int .i64 0], .bool true]) ?_ rfl ⟨rfl, by go_grown⟩
         rw [results_cell_tmp rfl]
         simp [go_sem, asAddr, Result.andThen]
         done))
set_option maxRecDepth 100000 in
set_option maxHeartbeats 2000000 in
theorem shapeOf_7 (w : World) : Gives Tryz.prog 109 #[.int .i64 7] w (.tuple #[.agg #[.int .i64 4, .int .i64 0, .int .i64 3, .int .i64 0, .int .i64 3, .int .i64 0, .int .i64 0], .bool true]) := by
  unfold Gives
  go_enter Tryz.func109, Tryz.ntmps109
  go_wp2
  first
    | (refine bodyPost_ret (v := .tuple #[.agg #[.int .i64 4, .int .i64 0, .int .i64 3, .int .i64 0, .int .i64 3, .int .i64 0, .int .i64 0], .bool true]) ?_ rfl ⟨rfl, by go_grown⟩
       rw [results_cell_tmp rfl]
       simp [go_sem, asAddr, Result.andThen]
       done)
    | (go_region_calls
       all_goals (
         go_wp2
         refine bodyPost_ret (v := .tuple #[.agg #[.int .i64 4, .int .i64 0, .int .i64 3, .int .i64 0, .int .i64 3, .int .i64 0, .int .i64 0], .bool true]) ?_ rfl ⟨rfl, by go_grown⟩
         rw [results_cell_tmp rfl]
         simp [go_sem, asAddr, Result.andThen]
         done))
set_option maxRecDepth 100000 in
set_option maxHeartbeats 2000000 in
theorem shapeOf_8 (w : World) : Gives Tryz.prog 109 #[.int .i64 8] w (.tuple #[.agg #[.int .i64 4, .int .i64 0, .int .i64 3, .int .i64 0, .int .i64 3, .int .i64 0, .int .i64 0], .bool true]) := by
  unfold Gives
  go_enter Tryz.func109, Tryz.ntmps109
  go_wp2
  first
    | (refine bodyPost_ret (v := .tuple #[.agg #[.int .i64 4, .int .i64 0, .int .i64 3, .int .i64 0, .int .i64 3, .int .i64 0, .int .i64 0], .bool true]) ?_ rfl ⟨rfl, by go_grown⟩
       rw [results_cell_tmp rfl]
       simp [go_sem, asAddr, Result.andThen]
       done)
    | (go_region_calls
       all_goals (
         go_wp2
         refine bodyPost_ret (v := .tuple #[.agg #[.int .i64 4, .int .i64 0, .int .i64 3, .int .i64 0, .int .i64 3, .int .i64 0, .int .i64 0], .bool true]) ?_ rfl ⟨rfl, by go_grown⟩
         rw [results_cell_tmp rfl]
         simp [go_sem, asAddr, Result.andThen]
         done))
set_option maxRecDepth 100000 in
set_option maxHeartbeats 2000000 in
theorem shapeOf_9 (w : World) : Gives Tryz.prog 109 #[.int .i64 9] w (.tuple #[.agg #[.int .i64 4, .int .i64 0, .int .i64 3, .int .i64 0, .int .i64 3, .int .i64 0, .int .i64 0], .bool true]) := by
  unfold Gives
  go_enter Tryz.func109, Tryz.ntmps109
  go_wp2
  first
    | (refine bodyPost_ret (v := .tuple #[.agg #[.int .i64 4, .int .i64 0, .int .i64 3, .int .i64 0, .int .i64 3, .int .i64 0, .int .i64 0], .bool true]) ?_ rfl ⟨rfl, by go_grown⟩
       rw [results_cell_tmp rfl]
       simp [go_sem, asAddr, Result.andThen]
       done)
    | (go_region_calls
       all_goals (
         go_wp2
         refine bodyPost_ret (v := .tuple #[.agg #[.int .i64 4, .int .i64 0, .int .i64 3, .int .i64 0, .int .i64 3, .int .i64 0, .int .i64 0], .bool true]) ?_ rfl ⟨rfl, by go_grown⟩
         rw [results_cell_tmp rfl]
         simp [go_sem, asAddr, Result.andThen]
         done))
set_option maxRecDepth 100000 in
set_option maxHeartbeats 2000000 in
theorem shapeOf_10 (w : World) : Gives Tryz.prog 109 #[.int .i64 10] w (.tuple #[.agg #[.int .i64 4, .int .i64 0, .int .i64 3, .int .i64 0, .int .i64 3, .int .i64 0, .int .i64 0], .bool true]) := by
  unfold Gives
  go_enter Tryz.func109, Tryz.ntmps109
  go_wp2
  first
    | (refine bodyPost_ret (v := .tuple #[.agg #[.int .i64 4, .int .i64 0, .int .i64 3, .int .i64 0, .int .i64 3, .int .i64 0, .int .i64 0], .bool true]) ?_ rfl ⟨rfl, by go_grown⟩
       rw [results_cell_tmp rfl]
       simp [go_sem, asAddr, Result.andThen]
       done)
    | (go_region_calls
       all_goals (
         go_wp2
         refine bodyPost_ret (v := .tuple #[.agg #[.int .i64 4, .int .i64 0, .int .i64 3, .int .i64 0, .int .i64 3, .int .i64 0, .int .i64 0], .bool true]) ?_ rfl ⟨rfl, by go_grown⟩
         rw [results_cell_tmp rfl]
         simp [go_sem, asAddr, Result.andThen]
         done))
set_option maxRecDepth 100000 in
set_option maxHeartbeats 2000000 in
theorem shapeOf_11 (w : World) : Gives Tryz.prog 109 #[.int .i64 11] w (.tuple #[.agg #[.int .i64 4, .int .i64 0, .int .i64 3, .int .i64 0, .int .i64 3, .int .i64 0, .int .i64 0], .bool true]) := by
  unfold Gives
  go_enter Tryz.func109, Tryz.ntmps109
  go_wp2
  first
    | (refine bodyPost_ret (v := .tuple #[.agg #[.int .i64 4, .int .i64 0, .int .i64 3, .int .i64 0, .int .i64 3, .int .i64 0, .int .i64 0], .bool true]) ?_ rfl ⟨rfl, by go_grown⟩
       rw [results_cell_tmp rfl]
       simp [go_sem, asAddr, Result.andThen]
       done)
    | (go_region_calls
       all_goals (
         go_wp2
         refine bodyPost_ret (v := .tuple #[.agg #[.int .i64 4, .int .i64 0, .int .i64 3, .int .i64 0, .int .i64 3, .int .i64 0, .int .i64 0], .bool true]) ?_ rfl ⟨rfl, by go_grown⟩
         rw [results_cell_tmp rfl]
         simp [go_sem, asAddr, Result.andThen]
         done))
set_option maxRecDepth 100000 in
set_option maxHeartbeats 2000000 in
theorem shapeOf_12 (w : World) : Gives Tryz.prog 109 #[.int .i64 12] w (.tuple #[.agg #[.int .i64 4, .int .i64 0, .int .i64 3, .int .i64 0, .int .i64 0, .int .i64 0, .int .i64 0], .bool true]) := by
  unfold Gives
  go_enter Tryz.func109, Tryz.ntmps109
  go_wp2
  first
    | (refine bodyPost_ret (v := .tuple #[.agg #[.int .i64 4, .int .i64 0, .int .i64 3, .int .i64 0, .int .i64 0, .int .i64 0, .int .i64 0], .bool true]) ?_ rfl ⟨rfl, by go_grown⟩
       rw [results_cell_tmp rfl]
       simp [go_sem, asAddr, Result.andThen]
       done)
    | (go_region_calls
       all_goals (
         go_wp2
         refine bodyPost_ret (v := .tuple #[.agg #[.int .i64 4, .int .i64 0, .int .i64 3, .int .i64 0, .int .i64 0, .int .i64 0, .int .i64 0], .bool true]) ?_ rfl ⟨rfl, by go_grown⟩
         rw [results_cell_tmp rfl]
         simp [go_sem, asAddr, Result.andThen]
         done))
set_option maxRecDepth 100000 in
set_option maxHeartbeats 2000000 in
theorem shapeOf_13 (w : World) : Gives Tryz.prog 109 #[.int .i64 13] w (.tuple #[.agg #[.int .i64 6, .int .i64 0, .int .i64 0, .int .i64 0, .int .i64 0, .int .i64 0, .int .i64 0], .bool true]) := by
  unfold Gives
  go_enter Tryz.func109, Tryz.ntmps109
  go_wp2
  first
    | (refine bodyPost_ret (v := .tuple #[.agg #[.int .i64 6, .int .i64 0, .int .i64 0, .int .i64 0, .int .i64 0, .int .i64 0, .int .i64 0], .bool true]) ?_ rfl ⟨rfl, by go_grown⟩
       rw [results_cell_tmp rfl]
       simp [go_sem, asAddr, Result.andThen]
       done)
    | (go_region_calls
       all_goals (
         go_wp2
         refine bodyPost_ret (v := .tuple #[.agg #[.int .i64 6, .int .i64 0, .int .i64 0, .int .i64 0, .int .i64 0, .int .i64 0, .int .i64 0], .bool true]) ?_ rfl ⟨rfl, by go_grown⟩
         rw [results_cell_tmp rfl]
         simp [go_sem, asAddr, Result.andThen]
         done))
set_option maxRecDepth 100000 in
set_option maxHeartbeats 2000000 in
theorem shapeOf_14 (w : World) : Gives Tryz.prog 109 #[.int .i64 14] w (.tuple #[.agg #[.int .i64 3, .int .i64 0, .int .i64 6, .int .i64 0, .int .i64 0, .int .i64 0, .int .i64 0], .bool true]) := by
  unfold Gives
  go_enter Tryz.func109, Tryz.ntmps109
  go_wp2
  first
    | (refine bodyPost_ret (v := .tuple #[.agg #[.int .i64 3, .int .i64 0, .int .i64 6, .int .i64 0, .int .i64 0, .int .i64 0, .int .i64 0], .bool true]) ?_ rfl ⟨rfl, by go_grown⟩
       rw [results_cell_tmp rfl]
       simp [go_sem, asAddr, Result.andThen]
       done)
    | (go_region_calls
       all_goals (
         go_wp2
         refine bodyPost_ret (v := .tuple #[.agg #[.int .i64 3, .int .i64 0, .int .i64 6, .int .i64 0, .int .i64 0, .int .i64 0, .int .i64 0], .bool true]) ?_ rfl ⟨rfl, by go_grown⟩
         rw [results_cell_tmp rfl]
         simp [go_sem, asAddr, Result.andThen]
         done))
set_option maxRecDepth 100000 in
set_option maxHeartbeats 2000000 in
theorem shapeOf_15 (w : World) : Gives Tryz.prog 109 #[.int .i64 15] w (.tuple #[.agg #[.int .i64 4, .int .i64 0, .int .i64 8, .int .i64 0, .int .i64 0, .int .i64 0, .int .i64 1], .bool true]) := by
  unfold Gives
  go_enter Tryz.func109, Tryz.ntmps109
  go_wp2
  first
    | (refine bodyPost_ret (v := .tuple #[.agg #[.int .i64 4, .int .i64 0, .int .i64 8, .int .i64 0, .int .i64 0, .int .i64 0, .int .i64 1], .bool true]) ?_ rfl ⟨rfl, by go_grown⟩
       rw [results_cell_tmp rfl]
       simp [go_sem, asAddr, Result.andThen]
       done)
    | (go_region_calls
       all_goals (
         go_wp2
         refine bodyPost_ret (v := .tuple #[.agg #[.int .i64 4, .int .i64 0, .int .i64 8, .int .i64 0, .int .i64 0, .int .i64 0, .int .i64 1], .bool true]) ?_ rfl ⟨rfl, by go_grown⟩
         rw [results_cell_tmp rfl]
         simp [go_sem, asAddr, Result.andThen]
         done))
set_option maxRecDepth 100000 in
set_option maxHeartbeats 2000000 in
theorem shapeOf_16 (w : World) : Gives Tryz.prog 109 #[.int .i64 16] w (.tuple #[.agg #[.int .i64 3, .int .i64 0, .int .i64 0, .int .i64 0, .int .i64 0, .int .i64 0, .int .i64 0], .bool true]) := by
  unfold Gives
  go_enter Tryz.func109, Tryz.ntmps109
  go_wp2
  first
    | (refine bodyPost_ret (v := .tuple #[.agg #[.int .i64 3, .int .i64 0, .int .i64 0, .int .i64 0, .int .i64 0, .int .i64 0, .int .i64 0], .bool true]) ?_ rfl ⟨rfl, by go_grown⟩
       rw [results_cell_tmp rfl]
       simp [go_sem, asAddr, Result.andThen]
       done)
    | (go_region_calls
       all_goals (
         go_wp2
         refine bodyPost_ret (v := .tuple #[.agg #[.int .i64 3, .int .i64 0, .int .i64 0, .int .i64 0, .int .i64 0, .int .i64 0, .int .i64 0], .bool true]) ?_ rfl ⟨rfl, by go_grown⟩
         rw [results_cell_tmp rfl]
         simp [go_sem, asAddr, Result.andThen]
         done))
set_option maxRecDepth 100000 in
set_option maxHeartbeats 2000000 in
theorem shapeOf_17 (w : World) : Gives Tryz.prog 109 #[.int .i64 17] w (.tuple #[.agg #[.int .i64 0, .int .i64 0, .int .i64 9, .int .i64 0, .int .i64 0, .int .i64 0, .int .i64 1], .bool true]) := by
  unfold Gives
  go_enter Tryz.func109, Tryz.ntmps109
  go_wp2
  first
    | (refine bodyPost_ret (v := .tuple #[.agg #[.int .i64 0, .int .i64 0, .int .i64 9, .int .i64 0, .int .i64 0, .int .i64 0, .int .i64 1], .bool true]) ?_ rfl ⟨rfl, by go_grown⟩
       rw [results_cell_tmp rfl]
       simp [go_sem, asAddr, Result.andThen]
       done)
    | (go_region_calls
       all_goals (
         go_wp2
         refine bodyPost_ret (v := .tuple #[.agg #[.int .i64 0, .int .i64 0, .int .i64 9, .int .i64 0, .int .i64 0, .int .i64 0, .int .i64 1], .bool true]) ?_ rfl ⟨rfl, by go_grown⟩
         rw [results_cell_tmp rfl]
         simp [go_sem, asAddr, Result.andThen]
         done))
set_option maxRecDepth 100000 in
set_option maxHeartbeats 2000000 in
theorem shapeOf_18 (w : World) : Gives Tryz.prog 109 #[.int .i64 18] w (.tuple #[.agg #[.int .i64 0, .int .i64 0, .int .i64 0, .int .i64 0, .int .i64 0, .int .i64 0, .int .i64 0], .bool true]) := by
  unfold Gives
  go_enter Tryz.func109, Tryz.ntmps109
  go_wp2
  first
    | (refine bodyPost_ret (v := .tuple #[.agg #[.int .i64 0, .int .i64 0, .int .i64 0, .int .i64 0, .int .i64 0, .int .i64 0, .int .i64 0], .bool true]) ?_ rfl ⟨rfl, by go_grown⟩
       rw [results_cell_tmp rfl]
       simp [go_sem, asAddr, Result.andThen]
       done)
    | (go_region_calls
       all_goals (
         go_wp2
         refine bodyPost_ret (v := .tuple #[.agg #[.int .i64 0, .int .i64 0, .int .i64 0, .int .i64 0, .int .i64 0, .int .i64 0, .int .i64 0], .bool true]) ?_ rfl ⟨rfl, by go_grown⟩
         rw [results_cell_tmp rfl]
         simp [go_sem, asAddr, Result.andThen]
         done))
set_option maxRecDepth 100000 in
set_option maxHeartbeats 2000000 in
theorem shapeOf_19 (w : World) : Gives Tryz.prog 109 #[.int .i64 19] w (.tuple #[.agg #[.int .i64 0, .int .i64 0, .int .i64 0, .int .i64 0, .int .i64 0, .int .i64 0, .int .i64 0], .bool true]) := by
  unfold Gives
  go_enter Tryz.func109, Tryz.ntmps109
  go_wp2
  first
    | (refine bodyPost_ret (v := .tuple #[.agg #[.int .i64 0, .int .i64 0, .int .i64 0, .int .i64 0, .int .i64 0, .int .i64 0, .int .i64 0], .bool true]) ?_ rfl ⟨rfl, by go_grown⟩
       rw [results_cell_tmp rfl]
       simp [go_sem, asAddr, Result.andThen]
       done)
    | (go_region_calls
       all_goals (
         go_wp2
         refine bodyPost_ret (v := .tuple #[.agg #[.int .i64 0, .int .i64 0, .int .i64 0, .int .i64 0, .int .i64 0, .int .i64 0, .int .i64 0], .bool true]) ?_ rfl ⟨rfl, by go_grown⟩
         rw [results_cell_tmp rfl]
         simp [go_sem, asAddr, Result.andThen]
         done))
set_option maxRecDepth 100000 in
set_option maxHeartbeats 2000000 in
theorem shapeOf_20 (w : World) : Gives Tryz.prog 109 #[.int .i64 20] w (.tuple #[.agg #[.int .i64 3, .int .i64 0, .int .i64 0, .int .i64 0, .int .i64 0, .int .i64 0, .int .i64 0], .bool true]) := by
  unfold Gives
  go_enter Tryz.func109, Tryz.ntmps109
  go_wp2
  first
    | (refine bodyPost_ret (v := .tuple #[.agg #[.int .i64 3, .int .i64 0, .int .i64 0, .int .i64 0, .int .i64 0, .int .i64 0, .int .i64 0], .bool true]) ?_ rfl ⟨rfl, by go_grown⟩
       rw [results_cell_tmp rfl]
       simp [go_sem, asAddr, Result.andThen]
       done)
    | (go_region_calls
       all_goals (
         go_wp2
         refine bodyPost_ret (v := .tuple #[.agg #[.int .i64 3, .int .i64 0, .int .i64 0, .int .i64 0, .int .i64 0, .int .i64 0, .int .i64 0], .bool true]) ?_ rfl ⟨rfl, by go_grown⟩
         rw [results_cell_tmp rfl]
         simp [go_sem, asAddr, Result.andThen]
         done))
set_option maxRecDepth 100000 in
set_option maxHeartbeats 2000000 in
theorem shapeOf_21 (w : World) : Gives Tryz.prog 109 #[.int .i64 21] w (.tuple #[.agg #[.int .i64 3, .int .i64 0, .int .i64 0, .int .i64 0, .int .i64 0, .int .i64 0, .int .i64 0], .bool true]) := by
  unfold Gives
  go_enter Tryz.func109, Tryz.ntmps109
  go_wp2
  first
    | (refine bodyPost_ret (v := .tuple #[.agg #[.int .i64 3, .int .i64 0, .int .i64 0, .int .i64 0, .int .i64 0, .int .i64 0, .int .i64 0], .bool true]) ?_ rfl ⟨rfl, by go_grown⟩
       rw [results_cell_tmp rfl]
       simp [go_sem, asAddr, Result.andThen]
       done)
    | (go_region_calls
       all_goals (
         go_wp2
         refine bodyPost_ret (v := .tuple #[.agg #[.int .i64 3, .int .i64 0, .int .i64 0, .int .i64 0, .int .i64 0, .int .i64 0, .int .i64 0], .bool true]) ?_ rfl ⟨rfl, by go_grown⟩
         rw [results_cell_tmp rfl]
         simp [go_sem, asAddr, Result.andThen]
         done))
set_option maxRecDepth 100000 in
set_option maxHeartbeats 2000000 in
theorem shapeOf_30 (w : World) : Gives Tryz.prog 109 #[.int .i64 30] w (.tuple #[.agg #[.int .i64 4, .int .i64 0, .int .i64 10, .int .i64 0, .int .i64 0, .int .i64 0, .int .i64 0], .bool true]) := by
  unfold Gives
  go_enter Tryz.func109, Tryz.ntmps109
  go_wp2
  first
    | (refine bodyPost_ret (v := .tuple #[.agg #[.int .i64 4, .int .i64 0, .int .i64 10, .int .i64 0, .int .i64 0, .int .i64 0, .int .i64 0], .bool true]) ?_ rfl ⟨rfl, by go_grown⟩
       rw [results_cell_tmp rfl]
       simp [go_sem, asAddr, Result.andThen]
       done)
    | (go_region_calls
       all_goals (
         go_wp2
         refine bodyPost_ret (v := .tuple #[.agg #[.int .i64 4, .int .i64 0, .int .i64 10, .int .i64 0, .int .i64 0, .int .i64 0, .int .i64 0], .bool true]) ?_ rfl ⟨rfl, by go_grown⟩
         rw [results_cell_tmp rfl]
         simp [go_sem, asAddr, Result.andThen]
         done))
set_option maxRecDepth 100000 in
set_option maxHeartbeats 2000000 in
theorem shapeOf_31 (w : World) : Gives Tryz.prog 109 #[.int .i64 31] w (.tuple #[.agg #[.int .i64 10, .int .i64 0, .int .i64 3, .int .i64 0, .int .i64 0, .int .i64 0, .int .i64 0], .bool true]) := by
  unfold Gives
  go_enter Tryz.func109, Tryz.ntmps109
  go_wp2
  first
    | (refine bodyPost_ret (v := .tuple #[.agg #[.int .i64 10, .int .i64 0, .int .i64 3, .int .i64 0, .int .i64 0, .int .i64 0, .int .i64 0], .bool true]) ?_ rfl ⟨rfl, by go_grown⟩
       rw [results_cell_tmp rfl]
       simp [go_sem, asAddr, Result.andThen]
       done)
    | (go_region_calls
       all_goals (
         go_wp2
         refine bodyPost_ret (v := .tuple #[.agg #[.int .i64 10, .int .i64 0, .int .i64 3, .int .i64 0, .int .i64 0, .int .i64 0, .int .i64 0], .bool true]) ?_ rfl ⟨rfl, by go_grown⟩
         rw [results_cell_tmp rfl]
         simp [go_sem, asAddr, Result.andThen]
         done))
set_option maxRecDepth 100000 in
set_option maxHeartbeats 2000000 in
theorem shapeOf_32 (w : World) : Gives Tryz.prog 109 #[.int .i64 32] w (.tuple #[.agg #[.int .i64 4, .int .i64 0, .int .i64 11, .int .i64 0, .int .i64 3, .int .i64 0, .int .i64 0], .bool true]) := by
  unfold Gives
  go_enter Tryz.func109, Tryz.ntmps109
  go_wp2
  first
    | (refine bodyPost_ret (v := .tuple #[.agg #[.int .i64 4, .int .i64 0, .int .i64 11, .int .i64 0, .int .i64 3, .int .i64 0, .int .i64 0], .bool true]) ?_ rfl ⟨rfl, by go_grown⟩
       rw [results_cell_tmp rfl]
       simp [go_sem, asAddr, Result.andThen]
       done)
    | (go_region_calls
       all_goals (
         go_wp2
         refine bodyPost_ret (v := .tuple #[.agg #[.int .i64 4, .int .i64 0, .int .i64 11, .int .i64 0, .int .i64 3, .int .i64 0, .int .i64 0], .bool true]) ?_ rfl ⟨rfl, by go_grown⟩
         rw [results_cell_tmp rfl]
         simp [go_sem, asAddr, Result.andThen]
         done))
set_option maxRecDepth 100000 in
set_option maxHeartbeats 2000000 in
theorem shapeOf_33 (w : World) : Gives Tryz.prog 109 #[.int .i64 33] w (.tuple #[.agg #[.int .i64 4, .int .i64 0, .int .i64 11, .int .i64 0, .int .i64 0, .int .i64 0, .int .i64 2], .bool true]) := by
  unfold Gives
  go_enter Tryz.func109, Tryz.ntmps109
  go_wp2
  first
    | (refine bodyPost_ret (v := .tuple #[.agg #[.int .i64 4, .int .i64 0, .int .i64 11, .int .i64 0, .int .i64 0, .int .i64 0, .int .i64 2], .bool true]) ?_ rfl ⟨rfl, by go_grown⟩
       rw [results_cell_tmp rfl]
       simp [go_sem, asAddr, Result.andThen]
       done)
    | (go_region_calls
       all_goals (
         go_wp2
         refine bodyPost_ret (v := .tuple #[.agg #[.int .i64 4, .int .i64 0, .int .i64 11, .int .i64 0, .int .i64 0, .int .i64 0, .int .i64 2], .bool true]) ?_ rfl ⟨rfl, by go_grown⟩
         rw [results_cell_tmp rfl]
         simp [go_sem, asAddr, Result.andThen]
         done))
set_option maxRecDepth 100000 in
set_option maxHeartbeats 2000000 in
theorem shapeOf_34 (w : World) : Gives Tryz.prog 109 #[.int .i64 34] w (.tuple #[.agg #[.int .i64 4, .int .i64 0, .int .i64 8, .int .i64 0, .int .i64 0, .int .i64 0, .int .i64 1], .bool true]) := by
  unfold Gives
  go_enter Tryz.func109, Tryz.ntmps109
  go_wp2
  first
    | (refine bodyPost_ret (v := .tuple #[.agg #[.int .i64 4, .int .i64 0, .int .i64 8, .int .i64 0, .int .i64 0, .int .i64 0, .int .i64 1], .bool true]) ?_ rfl ⟨rfl, by go_grown⟩
       rw [results_cell_tmp rfl]
       simp [go_sem, asAddr, Result.andThen]
       done)
    | (go_region_calls
       all_goals (
         go_wp2
         refine bodyPost_ret (v := .tuple #[.agg #[.int .i64 4, .int .i64 0, .int .i64 8, .int .i64 0, .int .i64 0, .int .i64 0, .int .i64 1], .bool true]) ?_ rfl ⟨rfl, by go_grown⟩
         rw [results_cell_tmp rfl]
         simp [go_sem, asAddr, Result.andThen]
         done))
set_option maxRecDepth 100000 in
set_option maxHeartbeats 2000000 in
theorem shapeOf_35 (w : World) : Gives Tryz.prog 109 #[.int .i64 35] w (.tuple #[.agg #[.int .i64 5, .int .i64 0, .int .i64 5, .int .i64 0, .int .i64 7, .int .i64 0, .int .i64 0], .bool true]) := by
  unfold Gives
  go_enter Tryz.func109, Tryz.ntmps109
  go_wp2
  first
    | (refine bodyPost_ret (v := .tuple #[.agg #[.int .i64 5, .int .i64 0, .int .i64 5, .int .i64 0, .int .i64 7, .int .i64 0, .int .i64 0], .bool true]) ?_ rfl ⟨rfl, by go_grown⟩
       rw [results_cell_tmp rfl]
       simp [go_sem, asAddr, Result.andThen]
       done)
    | (go_region_calls
       all_goals (
         go_wp2
         refine bodyPost_ret (v := .tuple #[.agg #[.int .i64 5, .int .i64 0, .int .i64 5, .int .i64 0, .int .i64 7, .int .i64 0, .int .i64 0], .bool true]) ?_ rfl ⟨rfl, by go_grown⟩
         rw [results_cell_tmp rfl]
         simp [go_sem, asAddr, Result.andThen]
         done))
set_option maxRecDepth 100000 in
set_option maxHeartbeats 2000000 in
theorem shapeOf_36 (w : World) : Gives Tryz.prog 109 #[.int .i64 36] w (.tuple #[.agg #[.int .i64 4, .int .i64 0, .int .i64 0, .int .i64 0, .int .i64 0, .int .i64 0, .int .i64 0], .bool true]) := by
  unfold Gives
  go_enter Tryz.func109, Tryz.ntmps109
  go_wp2
  first
    | (refine bodyPost_ret (v := .tuple #[.agg #[.int .i64 4, .int .i64 0, .int .i64 0, .int .i64 0, .int .i64 0, .int .i64 0, .int .i64 0], .bool true]) ?_ rfl ⟨rfl, by go_grown⟩
       rw [results_cell_tmp rfl]
       simp [go_sem, asAddr, Result.andThen]
       done)
    | (go_region_calls
       all_goals (
         go_wp2
         refine bodyPost_ret (v := .tuple #[.agg #[.int .i64 4, .int .i64 0, .int .i64 0, .int .i64 0, .int .i64 0, .int .i64 0, .int .i64 0], .bool true]) ?_ rfl ⟨rfl, by go_grown⟩
         rw [results_cell_tmp rfl]
         simp [go_sem, asAddr, Result.andThen]
         done))
set_option maxRecDepth 100000 in
set_option maxHeartbeats 2000000 in
theorem shapeOf_37 (w : World) : Gives Tryz.prog 109 #[.int .i64 37] w (.tuple #[.agg #[.int .i64 0, .int .i64 0, .int .i64 0, .int .i64 0, .int .i64 0, .int .i64 0, .int .i64 0], .bool true]) := by
  unfold Gives
  go_enter Tryz.func109, Tryz.ntmps109
  go_wp2
  first
    | (refine bodyPost_ret (v := .tuple #[.agg #[.int .i64 0, .int .i64 0, .int .i64 0, .int .i64 0, .int .i64 0, .int .i64 0, .int .i64 0], .bool true]) ?_ rfl ⟨rfl, by go_grown⟩
       rw [results_cell_tmp rfl]
       simp [go_sem, asAddr, Result.andThen]
       done)
    | (go_region_calls
       all_goals (
         go_wp2
         refine bodyPost_ret (v := .tuple #[.agg #[.int .i64 0, .int .i64 0, .int .i64 0, .int .i64 0, .int .i64 0, .int .i64 0, .int .i64 0], .bool true]) ?_ rfl ⟨rfl, by go_grown⟩
         rw [results_cell_tmp rfl]
         simp [go_sem, asAddr, Result.andThen]
         done))
set_option maxRecDepth 100000 in
set_option maxHeartbeats 2000000 in
theorem shapeOf_38 (w : World) : Gives Tryz.prog 109 #[.int .i64 38] w (.tuple #[.agg #[.int .i64 0, .int .i64 0, .int .i64 0, .int .i64 0, .int .i64 0, .int .i64 0, .int .i64 0], .bool true]) := by
  unfold Gives
  go_enter Tryz.func109, Tryz.ntmps109
  go_wp2
  first
    | (refine bodyPost_ret (v := .tuple #[.agg #[.int .i64 0, .int .i64 0, .int .i64 0, .int .i64 0, .int .i64 0, .int .i64 0, .int .i64 0], .bool true]) ?_ rfl ⟨rfl, by go_grown⟩
       rw [results_cell_tmp rfl]
       simp [go_sem, asAddr, Result.andThen]
       done)
    | (go_region_calls
       all_goals (
         go_wp2
         refine bodyPost_ret (v := .tuple #[.agg #[.int .i64 0, .int .i64 0, .int .i64 0, .int .i64 0, .int .i64 0, .int .i64 0, .int .i64 0], .bool true]) ?_ rfl ⟨rfl, by go_grown⟩
         rw [results_cell_tmp rfl]
         simp [go_sem, asAddr, Result.andThen]
         done))
set_option maxRecDepth 100000 in
set_option maxHeartbeats 2000000 in
theorem shapeOf_39 (w : World) : Gives Tryz.prog 109 #[.int .i64 39] w (.tuple #[.agg #[.int .i64 0, .int .i64 0, .int .i64 0, .int .i64 0, .int .i64 0, .int .i64 0, .int .i64 0], .bool true]) := by
  unfold Gives
  go_enter Tryz.func109, Tryz.ntmps109
  go_wp2
  first
    | (refine bodyPost_ret (v := .tuple #[.agg #[.int .i64 0, .int .i64 0, .int .i64 0, .int .i64 0, .int .i64 0, .int .i64 0, .int .i64 0], .bool true]) ?_ rfl ⟨rfl, by go_grown⟩
       rw [results_cell_tmp rfl]
       simp [go_sem, asAddr, Result.andThen]
       done)
    | (go_region_calls
       all_goals (
         go_wp2
         refine bodyPost_ret (v := .tuple #[.agg #[.int .i64 0, .int .i64 0, .int .i64 0, .int .i64 0, .int .i64 0, .int .i64 0, .int .i64 0], .bool true]) ?_ rfl ⟨rfl, by go_grown⟩
         rw [results_cell_tmp rfl]
         simp [go_sem, asAddr, Result.andThen]
         done))
set_option maxRecDepth 100000 in
set_option maxHeartbeats 2000000 in
theorem shapeOf_40 (w : World) : Gives Tryz.prog 109 #[.int .i64 40] w (.tuple #[.agg #[.int .i64 3, .int .i64 0, .int .i64 0, .int .i64 0, .int .i64 0, .int .i64 0, .int .i64 0], .bool true]) := by
  unfold Gives
  go_enter Tryz.func109, Tryz.ntmps109
  go_wp2
  first
    | (refine bodyPost_ret (v := .tuple #[.agg #[.int .i64 3, .int .i64 0, .int .i64 0, .int .i64 0, .int .i64 0, .int .i64 0, .int .i64 0], .bool true]) ?_ rfl ⟨rfl, by go_grown⟩
       rw [results_cell_tmp rfl]
       simp [go_sem, asAddr, Result.andThen]
       done)
    | (go_region_calls
       all_goals (
         go_wp2
         refine bodyPost_ret (v := .tuple #[.agg #[.int .i64 3, .int .i64 0, .int .i64 0, .int .i64 0, .int .i64 0, .int .i64 0, .int .i64 0], .bool true]) ?_ rfl ⟨rfl, by go_grown⟩
         rw [results_cell_tmp rfl]
         simp [go_sem, asAddr, Result.andThen]
         done))
set_option maxRecDepth 100000 in
set_option maxHeartbeats 2000000 in
theorem shapeOf_41 (w : World) : Gives Tryz.prog 109 #[.int .i64 41] w (.tuple #[.agg #[.int .i64 3, .int .i64 0, .int .i64 0, .int .i64 0, .int .i64 0, .int .i64 0, .int .i64 0], .bool true]) := by
  unfold Gives
  go_enter Tryz.func109, Tryz.ntmps109
  go_wp2
  first
    | (refine bodyPost_ret (v := .tuple #[.agg #[.int .i64 3, .int .i64 0, .int .i64 0, .int .i64 0, .int .i64 0, .int .i64 0, .int .i64 0], .bool true]) ?_ rfl ⟨rfl, by go_grown⟩
       rw [results_cell_tmp rfl]
       simp [go_sem, asAddr, Result.andThen]
       done)
    | (go_region_calls
       all_goals (
         go_wp2
         refine bodyPost_ret (v := .tuple #[.agg #[.int .i64 3, .int .i64 0, .int .i64 0, .int .i64 0, .int .i64 0, .int .i64 0, .int .i64 0], .bool true]) ?_ rfl ⟨rfl, by go_grown⟩
         rw [results_cell_tmp rfl]
         simp [go_sem, asAddr, Result.andThen]
         done))
set_option maxRecDepth 100000 in
set_option maxHeartbeats 2000000 in
theorem shapeOf_42 (w : World) : Gives Tryz.prog 109 #[.int .i64 42] w (.tuple #[.agg #[.int .i64 2, .int .i64 0, .int .i64 3, .int .i64 0, .int .i64 0, .int .i64 0, .int .i64 0], .bool true]) := by
  unfold Gives
  go_enter Tryz.func109, Tryz.ntmps109
  go_wp2
  first
    | (refine bodyPost_ret (v := .tuple #[.agg #[.int .i64 2, .int .i64 0, .int .i64 3, .int .i64 0, .int .i64 0, .int .i64 0, .int .i64 0], .bool true]) ?_ rfl ⟨rfl, by go_grown⟩
       rw [results_cell_tmp rfl]
       simp [go_sem, asAddr, Result.andThen]
       done)
    | (go_region_calls
       all_goals (
         go_wp2
         refine bodyPost_ret (v := .tuple #[.agg #[.int .i64 2, .int .i64 0, .int .i64 3, .int .i64 0, .int .i64 0, .int .i64 0, .int .i64 0], .bool true]) ?_ rfl ⟨rfl, by go_grown⟩
         rw [results_cell_tmp rfl]
         simp [go_sem, asAddr, Result.andThen]
         done))
set_option maxRecDepth 100000 in
set_option maxHeartbeats 2000000 in
theorem shapeOf_43 (w : World) : Gives Tryz.prog 109 #[.int .i64 43] w (.tuple #[.agg #[.int .i64 3, .int .i64 0, .int .i64 0, .int .i64 0, .int .i64 0, .int .i64 0, .int .i64 0], .bool true]) := by
  unfold Gives
  go_enter Tryz.func109, Tryz.ntmps109
  go_wp2
  first
    | (refine bodyPost_ret (v := .tuple #[.agg #[.int .i64 3, .int .i64 0, .int .i64 0, .int .i64 0, .int .i64 0, .int .i64 0, .int .i64 0], .bool true]) ?_ rfl ⟨rfl, by go_grown⟩
       rw [results_cell_tmp rfl]
       simp [go_sem, asAddr, Result.andThen]
       done)
    | (go_region_calls
       all_goals (
         go_wp2
         refine bodyPost_ret (v := .tuple #[.agg #[.int .i64 3, .int .i64 0, .int .i64 0, .int .i64 0, .int .i64 0, .int .i64 0, .int .i64 0], .bool true]) ?_ rfl ⟨rfl, by go_grown⟩
         rw [results_cell_tmp rfl]
         simp [go_sem, asAddr, Result.andThen]
         done))
end Go.Proofs.YtfkjokbhnblndaaGreatDoor
