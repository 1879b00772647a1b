/- shapeOf, on. -/
import Derived.Test.YtfkjokbhnblndaaGreatDoorPgF
import Derived.Test.YtfkjokbhnblndaaGreatDoorPgF2
import Derived.Laws.ResultCell
import Derived.RegionCalls
namespace Go.Proofs.YtfkjokbhnblndaaGreatDoor
open Go.RowKit
set_option linter.unusedVariables false
set_option linter.unusedSimpArgs false

set_option maxRecDepth 100000 in
set_option maxHeartbeats 1000000 in
theorem shapeOf_gap0 (k : Int) (h2 : k ≤ 0) (w : World) : Gives Tryz.prog 109 #[.int .i64 k] w (.tuple #[.agg #[.int .i64 0, .int .i64 0, .int .i64 0, .int .i64 0, .int .i64 0, .int .i64 0, .int .i64 0], .bool false]) := by
  unfold Gives
  go_enter Tryz.func109, Tryz.ntmps109
  go_wp2
  first
    | (refine bodyPost_ret (v := .tuple #[.agg #[.int .i64 0, .int .i64 0, .int .i64 0, .int .i64 0, .int .i64 0, .int .i64 0, .int .i64 0], .bool false]) ?_ rfl ⟨rfl, by go_grown⟩
       rw [results_cell_tmp rfl]
       simp [go_sem, asAddr, Result.andThen]
       done)
    | (go_region_calls
       all_goals (
         go_wp2
         refine bodyPost_ret (v := .tuple #[.agg #[.int .i64 0, .int .i64 0, .int .i64 0, .int .i64 0, .int .i64 0, .int .i64 0, .int .i64 0], .bool false]) ?_ rfl ⟨rfl, by go_grown⟩
         rw [results_cell_tmp rfl]
         simp [go_sem, asAddr, Result.andThen]
         done))
set_option maxRecDepth 100000 in
set_option maxHeartbeats 1000000 in
theorem shapeOf_gap1 (k : Int) (h1 : 22 ≤ k) (h2 : k ≤ 29) (w : World) : Gives Tryz.prog 109 #[.int .i64 k] w (.tuple #[.agg #[.int .i64 0, .int .i64 0, .int .i64 0, .int .i64 0, .int .i64 0, .int .i64 0, .int .i64 0], .bool false]) := by
  unfold Gives
  go_enter Tryz.func109, Tryz.ntmps109
  go_wp2
  first
    | (refine bodyPost_ret (v := .tuple #[.agg #[.int .i64 0, .int .i64 0, .int .i64 0, .int .i64 0, .int .i64 0, .int .i64 0, .int .i64 0], .bool false]) ?_ rfl ⟨rfl, by go_grown⟩
       rw [results_cell_tmp rfl]
       simp [go_sem, asAddr, Result.andThen]
       done)
    | (go_region_calls
       all_goals (
         go_wp2
         refine bodyPost_ret (v := .tuple #[.agg #[.int .i64 0, .int .i64 0, .int .i64 0, .int .i64 0, .int .i64 0, .int .i64 0, .int .i64 0], .bool false]) ?_ rfl ⟨rfl, by go_grown⟩
         rw [results_cell_tmp rfl]
         simp [go_sem, asAddr, Result.andThen]
         done))
set_option maxRecDepth 100000 in
set_option maxHeartbeats 1000000 in
theorem shapeOf_gap2 (k : Int) (h1 : 44 ≤ k) (h2 : k ≤ 49) (w : World) : Gives Tryz.prog 109 #[.int .i64 k] w (.tuple #[.agg #[.int .i64 0, .int .i64 0, .int .i64 0, .int .i64 0, .int .i64 0, .int .i64 0, .int .i64 0], .bool false]) := by
  unfold Gives
  go_enter Tryz.func109, Tryz.ntmps109
  go_wp2
  first
    | (refine bodyPost_ret (v := .tuple #[.agg #[.int .i64 0, .int .i64 0, .int .i64 0, .int .i64 0, .int .i64 0, .int .i64 0, .int .i64 0], .bool false]) ?_ rfl ⟨rfl, by go_grown⟩
       rw [results_cell_tmp rfl]
       simp [go_sem, asAddr, Result.andThen]
       done)
    | (go_region_calls
       all_goals (
         go_wp2
         refine bodyPost_ret (v := .tuple #[.agg #[.int .i64 0, .int .i64 0, .int .i64 0, .int .i64 0, .int .i64 0, .int .i64 0, .int .i64 0], .bool false]) ?_ rfl ⟨rfl, by go_grown⟩
         rw [results_cell_tmp rfl]
         simp [go_sem, asAddr, Result.andThen]
         done))
set_option maxRecDepth 100000 in
set_option maxHeartbeats 1000000 in
theorem shapeOf_gap3 (k : Int) (h1 : 75 ≤ k) (w : World) : Gives Tryz.prog 109 #[.int .i64 k] w (.tuple #[.agg #[.int .i64 0, .int .i64 0, .int .i64 0, .int .i64 0, .int .i64 0, .int .i64 0, .int .i64 0], .bool false]) := by
  unfold Gives
  go_enter Tryz.func109, Tryz.ntmps109
  go_wp2
  first
    | (refine bodyPost_ret (v := .tuple #[.agg #[.int .i64 0, .int .i64 0, .int .i64 0, .int .i64 0, .int .i64 0, .int .i64 0, .int .i64 0], .bool false]) ?_ rfl ⟨rfl, by go_grown⟩
       rw [results_cell_tmp rfl]
       simp [go_sem, asAddr, Result.andThen]
       done)
    | (go_region_calls
       all_goals (
         go_wp2
         refine bodyPost_ret (v := .tuple #[.agg #[.int .i64 0, .int .i64 0, .int .i64 0, .int .i64 0, .int .i64 0, .int .i64 0, .int .i64 0], .bool false]) ?_ rfl ⟨rfl, by go_grown⟩
         rw [results_cell_tmp rfl]
         simp [go_sem, asAddr, Result.andThen]
         done))
theorem shapeOf_some (k : Int) (s : Sh) (h : shp k = some s) (w : World) : Gives Tryz.prog 109 #[.int .i64 k] w (.tuple #[SV s, .bool true]) := by
  have hm := shp_some k s h
  unfold shTab at hm
  simp only [List.mem_cons, List.not_mem_nil, or_false, Prod.mk.injEq] at hm
  rcases hm with ⟨rfl, rfl⟩ | ⟨rfl, rfl⟩ | ⟨rfl, rfl⟩ | ⟨rfl, rfl⟩ | ⟨rfl, rfl⟩ | ⟨rfl, rfl⟩ | ⟨rfl, rfl⟩ | ⟨rfl, rfl⟩ | ⟨rfl, rfl⟩ | ⟨rfl, rfl⟩ | ⟨rfl, rfl⟩ | ⟨rfl, rfl⟩ | ⟨rfl, rfl⟩ | ⟨rfl, rfl⟩ | ⟨rfl, rfl⟩ | ⟨rfl, rfl⟩ | ⟨rfl, rfl⟩ | ⟨rfl, rfl⟩ | ⟨rfl, rfl⟩ | ⟨rfl, rfl⟩ | ⟨rfl, rfl⟩ | ⟨rfl, rfl⟩ | ⟨rfl, rfl⟩ | ⟨rfl, rfl⟩ | ⟨rfl, rfl⟩ | ⟨rfl, rfl⟩ | ⟨rfl, rfl⟩ | ⟨rfl, rfl⟩ | ⟨rfl, rfl⟩ | ⟨rfl, rfl⟩ | ⟨rfl, rfl⟩ | ⟨rfl, rfl⟩ | ⟨rfl, rfl⟩ | ⟨rfl, rfl⟩ | ⟨rfl, rfl⟩ | ⟨rfl, rfl⟩ | ⟨rfl, rfl⟩ | ⟨rfl, rfl⟩ | ⟨rfl, rfl⟩ | ⟨rfl, rfl⟩ | ⟨rfl, rfl⟩ | ⟨rfl, rfl⟩ | ⟨rfl, rfl⟩ | ⟨rfl, rfl⟩ | ⟨rfl, rfl⟩ | ⟨rfl, rfl⟩ | ⟨rfl, rfl⟩ | ⟨rfl, rfl⟩ | ⟨rfl, rfl⟩ | ⟨rfl, rfl⟩ | ⟨rfl, rfl⟩ | ⟨rfl, rfl⟩ | ⟨rfl, rfl⟩ | ⟨rfl, rfl⟩ | ⟨rfl, rfl⟩ | ⟨rfl, rfl⟩ | ⟨rfl, rfl⟩ | ⟨rfl, rfl⟩ | ⟨rfl, rfl⟩ | ⟨rfl, rfl⟩
  · exact shapeOf_1 w
  · exact shapeOf_2 w
  · exact shapeOf_3 w
  · exact shapeOf_4 w
  · exact shapeOf_5 w
  · exact shapeOf_6 w
  · exact shapeOf_7 w
  · exact shapeOf_8 w
  · exact shapeOf_9 w
  · exact shapeOf_10 w
  · exact shapeOf_11 w
  · exact shapeOf_12 w
  · exact shapeOf_13 w
  · exact shapeOf_14 w
  · exact shapeOf_15 w
  · exact shapeOf_16 w
  · exact shapeOf_17 w
  · exact shapeOf_18 w
  · exact shapeOf_19 w
  · exact shapeOf_20 w
  · exact shapeOf_21 w
  · exact shapeOf_30 w
  · exact shapeOf_31 w
  · exact shapeOf_32 w
  · exact shapeOf_33 w
  · exact shapeOf_34 w
  · exact shapeOf_35 w
  · exact shapeOf_36 w
  · exact shapeOf_37 w
  · exact shapeOf_38 w
  · exact shapeOf_39 w
  · exact shapeOf_40 w
  · exact shapeOf_41 w
  · exact shapeOf_42 w
  · exact shapeOf_43 w
  · exact shapeOf_50 w
  · exact shapeOf_51 w
  · exact shapeOf_52 w
  · exact shapeOf_53 w
  · exact shapeOf_54 w
  · exact shapeOf_55 w
  · exact shapeOf_56 w
  · exact shapeOf_57 w
  · exact shapeOf_58 w
  · exact shapeOf_59 w
  · exact shapeOf_60 w
  · exact shapeOf_61 w
  · exact shapeOf_62 w
  · exact shapeOf_63 w
  · exact shapeOf_64 w
  · exact shapeOf_65 w
  · exact shapeOf_66 w
  · exact shapeOf_67 w
  · exact shapeOf_68 w
  · exact shapeOf_69 w
  · exact shapeOf_70 w
  · exact shapeOf_71 w
  · exact shapeOf_72 w
  · exact shapeOf_73 w
  · exact shapeOf_74 w
theorem shp_none (k : Int) (h : shp k = none) : (k ≤ 0) ∨ (22 ≤ k ∧ k ≤ 29) ∨ (44 ≤ k ∧ k ≤ 49) ∨ (75 ≤ k) := by
  have hm : ∀ x ∈ shTab.map Prod.fst, k ≠ x := by
    unfold shp at h
    intro x hx e
    subst e
    generalize shTab = l at *
    induction l with
    | nil => simp at hx
    | cons y l ih =>
      obtain ⟨j, t⟩ := y
      rw [List.lookup_cons] at h
      by_cases e : k = j
      · subst e; simp at h
      · have e1 : (k == j) = false := by simpa using e
        rw [e1] at h
        have hx' : k ∈ l.map Prod.fst := by
          rcases List.mem_cons.1 hx with hx | hx
          · exact absurd hx e
          · exact hx
        exact ih h hx'
  simp only [shTab, List.map_cons, List.map_nil, List.forall_mem_cons, List.not_mem_nil, false_imp_iff, implies_true, and_true] at hm
  omega
theorem shapeOf_none (k : Int) (h : shp k = none) (w : World) : Gives Tryz.prog 109 #[.int .i64 k] w (.tuple #[SV ⟨Z, Z, Z, 0⟩, .bool false]) := by
  rcases shp_none k h with h2 | ⟨h1, h2⟩ | ⟨h1, h2⟩ | h1
  · exact shapeOf_gap0 k h2 w
  · exact shapeOf_gap1 k h1 h2 w
  · exact shapeOf_gap2 k h1 h2 w
  · exact shapeOf_gap3 k h1 w
end Go.Proofs.YtfkjokbhnblndaaGreatDoor
