/- Small functions of programs. -/
import Derived.Test.YtfkjokbhnblndaaGreatDoorPgB
import Derived.Test.YtfkjokbhnblndaaGreatDoorPgN2
import Derived.Handy
namespace Go.Proofs.YtfkjokbhnblndaaGreatDoor
open Go.RowKit
set_option linter.unusedVariables false
set_option linter.unusedSimpArgs false

theorem inB_yes {n a b : Int} (h1 : a ≤ n) (h2 : n ≤ b) : inB n a b = true := by simp [inB, h1, h2]
theorem inB_lo {n a b : Int} (h1 : ¬ a ≤ n) : inB n a b = false := by simp [inB, h1]
theorem inB_hi {n a b : Int} (h2 : ¬ n ≤ b) : inB n a b = false := by simp [inB, h2]

theorem within_any (n a b : Int) (w : World) : Calls Tryz.prog 79 #[.int .i64 n, .int .i64 a, .int .i64 b] w fun e w' => e = .returned (.bool (inB n a b)) ∧ w' = w := by
  by_cases h1 : a ≤ n
  · by_cases h2 : n ≤ b
    · rw [inB_yes h1 h2]
      go_enter Tryz.func79, Tryz.ntmps79
      go_wp2
      go_ret
      exact ⟨rfl, rfl⟩
    · rw [inB_hi h2]
      go_enter Tryz.func79, Tryz.ntmps79
      go_wp2
      go_ret
      exact ⟨rfl, rfl⟩
  · rw [inB_lo h1]
    go_enter Tryz.func79, Tryz.ntmps79
    go_wp2
    go_ret
    exact ⟨rfl, rfl⟩
theorem within_g (n a b : Int) (w : World) : Gives Tryz.prog 79 #[.int .i64 n, .int .i64 a, .int .i64 b] w (.bool (inB n a b)) := Calls.mono (within_any n a b w) (by rintro e w' ⟨rfl, rfl⟩; exact ⟨rfl, Below.refl _ _⟩)
theorem between_any (n a b : Int) (w : World) : Calls Tryz.prog 23 #[.int .i64 n, .int .i64 a, .int .i64 b] w fun e w' => e = .returned (.bool (inB n a b)) ∧ w' = w := by
  by_cases h1 : a ≤ n
  · by_cases h2 : n ≤ b
    · rw [inB_yes h1 h2]
      go_enter Tryz.func23, Tryz.ntmps23
      go_wp2
      go_ret
      exact ⟨rfl, rfl⟩
    · rw [inB_hi h2]
      go_enter Tryz.func23, Tryz.ntmps23
      go_wp2
      go_ret
      exact ⟨rfl, rfl⟩
  · rw [inB_lo h1]
    go_enter Tryz.func23, Tryz.ntmps23
    go_wp2
    go_ret
    exact ⟨rfl, rfl⟩
theorem between_g (n a b : Int) (w : World) : Gives Tryz.prog 23 #[.int .i64 n, .int .i64 a, .int .i64 b] w (.bool (inB n a b)) := Calls.mono (between_any n a b w) (by rintro e w' ⟨rfl, rfl⟩; exact ⟨rfl, Below.refl _ _⟩)

/-- an index of something with a length -/
def insE (n k : Int) : Int := if inB n 0 (k - 1) then 0 else 2
theorem inside_any (n k : Int) (w : World) (hk : 0 ≤ k ∧ k ≤ 17592186044416) : Calls Tryz.prog 136 #[.int .i64 n, .int .i64 k] w fun e w' => e = .returned (.int .i64 (insE n k)) ∧ w' = w := by
  obtain ⟨hk1, hk2⟩ := hk
  unfold insE
  have W := fun w => within_any n 0 (k - 1) w
  cases hb : inB n 0 (k - 1) with
  | true =>
    rw [hb] at W
    clear hb
    go_enter Tryz.func136, Tryz.ntmps136
    go_wp2_with fail
    refine (W _).mono ?_
    rintro e w1 ⟨rfl, rfl⟩
    go_wp2
    go_ret
    exact ⟨rfl, rfl⟩
  | false =>
    rw [hb] at W
    clear hb
    go_enter Tryz.func136, Tryz.ntmps136
    go_wp2_with fail
    refine (W _).mono ?_
    rintro e w1 ⟨rfl, rfl⟩
    go_wp2
    go_ret
    exact ⟨rfl, rfl⟩
theorem sizes_any (k : Int) (w : World) : Calls Tryz.prog 76 #[.int .i64 k] w fun e w' => e = .returned (.tuple #[.int .i64 (szLo k), .int .i64 (szHi k)]) ∧ w' = w := by
  by_cases h6 : k = 6
  · subst h6
    go_enter Tryz.func76, Tryz.ntmps76
    go_wp2
    go_ret2
    exact ⟨rfl, rfl⟩
  · have h6' : (k == 6) = false := by simpa using h6
    by_cases h4 : k = 4
    · subst h4
      go_enter Tryz.func76, Tryz.ntmps76
      go_wp2
      go_ret2
      exact ⟨rfl, rfl⟩
    · have h4' : (k == 4) = false := by simpa using h4
      by_cases h5 : k = 5
      · subst h5
        go_enter Tryz.func76, Tryz.ntmps76
        go_wp2
        go_ret2
        exact ⟨rfl, rfl⟩
      · have h5' : (k == 5) = false := by simpa using h5
        by_cases h7 : k = 7
        · subst h7
          go_enter Tryz.func76, Tryz.ntmps76
          go_wp2
          go_ret2
          exact ⟨rfl, rfl⟩
        · have h7' : (k == 7) = false := by simpa using h7
          by_cases h8 : k = 8
          · subst h8
            go_enter Tryz.func76, Tryz.ntmps76
            go_wp2
            go_ret2
            exact ⟨rfl, rfl⟩
          · have h8' : (k == 8) = false := by simpa using h8
            have e1 : szLo k = 0 := by simp [szLo, h4, h5, h7, h8]
            have e2 : szHi k = 0 := by simp [szHi, h4, h5, h6, h7, h8]
            rw [e1, e2]
            clear e1 e2
            go_enter Tryz.func76, Tryz.ntmps76
            go_wp2
            go_ret2
            exact ⟨rfl, rfl⟩
theorem others_any (p : Pg) (A : PA) (k : Int) (w : World) (hp : p.os.length ≤ 17592186044416) : Gives Tryz.prog 77 #[PV p A, .int .i64 k] w (.tuple #[.int .i64 (otLo k), .int .i64 (otHi p.os.length k)]) := by
  unfold Gives
  obtain ⟨fa, fc, oa, oc, va, vc⟩ := A
  dsimp only [PV]
  generalize p.fs.length = n1 at *
  generalize p.os.length = n2 at *
  generalize p.vs.length = n3 at *
  by_cases h3 : k = 3
  · subst h3
    have e1 : otHi n2 3 = (n2 : Int) - 1 := rfl
    rw [e1]
    go_enter Tryz.func77, Tryz.ntmps77
    go_wp2
    go_quiet (fail)
    go_wp2
    go_ret2
    exact ⟨rfl, Ext.drewN' ((Below.refl _ w).alloc (Nat.le_refl _) _)⟩
  · have h3' : (k == 3) = false := by simpa using h3
    by_cases h4 : k = 4
    · subst h4
      have e1 : otHi n2 4 = 1 := rfl
      rw [e1]
      go_enter Tryz.func77, Tryz.ntmps77
      go_wp2
      go_ret2
      exact ⟨rfl, by go_grown⟩
    · have h4' : (k == 4) = false := by simpa using h4
      by_cases h8 : k = 8
      · subst h8
        have e1 : otHi n2 8 = 1099511627776 := rfl
        rw [e1]
        go_enter Tryz.func77, Tryz.ntmps77
        go_wp2
        go_ret2
        exact ⟨rfl, by go_grown⟩
      · have h8' : (k == 8) = false := by simpa using h8
        have e1 : otLo k = 0 := by simp [otLo, h8]
        have e2 : otHi n2 k = 0 := by simp [otHi, h3, h4, h8]
        rw [e1, e2]
        clear e1 e2
        go_enter Tryz.func77, Tryz.ntmps77
        go_wp2
        go_ret2
        exact ⟨rfl, by go_grown⟩
theorem of_any (k : Int) (w : World) : Gives Tryz.prog 133 #[.int .i64 k] w (.agg #[.int .i64 12, .int .i64 k]) := by
  unfold Gives
  go_enter Tryz.func133, Tryz.ntmps133
  go_wp2
  go_returns
  exact ⟨rfl, by go_grown⟩
end Go.Proofs.YtfkjokbhnblndaaGreatDoor
