/- Names: program's isName. -/
import Derived.Test.YtfkjokbhnblndaaGreatDoorPgN
namespace Go.Proofs.YtfkjokbhnblndaaGreatDoor
open Go.RowKit
set_option linter.unusedVariables false
set_option linter.unusedSimpArgs false

theorem isNm_pos {l : List UInt8} (h : l.length = 0) : isNm l = false := by unfold isNm; simp [h]
set_option maxRecDepth 100000 in
set_option maxHeartbeats 2000000 in
theorem isName_any (l : List UInt8) (w : World) (hl : l.length ≤ 140737488355328) : Gives Tryz.prog 78 #[sV l] w (.bool (isNm l)) := by
  unfold Gives
  have HY := Lib.hid (okTo_yes l)
  have HN := Lib.hid (isNm_no l)
  have HE := Lib.hid (isNm_end l)
  generalize isNm l = r at *
  go_enter Tryz.func78, Tryz.ntmps78
  go_wp2_with (refine wpList_strbytes rfl 9 42 5 _ rfl l rfl Tryz.underlying9 Tryz.underlying42 Tryz.underlying5 ?_; intro W g cap hE0 hg hgs hB; have HB := Lib.hid hB; have HE0 := Lib.hid hE0; clear hB hE0)
  go_loop [9] (fun i => ∃ j : Nat, j ≤ l.length ∧ i = .int .i64 (j : Int) ∧ okTo l j = true) (fun i => l.length - (intOf i).toNat)
  case atStart => exact ⟨0, Nat.zero_le _, rfl, rfl⟩
  case round =>
    obtain ⟨j, hj, rfl, hk⟩ := hrel
    have HK := Lib.hid hk
    clear hk
    by_cases hlt : j < l.length
    · have hy := Lib.hid (HY.out j hlt HK.out)
      have hn := Lib.hid (HN.out j hlt)
      have hc := (l[j]).toNat_lt
      have hb := (HB.out j hlt).1
      by_cases hA : 97 ≤ ((l[j]).toNat : Int) ∧ ((l[j]).toNat : Int) ≤ 122
      · have hz := Lib.hid (hy.out (okAt_let hA))
        obtain ⟨hA1, hA2⟩ := hA
        go_wp2
        go_round
        case rel => exact ⟨j + 1, by omega, by go_num, hz.out⟩
        case measure => simp [intOf]; omega
      · by_cases h0 : j = 0
        · have hz := Lib.hid (hn.out (okAt_no (by omega) (.inl h0)))
          subst h0
          by_cases hA1 : 97 ≤ ((l[0]).toNat : Int)
          · have hA2 : ¬ ((l[0]).toNat : Int) ≤ 122 := fun h => hA ⟨hA1, h⟩
            clear hA
            go_wp2
            go_ret
            exact ⟨by rw [hz.out]; rfl, HE0.out⟩
          · clear hA
            go_wp2
            go_ret
            exact ⟨by rw [hz.out]; rfl, HE0.out⟩
        · have h0' : ((j : Int) == 0) = false := by rw [beq_eq_false_iff_ne]; omega
          by_cases hO : (48 ≤ ((l[j]).toNat : Int) ∧ ((l[j]).toNat : Int) ≤ 57) ∨ ((l[j]).toNat : Int) = 95
          · have hz := Lib.hid (hy.out (okAt_oth h0 hO))
            have h122 : ((l[j]).toNat : Int) ≤ 122 := by omega
            have h97 : ¬ 97 ≤ ((l[j]).toNat : Int) := fun h => hA ⟨h, h122⟩
            clear hA
            by_cases hC : ((l[j]).toNat : Int) = 95
            · have h95 : (((l[j]).toNat : Int) != 95) = false := by rw [hC]; decide
              clear hO
              go_wp2
              go_round
              case rel => exact ⟨j + 1, by omega, by go_num, hz.out⟩
              case measure => simp [intOf]; omega
            · have h95 : (((l[j]).toNat : Int) != 95) = true := by rw [bne_iff_ne]; exact hC
              obtain ⟨h48, h57⟩ : 48 ≤ ((l[j]).toNat : Int) ∧ ((l[j]).toNat : Int) ≤ 57 := by omega
              clear hO
              go_wp2
              go_round
              case rel => exact ⟨j + 1, by omega, by go_num, hz.out⟩
              case measure => simp [intOf]; omega
          · have hz := Lib.hid (hn.out (okAt_no hA (.inr hO)))
            have h95 : (((l[j]).toNat : Int) != 95) = true := by rw [bne_iff_ne]; omega
            by_cases hA1 : 97 ≤ ((l[j]).toNat : Int)
            · have hA2 : ¬ ((l[j]).toNat : Int) ≤ 122 := fun h => hA ⟨hA1, h⟩
              clear hA hO
              go_wp2
              go_ret
              exact ⟨by rw [hz.out]; rfl, HE0.out⟩
            · by_cases h48 : ((l[j]).toNat : Int) < 48
              · clear hA hO
                go_wp2
                go_ret
                exact ⟨by rw [hz.out]; rfl, HE0.out⟩
              · have h57 : 57 < ((l[j]).toNat : Int) := by omega
                clear hA hO
                go_wp2
                go_ret
                exact ⟨by rw [hz.out]; rfl, HE0.out⟩
    · obtain rfl : j = l.length := by omega
      have hz := Lib.hid (HE.out HK.out)
      by_cases h1 : 1 ≤ l.length
      · by_cases h2 : l.length ≤ 30
        · have h2i : (l.length : Int) ≤ 30 := by omega
          go_wp2
          go_ret
          exact ⟨by rw [hz.out]; simp [h1, h2], HE0.out⟩
        · have h2i : ¬ (l.length : Int) ≤ 30 := by omega
          go_wp2
          go_ret
          exact ⟨by rw [hz.out]; simp [h1, h2], HE0.out⟩
      · go_wp2
        go_ret
        exact ⟨by rw [hz.out]; simp [h1], HE0.out⟩
end Go.Proofs.YtfkjokbhnblndaaGreatDoor
