/- Names: the reference's IsName. -/
import Derived.Test.YtfkjokbhnblndaaGreatDoorRows
import Derived.Test.YtfkjokbhnblndaaGreatDoorBase
import Derived.Test.YtfkjokbhnblndaaGreatDoorRegion
import Derived.Laws.RangeAny
import Derived.Laws.RangeString
namespace Go.Proofs.YtfkjokbhnblndaaGreatDoor
open Go.RowKit
set_option linter.unusedVariables false
set_option linter.unusedSimpArgs false

def letter (c : UInt8) : Bool := decide (97 ≤ c.toNat ∧ c.toNat ≤ 122)
def other (c : UInt8) : Bool := decide (48 ≤ c.toNat ∧ c.toNat ≤ 57) || decide (c.toNat = 95)
def okAt (i : Nat) (c : UInt8) : Bool := letter c || (decide (i ≠ 0) && other c)
/-- the first n bytes of l can begin a name -/
def okTo (l : List UInt8) : Nat → Bool
  | 0 => true
  | n + 1 => okTo l n && okAt n (l.getD n 0)
/-- a name: a letter, and letters, digits and underlines; 1 to 30 bytes -/
def isNm (l : List UInt8) : Bool := decide (1 ≤ l.length ∧ l.length ≤ 30) && okTo l l.length
theorem okTo_no (l : List UInt8) (j : Nat) (h : okAt j (l.getD j 0) = false) : ∀ n, j < n → okTo l n = false
  | 0, hj => by omega
  | n + 1, hj => by
    simp only [okTo]
    by_cases e : j = n
    · subst e; rw [h]; simp
    · rw [okTo_no l j h n (by omega)]; rfl
theorem isNm_no (l : List UInt8) (j : Nat) (hj : j < l.length) (h : okAt j l[j] = false) : isNm l = false := by
  unfold isNm
  rw [okTo_no l j (by rw [List.getD_eq_getElem?_getD, List.getElem?_eq_getElem hj]; exact h) _ hj]; simp
theorem okTo_yes (l : List UInt8) (j : Nat) (hj : j < l.length) (h0 : okTo l j = true) (h : okAt j l[j] = true) : okTo l (j + 1) = true := by
  simp only [okTo]
  rw [h0, List.getD_eq_getElem?_getD, List.getElem?_eq_getElem hj]; simpa using h
theorem isNm_end (l : List UInt8) (h : okTo l l.length = true) : isNm l = decide (1 ≤ l.length ∧ l.length ≤ 30) := by unfold isNm; rw [h]; simp

theorem okAt_no {j : Nat} {x : UInt8} (h1 : ¬ (97 ≤ (x.toNat : Int) ∧ (x.toNat : Int) ≤ 122)) (h2 : j = 0 ∨ ¬ ((48 ≤ (x.toNat : Int) ∧ (x.toNat : Int) ≤ 57) ∨ (x.toNat : Int) = 95)) : okAt j x = false := by
  simp [okAt, letter, other]; omega
theorem okAt_let {j : Nat} {x : UInt8} (h1 : 97 ≤ (x.toNat : Int) ∧ (x.toNat : Int) ≤ 122) : okAt j x = true := by
  simp [okAt, letter, other]; omega
theorem okAt_oth {j : Nat} {x : UInt8} (h0 : j ≠ 0) (h1 : (48 ≤ (x.toNat : Int) ∧ (x.toNat : Int) ≤ 57) ∨ (x.toNat : Int) = 95) : okAt j x = true := by
  simp [okAt, letter, other]; omega

set_option maxHeartbeats 2000000 in
theorem IsName_any (l : List UInt8) (w : World) : Gives Tryz.prog 90 #[sV l] w (.bool (isNm l)) := by
  unfold Gives
  by_cases hl : 1 ≤ l.length ∧ l.length ≤ 30
  · obtain ⟨hl1, hl2⟩ := hl
    have hne1 : ¬ l = [] := by rintro rfl; simp at hl1
    have hne2 : l.isEmpty = false := by simpa using hne1
    have HY := Lib.hid (okTo_yes l)
    have HN := Lib.hid (isNm_no l)
    have HE := Lib.hid (isNm_end l)
    generalize isNm l = r at *
    go_enter Tryz.func90, Tryz.ntmps90
    go_wp2
    go_loop [3] (fun i => ∃ j : Nat, j ≤ l.length ∧ i = .int .i64 (j : Int) ∧ okTo l j = true) (fun i => l.length - (intOf i).toNat)
    case atStart => exact ⟨0, Nat.zero_le _, rfl, rfl⟩
    case round =>
      obtain ⟨j, hj, rfl, hk⟩ := hrel
      have HK := Lib.hid hk
      clear hk
      by_cases hlt : j < l.length
      · have hy := Lib.hid (HY.out j hlt HK.out)
        have hn := Lib.hid (HN.out j hlt)
        have hc := (l[j]).toNat_lt
        by_cases hA : 97 ≤ ((l[j]).toNat : Int)
        · by_cases hB : ((l[j]).toNat : Int) ≤ 122
          · have hz := Lib.hid (hy.out (okAt_let ⟨hA, hB⟩))
            go_wp2
            go_round
            case rel => exact ⟨j + 1, by omega, by go_num, hz.out⟩
            case measure => simp [intOf]; omega
          · have hz := Lib.hid (hn.out (okAt_no (by omega) (.inr (by omega))))
            have h95 : (((l[j]).toNat : Int) == 95) = false := by rw [beq_eq_false_iff_ne]; omega
            by_cases h0 : j = 0
            · subst h0
              go_wp2
              go_ret
              exact ⟨by rw [hz.out]; rfl, Below.refl _ _⟩
            · have h0' : ¬ (j : Int) = 0 := by omega
              have h57 : ¬ ((l[j]).toNat : Int) ≤ 57 := by omega
              go_wp2
              all_goals (go_ret; exact ⟨by rw [hz.out]; rfl, Below.refl _ _⟩)
        · by_cases h0 : j = 0
          · have hz := Lib.hid (hn.out (okAt_no (by omega) (.inl h0)))
            subst h0
            go_wp2
            all_goals (go_ret; exact ⟨by rw [hz.out]; rfl, Below.refl _ _⟩)
          · have h0' : ¬ (j : Int) = 0 := by omega
            by_cases hC : ((l[j]).toNat : Int) = 95
            · have hz := Lib.hid (hy.out (okAt_oth h0 (.inr hC)))
              go_wp2
              go_round
              case rel => exact ⟨j + 1, by omega, by go_num, hz.out⟩
              case measure => simp [intOf]; omega
            · have h95 : (((l[j]).toNat : Int) == 95) = false := by rw [beq_eq_false_iff_ne]; omega
              by_cases hD : 48 ≤ ((l[j]).toNat : Int)
              · by_cases hE : ((l[j]).toNat : Int) ≤ 57
                · have hz := Lib.hid (hy.out (okAt_oth h0 (.inl ⟨hD, hE⟩)))
                  go_wp2
                  go_round
                  case rel => exact ⟨j + 1, by omega, by go_num, hz.out⟩
                  case measure => simp [intOf]; omega
                · have hz := Lib.hid (hn.out (okAt_no (by omega) (.inr (by omega))))
                  go_wp2
                  go_ret
                  exact ⟨by rw [hz.out]; rfl, Below.refl _ _⟩
              · have hz := Lib.hid (hn.out (okAt_no (by omega) (.inr (by omega))))
                go_wp2
                go_ret
                exact ⟨by rw [hz.out]; rfl, Below.refl _ _⟩
      · obtain rfl : j = l.length := by omega
        have hz := Lib.hid (HE.out HK.out)
        go_wp2
        go_ret
        exact ⟨by rw [hz.out]; simp [hl1, hl2], Below.refl _ _⟩
  · have hz := Lib.hid (show isNm l = false by unfold isNm; simp [hl])
    generalize isNm l = r at *
    by_cases h1 : l = []
    · subst h1
      go_enter Tryz.func90, Tryz.ntmps90
      go_wp2
      go_ret
      exact ⟨by rw [hz.out]; rfl, Below.refl _ _⟩
    · have hne2 : l.isEmpty = false := by simpa using h1
      have h2 : 30 < l.length := by have := List.length_pos_iff.2 h1; omega
      go_enter Tryz.func90, Tryz.ntmps90
      go_wp2
      go_ret
      exact ⟨by rw [hz.out]; rfl, Below.refl _ _⟩

end Go.Proofs.YtfkjokbhnblndaaGreatDoor
