/- Slices of integers; the checks of clocks. -/
import Derived.Test.YtaplbcmpjhdohaaRows
import Derived.Test.YtaplbcmpjhdohaaBase
import Derived.Test.YtaplbcmpjhdohaaRegion
namespace Go.Proofs.Ytaplbcmpjhdohaa
open Go.RowKit
set_option linter.unusedVariables false

/-- a slice of integers that came in -/
def IsRow (k : IntKind) (w : World) (a : Option Addr) (len cap : Nat) (zs : List Int) : Prop :=
  (a = none ∧ len = 0 ∧ cap = 0 ∧ zs = []) ∨
  ∃ x, a = some x ∧ len ≤ cap ∧ cap ≤ maxLen ∧ zs.length = cap ∧ (∀ i, i < zs.length → w.cell? (x.add i) = some (.int k (zs.getD i 0))) ∧ ∀ n ∈ zs, (Lit.int k n).wf = true

/-- the slice at a holds the integers l -/
def IntsAt (w : World) (a : Option Addr) (l : List Int) : Prop := ∀ i (h : i < l.length), ∃ b off, a = some ⟨b, off, none⟩ ∧ w.cell? ⟨b, off + i, none⟩ = some (.int .i64 l[i])
theorem cell_lt {w : World} {a : Addr} {v : Value} (h : w.cell? a = some v) : a.block < w.heap.size := by
  unfold World.cell? at h
  split at h
  · rename_i hx; exact lt_of_block hx
  · cases h
theorem IntsAt.below {w W : World} {a : Option Addr} {l : List Int} (h : IntsAt w a l) (hE : Below w.heap.size w W) : IntsAt W a l := fun i hi => by
  obtain ⟨b, off, e, hc⟩ := h i hi
  exact ⟨b, off, e, (hE.cell (p := ⟨b, off + i, none⟩) (cell_lt hc)).trans hc⟩
theorem IntsAt.at {w : World} {a : Option Addr} {l : List Int} (h : IntsAt w a l) {i : Nat} (hi : i < l.length) : ∃ b off, a = some ⟨b, off, none⟩ ∧ w.cell? ⟨b, off + i, none⟩ = some (.int .i64 l[i]) := h i hi
theorem IntsAt.nil {w : World} {a : Option Addr} : IntsAt w a [] := fun i hi => by simp at hi
theorem IsRow.ints {w : World} {a : Option Addr} {len cap : Nat} {zs : List Int} (h : IsRow .i64 w a len cap zs) :
    ∃ l : List Int, l.length = len ∧ len ≤ maxLen ∧ IntsAt w a l ∧ ∀ n ∈ l, -9223372036854775808 ≤ n ∧ n ≤ 9223372036854775807 := by
  rcases h with ⟨rfl, rfl, rfl, rfl⟩ | ⟨x, rfl, hl, hm, hz, hcell, hwz⟩
  · exact ⟨[], rfl, by simp, IntsAt.nil, by simp⟩
  · refine ⟨zs.take len, by simp; omega, by omega, fun i hi => ?_, fun n hn => i64_bd (hwz n (List.mem_of_mem_take hn))⟩
    have hi2 : i < zs.length := by simp at hi; omega
    have hc := hcell i hi2
    obtain ⟨b, off, spot⟩ := x
    have hspot : spot = none := by
      have := World.cell?_spot (hcell 0 (by omega))
      simpa [Addr.add] using this
    subst hspot
    refine ⟨b, off, rfl, ?_⟩
    have e : (⟨b, off, none⟩ : Addr).add i = ⟨b, off + i, none⟩ := by unfold Addr.add; split <;> simp_all
    rw [e] at hc
    rw [hc]
    simp [List.getD_eq_getElem?_getD, hi2]

def bad (x : Int) : Bool := decide (x < 0) || decide (1099511627776 < x)
def chk (l : List Int) : Int := if 32 < l.length then 4 else if l.any bad = true then 2 else 0

theorem refCheck_any (l : List Int) (a : Option Addr) (cap : Nat) (w : World) (hl : l.length ≤ maxLen) (h : IntsAt w a l) :
    Gives Try.prog 34 #[.slice a l.length cap] w (.int .i64 (chk l)) := by
  unfold maxLen at hl
  by_cases h32 : 32 < l.length
  · have HV := Lib.hid (show chk l = 4 by unfold chk; rw [if_pos h32])
    have d : decide ((32 : Int) < ((l.length : Nat) : Int)) = true := by simp; omega
    unfold Gives
    go_enter Try.func34, Try.ntmps34
    go_wp2
    go_ret
    exact ⟨by rw [HV.out]; rfl, Below.refl _ _⟩
  · have d : decide ((32 : Int) < ((l.length : Nat) : Int)) = false := by simp; omega
    unfold Gives
    go_enter Try.func34, Try.ntmps34
    go_wp2
    go_loopw [3] (fun i wr => ∃ j : Nat, j ≤ l.length ∧ i = .int .i64 j ∧ (l.take j).any bad = false ∧ Below w.heap.size w wr) (fun i _ => l.length - (intOf i).toNat)
    case atStart => exact ⟨0, Nat.zero_le _, rfl, by simp, Below.refl _ _⟩
    case round =>
      obtain ⟨j, hj, rfl, hA, hB⟩ := hrel
      by_cases hlt : j < l.length
      · obtain ⟨b, off, rfl, hc⟩ := (h.below hB).at hlt
        have hs : l.take (j + 1) = l.take j ++ [l[j]] := List.take_succ_eq_append_getElem hlt
        have HN := Lib.hid (show l[j] ∈ l from List.getElem_mem hlt)
        have HS := Lib.hid (show (l.take (j + 1)).any bad = (bad l[j]) by rw [hs, List.any_append, hA]; simp)
        clear hs
        generalize l[j] = x at *
        by_cases h0 : x < 0
        · have HV := Lib.hid (show chk l = 2 by unfold chk; rw [if_neg h32, if_pos (List.any_eq_true.2 ⟨x, HN.out, by simp [bad, h0]⟩)])
          go_wp2
          go_ret
          exact ⟨by rw [HV.out]; rfl, hB⟩
        · by_cases h1 : 1099511627776 < x
          · have HV := Lib.hid (show chk l = 2 by unfold chk; rw [if_neg h32, if_pos (List.any_eq_true.2 ⟨x, HN.out, by simp [bad, h1]⟩)])
            go_wp2
            go_ret
            exact ⟨by rw [HV.out]; rfl, hB⟩
          · go_wp2
            go_roundw
            case rel => exact ⟨j + 1, by omega, by go_num, by rw [HS.out]; simp [bad]; omega, hB⟩
            case measure => simp [intOf]; omega
      · have hk : l.take j = l := List.take_of_length_le (by omega)
        rw [hk] at hA
        have HV := Lib.hid (show chk l = 0 by unfold chk; rw [if_neg h32, if_neg (by simp [hA])])
        clear hA
        go_wp2
        go_ret
        exact ⟨by rw [HV.out]; rfl, hB⟩

theorem check1_any (x : Int) (w : World) : Gives Try.prog 55 #[.int .i64 x] w (.bool (bad x)) := by
  have HV := Lib.hid (show bad x = (decide (x < 0) || decide (1099511627776 < x)) from rfl)
  unfold Gives
  by_cases h0 : x < 0
  · go_enter Try.func55, Try.ntmps55
    go_wp2
    go_ret
    exact ⟨by rw [HV.out]; simp; omega, Below.refl _ _⟩
  · go_enter Try.func55, Try.ntmps55
    go_wp2
    go_ret
    exact ⟨by rw [HV.out]; simp; omega, Below.refl _ _⟩

set_option maxHeartbeats 1000000 in
theorem indexBad_any (l : List Int) (a : Option Addr) (cap : Nat) (w : World) (hl : l.length ≤ maxLen) (h : IntsAt w a l) :
    Calls Try.prog 67 #[.slice a l.length cap, .func (.func 55) #[] #[]] w fun e w' => (∃ r : Int, e = .returned (.int .i64 r) ∧ decide (0 ≤ r) = l.any bad) ∧ Below w.heap.size w w' := by
  unfold maxLen at hl
  go_enter Try.func67, Try.ntmps67
  go_wp2
  go_loopw [8] (fun i wr => ∃ j : Nat, j ≤ l.length ∧ i = .int .i64 j ∧ (l.take j).any bad = false ∧ Below w.heap.size w wr) (fun i _ => l.length - (intOf i).toNat)
  case atStart => exact ⟨0, Nat.zero_le _, rfl, by simp, Below.refl _ _⟩
  case round =>
    obtain ⟨j, hj, rfl, hA, hB⟩ := hrel
    by_cases hlt : j < l.length
    · obtain ⟨b, off, rfl, hc⟩ := (h.below hB).at hlt
      have hs : l.take (j + 1) = l.take j ++ [l[j]] := List.take_succ_eq_append_getElem hlt
      have HN := Lib.hid (show l[j] ∈ l from List.getElem_mem hlt)
      have HS := Lib.hid (show (l.take (j + 1)).any bad = (bad l[j]) by rw [hs, List.any_append, hA]; simp)
      clear hs
      generalize l[j] = x at *
      have C := check1_any x
      cases hq : bad x with
      | true =>
        rw [hq] at C
        have HV := Lib.hid (show l.any bad = true from List.any_eq_true.2 ⟨x, HN.out, hq⟩)
        go_wp2_with fail
        refine (C _).mono ?_
        intro w2 hB2
        go_wp2
        go_ret
        exact ⟨⟨_, rfl, by rw [HV.out]; simp⟩, hB.trans (hB2.mono hB.size)⟩
      | false =>
        rw [hq] at C
        go_wp2_with fail
        refine (C _).mono ?_
        intro w2 hB2
        go_wp2
        go_roundw
        case rel => exact ⟨j + 1, by omega, by go_num, by rw [HS.out, hq], hB.trans (hB2.mono hB.size)⟩
        case measure => simp [intOf]; omega
    · have hk : l.take j = l := List.take_of_length_le (by omega)
      rw [hk] at hA
      have HA := Lib.hid hA
      clear hA
      go_wp2
      go_ret
      exact ⟨⟨_, rfl, by rw [HA.out]; simp⟩, hB⟩

end Go.Proofs.Ytaplbcmpjhdohaa
