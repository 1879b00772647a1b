/- CodecTexts: the walk. great: lists of one and of two. -/
import Derived.Test.YtpdmcikegcknlaaDoorLawInts
namespace Go.Proofs.YtpdmcikegcknlaaDoor
open Go.RowKit
set_option linter.unusedVariables false

set_option maxRecDepth 100000 in
set_option maxHeartbeats 8000000 in
theorem codecTexts_walk (a0 a1 : ByteArray) (w : World) (hm : MaxL w) (w0 : a0.size ≤ 140737488351232) (w1 : a1.size ≤ 140737488351232) :
    Gives Tryd.prog 4 #[.string a0, .string a1] w (.bool true) := by
  obtain ⟨t, rfl⟩ := sB_of a0
  obtain ⟨s, rfl⟩ := sB_of a1
  rw [sB_size] at w0 w1
  have HM := Lib.hid hm
  unfold Gives
  by_cases h1 : t.length ≤ 400
  · have d1 : decide ((400 : Int) < (t.length : Int)) = false := by simp; omega
    by_cases h2 : s.length ≤ 400
    · have d2 : decide ((400 : Int) < (s.length : Int)) = false := by simp; omega
      have C1 := Lib.hid (fun W (hW : MaxL W) => Text_any t W (by omega) hW)
      have C2 := Lib.hid (fun W => refText_any t W (by omega))
      have C3 := Lib.hid (fun W => ReadText_any s W (by omega))
      have C4 := Lib.hid (fun W => refReadText_any s W (by omega))
      have C5 := Lib.hid (fun W => Hash_any s W (by omega))
      have C6 := Lib.hid (fun W => refHash_any s W (by omega))
      unfold rdXV at C3 C4
      clear hm w0 w1
      generalize txS t = x1 at *
      generalize txE t = e1 at *
      generalize (rdX s).1 = x2 at *
      generalize (rdX s).2.1 = k2 at *
      generalize (rdX s).2.2 = e2 at *
      generalize hfin (hfold s) = h3 at *
      go_enter Tryd.func4, Tryd.ntmps4
      go_wp2_with fail
      refine (C1.out _ HM.out).mono ?_
      intro w1 hB1
      have H1 := Lib.hid (show Ext w w1 from hB1)
      clear hB1 C1
      go_wp2_with fail
      refine (C2.out _).mono ?_
      intro w2 hB2
      have H2 := Lib.hid (Ext.trans H1.out hB2)
      clear hB2 C2 H1
      go_wp2_with fail
      refine (C3.out _).mono ?_
      intro w3 hB3
      have H3 := Lib.hid (Ext.trans H2.out hB3)
      clear hB3 C3 H2
      go_wp2_with fail
      refine (C4.out _).mono ?_
      intro w4 hB4
      have H4 := Lib.hid (Ext.trans H3.out hB4)
      clear hB4 C4 H3
      go_wp2_with fail
      refine (C5.out _).mono ?_
      rintro _ w5 ⟨rfl, rfl⟩
      go_wp2_with fail
      refine (C6.out _).mono ?_
      rintro _ w6 ⟨rfl, rfl⟩
      go_wp2_with fail
      refine (awake1_any _ (HM.out.ext H4.out)).mono ?_
      intro w7 hB7
      have H7 := Lib.hid (Ext.trans H4.out hB7)
      clear hB7
      go_wp2
      go_ret
      exact ⟨rfl, H7.out⟩
    · have d2 : decide ((400 : Int) < (s.length : Int)) = true := by simp; omega
      clear hm
      go_enter Tryd.func4, Tryd.ntmps4
      go_wp2_with fail
      refine (awake1_any _ HM.out).mono ?_
      intro w7 hB7
      go_wp2
      go_ret
      exact ⟨rfl, hB7⟩
  · have d1 : decide ((400 : Int) < (t.length : Int)) = true := by simp; omega
    clear hm
    go_enter Tryd.func4, Tryd.ntmps4
    go_wp2_with fail
    refine (awake1_any _ HM.out).mono ?_
    intro w7 hB7
    go_wp2
    go_ret
    exact ⟨rfl, hB7⟩

/-- a slice's value, by its address, length and capacity -/
def slW (p : Option Addr × Nat × Nat) : Value := .slice p.1 p.2.1 p.2.2
def long40 (p : Option Addr × Nat × Nat) : Bool := decide ((40 : Int) < (p.2.1 : Int))
set_option maxHeartbeats 1000000 in
theorem great01_any (L : List (Option Addr × Nat × Nat)) (g cap : Nat) (w : World) (hl : L.length ≤ 1000) (h : ∀ i (hi : i < L.length), w.cell? ⟨g, i, none⟩ = some (slW L[i])) :
    Gives Tryd.prog 11 #[.slice (some ⟨g, 0, none⟩) L.length cap] w (.bool (L.any long40)) := by
  unfold Gives
  have HH := Lib.hid h
  clear h
  go_enter Tryd.func11, Tryd.ntmps11
  go_wp2
  go_loopw [7] (fun i wr => ∃ j : Nat, j ≤ L.length ∧ i = .int .i64 j ∧ (L.take j).any long40 = false ∧ Below w.heap.size w wr) (fun i _ => L.length - (intOf i).toNat)
  case atStart => exact ⟨0, Nat.zero_le _, rfl, by simp, Below.refl _ _⟩
  case round =>
    obtain ⟨j, hj, rfl, hA, hB⟩ := hrel
    have HA := Lib.hid hA
    have HB := Lib.hid hB
    by_cases hlt : j < L.length
    · have hc0 := HH.out j hlt
      have hc := (hB.cell (p := ⟨g, j, none⟩) (cell_lt hc0)).trans hc0
      have hs : L.take (j + 1) = L.take j ++ [L[j]] := List.take_succ_eq_append_getElem hlt
      have HN := Lib.hid (show L[j] ∈ L from List.getElem_mem hlt)
      have HS := Lib.hid (show (L.take (j + 1)).any long40 = (long40 L[j]) by rw [hs, List.any_append, hA]; simp)
      clear hs hc0 hA hB
      generalize L[j] = x at *
      obtain ⟨a, n, c⟩ := x
      have hq0 : long40 (a, n, c) = decide ((40 : Int) < (n : Int)) := rfl
      have HQ := Lib.hid hq0
      clear hq0
      unfold slW at hc
      simp only at hc
      by_cases hn : 40 < n
      · have d : decide ((40 : Int) < (n : Int)) = true := by simp; omega
        have HV := Lib.hid (show L.any long40 = true from List.any_eq_true.2 ⟨_, HN.out, by rw [HQ.out]; exact d⟩)
        go_wp2
        go_ret
        exact ⟨by rw [HV.out]; rfl, HB.out⟩
      · have d : decide ((40 : Int) < (n : Int)) = false := by simp; omega
        have HV := Lib.hid d
        go_wp2
        go_roundw
        case rel => exact ⟨j + 1, by omega, by go_num, by rw [HS.out, HQ.out]; exact HV.out, HB.out⟩
        case measure => simp [intOf]; omega
    · have hk : L.take j = L := List.take_of_length_le (by omega)
      rw [hk] at HA
      clear hA hB hk
      go_wp2
      go_ret
      exact ⟨by rw [HA.out]; rfl, HB.out⟩
theorem long40_eq (a : Option Addr) (n c : Nat) : long40 (a, n, c) = decide (40 < n) := by unfold long40; rw [decide_eq_decide]; simp only; omega
theorem great01_one (a : Option Addr) (n c : Nat) (w : World) (t : TypeId) : Gives Tryd.prog 11 #[.slice (some ⟨w.heap.size, 0, none⟩) 1 1] (w.alloc (.cells #[.slice a n c] t)) (.bool (decide (40 < n))) := by
  have := great01_any [(a, n, c)] w.heap.size 1 (w.alloc (.cells #[.slice a n c] t)) (by simp) (fun i hi => by
    match i, hi with
    | 0, _ => exact cell_of (alloc_here _ _) rfl)
  rw [show [(a, n, c)].any long40 = decide (40 < n) by simp only [List.any_cons, List.any_nil, long40_eq, Bool.or_false]] at this
  exact this
theorem great01_two (a b : Option Addr) (n c m d : Nat) (w : World) (t : TypeId) : Gives Tryd.prog 11 #[.slice (some ⟨w.heap.size, 0, none⟩) 2 2] (w.alloc (.cells #[.slice a n c, .slice b m d] t)) (.bool (decide (40 < n) || decide (40 < m))) := by
  have := great01_any [(a, n, c), (b, m, d)] w.heap.size 2 (w.alloc (.cells #[.slice a n c, .slice b m d] t)) (by simp) (fun i hi => by
    match i, hi with
    | 0, _ => exact cell_of (alloc_here _ _) rfl
    | 1, _ => exact cell_of (alloc_here _ _) rfl)
  rw [show [(a, n, c), (b, m, d)].any long40 = (decide (40 < n) || decide (40 < m)) by simp only [List.any_cons, List.any_nil, long40_eq, Bool.or_false]] at this
  exact this

end Go.Proofs.YtpdmcikegcknlaaDoor
