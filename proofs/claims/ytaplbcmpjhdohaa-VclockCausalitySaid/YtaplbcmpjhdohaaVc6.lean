/- The laws of clocks: valid, slices.Equal. -/
import Derived.Test.YtaplbcmpjhdohaaLawPairs
namespace Go.Proofs.Ytaplbcmpjhdohaa
open Go.RowKit
set_option linter.unusedVariables false

set_option maxHeartbeats 1000000 in
theorem Equal_any (l m : List Int) (a b : Option Addr) (cap cap' : Nat) (w : World) (hl : l.length ≤ maxLen) (hm : m.length ≤ maxLen) (h : IntsAt w a l) (h' : IntsAt w b m) :
    Gives Try.prog 25 #[.slice a l.length cap, .slice b m.length cap'] w (.bool (l == m)) := by
  unfold maxLen at hl hm
  by_cases q : l.length = m.length
  · have hq : (((l.length : Nat) : Int) != ((m.length : Nat) : Int)) = false := by simp [q]
    have HL := Lib.hid q
    clear q
    unfold Gives
    go_enter Try.func25, Try.ntmps25
    go_wp2
    go_loopw [13] (fun i wr => ∃ j : Nat, j ≤ l.length ∧ i = .int .i64 j ∧ (∀ i (hi : i < l.length) (hi2 : i < m.length), i < j → l[i] = m[i]) ∧ Below w.heap.size w wr) (fun i _ => l.length - (intOf i).toNat)
    case atStart => exact ⟨0, Nat.zero_le _, rfl, fun i _ _ h0 => absurd h0 (Nat.not_lt_zero _), Below.refl _ _⟩
    case round =>
      obtain ⟨j, hj, rfl, hA, hB⟩ := hrel
      have HA := Lib.hid hA
      clear hA
      by_cases hlt : j < l.length
      · obtain ⟨b1, o1, rfl, hc1⟩ := (h.below hB).at hlt
        have hlt2 : j < m.length := by have := HL.out; omega
        obtain ⟨b2, o2, rfl, hc2⟩ := (h'.below hB).at hlt2
        have HF := Lib.hid (show l[j] ≠ m[j] → (l == m) = false from fun h0 => by
          rw [beq_eq_false_iff_ne]
          rintro rfl
          exact h0 rfl)
        have HT := Lib.hid (show l[j] = m[j] → ∀ i (hi : i < l.length) (hi2 : i < m.length), i < j + 1 → l[i] = m[i] from fun h0 i hi hi2 hij => by
          rcases Nat.lt_succ_iff_lt_or_eq.1 hij with h1 | h1
          · exact HA.out i hi hi2 h1
          · subst h1; exact h0)
        generalize l[j] = x at *
        generalize m[j] = y at *
        by_cases h0 : x = y
        · have hq2 : (x != y) = false := by simp [h0]
          go_wp2
          go_quiet (fail)
          go_wp2
          go_roundw
          case rel => exact ⟨j + 1, by omega, by go_num, HT.out h0, Ext.drewN' hB⟩
          case measure => simp [intOf]; omega
        · have hq2 : (x != y) = true := by rw [bne_iff_ne]; exact h0
          go_wp2
          go_quiet (fail)
          go_wp2
          go_ret
          exact ⟨by rw [HF.out h0]; rfl, Ext.drewN' hB⟩
      · have HV := Lib.hid (show (l == m) = true by
          rw [beq_iff_eq]
          exact List.ext_getElem HL.out (fun i h1 h2 => HA.out i h1 h2 (by omega)))
        go_wp2
        go_ret
        exact ⟨by rw [HV.out]; rfl, hB⟩
  · have hq : (((l.length : Nat) : Int) != ((m.length : Nat) : Int)) = true := by rw [bne_iff_ne]; omega
    have HV := Lib.hid (show (l == m) = false by rw [beq_eq_false_iff_ne]; rintro rfl; exact q rfl)
    clear q
    unfold Gives
    go_enter Try.func25, Try.ntmps25
    go_wp2
    go_ret
    exact ⟨by rw [HV.out]; rfl, Below.refl _ _⟩


/-- the closure of 'valid' -/
theorem valid1_any (l l0 : List Int) (a a0 : Option Addr) (c c0 B g : Nat) (w : World) (hl : l.length ≤ 34) (h0l : l0.length ≤ 34) (h : IntsAt w a l) (hB : w.cell? ⟨B, 0, none⟩ = some (.slice (some ⟨g, 0, none⟩) 3 3)) (hg : w.cell? ⟨g, 0, none⟩ = some (.slice a0 l0.length c0)) :
    Gives Try.prog 49 #[.slice a l.length c, .pointer (some ⟨B, 0, none⟩)] w (.bool (chk l != 0 || ((l.length : Int) != (l0.length : Int)))) := by
  have C := refCheck_any l a c w (by unfold maxLen; omega) h
  unfold Gives
  cases q : (chk l != 0) with
  | true =>
    have q2 := q
    generalize chk l = k at *
    clear h
    go_enter Try.func49, Try.ntmps49
    go_wp2_with fail
    refine C.mono ?_
    intro w1 hB1
    clear C
    go_wp2
    go_ret
    exact ⟨rfl, hB1⟩
  | false =>
    generalize chk l = k at *
    clear h
    go_enter Try.func49, Try.ntmps49
    go_wp2_with fail
    refine C.mono ?_
    intro w1 hB1
    have hB' := (hB1.cell (p := ⟨B, 0, none⟩) (cell_lt hB)).trans hB
    have hg' := (hB1.cell (p := ⟨g, 0, none⟩) (cell_lt hg)).trans hg
    clear C hB hg
    go_wp2
    go_ret
    exact ⟨by simp, hB1⟩

set_option maxHeartbeats 1000000 in
theorem indexValid_any (L : List (Option Addr × Nat × Nat)) (R : List Bool) (g cap B : Nat) (w : World) (hl : L.length ≤ 1000) (hR : R.length = L.length) (h : ∀ i (hi : i < L.length), w.cell? ⟨g, i, none⟩ = some (slV L[i]))
    (C : ∀ i (hi : i < L.length) (hi2 : i < R.length) w', Below w.heap.size w w' → Gives Try.prog 49 #[slV L[i], .pointer (some ⟨B, 0, none⟩)] w' (.bool R[i])) :
    Calls Try.prog 58 #[.slice (some ⟨g, 0, none⟩) L.length cap, .func (.func 49) #[] #[.pointer (some ⟨B, 0, none⟩)]] w fun e w' => (∃ r : Int, e = .returned (.int .i64 r) ∧ decide (0 ≤ r) = R.any id) ∧ Below w.heap.size w w' := by
  have HR := Lib.hid hR
  have HC := Lib.hid C
  clear hR C
  go_enter Try.func58, Try.ntmps58
  go_wp2
  go_loopw [8] (fun i wr => ∃ j : Nat, j ≤ L.length ∧ i = .int .i64 j ∧ (R.take j).any id = false ∧ Below w.heap.size w wr) (fun i _ => L.length - (intOf i).toNat)
  case atStart => exact ⟨0, Nat.zero_le _, rfl, by simp, Below.refl _ _⟩
  case round =>
    obtain ⟨j, hj, rfl, hA, hB⟩ := hrel
    by_cases hlt : j < L.length
    · have hc0 := h j hlt
      have hc := (hB.cell (p := ⟨g, j, none⟩) (cell_lt hc0)).trans hc0
      have hlt2 : j < R.length := by have := HR.out; omega
      have hs : R.take (j + 1) = R.take j ++ [R[j]] := List.take_succ_eq_append_getElem hlt2
      have HN := Lib.hid (show R[j] ∈ R from List.getElem_mem hlt2)
      have HS := Lib.hid (show (R.take (j + 1)).any id = R[j] by rw [hs, List.any_append, hA]; simp)
      have C := HC.out j hlt hlt2 wr hB
      generalize L[j] = x at *
      generalize R[j] = rj at *
      clear hs hc0 hlt2
      cases rj with
      | true =>
        have HV := Lib.hid (show R.any id = true from List.any_eq_true.2 ⟨_, HN.out, rfl⟩)
        clear HS HN
        go_wp2_with fail
        refine C.mono ?_
        intro w2 hB2
        go_wp2
        go_ret
        exact ⟨⟨_, rfl, by rw [HV.out]; simp⟩, hB.trans (hB2.mono hB.size)⟩
      | false =>
        clear HN
        go_wp2_with fail
        refine C.mono ?_
        intro w2 hB2
        go_wp2
        go_roundw
        case rel => exact ⟨j + 1, by omega, by go_num, HS.out, hB.trans (hB2.mono hB.size)⟩
        case measure => simp [intOf]; omega
    · have hk : R.take j = R := List.take_of_length_le (by have := HR.out; omega)
      rw [hk] at hA
      have HA := Lib.hid hA
      clear hA
      go_wp2
      go_ret
      exact ⟨⟨_, rfl, by rw [HA.out]; simp⟩, hB⟩

def okB (l m n : List Int) : Bool := !(((chk l != 0 || ((l.length : Int) != (l.length : Int))) || (chk m != 0 || ((m.length : Int) != (l.length : Int)))) || (chk n != 0 || ((n.length : Int) != (l.length : Int))))

theorem valid3_any (l m n : List Int) (a b d : Option Addr) (ca cb cd : Nat) (w : World) (t : TypeId) (hl : l.length ≤ 34) (hm : m.length ≤ 34) (hn : n.length ≤ 34) (h1 : IntsAt w a l) (h2 : IntsAt w b m) (h3 : IntsAt w d n) :
    Gives Try.prog 19 #[.slice (some ⟨w.heap.size, 0, none⟩) 3 3] (w.alloc (.cells #[.slice a l.length ca, .slice b m.length cb, .slice d n.length cd] t)) (.bool (okB l m n)) := by
  have k1 : (w.alloc (.cells #[.slice a l.length ca, .slice b m.length cb, .slice d n.length cd] t)).cell? ⟨w.heap.size, 0, none⟩ = some (.slice a l.length ca) := cell_of (alloc_here _ _) rfl
  have k2 : (w.alloc (.cells #[.slice a l.length ca, .slice b m.length cb, .slice d n.length cd] t)).cell? ⟨w.heap.size, 1, none⟩ = some (.slice b m.length cb) := cell_of (alloc_here _ _) rfl
  have k3 : (w.alloc (.cells #[.slice a l.length ca, .slice b m.length cb, .slice d n.length cd] t)).cell? ⟨w.heap.size, 2, none⟩ = some (.slice d n.length cd) := cell_of (alloc_here _ _) rfl
  have h1 := ints_alloc h1 (.cells #[.slice a l.length ca, .slice b m.length cb, .slice d n.length cd] t)
  have h2 := ints_alloc h2 (.cells #[.slice a l.length ca, .slice b m.length cb, .slice d n.length cd] t)
  have h3 := ints_alloc h3 (.cells #[.slice a l.length ca, .slice b m.length cb, .slice d n.length cd] t)
  generalize w.alloc (.cells #[.slice a l.length ca, .slice b m.length cb, .slice d n.length cd] t) = w1 at *
  generalize w.heap.size = g at *
  have hX : Below w1.heap.size w1 (w1.alloc (.cells #[.slice (some ⟨g, 0, none⟩) 3 3] 40)) := (Below.refl _ _).alloc (Nat.le_refl _) _
  have hb0 : (w1.alloc (.cells #[.slice (some ⟨g, 0, none⟩) 3 3] 40)).cell? ⟨w1.heap.size, 0, none⟩ = some (.slice (some ⟨g, 0, none⟩) 3 3) := cell_of (alloc_here _ _) rfl
  have C := indexValid_any [(a, l.length, ca), (b, m.length, cb), (d, n.length, cd)] [(chk l != 0 || ((l.length : Int) != (l.length : Int))), (chk m != 0 || ((m.length : Int) != (l.length : Int))), (chk n != 0 || ((n.length : Int) != (l.length : Int)))] g 3 w1.heap.size
    (w1.alloc (.cells #[.slice (some ⟨g, 0, none⟩) 3 3] 40)) (by simp) rfl
    (fun i hi => by
      match i, hi with
      | 0, _ => exact (hX.cell (p := ⟨g, 0, none⟩) (cell_lt k1)).trans k1
      | 1, _ => exact (hX.cell (p := ⟨g, 1, none⟩) (cell_lt k2)).trans k2
      | 2, _ => exact (hX.cell (p := ⟨g, 2, none⟩) (cell_lt k3)).trans k3)
    (fun i hi hi2 w' hB => by
      have hc := (hB.cell (p := ⟨w1.heap.size, 0, none⟩) (cell_lt hb0)).trans hb0
      have hB2 : Below w1.heap.size w1 w' := Ext.trans hX hB
      have hk := (hB2.cell (p := ⟨g, 0, none⟩) (cell_lt k1)).trans k1
      match i, hi, hi2 with
      | 0, _, _ => exact valid1_any l l a a ca ca w1.heap.size g w' hl hl (h1.below hB2) hc hk
      | 1, _, _ => exact valid1_any m l b a cb ca w1.heap.size g w' hm hl (h2.below hB2) hc hk
      | 2, _, _ => exact valid1_any n l d a cd ca w1.heap.size g w' hn hl (h3.below hB2) hc hk)
  have HV := Lib.hid (show okB l m n = !([(chk l != 0 || ((l.length : Int) != (l.length : Int))), (chk m != 0 || ((m.length : Int) != (l.length : Int))), (chk n != 0 || ((n.length : Int) != (l.length : Int)))].any id) by simp [okB, Bool.or_assoc])
  generalize ([(chk l != 0 || ((l.length : Int) != (l.length : Int))), (chk m != 0 || ((m.length : Int) != (l.length : Int))), (chk n != 0 || ((n.length : Int) != (l.length : Int)))].any id) = r at *
  clear h1 h2 h3 k1 k2 k3
  have C2 : Gives Try.prog 39 #[.slice (some ⟨g, 0, none⟩) 3 3, .func (.func 49) #[] #[.pointer (some ⟨w1.heap.size, 0, none⟩)]] (w1.alloc (.cells #[.slice (some ⟨g, 0, none⟩) 3 3] 40)) (.bool r) := by
    unfold Gives
    clear hX hb0 HV
    generalize (w1.alloc (.cells #[.slice (some ⟨g, 0, none⟩) 3 3] 40)) = w2 at *
    go_enter Try.func39, Try.ntmps39
    go_wp2_with fail
    refine C.mono ?_
    rintro e w3 ⟨⟨r', rfl, hr⟩, hB⟩
    have HR := Lib.hid hr
    clear hr
    go_wp2
    go_ret
    exact ⟨by rw [← HR.out]; rfl, hB⟩
  clear C
  unfold Gives
  go_enter Try.func19, Try.ntmps19
  go_wp2_with fail
  refine C2.mono ?_
  intro w3 hB
  go_wp2
  go_ret
  exact ⟨by rw [HV.out]; rfl, Ext.trans hX hB⟩

theorem great3 (a b d : Option Addr) (n m k c c' c'' : Nat) (w : World) (t : TypeId) :
    Gives Try.prog 10 #[.slice (some ⟨w.heap.size, 0, none⟩) 3 3] (w.alloc (.cells #[.slice a n c, .slice b m c', .slice d k c''] t)) (.bool (longB (a, n, c) || longB (b, m, c') || longB (d, k, c''))) := by
  have := great_any [(a, n, c), (b, m, c'), (d, k, c'')] w.heap.size 3 (w.alloc (.cells #[.slice a n c, .slice b m c', .slice d k c''] t)) (by simp) (fun i hi => by
    match i, hi with
    | 0, _ => exact cell_of (alloc_here _ _) rfl
    | 1, _ => exact cell_of (alloc_here _ _) rfl
    | 2, _ => exact cell_of (alloc_here _ _) rfl)
  rw [show ([(a, n, c), (b, m, c'), (d, k, c'')] : List (Option Addr × Nat × Nat)).any longB = (longB (a, n, c) || longB (b, m, c') || longB (d, k, c'')) by simp [Bool.or_assoc]] at this
  exact this

end Go.Proofs.Ytaplbcmpjhdohaa
