/- Clocks: Covers, Tick at the limit, valid and great of one clock. -/
import Derived.Test.YtaplbcmpjhdohaaVc7
namespace Go.Proofs.Ytaplbcmpjhdohaa
open Go.RowKit
set_option linter.unusedVariables false

theorem validOne_any (l l0 : List Int) (a a0 : Option Addr) (c c0 B g : Nat) (w : World) (hl : l.length ≤ 34) (h0l : l0.length ≤ 34) (h : IntsAt w a l) (hB : w.cell? ⟨B, 0, none⟩ = some (.slice (some ⟨g, 0, none⟩) 1 1)) (hg : w.cell? ⟨g, 0, none⟩ = some (.slice a0 l0.length c0)) :
    Gives Try.prog 49 #[.slice a l.length c, .pointer (some ⟨B, 0, none⟩)] w (.bool (chk l != 0 || ((l.length : Int) != (l0.length : Int)))) := by
  have C := refCheck_any l a c w (by unfold maxLen; omega) h
  unfold Gives
  cases q : (chk l != 0) with
  | true =>
    have q2 := q
    generalize chk l = k at *
    clear h
    go_enter Try.func49, Try.ntmps49
    go_wp2_with fail
    refine C.mono ?_
    intro w1 hB1
    clear C
    go_wp2
    go_ret
    exact ⟨rfl, hB1⟩
  | false =>
    generalize chk l = k at *
    clear h
    go_enter Try.func49, Try.ntmps49
    go_wp2_with fail
    refine C.mono ?_
    intro w1 hB1
    have hB' := (hB1.cell (p := ⟨B, 0, none⟩) (cell_lt hB)).trans hB
    have hg' := (hB1.cell (p := ⟨g, 0, none⟩) (cell_lt hg)).trans hg
    clear C hB hg
    go_wp2
    go_ret
    exact ⟨by simp, hB1⟩


theorem validS_any (l : List Int) (a : Option Addr) (ca : Nat) (w : World) (t : TypeId) (hl : l.length ≤ 34) (h1 : IntsAt w a l) :
    Gives Try.prog 19 #[.slice (some ⟨w.heap.size, 0, none⟩) 1 1] (w.alloc (.cells #[.slice a l.length ca] t)) (.bool (chk l == 0)) := by
  have k1 : (w.alloc (.cells #[.slice a l.length ca] t)).cell? ⟨w.heap.size, 0, none⟩ = some (.slice a l.length ca) := cell_of (alloc_here _ _) rfl
  have h1 := ints_alloc h1 (.cells #[.slice a l.length ca] t)
  generalize w.alloc (.cells #[.slice a l.length ca] t) = w1 at *
  generalize w.heap.size = g at *
  have hX : Below w1.heap.size w1 (w1.alloc (.cells #[.slice (some ⟨g, 0, none⟩) 1 1] 40)) := (Below.refl _ _).alloc (Nat.le_refl _) _
  have hb0 : (w1.alloc (.cells #[.slice (some ⟨g, 0, none⟩) 1 1] 40)).cell? ⟨w1.heap.size, 0, none⟩ = some (.slice (some ⟨g, 0, none⟩) 1 1) := cell_of (alloc_here _ _) rfl
  have C := indexValid_any [(a, l.length, ca)] [(chk l != 0 || ((l.length : Int) != (l.length : Int)))] g 1 w1.heap.size
    (w1.alloc (.cells #[.slice (some ⟨g, 0, none⟩) 1 1] 40)) (by simp) rfl
    (fun i hi => by
      match i, hi with
      | 0, _ => exact (hX.cell (p := ⟨g, 0, none⟩) (cell_lt k1)).trans k1)
    (fun i hi hi2 w' hB => by
      have hc := (hB.cell (p := ⟨w1.heap.size, 0, none⟩) (cell_lt hb0)).trans hb0
      have hB2 : Below w1.heap.size w1 w' := Ext.trans hX hB
      have hk := (hB2.cell (p := ⟨g, 0, none⟩) (cell_lt k1)).trans k1
      match i, hi, hi2 with
      | 0, _, _ => exact validOne_any l l a a ca ca w1.heap.size g w' hl hl (h1.below hB2) hc hk)
  have HV := Lib.hid (show (chk l == 0) = !([(chk l != 0 || ((l.length : Int) != (l.length : Int)))].any id) by cases q : (chk l == 0) <;> simp [bne, q])
  generalize ([(chk l != 0 || ((l.length : Int) != (l.length : Int)))].any id) = r at *
  clear h1 k1
  have C2 : Gives Try.prog 39 #[.slice (some ⟨g, 0, none⟩) 1 1, .func (.func 49) #[] #[.pointer (some ⟨w1.heap.size, 0, none⟩)]] (w1.alloc (.cells #[.slice (some ⟨g, 0, none⟩) 1 1] 40)) (.bool r) := by
    unfold Gives
    clear hX hb0 HV
    generalize (w1.alloc (.cells #[.slice (some ⟨g, 0, none⟩) 1 1] 40)) = w2 at *
    go_enter Try.func39, Try.ntmps39
    go_wp2_with fail
    refine C.mono ?_
    rintro e w3 ⟨⟨r', rfl, hr⟩, hB⟩
    have HR := Lib.hid hr
    clear hr
    go_wp2
    go_ret
    exact ⟨by rw [← HR.out]; rfl, hB⟩
  clear C
  unfold Gives
  go_enter Try.func19, Try.ntmps19
  go_wp2_with fail
  refine C2.mono ?_
  intro w3 hB
  go_wp2
  go_ret
  exact ⟨by rw [HV.out]; rfl, Ext.trans hX hB⟩

theorem greatS (a : Option Addr) (n c : Nat) (w : World) (t : TypeId) :
    Gives Try.prog 10 #[.slice (some ⟨w.heap.size, 0, none⟩) 1 1] (w.alloc (.cells #[.slice a n c] t)) (.bool (longB (a, n, c))) := by
  have := great_any [(a, n, c)] w.heap.size 1 (w.alloc (.cells #[.slice a n c] t)) (by simp) (fun i hi => by
    match i, hi with
    | 0, _ => exact cell_of (alloc_here _ _) rfl)
  rw [show ([(a, n, c)] : List (Option Addr × Nat × Nat)).any longB = longB (a, n, c) by simp] at this
  exact this

theorem Tick_lim (l : List Int) (i : Nat) (a : Option Addr) (c : Nat) (w : World) (hc : chk l = 0) (hi : i < l.length) (hx : l[i] = 1099511627776) (h : IntsAt w a l) :
    GivesL Try.prog 26 #[.slice a l.length c, .int .i64 i] w [] 14 := by
  have h32 := chk_len hc
  have V := valid_any l a c w (by unfold maxLen; omega) h
  rw [hc] at V
  obtain ⟨b, off, rfl, hcell⟩ := h.at hi
  have hne : (l[i] == 1099511627776) = true := by rw [beq_iff_eq]; exact hx
  clear hc hx
  generalize l[i] = x at *
  unfold GivesL
  go_enter Try.func26, Try.ntmps26
  go_wp2_with fail
  refine V.mono ?_
  intro w1 hB1
  have hcell := (hB1.cell (p := ⟨b, off + i, none⟩) (cell_lt hcell)).trans hcell
  have hE1 := Lib.hid hB1
  clear hB1 V h
  go_wp2
  go_ret2
  exact ⟨⟨_, _, rfl, IntsAt.nil⟩, hE1.out⟩

theorem Covers_main (l : List Int) (i : Nat) (n : Int) (a : Option Addr) (c : Nat) (w : World) (hc : chk l = 0) (hi : i < l.length) (h : IntsAt w a l) :
    Gives Try.prog 27 #[.slice a l.length c, .int .i64 i, .int .i64 n] w (.bool (decide (n ≤ l[i]))) := by
  have h32 := chk_len hc
  have V := valid_any l a c w (by unfold maxLen; omega) h
  rw [hc] at V
  obtain ⟨b, off, rfl, hcell⟩ := h.at hi
  clear hc
  generalize l[i] = x at *
  unfold Gives
  go_enter Try.func27, Try.ntmps27
  go_wp2_with fail
  refine V.mono ?_
  intro w1 hB1
  have hcell := (hB1.cell (p := ⟨b, off + i, none⟩) (cell_lt hcell)).trans hcell
  have hE1 := Lib.hid hB1
  clear hB1 V h
  go_wp2
  go_ret
  exact ⟨rfl, hE1.out⟩

theorem chk_bad {l : List Int} (hc : chk l = 0) : ∀ x ∈ l, 0 ≤ x ∧ x ≤ 1099511627776 := by
  have hany : l.any bad = false := by
    unfold chk at hc
    split at hc
    · simp at hc
    · split at hc
      · simp at hc
      · rename_i _ hq; simpa using hq
  rw [List.any_eq_false] at hany
  intro x hx
  have := hany x hx
  simp [bad] at this
  omega
theorem chk_set {l : List Int} (hc : chk l = 0) {i : Nat} (hi : i < l.length) (hx : l[i] ≠ 1099511627776) : chk (l.set i (l[i] + 1)) = 0 := by
  have h32 := chk_len hc
  have hb := chk_bad hc
  unfold chk
  rw [if_neg (by simp; omega), if_neg]
  intro h
  obtain ⟨y, hy, hby⟩ := List.any_eq_true.1 h
  rcases List.mem_or_eq_of_mem_set hy with h1 | h1
  · have := hb y h1
    simp [bad] at hby
    omega
  · have := hb l[i] (List.getElem_mem hi)
    subst h1
    simp [bad] at hby
    omega

end Go.Proofs.Ytaplbcmpjhdohaa
