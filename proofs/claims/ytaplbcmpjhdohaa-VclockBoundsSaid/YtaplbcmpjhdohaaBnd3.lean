/- VclockBounds: Meet's closure, the row of errors, the contracts of the law's calls. Printed by mk_bnd.py. -/
import Derived.Test.YtaplbcmpjhdohaaBnd2
namespace Go.Proofs.Ytaplbcmpjhdohaa
open Go.RowKit
set_option linter.unusedVariables false
set_option linter.unusedSimpArgs false

set_option maxRecDepth 100000 in
set_option maxHeartbeats 2000000 in
theorem meet_more (l m : List Int) (a b : Option Addr) (c c' : Nat) (w W : World) (B k : Nat) (L : List (Option Addr × List Int)) (H : Bd w B k L W) (hk : k ≤ 1000) (q1 : chk l = 0) (q2 : chk m = 0) (q3 : l.length = m.length) (h1 : IntsAt W a l) (h2 : IntsAt W b m) :
    Calls Try.prog 21 #[.slice a l.length c, .slice b m.length c', .pointer (some ⟨B, 0, none⟩)] W fun e W' => ∃ x d, e = .returned (.slice x (List.zipWith min l m).length d) ∧ Bd w B (k + 1) ((x, List.zipWith min l m) :: L) W' := by
  have J := Meet_ok l m a b c c' W q1 q2 q3 h1 h2
  unfold GivesF at J
  obtain ⟨i0, hi, hz0, hz1, hz2⟩ := info_parts infoE
  obtain ⟨v, hB, ho, hL, hlow, hwB⟩ := H
  have hBlt := lt_of_block hB
  have hv := Lib.hid (show ∀ j, v.ownBlock = some j → B < j ∧ j < W.heap.size from fun j e => ho.lt j e)
  have HL := Lib.hid hL
  generalize List.zipWith min l m = r at *
  clear q1 q2 q3 h1 h2 hL
  go_enter Try.func21, Try.ntmps21
  go_wp2_with fail
  refine J.mono ?_
  rintro e W1 ⟨⟨x, d, rfl, hI, hF⟩, hE⟩
  have hB1 : W1.heap[B]? = some (.cells #[v] 31 (0, 0)) := by rw [hE.block B hBlt]; exact hB
  have ho1 := ownsRow_ext ho hE
  have hcell := cell_of_one hB1
  have hfz := free_of_one hB1
  have HI := Lib.hid hI
  have HF := Lib.hid hF
  have HE := Lib.hid hE
  have HB1 := Lib.hid hB1
  have hz := hE.size
  have hB1lt := lt_of_block hB1
  have HN := Lib.hid (show some B ≠ v.ownBlock from fun h => by have := (hv.out B h.symm).1; omega)
  clear hI hF hE hB1 ho hB
  go_wp2_with (at_builtin; go_loud (refine wpList_append_lies _ rfl _ _ 31 rfl (B + 1) 26 i0 (.int .i64 0) 1 8 Try.underlying31 hi hz0 hz1 hz2 rfl (by decide) v k (zeros k) rfl (ho1.alloc _) ⟨W1.heap.size, 0, none⟩ 1 1 [.int .i64 0] rfl rfl (cell_one_new _ _ _) (by simp [Value.oneCell']) (by omega) (by unfold maxLen; omega) (by omega) (by simp; omega) (W1.heap.size + 1) (by simp) ?_); intro g cap W2 hown hgrow hat hlt; have hcell2 : W2.cell? ⟨B, 0, none⟩ = some v := by { rw [hgrow.cell_far ⟨B, 0, none⟩ (by simp; omega) HN.out]; rw [World.cell?_of_block (Below.heap_alloc _ _ _ hB1lt)]; exact hcell }; have hfz2 : W2.frozen? ⟨B, 0, none⟩ = false := by { rw [hgrow.frozen_far ⟨B, 0, none⟩ (by simp; omega) HN.out]; rw [World.frozen?_of_block (Below.heap_alloc _ _ _ hB1lt)]; exact hfz })
  rw [zeros_succ] at hown
  go_ret
  refine ⟨_, _, rfl, Bd.more (W := W) HB1.out (fun p hp => ⟨(HL.out p hp).1.below HE.out, (HL.out p hp).2⟩) (Ext.trans hlow HE.out) hwB HI.out HF.out hBlt hv.out hown hgrow hat⟩


def errB (x : Int) : Bool := x != 0
theorem err1_any (x : Int) (w : World) : Gives Try.prog 24 #[.int .i64 x] w (.bool (errB x)) := by
  have HV := Lib.hid (show errB x = (x != 0) from rfl)
  unfold Gives
  go_enter Try.func24, Try.ntmps24
  go_wp2
  go_ret
  exact ⟨by rw [HV.out]; rfl, Below.refl _ _⟩

set_option maxHeartbeats 1000000 in
theorem indexErr_any (l : List Int) (a : Option Addr) (cap : Nat) (w : World) (hl : l.length ≤ maxLen) (h : IntsAt w a l) :
    Calls Try.prog 50 #[.slice a l.length cap, .func (.func 24) #[] #[]] w fun e w' => (∃ r : Int, e = .returned (.int .i64 r) ∧ decide (0 ≤ r) = l.any errB) ∧ Below w.heap.size w w' := by
  unfold maxLen at hl
  go_enter Try.func50, Try.ntmps50
  go_wp2
  go_loopw [8] (fun i wr => ∃ j : Nat, j ≤ l.length ∧ i = .int .i64 j ∧ (l.take j).any errB = false ∧ Below w.heap.size w wr) (fun i _ => l.length - (intOf i).toNat)
  case atStart => exact ⟨0, Nat.zero_le _, rfl, by simp, Below.refl _ _⟩
  case round =>
    obtain ⟨j, hj, rfl, hA, hB⟩ := hrel
    by_cases hlt : j < l.length
    · obtain ⟨b, off, rfl, hc⟩ := (h.below hB).at hlt
      have hs : l.take (j + 1) = l.take j ++ [l[j]] := List.take_succ_eq_append_getElem hlt
      have HN := Lib.hid (show l[j] ∈ l from List.getElem_mem hlt)
      have HS := Lib.hid (show (l.take (j + 1)).any errB = (errB l[j]) by rw [hs, List.any_append, hA]; simp)
      clear hs
      generalize l[j] = x at *
      have C := err1_any x
      cases hq : errB x with
      | true =>
        rw [hq] at C
        have HV := Lib.hid (show l.any errB = true from List.any_eq_true.2 ⟨x, HN.out, hq⟩)
        go_wp2_with fail
        refine (C _).mono ?_
        intro w2 hB2
        go_wp2
        go_ret
        exact ⟨⟨_, rfl, by rw [HV.out]; simp⟩, hB.trans (hB2.mono hB.size)⟩
      | false =>
        rw [hq] at C
        go_wp2_with fail
        refine (C _).mono ?_
        intro w2 hB2
        go_wp2
        go_roundw
        case rel => exact ⟨j + 1, by omega, by go_num, by rw [HS.out, hq], hB.trans (hB2.mono hB.size)⟩
        case measure => simp [intOf]; omega
    · have hk : l.take j = l := List.take_of_length_le (by omega)
      rw [hk] at hA
      have HA := Lib.hid hA
      clear hA
      go_wp2
      go_ret
      exact ⟨⟨_, rfl, by rw [HA.out]; simp⟩, hB⟩


theorem containsErr_any (l : List Int) (a : Option Addr) (cap : Nat) (w : World) (hl : l.length ≤ maxLen) (h : IntsAt w a l) :
    Gives Try.prog 23 #[.slice a l.length cap, .func (.func 24) #[] #[]] w (.bool (l.any errB)) := by
  unfold Gives
  have C := indexErr_any l a cap w hl h
  go_enter Try.func23, Try.ntmps23
  go_wp2_with fail
  refine C.mono ?_
  rintro e w1 ⟨⟨r, rfl, hr⟩, hB⟩
  have HR := Lib.hid hr
  clear hr
  go_wp2
  go_ret
  exact ⟨by rw [← HR.out]; rfl, hB⟩

theorem Bd.row {w W : World} {B k : Nat} {L : List (Option Addr × List Int)} (h : Bd w B (k + 1) L W) : ∃ a c, W.cell? ⟨B, 0, none⟩ = some (.slice a (k + 1) c) ∧ IntsAt W a (List.replicate (k + 1) 0) := by
  obtain ⟨v, h1, h2, h3, h4, h5⟩ := h
  obtain ⟨g, cap, rfl⟩ := Go.Joins.ownsRow_form h2 (by omega)
  refine ⟨_, _, cell_of_one h1, fun i hi => ⟨_, _, rfl, ?_⟩⟩
  have hi' : i < k + 1 := by simpa using hi
  rw [Nat.zero_add, h2.cellAt i (by omega)]
  simp [zeros, hi']

/-- a valid clock of N components -/
def OkL (N : Nat) (l : List Int) : Prop := chk l = 0 ∧ l.length = N

theorem joinR {N k : Nat} {l m r : List Int} {a b : Option Addr} {c c' : Nat} {w W : World} {B : Nat} {L : List (Option Addr × List Int)} (hl : OkL N l) (hm : OkL N m) (hr : List.zipWith max l m = r) (H : Bd w B k L W) (hk : k ≤ 1000) (h1 : (a, l) ∈ L) (h2 : (b, m) ∈ L) :
    Calls Try.prog 20 #[.slice a l.length c, .slice b m.length c', .pointer (some ⟨B, 0, none⟩)] W fun e W' => ∃ x d, e = .returned (.slice x r.length d) ∧ Bd w B (k + 1) ((x, r) :: L) W' := by
  subst hr
  exact join_more l m a b c c' w W B k L H hk hl.1 hm.1 (hl.2.trans hm.2.symm) (H.ints h1) (H.ints h2)
theorem meetR {N k : Nat} {l m r : List Int} {a b : Option Addr} {c c' : Nat} {w W : World} {B : Nat} {L : List (Option Addr × List Int)} (hl : OkL N l) (hm : OkL N m) (hr : List.zipWith min l m = r) (H : Bd w B k L W) (hk : k ≤ 1000) (h1 : (a, l) ∈ L) (h2 : (b, m) ∈ L) :
    Calls Try.prog 21 #[.slice a l.length c, .slice b m.length c', .pointer (some ⟨B, 0, none⟩)] W fun e W' => ∃ x d, e = .returned (.slice x r.length d) ∧ Bd w B (k + 1) ((x, r) :: L) W' := by
  subst hr
  exact meet_more l m a b c c' w W B k L H hk hl.1 hm.1 (hl.2.trans hm.2.symm) (H.ints h1) (H.ints h2)
theorem sameR {N k : Nat} {l : List Int} {a b : Option Addr} {c c' : Nat} {w W : World} {B : Nat} {L : List (Option Addr × List Int)} (hl : OkL N l) (H : Bd w B k L W) (h1 : (a, l) ∈ L) (h2 : (b, l) ∈ L) :
    Calls Try.prog 16 #[.slice a l.length c, .slice b l.length c'] W fun e W' => e = .returned (.bool true) ∧ Bd w B k L W' := by
  have hl' : l.length ≤ maxLen := by have := chk_len hl.1; unfold maxLen; omega
  have C := Same_any l l a b c c' W hl' hl' (H.ints h1) (H.ints h2)
  rw [show (l == l) = true by simp] at C
  exact C.mono fun w' hB => ⟨rfl, H.calm hB⟩
theorem leR {N k : Nat} {l m : List Int} {x : Bool} {a b : Option Addr} {c c' : Nat} {w W : World} {B : Nat} {L : List (Option Addr × List Int)} (hl : OkL N l) (hm : OkL N m) (hr : leB l m = x) (H : Bd w B k L W) (h1 : (a, l) ∈ L) (h2 : (b, m) ∈ L) :
    Calls Try.prog 22 #[.slice a l.length c, .slice b m.length c'] W fun e W' => e = .returned (.bool x) ∧ Bd w B k L W' := by
  subst hr
  exact (lawAtMost_any l m a b c c' W hl.1 hm.1 (hl.2.trans hm.2.symm) (H.ints h1) (H.ints h2)).mono fun w' hB => ⟨rfl, H.calm hB⟩
theorem errR {k : Nat} {a : Option Addr} {c : Nat} {w W : World} {B : Nat} {L : List (Option Addr × List Int)} (H : Bd w B k L W) (hk : k ≤ 1000) (h : IntsAt W a (List.replicate k 0)) :
    Calls Try.prog 23 #[.slice a k c, .func (.func 24) #[] #[]] W fun e W' => e = .returned (.bool false) ∧ Bd w B k L W' := by
  have C := containsErr_any (List.replicate k 0) a c W (by simp; unfold maxLen; omega) h
  rw [show (List.replicate k (0 : Int)).any errB = false by simp [errB]] at C
  simp only [List.length_replicate] at C
  exact C.mono fun w' hB => ⟨rfl, H.calm hB⟩

end Go.Proofs.Ytaplbcmpjhdohaa
