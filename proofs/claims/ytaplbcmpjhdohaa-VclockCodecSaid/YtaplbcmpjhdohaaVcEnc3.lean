/- Clocks: Tick and Covers in all cases, and the reference's. Printed in part out of XVc7. -/
import Derived.Test.YtaplbcmpjhdohaaVcEnc2
namespace Go.Proofs.Ytaplbcmpjhdohaa
open Go.RowKit
set_option linter.unusedVariables false
set_option linter.unusedSimpArgs false

set_option maxRecDepth 100000 in
set_option maxHeartbeats 2000000 in
theorem refTick_main (l : List Int) (i : Nat) (a : Option Addr) (c : Nat) (w : World) (hc : chk l = 0) (hi : i < l.length) (hx : l[i] ≠ 1099511627776) (h : IntsAt w a l) :
    GivesL Try.prog 36 #[.slice a l.length c, .int .i64 i] w (l.set i (l[i] + 1)) 0 := by
  have h32 := chk_len hc
  have V := refCheck_any l a c w (by unfold maxLen; omega) h
  rw [hc] at V
  obtain ⟨b, off, rfl, hcell⟩ := h.at hi
  have HC := Lib.hid h
  have hb : -9223372036854775808 ≤ l[i] + 1 ∧ l[i] + 1 ≤ 9223372036854775807 := by
    have hm : bad l[i] = false := by
      have hany : l.any bad = false := by
        unfold chk at hc
        split at hc
        · simp at hc
        · split at hc
          · simp at hc
          · rename_i _ hq; simpa using hq
      rw [List.any_eq_false] at hany
      simpa using hany l[i] (List.getElem_mem hi)
    simp [bad] at hm
    omega
  have hw := wrapi hb.1 hb.2
  have hne : (l[i] == 1099511627776) = false := by rw [beq_eq_false_iff_ne]; exact hx
  have HS := Lib.hid (show ∀ wr : World, ∀ g cp, wr.ownsRow w.heap.size 3 1 (.slice (some ⟨g, 0, none⟩) l.length cp) l.length (l.map (Value.int .i64)) → wr.cell? ⟨g, i, none⟩ = some (.int .i64 l[i]) from fun wr g cp ho => by
    rw [ho.cellAt i (by omega)]; simp [hi])
  have HI := Lib.hid (show ∀ wr : World, ∀ g cp, wr.ownsRow w.heap.size 3 1 (.slice (some ⟨g, 0, none⟩) l.length cp) l.length (l.map (Value.int .i64)) → IntsAt (wr.setCell ⟨g, i, none⟩ (.int .i64 (l[i] + 1))) (some ⟨g, 0, none⟩) (l.set i (l[i] + 1)) from fun wr g cp ho j hj => by
    have hj' : j < l.length := by simpa using hj
    refine ⟨_, _, rfl, ?_⟩
    rw [Nat.zero_add, (ho.stored i _).1.cellAt j (by omega)]
    by_cases e : i = j
    · subst e; simp [hi]
    · rw [List.getElem?_set_ne e, List.getElem_set_ne e]; simp [hj'])
  have HL := Lib.hid (show (l.set i (l[i] + 1)).length = l.length by simp)
  clear hc hx hb
  generalize l.set i (l[i] + 1) = r at *
  generalize l[i] = x at *
  obtain ⟨i0, hi0, hz0, hz1, hz2⟩ := info_parts infoI
  unfold GivesL
  go_enter Try.func36, Try.ntmps36
  go_wp2_with fail
  refine V.mono ?_
  intro w1 hB1
  have hcell := (hB1.cell (p := ⟨b, off + i, none⟩) (cell_lt hcell)).trans hcell
  have hE1 := Lib.hid hB1
  have hz := hB1.size
  have hA2 : ∀ j u, (l.map (Value.int .i64))[j]? = some u → (w1.alloc (.cells #[] 3)).cell? ((⟨b, off, none⟩ : Addr).add j) = some u := by
    intro j u hj
    have hjl : j < l.length := by
      have := (List.getElem?_eq_some_iff.1 hj).1
      simpa using this
    have hB : Below w.heap.size w (w1.alloc (.cells #[] 3)) := Below.alloc hB1 hB1.size _
    obtain ⟨b0, o0, e, hc⟩ := (HC.out.below hB) j hjl
    have e2 := Option.some.inj e
    injection e2 with e3 e4
    subst e3 e4
    rw [Addr.add_lit, hc, ← hj]
    simp [hjl]
  have HA2 := Lib.hid hA2
  clear hB1 V h hA2
  go_wp2_with (at_builtin; go_loud (refine wpList_append_own _ rfl _ _ 23 rfl w.heap.size 3 i0 (.int .i64 0) 1 8 Try.underlying23 hi0 hz0 hz1 hz2 rfl (by decide) _ 0 [] rfl (World.ownsRow_lit (base := w.heap.size) w1 #[] 0 hz (by unfold maxLen; omega) (by simp)) ⟨b, off, none⟩ l.length c (l.map (Value.int .i64)) rfl (by simp) HA2.out (ints_oneCell .i64 l) (by unfold maxLen; omega) (by omega) (by simp; omega) ?_); intro v' w2 hown hgrow hnil; rw [Nat.zero_add, List.nil_append] at hown; obtain ⟨g, cp, rfl⟩ := (show ∃ g cp, v' = .slice (some ⟨g, 0, none⟩) l.length cp from by { rcases Go.Joins.ownsRow_forms hown with ⟨rfl, h9⟩ | h; · { omega }; · { exact h } }); have hE2 := Lib.hid (show Below w.heap.size w w2 from (hE1.out.alloc hz _).grown hgrow (by simp; omega) (fun k e => by { cases e; exact hz })); have hcg := HS.out w2 g cp hown; have hfz : w2.frozen? ⟨g, i, none⟩ = false := hown.frozenAt i; have HJ := Lib.hid (HI.out w2 g cp hown); have HG := Lib.hid (show w.heap.size ≤ g from (hown.lt g rfl).1); clear hown hgrow hnil HA2 hcell hE1)
  go_wp2
  go_ret2
  exact ⟨⟨_, _, by rw [HL.out]; rfl, HJ.out⟩, hE2.out.setCell (p := ⟨g, i, none⟩) HG.out _⟩

theorem getD_at {l : List Int} {i : Nat} (h : i < l.length) : l.getD i 0 = l[i] := by simp [List.getD_eq_getElem?_getD, h]

set_option maxHeartbeats 2000000 in
theorem Tick_any (l : List Int) (i : Int) (a : Option Addr) (c : Nat) (w : World) (hl : l.length ≤ maxLen) (hi : (Lit.int .i64 i).wf = true) (h : IntsAt w a l) :
    GivesL Try.prog 26 #[.slice a l.length c, .int .i64 i] w (tickL l i) (tickE l i) := by
  obtain ⟨hi1, hi2⟩ := i64_bd hi
  clear hi
  by_cases hc : chk l = 0
  · have h32 := chk_len hc
    by_cases h0 : i < 0
    · rw [show tickL l i = [] by unfold tickL; rw [if_neg (by simp [hc]), if_pos (.inl h0)], show tickE l i = 2 by unfold tickE; rw [if_neg (by simp [hc]), if_pos (.inl h0)]]
      have V := valid_any l a c w hl h
      rw [show (chk l == 0) = true by simp [hc]] at V
      clear hc h
      unfold GivesL
      go_enter Try.func26, Try.ntmps26
      go_wp2_with fail
      refine V.mono ?_
      intro w1 hB1
      go_wp2
      go_ret2
      exact ⟨⟨_, _, rfl, IntsAt.nil⟩, hB1⟩
    · by_cases h1 : (l.length : Int) ≤ i
      · rw [show tickL l i = [] by unfold tickL; rw [if_neg (by simp [hc]), if_pos (.inr h1)], show tickE l i = 2 by unfold tickE; rw [if_neg (by simp [hc]), if_pos (.inr h1)]]
        have V := valid_any l a c w hl h
        rw [show (chk l == 0) = true by simp [hc]] at V
        clear hc h
        unfold GivesL
        go_enter Try.func26, Try.ntmps26
        go_wp2_with fail
        refine V.mono ?_
        intro w1 hB1
        go_wp2
        go_ret2
        exact ⟨⟨_, _, rfl, IntsAt.nil⟩, hB1⟩
      · obtain ⟨k, rfl⟩ := Int.eq_ofNat_of_zero_le (by omega : 0 ≤ i)
        have hk : k < l.length := by omega
        have e1 : tickL l (k : Int) = if l[k] = 1099511627776 then [] else l.set k (l[k] + 1) := by unfold tickL; rw [if_neg (by simp [hc]), if_neg (by omega)]; simp [getD_at hk, hk]
        have e2 : tickE l (k : Int) = if l[k] = 1099511627776 then 14 else 0 := by unfold tickE; rw [if_neg (by simp [hc]), if_neg (by omega)]; simp [getD_at hk, hk]
        rw [e1, e2]
        by_cases hx : l[k] = 1099511627776
        · rw [if_pos hx, if_pos hx]; exact Tick_lim l k a c w hc hk hx h
        · rw [if_neg hx, if_neg hx]; exact Tick_main l k a c w hc hk hx h
  · rw [show tickL l i = [] by unfold tickL; rw [if_pos hc], show tickE l i = 1 by unfold tickE; rw [if_pos hc]]
    have V := valid_any l a c w hl h
    rw [show (chk l == 0) = false by simp [hc]] at V
    clear hc h
    unfold maxLen at hl
    unfold GivesL
    go_enter Try.func26, Try.ntmps26
    go_wp2_with fail
    refine V.mono ?_
    intro w1 hB1
    go_wp2
    go_ret2
    exact ⟨⟨_, _, rfl, IntsAt.nil⟩, hB1⟩

theorem refTick_lim (l : List Int) (i : Nat) (a : Option Addr) (c : Nat) (w : World) (hc : chk l = 0) (hi : i < l.length) (hx : l[i] = 1099511627776) (h : IntsAt w a l) :
    GivesL Try.prog 36 #[.slice a l.length c, .int .i64 i] w [] 14 := by
  have h32 := chk_len hc
  have V := refCheck_any l a c w (by unfold maxLen; omega) h
  rw [hc] at V
  obtain ⟨b, off, rfl, hcell⟩ := h.at hi
  have hne : (l[i] == 1099511627776) = true := by rw [beq_iff_eq]; exact hx
  clear hc hx
  generalize l[i] = x at *
  unfold GivesL
  go_enter Try.func36, Try.ntmps36
  go_wp2_with fail
  refine V.mono ?_
  intro w1 hB1
  have hcell := (hB1.cell (p := ⟨b, off + i, none⟩) (cell_lt hcell)).trans hcell
  have hE1 := Lib.hid hB1
  clear hB1 V h
  go_wp2
  go_ret2
  exact ⟨⟨_, _, rfl, IntsAt.nil⟩, hE1.out.alloc hE1.out.size _⟩

set_option maxHeartbeats 2000000 in
theorem refTick_any (l : List Int) (i : Int) (a : Option Addr) (c : Nat) (w : World) (hl : l.length ≤ maxLen) (hi : (Lit.int .i64 i).wf = true) (h : IntsAt w a l) :
    GivesL Try.prog 36 #[.slice a l.length c, .int .i64 i] w (tickL l i) (tickE l i) := by
  obtain ⟨hi1, hi2⟩ := i64_bd hi
  clear hi
  by_cases hc : chk l = 0
  · have h32 := chk_len hc
    by_cases h0 : i < 0 ∨ (l.length : Int) ≤ i
    · rw [show tickL l i = [] by unfold tickL; rw [if_neg (by simp [hc]), if_pos h0], show tickE l i = 2 by unfold tickE; rw [if_neg (by simp [hc]), if_pos h0]]
      have V := refCheck_any l a c w hl h
      rw [hc] at V
      clear hc h
      unfold GivesL
      rcases h0 with h0 | h0
      · go_enter Try.func36, Try.ntmps36
        go_wp2_with fail
        refine V.mono ?_
        intro w1 hB1
        go_wp2
        go_ret2
        exact ⟨⟨_, _, rfl, IntsAt.nil⟩, Below.alloc hB1 hB1.size _⟩
      · go_enter Try.func36, Try.ntmps36
        go_wp2_with fail
        refine V.mono ?_
        intro w1 hB1
        go_wp2
        go_ret2
        exact ⟨⟨_, _, rfl, IntsAt.nil⟩, Below.alloc hB1 hB1.size _⟩
    · obtain ⟨k, rfl⟩ := Int.eq_ofNat_of_zero_le (by omega : 0 ≤ i)
      have hk : k < l.length := by omega
      have e1 : tickL l (k : Int) = if l[k] = 1099511627776 then [] else l.set k (l[k] + 1) := by unfold tickL; rw [if_neg (by simp [hc]), if_neg (by omega)]; simp [getD_at hk, hk]
      have e2 : tickE l (k : Int) = if l[k] = 1099511627776 then 14 else 0 := by unfold tickE; rw [if_neg (by simp [hc]), if_neg (by omega)]; simp [getD_at hk, hk]
      rw [e1, e2]
      by_cases hx : l[k] = 1099511627776
      · rw [if_pos hx, if_pos hx]; exact refTick_lim l k a c w hc hk hx h
      · rw [if_neg hx, if_neg hx]; exact refTick_main l k a c w hc hk hx h
  · rw [show tickL l i = [] by unfold tickL; rw [if_pos hc], show tickE l i = 1 by unfold tickE; rw [if_pos hc]]
    have V := refCheck_any l a c w hl h
    have hq : (chk l != 0) = true := by rw [bne_iff_ne]; exact hc
    clear hc h
    unfold maxLen at hl
    unfold GivesL
    go_enter Try.func36, Try.ntmps36
    go_wp2_with fail
    refine V.mono ?_
    intro w1 hB1
    go_wp2
    go_ret2
    exact ⟨⟨_, _, rfl, IntsAt.nil⟩, Below.alloc hB1 hB1.size _⟩

/-! Covers -/
def cvB (l : List Int) (i n : Int) : Bool := if chk l ≠ 0 then false else if i < 0 ∨ (l.length : Int) ≤ i then false else decide (n ≤ l.getD i.toNat 0)

set_option maxHeartbeats 2000000 in
theorem Covers_any (l : List Int) (i n : Int) (a : Option Addr) (c : Nat) (w : World) (hl : l.length ≤ maxLen) (hi : (Lit.int .i64 i).wf = true) (h : IntsAt w a l) :
    Gives Try.prog 27 #[.slice a l.length c, .int .i64 i, .int .i64 n] w (.bool (cvB l i n)) := by
  obtain ⟨hi1, hi2⟩ := i64_bd hi
  clear hi
  by_cases hc : chk l = 0
  · have h32 := chk_len hc
    by_cases h0 : i < 0 ∨ (l.length : Int) ≤ i
    · rw [show cvB l i n = false by unfold cvB; rw [if_neg (by simp [hc]), if_pos h0]]
      have V := valid_any l a c w hl h
      rw [show (chk l == 0) = true by simp [hc]] at V
      clear hc h
      unfold Gives
      rcases h0 with h0 | h0
      · have hd : decide (0 ≤ i) = false := by simp; omega
        go_enter Try.func27, Try.ntmps27
        go_wp2_with fail
        refine V.mono ?_
        intro w1 hB1
        go_wp2
        go_ret
        exact ⟨rfl, hB1⟩
      · by_cases h00 : 0 ≤ i
        · have hd : decide (i < (l.length : Int)) = false := by simp; omega
          go_enter Try.func27, Try.ntmps27
          go_wp2_with fail
          refine V.mono ?_
          intro w1 hB1
          go_wp2
          go_ret
          exact ⟨rfl, hB1⟩
        · have hd : decide (0 ≤ i) = false := by simp; omega
          go_enter Try.func27, Try.ntmps27
          go_wp2_with fail
          refine V.mono ?_
          intro w1 hB1
          go_wp2
          go_ret
          exact ⟨rfl, hB1⟩
    · obtain ⟨k, rfl⟩ := Int.eq_ofNat_of_zero_le (by omega : 0 ≤ i)
      have hk : k < l.length := by omega
      have e1 : cvB l (k : Int) n = decide (n ≤ l[k]) := by unfold cvB; rw [if_neg (by simp [hc]), if_neg (by omega)]; simp [getD_at hk, hk]
      rw [e1]
      exact Covers_main l k n a c w hc hk h
  · rw [show cvB l i n = false by unfold cvB; rw [if_pos hc]]
    have V := valid_any l a c w hl h
    rw [show (chk l == 0) = false by simp [hc]] at V
    clear hc h
    unfold maxLen at hl
    unfold Gives
    go_enter Try.func27, Try.ntmps27
    go_wp2_with fail
    refine V.mono ?_
    intro w1 hB1
    go_wp2
    go_ret
    exact ⟨rfl, hB1⟩

theorem refCovers_main (l : List Int) (i : Nat) (n : Int) (a : Option Addr) (c : Nat) (w : World) (hc : chk l = 0) (hi : i < l.length) (h : IntsAt w a l) :
    Gives Try.prog 35 #[.slice a l.length c, .int .i64 i, .int .i64 n] w (.bool (decide (n ≤ l[i]))) := by
  have h32 := chk_len hc
  have V := refCheck_any l a c w (by unfold maxLen; omega) h
  rw [hc] at V
  obtain ⟨b, off, rfl, hcell⟩ := h.at hi
  clear hc
  generalize l[i] = x at *
  unfold Gives
  go_enter Try.func35, Try.ntmps35
  go_wp2_with fail
  refine V.mono ?_
  intro w1 hB1
  have hcell := (hB1.cell (p := ⟨b, off + i, none⟩) (cell_lt hcell)).trans hcell
  have hE1 := Lib.hid hB1
  clear hB1 V h
  go_wp2
  go_ret
  exact ⟨rfl, hE1.out⟩


set_option maxHeartbeats 2000000 in
theorem refCovers_any (l : List Int) (i n : Int) (a : Option Addr) (c : Nat) (w : World) (hl : l.length ≤ maxLen) (hi : (Lit.int .i64 i).wf = true) (h : IntsAt w a l) :
    Gives Try.prog 35 #[.slice a l.length c, .int .i64 i, .int .i64 n] w (.bool (cvB l i n)) := by
  obtain ⟨hi1, hi2⟩ := i64_bd hi
  clear hi
  by_cases hc : chk l = 0
  · have h32 := chk_len hc
    by_cases h0 : i < 0 ∨ (l.length : Int) ≤ i
    · rw [show cvB l i n = false by unfold cvB; rw [if_neg (by simp [hc]), if_pos h0]]
      have V := refCheck_any l a c w hl h
      rw [hc] at V
      clear hc h
      unfold Gives
      rcases h0 with h0 | h0
      · have hd : decide (0 ≤ i) = false := by simp; omega
        go_enter Try.func35, Try.ntmps35
        go_wp2_with fail
        refine V.mono ?_
        intro w1 hB1
        go_wp2
        go_ret
        exact ⟨rfl, hB1⟩
      · by_cases h00 : 0 ≤ i
        · have hd : decide (i < (l.length : Int)) = false := by simp; omega
          go_enter Try.func35, Try.ntmps35
          go_wp2_with fail
          refine V.mono ?_
          intro w1 hB1
          go_wp2
          go_ret
          exact ⟨rfl, hB1⟩
        · have hd : decide (0 ≤ i) = false := by simp; omega
          go_enter Try.func35, Try.ntmps35
          go_wp2_with fail
          refine V.mono ?_
          intro w1 hB1
          go_wp2
          go_ret
          exact ⟨rfl, hB1⟩
    · obtain ⟨k, rfl⟩ := Int.eq_ofNat_of_zero_le (by omega : 0 ≤ i)
      have hk : k < l.length := by omega
      have e1 : cvB l (k : Int) n = decide (n ≤ l[k]) := by unfold cvB; rw [if_neg (by simp [hc]), if_neg (by omega)]; simp [getD_at hk, hk]
      rw [e1]
      exact refCovers_main l k n a c w hc hk h
  · rw [show cvB l i n = false by unfold cvB; rw [if_pos hc]]
    have V := refCheck_any l a c w hl h
    have hq : (chk l == 0) = false := by simp [hc]
    clear hc h
    unfold maxLen at hl
    unfold Gives
    go_enter Try.func35, Try.ntmps35
    go_wp2_with fail
    refine V.mono ?_
    intro w1 hB1
    go_wp2
    go_ret
    exact ⟨rfl, hB1⟩

end Go.Proofs.Ytaplbcmpjhdohaa
