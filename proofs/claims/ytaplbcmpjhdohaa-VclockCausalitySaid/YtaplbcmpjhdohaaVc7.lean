/- Clocks: slices.Clone, Tick. -/
import Derived.Test.YtaplbcmpjhdohaaVc6
import Derived.Laws.Cover3
namespace Go.Proofs.Ytaplbcmpjhdohaa
open Go.RowKit
set_option linter.unusedVariables false

set_option maxRecDepth 100000 in
set_option maxHeartbeats 2000000 in
theorem Clone_any (l : List Int) (ad : Addr) (c : Nat) (w : World) (hl : l.length ≤ 34) (h : IntsAt w (some ad) l) :
    Calls Try.prog 51 #[.slice (some ad) l.length c] w fun e w' => (∃ g cp, e = .returned (.slice (some ⟨g, 0, none⟩) l.length cp) ∧ w'.ownsRow w.heap.size 3 1 (.slice (some ⟨g, 0, none⟩) l.length cp) l.length (l.map (Value.int .i64))) ∧ Below w.heap.size w w' := by
  obtain ⟨i0, hi, hz0, hz1, hz2⟩ := info_parts infoI
  have hA2 : ∀ j u, (l.map (Value.int .i64))[j]? = some u → (w.alloc (.cells #[] 3)).cell? (ad.add j) = some u := by
    intro j u hj
    have hjl : j < l.length := by
      have := (List.getElem?_eq_some_iff.1 hj).1
      simpa using this
    obtain ⟨b0, o0, e, hc⟩ := (h.below ((Below.refl _ w).alloc (Nat.le_refl _) (.cells #[] 3))) j hjl
    obtain rfl := Option.some.inj e
    rw [Addr.add_lit, hc, ← hj]
    simp [hjl]
  have hq : ∀ W, (binOp .eql 23 (.slice (some ad) l.length c) (.slice none 0 0)).run Try.prog W = .ok (.bool false) W := fun W => by
    simp only [binOp]
    simp [run_equal_slice_nil W 23 _ _ _ _ Try.underlying23]
  go_enter Try.func51, Try.ntmps51
  go_wp2_with (at_builtin; go_loud (refine wpList_append_own _ rfl _ _ 23 rfl w.heap.size 3 i0 (.int .i64 0) 1 8 Try.underlying23 hi hz0 hz1 hz2 rfl (by decide) _ 0 [] rfl (World.ownsRow_lit (base := w.heap.size) w #[] 0 (Nat.le_refl _) (by unfold maxLen; omega) (by simp)) ad l.length c (l.map (Value.int .i64)) rfl (by simp) hA2 (ints_oneCell .i64 l) (by unfold maxLen; omega) (by omega) (by simp) ?_); intro v' w3 hown hgrow hnil)
  go_wp2
  go_ret
  rw [Nat.zero_add, List.nil_append] at hown
  obtain ⟨g, cp, rfl⟩ : ∃ g cp, v' = .slice (some ⟨g, 0, none⟩) l.length cp := by
    rcases Go.Joins.ownsRow_forms hown with ⟨rfl, _⟩ | h
    · have h0 := (hnil.1 rfl).1
      cases h0
    · exact h
  exact ⟨⟨g, cp, rfl, hown⟩, ((Below.refl _ w).alloc (Nat.le_refl _) _).grown hgrow (by simp) (fun k e => by cases e; exact Nat.le_refl _)⟩

def tickL (l : List Int) (i : Int) : List Int := if chk l ≠ 0 then [] else if i < 0 ∨ (l.length : Int) ≤ i then [] else if l.getD i.toNat 0 = 1099511627776 then [] else l.set i.toNat (l.getD i.toNat 0 + 1)
def tickE (l : List Int) (i : Int) : Int := if chk l ≠ 0 then 1 else if i < 0 ∨ (l.length : Int) ≤ i then 2 else if l.getD i.toNat 0 = 1099511627776 then 14 else 0

set_option maxRecDepth 100000 in
set_option maxHeartbeats 2000000 in
theorem Tick_main (l : List Int) (i : Nat) (a : Option Addr) (c : Nat) (w : World) (hc : chk l = 0) (hi : i < l.length) (hx : l[i] ≠ 1099511627776) (h : IntsAt w a l) :
    GivesL Try.prog 26 #[.slice a l.length c, .int .i64 i] w (l.set i (l[i] + 1)) 0 := by
  have h32 := chk_len hc
  have V := valid_any l a c w (by unfold maxLen; omega) h
  rw [hc] at V
  obtain ⟨b, off, rfl, hcell⟩ := h.at hi
  have C := Lib.hid (fun w' (hB : Below w.heap.size w w') => Clone_any l ⟨b, off, none⟩ c w' (by omega) (h.below hB))
  have hb : -9223372036854775808 ≤ l[i] + 1 ∧ l[i] + 1 ≤ 9223372036854775807 := by
    have hm : bad l[i] = false := by
      have hany : l.any bad = false := by
        unfold chk at hc
        split at hc
        · simp at hc
        · split at hc
          · simp at hc
          · rename_i _ hq; simpa using hq
      rw [List.any_eq_false] at hany
      simpa using hany l[i] (List.getElem_mem hi)
    simp [bad] at hm
    omega
  have hw := wrapi hb.1 hb.2
  have hne : (l[i] == 1099511627776) = false := by rw [beq_eq_false_iff_ne]; exact hx
  have HS := Lib.hid (show ∀ wr : World, ∀ g cp, wr.ownsRow w.heap.size 3 1 (.slice (some ⟨g, 0, none⟩) l.length cp) l.length (l.map (Value.int .i64)) → wr.cell? ⟨g, i, none⟩ = some (.int .i64 l[i]) from fun wr g cp ho => by
    rw [ho.cellAt i (by omega)]; simp [hi])
  have HI := Lib.hid (show ∀ wr : World, ∀ g cp, wr.ownsRow w.heap.size 3 1 (.slice (some ⟨g, 0, none⟩) l.length cp) l.length (l.map (Value.int .i64)) → IntsAt (wr.setCell ⟨g, i, none⟩ (.int .i64 (l[i] + 1))) (some ⟨g, 0, none⟩) (l.set i (l[i] + 1)) from fun wr g cp ho j hj => by
    have hj' : j < l.length := by simpa using hj
    refine ⟨_, _, rfl, ?_⟩
    rw [Nat.zero_add, (ho.stored i _).1.cellAt j (by omega)]
    by_cases e : i = j
    · subst e; simp [hi]
    · rw [List.getElem?_set_ne e, List.getElem_set_ne e]; simp [hj'])
  have HL := Lib.hid (show (l.set i (l[i] + 1)).length = l.length by simp)
  clear hc hx hb
  generalize l.set i (l[i] + 1) = r at *
  generalize l[i] = x at *
  unfold GivesL
  go_enter Try.func26, Try.ntmps26
  go_wp2_with fail
  refine V.mono ?_
  intro w1 hB1
  have hcell := (hB1.cell (p := ⟨b, off + i, none⟩) (cell_lt hcell)).trans hcell
  have hE1 := Lib.hid hB1
  clear hB1 V h
  go_wp2_with fail
  refine (C.out _ hE1.out).mono ?_
  rintro e w2 ⟨⟨g, cp, rfl, hown⟩, hB2⟩
  have hown' : w2.ownsRow w.heap.size 3 1 (.slice (some ⟨g, 0, none⟩) l.length cp) l.length (l.map (Value.int .i64)) := Go.Joins.ownsRow_le hown hE1.out.size
  have hE2 := Lib.hid (Ext.trans hE1.out hB2)
  have hcg := HS.out w2 g cp hown'
  have hfz : w2.frozen? ⟨g, i, none⟩ = false := hown'.frozenAt i
  have HJ := Lib.hid (HI.out w2 g cp hown')
  have HG := Lib.hid (show w.heap.size ≤ g from (hown'.lt g rfl).1)
  clear hown hown' hB2 hE1 HS HI C hcell
  go_wp2
  go_ret2
  exact ⟨⟨_, _, by rw [HL.out]; rfl, HJ.out⟩, hE2.out.setCell (p := ⟨g, i, none⟩) HG.out _⟩

end Go.Proofs.Ytaplbcmpjhdohaa
