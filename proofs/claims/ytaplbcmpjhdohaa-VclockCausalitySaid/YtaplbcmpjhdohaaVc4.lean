/- Clocks: the reference's Join, Meet. -/
import Derived.Test.YtaplbcmpjhdohaaVc3
import Derived.Lib.SmallJoins
namespace Go.Proofs.Ytaplbcmpjhdohaa
open Go.RowKit
set_option linter.unusedVariables false

def pickB (g : Bool) (x y : Int) : Int := if (g == decide (x < y)) = true then y else x
theorem pickB_max : pickB true = max := by
  funext x y
  unfold pickB
  by_cases h : x < y <;> simp [h] <;> omega
theorem ownsRow_len {w : World} {base n : Nat} {e : TypeId} {v : Value} {xs : List Value} (h : w.ownsRow base e 1 v n xs) : xs.length = n := by
  have := h.1
  simpa using this

set_option maxHeartbeats 4000000 in
theorem refBoth_main (gr : Bool) (l m : List Int) (ad : Addr) (b : Option Addr) (cap cap' : Nat) (w : World) (q1 : chk l = 0) (q2 : chk m = 0) (q3 : l.length = m.length) (h : IntsAt w (some ad) l) (h' : IntsAt w b m) :
    GivesL Try.prog 43 #[.slice (some ad) l.length cap, .slice b m.length cap', .bool gr] w (List.zipWith (pickB gr) l m) 0 := by
  have h32 := chk_len q1
  have h33 := chk_len q2
  have C1 := Lib.hid (fun w' (hB : Below w.heap.size w w') => refCheck_any l (some ad) cap w' (by unfold maxLen; omega) (h.below hB))
  have C2 := Lib.hid (fun w' (hB : Below w.heap.size w w') => refCheck_any m b cap' w' (by unfold maxLen; omega) (h'.below hB))
  rw [q1] at C1
  rw [q2] at C2
  have hq : (((l.length : Nat) : Int) != ((m.length : Nat) : Int)) = false := by simp [q3]
  have HL := Lib.hid q3
  obtain ⟨i0, hi, hz0, hz1, hz2⟩ := info_parts infoI
  clear q1 q2 q3
  unfold GivesL
  go_enter Try.func43, Try.ntmps43
  go_wp2_with fail
  refine (C1.out _ (Below.refl _ _)).mono ?_
  intro w1 hB1
  go_wp2_with fail
  refine (C2.out _ hB1).mono ?_
  intro w2 hB2
  have hE2 := Ext.trans hB1 hB2
  clear hB1 hB2
  have hA2 : ∀ j u, (l.map (Value.int .i64))[j]? = some u → (w2.alloc (.cells #[] 3)).cell? (ad.add j) = some u := by
    intro j u hj
    have hjl : j < l.length := by
      have := (List.getElem?_eq_some_iff.1 hj).1
      simpa using this
    have hB : Below w.heap.size w (w2.alloc (.cells #[] 3)) := Below.alloc hE2 hE2.size _
    obtain ⟨b0, o0, e, hc⟩ := (h.below hB) j hjl
    obtain rfl := Option.some.inj e
    rw [Addr.add_lit, hc, ← hj]
    simp [hjl]
  go_wp2_with (at_builtin; go_loud (refine wpList_append_own _ rfl _ _ 23 rfl w.heap.size 3 i0 (.int .i64 0) 1 8 Try.underlying23 hi hz0 hz1 hz2 rfl (by decide) _ 0 [] rfl (World.ownsRow_lit (base := w.heap.size) w2 #[] 0 hE2.size (by unfold maxLen; omega) (by simp)) ad l.length cap (l.map (Value.int .i64)) rfl (by simp) hA2 (ints_oneCell .i64 l) (by unfold maxLen; omega) (by omega) (by have := hE2.size; simp; omega) ?_); intro v' w3 hown hgrow hnil)
  rw [Nat.zero_add, List.nil_append] at hown
  have hB3 : Below w.heap.size w w3 := (hE2.alloc hE2.size _).grown hgrow (by have := hE2.size; simp; omega) (fun k e => by cases e; exact hE2.size)
  obtain ⟨g, cp, rfl⟩ : ∃ g cp, v' = .slice (some ⟨g, 0, none⟩) l.length cp := by
    rcases Go.Joins.ownsRow_forms hown with ⟨rfl, _⟩ | h
    · have h0 := (hnil.1 rfl).1
      cases h0
    · exact h
  clear hnil hgrow hA2 hE2 C1 C2 hi hz0 hz1 hz2 h32
  have HO := Lib.hid hown
  have HB3 := Lib.hid hB3
  clear hown hB3
  go_loopw [9] (fun i wr => ∃ (j : Nat) (xs : List Value), j ≤ m.length ∧ i = .int .i64 j ∧ (∀ i (h1 : i < l.length) (h2 : i < m.length), xs[i]? = some (.int .i64 (if i < j then pickB gr l[i] m[i] else l[i]))) ∧ wr.ownsRow w.heap.size 3 1 (.slice (some ⟨g, 0, none⟩) l.length cp) l.length xs ∧ Below w.heap.size w wr) (fun i _ => m.length - (intOf i).toNat)
  case atStart => exact ⟨0, _, Nat.zero_le _, rfl, fun i h1 h2 => by simp [h1], HO.out, HB3.out⟩
  case round =>
    obtain ⟨j, xs, hj, rfl, hA, hO, hB⟩ := hrel
    have HA := Lib.hid hA
    have HW := Lib.hid hO
    clear hA hO
    by_cases hlt2 : j < m.length
    · have hlt : j < l.length := by have := HL.out; omega
      obtain ⟨b1, o1, e1, hc1⟩ := (h.below hB).at hlt
      obtain rfl := Option.some.inj e1
      obtain ⟨b2, o2, rfl, hc2⟩ := (h'.below hB).at hlt2
      have hxl : xs.length = l.length := ownsRow_len HW.out
      have hcg : wr.cell? ⟨g, j, none⟩ = some (.int .i64 l[j]) := by
        rw [HW.out.cellAt j (by omega), HA.out j hlt hlt2]
        simp
      have hfz : wr.frozen? ⟨g, j, none⟩ = false := HW.out.frozenAt j
      have HS := Lib.hid (fun u => HW.out.stored j u)
      have HG := Lib.hid (show ∀ k, (Value.slice (some ⟨g, 0, none⟩) l.length cp).ownBlock = some k → w.heap.size ≤ k ∧ k < wr.heap.size from HW.out.lt)
      have HX := Lib.hid (show ∀ u, u = Value.int .i64 (pickB gr l[j] m[j]) → ∀ i (h1 : i < l.length) (h2 : i < m.length), (xs.set j u)[i]? = some (.int .i64 (if i < j + 1 then pickB gr l[i] m[i] else l[i])) from fun u hu i h1 h2 => by
        subst hu
        by_cases e : j = i
        · subst e
          rw [List.getElem?_set_self (by omega)]
          simp
        · rw [List.getElem?_set_ne e, HA.out i h1 h2]
          by_cases h3 : i < j
          · rw [if_pos h3, if_pos (by omega)]
          · rw [if_neg h3, if_neg (by omega)])
      have HK := Lib.hid (show pickB gr l[j] m[j] = l[j] → ∀ i (h1 : i < l.length) (h2 : i < m.length), xs[i]? = some (.int .i64 (if i < j + 1 then pickB gr l[i] m[i] else l[i])) from fun hu i h1 h2 => by
        rw [HA.out i h1 h2]
        by_cases e : j = i
        · subst e
          rw [if_neg (by omega), if_pos (by omega), hu]
        · by_cases h3 : i < j
          · rw [if_pos h3, if_pos (by omega)]
          · rw [if_neg h3, if_neg (by omega)])
      generalize l[j] = x at *
      generalize m[j] = y at *
      cases hp : (gr == decide (x < y)) with
      | true =>
        have hu := Lib.hid (show pickB gr x y = y by unfold pickB; rw [if_pos hp])
        go_wp2
        go_quiet (fail)
        go_wp2
        go_roundw
        case rel =>
          obtain ⟨s1, s2⟩ := HS.out (.int .i64 y)
          exact ⟨j + 1, _, by omega, by go_num, HX.out _ (by rw [hu.out]), s1, Ext.drewN' (hB.setCell (p := ⟨g, j, none⟩) (HG.out g rfl).1 _)⟩
        case measure => simp [intOf]; omega
      | false =>
        have hu := Lib.hid (show pickB gr x y = x by unfold pickB; rw [if_neg (by simp [hp])])
        go_wp2
        go_quiet (fail)
        go_wp2
        go_roundw
        case rel => exact ⟨j + 1, _, by omega, by go_num, HK.out hu.out, HW.out, Ext.drewN' hB⟩
        case measure => simp [intOf]; omega
    · have HZ := Lib.hid (show (List.zipWith (pickB gr) l m).length = l.length by rw [List.length_zipWith]; have := HL.out; omega)
      have HI := Lib.hid (show IntsAt wr (some ⟨g, 0, none⟩) (List.zipWith (pickB gr) l m) from fun i hi => by
        have h1 : i < l.length := by rw [HZ.out] at hi; exact hi
        have h2 : i < m.length := by have := HL.out; omega
        refine ⟨_, _, rfl, ?_⟩
        rw [List.getElem_zipWith, Nat.zero_add, HW.out.cellAt i (by omega), HA.out i h1 h2, if_pos (by omega)])
      go_wp2
      go_ret2
      exact ⟨⟨_, _, by rw [HZ.out]; rfl, HI.out⟩, hB⟩

set_option maxHeartbeats 2000000 in
theorem refBoth_any (gr : Bool) (l m : List Int) (a b : Option Addr) (cap cap' : Nat) (w : World) (hl : l.length ≤ maxLen) (hm : m.length ≤ maxLen) (ha : a = none → cap = 0) (h : IntsAt w a l) (h' : IntsAt w b m) :
    GivesL Try.prog 43 #[.slice a l.length cap, .slice b m.length cap', .bool gr] w (bothV (pickB gr) l m) (bothE l m) := by
  have C1 := Lib.hid (fun w' (hB : Below w.heap.size w w') => refCheck_any l a cap w' hl (h.below hB))
  have C2 := Lib.hid (fun w' (hB : Below w.heap.size w w') => refCheck_any m b cap' w' hm (h'.below hB))
  by_cases q1 : chk l = 0
  · by_cases q2 : chk m = 0
    · by_cases q3 : l.length = m.length
      · rw [show bothV (pickB gr) l m = List.zipWith (pickB gr) l m by unfold bothV; rw [if_neg (by simp [q1, q2, q3])],
          show bothE l m = 0 by unfold bothE; rw [if_neg (by simp [q1, q2]), if_neg (by simp [q3])]]
        cases a with
        | some ad => exact refBoth_main gr l m ad b cap cap' w q1 q2 q3 h h'
        | none =>
          obtain rfl := ha rfl
          obtain rfl : l = [] := by
            cases l with
            | nil => rfl
            | cons x l => obtain ⟨_, _, e, _⟩ := h 0 (by simp); cases e
          obtain rfl : m = [] := List.eq_nil_of_length_eq_zero q3.symm
          rw [q1] at C1
          rw [q2] at C2
          clear h h' q1 q2
          unfold GivesL
          go_enter Try.func43, Try.ntmps43
          go_wp2_with fail
          refine (C1.out _ (Below.refl _ _)).mono ?_
          intro w1 hB1
          go_wp2_with fail
          refine (C2.out _ hB1).mono ?_
          intro w2 hB2
          have hE2 := Ext.trans hB1 hB2
          clear hB1 hB2
          go_wp2
          go_loopw [9] (fun i wr => i = .int .i64 0 ∧ Below w.heap.size w wr) (fun i _ => 0)
          case atStart => exact ⟨rfl, hE2.alloc hE2.size _⟩
          case round =>
            obtain ⟨rfl, hB⟩ := hrel
            go_wp2
            go_ret2
            exact ⟨⟨_, _, rfl, IntsAt.nil⟩, hB⟩
      · rw [show bothV (pickB gr) l m = [] by unfold bothV; rw [if_pos (by simp [q3])],
          show bothE l m = 10 by unfold bothE; rw [if_neg (by simp [q1, q2]), if_pos q3]]
        have hq : (((l.length : Nat) : Int) != ((m.length : Nat) : Int)) = true := by rw [bne_iff_ne]; omega
        rw [q1] at C1
        rw [q2] at C2
        clear h h' q1 q2
        unfold maxLen at hl hm
        unfold GivesL
        go_enter Try.func43, Try.ntmps43
        go_wp2_with fail
        refine (C1.out _ (Below.refl _ _)).mono ?_
        intro w1 hB1
        go_wp2_with fail
        refine (C2.out _ hB1).mono ?_
        intro w2 hB2
        have hE2 := Ext.trans hB1 hB2
        clear hB1 hB2
        go_wp2
        go_ret2
        exact ⟨⟨_, _, rfl, IntsAt.nil⟩, hE2.alloc hE2.size _⟩
    · rw [show bothV (pickB gr) l m = [] by unfold bothV; rw [if_pos (by simp [q2])],
        show bothE l m = 1 by unfold bothE; rw [if_pos (by simp [q2])]]
      rw [q1] at C1
      have hq2 : (chk m != 0) = true := by rw [bne_iff_ne]; exact q2
      clear h h' q1 q2
      unfold maxLen at hl hm
      unfold GivesL
      go_enter Try.func43, Try.ntmps43
      go_wp2_with fail
      refine (C1.out _ (Below.refl _ _)).mono ?_
      intro w1 hB1
      go_wp2_with fail
      refine (C2.out _ hB1).mono ?_
      intro w2 hB2
      have hE2 := Ext.trans hB1 hB2
      clear hB1 hB2
      go_wp2
      go_ret2
      exact ⟨⟨_, _, rfl, IntsAt.nil⟩, hE2.alloc hE2.size _⟩
  · rw [show bothV (pickB gr) l m = [] by unfold bothV; rw [if_pos (by simp [q1])],
      show bothE l m = 1 by unfold bothE; rw [if_pos (by simp [q1])]]
    have hq1 : (chk l != 0) = true := by rw [bne_iff_ne]; exact q1
    clear h h' q1
    unfold maxLen at hl hm
    unfold GivesL
    go_enter Try.func43, Try.ntmps43
    go_wp2_with fail
    refine (C1.out _ (Below.refl _ _)).mono ?_
    intro w1 hB1
    go_wp2
    go_ret2
    exact ⟨⟨_, _, rfl, IntsAt.nil⟩, Ext.trans hB1 ((Below.refl _ _).alloc (Nat.le_refl _) _)⟩

theorem pickB_min : pickB false = min := by
  funext x y
  unfold pickB
  by_cases h : x < y <;> simp [h] <;> omega

theorem refJoin_any (l m : List Int) (a b : Option Addr) (cap cap' : Nat) (w : World) (hl : l.length ≤ maxLen) (hm : m.length ≤ maxLen) (ha : a = none → cap = 0) (h : IntsAt w a l) (h' : IntsAt w b m) :
    GivesL Try.prog 13 #[.slice a l.length cap, .slice b m.length cap'] w (bothV max l m) (bothE l m) := by
  have C := refBoth_any true l m a b cap cap' w hl hm ha h h'
  rw [pickB_max] at C
  unfold GivesL at C ⊢
  generalize bothV max l m = r at *
  generalize bothE l m = er at *
  go_enter Try.func13, Try.ntmps13
  go_wp2_with fail
  refine C.mono ?_
  rintro e w1 ⟨⟨x, c, rfl, hI⟩, hB⟩
  go_wp2
  go_ret2
  exact ⟨⟨_, _, rfl, hI⟩, hB⟩
theorem refMeet_any (l m : List Int) (a b : Option Addr) (cap cap' : Nat) (w : World) (hl : l.length ≤ maxLen) (hm : m.length ≤ maxLen) (ha : a = none → cap = 0) (h : IntsAt w a l) (h' : IntsAt w b m) :
    GivesL Try.prog 15 #[.slice a l.length cap, .slice b m.length cap'] w (bothV min l m) (bothE l m) := by
  have C := refBoth_any false l m a b cap cap' w hl hm ha h h'
  rw [pickB_min] at C
  unfold GivesL at C ⊢
  generalize bothV min l m = r at *
  generalize bothE l m = er at *
  go_enter Try.func15, Try.ntmps15
  go_wp2_with fail
  refine C.mono ?_
  rintro e w1 ⟨⟨x, c, rfl, hI⟩, hB⟩
  go_wp2
  go_ret2
  exact ⟨⟨_, _, rfl, hI⟩, hB⟩

end Go.Proofs.Ytaplbcmpjhdohaa
