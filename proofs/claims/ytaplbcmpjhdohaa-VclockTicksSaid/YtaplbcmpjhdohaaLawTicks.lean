/- VclockTicks: the law. -/
import Derived.Test.YtaplbcmpjhdohaaTicks
namespace Go.Proofs.Ytaplbcmpjhdohaa
open Go.RowKit
set_option linter.unusedVariables false

theorem leB_set (l : List Int) (p : Nat) (v : Int) (hp : p < l.length) (hv : l[p] = v) : leB l (l.set p (v + 1)) = true ∧ leB (l.set p (v + 1)) l = false := by
  constructor
  · rw [leB_iff]
    intro i hi
    simp only [List.getD_eq_getElem?_getD]
    by_cases e : p = i
    · subst e; simp [hi, hv]; omega
    · rw [List.getElem?_set_ne e]; exact Int.le_refl _
  · exact leB_false (j := p) (by simpa using hp) hp (by simp [hv]; omega)

theorem ticks_main (l : List Int) (t1 t2 : Nat) (a : Option Addr) (ca : Nat) (w : World) (hl : l.length ≤ 34) (hl0 : 0 < l.length) (b1 : t1 ≤ 255) (b2 : t2 ≤ 255) (hc : chk l = 0) (h : IntsAt w a l) :
    Gives Try.prog 6 #[.slice a l.length ca, .int .u8 t1, .int .u8 t2] w (.bool true) := by
  obtain ⟨p, hp⟩ : ∃ p, p = t1 % l.length := ⟨_, rfl⟩
  obtain ⟨q, hq⟩ : ∃ q, q = t2 % l.length := ⟨_, rfl⟩
  have hpl : p < l.length := by rw [hp]; exact Nat.mod_lt _ hl0
  have hql : q < l.length := by rw [hq]; exact Nat.mod_lt _ hl0
  by_cases x1 : l[p] = 1099511627776
  · have T1 := fun w' (hB : Below w.heap.size w w') => Tick_lim l p a ca w' hc hpl x1 (h.below hB)
    by_cases x2 : l[q] = 1099511627776
    · exact ticks_err l t1 t2 p q a ca w hl hl0 b1 b2 hp hq hc h _ _ _ _ T1 (fun w' hB => Tick_lim l q a ca w' hc hql x2 (h.below hB)) (.inl ⟨rfl, rfl⟩)
    · exact ticks_err l t1 t2 p q a ca w hl hl0 b1 b2 hp hq hc h _ _ _ _ T1 (fun w' hB => Tick_main l q a ca w' hc hql x2 (h.below hB)) (.inr (.inl ⟨rfl, rfl⟩))
  · have T1 := fun w' (hB : Below w.heap.size w w') => Tick_main l p a ca w' hc hpl x1 (h.below hB)
    by_cases x2 : l[q] = 1099511627776
    · exact ticks_err l t1 t2 p q a ca w hl hl0 b1 b2 hp hq hc h _ _ _ _ T1 (fun w' hB => Tick_lim l q a ca w' hc hql x2 (h.below hB)) (.inr (.inr ⟨rfl, rfl⟩))
    · have T2 := fun w' (hB : Below w.heap.size w w') => Tick_main l q a ca w' hc hql x2 (h.below hB)
      have hbd := chk_bad hc l[p] (List.getElem_mem hpl)
      have cA := chk_set hc hpl x1
      have cB := chk_set hc hql x2
      have lA : (l.set p (l[p] + 1)).length = l.length := by simp
      have lB : (l.set q (l[q] + 1)).length = l.length := by simp
      have K : ∀ w' x c, Below w.heap.size w w' → IntsAt w' x (l.set p (l[p] + 1)) → Gives Try.prog 17 #[.slice a l.length ca, .slice x (l.set p (l[p] + 1)).length c] w' (.int .i64 1) := fun w' x c hB hX => by
        have := Compare_any l (l.set p (l[p] + 1)) a x ca c w' (by unfold maxLen; omega) (by unfold maxLen; omega) (h.below hB) hX
        rw [(cmp_one hc cA lA.symm).2 (leB_set l p _ hpl rfl)] at this
        exact this
      have C1 : ∀ w' x c, IntsAt w' x (l.set p (l[p] + 1)) → Gives Try.prog 27 #[.slice x (l.set p (l[p] + 1)).length c, .int .i64 p, .int .i64 (l[p] + 1)] w' (.bool true) := fun w' x c hX => by
        have := Covers_main (l.set p (l[p] + 1)) p (l[p] + 1) x c w' cA (by omega) hX
        rw [show decide (l[p] + 1 ≤ (l.set p (l[p] + 1))[p]'(by omega)) = true by simp] at this
        exact this
      have C2 : ∀ w', Below w.heap.size w w' → Gives Try.prog 27 #[.slice a l.length ca, .int .i64 p, .int .i64 (l[p] + 1)] w' (.bool false) := fun w' hB => by
        have := Covers_main l p (l[p] + 1) a ca w' hc hpl (h.below hB)
        rw [show decide (l[p] + 1 ≤ l[p]) = false by simp; omega] at this
        exact this
      have hv : l[p]? = some l[p] := List.getElem?_eq_getElem hpl
      by_cases e : p = q
      · subst e
        have hAp : (l.set p (l[p] + 1))[p]'(by omega) = l[p] + 1 := by simp
        by_cases x3 : l[p] + 1 = 1099511627776
        · have T3 : ∀ w' x c, IntsAt w' x (l.set p (l[p] + 1)) → GivesL Try.prog 26 #[.slice x (l.set p (l[p] + 1)).length c, .int .i64 p] w' [] 14 := fun w' x c hX => Tick_lim _ p x c w' cA (by omega) (by rw [hAp]; exact x3) hX
          exact ticks_ok l t1 t2 p p a ca w hl hl0 b1 b2 hp hq hc h _ _ [] l[p] 14 hv hbd T1 T2 T3 T3 K C1 C2 (by simp) (by omega) (by omega) (.inr ⟨rfl, rfl⟩)
        · have T3 := fun w' x c (hX : IntsAt w' x (l.set p (l[p] + 1))) => Tick_main (l.set p (l[p] + 1)) p x c w' cA (by omega) (by rw [hAp]; exact x3) hX
          exact ticks_ok l t1 t2 p p a ca w hl hl0 b1 b2 hp hq hc h _ _ _ l[p] 0 hv hbd T1 T2 T3 T3 K C1 C2 (by simp; omega) (by omega) (by omega) (.inl rfl)
      · have hAq : (l.set p (l[p] + 1))[q]'(by omega) = l[q] := by rw [List.getElem_set_ne e]
        have hBp : (l.set q (l[q] + 1))[p]'(by omega) = l[p] := by rw [List.getElem_set_ne (Ne.symm e)]
        have T3 := fun w' x c (hX : IntsAt w' x (l.set p (l[p] + 1))) => Tick_main (l.set p (l[p] + 1)) q x c w' cA (by omega) (by rw [hAq]; exact x2) hX
        have T4 := fun w' x c (hX : IntsAt w' x (l.set q (l[q] + 1))) => Tick_main (l.set q (l[q] + 1)) p x c w' cB (by omega) (by rw [hBp]; exact x1) hX
        simp only [hAq] at T3
        simp only [hBp] at T4
        rw [show (l.set q (l[q] + 1)).set p (l[p] + 1) = (l.set p (l[p] + 1)).set q (l[q] + 1) from List.set_comm _ _ (Ne.symm e)] at T4
        exact ticks_ok l t1 t2 p q a ca w hl hl0 b1 b2 hp hq hc h _ _ _ l[p] 0 hv hbd T1 T2 T3 T4 K C1 C2 (by simp; omega) (by omega) (by omega) (.inl rfl)

set_option maxRecDepth 100000 in
set_option maxHeartbeats 4000000 in
theorem vclockTicks_walk (a0 : Option Addr) (len0 cap0 : Nat) (z0 : List Int) (a1 a2 : Int) (w : World) (w0 : IsRow .i64 w a0 len0 cap0 z0) (w1 : (Lit.int .u8 a1).wf = true) (w2 : (Lit.int .u8 a2).wf = true) :
    Gives Try.prog 6 #[.slice a0 len0 cap0, .int .u8 a1, .int .u8 a2] w (.bool true) := by
  obtain ⟨l, rfl, hl, h, _⟩ := w0.ints
  obtain ⟨g1, g2⟩ := u8_bd' w1
  obtain ⟨g3, g4⟩ := u8_bd' w2
  obtain ⟨t1, rfl⟩ := Int.eq_ofNat_of_zero_le g1
  obtain ⟨t2, rfl⟩ := Int.eq_ofNat_of_zero_le g3
  have G := greatS a0 l.length cap0 w 23
  by_cases h5 : l.length ≤ 34
  · have V := Lib.hid (fun w' (hB : Below w.heap.size w w') => validS_any l a0 cap0 w' 23 h5 (h.below hB))
    rw [show longB (a0, l.length, cap0) = false by simp [longB]; omega] at G
    by_cases hc : chk l = 0
    · by_cases hl0 : 0 < l.length
      · exact ticks_main l t1 t2 a0 cap0 w h5 hl0 (by omega) (by omega) hc h
      · have hl1 : (((l.length : Nat) : Int) == 0) = true := by rw [beq_iff_eq]; omega
        rw [show (chk l == 0) = true by simp [hc]] at V
        clear w0 w1 w2 h hc hl
        unfold Gives
        go_enter Try.func6, Try.ntmps6
        go_wp2_with fail
        refine G.mono ?_
        intro w0 hB0
        have hE0 := Lib.hid (show Ext w w0 from Ext.trans (show Ext w (w.alloc (.cells #[.slice a0 l.length cap0] 23)) from (Below.refl _ w).alloc (Nat.le_refl _) _) hB0)
        clear hB0 G
        go_wp2_with fail
        refine (V.out _ hE0.out).mono ?_
        intro w1 hB1
        have hE1 := Lib.hid (show Ext w w1 from Ext.trans hE0.out (Ext.trans (show Ext w0 (w0.alloc (.cells #[.slice a0 l.length cap0] 23)) from (Below.refl _ w0).alloc (Nat.le_refl _) _) hB1))
        clear hE0 hB1 V
        go_wp2_with fail
        refine (awake_any _).mono ?_
        intro w9 hB9
        have hE9 := Lib.hid (Ext.trans hE1.out hB9)
        clear hE1 hB9
        go_wp2
        go_ret
        exact ⟨rfl, hE9.out⟩
    · rw [show (chk l == 0) = false by simp [hc]] at V
      clear w0 w1 w2 h hc hl
      unfold Gives
      go_enter Try.func6, Try.ntmps6
      go_wp2_with fail
      refine G.mono ?_
      intro w0 hB0
      have hE0 := Lib.hid (show Ext w w0 from Ext.trans (show Ext w (w.alloc (.cells #[.slice a0 l.length cap0] 23)) from (Below.refl _ w).alloc (Nat.le_refl _) _) hB0)
      clear hB0 G
      go_wp2_with fail
      refine (V.out _ hE0.out).mono ?_
      intro w1 hB1
      have hE1 := Lib.hid (show Ext w w1 from Ext.trans hE0.out (Ext.trans (show Ext w0 (w0.alloc (.cells #[.slice a0 l.length cap0] 23)) from (Below.refl _ w0).alloc (Nat.le_refl _) _) hB1))
      clear hE0 hB1 V
      go_wp2_with fail
      refine (awake_any _).mono ?_
      intro w9 hB9
      have hE9 := Lib.hid (Ext.trans hE1.out hB9)
      clear hE1 hB9
      go_wp2
      go_ret
      exact ⟨rfl, hE9.out⟩
  · rw [show longB (a0, l.length, cap0) = true by simp [longB]; omega] at G
    clear w0 w1 w2 h hl h5
    unfold Gives
    go_enter Try.func6, Try.ntmps6
    go_wp2_with fail
    refine G.mono ?_
    intro w0 hB0
    have hE0 := Lib.hid (show Ext w w0 from Ext.trans (show Ext w (w.alloc (.cells #[.slice a0 l.length cap0] 23)) from (Below.refl _ w).alloc (Nat.le_refl _) _) hB0)
    clear hB0 G
    go_wp2_with fail
    refine (awake_any _).mono ?_
    intro w9 hB9
    have hE9 := Lib.hid (Ext.trans hE0.out hB9)
    clear hE0 hB9
    go_wp2
    go_ret
    exact ⟨rfl, hE9.out⟩

end Go.Proofs.Ytaplbcmpjhdohaa
