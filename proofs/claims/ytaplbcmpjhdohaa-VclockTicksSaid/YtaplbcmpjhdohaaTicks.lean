/- VclockTicks: the walk. -/
import Derived.Test.YtaplbcmpjhdohaaVc8
import Derived.Test.YtaplbcmpjhdohaaLawOrder
namespace Go.Proofs.Ytaplbcmpjhdohaa
open Go.RowKit
set_option linter.unusedVariables false

theorem u8_bd' {n : Int} (h : (Lit.int .u8 n).wf = true) : 0 ≤ n ∧ n ≤ 255 := by
  simpa [Lit.wf, IntKind.min, IntKind.max, IntKind.signed, IntKind.bits] using h

set_option maxRecDepth 100000 in
set_option maxHeartbeats 4000000 in
theorem ticks_err (l : List Int) (t1 t2 p q : Nat) (a : Option Addr) (ca : Nat) (w : World) (hl : l.length ≤ 34) (hl0 : 0 < l.length) (b1 : t1 ≤ 255) (b2 : t2 ≤ 255) (hp : p = t1 % l.length) (hq : q = t2 % l.length) (hc : chk l = 0) (h : IntsAt w a l) (A B : List Int) (e f : Int)
    (T1 : ∀ w', Below w.heap.size w w' → GivesL Try.prog 26 #[.slice a l.length ca, .int .i64 p] w' A e)
    (T2 : ∀ w', Below w.heap.size w w' → GivesL Try.prog 26 #[.slice a l.length ca, .int .i64 q] w' B f)
    (he : (e = 14 ∧ f = 14) ∨ (e = 14 ∧ f = 0) ∨ (e = 0 ∧ f = 14)) :
    Gives Try.prog 6 #[.slice a l.length ca, .int .u8 t1, .int .u8 t2] w (.bool true) := by
  have hl1 : (((l.length : Nat) : Int) == 0) = false := by rw [beq_eq_false_iff_ne]; omega
  have hm1 : ((t1 : Nat) : Int).tmod ((l.length : Nat) : Int) = ((p : Nat) : Int) := by rw [Int.tmod_eq_emod_of_nonneg (by omega), hp]; omega
  have hm2 : ((t2 : Nat) : Int).tmod ((l.length : Nat) : Int) = ((q : Nat) : Int) := by rw [Int.tmod_eq_emod_of_nonneg (by omega), hq]; omega
  have hw1 := wrapi (x := (t1 : Int)) (by omega) (by omega)
  have hw2 := wrapi (x := (t2 : Int)) (by omega) (by omega)
  have G := greatS a l.length ca w 23
  rw [show longB (a, l.length, ca) = false by simp [longB]; omega] at G
  have V := Lib.hid (fun w' (hB : Below w.heap.size w w') => validS_any l a ca w' 23 hl (h.below hB))
  rw [show (chk l == 0) = true by simp [hc]] at V
  clear hp hq hc
  have T1 := Lib.hid T1
  have T2 := Lib.hid T2
  clear h
  unfold Gives
  go_enter Try.func6, Try.ntmps6
  go_wp2_with fail
  refine G.mono ?_
  intro w0 hB0
  have hE0 := Lib.hid (show Ext w w0 from Ext.trans (show Ext w (w.alloc (.cells #[.slice a l.length ca] 23)) from (Below.refl _ w).alloc (Nat.le_refl _) _) hB0)
  clear hB0 G
  go_wp2_with fail
  refine (V.out _ hE0.out).mono ?_
  intro w1 hB1
  have hE1 := Lib.hid (show Ext w w1 from Ext.trans hE0.out (Ext.trans (show Ext w0 (w0.alloc (.cells #[.slice a l.length ca] 23)) from (Below.refl _ w0).alloc (Nat.le_refl _) _) hB1))
  clear hE0 hB1 V
  go_wp2_with fail
  go_quiet (fail)
  go_wp2_with fail
  refine (T1.out _ (Ext.drewN' hE1.out)).mono ?_
  rintro e2 w2 ⟨⟨x1, c1, rfl, hX1⟩, hB2⟩
  have hE2 := Lib.hid (Ext.trans (Ext.drewN' hE1.out) hB2)
  have HX1 := Lib.hid hX1
  clear hE1 hB2 hX1 T1
  go_wp2_with fail
  refine (T2.out _ hE2.out).mono ?_
  rintro e3 w3 ⟨⟨x2, c2, rfl, hX2⟩, hB3⟩
  have hE3 := Lib.hid (Ext.trans hE2.out hB3)
  have HX1 := Lib.hid (HX1.out.below hB3)
  have HX2 := Lib.hid hX2
  clear hE2 hB3 hX2 T2
  rcases he with ⟨rfl, rfl⟩ | ⟨rfl, rfl⟩ | ⟨rfl, rfl⟩
  · go_wp2_with fail
    refine (awake_any _).mono ?_
    intro w9 hB9
    have hE9 := Lib.hid (Ext.trans hE3.out hB9)
    clear hE3 hB9
    go_wp2
    go_ret
    exact ⟨rfl, hE9.out⟩
  · go_wp2_with fail
    refine (awake_any _).mono ?_
    intro w9 hB9
    have hE9 := Lib.hid (Ext.trans hE3.out hB9)
    clear hE3 hB9
    go_wp2
    go_ret
    exact ⟨rfl, hE9.out⟩
  · go_wp2_with fail
    refine (awake_any _).mono ?_
    intro w9 hB9
    have hE9 := Lib.hid (Ext.trans hE3.out hB9)
    clear hE3 hB9
    go_wp2
    go_ret
    exact ⟨rfl, hE9.out⟩

set_option maxRecDepth 100000 in
set_option maxHeartbeats 8000000 in
theorem ticks_ok (l : List Int) (t1 t2 p q : Nat) (a : Option Addr) (ca : Nat) (w : World) (hl : l.length ≤ 34) (hl0 : 0 < l.length) (b1 : t1 ≤ 255) (b2 : t2 ≤ 255) (hp : p = t1 % l.length) (hq : q = t2 % l.length) (hc : chk l = 0) (h : IntsAt w a l) (A B X : List Int) (v g : Int) (hv : l[p]? = some v) (hv2 : 0 ≤ v ∧ v ≤ 1099511627776)
    (T1 : ∀ w', Below w.heap.size w w' → GivesL Try.prog 26 #[.slice a l.length ca, .int .i64 p] w' A 0)
    (T2 : ∀ w', Below w.heap.size w w' → GivesL Try.prog 26 #[.slice a l.length ca, .int .i64 q] w' B 0)
    (T3 : ∀ w' x c, IntsAt w' x A → GivesL Try.prog 26 #[.slice x A.length c, .int .i64 q] w' X g)
    (T4 : ∀ w' x c, IntsAt w' x B → GivesL Try.prog 26 #[.slice x B.length c, .int .i64 p] w' X g)
    (K : ∀ w' x c, Below w.heap.size w w' → IntsAt w' x A → Gives Try.prog 17 #[.slice a l.length ca, .slice x A.length c] w' (.int .i64 1))
    (C1 : ∀ w' x c, IntsAt w' x A → Gives Try.prog 27 #[.slice x A.length c, .int .i64 p, .int .i64 (v + 1)] w' (.bool true))
    (C2 : ∀ w', Below w.heap.size w w' → Gives Try.prog 27 #[.slice a l.length ca, .int .i64 p, .int .i64 (v + 1)] w' (.bool false))
    (hX34 : X.length ≤ 34) (hA34 : A.length ≤ 34) (hB34 : B.length ≤ 34) (hg : g = 0 ∨ (g = 14 ∧ p = q)) :
    Gives Try.prog 6 #[.slice a l.length ca, .int .u8 t1, .int .u8 t2] w (.bool true) := by
  have hpl : p < l.length := by rw [hp]; exact Nat.mod_lt _ hl0
  have hl1 : (((l.length : Nat) : Int) == 0) = false := by rw [beq_eq_false_iff_ne]; omega
  have hm1 : ((t1 : Nat) : Int).tmod ((l.length : Nat) : Int) = ((p : Nat) : Int) := by rw [Int.tmod_eq_emod_of_nonneg (by omega), hp]; omega
  have hm2 : ((t2 : Nat) : Int).tmod ((l.length : Nat) : Int) = ((q : Nat) : Int) := by rw [Int.tmod_eq_emod_of_nonneg (by omega), hq]; omega
  have hw1 := wrapi (x := (t1 : Int)) (by omega) (by omega)
  have hw2 := wrapi (x := (t2 : Int)) (by omega) (by omega)
  have G := greatS a l.length ca w 23
  rw [show longB (a, l.length, ca) = false by simp [longB]; omega] at G
  have V := Lib.hid (fun w' (hB : Below w.heap.size w w') => validS_any l a ca w' 23 hl (h.below hB))
  rw [show (chk l == 0) = true by simp [hc]] at V
  clear hp hq hc
  obtain ⟨b0, o0, ha, hcell⟩ := h.at hpl
  have HAA := Lib.hid ha
  clear ha
  rw [show l[p] = v by rw [List.getElem?_eq_getElem hpl] at hv; exact Option.some.inj hv] at hcell
  have hwv := wrapi (x := v + 1) (by omega) (by omega)
  have T1 := Lib.hid T1
  have T2 := Lib.hid T2
  have T3 := Lib.hid T3
  have T4 := Lib.hid T4
  have K := Lib.hid K
  have C1 := Lib.hid C1
  have C2 := Lib.hid C2
  have HG := Lib.hid hg
  clear h hv hg
  unfold Gives
  go_enter Try.func6, Try.ntmps6
  go_wp2_with fail
  refine G.mono ?_
  intro w0 hB0
  have hE0 := Lib.hid (show Ext w w0 from Ext.trans (show Ext w (w.alloc (.cells #[.slice a l.length ca] 23)) from (Below.refl _ w).alloc (Nat.le_refl _) _) hB0)
  clear hB0 G
  go_wp2_with fail
  refine (V.out _ hE0.out).mono ?_
  intro w1 hB1
  have hE1 := Lib.hid (show Ext w w1 from Ext.trans hE0.out (Ext.trans (show Ext w0 (w0.alloc (.cells #[.slice a l.length ca] 23)) from (Below.refl _ w0).alloc (Nat.le_refl _) _) hB1))
  clear hE0 hB1 V
  go_wp2_with fail
  go_quiet (fail)
  go_wp2_with fail
  refine (T1.out _ (Ext.drewN' hE1.out)).mono ?_
  rintro e2 w2 ⟨⟨x1, c1, rfl, hX1⟩, hB2⟩
  have hE2 := Lib.hid (Ext.trans (Ext.drewN' hE1.out) hB2)
  have HX1 := Lib.hid hX1
  clear hE1 hB2 hX1 T1
  go_wp2_with fail
  refine (T2.out _ hE2.out).mono ?_
  rintro e3 w3 ⟨⟨x2, c2, rfl, hX2⟩, hB3⟩
  have hE3 := Lib.hid (Ext.trans hE2.out hB3)
  have HX1 := Lib.hid (HX1.out.below hB3)
  have HX2 := Lib.hid hX2
  clear hE2 hB3 hX2 T2
  have ha := HAA.out
  subst ha
  have hcell := (hE3.out.cell (p := ⟨b0, o0 + p, none⟩) (cell_lt hcell)).trans hcell
  go_wp2_with fail
  refine (T3.out _ _ _ HX1.out).mono ?_
  rintro e4 w4 ⟨⟨x3, c3, rfl, hX3⟩, hB4⟩
  have hE4 := Lib.hid (Ext.trans hE3.out hB4)
  have HX1 := Lib.hid (HX1.out.below hB4)
  have HX2 := Lib.hid (HX2.out.below hB4)
  have HX3 := Lib.hid hX3
  have hcell := (hB4.cell (p := ⟨b0, o0 + p, none⟩) (cell_lt hcell)).trans hcell
  clear hE3 hB4 hX3 T3
  go_wp2_with fail
  refine (T4.out _ _ _ HX2.out).mono ?_
  rintro e5 w5 ⟨⟨x4, c4, rfl, hX4⟩, hB5⟩
  have hE5 := Lib.hid (Ext.trans hE4.out hB5)
  have HX1 := Lib.hid (HX1.out.below hB5)
  have HX3 := Lib.hid (HX3.out.below hB5)
  have HX4 := Lib.hid hX4
  have hcell := (hB5.cell (p := ⟨b0, o0 + p, none⟩) (cell_lt hcell)).trans hcell
  clear hE4 hB5 hX4 T4 HX2
  go_wp2_with fail
  refine (K.out _ _ _ hE5.out HX1.out).mono ?_
  intro w6 hB6
  have hE6 := Lib.hid (Ext.trans hE5.out hB6)
  have HX1 := Lib.hid (HX1.out.below hB6)
  have HX3 := Lib.hid (HX3.out.below hB6)
  have HX4 := Lib.hid (HX4.out.below hB6)
  have hcell := (hB6.cell (p := ⟨b0, o0 + p, none⟩) (cell_lt hcell)).trans hcell
  clear hE5 hB6 K
  go_wp2_with fail
  refine (C1.out _ _ _ HX1.out).mono ?_
  intro w7 hB7
  have hE7 := Lib.hid (Ext.trans hE6.out hB7)
  have HX3 := Lib.hid (HX3.out.below hB7)
  have HX4 := Lib.hid (HX4.out.below hB7)
  have hcell := (hB7.cell (p := ⟨b0, o0 + p, none⟩) (cell_lt hcell)).trans hcell
  clear hE6 hB7 C1 HX1
  go_wp2_with fail
  refine (C2.out _ hE7.out).mono ?_
  intro w8 hB8
  have hE8 := Lib.hid (Ext.trans hE7.out hB8)
  have HX3 := Lib.hid (HX3.out.below hB8)
  have HX4 := Lib.hid (HX4.out.below hB8)
  clear hE7 hB8 C2 hcell
  rcases HG.out with rfl | ⟨rfl, hpq⟩
  · have S := sameL X _ _ c3 c4 _ hX34 HX3.out HX4.out
    clear HG HX3 HX4
    cases hpq : (((p : Nat) : Int) == ((q : Nat) : Int)) with
    | true =>
      go_wp2_with fail
      refine S.mono ?_
      intro w10 hB10
      have hE10 := Lib.hid (Ext.trans hE8.out hB10)
      clear hE8 hB10 S
      go_wp2_with fail
      refine (awake_any _).mono ?_
      intro w9 hB9
      have hE9 := Lib.hid (Ext.trans hE10.out hB9)
      clear hE10 hB9
      go_wp2
      go_ret
      exact ⟨rfl, hE9.out⟩
    | false =>
      go_wp2_with fail
      refine S.mono ?_
      intro w10 hB10
      have hE10 := Lib.hid (Ext.trans hE8.out hB10)
      clear hE8 hB10 S
      go_wp2_with fail
      refine (awake_any _).mono ?_
      intro w9 hB9
      have hE9 := Lib.hid (Ext.trans hE10.out hB9)
      clear hE10 hB9
      go_wp2
      go_ret
      exact ⟨rfl, hE9.out⟩
  · have hpq : (((p : Nat) : Int) == ((q : Nat) : Int)) = true := by rw [beq_iff_eq]; omega
    clear HG HX3 HX4
    go_wp2_with fail
    refine (awake_any _).mono ?_
    intro w9 hB9
    have hE9 := Lib.hid (Ext.trans hE8.out hB9)
    clear hE8 hB9
    go_wp2
    go_ret
    exact ⟨rfl, hE9.out⟩

end Go.Proofs.Ytaplbcmpjhdohaa
