/- VclockBounds: the walk. Printed by mk_bnd.py. -/
import Derived.Test.YtaplbcmpjhdohaaBnd3
namespace Go.Proofs.Ytaplbcmpjhdohaa
open Go.RowKit
set_option linter.unusedVariables false
set_option linter.unusedSimpArgs false

/-- what the law's clocks are, and how they lie to each other -/
structure BF (N : Nat) (l m n up dn u3 bc d3 bd : List Int) (x1 x2 x3 y1 y2 y3 : Bool) : Prop where
  k_l : OkL N l
  k_m : OkL N m
  k_n : OkL N n
  k_up : OkL N up
  k_dn : OkL N dn
  k_u3 : OkL N u3
  k_bc : OkL N bc
  k_d3 : OkL N d3
  k_bd : OkL N bd
  j1 : List.zipWith max l m = up
  j2 : List.zipWith max m l = up
  j3 : List.zipWith max l l = l
  j4 : List.zipWith max up n = u3
  j5 : List.zipWith max m n = bc
  j6 : List.zipWith max l bc = u3
  j7 : List.zipWith max l dn = l
  m1 : List.zipWith min l m = dn
  m2 : List.zipWith min m l = dn
  m3 : List.zipWith min l l = l
  m4 : List.zipWith min dn n = d3
  m5 : List.zipWith min m n = bd
  m6 : List.zipWith min l bd = d3
  m7 : List.zipWith min l up = l
  a1 : leB l up = true
  a2 : leB m up = true
  a3 : leB dn l = true
  a4 : leB dn m = true
  k_x1 : leB l n = x1
  k_x2 : leB m n = x2
  k_x3 : leB up n = x3
  k_y1 : leB n l = y1
  k_y2 : leB n m = y2
  k_y3 : leB n dn = y3
  k_x : (x1 && x2) = true → x3 = true
  k_y : (y1 && y2) = true → y3 = true

theorem BF.of {l m n : List Int} (q1 : chk l = 0) (q2 : chk m = 0) (q3 : chk n = 0) (e1 : l.length = m.length) (e2 : m.length = n.length) :
    ∃ up dn u3 bc d3 bd x1 x2 x3 y1 y2 y3, BF l.length l m n up dn u3 bc d3 bd x1 x2 x3 y1 y2 y3 := by
  have mx : ∀ x y : Int, max x y = x ∨ max x y = y := fun x y => by omega
  have mn : ∀ x y : Int, min x y = x ∨ min x y = y := fun x y => by omega
  have ok : ∀ (op : Int → Int → Int), (∀ x y, op x y = x ∨ op x y = y) → ∀ a b : List Int, OkL l.length a → OkL l.length b → OkL l.length (List.zipWith op a b) := fun op h a b ha hb => ⟨chk_zw op h ha.1 hb.1, by simp [ha.2, hb.2]⟩
  have hl : OkL l.length l := ⟨q1, rfl⟩
  have hm : OkL l.length m := ⟨q2, e1.symm⟩
  have hn : OkL l.length n := ⟨q3, by omega⟩
  have hup := ok _ mx _ _ hl hm
  have hdn := ok _ mn _ _ hl hm
  have hbc := ok _ mx _ _ hm hn
  have hbd := ok _ mn _ _ hm hn
  refine ⟨_, _, _, _, _, _, _, _, _, _, _, _, hl, hm, hn, hup, hdn, ok _ mx _ _ hup hn, hbc, ok _ mn _ _ hdn hn, hbd, rfl, ?_, ?_, rfl, rfl, ?_, ?_, rfl, ?_, ?_, rfl, rfl, ?_, ?_, ?_, ?_, ?_, ?_, rfl, rfl, rfl, rfl, rfl, rfl, ?_, ?_⟩
  · exact zw_comm _ (fun x y => by omega) _ _
  · exact zw_self _ (fun x => by omega) _
  · exact (zw_assoc _ (fun x y z => by omega) _ _ _).symm
  · exact zw_absorb _ _ (fun x y => by omega) _ _ e1
  · exact zw_comm _ (fun x y => by omega) _ _
  · exact zw_self _ (fun x => by omega) _
  · exact (zw_assoc _ (fun x y z => by omega) _ _ _).symm
  · exact zw_absorb _ _ (fun x y => by omega) _ _ e1
  · exact leB_max e1
  · exact leB_max' e1
  · exact leB_min e1
  · exact leB_min' e1
  · intro h
    rw [Bool.and_eq_true] at h
    exact leB_lub e1 e2 h.1 h.2
  · intro h
    rw [Bool.and_eq_true] at h
    exact leB_glb e1 e2 h.1 h.2

set_option maxRecDepth 100000 in
set_option maxHeartbeats 16000000 in
theorem bounds_main (l m n up dn u3 bc d3 bd : List Int) (x1 x2 x3 y1 y2 y3 : Bool) (N : Nat) (F : BF N l m n up dn u3 bc d3 bd x1 x2 x3 y1 y2 y3) (a b d : Option Addr) (ca cb cd : Nat) (w : World) (hl : l.length ≤ 34) (hm : m.length ≤ 34) (hn : n.length ≤ 34) (h1 : IntsAt w a l) (h2 : IntsAt w b m) (h3 : IntsAt w d n)
    (ok : okB l m n = true) :
    Gives Try.prog 4 #[.slice a l.length ca, .slice b m.length cb, .slice d n.length cd] w (.bool true) := by
  have G := great3 a b d l.length m.length n.length ca cb cd w 23
  rw [show (longB (a, l.length, ca) || longB (b, m.length, cb) || longB (d, n.length, cd)) = false by simp [longB]; omega] at G
  have V := Lib.hid (fun w' (hB : Below w.heap.size w w') => valid3_any l m n a b d ca cb cd w' 23 hl hm hn (h1.below hB) (h2.below hB) (h3.below hB))
  rw [ok] at V
  have hF := Lib.hid F
  have I0 := Lib.hid (fun w' (hB : Below w.heap.size w w') => show Bd w w'.heap.size 0 [(a, l), (b, m), (d, n)] (w'.alloc (.cells #[.slice none 0 0] 31)) from by
    have hA := hB.alloc hB.size (.cells #[.slice none 0 0] 31)
    have hoff : ∀ {x : Option Addr} {r : List Int}, IntsAt w x r → Off x r w'.heap.size (.slice none 0 0) := fun hx y e hl => by
      subst e
      have := hx.lt hl
      have := hB.size
      exact ⟨by omega, by simp [Value.ownBlock]⟩
    refine ⟨.slice none 0 0, alloc_here _ _, World.ownsRow_nil _ _ _ _, fun p hp => ?_, hA, hB.size⟩
    simp at hp
    rcases hp with rfl | rfl | rfl
    · exact ⟨h1.below hA, hoff h1⟩
    · exact ⟨h2.below hA, hoff h2⟩
    · exact ⟨h3.below hA, hoff h3⟩)
  clear h1 h2 h3 ok F
  unfold Gives
  go_enter Try.func4, Try.ntmps4
  go_wp2_with fail
  refine G.mono ?_
  intro w0 hB0
  have hE0 := Lib.hid (show Ext w w0 from Ext.trans (show Ext w (w.alloc (.cells #[.slice a l.length ca, .slice b m.length cb, .slice d n.length cd] 23)) from (Below.refl _ w).alloc (Nat.le_refl _) _) hB0)
  clear hB0 G
  go_wp2_with fail
  refine (V.out _ hE0.out).mono ?_
  intro w1 hB1
  have hE1 := Lib.hid (show Ext w w1 from Ext.trans hE0.out (Ext.trans (show Ext w0 (w0.alloc (.cells #[.slice a l.length ca, .slice b m.length cb, .slice d n.length cd] 23)) from (Below.refl _ w0).alloc (Nat.le_refl _) _) hB1))
  clear hE0 hB1 V
  go_wp2_with fail
  have H := Lib.hid (I0.out w1 hE1.out)
  generalize w1.alloc (.cells #[.slice none 0 0] 31) = W0 at *
  generalize w1.heap.size = B at *
  clear hE1 I0
  refine (joinR hF.out.k_l hF.out.k_m hF.out.j1 H.out (by omega) (by simp) (by simp)).mono ?_
  rintro _ W1 ⟨z1, c1, rfl, H'⟩
  have H := Lib.hid H'
  clear H'
  go_wp2_with fail
  refine (meetR hF.out.k_l hF.out.k_m hF.out.m1 H.out (by omega) (by simp) (by simp)).mono ?_
  rintro _ W2 ⟨z2, c2, rfl, H'⟩
  have H := Lib.hid H'
  clear H'
  go_wp2_with fail
  refine (joinR hF.out.k_m hF.out.k_l hF.out.j2 H.out (by omega) (by simp) (by simp)).mono ?_
  rintro _ W3 ⟨z3, c3, rfl, H'⟩
  have H := Lib.hid H'
  clear H'
  go_wp2_with fail
  refine (sameR hF.out.k_up H.out (by simp) (by simp)).mono ?_
  rintro _ W4 ⟨rfl, H'⟩
  have H := Lib.hid H'
  clear H'
  go_wp2_with fail
  refine (meetR hF.out.k_m hF.out.k_l hF.out.m2 H.out (by omega) (by simp) (by simp)).mono ?_
  rintro _ W5 ⟨z5, c5, rfl, H'⟩
  have H := Lib.hid H'
  clear H'
  go_wp2_with fail
  refine (sameR hF.out.k_dn H.out (by simp) (by simp)).mono ?_
  rintro _ W6 ⟨rfl, H'⟩
  have H := Lib.hid H'
  clear H'
  go_wp2_with fail
  refine (joinR hF.out.k_l hF.out.k_l hF.out.j3 H.out (by omega) (by simp) (by simp)).mono ?_
  rintro _ W7 ⟨z7, c7, rfl, H'⟩
  have H := Lib.hid H'
  clear H'
  go_wp2_with fail
  refine (sameR hF.out.k_l H.out (by simp) (by simp)).mono ?_
  rintro _ W8 ⟨rfl, H'⟩
  have H := Lib.hid H'
  clear H'
  go_wp2_with fail
  refine (meetR hF.out.k_l hF.out.k_l hF.out.m3 H.out (by omega) (by simp) (by simp)).mono ?_
  rintro _ W9 ⟨z9, c9, rfl, H'⟩
  have H := Lib.hid H'
  clear H'
  go_wp2_with fail
  refine (sameR hF.out.k_l H.out (by simp) (by simp)).mono ?_
  rintro _ W10 ⟨rfl, H'⟩
  have H := Lib.hid H'
  clear H'
  go_wp2_with fail
  refine (joinR hF.out.k_up hF.out.k_n hF.out.j4 H.out (by omega) (by simp) (by simp)).mono ?_
  rintro _ W11 ⟨z11, c11, rfl, H'⟩
  have H := Lib.hid H'
  clear H'
  go_wp2_with fail
  refine (joinR hF.out.k_m hF.out.k_n hF.out.j5 H.out (by omega) (by simp) (by simp)).mono ?_
  rintro _ W12 ⟨z12, c12, rfl, H'⟩
  have H := Lib.hid H'
  clear H'
  go_wp2_with fail
  refine (joinR hF.out.k_l hF.out.k_bc hF.out.j6 H.out (by omega) (by simp) (by simp)).mono ?_
  rintro _ W13 ⟨z13, c13, rfl, H'⟩
  have H := Lib.hid H'
  clear H'
  go_wp2_with fail
  refine (sameR hF.out.k_u3 H.out (by simp) (by simp)).mono ?_
  rintro _ W14 ⟨rfl, H'⟩
  have H := Lib.hid H'
  clear H'
  go_wp2_with fail
  refine (meetR hF.out.k_dn hF.out.k_n hF.out.m4 H.out (by omega) (by simp) (by simp)).mono ?_
  rintro _ W15 ⟨z15, c15, rfl, H'⟩
  have H := Lib.hid H'
  clear H'
  go_wp2_with fail
  refine (meetR hF.out.k_m hF.out.k_n hF.out.m5 H.out (by omega) (by simp) (by simp)).mono ?_
  rintro _ W16 ⟨z16, c16, rfl, H'⟩
  have H := Lib.hid H'
  clear H'
  go_wp2_with fail
  refine (meetR hF.out.k_l hF.out.k_bd hF.out.m6 H.out (by omega) (by simp) (by simp)).mono ?_
  rintro _ W17 ⟨z17, c17, rfl, H'⟩
  have H := Lib.hid H'
  clear H'
  go_wp2_with fail
  refine (sameR hF.out.k_d3 H.out (by simp) (by simp)).mono ?_
  rintro _ W18 ⟨rfl, H'⟩
  have H := Lib.hid H'
  clear H'
  go_wp2_with fail
  refine (joinR hF.out.k_l hF.out.k_dn hF.out.j7 H.out (by omega) (by simp) (by simp)).mono ?_
  rintro _ W19 ⟨z19, c19, rfl, H'⟩
  have H := Lib.hid H'
  clear H'
  go_wp2_with fail
  refine (sameR hF.out.k_l H.out (by simp) (by simp)).mono ?_
  rintro _ W20 ⟨rfl, H'⟩
  have H := Lib.hid H'
  clear H'
  go_wp2_with fail
  refine (meetR hF.out.k_l hF.out.k_up hF.out.m7 H.out (by omega) (by simp) (by simp)).mono ?_
  rintro _ W21 ⟨z21, c21, rfl, H'⟩
  have H := Lib.hid H'
  clear H'
  go_wp2_with fail
  refine (sameR hF.out.k_l H.out (by simp) (by simp)).mono ?_
  rintro _ W22 ⟨rfl, H'⟩
  have H := Lib.hid H'
  clear H'
  go_wp2_with fail
  refine (leR hF.out.k_l hF.out.k_up hF.out.a1 H.out (by simp) (by simp)).mono ?_
  rintro _ W23 ⟨rfl, H'⟩
  have H := Lib.hid H'
  clear H'
  go_wp2_with fail
  refine (leR hF.out.k_m hF.out.k_up hF.out.a2 H.out (by simp) (by simp)).mono ?_
  rintro _ W24 ⟨rfl, H'⟩
  have H := Lib.hid H'
  clear H'
  go_wp2_with fail
  refine (leR hF.out.k_dn hF.out.k_l hF.out.a3 H.out (by simp) (by simp)).mono ?_
  rintro _ W25 ⟨rfl, H'⟩
  have H := Lib.hid H'
  clear H'
  go_wp2_with fail
  refine (leR hF.out.k_dn hF.out.k_m hF.out.a4 H.out (by simp) (by simp)).mono ?_
  rintro _ W26 ⟨rfl, H'⟩
  have H := Lib.hid H'
  clear H'
  have HX : x1 = false ∨ (x1 = true ∧ x2 = false) ∨ (x1 = true ∧ x2 = true ∧ x3 = true) := by have := hF.out.k_x; cases x1 <;> cases x2 <;> cases x3 <;> simp_all
  have HY : y1 = false ∨ (y1 = true ∧ y2 = false) ∨ (y1 = true ∧ y2 = true ∧ y3 = true) := by have := hF.out.k_y; cases y1 <;> cases y2 <;> cases y3 <;> simp_all
  have H : Hid (Bd w B 14 _ W26) := H
  rcases HX with rfl | ⟨rfl, rfl⟩ | ⟨rfl, rfl, rfl⟩ <;> rcases HY with rfl | ⟨rfl, rfl⟩ | ⟨rfl, rfl, rfl⟩
  · go_wp2_with fail
    refine (leR hF.out.k_l hF.out.k_n hF.out.k_x1 H.out (by simp) (by simp)).mono ?_
    rintro _ W27 ⟨rfl, H'⟩
    have H := Lib.hid H'
    clear H'
    go_wp2_with fail
    refine (leR hF.out.k_n hF.out.k_l hF.out.k_y1 H.out (by simp) (by simp)).mono ?_
    rintro _ W28 ⟨rfl, H'⟩
    have H := Lib.hid H'
    clear H'
    obtain ⟨ra, rc, hcell, hI⟩ := H.out.row
    have HI := Lib.hid hI
    clear hI
    go_wp2_with fail
    refine (errR H.out (by omega) HI.out).mono ?_
    rintro _ WA ⟨rfl, H'⟩
    have H := Lib.hid H'
    clear H' hcell HI
    go_wp2_with fail
    refine (awake_any _).mono ?_
    intro WB hB9
    have hE9 := Lib.hid (Ext.trans H.out.low hB9)
    clear H hB9
    go_wp2
    go_ret
    exact ⟨rfl, hE9.out⟩
  · go_wp2_with fail
    refine (leR hF.out.k_l hF.out.k_n hF.out.k_x1 H.out (by simp) (by simp)).mono ?_
    rintro _ W27 ⟨rfl, H'⟩
    have H := Lib.hid H'
    clear H'
    go_wp2_with fail
    refine (leR hF.out.k_n hF.out.k_l hF.out.k_y1 H.out (by simp) (by simp)).mono ?_
    rintro _ W28 ⟨rfl, H'⟩
    have H := Lib.hid H'
    clear H'
    go_wp2_with fail
    refine (leR hF.out.k_n hF.out.k_m hF.out.k_y2 H.out (by simp) (by simp)).mono ?_
    rintro _ W29 ⟨rfl, H'⟩
    have H := Lib.hid H'
    clear H'
    obtain ⟨ra, rc, hcell, hI⟩ := H.out.row
    have HI := Lib.hid hI
    clear hI
    go_wp2_with fail
    refine (errR H.out (by omega) HI.out).mono ?_
    rintro _ WA ⟨rfl, H'⟩
    have H := Lib.hid H'
    clear H' hcell HI
    go_wp2_with fail
    refine (awake_any _).mono ?_
    intro WB hB9
    have hE9 := Lib.hid (Ext.trans H.out.low hB9)
    clear H hB9
    go_wp2
    go_ret
    exact ⟨rfl, hE9.out⟩
  · go_wp2_with fail
    refine (leR hF.out.k_l hF.out.k_n hF.out.k_x1 H.out (by simp) (by simp)).mono ?_
    rintro _ W27 ⟨rfl, H'⟩
    have H := Lib.hid H'
    clear H'
    go_wp2_with fail
    refine (leR hF.out.k_n hF.out.k_l hF.out.k_y1 H.out (by simp) (by simp)).mono ?_
    rintro _ W28 ⟨rfl, H'⟩
    have H := Lib.hid H'
    clear H'
    go_wp2_with fail
    refine (leR hF.out.k_n hF.out.k_m hF.out.k_y2 H.out (by simp) (by simp)).mono ?_
    rintro _ W29 ⟨rfl, H'⟩
    have H := Lib.hid H'
    clear H'
    go_wp2_with fail
    refine (leR hF.out.k_n hF.out.k_dn hF.out.k_y3 H.out (by simp) (by simp)).mono ?_
    rintro _ W30 ⟨rfl, H'⟩
    have H := Lib.hid H'
    clear H'
    obtain ⟨ra, rc, hcell, hI⟩ := H.out.row
    have HI := Lib.hid hI
    clear hI
    go_wp2_with fail
    refine (errR H.out (by omega) HI.out).mono ?_
    rintro _ WA ⟨rfl, H'⟩
    have H := Lib.hid H'
    clear H' hcell HI
    go_wp2_with fail
    refine (awake_any _).mono ?_
    intro WB hB9
    have hE9 := Lib.hid (Ext.trans H.out.low hB9)
    clear H hB9
    go_wp2
    go_ret
    exact ⟨rfl, hE9.out⟩
  · go_wp2_with fail
    refine (leR hF.out.k_l hF.out.k_n hF.out.k_x1 H.out (by simp) (by simp)).mono ?_
    rintro _ W27 ⟨rfl, H'⟩
    have H := Lib.hid H'
    clear H'
    go_wp2_with fail
    refine (leR hF.out.k_m hF.out.k_n hF.out.k_x2 H.out (by simp) (by simp)).mono ?_
    rintro _ W28 ⟨rfl, H'⟩
    have H := Lib.hid H'
    clear H'
    go_wp2_with fail
    refine (leR hF.out.k_n hF.out.k_l hF.out.k_y1 H.out (by simp) (by simp)).mono ?_
    rintro _ W29 ⟨rfl, H'⟩
    have H := Lib.hid H'
    clear H'
    obtain ⟨ra, rc, hcell, hI⟩ := H.out.row
    have HI := Lib.hid hI
    clear hI
    go_wp2_with fail
    refine (errR H.out (by omega) HI.out).mono ?_
    rintro _ WA ⟨rfl, H'⟩
    have H := Lib.hid H'
    clear H' hcell HI
    go_wp2_with fail
    refine (awake_any _).mono ?_
    intro WB hB9
    have hE9 := Lib.hid (Ext.trans H.out.low hB9)
    clear H hB9
    go_wp2
    go_ret
    exact ⟨rfl, hE9.out⟩
  · go_wp2_with fail
    refine (leR hF.out.k_l hF.out.k_n hF.out.k_x1 H.out (by simp) (by simp)).mono ?_
    rintro _ W27 ⟨rfl, H'⟩
    have H := Lib.hid H'
    clear H'
    go_wp2_with fail
    refine (leR hF.out.k_m hF.out.k_n hF.out.k_x2 H.out (by simp) (by simp)).mono ?_
    rintro _ W28 ⟨rfl, H'⟩
    have H := Lib.hid H'
    clear H'
    go_wp2_with fail
    refine (leR hF.out.k_n hF.out.k_l hF.out.k_y1 H.out (by simp) (by simp)).mono ?_
    rintro _ W29 ⟨rfl, H'⟩
    have H := Lib.hid H'
    clear H'
    go_wp2_with fail
    refine (leR hF.out.k_n hF.out.k_m hF.out.k_y2 H.out (by simp) (by simp)).mono ?_
    rintro _ W30 ⟨rfl, H'⟩
    have H := Lib.hid H'
    clear H'
    obtain ⟨ra, rc, hcell, hI⟩ := H.out.row
    have HI := Lib.hid hI
    clear hI
    go_wp2_with fail
    refine (errR H.out (by omega) HI.out).mono ?_
    rintro _ WA ⟨rfl, H'⟩
    have H := Lib.hid H'
    clear H' hcell HI
    go_wp2_with fail
    refine (awake_any _).mono ?_
    intro WB hB9
    have hE9 := Lib.hid (Ext.trans H.out.low hB9)
    clear H hB9
    go_wp2
    go_ret
    exact ⟨rfl, hE9.out⟩
  · go_wp2_with fail
    refine (leR hF.out.k_l hF.out.k_n hF.out.k_x1 H.out (by simp) (by simp)).mono ?_
    rintro _ W27 ⟨rfl, H'⟩
    have H := Lib.hid H'
    clear H'
    go_wp2_with fail
    refine (leR hF.out.k_m hF.out.k_n hF.out.k_x2 H.out (by simp) (by simp)).mono ?_
    rintro _ W28 ⟨rfl, H'⟩
    have H := Lib.hid H'
    clear H'
    go_wp2_with fail
    refine (leR hF.out.k_n hF.out.k_l hF.out.k_y1 H.out (by simp) (by simp)).mono ?_
    rintro _ W29 ⟨rfl, H'⟩
    have H := Lib.hid H'
    clear H'
    go_wp2_with fail
    refine (leR hF.out.k_n hF.out.k_m hF.out.k_y2 H.out (by simp) (by simp)).mono ?_
    rintro _ W30 ⟨rfl, H'⟩
    have H := Lib.hid H'
    clear H'
    go_wp2_with fail
    refine (leR hF.out.k_n hF.out.k_dn hF.out.k_y3 H.out (by simp) (by simp)).mono ?_
    rintro _ W31 ⟨rfl, H'⟩
    have H := Lib.hid H'
    clear H'
    obtain ⟨ra, rc, hcell, hI⟩ := H.out.row
    have HI := Lib.hid hI
    clear hI
    go_wp2_with fail
    refine (errR H.out (by omega) HI.out).mono ?_
    rintro _ WA ⟨rfl, H'⟩
    have H := Lib.hid H'
    clear H' hcell HI
    go_wp2_with fail
    refine (awake_any _).mono ?_
    intro WB hB9
    have hE9 := Lib.hid (Ext.trans H.out.low hB9)
    clear H hB9
    go_wp2
    go_ret
    exact ⟨rfl, hE9.out⟩
  · go_wp2_with fail
    refine (leR hF.out.k_l hF.out.k_n hF.out.k_x1 H.out (by simp) (by simp)).mono ?_
    rintro _ W27 ⟨rfl, H'⟩
    have H := Lib.hid H'
    clear H'
    go_wp2_with fail
    refine (leR hF.out.k_m hF.out.k_n hF.out.k_x2 H.out (by simp) (by simp)).mono ?_
    rintro _ W28 ⟨rfl, H'⟩
    have H := Lib.hid H'
    clear H'
    go_wp2_with fail
    refine (leR hF.out.k_up hF.out.k_n hF.out.k_x3 H.out (by simp) (by simp)).mono ?_
    rintro _ W29 ⟨rfl, H'⟩
    have H := Lib.hid H'
    clear H'
    go_wp2_with fail
    refine (leR hF.out.k_n hF.out.k_l hF.out.k_y1 H.out (by simp) (by simp)).mono ?_
    rintro _ W30 ⟨rfl, H'⟩
    have H := Lib.hid H'
    clear H'
    obtain ⟨ra, rc, hcell, hI⟩ := H.out.row
    have HI := Lib.hid hI
    clear hI
    go_wp2_with fail
    refine (errR H.out (by omega) HI.out).mono ?_
    rintro _ WA ⟨rfl, H'⟩
    have H := Lib.hid H'
    clear H' hcell HI
    go_wp2_with fail
    refine (awake_any _).mono ?_
    intro WB hB9
    have hE9 := Lib.hid (Ext.trans H.out.low hB9)
    clear H hB9
    go_wp2
    go_ret
    exact ⟨rfl, hE9.out⟩
  · go_wp2_with fail
    refine (leR hF.out.k_l hF.out.k_n hF.out.k_x1 H.out (by simp) (by simp)).mono ?_
    rintro _ W27 ⟨rfl, H'⟩
    have H := Lib.hid H'
    clear H'
    go_wp2_with fail
    refine (leR hF.out.k_m hF.out.k_n hF.out.k_x2 H.out (by simp) (by simp)).mono ?_
    rintro _ W28 ⟨rfl, H'⟩
    have H := Lib.hid H'
    clear H'
    go_wp2_with fail
    refine (leR hF.out.k_up hF.out.k_n hF.out.k_x3 H.out (by simp) (by simp)).mono ?_
    rintro _ W29 ⟨rfl, H'⟩
    have H := Lib.hid H'
    clear H'
    go_wp2_with fail
    refine (leR hF.out.k_n hF.out.k_l hF.out.k_y1 H.out (by simp) (by simp)).mono ?_
    rintro _ W30 ⟨rfl, H'⟩
    have H := Lib.hid H'
    clear H'
    go_wp2_with fail
    refine (leR hF.out.k_n hF.out.k_m hF.out.k_y2 H.out (by simp) (by simp)).mono ?_
    rintro _ W31 ⟨rfl, H'⟩
    have H := Lib.hid H'
    clear H'
    obtain ⟨ra, rc, hcell, hI⟩ := H.out.row
    have HI := Lib.hid hI
    clear hI
    go_wp2_with fail
    refine (errR H.out (by omega) HI.out).mono ?_
    rintro _ WA ⟨rfl, H'⟩
    have H := Lib.hid H'
    clear H' hcell HI
    go_wp2_with fail
    refine (awake_any _).mono ?_
    intro WB hB9
    have hE9 := Lib.hid (Ext.trans H.out.low hB9)
    clear H hB9
    go_wp2
    go_ret
    exact ⟨rfl, hE9.out⟩
  · go_wp2_with fail
    refine (leR hF.out.k_l hF.out.k_n hF.out.k_x1 H.out (by simp) (by simp)).mono ?_
    rintro _ W27 ⟨rfl, H'⟩
    have H := Lib.hid H'
    clear H'
    go_wp2_with fail
    refine (leR hF.out.k_m hF.out.k_n hF.out.k_x2 H.out (by simp) (by simp)).mono ?_
    rintro _ W28 ⟨rfl, H'⟩
    have H := Lib.hid H'
    clear H'
    go_wp2_with fail
    refine (leR hF.out.k_up hF.out.k_n hF.out.k_x3 H.out (by simp) (by simp)).mono ?_
    rintro _ W29 ⟨rfl, H'⟩
    have H := Lib.hid H'
    clear H'
    go_wp2_with fail
    refine (leR hF.out.k_n hF.out.k_l hF.out.k_y1 H.out (by simp) (by simp)).mono ?_
    rintro _ W30 ⟨rfl, H'⟩
    have H := Lib.hid H'
    clear H'
    go_wp2_with fail
    refine (leR hF.out.k_n hF.out.k_m hF.out.k_y2 H.out (by simp) (by simp)).mono ?_
    rintro _ W31 ⟨rfl, H'⟩
    have H := Lib.hid H'
    clear H'
    go_wp2_with fail
    refine (leR hF.out.k_n hF.out.k_dn hF.out.k_y3 H.out (by simp) (by simp)).mono ?_
    rintro _ W32 ⟨rfl, H'⟩
    have H := Lib.hid H'
    clear H'
    obtain ⟨ra, rc, hcell, hI⟩ := H.out.row
    have HI := Lib.hid hI
    clear hI
    go_wp2_with fail
    refine (errR H.out (by omega) HI.out).mono ?_
    rintro _ WA ⟨rfl, H'⟩
    have H := Lib.hid H'
    clear H' hcell HI
    go_wp2_with fail
    refine (awake_any _).mono ?_
    intro WB hB9
    have hE9 := Lib.hid (Ext.trans H.out.low hB9)
    clear H hB9
    go_wp2
    go_ret
    exact ⟨rfl, hE9.out⟩

set_option maxRecDepth 100000 in
set_option maxHeartbeats 4000000 in
theorem vclockBounds_walk (a0 : Option Addr) (len0 cap0 : Nat) (z0 : List Int) (a1 : Option Addr) (len1 cap1 : Nat) (z1 : List Int) (a2 : Option Addr) (len2 cap2 : Nat) (z2 : List Int) (w : World) (w0 : IsRow .i64 w a0 len0 cap0 z0) (w1 : IsRow .i64 w a1 len1 cap1 z1) (w2 : IsRow .i64 w a2 len2 cap2 z2) :
    Gives Try.prog 4 #[.slice a0 len0 cap0, .slice a1 len1 cap1, .slice a2 len2 cap2] w (.bool true) := by
  obtain ⟨l, rfl, hl, h1, _⟩ := w0.ints
  obtain ⟨m, rfl, hm, h2, _⟩ := w1.ints
  obtain ⟨n, rfl, hn, h3, _⟩ := w2.ints
  have G := great3 a0 a1 a2 l.length m.length n.length cap0 cap1 cap2 w 23
  by_cases h5 : l.length ≤ 34 ∧ m.length ≤ 34 ∧ n.length ≤ 34
  · obtain ⟨e1, e2, e3⟩ := h5
    cases ok : okB l m n with
    | true =>
      have hok := ok
      simp [okB] at hok
      have q1 : chk l = 0 := by simp_all
      have q2 : chk m = 0 := by simp_all
      have q3 : chk n = 0 := by simp_all
      have p1 : l.length = m.length := by omega
      have p2 : m.length = n.length := by omega
      obtain ⟨up, dn, u3, bc, d3, bd, x1, x2, x3, y1, y2, y3, F⟩ := BF.of q1 q2 q3 p1 p2
      exact bounds_main l m n up dn u3 bc d3 bd x1 x2 x3 y1 y2 y3 _ F a0 a1 a2 cap0 cap1 cap2 w e1 e2 e3 h1 h2 h3 ok
    | false =>
      rw [show (longB (a0, l.length, cap0) || longB (a1, m.length, cap1) || longB (a2, n.length, cap2)) = false by simp [longB]; omega] at G
      have V := Lib.hid (fun w' (hB : Below w.heap.size w w') => valid3_any l m n a0 a1 a2 cap0 cap1 cap2 w' 23 e1 e2 e3 (h1.below hB) (h2.below hB) (h3.below hB))
      rw [ok] at V
      clear w0 w1 w2 h1 h2 h3 hl hm hn ok
      unfold Gives
      go_enter Try.func4, Try.ntmps4
      go_wp2_with fail
      refine G.mono ?_
      intro w0 hB0
      have hE0 := Lib.hid (show Ext w w0 from Ext.trans (show Ext w (w.alloc (.cells #[.slice a0 l.length cap0, .slice a1 m.length cap1, .slice a2 n.length cap2] 23)) from (Below.refl _ w).alloc (Nat.le_refl _) _) hB0)
      clear hB0 G
      go_wp2_with fail
      refine (V.out _ hE0.out).mono ?_
      intro w1 hB1
      have hE1 := Lib.hid (show Ext w w1 from Ext.trans hE0.out (Ext.trans (show Ext w0 (w0.alloc (.cells #[.slice a0 l.length cap0, .slice a1 m.length cap1, .slice a2 n.length cap2] 23)) from (Below.refl _ w0).alloc (Nat.le_refl _) _) hB1))
      clear hE0 hB1 V
      go_wp2_with fail
      refine (awake_any _).mono ?_
      intro w9 hB9
      have hE9 := Lib.hid (Ext.trans hE1.out hB9)
      clear hE1 hB9
      go_wp2
      go_ret
      exact ⟨rfl, hE9.out⟩
  · rw [show (longB (a0, l.length, cap0) || longB (a1, m.length, cap1) || longB (a2, n.length, cap2)) = true by simp [longB]; omega] at G
    clear w0 w1 w2 h1 h2 h3 hl hm hn h5
    unfold Gives
    go_enter Try.func4, Try.ntmps4
    go_wp2_with fail
    refine G.mono ?_
    intro w0 hB0
    have hE0 := Lib.hid (show Ext w w0 from Ext.trans (show Ext w (w.alloc (.cells #[.slice a0 l.length cap0, .slice a1 m.length cap1, .slice a2 n.length cap2] 23)) from (Below.refl _ w).alloc (Nat.le_refl _) _) hB0)
    clear hB0 G
    go_wp2_with fail
    refine (awake_any _).mono ?_
    intro w9 hB9
    have hE9 := Lib.hid (Ext.trans hE0.out hB9)
    clear hE0 hB9
    go_wp2
    go_ret
    exact ⟨rfl, hE9.out⟩

end Go.Proofs.Ytaplbcmpjhdohaa
