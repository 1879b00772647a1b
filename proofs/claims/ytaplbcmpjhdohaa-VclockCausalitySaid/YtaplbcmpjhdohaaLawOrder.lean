/- VclockOrder: the walk. -/
import Derived.Test.YtaplbcmpjhdohaaVc6
namespace Go.Proofs.Ytaplbcmpjhdohaa
open Go.RowKit
set_option linter.unusedVariables false

theorem leB_iff (l m : List Int) : leB l m = true ↔ ∀ i, i < l.length → l.getD i 0 ≤ m.getD i 0 := by
  unfold leB
  rw [List.all_eq_true]
  constructor
  · intro h i hi; simpa using h i (List.mem_range.2 hi)
  · intro h i hi; simpa using h i (List.mem_range.1 hi)
theorem leB_trans {l m n : List Int} (e : l.length = m.length) (h1 : leB l m = true) (h2 : leB m n = true) : leB l n = true := by
  rw [leB_iff] at *
  intro i hi
  exact Int.le_trans (h1 i hi) (h2 i (by omega))
theorem leB_anti {l m : List Int} (e : l.length = m.length) (h1 : leB l m = true) (h2 : leB m l = true) : l = m := by
  rw [leB_iff] at *
  apply List.ext_getElem e
  intro i hi hi2
  have a := h1 i hi
  have b := h2 i hi2
  simp [List.getD_eq_getElem?_getD, hi, hi2] at a b
  omega
theorem leB_refl (l : List Int) : leB l l = true := by rw [leB_iff]; intro i _; exact Int.le_refl _

theorem Up.callE {P : Program} {f : FuncId} {args args' : Array Value} {w : World} {v : Value} {U : Up w} (h : ∀ W, Ext w W → Gives P f args' W v) (e : args = args') : Calls P f args U.W fun e w'' => e = .returned v ∧ ∃ U' : Up w, w'' = U'.W := by
  subst e; exact Up.call (h U.W U.ext)

def mir (k : Int) : Int := if k = 1 then 2 else if k = 2 then 1 else k
theorem cmp_ok {l m : List Int} (h1 : chk l = 0) (h2 : chk m = 0) (e : l.length = m.length) : cmpV l m = if leB l m = true ∧ leB m l = true then 0 else if leB l m = true then 1 else if leB m l = true then 2 else 3 := by
  unfold cmpV; rw [if_neg (by simp [h1, h2, e])]
theorem cmp_range {l m : List Int} (h1 : chk l = 0) (h2 : chk m = 0) (e : l.length = m.length) : cmpV l m = 0 ∨ cmpV l m = 1 ∨ cmpV l m = 2 ∨ cmpV l m = 3 := by
  rw [cmp_ok h1 h2 e]; repeat' split
  all_goals simp
theorem cmp_mir {l m : List Int} (h1 : chk l = 0) (h2 : chk m = 0) (e : l.length = m.length) : cmpV m l = mir (cmpV l m) := by
  rw [cmp_ok h1 h2 e, cmp_ok h2 h1 e.symm]
  cases leB l m <;> cases leB m l <;> rfl
theorem cmp_self {l : List Int} (h1 : chk l = 0) : cmpV l l = 0 := by
  rw [cmp_ok h1 h1 rfl, leB_refl]; rfl
theorem cmp_zero {l m : List Int} (h1 : chk l = 0) (h2 : chk m = 0) (e : l.length = m.length) : (l == m) = (cmpV l m == 0) := by
  rw [Bool.eq_iff_iff, beq_iff_eq, beq_iff_eq]
  constructor
  · rintro rfl; exact cmp_self h1
  · intro h
    rw [cmp_ok h1 h2 e] at h
    by_cases c : leB l m = true ∧ leB m l = true
    · exact leB_anti e c.1 c.2
    · rw [if_neg c] at h
      split at h
      · simp at h
      · split at h <;> simp at h
theorem cmp_one {l m : List Int} (h1 : chk l = 0) (h2 : chk m = 0) (e : l.length = m.length) : cmpV l m = 1 ↔ leB l m = true ∧ leB m l = false := by
  rw [cmp_ok h1 h2 e]
  cases leB l m <;> cases leB m l <;> simp
theorem cmp_trans {l m n : List Int} (h1 : chk l = 0) (h2 : chk m = 0) (h3 : chk n = 0) (e : l.length = m.length) (e2 : m.length = n.length) (a : cmpV l m = 1) (b : cmpV m n = 0 ∨ cmpV m n = 1) : cmpV l n = 1 := by
  rw [cmp_one h1 h2 e] at a
  have hmn : leB m n = true := by
    rcases b with b | b
    · rw [cmp_ok h2 h3 e2] at b
      by_cases c : leB m n = true ∧ leB n m = true
      · exact c.1
      · rw [if_neg c] at b
        split at b
        · simp at b
        · split at b <;> simp at b
    · exact ((cmp_one h2 h3 e2).1 b).1
  rw [cmp_one h1 h3 (by omega)]
  refine ⟨leB_trans e a.1 hmn, ?_⟩
  cases c : leB n l with
  | false => rfl
  | true => have := leB_trans e2 hmn c; rw [this] at a; simp at a

set_option maxRecDepth 100000 in
set_option maxHeartbeats 8000000 in
theorem order_main (l m n : List Int) (a b d : Option Addr) (ca cb cd : Nat) (w : World) (hl : l.length ≤ 34) (hm : m.length ≤ 34) (hn : n.length ≤ 34) (h1 : IntsAt w a l) (h2 : IntsAt w b m) (h3 : IntsAt w d n)
    (ok : okB l m n = true) (k1 k2 r : Int) (g1 : cmpV l m = k1) (g2 : cmpV m n = k2) (g3 : cmpV l n = r) (q1 : k1 = 0 ∨ k1 = 1 ∨ k1 = 2 ∨ k1 = 3) (q2 : k2 = 0 ∨ k2 = 1 ∨ k2 = 2 ∨ k2 = 3) (g4 : cmpV m l = mir k1) (g5 : cmpV l l = 0) (g6 : (l == m) = (k1 == 0)) (g7 : k1 = 1 → k2 = 0 ∨ k2 = 1 → r = 1) :
    Gives Try.prog 5 #[.slice a l.length ca, .slice b m.length cb, .slice d n.length cd] w (.bool true) := by
  have G := great3 a b d l.length m.length n.length ca cb cd w 23
  rw [show (longB (a, l.length, ca) || longB (b, m.length, cb) || longB (d, n.length, cd)) = false by simp [longB]; omega] at G
  have hl' : l.length ≤ maxLen := by unfold maxLen; omega
  have hm' : m.length ≤ maxLen := by unfold maxLen; omega
  have hn' : n.length ≤ maxLen := by unfold maxLen; omega
  have V := Lib.hid (fun w' (hB : Below w.heap.size w w') => valid3_any l m n a b d ca cb cd w' 23 hl hm hn (h1.below hB) (h2.below hB) (h3.below hB))
  rw [ok] at V
  have K12 := Lib.hid (fun w' (hB : Below w.heap.size w w') => Compare_any l m a b ca cb w' hl' hm' (h1.below hB) (h2.below hB))
  have K23 := Lib.hid (fun w' (hB : Below w.heap.size w w') => Compare_any m n b d cb cd w' hm' hn' (h2.below hB) (h3.below hB))
  have K21 := Lib.hid (fun w' (hB : Below w.heap.size w w') => Compare_any m l b a cb ca w' hm' hl' (h2.below hB) (h1.below hB))
  have K11 := Lib.hid (fun w' (hB : Below w.heap.size w w') => Compare_any l l a a ca ca w' hl' hl' (h1.below hB) (h1.below hB))
  have K13 := Lib.hid (fun w' (hB : Below w.heap.size w w') => Compare_any l n a d ca cd w' hl' hn' (h1.below hB) (h3.below hB))
  have E := Lib.hid (fun w' (hB : Below w.heap.size w w') => Equal_any l m a b ca cb w' hl' hm' (h1.below hB) (h2.below hB))
  rw [g1] at K12
  rw [g2] at K23
  rw [g4] at K21
  rw [g5] at K11
  rw [g3] at K13
  rw [g6] at E
  have G7 := Lib.hid g7
  clear h1 h2 h3 ok g1 g2 g3 g4 g5 g6 g7 hl' hm' hn'
  unfold Gives
  go_enter Try.func5, Try.ntmps5
  go_wp2_with fail
  refine G.mono ?_
  intro w0 hB0
  have hE0 := Lib.hid (show Ext w w0 from Ext.trans (show Ext w (w.alloc (.cells #[.slice a l.length ca, .slice b m.length cb, .slice d n.length cd] 23)) from (Below.refl _ w).alloc (Nat.le_refl _) _) hB0)
  clear hB0 G
  go_wp2_with fail
  refine (V.out _ hE0.out).mono ?_
  intro w1 hB1
  have hE1 := Lib.hid (show Ext w w1 from Ext.trans hE0.out (Ext.trans (show Ext w0 (w0.alloc (.cells #[.slice a l.length ca, .slice b m.length cb, .slice d n.length cd] 23)) from (Below.refl _ w0).alloc (Nat.le_refl _) _) hB1))
  clear hE0 hB1 V
  go_wp2_with fail
  have hM : Ext w (w1.alloc (.cells #[.int .i64 0, .int .i64 2, .int .i64 1, .int .i64 3] 3)) := Ext.trans hE1.out ((Below.refl _ w1).alloc (Nat.le_refl _) _)
  have c0 : (w1.alloc (.cells #[.int .i64 0, .int .i64 2, .int .i64 1, .int .i64 3] 3)).cell? ⟨w1.heap.size, 0, none⟩ = some (.int .i64 0) := cell_of (alloc_here _ _) rfl
  have c1 : (w1.alloc (.cells #[.int .i64 0, .int .i64 2, .int .i64 1, .int .i64 3] 3)).cell? ⟨w1.heap.size, 1, none⟩ = some (.int .i64 2) := cell_of (alloc_here _ _) rfl
  have c2 : (w1.alloc (.cells #[.int .i64 0, .int .i64 2, .int .i64 1, .int .i64 3] 3)).cell? ⟨w1.heap.size, 2, none⟩ = some (.int .i64 1) := cell_of (alloc_here _ _) rfl
  have c3 : (w1.alloc (.cells #[.int .i64 0, .int .i64 2, .int .i64 1, .int .i64 3] 3)).cell? ⟨w1.heap.size, 3, none⟩ = some (.int .i64 3) := cell_of (alloc_here _ _) rfl
  refine (K12.out _ hM).mono ?_
  intro w2 hB2
  have hE2 := Lib.hid (Ext.trans hM hB2)
  have c0 := (hB2.cell (p := ⟨w1.heap.size, 0, none⟩) (cell_lt c0)).trans c0
  have c1 := (hB2.cell (p := ⟨w1.heap.size, 1, none⟩) (cell_lt c1)).trans c1
  have c2 := (hB2.cell (p := ⟨w1.heap.size, 2, none⟩) (cell_lt c2)).trans c2
  have c3 := (hB2.cell (p := ⟨w1.heap.size, 3, none⟩) (cell_lt c3)).trans c3
  clear hM hE1 hB2 K12
  generalize w1.heap.size = g at *
  go_wp2_with fail
  refine (K23.out _ hE2.out).mono ?_
  intro w3 hB3
  have hE3 := Lib.hid (Ext.trans hE2.out hB3)
  have u0 := fun U : Up w3 => Up.cell ((hB3.cell (p := ⟨g, 0, none⟩) (cell_lt c0)).trans c0) U
  have u1 := fun U : Up w3 => Up.cell ((hB3.cell (p := ⟨g, 1, none⟩) (cell_lt c1)).trans c1) U
  have u2 := fun U : Up w3 => Up.cell ((hB3.cell (p := ⟨g, 2, none⟩) (cell_lt c2)).trans c2) U
  have u3 := fun U : Up w3 => Up.cell ((hB3.cell (p := ⟨g, 3, none⟩) (cell_lt c3)).trans c3) U
  clear hE2 hB3 K23 c0 c1 c2 c3
  rcases q1 with rfl | rfl | rfl | rfl
  · rw [show mir 0 = 0 from rfl] at K21
    go_wp2_with fail
    refine wp_region_up (by kernel_rfl) (by kernel_rfl) ?_
    repeat (go_big_quiet_step (first | (go_at_call 17; refine Up.callE (fun W hW => K11.out W (Ext.trans hE3.out hW)) ?_; with_reducible rfl) | (go_at_call 17; refine Up.callE (fun W hW => K21.out W (Ext.trans hE3.out hW)) ?_; with_reducible rfl) | (go_at_call 25; refine Up.callE (fun W hW => E.out W (Ext.trans hE3.out hW)) ?_; with_reducible rfl)))
    refine wpQuiet_nil ?_
    rintro w4 ⟨U, rfl⟩
    have hE4 := Lib.hid (Ext.trans hE3.out U.ext)
    generalize U.W = w4 at *
    clear u0 u1 u2 u3 hE3 K11 K21 E
    go_wp2_with fail
    refine (awake_any _).mono ?_
    intro w9 hB9
    have hE9 := Lib.hid (Ext.trans hE4.out hB9)
    clear hE4 hB9
    go_wp2
    go_ret
    exact ⟨rfl, hE9.out⟩
  · rw [show mir 1 = 2 from rfl] at K21
    go_wp2_with fail
    refine wp_region_up (by kernel_rfl) (by kernel_rfl) ?_
    repeat (go_big_quiet_step (first | (go_at_call 17; refine Up.callE (fun W hW => K11.out W (Ext.trans hE3.out hW)) ?_; with_reducible rfl) | (go_at_call 17; refine Up.callE (fun W hW => K21.out W (Ext.trans hE3.out hW)) ?_; with_reducible rfl) | (go_at_call 25; refine Up.callE (fun W hW => E.out W (Ext.trans hE3.out hW)) ?_; with_reducible rfl)))
    refine wpQuiet_nil ?_
    rintro w4 ⟨U, rfl⟩
    have hE4 := Lib.hid (Ext.trans hE3.out U.ext)
    generalize U.W = w4 at *
    clear u0 u1 u2 u3 hE3 K11 K21 E
    rcases q2 with rfl | rfl | rfl | rfl
    · have hr := G7.out trivial (by omega)
      subst hr
      go_wp2_with fail
      refine (K13.out _ hE4.out).mono ?_
      intro w5 hB5
      have hE5 := Lib.hid (Ext.trans hE4.out hB5)
      clear hE4 hB5
      go_wp2_with fail
      refine (awake_any _).mono ?_
      intro w9 hB9
      have hE9 := Lib.hid (Ext.trans hE5.out hB9)
      clear hE5 hB9
      go_wp2
      go_ret
      exact ⟨rfl, hE9.out⟩
    · have hr := G7.out trivial (by omega)
      subst hr
      go_wp2_with fail
      refine (K13.out _ hE4.out).mono ?_
      intro w5 hB5
      have hE5 := Lib.hid (Ext.trans hE4.out hB5)
      clear hE4 hB5
      go_wp2_with fail
      refine (awake_any _).mono ?_
      intro w9 hB9
      have hE9 := Lib.hid (Ext.trans hE5.out hB9)
      clear hE5 hB9
      go_wp2
      go_ret
      exact ⟨rfl, hE9.out⟩
    · go_wp2_with fail
      refine (awake_any _).mono ?_
      intro w9 hB9
      have hE9 := Lib.hid (Ext.trans hE4.out hB9)
      clear hE4 hB9
      go_wp2
      go_ret
      exact ⟨rfl, hE9.out⟩
    · go_wp2_with fail
      refine (awake_any _).mono ?_
      intro w9 hB9
      have hE9 := Lib.hid (Ext.trans hE4.out hB9)
      clear hE4 hB9
      go_wp2
      go_ret
      exact ⟨rfl, hE9.out⟩
  · rw [show mir 2 = 1 from rfl] at K21
    go_wp2_with fail
    refine wp_region_up (by kernel_rfl) (by kernel_rfl) ?_
    repeat (go_big_quiet_step (first | (go_at_call 17; refine Up.callE (fun W hW => K11.out W (Ext.trans hE3.out hW)) ?_; with_reducible rfl) | (go_at_call 17; refine Up.callE (fun W hW => K21.out W (Ext.trans hE3.out hW)) ?_; with_reducible rfl) | (go_at_call 25; refine Up.callE (fun W hW => E.out W (Ext.trans hE3.out hW)) ?_; with_reducible rfl)))
    refine wpQuiet_nil ?_
    rintro w4 ⟨U, rfl⟩
    have hE4 := Lib.hid (Ext.trans hE3.out U.ext)
    generalize U.W = w4 at *
    clear u0 u1 u2 u3 hE3 K11 K21 E
    go_wp2_with fail
    refine (awake_any _).mono ?_
    intro w9 hB9
    have hE9 := Lib.hid (Ext.trans hE4.out hB9)
    clear hE4 hB9
    go_wp2
    go_ret
    exact ⟨rfl, hE9.out⟩
  · rw [show mir 3 = 3 from rfl] at K21
    go_wp2_with fail
    refine wp_region_up (by kernel_rfl) (by kernel_rfl) ?_
    repeat (go_big_quiet_step (first | (go_at_call 17; refine Up.callE (fun W hW => K11.out W (Ext.trans hE3.out hW)) ?_; with_reducible rfl) | (go_at_call 17; refine Up.callE (fun W hW => K21.out W (Ext.trans hE3.out hW)) ?_; with_reducible rfl) | (go_at_call 25; refine Up.callE (fun W hW => E.out W (Ext.trans hE3.out hW)) ?_; with_reducible rfl)))
    refine wpQuiet_nil ?_
    rintro w4 ⟨U, rfl⟩
    have hE4 := Lib.hid (Ext.trans hE3.out U.ext)
    generalize U.W = w4 at *
    clear u0 u1 u2 u3 hE3 K11 K21 E
    go_wp2_with fail
    refine (awake_any _).mono ?_
    intro w9 hB9
    have hE9 := Lib.hid (Ext.trans hE4.out hB9)
    clear hE4 hB9
    go_wp2
    go_ret
    exact ⟨rfl, hE9.out⟩

set_option maxRecDepth 100000 in
set_option maxHeartbeats 4000000 in
theorem vclockOrder_walk (a0 : Option Addr) (len0 cap0 : Nat) (z0 : List Int) (a1 : Option Addr) (len1 cap1 : Nat) (z1 : List Int) (a2 : Option Addr) (len2 cap2 : Nat) (z2 : List Int) (w : World) (w0 : IsRow .i64 w a0 len0 cap0 z0) (w1 : IsRow .i64 w a1 len1 cap1 z1) (w2 : IsRow .i64 w a2 len2 cap2 z2) :
    Gives Try.prog 5 #[.slice a0 len0 cap0, .slice a1 len1 cap1, .slice a2 len2 cap2] w (.bool true) := by
  obtain ⟨l, rfl, hl, h1, _⟩ := w0.ints
  obtain ⟨m, rfl, hm, h2, _⟩ := w1.ints
  obtain ⟨n, rfl, hn, h3, _⟩ := w2.ints
  have G := great3 a0 a1 a2 l.length m.length n.length cap0 cap1 cap2 w 23
  by_cases h5 : l.length ≤ 34 ∧ m.length ≤ 34 ∧ n.length ≤ 34
  · obtain ⟨e1, e2, e3⟩ := h5
    cases ok : okB l m n with
    | true =>
      have hok := ok
      simp [okB] at hok
      have q1 : chk l = 0 := by simp_all
      have q2 : chk m = 0 := by simp_all
      have q3 : chk n = 0 := by simp_all
      have p1 : l.length = m.length := by omega
      have p2 : m.length = n.length := by omega
      exact order_main l m n a0 a1 a2 cap0 cap1 cap2 w e1 e2 e3 h1 h2 h3 ok _ _ _ rfl rfl rfl (cmp_range q1 q2 p1) (cmp_range q2 q3 p2) (cmp_mir q1 q2 p1) (cmp_self q1) (cmp_zero q1 q2 p1) (fun a b => cmp_trans q1 q2 q3 p1 p2 a b)
    | false =>
      rw [show (longB (a0, l.length, cap0) || longB (a1, m.length, cap1) || longB (a2, n.length, cap2)) = false by simp [longB]; omega] at G
      have V := Lib.hid (fun w' (hB : Below w.heap.size w w') => valid3_any l m n a0 a1 a2 cap0 cap1 cap2 w' 23 e1 e2 e3 (h1.below hB) (h2.below hB) (h3.below hB))
      rw [ok] at V
      clear w0 w1 w2 h1 h2 h3 hl hm hn ok
      unfold Gives
      go_enter Try.func5, Try.ntmps5
      go_wp2_with fail
      refine G.mono ?_
      intro w0 hB0
      have hE0 := Lib.hid (show Ext w w0 from Ext.trans (show Ext w (w.alloc (.cells #[.slice a0 l.length cap0, .slice a1 m.length cap1, .slice a2 n.length cap2] 23)) from (Below.refl _ w).alloc (Nat.le_refl _) _) hB0)
      clear hB0 G
      go_wp2_with fail
      refine (V.out _ hE0.out).mono ?_
      intro w1 hB1
      have hE1 := Lib.hid (show Ext w w1 from Ext.trans hE0.out (Ext.trans (show Ext w0 (w0.alloc (.cells #[.slice a0 l.length cap0, .slice a1 m.length cap1, .slice a2 n.length cap2] 23)) from (Below.refl _ w0).alloc (Nat.le_refl _) _) hB1))
      clear hE0 hB1 V
      go_wp2_with fail
      refine (awake_any _).mono ?_
      intro w9 hB9
      have hE9 := Lib.hid (Ext.trans hE1.out hB9)
      clear hE1 hB9
      go_wp2
      go_ret
      exact ⟨rfl, hE9.out⟩
  · rw [show (longB (a0, l.length, cap0) || longB (a1, m.length, cap1) || longB (a2, n.length, cap2)) = true by simp [longB]; omega] at G
    clear w0 w1 w2 h1 h2 h3 hl hm hn h5
    unfold Gives
    go_enter Try.func5, Try.ntmps5
    go_wp2_with fail
    refine G.mono ?_
    intro w0 hB0
    have hE0 := Lib.hid (show Ext w w0 from Ext.trans (show Ext w (w.alloc (.cells #[.slice a0 l.length cap0, .slice a1 m.length cap1, .slice a2 n.length cap2] 23)) from (Below.refl _ w).alloc (Nat.le_refl _) _) hB0)
    clear hB0 G
    go_wp2_with fail
    refine (awake_any _).mono ?_
    intro w9 hB9
    have hE9 := Lib.hid (Ext.trans hE0.out hB9)
    clear hE0 hB9
    go_wp2
    go_ret
    exact ⟨rfl, hE9.out⟩

end Go.Proofs.Ytaplbcmpjhdohaa
