/- Lemmas and walks for the statements of this seat, part 9, merged from smaller texts: The reader's operand: parentheses.; The reader's operand: what is wrong; operand. -/
import Derived.Test.YtmokejjndkibhaaGreatDoorSh8

namespace Go.Proofs.YtmokejjndkibhaaGreatDoor
open Go.RowKit Go.Shelf Ex
set_option linter.unusedVariables false
set_option linter.unusedSimpArgs false

set_option maxRecDepth 100000 in
set_option maxHeartbeats 8000000 in
theorem operand_par {w0 : World} {R : Nat} {p : Option Addr} {c : Nat} {l : List Tk} (hE : RdE w0 R p c l) (k : Nat) (hk : k < l.length) (h1 : l[k].kind = 3) (h2 : l[k].text = [40]) (IB : BiC w0 R p c l 1 (k + 1)) (e : Ex) (j : Nat) (hR : Rd l (.bin 1) (k + 1) (.ok e j)) (h3 : sgB l j [41] = true) (w : World) (hb : Below w0.heap.size w0 w) (hrd : w.heap[R]? = some (rdO p l.length c k)) :
    Calls Tryz.prog 91 #[.pointer (some ⟨R, 0, none⟩)] w (Got R p l.length c w (.ok e (j + 1))) := by
  obtain ⟨b, off, rfl, q0, q1, q2, q3⟩ := hE.tks k hk
  have HE := Lib.hid hE
  have HB0 := Lib.hid hb
  have HR0 := Lib.hid hrd
  have HRl := Lib.hid (lt_of_block hrd)
  have HRb := Lib.hid (show b ≠ R from fun e => by have h1 := cell_lt' q0; have h2 := hE.low; simp only at h1; omega)
  have d0 : w.cell? ⟨R, 0, none⟩ = some (.slice (some ⟨b, off, none⟩) l.length c) := cell_of hrd rfl
  have d1 : w.cell? ⟨R, 1, none⟩ = some (.int .i64 (k : Int)) := cell_of hrd rfl
  have c0 := (hb.cell (p := ⟨b, off + k * 4, none⟩) (cell_lt' q0)).trans q0
  have c1 := (hb.cell (p := ⟨b, off + k * 4 + 1, none⟩) (cell_lt' q1)).trans q1
  have c2 := (hb.cell (p := ⟨b, off + k * 4 + 2, none⟩) (cell_lt' q2)).trans q2
  have c3 := (hb.cell (p := ⟨b, off + k * 4 + 3, none⟩) (cell_lt' q3)).trans q3
  have hn9 := hE.len
  have hcap := hE.cap
  clear q0 q1 q2 q3
  have htx : (l[k]).text.length ≤ 140737488351232 := hE.txt _ (List.getElem_mem hk)
  generalize l[k] = t at *
  obtain ⟨tk, tx, tv, tp⟩ := t
  dsimp only at *
  have KC := Lib.hid (fun W hb hr => IB W _ hb hr hR)
  have KI := Lib.hid (fun W hb hT => (show Gives Tryz.prog 132 #[.pointer (some ⟨R, 0, none⟩), .string { data := #[41] }] W (.bool true) from by
    have := rdIs_any R (some ⟨b, off, none⟩) c j l [41] W hb hE.len (hR.bound (by decide) (by omega)).2.1 hT
    rw [h3] at this
    exact this))
  have hj9 : j ≤ l.length := (hR.bound (by decide) (by omega)).2.1
  obtain ⟨k1, o1, n1, v1, ts⟩ := e
  clear IB hR h3
  obtain ⟨n, hn⟩ : ∃ n, l.length = n := ⟨_, rfl⟩
  rw [hn] at hk hrd HR0 hn9 hcap d0 KC KI hj9
  rw [hn]
  have HN := Lib.hid hn
  clear hn
  have X0 := Lib.hid d0
  have X1 := Lib.hid d1
  have Y0 := Lib.hid c0
  have Y1 := Lib.hid c1
  have Y2 := Lib.hid c2
  have Y3 := Lib.hid c3
  clear c0 c1 c2 c3 hE hb hrd
  subst h1
  subst h2
  have q45 : (sB [40] == { data := #[45] }) = false := by show (sB [40] == sB [45]) = false; rw [sB_beq]; rfl
  have q33 : (sB [40] == { data := #[33] }) = false := by show (sB [40] == sB [33]) = false; rw [sB_beq]; rfl
  have q40 : (sB [40] == { data := #[40] }) = true := by show (sB [40] == sB [40]) = true; rw [sB_beq]; rfl

  have hkn : (k : Int) < (n : Int) := by omega
  have hkc : k < n := hk
  have hk0 : (0 : Int) ≤ (k : Int) := by omega
  have hge : ¬ (n : Int) ≤ (k : Int) := by omega
  have hge2 : ¬ n ≤ k := by omega
  have hRl := HRl.out
  go_enter Tryz.func91, Tryz.ntmps91
  go_wp2
  go_quiet (fail)
  go_wp2
  obtain ⟨w1, hw1⟩ : ∃ W, W = World.drewN (w.alloc (.cells #[.int .i64 0, .int .i64 0, .string { data := #[] }, .int .i64 0, .slice none 0 0] 25)) nq := ⟨_, rfl⟩
  have HX1 := Lib.hid (show Ext w w1 by rw [hw1]; exact Ext.drewN' (ext_alloc w _))
  have HZ1 := Lib.hid (show w1.heap[w.heap.size]? = some (.cells #[.int .i64 0, .int .i64 0, .string { data := #[] }, .int .i64 0, .slice none 0 0] 25) by rw [hw1]; exact alloc_here w _)
  change Code.wp _ _ _ _ (World.drewN (w.alloc (.cells #[.int .i64 0, .int .i64 0, .string { data := #[] }, .int .i64 0, .slice none 0 0] 25)) nq)
  rw [← hw1]
  clear hw1 d0 d1
  replace X0 := Lib.hid (Ext.cellE X0.out HX1.out)
  replace X1 := Lib.hid (Ext.cellE X1.out HX1.out)
  replace Y0 := Lib.hid (Ext.cellE Y0.out HX1.out)
  replace Y1 := Lib.hid (Ext.cellE Y1.out HX1.out)
  replace Y2 := Lib.hid (Ext.cellE Y2.out HX1.out)
  replace Y3 := Lib.hid (Ext.cellE Y3.out HX1.out)
  refine wp_region_tail (l1 := [_, _, _, _, _, _, _, _, _, _, _]) (l2 := [_]) (by kernel_rfl) Ext (fun W => Below.refl _ W) (fun W => show Below W.heap.size W { W with drawn := W.drawn + 1 } from ⟨rfl, rfl, rfl, Nat.le_refl _, fun _ _ => rfl⟩) Ext.trans
    (fun i s W => match i with
      | 0 => s 0 = .pointer (some ⟨R, 0, none⟩)
      | 1 => s 1 = .pointer (some ⟨R, 0, none⟩)
      | 2 => s 2 = .pointer (some ⟨R, 0, none⟩)
      | 3 => s 3 = .slice (some ⟨b, off, none⟩) n c
      | 4 => s 4 = .pointer (some ⟨R, 0, none⟩)
      | 5 => s 5 = .pointer (some ⟨R, 0, none⟩)
      | 6 => s 6 = .pointer (some ⟨R, 1, none⟩)
      | 7 => s 7 = .int .i64 (k : Int)
      | 8 => s 8 = .pointer (some ⟨b, off + k * 4, none⟩)
      | 9 => s 9 = .agg #[.int .i64 (3), sV [40], .int .i64 tv, .int .i64 tp]
      | 10 => ∃ g, s 10 = .pointer (some ⟨g, 0, none⟩) ∧ w1.heap.size ≤ g ∧ W.heap[g]? = some (.cells #[.int .i64 0, .string { data := #[] }, .int .i64 0, .int .i64 0] 36)
      | _ => True)
    (fun i => [i])
    (by
      intro i s s' W W' h hs hE
      have hs := hs i (by simp)
      match i, h, hs with
      | 0, h, hs => exact hs.trans h
      | 1, h, hs => exact hs.trans h
      | 2, h, hs => exact hs.trans h
      | 3, h, hs => exact hs.trans h
      | 4, h, hs => exact hs.trans h
      | 5, h, hs => exact hs.trans h
      | 6, h, hs => exact hs.trans h
      | 7, h, hs => exact hs.trans h
      | 8, h, hs => exact hs.trans h
      | 9, h, hs => exact hs.trans h
      | 10, ⟨g, h1, h2, h3⟩, hs => exact ⟨g, hs.trans h1, h2, (hE.below.block _ (lt_of_block h3)).trans h3⟩
      | i + 11, h, hs => exact trivial)
    (by kernel_rfl) (by kernel_rfl) (by kernel_rfl) 128 rfl (by kernel_rfl) (by kernel_rfl) ?_ ?_
  · intro i op ho a' W hA
    have x0 := Ext.cellE X0.out hA.rel
    have x1 := Ext.cellE X1.out hA.rel
    have y0 := Ext.cellE Y0.out hA.rel
    have y1 := Ext.cellE Y1.out hA.rel
    have y2 := Ext.cellE Y2.out hA.rel
    have y3 := Ext.cellE Y3.out hA.rel
    match i, ho with
    | 0, ho =>
      obtain rfl := Option.some.inj ho
      have e1 : a'.eval (.tmp 0) = .pointer (some ⟨R, 0, none⟩) := hA.keep 0 (by kernel_rfl)
      refine GoesG.value (.pointer (some ⟨R, 0, none⟩)) rfl ?_ (Below.refl _ _) (fun s h1 h2 => h1 rfl)
      simp only [execOp, e1]
      simp [go_sem, x0, x1, y0, y1, y2, y3, hkc, hkn, hk0]
    | 1, ho =>
      obtain rfl := Option.some.inj ho
      have e1 : a'.eval (.tmp 21) = .pointer (some ⟨R, 0, none⟩) := (sv_dst (l := _) rfl).symm.trans (hA.new 0 (by decide) (by kernel_rfl))
      refine GoesG.value (.pointer (some ⟨R, 0, none⟩)) rfl ?_ (Below.refl _ _) (fun s h1 h2 => h1 rfl)
      simp only [execOp, e1]
      simp [go_sem, x0, x1, y0, y1, y2, y3, hkc, hkn, hk0]
    | 2, ho =>
      obtain rfl := Option.some.inj ho
      have e1 : a'.eval (.tmp 22) = .pointer (some ⟨R, 0, none⟩) := (sv_dst (l := _) rfl).symm.trans (hA.new 1 (by decide) (by kernel_rfl))
      refine GoesG.value (.pointer (some ⟨R, 0, none⟩)) rfl ?_ (Below.refl _ _) (fun s h1 h2 => h1 rfl)
      simp only [execOp, e1]
      simp [go_sem, x0, x1, y0, y1, y2, y3, hkc, hkn, hk0]
    | 3, ho =>
      obtain rfl := Option.some.inj ho
      have e1 : a'.eval (.tmp 23) = .pointer (some ⟨R, 0, none⟩) := (sv_dst (l := _) rfl).symm.trans (hA.new 2 (by decide) (by kernel_rfl))
      refine GoesG.value (.slice (some ⟨b, off, none⟩) n c) rfl ?_ (Below.refl _ _) (fun s h1 h2 => h1 rfl)
      simp only [execOp, e1]
      simp [go_sem, x0, x1, y0, y1, y2, y3, hkc, hkn, hk0]
    | 4, ho =>
      obtain rfl := Option.some.inj ho
      have e1 : a'.eval (.tmp 0) = .pointer (some ⟨R, 0, none⟩) := hA.keep 0 (by kernel_rfl)
      refine GoesG.value (.pointer (some ⟨R, 0, none⟩)) rfl ?_ (Below.refl _ _) (fun s h1 h2 => h1 rfl)
      simp only [execOp, e1]
      simp [go_sem, x0, x1, y0, y1, y2, y3, hkc, hkn, hk0]
    | 5, ho =>
      obtain rfl := Option.some.inj ho
      have e1 : a'.eval (.tmp 25) = .pointer (some ⟨R, 0, none⟩) := (sv_dst (l := _) rfl).symm.trans (hA.new 4 (by decide) (by kernel_rfl))
      refine GoesG.value (.pointer (some ⟨R, 0, none⟩)) rfl ?_ (Below.refl _ _) (fun s h1 h2 => h1 rfl)
      simp only [execOp, e1]
      simp [go_sem, x0, x1, y0, y1, y2, y3, hkc, hkn, hk0]
    | 6, ho =>
      obtain rfl := Option.some.inj ho
      have e1 : a'.eval (.tmp 26) = .pointer (some ⟨R, 0, none⟩) := (sv_dst (l := _) rfl).symm.trans (hA.new 5 (by decide) (by kernel_rfl))
      refine GoesG.value (.pointer (some ⟨R, 1, none⟩)) rfl ?_ (Below.refl _ _) (fun s h1 h2 => h1 rfl)
      simp only [execOp, e1]
      simp [go_sem, x0, x1, y0, y1, y2, y3, hkc, hkn, hk0]
    | 7, ho =>
      obtain rfl := Option.some.inj ho
      have e1 : a'.eval (.tmp 27) = .pointer (some ⟨R, 1, none⟩) := (sv_dst (l := _) rfl).symm.trans (hA.new 6 (by decide) (by kernel_rfl))
      refine GoesG.value (.int .i64 (k : Int)) rfl ?_ (Below.refl _ _) (fun s h1 h2 => h1 rfl)
      simp only [execOp, e1]
      simp [go_sem, x0, x1, y0, y1, y2, y3, hkc, hkn, hk0]
    | 8, ho =>
      obtain rfl := Option.some.inj ho
      have e1 : a'.eval (.tmp 24) = .slice (some ⟨b, off, none⟩) n c := (sv_dst (l := _) rfl).symm.trans (hA.new 3 (by decide) (by kernel_rfl))
      have e2 : a'.eval (.tmp 28) = .int .i64 (k : Int) := (sv_dst (l := _) rfl).symm.trans (hA.new 7 (by decide) (by kernel_rfl))
      refine GoesG.value (.pointer (some ⟨b, off + k * 4, none⟩)) rfl ?_ (Below.refl _ _) (fun s h1 h2 => h1 rfl)
      simp only [execOp, e1, e2]
      simp [go_sem, x0, x1, y0, y1, y2, y3, hkc, hkn, hk0]
    | 9, ho =>
      obtain rfl := Option.some.inj ho
      have e1 : a'.eval (.tmp 29) = .pointer (some ⟨b, off + k * 4, none⟩) := (sv_dst (l := _) rfl).symm.trans (hA.new 8 (by decide) (by kernel_rfl))
      refine GoesG.value (.agg #[.int .i64 (3), sV [40], .int .i64 tv, .int .i64 tp]) rfl ?_ (Below.refl _ _) (fun s h1 h2 => h1 rfl)
      simp only [execOp, e1]
      simp [go_sem, x0, x1, y0, y1, y2, y3, hkc, hkn, hk0]
    | 10, ho =>
      obtain rfl := Option.some.inj ho
      refine GoesG.value (.pointer (some ⟨W.heap.size, 0, none⟩)) (W' := W.alloc (.cells #[.int .i64 0, .string { data := #[] }, .int .i64 0, .int .i64 0] 36)) rfl ?_ (ext_alloc _ _) (fun s h1 h2 => ⟨W.heap.size, h1 rfl, hA.rel.size, alloc_here _ _⟩)
      simp only [execOp]
      simp [go_sem, sB_nil]
    | i + 11, ho => cases ho
  · intro vs w4 hvs hG hΦ
    obtain ⟨z0, z1, z2, z3, z4, z5, z6, z7, z8, z9, z10, rfl⟩ : ∃ z0 z1 z2 z3 z4 z5 z6 z7 z8 z9 z10, vs = z0 :: z1 :: z2 :: z3 :: z4 :: z5 :: z6 :: z7 :: z8 :: z9 :: z10 :: [] := by
      match vs, hvs with
      | y0 :: y1 :: y2 :: y3 :: y4 :: y5 :: y6 :: y7 :: y8 :: y9 :: y10 :: [], _ => exact ⟨y0, y1, y2, y3, y4, y5, y6, y7, y8, y9, y10, rfl⟩
    have e0 : z0 = .pointer (some ⟨R, 0, none⟩) := hΦ 0 (by decide)
    subst e0
    have e1 : z1 = .pointer (some ⟨R, 0, none⟩) := hΦ 1 (by decide)
    subst e1
    have e2 : z2 = .pointer (some ⟨R, 0, none⟩) := hΦ 2 (by decide)
    subst e2
    have e3 : z3 = .slice (some ⟨b, off, none⟩) n c := hΦ 3 (by decide)
    subst e3
    have e4 : z4 = .pointer (some ⟨R, 0, none⟩) := hΦ 4 (by decide)
    subst e4
    have e5 : z5 = .pointer (some ⟨R, 0, none⟩) := hΦ 5 (by decide)
    subst e5
    have e6 : z6 = .pointer (some ⟨R, 1, none⟩) := hΦ 6 (by decide)
    subst e6
    have e7 : z7 = .int .i64 (k : Int) := hΦ 7 (by decide)
    subst e7
    have e8 : z8 = .pointer (some ⟨b, off + k * 4, none⟩) := hΦ 8 (by decide)
    subst e8
    have e9 : z9 = .agg #[.int .i64 (3), sV [40], .int .i64 tv, .int .i64 tp] := hΦ 9 (by decide)
    subst e9
    have p10 : ∃ g, z10 = .pointer (some ⟨g, 0, none⟩) ∧ w1.heap.size ≤ g ∧ w4.heap[g]? = some (.cells #[.int .i64 0, .string { data := #[] }, .int .i64 0, .int .i64 0] 36) := hΦ 10 (by decide)
    clear hΦ hvs
    simp only [putAll, Act.put, List.setIfInBounds_toArray, List.set_cons_succ, List.set_cons_zero]
    obtain ⟨g, rfl, hg1, hg2⟩ := p10
    have e0 := cell_of (i := 0) hg2 rfl
    have e1 := cell_of (i := 1) hg2 rfl
    have e2 := cell_of (i := 2) hg2 rfl
    have e3 := cell_of (i := 3) hg2 rfl
    have f0 : ∀ i, w4.frozen? ⟨g, i, none⟩ = false := fun i => free_of hg2
    have HG2 := Lib.hid hg2
    have HG1 := Lib.hid hg1
    have HG := Lib.hid hG
    clear hg1 hg2 hG
    go_upto_region 4 with fail
    obtain ⟨w5, hw5, hg5, hB5, hO5⟩ := put4 HG2.out rfl (.int .i64 (3)) (sV [40]) (.int .i64 tv) (.int .i64 tp)
    rw [hw5]
    have HX5 := Lib.hid (show Ext w w5 from Below.trans (Below.trans HX1.out (HG.out.below.mono HX1.out.size)) (hB5 _ (Nat.le_trans HX1.out.size HG1.out)))
    have HBN := Lib.hid (show w.heap.size < g from Nat.lt_of_lt_of_le (lt_of_block HZ1.out) HG1.out)
    have hr5 : w5.heap[R]? = some (rdO (some ⟨b, off, none⟩) n c k) := (HX5.out.below.block _ HRl.out).trans HR0.out
    have HZ5 := Lib.hid (show w5.heap[w.heap.size]? = some (.cells #[.int .i64 0, .int .i64 0, .string { data := #[] }, .int .i64 0, .slice none 0 0] 25) from (hO5 _ (by have := HBN.out; omega)).trans ((HG.out.below.block _ (lt_of_block HZ1.out)).trans HZ1.out))
    have HG5 := Lib.hid hg5
    have HR5 := Lib.hid hr5
    have d0 : w5.cell? ⟨R, 0, none⟩ = some (.slice (some ⟨b, off, none⟩) n c) := cell_of hr5 rfl
    have d1 : w5.cell? ⟨R, 1, none⟩ = some (.int .i64 (k : Int)) := cell_of hr5 rfl
    have g0 : ∀ i, w5.frozen? ⟨R, i, none⟩ = false := fun i => free_of hr5
    clear hw5 hg5 hB5 hO5 hr5 e0 e1 e2 e3 f0 X0 X1 Y0 Y1 Y2 Y3 HG HG2
    go_upto_region 5 with fail
    obtain ⟨w6, hw6⟩ : ∃ W, w5.setCell ⟨R, 1, none⟩ (.int .i64 ((k : Int) + 1)) = W := ⟨_, rfl⟩
    rw [hw6]
    have HR6 := Lib.hid (show w6.heap[R]? = some (rdO (some ⟨b, off, none⟩) n c (k + 1)) from by
      have h := ((Turn.refl HR5.out).setCell (i := 1) (.int .i64 ((k : Int) + 1))).here
      rw [hw6] at h
      rw [h]; simp)
    have HO6 := Lib.hid (show Oth R w w6 from by rw [← hw6]; exact (Oth.of_ext HX5.out).trans (Oth.set R 1 _ w5))
    have HZ6 := Lib.hid (show w6.heap[w.heap.size]? = some (.cells #[.int .i64 0, .int .i64 0, .string { data := #[] }, .int .i64 0, .slice none 0 0] 25) from by rw [← hw6]; exact (Below.heap_setCell _ _ _ _ (by have := HRl.out; show w.heap.size ≠ R; omega)).trans HZ5.out)
    have hg6 : w6.heap[g]? = some (.cells #[.int .i64 (3), sV [40], .int .i64 tv, .int .i64 tp] tTk) := by rw [← hw6]; exact (Below.heap_setCell _ _ _ _ (by have := HRl.out; have := HBN.out; show g ≠ R; omega)).trans HG5.out
    have HG6 := Lib.hid hg6
    have HL6 := Lib.hid (show Below w0.heap.size w0 w6 from Below.trans HB0.out (HO6.out.below HE.out.low HB0.out.size))
    have e0 := cell_of (i := 0) hg6 rfl
    have e1 := cell_of (i := 1) hg6 rfl
    have e2 := cell_of (i := 2) hg6 rfl
    have e3 := cell_of (i := 3) hg6 rfl
    clear hw6 d0 d1 g0 HR5 HG5 HZ5 HX5 hg6 HZ1 HX1
    go_wp2_with fail
    refine (KC.out _ HL6.out HR6.out).mono ?_
    rintro _ w7 ⟨q, cc, rfl, hA, hO, hr⟩
    dsimp only [Ex.val, Ex.kind, Ex.op, Ex.name, Ex.value, Ex.args]
    have HA := Lib.hid hA
    have HO7 := Lib.hid (HO6.out.trans hO)
    have HR7 := Lib.hid hr
    have HZ7 := Lib.hid ((hO.other _ (lt_of_block HZ6.out) (by have := HRl.out; omega)).trans HZ6.out)
    have HS6 := Lib.hid (show w.heap.size < w6.heap.size from lt_of_block HZ6.out)
    have HL7 := Lib.hid (show Below w0.heap.size w0 w7 from Below.trans HL6.out (hO.below HE.out.low HL6.out.size))
    have HS7 := Lib.hid hO.size
    clear hA hO hr e0 e1 e2 e3
    obtain ⟨m, hm⟩ : ∃ m, ts.length = m := ⟨_, rfl⟩
    rw [hm]
    have HM := Lib.hid hm
    clear hm
    have HX8 := Lib.hid (ext_alloc w7 (.cells #[.int .i64 k1, .int .i64 o1, sV n1, .int .i64 v1, .slice q m cc] 25))
    have HB8 := Lib.hid (alloc_here w7 (.cells #[.int .i64 k1, .int .i64 o1, sV n1, .int .i64 v1, .slice q m cc] 25))
    have HR8 := Lib.hid ((HX8.out.below.block _ (lt_of_block HR7.out)).trans HR7.out)
    have HZ8 := Lib.hid ((HX8.out.below.block _ (lt_of_block HZ7.out)).trans HZ7.out)
    have HL8 := Lib.hid (low_ext HL7.out HX8.out)
    go_wp2_with fail
    refine (KI.out _ HR8.out (HE.out.tks.ext HL8.out)).mono ?_
    intro w9 hE9
    replace hE9 : Ext _ w9 := hE9
    have hr9 := (hE9.below.block _ (lt_of_block HR8.out)).trans HR8.out
    have HR9 := Lib.hid hr9
    have HZ9 := Lib.hid ((hE9.below.block _ (lt_of_block HZ8.out)).trans HZ8.out)
    have HB9 := Lib.hid ((hE9.below.block _ (lt_of_block HB8.out)).trans HB8.out)
    have HX9 := Lib.hid (Ext.trans HX8.out hE9)
    have HO9 := Lib.hid (HO7.out.trans (Oth.of_ext HX9.out))
    have d1 : w9.cell? ⟨R, 1, none⟩ = some (.int .i64 (j : Int)) := cell_of hr9 rfl
    have f1 : ∀ i, w9.frozen? ⟨R, i, none⟩ = false := fun i => free_of hr9
    clear hE9 hr9
    go_upto_region 18 with fail
    obtain ⟨w10, hw10⟩ : ∃ W, w9.setCell ⟨R, 1, none⟩ (.int .i64 ((j : Int) + 1)) = W := ⟨_, rfl⟩
    rw [hw10]
    have HR10 := Lib.hid (show w10.heap[R]? = some (rdO (some ⟨b, off, none⟩) n c (j + 1)) from by
      have h := ((Turn.refl HR9.out).setCell (i := 1) (.int .i64 ((j : Int) + 1))).here
      rw [hw10] at h
      rw [h]; simp)
    have HO10 := Lib.hid (show Oth R w9 w10 from by rw [← hw10]; exact Oth.set R 1 _ w9)
    have hz10 := (HO10.out.other _ (lt_of_block HZ9.out) (by have := HRl.out; omega)).trans HZ9.out
    have hb10 := (HO10.out.other _ (lt_of_block HB9.out) (by have := HRl.out; have := HS6.out; have := HS7.out; omega)).trans HB9.out
    have HZ10 := Lib.hid hz10
    have HB10 := Lib.hid hb10
    have z0 := cell_of (i := 0) hz10 rfl
    have z1 := cell_of (i := 1) hz10 rfl
    have z2 := cell_of (i := 2) hz10 rfl
    have z3 := cell_of (i := 3) hz10 rfl
    have z4 := cell_of (i := 4) hz10 rfl
    have zf : ∀ i, w10.frozen? ⟨w.heap.size, i, none⟩ = false := fun i => free_of hz10
    have y0 := cell_of (i := 0) hb10 rfl
    have y1 := cell_of (i := 1) hb10 rfl
    have y2 := cell_of (i := 2) hb10 rfl
    have y3 := cell_of (i := 3) hb10 rfl
    have y4 := cell_of (i := 4) hb10 rfl
    clear hw10 hz10 hb10 d1 f1
    go_wp2
    clear z0 z1 z2 z3 z4 zf y0 y1 y2 y3 y4
    obtain ⟨W', hW', h3, h4, h5⟩ := put5n HZ10.out rfl (.int .i64 k1) (.int .i64 o1) (sV n1) (.int .i64 v1) (.slice q m cc)
    rw [hW']
    have z0 := cell_of (i := 0) h3 rfl
    have z1 := cell_of (i := 1) h3 rfl
    have z2 := cell_of (i := 2) h3 rfl
    have z3 := cell_of (i := 3) h3 rfl
    have z4 := cell_of (i := 4) h3 rfl
    exact bodyPost_ret (v := .agg #[.int .i64 k1, .int .i64 o1, sV n1, .int .i64 v1, .slice q m cc]) (by simp [results, Tryz.f91, go_sem, z0, z1, z2, z3, z4]) rfl ⟨q, cc, by rw [← HM.out]; rfl, ((HA.out.oth ((Oth.of_ext HX9.out).trans HO10.out) (fun b hb => by have := HRl.out; have := HS6.out; omega)).imp (fun b hb _ => hb)).keep (fun b hb hl => ⟨by have := HS6.out; omega, h5 b (by have := HS6.out; omega)⟩), (HO9.out.trans HO10.out).then (h4 _ (Nat.le_refl _)), (h5 R (by have := HRl.out; omega)).trans HR10.out⟩

set_option maxRecDepth 100000 in
set_option maxHeartbeats 8000000 in
theorem operand_parN {w0 : World} {R : Nat} {p : Option Addr} {c : Nat} {l : List Tk} (hE : RdE w0 R p c l) (k : Nat) (hk : k < l.length) (h1 : l[k].kind = 3) (h2 : l[k].text = [40]) (IB : BiC w0 R p c l 1 (k + 1)) (e : Ex) (j : Nat) (hR : Rd l (.bin 1) (k + 1) (.ok e j)) (h3 : sgB l j [41] = false) (w : World) (hb : Below w0.heap.size w0 w) (hrd : w.heap[R]? = some (rdO p l.length c k)) :
    Calls Tryz.prog 91 #[.pointer (some ⟨R, 0, none⟩)] w (Got R p l.length c w (.bad j)) := by
  obtain ⟨b, off, rfl, q0, q1, q2, q3⟩ := hE.tks k hk
  have HE := Lib.hid hE
  have HB0 := Lib.hid hb
  have HR0 := Lib.hid hrd
  have HRl := Lib.hid (lt_of_block hrd)
  have HRb := Lib.hid (show b ≠ R from fun e => by have h1 := cell_lt' q0; have h2 := hE.low; simp only at h1; omega)
  have d0 : w.cell? ⟨R, 0, none⟩ = some (.slice (some ⟨b, off, none⟩) l.length c) := cell_of hrd rfl
  have d1 : w.cell? ⟨R, 1, none⟩ = some (.int .i64 (k : Int)) := cell_of hrd rfl
  have c0 := (hb.cell (p := ⟨b, off + k * 4, none⟩) (cell_lt' q0)).trans q0
  have c1 := (hb.cell (p := ⟨b, off + k * 4 + 1, none⟩) (cell_lt' q1)).trans q1
  have c2 := (hb.cell (p := ⟨b, off + k * 4 + 2, none⟩) (cell_lt' q2)).trans q2
  have c3 := (hb.cell (p := ⟨b, off + k * 4 + 3, none⟩) (cell_lt' q3)).trans q3
  have hn9 := hE.len
  have hcap := hE.cap
  clear q0 q1 q2 q3
  have htx : (l[k]).text.length ≤ 140737488351232 := hE.txt _ (List.getElem_mem hk)
  generalize l[k] = t at *
  obtain ⟨tk, tx, tv, tp⟩ := t
  dsimp only at *
  have KC := Lib.hid (fun W hb hr => IB W _ hb hr hR)
  have KI := Lib.hid (fun W hb hT => (show Gives Tryz.prog 132 #[.pointer (some ⟨R, 0, none⟩), .string { data := #[41] }] W (.bool false) from by
    have := rdIs_any R (some ⟨b, off, none⟩) c j l [41] W hb hE.len (hR.bound (by decide) (by omega)).2.1 hT
    rw [h3] at this
    exact this))
  have hj9 : j ≤ l.length := (hR.bound (by decide) (by omega)).2.1
  obtain ⟨k1, o1, n1, v1, ts⟩ := e
  clear IB hR h3
  obtain ⟨n, hn⟩ : ∃ n, l.length = n := ⟨_, rfl⟩
  rw [hn] at hk hrd HR0 hn9 hcap d0 KC KI hj9
  rw [hn]
  have HN := Lib.hid hn
  clear hn
  have X0 := Lib.hid d0
  have X1 := Lib.hid d1
  have Y0 := Lib.hid c0
  have Y1 := Lib.hid c1
  have Y2 := Lib.hid c2
  have Y3 := Lib.hid c3
  clear c0 c1 c2 c3 hE hb hrd
  subst h1
  subst h2
  have q45 : (sB [40] == { data := #[45] }) = false := by show (sB [40] == sB [45]) = false; rw [sB_beq]; rfl
  have q33 : (sB [40] == { data := #[33] }) = false := by show (sB [40] == sB [33]) = false; rw [sB_beq]; rfl
  have q40 : (sB [40] == { data := #[40] }) = true := by show (sB [40] == sB [40]) = true; rw [sB_beq]; rfl

  have hkn : (k : Int) < (n : Int) := by omega
  have hkc : k < n := hk
  have hk0 : (0 : Int) ≤ (k : Int) := by omega
  have hge : ¬ (n : Int) ≤ (k : Int) := by omega
  have hge2 : ¬ n ≤ k := by omega
  have hRl := HRl.out
  go_enter Tryz.func91, Tryz.ntmps91
  go_wp2
  go_quiet (fail)
  go_wp2
  obtain ⟨w1, hw1⟩ : ∃ W, W = World.drewN (w.alloc (.cells #[.int .i64 0, .int .i64 0, .string { data := #[] }, .int .i64 0, .slice none 0 0] 25)) nq := ⟨_, rfl⟩
  have HX1 := Lib.hid (show Ext w w1 by rw [hw1]; exact Ext.drewN' (ext_alloc w _))
  have HZ1 := Lib.hid (show w1.heap[w.heap.size]? = some (.cells #[.int .i64 0, .int .i64 0, .string { data := #[] }, .int .i64 0, .slice none 0 0] 25) by rw [hw1]; exact alloc_here w _)
  change Code.wp _ _ _ _ (World.drewN (w.alloc (.cells #[.int .i64 0, .int .i64 0, .string { data := #[] }, .int .i64 0, .slice none 0 0] 25)) nq)
  rw [← hw1]
  clear hw1 d0 d1
  replace X0 := Lib.hid (Ext.cellE X0.out HX1.out)
  replace X1 := Lib.hid (Ext.cellE X1.out HX1.out)
  replace Y0 := Lib.hid (Ext.cellE Y0.out HX1.out)
  replace Y1 := Lib.hid (Ext.cellE Y1.out HX1.out)
  replace Y2 := Lib.hid (Ext.cellE Y2.out HX1.out)
  replace Y3 := Lib.hid (Ext.cellE Y3.out HX1.out)
  refine wp_region_tail (l1 := [_, _, _, _, _, _, _, _, _, _, _]) (l2 := [_]) (by kernel_rfl) Ext (fun W => Below.refl _ W) (fun W => show Below W.heap.size W { W with drawn := W.drawn + 1 } from ⟨rfl, rfl, rfl, Nat.le_refl _, fun _ _ => rfl⟩) Ext.trans
    (fun i s W => match i with
      | 0 => s 0 = .pointer (some ⟨R, 0, none⟩)
      | 1 => s 1 = .pointer (some ⟨R, 0, none⟩)
      | 2 => s 2 = .pointer (some ⟨R, 0, none⟩)
      | 3 => s 3 = .slice (some ⟨b, off, none⟩) n c
      | 4 => s 4 = .pointer (some ⟨R, 0, none⟩)
      | 5 => s 5 = .pointer (some ⟨R, 0, none⟩)
      | 6 => s 6 = .pointer (some ⟨R, 1, none⟩)
      | 7 => s 7 = .int .i64 (k : Int)
      | 8 => s 8 = .pointer (some ⟨b, off + k * 4, none⟩)
      | 9 => s 9 = .agg #[.int .i64 (3), sV [40], .int .i64 tv, .int .i64 tp]
      | 10 => ∃ g, s 10 = .pointer (some ⟨g, 0, none⟩) ∧ w1.heap.size ≤ g ∧ W.heap[g]? = some (.cells #[.int .i64 0, .string { data := #[] }, .int .i64 0, .int .i64 0] 36)
      | _ => True)
    (fun i => [i])
    (by
      intro i s s' W W' h hs hE
      have hs := hs i (by simp)
      match i, h, hs with
      | 0, h, hs => exact hs.trans h
      | 1, h, hs => exact hs.trans h
      | 2, h, hs => exact hs.trans h
      | 3, h, hs => exact hs.trans h
      | 4, h, hs => exact hs.trans h
      | 5, h, hs => exact hs.trans h
      | 6, h, hs => exact hs.trans h
      | 7, h, hs => exact hs.trans h
      | 8, h, hs => exact hs.trans h
      | 9, h, hs => exact hs.trans h
      | 10, ⟨g, h1, h2, h3⟩, hs => exact ⟨g, hs.trans h1, h2, (hE.below.block _ (lt_of_block h3)).trans h3⟩
      | i + 11, h, hs => exact trivial)
    (by kernel_rfl) (by kernel_rfl) (by kernel_rfl) 128 rfl (by kernel_rfl) (by kernel_rfl) ?_ ?_
  · intro i op ho a' W hA
    have x0 := Ext.cellE X0.out hA.rel
    have x1 := Ext.cellE X1.out hA.rel
    have y0 := Ext.cellE Y0.out hA.rel
    have y1 := Ext.cellE Y1.out hA.rel
    have y2 := Ext.cellE Y2.out hA.rel
    have y3 := Ext.cellE Y3.out hA.rel
    match i, ho with
    | 0, ho =>
      obtain rfl := Option.some.inj ho
      have e1 : a'.eval (.tmp 0) = .pointer (some ⟨R, 0, none⟩) := hA.keep 0 (by kernel_rfl)
      refine GoesG.value (.pointer (some ⟨R, 0, none⟩)) rfl ?_ (Below.refl _ _) (fun s h1 h2 => h1 rfl)
      simp only [execOp, e1]
      simp [go_sem, x0, x1, y0, y1, y2, y3, hkc, hkn, hk0]
    | 1, ho =>
      obtain rfl := Option.some.inj ho
      have e1 : a'.eval (.tmp 21) = .pointer (some ⟨R, 0, none⟩) := (sv_dst (l := _) rfl).symm.trans (hA.new 0 (by decide) (by kernel_rfl))
      refine GoesG.value (.pointer (some ⟨R, 0, none⟩)) rfl ?_ (Below.refl _ _) (fun s h1 h2 => h1 rfl)
      simp only [execOp, e1]
      simp [go_sem, x0, x1, y0, y1, y2, y3, hkc, hkn, hk0]
    | 2, ho =>
      obtain rfl := Option.some.inj ho
      have e1 : a'.eval (.tmp 22) = .pointer (some ⟨R, 0, none⟩) := (sv_dst (l := _) rfl).symm.trans (hA.new 1 (by decide) (by kernel_rfl))
      refine GoesG.value (.pointer (some ⟨R, 0, none⟩)) rfl ?_ (Below.refl _ _) (fun s h1 h2 => h1 rfl)
      simp only [execOp, e1]
      simp [go_sem, x0, x1, y0, y1, y2, y3, hkc, hkn, hk0]
    | 3, ho =>
      obtain rfl := Option.some.inj ho
      have e1 : a'.eval (.tmp 23) = .pointer (some ⟨R, 0, none⟩) := (sv_dst (l := _) rfl).symm.trans (hA.new 2 (by decide) (by kernel_rfl))
      refine GoesG.value (.slice (some ⟨b, off, none⟩) n c) rfl ?_ (Below.refl _ _) (fun s h1 h2 => h1 rfl)
      simp only [execOp, e1]
      simp [go_sem, x0, x1, y0, y1, y2, y3, hkc, hkn, hk0]
    | 4, ho =>
      obtain rfl := Option.some.inj ho
      have e1 : a'.eval (.tmp 0) = .pointer (some ⟨R, 0, none⟩) := hA.keep 0 (by kernel_rfl)
      refine GoesG.value (.pointer (some ⟨R, 0, none⟩)) rfl ?_ (Below.refl _ _) (fun s h1 h2 => h1 rfl)
      simp only [execOp, e1]
      simp [go_sem, x0, x1, y0, y1, y2, y3, hkc, hkn, hk0]
    | 5, ho =>
      obtain rfl := Option.some.inj ho
      have e1 : a'.eval (.tmp 25) = .pointer (some ⟨R, 0, none⟩) := (sv_dst (l := _) rfl).symm.trans (hA.new 4 (by decide) (by kernel_rfl))
      refine GoesG.value (.pointer (some ⟨R, 0, none⟩)) rfl ?_ (Below.refl _ _) (fun s h1 h2 => h1 rfl)
      simp only [execOp, e1]
      simp [go_sem, x0, x1, y0, y1, y2, y3, hkc, hkn, hk0]
    | 6, ho =>
      obtain rfl := Option.some.inj ho
      have e1 : a'.eval (.tmp 26) = .pointer (some ⟨R, 0, none⟩) := (sv_dst (l := _) rfl).symm.trans (hA.new 5 (by decide) (by kernel_rfl))
      refine GoesG.value (.pointer (some ⟨R, 1, none⟩)) rfl ?_ (Below.refl _ _) (fun s h1 h2 => h1 rfl)
      simp only [execOp, e1]
      simp [go_sem, x0, x1, y0, y1, y2, y3, hkc, hkn, hk0]
    | 7, ho =>
      obtain rfl := Option.some.inj ho
      have e1 : a'.eval (.tmp 27) = .pointer (some ⟨R, 1, none⟩) := (sv_dst (l := _) rfl).symm.trans (hA.new 6 (by decide) (by kernel_rfl))
      refine GoesG.value (.int .i64 (k : Int)) rfl ?_ (Below.refl _ _) (fun s h1 h2 => h1 rfl)
      simp only [execOp, e1]
      simp [go_sem, x0, x1, y0, y1, y2, y3, hkc, hkn, hk0]
    | 8, ho =>
      obtain rfl := Option.some.inj ho
      have e1 : a'.eval (.tmp 24) = .slice (some ⟨b, off, none⟩) n c := (sv_dst (l := _) rfl).symm.trans (hA.new 3 (by decide) (by kernel_rfl))
      have e2 : a'.eval (.tmp 28) = .int .i64 (k : Int) := (sv_dst (l := _) rfl).symm.trans (hA.new 7 (by decide) (by kernel_rfl))
      refine GoesG.value (.pointer (some ⟨b, off + k * 4, none⟩)) rfl ?_ (Below.refl _ _) (fun s h1 h2 => h1 rfl)
      simp only [execOp, e1, e2]
      simp [go_sem, x0, x1, y0, y1, y2, y3, hkc, hkn, hk0]
    | 9, ho =>
      obtain rfl := Option.some.inj ho
      have e1 : a'.eval (.tmp 29) = .pointer (some ⟨b, off + k * 4, none⟩) := (sv_dst (l := _) rfl).symm.trans (hA.new 8 (by decide) (by kernel_rfl))
      refine GoesG.value (.agg #[.int .i64 (3), sV [40], .int .i64 tv, .int .i64 tp]) rfl ?_ (Below.refl _ _) (fun s h1 h2 => h1 rfl)
      simp only [execOp, e1]
      simp [go_sem, x0, x1, y0, y1, y2, y3, hkc, hkn, hk0]
    | 10, ho =>
      obtain rfl := Option.some.inj ho
      refine GoesG.value (.pointer (some ⟨W.heap.size, 0, none⟩)) (W' := W.alloc (.cells #[.int .i64 0, .string { data := #[] }, .int .i64 0, .int .i64 0] 36)) rfl ?_ (ext_alloc _ _) (fun s h1 h2 => ⟨W.heap.size, h1 rfl, hA.rel.size, alloc_here _ _⟩)
      simp only [execOp]
      simp [go_sem, sB_nil]
    | i + 11, ho => cases ho
  · intro vs w4 hvs hG hΦ
    obtain ⟨z0, z1, z2, z3, z4, z5, z6, z7, z8, z9, z10, rfl⟩ : ∃ z0 z1 z2 z3 z4 z5 z6 z7 z8 z9 z10, vs = z0 :: z1 :: z2 :: z3 :: z4 :: z5 :: z6 :: z7 :: z8 :: z9 :: z10 :: [] := by
      match vs, hvs with
      | y0 :: y1 :: y2 :: y3 :: y4 :: y5 :: y6 :: y7 :: y8 :: y9 :: y10 :: [], _ => exact ⟨y0, y1, y2, y3, y4, y5, y6, y7, y8, y9, y10, rfl⟩
    have e0 : z0 = .pointer (some ⟨R, 0, none⟩) := hΦ 0 (by decide)
    subst e0
    have e1 : z1 = .pointer (some ⟨R, 0, none⟩) := hΦ 1 (by decide)
    subst e1
    have e2 : z2 = .pointer (some ⟨R, 0, none⟩) := hΦ 2 (by decide)
    subst e2
    have e3 : z3 = .slice (some ⟨b, off, none⟩) n c := hΦ 3 (by decide)
    subst e3
    have e4 : z4 = .pointer (some ⟨R, 0, none⟩) := hΦ 4 (by decide)
    subst e4
    have e5 : z5 = .pointer (some ⟨R, 0, none⟩) := hΦ 5 (by decide)
    subst e5
    have e6 : z6 = .pointer (some ⟨R, 1, none⟩) := hΦ 6 (by decide)
    subst e6
    have e7 : z7 = .int .i64 (k : Int) := hΦ 7 (by decide)
    subst e7
    have e8 : z8 = .pointer (some ⟨b, off + k * 4, none⟩) := hΦ 8 (by decide)
    subst e8
    have e9 : z9 = .agg #[.int .i64 (3), sV [40], .int .i64 tv, .int .i64 tp] := hΦ 9 (by decide)
    subst e9
    have p10 : ∃ g, z10 = .pointer (some ⟨g, 0, none⟩) ∧ w1.heap.size ≤ g ∧ w4.heap[g]? = some (.cells #[.int .i64 0, .string { data := #[] }, .int .i64 0, .int .i64 0] 36) := hΦ 10 (by decide)
    clear hΦ hvs
    simp only [putAll, Act.put, List.setIfInBounds_toArray, List.set_cons_succ, List.set_cons_zero]
    obtain ⟨g, rfl, hg1, hg2⟩ := p10
    have e0 := cell_of (i := 0) hg2 rfl
    have e1 := cell_of (i := 1) hg2 rfl
    have e2 := cell_of (i := 2) hg2 rfl
    have e3 := cell_of (i := 3) hg2 rfl
    have f0 : ∀ i, w4.frozen? ⟨g, i, none⟩ = false := fun i => free_of hg2
    have HG2 := Lib.hid hg2
    have HG1 := Lib.hid hg1
    have HG := Lib.hid hG
    clear hg1 hg2 hG
    go_upto_region 4 with fail
    obtain ⟨w5, hw5, hg5, hB5, hO5⟩ := put4 HG2.out rfl (.int .i64 (3)) (sV [40]) (.int .i64 tv) (.int .i64 tp)
    rw [hw5]
    have HX5 := Lib.hid (show Ext w w5 from Below.trans (Below.trans HX1.out (HG.out.below.mono HX1.out.size)) (hB5 _ (Nat.le_trans HX1.out.size HG1.out)))
    have HBN := Lib.hid (show w.heap.size < g from Nat.lt_of_lt_of_le (lt_of_block HZ1.out) HG1.out)
    have hr5 : w5.heap[R]? = some (rdO (some ⟨b, off, none⟩) n c k) := (HX5.out.below.block _ HRl.out).trans HR0.out
    have HZ5 := Lib.hid (show w5.heap[w.heap.size]? = some (.cells #[.int .i64 0, .int .i64 0, .string { data := #[] }, .int .i64 0, .slice none 0 0] 25) from (hO5 _ (by have := HBN.out; omega)).trans ((HG.out.below.block _ (lt_of_block HZ1.out)).trans HZ1.out))
    have HG5 := Lib.hid hg5
    have HR5 := Lib.hid hr5
    have d0 : w5.cell? ⟨R, 0, none⟩ = some (.slice (some ⟨b, off, none⟩) n c) := cell_of hr5 rfl
    have d1 : w5.cell? ⟨R, 1, none⟩ = some (.int .i64 (k : Int)) := cell_of hr5 rfl
    have g0 : ∀ i, w5.frozen? ⟨R, i, none⟩ = false := fun i => free_of hr5
    clear hw5 hg5 hB5 hO5 hr5 e0 e1 e2 e3 f0 X0 X1 Y0 Y1 Y2 Y3 HG HG2
    go_upto_region 5 with fail
    obtain ⟨w6, hw6⟩ : ∃ W, w5.setCell ⟨R, 1, none⟩ (.int .i64 ((k : Int) + 1)) = W := ⟨_, rfl⟩
    rw [hw6]
    have HR6 := Lib.hid (show w6.heap[R]? = some (rdO (some ⟨b, off, none⟩) n c (k + 1)) from by
      have h := ((Turn.refl HR5.out).setCell (i := 1) (.int .i64 ((k : Int) + 1))).here
      rw [hw6] at h
      rw [h]; simp)
    have HO6 := Lib.hid (show Oth R w w6 from by rw [← hw6]; exact (Oth.of_ext HX5.out).trans (Oth.set R 1 _ w5))
    have HZ6 := Lib.hid (show w6.heap[w.heap.size]? = some (.cells #[.int .i64 0, .int .i64 0, .string { data := #[] }, .int .i64 0, .slice none 0 0] 25) from by rw [← hw6]; exact (Below.heap_setCell _ _ _ _ (by have := HRl.out; show w.heap.size ≠ R; omega)).trans HZ5.out)
    have hg6 : w6.heap[g]? = some (.cells #[.int .i64 (3), sV [40], .int .i64 tv, .int .i64 tp] tTk) := by rw [← hw6]; exact (Below.heap_setCell _ _ _ _ (by have := HRl.out; have := HBN.out; show g ≠ R; omega)).trans HG5.out
    have HG6 := Lib.hid hg6
    have HL6 := Lib.hid (show Below w0.heap.size w0 w6 from Below.trans HB0.out (HO6.out.below HE.out.low HB0.out.size))
    have e0 := cell_of (i := 0) hg6 rfl
    have e1 := cell_of (i := 1) hg6 rfl
    have e2 := cell_of (i := 2) hg6 rfl
    have e3 := cell_of (i := 3) hg6 rfl
    clear hw6 d0 d1 g0 HR5 HG5 HZ5 HX5 hg6 HZ1 HX1
    go_wp2_with fail
    refine (KC.out _ HL6.out HR6.out).mono ?_
    rintro _ w7 ⟨q, cc, rfl, hA, hO, hr⟩
    dsimp only [Ex.val, Ex.kind, Ex.op, Ex.name, Ex.value, Ex.args]
    have HA := Lib.hid hA
    have HO7 := Lib.hid (HO6.out.trans hO)
    have HR7 := Lib.hid hr
    have HZ7 := Lib.hid ((hO.other _ (lt_of_block HZ6.out) (by have := HRl.out; omega)).trans HZ6.out)
    have HS6 := Lib.hid (show w.heap.size < w6.heap.size from lt_of_block HZ6.out)
    have HL7 := Lib.hid (show Below w0.heap.size w0 w7 from Below.trans HL6.out (hO.below HE.out.low HL6.out.size))
    have HS7 := Lib.hid hO.size
    clear hA hO hr e0 e1 e2 e3
    obtain ⟨m, hm⟩ : ∃ m, ts.length = m := ⟨_, rfl⟩
    rw [hm]
    have HM := Lib.hid hm
    clear hm
    have HX8 := Lib.hid (ext_alloc w7 (.cells #[.int .i64 k1, .int .i64 o1, sV n1, .int .i64 v1, .slice q m cc] 25))
    have HB8 := Lib.hid (alloc_here w7 (.cells #[.int .i64 k1, .int .i64 o1, sV n1, .int .i64 v1, .slice q m cc] 25))
    have HR8 := Lib.hid ((HX8.out.below.block _ (lt_of_block HR7.out)).trans HR7.out)
    have HZ8 := Lib.hid ((HX8.out.below.block _ (lt_of_block HZ7.out)).trans HZ7.out)
    have HL8 := Lib.hid (low_ext HL7.out HX8.out)
    go_wp2_with fail
    refine (KI.out _ HR8.out (HE.out.tks.ext HL8.out)).mono ?_
    intro w9 hE9
    replace hE9 : Ext _ w9 := hE9
    have hr9 := (hE9.below.block _ (lt_of_block HR8.out)).trans HR8.out
    have HR9 := Lib.hid hr9
    have HZ9 := Lib.hid ((hE9.below.block _ (lt_of_block HZ8.out)).trans HZ8.out)
    have HB9 := Lib.hid ((hE9.below.block _ (lt_of_block HB8.out)).trans HB8.out)
    have HX9 := Lib.hid (Ext.trans HX8.out hE9)
    have HO9 := Lib.hid (HO7.out.trans (Oth.of_ext HX9.out))
    have d1 : w9.cell? ⟨R, 1, none⟩ = some (.int .i64 (j : Int)) := cell_of hr9 rfl
    have f1 : ∀ i, w9.frozen? ⟨R, i, none⟩ = false := fun i => free_of hr9
    clear hE9 hr9
    go_wp2
    exact ⟨rfl, rfl, HO9.out⟩

set_option maxRecDepth 100000 in
set_option maxHeartbeats 8000000 in
theorem operand_parB {w0 : World} {R : Nat} {p : Option Addr} {c : Nat} {l : List Tk} (hE : RdE w0 R p c l) (k : Nat) (hk : k < l.length) (h1 : l[k].kind = 3) (h2 : l[k].text = [40]) (IB : BiC w0 R p c l 1 (k + 1)) (j : Nat) (hR : Rd l (.bin 1) (k + 1) (.bad j)) (w : World) (hb : Below w0.heap.size w0 w) (hrd : w.heap[R]? = some (rdO p l.length c k)) :
    Calls Tryz.prog 91 #[.pointer (some ⟨R, 0, none⟩)] w (Got R p l.length c w (.bad j)) := by
  obtain ⟨b, off, rfl, q0, q1, q2, q3⟩ := hE.tks k hk
  have HE := Lib.hid hE
  have HB0 := Lib.hid hb
  have HR0 := Lib.hid hrd
  have HRl := Lib.hid (lt_of_block hrd)
  have HRb := Lib.hid (show b ≠ R from fun e => by have h1 := cell_lt' q0; have h2 := hE.low; simp only at h1; omega)
  have d0 : w.cell? ⟨R, 0, none⟩ = some (.slice (some ⟨b, off, none⟩) l.length c) := cell_of hrd rfl
  have d1 : w.cell? ⟨R, 1, none⟩ = some (.int .i64 (k : Int)) := cell_of hrd rfl
  have c0 := (hb.cell (p := ⟨b, off + k * 4, none⟩) (cell_lt' q0)).trans q0
  have c1 := (hb.cell (p := ⟨b, off + k * 4 + 1, none⟩) (cell_lt' q1)).trans q1
  have c2 := (hb.cell (p := ⟨b, off + k * 4 + 2, none⟩) (cell_lt' q2)).trans q2
  have c3 := (hb.cell (p := ⟨b, off + k * 4 + 3, none⟩) (cell_lt' q3)).trans q3
  have hn9 := hE.len
  have hcap := hE.cap
  clear q0 q1 q2 q3
  have htx : (l[k]).text.length ≤ 140737488351232 := hE.txt _ (List.getElem_mem hk)
  generalize l[k] = t at *
  obtain ⟨tk, tx, tv, tp⟩ := t
  dsimp only at *
  have KC := Lib.hid (fun W hb hr => IB W _ hb hr hR)
  clear IB hR
  obtain ⟨n, hn⟩ : ∃ n, l.length = n := ⟨_, rfl⟩
  rw [hn] at hk hrd HR0 hn9 hcap d0 KC
  rw [hn]
  have HN := Lib.hid hn
  clear hn
  have X0 := Lib.hid d0
  have X1 := Lib.hid d1
  have Y0 := Lib.hid c0
  have Y1 := Lib.hid c1
  have Y2 := Lib.hid c2
  have Y3 := Lib.hid c3
  clear c0 c1 c2 c3 hE hb hrd
  subst h1
  subst h2
  have q45 : (sB [40] == { data := #[45] }) = false := by show (sB [40] == sB [45]) = false; rw [sB_beq]; rfl
  have q33 : (sB [40] == { data := #[33] }) = false := by show (sB [40] == sB [33]) = false; rw [sB_beq]; rfl
  have q40 : (sB [40] == { data := #[40] }) = true := by show (sB [40] == sB [40]) = true; rw [sB_beq]; rfl

  have hkn : (k : Int) < (n : Int) := by omega
  have hkc : k < n := hk
  have hk0 : (0 : Int) ≤ (k : Int) := by omega
  have hge : ¬ (n : Int) ≤ (k : Int) := by omega
  have hge2 : ¬ n ≤ k := by omega
  have hRl := HRl.out
  go_enter Tryz.func91, Tryz.ntmps91
  go_wp2
  go_quiet (fail)
  go_wp2
  obtain ⟨w1, hw1⟩ : ∃ W, W = World.drewN (w.alloc (.cells #[.int .i64 0, .int .i64 0, .string { data := #[] }, .int .i64 0, .slice none 0 0] 25)) nq := ⟨_, rfl⟩
  have HX1 := Lib.hid (show Ext w w1 by rw [hw1]; exact Ext.drewN' (ext_alloc w _))
  have HZ1 := Lib.hid (show w1.heap[w.heap.size]? = some (.cells #[.int .i64 0, .int .i64 0, .string { data := #[] }, .int .i64 0, .slice none 0 0] 25) by rw [hw1]; exact alloc_here w _)
  change Code.wp _ _ _ _ (World.drewN (w.alloc (.cells #[.int .i64 0, .int .i64 0, .string { data := #[] }, .int .i64 0, .slice none 0 0] 25)) nq)
  rw [← hw1]
  clear hw1 d0 d1
  replace X0 := Lib.hid (Ext.cellE X0.out HX1.out)
  replace X1 := Lib.hid (Ext.cellE X1.out HX1.out)
  replace Y0 := Lib.hid (Ext.cellE Y0.out HX1.out)
  replace Y1 := Lib.hid (Ext.cellE Y1.out HX1.out)
  replace Y2 := Lib.hid (Ext.cellE Y2.out HX1.out)
  replace Y3 := Lib.hid (Ext.cellE Y3.out HX1.out)
  refine wp_region_tail (l1 := [_, _, _, _, _, _, _, _, _, _, _]) (l2 := [_]) (by kernel_rfl) Ext (fun W => Below.refl _ W) (fun W => show Below W.heap.size W { W with drawn := W.drawn + 1 } from ⟨rfl, rfl, rfl, Nat.le_refl _, fun _ _ => rfl⟩) Ext.trans
    (fun i s W => match i with
      | 0 => s 0 = .pointer (some ⟨R, 0, none⟩)
      | 1 => s 1 = .pointer (some ⟨R, 0, none⟩)
      | 2 => s 2 = .pointer (some ⟨R, 0, none⟩)
      | 3 => s 3 = .slice (some ⟨b, off, none⟩) n c
      | 4 => s 4 = .pointer (some ⟨R, 0, none⟩)
      | 5 => s 5 = .pointer (some ⟨R, 0, none⟩)
      | 6 => s 6 = .pointer (some ⟨R, 1, none⟩)
      | 7 => s 7 = .int .i64 (k : Int)
      | 8 => s 8 = .pointer (some ⟨b, off + k * 4, none⟩)
      | 9 => s 9 = .agg #[.int .i64 (3), sV [40], .int .i64 tv, .int .i64 tp]
      | 10 => ∃ g, s 10 = .pointer (some ⟨g, 0, none⟩) ∧ w1.heap.size ≤ g ∧ W.heap[g]? = some (.cells #[.int .i64 0, .string { data := #[] }, .int .i64 0, .int .i64 0] 36)
      | _ => True)
    (fun i => [i])
    (by
      intro i s s' W W' h hs hE
      have hs := hs i (by simp)
      match i, h, hs with
      | 0, h, hs => exact hs.trans h
      | 1, h, hs => exact hs.trans h
      | 2, h, hs => exact hs.trans h
      | 3, h, hs => exact hs.trans h
      | 4, h, hs => exact hs.trans h
      | 5, h, hs => exact hs.trans h
      | 6, h, hs => exact hs.trans h
      | 7, h, hs => exact hs.trans h
      | 8, h, hs => exact hs.trans h
      | 9, h, hs => exact hs.trans h
      | 10, ⟨g, h1, h2, h3⟩, hs => exact ⟨g, hs.trans h1, h2, (hE.below.block _ (lt_of_block h3)).trans h3⟩
      | i + 11, h, hs => exact trivial)
    (by kernel_rfl) (by kernel_rfl) (by kernel_rfl) 128 rfl (by kernel_rfl) (by kernel_rfl) ?_ ?_
  · intro i op ho a' W hA
    have x0 := Ext.cellE X0.out hA.rel
    have x1 := Ext.cellE X1.out hA.rel
    have y0 := Ext.cellE Y0.out hA.rel
    have y1 := Ext.cellE Y1.out hA.rel
    have y2 := Ext.cellE Y2.out hA.rel
    have y3 := Ext.cellE Y3.out hA.rel
    match i, ho with
    | 0, ho =>
      obtain rfl := Option.some.inj ho
      have e1 : a'.eval (.tmp 0) = .pointer (some ⟨R, 0, none⟩) := hA.keep 0 (by kernel_rfl)
      refine GoesG.value (.pointer (some ⟨R, 0, none⟩)) rfl ?_ (Below.refl _ _) (fun s h1 h2 => h1 rfl)
      simp only [execOp, e1]
      simp [go_sem, x0, x1, y0, y1, y2, y3, hkc, hkn, hk0]
    | 1, ho =>
      obtain rfl := Option.some.inj ho
      have e1 : a'.eval (.tmp 21) = .pointer (some ⟨R, 0, none⟩) := (sv_dst (l := _) rfl).symm.trans (hA.new 0 (by decide) (by kernel_rfl))
      refine GoesG.value (.pointer (some ⟨R, 0, none⟩)) rfl ?_ (Below.refl _ _) (fun s h1 h2 => h1 rfl)
      simp only [execOp, e1]
      simp [go_sem, x0, x1, y0, y1, y2, y3, hkc, hkn, hk0]
    | 2, ho =>
      obtain rfl := Option.some.inj ho
      have e1 : a'.eval (.tmp 22) = .pointer (some ⟨R, 0, none⟩) := (sv_dst (l := _) rfl).symm.trans (hA.new 1 (by decide) (by kernel_rfl))
      refine GoesG.value (.pointer (some ⟨R, 0, none⟩)) rfl ?_ (Below.refl _ _) (fun s h1 h2 => h1 rfl)
      simp only [execOp, e1]
      simp [go_sem, x0, x1, y0, y1, y2, y3, hkc, hkn, hk0]
    | 3, ho =>
      obtain rfl := Option.some.inj ho
      have e1 : a'.eval (.tmp 23) = .pointer (some ⟨R, 0, none⟩) := (sv_dst (l := _) rfl).symm.trans (hA.new 2 (by decide) (by kernel_rfl))
      refine GoesG.value (.slice (some ⟨b, off, none⟩) n c) rfl ?_ (Below.refl _ _) (fun s h1 h2 => h1 rfl)
      simp only [execOp, e1]
      simp [go_sem, x0, x1, y0, y1, y2, y3, hkc, hkn, hk0]
    | 4, ho =>
      obtain rfl := Option.some.inj ho
      have e1 : a'.eval (.tmp 0) = .pointer (some ⟨R, 0, none⟩) := hA.keep 0 (by kernel_rfl)
      refine GoesG.value (.pointer (some ⟨R, 0, none⟩)) rfl ?_ (Below.refl _ _) (fun s h1 h2 => h1 rfl)
      simp only [execOp, e1]
      simp [go_sem, x0, x1, y0, y1, y2, y3, hkc, hkn, hk0]
    | 5, ho =>
      obtain rfl := Option.some.inj ho
      have e1 : a'.eval (.tmp 25) = .pointer (some ⟨R, 0, none⟩) := (sv_dst (l := _) rfl).symm.trans (hA.new 4 (by decide) (by kernel_rfl))
      refine GoesG.value (.pointer (some ⟨R, 0, none⟩)) rfl ?_ (Below.refl _ _) (fun s h1 h2 => h1 rfl)
      simp only [execOp, e1]
      simp [go_sem, x0, x1, y0, y1, y2, y3, hkc, hkn, hk0]
    | 6, ho =>
      obtain rfl := Option.some.inj ho
      have e1 : a'.eval (.tmp 26) = .pointer (some ⟨R, 0, none⟩) := (sv_dst (l := _) rfl).symm.trans (hA.new 5 (by decide) (by kernel_rfl))
      refine GoesG.value (.pointer (some ⟨R, 1, none⟩)) rfl ?_ (Below.refl _ _) (fun s h1 h2 => h1 rfl)
      simp only [execOp, e1]
      simp [go_sem, x0, x1, y0, y1, y2, y3, hkc, hkn, hk0]
    | 7, ho =>
      obtain rfl := Option.some.inj ho
      have e1 : a'.eval (.tmp 27) = .pointer (some ⟨R, 1, none⟩) := (sv_dst (l := _) rfl).symm.trans (hA.new 6 (by decide) (by kernel_rfl))
      refine GoesG.value (.int .i64 (k : Int)) rfl ?_ (Below.refl _ _) (fun s h1 h2 => h1 rfl)
      simp only [execOp, e1]
      simp [go_sem, x0, x1, y0, y1, y2, y3, hkc, hkn, hk0]
    | 8, ho =>
      obtain rfl := Option.some.inj ho
      have e1 : a'.eval (.tmp 24) = .slice (some ⟨b, off, none⟩) n c := (sv_dst (l := _) rfl).symm.trans (hA.new 3 (by decide) (by kernel_rfl))
      have e2 : a'.eval (.tmp 28) = .int .i64 (k : Int) := (sv_dst (l := _) rfl).symm.trans (hA.new 7 (by decide) (by kernel_rfl))
      refine GoesG.value (.pointer (some ⟨b, off + k * 4, none⟩)) rfl ?_ (Below.refl _ _) (fun s h1 h2 => h1 rfl)
      simp only [execOp, e1, e2]
      simp [go_sem, x0, x1, y0, y1, y2, y3, hkc, hkn, hk0]
    | 9, ho =>
      obtain rfl := Option.some.inj ho
      have e1 : a'.eval (.tmp 29) = .pointer (some ⟨b, off + k * 4, none⟩) := (sv_dst (l := _) rfl).symm.trans (hA.new 8 (by decide) (by kernel_rfl))
      refine GoesG.value (.agg #[.int .i64 (3), sV [40], .int .i64 tv, .int .i64 tp]) rfl ?_ (Below.refl _ _) (fun s h1 h2 => h1 rfl)
      simp only [execOp, e1]
      simp [go_sem, x0, x1, y0, y1, y2, y3, hkc, hkn, hk0]
    | 10, ho =>
      obtain rfl := Option.some.inj ho
      refine GoesG.value (.pointer (some ⟨W.heap.size, 0, none⟩)) (W' := W.alloc (.cells #[.int .i64 0, .string { data := #[] }, .int .i64 0, .int .i64 0] 36)) rfl ?_ (ext_alloc _ _) (fun s h1 h2 => ⟨W.heap.size, h1 rfl, hA.rel.size, alloc_here _ _⟩)
      simp only [execOp]
      simp [go_sem, sB_nil]
    | i + 11, ho => cases ho
  · intro vs w4 hvs hG hΦ
    obtain ⟨z0, z1, z2, z3, z4, z5, z6, z7, z8, z9, z10, rfl⟩ : ∃ z0 z1 z2 z3 z4 z5 z6 z7 z8 z9 z10, vs = z0 :: z1 :: z2 :: z3 :: z4 :: z5 :: z6 :: z7 :: z8 :: z9 :: z10 :: [] := by
      match vs, hvs with
      | y0 :: y1 :: y2 :: y3 :: y4 :: y5 :: y6 :: y7 :: y8 :: y9 :: y10 :: [], _ => exact ⟨y0, y1, y2, y3, y4, y5, y6, y7, y8, y9, y10, rfl⟩
    have e0 : z0 = .pointer (some ⟨R, 0, none⟩) := hΦ 0 (by decide)
    subst e0
    have e1 : z1 = .pointer (some ⟨R, 0, none⟩) := hΦ 1 (by decide)
    subst e1
    have e2 : z2 = .pointer (some ⟨R, 0, none⟩) := hΦ 2 (by decide)
    subst e2
    have e3 : z3 = .slice (some ⟨b, off, none⟩) n c := hΦ 3 (by decide)
    subst e3
    have e4 : z4 = .pointer (some ⟨R, 0, none⟩) := hΦ 4 (by decide)
    subst e4
    have e5 : z5 = .pointer (some ⟨R, 0, none⟩) := hΦ 5 (by decide)
    subst e5
    have e6 : z6 = .pointer (some ⟨R, 1, none⟩) := hΦ 6 (by decide)
    subst e6
    have e7 : z7 = .int .i64 (k : Int) := hΦ 7 (by decide)
    subst e7
    have e8 : z8 = .pointer (some ⟨b, off + k * 4, none⟩) := hΦ 8 (by decide)
    subst e8
    have e9 : z9 = .agg #[.int .i64 (3), sV [40], .int .i64 tv, .int .i64 tp] := hΦ 9 (by decide)
    subst e9
    have p10 : ∃ g, z10 = .pointer (some ⟨g, 0, none⟩) ∧ w1.heap.size ≤ g ∧ w4.heap[g]? = some (.cells #[.int .i64 0, .string { data := #[] }, .int .i64 0, .int .i64 0] 36) := hΦ 10 (by decide)
    clear hΦ hvs
    simp only [putAll, Act.put, List.setIfInBounds_toArray, List.set_cons_succ, List.set_cons_zero]
    obtain ⟨g, rfl, hg1, hg2⟩ := p10
    have e0 := cell_of (i := 0) hg2 rfl
    have e1 := cell_of (i := 1) hg2 rfl
    have e2 := cell_of (i := 2) hg2 rfl
    have e3 := cell_of (i := 3) hg2 rfl
    have f0 : ∀ i, w4.frozen? ⟨g, i, none⟩ = false := fun i => free_of hg2
    have HG2 := Lib.hid hg2
    have HG1 := Lib.hid hg1
    have HG := Lib.hid hG
    clear hg1 hg2 hG
    go_upto_region 4 with fail
    obtain ⟨w5, hw5, hg5, hB5, hO5⟩ := put4 HG2.out rfl (.int .i64 (3)) (sV [40]) (.int .i64 tv) (.int .i64 tp)
    rw [hw5]
    have HX5 := Lib.hid (show Ext w w5 from Below.trans (Below.trans HX1.out (HG.out.below.mono HX1.out.size)) (hB5 _ (Nat.le_trans HX1.out.size HG1.out)))
    have HBN := Lib.hid (show w.heap.size < g from Nat.lt_of_lt_of_le (lt_of_block HZ1.out) HG1.out)
    have hr5 : w5.heap[R]? = some (rdO (some ⟨b, off, none⟩) n c k) := (HX5.out.below.block _ HRl.out).trans HR0.out
    have HZ5 := Lib.hid (show w5.heap[w.heap.size]? = some (.cells #[.int .i64 0, .int .i64 0, .string { data := #[] }, .int .i64 0, .slice none 0 0] 25) from (hO5 _ (by have := HBN.out; omega)).trans ((HG.out.below.block _ (lt_of_block HZ1.out)).trans HZ1.out))
    have HG5 := Lib.hid hg5
    have HR5 := Lib.hid hr5
    have d0 : w5.cell? ⟨R, 0, none⟩ = some (.slice (some ⟨b, off, none⟩) n c) := cell_of hr5 rfl
    have d1 : w5.cell? ⟨R, 1, none⟩ = some (.int .i64 (k : Int)) := cell_of hr5 rfl
    have g0 : ∀ i, w5.frozen? ⟨R, i, none⟩ = false := fun i => free_of hr5
    clear hw5 hg5 hB5 hO5 hr5 e0 e1 e2 e3 f0 X0 X1 Y0 Y1 Y2 Y3 HG HG2
    go_upto_region 5 with fail
    obtain ⟨w6, hw6⟩ : ∃ W, w5.setCell ⟨R, 1, none⟩ (.int .i64 ((k : Int) + 1)) = W := ⟨_, rfl⟩
    rw [hw6]
    have HR6 := Lib.hid (show w6.heap[R]? = some (rdO (some ⟨b, off, none⟩) n c (k + 1)) from by
      have h := ((Turn.refl HR5.out).setCell (i := 1) (.int .i64 ((k : Int) + 1))).here
      rw [hw6] at h
      rw [h]; simp)
    have HO6 := Lib.hid (show Oth R w w6 from by rw [← hw6]; exact (Oth.of_ext HX5.out).trans (Oth.set R 1 _ w5))
    have HZ6 := Lib.hid (show w6.heap[w.heap.size]? = some (.cells #[.int .i64 0, .int .i64 0, .string { data := #[] }, .int .i64 0, .slice none 0 0] 25) from by rw [← hw6]; exact (Below.heap_setCell _ _ _ _ (by have := HRl.out; show w.heap.size ≠ R; omega)).trans HZ5.out)
    have hg6 : w6.heap[g]? = some (.cells #[.int .i64 (3), sV [40], .int .i64 tv, .int .i64 tp] tTk) := by rw [← hw6]; exact (Below.heap_setCell _ _ _ _ (by have := HRl.out; have := HBN.out; show g ≠ R; omega)).trans HG5.out
    have HG6 := Lib.hid hg6
    have HL6 := Lib.hid (show Below w0.heap.size w0 w6 from Below.trans HB0.out (HO6.out.below HE.out.low HB0.out.size))
    have e0 := cell_of (i := 0) hg6 rfl
    have e1 := cell_of (i := 1) hg6 rfl
    have e2 := cell_of (i := 2) hg6 rfl
    have e3 := cell_of (i := 3) hg6 rfl
    clear hw6 d0 d1 g0 HR5 HG5 HZ5 HX5 hg6 HZ1 HX1
    go_wp2_with fail
    refine (KC.out _ HL6.out HR6.out).mono ?_
    rintro _ w7 ⟨rfl, hO⟩
    dsimp only
    exact ⟨rfl, rfl, HO6.out.trans hO⟩

end Go.Proofs.YtmokejjndkibhaaGreatDoor

namespace Go.Proofs.YtmokejjndkibhaaGreatDoor
open Go.RowKit Go.Shelf Ex
set_option linter.unusedVariables false
set_option linter.unusedSimpArgs false

set_option maxRecDepth 100000 in
set_option maxHeartbeats 8000000 in
theorem operand_out {w0 : World} {R : Nat} {p : Option Addr} {c : Nat} {l : List Tk} (hE : RdE w0 R p c l) (w : World) (hb : Below w0.heap.size w0 w) (hrd : w.heap[R]? = some (rdO p l.length c l.length)) :
    Calls Tryz.prog 91 #[.pointer (some ⟨R, 0, none⟩)] w (Got R p l.length c w (.bad l.length)) := by
  have hn9 := hE.len
  generalize l.length = n at *
  have d0 : w.cell? ⟨R, 0, none⟩ = some (.slice p n c) := cell_of hrd rfl
  have d1 : w.cell? ⟨R, 1, none⟩ = some (.int .i64 (n : Int)) := cell_of hrd rfl
  have hRl := lt_of_block hrd
  clear hrd hE hb
  go_enter Tryz.func91, Tryz.ntmps91
  go_wp2
  go_quiet (fail)
  go_wp2
  exact ⟨rfl, rfl, Oth.of_ext (Ext.drewN' (ext_alloc w _))⟩

set_option maxRecDepth 100000 in
set_option maxHeartbeats 8000000 in
theorem operand_bad2 {w0 : World} {R : Nat} {p : Option Addr} {c : Nat} {l : List Tk} (hE : RdE w0 R p c l) (k : Nat) (hk : k < l.length) (h1 : l[k].kind = 2) (h2 : numOk l[k] = false) (w : World) (hb : Below w0.heap.size w0 w) (hrd : w.heap[R]? = some (rdO p l.length c k)) :
    Calls Tryz.prog 91 #[.pointer (some ⟨R, 0, none⟩)] w (Got R p l.length c w (.bad k)) := by
  obtain ⟨b, off, rfl, q0, q1, q2, q3⟩ := hE.tks k hk
  have HE := Lib.hid hE
  have HB0 := Lib.hid hb
  have HR0 := Lib.hid hrd
  have HRl := Lib.hid (lt_of_block hrd)
  have HRb := Lib.hid (show b ≠ R from fun e => by have h1 := cell_lt' q0; have h2 := hE.low; simp only at h1; omega)
  have d0 : w.cell? ⟨R, 0, none⟩ = some (.slice (some ⟨b, off, none⟩) l.length c) := cell_of hrd rfl
  have d1 : w.cell? ⟨R, 1, none⟩ = some (.int .i64 (k : Int)) := cell_of hrd rfl
  have c0 := (hb.cell (p := ⟨b, off + k * 4, none⟩) (cell_lt' q0)).trans q0
  have c1 := (hb.cell (p := ⟨b, off + k * 4 + 1, none⟩) (cell_lt' q1)).trans q1
  have c2 := (hb.cell (p := ⟨b, off + k * 4 + 2, none⟩) (cell_lt' q2)).trans q2
  have c3 := (hb.cell (p := ⟨b, off + k * 4 + 3, none⟩) (cell_lt' q3)).trans q3
  have hn9 := hE.len
  have hcap := hE.cap
  clear q0 q1 q2 q3
  have htx : (l[k]).text.length ≤ 140737488351232 := hE.txt _ (List.getElem_mem hk)
  generalize l[k] = t at *
  obtain ⟨tk, tx, tv, tp⟩ := t
  dsimp only at *

  obtain ⟨n, hn⟩ : ∃ n, l.length = n := ⟨_, rfl⟩
  rw [hn] at hk hrd HR0 hn9 hcap d0 
  rw [hn]
  have HN := Lib.hid hn
  clear hn
  have X0 := Lib.hid d0
  have X1 := Lib.hid d1
  have Y0 := Lib.hid c0
  have Y1 := Lib.hid c1
  have Y2 := Lib.hid c2
  have Y3 := Lib.hid c3
  clear c0 c1 c2 c3 hE hb hrd
  subst h1
  have hkn : (k : Int) < (n : Int) := by omega
  have hkc : k < n := hk
  have hk0 : (0 : Int) ≤ (k : Int) := by omega
  have hge : ¬ (n : Int) ≤ (k : Int) := by omega
  have hge2 : ¬ n ≤ k := by omega
  have hRl := HRl.out
  go_enter Tryz.func91, Tryz.ntmps91
  go_wp2
  go_quiet (fail)
  go_wp2
  obtain ⟨w1, hw1⟩ : ∃ W, W = World.drewN (w.alloc (.cells #[.int .i64 0, .int .i64 0, .string { data := #[] }, .int .i64 0, .slice none 0 0] 25)) nq := ⟨_, rfl⟩
  have HX1 := Lib.hid (show Ext w w1 by rw [hw1]; exact Ext.drewN' (ext_alloc w _))
  have HZ1 := Lib.hid (show w1.heap[w.heap.size]? = some (.cells #[.int .i64 0, .int .i64 0, .string { data := #[] }, .int .i64 0, .slice none 0 0] 25) by rw [hw1]; exact alloc_here w _)
  change Code.wp _ _ _ _ (World.drewN (w.alloc (.cells #[.int .i64 0, .int .i64 0, .string { data := #[] }, .int .i64 0, .slice none 0 0] 25)) nq)
  rw [← hw1]
  clear hw1 d0 d1
  replace X0 := Lib.hid (Ext.cellE X0.out HX1.out)
  replace X1 := Lib.hid (Ext.cellE X1.out HX1.out)
  replace Y0 := Lib.hid (Ext.cellE Y0.out HX1.out)
  replace Y1 := Lib.hid (Ext.cellE Y1.out HX1.out)
  replace Y2 := Lib.hid (Ext.cellE Y2.out HX1.out)
  replace Y3 := Lib.hid (Ext.cellE Y3.out HX1.out)
  refine wp_region_tail (l1 := [_, _, _, _, _, _, _, _, _, _, _]) (l2 := [_]) (by kernel_rfl) Ext (fun W => Below.refl _ W) (fun W => show Below W.heap.size W { W with drawn := W.drawn + 1 } from ⟨rfl, rfl, rfl, Nat.le_refl _, fun _ _ => rfl⟩) Ext.trans
    (fun i s W => match i with
      | 0 => s 0 = .pointer (some ⟨R, 0, none⟩)
      | 1 => s 1 = .pointer (some ⟨R, 0, none⟩)
      | 2 => s 2 = .pointer (some ⟨R, 0, none⟩)
      | 3 => s 3 = .slice (some ⟨b, off, none⟩) n c
      | 4 => s 4 = .pointer (some ⟨R, 0, none⟩)
      | 5 => s 5 = .pointer (some ⟨R, 0, none⟩)
      | 6 => s 6 = .pointer (some ⟨R, 1, none⟩)
      | 7 => s 7 = .int .i64 (k : Int)
      | 8 => s 8 = .pointer (some ⟨b, off + k * 4, none⟩)
      | 9 => s 9 = .agg #[.int .i64 (2), sV tx, .int .i64 tv, .int .i64 tp]
      | 10 => ∃ g, s 10 = .pointer (some ⟨g, 0, none⟩) ∧ w1.heap.size ≤ g ∧ W.heap[g]? = some (.cells #[.int .i64 0, .string { data := #[] }, .int .i64 0, .int .i64 0] 36)
      | _ => True)
    (fun i => [i])
    (by
      intro i s s' W W' h hs hE
      have hs := hs i (by simp)
      match i, h, hs with
      | 0, h, hs => exact hs.trans h
      | 1, h, hs => exact hs.trans h
      | 2, h, hs => exact hs.trans h
      | 3, h, hs => exact hs.trans h
      | 4, h, hs => exact hs.trans h
      | 5, h, hs => exact hs.trans h
      | 6, h, hs => exact hs.trans h
      | 7, h, hs => exact hs.trans h
      | 8, h, hs => exact hs.trans h
      | 9, h, hs => exact hs.trans h
      | 10, ⟨g, h1, h2, h3⟩, hs => exact ⟨g, hs.trans h1, h2, (hE.below.block _ (lt_of_block h3)).trans h3⟩
      | i + 11, h, hs => exact trivial)
    (by kernel_rfl) (by kernel_rfl) (by kernel_rfl) 128 rfl (by kernel_rfl) (by kernel_rfl) ?_ ?_
  · intro i op ho a' W hA
    have x0 := Ext.cellE X0.out hA.rel
    have x1 := Ext.cellE X1.out hA.rel
    have y0 := Ext.cellE Y0.out hA.rel
    have y1 := Ext.cellE Y1.out hA.rel
    have y2 := Ext.cellE Y2.out hA.rel
    have y3 := Ext.cellE Y3.out hA.rel
    match i, ho with
    | 0, ho =>
      obtain rfl := Option.some.inj ho
      have e1 : a'.eval (.tmp 0) = .pointer (some ⟨R, 0, none⟩) := hA.keep 0 (by kernel_rfl)
      refine GoesG.value (.pointer (some ⟨R, 0, none⟩)) rfl ?_ (Below.refl _ _) (fun s h1 h2 => h1 rfl)
      simp only [execOp, e1]
      simp [go_sem, x0, x1, y0, y1, y2, y3, hkc, hkn, hk0]
    | 1, ho =>
      obtain rfl := Option.some.inj ho
      have e1 : a'.eval (.tmp 21) = .pointer (some ⟨R, 0, none⟩) := (sv_dst (l := _) rfl).symm.trans (hA.new 0 (by decide) (by kernel_rfl))
      refine GoesG.value (.pointer (some ⟨R, 0, none⟩)) rfl ?_ (Below.refl _ _) (fun s h1 h2 => h1 rfl)
      simp only [execOp, e1]
      simp [go_sem, x0, x1, y0, y1, y2, y3, hkc, hkn, hk0]
    | 2, ho =>
      obtain rfl := Option.some.inj ho
      have e1 : a'.eval (.tmp 22) = .pointer (some ⟨R, 0, none⟩) := (sv_dst (l := _) rfl).symm.trans (hA.new 1 (by decide) (by kernel_rfl))
      refine GoesG.value (.pointer (some ⟨R, 0, none⟩)) rfl ?_ (Below.refl _ _) (fun s h1 h2 => h1 rfl)
      simp only [execOp, e1]
      simp [go_sem, x0, x1, y0, y1, y2, y3, hkc, hkn, hk0]
    | 3, ho =>
      obtain rfl := Option.some.inj ho
      have e1 : a'.eval (.tmp 23) = .pointer (some ⟨R, 0, none⟩) := (sv_dst (l := _) rfl).symm.trans (hA.new 2 (by decide) (by kernel_rfl))
      refine GoesG.value (.slice (some ⟨b, off, none⟩) n c) rfl ?_ (Below.refl _ _) (fun s h1 h2 => h1 rfl)
      simp only [execOp, e1]
      simp [go_sem, x0, x1, y0, y1, y2, y3, hkc, hkn, hk0]
    | 4, ho =>
      obtain rfl := Option.some.inj ho
      have e1 : a'.eval (.tmp 0) = .pointer (some ⟨R, 0, none⟩) := hA.keep 0 (by kernel_rfl)
      refine GoesG.value (.pointer (some ⟨R, 0, none⟩)) rfl ?_ (Below.refl _ _) (fun s h1 h2 => h1 rfl)
      simp only [execOp, e1]
      simp [go_sem, x0, x1, y0, y1, y2, y3, hkc, hkn, hk0]
    | 5, ho =>
      obtain rfl := Option.some.inj ho
      have e1 : a'.eval (.tmp 25) = .pointer (some ⟨R, 0, none⟩) := (sv_dst (l := _) rfl).symm.trans (hA.new 4 (by decide) (by kernel_rfl))
      refine GoesG.value (.pointer (some ⟨R, 0, none⟩)) rfl ?_ (Below.refl _ _) (fun s h1 h2 => h1 rfl)
      simp only [execOp, e1]
      simp [go_sem, x0, x1, y0, y1, y2, y3, hkc, hkn, hk0]
    | 6, ho =>
      obtain rfl := Option.some.inj ho
      have e1 : a'.eval (.tmp 26) = .pointer (some ⟨R, 0, none⟩) := (sv_dst (l := _) rfl).symm.trans (hA.new 5 (by decide) (by kernel_rfl))
      refine GoesG.value (.pointer (some ⟨R, 1, none⟩)) rfl ?_ (Below.refl _ _) (fun s h1 h2 => h1 rfl)
      simp only [execOp, e1]
      simp [go_sem, x0, x1, y0, y1, y2, y3, hkc, hkn, hk0]
    | 7, ho =>
      obtain rfl := Option.some.inj ho
      have e1 : a'.eval (.tmp 27) = .pointer (some ⟨R, 1, none⟩) := (sv_dst (l := _) rfl).symm.trans (hA.new 6 (by decide) (by kernel_rfl))
      refine GoesG.value (.int .i64 (k : Int)) rfl ?_ (Below.refl _ _) (fun s h1 h2 => h1 rfl)
      simp only [execOp, e1]
      simp [go_sem, x0, x1, y0, y1, y2, y3, hkc, hkn, hk0]
    | 8, ho =>
      obtain rfl := Option.some.inj ho
      have e1 : a'.eval (.tmp 24) = .slice (some ⟨b, off, none⟩) n c := (sv_dst (l := _) rfl).symm.trans (hA.new 3 (by decide) (by kernel_rfl))
      have e2 : a'.eval (.tmp 28) = .int .i64 (k : Int) := (sv_dst (l := _) rfl).symm.trans (hA.new 7 (by decide) (by kernel_rfl))
      refine GoesG.value (.pointer (some ⟨b, off + k * 4, none⟩)) rfl ?_ (Below.refl _ _) (fun s h1 h2 => h1 rfl)
      simp only [execOp, e1, e2]
      simp [go_sem, x0, x1, y0, y1, y2, y3, hkc, hkn, hk0]
    | 9, ho =>
      obtain rfl := Option.some.inj ho
      have e1 : a'.eval (.tmp 29) = .pointer (some ⟨b, off + k * 4, none⟩) := (sv_dst (l := _) rfl).symm.trans (hA.new 8 (by decide) (by kernel_rfl))
      refine GoesG.value (.agg #[.int .i64 (2), sV tx, .int .i64 tv, .int .i64 tp]) rfl ?_ (Below.refl _ _) (fun s h1 h2 => h1 rfl)
      simp only [execOp, e1]
      simp [go_sem, x0, x1, y0, y1, y2, y3, hkc, hkn, hk0]
    | 10, ho =>
      obtain rfl := Option.some.inj ho
      refine GoesG.value (.pointer (some ⟨W.heap.size, 0, none⟩)) (W' := W.alloc (.cells #[.int .i64 0, .string { data := #[] }, .int .i64 0, .int .i64 0] 36)) rfl ?_ (ext_alloc _ _) (fun s h1 h2 => ⟨W.heap.size, h1 rfl, hA.rel.size, alloc_here _ _⟩)
      simp only [execOp]
      simp [go_sem, sB_nil]
    | i + 11, ho => cases ho
  · intro vs w4 hvs hG hΦ
    obtain ⟨z0, z1, z2, z3, z4, z5, z6, z7, z8, z9, z10, rfl⟩ : ∃ z0 z1 z2 z3 z4 z5 z6 z7 z8 z9 z10, vs = z0 :: z1 :: z2 :: z3 :: z4 :: z5 :: z6 :: z7 :: z8 :: z9 :: z10 :: [] := by
      match vs, hvs with
      | y0 :: y1 :: y2 :: y3 :: y4 :: y5 :: y6 :: y7 :: y8 :: y9 :: y10 :: [], _ => exact ⟨y0, y1, y2, y3, y4, y5, y6, y7, y8, y9, y10, rfl⟩
    have e0 : z0 = .pointer (some ⟨R, 0, none⟩) := hΦ 0 (by decide)
    subst e0
    have e1 : z1 = .pointer (some ⟨R, 0, none⟩) := hΦ 1 (by decide)
    subst e1
    have e2 : z2 = .pointer (some ⟨R, 0, none⟩) := hΦ 2 (by decide)
    subst e2
    have e3 : z3 = .slice (some ⟨b, off, none⟩) n c := hΦ 3 (by decide)
    subst e3
    have e4 : z4 = .pointer (some ⟨R, 0, none⟩) := hΦ 4 (by decide)
    subst e4
    have e5 : z5 = .pointer (some ⟨R, 0, none⟩) := hΦ 5 (by decide)
    subst e5
    have e6 : z6 = .pointer (some ⟨R, 1, none⟩) := hΦ 6 (by decide)
    subst e6
    have e7 : z7 = .int .i64 (k : Int) := hΦ 7 (by decide)
    subst e7
    have e8 : z8 = .pointer (some ⟨b, off + k * 4, none⟩) := hΦ 8 (by decide)
    subst e8
    have e9 : z9 = .agg #[.int .i64 (2), sV tx, .int .i64 tv, .int .i64 tp] := hΦ 9 (by decide)
    subst e9
    have p10 : ∃ g, z10 = .pointer (some ⟨g, 0, none⟩) ∧ w1.heap.size ≤ g ∧ w4.heap[g]? = some (.cells #[.int .i64 0, .string { data := #[] }, .int .i64 0, .int .i64 0] 36) := hΦ 10 (by decide)
    clear hΦ hvs
    simp only [putAll, Act.put, List.setIfInBounds_toArray, List.set_cons_succ, List.set_cons_zero]
    obtain ⟨g, rfl, hg1, hg2⟩ := p10
    have e0 := cell_of (i := 0) hg2 rfl
    have e1 := cell_of (i := 1) hg2 rfl
    have e2 := cell_of (i := 2) hg2 rfl
    have e3 := cell_of (i := 3) hg2 rfl
    have f0 : ∀ i, w4.frozen? ⟨g, i, none⟩ = false := fun i => free_of hg2
    have HG2 := Lib.hid hg2
    have HG1 := Lib.hid hg1
    have HG := Lib.hid hG
    clear hg1 hg2 hG
    go_upto_region 4 with fail
    obtain ⟨w5, hw5, hg5, hB5, hO5⟩ := put4 HG2.out rfl (.int .i64 (2)) (sV tx) (.int .i64 tv) (.int .i64 tp)
    rw [hw5]
    have HX5 := Lib.hid (show Ext w w5 from Below.trans (Below.trans HX1.out (HG.out.below.mono HX1.out.size)) (hB5 _ (Nat.le_trans HX1.out.size HG1.out)))
    have HBN := Lib.hid (show w.heap.size < g from Nat.lt_of_lt_of_le (lt_of_block HZ1.out) HG1.out)
    have hr5 : w5.heap[R]? = some (rdO (some ⟨b, off, none⟩) n c k) := (HX5.out.below.block _ HRl.out).trans HR0.out
    have HZ5 := Lib.hid (show w5.heap[w.heap.size]? = some (.cells #[.int .i64 0, .int .i64 0, .string { data := #[] }, .int .i64 0, .slice none 0 0] 25) from (hO5 _ (by have := HBN.out; omega)).trans ((HG.out.below.block _ (lt_of_block HZ1.out)).trans HZ1.out))
    have HG5 := Lib.hid hg5
    have HR5 := Lib.hid hr5
    have d0 : w5.cell? ⟨R, 0, none⟩ = some (.slice (some ⟨b, off, none⟩) n c) := cell_of hr5 rfl
    have d1 : w5.cell? ⟨R, 1, none⟩ = some (.int .i64 (k : Int)) := cell_of hr5 rfl
    have g0 : ∀ i, w5.frozen? ⟨R, i, none⟩ = false := fun i => free_of hr5
    clear hw5 hg5 hB5 hO5 hr5 e0 e1 e2 e3 f0 X0 X1 Y0 Y1 Y2 Y3 HG HG2
    go_upto_region 5 with fail
    obtain ⟨w6, hw6⟩ : ∃ W, w5.setCell ⟨R, 1, none⟩ (.int .i64 ((k : Int) + 1)) = W := ⟨_, rfl⟩
    rw [hw6]
    have HR6 := Lib.hid (show w6.heap[R]? = some (rdO (some ⟨b, off, none⟩) n c (k + 1)) from by
      have h := ((Turn.refl HR5.out).setCell (i := 1) (.int .i64 ((k : Int) + 1))).here
      rw [hw6] at h
      rw [h]; simp)
    have HO6 := Lib.hid (show Oth R w w6 from by rw [← hw6]; exact (Oth.of_ext HX5.out).trans (Oth.set R 1 _ w5))
    have HZ6 := Lib.hid (show w6.heap[w.heap.size]? = some (.cells #[.int .i64 0, .int .i64 0, .string { data := #[] }, .int .i64 0, .slice none 0 0] 25) from by rw [← hw6]; exact (Below.heap_setCell _ _ _ _ (by have := HRl.out; show w.heap.size ≠ R; omega)).trans HZ5.out)
    have hg6 : w6.heap[g]? = some (.cells #[.int .i64 (2), sV tx, .int .i64 tv, .int .i64 tp] tTk) := by rw [← hw6]; exact (Below.heap_setCell _ _ _ _ (by have := HRl.out; have := HBN.out; show g ≠ R; omega)).trans HG5.out
    have HG6 := Lib.hid hg6
    have HL6 := Lib.hid (show Below w0.heap.size w0 w6 from Below.trans HB0.out (HO6.out.below HE.out.low HB0.out.size))
    have e0 := cell_of (i := 0) hg6 rfl
    have e1 := cell_of (i := 1) hg6 rfl
    have e2 := cell_of (i := 2) hg6 rfl
    have e3 := cell_of (i := 3) hg6 rfl
    clear hw6 d0 d1 g0 HR5 HG5 HZ5 HX5 hg6 HZ1 HX1
    have KN := isNumber_any ⟨2, tx, tv, tp⟩ w6 htx (HE.out.tab.below HL6.out)
    rw [h2] at KN
    clear h2
    go_wp2_with fail
    refine (show Gives _ _ _ _ _ from KN).mono ?_
    intro w7 hE
    have HR7 := Lib.hid ((hE.block _ (lt_of_block HR6.out)).trans HR6.out)
    have HZ7 := Lib.hid ((hE.block _ (lt_of_block HZ6.out)).trans HZ6.out)
    have HG7 := Lib.hid ((hE.block _ (lt_of_block HG6.out)).trans HG6.out)
    have HO7 := Lib.hid (HO6.out.trans (Oth.of_ext hE))
    have HL7 := Lib.hid (show Below w0.heap.size w0 w7 from low_ext HL6.out hE)
    clear hE e0 e1 e2 e3
    have e0 := cell_of (i := 0) HG7.out rfl
    have e1 := cell_of (i := 1) HG7.out rfl
    have e2 := cell_of (i := 2) HG7.out rfl
    have e3 := cell_of (i := 3) HG7.out rfl
    have d1 : w7.cell? ⟨R, 1, none⟩ = some (.int .i64 ((k : Int) + 1)) := cell_of HR7.out (by simp)
    go_wp2
    exact ⟨rfl, by simp, HO7.out⟩

set_option maxRecDepth 100000 in
set_option maxHeartbeats 8000000 in
theorem operand_bad1k {w0 : World} {R : Nat} {p : Option Addr} {c : Nat} {l : List Tk} (hE : RdE w0 R p c l) (k : Nat) (hk : k < l.length) (h1 : l[k].kind = 1) (h2 : kwB l[k].text = true) (w : World) (hb : Below w0.heap.size w0 w) (hrd : w.heap[R]? = some (rdO p l.length c k)) :
    Calls Tryz.prog 91 #[.pointer (some ⟨R, 0, none⟩)] w (Got R p l.length c w (.bad k)) := by
  obtain ⟨b, off, rfl, q0, q1, q2, q3⟩ := hE.tks k hk
  have HE := Lib.hid hE
  have HB0 := Lib.hid hb
  have HR0 := Lib.hid hrd
  have HRl := Lib.hid (lt_of_block hrd)
  have HRb := Lib.hid (show b ≠ R from fun e => by have h1 := cell_lt' q0; have h2 := hE.low; simp only at h1; omega)
  have d0 : w.cell? ⟨R, 0, none⟩ = some (.slice (some ⟨b, off, none⟩) l.length c) := cell_of hrd rfl
  have d1 : w.cell? ⟨R, 1, none⟩ = some (.int .i64 (k : Int)) := cell_of hrd rfl
  have c0 := (hb.cell (p := ⟨b, off + k * 4, none⟩) (cell_lt' q0)).trans q0
  have c1 := (hb.cell (p := ⟨b, off + k * 4 + 1, none⟩) (cell_lt' q1)).trans q1
  have c2 := (hb.cell (p := ⟨b, off + k * 4 + 2, none⟩) (cell_lt' q2)).trans q2
  have c3 := (hb.cell (p := ⟨b, off + k * 4 + 3, none⟩) (cell_lt' q3)).trans q3
  have hn9 := hE.len
  have hcap := hE.cap
  clear q0 q1 q2 q3
  have htx : (l[k]).text.length ≤ 140737488351232 := hE.txt _ (List.getElem_mem hk)
  generalize l[k] = t at *
  obtain ⟨tk, tx, tv, tp⟩ := t
  dsimp only at *

  obtain ⟨n, hn⟩ : ∃ n, l.length = n := ⟨_, rfl⟩
  rw [hn] at hk hrd HR0 hn9 hcap d0 
  rw [hn]
  have HN := Lib.hid hn
  clear hn
  have X0 := Lib.hid d0
  have X1 := Lib.hid d1
  have Y0 := Lib.hid c0
  have Y1 := Lib.hid c1
  have Y2 := Lib.hid c2
  have Y3 := Lib.hid c3
  clear c0 c1 c2 c3 hE hb hrd
  subst h1
  have hkn : (k : Int) < (n : Int) := by omega
  have hkc : k < n := hk
  have hk0 : (0 : Int) ≤ (k : Int) := by omega
  have hge : ¬ (n : Int) ≤ (k : Int) := by omega
  have hge2 : ¬ n ≤ k := by omega
  have hRl := HRl.out
  go_enter Tryz.func91, Tryz.ntmps91
  go_wp2
  go_quiet (fail)
  go_wp2
  obtain ⟨w1, hw1⟩ : ∃ W, W = World.drewN (w.alloc (.cells #[.int .i64 0, .int .i64 0, .string { data := #[] }, .int .i64 0, .slice none 0 0] 25)) nq := ⟨_, rfl⟩
  have HX1 := Lib.hid (show Ext w w1 by rw [hw1]; exact Ext.drewN' (ext_alloc w _))
  have HZ1 := Lib.hid (show w1.heap[w.heap.size]? = some (.cells #[.int .i64 0, .int .i64 0, .string { data := #[] }, .int .i64 0, .slice none 0 0] 25) by rw [hw1]; exact alloc_here w _)
  change Code.wp _ _ _ _ (World.drewN (w.alloc (.cells #[.int .i64 0, .int .i64 0, .string { data := #[] }, .int .i64 0, .slice none 0 0] 25)) nq)
  rw [← hw1]
  clear hw1 d0 d1
  replace X0 := Lib.hid (Ext.cellE X0.out HX1.out)
  replace X1 := Lib.hid (Ext.cellE X1.out HX1.out)
  replace Y0 := Lib.hid (Ext.cellE Y0.out HX1.out)
  replace Y1 := Lib.hid (Ext.cellE Y1.out HX1.out)
  replace Y2 := Lib.hid (Ext.cellE Y2.out HX1.out)
  replace Y3 := Lib.hid (Ext.cellE Y3.out HX1.out)
  refine wp_region_tail (l1 := [_, _, _, _, _, _, _, _, _, _, _]) (l2 := [_]) (by kernel_rfl) Ext (fun W => Below.refl _ W) (fun W => show Below W.heap.size W { W with drawn := W.drawn + 1 } from ⟨rfl, rfl, rfl, Nat.le_refl _, fun _ _ => rfl⟩) Ext.trans
    (fun i s W => match i with
      | 0 => s 0 = .pointer (some ⟨R, 0, none⟩)
      | 1 => s 1 = .pointer (some ⟨R, 0, none⟩)
      | 2 => s 2 = .pointer (some ⟨R, 0, none⟩)
      | 3 => s 3 = .slice (some ⟨b, off, none⟩) n c
      | 4 => s 4 = .pointer (some ⟨R, 0, none⟩)
      | 5 => s 5 = .pointer (some ⟨R, 0, none⟩)
      | 6 => s 6 = .pointer (some ⟨R, 1, none⟩)
      | 7 => s 7 = .int .i64 (k : Int)
      | 8 => s 8 = .pointer (some ⟨b, off + k * 4, none⟩)
      | 9 => s 9 = .agg #[.int .i64 (1), sV tx, .int .i64 tv, .int .i64 tp]
      | 10 => ∃ g, s 10 = .pointer (some ⟨g, 0, none⟩) ∧ w1.heap.size ≤ g ∧ W.heap[g]? = some (.cells #[.int .i64 0, .string { data := #[] }, .int .i64 0, .int .i64 0] 36)
      | _ => True)
    (fun i => [i])
    (by
      intro i s s' W W' h hs hE
      have hs := hs i (by simp)
      match i, h, hs with
      | 0, h, hs => exact hs.trans h
      | 1, h, hs => exact hs.trans h
      | 2, h, hs => exact hs.trans h
      | 3, h, hs => exact hs.trans h
      | 4, h, hs => exact hs.trans h
      | 5, h, hs => exact hs.trans h
      | 6, h, hs => exact hs.trans h
      | 7, h, hs => exact hs.trans h
      | 8, h, hs => exact hs.trans h
      | 9, h, hs => exact hs.trans h
      | 10, ⟨g, h1, h2, h3⟩, hs => exact ⟨g, hs.trans h1, h2, (hE.below.block _ (lt_of_block h3)).trans h3⟩
      | i + 11, h, hs => exact trivial)
    (by kernel_rfl) (by kernel_rfl) (by kernel_rfl) 128 rfl (by kernel_rfl) (by kernel_rfl) ?_ ?_
  · intro i op ho a' W hA
    have x0 := Ext.cellE X0.out hA.rel
    have x1 := Ext.cellE X1.out hA.rel
    have y0 := Ext.cellE Y0.out hA.rel
    have y1 := Ext.cellE Y1.out hA.rel
    have y2 := Ext.cellE Y2.out hA.rel
    have y3 := Ext.cellE Y3.out hA.rel
    match i, ho with
    | 0, ho =>
      obtain rfl := Option.some.inj ho
      have e1 : a'.eval (.tmp 0) = .pointer (some ⟨R, 0, none⟩) := hA.keep 0 (by kernel_rfl)
      refine GoesG.value (.pointer (some ⟨R, 0, none⟩)) rfl ?_ (Below.refl _ _) (fun s h1 h2 => h1 rfl)
      simp only [execOp, e1]
      simp [go_sem, x0, x1, y0, y1, y2, y3, hkc, hkn, hk0]
    | 1, ho =>
      obtain rfl := Option.some.inj ho
      have e1 : a'.eval (.tmp 21) = .pointer (some ⟨R, 0, none⟩) := (sv_dst (l := _) rfl).symm.trans (hA.new 0 (by decide) (by kernel_rfl))
      refine GoesG.value (.pointer (some ⟨R, 0, none⟩)) rfl ?_ (Below.refl _ _) (fun s h1 h2 => h1 rfl)
      simp only [execOp, e1]
      simp [go_sem, x0, x1, y0, y1, y2, y3, hkc, hkn, hk0]
    | 2, ho =>
      obtain rfl := Option.some.inj ho
      have e1 : a'.eval (.tmp 22) = .pointer (some ⟨R, 0, none⟩) := (sv_dst (l := _) rfl).symm.trans (hA.new 1 (by decide) (by kernel_rfl))
      refine GoesG.value (.pointer (some ⟨R, 0, none⟩)) rfl ?_ (Below.refl _ _) (fun s h1 h2 => h1 rfl)
      simp only [execOp, e1]
      simp [go_sem, x0, x1, y0, y1, y2, y3, hkc, hkn, hk0]
    | 3, ho =>
      obtain rfl := Option.some.inj ho
      have e1 : a'.eval (.tmp 23) = .pointer (some ⟨R, 0, none⟩) := (sv_dst (l := _) rfl).symm.trans (hA.new 2 (by decide) (by kernel_rfl))
      refine GoesG.value (.slice (some ⟨b, off, none⟩) n c) rfl ?_ (Below.refl _ _) (fun s h1 h2 => h1 rfl)
      simp only [execOp, e1]
      simp [go_sem, x0, x1, y0, y1, y2, y3, hkc, hkn, hk0]
    | 4, ho =>
      obtain rfl := Option.some.inj ho
      have e1 : a'.eval (.tmp 0) = .pointer (some ⟨R, 0, none⟩) := hA.keep 0 (by kernel_rfl)
      refine GoesG.value (.pointer (some ⟨R, 0, none⟩)) rfl ?_ (Below.refl _ _) (fun s h1 h2 => h1 rfl)
      simp only [execOp, e1]
      simp [go_sem, x0, x1, y0, y1, y2, y3, hkc, hkn, hk0]
    | 5, ho =>
      obtain rfl := Option.some.inj ho
      have e1 : a'.eval (.tmp 25) = .pointer (some ⟨R, 0, none⟩) := (sv_dst (l := _) rfl).symm.trans (hA.new 4 (by decide) (by kernel_rfl))
      refine GoesG.value (.pointer (some ⟨R, 0, none⟩)) rfl ?_ (Below.refl _ _) (fun s h1 h2 => h1 rfl)
      simp only [execOp, e1]
      simp [go_sem, x0, x1, y0, y1, y2, y3, hkc, hkn, hk0]
    | 6, ho =>
      obtain rfl := Option.some.inj ho
      have e1 : a'.eval (.tmp 26) = .pointer (some ⟨R, 0, none⟩) := (sv_dst (l := _) rfl).symm.trans (hA.new 5 (by decide) (by kernel_rfl))
      refine GoesG.value (.pointer (some ⟨R, 1, none⟩)) rfl ?_ (Below.refl _ _) (fun s h1 h2 => h1 rfl)
      simp only [execOp, e1]
      simp [go_sem, x0, x1, y0, y1, y2, y3, hkc, hkn, hk0]
    | 7, ho =>
      obtain rfl := Option.some.inj ho
      have e1 : a'.eval (.tmp 27) = .pointer (some ⟨R, 1, none⟩) := (sv_dst (l := _) rfl).symm.trans (hA.new 6 (by decide) (by kernel_rfl))
      refine GoesG.value (.int .i64 (k : Int)) rfl ?_ (Below.refl _ _) (fun s h1 h2 => h1 rfl)
      simp only [execOp, e1]
      simp [go_sem, x0, x1, y0, y1, y2, y3, hkc, hkn, hk0]
    | 8, ho =>
      obtain rfl := Option.some.inj ho
      have e1 : a'.eval (.tmp 24) = .slice (some ⟨b, off, none⟩) n c := (sv_dst (l := _) rfl).symm.trans (hA.new 3 (by decide) (by kernel_rfl))
      have e2 : a'.eval (.tmp 28) = .int .i64 (k : Int) := (sv_dst (l := _) rfl).symm.trans (hA.new 7 (by decide) (by kernel_rfl))
      refine GoesG.value (.pointer (some ⟨b, off + k * 4, none⟩)) rfl ?_ (Below.refl _ _) (fun s h1 h2 => h1 rfl)
      simp only [execOp, e1, e2]
      simp [go_sem, x0, x1, y0, y1, y2, y3, hkc, hkn, hk0]
    | 9, ho =>
      obtain rfl := Option.some.inj ho
      have e1 : a'.eval (.tmp 29) = .pointer (some ⟨b, off + k * 4, none⟩) := (sv_dst (l := _) rfl).symm.trans (hA.new 8 (by decide) (by kernel_rfl))
      refine GoesG.value (.agg #[.int .i64 (1), sV tx, .int .i64 tv, .int .i64 tp]) rfl ?_ (Below.refl _ _) (fun s h1 h2 => h1 rfl)
      simp only [execOp, e1]
      simp [go_sem, x0, x1, y0, y1, y2, y3, hkc, hkn, hk0]
    | 10, ho =>
      obtain rfl := Option.some.inj ho
      refine GoesG.value (.pointer (some ⟨W.heap.size, 0, none⟩)) (W' := W.alloc (.cells #[.int .i64 0, .string { data := #[] }, .int .i64 0, .int .i64 0] 36)) rfl ?_ (ext_alloc _ _) (fun s h1 h2 => ⟨W.heap.size, h1 rfl, hA.rel.size, alloc_here _ _⟩)
      simp only [execOp]
      simp [go_sem, sB_nil]
    | i + 11, ho => cases ho
  · intro vs w4 hvs hG hΦ
    obtain ⟨z0, z1, z2, z3, z4, z5, z6, z7, z8, z9, z10, rfl⟩ : ∃ z0 z1 z2 z3 z4 z5 z6 z7 z8 z9 z10, vs = z0 :: z1 :: z2 :: z3 :: z4 :: z5 :: z6 :: z7 :: z8 :: z9 :: z10 :: [] := by
      match vs, hvs with
      | y0 :: y1 :: y2 :: y3 :: y4 :: y5 :: y6 :: y7 :: y8 :: y9 :: y10 :: [], _ => exact ⟨y0, y1, y2, y3, y4, y5, y6, y7, y8, y9, y10, rfl⟩
    have e0 : z0 = .pointer (some ⟨R, 0, none⟩) := hΦ 0 (by decide)
    subst e0
    have e1 : z1 = .pointer (some ⟨R, 0, none⟩) := hΦ 1 (by decide)
    subst e1
    have e2 : z2 = .pointer (some ⟨R, 0, none⟩) := hΦ 2 (by decide)
    subst e2
    have e3 : z3 = .slice (some ⟨b, off, none⟩) n c := hΦ 3 (by decide)
    subst e3
    have e4 : z4 = .pointer (some ⟨R, 0, none⟩) := hΦ 4 (by decide)
    subst e4
    have e5 : z5 = .pointer (some ⟨R, 0, none⟩) := hΦ 5 (by decide)
    subst e5
    have e6 : z6 = .pointer (some ⟨R, 1, none⟩) := hΦ 6 (by decide)
    subst e6
    have e7 : z7 = .int .i64 (k : Int) := hΦ 7 (by decide)
    subst e7
    have e8 : z8 = .pointer (some ⟨b, off + k * 4, none⟩) := hΦ 8 (by decide)
    subst e8
    have e9 : z9 = .agg #[.int .i64 (1), sV tx, .int .i64 tv, .int .i64 tp] := hΦ 9 (by decide)
    subst e9
    have p10 : ∃ g, z10 = .pointer (some ⟨g, 0, none⟩) ∧ w1.heap.size ≤ g ∧ w4.heap[g]? = some (.cells #[.int .i64 0, .string { data := #[] }, .int .i64 0, .int .i64 0] 36) := hΦ 10 (by decide)
    clear hΦ hvs
    simp only [putAll, Act.put, List.setIfInBounds_toArray, List.set_cons_succ, List.set_cons_zero]
    obtain ⟨g, rfl, hg1, hg2⟩ := p10
    have e0 := cell_of (i := 0) hg2 rfl
    have e1 := cell_of (i := 1) hg2 rfl
    have e2 := cell_of (i := 2) hg2 rfl
    have e3 := cell_of (i := 3) hg2 rfl
    have f0 : ∀ i, w4.frozen? ⟨g, i, none⟩ = false := fun i => free_of hg2
    have HG2 := Lib.hid hg2
    have HG1 := Lib.hid hg1
    have HG := Lib.hid hG
    clear hg1 hg2 hG
    go_upto_region 4 with fail
    obtain ⟨w5, hw5, hg5, hB5, hO5⟩ := put4 HG2.out rfl (.int .i64 (1)) (sV tx) (.int .i64 tv) (.int .i64 tp)
    rw [hw5]
    have HX5 := Lib.hid (show Ext w w5 from Below.trans (Below.trans HX1.out (HG.out.below.mono HX1.out.size)) (hB5 _ (Nat.le_trans HX1.out.size HG1.out)))
    have HBN := Lib.hid (show w.heap.size < g from Nat.lt_of_lt_of_le (lt_of_block HZ1.out) HG1.out)
    have hr5 : w5.heap[R]? = some (rdO (some ⟨b, off, none⟩) n c k) := (HX5.out.below.block _ HRl.out).trans HR0.out
    have HZ5 := Lib.hid (show w5.heap[w.heap.size]? = some (.cells #[.int .i64 0, .int .i64 0, .string { data := #[] }, .int .i64 0, .slice none 0 0] 25) from (hO5 _ (by have := HBN.out; omega)).trans ((HG.out.below.block _ (lt_of_block HZ1.out)).trans HZ1.out))
    have HG5 := Lib.hid hg5
    have HR5 := Lib.hid hr5
    have d0 : w5.cell? ⟨R, 0, none⟩ = some (.slice (some ⟨b, off, none⟩) n c) := cell_of hr5 rfl
    have d1 : w5.cell? ⟨R, 1, none⟩ = some (.int .i64 (k : Int)) := cell_of hr5 rfl
    have g0 : ∀ i, w5.frozen? ⟨R, i, none⟩ = false := fun i => free_of hr5
    clear hw5 hg5 hB5 hO5 hr5 e0 e1 e2 e3 f0 X0 X1 Y0 Y1 Y2 Y3 HG HG2
    go_upto_region 5 with fail
    obtain ⟨w6, hw6⟩ : ∃ W, w5.setCell ⟨R, 1, none⟩ (.int .i64 ((k : Int) + 1)) = W := ⟨_, rfl⟩
    rw [hw6]
    have HR6 := Lib.hid (show w6.heap[R]? = some (rdO (some ⟨b, off, none⟩) n c (k + 1)) from by
      have h := ((Turn.refl HR5.out).setCell (i := 1) (.int .i64 ((k : Int) + 1))).here
      rw [hw6] at h
      rw [h]; simp)
    have HO6 := Lib.hid (show Oth R w w6 from by rw [← hw6]; exact (Oth.of_ext HX5.out).trans (Oth.set R 1 _ w5))
    have HZ6 := Lib.hid (show w6.heap[w.heap.size]? = some (.cells #[.int .i64 0, .int .i64 0, .string { data := #[] }, .int .i64 0, .slice none 0 0] 25) from by rw [← hw6]; exact (Below.heap_setCell _ _ _ _ (by have := HRl.out; show w.heap.size ≠ R; omega)).trans HZ5.out)
    have hg6 : w6.heap[g]? = some (.cells #[.int .i64 (1), sV tx, .int .i64 tv, .int .i64 tp] tTk) := by rw [← hw6]; exact (Below.heap_setCell _ _ _ _ (by have := HRl.out; have := HBN.out; show g ≠ R; omega)).trans HG5.out
    have HG6 := Lib.hid hg6
    have HL6 := Lib.hid (show Below w0.heap.size w0 w6 from Below.trans HB0.out (HO6.out.below HE.out.low HB0.out.size))
    have e0 := cell_of (i := 0) hg6 rfl
    have e1 := cell_of (i := 1) hg6 rfl
    have e2 := cell_of (i := 2) hg6 rfl
    have e3 := cell_of (i := 3) hg6 rfl
    clear hw6 d0 d1 g0 HR5 HG5 HZ5 HX5 hg6 HZ1 HX1
    have KK := Lib.hid (fun W (hW : Below w0.heap.size w0 W) => Keyword_any tx W htx (HE.out.max.ext hW))
    rw [h2] at KK
    clear h2
    go_wp2_with fail
    refine (KK.out _ HL6.out).mono ?_
    intro w7 hE
    have HR7 := Lib.hid ((hE.block _ (lt_of_block HR6.out)).trans HR6.out)
    have HZ7 := Lib.hid ((hE.block _ (lt_of_block HZ6.out)).trans HZ6.out)
    have HG7 := Lib.hid ((hE.block _ (lt_of_block HG6.out)).trans HG6.out)
    have HO7 := Lib.hid (HO6.out.trans (Oth.of_ext hE))
    have HL7 := Lib.hid (show Below w0.heap.size w0 w7 from low_ext HL6.out hE)
    clear hE e0 e1 e2 e3
    have e0 := cell_of (i := 0) HG7.out rfl
    have e1 := cell_of (i := 1) HG7.out rfl
    have e2 := cell_of (i := 2) HG7.out rfl
    have e3 := cell_of (i := 3) HG7.out rfl
    have d1 : w7.cell? ⟨R, 1, none⟩ = some (.int .i64 ((k : Int) + 1)) := cell_of HR7.out (by simp)
    go_wp2
    exact ⟨rfl, by simp, HO7.out⟩

set_option maxRecDepth 100000 in
set_option maxHeartbeats 8000000 in
theorem operand_bad1n {w0 : World} {R : Nat} {p : Option Addr} {c : Nat} {l : List Tk} (hE : RdE w0 R p c l) (k : Nat) (hk : k < l.length) (h1 : l[k].kind = 1) (h2 : kwB l[k].text = false) (h3 : isNm l[k].text = false) (w : World) (hb : Below w0.heap.size w0 w) (hrd : w.heap[R]? = some (rdO p l.length c k)) :
    Calls Tryz.prog 91 #[.pointer (some ⟨R, 0, none⟩)] w (Got R p l.length c w (.bad k)) := by
  obtain ⟨b, off, rfl, q0, q1, q2, q3⟩ := hE.tks k hk
  have HE := Lib.hid hE
  have HB0 := Lib.hid hb
  have HR0 := Lib.hid hrd
  have HRl := Lib.hid (lt_of_block hrd)
  have HRb := Lib.hid (show b ≠ R from fun e => by have h1 := cell_lt' q0; have h2 := hE.low; simp only at h1; omega)
  have d0 : w.cell? ⟨R, 0, none⟩ = some (.slice (some ⟨b, off, none⟩) l.length c) := cell_of hrd rfl
  have d1 : w.cell? ⟨R, 1, none⟩ = some (.int .i64 (k : Int)) := cell_of hrd rfl
  have c0 := (hb.cell (p := ⟨b, off + k * 4, none⟩) (cell_lt' q0)).trans q0
  have c1 := (hb.cell (p := ⟨b, off + k * 4 + 1, none⟩) (cell_lt' q1)).trans q1
  have c2 := (hb.cell (p := ⟨b, off + k * 4 + 2, none⟩) (cell_lt' q2)).trans q2
  have c3 := (hb.cell (p := ⟨b, off + k * 4 + 3, none⟩) (cell_lt' q3)).trans q3
  have hn9 := hE.len
  have hcap := hE.cap
  clear q0 q1 q2 q3
  have htx : (l[k]).text.length ≤ 140737488351232 := hE.txt _ (List.getElem_mem hk)
  generalize l[k] = t at *
  obtain ⟨tk, tx, tv, tp⟩ := t
  dsimp only at *

  obtain ⟨n, hn⟩ : ∃ n, l.length = n := ⟨_, rfl⟩
  rw [hn] at hk hrd HR0 hn9 hcap d0 
  rw [hn]
  have HN := Lib.hid hn
  clear hn
  have X0 := Lib.hid d0
  have X1 := Lib.hid d1
  have Y0 := Lib.hid c0
  have Y1 := Lib.hid c1
  have Y2 := Lib.hid c2
  have Y3 := Lib.hid c3
  clear c0 c1 c2 c3 hE hb hrd
  subst h1
  have hkn : (k : Int) < (n : Int) := by omega
  have hkc : k < n := hk
  have hk0 : (0 : Int) ≤ (k : Int) := by omega
  have hge : ¬ (n : Int) ≤ (k : Int) := by omega
  have hge2 : ¬ n ≤ k := by omega
  have hRl := HRl.out
  go_enter Tryz.func91, Tryz.ntmps91
  go_wp2
  go_quiet (fail)
  go_wp2
  obtain ⟨w1, hw1⟩ : ∃ W, W = World.drewN (w.alloc (.cells #[.int .i64 0, .int .i64 0, .string { data := #[] }, .int .i64 0, .slice none 0 0] 25)) nq := ⟨_, rfl⟩
  have HX1 := Lib.hid (show Ext w w1 by rw [hw1]; exact Ext.drewN' (ext_alloc w _))
  have HZ1 := Lib.hid (show w1.heap[w.heap.size]? = some (.cells #[.int .i64 0, .int .i64 0, .string { data := #[] }, .int .i64 0, .slice none 0 0] 25) by rw [hw1]; exact alloc_here w _)
  change Code.wp _ _ _ _ (World.drewN (w.alloc (.cells #[.int .i64 0, .int .i64 0, .string { data := #[] }, .int .i64 0, .slice none 0 0] 25)) nq)
  rw [← hw1]
  clear hw1 d0 d1
  replace X0 := Lib.hid (Ext.cellE X0.out HX1.out)
  replace X1 := Lib.hid (Ext.cellE X1.out HX1.out)
  replace Y0 := Lib.hid (Ext.cellE Y0.out HX1.out)
  replace Y1 := Lib.hid (Ext.cellE Y1.out HX1.out)
  replace Y2 := Lib.hid (Ext.cellE Y2.out HX1.out)
  replace Y3 := Lib.hid (Ext.cellE Y3.out HX1.out)
  refine wp_region_tail (l1 := [_, _, _, _, _, _, _, _, _, _, _]) (l2 := [_]) (by kernel_rfl) Ext (fun W => Below.refl _ W) (fun W => show Below W.heap.size W { W with drawn := W.drawn + 1 } from ⟨rfl, rfl, rfl, Nat.le_refl _, fun _ _ => rfl⟩) Ext.trans
    (fun i s W => match i with
      | 0 => s 0 = .pointer (some ⟨R, 0, none⟩)
      | 1 => s 1 = .pointer (some ⟨R, 0, none⟩)
      | 2 => s 2 = .pointer (some ⟨R, 0, none⟩)
      | 3 => s 3 = .slice (some ⟨b, off, none⟩) n c
      | 4 => s 4 = .pointer (some ⟨R, 0, none⟩)
      | 5 => s 5 = .pointer (some ⟨R, 0, none⟩)
      | 6 => s 6 = .pointer (some ⟨R, 1, none⟩)
      | 7 => s 7 = .int .i64 (k : Int)
      | 8 => s 8 = .pointer (some ⟨b, off + k * 4, none⟩)
      | 9 => s 9 = .agg #[.int .i64 (1), sV tx, .int .i64 tv, .int .i64 tp]
      | 10 => ∃ g, s 10 = .pointer (some ⟨g, 0, none⟩) ∧ w1.heap.size ≤ g ∧ W.heap[g]? = some (.cells #[.int .i64 0, .string { data := #[] }, .int .i64 0, .int .i64 0] 36)
      | _ => True)
    (fun i => [i])
    (by
      intro i s s' W W' h hs hE
      have hs := hs i (by simp)
      match i, h, hs with
      | 0, h, hs => exact hs.trans h
      | 1, h, hs => exact hs.trans h
      | 2, h, hs => exact hs.trans h
      | 3, h, hs => exact hs.trans h
      | 4, h, hs => exact hs.trans h
      | 5, h, hs => exact hs.trans h
      | 6, h, hs => exact hs.trans h
      | 7, h, hs => exact hs.trans h
      | 8, h, hs => exact hs.trans h
      | 9, h, hs => exact hs.trans h
      | 10, ⟨g, h1, h2, h3⟩, hs => exact ⟨g, hs.trans h1, h2, (hE.below.block _ (lt_of_block h3)).trans h3⟩
      | i + 11, h, hs => exact trivial)
    (by kernel_rfl) (by kernel_rfl) (by kernel_rfl) 128 rfl (by kernel_rfl) (by kernel_rfl) ?_ ?_
  · intro i op ho a' W hA
    have x0 := Ext.cellE X0.out hA.rel
    have x1 := Ext.cellE X1.out hA.rel
    have y0 := Ext.cellE Y0.out hA.rel
    have y1 := Ext.cellE Y1.out hA.rel
    have y2 := Ext.cellE Y2.out hA.rel
    have y3 := Ext.cellE Y3.out hA.rel
    match i, ho with
    | 0, ho =>
      obtain rfl := Option.some.inj ho
      have e1 : a'.eval (.tmp 0) = .pointer (some ⟨R, 0, none⟩) := hA.keep 0 (by kernel_rfl)
      refine GoesG.value (.pointer (some ⟨R, 0, none⟩)) rfl ?_ (Below.refl _ _) (fun s h1 h2 => h1 rfl)
      simp only [execOp, e1]
      simp [go_sem, x0, x1, y0, y1, y2, y3, hkc, hkn, hk0]
    | 1, ho =>
      obtain rfl := Option.some.inj ho
      have e1 : a'.eval (.tmp 21) = .pointer (some ⟨R, 0, none⟩) := (sv_dst (l := _) rfl).symm.trans (hA.new 0 (by decide) (by kernel_rfl))
      refine GoesG.value (.pointer (some ⟨R, 0, none⟩)) rfl ?_ (Below.refl _ _) (fun s h1 h2 => h1 rfl)
      simp only [execOp, e1]
      simp [go_sem, x0, x1, y0, y1, y2, y3, hkc, hkn, hk0]
    | 2, ho =>
      obtain rfl := Option.some.inj ho
      have e1 : a'.eval (.tmp 22) = .pointer (some ⟨R, 0, none⟩) := (sv_dst (l := _) rfl).symm.trans (hA.new 1 (by decide) (by kernel_rfl))
      refine GoesG.value (.pointer (some ⟨R, 0, none⟩)) rfl ?_ (Below.refl _ _) (fun s h1 h2 => h1 rfl)
      simp only [execOp, e1]
      simp [go_sem, x0, x1, y0, y1, y2, y3, hkc, hkn, hk0]
    | 3, ho =>
      obtain rfl := Option.some.inj ho
      have e1 : a'.eval (.tmp 23) = .pointer (some ⟨R, 0, none⟩) := (sv_dst (l := _) rfl).symm.trans (hA.new 2 (by decide) (by kernel_rfl))
      refine GoesG.value (.slice (some ⟨b, off, none⟩) n c) rfl ?_ (Below.refl _ _) (fun s h1 h2 => h1 rfl)
      simp only [execOp, e1]
      simp [go_sem, x0, x1, y0, y1, y2, y3, hkc, hkn, hk0]
    | 4, ho =>
      obtain rfl := Option.some.inj ho
      have e1 : a'.eval (.tmp 0) = .pointer (some ⟨R, 0, none⟩) := hA.keep 0 (by kernel_rfl)
      refine GoesG.value (.pointer (some ⟨R, 0, none⟩)) rfl ?_ (Below.refl _ _) (fun s h1 h2 => h1 rfl)
      simp only [execOp, e1]
      simp [go_sem, x0, x1, y0, y1, y2, y3, hkc, hkn, hk0]
    | 5, ho =>
      obtain rfl := Option.some.inj ho
      have e1 : a'.eval (.tmp 25) = .pointer (some ⟨R, 0, none⟩) := (sv_dst (l := _) rfl).symm.trans (hA.new 4 (by decide) (by kernel_rfl))
      refine GoesG.value (.pointer (some ⟨R, 0, none⟩)) rfl ?_ (Below.refl _ _) (fun s h1 h2 => h1 rfl)
      simp only [execOp, e1]
      simp [go_sem, x0, x1, y0, y1, y2, y3, hkc, hkn, hk0]
    | 6, ho =>
      obtain rfl := Option.some.inj ho
      have e1 : a'.eval (.tmp 26) = .pointer (some ⟨R, 0, none⟩) := (sv_dst (l := _) rfl).symm.trans (hA.new 5 (by decide) (by kernel_rfl))
      refine GoesG.value (.pointer (some ⟨R, 1, none⟩)) rfl ?_ (Below.refl _ _) (fun s h1 h2 => h1 rfl)
      simp only [execOp, e1]
      simp [go_sem, x0, x1, y0, y1, y2, y3, hkc, hkn, hk0]
    | 7, ho =>
      obtain rfl := Option.some.inj ho
      have e1 : a'.eval (.tmp 27) = .pointer (some ⟨R, 1, none⟩) := (sv_dst (l := _) rfl).symm.trans (hA.new 6 (by decide) (by kernel_rfl))
      refine GoesG.value (.int .i64 (k : Int)) rfl ?_ (Below.refl _ _) (fun s h1 h2 => h1 rfl)
      simp only [execOp, e1]
      simp [go_sem, x0, x1, y0, y1, y2, y3, hkc, hkn, hk0]
    | 8, ho =>
      obtain rfl := Option.some.inj ho
      have e1 : a'.eval (.tmp 24) = .slice (some ⟨b, off, none⟩) n c := (sv_dst (l := _) rfl).symm.trans (hA.new 3 (by decide) (by kernel_rfl))
      have e2 : a'.eval (.tmp 28) = .int .i64 (k : Int) := (sv_dst (l := _) rfl).symm.trans (hA.new 7 (by decide) (by kernel_rfl))
      refine GoesG.value (.pointer (some ⟨b, off + k * 4, none⟩)) rfl ?_ (Below.refl _ _) (fun s h1 h2 => h1 rfl)
      simp only [execOp, e1, e2]
      simp [go_sem, x0, x1, y0, y1, y2, y3, hkc, hkn, hk0]
    | 9, ho =>
      obtain rfl := Option.some.inj ho
      have e1 : a'.eval (.tmp 29) = .pointer (some ⟨b, off + k * 4, none⟩) := (sv_dst (l := _) rfl).symm.trans (hA.new 8 (by decide) (by kernel_rfl))
      refine GoesG.value (.agg #[.int .i64 (1), sV tx, .int .i64 tv, .int .i64 tp]) rfl ?_ (Below.refl _ _) (fun s h1 h2 => h1 rfl)
      simp only [execOp, e1]
      simp [go_sem, x0, x1, y0, y1, y2, y3, hkc, hkn, hk0]
    | 10, ho =>
      obtain rfl := Option.some.inj ho
      refine GoesG.value (.pointer (some ⟨W.heap.size, 0, none⟩)) (W' := W.alloc (.cells #[.int .i64 0, .string { data := #[] }, .int .i64 0, .int .i64 0] 36)) rfl ?_ (ext_alloc _ _) (fun s h1 h2 => ⟨W.heap.size, h1 rfl, hA.rel.size, alloc_here _ _⟩)
      simp only [execOp]
      simp [go_sem, sB_nil]
    | i + 11, ho => cases ho
  · intro vs w4 hvs hG hΦ
    obtain ⟨z0, z1, z2, z3, z4, z5, z6, z7, z8, z9, z10, rfl⟩ : ∃ z0 z1 z2 z3 z4 z5 z6 z7 z8 z9 z10, vs = z0 :: z1 :: z2 :: z3 :: z4 :: z5 :: z6 :: z7 :: z8 :: z9 :: z10 :: [] := by
      match vs, hvs with
      | y0 :: y1 :: y2 :: y3 :: y4 :: y5 :: y6 :: y7 :: y8 :: y9 :: y10 :: [], _ => exact ⟨y0, y1, y2, y3, y4, y5, y6, y7, y8, y9, y10, rfl⟩
    have e0 : z0 = .pointer (some ⟨R, 0, none⟩) := hΦ 0 (by decide)
    subst e0
    have e1 : z1 = .pointer (some ⟨R, 0, none⟩) := hΦ 1 (by decide)
    subst e1
    have e2 : z2 = .pointer (some ⟨R, 0, none⟩) := hΦ 2 (by decide)
    subst e2
    have e3 : z3 = .slice (some ⟨b, off, none⟩) n c := hΦ 3 (by decide)
    subst e3
    have e4 : z4 = .pointer (some ⟨R, 0, none⟩) := hΦ 4 (by decide)
    subst e4
    have e5 : z5 = .pointer (some ⟨R, 0, none⟩) := hΦ 5 (by decide)
    subst e5
    have e6 : z6 = .pointer (some ⟨R, 1, none⟩) := hΦ 6 (by decide)
    subst e6
    have e7 : z7 = .int .i64 (k : Int) := hΦ 7 (by decide)
    subst e7
    have e8 : z8 = .pointer (some ⟨b, off + k * 4, none⟩) := hΦ 8 (by decide)
    subst e8
    have e9 : z9 = .agg #[.int .i64 (1), sV tx, .int .i64 tv, .int .i64 tp] := hΦ 9 (by decide)
    subst e9
    have p10 : ∃ g, z10 = .pointer (some ⟨g, 0, none⟩) ∧ w1.heap.size ≤ g ∧ w4.heap[g]? = some (.cells #[.int .i64 0, .string { data := #[] }, .int .i64 0, .int .i64 0] 36) := hΦ 10 (by decide)
    clear hΦ hvs
    simp only [putAll, Act.put, List.setIfInBounds_toArray, List.set_cons_succ, List.set_cons_zero]
    obtain ⟨g, rfl, hg1, hg2⟩ := p10
    have e0 := cell_of (i := 0) hg2 rfl
    have e1 := cell_of (i := 1) hg2 rfl
    have e2 := cell_of (i := 2) hg2 rfl
    have e3 := cell_of (i := 3) hg2 rfl
    have f0 : ∀ i, w4.frozen? ⟨g, i, none⟩ = false := fun i => free_of hg2
    have HG2 := Lib.hid hg2
    have HG1 := Lib.hid hg1
    have HG := Lib.hid hG
    clear hg1 hg2 hG
    go_upto_region 4 with fail
    obtain ⟨w5, hw5, hg5, hB5, hO5⟩ := put4 HG2.out rfl (.int .i64 (1)) (sV tx) (.int .i64 tv) (.int .i64 tp)
    rw [hw5]
    have HX5 := Lib.hid (show Ext w w5 from Below.trans (Below.trans HX1.out (HG.out.below.mono HX1.out.size)) (hB5 _ (Nat.le_trans HX1.out.size HG1.out)))
    have HBN := Lib.hid (show w.heap.size < g from Nat.lt_of_lt_of_le (lt_of_block HZ1.out) HG1.out)
    have hr5 : w5.heap[R]? = some (rdO (some ⟨b, off, none⟩) n c k) := (HX5.out.below.block _ HRl.out).trans HR0.out
    have HZ5 := Lib.hid (show w5.heap[w.heap.size]? = some (.cells #[.int .i64 0, .int .i64 0, .string { data := #[] }, .int .i64 0, .slice none 0 0] 25) from (hO5 _ (by have := HBN.out; omega)).trans ((HG.out.below.block _ (lt_of_block HZ1.out)).trans HZ1.out))
    have HG5 := Lib.hid hg5
    have HR5 := Lib.hid hr5
    have d0 : w5.cell? ⟨R, 0, none⟩ = some (.slice (some ⟨b, off, none⟩) n c) := cell_of hr5 rfl
    have d1 : w5.cell? ⟨R, 1, none⟩ = some (.int .i64 (k : Int)) := cell_of hr5 rfl
    have g0 : ∀ i, w5.frozen? ⟨R, i, none⟩ = false := fun i => free_of hr5
    clear hw5 hg5 hB5 hO5 hr5 e0 e1 e2 e3 f0 X0 X1 Y0 Y1 Y2 Y3 HG HG2
    go_upto_region 5 with fail
    obtain ⟨w6, hw6⟩ : ∃ W, w5.setCell ⟨R, 1, none⟩ (.int .i64 ((k : Int) + 1)) = W := ⟨_, rfl⟩
    rw [hw6]
    have HR6 := Lib.hid (show w6.heap[R]? = some (rdO (some ⟨b, off, none⟩) n c (k + 1)) from by
      have h := ((Turn.refl HR5.out).setCell (i := 1) (.int .i64 ((k : Int) + 1))).here
      rw [hw6] at h
      rw [h]; simp)
    have HO6 := Lib.hid (show Oth R w w6 from by rw [← hw6]; exact (Oth.of_ext HX5.out).trans (Oth.set R 1 _ w5))
    have HZ6 := Lib.hid (show w6.heap[w.heap.size]? = some (.cells #[.int .i64 0, .int .i64 0, .string { data := #[] }, .int .i64 0, .slice none 0 0] 25) from by rw [← hw6]; exact (Below.heap_setCell _ _ _ _ (by have := HRl.out; show w.heap.size ≠ R; omega)).trans HZ5.out)
    have hg6 : w6.heap[g]? = some (.cells #[.int .i64 (1), sV tx, .int .i64 tv, .int .i64 tp] tTk) := by rw [← hw6]; exact (Below.heap_setCell _ _ _ _ (by have := HRl.out; have := HBN.out; show g ≠ R; omega)).trans HG5.out
    have HG6 := Lib.hid hg6
    have HL6 := Lib.hid (show Below w0.heap.size w0 w6 from Below.trans HB0.out (HO6.out.below HE.out.low HB0.out.size))
    have e0 := cell_of (i := 0) hg6 rfl
    have e1 := cell_of (i := 1) hg6 rfl
    have e2 := cell_of (i := 2) hg6 rfl
    have e3 := cell_of (i := 3) hg6 rfl
    clear hw6 d0 d1 g0 HR5 HG5 HZ5 HX5 hg6 HZ1 HX1
    have KK := Lib.hid (fun W (hW : Below w0.heap.size w0 W) => Keyword_any tx W htx (HE.out.max.ext hW))
    rw [h2] at KK
    have KC := Lib.hid (fun W => (show Gives Tryz.prog 36 #[.agg #[.int .i64 2, .int .i64 0, sV tx, .int .i64 0, .slice none 0 0]] W (.int .i64 5) from by
      have := Check_any (namX tx) none 0 W (AtB_leaf (fun _ => True) W none (fits_nam htx)).at
      rw [chk_nam, h3] at this
      exact this))
    clear h2 h3
    go_wp2_with fail
    refine (KK.out _ HL6.out).mono ?_
    intro w7 hE
    have HR7 := Lib.hid ((hE.block _ (lt_of_block HR6.out)).trans HR6.out)
    have HZ7 := Lib.hid ((hE.block _ (lt_of_block HZ6.out)).trans HZ6.out)
    have HG7 := Lib.hid ((hE.block _ (lt_of_block HG6.out)).trans HG6.out)
    have HO7 := Lib.hid (HO6.out.trans (Oth.of_ext hE))
    have HL7 := Lib.hid (show Below w0.heap.size w0 w7 from low_ext HL6.out hE)
    clear hE e0 e1 e2 e3
    have e0 := cell_of (i := 0) HG7.out rfl
    have e1 := cell_of (i := 1) HG7.out rfl
    have e2 := cell_of (i := 2) HG7.out rfl
    have e3 := cell_of (i := 3) HG7.out rfl
    go_wp2_with fail
    refine (KC.out _).mono ?_
    intro w8 hE
    have HR8 := Lib.hid ((hE.block _ (lt_of_block HR7.out)).trans HR7.out)
    have HZ8 := Lib.hid ((hE.block _ (lt_of_block HZ7.out)).trans HZ7.out)
    have HG8 := Lib.hid ((hE.block _ (lt_of_block HG7.out)).trans HG7.out)
    have HO8 := Lib.hid (HO7.out.trans (Oth.of_ext hE))
    have HL8 := Lib.hid (show Below w0.heap.size w0 w8 from low_ext HL7.out hE)
    clear hE e0 e1 e2 e3
    have e0 := cell_of (i := 0) HG8.out rfl
    have e1 := cell_of (i := 1) HG8.out rfl
    have e2 := cell_of (i := 2) HG8.out rfl
    have e3 := cell_of (i := 3) HG8.out rfl
    have d1 : w8.cell? ⟨R, 1, none⟩ = some (.int .i64 ((k : Int) + 1)) := cell_of HR8.out (by simp)
    go_wp2
    exact ⟨rfl, by simp, HO8.out⟩

set_option maxRecDepth 100000 in
set_option maxHeartbeats 8000000 in
theorem operand_bad3 {w0 : World} {R : Nat} {p : Option Addr} {c : Nat} {l : List Tk} (hE : RdE w0 R p c l) (k : Nat) (hk : k < l.length) (h1 : l[k].kind = 3) (h45 : l[k].text ≠ [45]) (h33 : l[k].text ≠ [33]) (h40 : l[k].text ≠ [40]) (w : World) (hb : Below w0.heap.size w0 w) (hrd : w.heap[R]? = some (rdO p l.length c k)) :
    Calls Tryz.prog 91 #[.pointer (some ⟨R, 0, none⟩)] w (Got R p l.length c w (.bad k)) := by
  obtain ⟨b, off, rfl, q0, q1, q2, q3⟩ := hE.tks k hk
  have HE := Lib.hid hE
  have HB0 := Lib.hid hb
  have HR0 := Lib.hid hrd
  have HRl := Lib.hid (lt_of_block hrd)
  have HRb := Lib.hid (show b ≠ R from fun e => by have h1 := cell_lt' q0; have h2 := hE.low; simp only at h1; omega)
  have d0 : w.cell? ⟨R, 0, none⟩ = some (.slice (some ⟨b, off, none⟩) l.length c) := cell_of hrd rfl
  have d1 : w.cell? ⟨R, 1, none⟩ = some (.int .i64 (k : Int)) := cell_of hrd rfl
  have c0 := (hb.cell (p := ⟨b, off + k * 4, none⟩) (cell_lt' q0)).trans q0
  have c1 := (hb.cell (p := ⟨b, off + k * 4 + 1, none⟩) (cell_lt' q1)).trans q1
  have c2 := (hb.cell (p := ⟨b, off + k * 4 + 2, none⟩) (cell_lt' q2)).trans q2
  have c3 := (hb.cell (p := ⟨b, off + k * 4 + 3, none⟩) (cell_lt' q3)).trans q3
  have hn9 := hE.len
  have hcap := hE.cap
  clear q0 q1 q2 q3
  have htx : (l[k]).text.length ≤ 140737488351232 := hE.txt _ (List.getElem_mem hk)
  generalize l[k] = t at *
  obtain ⟨tk, tx, tv, tp⟩ := t
  dsimp only at *

  obtain ⟨n, hn⟩ : ∃ n, l.length = n := ⟨_, rfl⟩
  rw [hn] at hk hrd HR0 hn9 hcap d0 
  rw [hn]
  have HN := Lib.hid hn
  clear hn
  have X0 := Lib.hid d0
  have X1 := Lib.hid d1
  have Y0 := Lib.hid c0
  have Y1 := Lib.hid c1
  have Y2 := Lib.hid c2
  have Y3 := Lib.hid c3
  clear c0 c1 c2 c3 hE hb hrd
  subst h1
  have q45 : (sB tx == { data := #[45] }) = false := by show (sB tx == sB [45]) = false; rw [sB_beq]; simpa using h45
  have r45 : (tx == [45]) = false := by simpa using h45
  have q33 : (sB tx == { data := #[33] }) = false := by show (sB tx == sB [33]) = false; rw [sB_beq]; simpa using h33
  have r33 : (tx == [33]) = false := by simpa using h33
  have q40 : (sB tx == { data := #[40] }) = false := by show (sB tx == sB [40]) = false; rw [sB_beq]; simpa using h40
  have r40 : (tx == [40]) = false := by simpa using h40
  clear h45 h33 h40
  have hkn : (k : Int) < (n : Int) := by omega
  have hkc : k < n := hk
  have hk0 : (0 : Int) ≤ (k : Int) := by omega
  have hge : ¬ (n : Int) ≤ (k : Int) := by omega
  have hge2 : ¬ n ≤ k := by omega
  have hRl := HRl.out
  go_enter Tryz.func91, Tryz.ntmps91
  go_wp2
  go_quiet (fail)
  go_wp2
  obtain ⟨w1, hw1⟩ : ∃ W, W = World.drewN (w.alloc (.cells #[.int .i64 0, .int .i64 0, .string { data := #[] }, .int .i64 0, .slice none 0 0] 25)) nq := ⟨_, rfl⟩
  have HX1 := Lib.hid (show Ext w w1 by rw [hw1]; exact Ext.drewN' (ext_alloc w _))
  have HZ1 := Lib.hid (show w1.heap[w.heap.size]? = some (.cells #[.int .i64 0, .int .i64 0, .string { data := #[] }, .int .i64 0, .slice none 0 0] 25) by rw [hw1]; exact alloc_here w _)
  change Code.wp _ _ _ _ (World.drewN (w.alloc (.cells #[.int .i64 0, .int .i64 0, .string { data := #[] }, .int .i64 0, .slice none 0 0] 25)) nq)
  rw [← hw1]
  clear hw1 d0 d1
  replace X0 := Lib.hid (Ext.cellE X0.out HX1.out)
  replace X1 := Lib.hid (Ext.cellE X1.out HX1.out)
  replace Y0 := Lib.hid (Ext.cellE Y0.out HX1.out)
  replace Y1 := Lib.hid (Ext.cellE Y1.out HX1.out)
  replace Y2 := Lib.hid (Ext.cellE Y2.out HX1.out)
  replace Y3 := Lib.hid (Ext.cellE Y3.out HX1.out)
  refine wp_region_tail (l1 := [_, _, _, _, _, _, _, _, _, _, _]) (l2 := [_]) (by kernel_rfl) Ext (fun W => Below.refl _ W) (fun W => show Below W.heap.size W { W with drawn := W.drawn + 1 } from ⟨rfl, rfl, rfl, Nat.le_refl _, fun _ _ => rfl⟩) Ext.trans
    (fun i s W => match i with
      | 0 => s 0 = .pointer (some ⟨R, 0, none⟩)
      | 1 => s 1 = .pointer (some ⟨R, 0, none⟩)
      | 2 => s 2 = .pointer (some ⟨R, 0, none⟩)
      | 3 => s 3 = .slice (some ⟨b, off, none⟩) n c
      | 4 => s 4 = .pointer (some ⟨R, 0, none⟩)
      | 5 => s 5 = .pointer (some ⟨R, 0, none⟩)
      | 6 => s 6 = .pointer (some ⟨R, 1, none⟩)
      | 7 => s 7 = .int .i64 (k : Int)
      | 8 => s 8 = .pointer (some ⟨b, off + k * 4, none⟩)
      | 9 => s 9 = .agg #[.int .i64 (3), sV tx, .int .i64 tv, .int .i64 tp]
      | 10 => ∃ g, s 10 = .pointer (some ⟨g, 0, none⟩) ∧ w1.heap.size ≤ g ∧ W.heap[g]? = some (.cells #[.int .i64 0, .string { data := #[] }, .int .i64 0, .int .i64 0] 36)
      | _ => True)
    (fun i => [i])
    (by
      intro i s s' W W' h hs hE
      have hs := hs i (by simp)
      match i, h, hs with
      | 0, h, hs => exact hs.trans h
      | 1, h, hs => exact hs.trans h
      | 2, h, hs => exact hs.trans h
      | 3, h, hs => exact hs.trans h
      | 4, h, hs => exact hs.trans h
      | 5, h, hs => exact hs.trans h
      | 6, h, hs => exact hs.trans h
      | 7, h, hs => exact hs.trans h
      | 8, h, hs => exact hs.trans h
      | 9, h, hs => exact hs.trans h
      | 10, ⟨g, h1, h2, h3⟩, hs => exact ⟨g, hs.trans h1, h2, (hE.below.block _ (lt_of_block h3)).trans h3⟩
      | i + 11, h, hs => exact trivial)
    (by kernel_rfl) (by kernel_rfl) (by kernel_rfl) 128 rfl (by kernel_rfl) (by kernel_rfl) ?_ ?_
  · intro i op ho a' W hA
    have x0 := Ext.cellE X0.out hA.rel
    have x1 := Ext.cellE X1.out hA.rel
    have y0 := Ext.cellE Y0.out hA.rel
    have y1 := Ext.cellE Y1.out hA.rel
    have y2 := Ext.cellE Y2.out hA.rel
    have y3 := Ext.cellE Y3.out hA.rel
    match i, ho with
    | 0, ho =>
      obtain rfl := Option.some.inj ho
      have e1 : a'.eval (.tmp 0) = .pointer (some ⟨R, 0, none⟩) := hA.keep 0 (by kernel_rfl)
      refine GoesG.value (.pointer (some ⟨R, 0, none⟩)) rfl ?_ (Below.refl _ _) (fun s h1 h2 => h1 rfl)
      simp only [execOp, e1]
      simp [go_sem, x0, x1, y0, y1, y2, y3, hkc, hkn, hk0]
    | 1, ho =>
      obtain rfl := Option.some.inj ho
      have e1 : a'.eval (.tmp 21) = .pointer (some ⟨R, 0, none⟩) := (sv_dst (l := _) rfl).symm.trans (hA.new 0 (by decide) (by kernel_rfl))
      refine GoesG.value (.pointer (some ⟨R, 0, none⟩)) rfl ?_ (Below.refl _ _) (fun s h1 h2 => h1 rfl)
      simp only [execOp, e1]
      simp [go_sem, x0, x1, y0, y1, y2, y3, hkc, hkn, hk0]
    | 2, ho =>
      obtain rfl := Option.some.inj ho
      have e1 : a'.eval (.tmp 22) = .pointer (some ⟨R, 0, none⟩) := (sv_dst (l := _) rfl).symm.trans (hA.new 1 (by decide) (by kernel_rfl))
      refine GoesG.value (.pointer (some ⟨R, 0, none⟩)) rfl ?_ (Below.refl _ _) (fun s h1 h2 => h1 rfl)
      simp only [execOp, e1]
      simp [go_sem, x0, x1, y0, y1, y2, y3, hkc, hkn, hk0]
    | 3, ho =>
      obtain rfl := Option.some.inj ho
      have e1 : a'.eval (.tmp 23) = .pointer (some ⟨R, 0, none⟩) := (sv_dst (l := _) rfl).symm.trans (hA.new 2 (by decide) (by kernel_rfl))
      refine GoesG.value (.slice (some ⟨b, off, none⟩) n c) rfl ?_ (Below.refl _ _) (fun s h1 h2 => h1 rfl)
      simp only [execOp, e1]
      simp [go_sem, x0, x1, y0, y1, y2, y3, hkc, hkn, hk0]
    | 4, ho =>
      obtain rfl := Option.some.inj ho
      have e1 : a'.eval (.tmp 0) = .pointer (some ⟨R, 0, none⟩) := hA.keep 0 (by kernel_rfl)
      refine GoesG.value (.pointer (some ⟨R, 0, none⟩)) rfl ?_ (Below.refl _ _) (fun s h1 h2 => h1 rfl)
      simp only [execOp, e1]
      simp [go_sem, x0, x1, y0, y1, y2, y3, hkc, hkn, hk0]
    | 5, ho =>
      obtain rfl := Option.some.inj ho
      have e1 : a'.eval (.tmp 25) = .pointer (some ⟨R, 0, none⟩) := (sv_dst (l := _) rfl).symm.trans (hA.new 4 (by decide) (by kernel_rfl))
      refine GoesG.value (.pointer (some ⟨R, 0, none⟩)) rfl ?_ (Below.refl _ _) (fun s h1 h2 => h1 rfl)
      simp only [execOp, e1]
      simp [go_sem, x0, x1, y0, y1, y2, y3, hkc, hkn, hk0]
    | 6, ho =>
      obtain rfl := Option.some.inj ho
      have e1 : a'.eval (.tmp 26) = .pointer (some ⟨R, 0, none⟩) := (sv_dst (l := _) rfl).symm.trans (hA.new 5 (by decide) (by kernel_rfl))
      refine GoesG.value (.pointer (some ⟨R, 1, none⟩)) rfl ?_ (Below.refl _ _) (fun s h1 h2 => h1 rfl)
      simp only [execOp, e1]
      simp [go_sem, x0, x1, y0, y1, y2, y3, hkc, hkn, hk0]
    | 7, ho =>
      obtain rfl := Option.some.inj ho
      have e1 : a'.eval (.tmp 27) = .pointer (some ⟨R, 1, none⟩) := (sv_dst (l := _) rfl).symm.trans (hA.new 6 (by decide) (by kernel_rfl))
      refine GoesG.value (.int .i64 (k : Int)) rfl ?_ (Below.refl _ _) (fun s h1 h2 => h1 rfl)
      simp only [execOp, e1]
      simp [go_sem, x0, x1, y0, y1, y2, y3, hkc, hkn, hk0]
    | 8, ho =>
      obtain rfl := Option.some.inj ho
      have e1 : a'.eval (.tmp 24) = .slice (some ⟨b, off, none⟩) n c := (sv_dst (l := _) rfl).symm.trans (hA.new 3 (by decide) (by kernel_rfl))
      have e2 : a'.eval (.tmp 28) = .int .i64 (k : Int) := (sv_dst (l := _) rfl).symm.trans (hA.new 7 (by decide) (by kernel_rfl))
      refine GoesG.value (.pointer (some ⟨b, off + k * 4, none⟩)) rfl ?_ (Below.refl _ _) (fun s h1 h2 => h1 rfl)
      simp only [execOp, e1, e2]
      simp [go_sem, x0, x1, y0, y1, y2, y3, hkc, hkn, hk0]
    | 9, ho =>
      obtain rfl := Option.some.inj ho
      have e1 : a'.eval (.tmp 29) = .pointer (some ⟨b, off + k * 4, none⟩) := (sv_dst (l := _) rfl).symm.trans (hA.new 8 (by decide) (by kernel_rfl))
      refine GoesG.value (.agg #[.int .i64 (3), sV tx, .int .i64 tv, .int .i64 tp]) rfl ?_ (Below.refl _ _) (fun s h1 h2 => h1 rfl)
      simp only [execOp, e1]
      simp [go_sem, x0, x1, y0, y1, y2, y3, hkc, hkn, hk0]
    | 10, ho =>
      obtain rfl := Option.some.inj ho
      refine GoesG.value (.pointer (some ⟨W.heap.size, 0, none⟩)) (W' := W.alloc (.cells #[.int .i64 0, .string { data := #[] }, .int .i64 0, .int .i64 0] 36)) rfl ?_ (ext_alloc _ _) (fun s h1 h2 => ⟨W.heap.size, h1 rfl, hA.rel.size, alloc_here _ _⟩)
      simp only [execOp]
      simp [go_sem, sB_nil]
    | i + 11, ho => cases ho
  · intro vs w4 hvs hG hΦ
    obtain ⟨z0, z1, z2, z3, z4, z5, z6, z7, z8, z9, z10, rfl⟩ : ∃ z0 z1 z2 z3 z4 z5 z6 z7 z8 z9 z10, vs = z0 :: z1 :: z2 :: z3 :: z4 :: z5 :: z6 :: z7 :: z8 :: z9 :: z10 :: [] := by
      match vs, hvs with
      | y0 :: y1 :: y2 :: y3 :: y4 :: y5 :: y6 :: y7 :: y8 :: y9 :: y10 :: [], _ => exact ⟨y0, y1, y2, y3, y4, y5, y6, y7, y8, y9, y10, rfl⟩
    have e0 : z0 = .pointer (some ⟨R, 0, none⟩) := hΦ 0 (by decide)
    subst e0
    have e1 : z1 = .pointer (some ⟨R, 0, none⟩) := hΦ 1 (by decide)
    subst e1
    have e2 : z2 = .pointer (some ⟨R, 0, none⟩) := hΦ 2 (by decide)
    subst e2
    have e3 : z3 = .slice (some ⟨b, off, none⟩) n c := hΦ 3 (by decide)
    subst e3
    have e4 : z4 = .pointer (some ⟨R, 0, none⟩) := hΦ 4 (by decide)
    subst e4
    have e5 : z5 = .pointer (some ⟨R, 0, none⟩) := hΦ 5 (by decide)
    subst e5
    have e6 : z6 = .pointer (some ⟨R, 1, none⟩) := hΦ 6 (by decide)
    subst e6
    have e7 : z7 = .int .i64 (k : Int) := hΦ 7 (by decide)
    subst e7
    have e8 : z8 = .pointer (some ⟨b, off + k * 4, none⟩) := hΦ 8 (by decide)
    subst e8
    have e9 : z9 = .agg #[.int .i64 (3), sV tx, .int .i64 tv, .int .i64 tp] := hΦ 9 (by decide)
    subst e9
    have p10 : ∃ g, z10 = .pointer (some ⟨g, 0, none⟩) ∧ w1.heap.size ≤ g ∧ w4.heap[g]? = some (.cells #[.int .i64 0, .string { data := #[] }, .int .i64 0, .int .i64 0] 36) := hΦ 10 (by decide)
    clear hΦ hvs
    simp only [putAll, Act.put, List.setIfInBounds_toArray, List.set_cons_succ, List.set_cons_zero]
    obtain ⟨g, rfl, hg1, hg2⟩ := p10
    have e0 := cell_of (i := 0) hg2 rfl
    have e1 := cell_of (i := 1) hg2 rfl
    have e2 := cell_of (i := 2) hg2 rfl
    have e3 := cell_of (i := 3) hg2 rfl
    have f0 : ∀ i, w4.frozen? ⟨g, i, none⟩ = false := fun i => free_of hg2
    have HG2 := Lib.hid hg2
    have HG1 := Lib.hid hg1
    have HG := Lib.hid hG
    clear hg1 hg2 hG
    go_upto_region 4 with fail
    obtain ⟨w5, hw5, hg5, hB5, hO5⟩ := put4 HG2.out rfl (.int .i64 (3)) (sV tx) (.int .i64 tv) (.int .i64 tp)
    rw [hw5]
    have HX5 := Lib.hid (show Ext w w5 from Below.trans (Below.trans HX1.out (HG.out.below.mono HX1.out.size)) (hB5 _ (Nat.le_trans HX1.out.size HG1.out)))
    have HBN := Lib.hid (show w.heap.size < g from Nat.lt_of_lt_of_le (lt_of_block HZ1.out) HG1.out)
    have hr5 : w5.heap[R]? = some (rdO (some ⟨b, off, none⟩) n c k) := (HX5.out.below.block _ HRl.out).trans HR0.out
    have HZ5 := Lib.hid (show w5.heap[w.heap.size]? = some (.cells #[.int .i64 0, .int .i64 0, .string { data := #[] }, .int .i64 0, .slice none 0 0] 25) from (hO5 _ (by have := HBN.out; omega)).trans ((HG.out.below.block _ (lt_of_block HZ1.out)).trans HZ1.out))
    have HG5 := Lib.hid hg5
    have HR5 := Lib.hid hr5
    have d0 : w5.cell? ⟨R, 0, none⟩ = some (.slice (some ⟨b, off, none⟩) n c) := cell_of hr5 rfl
    have d1 : w5.cell? ⟨R, 1, none⟩ = some (.int .i64 (k : Int)) := cell_of hr5 rfl
    have g0 : ∀ i, w5.frozen? ⟨R, i, none⟩ = false := fun i => free_of hr5
    clear hw5 hg5 hB5 hO5 hr5 e0 e1 e2 e3 f0 X0 X1 Y0 Y1 Y2 Y3 HG HG2
    go_upto_region 5 with fail
    obtain ⟨w6, hw6⟩ : ∃ W, w5.setCell ⟨R, 1, none⟩ (.int .i64 ((k : Int) + 1)) = W := ⟨_, rfl⟩
    rw [hw6]
    have HR6 := Lib.hid (show w6.heap[R]? = some (rdO (some ⟨b, off, none⟩) n c (k + 1)) from by
      have h := ((Turn.refl HR5.out).setCell (i := 1) (.int .i64 ((k : Int) + 1))).here
      rw [hw6] at h
      rw [h]; simp)
    have HO6 := Lib.hid (show Oth R w w6 from by rw [← hw6]; exact (Oth.of_ext HX5.out).trans (Oth.set R 1 _ w5))
    have HZ6 := Lib.hid (show w6.heap[w.heap.size]? = some (.cells #[.int .i64 0, .int .i64 0, .string { data := #[] }, .int .i64 0, .slice none 0 0] 25) from by rw [← hw6]; exact (Below.heap_setCell _ _ _ _ (by have := HRl.out; show w.heap.size ≠ R; omega)).trans HZ5.out)
    have hg6 : w6.heap[g]? = some (.cells #[.int .i64 (3), sV tx, .int .i64 tv, .int .i64 tp] tTk) := by rw [← hw6]; exact (Below.heap_setCell _ _ _ _ (by have := HRl.out; have := HBN.out; show g ≠ R; omega)).trans HG5.out
    have HG6 := Lib.hid hg6
    have HL6 := Lib.hid (show Below w0.heap.size w0 w6 from Below.trans HB0.out (HO6.out.below HE.out.low HB0.out.size))
    have e0 := cell_of (i := 0) hg6 rfl
    have e1 := cell_of (i := 1) hg6 rfl
    have e2 := cell_of (i := 2) hg6 rfl
    have e3 := cell_of (i := 3) hg6 rfl
    clear hw6 d0 d1 g0 HR5 HG5 HZ5 HX5 hg6 HZ1 HX1
    have d1 : w6.cell? ⟨R, 1, none⟩ = some (.int .i64 ((k : Int) + 1)) := cell_of HR6.out (by simp)
    go_wp2
    exact ⟨rfl, by simp, HO6.out⟩

set_option maxRecDepth 100000 in
set_option maxHeartbeats 8000000 in
theorem operand_bad0 {w0 : World} {R : Nat} {p : Option Addr} {c : Nat} {l : List Tk} (hE : RdE w0 R p c l) (k : Nat) (hk : k < l.length) (h1 : l[k].kind ≠ 1) (h2 : l[k].kind ≠ 2) (h3 : l[k].kind ≠ 3) (w : World) (hb : Below w0.heap.size w0 w) (hrd : w.heap[R]? = some (rdO p l.length c k)) :
    Calls Tryz.prog 91 #[.pointer (some ⟨R, 0, none⟩)] w (Got R p l.length c w (.bad k)) := by
  obtain ⟨b, off, rfl, q0, q1, q2, q3⟩ := hE.tks k hk
  have HE := Lib.hid hE
  have HB0 := Lib.hid hb
  have HR0 := Lib.hid hrd
  have HRl := Lib.hid (lt_of_block hrd)
  have HRb := Lib.hid (show b ≠ R from fun e => by have h1 := cell_lt' q0; have h2 := hE.low; simp only at h1; omega)
  have d0 : w.cell? ⟨R, 0, none⟩ = some (.slice (some ⟨b, off, none⟩) l.length c) := cell_of hrd rfl
  have d1 : w.cell? ⟨R, 1, none⟩ = some (.int .i64 (k : Int)) := cell_of hrd rfl
  have c0 := (hb.cell (p := ⟨b, off + k * 4, none⟩) (cell_lt' q0)).trans q0
  have c1 := (hb.cell (p := ⟨b, off + k * 4 + 1, none⟩) (cell_lt' q1)).trans q1
  have c2 := (hb.cell (p := ⟨b, off + k * 4 + 2, none⟩) (cell_lt' q2)).trans q2
  have c3 := (hb.cell (p := ⟨b, off + k * 4 + 3, none⟩) (cell_lt' q3)).trans q3
  have hn9 := hE.len
  have hcap := hE.cap
  clear q0 q1 q2 q3
  have htx : (l[k]).text.length ≤ 140737488351232 := hE.txt _ (List.getElem_mem hk)
  generalize l[k] = t at *
  obtain ⟨tk, tx, tv, tp⟩ := t
  dsimp only at *

  obtain ⟨n, hn⟩ : ∃ n, l.length = n := ⟨_, rfl⟩
  rw [hn] at hk hrd HR0 hn9 hcap d0 
  rw [hn]
  have HN := Lib.hid hn
  clear hn
  have X0 := Lib.hid d0
  have X1 := Lib.hid d1
  have Y0 := Lib.hid c0
  have Y1 := Lib.hid c1
  have Y2 := Lib.hid c2
  have Y3 := Lib.hid c3
  clear c0 c1 c2 c3 hE hb hrd
  have g1 : (tk == 1) = false := by simpa using h1
  have g2 : (tk == 2) = false := by simpa using h2
  have g3 : (tk == 3) = false := by simpa using h3
  have hkn : (k : Int) < (n : Int) := by omega
  have hkc : k < n := hk
  have hk0 : (0 : Int) ≤ (k : Int) := by omega
  have hge : ¬ (n : Int) ≤ (k : Int) := by omega
  have hge2 : ¬ n ≤ k := by omega
  have hRl := HRl.out
  go_enter Tryz.func91, Tryz.ntmps91
  go_wp2
  go_quiet (fail)
  go_wp2
  obtain ⟨w1, hw1⟩ : ∃ W, W = World.drewN (w.alloc (.cells #[.int .i64 0, .int .i64 0, .string { data := #[] }, .int .i64 0, .slice none 0 0] 25)) nq := ⟨_, rfl⟩
  have HX1 := Lib.hid (show Ext w w1 by rw [hw1]; exact Ext.drewN' (ext_alloc w _))
  have HZ1 := Lib.hid (show w1.heap[w.heap.size]? = some (.cells #[.int .i64 0, .int .i64 0, .string { data := #[] }, .int .i64 0, .slice none 0 0] 25) by rw [hw1]; exact alloc_here w _)
  change Code.wp _ _ _ _ (World.drewN (w.alloc (.cells #[.int .i64 0, .int .i64 0, .string { data := #[] }, .int .i64 0, .slice none 0 0] 25)) nq)
  rw [← hw1]
  clear hw1 d0 d1
  replace X0 := Lib.hid (Ext.cellE X0.out HX1.out)
  replace X1 := Lib.hid (Ext.cellE X1.out HX1.out)
  replace Y0 := Lib.hid (Ext.cellE Y0.out HX1.out)
  replace Y1 := Lib.hid (Ext.cellE Y1.out HX1.out)
  replace Y2 := Lib.hid (Ext.cellE Y2.out HX1.out)
  replace Y3 := Lib.hid (Ext.cellE Y3.out HX1.out)
  refine wp_region_tail (l1 := [_, _, _, _, _, _, _, _, _, _, _]) (l2 := [_]) (by kernel_rfl) Ext (fun W => Below.refl _ W) (fun W => show Below W.heap.size W { W with drawn := W.drawn + 1 } from ⟨rfl, rfl, rfl, Nat.le_refl _, fun _ _ => rfl⟩) Ext.trans
    (fun i s W => match i with
      | 0 => s 0 = .pointer (some ⟨R, 0, none⟩)
      | 1 => s 1 = .pointer (some ⟨R, 0, none⟩)
      | 2 => s 2 = .pointer (some ⟨R, 0, none⟩)
      | 3 => s 3 = .slice (some ⟨b, off, none⟩) n c
      | 4 => s 4 = .pointer (some ⟨R, 0, none⟩)
      | 5 => s 5 = .pointer (some ⟨R, 0, none⟩)
      | 6 => s 6 = .pointer (some ⟨R, 1, none⟩)
      | 7 => s 7 = .int .i64 (k : Int)
      | 8 => s 8 = .pointer (some ⟨b, off + k * 4, none⟩)
      | 9 => s 9 = .agg #[.int .i64 tk, sV tx, .int .i64 tv, .int .i64 tp]
      | 10 => ∃ g, s 10 = .pointer (some ⟨g, 0, none⟩) ∧ w1.heap.size ≤ g ∧ W.heap[g]? = some (.cells #[.int .i64 0, .string { data := #[] }, .int .i64 0, .int .i64 0] 36)
      | _ => True)
    (fun i => [i])
    (by
      intro i s s' W W' h hs hE
      have hs := hs i (by simp)
      match i, h, hs with
      | 0, h, hs => exact hs.trans h
      | 1, h, hs => exact hs.trans h
      | 2, h, hs => exact hs.trans h
      | 3, h, hs => exact hs.trans h
      | 4, h, hs => exact hs.trans h
      | 5, h, hs => exact hs.trans h
      | 6, h, hs => exact hs.trans h
      | 7, h, hs => exact hs.trans h
      | 8, h, hs => exact hs.trans h
      | 9, h, hs => exact hs.trans h
      | 10, ⟨g, h1, h2, h3⟩, hs => exact ⟨g, hs.trans h1, h2, (hE.below.block _ (lt_of_block h3)).trans h3⟩
      | i + 11, h, hs => exact trivial)
    (by kernel_rfl) (by kernel_rfl) (by kernel_rfl) 128 rfl (by kernel_rfl) (by kernel_rfl) ?_ ?_
  · intro i op ho a' W hA
    have x0 := Ext.cellE X0.out hA.rel
    have x1 := Ext.cellE X1.out hA.rel
    have y0 := Ext.cellE Y0.out hA.rel
    have y1 := Ext.cellE Y1.out hA.rel
    have y2 := Ext.cellE Y2.out hA.rel
    have y3 := Ext.cellE Y3.out hA.rel
    match i, ho with
    | 0, ho =>
      obtain rfl := Option.some.inj ho
      have e1 : a'.eval (.tmp 0) = .pointer (some ⟨R, 0, none⟩) := hA.keep 0 (by kernel_rfl)
      refine GoesG.value (.pointer (some ⟨R, 0, none⟩)) rfl ?_ (Below.refl _ _) (fun s h1 h2 => h1 rfl)
      simp only [execOp, e1]
      simp [go_sem, x0, x1, y0, y1, y2, y3, hkc, hkn, hk0]
    | 1, ho =>
      obtain rfl := Option.some.inj ho
      have e1 : a'.eval (.tmp 21) = .pointer (some ⟨R, 0, none⟩) := (sv_dst (l := _) rfl).symm.trans (hA.new 0 (by decide) (by kernel_rfl))
      refine GoesG.value (.pointer (some ⟨R, 0, none⟩)) rfl ?_ (Below.refl _ _) (fun s h1 h2 => h1 rfl)
      simp only [execOp, e1]
      simp [go_sem, x0, x1, y0, y1, y2, y3, hkc, hkn, hk0]
    | 2, ho =>
      obtain rfl := Option.some.inj ho
      have e1 : a'.eval (.tmp 22) = .pointer (some ⟨R, 0, none⟩) := (sv_dst (l := _) rfl).symm.trans (hA.new 1 (by decide) (by kernel_rfl))
      refine GoesG.value (.pointer (some ⟨R, 0, none⟩)) rfl ?_ (Below.refl _ _) (fun s h1 h2 => h1 rfl)
      simp only [execOp, e1]
      simp [go_sem, x0, x1, y0, y1, y2, y3, hkc, hkn, hk0]
    | 3, ho =>
      obtain rfl := Option.some.inj ho
      have e1 : a'.eval (.tmp 23) = .pointer (some ⟨R, 0, none⟩) := (sv_dst (l := _) rfl).symm.trans (hA.new 2 (by decide) (by kernel_rfl))
      refine GoesG.value (.slice (some ⟨b, off, none⟩) n c) rfl ?_ (Below.refl _ _) (fun s h1 h2 => h1 rfl)
      simp only [execOp, e1]
      simp [go_sem, x0, x1, y0, y1, y2, y3, hkc, hkn, hk0]
    | 4, ho =>
      obtain rfl := Option.some.inj ho
      have e1 : a'.eval (.tmp 0) = .pointer (some ⟨R, 0, none⟩) := hA.keep 0 (by kernel_rfl)
      refine GoesG.value (.pointer (some ⟨R, 0, none⟩)) rfl ?_ (Below.refl _ _) (fun s h1 h2 => h1 rfl)
      simp only [execOp, e1]
      simp [go_sem, x0, x1, y0, y1, y2, y3, hkc, hkn, hk0]
    | 5, ho =>
      obtain rfl := Option.some.inj ho
      have e1 : a'.eval (.tmp 25) = .pointer (some ⟨R, 0, none⟩) := (sv_dst (l := _) rfl).symm.trans (hA.new 4 (by decide) (by kernel_rfl))
      refine GoesG.value (.pointer (some ⟨R, 0, none⟩)) rfl ?_ (Below.refl _ _) (fun s h1 h2 => h1 rfl)
      simp only [execOp, e1]
      simp [go_sem, x0, x1, y0, y1, y2, y3, hkc, hkn, hk0]
    | 6, ho =>
      obtain rfl := Option.some.inj ho
      have e1 : a'.eval (.tmp 26) = .pointer (some ⟨R, 0, none⟩) := (sv_dst (l := _) rfl).symm.trans (hA.new 5 (by decide) (by kernel_rfl))
      refine GoesG.value (.pointer (some ⟨R, 1, none⟩)) rfl ?_ (Below.refl _ _) (fun s h1 h2 => h1 rfl)
      simp only [execOp, e1]
      simp [go_sem, x0, x1, y0, y1, y2, y3, hkc, hkn, hk0]
    | 7, ho =>
      obtain rfl := Option.some.inj ho
      have e1 : a'.eval (.tmp 27) = .pointer (some ⟨R, 1, none⟩) := (sv_dst (l := _) rfl).symm.trans (hA.new 6 (by decide) (by kernel_rfl))
      refine GoesG.value (.int .i64 (k : Int)) rfl ?_ (Below.refl _ _) (fun s h1 h2 => h1 rfl)
      simp only [execOp, e1]
      simp [go_sem, x0, x1, y0, y1, y2, y3, hkc, hkn, hk0]
    | 8, ho =>
      obtain rfl := Option.some.inj ho
      have e1 : a'.eval (.tmp 24) = .slice (some ⟨b, off, none⟩) n c := (sv_dst (l := _) rfl).symm.trans (hA.new 3 (by decide) (by kernel_rfl))
      have e2 : a'.eval (.tmp 28) = .int .i64 (k : Int) := (sv_dst (l := _) rfl).symm.trans (hA.new 7 (by decide) (by kernel_rfl))
      refine GoesG.value (.pointer (some ⟨b, off + k * 4, none⟩)) rfl ?_ (Below.refl _ _) (fun s h1 h2 => h1 rfl)
      simp only [execOp, e1, e2]
      simp [go_sem, x0, x1, y0, y1, y2, y3, hkc, hkn, hk0]
    | 9, ho =>
      obtain rfl := Option.some.inj ho
      have e1 : a'.eval (.tmp 29) = .pointer (some ⟨b, off + k * 4, none⟩) := (sv_dst (l := _) rfl).symm.trans (hA.new 8 (by decide) (by kernel_rfl))
      refine GoesG.value (.agg #[.int .i64 tk, sV tx, .int .i64 tv, .int .i64 tp]) rfl ?_ (Below.refl _ _) (fun s h1 h2 => h1 rfl)
      simp only [execOp, e1]
      simp [go_sem, x0, x1, y0, y1, y2, y3, hkc, hkn, hk0]
    | 10, ho =>
      obtain rfl := Option.some.inj ho
      refine GoesG.value (.pointer (some ⟨W.heap.size, 0, none⟩)) (W' := W.alloc (.cells #[.int .i64 0, .string { data := #[] }, .int .i64 0, .int .i64 0] 36)) rfl ?_ (ext_alloc _ _) (fun s h1 h2 => ⟨W.heap.size, h1 rfl, hA.rel.size, alloc_here _ _⟩)
      simp only [execOp]
      simp [go_sem, sB_nil]
    | i + 11, ho => cases ho
  · intro vs w4 hvs hG hΦ
    obtain ⟨z0, z1, z2, z3, z4, z5, z6, z7, z8, z9, z10, rfl⟩ : ∃ z0 z1 z2 z3 z4 z5 z6 z7 z8 z9 z10, vs = z0 :: z1 :: z2 :: z3 :: z4 :: z5 :: z6 :: z7 :: z8 :: z9 :: z10 :: [] := by
      match vs, hvs with
      | y0 :: y1 :: y2 :: y3 :: y4 :: y5 :: y6 :: y7 :: y8 :: y9 :: y10 :: [], _ => exact ⟨y0, y1, y2, y3, y4, y5, y6, y7, y8, y9, y10, rfl⟩
    have e0 : z0 = .pointer (some ⟨R, 0, none⟩) := hΦ 0 (by decide)
    subst e0
    have e1 : z1 = .pointer (some ⟨R, 0, none⟩) := hΦ 1 (by decide)
    subst e1
    have e2 : z2 = .pointer (some ⟨R, 0, none⟩) := hΦ 2 (by decide)
    subst e2
    have e3 : z3 = .slice (some ⟨b, off, none⟩) n c := hΦ 3 (by decide)
    subst e3
    have e4 : z4 = .pointer (some ⟨R, 0, none⟩) := hΦ 4 (by decide)
    subst e4
    have e5 : z5 = .pointer (some ⟨R, 0, none⟩) := hΦ 5 (by decide)
    subst e5
    have e6 : z6 = .pointer (some ⟨R, 1, none⟩) := hΦ 6 (by decide)
    subst e6
    have e7 : z7 = .int .i64 (k : Int) := hΦ 7 (by decide)
    subst e7
    have e8 : z8 = .pointer (some ⟨b, off + k * 4, none⟩) := hΦ 8 (by decide)
    subst e8
    have e9 : z9 = .agg #[.int .i64 tk, sV tx, .int .i64 tv, .int .i64 tp] := hΦ 9 (by decide)
    subst e9
    have p10 : ∃ g, z10 = .pointer (some ⟨g, 0, none⟩) ∧ w1.heap.size ≤ g ∧ w4.heap[g]? = some (.cells #[.int .i64 0, .string { data := #[] }, .int .i64 0, .int .i64 0] 36) := hΦ 10 (by decide)
    clear hΦ hvs
    simp only [putAll, Act.put, List.setIfInBounds_toArray, List.set_cons_succ, List.set_cons_zero]
    obtain ⟨g, rfl, hg1, hg2⟩ := p10
    have e0 := cell_of (i := 0) hg2 rfl
    have e1 := cell_of (i := 1) hg2 rfl
    have e2 := cell_of (i := 2) hg2 rfl
    have e3 := cell_of (i := 3) hg2 rfl
    have f0 : ∀ i, w4.frozen? ⟨g, i, none⟩ = false := fun i => free_of hg2
    have HG2 := Lib.hid hg2
    have HG1 := Lib.hid hg1
    have HG := Lib.hid hG
    clear hg1 hg2 hG
    go_upto_region 4 with fail
    obtain ⟨w5, hw5, hg5, hB5, hO5⟩ := put4 HG2.out rfl (.int .i64 tk) (sV tx) (.int .i64 tv) (.int .i64 tp)
    rw [hw5]
    have HX5 := Lib.hid (show Ext w w5 from Below.trans (Below.trans HX1.out (HG.out.below.mono HX1.out.size)) (hB5 _ (Nat.le_trans HX1.out.size HG1.out)))
    have HBN := Lib.hid (show w.heap.size < g from Nat.lt_of_lt_of_le (lt_of_block HZ1.out) HG1.out)
    have hr5 : w5.heap[R]? = some (rdO (some ⟨b, off, none⟩) n c k) := (HX5.out.below.block _ HRl.out).trans HR0.out
    have HZ5 := Lib.hid (show w5.heap[w.heap.size]? = some (.cells #[.int .i64 0, .int .i64 0, .string { data := #[] }, .int .i64 0, .slice none 0 0] 25) from (hO5 _ (by have := HBN.out; omega)).trans ((HG.out.below.block _ (lt_of_block HZ1.out)).trans HZ1.out))
    have HG5 := Lib.hid hg5
    have HR5 := Lib.hid hr5
    have d0 : w5.cell? ⟨R, 0, none⟩ = some (.slice (some ⟨b, off, none⟩) n c) := cell_of hr5 rfl
    have d1 : w5.cell? ⟨R, 1, none⟩ = some (.int .i64 (k : Int)) := cell_of hr5 rfl
    have g0 : ∀ i, w5.frozen? ⟨R, i, none⟩ = false := fun i => free_of hr5
    clear hw5 hg5 hB5 hO5 hr5 e0 e1 e2 e3 f0 X0 X1 Y0 Y1 Y2 Y3 HG HG2
    go_upto_region 5 with fail
    obtain ⟨w6, hw6⟩ : ∃ W, w5.setCell ⟨R, 1, none⟩ (.int .i64 ((k : Int) + 1)) = W := ⟨_, rfl⟩
    rw [hw6]
    have HR6 := Lib.hid (show w6.heap[R]? = some (rdO (some ⟨b, off, none⟩) n c (k + 1)) from by
      have h := ((Turn.refl HR5.out).setCell (i := 1) (.int .i64 ((k : Int) + 1))).here
      rw [hw6] at h
      rw [h]; simp)
    have HO6 := Lib.hid (show Oth R w w6 from by rw [← hw6]; exact (Oth.of_ext HX5.out).trans (Oth.set R 1 _ w5))
    have HZ6 := Lib.hid (show w6.heap[w.heap.size]? = some (.cells #[.int .i64 0, .int .i64 0, .string { data := #[] }, .int .i64 0, .slice none 0 0] 25) from by rw [← hw6]; exact (Below.heap_setCell _ _ _ _ (by have := HRl.out; show w.heap.size ≠ R; omega)).trans HZ5.out)
    have hg6 : w6.heap[g]? = some (.cells #[.int .i64 tk, sV tx, .int .i64 tv, .int .i64 tp] tTk) := by rw [← hw6]; exact (Below.heap_setCell _ _ _ _ (by have := HRl.out; have := HBN.out; show g ≠ R; omega)).trans HG5.out
    have HG6 := Lib.hid hg6
    have HL6 := Lib.hid (show Below w0.heap.size w0 w6 from Below.trans HB0.out (HO6.out.below HE.out.low HB0.out.size))
    have e0 := cell_of (i := 0) hg6 rfl
    have e1 := cell_of (i := 1) hg6 rfl
    have e2 := cell_of (i := 2) hg6 rfl
    have e3 := cell_of (i := 3) hg6 rfl
    clear hw6 d0 d1 g0 HR5 HG5 HZ5 HX5 hg6 HZ1 HX1
    have d1 : w6.cell? ⟨R, 1, none⟩ = some (.int .i64 ((k : Int) + 1)) := cell_of HR6.out (by simp)
    go_wp2
    exact ⟨rfl, by simp, HO6.out⟩

theorem operand_step {w0 : World} {R : Nat} {p : Option Addr} {c : Nat} {l : List Tk} (hE : RdE w0 R p c l) (k : Nat) (hk : k ≤ l.length) (IO : k < l.length → OpC w0 R p c l (k + 1)) (IB : k < l.length → BiC w0 R p c l 1 (k + 1)) : OpC w0 R p c l k := by
  intro w r hb hrd hR
  cases hR with
  | num h h1 h2 => exact operand_num hE k h h1 h2 w hb hrd
  | nam h h1 h2 => exact operand_nam hE k h h1 h2 w hb hrd
  | neg h h1 => obtain ⟨hl, h2, h3⟩ := sgB_some h; exact operand_neg hE k hl h2 h3 (IO hl) _ _ h1 w hb hrd
  | negB h h1 => obtain ⟨hl, h2, h3⟩ := sgB_some h; exact operand_negB hE k hl h2 h3 (IO hl) _ h1 w hb hrd
  | no h h1 => obtain ⟨hl, h2, h3⟩ := sgB_some h; exact operand_no hE k hl h2 h3 (IO hl) _ _ h1 w hb hrd
  | noB h h1 => obtain ⟨hl, h2, h3⟩ := sgB_some h; exact operand_noB hE k hl h2 h3 (IO hl) _ h1 w hb hrd
  | par h h1 h4 => obtain ⟨hl, h2, h3⟩ := sgB_some h; exact operand_par hE k hl h2 h3 (IB hl) _ _ h1 h4 w hb hrd
  | parN h h1 h4 => obtain ⟨hl, h2, h3⟩ := sgB_some h; exact operand_parN hE k hl h2 h3 (IB hl) _ _ h1 h4 w hb hrd
  | parB h h1 => obtain ⟨hl, h2, h3⟩ := sgB_some h; exact operand_parB hE k hl h2 h3 (IB hl) _ h1 w hb hrd
  | out h =>
    obtain rfl : k = l.length := by omega
    exact operand_out hE w hb hrd
  | bad h h1 h2 h3 h4 h5 =>
    rw [sgB_at h] at h3 h4 h5
    by_cases g2 : l[k].kind = 2
    · exact operand_bad2 hE k h g2 (h1 g2) w hb hrd
    · by_cases g1 : l[k].kind = 1
      · have hn := h2 g1
        unfold namOk at hn
        cases hkw : kwB l[k].text with
        | true => exact operand_bad1k hE k h g1 hkw w hb hrd
        | false => exact operand_bad1n hE k h g1 hkw (by simpa [hkw] using hn) w hb hrd
      · by_cases g3 : l[k].kind = 3
        · exact operand_bad3 hE k h g3 (by simpa [g3] using h3) (by simpa [g3] using h4) (by simpa [g3] using h5) w hb hrd
        · exact operand_bad0 hE k h g1 g2 g3 w hb hrd

end Go.Proofs.YtmokejjndkibhaaGreatDoor

